/-
  Functions of the program, as the calculus has them.
-/
import Derived.Test.YtkdjbfjohbiemaaBd496af9
set_option linter.unusedSimpArgs false
set_option linter.unusedVariables false
namespace Go.Proofs.Ytkdjbfjohbiemaa
open Go Go.Sim
/- shardqueue/shardqueuelaw10.DirectoryEnds -/
def l_law10_DirectoryEnds_0 : ACode :=
 (.seq (.seq (.ops [] [⟨some 20, .mv (.t 6), none⟩, ⟨some 21, .bin .lss (.t 20) (.c (.d (.int .i64 6))), none⟩] [20])
 (.cond (.t 21) .skip (.exit 0 [3, 4])))
 (.seq (.block 1 (.seq (.ops [] [⟨some 25, .ld true 3 (.t 3), none⟩, ⟨some 26, .ld true 4 (.t 5), none⟩, ⟨some 27, .call N_directory_Apply [] [.t 25, .t 26], none⟩, ⟨some 24, .mv (.t 27), none⟩, ⟨some 28, .ext (.t 24) 0, none⟩, ⟨some 29, .ext (.t 24) 1, none⟩, ⟨some 7, .alloc (.agg [.d (.int .i64 0), .xsl [], .xsl []]), none⟩, ⟨none, .st 3 (.t 7) (.t 28), none⟩, ⟨some 8, .mv (.t 29), none⟩] [21, 24, 25, 26, 27, 28, 29])
 (.seq (.ops [] [⟨some 30, .mv (.t 6), none⟩, ⟨some 31, .mv (.t 0), none⟩, ⟨some 32, .bin .rem (.t 31) (.c (.d (.int .u8 4))), none⟩, ⟨some 33, .cvi .i64 (.t 32), none⟩, ⟨some 34, .bin .lss (.t 30) (.t 33), none⟩, ⟨some 9, .mv (.t 34), none⟩] [30, 31, 32, 33, 34])
 (.seq (.seq (.ops [] [⟨some 35, .mv (.t 8), none⟩, ⟨some 36, .bin .eql (.t 35) (.c (.d (.int .i64 0))), none⟩, ⟨some 37, .mv (.t 9), none⟩, ⟨some 38, .eqb true (.t 36) (.t 37), none⟩, ⟨some 39, .mv (.t 38), none⟩, ⟨some 40, .mv (.t 9), some (39, false)⟩, ⟨some 41, .un .not (.t 40), some (39, false)⟩, ⟨some 42, .mv (.t 41), some (39, false)⟩, ⟨some 43, .mv (.t 8), some (42, true)⟩, ⟨some 44, .bin .neq (.t 43) (.c (.d (.int .i64 6))), some (42, true)⟩, ⟨some 45, .pick (.t 42) (.t 44) (.c (.d (.bool false))), some (39, false)⟩, ⟨some 46, .pick (.t 39) (.c (.d (.bool true))) (.t 45), none⟩, ⟨some 47, .mv (.t 46), none⟩, ⟨some 48, .mv (.t 9), some (47, false)⟩, ⟨some 49, .mv (.t 48), some (47, false)⟩, ⟨some 50, .fad false 0 1 (.t 7), some (49, true)⟩, ⟨some 51, .ld false 1 (.t 50), some (49, true)⟩, ⟨some 52, .fad false 0 1 (.t 3), some (49, true)⟩, ⟨some 53, .ld false 1 (.t 52), some (49, true)⟩, ⟨some 54, .bin .add (.t 53) (.c (.d (.int .i64 1))), some (49, true)⟩, ⟨some 55, .bin .neq (.t 51) (.t 54), some (49, true)⟩, ⟨some 56, .pick (.t 49) (.t 55) (.c (.d (.bool false))), some (47, false)⟩, ⟨some 57, .pick (.t 47) (.c (.d (.bool true))) (.t 56), none⟩] [8, 35, 36, 37, 38, 39, 40, 41, 42, 43, 44, 45, 46, 47, 48, 49, 50, 51, 52, 53, 54, 55, 56])
 (.cond (.t 57) (.seq (.ops [] [⟨some 2, .mv (.c (.d (.bool false))), none⟩] [0, 3, 4, 5, 6, 7, 9, 57])
 (.ret [2])) .skip))
 (.seq (.seq (.ops [] [⟨some 58, .mv (.t 9), none⟩] [9, 57])
 (.cond (.t 58) (.ops [] [⟨some 59, .ld true 3 (.t 7), none⟩, ⟨none, .st 3 (.t 3) (.t 59), none⟩] [7, 58, 59]) .skip))
 (.seq (.ops [] [⟨some 60, .fad false 0 1 (.t 5), none⟩, ⟨some 61, .ld false 1 (.t 60), none⟩, ⟨some 62, .bin .eql (.t 61) (.c (.d (.int .i64 1))), none⟩] [7, 58, 60, 61])
 (.cond (.t 62) (.ops [] [⟨some 63, .build [.d (.int .i64 0), .d (.int .i64 0), .d (.int .i64 0), .d (.int .i64 0)] [(0, (1, .c (.d (.int .i64 2)))), (1, (1, .c (.d (.int .i64 1)))), (2, (1, .c (.d (.int .i64 0))))], none⟩, ⟨none, .st 4 (.t 5) (.t 63), none⟩] [62, 63]) (.ops [] [⟨some 64, .build [.d (.int .i64 0), .d (.int .i64 0), .d (.int .i64 0), .d (.int .i64 0)] [(0, (1, .c (.d (.int .i64 1)))), (1, (1, .c (.d (.int .i64 0)))), (2, (1, .c (.d (.int .i64 1)))), (3, (1, .c (.d (.int .i64 100))))], none⟩, ⟨none, .st 4 (.t 5) (.t 64), none⟩] [62, 64]))))))))
 (.ops [] [⟨some 22, .mv (.t 6), none⟩, ⟨some 23, .bin .add (.t 22) (.c (.d (.int .i64 1))), none⟩, ⟨some 6, .mv (.t 23), none⟩] [22, 23])))
def c_law10_DirectoryEnds : ACode :=
 (.seq (.ops [] [⟨some 2, .mv (.c (.d (.bool false))), none⟩] [2])
 (.seq (.ops [] [⟨some 11, .call N_directory_New [] [.c (.d (.int .i64 2)), .c (.d (.int .i64 1))], none⟩, ⟨some 10, .mv (.t 11), none⟩, ⟨some 12, .ext (.t 10) 0, none⟩, ⟨some 13, .ext (.t 10) 1, none⟩, ⟨some 3, .alloc (.agg [.d (.int .i64 0), .xsl [], .xsl []]), none⟩, ⟨none, .st 3 (.t 3) (.t 12), none⟩, ⟨some 4, .mv (.t 13), none⟩] [10, 11, 12, 13])
 (.seq (.ops [] [⟨some 14, .mv (.t 0), none⟩, ⟨some 15, .bin .rem (.t 14) (.c (.d (.int .u8 4))), none⟩, ⟨some 16, .cvi .i64 (.t 15), none⟩, ⟨some 17, .bin .sub (.c (.d (.int .i64 1099511627776))) (.t 16), none⟩, ⟨some 18, .fad false 0 1 (.t 3), none⟩, ⟨none, .st 1 (.t 18) (.t 17), none⟩] [14, 15, 16, 17, 18])
 (.seq (.ops [] [⟨some 19, .build [.d (.int .i64 0), .d (.int .i64 0), .d (.int .i64 0), .d (.int .i64 0)] [(0, (1, .c (.d (.int .i64 1)))), (1, (1, .c (.d (.int .i64 0)))), (2, (1, .c (.d (.int .i64 1)))), (3, (1, .c (.d (.int .i64 100))))], none⟩, ⟨some 5, .alloc (.d (.agg [.int .i64 0, .int .i64 0, .int .i64 0, .int .i64 0])), none⟩, ⟨none, .st 4 (.t 5) (.t 19), none⟩] [19])
 (.seq (.seq (.ops [] [⟨some 6, .mv (.c (.d (.int .i64 0))), none⟩] [])
 (.block 0 (.loop [] l_law10_DirectoryEnds_0)))
 (.seq (.ops [] [⟨some 65, .mv (.t 4), none⟩, ⟨some 66, .bin .eql (.t 65) (.c (.d (.int .i64 0))), none⟩, ⟨some 67, .mv (.t 66), none⟩, ⟨some 68, .fad false 0 1 (.t 3), some (67, true)⟩, ⟨some 69, .ld false 1 (.t 68), some (67, true)⟩, ⟨some 70, .bin .eql (.t 69) (.c (.d (.int .i64 1099511627776))), some (67, true)⟩, ⟨some 71, .pick (.t 67) (.t 70) (.c (.d (.bool false))), none⟩, ⟨some 72, .mv (.t 71), none⟩, ⟨some 73, .call N_law10_awake [] [], some (72, true)⟩, ⟨some 74, .pick (.t 72) (.t 73) (.c (.d (.bool false))), none⟩, ⟨some 2, .mv (.t 74), none⟩] [0, 3, 4, 5, 6, 21, 65, 66, 67, 68, 69, 70, 71, 72, 73, 74])
 (.ret [2])))))))
def r_law10_DirectoryEnds : List ARes := [.t 2]
def fn_law10_DirectoryEnds : AFn := .code c_law10_DirectoryEnds r_law10_DirectoryEnds 75 true
/- shardqueue/directory.New -/
def l_directory_New_0 : ACode :=
 (.seq (.ops [] [⟨some 23, .bin .lss (.t 22) (.t 21), none⟩] [])
 (.seq (.cond (.t 23) .skip (.exit 0 [0, 4, 6]))
 (.seq (.block 1 (.seq (.ops [] [⟨some 24, .mv (.t 22), none⟩, ⟨some 7, .mv (.t 24), none⟩] [23, 24])
 (.draw [] [⟨some 25, .fad false 1 1 (.t 6), none⟩, ⟨some 26, .ld false 1 (.t 25), none⟩, ⟨some 27, .mv (.t 7), none⟩, ⟨some 28, .bin .mul (.t 27) (.c (.d (.int .i64 65536))), none⟩, ⟨some 29, .mv (.t 1), none⟩, ⟨some 30, .bin .quo (.t 28) (.t 29), none⟩, ⟨some 31, .mv (.t 7), none⟩, ⟨some 32, .bin .add (.t 31) (.c (.d (.int .i64 1))), none⟩, ⟨some 33, .bin .mul (.t 32) (.c (.d (.int .i64 65536))), none⟩, ⟨some 34, .mv (.t 1), none⟩, ⟨some 35, .bin .quo (.t 33) (.t 34), none⟩, ⟨some 36, .bin .sub (.t 35) (.c (.d (.int .i64 1))), none⟩, ⟨some 37, .mv (.t 7), none⟩, ⟨some 38, .build [.d (.int .i64 0), .d (.int .i64 0), .d (.int .i64 0)] [(0, (1, .t 30)), (1, (1, .t 36)), (2, (1, .t 37))], none⟩, ⟨some 39, .bsl 1 3 (.d (.agg [.int .i64 0, .int .i64 0, .int .i64 0])) [(0, .t 38)], none⟩, ⟨some 40, .app 3 (.t 26) (.t 39), none⟩, ⟨some 41, .fad false 1 1 (.t 6), none⟩, ⟨none, .st 1 (.t 41) (.t 40), none⟩] [[], [], [0, 1], [0, 1], [0, 1, 2, 3], [0, 1], [0, 1, 2, 3, 4, 5], [0, 1, 2, 3, 4, 5], [0, 1, 2, 3, 4, 5], [0, 1, 2, 3, 4, 5, 6, 7, 8], [0, 1, 2, 3, 4, 5], [0, 1, 2, 3, 4, 5], [0, 1, 2, 3, 4, 5, 6, 7, 8, 9, 10, 11], [0, 1], [0, 1], [], [], []] [7, 25, 26, 27, 28, 29, 30, 31, 32, 33, 34, 35, 36, 37, 38, 39, 40, 41])))
 (.ops [4000040] [⟨some 42, .bin .add (.t 22) (.c (.d (.int .i64 1))), none⟩, ⟨some 22, .mv (.t 42), none⟩] [42]))))
def l_directory_New_1 : ACode :=
 (.seq (.ops [] [⟨some 45, .bin .lss (.t 44) (.t 43), none⟩] [])
 (.seq (.cond (.t 45) .skip (.exit 2 [4, 6]))
 (.seq (.block 3 (.ops [] [⟨some 46, .fad false 2 1 (.t 6), none⟩, ⟨some 47, .ld false 1 (.t 46), none⟩, ⟨some 48, .bsl 1 1 (.d (.int .i64 0)) [(0, .c (.d (.int .i64 (-1))))], none⟩, ⟨some 49, .app 1 (.t 47) (.t 48), none⟩, ⟨some 50, .fad false 2 1 (.t 6), none⟩, ⟨none, .st 1 (.t 50) (.t 49), none⟩] [45, 46, 47, 48, 49, 50]))
 (.ops [] [⟨some 51, .bin .add (.t 44) (.c (.d (.int .i64 1))), none⟩, ⟨some 44, .mv (.t 51), none⟩] [51]))))
def c_directory_New : ACode :=
 (.seq (.ops [] [⟨some 4, .alloc (.agg [.d (.int .i64 0), .xsl [], .xsl []]), none⟩, ⟨some 5, .mv (.c (.d (.int .i64 0))), none⟩] [5])
 (.seq (.seq (.ops [] [⟨some 8, .mv (.t 1), none⟩, ⟨some 9, .bin .lss (.t 8) (.c (.d (.int .i64 1))), none⟩, ⟨some 10, .mv (.t 9), none⟩, ⟨some 11, .mv (.t 1), some (10, false)⟩, ⟨some 12, .mv (.t 0), some (10, false)⟩, ⟨some 13, .bin .gtr (.t 11) (.t 12), some (10, false)⟩, ⟨some 14, .pick (.t 10) (.c (.d (.bool true))) (.t 13), none⟩, ⟨some 15, .mv (.t 14), none⟩, ⟨some 16, .mv (.t 0), some (15, false)⟩, ⟨some 17, .bin .gtr (.t 16) (.c (.d (.int .i64 6))), some (15, false)⟩, ⟨some 18, .pick (.t 15) (.c (.d (.bool true))) (.t 17), none⟩] [8, 9, 10, 11, 12, 13, 14, 15, 16, 17])
 (.cond (.t 18) (.seq (.ops [] [⟨some 19, .build [.d (.int .i64 0), .xsl [], .xsl []] [], none⟩, ⟨none, .st 3 (.t 4) (.t 19), none⟩, ⟨some 5, .mv (.c (.d (.int .i64 1))), none⟩] [0, 1, 18, 19])
 (.ret [4, 5])) .skip))
 (.seq (.ops [] [⟨some 20, .build [.d (.int .i64 0), .xsl [], .xsl []] [(0, (1, .c (.d (.int .i64 1))))], none⟩, ⟨some 6, .alloc (.agg [.d (.int .i64 0), .xsl [], .xsl []]), none⟩, ⟨none, .st 3 (.t 6) (.t 20), none⟩] [18, 20])
 (.seq (.seq (.ops [] [⟨some 21, .mv (.t 1), none⟩, ⟨some 22, .mv (.c (.d (.int .i64 0))), none⟩] [])
 (.block 0 (.loop [] l_directory_New_0)))
 (.seq (.seq (.ops [] [⟨some 43, .mv (.t 0), none⟩, ⟨some 44, .mv (.c (.d (.int .i64 0))), none⟩] [0, 1, 21, 22, 23])
 (.block 2 (.loop [] l_directory_New_1)))
 (.seq (.ops [] [⟨some 52, .ld true 3 (.t 6), none⟩, ⟨none, .st 3 (.t 4) (.t 52), none⟩, ⟨some 5, .mv (.c (.d (.int .i64 0))), none⟩] [6, 43, 44, 45, 52])
 (.ret [4, 5])))))))
def r_directory_New : List ARes := [.c 4 true 3, .t 5]
def fn_directory_New : AFn := .code c_directory_New r_directory_New 53 true
/- shardqueue/directory.Apply -/
def c_directory_Apply : ACode :=
 (.seq (.ops [] [⟨some 2, .box (.t 0), none⟩, ⟨some 3, .box (.t 1), none⟩, ⟨some 4, .alloc (.agg [.d (.int .i64 0), .xsl [], .xsl []]), none⟩, ⟨some 5, .mv (.c (.d (.int .i64 0))), none⟩] [0, 1, 5])
 (.seq (.seq (.ops [] [⟨some 8, .ld true 3 (.t 2), none⟩, ⟨some 9, .call N_directory_Validate [] [.t 8], none⟩, ⟨some 6, .mv (.t 9), none⟩] [8, 9])
 (.seq (.ops [] [⟨some 10, .mv (.t 6), none⟩, ⟨some 11, .bin .neq (.t 10) (.c (.d (.int .i64 0))), none⟩] [10])
 (.cond (.t 11) (.seq (.ops [] [⟨some 12, .build [.d (.int .i64 0), .xsl [], .xsl []] [], none⟩, ⟨some 13, .mv (.t 6), none⟩, ⟨none, .st 3 (.t 4) (.t 12), none⟩, ⟨some 5, .mv (.t 13), none⟩] [2, 3, 6, 11, 12, 13])
 (.ret [4, 5])) .skip)))
 (.seq (.ops [] [⟨some 14, .mkfn N_directory_Apply_1 [.t 2], none⟩, ⟨some 7, .mv (.t 14), none⟩] [6, 11, 14])
 (.seq (.block 0 (.seq (.ops [] [⟨some 16, .fad false 0 1 (.t 2), none⟩, ⟨some 17, .ld false 1 (.t 16), none⟩, ⟨some 18, .bin .eql (.t 17) (.c (.d (.int .i64 1099511627776))), none⟩, ⟨some 15, .mv (.t 18), none⟩] [16, 17, 18])
 (.cond (.t 15) (.seq (.ops [] [⟨some 19, .build [.d (.int .i64 0), .xsl [], .xsl []] [], none⟩, ⟨none, .st 3 (.t 4) (.t 19), none⟩, ⟨some 5, .mv (.c (.d (.int .i64 6))), none⟩] [2, 3, 7, 15, 19])
 (.ret [4, 5])) (.seq (.ops [] [⟨some 21, .fad false 0 1 (.t 3), none⟩, ⟨some 22, .ld false 1 (.t 21), none⟩, ⟨some 23, .bin .neq (.t 22) (.c (.d (.int .i64 1))), none⟩, ⟨some 24, .mv (.t 23), none⟩, ⟨some 25, .fad false 0 1 (.t 3), some (24, true)⟩, ⟨some 26, .ld false 1 (.t 25), some (24, true)⟩, ⟨some 27, .bin .neq (.t 26) (.c (.d (.int .i64 2))), some (24, true)⟩, ⟨some 28, .pick (.t 24) (.t 27) (.c (.d (.bool false))), none⟩, ⟨some 20, .mv (.t 28), none⟩] [15, 21, 22, 23, 24, 25, 26, 27, 28])
 (.cond (.t 20) (.seq (.ops [] [⟨some 29, .build [.d (.int .i64 0), .xsl [], .xsl []] [], none⟩, ⟨none, .st 3 (.t 4) (.t 29), none⟩, ⟨some 5, .mv (.c (.d (.int .i64 9))), none⟩] [2, 3, 7, 20, 29])
 (.ret [4, 5])) (.seq (.ops [] [⟨some 31, .mv (.t 7), none⟩, ⟨some 32, .fad false 1 1 (.t 3), none⟩, ⟨some 33, .ld false 1 (.t 32), none⟩, ⟨some 34, .callv (.t 31) [] [.t 33], none⟩, ⟨some 35, .un .not (.t 34), none⟩, ⟨some 36, .mv (.t 35), none⟩, ⟨some 37, .mv (.t 7), some (36, false)⟩, ⟨some 38, .fad false 2 1 (.t 3), some (36, false)⟩, ⟨some 39, .ld false 1 (.t 38), some (36, false)⟩, ⟨some 40, .callv (.t 37) [] [.t 39], some (36, false)⟩, ⟨some 41, .un .not (.t 40), some (36, false)⟩, ⟨some 42, .pick (.t 36) (.c (.d (.bool true))) (.t 41), none⟩, ⟨some 30, .mv (.t 42), none⟩] [7, 20, 31, 32, 33, 34, 35, 36, 37, 38, 39, 40, 41, 42])
 (.cond (.t 30) (.seq (.ops [] [⟨some 43, .build [.d (.int .i64 0), .xsl [], .xsl []] [], none⟩, ⟨none, .st 3 (.t 4) (.t 43), none⟩, ⟨some 5, .mv (.c (.d (.int .i64 4))), none⟩] [2, 3, 30, 43])
 (.ret [4, 5])) .skip)))))))
 (.seq (.draw [] [⟨some 44, .fad false 1 1 (.t 2), none⟩, ⟨some 45, .ld false 1 (.t 44), none⟩, ⟨some 46, .call N_slices_Clone_api_Span [] [.t 45], none⟩, ⟨some 47, .fad false 2 1 (.t 2), none⟩, ⟨some 48, .ld false 1 (.t 47), none⟩, ⟨some 49, .call N_slices_Clone_int [] [.t 48], none⟩, ⟨some 50, .fad false 1 1 (.t 2), none⟩, ⟨none, .st 1 (.t 50) (.t 46), none⟩, ⟨some 51, .fad false 2 1 (.t 2), none⟩, ⟨none, .st 1 (.t 51) (.t 49), none⟩] [[], [], [], [0, 1, 2], [0, 1, 2], [], [5], [], [], []] [30, 44, 45, 46, 47, 48, 49, 50, 51])
 (.seq (.ops [92, 98] [⟨some 52, .fad false 0 1 (.t 2), none⟩, ⟨some 53, .ld false 1 (.t 52), none⟩, ⟨some 54, .bin .add (.t 53) (.c (.d (.int .i64 1))), none⟩, ⟨some 55, .fad false 0 1 (.t 2), none⟩, ⟨none, .st 1 (.t 55) (.t 54), none⟩] [52, 53, 54, 55])
 (.seq (.seq (.ops [] [⟨some 56, .fad false 0 1 (.t 3), none⟩, ⟨some 57, .ld false 1 (.t 56), none⟩, ⟨some 58, .bin .eql (.t 57) (.c (.d (.int .i64 1))), none⟩] [56, 57])
 (.cond (.t 58) (.seq (.ops [] [⟨some 59, .ld true 3 (.t 2), none⟩, ⟨some 60, .ld true 4 (.t 3), none⟩, ⟨some 61, .call N_directory_split [true, false] [.t 59, .t 60], none⟩, ⟨some 62, .ext (.t 61) 0, none⟩, ⟨some 63, .ext (.t 61) 1, none⟩, ⟨none, .st 3 (.t 4) (.t 62), none⟩, ⟨some 5, .mv (.t 63), none⟩] [2, 3, 58, 59, 60, 61, 62, 63])
 (.ret [4, 5])) .skip))
 (.seq (.ops [] [⟨some 64, .ld true 3 (.t 2), none⟩, ⟨some 65, .ld true 4 (.t 3), none⟩, ⟨some 66, .call N_directory_merge [true, false] [.t 64, .t 65], none⟩, ⟨some 67, .ext (.t 66) 0, none⟩, ⟨some 68, .ext (.t 66) 1, none⟩, ⟨none, .st 3 (.t 4) (.t 67), none⟩, ⟨some 5, .mv (.t 68), none⟩] [2, 3, 58, 64, 65, 66, 67, 68])
 (.ret [4, 5])))))))))
def r_directory_Apply : List ARes := [.c 4 true 3, .t 5]
def fn_directory_Apply : AFn := .code c_directory_Apply r_directory_Apply 69 true
/- shardqueue/directory.Validate -/
def l_directory_Validate_0 : ACode :=
 (.seq (.ops [] [⟨some 40, .bin .lss (.t 39) (.t 38), none⟩] [])
 (.seq (.cond (.t 40) .skip (.exit 1 [1]))
 (.seq (.block 2 (.seq (.ops [] [⟨some 41, .mv (.t 39), none⟩, ⟨some 42, .iad 3 (.t 37) (.t 39), none⟩, ⟨some 43, .ld true 3 (.t 42), none⟩, ⟨some 5, .alloc (.d (.agg [.int .i64 0, .int .i64 0, .int .i64 0])), none⟩, ⟨some 4, .mv (.t 41), none⟩, ⟨none, .st 3 (.t 5) (.t 43), none⟩] [40, 41, 42, 43])
 (.seq (.ops [] [⟨some 44, .fad false 1 1 (.t 1), none⟩, ⟨some 45, .ld false 1 (.t 44), none⟩, ⟨some 46, .fad false 2 1 (.t 5), none⟩, ⟨some 47, .ld false 1 (.t 46), none⟩, ⟨some 48, .call N_directory_find [] [.t 45, .t 47], none⟩, ⟨some 49, .mv (.t 4), none⟩, ⟨some 50, .bin .neq (.t 48) (.t 49), none⟩] [4, 5, 44, 45, 46, 47, 48, 49])
 (.cond (.t 50) (.seq (.ops [] [⟨some 2, .mv (.c (.d (.int .i64 10))), none⟩] [1, 37, 38, 39, 50])
 (.ret [2])) .skip))))
 (.ops [] [⟨some 51, .bin .add (.t 39) (.c (.d (.int .i64 1))), none⟩, ⟨some 39, .mv (.t 51), none⟩] [50, 51]))))
def c_directory_Validate : ACode :=
 (.seq (.ops [] [⟨some 1, .box (.t 0), none⟩, ⟨some 2, .mv (.c (.d (.int .i64 0))), none⟩] [0, 2])
 (.seq (.ops [] [⟨some 6, .fad false 2 1 (.t 1), none⟩, ⟨some 7, .ld false 1 (.t 6), none⟩, ⟨some 8, .len (.t 7), none⟩, ⟨some 3, .alloc (.d (.int .i64 0)), none⟩, ⟨none, .st 1 (.t 3) (.t 8), none⟩] [6, 7, 8])
 (.seq (.block 0 (.seq (.ops [] [⟨some 10, .fad false 0 1 (.t 1), none⟩, ⟨some 11, .ld false 1 (.t 10), none⟩, ⟨some 12, .bin .lss (.t 11) (.c (.d (.int .i64 1))), none⟩, ⟨some 13, .mv (.t 12), none⟩, ⟨some 14, .fad false 0 1 (.t 1), some (13, false)⟩, ⟨some 15, .ld false 1 (.t 14), some (13, false)⟩, ⟨some 16, .bin .gtr (.t 15) (.c (.d (.int .i64 1099511627776))), some (13, false)⟩, ⟨some 17, .pick (.t 13) (.c (.d (.bool true))) (.t 16), none⟩, ⟨some 18, .mv (.t 17), none⟩, ⟨some 19, .ld false 1 (.t 3), some (18, false)⟩, ⟨some 20, .bin .lss (.t 19) (.c (.d (.int .i64 1))), some (18, false)⟩, ⟨some 21, .pick (.t 18) (.c (.d (.bool true))) (.t 20), none⟩, ⟨some 22, .mv (.t 21), none⟩, ⟨some 23, .ld false 1 (.t 3), some (22, false)⟩, ⟨some 24, .bin .gtr (.t 23) (.c (.d (.int .i64 6))), some (22, false)⟩, ⟨some 25, .pick (.t 22) (.c (.d (.bool true))) (.t 24), none⟩, ⟨some 9, .mv (.t 25), none⟩] [10, 11, 12, 13, 14, 15, 16, 17, 18, 19, 20, 21, 22, 23, 24, 25])
 (.cond (.t 9) (.seq (.ops [] [⟨some 2, .mv (.c (.d (.int .i64 1))), none⟩] [1, 3, 9])
 (.ret [2])) (.seq (.ops [] [⟨some 27, .fad false 1 1 (.t 1), none⟩, ⟨some 28, .ld false 1 (.t 27), none⟩, ⟨some 29, .call N_directory_tiles [] [.t 28], none⟩, ⟨some 30, .un .not (.t 29), none⟩, ⟨some 26, .mv (.t 30), none⟩] [9, 27, 28, 29, 30])
 (.cond (.t 26) (.seq (.ops [] [⟨some 2, .mv (.c (.d (.int .i64 7))), none⟩] [1, 3, 26])
 (.ret [2])) (.seq (.ops [] [⟨some 32, .fad false 1 1 (.t 1), none⟩, ⟨some 33, .ld false 1 (.t 32), none⟩, ⟨some 34, .mkfn N_directory_Validate_1 [.t 3], none⟩, ⟨some 35, .call N_slices_ContainsFunc_api_Span [] [.t 33, .t 34], none⟩, ⟨some 31, .mv (.t 35), none⟩] [3, 26, 32, 33, 34, 35])
 (.cond (.t 31) (.seq (.ops [] [⟨some 2, .mv (.c (.d (.int .i64 4))), none⟩] [1, 31])
 (.ret [2])) .skip)))))))
 (.seq (.seq (.ops [] [⟨some 36, .fad false 1 1 (.t 1), none⟩, ⟨some 37, .ld false 1 (.t 36), none⟩, ⟨some 38, .len (.t 37), none⟩, ⟨some 39, .mv (.c (.d (.int .i64 0))), none⟩] [31, 36])
 (.block 1 (.loop [] l_directory_Validate_0)))
 (.seq (.seq (.ops [] [⟨some 52, .ld true 3 (.t 1), none⟩, ⟨some 53, .call N_directory_forwards [] [.t 52], none⟩, ⟨some 54, .un .not (.t 53), none⟩] [1, 37, 38, 39, 40, 52, 53])
 (.cond (.t 54) (.seq (.ops [] [⟨some 2, .mv (.c (.d (.int .i64 7))), none⟩] [54])
 (.ret [2])) .skip))
 (.seq (.ops [] [⟨some 2, .mv (.c (.d (.int .i64 0))), none⟩] [54])
 (.ret [2])))))))
def r_directory_Validate : List ARes := [.t 2]
def fn_directory_Validate : AFn := .code c_directory_Validate r_directory_Validate 55 true
/- shardqueue/directory.tiles -/
def l_directory_tiles_0 : ACode :=
 (.seq (.ops [] [⟨some 9, .bin .lss (.t 8) (.t 7), none⟩] [])
 (.seq (.cond (.t 9) .skip (.exit 0 [3]))
 (.seq (.block 1 (.seq (.ops [] [⟨some 10, .iad 3 (.t 6) (.t 8), none⟩, ⟨some 11, .ld true 3 (.t 10), none⟩, ⟨some 5, .alloc (.d (.agg [.int .i64 0, .int .i64 0, .int .i64 0])), none⟩, ⟨none, .st 3 (.t 5) (.t 11), none⟩] [9, 10, 11])
 (.seq (.seq (.ops [] [⟨some 12, .fad false 0 1 (.t 5), none⟩, ⟨some 13, .ld false 1 (.t 12), none⟩, ⟨some 14, .mv (.t 3), none⟩, ⟨some 15, .bin .neq (.t 13) (.t 14), none⟩, ⟨some 16, .mv (.t 15), none⟩, ⟨some 17, .fad false 1 1 (.t 5), some (16, false)⟩, ⟨some 18, .ld false 1 (.t 17), some (16, false)⟩, ⟨some 19, .fad false 0 1 (.t 5), some (16, false)⟩, ⟨some 20, .ld false 1 (.t 19), some (16, false)⟩, ⟨some 21, .bin .lss (.t 18) (.t 20), some (16, false)⟩, ⟨some 22, .pick (.t 16) (.c (.d (.bool true))) (.t 21), none⟩, ⟨some 23, .mv (.t 22), none⟩, ⟨some 24, .fad false 1 1 (.t 5), some (23, false)⟩, ⟨some 25, .ld false 1 (.t 24), some (23, false)⟩, ⟨some 26, .bin .geq (.t 25) (.c (.d (.int .i64 65536))), some (23, false)⟩, ⟨some 27, .pick (.t 23) (.c (.d (.bool true))) (.t 26), none⟩] [3, 12, 13, 14, 15, 16, 17, 18, 19, 20, 21, 22, 23, 24, 25, 26])
 (.cond (.t 27) (.seq (.ops [] [⟨some 2, .mv (.c (.d (.bool false))), none⟩] [5, 6, 7, 8, 27])
 (.ret [2])) .skip))
 (.ops [] [⟨some 28, .fad false 1 1 (.t 5), none⟩, ⟨some 29, .ld false 1 (.t 28), none⟩, ⟨some 30, .bin .add (.t 29) (.c (.d (.int .i64 1))), none⟩, ⟨some 3, .mv (.t 30), none⟩] [5, 27, 28, 29, 30]))))
 (.ops [] [⟨some 31, .bin .add (.t 8) (.c (.d (.int .i64 1))), none⟩, ⟨some 8, .mv (.t 31), none⟩] [31]))))
def c_directory_tiles : ACode :=
 (.seq (.ops [] [⟨some 2, .mv (.c (.d (.bool false))), none⟩] [2])
 (.seq (.ops [] [⟨some 3, .mv (.c (.d (.int .i64 0))), none⟩] [])
 (.seq (.seq (.ops [] [⟨some 6, .mv (.t 0), none⟩, ⟨some 7, .len (.t 6), none⟩, ⟨some 8, .mv (.c (.d (.int .i64 0))), none⟩] [0])
 (.block 0 (.loop [] l_directory_tiles_0)))
 (.seq (.ops [] [⟨some 32, .mv (.t 3), none⟩, ⟨some 33, .bin .eql (.t 32) (.c (.d (.int .i64 65536))), none⟩, ⟨some 2, .mv (.t 33), none⟩] [3, 6, 7, 8, 9, 32, 33])
 (.ret [2])))))
def r_directory_tiles : List ARes := [.t 2]
def fn_directory_tiles : AFn := .code c_directory_tiles r_directory_tiles 34 true
/- shardqueue/directory.Validate$1 -/
def c_directory_Validate_1 : ACode :=
 (.seq (.ops [] [⟨some 2, .box (.t 0), none⟩, ⟨some 3, .mv (.c (.d (.bool false))), none⟩] [0, 3])
 (.seq (.ops [] [⟨some 4, .fad false 2 1 (.t 2), none⟩, ⟨some 5, .ld false 1 (.t 4), none⟩, ⟨some 6, .bin .lss (.t 5) (.c (.d (.int .i64 0))), none⟩, ⟨some 7, .mv (.t 6), none⟩, ⟨some 8, .fad false 2 1 (.t 2), some (7, false)⟩, ⟨some 9, .ld false 1 (.t 8), some (7, false)⟩, ⟨some 10, .ld false 1 (.t 1), some (7, false)⟩, ⟨some 11, .bin .geq (.t 9) (.t 10), some (7, false)⟩, ⟨some 12, .pick (.t 7) (.c (.d (.bool true))) (.t 11), none⟩, ⟨some 3, .mv (.t 12), none⟩] [1, 2, 4, 5, 6, 7, 8, 9, 10, 11, 12])
 (.ret [3])))
def r_directory_Validate_1 : List ARes := [.t 3]
def fn_directory_Validate_1 : AFn := .code c_directory_Validate_1 r_directory_Validate_1 13 true
/- slices.ContainsFunc[[]shardqueue/api.Span,shardqueue/api.Span] -/
def c_slices_ContainsFunc_api_Span : ACode :=
 (.seq (.ops [] [⟨some 4, .mv (.c (.d (.bool false))), none⟩] [4])
 (.seq (.ops [] [⟨some 5, .mv (.t 0), none⟩, ⟨some 6, .mv (.t 1), none⟩, ⟨some 7, .call N_slices_IndexFunc_api_Span [] [.t 5, .t 6], none⟩, ⟨some 8, .bin .geq (.t 7) (.c (.d (.int .i64 0))), none⟩, ⟨some 4, .mv (.t 8), none⟩] [0, 1, 5, 6, 7, 8])
 (.ret [4])))
def r_slices_ContainsFunc_api_Span : List ARes := [.t 4]
def fn_slices_ContainsFunc_api_Span : AFn := .code c_slices_ContainsFunc_api_Span r_slices_ContainsFunc_api_Span 9 true
/- slices.IndexFunc[[]shardqueue/api.Span,shardqueue/api.Span] -/
def l_slices_IndexFunc_api_Span_0 : ACode :=
 (.seq (.ops [] [⟨some 9, .bin .lss (.t 8) (.t 7), none⟩] [])
 (.seq (.cond (.t 9) .skip (.exit 0 []))
 (.seq (.block 1 (.seq (.ops [] [⟨some 10, .mv (.t 8), none⟩, ⟨some 5, .mv (.t 10), none⟩] [9, 10])
 (.seq (.ops [] [⟨some 11, .mv (.t 1), none⟩, ⟨some 12, .mv (.t 0), none⟩, ⟨some 13, .mv (.t 5), none⟩, ⟨some 14, .iad 3 (.t 12) (.t 13), none⟩, ⟨some 15, .ld true 3 (.t 14), none⟩, ⟨some 16, .callv (.t 11) [] [.t 15], none⟩] [11, 12, 13, 14, 15])
 (.cond (.t 16) (.seq (.ops [] [⟨some 17, .mv (.t 5), none⟩, ⟨some 4, .mv (.t 17), none⟩] [0, 1, 5, 7, 8, 16, 17])
 (.ret [4])) .skip))))
 (.ops [] [⟨some 18, .bin .add (.t 8) (.c (.d (.int .i64 1))), none⟩, ⟨some 8, .mv (.t 18), none⟩] [5, 16, 18]))))
def c_slices_IndexFunc_api_Span : ACode :=
 (.seq (.ops [] [⟨some 4, .mv (.c (.d (.int .i64 0))), none⟩] [4])
 (.seq (.seq (.ops [] [⟨some 6, .mv (.t 0), none⟩, ⟨some 7, .len (.t 6), none⟩, ⟨some 8, .mv (.c (.d (.int .i64 0))), none⟩] [6])
 (.block 0 (.loop [] l_slices_IndexFunc_api_Span_0)))
 (.seq (.ops [] [⟨some 4, .mv (.c (.d (.int .i64 (-1)))), none⟩] [0, 1, 7, 8, 9])
 (.ret [4]))))
def r_slices_IndexFunc_api_Span : List ARes := [.t 4]
def fn_slices_IndexFunc_api_Span : AFn := .code c_slices_IndexFunc_api_Span r_slices_IndexFunc_api_Span 19 true
/- shardqueue/directory.find -/
def c_directory_find : ACode :=
 (.seq (.ops [] [⟨some 3, .box (.t 1), none⟩, ⟨some 4, .mv (.c (.d (.int .i64 0))), none⟩] [1, 4])
 (.seq (.ops [] [⟨some 5, .mv (.t 0), none⟩, ⟨some 6, .mkfn N_directory_find_1 [.t 3], none⟩, ⟨some 7, .call N_slices_IndexFunc_api_Span [] [.t 5, .t 6], none⟩, ⟨some 4, .mv (.t 7), none⟩] [0, 3, 5, 6, 7])
 (.ret [4])))
def r_directory_find : List ARes := [.t 4]
def fn_directory_find : AFn := .code c_directory_find r_directory_find 8 true
/- shardqueue/directory.find$1 -/
def c_directory_find_1 : ACode :=
 (.seq (.ops [] [⟨some 2, .box (.t 0), none⟩, ⟨some 3, .mv (.c (.d (.bool false))), none⟩] [0, 3])
 (.seq (.ops [] [⟨some 4, .fad false 2 1 (.t 2), none⟩, ⟨some 5, .ld false 1 (.t 4), none⟩, ⟨some 6, .ld false 1 (.t 1), none⟩, ⟨some 7, .bin .eql (.t 5) (.t 6), none⟩, ⟨some 3, .mv (.t 7), none⟩] [1, 2, 4, 5, 6, 7])
 (.ret [3])))
def r_directory_find_1 : List ARes := [.t 3]
def fn_directory_find_1 : AFn := .code c_directory_find_1 r_directory_find_1 8 true
/- shardqueue/directory.forwards -/
def l_directory_forwards_0 : ACode :=
 (.seq (.ops [] [⟨some 12, .bin .lss (.t 11) (.t 10), none⟩] [])
 (.seq (.cond (.t 12) .skip (.exit 0 [1]))
 (.seq (.block 1 (.seq (.ops [] [⟨some 13, .mv (.t 11), none⟩, ⟨some 14, .iad 1 (.t 9) (.t 11), none⟩, ⟨some 15, .ld false 1 (.t 14), none⟩, ⟨some 3, .mv (.t 13), none⟩, ⟨some 4, .mv (.t 15), none⟩] [12, 13, 14, 15])
 (.seq (.ops [] [⟨some 16, .fad false 1 1 (.t 1), none⟩, ⟨some 17, .ld false 1 (.t 16), none⟩, ⟨some 18, .mv (.t 3), none⟩, ⟨some 19, .call N_directory_find [] [.t 17, .t 18], none⟩, ⟨some 20, .bin .geq (.t 19) (.c (.d (.int .i64 0))), none⟩, ⟨some 5, .mv (.t 20), none⟩] [3, 16, 17, 18, 19, 20])
 (.seq (.ops [] [⟨some 21, .mv (.t 5), none⟩, ⟨some 22, .mv (.t 21), none⟩, ⟨some 23, .mv (.t 4), some (22, true)⟩, ⟨some 24, .bin .neq (.t 23) (.c (.d (.int .i64 (-1)))), some (22, true)⟩, ⟨some 25, .pick (.t 22) (.t 24) (.c (.d (.bool false))), none⟩, ⟨some 26, .mv (.t 25), none⟩, ⟨some 27, .mv (.t 4), some (26, false)⟩, ⟨some 28, .bin .lss (.t 27) (.c (.d (.int .i64 (-1)))), some (26, false)⟩, ⟨some 29, .pick (.t 26) (.c (.d (.bool true))) (.t 28), none⟩, ⟨some 30, .mv (.t 29), none⟩, ⟨some 31, .mv (.t 4), some (30, false)⟩, ⟨some 32, .fad false 2 1 (.t 1), some (30, false)⟩, ⟨some 33, .ld false 1 (.t 32), some (30, false)⟩, ⟨some 34, .len (.t 33), some (30, false)⟩, ⟨some 35, .bin .geq (.t 31) (.t 34), some (30, false)⟩, ⟨some 36, .pick (.t 30) (.c (.d (.bool true))) (.t 35), none⟩] [4, 5, 21, 22, 23, 24, 25, 26, 27, 28, 29, 30, 31, 32, 33, 34, 35])
 (.cond (.t 36) (.seq (.ops [] [⟨some 2, .mv (.c (.d (.bool false))), none⟩] [1, 9, 10, 11, 36])
 (.ret [2])) .skip)))))
 (.ops [] [⟨some 37, .bin .add (.t 11) (.c (.d (.int .i64 1))), none⟩, ⟨some 11, .mv (.t 37), none⟩] [36, 37]))))
def l_directory_forwards_1 : ACode :=
 (.seq (.ops [] [⟨some 49, .bin .lss (.t 48) (.t 47), none⟩] [])
 (.seq (.cond (.t 49) .skip (.exit 4 [1, 7, 40, 41]))
 (.seq (.block 5 (.seq (.ops [] [⟨some 50, .mv (.t 7), none⟩, ⟨some 51, .bin .geq (.t 50) (.c (.d (.int .i64 0))), none⟩] [49, 50])
 (.cond (.t 51) (.ops [] [⟨some 52, .fad false 2 1 (.t 1), none⟩, ⟨some 53, .ld false 1 (.t 52), none⟩, ⟨some 54, .mv (.t 7), none⟩, ⟨some 55, .iad 1 (.t 53) (.t 54), none⟩, ⟨some 56, .ld false 1 (.t 55), none⟩, ⟨some 7, .mv (.t 56), none⟩] [51, 52, 53, 54, 55, 56]) .skip)))
 (.ops [] [⟨some 57, .bin .add (.t 48) (.c (.d (.int .i64 1))), none⟩, ⟨some 48, .mv (.t 57), none⟩] [51, 57]))))
def l_directory_forwards_2 : ACode :=
 (.seq (.ops [] [⟨some 42, .bin .lss (.t 41) (.t 40), none⟩] [])
 (.seq (.cond (.t 42) .skip (.exit 2 []))
 (.seq (.block 3 (.seq (.ops [] [⟨some 43, .mv (.t 41), none⟩, ⟨some 6, .mv (.t 43), none⟩] [42, 43])
 (.seq (.ops [] [⟨some 44, .mv (.t 6), none⟩, ⟨some 7, .mv (.t 44), none⟩] [6, 44])
 (.seq (.seq (.ops [] [⟨some 45, .fad false 2 1 (.t 1), none⟩, ⟨some 46, .ld false 1 (.t 45), none⟩, ⟨some 47, .len (.t 46), none⟩, ⟨some 48, .mv (.c (.d (.int .i64 0))), none⟩] [45, 46])
 (.block 4 (.loop [] l_directory_forwards_1)))
 (.seq (.ops [] [⟨some 58, .mv (.t 7), none⟩, ⟨some 59, .bin .geq (.t 58) (.c (.d (.int .i64 0))), none⟩] [7, 47, 48, 49, 58])
 (.cond (.t 59) (.seq (.ops [] [⟨some 2, .mv (.c (.d (.bool false))), none⟩] [1, 40, 41, 59])
 (.ret [2])) .skip))))))
 (.ops [] [⟨some 60, .bin .add (.t 41) (.c (.d (.int .i64 1))), none⟩, ⟨some 41, .mv (.t 60), none⟩] [59, 60]))))
def c_directory_forwards : ACode :=
 (.seq (.ops [] [⟨some 1, .box (.t 0), none⟩, ⟨some 2, .mv (.c (.d (.bool false))), none⟩] [0, 2])
 (.seq (.seq (.ops [] [⟨some 8, .fad false 2 1 (.t 1), none⟩, ⟨some 9, .ld false 1 (.t 8), none⟩, ⟨some 10, .len (.t 9), none⟩, ⟨some 11, .mv (.c (.d (.int .i64 0))), none⟩] [8])
 (.block 0 (.loop [] l_directory_forwards_0)))
 (.seq (.seq (.ops [] [⟨some 38, .fad false 2 1 (.t 1), none⟩, ⟨some 39, .ld false 1 (.t 38), none⟩, ⟨some 40, .len (.t 39), none⟩, ⟨some 41, .mv (.c (.d (.int .i64 0))), none⟩] [9, 10, 11, 12, 38, 39])
 (.block 2 (.loop [] l_directory_forwards_2)))
 (.seq (.ops [] [⟨some 2, .mv (.c (.d (.bool true))), none⟩] [1, 40, 41, 42])
 (.ret [2])))))
def r_directory_forwards : List ARes := [.t 2]
def fn_directory_forwards : AFn := .code c_directory_forwards r_directory_forwards 61 true
/- shardqueue/directory.Apply$1 -/
def c_directory_Apply_1 : ACode :=
 (.seq (.ops [] [⟨some 3, .mv (.c (.d (.bool false))), none⟩] [3])
 (.seq (.ops [] [⟨some 4, .mv (.t 0), none⟩, ⟨some 5, .bin .geq (.t 4) (.c (.d (.int .i64 0))), none⟩, ⟨some 6, .mv (.t 5), none⟩, ⟨some 7, .mv (.t 0), some (6, true)⟩, ⟨some 8, .fad false 2 1 (.t 1), some (6, true)⟩, ⟨some 9, .ld false 1 (.t 8), some (6, true)⟩, ⟨some 10, .len (.t 9), some (6, true)⟩, ⟨some 11, .bin .lss (.t 7) (.t 10), some (6, true)⟩, ⟨some 12, .pick (.t 6) (.t 11) (.c (.d (.bool false))), none⟩, ⟨some 3, .mv (.t 12), none⟩] [0, 1, 4, 5, 6, 7, 8, 9, 10, 11, 12])
 (.ret [3])))
def r_directory_Apply_1 : List ARes := [.t 3]
def fn_directory_Apply_1 : AFn := .code c_directory_Apply_1 r_directory_Apply_1 13 true
/- slices.Clone[[]shardqueue/api.Span,shardqueue/api.Span] -/
def c_slices_Clone_api_Span : ACode :=
 (.seq (.ops [] [⟨some 2, .nacc, none⟩] [2])
 (.seq (.seq (.ops [] [⟨some 3, .mv (.t 0), none⟩, ⟨some 4, .nileq false (.t 3), none⟩] [3])
 (.cond (.t 4) (.seq (.ops [] [⟨some 2, .nacc, none⟩] [0, 4])
 (.ret [2])) .skip))
 (.seq (.ops [] [⟨some 5, .bsl 0 3 (.d (.agg [.int .i64 0, .int .i64 0, .int .i64 0])) [], none⟩, ⟨some 6, .mv (.t 0), none⟩, ⟨some 7, .app 3 (.t 5) (.t 6), none⟩, ⟨some 2, .mv (.t 7), none⟩] [0, 4, 5, 6, 7])
 (.ret [2]))))
def r_slices_Clone_api_Span : List ARes := [.t 2]
def fn_slices_Clone_api_Span : AFn := .nils c_slices_Clone_api_Span r_slices_Clone_api_Span 8
/- slices.Clone[[]int,int] -/
def c_slices_Clone_int : ACode :=
 (.seq (.ops [] [⟨some 2, .nacc, none⟩] [2])
 (.seq (.seq (.ops [] [⟨some 3, .mv (.t 0), none⟩, ⟨some 4, .nileq false (.t 3), none⟩] [3])
 (.cond (.t 4) (.seq (.ops [] [⟨some 2, .nacc, none⟩] [0, 4])
 (.ret [2])) .skip))
 (.seq (.ops [] [⟨some 5, .bsl 0 1 (.d (.int .i64 0)) [], none⟩, ⟨some 6, .mv (.t 0), none⟩, ⟨some 7, .app 1 (.t 5) (.t 6), none⟩, ⟨some 2, .mv (.t 7), none⟩] [0, 4, 5, 6, 7])
 (.ret [2]))))
def r_slices_Clone_int : List ARes := [.t 2]
def fn_slices_Clone_int : AFn := .nils c_slices_Clone_int r_slices_Clone_int 8
/- shardqueue/directory.split -/
def c_directory_split : ACode :=
 (.seq (.ops [] [⟨some 2, .box (.t 0), none⟩, ⟨some 3, .box (.t 1), none⟩, ⟨some 4, .alloc (.agg [.d (.int .i64 0), .xsl [], .xsl []]), none⟩, ⟨some 5, .mv (.c (.d (.int .i64 0))), none⟩] [0, 1, 5])
 (.seq (.ops [] [⟨some 8, .fad false 1 1 (.t 2), none⟩, ⟨some 9, .ld false 1 (.t 8), none⟩, ⟨some 10, .fad false 1 1 (.t 3), none⟩, ⟨some 11, .ld false 1 (.t 10), none⟩, ⟨some 12, .call N_directory_find [] [.t 9, .t 11], none⟩, ⟨some 6, .mv (.t 12), none⟩] [8, 9, 10, 11, 12])
 (.seq (.block 0 (.seq (.ops [] [⟨some 14, .mv (.t 6), none⟩, ⟨some 15, .bin .lss (.t 14) (.c (.d (.int .i64 0))), none⟩, ⟨some 16, .mv (.t 15), none⟩, ⟨some 17, .fad false 1 1 (.t 2), some (16, false)⟩, ⟨some 18, .ld false 1 (.t 17), some (16, false)⟩, ⟨some 19, .fad false 2 1 (.t 3), some (16, false)⟩, ⟨some 20, .ld false 1 (.t 19), some (16, false)⟩, ⟨some 21, .call N_directory_find [] [.t 18, .t 20], some (16, false)⟩, ⟨some 22, .bin .geq (.t 21) (.c (.d (.int .i64 0))), some (16, false)⟩, ⟨some 23, .pick (.t 16) (.c (.d (.bool true))) (.t 22), none⟩, ⟨some 13, .mv (.t 23), none⟩] [14, 15, 16, 17, 18, 19, 20, 21, 22, 23])
 (.cond (.t 13) (.seq (.ops [] [⟨some 24, .build [.d (.int .i64 0), .xsl [], .xsl []] [], none⟩, ⟨none, .st 3 (.t 4) (.t 24), none⟩, ⟨some 5, .mv (.c (.d (.int .i64 7))), none⟩] [2, 3, 6, 13, 24])
 (.ret [4, 5])) (.seq (.draw [] [⟨some 26, .fad false 3 1 (.t 3), none⟩, ⟨some 27, .ld false 1 (.t 26), none⟩, ⟨some 28, .fad false 1 1 (.t 2), none⟩, ⟨some 29, .ld false 1 (.t 28), none⟩, ⟨some 30, .mv (.t 6), none⟩, ⟨some 31, .iad 3 (.t 29) (.t 30), none⟩, ⟨some 32, .fad false 0 1 (.t 31), none⟩, ⟨some 33, .ld false 1 (.t 32), none⟩, ⟨some 34, .bin .lss (.t 27) (.t 33), none⟩, ⟨some 35, .mv (.t 34), none⟩, ⟨some 36, .fad false 3 1 (.t 3), some (35, false)⟩, ⟨some 37, .ld false 1 (.t 36), some (35, false)⟩, ⟨some 38, .fad false 1 1 (.t 2), some (35, false)⟩, ⟨some 39, .ld false 1 (.t 38), some (35, false)⟩, ⟨some 40, .mv (.t 6), some (35, false)⟩, ⟨some 41, .iad 3 (.t 39) (.t 40), some (35, false)⟩, ⟨some 42, .fad false 1 1 (.t 41), some (35, false)⟩, ⟨some 43, .ld false 1 (.t 42), some (35, false)⟩, ⟨some 44, .bin .geq (.t 37) (.t 43), some (35, false)⟩, ⟨some 45, .pick (.t 35) (.c (.d (.bool true))) (.t 44), none⟩, ⟨some 25, .mv (.t 45), none⟩] [[], [], [0, 1], [0, 1], [0, 1, 2, 3], [0, 1], [0, 1], [0, 1], [], [], [], [], [10, 11], [10, 11], [10, 11, 12, 13], [10, 11], [10, 11], [10, 11], [], [], []] [13, 26, 27, 28, 29, 30, 31, 32, 33, 34, 35, 36, 37, 38, 39, 40, 41, 42, 43, 44, 45])
 (.cond (.t 25) (.seq (.ops [] [⟨some 46, .build [.d (.int .i64 0), .xsl [], .xsl []] [], none⟩, ⟨none, .st 3 (.t 4) (.t 46), none⟩, ⟨some 5, .mv (.c (.d (.int .i64 1))), none⟩] [2, 3, 6, 25, 46])
 (.ret [4, 5])) .skip)))))
 (.seq (.draw [] [⟨some 47, .fad false 3 1 (.t 3), none⟩, ⟨some 48, .ld false 1 (.t 47), none⟩, ⟨some 49, .bin .add (.t 48) (.c (.d (.int .i64 1))), none⟩, ⟨some 50, .fad false 1 1 (.t 2), none⟩, ⟨some 51, .ld false 1 (.t 50), none⟩, ⟨some 52, .mv (.t 6), none⟩, ⟨some 53, .iad 3 (.t 51) (.t 52), none⟩, ⟨some 54, .fad false 1 1 (.t 53), none⟩, ⟨some 55, .ld false 1 (.t 54), none⟩, ⟨some 56, .fad false 2 1 (.t 3), none⟩, ⟨some 57, .ld false 1 (.t 56), none⟩, ⟨some 58, .build [.d (.int .i64 0), .d (.int .i64 0), .d (.int .i64 0)] [(0, (1, .t 49)), (1, (1, .t 55)), (2, (1, .t 57))], none⟩, ⟨some 7, .alloc (.d (.agg [.int .i64 0, .int .i64 0, .int .i64 0])), none⟩, ⟨none, .st 3 (.t 7) (.t 58), none⟩] [[], [], [], [0, 1, 2], [0, 1, 2], [0, 1, 2, 3, 4], [0, 1, 2], [0, 1, 2], [0, 1, 2], [0, 1, 2, 3, 4, 5, 6, 7, 8], [0, 1, 2, 3, 4, 5, 6, 7, 8], [], [0, 1, 2, 3, 4, 5, 6, 7, 8, 9, 10, 11], []] [25, 47, 48, 49, 50, 51, 52, 53, 54, 55, 56, 57, 58])
 (.seq (.ops [] [⟨some 59, .fad false 1 1 (.t 2), none⟩, ⟨some 60, .ld false 1 (.t 59), none⟩, ⟨some 61, .mv (.t 6), none⟩, ⟨some 62, .fad false 3 1 (.t 3), none⟩, ⟨some 63, .ld false 1 (.t 62), none⟩, ⟨some 64, .iad 3 (.t 60) (.t 61), none⟩, ⟨some 65, .fad false 1 1 (.t 64), none⟩, ⟨none, .st 1 (.t 65) (.t 63), none⟩] [59, 60, 61, 62, 63, 64, 65])
 (.seq (.ops [] [⟨some 66, .fad false 1 1 (.t 2), none⟩, ⟨some 67, .ld false 1 (.t 66), none⟩, ⟨some 68, .mv (.t 6), none⟩, ⟨some 69, .bin .add (.t 68) (.c (.d (.int .i64 1))), none⟩, ⟨some 70, .ld true 3 (.t 7), none⟩, ⟨some 71, .bsl 1 3 (.d (.agg [.int .i64 0, .int .i64 0, .int .i64 0])) [(0, .t 70)], none⟩, ⟨some 72, .call N_slices_Insert_api_Span [true, false, false] [.t 67, .t 69, .t 71], none⟩, ⟨some 73, .fad false 1 1 (.t 2), none⟩, ⟨none, .st 1 (.t 73) (.t 72), none⟩] [6, 7, 66, 67, 68, 69, 70, 71, 72, 73])
 (.seq (.ops [] [⟨some 74, .fad false 2 1 (.t 2), none⟩, ⟨some 75, .ld false 1 (.t 74), none⟩, ⟨some 76, .fad false 2 1 (.t 3), none⟩, ⟨some 77, .ld false 1 (.t 76), none⟩, ⟨some 78, .iad 1 (.t 75) (.t 77), none⟩, ⟨none, .st 1 (.t 78) (.c (.d (.int .i64 (-1)))), none⟩] [3, 74, 75, 76, 77, 78])
 (.seq (.ops [] [⟨some 79, .ld true 3 (.t 2), none⟩, ⟨none, .st 3 (.t 4) (.t 79), none⟩, ⟨some 5, .mv (.c (.d (.int .i64 0))), none⟩] [2, 79])
 (.ret [4, 5])))))))))
def r_directory_split : List ARes := [.c 4 true 3, .t 5]
def fn_directory_split : AFn := .code c_directory_split r_directory_split 80 false
def fn_slices_Insert_api_Span : AFn := .ext (insF 3)
/- shardqueue/directory.merge -/
def c_directory_merge : ACode :=
 (.seq (.ops [] [⟨some 2, .box (.t 0), none⟩, ⟨some 3, .box (.t 1), none⟩, ⟨some 4, .alloc (.agg [.d (.int .i64 0), .xsl [], .xsl []]), none⟩, ⟨some 5, .mv (.c (.d (.int .i64 0))), none⟩] [0, 1, 5])
 (.seq (.draw [] [⟨some 8, .fad false 1 1 (.t 2), none⟩, ⟨some 9, .ld false 1 (.t 8), none⟩, ⟨some 10, .fad false 1 1 (.t 3), none⟩, ⟨some 11, .ld false 1 (.t 10), none⟩, ⟨some 12, .call N_directory_find [] [.t 9, .t 11], none⟩, ⟨some 13, .fad false 1 1 (.t 2), none⟩, ⟨some 14, .ld false 1 (.t 13), none⟩, ⟨some 15, .fad false 2 1 (.t 3), none⟩, ⟨some 16, .ld false 1 (.t 15), none⟩, ⟨some 17, .call N_directory_find [] [.t 14, .t 16], none⟩, ⟨some 6, .mv (.t 12), none⟩, ⟨some 7, .mv (.t 17), none⟩] [[], [], [0, 1], [0, 1], [], [0, 1, 2, 3, 4], [0, 1, 2, 3, 4], [0, 1, 2, 3, 4, 5, 6], [0, 1, 2, 3, 4, 5, 6], [], [], []] [8, 9, 10, 11, 12, 13, 14, 15, 16, 17])
 (.seq (.seq (.ops [] [⟨some 18, .mv (.t 6), none⟩, ⟨some 19, .bin .lss (.t 18) (.c (.d (.int .i64 0))), none⟩, ⟨some 20, .mv (.t 19), none⟩, ⟨some 21, .mv (.t 7), some (20, false)⟩, ⟨some 22, .bin .lss (.t 21) (.c (.d (.int .i64 0))), some (20, false)⟩, ⟨some 23, .pick (.t 20) (.c (.d (.bool true))) (.t 22), none⟩, ⟨some 24, .mv (.t 23), none⟩, ⟨some 25, .mv (.t 6), some (24, false)⟩, ⟨some 26, .mv (.t 7), some (24, false)⟩, ⟨some 27, .bin .sub (.t 25) (.t 26), some (24, false)⟩, ⟨some 28, .bin .neq (.t 27) (.c (.d (.int .i64 1))), some (24, false)⟩, ⟨some 29, .mv (.t 28), some (24, false)⟩, ⟨some 30, .mv (.t 7), some (29, true)⟩, ⟨some 31, .mv (.t 6), some (29, true)⟩, ⟨some 32, .bin .sub (.t 30) (.t 31), some (29, true)⟩, ⟨some 33, .bin .neq (.t 32) (.c (.d (.int .i64 1))), some (29, true)⟩, ⟨some 34, .pick (.t 29) (.t 33) (.c (.d (.bool false))), some (24, false)⟩, ⟨some 35, .pick (.t 24) (.c (.d (.bool true))) (.t 34), none⟩] [18, 19, 20, 21, 22, 23, 24, 25, 26, 27, 28, 29, 30, 31, 32, 33, 34])
 (.cond (.t 35) (.seq (.ops [] [⟨some 36, .build [.d (.int .i64 0), .xsl [], .xsl []] [], none⟩, ⟨none, .st 3 (.t 4) (.t 36), none⟩, ⟨some 5, .mv (.c (.d (.int .i64 7))), none⟩] [2, 3, 6, 7, 35, 36])
 (.ret [4, 5])) .skip))
 (.seq (.draw [] [⟨some 37, .fad false 1 1 (.t 2), none⟩, ⟨some 38, .ld false 1 (.t 37), none⟩, ⟨some 39, .mv (.t 7), none⟩, ⟨some 40, .fad false 1 1 (.t 2), none⟩, ⟨some 41, .ld false 1 (.t 40), none⟩, ⟨some 42, .mv (.t 7), none⟩, ⟨some 43, .fad false 1 1 (.t 2), none⟩, ⟨some 44, .ld false 1 (.t 43), none⟩, ⟨some 45, .mv (.t 6), none⟩, ⟨some 46, .iad 3 (.t 44) (.t 45), none⟩, ⟨some 47, .fad false 0 1 (.t 46), none⟩, ⟨some 48, .ld false 1 (.t 47), none⟩, ⟨some 49, .fad false 1 1 (.t 2), none⟩, ⟨some 50, .ld false 1 (.t 49), none⟩, ⟨some 51, .mv (.t 7), none⟩, ⟨some 52, .iad 3 (.t 50) (.t 51), none⟩, ⟨some 53, .fad false 0 1 (.t 52), none⟩, ⟨some 54, .ld false 1 (.t 53), none⟩, ⟨some 55, .mm false [.t 48, .t 54], none⟩, ⟨some 56, .fad false 1 1 (.t 2), none⟩, ⟨some 57, .ld false 1 (.t 56), none⟩, ⟨some 58, .mv (.t 6), none⟩, ⟨some 59, .iad 3 (.t 57) (.t 58), none⟩, ⟨some 60, .fad false 1 1 (.t 59), none⟩, ⟨some 61, .ld false 1 (.t 60), none⟩, ⟨some 62, .fad false 1 1 (.t 2), none⟩, ⟨some 63, .ld false 1 (.t 62), none⟩, ⟨some 64, .mv (.t 7), none⟩, ⟨some 65, .iad 3 (.t 63) (.t 64), none⟩, ⟨some 66, .fad false 1 1 (.t 65), none⟩, ⟨some 67, .ld false 1 (.t 66), none⟩, ⟨some 68, .mm true [.t 61, .t 67], none⟩, ⟨some 69, .iad 3 (.t 38) (.t 39), none⟩, ⟨some 70, .fad false 0 1 (.t 69), none⟩, ⟨none, .st 1 (.t 70) (.t 55), none⟩, ⟨some 71, .iad 3 (.t 41) (.t 42), none⟩, ⟨some 72, .fad false 1 1 (.t 71), none⟩, ⟨none, .st 1 (.t 72) (.t 68), none⟩] [[], [], [0, 1], [0, 1, 2], [0, 1, 2], [0, 1, 2, 3, 4], [0, 1, 2, 3, 4, 5], [0, 1, 2, 3, 4, 5], [0, 1, 2, 3, 4, 5, 6, 7], [0, 1, 2, 3, 4, 5], [0, 1, 2, 3, 4, 5], [0, 1, 2, 3, 4, 5], [0, 1, 2, 3, 4, 5, 6, 7, 8, 9, 10, 11], [0, 1, 2, 3, 4, 5, 6, 7, 8, 9, 10, 11], [0, 1, 2, 3, 4, 5, 6, 7, 8, 9, 10, 11, 12, 13], [0, 1, 2, 3, 4, 5, 6, 7, 8, 9, 10, 11], [0, 1, 2, 3, 4, 5, 6, 7, 8, 9, 10, 11], [0, 1, 2, 3, 4, 5, 6, 7, 8, 9, 10, 11], [0, 1, 2, 3, 4, 5], [0, 1, 2, 3, 4, 5, 6, 7, 8, 9, 10, 11, 12, 13, 14, 15, 16, 17, 18], [0, 1, 2, 3, 4, 5, 6, 7, 8, 9, 10, 11, 12, 13, 14, 15, 16, 17, 18], [0, 1, 2, 3, 4, 5, 6, 7, 8, 9, 10, 11, 12, 13, 14, 15, 16, 17, 18, 19, 20], [0, 1, 2, 3, 4, 5, 6, 7, 8, 9, 10, 11, 12, 13, 14, 15, 16, 17, 18], [0, 1, 2, 3, 4, 5, 6, 7, 8, 9, 10, 11, 12, 13, 14, 15, 16, 17, 18], [0, 1, 2, 3, 4, 5, 6, 7, 8, 9, 10, 11, 12, 13, 14, 15, 16, 17, 18], [0, 1, 2, 3, 4, 5, 6, 7, 8, 9, 10, 11, 12, 13, 14, 15, 16, 17, 18, 19, 20, 21, 22, 23, 24], [0, 1, 2, 3, 4, 5, 6, 7, 8, 9, 10, 11, 12, 13, 14, 15, 16, 17, 18, 19, 20, 21, 22, 23, 24], [0, 1, 2, 3, 4, 5, 6, 7, 8, 9, 10, 11, 12, 13, 14, 15, 16, 17, 18, 19, 20, 21, 22, 23, 24, 25, 26], [0, 1, 2, 3, 4, 5, 6, 7, 8, 9, 10, 11, 12, 13, 14, 15, 16, 17, 18, 19, 20, 21, 22, 23, 24], [0, 1, 2, 3, 4, 5, 6, 7, 8, 9, 10, 11, 12, 13, 14, 15, 16, 17, 18, 19, 20, 21, 22, 23, 24], [0, 1, 2, 3, 4, 5, 6, 7, 8, 9, 10, 11, 12, 13, 14, 15, 16, 17, 18, 19, 20, 21, 22, 23, 24], [0, 1, 2, 3, 4, 5, 6, 7, 8, 9, 10, 11, 12, 13, 14, 15, 16, 17, 18], [3, 4, 5, 31], [3, 4, 5, 31], [3, 4, 5, 31], [], [], []] [7, 35, 37, 38, 39, 40, 41, 42, 43, 44, 45, 46, 47, 48, 49, 50, 51, 52, 53, 54, 55, 56, 57, 58, 59, 60, 61, 62, 63, 64, 65, 66, 67, 68, 69, 70, 71, 72])
 (.seq (.ops [] [⟨some 73, .fad false 1 1 (.t 2), none⟩, ⟨some 74, .ld false 1 (.t 73), none⟩, ⟨some 75, .mv (.t 6), none⟩, ⟨some 76, .mv (.t 6), none⟩, ⟨some 77, .bin .add (.t 76) (.c (.d (.int .i64 1))), none⟩, ⟨some 78, .call N_slices_Delete_api_Span [true, false, false] [.t 74, .t 75, .t 77], none⟩, ⟨some 79, .fad false 1 1 (.t 2), none⟩, ⟨none, .st 1 (.t 79) (.t 78), none⟩] [6, 73, 74, 75, 76, 77, 78, 79])
 (.seq (.ops [] [⟨some 80, .fad false 2 1 (.t 2), none⟩, ⟨some 81, .ld false 1 (.t 80), none⟩, ⟨some 82, .fad false 1 1 (.t 3), none⟩, ⟨some 83, .ld false 1 (.t 82), none⟩, ⟨some 84, .fad false 2 1 (.t 3), none⟩, ⟨some 85, .ld false 1 (.t 84), none⟩, ⟨some 86, .iad 1 (.t 81) (.t 83), none⟩, ⟨none, .st 1 (.t 86) (.t 85), none⟩] [3, 80, 81, 82, 83, 84, 85, 86])
 (.seq (.ops [] [⟨some 87, .ld true 3 (.t 2), none⟩, ⟨none, .st 3 (.t 4) (.t 87), none⟩, ⟨some 5, .mv (.c (.d (.int .i64 0))), none⟩] [2, 87])
 (.ret [4, 5]))))))))
def r_directory_merge : List ARes := [.c 4 true 3, .t 5]
def fn_directory_merge : AFn := .code c_directory_merge r_directory_merge 88 false
def fn_slices_Delete_api_Span : AFn := .ext (delF 3)
/- shardqueue/shardqueuelaw10.awake -/
def c_law10_awake : ACode :=
 (.seq (.ops [] [⟨some 0, .mv (.c (.d (.bool false))), none⟩] [0])
 (.seq (.ops [] [⟨some 4, .call N_directory_New [] [.c (.d (.int .i64 3)), .c (.d (.int .i64 2))], none⟩, ⟨some 3, .mv (.t 4), none⟩, ⟨some 5, .ext (.t 3) 0, none⟩, ⟨some 6, .ext (.t 3) 1, none⟩, ⟨some 1, .alloc (.agg [.d (.int .i64 0), .xsl [], .xsl []]), none⟩, ⟨none, .st 3 (.t 1) (.t 5), none⟩, ⟨some 2, .mv (.t 6), none⟩] [3, 4, 5, 6])
 (.seq (.ops [] [⟨some 7, .mv (.t 2), none⟩, ⟨some 8, .bin .eql (.t 7) (.c (.d (.int .i64 0))), none⟩, ⟨some 9, .mv (.t 8), none⟩, ⟨some 10, .fad false 1 1 (.t 1), some (9, true)⟩, ⟨some 11, .ld false 1 (.t 10), some (9, true)⟩, ⟨some 12, .len (.t 11), some (9, true)⟩, ⟨some 13, .bin .eql (.t 12) (.c (.d (.int .i64 2))), some (9, true)⟩, ⟨some 14, .pick (.t 9) (.t 13) (.c (.d (.bool false))), none⟩, ⟨some 15, .mv (.t 14), none⟩, ⟨some 16, .ld true 3 (.t 1), some (15, true)⟩, ⟨some 17, .call N_directory_Owner [] [.t 16, .c (.d (.int .i64 32767))], some (15, true)⟩, ⟨some 18, .bin .eql (.t 17) (.c (.d (.int .i64 0))), some (15, true)⟩, ⟨some 19, .pick (.t 15) (.t 18) (.c (.d (.bool false))), none⟩, ⟨some 20, .mv (.t 19), none⟩, ⟨some 21, .ld true 3 (.t 1), some (20, true)⟩, ⟨some 22, .call N_directory_Owner [] [.t 21, .c (.d (.int .i64 32768))], some (20, true)⟩, ⟨some 23, .bin .eql (.t 22) (.c (.d (.int .i64 1))), some (20, true)⟩, ⟨some 24, .pick (.t 20) (.t 23) (.c (.d (.bool false))), none⟩, ⟨some 25, .mv (.t 24), none⟩, ⟨some 26, .ld true 3 (.t 1), some (25, true)⟩, ⟨some 27, .call N_directory_Home [] [.t 26, .c (.d (.int .i64 2))], some (25, true)⟩, ⟨some 28, .bin .eql (.t 27) (.c (.d (.int .i64 (-1)))), some (25, true)⟩, ⟨some 29, .pick (.t 25) (.t 28) (.c (.d (.bool false))), none⟩, ⟨some 0, .mv (.t 29), none⟩] [1, 2, 7, 8, 9, 10, 11, 12, 13, 14, 15, 16, 17, 18, 19, 20, 21, 22, 23, 24, 25, 26, 27, 28, 29])
 (.ret [0]))))
def r_law10_awake : List ARes := [.t 0]
def fn_law10_awake : AFn := .code c_law10_awake r_law10_awake 30 true
/- shardqueue/directory.Owner -/
def l_directory_Owner_0 : ACode :=
 (.seq (.ops [] [⟨some 14, .bin .lss (.t 13) (.t 12), none⟩] [])
 (.seq (.cond (.t 14) .skip (.exit 0 []))
 (.seq (.block 1 (.seq (.ops [] [⟨some 15, .iad 3 (.t 11) (.t 13), none⟩, ⟨some 16, .ld true 3 (.t 15), none⟩, ⟨some 6, .alloc (.d (.agg [.int .i64 0, .int .i64 0, .int .i64 0])), none⟩, ⟨none, .st 3 (.t 6) (.t 16), none⟩] [14, 15, 16])
 (.seq (.ops [] [⟨some 17, .fad false 0 1 (.t 6), none⟩, ⟨some 18, .ld false 1 (.t 17), none⟩, ⟨some 19, .mv (.t 1), none⟩, ⟨some 20, .bin .leq (.t 18) (.t 19), none⟩, ⟨some 21, .mv (.t 20), none⟩, ⟨some 22, .mv (.t 1), some (21, true)⟩, ⟨some 23, .fad false 1 1 (.t 6), some (21, true)⟩, ⟨some 24, .ld false 1 (.t 23), some (21, true)⟩, ⟨some 25, .bin .leq (.t 22) (.t 24), some (21, true)⟩, ⟨some 26, .pick (.t 21) (.t 25) (.c (.d (.bool false))), none⟩] [17, 18, 19, 20, 21, 22, 23, 24, 25])
 (.cond (.t 26) (.seq (.ops [] [⟨some 27, .fad false 2 1 (.t 6), none⟩, ⟨some 28, .ld false 1 (.t 27), none⟩, ⟨some 4, .mv (.t 28), none⟩] [1, 6, 11, 12, 13, 26, 27, 28])
 (.ret [4])) .skip))))
 (.ops [] [⟨some 29, .bin .add (.t 13) (.c (.d (.int .i64 1))), none⟩, ⟨some 13, .mv (.t 29), none⟩] [6, 26, 29]))))
def c_directory_Owner : ACode :=
 (.seq (.ops [] [⟨some 2, .box (.t 0), none⟩, ⟨some 4, .mv (.c (.d (.int .i64 0))), none⟩] [0, 4])
 (.seq (.seq (.ops [] [⟨some 7, .ld true 3 (.t 2), none⟩, ⟨some 8, .call N_directory_Validate [] [.t 7], none⟩, ⟨some 9, .bin .neq (.t 8) (.c (.d (.int .i64 0))), none⟩] [7, 8])
 (.cond (.t 9) (.seq (.ops [] [⟨some 4, .mv (.c (.d (.int .i64 (-1)))), none⟩] [1, 2, 9])
 (.ret [4])) .skip))
 (.seq (.seq (.ops [] [⟨some 10, .fad false 1 1 (.t 2), none⟩, ⟨some 11, .ld false 1 (.t 10), none⟩, ⟨some 12, .len (.t 11), none⟩, ⟨some 13, .mv (.c (.d (.int .i64 0))), none⟩] [2, 9, 10])
 (.block 0 (.loop [] l_directory_Owner_0)))
 (.seq (.ops [] [⟨some 4, .mv (.c (.d (.int .i64 (-1)))), none⟩] [1, 11, 12, 13, 14])
 (.ret [4])))))
def r_directory_Owner : List ARes := [.t 4]
def fn_directory_Owner : AFn := .code c_directory_Owner r_directory_Owner 30 true
/- shardqueue/directory.Home -/
def l_directory_Home_0 : ACode :=
 (.seq (.seq (.ops [] [⟨some 19, .mv (.t 1), none⟩, ⟨some 20, .bin .geq (.t 19) (.c (.d (.int .i64 0))), none⟩, ⟨some 21, .mv (.t 20), none⟩, ⟨some 22, .fad false 1 1 (.t 2), some (21, true)⟩, ⟨some 23, .ld false 1 (.t 22), some (21, true)⟩, ⟨some 24, .mv (.t 1), some (21, true)⟩, ⟨some 25, .call N_directory_find [] [.t 23, .t 24], some (21, true)⟩, ⟨some 26, .bin .lss (.t 25) (.c (.d (.int .i64 0))), some (21, true)⟩, ⟨some 27, .pick (.t 21) (.t 26) (.c (.d (.bool false))), none⟩] [19, 20, 21, 22, 23, 24, 25, 26])
 (.cond (.t 27) .skip (.exit 0 [1])))
 (.block 1 (.ops [] [⟨some 28, .fad false 2 1 (.t 2), none⟩, ⟨some 29, .ld false 1 (.t 28), none⟩, ⟨some 30, .mv (.t 1), none⟩, ⟨some 31, .iad 1 (.t 29) (.t 30), none⟩, ⟨some 32, .ld false 1 (.t 31), none⟩, ⟨some 1, .mv (.t 32), none⟩] [27, 28, 29, 30, 31, 32])))
def c_directory_Home : ACode :=
 (.seq (.ops [] [⟨some 2, .box (.t 0), none⟩, ⟨some 4, .mv (.c (.d (.int .i64 0))), none⟩] [0, 4])
 (.seq (.seq (.ops [] [⟨some 5, .ld true 3 (.t 2), none⟩, ⟨some 6, .call N_directory_Validate [] [.t 5], none⟩, ⟨some 7, .bin .neq (.t 6) (.c (.d (.int .i64 0))), none⟩, ⟨some 8, .mv (.t 7), none⟩, ⟨some 9, .mv (.t 1), some (8, false)⟩, ⟨some 10, .bin .lss (.t 9) (.c (.d (.int .i64 0))), some (8, false)⟩, ⟨some 11, .pick (.t 8) (.c (.d (.bool true))) (.t 10), none⟩, ⟨some 12, .mv (.t 11), none⟩, ⟨some 13, .mv (.t 1), some (12, false)⟩, ⟨some 14, .fad false 2 1 (.t 2), some (12, false)⟩, ⟨some 15, .ld false 1 (.t 14), some (12, false)⟩, ⟨some 16, .len (.t 15), some (12, false)⟩, ⟨some 17, .bin .geq (.t 13) (.t 16), some (12, false)⟩, ⟨some 18, .pick (.t 12) (.c (.d (.bool true))) (.t 17), none⟩] [5, 6, 7, 8, 9, 10, 11, 12, 13, 14, 15, 16, 17])
 (.cond (.t 18) (.seq (.ops [] [⟨some 4, .mv (.c (.d (.int .i64 (-1)))), none⟩] [1, 2, 18])
 (.ret [4])) .skip))
 (.seq (.block 0 (.loop [18] l_directory_Home_0))
 (.seq (.ops [] [⟨some 33, .mv (.t 1), none⟩, ⟨some 4, .mv (.t 33), none⟩] [1, 2, 27, 33])
 (.ret [4])))))
def r_directory_Home : List ARes := [.t 4]
def fn_directory_Home : AFn := .code c_directory_Home r_directory_Home 34 true
/- shardqueue/shardqueuelaw10.DirectoryRaw -/
def c_law10_DirectoryRaw : ACode :=
 (.seq (.ops [] [⟨some 6, .box (.t 0), none⟩, ⟨some 7, .box (.t 1), none⟩, ⟨some 12, .mv (.c (.d (.bool false))), none⟩] [0, 1, 12])
 (.seq (.seq (.ops [] [⟨some 17, .fad false 1 1 (.t 6), none⟩, ⟨some 18, .ld false 1 (.t 17), none⟩, ⟨some 19, .len (.t 18), none⟩, ⟨some 20, .bin .gtr (.t 19) (.c (.d (.int .i64 12))), none⟩, ⟨some 21, .mv (.t 20), none⟩, ⟨some 22, .fad false 2 1 (.t 6), some (21, false)⟩, ⟨some 23, .ld false 1 (.t 22), some (21, false)⟩, ⟨some 24, .len (.t 23), some (21, false)⟩, ⟨some 25, .bin .gtr (.t 24) (.c (.d (.int .i64 12))), some (21, false)⟩, ⟨some 26, .pick (.t 21) (.c (.d (.bool true))) (.t 25), none⟩] [17, 18, 19, 20, 21, 22, 23, 24, 25])
 (.cond (.t 26) (.seq (.ops [] [⟨some 12, .mv (.c (.d (.bool true))), none⟩] [2, 3, 4, 5, 6, 7, 26])
 (.ret [12])) .skip))
 (.seq (.ops [] [⟨some 28, .mv (.t 4), none⟩, ⟨some 29, .mv (.t 5), none⟩, ⟨some 30, .call N_directory_New [] [.t 28, .t 29], none⟩, ⟨some 27, .mv (.t 30), none⟩, ⟨some 31, .ext (.t 27) 0, none⟩, ⟨some 32, .ext (.t 27) 1, none⟩, ⟨some 13, .alloc (.agg [.d (.int .i64 0), .xsl [], .xsl []]), none⟩, ⟨none, .st 3 (.t 13) (.t 31), none⟩, ⟨some 14, .mv (.t 32), none⟩] [26, 27, 28, 29, 30, 31, 32])
 (.seq (.ops [] [⟨some 34, .mv (.t 4), none⟩, ⟨some 35, .mv (.t 5), none⟩, ⟨some 36, .call N_ref10_New [] [.t 34, .t 35], none⟩, ⟨some 33, .mv (.t 36), none⟩, ⟨some 37, .ext (.t 33) 0, none⟩, ⟨some 38, .ext (.t 33) 1, none⟩, ⟨some 15, .alloc (.agg [.d (.int .i64 0), .xsl [], .xsl []]), none⟩, ⟨none, .st 3 (.t 15) (.t 37), none⟩, ⟨some 16, .mv (.t 38), none⟩] [4, 5, 33, 34, 35, 36, 37, 38])
 (.seq (.ops [] [⟨some 39, .mv (.t 14), none⟩, ⟨some 40, .mv (.t 16), none⟩, ⟨some 41, .bin .eql (.t 39) (.t 40), none⟩, ⟨some 42, .mv (.t 41), none⟩, ⟨some 43, .ld true 3 (.t 13), some (42, true)⟩, ⟨some 44, .ld true 3 (.t 15), some (42, true)⟩, ⟨some 45, .call N_ref10_Same [] [.t 43, .t 44], some (42, true)⟩, ⟨some 46, .pick (.t 42) (.t 45) (.c (.d (.bool false))), none⟩, ⟨some 47, .mv (.t 46), none⟩, ⟨some 48, .ld true 3 (.t 6), some (47, true)⟩, ⟨some 49, .ld true 4 (.t 7), some (47, true)⟩, ⟨some 50, .mv (.t 2), some (47, true)⟩, ⟨some 51, .mv (.t 3), some (47, true)⟩, ⟨some 52, .call N_law10_agrees [] [.t 48, .t 49, .t 50, .t 51], some (47, true)⟩, ⟨some 53, .pick (.t 47) (.t 52) (.c (.d (.bool false))), none⟩, ⟨some 54, .mv (.t 53), none⟩, ⟨some 55, .call N_law10_awake [] [], some (54, true)⟩, ⟨some 56, .pick (.t 54) (.t 55) (.c (.d (.bool false))), none⟩, ⟨some 12, .mv (.t 56), none⟩] [2, 3, 6, 7, 13, 14, 15, 16, 39, 40, 41, 42, 43, 44, 45, 46, 47, 48, 49, 50, 51, 52, 53, 54, 55, 56])
 (.ret [12]))))))
def r_law10_DirectoryRaw : List ARes := [.t 12]
def fn_law10_DirectoryRaw : AFn := .code c_law10_DirectoryRaw r_law10_DirectoryRaw 57 true
/- shardqueue/shardqueueref10.New -/
def l_ref10_New_0 : ACode :=
 (.seq (.seq (.ops [] [⟨some 22, .mv (.t 7), none⟩, ⟨some 23, .mv (.t 1), none⟩, ⟨some 24, .bin .lss (.t 22) (.t 23), none⟩] [22, 23])
 (.cond (.t 24) .skip (.exit 0 [0, 4, 6])))
 (.seq (.block 1 (.draw [] [⟨some 27, .fad false 1 1 (.t 6), none⟩, ⟨some 28, .ld false 1 (.t 27), none⟩, ⟨some 29, .mv (.t 7), none⟩, ⟨some 30, .bin .mul (.t 29) (.c (.d (.int .i64 65536))), none⟩, ⟨some 31, .mv (.t 1), none⟩, ⟨some 32, .bin .quo (.t 30) (.t 31), none⟩, ⟨some 33, .mv (.t 7), none⟩, ⟨some 34, .bin .add (.t 33) (.c (.d (.int .i64 1))), none⟩, ⟨some 35, .bin .mul (.t 34) (.c (.d (.int .i64 65536))), none⟩, ⟨some 36, .mv (.t 1), none⟩, ⟨some 37, .bin .quo (.t 35) (.t 36), none⟩, ⟨some 38, .bin .sub (.t 37) (.c (.d (.int .i64 1))), none⟩, ⟨some 39, .mv (.t 7), none⟩, ⟨some 40, .build [.d (.int .i64 0), .d (.int .i64 0), .d (.int .i64 0)] [(0, (1, .t 32)), (1, (1, .t 38)), (2, (1, .t 39))], none⟩, ⟨some 41, .bsl 1 3 (.d (.agg [.int .i64 0, .int .i64 0, .int .i64 0])) [(0, .t 40)], none⟩, ⟨some 42, .app 3 (.t 28) (.t 41), none⟩, ⟨some 43, .fad false 1 1 (.t 6), none⟩, ⟨none, .st 1 (.t 43) (.t 42), none⟩] [[], [], [0, 1], [0, 1], [0, 1, 2, 3], [0, 1], [0, 1, 2, 3, 4, 5], [0, 1, 2, 3, 4, 5], [0, 1, 2, 3, 4, 5], [0, 1, 2, 3, 4, 5, 6, 7, 8], [0, 1, 2, 3, 4, 5], [0, 1, 2, 3, 4, 5], [0, 1, 2, 3, 4, 5, 6, 7, 8, 9, 10, 11], [0, 1], [0, 1], [], [], []] [24, 27, 28, 29, 30, 31, 32, 33, 34, 35, 36, 37, 38, 39, 40, 41, 42, 43]))
 (.ops [4000042] [⟨some 25, .mv (.t 7), none⟩, ⟨some 26, .bin .add (.t 25) (.c (.d (.int .i64 1))), none⟩, ⟨some 7, .mv (.t 26), none⟩] [25, 26])))
def l_ref10_New_1 : ACode :=
 (.seq (.seq (.ops [] [⟨some 44, .mv (.t 8), none⟩, ⟨some 45, .mv (.t 0), none⟩, ⟨some 46, .bin .lss (.t 44) (.t 45), none⟩] [44, 45])
 (.cond (.t 46) .skip (.exit 2 [4, 6])))
 (.seq (.block 3 (.ops [] [⟨some 49, .fad false 2 1 (.t 6), none⟩, ⟨some 50, .ld false 1 (.t 49), none⟩, ⟨some 51, .bsl 1 1 (.d (.int .i64 0)) [(0, .c (.d (.int .i64 (-1))))], none⟩, ⟨some 52, .app 1 (.t 50) (.t 51), none⟩, ⟨some 53, .fad false 2 1 (.t 6), none⟩, ⟨none, .st 1 (.t 53) (.t 52), none⟩] [46, 49, 50, 51, 52, 53]))
 (.ops [] [⟨some 47, .mv (.t 8), none⟩, ⟨some 48, .bin .add (.t 47) (.c (.d (.int .i64 1))), none⟩, ⟨some 8, .mv (.t 48), none⟩] [47, 48])))
def c_ref10_New : ACode :=
 (.seq (.ops [] [⟨some 4, .alloc (.agg [.d (.int .i64 0), .xsl [], .xsl []]), none⟩, ⟨some 5, .mv (.c (.d (.int .i64 0))), none⟩] [5])
 (.seq (.seq (.ops [] [⟨some 9, .mv (.t 1), none⟩, ⟨some 10, .bin .lss (.t 9) (.c (.d (.int .i64 1))), none⟩, ⟨some 11, .mv (.t 10), none⟩, ⟨some 12, .mv (.t 1), some (11, false)⟩, ⟨some 13, .mv (.t 0), some (11, false)⟩, ⟨some 14, .bin .gtr (.t 12) (.t 13), some (11, false)⟩, ⟨some 15, .pick (.t 11) (.c (.d (.bool true))) (.t 14), none⟩, ⟨some 16, .mv (.t 15), none⟩, ⟨some 17, .mv (.t 0), some (16, false)⟩, ⟨some 18, .bin .gtr (.t 17) (.c (.d (.int .i64 6))), some (16, false)⟩, ⟨some 19, .pick (.t 16) (.c (.d (.bool true))) (.t 18), none⟩] [9, 10, 11, 12, 13, 14, 15, 16, 17, 18])
 (.cond (.t 19) (.seq (.ops [] [⟨some 20, .build [.d (.int .i64 0), .xsl [], .xsl []] [], none⟩, ⟨none, .st 3 (.t 4) (.t 20), none⟩, ⟨some 5, .mv (.c (.d (.int .i64 1))), none⟩] [0, 1, 19, 20])
 (.ret [4, 5])) .skip))
 (.seq (.ops [] [⟨some 21, .build [.d (.int .i64 0), .xsl [], .xsl []] [(0, (1, .c (.d (.int .i64 1))))], none⟩, ⟨some 6, .alloc (.agg [.d (.int .i64 0), .xsl [], .xsl []]), none⟩, ⟨none, .st 3 (.t 6) (.t 21), none⟩] [19, 21])
 (.seq (.seq (.ops [] [⟨some 7, .mv (.c (.d (.int .i64 0))), none⟩] [])
 (.block 0 (.loop [] l_ref10_New_0)))
 (.seq (.seq (.ops [] [⟨some 8, .mv (.c (.d (.int .i64 0))), none⟩] [1, 7, 24])
 (.block 2 (.loop [] l_ref10_New_1)))
 (.seq (.ops [] [⟨some 54, .ld true 3 (.t 6), none⟩, ⟨none, .st 3 (.t 4) (.t 54), none⟩, ⟨some 5, .mv (.c (.d (.int .i64 0))), none⟩] [0, 6, 8, 46, 54])
 (.ret [4, 5])))))))
def r_ref10_New : List ARes := [.c 4 true 3, .t 5]
def fn_ref10_New : AFn := .code c_ref10_New r_ref10_New 55 true
/- shardqueue/shardqueueref10.Same -/
def l_ref10_Same_0 : ACode :=
 (.seq (.seq (.ops [] [⟨some 30, .mv (.t 5), none⟩, ⟨some 31, .fad false 1 1 (.t 2), none⟩, ⟨some 32, .ld false 1 (.t 31), none⟩, ⟨some 33, .len (.t 32), none⟩, ⟨some 34, .bin .lss (.t 30) (.t 33), none⟩] [30, 31, 32, 33])
 (.cond (.t 34) .skip (.exit 0 [2, 3])))
 (.seq (.block 1 (.seq (.draw [] [⟨some 37, .fad false 1 1 (.t 2), none⟩, ⟨some 38, .ld false 1 (.t 37), none⟩, ⟨some 39, .mv (.t 5), none⟩, ⟨some 40, .iad 3 (.t 38) (.t 39), none⟩, ⟨some 41, .ld true 3 (.t 40), none⟩, ⟨some 42, .fad false 1 1 (.t 3), none⟩, ⟨some 43, .ld false 1 (.t 42), none⟩, ⟨some 44, .mv (.t 5), none⟩, ⟨some 45, .iad 3 (.t 43) (.t 44), none⟩, ⟨some 46, .ld true 3 (.t 45), none⟩, ⟨some 47, .eqs true 3 [(0, 0), (1, 0), (2, 0)] (.t 41) (.t 46), none⟩] [[], [], [0, 1], [], [], [0, 1, 2, 3, 4], [0, 1, 2, 3, 4], [0, 1, 2, 3, 4, 5, 6], [0, 1, 2, 3, 4], [0, 1, 2, 3, 4], []] [34, 37, 38, 39, 40, 41, 42, 43, 44, 45, 46])
 (.cond (.t 47) (.seq (.ops [] [⟨some 4, .mv (.c (.d (.bool false))), none⟩] [2, 3, 5, 47])
 (.ret [4])) .skip)))
 (.ops [] [⟨some 35, .mv (.t 5), none⟩, ⟨some 36, .bin .add (.t 35) (.c (.d (.int .i64 1))), none⟩, ⟨some 5, .mv (.t 36), none⟩] [35, 36, 47])))
def l_ref10_Same_1 : ACode :=
 (.seq (.seq (.ops [] [⟨some 48, .mv (.t 6), none⟩, ⟨some 49, .fad false 2 1 (.t 2), none⟩, ⟨some 50, .ld false 1 (.t 49), none⟩, ⟨some 51, .len (.t 50), none⟩, ⟨some 52, .bin .lss (.t 48) (.t 51), none⟩] [48, 49, 50, 51])
 (.cond (.t 52) .skip (.exit 2 [])))
 (.seq (.block 3 (.seq (.draw [] [⟨some 55, .fad false 2 1 (.t 2), none⟩, ⟨some 56, .ld false 1 (.t 55), none⟩, ⟨some 57, .mv (.t 6), none⟩, ⟨some 58, .iad 1 (.t 56) (.t 57), none⟩, ⟨some 59, .ld false 1 (.t 58), none⟩, ⟨some 60, .fad false 2 1 (.t 3), none⟩, ⟨some 61, .ld false 1 (.t 60), none⟩, ⟨some 62, .mv (.t 6), none⟩, ⟨some 63, .iad 1 (.t 61) (.t 62), none⟩, ⟨some 64, .ld false 1 (.t 63), none⟩, ⟨some 65, .bin .neq (.t 59) (.t 64), none⟩] [[], [], [0, 1], [], [], [0, 1, 2, 3, 4], [0, 1, 2, 3, 4], [0, 1, 2, 3, 4, 5, 6], [0, 1, 2, 3, 4], [0, 1, 2, 3, 4], []] [52, 55, 56, 57, 58, 59, 60, 61, 62, 63, 64])
 (.cond (.t 65) (.seq (.ops [] [⟨some 4, .mv (.c (.d (.bool false))), none⟩] [2, 3, 6, 65])
 (.ret [4])) .skip)))
 (.ops [] [⟨some 53, .mv (.t 6), none⟩, ⟨some 54, .bin .add (.t 53) (.c (.d (.int .i64 1))), none⟩, ⟨some 6, .mv (.t 54), none⟩] [53, 54, 65])))
def c_ref10_Same : ACode :=
 (.seq (.ops [] [⟨some 2, .box (.t 0), none⟩, ⟨some 3, .box (.t 1), none⟩, ⟨some 4, .mv (.c (.d (.bool false))), none⟩] [0, 1, 4])
 (.seq (.seq (.ops [] [⟨some 7, .fad false 0 1 (.t 2), none⟩, ⟨some 8, .ld false 1 (.t 7), none⟩, ⟨some 9, .fad false 0 1 (.t 3), none⟩, ⟨some 10, .ld false 1 (.t 9), none⟩, ⟨some 11, .bin .neq (.t 8) (.t 10), none⟩, ⟨some 12, .mv (.t 11), none⟩, ⟨some 13, .fad false 1 1 (.t 2), some (12, false)⟩, ⟨some 14, .ld false 1 (.t 13), some (12, false)⟩, ⟨some 15, .len (.t 14), some (12, false)⟩, ⟨some 16, .fad false 1 1 (.t 3), some (12, false)⟩, ⟨some 17, .ld false 1 (.t 16), some (12, false)⟩, ⟨some 18, .len (.t 17), some (12, false)⟩, ⟨some 19, .bin .neq (.t 15) (.t 18), some (12, false)⟩, ⟨some 20, .pick (.t 12) (.c (.d (.bool true))) (.t 19), none⟩, ⟨some 21, .mv (.t 20), none⟩, ⟨some 22, .fad false 2 1 (.t 2), some (21, false)⟩, ⟨some 23, .ld false 1 (.t 22), some (21, false)⟩, ⟨some 24, .len (.t 23), some (21, false)⟩, ⟨some 25, .fad false 2 1 (.t 3), some (21, false)⟩, ⟨some 26, .ld false 1 (.t 25), some (21, false)⟩, ⟨some 27, .len (.t 26), some (21, false)⟩, ⟨some 28, .bin .neq (.t 24) (.t 27), some (21, false)⟩, ⟨some 29, .pick (.t 21) (.c (.d (.bool true))) (.t 28), none⟩] [7, 8, 9, 10, 11, 12, 13, 14, 15, 16, 17, 18, 19, 20, 21, 22, 23, 24, 25, 26, 27, 28])
 (.cond (.t 29) (.seq (.ops [] [⟨some 4, .mv (.c (.d (.bool false))), none⟩] [2, 3, 29])
 (.ret [4])) .skip))
 (.seq (.seq (.ops [] [⟨some 5, .mv (.c (.d (.int .i64 0))), none⟩] [29])
 (.block 0 (.loop [] l_ref10_Same_0)))
 (.seq (.seq (.ops [] [⟨some 6, .mv (.c (.d (.int .i64 0))), none⟩] [5, 34])
 (.block 2 (.loop [] l_ref10_Same_1)))
 (.seq (.ops [] [⟨some 4, .mv (.c (.d (.bool true))), none⟩] [2, 3, 6, 52])
 (.ret [4]))))))
def r_ref10_Same : List ARes := [.t 4]
def fn_ref10_Same : AFn := .code c_ref10_Same r_ref10_Same 66 true
/- shardqueue/shardqueuelaw10.agrees -/
def c_law10_agrees : ACode :=
 (.seq (.ops [] [⟨some 4, .box (.t 0), none⟩, ⟨some 5, .box (.t 1), none⟩, ⟨some 8, .mv (.c (.d (.bool false))), none⟩] [0, 1, 8])
 (.seq (.ops [] [⟨some 18, .ld true 3 (.t 4), none⟩, ⟨some 19, .ld true 4 (.t 5), none⟩, ⟨some 20, .call N_directory_Apply [] [.t 18, .t 19], none⟩, ⟨some 17, .mv (.t 20), none⟩, ⟨some 21, .ext (.t 17) 0, none⟩, ⟨some 22, .ext (.t 17) 1, none⟩, ⟨some 9, .alloc (.agg [.d (.int .i64 0), .xsl [], .xsl []]), none⟩, ⟨none, .st 3 (.t 9) (.t 21), none⟩, ⟨some 10, .mv (.t 22), none⟩] [17, 18, 19, 20, 21, 22])
 (.seq (.ops [] [⟨some 24, .ld true 3 (.t 4), none⟩, ⟨some 25, .ld true 4 (.t 5), none⟩, ⟨some 26, .call N_ref10_Apply [] [.t 24, .t 25], none⟩, ⟨some 23, .mv (.t 26), none⟩, ⟨some 27, .ext (.t 23) 0, none⟩, ⟨some 28, .ext (.t 23) 1, none⟩, ⟨some 11, .alloc (.agg [.d (.int .i64 0), .xsl [], .xsl []]), none⟩, ⟨none, .st 3 (.t 11) (.t 27), none⟩, ⟨some 12, .mv (.t 28), none⟩] [5, 23, 24, 25, 26, 27, 28])
 (.seq (.ops [] [⟨some 30, .ld true 3 (.t 4), none⟩, ⟨some 31, .mv (.t 3), none⟩, ⟨some 32, .call N_directory_Span [] [.t 30, .t 31], none⟩, ⟨some 29, .mv (.t 32), none⟩, ⟨some 33, .ext (.t 29) 0, none⟩, ⟨some 34, .ext (.t 29) 1, none⟩, ⟨some 13, .alloc (.d (.agg [.int .i64 0, .int .i64 0, .int .i64 0])), none⟩, ⟨none, .st 3 (.t 13) (.t 33), none⟩, ⟨some 14, .mv (.t 34), none⟩] [29, 30, 31, 32, 33, 34])
 (.seq (.ops [] [⟨some 36, .ld true 3 (.t 4), none⟩, ⟨some 37, .mv (.t 3), none⟩, ⟨some 38, .call N_ref10_Span [] [.t 36, .t 37], none⟩, ⟨some 35, .mv (.t 38), none⟩, ⟨some 39, .ext (.t 35) 0, none⟩, ⟨some 40, .ext (.t 35) 1, none⟩, ⟨some 15, .alloc (.d (.agg [.int .i64 0, .int .i64 0, .int .i64 0])), none⟩, ⟨none, .st 3 (.t 15) (.t 39), none⟩, ⟨some 16, .mv (.t 40), none⟩] [35, 36, 37, 38, 39, 40])
 (.seq (.draw [] [⟨some 41, .mv (.t 10), none⟩, ⟨some 42, .mv (.t 12), none⟩, ⟨some 43, .bin .eql (.t 41) (.t 42), none⟩, ⟨some 44, .mv (.t 43), none⟩, ⟨some 45, .ld true 3 (.t 9), some (44, true)⟩, ⟨some 46, .ld true 3 (.t 11), some (44, true)⟩, ⟨some 47, .call N_ref10_Same [] [.t 45, .t 46], some (44, true)⟩, ⟨some 48, .pick (.t 44) (.t 47) (.c (.d (.bool false))), none⟩, ⟨some 49, .mv (.t 48), none⟩, ⟨some 50, .ld true 3 (.t 13), some (49, true)⟩, ⟨some 51, .ld true 3 (.t 15), some (49, true)⟩, ⟨some 52, .eqs false 3 [(0, 0), (1, 0), (2, 0)] (.t 50) (.t 51), some (49, true)⟩, ⟨some 53, .pick (.t 49) (.t 52) (.c (.d (.bool false))), none⟩, ⟨some 54, .mv (.t 53), none⟩, ⟨some 55, .mv (.t 14), some (54, true)⟩, ⟨some 56, .mv (.t 16), some (54, true)⟩, ⟨some 57, .eqb false (.t 55) (.t 56), some (54, true)⟩, ⟨some 58, .pick (.t 54) (.t 57) (.c (.d (.bool false))), none⟩, ⟨some 59, .mv (.t 58), none⟩, ⟨some 60, .ld true 3 (.t 4), some (59, true)⟩, ⟨some 61, .call N_directory_Validate [] [.t 60], some (59, true)⟩, ⟨some 62, .ld true 3 (.t 4), some (59, true)⟩, ⟨some 63, .call N_ref10_Validate [] [.t 62], some (59, true)⟩, ⟨some 64, .bin .eql (.t 61) (.t 63), some (59, true)⟩, ⟨some 65, .pick (.t 59) (.t 64) (.c (.d (.bool false))), none⟩, ⟨some 66, .mv (.t 65), none⟩, ⟨some 67, .ld true 3 (.t 4), some (66, true)⟩, ⟨some 68, .mv (.t 2), some (66, true)⟩, ⟨some 69, .call N_directory_Owner [] [.t 67, .t 68], some (66, true)⟩, ⟨some 70, .ld true 3 (.t 4), some (66, true)⟩, ⟨some 71, .mv (.t 2), some (66, true)⟩, ⟨some 72, .call N_ref10_Owner [] [.t 70, .t 71], some (66, true)⟩, ⟨some 73, .bin .eql (.t 69) (.t 72), some (66, true)⟩, ⟨some 74, .pick (.t 66) (.t 73) (.c (.d (.bool false))), none⟩, ⟨some 75, .mv (.t 74), none⟩, ⟨some 76, .ld true 3 (.t 4), some (75, true)⟩, ⟨some 77, .mv (.t 3), some (75, true)⟩, ⟨some 78, .call N_directory_Home [] [.t 76, .t 77], some (75, true)⟩, ⟨some 79, .ld true 3 (.t 4), some (75, true)⟩, ⟨some 80, .mv (.t 3), some (75, true)⟩, ⟨some 81, .call N_ref10_Home [] [.t 79, .t 80], some (75, true)⟩, ⟨some 82, .bin .eql (.t 78) (.t 81), some (75, true)⟩, ⟨some 83, .pick (.t 75) (.t 82) (.c (.d (.bool false))), none⟩, ⟨some 8, .mv (.t 83), none⟩] [[], [0], [], [], [], [4], [], [], [], [], [9], [], [], [], [], [14], [], [], [], [], [], [19, 20], [], [], [], [], [], [26], [], [26, 27, 28], [26, 27, 28, 29], [], [], [], [], [], [35], [], [35, 36, 37], [35, 36, 37, 38], [], [], [], []] [2, 3, 4, 9, 10, 11, 12, 13, 14, 15, 16, 41, 42, 43, 44, 45, 46, 47, 48, 49, 50, 51, 52, 53, 54, 55, 56, 57, 58, 59, 60, 61, 62, 63, 64, 65, 66, 67, 68, 69, 70, 71, 72, 73, 74, 75, 76, 77, 78, 79, 80, 81, 82, 83])
 (.ret [8])))))))
def r_law10_agrees : List ARes := [.t 8]
def fn_law10_agrees : AFn := .code c_law10_agrees r_law10_agrees 84 true
/- shardqueue/shardqueueref10.Apply -/
def c_ref10_Apply : ACode :=
 (.seq (.ops [] [⟨some 2, .box (.t 0), none⟩, ⟨some 3, .box (.t 1), none⟩, ⟨some 4, .alloc (.agg [.d (.int .i64 0), .xsl [], .xsl []]), none⟩, ⟨some 5, .mv (.c (.d (.int .i64 0))), none⟩] [0, 1, 5])
 (.seq (.seq (.ops [] [⟨some 13, .ld true 3 (.t 2), none⟩, ⟨some 14, .call N_ref10_Validate [] [.t 13], none⟩, ⟨some 6, .mv (.t 14), none⟩] [13, 14])
 (.seq (.ops [] [⟨some 15, .mv (.t 6), none⟩, ⟨some 16, .bin .neq (.t 15) (.c (.d (.int .i64 0))), none⟩] [15])
 (.cond (.t 16) (.seq (.ops [] [⟨some 17, .build [.d (.int .i64 0), .xsl [], .xsl []] [], none⟩, ⟨some 18, .mv (.t 6), none⟩, ⟨none, .st 3 (.t 4) (.t 17), none⟩, ⟨some 5, .mv (.t 18), none⟩] [2, 3, 6, 16, 17, 18])
 (.ret [4, 5])) .skip)))
 (.seq (.ops [] [⟨some 19, .fad false 2 1 (.t 2), none⟩, ⟨some 20, .ld false 1 (.t 19), none⟩, ⟨some 21, .len (.t 20), none⟩, ⟨some 7, .mv (.t 21), none⟩] [6, 16, 19, 20, 21])
 (.seq (.block 0 (.seq (.ops [] [⟨some 23, .fad false 0 1 (.t 2), none⟩, ⟨some 24, .ld false 1 (.t 23), none⟩, ⟨some 25, .bin .eql (.t 24) (.c (.d (.int .i64 1099511627776))), none⟩, ⟨some 22, .mv (.t 25), none⟩] [23, 24, 25])
 (.cond (.t 22) (.seq (.ops [] [⟨some 26, .build [.d (.int .i64 0), .xsl [], .xsl []] [], none⟩, ⟨none, .st 3 (.t 4) (.t 26), none⟩, ⟨some 5, .mv (.c (.d (.int .i64 6))), none⟩] [2, 3, 7, 22, 26])
 (.ret [4, 5])) (.seq (.ops [] [⟨some 28, .fad false 0 1 (.t 3), none⟩, ⟨some 29, .ld false 1 (.t 28), none⟩, ⟨some 30, .bin .neq (.t 29) (.c (.d (.int .i64 1))), none⟩, ⟨some 31, .mv (.t 30), none⟩, ⟨some 32, .fad false 0 1 (.t 3), some (31, true)⟩, ⟨some 33, .ld false 1 (.t 32), some (31, true)⟩, ⟨some 34, .bin .neq (.t 33) (.c (.d (.int .i64 2))), some (31, true)⟩, ⟨some 35, .pick (.t 31) (.t 34) (.c (.d (.bool false))), none⟩, ⟨some 27, .mv (.t 35), none⟩] [22, 28, 29, 30, 31, 32, 33, 34, 35])
 (.cond (.t 27) (.seq (.ops [] [⟨some 36, .build [.d (.int .i64 0), .xsl [], .xsl []] [], none⟩, ⟨none, .st 3 (.t 4) (.t 36), none⟩, ⟨some 5, .mv (.c (.d (.int .i64 9))), none⟩] [2, 3, 7, 27, 36])
 (.ret [4, 5])) (.seq (.ops [] [⟨some 38, .fad false 1 1 (.t 3), none⟩, ⟨some 39, .ld false 1 (.t 38), none⟩, ⟨some 40, .bin .lss (.t 39) (.c (.d (.int .i64 0))), none⟩, ⟨some 41, .mv (.t 40), none⟩, ⟨some 42, .fad false 1 1 (.t 3), some (41, false)⟩, ⟨some 43, .ld false 1 (.t 42), some (41, false)⟩, ⟨some 44, .mv (.t 7), some (41, false)⟩, ⟨some 45, .bin .geq (.t 43) (.t 44), some (41, false)⟩, ⟨some 46, .pick (.t 41) (.c (.d (.bool true))) (.t 45), none⟩, ⟨some 47, .mv (.t 46), none⟩, ⟨some 48, .fad false 2 1 (.t 3), some (47, false)⟩, ⟨some 49, .ld false 1 (.t 48), some (47, false)⟩, ⟨some 50, .bin .lss (.t 49) (.c (.d (.int .i64 0))), some (47, false)⟩, ⟨some 51, .pick (.t 47) (.c (.d (.bool true))) (.t 50), none⟩, ⟨some 52, .mv (.t 51), none⟩, ⟨some 53, .fad false 2 1 (.t 3), some (52, false)⟩, ⟨some 54, .ld false 1 (.t 53), some (52, false)⟩, ⟨some 55, .mv (.t 7), some (52, false)⟩, ⟨some 56, .bin .geq (.t 54) (.t 55), some (52, false)⟩, ⟨some 57, .pick (.t 52) (.c (.d (.bool true))) (.t 56), none⟩, ⟨some 37, .mv (.t 57), none⟩] [7, 27, 38, 39, 40, 41, 42, 43, 44, 45, 46, 47, 48, 49, 50, 51, 52, 53, 54, 55, 56, 57])
 (.cond (.t 37) (.seq (.ops [] [⟨some 58, .build [.d (.int .i64 0), .xsl [], .xsl []] [], none⟩, ⟨none, .st 3 (.t 4) (.t 58), none⟩, ⟨some 5, .mv (.c (.d (.int .i64 4))), none⟩] [2, 3, 37, 58])
 (.ret [4, 5])) .skip)))))))
 (.seq (.draw [] [⟨some 59, .ld true 3 (.t 2), none⟩, ⟨some 60, .fad false 1 1 (.t 3), none⟩, ⟨some 61, .ld false 1 (.t 60), none⟩, ⟨some 62, .call N_ref10_index [] [.t 59, .t 61], none⟩, ⟨some 63, .ld true 3 (.t 2), none⟩, ⟨some 64, .fad false 2 1 (.t 3), none⟩, ⟨some 65, .ld false 1 (.t 64), none⟩, ⟨some 66, .call N_ref10_index [] [.t 63, .t 65], none⟩, ⟨some 8, .mv (.t 62), none⟩, ⟨some 9, .mv (.t 66), none⟩] [[], [0], [0], [], [0, 1, 2, 3], [0, 1, 2, 3, 4], [0, 1, 2, 3, 4], [], [], []] [37, 59, 60, 61, 62, 63, 64, 65, 66])
 (.seq (.draw [] [⟨some 67, .fad false 0 1 (.t 2), none⟩, ⟨some 68, .ld false 1 (.t 67), none⟩, ⟨some 69, .bin .add (.t 68) (.c (.d (.int .i64 1))), none⟩, ⟨some 70, .fad false 2 1 (.t 2), none⟩, ⟨some 71, .ld false 1 (.t 70), none⟩, ⟨some 72, .app 1 (.c (.xsl [])) (.t 71), none⟩, ⟨some 73, .build [.d (.int .i64 0), .xsl [], .xsl []] [(0, (1, .t 69)), (2, (1, .t 72))], none⟩, ⟨some 10, .alloc (.agg [.d (.int .i64 0), .xsl [], .xsl []]), none⟩, ⟨none, .st 3 (.t 10) (.t 73), none⟩] [[], [], [], [0, 1, 2], [0, 1, 2], [0, 1, 2], [], [0, 1, 2, 3, 4, 5, 6], []] [67, 68, 69, 70, 71, 72, 73])
 (.seq (.seq (.ops [] [⟨some 74, .fad false 0 1 (.t 3), none⟩, ⟨some 75, .ld false 1 (.t 74), none⟩, ⟨some 76, .bin .eql (.t 75) (.c (.d (.int .i64 1))), none⟩] [74, 75])
 (.cond (.t 76) (.seq (.seq (.ops [] [⟨some 77, .mv (.t 8), none⟩, ⟨some 78, .bin .lss (.t 77) (.c (.d (.int .i64 0))), none⟩, ⟨some 79, .mv (.t 78), none⟩, ⟨some 80, .mv (.t 9), some (79, false)⟩, ⟨some 81, .bin .geq (.t 80) (.c (.d (.int .i64 0))), some (79, false)⟩, ⟨some 82, .pick (.t 79) (.c (.d (.bool true))) (.t 81), none⟩] [9, 76, 77, 78, 79, 80, 81])
 (.cond (.t 82) (.seq (.ops [] [⟨some 83, .build [.d (.int .i64 0), .xsl [], .xsl []] [], none⟩, ⟨none, .st 3 (.t 4) (.t 83), none⟩, ⟨some 5, .mv (.c (.d (.int .i64 7))), none⟩] [2, 3, 8, 10, 82, 83])
 (.ret [4, 5])) .skip))
 (.seq (.ops [] [⟨some 84, .fad false 1 1 (.t 2), none⟩, ⟨some 85, .ld false 1 (.t 84), none⟩, ⟨some 86, .mv (.t 8), none⟩, ⟨some 87, .iad 3 (.t 85) (.t 86), none⟩, ⟨some 88, .ld true 3 (.t 87), none⟩, ⟨some 11, .alloc (.d (.agg [.int .i64 0, .int .i64 0, .int .i64 0])), none⟩, ⟨none, .st 3 (.t 11) (.t 88), none⟩] [82, 84, 85, 86, 87, 88])
 (.seq (.seq (.ops [] [⟨some 89, .fad false 3 1 (.t 3), none⟩, ⟨some 90, .ld false 1 (.t 89), none⟩, ⟨some 91, .fad false 0 1 (.t 11), none⟩, ⟨some 92, .ld false 1 (.t 91), none⟩, ⟨some 93, .bin .lss (.t 90) (.t 92), none⟩, ⟨some 94, .mv (.t 93), none⟩, ⟨some 95, .fad false 3 1 (.t 3), some (94, false)⟩, ⟨some 96, .ld false 1 (.t 95), some (94, false)⟩, ⟨some 97, .fad false 1 1 (.t 11), some (94, false)⟩, ⟨some 98, .ld false 1 (.t 97), some (94, false)⟩, ⟨some 99, .bin .geq (.t 96) (.t 98), some (94, false)⟩, ⟨some 100, .pick (.t 94) (.c (.d (.bool true))) (.t 99), none⟩] [89, 90, 91, 92, 93, 94, 95, 96, 97, 98, 99])
 (.cond (.t 100) (.seq (.ops [] [⟨some 101, .build [.d (.int .i64 0), .xsl [], .xsl []] [], none⟩, ⟨none, .st 3 (.t 4) (.t 101), none⟩, ⟨some 5, .mv (.c (.d (.int .i64 1))), none⟩] [2, 3, 8, 10, 11, 100, 101])
 (.ret [4, 5])) .skip))
 (.seq (.draw [] [⟨some 102, .fad false 1 1 (.t 2), none⟩, ⟨some 103, .ld false 1 (.t 102), none⟩, ⟨some 104, .mv (.t 8), none⟩, ⟨some 105, .slc 3 (.t 103) none (some (.t 104)) none, none⟩, ⟨some 106, .app 3 (.c (.xsl [])) (.t 105), none⟩, ⟨some 107, .fad false 0 1 (.t 11), none⟩, ⟨some 108, .ld false 1 (.t 107), none⟩, ⟨some 109, .fad false 3 1 (.t 3), none⟩, ⟨some 110, .ld false 1 (.t 109), none⟩, ⟨some 111, .fad false 1 1 (.t 3), none⟩, ⟨some 112, .ld false 1 (.t 111), none⟩, ⟨some 113, .build [.d (.int .i64 0), .d (.int .i64 0), .d (.int .i64 0)] [(0, (1, .t 108)), (1, (1, .t 110)), (2, (1, .t 112))], none⟩, ⟨some 114, .fad false 3 1 (.t 3), none⟩, ⟨some 115, .ld false 1 (.t 114), none⟩, ⟨some 116, .bin .add (.t 115) (.c (.d (.int .i64 1))), none⟩, ⟨some 117, .fad false 1 1 (.t 11), none⟩, ⟨some 118, .ld false 1 (.t 117), none⟩, ⟨some 119, .fad false 2 1 (.t 3), none⟩, ⟨some 120, .ld false 1 (.t 119), none⟩, ⟨some 121, .build [.d (.int .i64 0), .d (.int .i64 0), .d (.int .i64 0)] [(0, (1, .t 116)), (1, (1, .t 118)), (2, (1, .t 120))], none⟩, ⟨some 122, .bsl 2 3 (.d (.agg [.int .i64 0, .int .i64 0, .int .i64 0])) [(0, .t 113), (1, .t 121)], none⟩, ⟨some 123, .app 3 (.t 106) (.t 122), none⟩, ⟨some 124, .fad false 1 1 (.t 10), none⟩, ⟨none, .st 1 (.t 124) (.t 123), none⟩] [[], [], [0, 1], [], [], [0, 1, 2, 3, 4], [0, 1, 2, 3, 4], [0, 1, 2, 3, 4, 5, 6], [0, 1, 2, 3, 4, 5, 6], [0, 1, 2, 3, 4, 5, 6, 7, 8], [0, 1, 2, 3, 4, 5, 6, 7, 8], [0, 1, 2, 3, 4], [0, 1, 2, 3, 4, 5, 6, 7, 8, 9, 10, 11], [0, 1, 2, 3, 4, 5, 6, 7, 8, 9, 10, 11], [0, 1, 2, 3, 4, 5, 6, 7, 8, 9, 10, 11], [0, 1, 2, 3, 4, 5, 6, 7, 8, 9, 10, 11, 12, 13, 14], [0, 1, 2, 3, 4, 5, 6, 7, 8, 9, 10, 11, 12, 13, 14], [0, 1, 2, 3, 4, 5, 6, 7, 8, 9, 10, 11, 12, 13, 14, 15, 16], [0, 1, 2, 3, 4, 5, 6, 7, 8, 9, 10, 11, 12, 13, 14, 15, 16], [0, 1, 2, 3, 4, 5, 6, 7, 8, 9, 10, 11], [0, 1, 2, 3, 4], [], [], []] [11, 100, 102, 103, 104, 105, 106, 107, 108, 109, 110, 111, 112, 113, 114, 115, 116, 117, 118, 119, 120, 121, 122, 123, 124])
 (.seq (.draw [] [⟨some 125, .fad false 1 1 (.t 10), none⟩, ⟨some 126, .ld false 1 (.t 125), none⟩, ⟨some 127, .fad false 1 1 (.t 2), none⟩, ⟨some 128, .ld false 1 (.t 127), none⟩, ⟨some 129, .mv (.t 8), none⟩, ⟨some 130, .bin .add (.t 129) (.c (.d (.int .i64 1))), none⟩, ⟨some 131, .slc 3 (.t 128) (some (.t 130)) none none, none⟩, ⟨some 132, .app 3 (.t 126) (.t 131), none⟩, ⟨some 133, .fad false 1 1 (.t 10), none⟩, ⟨none, .st 1 (.t 133) (.t 132), none⟩] [[], [], [0, 1], [0, 1], [0, 1, 2, 3], [0, 1, 2, 3], [0, 1], [], [], []] [2, 8, 125, 126, 127, 128, 129, 130, 131, 132, 133])
 (.seq (.ops [144] [⟨some 134, .fad false 2 1 (.t 10), none⟩, ⟨some 135, .ld false 1 (.t 134), none⟩, ⟨some 136, .fad false 2 1 (.t 3), none⟩, ⟨some 137, .ld false 1 (.t 136), none⟩, ⟨some 138, .iad 1 (.t 135) (.t 137), none⟩, ⟨none, .st 1 (.t 138) (.c (.d (.int .i64 (-1)))), none⟩] [3, 134, 135, 136, 137, 138])
 (.seq (.ops [] [⟨some 139, .ld true 3 (.t 10), none⟩, ⟨none, .st 3 (.t 4) (.t 139), none⟩, ⟨some 5, .mv (.c (.d (.int .i64 0))), none⟩] [10, 139])
 (.ret [4, 5])))))))) .skip))
 (.seq (.seq (.ops [] [⟨some 140, .mv (.t 8), none⟩, ⟨some 141, .bin .lss (.t 140) (.c (.d (.int .i64 0))), none⟩, ⟨some 142, .mv (.t 141), none⟩, ⟨some 143, .mv (.t 9), some (142, false)⟩, ⟨some 144, .bin .lss (.t 143) (.c (.d (.int .i64 0))), some (142, false)⟩, ⟨some 145, .pick (.t 142) (.c (.d (.bool true))) (.t 144), none⟩, ⟨some 146, .mv (.t 145), none⟩, ⟨some 147, .mv (.t 8), some (146, false)⟩, ⟨some 148, .mv (.t 9), some (146, false)⟩, ⟨some 149, .bin .sub (.t 147) (.t 148), some (146, false)⟩, ⟨some 150, .bin .neq (.t 149) (.c (.d (.int .i64 1))), some (146, false)⟩, ⟨some 151, .mv (.t 150), some (146, false)⟩, ⟨some 152, .mv (.t 9), some (151, true)⟩, ⟨some 153, .mv (.t 8), some (151, true)⟩, ⟨some 154, .bin .sub (.t 152) (.t 153), some (151, true)⟩, ⟨some 155, .bin .neq (.t 154) (.c (.d (.int .i64 1))), some (151, true)⟩, ⟨some 156, .pick (.t 151) (.t 155) (.c (.d (.bool false))), some (146, false)⟩, ⟨some 157, .pick (.t 146) (.c (.d (.bool true))) (.t 156), none⟩] [76, 140, 141, 142, 143, 144, 145, 146, 147, 148, 149, 150, 151, 152, 153, 154, 155, 156])
 (.cond (.t 157) (.seq (.ops [] [⟨some 158, .build [.d (.int .i64 0), .xsl [], .xsl []] [], none⟩, ⟨none, .st 3 (.t 4) (.t 158), none⟩, ⟨some 5, .mv (.c (.d (.int .i64 7))), none⟩] [2, 3, 8, 9, 10, 157, 158])
 (.ret [4, 5])) .skip))
 (.seq (.ops [] [⟨some 159, .mv (.t 8), none⟩, ⟨some 160, .mv (.t 9), none⟩, ⟨some 161, .mm false [.t 159, .t 160], none⟩, ⟨some 12, .mv (.t 161), none⟩] [8, 9, 157, 159, 160, 161])
 (.seq (.draw [] [⟨some 162, .fad false 1 1 (.t 2), none⟩, ⟨some 163, .ld false 1 (.t 162), none⟩, ⟨some 164, .mv (.t 12), none⟩, ⟨some 165, .slc 3 (.t 163) none (some (.t 164)) none, none⟩, ⟨some 166, .app 3 (.c (.xsl [])) (.t 165), none⟩, ⟨some 167, .fad false 1 1 (.t 2), none⟩, ⟨some 168, .ld false 1 (.t 167), none⟩, ⟨some 169, .mv (.t 12), none⟩, ⟨some 170, .iad 3 (.t 168) (.t 169), none⟩, ⟨some 171, .fad false 0 1 (.t 170), none⟩, ⟨some 172, .ld false 1 (.t 171), none⟩, ⟨some 173, .fad false 1 1 (.t 2), none⟩, ⟨some 174, .ld false 1 (.t 173), none⟩, ⟨some 175, .mv (.t 12), none⟩, ⟨some 176, .bin .add (.t 175) (.c (.d (.int .i64 1))), none⟩, ⟨some 177, .iad 3 (.t 174) (.t 176), none⟩, ⟨some 178, .fad false 1 1 (.t 177), none⟩, ⟨some 179, .ld false 1 (.t 178), none⟩, ⟨some 180, .fad false 2 1 (.t 3), none⟩, ⟨some 181, .ld false 1 (.t 180), none⟩, ⟨some 182, .build [.d (.int .i64 0), .d (.int .i64 0), .d (.int .i64 0)] [(0, (1, .t 172)), (1, (1, .t 179)), (2, (1, .t 181))], none⟩, ⟨some 183, .bsl 1 3 (.d (.agg [.int .i64 0, .int .i64 0, .int .i64 0])) [(0, .t 182)], none⟩, ⟨some 184, .app 3 (.t 166) (.t 183), none⟩, ⟨some 185, .fad false 1 1 (.t 10), none⟩, ⟨none, .st 1 (.t 185) (.t 184), none⟩] [[], [], [0, 1], [], [], [0, 1, 2, 3, 4], [0, 1, 2, 3, 4], [0, 1, 2, 3, 4, 5, 6], [0, 1, 2, 3, 4], [0, 1, 2, 3, 4], [0, 1, 2, 3, 4], [0, 1, 2, 3, 4, 5, 6, 7, 8, 9, 10], [0, 1, 2, 3, 4, 5, 6, 7, 8, 9, 10], [0, 1, 2, 3, 4, 5, 6, 7, 8, 9, 10, 11, 12], [0, 1, 2, 3, 4, 5, 6, 7, 8, 9, 10, 11, 12], [0, 1, 2, 3, 4, 5, 6, 7, 8, 9, 10], [0, 1, 2, 3, 4, 5, 6, 7, 8, 9, 10], [0, 1, 2, 3, 4, 5, 6, 7, 8, 9, 10], [0, 1, 2, 3, 4, 5, 6, 7, 8, 9, 10, 11, 12, 13, 14, 15, 16, 17], [0, 1, 2, 3, 4, 5, 6, 7, 8, 9, 10, 11, 12, 13, 14, 15, 16, 17], [0, 1, 2, 3, 4], [0, 1, 2, 3, 4], [], [], []] [162, 163, 164, 165, 166, 167, 168, 169, 170, 171, 172, 173, 174, 175, 176, 177, 178, 179, 180, 181, 182, 183, 184, 185])
 (.seq (.draw [] [⟨some 186, .fad false 1 1 (.t 10), none⟩, ⟨some 187, .ld false 1 (.t 186), none⟩, ⟨some 188, .fad false 1 1 (.t 2), none⟩, ⟨some 189, .ld false 1 (.t 188), none⟩, ⟨some 190, .mv (.t 12), none⟩, ⟨some 191, .bin .add (.t 190) (.c (.d (.int .i64 2))), none⟩, ⟨some 192, .slc 3 (.t 189) (some (.t 191)) none none, none⟩, ⟨some 193, .app 3 (.t 187) (.t 192), none⟩, ⟨some 194, .fad false 1 1 (.t 10), none⟩, ⟨none, .st 1 (.t 194) (.t 193), none⟩] [[], [], [0, 1], [0, 1], [0, 1, 2, 3], [0, 1, 2, 3], [0, 1], [], [], []] [2, 12, 186, 187, 188, 189, 190, 191, 192, 193, 194])
 (.seq (.ops [144] [⟨some 195, .fad false 2 1 (.t 10), none⟩, ⟨some 196, .ld false 1 (.t 195), none⟩, ⟨some 197, .fad false 1 1 (.t 3), none⟩, ⟨some 198, .ld false 1 (.t 197), none⟩, ⟨some 199, .fad false 2 1 (.t 3), none⟩, ⟨some 200, .ld false 1 (.t 199), none⟩, ⟨some 201, .iad 1 (.t 196) (.t 198), none⟩, ⟨none, .st 1 (.t 201) (.t 200), none⟩] [3, 195, 196, 197, 198, 199, 200, 201])
 (.seq (.ops [] [⟨some 202, .ld true 3 (.t 10), none⟩, ⟨none, .st 3 (.t 4) (.t 202), none⟩, ⟨some 5, .mv (.c (.d (.int .i64 0))), none⟩] [10, 202])
 (.ret [4, 5]))))))))))))))
def r_ref10_Apply : List ARes := [.c 4 true 3, .t 5]
def fn_ref10_Apply : AFn := .code c_ref10_Apply r_ref10_Apply 203 true
/- shardqueue/shardqueueref10.Validate -/
def l_ref10_Validate_0 : ACode :=
 (.seq (.seq (.ops [] [⟨some 32, .mv (.t 5), none⟩, ⟨some 33, .fad false 1 1 (.t 1), none⟩, ⟨some 34, .ld false 1 (.t 33), none⟩, ⟨some 35, .len (.t 34), none⟩, ⟨some 36, .bin .lss (.t 32) (.t 35), none⟩] [32, 33, 34, 35])
 (.cond (.t 36) .skip (.exit 0 [1, 3, 4])))
 (.seq (.block 1 (.seq (.ops [] [⟨some 39, .fad false 1 1 (.t 1), none⟩, ⟨some 40, .ld false 1 (.t 39), none⟩, ⟨some 41, .mv (.t 5), none⟩, ⟨some 42, .iad 3 (.t 40) (.t 41), none⟩, ⟨some 43, .ld true 3 (.t 42), none⟩, ⟨some 6, .alloc (.d (.agg [.int .i64 0, .int .i64 0, .int .i64 0])), none⟩, ⟨none, .st 3 (.t 6) (.t 43), none⟩] [36, 39, 40, 41, 42, 43])
 (.seq (.seq (.ops [] [⟨some 44, .fad false 0 1 (.t 6), none⟩, ⟨some 45, .ld false 1 (.t 44), none⟩, ⟨some 46, .mv (.t 4), none⟩, ⟨some 47, .bin .neq (.t 45) (.t 46), none⟩, ⟨some 48, .mv (.t 47), none⟩, ⟨some 49, .fad false 1 1 (.t 6), some (48, false)⟩, ⟨some 50, .ld false 1 (.t 49), some (48, false)⟩, ⟨some 51, .fad false 0 1 (.t 6), some (48, false)⟩, ⟨some 52, .ld false 1 (.t 51), some (48, false)⟩, ⟨some 53, .bin .lss (.t 50) (.t 52), some (48, false)⟩, ⟨some 54, .pick (.t 48) (.c (.d (.bool true))) (.t 53), none⟩, ⟨some 55, .mv (.t 54), none⟩, ⟨some 56, .fad false 1 1 (.t 6), some (55, false)⟩, ⟨some 57, .ld false 1 (.t 56), some (55, false)⟩, ⟨some 58, .bin .geq (.t 57) (.c (.d (.int .i64 65536))), some (55, false)⟩, ⟨some 59, .pick (.t 55) (.c (.d (.bool true))) (.t 58), none⟩] [4, 44, 45, 46, 47, 48, 49, 50, 51, 52, 53, 54, 55, 56, 57, 58])
 (.cond (.t 59) (.seq (.ops [] [⟨some 2, .mv (.c (.d (.int .i64 7))), none⟩] [1, 3, 5, 6, 59])
 (.ret [2])) .skip))
 (.ops [] [⟨some 60, .fad false 1 1 (.t 6), none⟩, ⟨some 61, .ld false 1 (.t 60), none⟩, ⟨some 62, .bin .add (.t 61) (.c (.d (.int .i64 1))), none⟩, ⟨some 4, .mv (.t 62), none⟩] [6, 59, 60, 61, 62]))))
 (.ops [] [⟨some 37, .mv (.t 5), none⟩, ⟨some 38, .bin .add (.t 37) (.c (.d (.int .i64 1))), none⟩, ⟨some 5, .mv (.t 38), none⟩] [37, 38])))
def l_ref10_Validate_1 : ACode :=
 (.seq (.seq (.ops [] [⟨some 65, .mv (.t 7), none⟩, ⟨some 66, .fad false 1 1 (.t 1), none⟩, ⟨some 67, .ld false 1 (.t 66), none⟩, ⟨some 68, .len (.t 67), none⟩, ⟨some 69, .bin .lss (.t 65) (.t 68), none⟩] [65, 66, 67, 68])
 (.cond (.t 69) .skip (.exit 2 [1, 3])))
 (.seq (.block 3 (.seq (.ops [] [⟨some 72, .fad false 1 1 (.t 1), none⟩, ⟨some 73, .ld false 1 (.t 72), none⟩, ⟨some 74, .mv (.t 7), none⟩, ⟨some 75, .iad 3 (.t 73) (.t 74), none⟩, ⟨some 76, .fad false 2 1 (.t 75), none⟩, ⟨some 77, .ld false 1 (.t 76), none⟩, ⟨some 78, .bin .lss (.t 77) (.c (.d (.int .i64 0))), none⟩, ⟨some 79, .mv (.t 78), none⟩, ⟨some 80, .fad false 1 1 (.t 1), some (79, false)⟩, ⟨some 81, .ld false 1 (.t 80), some (79, false)⟩, ⟨some 82, .mv (.t 7), some (79, false)⟩, ⟨some 83, .iad 3 (.t 81) (.t 82), some (79, false)⟩, ⟨some 84, .fad false 2 1 (.t 83), some (79, false)⟩, ⟨some 85, .ld false 1 (.t 84), some (79, false)⟩, ⟨some 86, .mv (.t 3), some (79, false)⟩, ⟨some 87, .bin .geq (.t 85) (.t 86), some (79, false)⟩, ⟨some 88, .pick (.t 79) (.c (.d (.bool true))) (.t 87), none⟩] [69, 72, 73, 74, 75, 76, 77, 78, 79, 80, 81, 82, 83, 84, 85, 86, 87])
 (.cond (.t 88) (.seq (.ops [] [⟨some 2, .mv (.c (.d (.int .i64 4))), none⟩] [1, 3, 7, 88])
 (.ret [2])) .skip)))
 (.ops [] [⟨some 70, .mv (.t 7), none⟩, ⟨some 71, .bin .add (.t 70) (.c (.d (.int .i64 1))), none⟩, ⟨some 7, .mv (.t 71), none⟩] [70, 71, 88])))
def l_ref10_Validate_2 : ACode :=
 (.seq (.seq (.ops [] [⟨some 89, .mv (.t 8), none⟩, ⟨some 90, .fad false 1 1 (.t 1), none⟩, ⟨some 91, .ld false 1 (.t 90), none⟩, ⟨some 92, .len (.t 91), none⟩, ⟨some 93, .bin .lss (.t 89) (.t 92), none⟩] [89, 90, 91, 92])
 (.cond (.t 93) .skip (.exit 4 [1, 3])))
 (.seq (.block 5 (.seq (.draw [] [⟨some 96, .ld true 3 (.t 1), none⟩, ⟨some 97, .fad false 1 1 (.t 1), none⟩, ⟨some 98, .ld false 1 (.t 97), none⟩, ⟨some 99, .mv (.t 8), none⟩, ⟨some 100, .iad 3 (.t 98) (.t 99), none⟩, ⟨some 101, .fad false 2 1 (.t 100), none⟩, ⟨some 102, .ld false 1 (.t 101), none⟩, ⟨some 103, .call N_ref10_index [] [.t 96, .t 102], none⟩, ⟨some 104, .mv (.t 8), none⟩, ⟨some 105, .bin .neq (.t 103) (.t 104), none⟩] [[], [0], [0], [0, 1, 2], [0], [0], [0], [], [0, 1, 2, 3, 4, 5, 6, 7], []] [93, 96, 97, 98, 99, 100, 101, 102, 103, 104])
 (.cond (.t 105) (.seq (.ops [] [⟨some 2, .mv (.c (.d (.int .i64 10))), none⟩] [1, 3, 8, 105])
 (.ret [2])) .skip)))
 (.ops [] [⟨some 94, .mv (.t 8), none⟩, ⟨some 95, .bin .add (.t 94) (.c (.d (.int .i64 1))), none⟩, ⟨some 8, .mv (.t 95), none⟩] [94, 95, 105])))
def l_ref10_Validate_3 : ACode :=
 (.seq (.seq (.ops [] [⟨some 106, .mv (.t 9), none⟩, ⟨some 107, .mv (.t 3), none⟩, ⟨some 108, .bin .lss (.t 106) (.t 107), none⟩] [106, 107])
 (.cond (.t 108) .skip (.exit 6 [1, 3])))
 (.seq (.block 7 (.seq (.ops [] [⟨some 111, .fad false 2 1 (.t 1), none⟩, ⟨some 112, .ld false 1 (.t 111), none⟩, ⟨some 113, .mv (.t 9), none⟩, ⟨some 114, .iad 1 (.t 112) (.t 113), none⟩, ⟨some 115, .ld false 1 (.t 114), none⟩, ⟨some 116, .bin .lss (.t 115) (.c (.d (.int .i64 (-1)))), none⟩, ⟨some 117, .mv (.t 116), none⟩, ⟨some 118, .fad false 2 1 (.t 1), some (117, false)⟩, ⟨some 119, .ld false 1 (.t 118), some (117, false)⟩, ⟨some 120, .mv (.t 9), some (117, false)⟩, ⟨some 121, .iad 1 (.t 119) (.t 120), some (117, false)⟩, ⟨some 122, .ld false 1 (.t 121), some (117, false)⟩, ⟨some 123, .mv (.t 3), some (117, false)⟩, ⟨some 124, .bin .geq (.t 122) (.t 123), some (117, false)⟩, ⟨some 125, .pick (.t 117) (.c (.d (.bool true))) (.t 124), none⟩, ⟨some 126, .mv (.t 125), none⟩, ⟨some 127, .ld true 3 (.t 1), some (126, false)⟩, ⟨some 128, .mv (.t 9), some (126, false)⟩, ⟨some 129, .call N_ref10_index [] [.t 127, .t 128], some (126, false)⟩, ⟨some 130, .bin .geq (.t 129) (.c (.d (.int .i64 0))), some (126, false)⟩, ⟨some 131, .mv (.t 130), some (126, false)⟩, ⟨some 132, .fad false 2 1 (.t 1), some (131, true)⟩, ⟨some 133, .ld false 1 (.t 132), some (131, true)⟩, ⟨some 134, .mv (.t 9), some (131, true)⟩, ⟨some 135, .iad 1 (.t 133) (.t 134), some (131, true)⟩, ⟨some 136, .ld false 1 (.t 135), some (131, true)⟩, ⟨some 137, .bin .neq (.t 136) (.c (.d (.int .i64 (-1)))), some (131, true)⟩, ⟨some 138, .pick (.t 131) (.t 137) (.c (.d (.bool false))), some (126, false)⟩, ⟨some 139, .pick (.t 126) (.c (.d (.bool true))) (.t 138), none⟩] [108, 111, 112, 113, 114, 115, 116, 117, 118, 119, 120, 121, 122, 123, 124, 125, 126, 127, 128, 129, 130, 131, 132, 133, 134, 135, 136, 137, 138])
 (.cond (.t 139) (.seq (.ops [] [⟨some 2, .mv (.c (.d (.int .i64 7))), none⟩] [1, 3, 9, 139])
 (.ret [2])) .skip)))
 (.ops [] [⟨some 109, .mv (.t 9), none⟩, ⟨some 110, .bin .add (.t 109) (.c (.d (.int .i64 1))), none⟩, ⟨some 9, .mv (.t 110), none⟩] [109, 110, 139])))
def l_ref10_Validate_4 : ACode :=
 (.seq (.seq (.ops [] [⟨some 146, .mv (.t 12), none⟩, ⟨some 147, .mv (.t 3), none⟩, ⟨some 148, .bin .lss (.t 146) (.t 147), none⟩, ⟨some 149, .mv (.t 148), none⟩, ⟨some 150, .mv (.t 11), some (149, true)⟩, ⟨some 151, .bin .geq (.t 150) (.c (.d (.int .i64 0))), some (149, true)⟩, ⟨some 152, .pick (.t 149) (.t 151) (.c (.d (.bool false))), none⟩] [146, 147, 148, 149, 150, 151])
 (.cond (.t 152) .skip (.exit 10 [1, 3, 10, 11])))
 (.seq (.block 11 (.ops [] [⟨some 155, .fad false 2 1 (.t 1), none⟩, ⟨some 156, .ld false 1 (.t 155), none⟩, ⟨some 157, .mv (.t 11), none⟩, ⟨some 158, .iad 1 (.t 156) (.t 157), none⟩, ⟨some 159, .ld false 1 (.t 158), none⟩, ⟨some 11, .mv (.t 159), none⟩] [152, 155, 156, 157, 158, 159]))
 (.ops [] [⟨some 153, .mv (.t 12), none⟩, ⟨some 154, .bin .add (.t 153) (.c (.d (.int .i64 1))), none⟩, ⟨some 12, .mv (.t 154), none⟩] [153, 154])))
def l_ref10_Validate_5 : ACode :=
 (.seq (.seq (.ops [] [⟨some 140, .mv (.t 10), none⟩, ⟨some 141, .mv (.t 3), none⟩, ⟨some 142, .bin .lss (.t 140) (.t 141), none⟩] [140, 141])
 (.cond (.t 142) .skip (.exit 8 [])))
 (.seq (.block 9 (.seq (.ops [] [⟨some 145, .mv (.t 10), none⟩, ⟨some 11, .mv (.t 145), none⟩] [142, 145])
 (.seq (.seq (.ops [] [⟨some 12, .mv (.c (.d (.int .i64 0))), none⟩] [])
 (.block 10 (.loop [] l_ref10_Validate_4)))
 (.seq (.ops [] [⟨some 160, .mv (.t 11), none⟩, ⟨some 161, .bin .geq (.t 160) (.c (.d (.int .i64 0))), none⟩] [11, 12, 152, 160])
 (.cond (.t 161) (.seq (.ops [] [⟨some 2, .mv (.c (.d (.int .i64 7))), none⟩] [1, 3, 10, 161])
 (.ret [2])) .skip)))))
 (.ops [] [⟨some 143, .mv (.t 10), none⟩, ⟨some 144, .bin .add (.t 143) (.c (.d (.int .i64 1))), none⟩, ⟨some 10, .mv (.t 144), none⟩] [143, 144, 161])))
def c_ref10_Validate : ACode :=
 (.seq (.ops [] [⟨some 1, .box (.t 0), none⟩, ⟨some 2, .mv (.c (.d (.int .i64 0))), none⟩] [0, 2])
 (.seq (.ops [] [⟨some 13, .fad false 2 1 (.t 1), none⟩, ⟨some 14, .ld false 1 (.t 13), none⟩, ⟨some 15, .len (.t 14), none⟩, ⟨some 3, .mv (.t 15), none⟩] [13, 14, 15])
 (.seq (.seq (.ops [] [⟨some 16, .fad false 0 1 (.t 1), none⟩, ⟨some 17, .ld false 1 (.t 16), none⟩, ⟨some 18, .bin .lss (.t 17) (.c (.d (.int .i64 1))), none⟩, ⟨some 19, .mv (.t 18), none⟩, ⟨some 20, .fad false 0 1 (.t 1), some (19, false)⟩, ⟨some 21, .ld false 1 (.t 20), some (19, false)⟩, ⟨some 22, .bin .gtr (.t 21) (.c (.d (.int .i64 1099511627776))), some (19, false)⟩, ⟨some 23, .pick (.t 19) (.c (.d (.bool true))) (.t 22), none⟩, ⟨some 24, .mv (.t 23), none⟩, ⟨some 25, .mv (.t 3), some (24, false)⟩, ⟨some 26, .bin .lss (.t 25) (.c (.d (.int .i64 1))), some (24, false)⟩, ⟨some 27, .pick (.t 24) (.c (.d (.bool true))) (.t 26), none⟩, ⟨some 28, .mv (.t 27), none⟩, ⟨some 29, .mv (.t 3), some (28, false)⟩, ⟨some 30, .bin .gtr (.t 29) (.c (.d (.int .i64 6))), some (28, false)⟩, ⟨some 31, .pick (.t 28) (.c (.d (.bool true))) (.t 30), none⟩] [16, 17, 18, 19, 20, 21, 22, 23, 24, 25, 26, 27, 28, 29, 30])
 (.cond (.t 31) (.seq (.ops [] [⟨some 2, .mv (.c (.d (.int .i64 1))), none⟩] [1, 3, 31])
 (.ret [2])) .skip))
 (.seq (.ops [] [⟨some 4, .mv (.c (.d (.int .i64 0))), none⟩] [31])
 (.seq (.seq (.ops [] [⟨some 5, .mv (.c (.d (.int .i64 0))), none⟩] [])
 (.block 0 (.loop [] l_ref10_Validate_0)))
 (.seq (.seq (.ops [] [⟨some 63, .mv (.t 4), none⟩, ⟨some 64, .bin .neq (.t 63) (.c (.d (.int .i64 65536))), none⟩] [4, 5, 36, 63])
 (.cond (.t 64) (.seq (.ops [] [⟨some 2, .mv (.c (.d (.int .i64 7))), none⟩] [1, 3, 64])
 (.ret [2])) .skip))
 (.seq (.seq (.ops [] [⟨some 7, .mv (.c (.d (.int .i64 0))), none⟩] [64])
 (.block 2 (.loop [] l_ref10_Validate_1)))
 (.seq (.seq (.ops [] [⟨some 8, .mv (.c (.d (.int .i64 0))), none⟩] [7, 69])
 (.block 4 (.loop [] l_ref10_Validate_2)))
 (.seq (.seq (.ops [] [⟨some 9, .mv (.c (.d (.int .i64 0))), none⟩] [8, 93])
 (.block 6 (.loop [] l_ref10_Validate_3)))
 (.seq (.seq (.ops [] [⟨some 10, .mv (.c (.d (.int .i64 0))), none⟩] [9, 108])
 (.block 8 (.loop [] l_ref10_Validate_5)))
 (.seq (.ops [] [⟨some 2, .mv (.c (.d (.int .i64 0))), none⟩] [1, 3, 10, 142])
 (.ret [2]))))))))))))
def r_ref10_Validate : List ARes := [.t 2]
def fn_ref10_Validate : AFn := .code c_ref10_Validate r_ref10_Validate 162 true
/- shardqueue/shardqueueref10.index -/
def l_ref10_index_0 : ACode :=
 (.seq (.seq (.ops [] [⟨some 6, .mv (.t 5), none⟩, ⟨some 7, .fad false 1 1 (.t 2), none⟩, ⟨some 8, .ld false 1 (.t 7), none⟩, ⟨some 9, .len (.t 8), none⟩, ⟨some 10, .bin .lss (.t 6) (.t 9), none⟩] [6, 7, 8, 9])
 (.cond (.t 10) .skip (.exit 0 [])))
 (.seq (.block 1 (.seq (.ops [] [⟨some 13, .fad false 1 1 (.t 2), none⟩, ⟨some 14, .ld false 1 (.t 13), none⟩, ⟨some 15, .mv (.t 5), none⟩, ⟨some 16, .iad 3 (.t 14) (.t 15), none⟩, ⟨some 17, .fad false 2 1 (.t 16), none⟩, ⟨some 18, .ld false 1 (.t 17), none⟩, ⟨some 19, .mv (.t 1), none⟩, ⟨some 20, .bin .eql (.t 18) (.t 19), none⟩] [10, 13, 14, 15, 16, 17, 18, 19])
 (.cond (.t 20) (.seq (.ops [] [⟨some 21, .mv (.t 5), none⟩, ⟨some 4, .mv (.t 21), none⟩] [1, 2, 5, 20, 21])
 (.ret [4])) .skip)))
 (.ops [] [⟨some 11, .mv (.t 5), none⟩, ⟨some 12, .bin .add (.t 11) (.c (.d (.int .i64 1))), none⟩, ⟨some 5, .mv (.t 12), none⟩] [11, 12, 20])))
def c_ref10_index : ACode :=
 (.seq (.ops [] [⟨some 2, .box (.t 0), none⟩, ⟨some 4, .mv (.c (.d (.int .i64 0))), none⟩] [0, 4])
 (.seq (.seq (.ops [] [⟨some 5, .mv (.c (.d (.int .i64 0))), none⟩] [])
 (.block 0 (.loop [] l_ref10_index_0)))
 (.seq (.ops [] [⟨some 4, .mv (.c (.d (.int .i64 (-1)))), none⟩] [1, 2, 5, 10])
 (.ret [4]))))
def r_ref10_index : List ARes := [.t 4]
def fn_ref10_index : AFn := .code c_ref10_index r_ref10_index 22 true
/- shardqueue/directory.Span -/
def c_directory_Span : ACode :=
 (.seq (.ops [] [⟨some 2, .box (.t 0), none⟩, ⟨some 4, .alloc (.d (.agg [.int .i64 0, .int .i64 0, .int .i64 0])), none⟩, ⟨some 5, .mv (.c (.d (.bool false))), none⟩] [0, 5])
 (.seq (.seq (.ops [] [⟨some 7, .ld true 3 (.t 2), none⟩, ⟨some 8, .call N_directory_Validate [] [.t 7], none⟩, ⟨some 9, .bin .neq (.t 8) (.c (.d (.int .i64 0))), none⟩] [7, 8])
 (.cond (.t 9) (.seq (.ops [] [⟨some 10, .build [.d (.int .i64 0), .d (.int .i64 0), .d (.int .i64 0)] [], none⟩, ⟨none, .st 3 (.t 4) (.t 10), none⟩, ⟨some 5, .mv (.c (.d (.bool false))), none⟩] [1, 2, 9, 10])
 (.ret [4, 5])) .skip))
 (.seq (.ops [] [⟨some 11, .fad false 1 1 (.t 2), none⟩, ⟨some 12, .ld false 1 (.t 11), none⟩, ⟨some 13, .mv (.t 1), none⟩, ⟨some 14, .call N_directory_find [] [.t 12, .t 13], none⟩, ⟨some 6, .mv (.t 14), none⟩] [1, 9, 11, 12, 13, 14])
 (.seq (.seq (.ops [] [⟨some 15, .mv (.t 6), none⟩, ⟨some 16, .bin .lss (.t 15) (.c (.d (.int .i64 0))), none⟩] [15])
 (.cond (.t 16) (.seq (.ops [] [⟨some 17, .build [.d (.int .i64 0), .d (.int .i64 0), .d (.int .i64 0)] [], none⟩, ⟨none, .st 3 (.t 4) (.t 17), none⟩, ⟨some 5, .mv (.c (.d (.bool false))), none⟩] [2, 6, 16, 17])
 (.ret [4, 5])) .skip))
 (.seq (.ops [] [⟨some 18, .fad false 1 1 (.t 2), none⟩, ⟨some 19, .ld false 1 (.t 18), none⟩, ⟨some 20, .mv (.t 6), none⟩, ⟨some 21, .iad 3 (.t 19) (.t 20), none⟩, ⟨some 22, .ld true 3 (.t 21), none⟩, ⟨none, .st 3 (.t 4) (.t 22), none⟩, ⟨some 5, .mv (.c (.d (.bool true))), none⟩] [2, 6, 16, 18, 19, 20, 21, 22])
 (.ret [4, 5]))))))
def r_directory_Span : List ARes := [.c 4 true 3, .t 5]
def fn_directory_Span : AFn := .code c_directory_Span r_directory_Span 23 true
/- shardqueue/shardqueueref10.Span -/
def c_ref10_Span : ACode :=
 (.seq (.ops [] [⟨some 2, .box (.t 0), none⟩, ⟨some 4, .alloc (.d (.agg [.int .i64 0, .int .i64 0, .int .i64 0])), none⟩, ⟨some 5, .mv (.c (.d (.bool false))), none⟩] [0, 5])
 (.seq (.ops [] [⟨some 7, .ld true 3 (.t 2), none⟩, ⟨some 8, .mv (.t 1), none⟩, ⟨some 9, .call N_ref10_index [] [.t 7, .t 8], none⟩, ⟨some 6, .mv (.t 9), none⟩] [1, 7, 8, 9])
 (.seq (.seq (.ops [] [⟨some 10, .ld true 3 (.t 2), none⟩, ⟨some 11, .call N_ref10_Validate [] [.t 10], none⟩, ⟨some 12, .bin .neq (.t 11) (.c (.d (.int .i64 0))), none⟩, ⟨some 13, .mv (.t 12), none⟩, ⟨some 14, .mv (.t 6), some (13, false)⟩, ⟨some 15, .bin .lss (.t 14) (.c (.d (.int .i64 0))), some (13, false)⟩, ⟨some 16, .pick (.t 13) (.c (.d (.bool true))) (.t 15), none⟩] [10, 11, 12, 13, 14, 15])
 (.cond (.t 16) (.seq (.ops [] [⟨some 17, .build [.d (.int .i64 0), .d (.int .i64 0), .d (.int .i64 0)] [], none⟩, ⟨none, .st 3 (.t 4) (.t 17), none⟩, ⟨some 5, .mv (.c (.d (.bool false))), none⟩] [2, 6, 16, 17])
 (.ret [4, 5])) .skip))
 (.seq (.ops [] [⟨some 18, .fad false 1 1 (.t 2), none⟩, ⟨some 19, .ld false 1 (.t 18), none⟩, ⟨some 20, .mv (.t 6), none⟩, ⟨some 21, .iad 3 (.t 19) (.t 20), none⟩, ⟨some 22, .ld true 3 (.t 21), none⟩, ⟨none, .st 3 (.t 4) (.t 22), none⟩, ⟨some 5, .mv (.c (.d (.bool true))), none⟩] [2, 6, 16, 18, 19, 20, 21, 22])
 (.ret [4, 5])))))
def r_ref10_Span : List ARes := [.c 4 true 3, .t 5]
def fn_ref10_Span : AFn := .code c_ref10_Span r_ref10_Span 23 true
/- shardqueue/shardqueueref10.Owner -/
def l_ref10_Owner_0 : ACode :=
 (.seq (.seq (.ops [] [⟨some 6, .mv (.t 5), none⟩, ⟨some 7, .fad false 1 1 (.t 2), none⟩, ⟨some 8, .ld false 1 (.t 7), none⟩, ⟨some 9, .len (.t 8), none⟩, ⟨some 10, .bin .lss (.t 6) (.t 9), none⟩, ⟨some 11, .mv (.t 10), none⟩, ⟨some 12, .ld true 3 (.t 2), some (11, true)⟩, ⟨some 13, .call N_ref10_Validate [] [.t 12], some (11, true)⟩, ⟨some 14, .bin .eql (.t 13) (.c (.d (.int .i64 0))), some (11, true)⟩, ⟨some 15, .pick (.t 11) (.t 14) (.c (.d (.bool false))), none⟩] [6, 7, 8, 9, 10, 11, 12, 13, 14])
 (.cond (.t 15) .skip (.exit 0 [])))
 (.seq (.block 1 (.seq (.ops [] [⟨some 18, .mv (.t 1), none⟩, ⟨some 19, .fad false 1 1 (.t 2), none⟩, ⟨some 20, .ld false 1 (.t 19), none⟩, ⟨some 21, .mv (.t 5), none⟩, ⟨some 22, .iad 3 (.t 20) (.t 21), none⟩, ⟨some 23, .fad false 0 1 (.t 22), none⟩, ⟨some 24, .ld false 1 (.t 23), none⟩, ⟨some 25, .bin .geq (.t 18) (.t 24), none⟩, ⟨some 26, .mv (.t 25), none⟩, ⟨some 27, .mv (.t 1), some (26, true)⟩, ⟨some 28, .fad false 1 1 (.t 2), some (26, true)⟩, ⟨some 29, .ld false 1 (.t 28), some (26, true)⟩, ⟨some 30, .mv (.t 5), some (26, true)⟩, ⟨some 31, .iad 3 (.t 29) (.t 30), some (26, true)⟩, ⟨some 32, .fad false 1 1 (.t 31), some (26, true)⟩, ⟨some 33, .ld false 1 (.t 32), some (26, true)⟩, ⟨some 34, .bin .leq (.t 27) (.t 33), some (26, true)⟩, ⟨some 35, .pick (.t 26) (.t 34) (.c (.d (.bool false))), none⟩] [15, 18, 19, 20, 21, 22, 23, 24, 25, 26, 27, 28, 29, 30, 31, 32, 33, 34])
 (.cond (.t 35) (.seq (.ops [] [⟨some 36, .fad false 1 1 (.t 2), none⟩, ⟨some 37, .ld false 1 (.t 36), none⟩, ⟨some 38, .mv (.t 5), none⟩, ⟨some 39, .iad 3 (.t 37) (.t 38), none⟩, ⟨some 40, .fad false 2 1 (.t 39), none⟩, ⟨some 41, .ld false 1 (.t 40), none⟩, ⟨some 4, .mv (.t 41), none⟩] [1, 2, 5, 35, 36, 37, 38, 39, 40, 41])
 (.ret [4])) .skip)))
 (.ops [] [⟨some 16, .mv (.t 5), none⟩, ⟨some 17, .bin .add (.t 16) (.c (.d (.int .i64 1))), none⟩, ⟨some 5, .mv (.t 17), none⟩] [16, 17, 35])))
def c_ref10_Owner : ACode :=
 (.seq (.ops [] [⟨some 2, .box (.t 0), none⟩, ⟨some 4, .mv (.c (.d (.int .i64 0))), none⟩] [0, 4])
 (.seq (.seq (.ops [] [⟨some 5, .mv (.c (.d (.int .i64 0))), none⟩] [])
 (.block 0 (.loop [] l_ref10_Owner_0)))
 (.seq (.ops [] [⟨some 4, .mv (.c (.d (.int .i64 (-1)))), none⟩] [1, 2, 5, 15])
 (.ret [4]))))
def r_ref10_Owner : List ARes := [.t 4]
def fn_ref10_Owner : AFn := .code c_ref10_Owner r_ref10_Owner 42 true
/- shardqueue/shardqueueref10.Home -/
def l_ref10_Home_0 : ACode :=
 (.seq (.seq (.ops [] [⟨some 19, .mv (.t 1), none⟩, ⟨some 20, .bin .geq (.t 19) (.c (.d (.int .i64 0))), none⟩, ⟨some 21, .mv (.t 20), none⟩, ⟨some 22, .ld true 3 (.t 2), some (21, true)⟩, ⟨some 23, .mv (.t 1), some (21, true)⟩, ⟨some 24, .call N_ref10_index [] [.t 22, .t 23], some (21, true)⟩, ⟨some 25, .bin .lss (.t 24) (.c (.d (.int .i64 0))), some (21, true)⟩, ⟨some 26, .pick (.t 21) (.t 25) (.c (.d (.bool false))), none⟩] [19, 20, 21, 22, 23, 24, 25])
 (.cond (.t 26) .skip (.exit 0 [1])))
 (.block 1 (.ops [] [⟨some 27, .fad false 2 1 (.t 2), none⟩, ⟨some 28, .ld false 1 (.t 27), none⟩, ⟨some 29, .mv (.t 1), none⟩, ⟨some 30, .iad 1 (.t 28) (.t 29), none⟩, ⟨some 31, .ld false 1 (.t 30), none⟩, ⟨some 1, .mv (.t 31), none⟩] [26, 27, 28, 29, 30, 31])))
def c_ref10_Home : ACode :=
 (.seq (.ops [] [⟨some 2, .box (.t 0), none⟩, ⟨some 4, .mv (.c (.d (.int .i64 0))), none⟩] [0, 4])
 (.seq (.seq (.ops [] [⟨some 5, .ld true 3 (.t 2), none⟩, ⟨some 6, .call N_ref10_Validate [] [.t 5], none⟩, ⟨some 7, .bin .neq (.t 6) (.c (.d (.int .i64 0))), none⟩, ⟨some 8, .mv (.t 7), none⟩, ⟨some 9, .mv (.t 1), some (8, false)⟩, ⟨some 10, .bin .lss (.t 9) (.c (.d (.int .i64 0))), some (8, false)⟩, ⟨some 11, .pick (.t 8) (.c (.d (.bool true))) (.t 10), none⟩, ⟨some 12, .mv (.t 11), none⟩, ⟨some 13, .mv (.t 1), some (12, false)⟩, ⟨some 14, .fad false 2 1 (.t 2), some (12, false)⟩, ⟨some 15, .ld false 1 (.t 14), some (12, false)⟩, ⟨some 16, .len (.t 15), some (12, false)⟩, ⟨some 17, .bin .geq (.t 13) (.t 16), some (12, false)⟩, ⟨some 18, .pick (.t 12) (.c (.d (.bool true))) (.t 17), none⟩] [5, 6, 7, 8, 9, 10, 11, 12, 13, 14, 15, 16, 17])
 (.cond (.t 18) (.seq (.ops [] [⟨some 4, .mv (.c (.d (.int .i64 (-1)))), none⟩] [1, 2, 18])
 (.ret [4])) .skip))
 (.seq (.block 0 (.loop [18] l_ref10_Home_0))
 (.seq (.ops [] [⟨some 32, .mv (.t 1), none⟩, ⟨some 4, .mv (.t 32), none⟩] [1, 2, 26, 32])
 (.ret [4])))))
def r_ref10_Home : List ARes := [.t 4]
def fn_ref10_Home : AFn := .code c_ref10_Home r_ref10_Home 33 true
/- shardqueue/shardqueuelaw10.DirectoryBuilt -/
def l_law10_DirectoryBuilt_0 : ACode :=
 (.seq (.seq (.ops [] [⟨some 11, .mv (.t 5), none⟩, ⟨some 12, .bin .lss (.t 11) (.c (.d (.int .i64 6))), none⟩] [11])
 (.cond (.t 12) .skip (.exit 0 [3, 4])))
 (.seq (.block 1 (.seq (.ops [] [⟨some 15, .mv (.t 3), none⟩, ⟨some 16, .fad false 2 1 (.t 4), none⟩, ⟨some 17, .ld false 1 (.t 16), none⟩, ⟨some 18, .len (.t 17), none⟩, ⟨some 19, .bin .add (.t 18) (.c (.d (.int .i64 1))), none⟩, ⟨some 20, .call N_base_Src_Edit [true, false] [.t 15, .t 19], none⟩, ⟨some 6, .alloc (.d (.agg [.int .i64 0, .int .i64 0, .int .i64 0, .int .i64 0])), none⟩, ⟨none, .st 4 (.t 6) (.t 20), none⟩] [12, 15, 16, 17, 18, 19, 20])
 (.seq (.draw [] [⟨some 21, .ld true 3 (.t 4), none⟩, ⟨some 22, .ld true 4 (.t 6), none⟩, ⟨some 23, .mv (.t 3), none⟩, ⟨some 24, .call N_base_Src_N [true, false] [.t 23, .c (.d (.int .i64 65536))], none⟩, ⟨some 25, .mv (.t 3), none⟩, ⟨some 26, .call N_base_Src_Range [true, false, false] [.t 25, .c (.d (.int .i64 (-1))), .c (.d (.int .i64 6))], none⟩, ⟨some 27, .call N_law10_agrees [] [.t 21, .t 22, .t 24, .t 26], none⟩, ⟨some 28, .un .not (.t 27), none⟩] [[], [0], [0, 1], [0, 1], [0, 1, 2, 3], [0, 1], [], []] [6, 21, 22, 23, 24, 25, 26, 27])
 (.cond (.t 28) (.seq (.ops [] [⟨some 2, .mv (.c (.d (.bool false))), none⟩] [3, 4, 5, 28])
 (.ret [2])) .skip))))
 (.ops [] [⟨some 13, .mv (.t 5), none⟩, ⟨some 14, .bin .add (.t 13) (.c (.d (.int .i64 1))), none⟩, ⟨some 5, .mv (.t 14), none⟩] [13, 14, 28])))
def c_law10_DirectoryBuilt : ACode :=
 (.seq (.ops [] [⟨some 2, .mv (.c (.d (.bool false))), none⟩] [2])
 (.seq (.ops [] [⟨some 7, .mv (.t 0), none⟩, ⟨some 8, .call N_base_New [] [.t 7], none⟩, ⟨some 3, .mv (.t 8), none⟩] [0, 7, 8])
 (.seq (.ops [] [⟨some 9, .mv (.t 3), none⟩, ⟨some 10, .call N_base_Src_Directory [true] [.t 9], none⟩, ⟨some 4, .alloc (.agg [.d (.int .i64 0), .xsl [], .xsl []]), none⟩, ⟨none, .st 3 (.t 4) (.t 10), none⟩] [9, 10])
 (.seq (.seq (.ops [] [⟨some 5, .mv (.c (.d (.int .i64 0))), none⟩] [])
 (.block 0 (.loop [] l_law10_DirectoryBuilt_0)))
 (.seq (.ops [] [⟨some 29, .fad false 1 1 (.t 4), none⟩, ⟨some 30, .ld false 1 (.t 29), none⟩, ⟨some 31, .app 3 (.c (.xsl [])) (.t 30), none⟩, ⟨some 32, .fad false 1 1 (.t 4), none⟩, ⟨none, .st 1 (.t 32) (.t 31), none⟩] [5, 12, 29, 30, 31, 32])
 (.seq (.ops [] [⟨some 33, .fad false 2 1 (.t 4), none⟩, ⟨some 34, .ld false 1 (.t 33), none⟩, ⟨some 35, .app 1 (.c (.xsl [])) (.t 34), none⟩, ⟨some 36, .fad false 2 1 (.t 4), none⟩, ⟨none, .st 1 (.t 36) (.t 35), none⟩] [33, 34, 35, 36])
 (.seq (.seq (.ops [] [⟨some 37, .mv (.t 3), none⟩, ⟨some 38, .call N_base_Src_N [true, false] [.t 37, .c (.d (.int .i64 5))], none⟩] [37])
 (.block 2 (.seq (.ops [] [⟨some 55, .bin .eql (.t 38) (.c (.d (.int .i64 0))), none⟩, ⟨some 54, .mv (.t 55), none⟩] [55])
 (.cond (.t 54) (.ops [] [⟨some 56, .mv (.t 3), none⟩, ⟨some 57, .bsl 4 1 (.d (.int .i64 0)) [(0, .c (.d (.int .i64 0))), (1, .c (.d (.int .i64 1))), (2, .c (.d (.int .i64 1099511627776))), (3, .c (.d (.int .i64 1099511627777)))], none⟩, ⟨some 58, .call N_base_Src_Pick [true, false] [.t 56, .t 57], none⟩, ⟨some 59, .fad false 0 1 (.t 4), none⟩, ⟨none, .st 1 (.t 59) (.t 58), none⟩] [38, 54, 56, 57, 58, 59]) (.seq (.ops [] [⟨some 61, .bin .eql (.t 38) (.c (.d (.int .i64 1))), none⟩, ⟨some 60, .mv (.t 61), none⟩] [54, 61])
 (.cond (.t 60) (.draw [70] [⟨some 62, .fad false 2 1 (.t 4), none⟩, ⟨some 63, .ld false 1 (.t 62), none⟩, ⟨some 64, .mv (.t 3), none⟩, ⟨some 65, .fad false 2 1 (.t 4), none⟩, ⟨some 66, .ld false 1 (.t 65), none⟩, ⟨some 67, .len (.t 66), none⟩, ⟨some 68, .call N_base_Src_N [true, false] [.t 64, .t 67], none⟩, ⟨some 69, .mv (.t 3), none⟩, ⟨some 70, .call N_base_Src_Range [true, false, false] [.t 69, .c (.d (.int .i64 (-2))), .c (.d (.int .i64 6))], none⟩, ⟨some 71, .iad 1 (.t 63) (.t 68), none⟩, ⟨none, .st 1 (.t 71) (.t 70), none⟩] [[], [], [0, 1], [0, 1, 2], [0, 1, 2], [0, 1, 2], [0, 1], [0, 1, 2, 3, 4, 5, 6], [0, 1], [], []] [38, 60, 62, 63, 64, 65, 66, 67, 68, 69, 70, 71]) (.seq (.ops [] [⟨some 73, .bin .eql (.t 38) (.c (.d (.int .i64 2))), none⟩, ⟨some 72, .mv (.t 73), none⟩] [60, 73])
 (.cond (.t 72) (.draw [62] [⟨some 74, .fad false 1 1 (.t 4), none⟩, ⟨some 75, .ld false 1 (.t 74), none⟩, ⟨some 76, .mv (.t 3), none⟩, ⟨some 77, .fad false 1 1 (.t 4), none⟩, ⟨some 78, .ld false 1 (.t 77), none⟩, ⟨some 79, .len (.t 78), none⟩, ⟨some 80, .call N_base_Src_N [true, false] [.t 76, .t 79], none⟩, ⟨some 81, .mv (.t 3), none⟩, ⟨some 82, .call N_base_Src_Range [true, false, false] [.t 81, .c (.d (.int .i64 (-1))), .c (.d (.int .i64 6))], none⟩, ⟨some 83, .iad 3 (.t 75) (.t 80), none⟩, ⟨some 84, .fad false 2 1 (.t 83), none⟩, ⟨none, .st 1 (.t 84) (.t 82), none⟩] [[], [], [0, 1], [0, 1, 2], [0, 1, 2], [0, 1, 2], [0, 1], [0, 1, 2, 3, 4, 5, 6], [0, 1], [], [], []] [38, 72, 74, 75, 76, 77, 78, 79, 80, 81, 82, 83, 84]) (.seq (.ops [] [⟨some 86, .bin .eql (.t 38) (.c (.d (.int .i64 3))), none⟩, ⟨some 85, .mv (.t 86), none⟩] [38, 72, 86])
 (.cond (.t 85) (.draw [62] [⟨some 87, .fad false 1 1 (.t 4), none⟩, ⟨some 88, .ld false 1 (.t 87), none⟩, ⟨some 89, .mv (.t 3), none⟩, ⟨some 90, .fad false 1 1 (.t 4), none⟩, ⟨some 91, .ld false 1 (.t 90), none⟩, ⟨some 92, .len (.t 91), none⟩, ⟨some 93, .call N_base_Src_N [true, false] [.t 89, .t 92], none⟩, ⟨some 94, .iad 3 (.t 88) (.t 93), none⟩, ⟨some 95, .fad false 1 1 (.t 94), none⟩, ⟨some 96, .ld false 1 (.t 95), none⟩, ⟨some 97, .mv (.t 3), none⟩, ⟨some 98, .call N_base_Src_Range [true, false, false] [.t 97, .c (.d (.int .i64 (-1))), .c (.d (.int .i64 1))], none⟩, ⟨some 99, .bin .add (.t 96) (.t 98), none⟩, ⟨some 100, .iad 3 (.t 88) (.t 93), none⟩, ⟨some 101, .fad false 1 1 (.t 100), none⟩, ⟨none, .st 1 (.t 101) (.t 99), none⟩] [[], [], [0, 1], [0, 1, 2], [0, 1, 2], [0, 1, 2], [0, 1], [], [], [], [0, 1, 2, 3, 4, 5, 6, 7, 8, 9], [0, 1, 7, 8, 9], [], [], [], []] [85, 87, 88, 89, 90, 91, 92, 93, 94, 95, 96, 97, 98, 99, 100, 101]) (.draw [62] [⟨some 39, .fad false 1 1 (.t 4), none⟩, ⟨some 40, .ld false 1 (.t 39), none⟩, ⟨some 41, .mv (.t 3), none⟩, ⟨some 42, .fad false 1 1 (.t 4), none⟩, ⟨some 43, .ld false 1 (.t 42), none⟩, ⟨some 44, .len (.t 43), none⟩, ⟨some 45, .call N_base_Src_N [true, false] [.t 41, .t 44], none⟩, ⟨some 46, .iad 3 (.t 40) (.t 45), none⟩, ⟨some 47, .fad false 0 1 (.t 46), none⟩, ⟨some 48, .ld false 1 (.t 47), none⟩, ⟨some 49, .mv (.t 3), none⟩, ⟨some 50, .call N_base_Src_Range [true, false, false] [.t 49, .c (.d (.int .i64 (-1))), .c (.d (.int .i64 1))], none⟩, ⟨some 51, .bin .add (.t 48) (.t 50), none⟩, ⟨some 52, .iad 3 (.t 40) (.t 45), none⟩, ⟨some 53, .fad false 0 1 (.t 52), none⟩, ⟨none, .st 1 (.t 53) (.t 51), none⟩] [[], [], [0, 1], [0, 1, 2], [0, 1, 2], [0, 1, 2], [0, 1], [], [], [], [0, 1, 2, 3, 4, 5, 6, 7, 8, 9], [0, 1, 7, 8, 9], [], [], [], []] [39, 40, 41, 42, 43, 44, 45, 46, 47, 48, 49, 50, 51, 52, 53, 85])))))))))))
 (.seq (.draw [] [⟨some 102, .ld true 3 (.t 4), none⟩, ⟨some 103, .mv (.t 3), none⟩, ⟨some 104, .fad false 2 1 (.t 4), none⟩, ⟨some 105, .ld false 1 (.t 104), none⟩, ⟨some 106, .len (.t 105), none⟩, ⟨some 107, .call N_base_Src_Edit [true, false] [.t 103, .t 106], none⟩, ⟨some 108, .mv (.t 3), none⟩, ⟨some 109, .call N_base_Src_N [true, false] [.t 108, .c (.d (.int .i64 65536))], none⟩, ⟨some 110, .mv (.t 3), none⟩, ⟨some 111, .call N_base_Src_Range [true, false, false] [.t 110, .c (.d (.int .i64 0)), .c (.d (.int .i64 5))], none⟩, ⟨some 112, .call N_law10_agrees [] [.t 102, .t 107, .t 109, .t 111], none⟩, ⟨some 113, .mv (.t 112), none⟩, ⟨some 114, .call N_law10_awake [] [], some (113, true)⟩, ⟨some 115, .pick (.t 113) (.t 114) (.c (.d (.bool false))), none⟩, ⟨some 2, .mv (.t 115), none⟩] [[], [0], [0, 1], [0, 1], [0, 1], [0], [0, 1, 2, 3, 4, 5], [0], [0, 1, 2, 3, 4, 5, 6, 7], [0], [], [], [], [], []] [3, 4, 102, 103, 104, 105, 106, 107, 108, 109, 110, 111, 112, 113, 114, 115])
 (.ret [2])))))))))
def r_law10_DirectoryBuilt : List ARes := [.t 2]
def fn_law10_DirectoryBuilt : AFn := .code c_law10_DirectoryBuilt r_law10_DirectoryBuilt 116 true
/- shardqueue/shardqueuebase.New -/
def c_base_New : ACode :=
 (.seq (.ops [] [⟨some 2, .mv (.c .undef), none⟩] [2])
 (.seq (.seq (.ops [] [⟨some 3, .mv (.t 0), none⟩, ⟨some 4, .len (.t 3), none⟩, ⟨some 5, .bin .gtr (.t 4) (.c (.d (.int .i64 4000))), none⟩] [3, 4])
 (.cond (.t 5) (.ops [] [⟨some 6, .mv (.t 0), none⟩, ⟨some 7, .slc 1 (.t 6) none (some (.c (.d (.int .i64 4000)))) none, none⟩, ⟨some 0, .mv (.t 7), none⟩] [5, 6, 7]) .skip))
 (.seq (.ops [] [⟨some 8, .mv (.t 0), none⟩, ⟨some 9, .build [.xsl [], .d (.int .i64 0)] [(0, (1, .t 8))], none⟩, ⟨some 10, .box (.t 9), none⟩, ⟨some 2, .mv (.t 10), none⟩] [0, 5, 8, 9, 10])
 (.ret [2]))))
def r_base_New : List ARes := [.t 2]
def fn_base_New : AFn := .code c_base_New r_base_New 11 false
/- (*shardqueue/shardqueuebase.Src).Directory -/
def l_base_Src_Directory_0 : ACode :=
 (.seq (.seq (.ops [] [⟨some 21, .mv (.t 6), none⟩, ⟨some 22, .bin .gtr (.t 21) (.c (.d (.int .i64 0))), none⟩] [21])
 (.cond (.t 22) .skip (.exit 0 [2, 4])))
 (.seq (.block 1 (.seq (.draw [] [⟨some 26, .ld true 3 (.t 4), none⟩, ⟨some 27, .mv (.t 0), none⟩, ⟨some 28, .mv (.t 3), none⟩, ⟨some 29, .call N_base_Src_Edit [true, false] [.t 27, .t 28], none⟩, ⟨some 30, .call N_ref10_Apply [] [.t 26, .t 29], none⟩, ⟨some 25, .mv (.t 30), none⟩, ⟨some 31, .ext (.t 25) 0, none⟩, ⟨some 32, .ext (.t 25) 1, none⟩, ⟨some 7, .alloc (.agg [.d (.int .i64 0), .xsl [], .xsl []]), none⟩, ⟨none, .st 3 (.t 7) (.t 31), none⟩, ⟨some 8, .mv (.t 32), none⟩] [[], [0], [0, 1], [0], [], [], [], [6], [0, 1, 2, 3, 4, 5, 6, 7], [7], []] [22, 25, 26, 27, 28, 29, 30, 31, 32])
 (.seq (.ops [] [⟨some 33, .mv (.t 8), none⟩, ⟨some 34, .bin .eql (.t 33) (.c (.d (.int .i64 0))), none⟩] [8, 33])
 (.cond (.t 34) (.ops [] [⟨some 35, .ld true 3 (.t 7), none⟩, ⟨none, .st 3 (.t 4) (.t 35), none⟩] [7, 34, 35]) .skip))))
 (.ops [] [⟨some 23, .mv (.t 6), none⟩, ⟨some 24, .bin .sub (.t 23) (.c (.d (.int .i64 1))), none⟩, ⟨some 6, .mv (.t 24), none⟩] [7, 23, 24, 34])))
def c_base_Src_Directory : ACode :=
 (.seq (.ops [] [⟨some 2, .alloc (.agg [.d (.int .i64 0), .xsl [], .xsl []]), none⟩] [])
 (.seq (.ops [] [⟨some 9, .mv (.t 0), none⟩, ⟨some 10, .call N_base_Src_Range [true, false, false] [.t 9, .c (.d (.int .i64 1)), .c (.d (.int .i64 6))], none⟩, ⟨some 3, .mv (.t 10), none⟩] [9, 10])
 (.seq (.ops [] [⟨some 12, .mv (.t 3), none⟩, ⟨some 13, .mv (.t 0), none⟩, ⟨some 14, .mv (.t 3), none⟩, ⟨some 15, .call N_base_Src_Range [true, false, false] [.t 13, .c (.d (.int .i64 1)), .t 14], none⟩, ⟨some 16, .call N_ref10_New [] [.t 12, .t 15], none⟩, ⟨some 11, .mv (.t 16), none⟩, ⟨some 17, .ext (.t 11) 0, none⟩, ⟨some 18, .ext (.t 11) 1, none⟩, ⟨some 4, .alloc (.agg [.d (.int .i64 0), .xsl [], .xsl []]), none⟩, ⟨none, .st 3 (.t 4) (.t 17), none⟩, ⟨some 5, .mv (.t 18), none⟩] [5, 11, 12, 13, 14, 15, 16, 17, 18])
 (.seq (.seq (.ops [] [⟨some 19, .mv (.t 0), none⟩, ⟨some 20, .call N_base_Src_N [true, false] [.t 19, .c (.d (.int .i64 8))], none⟩, ⟨some 6, .mv (.t 20), none⟩] [19, 20])
 (.block 0 (.loop [] l_base_Src_Directory_0)))
 (.seq (.ops [] [⟨some 36, .ld true 3 (.t 4), none⟩, ⟨none, .st 3 (.t 2) (.t 36), none⟩] [0, 3, 4, 6, 22, 36])
 (.ret [2]))))))
def r_base_Src_Directory : List ARes := [.c 2 true 3]
def fn_base_Src_Directory : AFn := .code c_base_Src_Directory r_base_Src_Directory 37 true
/- (*shardqueue/shardqueuebase.Src).Range -/
def c_base_Src_Range : ACode :=
 (.seq (.ops [] [⟨some 6, .mv (.c (.d (.int .i64 0))), none⟩] [6])
 (.seq (.ops [] [⟨some 7, .mv (.t 1), none⟩, ⟨some 8, .mv (.t 0), none⟩, ⟨some 9, .mv (.t 2), none⟩, ⟨some 10, .mv (.t 1), none⟩, ⟨some 11, .bin .sub (.t 9) (.t 10), none⟩, ⟨some 12, .bin .add (.t 11) (.c (.d (.int .i64 1))), none⟩, ⟨some 13, .call N_base_Src_N [true, false] [.t 8, .t 12], none⟩, ⟨some 14, .bin .add (.t 7) (.t 13), none⟩, ⟨some 6, .mv (.t 14), none⟩] [0, 1, 2, 7, 8, 9, 10, 11, 12, 13, 14])
 (.ret [6])))
def r_base_Src_Range : List ARes := [.t 6]
def fn_base_Src_Range : AFn := .code c_base_Src_Range r_base_Src_Range 15 true
/- (*shardqueue/shardqueuebase.Src).N -/
def c_base_Src_N : ACode :=
 (.seq (.ops [] [⟨some 4, .mv (.c (.d (.int .i64 0))), none⟩] [4])
 (.seq (.seq (.ops [] [⟨some 6, .mv (.t 1), none⟩, ⟨some 7, .bin .lss (.t 6) (.c (.d (.int .i64 1))), none⟩] [6])
 (.cond (.t 7) (.seq (.ops [] [⟨some 4, .mv (.c (.d (.int .i64 0))), none⟩] [0, 1, 7])
 (.ret [4])) .skip))
 (.seq (.ops [] [⟨some 8, .mv (.t 0), none⟩, ⟨some 9, .call N_base_Src_Raw [true] [.t 8], none⟩, ⟨some 10, .mv (.t 1), none⟩, ⟨some 11, .bin .rem (.t 9) (.t 10), none⟩, ⟨some 5, .mv (.t 11), none⟩] [0, 7, 8, 9, 10, 11])
 (.seq (.seq (.ops [] [⟨some 12, .mv (.t 5), none⟩, ⟨some 13, .bin .lss (.t 12) (.c (.d (.int .i64 0))), none⟩] [12])
 (.cond (.t 13) (.ops [] [⟨some 14, .mv (.t 5), none⟩, ⟨some 15, .mv (.t 1), none⟩, ⟨some 16, .bin .add (.t 14) (.t 15), none⟩, ⟨some 5, .mv (.t 16), none⟩] [1, 13, 14, 15, 16]) .skip))
 (.seq (.ops [] [⟨some 17, .mv (.t 5), none⟩, ⟨some 4, .mv (.t 17), none⟩] [1, 5, 13, 17])
 (.ret [4]))))))
def r_base_Src_N : List ARes := [.t 4]
def fn_base_Src_N : AFn := .code c_base_Src_N r_base_Src_N 18 true
/- (*shardqueue/shardqueuebase.Src).Raw -/
def c_base_Src_Raw : ACode :=
 (.seq (.ops [] [⟨some 2, .mv (.c (.d (.int .i64 0))), none⟩] [2])
 (.seq (.seq (.draw [] [⟨some 3, .mv (.t 0), none⟩, ⟨some 4, .nilc (.t 3), none⟩, ⟨some 5, .fad false 1 1 (.t 4), none⟩, ⟨some 6, .ld false 1 (.t 5), none⟩, ⟨some 7, .mv (.t 0), none⟩, ⟨some 8, .nilc (.t 7), none⟩, ⟨some 9, .fad false 0 1 (.t 8), none⟩, ⟨some 10, .ld false 1 (.t 9), none⟩, ⟨some 11, .len (.t 10), none⟩, ⟨some 12, .bin .geq (.t 6) (.t 11), none⟩] [[], [], [], [], [0, 1, 2, 3], [0, 1, 2, 3], [0, 1, 2, 3], [0, 1, 2, 3], [0, 1, 2, 3], []] [3, 4, 5, 6, 7, 8, 9, 10, 11])
 (.cond (.t 12) (.seq (.ops [] [⟨some 2, .mv (.c (.d (.int .i64 0))), none⟩] [0, 12])
 (.ret [2])) .skip))
 (.seq (.ops [] [⟨some 13, .mv (.t 0), none⟩, ⟨some 14, .nilc (.t 13), none⟩, ⟨some 15, .fad false 1 1 (.t 14), none⟩, ⟨some 16, .ld false 1 (.t 15), none⟩, ⟨some 17, .bin .add (.t 16) (.c (.d (.int .i64 1))), none⟩, ⟨some 18, .nilc (.t 13), none⟩, ⟨some 19, .fad false 1 1 (.t 18), none⟩, ⟨none, .st 1 (.t 19) (.t 17), none⟩] [12, 13, 14, 15, 16, 17, 18, 19])
 (.seq (.draw [] [⟨some 20, .mv (.t 0), none⟩, ⟨some 21, .nilc (.t 20), none⟩, ⟨some 22, .fad false 0 1 (.t 21), none⟩, ⟨some 23, .ld false 1 (.t 22), none⟩, ⟨some 24, .mv (.t 0), none⟩, ⟨some 25, .nilc (.t 24), none⟩, ⟨some 26, .fad false 1 1 (.t 25), none⟩, ⟨some 27, .ld false 1 (.t 26), none⟩, ⟨some 28, .bin .sub (.t 27) (.c (.d (.int .i64 1))), none⟩, ⟨some 29, .iad 1 (.t 23) (.t 28), none⟩, ⟨some 30, .ld false 1 (.t 29), none⟩, ⟨some 2, .mv (.t 30), none⟩] [[], [], [], [], [0, 1, 2, 3], [0, 1, 2, 3], [0, 1, 2, 3], [0, 1, 2, 3], [0, 1, 2, 3], [], [], []] [0, 20, 21, 22, 23, 24, 25, 26, 27, 28, 29, 30])
 (.ret [2])))))
def r_base_Src_Raw : List ARes := [.t 2]
def fn_base_Src_Raw : AFn := .code c_base_Src_Raw r_base_Src_Raw 31 true
/- (*shardqueue/shardqueuebase.Src).Edit -/
def c_base_Src_Edit : ACode :=
 (.seq (.ops [] [⟨some 4, .alloc (.d (.agg [.int .i64 0, .int .i64 0, .int .i64 0, .int .i64 0])), none⟩] [])
 (.seq (.ops [] [⟨some 6, .mv (.t 0), none⟩, ⟨some 7, .call N_base_Src_Range [true, false, false] [.t 6, .c (.d (.int .i64 1)), .c (.d (.int .i64 2))], none⟩, ⟨some 8, .mv (.t 0), none⟩, ⟨some 9, .mv (.t 1), none⟩, ⟨some 10, .call N_base_Src_N [true, false] [.t 8, .t 9], none⟩, ⟨some 11, .mv (.t 0), none⟩, ⟨some 12, .mv (.t 1), none⟩, ⟨some 13, .call N_base_Src_N [true, false] [.t 11, .t 12], none⟩, ⟨some 14, .build [.d (.int .i64 0), .d (.int .i64 0), .d (.int .i64 0), .d (.int .i64 0)] [(0, (1, .t 7)), (1, (1, .t 10)), (2, (1, .t 13))], none⟩, ⟨some 5, .alloc (.d (.agg [.int .i64 0, .int .i64 0, .int .i64 0, .int .i64 0])), none⟩, ⟨none, .st 4 (.t 5) (.t 14), none⟩] [1, 6, 7, 8, 9, 10, 11, 12, 13, 14])
 (.seq (.seq (.ops [] [⟨some 15, .fad false 0 1 (.t 5), none⟩, ⟨some 16, .ld false 1 (.t 15), none⟩, ⟨some 17, .bin .eql (.t 16) (.c (.d (.int .i64 1))), none⟩] [15, 16])
 (.cond (.t 17) (.ops [] [⟨some 18, .mv (.t 0), none⟩, ⟨some 19, .bsl 8 1 (.d (.int .i64 0)) [(0, .c (.d (.int .i64 0))), (1, .c (.d (.int .i64 10000))), (2, .c (.d (.int .i64 20000))), (3, .c (.d (.int .i64 32767))), (4, .c (.d (.int .i64 32768))), (5, .c (.d (.int .i64 40000))), (6, .c (.d (.int .i64 50000))), (7, .c (.d (.int .i64 65534)))], none⟩, ⟨some 20, .call N_base_Src_Pick [true, false] [.t 18, .t 19], none⟩, ⟨some 21, .fad false 3 1 (.t 5), none⟩, ⟨none, .st 1 (.t 21) (.t 20), none⟩] [0, 17, 18, 19, 20, 21]) .skip))
 (.seq (.ops [] [⟨some 22, .ld true 4 (.t 5), none⟩, ⟨none, .st 4 (.t 4) (.t 22), none⟩] [0, 5, 17, 22])
 (.ret [4])))))
def r_base_Src_Edit : List ARes := [.c 4 true 4]
def fn_base_Src_Edit : AFn := .code c_base_Src_Edit r_base_Src_Edit 23 true
/- (*shardqueue/shardqueuebase.Src).Pick -/
def c_base_Src_Pick : ACode :=
 (.seq (.ops [] [⟨some 4, .mv (.c (.d (.int .i64 0))), none⟩] [4])
 (.seq (.ops [] [⟨some 5, .mv (.t 1), none⟩, ⟨some 6, .mv (.t 0), none⟩, ⟨some 7, .mv (.t 1), none⟩, ⟨some 8, .len (.t 7), none⟩, ⟨some 9, .call N_base_Src_N [true, false] [.t 6, .t 8], none⟩, ⟨some 10, .iad 1 (.t 5) (.t 9), none⟩, ⟨some 11, .ld false 1 (.t 10), none⟩, ⟨some 4, .mv (.t 11), none⟩] [0, 1, 5, 6, 7, 8, 9, 10, 11])
 (.ret [4])))
def r_base_Src_Pick : List ARes := [.t 4]
def fn_base_Src_Pick : AFn := .code c_base_Src_Pick r_base_Src_Pick 12 true
/- shardqueue/shardqueuelaw10.DirectoryOwners -/
def l_law10_DirectoryOwners_0 : ACode :=
 (.seq (.seq (.ops [] [⟨some 57, .mv (.t 14), none⟩, ⟨some 58, .mv (.t 6), none⟩, ⟨some 59, .bin .lss (.t 57) (.t 58), none⟩] [57, 58])
 (.cond (.t 59) .skip (.exit 2 [1, 5, 6, 7, 9, 13])))
 (.seq (.block 3 (.seq (.ops [] [⟨some 63, .ld true 3 (.t 7), none⟩, ⟨some 64, .mv (.t 14), none⟩, ⟨some 65, .call N_directory_Span [] [.t 63, .t 64], none⟩, ⟨some 62, .mv (.t 65), none⟩, ⟨some 66, .ext (.t 62) 0, none⟩, ⟨some 67, .ext (.t 62) 1, none⟩, ⟨some 15, .alloc (.d (.agg [.int .i64 0, .int .i64 0, .int .i64 0])), none⟩, ⟨none, .st 3 (.t 15) (.t 66), none⟩, ⟨some 16, .mv (.t 67), none⟩] [59, 62, 63, 64, 65, 66, 67])
 (.seq (.ops [] [⟨some 68, .mv (.t 16), none⟩, ⟨some 69, .mv (.t 68), none⟩, ⟨some 70, .mv (.t 1), some (69, true)⟩, ⟨some 71, .fad false 0 1 (.t 15), some (69, true)⟩, ⟨some 72, .ld false 1 (.t 71), some (69, true)⟩, ⟨some 73, .bin .geq (.t 70) (.t 72), some (69, true)⟩, ⟨some 74, .pick (.t 69) (.t 73) (.c (.d (.bool false))), none⟩, ⟨some 75, .mv (.t 74), none⟩, ⟨some 76, .mv (.t 1), some (75, true)⟩, ⟨some 77, .fad false 1 1 (.t 15), some (75, true)⟩, ⟨some 78, .ld false 1 (.t 77), some (75, true)⟩, ⟨some 79, .bin .leq (.t 76) (.t 78), some (75, true)⟩, ⟨some 80, .pick (.t 75) (.t 79) (.c (.d (.bool false))), none⟩] [16, 68, 69, 70, 71, 72, 73, 74, 75, 76, 77, 78, 79])
 (.cond (.t 80) (.seq (.ops [] [⟨some 81, .mv (.t 13), none⟩, ⟨some 82, .bin .add (.t 81) (.c (.d (.int .i64 1))), none⟩, ⟨some 13, .mv (.t 82), none⟩] [80, 81, 82])
 (.seq (.ops [] [⟨some 83, .mv (.t 14), none⟩, ⟨some 84, .mv (.t 12), none⟩, ⟨some 85, .bin .neq (.t 83) (.t 84), none⟩, ⟨some 86, .mv (.t 85), none⟩, ⟨some 87, .fad false 2 1 (.t 15), some (86, false)⟩, ⟨some 88, .ld false 1 (.t 87), some (86, false)⟩, ⟨some 89, .mv (.t 14), some (86, false)⟩, ⟨some 90, .bin .neq (.t 88) (.t 89), some (86, false)⟩, ⟨some 91, .pick (.t 86) (.c (.d (.bool true))) (.t 90), none⟩] [15, 83, 84, 85, 86, 87, 88, 89, 90])
 (.cond (.t 91) (.seq (.ops [] [⟨some 4, .mv (.c (.d (.bool false))), none⟩] [1, 5, 6, 7, 9, 12, 13, 14, 91])
 (.ret [4])) .skip))) .skip))))
 (.ops [] [⟨some 60, .mv (.t 14), none⟩, ⟨some 61, .bin .add (.t 60) (.c (.d (.int .i64 1))), none⟩, ⟨some 14, .mv (.t 61), none⟩] [15, 60, 61, 80, 91])))
def l_law10_DirectoryOwners_1 : ACode :=
 (.seq (.seq (.ops [] [⟨some 33, .mv (.t 9), none⟩, ⟨some 34, .bin .lss (.t 33) (.c (.d (.int .i64 12))), none⟩] [33])
 (.cond (.t 34) .skip (.exit 0 [])))
 (.seq (.block 1 (.seq (.seq (.draw [] [⟨some 38, .ld true 3 (.t 7), none⟩, ⟨some 39, .mv (.t 5), none⟩, ⟨some 40, .mv (.t 6), none⟩, ⟨some 41, .call N_base_Src_Edit [true, false] [.t 39, .t 40], none⟩, ⟨some 42, .call N_directory_Apply [] [.t 38, .t 41], none⟩, ⟨some 37, .mv (.t 42), none⟩, ⟨some 43, .ext (.t 37) 0, none⟩, ⟨some 44, .ext (.t 37) 1, none⟩, ⟨some 10, .alloc (.agg [.d (.int .i64 0), .xsl [], .xsl []]), none⟩, ⟨none, .st 3 (.t 10) (.t 43), none⟩, ⟨some 11, .mv (.t 44), none⟩] [[], [0], [0, 1], [0], [], [], [], [6], [0, 1, 2, 3, 4, 5, 6, 7], [7], []] [34, 37, 38, 39, 40, 41, 42, 43, 44])
 (.seq (.ops [] [⟨some 45, .mv (.t 11), none⟩, ⟨some 46, .bin .eql (.t 45) (.c (.d (.int .i64 0))), none⟩] [11, 45])
 (.cond (.t 46) (.seq (.seq (.ops [] [⟨some 47, .fad false 0 1 (.t 10), none⟩, ⟨some 48, .ld false 1 (.t 47), none⟩, ⟨some 49, .fad false 0 1 (.t 7), none⟩, ⟨some 50, .ld false 1 (.t 49), none⟩, ⟨some 51, .bin .add (.t 50) (.c (.d (.int .i64 1))), none⟩, ⟨some 52, .bin .neq (.t 48) (.t 51), none⟩] [46, 47, 48, 49, 50, 51])
 (.cond (.t 52) (.seq (.ops [] [⟨some 4, .mv (.c (.d (.bool false))), none⟩] [1, 5, 6, 7, 9, 10, 52])
 (.ret [4])) .skip))
 (.ops [] [⟨some 53, .ld true 3 (.t 10), none⟩, ⟨none, .st 3 (.t 7) (.t 53), none⟩] [10, 52, 53])) .skip)))
 (.seq (.ops [] [⟨some 54, .ld true 3 (.t 7), none⟩, ⟨some 55, .mv (.t 1), none⟩, ⟨some 56, .call N_directory_Owner [] [.t 54, .t 55], none⟩, ⟨some 12, .mv (.t 56), none⟩] [10, 46, 54, 55, 56])
 (.seq (.ops [] [⟨some 13, .mv (.c (.d (.int .i64 0))), none⟩] [])
 (.seq (.seq (.ops [] [⟨some 14, .mv (.c (.d (.int .i64 0))), none⟩] [])
 (.block 2 (.loop [] l_law10_DirectoryOwners_0)))
 (.seq (.ops [] [⟨some 92, .mv (.t 13), none⟩, ⟨some 93, .bin .neq (.t 92) (.c (.d (.int .i64 1))), none⟩, ⟨some 94, .mv (.t 93), none⟩, ⟨some 95, .ld true 3 (.t 7), some (94, false)⟩, ⟨some 96, .call N_directory_Validate [] [.t 95], some (94, false)⟩, ⟨some 97, .bin .neq (.t 96) (.c (.d (.int .i64 0))), some (94, false)⟩, ⟨some 98, .pick (.t 94) (.c (.d (.bool true))) (.t 97), none⟩] [12, 13, 14, 59, 92, 93, 94, 95, 96, 97])
 (.cond (.t 98) (.seq (.ops [] [⟨some 4, .mv (.c (.d (.bool false))), none⟩] [1, 5, 6, 7, 9, 98])
 (.ret [4])) .skip)))))))
 (.ops [] [⟨some 35, .mv (.t 9), none⟩, ⟨some 36, .bin .add (.t 35) (.c (.d (.int .i64 1))), none⟩, ⟨some 9, .mv (.t 36), none⟩] [35, 36, 98])))
def c_law10_DirectoryOwners : ACode :=
 (.seq (.ops [] [⟨some 4, .mv (.c (.d (.bool false))), none⟩] [4])
 (.seq (.ops [] [⟨some 17, .mv (.t 0), none⟩, ⟨some 18, .call N_base_New [] [.t 17], none⟩, ⟨some 5, .mv (.t 18), none⟩] [0, 17, 18])
 (.seq (.ops [] [⟨some 19, .mv (.t 5), none⟩, ⟨some 20, .call N_base_Src_Range [true, false, false] [.t 19, .c (.d (.int .i64 1)), .c (.d (.int .i64 6))], none⟩, ⟨some 6, .mv (.t 20), none⟩] [19, 20])
 (.seq (.ops [] [⟨some 22, .mv (.t 6), none⟩, ⟨some 23, .mv (.t 5), none⟩, ⟨some 24, .mv (.t 6), none⟩, ⟨some 25, .call N_base_Src_Range [true, false, false] [.t 23, .c (.d (.int .i64 1)), .t 24], none⟩, ⟨some 26, .call N_directory_New [] [.t 22, .t 25], none⟩, ⟨some 21, .mv (.t 26), none⟩, ⟨some 27, .ext (.t 21) 0, none⟩, ⟨some 28, .ext (.t 21) 1, none⟩, ⟨some 7, .alloc (.agg [.d (.int .i64 0), .xsl [], .xsl []]), none⟩, ⟨none, .st 3 (.t 7) (.t 27), none⟩, ⟨some 8, .mv (.t 28), none⟩] [21, 22, 23, 24, 25, 26, 27, 28])
 (.seq (.seq (.ops [] [⟨some 29, .mv (.t 8), none⟩, ⟨some 30, .bin .neq (.t 29) (.c (.d (.int .i64 0))), none⟩] [8, 29])
 (.cond (.t 30) (.seq (.ops [] [⟨some 4, .mv (.c (.d (.bool false))), none⟩] [1, 5, 6, 7, 30])
 (.ret [4])) .skip))
 (.seq (.ops [] [⟨some 31, .mv (.t 1), none⟩, ⟨some 32, .bin .and (.t 31) (.c (.d (.int .i64 65535))), none⟩, ⟨some 1, .mv (.t 32), none⟩] [30, 31, 32])
 (.seq (.seq (.ops [] [⟨some 9, .mv (.c (.d (.int .i64 0))), none⟩] [])
 (.block 0 (.loop [] l_law10_DirectoryOwners_1)))
 (.seq (.ops [] [⟨some 99, .call N_law10_awake [] [], none⟩, ⟨some 4, .mv (.t 99), none⟩] [1, 5, 6, 7, 9, 34, 99])
 (.ret [4])))))))))
def r_law10_DirectoryOwners : List ARes := [.t 4]
def fn_law10_DirectoryOwners : AFn := .code c_law10_DirectoryOwners r_law10_DirectoryOwners 100 true
/- shardqueue/shardqueuelaw10.DirectoryMoves -/
def l_law10_DirectoryMoves_0 : ACode :=
 (.seq (.seq (.ops [] [⟨some 38, .mv (.t 10), none⟩, ⟨some 39, .bin .lss (.t 38) (.c (.d (.int .i64 70))), none⟩] [38])
 (.cond (.t 39) .skip (.exit 0 [])))
 (.seq (.block 1 (.seq (.ops [] [⟨some 42, .mv (.t 10), none⟩, ⟨some 43, .bin .mul (.t 42) (.c (.d (.int .i64 1000))), none⟩, ⟨some 44, .bin .rem (.t 43) (.c (.d (.int .i64 65536))), none⟩, ⟨some 11, .mv (.t 44), none⟩] [39, 42, 43, 44])
 (.seq (.seq (.ops [] [⟨some 45, .mv (.t 10), none⟩, ⟨some 46, .bin .gtr (.t 45) (.c (.d (.int .i64 60))), none⟩] [45])
 (.cond (.t 46) (.ops [] [⟨some 47, .fad false 0 1 (.t 6), none⟩, ⟨some 48, .ld false 1 (.t 47), none⟩, ⟨some 49, .fad false 1 1 (.t 6), none⟩, ⟨some 50, .ld false 1 (.t 49), none⟩, ⟨some 51, .fad false 3 1 (.t 5), none⟩, ⟨some 52, .ld false 1 (.t 51), none⟩, ⟨some 53, .fad false 3 1 (.t 5), none⟩, ⟨some 54, .ld false 1 (.t 53), none⟩, ⟨some 55, .bin .add (.t 54) (.c (.d (.int .i64 1))), none⟩, ⟨some 56, .fad false 0 1 (.t 6), none⟩, ⟨some 57, .ld false 1 (.t 56), none⟩, ⟨some 58, .bin .sub (.t 57) (.c (.d (.int .i64 1))), none⟩, ⟨some 59, .mm true [.t 58, .c (.d (.int .i64 0))], none⟩, ⟨some 60, .fad false 1 1 (.t 6), none⟩, ⟨some 61, .ld false 1 (.t 60), none⟩, ⟨some 62, .bin .add (.t 61) (.c (.d (.int .i64 1))), none⟩, ⟨some 63, .mm false [.t 62, .c (.d (.int .i64 65535))], none⟩, ⟨some 64, .bsl 9 1 (.d (.int .i64 0)) [(0, .t 48), (1, .t 50), (2, .t 52), (3, .t 55), (4, .c (.d (.int .i64 0))), (5, .c (.d (.int .i64 65535))), (6, .t 59), (7, .t 63), (8, .c (.d (.int .i64 5)))], none⟩, ⟨some 65, .mv (.t 10), none⟩, ⟨some 66, .bin .sub (.t 65) (.c (.d (.int .i64 61))), none⟩, ⟨some 67, .iad 1 (.t 64) (.t 66), none⟩, ⟨some 68, .ld false 1 (.t 67), none⟩, ⟨some 11, .mv (.t 68), none⟩] [46, 47, 48, 49, 50, 51, 52, 53, 54, 55, 56, 57, 58, 59, 60, 61, 62, 63, 64, 65, 66, 67, 68]) .skip))
 (.seq (.ops [] [⟨some 69, .ld true 3 (.t 4), none⟩, ⟨some 70, .mv (.t 11), none⟩, ⟨some 71, .call N_directory_Owner [] [.t 69, .t 70], none⟩, ⟨some 12, .mv (.t 71), none⟩] [46, 69, 70, 71])
 (.seq (.seq (.ops [] [⟨some 72, .mv (.t 12), none⟩, ⟨some 73, .fad false 1 1 (.t 5), none⟩, ⟨some 74, .ld false 1 (.t 73), none⟩, ⟨some 75, .bin .eql (.t 72) (.t 74), none⟩, ⟨some 76, .mv (.t 75), none⟩, ⟨some 77, .fad false 0 1 (.t 5), some (76, true)⟩, ⟨some 78, .ld false 1 (.t 77), some (76, true)⟩, ⟨some 79, .bin .eql (.t 78) (.c (.d (.int .i64 2))), some (76, true)⟩, ⟨some 80, .mv (.t 79), some (76, true)⟩, ⟨some 81, .mv (.t 11), some (80, false)⟩, ⟨some 82, .fad false 3 1 (.t 5), some (80, false)⟩, ⟨some 83, .ld false 1 (.t 82), some (80, false)⟩, ⟨some 84, .bin .gtr (.t 81) (.t 83), some (80, false)⟩, ⟨some 85, .pick (.t 80) (.c (.d (.bool true))) (.t 84), some (76, true)⟩, ⟨some 86, .pick (.t 76) (.t 85) (.c (.d (.bool false))), none⟩] [72, 73, 74, 75, 76, 77, 78, 79, 80, 81, 82, 83, 84, 85])
 (.cond (.t 86) (.ops [] [⟨some 87, .fad false 2 1 (.t 5), none⟩, ⟨some 88, .ld false 1 (.t 87), none⟩, ⟨some 12, .mv (.t 88), none⟩] [86, 87, 88]) .skip))
 (.seq (.ops [] [⟨some 89, .ld true 3 (.t 8), none⟩, ⟨some 90, .mv (.t 11), none⟩, ⟨some 91, .call N_directory_Owner [] [.t 89, .t 90], none⟩, ⟨some 92, .mv (.t 12), none⟩, ⟨some 93, .bin .neq (.t 91) (.t 92), none⟩] [11, 12, 86, 89, 90, 91, 92])
 (.cond (.t 93) (.seq (.ops [] [⟨some 2, .mv (.c (.d (.bool false))), none⟩] [4, 5, 6, 8, 10, 93])
 (.ret [2])) .skip)))))))
 (.ops [] [⟨some 40, .mv (.t 10), none⟩, ⟨some 41, .bin .add (.t 40) (.c (.d (.int .i64 1))), none⟩, ⟨some 10, .mv (.t 41), none⟩] [40, 41, 93])))
def c_law10_DirectoryMoves : ACode :=
 (.seq (.ops [] [⟨some 2, .mv (.c (.d (.bool false))), none⟩] [2])
 (.seq (.ops [] [⟨some 13, .mv (.t 0), none⟩, ⟨some 14, .call N_base_New [] [.t 13], none⟩, ⟨some 3, .mv (.t 14), none⟩] [0, 13, 14])
 (.seq (.ops [] [⟨some 15, .mv (.t 3), none⟩, ⟨some 16, .call N_base_Src_Directory [true] [.t 15], none⟩, ⟨some 4, .alloc (.agg [.d (.int .i64 0), .xsl [], .xsl []]), none⟩, ⟨none, .st 3 (.t 4) (.t 16), none⟩] [15, 16])
 (.seq (.ops [] [⟨some 17, .mv (.t 3), none⟩, ⟨some 18, .fad false 2 1 (.t 4), none⟩, ⟨some 19, .ld false 1 (.t 18), none⟩, ⟨some 20, .len (.t 19), none⟩, ⟨some 21, .call N_base_Src_Edit [true, false] [.t 17, .t 20], none⟩, ⟨some 5, .alloc (.d (.agg [.int .i64 0, .int .i64 0, .int .i64 0, .int .i64 0])), none⟩, ⟨none, .st 4 (.t 5) (.t 21), none⟩] [3, 17, 18, 19, 20, 21])
 (.seq (.ops [] [⟨some 23, .ld true 3 (.t 4), none⟩, ⟨some 24, .fad false 1 1 (.t 5), none⟩, ⟨some 25, .ld false 1 (.t 24), none⟩, ⟨some 26, .call N_directory_Span [] [.t 23, .t 25], none⟩, ⟨some 22, .mv (.t 26), none⟩, ⟨some 27, .ext (.t 22) 0, none⟩, ⟨some 28, .ext (.t 22) 1, none⟩, ⟨some 6, .alloc (.d (.agg [.int .i64 0, .int .i64 0, .int .i64 0])), none⟩, ⟨none, .st 3 (.t 6) (.t 27), none⟩, ⟨some 7, .mv (.t 28), none⟩] [7, 22, 23, 24, 25, 26, 27, 28])
 (.seq (.ops [] [⟨some 30, .ld true 3 (.t 4), none⟩, ⟨some 31, .ld true 4 (.t 5), none⟩, ⟨some 32, .call N_directory_Apply [] [.t 30, .t 31], none⟩, ⟨some 29, .mv (.t 32), none⟩, ⟨some 33, .ext (.t 29) 0, none⟩, ⟨some 34, .ext (.t 29) 1, none⟩, ⟨some 8, .alloc (.agg [.d (.int .i64 0), .xsl [], .xsl []]), none⟩, ⟨none, .st 3 (.t 8) (.t 33), none⟩, ⟨some 9, .mv (.t 34), none⟩] [29, 30, 31, 32, 33, 34])
 (.seq (.seq (.ops [] [⟨some 35, .mv (.t 9), none⟩, ⟨some 36, .bin .neq (.t 35) (.c (.d (.int .i64 0))), none⟩] [9, 35])
 (.cond (.t 36) (.seq (.ops [] [⟨some 37, .call N_law10_awake [] [], none⟩, ⟨some 2, .mv (.t 37), none⟩] [4, 5, 6, 8, 36, 37])
 (.ret [2])) .skip))
 (.seq (.seq (.ops [] [⟨some 10, .mv (.c (.d (.int .i64 0))), none⟩] [36])
 (.block 0 (.loop [] l_law10_DirectoryMoves_0)))
 (.seq (.ops [] [⟨some 94, .call N_law10_awake [] [], none⟩, ⟨some 2, .mv (.t 94), none⟩] [4, 5, 6, 8, 10, 39, 94])
 (.ret [2]))))))))))
def r_law10_DirectoryMoves : List ARes := [.t 2]
def fn_law10_DirectoryMoves : AFn := .code c_law10_DirectoryMoves r_law10_DirectoryMoves 95 true
/- shardqueue/shardqueuelaw10.DirectoryHomes -/
def l_law10_DirectoryHomes_0 : ACode :=
 (.seq (.seq (.ops [] [⟨some 35, .mv (.t 9), none⟩, ⟨some 36, .mv (.t 5), none⟩, ⟨some 37, .bin .lss (.t 35) (.t 36), none⟩] [35, 36])
 (.cond (.t 37) .skip (.exit 0 [3, 4, 6, 8])))
 (.seq (.block 1 (.ops [] [⟨some 40, .mv (.t 9), none⟩, ⟨some 41, .iada false 6 1 (.t 8) (.t 40), none⟩, ⟨none, .st 1 (.t 41) (.c (.d (.bool true))), none⟩] [37, 40, 41]))
 (.ops [] [⟨some 38, .mv (.t 9), none⟩, ⟨some 39, .bin .add (.t 38) (.c (.d (.int .i64 1))), none⟩, ⟨some 9, .mv (.t 39), none⟩] [38, 39])))
def l_law10_DirectoryHomes_1 : ACode :=
 (.seq (.seq (.ops [] [⟨some 61, .mv (.t 14), none⟩, ⟨some 62, .mv (.t 4), none⟩, ⟨some 63, .bin .lss (.t 61) (.t 62), none⟩] [61, 62])
 (.cond (.t 63) .skip (.exit 4 [3, 4, 6, 8, 10])))
 (.seq (.block 5 (.seq (.ops [] [⟨some 66, .ld true 3 (.t 6), none⟩, ⟨some 67, .mv (.t 14), none⟩, ⟨some 68, .call N_directory_Home [] [.t 66, .t 67], none⟩, ⟨some 15, .mv (.t 68), none⟩] [63, 66, 67, 68])
 (.seq (.ops [] [⟨some 70, .ld true 3 (.t 6), none⟩, ⟨some 71, .mv (.t 14), none⟩, ⟨some 72, .call N_directory_Span [] [.t 70, .t 71], none⟩, ⟨some 69, .mv (.t 72), none⟩, ⟨some 73, .ext (.t 69) 0, none⟩, ⟨some 74, .ext (.t 69) 1, none⟩, ⟨some 16, .alloc (.d (.agg [.int .i64 0, .int .i64 0, .int .i64 0])), none⟩, ⟨none, .st 3 (.t 16) (.t 73), none⟩, ⟨some 17, .mv (.t 74), none⟩] [16, 69, 70, 71, 72, 73, 74])
 (.seq (.seq (.ops [] [⟨some 75, .mv (.t 17), none⟩, ⟨some 76, .mv (.t 75), none⟩, ⟨some 77, .mv (.t 15), some (76, true)⟩, ⟨some 78, .mv (.t 14), some (76, true)⟩, ⟨some 79, .bin .neq (.t 77) (.t 78), some (76, true)⟩, ⟨some 80, .pick (.t 76) (.t 79) (.c (.d (.bool false))), none⟩, ⟨some 81, .mv (.t 80), none⟩, ⟨some 82, .mv (.t 14), some (81, false)⟩, ⟨some 83, .iada false 6 1 (.t 8) (.t 82), some (81, false)⟩, ⟨some 84, .ld false 1 (.t 83), some (81, false)⟩, ⟨some 85, .mv (.t 15), some (81, false)⟩, ⟨some 86, .bin .geq (.t 85) (.c (.d (.int .i64 0))), some (81, false)⟩, ⟨some 87, .eqb true (.t 84) (.t 86), some (81, false)⟩, ⟨some 88, .pick (.t 81) (.c (.d (.bool true))) (.t 87), none⟩] [17, 75, 76, 77, 78, 79, 80, 81, 82, 83, 84, 85, 86, 87])
 (.cond (.t 88) (.seq (.ops [] [⟨some 2, .mv (.c (.d (.bool false))), none⟩] [3, 4, 6, 8, 10, 14, 15, 88])
 (.ret [2])) .skip))
 (.seq (.ops [] [⟨some 89, .mv (.t 15), none⟩, ⟨some 90, .bin .geq (.t 89) (.c (.d (.int .i64 0))), none⟩] [88, 89])
 (.cond (.t 90) (.seq (.ops [] [⟨some 92, .ld true 3 (.t 6), none⟩, ⟨some 93, .mv (.t 15), none⟩, ⟨some 94, .call N_directory_Span [] [.t 92, .t 93], none⟩, ⟨some 91, .mv (.t 94), none⟩, ⟨some 95, .ext (.t 91) 0, none⟩, ⟨some 96, .ext (.t 91) 1, none⟩, ⟨some 18, .alloc (.d (.agg [.int .i64 0, .int .i64 0, .int .i64 0])), none⟩, ⟨none, .st 3 (.t 18) (.t 95), none⟩, ⟨some 19, .mv (.t 96), none⟩] [15, 18, 90, 91, 92, 93, 94, 95, 96])
 (.seq (.ops [] [⟨some 97, .mv (.t 19), none⟩, ⟨some 98, .un .not (.t 97), none⟩] [19, 97])
 (.cond (.t 98) (.seq (.ops [] [⟨some 2, .mv (.c (.d (.bool false))), none⟩] [3, 4, 6, 8, 10, 14, 98])
 (.ret [2])) .skip))) .skip))))))
 (.ops [] [⟨some 64, .mv (.t 14), none⟩, ⟨some 65, .bin .add (.t 64) (.c (.d (.int .i64 1))), none⟩, ⟨some 14, .mv (.t 65), none⟩] [15, 64, 65, 90, 98])))
def l_law10_DirectoryHomes_2 : ACode :=
 (.seq (.seq (.ops [] [⟨some 42, .mv (.t 10), none⟩, ⟨some 43, .bin .lss (.t 42) (.c (.d (.int .i64 12))), none⟩] [42])
 (.cond (.t 43) .skip (.exit 2 [])))
 (.seq (.block 3 (.seq (.ops [] [⟨some 46, .mv (.t 3), none⟩, ⟨some 47, .mv (.t 4), none⟩, ⟨some 48, .call N_base_Src_Edit [true, false] [.t 46, .t 47], none⟩, ⟨some 11, .alloc (.d (.agg [.int .i64 0, .int .i64 0, .int .i64 0, .int .i64 0])), none⟩, ⟨none, .st 4 (.t 11) (.t 48), none⟩] [43, 46, 47, 48])
 (.seq (.seq (.ops [] [⟨some 50, .ld true 3 (.t 6), none⟩, ⟨some 51, .ld true 4 (.t 11), none⟩, ⟨some 52, .call N_directory_Apply [] [.t 50, .t 51], none⟩, ⟨some 49, .mv (.t 52), none⟩, ⟨some 53, .ext (.t 49) 0, none⟩, ⟨some 54, .ext (.t 49) 1, none⟩, ⟨some 12, .alloc (.agg [.d (.int .i64 0), .xsl [], .xsl []]), none⟩, ⟨none, .st 3 (.t 12) (.t 53), none⟩, ⟨some 13, .mv (.t 54), none⟩] [49, 50, 51, 52, 53, 54])
 (.seq (.ops [] [⟨some 55, .mv (.t 13), none⟩, ⟨some 56, .bin .eql (.t 55) (.c (.d (.int .i64 0))), none⟩] [13, 55])
 (.cond (.t 56) (.seq (.ops [] [⟨some 57, .ld true 3 (.t 12), none⟩, ⟨none, .st 3 (.t 6) (.t 57), none⟩] [12, 56, 57])
 (.ops [] [⟨some 58, .fad false 2 1 (.t 11), none⟩, ⟨some 59, .ld false 1 (.t 58), none⟩, ⟨some 60, .iada false 6 1 (.t 8) (.t 59), none⟩, ⟨none, .st 1 (.t 60) (.c (.d (.bool true))), none⟩] [11, 58, 59, 60])) .skip)))
 (.seq (.ops [] [⟨some 14, .mv (.c (.d (.int .i64 0))), none⟩] [11, 12, 56])
 (.block 4 (.loop [] l_law10_DirectoryHomes_1))))))
 (.ops [] [⟨some 44, .mv (.t 10), none⟩, ⟨some 45, .bin .add (.t 44) (.c (.d (.int .i64 1))), none⟩, ⟨some 10, .mv (.t 45), none⟩] [14, 44, 45, 63])))
def c_law10_DirectoryHomes : ACode :=
 (.seq (.ops [] [⟨some 2, .mv (.c (.d (.bool false))), none⟩] [2])
 (.seq (.ops [] [⟨some 20, .mv (.t 0), none⟩, ⟨some 21, .call N_base_New [] [.t 20], none⟩, ⟨some 3, .mv (.t 21), none⟩] [0, 20, 21])
 (.seq (.ops [] [⟨some 22, .mv (.t 3), none⟩, ⟨some 23, .call N_base_Src_Range [true, false, false] [.t 22, .c (.d (.int .i64 1)), .c (.d (.int .i64 6))], none⟩, ⟨some 4, .mv (.t 23), none⟩] [22, 23])
 (.seq (.ops [] [⟨some 24, .mv (.t 3), none⟩, ⟨some 25, .mv (.t 4), none⟩, ⟨some 26, .call N_base_Src_Range [true, false, false] [.t 24, .c (.d (.int .i64 1)), .t 25], none⟩, ⟨some 5, .mv (.t 26), none⟩] [24, 25, 26])
 (.seq (.ops [] [⟨some 28, .mv (.t 4), none⟩, ⟨some 29, .mv (.t 5), none⟩, ⟨some 30, .call N_directory_New [] [.t 28, .t 29], none⟩, ⟨some 27, .mv (.t 30), none⟩, ⟨some 31, .ext (.t 27) 0, none⟩, ⟨some 32, .ext (.t 27) 1, none⟩, ⟨some 6, .alloc (.agg [.d (.int .i64 0), .xsl [], .xsl []]), none⟩, ⟨none, .st 3 (.t 6) (.t 31), none⟩, ⟨some 7, .mv (.t 32), none⟩] [27, 28, 29, 30, 31, 32])
 (.seq (.seq (.ops [] [⟨some 33, .mv (.t 7), none⟩, ⟨some 34, .bin .neq (.t 33) (.c (.d (.int .i64 0))), none⟩] [7, 33])
 (.cond (.t 34) (.seq (.ops [] [⟨some 2, .mv (.c (.d (.bool false))), none⟩] [3, 4, 5, 6, 34])
 (.ret [2])) .skip))
 (.seq (.ops [] [⟨some 8, .alloc (.d (.agg [.bool false, .bool false, .bool false, .bool false, .bool false, .bool false])), none⟩] [34])
 (.seq (.seq (.ops [] [⟨some 9, .mv (.c (.d (.int .i64 0))), none⟩] [])
 (.block 0 (.loop [] l_law10_DirectoryHomes_0)))
 (.seq (.seq (.ops [] [⟨some 10, .mv (.c (.d (.int .i64 0))), none⟩] [5, 9, 37])
 (.block 2 (.loop [] l_law10_DirectoryHomes_2)))
 (.seq (.ops [] [⟨some 99, .call N_law10_awake [] [], none⟩, ⟨some 2, .mv (.t 99), none⟩] [3, 4, 6, 8, 10, 43, 99])
 (.ret [2])))))))))))
def r_law10_DirectoryHomes : List ARes := [.t 2]
def fn_law10_DirectoryHomes : AFn := .code c_law10_DirectoryHomes r_law10_DirectoryHomes 100 true
end Go.Proofs.Ytkdjbfjohbiemaa
