/-
  Functions of the program, as the calculus has them.
-/
import Derived.Test.YtamiielalcnakaaB5375bff
set_option linter.unusedSimpArgs false
set_option linter.unusedVariables false
namespace Go.Proofs.Ytamiielalcnakaa
open Go Go.Sim
/- shardqueue/shardqueuelaw17.BatchBuilt -/
def l_law17_BatchBuilt_0 : ACode :=
 (.seq (.seq (.ops [] [⟨some 63, .mv (.t 7), none⟩, ⟨some 64, .bin .gtr (.t 63) (.c (.d (.int .i64 0))), none⟩] [63])
 (.cond (.t 64) .skip (.exit 3 [3, 4, 5, 6])))
 (.seq (.block 4 (.ops [] [⟨some 67, .fad false 7 1 (.t 6), none⟩, ⟨some 68, .ld false 1 (.t 67), none⟩, ⟨some 69, .mv (.t 7), none⟩, ⟨some 70, .cvi .u8 (.t 69), none⟩, ⟨some 71, .bsl 1 1 (.d (.int .u8 0)) [(0, .t 70)], none⟩, ⟨some 72, .bsl 1 1 (.xsl []) [(0, .t 71)], none⟩, ⟨some 73, .app 1 (.t 68) (.t 72), none⟩, ⟨some 74, .fad false 7 1 (.t 6), none⟩, ⟨none, .st 1 (.t 74) (.t 73), none⟩] [64, 67, 68, 69, 70, 71, 72, 73, 74]))
 (.ops [] [⟨some 65, .mv (.t 7), none⟩, ⟨some 66, .bin .sub (.t 65) (.c (.d (.int .i64 1))), none⟩, ⟨some 7, .mv (.t 66), none⟩] [65, 66])))
def l_law17_BatchBuilt_1 : ACode :=
 (.seq (.seq (.ops [] [⟨some 79, .mv (.t 8), none⟩, ⟨some 80, .bin .gtr (.t 79) (.c (.d (.int .i64 0))), none⟩] [79])
 (.cond (.t 80) .skip (.exit 5 [3, 4, 5, 6])))
 (.seq (.block 6 (.draw [] [⟨some 83, .fad false 6 1 (.t 6), none⟩, ⟨some 84, .ld false 1 (.t 83), none⟩, ⟨some 85, .sls (.c (.d (.str [48, 49, 50, 51, 52, 53, 54, 55, 56, 57, 97, 98, 99, 100, 101, 102]))) none (some (.c (.d (.int .i64 14)))), none⟩, ⟨some 86, .mv (.t 3), none⟩, ⟨some 87, .call N_base_Src_Body [true] [.t 86], none⟩, ⟨some 88, .bin .add (.t 85) (.t 87), none⟩, ⟨some 89, .bsl 1 1 (.d (.str [])) [(0, .t 88)], none⟩, ⟨some 90, .app 1 (.t 84) (.t 89), none⟩, ⟨some 91, .fad false 6 1 (.t 6), none⟩, ⟨none, .st 1 (.t 91) (.t 90), none⟩] [[], [], [0, 1], [0, 1, 2], [0, 1, 2], [0, 1], [0, 1], [], [], []] [80, 83, 84, 85, 86, 87, 88, 89, 90, 91]))
 (.ops [4000090] [⟨some 81, .mv (.t 8), none⟩, ⟨some 82, .bin .sub (.t 81) (.c (.d (.int .i64 1))), none⟩, ⟨some 8, .mv (.t 82), none⟩] [81, 82])))
def l_law17_BatchBuilt_2 : ACode :=
 (.seq (.seq (.ops [] [⟨some 19, .mv (.t 5), none⟩, ⟨some 20, .bin .lss (.t 19) (.c (.d (.int .i64 6))), none⟩] [19])
 (.cond (.t 20) .skip (.exit 0 [])))
 (.seq (.block 1 (.seq (.ops [] [⟨some 23, .mv (.t 3), none⟩, ⟨some 24, .call N_base_Src_Command [true] [.t 23], none⟩, ⟨some 25, .fld true 3 8 (.t 24), none⟩, ⟨some 6, .alloc (.agg [.d (.int .i64 0), .d (.int .i64 0), .d (.int .i64 0), .d (.int .i64 0), .d (.int .i64 0), .d (.int .i64 0), .xsl [], .xsl []]), none⟩, ⟨none, .st 8 (.t 6) (.t 25), none⟩] [20, 23, 24, 25])
 (.seq (.seq (.ops [] [⟨some 26, .mv (.t 3), none⟩, ⟨some 27, .call N_base_Src_N [true, false] [.t 26, .c (.d (.int .i64 3))], none⟩, ⟨some 28, .bin .eql (.t 27) (.c (.d (.int .i64 0))), none⟩] [26, 27])
 (.cond (.t 28) (.ops [] [⟨some 29, .mv (.t 3), none⟩, ⟨some 30, .call N_base_Src_Range [true, false, false] [.t 29, .c (.d (.int .i64 0)), .c (.d (.int .i64 15))], none⟩, ⟨some 31, .fad false 0 1 (.t 6), none⟩, ⟨none, .st 1 (.t 31) (.t 30), none⟩] [28, 29, 30, 31]) .skip))
 (.seq (.seq (.ops [] [⟨some 32, .mv (.t 3), none⟩, ⟨some 33, .call N_base_Src_N [true, false] [.t 32, .c (.d (.int .i64 8))], none⟩] [28, 32])
 (.block 2 (.seq (.ops [] [⟨some 35, .bin .eql (.t 33) (.c (.d (.int .i64 0))), none⟩, ⟨some 34, .mv (.t 35), none⟩] [35])
 (.cond (.t 34) (.ops [] [⟨some 36, .mv (.t 3), none⟩, ⟨some 37, .call N_base_Src_Range [true, false, false] [.t 36, .c (.d (.int .i64 (-1))), .c (.d (.int .i64 5))], none⟩, ⟨some 38, .fad false 1 1 (.t 6), none⟩, ⟨none, .st 1 (.t 38) (.t 37), none⟩] [33, 34, 36, 37, 38]) (.seq (.ops [] [⟨some 40, .bin .eql (.t 33) (.c (.d (.int .i64 1))), none⟩, ⟨some 39, .mv (.t 40), none⟩] [34, 40])
 (.cond (.t 39) (.ops [] [⟨some 41, .mv (.t 3), none⟩, ⟨some 42, .bsl 3 1 (.d (.int .i64 0)) [(0, .c (.d (.int .i64 0))), (1, .c (.d (.int .i64 6))), (2, .c (.d (.int .i64 7)))], none⟩, ⟨some 43, .call N_base_Src_Pick [true, false] [.t 41, .t 42], none⟩, ⟨some 44, .fad false 2 1 (.t 6), none⟩, ⟨none, .st 1 (.t 44) (.t 43), none⟩] [33, 39, 41, 42, 43, 44]) (.seq (.ops [] [⟨some 46, .bin .eql (.t 33) (.c (.d (.int .i64 2))), none⟩, ⟨some 45, .mv (.t 46), none⟩] [39, 46])
 (.cond (.t 45) (.ops [] [⟨some 47, .mv (.t 3), none⟩, ⟨some 48, .bsl 3 1 (.d (.int .i64 0)) [(0, .c (.d (.int .i64 (-1)))), (1, .c (.d (.int .i64 1000))), (2, .c (.d (.int .i64 1001)))], none⟩, ⟨some 49, .call N_base_Src_Pick [true, false] [.t 47, .t 48], none⟩, ⟨some 50, .fad false 3 1 (.t 6), none⟩, ⟨none, .st 1 (.t 50) (.t 49), none⟩] [33, 45, 47, 48, 49, 50]) (.seq (.ops [] [⟨some 52, .bin .eql (.t 33) (.c (.d (.int .i64 3))), none⟩, ⟨some 51, .mv (.t 52), none⟩] [45, 52])
 (.cond (.t 51) (.ops [] [⟨some 53, .mv (.t 3), none⟩, ⟨some 54, .call N_base_Src_Range [true, false, false] [.t 53, .c (.d (.int .i64 (-1))), .c (.d (.int .i64 5))], none⟩, ⟨some 55, .mv (.t 3), none⟩, ⟨some 56, .call N_base_Src_Range [true, false, false] [.t 55, .c (.d (.int .i64 (-1))), .c (.d (.int .i64 5))], none⟩, ⟨some 57, .fad false 4 1 (.t 6), none⟩, ⟨none, .st 1 (.t 57) (.t 54), none⟩, ⟨some 58, .fad false 5 1 (.t 6), none⟩, ⟨none, .st 1 (.t 58) (.t 56), none⟩] [33, 51, 53, 54, 55, 56, 57, 58]) (.seq (.ops [] [⟨some 60, .bin .eql (.t 33) (.c (.d (.int .i64 4))), none⟩, ⟨some 59, .mv (.t 60), none⟩] [51, 60])
 (.cond (.t 59) (.seq (.ops [] [⟨some 61, .mv (.t 3), none⟩, ⟨some 62, .call N_base_Src_N [true, false] [.t 61, .c (.d (.int .i64 9))], none⟩, ⟨some 7, .mv (.t 62), none⟩] [33, 59, 61, 62])
 (.block 3 (.loop [] l_law17_BatchBuilt_0))) (.seq (.ops [] [⟨some 76, .bin .eql (.t 33) (.c (.d (.int .i64 5))), none⟩, ⟨some 75, .mv (.t 76), none⟩] [33, 59, 76])
 (.cond (.t 75) (.seq (.ops [] [⟨some 77, .mv (.t 3), none⟩, ⟨some 78, .call N_base_Src_N [true, false] [.t 77, .c (.d (.int .i64 9))], none⟩, ⟨some 8, .mv (.t 78), none⟩] [75, 77, 78])
 (.block 5 (.loop [] l_law17_BatchBuilt_1))) .skip))))))))))))))
 (.seq (.ops [] [⟨some 92, .mv (.t 3), none⟩, ⟨some 93, .bsl 5 1 (.d (.int .i64 0)) [(0, .c (.d (.int .i64 1))), (1, .c (.d (.int .i64 5))), (2, .c (.d (.int .i64 200))), (3, .c (.d (.int .i64 0))), (4, .c (.d (.int .i64 201)))], none⟩, ⟨some 94, .call N_base_Src_Pick [true, false] [.t 92, .t 93], none⟩, ⟨some 95, .mv (.t 3), none⟩, ⟨some 96, .call N_base_Src_Range [true, false, false] [.t 95, .c (.d (.int .i64 (-1))), .c (.d (.int .i64 9))], none⟩, ⟨some 9, .mv (.t 94), none⟩, ⟨some 10, .mv (.t 96), none⟩] [7, 8, 64, 75, 80, 92, 93, 94, 95, 96])
 (.seq (.ops [] [⟨some 98, .mv (.t 9), none⟩, ⟨some 99, .ld true 8 (.t 6), none⟩, ⟨some 100, .ld true 8 (.t 4), none⟩, ⟨some 101, .mv (.t 10), none⟩, ⟨some 102, .call N_batch_Start [] [.t 98, .t 99, .t 100, .t 101], none⟩, ⟨some 97, .mv (.t 102), none⟩, ⟨some 103, .ext (.t 97) 0, none⟩, ⟨some 104, .ext (.t 97) 1, none⟩, ⟨some 11, .alloc (.agg [.d (.int .i64 0), .d (.int .i64 0), .d (.int .i64 0), .d (.int .i64 0), .d (.int .i64 0), .d (.int .i64 0), .d (.int .i64 0), .xsl [], .xsl [], .d (.int .i64 0), .d (.bool false), .d (.int .i64 0), .d (.int .i64 0), .d (.int .i64 0), .xsl [], .d (.int .i64 0), .d (.int .i64 0), .d (.int .i64 0), .d (.int .i64 0), .d (.int .i64 0), .d (.int .i64 0), .d (.int .i64 0), .d (.int .i64 0), .d (.int .i64 0), .d (.int .i64 0), .xsl [], .d (.int .i64 0), .d (.int .i64 0), .d (.int .i64 0), .d (.int .i64 0), .d (.int .i64 0), .d (.int .i64 0), .d (.int .i64 0), .d (.int .i64 0), .xsl [], .d (.int .i64 0), .xsl [], .xsl [], .d (.int .i64 0), .xsl [], .xsl [], .xsl [], .d (.int .i64 0), .xsl [], .xsl [], .xsl [], .xsl [], .d (.int .i64 0), .xsl [], .d (.int .i64 0), .xsl [], .xsl [], .d (.int .i64 0), .d (.int .i64 0), .d (.int .i64 0), .d (.int .i64 0), .d (.int .i64 0), .d (.int .i64 0), .d (.int .i64 0), .d (.int .i64 0), .d (.int .i64 0), .xsl [], .xsl []]), none⟩, ⟨none, .st 63 (.t 11) (.t 103), none⟩, ⟨some 12, .mv (.t 104), none⟩] [97, 98, 99, 100, 101, 102, 103, 104])
 (.seq (.ops [] [⟨some 106, .mv (.t 9), none⟩, ⟨some 107, .ld true 8 (.t 6), none⟩, ⟨some 108, .ld true 8 (.t 4), none⟩, ⟨some 109, .mv (.t 10), none⟩, ⟨some 110, .call N_ref17_Start [] [.t 106, .t 107, .t 108, .t 109], none⟩, ⟨some 105, .mv (.t 110), none⟩, ⟨some 111, .ext (.t 105) 0, none⟩, ⟨some 112, .ext (.t 105) 1, none⟩, ⟨some 13, .alloc (.agg [.d (.int .i64 0), .d (.int .i64 0), .d (.int .i64 0), .d (.int .i64 0), .d (.int .i64 0), .d (.int .i64 0), .d (.int .i64 0), .xsl [], .xsl [], .d (.int .i64 0), .d (.bool false), .d (.int .i64 0), .d (.int .i64 0), .d (.int .i64 0), .xsl [], .d (.int .i64 0), .d (.int .i64 0), .d (.int .i64 0), .d (.int .i64 0), .d (.int .i64 0), .d (.int .i64 0), .d (.int .i64 0), .d (.int .i64 0), .d (.int .i64 0), .d (.int .i64 0), .xsl [], .d (.int .i64 0), .d (.int .i64 0), .d (.int .i64 0), .d (.int .i64 0), .d (.int .i64 0), .d (.int .i64 0), .d (.int .i64 0), .d (.int .i64 0), .xsl [], .d (.int .i64 0), .xsl [], .xsl [], .d (.int .i64 0), .xsl [], .xsl [], .xsl [], .d (.int .i64 0), .xsl [], .xsl [], .xsl [], .xsl [], .d (.int .i64 0), .xsl [], .d (.int .i64 0), .xsl [], .xsl [], .d (.int .i64 0), .d (.int .i64 0), .d (.int .i64 0), .d (.int .i64 0), .d (.int .i64 0), .d (.int .i64 0), .d (.int .i64 0), .d (.int .i64 0), .d (.int .i64 0), .xsl [], .xsl []]), none⟩, ⟨none, .st 63 (.t 13) (.t 111), none⟩, ⟨some 14, .mv (.t 112), none⟩] [9, 10, 105, 106, 107, 108, 109, 110, 111, 112])
 (.seq (.draw [] [⟨some 113, .mv (.t 12), none⟩, ⟨some 114, .mv (.t 14), none⟩, ⟨some 115, .bin .neq (.t 113) (.t 114), none⟩, ⟨some 116, .mv (.t 115), none⟩, ⟨some 117, .ld true 63 (.t 11), some (116, false)⟩, ⟨some 118, .ld true 63 (.t 13), some (116, false)⟩, ⟨some 119, .call N_law17_same [] [.t 117, .t 118], some (116, false)⟩, ⟨some 120, .un .not (.t 119), some (116, false)⟩, ⟨some 121, .pick (.t 116) (.c (.d (.bool true))) (.t 120), none⟩, ⟨some 122, .mv (.t 121), none⟩, ⟨some 123, .ld true 8 (.t 6), some (122, false)⟩, ⟨some 124, .ld true 8 (.t 4), some (122, false)⟩, ⟨some 125, .call N_batch_Validate [] [.t 123, .t 124], some (122, false)⟩, ⟨some 126, .ld true 8 (.t 6), some (122, false)⟩, ⟨some 127, .ld true 8 (.t 4), some (122, false)⟩, ⟨some 128, .call N_ref17_Validate [] [.t 126, .t 127], some (122, false)⟩, ⟨some 129, .bin .neq (.t 125) (.t 128), some (122, false)⟩, ⟨some 130, .pick (.t 122) (.c (.d (.bool true))) (.t 129), none⟩, ⟨some 131, .mv (.t 130), none⟩, ⟨some 132, .ld true 8 (.t 6), some (131, false)⟩, ⟨some 133, .call N_batch_Entries [] [.t 132], some (131, false)⟩, ⟨some 134, .ld true 8 (.t 6), some (131, false)⟩, ⟨some 135, .call N_ref17_Entries [] [.t 134], some (131, false)⟩, ⟨some 136, .bin .neq (.t 133) (.t 135), some (131, false)⟩, ⟨some 137, .pick (.t 131) (.c (.d (.bool true))) (.t 136), none⟩] [[], [0], [], [], [], [4], [], [], [], [], [], [10], [], [10, 11, 12], [10, 11, 12, 13], [], [], [], [], [], [], [19, 20], [], [], []] [6, 11, 12, 13, 14, 113, 114, 115, 116, 117, 118, 119, 120, 121, 122, 123, 124, 125, 126, 127, 128, 129, 130, 131, 132, 133, 134, 135, 136])
 (.cond (.t 137) (.seq (.ops [] [⟨some 2, .mv (.c (.d (.bool false))), none⟩] [3, 4, 5, 137])
 (.ret [2])) .skip)))))))))
 (.ops [] [⟨some 21, .mv (.t 5), none⟩, ⟨some 22, .bin .add (.t 21) (.c (.d (.int .i64 1))), none⟩, ⟨some 5, .mv (.t 22), none⟩] [21, 22, 137])))
def c_law17_BatchBuilt : ACode :=
 (.seq (.ops [] [⟨some 2, .mv (.c (.d (.bool false))), none⟩] [2])
 (.seq (.ops [] [⟨some 15, .mv (.t 0), none⟩, ⟨some 16, .call N_base_New [] [.t 15], none⟩, ⟨some 3, .mv (.t 16), none⟩] [0, 15, 16])
 (.seq (.ops [] [⟨some 17, .mv (.t 3), none⟩, ⟨some 18, .call N_base_Src_Setup [true] [.t 17], none⟩, ⟨some 4, .alloc (.d (.agg [.int .i64 0, .int .i64 0, .int .i64 0, .int .i64 0, .int .i64 0, .int .i64 0, .int .i64 0, .int .i64 0])), none⟩, ⟨none, .st 8 (.t 4) (.t 18), none⟩] [17, 18])
 (.seq (.seq (.ops [] [⟨some 5, .mv (.c (.d (.int .i64 0))), none⟩] [])
 (.block 0 (.loop [] l_law17_BatchBuilt_2)))
 (.seq (.ops [] [⟨some 138, .call N_law17_awake [] [], none⟩, ⟨some 2, .mv (.t 138), none⟩] [3, 4, 5, 20, 138])
 (.ret [2]))))))
def r_law17_BatchBuilt : List ARes := [.t 2]
def fn_law17_BatchBuilt : AFn := .code c_law17_BatchBuilt r_law17_BatchBuilt 139 true
/- shardqueue/shardqueuebase.New -/
def c_base_New : ACode :=
 (.seq (.ops [] [⟨some 2, .mv (.c .undef), none⟩] [2])
 (.seq (.seq (.ops [] [⟨some 3, .mv (.t 0), none⟩, ⟨some 4, .len (.t 3), none⟩, ⟨some 5, .bin .gtr (.t 4) (.c (.d (.int .i64 4000))), none⟩] [3, 4])
 (.cond (.t 5) (.ops [] [⟨some 6, .mv (.t 0), none⟩, ⟨some 7, .slc 1 (.t 6) none (some (.c (.d (.int .i64 4000)))) none, none⟩, ⟨some 0, .mv (.t 7), none⟩] [5, 6, 7]) .skip))
 (.seq (.ops [] [⟨some 8, .mv (.t 0), none⟩, ⟨some 9, .build [.xsl [], .d (.int .i64 0)] [(0, (1, .t 8))], none⟩, ⟨some 10, .box (.t 9), none⟩, ⟨some 2, .mv (.t 10), none⟩] [0, 5, 8, 9, 10])
 (.ret [2]))))
def r_base_New : List ARes := [.t 2]
def fn_base_New : AFn := .code c_base_New r_base_New 11 false
/- (*shardqueue/shardqueuebase.Src).Setup -/
def c_base_Src_Setup : ACode :=
 (.seq (.ops [] [⟨some 2, .alloc (.d (.agg [.int .i64 0, .int .i64 0, .int .i64 0, .int .i64 0, .int .i64 0, .int .i64 0, .int .i64 0, .int .i64 0])), none⟩] [])
 (.seq (.ops [] [⟨some 4, .mv (.t 0), none⟩, ⟨some 5, .call N_base_Src_Range [true, false, false] [.t 4, .c (.d (.int .i64 1)), .c (.d (.int .i64 4))], none⟩, ⟨some 6, .mv (.t 0), none⟩, ⟨some 7, .call N_base_Src_Range [true, false, false] [.t 6, .c (.d (.int .i64 1)), .c (.d (.int .i64 5))], none⟩, ⟨some 8, .mv (.t 0), none⟩, ⟨some 9, .call N_base_Src_Range [true, false, false] [.t 8, .c (.d (.int .i64 1)), .c (.d (.int .i64 4))], none⟩, ⟨some 10, .mv (.t 0), none⟩, ⟨some 11, .call N_base_Src_Range [true, false, false] [.t 10, .c (.d (.int .i64 1)), .c (.d (.int .i64 3))], none⟩, ⟨some 12, .build [.d (.int .i64 0), .d (.int .i64 0), .d (.int .i64 0), .d (.int .i64 0), .d (.int .i64 0), .d (.int .i64 0), .d (.int .i64 0), .d (.int .i64 0)] [(0, (1, .t 5)), (2, (1, .t 7)), (3, (1, .t 9)), (4, (1, .t 11)), (6, (1, .c (.d (.int .i64 1))))], none⟩, ⟨some 3, .alloc (.d (.agg [.int .i64 0, .int .i64 0, .int .i64 0, .int .i64 0, .int .i64 0, .int .i64 0, .int .i64 0, .int .i64 0])), none⟩, ⟨none, .st 8 (.t 3) (.t 12), none⟩] [4, 5, 6, 7, 8, 9, 10, 11, 12])
 (.seq (.ops [] [⟨some 13, .mv (.t 0), none⟩, ⟨some 14, .fad false 0 1 (.t 3), none⟩, ⟨some 15, .ld false 1 (.t 14), none⟩, ⟨some 16, .call N_base_Src_Range [true, false, false] [.t 13, .c (.d (.int .i64 1)), .t 15], none⟩, ⟨some 17, .fad false 1 1 (.t 3), none⟩, ⟨none, .st 1 (.t 17) (.t 16), none⟩] [13, 14, 15, 16, 17])
 (.seq (.seq (.ops [] [⟨some 18, .mv (.t 0), none⟩, ⟨some 19, .call N_base_Src_N [true, false] [.t 18, .c (.d (.int .i64 12))], none⟩] [18])
 (.block 0 (.seq (.ops [] [⟨some 21, .bin .eql (.t 19) (.c (.d (.int .i64 9))), none⟩, ⟨some 20, .mv (.t 21), none⟩] [21])
 (.cond (.t 20) (.ops [] [⟨some 22, .mv (.t 0), none⟩, ⟨some 23, .call N_base_Src_N [true, false] [.t 22, .c (.d (.int .i64 200))], none⟩, ⟨some 24, .bin .sub (.c (.d (.int .i64 1073741824))) (.t 23), none⟩, ⟨some 25, .fad false 5 1 (.t 3), none⟩, ⟨none, .st 1 (.t 25) (.t 24), none⟩] [0, 19, 20, 22, 23, 24, 25]) (.seq (.ops [] [⟨some 27, .bin .eql (.t 19) (.c (.d (.int .i64 10))), none⟩, ⟨some 26, .mv (.t 27), none⟩] [20, 27])
 (.cond (.t 26) (.ops [] [⟨some 28, .mv (.t 0), none⟩, ⟨some 29, .call N_base_Src_N [true, false] [.t 28, .c (.d (.int .i64 4))], none⟩, ⟨some 30, .bin .sub (.c (.d (.int .i64 1073741824))) (.t 29), none⟩, ⟨some 31, .fad false 6 1 (.t 3), none⟩, ⟨none, .st 1 (.t 31) (.t 30), none⟩] [0, 19, 26, 28, 29, 30, 31]) (.seq (.ops [] [⟨some 33, .bin .eql (.t 19) (.c (.d (.int .i64 11))), none⟩, ⟨some 32, .mv (.t 33), none⟩] [19, 26, 33])
 (.cond (.t 32) (.ops [] [⟨some 34, .mv (.t 0), none⟩, ⟨some 35, .call N_base_Src_N [true, false] [.t 34, .c (.d (.int .i64 3))], none⟩, ⟨some 36, .bin .sub (.c (.d (.int .i64 65536))) (.t 35), none⟩, ⟨some 37, .fad false 7 1 (.t 3), none⟩, ⟨none, .st 1 (.t 37) (.t 36), none⟩] [0, 32, 34, 35, 36, 37]) .skip))))))))
 (.seq (.ops [] [⟨some 38, .ld true 8 (.t 3), none⟩, ⟨none, .st 8 (.t 2) (.t 38), none⟩] [0, 3, 32, 38])
 (.ret [2]))))))
def r_base_Src_Setup : List ARes := [.c 2 true 8]
def fn_base_Src_Setup : AFn := .code c_base_Src_Setup r_base_Src_Setup 39 true
/- (*shardqueue/shardqueuebase.Src).Range -/
def c_base_Src_Range : ACode :=
 (.seq (.ops [] [⟨some 6, .mv (.c (.d (.int .i64 0))), none⟩] [6])
 (.seq (.ops [] [⟨some 7, .mv (.t 1), none⟩, ⟨some 8, .mv (.t 0), none⟩, ⟨some 9, .mv (.t 2), none⟩, ⟨some 10, .mv (.t 1), none⟩, ⟨some 11, .bin .sub (.t 9) (.t 10), none⟩, ⟨some 12, .bin .add (.t 11) (.c (.d (.int .i64 1))), none⟩, ⟨some 13, .call N_base_Src_N [true, false] [.t 8, .t 12], none⟩, ⟨some 14, .bin .add (.t 7) (.t 13), none⟩, ⟨some 6, .mv (.t 14), none⟩] [0, 1, 2, 7, 8, 9, 10, 11, 12, 13, 14])
 (.ret [6])))
def r_base_Src_Range : List ARes := [.t 6]
def fn_base_Src_Range : AFn := .code c_base_Src_Range r_base_Src_Range 15 true
/- (*shardqueue/shardqueuebase.Src).N -/
def c_base_Src_N : ACode :=
 (.seq (.ops [] [⟨some 4, .mv (.c (.d (.int .i64 0))), none⟩] [4])
 (.seq (.seq (.ops [] [⟨some 6, .mv (.t 1), none⟩, ⟨some 7, .bin .lss (.t 6) (.c (.d (.int .i64 1))), none⟩] [6])
 (.cond (.t 7) (.seq (.ops [] [⟨some 4, .mv (.c (.d (.int .i64 0))), none⟩] [0, 1, 7])
 (.ret [4])) .skip))
 (.seq (.ops [] [⟨some 8, .mv (.t 0), none⟩, ⟨some 9, .call N_base_Src_Raw [true] [.t 8], none⟩, ⟨some 10, .mv (.t 1), none⟩, ⟨some 11, .bin .rem (.t 9) (.t 10), none⟩, ⟨some 5, .mv (.t 11), none⟩] [0, 7, 8, 9, 10, 11])
 (.seq (.seq (.ops [] [⟨some 12, .mv (.t 5), none⟩, ⟨some 13, .bin .lss (.t 12) (.c (.d (.int .i64 0))), none⟩] [12])
 (.cond (.t 13) (.ops [] [⟨some 14, .mv (.t 5), none⟩, ⟨some 15, .mv (.t 1), none⟩, ⟨some 16, .bin .add (.t 14) (.t 15), none⟩, ⟨some 5, .mv (.t 16), none⟩] [1, 13, 14, 15, 16]) .skip))
 (.seq (.ops [] [⟨some 17, .mv (.t 5), none⟩, ⟨some 4, .mv (.t 17), none⟩] [1, 5, 13, 17])
 (.ret [4]))))))
def r_base_Src_N : List ARes := [.t 4]
def fn_base_Src_N : AFn := .code c_base_Src_N r_base_Src_N 18 true
/- (*shardqueue/shardqueuebase.Src).Raw -/
def c_base_Src_Raw : ACode :=
 (.seq (.ops [] [⟨some 2, .mv (.c (.d (.int .i64 0))), none⟩] [2])
 (.seq (.seq (.draw [] [⟨some 3, .mv (.t 0), none⟩, ⟨some 4, .nilc (.t 3), none⟩, ⟨some 5, .fad false 1 1 (.t 4), none⟩, ⟨some 6, .ld false 1 (.t 5), none⟩, ⟨some 7, .mv (.t 0), none⟩, ⟨some 8, .nilc (.t 7), none⟩, ⟨some 9, .fad false 0 1 (.t 8), none⟩, ⟨some 10, .ld false 1 (.t 9), none⟩, ⟨some 11, .len (.t 10), none⟩, ⟨some 12, .bin .geq (.t 6) (.t 11), none⟩] [[], [], [], [], [0, 1, 2, 3], [0, 1, 2, 3], [0, 1, 2, 3], [0, 1, 2, 3], [0, 1, 2, 3], []] [3, 4, 5, 6, 7, 8, 9, 10, 11])
 (.cond (.t 12) (.seq (.ops [] [⟨some 2, .mv (.c (.d (.int .i64 0))), none⟩] [0, 12])
 (.ret [2])) .skip))
 (.seq (.ops [] [⟨some 13, .mv (.t 0), none⟩, ⟨some 14, .nilc (.t 13), none⟩, ⟨some 15, .fad false 1 1 (.t 14), none⟩, ⟨some 16, .ld false 1 (.t 15), none⟩, ⟨some 17, .bin .add (.t 16) (.c (.d (.int .i64 1))), none⟩, ⟨some 18, .nilc (.t 13), none⟩, ⟨some 19, .fad false 1 1 (.t 18), none⟩, ⟨none, .st 1 (.t 19) (.t 17), none⟩] [12, 13, 14, 15, 16, 17, 18, 19])
 (.seq (.draw [] [⟨some 20, .mv (.t 0), none⟩, ⟨some 21, .nilc (.t 20), none⟩, ⟨some 22, .fad false 0 1 (.t 21), none⟩, ⟨some 23, .ld false 1 (.t 22), none⟩, ⟨some 24, .mv (.t 0), none⟩, ⟨some 25, .nilc (.t 24), none⟩, ⟨some 26, .fad false 1 1 (.t 25), none⟩, ⟨some 27, .ld false 1 (.t 26), none⟩, ⟨some 28, .bin .sub (.t 27) (.c (.d (.int .i64 1))), none⟩, ⟨some 29, .iad 1 (.t 23) (.t 28), none⟩, ⟨some 30, .ld false 1 (.t 29), none⟩, ⟨some 2, .mv (.t 30), none⟩] [[], [], [], [], [0, 1, 2, 3], [0, 1, 2, 3], [0, 1, 2, 3], [0, 1, 2, 3], [0, 1, 2, 3], [], [], []] [0, 20, 21, 22, 23, 24, 25, 26, 27, 28, 29, 30])
 (.ret [2])))))
def r_base_Src_Raw : List ARes := [.t 2]
def fn_base_Src_Raw : AFn := .code c_base_Src_Raw r_base_Src_Raw 31 true
/- (*shardqueue/shardqueuebase.Src).Command -/
def l_base_Src_Command_0 : ACode :=
 (.seq (.seq (.ops [] [⟨some 44, .mv (.t 6), none⟩, ⟨some 45, .bin .gtr (.t 44) (.c (.d (.int .i64 0))), none⟩] [44])
 (.cond (.t 45) .skip (.exit 2 [2, 4])))
 (.seq (.block 3 (.draw [] [⟨some 48, .fad true 3 8 (.t 4), none⟩, ⟨some 49, .fad false 6 1 (.t 48), none⟩, ⟨some 50, .ld false 1 (.t 49), none⟩, ⟨some 51, .mv (.t 0), none⟩, ⟨some 52, .call N_base_Src_Body [true] [.t 51], none⟩, ⟨some 53, .bsl 1 1 (.d (.str [])) [(0, .t 52)], none⟩, ⟨some 54, .app 1 (.t 50) (.t 53), none⟩, ⟨some 55, .fad true 3 8 (.t 4), none⟩, ⟨some 56, .fad false 6 1 (.t 55), none⟩, ⟨none, .st 1 (.t 56) (.t 54), none⟩] [[], [], [], [0, 1, 2], [0, 1, 2], [0, 1, 2], [], [], [], []] [45, 48, 49, 50, 51, 52, 53, 54, 55, 56]))
 (.ops [4000054] [⟨some 46, .mv (.t 6), none⟩, ⟨some 47, .bin .sub (.t 46) (.c (.d (.int .i64 1))), none⟩, ⟨some 6, .mv (.t 47), none⟩] [46, 47])))
def l_base_Src_Command_1 : ACode :=
 (.seq (.seq (.ops [] [⟨some 86, .mv (.t 7), none⟩, ⟨some 87, .bin .gtr (.t 86) (.c (.d (.int .i64 0))), none⟩] [86])
 (.cond (.t 87) .skip (.exit 4 [2, 4])))
 (.seq (.block 5 (.draw [] [⟨some 90, .fad false 11 1 (.t 4), none⟩, ⟨some 91, .ld false 1 (.t 90), none⟩, ⟨some 92, .mv (.t 0), none⟩, ⟨some 93, .call N_base_Src_N [true, false] [.t 92, .c (.d (.int .i64 6))], none⟩, ⟨some 94, .mv (.t 0), none⟩, ⟨some 95, .bsl 9 1 (.d (.int .i64 0)) [(0, .c (.d (.int .i64 0))), (1, .c (.d (.int .i64 0))), (2, .c (.d (.int .i64 0))), (3, .c (.d (.int .i64 0))), (4, .c (.d (.int .i64 2))), (5, .c (.d (.int .i64 3))), (6, .c (.d (.int .i64 4))), (7, .c (.d (.int .i64 5))), (8, .c (.d (.int .i64 7)))], none⟩, ⟨some 96, .call N_base_Src_Pick [true, false] [.t 94, .t 95], none⟩, ⟨some 97, .mv (.t 0), none⟩, ⟨some 98, .call N_base_Src_N [true, false] [.t 97, .c (.d (.int .i64 256))], none⟩, ⟨some 99, .cvi .u8 (.t 98), none⟩, ⟨some 100, .bsl 1 1 (.d (.int .u8 0)) [(0, .t 99)], none⟩, ⟨some 101, .build [.d (.int .i64 0), .d (.int .i64 0), .xsl []] [(0, (1, .t 93)), (1, (1, .t 96)), (2, (1, .t 100))], none⟩, ⟨some 102, .bsl 1 3 (.agg [.d (.int .i64 0), .d (.int .i64 0), .xsl []]) [(0, .t 101)], none⟩, ⟨some 103, .app 3 (.t 91) (.t 102), none⟩, ⟨some 104, .fad false 11 1 (.t 4), none⟩, ⟨none, .st 1 (.t 104) (.t 103), none⟩] [[], [], [0, 1], [0, 1], [0, 1, 2, 3], [0, 1, 2, 3, 4], [0, 1], [0, 1, 2, 3, 4, 5, 6], [0, 1], [0, 1], [0, 1], [0, 1], [0, 1], [], [], []] [87, 90, 91, 92, 93, 94, 95, 96, 97, 98, 99, 100, 101, 102, 103, 104]))
 (.ops [4000103] [⟨some 88, .mv (.t 7), none⟩, ⟨some 89, .bin .sub (.t 88) (.c (.d (.int .i64 1))), none⟩, ⟨some 7, .mv (.t 89), none⟩] [88, 89])))
def c_base_Src_Command : ACode :=
 (.seq (.ops [] [⟨some 2, .alloc (.agg [.d (.int .i64 0), .d (.int .i64 0), .d (.int .i64 0), .d (.int .i64 0), .d (.int .i64 0), .d (.int .i64 0), .d (.int .i64 0), .d (.int .i64 0), .d (.int .i64 0), .xsl [], .xsl [], .xsl []]), none⟩] [])
 (.seq (.ops [] [⟨some 8, .mv (.t 0), none⟩, ⟨some 9, .call N_base_Src_N [true, false] [.t 8, .c (.d (.int .i64 20))], none⟩, ⟨some 3, .mv (.t 9), none⟩] [8, 9])
 (.seq (.block 0 (.seq (.ops [] [⟨some 11, .mv (.t 3), none⟩, ⟨some 12, .bin .lss (.t 11) (.c (.d (.int .i64 9))), none⟩, ⟨some 10, .mv (.t 12), none⟩] [11, 12])
 (.cond (.t 10) (.seq (.ops [] [⟨some 13, .mv (.t 0), none⟩, ⟨some 14, .call N_base_Src_N [true, false] [.t 13, .c (.d (.int .i64 8))], none⟩, ⟨some 15, .mv (.t 0), none⟩, ⟨some 16, .bsl 8 1 (.d (.int .i64 0)) [(0, .c (.d (.int .i64 1))), (1, .c (.d (.int .i64 1))), (2, .c (.d (.int .i64 2))), (3, .c (.d (.int .i64 3))), (4, .c (.d (.int .i64 5))), (5, .c (.d (.int .i64 8))), (6, .c (.d (.int .i64 14))), (7, .c (.d (.int .i64 30)))], none⟩, ⟨some 17, .call N_base_Src_Pick [true, false] [.t 15, .t 16], none⟩, ⟨some 18, .build [.d (.int .i64 0), .d (.int .i64 0), .d (.int .i64 0), .d (.int .i64 0), .d (.int .i64 0), .d (.int .i64 0), .d (.int .i64 0), .d (.int .i64 0), .d (.int .i64 0), .xsl [], .xsl [], .xsl []] [(0, (1, .c (.d (.int .i64 1)))), (1, (1, .t 14)), (2, (1, .t 17))], none⟩, ⟨none, .st 12 (.t 2) (.t 18), none⟩] [0, 3, 10, 13, 14, 15, 16, 17, 18])
 (.ret [2])) (.seq (.ops [] [⟨some 20, .mv (.t 3), none⟩, ⟨some 21, .bin .lss (.t 20) (.c (.d (.int .i64 10))), none⟩, ⟨some 19, .mv (.t 21), none⟩] [10, 20, 21])
 (.cond (.t 19) (.seq (.ops [] [⟨some 22, .mv (.t 0), none⟩, ⟨some 23, .bsl 5 1 (.d (.int .i64 0)) [(0, .c (.d (.int .i64 0))), (1, .c (.d (.int .i64 1))), (2, .c (.d (.int .i64 3))), (3, .c (.d (.int .i64 10))), (4, .c (.d (.int .i64 40)))], none⟩, ⟨some 24, .call N_base_Src_Pick [true, false] [.t 22, .t 23], none⟩, ⟨some 25, .build [.d (.int .i64 0), .d (.int .i64 0), .d (.int .i64 0), .d (.int .i64 0), .d (.int .i64 0), .d (.int .i64 0), .d (.int .i64 0), .d (.int .i64 0), .d (.int .i64 0), .xsl [], .xsl [], .xsl []] [(0, (1, .c (.d (.int .i64 2)))), (2, (1, .t 24))], none⟩, ⟨none, .st 12 (.t 2) (.t 25), none⟩] [0, 3, 19, 22, 23, 24, 25])
 (.ret [2])) .skip)))))
 (.seq (.ops [] [⟨some 26, .build [.d (.int .i64 0), .d (.int .i64 0), .d (.int .i64 0), .d (.int .i64 0), .d (.int .i64 0), .d (.int .i64 0), .d (.int .i64 0), .d (.int .i64 0), .d (.int .i64 0), .xsl [], .xsl [], .xsl []] [(0, (1, .c (.d (.int .i64 3))))], none⟩, ⟨some 4, .alloc (.agg [.d (.int .i64 0), .d (.int .i64 0), .d (.int .i64 0), .d (.int .i64 0), .d (.int .i64 0), .d (.int .i64 0), .d (.int .i64 0), .d (.int .i64 0), .d (.int .i64 0), .xsl [], .xsl [], .xsl []]), none⟩, ⟨none, .st 12 (.t 4) (.t 26), none⟩] [19, 26])
 (.seq (.ops [] [⟨some 27, .mv (.t 0), none⟩, ⟨some 28, .call N_base_Src_N [true, false] [.t 27, .c (.d (.int .i64 4))], none⟩, ⟨some 5, .mv (.t 28), none⟩] [27, 28])
 (.seq (.seq (.ops [] [⟨some 29, .mv (.t 3), none⟩] [3])
 (.block 1 (.seq (.seq (.ops [] [⟨some 37, .bin .eql (.t 29) (.c (.d (.int .i64 10))), none⟩, ⟨some 36, .mv (.t 37), none⟩] [37])
 (.cond (.t 36) .skip (.seq (.ops [] [⟨some 38, .bin .eql (.t 29) (.c (.d (.int .i64 11))), none⟩, ⟨some 36, .mv (.t 38), none⟩] [38])
 (.cond (.t 36) .skip (.ops [] [⟨some 39, .bin .eql (.t 29) (.c (.d (.int .i64 12))), none⟩, ⟨some 36, .mv (.t 39), none⟩] [39])))))
 (.cond (.t 36) (.seq (.ops [] [⟨some 40, .fad true 3 8 (.t 4), none⟩, ⟨some 41, .fad false 0 1 (.t 40), none⟩, ⟨none, .st 1 (.t 41) (.c (.d (.int .i64 1))), none⟩] [5, 29, 36, 40, 41])
 (.seq (.ops [] [⟨some 42, .mv (.t 0), none⟩, ⟨some 43, .call N_base_Src_Range [true, false, false] [.t 42, .c (.d (.int .i64 1)), .c (.d (.int .i64 2))], none⟩, ⟨some 6, .mv (.t 43), none⟩] [42, 43])
 (.block 2 (.loop [] l_base_Src_Command_0)))) (.seq (.seq (.ops [] [⟨some 58, .bin .eql (.t 29) (.c (.d (.int .i64 13))), none⟩, ⟨some 57, .mv (.t 58), none⟩] [36, 58])
 (.cond (.t 57) .skip (.ops [] [⟨some 59, .bin .eql (.t 29) (.c (.d (.int .i64 14))), none⟩, ⟨some 57, .mv (.t 59), none⟩] [59])))
 (.cond (.t 57) (.ops [] [⟨some 60, .mv (.t 5), none⟩, ⟨some 61, .mv (.t 0), none⟩, ⟨some 62, .call N_base_Src_Range [true, false, false] [.t 61, .c (.d (.int .i64 1)), .c (.d (.int .i64 3))], none⟩, ⟨some 63, .mv (.t 0), none⟩, ⟨some 64, .bsl 5 1 (.d (.int .i64 0)) [(0, .c (.d (.int .i64 0))), (1, .c (.d (.int .i64 1))), (2, .c (.d (.int .i64 5))), (3, .c (.d (.int .i64 20))), (4, .c (.d (.int .i64 100)))], none⟩, ⟨some 65, .call N_base_Src_Pick [true, false] [.t 63, .t 64], none⟩, ⟨some 66, .build [.d (.int .i64 0), .d (.int .i64 0), .d (.int .i64 0), .d (.int .i64 0), .d (.int .i64 0), .d (.int .i64 0), .xsl [], .xsl []] [(0, (1, .c (.d (.int .i64 2)))), (1, (1, .t 60)), (2, (1, .t 62)), (3, (1, .t 65))], none⟩, ⟨some 67, .fad true 3 8 (.t 4), none⟩, ⟨none, .st 8 (.t 67) (.t 66), none⟩] [0, 5, 29, 57, 60, 61, 62, 63, 64, 65, 66, 67]) (.seq (.seq (.ops [] [⟨some 69, .bin .eql (.t 29) (.c (.d (.int .i64 15))), none⟩, ⟨some 68, .mv (.t 69), none⟩] [57, 69])
 (.cond (.t 68) .skip (.ops [] [⟨some 70, .bin .eql (.t 29) (.c (.d (.int .i64 16))), none⟩, ⟨some 68, .mv (.t 70), none⟩] [70])))
 (.cond (.t 68) (.seq (.ops [] [⟨some 71, .mv (.t 0), none⟩, ⟨some 72, .call N_base_Src_Range [true, false, false] [.t 71, .c (.d (.int .i64 3)), .c (.d (.int .i64 5))], none⟩, ⟨some 73, .fad true 3 8 (.t 4), none⟩, ⟨some 74, .fad false 0 1 (.t 73), none⟩, ⟨none, .st 1 (.t 74) (.t 72), none⟩] [5, 29, 68, 71, 72, 73, 74])
 (.seq (.seq (.ops [] [⟨some 75, .fad true 3 8 (.t 4), none⟩, ⟨some 76, .fad false 0 1 (.t 75), none⟩, ⟨some 77, .ld false 1 (.t 76), none⟩, ⟨some 78, .bin .eql (.t 77) (.c (.d (.int .i64 5))), none⟩] [75, 76, 77])
 (.cond (.t 78) (.ops [] [⟨some 79, .mv (.t 0), none⟩, ⟨some 80, .bsl 4 1 (.d (.int .i64 0)) [(0, .c (.d (.int .i64 0))), (1, .c (.d (.int .i64 1))), (2, .c (.d (.int .i64 10))), (3, .c (.d (.int .i64 50)))], none⟩, ⟨some 81, .call N_base_Src_Pick [true, false] [.t 79, .t 80], none⟩, ⟨some 82, .fad true 3 8 (.t 4), none⟩, ⟨some 83, .fad false 3 1 (.t 82), none⟩, ⟨none, .st 1 (.t 83) (.t 81), none⟩] [78, 79, 80, 81, 82, 83]) .skip))
 (.seq (.ops [] [⟨some 84, .mv (.t 0), none⟩, ⟨some 85, .call N_base_Src_Range [true, false, false] [.t 84, .c (.d (.int .i64 1)), .c (.d (.int .i64 2))], none⟩, ⟨some 7, .mv (.t 85), none⟩] [78, 84, 85])
 (.block 4 (.loop [] l_base_Src_Command_1))))) (.seq (.ops [] [⟨some 106, .bin .eql (.t 29) (.c (.d (.int .i64 17))), none⟩, ⟨some 105, .mv (.t 106), none⟩] [68, 106])
 (.cond (.t 105) (.ops [] [⟨some 107, .mv (.t 0), none⟩, ⟨some 108, .bsl 4 1 (.d (.int .i64 0)) [(0, .c (.d (.int .i64 7))), (1, .c (.d (.int .i64 7))), (2, .c (.d (.int .i64 6))), (3, .c (.d (.int .i64 8)))], none⟩, ⟨some 109, .call N_base_Src_Pick [true, false] [.t 107, .t 108], none⟩, ⟨some 110, .mv (.t 5), none⟩, ⟨some 111, .mv (.t 0), none⟩, ⟨some 112, .call N_base_Src_Range [true, false, false] [.t 111, .c (.d (.int .i64 1)), .c (.d (.int .i64 3))], none⟩, ⟨some 113, .build [.d (.int .i64 0), .d (.int .i64 0), .d (.int .i64 0), .d (.int .i64 0), .d (.int .i64 0), .d (.int .i64 0), .xsl [], .xsl []] [(0, (1, .t 109)), (1, (1, .t 110)), (2, (1, .t 112))], none⟩, ⟨some 114, .fad true 3 8 (.t 4), none⟩, ⟨none, .st 8 (.t 114) (.t 113), none⟩] [0, 5, 29, 105, 107, 108, 109, 110, 111, 112, 113, 114]) (.seq (.ops [] [⟨some 116, .bin .eql (.t 29) (.c (.d (.int .i64 18))), none⟩, ⟨some 115, .mv (.t 116), none⟩] [29, 105, 116])
 (.cond (.t 115) (.ops [] [⟨some 117, .mv (.t 0), none⟩, ⟨some 118, .call N_base_Src_Range [true, false, false] [.t 117, .c (.d (.int .i64 9)), .c (.d (.int .i64 11))], none⟩, ⟨some 119, .mv (.t 5), none⟩, ⟨some 120, .mv (.t 0), none⟩, ⟨some 121, .call N_base_Src_N [true, false] [.t 120, .c (.d (.int .i64 4))], none⟩, ⟨some 122, .build [.d (.int .i64 0), .d (.int .i64 0), .d (.int .i64 0), .d (.int .i64 0), .d (.int .i64 0), .d (.int .i64 0), .xsl [], .xsl []] [(0, (1, .t 118)), (4, (1, .t 119)), (5, (1, .t 121))], none⟩, ⟨some 123, .fad true 3 8 (.t 4), none⟩, ⟨none, .st 8 (.t 123) (.t 122), none⟩] [0, 5, 115, 117, 118, 119, 120, 121, 122, 123]) (.ops [] [⟨some 30, .mv (.t 0), none⟩, ⟨some 31, .call N_base_Src_Range [true, false, false] [.t 30, .c (.d (.int .i64 12)), .c (.d (.int .i64 14))], none⟩, ⟨some 32, .mv (.t 0), none⟩, ⟨some 33, .call N_base_Src_N [true, false] [.t 32, .c (.d (.int .i64 5))], none⟩, ⟨some 34, .build [.d (.int .i64 0), .d (.int .i64 0), .d (.int .i64 0), .d (.int .i64 0), .d (.int .i64 0), .d (.int .i64 0), .xsl [], .xsl []] [(0, (1, .t 31)), (4, (1, .t 33))], none⟩, ⟨some 35, .fad true 3 8 (.t 4), none⟩, ⟨none, .st 8 (.t 35) (.t 34), none⟩] [0, 5, 30, 31, 32, 33, 34, 35, 115])))))))))))))
 (.seq (.ops [] [⟨some 124, .ld true 12 (.t 4), none⟩, ⟨some 125, .call N_base_fitted [] [.t 124], none⟩, ⟨none, .st 12 (.t 2) (.t 125), none⟩] [0, 4, 6, 7, 45, 87, 124, 125])
 (.ret [2]))))))))
def r_base_Src_Command : List ARes := [.c 2 true 12]
def fn_base_Src_Command : AFn := .code c_base_Src_Command r_base_Src_Command 126 true
/- (*shardqueue/shardqueuebase.Src).Pick -/
def c_base_Src_Pick : ACode :=
 (.seq (.ops [] [⟨some 4, .mv (.c (.d (.int .i64 0))), none⟩] [4])
 (.seq (.ops [] [⟨some 5, .mv (.t 1), none⟩, ⟨some 6, .mv (.t 0), none⟩, ⟨some 7, .mv (.t 1), none⟩, ⟨some 8, .len (.t 7), none⟩, ⟨some 9, .call N_base_Src_N [true, false] [.t 6, .t 8], none⟩, ⟨some 10, .iad 1 (.t 5) (.t 9), none⟩, ⟨some 11, .ld false 1 (.t 10), none⟩, ⟨some 4, .mv (.t 11), none⟩] [0, 1, 5, 6, 7, 8, 9, 10, 11])
 (.ret [4])))
def r_base_Src_Pick : List ARes := [.t 4]
def fn_base_Src_Pick : AFn := .code c_base_Src_Pick r_base_Src_Pick 12 true
/- (*shardqueue/shardqueuebase.Src).Body -/
def l_base_Src_Body_0 : ACode :=
 (.seq (.seq (.ops [] [⟨some 8, .mv (.t 4), none⟩, ⟨some 9, .mv (.t 3), none⟩, ⟨some 10, .len (.t 9), none⟩, ⟨some 11, .bin .lss (.t 8) (.t 10), none⟩] [8, 9, 10])
 (.cond (.t 11) .skip (.exit 0 [3])))
 (.seq (.block 1 (.ops [] [⟨some 14, .mv (.t 3), none⟩, ⟨some 15, .mv (.t 4), none⟩, ⟨some 16, .mv (.t 0), none⟩, ⟨some 17, .call N_base_Src_N [true, false] [.t 16, .c (.d (.int .i64 3))], none⟩, ⟨some 18, .bin .add (.c (.d (.int .i64 97))) (.t 17), none⟩, ⟨some 19, .cvi .u8 (.t 18), none⟩, ⟨some 20, .iad 1 (.t 14) (.t 15), none⟩, ⟨none, .st 1 (.t 20) (.t 19), none⟩] [11, 14, 15, 16, 17, 18, 19, 20]))
 (.ops [] [⟨some 12, .mv (.t 4), none⟩, ⟨some 13, .bin .add (.t 12) (.c (.d (.int .i64 1))), none⟩, ⟨some 4, .mv (.t 13), none⟩] [12, 13])))
def c_base_Src_Body : ACode :=
 (.seq (.ops [] [⟨some 2, .mv (.c (.d (.str []))), none⟩] [2])
 (.seq (.ops [] [⟨some 5, .mv (.t 0), none⟩, ⟨some 6, .call N_base_Src_N [true, false] [.t 5, .c (.d (.int .i64 4))], none⟩, ⟨some 7, .mks 1 (.d (.int .u8 0)) (.t 6) (.t 6), none⟩, ⟨some 3, .mv (.t 7), none⟩] [5, 6, 7])
 (.seq (.seq (.ops [] [⟨some 4, .mv (.c (.d (.int .i64 0))), none⟩] [])
 (.block 0 (.loop [] l_base_Src_Body_0)))
 (.seq (.ops [15] [⟨some 21, .mv (.t 3), none⟩, ⟨some 22, .b2s (.t 21), none⟩, ⟨some 2, .mv (.t 22), none⟩] [0, 3, 4, 11, 21, 22])
 (.ret [2])))))
def r_base_Src_Body : List ARes := [.t 2]
def fn_base_Src_Body : AFn := .code c_base_Src_Body r_base_Src_Body 23 true
/- shardqueue/shardqueuebase.fitted -/
def c_base_fitted : ACode :=
 (.seq (.ops [] [⟨some 1, .box (.t 0), none⟩, ⟨some 2, .alloc (.agg [.d (.int .i64 0), .d (.int .i64 0), .d (.int .i64 0), .d (.int .i64 0), .d (.int .i64 0), .d (.int .i64 0), .d (.int .i64 0), .d (.int .i64 0), .d (.int .i64 0), .xsl [], .xsl [], .xsl []]), none⟩] [0])
 (.seq (.seq (.ops [] [⟨some 4, .fad true 3 8 (.t 1), none⟩, ⟨some 5, .fad false 0 1 (.t 4), none⟩, ⟨some 6, .ld false 1 (.t 5), none⟩, ⟨some 3, .mv (.t 6), none⟩] [4, 5, 6])
 (.seq (.ops [] [⟨some 7, .mv (.t 3), none⟩, ⟨some 8, .bin .eql (.t 7) (.c (.d (.int .i64 7))), none⟩, ⟨some 9, .mv (.t 8), none⟩, ⟨some 10, .mv (.t 3), some (9, false)⟩, ⟨some 11, .bin .eql (.t 10) (.c (.d (.int .i64 6))), some (9, false)⟩, ⟨some 12, .pick (.t 9) (.c (.d (.bool true))) (.t 11), none⟩] [3, 7, 8, 9, 10, 11])
 (.cond (.t 12) (.ops [] [⟨some 13, .fad true 3 8 (.t 1), none⟩, ⟨some 14, .fad false 1 1 (.t 13), none⟩, ⟨none, .st 1 (.t 14) (.c (.d (.int .i64 0))), none⟩, ⟨some 15, .fad true 3 8 (.t 1), none⟩, ⟨some 16, .fad false 2 1 (.t 15), none⟩, ⟨none, .st 1 (.t 16) (.c (.d (.int .i64 0))), none⟩] [12, 13, 14, 15, 16]) .skip)))
 (.seq (.ops [] [⟨some 17, .ld true 12 (.t 1), none⟩, ⟨none, .st 12 (.t 2) (.t 17), none⟩] [1, 12, 17])
 (.ret [2]))))
def r_base_fitted : List ARes := [.c 2 true 12]
def fn_base_fitted : AFn := .code c_base_fitted r_base_fitted 18 true
/- shardqueue/batch.Start -/
def c_batch_Start : ACode :=
 (.seq (.ops [] [⟨some 5, .box (.t 1), none⟩, ⟨some 6, .box (.t 2), none⟩, ⟨some 8, .alloc (.agg [.d (.int .i64 0), .d (.int .i64 0), .d (.int .i64 0), .d (.int .i64 0), .d (.int .i64 0), .d (.int .i64 0), .d (.int .i64 0), .xsl [], .xsl [], .d (.int .i64 0), .d (.bool false), .d (.int .i64 0), .d (.int .i64 0), .d (.int .i64 0), .xsl [], .d (.int .i64 0), .d (.int .i64 0), .d (.int .i64 0), .d (.int .i64 0), .d (.int .i64 0), .d (.int .i64 0), .d (.int .i64 0), .d (.int .i64 0), .d (.int .i64 0), .d (.int .i64 0), .xsl [], .d (.int .i64 0), .d (.int .i64 0), .d (.int .i64 0), .d (.int .i64 0), .d (.int .i64 0), .d (.int .i64 0), .d (.int .i64 0), .d (.int .i64 0), .xsl [], .d (.int .i64 0), .xsl [], .xsl [], .d (.int .i64 0), .xsl [], .xsl [], .xsl [], .d (.int .i64 0), .xsl [], .xsl [], .xsl [], .xsl [], .d (.int .i64 0), .xsl [], .d (.int .i64 0), .xsl [], .xsl [], .d (.int .i64 0), .d (.int .i64 0), .d (.int .i64 0), .d (.int .i64 0), .d (.int .i64 0), .d (.int .i64 0), .d (.int .i64 0), .d (.int .i64 0), .d (.int .i64 0), .xsl [], .xsl []]), none⟩, ⟨some 9, .mv (.c (.d (.int .i64 0))), none⟩] [1, 2, 9])
 (.seq (.seq (.ops [] [⟨some 13, .mv (.t 0), none⟩, ⟨some 14, .call N_batch_in [] [.t 13, .c (.d (.int .i64 1)), .c (.d (.int .i64 200))], none⟩, ⟨some 15, .un .not (.t 14), none⟩, ⟨some 16, .mv (.t 15), none⟩, ⟨some 17, .mv (.t 3), some (16, false)⟩, ⟨some 18, .bin .lss (.t 17) (.c (.d (.int .i64 0))), some (16, false)⟩, ⟨some 19, .pick (.t 16) (.c (.d (.bool true))) (.t 18), none⟩] [13, 14, 15, 16, 17, 18])
 (.cond (.t 19) (.seq (.ops [] [⟨some 20, .build [.d (.int .i64 0), .d (.int .i64 0), .d (.int .i64 0), .d (.int .i64 0), .d (.int .i64 0), .d (.int .i64 0), .d (.int .i64 0), .xsl [], .xsl [], .d (.int .i64 0), .d (.bool false), .d (.int .i64 0), .d (.int .i64 0), .d (.int .i64 0), .xsl [], .d (.int .i64 0), .d (.int .i64 0), .d (.int .i64 0), .d (.int .i64 0), .d (.int .i64 0), .d (.int .i64 0), .d (.int .i64 0), .d (.int .i64 0), .d (.int .i64 0), .d (.int .i64 0), .xsl [], .d (.int .i64 0), .d (.int .i64 0), .d (.int .i64 0), .d (.int .i64 0), .d (.int .i64 0), .d (.int .i64 0), .d (.int .i64 0), .d (.int .i64 0), .xsl [], .d (.int .i64 0), .xsl [], .xsl [], .d (.int .i64 0), .xsl [], .xsl [], .xsl [], .d (.int .i64 0), .xsl [], .xsl [], .xsl [], .xsl [], .d (.int .i64 0), .xsl [], .d (.int .i64 0), .xsl [], .xsl [], .d (.int .i64 0), .d (.int .i64 0), .d (.int .i64 0), .d (.int .i64 0), .d (.int .i64 0), .d (.int .i64 0), .d (.int .i64 0), .d (.int .i64 0), .d (.int .i64 0), .xsl [], .xsl []] [], none⟩, ⟨none, .st 63 (.t 8) (.t 20), none⟩, ⟨some 9, .mv (.c (.d (.int .i64 1))), none⟩] [0, 3, 5, 6, 19, 20])
 (.ret [8, 9])) .skip))
 (.seq (.seq (.ops [] [⟨some 22, .ld true 8 (.t 6), none⟩, ⟨some 23, .call N_arena_New [] [.t 22], none⟩, ⟨some 21, .mv (.t 23), none⟩, ⟨some 24, .ext (.t 21) 0, none⟩, ⟨some 25, .ext (.t 21) 1, none⟩, ⟨some 10, .alloc (.agg [.xsl [], .xsl [], .d (.int .i64 0), .d (.int .i64 0), .xsl [], .d (.int .i64 0), .xsl [], .xsl [], .d (.int .i64 0), .d (.int .i64 0), .d (.int .i64 0)]), none⟩, ⟨none, .st 11 (.t 10) (.t 24), none⟩, ⟨some 11, .mv (.t 25), none⟩] [10, 19, 21, 22, 23, 24, 25])
 (.seq (.ops [] [⟨some 26, .mv (.t 11), none⟩, ⟨some 27, .bin .neq (.t 26) (.c (.d (.int .i64 0))), none⟩] [26])
 (.cond (.t 27) (.seq (.ops [] [⟨some 28, .build [.d (.int .i64 0), .d (.int .i64 0), .d (.int .i64 0), .d (.int .i64 0), .d (.int .i64 0), .d (.int .i64 0), .d (.int .i64 0), .xsl [], .xsl [], .d (.int .i64 0), .d (.bool false), .d (.int .i64 0), .d (.int .i64 0), .d (.int .i64 0), .xsl [], .d (.int .i64 0), .d (.int .i64 0), .d (.int .i64 0), .d (.int .i64 0), .d (.int .i64 0), .d (.int .i64 0), .d (.int .i64 0), .d (.int .i64 0), .d (.int .i64 0), .d (.int .i64 0), .xsl [], .d (.int .i64 0), .d (.int .i64 0), .d (.int .i64 0), .d (.int .i64 0), .d (.int .i64 0), .d (.int .i64 0), .d (.int .i64 0), .d (.int .i64 0), .xsl [], .d (.int .i64 0), .xsl [], .xsl [], .d (.int .i64 0), .xsl [], .xsl [], .xsl [], .d (.int .i64 0), .xsl [], .xsl [], .xsl [], .xsl [], .d (.int .i64 0), .xsl [], .d (.int .i64 0), .xsl [], .xsl [], .d (.int .i64 0), .d (.int .i64 0), .d (.int .i64 0), .d (.int .i64 0), .d (.int .i64 0), .d (.int .i64 0), .d (.int .i64 0), .d (.int .i64 0), .d (.int .i64 0), .xsl [], .xsl []] [], none⟩, ⟨some 29, .mv (.t 11), none⟩, ⟨none, .st 63 (.t 8) (.t 28), none⟩, ⟨some 9, .mv (.t 29), none⟩] [0, 3, 5, 6, 11, 27, 28, 29])
 (.ret [8, 9])) .skip)))
 (.seq (.seq (.ops [] [⟨some 30, .ld true 8 (.t 5), none⟩, ⟨some 31, .ld true 8 (.t 6), none⟩, ⟨some 32, .call N_batch_Validate [] [.t 30, .t 31], none⟩, ⟨some 12, .mv (.t 32), none⟩] [11, 27, 30, 31, 32])
 (.seq (.ops [] [⟨some 33, .mv (.t 12), none⟩, ⟨some 34, .bin .neq (.t 33) (.c (.d (.int .i64 0))), none⟩] [33])
 (.cond (.t 34) (.seq (.ops [] [⟨some 35, .build [.d (.int .i64 0), .d (.int .i64 0), .d (.int .i64 0), .d (.int .i64 0), .d (.int .i64 0), .d (.int .i64 0), .d (.int .i64 0), .xsl [], .xsl [], .d (.int .i64 0), .d (.bool false), .d (.int .i64 0), .d (.int .i64 0), .d (.int .i64 0), .xsl [], .d (.int .i64 0), .d (.int .i64 0), .d (.int .i64 0), .d (.int .i64 0), .d (.int .i64 0), .d (.int .i64 0), .d (.int .i64 0), .d (.int .i64 0), .d (.int .i64 0), .d (.int .i64 0), .xsl [], .d (.int .i64 0), .d (.int .i64 0), .d (.int .i64 0), .d (.int .i64 0), .d (.int .i64 0), .d (.int .i64 0), .d (.int .i64 0), .d (.int .i64 0), .xsl [], .d (.int .i64 0), .xsl [], .xsl [], .d (.int .i64 0), .xsl [], .xsl [], .xsl [], .d (.int .i64 0), .xsl [], .xsl [], .xsl [], .xsl [], .d (.int .i64 0), .xsl [], .d (.int .i64 0), .xsl [], .xsl [], .d (.int .i64 0), .d (.int .i64 0), .d (.int .i64 0), .d (.int .i64 0), .d (.int .i64 0), .d (.int .i64 0), .d (.int .i64 0), .d (.int .i64 0), .d (.int .i64 0), .xsl [], .xsl []] [], none⟩, ⟨some 36, .mv (.t 12), none⟩, ⟨none, .st 63 (.t 8) (.t 35), none⟩, ⟨some 9, .mv (.t 36), none⟩] [0, 3, 5, 6, 12, 34, 35, 36])
 (.ret [8, 9])) .skip)))
 (.seq (.ops [] [⟨some 37, .mv (.t 0), none⟩, ⟨some 38, .ld true 8 (.t 5), none⟩, ⟨some 39, .ld true 8 (.t 6), none⟩, ⟨some 40, .mv (.t 3), none⟩, ⟨some 41, .build [.d (.int .i64 0), .d (.int .i64 0), .d (.int .i64 0), .d (.int .i64 0), .d (.int .i64 0), .d (.int .i64 0), .d (.int .i64 0), .xsl [], .xsl [], .d (.int .i64 0), .d (.bool false), .d (.int .i64 0), .d (.int .i64 0), .d (.int .i64 0), .xsl [], .d (.int .i64 0), .d (.int .i64 0), .d (.int .i64 0), .d (.int .i64 0), .d (.int .i64 0), .d (.int .i64 0), .d (.int .i64 0), .d (.int .i64 0), .d (.int .i64 0), .d (.int .i64 0), .xsl [], .d (.int .i64 0), .d (.int .i64 0), .d (.int .i64 0), .d (.int .i64 0), .d (.int .i64 0), .d (.int .i64 0), .d (.int .i64 0), .d (.int .i64 0), .xsl [], .d (.int .i64 0), .xsl [], .xsl [], .d (.int .i64 0), .xsl [], .xsl [], .xsl [], .d (.int .i64 0), .xsl [], .xsl [], .xsl [], .xsl [], .d (.int .i64 0), .xsl [], .d (.int .i64 0), .xsl [], .xsl [], .d (.int .i64 0), .d (.int .i64 0), .d (.int .i64 0), .d (.int .i64 0), .d (.int .i64 0), .d (.int .i64 0), .d (.int .i64 0), .d (.int .i64 0), .d (.int .i64 0), .xsl [], .xsl []] [(0, (1, .t 37)), (1, (8, .t 38)), (15, (8, .t 39)), (9, (1, .t 40))], none⟩, ⟨none, .st 63 (.t 8) (.t 41), none⟩, ⟨some 9, .mv (.c (.d (.int .i64 0))), none⟩] [0, 3, 5, 6, 12, 34, 37, 38, 39, 40, 41])
 (.ret [8, 9]))))))
def r_batch_Start : List ARes := [.c 8 true 63, .t 9]
def fn_batch_Start : AFn := .code c_batch_Start r_batch_Start 42 true
/- shardqueue/batch.in -/
def c_batch_in : ACode :=
 (.seq (.ops [] [⟨some 6, .mv (.c (.d (.bool false))), none⟩] [6])
 (.seq (.ops [] [⟨some 7, .mv (.t 1), none⟩, ⟨some 8, .mv (.t 0), none⟩, ⟨some 9, .bin .leq (.t 7) (.t 8), none⟩, ⟨some 10, .mv (.t 9), none⟩, ⟨some 11, .mv (.t 0), some (10, true)⟩, ⟨some 12, .mv (.t 2), some (10, true)⟩, ⟨some 13, .bin .leq (.t 11) (.t 12), some (10, true)⟩, ⟨some 14, .pick (.t 10) (.t 13) (.c (.d (.bool false))), none⟩, ⟨some 6, .mv (.t 14), none⟩] [0, 1, 2, 7, 8, 9, 10, 11, 12, 13, 14])
 (.ret [6])))
def r_batch_in : List ARes := [.t 6]
def fn_batch_in : AFn := .code c_batch_in r_batch_in 15 true
/- shardqueue/arena.New -/
def l_arena_New_0 : ACode :=
 (.seq (.ops [] [⟨some 86, .bin .lss (.t 85) (.t 84), none⟩] [])
 (.seq (.cond (.t 86) .skip (.exit 0 [2, 4]))
 (.seq (.block 1 (.seq (.ops [] [⟨some 87, .mv (.t 85), none⟩, ⟨some 5, .mv (.t 87), none⟩] [86, 87])
 (.seq (.ops [] [⟨some 89, .fad false 2 1 (.t 1), none⟩, ⟨some 90, .ld false 1 (.t 89), none⟩, ⟨some 91, .call N_shard_Free [] [.t 90], none⟩, ⟨some 88, .mv (.t 91), none⟩, ⟨some 92, .ext (.t 88) 0, none⟩, ⟨some 93, .ext (.t 88) 1, none⟩, ⟨some 6, .alloc (.agg [.d (.bool false), .d (.int .i64 0), .d (.int .i64 0), .xsl [], .d (.int .i64 0), .d (.int .i64 0), .xsl [], .xsl []]), none⟩, ⟨none, .st 8 (.t 6) (.t 92), none⟩, ⟨some 7, .mv (.t 93), none⟩] [7, 88, 89, 90, 91, 92, 93])
 (.seq (.seq (.ops [] [⟨some 95, .fad true 5 3 (.t 4), none⟩, ⟨some 96, .ld true 3 (.t 95), none⟩, ⟨some 97, .mv (.t 5), none⟩, ⟨some 98, .call N_directory_Span [] [.t 96, .t 97], none⟩, ⟨some 94, .mv (.t 98), none⟩, ⟨some 99, .ext (.t 94) 0, none⟩, ⟨some 100, .ext (.t 94) 1, none⟩, ⟨some 8, .alloc (.d (.agg [.int .i64 0, .int .i64 0, .int .i64 0])), none⟩, ⟨none, .st 3 (.t 8) (.t 99), none⟩, ⟨some 9, .mv (.t 100), none⟩] [5, 94, 95, 96, 97, 98, 99, 100])
 (.seq (.ops [] [⟨some 101, .mv (.t 9), none⟩] [9])
 (.cond (.t 101) (.ops [] [⟨some 103, .fad false 2 1 (.t 1), none⟩, ⟨some 104, .ld false 1 (.t 103), none⟩, ⟨some 105, .fad false 0 1 (.t 8), none⟩, ⟨some 106, .ld false 1 (.t 105), none⟩, ⟨some 107, .fad false 1 1 (.t 8), none⟩, ⟨some 108, .ld false 1 (.t 107), none⟩, ⟨some 109, .call N_shard_New [] [.t 104, .t 106, .t 108], none⟩, ⟨some 102, .mv (.t 109), none⟩, ⟨some 110, .ext (.t 102) 0, none⟩, ⟨some 111, .ext (.t 102) 1, none⟩, ⟨none, .st 8 (.t 6) (.t 110), none⟩] [8, 101, 102, 103, 104, 105, 106, 107, 108, 109, 110, 111]) .skip)))
 (.seq (.ops [] [⟨some 112, .fad false 0 1 (.t 4), none⟩, ⟨some 113, .ld false 1 (.t 112), none⟩, ⟨some 114, .ld true 8 (.t 6), none⟩, ⟨some 115, .build [.d (.int .i64 0), .d (.bool false), .d (.int .i64 0), .d (.int .i64 0), .xsl [], .d (.int .i64 0), .d (.int .i64 0), .xsl [], .xsl []] [(1, (8, .t 114))], none⟩, ⟨some 116, .bsl 1 9 (.agg [.d (.int .i64 0), .d (.bool false), .d (.int .i64 0), .d (.int .i64 0), .xsl [], .d (.int .i64 0), .d (.int .i64 0), .xsl [], .xsl []]) [(0, .t 115)], none⟩, ⟨some 117, .app 9 (.t 113) (.t 116), none⟩, ⟨some 118, .fad false 0 1 (.t 4), none⟩, ⟨none, .st 1 (.t 118) (.t 117), none⟩] [6, 8, 101, 112, 113, 114, 115, 116, 117, 118])
 (.ops [] [⟨some 119, .fad false 1 1 (.t 4), none⟩, ⟨some 120, .ld false 1 (.t 119), none⟩, ⟨some 121, .fad false 7 1 (.t 1), none⟩, ⟨some 122, .ld false 1 (.t 121), none⟩, ⟨some 123, .build [.d (.int .i64 0), .d (.int .i64 0), .d (.int .i64 0), .d (.int .i64 0)] [(1, (1, .t 122))], none⟩, ⟨some 124, .bsl 1 4 (.d (.agg [.int .i64 0, .int .i64 0, .int .i64 0, .int .i64 0])) [(0, .t 123)], none⟩, ⟨some 125, .app 4 (.t 120) (.t 124), none⟩, ⟨some 126, .fad false 1 1 (.t 4), none⟩, ⟨none, .st 1 (.t 126) (.t 125), none⟩] [119, 120, 121, 122, 123, 124, 125, 126]))))))
 (.ops [] [⟨some 127, .bin .add (.t 85) (.c (.d (.int .i64 1))), none⟩, ⟨some 85, .mv (.t 127), none⟩] [127]))))
def c_arena_New : ACode :=
 (.seq (.ops [] [⟨some 1, .box (.t 0), none⟩, ⟨some 2, .alloc (.agg [.xsl [], .xsl [], .d (.int .i64 0), .d (.int .i64 0), .xsl [], .d (.int .i64 0), .xsl [], .xsl [], .d (.int .i64 0), .d (.int .i64 0), .d (.int .i64 0)]), none⟩, ⟨some 3, .mv (.c (.d (.int .i64 0))), none⟩] [0, 3])
 (.seq (.seq (.ops [] [⟨some 10, .fad false 0 1 (.t 1), none⟩, ⟨some 11, .ld false 1 (.t 10), none⟩, ⟨some 12, .call N_arena_in [] [.t 11, .c (.d (.int .i64 1)), .c (.d (.int .i64 6))], none⟩, ⟨some 13, .un .not (.t 12), none⟩, ⟨some 14, .mv (.t 13), none⟩, ⟨some 15, .fad false 1 1 (.t 1), some (14, false)⟩, ⟨some 16, .ld false 1 (.t 15), some (14, false)⟩, ⟨some 17, .fad false 0 1 (.t 1), some (14, false)⟩, ⟨some 18, .ld false 1 (.t 17), some (14, false)⟩, ⟨some 19, .call N_arena_in [] [.t 16, .c (.d (.int .i64 1)), .t 18], some (14, false)⟩, ⟨some 20, .un .not (.t 19), some (14, false)⟩, ⟨some 21, .pick (.t 14) (.c (.d (.bool true))) (.t 20), none⟩, ⟨some 22, .mv (.t 21), none⟩, ⟨some 23, .fad false 2 1 (.t 1), some (22, false)⟩, ⟨some 24, .ld false 1 (.t 23), some (22, false)⟩, ⟨some 25, .call N_arena_in [] [.t 24, .c (.d (.int .i64 1)), .c (.d (.int .i64 12))], some (22, false)⟩, ⟨some 26, .un .not (.t 25), some (22, false)⟩, ⟨some 27, .pick (.t 22) (.c (.d (.bool true))) (.t 26), none⟩, ⟨some 28, .mv (.t 27), none⟩, ⟨some 29, .fad false 3 1 (.t 1), some (28, false)⟩, ⟨some 30, .ld false 1 (.t 29), some (28, false)⟩, ⟨some 31, .call N_arena_in [] [.t 30, .c (.d (.int .i64 1)), .c (.d (.int .i64 24))], some (28, false)⟩, ⟨some 32, .un .not (.t 31), some (28, false)⟩, ⟨some 33, .pick (.t 28) (.c (.d (.bool true))) (.t 32), none⟩, ⟨some 34, .mv (.t 33), none⟩, ⟨some 35, .fad false 4 1 (.t 1), some (34, false)⟩, ⟨some 36, .ld false 1 (.t 35), some (34, false)⟩, ⟨some 37, .call N_arena_in [] [.t 36, .c (.d (.int .i64 1)), .c (.d (.int .i64 8))], some (34, false)⟩, ⟨some 38, .un .not (.t 37), some (34, false)⟩, ⟨some 39, .pick (.t 34) (.c (.d (.bool true))) (.t 38), none⟩, ⟨some 40, .mv (.t 39), none⟩, ⟨some 41, .fad false 5 1 (.t 1), some (40, false)⟩, ⟨some 42, .ld false 1 (.t 41), some (40, false)⟩, ⟨some 43, .call N_arena_in [] [.t 42, .c (.d (.int .i64 0)), .c (.d (.int .i64 1073741824))], some (40, false)⟩, ⟨some 44, .un .not (.t 43), some (40, false)⟩, ⟨some 45, .pick (.t 40) (.c (.d (.bool true))) (.t 44), none⟩, ⟨some 46, .mv (.t 45), none⟩, ⟨some 47, .fad false 6 1 (.t 1), some (46, false)⟩, ⟨some 48, .ld false 1 (.t 47), some (46, false)⟩, ⟨some 49, .call N_arena_in [] [.t 48, .c (.d (.int .i64 1)), .c (.d (.int .i64 1073741824))], some (46, false)⟩, ⟨some 50, .un .not (.t 49), some (46, false)⟩, ⟨some 51, .pick (.t 46) (.c (.d (.bool true))) (.t 50), none⟩, ⟨some 52, .mv (.t 51), none⟩, ⟨some 53, .fad false 7 1 (.t 1), some (52, false)⟩, ⟨some 54, .ld false 1 (.t 53), some (52, false)⟩, ⟨some 55, .call N_arena_in [] [.t 54, .c (.d (.int .i64 0)), .c (.d (.int .i64 65536))], some (52, false)⟩, ⟨some 56, .un .not (.t 55), some (52, false)⟩, ⟨some 57, .pick (.t 52) (.c (.d (.bool true))) (.t 56), none⟩] [10, 11, 12, 13, 14, 15, 16, 17, 18, 19, 20, 21, 22, 23, 24, 25, 26, 27, 28, 29, 30, 31, 32, 33, 34, 35, 36, 37, 38, 39, 40, 41, 42, 43, 44, 45, 46, 47, 48, 49, 50, 51, 52, 53, 54, 55, 56])
 (.cond (.t 57) (.seq (.ops [] [⟨some 58, .build [.xsl [], .xsl [], .d (.int .i64 0), .d (.int .i64 0), .xsl [], .d (.int .i64 0), .xsl [], .xsl [], .d (.int .i64 0), .d (.int .i64 0), .d (.int .i64 0)] [], none⟩, ⟨none, .st 11 (.t 2) (.t 58), none⟩, ⟨some 3, .mv (.c (.d (.int .i64 1))), none⟩] [1, 57, 58])
 (.ret [2, 3])) .skip))
 (.seq (.ops [] [⟨some 59, .fad false 7 1 (.t 1), none⟩, ⟨some 60, .ld false 1 (.t 59), none⟩, ⟨some 61, .fad false 5 1 (.t 1), none⟩, ⟨some 62, .ld false 1 (.t 61), none⟩, ⟨some 63, .fad false 6 1 (.t 1), none⟩, ⟨some 64, .ld false 1 (.t 63), none⟩, ⟨some 65, .build [.xsl [], .xsl [], .d (.int .i64 0), .d (.int .i64 0), .xsl [], .d (.int .i64 0), .xsl [], .xsl [], .d (.int .i64 0), .d (.int .i64 0), .d (.int .i64 0)] [(8, (1, .t 60)), (9, (1, .t 62)), (10, (1, .t 64))], none⟩, ⟨some 4, .alloc (.agg [.xsl [], .xsl [], .d (.int .i64 0), .d (.int .i64 0), .xsl [], .d (.int .i64 0), .xsl [], .xsl [], .d (.int .i64 0), .d (.int .i64 0), .d (.int .i64 0)]), none⟩, ⟨none, .st 11 (.t 4) (.t 65), none⟩] [57, 59, 60, 61, 62, 63, 64, 65])
 (.seq (.ops [] [⟨some 67, .fad false 0 1 (.t 1), none⟩, ⟨some 68, .ld false 1 (.t 67), none⟩, ⟨some 69, .fad false 1 1 (.t 1), none⟩, ⟨some 70, .ld false 1 (.t 69), none⟩, ⟨some 71, .call N_directory_New [] [.t 68, .t 70], none⟩, ⟨some 66, .mv (.t 71), none⟩, ⟨some 72, .ext (.t 66) 0, none⟩, ⟨some 73, .ext (.t 66) 1, none⟩, ⟨some 74, .fad true 5 3 (.t 4), none⟩, ⟨none, .st 3 (.t 74) (.t 72), none⟩] [66, 67, 68, 69, 70, 71, 72, 73, 74])
 (.seq (.ops [] [⟨some 76, .fad false 3 1 (.t 1), none⟩, ⟨some 77, .ld false 1 (.t 76), none⟩, ⟨some 78, .call N_dead_New [] [.t 77], none⟩, ⟨some 75, .mv (.t 78), none⟩, ⟨some 79, .ext (.t 75) 0, none⟩, ⟨some 80, .ext (.t 75) 1, none⟩, ⟨some 81, .fad true 2 3 (.t 4), none⟩, ⟨some 82, .fad true 1 2 (.t 81), none⟩, ⟨none, .st 2 (.t 82) (.t 79), none⟩] [75, 76, 77, 78, 79, 80, 81, 82])
 (.seq (.seq (.ops [] [⟨some 83, .fad false 0 1 (.t 1), none⟩, ⟨some 84, .ld false 1 (.t 83), none⟩, ⟨some 85, .mv (.c (.d (.int .i64 0))), none⟩] [83])
 (.block 0 (.loop [] l_arena_New_0)))
 (.seq (.ops [] [⟨some 128, .ld true 11 (.t 4), none⟩, ⟨none, .st 11 (.t 2) (.t 128), none⟩, ⟨some 3, .mv (.c (.d (.int .i64 0))), none⟩] [1, 4, 84, 85, 86, 128])
 (.ret [2, 3]))))))))
def r_arena_New : List ARes := [.c 2 true 11, .t 3]
def fn_arena_New : AFn := .code c_arena_New r_arena_New 129 true
/- shardqueue/arena.in -/
def c_arena_in : ACode :=
 (.seq (.ops [] [⟨some 6, .mv (.c (.d (.bool false))), none⟩] [6])
 (.seq (.ops [] [⟨some 7, .mv (.t 1), none⟩, ⟨some 8, .mv (.t 0), none⟩, ⟨some 9, .bin .leq (.t 7) (.t 8), none⟩, ⟨some 10, .mv (.t 9), none⟩, ⟨some 11, .mv (.t 0), some (10, true)⟩, ⟨some 12, .mv (.t 2), some (10, true)⟩, ⟨some 13, .bin .leq (.t 11) (.t 12), some (10, true)⟩, ⟨some 14, .pick (.t 10) (.t 13) (.c (.d (.bool false))), none⟩, ⟨some 6, .mv (.t 14), none⟩] [0, 1, 2, 7, 8, 9, 10, 11, 12, 13, 14])
 (.ret [6])))
def r_arena_in : List ARes := [.t 6]
def fn_arena_in : AFn := .code c_arena_in r_arena_in 15 true
/- shardqueue/directory.New -/
def l_directory_New_0 : ACode :=
 (.seq (.ops [] [⟨some 23, .bin .lss (.t 22) (.t 21), none⟩] [])
 (.seq (.cond (.t 23) .skip (.exit 0 [0, 4, 6]))
 (.seq (.block 1 (.seq (.ops [] [⟨some 24, .mv (.t 22), none⟩, ⟨some 7, .mv (.t 24), none⟩] [23, 24])
 (.draw [] [⟨some 25, .fad false 1 1 (.t 6), none⟩, ⟨some 26, .ld false 1 (.t 25), none⟩, ⟨some 27, .mv (.t 7), none⟩, ⟨some 28, .bin .mul (.t 27) (.c (.d (.int .i64 65536))), none⟩, ⟨some 29, .mv (.t 1), none⟩, ⟨some 30, .bin .quo (.t 28) (.t 29), none⟩, ⟨some 31, .mv (.t 7), none⟩, ⟨some 32, .bin .add (.t 31) (.c (.d (.int .i64 1))), none⟩, ⟨some 33, .bin .mul (.t 32) (.c (.d (.int .i64 65536))), none⟩, ⟨some 34, .mv (.t 1), none⟩, ⟨some 35, .bin .quo (.t 33) (.t 34), none⟩, ⟨some 36, .bin .sub (.t 35) (.c (.d (.int .i64 1))), none⟩, ⟨some 37, .mv (.t 7), none⟩, ⟨some 38, .build [.d (.int .i64 0), .d (.int .i64 0), .d (.int .i64 0)] [(0, (1, .t 30)), (1, (1, .t 36)), (2, (1, .t 37))], none⟩, ⟨some 39, .bsl 1 3 (.d (.agg [.int .i64 0, .int .i64 0, .int .i64 0])) [(0, .t 38)], none⟩, ⟨some 40, .app 3 (.t 26) (.t 39), none⟩, ⟨some 41, .fad false 1 1 (.t 6), none⟩, ⟨none, .st 1 (.t 41) (.t 40), none⟩] [[], [], [0, 1], [0, 1], [0, 1, 2, 3], [0, 1], [0, 1, 2, 3, 4, 5], [0, 1, 2, 3, 4, 5], [0, 1, 2, 3, 4, 5], [0, 1, 2, 3, 4, 5, 6, 7, 8], [0, 1, 2, 3, 4, 5], [0, 1, 2, 3, 4, 5], [0, 1, 2, 3, 4, 5, 6, 7, 8, 9, 10, 11], [0, 1], [0, 1], [], [], []] [7, 25, 26, 27, 28, 29, 30, 31, 32, 33, 34, 35, 36, 37, 38, 39, 40, 41])))
 (.ops [4000040] [⟨some 42, .bin .add (.t 22) (.c (.d (.int .i64 1))), none⟩, ⟨some 22, .mv (.t 42), none⟩] [42]))))
def l_directory_New_1 : ACode :=
 (.seq (.ops [] [⟨some 45, .bin .lss (.t 44) (.t 43), none⟩] [])
 (.seq (.cond (.t 45) .skip (.exit 2 [4, 6]))
 (.seq (.block 3 (.ops [] [⟨some 46, .fad false 2 1 (.t 6), none⟩, ⟨some 47, .ld false 1 (.t 46), none⟩, ⟨some 48, .bsl 1 1 (.d (.int .i64 0)) [(0, .c (.d (.int .i64 (-1))))], none⟩, ⟨some 49, .app 1 (.t 47) (.t 48), none⟩, ⟨some 50, .fad false 2 1 (.t 6), none⟩, ⟨none, .st 1 (.t 50) (.t 49), none⟩] [45, 46, 47, 48, 49, 50]))
 (.ops [] [⟨some 51, .bin .add (.t 44) (.c (.d (.int .i64 1))), none⟩, ⟨some 44, .mv (.t 51), none⟩] [51]))))
def c_directory_New : ACode :=
 (.seq (.ops [] [⟨some 4, .alloc (.agg [.d (.int .i64 0), .xsl [], .xsl []]), none⟩, ⟨some 5, .mv (.c (.d (.int .i64 0))), none⟩] [5])
 (.seq (.seq (.ops [] [⟨some 8, .mv (.t 1), none⟩, ⟨some 9, .bin .lss (.t 8) (.c (.d (.int .i64 1))), none⟩, ⟨some 10, .mv (.t 9), none⟩, ⟨some 11, .mv (.t 1), some (10, false)⟩, ⟨some 12, .mv (.t 0), some (10, false)⟩, ⟨some 13, .bin .gtr (.t 11) (.t 12), some (10, false)⟩, ⟨some 14, .pick (.t 10) (.c (.d (.bool true))) (.t 13), none⟩, ⟨some 15, .mv (.t 14), none⟩, ⟨some 16, .mv (.t 0), some (15, false)⟩, ⟨some 17, .bin .gtr (.t 16) (.c (.d (.int .i64 6))), some (15, false)⟩, ⟨some 18, .pick (.t 15) (.c (.d (.bool true))) (.t 17), none⟩] [8, 9, 10, 11, 12, 13, 14, 15, 16, 17])
 (.cond (.t 18) (.seq (.ops [] [⟨some 19, .build [.d (.int .i64 0), .xsl [], .xsl []] [], none⟩, ⟨none, .st 3 (.t 4) (.t 19), none⟩, ⟨some 5, .mv (.c (.d (.int .i64 1))), none⟩] [0, 1, 18, 19])
 (.ret [4, 5])) .skip))
 (.seq (.ops [] [⟨some 20, .build [.d (.int .i64 0), .xsl [], .xsl []] [(0, (1, .c (.d (.int .i64 1))))], none⟩, ⟨some 6, .alloc (.agg [.d (.int .i64 0), .xsl [], .xsl []]), none⟩, ⟨none, .st 3 (.t 6) (.t 20), none⟩] [18, 20])
 (.seq (.seq (.ops [] [⟨some 21, .mv (.t 1), none⟩, ⟨some 22, .mv (.c (.d (.int .i64 0))), none⟩] [])
 (.block 0 (.loop [] l_directory_New_0)))
 (.seq (.seq (.ops [] [⟨some 43, .mv (.t 0), none⟩, ⟨some 44, .mv (.c (.d (.int .i64 0))), none⟩] [0, 1, 21, 22, 23])
 (.block 2 (.loop [] l_directory_New_1)))
 (.seq (.ops [] [⟨some 52, .ld true 3 (.t 6), none⟩, ⟨none, .st 3 (.t 4) (.t 52), none⟩, ⟨some 5, .mv (.c (.d (.int .i64 0))), none⟩] [6, 43, 44, 45, 52])
 (.ret [4, 5])))))))
def r_directory_New : List ARes := [.c 4 true 3, .t 5]
def fn_directory_New : AFn := .code c_directory_New r_directory_New 53 true
/- shardqueue/dead.New -/
def c_dead_New : ACode :=
 (.seq (.ops [] [⟨some 2, .alloc (.agg [.d (.int .i64 0), .xsl []]), none⟩, ⟨some 3, .mv (.c (.d (.int .i64 0))), none⟩] [3])
 (.seq (.seq (.ops [] [⟨some 4, .mv (.t 0), none⟩, ⟨some 5, .bin .lss (.t 4) (.c (.d (.int .i64 1))), none⟩, ⟨some 6, .mv (.t 5), none⟩, ⟨some 7, .mv (.t 0), some (6, false)⟩, ⟨some 8, .bin .gtr (.t 7) (.c (.d (.int .i64 24))), some (6, false)⟩, ⟨some 9, .pick (.t 6) (.c (.d (.bool true))) (.t 8), none⟩] [4, 5, 6, 7, 8])
 (.cond (.t 9) (.seq (.ops [] [⟨some 10, .build [.d (.int .i64 0), .xsl []] [], none⟩, ⟨none, .st 2 (.t 2) (.t 10), none⟩, ⟨some 3, .mv (.c (.d (.int .i64 1))), none⟩] [0, 9, 10])
 (.ret [2, 3])) .skip))
 (.seq (.ops [] [⟨some 11, .mv (.t 0), none⟩, ⟨some 12, .build [.d (.int .i64 0), .xsl []] [(0, (1, .t 11))], none⟩, ⟨none, .st 2 (.t 2) (.t 12), none⟩, ⟨some 3, .mv (.c (.d (.int .i64 0))), none⟩] [0, 9, 11, 12])
 (.ret [2, 3]))))
def r_dead_New : List ARes := [.c 2 true 2, .t 3]
def fn_dead_New : AFn := .code c_dead_New r_dead_New 13 true
/- shardqueue/shard.Free -/
def c_shard_Free : ACode :=
 (.seq (.ops [] [⟨some 2, .alloc (.agg [.d (.bool false), .d (.int .i64 0), .d (.int .i64 0), .xsl [], .d (.int .i64 0), .d (.int .i64 0), .xsl [], .xsl []]), none⟩, ⟨some 3, .mv (.c (.d (.int .i64 0))), none⟩] [3])
 (.seq (.ops [] [⟨some 7, .mv (.t 0), none⟩, ⟨some 8, .call N_ring_New [] [.t 7], none⟩, ⟨some 6, .mv (.t 8), none⟩, ⟨some 9, .ext (.t 6) 0, none⟩, ⟨some 10, .ext (.t 6) 1, none⟩, ⟨some 4, .alloc (.agg [.xsl [], .d (.int .i64 0), .d (.int .i64 0)]), none⟩, ⟨none, .st 3 (.t 4) (.t 9), none⟩, ⟨some 5, .mv (.t 10), none⟩] [0, 6, 7, 8, 9, 10])
 (.seq (.seq (.ops [] [⟨some 11, .mv (.t 5), none⟩, ⟨some 12, .bin .neq (.t 11) (.c (.d (.int .i64 0))), none⟩] [11])
 (.cond (.t 12) (.seq (.ops [] [⟨some 13, .build [.d (.bool false), .d (.int .i64 0), .d (.int .i64 0), .xsl [], .d (.int .i64 0), .d (.int .i64 0), .xsl [], .xsl []] [], none⟩, ⟨some 14, .mv (.t 5), none⟩, ⟨none, .st 8 (.t 2) (.t 13), none⟩, ⟨some 3, .mv (.t 14), none⟩] [4, 5, 12, 13, 14])
 (.ret [2, 3])) .skip))
 (.seq (.ops [] [⟨some 15, .ld true 3 (.t 4), none⟩, ⟨some 16, .build [.d (.bool false), .d (.int .i64 0), .d (.int .i64 0), .xsl [], .d (.int .i64 0), .d (.int .i64 0), .xsl [], .xsl []] [(3, (3, .t 15))], none⟩, ⟨none, .st 8 (.t 2) (.t 16), none⟩, ⟨some 3, .mv (.c (.d (.int .i64 0))), none⟩] [4, 5, 12, 15, 16])
 (.ret [2, 3])))))
def r_shard_Free : List ARes := [.c 2 true 8, .t 3]
def fn_shard_Free : AFn := .code c_shard_Free r_shard_Free 17 true
/- shardqueue/ring.New -/
def c_ring_New : ACode :=
 (.seq (.ops [] [⟨some 2, .alloc (.agg [.xsl [], .d (.int .i64 0), .d (.int .i64 0)]), none⟩, ⟨some 3, .mv (.c (.d (.int .i64 0))), none⟩] [3])
 (.seq (.seq (.ops [] [⟨some 4, .mv (.t 0), none⟩, ⟨some 5, .bin .lss (.t 4) (.c (.d (.int .i64 1))), none⟩, ⟨some 6, .mv (.t 5), none⟩, ⟨some 7, .mv (.t 0), some (6, false)⟩, ⟨some 8, .bin .gtr (.t 7) (.c (.d (.int .i64 12))), some (6, false)⟩, ⟨some 9, .pick (.t 6) (.c (.d (.bool true))) (.t 8), none⟩] [4, 5, 6, 7, 8])
 (.cond (.t 9) (.seq (.ops [] [⟨some 10, .build [.xsl [], .d (.int .i64 0), .d (.int .i64 0)] [], none⟩, ⟨none, .st 3 (.t 2) (.t 10), none⟩, ⟨some 3, .mv (.c (.d (.int .i64 1))), none⟩] [0, 9, 10])
 (.ret [2, 3])) .skip))
 (.seq (.ops [] [⟨some 11, .mv (.t 0), none⟩, ⟨some 12, .mks 7 (.d (.agg [.int .i64 0, .int .i64 0, .int .i64 0, .int .i64 0, .int .i64 0, .int .i64 0, .str []])) (.t 11) (.t 11), none⟩, ⟨some 13, .build [.xsl [], .d (.int .i64 0), .d (.int .i64 0)] [(0, (1, .t 12))], none⟩, ⟨none, .st 3 (.t 2) (.t 13), none⟩, ⟨some 3, .mv (.c (.d (.int .i64 0))), none⟩] [0, 9, 11, 12, 13])
 (.ret [2, 3]))))
def r_ring_New : List ARes := [.c 2 true 3, .t 3]
def fn_ring_New : AFn := .code c_ring_New r_ring_New 14 true
/- shardqueue/directory.Span -/
def c_directory_Span : ACode :=
 (.seq (.ops [] [⟨some 2, .box (.t 0), none⟩, ⟨some 4, .alloc (.d (.agg [.int .i64 0, .int .i64 0, .int .i64 0])), none⟩, ⟨some 5, .mv (.c (.d (.bool false))), none⟩] [0, 5])
 (.seq (.seq (.ops [] [⟨some 7, .ld true 3 (.t 2), none⟩, ⟨some 8, .call N_directory_Validate [] [.t 7], none⟩, ⟨some 9, .bin .neq (.t 8) (.c (.d (.int .i64 0))), none⟩] [7, 8])
 (.cond (.t 9) (.seq (.ops [] [⟨some 10, .build [.d (.int .i64 0), .d (.int .i64 0), .d (.int .i64 0)] [], none⟩, ⟨none, .st 3 (.t 4) (.t 10), none⟩, ⟨some 5, .mv (.c (.d (.bool false))), none⟩] [1, 2, 9, 10])
 (.ret [4, 5])) .skip))
 (.seq (.ops [] [⟨some 11, .fad false 1 1 (.t 2), none⟩, ⟨some 12, .ld false 1 (.t 11), none⟩, ⟨some 13, .mv (.t 1), none⟩, ⟨some 14, .call N_directory_find [] [.t 12, .t 13], none⟩, ⟨some 6, .mv (.t 14), none⟩] [1, 9, 11, 12, 13, 14])
 (.seq (.seq (.ops [] [⟨some 15, .mv (.t 6), none⟩, ⟨some 16, .bin .lss (.t 15) (.c (.d (.int .i64 0))), none⟩] [15])
 (.cond (.t 16) (.seq (.ops [] [⟨some 17, .build [.d (.int .i64 0), .d (.int .i64 0), .d (.int .i64 0)] [], none⟩, ⟨none, .st 3 (.t 4) (.t 17), none⟩, ⟨some 5, .mv (.c (.d (.bool false))), none⟩] [2, 6, 16, 17])
 (.ret [4, 5])) .skip))
 (.seq (.ops [] [⟨some 18, .fad false 1 1 (.t 2), none⟩, ⟨some 19, .ld false 1 (.t 18), none⟩, ⟨some 20, .mv (.t 6), none⟩, ⟨some 21, .iad 3 (.t 19) (.t 20), none⟩, ⟨some 22, .ld true 3 (.t 21), none⟩, ⟨none, .st 3 (.t 4) (.t 22), none⟩, ⟨some 5, .mv (.c (.d (.bool true))), none⟩] [2, 6, 16, 18, 19, 20, 21, 22])
 (.ret [4, 5]))))))
def r_directory_Span : List ARes := [.c 4 true 3, .t 5]
def fn_directory_Span : AFn := .code c_directory_Span r_directory_Span 23 true
/- shardqueue/directory.Validate -/
def l_directory_Validate_0 : ACode :=
 (.seq (.ops [] [⟨some 40, .bin .lss (.t 39) (.t 38), none⟩] [])
 (.seq (.cond (.t 40) .skip (.exit 1 [1]))
 (.seq (.block 2 (.seq (.ops [] [⟨some 41, .mv (.t 39), none⟩, ⟨some 42, .iad 3 (.t 37) (.t 39), none⟩, ⟨some 43, .ld true 3 (.t 42), none⟩, ⟨some 5, .alloc (.d (.agg [.int .i64 0, .int .i64 0, .int .i64 0])), none⟩, ⟨some 4, .mv (.t 41), none⟩, ⟨none, .st 3 (.t 5) (.t 43), none⟩] [40, 41, 42, 43])
 (.seq (.ops [] [⟨some 44, .fad false 1 1 (.t 1), none⟩, ⟨some 45, .ld false 1 (.t 44), none⟩, ⟨some 46, .fad false 2 1 (.t 5), none⟩, ⟨some 47, .ld false 1 (.t 46), none⟩, ⟨some 48, .call N_directory_find [] [.t 45, .t 47], none⟩, ⟨some 49, .mv (.t 4), none⟩, ⟨some 50, .bin .neq (.t 48) (.t 49), none⟩] [4, 5, 44, 45, 46, 47, 48, 49])
 (.cond (.t 50) (.seq (.ops [] [⟨some 2, .mv (.c (.d (.int .i64 10))), none⟩] [1, 37, 38, 39, 50])
 (.ret [2])) .skip))))
 (.ops [] [⟨some 51, .bin .add (.t 39) (.c (.d (.int .i64 1))), none⟩, ⟨some 39, .mv (.t 51), none⟩] [50, 51]))))
def c_directory_Validate : ACode :=
 (.seq (.ops [] [⟨some 1, .box (.t 0), none⟩, ⟨some 2, .mv (.c (.d (.int .i64 0))), none⟩] [0, 2])
 (.seq (.ops [] [⟨some 6, .fad false 2 1 (.t 1), none⟩, ⟨some 7, .ld false 1 (.t 6), none⟩, ⟨some 8, .len (.t 7), none⟩, ⟨some 3, .alloc (.d (.int .i64 0)), none⟩, ⟨none, .st 1 (.t 3) (.t 8), none⟩] [6, 7, 8])
 (.seq (.block 0 (.seq (.ops [] [⟨some 10, .fad false 0 1 (.t 1), none⟩, ⟨some 11, .ld false 1 (.t 10), none⟩, ⟨some 12, .bin .lss (.t 11) (.c (.d (.int .i64 1))), none⟩, ⟨some 13, .mv (.t 12), none⟩, ⟨some 14, .fad false 0 1 (.t 1), some (13, false)⟩, ⟨some 15, .ld false 1 (.t 14), some (13, false)⟩, ⟨some 16, .bin .gtr (.t 15) (.c (.d (.int .i64 1099511627776))), some (13, false)⟩, ⟨some 17, .pick (.t 13) (.c (.d (.bool true))) (.t 16), none⟩, ⟨some 18, .mv (.t 17), none⟩, ⟨some 19, .ld false 1 (.t 3), some (18, false)⟩, ⟨some 20, .bin .lss (.t 19) (.c (.d (.int .i64 1))), some (18, false)⟩, ⟨some 21, .pick (.t 18) (.c (.d (.bool true))) (.t 20), none⟩, ⟨some 22, .mv (.t 21), none⟩, ⟨some 23, .ld false 1 (.t 3), some (22, false)⟩, ⟨some 24, .bin .gtr (.t 23) (.c (.d (.int .i64 6))), some (22, false)⟩, ⟨some 25, .pick (.t 22) (.c (.d (.bool true))) (.t 24), none⟩, ⟨some 9, .mv (.t 25), none⟩] [10, 11, 12, 13, 14, 15, 16, 17, 18, 19, 20, 21, 22, 23, 24, 25])
 (.cond (.t 9) (.seq (.ops [] [⟨some 2, .mv (.c (.d (.int .i64 1))), none⟩] [1, 3, 9])
 (.ret [2])) (.seq (.ops [] [⟨some 27, .fad false 1 1 (.t 1), none⟩, ⟨some 28, .ld false 1 (.t 27), none⟩, ⟨some 29, .call N_directory_tiles [] [.t 28], none⟩, ⟨some 30, .un .not (.t 29), none⟩, ⟨some 26, .mv (.t 30), none⟩] [9, 27, 28, 29, 30])
 (.cond (.t 26) (.seq (.ops [] [⟨some 2, .mv (.c (.d (.int .i64 7))), none⟩] [1, 3, 26])
 (.ret [2])) (.seq (.ops [] [⟨some 32, .fad false 1 1 (.t 1), none⟩, ⟨some 33, .ld false 1 (.t 32), none⟩, ⟨some 34, .mkfn N_directory_Validate_1 [.t 3], none⟩, ⟨some 35, .call N_slices_ContainsFunc_api_Span [] [.t 33, .t 34], none⟩, ⟨some 31, .mv (.t 35), none⟩] [3, 26, 32, 33, 34, 35])
 (.cond (.t 31) (.seq (.ops [] [⟨some 2, .mv (.c (.d (.int .i64 4))), none⟩] [1, 31])
 (.ret [2])) .skip)))))))
 (.seq (.seq (.ops [] [⟨some 36, .fad false 1 1 (.t 1), none⟩, ⟨some 37, .ld false 1 (.t 36), none⟩, ⟨some 38, .len (.t 37), none⟩, ⟨some 39, .mv (.c (.d (.int .i64 0))), none⟩] [31, 36])
 (.block 1 (.loop [] l_directory_Validate_0)))
 (.seq (.seq (.ops [] [⟨some 52, .ld true 3 (.t 1), none⟩, ⟨some 53, .call N_directory_forwards [] [.t 52], none⟩, ⟨some 54, .un .not (.t 53), none⟩] [1, 37, 38, 39, 40, 52, 53])
 (.cond (.t 54) (.seq (.ops [] [⟨some 2, .mv (.c (.d (.int .i64 7))), none⟩] [54])
 (.ret [2])) .skip))
 (.seq (.ops [] [⟨some 2, .mv (.c (.d (.int .i64 0))), none⟩] [54])
 (.ret [2])))))))
def r_directory_Validate : List ARes := [.t 2]
def fn_directory_Validate : AFn := .code c_directory_Validate r_directory_Validate 55 true
/- shardqueue/directory.tiles -/
def l_directory_tiles_0 : ACode :=
 (.seq (.ops [] [⟨some 9, .bin .lss (.t 8) (.t 7), none⟩] [])
 (.seq (.cond (.t 9) .skip (.exit 0 [3]))
 (.seq (.block 1 (.seq (.ops [] [⟨some 10, .iad 3 (.t 6) (.t 8), none⟩, ⟨some 11, .ld true 3 (.t 10), none⟩, ⟨some 5, .alloc (.d (.agg [.int .i64 0, .int .i64 0, .int .i64 0])), none⟩, ⟨none, .st 3 (.t 5) (.t 11), none⟩] [9, 10, 11])
 (.seq (.seq (.ops [] [⟨some 12, .fad false 0 1 (.t 5), none⟩, ⟨some 13, .ld false 1 (.t 12), none⟩, ⟨some 14, .mv (.t 3), none⟩, ⟨some 15, .bin .neq (.t 13) (.t 14), none⟩, ⟨some 16, .mv (.t 15), none⟩, ⟨some 17, .fad false 1 1 (.t 5), some (16, false)⟩, ⟨some 18, .ld false 1 (.t 17), some (16, false)⟩, ⟨some 19, .fad false 0 1 (.t 5), some (16, false)⟩, ⟨some 20, .ld false 1 (.t 19), some (16, false)⟩, ⟨some 21, .bin .lss (.t 18) (.t 20), some (16, false)⟩, ⟨some 22, .pick (.t 16) (.c (.d (.bool true))) (.t 21), none⟩, ⟨some 23, .mv (.t 22), none⟩, ⟨some 24, .fad false 1 1 (.t 5), some (23, false)⟩, ⟨some 25, .ld false 1 (.t 24), some (23, false)⟩, ⟨some 26, .bin .geq (.t 25) (.c (.d (.int .i64 65536))), some (23, false)⟩, ⟨some 27, .pick (.t 23) (.c (.d (.bool true))) (.t 26), none⟩] [3, 12, 13, 14, 15, 16, 17, 18, 19, 20, 21, 22, 23, 24, 25, 26])
 (.cond (.t 27) (.seq (.ops [] [⟨some 2, .mv (.c (.d (.bool false))), none⟩] [5, 6, 7, 8, 27])
 (.ret [2])) .skip))
 (.ops [] [⟨some 28, .fad false 1 1 (.t 5), none⟩, ⟨some 29, .ld false 1 (.t 28), none⟩, ⟨some 30, .bin .add (.t 29) (.c (.d (.int .i64 1))), none⟩, ⟨some 3, .mv (.t 30), none⟩] [5, 27, 28, 29, 30]))))
 (.ops [] [⟨some 31, .bin .add (.t 8) (.c (.d (.int .i64 1))), none⟩, ⟨some 8, .mv (.t 31), none⟩] [31]))))
def c_directory_tiles : ACode :=
 (.seq (.ops [] [⟨some 2, .mv (.c (.d (.bool false))), none⟩] [2])
 (.seq (.ops [] [⟨some 3, .mv (.c (.d (.int .i64 0))), none⟩] [])
 (.seq (.seq (.ops [] [⟨some 6, .mv (.t 0), none⟩, ⟨some 7, .len (.t 6), none⟩, ⟨some 8, .mv (.c (.d (.int .i64 0))), none⟩] [0])
 (.block 0 (.loop [] l_directory_tiles_0)))
 (.seq (.ops [] [⟨some 32, .mv (.t 3), none⟩, ⟨some 33, .bin .eql (.t 32) (.c (.d (.int .i64 65536))), none⟩, ⟨some 2, .mv (.t 33), none⟩] [3, 6, 7, 8, 9, 32, 33])
 (.ret [2])))))
def r_directory_tiles : List ARes := [.t 2]
def fn_directory_tiles : AFn := .code c_directory_tiles r_directory_tiles 34 true
/- shardqueue/directory.Validate$1 -/
def c_directory_Validate_1 : ACode :=
 (.seq (.ops [] [⟨some 2, .box (.t 0), none⟩, ⟨some 3, .mv (.c (.d (.bool false))), none⟩] [0, 3])
 (.seq (.ops [] [⟨some 4, .fad false 2 1 (.t 2), none⟩, ⟨some 5, .ld false 1 (.t 4), none⟩, ⟨some 6, .bin .lss (.t 5) (.c (.d (.int .i64 0))), none⟩, ⟨some 7, .mv (.t 6), none⟩, ⟨some 8, .fad false 2 1 (.t 2), some (7, false)⟩, ⟨some 9, .ld false 1 (.t 8), some (7, false)⟩, ⟨some 10, .ld false 1 (.t 1), some (7, false)⟩, ⟨some 11, .bin .geq (.t 9) (.t 10), some (7, false)⟩, ⟨some 12, .pick (.t 7) (.c (.d (.bool true))) (.t 11), none⟩, ⟨some 3, .mv (.t 12), none⟩] [1, 2, 4, 5, 6, 7, 8, 9, 10, 11, 12])
 (.ret [3])))
def r_directory_Validate_1 : List ARes := [.t 3]
def fn_directory_Validate_1 : AFn := .code c_directory_Validate_1 r_directory_Validate_1 13 true
/- slices.ContainsFunc[[]shardqueue/api.Span,shardqueue/api.Span] -/
def c_slices_ContainsFunc_api_Span : ACode :=
 (.seq (.ops [] [⟨some 4, .mv (.c (.d (.bool false))), none⟩] [4])
 (.seq (.ops [] [⟨some 5, .mv (.t 0), none⟩, ⟨some 6, .mv (.t 1), none⟩, ⟨some 7, .call N_slices_IndexFunc_api_Span [] [.t 5, .t 6], none⟩, ⟨some 8, .bin .geq (.t 7) (.c (.d (.int .i64 0))), none⟩, ⟨some 4, .mv (.t 8), none⟩] [0, 1, 5, 6, 7, 8])
 (.ret [4])))
def r_slices_ContainsFunc_api_Span : List ARes := [.t 4]
def fn_slices_ContainsFunc_api_Span : AFn := .code c_slices_ContainsFunc_api_Span r_slices_ContainsFunc_api_Span 9 true
/- slices.IndexFunc[[]shardqueue/api.Span,shardqueue/api.Span] -/
def l_slices_IndexFunc_api_Span_0 : ACode :=
 (.seq (.ops [] [⟨some 9, .bin .lss (.t 8) (.t 7), none⟩] [])
 (.seq (.cond (.t 9) .skip (.exit 0 []))
 (.seq (.block 1 (.seq (.ops [] [⟨some 10, .mv (.t 8), none⟩, ⟨some 5, .mv (.t 10), none⟩] [9, 10])
 (.seq (.ops [] [⟨some 11, .mv (.t 1), none⟩, ⟨some 12, .mv (.t 0), none⟩, ⟨some 13, .mv (.t 5), none⟩, ⟨some 14, .iad 3 (.t 12) (.t 13), none⟩, ⟨some 15, .ld true 3 (.t 14), none⟩, ⟨some 16, .callv (.t 11) [] [.t 15], none⟩] [11, 12, 13, 14, 15])
 (.cond (.t 16) (.seq (.ops [] [⟨some 17, .mv (.t 5), none⟩, ⟨some 4, .mv (.t 17), none⟩] [0, 1, 5, 7, 8, 16, 17])
 (.ret [4])) .skip))))
 (.ops [] [⟨some 18, .bin .add (.t 8) (.c (.d (.int .i64 1))), none⟩, ⟨some 8, .mv (.t 18), none⟩] [5, 16, 18]))))
def c_slices_IndexFunc_api_Span : ACode :=
 (.seq (.ops [] [⟨some 4, .mv (.c (.d (.int .i64 0))), none⟩] [4])
 (.seq (.seq (.ops [] [⟨some 6, .mv (.t 0), none⟩, ⟨some 7, .len (.t 6), none⟩, ⟨some 8, .mv (.c (.d (.int .i64 0))), none⟩] [6])
 (.block 0 (.loop [] l_slices_IndexFunc_api_Span_0)))
 (.seq (.ops [] [⟨some 4, .mv (.c (.d (.int .i64 (-1)))), none⟩] [0, 1, 7, 8, 9])
 (.ret [4]))))
def r_slices_IndexFunc_api_Span : List ARes := [.t 4]
def fn_slices_IndexFunc_api_Span : AFn := .code c_slices_IndexFunc_api_Span r_slices_IndexFunc_api_Span 19 true
/- shardqueue/directory.find -/
def c_directory_find : ACode :=
 (.seq (.ops [] [⟨some 3, .box (.t 1), none⟩, ⟨some 4, .mv (.c (.d (.int .i64 0))), none⟩] [1, 4])
 (.seq (.ops [] [⟨some 5, .mv (.t 0), none⟩, ⟨some 6, .mkfn N_directory_find_1 [.t 3], none⟩, ⟨some 7, .call N_slices_IndexFunc_api_Span [] [.t 5, .t 6], none⟩, ⟨some 4, .mv (.t 7), none⟩] [0, 3, 5, 6, 7])
 (.ret [4])))
def r_directory_find : List ARes := [.t 4]
def fn_directory_find : AFn := .code c_directory_find r_directory_find 8 true
/- shardqueue/directory.find$1 -/
def c_directory_find_1 : ACode :=
 (.seq (.ops [] [⟨some 2, .box (.t 0), none⟩, ⟨some 3, .mv (.c (.d (.bool false))), none⟩] [0, 3])
 (.seq (.ops [] [⟨some 4, .fad false 2 1 (.t 2), none⟩, ⟨some 5, .ld false 1 (.t 4), none⟩, ⟨some 6, .ld false 1 (.t 1), none⟩, ⟨some 7, .bin .eql (.t 5) (.t 6), none⟩, ⟨some 3, .mv (.t 7), none⟩] [1, 2, 4, 5, 6, 7])
 (.ret [3])))
def r_directory_find_1 : List ARes := [.t 3]
def fn_directory_find_1 : AFn := .code c_directory_find_1 r_directory_find_1 8 true
/- shardqueue/directory.forwards -/
def l_directory_forwards_0 : ACode :=
 (.seq (.ops [] [⟨some 12, .bin .lss (.t 11) (.t 10), none⟩] [])
 (.seq (.cond (.t 12) .skip (.exit 0 [1]))
 (.seq (.block 1 (.seq (.ops [] [⟨some 13, .mv (.t 11), none⟩, ⟨some 14, .iad 1 (.t 9) (.t 11), none⟩, ⟨some 15, .ld false 1 (.t 14), none⟩, ⟨some 3, .mv (.t 13), none⟩, ⟨some 4, .mv (.t 15), none⟩] [12, 13, 14, 15])
 (.seq (.ops [] [⟨some 16, .fad false 1 1 (.t 1), none⟩, ⟨some 17, .ld false 1 (.t 16), none⟩, ⟨some 18, .mv (.t 3), none⟩, ⟨some 19, .call N_directory_find [] [.t 17, .t 18], none⟩, ⟨some 20, .bin .geq (.t 19) (.c (.d (.int .i64 0))), none⟩, ⟨some 5, .mv (.t 20), none⟩] [3, 16, 17, 18, 19, 20])
 (.seq (.ops [] [⟨some 21, .mv (.t 5), none⟩, ⟨some 22, .mv (.t 21), none⟩, ⟨some 23, .mv (.t 4), some (22, true)⟩, ⟨some 24, .bin .neq (.t 23) (.c (.d (.int .i64 (-1)))), some (22, true)⟩, ⟨some 25, .pick (.t 22) (.t 24) (.c (.d (.bool false))), none⟩, ⟨some 26, .mv (.t 25), none⟩, ⟨some 27, .mv (.t 4), some (26, false)⟩, ⟨some 28, .bin .lss (.t 27) (.c (.d (.int .i64 (-1)))), some (26, false)⟩, ⟨some 29, .pick (.t 26) (.c (.d (.bool true))) (.t 28), none⟩, ⟨some 30, .mv (.t 29), none⟩, ⟨some 31, .mv (.t 4), some (30, false)⟩, ⟨some 32, .fad false 2 1 (.t 1), some (30, false)⟩, ⟨some 33, .ld false 1 (.t 32), some (30, false)⟩, ⟨some 34, .len (.t 33), some (30, false)⟩, ⟨some 35, .bin .geq (.t 31) (.t 34), some (30, false)⟩, ⟨some 36, .pick (.t 30) (.c (.d (.bool true))) (.t 35), none⟩] [4, 5, 21, 22, 23, 24, 25, 26, 27, 28, 29, 30, 31, 32, 33, 34, 35])
 (.cond (.t 36) (.seq (.ops [] [⟨some 2, .mv (.c (.d (.bool false))), none⟩] [1, 9, 10, 11, 36])
 (.ret [2])) .skip)))))
 (.ops [] [⟨some 37, .bin .add (.t 11) (.c (.d (.int .i64 1))), none⟩, ⟨some 11, .mv (.t 37), none⟩] [36, 37]))))
def l_directory_forwards_1 : ACode :=
 (.seq (.ops [] [⟨some 49, .bin .lss (.t 48) (.t 47), none⟩] [])
 (.seq (.cond (.t 49) .skip (.exit 4 [1, 7, 40, 41]))
 (.seq (.block 5 (.seq (.ops [] [⟨some 50, .mv (.t 7), none⟩, ⟨some 51, .bin .geq (.t 50) (.c (.d (.int .i64 0))), none⟩] [49, 50])
 (.cond (.t 51) (.ops [] [⟨some 52, .fad false 2 1 (.t 1), none⟩, ⟨some 53, .ld false 1 (.t 52), none⟩, ⟨some 54, .mv (.t 7), none⟩, ⟨some 55, .iad 1 (.t 53) (.t 54), none⟩, ⟨some 56, .ld false 1 (.t 55), none⟩, ⟨some 7, .mv (.t 56), none⟩] [51, 52, 53, 54, 55, 56]) .skip)))
 (.ops [] [⟨some 57, .bin .add (.t 48) (.c (.d (.int .i64 1))), none⟩, ⟨some 48, .mv (.t 57), none⟩] [51, 57]))))
def l_directory_forwards_2 : ACode :=
 (.seq (.ops [] [⟨some 42, .bin .lss (.t 41) (.t 40), none⟩] [])
 (.seq (.cond (.t 42) .skip (.exit 2 []))
 (.seq (.block 3 (.seq (.ops [] [⟨some 43, .mv (.t 41), none⟩, ⟨some 6, .mv (.t 43), none⟩] [42, 43])
 (.seq (.ops [] [⟨some 44, .mv (.t 6), none⟩, ⟨some 7, .mv (.t 44), none⟩] [6, 44])
 (.seq (.seq (.ops [] [⟨some 45, .fad false 2 1 (.t 1), none⟩, ⟨some 46, .ld false 1 (.t 45), none⟩, ⟨some 47, .len (.t 46), none⟩, ⟨some 48, .mv (.c (.d (.int .i64 0))), none⟩] [45, 46])
 (.block 4 (.loop [] l_directory_forwards_1)))
 (.seq (.ops [] [⟨some 58, .mv (.t 7), none⟩, ⟨some 59, .bin .geq (.t 58) (.c (.d (.int .i64 0))), none⟩] [7, 47, 48, 49, 58])
 (.cond (.t 59) (.seq (.ops [] [⟨some 2, .mv (.c (.d (.bool false))), none⟩] [1, 40, 41, 59])
 (.ret [2])) .skip))))))
 (.ops [] [⟨some 60, .bin .add (.t 41) (.c (.d (.int .i64 1))), none⟩, ⟨some 41, .mv (.t 60), none⟩] [59, 60]))))
def c_directory_forwards : ACode :=
 (.seq (.ops [] [⟨some 1, .box (.t 0), none⟩, ⟨some 2, .mv (.c (.d (.bool false))), none⟩] [0, 2])
 (.seq (.seq (.ops [] [⟨some 8, .fad false 2 1 (.t 1), none⟩, ⟨some 9, .ld false 1 (.t 8), none⟩, ⟨some 10, .len (.t 9), none⟩, ⟨some 11, .mv (.c (.d (.int .i64 0))), none⟩] [8])
 (.block 0 (.loop [] l_directory_forwards_0)))
 (.seq (.seq (.ops [] [⟨some 38, .fad false 2 1 (.t 1), none⟩, ⟨some 39, .ld false 1 (.t 38), none⟩, ⟨some 40, .len (.t 39), none⟩, ⟨some 41, .mv (.c (.d (.int .i64 0))), none⟩] [9, 10, 11, 12, 38, 39])
 (.block 2 (.loop [] l_directory_forwards_2)))
 (.seq (.ops [] [⟨some 2, .mv (.c (.d (.bool true))), none⟩] [1, 40, 41, 42])
 (.ret [2])))))
def r_directory_forwards : List ARes := [.t 2]
def fn_directory_forwards : AFn := .code c_directory_forwards r_directory_forwards 61 true
/- shardqueue/shard.New -/
def c_shard_New : ACode :=
 (.seq (.ops [] [⟨some 6, .alloc (.agg [.d (.bool false), .d (.int .i64 0), .d (.int .i64 0), .xsl [], .d (.int .i64 0), .d (.int .i64 0), .xsl [], .xsl []]), none⟩, ⟨some 7, .mv (.c (.d (.int .i64 0))), none⟩] [7])
 (.seq (.ops [] [⟨some 11, .mv (.t 0), none⟩, ⟨some 12, .call N_ring_New [] [.t 11], none⟩, ⟨some 10, .mv (.t 12), none⟩, ⟨some 13, .ext (.t 10) 0, none⟩, ⟨some 14, .ext (.t 10) 1, none⟩, ⟨some 8, .alloc (.agg [.xsl [], .d (.int .i64 0), .d (.int .i64 0)]), none⟩, ⟨none, .st 3 (.t 8) (.t 13), none⟩, ⟨some 9, .mv (.t 14), none⟩] [0, 10, 11, 12, 13, 14])
 (.seq (.seq (.ops [] [⟨some 15, .mv (.t 9), none⟩, ⟨some 16, .bin .neq (.t 15) (.c (.d (.int .i64 0))), none⟩] [15])
 (.cond (.t 16) (.seq (.ops [] [⟨some 17, .build [.d (.bool false), .d (.int .i64 0), .d (.int .i64 0), .xsl [], .d (.int .i64 0), .d (.int .i64 0), .xsl [], .xsl []] [], none⟩, ⟨some 18, .mv (.t 9), none⟩, ⟨none, .st 8 (.t 6) (.t 17), none⟩, ⟨some 7, .mv (.t 18), none⟩] [1, 2, 8, 9, 16, 17, 18])
 (.ret [6, 7])) .skip))
 (.seq (.seq (.ops [] [⟨some 19, .mv (.t 1), none⟩, ⟨some 20, .mv (.t 2), none⟩, ⟨some 21, .call N_shard_spans [] [.t 19, .t 20], none⟩, ⟨some 22, .un .not (.t 21), none⟩] [9, 16, 19, 20, 21])
 (.cond (.t 22) (.seq (.ops [] [⟨some 23, .build [.d (.bool false), .d (.int .i64 0), .d (.int .i64 0), .xsl [], .d (.int .i64 0), .d (.int .i64 0), .xsl [], .xsl []] [], none⟩, ⟨none, .st 8 (.t 6) (.t 23), none⟩, ⟨some 7, .mv (.c (.d (.int .i64 1))), none⟩] [1, 2, 8, 22, 23])
 (.ret [6, 7])) .skip))
 (.seq (.ops [] [⟨some 24, .mv (.t 1), none⟩, ⟨some 25, .mv (.t 2), none⟩, ⟨some 26, .ld true 3 (.t 8), none⟩, ⟨some 27, .build [.d (.bool false), .d (.int .i64 0), .d (.int .i64 0), .xsl [], .d (.int .i64 0), .d (.int .i64 0), .xsl [], .xsl []] [(0, (1, .c (.d (.bool true)))), (1, (1, .t 24)), (2, (1, .t 25)), (3, (3, .t 26))], none⟩, ⟨none, .st 8 (.t 6) (.t 27), none⟩, ⟨some 7, .mv (.c (.d (.int .i64 0))), none⟩] [1, 2, 8, 22, 24, 25, 26, 27])
 (.ret [6, 7]))))))
def r_shard_New : List ARes := [.c 6 true 8, .t 7]
def fn_shard_New : AFn := .code c_shard_New r_shard_New 28 true
/- shardqueue/shard.spans -/
def c_shard_spans : ACode :=
 (.seq (.ops [] [⟨some 4, .mv (.c (.d (.bool false))), none⟩] [4])
 (.seq (.ops [] [⟨some 5, .mv (.t 0), none⟩, ⟨some 6, .bin .leq (.c (.d (.int .i64 0))) (.t 5), none⟩, ⟨some 7, .mv (.t 6), none⟩, ⟨some 8, .mv (.t 0), some (7, true)⟩, ⟨some 9, .mv (.t 1), some (7, true)⟩, ⟨some 10, .bin .leq (.t 8) (.t 9), some (7, true)⟩, ⟨some 11, .pick (.t 7) (.t 10) (.c (.d (.bool false))), none⟩, ⟨some 12, .mv (.t 11), none⟩, ⟨some 13, .mv (.t 1), some (12, true)⟩, ⟨some 14, .bin .lss (.t 13) (.c (.d (.int .i64 65536))), some (12, true)⟩, ⟨some 15, .pick (.t 12) (.t 14) (.c (.d (.bool false))), none⟩, ⟨some 4, .mv (.t 15), none⟩] [0, 1, 5, 6, 7, 8, 9, 10, 11, 12, 13, 14, 15])
 (.ret [4])))
def r_shard_spans : List ARes := [.t 4]
def fn_shard_spans : AFn := .code c_shard_spans r_shard_spans 16 true
/- shardqueue/batch.Validate -/
def c_batch_Validate : ACode :=
 (.seq (.ops [] [⟨some 2, .box (.t 0), none⟩, ⟨some 3, .box (.t 1), none⟩, ⟨some 4, .mv (.c (.d (.int .i64 0))), none⟩] [0, 1, 4])
 (.seq (.ops [] [⟨some 10, .mkfn N_batch_Validate_1 [.t 3], none⟩, ⟨some 5, .mv (.t 10), none⟩] [10])
 (.seq (.ops [] [⟨some 11, .fad false 3 1 (.t 2), none⟩, ⟨some 12, .ld false 1 (.t 11), none⟩, ⟨some 13, .call N_batch_in [] [.t 12, .c (.d (.int .i64 0)), .c (.d (.int .i64 1000))], none⟩, ⟨some 6, .mv (.t 13), none⟩] [11, 12, 13])
 (.seq (.ops [] [⟨some 14, .fad false 2 1 (.t 2), none⟩, ⟨some 15, .ld false 1 (.t 14), none⟩, ⟨some 16, .call N_batch_in [] [.t 15, .c (.d (.int .i64 1)), .c (.d (.int .i64 6))], none⟩, ⟨some 7, .mv (.t 16), none⟩] [14, 15, 16])
 (.seq (.ops [] [⟨some 8, .mv (.c (.d (.bool true))), none⟩] [])
 (.seq (.seq (.ops [] [⟨some 17, .fad false 0 1 (.t 2), none⟩, ⟨some 18, .ld false 1 (.t 17), none⟩] [17])
 (.block 0 (.seq (.ops [] [⟨some 20, .bin .eql (.t 18) (.c (.d (.int .i64 1))), none⟩, ⟨some 19, .mv (.t 20), none⟩] [20])
 (.cond (.t 19) (.seq (.ops [] [⟨some 9, .mv (.c (.d (.fn N_batch_Validate_2 []))), none⟩] [3, 5, 6, 7, 18, 19])
 (.seq (.ops [] [⟨some 21, .fad false 6 1 (.t 2), none⟩, ⟨some 22, .ld false 1 (.t 21), none⟩, ⟨some 23, .len (.t 22), none⟩, ⟨some 24, .call N_batch_in [] [.t 23, .c (.d (.int .i64 1)), .c (.d (.int .i64 6))], none⟩, ⟨some 25, .un .not (.t 24), none⟩, ⟨some 26, .mv (.t 25), none⟩, ⟨some 27, .fad false 6 1 (.t 2), some (26, false)⟩, ⟨some 28, .ld false 1 (.t 27), some (26, false)⟩, ⟨some 29, .mv (.t 9), some (26, false)⟩, ⟨some 30, .call N_slices_ContainsFunc_string [] [.t 28, .t 29], some (26, false)⟩, ⟨some 31, .pick (.t 26) (.c (.d (.bool true))) (.t 30), none⟩] [2, 9, 21, 22, 23, 24, 25, 26, 27, 28, 29, 30])
 (.cond (.t 31) (.seq (.ops [] [⟨some 4, .mv (.c (.d (.int .i64 2))), none⟩] [8, 31])
 (.ret [4])) .skip))) (.seq (.ops [] [⟨some 33, .bin .eql (.t 18) (.c (.d (.int .i64 2))), none⟩, ⟨some 32, .mv (.t 33), none⟩] [19, 33])
 (.cond (.t 32) (.ops [] [⟨some 34, .mv (.t 5), none⟩, ⟨some 35, .fad false 1 1 (.t 2), none⟩, ⟨some 36, .ld false 1 (.t 35), none⟩, ⟨some 37, .callv (.t 34) [] [.t 36], none⟩, ⟨some 38, .mv (.t 37), none⟩, ⟨some 39, .mv (.t 7), some (38, true)⟩, ⟨some 40, .pick (.t 38) (.t 39) (.c (.d (.bool false))), none⟩, ⟨some 41, .mv (.t 40), none⟩, ⟨some 42, .mv (.t 6), some (41, true)⟩, ⟨some 43, .pick (.t 41) (.t 42) (.c (.d (.bool false))), none⟩, ⟨some 8, .mv (.t 43), none⟩] [2, 3, 5, 6, 7, 18, 32, 34, 35, 36, 37, 38, 39, 40, 41, 42, 43]) (.seq (.seq (.ops [] [⟨some 45, .bin .eql (.t 18) (.c (.d (.int .i64 3))), none⟩, ⟨some 44, .mv (.t 45), none⟩] [32, 45])
 (.cond (.t 44) .skip (.seq (.ops [] [⟨some 46, .bin .eql (.t 18) (.c (.d (.int .i64 4))), none⟩, ⟨some 44, .mv (.t 46), none⟩] [46])
 (.cond (.t 44) .skip (.ops [] [⟨some 47, .bin .eql (.t 18) (.c (.d (.int .i64 5))), none⟩, ⟨some 44, .mv (.t 47), none⟩] [47])))))
 (.cond (.t 44) (.seq (.seq (.ops [] [⟨some 48, .fad false 7 1 (.t 2), none⟩, ⟨some 49, .ld false 1 (.t 48), none⟩, ⟨some 50, .len (.t 49), none⟩, ⟨some 51, .call N_batch_in [] [.t 50, .c (.d (.int .i64 1)), .c (.d (.int .i64 6))], none⟩, ⟨some 52, .un .not (.t 51), none⟩] [3, 5, 7, 8, 18, 44, 48, 49, 50, 51])
 (.cond (.t 52) (.seq (.ops [] [⟨some 4, .mv (.c (.d (.int .i64 2))), none⟩] [2, 6, 52])
 (.ret [4])) .skip))
 (.ops [] [⟨some 53, .fad false 0 1 (.t 2), none⟩, ⟨some 54, .ld false 1 (.t 53), none⟩, ⟨some 55, .bin .neq (.t 54) (.c (.d (.int .i64 5))), none⟩, ⟨some 56, .mv (.t 55), none⟩, ⟨some 57, .mv (.t 6), some (56, false)⟩, ⟨some 58, .pick (.t 56) (.c (.d (.bool true))) (.t 57), none⟩, ⟨some 8, .mv (.t 58), none⟩] [2, 6, 52, 53, 54, 55, 56, 57, 58])) (.seq (.seq (.ops [] [⟨some 60, .bin .eql (.t 18) (.c (.d (.int .i64 6))), none⟩, ⟨some 59, .mv (.t 60), none⟩] [6, 44, 60])
 (.cond (.t 59) .skip (.ops [] [⟨some 61, .bin .eql (.t 18) (.c (.d (.int .i64 7))), none⟩, ⟨some 59, .mv (.t 61), none⟩] [61])))
 (.cond (.t 59) .skip (.seq (.ops [] [⟨some 63, .bin .eql (.t 18) (.c (.d (.int .i64 8))), none⟩, ⟨some 62, .mv (.t 63), none⟩] [8, 59, 63])
 (.cond (.t 62) (.ops [] [⟨some 64, .mv (.t 5), none⟩, ⟨some 65, .fad false 1 1 (.t 2), none⟩, ⟨some 66, .ld false 1 (.t 65), none⟩, ⟨some 67, .callv (.t 64) [] [.t 66], none⟩, ⟨some 68, .mv (.t 67), none⟩, ⟨some 69, .mv (.t 7), some (68, true)⟩, ⟨some 70, .pick (.t 68) (.t 69) (.c (.d (.bool false))), none⟩, ⟨some 8, .mv (.t 70), none⟩] [2, 3, 5, 7, 18, 62, 64, 65, 66, 67, 68, 69, 70]) (.seq (.seq (.ops [] [⟨some 72, .bin .eql (.t 18) (.c (.d (.int .i64 9))), none⟩, ⟨some 71, .mv (.t 72), none⟩] [7, 62, 72])
 (.cond (.t 71) .skip (.seq (.ops [] [⟨some 73, .bin .eql (.t 18) (.c (.d (.int .i64 10))), none⟩, ⟨some 71, .mv (.t 73), none⟩] [73])
 (.cond (.t 71) .skip (.ops [] [⟨some 74, .bin .eql (.t 18) (.c (.d (.int .i64 11))), none⟩, ⟨some 71, .mv (.t 74), none⟩] [74])))))
 (.cond (.t 71) (.ops [] [⟨some 75, .mv (.t 5), none⟩, ⟨some 76, .fad false 4 1 (.t 2), none⟩, ⟨some 77, .ld false 1 (.t 76), none⟩, ⟨some 78, .callv (.t 75) [] [.t 77], none⟩, ⟨some 79, .mv (.t 78), none⟩, ⟨some 80, .mv (.t 5), some (79, true)⟩, ⟨some 81, .fad false 5 1 (.t 2), some (79, true)⟩, ⟨some 82, .ld false 1 (.t 81), some (79, true)⟩, ⟨some 83, .callv (.t 80) [] [.t 82], some (79, true)⟩, ⟨some 84, .pick (.t 79) (.t 83) (.c (.d (.bool false))), none⟩, ⟨some 85, .mv (.t 84), none⟩, ⟨some 86, .fad false 4 1 (.t 2), some (85, true)⟩, ⟨some 87, .ld false 1 (.t 86), some (85, true)⟩, ⟨some 88, .fad false 5 1 (.t 2), some (85, true)⟩, ⟨some 89, .ld false 1 (.t 88), some (85, true)⟩, ⟨some 90, .bin .neq (.t 87) (.t 89), some (85, true)⟩, ⟨some 91, .pick (.t 85) (.t 90) (.c (.d (.bool false))), none⟩, ⟨some 8, .mv (.t 91), none⟩] [2, 3, 5, 18, 71, 75, 76, 77, 78, 79, 80, 81, 82, 83, 84, 85, 86, 87, 88, 89, 90, 91]) (.seq (.seq (.ops [] [⟨some 93, .bin .eql (.t 18) (.c (.d (.int .i64 12))), none⟩, ⟨some 92, .mv (.t 93), none⟩] [71, 93])
 (.cond (.t 92) .skip (.ops [] [⟨some 94, .bin .eql (.t 18) (.c (.d (.int .i64 14))), none⟩, ⟨some 92, .mv (.t 94), none⟩] [94])))
 (.cond (.t 92) (.ops [] [⟨some 95, .mv (.t 5), none⟩, ⟨some 96, .fad false 4 1 (.t 2), none⟩, ⟨some 97, .ld false 1 (.t 96), none⟩, ⟨some 98, .callv (.t 95) [] [.t 97], none⟩, ⟨some 8, .mv (.t 98), none⟩] [2, 3, 5, 18, 92, 95, 96, 97, 98]) (.seq (.ops [] [⟨some 100, .bin .eql (.t 18) (.c (.d (.int .i64 13))), none⟩, ⟨some 99, .mv (.t 100), none⟩] [5, 18, 92, 100])
 (.cond (.t 99) (.ops [] [⟨some 101, .fad false 4 1 (.t 2), none⟩, ⟨some 102, .ld false 1 (.t 101), none⟩, ⟨some 103, .fad false 0 1 (.t 3), none⟩, ⟨some 104, .ld false 1 (.t 103), none⟩, ⟨some 105, .call N_batch_in [] [.t 102, .c (.d (.int .i64 0)), .t 104], none⟩, ⟨some 8, .mv (.t 105), none⟩] [2, 3, 99, 101, 102, 103, 104, 105]) (.seq (.ops [] [⟨some 4, .mv (.c (.d (.int .i64 9))), none⟩] [2, 3, 99])
 (.ret [4]))))))))))))))))))))
 (.seq (.seq (.ops [] [⟨some 106, .mv (.t 8), none⟩, ⟨some 107, .un .not (.t 106), none⟩] [2, 3, 5, 7, 8, 18, 31, 59, 106])
 (.cond (.t 107) (.seq (.ops [] [⟨some 4, .mv (.c (.d (.int .i64 1))), none⟩] [107])
 (.ret [4])) .skip))
 (.seq (.ops [] [⟨some 4, .mv (.c (.d (.int .i64 0))), none⟩] [107])
 (.ret [4])))))))))
def r_batch_Validate : List ARes := [.t 4]
def fn_batch_Validate : AFn := .code c_batch_Validate r_batch_Validate 108 true
/- shardqueue/batch.Validate$1 -/
def c_batch_Validate_1 : ACode :=
 (.seq (.ops [] [⟨some 3, .mv (.c (.d (.bool false))), none⟩] [3])
 (.seq (.ops [] [⟨some 4, .mv (.t 0), none⟩, ⟨some 5, .fad false 0 1 (.t 1), none⟩, ⟨some 6, .ld false 1 (.t 5), none⟩, ⟨some 7, .bin .sub (.t 6) (.c (.d (.int .i64 1))), none⟩, ⟨some 8, .call N_batch_in [] [.t 4, .c (.d (.int .i64 0)), .t 7], none⟩, ⟨some 3, .mv (.t 8), none⟩] [0, 1, 4, 5, 6, 7, 8])
 (.ret [3])))
def r_batch_Validate_1 : List ARes := [.t 3]
def fn_batch_Validate_1 : AFn := .code c_batch_Validate_1 r_batch_Validate_1 9 true
/- shardqueue/batch.Validate$2 -/
def c_batch_Validate_2 : ACode :=
 (.seq (.ops [] [⟨some 2, .mv (.c (.d (.bool false))), none⟩] [2])
 (.seq (.ops [] [⟨some 3, .mv (.t 0), none⟩, ⟨some 4, .lens (.t 3), none⟩, ⟨some 5, .bin .gtr (.t 4) (.c (.d (.int .i64 16))), none⟩, ⟨some 2, .mv (.t 5), none⟩] [0, 3, 4, 5])
 (.ret [2])))
def r_batch_Validate_2 : List ARes := [.t 2]
def fn_batch_Validate_2 : AFn := .code c_batch_Validate_2 r_batch_Validate_2 6 true
/- slices.ContainsFunc[[]string,string] -/
def c_slices_ContainsFunc_string : ACode :=
 (.seq (.ops [] [⟨some 4, .mv (.c (.d (.bool false))), none⟩] [4])
 (.seq (.ops [] [⟨some 5, .mv (.t 0), none⟩, ⟨some 6, .mv (.t 1), none⟩, ⟨some 7, .call N_slices_IndexFunc_string [] [.t 5, .t 6], none⟩, ⟨some 8, .bin .geq (.t 7) (.c (.d (.int .i64 0))), none⟩, ⟨some 4, .mv (.t 8), none⟩] [0, 1, 5, 6, 7, 8])
 (.ret [4])))
def r_slices_ContainsFunc_string : List ARes := [.t 4]
def fn_slices_ContainsFunc_string : AFn := .code c_slices_ContainsFunc_string r_slices_ContainsFunc_string 9 true
/- slices.IndexFunc[[]string,string] -/
def l_slices_IndexFunc_string_0 : ACode :=
 (.seq (.ops [] [⟨some 9, .bin .lss (.t 8) (.t 7), none⟩] [])
 (.seq (.cond (.t 9) .skip (.exit 0 []))
 (.seq (.block 1 (.seq (.ops [] [⟨some 10, .mv (.t 8), none⟩, ⟨some 5, .mv (.t 10), none⟩] [9, 10])
 (.seq (.ops [] [⟨some 11, .mv (.t 1), none⟩, ⟨some 12, .mv (.t 0), none⟩, ⟨some 13, .mv (.t 5), none⟩, ⟨some 14, .iad 1 (.t 12) (.t 13), none⟩, ⟨some 15, .ld false 1 (.t 14), none⟩, ⟨some 16, .callv (.t 11) [] [.t 15], none⟩] [11, 12, 13, 14, 15])
 (.cond (.t 16) (.seq (.ops [] [⟨some 17, .mv (.t 5), none⟩, ⟨some 4, .mv (.t 17), none⟩] [0, 1, 5, 7, 8, 16, 17])
 (.ret [4])) .skip))))
 (.ops [] [⟨some 18, .bin .add (.t 8) (.c (.d (.int .i64 1))), none⟩, ⟨some 8, .mv (.t 18), none⟩] [5, 16, 18]))))
def c_slices_IndexFunc_string : ACode :=
 (.seq (.ops [] [⟨some 4, .mv (.c (.d (.int .i64 0))), none⟩] [4])
 (.seq (.seq (.ops [] [⟨some 6, .mv (.t 0), none⟩, ⟨some 7, .len (.t 6), none⟩, ⟨some 8, .mv (.c (.d (.int .i64 0))), none⟩] [6])
 (.block 0 (.loop [] l_slices_IndexFunc_string_0)))
 (.seq (.ops [] [⟨some 4, .mv (.c (.d (.int .i64 (-1)))), none⟩] [0, 1, 7, 8, 9])
 (.ret [4]))))
def r_slices_IndexFunc_string : List ARes := [.t 4]
def fn_slices_IndexFunc_string : AFn := .code c_slices_IndexFunc_string r_slices_IndexFunc_string 19 true
/- shardqueue/shardqueueref17.Start -/
def c_ref17_Start : ACode :=
 (.seq (.ops [] [⟨some 5, .box (.t 1), none⟩, ⟨some 6, .box (.t 2), none⟩, ⟨some 8, .alloc (.agg [.d (.int .i64 0), .d (.int .i64 0), .d (.int .i64 0), .d (.int .i64 0), .d (.int .i64 0), .d (.int .i64 0), .d (.int .i64 0), .xsl [], .xsl [], .d (.int .i64 0), .d (.bool false), .d (.int .i64 0), .d (.int .i64 0), .d (.int .i64 0), .xsl [], .d (.int .i64 0), .d (.int .i64 0), .d (.int .i64 0), .d (.int .i64 0), .d (.int .i64 0), .d (.int .i64 0), .d (.int .i64 0), .d (.int .i64 0), .d (.int .i64 0), .d (.int .i64 0), .xsl [], .d (.int .i64 0), .d (.int .i64 0), .d (.int .i64 0), .d (.int .i64 0), .d (.int .i64 0), .d (.int .i64 0), .d (.int .i64 0), .d (.int .i64 0), .xsl [], .d (.int .i64 0), .xsl [], .xsl [], .d (.int .i64 0), .xsl [], .xsl [], .xsl [], .d (.int .i64 0), .xsl [], .xsl [], .xsl [], .xsl [], .d (.int .i64 0), .xsl [], .d (.int .i64 0), .xsl [], .xsl [], .d (.int .i64 0), .d (.int .i64 0), .d (.int .i64 0), .d (.int .i64 0), .d (.int .i64 0), .d (.int .i64 0), .d (.int .i64 0), .d (.int .i64 0), .d (.int .i64 0), .xsl [], .xsl []]), none⟩, ⟨some 9, .mv (.c (.d (.int .i64 0))), none⟩] [1, 2, 9])
 (.seq (.seq (.ops [] [⟨some 13, .mv (.t 0), none⟩, ⟨some 14, .bin .lss (.t 13) (.c (.d (.int .i64 1))), none⟩, ⟨some 15, .mv (.t 14), none⟩, ⟨some 16, .mv (.t 0), some (15, false)⟩, ⟨some 17, .bin .gtr (.t 16) (.c (.d (.int .i64 200))), some (15, false)⟩, ⟨some 18, .pick (.t 15) (.c (.d (.bool true))) (.t 17), none⟩, ⟨some 19, .mv (.t 18), none⟩, ⟨some 20, .mv (.t 3), some (19, false)⟩, ⟨some 21, .bin .lss (.t 20) (.c (.d (.int .i64 0))), some (19, false)⟩, ⟨some 22, .pick (.t 19) (.c (.d (.bool true))) (.t 21), none⟩] [13, 14, 15, 16, 17, 18, 19, 20, 21])
 (.cond (.t 22) (.seq (.ops [] [⟨some 23, .build [.d (.int .i64 0), .d (.int .i64 0), .d (.int .i64 0), .d (.int .i64 0), .d (.int .i64 0), .d (.int .i64 0), .d (.int .i64 0), .xsl [], .xsl [], .d (.int .i64 0), .d (.bool false), .d (.int .i64 0), .d (.int .i64 0), .d (.int .i64 0), .xsl [], .d (.int .i64 0), .d (.int .i64 0), .d (.int .i64 0), .d (.int .i64 0), .d (.int .i64 0), .d (.int .i64 0), .d (.int .i64 0), .d (.int .i64 0), .d (.int .i64 0), .d (.int .i64 0), .xsl [], .d (.int .i64 0), .d (.int .i64 0), .d (.int .i64 0), .d (.int .i64 0), .d (.int .i64 0), .d (.int .i64 0), .d (.int .i64 0), .d (.int .i64 0), .xsl [], .d (.int .i64 0), .xsl [], .xsl [], .d (.int .i64 0), .xsl [], .xsl [], .xsl [], .d (.int .i64 0), .xsl [], .xsl [], .xsl [], .xsl [], .d (.int .i64 0), .xsl [], .d (.int .i64 0), .xsl [], .xsl [], .d (.int .i64 0), .d (.int .i64 0), .d (.int .i64 0), .d (.int .i64 0), .d (.int .i64 0), .d (.int .i64 0), .d (.int .i64 0), .d (.int .i64 0), .d (.int .i64 0), .xsl [], .xsl []] [], none⟩, ⟨none, .st 63 (.t 8) (.t 23), none⟩, ⟨some 9, .mv (.c (.d (.int .i64 1))), none⟩] [0, 3, 5, 6, 22, 23])
 (.ret [8, 9])) .skip))
 (.seq (.seq (.ops [] [⟨some 25, .ld true 8 (.t 6), none⟩, ⟨some 26, .call N_ref12_New [] [.t 25], none⟩, ⟨some 24, .mv (.t 26), none⟩, ⟨some 27, .ext (.t 24) 0, none⟩, ⟨some 28, .ext (.t 24) 1, none⟩, ⟨some 10, .alloc (.agg [.xsl [], .xsl [], .d (.int .i64 0), .d (.int .i64 0), .xsl [], .d (.int .i64 0), .xsl [], .xsl [], .d (.int .i64 0), .d (.int .i64 0), .d (.int .i64 0)]), none⟩, ⟨none, .st 11 (.t 10) (.t 27), none⟩, ⟨some 11, .mv (.t 28), none⟩] [10, 22, 24, 25, 26, 27, 28])
 (.seq (.ops [] [⟨some 29, .mv (.t 11), none⟩, ⟨some 30, .bin .neq (.t 29) (.c (.d (.int .i64 0))), none⟩] [29])
 (.cond (.t 30) (.seq (.ops [] [⟨some 31, .build [.d (.int .i64 0), .d (.int .i64 0), .d (.int .i64 0), .d (.int .i64 0), .d (.int .i64 0), .d (.int .i64 0), .d (.int .i64 0), .xsl [], .xsl [], .d (.int .i64 0), .d (.bool false), .d (.int .i64 0), .d (.int .i64 0), .d (.int .i64 0), .xsl [], .d (.int .i64 0), .d (.int .i64 0), .d (.int .i64 0), .d (.int .i64 0), .d (.int .i64 0), .d (.int .i64 0), .d (.int .i64 0), .d (.int .i64 0), .d (.int .i64 0), .d (.int .i64 0), .xsl [], .d (.int .i64 0), .d (.int .i64 0), .d (.int .i64 0), .d (.int .i64 0), .d (.int .i64 0), .d (.int .i64 0), .d (.int .i64 0), .d (.int .i64 0), .xsl [], .d (.int .i64 0), .xsl [], .xsl [], .d (.int .i64 0), .xsl [], .xsl [], .xsl [], .d (.int .i64 0), .xsl [], .xsl [], .xsl [], .xsl [], .d (.int .i64 0), .xsl [], .d (.int .i64 0), .xsl [], .xsl [], .d (.int .i64 0), .d (.int .i64 0), .d (.int .i64 0), .d (.int .i64 0), .d (.int .i64 0), .d (.int .i64 0), .d (.int .i64 0), .d (.int .i64 0), .d (.int .i64 0), .xsl [], .xsl []] [], none⟩, ⟨some 32, .mv (.t 11), none⟩, ⟨none, .st 63 (.t 8) (.t 31), none⟩, ⟨some 9, .mv (.t 32), none⟩] [0, 3, 5, 6, 11, 30, 31, 32])
 (.ret [8, 9])) .skip)))
 (.seq (.seq (.ops [] [⟨some 33, .ld true 8 (.t 5), none⟩, ⟨some 34, .ld true 8 (.t 6), none⟩, ⟨some 35, .call N_ref17_Validate [] [.t 33, .t 34], none⟩, ⟨some 12, .mv (.t 35), none⟩] [11, 30, 33, 34, 35])
 (.seq (.ops [] [⟨some 36, .mv (.t 12), none⟩, ⟨some 37, .bin .neq (.t 36) (.c (.d (.int .i64 0))), none⟩] [36])
 (.cond (.t 37) (.seq (.ops [] [⟨some 38, .build [.d (.int .i64 0), .d (.int .i64 0), .d (.int .i64 0), .d (.int .i64 0), .d (.int .i64 0), .d (.int .i64 0), .d (.int .i64 0), .xsl [], .xsl [], .d (.int .i64 0), .d (.bool false), .d (.int .i64 0), .d (.int .i64 0), .d (.int .i64 0), .xsl [], .d (.int .i64 0), .d (.int .i64 0), .d (.int .i64 0), .d (.int .i64 0), .d (.int .i64 0), .d (.int .i64 0), .d (.int .i64 0), .d (.int .i64 0), .d (.int .i64 0), .d (.int .i64 0), .xsl [], .d (.int .i64 0), .d (.int .i64 0), .d (.int .i64 0), .d (.int .i64 0), .d (.int .i64 0), .d (.int .i64 0), .d (.int .i64 0), .d (.int .i64 0), .xsl [], .d (.int .i64 0), .xsl [], .xsl [], .d (.int .i64 0), .xsl [], .xsl [], .xsl [], .d (.int .i64 0), .xsl [], .xsl [], .xsl [], .xsl [], .d (.int .i64 0), .xsl [], .d (.int .i64 0), .xsl [], .xsl [], .d (.int .i64 0), .d (.int .i64 0), .d (.int .i64 0), .d (.int .i64 0), .d (.int .i64 0), .d (.int .i64 0), .d (.int .i64 0), .d (.int .i64 0), .d (.int .i64 0), .xsl [], .xsl []] [], none⟩, ⟨some 39, .mv (.t 12), none⟩, ⟨none, .st 63 (.t 8) (.t 38), none⟩, ⟨some 9, .mv (.t 39), none⟩] [0, 3, 5, 6, 12, 37, 38, 39])
 (.ret [8, 9])) .skip)))
 (.seq (.ops [] [⟨some 40, .mv (.t 0), none⟩, ⟨some 41, .ld true 8 (.t 5), none⟩, ⟨some 42, .ld true 8 (.t 6), none⟩, ⟨some 43, .mv (.t 3), none⟩, ⟨some 44, .build [.d (.int .i64 0), .d (.int .i64 0), .d (.int .i64 0), .d (.int .i64 0), .d (.int .i64 0), .d (.int .i64 0), .d (.int .i64 0), .xsl [], .xsl [], .d (.int .i64 0), .d (.bool false), .d (.int .i64 0), .d (.int .i64 0), .d (.int .i64 0), .xsl [], .d (.int .i64 0), .d (.int .i64 0), .d (.int .i64 0), .d (.int .i64 0), .d (.int .i64 0), .d (.int .i64 0), .d (.int .i64 0), .d (.int .i64 0), .d (.int .i64 0), .d (.int .i64 0), .xsl [], .d (.int .i64 0), .d (.int .i64 0), .d (.int .i64 0), .d (.int .i64 0), .d (.int .i64 0), .d (.int .i64 0), .d (.int .i64 0), .d (.int .i64 0), .xsl [], .d (.int .i64 0), .xsl [], .xsl [], .d (.int .i64 0), .xsl [], .xsl [], .xsl [], .d (.int .i64 0), .xsl [], .xsl [], .xsl [], .xsl [], .d (.int .i64 0), .xsl [], .d (.int .i64 0), .xsl [], .xsl [], .d (.int .i64 0), .d (.int .i64 0), .d (.int .i64 0), .d (.int .i64 0), .d (.int .i64 0), .d (.int .i64 0), .d (.int .i64 0), .d (.int .i64 0), .d (.int .i64 0), .xsl [], .xsl []] [(0, (1, .t 40)), (1, (8, .t 41)), (15, (8, .t 42)), (9, (1, .t 43))], none⟩, ⟨none, .st 63 (.t 8) (.t 44), none⟩, ⟨some 9, .mv (.c (.d (.int .i64 0))), none⟩] [0, 3, 5, 6, 12, 37, 40, 41, 42, 43, 44])
 (.ret [8, 9]))))))
def r_ref17_Start : List ARes := [.c 8 true 63, .t 9]
def fn_ref17_Start : AFn := .code c_ref17_Start r_ref17_Start 45 true
/- shardqueue/shardqueueref12.New -/
def l_ref12_New_0 : ACode :=
 (.seq (.seq (.ops [] [⟨some 75, .mv (.t 7), none⟩, ⟨some 76, .fad false 0 1 (.t 1), none⟩, ⟨some 77, .ld false 1 (.t 76), none⟩, ⟨some 78, .bin .lss (.t 75) (.t 77), none⟩] [75, 76, 77])
 (.cond (.t 78) .skip (.exit 0 [1, 2, 6])))
 (.seq (.block 1 (.seq (.ops [] [⟨some 82, .fad false 2 1 (.t 1), none⟩, ⟨some 83, .ld false 1 (.t 82), none⟩, ⟨some 84, .call N_ref07_Free [] [.t 83], none⟩, ⟨some 81, .mv (.t 84), none⟩, ⟨some 85, .ext (.t 81) 0, none⟩, ⟨some 86, .ext (.t 81) 1, none⟩, ⟨some 8, .alloc (.agg [.d (.bool false), .d (.int .i64 0), .d (.int .i64 0), .xsl [], .d (.int .i64 0), .d (.int .i64 0), .xsl [], .xsl []]), none⟩, ⟨none, .st 8 (.t 8) (.t 85), none⟩, ⟨some 9, .mv (.t 86), none⟩] [9, 78, 81, 82, 83, 84, 85, 86])
 (.seq (.seq (.ops [] [⟨some 87, .mv (.t 7), none⟩, ⟨some 88, .fad false 1 1 (.t 1), none⟩, ⟨some 89, .ld false 1 (.t 88), none⟩, ⟨some 90, .bin .lss (.t 87) (.t 89), none⟩] [87, 88, 89])
 (.cond (.t 90) (.draw [] [⟨some 92, .fad false 2 1 (.t 1), none⟩, ⟨some 93, .ld false 1 (.t 92), none⟩, ⟨some 94, .fad false 1 1 (.t 4), none⟩, ⟨some 95, .ld false 1 (.t 94), none⟩, ⟨some 96, .mv (.t 7), none⟩, ⟨some 97, .iad 3 (.t 95) (.t 96), none⟩, ⟨some 98, .fad false 0 1 (.t 97), none⟩, ⟨some 99, .ld false 1 (.t 98), none⟩, ⟨some 100, .fad false 1 1 (.t 4), none⟩, ⟨some 101, .ld false 1 (.t 100), none⟩, ⟨some 102, .mv (.t 7), none⟩, ⟨some 103, .iad 3 (.t 101) (.t 102), none⟩, ⟨some 104, .fad false 1 1 (.t 103), none⟩, ⟨some 105, .ld false 1 (.t 104), none⟩, ⟨some 106, .call N_ref07_New [] [.t 93, .t 99, .t 105], none⟩, ⟨some 91, .mv (.t 106), none⟩, ⟨some 107, .ext (.t 91) 0, none⟩, ⟨some 108, .ext (.t 91) 1, none⟩, ⟨none, .st 8 (.t 8) (.t 107), none⟩] [[], [], [0, 1], [0, 1], [0, 1, 2, 3], [0, 1], [0, 1], [0, 1], [0, 1, 2, 3, 4, 5, 6, 7], [0, 1, 2, 3, 4, 5, 6, 7], [0, 1, 2, 3, 4, 5, 6, 7, 8, 9], [0, 1, 2, 3, 4, 5, 6, 7], [0, 1, 2, 3, 4, 5, 6, 7], [0, 1, 2, 3, 4, 5, 6, 7], [], [], [], [16], [17]] [90, 91, 92, 93, 94, 95, 96, 97, 98, 99, 100, 101, 102, 103, 104, 105, 106, 107, 108]) .skip))
 (.seq (.ops [] [⟨some 109, .fad false 0 1 (.t 6), none⟩, ⟨some 110, .ld false 1 (.t 109), none⟩, ⟨some 111, .ld true 8 (.t 8), none⟩, ⟨some 112, .build [.d (.int .i64 0), .d (.bool false), .d (.int .i64 0), .d (.int .i64 0), .xsl [], .d (.int .i64 0), .d (.int .i64 0), .xsl [], .xsl []] [(1, (8, .t 111))], none⟩, ⟨some 113, .bsl 1 9 (.agg [.d (.int .i64 0), .d (.bool false), .d (.int .i64 0), .d (.int .i64 0), .xsl [], .d (.int .i64 0), .d (.int .i64 0), .xsl [], .xsl []]) [(0, .t 112)], none⟩, ⟨some 114, .app 9 (.t 110) (.t 113), none⟩, ⟨some 115, .fad false 0 1 (.t 6), none⟩, ⟨none, .st 1 (.t 115) (.t 114), none⟩] [8, 90, 109, 110, 111, 112, 113, 114, 115])
 (.ops [] [⟨some 116, .fad false 1 1 (.t 6), none⟩, ⟨some 117, .ld false 1 (.t 116), none⟩, ⟨some 118, .fad false 7 1 (.t 1), none⟩, ⟨some 119, .ld false 1 (.t 118), none⟩, ⟨some 120, .build [.d (.int .i64 0), .d (.int .i64 0), .d (.int .i64 0), .d (.int .i64 0)] [(1, (1, .t 119))], none⟩, ⟨some 121, .bsl 1 4 (.d (.agg [.int .i64 0, .int .i64 0, .int .i64 0, .int .i64 0])) [(0, .t 120)], none⟩, ⟨some 122, .app 4 (.t 117) (.t 121), none⟩, ⟨some 123, .fad false 1 1 (.t 6), none⟩, ⟨none, .st 1 (.t 123) (.t 122), none⟩] [116, 117, 118, 119, 120, 121, 122, 123])))))
 (.ops [] [⟨some 79, .mv (.t 7), none⟩, ⟨some 80, .bin .add (.t 79) (.c (.d (.int .i64 1))), none⟩, ⟨some 7, .mv (.t 80), none⟩] [79, 80])))
def c_ref12_New : ACode :=
 (.seq (.ops [] [⟨some 1, .box (.t 0), none⟩, ⟨some 2, .alloc (.agg [.xsl [], .xsl [], .d (.int .i64 0), .d (.int .i64 0), .xsl [], .d (.int .i64 0), .xsl [], .xsl [], .d (.int .i64 0), .d (.int .i64 0), .d (.int .i64 0)]), none⟩, ⟨some 3, .mv (.c (.d (.int .i64 0))), none⟩] [0, 3])
 (.seq (.seq (.ops [] [⟨some 10, .fad false 0 1 (.t 1), none⟩, ⟨some 11, .ld false 1 (.t 10), none⟩, ⟨some 12, .call N_ref12_in [] [.t 11, .c (.d (.int .i64 1)), .c (.d (.int .i64 6))], none⟩, ⟨some 13, .un .not (.t 12), none⟩, ⟨some 14, .mv (.t 13), none⟩, ⟨some 15, .fad false 1 1 (.t 1), some (14, false)⟩, ⟨some 16, .ld false 1 (.t 15), some (14, false)⟩, ⟨some 17, .fad false 0 1 (.t 1), some (14, false)⟩, ⟨some 18, .ld false 1 (.t 17), some (14, false)⟩, ⟨some 19, .call N_ref12_in [] [.t 16, .c (.d (.int .i64 1)), .t 18], some (14, false)⟩, ⟨some 20, .un .not (.t 19), some (14, false)⟩, ⟨some 21, .pick (.t 14) (.c (.d (.bool true))) (.t 20), none⟩, ⟨some 22, .mv (.t 21), none⟩, ⟨some 23, .fad false 2 1 (.t 1), some (22, false)⟩, ⟨some 24, .ld false 1 (.t 23), some (22, false)⟩, ⟨some 25, .call N_ref12_in [] [.t 24, .c (.d (.int .i64 1)), .c (.d (.int .i64 12))], some (22, false)⟩, ⟨some 26, .un .not (.t 25), some (22, false)⟩, ⟨some 27, .pick (.t 22) (.c (.d (.bool true))) (.t 26), none⟩, ⟨some 28, .mv (.t 27), none⟩, ⟨some 29, .fad false 3 1 (.t 1), some (28, false)⟩, ⟨some 30, .ld false 1 (.t 29), some (28, false)⟩, ⟨some 31, .call N_ref12_in [] [.t 30, .c (.d (.int .i64 1)), .c (.d (.int .i64 24))], some (28, false)⟩, ⟨some 32, .un .not (.t 31), some (28, false)⟩, ⟨some 33, .pick (.t 28) (.c (.d (.bool true))) (.t 32), none⟩, ⟨some 34, .mv (.t 33), none⟩, ⟨some 35, .fad false 4 1 (.t 1), some (34, false)⟩, ⟨some 36, .ld false 1 (.t 35), some (34, false)⟩, ⟨some 37, .call N_ref12_in [] [.t 36, .c (.d (.int .i64 1)), .c (.d (.int .i64 8))], some (34, false)⟩, ⟨some 38, .un .not (.t 37), some (34, false)⟩, ⟨some 39, .pick (.t 34) (.c (.d (.bool true))) (.t 38), none⟩, ⟨some 40, .mv (.t 39), none⟩, ⟨some 41, .fad false 5 1 (.t 1), some (40, false)⟩, ⟨some 42, .ld false 1 (.t 41), some (40, false)⟩, ⟨some 43, .call N_ref12_in [] [.t 42, .c (.d (.int .i64 0)), .c (.d (.int .i64 1073741824))], some (40, false)⟩, ⟨some 44, .un .not (.t 43), some (40, false)⟩, ⟨some 45, .pick (.t 40) (.c (.d (.bool true))) (.t 44), none⟩, ⟨some 46, .mv (.t 45), none⟩, ⟨some 47, .fad false 6 1 (.t 1), some (46, false)⟩, ⟨some 48, .ld false 1 (.t 47), some (46, false)⟩, ⟨some 49, .call N_ref12_in [] [.t 48, .c (.d (.int .i64 1)), .c (.d (.int .i64 1073741824))], some (46, false)⟩, ⟨some 50, .un .not (.t 49), some (46, false)⟩, ⟨some 51, .pick (.t 46) (.c (.d (.bool true))) (.t 50), none⟩, ⟨some 52, .mv (.t 51), none⟩, ⟨some 53, .fad false 7 1 (.t 1), some (52, false)⟩, ⟨some 54, .ld false 1 (.t 53), some (52, false)⟩, ⟨some 55, .call N_ref12_in [] [.t 54, .c (.d (.int .i64 0)), .c (.d (.int .i64 65536))], some (52, false)⟩, ⟨some 56, .un .not (.t 55), some (52, false)⟩, ⟨some 57, .pick (.t 52) (.c (.d (.bool true))) (.t 56), none⟩] [10, 11, 12, 13, 14, 15, 16, 17, 18, 19, 20, 21, 22, 23, 24, 25, 26, 27, 28, 29, 30, 31, 32, 33, 34, 35, 36, 37, 38, 39, 40, 41, 42, 43, 44, 45, 46, 47, 48, 49, 50, 51, 52, 53, 54, 55, 56])
 (.cond (.t 57) (.seq (.ops [] [⟨some 58, .build [.xsl [], .xsl [], .d (.int .i64 0), .d (.int .i64 0), .xsl [], .d (.int .i64 0), .xsl [], .xsl [], .d (.int .i64 0), .d (.int .i64 0), .d (.int .i64 0)] [], none⟩, ⟨none, .st 11 (.t 2) (.t 58), none⟩, ⟨some 3, .mv (.c (.d (.int .i64 1))), none⟩] [1, 57, 58])
 (.ret [2, 3])) .skip))
 (.seq (.ops [] [⟨some 60, .fad false 0 1 (.t 1), none⟩, ⟨some 61, .ld false 1 (.t 60), none⟩, ⟨some 62, .fad false 1 1 (.t 1), none⟩, ⟨some 63, .ld false 1 (.t 62), none⟩, ⟨some 64, .call N_ref10_New [] [.t 61, .t 63], none⟩, ⟨some 59, .mv (.t 64), none⟩, ⟨some 65, .ext (.t 59) 0, none⟩, ⟨some 66, .ext (.t 59) 1, none⟩, ⟨some 4, .alloc (.agg [.d (.int .i64 0), .xsl [], .xsl []]), none⟩, ⟨none, .st 3 (.t 4) (.t 65), none⟩, ⟨some 5, .mv (.t 66), none⟩] [5, 57, 59, 60, 61, 62, 63, 64, 65, 66])
 (.seq (.ops [] [⟨some 67, .ld true 3 (.t 4), none⟩, ⟨some 68, .fad false 7 1 (.t 1), none⟩, ⟨some 69, .ld false 1 (.t 68), none⟩, ⟨some 70, .fad false 5 1 (.t 1), none⟩, ⟨some 71, .ld false 1 (.t 70), none⟩, ⟨some 72, .fad false 6 1 (.t 1), none⟩, ⟨some 73, .ld false 1 (.t 72), none⟩, ⟨some 74, .build [.xsl [], .xsl [], .d (.int .i64 0), .d (.int .i64 0), .xsl [], .d (.int .i64 0), .xsl [], .xsl [], .d (.int .i64 0), .d (.int .i64 0), .d (.int .i64 0)] [(5, (3, .t 67)), (8, (1, .t 69)), (9, (1, .t 71)), (10, (1, .t 73))], none⟩, ⟨some 6, .alloc (.agg [.xsl [], .xsl [], .d (.int .i64 0), .d (.int .i64 0), .xsl [], .d (.int .i64 0), .xsl [], .xsl [], .d (.int .i64 0), .d (.int .i64 0), .d (.int .i64 0)]), none⟩, ⟨none, .st 11 (.t 6) (.t 74), none⟩] [67, 68, 69, 70, 71, 72, 73, 74])
 (.seq (.seq (.ops [] [⟨some 7, .mv (.c (.d (.int .i64 0))), none⟩] [])
 (.block 0 (.loop [] l_ref12_New_0)))
 (.seq (.ops [] [⟨some 125, .fad false 3 1 (.t 1), none⟩, ⟨some 126, .ld false 1 (.t 125), none⟩, ⟨some 127, .call N_ref08_New [] [.t 126], none⟩, ⟨some 124, .mv (.t 127), none⟩, ⟨some 128, .ext (.t 124) 0, none⟩, ⟨some 129, .ext (.t 124) 1, none⟩, ⟨some 130, .fad true 2 3 (.t 6), none⟩, ⟨some 131, .fad true 1 2 (.t 130), none⟩, ⟨none, .st 2 (.t 131) (.t 128), none⟩] [1, 4, 7, 78, 124, 125, 126, 127, 128, 129, 130, 131])
 (.seq (.ops [] [⟨some 132, .ld true 11 (.t 6), none⟩, ⟨none, .st 11 (.t 2) (.t 132), none⟩, ⟨some 3, .mv (.c (.d (.int .i64 0))), none⟩] [6, 132])
 (.ret [2, 3]))))))))
def r_ref12_New : List ARes := [.c 2 true 11, .t 3]
def fn_ref12_New : AFn := .code c_ref12_New r_ref12_New 133 true
/- shardqueue/shardqueueref12.in -/
def c_ref12_in : ACode :=
 (.seq (.ops [] [⟨some 6, .mv (.c (.d (.bool false))), none⟩] [6])
 (.seq (.ops [] [⟨some 7, .mv (.t 0), none⟩, ⟨some 8, .mv (.t 1), none⟩, ⟨some 9, .bin .geq (.t 7) (.t 8), none⟩, ⟨some 10, .mv (.t 9), none⟩, ⟨some 11, .mv (.t 0), some (10, true)⟩, ⟨some 12, .mv (.t 2), some (10, true)⟩, ⟨some 13, .bin .leq (.t 11) (.t 12), some (10, true)⟩, ⟨some 14, .pick (.t 10) (.t 13) (.c (.d (.bool false))), none⟩, ⟨some 6, .mv (.t 14), none⟩] [0, 1, 2, 7, 8, 9, 10, 11, 12, 13, 14])
 (.ret [6])))
def r_ref12_in : List ARes := [.t 6]
def fn_ref12_in : AFn := .code c_ref12_in r_ref12_in 15 true
/- shardqueue/shardqueueref10.New -/
def l_ref10_New_0 : ACode :=
 (.seq (.seq (.ops [] [⟨some 22, .mv (.t 7), none⟩, ⟨some 23, .mv (.t 1), none⟩, ⟨some 24, .bin .lss (.t 22) (.t 23), none⟩] [22, 23])
 (.cond (.t 24) .skip (.exit 0 [0, 4, 6])))
 (.seq (.block 1 (.draw [] [⟨some 27, .fad false 1 1 (.t 6), none⟩, ⟨some 28, .ld false 1 (.t 27), none⟩, ⟨some 29, .mv (.t 7), none⟩, ⟨some 30, .bin .mul (.t 29) (.c (.d (.int .i64 65536))), none⟩, ⟨some 31, .mv (.t 1), none⟩, ⟨some 32, .bin .quo (.t 30) (.t 31), none⟩, ⟨some 33, .mv (.t 7), none⟩, ⟨some 34, .bin .add (.t 33) (.c (.d (.int .i64 1))), none⟩, ⟨some 35, .bin .mul (.t 34) (.c (.d (.int .i64 65536))), none⟩, ⟨some 36, .mv (.t 1), none⟩, ⟨some 37, .bin .quo (.t 35) (.t 36), none⟩, ⟨some 38, .bin .sub (.t 37) (.c (.d (.int .i64 1))), none⟩, ⟨some 39, .mv (.t 7), none⟩, ⟨some 40, .build [.d (.int .i64 0), .d (.int .i64 0), .d (.int .i64 0)] [(0, (1, .t 32)), (1, (1, .t 38)), (2, (1, .t 39))], none⟩, ⟨some 41, .bsl 1 3 (.d (.agg [.int .i64 0, .int .i64 0, .int .i64 0])) [(0, .t 40)], none⟩, ⟨some 42, .app 3 (.t 28) (.t 41), none⟩, ⟨some 43, .fad false 1 1 (.t 6), none⟩, ⟨none, .st 1 (.t 43) (.t 42), none⟩] [[], [], [0, 1], [0, 1], [0, 1, 2, 3], [0, 1], [0, 1, 2, 3, 4, 5], [0, 1, 2, 3, 4, 5], [0, 1, 2, 3, 4, 5], [0, 1, 2, 3, 4, 5, 6, 7, 8], [0, 1, 2, 3, 4, 5], [0, 1, 2, 3, 4, 5], [0, 1, 2, 3, 4, 5, 6, 7, 8, 9, 10, 11], [0, 1], [0, 1], [], [], []] [24, 27, 28, 29, 30, 31, 32, 33, 34, 35, 36, 37, 38, 39, 40, 41, 42, 43]))
 (.ops [4000042] [⟨some 25, .mv (.t 7), none⟩, ⟨some 26, .bin .add (.t 25) (.c (.d (.int .i64 1))), none⟩, ⟨some 7, .mv (.t 26), none⟩] [25, 26])))
def l_ref10_New_1 : ACode :=
 (.seq (.seq (.ops [] [⟨some 44, .mv (.t 8), none⟩, ⟨some 45, .mv (.t 0), none⟩, ⟨some 46, .bin .lss (.t 44) (.t 45), none⟩] [44, 45])
 (.cond (.t 46) .skip (.exit 2 [4, 6])))
 (.seq (.block 3 (.ops [] [⟨some 49, .fad false 2 1 (.t 6), none⟩, ⟨some 50, .ld false 1 (.t 49), none⟩, ⟨some 51, .bsl 1 1 (.d (.int .i64 0)) [(0, .c (.d (.int .i64 (-1))))], none⟩, ⟨some 52, .app 1 (.t 50) (.t 51), none⟩, ⟨some 53, .fad false 2 1 (.t 6), none⟩, ⟨none, .st 1 (.t 53) (.t 52), none⟩] [46, 49, 50, 51, 52, 53]))
 (.ops [] [⟨some 47, .mv (.t 8), none⟩, ⟨some 48, .bin .add (.t 47) (.c (.d (.int .i64 1))), none⟩, ⟨some 8, .mv (.t 48), none⟩] [47, 48])))
def c_ref10_New : ACode :=
 (.seq (.ops [] [⟨some 4, .alloc (.agg [.d (.int .i64 0), .xsl [], .xsl []]), none⟩, ⟨some 5, .mv (.c (.d (.int .i64 0))), none⟩] [5])
 (.seq (.seq (.ops [] [⟨some 9, .mv (.t 1), none⟩, ⟨some 10, .bin .lss (.t 9) (.c (.d (.int .i64 1))), none⟩, ⟨some 11, .mv (.t 10), none⟩, ⟨some 12, .mv (.t 1), some (11, false)⟩, ⟨some 13, .mv (.t 0), some (11, false)⟩, ⟨some 14, .bin .gtr (.t 12) (.t 13), some (11, false)⟩, ⟨some 15, .pick (.t 11) (.c (.d (.bool true))) (.t 14), none⟩, ⟨some 16, .mv (.t 15), none⟩, ⟨some 17, .mv (.t 0), some (16, false)⟩, ⟨some 18, .bin .gtr (.t 17) (.c (.d (.int .i64 6))), some (16, false)⟩, ⟨some 19, .pick (.t 16) (.c (.d (.bool true))) (.t 18), none⟩] [9, 10, 11, 12, 13, 14, 15, 16, 17, 18])
 (.cond (.t 19) (.seq (.ops [] [⟨some 20, .build [.d (.int .i64 0), .xsl [], .xsl []] [], none⟩, ⟨none, .st 3 (.t 4) (.t 20), none⟩, ⟨some 5, .mv (.c (.d (.int .i64 1))), none⟩] [0, 1, 19, 20])
 (.ret [4, 5])) .skip))
 (.seq (.ops [] [⟨some 21, .build [.d (.int .i64 0), .xsl [], .xsl []] [(0, (1, .c (.d (.int .i64 1))))], none⟩, ⟨some 6, .alloc (.agg [.d (.int .i64 0), .xsl [], .xsl []]), none⟩, ⟨none, .st 3 (.t 6) (.t 21), none⟩] [19, 21])
 (.seq (.seq (.ops [] [⟨some 7, .mv (.c (.d (.int .i64 0))), none⟩] [])
 (.block 0 (.loop [] l_ref10_New_0)))
 (.seq (.seq (.ops [] [⟨some 8, .mv (.c (.d (.int .i64 0))), none⟩] [1, 7, 24])
 (.block 2 (.loop [] l_ref10_New_1)))
 (.seq (.ops [] [⟨some 54, .ld true 3 (.t 6), none⟩, ⟨none, .st 3 (.t 4) (.t 54), none⟩, ⟨some 5, .mv (.c (.d (.int .i64 0))), none⟩] [0, 6, 8, 46, 54])
 (.ret [4, 5])))))))
def r_ref10_New : List ARes := [.c 4 true 3, .t 5]
def fn_ref10_New : AFn := .code c_ref10_New r_ref10_New 55 true
/- shardqueue/shardqueueref07.Free -/
def c_ref07_Free : ACode :=
 (.seq (.ops [] [⟨some 2, .alloc (.agg [.d (.bool false), .d (.int .i64 0), .d (.int .i64 0), .xsl [], .d (.int .i64 0), .d (.int .i64 0), .xsl [], .xsl []]), none⟩, ⟨some 3, .mv (.c (.d (.int .i64 0))), none⟩] [3])
 (.seq (.ops [] [⟨some 7, .mv (.t 0), none⟩, ⟨some 8, .call N_ref04_New [] [.t 7], none⟩, ⟨some 6, .mv (.t 8), none⟩, ⟨some 9, .ext (.t 6) 0, none⟩, ⟨some 10, .ext (.t 6) 1, none⟩, ⟨some 4, .alloc (.agg [.xsl [], .d (.int .i64 0), .d (.int .i64 0)]), none⟩, ⟨none, .st 3 (.t 4) (.t 9), none⟩, ⟨some 5, .mv (.t 10), none⟩] [0, 6, 7, 8, 9, 10])
 (.seq (.seq (.ops [] [⟨some 11, .mv (.t 5), none⟩, ⟨some 12, .bin .neq (.t 11) (.c (.d (.int .i64 0))), none⟩] [11])
 (.cond (.t 12) (.seq (.ops [] [⟨some 13, .build [.d (.bool false), .d (.int .i64 0), .d (.int .i64 0), .xsl [], .d (.int .i64 0), .d (.int .i64 0), .xsl [], .xsl []] [], none⟩, ⟨some 14, .mv (.t 5), none⟩, ⟨none, .st 8 (.t 2) (.t 13), none⟩, ⟨some 3, .mv (.t 14), none⟩] [4, 5, 12, 13, 14])
 (.ret [2, 3])) .skip))
 (.seq (.ops [] [⟨some 15, .ld true 3 (.t 4), none⟩, ⟨some 16, .build [.d (.bool false), .d (.int .i64 0), .d (.int .i64 0), .xsl [], .d (.int .i64 0), .d (.int .i64 0), .xsl [], .xsl []] [(3, (3, .t 15))], none⟩, ⟨none, .st 8 (.t 2) (.t 16), none⟩, ⟨some 3, .mv (.c (.d (.int .i64 0))), none⟩] [4, 5, 12, 15, 16])
 (.ret [2, 3])))))
def r_ref07_Free : List ARes := [.c 2 true 8, .t 3]
def fn_ref07_Free : AFn := .code c_ref07_Free r_ref07_Free 17 true
/- shardqueue/shardqueueref04.New -/
def c_ref04_New : ACode :=
 (.seq (.ops [] [⟨some 2, .alloc (.agg [.xsl [], .d (.int .i64 0), .d (.int .i64 0)]), none⟩, ⟨some 3, .mv (.c (.d (.int .i64 0))), none⟩] [3])
 (.seq (.seq (.ops [] [⟨some 4, .mv (.t 0), none⟩, ⟨some 5, .bin .lss (.t 4) (.c (.d (.int .i64 1))), none⟩, ⟨some 6, .mv (.t 5), none⟩, ⟨some 7, .mv (.t 0), some (6, false)⟩, ⟨some 8, .bin .gtr (.t 7) (.c (.d (.int .i64 12))), some (6, false)⟩, ⟨some 9, .pick (.t 6) (.c (.d (.bool true))) (.t 8), none⟩] [4, 5, 6, 7, 8])
 (.cond (.t 9) (.seq (.ops [] [⟨some 10, .build [.xsl [], .d (.int .i64 0), .d (.int .i64 0)] [], none⟩, ⟨none, .st 3 (.t 2) (.t 10), none⟩, ⟨some 3, .mv (.c (.d (.int .i64 1))), none⟩] [0, 9, 10])
 (.ret [2, 3])) .skip))
 (.seq (.ops [] [⟨some 11, .mv (.t 0), none⟩, ⟨some 12, .mks 7 (.d (.agg [.int .i64 0, .int .i64 0, .int .i64 0, .int .i64 0, .int .i64 0, .int .i64 0, .str []])) (.t 11) (.t 11), none⟩, ⟨some 13, .build [.xsl [], .d (.int .i64 0), .d (.int .i64 0)] [(0, (1, .t 12))], none⟩, ⟨none, .st 3 (.t 2) (.t 13), none⟩, ⟨some 3, .mv (.c (.d (.int .i64 0))), none⟩] [0, 9, 11, 12, 13])
 (.ret [2, 3]))))
def r_ref04_New : List ARes := [.c 2 true 3, .t 3]
def fn_ref04_New : AFn := .code c_ref04_New r_ref04_New 14 true
/- shardqueue/shardqueueref07.New -/
def c_ref07_New : ACode :=
 (.seq (.ops [] [⟨some 6, .alloc (.agg [.d (.bool false), .d (.int .i64 0), .d (.int .i64 0), .xsl [], .d (.int .i64 0), .d (.int .i64 0), .xsl [], .xsl []]), none⟩, ⟨some 7, .mv (.c (.d (.int .i64 0))), none⟩] [7])
 (.seq (.ops [] [⟨some 11, .mv (.t 0), none⟩, ⟨some 12, .call N_ref04_New [] [.t 11], none⟩, ⟨some 10, .mv (.t 12), none⟩, ⟨some 13, .ext (.t 10) 0, none⟩, ⟨some 14, .ext (.t 10) 1, none⟩, ⟨some 8, .alloc (.agg [.xsl [], .d (.int .i64 0), .d (.int .i64 0)]), none⟩, ⟨none, .st 3 (.t 8) (.t 13), none⟩, ⟨some 9, .mv (.t 14), none⟩] [0, 10, 11, 12, 13, 14])
 (.seq (.seq (.ops [] [⟨some 15, .mv (.t 9), none⟩, ⟨some 16, .bin .neq (.t 15) (.c (.d (.int .i64 0))), none⟩] [15])
 (.cond (.t 16) (.seq (.ops [] [⟨some 17, .build [.d (.bool false), .d (.int .i64 0), .d (.int .i64 0), .xsl [], .d (.int .i64 0), .d (.int .i64 0), .xsl [], .xsl []] [], none⟩, ⟨some 18, .mv (.t 9), none⟩, ⟨none, .st 8 (.t 6) (.t 17), none⟩, ⟨some 7, .mv (.t 18), none⟩] [1, 2, 8, 9, 16, 17, 18])
 (.ret [6, 7])) .skip))
 (.seq (.seq (.ops [] [⟨some 19, .mv (.t 1), none⟩, ⟨some 20, .mv (.t 2), none⟩, ⟨some 21, .call N_ref07_span [] [.t 19, .t 20], none⟩, ⟨some 22, .un .not (.t 21), none⟩] [9, 16, 19, 20, 21])
 (.cond (.t 22) (.seq (.ops [] [⟨some 23, .build [.d (.bool false), .d (.int .i64 0), .d (.int .i64 0), .xsl [], .d (.int .i64 0), .d (.int .i64 0), .xsl [], .xsl []] [], none⟩, ⟨none, .st 8 (.t 6) (.t 23), none⟩, ⟨some 7, .mv (.c (.d (.int .i64 1))), none⟩] [1, 2, 8, 22, 23])
 (.ret [6, 7])) .skip))
 (.seq (.ops [] [⟨some 24, .mv (.t 1), none⟩, ⟨some 25, .mv (.t 2), none⟩, ⟨some 26, .ld true 3 (.t 8), none⟩, ⟨some 27, .build [.d (.bool false), .d (.int .i64 0), .d (.int .i64 0), .xsl [], .d (.int .i64 0), .d (.int .i64 0), .xsl [], .xsl []] [(0, (1, .c (.d (.bool true)))), (1, (1, .t 24)), (2, (1, .t 25)), (3, (3, .t 26))], none⟩, ⟨none, .st 8 (.t 6) (.t 27), none⟩, ⟨some 7, .mv (.c (.d (.int .i64 0))), none⟩] [1, 2, 8, 22, 24, 25, 26, 27])
 (.ret [6, 7]))))))
def r_ref07_New : List ARes := [.c 6 true 8, .t 7]
def fn_ref07_New : AFn := .code c_ref07_New r_ref07_New 28 true
/- shardqueue/shardqueueref07.span -/
def c_ref07_span : ACode :=
 (.seq (.ops [] [⟨some 4, .mv (.c (.d (.bool false))), none⟩] [4])
 (.seq (.ops [] [⟨some 5, .mv (.t 0), none⟩, ⟨some 6, .bin .geq (.t 5) (.c (.d (.int .i64 0))), none⟩, ⟨some 7, .mv (.t 6), none⟩, ⟨some 8, .mv (.t 0), some (7, true)⟩, ⟨some 9, .mv (.t 1), some (7, true)⟩, ⟨some 10, .bin .leq (.t 8) (.t 9), some (7, true)⟩, ⟨some 11, .pick (.t 7) (.t 10) (.c (.d (.bool false))), none⟩, ⟨some 12, .mv (.t 11), none⟩, ⟨some 13, .mv (.t 1), some (12, true)⟩, ⟨some 14, .bin .lss (.t 13) (.c (.d (.int .i64 65536))), some (12, true)⟩, ⟨some 15, .pick (.t 12) (.t 14) (.c (.d (.bool false))), none⟩, ⟨some 4, .mv (.t 15), none⟩] [0, 1, 5, 6, 7, 8, 9, 10, 11, 12, 13, 14, 15])
 (.ret [4])))
def r_ref07_span : List ARes := [.t 4]
def fn_ref07_span : AFn := .code c_ref07_span r_ref07_span 16 true
/- shardqueue/shardqueueref08.New -/
def c_ref08_New : ACode :=
 (.seq (.ops [] [⟨some 2, .alloc (.agg [.d (.int .i64 0), .xsl []]), none⟩, ⟨some 3, .mv (.c (.d (.int .i64 0))), none⟩] [3])
 (.seq (.seq (.ops [] [⟨some 4, .mv (.t 0), none⟩, ⟨some 5, .bin .lss (.t 4) (.c (.d (.int .i64 1))), none⟩, ⟨some 6, .mv (.t 5), none⟩, ⟨some 7, .mv (.t 0), some (6, false)⟩, ⟨some 8, .bin .gtr (.t 7) (.c (.d (.int .i64 24))), some (6, false)⟩, ⟨some 9, .pick (.t 6) (.c (.d (.bool true))) (.t 8), none⟩] [4, 5, 6, 7, 8])
 (.cond (.t 9) (.seq (.ops [] [⟨some 10, .build [.d (.int .i64 0), .xsl []] [], none⟩, ⟨none, .st 2 (.t 2) (.t 10), none⟩, ⟨some 3, .mv (.c (.d (.int .i64 1))), none⟩] [0, 9, 10])
 (.ret [2, 3])) .skip))
 (.seq (.ops [] [⟨some 11, .mv (.t 0), none⟩, ⟨some 12, .build [.d (.int .i64 0), .xsl []] [(0, (1, .t 11))], none⟩, ⟨none, .st 2 (.t 2) (.t 12), none⟩, ⟨some 3, .mv (.c (.d (.int .i64 0))), none⟩] [0, 9, 11, 12])
 (.ret [2, 3]))))
def r_ref08_New : List ARes := [.c 2 true 2, .t 3]
def fn_ref08_New : AFn := .code c_ref08_New r_ref08_New 13 true
/- shardqueue/shardqueueref17.Validate -/
def l_ref17_Validate_0 : ACode :=
 (.seq (.seq (.ops [] [⟨some 24, .mv (.t 6), none⟩, ⟨some 25, .fad false 6 1 (.t 2), none⟩, ⟨some 26, .ld false 1 (.t 25), none⟩, ⟨some 27, .len (.t 26), none⟩, ⟨some 28, .bin .lss (.t 24) (.t 27), none⟩] [24, 25, 26, 27])
 (.cond (.t 28) .skip (.exit 1 [])))
 (.seq (.block 2 (.seq (.ops [] [⟨some 31, .fad false 6 1 (.t 2), none⟩, ⟨some 32, .ld false 1 (.t 31), none⟩, ⟨some 33, .mv (.t 6), none⟩, ⟨some 34, .iad 1 (.t 32) (.t 33), none⟩, ⟨some 35, .ld false 1 (.t 34), none⟩, ⟨some 36, .lens (.t 35), none⟩, ⟨some 37, .bin .gtr (.t 36) (.c (.d (.int .i64 16))), none⟩] [28, 31, 32, 33, 34, 35, 36])
 (.cond (.t 37) (.seq (.ops [] [⟨some 4, .mv (.c (.d (.int .i64 2))), none⟩] [2, 6, 37])
 (.ret [4])) .skip)))
 (.ops [] [⟨some 29, .mv (.t 6), none⟩, ⟨some 30, .bin .add (.t 29) (.c (.d (.int .i64 1))), none⟩, ⟨some 6, .mv (.t 30), none⟩] [29, 30, 37])))
def c_ref17_Validate : ACode :=
 (.seq (.ops [] [⟨some 2, .box (.t 0), none⟩, ⟨some 3, .box (.t 1), none⟩, ⟨some 4, .mv (.c (.d (.int .i64 0))), none⟩] [0, 1, 4])
 (.seq (.ops [] [⟨some 7, .fad false 0 1 (.t 3), none⟩, ⟨some 8, .ld false 1 (.t 7), none⟩, ⟨some 9, .bin .sub (.t 8) (.c (.d (.int .i64 1))), none⟩, ⟨some 5, .mv (.t 9), none⟩] [7, 8, 9])
 (.seq (.seq (.ops [] [⟨some 10, .fad false 0 1 (.t 2), none⟩, ⟨some 11, .ld false 1 (.t 10), none⟩] [10])
 (.block 0 (.seq (.ops [] [⟨some 13, .bin .eql (.t 11) (.c (.d (.int .i64 1))), none⟩, ⟨some 12, .mv (.t 13), none⟩] [13])
 (.cond (.t 12) (.seq (.seq (.ops [] [⟨some 14, .fad false 6 1 (.t 2), none⟩, ⟨some 15, .ld false 1 (.t 14), none⟩, ⟨some 16, .len (.t 15), none⟩, ⟨some 17, .bin .eql (.t 16) (.c (.d (.int .i64 0))), none⟩, ⟨some 18, .mv (.t 17), none⟩, ⟨some 19, .fad false 6 1 (.t 2), some (18, false)⟩, ⟨some 20, .ld false 1 (.t 19), some (18, false)⟩, ⟨some 21, .len (.t 20), some (18, false)⟩, ⟨some 22, .bin .gtr (.t 21) (.c (.d (.int .i64 6))), some (18, false)⟩, ⟨some 23, .pick (.t 18) (.c (.d (.bool true))) (.t 22), none⟩] [3, 5, 11, 12, 14, 15, 16, 17, 18, 19, 20, 21, 22])
 (.cond (.t 23) (.seq (.ops [] [⟨some 4, .mv (.c (.d (.int .i64 2))), none⟩] [2, 23])
 (.ret [4])) .skip))
 (.seq (.ops [] [⟨some 6, .mv (.c (.d (.int .i64 0))), none⟩] [23])
 (.block 1 (.loop [] l_ref17_Validate_0)))) (.seq (.seq (.ops [] [⟨some 39, .bin .eql (.t 11) (.c (.d (.int .i64 2))), none⟩, ⟨some 38, .mv (.t 39), none⟩] [12, 39])
 (.cond (.t 38) .skip (.ops [] [⟨some 40, .bin .eql (.t 11) (.c (.d (.int .i64 8))), none⟩, ⟨some 38, .mv (.t 40), none⟩] [40])))
 (.cond (.t 38) (.seq (.ops [] [⟨some 41, .fad false 1 1 (.t 2), none⟩, ⟨some 42, .ld false 1 (.t 41), none⟩, ⟨some 43, .mv (.t 5), none⟩, ⟨some 44, .call N_ref17_in [] [.t 42, .c (.d (.int .i64 0)), .t 43], none⟩, ⟨some 45, .un .not (.t 44), none⟩, ⟨some 46, .mv (.t 45), none⟩, ⟨some 47, .fad false 2 1 (.t 2), some (46, false)⟩, ⟨some 48, .ld false 1 (.t 47), some (46, false)⟩, ⟨some 49, .call N_ref17_in [] [.t 48, .c (.d (.int .i64 1)), .c (.d (.int .i64 6))], some (46, false)⟩, ⟨some 50, .un .not (.t 49), some (46, false)⟩, ⟨some 51, .pick (.t 46) (.c (.d (.bool true))) (.t 50), none⟩, ⟨some 52, .mv (.t 51), none⟩, ⟨some 53, .fad false 0 1 (.t 2), some (52, false)⟩, ⟨some 54, .ld false 1 (.t 53), some (52, false)⟩, ⟨some 55, .bin .eql (.t 54) (.c (.d (.int .i64 2))), some (52, false)⟩, ⟨some 56, .mv (.t 55), some (52, false)⟩, ⟨some 57, .fad false 3 1 (.t 2), some (56, true)⟩, ⟨some 58, .ld false 1 (.t 57), some (56, true)⟩, ⟨some 59, .call N_ref17_in [] [.t 58, .c (.d (.int .i64 0)), .c (.d (.int .i64 1000))], some (56, true)⟩, ⟨some 60, .un .not (.t 59), some (56, true)⟩, ⟨some 61, .pick (.t 56) (.t 60) (.c (.d (.bool false))), some (52, false)⟩, ⟨some 62, .pick (.t 52) (.c (.d (.bool true))) (.t 61), none⟩] [2, 3, 5, 11, 38, 41, 42, 43, 44, 45, 46, 47, 48, 49, 50, 51, 52, 53, 54, 55, 56, 57, 58, 59, 60, 61])
 (.cond (.t 62) (.seq (.ops [] [⟨some 4, .mv (.c (.d (.int .i64 1))), none⟩] [62])
 (.ret [4])) .skip)) (.seq (.seq (.ops [] [⟨some 64, .bin .eql (.t 11) (.c (.d (.int .i64 3))), none⟩, ⟨some 63, .mv (.t 64), none⟩] [38, 64])
 (.cond (.t 63) .skip (.seq (.ops [] [⟨some 65, .bin .eql (.t 11) (.c (.d (.int .i64 4))), none⟩, ⟨some 63, .mv (.t 65), none⟩] [65])
 (.cond (.t 63) .skip (.ops [] [⟨some 66, .bin .eql (.t 11) (.c (.d (.int .i64 5))), none⟩, ⟨some 63, .mv (.t 66), none⟩] [66])))))
 (.cond (.t 63) (.seq (.seq (.ops [] [⟨some 67, .fad false 7 1 (.t 2), none⟩, ⟨some 68, .ld false 1 (.t 67), none⟩, ⟨some 69, .len (.t 68), none⟩, ⟨some 70, .bin .eql (.t 69) (.c (.d (.int .i64 0))), none⟩, ⟨some 71, .mv (.t 70), none⟩, ⟨some 72, .fad false 7 1 (.t 2), some (71, false)⟩, ⟨some 73, .ld false 1 (.t 72), some (71, false)⟩, ⟨some 74, .len (.t 73), some (71, false)⟩, ⟨some 75, .bin .gtr (.t 74) (.c (.d (.int .i64 6))), some (71, false)⟩, ⟨some 76, .pick (.t 71) (.c (.d (.bool true))) (.t 75), none⟩] [3, 5, 11, 63, 67, 68, 69, 70, 71, 72, 73, 74, 75])
 (.cond (.t 76) (.seq (.ops [] [⟨some 4, .mv (.c (.d (.int .i64 2))), none⟩] [2, 76])
 (.ret [4])) .skip))
 (.seq (.ops [] [⟨some 77, .fad false 0 1 (.t 2), none⟩, ⟨some 78, .ld false 1 (.t 77), none⟩, ⟨some 79, .bin .eql (.t 78) (.c (.d (.int .i64 5))), none⟩, ⟨some 80, .mv (.t 79), none⟩, ⟨some 81, .fad false 3 1 (.t 2), some (80, true)⟩, ⟨some 82, .ld false 1 (.t 81), some (80, true)⟩, ⟨some 83, .call N_ref17_in [] [.t 82, .c (.d (.int .i64 0)), .c (.d (.int .i64 1000))], some (80, true)⟩, ⟨some 84, .un .not (.t 83), some (80, true)⟩, ⟨some 85, .pick (.t 80) (.t 84) (.c (.d (.bool false))), none⟩] [2, 76, 77, 78, 79, 80, 81, 82, 83, 84])
 (.cond (.t 85) (.seq (.ops [] [⟨some 4, .mv (.c (.d (.int .i64 1))), none⟩] [85])
 (.ret [4])) .skip))) (.seq (.seq (.ops [] [⟨some 87, .bin .eql (.t 11) (.c (.d (.int .i64 9))), none⟩, ⟨some 86, .mv (.t 87), none⟩] [63, 87])
 (.cond (.t 86) .skip (.seq (.ops [] [⟨some 88, .bin .eql (.t 11) (.c (.d (.int .i64 10))), none⟩, ⟨some 86, .mv (.t 88), none⟩] [88])
 (.cond (.t 86) .skip (.ops [] [⟨some 89, .bin .eql (.t 11) (.c (.d (.int .i64 11))), none⟩, ⟨some 86, .mv (.t 89), none⟩] [89])))))
 (.cond (.t 86) (.seq (.ops [] [⟨some 90, .fad false 4 1 (.t 2), none⟩, ⟨some 91, .ld false 1 (.t 90), none⟩, ⟨some 92, .mv (.t 5), none⟩, ⟨some 93, .call N_ref17_in [] [.t 91, .c (.d (.int .i64 0)), .t 92], none⟩, ⟨some 94, .un .not (.t 93), none⟩, ⟨some 95, .mv (.t 94), none⟩, ⟨some 96, .fad false 5 1 (.t 2), some (95, false)⟩, ⟨some 97, .ld false 1 (.t 96), some (95, false)⟩, ⟨some 98, .mv (.t 5), some (95, false)⟩, ⟨some 99, .call N_ref17_in [] [.t 97, .c (.d (.int .i64 0)), .t 98], some (95, false)⟩, ⟨some 100, .un .not (.t 99), some (95, false)⟩, ⟨some 101, .pick (.t 95) (.c (.d (.bool true))) (.t 100), none⟩, ⟨some 102, .mv (.t 101), none⟩, ⟨some 103, .fad false 4 1 (.t 2), some (102, false)⟩, ⟨some 104, .ld false 1 (.t 103), some (102, false)⟩, ⟨some 105, .fad false 5 1 (.t 2), some (102, false)⟩, ⟨some 106, .ld false 1 (.t 105), some (102, false)⟩, ⟨some 107, .bin .eql (.t 104) (.t 106), some (102, false)⟩, ⟨some 108, .pick (.t 102) (.c (.d (.bool true))) (.t 107), none⟩] [2, 3, 5, 11, 86, 90, 91, 92, 93, 94, 95, 96, 97, 98, 99, 100, 101, 102, 103, 104, 105, 106, 107])
 (.cond (.t 108) (.seq (.ops [] [⟨some 4, .mv (.c (.d (.int .i64 1))), none⟩] [108])
 (.ret [4])) .skip)) (.seq (.seq (.ops [] [⟨some 110, .bin .eql (.t 11) (.c (.d (.int .i64 12))), none⟩, ⟨some 109, .mv (.t 110), none⟩] [86, 110])
 (.cond (.t 109) .skip (.ops [] [⟨some 111, .bin .eql (.t 11) (.c (.d (.int .i64 14))), none⟩, ⟨some 109, .mv (.t 111), none⟩] [111])))
 (.cond (.t 109) (.seq (.ops [] [⟨some 112, .fad false 4 1 (.t 2), none⟩, ⟨some 113, .ld false 1 (.t 112), none⟩, ⟨some 114, .mv (.t 5), none⟩, ⟨some 115, .call N_ref17_in [] [.t 113, .c (.d (.int .i64 0)), .t 114], none⟩, ⟨some 116, .un .not (.t 115), none⟩] [2, 3, 5, 11, 109, 112, 113, 114, 115])
 (.cond (.t 116) (.seq (.ops [] [⟨some 4, .mv (.c (.d (.int .i64 1))), none⟩] [116])
 (.ret [4])) .skip)) (.seq (.ops [] [⟨some 118, .bin .eql (.t 11) (.c (.d (.int .i64 13))), none⟩, ⟨some 117, .mv (.t 118), none⟩] [5, 109, 118])
 (.cond (.t 117) (.seq (.ops [] [⟨some 119, .fad false 4 1 (.t 2), none⟩, ⟨some 120, .ld false 1 (.t 119), none⟩, ⟨some 121, .bin .lss (.t 120) (.c (.d (.int .i64 0))), none⟩, ⟨some 122, .mv (.t 121), none⟩, ⟨some 123, .fad false 4 1 (.t 2), some (122, false)⟩, ⟨some 124, .ld false 1 (.t 123), some (122, false)⟩, ⟨some 125, .fad false 0 1 (.t 3), some (122, false)⟩, ⟨some 126, .ld false 1 (.t 125), some (122, false)⟩, ⟨some 127, .bin .gtr (.t 124) (.t 126), some (122, false)⟩, ⟨some 128, .pick (.t 122) (.c (.d (.bool true))) (.t 127), none⟩] [2, 3, 11, 117, 119, 120, 121, 122, 123, 124, 125, 126, 127])
 (.cond (.t 128) (.seq (.ops [] [⟨some 4, .mv (.c (.d (.int .i64 1))), none⟩] [128])
 (.ret [4])) .skip)) (.seq (.seq (.ops [] [⟨some 130, .bin .eql (.t 11) (.c (.d (.int .i64 6))), none⟩, ⟨some 129, .mv (.t 130), none⟩] [2, 3, 117, 130])
 (.cond (.t 129) .skip (.ops [] [⟨some 131, .bin .eql (.t 11) (.c (.d (.int .i64 7))), none⟩, ⟨some 129, .mv (.t 131), none⟩] [11, 131])))
 (.cond (.t 129) .skip (.seq (.ops [] [⟨some 4, .mv (.c (.d (.int .i64 9))), none⟩] [11, 129])
 (.ret [4]))))))))))))))))))
 (.seq (.ops [] [⟨some 4, .mv (.c (.d (.int .i64 0))), none⟩] [2, 6, 11, 28, 62, 85, 108, 116, 128, 129])
 (.ret [4])))))
def r_ref17_Validate : List ARes := [.t 4]
def fn_ref17_Validate : AFn := .code c_ref17_Validate r_ref17_Validate 132 true
/- shardqueue/shardqueueref17.in -/
def c_ref17_in : ACode :=
 (.seq (.ops [] [⟨some 6, .mv (.c (.d (.bool false))), none⟩] [6])
 (.seq (.ops [] [⟨some 7, .mv (.t 0), none⟩, ⟨some 8, .mv (.t 1), none⟩, ⟨some 9, .bin .geq (.t 7) (.t 8), none⟩, ⟨some 10, .mv (.t 9), none⟩, ⟨some 11, .mv (.t 0), some (10, true)⟩, ⟨some 12, .mv (.t 2), some (10, true)⟩, ⟨some 13, .bin .leq (.t 11) (.t 12), some (10, true)⟩, ⟨some 14, .pick (.t 10) (.t 13) (.c (.d (.bool false))), none⟩, ⟨some 6, .mv (.t 14), none⟩] [0, 1, 2, 7, 8, 9, 10, 11, 12, 13, 14])
 (.ret [6])))
def r_ref17_in : List ARes := [.t 6]
def fn_ref17_in : AFn := .code c_ref17_in r_ref17_in 15 true
/- shardqueue/shardqueuelaw17.same -/
def c_law17_same : ACode :=
 (.seq (.ops [] [⟨some 2, .box (.t 0), none⟩, ⟨some 3, .box (.t 1), none⟩, ⟨some 4, .mv (.c (.d (.bool false))), none⟩] [0, 1, 4])
 (.seq (.ops [] [⟨some 5, .fad false 0 1 (.t 2), none⟩, ⟨some 6, .ld false 1 (.t 5), none⟩, ⟨some 7, .fad false 0 1 (.t 3), none⟩, ⟨some 8, .ld false 1 (.t 7), none⟩, ⟨some 9, .bin .eql (.t 6) (.t 8), none⟩, ⟨some 10, .mv (.t 9), none⟩, ⟨some 11, .fad true 1 8 (.t 2), some (10, true)⟩, ⟨some 12, .ld true 8 (.t 11), some (10, true)⟩, ⟨some 13, .fad true 1 8 (.t 3), some (10, true)⟩, ⟨some 14, .ld true 8 (.t 13), some (10, true)⟩, ⟨some 15, .call N_ref17_SameInvocation [] [.t 12, .t 14], some (10, true)⟩, ⟨some 16, .pick (.t 10) (.t 15) (.c (.d (.bool false))), none⟩, ⟨some 17, .mv (.t 16), none⟩, ⟨some 18, .fad true 15 8 (.t 2), some (17, true)⟩, ⟨some 19, .ld true 8 (.t 18), some (17, true)⟩, ⟨some 20, .fad true 15 8 (.t 3), some (17, true)⟩, ⟨some 21, .ld true 8 (.t 20), some (17, true)⟩, ⟨some 22, .eqs false 8 [(0, 0), (1, 0), (2, 0), (3, 0), (4, 0), (5, 0), (6, 0), (7, 0)] (.t 19) (.t 21), some (17, true)⟩, ⟨some 23, .pick (.t 17) (.t 22) (.c (.d (.bool false))), none⟩, ⟨some 24, .mv (.t 23), none⟩, ⟨some 25, .fad false 9 1 (.t 2), some (24, true)⟩, ⟨some 26, .ld false 1 (.t 25), some (24, true)⟩, ⟨some 27, .fad false 9 1 (.t 3), some (24, true)⟩, ⟨some 28, .ld false 1 (.t 27), some (24, true)⟩, ⟨some 29, .bin .eql (.t 26) (.t 28), some (24, true)⟩, ⟨some 30, .pick (.t 24) (.t 29) (.c (.d (.bool false))), none⟩, ⟨some 31, .mv (.t 30), none⟩, ⟨some 32, .fad false 10 1 (.t 2), some (31, true)⟩, ⟨some 33, .ld false 1 (.t 32), some (31, true)⟩, ⟨some 34, .fad false 10 1 (.t 3), some (31, true)⟩, ⟨some 35, .ld false 1 (.t 34), some (31, true)⟩, ⟨some 36, .eqb false (.t 33) (.t 35), some (31, true)⟩, ⟨some 37, .pick (.t 31) (.t 36) (.c (.d (.bool false))), none⟩, ⟨some 38, .mv (.t 37), none⟩, ⟨some 39, .fad false 11 1 (.t 2), some (38, true)⟩, ⟨some 40, .ld false 1 (.t 39), some (38, true)⟩, ⟨some 41, .fad false 11 1 (.t 3), some (38, true)⟩, ⟨some 42, .ld false 1 (.t 41), some (38, true)⟩, ⟨some 43, .bin .eql (.t 40) (.t 42), some (38, true)⟩, ⟨some 44, .pick (.t 38) (.t 43) (.c (.d (.bool false))), none⟩, ⟨some 45, .mv (.t 44), none⟩, ⟨some 46, .fad false 12 1 (.t 2), some (45, true)⟩, ⟨some 47, .ld false 1 (.t 46), some (45, true)⟩, ⟨some 48, .fad false 12 1 (.t 3), some (45, true)⟩, ⟨some 49, .ld false 1 (.t 48), some (45, true)⟩, ⟨some 50, .bin .eql (.t 47) (.t 49), some (45, true)⟩, ⟨some 51, .pick (.t 45) (.t 50) (.c (.d (.bool false))), none⟩, ⟨some 52, .mv (.t 51), none⟩, ⟨some 53, .fad false 13 1 (.t 2), some (52, true)⟩, ⟨some 54, .ld false 1 (.t 53), some (52, true)⟩, ⟨some 55, .fad false 13 1 (.t 3), some (52, true)⟩, ⟨some 56, .ld false 1 (.t 55), some (52, true)⟩, ⟨some 57, .bin .eql (.t 54) (.t 56), some (52, true)⟩, ⟨some 58, .pick (.t 52) (.t 57) (.c (.d (.bool false))), none⟩, ⟨some 59, .mv (.t 58), none⟩, ⟨some 60, .fad false 14 1 (.t 2), some (59, true)⟩, ⟨some 61, .ld false 1 (.t 60), some (59, true)⟩, ⟨some 62, .fad false 14 1 (.t 3), some (59, true)⟩, ⟨some 63, .ld false 1 (.t 62), some (59, true)⟩, ⟨some 64, .call N_ref17_SameResults [] [.t 61, .t 63], some (59, true)⟩, ⟨some 65, .pick (.t 59) (.t 64) (.c (.d (.bool false))), none⟩, ⟨some 66, .mv (.t 65), none⟩, ⟨some 67, .fad true 23 26 (.t 2), some (66, true)⟩, ⟨some 68, .ld true 26 (.t 67), some (66, true)⟩, ⟨some 69, .fad true 23 26 (.t 3), some (66, true)⟩, ⟨some 70, .ld true 26 (.t 69), some (66, true)⟩, ⟨some 71, .call N_ref15_Same [] [.t 68, .t 70], some (66, true)⟩, ⟨some 72, .pick (.t 66) (.t 71) (.c (.d (.bool false))), none⟩, ⟨some 73, .mv (.t 72), none⟩, ⟨some 74, .fad true 52 2 (.t 2), some (73, true)⟩, ⟨some 75, .ld true 2 (.t 74), some (73, true)⟩, ⟨some 76, .fad true 52 2 (.t 3), some (73, true)⟩, ⟨some 77, .ld true 2 (.t 76), some (73, true)⟩, ⟨some 78, .eqs false 2 [(0, 0), (1, 0)] (.t 75) (.t 77), some (73, true)⟩, ⟨some 79, .pick (.t 73) (.t 78) (.c (.d (.bool false))), none⟩, ⟨some 80, .mv (.t 79), none⟩, ⟨some 81, .fad false 54 1 (.t 2), some (80, true)⟩, ⟨some 82, .ld false 1 (.t 81), some (80, true)⟩, ⟨some 83, .fad false 54 1 (.t 3), some (80, true)⟩, ⟨some 84, .ld false 1 (.t 83), some (80, true)⟩, ⟨some 85, .bin .eql (.t 82) (.t 84), some (80, true)⟩, ⟨some 86, .pick (.t 80) (.t 85) (.c (.d (.bool false))), none⟩, ⟨some 87, .mv (.t 86), none⟩, ⟨some 88, .fad false 55 1 (.t 2), some (87, true)⟩, ⟨some 89, .ld false 1 (.t 88), some (87, true)⟩, ⟨some 90, .fad false 55 1 (.t 3), some (87, true)⟩, ⟨some 91, .ld false 1 (.t 90), some (87, true)⟩, ⟨some 92, .bin .eql (.t 89) (.t 91), some (87, true)⟩, ⟨some 93, .pick (.t 87) (.t 92) (.c (.d (.bool false))), none⟩, ⟨some 94, .mv (.t 93), none⟩, ⟨some 95, .fad true 56 4 (.t 2), some (94, true)⟩, ⟨some 96, .ld true 4 (.t 95), some (94, true)⟩, ⟨some 97, .fad true 56 4 (.t 3), some (94, true)⟩, ⟨some 98, .ld true 4 (.t 97), some (94, true)⟩, ⟨some 99, .eqs false 4 [(0, 0), (1, 0), (2, 0), (3, 0)] (.t 96) (.t 98), some (94, true)⟩, ⟨some 100, .pick (.t 94) (.t 99) (.c (.d (.bool false))), none⟩, ⟨some 101, .mv (.t 100), none⟩, ⟨some 102, .fad false 60 1 (.t 2), some (101, true)⟩, ⟨some 103, .ld false 1 (.t 102), some (101, true)⟩, ⟨some 104, .fad false 60 1 (.t 3), some (101, true)⟩, ⟨some 105, .ld false 1 (.t 104), some (101, true)⟩, ⟨some 106, .bin .eql (.t 103) (.t 105), some (101, true)⟩, ⟨some 107, .pick (.t 101) (.t 106) (.c (.d (.bool false))), none⟩, ⟨some 108, .mv (.t 107), none⟩, ⟨some 109, .fad true 49 3 (.t 2), some (108, true)⟩, ⟨some 110, .fad false 1 1 (.t 109), some (108, true)⟩, ⟨some 111, .ld false 1 (.t 110), some (108, true)⟩, ⟨some 112, .len (.t 111), some (108, true)⟩, ⟨some 113, .fad true 49 3 (.t 3), some (108, true)⟩, ⟨some 114, .fad false 1 1 (.t 113), some (108, true)⟩, ⟨some 115, .ld false 1 (.t 114), some (108, true)⟩, ⟨some 116, .len (.t 115), some (108, true)⟩, ⟨some 117, .bin .eql (.t 112) (.t 116), some (108, true)⟩, ⟨some 118, .pick (.t 108) (.t 117) (.c (.d (.bool false))), none⟩, ⟨some 119, .mv (.t 118), none⟩, ⟨some 120, .fad true 49 3 (.t 2), some (119, true)⟩, ⟨some 121, .fad false 0 1 (.t 120), some (119, true)⟩, ⟨some 122, .ld false 1 (.t 121), some (119, true)⟩, ⟨some 123, .fad true 49 3 (.t 3), some (119, true)⟩, ⟨some 124, .fad false 0 1 (.t 123), some (119, true)⟩, ⟨some 125, .ld false 1 (.t 124), some (119, true)⟩, ⟨some 126, .bin .eql (.t 122) (.t 125), some (119, true)⟩, ⟨some 127, .pick (.t 119) (.t 126) (.c (.d (.bool false))), none⟩, ⟨some 128, .mv (.t 127), none⟩, ⟨some 129, .fad false 61 1 (.t 2), some (128, true)⟩, ⟨some 130, .ld false 1 (.t 129), some (128, true)⟩, ⟨some 131, .len (.t 130), some (128, true)⟩, ⟨some 132, .fad false 61 1 (.t 3), some (128, true)⟩, ⟨some 133, .ld false 1 (.t 132), some (128, true)⟩, ⟨some 134, .len (.t 133), some (128, true)⟩, ⟨some 135, .bin .eql (.t 131) (.t 134), some (128, true)⟩, ⟨some 136, .pick (.t 128) (.t 135) (.c (.d (.bool false))), none⟩, ⟨some 137, .mv (.t 136), none⟩, ⟨some 138, .fad false 62 1 (.t 2), some (137, true)⟩, ⟨some 139, .ld false 1 (.t 138), some (137, true)⟩, ⟨some 140, .len (.t 139), some (137, true)⟩, ⟨some 141, .fad false 62 1 (.t 3), some (137, true)⟩, ⟨some 142, .ld false 1 (.t 141), some (137, true)⟩, ⟨some 143, .len (.t 142), some (137, true)⟩, ⟨some 144, .bin .eql (.t 140) (.t 143), some (137, true)⟩, ⟨some 145, .pick (.t 137) (.t 144) (.c (.d (.bool false))), none⟩, ⟨some 4, .mv (.t 145), none⟩] [2, 3, 5, 6, 7, 8, 9, 10, 11, 12, 13, 14, 15, 16, 17, 18, 19, 20, 21, 22, 23, 24, 25, 26, 27, 28, 29, 30, 31, 32, 33, 34, 35, 36, 37, 38, 39, 40, 41, 42, 43, 44, 45, 46, 47, 48, 49, 50, 51, 52, 53, 54, 55, 56, 57, 58, 59, 60, 61, 62, 63, 64, 65, 66, 67, 68, 69, 70, 71, 72, 73, 74, 75, 76, 77, 78, 79, 80, 81, 82, 83, 84, 85, 86, 87, 88, 89, 90, 91, 92, 93, 94, 95, 96, 97, 98, 99, 100, 101, 102, 103, 104, 105, 106, 107, 108, 109, 110, 111, 112, 113, 114, 115, 116, 117, 118, 119, 120, 121, 122, 123, 124, 125, 126, 127, 128, 129, 130, 131, 132, 133, 134, 135, 136, 137, 138, 139, 140, 141, 142, 143, 144, 145])
 (.ret [4])))
def r_law17_same : List ARes := [.t 4]
def fn_law17_same : AFn := .code c_law17_same r_law17_same 146 true
/- shardqueue/shardqueueref17.SameInvocation -/
def c_ref17_SameInvocation : ACode :=
 (.seq (.ops [] [⟨some 2, .box (.t 0), none⟩, ⟨some 3, .box (.t 1), none⟩, ⟨some 4, .mv (.c (.d (.bool false))), none⟩] [0, 1, 4])
 (.seq (.ops [] [⟨some 5, .fad false 0 1 (.t 2), none⟩, ⟨some 6, .ld false 1 (.t 5), none⟩, ⟨some 7, .fad false 0 1 (.t 3), none⟩, ⟨some 8, .ld false 1 (.t 7), none⟩, ⟨some 9, .bin .eql (.t 6) (.t 8), none⟩, ⟨some 10, .mv (.t 9), none⟩, ⟨some 11, .fad false 1 1 (.t 2), some (10, true)⟩, ⟨some 12, .ld false 1 (.t 11), some (10, true)⟩, ⟨some 13, .fad false 1 1 (.t 3), some (10, true)⟩, ⟨some 14, .ld false 1 (.t 13), some (10, true)⟩, ⟨some 15, .bin .eql (.t 12) (.t 14), some (10, true)⟩, ⟨some 16, .pick (.t 10) (.t 15) (.c (.d (.bool false))), none⟩, ⟨some 17, .mv (.t 16), none⟩, ⟨some 18, .fad false 2 1 (.t 2), some (17, true)⟩, ⟨some 19, .ld false 1 (.t 18), some (17, true)⟩, ⟨some 20, .fad false 2 1 (.t 3), some (17, true)⟩, ⟨some 21, .ld false 1 (.t 20), some (17, true)⟩, ⟨some 22, .bin .eql (.t 19) (.t 21), some (17, true)⟩, ⟨some 23, .pick (.t 17) (.t 22) (.c (.d (.bool false))), none⟩, ⟨some 24, .mv (.t 23), none⟩, ⟨some 25, .fad false 3 1 (.t 2), some (24, true)⟩, ⟨some 26, .ld false 1 (.t 25), some (24, true)⟩, ⟨some 27, .fad false 3 1 (.t 3), some (24, true)⟩, ⟨some 28, .ld false 1 (.t 27), some (24, true)⟩, ⟨some 29, .bin .eql (.t 26) (.t 28), some (24, true)⟩, ⟨some 30, .pick (.t 24) (.t 29) (.c (.d (.bool false))), none⟩, ⟨some 31, .mv (.t 30), none⟩, ⟨some 32, .fad false 4 1 (.t 2), some (31, true)⟩, ⟨some 33, .ld false 1 (.t 32), some (31, true)⟩, ⟨some 34, .fad false 4 1 (.t 3), some (31, true)⟩, ⟨some 35, .ld false 1 (.t 34), some (31, true)⟩, ⟨some 36, .bin .eql (.t 33) (.t 35), some (31, true)⟩, ⟨some 37, .pick (.t 31) (.t 36) (.c (.d (.bool false))), none⟩, ⟨some 38, .mv (.t 37), none⟩, ⟨some 39, .fad false 5 1 (.t 2), some (38, true)⟩, ⟨some 40, .ld false 1 (.t 39), some (38, true)⟩, ⟨some 41, .fad false 5 1 (.t 3), some (38, true)⟩, ⟨some 42, .ld false 1 (.t 41), some (38, true)⟩, ⟨some 43, .bin .eql (.t 40) (.t 42), some (38, true)⟩, ⟨some 44, .pick (.t 38) (.t 43) (.c (.d (.bool false))), none⟩, ⟨some 45, .mv (.t 44), none⟩, ⟨some 46, .fad false 6 1 (.t 2), some (45, true)⟩, ⟨some 47, .ld false 1 (.t 46), some (45, true)⟩, ⟨some 48, .fad false 6 1 (.t 3), some (45, true)⟩, ⟨some 49, .ld false 1 (.t 48), some (45, true)⟩, ⟨some 50, .call N_ref17_SameTexts [] [.t 47, .t 49], some (45, true)⟩, ⟨some 51, .pick (.t 45) (.t 50) (.c (.d (.bool false))), none⟩, ⟨some 52, .mv (.t 51), none⟩, ⟨some 53, .fad false 7 1 (.t 2), some (52, true)⟩, ⟨some 54, .ld false 1 (.t 53), some (52, true)⟩, ⟨some 55, .fad false 7 1 (.t 3), some (52, true)⟩, ⟨some 56, .ld false 1 (.t 55), some (52, true)⟩, ⟨some 57, .call N_ref17_SameTokens [] [.t 54, .t 56], some (52, true)⟩, ⟨some 58, .pick (.t 52) (.t 57) (.c (.d (.bool false))), none⟩, ⟨some 4, .mv (.t 58), none⟩] [2, 3, 5, 6, 7, 8, 9, 10, 11, 12, 13, 14, 15, 16, 17, 18, 19, 20, 21, 22, 23, 24, 25, 26, 27, 28, 29, 30, 31, 32, 33, 34, 35, 36, 37, 38, 39, 40, 41, 42, 43, 44, 45, 46, 47, 48, 49, 50, 51, 52, 53, 54, 55, 56, 57, 58])
 (.ret [4])))
def r_ref17_SameInvocation : List ARes := [.t 4]
def fn_ref17_SameInvocation : AFn := .code c_ref17_SameInvocation r_ref17_SameInvocation 59 true
/- shardqueue/shardqueueref17.SameTexts -/
def l_ref17_SameTexts_0 : ACode :=
 (.seq (.seq (.ops [] [⟨some 11, .mv (.t 5), none⟩, ⟨some 12, .mv (.t 0), none⟩, ⟨some 13, .len (.t 12), none⟩, ⟨some 14, .bin .lss (.t 11) (.t 13), none⟩] [11, 12, 13])
 (.cond (.t 14) .skip (.exit 0 [])))
 (.seq (.block 1 (.seq (.draw [] [⟨some 17, .mv (.t 0), none⟩, ⟨some 18, .mv (.t 5), none⟩, ⟨some 19, .iad 1 (.t 17) (.t 18), none⟩, ⟨some 20, .ld false 1 (.t 19), none⟩, ⟨some 21, .mv (.t 1), none⟩, ⟨some 22, .mv (.t 5), none⟩, ⟨some 23, .iad 1 (.t 21) (.t 22), none⟩, ⟨some 24, .ld false 1 (.t 23), none⟩, ⟨some 25, .bin .neq (.t 20) (.t 24), none⟩] [[], [0], [], [], [0, 1, 2, 3], [0, 1, 2, 3, 4], [0, 1, 2, 3], [0, 1, 2, 3], []] [14, 17, 18, 19, 20, 21, 22, 23, 24])
 (.cond (.t 25) (.seq (.ops [] [⟨some 4, .mv (.c (.d (.bool false))), none⟩] [0, 1, 5, 25])
 (.ret [4])) .skip)))
 (.ops [] [⟨some 15, .mv (.t 5), none⟩, ⟨some 16, .bin .add (.t 15) (.c (.d (.int .i64 1))), none⟩, ⟨some 5, .mv (.t 16), none⟩] [15, 16, 25])))
def c_ref17_SameTexts : ACode :=
 (.seq (.ops [] [⟨some 4, .mv (.c (.d (.bool false))), none⟩] [4])
 (.seq (.seq (.ops [] [⟨some 6, .mv (.t 0), none⟩, ⟨some 7, .len (.t 6), none⟩, ⟨some 8, .mv (.t 1), none⟩, ⟨some 9, .len (.t 8), none⟩, ⟨some 10, .bin .neq (.t 7) (.t 9), none⟩] [6, 7, 8, 9])
 (.cond (.t 10) (.seq (.ops [] [⟨some 4, .mv (.c (.d (.bool false))), none⟩] [0, 1, 10])
 (.ret [4])) .skip))
 (.seq (.seq (.ops [] [⟨some 5, .mv (.c (.d (.int .i64 0))), none⟩] [10])
 (.block 0 (.loop [] l_ref17_SameTexts_0)))
 (.seq (.ops [] [⟨some 4, .mv (.c (.d (.bool true))), none⟩] [0, 1, 5, 14])
 (.ret [4])))))
def r_ref17_SameTexts : List ARes := [.t 4]
def fn_ref17_SameTexts : AFn := .code c_ref17_SameTexts r_ref17_SameTexts 26 true
/- shardqueue/shardqueueref17.SameTokens -/
def l_ref17_SameTokens_0 : ACode :=
 (.seq (.seq (.ops [] [⟨some 11, .mv (.t 5), none⟩, ⟨some 12, .mv (.t 0), none⟩, ⟨some 13, .len (.t 12), none⟩, ⟨some 14, .bin .lss (.t 11) (.t 13), none⟩] [11, 12, 13])
 (.cond (.t 14) .skip (.exit 0 [])))
 (.seq (.block 1 (.seq (.draw [] [⟨some 17, .mv (.t 0), none⟩, ⟨some 18, .mv (.t 5), none⟩, ⟨some 19, .iad 1 (.t 17) (.t 18), none⟩, ⟨some 20, .ld false 1 (.t 19), none⟩, ⟨some 21, .b2s (.t 20), none⟩, ⟨some 22, .mv (.t 1), none⟩, ⟨some 23, .mv (.t 5), none⟩, ⟨some 24, .iad 1 (.t 22) (.t 23), none⟩, ⟨some 25, .ld false 1 (.t 24), none⟩, ⟨some 26, .b2s (.t 25), none⟩, ⟨some 27, .bin .neq (.t 21) (.t 26), none⟩] [[], [0], [], [], [], [0, 1, 2, 3, 4], [0, 1, 2, 3, 4, 5], [0, 1, 2, 3, 4], [0, 1, 2, 3, 4], [0, 1, 2, 3, 4], []] [14, 17, 18, 19, 20, 21, 22, 23, 24, 25, 26])
 (.cond (.t 27) (.seq (.ops [] [⟨some 4, .mv (.c (.d (.bool false))), none⟩] [0, 1, 5, 27])
 (.ret [4])) .skip)))
 (.ops [] [⟨some 15, .mv (.t 5), none⟩, ⟨some 16, .bin .add (.t 15) (.c (.d (.int .i64 1))), none⟩, ⟨some 5, .mv (.t 16), none⟩] [15, 16, 27])))
def c_ref17_SameTokens : ACode :=
 (.seq (.ops [] [⟨some 4, .mv (.c (.d (.bool false))), none⟩] [4])
 (.seq (.seq (.ops [] [⟨some 6, .mv (.t 0), none⟩, ⟨some 7, .len (.t 6), none⟩, ⟨some 8, .mv (.t 1), none⟩, ⟨some 9, .len (.t 8), none⟩, ⟨some 10, .bin .neq (.t 7) (.t 9), none⟩] [6, 7, 8, 9])
 (.cond (.t 10) (.seq (.ops [] [⟨some 4, .mv (.c (.d (.bool false))), none⟩] [0, 1, 10])
 (.ret [4])) .skip))
 (.seq (.seq (.ops [] [⟨some 5, .mv (.c (.d (.int .i64 0))), none⟩] [10])
 (.block 0 (.loop [] l_ref17_SameTokens_0)))
 (.seq (.ops [] [⟨some 4, .mv (.c (.d (.bool true))), none⟩] [0, 1, 5, 14])
 (.ret [4])))))
def r_ref17_SameTokens : List ARes := [.t 4]
def fn_ref17_SameTokens : AFn := .code c_ref17_SameTokens r_ref17_SameTokens 28 true
/- shardqueue/shardqueueref17.SameResults -/
def l_ref17_SameResults_0 : ACode :=
 (.seq (.seq (.ops [] [⟨some 13, .mv (.t 5), none⟩, ⟨some 14, .mv (.t 0), none⟩, ⟨some 15, .len (.t 14), none⟩, ⟨some 16, .bin .lss (.t 13) (.t 15), none⟩] [13, 14, 15])
 (.cond (.t 16) .skip (.exit 0 [])))
 (.seq (.block 1 (.seq (.draw [] [⟨some 19, .mv (.t 0), none⟩, ⟨some 20, .mv (.t 5), none⟩, ⟨some 21, .iad 7 (.t 19) (.t 20), none⟩, ⟨some 22, .ld true 7 (.t 21), none⟩, ⟨some 23, .mv (.t 1), none⟩, ⟨some 24, .mv (.t 5), none⟩, ⟨some 25, .iad 7 (.t 23) (.t 24), none⟩, ⟨some 26, .ld true 7 (.t 25), none⟩, ⟨some 6, .alloc (.agg [.d (.int .i64 0), .d (.int .i64 0), .xsl [], .xsl [], .d (.int .i64 0), .d (.int .i64 0), .d (.int .i64 0)]), none⟩, ⟨some 7, .alloc (.agg [.d (.int .i64 0), .d (.int .i64 0), .xsl [], .xsl [], .d (.int .i64 0), .d (.int .i64 0), .d (.int .i64 0)]), none⟩, ⟨none, .st 7 (.t 6) (.t 22), none⟩, ⟨none, .st 7 (.t 7) (.t 26), none⟩] [[], [0], [], [], [0, 1, 2, 3], [0, 1, 2, 3, 4], [0, 1, 2, 3], [0, 1, 2, 3], [0, 1, 2, 3, 4, 5, 6, 7], [0, 1, 2, 3, 4, 5, 6, 7, 8], [4, 5, 6, 7], []] [16, 19, 20, 21, 22, 23, 24, 25, 26])
 (.seq (.ops [] [⟨some 27, .fad false 0 1 (.t 6), none⟩, ⟨some 28, .ld false 1 (.t 27), none⟩, ⟨some 29, .fad false 0 1 (.t 7), none⟩, ⟨some 30, .ld false 1 (.t 29), none⟩, ⟨some 31, .bin .neq (.t 28) (.t 30), none⟩, ⟨some 32, .mv (.t 31), none⟩, ⟨some 33, .fad false 1 1 (.t 6), some (32, false)⟩, ⟨some 34, .ld false 1 (.t 33), some (32, false)⟩, ⟨some 35, .fad false 1 1 (.t 7), some (32, false)⟩, ⟨some 36, .ld false 1 (.t 35), some (32, false)⟩, ⟨some 37, .bin .neq (.t 34) (.t 36), some (32, false)⟩, ⟨some 38, .pick (.t 32) (.c (.d (.bool true))) (.t 37), none⟩, ⟨some 39, .mv (.t 38), none⟩, ⟨some 40, .fad false 4 1 (.t 6), some (39, false)⟩, ⟨some 41, .ld false 1 (.t 40), some (39, false)⟩, ⟨some 42, .fad false 4 1 (.t 7), some (39, false)⟩, ⟨some 43, .ld false 1 (.t 42), some (39, false)⟩, ⟨some 44, .bin .neq (.t 41) (.t 43), some (39, false)⟩, ⟨some 45, .pick (.t 39) (.c (.d (.bool true))) (.t 44), none⟩, ⟨some 46, .mv (.t 45), none⟩, ⟨some 47, .fad false 5 1 (.t 6), some (46, false)⟩, ⟨some 48, .ld false 1 (.t 47), some (46, false)⟩, ⟨some 49, .fad false 5 1 (.t 7), some (46, false)⟩, ⟨some 50, .ld false 1 (.t 49), some (46, false)⟩, ⟨some 51, .bin .neq (.t 48) (.t 50), some (46, false)⟩, ⟨some 52, .pick (.t 46) (.c (.d (.bool true))) (.t 51), none⟩, ⟨some 53, .mv (.t 52), none⟩, ⟨some 54, .fad false 6 1 (.t 6), some (53, false)⟩, ⟨some 55, .ld false 1 (.t 54), some (53, false)⟩, ⟨some 56, .fad false 6 1 (.t 7), some (53, false)⟩, ⟨some 57, .ld false 1 (.t 56), some (53, false)⟩, ⟨some 58, .bin .neq (.t 55) (.t 57), some (53, false)⟩, ⟨some 59, .pick (.t 53) (.c (.d (.bool true))) (.t 58), none⟩, ⟨some 60, .mv (.t 59), none⟩, ⟨some 61, .fad false 2 1 (.t 6), some (60, false)⟩, ⟨some 62, .ld false 1 (.t 61), some (60, false)⟩, ⟨some 63, .fad false 2 1 (.t 7), some (60, false)⟩, ⟨some 64, .ld false 1 (.t 63), some (60, false)⟩, ⟨some 65, .call N_ref17_SameTokens [] [.t 62, .t 64], some (60, false)⟩, ⟨some 66, .un .not (.t 65), some (60, false)⟩, ⟨some 67, .pick (.t 60) (.c (.d (.bool true))) (.t 66), none⟩, ⟨some 68, .mv (.t 67), none⟩, ⟨some 69, .fad false 3 1 (.t 6), some (68, false)⟩, ⟨some 70, .ld false 1 (.t 69), some (68, false)⟩, ⟨some 71, .fad false 3 1 (.t 7), some (68, false)⟩, ⟨some 72, .ld false 1 (.t 71), some (68, false)⟩, ⟨some 73, .call N_ref17_SameTexts [] [.t 70, .t 72], some (68, false)⟩, ⟨some 74, .un .not (.t 73), some (68, false)⟩, ⟨some 75, .pick (.t 68) (.c (.d (.bool true))) (.t 74), none⟩] [6, 7, 27, 28, 29, 30, 31, 32, 33, 34, 35, 36, 37, 38, 39, 40, 41, 42, 43, 44, 45, 46, 47, 48, 49, 50, 51, 52, 53, 54, 55, 56, 57, 58, 59, 60, 61, 62, 63, 64, 65, 66, 67, 68, 69, 70, 71, 72, 73, 74])
 (.cond (.t 75) (.seq (.ops [] [⟨some 4, .mv (.c (.d (.bool false))), none⟩] [0, 1, 5, 75])
 (.ret [4])) .skip))))
 (.ops [] [⟨some 17, .mv (.t 5), none⟩, ⟨some 18, .bin .add (.t 17) (.c (.d (.int .i64 1))), none⟩, ⟨some 5, .mv (.t 18), none⟩] [17, 18, 75])))
def c_ref17_SameResults : ACode :=
 (.seq (.ops [] [⟨some 4, .mv (.c (.d (.bool false))), none⟩] [4])
 (.seq (.seq (.ops [] [⟨some 8, .mv (.t 0), none⟩, ⟨some 9, .len (.t 8), none⟩, ⟨some 10, .mv (.t 1), none⟩, ⟨some 11, .len (.t 10), none⟩, ⟨some 12, .bin .neq (.t 9) (.t 11), none⟩] [8, 9, 10, 11])
 (.cond (.t 12) (.seq (.ops [] [⟨some 4, .mv (.c (.d (.bool false))), none⟩] [0, 1, 12])
 (.ret [4])) .skip))
 (.seq (.seq (.ops [] [⟨some 5, .mv (.c (.d (.int .i64 0))), none⟩] [12])
 (.block 0 (.loop [] l_ref17_SameResults_0)))
 (.seq (.ops [] [⟨some 4, .mv (.c (.d (.bool true))), none⟩] [0, 1, 5, 16])
 (.ret [4])))))
def r_ref17_SameResults : List ARes := [.t 4]
def fn_ref17_SameResults : AFn := .code c_ref17_SameResults r_ref17_SameResults 76 true
/- shardqueue/shardqueueref15.Same -/
def c_ref15_Same : ACode :=
 (.seq (.ops [] [⟨some 2, .box (.t 0), none⟩, ⟨some 3, .box (.t 1), none⟩, ⟨some 4, .mv (.c (.d (.bool false))), none⟩] [0, 1, 4])
 (.seq (.ops [] [⟨some 5, .fad false 0 1 (.t 2), none⟩, ⟨some 6, .ld false 1 (.t 5), none⟩, ⟨some 7, .fad false 0 1 (.t 3), none⟩, ⟨some 8, .ld false 1 (.t 7), none⟩, ⟨some 9, .bin .eql (.t 6) (.t 8), none⟩, ⟨some 10, .mv (.t 9), none⟩, ⟨some 11, .fad false 1 1 (.t 2), some (10, true)⟩, ⟨some 12, .ld false 1 (.t 11), some (10, true)⟩, ⟨some 13, .fad false 1 1 (.t 3), some (10, true)⟩, ⟨some 14, .ld false 1 (.t 13), some (10, true)⟩, ⟨some 15, .bin .eql (.t 12) (.t 14), some (10, true)⟩, ⟨some 16, .pick (.t 10) (.t 15) (.c (.d (.bool false))), none⟩, ⟨some 17, .mv (.t 16), none⟩, ⟨some 18, .fad true 2 5 (.t 2), some (17, true)⟩, ⟨some 19, .ld true 5 (.t 18), some (17, true)⟩, ⟨some 20, .fad true 2 5 (.t 3), some (17, true)⟩, ⟨some 21, .ld true 5 (.t 20), some (17, true)⟩, ⟨some 22, .call N_ref13_Same [] [.t 19, .t 21], some (17, true)⟩, ⟨some 23, .pick (.t 17) (.t 22) (.c (.d (.bool false))), none⟩, ⟨some 24, .mv (.t 23), none⟩, ⟨some 25, .fad true 7 4 (.t 2), some (24, true)⟩, ⟨some 26, .ld true 4 (.t 25), some (24, true)⟩, ⟨some 27, .fad true 7 4 (.t 3), some (24, true)⟩, ⟨some 28, .ld true 4 (.t 27), some (24, true)⟩, ⟨some 29, .eqs false 4 [(0, 0), (1, 0), (2, 0), (3, 0)] (.t 26) (.t 28), some (24, true)⟩, ⟨some 30, .pick (.t 24) (.t 29) (.c (.d (.bool false))), none⟩, ⟨some 31, .mv (.t 30), none⟩, ⟨some 32, .fad false 11 1 (.t 2), some (31, true)⟩, ⟨some 33, .ld false 1 (.t 32), some (31, true)⟩, ⟨some 34, .fad false 11 1 (.t 3), some (31, true)⟩, ⟨some 35, .ld false 1 (.t 34), some (31, true)⟩, ⟨some 36, .call N_ref15_sameShards [] [.t 33, .t 35], some (31, true)⟩, ⟨some 37, .pick (.t 31) (.t 36) (.c (.d (.bool false))), none⟩, ⟨some 38, .mv (.t 37), none⟩, ⟨some 39, .fad true 12 2 (.t 2), some (38, true)⟩, ⟨some 40, .ld true 2 (.t 39), some (38, true)⟩, ⟨some 41, .fad true 12 2 (.t 3), some (38, true)⟩, ⟨some 42, .ld true 2 (.t 41), some (38, true)⟩, ⟨some 43, .call N_ref08_Same [] [.t 40, .t 42], some (38, true)⟩, ⟨some 44, .pick (.t 38) (.t 43) (.c (.d (.bool false))), none⟩, ⟨some 45, .mv (.t 44), none⟩, ⟨some 46, .fad false 14 1 (.t 2), some (45, true)⟩, ⟨some 47, .ld false 1 (.t 46), some (45, true)⟩, ⟨some 48, .fad false 14 1 (.t 3), some (45, true)⟩, ⟨some 49, .ld false 1 (.t 48), some (45, true)⟩, ⟨some 50, .call N_ref11_Same [] [.t 47, .t 49], some (45, true)⟩, ⟨some 51, .pick (.t 45) (.t 50) (.c (.d (.bool false))), none⟩, ⟨some 52, .mv (.t 51), none⟩, ⟨some 53, .fad true 15 3 (.t 2), some (52, true)⟩, ⟨some 54, .ld true 3 (.t 53), some (52, true)⟩, ⟨some 55, .fad true 15 3 (.t 3), some (52, true)⟩, ⟨some 56, .ld true 3 (.t 55), some (52, true)⟩, ⟨some 57, .call N_ref10_Same [] [.t 54, .t 56], some (52, true)⟩, ⟨some 58, .pick (.t 52) (.t 57) (.c (.d (.bool false))), none⟩, ⟨some 59, .mv (.t 58), none⟩, ⟨some 60, .fad true 18 6 (.t 2), some (59, true)⟩, ⟨some 61, .ld true 6 (.t 60), some (59, true)⟩, ⟨some 62, .fad true 18 6 (.t 3), some (59, true)⟩, ⟨some 63, .ld true 6 (.t 62), some (59, true)⟩, ⟨some 64, .call N_ref15_SameOutcome [] [.t 61, .t 63], some (59, true)⟩, ⟨some 65, .pick (.t 59) (.t 64) (.c (.d (.bool false))), none⟩, ⟨some 66, .mv (.t 65), none⟩, ⟨some 67, .fad false 24 1 (.t 2), some (66, true)⟩, ⟨some 68, .ld false 1 (.t 67), some (66, true)⟩, ⟨some 69, .fad false 24 1 (.t 3), some (66, true)⟩, ⟨some 70, .ld false 1 (.t 69), some (66, true)⟩, ⟨some 71, .bin .eql (.t 68) (.t 70), some (66, true)⟩, ⟨some 72, .pick (.t 66) (.t 71) (.c (.d (.bool false))), none⟩, ⟨some 73, .mv (.t 72), none⟩, ⟨some 74, .fad false 25 1 (.t 2), some (73, true)⟩, ⟨some 75, .ld false 1 (.t 74), some (73, true)⟩, ⟨some 76, .fad false 25 1 (.t 3), some (73, true)⟩, ⟨some 77, .ld false 1 (.t 76), some (73, true)⟩, ⟨some 78, .call N_ref03_Same [] [.t 75, .t 77], some (73, true)⟩, ⟨some 79, .pick (.t 73) (.t 78) (.c (.d (.bool false))), none⟩, ⟨some 4, .mv (.t 79), none⟩] [2, 3, 5, 6, 7, 8, 9, 10, 11, 12, 13, 14, 15, 16, 17, 18, 19, 20, 21, 22, 23, 24, 25, 26, 27, 28, 29, 30, 31, 32, 33, 34, 35, 36, 37, 38, 39, 40, 41, 42, 43, 44, 45, 46, 47, 48, 49, 50, 51, 52, 53, 54, 55, 56, 57, 58, 59, 60, 61, 62, 63, 64, 65, 66, 67, 68, 69, 70, 71, 72, 73, 74, 75, 76, 77, 78, 79])
 (.ret [4])))
def r_ref15_Same : List ARes := [.t 4]
def fn_ref15_Same : AFn := .code c_ref15_Same r_ref15_Same 80 true
/- shardqueue/shardqueueref13.Same -/
def c_ref13_Same : ACode :=
 (.seq (.ops [] [⟨some 2, .box (.t 0), none⟩, ⟨some 3, .box (.t 1), none⟩, ⟨some 4, .mv (.c (.d (.bool false))), none⟩] [0, 1, 4])
 (.seq (.ops [] [⟨some 5, .fad false 0 1 (.t 2), none⟩, ⟨some 6, .ld false 1 (.t 5), none⟩, ⟨some 7, .fad false 0 1 (.t 3), none⟩, ⟨some 8, .ld false 1 (.t 7), none⟩, ⟨some 9, .call N_ref13_SameInts [] [.t 6, .t 8], none⟩, ⟨some 10, .mv (.t 9), none⟩, ⟨some 11, .fad false 1 1 (.t 2), some (10, true)⟩, ⟨some 12, .ld false 1 (.t 11), some (10, true)⟩, ⟨some 13, .fad false 1 1 (.t 3), some (10, true)⟩, ⟨some 14, .ld false 1 (.t 13), some (10, true)⟩, ⟨some 15, .bin .eql (.t 12) (.t 14), some (10, true)⟩, ⟨some 16, .pick (.t 10) (.t 15) (.c (.d (.bool false))), none⟩, ⟨some 17, .mv (.t 16), none⟩, ⟨some 18, .fad false 2 1 (.t 2), some (17, true)⟩, ⟨some 19, .ld false 1 (.t 18), some (17, true)⟩, ⟨some 20, .fad false 2 1 (.t 3), some (17, true)⟩, ⟨some 21, .ld false 1 (.t 20), some (17, true)⟩, ⟨some 22, .bin .eql (.t 19) (.t 21), some (17, true)⟩, ⟨some 23, .pick (.t 17) (.t 22) (.c (.d (.bool false))), none⟩, ⟨some 24, .mv (.t 23), none⟩, ⟨some 25, .fad false 3 1 (.t 2), some (24, true)⟩, ⟨some 26, .ld false 1 (.t 25), some (24, true)⟩, ⟨some 27, .fad false 3 1 (.t 3), some (24, true)⟩, ⟨some 28, .ld false 1 (.t 27), some (24, true)⟩, ⟨some 29, .bin .eql (.t 26) (.t 28), some (24, true)⟩, ⟨some 30, .pick (.t 24) (.t 29) (.c (.d (.bool false))), none⟩, ⟨some 31, .mv (.t 30), none⟩, ⟨some 32, .fad false 4 1 (.t 2), some (31, true)⟩, ⟨some 33, .ld false 1 (.t 32), some (31, true)⟩, ⟨some 34, .fad false 4 1 (.t 3), some (31, true)⟩, ⟨some 35, .ld false 1 (.t 34), some (31, true)⟩, ⟨some 36, .bin .eql (.t 33) (.t 35), some (31, true)⟩, ⟨some 37, .pick (.t 31) (.t 36) (.c (.d (.bool false))), none⟩, ⟨some 4, .mv (.t 37), none⟩] [2, 3, 5, 6, 7, 8, 9, 10, 11, 12, 13, 14, 15, 16, 17, 18, 19, 20, 21, 22, 23, 24, 25, 26, 27, 28, 29, 30, 31, 32, 33, 34, 35, 36, 37])
 (.ret [4])))
def r_ref13_Same : List ARes := [.t 4]
def fn_ref13_Same : AFn := .code c_ref13_Same r_ref13_Same 38 true
/- shardqueue/shardqueueref13.SameInts -/
def l_ref13_SameInts_0 : ACode :=
 (.seq (.seq (.ops [] [⟨some 11, .mv (.t 5), none⟩, ⟨some 12, .mv (.t 0), none⟩, ⟨some 13, .len (.t 12), none⟩, ⟨some 14, .bin .lss (.t 11) (.t 13), none⟩] [11, 12, 13])
 (.cond (.t 14) .skip (.exit 0 [])))
 (.seq (.block 1 (.seq (.draw [] [⟨some 17, .mv (.t 0), none⟩, ⟨some 18, .mv (.t 5), none⟩, ⟨some 19, .iad 1 (.t 17) (.t 18), none⟩, ⟨some 20, .ld false 1 (.t 19), none⟩, ⟨some 21, .mv (.t 1), none⟩, ⟨some 22, .mv (.t 5), none⟩, ⟨some 23, .iad 1 (.t 21) (.t 22), none⟩, ⟨some 24, .ld false 1 (.t 23), none⟩, ⟨some 25, .bin .neq (.t 20) (.t 24), none⟩] [[], [0], [], [], [0, 1, 2, 3], [0, 1, 2, 3, 4], [0, 1, 2, 3], [0, 1, 2, 3], []] [14, 17, 18, 19, 20, 21, 22, 23, 24])
 (.cond (.t 25) (.seq (.ops [] [⟨some 4, .mv (.c (.d (.bool false))), none⟩] [0, 1, 5, 25])
 (.ret [4])) .skip)))
 (.ops [] [⟨some 15, .mv (.t 5), none⟩, ⟨some 16, .bin .add (.t 15) (.c (.d (.int .i64 1))), none⟩, ⟨some 5, .mv (.t 16), none⟩] [15, 16, 25])))
def c_ref13_SameInts : ACode :=
 (.seq (.ops [] [⟨some 4, .mv (.c (.d (.bool false))), none⟩] [4])
 (.seq (.seq (.ops [] [⟨some 6, .mv (.t 0), none⟩, ⟨some 7, .len (.t 6), none⟩, ⟨some 8, .mv (.t 1), none⟩, ⟨some 9, .len (.t 8), none⟩, ⟨some 10, .bin .neq (.t 7) (.t 9), none⟩] [6, 7, 8, 9])
 (.cond (.t 10) (.seq (.ops [] [⟨some 4, .mv (.c (.d (.bool false))), none⟩] [0, 1, 10])
 (.ret [4])) .skip))
 (.seq (.seq (.ops [] [⟨some 5, .mv (.c (.d (.int .i64 0))), none⟩] [10])
 (.block 0 (.loop [] l_ref13_SameInts_0)))
 (.seq (.ops [] [⟨some 4, .mv (.c (.d (.bool true))), none⟩] [0, 1, 5, 14])
 (.ret [4])))))
def r_ref13_SameInts : List ARes := [.t 4]
def fn_ref13_SameInts : AFn := .code c_ref13_SameInts r_ref13_SameInts 26 true
/- shardqueue/shardqueueref15.sameShards -/
def l_ref15_sameShards_0 : ACode :=
 (.seq (.seq (.ops [] [⟨some 11, .mv (.t 5), none⟩, ⟨some 12, .mv (.t 0), none⟩, ⟨some 13, .len (.t 12), none⟩, ⟨some 14, .bin .lss (.t 11) (.t 13), none⟩] [11, 12, 13])
 (.cond (.t 14) .skip (.exit 0 [])))
 (.seq (.block 1 (.seq (.draw [] [⟨some 17, .mv (.t 0), none⟩, ⟨some 18, .mv (.t 5), none⟩, ⟨some 19, .iad 8 (.t 17) (.t 18), none⟩, ⟨some 20, .ld true 8 (.t 19), none⟩, ⟨some 21, .mv (.t 1), none⟩, ⟨some 22, .mv (.t 5), none⟩, ⟨some 23, .iad 8 (.t 21) (.t 22), none⟩, ⟨some 24, .ld true 8 (.t 23), none⟩, ⟨some 25, .call N_ref07_Same [] [.t 20, .t 24], none⟩, ⟨some 26, .un .not (.t 25), none⟩] [[], [0], [], [], [0, 1, 2, 3], [0, 1, 2, 3, 4], [0, 1, 2, 3], [0, 1, 2, 3], [], []] [14, 17, 18, 19, 20, 21, 22, 23, 24, 25])
 (.cond (.t 26) (.seq (.ops [] [⟨some 4, .mv (.c (.d (.bool false))), none⟩] [0, 1, 5, 26])
 (.ret [4])) .skip)))
 (.ops [] [⟨some 15, .mv (.t 5), none⟩, ⟨some 16, .bin .add (.t 15) (.c (.d (.int .i64 1))), none⟩, ⟨some 5, .mv (.t 16), none⟩] [15, 16, 26])))
def c_ref15_sameShards : ACode :=
 (.seq (.ops [] [⟨some 4, .mv (.c (.d (.bool false))), none⟩] [4])
 (.seq (.seq (.ops [] [⟨some 6, .mv (.t 0), none⟩, ⟨some 7, .len (.t 6), none⟩, ⟨some 8, .mv (.t 1), none⟩, ⟨some 9, .len (.t 8), none⟩, ⟨some 10, .bin .neq (.t 7) (.t 9), none⟩] [6, 7, 8, 9])
 (.cond (.t 10) (.seq (.ops [] [⟨some 4, .mv (.c (.d (.bool false))), none⟩] [0, 1, 10])
 (.ret [4])) .skip))
 (.seq (.seq (.ops [] [⟨some 5, .mv (.c (.d (.int .i64 0))), none⟩] [10])
 (.block 0 (.loop [] l_ref15_sameShards_0)))
 (.seq (.ops [] [⟨some 4, .mv (.c (.d (.bool true))), none⟩] [0, 1, 5, 14])
 (.ret [4])))))
def r_ref15_sameShards : List ARes := [.t 4]
def fn_ref15_sameShards : AFn := .code c_ref15_sameShards r_ref15_sameShards 27 true
/- shardqueue/shardqueueref07.Same -/
def c_ref07_Same : ACode :=
 (.seq (.ops [] [⟨some 2, .box (.t 0), none⟩, ⟨some 3, .box (.t 1), none⟩, ⟨some 4, .mv (.c (.d (.bool false))), none⟩] [0, 1, 4])
 (.seq (.ops [] [⟨some 5, .fad false 0 1 (.t 2), none⟩, ⟨some 6, .ld false 1 (.t 5), none⟩, ⟨some 7, .fad false 0 1 (.t 3), none⟩, ⟨some 8, .ld false 1 (.t 7), none⟩, ⟨some 9, .eqb false (.t 6) (.t 8), none⟩, ⟨some 10, .mv (.t 9), none⟩, ⟨some 11, .fad false 1 1 (.t 2), some (10, true)⟩, ⟨some 12, .ld false 1 (.t 11), some (10, true)⟩, ⟨some 13, .fad false 1 1 (.t 3), some (10, true)⟩, ⟨some 14, .ld false 1 (.t 13), some (10, true)⟩, ⟨some 15, .bin .eql (.t 12) (.t 14), some (10, true)⟩, ⟨some 16, .pick (.t 10) (.t 15) (.c (.d (.bool false))), none⟩, ⟨some 17, .mv (.t 16), none⟩, ⟨some 18, .fad false 2 1 (.t 2), some (17, true)⟩, ⟨some 19, .ld false 1 (.t 18), some (17, true)⟩, ⟨some 20, .fad false 2 1 (.t 3), some (17, true)⟩, ⟨some 21, .ld false 1 (.t 20), some (17, true)⟩, ⟨some 22, .bin .eql (.t 19) (.t 21), some (17, true)⟩, ⟨some 23, .pick (.t 17) (.t 22) (.c (.d (.bool false))), none⟩, ⟨some 24, .mv (.t 23), none⟩, ⟨some 25, .fad true 3 3 (.t 2), some (24, true)⟩, ⟨some 26, .ld true 3 (.t 25), some (24, true)⟩, ⟨some 27, .fad true 3 3 (.t 3), some (24, true)⟩, ⟨some 28, .ld true 3 (.t 27), some (24, true)⟩, ⟨some 29, .call N_ref04_Same [] [.t 26, .t 28], some (24, true)⟩, ⟨some 30, .pick (.t 24) (.t 29) (.c (.d (.bool false))), none⟩, ⟨some 31, .mv (.t 30), none⟩, ⟨some 32, .fad true 6 2 (.t 2), some (31, true)⟩, ⟨some 33, .ld true 2 (.t 32), some (31, true)⟩, ⟨some 34, .fad true 6 2 (.t 3), some (31, true)⟩, ⟨some 35, .ld true 2 (.t 34), some (31, true)⟩, ⟨some 36, .call N_ref06_Same [] [.t 33, .t 35], some (31, true)⟩, ⟨some 37, .pick (.t 31) (.t 36) (.c (.d (.bool false))), none⟩, ⟨some 4, .mv (.t 37), none⟩] [2, 3, 5, 6, 7, 8, 9, 10, 11, 12, 13, 14, 15, 16, 17, 18, 19, 20, 21, 22, 23, 24, 25, 26, 27, 28, 29, 30, 31, 32, 33, 34, 35, 36, 37])
 (.ret [4])))
def r_ref07_Same : List ARes := [.t 4]
def fn_ref07_Same : AFn := .code c_ref07_Same r_ref07_Same 38 true
/- shardqueue/shardqueueref04.Same -/
def c_ref04_Same : ACode :=
 (.seq (.ops [] [⟨some 2, .box (.t 0), none⟩, ⟨some 3, .box (.t 1), none⟩, ⟨some 4, .mv (.c (.d (.bool false))), none⟩] [0, 1, 4])
 (.seq (.ops [] [⟨some 5, .fad false 1 1 (.t 2), none⟩, ⟨some 6, .ld false 1 (.t 5), none⟩, ⟨some 7, .fad false 1 1 (.t 3), none⟩, ⟨some 8, .ld false 1 (.t 7), none⟩, ⟨some 9, .bin .eql (.t 6) (.t 8), none⟩, ⟨some 10, .mv (.t 9), none⟩, ⟨some 11, .fad false 2 1 (.t 2), some (10, true)⟩, ⟨some 12, .ld false 1 (.t 11), some (10, true)⟩, ⟨some 13, .fad false 2 1 (.t 3), some (10, true)⟩, ⟨some 14, .ld false 1 (.t 13), some (10, true)⟩, ⟨some 15, .bin .eql (.t 12) (.t 14), some (10, true)⟩, ⟨some 16, .pick (.t 10) (.t 15) (.c (.d (.bool false))), none⟩, ⟨some 17, .mv (.t 16), none⟩, ⟨some 18, .fad false 0 1 (.t 2), some (17, true)⟩, ⟨some 19, .ld false 1 (.t 18), some (17, true)⟩, ⟨some 20, .fad false 0 1 (.t 3), some (17, true)⟩, ⟨some 21, .ld false 1 (.t 20), some (17, true)⟩, ⟨some 22, .call N_ref03_Same [] [.t 19, .t 21], some (17, true)⟩, ⟨some 23, .pick (.t 17) (.t 22) (.c (.d (.bool false))), none⟩, ⟨some 4, .mv (.t 23), none⟩] [2, 3, 5, 6, 7, 8, 9, 10, 11, 12, 13, 14, 15, 16, 17, 18, 19, 20, 21, 22, 23])
 (.ret [4])))
def r_ref04_Same : List ARes := [.t 4]
def fn_ref04_Same : AFn := .code c_ref04_Same r_ref04_Same 24 true
/- shardqueue/shardqueueref03.Same -/
def l_ref03_Same_0 : ACode :=
 (.seq (.seq (.ops [] [⟨some 11, .mv (.t 5), none⟩, ⟨some 12, .mv (.t 0), none⟩, ⟨some 13, .len (.t 12), none⟩, ⟨some 14, .bin .lss (.t 11) (.t 13), none⟩] [11, 12, 13])
 (.cond (.t 14) .skip (.exit 0 [])))
 (.seq (.block 1 (.seq (.draw [] [⟨some 17, .mv (.t 0), none⟩, ⟨some 18, .mv (.t 5), none⟩, ⟨some 19, .iad 7 (.t 17) (.t 18), none⟩, ⟨some 20, .ld true 7 (.t 19), none⟩, ⟨some 21, .mv (.t 1), none⟩, ⟨some 22, .mv (.t 5), none⟩, ⟨some 23, .iad 7 (.t 21) (.t 22), none⟩, ⟨some 24, .ld true 7 (.t 23), none⟩, ⟨some 25, .eqs true 7 [(0, 0), (1, 0), (2, 0), (3, 0), (4, 0), (5, 0), (6, 2)] (.t 20) (.t 24), none⟩] [[], [0], [], [], [0, 1, 2, 3], [0, 1, 2, 3, 4], [0, 1, 2, 3], [0, 1, 2, 3], []] [14, 17, 18, 19, 20, 21, 22, 23, 24])
 (.cond (.t 25) (.seq (.ops [] [⟨some 4, .mv (.c (.d (.bool false))), none⟩] [0, 1, 5, 25])
 (.ret [4])) .skip)))
 (.ops [] [⟨some 15, .mv (.t 5), none⟩, ⟨some 16, .bin .add (.t 15) (.c (.d (.int .i64 1))), none⟩, ⟨some 5, .mv (.t 16), none⟩] [15, 16, 25])))
def c_ref03_Same : ACode :=
 (.seq (.ops [] [⟨some 4, .mv (.c (.d (.bool false))), none⟩] [4])
 (.seq (.seq (.ops [] [⟨some 6, .mv (.t 0), none⟩, ⟨some 7, .len (.t 6), none⟩, ⟨some 8, .mv (.t 1), none⟩, ⟨some 9, .len (.t 8), none⟩, ⟨some 10, .bin .neq (.t 7) (.t 9), none⟩] [6, 7, 8, 9])
 (.cond (.t 10) (.seq (.ops [] [⟨some 4, .mv (.c (.d (.bool false))), none⟩] [0, 1, 10])
 (.ret [4])) .skip))
 (.seq (.seq (.ops [] [⟨some 5, .mv (.c (.d (.int .i64 0))), none⟩] [10])
 (.block 0 (.loop [] l_ref03_Same_0)))
 (.seq (.ops [] [⟨some 4, .mv (.c (.d (.bool true))), none⟩] [0, 1, 5, 14])
 (.ret [4])))))
def r_ref03_Same : List ARes := [.t 4]
def fn_ref03_Same : AFn := .code c_ref03_Same r_ref03_Same 26 true
/- shardqueue/shardqueueref06.Same -/
def c_ref06_Same : ACode :=
 (.seq (.ops [] [⟨some 2, .box (.t 0), none⟩, ⟨some 3, .box (.t 1), none⟩, ⟨some 4, .mv (.c (.d (.bool false))), none⟩] [0, 1, 4])
 (.seq (.ops [] [⟨some 5, .fad false 0 1 (.t 2), none⟩, ⟨some 6, .ld false 1 (.t 5), none⟩, ⟨some 7, .fad false 0 1 (.t 3), none⟩, ⟨some 8, .ld false 1 (.t 7), none⟩, ⟨some 9, .call N_ref06_SameLeases [] [.t 6, .t 8], none⟩, ⟨some 10, .mv (.t 9), none⟩, ⟨some 11, .fad false 1 1 (.t 2), some (10, true)⟩, ⟨some 12, .ld false 1 (.t 11), some (10, true)⟩, ⟨some 13, .fad false 1 1 (.t 3), some (10, true)⟩, ⟨some 14, .ld false 1 (.t 13), some (10, true)⟩, ⟨some 15, .call N_ref05_Same [] [.t 12, .t 14], some (10, true)⟩, ⟨some 16, .pick (.t 10) (.t 15) (.c (.d (.bool false))), none⟩, ⟨some 4, .mv (.t 16), none⟩] [2, 3, 5, 6, 7, 8, 9, 10, 11, 12, 13, 14, 15, 16])
 (.ret [4])))
def r_ref06_Same : List ARes := [.t 4]
def fn_ref06_Same : AFn := .code c_ref06_Same r_ref06_Same 17 true
/- shardqueue/shardqueueref06.SameLeases -/
def l_ref06_SameLeases_0 : ACode :=
 (.seq (.seq (.ops [] [⟨some 11, .mv (.t 5), none⟩, ⟨some 12, .mv (.t 0), none⟩, ⟨some 13, .len (.t 12), none⟩, ⟨some 14, .bin .lss (.t 11) (.t 13), none⟩] [11, 12, 13])
 (.cond (.t 14) .skip (.exit 0 [])))
 (.seq (.block 1 (.seq (.draw [] [⟨some 17, .mv (.t 0), none⟩, ⟨some 18, .mv (.t 5), none⟩, ⟨some 19, .iad 8 (.t 17) (.t 18), none⟩, ⟨some 20, .ld true 8 (.t 19), none⟩, ⟨some 21, .mv (.t 1), none⟩, ⟨some 22, .mv (.t 5), none⟩, ⟨some 23, .iad 8 (.t 21) (.t 22), none⟩, ⟨some 24, .ld true 8 (.t 23), none⟩, ⟨some 25, .eqs true 8 [(0, 0), (1, 0), (2, 0), (3, 0), (4, 0), (5, 0), (6, 2), (7, 0)] (.t 20) (.t 24), none⟩] [[], [0], [], [], [0, 1, 2, 3], [0, 1, 2, 3, 4], [0, 1, 2, 3], [0, 1, 2, 3], []] [14, 17, 18, 19, 20, 21, 22, 23, 24])
 (.cond (.t 25) (.seq (.ops [] [⟨some 4, .mv (.c (.d (.bool false))), none⟩] [0, 1, 5, 25])
 (.ret [4])) .skip)))
 (.ops [] [⟨some 15, .mv (.t 5), none⟩, ⟨some 16, .bin .add (.t 15) (.c (.d (.int .i64 1))), none⟩, ⟨some 5, .mv (.t 16), none⟩] [15, 16, 25])))
def c_ref06_SameLeases : ACode :=
 (.seq (.ops [] [⟨some 4, .mv (.c (.d (.bool false))), none⟩] [4])
 (.seq (.seq (.ops [] [⟨some 6, .mv (.t 0), none⟩, ⟨some 7, .len (.t 6), none⟩, ⟨some 8, .mv (.t 1), none⟩, ⟨some 9, .len (.t 8), none⟩, ⟨some 10, .bin .neq (.t 7) (.t 9), none⟩] [6, 7, 8, 9])
 (.cond (.t 10) (.seq (.ops [] [⟨some 4, .mv (.c (.d (.bool false))), none⟩] [0, 1, 10])
 (.ret [4])) .skip))
 (.seq (.seq (.ops [] [⟨some 5, .mv (.c (.d (.int .i64 0))), none⟩] [10])
 (.block 0 (.loop [] l_ref06_SameLeases_0)))
 (.seq (.ops [] [⟨some 4, .mv (.c (.d (.bool true))), none⟩] [0, 1, 5, 14])
 (.ret [4])))))
def r_ref06_SameLeases : List ARes := [.t 4]
def fn_ref06_SameLeases : AFn := .code c_ref06_SameLeases r_ref06_SameLeases 26 true
/- shardqueue/shardqueueref05.Same -/
def l_ref05_Same_0 : ACode :=
 (.seq (.seq (.ops [] [⟨some 11, .mv (.t 5), none⟩, ⟨some 12, .mv (.t 0), none⟩, ⟨some 13, .len (.t 12), none⟩, ⟨some 14, .bin .lss (.t 11) (.t 13), none⟩] [11, 12, 13])
 (.cond (.t 14) .skip (.exit 0 [])))
 (.seq (.block 1 (.seq (.draw [] [⟨some 17, .mv (.t 0), none⟩, ⟨some 18, .mv (.t 5), none⟩, ⟨some 19, .iad 2 (.t 17) (.t 18), none⟩, ⟨some 20, .ld true 2 (.t 19), none⟩, ⟨some 21, .mv (.t 1), none⟩, ⟨some 22, .mv (.t 5), none⟩, ⟨some 23, .iad 2 (.t 21) (.t 22), none⟩, ⟨some 24, .ld true 2 (.t 23), none⟩, ⟨some 25, .eqs true 2 [(0, 0), (1, 0)] (.t 20) (.t 24), none⟩] [[], [0], [], [], [0, 1, 2, 3], [0, 1, 2, 3, 4], [0, 1, 2, 3], [0, 1, 2, 3], []] [14, 17, 18, 19, 20, 21, 22, 23, 24])
 (.cond (.t 25) (.seq (.ops [] [⟨some 4, .mv (.c (.d (.bool false))), none⟩] [0, 1, 5, 25])
 (.ret [4])) .skip)))
 (.ops [] [⟨some 15, .mv (.t 5), none⟩, ⟨some 16, .bin .add (.t 15) (.c (.d (.int .i64 1))), none⟩, ⟨some 5, .mv (.t 16), none⟩] [15, 16, 25])))
def c_ref05_Same : ACode :=
 (.seq (.ops [] [⟨some 4, .mv (.c (.d (.bool false))), none⟩] [4])
 (.seq (.seq (.ops [] [⟨some 6, .mv (.t 0), none⟩, ⟨some 7, .len (.t 6), none⟩, ⟨some 8, .mv (.t 1), none⟩, ⟨some 9, .len (.t 8), none⟩, ⟨some 10, .bin .neq (.t 7) (.t 9), none⟩] [6, 7, 8, 9])
 (.cond (.t 10) (.seq (.ops [] [⟨some 4, .mv (.c (.d (.bool false))), none⟩] [0, 1, 10])
 (.ret [4])) .skip))
 (.seq (.seq (.ops [] [⟨some 5, .mv (.c (.d (.int .i64 0))), none⟩] [10])
 (.block 0 (.loop [] l_ref05_Same_0)))
 (.seq (.ops [] [⟨some 4, .mv (.c (.d (.bool true))), none⟩] [0, 1, 5, 14])
 (.ret [4])))))
def r_ref05_Same : List ARes := [.t 4]
def fn_ref05_Same : AFn := .code c_ref05_Same r_ref05_Same 26 true
/- shardqueue/shardqueueref08.Same -/
def c_ref08_Same : ACode :=
 (.seq (.ops [] [⟨some 2, .box (.t 0), none⟩, ⟨some 3, .box (.t 1), none⟩, ⟨some 4, .mv (.c (.d (.bool false))), none⟩] [0, 1, 4])
 (.seq (.ops [] [⟨some 5, .fad false 0 1 (.t 2), none⟩, ⟨some 6, .ld false 1 (.t 5), none⟩, ⟨some 7, .fad false 0 1 (.t 3), none⟩, ⟨some 8, .ld false 1 (.t 7), none⟩, ⟨some 9, .bin .eql (.t 6) (.t 8), none⟩, ⟨some 10, .mv (.t 9), none⟩, ⟨some 11, .fad false 1 1 (.t 2), some (10, true)⟩, ⟨some 12, .ld false 1 (.t 11), some (10, true)⟩, ⟨some 13, .fad false 1 1 (.t 3), some (10, true)⟩, ⟨some 14, .ld false 1 (.t 13), some (10, true)⟩, ⟨some 15, .call N_ref03_Same [] [.t 12, .t 14], some (10, true)⟩, ⟨some 16, .pick (.t 10) (.t 15) (.c (.d (.bool false))), none⟩, ⟨some 4, .mv (.t 16), none⟩] [2, 3, 5, 6, 7, 8, 9, 10, 11, 12, 13, 14, 15, 16])
 (.ret [4])))
def r_ref08_Same : List ARes := [.t 4]
def fn_ref08_Same : AFn := .code c_ref08_Same r_ref08_Same 17 true
/- shardqueue/shardqueueref11.Same -/
def l_ref11_Same_0 : ACode :=
 (.seq (.seq (.ops [] [⟨some 11, .mv (.t 5), none⟩, ⟨some 12, .mv (.t 0), none⟩, ⟨some 13, .len (.t 12), none⟩, ⟨some 14, .bin .lss (.t 11) (.t 13), none⟩] [11, 12, 13])
 (.cond (.t 14) .skip (.exit 0 [])))
 (.seq (.block 1 (.seq (.draw [] [⟨some 17, .mv (.t 0), none⟩, ⟨some 18, .mv (.t 5), none⟩, ⟨some 19, .iad 4 (.t 17) (.t 18), none⟩, ⟨some 20, .ld true 4 (.t 19), none⟩, ⟨some 21, .mv (.t 1), none⟩, ⟨some 22, .mv (.t 5), none⟩, ⟨some 23, .iad 4 (.t 21) (.t 22), none⟩, ⟨some 24, .ld true 4 (.t 23), none⟩, ⟨some 25, .eqs true 4 [(0, 0), (1, 0), (2, 0), (3, 0)] (.t 20) (.t 24), none⟩] [[], [0], [], [], [0, 1, 2, 3], [0, 1, 2, 3, 4], [0, 1, 2, 3], [0, 1, 2, 3], []] [14, 17, 18, 19, 20, 21, 22, 23, 24])
 (.cond (.t 25) (.seq (.ops [] [⟨some 4, .mv (.c (.d (.bool false))), none⟩] [0, 1, 5, 25])
 (.ret [4])) .skip)))
 (.ops [] [⟨some 15, .mv (.t 5), none⟩, ⟨some 16, .bin .add (.t 15) (.c (.d (.int .i64 1))), none⟩, ⟨some 5, .mv (.t 16), none⟩] [15, 16, 25])))
def c_ref11_Same : ACode :=
 (.seq (.ops [] [⟨some 4, .mv (.c (.d (.bool false))), none⟩] [4])
 (.seq (.seq (.ops [] [⟨some 6, .mv (.t 0), none⟩, ⟨some 7, .len (.t 6), none⟩, ⟨some 8, .mv (.t 1), none⟩, ⟨some 9, .len (.t 8), none⟩, ⟨some 10, .bin .neq (.t 7) (.t 9), none⟩] [6, 7, 8, 9])
 (.cond (.t 10) (.seq (.ops [] [⟨some 4, .mv (.c (.d (.bool false))), none⟩] [0, 1, 10])
 (.ret [4])) .skip))
 (.seq (.seq (.ops [] [⟨some 5, .mv (.c (.d (.int .i64 0))), none⟩] [10])
 (.block 0 (.loop [] l_ref11_Same_0)))
 (.seq (.ops [] [⟨some 4, .mv (.c (.d (.bool true))), none⟩] [0, 1, 5, 14])
 (.ret [4])))))
def r_ref11_Same : List ARes := [.t 4]
def fn_ref11_Same : AFn := .code c_ref11_Same r_ref11_Same 26 true
/- shardqueue/shardqueueref10.Same -/
def l_ref10_Same_0 : ACode :=
 (.seq (.seq (.ops [] [⟨some 30, .mv (.t 5), none⟩, ⟨some 31, .fad false 1 1 (.t 2), none⟩, ⟨some 32, .ld false 1 (.t 31), none⟩, ⟨some 33, .len (.t 32), none⟩, ⟨some 34, .bin .lss (.t 30) (.t 33), none⟩] [30, 31, 32, 33])
 (.cond (.t 34) .skip (.exit 0 [2, 3])))
 (.seq (.block 1 (.seq (.draw [] [⟨some 37, .fad false 1 1 (.t 2), none⟩, ⟨some 38, .ld false 1 (.t 37), none⟩, ⟨some 39, .mv (.t 5), none⟩, ⟨some 40, .iad 3 (.t 38) (.t 39), none⟩, ⟨some 41, .ld true 3 (.t 40), none⟩, ⟨some 42, .fad false 1 1 (.t 3), none⟩, ⟨some 43, .ld false 1 (.t 42), none⟩, ⟨some 44, .mv (.t 5), none⟩, ⟨some 45, .iad 3 (.t 43) (.t 44), none⟩, ⟨some 46, .ld true 3 (.t 45), none⟩, ⟨some 47, .eqs true 3 [(0, 0), (1, 0), (2, 0)] (.t 41) (.t 46), none⟩] [[], [], [0, 1], [], [], [0, 1, 2, 3, 4], [0, 1, 2, 3, 4], [0, 1, 2, 3, 4, 5, 6], [0, 1, 2, 3, 4], [0, 1, 2, 3, 4], []] [34, 37, 38, 39, 40, 41, 42, 43, 44, 45, 46])
 (.cond (.t 47) (.seq (.ops [] [⟨some 4, .mv (.c (.d (.bool false))), none⟩] [2, 3, 5, 47])
 (.ret [4])) .skip)))
 (.ops [] [⟨some 35, .mv (.t 5), none⟩, ⟨some 36, .bin .add (.t 35) (.c (.d (.int .i64 1))), none⟩, ⟨some 5, .mv (.t 36), none⟩] [35, 36, 47])))
def l_ref10_Same_1 : ACode :=
 (.seq (.seq (.ops [] [⟨some 48, .mv (.t 6), none⟩, ⟨some 49, .fad false 2 1 (.t 2), none⟩, ⟨some 50, .ld false 1 (.t 49), none⟩, ⟨some 51, .len (.t 50), none⟩, ⟨some 52, .bin .lss (.t 48) (.t 51), none⟩] [48, 49, 50, 51])
 (.cond (.t 52) .skip (.exit 2 [])))
 (.seq (.block 3 (.seq (.draw [] [⟨some 55, .fad false 2 1 (.t 2), none⟩, ⟨some 56, .ld false 1 (.t 55), none⟩, ⟨some 57, .mv (.t 6), none⟩, ⟨some 58, .iad 1 (.t 56) (.t 57), none⟩, ⟨some 59, .ld false 1 (.t 58), none⟩, ⟨some 60, .fad false 2 1 (.t 3), none⟩, ⟨some 61, .ld false 1 (.t 60), none⟩, ⟨some 62, .mv (.t 6), none⟩, ⟨some 63, .iad 1 (.t 61) (.t 62), none⟩, ⟨some 64, .ld false 1 (.t 63), none⟩, ⟨some 65, .bin .neq (.t 59) (.t 64), none⟩] [[], [], [0, 1], [], [], [0, 1, 2, 3, 4], [0, 1, 2, 3, 4], [0, 1, 2, 3, 4, 5, 6], [0, 1, 2, 3, 4], [0, 1, 2, 3, 4], []] [52, 55, 56, 57, 58, 59, 60, 61, 62, 63, 64])
 (.cond (.t 65) (.seq (.ops [] [⟨some 4, .mv (.c (.d (.bool false))), none⟩] [2, 3, 6, 65])
 (.ret [4])) .skip)))
 (.ops [] [⟨some 53, .mv (.t 6), none⟩, ⟨some 54, .bin .add (.t 53) (.c (.d (.int .i64 1))), none⟩, ⟨some 6, .mv (.t 54), none⟩] [53, 54, 65])))
def c_ref10_Same : ACode :=
 (.seq (.ops [] [⟨some 2, .box (.t 0), none⟩, ⟨some 3, .box (.t 1), none⟩, ⟨some 4, .mv (.c (.d (.bool false))), none⟩] [0, 1, 4])
 (.seq (.seq (.ops [] [⟨some 7, .fad false 0 1 (.t 2), none⟩, ⟨some 8, .ld false 1 (.t 7), none⟩, ⟨some 9, .fad false 0 1 (.t 3), none⟩, ⟨some 10, .ld false 1 (.t 9), none⟩, ⟨some 11, .bin .neq (.t 8) (.t 10), none⟩, ⟨some 12, .mv (.t 11), none⟩, ⟨some 13, .fad false 1 1 (.t 2), some (12, false)⟩, ⟨some 14, .ld false 1 (.t 13), some (12, false)⟩, ⟨some 15, .len (.t 14), some (12, false)⟩, ⟨some 16, .fad false 1 1 (.t 3), some (12, false)⟩, ⟨some 17, .ld false 1 (.t 16), some (12, false)⟩, ⟨some 18, .len (.t 17), some (12, false)⟩, ⟨some 19, .bin .neq (.t 15) (.t 18), some (12, false)⟩, ⟨some 20, .pick (.t 12) (.c (.d (.bool true))) (.t 19), none⟩, ⟨some 21, .mv (.t 20), none⟩, ⟨some 22, .fad false 2 1 (.t 2), some (21, false)⟩, ⟨some 23, .ld false 1 (.t 22), some (21, false)⟩, ⟨some 24, .len (.t 23), some (21, false)⟩, ⟨some 25, .fad false 2 1 (.t 3), some (21, false)⟩, ⟨some 26, .ld false 1 (.t 25), some (21, false)⟩, ⟨some 27, .len (.t 26), some (21, false)⟩, ⟨some 28, .bin .neq (.t 24) (.t 27), some (21, false)⟩, ⟨some 29, .pick (.t 21) (.c (.d (.bool true))) (.t 28), none⟩] [7, 8, 9, 10, 11, 12, 13, 14, 15, 16, 17, 18, 19, 20, 21, 22, 23, 24, 25, 26, 27, 28])
 (.cond (.t 29) (.seq (.ops [] [⟨some 4, .mv (.c (.d (.bool false))), none⟩] [2, 3, 29])
 (.ret [4])) .skip))
 (.seq (.seq (.ops [] [⟨some 5, .mv (.c (.d (.int .i64 0))), none⟩] [29])
 (.block 0 (.loop [] l_ref10_Same_0)))
 (.seq (.seq (.ops [] [⟨some 6, .mv (.c (.d (.int .i64 0))), none⟩] [5, 34])
 (.block 2 (.loop [] l_ref10_Same_1)))
 (.seq (.ops [] [⟨some 4, .mv (.c (.d (.bool true))), none⟩] [2, 3, 6, 52])
 (.ret [4]))))))
def r_ref10_Same : List ARes := [.t 4]
def fn_ref10_Same : AFn := .code c_ref10_Same r_ref10_Same 66 true
/- shardqueue/shardqueueref15.SameOutcome -/
def l_ref15_SameOutcome_0 : ACode :=
 (.seq (.seq (.ops [] [⟨some 13, .mv (.t 5), none⟩, ⟨some 14, .fad false 5 1 (.t 2), none⟩, ⟨some 15, .ld false 1 (.t 14), none⟩, ⟨some 16, .len (.t 15), none⟩, ⟨some 17, .bin .lss (.t 13) (.t 16), none⟩] [13, 14, 15, 16])
 (.cond (.t 17) .skip (.exit 0 [2, 3])))
 (.seq (.block 1 (.seq (.draw [] [⟨some 20, .fad false 5 1 (.t 2), none⟩, ⟨some 21, .ld false 1 (.t 20), none⟩, ⟨some 22, .mv (.t 5), none⟩, ⟨some 23, .iad 4 (.t 21) (.t 22), none⟩, ⟨some 24, .ld true 4 (.t 23), none⟩, ⟨some 25, .fad false 5 1 (.t 3), none⟩, ⟨some 26, .ld false 1 (.t 25), none⟩, ⟨some 27, .mv (.t 5), none⟩, ⟨some 28, .iad 4 (.t 26) (.t 27), none⟩, ⟨some 29, .ld true 4 (.t 28), none⟩, ⟨some 30, .eqs true 4 [(0, 0), (1, 0), (2, 0), (3, 0)] (.t 24) (.t 29), none⟩] [[], [], [0, 1], [], [], [0, 1, 2, 3, 4], [0, 1, 2, 3, 4], [0, 1, 2, 3, 4, 5, 6], [0, 1, 2, 3, 4], [0, 1, 2, 3, 4], []] [17, 20, 21, 22, 23, 24, 25, 26, 27, 28, 29])
 (.cond (.t 30) (.seq (.ops [] [⟨some 4, .mv (.c (.d (.bool false))), none⟩] [2, 3, 5, 30])
 (.ret [4])) .skip)))
 (.ops [] [⟨some 18, .mv (.t 5), none⟩, ⟨some 19, .bin .add (.t 18) (.c (.d (.int .i64 1))), none⟩, ⟨some 5, .mv (.t 19), none⟩] [18, 19, 30])))
def c_ref15_SameOutcome : ACode :=
 (.seq (.ops [] [⟨some 2, .box (.t 0), none⟩, ⟨some 3, .box (.t 1), none⟩, ⟨some 4, .mv (.c (.d (.bool false))), none⟩] [0, 1, 4])
 (.seq (.seq (.ops [] [⟨some 6, .fad false 5 1 (.t 2), none⟩, ⟨some 7, .ld false 1 (.t 6), none⟩, ⟨some 8, .len (.t 7), none⟩, ⟨some 9, .fad false 5 1 (.t 3), none⟩, ⟨some 10, .ld false 1 (.t 9), none⟩, ⟨some 11, .len (.t 10), none⟩, ⟨some 12, .bin .neq (.t 8) (.t 11), none⟩] [6, 7, 8, 9, 10, 11])
 (.cond (.t 12) (.seq (.ops [] [⟨some 4, .mv (.c (.d (.bool false))), none⟩] [2, 3, 12])
 (.ret [4])) .skip))
 (.seq (.seq (.ops [] [⟨some 5, .mv (.c (.d (.int .i64 0))), none⟩] [12])
 (.block 0 (.loop [] l_ref15_SameOutcome_0)))
 (.seq (.ops [] [⟨some 31, .fad false 0 1 (.t 2), none⟩, ⟨some 32, .ld false 1 (.t 31), none⟩, ⟨some 33, .fad false 0 1 (.t 3), none⟩, ⟨some 34, .ld false 1 (.t 33), none⟩, ⟨some 35, .call N_ref15_sameShards [] [.t 32, .t 34], none⟩, ⟨some 36, .mv (.t 35), none⟩, ⟨some 37, .fad true 1 2 (.t 2), some (36, true)⟩, ⟨some 38, .ld true 2 (.t 37), some (36, true)⟩, ⟨some 39, .fad true 1 2 (.t 3), some (36, true)⟩, ⟨some 40, .ld true 2 (.t 39), some (36, true)⟩, ⟨some 41, .call N_ref08_Same [] [.t 38, .t 40], some (36, true)⟩, ⟨some 42, .pick (.t 36) (.t 41) (.c (.d (.bool false))), none⟩, ⟨some 43, .mv (.t 42), none⟩, ⟨some 44, .fad false 3 1 (.t 2), some (43, true)⟩, ⟨some 45, .ld false 1 (.t 44), some (43, true)⟩, ⟨some 46, .fad false 3 1 (.t 3), some (43, true)⟩, ⟨some 47, .ld false 1 (.t 46), some (43, true)⟩, ⟨some 48, .call N_ref13_SameInts [] [.t 45, .t 47], some (43, true)⟩, ⟨some 49, .pick (.t 43) (.t 48) (.c (.d (.bool false))), none⟩, ⟨some 50, .mv (.t 49), none⟩, ⟨some 51, .fad false 4 1 (.t 2), some (50, true)⟩, ⟨some 52, .ld false 1 (.t 51), some (50, true)⟩, ⟨some 53, .fad false 4 1 (.t 3), some (50, true)⟩, ⟨some 54, .ld false 1 (.t 53), some (50, true)⟩, ⟨some 55, .call N_ref03_Same [] [.t 52, .t 54], some (50, true)⟩, ⟨some 56, .pick (.t 50) (.t 55) (.c (.d (.bool false))), none⟩, ⟨some 4, .mv (.t 56), none⟩] [2, 3, 5, 17, 31, 32, 33, 34, 35, 36, 37, 38, 39, 40, 41, 42, 43, 44, 45, 46, 47, 48, 49, 50, 51, 52, 53, 54, 55, 56])
 (.ret [4])))))
def r_ref15_SameOutcome : List ARes := [.t 4]
def fn_ref15_SameOutcome : AFn := .code c_ref15_SameOutcome r_ref15_SameOutcome 57 true
/- shardqueue/batch.Entries -/
def c_batch_Entries : ACode :=
 (.seq (.ops [] [⟨some 1, .box (.t 0), none⟩, ⟨some 2, .mv (.c (.d (.int .i64 0))), none⟩] [0, 2])
 (.seq (.seq (.ops [] [⟨some 3, .fad false 0 1 (.t 1), none⟩, ⟨some 4, .ld false 1 (.t 3), none⟩] [3])
 (.block 0 (.seq (.ops [] [⟨some 6, .bin .eql (.t 4) (.c (.d (.int .i64 1))), none⟩, ⟨some 5, .mv (.t 6), none⟩] [6])
 (.cond (.t 5) (.seq (.ops [] [⟨some 7, .fad false 6 1 (.t 1), none⟩, ⟨some 8, .ld false 1 (.t 7), none⟩, ⟨some 9, .len (.t 8), none⟩, ⟨some 2, .mv (.t 9), none⟩] [1, 4, 5, 7, 8, 9])
 (.ret [2])) (.seq (.seq (.ops [] [⟨some 11, .bin .eql (.t 4) (.c (.d (.int .i64 3))), none⟩, ⟨some 10, .mv (.t 11), none⟩] [5, 11])
 (.cond (.t 10) .skip (.seq (.ops [] [⟨some 12, .bin .eql (.t 4) (.c (.d (.int .i64 4))), none⟩, ⟨some 10, .mv (.t 12), none⟩] [12])
 (.cond (.t 10) .skip (.ops [] [⟨some 13, .bin .eql (.t 4) (.c (.d (.int .i64 5))), none⟩, ⟨some 10, .mv (.t 13), none⟩] [4, 13])))))
 (.cond (.t 10) (.seq (.ops [] [⟨some 14, .fad false 7 1 (.t 1), none⟩, ⟨some 15, .ld false 1 (.t 14), none⟩, ⟨some 16, .len (.t 15), none⟩, ⟨some 2, .mv (.t 16), none⟩] [1, 4, 10, 14, 15, 16])
 (.ret [2])) .skip))))))
 (.seq (.ops [] [⟨some 2, .mv (.c (.d (.int .i64 1))), none⟩] [1, 4, 10])
 (.ret [2]))))
def r_batch_Entries : List ARes := [.t 2]
def fn_batch_Entries : AFn := .code c_batch_Entries r_batch_Entries 17 true
/- shardqueue/shardqueueref17.Entries -/
def c_ref17_Entries : ACode :=
 (.seq (.ops [] [⟨some 1, .box (.t 0), none⟩, ⟨some 2, .mv (.c (.d (.int .i64 0))), none⟩] [0, 2])
 (.seq (.seq (.ops [] [⟨some 3, .fad false 0 1 (.t 1), none⟩, ⟨some 4, .ld false 1 (.t 3), none⟩] [3])
 (.block 0 (.seq (.ops [] [⟨some 6, .bin .eql (.t 4) (.c (.d (.int .i64 1))), none⟩, ⟨some 5, .mv (.t 6), none⟩] [6])
 (.cond (.t 5) (.seq (.ops [] [⟨some 7, .fad false 6 1 (.t 1), none⟩, ⟨some 8, .ld false 1 (.t 7), none⟩, ⟨some 9, .len (.t 8), none⟩, ⟨some 2, .mv (.t 9), none⟩] [1, 4, 5, 7, 8, 9])
 (.ret [2])) (.seq (.seq (.ops [] [⟨some 11, .bin .eql (.t 4) (.c (.d (.int .i64 3))), none⟩, ⟨some 10, .mv (.t 11), none⟩] [5, 11])
 (.cond (.t 10) .skip (.seq (.ops [] [⟨some 12, .bin .eql (.t 4) (.c (.d (.int .i64 4))), none⟩, ⟨some 10, .mv (.t 12), none⟩] [12])
 (.cond (.t 10) .skip (.ops [] [⟨some 13, .bin .eql (.t 4) (.c (.d (.int .i64 5))), none⟩, ⟨some 10, .mv (.t 13), none⟩] [4, 13])))))
 (.cond (.t 10) (.seq (.ops [] [⟨some 14, .fad false 7 1 (.t 1), none⟩, ⟨some 15, .ld false 1 (.t 14), none⟩, ⟨some 16, .len (.t 15), none⟩, ⟨some 2, .mv (.t 16), none⟩] [1, 4, 10, 14, 15, 16])
 (.ret [2])) .skip))))))
 (.seq (.ops [] [⟨some 2, .mv (.c (.d (.int .i64 1))), none⟩] [1, 4, 10])
 (.ret [2]))))
def r_ref17_Entries : List ARes := [.t 2]
def fn_ref17_Entries : AFn := .code c_ref17_Entries r_ref17_Entries 17 true
/- shardqueue/shardqueuelaw17.awake -/
def c_law17_awake : ACode :=
 (.seq (.ops [] [⟨some 0, .mv (.c (.d (.bool false))), none⟩] [0])
 (.seq (.ops [] [⟨some 4, .bsl 2 1 (.d (.str [])) [(0, .c (.d (.str [97]))), (1, .c (.d (.str [98])))], none⟩, ⟨some 5, .build [.d (.int .i64 0), .d (.int .i64 0), .d (.int .i64 0), .d (.int .i64 0), .d (.int .i64 0), .d (.int .i64 0), .xsl [], .xsl []] [(0, (1, .c (.d (.int .i64 1)))), (6, (1, .t 4))], none⟩, ⟨some 1, .alloc (.agg [.d (.int .i64 0), .d (.int .i64 0), .d (.int .i64 0), .d (.int .i64 0), .d (.int .i64 0), .d (.int .i64 0), .xsl [], .xsl []]), none⟩, ⟨none, .st 8 (.t 1) (.t 5), none⟩] [4, 5])
 (.seq (.ops [] [⟨some 7, .ld true 8 (.t 1), none⟩, ⟨some 8, .build [.d (.int .i64 0), .d (.int .i64 0), .d (.int .i64 0), .d (.int .i64 0), .d (.int .i64 0), .d (.int .i64 0), .d (.int .i64 0), .d (.int .i64 0)] [(0, (1, .c (.d (.int .i64 1)))), (1, (1, .c (.d (.int .i64 1)))), (2, (1, .c (.d (.int .i64 1)))), (3, (1, .c (.d (.int .i64 1)))), (4, (1, .c (.d (.int .i64 1)))), (6, (1, .c (.d (.int .i64 1))))], none⟩, ⟨some 9, .call N_batch_Start [] [.c (.d (.int .i64 1)), .t 7, .t 8, .c (.d (.int .i64 0))], none⟩, ⟨some 6, .mv (.t 9), none⟩, ⟨some 10, .ext (.t 6) 0, none⟩, ⟨some 11, .ext (.t 6) 1, none⟩, ⟨some 2, .alloc (.agg [.d (.int .i64 0), .d (.int .i64 0), .d (.int .i64 0), .d (.int .i64 0), .d (.int .i64 0), .d (.int .i64 0), .d (.int .i64 0), .xsl [], .xsl [], .d (.int .i64 0), .d (.bool false), .d (.int .i64 0), .d (.int .i64 0), .d (.int .i64 0), .xsl [], .d (.int .i64 0), .d (.int .i64 0), .d (.int .i64 0), .d (.int .i64 0), .d (.int .i64 0), .d (.int .i64 0), .d (.int .i64 0), .d (.int .i64 0), .d (.int .i64 0), .d (.int .i64 0), .xsl [], .d (.int .i64 0), .d (.int .i64 0), .d (.int .i64 0), .d (.int .i64 0), .d (.int .i64 0), .d (.int .i64 0), .d (.int .i64 0), .d (.int .i64 0), .xsl [], .d (.int .i64 0), .xsl [], .xsl [], .d (.int .i64 0), .xsl [], .xsl [], .xsl [], .d (.int .i64 0), .xsl [], .xsl [], .xsl [], .xsl [], .d (.int .i64 0), .xsl [], .d (.int .i64 0), .xsl [], .xsl [], .d (.int .i64 0), .d (.int .i64 0), .d (.int .i64 0), .d (.int .i64 0), .d (.int .i64 0), .d (.int .i64 0), .d (.int .i64 0), .d (.int .i64 0), .d (.int .i64 0), .xsl [], .xsl []]), none⟩, ⟨none, .st 63 (.t 2) (.t 10), none⟩, ⟨some 3, .mv (.t 11), none⟩] [6, 7, 8, 9, 10, 11])
 (.seq (.ops [] [⟨some 12, .ld true 63 (.t 2), none⟩, ⟨some 13, .build [.d (.int .i64 0), .d (.int .i64 0), .xsl [], .xsl [], .d (.int .i64 0), .d (.int .i64 0), .d (.int .i64 0)] [(1, (1, .c (.d (.int .i64 1))))], none⟩, ⟨some 14, .call N_batch_Next [] [.t 12, .t 13, .c (.d (.int .i64 5))], none⟩, ⟨none, .st 63 (.t 2) (.t 14), none⟩] [12, 13, 14])
 (.seq (.ops [] [⟨some 15, .mv (.t 3), none⟩, ⟨some 16, .bin .eql (.t 15) (.c (.d (.int .i64 0))), none⟩, ⟨some 17, .mv (.t 16), none⟩, ⟨some 18, .ld true 8 (.t 1), some (17, true)⟩, ⟨some 19, .call N_batch_Entries [] [.t 18], some (17, true)⟩, ⟨some 20, .bin .eql (.t 19) (.c (.d (.int .i64 2))), some (17, true)⟩, ⟨some 21, .pick (.t 17) (.t 20) (.c (.d (.bool false))), none⟩, ⟨some 22, .mv (.t 21), none⟩, ⟨some 23, .fad false 13 1 (.t 2), some (22, true)⟩, ⟨some 24, .ld false 1 (.t 23), some (22, true)⟩, ⟨some 25, .bin .eql (.t 24) (.c (.d (.int .i64 1))), some (22, true)⟩, ⟨some 26, .pick (.t 22) (.t 25) (.c (.d (.bool false))), none⟩, ⟨some 27, .mv (.t 26), none⟩, ⟨some 28, .fad false 10 1 (.t 2), some (27, true)⟩, ⟨some 29, .ld false 1 (.t 28), some (27, true)⟩, ⟨some 30, .un .not (.t 29), some (27, true)⟩, ⟨some 31, .pick (.t 27) (.t 30) (.c (.d (.bool false))), none⟩, ⟨some 0, .mv (.t 31), none⟩] [1, 2, 3, 15, 16, 17, 18, 19, 20, 21, 22, 23, 24, 25, 26, 27, 28, 29, 30, 31])
 (.ret [0]))))))
def r_law17_awake : List ARes := [.t 0]
def fn_law17_awake : AFn := .code c_law17_awake r_law17_awake 32 true
/- shardqueue/batch.Next -/
def c_batch_Next : ACode :=
 (.seq (.ops [] [⟨some 3, .box (.t 0), none⟩, ⟨some 4, .box (.t 1), none⟩, ⟨some 6, .alloc (.agg [.d (.int .i64 0), .d (.int .i64 0), .d (.int .i64 0), .d (.int .i64 0), .d (.int .i64 0), .d (.int .i64 0), .d (.int .i64 0), .xsl [], .xsl [], .d (.int .i64 0), .d (.bool false), .d (.int .i64 0), .d (.int .i64 0), .d (.int .i64 0), .xsl [], .d (.int .i64 0), .d (.int .i64 0), .d (.int .i64 0), .d (.int .i64 0), .d (.int .i64 0), .d (.int .i64 0), .d (.int .i64 0), .d (.int .i64 0), .d (.int .i64 0), .d (.int .i64 0), .xsl [], .d (.int .i64 0), .d (.int .i64 0), .d (.int .i64 0), .d (.int .i64 0), .d (.int .i64 0), .d (.int .i64 0), .d (.int .i64 0), .d (.int .i64 0), .xsl [], .d (.int .i64 0), .xsl [], .xsl [], .d (.int .i64 0), .xsl [], .xsl [], .xsl [], .d (.int .i64 0), .xsl [], .xsl [], .xsl [], .xsl [], .d (.int .i64 0), .xsl [], .d (.int .i64 0), .xsl [], .xsl [], .d (.int .i64 0), .d (.int .i64 0), .d (.int .i64 0), .d (.int .i64 0), .d (.int .i64 0), .d (.int .i64 0), .d (.int .i64 0), .d (.int .i64 0), .d (.int .i64 0), .xsl [], .xsl []]), none⟩] [0, 1])
 (.seq (.ops [] [⟨some 8, .fad false 0 1 (.t 3), none⟩, ⟨some 9, .ld false 1 (.t 8), none⟩, ⟨some 10, .fad true 1 8 (.t 3), none⟩, ⟨some 11, .ld true 8 (.t 10), none⟩, ⟨some 12, .fad true 15 8 (.t 3), none⟩, ⟨some 13, .ld true 8 (.t 12), none⟩, ⟨some 14, .fad false 9 1 (.t 3), none⟩, ⟨some 15, .ld false 1 (.t 14), none⟩, ⟨some 16, .fad false 10 1 (.t 3), none⟩, ⟨some 17, .ld false 1 (.t 16), none⟩, ⟨some 18, .fad false 11 1 (.t 3), none⟩, ⟨some 19, .ld false 1 (.t 18), none⟩, ⟨some 20, .fad false 13 1 (.t 3), none⟩, ⟨some 21, .ld false 1 (.t 20), none⟩, ⟨some 22, .bin .add (.t 21) (.c (.d (.int .i64 1))), none⟩, ⟨some 23, .build [.d (.int .i64 0), .d (.int .i64 0), .d (.int .i64 0), .d (.int .i64 0), .d (.int .i64 0), .d (.int .i64 0), .d (.int .i64 0), .xsl [], .xsl [], .d (.int .i64 0), .d (.bool false), .d (.int .i64 0), .d (.int .i64 0), .d (.int .i64 0), .xsl [], .d (.int .i64 0), .d (.int .i64 0), .d (.int .i64 0), .d (.int .i64 0), .d (.int .i64 0), .d (.int .i64 0), .d (.int .i64 0), .d (.int .i64 0), .d (.int .i64 0), .d (.int .i64 0), .xsl [], .d (.int .i64 0), .d (.int .i64 0), .d (.int .i64 0), .d (.int .i64 0), .d (.int .i64 0), .d (.int .i64 0), .d (.int .i64 0), .d (.int .i64 0), .xsl [], .d (.int .i64 0), .xsl [], .xsl [], .d (.int .i64 0), .xsl [], .xsl [], .xsl [], .d (.int .i64 0), .xsl [], .xsl [], .xsl [], .xsl [], .d (.int .i64 0), .xsl [], .d (.int .i64 0), .xsl [], .xsl [], .d (.int .i64 0), .d (.int .i64 0), .d (.int .i64 0), .d (.int .i64 0), .d (.int .i64 0), .d (.int .i64 0), .d (.int .i64 0), .d (.int .i64 0), .d (.int .i64 0), .xsl [], .xsl []] [(0, (1, .t 9)), (1, (8, .t 11)), (15, (8, .t 13)), (9, (1, .t 15)), (10, (1, .t 17)), (11, (1, .t 19)), (13, (1, .t 22))], none⟩, ⟨some 7, .alloc (.agg [.d (.int .i64 0), .d (.int .i64 0), .d (.int .i64 0), .d (.int .i64 0), .d (.int .i64 0), .d (.int .i64 0), .d (.int .i64 0), .xsl [], .xsl [], .d (.int .i64 0), .d (.bool false), .d (.int .i64 0), .d (.int .i64 0), .d (.int .i64 0), .xsl [], .d (.int .i64 0), .d (.int .i64 0), .d (.int .i64 0), .d (.int .i64 0), .d (.int .i64 0), .d (.int .i64 0), .d (.int .i64 0), .d (.int .i64 0), .d (.int .i64 0), .d (.int .i64 0), .xsl [], .d (.int .i64 0), .d (.int .i64 0), .d (.int .i64 0), .d (.int .i64 0), .d (.int .i64 0), .d (.int .i64 0), .d (.int .i64 0), .d (.int .i64 0), .xsl [], .d (.int .i64 0), .xsl [], .xsl [], .d (.int .i64 0), .xsl [], .xsl [], .xsl [], .d (.int .i64 0), .xsl [], .xsl [], .xsl [], .xsl [], .d (.int .i64 0), .xsl [], .d (.int .i64 0), .xsl [], .xsl [], .d (.int .i64 0), .d (.int .i64 0), .d (.int .i64 0), .d (.int .i64 0), .d (.int .i64 0), .d (.int .i64 0), .d (.int .i64 0), .d (.int .i64 0), .d (.int .i64 0), .xsl [], .xsl []]), none⟩, ⟨none, .st 63 (.t 7) (.t 23), none⟩] [8, 9, 10, 11, 12, 13, 14, 15, 16, 17, 18, 19, 20, 21, 22, 23])
 (.seq (.draw [] [⟨some 24, .fad false 14 1 (.t 3), none⟩, ⟨some 25, .ld false 1 (.t 24), none⟩, ⟨some 26, .call N_slices_Clip_api_Result [] [.t 25], none⟩, ⟨some 27, .ld true 7 (.t 4), none⟩, ⟨some 28, .bsl 1 7 (.agg [.d (.int .i64 0), .d (.int .i64 0), .xsl [], .xsl [], .d (.int .i64 0), .d (.int .i64 0), .d (.int .i64 0)]) [(0, .t 27)], none⟩, ⟨some 29, .app 7 (.t 26) (.t 28), none⟩, ⟨some 30, .fad false 14 1 (.t 7), none⟩, ⟨none, .st 1 (.t 30) (.t 29), none⟩] [[], [], [], [0, 1, 2], [0, 1, 2], [], [], []] [4, 24, 25, 26, 27, 28, 29, 30])
 (.seq (.seq (.draw [] [⟨some 31, .fad false 13 1 (.t 7), none⟩, ⟨some 32, .ld false 1 (.t 31), none⟩, ⟨some 33, .fad true 1 8 (.t 3), none⟩, ⟨some 34, .ld true 8 (.t 33), none⟩, ⟨some 35, .call N_batch_Entries [] [.t 34], none⟩, ⟨some 36, .bin .eql (.t 32) (.t 35), none⟩] [[], [], [0, 1], [0, 1], [0, 1], []] [3, 31, 32, 33, 34, 35])
 (.cond (.t 36) (.ops [] [⟨some 37, .mv (.t 2), none⟩, ⟨some 38, .fad false 10 1 (.t 7), none⟩, ⟨none, .st 1 (.t 38) (.c (.d (.bool true))), none⟩, ⟨some 39, .fad false 11 1 (.t 7), none⟩, ⟨none, .st 1 (.t 39) (.t 37), none⟩] [2, 36, 37, 38, 39]) .skip))
 (.seq (.ops [] [⟨some 40, .ld true 63 (.t 7), none⟩, ⟨none, .st 63 (.t 6) (.t 40), none⟩] [2, 7, 36, 40])
 (.ret [6]))))))
def r_batch_Next : List ARes := [.c 6 true 63]
def fn_batch_Next : AFn := .code c_batch_Next r_batch_Next 41 true
/- slices.Clip[[]shardqueue/api.Result,shardqueue/api.Result] -/
def c_slices_Clip_api_Result : ACode :=
 (.seq (.ops [] [⟨some 2, .mv (.c (.xsl [])), none⟩] [2])
 (.seq (.ops [] [⟨some 3, .mv (.t 0), none⟩, ⟨some 4, .mv (.t 0), none⟩, ⟨some 5, .len (.t 4), none⟩, ⟨some 6, .mv (.t 0), none⟩, ⟨some 7, .len (.t 6), none⟩, ⟨some 8, .slc 7 (.t 3) none (some (.t 5)) (some (.t 7)), none⟩, ⟨some 2, .mv (.t 8), none⟩] [0, 3, 4, 5, 6, 7, 8])
 (.ret [2])))
def r_slices_Clip_api_Result : List ARes := [.t 2]
def fn_slices_Clip_api_Result : AFn := .code c_slices_Clip_api_Result r_slices_Clip_api_Result 9 false
/- shardqueue/shardqueuelaw14.SnapshotHolds -/
def l_law14_SnapshotHolds_0 : ACode :=
 (.seq (.seq (.ops [] [⟨some 22, .mv (.t 9), none⟩, ⟨some 23, .bin .leq (.t 22) (.c (.d (.int .i64 40))), none⟩, ⟨some 24, .mv (.t 23), none⟩, ⟨some 25, .fad false 0 1 (.t 6), some (24, true)⟩, ⟨some 26, .ld false 1 (.t 25), some (24, true)⟩, ⟨some 27, .bin .neq (.t 26) (.c (.d (.int .i64 3))), some (24, true)⟩, ⟨some 28, .pick (.t 24) (.t 27) (.c (.d (.bool false))), none⟩] [22, 23, 24, 25, 26, 27])
 (.cond (.t 28) .skip (.exit 0 [6, 7, 8])))
 (.seq (.block 1 (.seq (.draw [] [⟨some 31, .mv (.t 9), none⟩, ⟨some 32, .mv (.t 9), none⟩, ⟨some 33, .fad false 8 1 (.t 4), none⟩, ⟨some 34, .ld false 1 (.t 33), none⟩, ⟨some 35, .fad false 9 1 (.t 4), none⟩, ⟨some 36, .ld false 1 (.t 35), none⟩, ⟨some 37, .iada false 41 1 (.t 7) (.t 31), none⟩, ⟨none, .st 1 (.t 37) (.t 34), none⟩, ⟨some 38, .iada false 41 1 (.t 8) (.t 32), none⟩, ⟨none, .st 1 (.t 38) (.t 36), none⟩] [[], [0], [0, 1], [0, 1], [0, 1, 2, 3], [0, 1, 2, 3], [1, 4, 5], [1, 4, 5], [], []] [28, 31, 32, 33, 34, 35, 36, 37, 38])
 (.seq (.ops [] [⟨some 40, .ld true 11 (.t 4), none⟩, ⟨some 41, .ld true 4 (.t 6), none⟩, ⟨some 42, .mv (.t 9), none⟩, ⟨some 43, .call N_snapshot_Step [] [.t 40, .t 41, .t 42], none⟩, ⟨some 39, .mv (.t 43), none⟩, ⟨some 44, .ext (.t 39) 0, none⟩, ⟨some 45, .ext (.t 39) 1, none⟩, ⟨some 10, .alloc (.d (.agg [.int .i64 0, .int .i64 0, .int .i64 0, .int .i64 0])), none⟩, ⟨none, .st 4 (.t 10) (.t 44), none⟩, ⟨some 11, .mv (.t 45), none⟩] [39, 40, 41, 42, 43, 44, 45])
 (.seq (.seq (.ops [] [⟨some 46, .mv (.t 11), none⟩, ⟨some 47, .bin .neq (.t 46) (.c (.d (.int .i64 0))), none⟩] [46])
 (.cond (.t 47) (.seq (.ops [] [⟨some 2, .mv (.c (.d (.bool false))), none⟩] [3, 4, 6, 7, 8, 9, 10, 11, 47])
 (.ret [2])) .skip))
 (.seq (.ops [] [⟨some 48, .ld true 4 (.t 10), none⟩, ⟨none, .st 4 (.t 6) (.t 48), none⟩] [10, 47, 48])
 (.seq (.seq (.ops [] [⟨some 49, .mv (.t 3), none⟩, ⟨some 50, .call N_base_Src_N [true, false] [.t 49, .c (.d (.int .i64 3))], none⟩, ⟨some 51, .bin .eql (.t 50) (.c (.d (.int .i64 1))), none⟩] [49, 50])
 (.cond (.t 51) (.ops [] [⟨some 53, .ld true 11 (.t 4), none⟩, ⟨some 54, .fad false 8 1 (.t 4), none⟩, ⟨some 55, .ld false 1 (.t 54), none⟩, ⟨some 56, .fad false 8 1 (.t 4), none⟩, ⟨some 57, .ld false 1 (.t 56), none⟩, ⟨some 58, .bin .add (.t 57) (.c (.d (.int .i64 1))), none⟩, ⟨some 59, .call N_arena_CAS [] [.t 53, .c (.d (.int .i64 1)), .t 55, .t 58], none⟩, ⟨some 52, .mv (.t 59), none⟩, ⟨some 60, .ext (.t 52) 0, none⟩, ⟨some 61, .ext (.t 52) 1, none⟩, ⟨some 62, .ext (.t 52) 2, none⟩, ⟨none, .st 11 (.t 4) (.t 60), none⟩, ⟨some 11, .mv (.t 62), none⟩] [51, 52, 53, 54, 55, 56, 57, 58, 59, 60, 61, 62]) .skip))
 (.seq (.seq (.ops [] [⟨some 63, .mv (.t 11), none⟩, ⟨some 64, .bin .eql (.t 63) (.c (.d (.int .i64 0))), none⟩, ⟨some 65, .mv (.t 64), none⟩, ⟨some 66, .mv (.t 3), some (65, true)⟩, ⟨some 67, .call N_base_Src_N [true, false] [.t 66, .c (.d (.int .i64 2))], some (65, true)⟩, ⟨some 68, .bin .eql (.t 67) (.c (.d (.int .i64 1))), some (65, true)⟩, ⟨some 69, .pick (.t 65) (.t 68) (.c (.d (.bool false))), none⟩] [51, 63, 64, 65, 66, 67, 68])
 (.cond (.t 69) (.draw [] [⟨some 71, .ld true 11 (.t 4), none⟩, ⟨some 72, .mv (.t 3), none⟩, ⟨some 73, .call N_base_Src_N [true, false] [.t 72, .c (.d (.int .i64 5))], none⟩, ⟨some 74, .call N_arena_Tick [] [.t 71, .t 73], none⟩, ⟨some 70, .mv (.t 74), none⟩, ⟨some 75, .ext (.t 70) 0, none⟩, ⟨some 76, .ext (.t 70) 1, none⟩, ⟨none, .st 11 (.t 4) (.t 75), none⟩, ⟨some 11, .mv (.t 76), none⟩] [[], [0], [0], [], [], [], [5], [6], []] [69, 70, 71, 72, 73, 74, 75, 76]) .skip))
 (.seq (.ops [] [⟨some 77, .mv (.t 11), none⟩, ⟨some 78, .bin .neq (.t 77) (.c (.d (.int .i64 0))), none⟩] [11, 69, 77])
 (.cond (.t 78) (.seq (.ops [] [⟨some 2, .mv (.c (.d (.bool false))), none⟩] [3, 4, 6, 7, 8, 9, 78])
 (.ret [2])) .skip)))))))))
 (.ops [] [⟨some 29, .mv (.t 9), none⟩, ⟨some 30, .bin .add (.t 29) (.c (.d (.int .i64 1))), none⟩, ⟨some 9, .mv (.t 30), none⟩] [29, 30, 78])))
def c_law14_SnapshotHolds : ACode :=
 (.seq (.ops [] [⟨some 2, .mv (.c (.d (.bool false))), none⟩] [2])
 (.seq (.ops [] [⟨some 12, .mv (.t 0), none⟩, ⟨some 13, .call N_base_New [] [.t 12], none⟩, ⟨some 3, .mv (.t 13), none⟩] [0, 12, 13])
 (.seq (.ops [] [⟨some 15, .build [.d (.int .i64 0), .d (.int .i64 0), .d (.int .i64 0), .d (.int .i64 0), .d (.int .i64 0), .d (.int .i64 0), .d (.int .i64 0), .d (.int .i64 0)] [(0, (1, .c (.d (.int .i64 1)))), (1, (1, .c (.d (.int .i64 1)))), (2, (1, .c (.d (.int .i64 1)))), (3, (1, .c (.d (.int .i64 1)))), (4, (1, .c (.d (.int .i64 1)))), (6, (1, .c (.d (.int .i64 1))))], none⟩, ⟨some 16, .call N_arena_New [] [.t 15], none⟩, ⟨some 14, .mv (.t 16), none⟩, ⟨some 17, .ext (.t 14) 0, none⟩, ⟨some 18, .ext (.t 14) 1, none⟩, ⟨some 4, .alloc (.agg [.xsl [], .xsl [], .d (.int .i64 0), .d (.int .i64 0), .xsl [], .d (.int .i64 0), .xsl [], .xsl [], .d (.int .i64 0), .d (.int .i64 0), .d (.int .i64 0)]), none⟩, ⟨none, .st 11 (.t 4) (.t 17), none⟩, ⟨some 5, .mv (.t 18), none⟩] [14, 15, 16, 17, 18])
 (.seq (.seq (.ops [] [⟨some 19, .mv (.t 5), none⟩, ⟨some 20, .bin .neq (.t 19) (.c (.d (.int .i64 0))), none⟩] [5, 19])
 (.cond (.t 20) (.seq (.ops [] [⟨some 2, .mv (.c (.d (.bool false))), none⟩] [3, 4, 20])
 (.ret [2])) .skip))
 (.seq (.ops [] [⟨some 21, .call N_snapshot_New [] [], none⟩, ⟨some 6, .alloc (.d (.agg [.int .i64 0, .int .i64 0, .int .i64 0, .int .i64 0])), none⟩, ⟨none, .st 4 (.t 6) (.t 21), none⟩] [20, 21])
 (.seq (.ops [] [⟨some 7, .alloc (.d (.agg [.int .i64 0, .int .i64 0, .int .i64 0, .int .i64 0, .int .i64 0, .int .i64 0, .int .i64 0, .int .i64 0, .int .i64 0, .int .i64 0, .int .i64 0, .int .i64 0, .int .i64 0, .int .i64 0, .int .i64 0, .int .i64 0, .int .i64 0, .int .i64 0, .int .i64 0, .int .i64 0, .int .i64 0, .int .i64 0, .int .i64 0, .int .i64 0, .int .i64 0, .int .i64 0, .int .i64 0, .int .i64 0, .int .i64 0, .int .i64 0, .int .i64 0, .int .i64 0, .int .i64 0, .int .i64 0, .int .i64 0, .int .i64 0, .int .i64 0, .int .i64 0, .int .i64 0, .int .i64 0, .int .i64 0])), none⟩, ⟨some 8, .alloc (.d (.agg [.int .i64 0, .int .i64 0, .int .i64 0, .int .i64 0, .int .i64 0, .int .i64 0, .int .i64 0, .int .i64 0, .int .i64 0, .int .i64 0, .int .i64 0, .int .i64 0, .int .i64 0, .int .i64 0, .int .i64 0, .int .i64 0, .int .i64 0, .int .i64 0, .int .i64 0, .int .i64 0, .int .i64 0, .int .i64 0, .int .i64 0, .int .i64 0, .int .i64 0, .int .i64 0, .int .i64 0, .int .i64 0, .int .i64 0, .int .i64 0, .int .i64 0, .int .i64 0, .int .i64 0, .int .i64 0, .int .i64 0, .int .i64 0, .int .i64 0, .int .i64 0, .int .i64 0, .int .i64 0, .int .i64 0])), none⟩] [])
 (.seq (.seq (.ops [] [⟨some 9, .mv (.c (.d (.int .i64 1))), none⟩] [])
 (.block 0 (.loop [] l_law14_SnapshotHolds_0)))
 (.seq (.seq (.ops [] [⟨some 79, .fad false 0 1 (.t 6), none⟩, ⟨some 80, .ld false 1 (.t 79), none⟩, ⟨some 81, .bin .neq (.t 80) (.c (.d (.int .i64 3))), none⟩] [3, 4, 9, 28, 79, 80])
 (.cond (.t 81) (.seq (.ops [] [⟨some 82, .fad false 0 1 (.t 6), none⟩, ⟨some 83, .ld false 1 (.t 82), none⟩, ⟨some 84, .bin .lss (.t 83) (.c (.d (.int .i64 3))), none⟩, ⟨some 85, .mv (.t 84), none⟩, ⟨some 86, .call N_law14_awake [] [], some (85, true)⟩, ⟨some 87, .pick (.t 85) (.t 86) (.c (.d (.bool false))), none⟩, ⟨some 2, .mv (.t 87), none⟩] [6, 7, 8, 81, 82, 83, 84, 85, 86, 87])
 (.ret [2])) .skip))
 (.seq (.draw [] [⟨some 88, .fad false 3 1 (.t 6), none⟩, ⟨some 89, .ld false 1 (.t 88), none⟩, ⟨some 90, .bin .geq (.t 89) (.c (.d (.int .i64 1))), none⟩, ⟨some 91, .mv (.t 90), none⟩, ⟨some 92, .fad false 3 1 (.t 6), some (91, true)⟩, ⟨some 93, .ld false 1 (.t 92), some (91, true)⟩, ⟨some 94, .bin .leq (.t 93) (.c (.d (.int .i64 40))), some (91, true)⟩, ⟨some 95, .pick (.t 91) (.t 94) (.c (.d (.bool false))), none⟩, ⟨some 96, .mv (.t 95), none⟩, ⟨some 97, .fad false 1 1 (.t 6), some (96, true)⟩, ⟨some 98, .ld false 1 (.t 97), some (96, true)⟩, ⟨some 99, .fad false 3 1 (.t 6), some (96, true)⟩, ⟨some 100, .ld false 1 (.t 99), some (96, true)⟩, ⟨some 101, .iada false 41 1 (.t 7) (.t 100), some (96, true)⟩, ⟨some 102, .ld false 1 (.t 101), some (96, true)⟩, ⟨some 103, .bin .eql (.t 98) (.t 102), some (96, true)⟩, ⟨some 104, .pick (.t 96) (.t 103) (.c (.d (.bool false))), none⟩, ⟨some 105, .mv (.t 104), none⟩, ⟨some 106, .fad false 2 1 (.t 6), some (105, true)⟩, ⟨some 107, .ld false 1 (.t 106), some (105, true)⟩, ⟨some 108, .fad false 3 1 (.t 6), some (105, true)⟩, ⟨some 109, .ld false 1 (.t 108), some (105, true)⟩, ⟨some 110, .iada false 41 1 (.t 8) (.t 109), some (105, true)⟩, ⟨some 111, .ld false 1 (.t 110), some (105, true)⟩, ⟨some 112, .bin .eql (.t 107) (.t 111), some (105, true)⟩, ⟨some 113, .pick (.t 105) (.t 112) (.c (.d (.bool false))), none⟩, ⟨some 114, .mv (.t 113), none⟩, ⟨some 115, .call N_law14_awake [] [], some (114, true)⟩, ⟨some 116, .pick (.t 114) (.t 115) (.c (.d (.bool false))), none⟩, ⟨some 2, .mv (.t 116), none⟩] [[], [], [], [], [], [], [], [], [], [], [], [9, 10], [9, 10], [9, 10], [9, 10], [], [], [], [], [], [18, 19], [18, 19], [18, 19], [18, 19], [], [], [], [], [], []] [6, 7, 8, 81, 88, 89, 90, 91, 92, 93, 94, 95, 96, 97, 98, 99, 100, 101, 102, 103, 104, 105, 106, 107, 108, 109, 110, 111, 112, 113, 114, 115, 116])
 (.ret [2]))))))))))
def r_law14_SnapshotHolds : List ARes := [.t 2]
def fn_law14_SnapshotHolds : AFn := .code c_law14_SnapshotHolds r_law14_SnapshotHolds 117 true
/- shardqueue/snapshot.New -/
def c_snapshot_New : ACode :=
 (.seq (.ops [] [⟨some 0, .alloc (.d (.agg [.int .i64 0, .int .i64 0, .int .i64 0, .int .i64 0])), none⟩] [])
 (.seq (.ops [] [⟨some 1, .build [.d (.int .i64 0), .d (.int .i64 0), .d (.int .i64 0), .d (.int .i64 0)] [], none⟩, ⟨none, .st 4 (.t 0) (.t 1), none⟩] [1])
 (.ret [0])))
def r_snapshot_New : List ARes := [.c 0 true 4]
def fn_snapshot_New : AFn := .code c_snapshot_New r_snapshot_New 2 true
/- shardqueue/snapshot.Step -/
def c_snapshot_Step : ACode :=
 (.seq (.ops [] [⟨some 3, .box (.t 0), none⟩, ⟨some 4, .box (.t 1), none⟩, ⟨some 6, .alloc (.d (.agg [.int .i64 0, .int .i64 0, .int .i64 0, .int .i64 0])), none⟩, ⟨some 7, .mv (.c (.d (.int .i64 0))), none⟩] [0, 1, 7])
 (.seq (.ops [] [⟨some 8, .mv (.c (.d (.int .i64 0))), none⟩] [8])
 (.seq (.seq (.ops [] [⟨some 10, .fad false 0 1 (.t 4), none⟩, ⟨some 11, .ld false 1 (.t 10), none⟩] [10])
 (.block 0 (.seq (.ops [] [⟨some 14, .bin .eql (.t 11) (.c (.d (.int .i64 0))), none⟩, ⟨some 13, .mv (.t 14), none⟩] [14])
 (.cond (.t 13) (.seq (.ops [] [⟨some 16, .ld true 11 (.t 3), none⟩, ⟨some 17, .call N_arena_Load [] [.t 16, .c (.d (.int .i64 1))], none⟩, ⟨some 15, .mv (.t 17), none⟩, ⟨some 18, .ext (.t 15) 0, none⟩, ⟨some 19, .ext (.t 15) 1, none⟩, ⟨some 20, .fad false 1 1 (.t 4), none⟩, ⟨none, .st 1 (.t 20) (.t 18), none⟩, ⟨some 8, .mv (.t 19), none⟩] [2, 3, 11, 13, 15, 16, 17, 18, 19, 20])
 (.ops [] [⟨some 21, .fad false 0 1 (.t 4), none⟩, ⟨none, .st 1 (.t 21) (.c (.d (.int .i64 1))), none⟩] [21])) (.seq (.ops [] [⟨some 23, .bin .eql (.t 11) (.c (.d (.int .i64 1))), none⟩, ⟨some 22, .mv (.t 23), none⟩] [13, 23])
 (.cond (.t 22) (.seq (.ops [] [⟨some 25, .ld true 11 (.t 3), none⟩, ⟨some 26, .call N_arena_Load [] [.t 25, .c (.d (.int .i64 2))], none⟩, ⟨some 24, .mv (.t 26), none⟩, ⟨some 27, .ext (.t 24) 0, none⟩, ⟨some 28, .ext (.t 24) 1, none⟩, ⟨some 29, .fad false 2 1 (.t 4), none⟩, ⟨none, .st 1 (.t 29) (.t 27), none⟩, ⟨some 8, .mv (.t 28), none⟩] [3, 11, 22, 24, 25, 26, 27, 28, 29])
 (.ops [] [⟨some 30, .mv (.t 2), none⟩, ⟨some 31, .fad false 3 1 (.t 4), none⟩, ⟨none, .st 1 (.t 31) (.t 30), none⟩, ⟨some 32, .fad false 0 1 (.t 4), none⟩, ⟨none, .st 1 (.t 32) (.c (.d (.int .i64 2))), none⟩] [2, 30, 31, 32])) (.seq (.ops [] [⟨some 34, .bin .eql (.t 11) (.c (.d (.int .i64 2))), none⟩, ⟨some 33, .mv (.t 34), none⟩] [2, 22, 34])
 (.cond (.t 33) (.seq (.ops [] [⟨some 9, .mv (.c (.d (.int .i64 0))), none⟩] [9, 11, 33])
 (.seq (.ops [] [⟨some 36, .ld true 11 (.t 3), none⟩, ⟨some 37, .call N_arena_Load [] [.t 36, .c (.d (.int .i64 1))], none⟩, ⟨some 35, .mv (.t 37), none⟩, ⟨some 38, .ext (.t 35) 0, none⟩, ⟨some 39, .ext (.t 35) 1, none⟩, ⟨some 9, .mv (.t 38), none⟩, ⟨some 8, .mv (.t 39), none⟩] [3, 35, 36, 37, 38, 39])
 (.seq (.ops [] [⟨some 40, .fad false 0 1 (.t 4), none⟩, ⟨none, .st 1 (.t 40) (.c (.d (.int .i64 3))), none⟩] [40])
 (.seq (.ops [] [⟨some 41, .mv (.t 9), none⟩, ⟨some 42, .fad false 1 1 (.t 4), none⟩, ⟨some 43, .ld false 1 (.t 42), none⟩, ⟨some 44, .bin .neq (.t 41) (.t 43), none⟩] [41, 42, 43])
 (.cond (.t 44) (.ops [] [⟨some 45, .mv (.t 9), none⟩, ⟨some 46, .fad false 1 1 (.t 4), none⟩, ⟨none, .st 1 (.t 46) (.t 45), none⟩, ⟨some 47, .fad false 0 1 (.t 4), none⟩, ⟨none, .st 1 (.t 47) (.c (.d (.int .i64 1))), none⟩] [9, 44, 45, 46, 47]) .skip))))) (.seq (.ops [] [⟨some 49, .bin .eql (.t 11) (.c (.d (.int .i64 3))), none⟩, ⟨some 48, .mv (.t 49), none⟩] [3, 4, 11, 33, 49])
 (.cond (.t 48) (.seq (.ops [] [⟨some 50, .build [.d (.int .i64 0), .d (.int .i64 0), .d (.int .i64 0), .d (.int .i64 0)] [], none⟩, ⟨none, .st 4 (.t 6) (.t 50), none⟩, ⟨some 7, .mv (.c (.d (.int .i64 7))), none⟩] [48, 50])
 (.ret [6, 7])) (.seq (.ops [] [⟨some 12, .build [.d (.int .i64 0), .d (.int .i64 0), .d (.int .i64 0), .d (.int .i64 0)] [], none⟩, ⟨none, .st 4 (.t 6) (.t 12), none⟩, ⟨some 7, .mv (.c (.d (.int .i64 1))), none⟩] [12, 48])
 (.ret [6, 7]))))))))))))
 (.seq (.seq (.ops [] [⟨some 51, .mv (.t 8), none⟩, ⟨some 52, .bin .neq (.t 51) (.c (.d (.int .i64 0))), none⟩] [9, 44, 51])
 (.cond (.t 52) (.seq (.ops [] [⟨some 53, .build [.d (.int .i64 0), .d (.int .i64 0), .d (.int .i64 0), .d (.int .i64 0)] [], none⟩, ⟨some 54, .mv (.t 8), none⟩, ⟨none, .st 4 (.t 6) (.t 53), none⟩, ⟨some 7, .mv (.t 54), none⟩] [4, 8, 52, 53, 54])
 (.ret [6, 7])) .skip))
 (.seq (.ops [] [⟨some 55, .ld true 4 (.t 4), none⟩, ⟨none, .st 4 (.t 6) (.t 55), none⟩, ⟨some 7, .mv (.c (.d (.int .i64 0))), none⟩] [4, 8, 52, 55])
 (.ret [6, 7]))))))
def r_snapshot_Step : List ARes := [.c 6 true 4, .t 7]
def fn_snapshot_Step : AFn := .code c_snapshot_Step r_snapshot_Step 56 true
/- shardqueue/arena.Load -/
def c_arena_Load : ACode :=
 (.seq (.ops [] [⟨some 2, .box (.t 0), none⟩, ⟨some 4, .mv (.c (.d (.int .i64 0))), none⟩, ⟨some 5, .mv (.c (.d (.int .i64 0))), none⟩] [0, 4, 5])
 (.seq (.seq (.ops [] [⟨some 6, .mv (.t 1), none⟩] [1])
 (.block 0 (.seq (.ops [] [⟨some 8, .bin .eql (.t 6) (.c (.d (.int .i64 1))), none⟩, ⟨some 7, .mv (.t 8), none⟩] [8])
 (.cond (.t 7) (.seq (.ops [] [⟨some 9, .fad false 8 1 (.t 2), none⟩, ⟨some 10, .ld false 1 (.t 9), none⟩, ⟨some 4, .mv (.t 10), none⟩, ⟨some 5, .mv (.c (.d (.int .i64 0))), none⟩] [2, 6, 7, 9, 10])
 (.ret [4, 5])) (.seq (.ops [] [⟨some 12, .bin .eql (.t 6) (.c (.d (.int .i64 2))), none⟩, ⟨some 11, .mv (.t 12), none⟩] [7, 12])
 (.cond (.t 11) (.seq (.ops [] [⟨some 13, .fad false 9 1 (.t 2), none⟩, ⟨some 14, .ld false 1 (.t 13), none⟩, ⟨some 4, .mv (.t 14), none⟩, ⟨some 5, .mv (.c (.d (.int .i64 0))), none⟩] [2, 6, 11, 13, 14])
 (.ret [4, 5])) (.seq (.ops [] [⟨some 16, .bin .eql (.t 6) (.c (.d (.int .i64 3))), none⟩, ⟨some 15, .mv (.t 16), none⟩] [6, 11, 16])
 (.cond (.t 15) (.seq (.ops [] [⟨some 17, .fad false 10 1 (.t 2), none⟩, ⟨some 18, .ld false 1 (.t 17), none⟩, ⟨some 4, .mv (.t 18), none⟩, ⟨some 5, .mv (.c (.d (.int .i64 0))), none⟩] [2, 15, 17, 18])
 (.ret [4, 5])) .skip))))))))
 (.seq (.ops [] [⟨some 4, .mv (.c (.d (.int .i64 0))), none⟩, ⟨some 5, .mv (.c (.d (.int .i64 9))), none⟩] [2, 15])
 (.ret [4, 5]))))
def r_arena_Load : List ARes := [.t 4, .t 5]
def fn_arena_Load : AFn := .code c_arena_Load r_arena_Load 19 true
/- shardqueue/arena.CAS -/
def c_arena_CAS : ACode :=
 (.seq (.ops [] [⟨some 4, .box (.t 0), none⟩, ⟨some 8, .alloc (.agg [.xsl [], .xsl [], .d (.int .i64 0), .d (.int .i64 0), .xsl [], .d (.int .i64 0), .xsl [], .xsl [], .d (.int .i64 0), .d (.int .i64 0), .d (.int .i64 0)]), none⟩, ⟨some 9, .mv (.c (.d (.bool false))), none⟩, ⟨some 10, .mv (.c (.d (.int .i64 0))), none⟩] [0, 9, 10])
 (.seq (.ops [] [⟨some 16, .fad false 8 1 (.t 4), none⟩, ⟨some 11, .mv (.t 16), none⟩, ⟨some 12, .mv (.c (.d (.int .i64 0))), none⟩, ⟨some 13, .mv (.c (.d (.int .i64 65536))), none⟩] [16])
 (.seq (.seq (.ops [] [⟨some 17, .mv (.t 1), none⟩] [1])
 (.block 0 (.seq (.ops [] [⟨some 20, .bin .eql (.t 17) (.c (.d (.int .i64 1))), none⟩, ⟨some 19, .mv (.t 20), none⟩] [20])
 (.cond (.t 19) .skip (.seq (.ops [] [⟨some 22, .bin .eql (.t 17) (.c (.d (.int .i64 3))), none⟩, ⟨some 21, .mv (.t 22), none⟩] [11, 12, 13, 17, 19, 22])
 (.cond (.t 21) (.ops [] [⟨some 23, .fad false 10 1 (.t 4), none⟩, ⟨some 11, .mv (.t 23), none⟩, ⟨some 12, .mv (.c (.d (.int .i64 1))), none⟩, ⟨some 13, .mv (.c (.d (.int .i64 1073741824))), none⟩] [21, 23]) (.seq (.ops [] [⟨some 18, .build [.xsl [], .xsl [], .d (.int .i64 0), .d (.int .i64 0), .xsl [], .d (.int .i64 0), .xsl [], .xsl [], .d (.int .i64 0), .d (.int .i64 0), .d (.int .i64 0)] [], none⟩, ⟨none, .st 11 (.t 8) (.t 18), none⟩, ⟨some 9, .mv (.c (.d (.bool false))), none⟩, ⟨some 10, .mv (.c (.d (.int .i64 9))), none⟩] [2, 3, 4, 18, 21])
 (.ret [8, 9, 10]))))))))
 (.seq (.seq (.ops [] [⟨some 24, .mv (.t 3), none⟩, ⟨some 25, .mv (.t 12), none⟩, ⟨some 26, .mv (.t 13), none⟩, ⟨some 27, .call N_arena_in [] [.t 24, .t 25, .t 26], none⟩, ⟨some 28, .un .not (.t 27), none⟩] [12, 13, 17, 19, 24, 25, 26, 27])
 (.cond (.t 28) (.seq (.ops [] [⟨some 29, .build [.xsl [], .xsl [], .d (.int .i64 0), .d (.int .i64 0), .xsl [], .d (.int .i64 0), .xsl [], .xsl [], .d (.int .i64 0), .d (.int .i64 0), .d (.int .i64 0)] [], none⟩, ⟨none, .st 11 (.t 8) (.t 29), none⟩, ⟨some 9, .mv (.c (.d (.bool false))), none⟩, ⟨some 10, .mv (.c (.d (.int .i64 1))), none⟩] [2, 3, 4, 11, 28, 29])
 (.ret [8, 9, 10])) .skip))
 (.seq (.ops [] [⟨some 14, .alloc (.d (.agg [.int .i64 0])), none⟩] [28])
 (.seq (.ops [] [⟨some 30, .mv (.t 11), none⟩, ⟨some 31, .nilc (.t 30), none⟩, ⟨some 32, .ld false 1 (.t 31), none⟩, ⟨some 33, .call N_sync_atomic_Int64_Store [true, false] [.t 14, .t 32], none⟩] [30, 31, 32, 33])
 (.seq (.ops [] [⟨some 34, .mv (.t 2), none⟩, ⟨some 35, .mv (.t 3), none⟩, ⟨some 36, .call N_sync_atomic_Int64_CompareAndSwap [true, false, false] [.t 14, .t 34, .t 35], none⟩, ⟨some 15, .mv (.t 36), none⟩] [2, 3, 34, 35, 36])
 (.seq (.ops [] [⟨some 37, .mv (.t 11), none⟩, ⟨some 38, .call N_sync_atomic_Int64_Load [true] [.t 14], none⟩, ⟨some 39, .nilc (.t 37), none⟩, ⟨none, .st 1 (.t 39) (.t 38), none⟩] [11, 14, 37, 38, 39])
 (.seq (.ops [] [⟨some 40, .ld true 11 (.t 4), none⟩, ⟨some 41, .mv (.t 15), none⟩, ⟨none, .st 11 (.t 8) (.t 40), none⟩, ⟨some 9, .mv (.t 41), none⟩, ⟨some 10, .mv (.c (.d (.int .i64 0))), none⟩] [4, 15, 40, 41])
 (.ret [8, 9, 10]))))))))))
def r_arena_CAS : List ARes := [.c 8 true 11, .t 9, .t 10]
def fn_arena_CAS : AFn := .code c_arena_CAS r_arena_CAS 42 true
/- (*sync/atomic.Int64).Store -/
def c_sync_atomic_Int64_Store : ACode :=
 (.ops [] [⟨some 4, .mv (.t 0), none⟩, ⟨some 5, .nilc (.t 4), none⟩, ⟨some 6, .fad false 0 1 (.t 5), none⟩, ⟨some 7, .mv (.t 1), none⟩, ⟨some 8, .ats (.t 6) (.t 7), none⟩] [0, 1, 4, 5, 6, 7, 8])
def r_sync_atomic_Int64_Store : List ARes := []
def fn_sync_atomic_Int64_Store : AFn := .code c_sync_atomic_Int64_Store r_sync_atomic_Int64_Store 9 true
/- (*sync/atomic.Int64).CompareAndSwap -/
def c_sync_atomic_Int64_CompareAndSwap : ACode :=
 (.seq (.ops [] [⟨some 6, .mv (.c (.d (.bool false))), none⟩] [6])
 (.seq (.ops [] [⟨some 7, .mv (.t 0), none⟩, ⟨some 8, .nilc (.t 7), none⟩, ⟨some 9, .fad false 0 1 (.t 8), none⟩, ⟨some 10, .mv (.t 1), none⟩, ⟨some 11, .mv (.t 2), none⟩, ⟨some 12, .atc (.t 9) (.t 10) (.t 11), none⟩, ⟨some 6, .mv (.t 12), none⟩] [0, 1, 2, 7, 8, 9, 10, 11, 12])
 (.ret [6])))
def r_sync_atomic_Int64_CompareAndSwap : List ARes := [.t 6]
def fn_sync_atomic_Int64_CompareAndSwap : AFn := .code c_sync_atomic_Int64_CompareAndSwap r_sync_atomic_Int64_CompareAndSwap 13 true
/- (*sync/atomic.Int64).Load -/
def c_sync_atomic_Int64_Load : ACode :=
 (.seq (.ops [] [⟨some 2, .mv (.c (.d (.int .i64 0))), none⟩] [2])
 (.seq (.ops [] [⟨some 3, .mv (.t 0), none⟩, ⟨some 4, .nilc (.t 3), none⟩, ⟨some 5, .fad false 0 1 (.t 4), none⟩, ⟨some 6, .atl (.t 5), none⟩, ⟨some 2, .mv (.t 6), none⟩] [0, 3, 4, 5, 6])
 (.ret [2])))
def r_sync_atomic_Int64_Load : List ARes := [.t 2]
def fn_sync_atomic_Int64_Load : AFn := .code c_sync_atomic_Int64_Load r_sync_atomic_Int64_Load 7 true
/- shardqueue/arena.Tick -/
def c_arena_Tick : ACode :=
 (.seq (.ops [] [⟨some 2, .box (.t 0), none⟩, ⟨some 4, .alloc (.agg [.xsl [], .xsl [], .d (.int .i64 0), .d (.int .i64 0), .xsl [], .d (.int .i64 0), .xsl [], .xsl [], .d (.int .i64 0), .d (.int .i64 0), .d (.int .i64 0)]), none⟩, ⟨some 5, .mv (.c (.d (.int .i64 0))), none⟩] [0, 5])
 (.seq (.block 0 (.seq (.ops [] [⟨some 7, .mv (.t 1), none⟩, ⟨some 8, .call N_arena_in [] [.t 7, .c (.d (.int .i64 0)), .c (.d (.int .i64 1099511627776))], none⟩, ⟨some 9, .un .not (.t 8), none⟩, ⟨some 6, .mv (.t 9), none⟩] [7, 8, 9])
 (.cond (.t 6) (.seq (.ops [] [⟨some 10, .build [.xsl [], .xsl [], .d (.int .i64 0), .d (.int .i64 0), .xsl [], .d (.int .i64 0), .xsl [], .xsl [], .d (.int .i64 0), .d (.int .i64 0), .d (.int .i64 0)] [], none⟩, ⟨none, .st 11 (.t 4) (.t 10), none⟩, ⟨some 5, .mv (.c (.d (.int .i64 1))), none⟩] [1, 2, 6, 10])
 (.ret [4, 5])) (.seq (.ops [] [⟨some 12, .mv (.t 1), none⟩, ⟨some 13, .fad false 9 1 (.t 2), none⟩, ⟨some 14, .ld false 1 (.t 13), none⟩, ⟨some 15, .bin .sub (.c (.d (.int .i64 1073741824))) (.t 14), none⟩, ⟨some 16, .bin .gtr (.t 12) (.t 15), none⟩, ⟨some 11, .mv (.t 16), none⟩] [6, 12, 13, 14, 15, 16])
 (.cond (.t 11) (.seq (.ops [] [⟨some 17, .build [.xsl [], .xsl [], .d (.int .i64 0), .d (.int .i64 0), .xsl [], .d (.int .i64 0), .xsl [], .xsl [], .d (.int .i64 0), .d (.int .i64 0), .d (.int .i64 0)] [], none⟩, ⟨none, .st 11 (.t 4) (.t 17), none⟩, ⟨some 5, .mv (.c (.d (.int .i64 6))), none⟩] [1, 2, 11, 17])
 (.ret [4, 5])) .skip)))))
 (.seq (.ops [] [⟨some 18, .fad false 9 1 (.t 2), none⟩, ⟨some 19, .ld false 1 (.t 18), none⟩, ⟨some 20, .mv (.t 1), none⟩, ⟨some 21, .bin .add (.t 19) (.t 20), none⟩, ⟨some 22, .fad false 9 1 (.t 2), none⟩, ⟨none, .st 1 (.t 22) (.t 21), none⟩] [1, 11, 18, 19, 20, 21, 22])
 (.seq (.ops [] [⟨some 23, .ld true 11 (.t 2), none⟩, ⟨none, .st 11 (.t 4) (.t 23), none⟩, ⟨some 5, .mv (.c (.d (.int .i64 0))), none⟩] [2, 23])
 (.ret [4, 5])))))
def r_arena_Tick : List ARes := [.c 4 true 11, .t 5]
def fn_arena_Tick : AFn := .code c_arena_Tick r_arena_Tick 24 true
/- shardqueue/shardqueuelaw14.awake -/
def c_law14_awake : ACode :=
 (.seq (.ops [] [⟨some 0, .mv (.c (.d (.bool false))), none⟩] [0])
 (.seq (.ops [] [⟨some 8, .build [.d (.int .i64 0), .d (.int .i64 0), .d (.int .i64 0), .d (.int .i64 0), .d (.int .i64 0), .d (.int .i64 0), .d (.int .i64 0), .d (.int .i64 0)] [(0, (1, .c (.d (.int .i64 1)))), (1, (1, .c (.d (.int .i64 1)))), (2, (1, .c (.d (.int .i64 1)))), (3, (1, .c (.d (.int .i64 1)))), (4, (1, .c (.d (.int .i64 1)))), (6, (1, .c (.d (.int .i64 1)))), (5, (1, .c (.d (.int .i64 9)))), (7, (1, .c (.d (.int .i64 2))))], none⟩, ⟨some 9, .call N_arena_New [] [.t 8], none⟩, ⟨some 7, .mv (.t 9), none⟩, ⟨some 10, .ext (.t 7) 0, none⟩, ⟨some 11, .ext (.t 7) 1, none⟩, ⟨some 1, .alloc (.agg [.xsl [], .xsl [], .d (.int .i64 0), .d (.int .i64 0), .xsl [], .d (.int .i64 0), .xsl [], .xsl [], .d (.int .i64 0), .d (.int .i64 0), .d (.int .i64 0)]), none⟩, ⟨none, .st 11 (.t 1) (.t 10), none⟩, ⟨some 2, .mv (.t 11), none⟩] [7, 8, 9, 10, 11])
 (.seq (.draw [] [⟨some 13, .ld true 11 (.t 1), none⟩, ⟨some 14, .call N_snapshot_New [] [], none⟩, ⟨some 15, .call N_snapshot_Step [] [.t 13, .t 14, .c (.d (.int .i64 1))], none⟩, ⟨some 12, .mv (.t 15), none⟩, ⟨some 16, .ext (.t 12) 0, none⟩, ⟨some 17, .ext (.t 12) 1, none⟩, ⟨some 3, .alloc (.d (.agg [.int .i64 0, .int .i64 0, .int .i64 0, .int .i64 0])), none⟩, ⟨none, .st 4 (.t 3) (.t 16), none⟩, ⟨some 4, .mv (.t 17), none⟩] [[], [0], [], [], [], [4], [0, 1, 2, 3, 4, 5], [5], []] [12, 13, 14, 15, 16, 17])
 (.seq (.ops [] [⟨some 19, .ld true 11 (.t 1), none⟩, ⟨some 20, .ld true 4 (.t 3), none⟩, ⟨some 21, .call N_snapshot_Step [] [.t 19, .t 20, .c (.d (.int .i64 2))], none⟩, ⟨some 18, .mv (.t 21), none⟩, ⟨some 22, .ext (.t 18) 0, none⟩, ⟨some 23, .ext (.t 18) 1, none⟩, ⟨none, .st 4 (.t 3) (.t 22), none⟩, ⟨some 5, .mv (.t 23), none⟩] [18, 19, 20, 21, 22, 23])
 (.seq (.ops [] [⟨some 25, .ld true 11 (.t 1), none⟩, ⟨some 26, .ld true 4 (.t 3), none⟩, ⟨some 27, .call N_snapshot_Step [] [.t 25, .t 26, .c (.d (.int .i64 3))], none⟩, ⟨some 24, .mv (.t 27), none⟩, ⟨some 28, .ext (.t 24) 0, none⟩, ⟨some 29, .ext (.t 24) 1, none⟩, ⟨none, .st 4 (.t 3) (.t 28), none⟩, ⟨some 6, .mv (.t 29), none⟩] [1, 24, 25, 26, 27, 28, 29])
 (.seq (.ops [] [⟨some 30, .mv (.t 2), none⟩, ⟨some 31, .bin .eql (.t 30) (.c (.d (.int .i64 0))), none⟩, ⟨some 32, .mv (.t 31), none⟩, ⟨some 33, .mv (.t 4), some (32, true)⟩, ⟨some 34, .bin .eql (.t 33) (.c (.d (.int .i64 0))), some (32, true)⟩, ⟨some 35, .pick (.t 32) (.t 34) (.c (.d (.bool false))), none⟩, ⟨some 36, .mv (.t 35), none⟩, ⟨some 37, .mv (.t 5), some (36, true)⟩, ⟨some 38, .bin .eql (.t 37) (.c (.d (.int .i64 0))), some (36, true)⟩, ⟨some 39, .pick (.t 36) (.t 38) (.c (.d (.bool false))), none⟩, ⟨some 40, .mv (.t 39), none⟩, ⟨some 41, .mv (.t 6), some (40, true)⟩, ⟨some 42, .bin .eql (.t 41) (.c (.d (.int .i64 0))), some (40, true)⟩, ⟨some 43, .pick (.t 40) (.t 42) (.c (.d (.bool false))), none⟩, ⟨some 44, .mv (.t 43), none⟩, ⟨some 45, .ld true 4 (.t 3), some (44, true)⟩, ⟨some 46, .build [.d (.int .i64 0), .d (.int .i64 0), .d (.int .i64 0), .d (.int .i64 0)] [(0, (1, .c (.d (.int .i64 3)))), (1, (1, .c (.d (.int .i64 2)))), (2, (1, .c (.d (.int .i64 9)))), (3, (1, .c (.d (.int .i64 2))))], some (44, true)⟩, ⟨some 47, .eqs false 4 [(0, 0), (1, 0), (2, 0), (3, 0)] (.t 45) (.t 46), some (44, true)⟩, ⟨some 48, .pick (.t 44) (.t 47) (.c (.d (.bool false))), none⟩, ⟨some 0, .mv (.t 48), none⟩] [2, 3, 4, 5, 6, 30, 31, 32, 33, 34, 35, 36, 37, 38, 39, 40, 41, 42, 43, 44, 45, 46, 47, 48])
 (.ret [0])))))))
def r_law14_awake : List ARes := [.t 0]
def fn_law14_awake : AFn := .code c_law14_awake r_law14_awake 49 true
end Go.Proofs.Ytamiielalcnakaa
