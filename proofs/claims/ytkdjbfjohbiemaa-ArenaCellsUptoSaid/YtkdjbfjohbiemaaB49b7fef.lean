/-
  Functions of the program, as the calculus has them.
-/
import Derived.Test.YtkdjbfjohbiemaaBd45fb0f
set_option linter.unusedSimpArgs false
set_option linter.unusedVariables false
namespace Go.Proofs.Ytkdjbfjohbiemaa
open Go Go.Sim
def c_law12_ArenaNew : ACode :=
 (.seq (.ops [] [⟨some 2, .box (.t 0), none⟩, ⟨some 4, .mv (.c (.d (.bool false))), none⟩] [0, 4])
 (.seq (.ops [] [⟨some 15, .mv (.t 1), none⟩, ⟨some 16, .call N_base_New [] [.t 15], none⟩, ⟨some 5, .mv (.t 16), none⟩] [1, 15, 16])
 (.seq (.ops [] [⟨some 17, .mv (.t 5), none⟩, ⟨some 18, .call N_base_Src_Setup [true] [.t 17], none⟩, ⟨some 6, .alloc (.d (.agg [.int .i64 0, .int .i64 0, .int .i64 0, .int .i64 0, .int .i64 0, .int .i64 0, .int .i64 0, .int .i64 0])), none⟩, ⟨none, .st 8 (.t 6) (.t 18), none⟩] [17, 18])
 (.seq (.seq (.ops [] [⟨some 19, .mv (.t 5), none⟩, ⟨some 20, .call N_base_Src_N [true, false] [.t 19, .c (.d (.int .i64 9))], none⟩] [19])
 (.block 0 (.seq (.ops [] [⟨some 22, .bin .eql (.t 20) (.c (.d (.int .i64 0))), none⟩, ⟨some 21, .mv (.t 22), none⟩] [22])
 (.cond (.t 21) (.ops [] [⟨some 23, .mv (.t 5), none⟩, ⟨some 24, .bsl 3 1 (.d (.int .i64 0)) [(0, .c (.d (.int .i64 0))), (1, .c (.d (.int .i64 6))), (2, .c (.d (.int .i64 7)))], none⟩, ⟨some 25, .call N_base_Src_Pick [true, false] [.t 23, .t 24], none⟩, ⟨some 26, .fad false 0 1 (.t 6), none⟩, ⟨none, .st 1 (.t 26) (.t 25), none⟩] [5, 20, 21, 23, 24, 25, 26]) (.seq (.ops [] [⟨some 28, .bin .eql (.t 20) (.c (.d (.int .i64 1))), none⟩, ⟨some 27, .mv (.t 28), none⟩] [21, 28])
 (.cond (.t 27) (.ops [] [⟨some 29, .mv (.t 5), none⟩, ⟨some 30, .call N_base_Src_Range [true, false, false] [.t 29, .c (.d (.int .i64 0)), .c (.d (.int .i64 7))], none⟩, ⟨some 31, .fad false 1 1 (.t 6), none⟩, ⟨none, .st 1 (.t 31) (.t 30), none⟩] [5, 20, 27, 29, 30, 31]) (.seq (.ops [] [⟨some 33, .bin .eql (.t 20) (.c (.d (.int .i64 2))), none⟩, ⟨some 32, .mv (.t 33), none⟩] [27, 33])
 (.cond (.t 32) (.ops [] [⟨some 34, .mv (.t 5), none⟩, ⟨some 35, .bsl 3 1 (.d (.int .i64 0)) [(0, .c (.d (.int .i64 0))), (1, .c (.d (.int .i64 12))), (2, .c (.d (.int .i64 13)))], none⟩, ⟨some 36, .call N_base_Src_Pick [true, false] [.t 34, .t 35], none⟩, ⟨some 37, .fad false 2 1 (.t 6), none⟩, ⟨none, .st 1 (.t 37) (.t 36), none⟩] [5, 20, 32, 34, 35, 36, 37]) (.seq (.ops [] [⟨some 39, .bin .eql (.t 20) (.c (.d (.int .i64 3))), none⟩, ⟨some 38, .mv (.t 39), none⟩] [32, 39])
 (.cond (.t 38) (.ops [] [⟨some 40, .mv (.t 5), none⟩, ⟨some 41, .bsl 3 1 (.d (.int .i64 0)) [(0, .c (.d (.int .i64 0))), (1, .c (.d (.int .i64 24))), (2, .c (.d (.int .i64 25)))], none⟩, ⟨some 42, .call N_base_Src_Pick [true, false] [.t 40, .t 41], none⟩, ⟨some 43, .fad false 3 1 (.t 6), none⟩, ⟨none, .st 1 (.t 43) (.t 42), none⟩] [5, 20, 38, 40, 41, 42, 43]) (.seq (.ops [] [⟨some 45, .bin .eql (.t 20) (.c (.d (.int .i64 4))), none⟩, ⟨some 44, .mv (.t 45), none⟩] [38, 45])
 (.cond (.t 44) (.ops [] [⟨some 46, .mv (.t 5), none⟩, ⟨some 47, .bsl 3 1 (.d (.int .i64 0)) [(0, .c (.d (.int .i64 0))), (1, .c (.d (.int .i64 8))), (2, .c (.d (.int .i64 9)))], none⟩, ⟨some 48, .call N_base_Src_Pick [true, false] [.t 46, .t 47], none⟩, ⟨some 49, .fad false 4 1 (.t 6), none⟩, ⟨none, .st 1 (.t 49) (.t 48), none⟩] [5, 20, 44, 46, 47, 48, 49]) (.seq (.ops [] [⟨some 51, .bin .eql (.t 20) (.c (.d (.int .i64 5))), none⟩, ⟨some 50, .mv (.t 51), none⟩] [44, 51])
 (.cond (.t 50) (.ops [] [⟨some 52, .mv (.t 5), none⟩, ⟨some 53, .bsl 3 1 (.d (.int .i64 0)) [(0, .c (.d (.int .i64 (-1)))), (1, .c (.d (.int .i64 1073741824))), (2, .c (.d (.int .i64 1073741825)))], none⟩, ⟨some 54, .call N_base_Src_Pick [true, false] [.t 52, .t 53], none⟩, ⟨some 55, .fad false 5 1 (.t 6), none⟩, ⟨none, .st 1 (.t 55) (.t 54), none⟩] [5, 20, 50, 52, 53, 54, 55]) (.seq (.ops [] [⟨some 57, .bin .eql (.t 20) (.c (.d (.int .i64 6))), none⟩, ⟨some 56, .mv (.t 57), none⟩] [50, 57])
 (.cond (.t 56) (.ops [] [⟨some 58, .mv (.t 5), none⟩, ⟨some 59, .bsl 3 1 (.d (.int .i64 0)) [(0, .c (.d (.int .i64 0))), (1, .c (.d (.int .i64 1073741824))), (2, .c (.d (.int .i64 1073741825)))], none⟩, ⟨some 60, .call N_base_Src_Pick [true, false] [.t 58, .t 59], none⟩, ⟨some 61, .fad false 6 1 (.t 6), none⟩, ⟨none, .st 1 (.t 61) (.t 60), none⟩] [5, 20, 56, 58, 59, 60, 61]) (.seq (.ops [] [⟨some 63, .bin .eql (.t 20) (.c (.d (.int .i64 7))), none⟩, ⟨some 62, .mv (.t 63), none⟩] [20, 56, 63])
 (.cond (.t 62) (.ops [] [⟨some 64, .mv (.t 5), none⟩, ⟨some 65, .bsl 3 1 (.d (.int .i64 0)) [(0, .c (.d (.int .i64 (-1)))), (1, .c (.d (.int .i64 65536))), (2, .c (.d (.int .i64 65537)))], none⟩, ⟨some 66, .call N_base_Src_Pick [true, false] [.t 64, .t 65], none⟩, ⟨some 67, .fad false 7 1 (.t 6), none⟩, ⟨none, .st 1 (.t 67) (.t 66), none⟩] [5, 62, 64, 65, 66, 67]) .skip))))))))))))))))))
 (.seq (.ops [] [⟨some 69, .ld true 8 (.t 2), none⟩, ⟨some 70, .call N_arena_New [] [.t 69], none⟩, ⟨some 68, .mv (.t 70), none⟩, ⟨some 71, .ext (.t 68) 0, none⟩, ⟨some 72, .ext (.t 68) 1, none⟩, ⟨some 7, .alloc (.agg [.xsl [], .xsl [], .d (.int .i64 0), .d (.int .i64 0), .xsl [], .d (.int .i64 0), .xsl [], .xsl [], .d (.int .i64 0), .d (.int .i64 0), .d (.int .i64 0)]), none⟩, ⟨none, .st 11 (.t 7) (.t 71), none⟩, ⟨some 8, .mv (.t 72), none⟩] [5, 62, 68, 69, 70, 71, 72])
 (.seq (.ops [] [⟨some 74, .ld true 8 (.t 2), none⟩, ⟨some 75, .call N_ref12_New [] [.t 74], none⟩, ⟨some 73, .mv (.t 75), none⟩, ⟨some 76, .ext (.t 73) 0, none⟩, ⟨some 77, .ext (.t 73) 1, none⟩, ⟨some 9, .alloc (.agg [.xsl [], .xsl [], .d (.int .i64 0), .d (.int .i64 0), .xsl [], .d (.int .i64 0), .xsl [], .xsl [], .d (.int .i64 0), .d (.int .i64 0), .d (.int .i64 0)]), none⟩, ⟨none, .st 11 (.t 9) (.t 76), none⟩, ⟨some 10, .mv (.t 77), none⟩] [2, 73, 74, 75, 76, 77])
 (.seq (.ops [] [⟨some 79, .ld true 8 (.t 6), none⟩, ⟨some 80, .call N_arena_New [] [.t 79], none⟩, ⟨some 78, .mv (.t 80), none⟩, ⟨some 81, .ext (.t 78) 0, none⟩, ⟨some 82, .ext (.t 78) 1, none⟩, ⟨some 11, .alloc (.agg [.xsl [], .xsl [], .d (.int .i64 0), .d (.int .i64 0), .xsl [], .d (.int .i64 0), .xsl [], .xsl [], .d (.int .i64 0), .d (.int .i64 0), .d (.int .i64 0)]), none⟩, ⟨none, .st 11 (.t 11) (.t 81), none⟩, ⟨some 12, .mv (.t 82), none⟩] [78, 79, 80, 81, 82])
 (.seq (.ops [] [⟨some 84, .ld true 8 (.t 6), none⟩, ⟨some 85, .call N_ref12_New [] [.t 84], none⟩, ⟨some 83, .mv (.t 85), none⟩, ⟨some 86, .ext (.t 83) 0, none⟩, ⟨some 87, .ext (.t 83) 1, none⟩, ⟨some 13, .alloc (.agg [.xsl [], .xsl [], .d (.int .i64 0), .d (.int .i64 0), .xsl [], .d (.int .i64 0), .xsl [], .xsl [], .d (.int .i64 0), .d (.int .i64 0), .d (.int .i64 0)]), none⟩, ⟨none, .st 11 (.t 13) (.t 86), none⟩, ⟨some 14, .mv (.t 87), none⟩] [6, 83, 84, 85, 86, 87])
 (.seq (.ops [] [⟨some 88, .mv (.t 8), none⟩, ⟨some 89, .mv (.t 10), none⟩, ⟨some 90, .bin .eql (.t 88) (.t 89), none⟩, ⟨some 91, .mv (.t 90), none⟩, ⟨some 92, .mv (.t 12), some (91, true)⟩, ⟨some 93, .mv (.t 14), some (91, true)⟩, ⟨some 94, .bin .eql (.t 92) (.t 93), some (91, true)⟩, ⟨some 95, .pick (.t 91) (.t 94) (.c (.d (.bool false))), none⟩, ⟨some 96, .mv (.t 95), none⟩, ⟨some 97, .ld true 11 (.t 7), some (96, true)⟩, ⟨some 98, .ld true 11 (.t 9), some (96, true)⟩, ⟨some 99, .call N_ref12_Same [] [.t 97, .t 98], some (96, true)⟩, ⟨some 100, .pick (.t 96) (.t 99) (.c (.d (.bool false))), none⟩, ⟨some 101, .mv (.t 100), none⟩, ⟨some 102, .ld true 11 (.t 11), some (101, true)⟩, ⟨some 103, .ld true 11 (.t 13), some (101, true)⟩, ⟨some 104, .call N_ref12_Same [] [.t 102, .t 103], some (101, true)⟩, ⟨some 105, .pick (.t 101) (.t 104) (.c (.d (.bool false))), none⟩, ⟨some 106, .mv (.t 105), none⟩, ⟨some 107, .call N_law12_awake [] [], some (106, true)⟩, ⟨some 108, .pick (.t 106) (.t 107) (.c (.d (.bool false))), none⟩, ⟨some 4, .mv (.t 108), none⟩] [7, 8, 9, 10, 11, 12, 13, 14, 88, 89, 90, 91, 92, 93, 94, 95, 96, 97, 98, 99, 100, 101, 102, 103, 104, 105, 106, 107, 108])
 (.ret [4]))))))))))
def r_law12_ArenaNew : List ARes := [.t 4]
def fn_law12_ArenaNew : AFn := .code c_law12_ArenaNew r_law12_ArenaNew 109 true
def c_base_New : ACode :=
 (.seq (.ops [] [⟨some 2, .mv (.c .undef), none⟩] [2])
 (.seq (.seq (.ops [] [⟨some 3, .mv (.t 0), none⟩, ⟨some 4, .len (.t 3), none⟩, ⟨some 5, .bin .gtr (.t 4) (.c (.d (.int .i64 4000))), none⟩] [3, 4])
 (.cond (.t 5) (.ops [] [⟨some 6, .mv (.t 0), none⟩, ⟨some 7, .slc 1 (.t 6) none (some (.c (.d (.int .i64 4000)))) none, none⟩, ⟨some 0, .mv (.t 7), none⟩] [5, 6, 7]) .skip))
 (.seq (.ops [] [⟨some 8, .mv (.t 0), none⟩, ⟨some 9, .build [.xsl [], .d (.int .i64 0)] [(0, (1, .t 8))], none⟩, ⟨some 10, .box (.t 9), none⟩, ⟨some 2, .mv (.t 10), none⟩] [0, 5, 8, 9, 10])
 (.ret [2]))))
def r_base_New : List ARes := [.t 2]
def fn_base_New : AFn := .code c_base_New r_base_New 11 false
def c_base_Src_Setup : ACode :=
 (.seq (.ops [] [⟨some 2, .alloc (.d (.agg [.int .i64 0, .int .i64 0, .int .i64 0, .int .i64 0, .int .i64 0, .int .i64 0, .int .i64 0, .int .i64 0])), none⟩] [])
 (.seq (.ops [] [⟨some 4, .mv (.t 0), none⟩, ⟨some 5, .call N_base_Src_Range [true, false, false] [.t 4, .c (.d (.int .i64 1)), .c (.d (.int .i64 4))], none⟩, ⟨some 6, .mv (.t 0), none⟩, ⟨some 7, .call N_base_Src_Range [true, false, false] [.t 6, .c (.d (.int .i64 1)), .c (.d (.int .i64 5))], none⟩, ⟨some 8, .mv (.t 0), none⟩, ⟨some 9, .call N_base_Src_Range [true, false, false] [.t 8, .c (.d (.int .i64 1)), .c (.d (.int .i64 4))], none⟩, ⟨some 10, .mv (.t 0), none⟩, ⟨some 11, .call N_base_Src_Range [true, false, false] [.t 10, .c (.d (.int .i64 1)), .c (.d (.int .i64 3))], none⟩, ⟨some 12, .build [.d (.int .i64 0), .d (.int .i64 0), .d (.int .i64 0), .d (.int .i64 0), .d (.int .i64 0), .d (.int .i64 0), .d (.int .i64 0), .d (.int .i64 0)] [(0, (1, .t 5)), (2, (1, .t 7)), (3, (1, .t 9)), (4, (1, .t 11)), (6, (1, .c (.d (.int .i64 1))))], none⟩, ⟨some 3, .alloc (.d (.agg [.int .i64 0, .int .i64 0, .int .i64 0, .int .i64 0, .int .i64 0, .int .i64 0, .int .i64 0, .int .i64 0])), none⟩, ⟨none, .st 8 (.t 3) (.t 12), none⟩] [4, 5, 6, 7, 8, 9, 10, 11, 12])
 (.seq (.ops [] [⟨some 13, .mv (.t 0), none⟩, ⟨some 14, .fad false 0 1 (.t 3), none⟩, ⟨some 15, .ld false 1 (.t 14), none⟩, ⟨some 16, .call N_base_Src_Range [true, false, false] [.t 13, .c (.d (.int .i64 1)), .t 15], none⟩, ⟨some 17, .fad false 1 1 (.t 3), none⟩, ⟨none, .st 1 (.t 17) (.t 16), none⟩] [13, 14, 15, 16, 17])
 (.seq (.seq (.ops [] [⟨some 18, .mv (.t 0), none⟩, ⟨some 19, .call N_base_Src_N [true, false] [.t 18, .c (.d (.int .i64 12))], none⟩] [18])
 (.block 0 (.seq (.ops [] [⟨some 21, .bin .eql (.t 19) (.c (.d (.int .i64 9))), none⟩, ⟨some 20, .mv (.t 21), none⟩] [21])
 (.cond (.t 20) (.ops [] [⟨some 22, .mv (.t 0), none⟩, ⟨some 23, .call N_base_Src_N [true, false] [.t 22, .c (.d (.int .i64 200))], none⟩, ⟨some 24, .bin .sub (.c (.d (.int .i64 1073741824))) (.t 23), none⟩, ⟨some 25, .fad false 5 1 (.t 3), none⟩, ⟨none, .st 1 (.t 25) (.t 24), none⟩] [0, 19, 20, 22, 23, 24, 25]) (.seq (.ops [] [⟨some 27, .bin .eql (.t 19) (.c (.d (.int .i64 10))), none⟩, ⟨some 26, .mv (.t 27), none⟩] [20, 27])
 (.cond (.t 26) (.ops [] [⟨some 28, .mv (.t 0), none⟩, ⟨some 29, .call N_base_Src_N [true, false] [.t 28, .c (.d (.int .i64 4))], none⟩, ⟨some 30, .bin .sub (.c (.d (.int .i64 1073741824))) (.t 29), none⟩, ⟨some 31, .fad false 6 1 (.t 3), none⟩, ⟨none, .st 1 (.t 31) (.t 30), none⟩] [0, 19, 26, 28, 29, 30, 31]) (.seq (.ops [] [⟨some 33, .bin .eql (.t 19) (.c (.d (.int .i64 11))), none⟩, ⟨some 32, .mv (.t 33), none⟩] [19, 26, 33])
 (.cond (.t 32) (.ops [] [⟨some 34, .mv (.t 0), none⟩, ⟨some 35, .call N_base_Src_N [true, false] [.t 34, .c (.d (.int .i64 3))], none⟩, ⟨some 36, .bin .sub (.c (.d (.int .i64 65536))) (.t 35), none⟩, ⟨some 37, .fad false 7 1 (.t 3), none⟩, ⟨none, .st 1 (.t 37) (.t 36), none⟩] [0, 32, 34, 35, 36, 37]) .skip))))))))
 (.seq (.ops [] [⟨some 38, .ld true 8 (.t 3), none⟩, ⟨none, .st 8 (.t 2) (.t 38), none⟩] [0, 3, 32, 38])
 (.ret [2]))))))
def r_base_Src_Setup : List ARes := [.c 2 true 8]
def fn_base_Src_Setup : AFn := .code c_base_Src_Setup r_base_Src_Setup 39 true
def c_base_Src_Range : ACode :=
 (.seq (.ops [] [⟨some 6, .mv (.c (.d (.int .i64 0))), none⟩] [6])
 (.seq (.ops [] [⟨some 7, .mv (.t 1), none⟩, ⟨some 8, .mv (.t 0), none⟩, ⟨some 9, .mv (.t 2), none⟩, ⟨some 10, .mv (.t 1), none⟩, ⟨some 11, .bin .sub (.t 9) (.t 10), none⟩, ⟨some 12, .bin .add (.t 11) (.c (.d (.int .i64 1))), none⟩, ⟨some 13, .call N_base_Src_N [true, false] [.t 8, .t 12], none⟩, ⟨some 14, .bin .add (.t 7) (.t 13), none⟩, ⟨some 6, .mv (.t 14), none⟩] [0, 1, 2, 7, 8, 9, 10, 11, 12, 13, 14])
 (.ret [6])))
def r_base_Src_Range : List ARes := [.t 6]
def fn_base_Src_Range : AFn := .code c_base_Src_Range r_base_Src_Range 15 true
def c_base_Src_N : ACode :=
 (.seq (.ops [] [⟨some 4, .mv (.c (.d (.int .i64 0))), none⟩] [4])
 (.seq (.seq (.ops [] [⟨some 6, .mv (.t 1), none⟩, ⟨some 7, .bin .lss (.t 6) (.c (.d (.int .i64 1))), none⟩] [6])
 (.cond (.t 7) (.seq (.ops [] [⟨some 4, .mv (.c (.d (.int .i64 0))), none⟩] [0, 1, 7])
 (.ret [4])) .skip))
 (.seq (.ops [] [⟨some 8, .mv (.t 0), none⟩, ⟨some 9, .call N_base_Src_Raw [true] [.t 8], none⟩, ⟨some 10, .mv (.t 1), none⟩, ⟨some 11, .bin .rem (.t 9) (.t 10), none⟩, ⟨some 5, .mv (.t 11), none⟩] [0, 7, 8, 9, 10, 11])
 (.seq (.seq (.ops [] [⟨some 12, .mv (.t 5), none⟩, ⟨some 13, .bin .lss (.t 12) (.c (.d (.int .i64 0))), none⟩] [12])
 (.cond (.t 13) (.ops [] [⟨some 14, .mv (.t 5), none⟩, ⟨some 15, .mv (.t 1), none⟩, ⟨some 16, .bin .add (.t 14) (.t 15), none⟩, ⟨some 5, .mv (.t 16), none⟩] [1, 13, 14, 15, 16]) .skip))
 (.seq (.ops [] [⟨some 17, .mv (.t 5), none⟩, ⟨some 4, .mv (.t 17), none⟩] [1, 5, 13, 17])
 (.ret [4]))))))
def r_base_Src_N : List ARes := [.t 4]
def fn_base_Src_N : AFn := .code c_base_Src_N r_base_Src_N 18 true
def c_base_Src_Raw : ACode :=
 (.seq (.ops [] [⟨some 2, .mv (.c (.d (.int .i64 0))), none⟩] [2])
 (.seq (.seq (.draw [] [⟨some 3, .mv (.t 0), none⟩, ⟨some 4, .nilc (.t 3), none⟩, ⟨some 5, .fad false 1 1 (.t 4), none⟩, ⟨some 6, .ld false 1 (.t 5), none⟩, ⟨some 7, .mv (.t 0), none⟩, ⟨some 8, .nilc (.t 7), none⟩, ⟨some 9, .fad false 0 1 (.t 8), none⟩, ⟨some 10, .ld false 1 (.t 9), none⟩, ⟨some 11, .len (.t 10), none⟩, ⟨some 12, .bin .geq (.t 6) (.t 11), none⟩] [[], [], [], [], [0, 1, 2, 3], [0, 1, 2, 3], [0, 1, 2, 3], [0, 1, 2, 3], [0, 1, 2, 3], []] [3, 4, 5, 6, 7, 8, 9, 10, 11])
 (.cond (.t 12) (.seq (.ops [] [⟨some 2, .mv (.c (.d (.int .i64 0))), none⟩] [0, 12])
 (.ret [2])) .skip))
 (.seq (.ops [] [⟨some 13, .mv (.t 0), none⟩, ⟨some 14, .nilc (.t 13), none⟩, ⟨some 15, .fad false 1 1 (.t 14), none⟩, ⟨some 16, .ld false 1 (.t 15), none⟩, ⟨some 17, .bin .add (.t 16) (.c (.d (.int .i64 1))), none⟩, ⟨some 18, .nilc (.t 13), none⟩, ⟨some 19, .fad false 1 1 (.t 18), none⟩, ⟨none, .st 1 (.t 19) (.t 17), none⟩] [12, 13, 14, 15, 16, 17, 18, 19])
 (.seq (.draw [] [⟨some 20, .mv (.t 0), none⟩, ⟨some 21, .nilc (.t 20), none⟩, ⟨some 22, .fad false 0 1 (.t 21), none⟩, ⟨some 23, .ld false 1 (.t 22), none⟩, ⟨some 24, .mv (.t 0), none⟩, ⟨some 25, .nilc (.t 24), none⟩, ⟨some 26, .fad false 1 1 (.t 25), none⟩, ⟨some 27, .ld false 1 (.t 26), none⟩, ⟨some 28, .bin .sub (.t 27) (.c (.d (.int .i64 1))), none⟩, ⟨some 29, .iad 1 (.t 23) (.t 28), none⟩, ⟨some 30, .ld false 1 (.t 29), none⟩, ⟨some 2, .mv (.t 30), none⟩] [[], [], [], [], [0, 1, 2, 3], [0, 1, 2, 3], [0, 1, 2, 3], [0, 1, 2, 3], [0, 1, 2, 3], [], [], []] [0, 20, 21, 22, 23, 24, 25, 26, 27, 28, 29, 30])
 (.ret [2])))))
def r_base_Src_Raw : List ARes := [.t 2]
def fn_base_Src_Raw : AFn := .code c_base_Src_Raw r_base_Src_Raw 31 true
def c_base_Src_Pick : ACode :=
 (.seq (.ops [] [⟨some 4, .mv (.c (.d (.int .i64 0))), none⟩] [4])
 (.seq (.ops [] [⟨some 5, .mv (.t 1), none⟩, ⟨some 6, .mv (.t 0), none⟩, ⟨some 7, .mv (.t 1), none⟩, ⟨some 8, .len (.t 7), none⟩, ⟨some 9, .call N_base_Src_N [true, false] [.t 6, .t 8], none⟩, ⟨some 10, .iad 1 (.t 5) (.t 9), none⟩, ⟨some 11, .ld false 1 (.t 10), none⟩, ⟨some 4, .mv (.t 11), none⟩] [0, 1, 5, 6, 7, 8, 9, 10, 11])
 (.ret [4])))
def r_base_Src_Pick : List ARes := [.t 4]
def fn_base_Src_Pick : AFn := .code c_base_Src_Pick r_base_Src_Pick 12 true
def l_arena_New_0 : ACode :=
 (.seq (.ops [] [⟨some 86, .bin .lss (.t 85) (.t 84), none⟩] [])
 (.seq (.cond (.t 86) .skip (.exit 0 [2, 4]))
 (.seq (.block 1 (.seq (.ops [] [⟨some 87, .mv (.t 85), none⟩, ⟨some 5, .mv (.t 87), none⟩] [86, 87])
 (.seq (.ops [] [⟨some 89, .fad false 2 1 (.t 1), none⟩, ⟨some 90, .ld false 1 (.t 89), none⟩, ⟨some 91, .call N_shard_Free [] [.t 90], none⟩, ⟨some 88, .mv (.t 91), none⟩, ⟨some 92, .ext (.t 88) 0, none⟩, ⟨some 93, .ext (.t 88) 1, none⟩, ⟨some 6, .alloc (.agg [.d (.bool false), .d (.int .i64 0), .d (.int .i64 0), .xsl [], .d (.int .i64 0), .d (.int .i64 0), .xsl [], .xsl []]), none⟩, ⟨none, .st 8 (.t 6) (.t 92), none⟩, ⟨some 7, .mv (.t 93), none⟩] [7, 88, 89, 90, 91, 92, 93])
 (.seq (.seq (.ops [] [⟨some 95, .fad true 5 3 (.t 4), none⟩, ⟨some 96, .ld true 3 (.t 95), none⟩, ⟨some 97, .mv (.t 5), none⟩, ⟨some 98, .call N_directory_Span [] [.t 96, .t 97], none⟩, ⟨some 94, .mv (.t 98), none⟩, ⟨some 99, .ext (.t 94) 0, none⟩, ⟨some 100, .ext (.t 94) 1, none⟩, ⟨some 8, .alloc (.d (.agg [.int .i64 0, .int .i64 0, .int .i64 0])), none⟩, ⟨none, .st 3 (.t 8) (.t 99), none⟩, ⟨some 9, .mv (.t 100), none⟩] [5, 94, 95, 96, 97, 98, 99, 100])
 (.seq (.ops [] [⟨some 101, .mv (.t 9), none⟩] [9])
 (.cond (.t 101) (.ops [] [⟨some 103, .fad false 2 1 (.t 1), none⟩, ⟨some 104, .ld false 1 (.t 103), none⟩, ⟨some 105, .fad false 0 1 (.t 8), none⟩, ⟨some 106, .ld false 1 (.t 105), none⟩, ⟨some 107, .fad false 1 1 (.t 8), none⟩, ⟨some 108, .ld false 1 (.t 107), none⟩, ⟨some 109, .call N_shard_New [] [.t 104, .t 106, .t 108], none⟩, ⟨some 102, .mv (.t 109), none⟩, ⟨some 110, .ext (.t 102) 0, none⟩, ⟨some 111, .ext (.t 102) 1, none⟩, ⟨none, .st 8 (.t 6) (.t 110), none⟩] [8, 101, 102, 103, 104, 105, 106, 107, 108, 109, 110, 111]) .skip)))
 (.seq (.ops [] [⟨some 112, .fad false 0 1 (.t 4), none⟩, ⟨some 113, .ld false 1 (.t 112), none⟩, ⟨some 114, .ld true 8 (.t 6), none⟩, ⟨some 115, .build [.d (.int .i64 0), .d (.bool false), .d (.int .i64 0), .d (.int .i64 0), .xsl [], .d (.int .i64 0), .d (.int .i64 0), .xsl [], .xsl []] [(1, (8, .t 114))], none⟩, ⟨some 116, .bsl 1 9 (.agg [.d (.int .i64 0), .d (.bool false), .d (.int .i64 0), .d (.int .i64 0), .xsl [], .d (.int .i64 0), .d (.int .i64 0), .xsl [], .xsl []]) [(0, .t 115)], none⟩, ⟨some 117, .app 9 (.t 113) (.t 116), none⟩, ⟨some 118, .fad false 0 1 (.t 4), none⟩, ⟨none, .st 1 (.t 118) (.t 117), none⟩] [6, 8, 101, 112, 113, 114, 115, 116, 117, 118])
 (.ops [] [⟨some 119, .fad false 1 1 (.t 4), none⟩, ⟨some 120, .ld false 1 (.t 119), none⟩, ⟨some 121, .fad false 7 1 (.t 1), none⟩, ⟨some 122, .ld false 1 (.t 121), none⟩, ⟨some 123, .build [.d (.int .i64 0), .d (.int .i64 0), .d (.int .i64 0), .d (.int .i64 0)] [(1, (1, .t 122))], none⟩, ⟨some 124, .bsl 1 4 (.d (.agg [.int .i64 0, .int .i64 0, .int .i64 0, .int .i64 0])) [(0, .t 123)], none⟩, ⟨some 125, .app 4 (.t 120) (.t 124), none⟩, ⟨some 126, .fad false 1 1 (.t 4), none⟩, ⟨none, .st 1 (.t 126) (.t 125), none⟩] [119, 120, 121, 122, 123, 124, 125, 126]))))))
 (.ops [] [⟨some 127, .bin .add (.t 85) (.c (.d (.int .i64 1))), none⟩, ⟨some 85, .mv (.t 127), none⟩] [127]))))
def c_arena_New : ACode :=
 (.seq (.ops [] [⟨some 1, .box (.t 0), none⟩, ⟨some 2, .alloc (.agg [.xsl [], .xsl [], .d (.int .i64 0), .d (.int .i64 0), .xsl [], .d (.int .i64 0), .xsl [], .xsl [], .d (.int .i64 0), .d (.int .i64 0), .d (.int .i64 0)]), none⟩, ⟨some 3, .mv (.c (.d (.int .i64 0))), none⟩] [0, 3])
 (.seq (.seq (.ops [] [⟨some 10, .fad false 0 1 (.t 1), none⟩, ⟨some 11, .ld false 1 (.t 10), none⟩, ⟨some 12, .call N_arena_in [] [.t 11, .c (.d (.int .i64 1)), .c (.d (.int .i64 6))], none⟩, ⟨some 13, .un .not (.t 12), none⟩, ⟨some 14, .mv (.t 13), none⟩, ⟨some 15, .fad false 1 1 (.t 1), some (14, false)⟩, ⟨some 16, .ld false 1 (.t 15), some (14, false)⟩, ⟨some 17, .fad false 0 1 (.t 1), some (14, false)⟩, ⟨some 18, .ld false 1 (.t 17), some (14, false)⟩, ⟨some 19, .call N_arena_in [] [.t 16, .c (.d (.int .i64 1)), .t 18], some (14, false)⟩, ⟨some 20, .un .not (.t 19), some (14, false)⟩, ⟨some 21, .pick (.t 14) (.c (.d (.bool true))) (.t 20), none⟩, ⟨some 22, .mv (.t 21), none⟩, ⟨some 23, .fad false 2 1 (.t 1), some (22, false)⟩, ⟨some 24, .ld false 1 (.t 23), some (22, false)⟩, ⟨some 25, .call N_arena_in [] [.t 24, .c (.d (.int .i64 1)), .c (.d (.int .i64 12))], some (22, false)⟩, ⟨some 26, .un .not (.t 25), some (22, false)⟩, ⟨some 27, .pick (.t 22) (.c (.d (.bool true))) (.t 26), none⟩, ⟨some 28, .mv (.t 27), none⟩, ⟨some 29, .fad false 3 1 (.t 1), some (28, false)⟩, ⟨some 30, .ld false 1 (.t 29), some (28, false)⟩, ⟨some 31, .call N_arena_in [] [.t 30, .c (.d (.int .i64 1)), .c (.d (.int .i64 24))], some (28, false)⟩, ⟨some 32, .un .not (.t 31), some (28, false)⟩, ⟨some 33, .pick (.t 28) (.c (.d (.bool true))) (.t 32), none⟩, ⟨some 34, .mv (.t 33), none⟩, ⟨some 35, .fad false 4 1 (.t 1), some (34, false)⟩, ⟨some 36, .ld false 1 (.t 35), some (34, false)⟩, ⟨some 37, .call N_arena_in [] [.t 36, .c (.d (.int .i64 1)), .c (.d (.int .i64 8))], some (34, false)⟩, ⟨some 38, .un .not (.t 37), some (34, false)⟩, ⟨some 39, .pick (.t 34) (.c (.d (.bool true))) (.t 38), none⟩, ⟨some 40, .mv (.t 39), none⟩, ⟨some 41, .fad false 5 1 (.t 1), some (40, false)⟩, ⟨some 42, .ld false 1 (.t 41), some (40, false)⟩, ⟨some 43, .call N_arena_in [] [.t 42, .c (.d (.int .i64 0)), .c (.d (.int .i64 1073741824))], some (40, false)⟩, ⟨some 44, .un .not (.t 43), some (40, false)⟩, ⟨some 45, .pick (.t 40) (.c (.d (.bool true))) (.t 44), none⟩, ⟨some 46, .mv (.t 45), none⟩, ⟨some 47, .fad false 6 1 (.t 1), some (46, false)⟩, ⟨some 48, .ld false 1 (.t 47), some (46, false)⟩, ⟨some 49, .call N_arena_in [] [.t 48, .c (.d (.int .i64 1)), .c (.d (.int .i64 1073741824))], some (46, false)⟩, ⟨some 50, .un .not (.t 49), some (46, false)⟩, ⟨some 51, .pick (.t 46) (.c (.d (.bool true))) (.t 50), none⟩, ⟨some 52, .mv (.t 51), none⟩, ⟨some 53, .fad false 7 1 (.t 1), some (52, false)⟩, ⟨some 54, .ld false 1 (.t 53), some (52, false)⟩, ⟨some 55, .call N_arena_in [] [.t 54, .c (.d (.int .i64 0)), .c (.d (.int .i64 65536))], some (52, false)⟩, ⟨some 56, .un .not (.t 55), some (52, false)⟩, ⟨some 57, .pick (.t 52) (.c (.d (.bool true))) (.t 56), none⟩] [10, 11, 12, 13, 14, 15, 16, 17, 18, 19, 20, 21, 22, 23, 24, 25, 26, 27, 28, 29, 30, 31, 32, 33, 34, 35, 36, 37, 38, 39, 40, 41, 42, 43, 44, 45, 46, 47, 48, 49, 50, 51, 52, 53, 54, 55, 56])
 (.cond (.t 57) (.seq (.ops [] [⟨some 58, .build [.xsl [], .xsl [], .d (.int .i64 0), .d (.int .i64 0), .xsl [], .d (.int .i64 0), .xsl [], .xsl [], .d (.int .i64 0), .d (.int .i64 0), .d (.int .i64 0)] [], none⟩, ⟨none, .st 11 (.t 2) (.t 58), none⟩, ⟨some 3, .mv (.c (.d (.int .i64 1))), none⟩] [1, 57, 58])
 (.ret [2, 3])) .skip))
 (.seq (.ops [] [⟨some 59, .fad false 7 1 (.t 1), none⟩, ⟨some 60, .ld false 1 (.t 59), none⟩, ⟨some 61, .fad false 5 1 (.t 1), none⟩, ⟨some 62, .ld false 1 (.t 61), none⟩, ⟨some 63, .fad false 6 1 (.t 1), none⟩, ⟨some 64, .ld false 1 (.t 63), none⟩, ⟨some 65, .build [.xsl [], .xsl [], .d (.int .i64 0), .d (.int .i64 0), .xsl [], .d (.int .i64 0), .xsl [], .xsl [], .d (.int .i64 0), .d (.int .i64 0), .d (.int .i64 0)] [(8, (1, .t 60)), (9, (1, .t 62)), (10, (1, .t 64))], none⟩, ⟨some 4, .alloc (.agg [.xsl [], .xsl [], .d (.int .i64 0), .d (.int .i64 0), .xsl [], .d (.int .i64 0), .xsl [], .xsl [], .d (.int .i64 0), .d (.int .i64 0), .d (.int .i64 0)]), none⟩, ⟨none, .st 11 (.t 4) (.t 65), none⟩] [57, 59, 60, 61, 62, 63, 64, 65])
 (.seq (.ops [] [⟨some 67, .fad false 0 1 (.t 1), none⟩, ⟨some 68, .ld false 1 (.t 67), none⟩, ⟨some 69, .fad false 1 1 (.t 1), none⟩, ⟨some 70, .ld false 1 (.t 69), none⟩, ⟨some 71, .call N_directory_New [] [.t 68, .t 70], none⟩, ⟨some 66, .mv (.t 71), none⟩, ⟨some 72, .ext (.t 66) 0, none⟩, ⟨some 73, .ext (.t 66) 1, none⟩, ⟨some 74, .fad true 5 3 (.t 4), none⟩, ⟨none, .st 3 (.t 74) (.t 72), none⟩] [66, 67, 68, 69, 70, 71, 72, 73, 74])
 (.seq (.ops [] [⟨some 76, .fad false 3 1 (.t 1), none⟩, ⟨some 77, .ld false 1 (.t 76), none⟩, ⟨some 78, .call N_dead_New [] [.t 77], none⟩, ⟨some 75, .mv (.t 78), none⟩, ⟨some 79, .ext (.t 75) 0, none⟩, ⟨some 80, .ext (.t 75) 1, none⟩, ⟨some 81, .fad true 2 3 (.t 4), none⟩, ⟨some 82, .fad true 1 2 (.t 81), none⟩, ⟨none, .st 2 (.t 82) (.t 79), none⟩] [75, 76, 77, 78, 79, 80, 81, 82])
 (.seq (.seq (.ops [] [⟨some 83, .fad false 0 1 (.t 1), none⟩, ⟨some 84, .ld false 1 (.t 83), none⟩, ⟨some 85, .mv (.c (.d (.int .i64 0))), none⟩] [83])
 (.block 0 (.loop [] l_arena_New_0)))
 (.seq (.ops [] [⟨some 128, .ld true 11 (.t 4), none⟩, ⟨none, .st 11 (.t 2) (.t 128), none⟩, ⟨some 3, .mv (.c (.d (.int .i64 0))), none⟩] [1, 4, 84, 85, 86, 128])
 (.ret [2, 3]))))))))
def r_arena_New : List ARes := [.c 2 true 11, .t 3]
def fn_arena_New : AFn := .code c_arena_New r_arena_New 129 true
def c_arena_in : ACode :=
 (.seq (.ops [] [⟨some 6, .mv (.c (.d (.bool false))), none⟩] [6])
 (.seq (.ops [] [⟨some 7, .mv (.t 1), none⟩, ⟨some 8, .mv (.t 0), none⟩, ⟨some 9, .bin .leq (.t 7) (.t 8), none⟩, ⟨some 10, .mv (.t 9), none⟩, ⟨some 11, .mv (.t 0), some (10, true)⟩, ⟨some 12, .mv (.t 2), some (10, true)⟩, ⟨some 13, .bin .leq (.t 11) (.t 12), some (10, true)⟩, ⟨some 14, .pick (.t 10) (.t 13) (.c (.d (.bool false))), none⟩, ⟨some 6, .mv (.t 14), none⟩] [0, 1, 2, 7, 8, 9, 10, 11, 12, 13, 14])
 (.ret [6])))
def r_arena_in : List ARes := [.t 6]
def fn_arena_in : AFn := .code c_arena_in r_arena_in 15 true
def l_directory_New_0 : ACode :=
 (.seq (.ops [] [⟨some 23, .bin .lss (.t 22) (.t 21), none⟩] [])
 (.seq (.cond (.t 23) .skip (.exit 0 [0, 4, 6]))
 (.seq (.block 1 (.seq (.ops [] [⟨some 24, .mv (.t 22), none⟩, ⟨some 7, .mv (.t 24), none⟩] [23, 24])
 (.draw [] [⟨some 25, .fad false 1 1 (.t 6), none⟩, ⟨some 26, .ld false 1 (.t 25), none⟩, ⟨some 27, .mv (.t 7), none⟩, ⟨some 28, .bin .mul (.t 27) (.c (.d (.int .i64 65536))), none⟩, ⟨some 29, .mv (.t 1), none⟩, ⟨some 30, .bin .quo (.t 28) (.t 29), none⟩, ⟨some 31, .mv (.t 7), none⟩, ⟨some 32, .bin .add (.t 31) (.c (.d (.int .i64 1))), none⟩, ⟨some 33, .bin .mul (.t 32) (.c (.d (.int .i64 65536))), none⟩, ⟨some 34, .mv (.t 1), none⟩, ⟨some 35, .bin .quo (.t 33) (.t 34), none⟩, ⟨some 36, .bin .sub (.t 35) (.c (.d (.int .i64 1))), none⟩, ⟨some 37, .mv (.t 7), none⟩, ⟨some 38, .build [.d (.int .i64 0), .d (.int .i64 0), .d (.int .i64 0)] [(0, (1, .t 30)), (1, (1, .t 36)), (2, (1, .t 37))], none⟩, ⟨some 39, .bsl 1 3 (.d (.agg [.int .i64 0, .int .i64 0, .int .i64 0])) [(0, .t 38)], none⟩, ⟨some 40, .app 3 (.t 26) (.t 39), none⟩, ⟨some 41, .fad false 1 1 (.t 6), none⟩, ⟨none, .st 1 (.t 41) (.t 40), none⟩] [[], [], [0, 1], [0, 1], [0, 1, 2, 3], [0, 1], [0, 1, 2, 3, 4, 5], [0, 1, 2, 3, 4, 5], [0, 1, 2, 3, 4, 5], [0, 1, 2, 3, 4, 5, 6, 7, 8], [0, 1, 2, 3, 4, 5], [0, 1, 2, 3, 4, 5], [0, 1, 2, 3, 4, 5, 6, 7, 8, 9, 10, 11], [0, 1], [0, 1], [], [], []] [7, 25, 26, 27, 28, 29, 30, 31, 32, 33, 34, 35, 36, 37, 38, 39, 40, 41])))
 (.ops [4000040] [⟨some 42, .bin .add (.t 22) (.c (.d (.int .i64 1))), none⟩, ⟨some 22, .mv (.t 42), none⟩] [42]))))
def l_directory_New_1 : ACode :=
 (.seq (.ops [] [⟨some 45, .bin .lss (.t 44) (.t 43), none⟩] [])
 (.seq (.cond (.t 45) .skip (.exit 2 [4, 6]))
 (.seq (.block 3 (.ops [] [⟨some 46, .fad false 2 1 (.t 6), none⟩, ⟨some 47, .ld false 1 (.t 46), none⟩, ⟨some 48, .bsl 1 1 (.d (.int .i64 0)) [(0, .c (.d (.int .i64 (-1))))], none⟩, ⟨some 49, .app 1 (.t 47) (.t 48), none⟩, ⟨some 50, .fad false 2 1 (.t 6), none⟩, ⟨none, .st 1 (.t 50) (.t 49), none⟩] [45, 46, 47, 48, 49, 50]))
 (.ops [] [⟨some 51, .bin .add (.t 44) (.c (.d (.int .i64 1))), none⟩, ⟨some 44, .mv (.t 51), none⟩] [51]))))
def c_directory_New : ACode :=
 (.seq (.ops [] [⟨some 4, .alloc (.agg [.d (.int .i64 0), .xsl [], .xsl []]), none⟩, ⟨some 5, .mv (.c (.d (.int .i64 0))), none⟩] [5])
 (.seq (.seq (.ops [] [⟨some 8, .mv (.t 1), none⟩, ⟨some 9, .bin .lss (.t 8) (.c (.d (.int .i64 1))), none⟩, ⟨some 10, .mv (.t 9), none⟩, ⟨some 11, .mv (.t 1), some (10, false)⟩, ⟨some 12, .mv (.t 0), some (10, false)⟩, ⟨some 13, .bin .gtr (.t 11) (.t 12), some (10, false)⟩, ⟨some 14, .pick (.t 10) (.c (.d (.bool true))) (.t 13), none⟩, ⟨some 15, .mv (.t 14), none⟩, ⟨some 16, .mv (.t 0), some (15, false)⟩, ⟨some 17, .bin .gtr (.t 16) (.c (.d (.int .i64 6))), some (15, false)⟩, ⟨some 18, .pick (.t 15) (.c (.d (.bool true))) (.t 17), none⟩] [8, 9, 10, 11, 12, 13, 14, 15, 16, 17])
 (.cond (.t 18) (.seq (.ops [] [⟨some 19, .build [.d (.int .i64 0), .xsl [], .xsl []] [], none⟩, ⟨none, .st 3 (.t 4) (.t 19), none⟩, ⟨some 5, .mv (.c (.d (.int .i64 1))), none⟩] [0, 1, 18, 19])
 (.ret [4, 5])) .skip))
 (.seq (.ops [] [⟨some 20, .build [.d (.int .i64 0), .xsl [], .xsl []] [(0, (1, .c (.d (.int .i64 1))))], none⟩, ⟨some 6, .alloc (.agg [.d (.int .i64 0), .xsl [], .xsl []]), none⟩, ⟨none, .st 3 (.t 6) (.t 20), none⟩] [18, 20])
 (.seq (.seq (.ops [] [⟨some 21, .mv (.t 1), none⟩, ⟨some 22, .mv (.c (.d (.int .i64 0))), none⟩] [])
 (.block 0 (.loop [] l_directory_New_0)))
 (.seq (.seq (.ops [] [⟨some 43, .mv (.t 0), none⟩, ⟨some 44, .mv (.c (.d (.int .i64 0))), none⟩] [0, 1, 21, 22, 23])
 (.block 2 (.loop [] l_directory_New_1)))
 (.seq (.ops [] [⟨some 52, .ld true 3 (.t 6), none⟩, ⟨none, .st 3 (.t 4) (.t 52), none⟩, ⟨some 5, .mv (.c (.d (.int .i64 0))), none⟩] [6, 43, 44, 45, 52])
 (.ret [4, 5])))))))
def r_directory_New : List ARes := [.c 4 true 3, .t 5]
def fn_directory_New : AFn := .code c_directory_New r_directory_New 53 true
def c_dead_New : ACode :=
 (.seq (.ops [] [⟨some 2, .alloc (.agg [.d (.int .i64 0), .xsl []]), none⟩, ⟨some 3, .mv (.c (.d (.int .i64 0))), none⟩] [3])
 (.seq (.seq (.ops [] [⟨some 4, .mv (.t 0), none⟩, ⟨some 5, .bin .lss (.t 4) (.c (.d (.int .i64 1))), none⟩, ⟨some 6, .mv (.t 5), none⟩, ⟨some 7, .mv (.t 0), some (6, false)⟩, ⟨some 8, .bin .gtr (.t 7) (.c (.d (.int .i64 24))), some (6, false)⟩, ⟨some 9, .pick (.t 6) (.c (.d (.bool true))) (.t 8), none⟩] [4, 5, 6, 7, 8])
 (.cond (.t 9) (.seq (.ops [] [⟨some 10, .build [.d (.int .i64 0), .xsl []] [], none⟩, ⟨none, .st 2 (.t 2) (.t 10), none⟩, ⟨some 3, .mv (.c (.d (.int .i64 1))), none⟩] [0, 9, 10])
 (.ret [2, 3])) .skip))
 (.seq (.ops [] [⟨some 11, .mv (.t 0), none⟩, ⟨some 12, .build [.d (.int .i64 0), .xsl []] [(0, (1, .t 11))], none⟩, ⟨none, .st 2 (.t 2) (.t 12), none⟩, ⟨some 3, .mv (.c (.d (.int .i64 0))), none⟩] [0, 9, 11, 12])
 (.ret [2, 3]))))
def r_dead_New : List ARes := [.c 2 true 2, .t 3]
def fn_dead_New : AFn := .code c_dead_New r_dead_New 13 true
def c_shard_Free : ACode :=
 (.seq (.ops [] [⟨some 2, .alloc (.agg [.d (.bool false), .d (.int .i64 0), .d (.int .i64 0), .xsl [], .d (.int .i64 0), .d (.int .i64 0), .xsl [], .xsl []]), none⟩, ⟨some 3, .mv (.c (.d (.int .i64 0))), none⟩] [3])
 (.seq (.ops [] [⟨some 7, .mv (.t 0), none⟩, ⟨some 8, .call N_ring_New [] [.t 7], none⟩, ⟨some 6, .mv (.t 8), none⟩, ⟨some 9, .ext (.t 6) 0, none⟩, ⟨some 10, .ext (.t 6) 1, none⟩, ⟨some 4, .alloc (.agg [.xsl [], .d (.int .i64 0), .d (.int .i64 0)]), none⟩, ⟨none, .st 3 (.t 4) (.t 9), none⟩, ⟨some 5, .mv (.t 10), none⟩] [0, 6, 7, 8, 9, 10])
 (.seq (.seq (.ops [] [⟨some 11, .mv (.t 5), none⟩, ⟨some 12, .bin .neq (.t 11) (.c (.d (.int .i64 0))), none⟩] [11])
 (.cond (.t 12) (.seq (.ops [] [⟨some 13, .build [.d (.bool false), .d (.int .i64 0), .d (.int .i64 0), .xsl [], .d (.int .i64 0), .d (.int .i64 0), .xsl [], .xsl []] [], none⟩, ⟨some 14, .mv (.t 5), none⟩, ⟨none, .st 8 (.t 2) (.t 13), none⟩, ⟨some 3, .mv (.t 14), none⟩] [4, 5, 12, 13, 14])
 (.ret [2, 3])) .skip))
 (.seq (.ops [] [⟨some 15, .ld true 3 (.t 4), none⟩, ⟨some 16, .build [.d (.bool false), .d (.int .i64 0), .d (.int .i64 0), .xsl [], .d (.int .i64 0), .d (.int .i64 0), .xsl [], .xsl []] [(3, (3, .t 15))], none⟩, ⟨none, .st 8 (.t 2) (.t 16), none⟩, ⟨some 3, .mv (.c (.d (.int .i64 0))), none⟩] [4, 5, 12, 15, 16])
 (.ret [2, 3])))))
def r_shard_Free : List ARes := [.c 2 true 8, .t 3]
def fn_shard_Free : AFn := .code c_shard_Free r_shard_Free 17 true
def c_ring_New : ACode :=
 (.seq (.ops [] [⟨some 2, .alloc (.agg [.xsl [], .d (.int .i64 0), .d (.int .i64 0)]), none⟩, ⟨some 3, .mv (.c (.d (.int .i64 0))), none⟩] [3])
 (.seq (.seq (.ops [] [⟨some 4, .mv (.t 0), none⟩, ⟨some 5, .bin .lss (.t 4) (.c (.d (.int .i64 1))), none⟩, ⟨some 6, .mv (.t 5), none⟩, ⟨some 7, .mv (.t 0), some (6, false)⟩, ⟨some 8, .bin .gtr (.t 7) (.c (.d (.int .i64 12))), some (6, false)⟩, ⟨some 9, .pick (.t 6) (.c (.d (.bool true))) (.t 8), none⟩] [4, 5, 6, 7, 8])
 (.cond (.t 9) (.seq (.ops [] [⟨some 10, .build [.xsl [], .d (.int .i64 0), .d (.int .i64 0)] [], none⟩, ⟨none, .st 3 (.t 2) (.t 10), none⟩, ⟨some 3, .mv (.c (.d (.int .i64 1))), none⟩] [0, 9, 10])
 (.ret [2, 3])) .skip))
 (.seq (.ops [] [⟨some 11, .mv (.t 0), none⟩, ⟨some 12, .mks 7 (.d (.agg [.int .i64 0, .int .i64 0, .int .i64 0, .int .i64 0, .int .i64 0, .int .i64 0, .str []])) (.t 11) (.t 11), none⟩, ⟨some 13, .build [.xsl [], .d (.int .i64 0), .d (.int .i64 0)] [(0, (1, .t 12))], none⟩, ⟨none, .st 3 (.t 2) (.t 13), none⟩, ⟨some 3, .mv (.c (.d (.int .i64 0))), none⟩] [0, 9, 11, 12, 13])
 (.ret [2, 3]))))
def r_ring_New : List ARes := [.c 2 true 3, .t 3]
def fn_ring_New : AFn := .code c_ring_New r_ring_New 14 true
def c_directory_Span : ACode :=
 (.seq (.ops [] [⟨some 2, .box (.t 0), none⟩, ⟨some 4, .alloc (.d (.agg [.int .i64 0, .int .i64 0, .int .i64 0])), none⟩, ⟨some 5, .mv (.c (.d (.bool false))), none⟩] [0, 5])
 (.seq (.seq (.ops [] [⟨some 7, .ld true 3 (.t 2), none⟩, ⟨some 8, .call N_directory_Validate [] [.t 7], none⟩, ⟨some 9, .bin .neq (.t 8) (.c (.d (.int .i64 0))), none⟩] [7, 8])
 (.cond (.t 9) (.seq (.ops [] [⟨some 10, .build [.d (.int .i64 0), .d (.int .i64 0), .d (.int .i64 0)] [], none⟩, ⟨none, .st 3 (.t 4) (.t 10), none⟩, ⟨some 5, .mv (.c (.d (.bool false))), none⟩] [1, 2, 9, 10])
 (.ret [4, 5])) .skip))
 (.seq (.ops [] [⟨some 11, .fad false 1 1 (.t 2), none⟩, ⟨some 12, .ld false 1 (.t 11), none⟩, ⟨some 13, .mv (.t 1), none⟩, ⟨some 14, .call N_directory_find [] [.t 12, .t 13], none⟩, ⟨some 6, .mv (.t 14), none⟩] [1, 9, 11, 12, 13, 14])
 (.seq (.seq (.ops [] [⟨some 15, .mv (.t 6), none⟩, ⟨some 16, .bin .lss (.t 15) (.c (.d (.int .i64 0))), none⟩] [15])
 (.cond (.t 16) (.seq (.ops [] [⟨some 17, .build [.d (.int .i64 0), .d (.int .i64 0), .d (.int .i64 0)] [], none⟩, ⟨none, .st 3 (.t 4) (.t 17), none⟩, ⟨some 5, .mv (.c (.d (.bool false))), none⟩] [2, 6, 16, 17])
 (.ret [4, 5])) .skip))
 (.seq (.ops [] [⟨some 18, .fad false 1 1 (.t 2), none⟩, ⟨some 19, .ld false 1 (.t 18), none⟩, ⟨some 20, .mv (.t 6), none⟩, ⟨some 21, .iad 3 (.t 19) (.t 20), none⟩, ⟨some 22, .ld true 3 (.t 21), none⟩, ⟨none, .st 3 (.t 4) (.t 22), none⟩, ⟨some 5, .mv (.c (.d (.bool true))), none⟩] [2, 6, 16, 18, 19, 20, 21, 22])
 (.ret [4, 5]))))))
def r_directory_Span : List ARes := [.c 4 true 3, .t 5]
def fn_directory_Span : AFn := .code c_directory_Span r_directory_Span 23 true
def l_directory_Validate_0 : ACode :=
 (.seq (.ops [] [⟨some 40, .bin .lss (.t 39) (.t 38), none⟩] [])
 (.seq (.cond (.t 40) .skip (.exit 1 [1]))
 (.seq (.block 2 (.seq (.ops [] [⟨some 41, .mv (.t 39), none⟩, ⟨some 42, .iad 3 (.t 37) (.t 39), none⟩, ⟨some 43, .ld true 3 (.t 42), none⟩, ⟨some 5, .alloc (.d (.agg [.int .i64 0, .int .i64 0, .int .i64 0])), none⟩, ⟨some 4, .mv (.t 41), none⟩, ⟨none, .st 3 (.t 5) (.t 43), none⟩] [40, 41, 42, 43])
 (.seq (.ops [] [⟨some 44, .fad false 1 1 (.t 1), none⟩, ⟨some 45, .ld false 1 (.t 44), none⟩, ⟨some 46, .fad false 2 1 (.t 5), none⟩, ⟨some 47, .ld false 1 (.t 46), none⟩, ⟨some 48, .call N_directory_find [] [.t 45, .t 47], none⟩, ⟨some 49, .mv (.t 4), none⟩, ⟨some 50, .bin .neq (.t 48) (.t 49), none⟩] [4, 5, 44, 45, 46, 47, 48, 49])
 (.cond (.t 50) (.seq (.ops [] [⟨some 2, .mv (.c (.d (.int .i64 10))), none⟩] [1, 37, 38, 39, 50])
 (.ret [2])) .skip))))
 (.ops [] [⟨some 51, .bin .add (.t 39) (.c (.d (.int .i64 1))), none⟩, ⟨some 39, .mv (.t 51), none⟩] [50, 51]))))
def c_directory_Validate : ACode :=
 (.seq (.ops [] [⟨some 1, .box (.t 0), none⟩, ⟨some 2, .mv (.c (.d (.int .i64 0))), none⟩] [0, 2])
 (.seq (.ops [] [⟨some 6, .fad false 2 1 (.t 1), none⟩, ⟨some 7, .ld false 1 (.t 6), none⟩, ⟨some 8, .len (.t 7), none⟩, ⟨some 3, .alloc (.d (.int .i64 0)), none⟩, ⟨none, .st 1 (.t 3) (.t 8), none⟩] [6, 7, 8])
 (.seq (.block 0 (.seq (.ops [] [⟨some 10, .fad false 0 1 (.t 1), none⟩, ⟨some 11, .ld false 1 (.t 10), none⟩, ⟨some 12, .bin .lss (.t 11) (.c (.d (.int .i64 1))), none⟩, ⟨some 13, .mv (.t 12), none⟩, ⟨some 14, .fad false 0 1 (.t 1), some (13, false)⟩, ⟨some 15, .ld false 1 (.t 14), some (13, false)⟩, ⟨some 16, .bin .gtr (.t 15) (.c (.d (.int .i64 1099511627776))), some (13, false)⟩, ⟨some 17, .pick (.t 13) (.c (.d (.bool true))) (.t 16), none⟩, ⟨some 18, .mv (.t 17), none⟩, ⟨some 19, .ld false 1 (.t 3), some (18, false)⟩, ⟨some 20, .bin .lss (.t 19) (.c (.d (.int .i64 1))), some (18, false)⟩, ⟨some 21, .pick (.t 18) (.c (.d (.bool true))) (.t 20), none⟩, ⟨some 22, .mv (.t 21), none⟩, ⟨some 23, .ld false 1 (.t 3), some (22, false)⟩, ⟨some 24, .bin .gtr (.t 23) (.c (.d (.int .i64 6))), some (22, false)⟩, ⟨some 25, .pick (.t 22) (.c (.d (.bool true))) (.t 24), none⟩, ⟨some 9, .mv (.t 25), none⟩] [10, 11, 12, 13, 14, 15, 16, 17, 18, 19, 20, 21, 22, 23, 24, 25])
 (.cond (.t 9) (.seq (.ops [] [⟨some 2, .mv (.c (.d (.int .i64 1))), none⟩] [1, 3, 9])
 (.ret [2])) (.seq (.ops [] [⟨some 27, .fad false 1 1 (.t 1), none⟩, ⟨some 28, .ld false 1 (.t 27), none⟩, ⟨some 29, .call N_directory_tiles [] [.t 28], none⟩, ⟨some 30, .un .not (.t 29), none⟩, ⟨some 26, .mv (.t 30), none⟩] [9, 27, 28, 29, 30])
 (.cond (.t 26) (.seq (.ops [] [⟨some 2, .mv (.c (.d (.int .i64 7))), none⟩] [1, 3, 26])
 (.ret [2])) (.seq (.ops [] [⟨some 32, .fad false 1 1 (.t 1), none⟩, ⟨some 33, .ld false 1 (.t 32), none⟩, ⟨some 34, .mkfn N_directory_Validate_1 [.t 3], none⟩, ⟨some 35, .call N_slices_ContainsFunc_api_Span [] [.t 33, .t 34], none⟩, ⟨some 31, .mv (.t 35), none⟩] [3, 26, 32, 33, 34, 35])
 (.cond (.t 31) (.seq (.ops [] [⟨some 2, .mv (.c (.d (.int .i64 4))), none⟩] [1, 31])
 (.ret [2])) .skip)))))))
 (.seq (.seq (.ops [] [⟨some 36, .fad false 1 1 (.t 1), none⟩, ⟨some 37, .ld false 1 (.t 36), none⟩, ⟨some 38, .len (.t 37), none⟩, ⟨some 39, .mv (.c (.d (.int .i64 0))), none⟩] [31, 36])
 (.block 1 (.loop [] l_directory_Validate_0)))
 (.seq (.seq (.ops [] [⟨some 52, .ld true 3 (.t 1), none⟩, ⟨some 53, .call N_directory_forwards [] [.t 52], none⟩, ⟨some 54, .un .not (.t 53), none⟩] [1, 37, 38, 39, 40, 52, 53])
 (.cond (.t 54) (.seq (.ops [] [⟨some 2, .mv (.c (.d (.int .i64 7))), none⟩] [54])
 (.ret [2])) .skip))
 (.seq (.ops [] [⟨some 2, .mv (.c (.d (.int .i64 0))), none⟩] [54])
 (.ret [2])))))))
def r_directory_Validate : List ARes := [.t 2]
def fn_directory_Validate : AFn := .code c_directory_Validate r_directory_Validate 55 true
def l_directory_tiles_0 : ACode :=
 (.seq (.ops [] [⟨some 9, .bin .lss (.t 8) (.t 7), none⟩] [])
 (.seq (.cond (.t 9) .skip (.exit 0 [3]))
 (.seq (.block 1 (.seq (.ops [] [⟨some 10, .iad 3 (.t 6) (.t 8), none⟩, ⟨some 11, .ld true 3 (.t 10), none⟩, ⟨some 5, .alloc (.d (.agg [.int .i64 0, .int .i64 0, .int .i64 0])), none⟩, ⟨none, .st 3 (.t 5) (.t 11), none⟩] [9, 10, 11])
 (.seq (.seq (.ops [] [⟨some 12, .fad false 0 1 (.t 5), none⟩, ⟨some 13, .ld false 1 (.t 12), none⟩, ⟨some 14, .mv (.t 3), none⟩, ⟨some 15, .bin .neq (.t 13) (.t 14), none⟩, ⟨some 16, .mv (.t 15), none⟩, ⟨some 17, .fad false 1 1 (.t 5), some (16, false)⟩, ⟨some 18, .ld false 1 (.t 17), some (16, false)⟩, ⟨some 19, .fad false 0 1 (.t 5), some (16, false)⟩, ⟨some 20, .ld false 1 (.t 19), some (16, false)⟩, ⟨some 21, .bin .lss (.t 18) (.t 20), some (16, false)⟩, ⟨some 22, .pick (.t 16) (.c (.d (.bool true))) (.t 21), none⟩, ⟨some 23, .mv (.t 22), none⟩, ⟨some 24, .fad false 1 1 (.t 5), some (23, false)⟩, ⟨some 25, .ld false 1 (.t 24), some (23, false)⟩, ⟨some 26, .bin .geq (.t 25) (.c (.d (.int .i64 65536))), some (23, false)⟩, ⟨some 27, .pick (.t 23) (.c (.d (.bool true))) (.t 26), none⟩] [3, 12, 13, 14, 15, 16, 17, 18, 19, 20, 21, 22, 23, 24, 25, 26])
 (.cond (.t 27) (.seq (.ops [] [⟨some 2, .mv (.c (.d (.bool false))), none⟩] [5, 6, 7, 8, 27])
 (.ret [2])) .skip))
 (.ops [] [⟨some 28, .fad false 1 1 (.t 5), none⟩, ⟨some 29, .ld false 1 (.t 28), none⟩, ⟨some 30, .bin .add (.t 29) (.c (.d (.int .i64 1))), none⟩, ⟨some 3, .mv (.t 30), none⟩] [5, 27, 28, 29, 30]))))
 (.ops [] [⟨some 31, .bin .add (.t 8) (.c (.d (.int .i64 1))), none⟩, ⟨some 8, .mv (.t 31), none⟩] [31]))))
def c_directory_tiles : ACode :=
 (.seq (.ops [] [⟨some 2, .mv (.c (.d (.bool false))), none⟩] [2])
 (.seq (.ops [] [⟨some 3, .mv (.c (.d (.int .i64 0))), none⟩] [])
 (.seq (.seq (.ops [] [⟨some 6, .mv (.t 0), none⟩, ⟨some 7, .len (.t 6), none⟩, ⟨some 8, .mv (.c (.d (.int .i64 0))), none⟩] [0])
 (.block 0 (.loop [] l_directory_tiles_0)))
 (.seq (.ops [] [⟨some 32, .mv (.t 3), none⟩, ⟨some 33, .bin .eql (.t 32) (.c (.d (.int .i64 65536))), none⟩, ⟨some 2, .mv (.t 33), none⟩] [3, 6, 7, 8, 9, 32, 33])
 (.ret [2])))))
def r_directory_tiles : List ARes := [.t 2]
def fn_directory_tiles : AFn := .code c_directory_tiles r_directory_tiles 34 true
def c_directory_Validate_1 : ACode :=
 (.seq (.ops [] [⟨some 2, .box (.t 0), none⟩, ⟨some 3, .mv (.c (.d (.bool false))), none⟩] [0, 3])
 (.seq (.ops [] [⟨some 4, .fad false 2 1 (.t 2), none⟩, ⟨some 5, .ld false 1 (.t 4), none⟩, ⟨some 6, .bin .lss (.t 5) (.c (.d (.int .i64 0))), none⟩, ⟨some 7, .mv (.t 6), none⟩, ⟨some 8, .fad false 2 1 (.t 2), some (7, false)⟩, ⟨some 9, .ld false 1 (.t 8), some (7, false)⟩, ⟨some 10, .ld false 1 (.t 1), some (7, false)⟩, ⟨some 11, .bin .geq (.t 9) (.t 10), some (7, false)⟩, ⟨some 12, .pick (.t 7) (.c (.d (.bool true))) (.t 11), none⟩, ⟨some 3, .mv (.t 12), none⟩] [1, 2, 4, 5, 6, 7, 8, 9, 10, 11, 12])
 (.ret [3])))
def r_directory_Validate_1 : List ARes := [.t 3]
def fn_directory_Validate_1 : AFn := .code c_directory_Validate_1 r_directory_Validate_1 13 true
def c_slices_ContainsFunc_api_Span : ACode :=
 (.seq (.ops [] [⟨some 4, .mv (.c (.d (.bool false))), none⟩] [4])
 (.seq (.ops [] [⟨some 5, .mv (.t 0), none⟩, ⟨some 6, .mv (.t 1), none⟩, ⟨some 7, .call N_slices_IndexFunc_api_Span [] [.t 5, .t 6], none⟩, ⟨some 8, .bin .geq (.t 7) (.c (.d (.int .i64 0))), none⟩, ⟨some 4, .mv (.t 8), none⟩] [0, 1, 5, 6, 7, 8])
 (.ret [4])))
def r_slices_ContainsFunc_api_Span : List ARes := [.t 4]
def fn_slices_ContainsFunc_api_Span : AFn := .code c_slices_ContainsFunc_api_Span r_slices_ContainsFunc_api_Span 9 true
def l_slices_IndexFunc_api_Span_0 : ACode :=
 (.seq (.ops [] [⟨some 9, .bin .lss (.t 8) (.t 7), none⟩] [])
 (.seq (.cond (.t 9) .skip (.exit 0 []))
 (.seq (.block 1 (.seq (.ops [] [⟨some 10, .mv (.t 8), none⟩, ⟨some 5, .mv (.t 10), none⟩] [9, 10])
 (.seq (.ops [] [⟨some 11, .mv (.t 1), none⟩, ⟨some 12, .mv (.t 0), none⟩, ⟨some 13, .mv (.t 5), none⟩, ⟨some 14, .iad 3 (.t 12) (.t 13), none⟩, ⟨some 15, .ld true 3 (.t 14), none⟩, ⟨some 16, .callv (.t 11) [] [.t 15], none⟩] [11, 12, 13, 14, 15])
 (.cond (.t 16) (.seq (.ops [] [⟨some 17, .mv (.t 5), none⟩, ⟨some 4, .mv (.t 17), none⟩] [0, 1, 5, 7, 8, 16, 17])
 (.ret [4])) .skip))))
 (.ops [] [⟨some 18, .bin .add (.t 8) (.c (.d (.int .i64 1))), none⟩, ⟨some 8, .mv (.t 18), none⟩] [5, 16, 18]))))
def c_slices_IndexFunc_api_Span : ACode :=
 (.seq (.ops [] [⟨some 4, .mv (.c (.d (.int .i64 0))), none⟩] [4])
 (.seq (.seq (.ops [] [⟨some 6, .mv (.t 0), none⟩, ⟨some 7, .len (.t 6), none⟩, ⟨some 8, .mv (.c (.d (.int .i64 0))), none⟩] [6])
 (.block 0 (.loop [] l_slices_IndexFunc_api_Span_0)))
 (.seq (.ops [] [⟨some 4, .mv (.c (.d (.int .i64 (-1)))), none⟩] [0, 1, 7, 8, 9])
 (.ret [4]))))
def r_slices_IndexFunc_api_Span : List ARes := [.t 4]
def fn_slices_IndexFunc_api_Span : AFn := .code c_slices_IndexFunc_api_Span r_slices_IndexFunc_api_Span 19 true
def c_directory_find : ACode :=
 (.seq (.ops [] [⟨some 3, .box (.t 1), none⟩, ⟨some 4, .mv (.c (.d (.int .i64 0))), none⟩] [1, 4])
 (.seq (.ops [] [⟨some 5, .mv (.t 0), none⟩, ⟨some 6, .mkfn N_directory_find_1 [.t 3], none⟩, ⟨some 7, .call N_slices_IndexFunc_api_Span [] [.t 5, .t 6], none⟩, ⟨some 4, .mv (.t 7), none⟩] [0, 3, 5, 6, 7])
 (.ret [4])))
def r_directory_find : List ARes := [.t 4]
def fn_directory_find : AFn := .code c_directory_find r_directory_find 8 true
def c_directory_find_1 : ACode :=
 (.seq (.ops [] [⟨some 2, .box (.t 0), none⟩, ⟨some 3, .mv (.c (.d (.bool false))), none⟩] [0, 3])
 (.seq (.ops [] [⟨some 4, .fad false 2 1 (.t 2), none⟩, ⟨some 5, .ld false 1 (.t 4), none⟩, ⟨some 6, .ld false 1 (.t 1), none⟩, ⟨some 7, .bin .eql (.t 5) (.t 6), none⟩, ⟨some 3, .mv (.t 7), none⟩] [1, 2, 4, 5, 6, 7])
 (.ret [3])))
def r_directory_find_1 : List ARes := [.t 3]
def fn_directory_find_1 : AFn := .code c_directory_find_1 r_directory_find_1 8 true
def l_directory_forwards_0 : ACode :=
 (.seq (.ops [] [⟨some 12, .bin .lss (.t 11) (.t 10), none⟩] [])
 (.seq (.cond (.t 12) .skip (.exit 0 [1]))
 (.seq (.block 1 (.seq (.ops [] [⟨some 13, .mv (.t 11), none⟩, ⟨some 14, .iad 1 (.t 9) (.t 11), none⟩, ⟨some 15, .ld false 1 (.t 14), none⟩, ⟨some 3, .mv (.t 13), none⟩, ⟨some 4, .mv (.t 15), none⟩] [12, 13, 14, 15])
 (.seq (.ops [] [⟨some 16, .fad false 1 1 (.t 1), none⟩, ⟨some 17, .ld false 1 (.t 16), none⟩, ⟨some 18, .mv (.t 3), none⟩, ⟨some 19, .call N_directory_find [] [.t 17, .t 18], none⟩, ⟨some 20, .bin .geq (.t 19) (.c (.d (.int .i64 0))), none⟩, ⟨some 5, .mv (.t 20), none⟩] [3, 16, 17, 18, 19, 20])
 (.seq (.ops [] [⟨some 21, .mv (.t 5), none⟩, ⟨some 22, .mv (.t 21), none⟩, ⟨some 23, .mv (.t 4), some (22, true)⟩, ⟨some 24, .bin .neq (.t 23) (.c (.d (.int .i64 (-1)))), some (22, true)⟩, ⟨some 25, .pick (.t 22) (.t 24) (.c (.d (.bool false))), none⟩, ⟨some 26, .mv (.t 25), none⟩, ⟨some 27, .mv (.t 4), some (26, false)⟩, ⟨some 28, .bin .lss (.t 27) (.c (.d (.int .i64 (-1)))), some (26, false)⟩, ⟨some 29, .pick (.t 26) (.c (.d (.bool true))) (.t 28), none⟩, ⟨some 30, .mv (.t 29), none⟩, ⟨some 31, .mv (.t 4), some (30, false)⟩, ⟨some 32, .fad false 2 1 (.t 1), some (30, false)⟩, ⟨some 33, .ld false 1 (.t 32), some (30, false)⟩, ⟨some 34, .len (.t 33), some (30, false)⟩, ⟨some 35, .bin .geq (.t 31) (.t 34), some (30, false)⟩, ⟨some 36, .pick (.t 30) (.c (.d (.bool true))) (.t 35), none⟩] [4, 5, 21, 22, 23, 24, 25, 26, 27, 28, 29, 30, 31, 32, 33, 34, 35])
 (.cond (.t 36) (.seq (.ops [] [⟨some 2, .mv (.c (.d (.bool false))), none⟩] [1, 9, 10, 11, 36])
 (.ret [2])) .skip)))))
 (.ops [] [⟨some 37, .bin .add (.t 11) (.c (.d (.int .i64 1))), none⟩, ⟨some 11, .mv (.t 37), none⟩] [36, 37]))))
def l_directory_forwards_1 : ACode :=
 (.seq (.ops [] [⟨some 49, .bin .lss (.t 48) (.t 47), none⟩] [])
 (.seq (.cond (.t 49) .skip (.exit 4 [1, 7, 40, 41]))
 (.seq (.block 5 (.seq (.ops [] [⟨some 50, .mv (.t 7), none⟩, ⟨some 51, .bin .geq (.t 50) (.c (.d (.int .i64 0))), none⟩] [49, 50])
 (.cond (.t 51) (.ops [] [⟨some 52, .fad false 2 1 (.t 1), none⟩, ⟨some 53, .ld false 1 (.t 52), none⟩, ⟨some 54, .mv (.t 7), none⟩, ⟨some 55, .iad 1 (.t 53) (.t 54), none⟩, ⟨some 56, .ld false 1 (.t 55), none⟩, ⟨some 7, .mv (.t 56), none⟩] [51, 52, 53, 54, 55, 56]) .skip)))
 (.ops [] [⟨some 57, .bin .add (.t 48) (.c (.d (.int .i64 1))), none⟩, ⟨some 48, .mv (.t 57), none⟩] [51, 57]))))
def l_directory_forwards_2 : ACode :=
 (.seq (.ops [] [⟨some 42, .bin .lss (.t 41) (.t 40), none⟩] [])
 (.seq (.cond (.t 42) .skip (.exit 2 []))
 (.seq (.block 3 (.seq (.ops [] [⟨some 43, .mv (.t 41), none⟩, ⟨some 6, .mv (.t 43), none⟩] [42, 43])
 (.seq (.ops [] [⟨some 44, .mv (.t 6), none⟩, ⟨some 7, .mv (.t 44), none⟩] [6, 44])
 (.seq (.seq (.ops [] [⟨some 45, .fad false 2 1 (.t 1), none⟩, ⟨some 46, .ld false 1 (.t 45), none⟩, ⟨some 47, .len (.t 46), none⟩, ⟨some 48, .mv (.c (.d (.int .i64 0))), none⟩] [45, 46])
 (.block 4 (.loop [] l_directory_forwards_1)))
 (.seq (.ops [] [⟨some 58, .mv (.t 7), none⟩, ⟨some 59, .bin .geq (.t 58) (.c (.d (.int .i64 0))), none⟩] [7, 47, 48, 49, 58])
 (.cond (.t 59) (.seq (.ops [] [⟨some 2, .mv (.c (.d (.bool false))), none⟩] [1, 40, 41, 59])
 (.ret [2])) .skip))))))
 (.ops [] [⟨some 60, .bin .add (.t 41) (.c (.d (.int .i64 1))), none⟩, ⟨some 41, .mv (.t 60), none⟩] [59, 60]))))
def c_directory_forwards : ACode :=
 (.seq (.ops [] [⟨some 1, .box (.t 0), none⟩, ⟨some 2, .mv (.c (.d (.bool false))), none⟩] [0, 2])
 (.seq (.seq (.ops [] [⟨some 8, .fad false 2 1 (.t 1), none⟩, ⟨some 9, .ld false 1 (.t 8), none⟩, ⟨some 10, .len (.t 9), none⟩, ⟨some 11, .mv (.c (.d (.int .i64 0))), none⟩] [8])
 (.block 0 (.loop [] l_directory_forwards_0)))
 (.seq (.seq (.ops [] [⟨some 38, .fad false 2 1 (.t 1), none⟩, ⟨some 39, .ld false 1 (.t 38), none⟩, ⟨some 40, .len (.t 39), none⟩, ⟨some 41, .mv (.c (.d (.int .i64 0))), none⟩] [9, 10, 11, 12, 38, 39])
 (.block 2 (.loop [] l_directory_forwards_2)))
 (.seq (.ops [] [⟨some 2, .mv (.c (.d (.bool true))), none⟩] [1, 40, 41, 42])
 (.ret [2])))))
def r_directory_forwards : List ARes := [.t 2]
def fn_directory_forwards : AFn := .code c_directory_forwards r_directory_forwards 61 true
def c_shard_New : ACode :=
 (.seq (.ops [] [⟨some 6, .alloc (.agg [.d (.bool false), .d (.int .i64 0), .d (.int .i64 0), .xsl [], .d (.int .i64 0), .d (.int .i64 0), .xsl [], .xsl []]), none⟩, ⟨some 7, .mv (.c (.d (.int .i64 0))), none⟩] [7])
 (.seq (.ops [] [⟨some 11, .mv (.t 0), none⟩, ⟨some 12, .call N_ring_New [] [.t 11], none⟩, ⟨some 10, .mv (.t 12), none⟩, ⟨some 13, .ext (.t 10) 0, none⟩, ⟨some 14, .ext (.t 10) 1, none⟩, ⟨some 8, .alloc (.agg [.xsl [], .d (.int .i64 0), .d (.int .i64 0)]), none⟩, ⟨none, .st 3 (.t 8) (.t 13), none⟩, ⟨some 9, .mv (.t 14), none⟩] [0, 10, 11, 12, 13, 14])
 (.seq (.seq (.ops [] [⟨some 15, .mv (.t 9), none⟩, ⟨some 16, .bin .neq (.t 15) (.c (.d (.int .i64 0))), none⟩] [15])
 (.cond (.t 16) (.seq (.ops [] [⟨some 17, .build [.d (.bool false), .d (.int .i64 0), .d (.int .i64 0), .xsl [], .d (.int .i64 0), .d (.int .i64 0), .xsl [], .xsl []] [], none⟩, ⟨some 18, .mv (.t 9), none⟩, ⟨none, .st 8 (.t 6) (.t 17), none⟩, ⟨some 7, .mv (.t 18), none⟩] [1, 2, 8, 9, 16, 17, 18])
 (.ret [6, 7])) .skip))
 (.seq (.seq (.ops [] [⟨some 19, .mv (.t 1), none⟩, ⟨some 20, .mv (.t 2), none⟩, ⟨some 21, .call N_shard_spans [] [.t 19, .t 20], none⟩, ⟨some 22, .un .not (.t 21), none⟩] [9, 16, 19, 20, 21])
 (.cond (.t 22) (.seq (.ops [] [⟨some 23, .build [.d (.bool false), .d (.int .i64 0), .d (.int .i64 0), .xsl [], .d (.int .i64 0), .d (.int .i64 0), .xsl [], .xsl []] [], none⟩, ⟨none, .st 8 (.t 6) (.t 23), none⟩, ⟨some 7, .mv (.c (.d (.int .i64 1))), none⟩] [1, 2, 8, 22, 23])
 (.ret [6, 7])) .skip))
 (.seq (.ops [] [⟨some 24, .mv (.t 1), none⟩, ⟨some 25, .mv (.t 2), none⟩, ⟨some 26, .ld true 3 (.t 8), none⟩, ⟨some 27, .build [.d (.bool false), .d (.int .i64 0), .d (.int .i64 0), .xsl [], .d (.int .i64 0), .d (.int .i64 0), .xsl [], .xsl []] [(0, (1, .c (.d (.bool true)))), (1, (1, .t 24)), (2, (1, .t 25)), (3, (3, .t 26))], none⟩, ⟨none, .st 8 (.t 6) (.t 27), none⟩, ⟨some 7, .mv (.c (.d (.int .i64 0))), none⟩] [1, 2, 8, 22, 24, 25, 26, 27])
 (.ret [6, 7]))))))
def r_shard_New : List ARes := [.c 6 true 8, .t 7]
def fn_shard_New : AFn := .code c_shard_New r_shard_New 28 true
def c_shard_spans : ACode :=
 (.seq (.ops [] [⟨some 4, .mv (.c (.d (.bool false))), none⟩] [4])
 (.seq (.ops [] [⟨some 5, .mv (.t 0), none⟩, ⟨some 6, .bin .leq (.c (.d (.int .i64 0))) (.t 5), none⟩, ⟨some 7, .mv (.t 6), none⟩, ⟨some 8, .mv (.t 0), some (7, true)⟩, ⟨some 9, .mv (.t 1), some (7, true)⟩, ⟨some 10, .bin .leq (.t 8) (.t 9), some (7, true)⟩, ⟨some 11, .pick (.t 7) (.t 10) (.c (.d (.bool false))), none⟩, ⟨some 12, .mv (.t 11), none⟩, ⟨some 13, .mv (.t 1), some (12, true)⟩, ⟨some 14, .bin .lss (.t 13) (.c (.d (.int .i64 65536))), some (12, true)⟩, ⟨some 15, .pick (.t 12) (.t 14) (.c (.d (.bool false))), none⟩, ⟨some 4, .mv (.t 15), none⟩] [0, 1, 5, 6, 7, 8, 9, 10, 11, 12, 13, 14, 15])
 (.ret [4])))
def r_shard_spans : List ARes := [.t 4]
def fn_shard_spans : AFn := .code c_shard_spans r_shard_spans 16 true
def l_ref12_New_0 : ACode :=
 (.seq (.seq (.ops [] [⟨some 75, .mv (.t 7), none⟩, ⟨some 76, .fad false 0 1 (.t 1), none⟩, ⟨some 77, .ld false 1 (.t 76), none⟩, ⟨some 78, .bin .lss (.t 75) (.t 77), none⟩] [75, 76, 77])
 (.cond (.t 78) .skip (.exit 0 [1, 2, 6])))
 (.seq (.block 1 (.seq (.ops [] [⟨some 82, .fad false 2 1 (.t 1), none⟩, ⟨some 83, .ld false 1 (.t 82), none⟩, ⟨some 84, .call N_ref07_Free [] [.t 83], none⟩, ⟨some 81, .mv (.t 84), none⟩, ⟨some 85, .ext (.t 81) 0, none⟩, ⟨some 86, .ext (.t 81) 1, none⟩, ⟨some 8, .alloc (.agg [.d (.bool false), .d (.int .i64 0), .d (.int .i64 0), .xsl [], .d (.int .i64 0), .d (.int .i64 0), .xsl [], .xsl []]), none⟩, ⟨none, .st 8 (.t 8) (.t 85), none⟩, ⟨some 9, .mv (.t 86), none⟩] [9, 78, 81, 82, 83, 84, 85, 86])
 (.seq (.seq (.ops [] [⟨some 87, .mv (.t 7), none⟩, ⟨some 88, .fad false 1 1 (.t 1), none⟩, ⟨some 89, .ld false 1 (.t 88), none⟩, ⟨some 90, .bin .lss (.t 87) (.t 89), none⟩] [87, 88, 89])
 (.cond (.t 90) (.draw [] [⟨some 92, .fad false 2 1 (.t 1), none⟩, ⟨some 93, .ld false 1 (.t 92), none⟩, ⟨some 94, .fad false 1 1 (.t 4), none⟩, ⟨some 95, .ld false 1 (.t 94), none⟩, ⟨some 96, .mv (.t 7), none⟩, ⟨some 97, .iad 3 (.t 95) (.t 96), none⟩, ⟨some 98, .fad false 0 1 (.t 97), none⟩, ⟨some 99, .ld false 1 (.t 98), none⟩, ⟨some 100, .fad false 1 1 (.t 4), none⟩, ⟨some 101, .ld false 1 (.t 100), none⟩, ⟨some 102, .mv (.t 7), none⟩, ⟨some 103, .iad 3 (.t 101) (.t 102), none⟩, ⟨some 104, .fad false 1 1 (.t 103), none⟩, ⟨some 105, .ld false 1 (.t 104), none⟩, ⟨some 106, .call N_ref07_New [] [.t 93, .t 99, .t 105], none⟩, ⟨some 91, .mv (.t 106), none⟩, ⟨some 107, .ext (.t 91) 0, none⟩, ⟨some 108, .ext (.t 91) 1, none⟩, ⟨none, .st 8 (.t 8) (.t 107), none⟩] [[], [], [0, 1], [0, 1], [0, 1, 2, 3], [0, 1], [0, 1], [0, 1], [0, 1, 2, 3, 4, 5, 6, 7], [0, 1, 2, 3, 4, 5, 6, 7], [0, 1, 2, 3, 4, 5, 6, 7, 8, 9], [0, 1, 2, 3, 4, 5, 6, 7], [0, 1, 2, 3, 4, 5, 6, 7], [0, 1, 2, 3, 4, 5, 6, 7], [], [], [], [16], [17]] [90, 91, 92, 93, 94, 95, 96, 97, 98, 99, 100, 101, 102, 103, 104, 105, 106, 107, 108]) .skip))
 (.seq (.ops [] [⟨some 109, .fad false 0 1 (.t 6), none⟩, ⟨some 110, .ld false 1 (.t 109), none⟩, ⟨some 111, .ld true 8 (.t 8), none⟩, ⟨some 112, .build [.d (.int .i64 0), .d (.bool false), .d (.int .i64 0), .d (.int .i64 0), .xsl [], .d (.int .i64 0), .d (.int .i64 0), .xsl [], .xsl []] [(1, (8, .t 111))], none⟩, ⟨some 113, .bsl 1 9 (.agg [.d (.int .i64 0), .d (.bool false), .d (.int .i64 0), .d (.int .i64 0), .xsl [], .d (.int .i64 0), .d (.int .i64 0), .xsl [], .xsl []]) [(0, .t 112)], none⟩, ⟨some 114, .app 9 (.t 110) (.t 113), none⟩, ⟨some 115, .fad false 0 1 (.t 6), none⟩, ⟨none, .st 1 (.t 115) (.t 114), none⟩] [8, 90, 109, 110, 111, 112, 113, 114, 115])
 (.ops [] [⟨some 116, .fad false 1 1 (.t 6), none⟩, ⟨some 117, .ld false 1 (.t 116), none⟩, ⟨some 118, .fad false 7 1 (.t 1), none⟩, ⟨some 119, .ld false 1 (.t 118), none⟩, ⟨some 120, .build [.d (.int .i64 0), .d (.int .i64 0), .d (.int .i64 0), .d (.int .i64 0)] [(1, (1, .t 119))], none⟩, ⟨some 121, .bsl 1 4 (.d (.agg [.int .i64 0, .int .i64 0, .int .i64 0, .int .i64 0])) [(0, .t 120)], none⟩, ⟨some 122, .app 4 (.t 117) (.t 121), none⟩, ⟨some 123, .fad false 1 1 (.t 6), none⟩, ⟨none, .st 1 (.t 123) (.t 122), none⟩] [116, 117, 118, 119, 120, 121, 122, 123])))))
 (.ops [] [⟨some 79, .mv (.t 7), none⟩, ⟨some 80, .bin .add (.t 79) (.c (.d (.int .i64 1))), none⟩, ⟨some 7, .mv (.t 80), none⟩] [79, 80])))
def c_ref12_New : ACode :=
 (.seq (.ops [] [⟨some 1, .box (.t 0), none⟩, ⟨some 2, .alloc (.agg [.xsl [], .xsl [], .d (.int .i64 0), .d (.int .i64 0), .xsl [], .d (.int .i64 0), .xsl [], .xsl [], .d (.int .i64 0), .d (.int .i64 0), .d (.int .i64 0)]), none⟩, ⟨some 3, .mv (.c (.d (.int .i64 0))), none⟩] [0, 3])
 (.seq (.seq (.ops [] [⟨some 10, .fad false 0 1 (.t 1), none⟩, ⟨some 11, .ld false 1 (.t 10), none⟩, ⟨some 12, .call N_ref12_in [] [.t 11, .c (.d (.int .i64 1)), .c (.d (.int .i64 6))], none⟩, ⟨some 13, .un .not (.t 12), none⟩, ⟨some 14, .mv (.t 13), none⟩, ⟨some 15, .fad false 1 1 (.t 1), some (14, false)⟩, ⟨some 16, .ld false 1 (.t 15), some (14, false)⟩, ⟨some 17, .fad false 0 1 (.t 1), some (14, false)⟩, ⟨some 18, .ld false 1 (.t 17), some (14, false)⟩, ⟨some 19, .call N_ref12_in [] [.t 16, .c (.d (.int .i64 1)), .t 18], some (14, false)⟩, ⟨some 20, .un .not (.t 19), some (14, false)⟩, ⟨some 21, .pick (.t 14) (.c (.d (.bool true))) (.t 20), none⟩, ⟨some 22, .mv (.t 21), none⟩, ⟨some 23, .fad false 2 1 (.t 1), some (22, false)⟩, ⟨some 24, .ld false 1 (.t 23), some (22, false)⟩, ⟨some 25, .call N_ref12_in [] [.t 24, .c (.d (.int .i64 1)), .c (.d (.int .i64 12))], some (22, false)⟩, ⟨some 26, .un .not (.t 25), some (22, false)⟩, ⟨some 27, .pick (.t 22) (.c (.d (.bool true))) (.t 26), none⟩, ⟨some 28, .mv (.t 27), none⟩, ⟨some 29, .fad false 3 1 (.t 1), some (28, false)⟩, ⟨some 30, .ld false 1 (.t 29), some (28, false)⟩, ⟨some 31, .call N_ref12_in [] [.t 30, .c (.d (.int .i64 1)), .c (.d (.int .i64 24))], some (28, false)⟩, ⟨some 32, .un .not (.t 31), some (28, false)⟩, ⟨some 33, .pick (.t 28) (.c (.d (.bool true))) (.t 32), none⟩, ⟨some 34, .mv (.t 33), none⟩, ⟨some 35, .fad false 4 1 (.t 1), some (34, false)⟩, ⟨some 36, .ld false 1 (.t 35), some (34, false)⟩, ⟨some 37, .call N_ref12_in [] [.t 36, .c (.d (.int .i64 1)), .c (.d (.int .i64 8))], some (34, false)⟩, ⟨some 38, .un .not (.t 37), some (34, false)⟩, ⟨some 39, .pick (.t 34) (.c (.d (.bool true))) (.t 38), none⟩, ⟨some 40, .mv (.t 39), none⟩, ⟨some 41, .fad false 5 1 (.t 1), some (40, false)⟩, ⟨some 42, .ld false 1 (.t 41), some (40, false)⟩, ⟨some 43, .call N_ref12_in [] [.t 42, .c (.d (.int .i64 0)), .c (.d (.int .i64 1073741824))], some (40, false)⟩, ⟨some 44, .un .not (.t 43), some (40, false)⟩, ⟨some 45, .pick (.t 40) (.c (.d (.bool true))) (.t 44), none⟩, ⟨some 46, .mv (.t 45), none⟩, ⟨some 47, .fad false 6 1 (.t 1), some (46, false)⟩, ⟨some 48, .ld false 1 (.t 47), some (46, false)⟩, ⟨some 49, .call N_ref12_in [] [.t 48, .c (.d (.int .i64 1)), .c (.d (.int .i64 1073741824))], some (46, false)⟩, ⟨some 50, .un .not (.t 49), some (46, false)⟩, ⟨some 51, .pick (.t 46) (.c (.d (.bool true))) (.t 50), none⟩, ⟨some 52, .mv (.t 51), none⟩, ⟨some 53, .fad false 7 1 (.t 1), some (52, false)⟩, ⟨some 54, .ld false 1 (.t 53), some (52, false)⟩, ⟨some 55, .call N_ref12_in [] [.t 54, .c (.d (.int .i64 0)), .c (.d (.int .i64 65536))], some (52, false)⟩, ⟨some 56, .un .not (.t 55), some (52, false)⟩, ⟨some 57, .pick (.t 52) (.c (.d (.bool true))) (.t 56), none⟩] [10, 11, 12, 13, 14, 15, 16, 17, 18, 19, 20, 21, 22, 23, 24, 25, 26, 27, 28, 29, 30, 31, 32, 33, 34, 35, 36, 37, 38, 39, 40, 41, 42, 43, 44, 45, 46, 47, 48, 49, 50, 51, 52, 53, 54, 55, 56])
 (.cond (.t 57) (.seq (.ops [] [⟨some 58, .build [.xsl [], .xsl [], .d (.int .i64 0), .d (.int .i64 0), .xsl [], .d (.int .i64 0), .xsl [], .xsl [], .d (.int .i64 0), .d (.int .i64 0), .d (.int .i64 0)] [], none⟩, ⟨none, .st 11 (.t 2) (.t 58), none⟩, ⟨some 3, .mv (.c (.d (.int .i64 1))), none⟩] [1, 57, 58])
 (.ret [2, 3])) .skip))
 (.seq (.ops [] [⟨some 60, .fad false 0 1 (.t 1), none⟩, ⟨some 61, .ld false 1 (.t 60), none⟩, ⟨some 62, .fad false 1 1 (.t 1), none⟩, ⟨some 63, .ld false 1 (.t 62), none⟩, ⟨some 64, .call N_ref10_New [] [.t 61, .t 63], none⟩, ⟨some 59, .mv (.t 64), none⟩, ⟨some 65, .ext (.t 59) 0, none⟩, ⟨some 66, .ext (.t 59) 1, none⟩, ⟨some 4, .alloc (.agg [.d (.int .i64 0), .xsl [], .xsl []]), none⟩, ⟨none, .st 3 (.t 4) (.t 65), none⟩, ⟨some 5, .mv (.t 66), none⟩] [5, 57, 59, 60, 61, 62, 63, 64, 65, 66])
 (.seq (.ops [] [⟨some 67, .ld true 3 (.t 4), none⟩, ⟨some 68, .fad false 7 1 (.t 1), none⟩, ⟨some 69, .ld false 1 (.t 68), none⟩, ⟨some 70, .fad false 5 1 (.t 1), none⟩, ⟨some 71, .ld false 1 (.t 70), none⟩, ⟨some 72, .fad false 6 1 (.t 1), none⟩, ⟨some 73, .ld false 1 (.t 72), none⟩, ⟨some 74, .build [.xsl [], .xsl [], .d (.int .i64 0), .d (.int .i64 0), .xsl [], .d (.int .i64 0), .xsl [], .xsl [], .d (.int .i64 0), .d (.int .i64 0), .d (.int .i64 0)] [(5, (3, .t 67)), (8, (1, .t 69)), (9, (1, .t 71)), (10, (1, .t 73))], none⟩, ⟨some 6, .alloc (.agg [.xsl [], .xsl [], .d (.int .i64 0), .d (.int .i64 0), .xsl [], .d (.int .i64 0), .xsl [], .xsl [], .d (.int .i64 0), .d (.int .i64 0), .d (.int .i64 0)]), none⟩, ⟨none, .st 11 (.t 6) (.t 74), none⟩] [67, 68, 69, 70, 71, 72, 73, 74])
 (.seq (.seq (.ops [] [⟨some 7, .mv (.c (.d (.int .i64 0))), none⟩] [])
 (.block 0 (.loop [] l_ref12_New_0)))
 (.seq (.ops [] [⟨some 125, .fad false 3 1 (.t 1), none⟩, ⟨some 126, .ld false 1 (.t 125), none⟩, ⟨some 127, .call N_ref08_New [] [.t 126], none⟩, ⟨some 124, .mv (.t 127), none⟩, ⟨some 128, .ext (.t 124) 0, none⟩, ⟨some 129, .ext (.t 124) 1, none⟩, ⟨some 130, .fad true 2 3 (.t 6), none⟩, ⟨some 131, .fad true 1 2 (.t 130), none⟩, ⟨none, .st 2 (.t 131) (.t 128), none⟩] [1, 4, 7, 78, 124, 125, 126, 127, 128, 129, 130, 131])
 (.seq (.ops [] [⟨some 132, .ld true 11 (.t 6), none⟩, ⟨none, .st 11 (.t 2) (.t 132), none⟩, ⟨some 3, .mv (.c (.d (.int .i64 0))), none⟩] [6, 132])
 (.ret [2, 3]))))))))
def r_ref12_New : List ARes := [.c 2 true 11, .t 3]
def fn_ref12_New : AFn := .code c_ref12_New r_ref12_New 133 true
def c_ref12_in : ACode :=
 (.seq (.ops [] [⟨some 6, .mv (.c (.d (.bool false))), none⟩] [6])
 (.seq (.ops [] [⟨some 7, .mv (.t 0), none⟩, ⟨some 8, .mv (.t 1), none⟩, ⟨some 9, .bin .geq (.t 7) (.t 8), none⟩, ⟨some 10, .mv (.t 9), none⟩, ⟨some 11, .mv (.t 0), some (10, true)⟩, ⟨some 12, .mv (.t 2), some (10, true)⟩, ⟨some 13, .bin .leq (.t 11) (.t 12), some (10, true)⟩, ⟨some 14, .pick (.t 10) (.t 13) (.c (.d (.bool false))), none⟩, ⟨some 6, .mv (.t 14), none⟩] [0, 1, 2, 7, 8, 9, 10, 11, 12, 13, 14])
 (.ret [6])))
def r_ref12_in : List ARes := [.t 6]
def fn_ref12_in : AFn := .code c_ref12_in r_ref12_in 15 true
def l_ref10_New_0 : ACode :=
 (.seq (.seq (.ops [] [⟨some 22, .mv (.t 7), none⟩, ⟨some 23, .mv (.t 1), none⟩, ⟨some 24, .bin .lss (.t 22) (.t 23), none⟩] [22, 23])
 (.cond (.t 24) .skip (.exit 0 [0, 4, 6])))
 (.seq (.block 1 (.draw [] [⟨some 27, .fad false 1 1 (.t 6), none⟩, ⟨some 28, .ld false 1 (.t 27), none⟩, ⟨some 29, .mv (.t 7), none⟩, ⟨some 30, .bin .mul (.t 29) (.c (.d (.int .i64 65536))), none⟩, ⟨some 31, .mv (.t 1), none⟩, ⟨some 32, .bin .quo (.t 30) (.t 31), none⟩, ⟨some 33, .mv (.t 7), none⟩, ⟨some 34, .bin .add (.t 33) (.c (.d (.int .i64 1))), none⟩, ⟨some 35, .bin .mul (.t 34) (.c (.d (.int .i64 65536))), none⟩, ⟨some 36, .mv (.t 1), none⟩, ⟨some 37, .bin .quo (.t 35) (.t 36), none⟩, ⟨some 38, .bin .sub (.t 37) (.c (.d (.int .i64 1))), none⟩, ⟨some 39, .mv (.t 7), none⟩, ⟨some 40, .build [.d (.int .i64 0), .d (.int .i64 0), .d (.int .i64 0)] [(0, (1, .t 32)), (1, (1, .t 38)), (2, (1, .t 39))], none⟩, ⟨some 41, .bsl 1 3 (.d (.agg [.int .i64 0, .int .i64 0, .int .i64 0])) [(0, .t 40)], none⟩, ⟨some 42, .app 3 (.t 28) (.t 41), none⟩, ⟨some 43, .fad false 1 1 (.t 6), none⟩, ⟨none, .st 1 (.t 43) (.t 42), none⟩] [[], [], [0, 1], [0, 1], [0, 1, 2, 3], [0, 1], [0, 1, 2, 3, 4, 5], [0, 1, 2, 3, 4, 5], [0, 1, 2, 3, 4, 5], [0, 1, 2, 3, 4, 5, 6, 7, 8], [0, 1, 2, 3, 4, 5], [0, 1, 2, 3, 4, 5], [0, 1, 2, 3, 4, 5, 6, 7, 8, 9, 10, 11], [0, 1], [0, 1], [], [], []] [24, 27, 28, 29, 30, 31, 32, 33, 34, 35, 36, 37, 38, 39, 40, 41, 42, 43]))
 (.ops [4000042] [⟨some 25, .mv (.t 7), none⟩, ⟨some 26, .bin .add (.t 25) (.c (.d (.int .i64 1))), none⟩, ⟨some 7, .mv (.t 26), none⟩] [25, 26])))
def l_ref10_New_1 : ACode :=
 (.seq (.seq (.ops [] [⟨some 44, .mv (.t 8), none⟩, ⟨some 45, .mv (.t 0), none⟩, ⟨some 46, .bin .lss (.t 44) (.t 45), none⟩] [44, 45])
 (.cond (.t 46) .skip (.exit 2 [4, 6])))
 (.seq (.block 3 (.ops [] [⟨some 49, .fad false 2 1 (.t 6), none⟩, ⟨some 50, .ld false 1 (.t 49), none⟩, ⟨some 51, .bsl 1 1 (.d (.int .i64 0)) [(0, .c (.d (.int .i64 (-1))))], none⟩, ⟨some 52, .app 1 (.t 50) (.t 51), none⟩, ⟨some 53, .fad false 2 1 (.t 6), none⟩, ⟨none, .st 1 (.t 53) (.t 52), none⟩] [46, 49, 50, 51, 52, 53]))
 (.ops [] [⟨some 47, .mv (.t 8), none⟩, ⟨some 48, .bin .add (.t 47) (.c (.d (.int .i64 1))), none⟩, ⟨some 8, .mv (.t 48), none⟩] [47, 48])))
def c_ref10_New : ACode :=
 (.seq (.ops [] [⟨some 4, .alloc (.agg [.d (.int .i64 0), .xsl [], .xsl []]), none⟩, ⟨some 5, .mv (.c (.d (.int .i64 0))), none⟩] [5])
 (.seq (.seq (.ops [] [⟨some 9, .mv (.t 1), none⟩, ⟨some 10, .bin .lss (.t 9) (.c (.d (.int .i64 1))), none⟩, ⟨some 11, .mv (.t 10), none⟩, ⟨some 12, .mv (.t 1), some (11, false)⟩, ⟨some 13, .mv (.t 0), some (11, false)⟩, ⟨some 14, .bin .gtr (.t 12) (.t 13), some (11, false)⟩, ⟨some 15, .pick (.t 11) (.c (.d (.bool true))) (.t 14), none⟩, ⟨some 16, .mv (.t 15), none⟩, ⟨some 17, .mv (.t 0), some (16, false)⟩, ⟨some 18, .bin .gtr (.t 17) (.c (.d (.int .i64 6))), some (16, false)⟩, ⟨some 19, .pick (.t 16) (.c (.d (.bool true))) (.t 18), none⟩] [9, 10, 11, 12, 13, 14, 15, 16, 17, 18])
 (.cond (.t 19) (.seq (.ops [] [⟨some 20, .build [.d (.int .i64 0), .xsl [], .xsl []] [], none⟩, ⟨none, .st 3 (.t 4) (.t 20), none⟩, ⟨some 5, .mv (.c (.d (.int .i64 1))), none⟩] [0, 1, 19, 20])
 (.ret [4, 5])) .skip))
 (.seq (.ops [] [⟨some 21, .build [.d (.int .i64 0), .xsl [], .xsl []] [(0, (1, .c (.d (.int .i64 1))))], none⟩, ⟨some 6, .alloc (.agg [.d (.int .i64 0), .xsl [], .xsl []]), none⟩, ⟨none, .st 3 (.t 6) (.t 21), none⟩] [19, 21])
 (.seq (.seq (.ops [] [⟨some 7, .mv (.c (.d (.int .i64 0))), none⟩] [])
 (.block 0 (.loop [] l_ref10_New_0)))
 (.seq (.seq (.ops [] [⟨some 8, .mv (.c (.d (.int .i64 0))), none⟩] [1, 7, 24])
 (.block 2 (.loop [] l_ref10_New_1)))
 (.seq (.ops [] [⟨some 54, .ld true 3 (.t 6), none⟩, ⟨none, .st 3 (.t 4) (.t 54), none⟩, ⟨some 5, .mv (.c (.d (.int .i64 0))), none⟩] [0, 6, 8, 46, 54])
 (.ret [4, 5])))))))
def r_ref10_New : List ARes := [.c 4 true 3, .t 5]
def fn_ref10_New : AFn := .code c_ref10_New r_ref10_New 55 true
def c_ref07_Free : ACode :=
 (.seq (.ops [] [⟨some 2, .alloc (.agg [.d (.bool false), .d (.int .i64 0), .d (.int .i64 0), .xsl [], .d (.int .i64 0), .d (.int .i64 0), .xsl [], .xsl []]), none⟩, ⟨some 3, .mv (.c (.d (.int .i64 0))), none⟩] [3])
 (.seq (.ops [] [⟨some 7, .mv (.t 0), none⟩, ⟨some 8, .call N_ref04_New [] [.t 7], none⟩, ⟨some 6, .mv (.t 8), none⟩, ⟨some 9, .ext (.t 6) 0, none⟩, ⟨some 10, .ext (.t 6) 1, none⟩, ⟨some 4, .alloc (.agg [.xsl [], .d (.int .i64 0), .d (.int .i64 0)]), none⟩, ⟨none, .st 3 (.t 4) (.t 9), none⟩, ⟨some 5, .mv (.t 10), none⟩] [0, 6, 7, 8, 9, 10])
 (.seq (.seq (.ops [] [⟨some 11, .mv (.t 5), none⟩, ⟨some 12, .bin .neq (.t 11) (.c (.d (.int .i64 0))), none⟩] [11])
 (.cond (.t 12) (.seq (.ops [] [⟨some 13, .build [.d (.bool false), .d (.int .i64 0), .d (.int .i64 0), .xsl [], .d (.int .i64 0), .d (.int .i64 0), .xsl [], .xsl []] [], none⟩, ⟨some 14, .mv (.t 5), none⟩, ⟨none, .st 8 (.t 2) (.t 13), none⟩, ⟨some 3, .mv (.t 14), none⟩] [4, 5, 12, 13, 14])
 (.ret [2, 3])) .skip))
 (.seq (.ops [] [⟨some 15, .ld true 3 (.t 4), none⟩, ⟨some 16, .build [.d (.bool false), .d (.int .i64 0), .d (.int .i64 0), .xsl [], .d (.int .i64 0), .d (.int .i64 0), .xsl [], .xsl []] [(3, (3, .t 15))], none⟩, ⟨none, .st 8 (.t 2) (.t 16), none⟩, ⟨some 3, .mv (.c (.d (.int .i64 0))), none⟩] [4, 5, 12, 15, 16])
 (.ret [2, 3])))))
def r_ref07_Free : List ARes := [.c 2 true 8, .t 3]
def fn_ref07_Free : AFn := .code c_ref07_Free r_ref07_Free 17 true
def c_ref04_New : ACode :=
 (.seq (.ops [] [⟨some 2, .alloc (.agg [.xsl [], .d (.int .i64 0), .d (.int .i64 0)]), none⟩, ⟨some 3, .mv (.c (.d (.int .i64 0))), none⟩] [3])
 (.seq (.seq (.ops [] [⟨some 4, .mv (.t 0), none⟩, ⟨some 5, .bin .lss (.t 4) (.c (.d (.int .i64 1))), none⟩, ⟨some 6, .mv (.t 5), none⟩, ⟨some 7, .mv (.t 0), some (6, false)⟩, ⟨some 8, .bin .gtr (.t 7) (.c (.d (.int .i64 12))), some (6, false)⟩, ⟨some 9, .pick (.t 6) (.c (.d (.bool true))) (.t 8), none⟩] [4, 5, 6, 7, 8])
 (.cond (.t 9) (.seq (.ops [] [⟨some 10, .build [.xsl [], .d (.int .i64 0), .d (.int .i64 0)] [], none⟩, ⟨none, .st 3 (.t 2) (.t 10), none⟩, ⟨some 3, .mv (.c (.d (.int .i64 1))), none⟩] [0, 9, 10])
 (.ret [2, 3])) .skip))
 (.seq (.ops [] [⟨some 11, .mv (.t 0), none⟩, ⟨some 12, .mks 7 (.d (.agg [.int .i64 0, .int .i64 0, .int .i64 0, .int .i64 0, .int .i64 0, .int .i64 0, .str []])) (.t 11) (.t 11), none⟩, ⟨some 13, .build [.xsl [], .d (.int .i64 0), .d (.int .i64 0)] [(0, (1, .t 12))], none⟩, ⟨none, .st 3 (.t 2) (.t 13), none⟩, ⟨some 3, .mv (.c (.d (.int .i64 0))), none⟩] [0, 9, 11, 12, 13])
 (.ret [2, 3]))))
def r_ref04_New : List ARes := [.c 2 true 3, .t 3]
def fn_ref04_New : AFn := .code c_ref04_New r_ref04_New 14 true
def c_ref07_New : ACode :=
 (.seq (.ops [] [⟨some 6, .alloc (.agg [.d (.bool false), .d (.int .i64 0), .d (.int .i64 0), .xsl [], .d (.int .i64 0), .d (.int .i64 0), .xsl [], .xsl []]), none⟩, ⟨some 7, .mv (.c (.d (.int .i64 0))), none⟩] [7])
 (.seq (.ops [] [⟨some 11, .mv (.t 0), none⟩, ⟨some 12, .call N_ref04_New [] [.t 11], none⟩, ⟨some 10, .mv (.t 12), none⟩, ⟨some 13, .ext (.t 10) 0, none⟩, ⟨some 14, .ext (.t 10) 1, none⟩, ⟨some 8, .alloc (.agg [.xsl [], .d (.int .i64 0), .d (.int .i64 0)]), none⟩, ⟨none, .st 3 (.t 8) (.t 13), none⟩, ⟨some 9, .mv (.t 14), none⟩] [0, 10, 11, 12, 13, 14])
 (.seq (.seq (.ops [] [⟨some 15, .mv (.t 9), none⟩, ⟨some 16, .bin .neq (.t 15) (.c (.d (.int .i64 0))), none⟩] [15])
 (.cond (.t 16) (.seq (.ops [] [⟨some 17, .build [.d (.bool false), .d (.int .i64 0), .d (.int .i64 0), .xsl [], .d (.int .i64 0), .d (.int .i64 0), .xsl [], .xsl []] [], none⟩, ⟨some 18, .mv (.t 9), none⟩, ⟨none, .st 8 (.t 6) (.t 17), none⟩, ⟨some 7, .mv (.t 18), none⟩] [1, 2, 8, 9, 16, 17, 18])
 (.ret [6, 7])) .skip))
 (.seq (.seq (.ops [] [⟨some 19, .mv (.t 1), none⟩, ⟨some 20, .mv (.t 2), none⟩, ⟨some 21, .call N_ref07_span [] [.t 19, .t 20], none⟩, ⟨some 22, .un .not (.t 21), none⟩] [9, 16, 19, 20, 21])
 (.cond (.t 22) (.seq (.ops [] [⟨some 23, .build [.d (.bool false), .d (.int .i64 0), .d (.int .i64 0), .xsl [], .d (.int .i64 0), .d (.int .i64 0), .xsl [], .xsl []] [], none⟩, ⟨none, .st 8 (.t 6) (.t 23), none⟩, ⟨some 7, .mv (.c (.d (.int .i64 1))), none⟩] [1, 2, 8, 22, 23])
 (.ret [6, 7])) .skip))
 (.seq (.ops [] [⟨some 24, .mv (.t 1), none⟩, ⟨some 25, .mv (.t 2), none⟩, ⟨some 26, .ld true 3 (.t 8), none⟩, ⟨some 27, .build [.d (.bool false), .d (.int .i64 0), .d (.int .i64 0), .xsl [], .d (.int .i64 0), .d (.int .i64 0), .xsl [], .xsl []] [(0, (1, .c (.d (.bool true)))), (1, (1, .t 24)), (2, (1, .t 25)), (3, (3, .t 26))], none⟩, ⟨none, .st 8 (.t 6) (.t 27), none⟩, ⟨some 7, .mv (.c (.d (.int .i64 0))), none⟩] [1, 2, 8, 22, 24, 25, 26, 27])
 (.ret [6, 7]))))))
def r_ref07_New : List ARes := [.c 6 true 8, .t 7]
def fn_ref07_New : AFn := .code c_ref07_New r_ref07_New 28 true
def c_ref07_span : ACode :=
 (.seq (.ops [] [⟨some 4, .mv (.c (.d (.bool false))), none⟩] [4])
 (.seq (.ops [] [⟨some 5, .mv (.t 0), none⟩, ⟨some 6, .bin .geq (.t 5) (.c (.d (.int .i64 0))), none⟩, ⟨some 7, .mv (.t 6), none⟩, ⟨some 8, .mv (.t 0), some (7, true)⟩, ⟨some 9, .mv (.t 1), some (7, true)⟩, ⟨some 10, .bin .leq (.t 8) (.t 9), some (7, true)⟩, ⟨some 11, .pick (.t 7) (.t 10) (.c (.d (.bool false))), none⟩, ⟨some 12, .mv (.t 11), none⟩, ⟨some 13, .mv (.t 1), some (12, true)⟩, ⟨some 14, .bin .lss (.t 13) (.c (.d (.int .i64 65536))), some (12, true)⟩, ⟨some 15, .pick (.t 12) (.t 14) (.c (.d (.bool false))), none⟩, ⟨some 4, .mv (.t 15), none⟩] [0, 1, 5, 6, 7, 8, 9, 10, 11, 12, 13, 14, 15])
 (.ret [4])))
def r_ref07_span : List ARes := [.t 4]
def fn_ref07_span : AFn := .code c_ref07_span r_ref07_span 16 true
def c_ref08_New : ACode :=
 (.seq (.ops [] [⟨some 2, .alloc (.agg [.d (.int .i64 0), .xsl []]), none⟩, ⟨some 3, .mv (.c (.d (.int .i64 0))), none⟩] [3])
 (.seq (.seq (.ops [] [⟨some 4, .mv (.t 0), none⟩, ⟨some 5, .bin .lss (.t 4) (.c (.d (.int .i64 1))), none⟩, ⟨some 6, .mv (.t 5), none⟩, ⟨some 7, .mv (.t 0), some (6, false)⟩, ⟨some 8, .bin .gtr (.t 7) (.c (.d (.int .i64 24))), some (6, false)⟩, ⟨some 9, .pick (.t 6) (.c (.d (.bool true))) (.t 8), none⟩] [4, 5, 6, 7, 8])
 (.cond (.t 9) (.seq (.ops [] [⟨some 10, .build [.d (.int .i64 0), .xsl []] [], none⟩, ⟨none, .st 2 (.t 2) (.t 10), none⟩, ⟨some 3, .mv (.c (.d (.int .i64 1))), none⟩] [0, 9, 10])
 (.ret [2, 3])) .skip))
 (.seq (.ops [] [⟨some 11, .mv (.t 0), none⟩, ⟨some 12, .build [.d (.int .i64 0), .xsl []] [(0, (1, .t 11))], none⟩, ⟨none, .st 2 (.t 2) (.t 12), none⟩, ⟨some 3, .mv (.c (.d (.int .i64 0))), none⟩] [0, 9, 11, 12])
 (.ret [2, 3]))))
def r_ref08_New : List ARes := [.c 2 true 2, .t 3]
def fn_ref08_New : AFn := .code c_ref08_New r_ref08_New 13 true
def l_ref12_Same_0 : ACode :=
 (.seq (.seq (.ops [] [⟨some 69, .mv (.t 5), none⟩, ⟨some 70, .fad false 0 1 (.t 2), none⟩, ⟨some 71, .ld false 1 (.t 70), none⟩, ⟨some 72, .len (.t 71), none⟩, ⟨some 73, .bin .lss (.t 69) (.t 72), none⟩] [69, 70, 71, 72])
 (.cond (.t 73) .skip (.exit 0 [])))
 (.seq (.block 1 (.seq (.draw [] [⟨some 76, .fad false 0 1 (.t 2), none⟩, ⟨some 77, .ld false 1 (.t 76), none⟩, ⟨some 78, .mv (.t 5), none⟩, ⟨some 79, .iad 9 (.t 77) (.t 78), none⟩, ⟨some 80, .fad false 0 1 (.t 79), none⟩, ⟨some 81, .ld false 1 (.t 80), none⟩, ⟨some 82, .fad false 0 1 (.t 3), none⟩, ⟨some 83, .ld false 1 (.t 82), none⟩, ⟨some 84, .mv (.t 5), none⟩, ⟨some 85, .iad 9 (.t 83) (.t 84), none⟩, ⟨some 86, .fad false 0 1 (.t 85), none⟩, ⟨some 87, .ld false 1 (.t 86), none⟩, ⟨some 88, .bin .neq (.t 81) (.t 87), none⟩, ⟨some 89, .mv (.t 88), none⟩, ⟨some 90, .fad false 0 1 (.t 2), some (89, false)⟩, ⟨some 91, .ld false 1 (.t 90), some (89, false)⟩, ⟨some 92, .mv (.t 5), some (89, false)⟩, ⟨some 93, .iad 9 (.t 91) (.t 92), some (89, false)⟩, ⟨some 94, .fad true 1 8 (.t 93), some (89, false)⟩, ⟨some 95, .ld true 8 (.t 94), some (89, false)⟩, ⟨some 96, .fad false 0 1 (.t 3), some (89, false)⟩, ⟨some 97, .ld false 1 (.t 96), some (89, false)⟩, ⟨some 98, .mv (.t 5), some (89, false)⟩, ⟨some 99, .iad 9 (.t 97) (.t 98), some (89, false)⟩, ⟨some 100, .fad true 1 8 (.t 99), some (89, false)⟩, ⟨some 101, .ld true 8 (.t 100), some (89, false)⟩, ⟨some 102, .call N_ref07_Same [] [.t 95, .t 101], some (89, false)⟩, ⟨some 103, .un .not (.t 102), some (89, false)⟩, ⟨some 104, .pick (.t 89) (.c (.d (.bool true))) (.t 103), none⟩] [[], [], [0, 1], [], [], [], [0, 1, 2, 3, 4, 5], [0, 1, 2, 3, 4, 5], [0, 1, 2, 3, 4, 5, 6, 7], [0, 1, 2, 3, 4, 5], [0, 1, 2, 3, 4, 5], [0, 1, 2, 3, 4, 5], [], [], [], [], [14, 15], [], [], [], [14, 15, 16, 17, 18, 19], [14, 15, 16, 17, 18, 19], [14, 15, 16, 17, 18, 19, 20, 21], [14, 15, 16, 17, 18, 19], [14, 15, 16, 17, 18, 19], [14, 15, 16, 17, 18, 19], [], [], []] [73, 76, 77, 78, 79, 80, 81, 82, 83, 84, 85, 86, 87, 88, 89, 90, 91, 92, 93, 94, 95, 96, 97, 98, 99, 100, 101, 102, 103])
 (.cond (.t 104) (.seq (.ops [] [⟨some 4, .mv (.c (.d (.bool false))), none⟩] [2, 3, 5, 104])
 (.ret [4])) .skip)))
 (.ops [] [⟨some 74, .mv (.t 5), none⟩, ⟨some 75, .bin .add (.t 74) (.c (.d (.int .i64 1))), none⟩, ⟨some 5, .mv (.t 75), none⟩] [74, 75, 104])))
def c_ref12_Same : ACode :=
 (.seq (.ops [] [⟨some 2, .box (.t 0), none⟩, ⟨some 3, .box (.t 1), none⟩, ⟨some 4, .mv (.c (.d (.bool false))), none⟩] [0, 1, 4])
 (.seq (.seq (.ops [] [⟨some 6, .fad false 0 1 (.t 2), none⟩, ⟨some 7, .ld false 1 (.t 6), none⟩, ⟨some 8, .len (.t 7), none⟩, ⟨some 9, .fad false 0 1 (.t 3), none⟩, ⟨some 10, .ld false 1 (.t 9), none⟩, ⟨some 11, .len (.t 10), none⟩, ⟨some 12, .bin .neq (.t 8) (.t 11), none⟩, ⟨some 13, .mv (.t 12), none⟩, ⟨some 14, .fad false 1 1 (.t 2), some (13, false)⟩, ⟨some 15, .ld false 1 (.t 14), some (13, false)⟩, ⟨some 16, .fad false 1 1 (.t 3), some (13, false)⟩, ⟨some 17, .ld false 1 (.t 16), some (13, false)⟩, ⟨some 18, .call N_ref11_Same [] [.t 15, .t 17], some (13, false)⟩, ⟨some 19, .un .not (.t 18), some (13, false)⟩, ⟨some 20, .pick (.t 13) (.c (.d (.bool true))) (.t 19), none⟩, ⟨some 21, .mv (.t 20), none⟩, ⟨some 22, .fad true 2 3 (.t 2), some (21, false)⟩, ⟨some 23, .fad false 0 1 (.t 22), some (21, false)⟩, ⟨some 24, .ld false 1 (.t 23), some (21, false)⟩, ⟨some 25, .fad true 2 3 (.t 3), some (21, false)⟩, ⟨some 26, .fad false 0 1 (.t 25), some (21, false)⟩, ⟨some 27, .ld false 1 (.t 26), some (21, false)⟩, ⟨some 28, .bin .neq (.t 24) (.t 27), some (21, false)⟩, ⟨some 29, .pick (.t 21) (.c (.d (.bool true))) (.t 28), none⟩, ⟨some 30, .mv (.t 29), none⟩, ⟨some 31, .fad true 2 3 (.t 2), some (30, false)⟩, ⟨some 32, .fad true 1 2 (.t 31), some (30, false)⟩, ⟨some 33, .ld true 2 (.t 32), some (30, false)⟩, ⟨some 34, .fad true 2 3 (.t 3), some (30, false)⟩, ⟨some 35, .fad true 1 2 (.t 34), some (30, false)⟩, ⟨some 36, .ld true 2 (.t 35), some (30, false)⟩, ⟨some 37, .call N_ref08_Same [] [.t 33, .t 36], some (30, false)⟩, ⟨some 38, .un .not (.t 37), some (30, false)⟩, ⟨some 39, .pick (.t 30) (.c (.d (.bool true))) (.t 38), none⟩, ⟨some 40, .mv (.t 39), none⟩, ⟨some 41, .fad true 5 3 (.t 2), some (40, false)⟩, ⟨some 42, .ld true 3 (.t 41), some (40, false)⟩, ⟨some 43, .fad true 5 3 (.t 3), some (40, false)⟩, ⟨some 44, .ld true 3 (.t 43), some (40, false)⟩, ⟨some 45, .call N_ref10_Same [] [.t 42, .t 44], some (40, false)⟩, ⟨some 46, .un .not (.t 45), some (40, false)⟩, ⟨some 47, .pick (.t 40) (.c (.d (.bool true))) (.t 46), none⟩, ⟨some 48, .mv (.t 47), none⟩, ⟨some 49, .fad false 8 1 (.t 2), some (48, false)⟩, ⟨some 50, .ld false 1 (.t 49), some (48, false)⟩, ⟨some 51, .fad false 8 1 (.t 3), some (48, false)⟩, ⟨some 52, .ld false 1 (.t 51), some (48, false)⟩, ⟨some 53, .bin .neq (.t 50) (.t 52), some (48, false)⟩, ⟨some 54, .pick (.t 48) (.c (.d (.bool true))) (.t 53), none⟩, ⟨some 55, .mv (.t 54), none⟩, ⟨some 56, .fad false 9 1 (.t 2), some (55, false)⟩, ⟨some 57, .ld false 1 (.t 56), some (55, false)⟩, ⟨some 58, .fad false 9 1 (.t 3), some (55, false)⟩, ⟨some 59, .ld false 1 (.t 58), some (55, false)⟩, ⟨some 60, .bin .neq (.t 57) (.t 59), some (55, false)⟩, ⟨some 61, .pick (.t 55) (.c (.d (.bool true))) (.t 60), none⟩, ⟨some 62, .mv (.t 61), none⟩, ⟨some 63, .fad false 10 1 (.t 2), some (62, false)⟩, ⟨some 64, .ld false 1 (.t 63), some (62, false)⟩, ⟨some 65, .fad false 10 1 (.t 3), some (62, false)⟩, ⟨some 66, .ld false 1 (.t 65), some (62, false)⟩, ⟨some 67, .bin .neq (.t 64) (.t 66), some (62, false)⟩, ⟨some 68, .pick (.t 62) (.c (.d (.bool true))) (.t 67), none⟩] [6, 7, 8, 9, 10, 11, 12, 13, 14, 15, 16, 17, 18, 19, 20, 21, 22, 23, 24, 25, 26, 27, 28, 29, 30, 31, 32, 33, 34, 35, 36, 37, 38, 39, 40, 41, 42, 43, 44, 45, 46, 47, 48, 49, 50, 51, 52, 53, 54, 55, 56, 57, 58, 59, 60, 61, 62, 63, 64, 65, 66, 67])
 (.cond (.t 68) (.seq (.ops [] [⟨some 4, .mv (.c (.d (.bool false))), none⟩] [2, 3, 68])
 (.ret [4])) .skip))
 (.seq (.seq (.ops [] [⟨some 5, .mv (.c (.d (.int .i64 0))), none⟩] [68])
 (.block 0 (.loop [] l_ref12_Same_0)))
 (.seq (.ops [] [⟨some 4, .mv (.c (.d (.bool true))), none⟩] [2, 3, 5, 73])
 (.ret [4])))))
def r_ref12_Same : List ARes := [.t 4]
def fn_ref12_Same : AFn := .code c_ref12_Same r_ref12_Same 105 true
def l_ref11_Same_0 : ACode :=
 (.seq (.seq (.ops [] [⟨some 11, .mv (.t 5), none⟩, ⟨some 12, .mv (.t 0), none⟩, ⟨some 13, .len (.t 12), none⟩, ⟨some 14, .bin .lss (.t 11) (.t 13), none⟩] [11, 12, 13])
 (.cond (.t 14) .skip (.exit 0 [])))
 (.seq (.block 1 (.seq (.draw [] [⟨some 17, .mv (.t 0), none⟩, ⟨some 18, .mv (.t 5), none⟩, ⟨some 19, .iad 4 (.t 17) (.t 18), none⟩, ⟨some 20, .ld true 4 (.t 19), none⟩, ⟨some 21, .mv (.t 1), none⟩, ⟨some 22, .mv (.t 5), none⟩, ⟨some 23, .iad 4 (.t 21) (.t 22), none⟩, ⟨some 24, .ld true 4 (.t 23), none⟩, ⟨some 25, .eqs true 4 [(0, 0), (1, 0), (2, 0), (3, 0)] (.t 20) (.t 24), none⟩] [[], [0], [], [], [0, 1, 2, 3], [0, 1, 2, 3, 4], [0, 1, 2, 3], [0, 1, 2, 3], []] [14, 17, 18, 19, 20, 21, 22, 23, 24])
 (.cond (.t 25) (.seq (.ops [] [⟨some 4, .mv (.c (.d (.bool false))), none⟩] [0, 1, 5, 25])
 (.ret [4])) .skip)))
 (.ops [] [⟨some 15, .mv (.t 5), none⟩, ⟨some 16, .bin .add (.t 15) (.c (.d (.int .i64 1))), none⟩, ⟨some 5, .mv (.t 16), none⟩] [15, 16, 25])))
def c_ref11_Same : ACode :=
 (.seq (.ops [] [⟨some 4, .mv (.c (.d (.bool false))), none⟩] [4])
 (.seq (.seq (.ops [] [⟨some 6, .mv (.t 0), none⟩, ⟨some 7, .len (.t 6), none⟩, ⟨some 8, .mv (.t 1), none⟩, ⟨some 9, .len (.t 8), none⟩, ⟨some 10, .bin .neq (.t 7) (.t 9), none⟩] [6, 7, 8, 9])
 (.cond (.t 10) (.seq (.ops [] [⟨some 4, .mv (.c (.d (.bool false))), none⟩] [0, 1, 10])
 (.ret [4])) .skip))
 (.seq (.seq (.ops [] [⟨some 5, .mv (.c (.d (.int .i64 0))), none⟩] [10])
 (.block 0 (.loop [] l_ref11_Same_0)))
 (.seq (.ops [] [⟨some 4, .mv (.c (.d (.bool true))), none⟩] [0, 1, 5, 14])
 (.ret [4])))))
def r_ref11_Same : List ARes := [.t 4]
def fn_ref11_Same : AFn := .code c_ref11_Same r_ref11_Same 26 true
def c_ref08_Same : ACode :=
 (.seq (.ops [] [⟨some 2, .box (.t 0), none⟩, ⟨some 3, .box (.t 1), none⟩, ⟨some 4, .mv (.c (.d (.bool false))), none⟩] [0, 1, 4])
 (.seq (.ops [] [⟨some 5, .fad false 0 1 (.t 2), none⟩, ⟨some 6, .ld false 1 (.t 5), none⟩, ⟨some 7, .fad false 0 1 (.t 3), none⟩, ⟨some 8, .ld false 1 (.t 7), none⟩, ⟨some 9, .bin .eql (.t 6) (.t 8), none⟩, ⟨some 10, .mv (.t 9), none⟩, ⟨some 11, .fad false 1 1 (.t 2), some (10, true)⟩, ⟨some 12, .ld false 1 (.t 11), some (10, true)⟩, ⟨some 13, .fad false 1 1 (.t 3), some (10, true)⟩, ⟨some 14, .ld false 1 (.t 13), some (10, true)⟩, ⟨some 15, .call N_ref03_Same [] [.t 12, .t 14], some (10, true)⟩, ⟨some 16, .pick (.t 10) (.t 15) (.c (.d (.bool false))), none⟩, ⟨some 4, .mv (.t 16), none⟩] [2, 3, 5, 6, 7, 8, 9, 10, 11, 12, 13, 14, 15, 16])
 (.ret [4])))
def r_ref08_Same : List ARes := [.t 4]
def fn_ref08_Same : AFn := .code c_ref08_Same r_ref08_Same 17 true
def l_ref03_Same_0 : ACode :=
 (.seq (.seq (.ops [] [⟨some 11, .mv (.t 5), none⟩, ⟨some 12, .mv (.t 0), none⟩, ⟨some 13, .len (.t 12), none⟩, ⟨some 14, .bin .lss (.t 11) (.t 13), none⟩] [11, 12, 13])
 (.cond (.t 14) .skip (.exit 0 [])))
 (.seq (.block 1 (.seq (.draw [] [⟨some 17, .mv (.t 0), none⟩, ⟨some 18, .mv (.t 5), none⟩, ⟨some 19, .iad 7 (.t 17) (.t 18), none⟩, ⟨some 20, .ld true 7 (.t 19), none⟩, ⟨some 21, .mv (.t 1), none⟩, ⟨some 22, .mv (.t 5), none⟩, ⟨some 23, .iad 7 (.t 21) (.t 22), none⟩, ⟨some 24, .ld true 7 (.t 23), none⟩, ⟨some 25, .eqs true 7 [(0, 0), (1, 0), (2, 0), (3, 0), (4, 0), (5, 0), (6, 2)] (.t 20) (.t 24), none⟩] [[], [0], [], [], [0, 1, 2, 3], [0, 1, 2, 3, 4], [0, 1, 2, 3], [0, 1, 2, 3], []] [14, 17, 18, 19, 20, 21, 22, 23, 24])
 (.cond (.t 25) (.seq (.ops [] [⟨some 4, .mv (.c (.d (.bool false))), none⟩] [0, 1, 5, 25])
 (.ret [4])) .skip)))
 (.ops [] [⟨some 15, .mv (.t 5), none⟩, ⟨some 16, .bin .add (.t 15) (.c (.d (.int .i64 1))), none⟩, ⟨some 5, .mv (.t 16), none⟩] [15, 16, 25])))
def c_ref03_Same : ACode :=
 (.seq (.ops [] [⟨some 4, .mv (.c (.d (.bool false))), none⟩] [4])
 (.seq (.seq (.ops [] [⟨some 6, .mv (.t 0), none⟩, ⟨some 7, .len (.t 6), none⟩, ⟨some 8, .mv (.t 1), none⟩, ⟨some 9, .len (.t 8), none⟩, ⟨some 10, .bin .neq (.t 7) (.t 9), none⟩] [6, 7, 8, 9])
 (.cond (.t 10) (.seq (.ops [] [⟨some 4, .mv (.c (.d (.bool false))), none⟩] [0, 1, 10])
 (.ret [4])) .skip))
 (.seq (.seq (.ops [] [⟨some 5, .mv (.c (.d (.int .i64 0))), none⟩] [10])
 (.block 0 (.loop [] l_ref03_Same_0)))
 (.seq (.ops [] [⟨some 4, .mv (.c (.d (.bool true))), none⟩] [0, 1, 5, 14])
 (.ret [4])))))
def r_ref03_Same : List ARes := [.t 4]
def fn_ref03_Same : AFn := .code c_ref03_Same r_ref03_Same 26 true
def l_ref10_Same_0 : ACode :=
 (.seq (.seq (.ops [] [⟨some 30, .mv (.t 5), none⟩, ⟨some 31, .fad false 1 1 (.t 2), none⟩, ⟨some 32, .ld false 1 (.t 31), none⟩, ⟨some 33, .len (.t 32), none⟩, ⟨some 34, .bin .lss (.t 30) (.t 33), none⟩] [30, 31, 32, 33])
 (.cond (.t 34) .skip (.exit 0 [2, 3])))
 (.seq (.block 1 (.seq (.draw [] [⟨some 37, .fad false 1 1 (.t 2), none⟩, ⟨some 38, .ld false 1 (.t 37), none⟩, ⟨some 39, .mv (.t 5), none⟩, ⟨some 40, .iad 3 (.t 38) (.t 39), none⟩, ⟨some 41, .ld true 3 (.t 40), none⟩, ⟨some 42, .fad false 1 1 (.t 3), none⟩, ⟨some 43, .ld false 1 (.t 42), none⟩, ⟨some 44, .mv (.t 5), none⟩, ⟨some 45, .iad 3 (.t 43) (.t 44), none⟩, ⟨some 46, .ld true 3 (.t 45), none⟩, ⟨some 47, .eqs true 3 [(0, 0), (1, 0), (2, 0)] (.t 41) (.t 46), none⟩] [[], [], [0, 1], [], [], [0, 1, 2, 3, 4], [0, 1, 2, 3, 4], [0, 1, 2, 3, 4, 5, 6], [0, 1, 2, 3, 4], [0, 1, 2, 3, 4], []] [34, 37, 38, 39, 40, 41, 42, 43, 44, 45, 46])
 (.cond (.t 47) (.seq (.ops [] [⟨some 4, .mv (.c (.d (.bool false))), none⟩] [2, 3, 5, 47])
 (.ret [4])) .skip)))
 (.ops [] [⟨some 35, .mv (.t 5), none⟩, ⟨some 36, .bin .add (.t 35) (.c (.d (.int .i64 1))), none⟩, ⟨some 5, .mv (.t 36), none⟩] [35, 36, 47])))
def l_ref10_Same_1 : ACode :=
 (.seq (.seq (.ops [] [⟨some 48, .mv (.t 6), none⟩, ⟨some 49, .fad false 2 1 (.t 2), none⟩, ⟨some 50, .ld false 1 (.t 49), none⟩, ⟨some 51, .len (.t 50), none⟩, ⟨some 52, .bin .lss (.t 48) (.t 51), none⟩] [48, 49, 50, 51])
 (.cond (.t 52) .skip (.exit 2 [])))
 (.seq (.block 3 (.seq (.draw [] [⟨some 55, .fad false 2 1 (.t 2), none⟩, ⟨some 56, .ld false 1 (.t 55), none⟩, ⟨some 57, .mv (.t 6), none⟩, ⟨some 58, .iad 1 (.t 56) (.t 57), none⟩, ⟨some 59, .ld false 1 (.t 58), none⟩, ⟨some 60, .fad false 2 1 (.t 3), none⟩, ⟨some 61, .ld false 1 (.t 60), none⟩, ⟨some 62, .mv (.t 6), none⟩, ⟨some 63, .iad 1 (.t 61) (.t 62), none⟩, ⟨some 64, .ld false 1 (.t 63), none⟩, ⟨some 65, .bin .neq (.t 59) (.t 64), none⟩] [[], [], [0, 1], [], [], [0, 1, 2, 3, 4], [0, 1, 2, 3, 4], [0, 1, 2, 3, 4, 5, 6], [0, 1, 2, 3, 4], [0, 1, 2, 3, 4], []] [52, 55, 56, 57, 58, 59, 60, 61, 62, 63, 64])
 (.cond (.t 65) (.seq (.ops [] [⟨some 4, .mv (.c (.d (.bool false))), none⟩] [2, 3, 6, 65])
 (.ret [4])) .skip)))
 (.ops [] [⟨some 53, .mv (.t 6), none⟩, ⟨some 54, .bin .add (.t 53) (.c (.d (.int .i64 1))), none⟩, ⟨some 6, .mv (.t 54), none⟩] [53, 54, 65])))
def c_ref10_Same : ACode :=
 (.seq (.ops [] [⟨some 2, .box (.t 0), none⟩, ⟨some 3, .box (.t 1), none⟩, ⟨some 4, .mv (.c (.d (.bool false))), none⟩] [0, 1, 4])
 (.seq (.seq (.ops [] [⟨some 7, .fad false 0 1 (.t 2), none⟩, ⟨some 8, .ld false 1 (.t 7), none⟩, ⟨some 9, .fad false 0 1 (.t 3), none⟩, ⟨some 10, .ld false 1 (.t 9), none⟩, ⟨some 11, .bin .neq (.t 8) (.t 10), none⟩, ⟨some 12, .mv (.t 11), none⟩, ⟨some 13, .fad false 1 1 (.t 2), some (12, false)⟩, ⟨some 14, .ld false 1 (.t 13), some (12, false)⟩, ⟨some 15, .len (.t 14), some (12, false)⟩, ⟨some 16, .fad false 1 1 (.t 3), some (12, false)⟩, ⟨some 17, .ld false 1 (.t 16), some (12, false)⟩, ⟨some 18, .len (.t 17), some (12, false)⟩, ⟨some 19, .bin .neq (.t 15) (.t 18), some (12, false)⟩, ⟨some 20, .pick (.t 12) (.c (.d (.bool true))) (.t 19), none⟩, ⟨some 21, .mv (.t 20), none⟩, ⟨some 22, .fad false 2 1 (.t 2), some (21, false)⟩, ⟨some 23, .ld false 1 (.t 22), some (21, false)⟩, ⟨some 24, .len (.t 23), some (21, false)⟩, ⟨some 25, .fad false 2 1 (.t 3), some (21, false)⟩, ⟨some 26, .ld false 1 (.t 25), some (21, false)⟩, ⟨some 27, .len (.t 26), some (21, false)⟩, ⟨some 28, .bin .neq (.t 24) (.t 27), some (21, false)⟩, ⟨some 29, .pick (.t 21) (.c (.d (.bool true))) (.t 28), none⟩] [7, 8, 9, 10, 11, 12, 13, 14, 15, 16, 17, 18, 19, 20, 21, 22, 23, 24, 25, 26, 27, 28])
 (.cond (.t 29) (.seq (.ops [] [⟨some 4, .mv (.c (.d (.bool false))), none⟩] [2, 3, 29])
 (.ret [4])) .skip))
 (.seq (.seq (.ops [] [⟨some 5, .mv (.c (.d (.int .i64 0))), none⟩] [29])
 (.block 0 (.loop [] l_ref10_Same_0)))
 (.seq (.seq (.ops [] [⟨some 6, .mv (.c (.d (.int .i64 0))), none⟩] [5, 34])
 (.block 2 (.loop [] l_ref10_Same_1)))
 (.seq (.ops [] [⟨some 4, .mv (.c (.d (.bool true))), none⟩] [2, 3, 6, 52])
 (.ret [4]))))))
def r_ref10_Same : List ARes := [.t 4]
def fn_ref10_Same : AFn := .code c_ref10_Same r_ref10_Same 66 true
def c_ref07_Same : ACode :=
 (.seq (.ops [] [⟨some 2, .box (.t 0), none⟩, ⟨some 3, .box (.t 1), none⟩, ⟨some 4, .mv (.c (.d (.bool false))), none⟩] [0, 1, 4])
 (.seq (.ops [] [⟨some 5, .fad false 0 1 (.t 2), none⟩, ⟨some 6, .ld false 1 (.t 5), none⟩, ⟨some 7, .fad false 0 1 (.t 3), none⟩, ⟨some 8, .ld false 1 (.t 7), none⟩, ⟨some 9, .eqb false (.t 6) (.t 8), none⟩, ⟨some 10, .mv (.t 9), none⟩, ⟨some 11, .fad false 1 1 (.t 2), some (10, true)⟩, ⟨some 12, .ld false 1 (.t 11), some (10, true)⟩, ⟨some 13, .fad false 1 1 (.t 3), some (10, true)⟩, ⟨some 14, .ld false 1 (.t 13), some (10, true)⟩, ⟨some 15, .bin .eql (.t 12) (.t 14), some (10, true)⟩, ⟨some 16, .pick (.t 10) (.t 15) (.c (.d (.bool false))), none⟩, ⟨some 17, .mv (.t 16), none⟩, ⟨some 18, .fad false 2 1 (.t 2), some (17, true)⟩, ⟨some 19, .ld false 1 (.t 18), some (17, true)⟩, ⟨some 20, .fad false 2 1 (.t 3), some (17, true)⟩, ⟨some 21, .ld false 1 (.t 20), some (17, true)⟩, ⟨some 22, .bin .eql (.t 19) (.t 21), some (17, true)⟩, ⟨some 23, .pick (.t 17) (.t 22) (.c (.d (.bool false))), none⟩, ⟨some 24, .mv (.t 23), none⟩, ⟨some 25, .fad true 3 3 (.t 2), some (24, true)⟩, ⟨some 26, .ld true 3 (.t 25), some (24, true)⟩, ⟨some 27, .fad true 3 3 (.t 3), some (24, true)⟩, ⟨some 28, .ld true 3 (.t 27), some (24, true)⟩, ⟨some 29, .call N_ref04_Same [] [.t 26, .t 28], some (24, true)⟩, ⟨some 30, .pick (.t 24) (.t 29) (.c (.d (.bool false))), none⟩, ⟨some 31, .mv (.t 30), none⟩, ⟨some 32, .fad true 6 2 (.t 2), some (31, true)⟩, ⟨some 33, .ld true 2 (.t 32), some (31, true)⟩, ⟨some 34, .fad true 6 2 (.t 3), some (31, true)⟩, ⟨some 35, .ld true 2 (.t 34), some (31, true)⟩, ⟨some 36, .call N_ref06_Same [] [.t 33, .t 35], some (31, true)⟩, ⟨some 37, .pick (.t 31) (.t 36) (.c (.d (.bool false))), none⟩, ⟨some 4, .mv (.t 37), none⟩] [2, 3, 5, 6, 7, 8, 9, 10, 11, 12, 13, 14, 15, 16, 17, 18, 19, 20, 21, 22, 23, 24, 25, 26, 27, 28, 29, 30, 31, 32, 33, 34, 35, 36, 37])
 (.ret [4])))
def r_ref07_Same : List ARes := [.t 4]
def fn_ref07_Same : AFn := .code c_ref07_Same r_ref07_Same 38 true
def c_ref04_Same : ACode :=
 (.seq (.ops [] [⟨some 2, .box (.t 0), none⟩, ⟨some 3, .box (.t 1), none⟩, ⟨some 4, .mv (.c (.d (.bool false))), none⟩] [0, 1, 4])
 (.seq (.ops [] [⟨some 5, .fad false 1 1 (.t 2), none⟩, ⟨some 6, .ld false 1 (.t 5), none⟩, ⟨some 7, .fad false 1 1 (.t 3), none⟩, ⟨some 8, .ld false 1 (.t 7), none⟩, ⟨some 9, .bin .eql (.t 6) (.t 8), none⟩, ⟨some 10, .mv (.t 9), none⟩, ⟨some 11, .fad false 2 1 (.t 2), some (10, true)⟩, ⟨some 12, .ld false 1 (.t 11), some (10, true)⟩, ⟨some 13, .fad false 2 1 (.t 3), some (10, true)⟩, ⟨some 14, .ld false 1 (.t 13), some (10, true)⟩, ⟨some 15, .bin .eql (.t 12) (.t 14), some (10, true)⟩, ⟨some 16, .pick (.t 10) (.t 15) (.c (.d (.bool false))), none⟩, ⟨some 17, .mv (.t 16), none⟩, ⟨some 18, .fad false 0 1 (.t 2), some (17, true)⟩, ⟨some 19, .ld false 1 (.t 18), some (17, true)⟩, ⟨some 20, .fad false 0 1 (.t 3), some (17, true)⟩, ⟨some 21, .ld false 1 (.t 20), some (17, true)⟩, ⟨some 22, .call N_ref03_Same [] [.t 19, .t 21], some (17, true)⟩, ⟨some 23, .pick (.t 17) (.t 22) (.c (.d (.bool false))), none⟩, ⟨some 4, .mv (.t 23), none⟩] [2, 3, 5, 6, 7, 8, 9, 10, 11, 12, 13, 14, 15, 16, 17, 18, 19, 20, 21, 22, 23])
 (.ret [4])))
def r_ref04_Same : List ARes := [.t 4]
def fn_ref04_Same : AFn := .code c_ref04_Same r_ref04_Same 24 true
def c_ref06_Same : ACode :=
 (.seq (.ops [] [⟨some 2, .box (.t 0), none⟩, ⟨some 3, .box (.t 1), none⟩, ⟨some 4, .mv (.c (.d (.bool false))), none⟩] [0, 1, 4])
 (.seq (.ops [] [⟨some 5, .fad false 0 1 (.t 2), none⟩, ⟨some 6, .ld false 1 (.t 5), none⟩, ⟨some 7, .fad false 0 1 (.t 3), none⟩, ⟨some 8, .ld false 1 (.t 7), none⟩, ⟨some 9, .call N_ref06_SameLeases [] [.t 6, .t 8], none⟩, ⟨some 10, .mv (.t 9), none⟩, ⟨some 11, .fad false 1 1 (.t 2), some (10, true)⟩, ⟨some 12, .ld false 1 (.t 11), some (10, true)⟩, ⟨some 13, .fad false 1 1 (.t 3), some (10, true)⟩, ⟨some 14, .ld false 1 (.t 13), some (10, true)⟩, ⟨some 15, .call N_ref05_Same [] [.t 12, .t 14], some (10, true)⟩, ⟨some 16, .pick (.t 10) (.t 15) (.c (.d (.bool false))), none⟩, ⟨some 4, .mv (.t 16), none⟩] [2, 3, 5, 6, 7, 8, 9, 10, 11, 12, 13, 14, 15, 16])
 (.ret [4])))
def r_ref06_Same : List ARes := [.t 4]
def fn_ref06_Same : AFn := .code c_ref06_Same r_ref06_Same 17 true
def l_ref06_SameLeases_0 : ACode :=
 (.seq (.seq (.ops [] [⟨some 11, .mv (.t 5), none⟩, ⟨some 12, .mv (.t 0), none⟩, ⟨some 13, .len (.t 12), none⟩, ⟨some 14, .bin .lss (.t 11) (.t 13), none⟩] [11, 12, 13])
 (.cond (.t 14) .skip (.exit 0 [])))
 (.seq (.block 1 (.seq (.draw [] [⟨some 17, .mv (.t 0), none⟩, ⟨some 18, .mv (.t 5), none⟩, ⟨some 19, .iad 8 (.t 17) (.t 18), none⟩, ⟨some 20, .ld true 8 (.t 19), none⟩, ⟨some 21, .mv (.t 1), none⟩, ⟨some 22, .mv (.t 5), none⟩, ⟨some 23, .iad 8 (.t 21) (.t 22), none⟩, ⟨some 24, .ld true 8 (.t 23), none⟩, ⟨some 25, .eqs true 8 [(0, 0), (1, 0), (2, 0), (3, 0), (4, 0), (5, 0), (6, 2), (7, 0)] (.t 20) (.t 24), none⟩] [[], [0], [], [], [0, 1, 2, 3], [0, 1, 2, 3, 4], [0, 1, 2, 3], [0, 1, 2, 3], []] [14, 17, 18, 19, 20, 21, 22, 23, 24])
 (.cond (.t 25) (.seq (.ops [] [⟨some 4, .mv (.c (.d (.bool false))), none⟩] [0, 1, 5, 25])
 (.ret [4])) .skip)))
 (.ops [] [⟨some 15, .mv (.t 5), none⟩, ⟨some 16, .bin .add (.t 15) (.c (.d (.int .i64 1))), none⟩, ⟨some 5, .mv (.t 16), none⟩] [15, 16, 25])))
def c_ref06_SameLeases : ACode :=
 (.seq (.ops [] [⟨some 4, .mv (.c (.d (.bool false))), none⟩] [4])
 (.seq (.seq (.ops [] [⟨some 6, .mv (.t 0), none⟩, ⟨some 7, .len (.t 6), none⟩, ⟨some 8, .mv (.t 1), none⟩, ⟨some 9, .len (.t 8), none⟩, ⟨some 10, .bin .neq (.t 7) (.t 9), none⟩] [6, 7, 8, 9])
 (.cond (.t 10) (.seq (.ops [] [⟨some 4, .mv (.c (.d (.bool false))), none⟩] [0, 1, 10])
 (.ret [4])) .skip))
 (.seq (.seq (.ops [] [⟨some 5, .mv (.c (.d (.int .i64 0))), none⟩] [10])
 (.block 0 (.loop [] l_ref06_SameLeases_0)))
 (.seq (.ops [] [⟨some 4, .mv (.c (.d (.bool true))), none⟩] [0, 1, 5, 14])
 (.ret [4])))))
def r_ref06_SameLeases : List ARes := [.t 4]
def fn_ref06_SameLeases : AFn := .code c_ref06_SameLeases r_ref06_SameLeases 26 true
def l_ref05_Same_0 : ACode :=
 (.seq (.seq (.ops [] [⟨some 11, .mv (.t 5), none⟩, ⟨some 12, .mv (.t 0), none⟩, ⟨some 13, .len (.t 12), none⟩, ⟨some 14, .bin .lss (.t 11) (.t 13), none⟩] [11, 12, 13])
 (.cond (.t 14) .skip (.exit 0 [])))
 (.seq (.block 1 (.seq (.draw [] [⟨some 17, .mv (.t 0), none⟩, ⟨some 18, .mv (.t 5), none⟩, ⟨some 19, .iad 2 (.t 17) (.t 18), none⟩, ⟨some 20, .ld true 2 (.t 19), none⟩, ⟨some 21, .mv (.t 1), none⟩, ⟨some 22, .mv (.t 5), none⟩, ⟨some 23, .iad 2 (.t 21) (.t 22), none⟩, ⟨some 24, .ld true 2 (.t 23), none⟩, ⟨some 25, .eqs true 2 [(0, 0), (1, 0)] (.t 20) (.t 24), none⟩] [[], [0], [], [], [0, 1, 2, 3], [0, 1, 2, 3, 4], [0, 1, 2, 3], [0, 1, 2, 3], []] [14, 17, 18, 19, 20, 21, 22, 23, 24])
 (.cond (.t 25) (.seq (.ops [] [⟨some 4, .mv (.c (.d (.bool false))), none⟩] [0, 1, 5, 25])
 (.ret [4])) .skip)))
 (.ops [] [⟨some 15, .mv (.t 5), none⟩, ⟨some 16, .bin .add (.t 15) (.c (.d (.int .i64 1))), none⟩, ⟨some 5, .mv (.t 16), none⟩] [15, 16, 25])))
def c_ref05_Same : ACode :=
 (.seq (.ops [] [⟨some 4, .mv (.c (.d (.bool false))), none⟩] [4])
 (.seq (.seq (.ops [] [⟨some 6, .mv (.t 0), none⟩, ⟨some 7, .len (.t 6), none⟩, ⟨some 8, .mv (.t 1), none⟩, ⟨some 9, .len (.t 8), none⟩, ⟨some 10, .bin .neq (.t 7) (.t 9), none⟩] [6, 7, 8, 9])
 (.cond (.t 10) (.seq (.ops [] [⟨some 4, .mv (.c (.d (.bool false))), none⟩] [0, 1, 10])
 (.ret [4])) .skip))
 (.seq (.seq (.ops [] [⟨some 5, .mv (.c (.d (.int .i64 0))), none⟩] [10])
 (.block 0 (.loop [] l_ref05_Same_0)))
 (.seq (.ops [] [⟨some 4, .mv (.c (.d (.bool true))), none⟩] [0, 1, 5, 14])
 (.ret [4])))))
def r_ref05_Same : List ARes := [.t 4]
def fn_ref05_Same : AFn := .code c_ref05_Same r_ref05_Same 26 true
def c_law12_awake : ACode :=
 (.seq (.ops [] [⟨some 0, .mv (.c (.d (.bool false))), none⟩] [0])
 (.seq (.ops [] [⟨some 9, .build [.d (.int .i64 0), .d (.int .i64 0), .d (.int .i64 0), .d (.int .i64 0), .d (.int .i64 0), .d (.int .i64 0), .d (.int .i64 0), .d (.int .i64 0)] [(0, (1, .c (.d (.int .i64 2)))), (1, (1, .c (.d (.int .i64 1)))), (2, (1, .c (.d (.int .i64 3)))), (3, (1, .c (.d (.int .i64 1)))), (4, (1, .c (.d (.int .i64 1)))), (6, (1, .c (.d (.int .i64 1))))], none⟩, ⟨some 10, .call N_arena_New [] [.t 9], none⟩, ⟨some 8, .mv (.t 10), none⟩, ⟨some 11, .ext (.t 8) 0, none⟩, ⟨some 12, .ext (.t 8) 1, none⟩, ⟨some 1, .alloc (.agg [.xsl [], .xsl [], .d (.int .i64 0), .d (.int .i64 0), .xsl [], .d (.int .i64 0), .xsl [], .xsl [], .d (.int .i64 0), .d (.int .i64 0), .d (.int .i64 0)]), none⟩, ⟨none, .st 11 (.t 1) (.t 11), none⟩, ⟨some 2, .mv (.t 12), none⟩] [8, 9, 10, 11, 12])
 (.seq (.ops [] [⟨some 14, .ld true 11 (.t 1), none⟩, ⟨some 15, .call N_arena_TryLock [] [.t 14, .c (.d (.int .i64 0)), .c (.d (.int .i64 1))], none⟩, ⟨some 13, .mv (.t 15), none⟩, ⟨some 16, .ext (.t 13) 0, none⟩, ⟨some 17, .ext (.t 13) 1, none⟩, ⟨some 18, .ext (.t 13) 2, none⟩, ⟨none, .st 11 (.t 1) (.t 16), none⟩, ⟨some 3, .mv (.t 17), none⟩, ⟨some 4, .mv (.t 18), none⟩] [13, 14, 15, 16, 17, 18])
 (.seq (.ops [] [⟨some 20, .ld true 11 (.t 1), none⟩, ⟨some 21, .call N_arena_TryLock [] [.t 20, .c (.d (.int .i64 0)), .c (.d (.int .i64 2))], none⟩, ⟨some 19, .mv (.t 21), none⟩, ⟨some 22, .ext (.t 19) 0, none⟩, ⟨some 23, .ext (.t 19) 1, none⟩, ⟨some 24, .ext (.t 19) 2, none⟩, ⟨some 5, .alloc (.agg [.xsl [], .xsl [], .d (.int .i64 0), .d (.int .i64 0), .xsl [], .d (.int .i64 0), .xsl [], .xsl [], .d (.int .i64 0), .d (.int .i64 0), .d (.int .i64 0)]), none⟩, ⟨none, .st 11 (.t 5) (.t 22), none⟩, ⟨some 6, .mv (.t 23), none⟩, ⟨some 7, .mv (.t 24), none⟩] [5, 19, 20, 21, 22, 23, 24])
 (.seq (.ops [] [⟨some 25, .mv (.t 2), none⟩, ⟨some 26, .bin .eql (.t 25) (.c (.d (.int .i64 0))), none⟩, ⟨some 27, .mv (.t 26), none⟩, ⟨some 28, .mv (.t 4), some (27, true)⟩, ⟨some 29, .bin .eql (.t 28) (.c (.d (.int .i64 0))), some (27, true)⟩, ⟨some 30, .pick (.t 27) (.t 29) (.c (.d (.bool false))), none⟩, ⟨some 31, .mv (.t 30), none⟩, ⟨some 32, .mv (.t 7), some (31, true)⟩, ⟨some 33, .bin .eql (.t 32) (.c (.d (.int .i64 0))), some (31, true)⟩, ⟨some 34, .pick (.t 31) (.t 33) (.c (.d (.bool false))), none⟩, ⟨some 35, .mv (.t 34), none⟩, ⟨some 36, .mv (.t 3), some (35, true)⟩, ⟨some 37, .pick (.t 35) (.t 36) (.c (.d (.bool false))), none⟩, ⟨some 38, .mv (.t 37), none⟩, ⟨some 39, .mv (.t 6), some (38, true)⟩, ⟨some 40, .un .not (.t 39), some (38, true)⟩, ⟨some 41, .pick (.t 38) (.t 40) (.c (.d (.bool false))), none⟩, ⟨some 42, .mv (.t 41), none⟩, ⟨some 43, .fad false 0 1 (.t 1), some (42, true)⟩, ⟨some 44, .ld false 1 (.t 43), some (42, true)⟩, ⟨some 45, .len (.t 44), some (42, true)⟩, ⟨some 46, .bin .eql (.t 45) (.c (.d (.int .i64 2))), some (42, true)⟩, ⟨some 47, .pick (.t 42) (.t 46) (.c (.d (.bool false))), none⟩, ⟨some 48, .mv (.t 47), none⟩, ⟨some 49, .fad false 0 1 (.t 1), some (48, true)⟩, ⟨some 50, .ld false 1 (.t 49), some (48, true)⟩, ⟨some 51, .iad 9 (.t 50) (.c (.d (.int .i64 0))), some (48, true)⟩, ⟨some 52, .fad false 0 1 (.t 51), some (48, true)⟩, ⟨some 53, .ld false 1 (.t 52), some (48, true)⟩, ⟨some 54, .bin .eql (.t 53) (.c (.d (.int .i64 1))), some (48, true)⟩, ⟨some 55, .pick (.t 48) (.t 54) (.c (.d (.bool false))), none⟩, ⟨some 0, .mv (.t 55), none⟩] [1, 2, 3, 4, 6, 7, 25, 26, 27, 28, 29, 30, 31, 32, 33, 34, 35, 36, 37, 38, 39, 40, 41, 42, 43, 44, 45, 46, 47, 48, 49, 50, 51, 52, 53, 54, 55])
 (.ret [0]))))))
def r_law12_awake : List ARes := [.t 0]
def fn_law12_awake : AFn := .code c_law12_awake r_law12_awake 56 true
def c_arena_TryLock : ACode :=
 (.seq (.ops [] [⟨some 3, .box (.t 0), none⟩, ⟨some 6, .alloc (.agg [.xsl [], .xsl [], .d (.int .i64 0), .d (.int .i64 0), .xsl [], .d (.int .i64 0), .xsl [], .xsl [], .d (.int .i64 0), .d (.int .i64 0), .d (.int .i64 0)]), none⟩, ⟨some 7, .mv (.c (.d (.bool false))), none⟩, ⟨some 8, .mv (.c (.d (.int .i64 0))), none⟩] [0, 7, 8])
 (.seq (.ops [] [⟨some 12, .ld true 11 (.t 3), none⟩, ⟨some 13, .mv (.t 1), none⟩, ⟨some 14, .call N_arena_owner [] [.t 12, .t 13], none⟩, ⟨some 11, .mv (.t 14), none⟩, ⟨some 15, .ext (.t 11) 0, none⟩, ⟨some 16, .ext (.t 11) 1, none⟩, ⟨some 9, .mv (.t 15), none⟩, ⟨some 10, .mv (.t 16), none⟩] [11, 12, 13, 14, 15, 16])
 (.seq (.seq (.ops [] [⟨some 17, .mv (.t 10), none⟩, ⟨some 18, .un .not (.t 17), none⟩, ⟨some 19, .mv (.t 18), none⟩, ⟨some 20, .mv (.t 2), some (19, false)⟩, ⟨some 21, .call N_arena_isTask [] [.t 20], some (19, false)⟩, ⟨some 22, .un .not (.t 21), some (19, false)⟩, ⟨some 23, .pick (.t 19) (.c (.d (.bool true))) (.t 22), none⟩] [10, 17, 18, 19, 20, 21, 22])
 (.cond (.t 23) (.seq (.ops [] [⟨some 24, .build [.xsl [], .xsl [], .d (.int .i64 0), .d (.int .i64 0), .xsl [], .d (.int .i64 0), .xsl [], .xsl [], .d (.int .i64 0), .d (.int .i64 0), .d (.int .i64 0)] [], none⟩, ⟨none, .st 11 (.t 6) (.t 24), none⟩, ⟨some 7, .mv (.c (.d (.bool false))), none⟩, ⟨some 8, .mv (.c (.d (.int .i64 1))), none⟩] [1, 2, 3, 9, 23, 24])
 (.ret [6, 7, 8])) .skip))
 (.seq (.seq (.ops [] [⟨some 25, .mv (.t 9), none⟩, ⟨some 26, .bin .neq (.t 25) (.c (.d (.int .i64 0))), none⟩] [9, 23, 25])
 (.cond (.t 26) (.seq (.ops [] [⟨some 27, .ld true 11 (.t 3), none⟩, ⟨none, .st 11 (.t 6) (.t 27), none⟩, ⟨some 7, .mv (.c (.d (.bool false))), none⟩, ⟨some 8, .mv (.c (.d (.int .i64 0))), none⟩] [1, 2, 3, 26, 27])
 (.ret [6, 7, 8])) .skip))
 (.seq (.ops [] [⟨some 28, .ld true 11 (.t 3), none⟩, ⟨some 29, .mv (.t 1), none⟩, ⟨some 30, .mv (.t 2), none⟩, ⟨some 31, .call N_arena_give [] [.t 28, .t 29, .t 30], none⟩, ⟨none, .st 11 (.t 6) (.t 31), none⟩, ⟨some 7, .mv (.c (.d (.bool true))), none⟩, ⟨some 8, .mv (.c (.d (.int .i64 0))), none⟩] [1, 2, 3, 26, 28, 29, 30, 31])
 (.ret [6, 7, 8]))))))
def r_arena_TryLock : List ARes := [.c 6 true 11, .t 7, .t 8]
def fn_arena_TryLock : AFn := .code c_arena_TryLock r_arena_TryLock 32 true
def c_arena_owner : ACode :=
 (.seq (.ops [] [⟨some 2, .box (.t 0), none⟩, ⟨some 4, .mv (.c (.d (.int .i64 0))), none⟩, ⟨some 5, .mv (.c (.d (.bool false))), none⟩] [0, 4, 5])
 (.seq (.block 0 (.seq (.ops [] [⟨some 7, .mv (.t 1), none⟩, ⟨some 8, .bin .lss (.t 7) (.c (.d (.int .i64 0))), none⟩, ⟨some 9, .mv (.t 8), none⟩, ⟨some 10, .mv (.t 1), some (9, false)⟩, ⟨some 11, .fad false 0 1 (.t 2), some (9, false)⟩, ⟨some 12, .ld false 1 (.t 11), some (9, false)⟩, ⟨some 13, .len (.t 12), some (9, false)⟩, ⟨some 14, .bin .gtr (.t 10) (.t 13), some (9, false)⟩, ⟨some 15, .pick (.t 9) (.c (.d (.bool true))) (.t 14), none⟩, ⟨some 6, .mv (.t 15), none⟩] [7, 8, 9, 10, 11, 12, 13, 14, 15])
 (.cond (.t 6) (.seq (.ops [] [⟨some 4, .mv (.c (.d (.int .i64 0))), none⟩, ⟨some 5, .mv (.c (.d (.bool false))), none⟩] [1, 2, 6])
 (.ret [4, 5])) (.seq (.ops [] [⟨some 17, .mv (.t 1), none⟩, ⟨some 18, .fad false 0 1 (.t 2), none⟩, ⟨some 19, .ld false 1 (.t 18), none⟩, ⟨some 20, .len (.t 19), none⟩, ⟨some 21, .bin .eql (.t 17) (.t 20), none⟩, ⟨some 16, .mv (.t 21), none⟩] [6, 17, 18, 19, 20, 21])
 (.cond (.t 16) (.seq (.ops [] [⟨some 22, .fad true 2 3 (.t 2), none⟩, ⟨some 23, .fad false 0 1 (.t 22), none⟩, ⟨some 24, .ld false 1 (.t 23), none⟩, ⟨some 4, .mv (.t 24), none⟩, ⟨some 5, .mv (.c (.d (.bool true))), none⟩] [1, 2, 16, 22, 23, 24])
 (.ret [4, 5])) .skip)))))
 (.seq (.ops [] [⟨some 25, .fad false 0 1 (.t 2), none⟩, ⟨some 26, .ld false 1 (.t 25), none⟩, ⟨some 27, .mv (.t 1), none⟩, ⟨some 28, .iad 9 (.t 26) (.t 27), none⟩, ⟨some 29, .fad false 0 1 (.t 28), none⟩, ⟨some 30, .ld false 1 (.t 29), none⟩, ⟨some 4, .mv (.t 30), none⟩, ⟨some 5, .mv (.c (.d (.bool true))), none⟩] [1, 2, 16, 25, 26, 27, 28, 29, 30])
 (.ret [4, 5]))))
def r_arena_owner : List ARes := [.t 4, .t 5]
def fn_arena_owner : AFn := .code c_arena_owner r_arena_owner 31 true
def c_arena_isTask : ACode :=
 (.seq (.ops [] [⟨some 2, .mv (.c (.d (.bool false))), none⟩] [2])
 (.seq (.ops [] [⟨some 3, .mv (.t 0), none⟩, ⟨some 4, .call N_arena_in [] [.t 3, .c (.d (.int .i64 1)), .c (.d (.int .i64 200))], none⟩, ⟨some 2, .mv (.t 4), none⟩] [0, 3, 4])
 (.ret [2])))
def r_arena_isTask : List ARes := [.t 2]
def fn_arena_isTask : AFn := .code c_arena_isTask r_arena_isTask 5 true
def c_arena_give : ACode :=
 (.seq (.ops [] [⟨some 3, .box (.t 0), none⟩, ⟨some 6, .alloc (.agg [.xsl [], .xsl [], .d (.int .i64 0), .d (.int .i64 0), .xsl [], .d (.int .i64 0), .xsl [], .xsl [], .d (.int .i64 0), .d (.int .i64 0), .d (.int .i64 0)]), none⟩] [0])
 (.seq (.seq (.ops [] [⟨some 7, .mv (.t 1), none⟩, ⟨some 8, .fad false 0 1 (.t 3), none⟩, ⟨some 9, .ld false 1 (.t 8), none⟩, ⟨some 10, .len (.t 9), none⟩, ⟨some 11, .bin .eql (.t 7) (.t 10), none⟩] [7, 8, 9, 10])
 (.cond (.t 11) (.seq (.ops [] [⟨some 12, .mv (.t 2), none⟩, ⟨some 13, .fad true 2 3 (.t 3), none⟩, ⟨some 14, .fad false 0 1 (.t 13), none⟩, ⟨none, .st 1 (.t 14) (.t 12), none⟩] [1, 2, 11, 12, 13, 14])
 (.seq (.ops [] [⟨some 15, .ld true 11 (.t 3), none⟩, ⟨none, .st 11 (.t 6) (.t 15), none⟩] [3, 15])
 (.ret [6]))) .skip))
 (.seq (.ops [] [⟨some 16, .fad false 0 1 (.t 3), none⟩, ⟨some 17, .ld false 1 (.t 16), none⟩, ⟨some 18, .call N_slices_Clone_api_Slot [] [.t 17], none⟩, ⟨some 19, .fad false 0 1 (.t 3), none⟩, ⟨none, .st 1 (.t 19) (.t 18), none⟩] [11, 16, 17, 18, 19])
 (.seq (.ops [36] [⟨some 20, .fad false 0 1 (.t 3), none⟩, ⟨some 21, .ld false 1 (.t 20), none⟩, ⟨some 22, .mv (.t 1), none⟩, ⟨some 23, .mv (.t 2), none⟩, ⟨some 24, .iad 9 (.t 21) (.t 22), none⟩, ⟨some 25, .fad false 0 1 (.t 24), none⟩, ⟨none, .st 1 (.t 25) (.t 23), none⟩] [1, 2, 20, 21, 22, 23, 24, 25])
 (.seq (.ops [] [⟨some 26, .ld true 11 (.t 3), none⟩, ⟨none, .st 11 (.t 6) (.t 26), none⟩] [3, 26])
 (.ret [6]))))))
def r_arena_give : List ARes := [.c 6 true 11]
def fn_arena_give : AFn := .code c_arena_give r_arena_give 27 true
def c_slices_Clone_api_Slot : ACode :=
 (.seq (.ops [] [⟨some 2, .nacc, none⟩] [2])
 (.seq (.seq (.ops [] [⟨some 3, .mv (.t 0), none⟩, ⟨some 4, .nileq false (.t 3), none⟩] [3])
 (.cond (.t 4) (.seq (.ops [] [⟨some 2, .nacc, none⟩] [0, 4])
 (.ret [2])) .skip))
 (.seq (.ops [] [⟨some 5, .bsl 0 9 (.agg [.d (.int .i64 0), .d (.bool false), .d (.int .i64 0), .d (.int .i64 0), .xsl [], .d (.int .i64 0), .d (.int .i64 0), .xsl [], .xsl []]) [], none⟩, ⟨some 6, .mv (.t 0), none⟩, ⟨some 7, .app 9 (.t 5) (.t 6), none⟩, ⟨some 2, .mv (.t 7), none⟩] [0, 4, 5, 6, 7])
 (.ret [2]))))
def r_slices_Clone_api_Slot : List ARes := [.t 2]
def fn_slices_Clone_api_Slot : AFn := .nils c_slices_Clone_api_Slot r_slices_Clone_api_Slot 8
def l_law13_LockerNew_0 : ACode :=
 (.seq (.seq (.ops [] [⟨some 23, .mv (.t 7), none⟩, ⟨some 24, .bin .gtr (.t 23) (.c (.d (.int .i64 0))), none⟩] [23])
 (.cond (.t 24) .skip (.exit 0 [0, 6])))
 (.seq (.block 1 (.ops [] [⟨some 27, .mv (.t 6), none⟩, ⟨some 28, .mv (.t 5), none⟩, ⟨some 29, .call N_base_Src_Range [true, false, false] [.t 28, .c (.d (.int .i64 (-1))), .c (.d (.int .i64 7))], none⟩, ⟨some 30, .bsl 1 1 (.d (.int .i64 0)) [(0, .t 29)], none⟩, ⟨some 31, .app 1 (.t 27) (.t 30), none⟩, ⟨some 6, .mv (.t 31), none⟩] [24, 27, 28, 29, 30, 31]))
 (.ops [] [⟨some 25, .mv (.t 7), none⟩, ⟨some 26, .bin .sub (.t 25) (.c (.d (.int .i64 1))), none⟩, ⟨some 7, .mv (.t 26), none⟩] [25, 26])))
def c_law13_LockerNew : ACode :=
 (.seq (.ops [] [⟨some 4, .mv (.c (.d (.bool false))), none⟩] [4])
 (.seq (.seq (.ops [] [⟨some 16, .mv (.t 0), none⟩, ⟨some 17, .len (.t 16), none⟩, ⟨some 18, .bin .gtr (.t 17) (.c (.d (.int .i64 20))), none⟩] [16, 17])
 (.cond (.t 18) (.seq (.ops [] [⟨some 4, .mv (.c (.d (.bool true))), none⟩] [0, 1, 18])
 (.ret [4])) .skip))
 (.seq (.ops [] [⟨some 19, .mv (.t 1), none⟩, ⟨some 20, .call N_base_New [] [.t 19], none⟩, ⟨some 5, .mv (.t 20), none⟩] [1, 18, 19, 20])
 (.seq (.ops [] [⟨some 6, .nacc, none⟩] [])
 (.seq (.seq (.ops [] [⟨some 21, .mv (.t 5), none⟩, ⟨some 22, .call N_base_Src_N [true, false] [.t 21, .c (.d (.int .i64 5))], none⟩, ⟨some 7, .mv (.t 22), none⟩] [21, 22])
 (.block 0 (.loop [] l_law13_LockerNew_0)))
 (.seq (.ops [] [⟨some 33, .mv (.t 0), none⟩, ⟨some 34, .call N_locker_New [] [.t 33], none⟩, ⟨some 32, .mv (.t 34), none⟩, ⟨some 35, .ext (.t 32) 0, none⟩, ⟨some 36, .ext (.t 32) 1, none⟩, ⟨some 8, .alloc (.agg [.xsl [], .d (.int .i64 0), .d (.int .i64 0), .d (.int .i64 0), .d (.int .i64 0)]), none⟩, ⟨none, .st 5 (.t 8) (.t 35), none⟩, ⟨some 9, .mv (.t 36), none⟩] [5, 7, 24, 32, 33, 34, 35, 36])
 (.seq (.ops [] [⟨some 38, .mv (.t 0), none⟩, ⟨some 39, .call N_ref13_New [] [.t 38], none⟩, ⟨some 37, .mv (.t 39), none⟩, ⟨some 40, .ext (.t 37) 0, none⟩, ⟨some 41, .ext (.t 37) 1, none⟩, ⟨some 10, .alloc (.agg [.xsl [], .d (.int .i64 0), .d (.int .i64 0), .d (.int .i64 0), .d (.int .i64 0)]), none⟩, ⟨none, .st 5 (.t 10) (.t 40), none⟩, ⟨some 11, .mv (.t 41), none⟩] [0, 37, 38, 39, 40, 41])
 (.seq (.ops [] [⟨some 43, .mv (.t 6), none⟩, ⟨some 44, .call N_locker_New [false, true] [.t 43], none⟩, ⟨some 42, .mv (.t 44), none⟩, ⟨some 45, .ext (.t 42) 0, none⟩, ⟨some 46, .ext (.t 42) 1, none⟩, ⟨some 12, .alloc (.agg [.xsl [], .d (.int .i64 0), .d (.int .i64 0), .d (.int .i64 0), .d (.int .i64 0)]), none⟩, ⟨none, .st 5 (.t 12) (.t 45), none⟩, ⟨some 13, .mv (.t 46), none⟩] [42, 43, 44, 45, 46])
 (.seq (.ops [] [⟨some 48, .mv (.t 6), none⟩, ⟨some 49, .call N_ref13_New [false, true] [.t 48], none⟩, ⟨some 47, .mv (.t 49), none⟩, ⟨some 50, .ext (.t 47) 0, none⟩, ⟨some 51, .ext (.t 47) 1, none⟩, ⟨some 14, .alloc (.agg [.xsl [], .d (.int .i64 0), .d (.int .i64 0), .d (.int .i64 0), .d (.int .i64 0)]), none⟩, ⟨none, .st 5 (.t 14) (.t 50), none⟩, ⟨some 15, .mv (.t 51), none⟩] [6, 47, 48, 49, 50, 51])
 (.seq (.ops [] [⟨some 52, .mv (.t 9), none⟩, ⟨some 53, .mv (.t 11), none⟩, ⟨some 54, .bin .eql (.t 52) (.t 53), none⟩, ⟨some 55, .mv (.t 54), none⟩, ⟨some 56, .mv (.t 13), some (55, true)⟩, ⟨some 57, .mv (.t 15), some (55, true)⟩, ⟨some 58, .bin .eql (.t 56) (.t 57), some (55, true)⟩, ⟨some 59, .pick (.t 55) (.t 58) (.c (.d (.bool false))), none⟩, ⟨some 60, .mv (.t 59), none⟩, ⟨some 61, .ld true 5 (.t 8), some (60, true)⟩, ⟨some 62, .ld true 5 (.t 10), some (60, true)⟩, ⟨some 63, .call N_ref13_Same [] [.t 61, .t 62], some (60, true)⟩, ⟨some 64, .pick (.t 60) (.t 63) (.c (.d (.bool false))), none⟩, ⟨some 65, .mv (.t 64), none⟩, ⟨some 66, .ld true 5 (.t 12), some (65, true)⟩, ⟨some 67, .ld true 5 (.t 14), some (65, true)⟩, ⟨some 68, .call N_ref13_Same [] [.t 66, .t 67], some (65, true)⟩, ⟨some 69, .pick (.t 65) (.t 68) (.c (.d (.bool false))), none⟩, ⟨some 70, .mv (.t 69), none⟩, ⟨some 71, .call N_law13_awake [] [], some (70, true)⟩, ⟨some 72, .pick (.t 70) (.t 71) (.c (.d (.bool false))), none⟩, ⟨some 4, .mv (.t 72), none⟩] [8, 9, 10, 11, 12, 13, 14, 15, 52, 53, 54, 55, 56, 57, 58, 59, 60, 61, 62, 63, 64, 65, 66, 67, 68, 69, 70, 71, 72])
 (.ret [4])))))))))))
def r_law13_LockerNew : List ARes := [.t 4]
def fn_law13_LockerNew : AFn := .code c_law13_LockerNew r_law13_LockerNew 73 true
def l_locker_New_0 : ACode :=
 (.seq (.ops [] [⟨some 18, .bin .lss (.t 17) (.t 16), none⟩] [])
 (.seq (.cond (.t 18) .skip (.exit 0 [0, 2]))
 (.seq (.block 1 (.seq (.ops [] [⟨some 19, .mv (.t 17), none⟩, ⟨some 20, .iad 1 (.t 15) (.t 17), none⟩, ⟨some 21, .ld false 1 (.t 20), none⟩, ⟨some 4, .mv (.t 19), none⟩, ⟨some 5, .mv (.t 21), none⟩] [18, 19, 20, 21])
 (.seq (.ops [] [⟨some 22, .mv (.t 5), none⟩, ⟨some 23, .bin .lss (.t 22) (.c (.d (.int .i64 0))), none⟩, ⟨some 24, .mv (.t 23), none⟩, ⟨some 25, .mv (.t 5), some (24, false)⟩, ⟨some 26, .bin .gtr (.t 25) (.c (.d (.int .i64 6))), some (24, false)⟩, ⟨some 27, .pick (.t 24) (.c (.d (.bool true))) (.t 26), none⟩, ⟨some 28, .mv (.t 27), none⟩, ⟨some 29, .mv (.t 4), some (28, false)⟩, ⟨some 30, .bin .gtr (.t 29) (.c (.d (.int .i64 0))), some (28, false)⟩, ⟨some 31, .mv (.t 30), some (28, false)⟩, ⟨some 32, .mv (.t 5), some (31, true)⟩, ⟨some 33, .mv (.t 0), some (31, true)⟩, ⟨some 34, .mv (.t 4), some (31, true)⟩, ⟨some 35, .bin .sub (.t 34) (.c (.d (.int .i64 1))), some (31, true)⟩, ⟨some 36, .iad 1 (.t 33) (.t 35), some (31, true)⟩, ⟨some 37, .ld false 1 (.t 36), some (31, true)⟩, ⟨some 38, .bin .leq (.t 32) (.t 37), some (31, true)⟩, ⟨some 39, .pick (.t 31) (.t 38) (.c (.d (.bool false))), some (28, false)⟩, ⟨some 40, .pick (.t 28) (.c (.d (.bool true))) (.t 39), none⟩] [4, 5, 22, 23, 24, 25, 26, 27, 28, 29, 30, 31, 32, 33, 34, 35, 36, 37, 38, 39])
 (.cond (.t 40) (.seq (.ops [] [⟨some 41, .build [.xsl [], .d (.int .i64 0), .d (.int .i64 0), .d (.int .i64 0), .d (.int .i64 0)] [], none⟩, ⟨none, .st 5 (.t 2) (.t 41), none⟩, ⟨some 3, .mv (.c (.d (.int .i64 1))), none⟩] [0, 15, 16, 17, 40, 41])
 (.ret [2, 3])) .skip))))
 (.ops [] [⟨some 42, .bin .add (.t 17) (.c (.d (.int .i64 1))), none⟩, ⟨some 17, .mv (.t 42), none⟩] [40, 42]))))
def c_locker_New : ACode :=
 (.seq (.ops [] [⟨some 2, .alloc (.agg [.xsl [], .d (.int .i64 0), .d (.int .i64 0), .d (.int .i64 0), .d (.int .i64 0)]), none⟩, ⟨some 3, .mv (.c (.d (.int .i64 0))), none⟩] [3])
 (.seq (.seq (.ops [] [⟨some 6, .mv (.t 0), none⟩, ⟨some 7, .len (.t 6), none⟩, ⟨some 8, .bin .eql (.t 7) (.c (.d (.int .i64 0))), none⟩, ⟨some 9, .mv (.t 8), none⟩, ⟨some 10, .mv (.t 0), some (9, false)⟩, ⟨some 11, .len (.t 10), some (9, false)⟩, ⟨some 12, .bin .gtr (.t 11) (.c (.d (.int .i64 3))), some (9, false)⟩, ⟨some 13, .pick (.t 9) (.c (.d (.bool true))) (.t 12), none⟩] [6, 7, 8, 9, 10, 11, 12])
 (.cond (.t 13) (.seq (.ops [] [⟨some 14, .build [.xsl [], .d (.int .i64 0), .d (.int .i64 0), .d (.int .i64 0), .d (.int .i64 0)] [], none⟩, ⟨none, .st 5 (.t 2) (.t 14), none⟩, ⟨some 3, .mv (.c (.d (.int .i64 2))), none⟩] [0, 13, 14])
 (.ret [2, 3])) .skip))
 (.seq (.seq (.ops [] [⟨some 15, .mv (.t 0), none⟩, ⟨some 16, .len (.t 15), none⟩, ⟨some 17, .mv (.c (.d (.int .i64 0))), none⟩] [13])
 (.block 0 (.loop [] l_locker_New_0)))
 (.seq (.ops [] [⟨some 43, .mv (.t 0), none⟩, ⟨some 44, .call N_slices_Clone_int [] [.t 43], none⟩, ⟨some 45, .build [.xsl [], .d (.int .i64 0), .d (.int .i64 0), .d (.int .i64 0), .d (.int .i64 0)] [(0, (1, .t 44))], none⟩, ⟨none, .st 5 (.t 2) (.t 45), none⟩, ⟨some 3, .mv (.c (.d (.int .i64 0))), none⟩] [0, 15, 16, 17, 18, 43, 44, 45])
 (.ret [2, 3])))))
def r_locker_New : List ARes := [.c 2 true 5, .t 3]
def fn_locker_New : AFn := .code c_locker_New r_locker_New 46 true
def c_slices_Clone_int : ACode :=
 (.seq (.ops [] [⟨some 2, .nacc, none⟩] [2])
 (.seq (.seq (.ops [] [⟨some 3, .mv (.t 0), none⟩, ⟨some 4, .nileq false (.t 3), none⟩] [3])
 (.cond (.t 4) (.seq (.ops [] [⟨some 2, .nacc, none⟩] [0, 4])
 (.ret [2])) .skip))
 (.seq (.ops [] [⟨some 5, .bsl 0 1 (.d (.int .i64 0)) [], none⟩, ⟨some 6, .mv (.t 0), none⟩, ⟨some 7, .app 1 (.t 5) (.t 6), none⟩, ⟨some 2, .mv (.t 7), none⟩] [0, 4, 5, 6, 7])
 (.ret [2]))))
def r_slices_Clone_int : List ARes := [.t 2]
def fn_slices_Clone_int : AFn := .nils c_slices_Clone_int r_slices_Clone_int 8
def l_ref13_New_0 : ACode :=
 (.seq (.seq (.ops [] [⟨some 14, .mv (.t 4), none⟩, ⟨some 15, .mv (.t 0), none⟩, ⟨some 16, .len (.t 15), none⟩, ⟨some 17, .bin .lss (.t 14) (.t 16), none⟩] [14, 15, 16])
 (.cond (.t 17) .skip (.exit 0 [0, 2])))
 (.seq (.block 1 (.seq (.draw [] [⟨some 20, .mv (.t 0), none⟩, ⟨some 21, .mv (.t 4), none⟩, ⟨some 22, .iad 1 (.t 20) (.t 21), none⟩, ⟨some 23, .ld false 1 (.t 22), none⟩, ⟨some 24, .bin .lss (.t 23) (.c (.d (.int .i64 0))), none⟩, ⟨some 25, .mv (.t 24), none⟩, ⟨some 26, .mv (.t 0), some (25, false)⟩, ⟨some 27, .mv (.t 4), some (25, false)⟩, ⟨some 28, .iad 1 (.t 26) (.t 27), some (25, false)⟩, ⟨some 29, .ld false 1 (.t 28), some (25, false)⟩, ⟨some 30, .bin .gtr (.t 29) (.c (.d (.int .i64 6))), some (25, false)⟩, ⟨some 31, .pick (.t 25) (.c (.d (.bool true))) (.t 30), none⟩, ⟨some 32, .mv (.t 31), none⟩, ⟨some 33, .mv (.t 4), some (32, false)⟩, ⟨some 34, .bin .gtr (.t 33) (.c (.d (.int .i64 0))), some (32, false)⟩, ⟨some 35, .mv (.t 34), some (32, false)⟩, ⟨some 36, .mv (.t 0), some (35, true)⟩, ⟨some 37, .mv (.t 4), some (35, true)⟩, ⟨some 38, .iad 1 (.t 36) (.t 37), some (35, true)⟩, ⟨some 39, .ld false 1 (.t 38), some (35, true)⟩, ⟨some 40, .mv (.t 0), some (35, true)⟩, ⟨some 41, .mv (.t 4), some (35, true)⟩, ⟨some 42, .bin .sub (.t 41) (.c (.d (.int .i64 1))), some (35, true)⟩, ⟨some 43, .iad 1 (.t 40) (.t 42), some (35, true)⟩, ⟨some 44, .ld false 1 (.t 43), some (35, true)⟩, ⟨some 45, .bin .leq (.t 39) (.t 44), some (35, true)⟩, ⟨some 46, .pick (.t 35) (.t 45) (.c (.d (.bool false))), some (32, false)⟩, ⟨some 47, .pick (.t 32) (.c (.d (.bool true))) (.t 46), none⟩] [[], [0], [], [], [], [], [], [6], [], [], [], [], [], [], [], [], [], [16], [], [], [16, 17, 18, 19], [16, 17, 18, 19, 20], [16, 17, 18, 19, 20], [16, 17, 18, 19], [16, 17, 18, 19], [], [], []] [17, 20, 21, 22, 23, 24, 25, 26, 27, 28, 29, 30, 31, 32, 33, 34, 35, 36, 37, 38, 39, 40, 41, 42, 43, 44, 45, 46])
 (.cond (.t 47) (.seq (.ops [] [⟨some 48, .build [.xsl [], .d (.int .i64 0), .d (.int .i64 0), .d (.int .i64 0), .d (.int .i64 0)] [], none⟩, ⟨none, .st 5 (.t 2) (.t 48), none⟩, ⟨some 3, .mv (.c (.d (.int .i64 1))), none⟩] [0, 4, 47, 48])
 (.ret [2, 3])) .skip)))
 (.ops [] [⟨some 18, .mv (.t 4), none⟩, ⟨some 19, .bin .add (.t 18) (.c (.d (.int .i64 1))), none⟩, ⟨some 4, .mv (.t 19), none⟩] [18, 19, 47])))
def c_ref13_New : ACode :=
 (.seq (.ops [] [⟨some 2, .alloc (.agg [.xsl [], .d (.int .i64 0), .d (.int .i64 0), .d (.int .i64 0), .d (.int .i64 0)]), none⟩, ⟨some 3, .mv (.c (.d (.int .i64 0))), none⟩] [3])
 (.seq (.seq (.ops [] [⟨some 5, .mv (.t 0), none⟩, ⟨some 6, .len (.t 5), none⟩, ⟨some 7, .bin .eql (.t 6) (.c (.d (.int .i64 0))), none⟩, ⟨some 8, .mv (.t 7), none⟩, ⟨some 9, .mv (.t 0), some (8, false)⟩, ⟨some 10, .len (.t 9), some (8, false)⟩, ⟨some 11, .bin .gtr (.t 10) (.c (.d (.int .i64 3))), some (8, false)⟩, ⟨some 12, .pick (.t 8) (.c (.d (.bool true))) (.t 11), none⟩] [5, 6, 7, 8, 9, 10, 11])
 (.cond (.t 12) (.seq (.ops [] [⟨some 13, .build [.xsl [], .d (.int .i64 0), .d (.int .i64 0), .d (.int .i64 0), .d (.int .i64 0)] [], none⟩, ⟨none, .st 5 (.t 2) (.t 13), none⟩, ⟨some 3, .mv (.c (.d (.int .i64 2))), none⟩] [0, 12, 13])
 (.ret [2, 3])) .skip))
 (.seq (.seq (.ops [] [⟨some 4, .mv (.c (.d (.int .i64 0))), none⟩] [12])
 (.block 0 (.loop [] l_ref13_New_0)))
 (.seq (.ops [] [⟨some 49, .mv (.t 0), none⟩, ⟨some 50, .app 1 (.c (.xsl [])) (.t 49), none⟩, ⟨some 51, .build [.xsl [], .d (.int .i64 0), .d (.int .i64 0), .d (.int .i64 0), .d (.int .i64 0)] [(0, (1, .t 50))], none⟩, ⟨none, .st 5 (.t 2) (.t 51), none⟩, ⟨some 3, .mv (.c (.d (.int .i64 0))), none⟩] [0, 4, 17, 49, 50, 51])
 (.ret [2, 3])))))
def r_ref13_New : List ARes := [.c 2 true 5, .t 3]
def fn_ref13_New : AFn := .code c_ref13_New r_ref13_New 52 true
def c_ref13_Same : ACode :=
 (.seq (.ops [] [⟨some 2, .box (.t 0), none⟩, ⟨some 3, .box (.t 1), none⟩, ⟨some 4, .mv (.c (.d (.bool false))), none⟩] [0, 1, 4])
 (.seq (.ops [] [⟨some 5, .fad false 0 1 (.t 2), none⟩, ⟨some 6, .ld false 1 (.t 5), none⟩, ⟨some 7, .fad false 0 1 (.t 3), none⟩, ⟨some 8, .ld false 1 (.t 7), none⟩, ⟨some 9, .call N_ref13_SameInts [] [.t 6, .t 8], none⟩, ⟨some 10, .mv (.t 9), none⟩, ⟨some 11, .fad false 1 1 (.t 2), some (10, true)⟩, ⟨some 12, .ld false 1 (.t 11), some (10, true)⟩, ⟨some 13, .fad false 1 1 (.t 3), some (10, true)⟩, ⟨some 14, .ld false 1 (.t 13), some (10, true)⟩, ⟨some 15, .bin .eql (.t 12) (.t 14), some (10, true)⟩, ⟨some 16, .pick (.t 10) (.t 15) (.c (.d (.bool false))), none⟩, ⟨some 17, .mv (.t 16), none⟩, ⟨some 18, .fad false 2 1 (.t 2), some (17, true)⟩, ⟨some 19, .ld false 1 (.t 18), some (17, true)⟩, ⟨some 20, .fad false 2 1 (.t 3), some (17, true)⟩, ⟨some 21, .ld false 1 (.t 20), some (17, true)⟩, ⟨some 22, .bin .eql (.t 19) (.t 21), some (17, true)⟩, ⟨some 23, .pick (.t 17) (.t 22) (.c (.d (.bool false))), none⟩, ⟨some 24, .mv (.t 23), none⟩, ⟨some 25, .fad false 3 1 (.t 2), some (24, true)⟩, ⟨some 26, .ld false 1 (.t 25), some (24, true)⟩, ⟨some 27, .fad false 3 1 (.t 3), some (24, true)⟩, ⟨some 28, .ld false 1 (.t 27), some (24, true)⟩, ⟨some 29, .bin .eql (.t 26) (.t 28), some (24, true)⟩, ⟨some 30, .pick (.t 24) (.t 29) (.c (.d (.bool false))), none⟩, ⟨some 31, .mv (.t 30), none⟩, ⟨some 32, .fad false 4 1 (.t 2), some (31, true)⟩, ⟨some 33, .ld false 1 (.t 32), some (31, true)⟩, ⟨some 34, .fad false 4 1 (.t 3), some (31, true)⟩, ⟨some 35, .ld false 1 (.t 34), some (31, true)⟩, ⟨some 36, .bin .eql (.t 33) (.t 35), some (31, true)⟩, ⟨some 37, .pick (.t 31) (.t 36) (.c (.d (.bool false))), none⟩, ⟨some 4, .mv (.t 37), none⟩] [2, 3, 5, 6, 7, 8, 9, 10, 11, 12, 13, 14, 15, 16, 17, 18, 19, 20, 21, 22, 23, 24, 25, 26, 27, 28, 29, 30, 31, 32, 33, 34, 35, 36, 37])
 (.ret [4])))
def r_ref13_Same : List ARes := [.t 4]
def fn_ref13_Same : AFn := .code c_ref13_Same r_ref13_Same 38 true
def l_ref13_SameInts_0 : ACode :=
 (.seq (.seq (.ops [] [⟨some 11, .mv (.t 5), none⟩, ⟨some 12, .mv (.t 0), none⟩, ⟨some 13, .len (.t 12), none⟩, ⟨some 14, .bin .lss (.t 11) (.t 13), none⟩] [11, 12, 13])
 (.cond (.t 14) .skip (.exit 0 [])))
 (.seq (.block 1 (.seq (.draw [] [⟨some 17, .mv (.t 0), none⟩, ⟨some 18, .mv (.t 5), none⟩, ⟨some 19, .iad 1 (.t 17) (.t 18), none⟩, ⟨some 20, .ld false 1 (.t 19), none⟩, ⟨some 21, .mv (.t 1), none⟩, ⟨some 22, .mv (.t 5), none⟩, ⟨some 23, .iad 1 (.t 21) (.t 22), none⟩, ⟨some 24, .ld false 1 (.t 23), none⟩, ⟨some 25, .bin .neq (.t 20) (.t 24), none⟩] [[], [0], [], [], [0, 1, 2, 3], [0, 1, 2, 3, 4], [0, 1, 2, 3], [0, 1, 2, 3], []] [14, 17, 18, 19, 20, 21, 22, 23, 24])
 (.cond (.t 25) (.seq (.ops [] [⟨some 4, .mv (.c (.d (.bool false))), none⟩] [0, 1, 5, 25])
 (.ret [4])) .skip)))
 (.ops [] [⟨some 15, .mv (.t 5), none⟩, ⟨some 16, .bin .add (.t 15) (.c (.d (.int .i64 1))), none⟩, ⟨some 5, .mv (.t 16), none⟩] [15, 16, 25])))
def c_ref13_SameInts : ACode :=
 (.seq (.ops [] [⟨some 4, .mv (.c (.d (.bool false))), none⟩] [4])
 (.seq (.seq (.ops [] [⟨some 6, .mv (.t 0), none⟩, ⟨some 7, .len (.t 6), none⟩, ⟨some 8, .mv (.t 1), none⟩, ⟨some 9, .len (.t 8), none⟩, ⟨some 10, .bin .neq (.t 7) (.t 9), none⟩] [6, 7, 8, 9])
 (.cond (.t 10) (.seq (.ops [] [⟨some 4, .mv (.c (.d (.bool false))), none⟩] [0, 1, 10])
 (.ret [4])) .skip))
 (.seq (.seq (.ops [] [⟨some 5, .mv (.c (.d (.int .i64 0))), none⟩] [10])
 (.block 0 (.loop [] l_ref13_SameInts_0)))
 (.seq (.ops [] [⟨some 4, .mv (.c (.d (.bool true))), none⟩] [0, 1, 5, 14])
 (.ret [4])))))
def r_ref13_SameInts : List ARes := [.t 4]
def fn_ref13_SameInts : AFn := .code c_ref13_SameInts r_ref13_SameInts 26 true
def c_law13_awake : ACode :=
 (.seq (.ops [] [⟨some 0, .mv (.c (.d (.bool false))), none⟩] [0])
 (.seq (.ops [] [⟨some 9, .build [.d (.int .i64 0), .d (.int .i64 0), .d (.int .i64 0), .d (.int .i64 0), .d (.int .i64 0), .d (.int .i64 0), .d (.int .i64 0), .d (.int .i64 0)] [(0, (1, .c (.d (.int .i64 3)))), (1, (1, .c (.d (.int .i64 1)))), (2, (1, .c (.d (.int .i64 1)))), (3, (1, .c (.d (.int .i64 1)))), (4, (1, .c (.d (.int .i64 1)))), (6, (1, .c (.d (.int .i64 1))))], none⟩, ⟨some 10, .call N_arena_New [] [.t 9], none⟩, ⟨some 8, .mv (.t 10), none⟩, ⟨some 11, .ext (.t 8) 0, none⟩, ⟨some 12, .ext (.t 8) 1, none⟩, ⟨some 1, .alloc (.agg [.xsl [], .xsl [], .d (.int .i64 0), .d (.int .i64 0), .xsl [], .d (.int .i64 0), .xsl [], .xsl [], .d (.int .i64 0), .d (.int .i64 0), .d (.int .i64 0)]), none⟩, ⟨none, .st 11 (.t 1) (.t 11), none⟩, ⟨some 2, .mv (.t 12), none⟩] [8, 9, 10, 11, 12])
 (.seq (.ops [] [⟨some 14, .bsl 2 1 (.d (.int .i64 0)) [(0, .c (.d (.int .i64 0))), (1, .c (.d (.int .i64 2)))], none⟩, ⟨some 15, .call N_locker_New [] [.t 14], none⟩, ⟨some 13, .mv (.t 15), none⟩, ⟨some 16, .ext (.t 13) 0, none⟩, ⟨some 17, .ext (.t 13) 1, none⟩, ⟨some 3, .alloc (.agg [.xsl [], .d (.int .i64 0), .d (.int .i64 0), .d (.int .i64 0), .d (.int .i64 0)]), none⟩, ⟨none, .st 5 (.t 3) (.t 16), none⟩, ⟨some 4, .mv (.t 17), none⟩] [13, 14, 15, 16, 17])
 (.seq (.ops [] [⟨some 19, .ld true 11 (.t 1), none⟩, ⟨some 20, .ld true 5 (.t 3), none⟩, ⟨some 21, .call N_locker_Step [] [.t 19, .t 20, .c (.d (.int .i64 1))], none⟩, ⟨some 18, .mv (.t 21), none⟩, ⟨some 22, .ext (.t 18) 0, none⟩, ⟨some 23, .ext (.t 18) 1, none⟩, ⟨some 24, .ext (.t 18) 2, none⟩, ⟨none, .st 11 (.t 1) (.t 22), none⟩, ⟨none, .st 5 (.t 3) (.t 23), none⟩, ⟨some 5, .mv (.t 24), none⟩] [18, 19, 20, 21, 22, 23, 24])
 (.seq (.ops [] [⟨some 26, .ld true 11 (.t 1), none⟩, ⟨some 27, .ld true 5 (.t 3), none⟩, ⟨some 28, .call N_locker_Step [] [.t 26, .t 27, .c (.d (.int .i64 1))], none⟩, ⟨some 25, .mv (.t 28), none⟩, ⟨some 29, .ext (.t 25) 0, none⟩, ⟨some 30, .ext (.t 25) 1, none⟩, ⟨some 31, .ext (.t 25) 2, none⟩, ⟨none, .st 11 (.t 1) (.t 29), none⟩, ⟨none, .st 5 (.t 3) (.t 30), none⟩, ⟨some 6, .mv (.t 31), none⟩] [25, 26, 27, 28, 29, 30, 31])
 (.seq (.ops [] [⟨some 33, .ld true 5 (.t 3), none⟩, ⟨some 34, .call N_locker_Free [] [.t 33], none⟩, ⟨some 32, .mv (.t 34), none⟩, ⟨some 35, .ext (.t 32) 0, none⟩, ⟨some 36, .ext (.t 32) 1, none⟩, ⟨none, .st 5 (.t 3) (.t 35), none⟩, ⟨some 7, .mv (.t 36), none⟩] [32, 33, 34, 35, 36])
 (.seq (.ops [] [⟨some 37, .mv (.t 2), none⟩, ⟨some 38, .bin .eql (.t 37) (.c (.d (.int .i64 0))), none⟩, ⟨some 39, .mv (.t 38), none⟩, ⟨some 40, .mv (.t 4), some (39, true)⟩, ⟨some 41, .bin .eql (.t 40) (.c (.d (.int .i64 0))), some (39, true)⟩, ⟨some 42, .pick (.t 39) (.t 41) (.c (.d (.bool false))), none⟩, ⟨some 43, .mv (.t 42), none⟩, ⟨some 44, .mv (.t 5), some (43, true)⟩, ⟨some 45, .bin .eql (.t 44) (.c (.d (.int .i64 0))), some (43, true)⟩, ⟨some 46, .pick (.t 43) (.t 45) (.c (.d (.bool false))), none⟩, ⟨some 47, .mv (.t 46), none⟩, ⟨some 48, .mv (.t 6), some (47, true)⟩, ⟨some 49, .bin .eql (.t 48) (.c (.d (.int .i64 0))), some (47, true)⟩, ⟨some 50, .pick (.t 47) (.t 49) (.c (.d (.bool false))), none⟩, ⟨some 51, .mv (.t 50), none⟩, ⟨some 52, .mv (.t 7), some (51, true)⟩, ⟨some 53, .bin .eql (.t 52) (.c (.d (.int .i64 0))), some (51, true)⟩, ⟨some 54, .pick (.t 51) (.t 53) (.c (.d (.bool false))), none⟩, ⟨some 55, .mv (.t 54), none⟩, ⟨some 56, .fad false 1 1 (.t 3), some (55, true)⟩, ⟨some 57, .ld false 1 (.t 56), some (55, true)⟩, ⟨some 58, .bin .eql (.t 57) (.c (.d (.int .i64 4))), some (55, true)⟩, ⟨some 59, .pick (.t 55) (.t 58) (.c (.d (.bool false))), none⟩, ⟨some 60, .mv (.t 59), none⟩, ⟨some 61, .fad false 2 1 (.t 3), some (60, true)⟩, ⟨some 62, .ld false 1 (.t 61), some (60, true)⟩, ⟨some 63, .bin .eql (.t 62) (.c (.d (.int .i64 2))), some (60, true)⟩, ⟨some 64, .pick (.t 60) (.t 63) (.c (.d (.bool false))), none⟩, ⟨some 65, .mv (.t 64), none⟩, ⟨some 66, .fad false 0 1 (.t 1), some (65, true)⟩, ⟨some 67, .ld false 1 (.t 66), some (65, true)⟩, ⟨some 68, .len (.t 67), some (65, true)⟩, ⟨some 69, .bin .eql (.t 68) (.c (.d (.int .i64 3))), some (65, true)⟩, ⟨some 70, .pick (.t 65) (.t 69) (.c (.d (.bool false))), none⟩, ⟨some 71, .mv (.t 70), none⟩, ⟨some 72, .fad false 0 1 (.t 1), some (71, true)⟩, ⟨some 73, .ld false 1 (.t 72), some (71, true)⟩, ⟨some 74, .iad 9 (.t 73) (.c (.d (.int .i64 2))), some (71, true)⟩, ⟨some 75, .fad false 0 1 (.t 74), some (71, true)⟩, ⟨some 76, .ld false 1 (.t 75), some (71, true)⟩, ⟨some 77, .bin .eql (.t 76) (.c (.d (.int .i64 1))), some (71, true)⟩, ⟨some 78, .pick (.t 71) (.t 77) (.c (.d (.bool false))), none⟩, ⟨some 79, .mv (.t 78), none⟩, ⟨some 80, .fad false 0 1 (.t 1), some (79, true)⟩, ⟨some 81, .ld false 1 (.t 80), some (79, true)⟩, ⟨some 82, .iad 9 (.t 81) (.c (.d (.int .i64 1))), some (79, true)⟩, ⟨some 83, .fad false 0 1 (.t 82), some (79, true)⟩, ⟨some 84, .ld false 1 (.t 83), some (79, true)⟩, ⟨some 85, .bin .eql (.t 84) (.c (.d (.int .i64 0))), some (79, true)⟩, ⟨some 86, .pick (.t 79) (.t 85) (.c (.d (.bool false))), none⟩, ⟨some 0, .mv (.t 86), none⟩] [1, 2, 3, 4, 5, 6, 7, 37, 38, 39, 40, 41, 42, 43, 44, 45, 46, 47, 48, 49, 50, 51, 52, 53, 54, 55, 56, 57, 58, 59, 60, 61, 62, 63, 64, 65, 66, 67, 68, 69, 70, 71, 72, 73, 74, 75, 76, 77, 78, 79, 80, 81, 82, 83, 84, 85, 86])
 (.ret [0]))))))))
def r_law13_awake : List ARes := [.t 0]
def fn_law13_awake : AFn := .code c_law13_awake r_law13_awake 87 true
def c_locker_Step : ACode :=
 (.seq (.ops [] [⟨some 3, .box (.t 0), none⟩, ⟨some 4, .box (.t 1), none⟩, ⟨some 6, .alloc (.agg [.xsl [], .xsl [], .d (.int .i64 0), .d (.int .i64 0), .xsl [], .d (.int .i64 0), .xsl [], .xsl [], .d (.int .i64 0), .d (.int .i64 0), .d (.int .i64 0)]), none⟩, ⟨some 7, .alloc (.agg [.xsl [], .d (.int .i64 0), .d (.int .i64 0), .d (.int .i64 0), .d (.int .i64 0)]), none⟩, ⟨some 8, .mv (.c (.d (.int .i64 0))), none⟩] [0, 1, 8])
 (.seq (.seq (.ops [] [⟨some 9, .fad false 1 1 (.t 4), none⟩, ⟨some 10, .ld false 1 (.t 9), none⟩] [9])
 (.block 0 (.seq (.ops [] [⟨some 12, .bin .eql (.t 10) (.c (.d (.int .i64 0))), none⟩, ⟨some 11, .mv (.t 12), none⟩] [12])
 (.cond (.t 11) (.seq (.ops [] [⟨some 13, .ld true 11 (.t 3), none⟩, ⟨some 14, .ld true 5 (.t 4), none⟩, ⟨some 15, .mv (.t 2), none⟩, ⟨some 16, .call N_locker_try [] [.t 13, .t 14, .t 15], none⟩, ⟨some 17, .ext (.t 16) 0, none⟩, ⟨some 18, .ext (.t 16) 1, none⟩, ⟨some 19, .ext (.t 16) 2, none⟩, ⟨none, .st 11 (.t 6) (.t 17), none⟩, ⟨none, .st 5 (.t 7) (.t 18), none⟩, ⟨some 8, .mv (.t 19), none⟩] [2, 3, 4, 10, 11, 13, 14, 15, 16, 17, 18, 19])
 (.ret [6, 7, 8])) (.seq (.seq (.ops [] [⟨some 21, .bin .eql (.t 10) (.c (.d (.int .i64 1))), none⟩, ⟨some 20, .mv (.t 21), none⟩] [11, 21])
 (.cond (.t 20) .skip (.ops [] [⟨some 22, .bin .eql (.t 10) (.c (.d (.int .i64 4))), none⟩, ⟨some 20, .mv (.t 22), none⟩] [22])))
 (.cond (.t 20) (.seq (.ops [] [⟨some 23, .ld true 11 (.t 3), none⟩, ⟨some 24, .ld true 5 (.t 4), none⟩, ⟨some 25, .mv (.t 2), none⟩, ⟨some 26, .call N_locker_leave [] [.t 23, .t 24, .t 25], none⟩, ⟨some 27, .ext (.t 26) 0, none⟩, ⟨some 28, .ext (.t 26) 1, none⟩, ⟨some 29, .ext (.t 26) 2, none⟩, ⟨none, .st 11 (.t 6) (.t 27), none⟩, ⟨none, .st 5 (.t 7) (.t 28), none⟩, ⟨some 8, .mv (.t 29), none⟩] [2, 3, 4, 10, 20, 23, 24, 25, 26, 27, 28, 29])
 (.ret [6, 7, 8])) (.seq (.ops [] [⟨some 31, .bin .eql (.t 10) (.c (.d (.int .i64 2))), none⟩, ⟨some 30, .mv (.t 31), none⟩] [2, 10, 20, 31])
 (.cond (.t 30) (.seq (.ops [] [⟨some 32, .fad false 4 1 (.t 4), none⟩, ⟨some 33, .ld false 1 (.t 32), none⟩, ⟨some 34, .bin .sub (.t 33) (.c (.d (.int .i64 1))), none⟩, ⟨some 35, .fad false 4 1 (.t 4), none⟩, ⟨none, .st 1 (.t 35) (.t 34), none⟩] [30, 32, 33, 34, 35])
 (.seq (.seq (.ops [] [⟨some 36, .fad false 4 1 (.t 4), none⟩, ⟨some 37, .ld false 1 (.t 36), none⟩, ⟨some 38, .bin .eql (.t 37) (.c (.d (.int .i64 0))), none⟩] [36, 37])
 (.cond (.t 38) (.ops [] [⟨some 39, .fad false 1 1 (.t 4), none⟩, ⟨none, .st 1 (.t 39) (.c (.d (.int .i64 0))), none⟩] [38, 39]) .skip))
 (.seq (.draw [] [⟨some 40, .ld true 11 (.t 3), none⟩, ⟨some 41, .ld true 5 (.t 4), none⟩, ⟨none, .st 11 (.t 6) (.t 40), none⟩, ⟨none, .st 5 (.t 7) (.t 41), none⟩, ⟨some 8, .mv (.c (.d (.int .i64 0))), none⟩] [[], [0], [1], [], []] [3, 4, 38, 40, 41])
 (.ret [6, 7, 8])))) .skip))))))))
 (.seq (.ops [] [⟨some 42, .build [.xsl [], .xsl [], .d (.int .i64 0), .d (.int .i64 0), .xsl [], .d (.int .i64 0), .xsl [], .xsl [], .d (.int .i64 0), .d (.int .i64 0), .d (.int .i64 0)] [], none⟩, ⟨some 43, .build [.xsl [], .d (.int .i64 0), .d (.int .i64 0), .d (.int .i64 0), .d (.int .i64 0)] [], none⟩, ⟨none, .st 11 (.t 6) (.t 42), none⟩, ⟨none, .st 5 (.t 7) (.t 43), none⟩, ⟨some 8, .mv (.c (.d (.int .i64 7))), none⟩] [3, 4, 30, 42, 43])
 (.ret [6, 7, 8]))))
def r_locker_Step : List ARes := [.c 6 true 11, .c 7 true 5, .t 8]
def fn_locker_Step : AFn := .code c_locker_Step r_locker_Step 44 true
def c_locker_try : ACode :=
 (.seq (.ops [] [⟨some 3, .box (.t 0), none⟩, ⟨some 4, .box (.t 1), none⟩, ⟨some 6, .alloc (.agg [.xsl [], .xsl [], .d (.int .i64 0), .d (.int .i64 0), .xsl [], .d (.int .i64 0), .xsl [], .xsl [], .d (.int .i64 0), .d (.int .i64 0), .d (.int .i64 0)]), none⟩, ⟨some 7, .alloc (.agg [.xsl [], .d (.int .i64 0), .d (.int .i64 0), .d (.int .i64 0), .d (.int .i64 0)]), none⟩, ⟨some 8, .mv (.c (.d (.int .i64 0))), none⟩] [0, 1, 8])
 (.seq (.seq (.ops [] [⟨some 11, .fad false 2 1 (.t 4), none⟩, ⟨some 12, .ld false 1 (.t 11), none⟩, ⟨some 13, .bin .lss (.t 12) (.c (.d (.int .i64 0))), none⟩, ⟨some 14, .mv (.t 13), none⟩, ⟨some 15, .fad false 2 1 (.t 4), some (14, false)⟩, ⟨some 16, .ld false 1 (.t 15), some (14, false)⟩, ⟨some 17, .fad false 0 1 (.t 4), some (14, false)⟩, ⟨some 18, .ld false 1 (.t 17), some (14, false)⟩, ⟨some 19, .len (.t 18), some (14, false)⟩, ⟨some 20, .bin .geq (.t 16) (.t 19), some (14, false)⟩, ⟨some 21, .pick (.t 14) (.c (.d (.bool true))) (.t 20), none⟩] [11, 12, 13, 14, 15, 16, 17, 18, 19, 20])
 (.cond (.t 21) (.seq (.ops [] [⟨some 22, .build [.xsl [], .xsl [], .d (.int .i64 0), .d (.int .i64 0), .xsl [], .d (.int .i64 0), .xsl [], .xsl [], .d (.int .i64 0), .d (.int .i64 0), .d (.int .i64 0)] [], none⟩, ⟨some 23, .build [.xsl [], .d (.int .i64 0), .d (.int .i64 0), .d (.int .i64 0), .d (.int .i64 0)] [], none⟩, ⟨none, .st 11 (.t 6) (.t 22), none⟩, ⟨none, .st 5 (.t 7) (.t 23), none⟩, ⟨some 8, .mv (.c (.d (.int .i64 7))), none⟩] [2, 3, 4, 21, 22, 23])
 (.ret [6, 7, 8])) .skip))
 (.seq (.draw [] [⟨some 25, .ld true 11 (.t 3), none⟩, ⟨some 26, .fad false 0 1 (.t 4), none⟩, ⟨some 27, .ld false 1 (.t 26), none⟩, ⟨some 28, .fad false 2 1 (.t 4), none⟩, ⟨some 29, .ld false 1 (.t 28), none⟩, ⟨some 30, .iad 1 (.t 27) (.t 29), none⟩, ⟨some 31, .ld false 1 (.t 30), none⟩, ⟨some 32, .mv (.t 2), none⟩, ⟨some 33, .call N_arena_TryLock [] [.t 25, .t 31, .t 32], none⟩, ⟨some 24, .mv (.t 33), none⟩, ⟨some 34, .ext (.t 24) 0, none⟩, ⟨some 35, .ext (.t 24) 1, none⟩, ⟨some 36, .ext (.t 24) 2, none⟩, ⟨none, .st 11 (.t 3) (.t 34), none⟩, ⟨some 9, .mv (.t 35), none⟩, ⟨some 10, .mv (.t 36), none⟩] [[], [0], [0], [0, 1, 2], [0, 1, 2], [0], [0], [0, 1, 2, 3, 4, 5, 6], [], [], [], [10], [10, 11], [11, 12], [12], []] [2, 21, 24, 25, 26, 27, 28, 29, 30, 31, 32, 33, 34, 35, 36])
 (.seq (.seq (.ops [] [⟨some 37, .mv (.t 10), none⟩, ⟨some 38, .bin .neq (.t 37) (.c (.d (.int .i64 0))), none⟩] [37])
 (.cond (.t 38) (.seq (.ops [] [⟨some 39, .build [.xsl [], .xsl [], .d (.int .i64 0), .d (.int .i64 0), .xsl [], .d (.int .i64 0), .xsl [], .xsl [], .d (.int .i64 0), .d (.int .i64 0), .d (.int .i64 0)] [], none⟩, ⟨some 40, .build [.xsl [], .d (.int .i64 0), .d (.int .i64 0), .d (.int .i64 0), .d (.int .i64 0)] [], none⟩, ⟨some 41, .mv (.t 10), none⟩, ⟨none, .st 11 (.t 6) (.t 39), none⟩, ⟨none, .st 5 (.t 7) (.t 40), none⟩, ⟨some 8, .mv (.t 41), none⟩] [3, 4, 9, 10, 38, 39, 40, 41])
 (.ret [6, 7, 8])) .skip))
 (.seq (.block 0 (.seq (.ops [] [⟨some 43, .mv (.t 9), none⟩, ⟨some 42, .mv (.t 43), none⟩] [9, 10, 38, 43])
 (.cond (.t 42) (.seq (.ops [] [⟨some 44, .fad false 2 1 (.t 4), none⟩, ⟨some 45, .ld false 1 (.t 44), none⟩, ⟨some 46, .bin .add (.t 45) (.c (.d (.int .i64 1))), none⟩, ⟨some 47, .fad false 2 1 (.t 4), none⟩, ⟨none, .st 1 (.t 47) (.t 46), none⟩] [42, 44, 45, 46, 47])
 (.seq (.ops [] [⟨some 48, .fad false 2 1 (.t 4), none⟩, ⟨some 49, .ld false 1 (.t 48), none⟩, ⟨some 50, .fad false 0 1 (.t 4), none⟩, ⟨some 51, .ld false 1 (.t 50), none⟩, ⟨some 52, .len (.t 51), none⟩, ⟨some 53, .bin .eql (.t 49) (.t 52), none⟩] [48, 49, 50, 51, 52])
 (.cond (.t 53) (.ops [] [⟨some 54, .fad false 1 1 (.t 4), none⟩, ⟨none, .st 1 (.t 54) (.c (.d (.int .i64 3))), none⟩] [53, 54]) .skip))) (.seq (.ops [] [⟨some 56, .fad false 2 1 (.t 4), none⟩, ⟨some 57, .ld false 1 (.t 56), none⟩, ⟨some 58, .bin .gtr (.t 57) (.c (.d (.int .i64 0))), none⟩, ⟨some 55, .mv (.t 58), none⟩] [42, 56, 57, 58])
 (.cond (.t 55) (.ops [] [⟨some 59, .fad false 1 1 (.t 4), none⟩, ⟨none, .st 1 (.t 59) (.c (.d (.int .i64 1))), none⟩] [55, 59]) .skip)))))
 (.seq (.draw [] [⟨some 60, .ld true 11 (.t 3), none⟩, ⟨some 61, .ld true 5 (.t 4), none⟩, ⟨none, .st 11 (.t 6) (.t 60), none⟩, ⟨none, .st 5 (.t 7) (.t 61), none⟩, ⟨some 8, .mv (.c (.d (.int .i64 0))), none⟩] [[], [0], [1], [], []] [3, 4, 53, 55, 60, 61])
 (.ret [6, 7, 8])))))))
def r_locker_try : List ARes := [.c 6 true 11, .c 7 true 5, .t 8]
def fn_locker_try : AFn := .code c_locker_try r_locker_try 62 true
def c_locker_leave : ACode :=
 (.seq (.ops [] [⟨some 3, .box (.t 0), none⟩, ⟨some 4, .box (.t 1), none⟩, ⟨some 6, .alloc (.agg [.xsl [], .xsl [], .d (.int .i64 0), .d (.int .i64 0), .xsl [], .d (.int .i64 0), .xsl [], .xsl [], .d (.int .i64 0), .d (.int .i64 0), .d (.int .i64 0)]), none⟩, ⟨some 7, .alloc (.agg [.xsl [], .d (.int .i64 0), .d (.int .i64 0), .d (.int .i64 0), .d (.int .i64 0)]), none⟩, ⟨some 8, .mv (.c (.d (.int .i64 0))), none⟩] [0, 1, 8])
 (.seq (.seq (.ops [] [⟨some 10, .fad false 2 1 (.t 4), none⟩, ⟨some 11, .ld false 1 (.t 10), none⟩, ⟨some 12, .bin .lss (.t 11) (.c (.d (.int .i64 1))), none⟩, ⟨some 13, .mv (.t 12), none⟩, ⟨some 14, .fad false 2 1 (.t 4), some (13, false)⟩, ⟨some 15, .ld false 1 (.t 14), some (13, false)⟩, ⟨some 16, .fad false 0 1 (.t 4), some (13, false)⟩, ⟨some 17, .ld false 1 (.t 16), some (13, false)⟩, ⟨some 18, .len (.t 17), some (13, false)⟩, ⟨some 19, .bin .gtr (.t 15) (.t 18), some (13, false)⟩, ⟨some 20, .pick (.t 13) (.c (.d (.bool true))) (.t 19), none⟩] [10, 11, 12, 13, 14, 15, 16, 17, 18, 19])
 (.cond (.t 20) (.seq (.ops [] [⟨some 21, .build [.xsl [], .xsl [], .d (.int .i64 0), .d (.int .i64 0), .xsl [], .d (.int .i64 0), .xsl [], .xsl [], .d (.int .i64 0), .d (.int .i64 0), .d (.int .i64 0)] [], none⟩, ⟨some 22, .build [.xsl [], .d (.int .i64 0), .d (.int .i64 0), .d (.int .i64 0), .d (.int .i64 0)] [], none⟩, ⟨none, .st 11 (.t 6) (.t 21), none⟩, ⟨none, .st 5 (.t 7) (.t 22), none⟩, ⟨some 8, .mv (.c (.d (.int .i64 7))), none⟩] [2, 3, 4, 20, 21, 22])
 (.ret [6, 7, 8])) .skip))
 (.seq (.draw [] [⟨some 24, .ld true 11 (.t 3), none⟩, ⟨some 25, .fad false 0 1 (.t 4), none⟩, ⟨some 26, .ld false 1 (.t 25), none⟩, ⟨some 27, .fad false 2 1 (.t 4), none⟩, ⟨some 28, .ld false 1 (.t 27), none⟩, ⟨some 29, .bin .sub (.t 28) (.c (.d (.int .i64 1))), none⟩, ⟨some 30, .iad 1 (.t 26) (.t 29), none⟩, ⟨some 31, .ld false 1 (.t 30), none⟩, ⟨some 32, .mv (.t 2), none⟩, ⟨some 33, .call N_arena_Unlock [] [.t 24, .t 31, .t 32], none⟩, ⟨some 23, .mv (.t 33), none⟩, ⟨some 34, .ext (.t 23) 0, none⟩, ⟨some 35, .ext (.t 23) 1, none⟩, ⟨none, .st 11 (.t 3) (.t 34), none⟩, ⟨some 9, .mv (.t 35), none⟩] [[], [0], [0], [0, 1, 2], [0, 1, 2], [0, 1, 2], [0], [0], [0, 1, 2, 3, 4, 5, 6, 7], [], [], [], [11], [12], []] [2, 20, 23, 24, 25, 26, 27, 28, 29, 30, 31, 32, 33, 34, 35])
 (.seq (.seq (.ops [] [⟨some 36, .mv (.t 9), none⟩, ⟨some 37, .bin .neq (.t 36) (.c (.d (.int .i64 0))), none⟩] [36])
 (.cond (.t 37) (.seq (.ops [] [⟨some 38, .build [.xsl [], .xsl [], .d (.int .i64 0), .d (.int .i64 0), .xsl [], .d (.int .i64 0), .xsl [], .xsl [], .d (.int .i64 0), .d (.int .i64 0), .d (.int .i64 0)] [], none⟩, ⟨some 39, .build [.xsl [], .d (.int .i64 0), .d (.int .i64 0), .d (.int .i64 0), .d (.int .i64 0)] [], none⟩, ⟨some 40, .mv (.t 9), none⟩, ⟨none, .st 11 (.t 6) (.t 38), none⟩, ⟨none, .st 5 (.t 7) (.t 39), none⟩, ⟨some 8, .mv (.t 40), none⟩] [3, 4, 9, 37, 38, 39, 40])
 (.ret [6, 7, 8])) .skip))
 (.seq (.ops [] [⟨some 41, .fad false 2 1 (.t 4), none⟩, ⟨some 42, .ld false 1 (.t 41), none⟩, ⟨some 43, .bin .sub (.t 42) (.c (.d (.int .i64 1))), none⟩, ⟨some 44, .fad false 2 1 (.t 4), none⟩, ⟨none, .st 1 (.t 44) (.t 43), none⟩] [9, 37, 41, 42, 43, 44])
 (.seq (.block 0 (.seq (.ops [] [⟨some 55, .fad false 2 1 (.t 4), none⟩, ⟨some 56, .ld false 1 (.t 55), none⟩, ⟨some 57, .bin .gtr (.t 56) (.c (.d (.int .i64 0))), none⟩, ⟨some 54, .mv (.t 57), none⟩] [55, 56, 57])
 (.cond (.t 54) .skip (.seq (.ops [] [⟨some 59, .fad false 1 1 (.t 4), none⟩, ⟨some 60, .ld false 1 (.t 59), none⟩, ⟨some 61, .bin .eql (.t 60) (.c (.d (.int .i64 4))), none⟩, ⟨some 58, .mv (.t 61), none⟩] [54, 59, 60, 61])
 (.cond (.t 58) (.ops [] [⟨some 62, .fad false 1 1 (.t 4), none⟩, ⟨none, .st 1 (.t 62) (.c (.d (.int .i64 5))), none⟩] [58, 62]) (.seq (.ops [] [⟨some 45, .fad false 3 1 (.t 4), none⟩, ⟨some 46, .ld false 1 (.t 45), none⟩, ⟨some 47, .bin .add (.t 46) (.c (.d (.int .i64 1))), none⟩, ⟨some 48, .fad false 3 1 (.t 4), none⟩, ⟨none, .st 1 (.t 48) (.t 47), none⟩] [45, 46, 47, 48, 58])
 (.seq (.ops [] [⟨some 49, .fad false 3 1 (.t 4), none⟩, ⟨some 50, .ld false 1 (.t 49), none⟩, ⟨some 51, .mm false [.t 50, .c (.d (.int .i64 3))], none⟩, ⟨some 52, .fad false 4 1 (.t 4), none⟩, ⟨none, .st 1 (.t 52) (.t 51), none⟩] [49, 50, 51, 52])
 (.ops [] [⟨some 53, .fad false 1 1 (.t 4), none⟩, ⟨none, .st 1 (.t 53) (.c (.d (.int .i64 2))), none⟩] [53]))))))))
 (.seq (.draw [] [⟨some 63, .ld true 11 (.t 3), none⟩, ⟨some 64, .ld true 5 (.t 4), none⟩, ⟨none, .st 11 (.t 6) (.t 63), none⟩, ⟨none, .st 5 (.t 7) (.t 64), none⟩, ⟨some 8, .mv (.c (.d (.int .i64 0))), none⟩] [[], [0], [1], [], []] [3, 4, 54, 63, 64])
 (.ret [6, 7, 8]))))))))
def r_locker_leave : List ARes := [.c 6 true 11, .c 7 true 5, .t 8]
def fn_locker_leave : AFn := .code c_locker_leave r_locker_leave 65 true
def c_arena_Unlock : ACode :=
 (.seq (.ops [] [⟨some 3, .box (.t 0), none⟩, ⟨some 6, .alloc (.agg [.xsl [], .xsl [], .d (.int .i64 0), .d (.int .i64 0), .xsl [], .d (.int .i64 0), .xsl [], .xsl [], .d (.int .i64 0), .d (.int .i64 0), .d (.int .i64 0)]), none⟩, ⟨some 7, .mv (.c (.d (.int .i64 0))), none⟩] [0, 7])
 (.seq (.ops [] [⟨some 11, .ld true 11 (.t 3), none⟩, ⟨some 12, .mv (.t 1), none⟩, ⟨some 13, .call N_arena_owner [] [.t 11, .t 12], none⟩, ⟨some 10, .mv (.t 13), none⟩, ⟨some 14, .ext (.t 10) 0, none⟩, ⟨some 15, .ext (.t 10) 1, none⟩, ⟨some 8, .mv (.t 14), none⟩, ⟨some 9, .mv (.t 15), none⟩] [10, 11, 12, 13, 14, 15])
 (.seq (.block 0 (.seq (.ops [] [⟨some 17, .mv (.t 9), none⟩, ⟨some 18, .un .not (.t 17), none⟩, ⟨some 19, .mv (.t 18), none⟩, ⟨some 20, .mv (.t 2), some (19, false)⟩, ⟨some 21, .call N_arena_isTask [] [.t 20], some (19, false)⟩, ⟨some 22, .un .not (.t 21), some (19, false)⟩, ⟨some 23, .pick (.t 19) (.c (.d (.bool true))) (.t 22), none⟩, ⟨some 16, .mv (.t 23), none⟩] [9, 17, 18, 19, 20, 21, 22, 23])
 (.cond (.t 16) (.seq (.ops [] [⟨some 24, .build [.xsl [], .xsl [], .d (.int .i64 0), .d (.int .i64 0), .xsl [], .d (.int .i64 0), .xsl [], .xsl [], .d (.int .i64 0), .d (.int .i64 0), .d (.int .i64 0)] [], none⟩, ⟨none, .st 11 (.t 6) (.t 24), none⟩, ⟨some 7, .mv (.c (.d (.int .i64 1))), none⟩] [1, 2, 3, 8, 16, 24])
 (.ret [6, 7])) (.seq (.ops [] [⟨some 26, .mv (.t 8), none⟩, ⟨some 27, .mv (.t 2), none⟩, ⟨some 28, .bin .neq (.t 26) (.t 27), none⟩, ⟨some 25, .mv (.t 28), none⟩] [2, 8, 16, 26, 27, 28])
 (.cond (.t 25) (.seq (.ops [] [⟨some 29, .build [.xsl [], .xsl [], .d (.int .i64 0), .d (.int .i64 0), .xsl [], .d (.int .i64 0), .xsl [], .xsl [], .d (.int .i64 0), .d (.int .i64 0), .d (.int .i64 0)] [], none⟩, ⟨none, .st 11 (.t 6) (.t 29), none⟩, ⟨some 7, .mv (.c (.d (.int .i64 13))), none⟩] [1, 3, 25, 29])
 (.ret [6, 7])) .skip)))))
 (.seq (.ops [] [⟨some 30, .ld true 11 (.t 3), none⟩, ⟨some 31, .mv (.t 1), none⟩, ⟨some 32, .call N_arena_give [] [.t 30, .t 31, .c (.d (.int .i64 0))], none⟩, ⟨none, .st 11 (.t 6) (.t 32), none⟩, ⟨some 7, .mv (.c (.d (.int .i64 0))), none⟩] [1, 3, 25, 30, 31, 32])
 (.ret [6, 7])))))
def r_arena_Unlock : List ARes := [.c 6 true 11, .t 7]
def fn_arena_Unlock : AFn := .code c_arena_Unlock r_arena_Unlock 33 true
def c_locker_Free : ACode :=
 (.seq (.ops [] [⟨some 1, .box (.t 0), none⟩, ⟨some 2, .alloc (.agg [.xsl [], .d (.int .i64 0), .d (.int .i64 0), .d (.int .i64 0), .d (.int .i64 0)]), none⟩, ⟨some 3, .mv (.c (.d (.int .i64 0))), none⟩] [0, 3])
 (.seq (.seq (.ops [] [⟨some 4, .fad false 1 1 (.t 1), none⟩, ⟨some 5, .ld false 1 (.t 4), none⟩, ⟨some 6, .bin .neq (.t 5) (.c (.d (.int .i64 3))), none⟩] [4, 5])
 (.cond (.t 6) (.seq (.ops [] [⟨some 7, .build [.xsl [], .d (.int .i64 0), .d (.int .i64 0), .d (.int .i64 0), .d (.int .i64 0)] [], none⟩, ⟨none, .st 5 (.t 2) (.t 7), none⟩, ⟨some 3, .mv (.c (.d (.int .i64 7))), none⟩] [1, 6, 7])
 (.ret [2, 3])) .skip))
 (.seq (.ops [] [⟨some 8, .fad false 1 1 (.t 1), none⟩, ⟨none, .st 1 (.t 8) (.c (.d (.int .i64 4))), none⟩] [6, 8])
 (.seq (.ops [] [⟨some 9, .ld true 5 (.t 1), none⟩, ⟨none, .st 5 (.t 2) (.t 9), none⟩, ⟨some 3, .mv (.c (.d (.int .i64 0))), none⟩] [1, 9])
 (.ret [2, 3])))))
def r_locker_Free : List ARes := [.c 2 true 5, .t 3]
def fn_locker_Free : AFn := .code c_locker_Free r_locker_Free 10 true
def l_law13_LockerScript_0 : ACode :=
 (.seq (.seq (.ops [] [⟨some 38, .mv (.t 9), none⟩, ⟨some 39, .bin .lss (.t 38) (.c (.d (.int .i64 3))), none⟩] [38])
 (.cond (.t 39) .skip (.exit 0 [3, 4, 6, 7, 8])))
 (.seq (.block 1 (.seq (.ops [] [⟨some 42, .mv (.t 3), none⟩, ⟨some 43, .fad false 0 1 (.t 4), none⟩, ⟨some 44, .ld false 1 (.t 43), none⟩, ⟨some 45, .len (.t 44), none⟩, ⟨some 46, .call N_law13_some [true, false] [.t 42, .t 45], none⟩, ⟨some 10, .mv (.t 46), none⟩] [39, 42, 43, 44, 45, 46])
 (.seq (.ops [] [⟨some 48, .mv (.t 10), none⟩, ⟨some 49, .call N_locker_New [] [.t 48], none⟩, ⟨some 47, .mv (.t 49), none⟩, ⟨some 50, .ext (.t 47) 0, none⟩, ⟨some 51, .ext (.t 47) 1, none⟩, ⟨some 11, .alloc (.agg [.xsl [], .d (.int .i64 0), .d (.int .i64 0), .d (.int .i64 0), .d (.int .i64 0)]), none⟩, ⟨none, .st 5 (.t 11) (.t 50), none⟩, ⟨some 12, .mv (.t 51), none⟩] [47, 48, 49, 50, 51])
 (.seq (.ops [] [⟨some 53, .mv (.t 10), none⟩, ⟨some 54, .call N_ref13_New [] [.t 53], none⟩, ⟨some 52, .mv (.t 54), none⟩, ⟨some 55, .ext (.t 52) 0, none⟩, ⟨some 56, .ext (.t 52) 1, none⟩, ⟨some 13, .alloc (.agg [.xsl [], .d (.int .i64 0), .d (.int .i64 0), .d (.int .i64 0), .d (.int .i64 0)]), none⟩, ⟨none, .st 5 (.t 13) (.t 55), none⟩, ⟨some 14, .mv (.t 56), none⟩] [10, 52, 53, 54, 55, 56])
 (.seq (.seq (.ops [] [⟨some 57, .mv (.t 12), none⟩, ⟨some 58, .bin .neq (.t 57) (.c (.d (.int .i64 0))), none⟩, ⟨some 59, .mv (.t 58), none⟩, ⟨some 60, .mv (.t 14), some (59, false)⟩, ⟨some 61, .bin .neq (.t 60) (.c (.d (.int .i64 0))), some (59, false)⟩, ⟨some 62, .pick (.t 59) (.c (.d (.bool true))) (.t 61), none⟩, ⟨some 63, .mv (.t 62), none⟩, ⟨some 64, .ld true 5 (.t 11), some (63, false)⟩, ⟨some 65, .ld true 5 (.t 13), some (63, false)⟩, ⟨some 66, .call N_ref13_Same [] [.t 64, .t 65], some (63, false)⟩, ⟨some 67, .un .not (.t 66), some (63, false)⟩, ⟨some 68, .pick (.t 63) (.c (.d (.bool true))) (.t 67), none⟩] [12, 14, 57, 58, 59, 60, 61, 62, 63, 64, 65, 66, 67])
 (.cond (.t 68) (.seq (.ops [] [⟨some 2, .mv (.c (.d (.bool false))), none⟩] [3, 4, 6, 7, 8, 9, 11, 13, 68])
 (.ret [2])) .skip))
 (.draw [] [⟨some 69, .mv (.t 7), none⟩, ⟨some 70, .ld true 5 (.t 11), none⟩, ⟨some 71, .bsl 1 5 (.agg [.xsl [], .d (.int .i64 0), .d (.int .i64 0), .d (.int .i64 0), .d (.int .i64 0)]) [(0, .t 70)], none⟩, ⟨some 72, .app 5 (.t 69) (.t 71), none⟩, ⟨some 73, .mv (.t 8), none⟩, ⟨some 74, .ld true 5 (.t 13), none⟩, ⟨some 75, .bsl 1 5 (.agg [.xsl [], .d (.int .i64 0), .d (.int .i64 0), .d (.int .i64 0), .d (.int .i64 0)]) [(0, .t 74)], none⟩, ⟨some 76, .app 5 (.t 73) (.t 75), none⟩, ⟨some 7, .mv (.t 72), none⟩, ⟨some 8, .mv (.t 76), none⟩] [[], [0], [0], [], [0, 1, 2, 3], [0, 1, 2, 3, 4], [0, 1, 2, 3, 4], [], [], []] [11, 13, 68, 69, 70, 71, 72, 73, 74, 75, 76]))))))
 (.ops [] [⟨some 40, .mv (.t 9), none⟩, ⟨some 41, .bin .add (.t 40) (.c (.d (.int .i64 1))), none⟩, ⟨some 9, .mv (.t 41), none⟩] [40, 41])))
def l_law13_LockerScript_1 : ACode :=
 (.seq (.seq (.ops [] [⟨some 77, .mv (.t 15), none⟩, ⟨some 78, .bin .lss (.t 77) (.c (.d (.int .i64 60))), none⟩, ⟨some 79, .mv (.t 78), none⟩, ⟨some 80, .mv (.t 15), some (79, true)⟩, ⟨some 81, .bin .lss (.t 80) (.c (.d (.int .i64 6))), some (79, true)⟩, ⟨some 82, .mv (.t 81), some (79, true)⟩, ⟨some 83, .mv (.t 3), some (82, false)⟩, ⟨some 84, .call N_base_Src_More [] [.t 83], some (82, false)⟩, ⟨some 85, .pick (.t 82) (.c (.d (.bool true))) (.t 84), some (79, true)⟩, ⟨some 86, .pick (.t 79) (.t 85) (.c (.d (.bool false))), none⟩] [77, 78, 79, 80, 81, 82, 83, 84, 85])
 (.cond (.t 86) .skip (.exit 2 [])))
 (.seq (.block 3 (.seq (.ops [] [⟨some 89, .mv (.t 3), none⟩, ⟨some 90, .call N_base_Src_N [true, false] [.t 89, .c (.d (.int .i64 3))], none⟩, ⟨some 16, .mv (.t 90), none⟩] [86, 89, 90])
 (.seq (.seq (.ops [] [⟨some 91, .mv (.t 3), none⟩, ⟨some 92, .call N_base_Src_N [true, false] [.t 91, .c (.d (.int .i64 3))], none⟩, ⟨some 93, .bin .eql (.t 92) (.c (.d (.int .i64 0))), none⟩] [91, 92])
 (.cond (.t 93) (.seq (.ops [] [⟨some 95, .mv (.t 7), none⟩, ⟨some 96, .mv (.t 16), none⟩, ⟨some 97, .iad 5 (.t 95) (.t 96), none⟩, ⟨some 98, .ld true 5 (.t 97), none⟩, ⟨some 99, .call N_locker_Free [] [.t 98], none⟩, ⟨some 94, .mv (.t 99), none⟩, ⟨some 100, .ext (.t 94) 0, none⟩, ⟨some 101, .ext (.t 94) 1, none⟩, ⟨some 17, .alloc (.agg [.xsl [], .d (.int .i64 0), .d (.int .i64 0), .d (.int .i64 0), .d (.int .i64 0)]), none⟩, ⟨none, .st 5 (.t 17) (.t 100), none⟩, ⟨some 18, .mv (.t 101), none⟩] [93, 94, 95, 96, 97, 98, 99, 100, 101])
 (.seq (.ops [] [⟨some 103, .mv (.t 8), none⟩, ⟨some 104, .mv (.t 16), none⟩, ⟨some 105, .iad 5 (.t 103) (.t 104), none⟩, ⟨some 106, .ld true 5 (.t 105), none⟩, ⟨some 107, .call N_ref13_Free [] [.t 106], none⟩, ⟨some 102, .mv (.t 107), none⟩, ⟨some 108, .ext (.t 102) 0, none⟩, ⟨some 109, .ext (.t 102) 1, none⟩, ⟨some 19, .alloc (.agg [.xsl [], .d (.int .i64 0), .d (.int .i64 0), .d (.int .i64 0), .d (.int .i64 0)]), none⟩, ⟨none, .st 5 (.t 19) (.t 108), none⟩, ⟨some 20, .mv (.t 109), none⟩] [102, 103, 104, 105, 106, 107, 108, 109])
 (.seq (.seq (.ops [] [⟨some 110, .mv (.t 18), none⟩, ⟨some 111, .mv (.t 20), none⟩, ⟨some 112, .bin .neq (.t 110) (.t 111), none⟩, ⟨some 113, .mv (.t 112), none⟩, ⟨some 114, .ld true 5 (.t 17), some (113, false)⟩, ⟨some 115, .ld true 5 (.t 19), some (113, false)⟩, ⟨some 116, .call N_ref13_Same [] [.t 114, .t 115], some (113, false)⟩, ⟨some 117, .un .not (.t 116), some (113, false)⟩, ⟨some 118, .pick (.t 113) (.c (.d (.bool true))) (.t 117), none⟩] [18, 110, 111, 112, 113, 114, 115, 116, 117])
 (.cond (.t 118) (.seq (.ops [] [⟨some 2, .mv (.c (.d (.bool false))), none⟩] [3, 4, 6, 7, 8, 15, 16, 17, 19, 20, 118])
 (.ret [2])) .skip))
 (.seq (.seq (.ops [] [⟨some 119, .mv (.t 20), none⟩, ⟨some 120, .bin .eql (.t 119) (.c (.d (.int .i64 0))), none⟩] [20, 118, 119])
 (.cond (.t 120) (.draw [] [⟨some 121, .mv (.t 7), none⟩, ⟨some 122, .mv (.t 16), none⟩, ⟨some 123, .mv (.t 8), none⟩, ⟨some 124, .mv (.t 16), none⟩, ⟨some 125, .ld true 5 (.t 17), none⟩, ⟨some 126, .ld true 5 (.t 19), none⟩, ⟨some 127, .iad 5 (.t 121) (.t 122), none⟩, ⟨none, .st 5 (.t 127) (.t 125), none⟩, ⟨some 128, .iad 5 (.t 123) (.t 124), none⟩, ⟨none, .st 5 (.t 128) (.t 126), none⟩] [[], [0], [0, 1], [0, 1, 2], [0, 1, 2, 3], [0, 1, 2, 3, 4], [2, 3, 5], [2, 3, 5], [], []] [16, 17, 19, 120, 121, 122, 123, 124, 125, 126, 127, 128]) .skip))
 (.exit 3 [3, 4, 6, 7, 8, 15]))))) .skip))
 (.seq (.draw [] [⟨some 130, .ld true 11 (.t 4), none⟩, ⟨some 131, .mv (.t 7), none⟩, ⟨some 132, .mv (.t 16), none⟩, ⟨some 133, .iad 5 (.t 131) (.t 132), none⟩, ⟨some 134, .ld true 5 (.t 133), none⟩, ⟨some 135, .mv (.t 16), none⟩, ⟨some 136, .bin .add (.t 135) (.c (.d (.int .i64 1))), none⟩, ⟨some 137, .call N_locker_Step [] [.t 130, .t 134, .t 136], none⟩, ⟨some 129, .mv (.t 137), none⟩, ⟨some 138, .ext (.t 129) 0, none⟩, ⟨some 139, .ext (.t 129) 1, none⟩, ⟨some 140, .ext (.t 129) 2, none⟩, ⟨some 21, .alloc (.agg [.xsl [], .xsl [], .d (.int .i64 0), .d (.int .i64 0), .xsl [], .d (.int .i64 0), .xsl [], .xsl [], .d (.int .i64 0), .d (.int .i64 0), .d (.int .i64 0)]), none⟩, ⟨some 22, .alloc (.agg [.xsl [], .d (.int .i64 0), .d (.int .i64 0), .d (.int .i64 0), .d (.int .i64 0)]), none⟩, ⟨none, .st 11 (.t 21) (.t 138), none⟩, ⟨none, .st 5 (.t 22) (.t 139), none⟩, ⟨some 23, .mv (.t 140), none⟩] [[], [0], [0, 1], [0], [0], [0, 1, 2, 3, 4], [0, 1, 2, 3, 4], [], [], [], [9], [9, 10], [0, 1, 2, 3, 4, 5, 6, 7, 8, 9, 10, 11], [0, 1, 2, 3, 4, 5, 6, 7, 8, 9, 10, 11, 12], [10, 11], [11], []] [93, 129, 130, 131, 132, 133, 134, 135, 136, 137, 138, 139, 140])
 (.seq (.draw [] [⟨some 142, .ld true 11 (.t 6), none⟩, ⟨some 143, .mv (.t 8), none⟩, ⟨some 144, .mv (.t 16), none⟩, ⟨some 145, .iad 5 (.t 143) (.t 144), none⟩, ⟨some 146, .ld true 5 (.t 145), none⟩, ⟨some 147, .mv (.t 16), none⟩, ⟨some 148, .bin .add (.t 147) (.c (.d (.int .i64 1))), none⟩, ⟨some 149, .call N_ref13_Step [] [.t 142, .t 146, .t 148], none⟩, ⟨some 141, .mv (.t 149), none⟩, ⟨some 150, .ext (.t 141) 0, none⟩, ⟨some 151, .ext (.t 141) 1, none⟩, ⟨some 152, .ext (.t 141) 2, none⟩, ⟨some 24, .alloc (.agg [.xsl [], .xsl [], .d (.int .i64 0), .d (.int .i64 0), .xsl [], .d (.int .i64 0), .xsl [], .xsl [], .d (.int .i64 0), .d (.int .i64 0), .d (.int .i64 0)]), none⟩, ⟨some 25, .alloc (.agg [.xsl [], .d (.int .i64 0), .d (.int .i64 0), .d (.int .i64 0), .d (.int .i64 0)]), none⟩, ⟨none, .st 11 (.t 24) (.t 150), none⟩, ⟨none, .st 5 (.t 25) (.t 151), none⟩, ⟨some 26, .mv (.t 152), none⟩] [[], [0], [0, 1], [0], [0], [0, 1, 2, 3, 4], [0, 1, 2, 3, 4], [], [], [], [9], [9, 10], [0, 1, 2, 3, 4, 5, 6, 7, 8, 9, 10, 11], [0, 1, 2, 3, 4, 5, 6, 7, 8, 9, 10, 11, 12], [10, 11], [11], []] [141, 142, 143, 144, 145, 146, 147, 148, 149, 150, 151, 152])
 (.seq (.seq (.ops [] [⟨some 153, .mv (.t 23), none⟩, ⟨some 154, .mv (.t 26), none⟩, ⟨some 155, .bin .neq (.t 153) (.t 154), none⟩, ⟨some 156, .mv (.t 155), none⟩, ⟨some 157, .ld true 5 (.t 22), some (156, false)⟩, ⟨some 158, .ld true 5 (.t 25), some (156, false)⟩, ⟨some 159, .call N_ref13_Same [] [.t 157, .t 158], some (156, false)⟩, ⟨some 160, .un .not (.t 159), some (156, false)⟩, ⟨some 161, .pick (.t 156) (.c (.d (.bool true))) (.t 160), none⟩, ⟨some 162, .mv (.t 161), none⟩, ⟨some 163, .ld true 11 (.t 21), some (162, false)⟩, ⟨some 164, .ld true 11 (.t 24), some (162, false)⟩, ⟨some 165, .call N_ref12_Same [] [.t 163, .t 164], some (162, false)⟩, ⟨some 166, .un .not (.t 165), some (162, false)⟩, ⟨some 167, .pick (.t 162) (.c (.d (.bool true))) (.t 166), none⟩] [23, 153, 154, 155, 156, 157, 158, 159, 160, 161, 162, 163, 164, 165, 166])
 (.cond (.t 167) (.seq (.ops [] [⟨some 2, .mv (.c (.d (.bool false))), none⟩] [3, 4, 6, 7, 8, 15, 16, 21, 22, 24, 25, 26, 167])
 (.ret [2])) .skip))
 (.seq (.ops [] [⟨some 168, .mv (.t 26), none⟩, ⟨some 169, .bin .eql (.t 168) (.c (.d (.int .i64 0))), none⟩] [26, 167, 168])
 (.cond (.t 169) (.draw [] [⟨some 170, .mv (.t 7), none⟩, ⟨some 171, .mv (.t 16), none⟩, ⟨some 172, .mv (.t 8), none⟩, ⟨some 173, .mv (.t 16), none⟩, ⟨some 174, .ld true 11 (.t 21), none⟩, ⟨some 175, .ld true 11 (.t 24), none⟩, ⟨some 176, .ld true 5 (.t 22), none⟩, ⟨some 177, .ld true 5 (.t 25), none⟩, ⟨none, .st 11 (.t 4) (.t 174), none⟩, ⟨none, .st 11 (.t 6) (.t 175), none⟩, ⟨some 178, .iad 5 (.t 170) (.t 171), none⟩, ⟨none, .st 5 (.t 178) (.t 176), none⟩, ⟨some 179, .iad 5 (.t 172) (.t 173), none⟩, ⟨none, .st 5 (.t 179) (.t 177), none⟩] [[], [0], [0, 1], [0, 1, 2], [0, 1, 2, 3], [0, 1, 2, 3, 4], [0, 1, 2, 3, 4, 5], [0, 1, 2, 3, 4, 5, 6], [0, 1, 2, 3, 5, 6, 7], [0, 1, 2, 3, 6, 7], [2, 3, 7], [2, 3, 7], [], []] [16, 21, 22, 24, 25, 169, 170, 171, 172, 173, 174, 175, 176, 177, 178, 179]) .skip))))))))
 (.ops [] [⟨some 87, .mv (.t 15), none⟩, ⟨some 88, .bin .add (.t 87) (.c (.d (.int .i64 1))), none⟩, ⟨some 15, .mv (.t 88), none⟩] [16, 17, 19, 21, 22, 24, 25, 87, 88, 120, 169])))
def c_law13_LockerScript : ACode :=
 (.seq (.ops [] [⟨some 2, .mv (.c (.d (.bool false))), none⟩] [2])
 (.seq (.ops [] [⟨some 27, .mv (.t 0), none⟩, ⟨some 28, .call N_base_New [] [.t 27], none⟩, ⟨some 3, .mv (.t 28), none⟩] [0, 27, 28])
 (.seq (.ops [] [⟨some 30, .mv (.t 3), none⟩, ⟨some 31, .call N_base_Src_Setup [true] [.t 30], none⟩, ⟨some 32, .call N_arena_New [] [.t 31], none⟩, ⟨some 29, .mv (.t 32), none⟩, ⟨some 33, .ext (.t 29) 0, none⟩, ⟨some 34, .ext (.t 29) 1, none⟩, ⟨some 4, .alloc (.agg [.xsl [], .xsl [], .d (.int .i64 0), .d (.int .i64 0), .xsl [], .d (.int .i64 0), .xsl [], .xsl [], .d (.int .i64 0), .d (.int .i64 0), .d (.int .i64 0)]), none⟩, ⟨none, .st 11 (.t 4) (.t 33), none⟩, ⟨some 5, .mv (.t 34), none⟩] [29, 30, 31, 32, 33, 34])
 (.seq (.seq (.ops [] [⟨some 35, .mv (.t 5), none⟩, ⟨some 36, .bin .neq (.t 35) (.c (.d (.int .i64 0))), none⟩] [5, 35])
 (.cond (.t 36) (.seq (.ops [] [⟨some 2, .mv (.c (.d (.bool false))), none⟩] [3, 4, 36])
 (.ret [2])) .skip))
 (.seq (.ops [] [⟨some 37, .ld true 11 (.t 4), none⟩, ⟨some 6, .alloc (.agg [.xsl [], .xsl [], .d (.int .i64 0), .d (.int .i64 0), .xsl [], .d (.int .i64 0), .xsl [], .xsl [], .d (.int .i64 0), .d (.int .i64 0), .d (.int .i64 0)]), none⟩, ⟨none, .st 11 (.t 6) (.t 37), none⟩] [36, 37])
 (.seq (.ops [] [⟨some 7, .nacc, none⟩, ⟨some 8, .nacc, none⟩] [])
 (.seq (.seq (.ops [] [⟨some 9, .mv (.c (.d (.int .i64 0))), none⟩] [])
 (.block 0 (.loop [] l_law13_LockerScript_0)))
 (.seq (.seq (.ops [14, 16] [⟨some 15, .mv (.c (.d (.int .i64 0))), none⟩] [9, 39])
 (.block 2 (.loop [] l_law13_LockerScript_1)))
 (.seq (.ops [] [⟨some 180, .call N_law13_awake [] [], none⟩, ⟨some 2, .mv (.t 180), none⟩] [3, 4, 6, 7, 8, 15, 86, 180])
 (.ret [2]))))))))))
def r_law13_LockerScript : List ARes := [.t 2]
def fn_law13_LockerScript : AFn := .code c_law13_LockerScript r_law13_LockerScript 181 true
def l_law13_some_0 : ACode :=
 (.seq (.seq (.ops [] [⟨some 7, .mv (.t 6), none⟩, ⟨some 8, .mv (.t 1), none⟩, ⟨some 9, .bin .leq (.t 7) (.t 8), none⟩, ⟨some 10, .mv (.t 9), none⟩, ⟨some 11, .mv (.t 5), some (10, true)⟩, ⟨some 12, .len (.t 11), some (10, true)⟩, ⟨some 13, .bin .lss (.t 12) (.c (.d (.int .i64 3))), some (10, true)⟩, ⟨some 14, .pick (.t 10) (.t 13) (.c (.d (.bool false))), none⟩] [7, 8, 9, 10, 11, 12, 13])
 (.cond (.t 14) .skip (.exit 0 [0, 1, 5])))
 (.seq (.block 1 (.seq (.ops [] [⟨some 17, .mv (.t 0), none⟩, ⟨some 18, .call N_base_Src_N [true, false] [.t 17, .c (.d (.int .i64 2))], none⟩, ⟨some 19, .bin .eql (.t 18) (.c (.d (.int .i64 0))), none⟩] [14, 17, 18])
 (.cond (.t 19) (.ops [] [⟨some 20, .mv (.t 5), none⟩, ⟨some 21, .mv (.t 6), none⟩, ⟨some 22, .bsl 1 1 (.d (.int .i64 0)) [(0, .t 21)], none⟩, ⟨some 23, .app 1 (.t 20) (.t 22), none⟩, ⟨some 5, .mv (.t 23), none⟩] [19, 20, 21, 22, 23]) .skip)))
 (.ops [] [⟨some 15, .mv (.t 6), none⟩, ⟨some 16, .bin .add (.t 15) (.c (.d (.int .i64 1))), none⟩, ⟨some 6, .mv (.t 16), none⟩] [15, 16, 19])))
def c_law13_some : ACode :=
 (.seq (.ops [] [⟨some 4, .mv (.c (.xsl [])), none⟩] [4])
 (.seq (.ops [] [⟨some 5, .nacc, none⟩] [])
 (.seq (.seq (.ops [] [⟨some 6, .mv (.c (.d (.int .i64 0))), none⟩] [])
 (.block 0 (.loop [] l_law13_some_0)))
 (.seq (.seq (.ops [] [⟨some 24, .mv (.t 5), none⟩, ⟨some 25, .len (.t 24), none⟩, ⟨some 26, .bin .eql (.t 25) (.c (.d (.int .i64 0))), none⟩] [6, 14, 24, 25])
 (.cond (.t 26) (.ops [] [⟨some 27, .mv (.t 5), none⟩, ⟨some 28, .mv (.t 0), none⟩, ⟨some 29, .mv (.t 1), none⟩, ⟨some 30, .bin .add (.t 29) (.c (.d (.int .i64 1))), none⟩, ⟨some 31, .call N_base_Src_N [true, false] [.t 28, .t 30], none⟩, ⟨some 32, .bsl 1 1 (.d (.int .i64 0)) [(0, .t 31)], none⟩, ⟨some 33, .app 1 (.t 27) (.t 32), none⟩, ⟨some 5, .mv (.t 33), none⟩] [0, 1, 26, 27, 28, 29, 30, 31, 32, 33]) .skip))
 (.seq (.ops [] [⟨some 34, .mv (.t 5), none⟩, ⟨some 4, .mv (.t 34), none⟩] [0, 1, 5, 26, 34])
 (.ret [4]))))))
def r_law13_some : List ARes := [.t 4]
def fn_law13_some : AFn := .code c_law13_some r_law13_some 35 true
def c_base_Src_More : ACode :=
 (.seq (.ops [] [⟨some 2, .mv (.c (.d (.bool false))), none⟩] [2])
 (.seq (.draw [] [⟨some 3, .mv (.t 0), none⟩, ⟨some 4, .nilc (.t 3), none⟩, ⟨some 5, .fad false 1 1 (.t 4), none⟩, ⟨some 6, .ld false 1 (.t 5), none⟩, ⟨some 7, .mv (.t 0), none⟩, ⟨some 8, .nilc (.t 7), none⟩, ⟨some 9, .fad false 0 1 (.t 8), none⟩, ⟨some 10, .ld false 1 (.t 9), none⟩, ⟨some 11, .len (.t 10), none⟩, ⟨some 12, .bin .lss (.t 6) (.t 11), none⟩, ⟨some 2, .mv (.t 12), none⟩] [[], [], [], [], [0, 1, 2, 3], [0, 1, 2, 3], [0, 1, 2, 3], [0, 1, 2, 3], [0, 1, 2, 3], [], []] [0, 3, 4, 5, 6, 7, 8, 9, 10, 11, 12])
 (.ret [2])))
def r_base_Src_More : List ARes := [.t 2]
def fn_base_Src_More : AFn := .code c_base_Src_More r_base_Src_More 13 true
def c_ref13_Free : ACode :=
 (.seq (.ops [] [⟨some 1, .box (.t 0), none⟩, ⟨some 2, .alloc (.agg [.xsl [], .d (.int .i64 0), .d (.int .i64 0), .d (.int .i64 0), .d (.int .i64 0)]), none⟩, ⟨some 3, .mv (.c (.d (.int .i64 0))), none⟩] [0, 3])
 (.seq (.seq (.ops [] [⟨some 4, .fad false 1 1 (.t 1), none⟩, ⟨some 5, .ld false 1 (.t 4), none⟩, ⟨some 6, .bin .neq (.t 5) (.c (.d (.int .i64 3))), none⟩] [4, 5])
 (.cond (.t 6) (.seq (.ops [] [⟨some 7, .build [.xsl [], .d (.int .i64 0), .d (.int .i64 0), .d (.int .i64 0), .d (.int .i64 0)] [], none⟩, ⟨none, .st 5 (.t 2) (.t 7), none⟩, ⟨some 3, .mv (.c (.d (.int .i64 7))), none⟩] [1, 6, 7])
 (.ret [2, 3])) .skip))
 (.seq (.ops [] [⟨some 8, .fad false 1 1 (.t 1), none⟩, ⟨none, .st 1 (.t 8) (.c (.d (.int .i64 4))), none⟩] [6, 8])
 (.seq (.ops [] [⟨some 9, .ld true 5 (.t 1), none⟩, ⟨none, .st 5 (.t 2) (.t 9), none⟩, ⟨some 3, .mv (.c (.d (.int .i64 0))), none⟩] [1, 9])
 (.ret [2, 3])))))
def r_ref13_Free : List ARes := [.c 2 true 5, .t 3]
def fn_ref13_Free : AFn := .code c_ref13_Free r_ref13_Free 10 true
def c_ref13_Step : ACode :=
 (.seq (.ops [] [⟨some 3, .box (.t 0), none⟩, ⟨some 4, .box (.t 1), none⟩, ⟨some 6, .alloc (.agg [.xsl [], .xsl [], .d (.int .i64 0), .d (.int .i64 0), .xsl [], .d (.int .i64 0), .xsl [], .xsl [], .d (.int .i64 0), .d (.int .i64 0), .d (.int .i64 0)]), none⟩, ⟨some 7, .alloc (.agg [.xsl [], .d (.int .i64 0), .d (.int .i64 0), .d (.int .i64 0), .d (.int .i64 0)]), none⟩, ⟨some 8, .mv (.c (.d (.int .i64 0))), none⟩] [0, 1, 8])
 (.seq (.seq (.ops [] [⟨some 14, .fad false 1 1 (.t 4), none⟩, ⟨some 15, .ld false 1 (.t 14), none⟩] [14])
 (.block 0 (.seq (.ops [] [⟨some 17, .bin .eql (.t 15) (.c (.d (.int .i64 0))), none⟩, ⟨some 16, .mv (.t 17), none⟩] [17])
 (.cond (.t 16) (.seq (.draw [] [⟨some 19, .ld true 11 (.t 3), none⟩, ⟨some 20, .fad false 0 1 (.t 4), none⟩, ⟨some 21, .ld false 1 (.t 20), none⟩, ⟨some 22, .fad false 2 1 (.t 4), none⟩, ⟨some 23, .ld false 1 (.t 22), none⟩, ⟨some 24, .iad 1 (.t 21) (.t 23), none⟩, ⟨some 25, .ld false 1 (.t 24), none⟩, ⟨some 26, .mv (.t 2), none⟩, ⟨some 27, .call N_ref12_TryLock [] [.t 19, .t 25, .t 26], none⟩, ⟨some 18, .mv (.t 27), none⟩, ⟨some 28, .ext (.t 18) 0, none⟩, ⟨some 29, .ext (.t 18) 1, none⟩, ⟨some 30, .ext (.t 18) 2, none⟩, ⟨some 9, .alloc (.agg [.xsl [], .xsl [], .d (.int .i64 0), .d (.int .i64 0), .xsl [], .d (.int .i64 0), .xsl [], .xsl [], .d (.int .i64 0), .d (.int .i64 0), .d (.int .i64 0)]), none⟩, ⟨none, .st 11 (.t 9) (.t 28), none⟩, ⟨some 10, .mv (.t 29), none⟩, ⟨some 11, .mv (.t 30), none⟩] [[], [0], [0], [0, 1, 2], [0, 1, 2], [0], [0], [0, 1, 2, 3, 4, 5, 6], [], [], [], [10], [10, 11], [0, 1, 2, 3, 4, 5, 6, 7, 8, 9, 10, 11, 12], [11, 12], [12], []] [2, 3, 15, 16, 18, 19, 20, 21, 22, 23, 24, 25, 26, 27, 28, 29, 30])
 (.seq (.seq (.ops [] [⟨some 31, .mv (.t 11), none⟩, ⟨some 32, .bin .neq (.t 31) (.c (.d (.int .i64 0))), none⟩] [31])
 (.cond (.t 32) (.seq (.ops [] [⟨some 33, .build [.xsl [], .xsl [], .d (.int .i64 0), .d (.int .i64 0), .xsl [], .d (.int .i64 0), .xsl [], .xsl [], .d (.int .i64 0), .d (.int .i64 0), .d (.int .i64 0)] [], none⟩, ⟨some 34, .build [.xsl [], .d (.int .i64 0), .d (.int .i64 0), .d (.int .i64 0), .d (.int .i64 0)] [], none⟩, ⟨some 35, .mv (.t 11), none⟩, ⟨none, .st 11 (.t 6) (.t 33), none⟩, ⟨none, .st 5 (.t 7) (.t 34), none⟩, ⟨some 8, .mv (.t 35), none⟩] [4, 9, 10, 11, 32, 33, 34, 35])
 (.ret [6, 7, 8])) .skip))
 (.seq (.block 1 (.seq (.ops [] [⟨some 37, .mv (.t 10), none⟩, ⟨some 36, .mv (.t 37), none⟩] [10, 11, 32, 37])
 (.cond (.t 36) (.seq (.ops [] [⟨some 38, .fad false 2 1 (.t 4), none⟩, ⟨some 39, .ld false 1 (.t 38), none⟩, ⟨some 40, .bin .add (.t 39) (.c (.d (.int .i64 1))), none⟩, ⟨some 41, .fad false 2 1 (.t 4), none⟩, ⟨none, .st 1 (.t 41) (.t 40), none⟩] [36, 38, 39, 40, 41])
 (.seq (.ops [] [⟨some 42, .fad false 2 1 (.t 4), none⟩, ⟨some 43, .ld false 1 (.t 42), none⟩, ⟨some 44, .fad false 0 1 (.t 4), none⟩, ⟨some 45, .ld false 1 (.t 44), none⟩, ⟨some 46, .len (.t 45), none⟩, ⟨some 47, .bin .eql (.t 43) (.t 46), none⟩] [42, 43, 44, 45, 46])
 (.cond (.t 47) (.ops [] [⟨some 48, .fad false 1 1 (.t 4), none⟩, ⟨none, .st 1 (.t 48) (.c (.d (.int .i64 3))), none⟩] [47, 48]) .skip))) (.seq (.ops [] [⟨some 50, .fad false 2 1 (.t 4), none⟩, ⟨some 51, .ld false 1 (.t 50), none⟩, ⟨some 52, .bin .gtr (.t 51) (.c (.d (.int .i64 0))), none⟩, ⟨some 49, .mv (.t 52), none⟩] [36, 50, 51, 52])
 (.cond (.t 49) (.ops [] [⟨some 53, .fad false 1 1 (.t 4), none⟩, ⟨none, .st 1 (.t 53) (.c (.d (.int .i64 1))), none⟩] [49, 53]) .skip)))))
 (.seq (.draw [] [⟨some 54, .ld true 11 (.t 9), none⟩, ⟨some 55, .ld true 5 (.t 4), none⟩, ⟨none, .st 11 (.t 6) (.t 54), none⟩, ⟨none, .st 5 (.t 7) (.t 55), none⟩, ⟨some 8, .mv (.c (.d (.int .i64 0))), none⟩] [[], [0], [1], [], []] [4, 9, 47, 49, 54, 55])
 (.ret [6, 7, 8]))))) (.seq (.seq (.ops [] [⟨some 57, .bin .eql (.t 15) (.c (.d (.int .i64 1))), none⟩, ⟨some 56, .mv (.t 57), none⟩] [16, 57])
 (.cond (.t 56) .skip (.ops [] [⟨some 58, .bin .eql (.t 15) (.c (.d (.int .i64 4))), none⟩, ⟨some 56, .mv (.t 58), none⟩] [58])))
 (.cond (.t 56) (.seq (.draw [] [⟨some 60, .ld true 11 (.t 3), none⟩, ⟨some 61, .fad false 0 1 (.t 4), none⟩, ⟨some 62, .ld false 1 (.t 61), none⟩, ⟨some 63, .fad false 2 1 (.t 4), none⟩, ⟨some 64, .ld false 1 (.t 63), none⟩, ⟨some 65, .bin .sub (.t 64) (.c (.d (.int .i64 1))), none⟩, ⟨some 66, .iad 1 (.t 62) (.t 65), none⟩, ⟨some 67, .ld false 1 (.t 66), none⟩, ⟨some 68, .mv (.t 2), none⟩, ⟨some 69, .call N_ref12_Unlock [] [.t 60, .t 67, .t 68], none⟩, ⟨some 59, .mv (.t 69), none⟩, ⟨some 70, .ext (.t 59) 0, none⟩, ⟨some 71, .ext (.t 59) 1, none⟩, ⟨some 12, .alloc (.agg [.xsl [], .xsl [], .d (.int .i64 0), .d (.int .i64 0), .xsl [], .d (.int .i64 0), .xsl [], .xsl [], .d (.int .i64 0), .d (.int .i64 0), .d (.int .i64 0)]), none⟩, ⟨none, .st 11 (.t 12) (.t 70), none⟩, ⟨some 13, .mv (.t 71), none⟩] [[], [0], [0], [0, 1, 2], [0, 1, 2], [0, 1, 2], [0], [0], [0, 1, 2, 3, 4, 5, 6, 7], [], [], [], [11], [0, 1, 2, 3, 4, 5, 6, 7, 8, 9, 10, 11, 12], [12], []] [2, 3, 15, 56, 59, 60, 61, 62, 63, 64, 65, 66, 67, 68, 69, 70, 71])
 (.seq (.seq (.ops [] [⟨some 72, .mv (.t 13), none⟩, ⟨some 73, .bin .neq (.t 72) (.c (.d (.int .i64 0))), none⟩] [72])
 (.cond (.t 73) (.seq (.ops [] [⟨some 74, .build [.xsl [], .xsl [], .d (.int .i64 0), .d (.int .i64 0), .xsl [], .d (.int .i64 0), .xsl [], .xsl [], .d (.int .i64 0), .d (.int .i64 0), .d (.int .i64 0)] [], none⟩, ⟨some 75, .build [.xsl [], .d (.int .i64 0), .d (.int .i64 0), .d (.int .i64 0), .d (.int .i64 0)] [], none⟩, ⟨some 76, .mv (.t 13), none⟩, ⟨none, .st 11 (.t 6) (.t 74), none⟩, ⟨none, .st 5 (.t 7) (.t 75), none⟩, ⟨some 8, .mv (.t 76), none⟩] [4, 12, 13, 73, 74, 75, 76])
 (.ret [6, 7, 8])) .skip))
 (.seq (.ops [] [⟨some 77, .fad false 2 1 (.t 4), none⟩, ⟨some 78, .ld false 1 (.t 77), none⟩, ⟨some 79, .bin .sub (.t 78) (.c (.d (.int .i64 1))), none⟩, ⟨some 80, .fad false 2 1 (.t 4), none⟩, ⟨none, .st 1 (.t 80) (.t 79), none⟩] [13, 73, 77, 78, 79, 80])
 (.seq (.block 2 (.seq (.ops [] [⟨some 91, .fad false 2 1 (.t 4), none⟩, ⟨some 92, .ld false 1 (.t 91), none⟩, ⟨some 93, .bin .gtr (.t 92) (.c (.d (.int .i64 0))), none⟩, ⟨some 90, .mv (.t 93), none⟩] [91, 92, 93])
 (.cond (.t 90) .skip (.seq (.ops [] [⟨some 95, .fad false 1 1 (.t 4), none⟩, ⟨some 96, .ld false 1 (.t 95), none⟩, ⟨some 97, .bin .eql (.t 96) (.c (.d (.int .i64 4))), none⟩, ⟨some 94, .mv (.t 97), none⟩] [90, 95, 96, 97])
 (.cond (.t 94) (.ops [] [⟨some 98, .fad false 1 1 (.t 4), none⟩, ⟨none, .st 1 (.t 98) (.c (.d (.int .i64 5))), none⟩] [94, 98]) (.seq (.ops [] [⟨some 81, .fad false 3 1 (.t 4), none⟩, ⟨some 82, .ld false 1 (.t 81), none⟩, ⟨some 83, .bin .add (.t 82) (.c (.d (.int .i64 1))), none⟩, ⟨some 84, .fad false 3 1 (.t 4), none⟩, ⟨none, .st 1 (.t 84) (.t 83), none⟩] [81, 82, 83, 84, 94])
 (.seq (.ops [] [⟨some 85, .fad false 3 1 (.t 4), none⟩, ⟨some 86, .ld false 1 (.t 85), none⟩, ⟨some 87, .mm false [.t 86, .c (.d (.int .i64 3))], none⟩, ⟨some 88, .fad false 4 1 (.t 4), none⟩, ⟨none, .st 1 (.t 88) (.t 87), none⟩] [85, 86, 87, 88])
 (.ops [] [⟨some 89, .fad false 1 1 (.t 4), none⟩, ⟨none, .st 1 (.t 89) (.c (.d (.int .i64 2))), none⟩] [89]))))))))
 (.seq (.draw [] [⟨some 99, .ld true 11 (.t 12), none⟩, ⟨some 100, .ld true 5 (.t 4), none⟩, ⟨none, .st 11 (.t 6) (.t 99), none⟩, ⟨none, .st 5 (.t 7) (.t 100), none⟩, ⟨some 8, .mv (.c (.d (.int .i64 0))), none⟩] [[], [0], [1], [], []] [4, 12, 90, 99, 100])
 (.ret [6, 7, 8])))))) (.seq (.ops [] [⟨some 102, .bin .eql (.t 15) (.c (.d (.int .i64 2))), none⟩, ⟨some 101, .mv (.t 102), none⟩] [2, 15, 56, 102])
 (.cond (.t 101) (.seq (.ops [] [⟨some 103, .fad false 4 1 (.t 4), none⟩, ⟨some 104, .ld false 1 (.t 103), none⟩, ⟨some 105, .bin .sub (.t 104) (.c (.d (.int .i64 1))), none⟩, ⟨some 106, .fad false 4 1 (.t 4), none⟩, ⟨none, .st 1 (.t 106) (.t 105), none⟩] [101, 103, 104, 105, 106])
 (.seq (.seq (.ops [] [⟨some 107, .fad false 4 1 (.t 4), none⟩, ⟨some 108, .ld false 1 (.t 107), none⟩, ⟨some 109, .bin .eql (.t 108) (.c (.d (.int .i64 0))), none⟩] [107, 108])
 (.cond (.t 109) (.ops [] [⟨some 110, .fad false 1 1 (.t 4), none⟩, ⟨none, .st 1 (.t 110) (.c (.d (.int .i64 0))), none⟩] [109, 110]) .skip))
 (.seq (.draw [] [⟨some 111, .ld true 11 (.t 3), none⟩, ⟨some 112, .ld true 5 (.t 4), none⟩, ⟨none, .st 11 (.t 6) (.t 111), none⟩, ⟨none, .st 5 (.t 7) (.t 112), none⟩, ⟨some 8, .mv (.c (.d (.int .i64 0))), none⟩] [[], [0], [1], [], []] [3, 4, 109, 111, 112])
 (.ret [6, 7, 8])))) .skip))))))))
 (.seq (.ops [] [⟨some 113, .build [.xsl [], .xsl [], .d (.int .i64 0), .d (.int .i64 0), .xsl [], .d (.int .i64 0), .xsl [], .xsl [], .d (.int .i64 0), .d (.int .i64 0), .d (.int .i64 0)] [], none⟩, ⟨some 114, .build [.xsl [], .d (.int .i64 0), .d (.int .i64 0), .d (.int .i64 0), .d (.int .i64 0)] [], none⟩, ⟨none, .st 11 (.t 6) (.t 113), none⟩, ⟨none, .st 5 (.t 7) (.t 114), none⟩, ⟨some 8, .mv (.c (.d (.int .i64 7))), none⟩] [3, 4, 101, 113, 114])
 (.ret [6, 7, 8]))))
def r_ref13_Step : List ARes := [.c 6 true 11, .c 7 true 5, .t 8]
def fn_ref13_Step : AFn := .code c_ref13_Step r_ref13_Step 115 true
def c_ref12_TryLock : ACode :=
 (.seq (.ops [] [⟨some 3, .box (.t 0), none⟩, ⟨some 6, .alloc (.agg [.xsl [], .xsl [], .d (.int .i64 0), .d (.int .i64 0), .xsl [], .d (.int .i64 0), .xsl [], .xsl [], .d (.int .i64 0), .d (.int .i64 0), .d (.int .i64 0)]), none⟩, ⟨some 7, .mv (.c (.d (.bool false))), none⟩, ⟨some 8, .mv (.c (.d (.int .i64 0))), none⟩] [0, 7, 8])
 (.seq (.seq (.ops [] [⟨some 9, .mv (.t 1), none⟩, ⟨some 10, .bin .lss (.t 9) (.c (.d (.int .i64 0))), none⟩, ⟨some 11, .mv (.t 10), none⟩, ⟨some 12, .mv (.t 1), some (11, false)⟩, ⟨some 13, .fad false 0 1 (.t 3), some (11, false)⟩, ⟨some 14, .ld false 1 (.t 13), some (11, false)⟩, ⟨some 15, .len (.t 14), some (11, false)⟩, ⟨some 16, .bin .gtr (.t 12) (.t 15), some (11, false)⟩, ⟨some 17, .pick (.t 11) (.c (.d (.bool true))) (.t 16), none⟩, ⟨some 18, .mv (.t 17), none⟩, ⟨some 19, .mv (.t 2), some (18, false)⟩, ⟨some 20, .call N_ref12_task [] [.t 19], some (18, false)⟩, ⟨some 21, .un .not (.t 20), some (18, false)⟩, ⟨some 22, .pick (.t 18) (.c (.d (.bool true))) (.t 21), none⟩] [9, 10, 11, 12, 13, 14, 15, 16, 17, 18, 19, 20, 21])
 (.cond (.t 22) (.seq (.ops [] [⟨some 23, .build [.xsl [], .xsl [], .d (.int .i64 0), .d (.int .i64 0), .xsl [], .d (.int .i64 0), .xsl [], .xsl [], .d (.int .i64 0), .d (.int .i64 0), .d (.int .i64 0)] [], none⟩, ⟨none, .st 11 (.t 6) (.t 23), none⟩, ⟨some 7, .mv (.c (.d (.bool false))), none⟩, ⟨some 8, .mv (.c (.d (.int .i64 1))), none⟩] [1, 2, 3, 22, 23])
 (.ret [6, 7, 8])) .skip))
 (.seq (.seq (.ops [] [⟨some 24, .ld true 11 (.t 3), none⟩, ⟨some 25, .mv (.t 1), none⟩, ⟨some 26, .call N_ref12_Owner [] [.t 24, .t 25], none⟩, ⟨some 27, .bin .neq (.t 26) (.c (.d (.int .i64 0))), none⟩] [22, 24, 25, 26])
 (.cond (.t 27) (.seq (.ops [] [⟨some 28, .ld true 11 (.t 3), none⟩, ⟨none, .st 11 (.t 6) (.t 28), none⟩, ⟨some 7, .mv (.c (.d (.bool false))), none⟩, ⟨some 8, .mv (.c (.d (.int .i64 0))), none⟩] [1, 2, 3, 27, 28])
 (.ret [6, 7, 8])) .skip))
 (.seq (.ops [] [⟨some 29, .ld true 11 (.t 3), none⟩, ⟨some 30, .mv (.t 1), none⟩, ⟨some 31, .mv (.t 2), none⟩, ⟨some 32, .call N_ref12_own [] [.t 29, .t 30, .t 31], none⟩, ⟨none, .st 11 (.t 6) (.t 32), none⟩, ⟨some 7, .mv (.c (.d (.bool true))), none⟩, ⟨some 8, .mv (.c (.d (.int .i64 0))), none⟩] [1, 2, 3, 27, 29, 30, 31, 32])
 (.ret [6, 7, 8])))))
def r_ref12_TryLock : List ARes := [.c 6 true 11, .t 7, .t 8]
def fn_ref12_TryLock : AFn := .code c_ref12_TryLock r_ref12_TryLock 33 true
def c_ref12_task : ACode :=
 (.seq (.ops [] [⟨some 2, .mv (.c (.d (.bool false))), none⟩] [2])
 (.seq (.ops [] [⟨some 3, .mv (.t 0), none⟩, ⟨some 4, .bin .geq (.t 3) (.c (.d (.int .i64 1))), none⟩, ⟨some 5, .mv (.t 4), none⟩, ⟨some 6, .mv (.t 0), some (5, true)⟩, ⟨some 7, .bin .leq (.t 6) (.c (.d (.int .i64 200))), some (5, true)⟩, ⟨some 8, .pick (.t 5) (.t 7) (.c (.d (.bool false))), none⟩, ⟨some 2, .mv (.t 8), none⟩] [0, 3, 4, 5, 6, 7, 8])
 (.ret [2])))
def r_ref12_task : List ARes := [.t 2]
def fn_ref12_task : AFn := .code c_ref12_task r_ref12_task 9 true
def c_ref12_Owner : ACode :=
 (.seq (.ops [] [⟨some 2, .box (.t 0), none⟩, ⟨some 4, .mv (.c (.d (.int .i64 0))), none⟩] [0, 4])
 (.seq (.seq (.ops [] [⟨some 5, .mv (.t 1), none⟩, ⟨some 6, .fad false 0 1 (.t 2), none⟩, ⟨some 7, .ld false 1 (.t 6), none⟩, ⟨some 8, .len (.t 7), none⟩, ⟨some 9, .bin .eql (.t 5) (.t 8), none⟩] [5, 6, 7, 8])
 (.cond (.t 9) (.seq (.ops [] [⟨some 10, .fad true 2 3 (.t 2), none⟩, ⟨some 11, .fad false 0 1 (.t 10), none⟩, ⟨some 12, .ld false 1 (.t 11), none⟩, ⟨some 4, .mv (.t 12), none⟩] [1, 2, 9, 10, 11, 12])
 (.ret [4])) .skip))
 (.seq (.ops [] [⟨some 13, .fad false 0 1 (.t 2), none⟩, ⟨some 14, .ld false 1 (.t 13), none⟩, ⟨some 15, .mv (.t 1), none⟩, ⟨some 16, .iad 9 (.t 14) (.t 15), none⟩, ⟨some 17, .fad false 0 1 (.t 16), none⟩, ⟨some 18, .ld false 1 (.t 17), none⟩, ⟨some 4, .mv (.t 18), none⟩] [1, 2, 9, 13, 14, 15, 16, 17, 18])
 (.ret [4]))))
def r_ref12_Owner : List ARes := [.t 4]
def fn_ref12_Owner : AFn := .code c_ref12_Owner r_ref12_Owner 19 true
def c_ref12_own : ACode :=
 (.seq (.ops [] [⟨some 3, .box (.t 0), none⟩, ⟨some 6, .alloc (.agg [.xsl [], .xsl [], .d (.int .i64 0), .d (.int .i64 0), .xsl [], .d (.int .i64 0), .xsl [], .xsl [], .d (.int .i64 0), .d (.int .i64 0), .d (.int .i64 0)]), none⟩] [0])
 (.seq (.seq (.ops [] [⟨some 7, .mv (.t 1), none⟩, ⟨some 8, .fad false 0 1 (.t 3), none⟩, ⟨some 9, .ld false 1 (.t 8), none⟩, ⟨some 10, .len (.t 9), none⟩, ⟨some 11, .bin .eql (.t 7) (.t 10), none⟩] [7, 8, 9, 10])
 (.cond (.t 11) (.seq (.ops [] [⟨some 12, .mv (.t 2), none⟩, ⟨some 13, .fad true 2 3 (.t 3), none⟩, ⟨some 14, .fad false 0 1 (.t 13), none⟩, ⟨none, .st 1 (.t 14) (.t 12), none⟩] [1, 2, 11, 12, 13, 14])
 (.seq (.ops [] [⟨some 15, .ld true 11 (.t 3), none⟩, ⟨none, .st 11 (.t 6) (.t 15), none⟩] [3, 15])
 (.ret [6]))) .skip))
 (.seq (.ops [] [⟨some 16, .fad false 0 1 (.t 3), none⟩, ⟨some 17, .ld false 1 (.t 16), none⟩, ⟨some 18, .app 9 (.c (.xsl [])) (.t 17), none⟩, ⟨some 19, .fad false 0 1 (.t 3), none⟩, ⟨none, .st 1 (.t 19) (.t 18), none⟩] [11, 16, 17, 18, 19])
 (.seq (.ops [36] [⟨some 20, .fad false 0 1 (.t 3), none⟩, ⟨some 21, .ld false 1 (.t 20), none⟩, ⟨some 22, .mv (.t 1), none⟩, ⟨some 23, .mv (.t 2), none⟩, ⟨some 24, .iad 9 (.t 21) (.t 22), none⟩, ⟨some 25, .fad false 0 1 (.t 24), none⟩, ⟨none, .st 1 (.t 25) (.t 23), none⟩] [1, 2, 20, 21, 22, 23, 24, 25])
 (.seq (.ops [] [⟨some 26, .ld true 11 (.t 3), none⟩, ⟨none, .st 11 (.t 6) (.t 26), none⟩] [3, 26])
 (.ret [6]))))))
def r_ref12_own : List ARes := [.c 6 true 11]
def fn_ref12_own : AFn := .code c_ref12_own r_ref12_own 27 true
def c_ref12_Unlock : ACode :=
 (.seq (.ops [] [⟨some 3, .box (.t 0), none⟩, ⟨some 6, .alloc (.agg [.xsl [], .xsl [], .d (.int .i64 0), .d (.int .i64 0), .xsl [], .d (.int .i64 0), .xsl [], .xsl [], .d (.int .i64 0), .d (.int .i64 0), .d (.int .i64 0)]), none⟩, ⟨some 7, .mv (.c (.d (.int .i64 0))), none⟩] [0, 7])
 (.seq (.seq (.ops [] [⟨some 8, .mv (.t 1), none⟩, ⟨some 9, .bin .lss (.t 8) (.c (.d (.int .i64 0))), none⟩, ⟨some 10, .mv (.t 9), none⟩, ⟨some 11, .mv (.t 1), some (10, false)⟩, ⟨some 12, .fad false 0 1 (.t 3), some (10, false)⟩, ⟨some 13, .ld false 1 (.t 12), some (10, false)⟩, ⟨some 14, .len (.t 13), some (10, false)⟩, ⟨some 15, .bin .gtr (.t 11) (.t 14), some (10, false)⟩, ⟨some 16, .pick (.t 10) (.c (.d (.bool true))) (.t 15), none⟩, ⟨some 17, .mv (.t 16), none⟩, ⟨some 18, .mv (.t 2), some (17, false)⟩, ⟨some 19, .call N_ref12_task [] [.t 18], some (17, false)⟩, ⟨some 20, .un .not (.t 19), some (17, false)⟩, ⟨some 21, .pick (.t 17) (.c (.d (.bool true))) (.t 20), none⟩] [8, 9, 10, 11, 12, 13, 14, 15, 16, 17, 18, 19, 20])
 (.cond (.t 21) (.seq (.ops [] [⟨some 22, .build [.xsl [], .xsl [], .d (.int .i64 0), .d (.int .i64 0), .xsl [], .d (.int .i64 0), .xsl [], .xsl [], .d (.int .i64 0), .d (.int .i64 0), .d (.int .i64 0)] [], none⟩, ⟨none, .st 11 (.t 6) (.t 22), none⟩, ⟨some 7, .mv (.c (.d (.int .i64 1))), none⟩] [1, 2, 3, 21, 22])
 (.ret [6, 7])) .skip))
 (.seq (.seq (.ops [] [⟨some 23, .ld true 11 (.t 3), none⟩, ⟨some 24, .mv (.t 1), none⟩, ⟨some 25, .call N_ref12_Owner [] [.t 23, .t 24], none⟩, ⟨some 26, .mv (.t 2), none⟩, ⟨some 27, .bin .neq (.t 25) (.t 26), none⟩] [2, 21, 23, 24, 25, 26])
 (.cond (.t 27) (.seq (.ops [] [⟨some 28, .build [.xsl [], .xsl [], .d (.int .i64 0), .d (.int .i64 0), .xsl [], .d (.int .i64 0), .xsl [], .xsl [], .d (.int .i64 0), .d (.int .i64 0), .d (.int .i64 0)] [], none⟩, ⟨none, .st 11 (.t 6) (.t 28), none⟩, ⟨some 7, .mv (.c (.d (.int .i64 13))), none⟩] [1, 3, 27, 28])
 (.ret [6, 7])) .skip))
 (.seq (.ops [] [⟨some 29, .ld true 11 (.t 3), none⟩, ⟨some 30, .mv (.t 1), none⟩, ⟨some 31, .call N_ref12_own [] [.t 29, .t 30, .c (.d (.int .i64 0))], none⟩, ⟨none, .st 11 (.t 6) (.t 31), none⟩, ⟨some 7, .mv (.c (.d (.int .i64 0))), none⟩] [1, 3, 27, 29, 30, 31])
 (.ret [6, 7])))))
def r_ref12_Unlock : List ARes := [.c 6 true 11, .t 7]
def fn_ref12_Unlock : AFn := .code c_ref12_Unlock r_ref12_Unlock 32 true
end Go.Proofs.Ytkdjbfjohbiemaa
