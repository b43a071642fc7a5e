/-
  Functions of the program, as the calculus has them.
-/
import Derived.Test.YtibkpphblgfmbaaGreatBaff6f05
set_option linter.unusedSimpArgs false
set_option linter.unusedVariables false
namespace Go.Proofs.YtibkpphblgfmbaaGreat
open Go Go.Sim
def l_law06_LeaseBuilt_0 : ACode :=
 (.seq (.seq (.ops [] [⟨some 10, .mv (.t 5), none⟩, ⟨some 11, .bin .lss (.t 10) (.c (.d (.int .i64 4))), none⟩] [10])
 (.cond (.t 11) .skip (.exit 0 [3, 4])))
 (.seq (.block 1 (.seq (.draw [] [⟨some 14, .ld true 2 (.t 4), none⟩, ⟨some 15, .mv (.t 3), none⟩, ⟨some 16, .mv (.t 3), none⟩, ⟨some 17, .call N_base_Src_Range [true, false, false] [.t 16, .c (.d (.int .i64 1)), .c (.d (.int .i64 20))], none⟩, ⟨some 18, .call N_base_Src_Odd [true, false, false, false] [.t 15, .t 17, .c (.d (.int .i64 0)), .c (.d (.int .i64 65535))], none⟩, ⟨some 19, .mv (.t 3), none⟩, ⟨some 20, .call N_base_Src_Range [true, false, false] [.t 19, .c (.d (.int .i64 0)), .c (.d (.int .i64 25))], none⟩, ⟨some 21, .mv (.t 3), none⟩, ⟨some 22, .bsl 6 1 (.d (.int .i64 0)) [(0, .c (.d (.int .i64 (-1)))), (1, .c (.d (.int .i64 0))), (2, .c (.d (.int .i64 7))), (3, .c (.d (.int .i64 20))), (4, .c (.d (.int .i64 1073741824))), (5, .c (.d (.int .i64 1073741825)))], none⟩, ⟨some 23, .call N_base_Src_Pick [true, false] [.t 21, .t 22], none⟩, ⟨some 24, .mv (.t 3), none⟩, ⟨some 25, .call N_base_Src_Range [true, false, false] [.t 24, .c (.d (.int .i64 0)), .c (.d (.int .i64 31))], none⟩, ⟨some 26, .mv (.t 3), none⟩, ⟨some 27, .call N_base_Src_N [true, false] [.t 26, .c (.d (.int .i64 3))], none⟩, ⟨some 28, .call N_law06_agrees [] [.t 14, .t 18, .t 20, .t 23, .t 25, .t 27], none⟩, ⟨some 29, .un .not (.t 28), none⟩] [[], [0], [0, 1], [0, 1], [0], [0, 1, 2, 3, 4], [0], [0, 1, 2, 3, 4, 5, 6], [0, 1, 2, 3, 4, 5, 6, 7], [0], [0, 1, 2, 3, 4, 5, 6, 7, 8, 9], [0], [0, 1, 2, 3, 4, 5, 6, 7, 8, 9, 10, 11], [0], [], []] [11, 14, 15, 16, 17, 18, 19, 20, 21, 22, 23, 24, 25, 26, 27, 28])
 (.cond (.t 29) (.seq (.ops [] [⟨some 2, .mv (.c (.d (.bool false))), none⟩] [3, 4, 5, 29])
 (.ret [2])) .skip)))
 (.ops [] [⟨some 12, .mv (.t 5), none⟩, ⟨some 13, .bin .add (.t 12) (.c (.d (.int .i64 1))), none⟩, ⟨some 5, .mv (.t 13), none⟩] [12, 13, 29])))
def c_law06_LeaseBuilt : ACode :=
 (.seq (.ops [] [⟨some 2, .mv (.c (.d (.bool false))), none⟩] [2])
 (.seq (.ops [] [⟨some 6, .mv (.t 0), none⟩, ⟨some 7, .call N_base_New [] [.t 6], none⟩, ⟨some 3, .mv (.t 7), none⟩] [0, 6, 7])
 (.seq (.ops [] [⟨some 8, .mv (.t 3), none⟩, ⟨some 9, .call N_base_Src_Table [true, false, false, false, false] [.t 8, .c (.d (.int .i64 12)), .c (.d (.int .i64 1)), .c (.d (.int .i64 0)), .c (.d (.int .i64 65535))], none⟩, ⟨some 4, .alloc (.agg [.xsl [], .xsl []]), none⟩, ⟨none, .st 2 (.t 4) (.t 9), none⟩] [8, 9])
 (.seq (.seq (.ops [] [⟨some 5, .mv (.c (.d (.int .i64 0))), none⟩] [])
 (.block 0 (.loop [] l_law06_LeaseBuilt_0)))
 (.seq (.seq (.ops [] [⟨some 30, .fad false 0 1 (.t 4), none⟩, ⟨some 31, .ld false 1 (.t 30), none⟩, ⟨some 32, .len (.t 31), none⟩, ⟨some 33, .bin .gtr (.t 32) (.c (.d (.int .i64 0))), none⟩] [5, 11, 30, 31, 32])
 (.cond (.t 33) (.seq (.ops [] [⟨some 34, .fad false 0 1 (.t 4), none⟩, ⟨some 35, .ld false 1 (.t 34), none⟩, ⟨some 36, .app 8 (.c (.xsl [])) (.t 35), none⟩, ⟨some 37, .fad false 0 1 (.t 4), none⟩, ⟨none, .st 1 (.t 37) (.t 36), none⟩] [33, 34, 35, 36, 37])
 (.seq (.ops [] [⟨some 38, .fad false 1 1 (.t 4), none⟩, ⟨some 39, .ld false 1 (.t 38), none⟩, ⟨some 40, .app 2 (.c (.xsl [])) (.t 39), none⟩, ⟨some 41, .fad false 1 1 (.t 4), none⟩, ⟨none, .st 1 (.t 41) (.t 40), none⟩] [38, 39, 40, 41])
 (.seq (.ops [] [⟨some 42, .mv (.t 3), none⟩, ⟨some 43, .call N_base_Src_N [true, false] [.t 42, .c (.d (.int .i64 4))], none⟩] [42])
 (.block 2 (.seq (.ops [] [⟨some 53, .bin .eql (.t 43) (.c (.d (.int .i64 0))), none⟩, ⟨some 52, .mv (.t 53), none⟩] [53])
 (.cond (.t 52) (.draw [72] [⟨some 54, .fad false 0 1 (.t 4), none⟩, ⟨some 55, .ld false 1 (.t 54), none⟩, ⟨some 56, .mv (.t 3), none⟩, ⟨some 57, .fad false 0 1 (.t 4), none⟩, ⟨some 58, .ld false 1 (.t 57), none⟩, ⟨some 59, .len (.t 58), none⟩, ⟨some 60, .call N_base_Src_N [true, false] [.t 56, .t 59], none⟩, ⟨some 61, .iad 8 (.t 55) (.t 60), none⟩, ⟨some 62, .fad false 7 1 (.t 61), none⟩, ⟨some 63, .ld false 1 (.t 62), none⟩, ⟨some 64, .bin .add (.t 63) (.c (.d (.int .i64 1))), none⟩, ⟨some 65, .iad 8 (.t 55) (.t 60), none⟩, ⟨some 66, .fad false 7 1 (.t 65), none⟩, ⟨none, .st 1 (.t 66) (.t 64), none⟩] [[], [], [0, 1], [0, 1, 2], [0, 1, 2], [0, 1, 2], [0, 1], [], [], [], [], [], [], []] [43, 52, 54, 55, 56, 57, 58, 59, 60, 61, 62, 63, 64, 65, 66]) (.seq (.ops [] [⟨some 68, .bin .eql (.t 43) (.c (.d (.int .i64 1))), none⟩, ⟨some 67, .mv (.t 68), none⟩] [52, 68])
 (.cond (.t 67) (.draw [72] [⟨some 69, .fad false 0 1 (.t 4), none⟩, ⟨some 70, .ld false 1 (.t 69), none⟩, ⟨some 71, .mv (.t 3), none⟩, ⟨some 72, .fad false 0 1 (.t 4), none⟩, ⟨some 73, .ld false 1 (.t 72), none⟩, ⟨some 74, .len (.t 73), none⟩, ⟨some 75, .call N_base_Src_N [true, false] [.t 71, .t 74], none⟩, ⟨some 76, .mv (.t 3), none⟩, ⟨some 77, .mv (.t 3), none⟩, ⟨some 78, .call N_base_Src_Range [true, false, false] [.t 77, .c (.d (.int .i64 1)), .c (.d (.int .i64 5))], none⟩, ⟨some 79, .call N_base_Src_Odd [true, false, false, false] [.t 76, .t 78, .c (.d (.int .i64 0)), .c (.d (.int .i64 65535))], none⟩, ⟨some 80, .iad 8 (.t 70) (.t 75), none⟩, ⟨some 81, .fad true 0 7 (.t 80), none⟩, ⟨none, .st 7 (.t 81) (.t 79), none⟩] [[], [], [0, 1], [0, 1, 2], [0, 1, 2], [0, 1, 2], [0, 1], [0, 1, 2, 3, 4, 5, 6], [0, 1, 2, 3, 4, 5, 6, 7], [0, 1, 7], [0, 1], [], [], []] [43, 67, 69, 70, 71, 72, 73, 74, 75, 76, 77, 78, 79, 80, 81]) (.seq (.ops [] [⟨some 83, .bin .eql (.t 43) (.c (.d (.int .i64 2))), none⟩, ⟨some 82, .mv (.t 83), none⟩] [43, 67, 83])
 (.cond (.t 82) (.draw [80] [⟨some 84, .fad false 1 1 (.t 4), none⟩, ⟨some 85, .ld false 1 (.t 84), none⟩, ⟨some 86, .mv (.t 3), none⟩, ⟨some 87, .fad false 1 1 (.t 4), none⟩, ⟨some 88, .ld false 1 (.t 87), none⟩, ⟨some 89, .len (.t 88), none⟩, ⟨some 90, .call N_base_Src_N [true, false] [.t 86, .t 89], none⟩, ⟨some 91, .iad 2 (.t 85) (.t 90), none⟩, ⟨some 92, .fad false 0 1 (.t 91), none⟩, ⟨some 93, .ld false 1 (.t 92), none⟩, ⟨some 94, .bin .add (.t 93) (.c (.d (.int .i64 1))), none⟩, ⟨some 95, .iad 2 (.t 85) (.t 90), none⟩, ⟨some 96, .fad false 0 1 (.t 95), none⟩, ⟨none, .st 1 (.t 96) (.t 94), none⟩] [[], [], [0, 1], [0, 1, 2], [0, 1, 2], [0, 1, 2], [0, 1], [], [], [], [], [], [], []] [82, 84, 85, 86, 87, 88, 89, 90, 91, 92, 93, 94, 95, 96]) (.ops [] [⟨some 44, .fad false 1 1 (.t 4), none⟩, ⟨some 45, .ld false 1 (.t 44), none⟩, ⟨some 46, .fad false 1 1 (.t 4), none⟩, ⟨some 47, .ld false 1 (.t 46), none⟩, ⟨some 48, .len (.t 47), none⟩, ⟨some 49, .bin .sub (.t 48) (.c (.d (.int .i64 1))), none⟩, ⟨some 50, .slc 2 (.t 45) none (some (.t 49)) none, none⟩, ⟨some 51, .fad false 1 1 (.t 4), none⟩, ⟨none, .st 1 (.t 51) (.t 50), none⟩] [44, 45, 46, 47, 48, 49, 50, 51, 82]))))))))))) .skip))
 (.seq (.draw [] [⟨some 97, .ld true 2 (.t 4), none⟩, ⟨some 98, .mv (.t 3), none⟩, ⟨some 99, .call N_base_Src_Message [true, false, false, false] [.t 98, .c (.d (.int .i64 40)), .c (.d (.int .i64 0)), .c (.d (.int .i64 9))], none⟩, ⟨some 100, .mv (.t 3), none⟩, ⟨some 101, .call N_base_Src_Range [true, false, false] [.t 100, .c (.d (.int .i64 1)), .c (.d (.int .i64 9))], none⟩, ⟨some 102, .call N_law06_agrees [] [.t 97, .t 99, .t 101, .c (.d (.int .i64 5)), .c (.d (.int .i64 20)), .c (.d (.int .i64 1))], none⟩, ⟨some 103, .mv (.t 102), none⟩, ⟨some 104, .call N_law06_awake [] [], some (103, true)⟩, ⟨some 105, .pick (.t 103) (.t 104) (.c (.d (.bool false))), none⟩, ⟨some 2, .mv (.t 105), none⟩] [[], [0], [0], [0, 1, 2], [0], [], [], [], [], []] [3, 4, 33, 97, 98, 99, 100, 101, 102, 103, 104, 105])
 (.ret [2])))))))
def r_law06_LeaseBuilt : List ARes := [.t 2]
def fn_law06_LeaseBuilt : AFn := .code c_law06_LeaseBuilt r_law06_LeaseBuilt 106 true
def c_base_New : ACode :=
 (.seq (.ops [] [⟨some 2, .mv (.c .undef), none⟩] [2])
 (.seq (.seq (.ops [] [⟨some 3, .mv (.t 0), none⟩, ⟨some 4, .len (.t 3), none⟩, ⟨some 5, .bin .gtr (.t 4) (.c (.d (.int .i64 4000))), none⟩] [3, 4])
 (.cond (.t 5) (.ops [] [⟨some 6, .mv (.t 0), none⟩, ⟨some 7, .slc 1 (.t 6) none (some (.c (.d (.int .i64 4000)))) none, none⟩, ⟨some 0, .mv (.t 7), none⟩] [5, 6, 7]) .skip))
 (.seq (.ops [] [⟨some 8, .mv (.t 0), none⟩, ⟨some 9, .build [.xsl [], .d (.int .i64 0)] [(0, (1, .t 8))], none⟩, ⟨some 10, .box (.t 9), none⟩, ⟨some 2, .mv (.t 10), none⟩] [0, 5, 8, 9, 10])
 (.ret [2]))))
def r_base_New : List ARes := [.t 2]
def fn_base_New : AFn := .code c_base_New r_base_New 11 false
def l_base_Src_Table_0 : ACode :=
 (.seq (.seq (.ops [] [⟨some 18, .mv (.t 12), none⟩, ⟨some 19, .bin .gtr (.t 18) (.c (.d (.int .i64 0))), none⟩] [18])
 (.cond (.t 19) .skip (.exit 0 [10, 11])))
 (.seq (.block 1 (.seq (.ops [] [⟨some 22, .mv (.t 0), none⟩, ⟨some 23, .mv (.t 2), none⟩, ⟨some 24, .mv (.t 3), none⟩, ⟨some 25, .mv (.t 4), none⟩, ⟨some 26, .call N_base_Src_Message [true, false, false, false] [.t 22, .t 23, .t 24, .t 25], none⟩, ⟨some 13, .alloc (.d (.agg [.int .i64 0, .int .i64 0, .int .i64 0, .int .i64 0, .int .i64 0, .int .i64 0, .str []])), none⟩, ⟨none, .st 7 (.t 13) (.t 26), none⟩] [19, 22, 23, 24, 25, 26])
 (.seq (.ops [] [⟨some 27, .fad false 4 1 (.t 13), none⟩, ⟨some 28, .ld false 1 (.t 27), none⟩, ⟨some 29, .mm true [.t 28, .c (.d (.int .i64 1))], none⟩, ⟨some 30, .fad false 4 1 (.t 13), none⟩, ⟨none, .st 1 (.t 30) (.t 29), none⟩] [27, 28, 29, 30])
 (.seq (.draw [] [⟨some 32, .ld true 2 (.t 11), none⟩, ⟨some 33, .ld true 7 (.t 13), none⟩, ⟨some 34, .mv (.t 0), none⟩, ⟨some 35, .call N_base_Src_N [true, false] [.t 34, .c (.d (.int .i64 30))], none⟩, ⟨some 36, .call N_ref06_Grant [] [.t 32, .t 33, .t 35], none⟩, ⟨some 31, .mv (.t 36), none⟩, ⟨some 37, .ext (.t 31) 0, none⟩, ⟨some 38, .ext (.t 31) 1, none⟩, ⟨none, .st 2 (.t 11) (.t 37), none⟩] [[], [0], [0, 1], [0, 1], [], [], [], [6], [7]] [13, 31, 32, 33, 34, 35, 36, 37, 38])
 (.ops [] [⟨some 39, .mv (.t 2), none⟩, ⟨some 40, .mv (.t 0), none⟩, ⟨some 41, .call N_base_Src_Range [true, false, false] [.t 40, .c (.d (.int .i64 1)), .c (.d (.int .i64 3))], none⟩, ⟨some 42, .bin .add (.t 39) (.t 41), none⟩, ⟨some 2, .mv (.t 42), none⟩] [39, 40, 41, 42])))))
 (.ops [] [⟨some 20, .mv (.t 12), none⟩, ⟨some 21, .bin .sub (.t 20) (.c (.d (.int .i64 1))), none⟩, ⟨some 12, .mv (.t 21), none⟩] [20, 21])))
def c_base_Src_Table : ACode :=
 (.seq (.ops [] [⟨some 10, .alloc (.agg [.xsl [], .xsl []]), none⟩] [])
 (.seq (.ops [] [⟨some 11, .alloc (.agg [.xsl [], .xsl []]), none⟩] [])
 (.seq (.seq (.ops [] [⟨some 14, .mv (.t 0), none⟩, ⟨some 15, .mv (.t 1), none⟩, ⟨some 16, .bin .add (.t 15) (.c (.d (.int .i64 1))), none⟩, ⟨some 17, .call N_base_Src_N [true, false] [.t 14, .t 16], none⟩, ⟨some 12, .mv (.t 17), none⟩] [1, 14, 15, 16, 17])
 (.block 0 (.loop [] l_base_Src_Table_0)))
 (.seq (.ops [] [⟨some 43, .ld true 2 (.t 11), none⟩, ⟨none, .st 2 (.t 10) (.t 43), none⟩] [0, 2, 3, 4, 11, 12, 19, 43])
 (.ret [10])))))
def r_base_Src_Table : List ARes := [.c 10 true 2]
def fn_base_Src_Table : AFn := .code c_base_Src_Table r_base_Src_Table 44 true
def c_base_Src_N : ACode :=
 (.seq (.ops [] [⟨some 4, .mv (.c (.d (.int .i64 0))), none⟩] [4])
 (.seq (.seq (.ops [] [⟨some 6, .mv (.t 1), none⟩, ⟨some 7, .bin .lss (.t 6) (.c (.d (.int .i64 1))), none⟩] [6])
 (.cond (.t 7) (.seq (.ops [] [⟨some 4, .mv (.c (.d (.int .i64 0))), none⟩] [0, 1, 7])
 (.ret [4])) .skip))
 (.seq (.ops [] [⟨some 8, .mv (.t 0), none⟩, ⟨some 9, .call N_base_Src_Raw [true] [.t 8], none⟩, ⟨some 10, .mv (.t 1), none⟩, ⟨some 11, .bin .rem (.t 9) (.t 10), none⟩, ⟨some 5, .mv (.t 11), none⟩] [0, 7, 8, 9, 10, 11])
 (.seq (.seq (.ops [] [⟨some 12, .mv (.t 5), none⟩, ⟨some 13, .bin .lss (.t 12) (.c (.d (.int .i64 0))), none⟩] [12])
 (.cond (.t 13) (.ops [] [⟨some 14, .mv (.t 5), none⟩, ⟨some 15, .mv (.t 1), none⟩, ⟨some 16, .bin .add (.t 14) (.t 15), none⟩, ⟨some 5, .mv (.t 16), none⟩] [1, 13, 14, 15, 16]) .skip))
 (.seq (.ops [] [⟨some 17, .mv (.t 5), none⟩, ⟨some 4, .mv (.t 17), none⟩] [1, 5, 13, 17])
 (.ret [4]))))))
def r_base_Src_N : List ARes := [.t 4]
def fn_base_Src_N : AFn := .code c_base_Src_N r_base_Src_N 18 true
def c_base_Src_Raw : ACode :=
 (.seq (.ops [] [⟨some 2, .mv (.c (.d (.int .i64 0))), none⟩] [2])
 (.seq (.seq (.draw [] [⟨some 3, .mv (.t 0), none⟩, ⟨some 4, .nilc (.t 3), none⟩, ⟨some 5, .fad false 1 1 (.t 4), none⟩, ⟨some 6, .ld false 1 (.t 5), none⟩, ⟨some 7, .mv (.t 0), none⟩, ⟨some 8, .nilc (.t 7), none⟩, ⟨some 9, .fad false 0 1 (.t 8), none⟩, ⟨some 10, .ld false 1 (.t 9), none⟩, ⟨some 11, .len (.t 10), none⟩, ⟨some 12, .bin .geq (.t 6) (.t 11), none⟩] [[], [], [], [], [0, 1, 2, 3], [0, 1, 2, 3], [0, 1, 2, 3], [0, 1, 2, 3], [0, 1, 2, 3], []] [3, 4, 5, 6, 7, 8, 9, 10, 11])
 (.cond (.t 12) (.seq (.ops [] [⟨some 2, .mv (.c (.d (.int .i64 0))), none⟩] [0, 12])
 (.ret [2])) .skip))
 (.seq (.ops [] [⟨some 13, .mv (.t 0), none⟩, ⟨some 14, .nilc (.t 13), none⟩, ⟨some 15, .fad false 1 1 (.t 14), none⟩, ⟨some 16, .ld false 1 (.t 15), none⟩, ⟨some 17, .bin .add (.t 16) (.c (.d (.int .i64 1))), none⟩, ⟨some 18, .nilc (.t 13), none⟩, ⟨some 19, .fad false 1 1 (.t 18), none⟩, ⟨none, .st 1 (.t 19) (.t 17), none⟩] [12, 13, 14, 15, 16, 17, 18, 19])
 (.seq (.draw [] [⟨some 20, .mv (.t 0), none⟩, ⟨some 21, .nilc (.t 20), none⟩, ⟨some 22, .fad false 0 1 (.t 21), none⟩, ⟨some 23, .ld false 1 (.t 22), none⟩, ⟨some 24, .mv (.t 0), none⟩, ⟨some 25, .nilc (.t 24), none⟩, ⟨some 26, .fad false 1 1 (.t 25), none⟩, ⟨some 27, .ld false 1 (.t 26), none⟩, ⟨some 28, .bin .sub (.t 27) (.c (.d (.int .i64 1))), none⟩, ⟨some 29, .iad 1 (.t 23) (.t 28), none⟩, ⟨some 30, .ld false 1 (.t 29), none⟩, ⟨some 2, .mv (.t 30), none⟩] [[], [], [], [], [0, 1, 2, 3], [0, 1, 2, 3], [0, 1, 2, 3], [0, 1, 2, 3], [0, 1, 2, 3], [], [], []] [0, 20, 21, 22, 23, 24, 25, 26, 27, 28, 29, 30])
 (.ret [2])))))
def r_base_Src_Raw : List ARes := [.t 2]
def fn_base_Src_Raw : AFn := .code c_base_Src_Raw r_base_Src_Raw 31 true
def c_base_Src_Message : ACode :=
 (.seq (.ops [] [⟨some 8, .alloc (.d (.agg [.int .i64 0, .int .i64 0, .int .i64 0, .int .i64 0, .int .i64 0, .int .i64 0, .str []])), none⟩] [])
 (.seq (.ops [] [⟨some 10, .mv (.t 1), none⟩, ⟨some 11, .mv (.t 1), none⟩, ⟨some 12, .call N_ref02_Route [] [.t 11], none⟩, ⟨some 13, .mv (.t 2), none⟩, ⟨some 14, .mv (.t 3), none⟩, ⟨some 15, .call N_ref02_Into [] [.t 12, .t 13, .t 14], none⟩, ⟨some 16, .mv (.t 0), none⟩, ⟨some 17, .call N_base_Src_N [true, false] [.t 16, .c (.d (.int .i64 3))], none⟩, ⟨some 18, .mv (.t 0), none⟩, ⟨some 19, .call N_base_Src_N [true, false] [.t 18, .c (.d (.int .i64 4))], none⟩, ⟨some 20, .mv (.t 0), none⟩, ⟨some 21, .call N_base_Src_N [true, false] [.t 20, .c (.d (.int .i64 50))], none⟩, ⟨some 22, .mv (.t 0), none⟩, ⟨some 23, .call N_base_Src_Body [true] [.t 22], none⟩, ⟨some 24, .build [.d (.int .i64 0), .d (.int .i64 0), .d (.int .i64 0), .d (.int .i64 0), .d (.int .i64 0), .d (.int .i64 0), .d (.str [])] [(0, (1, .t 10)), (1, (1, .t 15)), (2, (1, .t 17)), (3, (1, .t 19)), (5, (1, .t 21)), (6, (1, .t 23))], none⟩, ⟨some 9, .alloc (.d (.agg [.int .i64 0, .int .i64 0, .int .i64 0, .int .i64 0, .int .i64 0, .int .i64 0, .str []])), none⟩, ⟨none, .st 7 (.t 9) (.t 24), none⟩] [1, 2, 3, 10, 11, 12, 13, 14, 15, 16, 17, 18, 19, 20, 21, 22, 23, 24])
 (.seq (.draw [] [⟨some 25, .fad false 3 1 (.t 9), none⟩, ⟨some 26, .ld false 1 (.t 25), none⟩, ⟨some 27, .mv (.t 0), none⟩, ⟨some 28, .call N_base_Src_N [true, false] [.t 27, .c (.d (.int .i64 3))], none⟩, ⟨some 29, .bin .add (.t 26) (.t 28), none⟩, ⟨some 30, .fad false 4 1 (.t 9), none⟩, ⟨none, .st 1 (.t 30) (.t 29), none⟩] [[], [], [0, 1], [0, 1], [], [], []] [25, 26, 27, 28, 29, 30])
 (.seq (.seq (.ops [] [⟨some 31, .mv (.t 0), none⟩, ⟨some 32, .call N_base_Src_N [true, false] [.t 31, .c (.d (.int .i64 20))], none⟩, ⟨some 33, .bin .eql (.t 32) (.c (.d (.int .i64 19))), none⟩] [0, 31, 32])
 (.cond (.t 33) (.ops [] [⟨some 34, .fad false 4 1 (.t 9), none⟩, ⟨none, .st 1 (.t 34) (.c (.d (.int .i64 65536))), none⟩] [33, 34]) .skip))
 (.seq (.ops [] [⟨some 35, .ld true 7 (.t 9), none⟩, ⟨none, .st 7 (.t 8) (.t 35), none⟩] [9, 33, 35])
 (.ret [8]))))))
def r_base_Src_Message : List ARes := [.c 8 true 7]
def fn_base_Src_Message : AFn := .code c_base_Src_Message r_base_Src_Message 36 true
def c_ref02_Route : ACode :=
 (.seq (.ops [] [⟨some 2, .mv (.c (.d (.int .i64 0))), none⟩] [2])
 (.seq (.seq (.ops [] [⟨some 6, .mv (.t 0), none⟩, ⟨some 7, .bin .lss (.t 6) (.c (.d (.int .i64 0))), none⟩, ⟨some 8, .mv (.t 7), none⟩, ⟨some 9, .mv (.t 0), some (8, false)⟩, ⟨some 10, .bin .gtr (.t 9) (.c (.d (.int .i64 1073741824))), some (8, false)⟩, ⟨some 11, .pick (.t 8) (.c (.d (.bool true))) (.t 10), none⟩] [6, 7, 8, 9, 10])
 (.cond (.t 11) (.seq (.ops [] [⟨some 2, .mv (.c (.d (.int .i64 0))), none⟩] [0, 11])
 (.ret [2])) .skip))
 (.seq (.ops [] [⟨some 13, .mv (.t 0), none⟩, ⟨some 14, .call N_ref01_Put [] [.c (.xsl []), .t 13, .c (.d (.int .i64 4))], none⟩, ⟨some 12, .mv (.t 14), none⟩, ⟨some 15, .ext (.t 12) 0, none⟩, ⟨some 16, .ext (.t 12) 1, none⟩, ⟨some 3, .mv (.t 15), none⟩, ⟨some 4, .mv (.t 16), none⟩] [0, 4, 11, 12, 13, 14, 15, 16])
 (.seq (.ops [] [⟨some 17, .mv (.t 3), none⟩, ⟨some 18, .call N_ref02_Sum [] [.t 17], none⟩, ⟨some 5, .mv (.t 18), none⟩] [3, 17, 18])
 (.seq (.ops [] [⟨some 19, .mv (.t 5), none⟩, ⟨some 20, .bin .shr (.t 19) (.c (.d (.int .u64 16))), none⟩, ⟨some 21, .mv (.t 5), none⟩, ⟨some 22, .bin .and (.t 21) (.c (.d (.int .i64 65535))), none⟩, ⟨some 23, .bin .xor (.t 20) (.t 22), none⟩, ⟨some 2, .mv (.t 23), none⟩] [5, 19, 20, 21, 22, 23])
 (.ret [2]))))))
def r_ref02_Route : List ARes := [.t 2]
def fn_ref02_Route : AFn := .code c_ref02_Route r_ref02_Route 24 true
def l_ref01_Put_0 : ACode :=
 (.seq (.seq (.ops [] [⟨some 32, .mv (.t 9), none⟩, ⟨some 33, .bin .geq (.t 32) (.c (.d (.int .i64 0))), none⟩] [32])
 (.cond (.t 33) .skip (.exit 0 [8])))
 (.seq (.block 1 (.ops [] [⟨some 36, .mv (.t 8), none⟩, ⟨some 37, .mv (.t 1), none⟩, ⟨some 38, .mv (.t 9), none⟩, ⟨some 39, .bin .mul (.c (.d (.int .i64 8))) (.t 38), none⟩, ⟨some 40, .cvi .u64 (.t 39), none⟩, ⟨some 41, .bin .shr (.t 37) (.t 40), none⟩, ⟨some 42, .cvi .u8 (.t 41), none⟩, ⟨some 43, .bsl 1 1 (.d (.int .u8 0)) [(0, .t 42)], none⟩, ⟨some 44, .app 1 (.t 36) (.t 43), none⟩, ⟨some 8, .mv (.t 44), none⟩] [33, 36, 37, 38, 39, 40, 41, 42, 43, 44]))
 (.ops [] [⟨some 34, .mv (.t 9), none⟩, ⟨some 35, .bin .sub (.t 34) (.c (.d (.int .i64 1))), none⟩, ⟨some 9, .mv (.t 35), none⟩] [34, 35])))
def c_ref01_Put : ACode :=
 (.seq (.ops [] [⟨some 6, .mv (.c (.xsl [])), none⟩, ⟨some 7, .mv (.c (.d (.int .i64 0))), none⟩] [6, 7])
 (.seq (.seq (.ops [] [⟨some 10, .mv (.t 2), none⟩, ⟨some 11, .bin .lss (.t 10) (.c (.d (.int .i64 1))), none⟩, ⟨some 12, .mv (.t 11), none⟩, ⟨some 13, .mv (.t 2), some (12, false)⟩, ⟨some 14, .bin .gtr (.t 13) (.c (.d (.int .i64 6))), some (12, false)⟩, ⟨some 15, .pick (.t 12) (.c (.d (.bool true))) (.t 14), none⟩, ⟨some 16, .mv (.t 15), none⟩, ⟨some 17, .mv (.t 1), some (16, false)⟩, ⟨some 18, .bin .lss (.t 17) (.c (.d (.int .i64 0))), some (16, false)⟩, ⟨some 19, .pick (.t 16) (.c (.d (.bool true))) (.t 18), none⟩, ⟨some 20, .mv (.t 19), none⟩, ⟨some 21, .mv (.t 1), some (20, false)⟩, ⟨some 22, .mv (.t 2), some (20, false)⟩, ⟨some 23, .bin .mul (.c (.d (.int .i64 8))) (.t 22), some (20, false)⟩, ⟨some 24, .cvi .u64 (.t 23), some (20, false)⟩, ⟨some 25, .bin .shl (.c (.d (.int .i64 1))) (.t 24), some (20, false)⟩, ⟨some 26, .bin .geq (.t 21) (.t 25), some (20, false)⟩, ⟨some 27, .pick (.t 20) (.c (.d (.bool true))) (.t 26), none⟩] [10, 11, 12, 13, 14, 15, 16, 17, 18, 19, 20, 21, 22, 23, 24, 25, 26])
 (.cond (.t 27) (.seq (.ops [] [⟨some 6, .mv (.c (.xsl [])), none⟩, ⟨some 7, .mv (.c (.d (.int .i64 1))), none⟩] [0, 1, 2, 27])
 (.ret [6, 7])) .skip))
 (.seq (.ops [] [⟨some 28, .mv (.t 0), none⟩, ⟨some 29, .app 1 (.c (.xsl [])) (.t 28), none⟩, ⟨some 8, .mv (.t 29), none⟩] [0, 27, 28, 29])
 (.seq (.seq (.ops [] [⟨some 30, .mv (.t 2), none⟩, ⟨some 31, .bin .sub (.t 30) (.c (.d (.int .i64 1))), none⟩, ⟨some 9, .mv (.t 31), none⟩] [2, 30, 31])
 (.block 0 (.loop [] l_ref01_Put_0)))
 (.seq (.ops [] [⟨some 45, .mv (.t 8), none⟩, ⟨some 6, .mv (.t 45), none⟩, ⟨some 7, .mv (.c (.d (.int .i64 0))), none⟩] [1, 8, 9, 33, 45])
 (.ret [6, 7]))))))
def r_ref01_Put : List ARes := [.t 6, .t 7]
def fn_ref01_Put : AFn := .code c_ref01_Put r_ref01_Put 46 true
def l_ref02_Sum_0 : ACode :=
 (.seq (.seq (.ops [] [⟨some 5, .mv (.t 4), none⟩, ⟨some 6, .mv (.t 0), none⟩, ⟨some 7, .len (.t 6), none⟩, ⟨some 8, .bin .lss (.t 5) (.t 7), none⟩] [5, 6, 7])
 (.cond (.t 8) .skip (.exit 0 [3])))
 (.seq (.block 1 (.ops [] [⟨some 11, .mv (.t 3), none⟩, ⟨some 12, .mv (.t 0), none⟩, ⟨some 13, .mv (.t 4), none⟩, ⟨some 14, .iad 1 (.t 12) (.t 13), none⟩, ⟨some 15, .ld false 1 (.t 14), none⟩, ⟨some 16, .cvi .i64 (.t 15), none⟩, ⟨some 17, .bin .xor (.t 11) (.t 16), none⟩, ⟨some 18, .bin .mul (.t 17) (.c (.d (.int .i64 16777619))), none⟩, ⟨some 19, .bin .and (.t 18) (.c (.d (.int .i64 4294967295))), none⟩, ⟨some 3, .mv (.t 19), none⟩] [8, 11, 12, 13, 14, 15, 16, 17, 18, 19]))
 (.ops [] [⟨some 9, .mv (.t 4), none⟩, ⟨some 10, .bin .add (.t 9) (.c (.d (.int .i64 1))), none⟩, ⟨some 4, .mv (.t 10), none⟩] [9, 10])))
def c_ref02_Sum : ACode :=
 (.seq (.ops [] [⟨some 2, .mv (.c (.d (.int .i64 0))), none⟩] [2])
 (.seq (.ops [] [⟨some 3, .mv (.c (.d (.int .i64 2166136261))), none⟩] [])
 (.seq (.seq (.ops [] [⟨some 4, .mv (.c (.d (.int .i64 0))), none⟩] [])
 (.block 0 (.loop [] l_ref02_Sum_0)))
 (.seq (.ops [] [⟨some 20, .mv (.t 3), none⟩, ⟨some 2, .mv (.t 20), none⟩] [0, 3, 4, 8, 20])
 (.ret [2])))))
def r_ref02_Sum : List ARes := [.t 2]
def fn_ref02_Sum : AFn := .code c_ref02_Sum r_ref02_Sum 21 true
def c_ref02_Into : ACode :=
 (.seq (.ops [] [⟨some 6, .mv (.c (.d (.int .i64 0))), none⟩] [6])
 (.seq (.seq (.ops [] [⟨some 7, .mv (.t 0), none⟩, ⟨some 8, .bin .lss (.t 7) (.c (.d (.int .i64 0))), none⟩, ⟨some 9, .mv (.t 8), none⟩, ⟨some 10, .mv (.t 0), some (9, false)⟩, ⟨some 11, .bin .geq (.t 10) (.c (.d (.int .i64 65536))), some (9, false)⟩, ⟨some 12, .pick (.t 9) (.c (.d (.bool true))) (.t 11), none⟩, ⟨some 13, .mv (.t 12), none⟩, ⟨some 14, .mv (.t 1), some (13, false)⟩, ⟨some 15, .bin .lss (.t 14) (.c (.d (.int .i64 0))), some (13, false)⟩, ⟨some 16, .pick (.t 13) (.c (.d (.bool true))) (.t 15), none⟩, ⟨some 17, .mv (.t 16), none⟩, ⟨some 18, .mv (.t 2), some (17, false)⟩, ⟨some 19, .bin .geq (.t 18) (.c (.d (.int .i64 65536))), some (17, false)⟩, ⟨some 20, .pick (.t 17) (.c (.d (.bool true))) (.t 19), none⟩, ⟨some 21, .mv (.t 20), none⟩, ⟨some 22, .mv (.t 1), some (21, false)⟩, ⟨some 23, .mv (.t 2), some (21, false)⟩, ⟨some 24, .bin .gtr (.t 22) (.t 23), some (21, false)⟩, ⟨some 25, .pick (.t 21) (.c (.d (.bool true))) (.t 24), none⟩] [7, 8, 9, 10, 11, 12, 13, 14, 15, 16, 17, 18, 19, 20, 21, 22, 23, 24])
 (.cond (.t 25) (.seq (.ops [] [⟨some 6, .mv (.c (.d (.int .i64 0))), none⟩] [0, 1, 2, 25])
 (.ret [6])) .skip))
 (.seq (.seq (.ops [] [⟨some 26, .mv (.t 0), none⟩, ⟨some 27, .mv (.t 1), none⟩, ⟨some 28, .bin .geq (.t 26) (.t 27), none⟩, ⟨some 29, .mv (.t 28), none⟩, ⟨some 30, .mv (.t 0), some (29, true)⟩, ⟨some 31, .mv (.t 2), some (29, true)⟩, ⟨some 32, .bin .leq (.t 30) (.t 31), some (29, true)⟩, ⟨some 33, .pick (.t 29) (.t 32) (.c (.d (.bool false))), none⟩] [25, 26, 27, 28, 29, 30, 31, 32])
 (.cond (.t 33) (.seq (.ops [] [⟨some 34, .mv (.t 0), none⟩, ⟨some 6, .mv (.t 34), none⟩] [0, 1, 2, 33, 34])
 (.ret [6])) .skip))
 (.seq (.ops [] [⟨some 35, .mv (.t 1), none⟩, ⟨some 36, .mv (.t 0), none⟩, ⟨some 37, .mv (.t 2), none⟩, ⟨some 38, .mv (.t 1), none⟩, ⟨some 39, .bin .sub (.t 37) (.t 38), none⟩, ⟨some 40, .bin .add (.t 39) (.c (.d (.int .i64 1))), none⟩, ⟨some 41, .bin .rem (.t 36) (.t 40), none⟩, ⟨some 42, .bin .add (.t 35) (.t 41), none⟩, ⟨some 6, .mv (.t 42), none⟩] [0, 1, 2, 33, 35, 36, 37, 38, 39, 40, 41, 42])
 (.ret [6])))))
def r_ref02_Into : List ARes := [.t 6]
def fn_ref02_Into : AFn := .code c_ref02_Into r_ref02_Into 43 true
def l_base_Src_Body_0 : ACode :=
 (.seq (.seq (.ops [] [⟨some 8, .mv (.t 4), none⟩, ⟨some 9, .mv (.t 3), none⟩, ⟨some 10, .len (.t 9), none⟩, ⟨some 11, .bin .lss (.t 8) (.t 10), none⟩] [8, 9, 10])
 (.cond (.t 11) .skip (.exit 0 [3])))
 (.seq (.block 1 (.ops [] [⟨some 14, .mv (.t 3), none⟩, ⟨some 15, .mv (.t 4), none⟩, ⟨some 16, .mv (.t 0), none⟩, ⟨some 17, .call N_base_Src_N [true, false] [.t 16, .c (.d (.int .i64 3))], none⟩, ⟨some 18, .bin .add (.c (.d (.int .i64 97))) (.t 17), none⟩, ⟨some 19, .cvi .u8 (.t 18), none⟩, ⟨some 20, .iad 1 (.t 14) (.t 15), none⟩, ⟨none, .st 1 (.t 20) (.t 19), none⟩] [11, 14, 15, 16, 17, 18, 19, 20]))
 (.ops [] [⟨some 12, .mv (.t 4), none⟩, ⟨some 13, .bin .add (.t 12) (.c (.d (.int .i64 1))), none⟩, ⟨some 4, .mv (.t 13), none⟩] [12, 13])))
def c_base_Src_Body : ACode :=
 (.seq (.ops [] [⟨some 2, .mv (.c (.d (.str []))), none⟩] [2])
 (.seq (.ops [] [⟨some 5, .mv (.t 0), none⟩, ⟨some 6, .call N_base_Src_N [true, false] [.t 5, .c (.d (.int .i64 4))], none⟩, ⟨some 7, .mks 1 (.d (.int .u8 0)) (.t 6) (.t 6), none⟩, ⟨some 3, .mv (.t 7), none⟩] [5, 6, 7])
 (.seq (.seq (.ops [] [⟨some 4, .mv (.c (.d (.int .i64 0))), none⟩] [])
 (.block 0 (.loop [] l_base_Src_Body_0)))
 (.seq (.ops [15] [⟨some 21, .mv (.t 3), none⟩, ⟨some 22, .b2s (.t 21), none⟩, ⟨some 2, .mv (.t 22), none⟩] [0, 3, 4, 11, 21, 22])
 (.ret [2])))))
def r_base_Src_Body : List ARes := [.t 2]
def fn_base_Src_Body : AFn := .code c_base_Src_Body r_base_Src_Body 23 true
def l_ref06_Grant_0 : ACode :=
 (.seq (.seq (.draw [] [⟨some 52, .mv (.t 10), none⟩, ⟨some 53, .fad false 0 1 (.t 3), none⟩, ⟨some 54, .ld false 1 (.t 53), none⟩, ⟨some 55, .len (.t 54), none⟩, ⟨some 56, .bin .lss (.t 52) (.t 55), none⟩, ⟨some 57, .mv (.t 56), none⟩, ⟨some 58, .fad false 0 1 (.t 3), some (57, true)⟩, ⟨some 59, .ld false 1 (.t 58), some (57, true)⟩, ⟨some 60, .mv (.t 10), some (57, true)⟩, ⟨some 61, .iad 8 (.t 59) (.t 60), some (57, true)⟩, ⟨some 62, .fad true 0 7 (.t 61), some (57, true)⟩, ⟨some 63, .fad false 0 1 (.t 62), some (57, true)⟩, ⟨some 64, .ld false 1 (.t 63), some (57, true)⟩, ⟨some 65, .fad false 0 1 (.t 4), some (57, true)⟩, ⟨some 66, .ld false 1 (.t 65), some (57, true)⟩, ⟨some 67, .bin .lss (.t 64) (.t 66), some (57, true)⟩, ⟨some 68, .pick (.t 57) (.t 67) (.c (.d (.bool false))), none⟩] [[], [0], [0], [0], [], [], [], [], [6, 7], [], [], [], [], [6, 7, 8, 9, 10, 11, 12], [6, 7, 8, 9, 10, 11, 12], [], []] [52, 53, 54, 55, 56, 57, 58, 59, 60, 61, 62, 63, 64, 65, 66, 67])
 (.cond (.t 68) .skip (.exit 1 [2, 3, 4, 6, 10])))
 (.block 2 (.ops [] [⟨some 69, .mv (.t 10), none⟩, ⟨some 70, .bin .add (.t 69) (.c (.d (.int .i64 1))), none⟩, ⟨some 10, .mv (.t 70), none⟩] [68, 69, 70])))
def c_ref06_Grant : ACode :=
 (.seq (.ops [] [⟨some 3, .box (.t 0), none⟩, ⟨some 4, .box (.t 1), none⟩, ⟨some 6, .alloc (.agg [.xsl [], .xsl []]), none⟩, ⟨some 7, .mv (.c (.d (.int .i64 0))), none⟩] [0, 1, 7])
 (.seq (.seq (.ops [] [⟨some 14, .ld true 2 (.t 3), none⟩, ⟨some 15, .call N_ref06_Validate [] [.t 14], none⟩, ⟨some 8, .mv (.t 15), none⟩] [14, 15])
 (.seq (.ops [] [⟨some 16, .mv (.t 8), none⟩, ⟨some 17, .bin .neq (.t 16) (.c (.d (.int .i64 0))), none⟩] [16])
 (.cond (.t 17) (.seq (.ops [] [⟨some 18, .build [.xsl [], .xsl []] [], none⟩, ⟨some 19, .mv (.t 8), none⟩, ⟨none, .st 2 (.t 6) (.t 18), none⟩, ⟨some 7, .mv (.t 19), none⟩] [2, 3, 4, 8, 17, 18, 19])
 (.ret [6, 7])) .skip)))
 (.seq (.seq (.ops [] [⟨some 20, .ld true 7 (.t 4), none⟩, ⟨some 21, .call N_ref03_Validate [] [.t 20], none⟩, ⟨some 9, .mv (.t 21), none⟩] [8, 17, 20, 21])
 (.seq (.ops [] [⟨some 22, .mv (.t 9), none⟩, ⟨some 23, .bin .neq (.t 22) (.c (.d (.int .i64 0))), none⟩] [22])
 (.cond (.t 23) (.seq (.ops [] [⟨some 24, .build [.xsl [], .xsl []] [], none⟩, ⟨some 25, .mv (.t 9), none⟩, ⟨none, .st 2 (.t 6) (.t 24), none⟩, ⟨some 7, .mv (.t 25), none⟩] [2, 3, 4, 9, 23, 24, 25])
 (.ret [6, 7])) .skip)))
 (.seq (.block 0 (.seq (.ops [] [⟨some 27, .fad false 4 1 (.t 4), none⟩, ⟨some 28, .ld false 1 (.t 27), none⟩, ⟨some 29, .bin .eql (.t 28) (.c (.d (.int .i64 0))), none⟩, ⟨some 26, .mv (.t 29), none⟩] [9, 23, 27, 28, 29])
 (.cond (.t 26) (.seq (.ops [] [⟨some 30, .build [.xsl [], .xsl []] [], none⟩, ⟨none, .st 2 (.t 6) (.t 30), none⟩, ⟨some 7, .mv (.c (.d (.int .i64 7))), none⟩] [2, 3, 4, 26, 30])
 (.ret [6, 7])) (.seq (.ops [] [⟨some 32, .mv (.t 2), none⟩, ⟨some 33, .bin .lss (.t 32) (.c (.d (.int .i64 0))), none⟩, ⟨some 34, .mv (.t 33), none⟩, ⟨some 35, .mv (.t 2), some (34, false)⟩, ⟨some 36, .bin .gtr (.t 35) (.c (.d (.int .i64 1073741824))), some (34, false)⟩, ⟨some 37, .pick (.t 34) (.c (.d (.bool true))) (.t 36), none⟩, ⟨some 31, .mv (.t 37), none⟩] [26, 32, 33, 34, 35, 36, 37])
 (.cond (.t 31) (.seq (.ops [] [⟨some 38, .build [.xsl [], .xsl []] [], none⟩, ⟨none, .st 2 (.t 6) (.t 38), none⟩, ⟨some 7, .mv (.c (.d (.int .i64 1))), none⟩] [2, 3, 4, 31, 38])
 (.ret [6, 7])) (.seq (.ops [] [⟨some 40, .fad false 0 1 (.t 3), none⟩, ⟨some 41, .ld false 1 (.t 40), none⟩, ⟨some 42, .len (.t 41), none⟩, ⟨some 43, .bin .eql (.t 42) (.c (.d (.int .i64 12))), none⟩, ⟨some 39, .mv (.t 43), none⟩] [31, 40, 41, 42, 43])
 (.cond (.t 39) (.seq (.ops [] [⟨some 44, .build [.xsl [], .xsl []] [], none⟩, ⟨none, .st 2 (.t 6) (.t 44), none⟩, ⟨some 7, .mv (.c (.d (.int .i64 3))), none⟩] [2, 3, 4, 39, 44])
 (.ret [6, 7])) (.seq (.ops [] [⟨some 46, .ld true 2 (.t 3), none⟩, ⟨some 47, .fad false 0 1 (.t 4), none⟩, ⟨some 48, .ld false 1 (.t 47), none⟩, ⟨some 49, .call N_ref06_find [] [.t 46, .t 48], none⟩, ⟨some 50, .bin .geq (.t 49) (.c (.d (.int .i64 0))), none⟩, ⟨some 45, .mv (.t 50), none⟩] [39, 46, 47, 48, 49, 50])
 (.cond (.t 45) (.seq (.ops [] [⟨some 51, .build [.xsl [], .xsl []] [], none⟩, ⟨none, .st 2 (.t 6) (.t 51), none⟩, ⟨some 7, .mv (.c (.d (.int .i64 10))), none⟩] [2, 3, 4, 45, 51])
 (.ret [6, 7])) .skip)))))))))
 (.seq (.ops [] [⟨some 10, .mv (.c (.d (.int .i64 0))), none⟩] [45])
 (.seq (.block 1 (.loop [] l_ref06_Grant_0))
 (.seq (.ops [] [⟨some 72, .fad false 1 1 (.t 3), none⟩, ⟨some 73, .ld false 1 (.t 72), none⟩, ⟨some 74, .mv (.t 2), none⟩, ⟨some 75, .fad false 0 1 (.t 4), none⟩, ⟨some 76, .ld false 1 (.t 75), none⟩, ⟨some 77, .build [.d (.int .i64 0), .d (.int .i64 0)] [(0, (1, .t 74)), (1, (1, .t 76))], none⟩, ⟨some 78, .call N_ref05_Push [] [.t 73, .t 77], none⟩, ⟨some 71, .mv (.t 78), none⟩, ⟨some 79, .ext (.t 71) 0, none⟩, ⟨some 80, .ext (.t 71) 1, none⟩, ⟨some 11, .mv (.t 79), none⟩, ⟨some 12, .mv (.t 80), none⟩] [12, 68, 71, 72, 73, 74, 75, 76, 77, 78, 79, 80])
 (.seq (.draw [] [⟨some 81, .fad false 0 1 (.t 3), none⟩, ⟨some 82, .ld false 1 (.t 81), none⟩, ⟨some 83, .mv (.t 10), none⟩, ⟨some 84, .slc 8 (.t 82) none (some (.t 83)) none, none⟩, ⟨some 85, .app 8 (.c (.xsl [])) (.t 84), none⟩, ⟨some 86, .ld true 7 (.t 4), none⟩, ⟨some 87, .mv (.t 2), none⟩, ⟨some 88, .build [.d (.int .i64 0), .d (.int .i64 0), .d (.int .i64 0), .d (.int .i64 0), .d (.int .i64 0), .d (.int .i64 0), .d (.str []), .d (.int .i64 0)] [(0, (7, .t 86)), (7, (1, .t 87))], none⟩, ⟨some 89, .bsl 1 8 (.d (.agg [.int .i64 0, .int .i64 0, .int .i64 0, .int .i64 0, .int .i64 0, .int .i64 0, .str [], .int .i64 0])) [(0, .t 88)], none⟩, ⟨some 90, .app 8 (.t 85) (.t 89), none⟩, ⟨some 13, .mv (.t 90), none⟩] [[], [], [0, 1], [], [], [0, 1, 2, 3, 4], [0, 1, 2, 3, 4, 5], [0, 1, 2, 3, 4], [0, 1, 2, 3, 4], [], []] [2, 4, 81, 82, 83, 84, 85, 86, 87, 88, 89, 90])
 (.seq (.ops [] [⟨some 91, .mv (.t 13), none⟩, ⟨some 92, .fad false 0 1 (.t 3), none⟩, ⟨some 93, .ld false 1 (.t 92), none⟩, ⟨some 94, .mv (.t 10), none⟩, ⟨some 95, .slc 8 (.t 93) (some (.t 94)) none none, none⟩, ⟨some 96, .app 8 (.t 91) (.t 95), none⟩, ⟨some 97, .mv (.t 11), none⟩, ⟨some 98, .build [.xsl [], .xsl []] [(0, (1, .t 96)), (1, (1, .t 97))], none⟩, ⟨none, .st 2 (.t 6) (.t 98), none⟩, ⟨some 7, .mv (.c (.d (.int .i64 0))), none⟩] [3, 10, 11, 13, 91, 92, 93, 94, 95, 96, 97, 98])
 (.ret [6, 7]))))))))))
def r_ref06_Grant : List ARes := [.c 6 true 2, .t 7]
def fn_ref06_Grant : AFn := .code c_ref06_Grant r_ref06_Grant 99 true
def l_ref06_Validate_0 : ACode :=
 (.seq (.seq (.ops [] [⟨some 13, .mv (.t 3), none⟩, ⟨some 14, .fad false 0 1 (.t 1), none⟩, ⟨some 15, .ld false 1 (.t 14), none⟩, ⟨some 16, .len (.t 15), none⟩, ⟨some 17, .bin .lss (.t 13) (.t 16), none⟩] [13, 14, 15, 16])
 (.cond (.t 17) .skip (.exit 0 [1])))
 (.seq (.block 1 (.seq (.ops [] [⟨some 20, .fad false 0 1 (.t 1), none⟩, ⟨some 21, .ld false 1 (.t 20), none⟩, ⟨some 22, .mv (.t 3), none⟩, ⟨some 23, .iad 8 (.t 21) (.t 22), none⟩, ⟨some 24, .ld true 8 (.t 23), none⟩, ⟨some 4, .alloc (.d (.agg [.int .i64 0, .int .i64 0, .int .i64 0, .int .i64 0, .int .i64 0, .int .i64 0, .str [], .int .i64 0])), none⟩, ⟨none, .st 8 (.t 4) (.t 24), none⟩] [17, 20, 21, 22, 23, 24])
 (.seq (.seq (.ops [] [⟨some 25, .fad true 0 7 (.t 4), none⟩, ⟨some 26, .ld true 7 (.t 25), none⟩, ⟨some 27, .call N_ref03_Validate [] [.t 26], none⟩, ⟨some 5, .mv (.t 27), none⟩] [25, 26, 27])
 (.seq (.ops [] [⟨some 28, .mv (.t 5), none⟩, ⟨some 29, .bin .neq (.t 28) (.c (.d (.int .i64 0))), none⟩] [28])
 (.cond (.t 29) (.seq (.ops [] [⟨some 30, .mv (.t 5), none⟩, ⟨some 2, .mv (.t 30), none⟩] [1, 3, 4, 5, 29, 30])
 (.ret [2])) .skip)))
 (.block 2 (.seq (.ops [] [⟨some 32, .fad true 0 7 (.t 4), none⟩, ⟨some 33, .fad false 4 1 (.t 32), none⟩, ⟨some 34, .ld false 1 (.t 33), none⟩, ⟨some 35, .bin .eql (.t 34) (.c (.d (.int .i64 0))), none⟩, ⟨some 31, .mv (.t 35), none⟩] [5, 29, 32, 33, 34, 35])
 (.cond (.t 31) (.seq (.ops [] [⟨some 2, .mv (.c (.d (.int .i64 7))), none⟩] [1, 3, 4, 31])
 (.ret [2])) (.seq (.ops [] [⟨some 37, .fad false 7 1 (.t 4), none⟩, ⟨some 38, .ld false 1 (.t 37), none⟩, ⟨some 39, .bin .lss (.t 38) (.c (.d (.int .i64 0))), none⟩, ⟨some 40, .mv (.t 39), none⟩, ⟨some 41, .fad false 7 1 (.t 4), some (40, false)⟩, ⟨some 42, .ld false 1 (.t 41), some (40, false)⟩, ⟨some 43, .bin .gtr (.t 42) (.c (.d (.int .i64 1073741824))), some (40, false)⟩, ⟨some 44, .pick (.t 40) (.c (.d (.bool true))) (.t 43), none⟩, ⟨some 36, .mv (.t 44), none⟩] [31, 37, 38, 39, 40, 41, 42, 43, 44])
 (.cond (.t 36) (.seq (.ops [] [⟨some 2, .mv (.c (.d (.int .i64 1))), none⟩] [1, 3, 4, 36])
 (.ret [2])) (.seq (.draw [] [⟨some 46, .mv (.t 3), none⟩, ⟨some 47, .bin .gtr (.t 46) (.c (.d (.int .i64 0))), none⟩, ⟨some 48, .mv (.t 47), none⟩, ⟨some 49, .fad true 0 7 (.t 4), some (48, true)⟩, ⟨some 50, .fad false 0 1 (.t 49), some (48, true)⟩, ⟨some 51, .ld false 1 (.t 50), some (48, true)⟩, ⟨some 52, .fad false 0 1 (.t 1), some (48, true)⟩, ⟨some 53, .ld false 1 (.t 52), some (48, true)⟩, ⟨some 54, .mv (.t 3), some (48, true)⟩, ⟨some 55, .bin .sub (.t 54) (.c (.d (.int .i64 1))), some (48, true)⟩, ⟨some 56, .iad 8 (.t 53) (.t 55), some (48, true)⟩, ⟨some 57, .fad true 0 7 (.t 56), some (48, true)⟩, ⟨some 58, .fad false 0 1 (.t 57), some (48, true)⟩, ⟨some 59, .ld false 1 (.t 58), some (48, true)⟩, ⟨some 60, .bin .leq (.t 51) (.t 59), some (48, true)⟩, ⟨some 61, .pick (.t 48) (.t 60) (.c (.d (.bool false))), none⟩, ⟨some 45, .mv (.t 61), none⟩] [[], [], [], [], [], [], [3, 4, 5], [3, 4, 5], [3, 4, 5, 6, 7], [3, 4, 5, 6, 7], [3, 4, 5], [3, 4, 5], [3, 4, 5], [3, 4, 5], [], [], []] [4, 36, 46, 47, 48, 49, 50, 51, 52, 53, 54, 55, 56, 57, 58, 59, 60, 61])
 (.cond (.t 45) (.seq (.ops [] [⟨some 2, .mv (.c (.d (.int .i64 11))), none⟩] [1, 3, 45])
 (.ret [2])) .skip))))))))))
 (.ops [] [⟨some 18, .mv (.t 3), none⟩, ⟨some 19, .bin .add (.t 18) (.c (.d (.int .i64 1))), none⟩, ⟨some 3, .mv (.t 19), none⟩] [18, 19, 45])))
def l_ref06_Validate_1 : ACode :=
 (.seq (.seq (.ops [] [⟨some 75, .mv (.t 7), none⟩, ⟨some 76, .fad false 1 1 (.t 1), none⟩, ⟨some 77, .ld false 1 (.t 76), none⟩, ⟨some 78, .len (.t 77), none⟩, ⟨some 79, .bin .lss (.t 75) (.t 78), none⟩] [75, 76, 77, 78])
 (.cond (.t 79) .skip (.exit 3 [])))
 (.seq (.block 4 (.seq (.draw [] [⟨some 82, .ld true 2 (.t 1), none⟩, ⟨some 83, .fad false 1 1 (.t 1), none⟩, ⟨some 84, .ld false 1 (.t 83), none⟩, ⟨some 85, .mv (.t 7), none⟩, ⟨some 86, .iad 2 (.t 84) (.t 85), none⟩, ⟨some 87, .fad false 1 1 (.t 86), none⟩, ⟨some 88, .ld false 1 (.t 87), none⟩, ⟨some 89, .call N_ref06_find [] [.t 82, .t 88], none⟩, ⟨some 8, .mv (.t 89), none⟩] [[], [0], [0], [0, 1, 2], [0], [0], [0], [], []] [79, 82, 83, 84, 85, 86, 87, 88, 89])
 (.seq (.draw [] [⟨some 90, .mv (.t 8), none⟩, ⟨some 91, .bin .lss (.t 90) (.c (.d (.int .i64 0))), none⟩, ⟨some 92, .mv (.t 91), none⟩, ⟨some 93, .fad false 0 1 (.t 1), some (92, false)⟩, ⟨some 94, .ld false 1 (.t 93), some (92, false)⟩, ⟨some 95, .mv (.t 8), some (92, false)⟩, ⟨some 96, .iad 8 (.t 94) (.t 95), some (92, false)⟩, ⟨some 97, .fad false 7 1 (.t 96), some (92, false)⟩, ⟨some 98, .ld false 1 (.t 97), some (92, false)⟩, ⟨some 99, .fad false 1 1 (.t 1), some (92, false)⟩, ⟨some 100, .ld false 1 (.t 99), some (92, false)⟩, ⟨some 101, .mv (.t 7), some (92, false)⟩, ⟨some 102, .iad 2 (.t 100) (.t 101), some (92, false)⟩, ⟨some 103, .fad false 0 1 (.t 102), some (92, false)⟩, ⟨some 104, .ld false 1 (.t 103), some (92, false)⟩, ⟨some 105, .bin .neq (.t 98) (.t 104), some (92, false)⟩, ⟨some 106, .pick (.t 92) (.c (.d (.bool true))) (.t 105), none⟩] [[], [], [], [], [], [3, 4], [], [], [], [3, 4, 5, 6, 7, 8], [3, 4, 5, 6, 7, 8], [3, 4, 5, 6, 7, 8, 9, 10], [3, 4, 5, 6, 7, 8], [3, 4, 5, 6, 7, 8], [3, 4, 5, 6, 7, 8], [], []] [8, 90, 91, 92, 93, 94, 95, 96, 97, 98, 99, 100, 101, 102, 103, 104, 105])
 (.cond (.t 106) (.seq (.ops [] [⟨some 2, .mv (.c (.d (.int .i64 7))), none⟩] [1, 7, 106])
 (.ret [2])) .skip))))
 (.ops [] [⟨some 80, .mv (.t 7), none⟩, ⟨some 81, .bin .add (.t 80) (.c (.d (.int .i64 1))), none⟩, ⟨some 7, .mv (.t 81), none⟩] [80, 81, 106])))
def c_ref06_Validate : ACode :=
 (.seq (.ops [] [⟨some 1, .box (.t 0), none⟩, ⟨some 2, .mv (.c (.d (.int .i64 0))), none⟩] [0, 2])
 (.seq (.seq (.ops [] [⟨some 9, .fad false 0 1 (.t 1), none⟩, ⟨some 10, .ld false 1 (.t 9), none⟩, ⟨some 11, .len (.t 10), none⟩, ⟨some 12, .bin .gtr (.t 11) (.c (.d (.int .i64 12))), none⟩] [9, 10, 11])
 (.cond (.t 12) (.seq (.ops [] [⟨some 2, .mv (.c (.d (.int .i64 2))), none⟩] [1, 12])
 (.ret [2])) .skip))
 (.seq (.seq (.ops [] [⟨some 3, .mv (.c (.d (.int .i64 0))), none⟩] [12])
 (.block 0 (.loop [] l_ref06_Validate_0)))
 (.seq (.seq (.ops [] [⟨some 62, .fad false 1 1 (.t 1), none⟩, ⟨some 63, .ld false 1 (.t 62), none⟩, ⟨some 64, .call N_ref05_Validate [] [.t 63], none⟩, ⟨some 6, .mv (.t 64), none⟩] [3, 17, 62, 63, 64])
 (.seq (.ops [] [⟨some 65, .mv (.t 6), none⟩, ⟨some 66, .bin .neq (.t 65) (.c (.d (.int .i64 0))), none⟩] [65])
 (.cond (.t 66) (.seq (.ops [] [⟨some 67, .mv (.t 6), none⟩, ⟨some 2, .mv (.t 67), none⟩] [1, 6, 66, 67])
 (.ret [2])) .skip)))
 (.seq (.seq (.ops [] [⟨some 68, .fad false 1 1 (.t 1), none⟩, ⟨some 69, .ld false 1 (.t 68), none⟩, ⟨some 70, .len (.t 69), none⟩, ⟨some 71, .fad false 0 1 (.t 1), none⟩, ⟨some 72, .ld false 1 (.t 71), none⟩, ⟨some 73, .len (.t 72), none⟩, ⟨some 74, .bin .neq (.t 70) (.t 73), none⟩] [6, 66, 68, 69, 70, 71, 72, 73])
 (.cond (.t 74) (.seq (.ops [] [⟨some 2, .mv (.c (.d (.int .i64 7))), none⟩] [1, 74])
 (.ret [2])) .skip))
 (.seq (.seq (.ops [] [⟨some 7, .mv (.c (.d (.int .i64 0))), none⟩] [74])
 (.block 3 (.loop [] l_ref06_Validate_1)))
 (.seq (.ops [] [⟨some 2, .mv (.c (.d (.int .i64 0))), none⟩] [1, 7, 79])
 (.ret [2]))))))))
def r_ref06_Validate : List ARes := [.t 2]
def fn_ref06_Validate : AFn := .code c_ref06_Validate r_ref06_Validate 107 true
def c_ref03_Validate : ACode :=
 (.seq (.ops [] [⟨some 1, .box (.t 0), none⟩, ⟨some 2, .mv (.c (.d (.int .i64 0))), none⟩] [0, 2])
 (.seq (.seq (.ops [] [⟨some 3, .fad false 0 1 (.t 1), none⟩, ⟨some 4, .ld false 1 (.t 3), none⟩, ⟨some 5, .call N_ref03_in [] [.t 4, .c (.d (.int .i64 1)), .c (.d (.int .i64 1073741824))], none⟩, ⟨some 6, .un .not (.t 5), none⟩, ⟨some 7, .mv (.t 6), none⟩, ⟨some 8, .fad false 1 1 (.t 1), some (7, false)⟩, ⟨some 9, .ld false 1 (.t 8), some (7, false)⟩, ⟨some 10, .call N_ref03_in [] [.t 9, .c (.d (.int .i64 0)), .c (.d (.int .i64 65535))], some (7, false)⟩, ⟨some 11, .un .not (.t 10), some (7, false)⟩, ⟨some 12, .pick (.t 7) (.c (.d (.bool true))) (.t 11), none⟩, ⟨some 13, .mv (.t 12), none⟩, ⟨some 14, .fad false 2 1 (.t 1), some (13, false)⟩, ⟨some 15, .ld false 1 (.t 14), some (13, false)⟩, ⟨some 16, .call N_ref03_in [] [.t 15, .c (.d (.int .i64 0)), .c (.d (.int .i64 65536))], some (13, false)⟩, ⟨some 17, .un .not (.t 16), some (13, false)⟩, ⟨some 18, .pick (.t 13) (.c (.d (.bool true))) (.t 17), none⟩, ⟨some 19, .mv (.t 18), none⟩, ⟨some 20, .fad false 3 1 (.t 1), some (19, false)⟩, ⟨some 21, .ld false 1 (.t 20), some (19, false)⟩, ⟨some 22, .call N_ref03_in [] [.t 21, .c (.d (.int .i64 0)), .c (.d (.int .i64 8))], some (19, false)⟩, ⟨some 23, .un .not (.t 22), some (19, false)⟩, ⟨some 24, .pick (.t 19) (.c (.d (.bool true))) (.t 23), none⟩, ⟨some 25, .mv (.t 24), none⟩, ⟨some 26, .fad false 4 1 (.t 1), some (25, false)⟩, ⟨some 27, .ld false 1 (.t 26), some (25, false)⟩, ⟨some 28, .fad false 3 1 (.t 1), some (25, false)⟩, ⟨some 29, .ld false 1 (.t 28), some (25, false)⟩, ⟨some 30, .call N_ref03_in [] [.t 27, .t 29, .c (.d (.int .i64 65536))], some (25, false)⟩, ⟨some 31, .un .not (.t 30), some (25, false)⟩, ⟨some 32, .pick (.t 25) (.c (.d (.bool true))) (.t 31), none⟩, ⟨some 33, .mv (.t 32), none⟩, ⟨some 34, .fad false 5 1 (.t 1), some (33, false)⟩, ⟨some 35, .ld false 1 (.t 34), some (33, false)⟩, ⟨some 36, .call N_ref03_in [] [.t 35, .c (.d (.int .i64 0)), .c (.d (.int .i64 1073741824))], some (33, false)⟩, ⟨some 37, .un .not (.t 36), some (33, false)⟩, ⟨some 38, .pick (.t 33) (.c (.d (.bool true))) (.t 37), none⟩] [3, 4, 5, 6, 7, 8, 9, 10, 11, 12, 13, 14, 15, 16, 17, 18, 19, 20, 21, 22, 23, 24, 25, 26, 27, 28, 29, 30, 31, 32, 33, 34, 35, 36, 37])
 (.cond (.t 38) (.seq (.ops [] [⟨some 2, .mv (.c (.d (.int .i64 1))), none⟩] [1, 38])
 (.ret [2])) .skip))
 (.seq (.seq (.ops [] [⟨some 39, .fad false 6 1 (.t 1), none⟩, ⟨some 40, .ld false 1 (.t 39), none⟩, ⟨some 41, .lens (.t 40), none⟩, ⟨some 42, .bin .gtr (.t 41) (.c (.d (.int .i64 16))), none⟩] [1, 38, 39, 40, 41])
 (.cond (.t 42) (.seq (.ops [] [⟨some 2, .mv (.c (.d (.int .i64 2))), none⟩] [42])
 (.ret [2])) .skip))
 (.seq (.ops [] [⟨some 2, .mv (.c (.d (.int .i64 0))), none⟩] [42])
 (.ret [2])))))
def r_ref03_Validate : List ARes := [.t 2]
def fn_ref03_Validate : AFn := .code c_ref03_Validate r_ref03_Validate 43 true
def c_ref03_in : ACode :=
 (.seq (.ops [] [⟨some 6, .mv (.c (.d (.bool false))), none⟩] [6])
 (.seq (.ops [] [⟨some 7, .mv (.t 0), none⟩, ⟨some 8, .mv (.t 1), none⟩, ⟨some 9, .bin .geq (.t 7) (.t 8), none⟩, ⟨some 10, .mv (.t 9), none⟩, ⟨some 11, .mv (.t 0), some (10, true)⟩, ⟨some 12, .mv (.t 2), some (10, true)⟩, ⟨some 13, .bin .leq (.t 11) (.t 12), some (10, true)⟩, ⟨some 14, .pick (.t 10) (.t 13) (.c (.d (.bool false))), none⟩, ⟨some 6, .mv (.t 14), none⟩] [0, 1, 2, 7, 8, 9, 10, 11, 12, 13, 14])
 (.ret [6])))
def r_ref03_in : List ARes := [.t 6]
def fn_ref03_in : AFn := .code c_ref03_in r_ref03_in 15 true
def l_ref05_Validate_0 : ACode :=
 (.seq (.seq (.ops [] [⟨some 9, .mv (.t 3), none⟩, ⟨some 10, .mv (.t 0), none⟩, ⟨some 11, .len (.t 10), none⟩, ⟨some 12, .bin .lss (.t 9) (.t 11), none⟩] [9, 10, 11])
 (.cond (.t 12) .skip (.exit 0 [0])))
 (.seq (.block 1 (.seq (.ops [] [⟨some 15, .mv (.t 0), none⟩, ⟨some 16, .mv (.t 3), none⟩, ⟨some 17, .iad 2 (.t 15) (.t 16), none⟩, ⟨some 18, .ld true 2 (.t 17), none⟩, ⟨some 19, .call N_ref05_sound [] [.t 18], none⟩, ⟨some 20, .un .not (.t 19), none⟩] [12, 15, 16, 17, 18, 19])
 (.cond (.t 20) (.seq (.ops [] [⟨some 2, .mv (.c (.d (.int .i64 1))), none⟩] [0, 3, 20])
 (.ret [2])) .skip)))
 (.ops [] [⟨some 13, .mv (.t 3), none⟩, ⟨some 14, .bin .add (.t 13) (.c (.d (.int .i64 1))), none⟩, ⟨some 3, .mv (.t 14), none⟩] [13, 14, 20])))
def l_ref05_Validate_1 : ACode :=
 (.seq (.seq (.ops [] [⟨some 21, .mv (.t 4), none⟩, ⟨some 22, .mv (.t 0), none⟩, ⟨some 23, .len (.t 22), none⟩, ⟨some 24, .bin .lss (.t 21) (.t 23), none⟩] [21, 22, 23])
 (.cond (.t 24) .skip (.exit 2 [0])))
 (.seq (.block 3 (.seq (.ops [] [⟨some 27, .mv (.t 0), none⟩, ⟨some 28, .mv (.t 0), none⟩, ⟨some 29, .mv (.t 4), none⟩, ⟨some 30, .iad 2 (.t 28) (.t 29), none⟩, ⟨some 31, .fad false 1 1 (.t 30), none⟩, ⟨some 32, .ld false 1 (.t 31), none⟩, ⟨some 33, .call N_ref05_index [] [.t 27, .t 32], none⟩, ⟨some 34, .mv (.t 4), none⟩, ⟨some 35, .bin .neq (.t 33) (.t 34), none⟩] [24, 27, 28, 29, 30, 31, 32, 33, 34])
 (.cond (.t 35) (.seq (.ops [] [⟨some 2, .mv (.c (.d (.int .i64 10))), none⟩] [0, 4, 35])
 (.ret [2])) .skip)))
 (.ops [] [⟨some 25, .mv (.t 4), none⟩, ⟨some 26, .bin .add (.t 25) (.c (.d (.int .i64 1))), none⟩, ⟨some 4, .mv (.t 26), none⟩] [25, 26, 35])))
def l_ref05_Validate_2 : ACode :=
 (.seq (.seq (.ops [] [⟨some 36, .mv (.t 5), none⟩, ⟨some 37, .mv (.t 0), none⟩, ⟨some 38, .len (.t 37), none⟩, ⟨some 39, .bin .lss (.t 36) (.t 38), none⟩] [36, 37, 38])
 (.cond (.t 39) .skip (.exit 4 [])))
 (.seq (.block 5 (.seq (.draw [] [⟨some 42, .mv (.t 0), none⟩, ⟨some 43, .mv (.t 5), none⟩, ⟨some 44, .iad 2 (.t 42) (.t 43), none⟩, ⟨some 45, .ld true 2 (.t 44), none⟩, ⟨some 46, .mv (.t 0), none⟩, ⟨some 47, .mv (.t 5), none⟩, ⟨some 48, .bin .sub (.t 47) (.c (.d (.int .i64 1))), none⟩, ⟨some 49, .bin .quo (.t 48) (.c (.d (.int .i64 2))), none⟩, ⟨some 50, .iad 2 (.t 46) (.t 49), none⟩, ⟨some 51, .ld true 2 (.t 50), none⟩, ⟨some 52, .call N_ref05_before [] [.t 45, .t 51], none⟩] [[], [0], [], [], [0, 1, 2, 3], [0, 1, 2, 3, 4], [0, 1, 2, 3, 4], [0, 1, 2, 3, 4], [0, 1, 2, 3], [0, 1, 2, 3], []] [39, 42, 43, 44, 45, 46, 47, 48, 49, 50, 51])
 (.cond (.t 52) (.seq (.ops [] [⟨some 2, .mv (.c (.d (.int .i64 11))), none⟩] [0, 5, 52])
 (.ret [2])) .skip)))
 (.ops [] [⟨some 40, .mv (.t 5), none⟩, ⟨some 41, .bin .add (.t 40) (.c (.d (.int .i64 1))), none⟩, ⟨some 5, .mv (.t 41), none⟩] [40, 41, 52])))
def c_ref05_Validate : ACode :=
 (.seq (.ops [] [⟨some 2, .mv (.c (.d (.int .i64 0))), none⟩] [2])
 (.seq (.seq (.ops [] [⟨some 6, .mv (.t 0), none⟩, ⟨some 7, .len (.t 6), none⟩, ⟨some 8, .bin .gtr (.t 7) (.c (.d (.int .i64 12))), none⟩] [6, 7])
 (.cond (.t 8) (.seq (.ops [] [⟨some 2, .mv (.c (.d (.int .i64 2))), none⟩] [0, 8])
 (.ret [2])) .skip))
 (.seq (.seq (.ops [] [⟨some 3, .mv (.c (.d (.int .i64 0))), none⟩] [8])
 (.block 0 (.loop [] l_ref05_Validate_0)))
 (.seq (.seq (.ops [] [⟨some 4, .mv (.c (.d (.int .i64 0))), none⟩] [3, 12])
 (.block 2 (.loop [] l_ref05_Validate_1)))
 (.seq (.seq (.ops [] [⟨some 5, .mv (.c (.d (.int .i64 1))), none⟩] [4, 24])
 (.block 4 (.loop [] l_ref05_Validate_2)))
 (.seq (.ops [] [⟨some 2, .mv (.c (.d (.int .i64 0))), none⟩] [0, 5, 39])
 (.ret [2])))))))
def r_ref05_Validate : List ARes := [.t 2]
def fn_ref05_Validate : AFn := .code c_ref05_Validate r_ref05_Validate 53 true
def c_ref05_sound : ACode :=
 (.seq (.ops [] [⟨some 1, .box (.t 0), none⟩, ⟨some 2, .mv (.c (.d (.bool false))), none⟩] [0, 2])
 (.seq (.ops [] [⟨some 3, .fad false 0 1 (.t 1), none⟩, ⟨some 4, .ld false 1 (.t 3), none⟩, ⟨some 5, .bin .geq (.t 4) (.c (.d (.int .i64 0))), none⟩, ⟨some 6, .mv (.t 5), none⟩, ⟨some 7, .fad false 0 1 (.t 1), some (6, true)⟩, ⟨some 8, .ld false 1 (.t 7), some (6, true)⟩, ⟨some 9, .bin .leq (.t 8) (.c (.d (.int .i64 1073741824))), some (6, true)⟩, ⟨some 10, .pick (.t 6) (.t 9) (.c (.d (.bool false))), none⟩, ⟨some 11, .mv (.t 10), none⟩, ⟨some 12, .fad false 1 1 (.t 1), some (11, true)⟩, ⟨some 13, .ld false 1 (.t 12), some (11, true)⟩, ⟨some 14, .bin .geq (.t 13) (.c (.d (.int .i64 1))), some (11, true)⟩, ⟨some 15, .pick (.t 11) (.t 14) (.c (.d (.bool false))), none⟩, ⟨some 16, .mv (.t 15), none⟩, ⟨some 17, .fad false 1 1 (.t 1), some (16, true)⟩, ⟨some 18, .ld false 1 (.t 17), some (16, true)⟩, ⟨some 19, .bin .leq (.t 18) (.c (.d (.int .i64 1073741824))), some (16, true)⟩, ⟨some 20, .pick (.t 16) (.t 19) (.c (.d (.bool false))), none⟩, ⟨some 2, .mv (.t 20), none⟩] [1, 3, 4, 5, 6, 7, 8, 9, 10, 11, 12, 13, 14, 15, 16, 17, 18, 19, 20])
 (.ret [2])))
def r_ref05_sound : List ARes := [.t 2]
def fn_ref05_sound : AFn := .code c_ref05_sound r_ref05_sound 21 true
def l_ref05_index_0 : ACode :=
 (.seq (.seq (.ops [] [⟨some 6, .mv (.t 5), none⟩, ⟨some 7, .mv (.t 0), none⟩, ⟨some 8, .len (.t 7), none⟩, ⟨some 9, .bin .lss (.t 6) (.t 8), none⟩] [6, 7, 8])
 (.cond (.t 9) .skip (.exit 0 [])))
 (.seq (.block 1 (.seq (.ops [] [⟨some 12, .mv (.t 0), none⟩, ⟨some 13, .mv (.t 5), none⟩, ⟨some 14, .iad 2 (.t 12) (.t 13), none⟩, ⟨some 15, .fad false 1 1 (.t 14), none⟩, ⟨some 16, .ld false 1 (.t 15), none⟩, ⟨some 17, .mv (.t 1), none⟩, ⟨some 18, .bin .eql (.t 16) (.t 17), none⟩] [9, 12, 13, 14, 15, 16, 17])
 (.cond (.t 18) (.seq (.ops [] [⟨some 19, .mv (.t 5), none⟩, ⟨some 4, .mv (.t 19), none⟩] [0, 1, 5, 18, 19])
 (.ret [4])) .skip)))
 (.ops [] [⟨some 10, .mv (.t 5), none⟩, ⟨some 11, .bin .add (.t 10) (.c (.d (.int .i64 1))), none⟩, ⟨some 5, .mv (.t 11), none⟩] [10, 11, 18])))
def c_ref05_index : ACode :=
 (.seq (.ops [] [⟨some 4, .mv (.c (.d (.int .i64 0))), none⟩] [4])
 (.seq (.seq (.ops [] [⟨some 5, .mv (.c (.d (.int .i64 0))), none⟩] [])
 (.block 0 (.loop [] l_ref05_index_0)))
 (.seq (.ops [] [⟨some 4, .mv (.c (.d (.int .i64 (-1)))), none⟩] [0, 1, 5, 9])
 (.ret [4]))))
def r_ref05_index : List ARes := [.t 4]
def fn_ref05_index : AFn := .code c_ref05_index r_ref05_index 20 true
def c_ref05_before : ACode :=
 (.seq (.ops [] [⟨some 2, .box (.t 0), none⟩, ⟨some 3, .box (.t 1), none⟩, ⟨some 4, .mv (.c (.d (.bool false))), none⟩] [0, 1, 4])
 (.seq (.ops [] [⟨some 5, .fad false 0 1 (.t 2), none⟩, ⟨some 6, .ld false 1 (.t 5), none⟩, ⟨some 7, .fad false 0 1 (.t 3), none⟩, ⟨some 8, .ld false 1 (.t 7), none⟩, ⟨some 9, .bin .lss (.t 6) (.t 8), none⟩, ⟨some 10, .mv (.t 9), none⟩, ⟨some 11, .fad false 0 1 (.t 2), some (10, false)⟩, ⟨some 12, .ld false 1 (.t 11), some (10, false)⟩, ⟨some 13, .fad false 0 1 (.t 3), some (10, false)⟩, ⟨some 14, .ld false 1 (.t 13), some (10, false)⟩, ⟨some 15, .bin .eql (.t 12) (.t 14), some (10, false)⟩, ⟨some 16, .mv (.t 15), some (10, false)⟩, ⟨some 17, .fad false 1 1 (.t 2), some (16, true)⟩, ⟨some 18, .ld false 1 (.t 17), some (16, true)⟩, ⟨some 19, .fad false 1 1 (.t 3), some (16, true)⟩, ⟨some 20, .ld false 1 (.t 19), some (16, true)⟩, ⟨some 21, .bin .lss (.t 18) (.t 20), some (16, true)⟩, ⟨some 22, .pick (.t 16) (.t 21) (.c (.d (.bool false))), some (10, false)⟩, ⟨some 23, .pick (.t 10) (.c (.d (.bool true))) (.t 22), none⟩, ⟨some 4, .mv (.t 23), none⟩] [2, 3, 5, 6, 7, 8, 9, 10, 11, 12, 13, 14, 15, 16, 17, 18, 19, 20, 21, 22, 23])
 (.ret [4])))
def r_ref05_before : List ARes := [.t 4]
def fn_ref05_before : AFn := .code c_ref05_before r_ref05_before 24 true
def l_ref06_find_0 : ACode :=
 (.seq (.seq (.ops [] [⟨some 6, .mv (.t 5), none⟩, ⟨some 7, .fad false 0 1 (.t 2), none⟩, ⟨some 8, .ld false 1 (.t 7), none⟩, ⟨some 9, .len (.t 8), none⟩, ⟨some 10, .bin .lss (.t 6) (.t 9), none⟩] [6, 7, 8, 9])
 (.cond (.t 10) .skip (.exit 0 [])))
 (.seq (.block 1 (.seq (.ops [] [⟨some 13, .fad false 0 1 (.t 2), none⟩, ⟨some 14, .ld false 1 (.t 13), none⟩, ⟨some 15, .mv (.t 5), none⟩, ⟨some 16, .iad 8 (.t 14) (.t 15), none⟩, ⟨some 17, .fad true 0 7 (.t 16), none⟩, ⟨some 18, .fad false 0 1 (.t 17), none⟩, ⟨some 19, .ld false 1 (.t 18), none⟩, ⟨some 20, .mv (.t 1), none⟩, ⟨some 21, .bin .eql (.t 19) (.t 20), none⟩] [10, 13, 14, 15, 16, 17, 18, 19, 20])
 (.cond (.t 21) (.seq (.ops [] [⟨some 22, .mv (.t 5), none⟩, ⟨some 4, .mv (.t 22), none⟩] [1, 2, 5, 21, 22])
 (.ret [4])) .skip)))
 (.ops [] [⟨some 11, .mv (.t 5), none⟩, ⟨some 12, .bin .add (.t 11) (.c (.d (.int .i64 1))), none⟩, ⟨some 5, .mv (.t 12), none⟩] [11, 12, 21])))
def c_ref06_find : ACode :=
 (.seq (.ops [] [⟨some 2, .box (.t 0), none⟩, ⟨some 4, .mv (.c (.d (.int .i64 0))), none⟩] [0, 4])
 (.seq (.seq (.ops [] [⟨some 5, .mv (.c (.d (.int .i64 0))), none⟩] [])
 (.block 0 (.loop [] l_ref06_find_0)))
 (.seq (.ops [] [⟨some 4, .mv (.c (.d (.int .i64 (-1)))), none⟩] [1, 2, 5, 10])
 (.ret [4]))))
def r_ref06_find : List ARes := [.t 4]
def fn_ref06_find : AFn := .code c_ref06_find r_ref06_find 23 true
def c_ref05_Push : ACode :=
 (.seq (.ops [] [⟨some 3, .box (.t 1), none⟩, ⟨some 4, .mv (.c (.xsl [])), none⟩, ⟨some 5, .mv (.c (.d (.int .i64 0))), none⟩] [1, 4, 5])
 (.seq (.seq (.ops [] [⟨some 7, .mv (.t 0), none⟩, ⟨some 8, .call N_ref05_Validate [] [.t 7], none⟩, ⟨some 6, .mv (.t 8), none⟩] [7, 8])
 (.seq (.ops [] [⟨some 9, .mv (.t 6), none⟩, ⟨some 10, .bin .neq (.t 9) (.c (.d (.int .i64 0))), none⟩] [9])
 (.cond (.t 10) (.seq (.ops [] [⟨some 11, .mv (.t 6), none⟩, ⟨some 4, .mv (.c (.xsl [])), none⟩, ⟨some 5, .mv (.t 11), none⟩] [0, 3, 6, 10, 11])
 (.ret [4, 5])) .skip)))
 (.seq (.block 0 (.seq (.ops [] [⟨some 13, .ld true 2 (.t 3), none⟩, ⟨some 14, .call N_ref05_sound [] [.t 13], none⟩, ⟨some 15, .un .not (.t 14), none⟩, ⟨some 12, .mv (.t 15), none⟩] [6, 10, 13, 14, 15])
 (.cond (.t 12) (.seq (.ops [] [⟨some 4, .mv (.c (.xsl [])), none⟩, ⟨some 5, .mv (.c (.d (.int .i64 1))), none⟩] [0, 3, 12])
 (.ret [4, 5])) (.seq (.ops [] [⟨some 17, .mv (.t 0), none⟩, ⟨some 18, .len (.t 17), none⟩, ⟨some 19, .bin .eql (.t 18) (.c (.d (.int .i64 12))), none⟩, ⟨some 16, .mv (.t 19), none⟩] [12, 17, 18, 19])
 (.cond (.t 16) (.seq (.ops [] [⟨some 4, .mv (.c (.xsl [])), none⟩, ⟨some 5, .mv (.c (.d (.int .i64 3))), none⟩] [0, 3, 16])
 (.ret [4, 5])) (.seq (.ops [] [⟨some 21, .mv (.t 0), none⟩, ⟨some 22, .fad false 1 1 (.t 3), none⟩, ⟨some 23, .ld false 1 (.t 22), none⟩, ⟨some 24, .call N_ref05_index [] [.t 21, .t 23], none⟩, ⟨some 25, .bin .geq (.t 24) (.c (.d (.int .i64 0))), none⟩, ⟨some 20, .mv (.t 25), none⟩] [16, 21, 22, 23, 24, 25])
 (.cond (.t 20) (.seq (.ops [] [⟨some 4, .mv (.c (.xsl [])), none⟩, ⟨some 5, .mv (.c (.d (.int .i64 10))), none⟩] [0, 3, 20])
 (.ret [4, 5])) .skip)))))))
 (.seq (.draw [] [⟨some 26, .mv (.t 0), none⟩, ⟨some 27, .app 2 (.c (.xsl [])) (.t 26), none⟩, ⟨some 28, .ld true 2 (.t 3), none⟩, ⟨some 29, .bsl 1 2 (.d (.agg [.int .i64 0, .int .i64 0])) [(0, .t 28)], none⟩, ⟨some 30, .app 2 (.t 27) (.t 29), none⟩, ⟨some 31, .mv (.t 0), none⟩, ⟨some 32, .len (.t 31), none⟩, ⟨some 33, .call N_ref05_up [false, false, true] [.t 30, .t 32], none⟩, ⟨some 4, .mv (.t 33), none⟩, ⟨some 5, .mv (.c (.d (.int .i64 0))), none⟩] [[], [], [0, 1], [0, 1], [], [0, 1, 2, 3, 4], [0, 1, 2, 3, 4], [], [], []] [0, 3, 20, 26, 27, 28, 29, 30, 31, 32, 33])
 (.ret [4, 5])))))
def r_ref05_Push : List ARes := [.t 4, .t 5]
def fn_ref05_Push : AFn := .code c_ref05_Push r_ref05_Push 34 true
def l_ref05_up_0 : ACode :=
 (.seq (.seq (.draw [] [⟨some 5, .mv (.t 1), none⟩, ⟨some 6, .bin .gtr (.t 5) (.c (.d (.int .i64 0))), none⟩, ⟨some 7, .mv (.t 6), none⟩, ⟨some 8, .mv (.t 0), some (7, true)⟩, ⟨some 9, .mv (.t 1), some (7, true)⟩, ⟨some 10, .iad 2 (.t 8) (.t 9), some (7, true)⟩, ⟨some 11, .ld true 2 (.t 10), some (7, true)⟩, ⟨some 12, .mv (.t 0), some (7, true)⟩, ⟨some 13, .mv (.t 1), some (7, true)⟩, ⟨some 14, .bin .sub (.t 13) (.c (.d (.int .i64 1))), some (7, true)⟩, ⟨some 15, .bin .quo (.t 14) (.c (.d (.int .i64 2))), some (7, true)⟩, ⟨some 16, .iad 2 (.t 12) (.t 15), some (7, true)⟩, ⟨some 17, .ld true 2 (.t 16), some (7, true)⟩, ⟨some 18, .call N_ref05_before [] [.t 11, .t 17], some (7, true)⟩, ⟨some 19, .pick (.t 7) (.t 18) (.c (.d (.bool false))), none⟩] [[], [], [], [], [3], [], [], [3, 4, 5, 6], [3, 4, 5, 6, 7], [3, 4, 5, 6, 7], [3, 4, 5, 6, 7], [3, 4, 5, 6], [3, 4, 5, 6], [], []] [5, 6, 7, 8, 9, 10, 11, 12, 13, 14, 15, 16, 17, 18])
 (.cond (.t 19) .skip (.exit 0 [0])))
 (.block 1 (.seq (.ops [] [⟨some 20, .mv (.t 0), none⟩, ⟨some 21, .mv (.t 1), none⟩, ⟨some 22, .mv (.t 1), none⟩, ⟨some 23, .bin .sub (.t 22) (.c (.d (.int .i64 1))), none⟩, ⟨some 24, .bin .quo (.t 23) (.c (.d (.int .i64 2))), none⟩, ⟨some 25, .call N_ref05_swap [] [.t 20, .t 21, .t 24], none⟩, ⟨some 0, .mv (.t 25), none⟩] [19, 20, 21, 22, 23, 24, 25])
 (.ops [] [⟨some 26, .mv (.t 1), none⟩, ⟨some 27, .bin .sub (.t 26) (.c (.d (.int .i64 1))), none⟩, ⟨some 28, .bin .quo (.t 27) (.c (.d (.int .i64 2))), none⟩, ⟨some 1, .mv (.t 28), none⟩] [26, 27, 28]))))
def c_ref05_up : ACode :=
 (.seq (.ops [] [⟨some 4, .mv (.c (.xsl [])), none⟩] [4])
 (.seq (.block 0 (.loop [] l_ref05_up_0))
 (.seq (.ops [] [⟨some 29, .mv (.t 0), none⟩, ⟨some 4, .mv (.t 29), none⟩] [0, 1, 19, 29])
 (.ret [4]))))
def r_ref05_up : List ARes := [.t 4]
def fn_ref05_up : AFn := .code c_ref05_up r_ref05_up 30 true
def c_ref05_swap : ACode :=
 (.seq (.ops [] [⟨some 6, .mv (.c (.xsl [])), none⟩] [6])
 (.seq (.ops [] [⟨some 8, .mv (.t 0), none⟩, ⟨some 9, .app 2 (.c (.xsl [])) (.t 8), none⟩, ⟨some 7, .mv (.t 9), none⟩] [8, 9])
 (.seq (.draw [18] [⟨some 10, .mv (.t 7), none⟩, ⟨some 11, .mv (.t 1), none⟩, ⟨some 12, .mv (.t 7), none⟩, ⟨some 13, .mv (.t 2), none⟩, ⟨some 14, .mv (.t 0), none⟩, ⟨some 15, .mv (.t 2), none⟩, ⟨some 16, .iad 2 (.t 14) (.t 15), none⟩, ⟨some 17, .ld true 2 (.t 16), none⟩, ⟨some 18, .mv (.t 0), none⟩, ⟨some 19, .mv (.t 1), none⟩, ⟨some 20, .iad 2 (.t 18) (.t 19), none⟩, ⟨some 21, .ld true 2 (.t 20), none⟩, ⟨some 22, .iad 2 (.t 10) (.t 11), none⟩, ⟨none, .st 2 (.t 22) (.t 17), none⟩, ⟨some 23, .iad 2 (.t 12) (.t 13), none⟩, ⟨none, .st 2 (.t 23) (.t 21), none⟩] [[], [0], [0, 1], [0, 1, 2], [0, 1, 2, 3], [0, 1, 2, 3, 4], [0, 1, 2, 3], [0, 1, 2, 3], [0, 1, 2, 3, 4, 5, 6, 7], [0, 1, 2, 3, 4, 5, 6, 7, 8], [0, 1, 2, 3, 4, 5, 6, 7], [0, 1, 2, 3, 4, 5, 6, 7], [2, 3], [2, 3], [], []] [0, 1, 2, 10, 11, 12, 13, 14, 15, 16, 17, 18, 19, 20, 21, 22, 23])
 (.seq (.ops [] [⟨some 24, .mv (.t 7), none⟩, ⟨some 6, .mv (.t 24), none⟩] [7, 24])
 (.ret [6])))))
def r_ref05_swap : List ARes := [.t 6]
def fn_ref05_swap : AFn := .code c_ref05_swap r_ref05_swap 25 true
def c_base_Src_Range : ACode :=
 (.seq (.ops [] [⟨some 6, .mv (.c (.d (.int .i64 0))), none⟩] [6])
 (.seq (.ops [] [⟨some 7, .mv (.t 1), none⟩, ⟨some 8, .mv (.t 0), none⟩, ⟨some 9, .mv (.t 2), none⟩, ⟨some 10, .mv (.t 1), none⟩, ⟨some 11, .bin .sub (.t 9) (.t 10), none⟩, ⟨some 12, .bin .add (.t 11) (.c (.d (.int .i64 1))), none⟩, ⟨some 13, .call N_base_Src_N [true, false] [.t 8, .t 12], none⟩, ⟨some 14, .bin .add (.t 7) (.t 13), none⟩, ⟨some 6, .mv (.t 14), none⟩] [0, 1, 2, 7, 8, 9, 10, 11, 12, 13, 14])
 (.ret [6])))
def r_base_Src_Range : List ARes := [.t 6]
def fn_base_Src_Range : AFn := .code c_base_Src_Range r_base_Src_Range 15 true
def c_base_Src_Odd : ACode :=
 (.seq (.ops [] [⟨some 8, .alloc (.d (.agg [.int .i64 0, .int .i64 0, .int .i64 0, .int .i64 0, .int .i64 0, .int .i64 0, .str []])), none⟩] [])
 (.seq (.ops [] [⟨some 10, .mv (.t 0), none⟩, ⟨some 11, .mv (.t 1), none⟩, ⟨some 12, .mv (.t 2), none⟩, ⟨some 13, .mv (.t 3), none⟩, ⟨some 14, .call N_base_Src_Message [true, false, false, false] [.t 10, .t 11, .t 12, .t 13], none⟩, ⟨some 9, .alloc (.d (.agg [.int .i64 0, .int .i64 0, .int .i64 0, .int .i64 0, .int .i64 0, .int .i64 0, .str []])), none⟩, ⟨none, .st 7 (.t 9) (.t 14), none⟩] [1, 2, 3, 10, 11, 12, 13, 14])
 (.seq (.seq (.ops [] [⟨some 15, .mv (.t 0), none⟩, ⟨some 16, .call N_base_Src_N [true, false] [.t 15, .c (.d (.int .i64 12))], none⟩] [15])
 (.block 0 (.seq (.ops [] [⟨some 18, .bin .eql (.t 16) (.c (.d (.int .i64 0))), none⟩, ⟨some 17, .mv (.t 18), none⟩] [18])
 (.cond (.t 17) (.ops [] [⟨some 19, .mv (.t 0), none⟩, ⟨some 20, .bsl 4 1 (.d (.int .i64 0)) [(0, .c (.d (.int .i64 0))), (1, .c (.d (.int .i64 1073741824))), (2, .c (.d (.int .i64 1073741825))), (3, .c (.d (.int .i64 (-1))))], none⟩, ⟨some 21, .call N_base_Src_Pick [true, false] [.t 19, .t 20], none⟩, ⟨some 22, .fad false 0 1 (.t 9), none⟩, ⟨none, .st 1 (.t 22) (.t 21), none⟩] [0, 16, 17, 19, 20, 21, 22]) (.seq (.ops [] [⟨some 24, .bin .eql (.t 16) (.c (.d (.int .i64 1))), none⟩, ⟨some 23, .mv (.t 24), none⟩] [17, 24])
 (.cond (.t 23) (.ops [] [⟨some 25, .mv (.t 0), none⟩, ⟨some 26, .bsl 3 1 (.d (.int .i64 0)) [(0, .c (.d (.int .i64 (-1)))), (1, .c (.d (.int .i64 65535))), (2, .c (.d (.int .i64 65536)))], none⟩, ⟨some 27, .call N_base_Src_Pick [true, false] [.t 25, .t 26], none⟩, ⟨some 28, .fad false 1 1 (.t 9), none⟩, ⟨none, .st 1 (.t 28) (.t 27), none⟩] [0, 16, 23, 25, 26, 27, 28]) (.seq (.ops [] [⟨some 30, .bin .eql (.t 16) (.c (.d (.int .i64 2))), none⟩, ⟨some 29, .mv (.t 30), none⟩] [23, 30])
 (.cond (.t 29) (.ops [] [⟨some 31, .mv (.t 0), none⟩, ⟨some 32, .fad false 3 1 (.t 9), none⟩, ⟨some 33, .ld false 1 (.t 32), none⟩, ⟨some 34, .fad false 3 1 (.t 9), none⟩, ⟨some 35, .ld false 1 (.t 34), none⟩, ⟨some 36, .bin .sub (.t 35) (.c (.d (.int .i64 1))), none⟩, ⟨some 37, .bsl 4 1 (.d (.int .i64 0)) [(0, .t 33), (1, .t 36), (2, .c (.d (.int .i64 65536))), (3, .c (.d (.int .i64 65537)))], none⟩, ⟨some 38, .call N_base_Src_Pick [true, false] [.t 31, .t 37], none⟩, ⟨some 39, .fad false 4 1 (.t 9), none⟩, ⟨none, .st 1 (.t 39) (.t 38), none⟩] [0, 16, 29, 31, 32, 33, 34, 35, 36, 37, 38, 39]) (.seq (.ops [] [⟨some 41, .bin .eql (.t 16) (.c (.d (.int .i64 3))), none⟩, ⟨some 40, .mv (.t 41), none⟩] [29, 41])
 (.cond (.t 40) (.seq (.ops [] [⟨some 42, .mv (.t 0), none⟩, ⟨some 43, .bsl 3 1 (.d (.int .i64 0)) [(0, .c (.d (.int .i64 8))), (1, .c (.d (.int .i64 9))), (2, .c (.d (.int .i64 (-1))))], none⟩, ⟨some 44, .call N_base_Src_Pick [true, false] [.t 42, .t 43], none⟩, ⟨some 45, .fad false 3 1 (.t 9), none⟩, ⟨none, .st 1 (.t 45) (.t 44), none⟩] [0, 16, 40, 42, 43, 44, 45])
 (.ops [] [⟨some 46, .fad false 4 1 (.t 9), none⟩, ⟨some 47, .ld false 1 (.t 46), none⟩, ⟨some 48, .fad false 3 1 (.t 9), none⟩, ⟨some 49, .ld false 1 (.t 48), none⟩, ⟨some 50, .mm true [.t 47, .t 49], none⟩, ⟨some 51, .fad false 4 1 (.t 9), none⟩, ⟨none, .st 1 (.t 51) (.t 50), none⟩] [46, 47, 48, 49, 50, 51])) (.seq (.ops [] [⟨some 53, .bin .eql (.t 16) (.c (.d (.int .i64 4))), none⟩, ⟨some 52, .mv (.t 53), none⟩] [40, 53])
 (.cond (.t 52) (.draw [] [⟨some 54, .sls (.c (.d (.str [48, 49, 50, 51, 52, 53, 54, 55, 56, 57, 97, 98, 99, 100, 101, 102]))) none (some (.c (.d (.int .i64 15)))), none⟩, ⟨some 55, .mv (.t 0), none⟩, ⟨some 56, .call N_base_Src_Body [true] [.t 55], none⟩, ⟨some 57, .bin .add (.t 54) (.t 56), none⟩, ⟨some 58, .fad false 6 1 (.t 9), none⟩, ⟨none, .st 1 (.t 58) (.t 57), none⟩] [[], [0], [0], [], [], []] [0, 16, 52, 54, 55, 56, 57, 58]) (.seq (.ops [] [⟨some 60, .bin .eql (.t 16) (.c (.d (.int .i64 5))), none⟩, ⟨some 59, .mv (.t 60), none⟩] [52, 60])
 (.cond (.t 59) (.ops [] [⟨some 61, .mv (.t 0), none⟩, ⟨some 62, .bsl 3 1 (.d (.int .i64 0)) [(0, .c (.d (.int .i64 (-1)))), (1, .c (.d (.int .i64 1073741824))), (2, .c (.d (.int .i64 1073741825)))], none⟩, ⟨some 63, .call N_base_Src_Pick [true, false] [.t 61, .t 62], none⟩, ⟨some 64, .fad false 5 1 (.t 9), none⟩, ⟨none, .st 1 (.t 64) (.t 63), none⟩] [0, 16, 59, 61, 62, 63, 64]) (.seq (.ops [] [⟨some 66, .bin .eql (.t 16) (.c (.d (.int .i64 6))), none⟩, ⟨some 65, .mv (.t 66), none⟩] [16, 59, 66])
 (.cond (.t 65) (.ops [] [⟨some 67, .mv (.t 0), none⟩, ⟨some 68, .bsl 3 1 (.d (.int .i64 0)) [(0, .c (.d (.int .i64 (-1)))), (1, .c (.d (.int .i64 65536))), (2, .c (.d (.int .i64 65537)))], none⟩, ⟨some 69, .call N_base_Src_Pick [true, false] [.t 67, .t 68], none⟩, ⟨some 70, .fad false 2 1 (.t 9), none⟩, ⟨none, .st 1 (.t 70) (.t 69), none⟩] [0, 65, 67, 68, 69, 70]) .skip))))))))))))))))
 (.seq (.ops [] [⟨some 71, .ld true 7 (.t 9), none⟩, ⟨none, .st 7 (.t 8) (.t 71), none⟩] [0, 9, 65, 71])
 (.ret [8])))))
def r_base_Src_Odd : List ARes := [.c 8 true 7]
def fn_base_Src_Odd : AFn := .code c_base_Src_Odd r_base_Src_Odd 72 true
def c_base_Src_Pick : ACode :=
 (.seq (.ops [] [⟨some 4, .mv (.c (.d (.int .i64 0))), none⟩] [4])
 (.seq (.ops [] [⟨some 5, .mv (.t 1), none⟩, ⟨some 6, .mv (.t 0), none⟩, ⟨some 7, .mv (.t 1), none⟩, ⟨some 8, .len (.t 7), none⟩, ⟨some 9, .call N_base_Src_N [true, false] [.t 6, .t 8], none⟩, ⟨some 10, .iad 1 (.t 5) (.t 9), none⟩, ⟨some 11, .ld false 1 (.t 10), none⟩, ⟨some 4, .mv (.t 11), none⟩] [0, 1, 5, 6, 7, 8, 9, 10, 11])
 (.ret [4])))
def r_base_Src_Pick : List ARes := [.t 4]
def fn_base_Src_Pick : AFn := .code c_base_Src_Pick r_base_Src_Pick 12 true
def c_law06_agrees : ACode :=
 (.seq (.ops [] [⟨some 6, .box (.t 0), none⟩, ⟨some 7, .box (.t 1), none⟩, ⟨some 12, .mv (.c (.d (.bool false))), none⟩] [0, 1, 12])
 (.seq (.seq (.draw [] [⟨some 23, .ld true 2 (.t 6), none⟩, ⟨some 24, .call N_lease_Validate [] [.t 23], none⟩, ⟨some 25, .ld true 2 (.t 6), none⟩, ⟨some 26, .call N_ref06_Validate [] [.t 25], none⟩, ⟨some 27, .bin .neq (.t 24) (.t 26), none⟩, ⟨some 28, .mv (.t 27), none⟩, ⟨some 29, .ld true 2 (.t 6), some (28, false)⟩, ⟨some 30, .mv (.t 4), some (28, false)⟩, ⟨some 31, .mv (.t 5), some (28, false)⟩, ⟨some 32, .call N_lease_Lapsed [] [.t 29, .t 30, .t 31], some (28, false)⟩, ⟨some 33, .ld true 2 (.t 6), some (28, false)⟩, ⟨some 34, .mv (.t 4), some (28, false)⟩, ⟨some 35, .mv (.t 5), some (28, false)⟩, ⟨some 36, .call N_ref06_Lapsed [] [.t 33, .t 34, .t 35], some (28, false)⟩, ⟨some 37, .call N_ref05_SameInts [] [.t 32, .t 36], some (28, false)⟩, ⟨some 38, .un .not (.t 37), some (28, false)⟩, ⟨some 39, .pick (.t 28) (.c (.d (.bool true))) (.t 38), none⟩] [[], [], [0, 1], [], [], [], [], [6], [6, 7], [], [6, 7, 8, 9], [6, 7, 8, 9, 10], [6, 7, 8, 9, 10, 11], [], [], [], []] [4, 5, 23, 24, 25, 26, 27, 28, 29, 30, 31, 32, 33, 34, 35, 36, 37, 38])
 (.cond (.t 39) (.seq (.ops [] [⟨some 12, .mv (.c (.d (.bool false))), none⟩] [2, 3, 6, 7, 39])
 (.ret [12])) .skip))
 (.seq (.ops [] [⟨some 41, .ld true 2 (.t 6), none⟩, ⟨some 42, .mv (.t 2), none⟩, ⟨some 43, .call N_lease_Find [] [.t 41, .t 42], none⟩, ⟨some 40, .mv (.t 43), none⟩, ⟨some 44, .ext (.t 40) 0, none⟩, ⟨some 45, .ext (.t 40) 1, none⟩, ⟨some 13, .alloc (.d (.agg [.int .i64 0, .int .i64 0, .int .i64 0, .int .i64 0, .int .i64 0, .int .i64 0, .str [], .int .i64 0])), none⟩, ⟨none, .st 8 (.t 13) (.t 44), none⟩, ⟨some 14, .mv (.t 45), none⟩] [39, 40, 41, 42, 43, 44, 45])
 (.seq (.ops [] [⟨some 47, .ld true 2 (.t 6), none⟩, ⟨some 48, .mv (.t 2), none⟩, ⟨some 49, .call N_ref06_Find [] [.t 47, .t 48], none⟩, ⟨some 46, .mv (.t 49), none⟩, ⟨some 50, .ext (.t 46) 0, none⟩, ⟨some 51, .ext (.t 46) 1, none⟩, ⟨some 15, .alloc (.d (.agg [.int .i64 0, .int .i64 0, .int .i64 0, .int .i64 0, .int .i64 0, .int .i64 0, .str [], .int .i64 0])), none⟩, ⟨none, .st 8 (.t 15) (.t 50), none⟩, ⟨some 16, .mv (.t 51), none⟩] [46, 47, 48, 49, 50, 51])
 (.seq (.seq (.ops [] [⟨some 52, .ld true 8 (.t 13), none⟩, ⟨some 53, .ld true 8 (.t 15), none⟩, ⟨some 54, .eqs true 8 [(0, 0), (1, 0), (2, 0), (3, 0), (4, 0), (5, 0), (6, 2), (7, 0)] (.t 52) (.t 53), none⟩, ⟨some 55, .mv (.t 54), none⟩, ⟨some 56, .mv (.t 14), some (55, false)⟩, ⟨some 57, .mv (.t 16), some (55, false)⟩, ⟨some 58, .eqb true (.t 56) (.t 57), some (55, false)⟩, ⟨some 59, .pick (.t 55) (.c (.d (.bool true))) (.t 58), none⟩] [13, 14, 15, 16, 52, 53, 54, 55, 56, 57, 58])
 (.cond (.t 59) (.seq (.ops [] [⟨some 12, .mv (.c (.d (.bool false))), none⟩] [2, 3, 6, 7, 59])
 (.ret [12])) .skip))
 (.seq (.ops [] [⟨some 61, .ld true 2 (.t 6), none⟩, ⟨some 62, .ld true 7 (.t 7), none⟩, ⟨some 63, .mv (.t 3), none⟩, ⟨some 64, .call N_lease_Grant [] [.t 61, .t 62, .t 63], none⟩, ⟨some 60, .mv (.t 64), none⟩, ⟨some 65, .ext (.t 60) 0, none⟩, ⟨some 66, .ext (.t 60) 1, none⟩, ⟨some 17, .alloc (.agg [.xsl [], .xsl []]), none⟩, ⟨none, .st 2 (.t 17) (.t 65), none⟩, ⟨some 18, .mv (.t 66), none⟩] [59, 60, 61, 62, 63, 64, 65, 66])
 (.seq (.ops [] [⟨some 68, .ld true 2 (.t 6), none⟩, ⟨some 69, .ld true 7 (.t 7), none⟩, ⟨some 70, .mv (.t 3), none⟩, ⟨some 71, .call N_ref06_Grant [] [.t 68, .t 69, .t 70], none⟩, ⟨some 67, .mv (.t 71), none⟩, ⟨some 72, .ext (.t 67) 0, none⟩, ⟨some 73, .ext (.t 67) 1, none⟩, ⟨some 19, .alloc (.agg [.xsl [], .xsl []]), none⟩, ⟨none, .st 2 (.t 19) (.t 72), none⟩, ⟨some 20, .mv (.t 73), none⟩] [7, 67, 68, 69, 70, 71, 72, 73])
 (.seq (.seq (.ops [] [⟨some 74, .mv (.t 18), none⟩, ⟨some 75, .mv (.t 20), none⟩, ⟨some 76, .bin .neq (.t 74) (.t 75), none⟩, ⟨some 77, .mv (.t 76), none⟩, ⟨some 78, .ld true 2 (.t 17), some (77, false)⟩, ⟨some 79, .ld true 2 (.t 19), some (77, false)⟩, ⟨some 80, .call N_ref06_Same [] [.t 78, .t 79], some (77, false)⟩, ⟨some 81, .un .not (.t 80), some (77, false)⟩, ⟨some 82, .pick (.t 77) (.c (.d (.bool true))) (.t 81), none⟩] [18, 20, 74, 75, 76, 77, 78, 79, 80, 81])
 (.cond (.t 82) (.seq (.ops [] [⟨some 12, .mv (.c (.d (.bool false))), none⟩] [2, 3, 6, 17, 19, 82])
 (.ret [12])) .skip))
 (.seq (.ops [] [⟨some 84, .ld true 2 (.t 6), none⟩, ⟨some 85, .mv (.t 2), none⟩, ⟨some 86, .call N_lease_Release [] [.t 84, .t 85], none⟩, ⟨some 83, .mv (.t 86), none⟩, ⟨some 87, .ext (.t 83) 0, none⟩, ⟨some 88, .ext (.t 83) 1, none⟩, ⟨some 89, .ext (.t 83) 2, none⟩, ⟨some 21, .alloc (.d (.agg [.int .i64 0, .int .i64 0, .int .i64 0, .int .i64 0, .int .i64 0, .int .i64 0, .str []])), none⟩, ⟨none, .st 2 (.t 17) (.t 87), none⟩, ⟨none, .st 7 (.t 21) (.t 88), none⟩, ⟨some 18, .mv (.t 89), none⟩] [82, 83, 84, 85, 86, 87, 88, 89])
 (.seq (.ops [] [⟨some 91, .ld true 2 (.t 6), none⟩, ⟨some 92, .mv (.t 2), none⟩, ⟨some 93, .call N_ref06_Release [] [.t 91, .t 92], none⟩, ⟨some 90, .mv (.t 93), none⟩, ⟨some 94, .ext (.t 90) 0, none⟩, ⟨some 95, .ext (.t 90) 1, none⟩, ⟨some 96, .ext (.t 90) 2, none⟩, ⟨some 22, .alloc (.d (.agg [.int .i64 0, .int .i64 0, .int .i64 0, .int .i64 0, .int .i64 0, .int .i64 0, .str []])), none⟩, ⟨none, .st 2 (.t 19) (.t 94), none⟩, ⟨none, .st 7 (.t 22) (.t 95), none⟩, ⟨some 20, .mv (.t 96), none⟩] [90, 91, 92, 93, 94, 95, 96])
 (.seq (.seq (.ops [] [⟨some 97, .mv (.t 18), none⟩, ⟨some 98, .mv (.t 20), none⟩, ⟨some 99, .bin .neq (.t 97) (.t 98), none⟩, ⟨some 100, .mv (.t 99), none⟩, ⟨some 101, .ld true 7 (.t 21), some (100, false)⟩, ⟨some 102, .ld true 7 (.t 22), some (100, false)⟩, ⟨some 103, .eqs true 7 [(0, 0), (1, 0), (2, 0), (3, 0), (4, 0), (5, 0), (6, 2)] (.t 101) (.t 102), some (100, false)⟩, ⟨some 104, .pick (.t 100) (.c (.d (.bool true))) (.t 103), none⟩, ⟨some 105, .mv (.t 104), none⟩, ⟨some 106, .ld true 2 (.t 17), some (105, false)⟩, ⟨some 107, .ld true 2 (.t 19), some (105, false)⟩, ⟨some 108, .call N_ref06_Same [] [.t 106, .t 107], some (105, false)⟩, ⟨some 109, .un .not (.t 108), some (105, false)⟩, ⟨some 110, .pick (.t 105) (.c (.d (.bool true))) (.t 109), none⟩] [18, 20, 21, 22, 97, 98, 99, 100, 101, 102, 103, 104, 105, 106, 107, 108, 109])
 (.cond (.t 110) (.seq (.ops [] [⟨some 12, .mv (.c (.d (.bool false))), none⟩] [2, 3, 6, 17, 19, 110])
 (.ret [12])) .skip))
 (.seq (.ops [] [⟨some 112, .ld true 2 (.t 6), none⟩, ⟨some 113, .mv (.t 2), none⟩, ⟨some 114, .mv (.t 3), none⟩, ⟨some 115, .call N_lease_Extend [] [.t 112, .t 113, .t 114], none⟩, ⟨some 111, .mv (.t 115), none⟩, ⟨some 116, .ext (.t 111) 0, none⟩, ⟨some 117, .ext (.t 111) 1, none⟩, ⟨none, .st 2 (.t 17) (.t 116), none⟩, ⟨some 18, .mv (.t 117), none⟩] [110, 111, 112, 113, 114, 115, 116, 117])
 (.seq (.ops [] [⟨some 119, .ld true 2 (.t 6), none⟩, ⟨some 120, .mv (.t 2), none⟩, ⟨some 121, .mv (.t 3), none⟩, ⟨some 122, .call N_ref06_Extend [] [.t 119, .t 120, .t 121], none⟩, ⟨some 118, .mv (.t 122), none⟩, ⟨some 123, .ext (.t 118) 0, none⟩, ⟨some 124, .ext (.t 118) 1, none⟩, ⟨none, .st 2 (.t 19) (.t 123), none⟩, ⟨some 20, .mv (.t 124), none⟩] [2, 3, 6, 118, 119, 120, 121, 122, 123, 124])
 (.seq (.ops [] [⟨some 125, .mv (.t 18), none⟩, ⟨some 126, .mv (.t 20), none⟩, ⟨some 127, .bin .eql (.t 125) (.t 126), none⟩, ⟨some 128, .mv (.t 127), none⟩, ⟨some 129, .ld true 2 (.t 17), some (128, true)⟩, ⟨some 130, .ld true 2 (.t 19), some (128, true)⟩, ⟨some 131, .call N_ref06_Same [] [.t 129, .t 130], some (128, true)⟩, ⟨some 132, .pick (.t 128) (.t 131) (.c (.d (.bool false))), none⟩, ⟨some 12, .mv (.t 132), none⟩] [17, 18, 19, 20, 125, 126, 127, 128, 129, 130, 131, 132])
 (.ret [12])))))))))))))))
def r_law06_agrees : List ARes := [.t 12]
def fn_law06_agrees : AFn := .code c_law06_agrees r_law06_agrees 133 true
def l_lease_Validate_0 : ACode :=
 (.seq (.ops [] [⟨some 15, .bin .lss (.t 14) (.t 13), none⟩] [])
 (.seq (.cond (.t 15) .skip (.exit 0 [1]))
 (.seq (.block 1 (.seq (.ops [] [⟨some 16, .mv (.t 14), none⟩, ⟨some 17, .iad 8 (.t 12) (.t 14), none⟩, ⟨some 18, .ld true 8 (.t 17), none⟩, ⟨some 4, .alloc (.d (.agg [.int .i64 0, .int .i64 0, .int .i64 0, .int .i64 0, .int .i64 0, .int .i64 0, .str [], .int .i64 0])), none⟩, ⟨some 3, .mv (.t 16), none⟩, ⟨none, .st 8 (.t 4) (.t 18), none⟩] [15, 16, 17, 18])
 (.seq (.seq (.ops [] [⟨some 19, .fad true 0 7 (.t 4), none⟩, ⟨some 20, .ld true 7 (.t 19), none⟩, ⟨some 21, .call N_message_Validate [] [.t 20], none⟩, ⟨some 5, .mv (.t 21), none⟩] [19, 20, 21])
 (.seq (.ops [] [⟨some 22, .mv (.t 5), none⟩, ⟨some 23, .bin .neq (.t 22) (.c (.d (.int .i64 0))), none⟩] [22])
 (.cond (.t 23) (.seq (.ops [] [⟨some 24, .mv (.t 5), none⟩, ⟨some 2, .mv (.t 24), none⟩] [1, 3, 4, 5, 12, 13, 14, 23, 24])
 (.ret [2])) .skip)))
 (.block 2 (.seq (.ops [] [⟨some 26, .fad true 0 7 (.t 4), none⟩, ⟨some 27, .fad false 4 1 (.t 26), none⟩, ⟨some 28, .ld false 1 (.t 27), none⟩, ⟨some 29, .bin .eql (.t 28) (.c (.d (.int .i64 0))), none⟩, ⟨some 25, .mv (.t 29), none⟩] [5, 23, 26, 27, 28, 29])
 (.cond (.t 25) (.seq (.ops [] [⟨some 2, .mv (.c (.d (.int .i64 7))), none⟩] [1, 3, 4, 12, 13, 14, 25])
 (.ret [2])) (.seq (.ops [] [⟨some 31, .fad false 7 1 (.t 4), none⟩, ⟨some 32, .ld false 1 (.t 31), none⟩, ⟨some 33, .call N_lease_time [] [.t 32], none⟩, ⟨some 34, .un .not (.t 33), none⟩, ⟨some 30, .mv (.t 34), none⟩] [25, 31, 32, 33, 34])
 (.cond (.t 30) (.seq (.ops [] [⟨some 2, .mv (.c (.d (.int .i64 1))), none⟩] [1, 3, 4, 12, 13, 14, 30])
 (.ret [2])) (.seq (.draw [] [⟨some 36, .mv (.t 3), none⟩, ⟨some 37, .bin .gtr (.t 36) (.c (.d (.int .i64 0))), none⟩, ⟨some 38, .mv (.t 37), none⟩, ⟨some 39, .fad true 0 7 (.t 4), some (38, true)⟩, ⟨some 40, .fad false 0 1 (.t 39), some (38, true)⟩, ⟨some 41, .ld false 1 (.t 40), some (38, true)⟩, ⟨some 42, .fad false 0 1 (.t 1), some (38, true)⟩, ⟨some 43, .ld false 1 (.t 42), some (38, true)⟩, ⟨some 44, .mv (.t 3), some (38, true)⟩, ⟨some 45, .bin .sub (.t 44) (.c (.d (.int .i64 1))), some (38, true)⟩, ⟨some 46, .iad 8 (.t 43) (.t 45), some (38, true)⟩, ⟨some 47, .fad true 0 7 (.t 46), some (38, true)⟩, ⟨some 48, .fad false 0 1 (.t 47), some (38, true)⟩, ⟨some 49, .ld false 1 (.t 48), some (38, true)⟩, ⟨some 50, .bin .leq (.t 41) (.t 49), some (38, true)⟩, ⟨some 51, .pick (.t 38) (.t 50) (.c (.d (.bool false))), none⟩, ⟨some 35, .mv (.t 51), none⟩] [[], [], [], [], [], [], [3, 4, 5], [3, 4, 5], [3, 4, 5, 6, 7], [3, 4, 5, 6, 7], [3, 4, 5], [3, 4, 5], [3, 4, 5], [3, 4, 5], [], [], []] [3, 4, 30, 36, 37, 38, 39, 40, 41, 42, 43, 44, 45, 46, 47, 48, 49, 50, 51])
 (.cond (.t 35) (.seq (.ops [] [⟨some 2, .mv (.c (.d (.int .i64 11))), none⟩] [1, 12, 13, 14, 35])
 (.ret [2])) .skip))))))))))
 (.ops [] [⟨some 52, .bin .add (.t 14) (.c (.d (.int .i64 1))), none⟩, ⟨some 14, .mv (.t 52), none⟩] [35, 52]))))
def c_lease_Validate : ACode :=
 (.seq (.ops [] [⟨some 1, .box (.t 0), none⟩, ⟨some 2, .mv (.c (.d (.int .i64 0))), none⟩] [0, 2])
 (.seq (.seq (.ops [] [⟨some 7, .fad false 0 1 (.t 1), none⟩, ⟨some 8, .ld false 1 (.t 7), none⟩, ⟨some 9, .len (.t 8), none⟩, ⟨some 10, .bin .gtr (.t 9) (.c (.d (.int .i64 12))), none⟩] [7, 8, 9])
 (.cond (.t 10) (.seq (.ops [] [⟨some 2, .mv (.c (.d (.int .i64 2))), none⟩] [1, 10])
 (.ret [2])) .skip))
 (.seq (.seq (.ops [] [⟨some 11, .fad false 0 1 (.t 1), none⟩, ⟨some 12, .ld false 1 (.t 11), none⟩, ⟨some 13, .len (.t 12), none⟩, ⟨some 14, .mv (.c (.d (.int .i64 0))), none⟩] [10, 11])
 (.block 0 (.loop [] l_lease_Validate_0)))
 (.seq (.seq (.ops [] [⟨some 53, .fad false 1 1 (.t 1), none⟩, ⟨some 54, .ld false 1 (.t 53), none⟩, ⟨some 55, .call N_due_Validate [] [.t 54], none⟩, ⟨some 6, .mv (.t 55), none⟩] [12, 13, 14, 15, 53, 54, 55])
 (.seq (.ops [] [⟨some 56, .mv (.t 6), none⟩, ⟨some 57, .bin .neq (.t 56) (.c (.d (.int .i64 0))), none⟩] [56])
 (.cond (.t 57) (.seq (.ops [] [⟨some 58, .mv (.t 6), none⟩, ⟨some 2, .mv (.t 58), none⟩] [1, 6, 57, 58])
 (.ret [2])) .skip)))
 (.seq (.seq (.ops [] [⟨some 59, .ld true 2 (.t 1), none⟩, ⟨some 60, .call N_lease_matches [] [.t 59], none⟩, ⟨some 61, .un .not (.t 60), none⟩] [1, 6, 57, 59, 60])
 (.cond (.t 61) (.seq (.ops [] [⟨some 2, .mv (.c (.d (.int .i64 7))), none⟩] [61])
 (.ret [2])) .skip))
 (.seq (.ops [] [⟨some 2, .mv (.c (.d (.int .i64 0))), none⟩] [61])
 (.ret [2])))))))
def r_lease_Validate : List ARes := [.t 2]
def fn_lease_Validate : AFn := .code c_lease_Validate r_lease_Validate 62 true
def c_message_Validate : ACode :=
 (.seq (.ops [] [⟨some 1, .box (.t 0), none⟩, ⟨some 2, .mv (.c (.d (.int .i64 0))), none⟩] [0, 2])
 (.seq (.seq (.ops [] [⟨some 3, .fad false 0 1 (.t 1), none⟩, ⟨some 4, .ld false 1 (.t 3), none⟩, ⟨some 5, .call N_message_in [] [.t 4, .c (.d (.int .i64 1)), .c (.d (.int .i64 1073741824))], none⟩, ⟨some 6, .un .not (.t 5), none⟩, ⟨some 7, .mv (.t 6), none⟩, ⟨some 8, .fad false 1 1 (.t 1), some (7, false)⟩, ⟨some 9, .ld false 1 (.t 8), some (7, false)⟩, ⟨some 10, .call N_message_in [] [.t 9, .c (.d (.int .i64 0)), .c (.d (.int .i64 65535))], some (7, false)⟩, ⟨some 11, .un .not (.t 10), some (7, false)⟩, ⟨some 12, .pick (.t 7) (.c (.d (.bool true))) (.t 11), none⟩, ⟨some 13, .mv (.t 12), none⟩, ⟨some 14, .fad false 2 1 (.t 1), some (13, false)⟩, ⟨some 15, .ld false 1 (.t 14), some (13, false)⟩, ⟨some 16, .call N_message_in [] [.t 15, .c (.d (.int .i64 0)), .c (.d (.int .i64 65536))], some (13, false)⟩, ⟨some 17, .un .not (.t 16), some (13, false)⟩, ⟨some 18, .pick (.t 13) (.c (.d (.bool true))) (.t 17), none⟩, ⟨some 19, .mv (.t 18), none⟩, ⟨some 20, .fad false 3 1 (.t 1), some (19, false)⟩, ⟨some 21, .ld false 1 (.t 20), some (19, false)⟩, ⟨some 22, .call N_message_in [] [.t 21, .c (.d (.int .i64 0)), .c (.d (.int .i64 8))], some (19, false)⟩, ⟨some 23, .un .not (.t 22), some (19, false)⟩, ⟨some 24, .pick (.t 19) (.c (.d (.bool true))) (.t 23), none⟩, ⟨some 25, .mv (.t 24), none⟩, ⟨some 26, .fad false 4 1 (.t 1), some (25, false)⟩, ⟨some 27, .ld false 1 (.t 26), some (25, false)⟩, ⟨some 28, .fad false 3 1 (.t 1), some (25, false)⟩, ⟨some 29, .ld false 1 (.t 28), some (25, false)⟩, ⟨some 30, .call N_message_in [] [.t 27, .t 29, .c (.d (.int .i64 65536))], some (25, false)⟩, ⟨some 31, .un .not (.t 30), some (25, false)⟩, ⟨some 32, .pick (.t 25) (.c (.d (.bool true))) (.t 31), none⟩, ⟨some 33, .mv (.t 32), none⟩, ⟨some 34, .fad false 5 1 (.t 1), some (33, false)⟩, ⟨some 35, .ld false 1 (.t 34), some (33, false)⟩, ⟨some 36, .call N_message_in [] [.t 35, .c (.d (.int .i64 0)), .c (.d (.int .i64 1073741824))], some (33, false)⟩, ⟨some 37, .un .not (.t 36), some (33, false)⟩, ⟨some 38, .pick (.t 33) (.c (.d (.bool true))) (.t 37), none⟩] [3, 4, 5, 6, 7, 8, 9, 10, 11, 12, 13, 14, 15, 16, 17, 18, 19, 20, 21, 22, 23, 24, 25, 26, 27, 28, 29, 30, 31, 32, 33, 34, 35, 36, 37])
 (.cond (.t 38) (.seq (.ops [] [⟨some 2, .mv (.c (.d (.int .i64 1))), none⟩] [1, 38])
 (.ret [2])) .skip))
 (.seq (.seq (.ops [] [⟨some 39, .fad false 6 1 (.t 1), none⟩, ⟨some 40, .ld false 1 (.t 39), none⟩, ⟨some 41, .lens (.t 40), none⟩, ⟨some 42, .bin .gtr (.t 41) (.c (.d (.int .i64 16))), none⟩] [1, 38, 39, 40, 41])
 (.cond (.t 42) (.seq (.ops [] [⟨some 2, .mv (.c (.d (.int .i64 2))), none⟩] [42])
 (.ret [2])) .skip))
 (.seq (.ops [] [⟨some 2, .mv (.c (.d (.int .i64 0))), none⟩] [42])
 (.ret [2])))))
def r_message_Validate : List ARes := [.t 2]
def fn_message_Validate : AFn := .code c_message_Validate r_message_Validate 43 true
def c_message_in : ACode :=
 (.seq (.ops [] [⟨some 6, .mv (.c (.d (.bool false))), none⟩] [6])
 (.seq (.ops [] [⟨some 7, .mv (.t 1), none⟩, ⟨some 8, .mv (.t 0), none⟩, ⟨some 9, .bin .leq (.t 7) (.t 8), none⟩, ⟨some 10, .mv (.t 9), none⟩, ⟨some 11, .mv (.t 0), some (10, true)⟩, ⟨some 12, .mv (.t 2), some (10, true)⟩, ⟨some 13, .bin .leq (.t 11) (.t 12), some (10, true)⟩, ⟨some 14, .pick (.t 10) (.t 13) (.c (.d (.bool false))), none⟩, ⟨some 6, .mv (.t 14), none⟩] [0, 1, 2, 7, 8, 9, 10, 11, 12, 13, 14])
 (.ret [6])))
def r_message_in : List ARes := [.t 6]
def fn_message_in : AFn := .code c_message_in r_message_in 15 true
def c_lease_time : ACode :=
 (.seq (.ops [] [⟨some 2, .mv (.c (.d (.bool false))), none⟩] [2])
 (.seq (.ops [] [⟨some 3, .mv (.t 0), none⟩, ⟨some 4, .bin .geq (.t 3) (.c (.d (.int .i64 0))), none⟩, ⟨some 5, .mv (.t 4), none⟩, ⟨some 6, .mv (.t 0), some (5, true)⟩, ⟨some 7, .bin .leq (.t 6) (.c (.d (.int .i64 1073741824))), some (5, true)⟩, ⟨some 8, .pick (.t 5) (.t 7) (.c (.d (.bool false))), none⟩, ⟨some 2, .mv (.t 8), none⟩] [0, 3, 4, 5, 6, 7, 8])
 (.ret [2])))
def r_lease_time : List ARes := [.t 2]
def fn_lease_time : AFn := .code c_lease_time r_lease_time 9 true
def l_due_Validate_0 : ACode :=
 (.seq (.ops [] [⟨some 14, .bin .lss (.t 13) (.t 12), none⟩] [])
 (.seq (.cond (.t 14) .skip (.exit 0 [0]))
 (.seq (.block 1 (.seq (.ops [] [⟨some 15, .mv (.t 13), none⟩, ⟨some 16, .iad 2 (.t 11) (.t 13), none⟩, ⟨some 17, .ld true 2 (.t 16), none⟩, ⟨some 4, .alloc (.d (.agg [.int .i64 0, .int .i64 0])), none⟩, ⟨some 3, .mv (.t 15), none⟩, ⟨none, .st 2 (.t 4) (.t 17), none⟩] [14, 15, 16, 17])
 (.seq (.ops [] [⟨some 18, .mv (.t 0), none⟩, ⟨some 19, .fad false 1 1 (.t 4), none⟩, ⟨some 20, .ld false 1 (.t 19), none⟩, ⟨some 21, .call N_due_find [] [.t 18, .t 20], none⟩, ⟨some 22, .mv (.t 3), none⟩, ⟨some 23, .bin .neq (.t 21) (.t 22), none⟩] [3, 4, 18, 19, 20, 21, 22])
 (.cond (.t 23) (.seq (.ops [] [⟨some 2, .mv (.c (.d (.int .i64 10))), none⟩] [0, 11, 12, 13, 23])
 (.ret [2])) .skip))))
 (.ops [] [⟨some 24, .bin .add (.t 13) (.c (.d (.int .i64 1))), none⟩, ⟨some 13, .mv (.t 24), none⟩] [23, 24]))))
def l_due_Validate_1 : ACode :=
 (.seq (.seq (.ops [] [⟨some 25, .mv (.t 5), none⟩, ⟨some 26, .mv (.t 0), none⟩, ⟨some 27, .len (.t 26), none⟩, ⟨some 28, .bin .lss (.t 25) (.t 27), none⟩] [25, 26, 27])
 (.cond (.t 28) .skip (.exit 2 [])))
 (.seq (.block 3 (.seq (.ops [] [⟨some 31, .mv (.t 0), none⟩, ⟨some 32, .mv (.t 5), none⟩, ⟨some 33, .mv (.t 5), none⟩, ⟨some 34, .bin .sub (.t 33) (.c (.d (.int .i64 1))), none⟩, ⟨some 35, .bin .quo (.t 34) (.c (.d (.int .i64 2))), none⟩, ⟨some 36, .call N_due_before [] [.t 31, .t 32, .t 35], none⟩] [28, 31, 32, 33, 34, 35])
 (.cond (.t 36) (.seq (.ops [] [⟨some 2, .mv (.c (.d (.int .i64 11))), none⟩] [0, 5, 36])
 (.ret [2])) .skip)))
 (.ops [] [⟨some 29, .mv (.t 5), none⟩, ⟨some 30, .bin .add (.t 29) (.c (.d (.int .i64 1))), none⟩, ⟨some 5, .mv (.t 30), none⟩] [29, 30, 36])))
def c_due_Validate : ACode :=
 (.seq (.ops [] [⟨some 2, .mv (.c (.d (.int .i64 0))), none⟩] [2])
 (.seq (.seq (.ops [] [⟨some 6, .mv (.t 0), none⟩, ⟨some 7, .len (.t 6), none⟩, ⟨some 8, .bin .gtr (.t 7) (.c (.d (.int .i64 12))), none⟩] [6, 7])
 (.cond (.t 8) (.seq (.ops [] [⟨some 2, .mv (.c (.d (.int .i64 2))), none⟩] [0, 8])
 (.ret [2])) .skip))
 (.seq (.seq (.ops [] [⟨some 9, .mv (.t 0), none⟩, ⟨some 10, .call N_slices_ContainsFunc_api_Due [] [.t 9, .c (.d (.fn N_due_Validate_1 []))], none⟩] [8, 9])
 (.cond (.t 10) (.seq (.ops [] [⟨some 2, .mv (.c (.d (.int .i64 1))), none⟩] [0, 10])
 (.ret [2])) .skip))
 (.seq (.seq (.ops [] [⟨some 11, .mv (.t 0), none⟩, ⟨some 12, .len (.t 11), none⟩, ⟨some 13, .mv (.c (.d (.int .i64 0))), none⟩] [10])
 (.block 0 (.loop [] l_due_Validate_0)))
 (.seq (.seq (.ops [] [⟨some 5, .mv (.c (.d (.int .i64 1))), none⟩] [11, 12, 13, 14])
 (.block 2 (.loop [] l_due_Validate_1)))
 (.seq (.ops [] [⟨some 2, .mv (.c (.d (.int .i64 0))), none⟩] [0, 5, 28])
 (.ret [2])))))))
def r_due_Validate : List ARes := [.t 2]
def fn_due_Validate : AFn := .code c_due_Validate r_due_Validate 37 true
def c_slices_ContainsFunc_api_Due : ACode :=
 (.seq (.ops [] [⟨some 4, .mv (.c (.d (.bool false))), none⟩] [4])
 (.seq (.ops [] [⟨some 5, .mv (.t 0), none⟩, ⟨some 6, .mv (.t 1), none⟩, ⟨some 7, .call N_slices_IndexFunc_api_Due [] [.t 5, .t 6], none⟩, ⟨some 8, .bin .geq (.t 7) (.c (.d (.int .i64 0))), none⟩, ⟨some 4, .mv (.t 8), none⟩] [0, 1, 5, 6, 7, 8])
 (.ret [4])))
def r_slices_ContainsFunc_api_Due : List ARes := [.t 4]
def fn_slices_ContainsFunc_api_Due : AFn := .code c_slices_ContainsFunc_api_Due r_slices_ContainsFunc_api_Due 9 true
def l_slices_IndexFunc_api_Due_0 : ACode :=
 (.seq (.ops [] [⟨some 9, .bin .lss (.t 8) (.t 7), none⟩] [])
 (.seq (.cond (.t 9) .skip (.exit 0 []))
 (.seq (.block 1 (.seq (.ops [] [⟨some 10, .mv (.t 8), none⟩, ⟨some 5, .mv (.t 10), none⟩] [9, 10])
 (.seq (.ops [] [⟨some 11, .mv (.t 1), none⟩, ⟨some 12, .mv (.t 0), none⟩, ⟨some 13, .mv (.t 5), none⟩, ⟨some 14, .iad 2 (.t 12) (.t 13), none⟩, ⟨some 15, .ld true 2 (.t 14), none⟩, ⟨some 16, .callv (.t 11) [] [.t 15], none⟩] [11, 12, 13, 14, 15])
 (.cond (.t 16) (.seq (.ops [] [⟨some 17, .mv (.t 5), none⟩, ⟨some 4, .mv (.t 17), none⟩] [0, 1, 5, 7, 8, 16, 17])
 (.ret [4])) .skip))))
 (.ops [] [⟨some 18, .bin .add (.t 8) (.c (.d (.int .i64 1))), none⟩, ⟨some 8, .mv (.t 18), none⟩] [5, 16, 18]))))
def c_slices_IndexFunc_api_Due : ACode :=
 (.seq (.ops [] [⟨some 4, .mv (.c (.d (.int .i64 0))), none⟩] [4])
 (.seq (.seq (.ops [] [⟨some 6, .mv (.t 0), none⟩, ⟨some 7, .len (.t 6), none⟩, ⟨some 8, .mv (.c (.d (.int .i64 0))), none⟩] [6])
 (.block 0 (.loop [] l_slices_IndexFunc_api_Due_0)))
 (.seq (.ops [] [⟨some 4, .mv (.c (.d (.int .i64 (-1)))), none⟩] [0, 1, 7, 8, 9])
 (.ret [4]))))
def r_slices_IndexFunc_api_Due : List ARes := [.t 4]
def fn_slices_IndexFunc_api_Due : AFn := .code c_slices_IndexFunc_api_Due r_slices_IndexFunc_api_Due 19 true
def c_due_Validate_1 : ACode :=
 (.seq (.ops [] [⟨some 1, .box (.t 0), none⟩, ⟨some 2, .mv (.c (.d (.bool false))), none⟩] [0, 2])
 (.seq (.ops [] [⟨some 3, .ld true 2 (.t 1), none⟩, ⟨some 4, .call N_due_valid [] [.t 3], none⟩, ⟨some 5, .un .not (.t 4), none⟩, ⟨some 2, .mv (.t 5), none⟩] [1, 3, 4, 5])
 (.ret [2])))
def r_due_Validate_1 : List ARes := [.t 2]
def fn_due_Validate_1 : AFn := .code c_due_Validate_1 r_due_Validate_1 6 true
def c_due_valid : ACode :=
 (.seq (.ops [] [⟨some 1, .box (.t 0), none⟩, ⟨some 2, .mv (.c (.d (.bool false))), none⟩] [0, 2])
 (.seq (.ops [] [⟨some 3, .fad false 0 1 (.t 1), none⟩, ⟨some 4, .ld false 1 (.t 3), none⟩, ⟨some 5, .bin .geq (.t 4) (.c (.d (.int .i64 0))), none⟩, ⟨some 6, .mv (.t 5), none⟩, ⟨some 7, .fad false 0 1 (.t 1), some (6, true)⟩, ⟨some 8, .ld false 1 (.t 7), some (6, true)⟩, ⟨some 9, .bin .leq (.t 8) (.c (.d (.int .i64 1073741824))), some (6, true)⟩, ⟨some 10, .pick (.t 6) (.t 9) (.c (.d (.bool false))), none⟩, ⟨some 11, .mv (.t 10), none⟩, ⟨some 12, .fad false 1 1 (.t 1), some (11, true)⟩, ⟨some 13, .ld false 1 (.t 12), some (11, true)⟩, ⟨some 14, .bin .geq (.t 13) (.c (.d (.int .i64 1))), some (11, true)⟩, ⟨some 15, .pick (.t 11) (.t 14) (.c (.d (.bool false))), none⟩, ⟨some 16, .mv (.t 15), none⟩, ⟨some 17, .fad false 1 1 (.t 1), some (16, true)⟩, ⟨some 18, .ld false 1 (.t 17), some (16, true)⟩, ⟨some 19, .bin .leq (.t 18) (.c (.d (.int .i64 1073741824))), some (16, true)⟩, ⟨some 20, .pick (.t 16) (.t 19) (.c (.d (.bool false))), none⟩, ⟨some 2, .mv (.t 20), none⟩] [1, 3, 4, 5, 6, 7, 8, 9, 10, 11, 12, 13, 14, 15, 16, 17, 18, 19, 20])
 (.ret [2])))
def r_due_valid : List ARes := [.t 2]
def fn_due_valid : AFn := .code c_due_valid r_due_valid 21 true
def c_due_find : ACode :=
 (.seq (.ops [] [⟨some 3, .box (.t 1), none⟩, ⟨some 4, .mv (.c (.d (.int .i64 0))), none⟩] [1, 4])
 (.seq (.ops [] [⟨some 5, .mv (.t 0), none⟩, ⟨some 6, .mkfn N_due_find_1 [.t 3], none⟩, ⟨some 7, .call N_slices_IndexFunc_api_Due [] [.t 5, .t 6], none⟩, ⟨some 4, .mv (.t 7), none⟩] [0, 3, 5, 6, 7])
 (.ret [4])))
def r_due_find : List ARes := [.t 4]
def fn_due_find : AFn := .code c_due_find r_due_find 8 true
def c_due_find_1 : ACode :=
 (.seq (.ops [] [⟨some 2, .box (.t 0), none⟩, ⟨some 3, .mv (.c (.d (.bool false))), none⟩] [0, 3])
 (.seq (.ops [] [⟨some 4, .fad false 1 1 (.t 2), none⟩, ⟨some 5, .ld false 1 (.t 4), none⟩, ⟨some 6, .ld false 1 (.t 1), none⟩, ⟨some 7, .bin .eql (.t 5) (.t 6), none⟩, ⟨some 3, .mv (.t 7), none⟩] [1, 2, 4, 5, 6, 7])
 (.ret [3])))
def r_due_find_1 : List ARes := [.t 3]
def fn_due_find_1 : AFn := .code c_due_find_1 r_due_find_1 8 true
def c_due_before : ACode :=
 (.seq (.ops [] [⟨some 6, .mv (.c (.d (.bool false))), none⟩] [6])
 (.seq (.draw [] [⟨some 7, .mv (.t 0), none⟩, ⟨some 8, .mv (.t 1), none⟩, ⟨some 9, .iad 2 (.t 7) (.t 8), none⟩, ⟨some 10, .ld true 2 (.t 9), none⟩, ⟨some 11, .mv (.t 0), none⟩, ⟨some 12, .mv (.t 2), none⟩, ⟨some 13, .iad 2 (.t 11) (.t 12), none⟩, ⟨some 14, .ld true 2 (.t 13), none⟩, ⟨some 15, .call N_due_compare [] [.t 10, .t 14], none⟩, ⟨some 16, .bin .lss (.t 15) (.c (.d (.int .i64 0))), none⟩, ⟨some 6, .mv (.t 16), none⟩] [[], [0], [], [], [0, 1, 2, 3], [0, 1, 2, 3, 4], [0, 1, 2, 3], [0, 1, 2, 3], [], [], []] [0, 1, 2, 7, 8, 9, 10, 11, 12, 13, 14, 15, 16])
 (.ret [6])))
def r_due_before : List ARes := [.t 6]
def fn_due_before : AFn := .code c_due_before r_due_before 17 true
def c_due_compare : ACode :=
 (.seq (.ops [] [⟨some 2, .box (.t 0), none⟩, ⟨some 3, .box (.t 1), none⟩, ⟨some 4, .mv (.c (.d (.int .i64 0))), none⟩] [0, 1, 4])
 (.seq (.draw [] [⟨some 5, .fad false 0 1 (.t 2), none⟩, ⟨some 6, .ld false 1 (.t 5), none⟩, ⟨some 7, .fad false 0 1 (.t 3), none⟩, ⟨some 8, .ld false 1 (.t 7), none⟩, ⟨some 9, .call N_cmp_Compare_int [] [.t 6, .t 8], none⟩, ⟨some 10, .fad false 1 1 (.t 2), none⟩, ⟨some 11, .ld false 1 (.t 10), none⟩, ⟨some 12, .fad false 1 1 (.t 3), none⟩, ⟨some 13, .ld false 1 (.t 12), none⟩, ⟨some 14, .call N_cmp_Compare_int [] [.t 11, .t 13], none⟩, ⟨some 15, .bsl 2 1 (.d (.int .i64 0)) [(0, .t 9), (1, .t 14)], none⟩, ⟨some 16, .call N_cmp_Or_int [] [.t 15], none⟩, ⟨some 4, .mv (.t 16), none⟩] [[], [], [0, 1], [0, 1], [], [0, 1, 2, 3, 4], [0, 1, 2, 3, 4], [0, 1, 2, 3, 4, 5, 6], [0, 1, 2, 3, 4, 5, 6], [], [], [], []] [2, 3, 5, 6, 7, 8, 9, 10, 11, 12, 13, 14, 15, 16])
 (.ret [4])))
def r_due_compare : List ARes := [.t 4]
def fn_due_compare : AFn := .code c_due_compare r_due_compare 17 true
def c_cmp_Compare_int : ACode :=
 (.seq (.ops [] [⟨some 4, .mv (.c (.d (.int .i64 0))), none⟩] [4])
 (.seq (.ops [] [⟨some 7, .mv (.t 0), none⟩, ⟨some 8, .call N_cmp_isNaN_int [] [.t 7], none⟩, ⟨some 5, .mv (.t 8), none⟩] [7, 8])
 (.seq (.ops [] [⟨some 9, .mv (.t 1), none⟩, ⟨some 10, .call N_cmp_isNaN_int [] [.t 9], none⟩, ⟨some 6, .mv (.t 10), none⟩] [9, 10])
 (.seq (.seq (.ops [] [⟨some 11, .mv (.t 5), none⟩] [5])
 (.cond (.t 11) (.seq (.seq (.ops [] [⟨some 12, .mv (.t 6), none⟩] [0, 1, 6, 11])
 (.cond (.t 12) (.seq (.ops [] [⟨some 4, .mv (.c (.d (.int .i64 0))), none⟩] [12])
 (.ret [4])) .skip))
 (.seq (.ops [] [⟨some 4, .mv (.c (.d (.int .i64 (-1)))), none⟩] [12])
 (.ret [4]))) .skip))
 (.seq (.seq (.ops [] [⟨some 13, .mv (.t 6), none⟩] [6, 11])
 (.cond (.t 13) (.seq (.ops [] [⟨some 4, .mv (.c (.d (.int .i64 1))), none⟩] [0, 1, 13])
 (.ret [4])) .skip))
 (.seq (.seq (.ops [] [⟨some 14, .mv (.t 0), none⟩, ⟨some 15, .mv (.t 1), none⟩, ⟨some 16, .bin .lss (.t 14) (.t 15), none⟩] [13, 14, 15])
 (.cond (.t 16) (.seq (.ops [] [⟨some 4, .mv (.c (.d (.int .i64 (-1)))), none⟩] [0, 1, 16])
 (.ret [4])) .skip))
 (.seq (.seq (.ops [] [⟨some 17, .mv (.t 0), none⟩, ⟨some 18, .mv (.t 1), none⟩, ⟨some 19, .bin .gtr (.t 17) (.t 18), none⟩] [0, 1, 16, 17, 18])
 (.cond (.t 19) (.seq (.ops [] [⟨some 4, .mv (.c (.d (.int .i64 1))), none⟩] [19])
 (.ret [4])) .skip))
 (.seq (.ops [] [⟨some 4, .mv (.c (.d (.int .i64 0))), none⟩] [19])
 (.ret [4])))))))))
def r_cmp_Compare_int : List ARes := [.t 4]
def fn_cmp_Compare_int : AFn := .code c_cmp_Compare_int r_cmp_Compare_int 20 true
def c_cmp_isNaN_int : ACode :=
 (.seq (.ops [] [⟨some 2, .mv (.c (.d (.bool false))), none⟩] [2])
 (.seq (.ops [] [⟨some 3, .mv (.t 0), none⟩, ⟨some 4, .mv (.t 0), none⟩, ⟨some 5, .bin .neq (.t 3) (.t 4), none⟩, ⟨some 2, .mv (.t 5), none⟩] [0, 3, 4, 5])
 (.ret [2])))
def r_cmp_isNaN_int : List ARes := [.t 2]
def fn_cmp_isNaN_int : AFn := .code c_cmp_isNaN_int r_cmp_isNaN_int 6 true
def l_cmp_Or_int_0 : ACode :=
 (.seq (.ops [] [⟨some 9, .bin .lss (.t 8) (.t 7), none⟩] [])
 (.seq (.cond (.t 9) .skip (.exit 0 [3]))
 (.seq (.block 1 (.seq (.ops [] [⟨some 10, .iad 1 (.t 6) (.t 8), none⟩, ⟨some 11, .ld false 1 (.t 10), none⟩, ⟨some 5, .mv (.t 11), none⟩] [9, 10, 11])
 (.seq (.ops [] [⟨some 12, .mv (.t 5), none⟩, ⟨some 13, .mv (.t 3), none⟩, ⟨some 14, .bin .neq (.t 12) (.t 13), none⟩] [12, 13])
 (.cond (.t 14) (.seq (.ops [] [⟨some 15, .mv (.t 5), none⟩, ⟨some 2, .mv (.t 15), none⟩] [3, 5, 6, 7, 8, 14, 15])
 (.ret [2])) .skip))))
 (.ops [] [⟨some 16, .bin .add (.t 8) (.c (.d (.int .i64 1))), none⟩, ⟨some 8, .mv (.t 16), none⟩] [5, 14, 16]))))
def c_cmp_Or_int : ACode :=
 (.seq (.ops [] [⟨some 2, .mv (.c (.d (.int .i64 0))), none⟩] [2])
 (.seq (.ops [] [⟨some 3, .mv (.c (.d (.int .i64 0))), none⟩] [])
 (.seq (.seq (.ops [] [⟨some 6, .mv (.t 0), none⟩, ⟨some 7, .len (.t 6), none⟩, ⟨some 8, .mv (.c (.d (.int .i64 0))), none⟩] [0])
 (.block 0 (.loop [] l_cmp_Or_int_0)))
 (.seq (.ops [] [⟨some 17, .mv (.t 3), none⟩, ⟨some 2, .mv (.t 17), none⟩] [3, 6, 7, 8, 9, 17])
 (.ret [2])))))
def r_cmp_Or_int : List ARes := [.t 2]
def fn_cmp_Or_int : AFn := .code c_cmp_Or_int r_cmp_Or_int 18 true
def l_lease_matches_0 : ACode :=
 (.seq (.ops [] [⟨some 16, .bin .lss (.t 15) (.t 14), none⟩] [])
 (.seq (.cond (.t 16) .skip (.exit 0 []))
 (.seq (.block 1 (.seq (.ops [] [⟨some 17, .iad 8 (.t 13) (.t 15), none⟩, ⟨some 18, .ld true 8 (.t 17), none⟩, ⟨some 4, .alloc (.d (.agg [.int .i64 0, .int .i64 0, .int .i64 0, .int .i64 0, .int .i64 0, .int .i64 0, .str [], .int .i64 0])), none⟩, ⟨none, .st 8 (.t 4) (.t 18), none⟩] [16, 17, 18])
 (.seq (.ops [] [⟨some 19, .fad false 1 1 (.t 1), none⟩, ⟨some 20, .ld false 1 (.t 19), none⟩, ⟨some 21, .fad false 7 1 (.t 4), none⟩, ⟨some 22, .ld false 1 (.t 21), none⟩, ⟨some 23, .fad true 0 7 (.t 4), none⟩, ⟨some 24, .fad false 0 1 (.t 23), none⟩, ⟨some 25, .ld false 1 (.t 24), none⟩, ⟨some 26, .build [.d (.int .i64 0), .d (.int .i64 0)] [(0, (1, .t 22)), (1, (1, .t 25))], none⟩, ⟨some 27, .call N_slices_Contains_api_Due [] [.t 20, .t 26], none⟩, ⟨some 28, .un .not (.t 27), none⟩] [4, 19, 20, 21, 22, 23, 24, 25, 26, 27])
 (.cond (.t 28) (.seq (.ops [] [⟨some 2, .mv (.c (.d (.bool false))), none⟩] [1, 13, 14, 15, 28])
 (.ret [2])) .skip))))
 (.ops [] [⟨some 29, .bin .add (.t 15) (.c (.d (.int .i64 1))), none⟩, ⟨some 15, .mv (.t 29), none⟩] [28, 29]))))
def c_lease_matches : ACode :=
 (.seq (.ops [] [⟨some 1, .box (.t 0), none⟩, ⟨some 2, .mv (.c (.d (.bool false))), none⟩] [0, 2])
 (.seq (.seq (.ops [] [⟨some 5, .fad false 1 1 (.t 1), none⟩, ⟨some 6, .ld false 1 (.t 5), none⟩, ⟨some 7, .len (.t 6), none⟩, ⟨some 8, .fad false 0 1 (.t 1), none⟩, ⟨some 9, .ld false 1 (.t 8), none⟩, ⟨some 10, .len (.t 9), none⟩, ⟨some 11, .bin .neq (.t 7) (.t 10), none⟩] [5, 6, 7, 8, 9, 10])
 (.cond (.t 11) (.seq (.ops [] [⟨some 2, .mv (.c (.d (.bool false))), none⟩] [1, 11])
 (.ret [2])) .skip))
 (.seq (.seq (.ops [] [⟨some 12, .fad false 0 1 (.t 1), none⟩, ⟨some 13, .ld false 1 (.t 12), none⟩, ⟨some 14, .len (.t 13), none⟩, ⟨some 15, .mv (.c (.d (.int .i64 0))), none⟩] [11, 12])
 (.block 0 (.loop [] l_lease_matches_0)))
 (.seq (.ops [] [⟨some 2, .mv (.c (.d (.bool true))), none⟩] [1, 13, 14, 15, 16])
 (.ret [2])))))
def r_lease_matches : List ARes := [.t 2]
def fn_lease_matches : AFn := .code c_lease_matches r_lease_matches 30 true
def c_slices_Contains_api_Due : ACode :=
 (.seq (.ops [] [⟨some 3, .box (.t 1), none⟩, ⟨some 4, .mv (.c (.d (.bool false))), none⟩] [1, 4])
 (.seq (.ops [] [⟨some 5, .mv (.t 0), none⟩, ⟨some 6, .ld true 2 (.t 3), none⟩, ⟨some 7, .call N_slices_Index_api_Due [] [.t 5, .t 6], none⟩, ⟨some 8, .bin .geq (.t 7) (.c (.d (.int .i64 0))), none⟩, ⟨some 4, .mv (.t 8), none⟩] [0, 3, 5, 6, 7, 8])
 (.ret [4])))
def r_slices_Contains_api_Due : List ARes := [.t 4]
def fn_slices_Contains_api_Due : AFn := .code c_slices_Contains_api_Due r_slices_Contains_api_Due 9 true
def l_slices_Index_api_Due_0 : ACode :=
 (.seq (.ops [] [⟨some 9, .bin .lss (.t 8) (.t 7), none⟩] [])
 (.seq (.cond (.t 9) .skip (.exit 0 []))
 (.seq (.block 1 (.seq (.ops [] [⟨some 10, .mv (.t 8), none⟩, ⟨some 5, .mv (.t 10), none⟩] [9, 10])
 (.seq (.draw [] [⟨some 11, .ld true 2 (.t 3), none⟩, ⟨some 12, .mv (.t 0), none⟩, ⟨some 13, .mv (.t 5), none⟩, ⟨some 14, .iad 2 (.t 12) (.t 13), none⟩, ⟨some 15, .ld true 2 (.t 14), none⟩, ⟨some 16, .eqs false 2 [(0, 0), (1, 0)] (.t 11) (.t 15), none⟩] [[], [0], [0, 1], [0], [0], []] [11, 12, 13, 14, 15])
 (.cond (.t 16) (.seq (.ops [] [⟨some 17, .mv (.t 5), none⟩, ⟨some 4, .mv (.t 17), none⟩] [0, 3, 5, 7, 8, 16, 17])
 (.ret [4])) .skip))))
 (.ops [] [⟨some 18, .bin .add (.t 8) (.c (.d (.int .i64 1))), none⟩, ⟨some 8, .mv (.t 18), none⟩] [5, 16, 18]))))
def c_slices_Index_api_Due : ACode :=
 (.seq (.ops [] [⟨some 3, .box (.t 1), none⟩, ⟨some 4, .mv (.c (.d (.int .i64 0))), none⟩] [1, 4])
 (.seq (.seq (.ops [] [⟨some 6, .mv (.t 0), none⟩, ⟨some 7, .len (.t 6), none⟩, ⟨some 8, .mv (.c (.d (.int .i64 0))), none⟩] [6])
 (.block 0 (.loop [] l_slices_Index_api_Due_0)))
 (.seq (.ops [] [⟨some 4, .mv (.c (.d (.int .i64 (-1)))), none⟩] [0, 3, 7, 8, 9])
 (.ret [4]))))
def r_slices_Index_api_Due : List ARes := [.t 4]
def fn_slices_Index_api_Due : AFn := .code c_slices_Index_api_Due r_slices_Index_api_Due 19 true
def c_lease_Lapsed : ACode :=
 (.seq (.ops [] [⟨some 3, .box (.t 0), none⟩, ⟨some 5, .box (.t 2), none⟩, ⟨some 6, .mv (.c (.xsl [])), none⟩] [0, 2, 6])
 (.seq (.seq (.ops [] [⟨some 7, .ld true 2 (.t 3), none⟩, ⟨some 8, .call N_lease_Validate [] [.t 7], none⟩, ⟨some 9, .bin .neq (.t 8) (.c (.d (.int .i64 0))), none⟩] [7, 8])
 (.cond (.t 9) (.seq (.ops [] [⟨some 6, .mv (.c (.xsl [])), none⟩] [1, 3, 5, 9])
 (.ret [6])) .skip))
 (.seq (.ops [] [⟨some 10, .fad false 1 1 (.t 3), none⟩, ⟨some 11, .ld false 1 (.t 10), none⟩, ⟨some 12, .mv (.t 1), none⟩, ⟨some 13, .call N_due_Until [] [.t 11, .t 12], none⟩, ⟨some 14, .mkfn N_lease_Lapsed_1 [.t 3, .t 5], none⟩, ⟨some 15, .call N_slices_DeleteFunc_int [true, false] [.t 13, .t 14], none⟩, ⟨some 6, .mv (.t 15), none⟩] [1, 3, 5, 9, 10, 11, 12, 13, 14, 15])
 (.ret [6]))))
def r_lease_Lapsed : List ARes := [.t 6]
def fn_lease_Lapsed : AFn := .code c_lease_Lapsed r_lease_Lapsed 16 true
def l_due_Until_0 : ACode :=
 (.seq (.ops [] [⟨some 19, .bin .lss (.t 18) (.t 17), none⟩] [])
 (.seq (.cond (.t 19) .skip (.exit 0 [6]))
 (.seq (.block 1 (.seq (.ops [] [⟨some 20, .iad 2 (.t 16) (.t 18), none⟩, ⟨some 21, .ld true 2 (.t 20), none⟩, ⟨some 8, .alloc (.d (.agg [.int .i64 0, .int .i64 0])), none⟩, ⟨none, .st 2 (.t 8) (.t 21), none⟩] [19, 20, 21])
 (.seq (.ops [] [⟨some 22, .fad false 0 1 (.t 8), none⟩, ⟨some 23, .ld false 1 (.t 22), none⟩, ⟨some 24, .mv (.t 1), none⟩, ⟨some 25, .bin .leq (.t 23) (.t 24), none⟩] [22, 23, 24])
 (.cond (.t 25) (.ops [] [⟨some 26, .mv (.t 6), none⟩, ⟨some 27, .fad false 1 1 (.t 8), none⟩, ⟨some 28, .ld false 1 (.t 27), none⟩, ⟨some 29, .bsl 1 1 (.d (.int .i64 0)) [(0, .t 28)], none⟩, ⟨some 30, .app 1 (.t 26) (.t 29), none⟩, ⟨some 6, .mv (.t 30), none⟩] [8, 25, 26, 27, 28, 29, 30]) .skip))))
 (.ops [] [⟨some 31, .bin .add (.t 18) (.c (.d (.int .i64 1))), none⟩, ⟨some 18, .mv (.t 31), none⟩] [8, 25, 31]))))
def c_due_Until : ACode :=
 (.seq (.ops [] [⟨some 4, .mv (.c (.xsl [])), none⟩] [4])
 (.seq (.seq (.ops [] [⟨some 9, .mv (.t 0), none⟩, ⟨some 10, .call N_due_Validate [] [.t 9], none⟩, ⟨some 11, .bin .neq (.t 10) (.c (.d (.int .i64 0))), none⟩] [9, 10])
 (.cond (.t 11) (.seq (.ops [] [⟨some 4, .mv (.c (.xsl [])), none⟩] [0, 1, 11])
 (.ret [4])) .skip))
 (.seq (.ops [] [⟨some 12, .mv (.t 0), none⟩, ⟨some 13, .call N_slices_Clone_api_Due [] [.t 12], none⟩, ⟨some 5, .mv (.t 13), none⟩] [0, 11, 12, 13])
 (.seq (.ops [26] [⟨some 14, .mv (.t 5), none⟩, ⟨some 15, .call N_slices_SortFunc_api_Due [true, false] [.t 14, .c (.d (.fn N_due_compare []))], none⟩] [14, 15])
 (.seq (.ops [] [⟨some 6, .nacc, none⟩] [])
 (.seq (.seq (.ops [] [⟨some 16, .mv (.t 5), none⟩, ⟨some 17, .len (.t 16), none⟩, ⟨some 18, .mv (.c (.d (.int .i64 0))), none⟩] [5])
 (.block 0 (.loop [] l_due_Until_0)))
 (.seq (.ops [] [⟨some 32, .mv (.t 6), none⟩, ⟨some 4, .mv (.t 32), none⟩] [1, 6, 16, 17, 18, 19, 32])
 (.ret [4]))))))))
def r_due_Until : List ARes := [.t 4]
def fn_due_Until : AFn := .code c_due_Until r_due_Until 33 false
def c_slices_Clone_api_Due : ACode :=
 (.seq (.ops [] [⟨some 2, .nacc, none⟩] [2])
 (.seq (.seq (.ops [] [⟨some 3, .mv (.t 0), none⟩, ⟨some 4, .nileq false (.t 3), none⟩] [3])
 (.cond (.t 4) (.seq (.ops [] [⟨some 2, .nacc, none⟩] [0, 4])
 (.ret [2])) .skip))
 (.seq (.ops [] [⟨some 5, .bsl 0 2 (.d (.agg [.int .i64 0, .int .i64 0])) [], none⟩, ⟨some 6, .mv (.t 0), none⟩, ⟨some 7, .app 2 (.t 5) (.t 6), none⟩, ⟨some 2, .mv (.t 7), none⟩] [0, 4, 5, 6, 7])
 (.ret [2]))))
def r_slices_Clone_api_Due : List ARes := [.t 2]
def fn_slices_Clone_api_Due : AFn := .nils c_slices_Clone_api_Due r_slices_Clone_api_Due 8
def c_slices_SortFunc_api_Due : ACode :=
 (.seq (.ops [] [⟨some 5, .mv (.t 0), none⟩, ⟨some 6, .len (.t 5), none⟩, ⟨some 4, .mv (.t 6), none⟩] [5, 6])
 (.ops [] [⟨some 7, .mv (.t 0), none⟩, ⟨some 8, .mv (.t 4), none⟩, ⟨some 9, .mv (.t 4), none⟩, ⟨some 10, .cvi .u64 (.t 9), none⟩, ⟨some 11, .call N_math_bits_Len [] [.t 10], none⟩, ⟨some 12, .mv (.t 1), none⟩, ⟨some 13, .call N_slices_pdqsortCmpFunc_api_Due [true, false, false, false, false] [.t 7, .c (.d (.int .i64 0)), .t 8, .t 11, .t 12], none⟩] [0, 1, 4, 7, 8, 9, 10, 11, 12, 13]))
def r_slices_SortFunc_api_Due : List ARes := []
def fn_slices_SortFunc_api_Due : AFn := .code c_slices_SortFunc_api_Due r_slices_SortFunc_api_Due 14 true
def c_math_bits_Len : ACode :=
 (.seq (.ops [] [⟨some 2, .mv (.c (.d (.int .i64 0))), none⟩] [2])
 (.seq (.cond (.c (.d (.bool false))) (.seq (.ops [] [⟨some 3, .mv (.t 0), none⟩, ⟨some 4, .cvi .u32 (.t 3), none⟩, ⟨some 5, .call N_math_bits_Len32 [] [.t 4], none⟩, ⟨some 2, .mv (.t 5), none⟩] [0, 3, 4, 5])
 (.ret [2])) .skip)
 (.seq (.ops [] [⟨some 6, .mv (.t 0), none⟩, ⟨some 7, .call N_math_bits_Len64 [] [.t 6], none⟩, ⟨some 2, .mv (.t 7), none⟩] [0, 6, 7])
 (.ret [2]))))
def r_math_bits_Len : List ARes := [.t 2]
def fn_math_bits_Len : AFn := .code c_math_bits_Len r_math_bits_Len 8 true
def c_math_bits_Len32 : ACode :=
 (.seq (.ops [] [⟨some 2, .mv (.c (.d (.int .i64 0))), none⟩] [])
 (.seq (.seq (.ops [] [⟨some 3, .mv (.t 0), none⟩, ⟨some 4, .bin .geq (.t 3) (.c (.d (.int .u32 65536))), none⟩] [3])
 (.cond (.t 4) (.seq (.ops [] [⟨some 5, .mv (.t 0), none⟩, ⟨some 6, .bin .shr (.t 5) (.c (.d (.int .u64 16))), none⟩, ⟨some 0, .mv (.t 6), none⟩] [2, 4, 5, 6])
 (.ops [] [⟨some 2, .mv (.c (.d (.int .i64 16))), none⟩] [])) .skip))
 (.seq (.seq (.ops [] [⟨some 7, .mv (.t 0), none⟩, ⟨some 8, .bin .geq (.t 7) (.c (.d (.int .u32 256))), none⟩] [4, 7])
 (.cond (.t 8) (.seq (.ops [] [⟨some 9, .mv (.t 0), none⟩, ⟨some 10, .bin .shr (.t 9) (.c (.d (.int .u64 8))), none⟩, ⟨some 0, .mv (.t 10), none⟩] [8, 9, 10])
 (.ops [] [⟨some 11, .mv (.t 2), none⟩, ⟨some 12, .bin .add (.t 11) (.c (.d (.int .i64 8))), none⟩, ⟨some 2, .mv (.t 12), none⟩] [11, 12])) .skip))
 (.seq (.ops [] [⟨some 13, .mv (.t 2), none⟩, ⟨some 14, .mv (.t 0), none⟩, ⟨some 15, .cvi .u8 (.t 14), none⟩, ⟨some 16, .idx (.c (.d (.str [0, 1, 2, 2, 3, 3, 3, 3, 4, 4, 4, 4, 4, 4, 4, 4, 5, 5, 5, 5, 5, 5, 5, 5, 5, 5, 5, 5, 5, 5, 5, 5, 6, 6, 6, 6, 6, 6, 6, 6, 6, 6, 6, 6, 6, 6, 6, 6, 6, 6, 6, 6, 6, 6, 6, 6, 6, 6, 6, 6, 6, 6, 6, 6, 7, 7, 7, 7, 7, 7, 7, 7, 7, 7, 7, 7, 7, 7, 7, 7, 7, 7, 7, 7, 7, 7, 7, 7, 7, 7, 7, 7, 7, 7, 7, 7, 7, 7, 7, 7, 7, 7, 7, 7, 7, 7, 7, 7, 7, 7, 7, 7, 7, 7, 7, 7, 7, 7, 7, 7, 7, 7, 7, 7, 7, 7, 7, 7, 8, 8, 8, 8, 8, 8, 8, 8, 8, 8, 8, 8, 8, 8, 8, 8, 8, 8, 8, 8, 8, 8, 8, 8, 8, 8, 8, 8, 8, 8, 8, 8, 8, 8, 8, 8, 8, 8, 8, 8, 8, 8, 8, 8, 8, 8, 8, 8, 8, 8, 8, 8, 8, 8, 8, 8, 8, 8, 8, 8, 8, 8, 8, 8, 8, 8, 8, 8, 8, 8, 8, 8, 8, 8, 8, 8, 8, 8, 8, 8, 8, 8, 8, 8, 8, 8, 8, 8, 8, 8, 8, 8, 8, 8, 8, 8, 8, 8, 8, 8, 8, 8, 8, 8, 8, 8, 8, 8, 8, 8, 8, 8, 8, 8, 8, 8, 8, 8, 8, 8, 8, 8, 8, 8, 8, 8, 8, 8]))) (.t 15), none⟩, ⟨some 17, .cvi .i64 (.t 16), none⟩, ⟨some 18, .bin .add (.t 13) (.t 17), none⟩, ⟨some 2, .mv (.t 18), none⟩] [0, 8, 13, 14, 15, 16, 17, 18])
 (.ret [2])))))
def r_math_bits_Len32 : List ARes := [.t 2]
def fn_math_bits_Len32 : AFn := .code c_math_bits_Len32 r_math_bits_Len32 19 true
def c_math_bits_Len64 : ACode :=
 (.seq (.ops [] [⟨some 2, .mv (.c (.d (.int .i64 0))), none⟩] [])
 (.seq (.seq (.ops [] [⟨some 3, .mv (.t 0), none⟩, ⟨some 4, .bin .geq (.t 3) (.c (.d (.int .u64 4294967296))), none⟩] [3])
 (.cond (.t 4) (.seq (.ops [] [⟨some 5, .mv (.t 0), none⟩, ⟨some 6, .bin .shr (.t 5) (.c (.d (.int .u64 32))), none⟩, ⟨some 0, .mv (.t 6), none⟩] [2, 4, 5, 6])
 (.ops [] [⟨some 2, .mv (.c (.d (.int .i64 32))), none⟩] [])) .skip))
 (.seq (.seq (.ops [] [⟨some 7, .mv (.t 0), none⟩, ⟨some 8, .bin .geq (.t 7) (.c (.d (.int .u64 65536))), none⟩] [4, 7])
 (.cond (.t 8) (.seq (.ops [] [⟨some 9, .mv (.t 0), none⟩, ⟨some 10, .bin .shr (.t 9) (.c (.d (.int .u64 16))), none⟩, ⟨some 0, .mv (.t 10), none⟩] [8, 9, 10])
 (.ops [] [⟨some 11, .mv (.t 2), none⟩, ⟨some 12, .bin .add (.t 11) (.c (.d (.int .i64 16))), none⟩, ⟨some 2, .mv (.t 12), none⟩] [11, 12])) .skip))
 (.seq (.seq (.ops [] [⟨some 13, .mv (.t 0), none⟩, ⟨some 14, .bin .geq (.t 13) (.c (.d (.int .u64 256))), none⟩] [8, 13])
 (.cond (.t 14) (.seq (.ops [] [⟨some 15, .mv (.t 0), none⟩, ⟨some 16, .bin .shr (.t 15) (.c (.d (.int .u64 8))), none⟩, ⟨some 0, .mv (.t 16), none⟩] [14, 15, 16])
 (.ops [] [⟨some 17, .mv (.t 2), none⟩, ⟨some 18, .bin .add (.t 17) (.c (.d (.int .i64 8))), none⟩, ⟨some 2, .mv (.t 18), none⟩] [17, 18])) .skip))
 (.seq (.ops [] [⟨some 19, .mv (.t 2), none⟩, ⟨some 20, .mv (.t 0), none⟩, ⟨some 21, .cvi .u8 (.t 20), none⟩, ⟨some 22, .idx (.c (.d (.str [0, 1, 2, 2, 3, 3, 3, 3, 4, 4, 4, 4, 4, 4, 4, 4, 5, 5, 5, 5, 5, 5, 5, 5, 5, 5, 5, 5, 5, 5, 5, 5, 6, 6, 6, 6, 6, 6, 6, 6, 6, 6, 6, 6, 6, 6, 6, 6, 6, 6, 6, 6, 6, 6, 6, 6, 6, 6, 6, 6, 6, 6, 6, 6, 7, 7, 7, 7, 7, 7, 7, 7, 7, 7, 7, 7, 7, 7, 7, 7, 7, 7, 7, 7, 7, 7, 7, 7, 7, 7, 7, 7, 7, 7, 7, 7, 7, 7, 7, 7, 7, 7, 7, 7, 7, 7, 7, 7, 7, 7, 7, 7, 7, 7, 7, 7, 7, 7, 7, 7, 7, 7, 7, 7, 7, 7, 7, 7, 8, 8, 8, 8, 8, 8, 8, 8, 8, 8, 8, 8, 8, 8, 8, 8, 8, 8, 8, 8, 8, 8, 8, 8, 8, 8, 8, 8, 8, 8, 8, 8, 8, 8, 8, 8, 8, 8, 8, 8, 8, 8, 8, 8, 8, 8, 8, 8, 8, 8, 8, 8, 8, 8, 8, 8, 8, 8, 8, 8, 8, 8, 8, 8, 8, 8, 8, 8, 8, 8, 8, 8, 8, 8, 8, 8, 8, 8, 8, 8, 8, 8, 8, 8, 8, 8, 8, 8, 8, 8, 8, 8, 8, 8, 8, 8, 8, 8, 8, 8, 8, 8, 8, 8, 8, 8, 8, 8, 8, 8, 8, 8, 8, 8, 8, 8, 8, 8, 8, 8, 8, 8, 8, 8, 8, 8, 8, 8]))) (.t 21), none⟩, ⟨some 23, .cvi .i64 (.t 22), none⟩, ⟨some 24, .bin .add (.t 19) (.t 23), none⟩, ⟨some 2, .mv (.t 24), none⟩] [0, 14, 19, 20, 21, 22, 23, 24])
 (.ret [2]))))))
def r_math_bits_Len64 : List ARes := [.t 2]
def fn_math_bits_Len64 : AFn := .code c_math_bits_Len64 r_math_bits_Len64 25 true
def l_slices_pdqsortCmpFunc_api_Due_0 : ACode :=
 (.block 1 (.seq (.ops [] [⟨some 21, .mv (.t 2), none⟩, ⟨some 22, .mv (.t 1), none⟩, ⟨some 23, .bin .sub (.t 21) (.t 22), none⟩, ⟨some 12, .mv (.t 23), none⟩] [21, 22, 23])
 (.seq (.seq (.ops [] [⟨some 24, .mv (.t 12), none⟩, ⟨some 25, .bin .leq (.t 24) (.c (.d (.int .i64 12))), none⟩] [24])
 (.cond (.t 25) (.seq (.ops [] [⟨some 26, .mv (.t 0), none⟩, ⟨some 27, .mv (.t 1), none⟩, ⟨some 28, .mv (.t 2), none⟩, ⟨some 29, .mv (.t 4), none⟩, ⟨some 30, .call N_slices_insertionSortCmpFunc_api_Due [true, false, false, false] [.t 26, .t 27, .t 28, .t 29], none⟩] [0, 1, 2, 3, 4, 10, 11, 12, 25, 26, 27, 28, 29, 30])
 (.ret [])) .skip))
 (.seq (.seq (.ops [] [⟨some 31, .mv (.t 3), none⟩, ⟨some 32, .bin .eql (.t 31) (.c (.d (.int .i64 0))), none⟩] [25, 31])
 (.cond (.t 32) (.seq (.ops [] [⟨some 33, .mv (.t 0), none⟩, ⟨some 34, .mv (.t 1), none⟩, ⟨some 35, .mv (.t 2), none⟩, ⟨some 36, .mv (.t 4), none⟩, ⟨some 37, .call N_slices_heapSortCmpFunc_api_Due [true, false, false, false] [.t 33, .t 34, .t 35, .t 36], none⟩] [0, 1, 2, 3, 4, 10, 11, 12, 32, 33, 34, 35, 36, 37])
 (.ret [])) .skip))
 (.seq (.seq (.ops [] [⟨some 38, .mv (.t 10), none⟩, ⟨some 39, .un .not (.t 38), none⟩] [32, 38])
 (.cond (.t 39) (.seq (.ops [] [⟨some 40, .mv (.t 0), none⟩, ⟨some 41, .mv (.t 1), none⟩, ⟨some 42, .mv (.t 2), none⟩, ⟨some 43, .mv (.t 4), none⟩, ⟨some 44, .call N_slices_breakPatternsCmpFunc_api_Due [true, false, false, false] [.t 40, .t 41, .t 42, .t 43], none⟩] [39, 40, 41, 42, 43, 44])
 (.ops [] [⟨some 45, .mv (.t 3), none⟩, ⟨some 46, .bin .sub (.t 45) (.c (.d (.int .i64 1))), none⟩, ⟨some 3, .mv (.t 46), none⟩] [45, 46])) .skip))
 (.seq (.ops [] [⟨some 48, .mv (.t 0), none⟩, ⟨some 49, .mv (.t 1), none⟩, ⟨some 50, .mv (.t 2), none⟩, ⟨some 51, .mv (.t 4), none⟩, ⟨some 52, .call N_slices_choosePivotCmpFunc_api_Due [] [.t 48, .t 49, .t 50, .t 51], none⟩, ⟨some 47, .mv (.t 52), none⟩, ⟨some 53, .ext (.t 47) 0, none⟩, ⟨some 54, .ext (.t 47) 1, none⟩, ⟨some 13, .mv (.t 53), none⟩, ⟨some 14, .mv (.t 54), none⟩] [39, 47, 48, 49, 50, 51, 52, 53, 54])
 (.seq (.seq (.ops [] [⟨some 55, .mv (.t 14), none⟩, ⟨some 56, .bin .eql (.t 55) (.c (.d (.int .i64 2))), none⟩] [55])
 (.cond (.t 56) (.seq (.ops [] [⟨some 57, .mv (.t 0), none⟩, ⟨some 58, .mv (.t 1), none⟩, ⟨some 59, .mv (.t 2), none⟩, ⟨some 60, .mv (.t 4), none⟩, ⟨some 61, .call N_slices_reverseRangeCmpFunc_api_Due [true, false, false, false] [.t 57, .t 58, .t 59, .t 60], none⟩] [14, 56, 57, 58, 59, 60, 61])
 (.seq (.ops [] [⟨some 62, .mv (.t 2), none⟩, ⟨some 63, .bin .sub (.t 62) (.c (.d (.int .i64 1))), none⟩, ⟨some 64, .mv (.t 13), none⟩, ⟨some 65, .mv (.t 1), none⟩, ⟨some 66, .bin .sub (.t 64) (.t 65), none⟩, ⟨some 67, .bin .sub (.t 63) (.t 66), none⟩, ⟨some 13, .mv (.t 67), none⟩] [62, 63, 64, 65, 66, 67])
 (.ops [] [⟨some 14, .mv (.c (.d (.int .i64 1))), none⟩] []))) .skip))
 (.seq (.seq (.ops [] [⟨some 68, .mv (.t 10), none⟩, ⟨some 69, .mv (.t 68), none⟩, ⟨some 70, .mv (.t 11), some (69, true)⟩, ⟨some 71, .pick (.t 69) (.t 70) (.c (.d (.bool false))), none⟩, ⟨some 72, .mv (.t 71), none⟩, ⟨some 73, .mv (.t 14), some (72, true)⟩, ⟨some 74, .bin .eql (.t 73) (.c (.d (.int .i64 1))), some (72, true)⟩, ⟨some 75, .pick (.t 72) (.t 74) (.c (.d (.bool false))), none⟩] [14, 56, 68, 69, 70, 71, 72, 73, 74])
 (.cond (.t 75) (.seq (.ops [] [⟨some 76, .mv (.t 0), none⟩, ⟨some 77, .mv (.t 1), none⟩, ⟨some 78, .mv (.t 2), none⟩, ⟨some 79, .mv (.t 4), none⟩, ⟨some 80, .call N_slices_partialInsertionSortCmpFunc_api_Due [true, false, false, false] [.t 76, .t 77, .t 78, .t 79], none⟩] [75, 76, 77, 78, 79])
 (.cond (.t 80) (.ret []) .skip)) .skip))
 (.seq (.seq (.draw [] [⟨some 81, .mv (.t 1), none⟩, ⟨some 82, .bin .gtr (.t 81) (.c (.d (.int .i64 0))), none⟩, ⟨some 83, .mv (.t 82), none⟩, ⟨some 84, .mv (.t 4), some (83, true)⟩, ⟨some 85, .mv (.t 0), some (83, true)⟩, ⟨some 86, .mv (.t 1), some (83, true)⟩, ⟨some 87, .bin .sub (.t 86) (.c (.d (.int .i64 1))), some (83, true)⟩, ⟨some 88, .iad 2 (.t 85) (.t 87), some (83, true)⟩, ⟨some 89, .ld true 2 (.t 88), some (83, true)⟩, ⟨some 90, .mv (.t 0), some (83, true)⟩, ⟨some 91, .mv (.t 13), some (83, true)⟩, ⟨some 92, .iad 2 (.t 90) (.t 91), some (83, true)⟩, ⟨some 93, .ld true 2 (.t 92), some (83, true)⟩, ⟨some 94, .callv (.t 84) [] [.t 89, .t 93], some (83, true)⟩, ⟨some 95, .bin .lss (.t 94) (.c (.d (.int .i64 0))), some (83, true)⟩, ⟨some 96, .un .not (.t 95), some (83, true)⟩, ⟨some 97, .pick (.t 83) (.t 96) (.c (.d (.bool false))), none⟩] [[], [], [], [], [3], [3, 4], [3, 4], [3], [3], [3, 4, 5, 6, 7, 8], [3, 4, 5, 6, 7, 8, 9], [3, 4, 5, 6, 7, 8], [3, 4, 5, 6, 7, 8], [], [], [], []] [75, 80, 81, 82, 83, 84, 85, 86, 87, 88, 89, 90, 91, 92, 93, 94, 95, 96])
 (.cond (.t 97) (.seq (.ops [] [⟨some 98, .mv (.t 0), none⟩, ⟨some 99, .mv (.t 1), none⟩, ⟨some 100, .mv (.t 2), none⟩, ⟨some 101, .mv (.t 13), none⟩, ⟨some 102, .mv (.t 4), none⟩, ⟨some 103, .call N_slices_partitionEqualCmpFunc_api_Due [true, false, false, false, false] [.t 98, .t 99, .t 100, .t 101, .t 102], none⟩, ⟨some 15, .mv (.t 103), none⟩] [1, 12, 13, 97, 98, 99, 100, 101, 102, 103])
 (.seq (.ops [] [⟨some 104, .mv (.t 15), none⟩, ⟨some 1, .mv (.t 104), none⟩] [15, 104])
 (.exit 1 [0, 1, 2, 3, 4, 10, 11]))) .skip))
 (.seq (.ops [] [⟨some 106, .mv (.t 0), none⟩, ⟨some 107, .mv (.t 1), none⟩, ⟨some 108, .mv (.t 2), none⟩, ⟨some 109, .mv (.t 13), none⟩, ⟨some 110, .mv (.t 4), none⟩, ⟨some 111, .call N_slices_partitionCmpFunc_api_Due [true, false, false, false, false] [.t 106, .t 107, .t 108, .t 109, .t 110], none⟩, ⟨some 105, .mv (.t 111), none⟩, ⟨some 112, .ext (.t 105) 0, none⟩, ⟨some 113, .ext (.t 105) 1, none⟩, ⟨some 16, .mv (.t 112), none⟩, ⟨some 17, .mv (.t 113), none⟩] [10, 11, 13, 97, 105, 106, 107, 108, 109, 110, 111, 112, 113])
 (.seq (.ops [] [⟨some 114, .mv (.t 17), none⟩, ⟨some 11, .mv (.t 114), none⟩] [17, 114])
 (.seq (.ops [] [⟨some 115, .mv (.t 16), none⟩, ⟨some 116, .mv (.t 1), none⟩, ⟨some 117, .bin .sub (.t 115) (.t 116), none⟩, ⟨some 118, .mv (.t 2), none⟩, ⟨some 119, .mv (.t 16), none⟩, ⟨some 120, .bin .sub (.t 118) (.t 119), none⟩, ⟨some 18, .mv (.t 117), none⟩, ⟨some 19, .mv (.t 120), none⟩] [115, 116, 117, 118, 119, 120])
 (.seq (.ops [] [⟨some 121, .mv (.t 12), none⟩, ⟨some 122, .bin .quo (.t 121) (.c (.d (.int .i64 8))), none⟩, ⟨some 20, .mv (.t 122), none⟩] [12, 121, 122])
 (.seq (.ops [] [⟨some 123, .mv (.t 18), none⟩, ⟨some 124, .mv (.t 19), none⟩, ⟨some 125, .bin .lss (.t 123) (.t 124), none⟩] [123, 124])
 (.cond (.t 125) (.seq (.ops [] [⟨some 126, .mv (.t 18), none⟩, ⟨some 127, .mv (.t 20), none⟩, ⟨some 128, .bin .geq (.t 126) (.t 127), none⟩, ⟨some 10, .mv (.t 128), none⟩] [18, 19, 20, 125, 126, 127, 128])
 (.seq (.ops [] [⟨some 129, .mv (.t 0), none⟩, ⟨some 130, .mv (.t 1), none⟩, ⟨some 131, .mv (.t 16), none⟩, ⟨some 132, .mv (.t 3), none⟩, ⟨some 133, .mv (.t 4), none⟩, ⟨some 134, .call N_slices_pdqsortCmpFunc_api_Due [true, false, false, false, false] [.t 129, .t 130, .t 131, .t 132, .t 133], none⟩] [1, 129, 130, 131, 132, 133, 134])
 (.ops [] [⟨some 135, .mv (.t 16), none⟩, ⟨some 136, .bin .add (.t 135) (.c (.d (.int .i64 1))), none⟩, ⟨some 1, .mv (.t 136), none⟩] [16, 135, 136]))) (.seq (.ops [] [⟨some 137, .mv (.t 19), none⟩, ⟨some 138, .mv (.t 20), none⟩, ⟨some 139, .bin .geq (.t 137) (.t 138), none⟩, ⟨some 10, .mv (.t 139), none⟩] [18, 19, 20, 125, 137, 138, 139])
 (.seq (.ops [] [⟨some 140, .mv (.t 0), none⟩, ⟨some 141, .mv (.t 16), none⟩, ⟨some 142, .bin .add (.t 141) (.c (.d (.int .i64 1))), none⟩, ⟨some 143, .mv (.t 2), none⟩, ⟨some 144, .mv (.t 3), none⟩, ⟨some 145, .mv (.t 4), none⟩, ⟨some 146, .call N_slices_pdqsortCmpFunc_api_Due [true, false, false, false, false] [.t 140, .t 142, .t 143, .t 144, .t 145], none⟩] [2, 140, 141, 142, 143, 144, 145, 146])
 (.ops [] [⟨some 147, .mv (.t 16), none⟩, ⟨some 2, .mv (.t 147), none⟩] [16, 147]))))))))))))))))))
def c_slices_pdqsortCmpFunc_api_Due : ACode :=
 (.seq (.ops [] [⟨some 10, .mv (.c (.d (.bool true))), none⟩] [])
 (.seq (.ops [] [⟨some 11, .mv (.c (.d (.bool true))), none⟩] [])
 (.block 0 (.loop [] l_slices_pdqsortCmpFunc_api_Due_0))))
def r_slices_pdqsortCmpFunc_api_Due : List ARes := []
def fn_slices_pdqsortCmpFunc_api_Due : AFn := .code c_slices_pdqsortCmpFunc_api_Due r_slices_pdqsortCmpFunc_api_Due 148 true
def l_slices_insertionSortCmpFunc_api_Due_0 : ACode :=
 (.seq (.seq (.draw [] [⟨some 18, .mv (.t 9), none⟩, ⟨some 19, .mv (.t 1), none⟩, ⟨some 20, .bin .gtr (.t 18) (.t 19), none⟩, ⟨some 21, .mv (.t 20), none⟩, ⟨some 22, .mv (.t 3), some (21, true)⟩, ⟨some 23, .mv (.t 0), some (21, true)⟩, ⟨some 24, .mv (.t 9), some (21, true)⟩, ⟨some 25, .iad 2 (.t 23) (.t 24), some (21, true)⟩, ⟨some 26, .ld true 2 (.t 25), some (21, true)⟩, ⟨some 27, .mv (.t 0), some (21, true)⟩, ⟨some 28, .mv (.t 9), some (21, true)⟩, ⟨some 29, .bin .sub (.t 28) (.c (.d (.int .i64 1))), some (21, true)⟩, ⟨some 30, .iad 2 (.t 27) (.t 29), some (21, true)⟩, ⟨some 31, .ld true 2 (.t 30), some (21, true)⟩, ⟨some 32, .callv (.t 22) [] [.t 26, .t 31], some (21, true)⟩, ⟨some 33, .bin .lss (.t 32) (.c (.d (.int .i64 0))), some (21, true)⟩, ⟨some 34, .pick (.t 21) (.t 33) (.c (.d (.bool false))), none⟩] [[], [0], [], [], [], [4], [4, 5], [4], [4], [4, 5, 6, 7, 8], [4, 5, 6, 7, 8, 9], [4, 5, 6, 7, 8, 9], [4, 5, 6, 7, 8], [4, 5, 6, 7, 8], [], [], []] [18, 19, 20, 21, 22, 23, 24, 25, 26, 27, 28, 29, 30, 31, 32, 33])
 (.cond (.t 34) .skip (.exit 2 [0, 1, 2, 3, 8])))
 (.seq (.block 3 (.draw [] [⟨some 37, .mv (.t 0), none⟩, ⟨some 38, .mv (.t 9), none⟩, ⟨some 39, .mv (.t 0), none⟩, ⟨some 40, .mv (.t 9), none⟩, ⟨some 41, .bin .sub (.t 40) (.c (.d (.int .i64 1))), none⟩, ⟨some 42, .mv (.t 0), none⟩, ⟨some 43, .mv (.t 9), none⟩, ⟨some 44, .bin .sub (.t 43) (.c (.d (.int .i64 1))), none⟩, ⟨some 45, .iad 2 (.t 42) (.t 44), none⟩, ⟨some 46, .ld true 2 (.t 45), none⟩, ⟨some 47, .mv (.t 0), none⟩, ⟨some 48, .mv (.t 9), none⟩, ⟨some 49, .iad 2 (.t 47) (.t 48), none⟩, ⟨some 50, .ld true 2 (.t 49), none⟩, ⟨some 51, .iad 2 (.t 37) (.t 38), none⟩, ⟨none, .st 2 (.t 51) (.t 46), none⟩, ⟨some 52, .iad 2 (.t 39) (.t 41), none⟩, ⟨none, .st 2 (.t 52) (.t 50), none⟩] [[], [0], [0, 1], [0, 1, 2], [0, 1, 2], [0, 1, 2, 3, 4], [0, 1, 2, 3, 4, 5], [0, 1, 2, 3, 4, 5], [0, 1, 2, 3, 4], [0, 1, 2, 3, 4], [0, 1, 2, 3, 4, 5, 6, 7, 8, 9], [0, 1, 2, 3, 4, 5, 6, 7, 8, 9, 10], [0, 1, 2, 3, 4, 5, 6, 7, 8, 9], [0, 1, 2, 3, 4, 5, 6, 7, 8, 9], [2, 3, 4], [2, 3, 4], [], []] [34, 37, 38, 39, 40, 41, 42, 43, 44, 45, 46, 47, 48, 49, 50, 51, 52]))
 (.ops [] [⟨some 35, .mv (.t 9), none⟩, ⟨some 36, .bin .sub (.t 35) (.c (.d (.int .i64 1))), none⟩, ⟨some 9, .mv (.t 36), none⟩] [35, 36])))
def l_slices_insertionSortCmpFunc_api_Due_1 : ACode :=
 (.seq (.seq (.ops [] [⟨some 12, .mv (.t 8), none⟩, ⟨some 13, .mv (.t 2), none⟩, ⟨some 14, .bin .lss (.t 12) (.t 13), none⟩] [12, 13])
 (.cond (.t 14) .skip (.exit 0 [])))
 (.seq (.block 1 (.seq (.ops [] [⟨some 17, .mv (.t 8), none⟩, ⟨some 9, .mv (.t 17), none⟩] [14, 17])
 (.block 2 (.loop [] l_slices_insertionSortCmpFunc_api_Due_0))))
 (.ops [] [⟨some 15, .mv (.t 8), none⟩, ⟨some 16, .bin .add (.t 15) (.c (.d (.int .i64 1))), none⟩, ⟨some 8, .mv (.t 16), none⟩] [9, 15, 16, 34])))
def c_slices_insertionSortCmpFunc_api_Due : ACode :=
 (.seq (.ops [] [⟨some 10, .mv (.t 1), none⟩, ⟨some 11, .bin .add (.t 10) (.c (.d (.int .i64 1))), none⟩, ⟨some 8, .mv (.t 11), none⟩] [10, 11])
 (.block 0 (.loop [] l_slices_insertionSortCmpFunc_api_Due_1)))
def r_slices_insertionSortCmpFunc_api_Due : List ARes := []
def fn_slices_insertionSortCmpFunc_api_Due : AFn := .code c_slices_insertionSortCmpFunc_api_Due r_slices_insertionSortCmpFunc_api_Due 53 true
def c_lease_Lapsed_1 : ACode :=
 (.seq (.ops [] [⟨some 4, .mv (.c (.d (.bool false))), none⟩] [4])
 (.seq (.ops [] [⟨some 8, .ld true 2 (.t 1), none⟩, ⟨some 9, .mv (.t 0), none⟩, ⟨some 10, .call N_lease_find [] [.t 8, .t 9], none⟩, ⟨some 7, .mv (.t 10), none⟩, ⟨some 11, .ext (.t 7) 0, none⟩, ⟨some 12, .ext (.t 7) 1, none⟩, ⟨some 5, .mv (.t 11), none⟩, ⟨some 6, .mv (.t 12), none⟩] [0, 6, 7, 8, 9, 10, 11, 12])
 (.seq (.draw [] [⟨some 13, .fad false 0 1 (.t 1), none⟩, ⟨some 14, .ld false 1 (.t 13), none⟩, ⟨some 15, .mv (.t 5), none⟩, ⟨some 16, .iad 8 (.t 14) (.t 15), none⟩, ⟨some 17, .fad true 0 7 (.t 16), none⟩, ⟨some 18, .ld true 7 (.t 17), none⟩, ⟨some 19, .ld false 1 (.t 2), none⟩, ⟨some 20, .call N_message_Purged [] [.t 18, .t 19], none⟩, ⟨some 4, .mv (.t 20), none⟩] [[], [], [0, 1], [], [], [], [0, 1, 2, 3, 4, 5], [], []] [1, 2, 5, 13, 14, 15, 16, 17, 18, 19, 20])
 (.ret [4]))))
def r_lease_Lapsed_1 : List ARes := [.t 4]
def fn_lease_Lapsed_1 : AFn := .code c_lease_Lapsed_1 r_lease_Lapsed_1 21 true
def c_lease_find : ACode :=
 (.seq (.ops [] [⟨some 2, .box (.t 0), none⟩, ⟨some 4, .mv (.c (.d (.int .i64 0))), none⟩, ⟨some 5, .mv (.c (.d (.bool false))), none⟩] [0, 4, 5])
 (.seq (.ops [] [⟨some 6, .fad false 0 1 (.t 2), none⟩, ⟨some 7, .ld false 1 (.t 6), none⟩, ⟨some 8, .mv (.t 1), none⟩, ⟨some 9, .call N_slices_BinarySearchFunc_api_Lease [] [.t 7, .t 8, .c (.d (.fn N_lease_find_1 []))], none⟩, ⟨some 10, .ext (.t 9) 0, none⟩, ⟨some 11, .ext (.t 9) 1, none⟩, ⟨some 4, .mv (.t 10), none⟩, ⟨some 5, .mv (.t 11), none⟩] [1, 2, 6, 7, 8, 9, 10, 11])
 (.ret [4, 5])))
def r_lease_find : List ARes := [.t 4, .t 5]
def fn_lease_find : AFn := .code c_lease_find r_lease_find 12 true
def l_slices_BinarySearchFunc_api_Lease_0 : ACode :=
 (.seq (.seq (.ops [] [⟨some 15, .mv (.t 9), none⟩, ⟨some 16, .mv (.t 10), none⟩, ⟨some 17, .bin .lss (.t 15) (.t 16), none⟩] [15, 16])
 (.cond (.t 17) .skip (.exit 0 [0, 1, 2, 8, 9])))
 (.block 1 (.seq (.ops [] [⟨some 18, .mv (.t 9), none⟩, ⟨some 19, .mv (.t 10), none⟩, ⟨some 20, .bin .add (.t 18) (.t 19), none⟩, ⟨some 21, .cvi .u64 (.t 20), none⟩, ⟨some 22, .bin .shr (.t 21) (.c (.d (.int .u64 1))), none⟩, ⟨some 23, .cvi .i64 (.t 22), none⟩, ⟨some 11, .mv (.t 23), none⟩] [17, 18, 19, 20, 21, 22, 23])
 (.seq (.ops [] [⟨some 24, .mv (.t 2), none⟩, ⟨some 25, .mv (.t 0), none⟩, ⟨some 26, .mv (.t 11), none⟩, ⟨some 27, .iad 8 (.t 25) (.t 26), none⟩, ⟨some 28, .ld true 8 (.t 27), none⟩, ⟨some 29, .mv (.t 1), none⟩, ⟨some 30, .callv (.t 24) [] [.t 28, .t 29], none⟩, ⟨some 31, .bin .lss (.t 30) (.c (.d (.int .i64 0))), none⟩] [24, 25, 26, 27, 28, 29, 30])
 (.cond (.t 31) (.ops [] [⟨some 32, .mv (.t 11), none⟩, ⟨some 33, .bin .add (.t 32) (.c (.d (.int .i64 1))), none⟩, ⟨some 9, .mv (.t 33), none⟩] [11, 31, 32, 33]) (.ops [] [⟨some 34, .mv (.t 11), none⟩, ⟨some 10, .mv (.t 34), none⟩] [11, 31, 34]))))))
def c_slices_BinarySearchFunc_api_Lease : ACode :=
 (.seq (.ops [] [⟨some 6, .mv (.c (.d (.int .i64 0))), none⟩, ⟨some 7, .mv (.c (.d (.bool false))), none⟩] [6, 7])
 (.seq (.ops [] [⟨some 12, .mv (.t 0), none⟩, ⟨some 13, .len (.t 12), none⟩, ⟨some 8, .mv (.t 13), none⟩] [12, 13])
 (.seq (.ops [] [⟨some 14, .mv (.t 8), none⟩, ⟨some 9, .mv (.c (.d (.int .i64 0))), none⟩, ⟨some 10, .mv (.t 14), none⟩] [14])
 (.seq (.block 0 (.loop [] l_slices_BinarySearchFunc_api_Lease_0))
 (.seq (.ops [] [⟨some 35, .mv (.t 9), none⟩, ⟨some 36, .mv (.t 9), none⟩, ⟨some 37, .mv (.t 8), none⟩, ⟨some 38, .bin .lss (.t 36) (.t 37), none⟩, ⟨some 39, .mv (.t 38), none⟩, ⟨some 40, .mv (.t 2), some (39, true)⟩, ⟨some 41, .mv (.t 0), some (39, true)⟩, ⟨some 42, .mv (.t 9), some (39, true)⟩, ⟨some 43, .iad 8 (.t 41) (.t 42), some (39, true)⟩, ⟨some 44, .ld true 8 (.t 43), some (39, true)⟩, ⟨some 45, .mv (.t 1), some (39, true)⟩, ⟨some 46, .callv (.t 40) [] [.t 44, .t 45], some (39, true)⟩, ⟨some 47, .bin .eql (.t 46) (.c (.d (.int .i64 0))), some (39, true)⟩, ⟨some 48, .pick (.t 39) (.t 47) (.c (.d (.bool false))), none⟩, ⟨some 6, .mv (.t 35), none⟩, ⟨some 7, .mv (.t 48), none⟩] [0, 1, 2, 8, 9, 10, 17, 35, 36, 37, 38, 39, 40, 41, 42, 43, 44, 45, 46, 47, 48])
 (.ret [6, 7]))))))
def r_slices_BinarySearchFunc_api_Lease : List ARes := [.t 6, .t 7]
def fn_slices_BinarySearchFunc_api_Lease : AFn := .code c_slices_BinarySearchFunc_api_Lease r_slices_BinarySearchFunc_api_Lease 49 true
def c_lease_find_1 : ACode :=
 (.seq (.ops [] [⟨some 2, .box (.t 0), none⟩, ⟨some 4, .mv (.c (.d (.int .i64 0))), none⟩] [0, 4])
 (.seq (.ops [] [⟨some 5, .fad true 0 7 (.t 2), none⟩, ⟨some 6, .fad false 0 1 (.t 5), none⟩, ⟨some 7, .ld false 1 (.t 6), none⟩, ⟨some 8, .mv (.t 1), none⟩, ⟨some 9, .call N_cmp_Compare_int [] [.t 7, .t 8], none⟩, ⟨some 4, .mv (.t 9), none⟩] [1, 2, 5, 6, 7, 8, 9])
 (.ret [4])))
def r_lease_find_1 : List ARes := [.t 4]
def fn_lease_find_1 : AFn := .code c_lease_find_1 r_lease_find_1 10 true
def c_message_Purged : ACode :=
 (.seq (.ops [] [⟨some 2, .box (.t 0), none⟩, ⟨some 4, .mv (.c (.d (.bool false))), none⟩] [0, 4])
 (.seq (.ops [] [⟨some 5, .fad false 2 1 (.t 2), none⟩, ⟨some 6, .ld false 1 (.t 5), none⟩, ⟨some 7, .mv (.t 1), none⟩, ⟨some 8, .bin .lss (.t 6) (.t 7), none⟩, ⟨some 4, .mv (.t 8), none⟩] [1, 2, 5, 6, 7, 8])
 (.ret [4])))
def r_message_Purged : List ARes := [.t 4]
def fn_message_Purged : AFn := .code c_message_Purged r_message_Purged 9 true
def l_slices_DeleteFunc_int_0 : ACode :=
 (.seq (.seq (.ops [] [⟨some 16, .mv (.t 6), none⟩, ⟨some 17, .mv (.t 0), none⟩, ⟨some 18, .len (.t 17), none⟩, ⟨some 19, .bin .lss (.t 16) (.t 18), none⟩] [16, 17, 18])
 (.cond (.t 19) .skip (.exit 0 [0, 5])))
 (.seq (.block 1 (.seq (.ops [] [⟨some 22, .mv (.t 0), none⟩, ⟨some 23, .mv (.t 6), none⟩, ⟨some 24, .iad 1 (.t 22) (.t 23), none⟩, ⟨some 25, .ld false 1 (.t 24), none⟩, ⟨some 7, .mv (.t 25), none⟩] [19, 22, 23, 24, 25])
 (.seq (.ops [] [⟨some 26, .mv (.t 1), none⟩, ⟨some 27, .mv (.t 7), none⟩, ⟨some 28, .callv (.t 26) [] [.t 27], none⟩, ⟨some 29, .un .not (.t 28), none⟩] [26, 27, 28])
 (.cond (.t 29) (.seq (.ops [] [⟨some 30, .mv (.t 0), none⟩, ⟨some 31, .mv (.t 5), none⟩, ⟨some 32, .mv (.t 7), none⟩, ⟨some 33, .iad 1 (.t 30) (.t 31), none⟩, ⟨none, .st 1 (.t 33) (.t 32), none⟩] [7, 29, 30, 31, 32, 33])
 (.ops [] [⟨some 34, .mv (.t 5), none⟩, ⟨some 35, .bin .add (.t 34) (.c (.d (.int .i64 1))), none⟩, ⟨some 5, .mv (.t 35), none⟩] [34, 35])) .skip))))
 (.ops [] [⟨some 20, .mv (.t 6), none⟩, ⟨some 21, .bin .add (.t 20) (.c (.d (.int .i64 1))), none⟩, ⟨some 6, .mv (.t 21), none⟩] [7, 20, 21, 29])))
def c_slices_DeleteFunc_int : ACode :=
 (.seq (.ops [2000000] [⟨some 4, .mv (.c (.xsl [])), none⟩] [4])
 (.seq (.ops [] [⟨some 8, .mv (.t 0), none⟩, ⟨some 9, .mv (.t 1), none⟩, ⟨some 10, .call N_slices_IndexFunc_int [] [.t 8, .t 9], none⟩, ⟨some 5, .mv (.t 10), none⟩] [8, 9, 10])
 (.seq (.seq (.ops [] [⟨some 11, .mv (.t 5), none⟩, ⟨some 12, .bin .eql (.t 11) (.c (.d (.int .i64 (-1)))), none⟩] [11])
 (.cond (.t 12) (.seq (.ops [] [⟨some 13, .mv (.t 0), none⟩, ⟨some 4, .mv (.t 13), none⟩] [0, 1, 5, 12, 13])
 (.ret [4])) .skip))
 (.seq (.seq (.ops [] [⟨some 14, .mv (.t 5), none⟩, ⟨some 15, .bin .add (.t 14) (.c (.d (.int .i64 1))), none⟩, ⟨some 6, .mv (.t 15), none⟩] [12, 14, 15])
 (.block 0 (.loop [] l_slices_DeleteFunc_int_0)))
 (.seq (.ops [] [⟨some 36, .mv (.t 0), none⟩, ⟨some 37, .mv (.t 5), none⟩, ⟨some 38, .slc 1 (.t 36) (some (.t 37)) none none, none⟩, ⟨none, .clr 1 (.t 38), none⟩] [1, 6, 19, 36, 37, 38])
 (.seq (.ops [] [⟨some 39, .mv (.t 0), none⟩, ⟨some 40, .mv (.t 5), none⟩, ⟨some 41, .slc 1 (.t 39) none (some (.t 40)) none, none⟩, ⟨some 4, .mv (.t 41), none⟩] [0, 5, 39, 40, 41])
 (.ret [4])))))))
def r_slices_DeleteFunc_int : List ARes := [.t 4]
def fn_slices_DeleteFunc_int : AFn := .code c_slices_DeleteFunc_int r_slices_DeleteFunc_int 42 false
def l_slices_IndexFunc_int_0 : ACode :=
 (.seq (.ops [] [⟨some 9, .bin .lss (.t 8) (.t 7), none⟩] [])
 (.seq (.cond (.t 9) .skip (.exit 0 []))
 (.seq (.block 1 (.seq (.ops [] [⟨some 10, .mv (.t 8), none⟩, ⟨some 5, .mv (.t 10), none⟩] [9, 10])
 (.seq (.ops [] [⟨some 11, .mv (.t 1), none⟩, ⟨some 12, .mv (.t 0), none⟩, ⟨some 13, .mv (.t 5), none⟩, ⟨some 14, .iad 1 (.t 12) (.t 13), none⟩, ⟨some 15, .ld false 1 (.t 14), none⟩, ⟨some 16, .callv (.t 11) [] [.t 15], none⟩] [11, 12, 13, 14, 15])
 (.cond (.t 16) (.seq (.ops [] [⟨some 17, .mv (.t 5), none⟩, ⟨some 4, .mv (.t 17), none⟩] [0, 1, 5, 7, 8, 16, 17])
 (.ret [4])) .skip))))
 (.ops [] [⟨some 18, .bin .add (.t 8) (.c (.d (.int .i64 1))), none⟩, ⟨some 8, .mv (.t 18), none⟩] [5, 16, 18]))))
def c_slices_IndexFunc_int : ACode :=
 (.seq (.ops [] [⟨some 4, .mv (.c (.d (.int .i64 0))), none⟩] [4])
 (.seq (.seq (.ops [] [⟨some 6, .mv (.t 0), none⟩, ⟨some 7, .len (.t 6), none⟩, ⟨some 8, .mv (.c (.d (.int .i64 0))), none⟩] [6])
 (.block 0 (.loop [] l_slices_IndexFunc_int_0)))
 (.seq (.ops [] [⟨some 4, .mv (.c (.d (.int .i64 (-1)))), none⟩] [0, 1, 7, 8, 9])
 (.ret [4]))))
def r_slices_IndexFunc_int : List ARes := [.t 4]
def fn_slices_IndexFunc_int : AFn := .code c_slices_IndexFunc_int r_slices_IndexFunc_int 19 true
def l_ref06_Lapsed_0 : ACode :=
 (.seq (.seq (.ops [] [⟨some 19, .mv (.t 9), none⟩, ⟨some 20, .mv (.t 8), none⟩, ⟨some 21, .len (.t 20), none⟩, ⟨some 22, .bin .lss (.t 19) (.t 21), none⟩] [19, 20, 21])
 (.cond (.t 22) .skip (.exit 0 [7])))
 (.seq (.block 1 (.seq (.draw [] [⟨some 26, .ld true 2 (.t 3), none⟩, ⟨some 27, .mv (.t 8), none⟩, ⟨some 28, .mv (.t 9), none⟩, ⟨some 29, .iad 1 (.t 27) (.t 28), none⟩, ⟨some 30, .ld false 1 (.t 29), none⟩, ⟨some 31, .call N_ref06_Find [] [.t 26, .t 30], none⟩, ⟨some 25, .mv (.t 31), none⟩, ⟨some 32, .ext (.t 25) 0, none⟩, ⟨some 33, .ext (.t 25) 1, none⟩, ⟨some 10, .alloc (.d (.agg [.int .i64 0, .int .i64 0, .int .i64 0, .int .i64 0, .int .i64 0, .int .i64 0, .str [], .int .i64 0])), none⟩, ⟨none, .st 8 (.t 10) (.t 32), none⟩, ⟨some 11, .mv (.t 33), none⟩] [[], [0], [0, 1], [0], [0], [], [], [], [7], [0, 1, 2, 3, 4, 5, 6, 7, 8], [8], []] [11, 22, 25, 26, 27, 28, 29, 30, 31, 32, 33])
 (.seq (.ops [] [⟨some 34, .fad true 0 7 (.t 10), none⟩, ⟨some 35, .ld true 7 (.t 34), none⟩, ⟨some 36, .mv (.t 2), none⟩, ⟨some 37, .call N_ref03_Purged [] [.t 35, .t 36], none⟩, ⟨some 38, .un .not (.t 37), none⟩] [10, 34, 35, 36, 37])
 (.cond (.t 38) (.ops [] [⟨some 39, .mv (.t 7), none⟩, ⟨some 40, .mv (.t 8), none⟩, ⟨some 41, .mv (.t 9), none⟩, ⟨some 42, .iad 1 (.t 40) (.t 41), none⟩, ⟨some 43, .ld false 1 (.t 42), none⟩, ⟨some 44, .bsl 1 1 (.d (.int .i64 0)) [(0, .t 43)], none⟩, ⟨some 45, .app 1 (.t 39) (.t 44), none⟩, ⟨some 7, .mv (.t 45), none⟩] [38, 39, 40, 41, 42, 43, 44, 45]) .skip))))
 (.ops [] [⟨some 23, .mv (.t 9), none⟩, ⟨some 24, .bin .add (.t 23) (.c (.d (.int .i64 1))), none⟩, ⟨some 9, .mv (.t 24), none⟩] [23, 24, 38])))
def c_ref06_Lapsed : ACode :=
 (.seq (.ops [] [⟨some 3, .box (.t 0), none⟩, ⟨some 6, .mv (.c (.xsl [])), none⟩] [0, 6])
 (.seq (.seq (.ops [] [⟨some 12, .ld true 2 (.t 3), none⟩, ⟨some 13, .call N_ref06_Validate [] [.t 12], none⟩, ⟨some 14, .bin .neq (.t 13) (.c (.d (.int .i64 0))), none⟩] [12, 13])
 (.cond (.t 14) (.seq (.ops [] [⟨some 6, .mv (.c (.xsl [])), none⟩] [1, 2, 3, 14])
 (.ret [6])) .skip))
 (.seq (.ops [] [⟨some 7, .nacc, none⟩] [14])
 (.seq (.ops [] [⟨some 15, .fad false 1 1 (.t 3), none⟩, ⟨some 16, .ld false 1 (.t 15), none⟩, ⟨some 17, .mv (.t 1), none⟩, ⟨some 18, .call N_ref05_Until [] [.t 16, .t 17], none⟩, ⟨some 8, .mv (.t 18), none⟩] [1, 15, 16, 17, 18])
 (.seq (.seq (.ops [] [⟨some 9, .mv (.c (.d (.int .i64 0))), none⟩] [])
 (.block 0 (.loop [] l_ref06_Lapsed_0)))
 (.seq (.ops [] [⟨some 46, .mv (.t 7), none⟩, ⟨some 6, .mv (.t 46), none⟩] [2, 3, 7, 8, 9, 22, 46])
 (.ret [6])))))))
def r_ref06_Lapsed : List ARes := [.t 6]
def fn_ref06_Lapsed : AFn := .code c_ref06_Lapsed r_ref06_Lapsed 47 true
def l_ref05_Until_0 : ACode :=
 (.seq (.seq (.ops [] [⟨some 6, .mv (.t 0), none⟩, ⟨some 7, .call N_ref05_Validate [] [.t 6], none⟩, ⟨some 8, .bin .eql (.t 7) (.c (.d (.int .i64 0))), none⟩, ⟨some 9, .mv (.t 8), none⟩, ⟨some 10, .mv (.t 0), some (9, true)⟩, ⟨some 11, .len (.t 10), some (9, true)⟩, ⟨some 12, .bin .gtr (.t 11) (.c (.d (.int .i64 0))), some (9, true)⟩, ⟨some 13, .pick (.t 9) (.t 12) (.c (.d (.bool false))), none⟩, ⟨some 14, .mv (.t 13), none⟩, ⟨some 15, .mv (.t 0), some (14, true)⟩, ⟨some 16, .iad 2 (.t 15) (.c (.d (.int .i64 0))), some (14, true)⟩, ⟨some 17, .fad false 0 1 (.t 16), some (14, true)⟩, ⟨some 18, .ld false 1 (.t 17), some (14, true)⟩, ⟨some 19, .mv (.t 1), some (14, true)⟩, ⟨some 20, .bin .leq (.t 18) (.t 19), some (14, true)⟩, ⟨some 21, .pick (.t 14) (.t 20) (.c (.d (.bool false))), none⟩] [6, 7, 8, 9, 10, 11, 12, 13, 14, 15, 16, 17, 18, 19, 20])
 (.cond (.t 21) .skip (.exit 0 [5])))
 (.block 1 (.seq (.ops [] [⟨some 22, .mv (.t 5), none⟩, ⟨some 23, .mv (.t 0), none⟩, ⟨some 24, .iad 2 (.t 23) (.c (.d (.int .i64 0))), none⟩, ⟨some 25, .fad false 1 1 (.t 24), none⟩, ⟨some 26, .ld false 1 (.t 25), none⟩, ⟨some 27, .bsl 1 1 (.d (.int .i64 0)) [(0, .t 26)], none⟩, ⟨some 28, .app 1 (.t 22) (.t 27), none⟩, ⟨some 5, .mv (.t 28), none⟩] [21, 22, 23, 24, 25, 26, 27, 28])
 (.ops [] [⟨some 29, .mv (.t 0), none⟩, ⟨some 30, .call N_ref05_cut [] [.t 29, .c (.d (.int .i64 0))], none⟩, ⟨some 0, .mv (.t 30), none⟩] [29, 30]))))
def c_ref05_Until : ACode :=
 (.seq (.ops [] [⟨some 4, .mv (.c (.xsl [])), none⟩] [4])
 (.seq (.ops [] [⟨some 5, .nacc, none⟩] [])
 (.seq (.block 0 (.loop [] l_ref05_Until_0))
 (.seq (.ops [] [⟨some 31, .mv (.t 5), none⟩, ⟨some 4, .mv (.t 31), none⟩] [0, 1, 5, 21, 31])
 (.ret [4])))))
def r_ref05_Until : List ARes := [.t 4]
def fn_ref05_Until : AFn := .code c_ref05_Until r_ref05_Until 32 true
def c_ref05_cut : ACode :=
 (.seq (.ops [] [⟨some 4, .mv (.c (.xsl [])), none⟩] [4])
 (.seq (.ops [] [⟨some 7, .mv (.t 0), none⟩, ⟨some 8, .len (.t 7), none⟩, ⟨some 9, .bin .sub (.t 8) (.c (.d (.int .i64 1))), none⟩, ⟨some 5, .mv (.t 9), none⟩] [7, 8, 9])
 (.seq (.ops [] [⟨some 10, .mv (.t 0), none⟩, ⟨some 11, .mv (.t 5), none⟩, ⟨some 12, .slc 2 (.t 10) none (some (.t 11)) none, none⟩, ⟨some 13, .app 2 (.c (.xsl [])) (.t 12), none⟩, ⟨some 6, .mv (.t 13), none⟩] [10, 11, 12, 13])
 (.seq (.seq (.ops [] [⟨some 14, .mv (.t 1), none⟩, ⟨some 15, .mv (.t 5), none⟩, ⟨some 16, .bin .eql (.t 14) (.t 15), none⟩] [14, 15])
 (.cond (.t 16) (.seq (.ops [] [⟨some 17, .mv (.t 6), none⟩, ⟨some 4, .mv (.t 17), none⟩] [0, 1, 5, 6, 16, 17])
 (.ret [4])) .skip))
 (.seq (.ops [26] [⟨some 18, .mv (.t 6), none⟩, ⟨some 19, .mv (.t 1), none⟩, ⟨some 20, .mv (.t 0), none⟩, ⟨some 21, .mv (.t 5), none⟩, ⟨some 22, .iad 2 (.t 20) (.t 21), none⟩, ⟨some 23, .ld true 2 (.t 22), none⟩, ⟨some 24, .iad 2 (.t 18) (.t 19), none⟩, ⟨none, .st 2 (.t 24) (.t 23), none⟩] [0, 5, 16, 18, 19, 20, 21, 22, 23, 24])
 (.seq (.seq (.draw [] [⟨some 25, .mv (.t 1), none⟩, ⟨some 26, .bin .gtr (.t 25) (.c (.d (.int .i64 0))), none⟩, ⟨some 27, .mv (.t 26), none⟩, ⟨some 28, .mv (.t 6), some (27, true)⟩, ⟨some 29, .mv (.t 1), some (27, true)⟩, ⟨some 30, .iad 2 (.t 28) (.t 29), some (27, true)⟩, ⟨some 31, .ld true 2 (.t 30), some (27, true)⟩, ⟨some 32, .mv (.t 6), some (27, true)⟩, ⟨some 33, .mv (.t 1), some (27, true)⟩, ⟨some 34, .bin .sub (.t 33) (.c (.d (.int .i64 1))), some (27, true)⟩, ⟨some 35, .bin .quo (.t 34) (.c (.d (.int .i64 2))), some (27, true)⟩, ⟨some 36, .iad 2 (.t 32) (.t 35), some (27, true)⟩, ⟨some 37, .ld true 2 (.t 36), some (27, true)⟩, ⟨some 38, .call N_ref05_before [] [.t 31, .t 37], some (27, true)⟩, ⟨some 39, .pick (.t 27) (.t 38) (.c (.d (.bool false))), none⟩] [[], [], [], [], [3], [], [], [3, 4, 5, 6], [3, 4, 5, 6, 7], [3, 4, 5, 6, 7], [3, 4, 5, 6, 7], [3, 4, 5, 6], [3, 4, 5, 6], [], []] [25, 26, 27, 28, 29, 30, 31, 32, 33, 34, 35, 36, 37, 38])
 (.cond (.t 39) (.seq (.ops [] [⟨some 40, .mv (.t 6), none⟩, ⟨some 41, .mv (.t 1), none⟩, ⟨some 42, .call N_ref05_up [false, false, true] [.t 40, .t 41], none⟩, ⟨some 4, .mv (.t 42), none⟩] [1, 6, 39, 40, 41, 42])
 (.ret [4])) .skip))
 (.seq (.ops [] [⟨some 43, .mv (.t 6), none⟩, ⟨some 44, .mv (.t 1), none⟩, ⟨some 45, .call N_ref05_down [false, false, true] [.t 43, .t 44], none⟩, ⟨some 4, .mv (.t 45), none⟩] [1, 6, 39, 43, 44, 45])
 (.ret [4]))))))))
def r_ref05_cut : List ARes := [.t 4]
def fn_ref05_cut : AFn := .code c_ref05_cut r_ref05_cut 46 true
def l_ref05_down_0 : ACode :=
 (.seq (.seq (.ops [] [⟨some 6, .mv (.t 1), none⟩, ⟨some 7, .bin .mul (.c (.d (.int .i64 2))) (.t 6), none⟩, ⟨some 8, .bin .add (.t 7) (.c (.d (.int .i64 1))), none⟩, ⟨some 9, .mv (.t 0), none⟩, ⟨some 10, .len (.t 9), none⟩, ⟨some 11, .bin .lss (.t 8) (.t 10), none⟩] [6, 7, 8, 9, 10])
 (.cond (.t 11) .skip (.exit 0 [0])))
 (.block 1 (.seq (.ops [] [⟨some 12, .mv (.t 1), none⟩, ⟨some 13, .bin .mul (.c (.d (.int .i64 2))) (.t 12), none⟩, ⟨some 14, .bin .add (.t 13) (.c (.d (.int .i64 1))), none⟩, ⟨some 5, .mv (.t 14), none⟩] [11, 12, 13, 14])
 (.seq (.seq (.draw [] [⟨some 15, .mv (.t 5), none⟩, ⟨some 16, .bin .add (.t 15) (.c (.d (.int .i64 1))), none⟩, ⟨some 17, .mv (.t 0), none⟩, ⟨some 18, .len (.t 17), none⟩, ⟨some 19, .bin .lss (.t 16) (.t 18), none⟩, ⟨some 20, .mv (.t 19), none⟩, ⟨some 21, .mv (.t 0), some (20, true)⟩, ⟨some 22, .mv (.t 5), some (20, true)⟩, ⟨some 23, .bin .add (.t 22) (.c (.d (.int .i64 1))), some (20, true)⟩, ⟨some 24, .iad 2 (.t 21) (.t 23), some (20, true)⟩, ⟨some 25, .ld true 2 (.t 24), some (20, true)⟩, ⟨some 26, .mv (.t 0), some (20, true)⟩, ⟨some 27, .mv (.t 5), some (20, true)⟩, ⟨some 28, .iad 2 (.t 26) (.t 27), some (20, true)⟩, ⟨some 29, .ld true 2 (.t 28), some (20, true)⟩, ⟨some 30, .call N_ref05_before [] [.t 25, .t 29], some (20, true)⟩, ⟨some 31, .pick (.t 20) (.t 30) (.c (.d (.bool false))), none⟩] [[], [], [0, 1], [0, 1], [], [], [], [6], [6], [], [], [6, 7, 8, 9, 10], [6, 7, 8, 9, 10, 11], [6, 7, 8, 9, 10], [6, 7, 8, 9, 10], [], []] [15, 16, 17, 18, 19, 20, 21, 22, 23, 24, 25, 26, 27, 28, 29, 30])
 (.cond (.t 31) (.ops [] [⟨some 32, .mv (.t 5), none⟩, ⟨some 33, .bin .add (.t 32) (.c (.d (.int .i64 1))), none⟩, ⟨some 5, .mv (.t 33), none⟩] [31, 32, 33]) .skip))
 (.seq (.seq (.draw [] [⟨some 34, .mv (.t 0), none⟩, ⟨some 35, .mv (.t 5), none⟩, ⟨some 36, .iad 2 (.t 34) (.t 35), none⟩, ⟨some 37, .ld true 2 (.t 36), none⟩, ⟨some 38, .mv (.t 0), none⟩, ⟨some 39, .mv (.t 1), none⟩, ⟨some 40, .iad 2 (.t 38) (.t 39), none⟩, ⟨some 41, .ld true 2 (.t 40), none⟩, ⟨some 42, .call N_ref05_before [] [.t 37, .t 41], none⟩, ⟨some 43, .un .not (.t 42), none⟩] [[], [0], [], [], [0, 1, 2, 3], [0, 1, 2, 3, 4], [0, 1, 2, 3], [0, 1, 2, 3], [], []] [31, 34, 35, 36, 37, 38, 39, 40, 41, 42])
 (.cond (.t 43) (.seq (.ops [] [⟨some 44, .mv (.t 0), none⟩, ⟨some 4, .mv (.t 44), none⟩] [0, 1, 5, 43, 44])
 (.ret [4])) .skip))
 (.seq (.ops [] [⟨some 45, .mv (.t 0), none⟩, ⟨some 46, .mv (.t 1), none⟩, ⟨some 47, .mv (.t 5), none⟩, ⟨some 48, .call N_ref05_swap [] [.t 45, .t 46, .t 47], none⟩, ⟨some 0, .mv (.t 48), none⟩] [1, 43, 45, 46, 47, 48])
 (.ops [] [⟨some 49, .mv (.t 5), none⟩, ⟨some 1, .mv (.t 49), none⟩] [5, 49])))))))
def c_ref05_down : ACode :=
 (.seq (.ops [] [⟨some 4, .mv (.c (.xsl [])), none⟩] [4])
 (.seq (.block 0 (.loop [] l_ref05_down_0))
 (.seq (.ops [] [⟨some 50, .mv (.t 0), none⟩, ⟨some 4, .mv (.t 50), none⟩] [0, 1, 11, 50])
 (.ret [4]))))
def r_ref05_down : List ARes := [.t 4]
def fn_ref05_down : AFn := .code c_ref05_down r_ref05_down 51 true
def c_ref06_Find : ACode :=
 (.seq (.ops [] [⟨some 2, .box (.t 0), none⟩, ⟨some 4, .alloc (.d (.agg [.int .i64 0, .int .i64 0, .int .i64 0, .int .i64 0, .int .i64 0, .int .i64 0, .str [], .int .i64 0])), none⟩, ⟨some 5, .mv (.c (.d (.bool false))), none⟩] [0, 5])
 (.seq (.ops [] [⟨some 7, .ld true 2 (.t 2), none⟩, ⟨some 8, .mv (.t 1), none⟩, ⟨some 9, .call N_ref06_find [] [.t 7, .t 8], none⟩, ⟨some 6, .mv (.t 9), none⟩] [1, 7, 8, 9])
 (.seq (.seq (.ops [] [⟨some 10, .ld true 2 (.t 2), none⟩, ⟨some 11, .call N_ref06_Validate [] [.t 10], none⟩, ⟨some 12, .bin .neq (.t 11) (.c (.d (.int .i64 0))), none⟩, ⟨some 13, .mv (.t 12), none⟩, ⟨some 14, .mv (.t 6), some (13, false)⟩, ⟨some 15, .bin .lss (.t 14) (.c (.d (.int .i64 0))), some (13, false)⟩, ⟨some 16, .pick (.t 13) (.c (.d (.bool true))) (.t 15), none⟩] [10, 11, 12, 13, 14, 15])
 (.cond (.t 16) (.seq (.ops [] [⟨some 17, .build [.d (.int .i64 0), .d (.int .i64 0), .d (.int .i64 0), .d (.int .i64 0), .d (.int .i64 0), .d (.int .i64 0), .d (.str []), .d (.int .i64 0)] [], none⟩, ⟨none, .st 8 (.t 4) (.t 17), none⟩, ⟨some 5, .mv (.c (.d (.bool false))), none⟩] [2, 6, 16, 17])
 (.ret [4, 5])) .skip))
 (.seq (.ops [] [⟨some 18, .fad false 0 1 (.t 2), none⟩, ⟨some 19, .ld false 1 (.t 18), none⟩, ⟨some 20, .mv (.t 6), none⟩, ⟨some 21, .iad 8 (.t 19) (.t 20), none⟩, ⟨some 22, .ld true 8 (.t 21), none⟩, ⟨none, .st 8 (.t 4) (.t 22), none⟩, ⟨some 5, .mv (.c (.d (.bool true))), none⟩] [2, 6, 16, 18, 19, 20, 21, 22])
 (.ret [4, 5])))))
def r_ref06_Find : List ARes := [.c 4 true 8, .t 5]
def fn_ref06_Find : AFn := .code c_ref06_Find r_ref06_Find 23 true
def c_ref03_Purged : ACode :=
 (.seq (.ops [] [⟨some 2, .box (.t 0), none⟩, ⟨some 4, .mv (.c (.d (.bool false))), none⟩] [0, 4])
 (.seq (.ops [] [⟨some 5, .fad false 2 1 (.t 2), none⟩, ⟨some 6, .ld false 1 (.t 5), none⟩, ⟨some 7, .mv (.t 1), none⟩, ⟨some 8, .bin .lss (.t 6) (.t 7), none⟩, ⟨some 4, .mv (.t 8), none⟩] [1, 2, 5, 6, 7, 8])
 (.ret [4])))
def r_ref03_Purged : List ARes := [.t 4]
def fn_ref03_Purged : AFn := .code c_ref03_Purged r_ref03_Purged 9 true
def l_ref05_SameInts_0 : ACode :=
 (.seq (.seq (.ops [] [⟨some 11, .mv (.t 5), none⟩, ⟨some 12, .mv (.t 0), none⟩, ⟨some 13, .len (.t 12), none⟩, ⟨some 14, .bin .lss (.t 11) (.t 13), none⟩] [11, 12, 13])
 (.cond (.t 14) .skip (.exit 0 [])))
 (.seq (.block 1 (.seq (.draw [] [⟨some 17, .mv (.t 0), none⟩, ⟨some 18, .mv (.t 5), none⟩, ⟨some 19, .iad 1 (.t 17) (.t 18), none⟩, ⟨some 20, .ld false 1 (.t 19), none⟩, ⟨some 21, .mv (.t 1), none⟩, ⟨some 22, .mv (.t 5), none⟩, ⟨some 23, .iad 1 (.t 21) (.t 22), none⟩, ⟨some 24, .ld false 1 (.t 23), none⟩, ⟨some 25, .bin .neq (.t 20) (.t 24), none⟩] [[], [0], [], [], [0, 1, 2, 3], [0, 1, 2, 3, 4], [0, 1, 2, 3], [0, 1, 2, 3], []] [14, 17, 18, 19, 20, 21, 22, 23, 24])
 (.cond (.t 25) (.seq (.ops [] [⟨some 4, .mv (.c (.d (.bool false))), none⟩] [0, 1, 5, 25])
 (.ret [4])) .skip)))
 (.ops [] [⟨some 15, .mv (.t 5), none⟩, ⟨some 16, .bin .add (.t 15) (.c (.d (.int .i64 1))), none⟩, ⟨some 5, .mv (.t 16), none⟩] [15, 16, 25])))
def c_ref05_SameInts : ACode :=
 (.seq (.ops [] [⟨some 4, .mv (.c (.d (.bool false))), none⟩] [4])
 (.seq (.seq (.ops [] [⟨some 6, .mv (.t 0), none⟩, ⟨some 7, .len (.t 6), none⟩, ⟨some 8, .mv (.t 1), none⟩, ⟨some 9, .len (.t 8), none⟩, ⟨some 10, .bin .neq (.t 7) (.t 9), none⟩] [6, 7, 8, 9])
 (.cond (.t 10) (.seq (.ops [] [⟨some 4, .mv (.c (.d (.bool false))), none⟩] [0, 1, 10])
 (.ret [4])) .skip))
 (.seq (.seq (.ops [] [⟨some 5, .mv (.c (.d (.int .i64 0))), none⟩] [10])
 (.block 0 (.loop [] l_ref05_SameInts_0)))
 (.seq (.ops [] [⟨some 4, .mv (.c (.d (.bool true))), none⟩] [0, 1, 5, 14])
 (.ret [4])))))
def r_ref05_SameInts : List ARes := [.t 4]
def fn_ref05_SameInts : AFn := .code c_ref05_SameInts r_ref05_SameInts 26 true
def c_lease_Find : ACode :=
 (.seq (.ops [] [⟨some 2, .box (.t 0), none⟩, ⟨some 4, .alloc (.d (.agg [.int .i64 0, .int .i64 0, .int .i64 0, .int .i64 0, .int .i64 0, .int .i64 0, .str [], .int .i64 0])), none⟩, ⟨some 5, .mv (.c (.d (.bool false))), none⟩] [0, 5])
 (.seq (.seq (.ops [] [⟨some 8, .ld true 2 (.t 2), none⟩, ⟨some 9, .call N_lease_Validate [] [.t 8], none⟩, ⟨some 10, .bin .neq (.t 9) (.c (.d (.int .i64 0))), none⟩] [8, 9])
 (.cond (.t 10) (.seq (.ops [] [⟨some 11, .build [.d (.int .i64 0), .d (.int .i64 0), .d (.int .i64 0), .d (.int .i64 0), .d (.int .i64 0), .d (.int .i64 0), .d (.str []), .d (.int .i64 0)] [], none⟩, ⟨none, .st 8 (.t 4) (.t 11), none⟩, ⟨some 5, .mv (.c (.d (.bool false))), none⟩] [1, 2, 10, 11])
 (.ret [4, 5])) .skip))
 (.seq (.ops [] [⟨some 13, .ld true 2 (.t 2), none⟩, ⟨some 14, .mv (.t 1), none⟩, ⟨some 15, .call N_lease_find [] [.t 13, .t 14], none⟩, ⟨some 12, .mv (.t 15), none⟩, ⟨some 16, .ext (.t 12) 0, none⟩, ⟨some 17, .ext (.t 12) 1, none⟩, ⟨some 6, .mv (.t 16), none⟩, ⟨some 7, .mv (.t 17), none⟩] [1, 10, 12, 13, 14, 15, 16, 17])
 (.seq (.seq (.ops [] [⟨some 18, .mv (.t 7), none⟩, ⟨some 19, .un .not (.t 18), none⟩] [7, 18])
 (.cond (.t 19) (.seq (.ops [] [⟨some 20, .build [.d (.int .i64 0), .d (.int .i64 0), .d (.int .i64 0), .d (.int .i64 0), .d (.int .i64 0), .d (.int .i64 0), .d (.str []), .d (.int .i64 0)] [], none⟩, ⟨none, .st 8 (.t 4) (.t 20), none⟩, ⟨some 5, .mv (.c (.d (.bool false))), none⟩] [2, 6, 19, 20])
 (.ret [4, 5])) .skip))
 (.seq (.ops [] [⟨some 21, .fad false 0 1 (.t 2), none⟩, ⟨some 22, .ld false 1 (.t 21), none⟩, ⟨some 23, .mv (.t 6), none⟩, ⟨some 24, .iad 8 (.t 22) (.t 23), none⟩, ⟨some 25, .ld true 8 (.t 24), none⟩, ⟨none, .st 8 (.t 4) (.t 25), none⟩, ⟨some 5, .mv (.c (.d (.bool true))), none⟩] [2, 6, 19, 21, 22, 23, 24, 25])
 (.ret [4, 5]))))))
def r_lease_Find : List ARes := [.c 4 true 8, .t 5]
def fn_lease_Find : AFn := .code c_lease_Find r_lease_Find 26 true
def c_lease_Grant : ACode :=
 (.seq (.ops [] [⟨some 3, .box (.t 0), none⟩, ⟨some 4, .box (.t 1), none⟩, ⟨some 6, .alloc (.agg [.xsl [], .xsl []]), none⟩, ⟨some 7, .mv (.c (.d (.int .i64 0))), none⟩] [0, 1, 7])
 (.seq (.seq (.ops [] [⟨some 14, .ld true 2 (.t 3), none⟩, ⟨some 15, .call N_lease_Validate [] [.t 14], none⟩, ⟨some 8, .mv (.t 15), none⟩] [14, 15])
 (.seq (.ops [] [⟨some 16, .mv (.t 8), none⟩, ⟨some 17, .bin .neq (.t 16) (.c (.d (.int .i64 0))), none⟩] [16])
 (.cond (.t 17) (.seq (.ops [] [⟨some 18, .build [.xsl [], .xsl []] [], none⟩, ⟨some 19, .mv (.t 8), none⟩, ⟨none, .st 2 (.t 6) (.t 18), none⟩, ⟨some 7, .mv (.t 19), none⟩] [2, 3, 4, 8, 17, 18, 19])
 (.ret [6, 7])) .skip)))
 (.seq (.seq (.ops [] [⟨some 20, .ld true 7 (.t 4), none⟩, ⟨some 21, .call N_message_Validate [] [.t 20], none⟩, ⟨some 9, .mv (.t 21), none⟩] [8, 17, 20, 21])
 (.seq (.ops [] [⟨some 22, .mv (.t 9), none⟩, ⟨some 23, .bin .neq (.t 22) (.c (.d (.int .i64 0))), none⟩] [22])
 (.cond (.t 23) (.seq (.ops [] [⟨some 24, .build [.xsl [], .xsl []] [], none⟩, ⟨some 25, .mv (.t 9), none⟩, ⟨none, .st 2 (.t 6) (.t 24), none⟩, ⟨some 7, .mv (.t 25), none⟩] [2, 3, 4, 9, 23, 24, 25])
 (.ret [6, 7])) .skip)))
 (.seq (.ops [] [⟨some 27, .ld true 2 (.t 3), none⟩, ⟨some 28, .fad false 0 1 (.t 4), none⟩, ⟨some 29, .ld false 1 (.t 28), none⟩, ⟨some 30, .call N_lease_find [] [.t 27, .t 29], none⟩, ⟨some 26, .mv (.t 30), none⟩, ⟨some 31, .ext (.t 26) 0, none⟩, ⟨some 32, .ext (.t 26) 1, none⟩, ⟨some 10, .mv (.t 31), none⟩, ⟨some 11, .mv (.t 32), none⟩] [9, 23, 26, 27, 28, 29, 30, 31, 32])
 (.seq (.block 0 (.seq (.ops [] [⟨some 34, .fad false 4 1 (.t 4), none⟩, ⟨some 35, .ld false 1 (.t 34), none⟩, ⟨some 36, .bin .eql (.t 35) (.c (.d (.int .i64 0))), none⟩, ⟨some 33, .mv (.t 36), none⟩] [34, 35, 36])
 (.cond (.t 33) (.seq (.ops [] [⟨some 37, .build [.xsl [], .xsl []] [], none⟩, ⟨none, .st 2 (.t 6) (.t 37), none⟩, ⟨some 7, .mv (.c (.d (.int .i64 7))), none⟩] [2, 3, 4, 10, 11, 33, 37])
 (.ret [6, 7])) (.seq (.ops [] [⟨some 39, .mv (.t 2), none⟩, ⟨some 40, .call N_lease_time [] [.t 39], none⟩, ⟨some 41, .un .not (.t 40), none⟩, ⟨some 38, .mv (.t 41), none⟩] [33, 39, 40, 41])
 (.cond (.t 38) (.seq (.ops [] [⟨some 42, .build [.xsl [], .xsl []] [], none⟩, ⟨none, .st 2 (.t 6) (.t 42), none⟩, ⟨some 7, .mv (.c (.d (.int .i64 1))), none⟩] [2, 3, 4, 10, 11, 38, 42])
 (.ret [6, 7])) (.seq (.ops [] [⟨some 44, .fad false 0 1 (.t 3), none⟩, ⟨some 45, .ld false 1 (.t 44), none⟩, ⟨some 46, .len (.t 45), none⟩, ⟨some 47, .bin .eql (.t 46) (.c (.d (.int .i64 12))), none⟩, ⟨some 43, .mv (.t 47), none⟩] [38, 44, 45, 46, 47])
 (.cond (.t 43) (.seq (.ops [] [⟨some 48, .build [.xsl [], .xsl []] [], none⟩, ⟨none, .st 2 (.t 6) (.t 48), none⟩, ⟨some 7, .mv (.c (.d (.int .i64 3))), none⟩] [2, 3, 4, 10, 11, 43, 48])
 (.ret [6, 7])) (.seq (.ops [] [⟨some 50, .mv (.t 11), none⟩, ⟨some 49, .mv (.t 50), none⟩] [11, 43, 50])
 (.cond (.t 49) (.seq (.ops [] [⟨some 51, .build [.xsl [], .xsl []] [], none⟩, ⟨none, .st 2 (.t 6) (.t 51), none⟩, ⟨some 7, .mv (.c (.d (.int .i64 10))), none⟩] [2, 3, 4, 10, 49, 51])
 (.ret [6, 7])) .skip)))))))))
 (.seq (.ops [] [⟨some 53, .fad false 1 1 (.t 3), none⟩, ⟨some 54, .ld false 1 (.t 53), none⟩, ⟨some 55, .mv (.t 2), none⟩, ⟨some 56, .fad false 0 1 (.t 4), none⟩, ⟨some 57, .ld false 1 (.t 56), none⟩, ⟨some 58, .build [.d (.int .i64 0), .d (.int .i64 0)] [(0, (1, .t 55)), (1, (1, .t 57))], none⟩, ⟨some 59, .call N_due_Push [] [.t 54, .t 58], none⟩, ⟨some 52, .mv (.t 59), none⟩, ⟨some 60, .ext (.t 52) 0, none⟩, ⟨some 61, .ext (.t 52) 1, none⟩, ⟨some 12, .mv (.t 60), none⟩, ⟨some 13, .mv (.t 61), none⟩] [49, 52, 53, 54, 55, 56, 57, 58, 59, 60, 61])
 (.seq (.seq (.ops [] [⟨some 62, .mv (.t 13), none⟩, ⟨some 63, .bin .neq (.t 62) (.c (.d (.int .i64 0))), none⟩] [62])
 (.cond (.t 63) (.seq (.ops [] [⟨some 64, .build [.xsl [], .xsl []] [], none⟩, ⟨some 65, .mv (.t 13), none⟩, ⟨none, .st 2 (.t 6) (.t 64), none⟩, ⟨some 7, .mv (.t 65), none⟩] [2, 3, 4, 10, 12, 13, 63, 64, 65])
 (.ret [6, 7])) .skip))
 (.seq (.draw [] [⟨some 66, .fad false 0 1 (.t 3), none⟩, ⟨some 67, .ld false 1 (.t 66), none⟩, ⟨some 68, .call N_slices_Clone_api_Lease [] [.t 67], none⟩, ⟨some 69, .mv (.t 10), none⟩, ⟨some 70, .ld true 7 (.t 4), none⟩, ⟨some 71, .mv (.t 2), none⟩, ⟨some 72, .build [.d (.int .i64 0), .d (.int .i64 0), .d (.int .i64 0), .d (.int .i64 0), .d (.int .i64 0), .d (.int .i64 0), .d (.str []), .d (.int .i64 0)] [(0, (7, .t 70)), (7, (1, .t 71))], none⟩, ⟨some 73, .bsl 1 8 (.d (.agg [.int .i64 0, .int .i64 0, .int .i64 0, .int .i64 0, .int .i64 0, .int .i64 0, .str [], .int .i64 0])) [(0, .t 72)], none⟩, ⟨some 74, .call N_slices_Insert_api_Lease [true, false, false] [.t 68, .t 69, .t 73], none⟩, ⟨some 75, .mv (.t 12), none⟩, ⟨some 76, .build [.xsl [], .xsl []] [(0, (1, .t 74)), (1, (1, .t 75))], none⟩, ⟨none, .st 2 (.t 6) (.t 76), none⟩, ⟨some 7, .mv (.c (.d (.int .i64 0))), none⟩] [[], [], [], [0, 1, 2], [0, 1, 2, 3], [0, 1, 2, 3, 4], [0, 1, 2, 3], [0, 1, 2, 3], [], [0, 1, 2, 3, 4, 5, 6, 7, 8], [], [], []] [2, 3, 4, 10, 12, 13, 63, 66, 67, 68, 69, 70, 71, 72, 73, 74, 75, 76])
 (.ret [6, 7])))))))))
def r_lease_Grant : List ARes := [.c 6 true 2, .t 7]
def fn_lease_Grant : AFn := .code c_lease_Grant r_lease_Grant 77 true
def c_due_Push : ACode :=
 (.seq (.ops [] [⟨some 3, .box (.t 1), none⟩, ⟨some 4, .mv (.c (.xsl [])), none⟩, ⟨some 5, .mv (.c (.d (.int .i64 0))), none⟩] [1, 4, 5])
 (.seq (.seq (.ops [] [⟨some 7, .mv (.t 0), none⟩, ⟨some 8, .call N_due_Validate [] [.t 7], none⟩, ⟨some 6, .mv (.t 8), none⟩] [7, 8])
 (.seq (.ops [] [⟨some 9, .mv (.t 6), none⟩, ⟨some 10, .bin .neq (.t 9) (.c (.d (.int .i64 0))), none⟩] [9])
 (.cond (.t 10) (.seq (.ops [] [⟨some 11, .mv (.t 6), none⟩, ⟨some 4, .mv (.c (.xsl [])), none⟩, ⟨some 5, .mv (.t 11), none⟩] [0, 3, 6, 10, 11])
 (.ret [4, 5])) .skip)))
 (.seq (.block 0 (.seq (.ops [] [⟨some 13, .ld true 2 (.t 3), none⟩, ⟨some 14, .call N_due_valid [] [.t 13], none⟩, ⟨some 15, .un .not (.t 14), none⟩, ⟨some 12, .mv (.t 15), none⟩] [6, 10, 13, 14, 15])
 (.cond (.t 12) (.seq (.ops [] [⟨some 4, .mv (.c (.xsl [])), none⟩, ⟨some 5, .mv (.c (.d (.int .i64 1))), none⟩] [0, 3, 12])
 (.ret [4, 5])) (.seq (.ops [] [⟨some 17, .mv (.t 0), none⟩, ⟨some 18, .len (.t 17), none⟩, ⟨some 19, .bin .eql (.t 18) (.c (.d (.int .i64 12))), none⟩, ⟨some 16, .mv (.t 19), none⟩] [12, 17, 18, 19])
 (.cond (.t 16) (.seq (.ops [] [⟨some 4, .mv (.c (.xsl [])), none⟩, ⟨some 5, .mv (.c (.d (.int .i64 3))), none⟩] [0, 3, 16])
 (.ret [4, 5])) (.seq (.ops [] [⟨some 21, .mv (.t 0), none⟩, ⟨some 22, .fad false 1 1 (.t 3), none⟩, ⟨some 23, .ld false 1 (.t 22), none⟩, ⟨some 24, .call N_due_find [] [.t 21, .t 23], none⟩, ⟨some 25, .bin .geq (.t 24) (.c (.d (.int .i64 0))), none⟩, ⟨some 20, .mv (.t 25), none⟩] [16, 21, 22, 23, 24, 25])
 (.cond (.t 20) (.seq (.ops [] [⟨some 4, .mv (.c (.xsl [])), none⟩, ⟨some 5, .mv (.c (.d (.int .i64 10))), none⟩] [0, 3, 20])
 (.ret [4, 5])) .skip)))))))
 (.seq (.draw [] [⟨some 26, .mv (.t 0), none⟩, ⟨some 27, .call N_slices_Clone_api_Due [] [.t 26], none⟩, ⟨some 28, .ld true 2 (.t 3), none⟩, ⟨some 29, .bsl 1 2 (.d (.agg [.int .i64 0, .int .i64 0])) [(0, .t 28)], none⟩, ⟨some 30, .app 2 (.t 27) (.t 29), none⟩, ⟨some 0, .mv (.t 30), none⟩] [[], [], [0, 1], [0, 1], [], []] [3, 20, 26, 27, 28, 29, 30])
 (.seq (.ops [54] [⟨some 31, .mv (.t 0), none⟩, ⟨some 32, .mv (.t 0), none⟩, ⟨some 33, .len (.t 32), none⟩, ⟨some 34, .bin .sub (.t 33) (.c (.d (.int .i64 1))), none⟩, ⟨some 35, .call N_due_up [true, false] [.t 31, .t 34], none⟩] [31, 32, 33, 34, 35])
 (.seq (.ops [] [⟨some 36, .mv (.t 0), none⟩, ⟨some 4, .mv (.t 36), none⟩, ⟨some 5, .mv (.c (.d (.int .i64 0))), none⟩] [0, 36])
 (.ret [4, 5])))))))
def r_due_Push : List ARes := [.t 4, .t 5]
def fn_due_Push : AFn := .code c_due_Push r_due_Push 37 true
def l_due_up_0 : ACode :=
 (.seq (.seq (.ops [] [⟨some 6, .mv (.t 1), none⟩, ⟨some 7, .bin .gtr (.t 6) (.c (.d (.int .i64 0))), none⟩, ⟨some 8, .mv (.t 7), none⟩, ⟨some 9, .mv (.t 0), some (8, true)⟩, ⟨some 10, .mv (.t 1), some (8, true)⟩, ⟨some 11, .mv (.t 1), some (8, true)⟩, ⟨some 12, .bin .sub (.t 11) (.c (.d (.int .i64 1))), some (8, true)⟩, ⟨some 13, .bin .quo (.t 12) (.c (.d (.int .i64 2))), some (8, true)⟩, ⟨some 14, .call N_due_before [] [.t 9, .t 10, .t 13], some (8, true)⟩, ⟨some 15, .pick (.t 8) (.t 14) (.c (.d (.bool false))), none⟩] [6, 7, 8, 9, 10, 11, 12, 13, 14])
 (.cond (.t 15) .skip (.exit 0 [1])))
 (.block 1 (.seq (.ops [] [⟨some 16, .mv (.t 1), none⟩, ⟨some 17, .bin .sub (.t 16) (.c (.d (.int .i64 1))), none⟩, ⟨some 18, .bin .quo (.t 17) (.c (.d (.int .i64 2))), none⟩, ⟨some 5, .mv (.t 18), none⟩] [15, 16, 17, 18])
 (.seq (.draw [] [⟨some 19, .mv (.t 0), none⟩, ⟨some 20, .mv (.t 1), none⟩, ⟨some 21, .mv (.t 0), none⟩, ⟨some 22, .mv (.t 5), none⟩, ⟨some 23, .mv (.t 0), none⟩, ⟨some 24, .mv (.t 5), none⟩, ⟨some 25, .iad 2 (.t 23) (.t 24), none⟩, ⟨some 26, .ld true 2 (.t 25), none⟩, ⟨some 27, .mv (.t 0), none⟩, ⟨some 28, .mv (.t 1), none⟩, ⟨some 29, .iad 2 (.t 27) (.t 28), none⟩, ⟨some 30, .ld true 2 (.t 29), none⟩, ⟨some 31, .iad 2 (.t 19) (.t 20), none⟩, ⟨none, .st 2 (.t 31) (.t 26), none⟩, ⟨some 32, .iad 2 (.t 21) (.t 22), none⟩, ⟨none, .st 2 (.t 32) (.t 30), none⟩] [[], [0], [0, 1], [0, 1, 2], [0, 1, 2, 3], [0, 1, 2, 3, 4], [0, 1, 2, 3], [0, 1, 2, 3], [0, 1, 2, 3, 4, 5, 6, 7], [0, 1, 2, 3, 4, 5, 6, 7, 8], [0, 1, 2, 3, 4, 5, 6, 7], [0, 1, 2, 3, 4, 5, 6, 7], [2, 3], [2, 3], [], []] [1, 19, 20, 21, 22, 23, 24, 25, 26, 27, 28, 29, 30, 31, 32])
 (.ops [] [⟨some 33, .mv (.t 5), none⟩, ⟨some 1, .mv (.t 33), none⟩] [5, 33])))))
def c_due_up : ACode :=
 (.seq (.ops [] [⟨some 4, .mv (.c (.d (.int .i64 0))), none⟩] [4])
 (.seq (.block 0 (.loop [] l_due_up_0))
 (.seq (.ops [] [⟨some 34, .mv (.t 1), none⟩, ⟨some 4, .mv (.t 34), none⟩] [0, 1, 15, 34])
 (.ret [4]))))
def r_due_up : List ARes := [.t 4]
def fn_due_up : AFn := .code c_due_up r_due_up 35 true
def c_slices_Clone_api_Lease : ACode :=
 (.seq (.ops [] [⟨some 2, .nacc, none⟩] [2])
 (.seq (.seq (.ops [] [⟨some 3, .mv (.t 0), none⟩, ⟨some 4, .nileq false (.t 3), none⟩] [3])
 (.cond (.t 4) (.seq (.ops [] [⟨some 2, .nacc, none⟩] [0, 4])
 (.ret [2])) .skip))
 (.seq (.ops [] [⟨some 5, .bsl 0 8 (.d (.agg [.int .i64 0, .int .i64 0, .int .i64 0, .int .i64 0, .int .i64 0, .int .i64 0, .str [], .int .i64 0])) [], none⟩, ⟨some 6, .mv (.t 0), none⟩, ⟨some 7, .app 8 (.t 5) (.t 6), none⟩, ⟨some 2, .mv (.t 7), none⟩] [0, 4, 5, 6, 7])
 (.ret [2]))))
def r_slices_Clone_api_Lease : List ARes := [.t 2]
def fn_slices_Clone_api_Lease : AFn := .nils c_slices_Clone_api_Lease r_slices_Clone_api_Lease 8
def fn_slices_Insert_api_Lease : AFn := .ext (insF 8)
def c_ref06_Same : ACode :=
 (.seq (.ops [] [⟨some 2, .box (.t 0), none⟩, ⟨some 3, .box (.t 1), none⟩, ⟨some 4, .mv (.c (.d (.bool false))), none⟩] [0, 1, 4])
 (.seq (.ops [] [⟨some 5, .fad false 0 1 (.t 2), none⟩, ⟨some 6, .ld false 1 (.t 5), none⟩, ⟨some 7, .fad false 0 1 (.t 3), none⟩, ⟨some 8, .ld false 1 (.t 7), none⟩, ⟨some 9, .call N_ref06_SameLeases [] [.t 6, .t 8], none⟩, ⟨some 10, .mv (.t 9), none⟩, ⟨some 11, .fad false 1 1 (.t 2), some (10, true)⟩, ⟨some 12, .ld false 1 (.t 11), some (10, true)⟩, ⟨some 13, .fad false 1 1 (.t 3), some (10, true)⟩, ⟨some 14, .ld false 1 (.t 13), some (10, true)⟩, ⟨some 15, .call N_ref05_Same [] [.t 12, .t 14], some (10, true)⟩, ⟨some 16, .pick (.t 10) (.t 15) (.c (.d (.bool false))), none⟩, ⟨some 4, .mv (.t 16), none⟩] [2, 3, 5, 6, 7, 8, 9, 10, 11, 12, 13, 14, 15, 16])
 (.ret [4])))
def r_ref06_Same : List ARes := [.t 4]
def fn_ref06_Same : AFn := .code c_ref06_Same r_ref06_Same 17 true
def l_ref06_SameLeases_0 : ACode :=
 (.seq (.seq (.ops [] [⟨some 11, .mv (.t 5), none⟩, ⟨some 12, .mv (.t 0), none⟩, ⟨some 13, .len (.t 12), none⟩, ⟨some 14, .bin .lss (.t 11) (.t 13), none⟩] [11, 12, 13])
 (.cond (.t 14) .skip (.exit 0 [])))
 (.seq (.block 1 (.seq (.draw [] [⟨some 17, .mv (.t 0), none⟩, ⟨some 18, .mv (.t 5), none⟩, ⟨some 19, .iad 8 (.t 17) (.t 18), none⟩, ⟨some 20, .ld true 8 (.t 19), none⟩, ⟨some 21, .mv (.t 1), none⟩, ⟨some 22, .mv (.t 5), none⟩, ⟨some 23, .iad 8 (.t 21) (.t 22), none⟩, ⟨some 24, .ld true 8 (.t 23), none⟩, ⟨some 25, .eqs true 8 [(0, 0), (1, 0), (2, 0), (3, 0), (4, 0), (5, 0), (6, 2), (7, 0)] (.t 20) (.t 24), none⟩] [[], [0], [], [], [0, 1, 2, 3], [0, 1, 2, 3, 4], [0, 1, 2, 3], [0, 1, 2, 3], []] [14, 17, 18, 19, 20, 21, 22, 23, 24])
 (.cond (.t 25) (.seq (.ops [] [⟨some 4, .mv (.c (.d (.bool false))), none⟩] [0, 1, 5, 25])
 (.ret [4])) .skip)))
 (.ops [] [⟨some 15, .mv (.t 5), none⟩, ⟨some 16, .bin .add (.t 15) (.c (.d (.int .i64 1))), none⟩, ⟨some 5, .mv (.t 16), none⟩] [15, 16, 25])))
def c_ref06_SameLeases : ACode :=
 (.seq (.ops [] [⟨some 4, .mv (.c (.d (.bool false))), none⟩] [4])
 (.seq (.seq (.ops [] [⟨some 6, .mv (.t 0), none⟩, ⟨some 7, .len (.t 6), none⟩, ⟨some 8, .mv (.t 1), none⟩, ⟨some 9, .len (.t 8), none⟩, ⟨some 10, .bin .neq (.t 7) (.t 9), none⟩] [6, 7, 8, 9])
 (.cond (.t 10) (.seq (.ops [] [⟨some 4, .mv (.c (.d (.bool false))), none⟩] [0, 1, 10])
 (.ret [4])) .skip))
 (.seq (.seq (.ops [] [⟨some 5, .mv (.c (.d (.int .i64 0))), none⟩] [10])
 (.block 0 (.loop [] l_ref06_SameLeases_0)))
 (.seq (.ops [] [⟨some 4, .mv (.c (.d (.bool true))), none⟩] [0, 1, 5, 14])
 (.ret [4])))))
def r_ref06_SameLeases : List ARes := [.t 4]
def fn_ref06_SameLeases : AFn := .code c_ref06_SameLeases r_ref06_SameLeases 26 true
def l_ref05_Same_0 : ACode :=
 (.seq (.seq (.ops [] [⟨some 11, .mv (.t 5), none⟩, ⟨some 12, .mv (.t 0), none⟩, ⟨some 13, .len (.t 12), none⟩, ⟨some 14, .bin .lss (.t 11) (.t 13), none⟩] [11, 12, 13])
 (.cond (.t 14) .skip (.exit 0 [])))
 (.seq (.block 1 (.seq (.draw [] [⟨some 17, .mv (.t 0), none⟩, ⟨some 18, .mv (.t 5), none⟩, ⟨some 19, .iad 2 (.t 17) (.t 18), none⟩, ⟨some 20, .ld true 2 (.t 19), none⟩, ⟨some 21, .mv (.t 1), none⟩, ⟨some 22, .mv (.t 5), none⟩, ⟨some 23, .iad 2 (.t 21) (.t 22), none⟩, ⟨some 24, .ld true 2 (.t 23), none⟩, ⟨some 25, .eqs true 2 [(0, 0), (1, 0)] (.t 20) (.t 24), none⟩] [[], [0], [], [], [0, 1, 2, 3], [0, 1, 2, 3, 4], [0, 1, 2, 3], [0, 1, 2, 3], []] [14, 17, 18, 19, 20, 21, 22, 23, 24])
 (.cond (.t 25) (.seq (.ops [] [⟨some 4, .mv (.c (.d (.bool false))), none⟩] [0, 1, 5, 25])
 (.ret [4])) .skip)))
 (.ops [] [⟨some 15, .mv (.t 5), none⟩, ⟨some 16, .bin .add (.t 15) (.c (.d (.int .i64 1))), none⟩, ⟨some 5, .mv (.t 16), none⟩] [15, 16, 25])))
def c_ref05_Same : ACode :=
 (.seq (.ops [] [⟨some 4, .mv (.c (.d (.bool false))), none⟩] [4])
 (.seq (.seq (.ops [] [⟨some 6, .mv (.t 0), none⟩, ⟨some 7, .len (.t 6), none⟩, ⟨some 8, .mv (.t 1), none⟩, ⟨some 9, .len (.t 8), none⟩, ⟨some 10, .bin .neq (.t 7) (.t 9), none⟩] [6, 7, 8, 9])
 (.cond (.t 10) (.seq (.ops [] [⟨some 4, .mv (.c (.d (.bool false))), none⟩] [0, 1, 10])
 (.ret [4])) .skip))
 (.seq (.seq (.ops [] [⟨some 5, .mv (.c (.d (.int .i64 0))), none⟩] [10])
 (.block 0 (.loop [] l_ref05_Same_0)))
 (.seq (.ops [] [⟨some 4, .mv (.c (.d (.bool true))), none⟩] [0, 1, 5, 14])
 (.ret [4])))))
def r_ref05_Same : List ARes := [.t 4]
def fn_ref05_Same : AFn := .code c_ref05_Same r_ref05_Same 26 true
def c_lease_Release : ACode :=
 (.seq (.ops [] [⟨some 2, .box (.t 0), none⟩, ⟨some 4, .alloc (.agg [.xsl [], .xsl []]), none⟩, ⟨some 5, .alloc (.d (.agg [.int .i64 0, .int .i64 0, .int .i64 0, .int .i64 0, .int .i64 0, .int .i64 0, .str []])), none⟩, ⟨some 6, .mv (.c (.d (.int .i64 0))), none⟩] [0, 6])
 (.seq (.seq (.ops [] [⟨some 12, .ld true 2 (.t 2), none⟩, ⟨some 13, .call N_lease_Validate [] [.t 12], none⟩, ⟨some 7, .mv (.t 13), none⟩] [12, 13])
 (.seq (.ops [] [⟨some 14, .mv (.t 7), none⟩, ⟨some 15, .bin .neq (.t 14) (.c (.d (.int .i64 0))), none⟩] [14])
 (.cond (.t 15) (.seq (.ops [] [⟨some 16, .build [.xsl [], .xsl []] [], none⟩, ⟨some 17, .build [.d (.int .i64 0), .d (.int .i64 0), .d (.int .i64 0), .d (.int .i64 0), .d (.int .i64 0), .d (.int .i64 0), .d (.str [])] [], none⟩, ⟨some 18, .mv (.t 7), none⟩, ⟨none, .st 2 (.t 4) (.t 16), none⟩, ⟨none, .st 7 (.t 5) (.t 17), none⟩, ⟨some 6, .mv (.t 18), none⟩] [1, 2, 7, 15, 16, 17, 18])
 (.ret [4, 5, 6])) .skip)))
 (.seq (.ops [] [⟨some 20, .ld true 2 (.t 2), none⟩, ⟨some 21, .mv (.t 1), none⟩, ⟨some 22, .call N_lease_find [] [.t 20, .t 21], none⟩, ⟨some 19, .mv (.t 22), none⟩, ⟨some 23, .ext (.t 19) 0, none⟩, ⟨some 24, .ext (.t 19) 1, none⟩, ⟨some 8, .mv (.t 23), none⟩, ⟨some 9, .mv (.t 24), none⟩] [7, 15, 19, 20, 21, 22, 23, 24])
 (.seq (.seq (.ops [] [⟨some 25, .mv (.t 9), none⟩, ⟨some 26, .un .not (.t 25), none⟩] [9, 25])
 (.cond (.t 26) (.seq (.ops [] [⟨some 27, .build [.xsl [], .xsl []] [], none⟩, ⟨some 28, .build [.d (.int .i64 0), .d (.int .i64 0), .d (.int .i64 0), .d (.int .i64 0), .d (.int .i64 0), .d (.int .i64 0), .d (.str [])] [], none⟩, ⟨none, .st 2 (.t 4) (.t 27), none⟩, ⟨none, .st 7 (.t 5) (.t 28), none⟩, ⟨some 6, .mv (.c (.d (.int .i64 4))), none⟩] [1, 2, 8, 26, 27, 28])
 (.ret [4, 5, 6])) .skip))
 (.seq (.ops [] [⟨some 30, .fad false 1 1 (.t 2), none⟩, ⟨some 31, .ld false 1 (.t 30), none⟩, ⟨some 32, .mv (.t 1), none⟩, ⟨some 33, .call N_due_Remove [] [.t 31, .t 32], none⟩, ⟨some 29, .mv (.t 33), none⟩, ⟨some 34, .ext (.t 29) 0, none⟩, ⟨some 35, .ext (.t 29) 1, none⟩, ⟨some 10, .mv (.t 34), none⟩, ⟨some 11, .mv (.t 35), none⟩] [1, 26, 29, 30, 31, 32, 33, 34, 35])
 (.seq (.seq (.ops [] [⟨some 36, .mv (.t 11), none⟩, ⟨some 37, .bin .neq (.t 36) (.c (.d (.int .i64 0))), none⟩] [36])
 (.cond (.t 37) (.seq (.ops [] [⟨some 38, .build [.xsl [], .xsl []] [], none⟩, ⟨some 39, .build [.d (.int .i64 0), .d (.int .i64 0), .d (.int .i64 0), .d (.int .i64 0), .d (.int .i64 0), .d (.int .i64 0), .d (.str [])] [], none⟩, ⟨some 40, .mv (.t 11), none⟩, ⟨none, .st 2 (.t 4) (.t 38), none⟩, ⟨none, .st 7 (.t 5) (.t 39), none⟩, ⟨some 6, .mv (.t 40), none⟩] [2, 8, 10, 11, 37, 38, 39, 40])
 (.ret [4, 5, 6])) .skip))
 (.seq (.draw [] [⟨some 41, .fad false 0 1 (.t 2), none⟩, ⟨some 42, .ld false 1 (.t 41), none⟩, ⟨some 43, .mv (.t 8), none⟩, ⟨some 44, .call N_lease_without_api_Lease [] [.t 42, .t 43], none⟩, ⟨some 45, .mv (.t 10), none⟩, ⟨some 46, .build [.xsl [], .xsl []] [(0, (1, .t 44)), (1, (1, .t 45))], none⟩, ⟨some 47, .fad false 0 1 (.t 2), none⟩, ⟨some 48, .ld false 1 (.t 47), none⟩, ⟨some 49, .mv (.t 8), none⟩, ⟨some 50, .iad 8 (.t 48) (.t 49), none⟩, ⟨some 51, .fad true 0 7 (.t 50), none⟩, ⟨some 52, .ld true 7 (.t 51), none⟩, ⟨none, .st 2 (.t 4) (.t 46), none⟩, ⟨none, .st 7 (.t 5) (.t 52), none⟩, ⟨some 6, .mv (.c (.d (.int .i64 0))), none⟩] [[], [], [0, 1], [], [0, 1, 2, 3], [], [0, 1, 2, 3, 4, 5], [0, 1, 2, 3, 4, 5], [0, 1, 2, 3, 4, 5, 6, 7], [0, 1, 2, 3, 4, 5], [0, 1, 2, 3, 4, 5], [0, 1, 2, 3, 4, 5], [6, 7, 8, 9, 10, 11], [], []] [2, 8, 10, 11, 37, 41, 42, 43, 44, 45, 46, 47, 48, 49, 50, 51, 52])
 (.ret [4, 5, 6]))))))))
def r_lease_Release : List ARes := [.c 4 true 2, .c 5 true 7, .t 6]
def fn_lease_Release : AFn := .code c_lease_Release r_lease_Release 53 true
def c_due_Remove : ACode :=
 (.seq (.ops [] [⟨some 4, .mv (.c (.xsl [])), none⟩, ⟨some 5, .mv (.c (.d (.int .i64 0))), none⟩] [4, 5])
 (.seq (.seq (.ops [] [⟨some 8, .mv (.t 0), none⟩, ⟨some 9, .call N_due_Validate [] [.t 8], none⟩, ⟨some 6, .mv (.t 9), none⟩] [8, 9])
 (.seq (.ops [] [⟨some 10, .mv (.t 6), none⟩, ⟨some 11, .bin .neq (.t 10) (.c (.d (.int .i64 0))), none⟩] [10])
 (.cond (.t 11) (.seq (.ops [] [⟨some 12, .mv (.t 6), none⟩, ⟨some 4, .mv (.c (.xsl [])), none⟩, ⟨some 5, .mv (.t 12), none⟩] [0, 1, 6, 11, 12])
 (.ret [4, 5])) .skip)))
 (.seq (.ops [] [⟨some 13, .mv (.t 0), none⟩, ⟨some 14, .mv (.t 1), none⟩, ⟨some 15, .call N_due_find [] [.t 13, .t 14], none⟩, ⟨some 7, .mv (.t 15), none⟩] [1, 6, 11, 13, 14, 15])
 (.seq (.seq (.ops [] [⟨some 16, .mv (.t 7), none⟩, ⟨some 17, .bin .lss (.t 16) (.c (.d (.int .i64 0))), none⟩] [16])
 (.cond (.t 17) (.seq (.ops [] [⟨some 4, .mv (.c (.xsl [])), none⟩, ⟨some 5, .mv (.c (.d (.int .i64 4))), none⟩] [0, 7, 17])
 (.ret [4, 5])) .skip))
 (.seq (.ops [] [⟨some 18, .mv (.t 0), none⟩, ⟨some 19, .mv (.t 7), none⟩, ⟨some 20, .call N_due_drop [] [.t 18, .t 19], none⟩, ⟨some 4, .mv (.t 20), none⟩, ⟨some 5, .mv (.c (.d (.int .i64 0))), none⟩] [0, 7, 17, 18, 19, 20])
 (.ret [4, 5]))))))
def r_due_Remove : List ARes := [.t 4, .t 5]
def fn_due_Remove : AFn := .code c_due_Remove r_due_Remove 21 true
def c_due_drop : ACode :=
 (.seq (.ops [] [⟨some 4, .mv (.c (.xsl [])), none⟩] [4])
 (.seq (.ops [] [⟨some 7, .mv (.t 0), none⟩, ⟨some 8, .len (.t 7), none⟩, ⟨some 9, .bin .sub (.t 8) (.c (.d (.int .i64 1))), none⟩, ⟨some 5, .mv (.t 9), none⟩] [7, 8, 9])
 (.seq (.ops [] [⟨some 10, .mv (.t 0), none⟩, ⟨some 11, .mv (.t 5), none⟩, ⟨some 12, .slc 2 (.t 10) none (some (.t 11)) none, none⟩, ⟨some 13, .call N_slices_Clone_api_Due [] [.t 12], none⟩, ⟨some 6, .mv (.t 13), none⟩] [10, 11, 12, 13])
 (.seq (.seq (.ops [] [⟨some 14, .mv (.t 1), none⟩, ⟨some 15, .mv (.t 5), none⟩, ⟨some 16, .bin .eql (.t 14) (.t 15), none⟩] [14, 15])
 (.cond (.t 16) (.seq (.ops [] [⟨some 17, .mv (.t 6), none⟩, ⟨some 4, .mv (.t 17), none⟩] [0, 1, 5, 6, 16, 17])
 (.ret [4])) .skip))
 (.seq (.ops [26] [⟨some 18, .mv (.t 6), none⟩, ⟨some 19, .mv (.t 1), none⟩, ⟨some 20, .mv (.t 0), none⟩, ⟨some 21, .mv (.t 5), none⟩, ⟨some 22, .iad 2 (.t 20) (.t 21), none⟩, ⟨some 23, .ld true 2 (.t 22), none⟩, ⟨some 24, .iad 2 (.t 18) (.t 19), none⟩, ⟨none, .st 2 (.t 24) (.t 23), none⟩] [0, 5, 16, 18, 19, 20, 21, 22, 23, 24])
 (.seq (.seq (.ops [] [⟨some 25, .mv (.t 6), none⟩, ⟨some 26, .mv (.t 1), none⟩, ⟨some 27, .call N_due_up [true, false] [.t 25, .t 26], none⟩, ⟨some 28, .mv (.t 1), none⟩, ⟨some 29, .bin .eql (.t 27) (.t 28), none⟩] [25, 26, 27, 28])
 (.cond (.t 29) (.ops [] [⟨some 30, .mv (.t 6), none⟩, ⟨some 31, .mv (.t 1), none⟩, ⟨some 32, .call N_due_down [true, false] [.t 30, .t 31], none⟩] [1, 29, 30, 31, 32]) .skip))
 (.seq (.ops [] [⟨some 33, .mv (.t 6), none⟩, ⟨some 4, .mv (.t 33), none⟩] [1, 6, 29, 33])
 (.ret [4]))))))))
def r_due_drop : List ARes := [.t 4]
def fn_due_drop : AFn := .code c_due_drop r_due_drop 34 true
def l_due_down_0 : ACode :=
 (.block 1 (.seq (.ops [] [⟨some 5, .mv (.t 1), none⟩, ⟨some 6, .bin .mul (.c (.d (.int .i64 2))) (.t 5), none⟩, ⟨some 7, .bin .add (.t 6) (.c (.d (.int .i64 1))), none⟩, ⟨some 4, .mv (.t 7), none⟩] [5, 6, 7])
 (.seq (.seq (.ops [] [⟨some 8, .mv (.t 4), none⟩, ⟨some 9, .mv (.t 0), none⟩, ⟨some 10, .len (.t 9), none⟩, ⟨some 11, .bin .geq (.t 8) (.t 10), none⟩] [8, 9, 10])
 (.cond (.t 11) (.ret []) .skip))
 (.seq (.seq (.ops [] [⟨some 12, .mv (.t 4), none⟩, ⟨some 13, .bin .add (.t 12) (.c (.d (.int .i64 1))), none⟩, ⟨some 14, .mv (.t 0), none⟩, ⟨some 15, .len (.t 14), none⟩, ⟨some 16, .bin .lss (.t 13) (.t 15), none⟩, ⟨some 17, .mv (.t 16), none⟩, ⟨some 18, .mv (.t 0), some (17, true)⟩, ⟨some 19, .mv (.t 4), some (17, true)⟩, ⟨some 20, .bin .add (.t 19) (.c (.d (.int .i64 1))), some (17, true)⟩, ⟨some 21, .mv (.t 4), some (17, true)⟩, ⟨some 22, .call N_due_before [] [.t 18, .t 20, .t 21], some (17, true)⟩, ⟨some 23, .pick (.t 17) (.t 22) (.c (.d (.bool false))), none⟩] [11, 12, 13, 14, 15, 16, 17, 18, 19, 20, 21, 22])
 (.cond (.t 23) (.ops [] [⟨some 24, .mv (.t 4), none⟩, ⟨some 25, .bin .add (.t 24) (.c (.d (.int .i64 1))), none⟩, ⟨some 4, .mv (.t 25), none⟩] [23, 24, 25]) .skip))
 (.seq (.seq (.ops [] [⟨some 26, .mv (.t 0), none⟩, ⟨some 27, .mv (.t 4), none⟩, ⟨some 28, .mv (.t 1), none⟩, ⟨some 29, .call N_due_before [] [.t 26, .t 27, .t 28], none⟩, ⟨some 30, .un .not (.t 29), none⟩] [23, 26, 27, 28, 29])
 (.cond (.t 30) (.ret []) .skip))
 (.seq (.draw [] [⟨some 31, .mv (.t 0), none⟩, ⟨some 32, .mv (.t 1), none⟩, ⟨some 33, .mv (.t 0), none⟩, ⟨some 34, .mv (.t 4), none⟩, ⟨some 35, .mv (.t 0), none⟩, ⟨some 36, .mv (.t 4), none⟩, ⟨some 37, .iad 2 (.t 35) (.t 36), none⟩, ⟨some 38, .ld true 2 (.t 37), none⟩, ⟨some 39, .mv (.t 0), none⟩, ⟨some 40, .mv (.t 1), none⟩, ⟨some 41, .iad 2 (.t 39) (.t 40), none⟩, ⟨some 42, .ld true 2 (.t 41), none⟩, ⟨some 43, .iad 2 (.t 31) (.t 32), none⟩, ⟨none, .st 2 (.t 43) (.t 38), none⟩, ⟨some 44, .iad 2 (.t 33) (.t 34), none⟩, ⟨none, .st 2 (.t 44) (.t 42), none⟩] [[], [0], [0, 1], [0, 1, 2], [0, 1, 2, 3], [0, 1, 2, 3, 4], [0, 1, 2, 3], [0, 1, 2, 3], [0, 1, 2, 3, 4, 5, 6, 7], [0, 1, 2, 3, 4, 5, 6, 7, 8], [0, 1, 2, 3, 4, 5, 6, 7], [0, 1, 2, 3, 4, 5, 6, 7], [2, 3], [2, 3], [], []] [1, 30, 31, 32, 33, 34, 35, 36, 37, 38, 39, 40, 41, 42, 43, 44])
 (.ops [] [⟨some 45, .mv (.t 4), none⟩, ⟨some 1, .mv (.t 45), none⟩] [4, 45])))))))
def c_due_down : ACode :=
 (.block 0 (.loop [] l_due_down_0))
def r_due_down : List ARes := []
def fn_due_down : AFn := .code c_due_down r_due_down 46 true
def c_lease_without_api_Lease : ACode :=
 (.seq (.ops [] [⟨some 4, .mv (.c (.xsl [])), none⟩] [4])
 (.seq (.ops [] [⟨some 5, .mv (.t 0), none⟩, ⟨some 6, .call N_slices_Clone_api_Lease [] [.t 5], none⟩, ⟨some 7, .mv (.t 1), none⟩, ⟨some 8, .mv (.t 1), none⟩, ⟨some 9, .bin .add (.t 8) (.c (.d (.int .i64 1))), none⟩, ⟨some 10, .call N_slices_Delete_api_Lease [true, false, false] [.t 6, .t 7, .t 9], none⟩, ⟨some 4, .mv (.t 10), none⟩] [0, 1, 5, 6, 7, 8, 9, 10])
 (.ret [4])))
def r_lease_without_api_Lease : List ARes := [.t 4]
def fn_lease_without_api_Lease : AFn := .code c_lease_without_api_Lease r_lease_without_api_Lease 11 true
def fn_slices_Delete_api_Lease : AFn := .ext (delF 8)
def c_ref06_Release : ACode :=
 (.seq (.ops [] [⟨some 2, .box (.t 0), none⟩, ⟨some 4, .alloc (.agg [.xsl [], .xsl []]), none⟩, ⟨some 5, .alloc (.d (.agg [.int .i64 0, .int .i64 0, .int .i64 0, .int .i64 0, .int .i64 0, .int .i64 0, .str []])), none⟩, ⟨some 6, .mv (.c (.d (.int .i64 0))), none⟩] [0, 6])
 (.seq (.seq (.ops [] [⟨some 12, .ld true 2 (.t 2), none⟩, ⟨some 13, .call N_ref06_Validate [] [.t 12], none⟩, ⟨some 7, .mv (.t 13), none⟩] [12, 13])
 (.seq (.ops [] [⟨some 14, .mv (.t 7), none⟩, ⟨some 15, .bin .neq (.t 14) (.c (.d (.int .i64 0))), none⟩] [14])
 (.cond (.t 15) (.seq (.ops [] [⟨some 16, .build [.xsl [], .xsl []] [], none⟩, ⟨some 17, .build [.d (.int .i64 0), .d (.int .i64 0), .d (.int .i64 0), .d (.int .i64 0), .d (.int .i64 0), .d (.int .i64 0), .d (.str [])] [], none⟩, ⟨some 18, .mv (.t 7), none⟩, ⟨none, .st 2 (.t 4) (.t 16), none⟩, ⟨none, .st 7 (.t 5) (.t 17), none⟩, ⟨some 6, .mv (.t 18), none⟩] [1, 2, 7, 15, 16, 17, 18])
 (.ret [4, 5, 6])) .skip)))
 (.seq (.ops [] [⟨some 19, .ld true 2 (.t 2), none⟩, ⟨some 20, .mv (.t 1), none⟩, ⟨some 21, .call N_ref06_find [] [.t 19, .t 20], none⟩, ⟨some 8, .mv (.t 21), none⟩] [7, 15, 19, 20, 21])
 (.seq (.seq (.ops [] [⟨some 22, .mv (.t 8), none⟩, ⟨some 23, .bin .lss (.t 22) (.c (.d (.int .i64 0))), none⟩] [22])
 (.cond (.t 23) (.seq (.ops [] [⟨some 24, .build [.xsl [], .xsl []] [], none⟩, ⟨some 25, .build [.d (.int .i64 0), .d (.int .i64 0), .d (.int .i64 0), .d (.int .i64 0), .d (.int .i64 0), .d (.int .i64 0), .d (.str [])] [], none⟩, ⟨none, .st 2 (.t 4) (.t 24), none⟩, ⟨none, .st 7 (.t 5) (.t 25), none⟩, ⟨some 6, .mv (.c (.d (.int .i64 4))), none⟩] [1, 2, 8, 23, 24, 25])
 (.ret [4, 5, 6])) .skip))
 (.seq (.ops [] [⟨some 27, .fad false 1 1 (.t 2), none⟩, ⟨some 28, .ld false 1 (.t 27), none⟩, ⟨some 29, .mv (.t 1), none⟩, ⟨some 30, .call N_ref05_Remove [] [.t 28, .t 29], none⟩, ⟨some 26, .mv (.t 30), none⟩, ⟨some 31, .ext (.t 26) 0, none⟩, ⟨some 32, .ext (.t 26) 1, none⟩, ⟨some 9, .mv (.t 31), none⟩, ⟨some 10, .mv (.t 32), none⟩] [1, 10, 23, 26, 27, 28, 29, 30, 31, 32])
 (.seq (.draw [] [⟨some 33, .fad false 0 1 (.t 2), none⟩, ⟨some 34, .ld false 1 (.t 33), none⟩, ⟨some 35, .mv (.t 8), none⟩, ⟨some 36, .slc 8 (.t 34) none (some (.t 35)) none, none⟩, ⟨some 37, .app 8 (.c (.xsl [])) (.t 36), none⟩, ⟨some 38, .fad false 0 1 (.t 2), none⟩, ⟨some 39, .ld false 1 (.t 38), none⟩, ⟨some 40, .mv (.t 8), none⟩, ⟨some 41, .bin .add (.t 40) (.c (.d (.int .i64 1))), none⟩, ⟨some 42, .slc 8 (.t 39) (some (.t 41)) none none, none⟩, ⟨some 43, .app 8 (.t 37) (.t 42), none⟩, ⟨some 11, .mv (.t 43), none⟩] [[], [], [0, 1], [], [], [0, 1, 2, 3, 4], [0, 1, 2, 3, 4], [0, 1, 2, 3, 4, 5, 6], [0, 1, 2, 3, 4, 5, 6], [0, 1, 2, 3, 4], [], []] [33, 34, 35, 36, 37, 38, 39, 40, 41, 42, 43])
 (.seq (.draw [] [⟨some 44, .mv (.t 11), none⟩, ⟨some 45, .mv (.t 9), none⟩, ⟨some 46, .build [.xsl [], .xsl []] [(0, (1, .t 44)), (1, (1, .t 45))], none⟩, ⟨some 47, .fad false 0 1 (.t 2), none⟩, ⟨some 48, .ld false 1 (.t 47), none⟩, ⟨some 49, .mv (.t 8), none⟩, ⟨some 50, .iad 8 (.t 48) (.t 49), none⟩, ⟨some 51, .fad true 0 7 (.t 50), none⟩, ⟨some 52, .ld true 7 (.t 51), none⟩, ⟨none, .st 2 (.t 4) (.t 46), none⟩, ⟨none, .st 7 (.t 5) (.t 52), none⟩, ⟨some 6, .mv (.c (.d (.int .i64 0))), none⟩] [[], [0], [], [0, 1, 2], [0, 1, 2], [0, 1, 2, 3, 4], [0, 1, 2], [0, 1, 2], [0, 1, 2], [3, 4, 5, 6, 7, 8], [], []] [2, 8, 9, 11, 44, 45, 46, 47, 48, 49, 50, 51, 52])
 (.ret [4, 5, 6]))))))))
def r_ref06_Release : List ARes := [.c 4 true 2, .c 5 true 7, .t 6]
def fn_ref06_Release : AFn := .code c_ref06_Release r_ref06_Release 53 true
def c_ref05_Remove : ACode :=
 (.seq (.ops [] [⟨some 4, .mv (.c (.xsl [])), none⟩, ⟨some 5, .mv (.c (.d (.int .i64 0))), none⟩] [4, 5])
 (.seq (.seq (.ops [] [⟨some 8, .mv (.t 0), none⟩, ⟨some 9, .call N_ref05_Validate [] [.t 8], none⟩, ⟨some 6, .mv (.t 9), none⟩] [8, 9])
 (.seq (.ops [] [⟨some 10, .mv (.t 6), none⟩, ⟨some 11, .bin .neq (.t 10) (.c (.d (.int .i64 0))), none⟩] [10])
 (.cond (.t 11) (.seq (.ops [] [⟨some 12, .mv (.t 6), none⟩, ⟨some 4, .mv (.c (.xsl [])), none⟩, ⟨some 5, .mv (.t 12), none⟩] [0, 1, 6, 11, 12])
 (.ret [4, 5])) .skip)))
 (.seq (.ops [] [⟨some 13, .mv (.t 0), none⟩, ⟨some 14, .mv (.t 1), none⟩, ⟨some 15, .call N_ref05_index [] [.t 13, .t 14], none⟩, ⟨some 7, .mv (.t 15), none⟩] [1, 6, 11, 13, 14, 15])
 (.seq (.seq (.ops [] [⟨some 16, .mv (.t 7), none⟩, ⟨some 17, .bin .lss (.t 16) (.c (.d (.int .i64 0))), none⟩] [16])
 (.cond (.t 17) (.seq (.ops [] [⟨some 4, .mv (.c (.xsl [])), none⟩, ⟨some 5, .mv (.c (.d (.int .i64 4))), none⟩] [0, 7, 17])
 (.ret [4, 5])) .skip))
 (.seq (.ops [] [⟨some 18, .mv (.t 0), none⟩, ⟨some 19, .mv (.t 7), none⟩, ⟨some 20, .call N_ref05_cut [] [.t 18, .t 19], none⟩, ⟨some 4, .mv (.t 20), none⟩, ⟨some 5, .mv (.c (.d (.int .i64 0))), none⟩] [0, 7, 17, 18, 19, 20])
 (.ret [4, 5]))))))
def r_ref05_Remove : List ARes := [.t 4, .t 5]
def fn_ref05_Remove : AFn := .code c_ref05_Remove r_ref05_Remove 21 true
def c_lease_Extend : ACode :=
 (.seq (.ops [] [⟨some 3, .box (.t 0), none⟩, ⟨some 6, .alloc (.agg [.xsl [], .xsl []]), none⟩, ⟨some 7, .mv (.c (.d (.int .i64 0))), none⟩] [0, 7])
 (.seq (.seq (.ops [] [⟨some 14, .ld true 2 (.t 3), none⟩, ⟨some 15, .call N_lease_Validate [] [.t 14], none⟩, ⟨some 8, .mv (.t 15), none⟩] [14, 15])
 (.seq (.ops [] [⟨some 16, .mv (.t 8), none⟩, ⟨some 17, .bin .neq (.t 16) (.c (.d (.int .i64 0))), none⟩] [16])
 (.cond (.t 17) (.seq (.ops [] [⟨some 18, .build [.xsl [], .xsl []] [], none⟩, ⟨some 19, .mv (.t 8), none⟩, ⟨none, .st 2 (.t 6) (.t 18), none⟩, ⟨some 7, .mv (.t 19), none⟩] [1, 2, 3, 8, 17, 18, 19])
 (.ret [6, 7])) .skip)))
 (.seq (.ops [] [⟨some 21, .ld true 2 (.t 3), none⟩, ⟨some 22, .mv (.t 1), none⟩, ⟨some 23, .call N_lease_find [] [.t 21, .t 22], none⟩, ⟨some 20, .mv (.t 23), none⟩, ⟨some 24, .ext (.t 20) 0, none⟩, ⟨some 25, .ext (.t 20) 1, none⟩, ⟨some 9, .mv (.t 24), none⟩, ⟨some 10, .mv (.t 25), none⟩] [8, 17, 20, 21, 22, 23, 24, 25])
 (.seq (.block 0 (.seq (.ops [] [⟨some 27, .mv (.t 10), none⟩, ⟨some 28, .un .not (.t 27), none⟩, ⟨some 26, .mv (.t 28), none⟩] [10, 27, 28])
 (.cond (.t 26) (.seq (.ops [] [⟨some 29, .build [.xsl [], .xsl []] [], none⟩, ⟨none, .st 2 (.t 6) (.t 29), none⟩, ⟨some 7, .mv (.c (.d (.int .i64 4))), none⟩] [1, 2, 3, 9, 26, 29])
 (.ret [6, 7])) (.seq (.ops [] [⟨some 31, .mv (.t 2), none⟩, ⟨some 32, .call N_lease_time [] [.t 31], none⟩, ⟨some 33, .un .not (.t 32), none⟩, ⟨some 30, .mv (.t 33), none⟩] [26, 31, 32, 33])
 (.cond (.t 30) (.seq (.ops [] [⟨some 34, .build [.xsl [], .xsl []] [], none⟩, ⟨none, .st 2 (.t 6) (.t 34), none⟩, ⟨some 7, .mv (.c (.d (.int .i64 1))), none⟩] [1, 2, 3, 9, 30, 34])
 (.ret [6, 7])) .skip)))))
 (.seq (.ops [] [⟨some 36, .fad false 1 1 (.t 3), none⟩, ⟨some 37, .ld false 1 (.t 36), none⟩, ⟨some 38, .mv (.t 1), none⟩, ⟨some 39, .call N_due_Remove [] [.t 37, .t 38], none⟩, ⟨some 35, .mv (.t 39), none⟩, ⟨some 40, .ext (.t 35) 0, none⟩, ⟨some 41, .ext (.t 35) 1, none⟩, ⟨some 11, .mv (.t 40), none⟩, ⟨some 12, .mv (.t 41), none⟩] [30, 35, 36, 37, 38, 39, 40, 41])
 (.seq (.seq (.ops [] [⟨some 42, .mv (.t 12), none⟩, ⟨some 43, .bin .neq (.t 42) (.c (.d (.int .i64 0))), none⟩] [42])
 (.cond (.t 43) (.seq (.ops [] [⟨some 44, .build [.xsl [], .xsl []] [], none⟩, ⟨some 45, .mv (.t 12), none⟩, ⟨none, .st 2 (.t 6) (.t 44), none⟩, ⟨some 7, .mv (.t 45), none⟩] [1, 2, 3, 9, 11, 12, 43, 44, 45])
 (.ret [6, 7])) .skip))
 (.seq (.seq (.ops [] [⟨some 47, .mv (.t 11), none⟩, ⟨some 48, .mv (.t 2), none⟩, ⟨some 49, .mv (.t 1), none⟩, ⟨some 50, .build [.d (.int .i64 0), .d (.int .i64 0)] [(0, (1, .t 48)), (1, (1, .t 49))], none⟩, ⟨some 51, .call N_due_Push [] [.t 47, .t 50], none⟩, ⟨some 46, .mv (.t 51), none⟩, ⟨some 52, .ext (.t 46) 0, none⟩, ⟨some 53, .ext (.t 46) 1, none⟩, ⟨some 11, .mv (.t 52), none⟩, ⟨some 12, .mv (.t 53), none⟩] [1, 43, 46, 47, 48, 49, 50, 51, 52, 53])
 (.seq (.ops [] [⟨some 54, .mv (.t 12), none⟩, ⟨some 55, .bin .neq (.t 54) (.c (.d (.int .i64 0))), none⟩] [54])
 (.cond (.t 55) (.seq (.ops [] [⟨some 56, .build [.xsl [], .xsl []] [], none⟩, ⟨some 57, .mv (.t 12), none⟩, ⟨none, .st 2 (.t 6) (.t 56), none⟩, ⟨some 7, .mv (.t 57), none⟩] [2, 3, 9, 11, 12, 55, 56, 57])
 (.ret [6, 7])) .skip)))
 (.seq (.ops [] [⟨some 58, .fad false 0 1 (.t 3), none⟩, ⟨some 59, .ld false 1 (.t 58), none⟩, ⟨some 60, .call N_slices_Clone_api_Lease [] [.t 59], none⟩, ⟨some 13, .mv (.t 60), none⟩] [3, 12, 55, 58, 59, 60])
 (.seq (.ops [120] [⟨some 61, .mv (.t 13), none⟩, ⟨some 62, .mv (.t 9), none⟩, ⟨some 63, .mv (.t 2), none⟩, ⟨some 64, .iad 8 (.t 61) (.t 62), none⟩, ⟨some 65, .fad false 7 1 (.t 64), none⟩, ⟨none, .st 1 (.t 65) (.t 63), none⟩] [2, 9, 61, 62, 63, 64, 65])
 (.seq (.ops [] [⟨some 66, .mv (.t 13), none⟩, ⟨some 67, .mv (.t 11), none⟩, ⟨some 68, .build [.xsl [], .xsl []] [(0, (1, .t 66)), (1, (1, .t 67))], none⟩, ⟨none, .st 2 (.t 6) (.t 68), none⟩, ⟨some 7, .mv (.c (.d (.int .i64 0))), none⟩] [11, 13, 66, 67, 68])
 (.ret [6, 7])))))))))))
def r_lease_Extend : List ARes := [.c 6 true 2, .t 7]
def fn_lease_Extend : AFn := .code c_lease_Extend r_lease_Extend 69 true
def c_ref06_Extend : ACode :=
 (.seq (.ops [] [⟨some 3, .box (.t 0), none⟩, ⟨some 6, .alloc (.agg [.xsl [], .xsl []]), none⟩, ⟨some 7, .mv (.c (.d (.int .i64 0))), none⟩] [0, 7])
 (.seq (.seq (.ops [] [⟨some 13, .ld true 2 (.t 3), none⟩, ⟨some 14, .call N_ref06_Validate [] [.t 13], none⟩, ⟨some 8, .mv (.t 14), none⟩] [13, 14])
 (.seq (.ops [] [⟨some 15, .mv (.t 8), none⟩, ⟨some 16, .bin .neq (.t 15) (.c (.d (.int .i64 0))), none⟩] [15])
 (.cond (.t 16) (.seq (.ops [] [⟨some 17, .build [.xsl [], .xsl []] [], none⟩, ⟨some 18, .mv (.t 8), none⟩, ⟨none, .st 2 (.t 6) (.t 17), none⟩, ⟨some 7, .mv (.t 18), none⟩] [1, 2, 3, 8, 16, 17, 18])
 (.ret [6, 7])) .skip)))
 (.seq (.ops [] [⟨some 19, .ld true 2 (.t 3), none⟩, ⟨some 20, .mv (.t 1), none⟩, ⟨some 21, .call N_ref06_find [] [.t 19, .t 20], none⟩, ⟨some 9, .mv (.t 21), none⟩] [8, 16, 19, 20, 21])
 (.seq (.seq (.ops [] [⟨some 22, .mv (.t 9), none⟩, ⟨some 23, .bin .lss (.t 22) (.c (.d (.int .i64 0))), none⟩] [22])
 (.cond (.t 23) (.seq (.ops [] [⟨some 24, .build [.xsl [], .xsl []] [], none⟩, ⟨none, .st 2 (.t 6) (.t 24), none⟩, ⟨some 7, .mv (.c (.d (.int .i64 4))), none⟩] [1, 2, 3, 9, 23, 24])
 (.ret [6, 7])) .skip))
 (.seq (.seq (.ops [] [⟨some 25, .mv (.t 2), none⟩, ⟨some 26, .bin .lss (.t 25) (.c (.d (.int .i64 0))), none⟩, ⟨some 27, .mv (.t 26), none⟩, ⟨some 28, .mv (.t 2), some (27, false)⟩, ⟨some 29, .bin .gtr (.t 28) (.c (.d (.int .i64 1073741824))), some (27, false)⟩, ⟨some 30, .pick (.t 27) (.c (.d (.bool true))) (.t 29), none⟩] [23, 25, 26, 27, 28, 29])
 (.cond (.t 30) (.seq (.ops [] [⟨some 31, .build [.xsl [], .xsl []] [], none⟩, ⟨none, .st 2 (.t 6) (.t 31), none⟩, ⟨some 7, .mv (.c (.d (.int .i64 1))), none⟩] [1, 2, 3, 9, 30, 31])
 (.ret [6, 7])) .skip))
 (.seq (.ops [] [⟨some 33, .fad false 1 1 (.t 3), none⟩, ⟨some 34, .ld false 1 (.t 33), none⟩, ⟨some 35, .mv (.t 1), none⟩, ⟨some 36, .call N_ref05_Remove [] [.t 34, .t 35], none⟩, ⟨some 32, .mv (.t 36), none⟩, ⟨some 37, .ext (.t 32) 0, none⟩, ⟨some 38, .ext (.t 32) 1, none⟩, ⟨some 10, .mv (.t 37), none⟩, ⟨some 11, .mv (.t 38), none⟩] [11, 30, 32, 33, 34, 35, 36, 37, 38])
 (.seq (.ops [] [⟨some 40, .mv (.t 10), none⟩, ⟨some 41, .mv (.t 2), none⟩, ⟨some 42, .mv (.t 1), none⟩, ⟨some 43, .build [.d (.int .i64 0), .d (.int .i64 0)] [(0, (1, .t 41)), (1, (1, .t 42))], none⟩, ⟨some 44, .call N_ref05_Push [] [.t 40, .t 43], none⟩, ⟨some 39, .mv (.t 44), none⟩, ⟨some 45, .ext (.t 39) 0, none⟩, ⟨some 46, .ext (.t 39) 1, none⟩, ⟨some 10, .mv (.t 45), none⟩] [1, 39, 40, 41, 42, 43, 44, 45, 46])
 (.seq (.ops [] [⟨some 47, .fad false 0 1 (.t 3), none⟩, ⟨some 48, .ld false 1 (.t 47), none⟩, ⟨some 49, .app 8 (.c (.xsl [])) (.t 48), none⟩, ⟨some 12, .mv (.t 49), none⟩] [3, 47, 48, 49])
 (.seq (.ops [98] [⟨some 50, .mv (.t 12), none⟩, ⟨some 51, .mv (.t 9), none⟩, ⟨some 52, .mv (.t 2), none⟩, ⟨some 53, .iad 8 (.t 50) (.t 51), none⟩, ⟨some 54, .fad false 7 1 (.t 53), none⟩, ⟨none, .st 1 (.t 54) (.t 52), none⟩] [2, 9, 50, 51, 52, 53, 54])
 (.seq (.ops [] [⟨some 55, .mv (.t 12), none⟩, ⟨some 56, .mv (.t 10), none⟩, ⟨some 57, .build [.xsl [], .xsl []] [(0, (1, .t 55)), (1, (1, .t 56))], none⟩, ⟨none, .st 2 (.t 6) (.t 57), none⟩, ⟨some 7, .mv (.c (.d (.int .i64 0))), none⟩] [10, 12, 55, 56, 57])
 (.ret [6, 7])))))))))))
def r_ref06_Extend : List ARes := [.c 6 true 2, .t 7]
def fn_ref06_Extend : AFn := .code c_ref06_Extend r_ref06_Extend 58 true
def c_law06_awake : ACode :=
 (.seq (.ops [] [⟨some 0, .mv (.c (.d (.bool false))), none⟩] [0])
 (.seq (.ops [] [⟨some 5, .build [.xsl [], .xsl []] [], none⟩, ⟨some 6, .build [.d (.int .i64 0), .d (.int .i64 0), .d (.int .i64 0), .d (.int .i64 0), .d (.int .i64 0), .d (.int .i64 0), .d (.str [])] [(0, (1, .c (.d (.int .i64 7)))), (4, (1, .c (.d (.int .i64 1))))], none⟩, ⟨some 7, .call N_lease_Grant [] [.t 5, .t 6, .c (.d (.int .i64 30))], none⟩, ⟨some 4, .mv (.t 7), none⟩, ⟨some 8, .ext (.t 4) 0, none⟩, ⟨some 9, .ext (.t 4) 1, none⟩, ⟨some 1, .alloc (.agg [.xsl [], .xsl []]), none⟩, ⟨none, .st 2 (.t 1) (.t 8), none⟩, ⟨some 2, .mv (.t 9), none⟩] [4, 5, 6, 7, 8, 9])
 (.seq (.ops [] [⟨some 11, .ld true 2 (.t 1), none⟩, ⟨some 12, .build [.d (.int .i64 0), .d (.int .i64 0), .d (.int .i64 0), .d (.int .i64 0), .d (.int .i64 0), .d (.int .i64 0), .d (.str [])] [(0, (1, .c (.d (.int .i64 9)))), (4, (1, .c (.d (.int .i64 1))))], none⟩, ⟨some 13, .call N_lease_Grant [] [.t 11, .t 12, .c (.d (.int .i64 20))], none⟩, ⟨some 10, .mv (.t 13), none⟩, ⟨some 14, .ext (.t 10) 0, none⟩, ⟨some 15, .ext (.t 10) 1, none⟩, ⟨none, .st 2 (.t 1) (.t 14), none⟩, ⟨some 3, .mv (.t 15), none⟩] [10, 11, 12, 13, 14, 15])
 (.seq (.ops [] [⟨some 16, .mv (.t 2), none⟩, ⟨some 17, .bin .eql (.t 16) (.c (.d (.int .i64 0))), none⟩, ⟨some 18, .mv (.t 17), none⟩, ⟨some 19, .mv (.t 3), some (18, true)⟩, ⟨some 20, .bin .eql (.t 19) (.c (.d (.int .i64 0))), some (18, true)⟩, ⟨some 21, .pick (.t 18) (.t 20) (.c (.d (.bool false))), none⟩, ⟨some 22, .mv (.t 21), none⟩, ⟨some 23, .ld true 2 (.t 1), some (22, true)⟩, ⟨some 24, .call N_lease_Lapsed [] [.t 23, .c (.d (.int .i64 30)), .c (.d (.int .i64 0))], some (22, true)⟩, ⟨some 25, .bsl 2 1 (.d (.int .i64 0)) [(0, .c (.d (.int .i64 9))), (1, .c (.d (.int .i64 7)))], some (22, true)⟩, ⟨some 26, .call N_ref05_SameInts [] [.t 24, .t 25], some (22, true)⟩, ⟨some 27, .pick (.t 22) (.t 26) (.c (.d (.bool false))), none⟩, ⟨some 0, .mv (.t 27), none⟩] [1, 2, 3, 16, 17, 18, 19, 20, 21, 22, 23, 24, 25, 26, 27])
 (.ret [0])))))
def r_law06_awake : List ARes := [.t 0]
def fn_law06_awake : AFn := .code c_law06_awake r_law06_awake 28 true
end Go.Proofs.YtibkpphblgfmbaaGreat
