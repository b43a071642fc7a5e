/-
  Functions of the program, as the calculus has them.
-/
import Derived.Test.YtbkhijigkmhhkaaBa27171e
set_option linter.unusedSimpArgs false
set_option linter.unusedVariables false
namespace Go.Proofs.Ytbkhijigkmhhkaa
open Go Go.Sim
def l_law31_BagScript_0 : ACode :=
 (.seq (.seq (.ops [] [⟨some 20, .mv (.t 6), none⟩, ⟨some 21, .bin .lss (.t 20) (.c (.d (.int .i64 40))), none⟩, ⟨some 22, .mv (.t 21), none⟩, ⟨some 23, .mv (.t 6), some (22, true)⟩, ⟨some 24, .bin .lss (.t 23) (.c (.d (.int .i64 4))), some (22, true)⟩, ⟨some 25, .mv (.t 24), some (22, true)⟩, ⟨some 26, .mv (.t 3), some (25, false)⟩, ⟨some 27, .call N_base_Src_More [] [.t 26], some (25, false)⟩, ⟨some 28, .pick (.t 25) (.c (.d (.bool true))) (.t 27), some (22, true)⟩, ⟨some 29, .pick (.t 22) (.t 28) (.c (.d (.bool false))), none⟩] [20, 21, 22, 23, 24, 25, 26, 27, 28])
 (.cond (.t 29) .skip (.exit 0 [])))
 (.seq (.block 1 (.seq (.ops [] [⟨some 32, .mv (.t 3), none⟩, ⟨some 33, .ld true 4 (.t 4), none⟩, ⟨some 34, .call N_law31_event [true, false] [.t 32, .t 33], none⟩, ⟨some 7, .alloc (.agg [.d (.int .i64 0), .d (.int .i64 0), .d (.int .i64 0), .d (.int .i64 0), .d (.int .i64 0), .d (.int .i64 0), .d (.int .i64 0), .xsl [], .d (.int .i64 0), .d (.int .i64 0)]), none⟩, ⟨none, .st 10 (.t 7) (.t 34), none⟩] [29, 32, 33, 34])
 (.seq (.seq (.draw [] [⟨some 35, .ld true 4 (.t 4), none⟩, ⟨some 36, .ld true 10 (.t 7), none⟩, ⟨some 37, .mv (.t 3), none⟩, ⟨some 38, .call N_base_Src_Range [true, false, false] [.t 37, .c (.d (.int .i64 1)), .c (.d (.int .i64 9))], none⟩, ⟨some 39, .mv (.t 3), none⟩, ⟨some 40, .call N_base_Src_N [true, false] [.t 39, .c (.d (.int .i64 3))], none⟩, ⟨some 41, .mv (.t 3), none⟩, ⟨some 42, .call N_base_Src_N [true, false] [.t 41, .c (.d (.int .i64 3))], none⟩, ⟨some 43, .build [.d (.int .i64 0), .d (.int .i64 0), .d (.int .i64 0), .d (.int .i64 0)] [(0, (1, .t 38)), (1, (1, .t 40)), (2, (1, .t 42))], none⟩, ⟨some 44, .call N_law31_agrees [] [.t 35, .t 36, .t 43], none⟩, ⟨some 45, .un .not (.t 44), none⟩] [[], [0], [0, 1], [0, 1], [0, 1, 2, 3], [0, 1], [0, 1, 2, 3, 4, 5], [0, 1], [0, 1], [], []] [35, 36, 37, 38, 39, 40, 41, 42, 43, 44])
 (.cond (.t 45) (.seq (.ops [] [⟨some 2, .mv (.c (.d (.bool false))), none⟩] [3, 4, 6, 7, 45])
 (.ret [2])) .skip))
 (.seq (.ops [] [⟨some 47, .ld true 4 (.t 4), none⟩, ⟨some 48, .ld true 10 (.t 7), none⟩, ⟨some 49, .call N_bag_Step [] [.t 47, .t 48], none⟩, ⟨some 46, .mv (.t 49), none⟩, ⟨some 50, .ext (.t 46) 0, none⟩, ⟨some 51, .ext (.t 46) 1, none⟩, ⟨some 8, .alloc (.agg [.d (.int .i64 0), .d (.int .i64 0), .d (.int .i64 0), .xsl []]), none⟩, ⟨none, .st 4 (.t 8) (.t 50), none⟩, ⟨some 9, .mv (.t 51), none⟩] [7, 45, 46, 47, 48, 49, 50, 51])
 (.seq (.ops [] [⟨some 52, .mv (.t 9), none⟩, ⟨some 53, .bin .eql (.t 52) (.c (.d (.int .i64 0))), none⟩] [9, 52])
 (.cond (.t 53) (.ops [] [⟨some 54, .ld true 4 (.t 8), none⟩, ⟨none, .st 4 (.t 4) (.t 54), none⟩] [8, 53, 54]) .skip))))))
 (.ops [] [⟨some 30, .mv (.t 6), none⟩, ⟨some 31, .bin .add (.t 30) (.c (.d (.int .i64 1))), none⟩, ⟨some 6, .mv (.t 31), none⟩] [8, 30, 31, 53])))
def c_law31_BagScript : ACode :=
 (.seq (.ops [] [⟨some 2, .mv (.c (.d (.bool false))), none⟩] [2])
 (.seq (.ops [] [⟨some 10, .mv (.t 0), none⟩, ⟨some 11, .call N_base_New [] [.t 10], none⟩, ⟨some 3, .mv (.t 11), none⟩] [0, 10, 11])
 (.seq (.ops [] [⟨some 13, .mv (.t 3), none⟩, ⟨some 14, .call N_base_Src_Range [true, false, false] [.t 13, .c (.d (.int .i64 1)), .c (.d (.int .i64 3))], none⟩, ⟨some 15, .call N_bag_New [] [.t 14, .c (.d (.int .i64 5)), .c (.d (.int .i64 1))], none⟩, ⟨some 12, .mv (.t 15), none⟩, ⟨some 16, .ext (.t 12) 0, none⟩, ⟨some 17, .ext (.t 12) 1, none⟩, ⟨some 4, .alloc (.agg [.d (.int .i64 0), .d (.int .i64 0), .d (.int .i64 0), .xsl []]), none⟩, ⟨none, .st 4 (.t 4) (.t 16), none⟩, ⟨some 5, .mv (.t 17), none⟩] [12, 13, 14, 15, 16, 17])
 (.seq (.seq (.ops [] [⟨some 18, .mv (.t 5), none⟩, ⟨some 19, .bin .neq (.t 18) (.c (.d (.int .i64 0))), none⟩] [5, 18])
 (.cond (.t 19) (.seq (.ops [] [⟨some 2, .mv (.c (.d (.bool false))), none⟩] [3, 4, 19])
 (.ret [2])) .skip))
 (.seq (.seq (.ops [] [⟨some 6, .mv (.c (.d (.int .i64 0))), none⟩] [19])
 (.block 0 (.loop [] l_law31_BagScript_0)))
 (.seq (.ops [] [⟨some 55, .call N_law31_awake [] [], none⟩, ⟨some 2, .mv (.t 55), none⟩] [3, 4, 6, 29, 55])
 (.ret [2])))))))
def r_law31_BagScript : List ARes := [.t 2]
def fn_law31_BagScript : AFn := .code c_law31_BagScript r_law31_BagScript 56 true
def c_base_New : ACode :=
 (.seq (.ops [] [⟨some 2, .mv (.c .undef), none⟩] [2])
 (.seq (.seq (.ops [] [⟨some 3, .mv (.t 0), none⟩, ⟨some 4, .len (.t 3), none⟩, ⟨some 5, .bin .gtr (.t 4) (.c (.d (.int .i64 4000))), none⟩] [3, 4])
 (.cond (.t 5) (.ops [] [⟨some 6, .mv (.t 0), none⟩, ⟨some 7, .slc 1 (.t 6) none (some (.c (.d (.int .i64 4000)))) none, none⟩, ⟨some 0, .mv (.t 7), none⟩] [5, 6, 7]) .skip))
 (.seq (.ops [] [⟨some 8, .mv (.t 0), none⟩, ⟨some 9, .build [.xsl [], .d (.int .i64 0)] [(0, (1, .t 8))], none⟩, ⟨some 10, .box (.t 9), none⟩, ⟨some 2, .mv (.t 10), none⟩] [0, 5, 8, 9, 10])
 (.ret [2]))))
def r_base_New : List ARes := [.t 2]
def fn_base_New : AFn := .code c_base_New r_base_New 11 false
def c_base_Src_Range : ACode :=
 (.seq (.ops [] [⟨some 6, .mv (.c (.d (.int .i64 0))), none⟩] [6])
 (.seq (.ops [] [⟨some 7, .mv (.t 1), none⟩, ⟨some 8, .mv (.t 0), none⟩, ⟨some 9, .mv (.t 2), none⟩, ⟨some 10, .mv (.t 1), none⟩, ⟨some 11, .bin .sub (.t 9) (.t 10), none⟩, ⟨some 12, .bin .add (.t 11) (.c (.d (.int .i64 1))), none⟩, ⟨some 13, .call N_base_Src_N [true, false] [.t 8, .t 12], none⟩, ⟨some 14, .bin .add (.t 7) (.t 13), none⟩, ⟨some 6, .mv (.t 14), none⟩] [0, 1, 2, 7, 8, 9, 10, 11, 12, 13, 14])
 (.ret [6])))
def r_base_Src_Range : List ARes := [.t 6]
def fn_base_Src_Range : AFn := .code c_base_Src_Range r_base_Src_Range 15 true
def c_base_Src_N : ACode :=
 (.seq (.ops [] [⟨some 4, .mv (.c (.d (.int .i64 0))), none⟩] [4])
 (.seq (.seq (.ops [] [⟨some 6, .mv (.t 1), none⟩, ⟨some 7, .bin .lss (.t 6) (.c (.d (.int .i64 1))), none⟩] [6])
 (.cond (.t 7) (.seq (.ops [] [⟨some 4, .mv (.c (.d (.int .i64 0))), none⟩] [0, 1, 7])
 (.ret [4])) .skip))
 (.seq (.ops [] [⟨some 8, .mv (.t 0), none⟩, ⟨some 9, .call N_base_Src_Raw [true] [.t 8], none⟩, ⟨some 10, .mv (.t 1), none⟩, ⟨some 11, .bin .rem (.t 9) (.t 10), none⟩, ⟨some 5, .mv (.t 11), none⟩] [0, 7, 8, 9, 10, 11])
 (.seq (.seq (.ops [] [⟨some 12, .mv (.t 5), none⟩, ⟨some 13, .bin .lss (.t 12) (.c (.d (.int .i64 0))), none⟩] [12])
 (.cond (.t 13) (.ops [] [⟨some 14, .mv (.t 5), none⟩, ⟨some 15, .mv (.t 1), none⟩, ⟨some 16, .bin .add (.t 14) (.t 15), none⟩, ⟨some 5, .mv (.t 16), none⟩] [1, 13, 14, 15, 16]) .skip))
 (.seq (.ops [] [⟨some 17, .mv (.t 5), none⟩, ⟨some 4, .mv (.t 17), none⟩] [1, 5, 13, 17])
 (.ret [4]))))))
def r_base_Src_N : List ARes := [.t 4]
def fn_base_Src_N : AFn := .code c_base_Src_N r_base_Src_N 18 true
def c_base_Src_Raw : ACode :=
 (.seq (.ops [] [⟨some 2, .mv (.c (.d (.int .i64 0))), none⟩] [2])
 (.seq (.seq (.draw [] [⟨some 3, .mv (.t 0), none⟩, ⟨some 4, .nilc (.t 3), none⟩, ⟨some 5, .fad false 1 1 (.t 4), none⟩, ⟨some 6, .ld false 1 (.t 5), none⟩, ⟨some 7, .mv (.t 0), none⟩, ⟨some 8, .nilc (.t 7), none⟩, ⟨some 9, .fad false 0 1 (.t 8), none⟩, ⟨some 10, .ld false 1 (.t 9), none⟩, ⟨some 11, .len (.t 10), none⟩, ⟨some 12, .bin .geq (.t 6) (.t 11), none⟩] [[], [], [], [], [0, 1, 2, 3], [0, 1, 2, 3], [0, 1, 2, 3], [0, 1, 2, 3], [0, 1, 2, 3], []] [3, 4, 5, 6, 7, 8, 9, 10, 11])
 (.cond (.t 12) (.seq (.ops [] [⟨some 2, .mv (.c (.d (.int .i64 0))), none⟩] [0, 12])
 (.ret [2])) .skip))
 (.seq (.ops [] [⟨some 13, .mv (.t 0), none⟩, ⟨some 14, .nilc (.t 13), none⟩, ⟨some 15, .fad false 1 1 (.t 14), none⟩, ⟨some 16, .ld false 1 (.t 15), none⟩, ⟨some 17, .bin .add (.t 16) (.c (.d (.int .i64 1))), none⟩, ⟨some 18, .nilc (.t 13), none⟩, ⟨some 19, .fad false 1 1 (.t 18), none⟩, ⟨none, .st 1 (.t 19) (.t 17), none⟩] [12, 13, 14, 15, 16, 17, 18, 19])
 (.seq (.draw [] [⟨some 20, .mv (.t 0), none⟩, ⟨some 21, .nilc (.t 20), none⟩, ⟨some 22, .fad false 0 1 (.t 21), none⟩, ⟨some 23, .ld false 1 (.t 22), none⟩, ⟨some 24, .mv (.t 0), none⟩, ⟨some 25, .nilc (.t 24), none⟩, ⟨some 26, .fad false 1 1 (.t 25), none⟩, ⟨some 27, .ld false 1 (.t 26), none⟩, ⟨some 28, .bin .sub (.t 27) (.c (.d (.int .i64 1))), none⟩, ⟨some 29, .iad 1 (.t 23) (.t 28), none⟩, ⟨some 30, .ld false 1 (.t 29), none⟩, ⟨some 2, .mv (.t 30), none⟩] [[], [], [], [], [0, 1, 2, 3], [0, 1, 2, 3], [0, 1, 2, 3], [0, 1, 2, 3], [0, 1, 2, 3], [], [], []] [0, 20, 21, 22, 23, 24, 25, 26, 27, 28, 29, 30])
 (.ret [2])))))
def r_base_Src_Raw : List ARes := [.t 2]
def fn_base_Src_Raw : AFn := .code c_base_Src_Raw r_base_Src_Raw 31 true
def c_bag_New : ACode :=
 (.seq (.ops [] [⟨some 6, .alloc (.agg [.d (.int .i64 0), .d (.int .i64 0), .d (.int .i64 0), .xsl []]), none⟩, ⟨some 7, .mv (.c (.d (.int .i64 0))), none⟩] [7])
 (.seq (.seq (.ops [] [⟨some 8, .mv (.t 0), none⟩, ⟨some 9, .call N_bag_in [] [.t 8, .c (.d (.int .i64 1)), .c (.d (.int .i64 8))], none⟩, ⟨some 10, .un .not (.t 9), none⟩, ⟨some 11, .mv (.t 10), none⟩, ⟨some 12, .mv (.t 1), some (11, false)⟩, ⟨some 13, .call N_bag_in [] [.t 12, .c (.d (.int .i64 0)), .c (.d (.int .i64 1073741824))], some (11, false)⟩, ⟨some 14, .un .not (.t 13), some (11, false)⟩, ⟨some 15, .pick (.t 11) (.c (.d (.bool true))) (.t 14), none⟩, ⟨some 16, .mv (.t 15), none⟩, ⟨some 17, .mv (.t 2), some (16, false)⟩, ⟨some 18, .call N_bag_in [] [.t 17, .c (.d (.int .i64 0)), .c (.d (.int .i64 65536))], some (16, false)⟩, ⟨some 19, .un .not (.t 18), some (16, false)⟩, ⟨some 20, .pick (.t 16) (.c (.d (.bool true))) (.t 19), none⟩] [8, 9, 10, 11, 12, 13, 14, 15, 16, 17, 18, 19])
 (.cond (.t 20) (.seq (.ops [] [⟨some 21, .build [.d (.int .i64 0), .d (.int .i64 0), .d (.int .i64 0), .xsl []] [], none⟩, ⟨none, .st 4 (.t 6) (.t 21), none⟩, ⟨some 7, .mv (.c (.d (.int .i64 1))), none⟩] [0, 1, 2, 20, 21])
 (.ret [6, 7])) .skip))
 (.seq (.ops [] [⟨some 22, .mv (.t 0), none⟩, ⟨some 23, .mv (.t 1), none⟩, ⟨some 24, .mv (.t 2), none⟩, ⟨some 25, .build [.d (.int .i64 0), .d (.int .i64 0), .d (.int .i64 0), .xsl []] [(0, (1, .t 22)), (1, (1, .t 23)), (2, (1, .t 24))], none⟩, ⟨none, .st 4 (.t 6) (.t 25), none⟩, ⟨some 7, .mv (.c (.d (.int .i64 0))), none⟩] [0, 1, 2, 20, 22, 23, 24, 25])
 (.ret [6, 7]))))
def r_bag_New : List ARes := [.c 6 true 4, .t 7]
def fn_bag_New : AFn := .code c_bag_New r_bag_New 26 true
def c_bag_in : ACode :=
 (.seq (.ops [] [⟨some 6, .mv (.c (.d (.bool false))), none⟩] [6])
 (.seq (.ops [] [⟨some 7, .mv (.t 1), none⟩, ⟨some 8, .mv (.t 0), none⟩, ⟨some 9, .bin .leq (.t 7) (.t 8), none⟩, ⟨some 10, .mv (.t 9), none⟩, ⟨some 11, .mv (.t 0), some (10, true)⟩, ⟨some 12, .mv (.t 2), some (10, true)⟩, ⟨some 13, .bin .leq (.t 11) (.t 12), some (10, true)⟩, ⟨some 14, .pick (.t 10) (.t 13) (.c (.d (.bool false))), none⟩, ⟨some 6, .mv (.t 14), none⟩] [0, 1, 2, 7, 8, 9, 10, 11, 12, 13, 14])
 (.ret [6])))
def r_bag_in : List ARes := [.t 6]
def fn_bag_in : AFn := .code c_bag_in r_bag_in 15 true
def c_base_Src_More : ACode :=
 (.seq (.ops [] [⟨some 2, .mv (.c (.d (.bool false))), none⟩] [2])
 (.seq (.draw [] [⟨some 3, .mv (.t 0), none⟩, ⟨some 4, .nilc (.t 3), none⟩, ⟨some 5, .fad false 1 1 (.t 4), none⟩, ⟨some 6, .ld false 1 (.t 5), none⟩, ⟨some 7, .mv (.t 0), none⟩, ⟨some 8, .nilc (.t 7), none⟩, ⟨some 9, .fad false 0 1 (.t 8), none⟩, ⟨some 10, .ld false 1 (.t 9), none⟩, ⟨some 11, .len (.t 10), none⟩, ⟨some 12, .bin .lss (.t 6) (.t 11), none⟩, ⟨some 2, .mv (.t 12), none⟩] [[], [], [], [], [0, 1, 2, 3], [0, 1, 2, 3], [0, 1, 2, 3], [0, 1, 2, 3], [0, 1, 2, 3], [], []] [0, 3, 4, 5, 6, 7, 8, 9, 10, 11, 12])
 (.ret [2])))
def r_base_Src_More : List ARes := [.t 2]
def fn_base_Src_More : AFn := .code c_base_Src_More r_base_Src_More 13 true
def c_law31_event : ACode :=
 (.seq (.ops [] [⟨some 3, .box (.t 1), none⟩, ⟨some 4, .alloc (.agg [.d (.int .i64 0), .d (.int .i64 0), .d (.int .i64 0), .d (.int .i64 0), .d (.int .i64 0), .d (.int .i64 0), .d (.int .i64 0), .xsl [], .d (.int .i64 0), .d (.int .i64 0)]), none⟩] [1])
 (.seq (.draw [] [⟨some 9, .mv (.t 0), none⟩, ⟨some 10, .call N_base_Src_Range [true, false, false] [.t 9, .c (.d (.int .i64 1)), .c (.d (.int .i64 10))], none⟩, ⟨some 11, .fad false 1 1 (.t 3), none⟩, ⟨some 12, .ld false 1 (.t 11), none⟩, ⟨some 13, .fad false 2 1 (.t 3), none⟩, ⟨some 14, .ld false 1 (.t 13), none⟩, ⟨some 15, .build [.d (.int .i64 0), .d (.int .i64 0), .d (.int .i64 0), .d (.int .i64 0), .d (.int .i64 0), .d (.int .i64 0), .d (.int .i64 0), .xsl [], .d (.int .i64 0), .d (.int .i64 0)] [(3, (1, .t 10)), (4, (1, .t 12)), (5, (1, .t 14))], none⟩, ⟨some 5, .alloc (.agg [.d (.int .i64 0), .d (.int .i64 0), .d (.int .i64 0), .d (.int .i64 0), .d (.int .i64 0), .d (.int .i64 0), .d (.int .i64 0), .xsl [], .d (.int .i64 0), .d (.int .i64 0)]), none⟩, ⟨none, .st 10 (.t 5) (.t 15), none⟩] [[], [], [0, 1], [0, 1], [0, 1, 2, 3], [0, 1, 2, 3], [], [0, 1, 2, 3, 4, 5, 6], []] [9, 10, 11, 12, 13, 14, 15])
 (.seq (.ops [] [⟨some 6, .alloc (.d (.agg [.int .i64 0, .int .i64 0, .int .i64 0, .int .i64 0, .int .i64 0, .int .i64 0])), none⟩] [])
 (.seq (.seq (.ops [] [⟨some 16, .fad false 3 1 (.t 3), none⟩, ⟨some 17, .ld false 1 (.t 16), none⟩, ⟨some 18, .len (.t 17), none⟩, ⟨some 7, .mv (.t 18), none⟩] [16, 17, 18])
 (.seq (.ops [] [⟨some 19, .mv (.t 7), none⟩, ⟨some 20, .bin .gtr (.t 19) (.c (.d (.int .i64 0))), none⟩] [19])
 (.cond (.t 20) (.draw [] [⟨some 21, .fad false 3 1 (.t 3), none⟩, ⟨some 22, .ld false 1 (.t 21), none⟩, ⟨some 23, .mv (.t 0), none⟩, ⟨some 24, .mv (.t 7), none⟩, ⟨some 25, .call N_base_Src_N [true, false] [.t 23, .t 24], none⟩, ⟨some 26, .iad 6 (.t 22) (.t 25), none⟩, ⟨some 27, .ld true 6 (.t 26), none⟩, ⟨none, .st 6 (.t 6) (.t 27), none⟩] [[], [], [0, 1], [0, 1, 2], [0, 1], [], [], []] [7, 20, 21, 22, 23, 24, 25, 26, 27]) .skip)))
 (.seq (.draw [] [⟨some 28, .fad false 0 1 (.t 6), none⟩, ⟨some 29, .ld false 1 (.t 28), none⟩, ⟨some 30, .fad false 3 1 (.t 6), none⟩, ⟨some 31, .ld false 1 (.t 30), none⟩, ⟨some 32, .fad false 4 1 (.t 6), none⟩, ⟨some 33, .ld false 1 (.t 32), none⟩, ⟨some 34, .fad false 1 1 (.t 3), none⟩, ⟨some 35, .ld false 1 (.t 34), none⟩, ⟨some 36, .mv (.t 0), none⟩, ⟨some 37, .call N_base_Src_N [true, false] [.t 36, .c (.d (.int .i64 10))], none⟩, ⟨some 38, .bin .add (.t 35) (.t 37), none⟩, ⟨some 39, .build [.d (.int .i64 0), .d (.int .i64 0), .d (.int .i64 0), .d (.int .i64 0)] [(0, (1, .t 29)), (1, (1, .t 31)), (2, (1, .t 33)), (3, (1, .t 38))], none⟩, ⟨some 8, .alloc (.d (.agg [.int .i64 0, .int .i64 0, .int .i64 0, .int .i64 0])), none⟩, ⟨none, .st 4 (.t 8) (.t 39), none⟩] [[], [], [0, 1], [0, 1], [0, 1, 2, 3], [0, 1, 2, 3], [0, 1, 2, 3, 4, 5], [0, 1, 2, 3, 4, 5], [0, 1, 2, 3, 4, 5, 6, 7], [0, 1, 2, 3, 4, 5, 6, 7], [0, 1, 2, 3, 4, 5], [], [0, 1, 2, 3, 4, 5, 6, 7, 8, 9, 10, 11], []] [6, 7, 20, 28, 29, 30, 31, 32, 33, 34, 35, 36, 37, 38, 39])
 (.seq (.seq (.ops [] [⟨some 40, .fad false 3 1 (.t 5), none⟩, ⟨some 41, .ld false 1 (.t 40), none⟩] [40])
 (.block 0 (.seq (.ops [] [⟨some 46, .bin .eql (.t 41) (.c (.d (.int .i64 1))), none⟩, ⟨some 45, .mv (.t 46), none⟩] [46])
 (.cond (.t 45) (.draw [] [⟨some 47, .fad false 4 1 (.t 5), none⟩, ⟨some 48, .ld false 1 (.t 47), none⟩, ⟨some 49, .mv (.t 0), none⟩, ⟨some 50, .call N_base_Src_Range [true, false, false] [.t 49, .c (.d (.int .i64 0)), .c (.d (.int .i64 6))], none⟩, ⟨some 51, .bin .add (.t 48) (.t 50), none⟩, ⟨some 52, .fad false 4 1 (.t 5), none⟩, ⟨none, .st 1 (.t 52) (.t 51), none⟩] [[], [], [0, 1], [0, 1], [], [], []] [3, 41, 45, 47, 48, 49, 50, 51, 52]) (.seq (.ops [] [⟨some 54, .bin .eql (.t 41) (.c (.d (.int .i64 2))), none⟩, ⟨some 53, .mv (.t 54), none⟩] [45, 54])
 (.cond (.t 53) (.ops [] [⟨some 55, .mv (.t 0), none⟩, ⟨some 56, .call N_base_Src_Range [true, false, false] [.t 55, .c (.d (.int .i64 1)), .c (.d (.int .i64 9))], none⟩, ⟨some 57, .mv (.t 0), none⟩, ⟨some 58, .call N_base_Src_N [true, false] [.t 57, .c (.d (.int .i64 4))], none⟩, ⟨some 59, .build [.d (.int .i64 0), .d (.int .i64 0), .d (.int .i64 0), .d (.int .i64 0)] [(0, (1, .t 56)), (2, (1, .t 58))], none⟩, ⟨some 60, .bsl 1 4 (.d (.agg [.int .i64 0, .int .i64 0, .int .i64 0, .int .i64 0])) [(0, .t 59)], none⟩, ⟨some 61, .fad false 7 1 (.t 5), none⟩, ⟨none, .st 1 (.t 61) (.t 60), none⟩] [3, 41, 53, 55, 56, 57, 58, 59, 60, 61]) (.seq (.ops [] [⟨some 63, .bin .eql (.t 41) (.c (.d (.int .i64 3))), none⟩, ⟨some 62, .mv (.t 63), none⟩] [53, 63])
 (.cond (.t 62) (.seq (.ops [] [⟨some 64, .fad false 1 1 (.t 8), none⟩, ⟨some 65, .ld false 1 (.t 64), none⟩, ⟨some 66, .bin .add (.t 65) (.c (.d (.int .i64 1))), none⟩, ⟨some 67, .fad false 1 1 (.t 8), none⟩, ⟨none, .st 1 (.t 67) (.t 66), none⟩] [3, 41, 62, 64, 65, 66, 67])
 (.ops [] [⟨some 68, .ld true 4 (.t 8), none⟩, ⟨some 69, .bsl 1 4 (.d (.agg [.int .i64 0, .int .i64 0, .int .i64 0, .int .i64 0])) [(0, .t 68)], none⟩, ⟨some 70, .fad false 7 1 (.t 5), none⟩, ⟨none, .st 1 (.t 70) (.t 69), none⟩] [68, 69, 70])) (.seq (.ops [] [⟨some 72, .bin .eql (.t 41) (.c (.d (.int .i64 7))), none⟩, ⟨some 71, .mv (.t 72), none⟩] [62, 72])
 (.cond (.t 71) (.seq (.ops [] [⟨some 73, .fad false 5 1 (.t 5), none⟩, ⟨some 74, .ld false 1 (.t 73), none⟩, ⟨some 75, .bin .add (.t 74) (.c (.d (.int .i64 1))), none⟩, ⟨some 76, .fad false 5 1 (.t 5), none⟩, ⟨none, .st 1 (.t 76) (.t 75), none⟩] [41, 71, 73, 74, 75, 76])
 (.seq (.ops [] [⟨some 77, .mv (.t 0), none⟩, ⟨some 78, .call N_base_Src_N [true, false] [.t 77, .c (.d (.int .i64 3))], none⟩, ⟨some 79, .bin .gtr (.t 78) (.c (.d (.int .i64 0))), none⟩] [77, 78])
 (.cond (.t 79) (.draw [] [⟨some 80, .fad false 2 1 (.t 3), none⟩, ⟨some 81, .ld false 1 (.t 80), none⟩, ⟨some 82, .fad false 3 1 (.t 5), none⟩, ⟨none, .st 1 (.t 82) (.c (.d (.int .i64 1))), none⟩, ⟨some 83, .fad false 5 1 (.t 5), none⟩, ⟨none, .st 1 (.t 83) (.t 81), none⟩] [[], [], [0, 1], [0, 1], [], []] [3, 79, 80, 81, 82, 83]) .skip))) (.seq (.ops [] [⟨some 85, .bin .eql (.t 41) (.c (.d (.int .i64 8))), none⟩, ⟨some 84, .mv (.t 85), none⟩] [41, 71, 85])
 (.cond (.t 84) (.ops [] [⟨some 87, .ld true 4 (.t 3), none⟩, ⟨some 88, .call N_ref31_Counts [] [.t 87], none⟩, ⟨some 86, .mv (.t 88), none⟩, ⟨some 89, .ext (.t 86) 0, none⟩, ⟨some 90, .ext (.t 86) 1, none⟩, ⟨some 91, .fad false 8 1 (.t 5), none⟩, ⟨none, .st 1 (.t 91) (.t 89), none⟩, ⟨some 92, .fad false 9 1 (.t 5), none⟩, ⟨none, .st 1 (.t 92) (.t 90), none⟩] [3, 84, 86, 87, 88, 89, 90, 91, 92]) (.ops [] [⟨some 42, .ld true 4 (.t 8), none⟩, ⟨some 43, .bsl 1 4 (.d (.agg [.int .i64 0, .int .i64 0, .int .i64 0, .int .i64 0])) [(0, .t 42)], none⟩, ⟨some 44, .fad false 7 1 (.t 5), none⟩, ⟨none, .st 1 (.t 44) (.t 43), none⟩] [3, 42, 43, 44, 84])))))))))))))
 (.seq (.seq (.ops [] [⟨some 93, .mv (.t 0), none⟩, ⟨some 94, .call N_base_Src_N [true, false] [.t 93, .c (.d (.int .i64 14))], none⟩] [3, 79, 93])
 (.block 1 (.seq (.ops [] [⟨some 96, .bin .eql (.t 94) (.c (.d (.int .i64 0))), none⟩, ⟨some 95, .mv (.t 96), none⟩] [96])
 (.cond (.t 95) (.ops [] [⟨some 97, .mv (.t 0), none⟩, ⟨some 98, .bsl 4 1 (.d (.int .i64 0)) [(0, .c (.d (.int .i64 5))), (1, .c (.d (.int .i64 3))), (2, .c (.d (.int .i64 6))), (3, .c (.d (.int .i64 7)))], none⟩, ⟨some 99, .call N_base_Src_Pick [true, false] [.t 97, .t 98], none⟩, ⟨some 100, .fad false 6 1 (.t 5), none⟩, ⟨none, .st 1 (.t 100) (.t 99), none⟩] [0, 8, 94, 95, 97, 98, 99, 100]) (.seq (.ops [] [⟨some 102, .bin .eql (.t 94) (.c (.d (.int .i64 1))), none⟩, ⟨some 101, .mv (.t 102), none⟩] [95, 102])
 (.cond (.t 101) (.draw [] [⟨some 103, .fad false 4 1 (.t 5), none⟩, ⟨some 104, .ld false 1 (.t 103), none⟩, ⟨some 105, .mv (.t 0), none⟩, ⟨some 106, .call N_base_Src_Range [true, false, false] [.t 105, .c (.d (.int .i64 (-1))), .c (.d (.int .i64 1))], none⟩, ⟨some 107, .bin .add (.t 104) (.t 106), none⟩, ⟨some 108, .fad false 4 1 (.t 5), none⟩, ⟨none, .st 1 (.t 108) (.t 107), none⟩] [[], [], [0, 1], [0, 1], [], [], []] [0, 8, 94, 101, 103, 104, 105, 106, 107, 108]) (.seq (.ops [] [⟨some 110, .bin .eql (.t 94) (.c (.d (.int .i64 2))), none⟩, ⟨some 109, .mv (.t 110), none⟩] [101, 110])
 (.cond (.t 109) (.draw [] [⟨some 111, .fad false 5 1 (.t 5), none⟩, ⟨some 112, .ld false 1 (.t 111), none⟩, ⟨some 113, .mv (.t 0), none⟩, ⟨some 114, .call N_base_Src_Range [true, false, false] [.t 113, .c (.d (.int .i64 (-1))), .c (.d (.int .i64 1))], none⟩, ⟨some 115, .bin .add (.t 112) (.t 114), none⟩, ⟨some 116, .fad false 5 1 (.t 5), none⟩, ⟨none, .st 1 (.t 116) (.t 115), none⟩] [[], [], [0, 1], [0, 1], [], [], []] [0, 8, 94, 109, 111, 112, 113, 114, 115, 116]) (.seq (.ops [] [⟨some 118, .bin .eql (.t 94) (.c (.d (.int .i64 3))), none⟩, ⟨some 117, .mv (.t 118), none⟩] [0, 109, 118])
 (.cond (.t 117) (.ops [] [⟨some 119, .fad false 7 1 (.t 5), none⟩, ⟨some 120, .ld false 1 (.t 119), none⟩, ⟨some 121, .ld true 4 (.t 8), none⟩, ⟨some 122, .bsl 1 4 (.d (.agg [.int .i64 0, .int .i64 0, .int .i64 0, .int .i64 0])) [(0, .t 121)], none⟩, ⟨some 123, .app 4 (.t 120) (.t 122), none⟩, ⟨some 124, .fad false 7 1 (.t 5), none⟩, ⟨none, .st 1 (.t 124) (.t 123), none⟩] [8, 94, 117, 119, 120, 121, 122, 123, 124]) (.seq (.ops [] [⟨some 126, .bin .eql (.t 94) (.c (.d (.int .i64 4))), none⟩, ⟨some 125, .mv (.t 126), none⟩] [8, 117, 126])
 (.cond (.t 125) (.ops [] [⟨some 127, .fad false 7 1 (.t 5), none⟩, ⟨none, .st 1 (.t 127) (.c (.xsl [])), none⟩] [94, 125, 127]) (.seq (.ops [] [⟨some 129, .bin .eql (.t 94) (.c (.d (.int .i64 5))), none⟩, ⟨some 128, .mv (.t 129), none⟩] [94, 125, 129])
 (.cond (.t 128) (.ops [] [⟨some 130, .fad false 8 1 (.t 5), none⟩, ⟨some 131, .ld false 1 (.t 130), none⟩, ⟨some 132, .bin .add (.t 131) (.c (.d (.int .i64 1))), none⟩, ⟨some 133, .fad false 8 1 (.t 5), none⟩, ⟨none, .st 1 (.t 133) (.t 132), none⟩] [128, 130, 131, 132, 133]) .skip))))))))))))))
 (.seq (.ops [] [⟨some 134, .ld true 10 (.t 5), none⟩, ⟨none, .st 10 (.t 4) (.t 134), none⟩] [5, 128, 134])
 (.ret [4])))))))))
def r_law31_event : List ARes := [.c 4 true 10]
def fn_law31_event : AFn := .code c_law31_event r_law31_event 135 true
def l_ref31_Counts_0 : ACode :=
 (.seq (.seq (.ops [] [⟨some 7, .mv (.t 6), none⟩, ⟨some 8, .fad false 3 1 (.t 1), none⟩, ⟨some 9, .ld false 1 (.t 8), none⟩, ⟨some 10, .len (.t 9), none⟩, ⟨some 11, .bin .lss (.t 7) (.t 10), none⟩] [7, 8, 9, 10])
 (.cond (.t 11) .skip (.exit 0 [4, 5])))
 (.seq (.block 1 (.seq (.seq (.ops [] [⟨some 14, .fad false 3 1 (.t 1), none⟩, ⟨some 15, .ld false 1 (.t 14), none⟩, ⟨some 16, .mv (.t 6), none⟩, ⟨some 17, .iad 6 (.t 15) (.t 16), none⟩, ⟨some 18, .fad false 1 1 (.t 17), none⟩, ⟨some 19, .ld false 1 (.t 18), none⟩, ⟨some 20, .bin .eql (.t 19) (.c (.d (.int .i64 1))), none⟩] [11, 14, 15, 16, 17, 18, 19])
 (.cond (.t 20) (.ops [] [⟨some 21, .mv (.t 4), none⟩, ⟨some 22, .bin .add (.t 21) (.c (.d (.int .i64 1))), none⟩, ⟨some 4, .mv (.t 22), none⟩] [20, 21, 22]) .skip))
 (.seq (.ops [] [⟨some 23, .fad false 3 1 (.t 1), none⟩, ⟨some 24, .ld false 1 (.t 23), none⟩, ⟨some 25, .mv (.t 6), none⟩, ⟨some 26, .iad 6 (.t 24) (.t 25), none⟩, ⟨some 27, .fad false 1 1 (.t 26), none⟩, ⟨some 28, .ld false 1 (.t 27), none⟩, ⟨some 29, .bin .eql (.t 28) (.c (.d (.int .i64 2))), none⟩] [20, 23, 24, 25, 26, 27, 28])
 (.cond (.t 29) (.ops [] [⟨some 30, .mv (.t 5), none⟩, ⟨some 31, .bin .add (.t 30) (.c (.d (.int .i64 1))), none⟩, ⟨some 5, .mv (.t 31), none⟩] [29, 30, 31]) .skip))))
 (.ops [] [⟨some 12, .mv (.t 6), none⟩, ⟨some 13, .bin .add (.t 12) (.c (.d (.int .i64 1))), none⟩, ⟨some 6, .mv (.t 13), none⟩] [12, 13, 29])))
def c_ref31_Counts : ACode :=
 (.seq (.ops [] [⟨some 1, .box (.t 0), none⟩, ⟨some 2, .mv (.c (.d (.int .i64 0))), none⟩, ⟨some 3, .mv (.c (.d (.int .i64 0))), none⟩] [0, 2, 3])
 (.seq (.ops [] [⟨some 4, .mv (.c (.d (.int .i64 0))), none⟩, ⟨some 5, .mv (.c (.d (.int .i64 0))), none⟩] [])
 (.seq (.seq (.ops [] [⟨some 6, .mv (.c (.d (.int .i64 0))), none⟩] [])
 (.block 0 (.loop [] l_ref31_Counts_0)))
 (.seq (.ops [] [⟨some 32, .mv (.t 4), none⟩, ⟨some 33, .mv (.t 5), none⟩, ⟨some 2, .mv (.t 32), none⟩, ⟨some 3, .mv (.t 33), none⟩] [1, 4, 5, 6, 11, 32, 33])
 (.ret [2, 3])))))
def r_ref31_Counts : List ARes := [.t 2, .t 3]
def fn_ref31_Counts : AFn := .code c_ref31_Counts r_ref31_Counts 34 true
def c_base_Src_Pick : ACode :=
 (.seq (.ops [] [⟨some 4, .mv (.c (.d (.int .i64 0))), none⟩] [4])
 (.seq (.ops [] [⟨some 5, .mv (.t 1), none⟩, ⟨some 6, .mv (.t 0), none⟩, ⟨some 7, .mv (.t 1), none⟩, ⟨some 8, .len (.t 7), none⟩, ⟨some 9, .call N_base_Src_N [true, false] [.t 6, .t 8], none⟩, ⟨some 10, .iad 1 (.t 5) (.t 9), none⟩, ⟨some 11, .ld false 1 (.t 10), none⟩, ⟨some 4, .mv (.t 11), none⟩] [0, 1, 5, 6, 7, 8, 9, 10, 11])
 (.ret [4])))
def r_base_Src_Pick : List ARes := [.t 4]
def fn_base_Src_Pick : AFn := .code c_base_Src_Pick r_base_Src_Pick 12 true
def c_law31_agrees : ACode :=
 (.seq (.ops [] [⟨some 3, .box (.t 0), none⟩, ⟨some 4, .box (.t 1), none⟩, ⟨some 5, .box (.t 2), none⟩, ⟨some 6, .mv (.c (.d (.bool false))), none⟩] [0, 1, 2, 6])
 (.seq (.ops [] [⟨some 20, .ld true 4 (.t 3), none⟩, ⟨some 21, .ld true 10 (.t 4), none⟩, ⟨some 22, .call N_bag_Step [] [.t 20, .t 21], none⟩, ⟨some 19, .mv (.t 22), none⟩, ⟨some 23, .ext (.t 19) 0, none⟩, ⟨some 24, .ext (.t 19) 1, none⟩, ⟨some 7, .alloc (.agg [.d (.int .i64 0), .d (.int .i64 0), .d (.int .i64 0), .xsl []]), none⟩, ⟨none, .st 4 (.t 7) (.t 23), none⟩, ⟨some 8, .mv (.t 24), none⟩] [19, 20, 21, 22, 23, 24])
 (.seq (.ops [] [⟨some 26, .ld true 4 (.t 3), none⟩, ⟨some 27, .ld true 10 (.t 4), none⟩, ⟨some 28, .call N_ref31_Step [] [.t 26, .t 27], none⟩, ⟨some 25, .mv (.t 28), none⟩, ⟨some 29, .ext (.t 25) 0, none⟩, ⟨some 30, .ext (.t 25) 1, none⟩, ⟨some 9, .alloc (.agg [.d (.int .i64 0), .d (.int .i64 0), .d (.int .i64 0), .xsl []]), none⟩, ⟨none, .st 4 (.t 9) (.t 29), none⟩, ⟨some 10, .mv (.t 30), none⟩] [4, 25, 26, 27, 28, 29, 30])
 (.seq (.ops [] [⟨some 32, .ld true 4 (.t 3), none⟩, ⟨some 33, .fad false 0 1 (.t 5), none⟩, ⟨some 34, .ld false 1 (.t 33), none⟩, ⟨some 35, .call N_bag_Find [] [.t 32, .t 34], none⟩, ⟨some 31, .mv (.t 35), none⟩, ⟨some 36, .ext (.t 31) 0, none⟩, ⟨some 37, .ext (.t 31) 1, none⟩, ⟨some 11, .alloc (.d (.agg [.int .i64 0, .int .i64 0, .int .i64 0, .int .i64 0, .int .i64 0, .int .i64 0])), none⟩, ⟨none, .st 6 (.t 11) (.t 36), none⟩, ⟨some 12, .mv (.t 37), none⟩] [31, 32, 33, 34, 35, 36, 37])
 (.seq (.ops [] [⟨some 39, .ld true 4 (.t 3), none⟩, ⟨some 40, .fad false 0 1 (.t 5), none⟩, ⟨some 41, .ld false 1 (.t 40), none⟩, ⟨some 42, .call N_ref31_Find [] [.t 39, .t 41], none⟩, ⟨some 38, .mv (.t 42), none⟩, ⟨some 43, .ext (.t 38) 0, none⟩, ⟨some 44, .ext (.t 38) 1, none⟩, ⟨some 13, .alloc (.d (.agg [.int .i64 0, .int .i64 0, .int .i64 0, .int .i64 0, .int .i64 0, .int .i64 0])), none⟩, ⟨none, .st 6 (.t 13) (.t 43), none⟩, ⟨some 14, .mv (.t 44), none⟩] [38, 39, 40, 41, 42, 43, 44])
 (.seq (.ops [] [⟨some 46, .ld true 4 (.t 3), none⟩, ⟨some 47, .call N_bag_Counts [] [.t 46], none⟩, ⟨some 45, .mv (.t 47), none⟩, ⟨some 48, .ext (.t 45) 0, none⟩, ⟨some 49, .ext (.t 45) 1, none⟩, ⟨some 15, .mv (.t 48), none⟩, ⟨some 16, .mv (.t 49), none⟩] [45, 46, 47, 48, 49])
 (.seq (.ops [] [⟨some 51, .ld true 4 (.t 3), none⟩, ⟨some 52, .call N_ref31_Counts [] [.t 51], none⟩, ⟨some 50, .mv (.t 52), none⟩, ⟨some 53, .ext (.t 50) 0, none⟩, ⟨some 54, .ext (.t 50) 1, none⟩, ⟨some 17, .mv (.t 53), none⟩, ⟨some 18, .mv (.t 54), none⟩] [50, 51, 52, 53, 54])
 (.seq (.draw [] [⟨some 55, .mv (.t 8), none⟩, ⟨some 56, .mv (.t 10), none⟩, ⟨some 57, .bin .eql (.t 55) (.t 56), none⟩, ⟨some 58, .mv (.t 57), none⟩, ⟨some 59, .ld true 4 (.t 7), some (58, true)⟩, ⟨some 60, .ld true 4 (.t 9), some (58, true)⟩, ⟨some 61, .call N_ref31_Same [] [.t 59, .t 60], some (58, true)⟩, ⟨some 62, .pick (.t 58) (.t 61) (.c (.d (.bool false))), none⟩, ⟨some 63, .mv (.t 62), none⟩, ⟨some 64, .ld true 6 (.t 11), some (63, true)⟩, ⟨some 65, .ld true 6 (.t 13), some (63, true)⟩, ⟨some 66, .eqs false 6 [(0, 0), (1, 0), (2, 0), (3, 0), (4, 0), (5, 0)] (.t 64) (.t 65), some (63, true)⟩, ⟨some 67, .pick (.t 63) (.t 66) (.c (.d (.bool false))), none⟩, ⟨some 68, .mv (.t 67), none⟩, ⟨some 69, .mv (.t 12), some (68, true)⟩, ⟨some 70, .mv (.t 14), some (68, true)⟩, ⟨some 71, .eqb false (.t 69) (.t 70), some (68, true)⟩, ⟨some 72, .pick (.t 68) (.t 71) (.c (.d (.bool false))), none⟩, ⟨some 73, .mv (.t 72), none⟩, ⟨some 74, .mv (.t 15), some (73, true)⟩, ⟨some 75, .mv (.t 17), some (73, true)⟩, ⟨some 76, .bin .eql (.t 74) (.t 75), some (73, true)⟩, ⟨some 77, .pick (.t 73) (.t 76) (.c (.d (.bool false))), none⟩, ⟨some 78, .mv (.t 77), none⟩, ⟨some 79, .mv (.t 16), some (78, true)⟩, ⟨some 80, .mv (.t 18), some (78, true)⟩, ⟨some 81, .bin .eql (.t 79) (.t 80), some (78, true)⟩, ⟨some 82, .pick (.t 78) (.t 81) (.c (.d (.bool false))), none⟩, ⟨some 83, .mv (.t 82), none⟩, ⟨some 84, .ld true 4 (.t 3), some (83, true)⟩, ⟨some 85, .ld true 4 (.t 5), some (83, true)⟩, ⟨some 86, .call N_bag_Valid [] [.t 84, .t 85], some (83, true)⟩, ⟨some 87, .ld true 4 (.t 3), some (83, true)⟩, ⟨some 88, .ld true 4 (.t 5), some (83, true)⟩, ⟨some 89, .call N_ref31_Valid [] [.t 87, .t 88], some (83, true)⟩, ⟨some 90, .eqb false (.t 86) (.t 89), some (83, true)⟩, ⟨some 91, .pick (.t 83) (.t 90) (.c (.d (.bool false))), none⟩, ⟨some 6, .mv (.t 91), none⟩] [[], [0], [], [], [], [4], [], [], [], [], [9], [], [], [], [], [14], [], [], [], [], [19], [], [], [], [], [24], [], [], [], [], [29], [], [29, 30, 31], [29, 30, 31, 32], [], [], [], []] [3, 5, 7, 8, 9, 10, 11, 12, 13, 14, 15, 16, 17, 18, 55, 56, 57, 58, 59, 60, 61, 62, 63, 64, 65, 66, 67, 68, 69, 70, 71, 72, 73, 74, 75, 76, 77, 78, 79, 80, 81, 82, 83, 84, 85, 86, 87, 88, 89, 90, 91])
 (.ret [6])))))))))
def r_law31_agrees : List ARes := [.t 6]
def fn_law31_agrees : AFn := .code c_law31_agrees r_law31_agrees 92 true
def c_bag_Step : ACode :=
 (.seq (.ops [] [⟨some 2, .box (.t 0), none⟩, ⟨some 3, .box (.t 1), none⟩, ⟨some 4, .alloc (.agg [.d (.int .i64 0), .d (.int .i64 0), .d (.int .i64 0), .xsl []]), none⟩, ⟨some 5, .mv (.c (.d (.int .i64 0))), none⟩] [0, 1, 5])
 (.seq (.seq (.ops [] [⟨some 8, .fad false 3 1 (.t 3), none⟩, ⟨some 9, .ld false 1 (.t 8), none⟩, ⟨some 10, .call N_bag_in [] [.t 9, .c (.d (.int .i64 1)), .c (.d (.int .i64 10))], none⟩, ⟨some 11, .un .not (.t 10), none⟩] [8, 9, 10])
 (.cond (.t 11) (.seq (.ops [] [⟨some 12, .build [.d (.int .i64 0), .d (.int .i64 0), .d (.int .i64 0), .xsl []] [], none⟩, ⟨none, .st 4 (.t 4) (.t 12), none⟩, ⟨some 5, .mv (.c (.d (.int .i64 9))), none⟩] [2, 3, 11, 12])
 (.ret [4, 5])) .skip))
 (.seq (.ops [] [⟨some 14, .ld true 10 (.t 3), none⟩, ⟨some 15, .call N_bag_timed [] [.t 14], none⟩, ⟨some 13, .mv (.t 15), none⟩, ⟨some 16, .ext (.t 13) 0, none⟩, ⟨some 17, .ext (.t 13) 1, none⟩, ⟨some 6, .mv (.t 16), none⟩, ⟨some 7, .mv (.t 17), none⟩] [11, 13, 14, 15, 16, 17])
 (.seq (.seq (.ops [] [⟨some 18, .mv (.t 6), none⟩, ⟨some 19, .mv (.t 18), none⟩, ⟨some 20, .fad false 5 1 (.t 3), some (19, true)⟩, ⟨some 21, .ld false 1 (.t 20), some (19, true)⟩, ⟨some 22, .fad false 2 1 (.t 2), some (19, true)⟩, ⟨some 23, .ld false 1 (.t 22), some (19, true)⟩, ⟨some 24, .bin .neq (.t 21) (.t 23), some (19, true)⟩, ⟨some 25, .pick (.t 19) (.t 24) (.c (.d (.bool false))), none⟩, ⟨some 26, .mv (.t 25), none⟩, ⟨some 27, .mv (.t 7), some (26, false)⟩, ⟨some 28, .mv (.t 27), some (26, false)⟩, ⟨some 29, .fad false 4 1 (.t 3), some (28, true)⟩, ⟨some 30, .ld false 1 (.t 29), some (28, true)⟩, ⟨some 31, .fad false 1 1 (.t 2), some (28, true)⟩, ⟨some 32, .ld false 1 (.t 31), some (28, true)⟩, ⟨some 33, .bin .neq (.t 30) (.t 32), some (28, true)⟩, ⟨some 34, .pick (.t 28) (.t 33) (.c (.d (.bool false))), some (26, false)⟩, ⟨some 35, .pick (.t 26) (.c (.d (.bool true))) (.t 34), none⟩] [6, 7, 18, 19, 20, 21, 22, 23, 24, 25, 26, 27, 28, 29, 30, 31, 32, 33, 34])
 (.cond (.t 35) (.seq (.ops [] [⟨some 36, .build [.d (.int .i64 0), .d (.int .i64 0), .d (.int .i64 0), .xsl []] [], none⟩, ⟨none, .st 4 (.t 4) (.t 36), none⟩, ⟨some 5, .mv (.c (.d (.int .i64 7))), none⟩] [2, 3, 35, 36])
 (.ret [4, 5])) .skip))
 (.seq (.ops [] [⟨some 37, .fad false 3 1 (.t 2), none⟩, ⟨some 38, .ld false 1 (.t 37), none⟩, ⟨some 39, .call N_slices_Clone_api_Item [] [.t 38], none⟩, ⟨some 40, .fad false 3 1 (.t 2), none⟩, ⟨none, .st 1 (.t 40) (.t 39), none⟩] [35, 37, 38, 39, 40])
 (.seq (.seq (.ops [78] [⟨some 41, .ld true 10 (.t 3), none⟩, ⟨some 42, .call N_bag_carry [true, false] [.t 2, .t 41], none⟩, ⟨some 43, .un .not (.t 42), none⟩] [3, 41, 42])
 (.cond (.t 43) (.seq (.ops [] [⟨some 44, .build [.d (.int .i64 0), .d (.int .i64 0), .d (.int .i64 0), .xsl []] [], none⟩, ⟨none, .st 4 (.t 4) (.t 44), none⟩, ⟨some 5, .mv (.c (.d (.int .i64 7))), none⟩] [2, 43, 44])
 (.ret [4, 5])) .skip))
 (.seq (.ops [] [⟨some 45, .ld true 4 (.t 2), none⟩, ⟨none, .st 4 (.t 4) (.t 45), none⟩, ⟨some 5, .mv (.c (.d (.int .i64 0))), none⟩] [2, 43, 45])
 (.ret [4, 5]))))))))
def r_bag_Step : List ARes := [.c 4 true 4, .t 5]
def fn_bag_Step : AFn := .code c_bag_Step r_bag_Step 46 true
def c_bag_timed : ACode :=
 (.seq (.ops [] [⟨some 1, .box (.t 0), none⟩, ⟨some 2, .mv (.c (.d (.bool false))), none⟩, ⟨some 3, .mv (.c (.d (.bool false))), none⟩] [0, 2, 3])
 (.seq (.seq (.ops [] [⟨some 4, .fad false 3 1 (.t 1), none⟩, ⟨some 5, .ld false 1 (.t 4), none⟩] [4])
 (.block 0 (.seq (.seq (.ops [] [⟨some 7, .bin .eql (.t 5) (.c (.d (.int .i64 1))), none⟩, ⟨some 6, .mv (.t 7), none⟩] [7])
 (.cond (.t 6) .skip (.ops [] [⟨some 8, .bin .eql (.t 5) (.c (.d (.int .i64 7))), none⟩, ⟨some 6, .mv (.t 8), none⟩] [8])))
 (.cond (.t 6) (.seq (.ops [] [⟨some 2, .mv (.c (.d (.bool false))), none⟩, ⟨some 3, .mv (.c (.d (.bool false))), none⟩] [1, 5, 6])
 (.ret [2, 3])) (.seq (.ops [] [⟨some 10, .bin .eql (.t 5) (.c (.d (.int .i64 2))), none⟩, ⟨some 9, .mv (.t 10), none⟩] [6, 10])
 (.cond (.t 9) (.seq (.ops [] [⟨some 11, .fad false 6 1 (.t 1), none⟩, ⟨some 12, .ld false 1 (.t 11), none⟩, ⟨some 13, .bin .eql (.t 12) (.c (.d (.int .i64 6))), none⟩] [5, 9, 11, 12])
 (.cond (.t 13) (.seq (.ops [] [⟨some 2, .mv (.c (.d (.bool false))), none⟩, ⟨some 3, .mv (.c (.d (.bool false))), none⟩] [1, 13])
 (.ret [2, 3])) .skip)) (.seq (.seq (.ops [] [⟨some 15, .bin .eql (.t 5) (.c (.d (.int .i64 4))), none⟩, ⟨some 14, .mv (.t 15), none⟩] [9, 15])
 (.cond (.t 14) .skip (.seq (.ops [] [⟨some 16, .bin .eql (.t 5) (.c (.d (.int .i64 5))), none⟩, ⟨some 14, .mv (.t 16), none⟩] [16])
 (.cond (.t 14) .skip (.ops [] [⟨some 17, .bin .eql (.t 5) (.c (.d (.int .i64 6))), none⟩, ⟨some 14, .mv (.t 17), none⟩] [5, 17])))))
 (.cond (.t 14) (.seq (.ops [] [⟨some 18, .fad false 7 1 (.t 1), none⟩, ⟨some 19, .ld false 1 (.t 18), none⟩, ⟨some 20, .len (.t 19), none⟩, ⟨some 21, .bin .eql (.t 20) (.c (.d (.int .i64 0))), none⟩] [5, 14, 18, 19, 20])
 (.cond (.t 21) (.seq (.ops [] [⟨some 2, .mv (.c (.d (.bool false))), none⟩, ⟨some 3, .mv (.c (.d (.bool false))), none⟩] [1, 21])
 (.ret [2, 3])) .skip)) .skip))))))))
 (.seq (.draw [] [⟨some 22, .fad false 3 1 (.t 1), none⟩, ⟨some 23, .ld false 1 (.t 22), none⟩, ⟨some 24, .bin .neq (.t 23) (.c (.d (.int .i64 8))), none⟩, ⟨some 2, .mv (.c (.d (.bool true))), none⟩, ⟨some 3, .mv (.t 24), none⟩] [[], [], [], [0, 1, 2], []] [1, 5, 13, 14, 21, 22, 23, 24])
 (.ret [2, 3]))))
def r_bag_timed : List ARes := [.t 2, .t 3]
def fn_bag_timed : AFn := .code c_bag_timed r_bag_timed 25 true
def c_slices_Clone_api_Item : ACode :=
 (.seq (.ops [] [⟨some 2, .nacc, none⟩] [2])
 (.seq (.seq (.ops [] [⟨some 3, .mv (.t 0), none⟩, ⟨some 4, .nileq false (.t 3), none⟩] [3])
 (.cond (.t 4) (.seq (.ops [] [⟨some 2, .nacc, none⟩] [0, 4])
 (.ret [2])) .skip))
 (.seq (.ops [] [⟨some 5, .bsl 0 6 (.d (.agg [.int .i64 0, .int .i64 0, .int .i64 0, .int .i64 0, .int .i64 0, .int .i64 0])) [], none⟩, ⟨some 6, .mv (.t 0), none⟩, ⟨some 7, .app 6 (.t 5) (.t 6), none⟩, ⟨some 2, .mv (.t 7), none⟩] [0, 4, 5, 6, 7])
 (.ret [2]))))
def r_slices_Clone_api_Item : List ARes := [.t 2]
def fn_slices_Clone_api_Item : AFn := .nils c_slices_Clone_api_Item r_slices_Clone_api_Item 8
def c_bag_carry : ACode :=
 (.seq (.ops [] [⟨some 3, .box (.t 1), none⟩, ⟨some 4, .mv (.c (.d (.bool false))), none⟩] [1, 4])
 (.seq (.seq (.ops [] [⟨some 7, .fad false 3 1 (.t 3), none⟩, ⟨some 8, .ld false 1 (.t 7), none⟩] [7])
 (.block 0 (.seq (.ops [] [⟨some 10, .bin .eql (.t 8) (.c (.d (.int .i64 1))), none⟩, ⟨some 9, .mv (.t 10), none⟩] [10])
 (.cond (.t 9) (.seq (.ops [] [⟨some 11, .mv (.t 0), none⟩, ⟨some 12, .ld true 10 (.t 3), none⟩, ⟨some 13, .call N_bag_tick [true, false] [.t 11, .t 12], none⟩, ⟨some 4, .mv (.t 13), none⟩] [0, 3, 8, 9, 11, 12, 13])
 (.ret [4])) (.seq (.ops [] [⟨some 15, .bin .eql (.t 8) (.c (.d (.int .i64 2))), none⟩, ⟨some 14, .mv (.t 15), none⟩] [9, 15])
 (.cond (.t 14) (.seq (.ops [] [⟨some 16, .mv (.t 0), none⟩, ⟨some 17, .ld true 10 (.t 3), none⟩, ⟨some 18, .call N_bag_send [true, false] [.t 16, .t 17], none⟩, ⟨some 4, .mv (.t 18), none⟩] [0, 3, 8, 14, 16, 17, 18])
 (.ret [4])) (.seq (.ops [] [⟨some 20, .bin .eql (.t 8) (.c (.d (.int .i64 3))), none⟩, ⟨some 19, .mv (.t 20), none⟩] [14, 20])
 (.cond (.t 19) (.seq (.ops [] [⟨some 21, .mv (.t 0), none⟩, ⟨some 22, .ld true 10 (.t 3), none⟩, ⟨some 23, .call N_bag_receive [true, false] [.t 21, .t 22], none⟩, ⟨some 4, .mv (.t 23), none⟩] [0, 3, 8, 19, 21, 22, 23])
 (.ret [4])) (.seq (.seq (.ops [] [⟨some 25, .bin .eql (.t 8) (.c (.d (.int .i64 4))), none⟩, ⟨some 24, .mv (.t 25), none⟩] [19, 25])
 (.cond (.t 24) .skip (.seq (.ops [] [⟨some 26, .bin .eql (.t 8) (.c (.d (.int .i64 5))), none⟩, ⟨some 24, .mv (.t 26), none⟩] [26])
 (.cond (.t 24) .skip (.ops [] [⟨some 27, .bin .eql (.t 8) (.c (.d (.int .i64 6))), none⟩, ⟨some 24, .mv (.t 27), none⟩] [27])))))
 (.cond (.t 24) (.seq (.ops [] [⟨some 28, .mv (.t 0), none⟩, ⟨some 29, .ld true 10 (.t 3), none⟩, ⟨some 30, .call N_bag_settle [true, false] [.t 28, .t 29], none⟩, ⟨some 4, .mv (.t 30), none⟩] [0, 3, 8, 24, 28, 29, 30])
 (.ret [4])) (.seq (.ops [] [⟨some 32, .bin .eql (.t 8) (.c (.d (.int .i64 7))), none⟩, ⟨some 31, .mv (.t 32), none⟩] [24, 32])
 (.cond (.t 31) (.seq (.ops [] [⟨some 33, .mv (.t 0), none⟩, ⟨some 34, .ld true 10 (.t 3), none⟩, ⟨some 35, .call N_bag_purge [true, false] [.t 33, .t 34], none⟩, ⟨some 4, .mv (.t 35), none⟩] [0, 3, 8, 31, 33, 34, 35])
 (.ret [4])) (.seq (.ops [] [⟨some 37, .bin .eql (.t 8) (.c (.d (.int .i64 8))), none⟩, ⟨some 36, .mv (.t 37), none⟩] [31, 37])
 (.cond (.t 36) (.seq (.ops [] [⟨some 39, .mv (.t 0), none⟩, ⟨some 40, .nilc (.t 39), none⟩, ⟨some 41, .ld true 4 (.t 40), none⟩, ⟨some 42, .call N_bag_Counts [] [.t 41], none⟩, ⟨some 38, .mv (.t 42), none⟩, ⟨some 43, .ext (.t 38) 0, none⟩, ⟨some 44, .ext (.t 38) 1, none⟩, ⟨some 5, .mv (.t 43), none⟩, ⟨some 6, .mv (.t 44), none⟩] [0, 8, 36, 38, 39, 40, 41, 42, 43, 44])
 (.seq (.ops [] [⟨some 45, .fad false 6 1 (.t 3), none⟩, ⟨some 46, .ld false 1 (.t 45), none⟩, ⟨some 47, .bin .eql (.t 46) (.c (.d (.int .i64 0))), none⟩, ⟨some 48, .mv (.t 47), none⟩, ⟨some 49, .fad false 8 1 (.t 3), some (48, true)⟩, ⟨some 50, .ld false 1 (.t 49), some (48, true)⟩, ⟨some 51, .mv (.t 5), some (48, true)⟩, ⟨some 52, .bin .eql (.t 50) (.t 51), some (48, true)⟩, ⟨some 53, .pick (.t 48) (.t 52) (.c (.d (.bool false))), none⟩, ⟨some 54, .mv (.t 53), none⟩, ⟨some 55, .fad false 9 1 (.t 3), some (54, true)⟩, ⟨some 56, .ld false 1 (.t 55), some (54, true)⟩, ⟨some 57, .mv (.t 6), some (54, true)⟩, ⟨some 58, .bin .eql (.t 56) (.t 57), some (54, true)⟩, ⟨some 59, .pick (.t 54) (.t 58) (.c (.d (.bool false))), none⟩, ⟨some 4, .mv (.t 59), none⟩] [3, 5, 6, 45, 46, 47, 48, 49, 50, 51, 52, 53, 54, 55, 56, 57, 58, 59])
 (.ret [4]))) (.seq (.ops [] [⟨some 61, .bin .eql (.t 8) (.c (.d (.int .i64 9))), none⟩, ⟨some 60, .mv (.t 61), none⟩] [8, 36, 61])
 (.cond (.t 60) (.seq (.ops [] [⟨some 62, .mv (.t 0), none⟩, ⟨some 63, .ld true 10 (.t 3), none⟩, ⟨some 64, .call N_bag_redrive [true, false] [.t 62, .t 63], none⟩, ⟨some 4, .mv (.t 64), none⟩] [0, 3, 60, 62, 63, 64])
 (.ret [4])) .skip))))))))))))))))
 (.seq (.ops [] [⟨some 65, .mv (.t 0), none⟩, ⟨some 66, .ld true 10 (.t 3), none⟩, ⟨some 67, .call N_bag_expire [true, false] [.t 65, .t 66], none⟩, ⟨some 4, .mv (.t 67), none⟩] [0, 3, 60, 65, 66, 67])
 (.ret [4]))))
def r_bag_carry : List ARes := [.t 4]
def fn_bag_carry : AFn := .code c_bag_carry r_bag_carry 68 false
def c_bag_tick : ACode :=
 (.seq (.ops [] [⟨some 3, .box (.t 1), none⟩, ⟨some 4, .mv (.c (.d (.bool false))), none⟩] [1, 4])
 (.seq (.seq (.draw [] [⟨some 5, .fad false 6 1 (.t 3), none⟩, ⟨some 6, .ld false 1 (.t 5), none⟩, ⟨some 7, .bin .neq (.t 6) (.c (.d (.int .i64 0))), none⟩, ⟨some 8, .mv (.t 7), none⟩, ⟨some 9, .fad false 4 1 (.t 3), some (8, false)⟩, ⟨some 10, .ld false 1 (.t 9), some (8, false)⟩, ⟨some 11, .mv (.t 0), some (8, false)⟩, ⟨some 12, .nilc (.t 11), some (8, false)⟩, ⟨some 13, .fad false 1 1 (.t 12), some (8, false)⟩, ⟨some 14, .ld false 1 (.t 13), some (8, false)⟩, ⟨some 15, .bin .lss (.t 10) (.t 14), some (8, false)⟩, ⟨some 16, .pick (.t 8) (.c (.d (.bool true))) (.t 15), none⟩] [[], [], [], [], [], [], [4, 5], [4, 5], [4, 5], [4, 5], [], []] [5, 6, 7, 8, 9, 10, 11, 12, 13, 14, 15])
 (.cond (.t 16) (.seq (.ops [] [⟨some 4, .mv (.c (.d (.bool false))), none⟩] [0, 3, 16])
 (.ret [4])) .skip))
 (.seq (.ops [] [⟨some 17, .mv (.t 0), none⟩, ⟨some 18, .fad false 4 1 (.t 3), none⟩, ⟨some 19, .ld false 1 (.t 18), none⟩, ⟨some 20, .nilc (.t 17), none⟩, ⟨some 21, .fad false 1 1 (.t 20), none⟩, ⟨none, .st 1 (.t 21) (.t 19), none⟩] [0, 3, 16, 17, 18, 19, 20, 21])
 (.seq (.ops [] [⟨some 4, .mv (.c (.d (.bool true))), none⟩] [])
 (.ret [4])))))
def r_bag_tick : List ARes := [.t 4]
def fn_bag_tick : AFn := .code c_bag_tick r_bag_tick 22 true
def c_bag_send : ACode :=
 (.seq (.ops [] [⟨some 3, .box (.t 1), none⟩, ⟨some 4, .mv (.c (.d (.bool false))), none⟩] [1, 4])
 (.seq (.block 0 (.seq (.ops [] [⟨some 8, .fad false 6 1 (.t 3), none⟩, ⟨some 9, .ld false 1 (.t 8), none⟩, ⟨some 10, .bin .eql (.t 9) (.c (.d (.int .i64 3))), none⟩, ⟨some 11, .mv (.t 10), none⟩, ⟨some 12, .fad false 6 1 (.t 3), some (11, false)⟩, ⟨some 13, .ld false 1 (.t 12), some (11, false)⟩, ⟨some 14, .bin .eql (.t 13) (.c (.d (.int .i64 6))), some (11, false)⟩, ⟨some 15, .pick (.t 11) (.c (.d (.bool true))) (.t 14), none⟩, ⟨some 7, .mv (.t 15), none⟩] [8, 9, 10, 11, 12, 13, 14, 15])
 (.cond (.t 7) (.seq (.ops [] [⟨some 4, .mv (.c (.d (.bool true))), none⟩] [0, 3, 7])
 (.ret [4])) (.seq (.ops [] [⟨some 17, .fad false 6 1 (.t 3), none⟩, ⟨some 18, .ld false 1 (.t 17), none⟩, ⟨some 19, .bin .neq (.t 18) (.c (.d (.int .i64 0))), none⟩, ⟨some 20, .mv (.t 19), none⟩, ⟨some 21, .fad false 7 1 (.t 3), some (20, false)⟩, ⟨some 22, .ld false 1 (.t 21), some (20, false)⟩, ⟨some 23, .len (.t 22), some (20, false)⟩, ⟨some 24, .bin .neq (.t 23) (.c (.d (.int .i64 1))), some (20, false)⟩, ⟨some 25, .pick (.t 20) (.c (.d (.bool true))) (.t 24), none⟩, ⟨some 26, .mv (.t 25), none⟩, ⟨some 27, .fad false 7 1 (.t 3), some (26, false)⟩, ⟨some 28, .ld false 1 (.t 27), some (26, false)⟩, ⟨some 29, .iad 4 (.t 28) (.c (.d (.int .i64 0))), some (26, false)⟩, ⟨some 30, .fad false 1 1 (.t 29), some (26, false)⟩, ⟨some 31, .ld false 1 (.t 30), some (26, false)⟩, ⟨some 32, .bin .neq (.t 31) (.c (.d (.int .i64 0))), some (26, false)⟩, ⟨some 33, .pick (.t 26) (.c (.d (.bool true))) (.t 32), none⟩, ⟨some 16, .mv (.t 33), none⟩] [7, 17, 18, 19, 20, 21, 22, 23, 24, 25, 26, 27, 28, 29, 30, 31, 32, 33])
 (.cond (.t 16) (.seq (.ops [] [⟨some 4, .mv (.c (.d (.bool false))), none⟩] [0, 3, 16])
 (.ret [4])) .skip)))))
 (.seq (.ops [] [⟨some 34, .fad false 7 1 (.t 3), none⟩, ⟨some 35, .ld false 1 (.t 34), none⟩, ⟨some 36, .iad 4 (.t 35) (.c (.d (.int .i64 0))), none⟩, ⟨some 37, .fad false 0 1 (.t 36), none⟩, ⟨some 38, .ld false 1 (.t 37), none⟩, ⟨some 5, .alloc (.d (.int .i64 0)), none⟩, ⟨none, .st 1 (.t 5) (.t 38), none⟩] [16, 34, 35, 36, 37, 38])
 (.seq (.seq (.draw [] [⟨some 39, .mv (.t 0), none⟩, ⟨some 40, .nilc (.t 39), none⟩, ⟨some 41, .ld true 4 (.t 40), none⟩, ⟨some 42, .ld false 1 (.t 5), none⟩, ⟨some 43, .call N_bag_index [] [.t 41, .t 42], none⟩, ⟨some 44, .bin .geq (.t 43) (.c (.d (.int .i64 0))), none⟩] [[], [], [], [0, 1, 2], [], []] [39, 40, 41, 42, 43])
 (.cond (.t 44) (.seq (.ops [] [⟨some 4, .mv (.c (.d (.bool false))), none⟩] [0, 3, 5, 44])
 (.ret [4])) .skip))
 (.seq (.ops [] [⟨some 45, .mv (.t 0), none⟩, ⟨some 46, .nilc (.t 45), none⟩, ⟨some 47, .fad false 3 1 (.t 46), none⟩, ⟨some 48, .ld false 1 (.t 47), none⟩, ⟨some 49, .mkfn N_bag_send_1 [.t 5], none⟩, ⟨some 50, .call N_slices_IndexFunc_api_Item [] [.t 48, .t 49], none⟩, ⟨some 6, .mv (.t 50), none⟩] [44, 45, 46, 47, 48, 49, 50])
 (.seq (.seq (.ops [] [⟨some 51, .mv (.t 6), none⟩, ⟨some 52, .bin .lss (.t 51) (.c (.d (.int .i64 0))), none⟩] [51])
 (.cond (.t 52) (.ops [] [⟨some 53, .mv (.t 0), none⟩, ⟨some 54, .nilc (.t 53), none⟩, ⟨some 55, .fad false 3 1 (.t 54), none⟩, ⟨some 56, .ld false 1 (.t 55), none⟩, ⟨some 57, .len (.t 56), none⟩, ⟨some 6, .mv (.t 57), none⟩] [52, 53, 54, 55, 56, 57]) .skip))
 (.seq (.draw [] [⟨some 58, .mv (.t 0), none⟩, ⟨some 59, .mv (.t 0), none⟩, ⟨some 60, .nilc (.t 59), none⟩, ⟨some 61, .fad false 3 1 (.t 60), none⟩, ⟨some 62, .ld false 1 (.t 61), none⟩, ⟨some 63, .mv (.t 6), none⟩, ⟨some 64, .ld false 1 (.t 5), none⟩, ⟨some 65, .fad false 7 1 (.t 3), none⟩, ⟨some 66, .ld false 1 (.t 65), none⟩, ⟨some 67, .iad 4 (.t 66) (.c (.d (.int .i64 0))), none⟩, ⟨some 68, .fad false 2 1 (.t 67), none⟩, ⟨some 69, .ld false 1 (.t 68), none⟩, ⟨some 70, .build [.d (.int .i64 0), .d (.int .i64 0), .d (.int .i64 0), .d (.int .i64 0), .d (.int .i64 0), .d (.int .i64 0)] [(0, (1, .t 64)), (1, (1, .c (.d (.int .i64 1)))), (4, (1, .t 69))], none⟩, ⟨some 71, .bsl 1 6 (.d (.agg [.int .i64 0, .int .i64 0, .int .i64 0, .int .i64 0, .int .i64 0, .int .i64 0])) [(0, .t 70)], none⟩, ⟨some 72, .call N_slices_Insert_api_Item [true, false, false] [.t 62, .t 63, .t 71], none⟩, ⟨some 73, .nilc (.t 58), none⟩, ⟨some 74, .fad false 3 1 (.t 73), none⟩, ⟨none, .st 1 (.t 74) (.t 72), none⟩] [[], [0], [0], [0], [0], [0, 1, 2, 3, 4], [0, 1, 2, 3, 4, 5], [0, 1, 2, 3, 4, 5, 6], [0, 1, 2, 3, 4, 5, 6], [0, 1, 2, 3, 4, 5, 6], [0, 1, 2, 3, 4, 5, 6], [0, 1, 2, 3, 4, 5, 6], [0, 1, 2, 3, 4, 5], [0, 1, 2, 3, 4, 5], [0], [], [], []] [0, 3, 5, 6, 52, 58, 59, 60, 61, 62, 63, 64, 65, 66, 67, 68, 69, 70, 71, 72, 73, 74])
 (.seq (.ops [] [⟨some 4, .mv (.c (.d (.bool true))), none⟩] [])
 (.ret [4])))))))))
def r_bag_send : List ARes := [.t 4]
def fn_bag_send : AFn := .code c_bag_send r_bag_send 75 false
def c_bag_index : ACode :=
 (.seq (.ops [] [⟨some 2, .box (.t 0), none⟩, ⟨some 3, .box (.t 1), none⟩, ⟨some 4, .mv (.c (.d (.int .i64 0))), none⟩] [0, 1, 4])
 (.seq (.ops [] [⟨some 5, .fad false 3 1 (.t 2), none⟩, ⟨some 6, .ld false 1 (.t 5), none⟩, ⟨some 7, .mkfn N_bag_index_1 [.t 3], none⟩, ⟨some 8, .call N_slices_IndexFunc_api_Item [] [.t 6, .t 7], none⟩, ⟨some 4, .mv (.t 8), none⟩] [2, 3, 5, 6, 7, 8])
 (.ret [4])))
def r_bag_index : List ARes := [.t 4]
def fn_bag_index : AFn := .code c_bag_index r_bag_index 9 true
def c_bag_index_1 : ACode :=
 (.seq (.ops [] [⟨some 2, .box (.t 0), none⟩, ⟨some 3, .mv (.c (.d (.bool false))), none⟩] [0, 3])
 (.seq (.ops [] [⟨some 4, .fad false 0 1 (.t 2), none⟩, ⟨some 5, .ld false 1 (.t 4), none⟩, ⟨some 6, .ld false 1 (.t 1), none⟩, ⟨some 7, .bin .eql (.t 5) (.t 6), none⟩, ⟨some 3, .mv (.t 7), none⟩] [1, 2, 4, 5, 6, 7])
 (.ret [3])))
def r_bag_index_1 : List ARes := [.t 3]
def fn_bag_index_1 : AFn := .code c_bag_index_1 r_bag_index_1 8 true
def l_slices_IndexFunc_api_Item_0 : ACode :=
 (.seq (.ops [] [⟨some 9, .bin .lss (.t 8) (.t 7), none⟩] [])
 (.seq (.cond (.t 9) .skip (.exit 0 []))
 (.seq (.block 1 (.seq (.ops [] [⟨some 10, .mv (.t 8), none⟩, ⟨some 5, .mv (.t 10), none⟩] [9, 10])
 (.seq (.ops [] [⟨some 11, .mv (.t 1), none⟩, ⟨some 12, .mv (.t 0), none⟩, ⟨some 13, .mv (.t 5), none⟩, ⟨some 14, .iad 6 (.t 12) (.t 13), none⟩, ⟨some 15, .ld true 6 (.t 14), none⟩, ⟨some 16, .callv (.t 11) [] [.t 15], none⟩] [11, 12, 13, 14, 15])
 (.cond (.t 16) (.seq (.ops [] [⟨some 17, .mv (.t 5), none⟩, ⟨some 4, .mv (.t 17), none⟩] [0, 1, 5, 7, 8, 16, 17])
 (.ret [4])) .skip))))
 (.ops [] [⟨some 18, .bin .add (.t 8) (.c (.d (.int .i64 1))), none⟩, ⟨some 8, .mv (.t 18), none⟩] [5, 16, 18]))))
def c_slices_IndexFunc_api_Item : ACode :=
 (.seq (.ops [] [⟨some 4, .mv (.c (.d (.int .i64 0))), none⟩] [4])
 (.seq (.seq (.ops [] [⟨some 6, .mv (.t 0), none⟩, ⟨some 7, .len (.t 6), none⟩, ⟨some 8, .mv (.c (.d (.int .i64 0))), none⟩] [6])
 (.block 0 (.loop [] l_slices_IndexFunc_api_Item_0)))
 (.seq (.ops [] [⟨some 4, .mv (.c (.d (.int .i64 (-1)))), none⟩] [0, 1, 7, 8, 9])
 (.ret [4]))))
def r_slices_IndexFunc_api_Item : List ARes := [.t 4]
def fn_slices_IndexFunc_api_Item : AFn := .code c_slices_IndexFunc_api_Item r_slices_IndexFunc_api_Item 19 true
def c_bag_send_1 : ACode :=
 (.seq (.ops [] [⟨some 2, .box (.t 0), none⟩, ⟨some 3, .mv (.c (.d (.bool false))), none⟩] [0, 3])
 (.seq (.ops [] [⟨some 4, .fad false 0 1 (.t 2), none⟩, ⟨some 5, .ld false 1 (.t 4), none⟩, ⟨some 6, .ld false 1 (.t 1), none⟩, ⟨some 7, .bin .gtr (.t 5) (.t 6), none⟩, ⟨some 3, .mv (.t 7), none⟩] [1, 2, 4, 5, 6, 7])
 (.ret [3])))
def r_bag_send_1 : List ARes := [.t 3]
def fn_bag_send_1 : AFn := .code c_bag_send_1 r_bag_send_1 8 true
def fn_slices_Insert_api_Item : AFn := .ext (insF 6)
def c_bag_receive : ACode :=
 (.seq (.ops [] [⟨some 2, .box (.t 0), none⟩, ⟨some 3, .box (.t 1), none⟩, ⟨some 4, .mv (.c (.d (.bool false))), none⟩] [0, 1, 4])
 (.seq (.seq (.ops [] [⟨some 5, .fad false 6 1 (.t 3), none⟩, ⟨some 6, .ld false 1 (.t 5), none⟩, ⟨some 7, .bin .neq (.t 6) (.c (.d (.int .i64 0))), none⟩] [5, 6])
 (.cond (.t 7) (.seq (.ops [] [⟨some 8, .fad false 6 1 (.t 3), none⟩, ⟨some 9, .ld false 1 (.t 8), none⟩, ⟨some 10, .bin .eql (.t 9) (.c (.d (.int .i64 6))), none⟩, ⟨some 4, .mv (.t 10), none⟩] [2, 3, 7, 8, 9, 10])
 (.ret [4])) .skip))
 (.seq (.ops [] [⟨some 11, .ld false 1 (.t 2), none⟩, ⟨some 12, .fad false 7 1 (.t 3), none⟩, ⟨some 13, .ld false 1 (.t 12), none⟩, ⟨some 14, .mkfn N_bag_receive_1 [.t 2], none⟩, ⟨some 15, .call N_bag_each [true, false, true] [.t 11, .t 13, .t 14], none⟩, ⟨some 4, .mv (.t 15), none⟩] [2, 3, 7, 11, 12, 13, 14, 15])
 (.ret [4]))))
def r_bag_receive : List ARes := [.t 4]
def fn_bag_receive : AFn := .code c_bag_receive r_bag_receive 16 true
def c_bag_receive_1 : ACode :=
 (.seq (.ops [] [⟨some 4, .box (.t 1), none⟩, ⟨some 5, .mv (.c (.d (.bool false))), none⟩] [1, 5])
 (.seq (.seq (.draw [] [⟨some 6, .mv (.t 0), none⟩, ⟨some 7, .nilc (.t 6), none⟩, ⟨some 8, .fad false 1 1 (.t 7), none⟩, ⟨some 9, .ld false 1 (.t 8), none⟩, ⟨some 10, .bin .neq (.t 9) (.c (.d (.int .i64 1))), none⟩, ⟨some 11, .mv (.t 10), none⟩, ⟨some 12, .mv (.t 0), some (11, false)⟩, ⟨some 13, .nilc (.t 12), some (11, false)⟩, ⟨some 14, .fad false 2 1 (.t 13), some (11, false)⟩, ⟨some 15, .ld false 1 (.t 14), some (11, false)⟩, ⟨some 16, .ld false 1 (.t 2), some (11, false)⟩, ⟨some 17, .nilc (.t 16), some (11, false)⟩, ⟨some 18, .fad false 0 1 (.t 17), some (11, false)⟩, ⟨some 19, .ld false 1 (.t 18), some (11, false)⟩, ⟨some 20, .bin .geq (.t 15) (.t 19), some (11, false)⟩, ⟨some 21, .pick (.t 11) (.c (.d (.bool true))) (.t 20), none⟩, ⟨some 22, .mv (.t 21), none⟩, ⟨some 23, .mv (.t 0), some (22, false)⟩, ⟨some 24, .nilc (.t 23), some (22, false)⟩, ⟨some 25, .fad false 3 1 (.t 24), some (22, false)⟩, ⟨some 26, .ld false 1 (.t 25), some (22, false)⟩, ⟨some 27, .fad false 1 1 (.t 4), some (22, false)⟩, ⟨some 28, .ld false 1 (.t 27), some (22, false)⟩, ⟨some 29, .call N_bag_follows [] [.t 26, .t 28], some (22, false)⟩, ⟨some 30, .un .not (.t 29), some (22, false)⟩, ⟨some 31, .pick (.t 22) (.c (.d (.bool true))) (.t 30), none⟩, ⟨some 32, .mv (.t 31), none⟩, ⟨some 33, .fad false 3 1 (.t 4), some (32, false)⟩, ⟨some 34, .ld false 1 (.t 33), some (32, false)⟩, ⟨some 35, .ld false 1 (.t 2), some (32, false)⟩, ⟨some 36, .nilc (.t 35), some (32, false)⟩, ⟨some 37, .fad false 1 1 (.t 36), some (32, false)⟩, ⟨some 38, .ld false 1 (.t 37), some (32, false)⟩, ⟨some 39, .bin .lss (.t 34) (.t 38), some (32, false)⟩, ⟨some 40, .pick (.t 32) (.c (.d (.bool true))) (.t 39), none⟩] [[], [], [], [], [], [], [], [], [], [], [6, 7, 8, 9], [6, 7, 8, 9], [6, 7, 8, 9], [6, 7, 8, 9], [], [], [], [], [], [], [], [17, 18, 19, 20], [17, 18, 19, 20], [], [], [], [], [], [], [27, 28], [27, 28], [27, 28], [27, 28], [], []] [2, 6, 7, 8, 9, 10, 11, 12, 13, 14, 15, 16, 17, 18, 19, 20, 21, 22, 23, 24, 25, 26, 27, 28, 29, 30, 31, 32, 33, 34, 35, 36, 37, 38, 39])
 (.cond (.t 40) (.seq (.ops [] [⟨some 5, .mv (.c (.d (.bool false))), none⟩] [0, 4, 40])
 (.ret [5])) .skip))
 (.seq (.draw [] [⟨some 41, .mv (.t 0), none⟩, ⟨some 42, .mv (.t 0), none⟩, ⟨some 43, .nilc (.t 42), none⟩, ⟨some 44, .fad false 0 1 (.t 43), none⟩, ⟨some 45, .ld false 1 (.t 44), none⟩, ⟨some 46, .mv (.t 0), none⟩, ⟨some 47, .nilc (.t 46), none⟩, ⟨some 48, .fad false 2 1 (.t 47), none⟩, ⟨some 49, .ld false 1 (.t 48), none⟩, ⟨some 50, .bin .add (.t 49) (.c (.d (.int .i64 1))), none⟩, ⟨some 51, .fad false 1 1 (.t 4), none⟩, ⟨some 52, .ld false 1 (.t 51), none⟩, ⟨some 53, .fad false 2 1 (.t 4), none⟩, ⟨some 54, .ld false 1 (.t 53), none⟩, ⟨some 55, .fad false 3 1 (.t 4), none⟩, ⟨some 56, .ld false 1 (.t 55), none⟩, ⟨some 57, .build [.d (.int .i64 0), .d (.int .i64 0), .d (.int .i64 0), .d (.int .i64 0), .d (.int .i64 0), .d (.int .i64 0)] [(0, (1, .t 45)), (1, (1, .c (.d (.int .i64 2)))), (2, (1, .t 50)), (3, (1, .t 52)), (4, (1, .t 54)), (5, (1, .t 56))], none⟩, ⟨some 58, .nilc (.t 41), none⟩, ⟨none, .st 6 (.t 58) (.t 57), none⟩] [[], [0], [0], [0], [0], [0, 1, 2, 3, 4], [0, 1, 2, 3, 4], [0, 1, 2, 3, 4], [0, 1, 2, 3, 4], [0, 1, 2, 3, 4], [0, 1, 2, 3, 4, 5, 6, 7, 8, 9], [0, 1, 2, 3, 4, 5, 6, 7, 8, 9], [0, 1, 2, 3, 4, 5, 6, 7, 8, 9, 10, 11], [0, 1, 2, 3, 4, 5, 6, 7, 8, 9, 10, 11], [0, 1, 2, 3, 4, 5, 6, 7, 8, 9, 10, 11, 12, 13], [0, 1, 2, 3, 4, 5, 6, 7, 8, 9, 10, 11, 12, 13], [0], [], []] [0, 4, 40, 41, 42, 43, 44, 45, 46, 47, 48, 49, 50, 51, 52, 53, 54, 55, 56, 57, 58])
 (.seq (.ops [] [⟨some 5, .mv (.c (.d (.bool true))), none⟩] [])
 (.ret [5])))))
def r_bag_receive_1 : List ARes := [.t 5]
def fn_bag_receive_1 : AFn := .code c_bag_receive_1 r_bag_receive_1 59 true
def c_bag_follows : ACode :=
 (.seq (.ops [] [⟨some 4, .mv (.c (.d (.bool false))), none⟩] [4])
 (.seq (.ops [] [⟨some 5, .mv (.t 1), none⟩, ⟨some 6, .mv (.t 0), none⟩, ⟨some 7, .bin .gtr (.t 5) (.t 6), none⟩, ⟨some 8, .mv (.t 7), none⟩, ⟨some 9, .mv (.t 1), some (8, true)⟩, ⟨some 10, .mv (.t 0), some (8, true)⟩, ⟨some 11, .bin .sub (.t 9) (.t 10), some (8, true)⟩, ⟨some 12, .bin .eql (.t 11) (.c (.d (.int .i64 1))), some (8, true)⟩, ⟨some 13, .pick (.t 8) (.t 12) (.c (.d (.bool false))), none⟩, ⟨some 4, .mv (.t 13), none⟩] [0, 1, 5, 6, 7, 8, 9, 10, 11, 12, 13])
 (.ret [4])))
def r_bag_follows : List ARes := [.t 4]
def fn_bag_follows : AFn := .code c_bag_follows r_bag_follows 14 true
def l_bag_each_0 : ACode :=
 (.seq (.ops [] [⟨some 15, .bin .lss (.t 14) (.t 13), none⟩] [])
 (.seq (.cond (.t 15) .skip (.exit 0 []))
 (.seq (.block 1 (.seq (.ops [] [⟨some 16, .iad 4 (.t 12) (.t 14), none⟩, ⟨some 17, .ld true 4 (.t 16), none⟩, ⟨some 9, .alloc (.d (.agg [.int .i64 0, .int .i64 0, .int .i64 0, .int .i64 0])), none⟩, ⟨none, .st 4 (.t 9) (.t 17), none⟩] [15, 16, 17])
 (.seq (.draw [] [⟨some 18, .mv (.t 0), none⟩, ⟨some 19, .nilc (.t 18), none⟩, ⟨some 20, .ld true 4 (.t 19), none⟩, ⟨some 21, .fad false 0 1 (.t 9), none⟩, ⟨some 22, .ld false 1 (.t 21), none⟩, ⟨some 23, .call N_bag_index [] [.t 20, .t 22], none⟩, ⟨some 10, .mv (.t 23), none⟩] [[], [], [], [0, 1, 2], [0, 1, 2], [], []] [18, 19, 20, 21, 22, 23])
 (.seq (.seq (.draw [] [⟨some 24, .mv (.t 10), none⟩, ⟨some 25, .bin .lss (.t 24) (.c (.d (.int .i64 0))), none⟩, ⟨some 26, .mv (.t 25), none⟩, ⟨some 27, .mv (.t 7), some (26, false)⟩, ⟨some 28, .fad false 0 1 (.t 9), some (26, false)⟩, ⟨some 29, .ld false 1 (.t 28), some (26, false)⟩, ⟨some 30, .lkp false (.bool false) (.t 27) (.t 29), some (26, false)⟩, ⟨some 31, .pick (.t 26) (.c (.d (.bool true))) (.t 30), none⟩, ⟨some 32, .mv (.t 31), none⟩, ⟨some 33, .mv (.t 2), some (32, false)⟩, ⟨some 34, .mv (.t 0), some (32, false)⟩, ⟨some 35, .nilc (.t 34), some (32, false)⟩, ⟨some 36, .fad false 3 1 (.t 35), some (32, false)⟩, ⟨some 37, .ld false 1 (.t 36), some (32, false)⟩, ⟨some 38, .mv (.t 10), some (32, false)⟩, ⟨some 39, .iad 6 (.t 37) (.t 38), some (32, false)⟩, ⟨some 40, .ld true 4 (.t 9), some (32, false)⟩, ⟨some 41, .callv (.t 33) [true, false, true] [.t 39, .t 40], some (32, false)⟩, ⟨some 42, .un .not (.t 41), some (32, false)⟩, ⟨some 43, .pick (.t 32) (.c (.d (.bool true))) (.t 42), none⟩] [[], [], [], [], [3], [3], [], [], [], [], [9], [9], [9], [9], [9, 10, 11, 12, 13], [9], [9, 10, 11, 12, 13, 14, 15], [], [], []] [10, 24, 25, 26, 27, 28, 29, 30, 31, 32, 33, 34, 35, 36, 37, 38, 39, 40, 41, 42])
 (.cond (.t 43) (.seq (.ops [] [⟨some 6, .mv (.c (.d (.bool false))), none⟩] [0, 2, 7, 9, 12, 13, 14, 43])
 (.ret [6])) .skip))
 (.ops [] [⟨some 44, .mv (.t 7), none⟩, ⟨some 45, .fad false 0 1 (.t 9), none⟩, ⟨some 46, .ld false 1 (.t 45), none⟩, ⟨none, .mup (.t 44) (.t 46) (.c (.d (.bool true))), none⟩] [9, 43, 44, 45, 46])))))
 (.ops [] [⟨some 47, .bin .add (.t 14) (.c (.d (.int .i64 1))), none⟩, ⟨some 14, .mv (.t 47), none⟩] [47]))))
def c_bag_each : ACode :=
 (.seq (.ops [] [⟨some 6, .mv (.c (.d (.bool false))), none⟩] [6])
 (.seq (.ops [] [⟨some 11, .mkm, none⟩, ⟨some 7, .mv (.t 11), none⟩] [11])
 (.seq (.seq (.ops [] [⟨some 12, .mv (.t 1), none⟩, ⟨some 13, .len (.t 12), none⟩, ⟨some 14, .mv (.c (.d (.int .i64 0))), none⟩] [1])
 (.block 0 (.loop [] l_bag_each_0)))
 (.seq (.ops [] [⟨some 6, .mv (.c (.d (.bool true))), none⟩] [0, 2, 7, 12, 13, 14, 15])
 (.ret [6])))))
def r_bag_each : List ARes := [.t 6]
def fn_bag_each : AFn := .code c_bag_each r_bag_each 48 true
def c_bag_settle : ACode :=
 (.seq (.ops [] [⟨some 3, .box (.t 1), none⟩, ⟨some 4, .mv (.c (.d (.bool false))), none⟩] [1, 4])
 (.seq (.draw [] [⟨some 7, .fad false 7 1 (.t 3), none⟩, ⟨some 8, .ld false 1 (.t 7), none⟩, ⟨some 9, .len (.t 8), none⟩, ⟨some 10, .bin .eql (.t 9) (.c (.d (.int .i64 1))), none⟩, ⟨some 11, .mv (.t 10), none⟩, ⟨some 12, .mv (.t 0), some (11, true)⟩, ⟨some 13, .nilc (.t 12), some (11, true)⟩, ⟨some 14, .ld true 4 (.t 13), some (11, true)⟩, ⟨some 15, .fad false 7 1 (.t 3), some (11, true)⟩, ⟨some 16, .ld false 1 (.t 15), some (11, true)⟩, ⟨some 17, .iad 4 (.t 16) (.c (.d (.int .i64 0))), some (11, true)⟩, ⟨some 18, .ld true 4 (.t 17), some (11, true)⟩, ⟨some 19, .call N_bag_Valid [] [.t 14, .t 18], some (11, true)⟩, ⟨some 20, .pick (.t 11) (.t 19) (.c (.d (.bool false))), none⟩, ⟨some 5, .mv (.t 20), none⟩] [[], [], [], [], [], [], [], [], [5, 6, 7], [5, 6, 7], [5, 6, 7], [5, 6, 7], [], [], []] [7, 8, 9, 10, 11, 12, 13, 14, 15, 16, 17, 18, 19, 20])
 (.seq (.block 0 (.seq (.ops [] [⟨some 22, .fad false 6 1 (.t 3), none⟩, ⟨some 23, .ld false 1 (.t 22), none⟩, ⟨some 24, .bin .eql (.t 23) (.c (.d (.int .i64 5))), none⟩, ⟨some 21, .mv (.t 24), none⟩] [22, 23, 24])
 (.cond (.t 21) (.seq (.ops [] [⟨some 25, .fad false 7 1 (.t 3), none⟩, ⟨some 26, .ld false 1 (.t 25), none⟩, ⟨some 27, .len (.t 26), none⟩, ⟨some 28, .bin .eql (.t 27) (.c (.d (.int .i64 0))), none⟩, ⟨some 29, .mv (.t 28), none⟩, ⟨some 30, .fad false 7 1 (.t 3), some (29, false)⟩, ⟨some 31, .ld false 1 (.t 30), some (29, false)⟩, ⟨some 32, .len (.t 31), some (29, false)⟩, ⟨some 33, .bin .eql (.t 32) (.c (.d (.int .i64 1))), some (29, false)⟩, ⟨some 34, .mv (.t 33), some (29, false)⟩, ⟨some 35, .mv (.t 5), some (34, true)⟩, ⟨some 36, .un .not (.t 35), some (34, true)⟩, ⟨some 37, .pick (.t 34) (.t 36) (.c (.d (.bool false))), some (29, false)⟩, ⟨some 38, .pick (.t 29) (.c (.d (.bool true))) (.t 37), none⟩, ⟨some 4, .mv (.t 38), none⟩] [0, 3, 5, 21, 25, 26, 27, 28, 29, 30, 31, 32, 33, 34, 35, 36, 37, 38])
 (.ret [4])) (.seq (.ops [] [⟨some 40, .mv (.t 5), none⟩, ⟨some 41, .un .not (.t 40), none⟩, ⟨some 39, .mv (.t 41), none⟩] [5, 21, 40, 41])
 (.cond (.t 39) (.seq (.ops [] [⟨some 4, .mv (.c (.d (.bool false))), none⟩] [0, 3, 39])
 (.ret [4])) (.seq (.ops [] [⟨some 43, .fad false 6 1 (.t 3), none⟩, ⟨some 44, .ld false 1 (.t 43), none⟩, ⟨some 45, .bin .eql (.t 44) (.c (.d (.int .i64 6))), none⟩, ⟨some 42, .mv (.t 45), none⟩] [39, 43, 44, 45])
 (.cond (.t 42) (.seq (.ops [] [⟨some 46, .fad false 3 1 (.t 3), none⟩, ⟨some 47, .ld false 1 (.t 46), none⟩, ⟨some 48, .bin .eql (.t 47) (.c (.d (.int .i64 6))), none⟩, ⟨some 4, .mv (.t 48), none⟩] [0, 3, 42, 46, 47, 48])
 (.ret [4])) (.seq (.ops [] [⟨some 50, .fad false 6 1 (.t 3), none⟩, ⟨some 51, .ld false 1 (.t 50), none⟩, ⟨some 52, .bin .neq (.t 51) (.c (.d (.int .i64 0))), none⟩, ⟨some 49, .mv (.t 52), none⟩] [42, 50, 51, 52])
 (.cond (.t 49) (.seq (.ops [] [⟨some 4, .mv (.c (.d (.bool false))), none⟩] [0, 3, 49])
 (.ret [4])) .skip)))))))))
 (.seq (.seq (.draw [] [⟨some 53, .mv (.t 0), none⟩, ⟨some 54, .nilc (.t 53), none⟩, ⟨some 55, .fad false 3 1 (.t 54), none⟩, ⟨some 56, .ld false 1 (.t 55), none⟩, ⟨some 57, .mv (.t 0), none⟩, ⟨some 58, .nilc (.t 57), none⟩, ⟨some 59, .ld true 4 (.t 58), none⟩, ⟨some 60, .fad false 7 1 (.t 3), none⟩, ⟨some 61, .ld false 1 (.t 60), none⟩, ⟨some 62, .iad 4 (.t 61) (.c (.d (.int .i64 0))), none⟩, ⟨some 63, .fad false 0 1 (.t 62), none⟩, ⟨some 64, .ld false 1 (.t 63), none⟩, ⟨some 65, .call N_bag_index [] [.t 59, .t 64], none⟩, ⟨some 66, .iad 6 (.t 56) (.t 65), none⟩, ⟨some 6, .mv (.t 66), none⟩] [[], [], [], [], [0, 1, 2, 3], [0, 1, 2, 3], [0, 1, 2, 3], [0, 1, 2, 3, 4, 5, 6], [0, 1, 2, 3, 4, 5, 6], [0, 1, 2, 3, 4, 5, 6], [0, 1, 2, 3, 4, 5, 6], [0, 1, 2, 3, 4, 5, 6], [0, 1, 2, 3], [], []] [49, 53, 54, 55, 56, 57, 58, 59, 60, 61, 62, 63, 64, 65, 66])
 (.seq (.ops [] [⟨some 67, .fad false 3 1 (.t 3), none⟩, ⟨some 68, .ld false 1 (.t 67), none⟩] [67])
 (.block 1 (.seq (.ops [] [⟨some 88, .bin .eql (.t 68) (.c (.d (.int .i64 4))), none⟩, ⟨some 87, .mv (.t 88), none⟩] [88])
 (.cond (.t 87) (.ops [] [⟨some 89, .mv (.t 6), none⟩, ⟨some 90, .mv (.t 6), none⟩, ⟨some 91, .nilc (.t 89), none⟩, ⟨some 92, .fad false 1 1 (.t 91), none⟩, ⟨none, .st 1 (.t 92) (.c (.d (.int .i64 4))), none⟩, ⟨some 93, .nilc (.t 90), none⟩, ⟨some 94, .fad false 5 1 (.t 93), none⟩, ⟨none, .st 1 (.t 94) (.c (.d (.int .i64 0))), none⟩] [0, 3, 6, 68, 87, 89, 90, 91, 92, 93, 94]) (.seq (.ops [] [⟨some 96, .bin .eql (.t 68) (.c (.d (.int .i64 5))), none⟩, ⟨some 95, .mv (.t 96), none⟩] [68, 87, 96])
 (.cond (.t 95) (.ops [] [⟨some 97, .mv (.t 6), none⟩, ⟨some 98, .mv (.t 0), none⟩, ⟨some 99, .nilc (.t 98), none⟩, ⟨some 100, .fad false 0 1 (.t 99), none⟩, ⟨some 101, .ld false 1 (.t 100), none⟩, ⟨some 102, .call N_bag_back [true, false] [.t 97, .t 101], none⟩] [0, 3, 6, 95, 97, 98, 99, 100, 101, 102]) (.seq (.seq (.draw [] [⟨some 69, .fad false 7 1 (.t 3), none⟩, ⟨some 70, .ld false 1 (.t 69), none⟩, ⟨some 71, .iad 4 (.t 70) (.c (.d (.int .i64 0))), none⟩, ⟨some 72, .fad false 3 1 (.t 71), none⟩, ⟨some 73, .ld false 1 (.t 72), none⟩, ⟨some 74, .mv (.t 0), none⟩, ⟨some 75, .nilc (.t 74), none⟩, ⟨some 76, .fad false 1 1 (.t 75), none⟩, ⟨some 77, .ld false 1 (.t 76), none⟩, ⟨some 78, .bin .lss (.t 73) (.t 77), none⟩] [[], [], [], [], [], [0, 1, 2, 3, 4], [0, 1, 2, 3, 4], [0, 1, 2, 3, 4], [0, 1, 2, 3, 4], []] [0, 69, 70, 71, 72, 73, 74, 75, 76, 77, 95])
 (.cond (.t 78) (.seq (.ops [] [⟨some 4, .mv (.c (.d (.bool false))), none⟩] [3, 6, 78])
 (.ret [4])) .skip))
 (.ops [] [⟨some 79, .mv (.t 6), none⟩, ⟨some 80, .fad false 7 1 (.t 3), none⟩, ⟨some 81, .ld false 1 (.t 80), none⟩, ⟨some 82, .iad 4 (.t 81) (.c (.d (.int .i64 0))), none⟩, ⟨some 83, .fad false 3 1 (.t 82), none⟩, ⟨some 84, .ld false 1 (.t 83), none⟩, ⟨some 85, .nilc (.t 79), none⟩, ⟨some 86, .fad false 5 1 (.t 85), none⟩, ⟨none, .st 1 (.t 86) (.t 84), none⟩] [3, 6, 78, 79, 80, 81, 82, 83, 84, 85, 86])))))))))
 (.seq (.ops [] [⟨some 4, .mv (.c (.d (.bool true))), none⟩] [])
 (.ret [4]))))))
def r_bag_settle : List ARes := [.t 4]
def fn_bag_settle : AFn := .code c_bag_settle r_bag_settle 103 true
def c_bag_Valid : ACode :=
 (.seq (.ops [] [⟨some 2, .box (.t 0), none⟩, ⟨some 3, .box (.t 1), none⟩, ⟨some 4, .mv (.c (.d (.bool false))), none⟩] [0, 1, 4])
 (.seq (.ops [] [⟨some 8, .ld true 4 (.t 2), none⟩, ⟨some 9, .fad false 0 1 (.t 3), none⟩, ⟨some 10, .ld false 1 (.t 9), none⟩, ⟨some 11, .call N_bag_Find [] [.t 8, .t 10], none⟩, ⟨some 7, .mv (.t 11), none⟩, ⟨some 12, .ext (.t 7) 0, none⟩, ⟨some 13, .ext (.t 7) 1, none⟩, ⟨some 5, .alloc (.d (.agg [.int .i64 0, .int .i64 0, .int .i64 0, .int .i64 0, .int .i64 0, .int .i64 0])), none⟩, ⟨none, .st 6 (.t 5) (.t 12), none⟩, ⟨some 6, .mv (.t 13), none⟩] [7, 8, 9, 10, 11, 12, 13])
 (.seq (.ops [] [⟨some 14, .mv (.t 6), none⟩, ⟨some 15, .mv (.t 14), none⟩, ⟨some 16, .fad false 1 1 (.t 5), some (15, true)⟩, ⟨some 17, .ld false 1 (.t 16), some (15, true)⟩, ⟨some 18, .bin .eql (.t 17) (.c (.d (.int .i64 2))), some (15, true)⟩, ⟨some 19, .pick (.t 15) (.t 18) (.c (.d (.bool false))), none⟩, ⟨some 20, .mv (.t 19), none⟩, ⟨some 21, .fad false 3 1 (.t 5), some (20, true)⟩, ⟨some 22, .ld false 1 (.t 21), some (20, true)⟩, ⟨some 23, .fad false 1 1 (.t 3), some (20, true)⟩, ⟨some 24, .ld false 1 (.t 23), some (20, true)⟩, ⟨some 25, .bin .eql (.t 22) (.t 24), some (20, true)⟩, ⟨some 26, .pick (.t 20) (.t 25) (.c (.d (.bool false))), none⟩, ⟨some 27, .mv (.t 26), none⟩, ⟨some 28, .fad false 4 1 (.t 5), some (27, true)⟩, ⟨some 29, .ld false 1 (.t 28), some (27, true)⟩, ⟨some 30, .fad false 2 1 (.t 3), some (27, true)⟩, ⟨some 31, .ld false 1 (.t 30), some (27, true)⟩, ⟨some 32, .bin .eql (.t 29) (.t 31), some (27, true)⟩, ⟨some 33, .pick (.t 27) (.t 32) (.c (.d (.bool false))), none⟩, ⟨some 34, .mv (.t 33), none⟩, ⟨some 35, .fad false 5 1 (.t 5), some (34, true)⟩, ⟨some 36, .ld false 1 (.t 35), some (34, true)⟩, ⟨some 37, .fad false 1 1 (.t 2), some (34, true)⟩, ⟨some 38, .ld false 1 (.t 37), some (34, true)⟩, ⟨some 39, .bin .gtr (.t 36) (.t 38), some (34, true)⟩, ⟨some 40, .pick (.t 34) (.t 39) (.c (.d (.bool false))), none⟩, ⟨some 4, .mv (.t 40), none⟩] [2, 3, 5, 6, 14, 15, 16, 17, 18, 19, 20, 21, 22, 23, 24, 25, 26, 27, 28, 29, 30, 31, 32, 33, 34, 35, 36, 37, 38, 39, 40])
 (.ret [4]))))
def r_bag_Valid : List ARes := [.t 4]
def fn_bag_Valid : AFn := .code c_bag_Valid r_bag_Valid 41 true
def c_bag_Find : ACode :=
 (.seq (.ops [] [⟨some 2, .box (.t 0), none⟩, ⟨some 4, .alloc (.d (.agg [.int .i64 0, .int .i64 0, .int .i64 0, .int .i64 0, .int .i64 0, .int .i64 0])), none⟩, ⟨some 5, .mv (.c (.d (.bool false))), none⟩] [0, 5])
 (.seq (.ops [] [⟨some 7, .ld true 4 (.t 2), none⟩, ⟨some 8, .mv (.t 1), none⟩, ⟨some 9, .call N_bag_index [] [.t 7, .t 8], none⟩, ⟨some 6, .mv (.t 9), none⟩] [1, 7, 8, 9])
 (.seq (.seq (.ops [] [⟨some 10, .mv (.t 6), none⟩, ⟨some 11, .bin .lss (.t 10) (.c (.d (.int .i64 0))), none⟩] [10])
 (.cond (.t 11) (.seq (.ops [] [⟨some 12, .build [.d (.int .i64 0), .d (.int .i64 0), .d (.int .i64 0), .d (.int .i64 0), .d (.int .i64 0), .d (.int .i64 0)] [], none⟩, ⟨none, .st 6 (.t 4) (.t 12), none⟩, ⟨some 5, .mv (.c (.d (.bool false))), none⟩] [2, 6, 11, 12])
 (.ret [4, 5])) .skip))
 (.seq (.ops [] [⟨some 13, .fad false 3 1 (.t 2), none⟩, ⟨some 14, .ld false 1 (.t 13), none⟩, ⟨some 15, .mv (.t 6), none⟩, ⟨some 16, .iad 6 (.t 14) (.t 15), none⟩, ⟨some 17, .ld true 6 (.t 16), none⟩, ⟨none, .st 6 (.t 4) (.t 17), none⟩, ⟨some 5, .mv (.c (.d (.bool true))), none⟩] [2, 6, 11, 13, 14, 15, 16, 17])
 (.ret [4, 5])))))
def r_bag_Find : List ARes := [.c 4 true 6, .t 5]
def fn_bag_Find : AFn := .code c_bag_Find r_bag_Find 18 true
def c_bag_back : ACode :=
 (.seq (.ops [] [⟨some 4, .mv (.t 0), none⟩, ⟨some 5, .mv (.t 0), none⟩, ⟨some 6, .nilc (.t 4), none⟩, ⟨some 7, .fad false 1 1 (.t 6), none⟩, ⟨none, .st 1 (.t 7) (.c (.d (.int .i64 1))), none⟩, ⟨some 8, .nilc (.t 5), none⟩, ⟨some 9, .fad false 5 1 (.t 8), none⟩, ⟨none, .st 1 (.t 9) (.c (.d (.int .i64 0))), none⟩] [4, 5, 6, 7, 8, 9])
 (.seq (.ops [] [⟨some 10, .mv (.t 0), none⟩, ⟨some 11, .nilc (.t 10), none⟩, ⟨some 12, .fad false 2 1 (.t 11), none⟩, ⟨some 13, .ld false 1 (.t 12), none⟩, ⟨some 14, .mv (.t 1), none⟩, ⟨some 15, .bin .geq (.t 13) (.t 14), none⟩] [1, 10, 11, 12, 13, 14])
 (.cond (.t 15) (.ops [] [⟨some 16, .mv (.t 0), none⟩, ⟨some 17, .nilc (.t 16), none⟩, ⟨some 18, .fad false 1 1 (.t 17), none⟩, ⟨none, .st 1 (.t 18) (.c (.d (.int .i64 3))), none⟩] [0, 15, 16, 17, 18]) .skip)))
def r_bag_back : List ARes := []
def fn_bag_back : AFn := .code c_bag_back r_bag_back 19 true
def l_bag_purge_0 : ACode :=
 (.seq (.ops [] [⟨some 31, .bin .lss (.t 30) (.t 29), none⟩] [])
 (.seq (.cond (.t 31) .skip (.exit 0 []))
 (.seq (.block 1 (.seq (.ops [] [⟨some 32, .mv (.t 30), none⟩, ⟨some 5, .mv (.t 32), none⟩] [31, 32])
 (.draw [] [⟨some 33, .mv (.t 0), none⟩, ⟨some 34, .nilc (.t 33), none⟩, ⟨some 35, .fad false 3 1 (.t 34), none⟩, ⟨some 36, .ld false 1 (.t 35), none⟩, ⟨some 37, .mv (.t 5), none⟩, ⟨some 38, .mv (.t 0), none⟩, ⟨some 39, .nilc (.t 38), none⟩, ⟨some 40, .fad false 3 1 (.t 39), none⟩, ⟨some 41, .ld false 1 (.t 40), none⟩, ⟨some 42, .mv (.t 5), none⟩, ⟨some 43, .iad 6 (.t 36) (.t 37), none⟩, ⟨some 44, .fad false 1 1 (.t 43), none⟩, ⟨none, .st 1 (.t 44) (.c (.d (.int .i64 4))), none⟩, ⟨some 45, .iad 6 (.t 41) (.t 42), none⟩, ⟨some 46, .fad false 5 1 (.t 45), none⟩, ⟨none, .st 1 (.t 46) (.c (.d (.int .i64 0))), none⟩] [[], [], [], [], [0, 1, 2, 3], [0, 1, 2, 3, 4], [0, 1, 2, 3, 4], [0, 1, 2, 3, 4], [0, 1, 2, 3, 4], [0, 1, 2, 3, 4, 5, 6, 7, 8], [9], [9], [9], [], [], []] [5, 33, 34, 35, 36, 37, 38, 39, 40, 41, 42, 43, 44, 45, 46])))
 (.ops [] [⟨some 47, .bin .add (.t 30) (.c (.d (.int .i64 1))), none⟩, ⟨some 30, .mv (.t 47), none⟩] [47]))))
def c_bag_purge : ACode :=
 (.seq (.ops [] [⟨some 3, .box (.t 1), none⟩, ⟨some 4, .mv (.c (.d (.bool false))), none⟩] [1, 4])
 (.seq (.seq (.ops [] [⟨some 6, .fad false 6 1 (.t 3), none⟩, ⟨some 7, .ld false 1 (.t 6), none⟩, ⟨some 8, .bin .neq (.t 7) (.c (.d (.int .i64 0))), none⟩] [6, 7])
 (.cond (.t 8) (.seq (.ops [] [⟨some 9, .fad false 6 1 (.t 3), none⟩, ⟨some 10, .ld false 1 (.t 9), none⟩, ⟨some 11, .bin .eql (.t 10) (.c (.d (.int .i64 6))), none⟩, ⟨some 4, .mv (.t 11), none⟩] [0, 3, 8, 9, 10, 11])
 (.ret [4])) .skip))
 (.seq (.seq (.draw [] [⟨some 12, .mv (.t 0), none⟩, ⟨some 13, .nilc (.t 12), none⟩, ⟨some 14, .fad false 2 1 (.t 13), none⟩, ⟨some 15, .ld false 1 (.t 14), none⟩, ⟨some 16, .fad false 5 1 (.t 3), none⟩, ⟨some 17, .ld false 1 (.t 16), none⟩, ⟨some 18, .call N_bag_follows [] [.t 15, .t 17], none⟩, ⟨some 19, .un .not (.t 18), none⟩] [[], [], [], [], [0, 1, 2, 3], [0, 1, 2, 3], [], []] [8, 12, 13, 14, 15, 16, 17, 18])
 (.cond (.t 19) (.seq (.ops [] [⟨some 4, .mv (.c (.d (.bool false))), none⟩] [0, 3, 19])
 (.ret [4])) .skip))
 (.seq (.ops [] [⟨some 20, .mv (.t 0), none⟩, ⟨some 21, .fad false 5 1 (.t 3), none⟩, ⟨some 22, .ld false 1 (.t 21), none⟩, ⟨some 23, .nilc (.t 20), none⟩, ⟨some 24, .fad false 2 1 (.t 23), none⟩, ⟨none, .st 1 (.t 24) (.t 22), none⟩] [3, 19, 20, 21, 22, 23, 24])
 (.seq (.seq (.ops [] [⟨some 25, .mv (.t 0), none⟩, ⟨some 26, .nilc (.t 25), none⟩, ⟨some 27, .fad false 3 1 (.t 26), none⟩, ⟨some 28, .ld false 1 (.t 27), none⟩, ⟨some 29, .len (.t 28), none⟩, ⟨some 30, .mv (.c (.d (.int .i64 0))), none⟩] [25, 26, 27, 28])
 (.block 0 (.loop [] l_bag_purge_0)))
 (.seq (.ops [] [⟨some 4, .mv (.c (.d (.bool true))), none⟩] [0, 29, 30, 31])
 (.ret [4])))))))
def r_bag_purge : List ARes := [.t 4]
def fn_bag_purge : AFn := .code c_bag_purge r_bag_purge 48 true
def l_bag_Counts_0 : ACode :=
 (.seq (.ops [] [⟨some 10, .bin .lss (.t 9) (.t 8), none⟩] [])
 (.seq (.cond (.t 10) .skip (.exit 0 [2, 3]))
 (.seq (.block 1 (.seq (.ops [] [⟨some 11, .iad 6 (.t 7) (.t 9), none⟩, ⟨some 12, .ld true 6 (.t 11), none⟩, ⟨some 5, .alloc (.d (.agg [.int .i64 0, .int .i64 0, .int .i64 0, .int .i64 0, .int .i64 0, .int .i64 0])), none⟩, ⟨none, .st 6 (.t 5) (.t 12), none⟩] [10, 11, 12])
 (.seq (.ops [] [⟨some 13, .fad false 1 1 (.t 5), none⟩, ⟨some 14, .ld false 1 (.t 13), none⟩] [5, 13])
 (.block 2 (.seq (.ops [] [⟨some 16, .bin .eql (.t 14) (.c (.d (.int .i64 1))), none⟩, ⟨some 15, .mv (.t 16), none⟩] [16])
 (.cond (.t 15) (.ops [] [⟨some 17, .mv (.t 2), none⟩, ⟨some 18, .bin .add (.t 17) (.c (.d (.int .i64 1))), none⟩, ⟨some 2, .mv (.t 18), none⟩] [14, 15, 17, 18]) (.seq (.ops [] [⟨some 20, .bin .eql (.t 14) (.c (.d (.int .i64 2))), none⟩, ⟨some 19, .mv (.t 20), none⟩] [14, 15, 20])
 (.cond (.t 19) (.ops [] [⟨some 21, .mv (.t 3), none⟩, ⟨some 22, .bin .add (.t 21) (.c (.d (.int .i64 1))), none⟩, ⟨some 3, .mv (.t 22), none⟩] [19, 21, 22]) .skip))))))))
 (.ops [] [⟨some 23, .bin .add (.t 9) (.c (.d (.int .i64 1))), none⟩, ⟨some 9, .mv (.t 23), none⟩] [19, 23]))))
def c_bag_Counts : ACode :=
 (.seq (.ops [] [⟨some 1, .box (.t 0), none⟩, ⟨some 2, .mv (.c (.d (.int .i64 0))), none⟩, ⟨some 3, .mv (.c (.d (.int .i64 0))), none⟩] [0])
 (.seq (.seq (.ops [] [⟨some 6, .fad false 3 1 (.t 1), none⟩, ⟨some 7, .ld false 1 (.t 6), none⟩, ⟨some 8, .len (.t 7), none⟩, ⟨some 9, .mv (.c (.d (.int .i64 0))), none⟩] [1, 6])
 (.block 0 (.loop [] l_bag_Counts_0)))
 (.seq (.ops [] [⟨some 24, .mv (.t 2), none⟩, ⟨some 25, .mv (.t 3), none⟩, ⟨some 2, .mv (.t 24), none⟩, ⟨some 3, .mv (.t 25), none⟩] [7, 8, 9, 10, 24, 25])
 (.ret [2, 3]))))
def r_bag_Counts : List ARes := [.t 2, .t 3]
def fn_bag_Counts : AFn := .code c_bag_Counts r_bag_Counts 26 true
def c_bag_redrive : ACode :=
 (.seq (.ops [] [⟨some 3, .box (.t 1), none⟩, ⟨some 4, .mv (.c (.d (.bool false))), none⟩] [1, 4])
 (.seq (.seq (.ops [] [⟨some 5, .fad false 6 1 (.t 3), none⟩, ⟨some 6, .ld false 1 (.t 5), none⟩, ⟨some 7, .bin .neq (.t 6) (.c (.d (.int .i64 0))), none⟩] [5, 6])
 (.cond (.t 7) (.seq (.ops [] [⟨some 8, .fad false 6 1 (.t 3), none⟩, ⟨some 9, .ld false 1 (.t 8), none⟩, ⟨some 10, .bin .eql (.t 9) (.c (.d (.int .i64 3))), none⟩, ⟨some 4, .mv (.t 10), none⟩] [0, 3, 7, 8, 9, 10])
 (.ret [4])) .skip))
 (.seq (.ops [] [⟨some 11, .mv (.t 0), none⟩, ⟨some 12, .fad false 7 1 (.t 3), none⟩, ⟨some 13, .ld false 1 (.t 12), none⟩, ⟨some 14, .call N_bag_each [true, false, false] [.t 11, .t 13, .c (.d (.fn N_bag_redrive_1 []))], none⟩, ⟨some 4, .mv (.t 14), none⟩] [0, 3, 7, 11, 12, 13, 14])
 (.ret [4]))))
def r_bag_redrive : List ARes := [.t 4]
def fn_bag_redrive : AFn := .code c_bag_redrive r_bag_redrive 15 true
def c_bag_redrive_1 : ACode :=
 (.seq (.ops [] [⟨some 3, .box (.t 1), none⟩, ⟨some 4, .mv (.c (.d (.bool false))), none⟩] [1, 4])
 (.seq (.seq (.draw [] [⟨some 5, .mv (.t 0), none⟩, ⟨some 6, .nilc (.t 5), none⟩, ⟨some 7, .fad false 1 1 (.t 6), none⟩, ⟨some 8, .ld false 1 (.t 7), none⟩, ⟨some 9, .bin .neq (.t 8) (.c (.d (.int .i64 3))), none⟩, ⟨some 10, .mv (.t 9), none⟩, ⟨some 11, .mv (.t 0), some (10, false)⟩, ⟨some 12, .nilc (.t 11), some (10, false)⟩, ⟨some 13, .fad false 3 1 (.t 12), some (10, false)⟩, ⟨some 14, .ld false 1 (.t 13), some (10, false)⟩, ⟨some 15, .fad false 1 1 (.t 3), some (10, false)⟩, ⟨some 16, .ld false 1 (.t 15), some (10, false)⟩, ⟨some 17, .bin .neq (.t 14) (.t 16), some (10, false)⟩, ⟨some 18, .pick (.t 10) (.c (.d (.bool true))) (.t 17), none⟩] [[], [], [], [], [], [], [], [], [], [], [6, 7, 8, 9], [6, 7, 8, 9], [], []] [5, 6, 7, 8, 9, 10, 11, 12, 13, 14, 15, 16, 17])
 (.cond (.t 18) (.seq (.ops [] [⟨some 4, .mv (.c (.d (.bool false))), none⟩] [0, 3, 18])
 (.ret [4])) .skip))
 (.seq (.draw [] [⟨some 19, .mv (.t 0), none⟩, ⟨some 20, .mv (.t 0), none⟩, ⟨some 21, .mv (.t 0), none⟩, ⟨some 22, .fad false 2 1 (.t 3), none⟩, ⟨some 23, .ld false 1 (.t 22), none⟩, ⟨some 24, .nilc (.t 19), none⟩, ⟨some 25, .fad false 1 1 (.t 24), none⟩, ⟨none, .st 1 (.t 25) (.c (.d (.int .i64 1))), none⟩, ⟨some 26, .nilc (.t 20), none⟩, ⟨some 27, .fad false 2 1 (.t 26), none⟩, ⟨none, .st 1 (.t 27) (.c (.d (.int .i64 0))), none⟩, ⟨some 28, .nilc (.t 21), none⟩, ⟨some 29, .fad false 4 1 (.t 28), none⟩, ⟨none, .st 1 (.t 29) (.t 23), none⟩] [[], [0], [0, 1], [0, 1, 2], [0, 1, 2], [1, 2, 3, 4], [1, 2, 3, 4], [1, 2, 3, 4], [2, 3, 4], [2, 3, 4], [2, 3, 4], [], [], []] [0, 3, 18, 19, 20, 21, 22, 23, 24, 25, 26, 27, 28, 29])
 (.seq (.ops [] [⟨some 4, .mv (.c (.d (.bool true))), none⟩] [])
 (.ret [4])))))
def r_bag_redrive_1 : List ARes := [.t 4]
def fn_bag_redrive_1 : AFn := .code c_bag_redrive_1 r_bag_redrive_1 30 true
def c_bag_expire : ACode :=
 (.seq (.ops [] [⟨some 2, .box (.t 0), none⟩, ⟨some 3, .box (.t 1), none⟩, ⟨some 4, .mv (.c (.d (.bool false))), none⟩] [0, 1, 4])
 (.seq (.ops [] [⟨some 5, .fad false 6 1 (.t 3), none⟩, ⟨some 6, .ld false 1 (.t 5), none⟩, ⟨some 7, .bin .eql (.t 6) (.c (.d (.int .i64 0))), none⟩, ⟨some 8, .mv (.t 7), none⟩, ⟨some 9, .ld false 1 (.t 2), some (8, true)⟩, ⟨some 10, .fad false 7 1 (.t 3), some (8, true)⟩, ⟨some 11, .ld false 1 (.t 10), some (8, true)⟩, ⟨some 12, .mkfn N_bag_expire_1 [.t 2], some (8, true)⟩, ⟨some 13, .call N_bag_each [true, false, true] [.t 9, .t 11, .t 12], some (8, true)⟩, ⟨some 14, .pick (.t 8) (.t 13) (.c (.d (.bool false))), none⟩, ⟨some 4, .mv (.t 14), none⟩] [2, 3, 5, 6, 7, 8, 9, 10, 11, 12, 13, 14])
 (.ret [4])))
def r_bag_expire : List ARes := [.t 4]
def fn_bag_expire : AFn := .code c_bag_expire r_bag_expire 15 true
def c_bag_expire_1 : ACode :=
 (.seq (.ops [] [⟨some 4, .box (.t 1), none⟩, ⟨some 5, .mv (.c (.d (.bool false))), none⟩] [1, 4, 5])
 (.seq (.seq (.draw [] [⟨some 6, .mv (.t 0), none⟩, ⟨some 7, .nilc (.t 6), none⟩, ⟨some 8, .fad false 1 1 (.t 7), none⟩, ⟨some 9, .ld false 1 (.t 8), none⟩, ⟨some 10, .bin .neq (.t 9) (.c (.d (.int .i64 2))), none⟩, ⟨some 11, .mv (.t 10), none⟩, ⟨some 12, .mv (.t 0), some (11, false)⟩, ⟨some 13, .nilc (.t 12), some (11, false)⟩, ⟨some 14, .fad false 5 1 (.t 13), some (11, false)⟩, ⟨some 15, .ld false 1 (.t 14), some (11, false)⟩, ⟨some 16, .ld false 1 (.t 2), some (11, false)⟩, ⟨some 17, .nilc (.t 16), some (11, false)⟩, ⟨some 18, .fad false 1 1 (.t 17), some (11, false)⟩, ⟨some 19, .ld false 1 (.t 18), some (11, false)⟩, ⟨some 20, .bin .gtr (.t 15) (.t 19), some (11, false)⟩, ⟨some 21, .pick (.t 11) (.c (.d (.bool true))) (.t 20), none⟩] [[], [], [], [], [], [], [], [], [], [], [6, 7, 8, 9], [6, 7, 8, 9], [6, 7, 8, 9], [6, 7, 8, 9], [], []] [6, 7, 8, 9, 10, 11, 12, 13, 14, 15, 16, 17, 18, 19, 20])
 (.cond (.t 21) (.seq (.ops [] [⟨some 5, .mv (.c (.d (.bool false))), none⟩] [0, 2, 21])
 (.ret [5])) .skip))
 (.seq (.ops [] [⟨some 22, .mv (.t 0), none⟩, ⟨some 23, .ld false 1 (.t 2), none⟩, ⟨some 24, .nilc (.t 23), none⟩, ⟨some 25, .fad false 0 1 (.t 24), none⟩, ⟨some 26, .ld false 1 (.t 25), none⟩, ⟨some 27, .call N_bag_back [true, false] [.t 22, .t 26], none⟩] [0, 2, 21, 22, 23, 24, 25, 26, 27])
 (.seq (.ops [] [⟨some 5, .mv (.c (.d (.bool true))), none⟩] [])
 (.ret [5])))))
def r_bag_expire_1 : List ARes := [.t 5]
def fn_bag_expire_1 : AFn := .code c_bag_expire_1 r_bag_expire_1 28 true
def c_ref31_Step : ACode :=
 (.seq (.ops [] [⟨some 2, .box (.t 0), none⟩, ⟨some 3, .box (.t 1), none⟩, ⟨some 4, .alloc (.agg [.d (.int .i64 0), .d (.int .i64 0), .d (.int .i64 0), .xsl []]), none⟩, ⟨some 5, .mv (.c (.d (.int .i64 0))), none⟩] [0, 1, 5])
 (.seq (.seq (.ops [] [⟨some 8, .fad false 3 1 (.t 3), none⟩, ⟨some 9, .ld false 1 (.t 8), none⟩, ⟨some 10, .bin .lss (.t 9) (.c (.d (.int .i64 1))), none⟩, ⟨some 11, .mv (.t 10), none⟩, ⟨some 12, .fad false 3 1 (.t 3), some (11, false)⟩, ⟨some 13, .ld false 1 (.t 12), some (11, false)⟩, ⟨some 14, .bin .gtr (.t 13) (.c (.d (.int .i64 10))), some (11, false)⟩, ⟨some 15, .pick (.t 11) (.c (.d (.bool true))) (.t 14), none⟩] [8, 9, 10, 11, 12, 13, 14])
 (.cond (.t 15) (.seq (.ops [] [⟨some 16, .build [.d (.int .i64 0), .d (.int .i64 0), .d (.int .i64 0), .xsl []] [], none⟩, ⟨none, .st 4 (.t 4) (.t 16), none⟩, ⟨some 5, .mv (.c (.d (.int .i64 9))), none⟩] [2, 3, 15, 16])
 (.ret [4, 5])) .skip))
 (.seq (.ops [] [⟨some 17, .ld true 4 (.t 2), none⟩, ⟨some 6, .alloc (.agg [.d (.int .i64 0), .d (.int .i64 0), .d (.int .i64 0), .xsl []]), none⟩, ⟨none, .st 4 (.t 6) (.t 17), none⟩, ⟨some 7, .mv (.c (.d (.bool false))), none⟩] [15, 17])
 (.seq (.seq (.ops [] [⟨some 18, .ld true 4 (.t 2), none⟩, ⟨some 19, .ld true 10 (.t 3), none⟩, ⟨some 20, .call N_ref31_timed [] [.t 18, .t 19], none⟩] [18, 19])
 (.cond (.t 20) (.ops [] [⟨some 22, .ld true 4 (.t 2), none⟩, ⟨some 23, .ld true 10 (.t 3), none⟩, ⟨some 24, .call N_ref31_step [] [.t 22, .t 23], none⟩, ⟨some 21, .mv (.t 24), none⟩, ⟨some 25, .ext (.t 21) 0, none⟩, ⟨some 26, .ext (.t 21) 1, none⟩, ⟨none, .st 4 (.t 6) (.t 25), none⟩, ⟨some 7, .mv (.t 26), none⟩] [2, 3, 20, 21, 22, 23, 24, 25, 26]) .skip))
 (.seq (.seq (.ops [] [⟨some 27, .mv (.t 7), none⟩, ⟨some 28, .un .not (.t 27), none⟩] [2, 3, 7, 20, 27])
 (.cond (.t 28) (.seq (.ops [] [⟨some 29, .build [.d (.int .i64 0), .d (.int .i64 0), .d (.int .i64 0), .xsl []] [], none⟩, ⟨none, .st 4 (.t 4) (.t 29), none⟩, ⟨some 5, .mv (.c (.d (.int .i64 7))), none⟩] [6, 28, 29])
 (.ret [4, 5])) .skip))
 (.seq (.ops [] [⟨some 30, .ld true 4 (.t 6), none⟩, ⟨none, .st 4 (.t 4) (.t 30), none⟩, ⟨some 5, .mv (.c (.d (.int .i64 0))), none⟩] [6, 28, 30])
 (.ret [4, 5])))))))
def r_ref31_Step : List ARes := [.c 4 true 4, .t 5]
def fn_ref31_Step : AFn := .code c_ref31_Step r_ref31_Step 31 true
def c_ref31_timed : ACode :=
 (.seq (.ops [] [⟨some 2, .box (.t 0), none⟩, ⟨some 3, .box (.t 1), none⟩, ⟨some 4, .mv (.c (.d (.bool false))), none⟩] [0, 1, 4])
 (.seq (.ops [] [⟨some 6, .fad false 3 1 (.t 3), none⟩, ⟨some 7, .ld false 1 (.t 6), none⟩, ⟨some 8, .bin .eql (.t 7) (.c (.d (.int .i64 4))), none⟩, ⟨some 9, .mv (.t 8), none⟩, ⟨some 10, .fad false 3 1 (.t 3), some (9, false)⟩, ⟨some 11, .ld false 1 (.t 10), some (9, false)⟩, ⟨some 12, .bin .eql (.t 11) (.c (.d (.int .i64 5))), some (9, false)⟩, ⟨some 13, .pick (.t 9) (.c (.d (.bool true))) (.t 12), none⟩, ⟨some 14, .mv (.t 13), none⟩, ⟨some 15, .fad false 3 1 (.t 3), some (14, false)⟩, ⟨some 16, .ld false 1 (.t 15), some (14, false)⟩, ⟨some 17, .bin .eql (.t 16) (.c (.d (.int .i64 6))), some (14, false)⟩, ⟨some 18, .pick (.t 14) (.c (.d (.bool true))) (.t 17), none⟩, ⟨some 5, .mv (.t 18), none⟩] [6, 7, 8, 9, 10, 11, 12, 13, 14, 15, 16, 17, 18])
 (.seq (.seq (.ops [] [⟨some 19, .fad false 3 1 (.t 3), none⟩, ⟨some 20, .ld false 1 (.t 19), none⟩, ⟨some 21, .bin .eql (.t 20) (.c (.d (.int .i64 1))), none⟩, ⟨some 22, .mv (.t 21), none⟩, ⟨some 23, .fad false 3 1 (.t 3), some (22, false)⟩, ⟨some 24, .ld false 1 (.t 23), some (22, false)⟩, ⟨some 25, .bin .eql (.t 24) (.c (.d (.int .i64 7))), some (22, false)⟩, ⟨some 26, .pick (.t 22) (.c (.d (.bool true))) (.t 25), none⟩] [19, 20, 21, 22, 23, 24, 25])
 (.cond (.t 26) (.seq (.ops [] [⟨some 4, .mv (.c (.d (.bool true))), none⟩] [2, 3, 5, 26])
 (.ret [4])) .skip))
 (.seq (.seq (.ops [] [⟨some 27, .fad false 3 1 (.t 3), none⟩, ⟨some 28, .ld false 1 (.t 27), none⟩, ⟨some 29, .bin .eql (.t 28) (.c (.d (.int .i64 2))), none⟩, ⟨some 30, .mv (.t 29), none⟩, ⟨some 31, .fad false 6 1 (.t 3), some (30, true)⟩, ⟨some 32, .ld false 1 (.t 31), some (30, true)⟩, ⟨some 33, .bin .eql (.t 32) (.c (.d (.int .i64 6))), some (30, true)⟩, ⟨some 34, .pick (.t 30) (.t 33) (.c (.d (.bool false))), none⟩, ⟨some 35, .mv (.t 34), none⟩, ⟨some 36, .mv (.t 5), some (35, false)⟩, ⟨some 37, .mv (.t 36), some (35, false)⟩, ⟨some 38, .fad false 7 1 (.t 3), some (37, true)⟩, ⟨some 39, .ld false 1 (.t 38), some (37, true)⟩, ⟨some 40, .len (.t 39), some (37, true)⟩, ⟨some 41, .bin .eql (.t 40) (.c (.d (.int .i64 0))), some (37, true)⟩, ⟨some 42, .pick (.t 37) (.t 41) (.c (.d (.bool false))), some (35, false)⟩, ⟨some 43, .pick (.t 35) (.c (.d (.bool true))) (.t 42), none⟩] [5, 26, 27, 28, 29, 30, 31, 32, 33, 34, 35, 36, 37, 38, 39, 40, 41, 42])
 (.cond (.t 43) (.seq (.ops [] [⟨some 4, .mv (.c (.d (.bool true))), none⟩] [2, 3, 43])
 (.ret [4])) .skip))
 (.seq (.ops [] [⟨some 44, .fad false 5 1 (.t 3), none⟩, ⟨some 45, .ld false 1 (.t 44), none⟩, ⟨some 46, .fad false 2 1 (.t 2), none⟩, ⟨some 47, .ld false 1 (.t 46), none⟩, ⟨some 48, .bin .eql (.t 45) (.t 47), none⟩, ⟨some 49, .mv (.t 48), none⟩, ⟨some 50, .fad false 3 1 (.t 3), some (49, true)⟩, ⟨some 51, .ld false 1 (.t 50), some (49, true)⟩, ⟨some 52, .bin .eql (.t 51) (.c (.d (.int .i64 8))), some (49, true)⟩, ⟨some 53, .mv (.t 52), some (49, true)⟩, ⟨some 54, .fad false 4 1 (.t 3), some (53, false)⟩, ⟨some 55, .ld false 1 (.t 54), some (53, false)⟩, ⟨some 56, .fad false 1 1 (.t 2), some (53, false)⟩, ⟨some 57, .ld false 1 (.t 56), some (53, false)⟩, ⟨some 58, .bin .eql (.t 55) (.t 57), some (53, false)⟩, ⟨some 59, .pick (.t 53) (.c (.d (.bool true))) (.t 58), some (49, true)⟩, ⟨some 60, .pick (.t 49) (.t 59) (.c (.d (.bool false))), none⟩, ⟨some 4, .mv (.t 60), none⟩] [2, 3, 43, 44, 45, 46, 47, 48, 49, 50, 51, 52, 53, 54, 55, 56, 57, 58, 59, 60])
 (.ret [4]))))))
def r_ref31_timed : List ARes := [.t 4]
def fn_ref31_timed : AFn := .code c_ref31_timed r_ref31_timed 61 true
def l_ref31_step_0 : ACode :=
 (.seq (.seq (.ops [] [⟨some 87, .mv (.t 6), none⟩, ⟨some 88, .fad false 3 1 (.t 2), none⟩, ⟨some 89, .ld false 1 (.t 88), none⟩, ⟨some 90, .len (.t 89), none⟩, ⟨some 91, .bin .lss (.t 87) (.t 90), none⟩] [87, 88, 89, 90])
 (.cond (.t 91) .skip (.exit 1 [2, 4])))
 (.seq (.block 2 (.draw [170] [⟨some 94, .fad false 3 1 (.t 2), none⟩, ⟨some 95, .ld false 1 (.t 94), none⟩, ⟨some 96, .mv (.t 6), none⟩, ⟨some 97, .fad false 3 1 (.t 2), none⟩, ⟨some 98, .ld false 1 (.t 97), none⟩, ⟨some 99, .mv (.t 6), none⟩, ⟨some 100, .iad 6 (.t 95) (.t 96), none⟩, ⟨some 101, .fad false 1 1 (.t 100), none⟩, ⟨none, .st 1 (.t 101) (.c (.d (.int .i64 4))), none⟩, ⟨some 102, .iad 6 (.t 98) (.t 99), none⟩, ⟨some 103, .fad false 5 1 (.t 102), none⟩, ⟨none, .st 1 (.t 103) (.c (.d (.int .i64 0))), none⟩] [[], [], [0, 1], [0, 1, 2], [0, 1, 2], [0, 1, 2, 3, 4], [3, 4, 5], [3, 4, 5], [3, 4, 5], [], [], []] [91, 94, 95, 96, 97, 98, 99, 100, 101, 102, 103]))
 (.ops [] [⟨some 92, .mv (.t 6), none⟩, ⟨some 93, .bin .add (.t 92) (.c (.d (.int .i64 1))), none⟩, ⟨some 6, .mv (.t 93), none⟩] [92, 93])))
def l_ref31_step_1 : ACode :=
 (.seq (.seq (.ops [] [⟨some 137, .mv (.t 9), none⟩, ⟨some 138, .fad false 7 1 (.t 3), none⟩, ⟨some 139, .ld false 1 (.t 138), none⟩, ⟨some 140, .len (.t 139), none⟩, ⟨some 141, .bin .lss (.t 137) (.t 140), none⟩] [137, 138, 139, 140])
 (.cond (.t 141) .skip (.exit 3 [2, 4])))
 (.seq (.block 4 (.seq (.draw [] [⟨some 145, .ld true 4 (.t 2), none⟩, ⟨some 146, .fad false 7 1 (.t 3), none⟩, ⟨some 147, .ld false 1 (.t 146), none⟩, ⟨some 148, .mv (.t 9), none⟩, ⟨some 149, .iad 4 (.t 147) (.t 148), none⟩, ⟨some 150, .fad false 0 1 (.t 149), none⟩, ⟨some 151, .ld false 1 (.t 150), none⟩, ⟨some 152, .call N_ref31_Find [] [.t 145, .t 151], none⟩, ⟨some 144, .mv (.t 152), none⟩, ⟨some 153, .ext (.t 144) 0, none⟩, ⟨some 154, .ext (.t 144) 1, none⟩, ⟨some 10, .alloc (.d (.agg [.int .i64 0, .int .i64 0, .int .i64 0, .int .i64 0, .int .i64 0, .int .i64 0])), none⟩, ⟨none, .st 6 (.t 10) (.t 153), none⟩, ⟨some 11, .mv (.t 154), none⟩] [[], [0], [0], [0, 1, 2], [0], [0], [0], [], [], [], [9], [0, 1, 2, 3, 4, 5, 6, 7, 8, 9, 10], [10], []] [141, 144, 145, 146, 147, 148, 149, 150, 151, 152, 153, 154])
 (.seq (.seq (.draw [] [⟨some 155, .mv (.t 11), none⟩, ⟨some 156, .un .not (.t 155), none⟩, ⟨some 157, .mv (.t 156), none⟩, ⟨some 158, .fad false 1 1 (.t 10), some (157, false)⟩, ⟨some 159, .ld false 1 (.t 158), some (157, false)⟩, ⟨some 160, .bin .neq (.t 159) (.c (.d (.int .i64 3))), some (157, false)⟩, ⟨some 161, .pick (.t 157) (.c (.d (.bool true))) (.t 160), none⟩, ⟨some 162, .mv (.t 161), none⟩, ⟨some 163, .fad false 3 1 (.t 10), some (162, false)⟩, ⟨some 164, .ld false 1 (.t 163), some (162, false)⟩, ⟨some 165, .fad false 7 1 (.t 3), some (162, false)⟩, ⟨some 166, .ld false 1 (.t 165), some (162, false)⟩, ⟨some 167, .mv (.t 9), some (162, false)⟩, ⟨some 168, .iad 4 (.t 166) (.t 167), some (162, false)⟩, ⟨some 169, .fad false 1 1 (.t 168), some (162, false)⟩, ⟨some 170, .ld false 1 (.t 169), some (162, false)⟩, ⟨some 171, .bin .neq (.t 164) (.t 170), some (162, false)⟩, ⟨some 172, .pick (.t 162) (.c (.d (.bool true))) (.t 171), none⟩] [[], [], [], [], [], [], [], [], [], [], [8, 9], [8, 9], [8, 9, 10, 11], [8, 9], [8, 9], [8, 9], [], []] [11, 155, 156, 157, 158, 159, 160, 161, 162, 163, 164, 165, 166, 167, 168, 169, 170, 171])
 (.cond (.t 172) (.seq (.ops [] [⟨some 173, .ld true 4 (.t 2), none⟩, ⟨none, .st 4 (.t 4) (.t 173), none⟩, ⟨some 5, .mv (.c (.d (.bool false))), none⟩] [2, 3, 9, 10, 172, 173])
 (.ret [4, 5])) .skip))
 (.seq (.draw [] [⟨some 174, .fad false 7 1 (.t 3), none⟩, ⟨some 175, .ld false 1 (.t 174), none⟩, ⟨some 176, .mv (.t 9), none⟩, ⟨some 177, .iad 4 (.t 175) (.t 176), none⟩, ⟨some 178, .fad false 2 1 (.t 177), none⟩, ⟨some 179, .ld false 1 (.t 178), none⟩, ⟨some 180, .fad false 1 1 (.t 10), none⟩, ⟨none, .st 1 (.t 180) (.c (.d (.int .i64 1))), none⟩, ⟨some 181, .fad false 2 1 (.t 10), none⟩, ⟨none, .st 1 (.t 181) (.c (.d (.int .i64 0))), none⟩, ⟨some 182, .fad false 4 1 (.t 10), none⟩, ⟨none, .st 1 (.t 182) (.t 179), none⟩] [[], [], [0, 1], [], [], [], [0, 1, 2, 3, 4, 5], [0, 1, 2, 3, 4, 5], [0, 1, 2, 3, 4, 5], [0, 1, 2, 3, 4, 5], [], []] [172, 174, 175, 176, 177, 178, 179, 180, 181, 182])
 (.ops [] [⟨some 183, .ld true 4 (.t 2), none⟩, ⟨some 184, .ld true 6 (.t 10), none⟩, ⟨some 185, .call N_ref31_set [] [.t 183, .t 184], none⟩, ⟨none, .st 4 (.t 2) (.t 185), none⟩] [10, 183, 184, 185])))))
 (.ops [] [⟨some 142, .mv (.t 9), none⟩, ⟨some 143, .bin .add (.t 142) (.c (.d (.int .i64 1))), none⟩, ⟨some 9, .mv (.t 143), none⟩] [142, 143])))
def l_ref31_step_2 : ACode :=
 (.seq (.seq (.ops [] [⟨some 191, .mv (.t 12), none⟩, ⟨some 192, .fad false 7 1 (.t 3), none⟩, ⟨some 193, .ld false 1 (.t 192), none⟩, ⟨some 194, .len (.t 193), none⟩, ⟨some 195, .bin .lss (.t 191) (.t 194), none⟩] [191, 192, 193, 194])
 (.cond (.t 195) .skip (.exit 5 [2, 4])))
 (.seq (.block 6 (.seq (.draw [] [⟨some 199, .ld true 4 (.t 2), none⟩, ⟨some 200, .fad false 7 1 (.t 3), none⟩, ⟨some 201, .ld false 1 (.t 200), none⟩, ⟨some 202, .mv (.t 12), none⟩, ⟨some 203, .iad 4 (.t 201) (.t 202), none⟩, ⟨some 204, .fad false 0 1 (.t 203), none⟩, ⟨some 205, .ld false 1 (.t 204), none⟩, ⟨some 206, .call N_ref31_Find [] [.t 199, .t 205], none⟩, ⟨some 198, .mv (.t 206), none⟩, ⟨some 207, .ext (.t 198) 0, none⟩, ⟨some 208, .ext (.t 198) 1, none⟩, ⟨some 13, .alloc (.d (.agg [.int .i64 0, .int .i64 0, .int .i64 0, .int .i64 0, .int .i64 0, .int .i64 0])), none⟩, ⟨none, .st 6 (.t 13) (.t 207), none⟩, ⟨some 14, .mv (.t 208), none⟩] [[], [0], [0], [0, 1, 2], [0], [0], [0], [], [], [], [9], [0, 1, 2, 3, 4, 5, 6, 7, 8, 9, 10], [10], []] [195, 198, 199, 200, 201, 202, 203, 204, 205, 206, 207, 208])
 (.seq (.seq (.ops [] [⟨some 209, .mv (.t 14), none⟩, ⟨some 210, .un .not (.t 209), none⟩, ⟨some 211, .mv (.t 210), none⟩, ⟨some 212, .fad false 1 1 (.t 13), some (211, false)⟩, ⟨some 213, .ld false 1 (.t 212), some (211, false)⟩, ⟨some 214, .bin .neq (.t 213) (.c (.d (.int .i64 2))), some (211, false)⟩, ⟨some 215, .pick (.t 211) (.c (.d (.bool true))) (.t 214), none⟩, ⟨some 216, .mv (.t 215), none⟩, ⟨some 217, .fad false 5 1 (.t 13), some (216, false)⟩, ⟨some 218, .ld false 1 (.t 217), some (216, false)⟩, ⟨some 219, .fad false 1 1 (.t 2), some (216, false)⟩, ⟨some 220, .ld false 1 (.t 219), some (216, false)⟩, ⟨some 221, .bin .gtr (.t 218) (.t 220), some (216, false)⟩, ⟨some 222, .pick (.t 216) (.c (.d (.bool true))) (.t 221), none⟩] [14, 209, 210, 211, 212, 213, 214, 215, 216, 217, 218, 219, 220, 221])
 (.cond (.t 222) (.seq (.ops [] [⟨some 223, .ld true 4 (.t 2), none⟩, ⟨none, .st 4 (.t 4) (.t 223), none⟩, ⟨some 5, .mv (.c (.d (.bool false))), none⟩] [2, 3, 12, 13, 222, 223])
 (.ret [4, 5])) .skip))
 (.draw [] [⟨some 224, .ld true 4 (.t 2), none⟩, ⟨some 225, .ld true 4 (.t 2), none⟩, ⟨some 226, .ld true 6 (.t 13), none⟩, ⟨some 227, .call N_ref31_released [] [.t 225, .t 226], none⟩, ⟨some 228, .call N_ref31_set [] [.t 224, .t 227], none⟩, ⟨none, .st 4 (.t 2) (.t 228), none⟩] [[], [0], [0, 1], [0], [], []] [13, 222, 224, 225, 226, 227, 228]))))
 (.ops [] [⟨some 196, .mv (.t 12), none⟩, ⟨some 197, .bin .add (.t 196) (.c (.d (.int .i64 1))), none⟩, ⟨some 12, .mv (.t 197), none⟩] [196, 197])))
def c_ref31_step : ACode :=
 (.seq (.ops [] [⟨some 2, .box (.t 0), none⟩, ⟨some 3, .box (.t 1), none⟩, ⟨some 4, .alloc (.agg [.d (.int .i64 0), .d (.int .i64 0), .d (.int .i64 0), .xsl []]), none⟩, ⟨some 5, .mv (.c (.d (.bool false))), none⟩] [0, 1, 5])
 (.seq (.seq (.ops [] [⟨some 15, .fad false 3 1 (.t 3), none⟩, ⟨some 16, .ld false 1 (.t 15), none⟩] [15])
 (.block 0 (.seq (.ops [] [⟨some 18, .bin .eql (.t 16) (.c (.d (.int .i64 1))), none⟩, ⟨some 17, .mv (.t 18), none⟩] [18])
 (.cond (.t 17) (.seq (.seq (.ops [] [⟨some 19, .fad false 6 1 (.t 3), none⟩, ⟨some 20, .ld false 1 (.t 19), none⟩, ⟨some 21, .bin .neq (.t 20) (.c (.d (.int .i64 0))), none⟩, ⟨some 22, .mv (.t 21), none⟩, ⟨some 23, .fad false 4 1 (.t 3), some (22, false)⟩, ⟨some 24, .ld false 1 (.t 23), some (22, false)⟩, ⟨some 25, .fad false 1 1 (.t 2), some (22, false)⟩, ⟨some 26, .ld false 1 (.t 25), some (22, false)⟩, ⟨some 27, .bin .lss (.t 24) (.t 26), some (22, false)⟩, ⟨some 28, .pick (.t 22) (.c (.d (.bool true))) (.t 27), none⟩] [16, 17, 19, 20, 21, 22, 23, 24, 25, 26, 27])
 (.cond (.t 28) (.seq (.ops [] [⟨some 29, .ld true 4 (.t 2), none⟩, ⟨none, .st 4 (.t 4) (.t 29), none⟩, ⟨some 5, .mv (.c (.d (.bool false))), none⟩] [2, 3, 28, 29])
 (.ret [4, 5])) .skip))
 (.seq (.ops [] [⟨some 30, .fad false 4 1 (.t 3), none⟩, ⟨some 31, .ld false 1 (.t 30), none⟩, ⟨some 32, .fad false 1 1 (.t 2), none⟩, ⟨none, .st 1 (.t 32) (.t 31), none⟩] [3, 28, 30, 31, 32])
 (.seq (.ops [] [⟨some 33, .ld true 4 (.t 2), none⟩, ⟨none, .st 4 (.t 4) (.t 33), none⟩, ⟨some 5, .mv (.c (.d (.bool true))), none⟩] [2, 33])
 (.ret [4, 5])))) (.seq (.ops [] [⟨some 35, .bin .eql (.t 16) (.c (.d (.int .i64 2))), none⟩, ⟨some 34, .mv (.t 35), none⟩] [17, 35])
 (.cond (.t 34) (.seq (.ops [] [⟨some 36, .ld true 4 (.t 2), none⟩, ⟨some 37, .ld true 10 (.t 3), none⟩, ⟨some 38, .call N_ref31_send [] [.t 36, .t 37], none⟩, ⟨some 39, .ext (.t 38) 0, none⟩, ⟨some 40, .ext (.t 38) 1, none⟩, ⟨none, .st 4 (.t 4) (.t 39), none⟩, ⟨some 5, .mv (.t 40), none⟩] [2, 3, 16, 34, 36, 37, 38, 39, 40])
 (.ret [4, 5])) (.seq (.ops [] [⟨some 42, .bin .eql (.t 16) (.c (.d (.int .i64 3))), none⟩, ⟨some 41, .mv (.t 42), none⟩] [34, 42])
 (.cond (.t 41) (.seq (.ops [] [⟨some 43, .ld true 4 (.t 2), none⟩, ⟨some 44, .ld true 10 (.t 3), none⟩, ⟨some 45, .call N_ref31_receive [] [.t 43, .t 44], none⟩, ⟨some 46, .ext (.t 45) 0, none⟩, ⟨some 47, .ext (.t 45) 1, none⟩, ⟨none, .st 4 (.t 4) (.t 46), none⟩, ⟨some 5, .mv (.t 47), none⟩] [2, 3, 16, 41, 43, 44, 45, 46, 47])
 (.ret [4, 5])) (.seq (.seq (.ops [] [⟨some 49, .bin .eql (.t 16) (.c (.d (.int .i64 4))), none⟩, ⟨some 48, .mv (.t 49), none⟩] [41, 49])
 (.cond (.t 48) .skip (.seq (.ops [] [⟨some 50, .bin .eql (.t 16) (.c (.d (.int .i64 5))), none⟩, ⟨some 48, .mv (.t 50), none⟩] [50])
 (.cond (.t 48) .skip (.ops [] [⟨some 51, .bin .eql (.t 16) (.c (.d (.int .i64 6))), none⟩, ⟨some 48, .mv (.t 51), none⟩] [51])))))
 (.cond (.t 48) (.seq (.ops [] [⟨some 52, .ld true 4 (.t 2), none⟩, ⟨some 53, .ld true 10 (.t 3), none⟩, ⟨some 54, .call N_ref31_settle [] [.t 52, .t 53], none⟩, ⟨some 55, .ext (.t 54) 0, none⟩, ⟨some 56, .ext (.t 54) 1, none⟩, ⟨none, .st 4 (.t 4) (.t 55), none⟩, ⟨some 5, .mv (.t 56), none⟩] [2, 3, 16, 48, 52, 53, 54, 55, 56])
 (.ret [4, 5])) (.seq (.ops [] [⟨some 58, .bin .eql (.t 16) (.c (.d (.int .i64 7))), none⟩, ⟨some 57, .mv (.t 58), none⟩] [48, 58])
 (.cond (.t 57) (.seq (.seq (.ops [] [⟨some 59, .fad false 6 1 (.t 3), none⟩, ⟨some 60, .ld false 1 (.t 59), none⟩, ⟨some 61, .bin .neq (.t 60) (.c (.d (.int .i64 0))), none⟩] [16, 57, 59, 60])
 (.cond (.t 61) (.seq (.draw [] [⟨some 62, .ld true 4 (.t 2), none⟩, ⟨some 63, .fad false 6 1 (.t 3), none⟩, ⟨some 64, .ld false 1 (.t 63), none⟩, ⟨some 65, .bin .eql (.t 64) (.c (.d (.int .i64 6))), none⟩, ⟨none, .st 4 (.t 4) (.t 62), none⟩, ⟨some 5, .mv (.t 65), none⟩] [[], [0], [0], [0], [1, 2, 3], []] [2, 3, 61, 62, 63, 64, 65])
 (.ret [4, 5])) .skip))
 (.seq (.seq (.ops [] [⟨some 66, .fad false 5 1 (.t 3), none⟩, ⟨some 67, .ld false 1 (.t 66), none⟩, ⟨some 68, .fad false 2 1 (.t 2), none⟩, ⟨some 69, .ld false 1 (.t 68), none⟩, ⟨some 70, .bin .leq (.t 67) (.t 69), none⟩, ⟨some 71, .mv (.t 70), none⟩, ⟨some 72, .fad false 5 1 (.t 3), some (71, false)⟩, ⟨some 73, .ld false 1 (.t 72), some (71, false)⟩, ⟨some 74, .bin .sub (.t 73) (.c (.d (.int .i64 1))), some (71, false)⟩, ⟨some 75, .fad false 2 1 (.t 2), some (71, false)⟩, ⟨some 76, .ld false 1 (.t 75), some (71, false)⟩, ⟨some 77, .bin .neq (.t 74) (.t 76), some (71, false)⟩, ⟨some 78, .pick (.t 71) (.c (.d (.bool true))) (.t 77), none⟩] [61, 66, 67, 68, 69, 70, 71, 72, 73, 74, 75, 76, 77])
 (.cond (.t 78) (.seq (.ops [] [⟨some 79, .ld true 4 (.t 2), none⟩, ⟨none, .st 4 (.t 4) (.t 79), none⟩, ⟨some 5, .mv (.c (.d (.bool false))), none⟩] [2, 3, 78, 79])
 (.ret [4, 5])) .skip))
 (.seq (.ops [] [⟨some 80, .fad false 5 1 (.t 3), none⟩, ⟨some 81, .ld false 1 (.t 80), none⟩, ⟨some 82, .fad false 2 1 (.t 2), none⟩, ⟨none, .st 1 (.t 82) (.t 81), none⟩] [3, 78, 80, 81, 82])
 (.seq (.ops [] [⟨some 83, .fad false 3 1 (.t 2), none⟩, ⟨some 84, .ld false 1 (.t 83), none⟩, ⟨some 85, .app 6 (.c (.xsl [])) (.t 84), none⟩, ⟨some 86, .fad false 3 1 (.t 2), none⟩, ⟨none, .st 1 (.t 86) (.t 85), none⟩] [83, 84, 85, 86])
 (.seq (.seq (.ops [170] [⟨some 6, .mv (.c (.d (.int .i64 0))), none⟩] [])
 (.block 1 (.loop [] l_ref31_step_0)))
 (.seq (.ops [] [⟨some 104, .ld true 4 (.t 2), none⟩, ⟨none, .st 4 (.t 4) (.t 104), none⟩, ⟨some 5, .mv (.c (.d (.bool true))), none⟩] [2, 6, 91, 104])
 (.ret [4, 5]))))))) (.seq (.ops [] [⟨some 106, .bin .eql (.t 16) (.c (.d (.int .i64 8))), none⟩, ⟨some 105, .mv (.t 106), none⟩] [57, 106])
 (.cond (.t 105) (.seq (.ops [] [⟨some 108, .ld true 4 (.t 2), none⟩, ⟨some 109, .call N_ref31_Counts [] [.t 108], none⟩, ⟨some 107, .mv (.t 109), none⟩, ⟨some 110, .ext (.t 107) 0, none⟩, ⟨some 111, .ext (.t 107) 1, none⟩, ⟨some 7, .mv (.t 110), none⟩, ⟨some 8, .mv (.t 111), none⟩] [16, 105, 107, 108, 109, 110, 111])
 (.seq (.draw [] [⟨some 112, .ld true 4 (.t 2), none⟩, ⟨some 113, .fad false 6 1 (.t 3), none⟩, ⟨some 114, .ld false 1 (.t 113), none⟩, ⟨some 115, .bin .eql (.t 114) (.c (.d (.int .i64 0))), none⟩, ⟨some 116, .mv (.t 115), none⟩, ⟨some 117, .fad false 8 1 (.t 3), some (116, true)⟩, ⟨some 118, .ld false 1 (.t 117), some (116, true)⟩, ⟨some 119, .mv (.t 7), some (116, true)⟩, ⟨some 120, .bin .eql (.t 118) (.t 119), some (116, true)⟩, ⟨some 121, .pick (.t 116) (.t 120) (.c (.d (.bool false))), none⟩, ⟨some 122, .mv (.t 121), none⟩, ⟨some 123, .fad false 9 1 (.t 3), some (122, true)⟩, ⟨some 124, .ld false 1 (.t 123), some (122, true)⟩, ⟨some 125, .mv (.t 8), some (122, true)⟩, ⟨some 126, .bin .eql (.t 124) (.t 125), some (122, true)⟩, ⟨some 127, .pick (.t 122) (.t 126) (.c (.d (.bool false))), none⟩, ⟨none, .st 4 (.t 4) (.t 112), none⟩, ⟨some 5, .mv (.t 127), none⟩] [[], [0], [0], [0], [0], [0], [0], [0, 5, 6], [0], [0], [0], [0], [0], [0, 11, 12], [0], [0], [11, 12, 13, 14, 15], []] [2, 3, 7, 8, 112, 113, 114, 115, 116, 117, 118, 119, 120, 121, 122, 123, 124, 125, 126, 127])
 (.ret [4, 5]))) (.seq (.ops [] [⟨some 129, .bin .eql (.t 16) (.c (.d (.int .i64 9))), none⟩, ⟨some 128, .mv (.t 129), none⟩] [16, 105, 129])
 (.cond (.t 128) (.seq (.seq (.ops [] [⟨some 130, .fad false 6 1 (.t 3), none⟩, ⟨some 131, .ld false 1 (.t 130), none⟩, ⟨some 132, .bin .neq (.t 131) (.c (.d (.int .i64 0))), none⟩] [128, 130, 131])
 (.cond (.t 132) (.seq (.draw [] [⟨some 133, .ld true 4 (.t 2), none⟩, ⟨some 134, .fad false 6 1 (.t 3), none⟩, ⟨some 135, .ld false 1 (.t 134), none⟩, ⟨some 136, .bin .eql (.t 135) (.c (.d (.int .i64 3))), none⟩, ⟨none, .st 4 (.t 4) (.t 133), none⟩, ⟨some 5, .mv (.t 136), none⟩] [[], [0], [0], [0], [1, 2, 3], []] [2, 3, 132, 133, 134, 135, 136])
 (.ret [4, 5])) .skip))
 (.seq (.seq (.ops [] [⟨some 9, .mv (.c (.d (.int .i64 0))), none⟩] [132])
 (.block 3 (.loop [] l_ref31_step_1)))
 (.seq (.ops [] [⟨some 186, .ld true 4 (.t 2), none⟩, ⟨none, .st 4 (.t 4) (.t 186), none⟩, ⟨some 5, .mv (.c (.d (.bool true))), none⟩] [2, 3, 9, 141, 186])
 (.ret [4, 5])))) .skip))))))))))))))))
 (.seq (.seq (.ops [] [⟨some 187, .fad false 6 1 (.t 3), none⟩, ⟨some 188, .ld false 1 (.t 187), none⟩, ⟨some 189, .bin .neq (.t 188) (.c (.d (.int .i64 0))), none⟩] [128, 187, 188])
 (.cond (.t 189) (.seq (.ops [] [⟨some 190, .ld true 4 (.t 2), none⟩, ⟨none, .st 4 (.t 4) (.t 190), none⟩, ⟨some 5, .mv (.c (.d (.bool false))), none⟩] [2, 3, 189, 190])
 (.ret [4, 5])) .skip))
 (.seq (.seq (.ops [] [⟨some 12, .mv (.c (.d (.int .i64 0))), none⟩] [189])
 (.block 5 (.loop [] l_ref31_step_2)))
 (.seq (.ops [] [⟨some 229, .ld true 4 (.t 2), none⟩, ⟨none, .st 4 (.t 4) (.t 229), none⟩, ⟨some 5, .mv (.c (.d (.bool true))), none⟩] [2, 3, 12, 195, 229])
 (.ret [4, 5]))))))
def r_ref31_step : List ARes := [.c 4 true 4, .t 5]
def fn_ref31_step : AFn := .code c_ref31_step r_ref31_step 230 true
def l_ref31_send_0 : ACode :=
 (.seq (.seq (.draw [] [⟨some 43, .mv (.t 6), none⟩, ⟨some 44, .fad false 3 1 (.t 2), none⟩, ⟨some 45, .ld false 1 (.t 44), none⟩, ⟨some 46, .len (.t 45), none⟩, ⟨some 47, .bin .lss (.t 43) (.t 46), none⟩, ⟨some 48, .mv (.t 47), none⟩, ⟨some 49, .fad false 3 1 (.t 2), some (48, true)⟩, ⟨some 50, .ld false 1 (.t 49), some (48, true)⟩, ⟨some 51, .mv (.t 6), some (48, true)⟩, ⟨some 52, .iad 6 (.t 50) (.t 51), some (48, true)⟩, ⟨some 53, .fad false 0 1 (.t 52), some (48, true)⟩, ⟨some 54, .ld false 1 (.t 53), some (48, true)⟩, ⟨some 55, .fad false 7 1 (.t 3), some (48, true)⟩, ⟨some 56, .ld false 1 (.t 55), some (48, true)⟩, ⟨some 57, .iad 4 (.t 56) (.c (.d (.int .i64 0))), some (48, true)⟩, ⟨some 58, .fad false 0 1 (.t 57), some (48, true)⟩, ⟨some 59, .ld false 1 (.t 58), some (48, true)⟩, ⟨some 60, .bin .lss (.t 54) (.t 59), some (48, true)⟩, ⟨some 61, .pick (.t 48) (.t 60) (.c (.d (.bool false))), none⟩] [[], [0], [0], [0], [], [], [], [], [6, 7], [], [], [], [6, 7, 8, 9, 10, 11], [6, 7, 8, 9, 10, 11], [6, 7, 8, 9, 10, 11], [6, 7, 8, 9, 10, 11], [6, 7, 8, 9, 10, 11], [], []] [43, 44, 45, 46, 47, 48, 49, 50, 51, 52, 53, 54, 55, 56, 57, 58, 59, 60])
 (.cond (.t 61) .skip (.exit 0 [2, 3, 4, 6])))
 (.block 1 (.ops [] [⟨some 62, .mv (.t 6), none⟩, ⟨some 63, .bin .add (.t 62) (.c (.d (.int .i64 1))), none⟩, ⟨some 6, .mv (.t 63), none⟩] [61, 62, 63])))
def c_ref31_send : ACode :=
 (.seq (.ops [] [⟨some 2, .box (.t 0), none⟩, ⟨some 3, .box (.t 1), none⟩, ⟨some 4, .alloc (.agg [.d (.int .i64 0), .d (.int .i64 0), .d (.int .i64 0), .xsl []]), none⟩, ⟨some 5, .mv (.c (.d (.bool false))), none⟩] [0, 1, 5])
 (.seq (.seq (.ops [] [⟨some 8, .fad false 6 1 (.t 3), none⟩, ⟨some 9, .ld false 1 (.t 8), none⟩, ⟨some 10, .bin .neq (.t 9) (.c (.d (.int .i64 0))), none⟩] [8, 9])
 (.cond (.t 10) (.seq (.draw [] [⟨some 11, .ld true 4 (.t 2), none⟩, ⟨some 12, .fad false 6 1 (.t 3), none⟩, ⟨some 13, .ld false 1 (.t 12), none⟩, ⟨some 14, .bin .eql (.t 13) (.c (.d (.int .i64 3))), none⟩, ⟨some 15, .mv (.t 14), none⟩, ⟨some 16, .fad false 6 1 (.t 3), some (15, false)⟩, ⟨some 17, .ld false 1 (.t 16), some (15, false)⟩, ⟨some 18, .bin .eql (.t 17) (.c (.d (.int .i64 6))), some (15, false)⟩, ⟨some 19, .pick (.t 15) (.c (.d (.bool true))) (.t 18), none⟩, ⟨none, .st 4 (.t 4) (.t 11), none⟩, ⟨some 5, .mv (.t 19), none⟩] [[], [0], [0], [0], [0], [0], [0], [0], [0], [5, 6, 7, 8], []] [2, 3, 10, 11, 12, 13, 14, 15, 16, 17, 18, 19])
 (.ret [4, 5])) .skip))
 (.seq (.seq (.draw [] [⟨some 20, .fad false 7 1 (.t 3), none⟩, ⟨some 21, .ld false 1 (.t 20), none⟩, ⟨some 22, .len (.t 21), none⟩, ⟨some 23, .bin .neq (.t 22) (.c (.d (.int .i64 1))), none⟩, ⟨some 24, .mv (.t 23), none⟩, ⟨some 25, .fad false 7 1 (.t 3), some (24, false)⟩, ⟨some 26, .ld false 1 (.t 25), some (24, false)⟩, ⟨some 27, .iad 4 (.t 26) (.c (.d (.int .i64 0))), some (24, false)⟩, ⟨some 28, .fad false 1 1 (.t 27), some (24, false)⟩, ⟨some 29, .ld false 1 (.t 28), some (24, false)⟩, ⟨some 30, .bin .neq (.t 29) (.c (.d (.int .i64 0))), some (24, false)⟩, ⟨some 31, .pick (.t 24) (.c (.d (.bool true))) (.t 30), none⟩, ⟨some 32, .mv (.t 31), none⟩, ⟨some 33, .ld true 4 (.t 2), some (32, false)⟩, ⟨some 34, .fad false 7 1 (.t 3), some (32, false)⟩, ⟨some 35, .ld false 1 (.t 34), some (32, false)⟩, ⟨some 36, .iad 4 (.t 35) (.c (.d (.int .i64 0))), some (32, false)⟩, ⟨some 37, .fad false 0 1 (.t 36), some (32, false)⟩, ⟨some 38, .ld false 1 (.t 37), some (32, false)⟩, ⟨some 39, .call N_ref31_index [] [.t 33, .t 38], some (32, false)⟩, ⟨some 40, .bin .geq (.t 39) (.c (.d (.int .i64 0))), some (32, false)⟩, ⟨some 41, .pick (.t 32) (.c (.d (.bool true))) (.t 40), none⟩] [[], [], [], [], [], [], [], [], [], [], [], [], [], [], [13], [13], [13], [13], [13], [], [], []] [10, 20, 21, 22, 23, 24, 25, 26, 27, 28, 29, 30, 31, 32, 33, 34, 35, 36, 37, 38, 39, 40])
 (.cond (.t 41) (.seq (.ops [] [⟨some 42, .ld true 4 (.t 2), none⟩, ⟨none, .st 4 (.t 4) (.t 42), none⟩, ⟨some 5, .mv (.c (.d (.bool false))), none⟩] [2, 3, 41, 42])
 (.ret [4, 5])) .skip))
 (.seq (.ops [] [⟨some 6, .mv (.c (.d (.int .i64 0))), none⟩] [41])
 (.seq (.block 0 (.loop [] l_ref31_send_0))
 (.seq (.draw [] [⟨some 64, .fad false 3 1 (.t 2), none⟩, ⟨some 65, .ld false 1 (.t 64), none⟩, ⟨some 66, .mv (.t 6), none⟩, ⟨some 67, .slc 6 (.t 65) none (some (.t 66)) none, none⟩, ⟨some 68, .app 6 (.c (.xsl [])) (.t 67), none⟩, ⟨some 69, .fad false 7 1 (.t 3), none⟩, ⟨some 70, .ld false 1 (.t 69), none⟩, ⟨some 71, .iad 4 (.t 70) (.c (.d (.int .i64 0))), none⟩, ⟨some 72, .fad false 0 1 (.t 71), none⟩, ⟨some 73, .ld false 1 (.t 72), none⟩, ⟨some 74, .fad false 7 1 (.t 3), none⟩, ⟨some 75, .ld false 1 (.t 74), none⟩, ⟨some 76, .iad 4 (.t 75) (.c (.d (.int .i64 0))), none⟩, ⟨some 77, .fad false 2 1 (.t 76), none⟩, ⟨some 78, .ld false 1 (.t 77), none⟩, ⟨some 79, .build [.d (.int .i64 0), .d (.int .i64 0), .d (.int .i64 0), .d (.int .i64 0), .d (.int .i64 0), .d (.int .i64 0)] [(0, (1, .t 73)), (1, (1, .c (.d (.int .i64 1)))), (4, (1, .t 78))], none⟩, ⟨some 80, .bsl 1 6 (.d (.agg [.int .i64 0, .int .i64 0, .int .i64 0, .int .i64 0, .int .i64 0, .int .i64 0])) [(0, .t 79)], none⟩, ⟨some 81, .app 6 (.t 68) (.t 80), none⟩, ⟨some 7, .mv (.t 81), none⟩] [[], [], [0, 1], [], [], [0, 1, 2, 3, 4], [0, 1, 2, 3, 4], [0, 1, 2, 3, 4], [0, 1, 2, 3, 4], [0, 1, 2, 3, 4], [0, 1, 2, 3, 4, 5, 6, 7, 8, 9], [0, 1, 2, 3, 4, 5, 6, 7, 8, 9], [0, 1, 2, 3, 4, 5, 6, 7, 8, 9], [0, 1, 2, 3, 4, 5, 6, 7, 8, 9], [0, 1, 2, 3, 4, 5, 6, 7, 8, 9], [0, 1, 2, 3, 4], [0, 1, 2, 3, 4], [], []] [3, 61, 64, 65, 66, 67, 68, 69, 70, 71, 72, 73, 74, 75, 76, 77, 78, 79, 80, 81])
 (.seq (.ops [] [⟨some 82, .mv (.t 7), none⟩, ⟨some 83, .fad false 3 1 (.t 2), none⟩, ⟨some 84, .ld false 1 (.t 83), none⟩, ⟨some 85, .mv (.t 6), none⟩, ⟨some 86, .slc 6 (.t 84) (some (.t 85)) none none, none⟩, ⟨some 87, .app 6 (.t 82) (.t 86), none⟩, ⟨some 88, .fad false 3 1 (.t 2), none⟩, ⟨none, .st 1 (.t 88) (.t 87), none⟩] [6, 7, 82, 83, 84, 85, 86, 87, 88])
 (.seq (.ops [] [⟨some 89, .ld true 4 (.t 2), none⟩, ⟨none, .st 4 (.t 4) (.t 89), none⟩, ⟨some 5, .mv (.c (.d (.bool true))), none⟩] [2, 89])
 (.ret [4, 5])))))))))
def r_ref31_send : List ARes := [.c 4 true 4, .t 5]
def fn_ref31_send : AFn := .code c_ref31_send r_ref31_send 90 true
def l_ref31_index_0 : ACode :=
 (.seq (.seq (.ops [] [⟨some 6, .mv (.t 5), none⟩, ⟨some 7, .fad false 3 1 (.t 2), none⟩, ⟨some 8, .ld false 1 (.t 7), none⟩, ⟨some 9, .len (.t 8), none⟩, ⟨some 10, .bin .lss (.t 6) (.t 9), none⟩] [6, 7, 8, 9])
 (.cond (.t 10) .skip (.exit 0 [])))
 (.seq (.block 1 (.seq (.ops [] [⟨some 13, .fad false 3 1 (.t 2), none⟩, ⟨some 14, .ld false 1 (.t 13), none⟩, ⟨some 15, .mv (.t 5), none⟩, ⟨some 16, .iad 6 (.t 14) (.t 15), none⟩, ⟨some 17, .fad false 0 1 (.t 16), none⟩, ⟨some 18, .ld false 1 (.t 17), none⟩, ⟨some 19, .mv (.t 1), none⟩, ⟨some 20, .bin .eql (.t 18) (.t 19), none⟩] [10, 13, 14, 15, 16, 17, 18, 19])
 (.cond (.t 20) (.seq (.ops [] [⟨some 21, .mv (.t 5), none⟩, ⟨some 4, .mv (.t 21), none⟩] [1, 2, 5, 20, 21])
 (.ret [4])) .skip)))
 (.ops [] [⟨some 11, .mv (.t 5), none⟩, ⟨some 12, .bin .add (.t 11) (.c (.d (.int .i64 1))), none⟩, ⟨some 5, .mv (.t 12), none⟩] [11, 12, 20])))
def c_ref31_index : ACode :=
 (.seq (.ops [] [⟨some 2, .box (.t 0), none⟩, ⟨some 4, .mv (.c (.d (.int .i64 0))), none⟩] [0, 4])
 (.seq (.seq (.ops [] [⟨some 5, .mv (.c (.d (.int .i64 0))), none⟩] [])
 (.block 0 (.loop [] l_ref31_index_0)))
 (.seq (.ops [] [⟨some 4, .mv (.c (.d (.int .i64 (-1)))), none⟩] [1, 2, 5, 10])
 (.ret [4]))))
def r_ref31_index : List ARes := [.t 4]
def fn_ref31_index : AFn := .code c_ref31_index r_ref31_index 22 true
def l_ref31_receive_0 : ACode :=
 (.seq (.seq (.ops [] [⟨some 17, .mv (.t 6), none⟩, ⟨some 18, .fad false 7 1 (.t 3), none⟩, ⟨some 19, .ld false 1 (.t 18), none⟩, ⟨some 20, .len (.t 19), none⟩, ⟨some 21, .bin .lss (.t 17) (.t 20), none⟩] [17, 18, 19, 20])
 (.cond (.t 21) .skip (.exit 0 [2, 4])))
 (.seq (.block 1 (.seq (.ops [] [⟨some 24, .fad false 7 1 (.t 3), none⟩, ⟨some 25, .ld false 1 (.t 24), none⟩, ⟨some 26, .mv (.t 6), none⟩, ⟨some 27, .iad 4 (.t 25) (.t 26), none⟩, ⟨some 28, .ld true 4 (.t 27), none⟩, ⟨some 7, .alloc (.d (.agg [.int .i64 0, .int .i64 0, .int .i64 0, .int .i64 0])), none⟩, ⟨none, .st 4 (.t 7) (.t 28), none⟩] [21, 24, 25, 26, 27, 28])
 (.seq (.ops [] [⟨some 30, .ld true 4 (.t 2), none⟩, ⟨some 31, .fad false 0 1 (.t 7), none⟩, ⟨some 32, .ld false 1 (.t 31), none⟩, ⟨some 33, .call N_ref31_Find [] [.t 30, .t 32], none⟩, ⟨some 29, .mv (.t 33), none⟩, ⟨some 34, .ext (.t 29) 0, none⟩, ⟨some 35, .ext (.t 29) 1, none⟩, ⟨some 8, .alloc (.d (.agg [.int .i64 0, .int .i64 0, .int .i64 0, .int .i64 0, .int .i64 0, .int .i64 0])), none⟩, ⟨none, .st 6 (.t 8) (.t 34), none⟩, ⟨some 9, .mv (.t 35), none⟩] [29, 30, 31, 32, 33, 34, 35])
 (.seq (.seq (.ops [] [⟨some 36, .mv (.t 9), none⟩, ⟨some 37, .un .not (.t 36), none⟩, ⟨some 38, .mv (.t 37), none⟩, ⟨some 39, .fad false 1 1 (.t 8), some (38, false)⟩, ⟨some 40, .ld false 1 (.t 39), some (38, false)⟩, ⟨some 41, .bin .neq (.t 40) (.c (.d (.int .i64 1))), some (38, false)⟩, ⟨some 42, .pick (.t 38) (.c (.d (.bool true))) (.t 41), none⟩, ⟨some 43, .mv (.t 42), none⟩, ⟨some 44, .fad false 2 1 (.t 8), some (43, false)⟩, ⟨some 45, .ld false 1 (.t 44), some (43, false)⟩, ⟨some 46, .fad false 0 1 (.t 2), some (43, false)⟩, ⟨some 47, .ld false 1 (.t 46), some (43, false)⟩, ⟨some 48, .bin .geq (.t 45) (.t 47), some (43, false)⟩, ⟨some 49, .pick (.t 43) (.c (.d (.bool true))) (.t 48), none⟩, ⟨some 50, .mv (.t 49), none⟩, ⟨some 51, .fad false 1 1 (.t 7), some (50, false)⟩, ⟨some 52, .ld false 1 (.t 51), some (50, false)⟩, ⟨some 53, .fad false 3 1 (.t 8), some (50, false)⟩, ⟨some 54, .ld false 1 (.t 53), some (50, false)⟩, ⟨some 55, .bin .leq (.t 52) (.t 54), some (50, false)⟩, ⟨some 56, .pick (.t 50) (.c (.d (.bool true))) (.t 55), none⟩, ⟨some 57, .mv (.t 56), none⟩, ⟨some 58, .fad false 3 1 (.t 8), some (57, false)⟩, ⟨some 59, .ld false 1 (.t 58), some (57, false)⟩, ⟨some 60, .fad false 1 1 (.t 7), some (57, false)⟩, ⟨some 61, .ld false 1 (.t 60), some (57, false)⟩, ⟨some 62, .bin .sub (.t 61) (.c (.d (.int .i64 1))), some (57, false)⟩, ⟨some 63, .bin .neq (.t 59) (.t 62), some (57, false)⟩, ⟨some 64, .pick (.t 57) (.c (.d (.bool true))) (.t 63), none⟩, ⟨some 65, .mv (.t 64), none⟩, ⟨some 66, .fad false 3 1 (.t 7), some (65, false)⟩, ⟨some 67, .ld false 1 (.t 66), some (65, false)⟩, ⟨some 68, .fad false 1 1 (.t 2), some (65, false)⟩, ⟨some 69, .ld false 1 (.t 68), some (65, false)⟩, ⟨some 70, .bin .lss (.t 67) (.t 69), some (65, false)⟩, ⟨some 71, .pick (.t 65) (.c (.d (.bool true))) (.t 70), none⟩] [9, 36, 37, 38, 39, 40, 41, 42, 43, 44, 45, 46, 47, 48, 49, 50, 51, 52, 53, 54, 55, 56, 57, 58, 59, 60, 61, 62, 63, 64, 65, 66, 67, 68, 69, 70])
 (.cond (.t 71) (.seq (.ops [] [⟨some 72, .ld true 4 (.t 2), none⟩, ⟨none, .st 4 (.t 4) (.t 72), none⟩, ⟨some 5, .mv (.c (.d (.bool false))), none⟩] [2, 3, 6, 7, 8, 71, 72])
 (.ret [4, 5])) .skip))
 (.seq (.draw [] [⟨some 73, .fad false 1 1 (.t 7), none⟩, ⟨some 74, .ld false 1 (.t 73), none⟩, ⟨some 75, .fad false 2 1 (.t 7), none⟩, ⟨some 76, .ld false 1 (.t 75), none⟩, ⟨some 77, .fad false 3 1 (.t 7), none⟩, ⟨some 78, .ld false 1 (.t 77), none⟩, ⟨some 79, .fad false 2 1 (.t 8), none⟩, ⟨some 80, .ld false 1 (.t 79), none⟩, ⟨some 81, .bin .add (.t 80) (.c (.d (.int .i64 1))), none⟩, ⟨some 82, .fad false 1 1 (.t 8), none⟩, ⟨none, .st 1 (.t 82) (.c (.d (.int .i64 2))), none⟩, ⟨some 83, .fad false 3 1 (.t 8), none⟩, ⟨none, .st 1 (.t 83) (.t 74), none⟩, ⟨some 84, .fad false 4 1 (.t 8), none⟩, ⟨none, .st 1 (.t 84) (.t 76), none⟩, ⟨some 85, .fad false 5 1 (.t 8), none⟩, ⟨none, .st 1 (.t 85) (.t 78), none⟩, ⟨some 86, .fad false 2 1 (.t 8), none⟩, ⟨none, .st 1 (.t 86) (.t 81), none⟩] [[], [], [0, 1], [0, 1], [0, 1, 2, 3], [0, 1, 2, 3], [0, 1, 2, 3, 4, 5], [0, 1, 2, 3, 4, 5], [0, 1, 2, 3, 4, 5], [0, 1, 2, 3, 4, 5, 8], [0, 1, 2, 3, 4, 5, 8], [2, 3, 4, 5, 8], [2, 3, 4, 5, 8], [4, 5, 8], [4, 5, 8], [8], [8], [], []] [7, 71, 73, 74, 75, 76, 77, 78, 79, 80, 81, 82, 83, 84, 85, 86])
 (.ops [] [⟨some 87, .ld true 4 (.t 2), none⟩, ⟨some 88, .ld true 6 (.t 8), none⟩, ⟨some 89, .call N_ref31_set [] [.t 87, .t 88], none⟩, ⟨none, .st 4 (.t 2) (.t 89), none⟩] [8, 87, 88, 89]))))))
 (.ops [] [⟨some 22, .mv (.t 6), none⟩, ⟨some 23, .bin .add (.t 22) (.c (.d (.int .i64 1))), none⟩, ⟨some 6, .mv (.t 23), none⟩] [22, 23])))
def c_ref31_receive : ACode :=
 (.seq (.ops [] [⟨some 2, .box (.t 0), none⟩, ⟨some 3, .box (.t 1), none⟩, ⟨some 4, .alloc (.agg [.d (.int .i64 0), .d (.int .i64 0), .d (.int .i64 0), .xsl []]), none⟩, ⟨some 5, .mv (.c (.d (.bool false))), none⟩] [0, 1, 5])
 (.seq (.seq (.ops [] [⟨some 10, .fad false 6 1 (.t 3), none⟩, ⟨some 11, .ld false 1 (.t 10), none⟩, ⟨some 12, .bin .neq (.t 11) (.c (.d (.int .i64 0))), none⟩] [10, 11])
 (.cond (.t 12) (.seq (.draw [] [⟨some 13, .ld true 4 (.t 2), none⟩, ⟨some 14, .fad false 6 1 (.t 3), none⟩, ⟨some 15, .ld false 1 (.t 14), none⟩, ⟨some 16, .bin .eql (.t 15) (.c (.d (.int .i64 6))), none⟩, ⟨none, .st 4 (.t 4) (.t 13), none⟩, ⟨some 5, .mv (.t 16), none⟩] [[], [0], [0], [0], [1, 2, 3], []] [2, 3, 12, 13, 14, 15, 16])
 (.ret [4, 5])) .skip))
 (.seq (.seq (.ops [] [⟨some 6, .mv (.c (.d (.int .i64 0))), none⟩] [12])
 (.block 0 (.loop [] l_ref31_receive_0)))
 (.seq (.ops [] [⟨some 90, .ld true 4 (.t 2), none⟩, ⟨none, .st 4 (.t 4) (.t 90), none⟩, ⟨some 5, .mv (.c (.d (.bool true))), none⟩] [2, 3, 6, 21, 90])
 (.ret [4, 5])))))
def r_ref31_receive : List ARes := [.c 4 true 4, .t 5]
def fn_ref31_receive : AFn := .code c_ref31_receive r_ref31_receive 91 true
def c_ref31_Find : ACode :=
 (.seq (.ops [] [⟨some 2, .box (.t 0), none⟩, ⟨some 4, .alloc (.d (.agg [.int .i64 0, .int .i64 0, .int .i64 0, .int .i64 0, .int .i64 0, .int .i64 0])), none⟩, ⟨some 5, .mv (.c (.d (.bool false))), none⟩] [0, 5])
 (.seq (.ops [] [⟨some 7, .ld true 4 (.t 2), none⟩, ⟨some 8, .mv (.t 1), none⟩, ⟨some 9, .call N_ref31_index [] [.t 7, .t 8], none⟩, ⟨some 6, .mv (.t 9), none⟩] [1, 7, 8, 9])
 (.seq (.seq (.ops [] [⟨some 10, .mv (.t 6), none⟩, ⟨some 11, .bin .lss (.t 10) (.c (.d (.int .i64 0))), none⟩] [10])
 (.cond (.t 11) (.seq (.ops [] [⟨some 12, .build [.d (.int .i64 0), .d (.int .i64 0), .d (.int .i64 0), .d (.int .i64 0), .d (.int .i64 0), .d (.int .i64 0)] [], none⟩, ⟨none, .st 6 (.t 4) (.t 12), none⟩, ⟨some 5, .mv (.c (.d (.bool false))), none⟩] [2, 6, 11, 12])
 (.ret [4, 5])) .skip))
 (.seq (.ops [] [⟨some 13, .fad false 3 1 (.t 2), none⟩, ⟨some 14, .ld false 1 (.t 13), none⟩, ⟨some 15, .mv (.t 6), none⟩, ⟨some 16, .iad 6 (.t 14) (.t 15), none⟩, ⟨some 17, .ld true 6 (.t 16), none⟩, ⟨none, .st 6 (.t 4) (.t 17), none⟩, ⟨some 5, .mv (.c (.d (.bool true))), none⟩] [2, 6, 11, 13, 14, 15, 16, 17])
 (.ret [4, 5])))))
def r_ref31_Find : List ARes := [.c 4 true 6, .t 5]
def fn_ref31_Find : AFn := .code c_ref31_Find r_ref31_Find 18 true
def c_ref31_set : ACode :=
 (.seq (.ops [] [⟨some 2, .box (.t 0), none⟩, ⟨some 3, .box (.t 1), none⟩, ⟨some 4, .alloc (.agg [.d (.int .i64 0), .d (.int .i64 0), .d (.int .i64 0), .xsl []]), none⟩] [0, 1])
 (.seq (.ops [] [⟨some 5, .fad false 3 1 (.t 2), none⟩, ⟨some 6, .ld false 1 (.t 5), none⟩, ⟨some 7, .app 6 (.c (.xsl [])) (.t 6), none⟩, ⟨some 8, .fad false 3 1 (.t 2), none⟩, ⟨none, .st 1 (.t 8) (.t 7), none⟩] [5, 6, 7, 8])
 (.seq (.draw [14] [⟨some 9, .fad false 3 1 (.t 2), none⟩, ⟨some 10, .ld false 1 (.t 9), none⟩, ⟨some 11, .ld true 4 (.t 2), none⟩, ⟨some 12, .fad false 0 1 (.t 3), none⟩, ⟨some 13, .ld false 1 (.t 12), none⟩, ⟨some 14, .call N_ref31_index [] [.t 11, .t 13], none⟩, ⟨some 15, .ld true 6 (.t 3), none⟩, ⟨some 16, .iad 6 (.t 10) (.t 14), none⟩, ⟨none, .st 6 (.t 16) (.t 15), none⟩] [[], [], [0, 1], [0, 1, 2], [0, 1, 2], [0, 1], [0, 1, 2, 3, 4, 5], [], []] [3, 9, 10, 11, 12, 13, 14, 15, 16])
 (.seq (.ops [] [⟨some 17, .ld true 4 (.t 2), none⟩, ⟨none, .st 4 (.t 4) (.t 17), none⟩] [2, 17])
 (.ret [4])))))
def r_ref31_set : List ARes := [.c 4 true 4]
def fn_ref31_set : AFn := .code c_ref31_set r_ref31_set 18 true
def c_ref31_settle : ACode :=
 (.seq (.ops [] [⟨some 2, .box (.t 0), none⟩, ⟨some 3, .box (.t 1), none⟩, ⟨some 4, .alloc (.agg [.d (.int .i64 0), .d (.int .i64 0), .d (.int .i64 0), .xsl []]), none⟩, ⟨some 5, .mv (.c (.d (.bool false))), none⟩] [0, 1, 5])
 (.seq (.seq (.ops [] [⟨some 8, .fad false 6 1 (.t 3), none⟩, ⟨some 9, .ld false 1 (.t 8), none⟩, ⟨some 10, .bin .eql (.t 9) (.c (.d (.int .i64 5))), none⟩] [8, 9])
 (.cond (.t 10) (.seq (.draw [] [⟨some 11, .ld true 4 (.t 2), none⟩, ⟨some 12, .fad false 7 1 (.t 3), none⟩, ⟨some 13, .ld false 1 (.t 12), none⟩, ⟨some 14, .len (.t 13), none⟩, ⟨some 15, .bin .eql (.t 14) (.c (.d (.int .i64 0))), none⟩, ⟨some 16, .mv (.t 15), none⟩, ⟨some 17, .fad false 7 1 (.t 3), some (16, false)⟩, ⟨some 18, .ld false 1 (.t 17), some (16, false)⟩, ⟨some 19, .len (.t 18), some (16, false)⟩, ⟨some 20, .bin .eql (.t 19) (.c (.d (.int .i64 1))), some (16, false)⟩, ⟨some 21, .mv (.t 20), some (16, false)⟩, ⟨some 22, .ld true 4 (.t 2), some (21, true)⟩, ⟨some 23, .fad false 7 1 (.t 3), some (21, true)⟩, ⟨some 24, .ld false 1 (.t 23), some (21, true)⟩, ⟨some 25, .iad 4 (.t 24) (.c (.d (.int .i64 0))), some (21, true)⟩, ⟨some 26, .ld true 4 (.t 25), some (21, true)⟩, ⟨some 27, .call N_ref31_Valid [] [.t 22, .t 26], some (21, true)⟩, ⟨some 28, .un .not (.t 27), some (21, true)⟩, ⟨some 29, .pick (.t 21) (.t 28) (.c (.d (.bool false))), some (16, false)⟩, ⟨some 30, .pick (.t 16) (.c (.d (.bool true))) (.t 29), none⟩, ⟨none, .st 4 (.t 4) (.t 11), none⟩, ⟨some 5, .mv (.t 30), none⟩] [[], [0], [0], [0], [0], [0], [0], [0], [0], [0], [0], [0], [0, 11], [0, 11], [0, 11], [0, 11], [0], [0], [0], [0], [17, 18, 19], []] [2, 3, 10, 11, 12, 13, 14, 15, 16, 17, 18, 19, 20, 21, 22, 23, 24, 25, 26, 27, 28, 29, 30])
 (.ret [4, 5])) .skip))
 (.seq (.seq (.draw [] [⟨some 31, .fad false 7 1 (.t 3), none⟩, ⟨some 32, .ld false 1 (.t 31), none⟩, ⟨some 33, .len (.t 32), none⟩, ⟨some 34, .bin .neq (.t 33) (.c (.d (.int .i64 1))), none⟩, ⟨some 35, .mv (.t 34), none⟩, ⟨some 36, .ld true 4 (.t 2), some (35, false)⟩, ⟨some 37, .fad false 7 1 (.t 3), some (35, false)⟩, ⟨some 38, .ld false 1 (.t 37), some (35, false)⟩, ⟨some 39, .iad 4 (.t 38) (.c (.d (.int .i64 0))), some (35, false)⟩, ⟨some 40, .ld true 4 (.t 39), some (35, false)⟩, ⟨some 41, .call N_ref31_Valid [] [.t 36, .t 40], some (35, false)⟩, ⟨some 42, .un .not (.t 41), some (35, false)⟩, ⟨some 43, .pick (.t 35) (.c (.d (.bool true))) (.t 42), none⟩] [[], [], [], [], [], [], [5], [5], [5], [5], [], [], []] [10, 31, 32, 33, 34, 35, 36, 37, 38, 39, 40, 41, 42])
 (.cond (.t 43) (.seq (.ops [] [⟨some 44, .ld true 4 (.t 2), none⟩, ⟨none, .st 4 (.t 4) (.t 44), none⟩, ⟨some 5, .mv (.c (.d (.bool false))), none⟩] [2, 3, 43, 44])
 (.ret [4, 5])) .skip))
 (.seq (.seq (.ops [] [⟨some 45, .fad false 6 1 (.t 3), none⟩, ⟨some 46, .ld false 1 (.t 45), none⟩, ⟨some 47, .bin .neq (.t 46) (.c (.d (.int .i64 0))), none⟩] [43, 45, 46])
 (.cond (.t 47) (.seq (.draw [] [⟨some 48, .ld true 4 (.t 2), none⟩, ⟨some 49, .fad false 6 1 (.t 3), none⟩, ⟨some 50, .ld false 1 (.t 49), none⟩, ⟨some 51, .bin .eql (.t 50) (.c (.d (.int .i64 6))), none⟩, ⟨some 52, .mv (.t 51), none⟩, ⟨some 53, .fad false 3 1 (.t 3), some (52, true)⟩, ⟨some 54, .ld false 1 (.t 53), some (52, true)⟩, ⟨some 55, .bin .eql (.t 54) (.c (.d (.int .i64 6))), some (52, true)⟩, ⟨some 56, .pick (.t 52) (.t 55) (.c (.d (.bool false))), none⟩, ⟨none, .st 4 (.t 4) (.t 48), none⟩, ⟨some 5, .mv (.t 56), none⟩] [[], [0], [0], [0], [0], [0], [0], [0], [0], [5, 6, 7, 8], []] [2, 3, 47, 48, 49, 50, 51, 52, 53, 54, 55, 56])
 (.ret [4, 5])) .skip))
 (.seq (.draw [] [⟨some 58, .ld true 4 (.t 2), none⟩, ⟨some 59, .fad false 7 1 (.t 3), none⟩, ⟨some 60, .ld false 1 (.t 59), none⟩, ⟨some 61, .iad 4 (.t 60) (.c (.d (.int .i64 0))), none⟩, ⟨some 62, .fad false 0 1 (.t 61), none⟩, ⟨some 63, .ld false 1 (.t 62), none⟩, ⟨some 64, .call N_ref31_Find [] [.t 58, .t 63], none⟩, ⟨some 57, .mv (.t 64), none⟩, ⟨some 65, .ext (.t 57) 0, none⟩, ⟨some 66, .ext (.t 57) 1, none⟩, ⟨some 6, .alloc (.d (.agg [.int .i64 0, .int .i64 0, .int .i64 0, .int .i64 0, .int .i64 0, .int .i64 0])), none⟩, ⟨none, .st 6 (.t 6) (.t 65), none⟩, ⟨some 7, .mv (.t 66), none⟩] [[], [0], [0], [0], [0], [0], [], [], [], [8], [0, 1, 2, 3, 4, 5, 6, 7, 8, 9], [9], []] [7, 47, 57, 58, 59, 60, 61, 62, 63, 64, 65, 66])
 (.seq (.seq (.ops [] [⟨some 67, .fad false 3 1 (.t 3), none⟩, ⟨some 68, .ld false 1 (.t 67), none⟩] [67])
 (.block 0 (.seq (.ops [] [⟨some 85, .bin .eql (.t 68) (.c (.d (.int .i64 4))), none⟩, ⟨some 84, .mv (.t 85), none⟩] [85])
 (.cond (.t 84) (.ops [] [⟨some 86, .fad false 1 1 (.t 6), none⟩, ⟨none, .st 1 (.t 86) (.c (.d (.int .i64 4))), none⟩, ⟨some 87, .fad false 5 1 (.t 6), none⟩, ⟨none, .st 1 (.t 87) (.c (.d (.int .i64 0))), none⟩] [3, 68, 84, 86, 87]) (.seq (.ops [] [⟨some 89, .bin .eql (.t 68) (.c (.d (.int .i64 5))), none⟩, ⟨some 88, .mv (.t 89), none⟩] [68, 84, 89])
 (.cond (.t 88) (.ops [] [⟨some 90, .ld true 4 (.t 2), none⟩, ⟨some 91, .ld true 6 (.t 6), none⟩, ⟨some 92, .call N_ref31_released [] [.t 90, .t 91], none⟩, ⟨none, .st 6 (.t 6) (.t 92), none⟩] [3, 88, 90, 91, 92]) (.seq (.seq (.draw [] [⟨some 69, .fad false 7 1 (.t 3), none⟩, ⟨some 70, .ld false 1 (.t 69), none⟩, ⟨some 71, .iad 4 (.t 70) (.c (.d (.int .i64 0))), none⟩, ⟨some 72, .fad false 3 1 (.t 71), none⟩, ⟨some 73, .ld false 1 (.t 72), none⟩, ⟨some 74, .fad false 1 1 (.t 2), none⟩, ⟨some 75, .ld false 1 (.t 74), none⟩, ⟨some 76, .bin .lss (.t 73) (.t 75), none⟩] [[], [], [], [], [], [0, 1, 2, 3, 4], [0, 1, 2, 3, 4], []] [69, 70, 71, 72, 73, 74, 75, 88])
 (.cond (.t 76) (.seq (.ops [] [⟨some 77, .ld true 4 (.t 2), none⟩, ⟨none, .st 4 (.t 4) (.t 77), none⟩, ⟨some 5, .mv (.c (.d (.bool false))), none⟩] [2, 3, 6, 76, 77])
 (.ret [4, 5])) .skip))
 (.ops [] [⟨some 78, .fad false 7 1 (.t 3), none⟩, ⟨some 79, .ld false 1 (.t 78), none⟩, ⟨some 80, .iad 4 (.t 79) (.c (.d (.int .i64 0))), none⟩, ⟨some 81, .fad false 3 1 (.t 80), none⟩, ⟨some 82, .ld false 1 (.t 81), none⟩, ⟨some 83, .fad false 5 1 (.t 6), none⟩, ⟨none, .st 1 (.t 83) (.t 82), none⟩] [3, 76, 78, 79, 80, 81, 82, 83]))))))))
 (.seq (.ops [] [⟨some 93, .ld true 4 (.t 2), none⟩, ⟨some 94, .ld true 6 (.t 6), none⟩, ⟨some 95, .call N_ref31_set [] [.t 93, .t 94], none⟩, ⟨none, .st 4 (.t 4) (.t 95), none⟩, ⟨some 5, .mv (.c (.d (.bool true))), none⟩] [2, 6, 93, 94, 95])
 (.ret [4, 5]))))))))
def r_ref31_settle : List ARes := [.c 4 true 4, .t 5]
def fn_ref31_settle : AFn := .code c_ref31_settle r_ref31_settle 96 true
def c_ref31_Valid : ACode :=
 (.seq (.ops [] [⟨some 2, .box (.t 0), none⟩, ⟨some 3, .box (.t 1), none⟩, ⟨some 4, .mv (.c (.d (.bool false))), none⟩] [0, 1, 4])
 (.seq (.ops [] [⟨some 8, .ld true 4 (.t 2), none⟩, ⟨some 9, .fad false 0 1 (.t 3), none⟩, ⟨some 10, .ld false 1 (.t 9), none⟩, ⟨some 11, .call N_ref31_Find [] [.t 8, .t 10], none⟩, ⟨some 7, .mv (.t 11), none⟩, ⟨some 12, .ext (.t 7) 0, none⟩, ⟨some 13, .ext (.t 7) 1, none⟩, ⟨some 5, .alloc (.d (.agg [.int .i64 0, .int .i64 0, .int .i64 0, .int .i64 0, .int .i64 0, .int .i64 0])), none⟩, ⟨none, .st 6 (.t 5) (.t 12), none⟩, ⟨some 6, .mv (.t 13), none⟩] [7, 8, 9, 10, 11, 12, 13])
 (.seq (.ops [] [⟨some 14, .mv (.t 6), none⟩, ⟨some 15, .mv (.t 14), none⟩, ⟨some 16, .fad false 1 1 (.t 5), some (15, true)⟩, ⟨some 17, .ld false 1 (.t 16), some (15, true)⟩, ⟨some 18, .bin .eql (.t 17) (.c (.d (.int .i64 2))), some (15, true)⟩, ⟨some 19, .pick (.t 15) (.t 18) (.c (.d (.bool false))), none⟩, ⟨some 20, .mv (.t 19), none⟩, ⟨some 21, .fad false 3 1 (.t 5), some (20, true)⟩, ⟨some 22, .ld false 1 (.t 21), some (20, true)⟩, ⟨some 23, .fad false 1 1 (.t 3), some (20, true)⟩, ⟨some 24, .ld false 1 (.t 23), some (20, true)⟩, ⟨some 25, .bin .eql (.t 22) (.t 24), some (20, true)⟩, ⟨some 26, .pick (.t 20) (.t 25) (.c (.d (.bool false))), none⟩, ⟨some 27, .mv (.t 26), none⟩, ⟨some 28, .fad false 4 1 (.t 5), some (27, true)⟩, ⟨some 29, .ld false 1 (.t 28), some (27, true)⟩, ⟨some 30, .fad false 2 1 (.t 3), some (27, true)⟩, ⟨some 31, .ld false 1 (.t 30), some (27, true)⟩, ⟨some 32, .bin .eql (.t 29) (.t 31), some (27, true)⟩, ⟨some 33, .pick (.t 27) (.t 32) (.c (.d (.bool false))), none⟩, ⟨some 34, .mv (.t 33), none⟩, ⟨some 35, .fad false 5 1 (.t 5), some (34, true)⟩, ⟨some 36, .ld false 1 (.t 35), some (34, true)⟩, ⟨some 37, .fad false 1 1 (.t 2), some (34, true)⟩, ⟨some 38, .ld false 1 (.t 37), some (34, true)⟩, ⟨some 39, .bin .gtr (.t 36) (.t 38), some (34, true)⟩, ⟨some 40, .pick (.t 34) (.t 39) (.c (.d (.bool false))), none⟩, ⟨some 4, .mv (.t 40), none⟩] [2, 3, 5, 6, 14, 15, 16, 17, 18, 19, 20, 21, 22, 23, 24, 25, 26, 27, 28, 29, 30, 31, 32, 33, 34, 35, 36, 37, 38, 39, 40])
 (.ret [4]))))
def r_ref31_Valid : List ARes := [.t 4]
def fn_ref31_Valid : AFn := .code c_ref31_Valid r_ref31_Valid 41 true
def c_ref31_released : ACode :=
 (.seq (.ops [] [⟨some 2, .box (.t 0), none⟩, ⟨some 3, .box (.t 1), none⟩, ⟨some 4, .alloc (.d (.agg [.int .i64 0, .int .i64 0, .int .i64 0, .int .i64 0, .int .i64 0, .int .i64 0])), none⟩] [0, 1])
 (.seq (.ops [] [⟨some 5, .fad false 1 1 (.t 3), none⟩, ⟨none, .st 1 (.t 5) (.c (.d (.int .i64 1))), none⟩, ⟨some 6, .fad false 5 1 (.t 3), none⟩, ⟨none, .st 1 (.t 6) (.c (.d (.int .i64 0))), none⟩] [5, 6])
 (.seq (.seq (.ops [] [⟨some 7, .fad false 2 1 (.t 3), none⟩, ⟨some 8, .ld false 1 (.t 7), none⟩, ⟨some 9, .fad false 0 1 (.t 2), none⟩, ⟨some 10, .ld false 1 (.t 9), none⟩, ⟨some 11, .bin .geq (.t 8) (.t 10), none⟩] [2, 7, 8, 9, 10])
 (.cond (.t 11) (.ops [] [⟨some 12, .fad false 1 1 (.t 3), none⟩, ⟨none, .st 1 (.t 12) (.c (.d (.int .i64 3))), none⟩] [11, 12]) .skip))
 (.seq (.ops [] [⟨some 13, .ld true 6 (.t 3), none⟩, ⟨none, .st 6 (.t 4) (.t 13), none⟩] [3, 11, 13])
 (.ret [4])))))
def r_ref31_released : List ARes := [.c 4 true 6]
def fn_ref31_released : AFn := .code c_ref31_released r_ref31_released 14 true
def l_ref31_Same_0 : ACode :=
 (.seq (.seq (.ops [] [⟨some 34, .mv (.t 5), none⟩, ⟨some 35, .fad false 3 1 (.t 2), none⟩, ⟨some 36, .ld false 1 (.t 35), none⟩, ⟨some 37, .len (.t 36), none⟩, ⟨some 38, .bin .lss (.t 34) (.t 37), none⟩] [34, 35, 36, 37])
 (.cond (.t 38) .skip (.exit 0 [])))
 (.seq (.block 1 (.seq (.draw [] [⟨some 41, .fad false 3 1 (.t 2), none⟩, ⟨some 42, .ld false 1 (.t 41), none⟩, ⟨some 43, .mv (.t 5), none⟩, ⟨some 44, .iad 6 (.t 42) (.t 43), none⟩, ⟨some 45, .ld true 6 (.t 44), none⟩, ⟨some 46, .fad false 3 1 (.t 3), none⟩, ⟨some 47, .ld false 1 (.t 46), none⟩, ⟨some 48, .mv (.t 5), none⟩, ⟨some 49, .iad 6 (.t 47) (.t 48), none⟩, ⟨some 50, .ld true 6 (.t 49), none⟩, ⟨some 51, .eqs true 6 [(0, 0), (1, 0), (2, 0), (3, 0), (4, 0), (5, 0)] (.t 45) (.t 50), none⟩] [[], [], [0, 1], [], [], [0, 1, 2, 3, 4], [0, 1, 2, 3, 4], [0, 1, 2, 3, 4, 5, 6], [0, 1, 2, 3, 4], [0, 1, 2, 3, 4], []] [38, 41, 42, 43, 44, 45, 46, 47, 48, 49, 50])
 (.cond (.t 51) (.seq (.ops [] [⟨some 4, .mv (.c (.d (.bool false))), none⟩] [2, 3, 5, 51])
 (.ret [4])) .skip)))
 (.ops [] [⟨some 39, .mv (.t 5), none⟩, ⟨some 40, .bin .add (.t 39) (.c (.d (.int .i64 1))), none⟩, ⟨some 5, .mv (.t 40), none⟩] [39, 40, 51])))
def c_ref31_Same : ACode :=
 (.seq (.ops [] [⟨some 2, .box (.t 0), none⟩, ⟨some 3, .box (.t 1), none⟩, ⟨some 4, .mv (.c (.d (.bool false))), none⟩] [0, 1, 4])
 (.seq (.seq (.ops [] [⟨some 6, .fad false 0 1 (.t 2), none⟩, ⟨some 7, .ld false 1 (.t 6), none⟩, ⟨some 8, .fad false 0 1 (.t 3), none⟩, ⟨some 9, .ld false 1 (.t 8), none⟩, ⟨some 10, .bin .neq (.t 7) (.t 9), none⟩, ⟨some 11, .mv (.t 10), none⟩, ⟨some 12, .fad false 1 1 (.t 2), some (11, false)⟩, ⟨some 13, .ld false 1 (.t 12), some (11, false)⟩, ⟨some 14, .fad false 1 1 (.t 3), some (11, false)⟩, ⟨some 15, .ld false 1 (.t 14), some (11, false)⟩, ⟨some 16, .bin .neq (.t 13) (.t 15), some (11, false)⟩, ⟨some 17, .pick (.t 11) (.c (.d (.bool true))) (.t 16), none⟩, ⟨some 18, .mv (.t 17), none⟩, ⟨some 19, .fad false 2 1 (.t 2), some (18, false)⟩, ⟨some 20, .ld false 1 (.t 19), some (18, false)⟩, ⟨some 21, .fad false 2 1 (.t 3), some (18, false)⟩, ⟨some 22, .ld false 1 (.t 21), some (18, false)⟩, ⟨some 23, .bin .neq (.t 20) (.t 22), some (18, false)⟩, ⟨some 24, .pick (.t 18) (.c (.d (.bool true))) (.t 23), none⟩, ⟨some 25, .mv (.t 24), none⟩, ⟨some 26, .fad false 3 1 (.t 2), some (25, false)⟩, ⟨some 27, .ld false 1 (.t 26), some (25, false)⟩, ⟨some 28, .len (.t 27), some (25, false)⟩, ⟨some 29, .fad false 3 1 (.t 3), some (25, false)⟩, ⟨some 30, .ld false 1 (.t 29), some (25, false)⟩, ⟨some 31, .len (.t 30), some (25, false)⟩, ⟨some 32, .bin .neq (.t 28) (.t 31), some (25, false)⟩, ⟨some 33, .pick (.t 25) (.c (.d (.bool true))) (.t 32), none⟩] [6, 7, 8, 9, 10, 11, 12, 13, 14, 15, 16, 17, 18, 19, 20, 21, 22, 23, 24, 25, 26, 27, 28, 29, 30, 31, 32])
 (.cond (.t 33) (.seq (.ops [] [⟨some 4, .mv (.c (.d (.bool false))), none⟩] [2, 3, 33])
 (.ret [4])) .skip))
 (.seq (.seq (.ops [] [⟨some 5, .mv (.c (.d (.int .i64 0))), none⟩] [33])
 (.block 0 (.loop [] l_ref31_Same_0)))
 (.seq (.ops [] [⟨some 4, .mv (.c (.d (.bool true))), none⟩] [2, 3, 5, 38])
 (.ret [4])))))
def r_ref31_Same : List ARes := [.t 4]
def fn_ref31_Same : AFn := .code c_ref31_Same r_ref31_Same 52 true
def c_law31_awake : ACode :=
 (.seq (.ops [] [⟨some 0, .mv (.c (.d (.bool false))), none⟩] [0])
 (.seq (.ops [] [⟨some 10, .call N_bag_New [] [.c (.d (.int .i64 2)), .c (.d (.int .i64 10)), .c (.d (.int .i64 0))], none⟩, ⟨some 9, .mv (.t 10), none⟩, ⟨some 11, .ext (.t 9) 0, none⟩, ⟨some 12, .ext (.t 9) 1, none⟩, ⟨some 1, .alloc (.agg [.d (.int .i64 0), .d (.int .i64 0), .d (.int .i64 0), .xsl []]), none⟩, ⟨none, .st 4 (.t 1) (.t 11), none⟩, ⟨some 2, .mv (.t 12), none⟩] [9, 10, 11, 12])
 (.seq (.ops [] [⟨some 14, .ld true 4 (.t 1), none⟩, ⟨some 15, .build [.d (.int .i64 0), .d (.int .i64 0), .d (.int .i64 0), .d (.int .i64 0)] [(0, (1, .c (.d (.int .i64 1))))], none⟩, ⟨some 16, .bsl 1 4 (.d (.agg [.int .i64 0, .int .i64 0, .int .i64 0, .int .i64 0])) [(0, .t 15)], none⟩, ⟨some 17, .build [.d (.int .i64 0), .d (.int .i64 0), .d (.int .i64 0), .d (.int .i64 0), .d (.int .i64 0), .d (.int .i64 0), .d (.int .i64 0), .xsl [], .d (.int .i64 0), .d (.int .i64 0)] [(3, (1, .c (.d (.int .i64 2)))), (4, (1, .c (.d (.int .i64 10)))), (7, (1, .t 16))], none⟩, ⟨some 18, .call N_bag_Step [] [.t 14, .t 17], none⟩, ⟨some 13, .mv (.t 18), none⟩, ⟨some 19, .ext (.t 13) 0, none⟩, ⟨some 20, .ext (.t 13) 1, none⟩, ⟨none, .st 4 (.t 1) (.t 19), none⟩, ⟨some 3, .mv (.t 20), none⟩] [13, 14, 15, 16, 17, 18, 19, 20])
 (.seq (.ops [] [⟨some 21, .build [.d (.int .i64 0), .d (.int .i64 0), .d (.int .i64 0), .d (.int .i64 0)] [(0, (1, .c (.d (.int .i64 1)))), (1, (1, .c (.d (.int .i64 1)))), (3, (1, .c (.d (.int .i64 15))))], none⟩, ⟨some 22, .bsl 1 4 (.d (.agg [.int .i64 0, .int .i64 0, .int .i64 0, .int .i64 0])) [(0, .t 21)], none⟩, ⟨some 23, .build [.d (.int .i64 0), .d (.int .i64 0), .d (.int .i64 0), .d (.int .i64 0), .d (.int .i64 0), .d (.int .i64 0), .d (.int .i64 0), .xsl [], .d (.int .i64 0), .d (.int .i64 0)] [(3, (1, .c (.d (.int .i64 3)))), (4, (1, .c (.d (.int .i64 10)))), (7, (1, .t 22))], none⟩, ⟨some 4, .alloc (.agg [.d (.int .i64 0), .d (.int .i64 0), .d (.int .i64 0), .d (.int .i64 0), .d (.int .i64 0), .d (.int .i64 0), .d (.int .i64 0), .xsl [], .d (.int .i64 0), .d (.int .i64 0)]), none⟩, ⟨none, .st 10 (.t 4) (.t 23), none⟩] [21, 22, 23])
 (.seq (.ops [] [⟨some 25, .ld true 4 (.t 1), none⟩, ⟨some 26, .ld true 10 (.t 4), none⟩, ⟨some 27, .call N_bag_Step [] [.t 25, .t 26], none⟩, ⟨some 24, .mv (.t 27), none⟩, ⟨some 28, .ext (.t 24) 0, none⟩, ⟨some 29, .ext (.t 24) 1, none⟩, ⟨some 5, .alloc (.agg [.d (.int .i64 0), .d (.int .i64 0), .d (.int .i64 0), .xsl []]), none⟩, ⟨none, .st 4 (.t 5) (.t 28), none⟩, ⟨some 6, .mv (.t 29), none⟩] [1, 24, 25, 26, 27, 28, 29])
 (.seq (.ops [] [⟨some 31, .ld true 4 (.t 5), none⟩, ⟨some 32, .ld true 10 (.t 4), none⟩, ⟨some 33, .call N_bag_Step [] [.t 31, .t 32], none⟩, ⟨some 30, .mv (.t 33), none⟩, ⟨some 34, .ext (.t 30) 0, none⟩, ⟨some 35, .ext (.t 30) 1, none⟩, ⟨some 7, .alloc (.agg [.d (.int .i64 0), .d (.int .i64 0), .d (.int .i64 0), .xsl []]), none⟩, ⟨none, .st 4 (.t 7) (.t 34), none⟩, ⟨some 8, .mv (.t 35), none⟩] [4, 7, 30, 31, 32, 33, 34, 35])
 (.seq (.ops [] [⟨some 36, .mv (.t 2), none⟩, ⟨some 37, .bin .eql (.t 36) (.c (.d (.int .i64 0))), none⟩, ⟨some 38, .mv (.t 37), none⟩, ⟨some 39, .mv (.t 3), some (38, true)⟩, ⟨some 40, .bin .eql (.t 39) (.c (.d (.int .i64 0))), some (38, true)⟩, ⟨some 41, .pick (.t 38) (.t 40) (.c (.d (.bool false))), none⟩, ⟨some 42, .mv (.t 41), none⟩, ⟨some 43, .mv (.t 6), some (42, true)⟩, ⟨some 44, .bin .eql (.t 43) (.c (.d (.int .i64 0))), some (42, true)⟩, ⟨some 45, .pick (.t 42) (.t 44) (.c (.d (.bool false))), none⟩, ⟨some 46, .mv (.t 45), none⟩, ⟨some 47, .mv (.t 8), some (46, true)⟩, ⟨some 48, .bin .eql (.t 47) (.c (.d (.int .i64 7))), some (46, true)⟩, ⟨some 49, .pick (.t 46) (.t 48) (.c (.d (.bool false))), none⟩, ⟨some 50, .mv (.t 49), none⟩, ⟨some 51, .ld true 4 (.t 5), some (50, true)⟩, ⟨some 52, .build [.d (.int .i64 0), .d (.int .i64 0), .d (.int .i64 0), .d (.int .i64 0)] [(0, (1, .c (.d (.int .i64 1)))), (1, (1, .c (.d (.int .i64 1))))], some (50, true)⟩, ⟨some 53, .call N_bag_Valid [] [.t 51, .t 52], some (50, true)⟩, ⟨some 54, .pick (.t 50) (.t 53) (.c (.d (.bool false))), none⟩, ⟨some 0, .mv (.t 54), none⟩] [2, 3, 5, 6, 8, 36, 37, 38, 39, 40, 41, 42, 43, 44, 45, 46, 47, 48, 49, 50, 51, 52, 53, 54])
 (.ret [0]))))))))
def r_law31_awake : List ARes := [.t 0]
def fn_law31_awake : AFn := .code c_law31_awake r_law31_awake 55 true
def l_law31_BagKeeps_0 : ACode :=
 (.seq (.seq (.ops [] [⟨some 45, .mv (.t 9), none⟩, ⟨some 46, .fad false 3 1 (.t 4), none⟩, ⟨some 47, .ld false 1 (.t 46), none⟩, ⟨some 48, .len (.t 47), none⟩, ⟨some 49, .bin .lss (.t 45) (.t 48), none⟩] [45, 46, 47, 48])
 (.cond (.t 49) .skip (.exit 2 [3, 4, 6, 7])))
 (.seq (.block 3 (.seq (.draw [] [⟨some 53, .ld true 4 (.t 7), none⟩, ⟨some 54, .fad false 3 1 (.t 4), none⟩, ⟨some 55, .ld false 1 (.t 54), none⟩, ⟨some 56, .mv (.t 9), none⟩, ⟨some 57, .iad 6 (.t 55) (.t 56), none⟩, ⟨some 58, .fad false 0 1 (.t 57), none⟩, ⟨some 59, .ld false 1 (.t 58), none⟩, ⟨some 60, .call N_bag_Find [] [.t 53, .t 59], none⟩, ⟨some 52, .mv (.t 60), none⟩, ⟨some 61, .ext (.t 52) 0, none⟩, ⟨some 62, .ext (.t 52) 1, none⟩, ⟨some 10, .alloc (.d (.agg [.int .i64 0, .int .i64 0, .int .i64 0, .int .i64 0, .int .i64 0, .int .i64 0])), none⟩, ⟨none, .st 6 (.t 10) (.t 61), none⟩, ⟨some 11, .mv (.t 62), none⟩] [[], [0], [0], [0, 1, 2], [0], [0], [0], [], [], [], [9], [0, 1, 2, 3, 4, 5, 6, 7, 8, 9, 10], [10], []] [49, 52, 53, 54, 55, 56, 57, 58, 59, 60, 61, 62])
 (.seq (.draw [] [⟨some 63, .mv (.t 11), none⟩, ⟨some 64, .un .not (.t 63), none⟩, ⟨some 65, .mv (.t 64), none⟩, ⟨some 66, .fad false 3 1 (.t 10), some (65, false)⟩, ⟨some 67, .ld false 1 (.t 66), some (65, false)⟩, ⟨some 68, .fad false 3 1 (.t 4), some (65, false)⟩, ⟨some 69, .ld false 1 (.t 68), some (65, false)⟩, ⟨some 70, .mv (.t 9), some (65, false)⟩, ⟨some 71, .iad 6 (.t 69) (.t 70), some (65, false)⟩, ⟨some 72, .fad false 3 1 (.t 71), some (65, false)⟩, ⟨some 73, .ld false 1 (.t 72), some (65, false)⟩, ⟨some 74, .bin .lss (.t 67) (.t 73), some (65, false)⟩, ⟨some 75, .pick (.t 65) (.c (.d (.bool true))) (.t 74), none⟩, ⟨some 76, .mv (.t 75), none⟩, ⟨some 77, .fad false 3 1 (.t 4), some (76, false)⟩, ⟨some 78, .ld false 1 (.t 77), some (76, false)⟩, ⟨some 79, .mv (.t 9), some (76, false)⟩, ⟨some 80, .iad 6 (.t 78) (.t 79), some (76, false)⟩, ⟨some 81, .fad false 1 1 (.t 80), some (76, false)⟩, ⟨some 82, .ld false 1 (.t 81), some (76, false)⟩, ⟨some 83, .bin .eql (.t 82) (.c (.d (.int .i64 4))), some (76, false)⟩, ⟨some 84, .mv (.t 83), some (76, false)⟩, ⟨some 85, .fad false 1 1 (.t 10), some (84, true)⟩, ⟨some 86, .ld false 1 (.t 85), some (84, true)⟩, ⟨some 87, .bin .neq (.t 86) (.c (.d (.int .i64 4))), some (84, true)⟩, ⟨some 88, .pick (.t 84) (.t 87) (.c (.d (.bool false))), some (76, false)⟩, ⟨some 89, .pick (.t 76) (.c (.d (.bool true))) (.t 88), none⟩, ⟨some 90, .mv (.t 89), none⟩, ⟨some 91, .fad false 2 1 (.t 10), some (90, false)⟩, ⟨some 92, .ld false 1 (.t 91), some (90, false)⟩, ⟨some 93, .fad false 0 1 (.t 7), some (90, false)⟩, ⟨some 94, .ld false 1 (.t 93), some (90, false)⟩, ⟨some 95, .bin .gtr (.t 92) (.t 94), some (90, false)⟩, ⟨some 96, .pick (.t 90) (.c (.d (.bool true))) (.t 95), none⟩] [[], [], [], [], [], [3, 4], [3, 4], [3, 4, 5, 6], [3, 4], [3, 4], [3, 4], [], [], [], [], [], [14, 15], [], [], [], [], [], [], [], [], [], [], [], [], [], [28, 29], [28, 29], [], []] [10, 11, 63, 64, 65, 66, 67, 68, 69, 70, 71, 72, 73, 74, 75, 76, 77, 78, 79, 80, 81, 82, 83, 84, 85, 86, 87, 88, 89, 90, 91, 92, 93, 94, 95])
 (.cond (.t 96) (.seq (.ops [] [⟨some 2, .mv (.c (.d (.bool false))), none⟩] [3, 4, 6, 7, 9, 96])
 (.ret [2])) .skip))))
 (.ops [] [⟨some 50, .mv (.t 9), none⟩, ⟨some 51, .bin .add (.t 50) (.c (.d (.int .i64 1))), none⟩, ⟨some 9, .mv (.t 51), none⟩] [50, 51, 96])))
def l_law31_BagKeeps_1 : ACode :=
 (.seq (.seq (.ops [] [⟨some 97, .mv (.t 12), none⟩, ⟨some 98, .fad false 3 1 (.t 7), none⟩, ⟨some 99, .ld false 1 (.t 98), none⟩, ⟨some 100, .len (.t 99), none⟩, ⟨some 101, .bin .lss (.t 97) (.t 100), none⟩] [97, 98, 99, 100])
 (.cond (.t 101) .skip (.exit 4 [3, 4, 6, 7])))
 (.seq (.block 5 (.seq (.draw [] [⟨some 104, .fad false 3 1 (.t 7), none⟩, ⟨some 105, .ld false 1 (.t 104), none⟩, ⟨some 106, .mv (.t 12), none⟩, ⟨some 107, .iad 6 (.t 105) (.t 106), none⟩, ⟨some 108, .fad false 0 1 (.t 107), none⟩, ⟨some 109, .ld false 1 (.t 108), none⟩, ⟨some 110, .fad false 3 1 (.t 7), none⟩, ⟨some 111, .ld false 1 (.t 110), none⟩, ⟨some 112, .mv (.t 12), none⟩, ⟨some 113, .bin .sub (.t 112) (.c (.d (.int .i64 1))), none⟩, ⟨some 114, .iad 6 (.t 111) (.t 113), none⟩, ⟨some 115, .fad false 0 1 (.t 114), none⟩, ⟨some 116, .ld false 1 (.t 115), none⟩, ⟨some 117, .bin .leq (.t 109) (.t 116), none⟩] [[], [], [0, 1], [], [], [], [0, 1, 2, 3, 4, 5], [0, 1, 2, 3, 4, 5], [0, 1, 2, 3, 4, 5, 6, 7], [0, 1, 2, 3, 4, 5, 6, 7], [0, 1, 2, 3, 4, 5], [0, 1, 2, 3, 4, 5], [0, 1, 2, 3, 4, 5], []] [101, 104, 105, 106, 107, 108, 109, 110, 111, 112, 113, 114, 115, 116])
 (.cond (.t 117) (.seq (.ops [] [⟨some 2, .mv (.c (.d (.bool false))), none⟩] [3, 4, 6, 7, 12, 117])
 (.ret [2])) .skip)))
 (.ops [] [⟨some 102, .mv (.t 12), none⟩, ⟨some 103, .bin .add (.t 102) (.c (.d (.int .i64 1))), none⟩, ⟨some 12, .mv (.t 103), none⟩] [102, 103, 117])))
def l_law31_BagKeeps_2 : ACode :=
 (.seq (.seq (.ops [] [⟨some 23, .mv (.t 6), none⟩, ⟨some 24, .bin .lss (.t 23) (.c (.d (.int .i64 40))), none⟩, ⟨some 25, .mv (.t 24), none⟩, ⟨some 26, .mv (.t 6), some (25, true)⟩, ⟨some 27, .bin .lss (.t 26) (.c (.d (.int .i64 4))), some (25, true)⟩, ⟨some 28, .mv (.t 27), some (25, true)⟩, ⟨some 29, .mv (.t 3), some (28, false)⟩, ⟨some 30, .call N_base_Src_More [] [.t 29], some (28, false)⟩, ⟨some 31, .pick (.t 28) (.c (.d (.bool true))) (.t 30), some (25, true)⟩, ⟨some 32, .pick (.t 25) (.t 31) (.c (.d (.bool false))), none⟩] [23, 24, 25, 26, 27, 28, 29, 30, 31])
 (.cond (.t 32) .skip (.exit 0 [])))
 (.seq (.block 1 (.seq (.draw [] [⟨some 36, .ld true 4 (.t 4), none⟩, ⟨some 37, .mv (.t 3), none⟩, ⟨some 38, .ld true 4 (.t 4), none⟩, ⟨some 39, .call N_law31_event [true, false] [.t 37, .t 38], none⟩, ⟨some 40, .call N_bag_Step [] [.t 36, .t 39], none⟩, ⟨some 35, .mv (.t 40), none⟩, ⟨some 41, .ext (.t 35) 0, none⟩, ⟨some 42, .ext (.t 35) 1, none⟩, ⟨some 7, .alloc (.agg [.d (.int .i64 0), .d (.int .i64 0), .d (.int .i64 0), .xsl []]), none⟩, ⟨none, .st 4 (.t 7) (.t 41), none⟩, ⟨some 8, .mv (.t 42), none⟩] [[], [0], [0, 1], [0], [], [], [], [6], [0, 1, 2, 3, 4, 5, 6, 7], [7], []] [32, 35, 36, 37, 38, 39, 40, 41, 42])
 (.seq (.seq (.ops [] [⟨some 43, .mv (.t 8), none⟩, ⟨some 44, .bin .neq (.t 43) (.c (.d (.int .i64 0))), none⟩] [8, 43])
 (.cond (.t 44) (.exit 1 [3, 4, 6]) .skip))
 (.seq (.seq (.ops [] [⟨some 9, .mv (.c (.d (.int .i64 0))), none⟩] [44])
 (.block 2 (.loop [] l_law31_BagKeeps_0)))
 (.seq (.seq (.ops [] [⟨some 12, .mv (.c (.d (.int .i64 1))), none⟩] [9, 49])
 (.block 4 (.loop [] l_law31_BagKeeps_1)))
 (.ops [] [⟨some 118, .ld true 4 (.t 7), none⟩, ⟨none, .st 4 (.t 4) (.t 118), none⟩] [7, 12, 101, 118]))))))
 (.ops [] [⟨some 33, .mv (.t 6), none⟩, ⟨some 34, .bin .add (.t 33) (.c (.d (.int .i64 1))), none⟩, ⟨some 6, .mv (.t 34), none⟩] [7, 33, 34, 44])))
def c_law31_BagKeeps : ACode :=
 (.seq (.ops [] [⟨some 2, .mv (.c (.d (.bool false))), none⟩] [2])
 (.seq (.ops [] [⟨some 13, .mv (.t 0), none⟩, ⟨some 14, .call N_base_New [] [.t 13], none⟩, ⟨some 3, .mv (.t 14), none⟩] [0, 13, 14])
 (.seq (.ops [] [⟨some 16, .mv (.t 3), none⟩, ⟨some 17, .call N_base_Src_Range [true, false, false] [.t 16, .c (.d (.int .i64 1)), .c (.d (.int .i64 3))], none⟩, ⟨some 18, .call N_bag_New [] [.t 17, .c (.d (.int .i64 5)), .c (.d (.int .i64 1))], none⟩, ⟨some 15, .mv (.t 18), none⟩, ⟨some 19, .ext (.t 15) 0, none⟩, ⟨some 20, .ext (.t 15) 1, none⟩, ⟨some 4, .alloc (.agg [.d (.int .i64 0), .d (.int .i64 0), .d (.int .i64 0), .xsl []]), none⟩, ⟨none, .st 4 (.t 4) (.t 19), none⟩, ⟨some 5, .mv (.t 20), none⟩] [15, 16, 17, 18, 19, 20])
 (.seq (.seq (.ops [] [⟨some 21, .mv (.t 5), none⟩, ⟨some 22, .bin .neq (.t 21) (.c (.d (.int .i64 0))), none⟩] [5, 21])
 (.cond (.t 22) (.seq (.ops [] [⟨some 2, .mv (.c (.d (.bool false))), none⟩] [3, 4, 22])
 (.ret [2])) .skip))
 (.seq (.seq (.ops [] [⟨some 6, .mv (.c (.d (.int .i64 0))), none⟩] [22])
 (.block 0 (.loop [] l_law31_BagKeeps_2)))
 (.seq (.ops [] [⟨some 119, .call N_law31_awake [] [], none⟩, ⟨some 2, .mv (.t 119), none⟩] [3, 4, 6, 32, 119])
 (.ret [2])))))))
def r_law31_BagKeeps : List ARes := [.t 2]
def fn_law31_BagKeeps : AFn := .code c_law31_BagKeeps r_law31_BagKeeps 120 true
def l_law31_BagExclusive_0 : ACode :=
 (.seq (.seq (.ops [] [⟨some 78, .mv (.t 13), none⟩, ⟨some 79, .fad false 7 1 (.t 9), none⟩, ⟨some 80, .ld false 1 (.t 79), none⟩, ⟨some 81, .len (.t 80), none⟩, ⟨some 82, .bin .lss (.t 78) (.t 81), none⟩] [78, 79, 80, 81])
 (.cond (.t 82) .skip (.exit 2 [3, 4, 8, 9, 10, 12])))
 (.seq (.block 3 (.seq (.ops [] [⟨some 85, .fad false 7 1 (.t 9), none⟩, ⟨some 86, .ld false 1 (.t 85), none⟩, ⟨some 87, .mv (.t 13), none⟩, ⟨some 88, .iad 4 (.t 86) (.t 87), none⟩, ⟨some 89, .fad false 0 1 (.t 88), none⟩, ⟨some 90, .ld false 1 (.t 89), none⟩, ⟨some 91, .bin .eql (.t 90) (.c (.d (.int .i64 1))), none⟩, ⟨some 92, .mv (.t 91), none⟩, ⟨some 93, .fad false 6 1 (.t 9), some (92, true)⟩, ⟨some 94, .ld false 1 (.t 93), some (92, true)⟩, ⟨some 95, .bin .eql (.t 94) (.c (.d (.int .i64 0))), some (92, true)⟩, ⟨some 96, .pick (.t 92) (.t 95) (.c (.d (.bool false))), none⟩] [82, 85, 86, 87, 88, 89, 90, 91, 92, 93, 94, 95])
 (.cond (.t 96) (.ops [] [⟨some 12, .mv (.c (.d (.bool true))), none⟩] [96]) .skip)))
 (.ops [] [⟨some 83, .mv (.t 13), none⟩, ⟨some 84, .bin .add (.t 83) (.c (.d (.int .i64 1))), none⟩, ⟨some 13, .mv (.t 84), none⟩] [83, 84, 96])))
def l_law31_BagExclusive_1 : ACode :=
 (.seq (.seq (.ops [] [⟨some 110, .mv (.t 14), none⟩, ⟨some 111, .bin .lss (.t 110) (.c (.d (.int .i64 3))), none⟩] [110])
 (.cond (.t 111) .skip (.exit 4 [3, 4, 8])))
 (.seq (.block 5 (.seq (.ops [] [⟨some 114, .ld true 4 (.t 4), none⟩, ⟨some 115, .mv (.t 14), none⟩, ⟨some 116, .build [.d (.int .i64 0), .d (.int .i64 0), .d (.int .i64 0), .d (.int .i64 0)] [(0, (1, .c (.d (.int .i64 1)))), (1, (1, .t 115)), (2, (1, .c (.d (.int .i64 7))))], none⟩, ⟨some 117, .call N_bag_Valid [] [.t 114, .t 116], none⟩, ⟨some 118, .mv (.t 14), none⟩, ⟨some 119, .bin .eql (.t 118) (.c (.d (.int .i64 1))), none⟩, ⟨some 120, .mv (.t 119), none⟩, ⟨some 121, .fad false 1 1 (.t 4), some (120, true)⟩, ⟨some 122, .ld false 1 (.t 121), some (120, true)⟩, ⟨some 123, .bin .lss (.t 122) (.c (.d (.int .i64 10))), some (120, true)⟩, ⟨some 124, .pick (.t 120) (.t 123) (.c (.d (.bool false))), none⟩, ⟨some 125, .eqb true (.t 117) (.t 124), none⟩] [111, 114, 115, 116, 117, 118, 119, 120, 121, 122, 123, 124])
 (.cond (.t 125) (.seq (.ops [] [⟨some 2, .mv (.c (.d (.bool false))), none⟩] [3, 4, 8, 14, 125])
 (.ret [2])) .skip)))
 (.ops [] [⟨some 112, .mv (.t 14), none⟩, ⟨some 113, .bin .add (.t 112) (.c (.d (.int .i64 1))), none⟩, ⟨some 14, .mv (.t 113), none⟩] [112, 113, 125])))
def l_law31_BagExclusive_2 : ACode :=
 (.seq (.seq (.ops [] [⟨some 47, .mv (.t 8), none⟩, ⟨some 48, .bin .lss (.t 47) (.c (.d (.int .i64 20))), none⟩, ⟨some 49, .mv (.t 48), none⟩, ⟨some 50, .mv (.t 8), some (49, true)⟩, ⟨some 51, .bin .lss (.t 50) (.c (.d (.int .i64 3))), some (49, true)⟩, ⟨some 52, .mv (.t 51), some (49, true)⟩, ⟨some 53, .mv (.t 3), some (52, false)⟩, ⟨some 54, .call N_base_Src_More [] [.t 53], some (52, false)⟩, ⟨some 55, .pick (.t 52) (.c (.d (.bool true))) (.t 54), some (49, true)⟩, ⟨some 56, .pick (.t 49) (.t 55) (.c (.d (.bool false))), none⟩] [47, 48, 49, 50, 51, 52, 53, 54, 55])
 (.cond (.t 56) .skip (.exit 0 [])))
 (.seq (.block 1 (.seq (.ops [] [⟨some 59, .mv (.t 3), none⟩, ⟨some 60, .ld true 4 (.t 4), none⟩, ⟨some 61, .call N_law31_event [true, false] [.t 59, .t 60], none⟩, ⟨some 9, .alloc (.agg [.d (.int .i64 0), .d (.int .i64 0), .d (.int .i64 0), .d (.int .i64 0), .d (.int .i64 0), .d (.int .i64 0), .d (.int .i64 0), .xsl [], .d (.int .i64 0), .d (.int .i64 0)]), none⟩, ⟨none, .st 10 (.t 9) (.t 61), none⟩] [56, 59, 60, 61])
 (.seq (.ops [] [⟨some 63, .ld true 4 (.t 4), none⟩, ⟨some 64, .ld true 10 (.t 9), none⟩, ⟨some 65, .call N_bag_Step [] [.t 63, .t 64], none⟩, ⟨some 62, .mv (.t 65), none⟩, ⟨some 66, .ext (.t 62) 0, none⟩, ⟨some 67, .ext (.t 62) 1, none⟩, ⟨some 10, .alloc (.agg [.d (.int .i64 0), .d (.int .i64 0), .d (.int .i64 0), .xsl []]), none⟩, ⟨none, .st 4 (.t 10) (.t 66), none⟩, ⟨some 11, .mv (.t 67), none⟩] [62, 63, 64, 65, 66, 67])
 (.seq (.seq (.ops [] [⟨some 68, .mv (.t 11), none⟩, ⟨some 69, .bin .neq (.t 68) (.c (.d (.int .i64 0))), none⟩] [11, 68])
 (.cond (.t 69) (.exit 1 [3, 4, 8]) .skip))
 (.seq (.ops [] [⟨some 70, .fad false 3 1 (.t 9), none⟩, ⟨some 71, .ld false 1 (.t 70), none⟩, ⟨some 72, .bin .eql (.t 71) (.c (.d (.int .i64 7))), none⟩, ⟨some 73, .mv (.t 72), none⟩, ⟨some 74, .fad false 6 1 (.t 9), some (73, true)⟩, ⟨some 75, .ld false 1 (.t 74), some (73, true)⟩, ⟨some 76, .bin .eql (.t 75) (.c (.d (.int .i64 0))), some (73, true)⟩, ⟨some 77, .pick (.t 73) (.t 76) (.c (.d (.bool false))), none⟩, ⟨some 12, .mv (.t 77), none⟩] [69, 70, 71, 72, 73, 74, 75, 76, 77])
 (.seq (.seq (.ops [] [⟨some 13, .mv (.c (.d (.int .i64 0))), none⟩] [])
 (.block 2 (.loop [] l_law31_BagExclusive_0)))
 (.seq (.seq (.ops [] [⟨some 97, .mv (.t 12), none⟩] [12, 13, 82])
 (.cond (.t 97) (.seq (.ops [] [⟨some 98, .fad false 3 1 (.t 9), none⟩, ⟨some 99, .ld false 1 (.t 98), none⟩, ⟨some 100, .bin .neq (.t 99) (.c (.d (.int .i64 3))), none⟩, ⟨some 101, .mv (.t 100), none⟩, ⟨some 102, .fad false 3 1 (.t 9), some (101, true)⟩, ⟨some 103, .ld false 1 (.t 102), some (101, true)⟩, ⟨some 104, .bin .neq (.t 103) (.c (.d (.int .i64 2))), some (101, true)⟩, ⟨some 105, .pick (.t 101) (.t 104) (.c (.d (.bool false))), none⟩, ⟨some 106, .mv (.t 105), none⟩, ⟨some 107, .call N_law31_awake [] [], some (106, true)⟩, ⟨some 108, .pick (.t 106) (.t 107) (.c (.d (.bool false))), none⟩, ⟨some 2, .mv (.t 108), none⟩] [3, 4, 8, 9, 10, 97, 98, 99, 100, 101, 102, 103, 104, 105, 106, 107, 108])
 (.ret [2])) .skip))
 (.seq (.ops [] [⟨some 109, .ld true 4 (.t 10), none⟩, ⟨none, .st 4 (.t 4) (.t 109), none⟩] [9, 10, 97, 109])
 (.seq (.ops [] [⟨some 14, .mv (.c (.d (.int .i64 0))), none⟩] [])
 (.block 4 (.loop [] l_law31_BagExclusive_1)))))))))))
 (.ops [] [⟨some 57, .mv (.t 8), none⟩, ⟨some 58, .bin .add (.t 57) (.c (.d (.int .i64 1))), none⟩, ⟨some 8, .mv (.t 58), none⟩] [9, 10, 14, 57, 58, 69, 111])))
def c_law31_BagExclusive : ACode :=
 (.seq (.ops [] [⟨some 2, .mv (.c (.d (.bool false))), none⟩] [2])
 (.seq (.ops [] [⟨some 15, .mv (.t 0), none⟩, ⟨some 16, .call N_base_New [] [.t 15], none⟩, ⟨some 3, .mv (.t 16), none⟩] [0, 15, 16])
 (.seq (.ops [] [⟨some 18, .call N_bag_New [] [.c (.d (.int .i64 2)), .c (.d (.int .i64 0)), .c (.d (.int .i64 0))], none⟩, ⟨some 17, .mv (.t 18), none⟩, ⟨some 19, .ext (.t 17) 0, none⟩, ⟨some 20, .ext (.t 17) 1, none⟩, ⟨some 4, .alloc (.agg [.d (.int .i64 0), .d (.int .i64 0), .d (.int .i64 0), .xsl []]), none⟩, ⟨none, .st 4 (.t 4) (.t 19), none⟩, ⟨some 5, .mv (.t 20), none⟩] [17, 18, 19, 20])
 (.seq (.ops [] [⟨some 22, .ld true 4 (.t 4), none⟩, ⟨some 23, .build [.d (.int .i64 0), .d (.int .i64 0), .d (.int .i64 0), .d (.int .i64 0)] [(0, (1, .c (.d (.int .i64 1))))], none⟩, ⟨some 24, .bsl 1 4 (.d (.agg [.int .i64 0, .int .i64 0, .int .i64 0, .int .i64 0])) [(0, .t 23)], none⟩, ⟨some 25, .build [.d (.int .i64 0), .d (.int .i64 0), .d (.int .i64 0), .d (.int .i64 0), .d (.int .i64 0), .d (.int .i64 0), .d (.int .i64 0), .xsl [], .d (.int .i64 0), .d (.int .i64 0)] [(3, (1, .c (.d (.int .i64 2)))), (7, (1, .t 24))], none⟩, ⟨some 26, .call N_bag_Step [] [.t 22, .t 25], none⟩, ⟨some 21, .mv (.t 26), none⟩, ⟨some 27, .ext (.t 21) 0, none⟩, ⟨some 28, .ext (.t 21) 1, none⟩, ⟨none, .st 4 (.t 4) (.t 27), none⟩, ⟨some 6, .mv (.t 28), none⟩] [21, 22, 23, 24, 25, 26, 27, 28])
 (.seq (.ops [] [⟨some 30, .ld true 4 (.t 4), none⟩, ⟨some 31, .build [.d (.int .i64 0), .d (.int .i64 0), .d (.int .i64 0), .d (.int .i64 0)] [(0, (1, .c (.d (.int .i64 1)))), (1, (1, .c (.d (.int .i64 1)))), (2, (1, .c (.d (.int .i64 7)))), (3, (1, .c (.d (.int .i64 10))))], none⟩, ⟨some 32, .bsl 1 4 (.d (.agg [.int .i64 0, .int .i64 0, .int .i64 0, .int .i64 0])) [(0, .t 31)], none⟩, ⟨some 33, .build [.d (.int .i64 0), .d (.int .i64 0), .d (.int .i64 0), .d (.int .i64 0), .d (.int .i64 0), .d (.int .i64 0), .d (.int .i64 0), .xsl [], .d (.int .i64 0), .d (.int .i64 0)] [(3, (1, .c (.d (.int .i64 3)))), (7, (1, .t 32))], none⟩, ⟨some 34, .call N_bag_Step [] [.t 30, .t 33], none⟩, ⟨some 29, .mv (.t 34), none⟩, ⟨some 35, .ext (.t 29) 0, none⟩, ⟨some 36, .ext (.t 29) 1, none⟩, ⟨none, .st 4 (.t 4) (.t 35), none⟩, ⟨some 7, .mv (.t 36), none⟩] [29, 30, 31, 32, 33, 34, 35, 36])
 (.seq (.seq (.ops [] [⟨some 37, .mv (.t 5), none⟩, ⟨some 38, .bin .neq (.t 37) (.c (.d (.int .i64 0))), none⟩, ⟨some 39, .mv (.t 38), none⟩, ⟨some 40, .mv (.t 6), some (39, false)⟩, ⟨some 41, .bin .neq (.t 40) (.c (.d (.int .i64 0))), some (39, false)⟩, ⟨some 42, .pick (.t 39) (.c (.d (.bool true))) (.t 41), none⟩, ⟨some 43, .mv (.t 42), none⟩, ⟨some 44, .mv (.t 7), some (43, false)⟩, ⟨some 45, .bin .neq (.t 44) (.c (.d (.int .i64 0))), some (43, false)⟩, ⟨some 46, .pick (.t 43) (.c (.d (.bool true))) (.t 45), none⟩] [5, 6, 7, 37, 38, 39, 40, 41, 42, 43, 44, 45])
 (.cond (.t 46) (.seq (.ops [] [⟨some 2, .mv (.c (.d (.bool false))), none⟩] [3, 4, 46])
 (.ret [2])) .skip))
 (.seq (.seq (.ops [] [⟨some 8, .mv (.c (.d (.int .i64 0))), none⟩] [46])
 (.block 0 (.loop [] l_law31_BagExclusive_2)))
 (.seq (.ops [] [⟨some 126, .call N_law31_awake [] [], none⟩, ⟨some 2, .mv (.t 126), none⟩] [3, 4, 8, 56, 126])
 (.ret [2])))))))))
def r_law31_BagExclusive : List ARes := [.t 2]
def fn_law31_BagExclusive : AFn := .code c_law31_BagExclusive r_law31_BagExclusive 127 true
end Go.Proofs.Ytbkhijigkmhhkaa
