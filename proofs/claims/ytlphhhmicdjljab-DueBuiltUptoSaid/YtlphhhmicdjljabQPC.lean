/-
  Functions of the program, as the calculus has them.
-/
import Derived.Test.YtlphhhmicdjljabQPN
namespace Go.Proofs.Ytlphhhmicdjljab
set_option linter.unusedSimpArgs false
set_option linter.unusedVariables false
open Go Go.Sim
/- shardqueue/shardqueuelaw05.DueUntil -/
def l_law05_DueUntil_0 : ACode :=
 (.seq (.seq (.ops [] [⟨some 25, .mv (.t 10), none⟩, ⟨some 26, .mv (.t 6), none⟩, ⟨some 27, .len (.t 26), none⟩, ⟨some 28, .bin .lss (.t 25) (.t 27), none⟩] [25, 26, 27])
 (.cond (.t 28) .skip (.exit 2 [1, 5, 6, 7, 8, 9])))
 (.seq (.block 3 (.draw [] [⟨some 31, .mv (.t 9), none⟩, ⟨some 32, .mv (.t 31), none⟩, ⟨some 33, .mv (.t 6), some (32, false)⟩, ⟨some 34, .mv (.t 10), some (32, false)⟩, ⟨some 35, .iad 1 (.t 33) (.t 34), some (32, false)⟩, ⟨some 36, .ld false 1 (.t 35), some (32, false)⟩, ⟨some 37, .mv (.t 5), some (32, false)⟩, ⟨some 38, .mv (.t 8), some (32, false)⟩, ⟨some 39, .iad 2 (.t 37) (.t 38), some (32, false)⟩, ⟨some 40, .fad false 1 1 (.t 39), some (32, false)⟩, ⟨some 41, .ld false 1 (.t 40), some (32, false)⟩, ⟨some 42, .bin .eql (.t 36) (.t 41), some (32, false)⟩, ⟨some 43, .pick (.t 32) (.c (.d (.bool true))) (.t 42), none⟩, ⟨some 9, .mv (.t 43), none⟩] [[], [], [], [2], [], [], [2, 3, 4, 5], [2, 3, 4, 5, 6], [2, 3, 4, 5], [2, 3, 4, 5], [2, 3, 4, 5], [], [], []] [28, 31, 32, 33, 34, 35, 36, 37, 38, 39, 40, 41, 42, 43]))
 (.ops [] [⟨some 29, .mv (.t 10), none⟩, ⟨some 30, .bin .add (.t 29) (.c (.d (.int .i64 1))), none⟩, ⟨some 10, .mv (.t 30), none⟩] [29, 30])))
def l_law05_DueUntil_1 : ACode :=
 (.seq (.seq (.ops [] [⟨some 19, .mv (.t 8), none⟩, ⟨some 20, .mv (.t 5), none⟩, ⟨some 21, .len (.t 20), none⟩, ⟨some 22, .bin .lss (.t 19) (.t 21), none⟩] [19, 20, 21])
 (.cond (.t 22) .skip (.exit 0 [6, 7])))
 (.seq (.block 1 (.seq (.ops [] [⟨some 9, .mv (.c (.d (.bool false))), none⟩] [22])
 (.seq (.seq (.ops [] [⟨some 10, .mv (.c (.d (.int .i64 0))), none⟩] [])
 (.block 2 (.loop [] l_law05_DueUntil_0)))
 (.seq (.seq (.ops [] [⟨some 44, .mv (.t 9), none⟩, ⟨some 45, .mv (.t 5), none⟩, ⟨some 46, .mv (.t 8), none⟩, ⟨some 47, .iad 2 (.t 45) (.t 46), none⟩, ⟨some 48, .fad false 0 1 (.t 47), none⟩, ⟨some 49, .ld false 1 (.t 48), none⟩, ⟨some 50, .mv (.t 1), none⟩, ⟨some 51, .bin .leq (.t 49) (.t 50), none⟩, ⟨some 52, .eqb true (.t 44) (.t 51), none⟩] [10, 28, 44, 45, 46, 47, 48, 49, 50, 51])
 (.cond (.t 52) (.seq (.ops [] [⟨some 4, .mv (.c (.d (.bool false))), none⟩] [1, 5, 6, 7, 8, 9, 52])
 (.ret [4])) .skip))
 (.seq (.ops [] [⟨some 53, .mv (.t 9), none⟩] [9, 52])
 (.cond (.t 53) (.ops [] [⟨some 54, .mv (.t 7), none⟩, ⟨some 55, .bin .add (.t 54) (.c (.d (.int .i64 1))), none⟩, ⟨some 7, .mv (.t 55), none⟩] [53, 54, 55]) .skip))))))
 (.ops [] [⟨some 23, .mv (.t 8), none⟩, ⟨some 24, .bin .add (.t 23) (.c (.d (.int .i64 1))), none⟩, ⟨some 8, .mv (.t 24), none⟩] [23, 24, 53])))
def c_law05_DueUntil : ACode :=
 (.seq (.ops [] [⟨some 4, .mv (.c (.d (.bool false))), none⟩] [4])
 (.seq (.ops [] [⟨some 11, .mv (.t 0), none⟩, ⟨some 12, .call N_base_New [] [.t 11], none⟩, ⟨some 13, .call N_base_Src_Heap [true] [.t 12], none⟩, ⟨some 5, .mv (.t 13), none⟩] [0, 11, 12, 13])
 (.seq (.ops [] [⟨some 14, .mv (.t 1), none⟩, ⟨some 15, .bin .and (.t 14) (.c (.d (.int .i64 15))), none⟩, ⟨some 1, .mv (.t 15), none⟩] [14, 15])
 (.seq (.ops [] [⟨some 16, .mv (.t 5), none⟩, ⟨some 17, .mv (.t 1), none⟩, ⟨some 18, .call N_due_Until [] [.t 16, .t 17], none⟩, ⟨some 6, .mv (.t 18), none⟩] [16, 17, 18])
 (.seq (.ops [] [⟨some 7, .mv (.c (.d (.int .i64 0))), none⟩] [])
 (.seq (.seq (.ops [] [⟨some 8, .mv (.c (.d (.int .i64 0))), none⟩] [])
 (.block 0 (.loop [] l_law05_DueUntil_1)))
 (.seq (.ops [] [⟨some 56, .mv (.t 7), none⟩, ⟨some 57, .mv (.t 6), none⟩, ⟨some 58, .len (.t 57), none⟩, ⟨some 59, .bin .eql (.t 56) (.t 58), none⟩, ⟨some 60, .mv (.t 59), none⟩, ⟨some 61, .call N_law05_awake [] [], some (60, true)⟩, ⟨some 62, .pick (.t 60) (.t 61) (.c (.d (.bool false))), none⟩, ⟨some 4, .mv (.t 62), none⟩] [1, 5, 6, 7, 8, 22, 56, 57, 58, 59, 60, 61, 62])
 (.ret [4]))))))))
def r_law05_DueUntil : List ARes := [.t 4]
def fn_law05_DueUntil : AFn := .code c_law05_DueUntil r_law05_DueUntil 63 true
/- shardqueue/shardqueuebase.New -/
def c_base_New : ACode :=
 (.seq (.ops [] [⟨some 2, .mv (.c .undef), none⟩] [2])
 (.seq (.seq (.ops [] [⟨some 3, .mv (.t 0), none⟩, ⟨some 4, .len (.t 3), none⟩, ⟨some 5, .bin .gtr (.t 4) (.c (.d (.int .i64 4000))), none⟩] [3, 4])
 (.cond (.t 5) (.ops [] [⟨some 6, .mv (.t 0), none⟩, ⟨some 7, .slc 1 (.t 6) none (some (.c (.d (.int .i64 4000)))) none, none⟩, ⟨some 0, .mv (.t 7), none⟩] [5, 6, 7]) .skip))
 (.seq (.ops [] [⟨some 8, .mv (.t 0), none⟩, ⟨some 9, .build [.xsl [], .d (.int .i64 0)] [(0, (1, .t 8))], none⟩, ⟨some 10, .box (.t 9), none⟩, ⟨some 2, .mv (.t 10), none⟩] [0, 5, 8, 9, 10])
 (.ret [2]))))
def r_base_New : List ARes := [.t 2]
def fn_base_New : AFn := .code c_base_New r_base_New 11 false
/- (*shardqueue/shardqueuebase.Src).Heap -/
def l_base_Src_Heap_0 : ACode :=
 (.seq (.seq (.ops [] [⟨some 9, .mv (.t 4), none⟩, ⟨some 10, .bin .gtr (.t 9) (.c (.d (.int .i64 0))), none⟩] [9])
 (.cond (.t 10) .skip (.exit 0 [3])))
 (.seq (.block 1 (.seq (.ops [] [⟨some 14, .mv (.t 3), none⟩, ⟨some 15, .mv (.t 0), none⟩, ⟨some 16, .call N_base_Src_N [true, false] [.t 15, .c (.d (.int .i64 12))], none⟩, ⟨some 17, .mv (.t 0), none⟩, ⟨some 18, .call N_base_Src_Range [true, false, false] [.t 17, .c (.d (.int .i64 1)), .c (.d (.int .i64 20))], none⟩, ⟨some 19, .build [.d (.int .i64 0), .d (.int .i64 0)] [(0, (1, .t 16)), (1, (1, .t 18))], none⟩, ⟨some 20, .call N_ref05_Push [] [.t 14, .t 19], none⟩, ⟨some 13, .mv (.t 20), none⟩, ⟨some 21, .ext (.t 13) 0, none⟩, ⟨some 22, .ext (.t 13) 1, none⟩, ⟨some 5, .mv (.t 21), none⟩, ⟨some 6, .mv (.t 22), none⟩] [10, 13, 14, 15, 16, 17, 18, 19, 20, 21, 22])
 (.seq (.ops [] [⟨some 23, .mv (.t 6), none⟩, ⟨some 24, .bin .eql (.t 23) (.c (.d (.int .i64 0))), none⟩] [6, 23])
 (.cond (.t 24) (.ops [] [⟨some 25, .mv (.t 5), none⟩, ⟨some 3, .mv (.t 25), none⟩] [5, 24, 25]) .skip))))
 (.ops [] [⟨some 11, .mv (.t 4), none⟩, ⟨some 12, .bin .sub (.t 11) (.c (.d (.int .i64 1))), none⟩, ⟨some 4, .mv (.t 12), none⟩] [5, 11, 12, 24])))
def c_base_Src_Heap : ACode :=
 (.seq (.ops [] [⟨some 2, .mv (.c (.xsl [])), none⟩] [2])
 (.seq (.ops [] [⟨some 3, .mv (.c (.xsl [])), none⟩] [])
 (.seq (.seq (.ops [] [⟨some 7, .mv (.t 0), none⟩, ⟨some 8, .call N_base_Src_N [true, false] [.t 7, .c (.d (.int .i64 13))], none⟩, ⟨some 4, .mv (.t 8), none⟩] [7, 8])
 (.block 0 (.loop [] l_base_Src_Heap_0)))
 (.seq (.ops [] [⟨some 26, .mv (.t 3), none⟩, ⟨some 2, .mv (.t 26), none⟩] [0, 3, 4, 10, 26])
 (.ret [2])))))
def r_base_Src_Heap : List ARes := [.t 2]
def fn_base_Src_Heap : AFn := .code c_base_Src_Heap r_base_Src_Heap 27 true
/- (*shardqueue/shardqueuebase.Src).N -/
def c_base_Src_N : ACode :=
 (.seq (.ops [] [⟨some 4, .mv (.c (.d (.int .i64 0))), none⟩] [4])
 (.seq (.seq (.ops [] [⟨some 6, .mv (.t 1), none⟩, ⟨some 7, .bin .lss (.t 6) (.c (.d (.int .i64 1))), none⟩] [6])
 (.cond (.t 7) (.seq (.ops [] [⟨some 4, .mv (.c (.d (.int .i64 0))), none⟩] [0, 1, 7])
 (.ret [4])) .skip))
 (.seq (.ops [] [⟨some 8, .mv (.t 0), none⟩, ⟨some 9, .call N_base_Src_Raw [true] [.t 8], none⟩, ⟨some 10, .mv (.t 1), none⟩, ⟨some 11, .bin .rem (.t 9) (.t 10), none⟩, ⟨some 5, .mv (.t 11), none⟩] [0, 7, 8, 9, 10, 11])
 (.seq (.seq (.ops [] [⟨some 12, .mv (.t 5), none⟩, ⟨some 13, .bin .lss (.t 12) (.c (.d (.int .i64 0))), none⟩] [12])
 (.cond (.t 13) (.ops [] [⟨some 14, .mv (.t 5), none⟩, ⟨some 15, .mv (.t 1), none⟩, ⟨some 16, .bin .add (.t 14) (.t 15), none⟩, ⟨some 5, .mv (.t 16), none⟩] [1, 13, 14, 15, 16]) .skip))
 (.seq (.ops [] [⟨some 17, .mv (.t 5), none⟩, ⟨some 4, .mv (.t 17), none⟩] [1, 5, 13, 17])
 (.ret [4]))))))
def r_base_Src_N : List ARes := [.t 4]
def fn_base_Src_N : AFn := .code c_base_Src_N r_base_Src_N 18 true
/- (*shardqueue/shardqueuebase.Src).Raw -/
def c_base_Src_Raw : ACode :=
 (.seq (.ops [] [⟨some 2, .mv (.c (.d (.int .i64 0))), none⟩] [2])
 (.seq (.seq (.draw [] [⟨some 3, .mv (.t 0), none⟩, ⟨some 4, .nilc (.t 3), none⟩, ⟨some 5, .fad false 1 1 (.t 4), none⟩, ⟨some 6, .ld false 1 (.t 5), none⟩, ⟨some 7, .mv (.t 0), none⟩, ⟨some 8, .nilc (.t 7), none⟩, ⟨some 9, .fad false 0 1 (.t 8), none⟩, ⟨some 10, .ld false 1 (.t 9), none⟩, ⟨some 11, .len (.t 10), none⟩, ⟨some 12, .bin .geq (.t 6) (.t 11), none⟩] [[], [], [], [], [0, 1, 2, 3], [0, 1, 2, 3], [0, 1, 2, 3], [0, 1, 2, 3], [0, 1, 2, 3], []] [3, 4, 5, 6, 7, 8, 9, 10, 11])
 (.cond (.t 12) (.seq (.ops [] [⟨some 2, .mv (.c (.d (.int .i64 0))), none⟩] [0, 12])
 (.ret [2])) .skip))
 (.seq (.ops [] [⟨some 13, .mv (.t 0), none⟩, ⟨some 14, .nilc (.t 13), none⟩, ⟨some 15, .fad false 1 1 (.t 14), none⟩, ⟨some 16, .ld false 1 (.t 15), none⟩, ⟨some 17, .bin .add (.t 16) (.c (.d (.int .i64 1))), none⟩, ⟨some 18, .nilc (.t 13), none⟩, ⟨some 19, .fad false 1 1 (.t 18), none⟩, ⟨none, .st 1 (.t 19) (.t 17), none⟩] [12, 13, 14, 15, 16, 17, 18, 19])
 (.seq (.draw [] [⟨some 20, .mv (.t 0), none⟩, ⟨some 21, .nilc (.t 20), none⟩, ⟨some 22, .fad false 0 1 (.t 21), none⟩, ⟨some 23, .ld false 1 (.t 22), none⟩, ⟨some 24, .mv (.t 0), none⟩, ⟨some 25, .nilc (.t 24), none⟩, ⟨some 26, .fad false 1 1 (.t 25), none⟩, ⟨some 27, .ld false 1 (.t 26), none⟩, ⟨some 28, .bin .sub (.t 27) (.c (.d (.int .i64 1))), none⟩, ⟨some 29, .iad 1 (.t 23) (.t 28), none⟩, ⟨some 30, .ld false 1 (.t 29), none⟩, ⟨some 2, .mv (.t 30), none⟩] [[], [], [], [], [0, 1, 2, 3], [0, 1, 2, 3], [0, 1, 2, 3], [0, 1, 2, 3], [0, 1, 2, 3], [], [], []] [0, 20, 21, 22, 23, 24, 25, 26, 27, 28, 29, 30])
 (.ret [2])))))
def r_base_Src_Raw : List ARes := [.t 2]
def fn_base_Src_Raw : AFn := .code c_base_Src_Raw r_base_Src_Raw 31 true
/- (*shardqueue/shardqueuebase.Src).Range -/
def c_base_Src_Range : ACode :=
 (.seq (.ops [] [⟨some 6, .mv (.c (.d (.int .i64 0))), none⟩] [6])
 (.seq (.ops [] [⟨some 7, .mv (.t 1), none⟩, ⟨some 8, .mv (.t 0), none⟩, ⟨some 9, .mv (.t 2), none⟩, ⟨some 10, .mv (.t 1), none⟩, ⟨some 11, .bin .sub (.t 9) (.t 10), none⟩, ⟨some 12, .bin .add (.t 11) (.c (.d (.int .i64 1))), none⟩, ⟨some 13, .call N_base_Src_N [true, false] [.t 8, .t 12], none⟩, ⟨some 14, .bin .add (.t 7) (.t 13), none⟩, ⟨some 6, .mv (.t 14), none⟩] [0, 1, 2, 7, 8, 9, 10, 11, 12, 13, 14])
 (.ret [6])))
def r_base_Src_Range : List ARes := [.t 6]
def fn_base_Src_Range : AFn := .code c_base_Src_Range r_base_Src_Range 15 true
/- shardqueue/shardqueueref05.Push -/
def c_ref05_Push : ACode :=
 (.seq (.ops [] [⟨some 3, .box (.t 1), none⟩, ⟨some 4, .mv (.c (.xsl [])), none⟩, ⟨some 5, .mv (.c (.d (.int .i64 0))), none⟩] [1, 4, 5])
 (.seq (.seq (.ops [] [⟨some 7, .mv (.t 0), none⟩, ⟨some 8, .call N_ref05_Validate [] [.t 7], none⟩, ⟨some 6, .mv (.t 8), none⟩] [7, 8])
 (.seq (.ops [] [⟨some 9, .mv (.t 6), none⟩, ⟨some 10, .bin .neq (.t 9) (.c (.d (.int .i64 0))), none⟩] [9])
 (.cond (.t 10) (.seq (.ops [] [⟨some 11, .mv (.t 6), none⟩, ⟨some 4, .mv (.c (.xsl [])), none⟩, ⟨some 5, .mv (.t 11), none⟩] [0, 3, 6, 10, 11])
 (.ret [4, 5])) .skip)))
 (.seq (.block 0 (.seq (.ops [] [⟨some 13, .ld true 2 (.t 3), none⟩, ⟨some 14, .call N_ref05_sound [] [.t 13], none⟩, ⟨some 15, .un .not (.t 14), none⟩, ⟨some 12, .mv (.t 15), none⟩] [6, 10, 13, 14, 15])
 (.cond (.t 12) (.seq (.ops [] [⟨some 4, .mv (.c (.xsl [])), none⟩, ⟨some 5, .mv (.c (.d (.int .i64 1))), none⟩] [0, 3, 12])
 (.ret [4, 5])) (.seq (.ops [] [⟨some 17, .mv (.t 0), none⟩, ⟨some 18, .len (.t 17), none⟩, ⟨some 19, .bin .eql (.t 18) (.c (.d (.int .i64 12))), none⟩, ⟨some 16, .mv (.t 19), none⟩] [12, 17, 18, 19])
 (.cond (.t 16) (.seq (.ops [] [⟨some 4, .mv (.c (.xsl [])), none⟩, ⟨some 5, .mv (.c (.d (.int .i64 3))), none⟩] [0, 3, 16])
 (.ret [4, 5])) (.seq (.ops [] [⟨some 21, .mv (.t 0), none⟩, ⟨some 22, .fad false 1 1 (.t 3), none⟩, ⟨some 23, .ld false 1 (.t 22), none⟩, ⟨some 24, .call N_ref05_index [] [.t 21, .t 23], none⟩, ⟨some 25, .bin .geq (.t 24) (.c (.d (.int .i64 0))), none⟩, ⟨some 20, .mv (.t 25), none⟩] [16, 21, 22, 23, 24, 25])
 (.cond (.t 20) (.seq (.ops [] [⟨some 4, .mv (.c (.xsl [])), none⟩, ⟨some 5, .mv (.c (.d (.int .i64 10))), none⟩] [0, 3, 20])
 (.ret [4, 5])) .skip)))))))
 (.seq (.draw [] [⟨some 26, .mv (.t 0), none⟩, ⟨some 27, .app 2 (.c (.xsl [])) (.t 26), none⟩, ⟨some 28, .ld true 2 (.t 3), none⟩, ⟨some 29, .bsl 1 2 (.d (.agg [.int .i64 0, .int .i64 0])) [(0, .t 28)], none⟩, ⟨some 30, .app 2 (.t 27) (.t 29), none⟩, ⟨some 31, .mv (.t 0), none⟩, ⟨some 32, .len (.t 31), none⟩, ⟨some 33, .call N_ref05_up [false, false, true] [.t 30, .t 32], none⟩, ⟨some 4, .mv (.t 33), none⟩, ⟨some 5, .mv (.c (.d (.int .i64 0))), none⟩] [[], [], [0, 1], [0, 1], [], [0, 1, 2, 3, 4], [0, 1, 2, 3, 4], [], [], []] [0, 3, 20, 26, 27, 28, 29, 30, 31, 32, 33])
 (.ret [4, 5])))))
def r_ref05_Push : List ARes := [.t 4, .t 5]
def fn_ref05_Push : AFn := .code c_ref05_Push r_ref05_Push 34 true
/- shardqueue/shardqueueref05.Validate -/
def l_ref05_Validate_0 : ACode :=
 (.seq (.seq (.ops [] [⟨some 9, .mv (.t 3), none⟩, ⟨some 10, .mv (.t 0), none⟩, ⟨some 11, .len (.t 10), none⟩, ⟨some 12, .bin .lss (.t 9) (.t 11), none⟩] [9, 10, 11])
 (.cond (.t 12) .skip (.exit 0 [0])))
 (.seq (.block 1 (.seq (.ops [] [⟨some 15, .mv (.t 0), none⟩, ⟨some 16, .mv (.t 3), none⟩, ⟨some 17, .iad 2 (.t 15) (.t 16), none⟩, ⟨some 18, .ld true 2 (.t 17), none⟩, ⟨some 19, .call N_ref05_sound [] [.t 18], none⟩, ⟨some 20, .un .not (.t 19), none⟩] [12, 15, 16, 17, 18, 19])
 (.cond (.t 20) (.seq (.ops [] [⟨some 2, .mv (.c (.d (.int .i64 1))), none⟩] [0, 3, 20])
 (.ret [2])) .skip)))
 (.ops [] [⟨some 13, .mv (.t 3), none⟩, ⟨some 14, .bin .add (.t 13) (.c (.d (.int .i64 1))), none⟩, ⟨some 3, .mv (.t 14), none⟩] [13, 14, 20])))
def l_ref05_Validate_1 : ACode :=
 (.seq (.seq (.ops [] [⟨some 21, .mv (.t 4), none⟩, ⟨some 22, .mv (.t 0), none⟩, ⟨some 23, .len (.t 22), none⟩, ⟨some 24, .bin .lss (.t 21) (.t 23), none⟩] [21, 22, 23])
 (.cond (.t 24) .skip (.exit 2 [0])))
 (.seq (.block 3 (.seq (.ops [] [⟨some 27, .mv (.t 0), none⟩, ⟨some 28, .mv (.t 0), none⟩, ⟨some 29, .mv (.t 4), none⟩, ⟨some 30, .iad 2 (.t 28) (.t 29), none⟩, ⟨some 31, .fad false 1 1 (.t 30), none⟩, ⟨some 32, .ld false 1 (.t 31), none⟩, ⟨some 33, .call N_ref05_index [] [.t 27, .t 32], none⟩, ⟨some 34, .mv (.t 4), none⟩, ⟨some 35, .bin .neq (.t 33) (.t 34), none⟩] [24, 27, 28, 29, 30, 31, 32, 33, 34])
 (.cond (.t 35) (.seq (.ops [] [⟨some 2, .mv (.c (.d (.int .i64 10))), none⟩] [0, 4, 35])
 (.ret [2])) .skip)))
 (.ops [] [⟨some 25, .mv (.t 4), none⟩, ⟨some 26, .bin .add (.t 25) (.c (.d (.int .i64 1))), none⟩, ⟨some 4, .mv (.t 26), none⟩] [25, 26, 35])))
def l_ref05_Validate_2 : ACode :=
 (.seq (.seq (.ops [] [⟨some 36, .mv (.t 5), none⟩, ⟨some 37, .mv (.t 0), none⟩, ⟨some 38, .len (.t 37), none⟩, ⟨some 39, .bin .lss (.t 36) (.t 38), none⟩] [36, 37, 38])
 (.cond (.t 39) .skip (.exit 4 [])))
 (.seq (.block 5 (.seq (.draw [] [⟨some 42, .mv (.t 0), none⟩, ⟨some 43, .mv (.t 5), none⟩, ⟨some 44, .iad 2 (.t 42) (.t 43), none⟩, ⟨some 45, .ld true 2 (.t 44), none⟩, ⟨some 46, .mv (.t 0), none⟩, ⟨some 47, .mv (.t 5), none⟩, ⟨some 48, .bin .sub (.t 47) (.c (.d (.int .i64 1))), none⟩, ⟨some 49, .bin .quo (.t 48) (.c (.d (.int .i64 2))), none⟩, ⟨some 50, .iad 2 (.t 46) (.t 49), none⟩, ⟨some 51, .ld true 2 (.t 50), none⟩, ⟨some 52, .call N_ref05_before [] [.t 45, .t 51], none⟩] [[], [0], [], [], [0, 1, 2, 3], [0, 1, 2, 3, 4], [0, 1, 2, 3, 4], [0, 1, 2, 3, 4], [0, 1, 2, 3], [0, 1, 2, 3], []] [39, 42, 43, 44, 45, 46, 47, 48, 49, 50, 51])
 (.cond (.t 52) (.seq (.ops [] [⟨some 2, .mv (.c (.d (.int .i64 11))), none⟩] [0, 5, 52])
 (.ret [2])) .skip)))
 (.ops [] [⟨some 40, .mv (.t 5), none⟩, ⟨some 41, .bin .add (.t 40) (.c (.d (.int .i64 1))), none⟩, ⟨some 5, .mv (.t 41), none⟩] [40, 41, 52])))
def c_ref05_Validate : ACode :=
 (.seq (.ops [] [⟨some 2, .mv (.c (.d (.int .i64 0))), none⟩] [2])
 (.seq (.seq (.ops [] [⟨some 6, .mv (.t 0), none⟩, ⟨some 7, .len (.t 6), none⟩, ⟨some 8, .bin .gtr (.t 7) (.c (.d (.int .i64 12))), none⟩] [6, 7])
 (.cond (.t 8) (.seq (.ops [] [⟨some 2, .mv (.c (.d (.int .i64 2))), none⟩] [0, 8])
 (.ret [2])) .skip))
 (.seq (.seq (.ops [] [⟨some 3, .mv (.c (.d (.int .i64 0))), none⟩] [8])
 (.block 0 (.loop [] l_ref05_Validate_0)))
 (.seq (.seq (.ops [] [⟨some 4, .mv (.c (.d (.int .i64 0))), none⟩] [3, 12])
 (.block 2 (.loop [] l_ref05_Validate_1)))
 (.seq (.seq (.ops [] [⟨some 5, .mv (.c (.d (.int .i64 1))), none⟩] [4, 24])
 (.block 4 (.loop [] l_ref05_Validate_2)))
 (.seq (.ops [] [⟨some 2, .mv (.c (.d (.int .i64 0))), none⟩] [0, 5, 39])
 (.ret [2])))))))
def r_ref05_Validate : List ARes := [.t 2]
def fn_ref05_Validate : AFn := .code c_ref05_Validate r_ref05_Validate 53 true
/- shardqueue/shardqueueref05.sound -/
def c_ref05_sound : ACode :=
 (.seq (.ops [] [⟨some 1, .box (.t 0), none⟩, ⟨some 2, .mv (.c (.d (.bool false))), none⟩] [0, 2])
 (.seq (.ops [] [⟨some 3, .fad false 0 1 (.t 1), none⟩, ⟨some 4, .ld false 1 (.t 3), none⟩, ⟨some 5, .bin .geq (.t 4) (.c (.d (.int .i64 0))), none⟩, ⟨some 6, .mv (.t 5), none⟩, ⟨some 7, .fad false 0 1 (.t 1), some (6, true)⟩, ⟨some 8, .ld false 1 (.t 7), some (6, true)⟩, ⟨some 9, .bin .leq (.t 8) (.c (.d (.int .i64 1073741824))), some (6, true)⟩, ⟨some 10, .pick (.t 6) (.t 9) (.c (.d (.bool false))), none⟩, ⟨some 11, .mv (.t 10), none⟩, ⟨some 12, .fad false 1 1 (.t 1), some (11, true)⟩, ⟨some 13, .ld false 1 (.t 12), some (11, true)⟩, ⟨some 14, .bin .geq (.t 13) (.c (.d (.int .i64 1))), some (11, true)⟩, ⟨some 15, .pick (.t 11) (.t 14) (.c (.d (.bool false))), none⟩, ⟨some 16, .mv (.t 15), none⟩, ⟨some 17, .fad false 1 1 (.t 1), some (16, true)⟩, ⟨some 18, .ld false 1 (.t 17), some (16, true)⟩, ⟨some 19, .bin .leq (.t 18) (.c (.d (.int .i64 1073741824))), some (16, true)⟩, ⟨some 20, .pick (.t 16) (.t 19) (.c (.d (.bool false))), none⟩, ⟨some 2, .mv (.t 20), none⟩] [1, 3, 4, 5, 6, 7, 8, 9, 10, 11, 12, 13, 14, 15, 16, 17, 18, 19, 20])
 (.ret [2])))
def r_ref05_sound : List ARes := [.t 2]
def fn_ref05_sound : AFn := .code c_ref05_sound r_ref05_sound 21 true
/- shardqueue/shardqueueref05.index -/
def l_ref05_index_0 : ACode :=
 (.seq (.seq (.ops [] [⟨some 6, .mv (.t 5), none⟩, ⟨some 7, .mv (.t 0), none⟩, ⟨some 8, .len (.t 7), none⟩, ⟨some 9, .bin .lss (.t 6) (.t 8), none⟩] [6, 7, 8])
 (.cond (.t 9) .skip (.exit 0 [])))
 (.seq (.block 1 (.seq (.ops [] [⟨some 12, .mv (.t 0), none⟩, ⟨some 13, .mv (.t 5), none⟩, ⟨some 14, .iad 2 (.t 12) (.t 13), none⟩, ⟨some 15, .fad false 1 1 (.t 14), none⟩, ⟨some 16, .ld false 1 (.t 15), none⟩, ⟨some 17, .mv (.t 1), none⟩, ⟨some 18, .bin .eql (.t 16) (.t 17), none⟩] [9, 12, 13, 14, 15, 16, 17])
 (.cond (.t 18) (.seq (.ops [] [⟨some 19, .mv (.t 5), none⟩, ⟨some 4, .mv (.t 19), none⟩] [0, 1, 5, 18, 19])
 (.ret [4])) .skip)))
 (.ops [] [⟨some 10, .mv (.t 5), none⟩, ⟨some 11, .bin .add (.t 10) (.c (.d (.int .i64 1))), none⟩, ⟨some 5, .mv (.t 11), none⟩] [10, 11, 18])))
def c_ref05_index : ACode :=
 (.seq (.ops [] [⟨some 4, .mv (.c (.d (.int .i64 0))), none⟩] [4])
 (.seq (.seq (.ops [] [⟨some 5, .mv (.c (.d (.int .i64 0))), none⟩] [])
 (.block 0 (.loop [] l_ref05_index_0)))
 (.seq (.ops [] [⟨some 4, .mv (.c (.d (.int .i64 (-1)))), none⟩] [0, 1, 5, 9])
 (.ret [4]))))
def r_ref05_index : List ARes := [.t 4]
def fn_ref05_index : AFn := .code c_ref05_index r_ref05_index 20 true
/- shardqueue/shardqueueref05.before -/
def c_ref05_before : ACode :=
 (.seq (.ops [] [⟨some 2, .box (.t 0), none⟩, ⟨some 3, .box (.t 1), none⟩, ⟨some 4, .mv (.c (.d (.bool false))), none⟩] [0, 1, 4])
 (.seq (.ops [] [⟨some 5, .fad false 0 1 (.t 2), none⟩, ⟨some 6, .ld false 1 (.t 5), none⟩, ⟨some 7, .fad false 0 1 (.t 3), none⟩, ⟨some 8, .ld false 1 (.t 7), none⟩, ⟨some 9, .bin .lss (.t 6) (.t 8), none⟩, ⟨some 10, .mv (.t 9), none⟩, ⟨some 11, .fad false 0 1 (.t 2), some (10, false)⟩, ⟨some 12, .ld false 1 (.t 11), some (10, false)⟩, ⟨some 13, .fad false 0 1 (.t 3), some (10, false)⟩, ⟨some 14, .ld false 1 (.t 13), some (10, false)⟩, ⟨some 15, .bin .eql (.t 12) (.t 14), some (10, false)⟩, ⟨some 16, .mv (.t 15), some (10, false)⟩, ⟨some 17, .fad false 1 1 (.t 2), some (16, true)⟩, ⟨some 18, .ld false 1 (.t 17), some (16, true)⟩, ⟨some 19, .fad false 1 1 (.t 3), some (16, true)⟩, ⟨some 20, .ld false 1 (.t 19), some (16, true)⟩, ⟨some 21, .bin .lss (.t 18) (.t 20), some (16, true)⟩, ⟨some 22, .pick (.t 16) (.t 21) (.c (.d (.bool false))), some (10, false)⟩, ⟨some 23, .pick (.t 10) (.c (.d (.bool true))) (.t 22), none⟩, ⟨some 4, .mv (.t 23), none⟩] [2, 3, 5, 6, 7, 8, 9, 10, 11, 12, 13, 14, 15, 16, 17, 18, 19, 20, 21, 22, 23])
 (.ret [4])))
def r_ref05_before : List ARes := [.t 4]
def fn_ref05_before : AFn := .code c_ref05_before r_ref05_before 24 true
/- shardqueue/shardqueueref05.up -/
def l_ref05_up_0 : ACode :=
 (.seq (.seq (.draw [] [⟨some 5, .mv (.t 1), none⟩, ⟨some 6, .bin .gtr (.t 5) (.c (.d (.int .i64 0))), none⟩, ⟨some 7, .mv (.t 6), none⟩, ⟨some 8, .mv (.t 0), some (7, true)⟩, ⟨some 9, .mv (.t 1), some (7, true)⟩, ⟨some 10, .iad 2 (.t 8) (.t 9), some (7, true)⟩, ⟨some 11, .ld true 2 (.t 10), some (7, true)⟩, ⟨some 12, .mv (.t 0), some (7, true)⟩, ⟨some 13, .mv (.t 1), some (7, true)⟩, ⟨some 14, .bin .sub (.t 13) (.c (.d (.int .i64 1))), some (7, true)⟩, ⟨some 15, .bin .quo (.t 14) (.c (.d (.int .i64 2))), some (7, true)⟩, ⟨some 16, .iad 2 (.t 12) (.t 15), some (7, true)⟩, ⟨some 17, .ld true 2 (.t 16), some (7, true)⟩, ⟨some 18, .call N_ref05_before [] [.t 11, .t 17], some (7, true)⟩, ⟨some 19, .pick (.t 7) (.t 18) (.c (.d (.bool false))), none⟩] [[], [], [], [], [3], [], [], [3, 4, 5, 6], [3, 4, 5, 6, 7], [3, 4, 5, 6, 7], [3, 4, 5, 6, 7], [3, 4, 5, 6], [3, 4, 5, 6], [], []] [5, 6, 7, 8, 9, 10, 11, 12, 13, 14, 15, 16, 17, 18])
 (.cond (.t 19) .skip (.exit 0 [0])))
 (.block 1 (.seq (.ops [] [⟨some 20, .mv (.t 0), none⟩, ⟨some 21, .mv (.t 1), none⟩, ⟨some 22, .mv (.t 1), none⟩, ⟨some 23, .bin .sub (.t 22) (.c (.d (.int .i64 1))), none⟩, ⟨some 24, .bin .quo (.t 23) (.c (.d (.int .i64 2))), none⟩, ⟨some 25, .call N_ref05_swap [] [.t 20, .t 21, .t 24], none⟩, ⟨some 0, .mv (.t 25), none⟩] [19, 20, 21, 22, 23, 24, 25])
 (.ops [] [⟨some 26, .mv (.t 1), none⟩, ⟨some 27, .bin .sub (.t 26) (.c (.d (.int .i64 1))), none⟩, ⟨some 28, .bin .quo (.t 27) (.c (.d (.int .i64 2))), none⟩, ⟨some 1, .mv (.t 28), none⟩] [26, 27, 28]))))
def c_ref05_up : ACode :=
 (.seq (.ops [] [⟨some 4, .mv (.c (.xsl [])), none⟩] [4])
 (.seq (.block 0 (.loop [] l_ref05_up_0))
 (.seq (.ops [] [⟨some 29, .mv (.t 0), none⟩, ⟨some 4, .mv (.t 29), none⟩] [0, 1, 19, 29])
 (.ret [4]))))
def r_ref05_up : List ARes := [.t 4]
def fn_ref05_up : AFn := .code c_ref05_up r_ref05_up 30 true
/- shardqueue/shardqueueref05.swap -/
def c_ref05_swap : ACode :=
 (.seq (.ops [] [⟨some 6, .mv (.c (.xsl [])), none⟩] [6])
 (.seq (.ops [] [⟨some 8, .mv (.t 0), none⟩, ⟨some 9, .app 2 (.c (.xsl [])) (.t 8), none⟩, ⟨some 7, .mv (.t 9), none⟩] [8, 9])
 (.seq (.draw [18] [⟨some 10, .mv (.t 7), none⟩, ⟨some 11, .mv (.t 1), none⟩, ⟨some 12, .mv (.t 7), none⟩, ⟨some 13, .mv (.t 2), none⟩, ⟨some 14, .mv (.t 0), none⟩, ⟨some 15, .mv (.t 2), none⟩, ⟨some 16, .iad 2 (.t 14) (.t 15), none⟩, ⟨some 17, .ld true 2 (.t 16), none⟩, ⟨some 18, .mv (.t 0), none⟩, ⟨some 19, .mv (.t 1), none⟩, ⟨some 20, .iad 2 (.t 18) (.t 19), none⟩, ⟨some 21, .ld true 2 (.t 20), none⟩, ⟨some 22, .iad 2 (.t 10) (.t 11), none⟩, ⟨none, .st 2 (.t 22) (.t 17), none⟩, ⟨some 23, .iad 2 (.t 12) (.t 13), none⟩, ⟨none, .st 2 (.t 23) (.t 21), none⟩] [[], [0], [0, 1], [0, 1, 2], [0, 1, 2, 3], [0, 1, 2, 3, 4], [0, 1, 2, 3], [0, 1, 2, 3], [0, 1, 2, 3, 4, 5, 6, 7], [0, 1, 2, 3, 4, 5, 6, 7, 8], [0, 1, 2, 3, 4, 5, 6, 7], [0, 1, 2, 3, 4, 5, 6, 7], [2, 3], [2, 3], [], []] [0, 1, 2, 10, 11, 12, 13, 14, 15, 16, 17, 18, 19, 20, 21, 22, 23])
 (.seq (.ops [] [⟨some 24, .mv (.t 7), none⟩, ⟨some 6, .mv (.t 24), none⟩] [7, 24])
 (.ret [6])))))
def r_ref05_swap : List ARes := [.t 6]
def fn_ref05_swap : AFn := .code c_ref05_swap r_ref05_swap 25 true
/- shardqueue/due.Until -/
def l_due_Until_0 : ACode :=
 (.seq (.ops [] [⟨some 19, .bin .lss (.t 18) (.t 17), none⟩] [])
 (.seq (.cond (.t 19) .skip (.exit 0 [6]))
 (.seq (.block 1 (.seq (.ops [] [⟨some 20, .iad 2 (.t 16) (.t 18), none⟩, ⟨some 21, .ld true 2 (.t 20), none⟩, ⟨some 8, .alloc (.d (.agg [.int .i64 0, .int .i64 0])), none⟩, ⟨none, .st 2 (.t 8) (.t 21), none⟩] [19, 20, 21])
 (.seq (.ops [] [⟨some 22, .fad false 0 1 (.t 8), none⟩, ⟨some 23, .ld false 1 (.t 22), none⟩, ⟨some 24, .mv (.t 1), none⟩, ⟨some 25, .bin .leq (.t 23) (.t 24), none⟩] [22, 23, 24])
 (.cond (.t 25) (.ops [] [⟨some 26, .mv (.t 6), none⟩, ⟨some 27, .fad false 1 1 (.t 8), none⟩, ⟨some 28, .ld false 1 (.t 27), none⟩, ⟨some 29, .bsl 1 1 (.d (.int .i64 0)) [(0, .t 28)], none⟩, ⟨some 30, .app 1 (.t 26) (.t 29), none⟩, ⟨some 6, .mv (.t 30), none⟩] [8, 25, 26, 27, 28, 29, 30]) .skip))))
 (.ops [] [⟨some 31, .bin .add (.t 18) (.c (.d (.int .i64 1))), none⟩, ⟨some 18, .mv (.t 31), none⟩] [8, 25, 31]))))
def c_due_Until : ACode :=
 (.seq (.ops [] [⟨some 4, .mv (.c (.xsl [])), none⟩] [4])
 (.seq (.seq (.ops [] [⟨some 9, .mv (.t 0), none⟩, ⟨some 10, .call N_due_Validate [] [.t 9], none⟩, ⟨some 11, .bin .neq (.t 10) (.c (.d (.int .i64 0))), none⟩] [9, 10])
 (.cond (.t 11) (.seq (.ops [] [⟨some 4, .mv (.c (.xsl [])), none⟩] [0, 1, 11])
 (.ret [4])) .skip))
 (.seq (.ops [] [⟨some 12, .mv (.t 0), none⟩, ⟨some 13, .call N_slices_Clone_api_Due [] [.t 12], none⟩, ⟨some 5, .mv (.t 13), none⟩] [0, 11, 12, 13])
 (.seq (.ops [26] [⟨some 14, .mv (.t 5), none⟩, ⟨some 15, .call N_slices_SortFunc_api_Due [true, false] [.t 14, .c (.d (.fn N_due_compare []))], none⟩] [14, 15])
 (.seq (.ops [] [⟨some 6, .nacc, none⟩] [])
 (.seq (.seq (.ops [] [⟨some 16, .mv (.t 5), none⟩, ⟨some 17, .len (.t 16), none⟩, ⟨some 18, .mv (.c (.d (.int .i64 0))), none⟩] [5])
 (.block 0 (.loop [] l_due_Until_0)))
 (.seq (.ops [] [⟨some 32, .mv (.t 6), none⟩, ⟨some 4, .mv (.t 32), none⟩] [1, 6, 16, 17, 18, 19, 32])
 (.ret [4]))))))))
def r_due_Until : List ARes := [.t 4]
def fn_due_Until : AFn := .code c_due_Until r_due_Until 33 true
/- shardqueue/due.Validate -/
def l_due_Validate_0 : ACode :=
 (.seq (.ops [] [⟨some 14, .bin .lss (.t 13) (.t 12), none⟩] [])
 (.seq (.cond (.t 14) .skip (.exit 0 [0]))
 (.seq (.block 1 (.seq (.ops [] [⟨some 15, .mv (.t 13), none⟩, ⟨some 16, .iad 2 (.t 11) (.t 13), none⟩, ⟨some 17, .ld true 2 (.t 16), none⟩, ⟨some 4, .alloc (.d (.agg [.int .i64 0, .int .i64 0])), none⟩, ⟨some 3, .mv (.t 15), none⟩, ⟨none, .st 2 (.t 4) (.t 17), none⟩] [14, 15, 16, 17])
 (.seq (.ops [] [⟨some 18, .mv (.t 0), none⟩, ⟨some 19, .fad false 1 1 (.t 4), none⟩, ⟨some 20, .ld false 1 (.t 19), none⟩, ⟨some 21, .call N_due_find [] [.t 18, .t 20], none⟩, ⟨some 22, .mv (.t 3), none⟩, ⟨some 23, .bin .neq (.t 21) (.t 22), none⟩] [3, 4, 18, 19, 20, 21, 22])
 (.cond (.t 23) (.seq (.ops [] [⟨some 2, .mv (.c (.d (.int .i64 10))), none⟩] [0, 11, 12, 13, 23])
 (.ret [2])) .skip))))
 (.ops [] [⟨some 24, .bin .add (.t 13) (.c (.d (.int .i64 1))), none⟩, ⟨some 13, .mv (.t 24), none⟩] [23, 24]))))
def l_due_Validate_1 : ACode :=
 (.seq (.seq (.ops [] [⟨some 25, .mv (.t 5), none⟩, ⟨some 26, .mv (.t 0), none⟩, ⟨some 27, .len (.t 26), none⟩, ⟨some 28, .bin .lss (.t 25) (.t 27), none⟩] [25, 26, 27])
 (.cond (.t 28) .skip (.exit 2 [])))
 (.seq (.block 3 (.seq (.ops [] [⟨some 31, .mv (.t 0), none⟩, ⟨some 32, .mv (.t 5), none⟩, ⟨some 33, .mv (.t 5), none⟩, ⟨some 34, .bin .sub (.t 33) (.c (.d (.int .i64 1))), none⟩, ⟨some 35, .bin .quo (.t 34) (.c (.d (.int .i64 2))), none⟩, ⟨some 36, .call N_due_before [] [.t 31, .t 32, .t 35], none⟩] [28, 31, 32, 33, 34, 35])
 (.cond (.t 36) (.seq (.ops [] [⟨some 2, .mv (.c (.d (.int .i64 11))), none⟩] [0, 5, 36])
 (.ret [2])) .skip)))
 (.ops [] [⟨some 29, .mv (.t 5), none⟩, ⟨some 30, .bin .add (.t 29) (.c (.d (.int .i64 1))), none⟩, ⟨some 5, .mv (.t 30), none⟩] [29, 30, 36])))
def c_due_Validate : ACode :=
 (.seq (.ops [] [⟨some 2, .mv (.c (.d (.int .i64 0))), none⟩] [2])
 (.seq (.seq (.ops [] [⟨some 6, .mv (.t 0), none⟩, ⟨some 7, .len (.t 6), none⟩, ⟨some 8, .bin .gtr (.t 7) (.c (.d (.int .i64 12))), none⟩] [6, 7])
 (.cond (.t 8) (.seq (.ops [] [⟨some 2, .mv (.c (.d (.int .i64 2))), none⟩] [0, 8])
 (.ret [2])) .skip))
 (.seq (.seq (.ops [] [⟨some 9, .mv (.t 0), none⟩, ⟨some 10, .call N_slices_ContainsFunc_api_Due [] [.t 9, .c (.d (.fn N_due_Validate_1 []))], none⟩] [8, 9])
 (.cond (.t 10) (.seq (.ops [] [⟨some 2, .mv (.c (.d (.int .i64 1))), none⟩] [0, 10])
 (.ret [2])) .skip))
 (.seq (.seq (.ops [] [⟨some 11, .mv (.t 0), none⟩, ⟨some 12, .len (.t 11), none⟩, ⟨some 13, .mv (.c (.d (.int .i64 0))), none⟩] [10])
 (.block 0 (.loop [] l_due_Validate_0)))
 (.seq (.seq (.ops [] [⟨some 5, .mv (.c (.d (.int .i64 1))), none⟩] [11, 12, 13, 14])
 (.block 2 (.loop [] l_due_Validate_1)))
 (.seq (.ops [] [⟨some 2, .mv (.c (.d (.int .i64 0))), none⟩] [0, 5, 28])
 (.ret [2])))))))
def r_due_Validate : List ARes := [.t 2]
def fn_due_Validate : AFn := .code c_due_Validate r_due_Validate 37 true
/- slices.ContainsFunc[[]shardqueue/api.Due,shardqueue/api.Due] -/
def c_slices_ContainsFunc_api_Due : ACode :=
 (.seq (.ops [] [⟨some 4, .mv (.c (.d (.bool false))), none⟩] [4])
 (.seq (.ops [] [⟨some 5, .mv (.t 0), none⟩, ⟨some 6, .mv (.t 1), none⟩, ⟨some 7, .call N_slices_IndexFunc_api_Due [] [.t 5, .t 6], none⟩, ⟨some 8, .bin .geq (.t 7) (.c (.d (.int .i64 0))), none⟩, ⟨some 4, .mv (.t 8), none⟩] [0, 1, 5, 6, 7, 8])
 (.ret [4])))
def r_slices_ContainsFunc_api_Due : List ARes := [.t 4]
def fn_slices_ContainsFunc_api_Due : AFn := .code c_slices_ContainsFunc_api_Due r_slices_ContainsFunc_api_Due 9 true
/- slices.IndexFunc[[]shardqueue/api.Due,shardqueue/api.Due] -/
def l_slices_IndexFunc_api_Due_0 : ACode :=
 (.seq (.ops [] [⟨some 9, .bin .lss (.t 8) (.t 7), none⟩] [])
 (.seq (.cond (.t 9) .skip (.exit 0 []))
 (.seq (.block 1 (.seq (.ops [] [⟨some 10, .mv (.t 8), none⟩, ⟨some 5, .mv (.t 10), none⟩] [9, 10])
 (.seq (.ops [] [⟨some 11, .mv (.t 1), none⟩, ⟨some 12, .mv (.t 0), none⟩, ⟨some 13, .mv (.t 5), none⟩, ⟨some 14, .iad 2 (.t 12) (.t 13), none⟩, ⟨some 15, .ld true 2 (.t 14), none⟩, ⟨some 16, .callv (.t 11) [] [.t 15], none⟩] [11, 12, 13, 14, 15])
 (.cond (.t 16) (.seq (.ops [] [⟨some 17, .mv (.t 5), none⟩, ⟨some 4, .mv (.t 17), none⟩] [0, 1, 5, 7, 8, 16, 17])
 (.ret [4])) .skip))))
 (.ops [] [⟨some 18, .bin .add (.t 8) (.c (.d (.int .i64 1))), none⟩, ⟨some 8, .mv (.t 18), none⟩] [5, 16, 18]))))
def c_slices_IndexFunc_api_Due : ACode :=
 (.seq (.ops [] [⟨some 4, .mv (.c (.d (.int .i64 0))), none⟩] [4])
 (.seq (.seq (.ops [] [⟨some 6, .mv (.t 0), none⟩, ⟨some 7, .len (.t 6), none⟩, ⟨some 8, .mv (.c (.d (.int .i64 0))), none⟩] [6])
 (.block 0 (.loop [] l_slices_IndexFunc_api_Due_0)))
 (.seq (.ops [] [⟨some 4, .mv (.c (.d (.int .i64 (-1)))), none⟩] [0, 1, 7, 8, 9])
 (.ret [4]))))
def r_slices_IndexFunc_api_Due : List ARes := [.t 4]
def fn_slices_IndexFunc_api_Due : AFn := .code c_slices_IndexFunc_api_Due r_slices_IndexFunc_api_Due 19 true
/- shardqueue/due.Validate$1 -/
def c_due_Validate_1 : ACode :=
 (.seq (.ops [] [⟨some 1, .box (.t 0), none⟩, ⟨some 2, .mv (.c (.d (.bool false))), none⟩] [0, 2])
 (.seq (.ops [] [⟨some 3, .ld true 2 (.t 1), none⟩, ⟨some 4, .call N_due_valid [] [.t 3], none⟩, ⟨some 5, .un .not (.t 4), none⟩, ⟨some 2, .mv (.t 5), none⟩] [1, 3, 4, 5])
 (.ret [2])))
def r_due_Validate_1 : List ARes := [.t 2]
def fn_due_Validate_1 : AFn := .code c_due_Validate_1 r_due_Validate_1 6 true
/- shardqueue/due.valid -/
def c_due_valid : ACode :=
 (.seq (.ops [] [⟨some 1, .box (.t 0), none⟩, ⟨some 2, .mv (.c (.d (.bool false))), none⟩] [0, 2])
 (.seq (.ops [] [⟨some 3, .fad false 0 1 (.t 1), none⟩, ⟨some 4, .ld false 1 (.t 3), none⟩, ⟨some 5, .bin .geq (.t 4) (.c (.d (.int .i64 0))), none⟩, ⟨some 6, .mv (.t 5), none⟩, ⟨some 7, .fad false 0 1 (.t 1), some (6, true)⟩, ⟨some 8, .ld false 1 (.t 7), some (6, true)⟩, ⟨some 9, .bin .leq (.t 8) (.c (.d (.int .i64 1073741824))), some (6, true)⟩, ⟨some 10, .pick (.t 6) (.t 9) (.c (.d (.bool false))), none⟩, ⟨some 11, .mv (.t 10), none⟩, ⟨some 12, .fad false 1 1 (.t 1), some (11, true)⟩, ⟨some 13, .ld false 1 (.t 12), some (11, true)⟩, ⟨some 14, .bin .geq (.t 13) (.c (.d (.int .i64 1))), some (11, true)⟩, ⟨some 15, .pick (.t 11) (.t 14) (.c (.d (.bool false))), none⟩, ⟨some 16, .mv (.t 15), none⟩, ⟨some 17, .fad false 1 1 (.t 1), some (16, true)⟩, ⟨some 18, .ld false 1 (.t 17), some (16, true)⟩, ⟨some 19, .bin .leq (.t 18) (.c (.d (.int .i64 1073741824))), some (16, true)⟩, ⟨some 20, .pick (.t 16) (.t 19) (.c (.d (.bool false))), none⟩, ⟨some 2, .mv (.t 20), none⟩] [1, 3, 4, 5, 6, 7, 8, 9, 10, 11, 12, 13, 14, 15, 16, 17, 18, 19, 20])
 (.ret [2])))
def r_due_valid : List ARes := [.t 2]
def fn_due_valid : AFn := .code c_due_valid r_due_valid 21 true
/- shardqueue/due.find -/
def c_due_find : ACode :=
 (.seq (.ops [] [⟨some 3, .box (.t 1), none⟩, ⟨some 4, .mv (.c (.d (.int .i64 0))), none⟩] [1, 4])
 (.seq (.ops [] [⟨some 5, .mv (.t 0), none⟩, ⟨some 6, .mkfn N_due_find_1 [.t 3], none⟩, ⟨some 7, .call N_slices_IndexFunc_api_Due [] [.t 5, .t 6], none⟩, ⟨some 4, .mv (.t 7), none⟩] [0, 3, 5, 6, 7])
 (.ret [4])))
def r_due_find : List ARes := [.t 4]
def fn_due_find : AFn := .code c_due_find r_due_find 8 true
/- shardqueue/due.find$1 -/
def c_due_find_1 : ACode :=
 (.seq (.ops [] [⟨some 2, .box (.t 0), none⟩, ⟨some 3, .mv (.c (.d (.bool false))), none⟩] [0, 3])
 (.seq (.ops [] [⟨some 4, .fad false 1 1 (.t 2), none⟩, ⟨some 5, .ld false 1 (.t 4), none⟩, ⟨some 6, .ld false 1 (.t 1), none⟩, ⟨some 7, .bin .eql (.t 5) (.t 6), none⟩, ⟨some 3, .mv (.t 7), none⟩] [1, 2, 4, 5, 6, 7])
 (.ret [3])))
def r_due_find_1 : List ARes := [.t 3]
def fn_due_find_1 : AFn := .code c_due_find_1 r_due_find_1 8 true
/- shardqueue/due.before -/
def c_due_before : ACode :=
 (.seq (.ops [] [⟨some 6, .mv (.c (.d (.bool false))), none⟩] [6])
 (.seq (.draw [] [⟨some 7, .mv (.t 0), none⟩, ⟨some 8, .mv (.t 1), none⟩, ⟨some 9, .iad 2 (.t 7) (.t 8), none⟩, ⟨some 10, .ld true 2 (.t 9), none⟩, ⟨some 11, .mv (.t 0), none⟩, ⟨some 12, .mv (.t 2), none⟩, ⟨some 13, .iad 2 (.t 11) (.t 12), none⟩, ⟨some 14, .ld true 2 (.t 13), none⟩, ⟨some 15, .call N_due_compare [] [.t 10, .t 14], none⟩, ⟨some 16, .bin .lss (.t 15) (.c (.d (.int .i64 0))), none⟩, ⟨some 6, .mv (.t 16), none⟩] [[], [0], [], [], [0, 1, 2, 3], [0, 1, 2, 3, 4], [0, 1, 2, 3], [0, 1, 2, 3], [], [], []] [0, 1, 2, 7, 8, 9, 10, 11, 12, 13, 14, 15, 16])
 (.ret [6])))
def r_due_before : List ARes := [.t 6]
def fn_due_before : AFn := .code c_due_before r_due_before 17 true
/- shardqueue/due.compare -/
def c_due_compare : ACode :=
 (.seq (.ops [] [⟨some 2, .box (.t 0), none⟩, ⟨some 3, .box (.t 1), none⟩, ⟨some 4, .mv (.c (.d (.int .i64 0))), none⟩] [0, 1, 4])
 (.seq (.draw [] [⟨some 5, .fad false 0 1 (.t 2), none⟩, ⟨some 6, .ld false 1 (.t 5), none⟩, ⟨some 7, .fad false 0 1 (.t 3), none⟩, ⟨some 8, .ld false 1 (.t 7), none⟩, ⟨some 9, .call N_cmp_Compare_int [] [.t 6, .t 8], none⟩, ⟨some 10, .fad false 1 1 (.t 2), none⟩, ⟨some 11, .ld false 1 (.t 10), none⟩, ⟨some 12, .fad false 1 1 (.t 3), none⟩, ⟨some 13, .ld false 1 (.t 12), none⟩, ⟨some 14, .call N_cmp_Compare_int [] [.t 11, .t 13], none⟩, ⟨some 15, .bsl 2 1 (.d (.int .i64 0)) [(0, .t 9), (1, .t 14)], none⟩, ⟨some 16, .call N_cmp_Or_int [] [.t 15], none⟩, ⟨some 4, .mv (.t 16), none⟩] [[], [], [0, 1], [0, 1], [], [0, 1, 2, 3, 4], [0, 1, 2, 3, 4], [0, 1, 2, 3, 4, 5, 6], [0, 1, 2, 3, 4, 5, 6], [], [], [], []] [2, 3, 5, 6, 7, 8, 9, 10, 11, 12, 13, 14, 15, 16])
 (.ret [4])))
def r_due_compare : List ARes := [.t 4]
def fn_due_compare : AFn := .code c_due_compare r_due_compare 17 true
/- cmp.Compare[int] -/
def c_cmp_Compare_int : ACode :=
 (.seq (.ops [] [⟨some 4, .mv (.c (.d (.int .i64 0))), none⟩] [4])
 (.seq (.ops [] [⟨some 7, .mv (.t 0), none⟩, ⟨some 8, .call N_cmp_isNaN_int [] [.t 7], none⟩, ⟨some 5, .mv (.t 8), none⟩] [7, 8])
 (.seq (.ops [] [⟨some 9, .mv (.t 1), none⟩, ⟨some 10, .call N_cmp_isNaN_int [] [.t 9], none⟩, ⟨some 6, .mv (.t 10), none⟩] [9, 10])
 (.seq (.seq (.ops [] [⟨some 11, .mv (.t 5), none⟩] [5])
 (.cond (.t 11) (.seq (.seq (.ops [] [⟨some 12, .mv (.t 6), none⟩] [0, 1, 6, 11])
 (.cond (.t 12) (.seq (.ops [] [⟨some 4, .mv (.c (.d (.int .i64 0))), none⟩] [12])
 (.ret [4])) .skip))
 (.seq (.ops [] [⟨some 4, .mv (.c (.d (.int .i64 (-1)))), none⟩] [12])
 (.ret [4]))) .skip))
 (.seq (.seq (.ops [] [⟨some 13, .mv (.t 6), none⟩] [6, 11])
 (.cond (.t 13) (.seq (.ops [] [⟨some 4, .mv (.c (.d (.int .i64 1))), none⟩] [0, 1, 13])
 (.ret [4])) .skip))
 (.seq (.seq (.ops [] [⟨some 14, .mv (.t 0), none⟩, ⟨some 15, .mv (.t 1), none⟩, ⟨some 16, .bin .lss (.t 14) (.t 15), none⟩] [13, 14, 15])
 (.cond (.t 16) (.seq (.ops [] [⟨some 4, .mv (.c (.d (.int .i64 (-1)))), none⟩] [0, 1, 16])
 (.ret [4])) .skip))
 (.seq (.seq (.ops [] [⟨some 17, .mv (.t 0), none⟩, ⟨some 18, .mv (.t 1), none⟩, ⟨some 19, .bin .gtr (.t 17) (.t 18), none⟩] [0, 1, 16, 17, 18])
 (.cond (.t 19) (.seq (.ops [] [⟨some 4, .mv (.c (.d (.int .i64 1))), none⟩] [19])
 (.ret [4])) .skip))
 (.seq (.ops [] [⟨some 4, .mv (.c (.d (.int .i64 0))), none⟩] [19])
 (.ret [4])))))))))
def r_cmp_Compare_int : List ARes := [.t 4]
def fn_cmp_Compare_int : AFn := .code c_cmp_Compare_int r_cmp_Compare_int 20 true
/- cmp.isNaN[int] -/
def c_cmp_isNaN_int : ACode :=
 (.seq (.ops [] [⟨some 2, .mv (.c (.d (.bool false))), none⟩] [2])
 (.seq (.ops [] [⟨some 3, .mv (.t 0), none⟩, ⟨some 4, .mv (.t 0), none⟩, ⟨some 5, .bin .neq (.t 3) (.t 4), none⟩, ⟨some 2, .mv (.t 5), none⟩] [0, 3, 4, 5])
 (.ret [2])))
def r_cmp_isNaN_int : List ARes := [.t 2]
def fn_cmp_isNaN_int : AFn := .code c_cmp_isNaN_int r_cmp_isNaN_int 6 true
/- cmp.Or[int] -/
def l_cmp_Or_int_0 : ACode :=
 (.seq (.ops [] [⟨some 9, .bin .lss (.t 8) (.t 7), none⟩] [])
 (.seq (.cond (.t 9) .skip (.exit 0 [3]))
 (.seq (.block 1 (.seq (.ops [] [⟨some 10, .iad 1 (.t 6) (.t 8), none⟩, ⟨some 11, .ld false 1 (.t 10), none⟩, ⟨some 5, .mv (.t 11), none⟩] [9, 10, 11])
 (.seq (.ops [] [⟨some 12, .mv (.t 5), none⟩, ⟨some 13, .mv (.t 3), none⟩, ⟨some 14, .bin .neq (.t 12) (.t 13), none⟩] [12, 13])
 (.cond (.t 14) (.seq (.ops [] [⟨some 15, .mv (.t 5), none⟩, ⟨some 2, .mv (.t 15), none⟩] [3, 5, 6, 7, 8, 14, 15])
 (.ret [2])) .skip))))
 (.ops [] [⟨some 16, .bin .add (.t 8) (.c (.d (.int .i64 1))), none⟩, ⟨some 8, .mv (.t 16), none⟩] [5, 14, 16]))))
def c_cmp_Or_int : ACode :=
 (.seq (.ops [] [⟨some 2, .mv (.c (.d (.int .i64 0))), none⟩] [2])
 (.seq (.ops [] [⟨some 3, .mv (.c (.d (.int .i64 0))), none⟩] [])
 (.seq (.seq (.ops [] [⟨some 6, .mv (.t 0), none⟩, ⟨some 7, .len (.t 6), none⟩, ⟨some 8, .mv (.c (.d (.int .i64 0))), none⟩] [0])
 (.block 0 (.loop [] l_cmp_Or_int_0)))
 (.seq (.ops [] [⟨some 17, .mv (.t 3), none⟩, ⟨some 2, .mv (.t 17), none⟩] [3, 6, 7, 8, 9, 17])
 (.ret [2])))))
def r_cmp_Or_int : List ARes := [.t 2]
def fn_cmp_Or_int : AFn := .code c_cmp_Or_int r_cmp_Or_int 18 true
/- slices.Clone[[]shardqueue/api.Due,shardqueue/api.Due] -/
def c_slices_Clone_api_Due : ACode :=
 (.seq (.ops [] [⟨some 2, .nacc, none⟩] [2])
 (.seq (.seq (.ops [] [⟨some 3, .mv (.t 0), none⟩, ⟨some 4, .nileq false (.t 3), none⟩] [3])
 (.cond (.t 4) (.seq (.ops [] [⟨some 2, .nacc, none⟩] [0, 4])
 (.ret [2])) .skip))
 (.seq (.ops [] [⟨some 5, .bsl 0 2 (.d (.agg [.int .i64 0, .int .i64 0])) [], none⟩, ⟨some 6, .mv (.t 0), none⟩, ⟨some 7, .app 2 (.t 5) (.t 6), none⟩, ⟨some 2, .mv (.t 7), none⟩] [0, 4, 5, 6, 7])
 (.ret [2]))))
def r_slices_Clone_api_Due : List ARes := [.t 2]
def fn_slices_Clone_api_Due : AFn := .nils c_slices_Clone_api_Due r_slices_Clone_api_Due 8
/- slices.SortFunc[[]shardqueue/api.Due,shardqueue/api.Due] -/
def c_slices_SortFunc_api_Due : ACode :=
 (.seq (.ops [] [⟨some 5, .mv (.t 0), none⟩, ⟨some 6, .len (.t 5), none⟩, ⟨some 4, .mv (.t 6), none⟩] [5, 6])
 (.ops [] [⟨some 7, .mv (.t 0), none⟩, ⟨some 8, .mv (.t 4), none⟩, ⟨some 9, .mv (.t 4), none⟩, ⟨some 10, .cvi .u64 (.t 9), none⟩, ⟨some 11, .call N_math_bits_Len [] [.t 10], none⟩, ⟨some 12, .mv (.t 1), none⟩, ⟨some 13, .call N_slices_pdqsortCmpFunc_api_Due [true, false, false, false, false] [.t 7, .c (.d (.int .i64 0)), .t 8, .t 11, .t 12], none⟩] [0, 1, 4, 7, 8, 9, 10, 11, 12, 13]))
def r_slices_SortFunc_api_Due : List ARes := []
def fn_slices_SortFunc_api_Due : AFn := .code c_slices_SortFunc_api_Due r_slices_SortFunc_api_Due 14 true
/- math/bits.Len -/
def c_math_bits_Len : ACode :=
 (.seq (.ops [] [⟨some 2, .mv (.c (.d (.int .i64 0))), none⟩] [2])
 (.seq (.cond (.c (.d (.bool false))) (.seq (.ops [] [⟨some 3, .mv (.t 0), none⟩, ⟨some 4, .cvi .u32 (.t 3), none⟩, ⟨some 5, .call N_math_bits_Len32 [] [.t 4], none⟩, ⟨some 2, .mv (.t 5), none⟩] [0, 3, 4, 5])
 (.ret [2])) .skip)
 (.seq (.ops [] [⟨some 6, .mv (.t 0), none⟩, ⟨some 7, .call N_math_bits_Len64 [] [.t 6], none⟩, ⟨some 2, .mv (.t 7), none⟩] [0, 6, 7])
 (.ret [2]))))
def r_math_bits_Len : List ARes := [.t 2]
def fn_math_bits_Len : AFn := .code c_math_bits_Len r_math_bits_Len 8 true
/- math/bits.Len32 -/
def c_math_bits_Len32 : ACode :=
 (.seq (.ops [] [⟨some 2, .mv (.c (.d (.int .i64 0))), none⟩] [])
 (.seq (.seq (.ops [] [⟨some 3, .mv (.t 0), none⟩, ⟨some 4, .bin .geq (.t 3) (.c (.d (.int .u32 65536))), none⟩] [3])
 (.cond (.t 4) (.seq (.ops [] [⟨some 5, .mv (.t 0), none⟩, ⟨some 6, .bin .shr (.t 5) (.c (.d (.int .u64 16))), none⟩, ⟨some 0, .mv (.t 6), none⟩] [2, 4, 5, 6])
 (.ops [] [⟨some 2, .mv (.c (.d (.int .i64 16))), none⟩] [])) .skip))
 (.seq (.seq (.ops [] [⟨some 7, .mv (.t 0), none⟩, ⟨some 8, .bin .geq (.t 7) (.c (.d (.int .u32 256))), none⟩] [4, 7])
 (.cond (.t 8) (.seq (.ops [] [⟨some 9, .mv (.t 0), none⟩, ⟨some 10, .bin .shr (.t 9) (.c (.d (.int .u64 8))), none⟩, ⟨some 0, .mv (.t 10), none⟩] [8, 9, 10])
 (.ops [] [⟨some 11, .mv (.t 2), none⟩, ⟨some 12, .bin .add (.t 11) (.c (.d (.int .i64 8))), none⟩, ⟨some 2, .mv (.t 12), none⟩] [11, 12])) .skip))
 (.seq (.ops [] [⟨some 13, .mv (.t 2), none⟩, ⟨some 14, .mv (.t 0), none⟩, ⟨some 15, .cvi .u8 (.t 14), none⟩, ⟨some 16, .idx (.c (.d (.str [0, 1, 2, 2, 3, 3, 3, 3, 4, 4, 4, 4, 4, 4, 4, 4, 5, 5, 5, 5, 5, 5, 5, 5, 5, 5, 5, 5, 5, 5, 5, 5, 6, 6, 6, 6, 6, 6, 6, 6, 6, 6, 6, 6, 6, 6, 6, 6, 6, 6, 6, 6, 6, 6, 6, 6, 6, 6, 6, 6, 6, 6, 6, 6, 7, 7, 7, 7, 7, 7, 7, 7, 7, 7, 7, 7, 7, 7, 7, 7, 7, 7, 7, 7, 7, 7, 7, 7, 7, 7, 7, 7, 7, 7, 7, 7, 7, 7, 7, 7, 7, 7, 7, 7, 7, 7, 7, 7, 7, 7, 7, 7, 7, 7, 7, 7, 7, 7, 7, 7, 7, 7, 7, 7, 7, 7, 7, 7, 8, 8, 8, 8, 8, 8, 8, 8, 8, 8, 8, 8, 8, 8, 8, 8, 8, 8, 8, 8, 8, 8, 8, 8, 8, 8, 8, 8, 8, 8, 8, 8, 8, 8, 8, 8, 8, 8, 8, 8, 8, 8, 8, 8, 8, 8, 8, 8, 8, 8, 8, 8, 8, 8, 8, 8, 8, 8, 8, 8, 8, 8, 8, 8, 8, 8, 8, 8, 8, 8, 8, 8, 8, 8, 8, 8, 8, 8, 8, 8, 8, 8, 8, 8, 8, 8, 8, 8, 8, 8, 8, 8, 8, 8, 8, 8, 8, 8, 8, 8, 8, 8, 8, 8, 8, 8, 8, 8, 8, 8, 8, 8, 8, 8, 8, 8, 8, 8, 8, 8, 8, 8, 8, 8, 8, 8, 8, 8]))) (.t 15), none⟩, ⟨some 17, .cvi .i64 (.t 16), none⟩, ⟨some 18, .bin .add (.t 13) (.t 17), none⟩, ⟨some 2, .mv (.t 18), none⟩] [0, 8, 13, 14, 15, 16, 17, 18])
 (.ret [2])))))
def r_math_bits_Len32 : List ARes := [.t 2]
def fn_math_bits_Len32 : AFn := .code c_math_bits_Len32 r_math_bits_Len32 19 true
/- math/bits.Len64 -/
def c_math_bits_Len64 : ACode :=
 (.seq (.ops [] [⟨some 2, .mv (.c (.d (.int .i64 0))), none⟩] [])
 (.seq (.seq (.ops [] [⟨some 3, .mv (.t 0), none⟩, ⟨some 4, .bin .geq (.t 3) (.c (.d (.int .u64 4294967296))), none⟩] [3])
 (.cond (.t 4) (.seq (.ops [] [⟨some 5, .mv (.t 0), none⟩, ⟨some 6, .bin .shr (.t 5) (.c (.d (.int .u64 32))), none⟩, ⟨some 0, .mv (.t 6), none⟩] [2, 4, 5, 6])
 (.ops [] [⟨some 2, .mv (.c (.d (.int .i64 32))), none⟩] [])) .skip))
 (.seq (.seq (.ops [] [⟨some 7, .mv (.t 0), none⟩, ⟨some 8, .bin .geq (.t 7) (.c (.d (.int .u64 65536))), none⟩] [4, 7])
 (.cond (.t 8) (.seq (.ops [] [⟨some 9, .mv (.t 0), none⟩, ⟨some 10, .bin .shr (.t 9) (.c (.d (.int .u64 16))), none⟩, ⟨some 0, .mv (.t 10), none⟩] [8, 9, 10])
 (.ops [] [⟨some 11, .mv (.t 2), none⟩, ⟨some 12, .bin .add (.t 11) (.c (.d (.int .i64 16))), none⟩, ⟨some 2, .mv (.t 12), none⟩] [11, 12])) .skip))
 (.seq (.seq (.ops [] [⟨some 13, .mv (.t 0), none⟩, ⟨some 14, .bin .geq (.t 13) (.c (.d (.int .u64 256))), none⟩] [8, 13])
 (.cond (.t 14) (.seq (.ops [] [⟨some 15, .mv (.t 0), none⟩, ⟨some 16, .bin .shr (.t 15) (.c (.d (.int .u64 8))), none⟩, ⟨some 0, .mv (.t 16), none⟩] [14, 15, 16])
 (.ops [] [⟨some 17, .mv (.t 2), none⟩, ⟨some 18, .bin .add (.t 17) (.c (.d (.int .i64 8))), none⟩, ⟨some 2, .mv (.t 18), none⟩] [17, 18])) .skip))
 (.seq (.ops [] [⟨some 19, .mv (.t 2), none⟩, ⟨some 20, .mv (.t 0), none⟩, ⟨some 21, .cvi .u8 (.t 20), none⟩, ⟨some 22, .idx (.c (.d (.str [0, 1, 2, 2, 3, 3, 3, 3, 4, 4, 4, 4, 4, 4, 4, 4, 5, 5, 5, 5, 5, 5, 5, 5, 5, 5, 5, 5, 5, 5, 5, 5, 6, 6, 6, 6, 6, 6, 6, 6, 6, 6, 6, 6, 6, 6, 6, 6, 6, 6, 6, 6, 6, 6, 6, 6, 6, 6, 6, 6, 6, 6, 6, 6, 7, 7, 7, 7, 7, 7, 7, 7, 7, 7, 7, 7, 7, 7, 7, 7, 7, 7, 7, 7, 7, 7, 7, 7, 7, 7, 7, 7, 7, 7, 7, 7, 7, 7, 7, 7, 7, 7, 7, 7, 7, 7, 7, 7, 7, 7, 7, 7, 7, 7, 7, 7, 7, 7, 7, 7, 7, 7, 7, 7, 7, 7, 7, 7, 8, 8, 8, 8, 8, 8, 8, 8, 8, 8, 8, 8, 8, 8, 8, 8, 8, 8, 8, 8, 8, 8, 8, 8, 8, 8, 8, 8, 8, 8, 8, 8, 8, 8, 8, 8, 8, 8, 8, 8, 8, 8, 8, 8, 8, 8, 8, 8, 8, 8, 8, 8, 8, 8, 8, 8, 8, 8, 8, 8, 8, 8, 8, 8, 8, 8, 8, 8, 8, 8, 8, 8, 8, 8, 8, 8, 8, 8, 8, 8, 8, 8, 8, 8, 8, 8, 8, 8, 8, 8, 8, 8, 8, 8, 8, 8, 8, 8, 8, 8, 8, 8, 8, 8, 8, 8, 8, 8, 8, 8, 8, 8, 8, 8, 8, 8, 8, 8, 8, 8, 8, 8, 8, 8, 8, 8, 8, 8]))) (.t 21), none⟩, ⟨some 23, .cvi .i64 (.t 22), none⟩, ⟨some 24, .bin .add (.t 19) (.t 23), none⟩, ⟨some 2, .mv (.t 24), none⟩] [0, 14, 19, 20, 21, 22, 23, 24])
 (.ret [2]))))))
def r_math_bits_Len64 : List ARes := [.t 2]
def fn_math_bits_Len64 : AFn := .code c_math_bits_Len64 r_math_bits_Len64 25 true
/- slices.pdqsortCmpFunc[shardqueue/api.Due] -/
def l_slices_pdqsortCmpFunc_api_Due_0 : ACode :=
 (.block 1 (.seq (.ops [] [⟨some 21, .mv (.t 2), none⟩, ⟨some 22, .mv (.t 1), none⟩, ⟨some 23, .bin .sub (.t 21) (.t 22), none⟩, ⟨some 12, .mv (.t 23), none⟩] [21, 22, 23])
 (.seq (.seq (.ops [] [⟨some 24, .mv (.t 12), none⟩, ⟨some 25, .bin .leq (.t 24) (.c (.d (.int .i64 12))), none⟩] [24])
 (.cond (.t 25) (.seq (.ops [] [⟨some 26, .mv (.t 0), none⟩, ⟨some 27, .mv (.t 1), none⟩, ⟨some 28, .mv (.t 2), none⟩, ⟨some 29, .mv (.t 4), none⟩, ⟨some 30, .call N_slices_insertionSortCmpFunc_api_Due [true, false, false, false] [.t 26, .t 27, .t 28, .t 29], none⟩] [0, 1, 2, 3, 4, 10, 11, 12, 25, 26, 27, 28, 29, 30])
 (.ret [])) .skip))
 (.seq (.seq (.ops [] [⟨some 31, .mv (.t 3), none⟩, ⟨some 32, .bin .eql (.t 31) (.c (.d (.int .i64 0))), none⟩] [25, 31])
 (.cond (.t 32) (.seq (.ops [] [⟨some 33, .mv (.t 0), none⟩, ⟨some 34, .mv (.t 1), none⟩, ⟨some 35, .mv (.t 2), none⟩, ⟨some 36, .mv (.t 4), none⟩, ⟨some 37, .call N_slices_heapSortCmpFunc_api_Due [true, false, false, false] [.t 33, .t 34, .t 35, .t 36], none⟩] [0, 1, 2, 3, 4, 10, 11, 12, 32, 33, 34, 35, 36, 37])
 (.ret [])) .skip))
 (.seq (.seq (.ops [] [⟨some 38, .mv (.t 10), none⟩, ⟨some 39, .un .not (.t 38), none⟩] [32, 38])
 (.cond (.t 39) (.seq (.ops [] [⟨some 40, .mv (.t 0), none⟩, ⟨some 41, .mv (.t 1), none⟩, ⟨some 42, .mv (.t 2), none⟩, ⟨some 43, .mv (.t 4), none⟩, ⟨some 44, .call N_slices_breakPatternsCmpFunc_api_Due [true, false, false, false] [.t 40, .t 41, .t 42, .t 43], none⟩] [39, 40, 41, 42, 43, 44])
 (.ops [] [⟨some 45, .mv (.t 3), none⟩, ⟨some 46, .bin .sub (.t 45) (.c (.d (.int .i64 1))), none⟩, ⟨some 3, .mv (.t 46), none⟩] [45, 46])) .skip))
 (.seq (.ops [] [⟨some 48, .mv (.t 0), none⟩, ⟨some 49, .mv (.t 1), none⟩, ⟨some 50, .mv (.t 2), none⟩, ⟨some 51, .mv (.t 4), none⟩, ⟨some 52, .call N_slices_choosePivotCmpFunc_api_Due [] [.t 48, .t 49, .t 50, .t 51], none⟩, ⟨some 47, .mv (.t 52), none⟩, ⟨some 53, .ext (.t 47) 0, none⟩, ⟨some 54, .ext (.t 47) 1, none⟩, ⟨some 13, .mv (.t 53), none⟩, ⟨some 14, .mv (.t 54), none⟩] [39, 47, 48, 49, 50, 51, 52, 53, 54])
 (.seq (.seq (.ops [] [⟨some 55, .mv (.t 14), none⟩, ⟨some 56, .bin .eql (.t 55) (.c (.d (.int .i64 2))), none⟩] [55])
 (.cond (.t 56) (.seq (.ops [] [⟨some 57, .mv (.t 0), none⟩, ⟨some 58, .mv (.t 1), none⟩, ⟨some 59, .mv (.t 2), none⟩, ⟨some 60, .mv (.t 4), none⟩, ⟨some 61, .call N_slices_reverseRangeCmpFunc_api_Due [true, false, false, false] [.t 57, .t 58, .t 59, .t 60], none⟩] [14, 56, 57, 58, 59, 60, 61])
 (.seq (.ops [] [⟨some 62, .mv (.t 2), none⟩, ⟨some 63, .bin .sub (.t 62) (.c (.d (.int .i64 1))), none⟩, ⟨some 64, .mv (.t 13), none⟩, ⟨some 65, .mv (.t 1), none⟩, ⟨some 66, .bin .sub (.t 64) (.t 65), none⟩, ⟨some 67, .bin .sub (.t 63) (.t 66), none⟩, ⟨some 13, .mv (.t 67), none⟩] [62, 63, 64, 65, 66, 67])
 (.ops [] [⟨some 14, .mv (.c (.d (.int .i64 1))), none⟩] []))) .skip))
 (.seq (.seq (.ops [] [⟨some 68, .mv (.t 10), none⟩, ⟨some 69, .mv (.t 68), none⟩, ⟨some 70, .mv (.t 11), some (69, true)⟩, ⟨some 71, .pick (.t 69) (.t 70) (.c (.d (.bool false))), none⟩, ⟨some 72, .mv (.t 71), none⟩, ⟨some 73, .mv (.t 14), some (72, true)⟩, ⟨some 74, .bin .eql (.t 73) (.c (.d (.int .i64 1))), some (72, true)⟩, ⟨some 75, .pick (.t 72) (.t 74) (.c (.d (.bool false))), none⟩] [14, 56, 68, 69, 70, 71, 72, 73, 74])
 (.cond (.t 75) (.seq (.ops [] [⟨some 76, .mv (.t 0), none⟩, ⟨some 77, .mv (.t 1), none⟩, ⟨some 78, .mv (.t 2), none⟩, ⟨some 79, .mv (.t 4), none⟩, ⟨some 80, .call N_slices_partialInsertionSortCmpFunc_api_Due [true, false, false, false] [.t 76, .t 77, .t 78, .t 79], none⟩] [75, 76, 77, 78, 79])
 (.cond (.t 80) (.ret []) .skip)) .skip))
 (.seq (.seq (.draw [] [⟨some 81, .mv (.t 1), none⟩, ⟨some 82, .bin .gtr (.t 81) (.c (.d (.int .i64 0))), none⟩, ⟨some 83, .mv (.t 82), none⟩, ⟨some 84, .mv (.t 4), some (83, true)⟩, ⟨some 85, .mv (.t 0), some (83, true)⟩, ⟨some 86, .mv (.t 1), some (83, true)⟩, ⟨some 87, .bin .sub (.t 86) (.c (.d (.int .i64 1))), some (83, true)⟩, ⟨some 88, .iad 2 (.t 85) (.t 87), some (83, true)⟩, ⟨some 89, .ld true 2 (.t 88), some (83, true)⟩, ⟨some 90, .mv (.t 0), some (83, true)⟩, ⟨some 91, .mv (.t 13), some (83, true)⟩, ⟨some 92, .iad 2 (.t 90) (.t 91), some (83, true)⟩, ⟨some 93, .ld true 2 (.t 92), some (83, true)⟩, ⟨some 94, .callv (.t 84) [] [.t 89, .t 93], some (83, true)⟩, ⟨some 95, .bin .lss (.t 94) (.c (.d (.int .i64 0))), some (83, true)⟩, ⟨some 96, .un .not (.t 95), some (83, true)⟩, ⟨some 97, .pick (.t 83) (.t 96) (.c (.d (.bool false))), none⟩] [[], [], [], [], [3], [3, 4], [3, 4], [3], [3], [3, 4, 5, 6, 7, 8], [3, 4, 5, 6, 7, 8, 9], [3, 4, 5, 6, 7, 8], [3, 4, 5, 6, 7, 8], [], [], [], []] [75, 80, 81, 82, 83, 84, 85, 86, 87, 88, 89, 90, 91, 92, 93, 94, 95, 96])
 (.cond (.t 97) (.seq (.ops [] [⟨some 98, .mv (.t 0), none⟩, ⟨some 99, .mv (.t 1), none⟩, ⟨some 100, .mv (.t 2), none⟩, ⟨some 101, .mv (.t 13), none⟩, ⟨some 102, .mv (.t 4), none⟩, ⟨some 103, .call N_slices_partitionEqualCmpFunc_api_Due [true, false, false, false, false] [.t 98, .t 99, .t 100, .t 101, .t 102], none⟩, ⟨some 15, .mv (.t 103), none⟩] [1, 12, 13, 97, 98, 99, 100, 101, 102, 103])
 (.seq (.ops [] [⟨some 104, .mv (.t 15), none⟩, ⟨some 1, .mv (.t 104), none⟩] [15, 104])
 (.exit 1 [0, 1, 2, 3, 4, 10, 11]))) .skip))
 (.seq (.ops [] [⟨some 106, .mv (.t 0), none⟩, ⟨some 107, .mv (.t 1), none⟩, ⟨some 108, .mv (.t 2), none⟩, ⟨some 109, .mv (.t 13), none⟩, ⟨some 110, .mv (.t 4), none⟩, ⟨some 111, .call N_slices_partitionCmpFunc_api_Due [true, false, false, false, false] [.t 106, .t 107, .t 108, .t 109, .t 110], none⟩, ⟨some 105, .mv (.t 111), none⟩, ⟨some 112, .ext (.t 105) 0, none⟩, ⟨some 113, .ext (.t 105) 1, none⟩, ⟨some 16, .mv (.t 112), none⟩, ⟨some 17, .mv (.t 113), none⟩] [10, 11, 13, 97, 105, 106, 107, 108, 109, 110, 111, 112, 113])
 (.seq (.ops [] [⟨some 114, .mv (.t 17), none⟩, ⟨some 11, .mv (.t 114), none⟩] [17, 114])
 (.seq (.ops [] [⟨some 115, .mv (.t 16), none⟩, ⟨some 116, .mv (.t 1), none⟩, ⟨some 117, .bin .sub (.t 115) (.t 116), none⟩, ⟨some 118, .mv (.t 2), none⟩, ⟨some 119, .mv (.t 16), none⟩, ⟨some 120, .bin .sub (.t 118) (.t 119), none⟩, ⟨some 18, .mv (.t 117), none⟩, ⟨some 19, .mv (.t 120), none⟩] [115, 116, 117, 118, 119, 120])
 (.seq (.ops [] [⟨some 121, .mv (.t 12), none⟩, ⟨some 122, .bin .quo (.t 121) (.c (.d (.int .i64 8))), none⟩, ⟨some 20, .mv (.t 122), none⟩] [12, 121, 122])
 (.seq (.ops [] [⟨some 123, .mv (.t 18), none⟩, ⟨some 124, .mv (.t 19), none⟩, ⟨some 125, .bin .lss (.t 123) (.t 124), none⟩] [123, 124])
 (.cond (.t 125) (.seq (.ops [] [⟨some 126, .mv (.t 18), none⟩, ⟨some 127, .mv (.t 20), none⟩, ⟨some 128, .bin .geq (.t 126) (.t 127), none⟩, ⟨some 10, .mv (.t 128), none⟩] [18, 19, 20, 125, 126, 127, 128])
 (.seq (.ops [] [⟨some 129, .mv (.t 0), none⟩, ⟨some 130, .mv (.t 1), none⟩, ⟨some 131, .mv (.t 16), none⟩, ⟨some 132, .mv (.t 3), none⟩, ⟨some 133, .mv (.t 4), none⟩, ⟨some 134, .call N_slices_pdqsortCmpFunc_api_Due [true, false, false, false, false] [.t 129, .t 130, .t 131, .t 132, .t 133], none⟩] [1, 129, 130, 131, 132, 133, 134])
 (.ops [] [⟨some 135, .mv (.t 16), none⟩, ⟨some 136, .bin .add (.t 135) (.c (.d (.int .i64 1))), none⟩, ⟨some 1, .mv (.t 136), none⟩] [16, 135, 136]))) (.seq (.ops [] [⟨some 137, .mv (.t 19), none⟩, ⟨some 138, .mv (.t 20), none⟩, ⟨some 139, .bin .geq (.t 137) (.t 138), none⟩, ⟨some 10, .mv (.t 139), none⟩] [18, 19, 20, 125, 137, 138, 139])
 (.seq (.ops [] [⟨some 140, .mv (.t 0), none⟩, ⟨some 141, .mv (.t 16), none⟩, ⟨some 142, .bin .add (.t 141) (.c (.d (.int .i64 1))), none⟩, ⟨some 143, .mv (.t 2), none⟩, ⟨some 144, .mv (.t 3), none⟩, ⟨some 145, .mv (.t 4), none⟩, ⟨some 146, .call N_slices_pdqsortCmpFunc_api_Due [true, false, false, false, false] [.t 140, .t 142, .t 143, .t 144, .t 145], none⟩] [2, 140, 141, 142, 143, 144, 145, 146])
 (.ops [] [⟨some 147, .mv (.t 16), none⟩, ⟨some 2, .mv (.t 147), none⟩] [16, 147]))))))))))))))))))
def c_slices_pdqsortCmpFunc_api_Due : ACode :=
 (.seq (.ops [] [⟨some 10, .mv (.c (.d (.bool true))), none⟩] [])
 (.seq (.ops [] [⟨some 11, .mv (.c (.d (.bool true))), none⟩] [])
 (.block 0 (.loop [] l_slices_pdqsortCmpFunc_api_Due_0))))
def r_slices_pdqsortCmpFunc_api_Due : List ARes := []
def fn_slices_pdqsortCmpFunc_api_Due : AFn := .code c_slices_pdqsortCmpFunc_api_Due r_slices_pdqsortCmpFunc_api_Due 148 true
/- slices.insertionSortCmpFunc[shardqueue/api.Due] -/
def l_slices_insertionSortCmpFunc_api_Due_0 : ACode :=
 (.seq (.seq (.draw [] [⟨some 18, .mv (.t 9), none⟩, ⟨some 19, .mv (.t 1), none⟩, ⟨some 20, .bin .gtr (.t 18) (.t 19), none⟩, ⟨some 21, .mv (.t 20), none⟩, ⟨some 22, .mv (.t 3), some (21, true)⟩, ⟨some 23, .mv (.t 0), some (21, true)⟩, ⟨some 24, .mv (.t 9), some (21, true)⟩, ⟨some 25, .iad 2 (.t 23) (.t 24), some (21, true)⟩, ⟨some 26, .ld true 2 (.t 25), some (21, true)⟩, ⟨some 27, .mv (.t 0), some (21, true)⟩, ⟨some 28, .mv (.t 9), some (21, true)⟩, ⟨some 29, .bin .sub (.t 28) (.c (.d (.int .i64 1))), some (21, true)⟩, ⟨some 30, .iad 2 (.t 27) (.t 29), some (21, true)⟩, ⟨some 31, .ld true 2 (.t 30), some (21, true)⟩, ⟨some 32, .callv (.t 22) [] [.t 26, .t 31], some (21, true)⟩, ⟨some 33, .bin .lss (.t 32) (.c (.d (.int .i64 0))), some (21, true)⟩, ⟨some 34, .pick (.t 21) (.t 33) (.c (.d (.bool false))), none⟩] [[], [0], [], [], [], [4], [4, 5], [4], [4], [4, 5, 6, 7, 8], [4, 5, 6, 7, 8, 9], [4, 5, 6, 7, 8, 9], [4, 5, 6, 7, 8], [4, 5, 6, 7, 8], [], [], []] [18, 19, 20, 21, 22, 23, 24, 25, 26, 27, 28, 29, 30, 31, 32, 33])
 (.cond (.t 34) .skip (.exit 2 [0, 1, 2, 3, 8])))
 (.seq (.block 3 (.draw [] [⟨some 37, .mv (.t 0), none⟩, ⟨some 38, .mv (.t 9), none⟩, ⟨some 39, .mv (.t 0), none⟩, ⟨some 40, .mv (.t 9), none⟩, ⟨some 41, .bin .sub (.t 40) (.c (.d (.int .i64 1))), none⟩, ⟨some 42, .mv (.t 0), none⟩, ⟨some 43, .mv (.t 9), none⟩, ⟨some 44, .bin .sub (.t 43) (.c (.d (.int .i64 1))), none⟩, ⟨some 45, .iad 2 (.t 42) (.t 44), none⟩, ⟨some 46, .ld true 2 (.t 45), none⟩, ⟨some 47, .mv (.t 0), none⟩, ⟨some 48, .mv (.t 9), none⟩, ⟨some 49, .iad 2 (.t 47) (.t 48), none⟩, ⟨some 50, .ld true 2 (.t 49), none⟩, ⟨some 51, .iad 2 (.t 37) (.t 38), none⟩, ⟨none, .st 2 (.t 51) (.t 46), none⟩, ⟨some 52, .iad 2 (.t 39) (.t 41), none⟩, ⟨none, .st 2 (.t 52) (.t 50), none⟩] [[], [0], [0, 1], [0, 1, 2], [0, 1, 2], [0, 1, 2, 3, 4], [0, 1, 2, 3, 4, 5], [0, 1, 2, 3, 4, 5], [0, 1, 2, 3, 4], [0, 1, 2, 3, 4], [0, 1, 2, 3, 4, 5, 6, 7, 8, 9], [0, 1, 2, 3, 4, 5, 6, 7, 8, 9, 10], [0, 1, 2, 3, 4, 5, 6, 7, 8, 9], [0, 1, 2, 3, 4, 5, 6, 7, 8, 9], [2, 3, 4], [2, 3, 4], [], []] [34, 37, 38, 39, 40, 41, 42, 43, 44, 45, 46, 47, 48, 49, 50, 51, 52]))
 (.ops [] [⟨some 35, .mv (.t 9), none⟩, ⟨some 36, .bin .sub (.t 35) (.c (.d (.int .i64 1))), none⟩, ⟨some 9, .mv (.t 36), none⟩] [35, 36])))
def l_slices_insertionSortCmpFunc_api_Due_1 : ACode :=
 (.seq (.seq (.ops [] [⟨some 12, .mv (.t 8), none⟩, ⟨some 13, .mv (.t 2), none⟩, ⟨some 14, .bin .lss (.t 12) (.t 13), none⟩] [12, 13])
 (.cond (.t 14) .skip (.exit 0 [])))
 (.seq (.block 1 (.seq (.ops [] [⟨some 17, .mv (.t 8), none⟩, ⟨some 9, .mv (.t 17), none⟩] [14, 17])
 (.block 2 (.loop [] l_slices_insertionSortCmpFunc_api_Due_0))))
 (.ops [] [⟨some 15, .mv (.t 8), none⟩, ⟨some 16, .bin .add (.t 15) (.c (.d (.int .i64 1))), none⟩, ⟨some 8, .mv (.t 16), none⟩] [9, 15, 16, 34])))
def c_slices_insertionSortCmpFunc_api_Due : ACode :=
 (.seq (.ops [] [⟨some 10, .mv (.t 1), none⟩, ⟨some 11, .bin .add (.t 10) (.c (.d (.int .i64 1))), none⟩, ⟨some 8, .mv (.t 11), none⟩] [10, 11])
 (.block 0 (.loop [] l_slices_insertionSortCmpFunc_api_Due_1)))
def r_slices_insertionSortCmpFunc_api_Due : List ARes := []
def fn_slices_insertionSortCmpFunc_api_Due : AFn := .code c_slices_insertionSortCmpFunc_api_Due r_slices_insertionSortCmpFunc_api_Due 53 true
/- shardqueue/shardqueuelaw05.awake -/
def c_law05_awake : ACode :=
 (.seq (.ops [] [⟨some 0, .mv (.c (.d (.bool false))), none⟩] [0])
 (.seq (.ops [] [⟨some 5, .build [.d (.int .i64 0), .d (.int .i64 0)] [(0, (1, .c (.d (.int .i64 5)))), (1, (1, .c (.d (.int .i64 1))))], none⟩, ⟨some 6, .call N_due_Push [] [.c (.xsl []), .t 5], none⟩, ⟨some 4, .mv (.t 6), none⟩, ⟨some 7, .ext (.t 4) 0, none⟩, ⟨some 8, .ext (.t 4) 1, none⟩, ⟨some 1, .mv (.t 7), none⟩, ⟨some 2, .mv (.t 8), none⟩] [4, 5, 6, 7, 8])
 (.seq (.ops [] [⟨some 10, .mv (.t 1), none⟩, ⟨some 11, .build [.d (.int .i64 0), .d (.int .i64 0)] [(0, (1, .c (.d (.int .i64 3)))), (1, (1, .c (.d (.int .i64 2))))], none⟩, ⟨some 12, .call N_due_Push [] [.t 10, .t 11], none⟩, ⟨some 9, .mv (.t 12), none⟩, ⟨some 13, .ext (.t 9) 0, none⟩, ⟨some 14, .ext (.t 9) 1, none⟩, ⟨some 1, .mv (.t 13), none⟩, ⟨some 3, .mv (.t 14), none⟩] [9, 10, 11, 12, 13, 14])
 (.seq (.ops [] [⟨some 15, .mv (.t 2), none⟩, ⟨some 16, .bin .eql (.t 15) (.c (.d (.int .i64 0))), none⟩, ⟨some 17, .mv (.t 16), none⟩, ⟨some 18, .mv (.t 3), some (17, true)⟩, ⟨some 19, .bin .eql (.t 18) (.c (.d (.int .i64 0))), some (17, true)⟩, ⟨some 20, .pick (.t 17) (.t 19) (.c (.d (.bool false))), none⟩, ⟨some 21, .mv (.t 20), none⟩, ⟨some 22, .mv (.t 1), some (21, true)⟩, ⟨some 23, .len (.t 22), some (21, true)⟩, ⟨some 24, .bin .eql (.t 23) (.c (.d (.int .i64 2))), some (21, true)⟩, ⟨some 25, .pick (.t 21) (.t 24) (.c (.d (.bool false))), none⟩, ⟨some 26, .mv (.t 25), none⟩, ⟨some 27, .mv (.t 1), some (26, true)⟩, ⟨some 28, .iad 2 (.t 27) (.c (.d (.int .i64 0))), some (26, true)⟩, ⟨some 29, .fad false 1 1 (.t 28), some (26, true)⟩, ⟨some 30, .ld false 1 (.t 29), some (26, true)⟩, ⟨some 31, .bin .eql (.t 30) (.c (.d (.int .i64 2))), some (26, true)⟩, ⟨some 32, .pick (.t 26) (.t 31) (.c (.d (.bool false))), none⟩, ⟨some 0, .mv (.t 32), none⟩] [1, 2, 3, 15, 16, 17, 18, 19, 20, 21, 22, 23, 24, 25, 26, 27, 28, 29, 30, 31, 32])
 (.ret [0])))))
def r_law05_awake : List ARes := [.t 0]
def fn_law05_awake : AFn := .code c_law05_awake r_law05_awake 33 true
/- shardqueue/due.Push -/
def c_due_Push : ACode :=
 (.seq (.ops [] [⟨some 3, .box (.t 1), none⟩, ⟨some 4, .mv (.c (.xsl [])), none⟩, ⟨some 5, .mv (.c (.d (.int .i64 0))), none⟩] [1, 4, 5])
 (.seq (.seq (.ops [] [⟨some 7, .mv (.t 0), none⟩, ⟨some 8, .call N_due_Validate [] [.t 7], none⟩, ⟨some 6, .mv (.t 8), none⟩] [7, 8])
 (.seq (.ops [] [⟨some 9, .mv (.t 6), none⟩, ⟨some 10, .bin .neq (.t 9) (.c (.d (.int .i64 0))), none⟩] [9])
 (.cond (.t 10) (.seq (.ops [] [⟨some 11, .mv (.t 6), none⟩, ⟨some 4, .mv (.c (.xsl [])), none⟩, ⟨some 5, .mv (.t 11), none⟩] [0, 3, 6, 10, 11])
 (.ret [4, 5])) .skip)))
 (.seq (.block 0 (.seq (.ops [] [⟨some 13, .ld true 2 (.t 3), none⟩, ⟨some 14, .call N_due_valid [] [.t 13], none⟩, ⟨some 15, .un .not (.t 14), none⟩, ⟨some 12, .mv (.t 15), none⟩] [6, 10, 13, 14, 15])
 (.cond (.t 12) (.seq (.ops [] [⟨some 4, .mv (.c (.xsl [])), none⟩, ⟨some 5, .mv (.c (.d (.int .i64 1))), none⟩] [0, 3, 12])
 (.ret [4, 5])) (.seq (.ops [] [⟨some 17, .mv (.t 0), none⟩, ⟨some 18, .len (.t 17), none⟩, ⟨some 19, .bin .eql (.t 18) (.c (.d (.int .i64 12))), none⟩, ⟨some 16, .mv (.t 19), none⟩] [12, 17, 18, 19])
 (.cond (.t 16) (.seq (.ops [] [⟨some 4, .mv (.c (.xsl [])), none⟩, ⟨some 5, .mv (.c (.d (.int .i64 3))), none⟩] [0, 3, 16])
 (.ret [4, 5])) (.seq (.ops [] [⟨some 21, .mv (.t 0), none⟩, ⟨some 22, .fad false 1 1 (.t 3), none⟩, ⟨some 23, .ld false 1 (.t 22), none⟩, ⟨some 24, .call N_due_find [] [.t 21, .t 23], none⟩, ⟨some 25, .bin .geq (.t 24) (.c (.d (.int .i64 0))), none⟩, ⟨some 20, .mv (.t 25), none⟩] [16, 21, 22, 23, 24, 25])
 (.cond (.t 20) (.seq (.ops [] [⟨some 4, .mv (.c (.xsl [])), none⟩, ⟨some 5, .mv (.c (.d (.int .i64 10))), none⟩] [0, 3, 20])
 (.ret [4, 5])) .skip)))))))
 (.seq (.draw [] [⟨some 26, .mv (.t 0), none⟩, ⟨some 27, .call N_slices_Clone_api_Due [] [.t 26], none⟩, ⟨some 28, .ld true 2 (.t 3), none⟩, ⟨some 29, .bsl 1 2 (.d (.agg [.int .i64 0, .int .i64 0])) [(0, .t 28)], none⟩, ⟨some 30, .app 2 (.t 27) (.t 29), none⟩, ⟨some 0, .mv (.t 30), none⟩] [[], [], [0, 1], [0, 1], [], []] [3, 20, 26, 27, 28, 29, 30])
 (.seq (.ops [54] [⟨some 31, .mv (.t 0), none⟩, ⟨some 32, .mv (.t 0), none⟩, ⟨some 33, .len (.t 32), none⟩, ⟨some 34, .bin .sub (.t 33) (.c (.d (.int .i64 1))), none⟩, ⟨some 35, .call N_due_up [true, false] [.t 31, .t 34], none⟩] [31, 32, 33, 34, 35])
 (.seq (.ops [] [⟨some 36, .mv (.t 0), none⟩, ⟨some 4, .mv (.t 36), none⟩, ⟨some 5, .mv (.c (.d (.int .i64 0))), none⟩] [0, 36])
 (.ret [4, 5])))))))
def r_due_Push : List ARes := [.t 4, .t 5]
def fn_due_Push : AFn := .code c_due_Push r_due_Push 37 true
/- shardqueue/due.up -/
def l_due_up_0 : ACode :=
 (.seq (.seq (.ops [] [⟨some 6, .mv (.t 1), none⟩, ⟨some 7, .bin .gtr (.t 6) (.c (.d (.int .i64 0))), none⟩, ⟨some 8, .mv (.t 7), none⟩, ⟨some 9, .mv (.t 0), some (8, true)⟩, ⟨some 10, .mv (.t 1), some (8, true)⟩, ⟨some 11, .mv (.t 1), some (8, true)⟩, ⟨some 12, .bin .sub (.t 11) (.c (.d (.int .i64 1))), some (8, true)⟩, ⟨some 13, .bin .quo (.t 12) (.c (.d (.int .i64 2))), some (8, true)⟩, ⟨some 14, .call N_due_before [] [.t 9, .t 10, .t 13], some (8, true)⟩, ⟨some 15, .pick (.t 8) (.t 14) (.c (.d (.bool false))), none⟩] [6, 7, 8, 9, 10, 11, 12, 13, 14])
 (.cond (.t 15) .skip (.exit 0 [1])))
 (.block 1 (.seq (.ops [] [⟨some 16, .mv (.t 1), none⟩, ⟨some 17, .bin .sub (.t 16) (.c (.d (.int .i64 1))), none⟩, ⟨some 18, .bin .quo (.t 17) (.c (.d (.int .i64 2))), none⟩, ⟨some 5, .mv (.t 18), none⟩] [15, 16, 17, 18])
 (.seq (.draw [] [⟨some 19, .mv (.t 0), none⟩, ⟨some 20, .mv (.t 1), none⟩, ⟨some 21, .mv (.t 0), none⟩, ⟨some 22, .mv (.t 5), none⟩, ⟨some 23, .mv (.t 0), none⟩, ⟨some 24, .mv (.t 5), none⟩, ⟨some 25, .iad 2 (.t 23) (.t 24), none⟩, ⟨some 26, .ld true 2 (.t 25), none⟩, ⟨some 27, .mv (.t 0), none⟩, ⟨some 28, .mv (.t 1), none⟩, ⟨some 29, .iad 2 (.t 27) (.t 28), none⟩, ⟨some 30, .ld true 2 (.t 29), none⟩, ⟨some 31, .iad 2 (.t 19) (.t 20), none⟩, ⟨none, .st 2 (.t 31) (.t 26), none⟩, ⟨some 32, .iad 2 (.t 21) (.t 22), none⟩, ⟨none, .st 2 (.t 32) (.t 30), none⟩] [[], [0], [0, 1], [0, 1, 2], [0, 1, 2, 3], [0, 1, 2, 3, 4], [0, 1, 2, 3], [0, 1, 2, 3], [0, 1, 2, 3, 4, 5, 6, 7], [0, 1, 2, 3, 4, 5, 6, 7, 8], [0, 1, 2, 3, 4, 5, 6, 7], [0, 1, 2, 3, 4, 5, 6, 7], [2, 3], [2, 3], [], []] [1, 19, 20, 21, 22, 23, 24, 25, 26, 27, 28, 29, 30, 31, 32])
 (.ops [] [⟨some 33, .mv (.t 5), none⟩, ⟨some 1, .mv (.t 33), none⟩] [5, 33])))))
def c_due_up : ACode :=
 (.seq (.ops [] [⟨some 4, .mv (.c (.d (.int .i64 0))), none⟩] [4])
 (.seq (.block 0 (.loop [] l_due_up_0))
 (.seq (.ops [] [⟨some 34, .mv (.t 1), none⟩, ⟨some 4, .mv (.t 34), none⟩] [0, 1, 15, 34])
 (.ret [4]))))
def r_due_up : List ARes := [.t 4]
def fn_due_up : AFn := .code c_due_up r_due_up 35 true
/- shardqueue/shardqueuelaw05.DueRaw -/
def c_law05_DueRaw : ACode :=
 (.seq (.ops [] [⟨some 5, .box (.t 1), none⟩, ⟨some 8, .mv (.c (.d (.bool false))), none⟩] [1, 8])
 (.seq (.seq (.ops [] [⟨some 9, .mv (.t 0), none⟩, ⟨some 10, .len (.t 9), none⟩, ⟨some 11, .bin .gtr (.t 10) (.c (.d (.int .i64 30))), none⟩] [9, 10])
 (.cond (.t 11) (.seq (.ops [] [⟨some 8, .mv (.c (.d (.bool true))), none⟩] [0, 2, 3, 5, 11])
 (.ret [8])) .skip))
 (.seq (.ops [] [⟨some 12, .mv (.t 0), none⟩, ⟨some 13, .ld true 2 (.t 5), none⟩, ⟨some 14, .mv (.t 2), none⟩, ⟨some 15, .mv (.t 3), none⟩, ⟨some 16, .call N_law05_agrees [] [.t 12, .t 13, .t 14, .t 15], none⟩, ⟨some 17, .mv (.t 16), none⟩, ⟨some 18, .call N_law05_awake [] [], some (17, true)⟩, ⟨some 19, .pick (.t 17) (.t 18) (.c (.d (.bool false))), none⟩, ⟨some 8, .mv (.t 19), none⟩] [0, 2, 3, 5, 11, 12, 13, 14, 15, 16, 17, 18, 19])
 (.ret [8]))))
def r_law05_DueRaw : List ARes := [.t 8]
def fn_law05_DueRaw : AFn := .code c_law05_DueRaw r_law05_DueRaw 20 true
/- shardqueue/shardqueuelaw05.agrees -/
def c_law05_agrees : ACode :=
 (.seq (.ops [] [⟨some 5, .box (.t 1), none⟩, ⟨some 8, .mv (.c (.d (.bool false))), none⟩] [1, 8])
 (.seq (.seq (.ops [] [⟨some 15, .mv (.t 0), none⟩, ⟨some 16, .call N_due_Validate [] [.t 15], none⟩, ⟨some 17, .mv (.t 0), none⟩, ⟨some 18, .call N_ref05_Validate [] [.t 17], none⟩, ⟨some 19, .bin .neq (.t 16) (.t 18), none⟩, ⟨some 20, .mv (.t 19), none⟩, ⟨some 21, .mv (.t 0), some (20, false)⟩, ⟨some 22, .mv (.t 3), some (20, false)⟩, ⟨some 23, .call N_due_Until [] [.t 21, .t 22], some (20, false)⟩, ⟨some 24, .mv (.t 0), some (20, false)⟩, ⟨some 25, .mv (.t 3), some (20, false)⟩, ⟨some 26, .call N_ref05_Until [] [.t 24, .t 25], some (20, false)⟩, ⟨some 27, .call N_ref05_SameInts [] [.t 23, .t 26], some (20, false)⟩, ⟨some 28, .un .not (.t 27), some (20, false)⟩, ⟨some 29, .pick (.t 20) (.c (.d (.bool true))) (.t 28), none⟩] [3, 15, 16, 17, 18, 19, 20, 21, 22, 23, 24, 25, 26, 27, 28])
 (.cond (.t 29) (.seq (.ops [] [⟨some 8, .mv (.c (.d (.bool false))), none⟩] [0, 2, 5, 29])
 (.ret [8])) .skip))
 (.seq (.ops [] [⟨some 31, .mv (.t 0), none⟩, ⟨some 32, .ld true 2 (.t 5), none⟩, ⟨some 33, .call N_due_Push [] [.t 31, .t 32], none⟩, ⟨some 30, .mv (.t 33), none⟩, ⟨some 34, .ext (.t 30) 0, none⟩, ⟨some 35, .ext (.t 30) 1, none⟩, ⟨some 9, .mv (.t 34), none⟩, ⟨some 10, .mv (.t 35), none⟩] [29, 30, 31, 32, 33, 34, 35])
 (.seq (.ops [] [⟨some 37, .mv (.t 0), none⟩, ⟨some 38, .ld true 2 (.t 5), none⟩, ⟨some 39, .call N_ref05_Push [] [.t 37, .t 38], none⟩, ⟨some 36, .mv (.t 39), none⟩, ⟨some 40, .ext (.t 36) 0, none⟩, ⟨some 41, .ext (.t 36) 1, none⟩, ⟨some 11, .mv (.t 40), none⟩, ⟨some 12, .mv (.t 41), none⟩] [5, 36, 37, 38, 39, 40, 41])
 (.seq (.seq (.ops [] [⟨some 42, .mv (.t 10), none⟩, ⟨some 43, .mv (.t 12), none⟩, ⟨some 44, .bin .neq (.t 42) (.t 43), none⟩, ⟨some 45, .mv (.t 44), none⟩, ⟨some 46, .mv (.t 9), some (45, false)⟩, ⟨some 47, .mv (.t 11), some (45, false)⟩, ⟨some 48, .call N_ref05_Same [] [.t 46, .t 47], some (45, false)⟩, ⟨some 49, .un .not (.t 48), some (45, false)⟩, ⟨some 50, .pick (.t 45) (.c (.d (.bool true))) (.t 49), none⟩] [9, 10, 11, 12, 42, 43, 44, 45, 46, 47, 48, 49])
 (.cond (.t 50) (.seq (.ops [] [⟨some 8, .mv (.c (.d (.bool false))), none⟩] [0, 2, 50])
 (.ret [8])) .skip))
 (.seq (.ops [] [⟨some 52, .mv (.t 0), none⟩, ⟨some 53, .call N_due_Pop [] [.t 52], none⟩, ⟨some 51, .mv (.t 53), none⟩, ⟨some 54, .ext (.t 51) 0, none⟩, ⟨some 55, .ext (.t 51) 1, none⟩, ⟨some 56, .ext (.t 51) 2, none⟩, ⟨some 13, .alloc (.d (.agg [.int .i64 0, .int .i64 0])), none⟩, ⟨some 9, .mv (.t 54), none⟩, ⟨none, .st 2 (.t 13) (.t 55), none⟩, ⟨some 10, .mv (.t 56), none⟩] [50, 51, 52, 53, 54, 55, 56])
 (.seq (.ops [] [⟨some 58, .mv (.t 0), none⟩, ⟨some 59, .call N_ref05_Pop [] [.t 58], none⟩, ⟨some 57, .mv (.t 59), none⟩, ⟨some 60, .ext (.t 57) 0, none⟩, ⟨some 61, .ext (.t 57) 1, none⟩, ⟨some 62, .ext (.t 57) 2, none⟩, ⟨some 14, .alloc (.d (.agg [.int .i64 0, .int .i64 0])), none⟩, ⟨some 11, .mv (.t 60), none⟩, ⟨none, .st 2 (.t 14) (.t 61), none⟩, ⟨some 12, .mv (.t 62), none⟩] [57, 58, 59, 60, 61, 62])
 (.seq (.seq (.ops [] [⟨some 63, .mv (.t 10), none⟩, ⟨some 64, .mv (.t 12), none⟩, ⟨some 65, .bin .neq (.t 63) (.t 64), none⟩, ⟨some 66, .mv (.t 65), none⟩, ⟨some 67, .ld true 2 (.t 13), some (66, false)⟩, ⟨some 68, .ld true 2 (.t 14), some (66, false)⟩, ⟨some 69, .eqs true 2 [(0, 0), (1, 0)] (.t 67) (.t 68), some (66, false)⟩, ⟨some 70, .pick (.t 66) (.c (.d (.bool true))) (.t 69), none⟩, ⟨some 71, .mv (.t 70), none⟩, ⟨some 72, .mv (.t 9), some (71, false)⟩, ⟨some 73, .mv (.t 11), some (71, false)⟩, ⟨some 74, .call N_ref05_Same [] [.t 72, .t 73], some (71, false)⟩, ⟨some 75, .un .not (.t 74), some (71, false)⟩, ⟨some 76, .pick (.t 71) (.c (.d (.bool true))) (.t 75), none⟩] [9, 10, 11, 12, 13, 14, 63, 64, 65, 66, 67, 68, 69, 70, 71, 72, 73, 74, 75])
 (.cond (.t 76) (.seq (.ops [] [⟨some 8, .mv (.c (.d (.bool false))), none⟩] [0, 2, 76])
 (.ret [8])) .skip))
 (.seq (.ops [] [⟨some 78, .mv (.t 0), none⟩, ⟨some 79, .mv (.t 2), none⟩, ⟨some 80, .call N_due_Remove [] [.t 78, .t 79], none⟩, ⟨some 77, .mv (.t 80), none⟩, ⟨some 81, .ext (.t 77) 0, none⟩, ⟨some 82, .ext (.t 77) 1, none⟩, ⟨some 9, .mv (.t 81), none⟩, ⟨some 10, .mv (.t 82), none⟩] [76, 77, 78, 79, 80, 81, 82])
 (.seq (.ops [] [⟨some 84, .mv (.t 0), none⟩, ⟨some 85, .mv (.t 2), none⟩, ⟨some 86, .call N_ref05_Remove [] [.t 84, .t 85], none⟩, ⟨some 83, .mv (.t 86), none⟩, ⟨some 87, .ext (.t 83) 0, none⟩, ⟨some 88, .ext (.t 83) 1, none⟩, ⟨some 11, .mv (.t 87), none⟩, ⟨some 12, .mv (.t 88), none⟩] [0, 2, 83, 84, 85, 86, 87, 88])
 (.seq (.ops [] [⟨some 89, .mv (.t 10), none⟩, ⟨some 90, .mv (.t 12), none⟩, ⟨some 91, .bin .eql (.t 89) (.t 90), none⟩, ⟨some 92, .mv (.t 91), none⟩, ⟨some 93, .mv (.t 9), some (92, true)⟩, ⟨some 94, .mv (.t 11), some (92, true)⟩, ⟨some 95, .call N_ref05_Same [] [.t 93, .t 94], some (92, true)⟩, ⟨some 96, .pick (.t 92) (.t 95) (.c (.d (.bool false))), none⟩, ⟨some 8, .mv (.t 96), none⟩] [9, 10, 11, 12, 89, 90, 91, 92, 93, 94, 95, 96])
 (.ret [8]))))))))))))
def r_law05_agrees : List ARes := [.t 8]
def fn_law05_agrees : AFn := .code c_law05_agrees r_law05_agrees 97 true
/- shardqueue/shardqueueref05.Until -/
def l_ref05_Until_0 : ACode :=
 (.seq (.seq (.ops [] [⟨some 6, .mv (.t 0), none⟩, ⟨some 7, .call N_ref05_Validate [] [.t 6], none⟩, ⟨some 8, .bin .eql (.t 7) (.c (.d (.int .i64 0))), none⟩, ⟨some 9, .mv (.t 8), none⟩, ⟨some 10, .mv (.t 0), some (9, true)⟩, ⟨some 11, .len (.t 10), some (9, true)⟩, ⟨some 12, .bin .gtr (.t 11) (.c (.d (.int .i64 0))), some (9, true)⟩, ⟨some 13, .pick (.t 9) (.t 12) (.c (.d (.bool false))), none⟩, ⟨some 14, .mv (.t 13), none⟩, ⟨some 15, .mv (.t 0), some (14, true)⟩, ⟨some 16, .iad 2 (.t 15) (.c (.d (.int .i64 0))), some (14, true)⟩, ⟨some 17, .fad false 0 1 (.t 16), some (14, true)⟩, ⟨some 18, .ld false 1 (.t 17), some (14, true)⟩, ⟨some 19, .mv (.t 1), some (14, true)⟩, ⟨some 20, .bin .leq (.t 18) (.t 19), some (14, true)⟩, ⟨some 21, .pick (.t 14) (.t 20) (.c (.d (.bool false))), none⟩] [6, 7, 8, 9, 10, 11, 12, 13, 14, 15, 16, 17, 18, 19, 20])
 (.cond (.t 21) .skip (.exit 0 [5])))
 (.block 1 (.seq (.ops [] [⟨some 22, .mv (.t 5), none⟩, ⟨some 23, .mv (.t 0), none⟩, ⟨some 24, .iad 2 (.t 23) (.c (.d (.int .i64 0))), none⟩, ⟨some 25, .fad false 1 1 (.t 24), none⟩, ⟨some 26, .ld false 1 (.t 25), none⟩, ⟨some 27, .bsl 1 1 (.d (.int .i64 0)) [(0, .t 26)], none⟩, ⟨some 28, .app 1 (.t 22) (.t 27), none⟩, ⟨some 5, .mv (.t 28), none⟩] [21, 22, 23, 24, 25, 26, 27, 28])
 (.ops [] [⟨some 29, .mv (.t 0), none⟩, ⟨some 30, .call N_ref05_cut [] [.t 29, .c (.d (.int .i64 0))], none⟩, ⟨some 0, .mv (.t 30), none⟩] [29, 30]))))
def c_ref05_Until : ACode :=
 (.seq (.ops [] [⟨some 4, .mv (.c (.xsl [])), none⟩] [4])
 (.seq (.ops [] [⟨some 5, .nacc, none⟩] [])
 (.seq (.block 0 (.loop [] l_ref05_Until_0))
 (.seq (.ops [] [⟨some 31, .mv (.t 5), none⟩, ⟨some 4, .mv (.t 31), none⟩] [0, 1, 5, 21, 31])
 (.ret [4])))))
def r_ref05_Until : List ARes := [.t 4]
def fn_ref05_Until : AFn := .code c_ref05_Until r_ref05_Until 32 true
/- shardqueue/shardqueueref05.cut -/
def c_ref05_cut : ACode :=
 (.seq (.ops [] [⟨some 4, .mv (.c (.xsl [])), none⟩] [4])
 (.seq (.ops [] [⟨some 7, .mv (.t 0), none⟩, ⟨some 8, .len (.t 7), none⟩, ⟨some 9, .bin .sub (.t 8) (.c (.d (.int .i64 1))), none⟩, ⟨some 5, .mv (.t 9), none⟩] [7, 8, 9])
 (.seq (.ops [] [⟨some 10, .mv (.t 0), none⟩, ⟨some 11, .mv (.t 5), none⟩, ⟨some 12, .slc 2 (.t 10) none (some (.t 11)) none, none⟩, ⟨some 13, .app 2 (.c (.xsl [])) (.t 12), none⟩, ⟨some 6, .mv (.t 13), none⟩] [10, 11, 12, 13])
 (.seq (.seq (.ops [] [⟨some 14, .mv (.t 1), none⟩, ⟨some 15, .mv (.t 5), none⟩, ⟨some 16, .bin .eql (.t 14) (.t 15), none⟩] [14, 15])
 (.cond (.t 16) (.seq (.ops [] [⟨some 17, .mv (.t 6), none⟩, ⟨some 4, .mv (.t 17), none⟩] [0, 1, 5, 6, 16, 17])
 (.ret [4])) .skip))
 (.seq (.ops [26] [⟨some 18, .mv (.t 6), none⟩, ⟨some 19, .mv (.t 1), none⟩, ⟨some 20, .mv (.t 0), none⟩, ⟨some 21, .mv (.t 5), none⟩, ⟨some 22, .iad 2 (.t 20) (.t 21), none⟩, ⟨some 23, .ld true 2 (.t 22), none⟩, ⟨some 24, .iad 2 (.t 18) (.t 19), none⟩, ⟨none, .st 2 (.t 24) (.t 23), none⟩] [0, 5, 16, 18, 19, 20, 21, 22, 23, 24])
 (.seq (.seq (.draw [] [⟨some 25, .mv (.t 1), none⟩, ⟨some 26, .bin .gtr (.t 25) (.c (.d (.int .i64 0))), none⟩, ⟨some 27, .mv (.t 26), none⟩, ⟨some 28, .mv (.t 6), some (27, true)⟩, ⟨some 29, .mv (.t 1), some (27, true)⟩, ⟨some 30, .iad 2 (.t 28) (.t 29), some (27, true)⟩, ⟨some 31, .ld true 2 (.t 30), some (27, true)⟩, ⟨some 32, .mv (.t 6), some (27, true)⟩, ⟨some 33, .mv (.t 1), some (27, true)⟩, ⟨some 34, .bin .sub (.t 33) (.c (.d (.int .i64 1))), some (27, true)⟩, ⟨some 35, .bin .quo (.t 34) (.c (.d (.int .i64 2))), some (27, true)⟩, ⟨some 36, .iad 2 (.t 32) (.t 35), some (27, true)⟩, ⟨some 37, .ld true 2 (.t 36), some (27, true)⟩, ⟨some 38, .call N_ref05_before [] [.t 31, .t 37], some (27, true)⟩, ⟨some 39, .pick (.t 27) (.t 38) (.c (.d (.bool false))), none⟩] [[], [], [], [], [3], [], [], [3, 4, 5, 6], [3, 4, 5, 6, 7], [3, 4, 5, 6, 7], [3, 4, 5, 6, 7], [3, 4, 5, 6], [3, 4, 5, 6], [], []] [25, 26, 27, 28, 29, 30, 31, 32, 33, 34, 35, 36, 37, 38])
 (.cond (.t 39) (.seq (.ops [] [⟨some 40, .mv (.t 6), none⟩, ⟨some 41, .mv (.t 1), none⟩, ⟨some 42, .call N_ref05_up [false, false, true] [.t 40, .t 41], none⟩, ⟨some 4, .mv (.t 42), none⟩] [1, 6, 39, 40, 41, 42])
 (.ret [4])) .skip))
 (.seq (.ops [] [⟨some 43, .mv (.t 6), none⟩, ⟨some 44, .mv (.t 1), none⟩, ⟨some 45, .call N_ref05_down [false, false, true] [.t 43, .t 44], none⟩, ⟨some 4, .mv (.t 45), none⟩] [1, 6, 39, 43, 44, 45])
 (.ret [4]))))))))
def r_ref05_cut : List ARes := [.t 4]
def fn_ref05_cut : AFn := .code c_ref05_cut r_ref05_cut 46 true
/- shardqueue/shardqueueref05.down -/
def l_ref05_down_0 : ACode :=
 (.seq (.seq (.ops [] [⟨some 6, .mv (.t 1), none⟩, ⟨some 7, .bin .mul (.c (.d (.int .i64 2))) (.t 6), none⟩, ⟨some 8, .bin .add (.t 7) (.c (.d (.int .i64 1))), none⟩, ⟨some 9, .mv (.t 0), none⟩, ⟨some 10, .len (.t 9), none⟩, ⟨some 11, .bin .lss (.t 8) (.t 10), none⟩] [6, 7, 8, 9, 10])
 (.cond (.t 11) .skip (.exit 0 [0])))
 (.block 1 (.seq (.ops [] [⟨some 12, .mv (.t 1), none⟩, ⟨some 13, .bin .mul (.c (.d (.int .i64 2))) (.t 12), none⟩, ⟨some 14, .bin .add (.t 13) (.c (.d (.int .i64 1))), none⟩, ⟨some 5, .mv (.t 14), none⟩] [11, 12, 13, 14])
 (.seq (.seq (.draw [] [⟨some 15, .mv (.t 5), none⟩, ⟨some 16, .bin .add (.t 15) (.c (.d (.int .i64 1))), none⟩, ⟨some 17, .mv (.t 0), none⟩, ⟨some 18, .len (.t 17), none⟩, ⟨some 19, .bin .lss (.t 16) (.t 18), none⟩, ⟨some 20, .mv (.t 19), none⟩, ⟨some 21, .mv (.t 0), some (20, true)⟩, ⟨some 22, .mv (.t 5), some (20, true)⟩, ⟨some 23, .bin .add (.t 22) (.c (.d (.int .i64 1))), some (20, true)⟩, ⟨some 24, .iad 2 (.t 21) (.t 23), some (20, true)⟩, ⟨some 25, .ld true 2 (.t 24), some (20, true)⟩, ⟨some 26, .mv (.t 0), some (20, true)⟩, ⟨some 27, .mv (.t 5), some (20, true)⟩, ⟨some 28, .iad 2 (.t 26) (.t 27), some (20, true)⟩, ⟨some 29, .ld true 2 (.t 28), some (20, true)⟩, ⟨some 30, .call N_ref05_before [] [.t 25, .t 29], some (20, true)⟩, ⟨some 31, .pick (.t 20) (.t 30) (.c (.d (.bool false))), none⟩] [[], [], [0, 1], [0, 1], [], [], [], [6], [6], [], [], [6, 7, 8, 9, 10], [6, 7, 8, 9, 10, 11], [6, 7, 8, 9, 10], [6, 7, 8, 9, 10], [], []] [15, 16, 17, 18, 19, 20, 21, 22, 23, 24, 25, 26, 27, 28, 29, 30])
 (.cond (.t 31) (.ops [] [⟨some 32, .mv (.t 5), none⟩, ⟨some 33, .bin .add (.t 32) (.c (.d (.int .i64 1))), none⟩, ⟨some 5, .mv (.t 33), none⟩] [31, 32, 33]) .skip))
 (.seq (.seq (.draw [] [⟨some 34, .mv (.t 0), none⟩, ⟨some 35, .mv (.t 5), none⟩, ⟨some 36, .iad 2 (.t 34) (.t 35), none⟩, ⟨some 37, .ld true 2 (.t 36), none⟩, ⟨some 38, .mv (.t 0), none⟩, ⟨some 39, .mv (.t 1), none⟩, ⟨some 40, .iad 2 (.t 38) (.t 39), none⟩, ⟨some 41, .ld true 2 (.t 40), none⟩, ⟨some 42, .call N_ref05_before [] [.t 37, .t 41], none⟩, ⟨some 43, .un .not (.t 42), none⟩] [[], [0], [], [], [0, 1, 2, 3], [0, 1, 2, 3, 4], [0, 1, 2, 3], [0, 1, 2, 3], [], []] [31, 34, 35, 36, 37, 38, 39, 40, 41, 42])
 (.cond (.t 43) (.seq (.ops [] [⟨some 44, .mv (.t 0), none⟩, ⟨some 4, .mv (.t 44), none⟩] [0, 1, 5, 43, 44])
 (.ret [4])) .skip))
 (.seq (.ops [] [⟨some 45, .mv (.t 0), none⟩, ⟨some 46, .mv (.t 1), none⟩, ⟨some 47, .mv (.t 5), none⟩, ⟨some 48, .call N_ref05_swap [] [.t 45, .t 46, .t 47], none⟩, ⟨some 0, .mv (.t 48), none⟩] [1, 43, 45, 46, 47, 48])
 (.ops [] [⟨some 49, .mv (.t 5), none⟩, ⟨some 1, .mv (.t 49), none⟩] [5, 49])))))))
def c_ref05_down : ACode :=
 (.seq (.ops [] [⟨some 4, .mv (.c (.xsl [])), none⟩] [4])
 (.seq (.block 0 (.loop [] l_ref05_down_0))
 (.seq (.ops [] [⟨some 50, .mv (.t 0), none⟩, ⟨some 4, .mv (.t 50), none⟩] [0, 1, 11, 50])
 (.ret [4]))))
def r_ref05_down : List ARes := [.t 4]
def fn_ref05_down : AFn := .code c_ref05_down r_ref05_down 51 true
/- shardqueue/shardqueueref05.SameInts -/
def l_ref05_SameInts_0 : ACode :=
 (.seq (.seq (.ops [] [⟨some 11, .mv (.t 5), none⟩, ⟨some 12, .mv (.t 0), none⟩, ⟨some 13, .len (.t 12), none⟩, ⟨some 14, .bin .lss (.t 11) (.t 13), none⟩] [11, 12, 13])
 (.cond (.t 14) .skip (.exit 0 [])))
 (.seq (.block 1 (.seq (.draw [] [⟨some 17, .mv (.t 0), none⟩, ⟨some 18, .mv (.t 5), none⟩, ⟨some 19, .iad 1 (.t 17) (.t 18), none⟩, ⟨some 20, .ld false 1 (.t 19), none⟩, ⟨some 21, .mv (.t 1), none⟩, ⟨some 22, .mv (.t 5), none⟩, ⟨some 23, .iad 1 (.t 21) (.t 22), none⟩, ⟨some 24, .ld false 1 (.t 23), none⟩, ⟨some 25, .bin .neq (.t 20) (.t 24), none⟩] [[], [0], [], [], [0, 1, 2, 3], [0, 1, 2, 3, 4], [0, 1, 2, 3], [0, 1, 2, 3], []] [14, 17, 18, 19, 20, 21, 22, 23, 24])
 (.cond (.t 25) (.seq (.ops [] [⟨some 4, .mv (.c (.d (.bool false))), none⟩] [0, 1, 5, 25])
 (.ret [4])) .skip)))
 (.ops [] [⟨some 15, .mv (.t 5), none⟩, ⟨some 16, .bin .add (.t 15) (.c (.d (.int .i64 1))), none⟩, ⟨some 5, .mv (.t 16), none⟩] [15, 16, 25])))
def c_ref05_SameInts : ACode :=
 (.seq (.ops [] [⟨some 4, .mv (.c (.d (.bool false))), none⟩] [4])
 (.seq (.seq (.ops [] [⟨some 6, .mv (.t 0), none⟩, ⟨some 7, .len (.t 6), none⟩, ⟨some 8, .mv (.t 1), none⟩, ⟨some 9, .len (.t 8), none⟩, ⟨some 10, .bin .neq (.t 7) (.t 9), none⟩] [6, 7, 8, 9])
 (.cond (.t 10) (.seq (.ops [] [⟨some 4, .mv (.c (.d (.bool false))), none⟩] [0, 1, 10])
 (.ret [4])) .skip))
 (.seq (.seq (.ops [] [⟨some 5, .mv (.c (.d (.int .i64 0))), none⟩] [10])
 (.block 0 (.loop [] l_ref05_SameInts_0)))
 (.seq (.ops [] [⟨some 4, .mv (.c (.d (.bool true))), none⟩] [0, 1, 5, 14])
 (.ret [4])))))
def r_ref05_SameInts : List ARes := [.t 4]
def fn_ref05_SameInts : AFn := .code c_ref05_SameInts r_ref05_SameInts 26 true
/- shardqueue/shardqueueref05.Same -/
def l_ref05_Same_0 : ACode :=
 (.seq (.seq (.ops [] [⟨some 11, .mv (.t 5), none⟩, ⟨some 12, .mv (.t 0), none⟩, ⟨some 13, .len (.t 12), none⟩, ⟨some 14, .bin .lss (.t 11) (.t 13), none⟩] [11, 12, 13])
 (.cond (.t 14) .skip (.exit 0 [])))
 (.seq (.block 1 (.seq (.draw [] [⟨some 17, .mv (.t 0), none⟩, ⟨some 18, .mv (.t 5), none⟩, ⟨some 19, .iad 2 (.t 17) (.t 18), none⟩, ⟨some 20, .ld true 2 (.t 19), none⟩, ⟨some 21, .mv (.t 1), none⟩, ⟨some 22, .mv (.t 5), none⟩, ⟨some 23, .iad 2 (.t 21) (.t 22), none⟩, ⟨some 24, .ld true 2 (.t 23), none⟩, ⟨some 25, .eqs true 2 [(0, 0), (1, 0)] (.t 20) (.t 24), none⟩] [[], [0], [], [], [0, 1, 2, 3], [0, 1, 2, 3, 4], [0, 1, 2, 3], [0, 1, 2, 3], []] [14, 17, 18, 19, 20, 21, 22, 23, 24])
 (.cond (.t 25) (.seq (.ops [] [⟨some 4, .mv (.c (.d (.bool false))), none⟩] [0, 1, 5, 25])
 (.ret [4])) .skip)))
 (.ops [] [⟨some 15, .mv (.t 5), none⟩, ⟨some 16, .bin .add (.t 15) (.c (.d (.int .i64 1))), none⟩, ⟨some 5, .mv (.t 16), none⟩] [15, 16, 25])))
def c_ref05_Same : ACode :=
 (.seq (.ops [] [⟨some 4, .mv (.c (.d (.bool false))), none⟩] [4])
 (.seq (.seq (.ops [] [⟨some 6, .mv (.t 0), none⟩, ⟨some 7, .len (.t 6), none⟩, ⟨some 8, .mv (.t 1), none⟩, ⟨some 9, .len (.t 8), none⟩, ⟨some 10, .bin .neq (.t 7) (.t 9), none⟩] [6, 7, 8, 9])
 (.cond (.t 10) (.seq (.ops [] [⟨some 4, .mv (.c (.d (.bool false))), none⟩] [0, 1, 10])
 (.ret [4])) .skip))
 (.seq (.seq (.ops [] [⟨some 5, .mv (.c (.d (.int .i64 0))), none⟩] [10])
 (.block 0 (.loop [] l_ref05_Same_0)))
 (.seq (.ops [] [⟨some 4, .mv (.c (.d (.bool true))), none⟩] [0, 1, 5, 14])
 (.ret [4])))))
def r_ref05_Same : List ARes := [.t 4]
def fn_ref05_Same : AFn := .code c_ref05_Same r_ref05_Same 26 true
/- shardqueue/due.Pop -/
def c_due_Pop : ACode :=
 (.seq (.ops [] [⟨some 2, .mv (.c (.xsl [])), none⟩, ⟨some 3, .alloc (.d (.agg [.int .i64 0, .int .i64 0])), none⟩, ⟨some 4, .mv (.c (.d (.int .i64 0))), none⟩] [2, 4])
 (.seq (.seq (.ops [] [⟨some 6, .mv (.t 0), none⟩, ⟨some 7, .call N_due_Validate [] [.t 6], none⟩, ⟨some 5, .mv (.t 7), none⟩] [6, 7])
 (.seq (.ops [] [⟨some 8, .mv (.t 5), none⟩, ⟨some 9, .bin .neq (.t 8) (.c (.d (.int .i64 0))), none⟩] [8])
 (.cond (.t 9) (.seq (.ops [] [⟨some 10, .build [.d (.int .i64 0), .d (.int .i64 0)] [], none⟩, ⟨some 11, .mv (.t 5), none⟩, ⟨some 2, .mv (.c (.xsl [])), none⟩, ⟨none, .st 2 (.t 3) (.t 10), none⟩, ⟨some 4, .mv (.t 11), none⟩] [0, 5, 9, 10, 11])
 (.ret [2, 3, 4])) .skip)))
 (.seq (.seq (.ops [] [⟨some 12, .mv (.t 0), none⟩, ⟨some 13, .len (.t 12), none⟩, ⟨some 14, .bin .eql (.t 13) (.c (.d (.int .i64 0))), none⟩] [5, 9, 12, 13])
 (.cond (.t 14) (.seq (.ops [] [⟨some 15, .build [.d (.int .i64 0), .d (.int .i64 0)] [], none⟩, ⟨some 2, .mv (.c (.xsl [])), none⟩, ⟨none, .st 2 (.t 3) (.t 15), none⟩, ⟨some 4, .mv (.c (.d (.int .i64 4))), none⟩] [0, 14, 15])
 (.ret [2, 3, 4])) .skip))
 (.seq (.draw [] [⟨some 16, .mv (.t 0), none⟩, ⟨some 17, .call N_due_drop [] [.t 16, .c (.d (.int .i64 0))], none⟩, ⟨some 18, .mv (.t 0), none⟩, ⟨some 19, .iad 2 (.t 18) (.c (.d (.int .i64 0))), none⟩, ⟨some 20, .ld true 2 (.t 19), none⟩, ⟨some 2, .mv (.t 17), none⟩, ⟨none, .st 2 (.t 3) (.t 20), none⟩, ⟨some 4, .mv (.c (.d (.int .i64 0))), none⟩] [[], [], [0, 1], [0, 1], [0, 1], [2, 3, 4], [], []] [0, 14, 16, 17, 18, 19, 20])
 (.ret [2, 3, 4])))))
def r_due_Pop : List ARes := [.t 2, .c 3 true 2, .t 4]
def fn_due_Pop : AFn := .code c_due_Pop r_due_Pop 21 true
/- shardqueue/due.drop -/
def c_due_drop : ACode :=
 (.seq (.ops [] [⟨some 4, .mv (.c (.xsl [])), none⟩] [4])
 (.seq (.ops [] [⟨some 7, .mv (.t 0), none⟩, ⟨some 8, .len (.t 7), none⟩, ⟨some 9, .bin .sub (.t 8) (.c (.d (.int .i64 1))), none⟩, ⟨some 5, .mv (.t 9), none⟩] [7, 8, 9])
 (.seq (.ops [] [⟨some 10, .mv (.t 0), none⟩, ⟨some 11, .mv (.t 5), none⟩, ⟨some 12, .slc 2 (.t 10) none (some (.t 11)) none, none⟩, ⟨some 13, .call N_slices_Clone_api_Due [] [.t 12], none⟩, ⟨some 6, .mv (.t 13), none⟩] [10, 11, 12, 13])
 (.seq (.seq (.ops [] [⟨some 14, .mv (.t 1), none⟩, ⟨some 15, .mv (.t 5), none⟩, ⟨some 16, .bin .eql (.t 14) (.t 15), none⟩] [14, 15])
 (.cond (.t 16) (.seq (.ops [] [⟨some 17, .mv (.t 6), none⟩, ⟨some 4, .mv (.t 17), none⟩] [0, 1, 5, 6, 16, 17])
 (.ret [4])) .skip))
 (.seq (.ops [26] [⟨some 18, .mv (.t 6), none⟩, ⟨some 19, .mv (.t 1), none⟩, ⟨some 20, .mv (.t 0), none⟩, ⟨some 21, .mv (.t 5), none⟩, ⟨some 22, .iad 2 (.t 20) (.t 21), none⟩, ⟨some 23, .ld true 2 (.t 22), none⟩, ⟨some 24, .iad 2 (.t 18) (.t 19), none⟩, ⟨none, .st 2 (.t 24) (.t 23), none⟩] [0, 5, 16, 18, 19, 20, 21, 22, 23, 24])
 (.seq (.seq (.ops [] [⟨some 25, .mv (.t 6), none⟩, ⟨some 26, .mv (.t 1), none⟩, ⟨some 27, .call N_due_up [true, false] [.t 25, .t 26], none⟩, ⟨some 28, .mv (.t 1), none⟩, ⟨some 29, .bin .eql (.t 27) (.t 28), none⟩] [25, 26, 27, 28])
 (.cond (.t 29) (.ops [] [⟨some 30, .mv (.t 6), none⟩, ⟨some 31, .mv (.t 1), none⟩, ⟨some 32, .call N_due_down [true, false] [.t 30, .t 31], none⟩] [1, 29, 30, 31, 32]) .skip))
 (.seq (.ops [] [⟨some 33, .mv (.t 6), none⟩, ⟨some 4, .mv (.t 33), none⟩] [1, 6, 29, 33])
 (.ret [4]))))))))
def r_due_drop : List ARes := [.t 4]
def fn_due_drop : AFn := .code c_due_drop r_due_drop 34 true
/- shardqueue/due.down -/
def l_due_down_0 : ACode :=
 (.block 1 (.seq (.ops [] [⟨some 5, .mv (.t 1), none⟩, ⟨some 6, .bin .mul (.c (.d (.int .i64 2))) (.t 5), none⟩, ⟨some 7, .bin .add (.t 6) (.c (.d (.int .i64 1))), none⟩, ⟨some 4, .mv (.t 7), none⟩] [5, 6, 7])
 (.seq (.seq (.ops [] [⟨some 8, .mv (.t 4), none⟩, ⟨some 9, .mv (.t 0), none⟩, ⟨some 10, .len (.t 9), none⟩, ⟨some 11, .bin .geq (.t 8) (.t 10), none⟩] [8, 9, 10])
 (.cond (.t 11) (.ret []) .skip))
 (.seq (.seq (.ops [] [⟨some 12, .mv (.t 4), none⟩, ⟨some 13, .bin .add (.t 12) (.c (.d (.int .i64 1))), none⟩, ⟨some 14, .mv (.t 0), none⟩, ⟨some 15, .len (.t 14), none⟩, ⟨some 16, .bin .lss (.t 13) (.t 15), none⟩, ⟨some 17, .mv (.t 16), none⟩, ⟨some 18, .mv (.t 0), some (17, true)⟩, ⟨some 19, .mv (.t 4), some (17, true)⟩, ⟨some 20, .bin .add (.t 19) (.c (.d (.int .i64 1))), some (17, true)⟩, ⟨some 21, .mv (.t 4), some (17, true)⟩, ⟨some 22, .call N_due_before [] [.t 18, .t 20, .t 21], some (17, true)⟩, ⟨some 23, .pick (.t 17) (.t 22) (.c (.d (.bool false))), none⟩] [11, 12, 13, 14, 15, 16, 17, 18, 19, 20, 21, 22])
 (.cond (.t 23) (.ops [] [⟨some 24, .mv (.t 4), none⟩, ⟨some 25, .bin .add (.t 24) (.c (.d (.int .i64 1))), none⟩, ⟨some 4, .mv (.t 25), none⟩] [23, 24, 25]) .skip))
 (.seq (.seq (.ops [] [⟨some 26, .mv (.t 0), none⟩, ⟨some 27, .mv (.t 4), none⟩, ⟨some 28, .mv (.t 1), none⟩, ⟨some 29, .call N_due_before [] [.t 26, .t 27, .t 28], none⟩, ⟨some 30, .un .not (.t 29), none⟩] [23, 26, 27, 28, 29])
 (.cond (.t 30) (.ret []) .skip))
 (.seq (.draw [] [⟨some 31, .mv (.t 0), none⟩, ⟨some 32, .mv (.t 1), none⟩, ⟨some 33, .mv (.t 0), none⟩, ⟨some 34, .mv (.t 4), none⟩, ⟨some 35, .mv (.t 0), none⟩, ⟨some 36, .mv (.t 4), none⟩, ⟨some 37, .iad 2 (.t 35) (.t 36), none⟩, ⟨some 38, .ld true 2 (.t 37), none⟩, ⟨some 39, .mv (.t 0), none⟩, ⟨some 40, .mv (.t 1), none⟩, ⟨some 41, .iad 2 (.t 39) (.t 40), none⟩, ⟨some 42, .ld true 2 (.t 41), none⟩, ⟨some 43, .iad 2 (.t 31) (.t 32), none⟩, ⟨none, .st 2 (.t 43) (.t 38), none⟩, ⟨some 44, .iad 2 (.t 33) (.t 34), none⟩, ⟨none, .st 2 (.t 44) (.t 42), none⟩] [[], [0], [0, 1], [0, 1, 2], [0, 1, 2, 3], [0, 1, 2, 3, 4], [0, 1, 2, 3], [0, 1, 2, 3], [0, 1, 2, 3, 4, 5, 6, 7], [0, 1, 2, 3, 4, 5, 6, 7, 8], [0, 1, 2, 3, 4, 5, 6, 7], [0, 1, 2, 3, 4, 5, 6, 7], [2, 3], [2, 3], [], []] [1, 30, 31, 32, 33, 34, 35, 36, 37, 38, 39, 40, 41, 42, 43, 44])
 (.ops [] [⟨some 45, .mv (.t 4), none⟩, ⟨some 1, .mv (.t 45), none⟩] [4, 45])))))))
def c_due_down : ACode :=
 (.block 0 (.loop [] l_due_down_0))
def r_due_down : List ARes := []
def fn_due_down : AFn := .code c_due_down r_due_down 46 true
/- shardqueue/shardqueueref05.Pop -/
def c_ref05_Pop : ACode :=
 (.seq (.ops [] [⟨some 2, .mv (.c (.xsl [])), none⟩, ⟨some 3, .alloc (.d (.agg [.int .i64 0, .int .i64 0])), none⟩, ⟨some 4, .mv (.c (.d (.int .i64 0))), none⟩] [2, 4])
 (.seq (.seq (.ops [] [⟨some 6, .mv (.t 0), none⟩, ⟨some 7, .call N_ref05_Validate [] [.t 6], none⟩, ⟨some 5, .mv (.t 7), none⟩] [6, 7])
 (.seq (.ops [] [⟨some 8, .mv (.t 5), none⟩, ⟨some 9, .bin .neq (.t 8) (.c (.d (.int .i64 0))), none⟩] [8])
 (.cond (.t 9) (.seq (.ops [] [⟨some 10, .build [.d (.int .i64 0), .d (.int .i64 0)] [], none⟩, ⟨some 11, .mv (.t 5), none⟩, ⟨some 2, .mv (.c (.xsl [])), none⟩, ⟨none, .st 2 (.t 3) (.t 10), none⟩, ⟨some 4, .mv (.t 11), none⟩] [0, 5, 9, 10, 11])
 (.ret [2, 3, 4])) .skip)))
 (.seq (.seq (.ops [] [⟨some 12, .mv (.t 0), none⟩, ⟨some 13, .len (.t 12), none⟩, ⟨some 14, .bin .eql (.t 13) (.c (.d (.int .i64 0))), none⟩] [5, 9, 12, 13])
 (.cond (.t 14) (.seq (.ops [] [⟨some 15, .build [.d (.int .i64 0), .d (.int .i64 0)] [], none⟩, ⟨some 2, .mv (.c (.xsl [])), none⟩, ⟨none, .st 2 (.t 3) (.t 15), none⟩, ⟨some 4, .mv (.c (.d (.int .i64 4))), none⟩] [0, 14, 15])
 (.ret [2, 3, 4])) .skip))
 (.seq (.draw [] [⟨some 16, .mv (.t 0), none⟩, ⟨some 17, .call N_ref05_cut [] [.t 16, .c (.d (.int .i64 0))], none⟩, ⟨some 18, .mv (.t 0), none⟩, ⟨some 19, .iad 2 (.t 18) (.c (.d (.int .i64 0))), none⟩, ⟨some 20, .ld true 2 (.t 19), none⟩, ⟨some 2, .mv (.t 17), none⟩, ⟨none, .st 2 (.t 3) (.t 20), none⟩, ⟨some 4, .mv (.c (.d (.int .i64 0))), none⟩] [[], [], [0, 1], [0, 1], [0, 1], [2, 3, 4], [], []] [0, 14, 16, 17, 18, 19, 20])
 (.ret [2, 3, 4])))))
def r_ref05_Pop : List ARes := [.t 2, .c 3 true 2, .t 4]
def fn_ref05_Pop : AFn := .code c_ref05_Pop r_ref05_Pop 21 true
/- shardqueue/due.Remove -/
def c_due_Remove : ACode :=
 (.seq (.ops [] [⟨some 4, .mv (.c (.xsl [])), none⟩, ⟨some 5, .mv (.c (.d (.int .i64 0))), none⟩] [4, 5])
 (.seq (.seq (.ops [] [⟨some 8, .mv (.t 0), none⟩, ⟨some 9, .call N_due_Validate [] [.t 8], none⟩, ⟨some 6, .mv (.t 9), none⟩] [8, 9])
 (.seq (.ops [] [⟨some 10, .mv (.t 6), none⟩, ⟨some 11, .bin .neq (.t 10) (.c (.d (.int .i64 0))), none⟩] [10])
 (.cond (.t 11) (.seq (.ops [] [⟨some 12, .mv (.t 6), none⟩, ⟨some 4, .mv (.c (.xsl [])), none⟩, ⟨some 5, .mv (.t 12), none⟩] [0, 1, 6, 11, 12])
 (.ret [4, 5])) .skip)))
 (.seq (.ops [] [⟨some 13, .mv (.t 0), none⟩, ⟨some 14, .mv (.t 1), none⟩, ⟨some 15, .call N_due_find [] [.t 13, .t 14], none⟩, ⟨some 7, .mv (.t 15), none⟩] [1, 6, 11, 13, 14, 15])
 (.seq (.seq (.ops [] [⟨some 16, .mv (.t 7), none⟩, ⟨some 17, .bin .lss (.t 16) (.c (.d (.int .i64 0))), none⟩] [16])
 (.cond (.t 17) (.seq (.ops [] [⟨some 4, .mv (.c (.xsl [])), none⟩, ⟨some 5, .mv (.c (.d (.int .i64 4))), none⟩] [0, 7, 17])
 (.ret [4, 5])) .skip))
 (.seq (.ops [] [⟨some 18, .mv (.t 0), none⟩, ⟨some 19, .mv (.t 7), none⟩, ⟨some 20, .call N_due_drop [] [.t 18, .t 19], none⟩, ⟨some 4, .mv (.t 20), none⟩, ⟨some 5, .mv (.c (.d (.int .i64 0))), none⟩] [0, 7, 17, 18, 19, 20])
 (.ret [4, 5]))))))
def r_due_Remove : List ARes := [.t 4, .t 5]
def fn_due_Remove : AFn := .code c_due_Remove r_due_Remove 21 true
/- shardqueue/shardqueueref05.Remove -/
def c_ref05_Remove : ACode :=
 (.seq (.ops [] [⟨some 4, .mv (.c (.xsl [])), none⟩, ⟨some 5, .mv (.c (.d (.int .i64 0))), none⟩] [4, 5])
 (.seq (.seq (.ops [] [⟨some 8, .mv (.t 0), none⟩, ⟨some 9, .call N_ref05_Validate [] [.t 8], none⟩, ⟨some 6, .mv (.t 9), none⟩] [8, 9])
 (.seq (.ops [] [⟨some 10, .mv (.t 6), none⟩, ⟨some 11, .bin .neq (.t 10) (.c (.d (.int .i64 0))), none⟩] [10])
 (.cond (.t 11) (.seq (.ops [] [⟨some 12, .mv (.t 6), none⟩, ⟨some 4, .mv (.c (.xsl [])), none⟩, ⟨some 5, .mv (.t 12), none⟩] [0, 1, 6, 11, 12])
 (.ret [4, 5])) .skip)))
 (.seq (.ops [] [⟨some 13, .mv (.t 0), none⟩, ⟨some 14, .mv (.t 1), none⟩, ⟨some 15, .call N_ref05_index [] [.t 13, .t 14], none⟩, ⟨some 7, .mv (.t 15), none⟩] [1, 6, 11, 13, 14, 15])
 (.seq (.seq (.ops [] [⟨some 16, .mv (.t 7), none⟩, ⟨some 17, .bin .lss (.t 16) (.c (.d (.int .i64 0))), none⟩] [16])
 (.cond (.t 17) (.seq (.ops [] [⟨some 4, .mv (.c (.xsl [])), none⟩, ⟨some 5, .mv (.c (.d (.int .i64 4))), none⟩] [0, 7, 17])
 (.ret [4, 5])) .skip))
 (.seq (.ops [] [⟨some 18, .mv (.t 0), none⟩, ⟨some 19, .mv (.t 7), none⟩, ⟨some 20, .call N_ref05_cut [] [.t 18, .t 19], none⟩, ⟨some 4, .mv (.t 20), none⟩, ⟨some 5, .mv (.c (.d (.int .i64 0))), none⟩] [0, 7, 17, 18, 19, 20])
 (.ret [4, 5]))))))
def r_ref05_Remove : List ARes := [.t 4, .t 5]
def fn_ref05_Remove : AFn := .code c_ref05_Remove r_ref05_Remove 21 true
/- shardqueue/shardqueuelaw05.DueBuilt -/
def l_law05_DueBuilt_0 : ACode :=
 (.seq (.seq (.ops [] [⟨some 10, .mv (.t 5), none⟩, ⟨some 11, .bin .lss (.t 10) (.c (.d (.int .i64 4))), none⟩] [10])
 (.cond (.t 11) .skip (.exit 0 [3, 4])))
 (.seq (.block 1 (.seq (.ops [] [⟨some 14, .mv (.t 4), none⟩, ⟨some 15, .mv (.t 3), none⟩, ⟨some 16, .call N_base_Src_Range [true, false, false] [.t 15, .c (.d (.int .i64 (-1))), .c (.d (.int .i64 12))], none⟩, ⟨some 17, .mv (.t 3), none⟩, ⟨some 18, .call N_base_Src_Range [true, false, false] [.t 17, .c (.d (.int .i64 0)), .c (.d (.int .i64 25))], none⟩, ⟨some 19, .build [.d (.int .i64 0), .d (.int .i64 0)] [(0, (1, .t 16)), (1, (1, .t 18))], none⟩, ⟨some 20, .mv (.t 3), none⟩, ⟨some 21, .call N_base_Src_Range [true, false, false] [.t 20, .c (.d (.int .i64 0)), .c (.d (.int .i64 22))], none⟩, ⟨some 22, .mv (.t 3), none⟩, ⟨some 23, .call N_base_Src_Range [true, false, false] [.t 22, .c (.d (.int .i64 (-1))), .c (.d (.int .i64 13))], none⟩, ⟨some 24, .call N_law05_agrees [] [.t 14, .t 19, .t 21, .t 23], none⟩, ⟨some 25, .un .not (.t 24), none⟩] [11, 14, 15, 16, 17, 18, 19, 20, 21, 22, 23, 24])
 (.cond (.t 25) (.seq (.ops [] [⟨some 2, .mv (.c (.d (.bool false))), none⟩] [3, 4, 5, 25])
 (.ret [2])) .skip)))
 (.ops [] [⟨some 12, .mv (.t 5), none⟩, ⟨some 13, .bin .add (.t 12) (.c (.d (.int .i64 1))), none⟩, ⟨some 5, .mv (.t 13), none⟩] [12, 13, 25])))
def c_law05_DueBuilt : ACode :=
 (.seq (.ops [] [⟨some 2, .mv (.c (.d (.bool false))), none⟩] [2])
 (.seq (.ops [] [⟨some 6, .mv (.t 0), none⟩, ⟨some 7, .call N_base_New [] [.t 6], none⟩, ⟨some 3, .mv (.t 7), none⟩] [0, 6, 7])
 (.seq (.ops [] [⟨some 8, .mv (.t 3), none⟩, ⟨some 9, .call N_base_Src_Heap [true] [.t 8], none⟩, ⟨some 4, .mv (.t 9), none⟩] [8, 9])
 (.seq (.seq (.ops [] [⟨some 5, .mv (.c (.d (.int .i64 0))), none⟩] [])
 (.block 0 (.loop [] l_law05_DueBuilt_0)))
 (.seq (.seq (.ops [] [⟨some 26, .mv (.t 4), none⟩, ⟨some 27, .len (.t 26), none⟩, ⟨some 28, .bin .gtr (.t 27) (.c (.d (.int .i64 0))), none⟩] [5, 11, 26, 27])
 (.cond (.t 28) (.seq (.ops [] [⟨some 29, .mv (.t 4), none⟩, ⟨some 30, .app 2 (.c (.xsl [])) (.t 29), none⟩, ⟨some 4, .mv (.t 30), none⟩] [28, 29, 30])
 (.ops [60] [⟨some 31, .mv (.t 4), none⟩, ⟨some 32, .mv (.t 3), none⟩, ⟨some 33, .mv (.t 4), none⟩, ⟨some 34, .len (.t 33), none⟩, ⟨some 35, .call N_base_Src_N [true, false] [.t 32, .t 34], none⟩, ⟨some 36, .mv (.t 3), none⟩, ⟨some 37, .call N_base_Src_Range [true, false, false] [.t 36, .c (.d (.int .i64 0)), .c (.d (.int .i64 12))], none⟩, ⟨some 38, .mv (.t 3), none⟩, ⟨some 39, .call N_base_Src_Range [true, false, false] [.t 38, .c (.d (.int .i64 1)), .c (.d (.int .i64 20))], none⟩, ⟨some 40, .build [.d (.int .i64 0), .d (.int .i64 0)] [(0, (1, .t 37)), (1, (1, .t 39))], none⟩, ⟨some 41, .iad 2 (.t 31) (.t 35), none⟩, ⟨none, .st 2 (.t 41) (.t 40), none⟩] [31, 32, 33, 34, 35, 36, 37, 38, 39, 40, 41])) .skip))
 (.seq (.ops [] [⟨some 42, .mv (.t 4), none⟩, ⟨some 43, .build [.d (.int .i64 0), .d (.int .i64 0)] [(0, (1, .c (.d (.int .i64 4)))), (1, (1, .c (.d (.int .i64 30))))], none⟩, ⟨some 44, .mv (.t 3), none⟩, ⟨some 45, .call N_base_Src_Range [true, false, false] [.t 44, .c (.d (.int .i64 1)), .c (.d (.int .i64 20))], none⟩, ⟨some 46, .call N_law05_agrees [] [.t 42, .t 43, .t 45, .c (.d (.int .i64 6))], none⟩, ⟨some 47, .mv (.t 46), none⟩, ⟨some 48, .call N_law05_awake [] [], some (47, true)⟩, ⟨some 49, .pick (.t 47) (.t 48) (.c (.d (.bool false))), none⟩, ⟨some 2, .mv (.t 49), none⟩] [3, 4, 28, 42, 43, 44, 45, 46, 47, 48, 49])
 (.ret [2])))))))
def r_law05_DueBuilt : List ARes := [.t 2]
def fn_law05_DueBuilt : AFn := .code c_law05_DueBuilt r_law05_DueBuilt 50 true
end Go.Proofs.Ytlphhhmicdjljab
