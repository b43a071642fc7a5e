/-
  Functions of the program, as the calculus has them.
-/
import Derived.Test.YtlphhhmicdjljaaPN
namespace Go.Proofs.Ytlphhhmicdjljaa
set_option linter.unusedSimpArgs false
set_option linter.unusedVariables false
open Go Go.Sim
/- cmp.isNaN[int] -/
def c_cmp_isNaN_int : ACode :=
 (.seq (.ops [] [⟨some 2, .mv (.c (.d (.bool false))), none⟩] [2])
 (.seq (.ops [] [⟨some 3, .mv (.t 0), none⟩, ⟨some 4, .mv (.t 0), none⟩, ⟨some 5, .bin .neq (.t 3) (.t 4), none⟩, ⟨some 2, .mv (.t 5), none⟩] [0, 3, 4, 5])
 (.ret [2])))
def r_cmp_isNaN_int : List ARes := [.t 2]
def fn_cmp_isNaN_int : AFn := .code c_cmp_isNaN_int r_cmp_isNaN_int 6 true
/- cmp.Compare[int] -/
def c_cmp_Compare_int : ACode :=
 (.seq (.ops [] [⟨some 4, .mv (.c (.d (.int .i64 0))), none⟩] [4])
 (.seq (.ops [] [⟨some 7, .mv (.t 0), none⟩, ⟨some 8, .call N_cmp_isNaN_int [] [.t 7], none⟩, ⟨some 5, .mv (.t 8), none⟩] [7, 8])
 (.seq (.ops [] [⟨some 9, .mv (.t 1), none⟩, ⟨some 10, .call N_cmp_isNaN_int [] [.t 9], none⟩, ⟨some 6, .mv (.t 10), none⟩] [9, 10])
 (.seq (.seq (.ops [] [⟨some 11, .mv (.t 5), none⟩] [5])
 (.cond (.t 11) (.seq (.seq (.ops [] [⟨some 12, .mv (.t 6), none⟩] [0, 1, 6, 11])
 (.cond (.t 12) (.seq (.ops [] [⟨some 4, .mv (.c (.d (.int .i64 0))), none⟩] [12])
 (.ret [4])) .skip))
 (.seq (.ops [] [⟨some 4, .mv (.c (.d (.int .i64 (-1)))), none⟩] [12])
 (.ret [4]))) .skip))
 (.seq (.seq (.ops [] [⟨some 13, .mv (.t 6), none⟩] [6, 11])
 (.cond (.t 13) (.seq (.ops [] [⟨some 4, .mv (.c (.d (.int .i64 1))), none⟩] [0, 1, 13])
 (.ret [4])) .skip))
 (.seq (.seq (.ops [] [⟨some 14, .mv (.t 0), none⟩, ⟨some 15, .mv (.t 1), none⟩, ⟨some 16, .bin .lss (.t 14) (.t 15), none⟩] [13, 14, 15])
 (.cond (.t 16) (.seq (.ops [] [⟨some 4, .mv (.c (.d (.int .i64 (-1)))), none⟩] [0, 1, 16])
 (.ret [4])) .skip))
 (.seq (.seq (.ops [] [⟨some 17, .mv (.t 0), none⟩, ⟨some 18, .mv (.t 1), none⟩, ⟨some 19, .bin .gtr (.t 17) (.t 18), none⟩] [0, 1, 16, 17, 18])
 (.cond (.t 19) (.seq (.ops [] [⟨some 4, .mv (.c (.d (.int .i64 1))), none⟩] [19])
 (.ret [4])) .skip))
 (.seq (.ops [] [⟨some 4, .mv (.c (.d (.int .i64 0))), none⟩] [19])
 (.ret [4])))))))))
def r_cmp_Compare_int : List ARes := [.t 4]
def fn_cmp_Compare_int : AFn := .code c_cmp_Compare_int r_cmp_Compare_int 20 true
/- cmp.Or[int] -/
def l_cmp_Or_int_0 : ACode :=
 (.seq (.ops [] [⟨some 9, .bin .lss (.t 8) (.t 7), none⟩] [])
 (.seq (.cond (.t 9) .skip (.exit 0 [3]))
 (.seq (.block 1 (.seq (.ops [] [⟨some 10, .iad 1 (.t 6) (.t 8), none⟩, ⟨some 11, .ld false 1 (.t 10), none⟩, ⟨some 5, .mv (.t 11), none⟩] [9, 10, 11])
 (.seq (.ops [] [⟨some 12, .mv (.t 5), none⟩, ⟨some 13, .mv (.t 3), none⟩, ⟨some 14, .bin .neq (.t 12) (.t 13), none⟩] [12, 13])
 (.cond (.t 14) (.seq (.ops [] [⟨some 15, .mv (.t 5), none⟩, ⟨some 2, .mv (.t 15), none⟩] [3, 5, 6, 7, 8, 14, 15])
 (.ret [2])) .skip))))
 (.ops [] [⟨some 16, .bin .add (.t 8) (.c (.d (.int .i64 1))), none⟩, ⟨some 8, .mv (.t 16), none⟩] [5, 14, 16]))))
def c_cmp_Or_int : ACode :=
 (.seq (.ops [] [⟨some 2, .mv (.c (.d (.int .i64 0))), none⟩] [2])
 (.seq (.ops [] [⟨some 3, .mv (.c (.d (.int .i64 0))), none⟩] [])
 (.seq (.seq (.ops [] [⟨some 6, .mv (.t 0), none⟩, ⟨some 7, .len (.t 6), none⟩, ⟨some 8, .mv (.c (.d (.int .i64 0))), none⟩] [0])
 (.block 0 (.loop [] l_cmp_Or_int_0)))
 (.seq (.ops [] [⟨some 17, .mv (.t 3), none⟩, ⟨some 2, .mv (.t 17), none⟩] [3, 6, 7, 8, 9, 17])
 (.ret [2])))))
def r_cmp_Or_int : List ARes := [.t 2]
def fn_cmp_Or_int : AFn := .code c_cmp_Or_int r_cmp_Or_int 18 true
/- shardqueue/due.compare -/
def c_due_compare : ACode :=
 (.seq (.ops [] [⟨some 2, .box (.t 0), none⟩, ⟨some 3, .box (.t 1), none⟩, ⟨some 4, .mv (.c (.d (.int .i64 0))), none⟩] [0, 1, 4])
 (.seq (.draw [] [⟨some 5, .fad false 0 1 (.t 2), none⟩, ⟨some 6, .ld false 1 (.t 5), none⟩, ⟨some 7, .fad false 0 1 (.t 3), none⟩, ⟨some 8, .ld false 1 (.t 7), none⟩, ⟨some 9, .call N_cmp_Compare_int [] [.t 6, .t 8], none⟩, ⟨some 10, .fad false 1 1 (.t 2), none⟩, ⟨some 11, .ld false 1 (.t 10), none⟩, ⟨some 12, .fad false 1 1 (.t 3), none⟩, ⟨some 13, .ld false 1 (.t 12), none⟩, ⟨some 14, .call N_cmp_Compare_int [] [.t 11, .t 13], none⟩, ⟨some 15, .bsl 2 1 (.d (.int .i64 0)) [(0, .t 9), (1, .t 14)], none⟩, ⟨some 16, .call N_cmp_Or_int [] [.t 15], none⟩, ⟨some 4, .mv (.t 16), none⟩] [[], [], [0, 1], [0, 1], [], [0, 1, 2, 3, 4], [0, 1, 2, 3, 4], [0, 1, 2, 3, 4, 5, 6], [0, 1, 2, 3, 4, 5, 6], [], [], [], []] [2, 3, 5, 6, 7, 8, 9, 10, 11, 12, 13, 14, 15, 16])
 (.ret [4])))
def r_due_compare : List ARes := [.t 4]
def fn_due_compare : AFn := .code c_due_compare r_due_compare 17 true
/- shardqueue/due.before -/
def c_due_before : ACode :=
 (.seq (.ops [] [⟨some 6, .mv (.c (.d (.bool false))), none⟩] [6])
 (.seq (.draw [] [⟨some 7, .mv (.t 0), none⟩, ⟨some 8, .mv (.t 1), none⟩, ⟨some 9, .iad 2 (.t 7) (.t 8), none⟩, ⟨some 10, .ld true 2 (.t 9), none⟩, ⟨some 11, .mv (.t 0), none⟩, ⟨some 12, .mv (.t 2), none⟩, ⟨some 13, .iad 2 (.t 11) (.t 12), none⟩, ⟨some 14, .ld true 2 (.t 13), none⟩, ⟨some 15, .call N_due_compare [] [.t 10, .t 14], none⟩, ⟨some 16, .bin .lss (.t 15) (.c (.d (.int .i64 0))), none⟩, ⟨some 6, .mv (.t 16), none⟩] [[], [0], [], [], [0, 1, 2, 3], [0, 1, 2, 3, 4], [0, 1, 2, 3], [0, 1, 2, 3], [], [], []] [0, 1, 2, 7, 8, 9, 10, 11, 12, 13, 14, 15, 16])
 (.ret [6])))
def r_due_before : List ARes := [.t 6]
def fn_due_before : AFn := .code c_due_before r_due_before 17 true
/- shardqueue/due.valid -/
def c_due_valid : ACode :=
 (.seq (.ops [] [⟨some 1, .box (.t 0), none⟩, ⟨some 2, .mv (.c (.d (.bool false))), none⟩] [0, 2])
 (.seq (.ops [] [⟨some 3, .fad false 0 1 (.t 1), none⟩, ⟨some 4, .ld false 1 (.t 3), none⟩, ⟨some 5, .bin .geq (.t 4) (.c (.d (.int .i64 0))), none⟩, ⟨some 6, .mv (.t 5), none⟩, ⟨some 7, .fad false 0 1 (.t 1), some (6, true)⟩, ⟨some 8, .ld false 1 (.t 7), some (6, true)⟩, ⟨some 9, .bin .leq (.t 8) (.c (.d (.int .i64 1073741824))), some (6, true)⟩, ⟨some 10, .pick (.t 6) (.t 9) (.c (.d (.bool false))), none⟩, ⟨some 11, .mv (.t 10), none⟩, ⟨some 12, .fad false 1 1 (.t 1), some (11, true)⟩, ⟨some 13, .ld false 1 (.t 12), some (11, true)⟩, ⟨some 14, .bin .geq (.t 13) (.c (.d (.int .i64 1))), some (11, true)⟩, ⟨some 15, .pick (.t 11) (.t 14) (.c (.d (.bool false))), none⟩, ⟨some 16, .mv (.t 15), none⟩, ⟨some 17, .fad false 1 1 (.t 1), some (16, true)⟩, ⟨some 18, .ld false 1 (.t 17), some (16, true)⟩, ⟨some 19, .bin .leq (.t 18) (.c (.d (.int .i64 1073741824))), some (16, true)⟩, ⟨some 20, .pick (.t 16) (.t 19) (.c (.d (.bool false))), none⟩, ⟨some 2, .mv (.t 20), none⟩] [1, 3, 4, 5, 6, 7, 8, 9, 10, 11, 12, 13, 14, 15, 16, 17, 18, 19, 20])
 (.ret [2])))
def r_due_valid : List ARes := [.t 2]
def fn_due_valid : AFn := .code c_due_valid r_due_valid 21 true
/- shardqueue/due.find$1 -/
def c_due_find_1 : ACode :=
 (.seq (.ops [] [⟨some 2, .box (.t 0), none⟩, ⟨some 3, .mv (.c (.d (.bool false))), none⟩] [0, 3])
 (.seq (.ops [] [⟨some 4, .fad false 1 1 (.t 2), none⟩, ⟨some 5, .ld false 1 (.t 4), none⟩, ⟨some 6, .ld false 1 (.t 1), none⟩, ⟨some 7, .bin .eql (.t 5) (.t 6), none⟩, ⟨some 3, .mv (.t 7), none⟩] [1, 2, 4, 5, 6, 7])
 (.ret [3])))
def r_due_find_1 : List ARes := [.t 3]
def fn_due_find_1 : AFn := .code c_due_find_1 r_due_find_1 8 true
/- slices.IndexFunc[[]shardqueue/api.Due,shardqueue/api.Due] -/
def l_slices_IndexFunc_api_Due_0 : ACode :=
 (.seq (.ops [] [⟨some 9, .bin .lss (.t 8) (.t 7), none⟩] [])
 (.seq (.cond (.t 9) .skip (.exit 0 []))
 (.seq (.block 1 (.seq (.ops [] [⟨some 10, .mv (.t 8), none⟩, ⟨some 5, .mv (.t 10), none⟩] [9, 10])
 (.seq (.ops [] [⟨some 11, .mv (.t 1), none⟩, ⟨some 12, .mv (.t 0), none⟩, ⟨some 13, .mv (.t 5), none⟩, ⟨some 14, .iad 2 (.t 12) (.t 13), none⟩, ⟨some 15, .ld true 2 (.t 14), none⟩, ⟨some 16, .callv (.t 11) [] [.t 15], none⟩] [11, 12, 13, 14, 15])
 (.cond (.t 16) (.seq (.ops [] [⟨some 17, .mv (.t 5), none⟩, ⟨some 4, .mv (.t 17), none⟩] [0, 1, 5, 7, 8, 16, 17])
 (.ret [4])) .skip))))
 (.ops [] [⟨some 18, .bin .add (.t 8) (.c (.d (.int .i64 1))), none⟩, ⟨some 8, .mv (.t 18), none⟩] [5, 16, 18]))))
def c_slices_IndexFunc_api_Due : ACode :=
 (.seq (.ops [] [⟨some 4, .mv (.c (.d (.int .i64 0))), none⟩] [4])
 (.seq (.seq (.ops [] [⟨some 6, .mv (.t 0), none⟩, ⟨some 7, .len (.t 6), none⟩, ⟨some 8, .mv (.c (.d (.int .i64 0))), none⟩] [6])
 (.block 0 (.loop [] l_slices_IndexFunc_api_Due_0)))
 (.seq (.ops [] [⟨some 4, .mv (.c (.d (.int .i64 (-1)))), none⟩] [0, 1, 7, 8, 9])
 (.ret [4]))))
def r_slices_IndexFunc_api_Due : List ARes := [.t 4]
def fn_slices_IndexFunc_api_Due : AFn := .code c_slices_IndexFunc_api_Due r_slices_IndexFunc_api_Due 19 true
/- shardqueue/due.find -/
def c_due_find : ACode :=
 (.seq (.ops [] [⟨some 3, .box (.t 1), none⟩, ⟨some 4, .mv (.c (.d (.int .i64 0))), none⟩] [1, 4])
 (.seq (.ops [] [⟨some 5, .mv (.t 0), none⟩, ⟨some 6, .mkfn N_due_find_1 [.t 3], none⟩, ⟨some 7, .call N_slices_IndexFunc_api_Due [] [.t 5, .t 6], none⟩, ⟨some 4, .mv (.t 7), none⟩] [0, 3, 5, 6, 7])
 (.ret [4])))
def r_due_find : List ARes := [.t 4]
def fn_due_find : AFn := .code c_due_find r_due_find 8 true
/- shardqueue/due.Validate$1 -/
def c_due_Validate_1 : ACode :=
 (.seq (.ops [] [⟨some 1, .box (.t 0), none⟩, ⟨some 2, .mv (.c (.d (.bool false))), none⟩] [0, 2])
 (.seq (.ops [] [⟨some 3, .ld true 2 (.t 1), none⟩, ⟨some 4, .call N_due_valid [] [.t 3], none⟩, ⟨some 5, .un .not (.t 4), none⟩, ⟨some 2, .mv (.t 5), none⟩] [1, 3, 4, 5])
 (.ret [2])))
def r_due_Validate_1 : List ARes := [.t 2]
def fn_due_Validate_1 : AFn := .code c_due_Validate_1 r_due_Validate_1 6 true
/- slices.ContainsFunc[[]shardqueue/api.Due,shardqueue/api.Due] -/
def c_slices_ContainsFunc_api_Due : ACode :=
 (.seq (.ops [] [⟨some 4, .mv (.c (.d (.bool false))), none⟩] [4])
 (.seq (.ops [] [⟨some 5, .mv (.t 0), none⟩, ⟨some 6, .mv (.t 1), none⟩, ⟨some 7, .call N_slices_IndexFunc_api_Due [] [.t 5, .t 6], none⟩, ⟨some 8, .bin .geq (.t 7) (.c (.d (.int .i64 0))), none⟩, ⟨some 4, .mv (.t 8), none⟩] [0, 1, 5, 6, 7, 8])
 (.ret [4])))
def r_slices_ContainsFunc_api_Due : List ARes := [.t 4]
def fn_slices_ContainsFunc_api_Due : AFn := .code c_slices_ContainsFunc_api_Due r_slices_ContainsFunc_api_Due 9 true
/- shardqueue/due.Validate -/
def l_due_Validate_0 : ACode :=
 (.seq (.ops [] [⟨some 14, .bin .lss (.t 13) (.t 12), none⟩] [])
 (.seq (.cond (.t 14) .skip (.exit 0 [0]))
 (.seq (.block 1 (.seq (.ops [] [⟨some 15, .mv (.t 13), none⟩, ⟨some 16, .iad 2 (.t 11) (.t 13), none⟩, ⟨some 17, .ld true 2 (.t 16), none⟩, ⟨some 4, .alloc (.d (.agg [.int .i64 0, .int .i64 0])), none⟩, ⟨some 3, .mv (.t 15), none⟩, ⟨none, .st 2 (.t 4) (.t 17), none⟩] [14, 15, 16, 17])
 (.seq (.ops [] [⟨some 18, .mv (.t 0), none⟩, ⟨some 19, .fad false 1 1 (.t 4), none⟩, ⟨some 20, .ld false 1 (.t 19), none⟩, ⟨some 21, .call N_due_find [] [.t 18, .t 20], none⟩, ⟨some 22, .mv (.t 3), none⟩, ⟨some 23, .bin .neq (.t 21) (.t 22), none⟩] [3, 4, 18, 19, 20, 21, 22])
 (.cond (.t 23) (.seq (.ops [] [⟨some 2, .mv (.c (.d (.int .i64 10))), none⟩] [0, 11, 12, 13, 23])
 (.ret [2])) .skip))))
 (.ops [] [⟨some 24, .bin .add (.t 13) (.c (.d (.int .i64 1))), none⟩, ⟨some 13, .mv (.t 24), none⟩] [23, 24]))))
def l_due_Validate_1 : ACode :=
 (.seq (.seq (.ops [] [⟨some 25, .mv (.t 5), none⟩, ⟨some 26, .mv (.t 0), none⟩, ⟨some 27, .len (.t 26), none⟩, ⟨some 28, .bin .lss (.t 25) (.t 27), none⟩] [25, 26, 27])
 (.cond (.t 28) .skip (.exit 2 [])))
 (.seq (.block 3 (.seq (.ops [] [⟨some 31, .mv (.t 0), none⟩, ⟨some 32, .mv (.t 5), none⟩, ⟨some 33, .mv (.t 5), none⟩, ⟨some 34, .bin .sub (.t 33) (.c (.d (.int .i64 1))), none⟩, ⟨some 35, .bin .quo (.t 34) (.c (.d (.int .i64 2))), none⟩, ⟨some 36, .call N_due_before [] [.t 31, .t 32, .t 35], none⟩] [28, 31, 32, 33, 34, 35])
 (.cond (.t 36) (.seq (.ops [] [⟨some 2, .mv (.c (.d (.int .i64 11))), none⟩] [0, 5, 36])
 (.ret [2])) .skip)))
 (.ops [] [⟨some 29, .mv (.t 5), none⟩, ⟨some 30, .bin .add (.t 29) (.c (.d (.int .i64 1))), none⟩, ⟨some 5, .mv (.t 30), none⟩] [29, 30, 36])))
def c_due_Validate : ACode :=
 (.seq (.ops [] [⟨some 2, .mv (.c (.d (.int .i64 0))), none⟩] [2])
 (.seq (.seq (.ops [] [⟨some 6, .mv (.t 0), none⟩, ⟨some 7, .len (.t 6), none⟩, ⟨some 8, .bin .gtr (.t 7) (.c (.d (.int .i64 12))), none⟩] [6, 7])
 (.cond (.t 8) (.seq (.ops [] [⟨some 2, .mv (.c (.d (.int .i64 2))), none⟩] [0, 8])
 (.ret [2])) .skip))
 (.seq (.seq (.ops [] [⟨some 9, .mv (.t 0), none⟩, ⟨some 10, .call N_slices_ContainsFunc_api_Due [] [.t 9, .c (.d (.fn N_due_Validate_1 []))], none⟩] [8, 9])
 (.cond (.t 10) (.seq (.ops [] [⟨some 2, .mv (.c (.d (.int .i64 1))), none⟩] [0, 10])
 (.ret [2])) .skip))
 (.seq (.seq (.ops [] [⟨some 11, .mv (.t 0), none⟩, ⟨some 12, .len (.t 11), none⟩, ⟨some 13, .mv (.c (.d (.int .i64 0))), none⟩] [10])
 (.block 0 (.loop [] l_due_Validate_0)))
 (.seq (.seq (.ops [] [⟨some 5, .mv (.c (.d (.int .i64 1))), none⟩] [11, 12, 13, 14])
 (.block 2 (.loop [] l_due_Validate_1)))
 (.seq (.ops [] [⟨some 2, .mv (.c (.d (.int .i64 0))), none⟩] [0, 5, 28])
 (.ret [2])))))))
def r_due_Validate : List ARes := [.t 2]
def fn_due_Validate : AFn := .code c_due_Validate r_due_Validate 37 true
/- shardqueue/due.up -/
def l_due_up_0 : ACode :=
 (.seq (.seq (.ops [] [⟨some 6, .mv (.t 1), none⟩, ⟨some 7, .bin .gtr (.t 6) (.c (.d (.int .i64 0))), none⟩, ⟨some 8, .mv (.t 7), none⟩, ⟨some 9, .mv (.t 0), some (8, true)⟩, ⟨some 10, .mv (.t 1), some (8, true)⟩, ⟨some 11, .mv (.t 1), some (8, true)⟩, ⟨some 12, .bin .sub (.t 11) (.c (.d (.int .i64 1))), some (8, true)⟩, ⟨some 13, .bin .quo (.t 12) (.c (.d (.int .i64 2))), some (8, true)⟩, ⟨some 14, .call N_due_before [] [.t 9, .t 10, .t 13], some (8, true)⟩, ⟨some 15, .pick (.t 8) (.t 14) (.c (.d (.bool false))), none⟩] [6, 7, 8, 9, 10, 11, 12, 13, 14])
 (.cond (.t 15) .skip (.exit 0 [1])))
 (.block 1 (.seq (.ops [] [⟨some 16, .mv (.t 1), none⟩, ⟨some 17, .bin .sub (.t 16) (.c (.d (.int .i64 1))), none⟩, ⟨some 18, .bin .quo (.t 17) (.c (.d (.int .i64 2))), none⟩, ⟨some 5, .mv (.t 18), none⟩] [15, 16, 17, 18])
 (.seq (.draw [] [⟨some 19, .mv (.t 0), none⟩, ⟨some 20, .mv (.t 1), none⟩, ⟨some 21, .mv (.t 0), none⟩, ⟨some 22, .mv (.t 5), none⟩, ⟨some 23, .mv (.t 0), none⟩, ⟨some 24, .mv (.t 5), none⟩, ⟨some 25, .iad 2 (.t 23) (.t 24), none⟩, ⟨some 26, .ld true 2 (.t 25), none⟩, ⟨some 27, .mv (.t 0), none⟩, ⟨some 28, .mv (.t 1), none⟩, ⟨some 29, .iad 2 (.t 27) (.t 28), none⟩, ⟨some 30, .ld true 2 (.t 29), none⟩, ⟨some 31, .iad 2 (.t 19) (.t 20), none⟩, ⟨none, .st 2 (.t 31) (.t 26), none⟩, ⟨some 32, .iad 2 (.t 21) (.t 22), none⟩, ⟨none, .st 2 (.t 32) (.t 30), none⟩] [[], [0], [0, 1], [0, 1, 2], [0, 1, 2, 3], [0, 1, 2, 3, 4], [0, 1, 2, 3], [0, 1, 2, 3], [0, 1, 2, 3, 4, 5, 6, 7], [0, 1, 2, 3, 4, 5, 6, 7, 8], [0, 1, 2, 3, 4, 5, 6, 7], [0, 1, 2, 3, 4, 5, 6, 7], [2, 3], [2, 3], [], []] [1, 19, 20, 21, 22, 23, 24, 25, 26, 27, 28, 29, 30, 31, 32])
 (.ops [] [⟨some 33, .mv (.t 5), none⟩, ⟨some 1, .mv (.t 33), none⟩] [5, 33])))))
def c_due_up : ACode :=
 (.seq (.ops [] [⟨some 4, .mv (.c (.d (.int .i64 0))), none⟩] [4])
 (.seq (.block 0 (.loop [] l_due_up_0))
 (.seq (.ops [] [⟨some 34, .mv (.t 1), none⟩, ⟨some 4, .mv (.t 34), none⟩] [0, 1, 15, 34])
 (.ret [4]))))
def r_due_up : List ARes := [.t 4]
def fn_due_up : AFn := .code c_due_up r_due_up 35 true
/- shardqueue/due.down -/
def l_due_down_0 : ACode :=
 (.block 1 (.seq (.ops [] [⟨some 5, .mv (.t 1), none⟩, ⟨some 6, .bin .mul (.c (.d (.int .i64 2))) (.t 5), none⟩, ⟨some 7, .bin .add (.t 6) (.c (.d (.int .i64 1))), none⟩, ⟨some 4, .mv (.t 7), none⟩] [5, 6, 7])
 (.seq (.seq (.ops [] [⟨some 8, .mv (.t 4), none⟩, ⟨some 9, .mv (.t 0), none⟩, ⟨some 10, .len (.t 9), none⟩, ⟨some 11, .bin .geq (.t 8) (.t 10), none⟩] [8, 9, 10])
 (.cond (.t 11) (.ret []) .skip))
 (.seq (.seq (.ops [] [⟨some 12, .mv (.t 4), none⟩, ⟨some 13, .bin .add (.t 12) (.c (.d (.int .i64 1))), none⟩, ⟨some 14, .mv (.t 0), none⟩, ⟨some 15, .len (.t 14), none⟩, ⟨some 16, .bin .lss (.t 13) (.t 15), none⟩, ⟨some 17, .mv (.t 16), none⟩, ⟨some 18, .mv (.t 0), some (17, true)⟩, ⟨some 19, .mv (.t 4), some (17, true)⟩, ⟨some 20, .bin .add (.t 19) (.c (.d (.int .i64 1))), some (17, true)⟩, ⟨some 21, .mv (.t 4), some (17, true)⟩, ⟨some 22, .call N_due_before [] [.t 18, .t 20, .t 21], some (17, true)⟩, ⟨some 23, .pick (.t 17) (.t 22) (.c (.d (.bool false))), none⟩] [11, 12, 13, 14, 15, 16, 17, 18, 19, 20, 21, 22])
 (.cond (.t 23) (.ops [] [⟨some 24, .mv (.t 4), none⟩, ⟨some 25, .bin .add (.t 24) (.c (.d (.int .i64 1))), none⟩, ⟨some 4, .mv (.t 25), none⟩] [23, 24, 25]) .skip))
 (.seq (.seq (.ops [] [⟨some 26, .mv (.t 0), none⟩, ⟨some 27, .mv (.t 4), none⟩, ⟨some 28, .mv (.t 1), none⟩, ⟨some 29, .call N_due_before [] [.t 26, .t 27, .t 28], none⟩, ⟨some 30, .un .not (.t 29), none⟩] [23, 26, 27, 28, 29])
 (.cond (.t 30) (.ret []) .skip))
 (.seq (.draw [] [⟨some 31, .mv (.t 0), none⟩, ⟨some 32, .mv (.t 1), none⟩, ⟨some 33, .mv (.t 0), none⟩, ⟨some 34, .mv (.t 4), none⟩, ⟨some 35, .mv (.t 0), none⟩, ⟨some 36, .mv (.t 4), none⟩, ⟨some 37, .iad 2 (.t 35) (.t 36), none⟩, ⟨some 38, .ld true 2 (.t 37), none⟩, ⟨some 39, .mv (.t 0), none⟩, ⟨some 40, .mv (.t 1), none⟩, ⟨some 41, .iad 2 (.t 39) (.t 40), none⟩, ⟨some 42, .ld true 2 (.t 41), none⟩, ⟨some 43, .iad 2 (.t 31) (.t 32), none⟩, ⟨none, .st 2 (.t 43) (.t 38), none⟩, ⟨some 44, .iad 2 (.t 33) (.t 34), none⟩, ⟨none, .st 2 (.t 44) (.t 42), none⟩] [[], [0], [0, 1], [0, 1, 2], [0, 1, 2, 3], [0, 1, 2, 3, 4], [0, 1, 2, 3], [0, 1, 2, 3], [0, 1, 2, 3, 4, 5, 6, 7], [0, 1, 2, 3, 4, 5, 6, 7, 8], [0, 1, 2, 3, 4, 5, 6, 7], [0, 1, 2, 3, 4, 5, 6, 7], [2, 3], [2, 3], [], []] [1, 30, 31, 32, 33, 34, 35, 36, 37, 38, 39, 40, 41, 42, 43, 44])
 (.ops [] [⟨some 45, .mv (.t 4), none⟩, ⟨some 1, .mv (.t 45), none⟩] [4, 45])))))))
def c_due_down : ACode :=
 (.block 0 (.loop [] l_due_down_0))
def r_due_down : List ARes := []
def fn_due_down : AFn := .code c_due_down r_due_down 46 true
/- slices.Clone[[]shardqueue/api.Due,shardqueue/api.Due] -/
def c_slices_Clone_api_Due : ACode :=
 (.seq (.ops [] [⟨some 2, .nacc, none⟩] [2])
 (.seq (.seq (.ops [] [⟨some 3, .mv (.t 0), none⟩, ⟨some 4, .nileq false (.t 3), none⟩] [3])
 (.cond (.t 4) (.seq (.ops [] [⟨some 2, .nacc, none⟩] [0, 4])
 (.ret [2])) .skip))
 (.seq (.ops [] [⟨some 5, .bsl 0 2 (.d (.agg [.int .i64 0, .int .i64 0])) [], none⟩, ⟨some 6, .mv (.t 0), none⟩, ⟨some 7, .app 2 (.t 5) (.t 6), none⟩, ⟨some 2, .mv (.t 7), none⟩] [0, 4, 5, 6, 7])
 (.ret [2]))))
def r_slices_Clone_api_Due : List ARes := [.t 2]
def fn_slices_Clone_api_Due : AFn := .nils c_slices_Clone_api_Due r_slices_Clone_api_Due 8
/- shardqueue/due.Push -/
def c_due_Push : ACode :=
 (.seq (.ops [] [⟨some 3, .box (.t 1), none⟩, ⟨some 4, .mv (.c (.xsl [])), none⟩, ⟨some 5, .mv (.c (.d (.int .i64 0))), none⟩] [1, 4, 5])
 (.seq (.seq (.ops [] [⟨some 7, .mv (.t 0), none⟩, ⟨some 8, .call N_due_Validate [] [.t 7], none⟩, ⟨some 6, .mv (.t 8), none⟩] [7, 8])
 (.seq (.ops [] [⟨some 9, .mv (.t 6), none⟩, ⟨some 10, .bin .neq (.t 9) (.c (.d (.int .i64 0))), none⟩] [9])
 (.cond (.t 10) (.seq (.ops [] [⟨some 11, .mv (.t 6), none⟩, ⟨some 4, .mv (.c (.xsl [])), none⟩, ⟨some 5, .mv (.t 11), none⟩] [0, 3, 6, 10, 11])
 (.ret [4, 5])) .skip)))
 (.seq (.block 0 (.seq (.ops [] [⟨some 13, .ld true 2 (.t 3), none⟩, ⟨some 14, .call N_due_valid [] [.t 13], none⟩, ⟨some 15, .un .not (.t 14), none⟩, ⟨some 12, .mv (.t 15), none⟩] [6, 10, 13, 14, 15])
 (.cond (.t 12) (.seq (.ops [] [⟨some 4, .mv (.c (.xsl [])), none⟩, ⟨some 5, .mv (.c (.d (.int .i64 1))), none⟩] [0, 3, 12])
 (.ret [4, 5])) (.seq (.ops [] [⟨some 17, .mv (.t 0), none⟩, ⟨some 18, .len (.t 17), none⟩, ⟨some 19, .bin .eql (.t 18) (.c (.d (.int .i64 12))), none⟩, ⟨some 16, .mv (.t 19), none⟩] [12, 17, 18, 19])
 (.cond (.t 16) (.seq (.ops [] [⟨some 4, .mv (.c (.xsl [])), none⟩, ⟨some 5, .mv (.c (.d (.int .i64 3))), none⟩] [0, 3, 16])
 (.ret [4, 5])) (.seq (.ops [] [⟨some 21, .mv (.t 0), none⟩, ⟨some 22, .fad false 1 1 (.t 3), none⟩, ⟨some 23, .ld false 1 (.t 22), none⟩, ⟨some 24, .call N_due_find [] [.t 21, .t 23], none⟩, ⟨some 25, .bin .geq (.t 24) (.c (.d (.int .i64 0))), none⟩, ⟨some 20, .mv (.t 25), none⟩] [16, 21, 22, 23, 24, 25])
 (.cond (.t 20) (.seq (.ops [] [⟨some 4, .mv (.c (.xsl [])), none⟩, ⟨some 5, .mv (.c (.d (.int .i64 10))), none⟩] [0, 3, 20])
 (.ret [4, 5])) .skip)))))))
 (.seq (.draw [] [⟨some 26, .mv (.t 0), none⟩, ⟨some 27, .call N_slices_Clone_api_Due [] [.t 26], none⟩, ⟨some 28, .ld true 2 (.t 3), none⟩, ⟨some 29, .bsl 1 2 (.d (.agg [.int .i64 0, .int .i64 0])) [(0, .t 28)], none⟩, ⟨some 30, .app 2 (.t 27) (.t 29), none⟩, ⟨some 0, .mv (.t 30), none⟩] [[], [], [0, 1], [0, 1], [], []] [3, 20, 26, 27, 28, 29, 30])
 (.seq (.ops [54] [⟨some 31, .mv (.t 0), none⟩, ⟨some 32, .mv (.t 0), none⟩, ⟨some 33, .len (.t 32), none⟩, ⟨some 34, .bin .sub (.t 33) (.c (.d (.int .i64 1))), none⟩, ⟨some 35, .call N_due_up [true, false] [.t 31, .t 34], none⟩] [31, 32, 33, 34, 35])
 (.seq (.ops [] [⟨some 36, .mv (.t 0), none⟩, ⟨some 4, .mv (.t 36), none⟩, ⟨some 5, .mv (.c (.d (.int .i64 0))), none⟩] [0, 36])
 (.ret [4, 5])))))))
def r_due_Push : List ARes := [.t 4, .t 5]
def fn_due_Push : AFn := .code c_due_Push r_due_Push 37 true
/- shardqueue/due.drop -/
def c_due_drop : ACode :=
 (.seq (.ops [] [⟨some 4, .mv (.c (.xsl [])), none⟩] [4])
 (.seq (.ops [] [⟨some 7, .mv (.t 0), none⟩, ⟨some 8, .len (.t 7), none⟩, ⟨some 9, .bin .sub (.t 8) (.c (.d (.int .i64 1))), none⟩, ⟨some 5, .mv (.t 9), none⟩] [7, 8, 9])
 (.seq (.ops [] [⟨some 10, .mv (.t 0), none⟩, ⟨some 11, .mv (.t 5), none⟩, ⟨some 12, .slc 2 (.t 10) none (some (.t 11)) none, none⟩, ⟨some 13, .call N_slices_Clone_api_Due [] [.t 12], none⟩, ⟨some 6, .mv (.t 13), none⟩] [10, 11, 12, 13])
 (.seq (.seq (.ops [] [⟨some 14, .mv (.t 1), none⟩, ⟨some 15, .mv (.t 5), none⟩, ⟨some 16, .bin .eql (.t 14) (.t 15), none⟩] [14, 15])
 (.cond (.t 16) (.seq (.ops [] [⟨some 17, .mv (.t 6), none⟩, ⟨some 4, .mv (.t 17), none⟩] [0, 1, 5, 6, 16, 17])
 (.ret [4])) .skip))
 (.seq (.ops [26] [⟨some 18, .mv (.t 6), none⟩, ⟨some 19, .mv (.t 1), none⟩, ⟨some 20, .mv (.t 0), none⟩, ⟨some 21, .mv (.t 5), none⟩, ⟨some 22, .iad 2 (.t 20) (.t 21), none⟩, ⟨some 23, .ld true 2 (.t 22), none⟩, ⟨some 24, .iad 2 (.t 18) (.t 19), none⟩, ⟨none, .st 2 (.t 24) (.t 23), none⟩] [0, 5, 16, 18, 19, 20, 21, 22, 23, 24])
 (.seq (.seq (.ops [] [⟨some 25, .mv (.t 6), none⟩, ⟨some 26, .mv (.t 1), none⟩, ⟨some 27, .call N_due_up [true, false] [.t 25, .t 26], none⟩, ⟨some 28, .mv (.t 1), none⟩, ⟨some 29, .bin .eql (.t 27) (.t 28), none⟩] [25, 26, 27, 28])
 (.cond (.t 29) (.ops [] [⟨some 30, .mv (.t 6), none⟩, ⟨some 31, .mv (.t 1), none⟩, ⟨some 32, .call N_due_down [true, false] [.t 30, .t 31], none⟩] [1, 29, 30, 31, 32]) .skip))
 (.seq (.ops [] [⟨some 33, .mv (.t 6), none⟩, ⟨some 4, .mv (.t 33), none⟩] [1, 6, 29, 33])
 (.ret [4]))))))))
def r_due_drop : List ARes := [.t 4]
def fn_due_drop : AFn := .code c_due_drop r_due_drop 34 true
/- shardqueue/due.Pop -/
def c_due_Pop : ACode :=
 (.seq (.ops [] [⟨some 2, .mv (.c (.xsl [])), none⟩, ⟨some 3, .alloc (.d (.agg [.int .i64 0, .int .i64 0])), none⟩, ⟨some 4, .mv (.c (.d (.int .i64 0))), none⟩] [2, 4])
 (.seq (.seq (.ops [] [⟨some 6, .mv (.t 0), none⟩, ⟨some 7, .call N_due_Validate [] [.t 6], none⟩, ⟨some 5, .mv (.t 7), none⟩] [6, 7])
 (.seq (.ops [] [⟨some 8, .mv (.t 5), none⟩, ⟨some 9, .bin .neq (.t 8) (.c (.d (.int .i64 0))), none⟩] [8])
 (.cond (.t 9) (.seq (.ops [] [⟨some 10, .build [.d (.int .i64 0), .d (.int .i64 0)] [], none⟩, ⟨some 11, .mv (.t 5), none⟩, ⟨some 2, .mv (.c (.xsl [])), none⟩, ⟨none, .st 2 (.t 3) (.t 10), none⟩, ⟨some 4, .mv (.t 11), none⟩] [0, 5, 9, 10, 11])
 (.ret [2, 3, 4])) .skip)))
 (.seq (.seq (.ops [] [⟨some 12, .mv (.t 0), none⟩, ⟨some 13, .len (.t 12), none⟩, ⟨some 14, .bin .eql (.t 13) (.c (.d (.int .i64 0))), none⟩] [5, 9, 12, 13])
 (.cond (.t 14) (.seq (.ops [] [⟨some 15, .build [.d (.int .i64 0), .d (.int .i64 0)] [], none⟩, ⟨some 2, .mv (.c (.xsl [])), none⟩, ⟨none, .st 2 (.t 3) (.t 15), none⟩, ⟨some 4, .mv (.c (.d (.int .i64 4))), none⟩] [0, 14, 15])
 (.ret [2, 3, 4])) .skip))
 (.seq (.draw [] [⟨some 16, .mv (.t 0), none⟩, ⟨some 17, .call N_due_drop [] [.t 16, .c (.d (.int .i64 0))], none⟩, ⟨some 18, .mv (.t 0), none⟩, ⟨some 19, .iad 2 (.t 18) (.c (.d (.int .i64 0))), none⟩, ⟨some 20, .ld true 2 (.t 19), none⟩, ⟨some 2, .mv (.t 17), none⟩, ⟨none, .st 2 (.t 3) (.t 20), none⟩, ⟨some 4, .mv (.c (.d (.int .i64 0))), none⟩] [[], [], [0, 1], [0, 1], [0, 1], [2, 3, 4], [], []] [0, 14, 16, 17, 18, 19, 20])
 (.ret [2, 3, 4])))))
def r_due_Pop : List ARes := [.t 2, .c 3 true 2, .t 4]
def fn_due_Pop : AFn := .code c_due_Pop r_due_Pop 21 true
/- shardqueue/due.Remove -/
def c_due_Remove : ACode :=
 (.seq (.ops [] [⟨some 4, .mv (.c (.xsl [])), none⟩, ⟨some 5, .mv (.c (.d (.int .i64 0))), none⟩] [4, 5])
 (.seq (.seq (.ops [] [⟨some 8, .mv (.t 0), none⟩, ⟨some 9, .call N_due_Validate [] [.t 8], none⟩, ⟨some 6, .mv (.t 9), none⟩] [8, 9])
 (.seq (.ops [] [⟨some 10, .mv (.t 6), none⟩, ⟨some 11, .bin .neq (.t 10) (.c (.d (.int .i64 0))), none⟩] [10])
 (.cond (.t 11) (.seq (.ops [] [⟨some 12, .mv (.t 6), none⟩, ⟨some 4, .mv (.c (.xsl [])), none⟩, ⟨some 5, .mv (.t 12), none⟩] [0, 1, 6, 11, 12])
 (.ret [4, 5])) .skip)))
 (.seq (.ops [] [⟨some 13, .mv (.t 0), none⟩, ⟨some 14, .mv (.t 1), none⟩, ⟨some 15, .call N_due_find [] [.t 13, .t 14], none⟩, ⟨some 7, .mv (.t 15), none⟩] [1, 6, 11, 13, 14, 15])
 (.seq (.seq (.ops [] [⟨some 16, .mv (.t 7), none⟩, ⟨some 17, .bin .lss (.t 16) (.c (.d (.int .i64 0))), none⟩] [16])
 (.cond (.t 17) (.seq (.ops [] [⟨some 4, .mv (.c (.xsl [])), none⟩, ⟨some 5, .mv (.c (.d (.int .i64 4))), none⟩] [0, 7, 17])
 (.ret [4, 5])) .skip))
 (.seq (.ops [] [⟨some 18, .mv (.t 0), none⟩, ⟨some 19, .mv (.t 7), none⟩, ⟨some 20, .call N_due_drop [] [.t 18, .t 19], none⟩, ⟨some 4, .mv (.t 20), none⟩, ⟨some 5, .mv (.c (.d (.int .i64 0))), none⟩] [0, 7, 17, 18, 19, 20])
 (.ret [4, 5]))))))
def r_due_Remove : List ARes := [.t 4, .t 5]
def fn_due_Remove : AFn := .code c_due_Remove r_due_Remove 21 true
/- shardqueue/shardqueuelaw05.awake -/
def c_law05_awake : ACode :=
 (.seq (.ops [] [⟨some 0, .mv (.c (.d (.bool false))), none⟩] [0])
 (.seq (.ops [] [⟨some 5, .build [.d (.int .i64 0), .d (.int .i64 0)] [(0, (1, .c (.d (.int .i64 5)))), (1, (1, .c (.d (.int .i64 1))))], none⟩, ⟨some 6, .call N_due_Push [] [.c (.xsl []), .t 5], none⟩, ⟨some 4, .mv (.t 6), none⟩, ⟨some 7, .ext (.t 4) 0, none⟩, ⟨some 8, .ext (.t 4) 1, none⟩, ⟨some 1, .mv (.t 7), none⟩, ⟨some 2, .mv (.t 8), none⟩] [4, 5, 6, 7, 8])
 (.seq (.ops [] [⟨some 10, .mv (.t 1), none⟩, ⟨some 11, .build [.d (.int .i64 0), .d (.int .i64 0)] [(0, (1, .c (.d (.int .i64 3)))), (1, (1, .c (.d (.int .i64 2))))], none⟩, ⟨some 12, .call N_due_Push [] [.t 10, .t 11], none⟩, ⟨some 9, .mv (.t 12), none⟩, ⟨some 13, .ext (.t 9) 0, none⟩, ⟨some 14, .ext (.t 9) 1, none⟩, ⟨some 1, .mv (.t 13), none⟩, ⟨some 3, .mv (.t 14), none⟩] [9, 10, 11, 12, 13, 14])
 (.seq (.ops [] [⟨some 15, .mv (.t 2), none⟩, ⟨some 16, .bin .eql (.t 15) (.c (.d (.int .i64 0))), none⟩, ⟨some 17, .mv (.t 16), none⟩, ⟨some 18, .mv (.t 3), some (17, true)⟩, ⟨some 19, .bin .eql (.t 18) (.c (.d (.int .i64 0))), some (17, true)⟩, ⟨some 20, .pick (.t 17) (.t 19) (.c (.d (.bool false))), none⟩, ⟨some 21, .mv (.t 20), none⟩, ⟨some 22, .mv (.t 1), some (21, true)⟩, ⟨some 23, .len (.t 22), some (21, true)⟩, ⟨some 24, .bin .eql (.t 23) (.c (.d (.int .i64 2))), some (21, true)⟩, ⟨some 25, .pick (.t 21) (.t 24) (.c (.d (.bool false))), none⟩, ⟨some 26, .mv (.t 25), none⟩, ⟨some 27, .mv (.t 1), some (26, true)⟩, ⟨some 28, .iad 2 (.t 27) (.c (.d (.int .i64 0))), some (26, true)⟩, ⟨some 29, .fad false 1 1 (.t 28), some (26, true)⟩, ⟨some 30, .ld false 1 (.t 29), some (26, true)⟩, ⟨some 31, .bin .eql (.t 30) (.c (.d (.int .i64 2))), some (26, true)⟩, ⟨some 32, .pick (.t 26) (.t 31) (.c (.d (.bool false))), none⟩, ⟨some 0, .mv (.t 32), none⟩] [1, 2, 3, 15, 16, 17, 18, 19, 20, 21, 22, 23, 24, 25, 26, 27, 28, 29, 30, 31, 32])
 (.ret [0])))))
def r_law05_awake : List ARes := [.t 0]
def fn_law05_awake : AFn := .code c_law05_awake r_law05_awake 33 true
/- shardqueue/shardqueuelaw05.DueFull -/
def l_law05_DueFull_0 : ACode :=
 (.seq (.seq (.ops [] [⟨some 13, .mv (.t 4), none⟩, ⟨some 14, .mv (.t 0), none⟩, ⟨some 15, .bin .rem (.t 14) (.c (.d (.int .u8 3))), none⟩, ⟨some 16, .cvi .i64 (.t 15), none⟩, ⟨some 17, .bin .add (.c (.d (.int .i64 12))) (.t 16), none⟩, ⟨some 18, .bin .leq (.t 13) (.t 17), none⟩] [13, 14, 15, 16, 17])
 (.cond (.t 18) .skip (.exit 0 [3])))
 (.seq (.block 1 (.seq (.ops [] [⟨some 22, .mv (.t 3), none⟩, ⟨some 23, .mv (.t 4), none⟩, ⟨some 24, .bin .sub (.c (.d (.int .i64 1073741824))) (.t 23), none⟩, ⟨some 25, .build [.d (.int .i64 0), .d (.int .i64 0)] [(0, (1, .c (.d (.int .i64 1073741824)))), (1, (1, .t 24))], none⟩, ⟨some 26, .call N_due_Push [] [.t 22, .t 25], none⟩, ⟨some 21, .mv (.t 26), none⟩, ⟨some 27, .ext (.t 21) 0, none⟩, ⟨some 28, .ext (.t 21) 1, none⟩, ⟨some 5, .mv (.t 27), none⟩, ⟨some 6, .mv (.t 28), none⟩] [18, 21, 22, 23, 24, 25, 26, 27, 28])
 (.seq (.seq (.ops [] [⟨some 29, .mv (.t 6), none⟩, ⟨some 30, .bin .eql (.t 29) (.c (.d (.int .i64 0))), none⟩, ⟨some 31, .mv (.t 4), none⟩, ⟨some 32, .bin .leq (.t 31) (.c (.d (.int .i64 12))), none⟩, ⟨some 33, .eqb true (.t 30) (.t 32), none⟩, ⟨some 34, .mv (.t 33), none⟩, ⟨some 35, .mv (.t 6), some (34, false)⟩, ⟨some 36, .bin .neq (.t 35) (.c (.d (.int .i64 0))), some (34, false)⟩, ⟨some 37, .mv (.t 36), some (34, false)⟩, ⟨some 38, .mv (.t 6), some (37, true)⟩, ⟨some 39, .bin .neq (.t 38) (.c (.d (.int .i64 3))), some (37, true)⟩, ⟨some 40, .mv (.t 39), some (37, true)⟩, ⟨some 41, .mv (.t 5), some (40, false)⟩, ⟨some 42, .len (.t 41), some (40, false)⟩, ⟨some 43, .bin .neq (.t 42) (.c (.d (.int .i64 0))), some (40, false)⟩, ⟨some 44, .pick (.t 40) (.c (.d (.bool true))) (.t 43), some (37, true)⟩, ⟨some 45, .pick (.t 37) (.t 44) (.c (.d (.bool false))), some (34, false)⟩, ⟨some 46, .pick (.t 34) (.c (.d (.bool true))) (.t 45), none⟩] [29, 30, 31, 32, 33, 34, 35, 36, 37, 38, 39, 40, 41, 42, 43, 44, 45])
 (.cond (.t 46) (.seq (.ops [] [⟨some 2, .mv (.c (.d (.bool false))), none⟩] [0, 3, 4, 5, 6, 46])
 (.ret [2])) .skip))
 (.seq (.ops [] [⟨some 47, .mv (.t 6), none⟩, ⟨some 48, .bin .eql (.t 47) (.c (.d (.int .i64 0))), none⟩] [6, 46, 47])
 (.cond (.t 48) (.ops [] [⟨some 49, .mv (.t 5), none⟩, ⟨some 3, .mv (.t 49), none⟩] [5, 48, 49]) .skip)))))
 (.ops [] [⟨some 19, .mv (.t 4), none⟩, ⟨some 20, .bin .add (.t 19) (.c (.d (.int .i64 1))), none⟩, ⟨some 4, .mv (.t 20), none⟩] [5, 19, 20, 48])))
def c_law05_DueFull : ACode :=
 (.seq (.ops [] [⟨some 2, .mv (.c (.d (.bool false))), none⟩] [2])
 (.seq (.ops [] [⟨some 3, .mv (.c (.xsl [])), none⟩] [])
 (.seq (.seq (.ops [] [⟨some 4, .mv (.c (.d (.int .i64 1))), none⟩] [])
 (.block 0 (.loop [] l_law05_DueFull_0)))
 (.seq (.ops [] [⟨some 51, .build [.d (.int .i64 0), .d (.int .i64 0)] [(0, (1, .c (.d (.int .i64 1073741825)))), (1, (1, .c (.d (.int .i64 1))))], none⟩, ⟨some 52, .call N_due_Push [] [.c (.xsl []), .t 51], none⟩, ⟨some 50, .mv (.t 52), none⟩, ⟨some 53, .ext (.t 50) 0, none⟩, ⟨some 54, .ext (.t 50) 1, none⟩, ⟨some 7, .mv (.t 53), none⟩, ⟨some 8, .mv (.t 54), none⟩] [0, 4, 7, 18, 50, 51, 52, 53, 54])
 (.seq (.ops [] [⟨some 56, .build [.d (.int .i64 0), .d (.int .i64 0)] [(1, (1, .c (.d (.int .i64 1073741825))))], none⟩, ⟨some 57, .call N_due_Push [] [.c (.xsl []), .t 56], none⟩, ⟨some 55, .mv (.t 57), none⟩, ⟨some 58, .ext (.t 55) 0, none⟩, ⟨some 59, .ext (.t 55) 1, none⟩, ⟨some 9, .mv (.t 58), none⟩, ⟨some 10, .mv (.t 59), none⟩] [9, 55, 56, 57, 58, 59])
 (.seq (.ops [] [⟨some 61, .build [.d (.int .i64 0), .d (.int .i64 0)] [(1, (1, .c (.d (.int .i64 1073741824))))], none⟩, ⟨some 62, .call N_due_Push [] [.c (.xsl []), .t 61], none⟩, ⟨some 60, .mv (.t 62), none⟩, ⟨some 63, .ext (.t 60) 0, none⟩, ⟨some 64, .ext (.t 60) 1, none⟩, ⟨some 11, .mv (.t 63), none⟩, ⟨some 12, .mv (.t 64), none⟩] [60, 61, 62, 63, 64])
 (.seq (.ops [] [⟨some 65, .mv (.t 3), none⟩, ⟨some 66, .len (.t 65), none⟩, ⟨some 67, .bin .eql (.t 66) (.c (.d (.int .i64 12))), none⟩, ⟨some 68, .mv (.t 67), none⟩, ⟨some 69, .mv (.t 8), some (68, true)⟩, ⟨some 70, .bin .eql (.t 69) (.c (.d (.int .i64 1))), some (68, true)⟩, ⟨some 71, .pick (.t 68) (.t 70) (.c (.d (.bool false))), none⟩, ⟨some 72, .mv (.t 71), none⟩, ⟨some 73, .mv (.t 10), some (72, true)⟩, ⟨some 74, .bin .eql (.t 73) (.c (.d (.int .i64 1))), some (72, true)⟩, ⟨some 75, .pick (.t 72) (.t 74) (.c (.d (.bool false))), none⟩, ⟨some 76, .mv (.t 75), none⟩, ⟨some 77, .mv (.t 12), some (76, true)⟩, ⟨some 78, .bin .eql (.t 77) (.c (.d (.int .i64 0))), some (76, true)⟩, ⟨some 79, .pick (.t 76) (.t 78) (.c (.d (.bool false))), none⟩, ⟨some 80, .mv (.t 79), none⟩, ⟨some 81, .mv (.t 11), some (80, true)⟩, ⟨some 82, .len (.t 81), some (80, true)⟩, ⟨some 83, .bin .eql (.t 82) (.c (.d (.int .i64 1))), some (80, true)⟩, ⟨some 84, .pick (.t 80) (.t 83) (.c (.d (.bool false))), none⟩, ⟨some 85, .mv (.t 84), none⟩, ⟨some 86, .call N_law05_awake [] [], some (85, true)⟩, ⟨some 87, .pick (.t 85) (.t 86) (.c (.d (.bool false))), none⟩, ⟨some 2, .mv (.t 87), none⟩] [3, 8, 10, 11, 12, 65, 66, 67, 68, 69, 70, 71, 72, 73, 74, 75, 76, 77, 78, 79, 80, 81, 82, 83, 84, 85, 86, 87])
 (.ret [2]))))))))
def r_law05_DueFull : List ARes := [.t 2]
def fn_law05_DueFull : AFn := .code c_law05_DueFull r_law05_DueFull 88 true
/- shardqueue/shardqueuelaw05.DueSorts -/
def l_law05_DueSorts_0 : ACode :=
 (.seq (.seq (.ops [] [⟨some 15, .mv (.t 4), none⟩, ⟨some 16, .mv (.t 0), none⟩, ⟨some 17, .len (.t 16), none⟩, ⟨some 18, .bin .lss (.t 15) (.t 17), none⟩] [15, 16, 17])
 (.cond (.t 18) .skip (.exit 0 [0, 3])))
 (.seq (.block 1 (.seq (.ops [] [⟨some 22, .mv (.t 3), none⟩, ⟨some 23, .mv (.t 0), none⟩, ⟨some 24, .mv (.t 4), none⟩, ⟨some 25, .iad 1 (.t 23) (.t 24), none⟩, ⟨some 26, .ld false 1 (.t 25), none⟩, ⟨some 27, .bin .and (.t 26) (.c (.d (.int .i64 15))), none⟩, ⟨some 28, .mv (.t 4), none⟩, ⟨some 29, .bin .add (.t 28) (.c (.d (.int .i64 1))), none⟩, ⟨some 30, .build [.d (.int .i64 0), .d (.int .i64 0)] [(0, (1, .t 27)), (1, (1, .t 29))], none⟩, ⟨some 31, .call N_due_Push [] [.t 22, .t 30], none⟩, ⟨some 21, .mv (.t 31), none⟩, ⟨some 32, .ext (.t 21) 0, none⟩, ⟨some 33, .ext (.t 21) 1, none⟩, ⟨some 5, .mv (.t 32), none⟩, ⟨some 6, .mv (.t 33), none⟩] [3, 18, 21, 22, 23, 24, 25, 26, 27, 28, 29, 30, 31, 32, 33])
 (.seq (.seq (.ops [] [⟨some 34, .mv (.t 6), none⟩, ⟨some 35, .bin .neq (.t 34) (.c (.d (.int .i64 0))), none⟩, ⟨some 36, .mv (.t 35), none⟩, ⟨some 37, .mv (.t 5), some (36, false)⟩, ⟨some 38, .call N_due_Validate [] [.t 37], some (36, false)⟩, ⟨some 39, .bin .neq (.t 38) (.c (.d (.int .i64 0))), some (36, false)⟩, ⟨some 40, .pick (.t 36) (.c (.d (.bool true))) (.t 39), none⟩] [6, 34, 35, 36, 37, 38, 39])
 (.cond (.t 40) (.seq (.ops [] [⟨some 2, .mv (.c (.d (.bool false))), none⟩] [0, 4, 5, 40])
 (.ret [2])) .skip))
 (.ops [] [⟨some 41, .mv (.t 5), none⟩, ⟨some 3, .mv (.t 41), none⟩] [5, 40, 41]))))
 (.ops [] [⟨some 19, .mv (.t 4), none⟩, ⟨some 20, .bin .add (.t 19) (.c (.d (.int .i64 1))), none⟩, ⟨some 4, .mv (.t 20), none⟩] [19, 20])))
def l_law05_DueSorts_1 : ACode :=
 (.seq (.seq (.ops [] [⟨some 43, .mv (.t 8), none⟩, ⟨some 44, .mv (.t 0), none⟩, ⟨some 45, .len (.t 44), none⟩, ⟨some 46, .bin .lss (.t 43) (.t 45), none⟩] [43, 44, 45])
 (.cond (.t 46) .skip (.exit 2 [3])))
 (.seq (.block 3 (.seq (.ops [] [⟨some 50, .mv (.t 3), none⟩, ⟨some 51, .call N_due_Pop [] [.t 50], none⟩, ⟨some 49, .mv (.t 51), none⟩, ⟨some 52, .ext (.t 49) 0, none⟩, ⟨some 53, .ext (.t 49) 1, none⟩, ⟨some 54, .ext (.t 49) 2, none⟩, ⟨some 10, .alloc (.d (.agg [.int .i64 0, .int .i64 0])), none⟩, ⟨some 9, .mv (.t 52), none⟩, ⟨none, .st 2 (.t 10) (.t 53), none⟩, ⟨some 11, .mv (.t 54), none⟩] [3, 46, 49, 50, 51, 52, 53, 54])
 (.seq (.seq (.draw [] [⟨some 55, .mv (.t 11), none⟩, ⟨some 56, .bin .neq (.t 55) (.c (.d (.int .i64 0))), none⟩, ⟨some 57, .mv (.t 56), none⟩, ⟨some 58, .mv (.t 9), some (57, false)⟩, ⟨some 59, .call N_due_Validate [] [.t 58], some (57, false)⟩, ⟨some 60, .bin .neq (.t 59) (.c (.d (.int .i64 0))), some (57, false)⟩, ⟨some 61, .pick (.t 57) (.c (.d (.bool true))) (.t 60), none⟩, ⟨some 62, .mv (.t 61), none⟩, ⟨some 63, .fad false 0 1 (.t 10), some (62, false)⟩, ⟨some 64, .ld false 1 (.t 63), some (62, false)⟩, ⟨some 65, .fad false 0 1 (.t 7), some (62, false)⟩, ⟨some 66, .ld false 1 (.t 65), some (62, false)⟩, ⟨some 67, .bin .lss (.t 64) (.t 66), some (62, false)⟩, ⟨some 68, .pick (.t 62) (.c (.d (.bool true))) (.t 67), none⟩, ⟨some 69, .mv (.t 68), none⟩, ⟨some 70, .fad false 0 1 (.t 10), some (69, false)⟩, ⟨some 71, .ld false 1 (.t 70), some (69, false)⟩, ⟨some 72, .fad false 0 1 (.t 7), some (69, false)⟩, ⟨some 73, .ld false 1 (.t 72), some (69, false)⟩, ⟨some 74, .bin .eql (.t 71) (.t 73), some (69, false)⟩, ⟨some 75, .mv (.t 74), some (69, false)⟩, ⟨some 76, .fad false 1 1 (.t 10), some (75, true)⟩, ⟨some 77, .ld false 1 (.t 76), some (75, true)⟩, ⟨some 78, .fad false 1 1 (.t 7), some (75, true)⟩, ⟨some 79, .ld false 1 (.t 78), some (75, true)⟩, ⟨some 80, .bin .leq (.t 77) (.t 79), some (75, true)⟩, ⟨some 81, .pick (.t 75) (.t 80) (.c (.d (.bool false))), some (69, false)⟩, ⟨some 82, .pick (.t 69) (.c (.d (.bool true))) (.t 81), none⟩, ⟨some 83, .mv (.t 82), none⟩, ⟨some 84, .fad false 1 1 (.t 10), some (83, false)⟩, ⟨some 85, .ld false 1 (.t 84), some (83, false)⟩, ⟨some 86, .bin .lss (.t 85) (.c (.d (.int .i64 1))), some (83, false)⟩, ⟨some 87, .pick (.t 83) (.c (.d (.bool true))) (.t 86), none⟩, ⟨some 88, .mv (.t 87), none⟩, ⟨some 89, .fad false 1 1 (.t 10), some (88, false)⟩, ⟨some 90, .ld false 1 (.t 89), some (88, false)⟩, ⟨some 91, .mv (.t 0), some (88, false)⟩, ⟨some 92, .len (.t 91), some (88, false)⟩, ⟨some 93, .bin .gtr (.t 90) (.t 92), some (88, false)⟩, ⟨some 94, .pick (.t 88) (.c (.d (.bool true))) (.t 93), none⟩, ⟨some 95, .mv (.t 94), none⟩, ⟨some 96, .fad false 0 1 (.t 10), some (95, false)⟩, ⟨some 97, .ld false 1 (.t 96), some (95, false)⟩, ⟨some 98, .mv (.t 0), some (95, false)⟩, ⟨some 99, .fad false 1 1 (.t 10), some (95, false)⟩, ⟨some 100, .ld false 1 (.t 99), some (95, false)⟩, ⟨some 101, .bin .sub (.t 100) (.c (.d (.int .i64 1))), some (95, false)⟩, ⟨some 102, .iad 1 (.t 98) (.t 101), some (95, false)⟩, ⟨some 103, .ld false 1 (.t 102), some (95, false)⟩, ⟨some 104, .bin .and (.t 103) (.c (.d (.int .i64 15))), some (95, false)⟩, ⟨some 105, .bin .neq (.t 97) (.t 104), some (95, false)⟩, ⟨some 106, .pick (.t 95) (.c (.d (.bool true))) (.t 105), none⟩] [[], [], [], [], [], [], [], [], [], [], [8, 9], [8, 9], [], [], [], [], [], [15, 16], [15, 16], [], [], [], [], [21, 22], [21, 22], [], [], [], [], [], [], [], [], [], [], [], [34, 35], [34, 35], [], [], [], [], [], [41, 42], [41, 42, 43], [41, 42, 43], [41, 42, 43], [41, 42], [41, 42], [41, 42], [], []] [11, 55, 56, 57, 58, 59, 60, 61, 62, 63, 64, 65, 66, 67, 68, 69, 70, 71, 72, 73, 74, 75, 76, 77, 78, 79, 80, 81, 82, 83, 84, 85, 86, 87, 88, 89, 90, 91, 92, 93, 94, 95, 96, 97, 98, 99, 100, 101, 102, 103, 104, 105])
 (.cond (.t 106) (.seq (.ops [] [⟨some 2, .mv (.c (.d (.bool false))), none⟩] [0, 7, 8, 9, 10, 106])
 (.ret [2])) .skip))
 (.draw [] [⟨some 107, .mv (.t 9), none⟩, ⟨some 108, .ld true 2 (.t 10), none⟩, ⟨some 3, .mv (.t 107), none⟩, ⟨none, .st 2 (.t 7) (.t 108), none⟩] [[], [0], [1], []] [9, 10, 106, 107, 108]))))
 (.ops [] [⟨some 47, .mv (.t 8), none⟩, ⟨some 48, .bin .add (.t 47) (.c (.d (.int .i64 1))), none⟩, ⟨some 8, .mv (.t 48), none⟩] [47, 48])))
def c_law05_DueSorts : ACode :=
 (.seq (.ops [] [⟨some 2, .mv (.c (.d (.bool false))), none⟩] [2])
 (.seq (.seq (.ops [] [⟨some 12, .mv (.t 0), none⟩, ⟨some 13, .len (.t 12), none⟩, ⟨some 14, .bin .gtr (.t 13) (.c (.d (.int .i64 12))), none⟩] [12, 13])
 (.cond (.t 14) (.seq (.ops [] [⟨some 2, .mv (.c (.d (.bool true))), none⟩] [0, 14])
 (.ret [2])) .skip))
 (.seq (.ops [] [⟨some 3, .mv (.c (.xsl [])), none⟩] [14])
 (.seq (.seq (.ops [] [⟨some 4, .mv (.c (.d (.int .i64 0))), none⟩] [])
 (.block 0 (.loop [] l_law05_DueSorts_0)))
 (.seq (.ops [] [⟨some 42, .build [.d (.int .i64 0), .d (.int .i64 0)] [(0, (1, .c (.d (.int .i64 (-1)))))], none⟩, ⟨some 7, .alloc (.d (.agg [.int .i64 0, .int .i64 0])), none⟩, ⟨none, .st 2 (.t 7) (.t 42), none⟩] [4, 18, 42])
 (.seq (.seq (.ops [] [⟨some 8, .mv (.c (.d (.int .i64 0))), none⟩] [])
 (.block 2 (.loop [] l_law05_DueSorts_1)))
 (.seq (.ops [] [⟨some 109, .mv (.t 3), none⟩, ⟨some 110, .len (.t 109), none⟩, ⟨some 111, .bin .eql (.t 110) (.c (.d (.int .i64 0))), none⟩, ⟨some 112, .mv (.t 111), none⟩, ⟨some 113, .call N_law05_awake [] [], some (112, true)⟩, ⟨some 114, .pick (.t 112) (.t 113) (.c (.d (.bool false))), none⟩, ⟨some 2, .mv (.t 114), none⟩] [0, 3, 7, 8, 46, 109, 110, 111, 112, 113, 114])
 (.ret [2]))))))))
def r_law05_DueSorts : List ARes := [.t 2]
def fn_law05_DueSorts : AFn := .code c_law05_DueSorts r_law05_DueSorts 115 true
/- shardqueue/shardqueuebase.New -/
def c_base_New : ACode :=
 (.seq (.ops [] [⟨some 2, .mv (.c .undef), none⟩] [2])
 (.seq (.seq (.ops [] [⟨some 3, .mv (.t 0), none⟩, ⟨some 4, .len (.t 3), none⟩, ⟨some 5, .bin .gtr (.t 4) (.c (.d (.int .i64 4000))), none⟩] [3, 4])
 (.cond (.t 5) (.ops [] [⟨some 6, .mv (.t 0), none⟩, ⟨some 7, .slc 1 (.t 6) none (some (.c (.d (.int .i64 4000)))) none, none⟩, ⟨some 0, .mv (.t 7), none⟩] [5, 6, 7]) .skip))
 (.seq (.ops [] [⟨some 8, .mv (.t 0), none⟩, ⟨some 9, .build [.xsl [], .d (.int .i64 0)] [(0, (1, .t 8))], none⟩, ⟨some 10, .box (.t 9), none⟩, ⟨some 2, .mv (.t 10), none⟩] [0, 5, 8, 9, 10])
 (.ret [2]))))
def r_base_New : List ARes := [.t 2]
def fn_base_New : AFn := .code c_base_New r_base_New 11 false
/- (*shardqueue/shardqueuebase.Src).Raw -/
def c_base_Src_Raw : ACode :=
 (.seq (.ops [] [⟨some 2, .mv (.c (.d (.int .i64 0))), none⟩] [2])
 (.seq (.seq (.draw [] [⟨some 3, .mv (.t 0), none⟩, ⟨some 4, .nilc (.t 3), none⟩, ⟨some 5, .fad false 1 1 (.t 4), none⟩, ⟨some 6, .ld false 1 (.t 5), none⟩, ⟨some 7, .mv (.t 0), none⟩, ⟨some 8, .nilc (.t 7), none⟩, ⟨some 9, .fad false 0 1 (.t 8), none⟩, ⟨some 10, .ld false 1 (.t 9), none⟩, ⟨some 11, .len (.t 10), none⟩, ⟨some 12, .bin .geq (.t 6) (.t 11), none⟩] [[], [], [], [], [0, 1, 2, 3], [0, 1, 2, 3], [0, 1, 2, 3], [0, 1, 2, 3], [0, 1, 2, 3], []] [3, 4, 5, 6, 7, 8, 9, 10, 11])
 (.cond (.t 12) (.seq (.ops [] [⟨some 2, .mv (.c (.d (.int .i64 0))), none⟩] [0, 12])
 (.ret [2])) .skip))
 (.seq (.ops [] [⟨some 13, .mv (.t 0), none⟩, ⟨some 14, .nilc (.t 13), none⟩, ⟨some 15, .fad false 1 1 (.t 14), none⟩, ⟨some 16, .ld false 1 (.t 15), none⟩, ⟨some 17, .bin .add (.t 16) (.c (.d (.int .i64 1))), none⟩, ⟨some 18, .nilc (.t 13), none⟩, ⟨some 19, .fad false 1 1 (.t 18), none⟩, ⟨none, .st 1 (.t 19) (.t 17), none⟩] [12, 13, 14, 15, 16, 17, 18, 19])
 (.seq (.draw [] [⟨some 20, .mv (.t 0), none⟩, ⟨some 21, .nilc (.t 20), none⟩, ⟨some 22, .fad false 0 1 (.t 21), none⟩, ⟨some 23, .ld false 1 (.t 22), none⟩, ⟨some 24, .mv (.t 0), none⟩, ⟨some 25, .nilc (.t 24), none⟩, ⟨some 26, .fad false 1 1 (.t 25), none⟩, ⟨some 27, .ld false 1 (.t 26), none⟩, ⟨some 28, .bin .sub (.t 27) (.c (.d (.int .i64 1))), none⟩, ⟨some 29, .iad 1 (.t 23) (.t 28), none⟩, ⟨some 30, .ld false 1 (.t 29), none⟩, ⟨some 2, .mv (.t 30), none⟩] [[], [], [], [], [0, 1, 2, 3], [0, 1, 2, 3], [0, 1, 2, 3], [0, 1, 2, 3], [0, 1, 2, 3], [], [], []] [0, 20, 21, 22, 23, 24, 25, 26, 27, 28, 29, 30])
 (.ret [2])))))
def r_base_Src_Raw : List ARes := [.t 2]
def fn_base_Src_Raw : AFn := .code c_base_Src_Raw r_base_Src_Raw 31 true
/- (*shardqueue/shardqueuebase.Src).N -/
def c_base_Src_N : ACode :=
 (.seq (.ops [] [⟨some 4, .mv (.c (.d (.int .i64 0))), none⟩] [4])
 (.seq (.seq (.ops [] [⟨some 6, .mv (.t 1), none⟩, ⟨some 7, .bin .lss (.t 6) (.c (.d (.int .i64 1))), none⟩] [6])
 (.cond (.t 7) (.seq (.ops [] [⟨some 4, .mv (.c (.d (.int .i64 0))), none⟩] [0, 1, 7])
 (.ret [4])) .skip))
 (.seq (.ops [] [⟨some 8, .mv (.t 0), none⟩, ⟨some 9, .call N_base_Src_Raw [true] [.t 8], none⟩, ⟨some 10, .mv (.t 1), none⟩, ⟨some 11, .bin .rem (.t 9) (.t 10), none⟩, ⟨some 5, .mv (.t 11), none⟩] [0, 7, 8, 9, 10, 11])
 (.seq (.seq (.ops [] [⟨some 12, .mv (.t 5), none⟩, ⟨some 13, .bin .lss (.t 12) (.c (.d (.int .i64 0))), none⟩] [12])
 (.cond (.t 13) (.ops [] [⟨some 14, .mv (.t 5), none⟩, ⟨some 15, .mv (.t 1), none⟩, ⟨some 16, .bin .add (.t 14) (.t 15), none⟩, ⟨some 5, .mv (.t 16), none⟩] [1, 13, 14, 15, 16]) .skip))
 (.seq (.ops [] [⟨some 17, .mv (.t 5), none⟩, ⟨some 4, .mv (.t 17), none⟩] [1, 5, 13, 17])
 (.ret [4]))))))
def r_base_Src_N : List ARes := [.t 4]
def fn_base_Src_N : AFn := .code c_base_Src_N r_base_Src_N 18 true
/- (*shardqueue/shardqueuebase.Src).Range -/
def c_base_Src_Range : ACode :=
 (.seq (.ops [] [⟨some 6, .mv (.c (.d (.int .i64 0))), none⟩] [6])
 (.seq (.ops [] [⟨some 7, .mv (.t 1), none⟩, ⟨some 8, .mv (.t 0), none⟩, ⟨some 9, .mv (.t 2), none⟩, ⟨some 10, .mv (.t 1), none⟩, ⟨some 11, .bin .sub (.t 9) (.t 10), none⟩, ⟨some 12, .bin .add (.t 11) (.c (.d (.int .i64 1))), none⟩, ⟨some 13, .call N_base_Src_N [true, false] [.t 8, .t 12], none⟩, ⟨some 14, .bin .add (.t 7) (.t 13), none⟩, ⟨some 6, .mv (.t 14), none⟩] [0, 1, 2, 7, 8, 9, 10, 11, 12, 13, 14])
 (.ret [6])))
def r_base_Src_Range : List ARes := [.t 6]
def fn_base_Src_Range : AFn := .code c_base_Src_Range r_base_Src_Range 15 true
/- shardqueue/shardqueueref05.before -/
def c_ref05_before : ACode :=
 (.seq (.ops [] [⟨some 2, .box (.t 0), none⟩, ⟨some 3, .box (.t 1), none⟩, ⟨some 4, .mv (.c (.d (.bool false))), none⟩] [0, 1, 4])
 (.seq (.ops [] [⟨some 5, .fad false 0 1 (.t 2), none⟩, ⟨some 6, .ld false 1 (.t 5), none⟩, ⟨some 7, .fad false 0 1 (.t 3), none⟩, ⟨some 8, .ld false 1 (.t 7), none⟩, ⟨some 9, .bin .lss (.t 6) (.t 8), none⟩, ⟨some 10, .mv (.t 9), none⟩, ⟨some 11, .fad false 0 1 (.t 2), some (10, false)⟩, ⟨some 12, .ld false 1 (.t 11), some (10, false)⟩, ⟨some 13, .fad false 0 1 (.t 3), some (10, false)⟩, ⟨some 14, .ld false 1 (.t 13), some (10, false)⟩, ⟨some 15, .bin .eql (.t 12) (.t 14), some (10, false)⟩, ⟨some 16, .mv (.t 15), some (10, false)⟩, ⟨some 17, .fad false 1 1 (.t 2), some (16, true)⟩, ⟨some 18, .ld false 1 (.t 17), some (16, true)⟩, ⟨some 19, .fad false 1 1 (.t 3), some (16, true)⟩, ⟨some 20, .ld false 1 (.t 19), some (16, true)⟩, ⟨some 21, .bin .lss (.t 18) (.t 20), some (16, true)⟩, ⟨some 22, .pick (.t 16) (.t 21) (.c (.d (.bool false))), some (10, false)⟩, ⟨some 23, .pick (.t 10) (.c (.d (.bool true))) (.t 22), none⟩, ⟨some 4, .mv (.t 23), none⟩] [2, 3, 5, 6, 7, 8, 9, 10, 11, 12, 13, 14, 15, 16, 17, 18, 19, 20, 21, 22, 23])
 (.ret [4])))
def r_ref05_before : List ARes := [.t 4]
def fn_ref05_before : AFn := .code c_ref05_before r_ref05_before 24 true
/- shardqueue/shardqueueref05.sound -/
def c_ref05_sound : ACode :=
 (.seq (.ops [] [⟨some 1, .box (.t 0), none⟩, ⟨some 2, .mv (.c (.d (.bool false))), none⟩] [0, 2])
 (.seq (.ops [] [⟨some 3, .fad false 0 1 (.t 1), none⟩, ⟨some 4, .ld false 1 (.t 3), none⟩, ⟨some 5, .bin .geq (.t 4) (.c (.d (.int .i64 0))), none⟩, ⟨some 6, .mv (.t 5), none⟩, ⟨some 7, .fad false 0 1 (.t 1), some (6, true)⟩, ⟨some 8, .ld false 1 (.t 7), some (6, true)⟩, ⟨some 9, .bin .leq (.t 8) (.c (.d (.int .i64 1073741824))), some (6, true)⟩, ⟨some 10, .pick (.t 6) (.t 9) (.c (.d (.bool false))), none⟩, ⟨some 11, .mv (.t 10), none⟩, ⟨some 12, .fad false 1 1 (.t 1), some (11, true)⟩, ⟨some 13, .ld false 1 (.t 12), some (11, true)⟩, ⟨some 14, .bin .geq (.t 13) (.c (.d (.int .i64 1))), some (11, true)⟩, ⟨some 15, .pick (.t 11) (.t 14) (.c (.d (.bool false))), none⟩, ⟨some 16, .mv (.t 15), none⟩, ⟨some 17, .fad false 1 1 (.t 1), some (16, true)⟩, ⟨some 18, .ld false 1 (.t 17), some (16, true)⟩, ⟨some 19, .bin .leq (.t 18) (.c (.d (.int .i64 1073741824))), some (16, true)⟩, ⟨some 20, .pick (.t 16) (.t 19) (.c (.d (.bool false))), none⟩, ⟨some 2, .mv (.t 20), none⟩] [1, 3, 4, 5, 6, 7, 8, 9, 10, 11, 12, 13, 14, 15, 16, 17, 18, 19, 20])
 (.ret [2])))
def r_ref05_sound : List ARes := [.t 2]
def fn_ref05_sound : AFn := .code c_ref05_sound r_ref05_sound 21 true
/- shardqueue/shardqueueref05.index -/
def l_ref05_index_0 : ACode :=
 (.seq (.seq (.ops [] [⟨some 6, .mv (.t 5), none⟩, ⟨some 7, .mv (.t 0), none⟩, ⟨some 8, .len (.t 7), none⟩, ⟨some 9, .bin .lss (.t 6) (.t 8), none⟩] [6, 7, 8])
 (.cond (.t 9) .skip (.exit 0 [])))
 (.seq (.block 1 (.seq (.ops [] [⟨some 12, .mv (.t 0), none⟩, ⟨some 13, .mv (.t 5), none⟩, ⟨some 14, .iad 2 (.t 12) (.t 13), none⟩, ⟨some 15, .fad false 1 1 (.t 14), none⟩, ⟨some 16, .ld false 1 (.t 15), none⟩, ⟨some 17, .mv (.t 1), none⟩, ⟨some 18, .bin .eql (.t 16) (.t 17), none⟩] [9, 12, 13, 14, 15, 16, 17])
 (.cond (.t 18) (.seq (.ops [] [⟨some 19, .mv (.t 5), none⟩, ⟨some 4, .mv (.t 19), none⟩] [0, 1, 5, 18, 19])
 (.ret [4])) .skip)))
 (.ops [] [⟨some 10, .mv (.t 5), none⟩, ⟨some 11, .bin .add (.t 10) (.c (.d (.int .i64 1))), none⟩, ⟨some 5, .mv (.t 11), none⟩] [10, 11, 18])))
def c_ref05_index : ACode :=
 (.seq (.ops [] [⟨some 4, .mv (.c (.d (.int .i64 0))), none⟩] [4])
 (.seq (.seq (.ops [] [⟨some 5, .mv (.c (.d (.int .i64 0))), none⟩] [])
 (.block 0 (.loop [] l_ref05_index_0)))
 (.seq (.ops [] [⟨some 4, .mv (.c (.d (.int .i64 (-1)))), none⟩] [0, 1, 5, 9])
 (.ret [4]))))
def r_ref05_index : List ARes := [.t 4]
def fn_ref05_index : AFn := .code c_ref05_index r_ref05_index 20 true
/- shardqueue/shardqueueref05.Validate -/
def l_ref05_Validate_0 : ACode :=
 (.seq (.seq (.ops [] [⟨some 9, .mv (.t 3), none⟩, ⟨some 10, .mv (.t 0), none⟩, ⟨some 11, .len (.t 10), none⟩, ⟨some 12, .bin .lss (.t 9) (.t 11), none⟩] [9, 10, 11])
 (.cond (.t 12) .skip (.exit 0 [0])))
 (.seq (.block 1 (.seq (.ops [] [⟨some 15, .mv (.t 0), none⟩, ⟨some 16, .mv (.t 3), none⟩, ⟨some 17, .iad 2 (.t 15) (.t 16), none⟩, ⟨some 18, .ld true 2 (.t 17), none⟩, ⟨some 19, .call N_ref05_sound [] [.t 18], none⟩, ⟨some 20, .un .not (.t 19), none⟩] [12, 15, 16, 17, 18, 19])
 (.cond (.t 20) (.seq (.ops [] [⟨some 2, .mv (.c (.d (.int .i64 1))), none⟩] [0, 3, 20])
 (.ret [2])) .skip)))
 (.ops [] [⟨some 13, .mv (.t 3), none⟩, ⟨some 14, .bin .add (.t 13) (.c (.d (.int .i64 1))), none⟩, ⟨some 3, .mv (.t 14), none⟩] [13, 14, 20])))
def l_ref05_Validate_1 : ACode :=
 (.seq (.seq (.ops [] [⟨some 21, .mv (.t 4), none⟩, ⟨some 22, .mv (.t 0), none⟩, ⟨some 23, .len (.t 22), none⟩, ⟨some 24, .bin .lss (.t 21) (.t 23), none⟩] [21, 22, 23])
 (.cond (.t 24) .skip (.exit 2 [0])))
 (.seq (.block 3 (.seq (.ops [] [⟨some 27, .mv (.t 0), none⟩, ⟨some 28, .mv (.t 0), none⟩, ⟨some 29, .mv (.t 4), none⟩, ⟨some 30, .iad 2 (.t 28) (.t 29), none⟩, ⟨some 31, .fad false 1 1 (.t 30), none⟩, ⟨some 32, .ld false 1 (.t 31), none⟩, ⟨some 33, .call N_ref05_index [] [.t 27, .t 32], none⟩, ⟨some 34, .mv (.t 4), none⟩, ⟨some 35, .bin .neq (.t 33) (.t 34), none⟩] [24, 27, 28, 29, 30, 31, 32, 33, 34])
 (.cond (.t 35) (.seq (.ops [] [⟨some 2, .mv (.c (.d (.int .i64 10))), none⟩] [0, 4, 35])
 (.ret [2])) .skip)))
 (.ops [] [⟨some 25, .mv (.t 4), none⟩, ⟨some 26, .bin .add (.t 25) (.c (.d (.int .i64 1))), none⟩, ⟨some 4, .mv (.t 26), none⟩] [25, 26, 35])))
def l_ref05_Validate_2 : ACode :=
 (.seq (.seq (.ops [] [⟨some 36, .mv (.t 5), none⟩, ⟨some 37, .mv (.t 0), none⟩, ⟨some 38, .len (.t 37), none⟩, ⟨some 39, .bin .lss (.t 36) (.t 38), none⟩] [36, 37, 38])
 (.cond (.t 39) .skip (.exit 4 [])))
 (.seq (.block 5 (.seq (.draw [] [⟨some 42, .mv (.t 0), none⟩, ⟨some 43, .mv (.t 5), none⟩, ⟨some 44, .iad 2 (.t 42) (.t 43), none⟩, ⟨some 45, .ld true 2 (.t 44), none⟩, ⟨some 46, .mv (.t 0), none⟩, ⟨some 47, .mv (.t 5), none⟩, ⟨some 48, .bin .sub (.t 47) (.c (.d (.int .i64 1))), none⟩, ⟨some 49, .bin .quo (.t 48) (.c (.d (.int .i64 2))), none⟩, ⟨some 50, .iad 2 (.t 46) (.t 49), none⟩, ⟨some 51, .ld true 2 (.t 50), none⟩, ⟨some 52, .call N_ref05_before [] [.t 45, .t 51], none⟩] [[], [0], [], [], [0, 1, 2, 3], [0, 1, 2, 3, 4], [0, 1, 2, 3, 4], [0, 1, 2, 3, 4], [0, 1, 2, 3], [0, 1, 2, 3], []] [39, 42, 43, 44, 45, 46, 47, 48, 49, 50, 51])
 (.cond (.t 52) (.seq (.ops [] [⟨some 2, .mv (.c (.d (.int .i64 11))), none⟩] [0, 5, 52])
 (.ret [2])) .skip)))
 (.ops [] [⟨some 40, .mv (.t 5), none⟩, ⟨some 41, .bin .add (.t 40) (.c (.d (.int .i64 1))), none⟩, ⟨some 5, .mv (.t 41), none⟩] [40, 41, 52])))
def c_ref05_Validate : ACode :=
 (.seq (.ops [] [⟨some 2, .mv (.c (.d (.int .i64 0))), none⟩] [2])
 (.seq (.seq (.ops [] [⟨some 6, .mv (.t 0), none⟩, ⟨some 7, .len (.t 6), none⟩, ⟨some 8, .bin .gtr (.t 7) (.c (.d (.int .i64 12))), none⟩] [6, 7])
 (.cond (.t 8) (.seq (.ops [] [⟨some 2, .mv (.c (.d (.int .i64 2))), none⟩] [0, 8])
 (.ret [2])) .skip))
 (.seq (.seq (.ops [] [⟨some 3, .mv (.c (.d (.int .i64 0))), none⟩] [8])
 (.block 0 (.loop [] l_ref05_Validate_0)))
 (.seq (.seq (.ops [] [⟨some 4, .mv (.c (.d (.int .i64 0))), none⟩] [3, 12])
 (.block 2 (.loop [] l_ref05_Validate_1)))
 (.seq (.seq (.ops [] [⟨some 5, .mv (.c (.d (.int .i64 1))), none⟩] [4, 24])
 (.block 4 (.loop [] l_ref05_Validate_2)))
 (.seq (.ops [] [⟨some 2, .mv (.c (.d (.int .i64 0))), none⟩] [0, 5, 39])
 (.ret [2])))))))
def r_ref05_Validate : List ARes := [.t 2]
def fn_ref05_Validate : AFn := .code c_ref05_Validate r_ref05_Validate 53 true
/- shardqueue/shardqueueref05.swap -/
def c_ref05_swap : ACode :=
 (.seq (.ops [] [⟨some 6, .mv (.c (.xsl [])), none⟩] [6])
 (.seq (.ops [] [⟨some 8, .mv (.t 0), none⟩, ⟨some 9, .app 2 (.c (.xsl [])) (.t 8), none⟩, ⟨some 7, .mv (.t 9), none⟩] [8, 9])
 (.seq (.draw [18] [⟨some 10, .mv (.t 7), none⟩, ⟨some 11, .mv (.t 1), none⟩, ⟨some 12, .mv (.t 7), none⟩, ⟨some 13, .mv (.t 2), none⟩, ⟨some 14, .mv (.t 0), none⟩, ⟨some 15, .mv (.t 2), none⟩, ⟨some 16, .iad 2 (.t 14) (.t 15), none⟩, ⟨some 17, .ld true 2 (.t 16), none⟩, ⟨some 18, .mv (.t 0), none⟩, ⟨some 19, .mv (.t 1), none⟩, ⟨some 20, .iad 2 (.t 18) (.t 19), none⟩, ⟨some 21, .ld true 2 (.t 20), none⟩, ⟨some 22, .iad 2 (.t 10) (.t 11), none⟩, ⟨none, .st 2 (.t 22) (.t 17), none⟩, ⟨some 23, .iad 2 (.t 12) (.t 13), none⟩, ⟨none, .st 2 (.t 23) (.t 21), none⟩] [[], [0], [0, 1], [0, 1, 2], [0, 1, 2, 3], [0, 1, 2, 3, 4], [0, 1, 2, 3], [0, 1, 2, 3], [0, 1, 2, 3, 4, 5, 6, 7], [0, 1, 2, 3, 4, 5, 6, 7, 8], [0, 1, 2, 3, 4, 5, 6, 7], [0, 1, 2, 3, 4, 5, 6, 7], [2, 3], [2, 3], [], []] [0, 1, 2, 10, 11, 12, 13, 14, 15, 16, 17, 18, 19, 20, 21, 22, 23])
 (.seq (.ops [] [⟨some 24, .mv (.t 7), none⟩, ⟨some 6, .mv (.t 24), none⟩] [7, 24])
 (.ret [6])))))
def r_ref05_swap : List ARes := [.t 6]
def fn_ref05_swap : AFn := .code c_ref05_swap r_ref05_swap 25 true
/- shardqueue/shardqueueref05.up -/
def l_ref05_up_0 : ACode :=
 (.seq (.seq (.draw [] [⟨some 5, .mv (.t 1), none⟩, ⟨some 6, .bin .gtr (.t 5) (.c (.d (.int .i64 0))), none⟩, ⟨some 7, .mv (.t 6), none⟩, ⟨some 8, .mv (.t 0), some (7, true)⟩, ⟨some 9, .mv (.t 1), some (7, true)⟩, ⟨some 10, .iad 2 (.t 8) (.t 9), some (7, true)⟩, ⟨some 11, .ld true 2 (.t 10), some (7, true)⟩, ⟨some 12, .mv (.t 0), some (7, true)⟩, ⟨some 13, .mv (.t 1), some (7, true)⟩, ⟨some 14, .bin .sub (.t 13) (.c (.d (.int .i64 1))), some (7, true)⟩, ⟨some 15, .bin .quo (.t 14) (.c (.d (.int .i64 2))), some (7, true)⟩, ⟨some 16, .iad 2 (.t 12) (.t 15), some (7, true)⟩, ⟨some 17, .ld true 2 (.t 16), some (7, true)⟩, ⟨some 18, .call N_ref05_before [] [.t 11, .t 17], some (7, true)⟩, ⟨some 19, .pick (.t 7) (.t 18) (.c (.d (.bool false))), none⟩] [[], [], [], [], [3], [], [], [3, 4, 5, 6], [3, 4, 5, 6, 7], [3, 4, 5, 6, 7], [3, 4, 5, 6, 7], [3, 4, 5, 6], [3, 4, 5, 6], [], []] [5, 6, 7, 8, 9, 10, 11, 12, 13, 14, 15, 16, 17, 18])
 (.cond (.t 19) .skip (.exit 0 [0])))
 (.block 1 (.seq (.ops [] [⟨some 20, .mv (.t 0), none⟩, ⟨some 21, .mv (.t 1), none⟩, ⟨some 22, .mv (.t 1), none⟩, ⟨some 23, .bin .sub (.t 22) (.c (.d (.int .i64 1))), none⟩, ⟨some 24, .bin .quo (.t 23) (.c (.d (.int .i64 2))), none⟩, ⟨some 25, .call N_ref05_swap [] [.t 20, .t 21, .t 24], none⟩, ⟨some 0, .mv (.t 25), none⟩] [19, 20, 21, 22, 23, 24, 25])
 (.ops [] [⟨some 26, .mv (.t 1), none⟩, ⟨some 27, .bin .sub (.t 26) (.c (.d (.int .i64 1))), none⟩, ⟨some 28, .bin .quo (.t 27) (.c (.d (.int .i64 2))), none⟩, ⟨some 1, .mv (.t 28), none⟩] [26, 27, 28]))))
def c_ref05_up : ACode :=
 (.seq (.ops [] [⟨some 4, .mv (.c (.xsl [])), none⟩] [4])
 (.seq (.block 0 (.loop [] l_ref05_up_0))
 (.seq (.ops [] [⟨some 29, .mv (.t 0), none⟩, ⟨some 4, .mv (.t 29), none⟩] [0, 1, 19, 29])
 (.ret [4]))))
def r_ref05_up : List ARes := [.t 4]
def fn_ref05_up : AFn := .code c_ref05_up r_ref05_up 30 true
/- shardqueue/shardqueueref05.Push -/
def c_ref05_Push : ACode :=
 (.seq (.ops [] [⟨some 3, .box (.t 1), none⟩, ⟨some 4, .mv (.c (.xsl [])), none⟩, ⟨some 5, .mv (.c (.d (.int .i64 0))), none⟩] [1, 4, 5])
 (.seq (.seq (.ops [] [⟨some 7, .mv (.t 0), none⟩, ⟨some 8, .call N_ref05_Validate [] [.t 7], none⟩, ⟨some 6, .mv (.t 8), none⟩] [7, 8])
 (.seq (.ops [] [⟨some 9, .mv (.t 6), none⟩, ⟨some 10, .bin .neq (.t 9) (.c (.d (.int .i64 0))), none⟩] [9])
 (.cond (.t 10) (.seq (.ops [] [⟨some 11, .mv (.t 6), none⟩, ⟨some 4, .mv (.c (.xsl [])), none⟩, ⟨some 5, .mv (.t 11), none⟩] [0, 3, 6, 10, 11])
 (.ret [4, 5])) .skip)))
 (.seq (.block 0 (.seq (.ops [] [⟨some 13, .ld true 2 (.t 3), none⟩, ⟨some 14, .call N_ref05_sound [] [.t 13], none⟩, ⟨some 15, .un .not (.t 14), none⟩, ⟨some 12, .mv (.t 15), none⟩] [6, 10, 13, 14, 15])
 (.cond (.t 12) (.seq (.ops [] [⟨some 4, .mv (.c (.xsl [])), none⟩, ⟨some 5, .mv (.c (.d (.int .i64 1))), none⟩] [0, 3, 12])
 (.ret [4, 5])) (.seq (.ops [] [⟨some 17, .mv (.t 0), none⟩, ⟨some 18, .len (.t 17), none⟩, ⟨some 19, .bin .eql (.t 18) (.c (.d (.int .i64 12))), none⟩, ⟨some 16, .mv (.t 19), none⟩] [12, 17, 18, 19])
 (.cond (.t 16) (.seq (.ops [] [⟨some 4, .mv (.c (.xsl [])), none⟩, ⟨some 5, .mv (.c (.d (.int .i64 3))), none⟩] [0, 3, 16])
 (.ret [4, 5])) (.seq (.ops [] [⟨some 21, .mv (.t 0), none⟩, ⟨some 22, .fad false 1 1 (.t 3), none⟩, ⟨some 23, .ld false 1 (.t 22), none⟩, ⟨some 24, .call N_ref05_index [] [.t 21, .t 23], none⟩, ⟨some 25, .bin .geq (.t 24) (.c (.d (.int .i64 0))), none⟩, ⟨some 20, .mv (.t 25), none⟩] [16, 21, 22, 23, 24, 25])
 (.cond (.t 20) (.seq (.ops [] [⟨some 4, .mv (.c (.xsl [])), none⟩, ⟨some 5, .mv (.c (.d (.int .i64 10))), none⟩] [0, 3, 20])
 (.ret [4, 5])) .skip)))))))
 (.seq (.draw [] [⟨some 26, .mv (.t 0), none⟩, ⟨some 27, .app 2 (.c (.xsl [])) (.t 26), none⟩, ⟨some 28, .ld true 2 (.t 3), none⟩, ⟨some 29, .bsl 1 2 (.d (.agg [.int .i64 0, .int .i64 0])) [(0, .t 28)], none⟩, ⟨some 30, .app 2 (.t 27) (.t 29), none⟩, ⟨some 31, .mv (.t 0), none⟩, ⟨some 32, .len (.t 31), none⟩, ⟨some 33, .call N_ref05_up [false, false, true] [.t 30, .t 32], none⟩, ⟨some 4, .mv (.t 33), none⟩, ⟨some 5, .mv (.c (.d (.int .i64 0))), none⟩] [[], [], [0, 1], [0, 1], [], [0, 1, 2, 3, 4], [0, 1, 2, 3, 4], [], [], []] [0, 3, 20, 26, 27, 28, 29, 30, 31, 32, 33])
 (.ret [4, 5])))))
def r_ref05_Push : List ARes := [.t 4, .t 5]
def fn_ref05_Push : AFn := .code c_ref05_Push r_ref05_Push 34 true
/- (*shardqueue/shardqueuebase.Src).Heap -/
def l_base_Src_Heap_0 : ACode :=
 (.seq (.seq (.ops [] [⟨some 9, .mv (.t 4), none⟩, ⟨some 10, .bin .gtr (.t 9) (.c (.d (.int .i64 0))), none⟩] [9])
 (.cond (.t 10) .skip (.exit 0 [3])))
 (.seq (.block 1 (.seq (.ops [] [⟨some 14, .mv (.t 3), none⟩, ⟨some 15, .mv (.t 0), none⟩, ⟨some 16, .call N_base_Src_N [true, false] [.t 15, .c (.d (.int .i64 12))], none⟩, ⟨some 17, .mv (.t 0), none⟩, ⟨some 18, .call N_base_Src_Range [true, false, false] [.t 17, .c (.d (.int .i64 1)), .c (.d (.int .i64 20))], none⟩, ⟨some 19, .build [.d (.int .i64 0), .d (.int .i64 0)] [(0, (1, .t 16)), (1, (1, .t 18))], none⟩, ⟨some 20, .call N_ref05_Push [] [.t 14, .t 19], none⟩, ⟨some 13, .mv (.t 20), none⟩, ⟨some 21, .ext (.t 13) 0, none⟩, ⟨some 22, .ext (.t 13) 1, none⟩, ⟨some 5, .mv (.t 21), none⟩, ⟨some 6, .mv (.t 22), none⟩] [10, 13, 14, 15, 16, 17, 18, 19, 20, 21, 22])
 (.seq (.ops [] [⟨some 23, .mv (.t 6), none⟩, ⟨some 24, .bin .eql (.t 23) (.c (.d (.int .i64 0))), none⟩] [6, 23])
 (.cond (.t 24) (.ops [] [⟨some 25, .mv (.t 5), none⟩, ⟨some 3, .mv (.t 25), none⟩] [5, 24, 25]) .skip))))
 (.ops [] [⟨some 11, .mv (.t 4), none⟩, ⟨some 12, .bin .sub (.t 11) (.c (.d (.int .i64 1))), none⟩, ⟨some 4, .mv (.t 12), none⟩] [5, 11, 12, 24])))
def c_base_Src_Heap : ACode :=
 (.seq (.ops [] [⟨some 2, .mv (.c (.xsl [])), none⟩] [2])
 (.seq (.ops [] [⟨some 3, .mv (.c (.xsl [])), none⟩] [])
 (.seq (.seq (.ops [] [⟨some 7, .mv (.t 0), none⟩, ⟨some 8, .call N_base_Src_N [true, false] [.t 7, .c (.d (.int .i64 13))], none⟩, ⟨some 4, .mv (.t 8), none⟩] [7, 8])
 (.block 0 (.loop [] l_base_Src_Heap_0)))
 (.seq (.ops [] [⟨some 26, .mv (.t 3), none⟩, ⟨some 2, .mv (.t 26), none⟩] [0, 3, 4, 10, 26])
 (.ret [2])))))
def r_base_Src_Heap : List ARes := [.t 2]
def fn_base_Src_Heap : AFn := .code c_base_Src_Heap r_base_Src_Heap 27 true
/- shardqueue/shardqueuelaw05.DueRemoves -/
def l_law05_DueRemoves_0 : ACode :=
 (.seq (.seq (.ops [] [⟨some 50, .mv (.t 9), none⟩, ⟨some 51, .mv (.t 5), none⟩, ⟨some 52, .len (.t 51), none⟩, ⟨some 53, .bin .lss (.t 50) (.t 52), none⟩] [50, 51, 52])
 (.cond (.t 53) .skip (.exit 4 [3, 4, 5, 7, 8])))
 (.seq (.block 5 (.draw [] [⟨some 56, .mv (.t 8), none⟩, ⟨some 57, .mv (.t 56), none⟩, ⟨some 58, .mv (.t 5), some (57, false)⟩, ⟨some 59, .mv (.t 9), some (57, false)⟩, ⟨some 60, .iad 2 (.t 58) (.t 59), some (57, false)⟩, ⟨some 61, .ld true 2 (.t 60), some (57, false)⟩, ⟨some 62, .mv (.t 3), some (57, false)⟩, ⟨some 63, .mv (.t 7), some (57, false)⟩, ⟨some 64, .iad 2 (.t 62) (.t 63), some (57, false)⟩, ⟨some 65, .ld true 2 (.t 64), some (57, false)⟩, ⟨some 66, .eqs false 2 [(0, 0), (1, 0)] (.t 61) (.t 65), some (57, false)⟩, ⟨some 67, .pick (.t 57) (.c (.d (.bool true))) (.t 66), none⟩, ⟨some 8, .mv (.t 67), none⟩] [[], [], [], [2], [], [], [2, 3, 4, 5], [2, 3, 4, 5, 6], [2, 3, 4, 5], [2, 3, 4, 5], [], [], []] [53, 56, 57, 58, 59, 60, 61, 62, 63, 64, 65, 66, 67]))
 (.ops [] [⟨some 54, .mv (.t 9), none⟩, ⟨some 55, .bin .add (.t 54) (.c (.d (.int .i64 1))), none⟩, ⟨some 9, .mv (.t 55), none⟩] [54, 55])))
def l_law05_DueRemoves_1 : ACode :=
 (.seq (.seq (.ops [] [⟨some 44, .mv (.t 7), none⟩, ⟨some 45, .mv (.t 3), none⟩, ⟨some 46, .len (.t 45), none⟩, ⟨some 47, .bin .lss (.t 44) (.t 46), none⟩] [44, 45, 46])
 (.cond (.t 47) .skip (.exit 2 [3, 4])))
 (.seq (.block 3 (.seq (.ops [] [⟨some 8, .mv (.c (.d (.bool false))), none⟩] [47])
 (.seq (.seq (.ops [] [⟨some 9, .mv (.c (.d (.int .i64 0))), none⟩] [])
 (.block 4 (.loop [] l_law05_DueRemoves_0)))
 (.seq (.ops [] [⟨some 68, .mv (.t 8), none⟩, ⟨some 69, .mv (.t 7), none⟩, ⟨some 70, .mv (.t 4), none⟩, ⟨some 71, .bin .eql (.t 69) (.t 70), none⟩, ⟨some 72, .eqb false (.t 68) (.t 71), none⟩] [8, 9, 53, 68, 69, 70, 71])
 (.cond (.t 72) (.seq (.ops [] [⟨some 2, .mv (.c (.d (.bool false))), none⟩] [3, 4, 5, 7, 72])
 (.ret [2])) .skip)))))
 (.ops [] [⟨some 48, .mv (.t 7), none⟩, ⟨some 49, .bin .add (.t 48) (.c (.d (.int .i64 1))), none⟩, ⟨some 7, .mv (.t 49), none⟩] [48, 49, 72])))
def l_law05_DueRemoves_2 : ACode :=
 (.seq (.seq (.ops [] [⟨some 13, .mv (.t 4), none⟩, ⟨some 14, .mv (.t 3), none⟩, ⟨some 15, .len (.t 14), none⟩, ⟨some 16, .bin .lss (.t 13) (.t 15), none⟩] [13, 14, 15])
 (.cond (.t 16) .skip (.exit 0 [])))
 (.seq (.block 1 (.seq (.ops [] [⟨some 20, .mv (.t 3), none⟩, ⟨some 21, .mv (.t 3), none⟩, ⟨some 22, .mv (.t 4), none⟩, ⟨some 23, .iad 2 (.t 21) (.t 22), none⟩, ⟨some 24, .fad false 1 1 (.t 23), none⟩, ⟨some 25, .ld false 1 (.t 24), none⟩, ⟨some 26, .call N_due_Remove [] [.t 20, .t 25], none⟩, ⟨some 19, .mv (.t 26), none⟩, ⟨some 27, .ext (.t 19) 0, none⟩, ⟨some 28, .ext (.t 19) 1, none⟩, ⟨some 5, .mv (.t 27), none⟩, ⟨some 6, .mv (.t 28), none⟩] [16, 19, 20, 21, 22, 23, 24, 25, 26, 27, 28])
 (.seq (.seq (.ops [] [⟨some 29, .mv (.t 6), none⟩, ⟨some 30, .bin .neq (.t 29) (.c (.d (.int .i64 0))), none⟩, ⟨some 31, .mv (.t 30), none⟩, ⟨some 32, .mv (.t 5), some (31, false)⟩, ⟨some 33, .call N_due_Validate [] [.t 32], some (31, false)⟩, ⟨some 34, .bin .neq (.t 33) (.c (.d (.int .i64 0))), some (31, false)⟩, ⟨some 35, .pick (.t 31) (.c (.d (.bool true))) (.t 34), none⟩, ⟨some 36, .mv (.t 35), none⟩, ⟨some 37, .mv (.t 5), some (36, false)⟩, ⟨some 38, .len (.t 37), some (36, false)⟩, ⟨some 39, .mv (.t 3), some (36, false)⟩, ⟨some 40, .len (.t 39), some (36, false)⟩, ⟨some 41, .bin .sub (.t 40) (.c (.d (.int .i64 1))), some (36, false)⟩, ⟨some 42, .bin .neq (.t 38) (.t 41), some (36, false)⟩, ⟨some 43, .pick (.t 36) (.c (.d (.bool true))) (.t 42), none⟩] [6, 29, 30, 31, 32, 33, 34, 35, 36, 37, 38, 39, 40, 41, 42])
 (.cond (.t 43) (.seq (.ops [] [⟨some 2, .mv (.c (.d (.bool false))), none⟩] [3, 4, 5, 43])
 (.ret [2])) .skip))
 (.seq (.ops [] [⟨some 7, .mv (.c (.d (.int .i64 0))), none⟩] [43])
 (.block 2 (.loop [] l_law05_DueRemoves_1))))))
 (.ops [] [⟨some 17, .mv (.t 4), none⟩, ⟨some 18, .bin .add (.t 17) (.c (.d (.int .i64 1))), none⟩, ⟨some 4, .mv (.t 18), none⟩] [5, 7, 17, 18, 47])))
def c_law05_DueRemoves : ACode :=
 (.seq (.ops [] [⟨some 2, .mv (.c (.d (.bool false))), none⟩] [2])
 (.seq (.ops [] [⟨some 10, .mv (.t 0), none⟩, ⟨some 11, .call N_base_New [] [.t 10], none⟩, ⟨some 12, .call N_base_Src_Heap [true] [.t 11], none⟩, ⟨some 3, .mv (.t 12), none⟩] [0, 10, 11, 12])
 (.seq (.seq (.ops [] [⟨some 4, .mv (.c (.d (.int .i64 0))), none⟩] [])
 (.block 0 (.loop [] l_law05_DueRemoves_2)))
 (.seq (.ops [] [⟨some 73, .call N_law05_awake [] [], none⟩, ⟨some 2, .mv (.t 73), none⟩] [3, 4, 16, 73])
 (.ret [2])))))
def r_law05_DueRemoves : List ARes := [.t 2]
def fn_law05_DueRemoves : AFn := .code c_law05_DueRemoves r_law05_DueRemoves 74 true
end Go.Proofs.Ytlphhhmicdjljaa
