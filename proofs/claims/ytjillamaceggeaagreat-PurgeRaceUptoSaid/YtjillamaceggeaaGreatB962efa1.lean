/-
  Functions of the program, as the calculus has them.
-/
import Derived.Test.YtjillamaceggeaaGreatB3cb969c
import Derived.Test.YtjillamaceggeaaGreatBf071f12
set_option linter.unusedSimpArgs false
set_option linter.unusedVariables false
namespace Go.Proofs.YtjillamaceggeaaGreat
open Go Go.Sim
def c_ref12_TryLock : ACode :=
 (.seq (.ops [] [⟨some 3, .box (.t 0), none⟩, ⟨some 6, .alloc (.agg [.xsl [], .xsl [], .d (.int .i64 0), .d (.int .i64 0), .xsl [], .d (.int .i64 0), .xsl [], .xsl [], .d (.int .i64 0), .d (.int .i64 0), .d (.int .i64 0)]), none⟩, ⟨some 7, .mv (.c (.d (.bool false))), none⟩, ⟨some 8, .mv (.c (.d (.int .i64 0))), none⟩] [0, 7, 8])
 (.seq (.seq (.ops [] [⟨some 9, .mv (.t 1), none⟩, ⟨some 10, .bin .lss (.t 9) (.c (.d (.int .i64 0))), none⟩, ⟨some 11, .mv (.t 10), none⟩, ⟨some 12, .mv (.t 1), some (11, false)⟩, ⟨some 13, .fad false 0 1 (.t 3), some (11, false)⟩, ⟨some 14, .ld false 1 (.t 13), some (11, false)⟩, ⟨some 15, .len (.t 14), some (11, false)⟩, ⟨some 16, .bin .gtr (.t 12) (.t 15), some (11, false)⟩, ⟨some 17, .pick (.t 11) (.c (.d (.bool true))) (.t 16), none⟩, ⟨some 18, .mv (.t 17), none⟩, ⟨some 19, .mv (.t 2), some (18, false)⟩, ⟨some 20, .call N_ref12_task [] [.t 19], some (18, false)⟩, ⟨some 21, .un .not (.t 20), some (18, false)⟩, ⟨some 22, .pick (.t 18) (.c (.d (.bool true))) (.t 21), none⟩] [9, 10, 11, 12, 13, 14, 15, 16, 17, 18, 19, 20, 21])
 (.cond (.t 22) (.seq (.ops [] [⟨some 23, .build [.xsl [], .xsl [], .d (.int .i64 0), .d (.int .i64 0), .xsl [], .d (.int .i64 0), .xsl [], .xsl [], .d (.int .i64 0), .d (.int .i64 0), .d (.int .i64 0)] [], none⟩, ⟨none, .st 11 (.t 6) (.t 23), none⟩, ⟨some 7, .mv (.c (.d (.bool false))), none⟩, ⟨some 8, .mv (.c (.d (.int .i64 1))), none⟩] [1, 2, 3, 22, 23])
 (.ret [6, 7, 8])) .skip))
 (.seq (.seq (.ops [] [⟨some 24, .ld true 11 (.t 3), none⟩, ⟨some 25, .mv (.t 1), none⟩, ⟨some 26, .call N_ref12_Owner [] [.t 24, .t 25], none⟩, ⟨some 27, .bin .neq (.t 26) (.c (.d (.int .i64 0))), none⟩] [22, 24, 25, 26])
 (.cond (.t 27) (.seq (.ops [] [⟨some 28, .ld true 11 (.t 3), none⟩, ⟨none, .st 11 (.t 6) (.t 28), none⟩, ⟨some 7, .mv (.c (.d (.bool false))), none⟩, ⟨some 8, .mv (.c (.d (.int .i64 0))), none⟩] [1, 2, 3, 27, 28])
 (.ret [6, 7, 8])) .skip))
 (.seq (.ops [] [⟨some 29, .ld true 11 (.t 3), none⟩, ⟨some 30, .mv (.t 1), none⟩, ⟨some 31, .mv (.t 2), none⟩, ⟨some 32, .call N_ref12_own [false, false, false, true] [.t 29, .t 30, .t 31], none⟩, ⟨none, .st 11 (.t 6) (.t 32), none⟩, ⟨some 7, .mv (.c (.d (.bool true))), none⟩, ⟨some 8, .mv (.c (.d (.int .i64 0))), none⟩] [1, 2, 3, 27, 29, 30, 31, 32])
 (.ret [6, 7, 8])))))
def r_ref12_TryLock : List ARes := [.c 6 true 11, .t 7, .t 8]
def fn_ref12_TryLock : AFn := .code c_ref12_TryLock r_ref12_TryLock 33 true
def c_ref12_task : ACode :=
 (.seq (.ops [] [⟨some 2, .mv (.c (.d (.bool false))), none⟩] [2])
 (.seq (.ops [] [⟨some 3, .mv (.t 0), none⟩, ⟨some 4, .bin .geq (.t 3) (.c (.d (.int .i64 1))), none⟩, ⟨some 5, .mv (.t 4), none⟩, ⟨some 6, .mv (.t 0), some (5, true)⟩, ⟨some 7, .bin .leq (.t 6) (.c (.d (.int .i64 200))), some (5, true)⟩, ⟨some 8, .pick (.t 5) (.t 7) (.c (.d (.bool false))), none⟩, ⟨some 2, .mv (.t 8), none⟩] [0, 3, 4, 5, 6, 7, 8])
 (.ret [2])))
def r_ref12_task : List ARes := [.t 2]
def fn_ref12_task : AFn := .code c_ref12_task r_ref12_task 9 true
def c_ref12_Owner : ACode :=
 (.seq (.ops [] [⟨some 2, .box (.t 0), none⟩, ⟨some 4, .mv (.c (.d (.int .i64 0))), none⟩] [0, 4])
 (.seq (.seq (.ops [] [⟨some 5, .mv (.t 1), none⟩, ⟨some 6, .fad false 0 1 (.t 2), none⟩, ⟨some 7, .ld false 1 (.t 6), none⟩, ⟨some 8, .len (.t 7), none⟩, ⟨some 9, .bin .eql (.t 5) (.t 8), none⟩] [5, 6, 7, 8])
 (.cond (.t 9) (.seq (.ops [] [⟨some 10, .fad true 2 3 (.t 2), none⟩, ⟨some 11, .fad false 0 1 (.t 10), none⟩, ⟨some 12, .ld false 1 (.t 11), none⟩, ⟨some 4, .mv (.t 12), none⟩] [1, 2, 9, 10, 11, 12])
 (.ret [4])) .skip))
 (.seq (.ops [] [⟨some 13, .fad false 0 1 (.t 2), none⟩, ⟨some 14, .ld false 1 (.t 13), none⟩, ⟨some 15, .mv (.t 1), none⟩, ⟨some 16, .iad 9 (.t 14) (.t 15), none⟩, ⟨some 17, .fad false 0 1 (.t 16), none⟩, ⟨some 18, .ld false 1 (.t 17), none⟩, ⟨some 4, .mv (.t 18), none⟩] [1, 2, 9, 13, 14, 15, 16, 17, 18])
 (.ret [4]))))
def r_ref12_Owner : List ARes := [.t 4]
def fn_ref12_Owner : AFn := .code c_ref12_Owner r_ref12_Owner 19 true
def c_ref12_own : ACode :=
 (.seq (.ops [] [⟨some 3, .box (.t 0), none⟩, ⟨some 6, .alloc (.agg [.xsl [], .xsl [], .d (.int .i64 0), .d (.int .i64 0), .xsl [], .d (.int .i64 0), .xsl [], .xsl [], .d (.int .i64 0), .d (.int .i64 0), .d (.int .i64 0)]), none⟩] [0])
 (.seq (.seq (.ops [] [⟨some 7, .mv (.t 1), none⟩, ⟨some 8, .fad false 0 1 (.t 3), none⟩, ⟨some 9, .ld false 1 (.t 8), none⟩, ⟨some 10, .len (.t 9), none⟩, ⟨some 11, .bin .eql (.t 7) (.t 10), none⟩] [7, 8, 9, 10])
 (.cond (.t 11) (.seq (.ops [] [⟨some 12, .mv (.t 2), none⟩, ⟨some 13, .fad true 2 3 (.t 3), none⟩, ⟨some 14, .fad false 0 1 (.t 13), none⟩, ⟨none, .st 1 (.t 14) (.t 12), none⟩] [1, 2, 11, 12, 13, 14])
 (.seq (.ops [] [⟨some 15, .ld true 11 (.t 3), none⟩, ⟨none, .st 11 (.t 6) (.t 15), none⟩] [3, 15])
 (.ret [6]))) .skip))
 (.seq (.ops [] [⟨some 16, .fad false 0 1 (.t 3), none⟩, ⟨some 17, .ld false 1 (.t 16), none⟩, ⟨some 18, .app 9 (.c (.xsl [])) (.t 17), none⟩, ⟨some 19, .fad false 0 1 (.t 3), none⟩, ⟨none, .st 1 (.t 19) (.t 18), none⟩] [11, 16, 17, 18, 19])
 (.seq (.ops [36] [⟨some 20, .fad false 0 1 (.t 3), none⟩, ⟨some 21, .ld false 1 (.t 20), none⟩, ⟨some 22, .mv (.t 1), none⟩, ⟨some 23, .mv (.t 2), none⟩, ⟨some 24, .iad 9 (.t 21) (.t 22), none⟩, ⟨some 25, .fad false 0 1 (.t 24), none⟩, ⟨none, .st 1 (.t 25) (.t 23), none⟩] [1, 2, 20, 21, 22, 23, 24, 25])
 (.seq (.ops [] [⟨some 26, .ld true 11 (.t 3), none⟩, ⟨none, .st 11 (.t 6) (.t 26), none⟩] [3, 26])
 (.ret [6]))))))
def r_ref12_own : List ARes := [.c 6 true 11]
def fn_ref12_own : AFn := .code c_ref12_own r_ref12_own 27 true
def c_ref12_Unlock : ACode :=
 (.seq (.ops [] [⟨some 3, .box (.t 0), none⟩, ⟨some 6, .alloc (.agg [.xsl [], .xsl [], .d (.int .i64 0), .d (.int .i64 0), .xsl [], .d (.int .i64 0), .xsl [], .xsl [], .d (.int .i64 0), .d (.int .i64 0), .d (.int .i64 0)]), none⟩, ⟨some 7, .mv (.c (.d (.int .i64 0))), none⟩] [0, 7])
 (.seq (.seq (.ops [] [⟨some 8, .mv (.t 1), none⟩, ⟨some 9, .bin .lss (.t 8) (.c (.d (.int .i64 0))), none⟩, ⟨some 10, .mv (.t 9), none⟩, ⟨some 11, .mv (.t 1), some (10, false)⟩, ⟨some 12, .fad false 0 1 (.t 3), some (10, false)⟩, ⟨some 13, .ld false 1 (.t 12), some (10, false)⟩, ⟨some 14, .len (.t 13), some (10, false)⟩, ⟨some 15, .bin .gtr (.t 11) (.t 14), some (10, false)⟩, ⟨some 16, .pick (.t 10) (.c (.d (.bool true))) (.t 15), none⟩, ⟨some 17, .mv (.t 16), none⟩, ⟨some 18, .mv (.t 2), some (17, false)⟩, ⟨some 19, .call N_ref12_task [] [.t 18], some (17, false)⟩, ⟨some 20, .un .not (.t 19), some (17, false)⟩, ⟨some 21, .pick (.t 17) (.c (.d (.bool true))) (.t 20), none⟩] [8, 9, 10, 11, 12, 13, 14, 15, 16, 17, 18, 19, 20])
 (.cond (.t 21) (.seq (.ops [] [⟨some 22, .build [.xsl [], .xsl [], .d (.int .i64 0), .d (.int .i64 0), .xsl [], .d (.int .i64 0), .xsl [], .xsl [], .d (.int .i64 0), .d (.int .i64 0), .d (.int .i64 0)] [], none⟩, ⟨none, .st 11 (.t 6) (.t 22), none⟩, ⟨some 7, .mv (.c (.d (.int .i64 1))), none⟩] [1, 2, 3, 21, 22])
 (.ret [6, 7])) .skip))
 (.seq (.seq (.ops [] [⟨some 23, .ld true 11 (.t 3), none⟩, ⟨some 24, .mv (.t 1), none⟩, ⟨some 25, .call N_ref12_Owner [] [.t 23, .t 24], none⟩, ⟨some 26, .mv (.t 2), none⟩, ⟨some 27, .bin .neq (.t 25) (.t 26), none⟩] [2, 21, 23, 24, 25, 26])
 (.cond (.t 27) (.seq (.ops [] [⟨some 28, .build [.xsl [], .xsl [], .d (.int .i64 0), .d (.int .i64 0), .xsl [], .d (.int .i64 0), .xsl [], .xsl [], .d (.int .i64 0), .d (.int .i64 0), .d (.int .i64 0)] [], none⟩, ⟨none, .st 11 (.t 6) (.t 28), none⟩, ⟨some 7, .mv (.c (.d (.int .i64 13))), none⟩] [1, 3, 27, 28])
 (.ret [6, 7])) .skip))
 (.seq (.ops [] [⟨some 29, .ld true 11 (.t 3), none⟩, ⟨some 30, .mv (.t 1), none⟩, ⟨some 31, .call N_ref12_own [false, false, false, true] [.t 29, .t 30, .c (.d (.int .i64 0))], none⟩, ⟨none, .st 11 (.t 6) (.t 31), none⟩, ⟨some 7, .mv (.c (.d (.int .i64 0))), none⟩] [1, 3, 27, 29, 30, 31])
 (.ret [6, 7])))))
def r_ref12_Unlock : List ARes := [.c 6 true 11, .t 7]
def fn_ref12_Unlock : AFn := .code c_ref12_Unlock r_ref12_Unlock 32 true
def c_ref15_enter : ACode :=
 (.seq (.ops [] [⟨some 2, .box (.t 0), none⟩, ⟨some 4, .alloc (.agg [.d (.int .i64 0), .d (.int .i64 0), .xsl [], .d (.int .i64 0), .d (.int .i64 0), .d (.int .i64 0), .d (.int .i64 0), .d (.int .i64 0), .d (.int .i64 0), .d (.int .i64 0), .d (.int .i64 0), .xsl [], .d (.int .i64 0), .xsl [], .xsl [], .d (.int .i64 0), .xsl [], .xsl [], .xsl [], .d (.int .i64 0), .xsl [], .xsl [], .xsl [], .xsl [], .d (.int .i64 0), .xsl []]), none⟩] [0])
 (.seq (.ops [] [⟨some 5, .mv (.t 1), none⟩, ⟨some 6, .fad false 0 1 (.t 2), none⟩, ⟨none, .st 1 (.t 6) (.t 5), none⟩, ⟨some 7, .fad false 1 1 (.t 2), none⟩, ⟨none, .st 1 (.t 7) (.c (.d (.int .i64 0))), none⟩] [1, 5, 6, 7])
 (.seq (.ops [] [⟨some 8, .ld true 26 (.t 2), none⟩, ⟨none, .st 26 (.t 4) (.t 8), none⟩] [2, 8])
 (.ret [4]))))
def r_ref15_enter : List ARes := [.c 4 true 26]
def fn_ref15_enter : AFn := .code c_ref15_enter r_ref15_enter 9 true
def l_ref15_slots_0 : ACode :=
 (.seq (.seq (.ops [] [⟨some 7, .mv (.t 6), none⟩, ⟨some 8, .fad true 2 5 (.t 3), none⟩, ⟨some 9, .fad false 0 1 (.t 8), none⟩, ⟨some 10, .ld false 1 (.t 9), none⟩, ⟨some 11, .len (.t 10), none⟩, ⟨some 12, .bin .lss (.t 7) (.t 11), none⟩] [7, 8, 9, 10, 11])
 (.cond (.t 12) .skip (.exit 0 [5])))
 (.seq (.block 1 (.seq (.draw [] [⟨some 15, .fad true 2 5 (.t 3), none⟩, ⟨some 16, .fad false 0 1 (.t 15), none⟩, ⟨some 17, .ld false 1 (.t 16), none⟩, ⟨some 18, .mv (.t 6), none⟩, ⟨some 19, .iad 1 (.t 17) (.t 18), none⟩, ⟨some 20, .ld false 1 (.t 19), none⟩, ⟨some 21, .fad false 0 1 (.t 2), none⟩, ⟨some 22, .ld false 1 (.t 21), none⟩, ⟨some 23, .len (.t 22), none⟩, ⟨some 24, .bin .lss (.t 20) (.t 23), none⟩] [[], [], [], [0, 1, 2], [], [], [0, 1, 2, 3, 4, 5], [0, 1, 2, 3, 4, 5], [0, 1, 2, 3, 4, 5], []] [12, 15, 16, 17, 18, 19, 20, 21, 22, 23])
 (.cond (.t 24) (.ops [] [⟨some 25, .mv (.t 5), none⟩, ⟨some 26, .bin .add (.t 25) (.c (.d (.int .i64 1))), none⟩, ⟨some 5, .mv (.t 26), none⟩] [24, 25, 26]) .skip)))
 (.ops [] [⟨some 13, .mv (.t 6), none⟩, ⟨some 14, .bin .add (.t 13) (.c (.d (.int .i64 1))), none⟩, ⟨some 6, .mv (.t 14), none⟩] [13, 14, 24])))
def c_ref15_slots : ACode :=
 (.seq (.ops [] [⟨some 2, .box (.t 0), none⟩, ⟨some 3, .box (.t 1), none⟩, ⟨some 4, .mv (.c (.d (.int .i64 0))), none⟩] [0, 1, 4])
 (.seq (.ops [] [⟨some 5, .mv (.c (.d (.int .i64 0))), none⟩] [])
 (.seq (.seq (.ops [] [⟨some 6, .mv (.c (.d (.int .i64 0))), none⟩] [])
 (.block 0 (.loop [] l_ref15_slots_0)))
 (.seq (.ops [] [⟨some 27, .mv (.t 5), none⟩, ⟨some 4, .mv (.t 27), none⟩] [2, 3, 5, 6, 12, 27])
 (.ret [4])))))
def r_ref15_slots : List ARes := [.t 4]
def fn_ref15_slots : AFn := .code c_ref15_slots r_ref15_slots 28 true
def c_ref15_mark : ACode :=
 (.seq (.ops [] [⟨some 3, .box (.t 0), none⟩, ⟨some 4, .box (.t 1), none⟩, ⟨some 6, .alloc (.agg [.xsl [], .xsl [], .d (.int .i64 0), .d (.int .i64 0), .xsl [], .d (.int .i64 0), .xsl [], .xsl [], .d (.int .i64 0), .d (.int .i64 0), .d (.int .i64 0)]), none⟩, ⟨some 7, .alloc (.agg [.d (.int .i64 0), .d (.int .i64 0), .xsl [], .d (.int .i64 0), .d (.int .i64 0), .d (.int .i64 0), .d (.int .i64 0), .d (.int .i64 0), .d (.int .i64 0), .d (.int .i64 0), .d (.int .i64 0), .xsl [], .d (.int .i64 0), .xsl [], .xsl [], .d (.int .i64 0), .xsl [], .xsl [], .xsl [], .d (.int .i64 0), .xsl [], .xsl [], .xsl [], .xsl [], .d (.int .i64 0), .xsl []]), none⟩, ⟨some 8, .mv (.c (.d (.int .i64 0))), none⟩] [0, 1, 8])
 (.seq (.ops [] [⟨some 15, .fad false 1 1 (.t 4), none⟩, ⟨some 16, .ld false 1 (.t 15), none⟩, ⟨some 17, .bin .quo (.t 16) (.c (.d (.int .i64 2))), none⟩, ⟨some 9, .mv (.t 17), none⟩] [15, 16, 17])
 (.seq (.ops [] [⟨some 18, .fad true 2 5 (.t 4), none⟩, ⟨some 19, .fad false 0 1 (.t 18), none⟩, ⟨some 20, .ld false 1 (.t 19), none⟩, ⟨some 21, .mv (.t 9), none⟩, ⟨some 22, .iad 1 (.t 20) (.t 21), none⟩, ⟨some 23, .ld false 1 (.t 22), none⟩, ⟨some 10, .mv (.t 23), none⟩] [18, 19, 20, 21, 22, 23])
 (.seq (.seq (.ops [] [⟨some 24, .fad false 1 1 (.t 4), none⟩, ⟨some 25, .ld false 1 (.t 24), none⟩, ⟨some 26, .bin .rem (.t 25) (.c (.d (.int .i64 2))), none⟩, ⟨some 27, .bin .eql (.t 26) (.c (.d (.int .i64 0))), none⟩] [24, 25, 26])
 (.cond (.t 27) (.seq (.ops [] [⟨some 29, .ld true 11 (.t 3), none⟩, ⟨some 30, .mv (.t 10), none⟩, ⟨some 31, .call N_ref12_LoadStripe [] [.t 29, .t 30], none⟩, ⟨some 28, .mv (.t 31), none⟩, ⟨some 32, .ext (.t 28) 0, none⟩, ⟨some 33, .ext (.t 28) 1, none⟩, ⟨some 11, .alloc (.d (.agg [.int .i64 0, .int .i64 0, .int .i64 0, .int .i64 0])), none⟩, ⟨none, .st 4 (.t 11) (.t 32), none⟩, ⟨some 12, .mv (.t 33), none⟩] [2, 9, 10, 27, 28, 29, 30, 31, 32, 33])
 (.seq (.draw [] [⟨some 34, .fad false 14 1 (.t 4), none⟩, ⟨some 35, .ld false 1 (.t 34), none⟩, ⟨some 36, .app 4 (.c (.xsl [])) (.t 35), none⟩, ⟨some 37, .ld true 4 (.t 11), none⟩, ⟨some 38, .bsl 1 4 (.d (.agg [.int .i64 0, .int .i64 0, .int .i64 0, .int .i64 0])) [(0, .t 37)], none⟩, ⟨some 39, .app 4 (.t 36) (.t 38), none⟩, ⟨some 40, .fad false 14 1 (.t 4), none⟩, ⟨none, .st 1 (.t 40) (.t 39), none⟩] [[], [], [], [0, 1, 2], [0, 1, 2], [], [], []] [11, 34, 35, 36, 37, 38, 39, 40])
 (.seq (.ops [] [⟨some 41, .fad false 1 1 (.t 4), none⟩, ⟨some 42, .ld false 1 (.t 41), none⟩, ⟨some 43, .bin .add (.t 42) (.c (.d (.int .i64 1))), none⟩, ⟨some 44, .fad false 1 1 (.t 4), none⟩, ⟨none, .st 1 (.t 44) (.t 43), none⟩] [41, 42, 43, 44])
 (.seq (.draw [] [⟨some 45, .ld true 11 (.t 3), none⟩, ⟨some 46, .ld true 26 (.t 4), none⟩, ⟨some 47, .mv (.t 12), none⟩, ⟨none, .st 11 (.t 6) (.t 45), none⟩, ⟨none, .st 26 (.t 7) (.t 46), none⟩, ⟨some 8, .mv (.t 47), none⟩] [[], [0], [0, 1], [1, 2], [2], []] [3, 4, 12, 45, 46, 47])
 (.ret [6, 7, 8]))))) .skip))
 (.seq (.ops [] [⟨some 49, .fad false 14 1 (.t 4), none⟩, ⟨some 50, .ld false 1 (.t 49), none⟩, ⟨some 51, .mv (.t 9), none⟩, ⟨some 52, .iad 4 (.t 50) (.t 51), none⟩, ⟨some 53, .ld true 4 (.t 52), none⟩, ⟨some 54, .call N_ref11_Begin [] [.t 53], none⟩, ⟨some 48, .mv (.t 54), none⟩, ⟨some 55, .ext (.t 48) 0, none⟩, ⟨some 56, .ext (.t 48) 1, none⟩, ⟨some 13, .alloc (.d (.agg [.int .i64 0, .int .i64 0, .int .i64 0, .int .i64 0])), none⟩, ⟨none, .st 4 (.t 13) (.t 55), none⟩, ⟨some 14, .mv (.t 56), none⟩] [27, 48, 49, 50, 51, 52, 53, 54, 55, 56])
 (.seq (.seq (.ops [] [⟨some 57, .mv (.t 14), none⟩, ⟨some 58, .bin .neq (.t 57) (.c (.d (.int .i64 0))), none⟩] [57])
 (.cond (.t 58) (.seq (.draw [] [⟨some 59, .ld true 11 (.t 3), none⟩, ⟨some 60, .ld true 26 (.t 4), none⟩, ⟨some 61, .mv (.t 14), none⟩, ⟨none, .st 11 (.t 6) (.t 59), none⟩, ⟨none, .st 26 (.t 7) (.t 60), none⟩, ⟨some 8, .mv (.t 61), none⟩] [[], [0], [0, 1], [1, 2], [2], []] [2, 3, 4, 9, 10, 13, 14, 58, 59, 60, 61])
 (.ret [6, 7, 8])) .skip))
 (.seq (.draw [] [⟨some 62, .fad false 14 1 (.t 4), none⟩, ⟨some 63, .ld false 1 (.t 62), none⟩, ⟨some 64, .mv (.t 9), none⟩, ⟨some 65, .slc 4 (.t 63) none (some (.t 64)) none, none⟩, ⟨some 66, .app 4 (.c (.xsl [])) (.t 65), none⟩, ⟨some 67, .ld true 4 (.t 13), none⟩, ⟨some 68, .bsl 1 4 (.d (.agg [.int .i64 0, .int .i64 0, .int .i64 0, .int .i64 0])) [(0, .t 67)], none⟩, ⟨some 69, .app 4 (.t 66) (.t 68), none⟩, ⟨some 70, .fad false 14 1 (.t 4), none⟩, ⟨none, .st 1 (.t 70) (.t 69), none⟩] [[], [], [0, 1], [], [], [0, 1, 2, 3, 4], [0, 1, 2, 3, 4], [], [], []] [9, 14, 58, 62, 63, 64, 65, 66, 67, 68, 69, 70])
 (.seq (.ops [] [⟨some 72, .ld true 11 (.t 3), none⟩, ⟨some 73, .mv (.t 10), none⟩, ⟨some 74, .mv (.t 2), none⟩, ⟨some 75, .ld true 4 (.t 13), none⟩, ⟨some 76, .call N_ref12_StoreStripe [false, false, false, false, true] [.t 72, .t 73, .t 74, .t 75], none⟩, ⟨some 71, .mv (.t 76), none⟩, ⟨some 77, .ext (.t 71) 0, none⟩, ⟨some 78, .ext (.t 71) 1, none⟩, ⟨none, .st 11 (.t 3) (.t 77), none⟩, ⟨some 14, .mv (.t 78), none⟩] [2, 10, 13, 71, 72, 73, 74, 75, 76, 77, 78])
 (.seq (.ops [] [⟨some 79, .fad false 1 1 (.t 4), none⟩, ⟨some 80, .ld false 1 (.t 79), none⟩, ⟨some 81, .bin .add (.t 80) (.c (.d (.int .i64 1))), none⟩, ⟨some 82, .fad false 1 1 (.t 4), none⟩, ⟨none, .st 1 (.t 82) (.t 81), none⟩] [79, 80, 81, 82])
 (.seq (.seq (.draw [] [⟨some 83, .mv (.t 14), none⟩, ⟨some 84, .bin .eql (.t 83) (.c (.d (.int .i64 0))), none⟩, ⟨some 85, .mv (.t 84), none⟩, ⟨some 86, .fad false 1 1 (.t 4), some (85, true)⟩, ⟨some 87, .ld false 1 (.t 86), some (85, true)⟩, ⟨some 88, .ld true 11 (.t 3), some (85, true)⟩, ⟨some 89, .ld true 26 (.t 4), some (85, true)⟩, ⟨some 90, .call N_ref15_slots [] [.t 88, .t 89], some (85, true)⟩, ⟨some 91, .bin .mul (.c (.d (.int .i64 2))) (.t 90), some (85, true)⟩, ⟨some 92, .bin .eql (.t 87) (.t 91), some (85, true)⟩, ⟨some 93, .pick (.t 85) (.t 92) (.c (.d (.bool false))), none⟩] [[], [], [], [], [], [3, 4], [3, 4, 5], [3, 4], [3, 4], [], []] [83, 84, 85, 86, 87, 88, 89, 90, 91, 92])
 (.cond (.t 93) (.ops [] [⟨some 94, .ld true 26 (.t 4), none⟩, ⟨some 95, .call N_ref15_enter [false, false, true] [.t 94, .c (.d (.int .i64 2))], none⟩, ⟨none, .st 26 (.t 4) (.t 95), none⟩] [93, 94, 95]) .skip))
 (.seq (.draw [] [⟨some 96, .ld true 11 (.t 3), none⟩, ⟨some 97, .ld true 26 (.t 4), none⟩, ⟨some 98, .mv (.t 14), none⟩, ⟨none, .st 11 (.t 6) (.t 96), none⟩, ⟨none, .st 26 (.t 7) (.t 97), none⟩, ⟨some 8, .mv (.t 98), none⟩] [[], [0], [0, 1], [1, 2], [2], []] [3, 4, 14, 93, 96, 97, 98])
 (.ret [6, 7, 8]))))))))))))
def r_ref15_mark : List ARes := [.c 6 true 11, .c 7 true 26, .t 8]
def fn_ref15_mark : AFn := .code c_ref15_mark r_ref15_mark 99 true
def c_ref12_LoadStripe : ACode :=
 (.seq (.ops [] [⟨some 2, .box (.t 0), none⟩, ⟨some 4, .alloc (.d (.agg [.int .i64 0, .int .i64 0, .int .i64 0, .int .i64 0])), none⟩, ⟨some 5, .mv (.c (.d (.int .i64 0))), none⟩] [0, 5])
 (.seq (.seq (.ops [] [⟨some 6, .ld true 11 (.t 2), none⟩, ⟨some 7, .mv (.t 1), none⟩, ⟨some 8, .call N_ref12_slot [] [.t 6, .t 7], none⟩, ⟨some 9, .un .not (.t 8), none⟩] [6, 7, 8])
 (.cond (.t 9) (.seq (.ops [] [⟨some 10, .build [.d (.int .i64 0), .d (.int .i64 0), .d (.int .i64 0), .d (.int .i64 0)] [], none⟩, ⟨none, .st 4 (.t 4) (.t 10), none⟩, ⟨some 5, .mv (.c (.d (.int .i64 1))), none⟩] [1, 2, 9, 10])
 (.ret [4, 5])) .skip))
 (.seq (.ops [] [⟨some 11, .fad false 1 1 (.t 2), none⟩, ⟨some 12, .ld false 1 (.t 11), none⟩, ⟨some 13, .mv (.t 1), none⟩, ⟨some 14, .iad 4 (.t 12) (.t 13), none⟩, ⟨some 15, .ld true 4 (.t 14), none⟩, ⟨none, .st 4 (.t 4) (.t 15), none⟩, ⟨some 5, .mv (.c (.d (.int .i64 0))), none⟩] [1, 2, 9, 11, 12, 13, 14, 15])
 (.ret [4, 5]))))
def r_ref12_LoadStripe : List ARes := [.c 4 true 4, .t 5]
def fn_ref12_LoadStripe : AFn := .code c_ref12_LoadStripe r_ref12_LoadStripe 16 true
def c_ref12_slot : ACode :=
 (.seq (.ops [] [⟨some 2, .box (.t 0), none⟩, ⟨some 4, .mv (.c (.d (.bool false))), none⟩] [0, 4])
 (.seq (.ops [] [⟨some 5, .mv (.t 1), none⟩, ⟨some 6, .bin .geq (.t 5) (.c (.d (.int .i64 0))), none⟩, ⟨some 7, .mv (.t 6), none⟩, ⟨some 8, .mv (.t 1), some (7, true)⟩, ⟨some 9, .fad false 0 1 (.t 2), some (7, true)⟩, ⟨some 10, .ld false 1 (.t 9), some (7, true)⟩, ⟨some 11, .len (.t 10), some (7, true)⟩, ⟨some 12, .bin .lss (.t 8) (.t 11), some (7, true)⟩, ⟨some 13, .pick (.t 7) (.t 12) (.c (.d (.bool false))), none⟩, ⟨some 4, .mv (.t 13), none⟩] [1, 2, 5, 6, 7, 8, 9, 10, 11, 12, 13])
 (.ret [4])))
def r_ref12_slot : List ARes := [.t 4]
def fn_ref12_slot : AFn := .code c_ref12_slot r_ref12_slot 14 true
def c_ref11_Begin : ACode :=
 (.seq (.ops [] [⟨some 1, .box (.t 0), none⟩, ⟨some 2, .alloc (.d (.agg [.int .i64 0, .int .i64 0, .int .i64 0, .int .i64 0])), none⟩, ⟨some 3, .mv (.c (.d (.int .i64 0))), none⟩] [0, 3])
 (.seq (.block 0 (.seq (.ops [] [⟨some 5, .fad false 0 1 (.t 1), none⟩, ⟨some 6, .ld false 1 (.t 5), none⟩, ⟨some 7, .bin .lss (.t 6) (.c (.d (.int .i64 0))), none⟩, ⟨some 8, .mv (.t 7), none⟩, ⟨some 9, .fad false 0 1 (.t 1), some (8, false)⟩, ⟨some 10, .ld false 1 (.t 9), some (8, false)⟩, ⟨some 11, .bin .gtr (.t 10) (.c (.d (.int .i64 1099511627776))), some (8, false)⟩, ⟨some 12, .pick (.t 8) (.c (.d (.bool true))) (.t 11), none⟩, ⟨some 4, .mv (.t 12), none⟩] [5, 6, 7, 8, 9, 10, 11, 12])
 (.cond (.t 4) (.seq (.ops [] [⟨some 13, .build [.d (.int .i64 0), .d (.int .i64 0), .d (.int .i64 0), .d (.int .i64 0)] [], none⟩, ⟨none, .st 4 (.t 2) (.t 13), none⟩, ⟨some 3, .mv (.c (.d (.int .i64 1))), none⟩] [1, 4, 13])
 (.ret [2, 3])) (.seq (.ops [] [⟨some 15, .fad false 0 1 (.t 1), none⟩, ⟨some 16, .ld false 1 (.t 15), none⟩, ⟨some 17, .bin .rem (.t 16) (.c (.d (.int .i64 2))), none⟩, ⟨some 18, .bin .eql (.t 17) (.c (.d (.int .i64 1))), none⟩, ⟨some 14, .mv (.t 18), none⟩] [4, 15, 16, 17, 18])
 (.cond (.t 14) (.seq (.ops [] [⟨some 19, .build [.d (.int .i64 0), .d (.int .i64 0), .d (.int .i64 0), .d (.int .i64 0)] [], none⟩, ⟨none, .st 4 (.t 2) (.t 19), none⟩, ⟨some 3, .mv (.c (.d (.int .i64 7))), none⟩] [1, 14, 19])
 (.ret [2, 3])) (.seq (.ops [] [⟨some 21, .fad false 0 1 (.t 1), none⟩, ⟨some 22, .ld false 1 (.t 21), none⟩, ⟨some 23, .bin .gtr (.t 22) (.c (.d (.int .i64 1099511627774))), none⟩, ⟨some 20, .mv (.t 23), none⟩] [14, 21, 22, 23])
 (.cond (.t 20) (.seq (.ops [] [⟨some 24, .build [.d (.int .i64 0), .d (.int .i64 0), .d (.int .i64 0), .d (.int .i64 0)] [], none⟩, ⟨none, .st 4 (.t 2) (.t 24), none⟩, ⟨some 3, .mv (.c (.d (.int .i64 6))), none⟩] [1, 20, 24])
 (.ret [2, 3])) .skip)))))))
 (.seq (.ops [] [⟨some 25, .fad false 0 1 (.t 1), none⟩, ⟨some 26, .ld false 1 (.t 25), none⟩, ⟨some 27, .bin .add (.t 26) (.c (.d (.int .i64 1))), none⟩, ⟨some 28, .fad false 0 1 (.t 1), none⟩, ⟨none, .st 1 (.t 28) (.t 27), none⟩] [20, 25, 26, 27, 28])
 (.seq (.ops [] [⟨some 29, .ld true 4 (.t 1), none⟩, ⟨none, .st 4 (.t 2) (.t 29), none⟩, ⟨some 3, .mv (.c (.d (.int .i64 0))), none⟩] [1, 29])
 (.ret [2, 3])))))
def r_ref11_Begin : List ARes := [.c 2 true 4, .t 3]
def fn_ref11_Begin : AFn := .code c_ref11_Begin r_ref11_Begin 30 true
def c_ref12_StoreStripe : ACode :=
 (.seq (.ops [] [⟨some 4, .box (.t 0), none⟩, ⟨some 7, .box (.t 3), none⟩, ⟨some 8, .alloc (.agg [.xsl [], .xsl [], .d (.int .i64 0), .d (.int .i64 0), .xsl [], .d (.int .i64 0), .xsl [], .xsl [], .d (.int .i64 0), .d (.int .i64 0), .d (.int .i64 0)]), none⟩, ⟨some 9, .mv (.c (.d (.int .i64 0))), none⟩] [0, 3, 9])
 (.seq (.seq (.ops [] [⟨some 11, .ld true 11 (.t 4), none⟩, ⟨some 12, .mv (.t 1), none⟩, ⟨some 13, .mv (.t 2), none⟩, ⟨some 14, .call N_ref12_storable [] [.t 11, .t 12, .t 13], none⟩, ⟨some 10, .mv (.t 14), none⟩] [2, 11, 12, 13, 14])
 (.seq (.ops [] [⟨some 15, .mv (.t 10), none⟩, ⟨some 16, .bin .neq (.t 15) (.c (.d (.int .i64 0))), none⟩] [15])
 (.cond (.t 16) (.seq (.ops [] [⟨some 17, .build [.xsl [], .xsl [], .d (.int .i64 0), .d (.int .i64 0), .xsl [], .d (.int .i64 0), .xsl [], .xsl [], .d (.int .i64 0), .d (.int .i64 0), .d (.int .i64 0)] [], none⟩, ⟨some 18, .mv (.t 10), none⟩, ⟨none, .st 11 (.t 8) (.t 17), none⟩, ⟨some 9, .mv (.t 18), none⟩] [1, 4, 7, 10, 16, 17, 18])
 (.ret [8, 9])) .skip)))
 (.seq (.seq (.ops [] [⟨some 19, .fad false 0 1 (.t 7), none⟩, ⟨some 20, .ld false 1 (.t 19), none⟩, ⟨some 21, .call N_ref12_in [] [.t 20, .c (.d (.int .i64 0)), .c (.d (.int .i64 1099511627776))], none⟩, ⟨some 22, .un .not (.t 21), none⟩, ⟨some 23, .mv (.t 22), none⟩, ⟨some 24, .fad false 1 1 (.t 7), some (23, false)⟩, ⟨some 25, .ld false 1 (.t 24), some (23, false)⟩, ⟨some 26, .call N_ref12_in [] [.t 25, .c (.d (.int .i64 0)), .c (.d (.int .i64 1099511627776))], some (23, false)⟩, ⟨some 27, .un .not (.t 26), some (23, false)⟩, ⟨some 28, .pick (.t 23) (.c (.d (.bool true))) (.t 27), none⟩, ⟨some 29, .mv (.t 28), none⟩, ⟨some 30, .fad false 2 1 (.t 7), some (29, false)⟩, ⟨some 31, .ld false 1 (.t 30), some (29, false)⟩, ⟨some 32, .call N_ref12_in [] [.t 31, .c (.d (.int .i64 0)), .c (.d (.int .i64 1099511627776))], some (29, false)⟩, ⟨some 33, .un .not (.t 32), some (29, false)⟩, ⟨some 34, .pick (.t 29) (.c (.d (.bool true))) (.t 33), none⟩, ⟨some 35, .mv (.t 34), none⟩, ⟨some 36, .fad false 3 1 (.t 7), some (35, false)⟩, ⟨some 37, .ld false 1 (.t 36), some (35, false)⟩, ⟨some 38, .call N_ref12_in [] [.t 37, .c (.d (.int .i64 0)), .c (.d (.int .i64 1099511627776))], some (35, false)⟩, ⟨some 39, .un .not (.t 38), some (35, false)⟩, ⟨some 40, .pick (.t 35) (.c (.d (.bool true))) (.t 39), none⟩] [10, 16, 19, 20, 21, 22, 23, 24, 25, 26, 27, 28, 29, 30, 31, 32, 33, 34, 35, 36, 37, 38, 39])
 (.cond (.t 40) (.seq (.ops [] [⟨some 41, .build [.xsl [], .xsl [], .d (.int .i64 0), .d (.int .i64 0), .xsl [], .d (.int .i64 0), .xsl [], .xsl [], .d (.int .i64 0), .d (.int .i64 0), .d (.int .i64 0)] [], none⟩, ⟨none, .st 11 (.t 8) (.t 41), none⟩, ⟨some 9, .mv (.c (.d (.int .i64 1))), none⟩] [1, 4, 7, 40, 41])
 (.ret [8, 9])) .skip))
 (.seq (.ops [] [⟨some 42, .fad false 1 1 (.t 4), none⟩, ⟨some 43, .ld false 1 (.t 42), none⟩, ⟨some 44, .app 4 (.c (.xsl [])) (.t 43), none⟩, ⟨some 45, .fad false 1 1 (.t 4), none⟩, ⟨none, .st 1 (.t 45) (.t 44), none⟩] [40, 42, 43, 44, 45])
 (.seq (.ops [88] [⟨some 46, .fad false 1 1 (.t 4), none⟩, ⟨some 47, .ld false 1 (.t 46), none⟩, ⟨some 48, .mv (.t 1), none⟩, ⟨some 49, .ld true 4 (.t 7), none⟩, ⟨some 50, .iad 4 (.t 47) (.t 48), none⟩, ⟨none, .st 4 (.t 50) (.t 49), none⟩] [1, 7, 46, 47, 48, 49, 50])
 (.seq (.ops [] [⟨some 51, .ld true 11 (.t 4), none⟩, ⟨none, .st 11 (.t 8) (.t 51), none⟩, ⟨some 9, .mv (.c (.d (.int .i64 0))), none⟩] [4, 51])
 (.ret [8, 9])))))))
def r_ref12_StoreStripe : List ARes := [.c 8 true 11, .t 9]
def fn_ref12_StoreStripe : AFn := .code c_ref12_StoreStripe r_ref12_StoreStripe 52 true
def c_ref12_storable : ACode :=
 (.seq (.ops [] [⟨some 3, .box (.t 0), none⟩, ⟨some 6, .mv (.c (.d (.int .i64 0))), none⟩] [0, 6])
 (.seq (.seq (.ops [] [⟨some 7, .ld true 11 (.t 3), none⟩, ⟨some 8, .mv (.t 1), none⟩, ⟨some 9, .call N_ref12_slot [] [.t 7, .t 8], none⟩, ⟨some 10, .un .not (.t 9), none⟩, ⟨some 11, .mv (.t 10), none⟩, ⟨some 12, .mv (.t 2), some (11, false)⟩, ⟨some 13, .call N_ref12_task [] [.t 12], some (11, false)⟩, ⟨some 14, .un .not (.t 13), some (11, false)⟩, ⟨some 15, .pick (.t 11) (.c (.d (.bool true))) (.t 14), none⟩] [7, 8, 9, 10, 11, 12, 13, 14])
 (.cond (.t 15) (.seq (.ops [] [⟨some 6, .mv (.c (.d (.int .i64 1))), none⟩] [1, 2, 3, 15])
 (.ret [6])) .skip))
 (.seq (.seq (.ops [] [⟨some 16, .fad false 0 1 (.t 3), none⟩, ⟨some 17, .ld false 1 (.t 16), none⟩, ⟨some 18, .mv (.t 1), none⟩, ⟨some 19, .iad 9 (.t 17) (.t 18), none⟩, ⟨some 20, .fad false 0 1 (.t 19), none⟩, ⟨some 21, .ld false 1 (.t 20), none⟩, ⟨some 22, .mv (.t 2), none⟩, ⟨some 23, .bin .neq (.t 21) (.t 22), none⟩] [1, 2, 3, 15, 16, 17, 18, 19, 20, 21, 22])
 (.cond (.t 23) (.seq (.ops [] [⟨some 6, .mv (.c (.d (.int .i64 13))), none⟩] [23])
 (.ret [6])) .skip))
 (.seq (.ops [] [⟨some 6, .mv (.c (.d (.int .i64 0))), none⟩] [23])
 (.ret [6])))))
def r_ref12_storable : List ARes := [.t 6]
def fn_ref12_storable : AFn := .code c_ref12_storable r_ref12_storable 24 true
def c_ref15_load : ACode :=
 (.seq (.ops [] [⟨some 2, .box (.t 0), none⟩, ⟨some 3, .box (.t 1), none⟩, ⟨some 4, .alloc (.agg [.xsl [], .xsl [], .d (.int .i64 0), .d (.int .i64 0), .xsl [], .d (.int .i64 0), .xsl [], .xsl [], .d (.int .i64 0), .d (.int .i64 0), .d (.int .i64 0)]), none⟩, ⟨some 5, .alloc (.agg [.d (.int .i64 0), .d (.int .i64 0), .xsl [], .d (.int .i64 0), .d (.int .i64 0), .d (.int .i64 0), .d (.int .i64 0), .d (.int .i64 0), .d (.int .i64 0), .d (.int .i64 0), .d (.int .i64 0), .xsl [], .d (.int .i64 0), .xsl [], .xsl [], .d (.int .i64 0), .xsl [], .xsl [], .xsl [], .d (.int .i64 0), .xsl [], .xsl [], .xsl [], .xsl [], .d (.int .i64 0), .xsl []]), none⟩, ⟨some 6, .mv (.c (.d (.int .i64 0))), none⟩] [0, 1, 6])
 (.seq (.ops [] [⟨some 10, .fad true 2 5 (.t 3), none⟩, ⟨some 11, .fad false 0 1 (.t 10), none⟩, ⟨some 12, .ld false 1 (.t 11), none⟩, ⟨some 13, .fad false 1 1 (.t 3), none⟩, ⟨some 14, .ld false 1 (.t 13), none⟩, ⟨some 15, .iad 1 (.t 12) (.t 14), none⟩, ⟨some 16, .ld false 1 (.t 15), none⟩, ⟨some 7, .mv (.t 16), none⟩] [10, 11, 12, 13, 14, 15, 16])
 (.seq (.ops [] [⟨some 8, .mv (.c (.d (.int .i64 0))), none⟩] [])
 (.seq (.seq (.ops [] [⟨some 17, .mv (.t 7), none⟩, ⟨some 18, .fad false 0 1 (.t 2), none⟩, ⟨some 19, .ld false 1 (.t 18), none⟩, ⟨some 20, .len (.t 19), none⟩, ⟨some 21, .bin .eql (.t 17) (.t 20), none⟩] [17, 18, 19, 20])
 (.cond (.t 21) (.ops [] [⟨some 22, .ld true 11 (.t 2), none⟩, ⟨some 23, .call N_ref12_LoadDead [false, true] [.t 22], none⟩, ⟨some 24, .fad true 12 2 (.t 3), none⟩, ⟨none, .st 2 (.t 24) (.t 23), none⟩] [7, 21, 22, 23, 24]) (.seq (.ops [] [⟨some 9, .alloc (.agg [.d (.bool false), .d (.int .i64 0), .d (.int .i64 0), .xsl [], .d (.int .i64 0), .d (.int .i64 0), .xsl [], .xsl []]), none⟩] [8, 21])
 (.seq (.ops [] [⟨some 26, .ld true 11 (.t 2), none⟩, ⟨some 27, .mv (.t 7), none⟩, ⟨some 28, .call N_ref12_LoadSlot [false, false, true] [.t 26, .t 27], none⟩, ⟨some 25, .mv (.t 28), none⟩, ⟨some 29, .ext (.t 25) 0, none⟩, ⟨some 30, .ext (.t 25) 1, none⟩, ⟨none, .st 8 (.t 9) (.t 29), none⟩, ⟨some 8, .mv (.t 30), none⟩] [7, 25, 26, 27, 28, 29, 30])
 (.draw [] [⟨some 31, .fad false 11 1 (.t 3), none⟩, ⟨some 32, .ld false 1 (.t 31), none⟩, ⟨some 33, .app 8 (.c (.xsl [])) (.t 32), none⟩, ⟨some 34, .ld true 8 (.t 9), none⟩, ⟨some 35, .bsl 1 8 (.agg [.d (.bool false), .d (.int .i64 0), .d (.int .i64 0), .xsl [], .d (.int .i64 0), .d (.int .i64 0), .xsl [], .xsl []]) [(0, .t 34)], none⟩, ⟨some 36, .app 8 (.t 33) (.t 35), none⟩, ⟨some 37, .fad false 11 1 (.t 3), none⟩, ⟨none, .st 1 (.t 37) (.t 36), none⟩] [[], [], [], [0, 1, 2], [0, 1, 2], [], [], []] [9, 31, 32, 33, 34, 35, 36, 37])))))
 (.seq (.ops [] [⟨some 38, .fad false 1 1 (.t 3), none⟩, ⟨some 39, .ld false 1 (.t 38), none⟩, ⟨some 40, .bin .add (.t 39) (.c (.d (.int .i64 1))), none⟩, ⟨some 41, .fad false 1 1 (.t 3), none⟩, ⟨none, .st 1 (.t 41) (.t 40), none⟩] [38, 39, 40, 41])
 (.seq (.seq (.ops [] [⟨some 42, .fad false 1 1 (.t 3), none⟩, ⟨some 43, .ld false 1 (.t 42), none⟩, ⟨some 44, .fad true 2 5 (.t 3), none⟩, ⟨some 45, .fad false 0 1 (.t 44), none⟩, ⟨some 46, .ld false 1 (.t 45), none⟩, ⟨some 47, .len (.t 46), none⟩, ⟨some 48, .bin .eql (.t 43) (.t 47), none⟩] [42, 43, 44, 45, 46, 47])
 (.cond (.t 48) (.ops [] [⟨some 49, .ld true 26 (.t 3), none⟩, ⟨some 50, .call N_ref15_enter [false, false, true] [.t 49, .c (.d (.int .i64 3))], none⟩, ⟨none, .st 26 (.t 3) (.t 50), none⟩] [48, 49, 50]) .skip))
 (.seq (.draw [] [⟨some 51, .ld true 11 (.t 2), none⟩, ⟨some 52, .ld true 26 (.t 3), none⟩, ⟨some 53, .mv (.t 8), none⟩, ⟨none, .st 11 (.t 4) (.t 51), none⟩, ⟨none, .st 26 (.t 5) (.t 52), none⟩, ⟨some 6, .mv (.t 53), none⟩] [[], [0], [0, 1], [1, 2], [2], []] [2, 3, 8, 48, 51, 52, 53])
 (.ret [4, 5, 6]))))))))
def r_ref15_load : List ARes := [.c 4 true 11, .c 5 true 26, .t 6]
def fn_ref15_load : AFn := .code c_ref15_load r_ref15_load 54 true
def c_ref12_LoadDead : ACode :=
 (.seq (.ops [] [⟨some 1, .box (.t 0), none⟩, ⟨some 2, .alloc (.agg [.d (.int .i64 0), .xsl []]), none⟩] [0])
 (.seq (.ops [] [⟨some 3, .fad true 2 3 (.t 1), none⟩, ⟨some 4, .fad true 1 2 (.t 3), none⟩, ⟨some 5, .ld true 2 (.t 4), none⟩, ⟨none, .st 2 (.t 2) (.t 5), none⟩] [1, 3, 4, 5])
 (.ret [2])))
def r_ref12_LoadDead : List ARes := [.c 2 true 2]
def fn_ref12_LoadDead : AFn := .code c_ref12_LoadDead r_ref12_LoadDead 6 true
def c_ref12_LoadSlot : ACode :=
 (.seq (.ops [] [⟨some 2, .box (.t 0), none⟩, ⟨some 4, .alloc (.agg [.d (.bool false), .d (.int .i64 0), .d (.int .i64 0), .xsl [], .d (.int .i64 0), .d (.int .i64 0), .xsl [], .xsl []]), none⟩, ⟨some 5, .mv (.c (.d (.int .i64 0))), none⟩] [0, 5])
 (.seq (.seq (.ops [] [⟨some 6, .ld true 11 (.t 2), none⟩, ⟨some 7, .mv (.t 1), none⟩, ⟨some 8, .call N_ref12_slot [] [.t 6, .t 7], none⟩, ⟨some 9, .un .not (.t 8), none⟩] [6, 7, 8])
 (.cond (.t 9) (.seq (.ops [] [⟨some 10, .build [.d (.bool false), .d (.int .i64 0), .d (.int .i64 0), .xsl [], .d (.int .i64 0), .d (.int .i64 0), .xsl [], .xsl []] [], none⟩, ⟨none, .st 8 (.t 4) (.t 10), none⟩, ⟨some 5, .mv (.c (.d (.int .i64 1))), none⟩] [1, 2, 9, 10])
 (.ret [4, 5])) .skip))
 (.seq (.ops [] [⟨some 11, .fad false 0 1 (.t 2), none⟩, ⟨some 12, .ld false 1 (.t 11), none⟩, ⟨some 13, .mv (.t 1), none⟩, ⟨some 14, .iad 9 (.t 12) (.t 13), none⟩, ⟨some 15, .fad true 1 8 (.t 14), none⟩, ⟨some 16, .ld true 8 (.t 15), none⟩, ⟨none, .st 8 (.t 4) (.t 16), none⟩, ⟨some 5, .mv (.c (.d (.int .i64 0))), none⟩] [1, 2, 9, 11, 12, 13, 14, 15, 16])
 (.ret [4, 5]))))
def r_ref12_LoadSlot : List ARes := [.c 4 true 8, .t 5]
def fn_ref12_LoadSlot : AFn := .code c_ref12_LoadSlot r_ref12_LoadSlot 17 true
def c_ref14_Step : ACode :=
 (.seq (.ops [] [⟨some 3, .box (.t 0), none⟩, ⟨some 4, .box (.t 1), none⟩, ⟨some 6, .alloc (.d (.agg [.int .i64 0, .int .i64 0, .int .i64 0, .int .i64 0])), none⟩, ⟨some 7, .mv (.c (.d (.int .i64 0))), none⟩] [0, 1, 7])
 (.seq (.ops [] [⟨some 13, .ld true 11 (.t 3), none⟩, ⟨some 14, .call N_ref12_Load [] [.t 13, .c (.d (.int .i64 1))], none⟩, ⟨some 12, .mv (.t 14), none⟩, ⟨some 15, .ext (.t 12) 0, none⟩, ⟨some 16, .ext (.t 12) 1, none⟩, ⟨some 8, .mv (.t 15), none⟩, ⟨some 9, .mv (.t 16), none⟩] [9, 12, 13, 14, 15, 16])
 (.seq (.ops [] [⟨some 18, .ld true 11 (.t 3), none⟩, ⟨some 19, .call N_ref12_Load [] [.t 18, .c (.d (.int .i64 2))], none⟩, ⟨some 17, .mv (.t 19), none⟩, ⟨some 20, .ext (.t 17) 0, none⟩, ⟨some 21, .ext (.t 17) 1, none⟩, ⟨some 10, .mv (.t 20), none⟩, ⟨some 11, .mv (.t 21), none⟩] [3, 11, 17, 18, 19, 20, 21])
 (.seq (.seq (.ops [] [⟨some 22, .fad false 0 1 (.t 4), none⟩, ⟨some 23, .ld false 1 (.t 22), none⟩] [22])
 (.block 0 (.seq (.ops [] [⟨some 26, .bin .eql (.t 23) (.c (.d (.int .i64 0))), none⟩, ⟨some 25, .mv (.t 26), none⟩] [26])
 (.cond (.t 25) (.ops [] [⟨some 27, .mv (.t 8), none⟩, ⟨some 28, .fad false 1 1 (.t 4), none⟩, ⟨none, .st 1 (.t 28) (.t 27), none⟩, ⟨some 29, .fad false 0 1 (.t 4), none⟩, ⟨none, .st 1 (.t 29) (.c (.d (.int .i64 1))), none⟩] [2, 8, 10, 23, 25, 27, 28, 29]) (.seq (.ops [] [⟨some 31, .bin .eql (.t 23) (.c (.d (.int .i64 1))), none⟩, ⟨some 30, .mv (.t 31), none⟩] [25, 31])
 (.cond (.t 30) (.ops [] [⟨some 32, .mv (.t 10), none⟩, ⟨some 33, .mv (.t 2), none⟩, ⟨some 34, .fad false 2 1 (.t 4), none⟩, ⟨none, .st 1 (.t 34) (.t 32), none⟩, ⟨some 35, .fad false 3 1 (.t 4), none⟩, ⟨none, .st 1 (.t 35) (.t 33), none⟩, ⟨some 36, .fad false 0 1 (.t 4), none⟩, ⟨none, .st 1 (.t 36) (.c (.d (.int .i64 2))), none⟩] [2, 8, 10, 23, 30, 32, 33, 34, 35, 36]) (.seq (.ops [] [⟨some 38, .bin .eql (.t 23) (.c (.d (.int .i64 2))), none⟩, ⟨some 37, .mv (.t 38), none⟩] [2, 10, 30, 38])
 (.cond (.t 37) (.seq (.ops [] [⟨some 39, .mv (.t 8), none⟩, ⟨some 40, .fad false 1 1 (.t 4), none⟩, ⟨some 41, .ld false 1 (.t 40), none⟩, ⟨some 42, .bin .eql (.t 39) (.t 41), none⟩] [23, 37, 39, 40, 41])
 (.cond (.t 42) (.ops [] [⟨some 43, .fad false 0 1 (.t 4), none⟩, ⟨none, .st 1 (.t 43) (.c (.d (.int .i64 3))), none⟩] [8, 42, 43]) (.ops [] [⟨some 44, .mv (.t 8), none⟩, ⟨some 45, .fad false 1 1 (.t 4), none⟩, ⟨none, .st 1 (.t 45) (.t 44), none⟩, ⟨some 46, .fad false 0 1 (.t 4), none⟩, ⟨none, .st 1 (.t 46) (.c (.d (.int .i64 1))), none⟩] [8, 42, 44, 45, 46]))) (.seq (.ops [] [⟨some 48, .bin .eql (.t 23) (.c (.d (.int .i64 3))), none⟩, ⟨some 47, .mv (.t 48), none⟩] [4, 8, 23, 37, 48])
 (.cond (.t 47) (.seq (.ops [] [⟨some 49, .build [.d (.int .i64 0), .d (.int .i64 0), .d (.int .i64 0), .d (.int .i64 0)] [], none⟩, ⟨none, .st 4 (.t 6) (.t 49), none⟩, ⟨some 7, .mv (.c (.d (.int .i64 7))), none⟩] [47, 49])
 (.ret [6, 7])) (.seq (.ops [] [⟨some 24, .build [.d (.int .i64 0), .d (.int .i64 0), .d (.int .i64 0), .d (.int .i64 0)] [], none⟩, ⟨none, .st 4 (.t 6) (.t 24), none⟩, ⟨some 7, .mv (.c (.d (.int .i64 1))), none⟩] [24, 47])
 (.ret [6, 7]))))))))))))
 (.seq (.ops [] [⟨some 50, .ld true 4 (.t 4), none⟩, ⟨none, .st 4 (.t 6) (.t 50), none⟩, ⟨some 7, .mv (.c (.d (.int .i64 0))), none⟩] [4, 50])
 (.ret [6, 7]))))))
def r_ref14_Step : List ARes := [.c 6 true 4, .t 7]
def fn_ref14_Step : AFn := .code c_ref14_Step r_ref14_Step 51 true
def c_ref15_store : ACode :=
 (.seq (.ops [] [⟨some 3, .box (.t 0), none⟩, ⟨some 4, .box (.t 1), none⟩, ⟨some 6, .alloc (.agg [.xsl [], .xsl [], .d (.int .i64 0), .d (.int .i64 0), .xsl [], .d (.int .i64 0), .xsl [], .xsl [], .d (.int .i64 0), .d (.int .i64 0), .d (.int .i64 0)]), none⟩, ⟨some 7, .alloc (.agg [.d (.int .i64 0), .d (.int .i64 0), .xsl [], .d (.int .i64 0), .d (.int .i64 0), .d (.int .i64 0), .d (.int .i64 0), .d (.int .i64 0), .d (.int .i64 0), .d (.int .i64 0), .d (.int .i64 0), .xsl [], .d (.int .i64 0), .xsl [], .xsl [], .d (.int .i64 0), .xsl [], .xsl [], .xsl [], .d (.int .i64 0), .xsl [], .xsl [], .xsl [], .xsl [], .d (.int .i64 0), .xsl []]), none⟩, ⟨some 8, .mv (.c (.d (.int .i64 0))), none⟩] [0, 1, 8])
 (.seq (.ops [] [⟨some 12, .fad true 18 6 (.t 4), none⟩, ⟨some 13, .fad false 3 1 (.t 12), none⟩, ⟨some 14, .ld false 1 (.t 13), none⟩, ⟨some 15, .fad false 1 1 (.t 4), none⟩, ⟨some 16, .ld false 1 (.t 15), none⟩, ⟨some 17, .iad 1 (.t 14) (.t 16), none⟩, ⟨some 18, .ld false 1 (.t 17), none⟩, ⟨some 9, .mv (.t 18), none⟩] [12, 13, 14, 15, 16, 17, 18])
 (.seq (.ops [] [⟨some 19, .fad true 2 5 (.t 4), none⟩, ⟨some 20, .fad false 0 1 (.t 19), none⟩, ⟨some 21, .ld false 1 (.t 20), none⟩, ⟨some 22, .mv (.t 9), none⟩, ⟨some 23, .iad 1 (.t 21) (.t 22), none⟩, ⟨some 24, .ld false 1 (.t 23), none⟩, ⟨some 10, .mv (.t 24), none⟩] [19, 20, 21, 22, 23, 24])
 (.seq (.ops [] [⟨some 11, .mv (.c (.d (.int .i64 0))), none⟩] [11])
 (.seq (.seq (.ops [] [⟨some 25, .mv (.t 10), none⟩, ⟨some 26, .fad false 0 1 (.t 3), none⟩, ⟨some 27, .ld false 1 (.t 26), none⟩, ⟨some 28, .len (.t 27), none⟩, ⟨some 29, .bin .eql (.t 25) (.t 28), none⟩] [25, 26, 27, 28])
 (.cond (.t 29) (.ops [] [⟨some 31, .ld true 11 (.t 3), none⟩, ⟨some 32, .mv (.t 2), none⟩, ⟨some 33, .fad true 18 6 (.t 4), none⟩, ⟨some 34, .fad true 1 2 (.t 33), none⟩, ⟨some 35, .ld true 2 (.t 34), none⟩, ⟨some 36, .call N_ref12_StoreDead [false, false, false, true] [.t 31, .t 32, .t 35], none⟩, ⟨some 30, .mv (.t 36), none⟩, ⟨some 37, .ext (.t 30) 0, none⟩, ⟨some 38, .ext (.t 30) 1, none⟩, ⟨none, .st 11 (.t 3) (.t 37), none⟩, ⟨some 11, .mv (.t 38), none⟩] [2, 9, 10, 29, 30, 31, 32, 33, 34, 35, 36, 37, 38]) (.draw [] [⟨some 40, .ld true 11 (.t 3), none⟩, ⟨some 41, .mv (.t 10), none⟩, ⟨some 42, .mv (.t 2), none⟩, ⟨some 43, .fad true 18 6 (.t 4), none⟩, ⟨some 44, .fad false 0 1 (.t 43), none⟩, ⟨some 45, .ld false 1 (.t 44), none⟩, ⟨some 46, .mv (.t 9), none⟩, ⟨some 47, .iad 8 (.t 45) (.t 46), none⟩, ⟨some 48, .ld true 8 (.t 47), none⟩, ⟨some 49, .call N_ref12_StoreSlot [false, false, false, false, true] [.t 40, .t 41, .t 42, .t 48], none⟩, ⟨some 39, .mv (.t 49), none⟩, ⟨some 50, .ext (.t 39) 0, none⟩, ⟨some 51, .ext (.t 39) 1, none⟩, ⟨none, .st 11 (.t 3) (.t 50), none⟩, ⟨some 11, .mv (.t 51), none⟩] [[], [0], [0, 1], [0, 1, 2], [0, 1, 2], [0, 1, 2], [0, 1, 2, 3, 4, 5], [0, 1, 2], [0, 1, 2], [], [], [], [11], [12], []] [2, 9, 10, 29, 39, 40, 41, 42, 43, 44, 45, 46, 47, 48, 49, 50, 51])))
 (.seq (.seq (.ops [] [⟨some 52, .mv (.t 11), none⟩, ⟨some 53, .bin .neq (.t 52) (.c (.d (.int .i64 0))), none⟩] [52])
 (.cond (.t 53) (.seq (.draw [] [⟨some 54, .ld true 11 (.t 3), none⟩, ⟨some 55, .ld true 26 (.t 4), none⟩, ⟨some 56, .mv (.t 11), none⟩, ⟨none, .st 11 (.t 6) (.t 54), none⟩, ⟨none, .st 26 (.t 7) (.t 55), none⟩, ⟨some 8, .mv (.t 56), none⟩] [[], [0], [0, 1], [1, 2], [2], []] [3, 4, 11, 53, 54, 55, 56])
 (.ret [6, 7, 8])) .skip))
 (.seq (.ops [] [⟨some 57, .fad false 1 1 (.t 4), none⟩, ⟨some 58, .ld false 1 (.t 57), none⟩, ⟨some 59, .bin .add (.t 58) (.c (.d (.int .i64 1))), none⟩, ⟨some 60, .fad false 1 1 (.t 4), none⟩, ⟨none, .st 1 (.t 60) (.t 59), none⟩] [11, 53, 57, 58, 59, 60])
 (.seq (.seq (.ops [] [⟨some 61, .fad false 1 1 (.t 4), none⟩, ⟨some 62, .ld false 1 (.t 61), none⟩, ⟨some 63, .fad true 18 6 (.t 4), none⟩, ⟨some 64, .fad false 3 1 (.t 63), none⟩, ⟨some 65, .ld false 1 (.t 64), none⟩, ⟨some 66, .len (.t 65), none⟩, ⟨some 67, .bin .lss (.t 62) (.t 66), none⟩] [61, 62, 63, 64, 65, 66])
 (.cond (.t 67) (.seq (.ops [] [⟨some 68, .fad true 18 6 (.t 4), none⟩, ⟨some 69, .fad false 4 1 (.t 68), none⟩, ⟨some 70, .ld false 1 (.t 69), none⟩, ⟨some 71, .fad false 25 1 (.t 4), none⟩, ⟨none, .st 1 (.t 71) (.t 70), none⟩] [67, 68, 69, 70, 71])
 (.seq (.draw [] [⟨some 72, .ld true 11 (.t 3), none⟩, ⟨some 73, .ld true 26 (.t 4), none⟩, ⟨none, .st 11 (.t 6) (.t 72), none⟩, ⟨none, .st 26 (.t 7) (.t 73), none⟩, ⟨some 8, .mv (.c (.d (.int .i64 0))), none⟩] [[], [0], [1], [], []] [3, 4, 72, 73])
 (.ret [6, 7, 8]))) .skip))
 (.seq (.ops [] [⟨some 74, .fad false 25 1 (.t 4), none⟩, ⟨none, .st 1 (.t 74) (.c (.xsl [])), none⟩] [67, 74])
 (.seq (.seq (.ops [] [⟨some 75, .fad true 18 6 (.t 4), none⟩, ⟨some 76, .fad false 5 1 (.t 75), none⟩, ⟨some 77, .ld false 1 (.t 76), none⟩, ⟨some 78, .len (.t 77), none⟩, ⟨some 79, .bin .gtr (.t 78) (.c (.d (.int .i64 0))), none⟩] [75, 76, 77, 78])
 (.cond (.t 79) (.seq (.draw [] [⟨some 80, .ld true 11 (.t 3), none⟩, ⟨some 81, .ld true 26 (.t 4), none⟩, ⟨some 82, .call N_ref15_enter [false, false, true] [.t 81, .c (.d (.int .i64 6))], none⟩, ⟨none, .st 11 (.t 6) (.t 80), none⟩, ⟨none, .st 26 (.t 7) (.t 82), none⟩, ⟨some 8, .mv (.c (.d (.int .i64 0))), none⟩] [[], [0], [0], [], [], []] [3, 4, 79, 80, 81, 82])
 (.ret [6, 7, 8])) .skip))
 (.seq (.ops [] [⟨some 83, .ld true 11 (.t 3), none⟩, ⟨some 84, .ld true 26 (.t 4), none⟩, ⟨some 85, .call N_ref15_unmarking [false, false, true] [.t 83, .t 84], none⟩, ⟨some 86, .ext (.t 85) 0, none⟩, ⟨some 87, .ext (.t 85) 1, none⟩, ⟨some 88, .ext (.t 85) 2, none⟩, ⟨none, .st 11 (.t 6) (.t 86), none⟩, ⟨none, .st 26 (.t 7) (.t 87), none⟩, ⟨some 8, .mv (.t 88), none⟩] [3, 4, 79, 83, 84, 85, 86, 87, 88])
 (.ret [6, 7, 8]))))))))))))
def r_ref15_store : List ARes := [.c 6 true 11, .c 7 true 26, .t 8]
def fn_ref15_store : AFn := .code c_ref15_store r_ref15_store 89 true
def c_ref12_StoreDead : ACode :=
 (.seq (.ops [] [⟨some 3, .box (.t 0), none⟩, ⟨some 5, .box (.t 2), none⟩, ⟨some 6, .alloc (.agg [.xsl [], .xsl [], .d (.int .i64 0), .d (.int .i64 0), .xsl [], .d (.int .i64 0), .xsl [], .xsl [], .d (.int .i64 0), .d (.int .i64 0), .d (.int .i64 0)]), none⟩, ⟨some 7, .mv (.c (.d (.int .i64 0))), none⟩] [0, 2, 7])
 (.seq (.seq (.ops [] [⟨some 9, .mv (.t 1), none⟩, ⟨some 10, .call N_ref12_task [] [.t 9], none⟩, ⟨some 11, .un .not (.t 10), none⟩] [9, 10])
 (.cond (.t 11) (.seq (.ops [] [⟨some 12, .build [.xsl [], .xsl [], .d (.int .i64 0), .d (.int .i64 0), .xsl [], .d (.int .i64 0), .xsl [], .xsl [], .d (.int .i64 0), .d (.int .i64 0), .d (.int .i64 0)] [], none⟩, ⟨none, .st 11 (.t 6) (.t 12), none⟩, ⟨some 7, .mv (.c (.d (.int .i64 1))), none⟩] [1, 3, 5, 11, 12])
 (.ret [6, 7])) .skip))
 (.seq (.seq (.ops [] [⟨some 13, .fad true 2 3 (.t 3), none⟩, ⟨some 14, .fad false 0 1 (.t 13), none⟩, ⟨some 15, .ld false 1 (.t 14), none⟩, ⟨some 16, .mv (.t 1), none⟩, ⟨some 17, .bin .neq (.t 15) (.t 16), none⟩] [1, 11, 13, 14, 15, 16])
 (.cond (.t 17) (.seq (.ops [] [⟨some 18, .build [.xsl [], .xsl [], .d (.int .i64 0), .d (.int .i64 0), .xsl [], .d (.int .i64 0), .xsl [], .xsl [], .d (.int .i64 0), .d (.int .i64 0), .d (.int .i64 0)] [], none⟩, ⟨none, .st 11 (.t 6) (.t 18), none⟩, ⟨some 7, .mv (.c (.d (.int .i64 13))), none⟩] [3, 5, 17, 18])
 (.ret [6, 7])) .skip))
 (.seq (.seq (.ops [] [⟨some 19, .ld true 2 (.t 5), none⟩, ⟨some 20, .call N_ref08_Validate [] [.t 19], none⟩, ⟨some 8, .mv (.t 20), none⟩] [17, 19, 20])
 (.seq (.ops [] [⟨some 21, .mv (.t 8), none⟩, ⟨some 22, .bin .neq (.t 21) (.c (.d (.int .i64 0))), none⟩] [21])
 (.cond (.t 22) (.seq (.ops [] [⟨some 23, .build [.xsl [], .xsl [], .d (.int .i64 0), .d (.int .i64 0), .xsl [], .d (.int .i64 0), .xsl [], .xsl [], .d (.int .i64 0), .d (.int .i64 0), .d (.int .i64 0)] [], none⟩, ⟨some 24, .mv (.t 8), none⟩, ⟨none, .st 11 (.t 6) (.t 23), none⟩, ⟨some 7, .mv (.t 24), none⟩] [3, 5, 8, 22, 23, 24])
 (.ret [6, 7])) .skip)))
 (.seq (.seq (.ops [] [⟨some 25, .fad false 0 1 (.t 5), none⟩, ⟨some 26, .ld false 1 (.t 25), none⟩, ⟨some 27, .fad true 2 3 (.t 3), none⟩, ⟨some 28, .fad true 1 2 (.t 27), none⟩, ⟨some 29, .fad false 0 1 (.t 28), none⟩, ⟨some 30, .ld false 1 (.t 29), none⟩, ⟨some 31, .bin .neq (.t 26) (.t 30), none⟩] [8, 22, 25, 26, 27, 28, 29, 30])
 (.cond (.t 31) (.seq (.ops [] [⟨some 32, .build [.xsl [], .xsl [], .d (.int .i64 0), .d (.int .i64 0), .xsl [], .d (.int .i64 0), .xsl [], .xsl [], .d (.int .i64 0), .d (.int .i64 0), .d (.int .i64 0)] [], none⟩, ⟨none, .st 11 (.t 6) (.t 32), none⟩, ⟨some 7, .mv (.c (.d (.int .i64 1))), none⟩] [3, 5, 31, 32])
 (.ret [6, 7])) .skip))
 (.seq (.ops [] [⟨some 33, .ld true 2 (.t 5), none⟩, ⟨some 34, .fad true 2 3 (.t 3), none⟩, ⟨some 35, .fad true 1 2 (.t 34), none⟩, ⟨none, .st 2 (.t 35) (.t 33), none⟩] [5, 31, 33, 34, 35])
 (.seq (.ops [] [⟨some 36, .ld true 11 (.t 3), none⟩, ⟨none, .st 11 (.t 6) (.t 36), none⟩, ⟨some 7, .mv (.c (.d (.int .i64 0))), none⟩] [3, 36])
 (.ret [6, 7]))))))))
def r_ref12_StoreDead : List ARes := [.c 6 true 11, .t 7]
def fn_ref12_StoreDead : AFn := .code c_ref12_StoreDead r_ref12_StoreDead 37 true
def c_ref03_Validate : ACode :=
 (.seq (.ops [] [⟨some 1, .box (.t 0), none⟩, ⟨some 2, .mv (.c (.d (.int .i64 0))), none⟩] [0, 2])
 (.seq (.seq (.ops [] [⟨some 3, .fad false 0 1 (.t 1), none⟩, ⟨some 4, .ld false 1 (.t 3), none⟩, ⟨some 5, .call N_ref03_in [] [.t 4, .c (.d (.int .i64 1)), .c (.d (.int .i64 1073741824))], none⟩, ⟨some 6, .un .not (.t 5), none⟩, ⟨some 7, .mv (.t 6), none⟩, ⟨some 8, .fad false 1 1 (.t 1), some (7, false)⟩, ⟨some 9, .ld false 1 (.t 8), some (7, false)⟩, ⟨some 10, .call N_ref03_in [] [.t 9, .c (.d (.int .i64 0)), .c (.d (.int .i64 65535))], some (7, false)⟩, ⟨some 11, .un .not (.t 10), some (7, false)⟩, ⟨some 12, .pick (.t 7) (.c (.d (.bool true))) (.t 11), none⟩, ⟨some 13, .mv (.t 12), none⟩, ⟨some 14, .fad false 2 1 (.t 1), some (13, false)⟩, ⟨some 15, .ld false 1 (.t 14), some (13, false)⟩, ⟨some 16, .call N_ref03_in [] [.t 15, .c (.d (.int .i64 0)), .c (.d (.int .i64 65536))], some (13, false)⟩, ⟨some 17, .un .not (.t 16), some (13, false)⟩, ⟨some 18, .pick (.t 13) (.c (.d (.bool true))) (.t 17), none⟩, ⟨some 19, .mv (.t 18), none⟩, ⟨some 20, .fad false 3 1 (.t 1), some (19, false)⟩, ⟨some 21, .ld false 1 (.t 20), some (19, false)⟩, ⟨some 22, .call N_ref03_in [] [.t 21, .c (.d (.int .i64 0)), .c (.d (.int .i64 8))], some (19, false)⟩, ⟨some 23, .un .not (.t 22), some (19, false)⟩, ⟨some 24, .pick (.t 19) (.c (.d (.bool true))) (.t 23), none⟩, ⟨some 25, .mv (.t 24), none⟩, ⟨some 26, .fad false 4 1 (.t 1), some (25, false)⟩, ⟨some 27, .ld false 1 (.t 26), some (25, false)⟩, ⟨some 28, .fad false 3 1 (.t 1), some (25, false)⟩, ⟨some 29, .ld false 1 (.t 28), some (25, false)⟩, ⟨some 30, .call N_ref03_in [] [.t 27, .t 29, .c (.d (.int .i64 65536))], some (25, false)⟩, ⟨some 31, .un .not (.t 30), some (25, false)⟩, ⟨some 32, .pick (.t 25) (.c (.d (.bool true))) (.t 31), none⟩, ⟨some 33, .mv (.t 32), none⟩, ⟨some 34, .fad false 5 1 (.t 1), some (33, false)⟩, ⟨some 35, .ld false 1 (.t 34), some (33, false)⟩, ⟨some 36, .call N_ref03_in [] [.t 35, .c (.d (.int .i64 0)), .c (.d (.int .i64 1073741824))], some (33, false)⟩, ⟨some 37, .un .not (.t 36), some (33, false)⟩, ⟨some 38, .pick (.t 33) (.c (.d (.bool true))) (.t 37), none⟩] [3, 4, 5, 6, 7, 8, 9, 10, 11, 12, 13, 14, 15, 16, 17, 18, 19, 20, 21, 22, 23, 24, 25, 26, 27, 28, 29, 30, 31, 32, 33, 34, 35, 36, 37])
 (.cond (.t 38) (.seq (.ops [] [⟨some 2, .mv (.c (.d (.int .i64 1))), none⟩] [1, 38])
 (.ret [2])) .skip))
 (.seq (.seq (.ops [] [⟨some 39, .fad false 6 1 (.t 1), none⟩, ⟨some 40, .ld false 1 (.t 39), none⟩, ⟨some 41, .lens (.t 40), none⟩, ⟨some 42, .bin .gtr (.t 41) (.c (.d (.int .i64 16))), none⟩] [1, 38, 39, 40, 41])
 (.cond (.t 42) (.seq (.ops [] [⟨some 2, .mv (.c (.d (.int .i64 2))), none⟩] [42])
 (.ret [2])) .skip))
 (.seq (.ops [] [⟨some 2, .mv (.c (.d (.int .i64 0))), none⟩] [42])
 (.ret [2])))))
def r_ref03_Validate : List ARes := [.t 2]
def fn_ref03_Validate : AFn := .code c_ref03_Validate r_ref03_Validate 43 true
def c_ref03_in : ACode :=
 (.seq (.ops [] [⟨some 6, .mv (.c (.d (.bool false))), none⟩] [6])
 (.seq (.ops [] [⟨some 7, .mv (.t 0), none⟩, ⟨some 8, .mv (.t 1), none⟩, ⟨some 9, .bin .geq (.t 7) (.t 8), none⟩, ⟨some 10, .mv (.t 9), none⟩, ⟨some 11, .mv (.t 0), some (10, true)⟩, ⟨some 12, .mv (.t 2), some (10, true)⟩, ⟨some 13, .bin .leq (.t 11) (.t 12), some (10, true)⟩, ⟨some 14, .pick (.t 10) (.t 13) (.c (.d (.bool false))), none⟩, ⟨some 6, .mv (.t 14), none⟩] [0, 1, 2, 7, 8, 9, 10, 11, 12, 13, 14])
 (.ret [6])))
def r_ref03_in : List ARes := [.t 6]
def fn_ref03_in : AFn := .code c_ref03_in r_ref03_in 15 true
def l_ref03_Index_0 : ACode :=
 (.seq (.seq (.ops [] [⟨some 6, .mv (.t 5), none⟩, ⟨some 7, .mv (.t 0), none⟩, ⟨some 8, .len (.t 7), none⟩, ⟨some 9, .bin .lss (.t 6) (.t 8), none⟩] [6, 7, 8])
 (.cond (.t 9) .skip (.exit 0 [])))
 (.seq (.block 1 (.seq (.ops [] [⟨some 12, .mv (.t 0), none⟩, ⟨some 13, .mv (.t 5), none⟩, ⟨some 14, .iad 7 (.t 12) (.t 13), none⟩, ⟨some 15, .fad false 0 1 (.t 14), none⟩, ⟨some 16, .ld false 1 (.t 15), none⟩, ⟨some 17, .mv (.t 1), none⟩, ⟨some 18, .bin .eql (.t 16) (.t 17), none⟩] [9, 12, 13, 14, 15, 16, 17])
 (.cond (.t 18) (.seq (.ops [] [⟨some 19, .mv (.t 5), none⟩, ⟨some 4, .mv (.t 19), none⟩] [0, 1, 5, 18, 19])
 (.ret [4])) .skip)))
 (.ops [] [⟨some 10, .mv (.t 5), none⟩, ⟨some 11, .bin .add (.t 10) (.c (.d (.int .i64 1))), none⟩, ⟨some 5, .mv (.t 11), none⟩] [10, 11, 18])))
def c_ref03_Index : ACode :=
 (.seq (.ops [] [⟨some 4, .mv (.c (.d (.int .i64 0))), none⟩] [4])
 (.seq (.seq (.ops [] [⟨some 5, .mv (.c (.d (.int .i64 0))), none⟩] [])
 (.block 0 (.loop [] l_ref03_Index_0)))
 (.seq (.ops [] [⟨some 4, .mv (.c (.d (.int .i64 (-1)))), none⟩] [0, 1, 5, 9])
 (.ret [4]))))
def r_ref03_Index : List ARes := [.t 4]
def fn_ref03_Index : AFn := .code c_ref03_Index r_ref03_Index 20 true
def c_ref12_StoreSlot : ACode :=
 (.seq (.ops [] [⟨some 4, .box (.t 0), none⟩, ⟨some 7, .box (.t 3), none⟩, ⟨some 8, .alloc (.agg [.xsl [], .xsl [], .d (.int .i64 0), .d (.int .i64 0), .xsl [], .d (.int .i64 0), .xsl [], .xsl [], .d (.int .i64 0), .d (.int .i64 0), .d (.int .i64 0)]), none⟩, ⟨some 9, .mv (.c (.d (.int .i64 0))), none⟩] [0, 3, 9])
 (.seq (.seq (.ops [] [⟨some 12, .ld true 11 (.t 4), none⟩, ⟨some 13, .mv (.t 1), none⟩, ⟨some 14, .mv (.t 2), none⟩, ⟨some 15, .call N_ref12_storable [] [.t 12, .t 13, .t 14], none⟩, ⟨some 10, .mv (.t 15), none⟩] [2, 12, 13, 14, 15])
 (.seq (.ops [] [⟨some 16, .mv (.t 10), none⟩, ⟨some 17, .bin .neq (.t 16) (.c (.d (.int .i64 0))), none⟩] [16])
 (.cond (.t 17) (.seq (.ops [] [⟨some 18, .build [.xsl [], .xsl [], .d (.int .i64 0), .d (.int .i64 0), .xsl [], .d (.int .i64 0), .xsl [], .xsl [], .d (.int .i64 0), .d (.int .i64 0), .d (.int .i64 0)] [], none⟩, ⟨some 19, .mv (.t 10), none⟩, ⟨none, .st 11 (.t 8) (.t 18), none⟩, ⟨some 9, .mv (.t 19), none⟩] [1, 4, 7, 10, 17, 18, 19])
 (.ret [8, 9])) .skip)))
 (.seq (.seq (.ops [] [⟨some 20, .ld true 8 (.t 7), none⟩, ⟨some 21, .call N_ref07_Validate [] [.t 20], none⟩, ⟨some 11, .mv (.t 21), none⟩] [10, 17, 20, 21])
 (.seq (.ops [] [⟨some 22, .mv (.t 11), none⟩, ⟨some 23, .bin .neq (.t 22) (.c (.d (.int .i64 0))), none⟩] [22])
 (.cond (.t 23) (.seq (.ops [] [⟨some 24, .build [.xsl [], .xsl [], .d (.int .i64 0), .d (.int .i64 0), .xsl [], .d (.int .i64 0), .xsl [], .xsl [], .d (.int .i64 0), .d (.int .i64 0), .d (.int .i64 0)] [], none⟩, ⟨some 25, .mv (.t 11), none⟩, ⟨none, .st 11 (.t 8) (.t 24), none⟩, ⟨some 9, .mv (.t 25), none⟩] [1, 4, 7, 11, 23, 24, 25])
 (.ret [8, 9])) .skip)))
 (.seq (.seq (.draw [] [⟨some 26, .fad true 3 3 (.t 7), none⟩, ⟨some 27, .fad false 0 1 (.t 26), none⟩, ⟨some 28, .ld false 1 (.t 27), none⟩, ⟨some 29, .len (.t 28), none⟩, ⟨some 30, .fad false 0 1 (.t 4), none⟩, ⟨some 31, .ld false 1 (.t 30), none⟩, ⟨some 32, .mv (.t 1), none⟩, ⟨some 33, .iad 9 (.t 31) (.t 32), none⟩, ⟨some 34, .fad true 1 8 (.t 33), none⟩, ⟨some 35, .fad true 3 3 (.t 34), none⟩, ⟨some 36, .fad false 0 1 (.t 35), none⟩, ⟨some 37, .ld false 1 (.t 36), none⟩, ⟨some 38, .len (.t 37), none⟩, ⟨some 39, .bin .neq (.t 29) (.t 38), none⟩] [[], [], [], [], [0, 1, 2, 3], [0, 1, 2, 3], [0, 1, 2, 3, 4, 5], [0, 1, 2, 3], [0, 1, 2, 3], [0, 1, 2, 3], [0, 1, 2, 3], [0, 1, 2, 3], [0, 1, 2, 3], []] [11, 23, 26, 27, 28, 29, 30, 31, 32, 33, 34, 35, 36, 37, 38])
 (.cond (.t 39) (.seq (.ops [] [⟨some 40, .build [.xsl [], .xsl [], .d (.int .i64 0), .d (.int .i64 0), .xsl [], .d (.int .i64 0), .xsl [], .xsl [], .d (.int .i64 0), .d (.int .i64 0), .d (.int .i64 0)] [], none⟩, ⟨none, .st 11 (.t 8) (.t 40), none⟩, ⟨some 9, .mv (.c (.d (.int .i64 1))), none⟩] [1, 4, 7, 39, 40])
 (.ret [8, 9])) .skip))
 (.seq (.ops [] [⟨some 41, .fad false 0 1 (.t 4), none⟩, ⟨some 42, .ld false 1 (.t 41), none⟩, ⟨some 43, .app 9 (.c (.xsl [])) (.t 42), none⟩, ⟨some 44, .fad false 0 1 (.t 4), none⟩, ⟨none, .st 1 (.t 44) (.t 43), none⟩] [39, 41, 42, 43, 44])
 (.seq (.ops [86] [⟨some 45, .fad false 0 1 (.t 4), none⟩, ⟨some 46, .ld false 1 (.t 45), none⟩, ⟨some 47, .mv (.t 1), none⟩, ⟨some 48, .ld true 8 (.t 7), none⟩, ⟨some 49, .iad 9 (.t 46) (.t 47), none⟩, ⟨some 50, .fad true 1 8 (.t 49), none⟩, ⟨none, .st 8 (.t 50) (.t 48), none⟩] [1, 7, 45, 46, 47, 48, 49, 50])
 (.seq (.ops [] [⟨some 51, .ld true 11 (.t 4), none⟩, ⟨none, .st 11 (.t 8) (.t 51), none⟩, ⟨some 9, .mv (.c (.d (.int .i64 0))), none⟩] [4, 51])
 (.ret [8, 9]))))))))
def r_ref12_StoreSlot : List ARes := [.c 8 true 11, .t 9]
def fn_ref12_StoreSlot : AFn := .code c_ref12_StoreSlot r_ref12_StoreSlot 52 true
def l_ref07_Validate_0 : ACode :=
 (.seq (.seq (.ops [] [⟨some 58, .mv (.t 7), none⟩, ⟨some 59, .mv (.t 6), none⟩, ⟨some 60, .len (.t 59), none⟩, ⟨some 61, .bin .lss (.t 58) (.t 60), none⟩] [58, 59, 60])
 (.cond (.t 61) .skip (.exit 0 [6])))
 (.seq (.block 1 (.seq (.draw [] [⟨some 64, .mv (.t 6), none⟩, ⟨some 65, .mv (.t 7), none⟩, ⟨some 66, .iad 7 (.t 64) (.t 65), none⟩, ⟨some 67, .fad false 1 1 (.t 66), none⟩, ⟨some 68, .ld false 1 (.t 67), none⟩, ⟨some 69, .fad false 1 1 (.t 1), none⟩, ⟨some 70, .ld false 1 (.t 69), none⟩, ⟨some 71, .bin .lss (.t 68) (.t 70), none⟩, ⟨some 72, .mv (.t 71), none⟩, ⟨some 73, .mv (.t 6), some (72, false)⟩, ⟨some 74, .mv (.t 7), some (72, false)⟩, ⟨some 75, .iad 7 (.t 73) (.t 74), some (72, false)⟩, ⟨some 76, .fad false 1 1 (.t 75), some (72, false)⟩, ⟨some 77, .ld false 1 (.t 76), some (72, false)⟩, ⟨some 78, .fad false 2 1 (.t 1), some (72, false)⟩, ⟨some 79, .ld false 1 (.t 78), some (72, false)⟩, ⟨some 80, .bin .gtr (.t 77) (.t 79), some (72, false)⟩, ⟨some 81, .pick (.t 72) (.c (.d (.bool true))) (.t 80), none⟩] [[], [0], [], [], [], [0, 1, 2, 3, 4], [0, 1, 2, 3, 4], [], [], [], [9], [], [], [], [9, 10, 11, 12, 13], [9, 10, 11, 12, 13], [], []] [61, 64, 65, 66, 67, 68, 69, 70, 71, 72, 73, 74, 75, 76, 77, 78, 79, 80])
 (.cond (.t 81) (.seq (.ops [] [⟨some 2, .mv (.c (.d (.int .i64 12))), none⟩] [1, 6, 7, 81])
 (.ret [2])) .skip)))
 (.ops [] [⟨some 62, .mv (.t 7), none⟩, ⟨some 63, .bin .add (.t 62) (.c (.d (.int .i64 1))), none⟩, ⟨some 7, .mv (.t 63), none⟩] [62, 63, 81])))
def l_ref07_Validate_1 : ACode :=
 (.seq (.seq (.ops [] [⟨some 82, .mv (.t 8), none⟩, ⟨some 83, .mv (.t 6), none⟩, ⟨some 84, .len (.t 83), none⟩, ⟨some 85, .bin .lss (.t 82) (.t 84), none⟩] [82, 83, 84])
 (.cond (.t 85) .skip (.exit 2 [])))
 (.seq (.block 3 (.seq (.ops [] [⟨some 88, .mv (.t 6), none⟩, ⟨some 89, .mv (.t 6), none⟩, ⟨some 90, .mv (.t 8), none⟩, ⟨some 91, .iad 7 (.t 89) (.t 90), none⟩, ⟨some 92, .fad false 0 1 (.t 91), none⟩, ⟨some 93, .ld false 1 (.t 92), none⟩, ⟨some 94, .call N_ref03_Index [] [.t 88, .t 93], none⟩, ⟨some 95, .mv (.t 8), none⟩, ⟨some 96, .bin .neq (.t 94) (.t 95), none⟩] [85, 88, 89, 90, 91, 92, 93, 94, 95])
 (.cond (.t 96) (.seq (.ops [] [⟨some 2, .mv (.c (.d (.int .i64 10))), none⟩] [6, 8, 96])
 (.ret [2])) .skip)))
 (.ops [] [⟨some 86, .mv (.t 8), none⟩, ⟨some 87, .bin .add (.t 86) (.c (.d (.int .i64 1))), none⟩, ⟨some 8, .mv (.t 87), none⟩] [86, 87, 96])))
def c_ref07_Validate : ACode :=
 (.seq (.ops [] [⟨some 1, .box (.t 0), none⟩, ⟨some 2, .mv (.c (.d (.int .i64 0))), none⟩] [0, 2])
 (.seq (.seq (.ops [] [⟨some 9, .fad true 3 3 (.t 1), none⟩, ⟨some 10, .ld true 3 (.t 9), none⟩, ⟨some 11, .call N_ref04_Validate [] [.t 10], none⟩, ⟨some 3, .mv (.t 11), none⟩] [9, 10, 11])
 (.seq (.ops [] [⟨some 12, .mv (.t 3), none⟩, ⟨some 13, .bin .neq (.t 12) (.c (.d (.int .i64 0))), none⟩] [12])
 (.cond (.t 13) (.seq (.ops [] [⟨some 14, .mv (.t 3), none⟩, ⟨some 2, .mv (.t 14), none⟩] [1, 3, 13, 14])
 (.ret [2])) .skip)))
 (.seq (.seq (.ops [] [⟨some 15, .fad true 6 2 (.t 1), none⟩, ⟨some 16, .ld true 2 (.t 15), none⟩, ⟨some 17, .call N_ref06_Validate [] [.t 16], none⟩, ⟨some 4, .mv (.t 17), none⟩] [3, 13, 15, 16, 17])
 (.seq (.ops [] [⟨some 18, .mv (.t 4), none⟩, ⟨some 19, .bin .neq (.t 18) (.c (.d (.int .i64 0))), none⟩] [18])
 (.cond (.t 19) (.seq (.ops [] [⟨some 20, .mv (.t 4), none⟩, ⟨some 2, .mv (.t 20), none⟩] [1, 4, 19, 20])
 (.ret [2])) .skip)))
 (.seq (.ops [] [⟨some 21, .fad true 3 3 (.t 1), none⟩, ⟨some 22, .fad false 2 1 (.t 21), none⟩, ⟨some 23, .ld false 1 (.t 22), none⟩, ⟨some 24, .fad true 6 2 (.t 1), none⟩, ⟨some 25, .fad false 0 1 (.t 24), none⟩, ⟨some 26, .ld false 1 (.t 25), none⟩, ⟨some 27, .len (.t 26), none⟩, ⟨some 28, .bin .add (.t 23) (.t 27), none⟩, ⟨some 5, .mv (.t 28), none⟩] [4, 19, 21, 22, 23, 24, 25, 26, 27, 28])
 (.seq (.seq (.ops [] [⟨some 29, .fad false 0 1 (.t 1), none⟩, ⟨some 30, .ld false 1 (.t 29), none⟩, ⟨some 31, .un .not (.t 30), none⟩] [29, 30])
 (.cond (.t 31) (.seq (.seq (.ops [] [⟨some 32, .fad false 1 1 (.t 1), none⟩, ⟨some 33, .ld false 1 (.t 32), none⟩, ⟨some 34, .bin .neq (.t 33) (.c (.d (.int .i64 0))), none⟩, ⟨some 35, .mv (.t 34), none⟩, ⟨some 36, .fad false 2 1 (.t 1), some (35, false)⟩, ⟨some 37, .ld false 1 (.t 36), some (35, false)⟩, ⟨some 38, .bin .neq (.t 37) (.c (.d (.int .i64 0))), some (35, false)⟩, ⟨some 39, .pick (.t 35) (.c (.d (.bool true))) (.t 38), none⟩, ⟨some 40, .mv (.t 39), none⟩, ⟨some 41, .mv (.t 5), some (40, false)⟩, ⟨some 42, .bin .gtr (.t 41) (.c (.d (.int .i64 0))), some (40, false)⟩, ⟨some 43, .pick (.t 40) (.c (.d (.bool true))) (.t 42), none⟩] [1, 5, 31, 32, 33, 34, 35, 36, 37, 38, 39, 40, 41, 42])
 (.cond (.t 43) (.seq (.ops [] [⟨some 2, .mv (.c (.d (.int .i64 7))), none⟩] [43])
 (.ret [2])) .skip))
 (.seq (.ops [] [⟨some 2, .mv (.c (.d (.int .i64 0))), none⟩] [43])
 (.ret [2]))) .skip))
 (.seq (.seq (.ops [] [⟨some 44, .fad false 1 1 (.t 1), none⟩, ⟨some 45, .ld false 1 (.t 44), none⟩, ⟨some 46, .fad false 2 1 (.t 1), none⟩, ⟨some 47, .ld false 1 (.t 46), none⟩, ⟨some 48, .call N_ref07_span [] [.t 45, .t 47], none⟩, ⟨some 49, .un .not (.t 48), none⟩] [31, 44, 45, 46, 47, 48])
 (.cond (.t 49) (.seq (.ops [] [⟨some 2, .mv (.c (.d (.int .i64 1))), none⟩] [1, 5, 49])
 (.ret [2])) .skip))
 (.seq (.seq (.ops [] [⟨some 50, .mv (.t 5), none⟩, ⟨some 51, .fad true 3 3 (.t 1), none⟩, ⟨some 52, .fad false 0 1 (.t 51), none⟩, ⟨some 53, .ld false 1 (.t 52), none⟩, ⟨some 54, .len (.t 53), none⟩, ⟨some 55, .bin .gtr (.t 50) (.t 54), none⟩] [5, 49, 50, 51, 52, 53, 54])
 (.cond (.t 55) (.seq (.ops [] [⟨some 2, .mv (.c (.d (.int .i64 3))), none⟩] [1, 55])
 (.ret [2])) .skip))
 (.seq (.ops [] [⟨some 56, .ld true 8 (.t 1), none⟩, ⟨some 57, .call N_ref07_All [false, true] [.t 56], none⟩, ⟨some 6, .mv (.t 57), none⟩] [55, 56, 57])
 (.seq (.seq (.ops [] [⟨some 7, .mv (.c (.d (.int .i64 0))), none⟩] [])
 (.block 0 (.loop [] l_ref07_Validate_0)))
 (.seq (.seq (.ops [] [⟨some 8, .mv (.c (.d (.int .i64 0))), none⟩] [1, 7, 61])
 (.block 2 (.loop [] l_ref07_Validate_1)))
 (.seq (.ops [] [⟨some 2, .mv (.c (.d (.int .i64 0))), none⟩] [6, 8, 85])
 (.ret [2]))))))))))))
def r_ref07_Validate : List ARes := [.t 2]
def fn_ref07_Validate : AFn := .code c_ref07_Validate r_ref07_Validate 97 true
def l_ref04_Validate_0 : ACode :=
 (.seq (.seq (.ops [] [⟨some 42, .mv (.t 4), none⟩, ⟨some 43, .mv (.t 3), none⟩, ⟨some 44, .bin .lss (.t 42) (.t 43), none⟩] [42, 43])
 (.cond (.t 44) .skip (.exit 0 [1])))
 (.seq (.block 1 (.seq (.draw [] [⟨some 47, .fad false 0 1 (.t 1), none⟩, ⟨some 48, .ld false 1 (.t 47), none⟩, ⟨some 49, .fad false 1 1 (.t 1), none⟩, ⟨some 50, .ld false 1 (.t 49), none⟩, ⟨some 51, .mv (.t 4), none⟩, ⟨some 52, .bin .add (.t 50) (.t 51), none⟩, ⟨some 53, .mv (.t 3), none⟩, ⟨some 54, .bin .rem (.t 52) (.t 53), none⟩, ⟨some 55, .iad 7 (.t 48) (.t 54), none⟩, ⟨some 56, .ld true 7 (.t 55), none⟩, ⟨some 57, .build [.d (.int .i64 0), .d (.int .i64 0), .d (.int .i64 0), .d (.int .i64 0), .d (.int .i64 0), .d (.int .i64 0), .d (.str [])] [], none⟩, ⟨some 58, .eqs true 7 [(0, 0), (1, 0), (2, 0), (3, 0), (4, 0), (5, 0), (6, 2)] (.t 56) (.t 57), none⟩] [[], [], [0, 1], [0, 1], [0, 1, 2, 3], [0, 1], [0, 1, 2, 3, 4, 5], [0, 1], [], [], [0, 1, 2, 3, 4, 5, 6, 7, 8, 9], []] [44, 47, 48, 49, 50, 51, 52, 53, 54, 55, 56, 57])
 (.cond (.t 58) (.seq (.ops [] [⟨some 2, .mv (.c (.d (.int .i64 7))), none⟩] [1, 3, 4, 58])
 (.ret [2])) .skip)))
 (.ops [] [⟨some 45, .mv (.t 4), none⟩, ⟨some 46, .bin .add (.t 45) (.c (.d (.int .i64 1))), none⟩, ⟨some 4, .mv (.t 46), none⟩] [45, 46, 58])))
def l_ref04_Validate_1 : ACode :=
 (.seq (.seq (.ops [] [⟨some 61, .mv (.t 6), none⟩, ⟨some 62, .mv (.t 5), none⟩, ⟨some 63, .len (.t 62), none⟩, ⟨some 64, .bin .lss (.t 61) (.t 63), none⟩] [61, 62, 63])
 (.cond (.t 64) .skip (.exit 2 [5])))
 (.seq (.block 3 (.seq (.ops [] [⟨some 67, .mv (.t 5), none⟩, ⟨some 68, .mv (.t 6), none⟩, ⟨some 69, .iad 7 (.t 67) (.t 68), none⟩, ⟨some 70, .ld true 7 (.t 69), none⟩, ⟨some 71, .call N_ref03_Validate [] [.t 70], none⟩, ⟨some 7, .mv (.t 71), none⟩] [64, 67, 68, 69, 70, 71])
 (.seq (.ops [] [⟨some 72, .mv (.t 7), none⟩, ⟨some 73, .bin .neq (.t 72) (.c (.d (.int .i64 0))), none⟩] [72])
 (.cond (.t 73) (.seq (.ops [] [⟨some 74, .mv (.t 7), none⟩, ⟨some 2, .mv (.t 74), none⟩] [5, 6, 7, 73, 74])
 (.ret [2])) .skip))))
 (.ops [] [⟨some 65, .mv (.t 6), none⟩, ⟨some 66, .bin .add (.t 65) (.c (.d (.int .i64 1))), none⟩, ⟨some 6, .mv (.t 66), none⟩] [7, 65, 66, 73])))
def l_ref04_Validate_2 : ACode :=
 (.seq (.seq (.ops [] [⟨some 75, .mv (.t 8), none⟩, ⟨some 76, .mv (.t 5), none⟩, ⟨some 77, .len (.t 76), none⟩, ⟨some 78, .bin .lss (.t 75) (.t 77), none⟩] [75, 76, 77])
 (.cond (.t 78) .skip (.exit 4 [])))
 (.seq (.block 5 (.seq (.ops [] [⟨some 81, .mv (.t 5), none⟩, ⟨some 82, .mv (.t 5), none⟩, ⟨some 83, .mv (.t 8), none⟩, ⟨some 84, .iad 7 (.t 82) (.t 83), none⟩, ⟨some 85, .fad false 0 1 (.t 84), none⟩, ⟨some 86, .ld false 1 (.t 85), none⟩, ⟨some 87, .call N_ref03_Index [] [.t 81, .t 86], none⟩, ⟨some 88, .mv (.t 8), none⟩, ⟨some 89, .bin .neq (.t 87) (.t 88), none⟩] [78, 81, 82, 83, 84, 85, 86, 87, 88])
 (.cond (.t 89) (.seq (.ops [] [⟨some 2, .mv (.c (.d (.int .i64 10))), none⟩] [5, 8, 89])
 (.ret [2])) .skip)))
 (.ops [] [⟨some 79, .mv (.t 8), none⟩, ⟨some 80, .bin .add (.t 79) (.c (.d (.int .i64 1))), none⟩, ⟨some 8, .mv (.t 80), none⟩] [79, 80, 89])))
def c_ref04_Validate : ACode :=
 (.seq (.ops [] [⟨some 1, .box (.t 0), none⟩, ⟨some 2, .mv (.c (.d (.int .i64 0))), none⟩] [0, 2])
 (.seq (.ops [] [⟨some 9, .fad false 0 1 (.t 1), none⟩, ⟨some 10, .ld false 1 (.t 9), none⟩, ⟨some 11, .len (.t 10), none⟩, ⟨some 3, .mv (.t 11), none⟩] [9, 10, 11])
 (.seq (.seq (.ops [] [⟨some 12, .mv (.t 3), none⟩, ⟨some 13, .bin .lss (.t 12) (.c (.d (.int .i64 1))), none⟩, ⟨some 14, .mv (.t 13), none⟩, ⟨some 15, .mv (.t 3), some (14, false)⟩, ⟨some 16, .bin .gtr (.t 15) (.c (.d (.int .i64 12))), some (14, false)⟩, ⟨some 17, .pick (.t 14) (.c (.d (.bool true))) (.t 16), none⟩, ⟨some 18, .mv (.t 17), none⟩, ⟨some 19, .fad false 1 1 (.t 1), some (18, false)⟩, ⟨some 20, .ld false 1 (.t 19), some (18, false)⟩, ⟨some 21, .bin .lss (.t 20) (.c (.d (.int .i64 0))), some (18, false)⟩, ⟨some 22, .pick (.t 18) (.c (.d (.bool true))) (.t 21), none⟩, ⟨some 23, .mv (.t 22), none⟩, ⟨some 24, .fad false 1 1 (.t 1), some (23, false)⟩, ⟨some 25, .ld false 1 (.t 24), some (23, false)⟩, ⟨some 26, .mv (.t 3), some (23, false)⟩, ⟨some 27, .bin .geq (.t 25) (.t 26), some (23, false)⟩, ⟨some 28, .pick (.t 23) (.c (.d (.bool true))) (.t 27), none⟩, ⟨some 29, .mv (.t 28), none⟩, ⟨some 30, .fad false 2 1 (.t 1), some (29, false)⟩, ⟨some 31, .ld false 1 (.t 30), some (29, false)⟩, ⟨some 32, .bin .lss (.t 31) (.c (.d (.int .i64 0))), some (29, false)⟩, ⟨some 33, .pick (.t 29) (.c (.d (.bool true))) (.t 32), none⟩, ⟨some 34, .mv (.t 33), none⟩, ⟨some 35, .fad false 2 1 (.t 1), some (34, false)⟩, ⟨some 36, .ld false 1 (.t 35), some (34, false)⟩, ⟨some 37, .mv (.t 3), some (34, false)⟩, ⟨some 38, .bin .gtr (.t 36) (.t 37), some (34, false)⟩, ⟨some 39, .pick (.t 34) (.c (.d (.bool true))) (.t 38), none⟩] [12, 13, 14, 15, 16, 17, 18, 19, 20, 21, 22, 23, 24, 25, 26, 27, 28, 29, 30, 31, 32, 33, 34, 35, 36, 37, 38])
 (.cond (.t 39) (.seq (.ops [] [⟨some 2, .mv (.c (.d (.int .i64 1))), none⟩] [1, 3, 39])
 (.ret [2])) .skip))
 (.seq (.seq (.ops [] [⟨some 40, .fad false 2 1 (.t 1), none⟩, ⟨some 41, .ld false 1 (.t 40), none⟩, ⟨some 4, .mv (.t 41), none⟩] [39, 40, 41])
 (.block 0 (.loop [] l_ref04_Validate_0)))
 (.seq (.ops [] [⟨some 59, .ld true 3 (.t 1), none⟩, ⟨some 60, .call N_ref04_order [false, true] [.t 59], none⟩, ⟨some 5, .mv (.t 60), none⟩] [1, 3, 4, 44, 59, 60])
 (.seq (.seq (.ops [] [⟨some 6, .mv (.c (.d (.int .i64 0))), none⟩] [])
 (.block 2 (.loop [] l_ref04_Validate_1)))
 (.seq (.seq (.ops [] [⟨some 8, .mv (.c (.d (.int .i64 0))), none⟩] [6, 64])
 (.block 4 (.loop [] l_ref04_Validate_2)))
 (.seq (.ops [] [⟨some 2, .mv (.c (.d (.int .i64 0))), none⟩] [5, 8, 78])
 (.ret [2])))))))))
def r_ref04_Validate : List ARes := [.t 2]
def fn_ref04_Validate : AFn := .code c_ref04_Validate r_ref04_Validate 90 true
def l_ref04_order_0 : ACode :=
 (.seq (.seq (.ops [] [⟨some 5, .mv (.t 4), none⟩, ⟨some 6, .fad false 2 1 (.t 1), none⟩, ⟨some 7, .ld false 1 (.t 6), none⟩, ⟨some 8, .bin .lss (.t 5) (.t 7), none⟩] [5, 6, 7])
 (.cond (.t 8) .skip (.exit 0 [3])))
 (.seq (.block 1 (.draw [] [⟨some 11, .mv (.t 3), none⟩, ⟨some 12, .fad false 0 1 (.t 1), none⟩, ⟨some 13, .ld false 1 (.t 12), none⟩, ⟨some 14, .fad false 1 1 (.t 1), none⟩, ⟨some 15, .ld false 1 (.t 14), none⟩, ⟨some 16, .mv (.t 4), none⟩, ⟨some 17, .bin .add (.t 15) (.t 16), none⟩, ⟨some 18, .fad false 0 1 (.t 1), none⟩, ⟨some 19, .ld false 1 (.t 18), none⟩, ⟨some 20, .len (.t 19), none⟩, ⟨some 21, .bin .rem (.t 17) (.t 20), none⟩, ⟨some 22, .iad 7 (.t 13) (.t 21), none⟩, ⟨some 23, .ld true 7 (.t 22), none⟩, ⟨some 24, .bsl 1 7 (.d (.agg [.int .i64 0, .int .i64 0, .int .i64 0, .int .i64 0, .int .i64 0, .int .i64 0, .str []])) [(0, .t 23)], none⟩, ⟨some 25, .app 7 (.t 11) (.t 24), none⟩, ⟨some 3, .mv (.t 25), none⟩] [[], [0], [0], [0, 1, 2], [0, 1, 2], [0, 1, 2, 3, 4], [0, 1, 2], [0, 1, 2, 3, 4, 5, 6], [0, 1, 2, 3, 4, 5, 6], [0, 1, 2, 3, 4, 5, 6], [0, 1, 2], [0], [0], [0], [], []] [8, 11, 12, 13, 14, 15, 16, 17, 18, 19, 20, 21, 22, 23, 24, 25]))
 (.ops [] [⟨some 9, .mv (.t 4), none⟩, ⟨some 10, .bin .add (.t 9) (.c (.d (.int .i64 1))), none⟩, ⟨some 4, .mv (.t 10), none⟩] [9, 10])))
def c_ref04_order : ACode :=
 (.seq (.ops [] [⟨some 1, .box (.t 0), none⟩, ⟨some 2, .mv (.c (.xsl [])), none⟩] [0, 2])
 (.seq (.ops [] [⟨some 3, .nacc, none⟩] [])
 (.seq (.seq (.ops [] [⟨some 4, .mv (.c (.d (.int .i64 0))), none⟩] [])
 (.block 0 (.loop [] l_ref04_order_0)))
 (.seq (.ops [] [⟨some 26, .mv (.t 3), none⟩, ⟨some 2, .mv (.t 26), none⟩] [1, 3, 4, 8, 26])
 (.ret [2])))))
def r_ref04_order : List ARes := [.t 2]
def fn_ref04_order : AFn := .code c_ref04_order r_ref04_order 27 false
def l_ref06_Validate_0 : ACode :=
 (.seq (.seq (.ops [] [⟨some 13, .mv (.t 3), none⟩, ⟨some 14, .fad false 0 1 (.t 1), none⟩, ⟨some 15, .ld false 1 (.t 14), none⟩, ⟨some 16, .len (.t 15), none⟩, ⟨some 17, .bin .lss (.t 13) (.t 16), none⟩] [13, 14, 15, 16])
 (.cond (.t 17) .skip (.exit 0 [1])))
 (.seq (.block 1 (.seq (.ops [] [⟨some 20, .fad false 0 1 (.t 1), none⟩, ⟨some 21, .ld false 1 (.t 20), none⟩, ⟨some 22, .mv (.t 3), none⟩, ⟨some 23, .iad 8 (.t 21) (.t 22), none⟩, ⟨some 24, .ld true 8 (.t 23), none⟩, ⟨some 4, .alloc (.d (.agg [.int .i64 0, .int .i64 0, .int .i64 0, .int .i64 0, .int .i64 0, .int .i64 0, .str [], .int .i64 0])), none⟩, ⟨none, .st 8 (.t 4) (.t 24), none⟩] [17, 20, 21, 22, 23, 24])
 (.seq (.seq (.ops [] [⟨some 25, .fad true 0 7 (.t 4), none⟩, ⟨some 26, .ld true 7 (.t 25), none⟩, ⟨some 27, .call N_ref03_Validate [] [.t 26], none⟩, ⟨some 5, .mv (.t 27), none⟩] [25, 26, 27])
 (.seq (.ops [] [⟨some 28, .mv (.t 5), none⟩, ⟨some 29, .bin .neq (.t 28) (.c (.d (.int .i64 0))), none⟩] [28])
 (.cond (.t 29) (.seq (.ops [] [⟨some 30, .mv (.t 5), none⟩, ⟨some 2, .mv (.t 30), none⟩] [1, 3, 4, 5, 29, 30])
 (.ret [2])) .skip)))
 (.block 2 (.seq (.ops [] [⟨some 32, .fad true 0 7 (.t 4), none⟩, ⟨some 33, .fad false 4 1 (.t 32), none⟩, ⟨some 34, .ld false 1 (.t 33), none⟩, ⟨some 35, .bin .eql (.t 34) (.c (.d (.int .i64 0))), none⟩, ⟨some 31, .mv (.t 35), none⟩] [5, 29, 32, 33, 34, 35])
 (.cond (.t 31) (.seq (.ops [] [⟨some 2, .mv (.c (.d (.int .i64 7))), none⟩] [1, 3, 4, 31])
 (.ret [2])) (.seq (.ops [] [⟨some 37, .fad false 7 1 (.t 4), none⟩, ⟨some 38, .ld false 1 (.t 37), none⟩, ⟨some 39, .bin .lss (.t 38) (.c (.d (.int .i64 0))), none⟩, ⟨some 40, .mv (.t 39), none⟩, ⟨some 41, .fad false 7 1 (.t 4), some (40, false)⟩, ⟨some 42, .ld false 1 (.t 41), some (40, false)⟩, ⟨some 43, .bin .gtr (.t 42) (.c (.d (.int .i64 1073741824))), some (40, false)⟩, ⟨some 44, .pick (.t 40) (.c (.d (.bool true))) (.t 43), none⟩, ⟨some 36, .mv (.t 44), none⟩] [31, 37, 38, 39, 40, 41, 42, 43, 44])
 (.cond (.t 36) (.seq (.ops [] [⟨some 2, .mv (.c (.d (.int .i64 1))), none⟩] [1, 3, 4, 36])
 (.ret [2])) (.seq (.draw [] [⟨some 46, .mv (.t 3), none⟩, ⟨some 47, .bin .gtr (.t 46) (.c (.d (.int .i64 0))), none⟩, ⟨some 48, .mv (.t 47), none⟩, ⟨some 49, .fad true 0 7 (.t 4), some (48, true)⟩, ⟨some 50, .fad false 0 1 (.t 49), some (48, true)⟩, ⟨some 51, .ld false 1 (.t 50), some (48, true)⟩, ⟨some 52, .fad false 0 1 (.t 1), some (48, true)⟩, ⟨some 53, .ld false 1 (.t 52), some (48, true)⟩, ⟨some 54, .mv (.t 3), some (48, true)⟩, ⟨some 55, .bin .sub (.t 54) (.c (.d (.int .i64 1))), some (48, true)⟩, ⟨some 56, .iad 8 (.t 53) (.t 55), some (48, true)⟩, ⟨some 57, .fad true 0 7 (.t 56), some (48, true)⟩, ⟨some 58, .fad false 0 1 (.t 57), some (48, true)⟩, ⟨some 59, .ld false 1 (.t 58), some (48, true)⟩, ⟨some 60, .bin .leq (.t 51) (.t 59), some (48, true)⟩, ⟨some 61, .pick (.t 48) (.t 60) (.c (.d (.bool false))), none⟩, ⟨some 45, .mv (.t 61), none⟩] [[], [], [], [], [], [], [3, 4, 5], [3, 4, 5], [3, 4, 5, 6, 7], [3, 4, 5, 6, 7], [3, 4, 5], [3, 4, 5], [3, 4, 5], [3, 4, 5], [], [], []] [4, 36, 46, 47, 48, 49, 50, 51, 52, 53, 54, 55, 56, 57, 58, 59, 60, 61])
 (.cond (.t 45) (.seq (.ops [] [⟨some 2, .mv (.c (.d (.int .i64 11))), none⟩] [1, 3, 45])
 (.ret [2])) .skip))))))))))
 (.ops [] [⟨some 18, .mv (.t 3), none⟩, ⟨some 19, .bin .add (.t 18) (.c (.d (.int .i64 1))), none⟩, ⟨some 3, .mv (.t 19), none⟩] [18, 19, 45])))
def l_ref06_Validate_1 : ACode :=
 (.seq (.seq (.ops [] [⟨some 75, .mv (.t 7), none⟩, ⟨some 76, .fad false 1 1 (.t 1), none⟩, ⟨some 77, .ld false 1 (.t 76), none⟩, ⟨some 78, .len (.t 77), none⟩, ⟨some 79, .bin .lss (.t 75) (.t 78), none⟩] [75, 76, 77, 78])
 (.cond (.t 79) .skip (.exit 3 [])))
 (.seq (.block 4 (.seq (.draw [] [⟨some 82, .ld true 2 (.t 1), none⟩, ⟨some 83, .fad false 1 1 (.t 1), none⟩, ⟨some 84, .ld false 1 (.t 83), none⟩, ⟨some 85, .mv (.t 7), none⟩, ⟨some 86, .iad 2 (.t 84) (.t 85), none⟩, ⟨some 87, .fad false 1 1 (.t 86), none⟩, ⟨some 88, .ld false 1 (.t 87), none⟩, ⟨some 89, .call N_ref06_find [] [.t 82, .t 88], none⟩, ⟨some 8, .mv (.t 89), none⟩] [[], [0], [0], [0, 1, 2], [0], [0], [0], [], []] [79, 82, 83, 84, 85, 86, 87, 88, 89])
 (.seq (.draw [] [⟨some 90, .mv (.t 8), none⟩, ⟨some 91, .bin .lss (.t 90) (.c (.d (.int .i64 0))), none⟩, ⟨some 92, .mv (.t 91), none⟩, ⟨some 93, .fad false 0 1 (.t 1), some (92, false)⟩, ⟨some 94, .ld false 1 (.t 93), some (92, false)⟩, ⟨some 95, .mv (.t 8), some (92, false)⟩, ⟨some 96, .iad 8 (.t 94) (.t 95), some (92, false)⟩, ⟨some 97, .fad false 7 1 (.t 96), some (92, false)⟩, ⟨some 98, .ld false 1 (.t 97), some (92, false)⟩, ⟨some 99, .fad false 1 1 (.t 1), some (92, false)⟩, ⟨some 100, .ld false 1 (.t 99), some (92, false)⟩, ⟨some 101, .mv (.t 7), some (92, false)⟩, ⟨some 102, .iad 2 (.t 100) (.t 101), some (92, false)⟩, ⟨some 103, .fad false 0 1 (.t 102), some (92, false)⟩, ⟨some 104, .ld false 1 (.t 103), some (92, false)⟩, ⟨some 105, .bin .neq (.t 98) (.t 104), some (92, false)⟩, ⟨some 106, .pick (.t 92) (.c (.d (.bool true))) (.t 105), none⟩] [[], [], [], [], [], [3, 4], [], [], [], [3, 4, 5, 6, 7, 8], [3, 4, 5, 6, 7, 8], [3, 4, 5, 6, 7, 8, 9, 10], [3, 4, 5, 6, 7, 8], [3, 4, 5, 6, 7, 8], [3, 4, 5, 6, 7, 8], [], []] [8, 90, 91, 92, 93, 94, 95, 96, 97, 98, 99, 100, 101, 102, 103, 104, 105])
 (.cond (.t 106) (.seq (.ops [] [⟨some 2, .mv (.c (.d (.int .i64 7))), none⟩] [1, 7, 106])
 (.ret [2])) .skip))))
 (.ops [] [⟨some 80, .mv (.t 7), none⟩, ⟨some 81, .bin .add (.t 80) (.c (.d (.int .i64 1))), none⟩, ⟨some 7, .mv (.t 81), none⟩] [80, 81, 106])))
def c_ref06_Validate : ACode :=
 (.seq (.ops [] [⟨some 1, .box (.t 0), none⟩, ⟨some 2, .mv (.c (.d (.int .i64 0))), none⟩] [0, 2])
 (.seq (.seq (.ops [] [⟨some 9, .fad false 0 1 (.t 1), none⟩, ⟨some 10, .ld false 1 (.t 9), none⟩, ⟨some 11, .len (.t 10), none⟩, ⟨some 12, .bin .gtr (.t 11) (.c (.d (.int .i64 12))), none⟩] [9, 10, 11])
 (.cond (.t 12) (.seq (.ops [] [⟨some 2, .mv (.c (.d (.int .i64 2))), none⟩] [1, 12])
 (.ret [2])) .skip))
 (.seq (.seq (.ops [] [⟨some 3, .mv (.c (.d (.int .i64 0))), none⟩] [12])
 (.block 0 (.loop [] l_ref06_Validate_0)))
 (.seq (.seq (.ops [] [⟨some 62, .fad false 1 1 (.t 1), none⟩, ⟨some 63, .ld false 1 (.t 62), none⟩, ⟨some 64, .call N_ref05_Validate [] [.t 63], none⟩, ⟨some 6, .mv (.t 64), none⟩] [3, 17, 62, 63, 64])
 (.seq (.ops [] [⟨some 65, .mv (.t 6), none⟩, ⟨some 66, .bin .neq (.t 65) (.c (.d (.int .i64 0))), none⟩] [65])
 (.cond (.t 66) (.seq (.ops [] [⟨some 67, .mv (.t 6), none⟩, ⟨some 2, .mv (.t 67), none⟩] [1, 6, 66, 67])
 (.ret [2])) .skip)))
 (.seq (.seq (.ops [] [⟨some 68, .fad false 1 1 (.t 1), none⟩, ⟨some 69, .ld false 1 (.t 68), none⟩, ⟨some 70, .len (.t 69), none⟩, ⟨some 71, .fad false 0 1 (.t 1), none⟩, ⟨some 72, .ld false 1 (.t 71), none⟩, ⟨some 73, .len (.t 72), none⟩, ⟨some 74, .bin .neq (.t 70) (.t 73), none⟩] [6, 66, 68, 69, 70, 71, 72, 73])
 (.cond (.t 74) (.seq (.ops [] [⟨some 2, .mv (.c (.d (.int .i64 7))), none⟩] [1, 74])
 (.ret [2])) .skip))
 (.seq (.seq (.ops [] [⟨some 7, .mv (.c (.d (.int .i64 0))), none⟩] [74])
 (.block 3 (.loop [] l_ref06_Validate_1)))
 (.seq (.ops [] [⟨some 2, .mv (.c (.d (.int .i64 0))), none⟩] [1, 7, 79])
 (.ret [2]))))))))
def r_ref06_Validate : List ARes := [.t 2]
def fn_ref06_Validate : AFn := .code c_ref06_Validate r_ref06_Validate 107 true
def l_ref05_Validate_0 : ACode :=
 (.seq (.seq (.ops [] [⟨some 9, .mv (.t 3), none⟩, ⟨some 10, .mv (.t 0), none⟩, ⟨some 11, .len (.t 10), none⟩, ⟨some 12, .bin .lss (.t 9) (.t 11), none⟩] [9, 10, 11])
 (.cond (.t 12) .skip (.exit 0 [0])))
 (.seq (.block 1 (.seq (.ops [] [⟨some 15, .mv (.t 0), none⟩, ⟨some 16, .mv (.t 3), none⟩, ⟨some 17, .iad 2 (.t 15) (.t 16), none⟩, ⟨some 18, .ld true 2 (.t 17), none⟩, ⟨some 19, .call N_ref05_sound [] [.t 18], none⟩, ⟨some 20, .un .not (.t 19), none⟩] [12, 15, 16, 17, 18, 19])
 (.cond (.t 20) (.seq (.ops [] [⟨some 2, .mv (.c (.d (.int .i64 1))), none⟩] [0, 3, 20])
 (.ret [2])) .skip)))
 (.ops [] [⟨some 13, .mv (.t 3), none⟩, ⟨some 14, .bin .add (.t 13) (.c (.d (.int .i64 1))), none⟩, ⟨some 3, .mv (.t 14), none⟩] [13, 14, 20])))
def l_ref05_Validate_1 : ACode :=
 (.seq (.seq (.ops [] [⟨some 21, .mv (.t 4), none⟩, ⟨some 22, .mv (.t 0), none⟩, ⟨some 23, .len (.t 22), none⟩, ⟨some 24, .bin .lss (.t 21) (.t 23), none⟩] [21, 22, 23])
 (.cond (.t 24) .skip (.exit 2 [0])))
 (.seq (.block 3 (.seq (.ops [] [⟨some 27, .mv (.t 0), none⟩, ⟨some 28, .mv (.t 0), none⟩, ⟨some 29, .mv (.t 4), none⟩, ⟨some 30, .iad 2 (.t 28) (.t 29), none⟩, ⟨some 31, .fad false 1 1 (.t 30), none⟩, ⟨some 32, .ld false 1 (.t 31), none⟩, ⟨some 33, .call N_ref05_index [] [.t 27, .t 32], none⟩, ⟨some 34, .mv (.t 4), none⟩, ⟨some 35, .bin .neq (.t 33) (.t 34), none⟩] [24, 27, 28, 29, 30, 31, 32, 33, 34])
 (.cond (.t 35) (.seq (.ops [] [⟨some 2, .mv (.c (.d (.int .i64 10))), none⟩] [0, 4, 35])
 (.ret [2])) .skip)))
 (.ops [] [⟨some 25, .mv (.t 4), none⟩, ⟨some 26, .bin .add (.t 25) (.c (.d (.int .i64 1))), none⟩, ⟨some 4, .mv (.t 26), none⟩] [25, 26, 35])))
def l_ref05_Validate_2 : ACode :=
 (.seq (.seq (.ops [] [⟨some 36, .mv (.t 5), none⟩, ⟨some 37, .mv (.t 0), none⟩, ⟨some 38, .len (.t 37), none⟩, ⟨some 39, .bin .lss (.t 36) (.t 38), none⟩] [36, 37, 38])
 (.cond (.t 39) .skip (.exit 4 [])))
 (.seq (.block 5 (.seq (.draw [] [⟨some 42, .mv (.t 0), none⟩, ⟨some 43, .mv (.t 5), none⟩, ⟨some 44, .iad 2 (.t 42) (.t 43), none⟩, ⟨some 45, .ld true 2 (.t 44), none⟩, ⟨some 46, .mv (.t 0), none⟩, ⟨some 47, .mv (.t 5), none⟩, ⟨some 48, .bin .sub (.t 47) (.c (.d (.int .i64 1))), none⟩, ⟨some 49, .bin .quo (.t 48) (.c (.d (.int .i64 2))), none⟩, ⟨some 50, .iad 2 (.t 46) (.t 49), none⟩, ⟨some 51, .ld true 2 (.t 50), none⟩, ⟨some 52, .call N_ref05_before [] [.t 45, .t 51], none⟩] [[], [0], [], [], [0, 1, 2, 3], [0, 1, 2, 3, 4], [0, 1, 2, 3, 4], [0, 1, 2, 3, 4], [0, 1, 2, 3], [0, 1, 2, 3], []] [39, 42, 43, 44, 45, 46, 47, 48, 49, 50, 51])
 (.cond (.t 52) (.seq (.ops [] [⟨some 2, .mv (.c (.d (.int .i64 11))), none⟩] [0, 5, 52])
 (.ret [2])) .skip)))
 (.ops [] [⟨some 40, .mv (.t 5), none⟩, ⟨some 41, .bin .add (.t 40) (.c (.d (.int .i64 1))), none⟩, ⟨some 5, .mv (.t 41), none⟩] [40, 41, 52])))
def c_ref05_Validate : ACode :=
 (.seq (.ops [] [⟨some 2, .mv (.c (.d (.int .i64 0))), none⟩] [2])
 (.seq (.seq (.ops [] [⟨some 6, .mv (.t 0), none⟩, ⟨some 7, .len (.t 6), none⟩, ⟨some 8, .bin .gtr (.t 7) (.c (.d (.int .i64 12))), none⟩] [6, 7])
 (.cond (.t 8) (.seq (.ops [] [⟨some 2, .mv (.c (.d (.int .i64 2))), none⟩] [0, 8])
 (.ret [2])) .skip))
 (.seq (.seq (.ops [] [⟨some 3, .mv (.c (.d (.int .i64 0))), none⟩] [8])
 (.block 0 (.loop [] l_ref05_Validate_0)))
 (.seq (.seq (.ops [] [⟨some 4, .mv (.c (.d (.int .i64 0))), none⟩] [3, 12])
 (.block 2 (.loop [] l_ref05_Validate_1)))
 (.seq (.seq (.ops [] [⟨some 5, .mv (.c (.d (.int .i64 1))), none⟩] [4, 24])
 (.block 4 (.loop [] l_ref05_Validate_2)))
 (.seq (.ops [] [⟨some 2, .mv (.c (.d (.int .i64 0))), none⟩] [0, 5, 39])
 (.ret [2])))))))
def r_ref05_Validate : List ARes := [.t 2]
def fn_ref05_Validate : AFn := .code c_ref05_Validate r_ref05_Validate 53 true
def c_ref07_All : ACode :=
 (.seq (.ops [] [⟨some 1, .box (.t 0), none⟩, ⟨some 2, .mv (.c (.xsl [])), none⟩] [0, 2])
 (.seq (.draw [] [⟨some 3, .ld true 8 (.t 1), none⟩, ⟨some 4, .call N_ref07_Ready [false, true] [.t 3], none⟩, ⟨some 5, .app 7 (.c (.xsl [])) (.t 4), none⟩, ⟨some 6, .ld true 8 (.t 1), none⟩, ⟨some 7, .call N_ref07_Leased [false, true] [.t 6], none⟩, ⟨some 8, .app 7 (.t 5) (.t 7), none⟩, ⟨some 2, .mv (.t 8), none⟩] [[], [], [], [0, 1, 2], [], [], []] [1, 3, 4, 5, 6, 7, 8])
 (.ret [2])))
def r_ref07_All : List ARes := [.t 2]
def fn_ref07_All : AFn := .code c_ref07_All r_ref07_All 9 true
def c_ref07_Ready : ACode :=
 (.seq (.ops [] [⟨some 1, .box (.t 0), none⟩, ⟨some 2, .mv (.c (.xsl [])), none⟩] [0, 2])
 (.seq (.ops [] [⟨some 3, .fad true 3 3 (.t 1), none⟩, ⟨some 4, .ld true 3 (.t 3), none⟩, ⟨some 5, .call N_ref04_List [false, true] [.t 4], none⟩, ⟨some 2, .mv (.t 5), none⟩] [1, 3, 4, 5])
 (.ret [2])))
def r_ref07_Ready : List ARes := [.t 2]
def fn_ref07_Ready : AFn := .code c_ref07_Ready r_ref07_Ready 6 true
def c_ref04_List : ACode :=
 (.seq (.ops [] [⟨some 1, .box (.t 0), none⟩, ⟨some 2, .mv (.c (.xsl [])), none⟩] [0, 2])
 (.seq (.seq (.ops [] [⟨some 3, .ld true 3 (.t 1), none⟩, ⟨some 4, .call N_ref04_Validate [] [.t 3], none⟩, ⟨some 5, .bin .neq (.t 4) (.c (.d (.int .i64 0))), none⟩] [3, 4])
 (.cond (.t 5) (.seq (.ops [] [⟨some 2, .mv (.c (.xsl [])), none⟩] [1, 5])
 (.ret [2])) .skip))
 (.seq (.ops [] [⟨some 6, .ld true 3 (.t 1), none⟩, ⟨some 7, .call N_ref04_order [false, true] [.t 6], none⟩, ⟨some 2, .mv (.t 7), none⟩] [1, 5, 6, 7])
 (.ret [2]))))
def r_ref04_List : List ARes := [.t 2]
def fn_ref04_List : AFn := .code c_ref04_List r_ref04_List 8 true
def l_ref07_Leased_0 : ACode :=
 (.seq (.seq (.ops [] [⟨some 5, .mv (.t 4), none⟩, ⟨some 6, .fad true 6 2 (.t 1), none⟩, ⟨some 7, .fad false 0 1 (.t 6), none⟩, ⟨some 8, .ld false 1 (.t 7), none⟩, ⟨some 9, .len (.t 8), none⟩, ⟨some 10, .bin .lss (.t 5) (.t 9), none⟩] [5, 6, 7, 8, 9])
 (.cond (.t 10) .skip (.exit 0 [3])))
 (.seq (.block 1 (.ops [] [⟨some 13, .mv (.t 3), none⟩, ⟨some 14, .fad true 6 2 (.t 1), none⟩, ⟨some 15, .fad false 0 1 (.t 14), none⟩, ⟨some 16, .ld false 1 (.t 15), none⟩, ⟨some 17, .mv (.t 4), none⟩, ⟨some 18, .iad 8 (.t 16) (.t 17), none⟩, ⟨some 19, .fad true 0 7 (.t 18), none⟩, ⟨some 20, .ld true 7 (.t 19), none⟩, ⟨some 21, .bsl 1 7 (.d (.agg [.int .i64 0, .int .i64 0, .int .i64 0, .int .i64 0, .int .i64 0, .int .i64 0, .str []])) [(0, .t 20)], none⟩, ⟨some 22, .app 7 (.t 13) (.t 21), none⟩, ⟨some 3, .mv (.t 22), none⟩] [10, 13, 14, 15, 16, 17, 18, 19, 20, 21, 22]))
 (.ops [] [⟨some 11, .mv (.t 4), none⟩, ⟨some 12, .bin .add (.t 11) (.c (.d (.int .i64 1))), none⟩, ⟨some 4, .mv (.t 12), none⟩] [11, 12])))
def c_ref07_Leased : ACode :=
 (.seq (.ops [] [⟨some 1, .box (.t 0), none⟩, ⟨some 2, .mv (.c (.xsl [])), none⟩] [0, 2])
 (.seq (.ops [] [⟨some 3, .nacc, none⟩] [])
 (.seq (.seq (.ops [] [⟨some 4, .mv (.c (.d (.int .i64 0))), none⟩] [])
 (.block 0 (.loop [] l_ref07_Leased_0)))
 (.seq (.ops [] [⟨some 23, .mv (.t 3), none⟩, ⟨some 2, .mv (.t 23), none⟩] [1, 3, 4, 10, 23])
 (.ret [2])))))
def r_ref07_Leased : List ARes := [.t 2]
def fn_ref07_Leased : AFn := .code c_ref07_Leased r_ref07_Leased 24 true
def c_ref15_unmarking : ACode :=
 (.seq (.ops [] [⟨some 2, .box (.t 0), none⟩, ⟨some 3, .box (.t 1), none⟩, ⟨some 4, .alloc (.agg [.xsl [], .xsl [], .d (.int .i64 0), .d (.int .i64 0), .xsl [], .d (.int .i64 0), .xsl [], .xsl [], .d (.int .i64 0), .d (.int .i64 0), .d (.int .i64 0)]), none⟩, ⟨some 5, .alloc (.agg [.d (.int .i64 0), .d (.int .i64 0), .xsl [], .d (.int .i64 0), .d (.int .i64 0), .d (.int .i64 0), .d (.int .i64 0), .d (.int .i64 0), .d (.int .i64 0), .d (.int .i64 0), .d (.int .i64 0), .xsl [], .d (.int .i64 0), .xsl [], .xsl [], .d (.int .i64 0), .xsl [], .xsl [], .xsl [], .d (.int .i64 0), .xsl [], .xsl [], .xsl [], .xsl [], .d (.int .i64 0), .xsl []]), none⟩, ⟨some 6, .mv (.c (.d (.int .i64 0))), none⟩] [0, 1, 6])
 (.seq (.seq (.ops [] [⟨some 8, .fad false 14 1 (.t 3), none⟩, ⟨some 9, .ld false 1 (.t 8), none⟩, ⟨some 10, .len (.t 9), none⟩, ⟨some 11, .bin .gtr (.t 10) (.c (.d (.int .i64 0))), none⟩] [8, 9, 10])
 (.cond (.t 11) (.seq (.draw [] [⟨some 12, .ld true 11 (.t 2), none⟩, ⟨some 13, .ld true 26 (.t 3), none⟩, ⟨some 14, .call N_ref15_enter [false, false, true] [.t 13, .c (.d (.int .i64 7))], none⟩, ⟨none, .st 11 (.t 4) (.t 12), none⟩, ⟨none, .st 26 (.t 5) (.t 14), none⟩, ⟨some 6, .mv (.c (.d (.int .i64 0))), none⟩] [[], [0], [0], [], [], []] [2, 3, 11, 12, 13, 14])
 (.ret [4, 5, 6])) .skip))
 (.seq (.ops [] [⟨some 16, .ld true 26 (.t 3), none⟩, ⟨some 17, .call N_ref15_freeing [false, true] [.t 16], none⟩, ⟨some 15, .mv (.t 17), none⟩, ⟨some 18, .ext (.t 15) 0, none⟩, ⟨some 19, .ext (.t 15) 1, none⟩, ⟨none, .st 26 (.t 3) (.t 18), none⟩, ⟨some 7, .mv (.t 19), none⟩] [11, 15, 16, 17, 18, 19])
 (.seq (.draw [] [⟨some 20, .ld true 11 (.t 2), none⟩, ⟨some 21, .ld true 26 (.t 3), none⟩, ⟨some 22, .mv (.t 7), none⟩, ⟨none, .st 11 (.t 4) (.t 20), none⟩, ⟨none, .st 26 (.t 5) (.t 21), none⟩, ⟨some 6, .mv (.t 22), none⟩] [[], [0], [0, 1], [1, 2], [2], []] [2, 3, 7, 20, 21, 22])
 (.ret [4, 5, 6])))))
def r_ref15_unmarking : List ARes := [.c 4 true 11, .c 5 true 26, .t 6]
def fn_ref15_unmarking : AFn := .code c_ref15_unmarking r_ref15_unmarking 23 true
def c_ref15_freeing : ACode :=
 (.seq (.ops [] [⟨some 1, .box (.t 0), none⟩, ⟨some 2, .alloc (.agg [.d (.int .i64 0), .d (.int .i64 0), .xsl [], .d (.int .i64 0), .d (.int .i64 0), .d (.int .i64 0), .d (.int .i64 0), .d (.int .i64 0), .d (.int .i64 0), .d (.int .i64 0), .d (.int .i64 0), .xsl [], .d (.int .i64 0), .xsl [], .xsl [], .d (.int .i64 0), .xsl [], .xsl [], .xsl [], .d (.int .i64 0), .xsl [], .xsl [], .xsl [], .xsl [], .d (.int .i64 0), .xsl []]), none⟩, ⟨some 3, .mv (.c (.d (.int .i64 0))), none⟩] [0, 3])
 (.seq (.ops [] [⟨some 7, .fad true 2 5 (.t 1), none⟩, ⟨some 8, .ld true 5 (.t 7), none⟩, ⟨some 9, .call N_ref13_Free [false, true] [.t 8], none⟩, ⟨some 6, .mv (.t 9), none⟩, ⟨some 10, .ext (.t 6) 0, none⟩, ⟨some 11, .ext (.t 6) 1, none⟩, ⟨some 4, .alloc (.agg [.xsl [], .d (.int .i64 0), .d (.int .i64 0), .d (.int .i64 0), .d (.int .i64 0)]), none⟩, ⟨none, .st 5 (.t 4) (.t 10), none⟩, ⟨some 5, .mv (.t 11), none⟩] [6, 7, 8, 9, 10, 11])
 (.seq (.seq (.ops [] [⟨some 12, .mv (.t 5), none⟩, ⟨some 13, .bin .neq (.t 12) (.c (.d (.int .i64 0))), none⟩] [12])
 (.cond (.t 13) (.seq (.ops [] [⟨some 14, .ld true 26 (.t 1), none⟩, ⟨some 15, .mv (.t 5), none⟩, ⟨none, .st 26 (.t 2) (.t 14), none⟩, ⟨some 3, .mv (.t 15), none⟩] [1, 4, 5, 13, 14, 15])
 (.ret [2, 3])) .skip))
 (.seq (.ops [] [⟨some 16, .ld true 5 (.t 4), none⟩, ⟨some 17, .fad true 2 5 (.t 1), none⟩, ⟨none, .st 5 (.t 17) (.t 16), none⟩] [4, 5, 13, 16, 17])
 (.seq (.ops [] [⟨some 18, .ld true 26 (.t 1), none⟩, ⟨some 19, .call N_ref15_enter [false, false, true] [.t 18, .c (.d (.int .i64 8))], none⟩, ⟨none, .st 26 (.t 2) (.t 19), none⟩, ⟨some 3, .mv (.c (.d (.int .i64 0))), none⟩] [1, 18, 19])
 (.ret [2, 3]))))))
def r_ref15_freeing : List ARes := [.c 2 true 26, .t 3]
def fn_ref15_freeing : AFn := .code c_ref15_freeing r_ref15_freeing 20 true
def c_ref13_Free : ACode :=
 (.seq (.ops [] [⟨some 1, .box (.t 0), none⟩, ⟨some 2, .alloc (.agg [.xsl [], .d (.int .i64 0), .d (.int .i64 0), .d (.int .i64 0), .d (.int .i64 0)]), none⟩, ⟨some 3, .mv (.c (.d (.int .i64 0))), none⟩] [0, 3])
 (.seq (.seq (.ops [] [⟨some 4, .fad false 1 1 (.t 1), none⟩, ⟨some 5, .ld false 1 (.t 4), none⟩, ⟨some 6, .bin .neq (.t 5) (.c (.d (.int .i64 3))), none⟩] [4, 5])
 (.cond (.t 6) (.seq (.ops [] [⟨some 7, .build [.xsl [], .d (.int .i64 0), .d (.int .i64 0), .d (.int .i64 0), .d (.int .i64 0)] [], none⟩, ⟨none, .st 5 (.t 2) (.t 7), none⟩, ⟨some 3, .mv (.c (.d (.int .i64 7))), none⟩] [1, 6, 7])
 (.ret [2, 3])) .skip))
 (.seq (.ops [] [⟨some 8, .fad false 1 1 (.t 1), none⟩, ⟨none, .st 1 (.t 8) (.c (.d (.int .i64 4))), none⟩] [6, 8])
 (.seq (.ops [] [⟨some 9, .ld true 5 (.t 1), none⟩, ⟨none, .st 5 (.t 2) (.t 9), none⟩, ⟨some 3, .mv (.c (.d (.int .i64 0))), none⟩] [1, 9])
 (.ret [2, 3])))))
def r_ref13_Free : List ARes := [.c 2 true 5, .t 3]
def fn_ref13_Free : AFn := .code c_ref13_Free r_ref13_Free 10 true
def c_ref15_edit : ACode :=
 (.seq (.ops [] [⟨some 2, .box (.t 0), none⟩, ⟨some 3, .box (.t 1), none⟩, ⟨some 4, .alloc (.agg [.xsl [], .xsl [], .d (.int .i64 0), .d (.int .i64 0), .xsl [], .d (.int .i64 0), .xsl [], .xsl [], .d (.int .i64 0), .d (.int .i64 0), .d (.int .i64 0)]), none⟩, ⟨some 5, .alloc (.agg [.d (.int .i64 0), .d (.int .i64 0), .xsl [], .d (.int .i64 0), .d (.int .i64 0), .d (.int .i64 0), .d (.int .i64 0), .d (.int .i64 0), .d (.int .i64 0), .d (.int .i64 0), .d (.int .i64 0), .xsl [], .d (.int .i64 0), .xsl [], .xsl [], .d (.int .i64 0), .xsl [], .xsl [], .xsl [], .d (.int .i64 0), .xsl [], .xsl [], .xsl [], .xsl [], .d (.int .i64 0), .xsl []]), none⟩, ⟨some 6, .mv (.c (.d (.int .i64 0))), none⟩] [0, 1, 6])
 (.seq (.seq (.ops [] [⟨some 11, .fad false 1 1 (.t 3), none⟩, ⟨some 12, .ld false 1 (.t 11), none⟩, ⟨some 13, .bin .eql (.t 12) (.c (.d (.int .i64 0))), none⟩] [11, 12])
 (.cond (.t 13) (.seq (.ops [] [⟨some 14, .ld true 11 (.t 2), none⟩, ⟨some 15, .call N_ref12_LoadDir [false, true] [.t 14], none⟩, ⟨some 16, .fad true 15 3 (.t 3), none⟩, ⟨none, .st 3 (.t 16) (.t 15), none⟩] [13, 14, 15, 16])
 (.seq (.ops [] [⟨some 17, .fad false 1 1 (.t 3), none⟩, ⟨none, .st 1 (.t 17) (.c (.d (.int .i64 1))), none⟩] [17])
 (.seq (.draw [] [⟨some 18, .ld true 11 (.t 2), none⟩, ⟨some 19, .ld true 26 (.t 3), none⟩, ⟨none, .st 11 (.t 4) (.t 18), none⟩, ⟨none, .st 26 (.t 5) (.t 19), none⟩, ⟨some 6, .mv (.c (.d (.int .i64 0))), none⟩] [[], [0], [1], [], []] [2, 3, 18, 19])
 (.ret [4, 5, 6])))) .skip))
 (.seq (.draw [] [⟨some 21, .fad true 15 3 (.t 3), none⟩, ⟨some 22, .ld true 3 (.t 21), none⟩, ⟨some 23, .fad true 18 6 (.t 3), none⟩, ⟨some 24, .fad false 5 1 (.t 23), none⟩, ⟨some 25, .ld false 1 (.t 24), none⟩, ⟨some 26, .iad 4 (.t 25) (.c (.d (.int .i64 0))), none⟩, ⟨some 27, .ld true 4 (.t 26), none⟩, ⟨some 28, .call N_ref10_Apply [false, false, true] [.t 22, .t 27], none⟩, ⟨some 20, .mv (.t 28), none⟩, ⟨some 29, .ext (.t 20) 0, none⟩, ⟨some 30, .ext (.t 20) 1, none⟩, ⟨some 7, .alloc (.agg [.d (.int .i64 0), .xsl [], .xsl []]), none⟩, ⟨none, .st 3 (.t 7) (.t 29), none⟩, ⟨some 8, .mv (.t 30), none⟩] [[], [], [0, 1], [0, 1], [0, 1], [0, 1], [0, 1], [], [], [], [9], [0, 1, 2, 3, 4, 5, 6, 7, 8, 9, 10], [10], []] [13, 20, 21, 22, 23, 24, 25, 26, 27, 28, 29, 30])
 (.seq (.seq (.ops [] [⟨some 31, .mv (.t 8), none⟩, ⟨some 32, .bin .neq (.t 31) (.c (.d (.int .i64 0))), none⟩] [31])
 (.cond (.t 32) (.seq (.draw [] [⟨some 33, .ld true 11 (.t 2), none⟩, ⟨some 34, .ld true 26 (.t 3), none⟩, ⟨some 35, .mv (.t 8), none⟩, ⟨none, .st 11 (.t 4) (.t 33), none⟩, ⟨none, .st 26 (.t 5) (.t 34), none⟩, ⟨some 6, .mv (.t 35), none⟩] [[], [0], [0, 1], [1, 2], [2], []] [2, 3, 7, 8, 32, 33, 34, 35])
 (.ret [4, 5, 6])) .skip))
 (.seq (.ops [] [⟨some 37, .ld true 11 (.t 2), none⟩, ⟨some 38, .fad true 15 3 (.t 3), none⟩, ⟨some 39, .fad false 0 1 (.t 38), none⟩, ⟨some 40, .ld false 1 (.t 39), none⟩, ⟨some 41, .ld true 3 (.t 7), none⟩, ⟨some 42, .call N_ref12_CASDir [false, false, false, true] [.t 37, .t 40, .t 41], none⟩, ⟨some 36, .mv (.t 42), none⟩, ⟨some 43, .ext (.t 36) 0, none⟩, ⟨some 44, .ext (.t 36) 1, none⟩, ⟨some 45, .ext (.t 36) 2, none⟩, ⟨some 9, .alloc (.agg [.xsl [], .xsl [], .d (.int .i64 0), .d (.int .i64 0), .xsl [], .d (.int .i64 0), .xsl [], .xsl [], .d (.int .i64 0), .d (.int .i64 0), .d (.int .i64 0)]), none⟩, ⟨none, .st 11 (.t 9) (.t 43), none⟩, ⟨some 10, .mv (.t 44), none⟩, ⟨some 8, .mv (.t 45), none⟩] [32, 36, 37, 38, 39, 40, 41, 42, 43, 44, 45])
 (.seq (.seq (.ops [] [⟨some 46, .mv (.t 8), none⟩, ⟨some 47, .bin .neq (.t 46) (.c (.d (.int .i64 0))), none⟩] [46])
 (.cond (.t 47) (.seq (.draw [] [⟨some 48, .ld true 11 (.t 2), none⟩, ⟨some 49, .ld true 26 (.t 3), none⟩, ⟨some 50, .mv (.t 8), none⟩, ⟨none, .st 11 (.t 4) (.t 48), none⟩, ⟨none, .st 26 (.t 5) (.t 49), none⟩, ⟨some 6, .mv (.t 50), none⟩] [[], [0], [0, 1], [1, 2], [2], []] [2, 3, 7, 8, 9, 10, 47, 48, 49, 50])
 (.ret [4, 5, 6])) .skip))
 (.seq (.seq (.ops [] [⟨some 51, .mv (.t 10), none⟩, ⟨some 52, .un .not (.t 51), none⟩] [2, 8, 10, 47, 51])
 (.cond (.t 52) (.seq (.ops [] [⟨some 53, .fad false 1 1 (.t 3), none⟩, ⟨none, .st 1 (.t 53) (.c (.d (.int .i64 0))), none⟩] [7, 52, 53])
 (.seq (.draw [] [⟨some 54, .ld true 11 (.t 9), none⟩, ⟨some 55, .ld true 26 (.t 3), none⟩, ⟨none, .st 11 (.t 4) (.t 54), none⟩, ⟨none, .st 26 (.t 5) (.t 55), none⟩, ⟨some 6, .mv (.c (.d (.int .i64 0))), none⟩] [[], [0], [1], [], []] [3, 9, 54, 55])
 (.ret [4, 5, 6]))) .skip))
 (.seq (.ops [] [⟨some 56, .ld true 3 (.t 7), none⟩, ⟨some 57, .fad true 15 3 (.t 3), none⟩, ⟨none, .st 3 (.t 57) (.t 56), none⟩] [7, 52, 56, 57])
 (.seq (.ops [] [⟨some 58, .ld true 11 (.t 9), none⟩, ⟨some 59, .ld true 26 (.t 3), none⟩, ⟨some 60, .call N_ref15_unmarking [false, false, true] [.t 58, .t 59], none⟩, ⟨some 61, .ext (.t 60) 0, none⟩, ⟨some 62, .ext (.t 60) 1, none⟩, ⟨some 63, .ext (.t 60) 2, none⟩, ⟨none, .st 11 (.t 4) (.t 61), none⟩, ⟨none, .st 26 (.t 5) (.t 62), none⟩, ⟨some 6, .mv (.t 63), none⟩] [3, 9, 58, 59, 60, 61, 62, 63])
 (.ret [4, 5, 6]))))))))))
def r_ref15_edit : List ARes := [.c 4 true 11, .c 5 true 26, .t 6]
def fn_ref15_edit : AFn := .code c_ref15_edit r_ref15_edit 64 true
def c_ref15_unmark : ACode :=
 (.seq (.ops [] [⟨some 3, .box (.t 0), none⟩, ⟨some 4, .box (.t 1), none⟩, ⟨some 6, .alloc (.agg [.xsl [], .xsl [], .d (.int .i64 0), .d (.int .i64 0), .xsl [], .d (.int .i64 0), .xsl [], .xsl [], .d (.int .i64 0), .d (.int .i64 0), .d (.int .i64 0)]), none⟩, ⟨some 7, .alloc (.agg [.d (.int .i64 0), .d (.int .i64 0), .xsl [], .d (.int .i64 0), .d (.int .i64 0), .d (.int .i64 0), .d (.int .i64 0), .d (.int .i64 0), .d (.int .i64 0), .d (.int .i64 0), .d (.int .i64 0), .xsl [], .d (.int .i64 0), .xsl [], .xsl [], .d (.int .i64 0), .xsl [], .xsl [], .xsl [], .d (.int .i64 0), .xsl [], .xsl [], .xsl [], .xsl [], .d (.int .i64 0), .xsl []]), none⟩, ⟨some 8, .mv (.c (.d (.int .i64 0))), none⟩] [0, 1, 8])
 (.seq (.ops [] [⟨some 13, .fad false 1 1 (.t 4), none⟩, ⟨some 14, .ld false 1 (.t 13), none⟩, ⟨some 9, .mv (.t 14), none⟩] [13, 14])
 (.seq (.ops [] [⟨some 15, .fad false 11 1 (.t 4), none⟩, ⟨some 16, .ld false 1 (.t 15), none⟩, ⟨some 17, .mv (.t 9), none⟩, ⟨some 18, .iad 8 (.t 16) (.t 17), none⟩, ⟨some 19, .ld true 8 (.t 18), none⟩, ⟨some 10, .alloc (.agg [.d (.bool false), .d (.int .i64 0), .d (.int .i64 0), .xsl [], .d (.int .i64 0), .d (.int .i64 0), .xsl [], .xsl []]), none⟩, ⟨none, .st 8 (.t 10) (.t 19), none⟩] [15, 16, 17, 18, 19])
 (.seq (.seq (.ops [] [⟨some 20, .ld true 26 (.t 4), none⟩, ⟨some 21, .mv (.t 9), none⟩, ⟨some 22, .call N_ref15_Stored [] [.t 20, .t 21], none⟩] [20, 21])
 (.cond (.t 22) (.ops [] [⟨some 23, .fad true 18 6 (.t 4), none⟩, ⟨some 24, .fad false 0 1 (.t 23), none⟩, ⟨some 25, .ld false 1 (.t 24), none⟩, ⟨some 26, .mv (.t 9), none⟩, ⟨some 27, .iad 8 (.t 25) (.t 26), none⟩, ⟨some 28, .ld true 8 (.t 27), none⟩, ⟨none, .st 8 (.t 10) (.t 28), none⟩] [22, 23, 24, 25, 26, 27, 28]) .skip))
 (.seq (.draw [] [⟨some 30, .fad false 14 1 (.t 4), none⟩, ⟨some 31, .ld false 1 (.t 30), none⟩, ⟨some 32, .mv (.t 9), none⟩, ⟨some 33, .iad 4 (.t 31) (.t 32), none⟩, ⟨some 34, .ld true 4 (.t 33), none⟩, ⟨some 35, .ld true 8 (.t 10), none⟩, ⟨some 36, .fad true 7 4 (.t 4), none⟩, ⟨some 37, .fad false 1 1 (.t 36), none⟩, ⟨some 38, .ld false 1 (.t 37), none⟩, ⟨some 39, .fad false 24 1 (.t 4), none⟩, ⟨some 40, .ld false 1 (.t 39), none⟩, ⟨some 41, .call N_ref11_End [] [.t 34, .t 35, .t 38, .t 40], none⟩, ⟨some 29, .mv (.t 41), none⟩, ⟨some 42, .ext (.t 29) 0, none⟩, ⟨some 43, .ext (.t 29) 1, none⟩, ⟨some 11, .alloc (.d (.agg [.int .i64 0, .int .i64 0, .int .i64 0, .int .i64 0])), none⟩, ⟨none, .st 4 (.t 11) (.t 42), none⟩, ⟨some 12, .mv (.t 43), none⟩] [[], [], [0, 1], [], [], [0, 1, 2, 3, 4], [0, 1, 2, 3, 4, 5], [0, 1, 2, 3, 4, 5], [0, 1, 2, 3, 4, 5], [0, 1, 2, 3, 4, 5, 6, 7, 8], [0, 1, 2, 3, 4, 5, 6, 7, 8], [], [], [], [13], [0, 1, 2, 3, 4, 5, 6, 7, 8, 9, 10, 11, 12, 13, 14], [14], []] [10, 22, 29, 30, 31, 32, 33, 34, 35, 36, 37, 38, 39, 40, 41, 42, 43])
 (.seq (.seq (.ops [] [⟨some 44, .mv (.t 12), none⟩, ⟨some 45, .bin .neq (.t 44) (.c (.d (.int .i64 0))), none⟩] [44])
 (.cond (.t 45) (.seq (.draw [] [⟨some 46, .ld true 11 (.t 3), none⟩, ⟨some 47, .ld true 26 (.t 4), none⟩, ⟨some 48, .mv (.t 12), none⟩, ⟨none, .st 11 (.t 6) (.t 46), none⟩, ⟨none, .st 26 (.t 7) (.t 47), none⟩, ⟨some 8, .mv (.t 48), none⟩] [[], [0], [0, 1], [1, 2], [2], []] [2, 3, 4, 9, 11, 12, 45, 46, 47, 48])
 (.ret [6, 7, 8])) .skip))
 (.seq (.draw [] [⟨some 50, .ld true 11 (.t 3), none⟩, ⟨some 51, .fad true 2 5 (.t 4), none⟩, ⟨some 52, .fad false 0 1 (.t 51), none⟩, ⟨some 53, .ld false 1 (.t 52), none⟩, ⟨some 54, .mv (.t 9), none⟩, ⟨some 55, .iad 1 (.t 53) (.t 54), none⟩, ⟨some 56, .ld false 1 (.t 55), none⟩, ⟨some 57, .mv (.t 2), none⟩, ⟨some 58, .ld true 4 (.t 11), none⟩, ⟨some 59, .call N_ref12_StoreStripe [false, false, false, false, true] [.t 50, .t 56, .t 57, .t 58], none⟩, ⟨some 49, .mv (.t 59), none⟩, ⟨some 60, .ext (.t 49) 0, none⟩, ⟨some 61, .ext (.t 49) 1, none⟩, ⟨none, .st 11 (.t 3) (.t 60), none⟩, ⟨some 12, .mv (.t 61), none⟩] [[], [0], [0], [0], [0, 1, 2, 3], [0], [0], [0, 1, 2, 3, 4, 5, 6], [0, 1, 2, 3, 4, 5, 6, 7], [], [], [], [11], [12], []] [2, 9, 11, 45, 49, 50, 51, 52, 53, 54, 55, 56, 57, 58, 59, 60, 61])
 (.seq (.seq (.ops [] [⟨some 62, .mv (.t 12), none⟩, ⟨some 63, .bin .neq (.t 62) (.c (.d (.int .i64 0))), none⟩] [62])
 (.cond (.t 63) (.seq (.draw [] [⟨some 64, .ld true 11 (.t 3), none⟩, ⟨some 65, .ld true 26 (.t 4), none⟩, ⟨some 66, .mv (.t 12), none⟩, ⟨none, .st 11 (.t 6) (.t 64), none⟩, ⟨none, .st 26 (.t 7) (.t 65), none⟩, ⟨some 8, .mv (.t 66), none⟩] [[], [0], [0, 1], [1, 2], [2], []] [3, 4, 12, 63, 64, 65, 66])
 (.ret [6, 7, 8])) .skip))
 (.seq (.ops [] [⟨some 67, .fad false 1 1 (.t 4), none⟩, ⟨some 68, .ld false 1 (.t 67), none⟩, ⟨some 69, .bin .add (.t 68) (.c (.d (.int .i64 1))), none⟩, ⟨some 70, .fad false 1 1 (.t 4), none⟩, ⟨none, .st 1 (.t 70) (.t 69), none⟩] [63, 67, 68, 69, 70])
 (.seq (.seq (.ops [] [⟨some 71, .fad false 1 1 (.t 4), none⟩, ⟨some 72, .ld false 1 (.t 71), none⟩, ⟨some 73, .fad false 14 1 (.t 4), none⟩, ⟨some 74, .ld false 1 (.t 73), none⟩, ⟨some 75, .len (.t 74), none⟩, ⟨some 76, .bin .eql (.t 72) (.t 75), none⟩] [71, 72, 73, 74, 75])
 (.cond (.t 76) (.ops [] [⟨some 78, .ld true 26 (.t 4), none⟩, ⟨some 79, .call N_ref15_freeing [false, true] [.t 78], none⟩, ⟨some 77, .mv (.t 79), none⟩, ⟨some 80, .ext (.t 77) 0, none⟩, ⟨some 81, .ext (.t 77) 1, none⟩, ⟨none, .st 26 (.t 4) (.t 80), none⟩, ⟨some 12, .mv (.t 81), none⟩] [76, 77, 78, 79, 80, 81]) .skip))
 (.seq (.draw [] [⟨some 82, .ld true 11 (.t 3), none⟩, ⟨some 83, .ld true 26 (.t 4), none⟩, ⟨some 84, .mv (.t 12), none⟩, ⟨none, .st 11 (.t 6) (.t 82), none⟩, ⟨none, .st 26 (.t 7) (.t 83), none⟩, ⟨some 8, .mv (.t 84), none⟩] [[], [0], [0, 1], [1, 2], [2], []] [3, 4, 12, 76, 82, 83, 84])
 (.ret [6, 7, 8]))))))))))))
def r_ref15_unmark : List ARes := [.c 6 true 11, .c 7 true 26, .t 8]
def fn_ref15_unmark : AFn := .code c_ref15_unmark r_ref15_unmark 85 true
def l_ref15_Stored_0 : ACode :=
 (.seq (.seq (.ops [] [⟨some 6, .mv (.t 5), none⟩, ⟨some 7, .fad true 18 6 (.t 2), none⟩, ⟨some 8, .fad false 3 1 (.t 7), none⟩, ⟨some 9, .ld false 1 (.t 8), none⟩, ⟨some 10, .len (.t 9), none⟩, ⟨some 11, .bin .lss (.t 6) (.t 10), none⟩] [6, 7, 8, 9, 10])
 (.cond (.t 11) .skip (.exit 0 [])))
 (.seq (.block 1 (.seq (.ops [] [⟨some 14, .fad true 18 6 (.t 2), none⟩, ⟨some 15, .fad false 3 1 (.t 14), none⟩, ⟨some 16, .ld false 1 (.t 15), none⟩, ⟨some 17, .mv (.t 5), none⟩, ⟨some 18, .iad 1 (.t 16) (.t 17), none⟩, ⟨some 19, .ld false 1 (.t 18), none⟩, ⟨some 20, .mv (.t 1), none⟩, ⟨some 21, .bin .eql (.t 19) (.t 20), none⟩] [11, 14, 15, 16, 17, 18, 19, 20])
 (.cond (.t 21) (.seq (.ops [] [⟨some 4, .mv (.c (.d (.bool true))), none⟩] [1, 2, 5, 21])
 (.ret [4])) .skip)))
 (.ops [] [⟨some 12, .mv (.t 5), none⟩, ⟨some 13, .bin .add (.t 12) (.c (.d (.int .i64 1))), none⟩, ⟨some 5, .mv (.t 13), none⟩] [12, 13, 21])))
def c_ref15_Stored : ACode :=
 (.seq (.ops [] [⟨some 2, .box (.t 0), none⟩, ⟨some 4, .mv (.c (.d (.bool false))), none⟩] [0, 4])
 (.seq (.seq (.ops [] [⟨some 5, .mv (.c (.d (.int .i64 0))), none⟩] [])
 (.block 0 (.loop [] l_ref15_Stored_0)))
 (.seq (.ops [] [⟨some 4, .mv (.c (.d (.bool false))), none⟩] [1, 2, 5, 11])
 (.ret [4]))))
def r_ref15_Stored : List ARes := [.t 4]
def fn_ref15_Stored : AFn := .code c_ref15_Stored r_ref15_Stored 22 true
def c_ref11_End : ACode :=
 (.seq (.ops [] [⟨some 4, .box (.t 0), none⟩, ⟨some 5, .box (.t 1), none⟩, ⟨some 8, .alloc (.d (.agg [.int .i64 0, .int .i64 0, .int .i64 0, .int .i64 0])), none⟩, ⟨some 9, .mv (.c (.d (.int .i64 0))), none⟩] [0, 1, 9])
 (.seq (.seq (.ops [] [⟨some 13, .fad false 0 1 (.t 4), none⟩, ⟨some 14, .ld false 1 (.t 13), none⟩, ⟨some 15, .bin .lss (.t 14) (.c (.d (.int .i64 0))), none⟩, ⟨some 16, .mv (.t 15), none⟩, ⟨some 17, .fad false 0 1 (.t 4), some (16, false)⟩, ⟨some 18, .ld false 1 (.t 17), some (16, false)⟩, ⟨some 19, .bin .gtr (.t 18) (.c (.d (.int .i64 1099511627776))), some (16, false)⟩, ⟨some 20, .pick (.t 16) (.c (.d (.bool true))) (.t 19), none⟩] [13, 14, 15, 16, 17, 18, 19])
 (.cond (.t 20) (.seq (.ops [] [⟨some 21, .build [.d (.int .i64 0), .d (.int .i64 0), .d (.int .i64 0), .d (.int .i64 0)] [], none⟩, ⟨none, .st 4 (.t 8) (.t 21), none⟩, ⟨some 9, .mv (.c (.d (.int .i64 1))), none⟩] [2, 3, 4, 5, 20, 21])
 (.ret [8, 9])) .skip))
 (.seq (.seq (.ops [] [⟨some 22, .fad false 0 1 (.t 4), none⟩, ⟨some 23, .ld false 1 (.t 22), none⟩, ⟨some 24, .bin .rem (.t 23) (.c (.d (.int .i64 2))), none⟩, ⟨some 25, .bin .eql (.t 24) (.c (.d (.int .i64 0))), none⟩] [20, 22, 23, 24])
 (.cond (.t 25) (.seq (.ops [] [⟨some 26, .build [.d (.int .i64 0), .d (.int .i64 0), .d (.int .i64 0), .d (.int .i64 0)] [], none⟩, ⟨none, .st 4 (.t 8) (.t 26), none⟩, ⟨some 9, .mv (.c (.d (.int .i64 7))), none⟩] [2, 3, 4, 5, 25, 26])
 (.ret [8, 9])) .skip))
 (.seq (.seq (.ops [] [⟨some 27, .ld true 8 (.t 5), none⟩, ⟨some 28, .call N_ref07_Validate [] [.t 27], none⟩, ⟨some 10, .mv (.t 28), none⟩] [25, 27, 28])
 (.seq (.ops [] [⟨some 29, .mv (.t 10), none⟩, ⟨some 30, .bin .neq (.t 29) (.c (.d (.int .i64 0))), none⟩] [29])
 (.cond (.t 30) (.seq (.ops [] [⟨some 31, .build [.d (.int .i64 0), .d (.int .i64 0), .d (.int .i64 0), .d (.int .i64 0)] [], none⟩, ⟨some 32, .mv (.t 10), none⟩, ⟨none, .st 4 (.t 8) (.t 31), none⟩, ⟨some 9, .mv (.t 32), none⟩] [2, 3, 4, 5, 10, 30, 31, 32])
 (.ret [8, 9])) .skip)))
 (.seq (.seq (.ops [] [⟨some 33, .mv (.t 2), none⟩, ⟨some 34, .bin .lss (.t 33) (.c (.d (.int .i64 0))), none⟩, ⟨some 35, .mv (.t 34), none⟩, ⟨some 36, .mv (.t 2), some (35, false)⟩, ⟨some 37, .bin .gtr (.t 36) (.c (.d (.int .i64 65536))), some (35, false)⟩, ⟨some 38, .pick (.t 35) (.c (.d (.bool true))) (.t 37), none⟩, ⟨some 39, .mv (.t 38), none⟩, ⟨some 40, .mv (.t 3), some (39, false)⟩, ⟨some 41, .bin .lss (.t 40) (.c (.d (.int .i64 1))), some (39, false)⟩, ⟨some 42, .pick (.t 39) (.c (.d (.bool true))) (.t 41), none⟩, ⟨some 43, .mv (.t 42), none⟩, ⟨some 44, .mv (.t 3), some (43, false)⟩, ⟨some 45, .bin .gtr (.t 44) (.c (.d (.int .i64 8))), some (43, false)⟩, ⟨some 46, .pick (.t 43) (.c (.d (.bool true))) (.t 45), none⟩] [10, 30, 33, 34, 35, 36, 37, 38, 39, 40, 41, 42, 43, 44, 45])
 (.cond (.t 46) (.seq (.ops [] [⟨some 47, .build [.d (.int .i64 0), .d (.int .i64 0), .d (.int .i64 0), .d (.int .i64 0)] [], none⟩, ⟨none, .st 4 (.t 8) (.t 47), none⟩, ⟨some 9, .mv (.c (.d (.int .i64 1))), none⟩] [2, 3, 4, 5, 46, 47])
 (.ret [8, 9])) .skip))
 (.seq (.ops [] [⟨some 49, .ld true 8 (.t 5), none⟩, ⟨some 50, .mv (.t 2), none⟩, ⟨some 51, .mv (.t 3), none⟩, ⟨some 52, .call N_ref07_Counts [] [.t 49, .t 50, .t 51], none⟩, ⟨some 48, .mv (.t 52), none⟩, ⟨some 53, .ext (.t 48) 0, none⟩, ⟨some 54, .ext (.t 48) 1, none⟩, ⟨some 11, .mv (.t 53), none⟩, ⟨some 12, .mv (.t 54), none⟩] [3, 5, 46, 48, 49, 50, 51, 52, 53, 54])
 (.seq (.ops [] [⟨some 55, .fad false 0 1 (.t 4), none⟩, ⟨some 56, .ld false 1 (.t 55), none⟩, ⟨some 57, .bin .add (.t 56) (.c (.d (.int .i64 1))), none⟩, ⟨some 58, .mv (.t 2), none⟩, ⟨some 59, .mv (.t 11), none⟩, ⟨some 60, .mv (.t 12), none⟩, ⟨some 61, .build [.d (.int .i64 0), .d (.int .i64 0), .d (.int .i64 0), .d (.int .i64 0)] [(0, (1, .t 57)), (1, (1, .t 58)), (2, (1, .t 59)), (3, (1, .t 60))], none⟩, ⟨none, .st 4 (.t 8) (.t 61), none⟩, ⟨some 9, .mv (.c (.d (.int .i64 0))), none⟩] [2, 4, 11, 12, 55, 56, 57, 58, 59, 60, 61])
 (.ret [8, 9]))))))))
def r_ref11_End : List ARes := [.c 8 true 4, .t 9]
def fn_ref11_End : AFn := .code c_ref11_End r_ref11_End 62 true
def l_ref07_Counts_0 : ACode :=
 (.seq (.seq (.ops [] [⟨some 31, .mv (.t 12), none⟩, ⟨some 32, .mv (.t 10), none⟩, ⟨some 33, .len (.t 32), none⟩, ⟨some 34, .bin .lss (.t 31) (.t 33), none⟩] [31, 32, 33])
 (.cond (.t 34) .skip (.exit 0 [1, 8, 9, 11])))
 (.seq (.block 1 (.seq (.ops [] [⟨some 37, .mv (.t 10), none⟩, ⟨some 38, .mv (.t 12), none⟩, ⟨some 39, .iad 7 (.t 37) (.t 38), none⟩, ⟨some 40, .ld true 7 (.t 39), none⟩, ⟨some 41, .mv (.t 1), none⟩, ⟨some 42, .call N_ref03_Purged [] [.t 40, .t 41], none⟩, ⟨some 43, .un .not (.t 42), none⟩, ⟨some 44, .mv (.t 43), none⟩, ⟨some 45, .mv (.t 10), some (44, true)⟩, ⟨some 46, .mv (.t 12), some (44, true)⟩, ⟨some 47, .iad 7 (.t 45) (.t 46), some (44, true)⟩, ⟨some 48, .ld true 7 (.t 47), some (44, true)⟩, ⟨some 49, .mv (.t 2), some (44, true)⟩, ⟨some 50, .call N_ref03_Spent [] [.t 48, .t 49], some (44, true)⟩, ⟨some 51, .un .not (.t 50), some (44, true)⟩, ⟨some 52, .pick (.t 44) (.t 51) (.c (.d (.bool false))), none⟩] [34, 37, 38, 39, 40, 41, 42, 43, 44, 45, 46, 47, 48, 49, 50, 51])
 (.cond (.t 52) (.ops [] [⟨some 53, .mv (.t 8), none⟩, ⟨some 54, .bin .add (.t 53) (.c (.d (.int .i64 1))), none⟩, ⟨some 8, .mv (.t 54), none⟩] [52, 53, 54]) .skip)))
 (.ops [] [⟨some 35, .mv (.t 12), none⟩, ⟨some 36, .bin .add (.t 35) (.c (.d (.int .i64 1))), none⟩, ⟨some 12, .mv (.t 36), none⟩] [35, 36, 52])))
def l_ref07_Counts_1 : ACode :=
 (.seq (.seq (.ops [] [⟨some 55, .mv (.t 13), none⟩, ⟨some 56, .mv (.t 11), none⟩, ⟨some 57, .len (.t 56), none⟩, ⟨some 58, .bin .lss (.t 55) (.t 57), none⟩] [55, 56, 57])
 (.cond (.t 58) .skip (.exit 2 [8, 9])))
 (.seq (.block 3 (.seq (.ops [] [⟨some 61, .mv (.t 11), none⟩, ⟨some 62, .mv (.t 13), none⟩, ⟨some 63, .iad 7 (.t 61) (.t 62), none⟩, ⟨some 64, .ld true 7 (.t 63), none⟩, ⟨some 65, .mv (.t 1), none⟩, ⟨some 66, .call N_ref03_Purged [] [.t 64, .t 65], none⟩, ⟨some 67, .un .not (.t 66), none⟩] [58, 61, 62, 63, 64, 65, 66])
 (.cond (.t 67) (.ops [] [⟨some 68, .mv (.t 9), none⟩, ⟨some 69, .bin .add (.t 68) (.c (.d (.int .i64 1))), none⟩, ⟨some 9, .mv (.t 69), none⟩] [67, 68, 69]) .skip)))
 (.ops [] [⟨some 59, .mv (.t 13), none⟩, ⟨some 60, .bin .add (.t 59) (.c (.d (.int .i64 1))), none⟩, ⟨some 13, .mv (.t 60), none⟩] [59, 60, 67])))
def c_ref07_Counts : ACode :=
 (.seq (.ops [] [⟨some 3, .box (.t 0), none⟩, ⟨some 6, .mv (.c (.d (.int .i64 0))), none⟩, ⟨some 7, .mv (.c (.d (.int .i64 0))), none⟩] [0, 6, 7])
 (.seq (.seq (.ops [] [⟨some 14, .ld true 8 (.t 3), none⟩, ⟨some 15, .call N_ref07_Live [] [.t 14], none⟩, ⟨some 16, .bin .neq (.t 15) (.c (.d (.int .i64 0))), none⟩, ⟨some 17, .mv (.t 16), none⟩, ⟨some 18, .mv (.t 1), some (17, false)⟩, ⟨some 19, .call N_ref07_epochs [] [.t 18], some (17, false)⟩, ⟨some 20, .un .not (.t 19), some (17, false)⟩, ⟨some 21, .pick (.t 17) (.c (.d (.bool true))) (.t 20), none⟩, ⟨some 22, .mv (.t 21), none⟩, ⟨some 23, .mv (.t 2), some (22, false)⟩, ⟨some 24, .call N_ref07_limits [] [.t 23], some (22, false)⟩, ⟨some 25, .un .not (.t 24), some (22, false)⟩, ⟨some 26, .pick (.t 22) (.c (.d (.bool true))) (.t 25), none⟩] [14, 15, 16, 17, 18, 19, 20, 21, 22, 23, 24, 25])
 (.cond (.t 26) (.seq (.ops [] [⟨some 6, .mv (.c (.d (.int .i64 0))), none⟩, ⟨some 7, .mv (.c (.d (.int .i64 0))), none⟩] [1, 2, 3, 26])
 (.ret [6, 7])) .skip))
 (.seq (.ops [] [⟨some 8, .mv (.c (.d (.int .i64 0))), none⟩, ⟨some 9, .mv (.c (.d (.int .i64 0))), none⟩] [26])
 (.seq (.draw [] [⟨some 27, .ld true 8 (.t 3), none⟩, ⟨some 28, .call N_ref07_Ready [false, true] [.t 27], none⟩, ⟨some 29, .ld true 8 (.t 3), none⟩, ⟨some 30, .call N_ref07_Leased [false, true] [.t 29], none⟩, ⟨some 10, .mv (.t 28), none⟩, ⟨some 11, .mv (.t 30), none⟩] [[], [], [0, 1], [], [], []] [3, 27, 28, 29, 30])
 (.seq (.seq (.ops [] [⟨some 12, .mv (.c (.d (.int .i64 0))), none⟩] [])
 (.block 0 (.loop [] l_ref07_Counts_0)))
 (.seq (.seq (.ops [] [⟨some 13, .mv (.c (.d (.int .i64 0))), none⟩] [2, 10, 12, 34])
 (.block 2 (.loop [] l_ref07_Counts_1)))
 (.seq (.ops [] [⟨some 70, .mv (.t 8), none⟩, ⟨some 71, .mv (.t 9), none⟩, ⟨some 6, .mv (.t 70), none⟩, ⟨some 7, .mv (.t 71), none⟩] [1, 8, 9, 11, 13, 58, 70, 71])
 (.ret [6, 7]))))))))
def r_ref07_Counts : List ARes := [.t 6, .t 7]
def fn_ref07_Counts : AFn := .code c_ref07_Counts r_ref07_Counts 72 true
def c_ref07_Live : ACode :=
 (.seq (.ops [] [⟨some 1, .box (.t 0), none⟩, ⟨some 2, .mv (.c (.d (.int .i64 0))), none⟩] [0, 2])
 (.seq (.seq (.ops [] [⟨some 4, .ld true 8 (.t 1), none⟩, ⟨some 5, .call N_ref07_Validate [] [.t 4], none⟩, ⟨some 3, .mv (.t 5), none⟩] [4, 5])
 (.seq (.ops [] [⟨some 6, .mv (.t 3), none⟩, ⟨some 7, .bin .neq (.t 6) (.c (.d (.int .i64 0))), none⟩] [6])
 (.cond (.t 7) (.seq (.ops [] [⟨some 8, .mv (.t 3), none⟩, ⟨some 2, .mv (.t 8), none⟩] [1, 3, 7, 8])
 (.ret [2])) .skip)))
 (.seq (.seq (.ops [] [⟨some 9, .fad false 0 1 (.t 1), none⟩, ⟨some 10, .ld false 1 (.t 9), none⟩, ⟨some 11, .un .not (.t 10), none⟩] [1, 3, 7, 9, 10])
 (.cond (.t 11) (.seq (.ops [] [⟨some 2, .mv (.c (.d (.int .i64 7))), none⟩] [11])
 (.ret [2])) .skip))
 (.seq (.ops [] [⟨some 2, .mv (.c (.d (.int .i64 0))), none⟩] [11])
 (.ret [2])))))
def r_ref07_Live : List ARes := [.t 2]
def fn_ref07_Live : AFn := .code c_ref07_Live r_ref07_Live 12 true
def c_ref07_epochs : ACode :=
 (.seq (.ops [] [⟨some 2, .mv (.c (.d (.bool false))), none⟩] [2])
 (.seq (.ops [] [⟨some 3, .mv (.t 0), none⟩, ⟨some 4, .bin .geq (.t 3) (.c (.d (.int .i64 0))), none⟩, ⟨some 5, .mv (.t 4), none⟩, ⟨some 6, .mv (.t 0), some (5, true)⟩, ⟨some 7, .bin .leq (.t 6) (.c (.d (.int .i64 65536))), some (5, true)⟩, ⟨some 8, .pick (.t 5) (.t 7) (.c (.d (.bool false))), none⟩, ⟨some 2, .mv (.t 8), none⟩] [0, 3, 4, 5, 6, 7, 8])
 (.ret [2])))
def r_ref07_epochs : List ARes := [.t 2]
def fn_ref07_epochs : AFn := .code c_ref07_epochs r_ref07_epochs 9 true
def c_ref07_limits : ACode :=
 (.seq (.ops [] [⟨some 2, .mv (.c (.d (.bool false))), none⟩] [2])
 (.seq (.ops [] [⟨some 3, .mv (.t 0), none⟩, ⟨some 4, .bin .geq (.t 3) (.c (.d (.int .i64 1))), none⟩, ⟨some 5, .mv (.t 4), none⟩, ⟨some 6, .mv (.t 0), some (5, true)⟩, ⟨some 7, .bin .leq (.t 6) (.c (.d (.int .i64 8))), some (5, true)⟩, ⟨some 8, .pick (.t 5) (.t 7) (.c (.d (.bool false))), none⟩, ⟨some 2, .mv (.t 8), none⟩] [0, 3, 4, 5, 6, 7, 8])
 (.ret [2])))
def r_ref07_limits : List ARes := [.t 2]
def fn_ref07_limits : AFn := .code c_ref07_limits r_ref07_limits 9 true
def c_ref03_Purged : ACode :=
 (.seq (.ops [] [⟨some 2, .box (.t 0), none⟩, ⟨some 4, .mv (.c (.d (.bool false))), none⟩] [0, 4])
 (.seq (.ops [] [⟨some 5, .fad false 2 1 (.t 2), none⟩, ⟨some 6, .ld false 1 (.t 5), none⟩, ⟨some 7, .mv (.t 1), none⟩, ⟨some 8, .bin .lss (.t 6) (.t 7), none⟩, ⟨some 4, .mv (.t 8), none⟩] [1, 2, 5, 6, 7, 8])
 (.ret [4])))
def r_ref03_Purged : List ARes := [.t 4]
def fn_ref03_Purged : AFn := .code c_ref03_Purged r_ref03_Purged 9 true
def c_ref03_Spent : ACode :=
 (.seq (.ops [] [⟨some 2, .box (.t 0), none⟩, ⟨some 4, .mv (.c (.d (.bool false))), none⟩] [0, 4])
 (.seq (.ops [] [⟨some 5, .fad false 3 1 (.t 2), none⟩, ⟨some 6, .ld false 1 (.t 5), none⟩, ⟨some 7, .mv (.t 1), none⟩, ⟨some 8, .bin .geq (.t 6) (.t 7), none⟩, ⟨some 4, .mv (.t 8), none⟩] [1, 2, 5, 6, 7, 8])
 (.ret [4])))
def r_ref03_Spent : List ARes := [.t 4]
def fn_ref03_Spent : AFn := .code c_ref03_Spent r_ref03_Spent 9 true
def c_ref18_decide : ACode :=
 (.seq (.ops [] [⟨some 1, .box (.t 0), none⟩, ⟨some 2, .alloc (.agg [.d (.int .i64 0), .d (.int .i64 0), .d (.int .i64 0), .d (.int .i64 0), .d (.int .i64 0), .d (.int .i64 0), .d (.int .i64 0), .xsl [], .xsl [], .d (.int .i64 0), .d (.bool false), .d (.int .i64 0), .d (.int .i64 0), .d (.int .i64 0), .xsl [], .d (.int .i64 0), .d (.int .i64 0), .d (.int .i64 0), .d (.int .i64 0), .d (.int .i64 0), .d (.int .i64 0), .d (.int .i64 0), .d (.int .i64 0), .d (.int .i64 0), .d (.int .i64 0), .xsl [], .d (.int .i64 0), .d (.int .i64 0), .d (.int .i64 0), .d (.int .i64 0), .d (.int .i64 0), .d (.int .i64 0), .d (.int .i64 0), .d (.int .i64 0), .xsl [], .d (.int .i64 0), .xsl [], .xsl [], .d (.int .i64 0), .xsl [], .xsl [], .xsl [], .d (.int .i64 0), .xsl [], .xsl [], .xsl [], .xsl [], .d (.int .i64 0), .xsl [], .d (.int .i64 0), .xsl [], .xsl [], .d (.int .i64 0), .d (.int .i64 0), .d (.int .i64 0), .d (.int .i64 0), .d (.int .i64 0), .d (.int .i64 0), .d (.int .i64 0), .d (.int .i64 0), .d (.int .i64 0), .xsl [], .xsl []]), none⟩, ⟨some 3, .mv (.c (.xsl [])), none⟩] [0, 3])
 (.seq (.ops [] [⟨some 11, .fad true 23 26 (.t 1), none⟩, ⟨some 12, .fad false 11 1 (.t 11), none⟩, ⟨some 13, .ld false 1 (.t 12), none⟩, ⟨some 14, .iad 8 (.t 13) (.c (.d (.int .i64 0))), none⟩, ⟨some 15, .ld true 8 (.t 14), none⟩, ⟨some 4, .alloc (.agg [.d (.bool false), .d (.int .i64 0), .d (.int .i64 0), .xsl [], .d (.int .i64 0), .d (.int .i64 0), .xsl [], .xsl []]), none⟩, ⟨none, .st 8 (.t 4) (.t 15), none⟩] [11, 12, 13, 14, 15])
 (.seq (.ops [] [⟨some 16, .fad false 60 1 (.t 1), none⟩, ⟨none, .st 1 (.t 16) (.c (.d (.int .i64 0))), none⟩] [16])
 (.seq (.ops [] [⟨some 17, .fad true 23 26 (.t 1), none⟩, ⟨some 18, .ld true 26 (.t 17), none⟩, ⟨some 19, .call N_ref15_Unchanged [false, true] [.t 18], none⟩, ⟨some 5, .alloc (.agg [.xsl [], .d (.int .i64 0), .xsl [], .xsl [], .xsl [], .xsl []]), none⟩, ⟨none, .st 6 (.t 5) (.t 19), none⟩] [17, 18, 19])
 (.seq (.seq (.ops [] [⟨some 20, .ld true 8 (.t 4), none⟩, ⟨some 21, .fad true 52 2 (.t 1), none⟩, ⟨some 22, .fad false 0 1 (.t 21), none⟩, ⟨some 23, .ld false 1 (.t 22), none⟩, ⟨some 24, .call N_ref07_Owns [] [.t 20, .t 23], none⟩, ⟨some 25, .un .not (.t 24), none⟩] [20, 21, 22, 23, 24])
 (.cond (.t 25) (.seq (.ops [] [⟨some 26, .ld true 63 (.t 1), none⟩, ⟨some 27, .ld true 6 (.t 5), none⟩, ⟨some 28, .call N_ref18_Decide [false, false, true] [.t 26, .t 27], none⟩, ⟨none, .st 63 (.t 2) (.t 28), none⟩, ⟨some 3, .mv (.c (.xsl [])), none⟩] [1, 4, 5, 25, 26, 27, 28])
 (.ret [2, 3])) .skip))
 (.seq (.ops [] [⟨some 29, .ld true 63 (.t 1), none⟩, ⟨some 30, .call N_ref18_Snapped [false, false, true] [.t 29, .c (.d (.int .i64 2))], none⟩, ⟨some 6, .alloc (.agg [.d (.int .i64 0), .d (.int .i64 0), .d (.int .i64 0), .d (.int .i64 0), .d (.int .i64 0), .d (.int .i64 0), .d (.int .i64 0), .xsl [], .d (.int .i64 0), .d (.int .i64 0)]), none⟩, ⟨none, .st 10 (.t 6) (.t 30), none⟩] [25, 29, 30])
 (.seq (.seq (.draw [] [⟨some 31, .ld true 8 (.t 4), none⟩, ⟨some 32, .call N_ref07_Stored [] [.t 31], none⟩, ⟨some 33, .fad true 3 3 (.t 4), none⟩, ⟨some 34, .fad false 0 1 (.t 33), none⟩, ⟨some 35, .ld false 1 (.t 34), none⟩, ⟨some 36, .len (.t 35), none⟩, ⟨some 37, .bin .eql (.t 32) (.t 36), none⟩] [[], [], [0, 1], [0, 1], [0, 1], [0, 1], []] [31, 32, 33, 34, 35, 36])
 (.cond (.t 37) (.seq (.ops [] [⟨some 39, .fad true 52 2 (.t 1), none⟩, ⟨some 40, .ld true 2 (.t 39), none⟩, ⟨some 41, .fad false 1 1 (.t 4), none⟩, ⟨some 42, .ld false 1 (.t 41), none⟩, ⟨some 43, .fad false 2 1 (.t 4), none⟩, ⟨some 44, .ld false 1 (.t 43), none⟩, ⟨some 45, .call N_ref16_Advance [] [.t 40, .t 42, .t 44], none⟩, ⟨some 38, .mv (.t 45), none⟩, ⟨some 46, .ext (.t 38) 0, none⟩, ⟨some 47, .ext (.t 38) 1, none⟩, ⟨some 48, .fad true 52 2 (.t 1), none⟩, ⟨none, .st 2 (.t 48) (.t 46), none⟩] [4, 37, 38, 39, 40, 41, 42, 43, 44, 45, 46, 47, 48])
 (.seq (.seq (.ops [] [⟨some 49, .fad true 52 2 (.t 1), none⟩, ⟨some 50, .ld true 2 (.t 49), none⟩, ⟨some 51, .call N_ref16_Over [] [.t 50], none⟩, ⟨some 52, .un .not (.t 51), none⟩] [49, 50, 51])
 (.cond (.t 52) (.seq (.ops [] [⟨some 53, .ld true 63 (.t 1), none⟩, ⟨some 54, .ld true 6 (.t 5), none⟩, ⟨some 55, .call N_ref18_Decide [false, false, true] [.t 53, .t 54], none⟩, ⟨none, .st 63 (.t 2) (.t 55), none⟩, ⟨some 3, .mv (.c (.xsl [])), none⟩] [1, 5, 6, 52, 53, 54, 55])
 (.ret [2, 3])) .skip))
 (.seq (.ops [] [⟨some 56, .fad false 60 1 (.t 1), none⟩, ⟨none, .st 1 (.t 56) (.c (.d (.int .i64 2))), none⟩] [52, 56])
 (.seq (.ops [] [⟨some 57, .fad false 6 1 (.t 6), none⟩, ⟨none, .st 1 (.t 57) (.c (.d (.int .i64 3))), none⟩] [57])
 (.seq (.ops [] [⟨some 58, .fad false 55 1 (.t 1), none⟩, ⟨some 59, .ld false 1 (.t 58), none⟩, ⟨some 60, .build [.d (.int .i64 0), .d (.int .i64 0), .d (.int .i64 0), .d (.int .i64 0)] [(0, (1, .t 59))], none⟩, ⟨some 61, .bsl 1 4 (.d (.agg [.int .i64 0, .int .i64 0, .int .i64 0, .int .i64 0])) [(0, .t 60)], none⟩, ⟨some 62, .fad false 7 1 (.t 6), none⟩, ⟨none, .st 1 (.t 62) (.t 61), none⟩] [58, 59, 60, 61, 62])
 (.seq (.draw [] [⟨some 63, .ld true 63 (.t 1), none⟩, ⟨some 64, .ld true 6 (.t 5), none⟩, ⟨some 65, .call N_ref18_Decide [false, false, true] [.t 63, .t 64], none⟩, ⟨some 66, .ld true 10 (.t 6), none⟩, ⟨some 67, .bsl 1 10 (.agg [.d (.int .i64 0), .d (.int .i64 0), .d (.int .i64 0), .d (.int .i64 0), .d (.int .i64 0), .d (.int .i64 0), .d (.int .i64 0), .xsl [], .d (.int .i64 0), .d (.int .i64 0)]) [(0, .t 66)], none⟩, ⟨none, .st 63 (.t 2) (.t 65), none⟩, ⟨some 3, .mv (.t 67), none⟩] [[], [0], [], [0, 1, 2], [0, 1, 2], [3, 4], []] [1, 5, 6, 63, 64, 65, 66, 67])
 (.ret [2, 3]))))))) .skip))
 (.seq (.draw [] [⟨some 69, .fad false 55 1 (.t 1), none⟩, ⟨some 70, .ld false 1 (.t 69), none⟩, ⟨some 71, .fad false 55 1 (.t 1), none⟩, ⟨some 72, .ld false 1 (.t 71), none⟩, ⟨some 73, .call N_ref02_Route [] [.t 72], none⟩, ⟨some 74, .fad false 1 1 (.t 4), none⟩, ⟨some 75, .ld false 1 (.t 74), none⟩, ⟨some 76, .fad false 2 1 (.t 4), none⟩, ⟨some 77, .ld false 1 (.t 76), none⟩, ⟨some 78, .call N_ref02_Into [] [.t 73, .t 75, .t 77], none⟩, ⟨some 79, .fad true 23 26 (.t 1), none⟩, ⟨some 80, .fad true 7 4 (.t 79), none⟩, ⟨some 81, .fad false 1 1 (.t 80), none⟩, ⟨some 82, .ld false 1 (.t 81), none⟩, ⟨some 83, .fad true 23 26 (.t 1), none⟩, ⟨some 84, .fad true 7 4 (.t 83), none⟩, ⟨some 85, .fad false 2 1 (.t 84), none⟩, ⟨some 86, .ld false 1 (.t 85), none⟩, ⟨some 87, .fad true 1 8 (.t 1), none⟩, ⟨some 88, .fad false 6 1 (.t 87), none⟩, ⟨some 89, .ld false 1 (.t 88), none⟩, ⟨some 90, .fad false 13 1 (.t 1), none⟩, ⟨some 91, .ld false 1 (.t 90), none⟩, ⟨some 92, .iad 1 (.t 89) (.t 91), none⟩, ⟨some 93, .ld false 1 (.t 92), none⟩, ⟨some 94, .call N_ref03_New [] [.t 70, .t 78, .t 82, .t 86, .t 93], none⟩, ⟨some 68, .mv (.t 94), none⟩, ⟨some 95, .ext (.t 68) 0, none⟩, ⟨some 96, .ext (.t 68) 1, none⟩, ⟨some 7, .alloc (.d (.agg [.int .i64 0, .int .i64 0, .int .i64 0, .int .i64 0, .int .i64 0, .int .i64 0, .str []])), none⟩, ⟨none, .st 7 (.t 7) (.t 95), none⟩, ⟨some 8, .mv (.t 96), none⟩] [[], [], [0, 1], [0, 1], [0, 1], [0, 1, 2, 3, 4], [0, 1, 2, 3, 4], [0, 1, 2, 3, 4, 5, 6], [0, 1, 2, 3, 4, 5, 6], [0, 1], [0, 1, 2, 3, 4, 5, 6, 7, 8, 9], [0, 1, 2, 3, 4, 5, 6, 7, 8, 9], [0, 1, 2, 3, 4, 5, 6, 7, 8, 9], [0, 1, 2, 3, 4, 5, 6, 7, 8, 9], [0, 1, 2, 3, 4, 5, 6, 7, 8, 9, 10, 11, 12, 13], [0, 1, 2, 3, 4, 5, 6, 7, 8, 9, 10, 11, 12, 13], [0, 1, 2, 3, 4, 5, 6, 7, 8, 9, 10, 11, 12, 13], [0, 1, 2, 3, 4, 5, 6, 7, 8, 9, 10, 11, 12, 13], [0, 1, 2, 3, 4, 5, 6, 7, 8, 9, 10, 11, 12, 13, 14, 15, 16, 17], [0, 1, 2, 3, 4, 5, 6, 7, 8, 9, 10, 11, 12, 13, 14, 15, 16, 17], [0, 1, 2, 3, 4, 5, 6, 7, 8, 9, 10, 11, 12, 13, 14, 15, 16, 17], [0, 1, 2, 3, 4, 5, 6, 7, 8, 9, 10, 11, 12, 13, 14, 15, 16, 17, 18, 19, 20], [0, 1, 2, 3, 4, 5, 6, 7, 8, 9, 10, 11, 12, 13, 14, 15, 16, 17, 18, 19, 20], [0, 1, 2, 3, 4, 5, 6, 7, 8, 9, 10, 11, 12, 13, 14, 15, 16, 17], [0, 1, 2, 3, 4, 5, 6, 7, 8, 9, 10, 11, 12, 13, 14, 15, 16, 17], [], [], [], [27], [0, 1, 2, 3, 4, 5, 6, 7, 8, 9, 10, 11, 12, 13, 14, 15, 16, 17, 18, 19, 20, 21, 22, 23, 24, 25, 26, 27, 28], [28], []] [8, 37, 68, 69, 70, 71, 72, 73, 74, 75, 76, 77, 78, 79, 80, 81, 82, 83, 84, 85, 86, 87, 88, 89, 90, 91, 92, 93, 94, 95, 96])
 (.seq (.ops [] [⟨some 98, .ld true 8 (.t 4), none⟩, ⟨some 99, .ld true 7 (.t 7), none⟩, ⟨some 100, .call N_ref07_Put [false, false, true] [.t 98, .t 99], none⟩, ⟨some 97, .mv (.t 100), none⟩, ⟨some 101, .ext (.t 97) 0, none⟩, ⟨some 102, .ext (.t 97) 1, none⟩, ⟨some 9, .alloc (.agg [.d (.bool false), .d (.int .i64 0), .d (.int .i64 0), .xsl [], .d (.int .i64 0), .d (.int .i64 0), .xsl [], .xsl []]), none⟩, ⟨none, .st 8 (.t 9) (.t 101), none⟩, ⟨some 10, .mv (.t 102), none⟩] [4, 10, 97, 98, 99, 100, 101, 102])
 (.seq (.ops [] [⟨some 103, .ld true 8 (.t 9), none⟩, ⟨some 104, .bsl 1 8 (.agg [.d (.bool false), .d (.int .i64 0), .d (.int .i64 0), .xsl [], .d (.int .i64 0), .d (.int .i64 0), .xsl [], .xsl []]) [(0, .t 103)], none⟩, ⟨some 105, .fad false 0 1 (.t 5), none⟩, ⟨none, .st 1 (.t 105) (.t 104), none⟩] [9, 103, 104, 105])
 (.seq (.ops [] [⟨some 106, .bsl 1 1 (.d (.int .i64 0)) [(0, .c (.d (.int .i64 0)))], none⟩, ⟨some 107, .fad false 3 1 (.t 5), none⟩, ⟨none, .st 1 (.t 107) (.t 106), none⟩] [106, 107])
 (.seq (.ops [] [⟨some 108, .fad false 60 1 (.t 1), none⟩, ⟨none, .st 1 (.t 108) (.c (.d (.int .i64 1))), none⟩] [108])
 (.seq (.ops [] [⟨some 109, .fad false 55 1 (.t 1), none⟩, ⟨some 110, .ld false 1 (.t 109), none⟩, ⟨some 111, .fad false 1 1 (.t 7), none⟩, ⟨some 112, .ld false 1 (.t 111), none⟩, ⟨some 113, .build [.d (.int .i64 0), .d (.int .i64 0), .d (.int .i64 0), .d (.int .i64 0)] [(0, (1, .t 110)), (2, (1, .t 112))], none⟩, ⟨some 114, .bsl 1 4 (.d (.agg [.int .i64 0, .int .i64 0, .int .i64 0, .int .i64 0])) [(0, .t 113)], none⟩, ⟨some 115, .fad false 7 1 (.t 6), none⟩, ⟨none, .st 1 (.t 115) (.t 114), none⟩] [7, 109, 110, 111, 112, 113, 114, 115])
 (.seq (.draw [] [⟨some 116, .ld true 63 (.t 1), none⟩, ⟨some 117, .ld true 6 (.t 5), none⟩, ⟨some 118, .call N_ref18_Decide [false, false, true] [.t 116, .t 117], none⟩, ⟨some 119, .ld true 10 (.t 6), none⟩, ⟨some 120, .bsl 1 10 (.agg [.d (.int .i64 0), .d (.int .i64 0), .d (.int .i64 0), .d (.int .i64 0), .d (.int .i64 0), .d (.int .i64 0), .d (.int .i64 0), .xsl [], .d (.int .i64 0), .d (.int .i64 0)]) [(0, .t 119)], none⟩, ⟨none, .st 63 (.t 2) (.t 118), none⟩, ⟨some 3, .mv (.t 120), none⟩] [[], [0], [], [0, 1, 2], [0, 1, 2], [3, 4], []] [1, 5, 6, 116, 117, 118, 119, 120])
 (.ret [2, 3])))))))))))))))
def r_ref18_decide : List ARes := [.c 2 true 63, .t 3]
def fn_ref18_decide : AFn := .code c_ref18_decide r_ref18_decide 121 true
def c_ref15_Unchanged : ACode :=
 (.seq (.ops [] [⟨some 1, .box (.t 0), none⟩, ⟨some 2, .alloc (.agg [.xsl [], .d (.int .i64 0), .xsl [], .xsl [], .xsl [], .xsl []]), none⟩] [0])
 (.seq (.ops [] [⟨some 3, .fad false 11 1 (.t 1), none⟩, ⟨some 4, .ld false 1 (.t 3), none⟩, ⟨some 5, .fad true 12 2 (.t 1), none⟩, ⟨some 6, .ld true 2 (.t 5), none⟩, ⟨some 7, .build [.xsl [], .d (.int .i64 0), .xsl [], .xsl [], .xsl [], .xsl []] [(0, (1, .t 4)), (1, (2, .t 6))], none⟩, ⟨none, .st 6 (.t 2) (.t 7), none⟩] [1, 3, 4, 5, 6, 7])
 (.ret [2])))
def r_ref15_Unchanged : List ARes := [.c 2 true 6]
def fn_ref15_Unchanged : AFn := .code c_ref15_Unchanged r_ref15_Unchanged 8 true
def c_ref07_Owns : ACode :=
 (.seq (.ops [] [⟨some 2, .box (.t 0), none⟩, ⟨some 4, .mv (.c (.d (.bool false))), none⟩] [0, 4])
 (.seq (.ops [] [⟨some 5, .ld true 8 (.t 2), none⟩, ⟨some 6, .call N_ref07_Live [] [.t 5], none⟩, ⟨some 7, .bin .eql (.t 6) (.c (.d (.int .i64 0))), none⟩, ⟨some 8, .mv (.t 7), none⟩, ⟨some 9, .mv (.t 1), some (8, true)⟩, ⟨some 10, .fad false 1 1 (.t 2), some (8, true)⟩, ⟨some 11, .ld false 1 (.t 10), some (8, true)⟩, ⟨some 12, .bin .geq (.t 9) (.t 11), some (8, true)⟩, ⟨some 13, .pick (.t 8) (.t 12) (.c (.d (.bool false))), none⟩, ⟨some 14, .mv (.t 13), none⟩, ⟨some 15, .mv (.t 1), some (14, true)⟩, ⟨some 16, .fad false 2 1 (.t 2), some (14, true)⟩, ⟨some 17, .ld false 1 (.t 16), some (14, true)⟩, ⟨some 18, .bin .leq (.t 15) (.t 17), some (14, true)⟩, ⟨some 19, .pick (.t 14) (.t 18) (.c (.d (.bool false))), none⟩, ⟨some 4, .mv (.t 19), none⟩] [1, 2, 5, 6, 7, 8, 9, 10, 11, 12, 13, 14, 15, 16, 17, 18, 19])
 (.ret [4])))
def r_ref07_Owns : List ARes := [.t 4]
def fn_ref07_Owns : AFn := .code c_ref07_Owns r_ref07_Owns 20 true
def c_ref18_Decide : ACode :=
 (.seq (.ops [] [⟨some 2, .box (.t 0), none⟩, ⟨some 3, .box (.t 1), none⟩, ⟨some 4, .alloc (.agg [.d (.int .i64 0), .d (.int .i64 0), .d (.int .i64 0), .d (.int .i64 0), .d (.int .i64 0), .d (.int .i64 0), .d (.int .i64 0), .xsl [], .xsl [], .d (.int .i64 0), .d (.bool false), .d (.int .i64 0), .d (.int .i64 0), .d (.int .i64 0), .xsl [], .d (.int .i64 0), .d (.int .i64 0), .d (.int .i64 0), .d (.int .i64 0), .d (.int .i64 0), .d (.int .i64 0), .d (.int .i64 0), .d (.int .i64 0), .d (.int .i64 0), .d (.int .i64 0), .xsl [], .d (.int .i64 0), .d (.int .i64 0), .d (.int .i64 0), .d (.int .i64 0), .d (.int .i64 0), .d (.int .i64 0), .d (.int .i64 0), .d (.int .i64 0), .xsl [], .d (.int .i64 0), .xsl [], .xsl [], .d (.int .i64 0), .xsl [], .xsl [], .xsl [], .d (.int .i64 0), .xsl [], .xsl [], .xsl [], .xsl [], .d (.int .i64 0), .xsl [], .d (.int .i64 0), .xsl [], .xsl [], .d (.int .i64 0), .d (.int .i64 0), .d (.int .i64 0), .d (.int .i64 0), .d (.int .i64 0), .d (.int .i64 0), .d (.int .i64 0), .d (.int .i64 0), .d (.int .i64 0), .xsl [], .xsl []]), none⟩] [0, 1])
 (.seq (.ops [] [⟨some 6, .fad true 23 26 (.t 2), none⟩, ⟨some 7, .ld true 26 (.t 6), none⟩, ⟨some 8, .ld true 6 (.t 3), none⟩, ⟨some 9, .call N_ref15_Decide [false, false, true] [.t 7, .t 8], none⟩, ⟨some 5, .mv (.t 9), none⟩, ⟨some 10, .ext (.t 5) 0, none⟩, ⟨some 11, .ext (.t 5) 1, none⟩, ⟨some 12, .fad true 23 26 (.t 2), none⟩, ⟨none, .st 26 (.t 12) (.t 10), none⟩] [3, 5, 6, 7, 8, 9, 10, 11, 12])
 (.seq (.ops [] [⟨some 13, .ld true 63 (.t 2), none⟩, ⟨none, .st 63 (.t 4) (.t 13), none⟩] [2, 13])
 (.ret [4]))))
def r_ref18_Decide : List ARes := [.c 4 true 63]
def fn_ref18_Decide : AFn := .code c_ref18_Decide r_ref18_Decide 14 true
def l_ref15_Decide_0 : ACode :=
 (.seq (.seq (.ops [] [⟨some 54, .mv (.t 7), none⟩, ⟨some 55, .mv (.t 6), none⟩, ⟨some 56, .bin .lss (.t 54) (.t 55), none⟩] [54, 55])
 (.cond (.t 56) .skip (.exit 2 [2, 3, 4, 6])))
 (.seq (.block 3 (.seq (.draw [] [⟨some 59, .fad false 3 1 (.t 3), none⟩, ⟨some 60, .ld false 1 (.t 59), none⟩, ⟨some 61, .mv (.t 7), none⟩, ⟨some 62, .iad 1 (.t 60) (.t 61), none⟩, ⟨some 63, .ld false 1 (.t 62), none⟩, ⟨some 64, .fad false 3 1 (.t 3), none⟩, ⟨some 65, .ld false 1 (.t 64), none⟩, ⟨some 66, .mv (.t 6), none⟩, ⟨some 67, .iad 1 (.t 65) (.t 66), none⟩, ⟨some 68, .ld false 1 (.t 67), none⟩, ⟨some 69, .bin .eql (.t 63) (.t 68), none⟩] [[], [], [0, 1], [], [], [0, 1, 2, 3, 4], [0, 1, 2, 3, 4], [0, 1, 2, 3, 4, 5, 6], [0, 1, 2, 3, 4], [0, 1, 2, 3, 4], []] [56, 59, 60, 61, 62, 63, 64, 65, 66, 67, 68])
 (.cond (.t 69) (.seq (.ops [] [⟨some 70, .build [.d (.int .i64 0), .d (.int .i64 0), .xsl [], .d (.int .i64 0), .d (.int .i64 0), .d (.int .i64 0), .d (.int .i64 0), .d (.int .i64 0), .d (.int .i64 0), .d (.int .i64 0), .d (.int .i64 0), .xsl [], .d (.int .i64 0), .xsl [], .xsl [], .d (.int .i64 0), .xsl [], .xsl [], .xsl [], .d (.int .i64 0), .xsl [], .xsl [], .xsl [], .xsl [], .d (.int .i64 0), .xsl []] [], none⟩, ⟨none, .st 26 (.t 4) (.t 70), none⟩, ⟨some 5, .mv (.c (.d (.int .i64 1))), none⟩] [2, 3, 6, 7, 69, 70])
 (.ret [4, 5])) .skip)))
 (.ops [] [⟨some 57, .mv (.t 7), none⟩, ⟨some 58, .bin .add (.t 57) (.c (.d (.int .i64 1))), none⟩, ⟨some 7, .mv (.t 58), none⟩] [57, 58, 69])))
def l_ref15_Decide_1 : ACode :=
 (.seq (.seq (.ops [] [⟨some 28, .mv (.t 6), none⟩, ⟨some 29, .fad false 3 1 (.t 3), none⟩, ⟨some 30, .ld false 1 (.t 29), none⟩, ⟨some 31, .len (.t 30), none⟩, ⟨some 32, .bin .lss (.t 28) (.t 31), none⟩] [28, 29, 30, 31])
 (.cond (.t 32) .skip (.exit 0 [2, 3, 4])))
 (.seq (.block 1 (.seq (.seq (.draw [] [⟨some 35, .fad false 3 1 (.t 3), none⟩, ⟨some 36, .ld false 1 (.t 35), none⟩, ⟨some 37, .mv (.t 6), none⟩, ⟨some 38, .iad 1 (.t 36) (.t 37), none⟩, ⟨some 39, .ld false 1 (.t 38), none⟩, ⟨some 40, .bin .lss (.t 39) (.c (.d (.int .i64 0))), none⟩, ⟨some 41, .mv (.t 40), none⟩, ⟨some 42, .fad false 3 1 (.t 3), some (41, false)⟩, ⟨some 43, .ld false 1 (.t 42), some (41, false)⟩, ⟨some 44, .mv (.t 6), some (41, false)⟩, ⟨some 45, .iad 1 (.t 43) (.t 44), some (41, false)⟩, ⟨some 46, .ld false 1 (.t 45), some (41, false)⟩, ⟨some 47, .fad true 2 5 (.t 2), some (41, false)⟩, ⟨some 48, .fad false 0 1 (.t 47), some (41, false)⟩, ⟨some 49, .ld false 1 (.t 48), some (41, false)⟩, ⟨some 50, .len (.t 49), some (41, false)⟩, ⟨some 51, .bin .geq (.t 46) (.t 50), some (41, false)⟩, ⟨some 52, .pick (.t 41) (.c (.d (.bool true))) (.t 51), none⟩] [[], [], [0, 1], [], [], [], [], [], [], [7, 8], [], [], [7, 8, 9, 10, 11], [7, 8, 9, 10, 11], [7, 8, 9, 10, 11], [7, 8, 9, 10, 11], [], []] [32, 35, 36, 37, 38, 39, 40, 41, 42, 43, 44, 45, 46, 47, 48, 49, 50, 51])
 (.cond (.t 52) (.seq (.ops [] [⟨some 53, .build [.d (.int .i64 0), .d (.int .i64 0), .xsl [], .d (.int .i64 0), .d (.int .i64 0), .d (.int .i64 0), .d (.int .i64 0), .d (.int .i64 0), .d (.int .i64 0), .d (.int .i64 0), .d (.int .i64 0), .xsl [], .d (.int .i64 0), .xsl [], .xsl [], .d (.int .i64 0), .xsl [], .xsl [], .xsl [], .d (.int .i64 0), .xsl [], .xsl [], .xsl [], .xsl [], .d (.int .i64 0), .xsl []] [], none⟩, ⟨none, .st 26 (.t 4) (.t 53), none⟩, ⟨some 5, .mv (.c (.d (.int .i64 1))), none⟩] [2, 3, 6, 52, 53])
 (.ret [4, 5])) .skip))
 (.seq (.ops [] [⟨some 7, .mv (.c (.d (.int .i64 0))), none⟩] [52])
 (.block 2 (.loop [] l_ref15_Decide_0)))))
 (.ops [] [⟨some 33, .mv (.t 6), none⟩, ⟨some 34, .bin .add (.t 33) (.c (.d (.int .i64 1))), none⟩, ⟨some 6, .mv (.t 34), none⟩] [7, 33, 34, 56])))
def c_ref15_Decide : ACode :=
 (.seq (.ops [] [⟨some 2, .box (.t 0), none⟩, ⟨some 3, .box (.t 1), none⟩, ⟨some 4, .alloc (.agg [.d (.int .i64 0), .d (.int .i64 0), .xsl [], .d (.int .i64 0), .d (.int .i64 0), .d (.int .i64 0), .d (.int .i64 0), .d (.int .i64 0), .d (.int .i64 0), .d (.int .i64 0), .d (.int .i64 0), .xsl [], .d (.int .i64 0), .xsl [], .xsl [], .d (.int .i64 0), .xsl [], .xsl [], .xsl [], .d (.int .i64 0), .xsl [], .xsl [], .xsl [], .xsl [], .d (.int .i64 0), .xsl []]), none⟩, ⟨some 5, .mv (.c (.d (.int .i64 0))), none⟩] [0, 1, 5])
 (.seq (.seq (.ops [] [⟨some 10, .fad false 0 1 (.t 2), none⟩, ⟨some 11, .ld false 1 (.t 10), none⟩, ⟨some 12, .bin .neq (.t 11) (.c (.d (.int .i64 4))), none⟩] [10, 11])
 (.cond (.t 12) (.seq (.ops [] [⟨some 13, .build [.d (.int .i64 0), .d (.int .i64 0), .xsl [], .d (.int .i64 0), .d (.int .i64 0), .d (.int .i64 0), .d (.int .i64 0), .d (.int .i64 0), .d (.int .i64 0), .d (.int .i64 0), .d (.int .i64 0), .xsl [], .d (.int .i64 0), .xsl [], .xsl [], .d (.int .i64 0), .xsl [], .xsl [], .xsl [], .d (.int .i64 0), .xsl [], .xsl [], .xsl [], .xsl [], .d (.int .i64 0), .xsl []] [], none⟩, ⟨none, .st 26 (.t 4) (.t 13), none⟩, ⟨some 5, .mv (.c (.d (.int .i64 7))), none⟩] [2, 3, 12, 13])
 (.ret [4, 5])) .skip))
 (.seq (.seq (.ops [] [⟨some 14, .fad false 0 1 (.t 3), none⟩, ⟨some 15, .ld false 1 (.t 14), none⟩, ⟨some 16, .len (.t 15), none⟩, ⟨some 17, .fad false 11 1 (.t 2), none⟩, ⟨some 18, .ld false 1 (.t 17), none⟩, ⟨some 19, .len (.t 18), none⟩, ⟨some 20, .bin .neq (.t 16) (.t 19), none⟩, ⟨some 21, .mv (.t 20), none⟩, ⟨some 22, .fad false 5 1 (.t 3), some (21, false)⟩, ⟨some 23, .ld false 1 (.t 22), some (21, false)⟩, ⟨some 24, .len (.t 23), some (21, false)⟩, ⟨some 25, .bin .gtr (.t 24) (.c (.d (.int .i64 1))), some (21, false)⟩, ⟨some 26, .pick (.t 21) (.c (.d (.bool true))) (.t 25), none⟩] [12, 14, 15, 16, 17, 18, 19, 20, 21, 22, 23, 24, 25])
 (.cond (.t 26) (.seq (.ops [] [⟨some 27, .build [.d (.int .i64 0), .d (.int .i64 0), .xsl [], .d (.int .i64 0), .d (.int .i64 0), .d (.int .i64 0), .d (.int .i64 0), .d (.int .i64 0), .d (.int .i64 0), .d (.int .i64 0), .d (.int .i64 0), .xsl [], .d (.int .i64 0), .xsl [], .xsl [], .d (.int .i64 0), .xsl [], .xsl [], .xsl [], .d (.int .i64 0), .xsl [], .xsl [], .xsl [], .xsl [], .d (.int .i64 0), .xsl []] [], none⟩, ⟨none, .st 26 (.t 4) (.t 27), none⟩, ⟨some 5, .mv (.c (.d (.int .i64 1))), none⟩] [2, 3, 26, 27])
 (.ret [4, 5])) .skip))
 (.seq (.seq (.ops [] [⟨some 6, .mv (.c (.d (.int .i64 0))), none⟩] [26])
 (.block 0 (.loop [] l_ref15_Decide_1)))
 (.seq (.ops [] [⟨some 71, .ld true 6 (.t 3), none⟩, ⟨some 72, .fad true 18 6 (.t 2), none⟩, ⟨none, .st 6 (.t 72) (.t 71), none⟩] [6, 32, 71, 72])
 (.seq (.block 4 (.seq (.ops [] [⟨some 74, .fad false 3 1 (.t 3), none⟩, ⟨some 75, .ld false 1 (.t 74), none⟩, ⟨some 76, .len (.t 75), none⟩, ⟨some 77, .bin .gtr (.t 76) (.c (.d (.int .i64 0))), none⟩, ⟨some 73, .mv (.t 77), none⟩] [74, 75, 76, 77])
 (.cond (.t 73) (.seq (.ops [] [⟨some 78, .ld true 26 (.t 2), none⟩, ⟨some 79, .call N_ref15_enter [false, false, true] [.t 78, .c (.d (.int .i64 5))], none⟩, ⟨none, .st 26 (.t 4) (.t 79), none⟩, ⟨some 5, .mv (.c (.d (.int .i64 0))), none⟩] [2, 3, 73, 78, 79])
 (.ret [4, 5])) (.seq (.ops [] [⟨some 81, .fad false 5 1 (.t 3), none⟩, ⟨some 82, .ld false 1 (.t 81), none⟩, ⟨some 83, .len (.t 82), none⟩, ⟨some 84, .bin .gtr (.t 83) (.c (.d (.int .i64 0))), none⟩, ⟨some 80, .mv (.t 84), none⟩] [3, 73, 81, 82, 83, 84])
 (.cond (.t 80) (.seq (.ops [] [⟨some 85, .ld true 26 (.t 2), none⟩, ⟨some 86, .call N_ref15_enter [false, false, true] [.t 85, .c (.d (.int .i64 6))], none⟩, ⟨none, .st 26 (.t 4) (.t 86), none⟩, ⟨some 5, .mv (.c (.d (.int .i64 0))), none⟩] [2, 80, 85, 86])
 (.ret [4, 5])) .skip)))))
 (.seq (.ops [] [⟨some 88, .build [.xsl [], .xsl [], .d (.int .i64 0), .d (.int .i64 0), .xsl [], .d (.int .i64 0), .xsl [], .xsl [], .d (.int .i64 0), .d (.int .i64 0), .d (.int .i64 0)] [], none⟩, ⟨some 89, .ld true 26 (.t 2), none⟩, ⟨some 90, .call N_ref15_unmarking [false, false, true] [.t 88, .t 89], none⟩, ⟨some 87, .mv (.t 90), none⟩, ⟨some 91, .ext (.t 87) 0, none⟩, ⟨some 92, .ext (.t 87) 1, none⟩, ⟨some 93, .ext (.t 87) 2, none⟩, ⟨some 8, .alloc (.agg [.xsl [], .xsl [], .d (.int .i64 0), .d (.int .i64 0), .xsl [], .d (.int .i64 0), .xsl [], .xsl [], .d (.int .i64 0), .d (.int .i64 0), .d (.int .i64 0)]), none⟩, ⟨none, .st 11 (.t 8) (.t 91), none⟩, ⟨none, .st 26 (.t 2) (.t 92), none⟩, ⟨some 9, .mv (.t 93), none⟩] [8, 80, 87, 88, 89, 90, 91, 92, 93])
 (.seq (.ops [] [⟨some 94, .ld true 26 (.t 2), none⟩, ⟨some 95, .mv (.t 9), none⟩, ⟨none, .st 26 (.t 4) (.t 94), none⟩, ⟨some 5, .mv (.t 95), none⟩] [2, 9, 94, 95])
 (.ret [4, 5])))))))))
def r_ref15_Decide : List ARes := [.c 4 true 26, .t 5]
def fn_ref15_Decide : AFn := .code c_ref15_Decide r_ref15_Decide 96 true
def c_ref18_Snapped : ACode :=
 (.seq (.ops [] [⟨some 2, .box (.t 0), none⟩, ⟨some 4, .alloc (.agg [.d (.int .i64 0), .d (.int .i64 0), .d (.int .i64 0), .d (.int .i64 0), .d (.int .i64 0), .d (.int .i64 0), .d (.int .i64 0), .xsl [], .d (.int .i64 0), .d (.int .i64 0)]), none⟩] [0])
 (.seq (.ops [] [⟨some 6, .fad true 23 26 (.t 2), none⟩, ⟨some 7, .fad true 7 4 (.t 6), none⟩, ⟨some 8, .ld true 4 (.t 7), none⟩, ⟨some 5, .alloc (.d (.agg [.int .i64 0, .int .i64 0, .int .i64 0, .int .i64 0])), none⟩, ⟨none, .st 4 (.t 5) (.t 8), none⟩] [6, 7, 8])
 (.seq (.ops [] [⟨some 9, .fad false 3 1 (.t 5), none⟩, ⟨some 10, .ld false 1 (.t 9), none⟩, ⟨some 11, .fad false 0 1 (.t 2), none⟩, ⟨some 12, .ld false 1 (.t 11), none⟩, ⟨some 13, .fad false 13 1 (.t 2), none⟩, ⟨some 14, .ld false 1 (.t 13), none⟩, ⟨some 15, .mv (.t 1), none⟩, ⟨some 16, .fad false 2 1 (.t 5), none⟩, ⟨some 17, .ld false 1 (.t 16), none⟩, ⟨some 18, .fad false 1 1 (.t 5), none⟩, ⟨some 19, .ld false 1 (.t 18), none⟩, ⟨some 20, .build [.d (.int .i64 0), .d (.int .i64 0), .d (.int .i64 0), .d (.int .i64 0), .d (.int .i64 0), .d (.int .i64 0), .d (.int .i64 0), .xsl [], .d (.int .i64 0), .d (.int .i64 0)] [(0, (1, .t 10)), (1, (1, .t 12)), (2, (1, .t 14)), (3, (1, .t 15)), (4, (1, .t 17)), (5, (1, .t 19))], none⟩, ⟨none, .st 10 (.t 4) (.t 20), none⟩] [1, 2, 5, 9, 10, 11, 12, 13, 14, 15, 16, 17, 18, 19, 20])
 (.ret [4]))))
def r_ref18_Snapped : List ARes := [.c 4 true 10]
def fn_ref18_Snapped : AFn := .code c_ref18_Snapped r_ref18_Snapped 21 true
def c_ref07_Stored : ACode :=
 (.seq (.ops [] [⟨some 1, .box (.t 0), none⟩, ⟨some 2, .mv (.c (.d (.int .i64 0))), none⟩] [0, 2])
 (.seq (.seq (.ops [] [⟨some 3, .ld true 8 (.t 1), none⟩, ⟨some 4, .call N_ref07_Live [] [.t 3], none⟩, ⟨some 5, .bin .neq (.t 4) (.c (.d (.int .i64 0))), none⟩] [3, 4])
 (.cond (.t 5) (.seq (.ops [] [⟨some 2, .mv (.c (.d (.int .i64 0))), none⟩] [1, 5])
 (.ret [2])) .skip))
 (.seq (.ops [] [⟨some 6, .fad true 3 3 (.t 1), none⟩, ⟨some 7, .fad false 2 1 (.t 6), none⟩, ⟨some 8, .ld false 1 (.t 7), none⟩, ⟨some 9, .fad true 6 2 (.t 1), none⟩, ⟨some 10, .fad false 0 1 (.t 9), none⟩, ⟨some 11, .ld false 1 (.t 10), none⟩, ⟨some 12, .len (.t 11), none⟩, ⟨some 13, .bin .add (.t 8) (.t 12), none⟩, ⟨some 2, .mv (.t 13), none⟩] [1, 5, 6, 7, 8, 9, 10, 11, 12, 13])
 (.ret [2]))))
def r_ref07_Stored : List ARes := [.t 2]
def fn_ref07_Stored : AFn := .code c_ref07_Stored r_ref07_Stored 14 true
def c_ref16_Advance : ACode :=
 (.seq (.ops [] [⟨some 3, .box (.t 0), none⟩, ⟨some 6, .alloc (.d (.agg [.int .i64 0, .int .i64 0])), none⟩, ⟨some 7, .mv (.c (.d (.int .i64 0))), none⟩] [0, 7])
 (.seq (.seq (.ops [] [⟨some 8, .mv (.t 1), none⟩, ⟨some 9, .bin .lss (.t 8) (.c (.d (.int .i64 0))), none⟩, ⟨some 10, .mv (.t 9), none⟩, ⟨some 11, .mv (.t 1), some (10, false)⟩, ⟨some 12, .fad false 0 1 (.t 3), some (10, false)⟩, ⟨some 13, .ld false 1 (.t 12), some (10, false)⟩, ⟨some 14, .bin .gtr (.t 11) (.t 13), some (10, false)⟩, ⟨some 15, .pick (.t 10) (.c (.d (.bool true))) (.t 14), none⟩, ⟨some 16, .mv (.t 15), none⟩, ⟨some 17, .fad false 0 1 (.t 3), some (16, false)⟩, ⟨some 18, .ld false 1 (.t 17), some (16, false)⟩, ⟨some 19, .mv (.t 2), some (16, false)⟩, ⟨some 20, .bin .gtr (.t 18) (.t 19), some (16, false)⟩, ⟨some 21, .pick (.t 16) (.c (.d (.bool true))) (.t 20), none⟩, ⟨some 22, .mv (.t 21), none⟩, ⟨some 23, .mv (.t 2), some (22, false)⟩, ⟨some 24, .bin .geq (.t 23) (.c (.d (.int .i64 65536))), some (22, false)⟩, ⟨some 25, .pick (.t 22) (.c (.d (.bool true))) (.t 24), none⟩, ⟨some 26, .mv (.t 25), none⟩, ⟨some 27, .fad false 1 1 (.t 3), some (26, false)⟩, ⟨some 28, .ld false 1 (.t 27), some (26, false)⟩, ⟨some 29, .bin .lss (.t 28) (.c (.d (.int .i64 0))), some (26, false)⟩, ⟨some 30, .pick (.t 26) (.c (.d (.bool true))) (.t 29), none⟩, ⟨some 31, .mv (.t 30), none⟩, ⟨some 32, .fad false 1 1 (.t 3), some (31, false)⟩, ⟨some 33, .ld false 1 (.t 32), some (31, false)⟩, ⟨some 34, .bin .geq (.t 33) (.c (.d (.int .i64 65536))), some (31, false)⟩, ⟨some 35, .pick (.t 31) (.c (.d (.bool true))) (.t 34), none⟩] [1, 8, 9, 10, 11, 12, 13, 14, 15, 16, 17, 18, 19, 20, 21, 22, 23, 24, 25, 26, 27, 28, 29, 30, 31, 32, 33, 34])
 (.cond (.t 35) (.seq (.ops [] [⟨some 36, .build [.d (.int .i64 0), .d (.int .i64 0)] [], none⟩, ⟨none, .st 2 (.t 6) (.t 36), none⟩, ⟨some 7, .mv (.c (.d (.int .i64 1))), none⟩] [2, 3, 35, 36])
 (.ret [6, 7])) .skip))
 (.seq (.ops [] [⟨some 37, .mv (.t 2), none⟩, ⟨some 38, .bin .add (.t 37) (.c (.d (.int .i64 1))), none⟩, ⟨some 39, .bin .rem (.t 38) (.c (.d (.int .i64 65536))), none⟩, ⟨some 40, .fad false 1 1 (.t 3), none⟩, ⟨some 41, .ld false 1 (.t 40), none⟩, ⟨some 42, .mv (.t 2), none⟩, ⟨some 43, .bin .add (.t 41) (.t 42), none⟩, ⟨some 44, .fad false 0 1 (.t 3), none⟩, ⟨some 45, .ld false 1 (.t 44), none⟩, ⟨some 46, .bin .sub (.t 43) (.t 45), none⟩, ⟨some 47, .bin .add (.t 46) (.c (.d (.int .i64 1))), none⟩, ⟨some 48, .build [.d (.int .i64 0), .d (.int .i64 0)] [(0, (1, .t 39)), (1, (1, .t 47))], none⟩, ⟨none, .st 2 (.t 6) (.t 48), none⟩, ⟨some 7, .mv (.c (.d (.int .i64 0))), none⟩] [2, 3, 35, 37, 38, 39, 40, 41, 42, 43, 44, 45, 46, 47, 48])
 (.ret [6, 7]))))
def r_ref16_Advance : List ARes := [.c 6 true 2, .t 7]
def fn_ref16_Advance : AFn := .code c_ref16_Advance r_ref16_Advance 49 true
def c_ref16_Over : ACode :=
 (.seq (.ops [] [⟨some 1, .box (.t 0), none⟩, ⟨some 2, .mv (.c (.d (.bool false))), none⟩] [0, 2])
 (.seq (.ops [] [⟨some 3, .fad false 1 1 (.t 1), none⟩, ⟨some 4, .ld false 1 (.t 3), none⟩, ⟨some 5, .bin .geq (.t 4) (.c (.d (.int .i64 65536))), none⟩, ⟨some 2, .mv (.t 5), none⟩] [1, 3, 4, 5])
 (.ret [2])))
def r_ref16_Over : List ARes := [.t 2]
def fn_ref16_Over : AFn := .code c_ref16_Over r_ref16_Over 6 true
def c_ref02_Into : ACode :=
 (.seq (.ops [] [⟨some 6, .mv (.c (.d (.int .i64 0))), none⟩] [6])
 (.seq (.seq (.ops [] [⟨some 7, .mv (.t 0), none⟩, ⟨some 8, .bin .lss (.t 7) (.c (.d (.int .i64 0))), none⟩, ⟨some 9, .mv (.t 8), none⟩, ⟨some 10, .mv (.t 0), some (9, false)⟩, ⟨some 11, .bin .geq (.t 10) (.c (.d (.int .i64 65536))), some (9, false)⟩, ⟨some 12, .pick (.t 9) (.c (.d (.bool true))) (.t 11), none⟩, ⟨some 13, .mv (.t 12), none⟩, ⟨some 14, .mv (.t 1), some (13, false)⟩, ⟨some 15, .bin .lss (.t 14) (.c (.d (.int .i64 0))), some (13, false)⟩, ⟨some 16, .pick (.t 13) (.c (.d (.bool true))) (.t 15), none⟩, ⟨some 17, .mv (.t 16), none⟩, ⟨some 18, .mv (.t 2), some (17, false)⟩, ⟨some 19, .bin .geq (.t 18) (.c (.d (.int .i64 65536))), some (17, false)⟩, ⟨some 20, .pick (.t 17) (.c (.d (.bool true))) (.t 19), none⟩, ⟨some 21, .mv (.t 20), none⟩, ⟨some 22, .mv (.t 1), some (21, false)⟩, ⟨some 23, .mv (.t 2), some (21, false)⟩, ⟨some 24, .bin .gtr (.t 22) (.t 23), some (21, false)⟩, ⟨some 25, .pick (.t 21) (.c (.d (.bool true))) (.t 24), none⟩] [7, 8, 9, 10, 11, 12, 13, 14, 15, 16, 17, 18, 19, 20, 21, 22, 23, 24])
 (.cond (.t 25) (.seq (.ops [] [⟨some 6, .mv (.c (.d (.int .i64 0))), none⟩] [0, 1, 2, 25])
 (.ret [6])) .skip))
 (.seq (.seq (.ops [] [⟨some 26, .mv (.t 0), none⟩, ⟨some 27, .mv (.t 1), none⟩, ⟨some 28, .bin .geq (.t 26) (.t 27), none⟩, ⟨some 29, .mv (.t 28), none⟩, ⟨some 30, .mv (.t 0), some (29, true)⟩, ⟨some 31, .mv (.t 2), some (29, true)⟩, ⟨some 32, .bin .leq (.t 30) (.t 31), some (29, true)⟩, ⟨some 33, .pick (.t 29) (.t 32) (.c (.d (.bool false))), none⟩] [25, 26, 27, 28, 29, 30, 31, 32])
 (.cond (.t 33) (.seq (.ops [] [⟨some 34, .mv (.t 0), none⟩, ⟨some 6, .mv (.t 34), none⟩] [0, 1, 2, 33, 34])
 (.ret [6])) .skip))
 (.seq (.ops [] [⟨some 35, .mv (.t 1), none⟩, ⟨some 36, .mv (.t 0), none⟩, ⟨some 37, .mv (.t 2), none⟩, ⟨some 38, .mv (.t 1), none⟩, ⟨some 39, .bin .sub (.t 37) (.t 38), none⟩, ⟨some 40, .bin .add (.t 39) (.c (.d (.int .i64 1))), none⟩, ⟨some 41, .bin .rem (.t 36) (.t 40), none⟩, ⟨some 42, .bin .add (.t 35) (.t 41), none⟩, ⟨some 6, .mv (.t 42), none⟩] [0, 1, 2, 33, 35, 36, 37, 38, 39, 40, 41, 42])
 (.ret [6])))))
def r_ref02_Into : List ARes := [.t 6]
def fn_ref02_Into : AFn := .code c_ref02_Into r_ref02_Into 43 true
def c_ref03_New : ACode :=
 (.seq (.ops [] [⟨some 10, .alloc (.d (.agg [.int .i64 0, .int .i64 0, .int .i64 0, .int .i64 0, .int .i64 0, .int .i64 0, .str []])), none⟩, ⟨some 11, .mv (.c (.d (.int .i64 0))), none⟩] [11])
 (.seq (.ops [] [⟨some 14, .mv (.t 0), none⟩, ⟨some 15, .mv (.t 1), none⟩, ⟨some 16, .mv (.t 2), none⟩, ⟨some 17, .mv (.t 3), none⟩, ⟨some 18, .mv (.t 4), none⟩, ⟨some 19, .build [.d (.int .i64 0), .d (.int .i64 0), .d (.int .i64 0), .d (.int .i64 0), .d (.int .i64 0), .d (.int .i64 0), .d (.str [])] [(0, (1, .t 14)), (1, (1, .t 15)), (2, (1, .t 16)), (5, (1, .t 17)), (6, (1, .t 18))], none⟩, ⟨some 12, .alloc (.d (.agg [.int .i64 0, .int .i64 0, .int .i64 0, .int .i64 0, .int .i64 0, .int .i64 0, .str []])), none⟩, ⟨none, .st 7 (.t 12) (.t 19), none⟩] [0, 1, 2, 3, 4, 14, 15, 16, 17, 18, 19])
 (.seq (.seq (.ops [] [⟨some 20, .ld true 7 (.t 12), none⟩, ⟨some 21, .call N_ref03_Validate [] [.t 20], none⟩, ⟨some 13, .mv (.t 21), none⟩] [20, 21])
 (.seq (.ops [] [⟨some 22, .mv (.t 13), none⟩, ⟨some 23, .bin .neq (.t 22) (.c (.d (.int .i64 0))), none⟩] [22])
 (.cond (.t 23) (.seq (.ops [] [⟨some 24, .build [.d (.int .i64 0), .d (.int .i64 0), .d (.int .i64 0), .d (.int .i64 0), .d (.int .i64 0), .d (.int .i64 0), .d (.str [])] [], none⟩, ⟨some 25, .mv (.t 13), none⟩, ⟨none, .st 7 (.t 10) (.t 24), none⟩, ⟨some 11, .mv (.t 25), none⟩] [12, 13, 23, 24, 25])
 (.ret [10, 11])) .skip)))
 (.seq (.ops [] [⟨some 26, .ld true 7 (.t 12), none⟩, ⟨none, .st 7 (.t 10) (.t 26), none⟩, ⟨some 11, .mv (.c (.d (.int .i64 0))), none⟩] [12, 13, 23, 26])
 (.ret [10, 11])))))
def r_ref03_New : List ARes := [.c 10 true 7, .t 11]
def fn_ref03_New : AFn := .code c_ref03_New r_ref03_New 27 true
def c_ref07_Put : ACode :=
 (.seq (.ops [] [⟨some 2, .box (.t 0), none⟩, ⟨some 3, .box (.t 1), none⟩, ⟨some 4, .alloc (.agg [.d (.bool false), .d (.int .i64 0), .d (.int .i64 0), .xsl [], .d (.int .i64 0), .d (.int .i64 0), .xsl [], .xsl []]), none⟩, ⟨some 5, .mv (.c (.d (.int .i64 0))), none⟩] [0, 1, 5])
 (.seq (.seq (.ops [] [⟨some 8, .ld true 8 (.t 2), none⟩, ⟨some 9, .call N_ref07_Live [] [.t 8], none⟩, ⟨some 6, .mv (.t 9), none⟩] [8, 9])
 (.seq (.ops [] [⟨some 10, .mv (.t 6), none⟩, ⟨some 11, .bin .neq (.t 10) (.c (.d (.int .i64 0))), none⟩] [10])
 (.cond (.t 11) (.seq (.ops [] [⟨some 12, .build [.d (.bool false), .d (.int .i64 0), .d (.int .i64 0), .xsl [], .d (.int .i64 0), .d (.int .i64 0), .xsl [], .xsl []] [], none⟩, ⟨some 13, .mv (.t 6), none⟩, ⟨none, .st 8 (.t 4) (.t 12), none⟩, ⟨some 5, .mv (.t 13), none⟩] [2, 3, 6, 11, 12, 13])
 (.ret [4, 5])) .skip)))
 (.seq (.seq (.ops [] [⟨some 14, .ld true 7 (.t 3), none⟩, ⟨some 15, .call N_ref03_Validate [] [.t 14], none⟩, ⟨some 7, .mv (.t 15), none⟩] [6, 11, 14, 15])
 (.seq (.ops [] [⟨some 16, .mv (.t 7), none⟩, ⟨some 17, .bin .neq (.t 16) (.c (.d (.int .i64 0))), none⟩] [16])
 (.cond (.t 17) (.seq (.ops [] [⟨some 18, .build [.d (.bool false), .d (.int .i64 0), .d (.int .i64 0), .xsl [], .d (.int .i64 0), .d (.int .i64 0), .xsl [], .xsl []] [], none⟩, ⟨some 19, .mv (.t 7), none⟩, ⟨none, .st 8 (.t 4) (.t 18), none⟩, ⟨some 5, .mv (.t 19), none⟩] [2, 3, 7, 17, 18, 19])
 (.ret [4, 5])) .skip)))
 (.seq (.block 0 (.seq (.ops [] [⟨some 21, .fad false 1 1 (.t 3), none⟩, ⟨some 22, .ld false 1 (.t 21), none⟩, ⟨some 23, .fad false 1 1 (.t 2), none⟩, ⟨some 24, .ld false 1 (.t 23), none⟩, ⟨some 25, .bin .lss (.t 22) (.t 24), none⟩, ⟨some 26, .mv (.t 25), none⟩, ⟨some 27, .fad false 1 1 (.t 3), some (26, false)⟩, ⟨some 28, .ld false 1 (.t 27), some (26, false)⟩, ⟨some 29, .fad false 2 1 (.t 2), some (26, false)⟩, ⟨some 30, .ld false 1 (.t 29), some (26, false)⟩, ⟨some 31, .bin .gtr (.t 28) (.t 30), some (26, false)⟩, ⟨some 32, .pick (.t 26) (.c (.d (.bool true))) (.t 31), none⟩, ⟨some 20, .mv (.t 32), none⟩] [7, 17, 21, 22, 23, 24, 25, 26, 27, 28, 29, 30, 31, 32])
 (.cond (.t 20) (.seq (.ops [] [⟨some 33, .build [.d (.bool false), .d (.int .i64 0), .d (.int .i64 0), .xsl [], .d (.int .i64 0), .d (.int .i64 0), .xsl [], .xsl []] [], none⟩, ⟨none, .st 8 (.t 4) (.t 33), none⟩, ⟨some 5, .mv (.c (.d (.int .i64 12))), none⟩] [2, 3, 20, 33])
 (.ret [4, 5])) (.seq (.draw [] [⟨some 35, .ld true 8 (.t 2), none⟩, ⟨some 36, .call N_ref07_Stored [] [.t 35], none⟩, ⟨some 37, .fad true 3 3 (.t 2), none⟩, ⟨some 38, .fad false 0 1 (.t 37), none⟩, ⟨some 39, .ld false 1 (.t 38), none⟩, ⟨some 40, .len (.t 39), none⟩, ⟨some 41, .bin .eql (.t 36) (.t 40), none⟩, ⟨some 34, .mv (.t 41), none⟩] [[], [], [0, 1], [0, 1], [0, 1], [0, 1], [], []] [20, 35, 36, 37, 38, 39, 40, 41])
 (.cond (.t 34) (.seq (.ops [] [⟨some 42, .build [.d (.bool false), .d (.int .i64 0), .d (.int .i64 0), .xsl [], .d (.int .i64 0), .d (.int .i64 0), .xsl [], .xsl []] [], none⟩, ⟨none, .st 8 (.t 4) (.t 42), none⟩, ⟨some 5, .mv (.c (.d (.int .i64 3))), none⟩] [2, 3, 34, 42])
 (.ret [4, 5])) (.seq (.draw [] [⟨some 44, .ld true 8 (.t 2), none⟩, ⟨some 45, .call N_ref07_All [false, true] [.t 44], none⟩, ⟨some 46, .fad false 0 1 (.t 3), none⟩, ⟨some 47, .ld false 1 (.t 46), none⟩, ⟨some 48, .call N_ref03_Index [] [.t 45, .t 47], none⟩, ⟨some 49, .bin .geq (.t 48) (.c (.d (.int .i64 0))), none⟩, ⟨some 43, .mv (.t 49), none⟩] [[], [], [0, 1], [0, 1], [], [], []] [34, 44, 45, 46, 47, 48, 49])
 (.cond (.t 43) (.seq (.ops [] [⟨some 50, .build [.d (.bool false), .d (.int .i64 0), .d (.int .i64 0), .xsl [], .d (.int .i64 0), .d (.int .i64 0), .xsl [], .xsl []] [], none⟩, ⟨none, .st 8 (.t 4) (.t 50), none⟩, ⟨some 5, .mv (.c (.d (.int .i64 10))), none⟩] [2, 3, 43, 50])
 (.ret [4, 5])) .skip)))))))
 (.seq (.ops [] [⟨some 52, .fad true 3 3 (.t 2), none⟩, ⟨some 53, .ld true 3 (.t 52), none⟩, ⟨some 54, .ld true 7 (.t 3), none⟩, ⟨some 55, .call N_ref04_PushBack [false, false, true] [.t 53, .t 54], none⟩, ⟨some 51, .mv (.t 55), none⟩, ⟨some 56, .ext (.t 51) 0, none⟩, ⟨some 57, .ext (.t 51) 1, none⟩, ⟨some 58, .fad true 3 3 (.t 2), none⟩, ⟨none, .st 3 (.t 58) (.t 56), none⟩] [3, 43, 51, 52, 53, 54, 55, 56, 57, 58])
 (.seq (.ops [] [⟨some 59, .ld true 8 (.t 2), none⟩, ⟨none, .st 8 (.t 4) (.t 59), none⟩, ⟨some 5, .mv (.c (.d (.int .i64 0))), none⟩] [2, 59])
 (.ret [4, 5])))))))
def r_ref07_Put : List ARes := [.c 4 true 8, .t 5]
def fn_ref07_Put : AFn := .code c_ref07_Put r_ref07_Put 60 true
def c_ref04_PushBack : ACode :=
 (.seq (.ops [] [⟨some 2, .box (.t 0), none⟩, ⟨some 3, .box (.t 1), none⟩, ⟨some 4, .alloc (.agg [.xsl [], .d (.int .i64 0), .d (.int .i64 0)]), none⟩, ⟨some 5, .mv (.c (.d (.int .i64 0))), none⟩] [0, 1, 5])
 (.seq (.seq (.ops [] [⟨some 7, .ld true 3 (.t 2), none⟩, ⟨some 8, .ld true 7 (.t 3), none⟩, ⟨some 9, .call N_ref04_pushable [] [.t 7, .t 8], none⟩, ⟨some 6, .mv (.t 9), none⟩] [7, 8, 9])
 (.seq (.ops [] [⟨some 10, .mv (.t 6), none⟩, ⟨some 11, .bin .neq (.t 10) (.c (.d (.int .i64 0))), none⟩] [10])
 (.cond (.t 11) (.seq (.ops [] [⟨some 12, .build [.xsl [], .d (.int .i64 0), .d (.int .i64 0)] [], none⟩, ⟨some 13, .mv (.t 6), none⟩, ⟨none, .st 3 (.t 4) (.t 12), none⟩, ⟨some 5, .mv (.t 13), none⟩] [2, 3, 6, 11, 12, 13])
 (.ret [4, 5])) .skip)))
 (.seq (.draw [] [⟨some 14, .ld true 3 (.t 2), none⟩, ⟨some 15, .fad false 1 1 (.t 2), none⟩, ⟨some 16, .ld false 1 (.t 15), none⟩, ⟨some 17, .ld true 3 (.t 2), none⟩, ⟨some 18, .call N_ref04_order [false, true] [.t 17], none⟩, ⟨some 19, .ld true 7 (.t 3), none⟩, ⟨some 20, .bsl 1 7 (.d (.agg [.int .i64 0, .int .i64 0, .int .i64 0, .int .i64 0, .int .i64 0, .int .i64 0, .str []])) [(0, .t 19)], none⟩, ⟨some 21, .app 7 (.t 18) (.t 20), none⟩, ⟨some 22, .call N_ref04_with [false, false, false, true] [.t 14, .t 16, .t 21], none⟩, ⟨none, .st 3 (.t 4) (.t 22), none⟩, ⟨some 5, .mv (.c (.d (.int .i64 0))), none⟩] [[], [0], [0], [0, 1, 2], [0, 1, 2], [0, 1, 2, 3, 4], [0, 1, 2, 3, 4], [0, 1, 2], [], [], []] [2, 3, 6, 11, 14, 15, 16, 17, 18, 19, 20, 21, 22])
 (.ret [4, 5]))))
def r_ref04_PushBack : List ARes := [.c 4 true 3, .t 5]
def fn_ref04_PushBack : AFn := .code c_ref04_PushBack r_ref04_PushBack 23 true
def c_ref04_pushable : ACode :=
 (.seq (.ops [] [⟨some 2, .box (.t 0), none⟩, ⟨some 3, .box (.t 1), none⟩, ⟨some 4, .mv (.c (.d (.int .i64 0))), none⟩] [0, 1, 4])
 (.seq (.seq (.ops [] [⟨some 7, .ld true 3 (.t 2), none⟩, ⟨some 8, .call N_ref04_Validate [] [.t 7], none⟩, ⟨some 5, .mv (.t 8), none⟩] [7, 8])
 (.seq (.ops [] [⟨some 9, .mv (.t 5), none⟩, ⟨some 10, .bin .neq (.t 9) (.c (.d (.int .i64 0))), none⟩] [9])
 (.cond (.t 10) (.seq (.ops [] [⟨some 11, .mv (.t 5), none⟩, ⟨some 4, .mv (.t 11), none⟩] [2, 3, 5, 10, 11])
 (.ret [4])) .skip)))
 (.seq (.seq (.ops [] [⟨some 12, .ld true 7 (.t 3), none⟩, ⟨some 13, .call N_ref03_Validate [] [.t 12], none⟩, ⟨some 6, .mv (.t 13), none⟩] [5, 10, 12, 13])
 (.seq (.ops [] [⟨some 14, .mv (.t 6), none⟩, ⟨some 15, .bin .neq (.t 14) (.c (.d (.int .i64 0))), none⟩] [14])
 (.cond (.t 15) (.seq (.ops [] [⟨some 16, .mv (.t 6), none⟩, ⟨some 4, .mv (.t 16), none⟩] [2, 3, 6, 15, 16])
 (.ret [4])) .skip)))
 (.seq (.seq (.ops [] [⟨some 17, .fad false 2 1 (.t 2), none⟩, ⟨some 18, .ld false 1 (.t 17), none⟩, ⟨some 19, .fad false 0 1 (.t 2), none⟩, ⟨some 20, .ld false 1 (.t 19), none⟩, ⟨some 21, .len (.t 20), none⟩, ⟨some 22, .bin .eql (.t 18) (.t 21), none⟩] [6, 15, 17, 18, 19, 20, 21])
 (.cond (.t 22) (.seq (.ops [] [⟨some 4, .mv (.c (.d (.int .i64 3))), none⟩] [2, 3, 22])
 (.ret [4])) .skip))
 (.seq (.seq (.draw [] [⟨some 23, .ld true 3 (.t 2), none⟩, ⟨some 24, .call N_ref04_order [false, true] [.t 23], none⟩, ⟨some 25, .fad false 0 1 (.t 3), none⟩, ⟨some 26, .ld false 1 (.t 25), none⟩, ⟨some 27, .call N_ref03_Index [] [.t 24, .t 26], none⟩, ⟨some 28, .bin .geq (.t 27) (.c (.d (.int .i64 0))), none⟩] [[], [], [0, 1], [0, 1], [], []] [2, 3, 22, 23, 24, 25, 26, 27])
 (.cond (.t 28) (.seq (.ops [] [⟨some 4, .mv (.c (.d (.int .i64 10))), none⟩] [28])
 (.ret [4])) .skip))
 (.seq (.ops [] [⟨some 4, .mv (.c (.d (.int .i64 0))), none⟩] [28])
 (.ret [4])))))))
def r_ref04_pushable : List ARes := [.t 4]
def fn_ref04_pushable : AFn := .code c_ref04_pushable r_ref04_pushable 29 true
def l_ref04_with_0 : ACode :=
 (.seq (.seq (.ops [] [⟨some 17, .mv (.t 8), none⟩, ⟨some 18, .mv (.t 2), none⟩, ⟨some 19, .len (.t 18), none⟩, ⟨some 20, .bin .lss (.t 17) (.t 19), none⟩] [17, 18, 19])
 (.cond (.t 20) .skip (.exit 0 [6, 7])))
 (.seq (.block 1 (.draw [] [⟨some 23, .fad false 0 1 (.t 7), none⟩, ⟨some 24, .ld false 1 (.t 23), none⟩, ⟨some 25, .mv (.t 1), none⟩, ⟨some 26, .mv (.t 8), none⟩, ⟨some 27, .bin .add (.t 25) (.t 26), none⟩, ⟨some 28, .fad false 0 1 (.t 7), none⟩, ⟨some 29, .ld false 1 (.t 28), none⟩, ⟨some 30, .len (.t 29), none⟩, ⟨some 31, .bin .rem (.t 27) (.t 30), none⟩, ⟨some 32, .mv (.t 2), none⟩, ⟨some 33, .mv (.t 8), none⟩, ⟨some 34, .iad 7 (.t 32) (.t 33), none⟩, ⟨some 35, .ld true 7 (.t 34), none⟩, ⟨some 36, .iad 7 (.t 24) (.t 31), none⟩, ⟨none, .st 7 (.t 36) (.t 35), none⟩] [[], [], [0, 1], [0, 1, 2], [0, 1], [0, 1, 2, 3, 4], [0, 1, 2, 3, 4], [0, 1, 2, 3, 4], [0, 1], [0, 1, 2, 3, 4, 5, 6, 7, 8], [0, 1, 2, 3, 4, 5, 6, 7, 8, 9], [0, 1, 2, 3, 4, 5, 6, 7, 8], [0, 1, 2, 3, 4, 5, 6, 7, 8], [], []] [20, 23, 24, 25, 26, 27, 28, 29, 30, 31, 32, 33, 34, 35, 36]))
 (.ops [] [⟨some 21, .mv (.t 8), none⟩, ⟨some 22, .bin .add (.t 21) (.c (.d (.int .i64 1))), none⟩, ⟨some 8, .mv (.t 22), none⟩] [21, 22])))
def c_ref04_with : ACode :=
 (.seq (.ops [] [⟨some 3, .box (.t 0), none⟩, ⟨some 6, .alloc (.agg [.xsl [], .d (.int .i64 0), .d (.int .i64 0)]), none⟩] [0])
 (.seq (.ops [] [⟨some 9, .fad false 0 1 (.t 3), none⟩, ⟨some 10, .ld false 1 (.t 9), none⟩, ⟨some 11, .len (.t 10), none⟩, ⟨some 12, .mks 7 (.d (.agg [.int .i64 0, .int .i64 0, .int .i64 0, .int .i64 0, .int .i64 0, .int .i64 0, .str []])) (.t 11) (.t 11), none⟩, ⟨some 13, .mv (.t 1), none⟩, ⟨some 14, .mv (.t 2), none⟩, ⟨some 15, .len (.t 14), none⟩, ⟨some 16, .build [.xsl [], .d (.int .i64 0), .d (.int .i64 0)] [(0, (1, .t 12)), (1, (1, .t 13)), (2, (1, .t 15))], none⟩, ⟨some 7, .alloc (.agg [.xsl [], .d (.int .i64 0), .d (.int .i64 0)]), none⟩, ⟨none, .st 3 (.t 7) (.t 16), none⟩] [3, 9, 10, 11, 12, 13, 14, 15, 16])
 (.seq (.seq (.ops [] [⟨some 8, .mv (.c (.d (.int .i64 0))), none⟩] [])
 (.block 0 (.loop [] l_ref04_with_0)))
 (.seq (.ops [] [⟨some 37, .ld true 3 (.t 7), none⟩, ⟨none, .st 3 (.t 6) (.t 37), none⟩] [1, 2, 7, 8, 20, 37])
 (.ret [6])))))
def r_ref04_with : List ARes := [.c 6 true 3]
def fn_ref04_with : AFn := .code c_ref04_with r_ref04_with 38 true
def c_ref19_Step : ACode :=
 (.seq (.ops [] [⟨some 3, .box (.t 0), none⟩, ⟨some 4, .box (.t 1), none⟩, ⟨some 6, .alloc (.agg [.xsl [], .xsl [], .d (.int .i64 0), .d (.int .i64 0), .xsl [], .d (.int .i64 0), .xsl [], .xsl [], .d (.int .i64 0), .d (.int .i64 0), .d (.int .i64 0)]), none⟩, ⟨some 7, .alloc (.agg [.d (.int .i64 0), .d (.int .i64 0), .d (.int .i64 0), .d (.int .i64 0), .d (.int .i64 0), .d (.int .i64 0), .d (.int .i64 0), .xsl [], .xsl [], .d (.int .i64 0), .d (.bool false), .d (.int .i64 0), .d (.int .i64 0), .d (.int .i64 0), .xsl [], .d (.int .i64 0), .d (.int .i64 0), .d (.int .i64 0), .d (.int .i64 0), .d (.int .i64 0), .d (.int .i64 0), .d (.int .i64 0), .d (.int .i64 0), .d (.int .i64 0), .d (.int .i64 0), .xsl [], .d (.int .i64 0), .d (.int .i64 0), .d (.int .i64 0), .d (.int .i64 0), .d (.int .i64 0), .d (.int .i64 0), .d (.int .i64 0), .d (.int .i64 0), .xsl [], .d (.int .i64 0), .xsl [], .xsl [], .d (.int .i64 0), .xsl [], .xsl [], .xsl [], .d (.int .i64 0), .xsl [], .xsl [], .xsl [], .xsl [], .d (.int .i64 0), .xsl [], .d (.int .i64 0), .xsl [], .xsl [], .d (.int .i64 0), .d (.int .i64 0), .d (.int .i64 0), .d (.int .i64 0), .d (.int .i64 0), .d (.int .i64 0), .d (.int .i64 0), .d (.int .i64 0), .d (.int .i64 0), .xsl [], .xsl []]), none⟩, ⟨some 8, .mv (.c (.xsl [])), none⟩, ⟨some 9, .mv (.c (.d (.int .i64 0))), none⟩] [0, 1, 8, 9])
 (.seq (.seq (.ops [] [⟨some 19, .ld true 63 (.t 4), none⟩, ⟨some 20, .call N_ref18_Guard [] [.t 19, .c (.d (.int .i64 2)), .c (.d (.int .i64 2))], none⟩, ⟨some 10, .mv (.t 20), none⟩] [19, 20])
 (.seq (.ops [] [⟨some 21, .mv (.t 10), none⟩, ⟨some 22, .bin .neq (.t 21) (.c (.d (.int .i64 0))), none⟩] [21])
 (.cond (.t 22) (.seq (.ops [] [⟨some 23, .mv (.t 10), none⟩, ⟨some 24, .call N_ref18_Fail [false, true] [.t 23], none⟩, ⟨some 25, .ext (.t 24) 0, none⟩, ⟨some 26, .ext (.t 24) 1, none⟩, ⟨some 27, .ext (.t 24) 2, none⟩, ⟨some 28, .ext (.t 24) 3, none⟩, ⟨none, .st 11 (.t 6) (.t 25), none⟩, ⟨none, .st 63 (.t 7) (.t 26), none⟩, ⟨some 8, .mv (.t 27), none⟩, ⟨some 9, .mv (.t 28), none⟩] [2, 3, 4, 10, 22, 23, 24, 25, 26, 27, 28])
 (.ret [6, 7, 8, 9])) .skip)))
 (.seq (.seq (.ops [] [⟨some 29, .fad false 12 1 (.t 4), none⟩, ⟨some 30, .ld false 1 (.t 29), none⟩] [10, 22, 29])
 (.block 0 (.seq (.ops [] [⟨some 32, .bin .eql (.t 30) (.c (.d (.int .i64 0))), none⟩, ⟨some 31, .mv (.t 32), none⟩] [32])
 (.cond (.t 31) (.seq (.ops [] [⟨some 33, .ld true 11 (.t 3), none⟩, ⟨some 34, .call N_ref12_LoadDir [false, true] [.t 33], none⟩, ⟨some 35, .fad true 49 3 (.t 4), none⟩, ⟨none, .st 3 (.t 35) (.t 34), none⟩] [2, 30, 31, 33, 34, 35])
 (.seq (.ops [] [⟨some 36, .fad true 49 3 (.t 4), none⟩, ⟨some 37, .ld true 3 (.t 36), none⟩, ⟨some 38, .fad true 1 8 (.t 4), none⟩, ⟨some 39, .fad false 1 1 (.t 38), none⟩, ⟨some 40, .ld false 1 (.t 39), none⟩, ⟨some 41, .call N_ref19_Home [] [.t 37, .t 40], none⟩, ⟨some 42, .fad false 54 1 (.t 4), none⟩, ⟨none, .st 1 (.t 42) (.t 41), none⟩] [36, 37, 38, 39, 40, 41, 42])
 (.seq (.ops [] [⟨some 44, .fad true 49 3 (.t 4), none⟩, ⟨some 45, .ld true 3 (.t 44), none⟩, ⟨some 46, .fad false 54 1 (.t 4), none⟩, ⟨some 47, .ld false 1 (.t 46), none⟩, ⟨some 48, .call N_ref10_Span [] [.t 45, .t 47], none⟩, ⟨some 43, .mv (.t 48), none⟩, ⟨some 49, .ext (.t 43) 0, none⟩, ⟨some 50, .ext (.t 43) 1, none⟩, ⟨some 11, .alloc (.d (.agg [.int .i64 0, .int .i64 0, .int .i64 0])), none⟩, ⟨none, .st 3 (.t 11) (.t 49), none⟩, ⟨some 12, .mv (.t 50), none⟩] [12, 43, 44, 45, 46, 47, 48, 49, 50])
 (.seq (.ops [] [⟨some 52, .fad false 0 1 (.t 11), none⟩, ⟨some 53, .ld false 1 (.t 52), none⟩, ⟨some 54, .call N_ref16_Begin [] [.t 53], none⟩, ⟨some 51, .mv (.t 54), none⟩, ⟨some 55, .ext (.t 51) 0, none⟩, ⟨some 56, .ext (.t 51) 1, none⟩, ⟨some 57, .fad true 52 2 (.t 4), none⟩, ⟨none, .st 2 (.t 57) (.t 55), none⟩] [11, 51, 52, 53, 54, 55, 56, 57])
 (.seq (.draw [] [⟨some 58, .ld true 11 (.t 3), none⟩, ⟨some 59, .ld true 63 (.t 4), none⟩, ⟨some 60, .fad false 54 1 (.t 4), none⟩, ⟨some 61, .ld false 1 (.t 60), none⟩, ⟨some 62, .bsl 1 1 (.d (.int .i64 0)) [(0, .t 61)], none⟩, ⟨some 63, .call N_ref18_Section [false, false, false, true] [.t 59, .t 62, .c (.d (.int .i64 1))], none⟩, ⟨none, .st 11 (.t 6) (.t 58), none⟩, ⟨none, .st 63 (.t 7) (.t 63), none⟩, ⟨some 8, .mv (.c (.xsl [])), none⟩, ⟨some 9, .mv (.c (.d (.int .i64 0))), none⟩] [[], [0], [0, 1], [0, 1], [0, 1], [0], [], [], [], []] [3, 4, 58, 59, 60, 61, 62, 63])
 (.ret [6, 7, 8, 9])))))) (.seq (.ops [] [⟨some 65, .bin .eql (.t 30) (.c (.d (.int .i64 2))), none⟩, ⟨some 64, .mv (.t 65), none⟩] [30, 31, 65])
 (.cond (.t 64) (.seq (.draw [] [⟨some 66, .ld true 11 (.t 3), none⟩, ⟨some 67, .ld true 11 (.t 3), none⟩, ⟨some 68, .ld true 63 (.t 4), none⟩, ⟨some 69, .fad true 52 2 (.t 4), none⟩, ⟨some 70, .fad false 0 1 (.t 69), none⟩, ⟨some 71, .ld false 1 (.t 70), none⟩, ⟨some 72, .call N_ref18_Look [false, false, false, false, true] [.t 67, .t 68, .t 71, .c (.d (.int .i64 1))], none⟩, ⟨none, .st 11 (.t 6) (.t 66), none⟩, ⟨none, .st 63 (.t 7) (.t 72), none⟩, ⟨some 8, .mv (.c (.xsl [])), none⟩, ⟨some 9, .mv (.c (.d (.int .i64 0))), none⟩] [[], [0], [0, 1], [0, 1, 2], [0, 1, 2], [0, 1, 2], [0], [], [], [], []] [2, 3, 4, 64, 66, 67, 68, 69, 70, 71, 72])
 (.ret [6, 7, 8, 9])) .skip))))))
 (.seq (.ops [] [⟨some 74, .ld true 11 (.t 3), none⟩, ⟨some 75, .ld true 63 (.t 4), none⟩, ⟨some 76, .mv (.t 2), none⟩, ⟨some 77, .call N_ref18_Go [false, false, false, true] [.t 74, .t 75, .t 76], none⟩, ⟨some 73, .mv (.t 77), none⟩, ⟨some 78, .ext (.t 73) 0, none⟩, ⟨some 79, .ext (.t 73) 1, none⟩, ⟨some 80, .ext (.t 73) 2, none⟩, ⟨some 81, .ext (.t 73) 3, none⟩, ⟨some 82, .ext (.t 73) 4, none⟩, ⟨some 13, .alloc (.agg [.xsl [], .xsl [], .d (.int .i64 0), .d (.int .i64 0), .xsl [], .d (.int .i64 0), .xsl [], .xsl [], .d (.int .i64 0), .d (.int .i64 0), .d (.int .i64 0)]), none⟩, ⟨none, .st 11 (.t 13) (.t 78), none⟩, ⟨none, .st 63 (.t 4) (.t 79), none⟩, ⟨some 14, .mv (.t 80), none⟩, ⟨some 15, .mv (.t 81), none⟩, ⟨some 16, .mv (.t 82), none⟩] [3, 64, 73, 74, 75, 76, 77, 78, 79, 80, 81, 82])
 (.seq (.seq (.ops [] [⟨some 83, .mv (.t 16), none⟩, ⟨some 84, .bin .neq (.t 83) (.c (.d (.int .i64 0))), none⟩] [83])
 (.cond (.t 84) (.seq (.ops [] [⟨some 85, .mv (.t 16), none⟩, ⟨some 86, .call N_ref18_Fail [false, true] [.t 85], none⟩, ⟨some 87, .ext (.t 86) 0, none⟩, ⟨some 88, .ext (.t 86) 1, none⟩, ⟨some 89, .ext (.t 86) 2, none⟩, ⟨some 90, .ext (.t 86) 3, none⟩, ⟨none, .st 11 (.t 6) (.t 87), none⟩, ⟨none, .st 63 (.t 7) (.t 88), none⟩, ⟨some 8, .mv (.t 89), none⟩, ⟨some 9, .mv (.t 90), none⟩] [2, 4, 13, 14, 15, 16, 84, 85, 86, 87, 88, 89, 90])
 (.ret [6, 7, 8, 9])) .skip))
 (.seq (.seq (.ops [] [⟨some 91, .mv (.t 14), none⟩] [14, 16, 84])
 (.cond (.t 91) (.seq (.ops [] [⟨some 93, .ld true 63 (.t 4), none⟩, ⟨some 94, .call N_ref19_decide [false, true] [.t 93], none⟩, ⟨some 92, .mv (.t 94), none⟩, ⟨some 95, .ext (.t 92) 0, none⟩, ⟨some 96, .ext (.t 92) 1, none⟩, ⟨some 17, .alloc (.agg [.d (.int .i64 0), .d (.int .i64 0), .d (.int .i64 0), .d (.int .i64 0), .d (.int .i64 0), .d (.int .i64 0), .d (.int .i64 0), .xsl [], .xsl [], .d (.int .i64 0), .d (.bool false), .d (.int .i64 0), .d (.int .i64 0), .d (.int .i64 0), .xsl [], .d (.int .i64 0), .d (.int .i64 0), .d (.int .i64 0), .d (.int .i64 0), .d (.int .i64 0), .d (.int .i64 0), .d (.int .i64 0), .d (.int .i64 0), .d (.int .i64 0), .d (.int .i64 0), .xsl [], .d (.int .i64 0), .d (.int .i64 0), .d (.int .i64 0), .d (.int .i64 0), .d (.int .i64 0), .d (.int .i64 0), .d (.int .i64 0), .d (.int .i64 0), .xsl [], .d (.int .i64 0), .xsl [], .xsl [], .d (.int .i64 0), .xsl [], .xsl [], .xsl [], .d (.int .i64 0), .xsl [], .xsl [], .xsl [], .xsl [], .d (.int .i64 0), .xsl [], .d (.int .i64 0), .xsl [], .xsl [], .d (.int .i64 0), .d (.int .i64 0), .d (.int .i64 0), .d (.int .i64 0), .d (.int .i64 0), .d (.int .i64 0), .d (.int .i64 0), .d (.int .i64 0), .d (.int .i64 0), .xsl [], .xsl []]), none⟩, ⟨none, .st 63 (.t 17) (.t 95), none⟩, ⟨some 18, .mv (.t 96), none⟩] [2, 4, 15, 91, 92, 93, 94, 95, 96])
 (.seq (.draw [] [⟨some 97, .ld true 11 (.t 13), none⟩, ⟨some 98, .ld true 63 (.t 17), none⟩, ⟨some 99, .mv (.t 18), none⟩, ⟨none, .st 11 (.t 6) (.t 97), none⟩, ⟨none, .st 63 (.t 7) (.t 98), none⟩, ⟨some 8, .mv (.t 99), none⟩, ⟨some 9, .mv (.c (.d (.int .i64 0))), none⟩] [[], [0], [0, 1], [1, 2], [2], [], []] [13, 17, 18, 97, 98, 99])
 (.ret [6, 7, 8, 9]))) .skip))
 (.seq (.seq (.ops [] [⟨some 100, .mv (.t 15), none⟩, ⟨some 101, .un .not (.t 100), none⟩] [15, 91, 100])
 (.cond (.t 101) (.seq (.draw [] [⟨some 102, .ld true 11 (.t 13), none⟩, ⟨some 103, .ld true 63 (.t 4), none⟩, ⟨none, .st 11 (.t 6) (.t 102), none⟩, ⟨none, .st 63 (.t 7) (.t 103), none⟩, ⟨some 8, .mv (.c (.xsl [])), none⟩, ⟨some 9, .mv (.c (.d (.int .i64 0))), none⟩] [[], [0], [1], [], [], []] [2, 4, 13, 101, 102, 103])
 (.ret [6, 7, 8, 9])) .skip))
 (.seq (.seq (.ops [] [⟨some 104, .fad false 60 1 (.t 4), none⟩, ⟨some 105, .ld false 1 (.t 104), none⟩] [101, 104])
 (.block 1 (.seq (.ops [] [⟨some 107, .bin .eql (.t 105) (.c (.d (.int .i64 3))), none⟩, ⟨some 106, .mv (.t 107), none⟩] [107])
 (.cond (.t 106) (.seq (.draw [] [⟨some 108, .ld true 11 (.t 13), none⟩, ⟨some 109, .ld true 63 (.t 4), none⟩, ⟨some 110, .build [.d (.int .i64 0), .d (.int .i64 0), .xsl [], .xsl [], .d (.int .i64 0), .d (.int .i64 0), .d (.int .i64 0)] [(0, (1, .c (.d (.int .i64 6))))], none⟩, ⟨some 111, .mv (.t 2), none⟩, ⟨some 112, .call N_ref17_Next [false, false, false, true] [.t 109, .t 110, .t 111], none⟩, ⟨none, .st 11 (.t 6) (.t 108), none⟩, ⟨none, .st 63 (.t 7) (.t 112), none⟩, ⟨some 8, .mv (.c (.xsl [])), none⟩, ⟨some 9, .mv (.c (.d (.int .i64 0))), none⟩] [[], [0], [0, 1], [0, 1, 2], [0], [], [], [], []] [2, 4, 13, 105, 106, 108, 109, 110, 111, 112])
 (.ret [6, 7, 8, 9])) (.seq (.ops [] [⟨some 114, .bin .eql (.t 105) (.c (.d (.int .i64 2))), none⟩, ⟨some 113, .mv (.t 114), none⟩] [106, 114])
 (.cond (.t 113) (.seq (.draw [] [⟨some 115, .ld true 11 (.t 13), none⟩, ⟨some 116, .ld true 63 (.t 4), none⟩, ⟨some 117, .build [.d (.int .i64 0), .d (.int .i64 0), .xsl [], .xsl [], .d (.int .i64 0), .d (.int .i64 0), .d (.int .i64 0)] [], none⟩, ⟨some 118, .mv (.t 2), none⟩, ⟨some 119, .call N_ref17_Next [false, false, false, true] [.t 116, .t 117, .t 118], none⟩, ⟨none, .st 11 (.t 6) (.t 115), none⟩, ⟨none, .st 63 (.t 7) (.t 119), none⟩, ⟨some 8, .mv (.c (.xsl [])), none⟩, ⟨some 9, .mv (.c (.d (.int .i64 0))), none⟩] [[], [0], [0, 1], [0, 1, 2], [0], [], [], [], []] [2, 4, 13, 105, 113, 115, 116, 117, 118, 119])
 (.ret [6, 7, 8, 9])) (.seq (.ops [] [⟨some 121, .bin .eql (.t 105) (.c (.d (.int .i64 1))), none⟩, ⟨some 120, .mv (.t 121), none⟩] [105, 113, 121])
 (.cond (.t 120) (.seq (.draw [] [⟨some 122, .ld true 11 (.t 13), none⟩, ⟨some 123, .ld true 63 (.t 4), none⟩, ⟨some 124, .ld true 63 (.t 4), none⟩, ⟨some 125, .call N_ref19_result [false, true] [.t 124], none⟩, ⟨some 126, .mv (.t 2), none⟩, ⟨some 127, .call N_ref17_Next [false, false, false, true] [.t 123, .t 125, .t 126], none⟩, ⟨none, .st 11 (.t 6) (.t 122), none⟩, ⟨none, .st 63 (.t 7) (.t 127), none⟩, ⟨some 8, .mv (.c (.xsl [])), none⟩, ⟨some 9, .mv (.c (.d (.int .i64 0))), none⟩] [[], [0], [0, 1], [0, 1], [0, 1, 2, 3], [0], [], [], [], []] [2, 4, 13, 120, 122, 123, 124, 125, 126, 127])
 (.ret [6, 7, 8, 9])) .skip))))))))
 (.seq (.ops [] [⟨some 128, .fad false 12 1 (.t 4), none⟩, ⟨none, .st 1 (.t 128) (.c (.d (.int .i64 2))), none⟩] [2, 120, 128])
 (.seq (.draw [] [⟨some 129, .ld true 11 (.t 13), none⟩, ⟨some 130, .ld true 63 (.t 4), none⟩, ⟨none, .st 11 (.t 6) (.t 129), none⟩, ⟨none, .st 63 (.t 7) (.t 130), none⟩, ⟨some 8, .mv (.c (.xsl [])), none⟩, ⟨some 9, .mv (.c (.d (.int .i64 0))), none⟩] [[], [0], [1], [], [], []] [4, 13, 129, 130])
 (.ret [6, 7, 8, 9])))))))))))
def r_ref19_Step : List ARes := [.c 6 true 11, .c 7 true 63, .t 8, .t 9]
def fn_ref19_Step : AFn := .code c_ref19_Step r_ref19_Step 131 true
def c_ref20_Step : ACode :=
 (.seq (.ops [] [⟨some 3, .box (.t 0), none⟩, ⟨some 4, .box (.t 1), none⟩, ⟨some 6, .alloc (.agg [.xsl [], .xsl [], .d (.int .i64 0), .d (.int .i64 0), .xsl [], .d (.int .i64 0), .xsl [], .xsl [], .d (.int .i64 0), .d (.int .i64 0), .d (.int .i64 0)]), none⟩, ⟨some 7, .alloc (.agg [.d (.int .i64 0), .d (.int .i64 0), .d (.int .i64 0), .d (.int .i64 0), .d (.int .i64 0), .d (.int .i64 0), .d (.int .i64 0), .xsl [], .xsl [], .d (.int .i64 0), .d (.bool false), .d (.int .i64 0), .d (.int .i64 0), .d (.int .i64 0), .xsl [], .d (.int .i64 0), .d (.int .i64 0), .d (.int .i64 0), .d (.int .i64 0), .d (.int .i64 0), .d (.int .i64 0), .d (.int .i64 0), .d (.int .i64 0), .d (.int .i64 0), .d (.int .i64 0), .xsl [], .d (.int .i64 0), .d (.int .i64 0), .d (.int .i64 0), .d (.int .i64 0), .d (.int .i64 0), .d (.int .i64 0), .d (.int .i64 0), .d (.int .i64 0), .xsl [], .d (.int .i64 0), .xsl [], .xsl [], .d (.int .i64 0), .xsl [], .xsl [], .xsl [], .d (.int .i64 0), .xsl [], .xsl [], .xsl [], .xsl [], .d (.int .i64 0), .xsl [], .d (.int .i64 0), .xsl [], .xsl [], .d (.int .i64 0), .d (.int .i64 0), .d (.int .i64 0), .d (.int .i64 0), .d (.int .i64 0), .d (.int .i64 0), .d (.int .i64 0), .d (.int .i64 0), .d (.int .i64 0), .xsl [], .xsl []]), none⟩, ⟨some 8, .mv (.c (.xsl [])), none⟩, ⟨some 9, .mv (.c (.d (.int .i64 0))), none⟩] [0, 1, 8, 9])
 (.seq (.seq (.ops [] [⟨some 21, .ld true 63 (.t 4), none⟩, ⟨some 22, .call N_ref18_Guard [] [.t 21, .c (.d (.int .i64 3)), .c (.d (.int .i64 5))], none⟩, ⟨some 10, .mv (.t 22), none⟩] [21, 22])
 (.seq (.ops [] [⟨some 23, .mv (.t 10), none⟩, ⟨some 24, .bin .neq (.t 23) (.c (.d (.int .i64 0))), none⟩] [23])
 (.cond (.t 24) (.seq (.ops [] [⟨some 25, .mv (.t 10), none⟩, ⟨some 26, .call N_ref18_Fail [false, true] [.t 25], none⟩, ⟨some 27, .ext (.t 26) 0, none⟩, ⟨some 28, .ext (.t 26) 1, none⟩, ⟨some 29, .ext (.t 26) 2, none⟩, ⟨some 30, .ext (.t 26) 3, none⟩, ⟨none, .st 11 (.t 6) (.t 27), none⟩, ⟨none, .st 63 (.t 7) (.t 28), none⟩, ⟨some 8, .mv (.t 29), none⟩, ⟨some 9, .mv (.t 30), none⟩] [2, 3, 4, 10, 24, 25, 26, 27, 28, 29, 30])
 (.ret [6, 7, 8, 9])) .skip)))
 (.seq (.seq (.ops [] [⟨some 31, .fad false 12 1 (.t 4), none⟩, ⟨some 32, .ld false 1 (.t 31), none⟩] [10, 24, 31])
 (.block 0 (.seq (.ops [] [⟨some 34, .bin .eql (.t 32) (.c (.d (.int .i64 0))), none⟩, ⟨some 33, .mv (.t 34), none⟩] [34])
 (.cond (.t 33) (.seq (.ops [] [⟨some 36, .fad true 1 8 (.t 4), none⟩, ⟨some 37, .fad false 7 1 (.t 36), none⟩, ⟨some 38, .ld false 1 (.t 37), none⟩, ⟨some 39, .fad false 13 1 (.t 4), none⟩, ⟨some 40, .ld false 1 (.t 39), none⟩, ⟨some 41, .iad 1 (.t 38) (.t 40), none⟩, ⟨some 42, .ld false 1 (.t 41), none⟩, ⟨some 43, .call N_ref09_Parse [] [.t 42], none⟩, ⟨some 35, .mv (.t 43), none⟩, ⟨some 44, .ext (.t 35) 0, none⟩, ⟨some 45, .ext (.t 35) 1, none⟩, ⟨some 11, .alloc (.d (.agg [.int .i64 0, .int .i64 0, .int .i64 0, .int .i64 0])), none⟩, ⟨none, .st 4 (.t 11) (.t 44), none⟩, ⟨some 12, .mv (.t 45), none⟩] [32, 33, 35, 36, 37, 38, 39, 40, 41, 42, 43, 44, 45])
 (.seq (.seq (.ops [] [⟨some 46, .mv (.t 12), none⟩, ⟨some 47, .bin .neq (.t 46) (.c (.d (.int .i64 0))), none⟩] [12, 46])
 (.cond (.t 47) (.seq (.draw [] [⟨some 48, .ld true 63 (.t 4), none⟩, ⟨some 49, .fad true 1 8 (.t 4), none⟩, ⟨some 50, .fad false 0 1 (.t 49), none⟩, ⟨some 51, .ld false 1 (.t 50), none⟩, ⟨some 52, .call N_ref20_kind [] [.t 51], none⟩, ⟨some 53, .mv (.t 2), none⟩, ⟨some 54, .call N_ref18_Event [false, false, false, true] [.t 48, .t 52, .t 53], none⟩, ⟨some 13, .alloc (.agg [.d (.int .i64 0), .d (.int .i64 0), .d (.int .i64 0), .d (.int .i64 0), .d (.int .i64 0), .d (.int .i64 0), .d (.int .i64 0), .xsl [], .d (.int .i64 0), .d (.int .i64 0)]), none⟩, ⟨none, .st 10 (.t 13) (.t 54), none⟩] [[], [0], [0], [0], [0], [0, 1, 2, 3, 4], [], [0, 1, 2, 3, 4, 5, 6], []] [11, 47, 48, 49, 50, 51, 52, 53, 54])
 (.seq (.ops [] [⟨some 55, .fad false 6 1 (.t 13), none⟩, ⟨none, .st 1 (.t 55) (.c (.d (.int .i64 5))), none⟩] [55])
 (.seq (.draw [] [⟨some 56, .ld true 11 (.t 3), none⟩, ⟨some 57, .ld true 63 (.t 4), none⟩, ⟨some 58, .build [.d (.int .i64 0), .d (.int .i64 0), .xsl [], .xsl [], .d (.int .i64 0), .d (.int .i64 0), .d (.int .i64 0)] [(0, (1, .c (.d (.int .i64 5))))], none⟩, ⟨some 59, .mv (.t 2), none⟩, ⟨some 60, .call N_ref17_Next [false, false, false, true] [.t 57, .t 58, .t 59], none⟩, ⟨some 61, .ld true 10 (.t 13), none⟩, ⟨some 62, .bsl 1 10 (.agg [.d (.int .i64 0), .d (.int .i64 0), .d (.int .i64 0), .d (.int .i64 0), .d (.int .i64 0), .d (.int .i64 0), .d (.int .i64 0), .xsl [], .d (.int .i64 0), .d (.int .i64 0)]) [(0, .t 61)], none⟩, ⟨none, .st 11 (.t 6) (.t 56), none⟩, ⟨none, .st 63 (.t 7) (.t 60), none⟩, ⟨some 8, .mv (.t 62), none⟩, ⟨some 9, .mv (.c (.d (.int .i64 0))), none⟩] [[], [0], [0, 1], [0, 1, 2], [0], [0, 1, 2, 3, 4], [0, 1, 2, 3, 4], [5, 6], [5, 6], [], []] [2, 3, 4, 13, 56, 57, 58, 59, 60, 61, 62])
 (.ret [6, 7, 8, 9])))) .skip))
 (.seq (.ops [] [⟨some 63, .ld true 4 (.t 11), none⟩, ⟨some 64, .fad true 56 4 (.t 4), none⟩, ⟨none, .st 4 (.t 64) (.t 63), none⟩, ⟨some 65, .fad false 12 1 (.t 4), none⟩, ⟨none, .st 1 (.t 65) (.c (.d (.int .i64 1))), none⟩] [2, 47, 63, 64, 65])
 (.seq (.seq (.ops [] [⟨some 66, .fad false 3 1 (.t 11), none⟩, ⟨some 67, .ld false 1 (.t 66), none⟩, ⟨some 68, .fad true 15 8 (.t 4), none⟩, ⟨some 69, .fad false 0 1 (.t 68), none⟩, ⟨some 70, .ld false 1 (.t 69), none⟩, ⟨some 71, .bin .lss (.t 67) (.t 70), none⟩] [66, 67, 68, 69, 70])
 (.cond (.t 71) (.ops [] [⟨some 72, .ld true 63 (.t 4), none⟩, ⟨some 73, .fad false 3 1 (.t 11), none⟩, ⟨some 74, .ld false 1 (.t 73), none⟩, ⟨some 75, .bsl 1 1 (.d (.int .i64 0)) [(0, .t 74)], none⟩, ⟨some 76, .call N_ref18_Section [false, false, false, true] [.t 72, .t 75, .c (.d (.int .i64 2))], none⟩, ⟨none, .st 63 (.t 4) (.t 76), none⟩] [11, 71, 72, 73, 74, 75, 76]) .skip))
 (.seq (.draw [] [⟨some 77, .ld true 11 (.t 3), none⟩, ⟨some 78, .ld true 63 (.t 4), none⟩, ⟨none, .st 11 (.t 6) (.t 77), none⟩, ⟨none, .st 63 (.t 7) (.t 78), none⟩, ⟨some 8, .mv (.c (.xsl [])), none⟩, ⟨some 9, .mv (.c (.d (.int .i64 0))), none⟩] [[], [0], [1], [], [], []] [3, 4, 11, 71, 77, 78])
 (.ret [6, 7, 8, 9])))))) (.seq (.ops [] [⟨some 80, .bin .eql (.t 32) (.c (.d (.int .i64 1))), none⟩, ⟨some 79, .mv (.t 80), none⟩] [32, 33, 80])
 (.cond (.t 79) (.seq (.draw [] [⟨some 81, .ld true 11 (.t 3), none⟩, ⟨some 82, .ld true 11 (.t 3), none⟩, ⟨some 83, .ld true 63 (.t 4), none⟩, ⟨some 84, .fad true 56 4 (.t 4), none⟩, ⟨some 85, .fad false 2 1 (.t 84), none⟩, ⟨some 86, .ld false 1 (.t 85), none⟩, ⟨some 87, .call N_ref18_Look [false, false, false, false, true] [.t 82, .t 83, .t 86, .c (.d (.int .i64 2))], none⟩, ⟨none, .st 11 (.t 6) (.t 81), none⟩, ⟨none, .st 63 (.t 7) (.t 87), none⟩, ⟨some 8, .mv (.c (.xsl [])), none⟩, ⟨some 9, .mv (.c (.d (.int .i64 0))), none⟩] [[], [0], [0, 1], [0, 1, 2], [0, 1, 2], [0, 1, 2], [0], [], [], [], []] [2, 3, 4, 79, 81, 82, 83, 84, 85, 86, 87])
 (.ret [6, 7, 8, 9])) .skip))))))
 (.seq (.ops [] [⟨some 89, .ld true 11 (.t 3), none⟩, ⟨some 90, .ld true 63 (.t 4), none⟩, ⟨some 91, .mv (.t 2), none⟩, ⟨some 92, .call N_ref18_Go [false, false, false, true] [.t 89, .t 90, .t 91], none⟩, ⟨some 88, .mv (.t 92), none⟩, ⟨some 93, .ext (.t 88) 0, none⟩, ⟨some 94, .ext (.t 88) 1, none⟩, ⟨some 95, .ext (.t 88) 2, none⟩, ⟨some 96, .ext (.t 88) 3, none⟩, ⟨some 97, .ext (.t 88) 4, none⟩, ⟨some 14, .alloc (.agg [.xsl [], .xsl [], .d (.int .i64 0), .d (.int .i64 0), .xsl [], .d (.int .i64 0), .xsl [], .xsl [], .d (.int .i64 0), .d (.int .i64 0), .d (.int .i64 0)]), none⟩, ⟨none, .st 11 (.t 14) (.t 93), none⟩, ⟨none, .st 63 (.t 4) (.t 94), none⟩, ⟨some 15, .mv (.t 95), none⟩, ⟨some 16, .mv (.t 96), none⟩, ⟨some 17, .mv (.t 97), none⟩] [3, 79, 88, 89, 90, 91, 92, 93, 94, 95, 96, 97])
 (.seq (.seq (.ops [] [⟨some 98, .mv (.t 17), none⟩, ⟨some 99, .bin .neq (.t 98) (.c (.d (.int .i64 0))), none⟩] [98])
 (.cond (.t 99) (.seq (.ops [] [⟨some 100, .mv (.t 17), none⟩, ⟨some 101, .call N_ref18_Fail [false, true] [.t 100], none⟩, ⟨some 102, .ext (.t 101) 0, none⟩, ⟨some 103, .ext (.t 101) 1, none⟩, ⟨some 104, .ext (.t 101) 2, none⟩, ⟨some 105, .ext (.t 101) 3, none⟩, ⟨none, .st 11 (.t 6) (.t 102), none⟩, ⟨none, .st 63 (.t 7) (.t 103), none⟩, ⟨some 8, .mv (.t 104), none⟩, ⟨some 9, .mv (.t 105), none⟩] [2, 4, 14, 15, 16, 17, 99, 100, 101, 102, 103, 104, 105])
 (.ret [6, 7, 8, 9])) .skip))
 (.seq (.seq (.ops [] [⟨some 106, .mv (.t 15), none⟩] [15, 17, 99])
 (.cond (.t 106) (.seq (.ops [] [⟨some 108, .ld true 63 (.t 4), none⟩, ⟨some 109, .call N_ref20_decide [false, true] [.t 108], none⟩, ⟨some 107, .mv (.t 109), none⟩, ⟨some 110, .ext (.t 107) 0, none⟩, ⟨some 111, .ext (.t 107) 1, none⟩, ⟨some 18, .alloc (.agg [.d (.int .i64 0), .d (.int .i64 0), .d (.int .i64 0), .d (.int .i64 0), .d (.int .i64 0), .d (.int .i64 0), .d (.int .i64 0), .xsl [], .xsl [], .d (.int .i64 0), .d (.bool false), .d (.int .i64 0), .d (.int .i64 0), .d (.int .i64 0), .xsl [], .d (.int .i64 0), .d (.int .i64 0), .d (.int .i64 0), .d (.int .i64 0), .d (.int .i64 0), .d (.int .i64 0), .d (.int .i64 0), .d (.int .i64 0), .d (.int .i64 0), .d (.int .i64 0), .xsl [], .d (.int .i64 0), .d (.int .i64 0), .d (.int .i64 0), .d (.int .i64 0), .d (.int .i64 0), .d (.int .i64 0), .d (.int .i64 0), .d (.int .i64 0), .xsl [], .d (.int .i64 0), .xsl [], .xsl [], .d (.int .i64 0), .xsl [], .xsl [], .xsl [], .d (.int .i64 0), .xsl [], .xsl [], .xsl [], .xsl [], .d (.int .i64 0), .xsl [], .d (.int .i64 0), .xsl [], .xsl [], .d (.int .i64 0), .d (.int .i64 0), .d (.int .i64 0), .d (.int .i64 0), .d (.int .i64 0), .d (.int .i64 0), .d (.int .i64 0), .d (.int .i64 0), .d (.int .i64 0), .xsl [], .xsl []]), none⟩, ⟨none, .st 63 (.t 18) (.t 110), none⟩, ⟨some 19, .mv (.t 111), none⟩] [2, 4, 16, 106, 107, 108, 109, 110, 111])
 (.seq (.draw [] [⟨some 112, .ld true 11 (.t 14), none⟩, ⟨some 113, .ld true 63 (.t 18), none⟩, ⟨some 114, .mv (.t 19), none⟩, ⟨none, .st 11 (.t 6) (.t 112), none⟩, ⟨none, .st 63 (.t 7) (.t 113), none⟩, ⟨some 8, .mv (.t 114), none⟩, ⟨some 9, .mv (.c (.d (.int .i64 0))), none⟩] [[], [0], [0, 1], [1, 2], [2], [], []] [14, 18, 19, 112, 113, 114])
 (.ret [6, 7, 8, 9]))) .skip))
 (.seq (.seq (.ops [] [⟨some 115, .mv (.t 16), none⟩, ⟨some 116, .un .not (.t 115), none⟩] [16, 106, 115])
 (.cond (.t 116) (.seq (.draw [] [⟨some 117, .ld true 11 (.t 14), none⟩, ⟨some 118, .ld true 63 (.t 4), none⟩, ⟨none, .st 11 (.t 6) (.t 117), none⟩, ⟨none, .st 63 (.t 7) (.t 118), none⟩, ⟨some 8, .mv (.c (.xsl [])), none⟩, ⟨some 9, .mv (.c (.d (.int .i64 0))), none⟩] [[], [0], [1], [], [], []] [2, 4, 14, 116, 117, 118])
 (.ret [6, 7, 8, 9])) .skip))
 (.seq (.seq (.draw [] [⟨some 119, .fad true 23 26 (.t 4), none⟩, ⟨some 120, .fad false 11 1 (.t 119), none⟩, ⟨some 121, .ld false 1 (.t 120), none⟩, ⟨some 122, .iad 8 (.t 121) (.c (.d (.int .i64 0))), none⟩, ⟨some 123, .ld true 8 (.t 122), none⟩, ⟨some 124, .fad true 56 4 (.t 4), none⟩, ⟨some 125, .fad false 2 1 (.t 124), none⟩, ⟨some 126, .ld false 1 (.t 125), none⟩, ⟨some 127, .call N_ref07_Owns [] [.t 123, .t 126], none⟩, ⟨some 128, .un .not (.t 127), none⟩] [[], [], [], [], [], [0, 1, 2, 3, 4], [0, 1, 2, 3, 4], [0, 1, 2, 3, 4], [], []] [116, 119, 120, 121, 122, 123, 124, 125, 126, 127])
 (.cond (.t 128) (.seq (.ops [] [⟨some 129, .fad false 12 1 (.t 4), none⟩, ⟨none, .st 1 (.t 129) (.c (.d (.int .i64 1))), none⟩] [2, 128, 129])
 (.seq (.draw [] [⟨some 130, .ld true 11 (.t 14), none⟩, ⟨some 131, .ld true 63 (.t 4), none⟩, ⟨none, .st 11 (.t 6) (.t 130), none⟩, ⟨none, .st 63 (.t 7) (.t 131), none⟩, ⟨some 8, .mv (.c (.xsl [])), none⟩, ⟨some 9, .mv (.c (.d (.int .i64 0))), none⟩] [[], [0], [1], [], [], []] [4, 14, 130, 131])
 (.ret [6, 7, 8, 9]))) .skip))
 (.seq (.ops [] [⟨some 132, .build [.d (.int .i64 0), .d (.int .i64 0), .xsl [], .xsl [], .d (.int .i64 0), .d (.int .i64 0), .d (.int .i64 0)] [], none⟩, ⟨some 20, .alloc (.agg [.d (.int .i64 0), .d (.int .i64 0), .xsl [], .xsl [], .d (.int .i64 0), .d (.int .i64 0), .d (.int .i64 0)]), none⟩, ⟨none, .st 7 (.t 20) (.t 132), none⟩] [128, 132])
 (.seq (.seq (.ops [] [⟨some 134, .ld true 63 (.t 4), none⟩, ⟨some 135, .call N_ref20_settle [false, true] [.t 134], none⟩, ⟨some 133, .mv (.t 135), none⟩, ⟨some 136, .ext (.t 133) 0, none⟩, ⟨some 137, .ext (.t 133) 1, none⟩, ⟨some 138, .fad false 0 1 (.t 20), none⟩, ⟨none, .st 1 (.t 138) (.t 137), none⟩] [133, 134, 135, 136, 137, 138])
 (.seq (.ops [] [⟨some 139, .fad false 0 1 (.t 20), none⟩, ⟨some 140, .ld false 1 (.t 139), none⟩, ⟨some 141, .bin .eql (.t 140) (.c (.d (.int .i64 0))), none⟩] [139, 140])
 (.cond (.t 141) (.ops [] [⟨some 142, .fad true 56 4 (.t 4), none⟩, ⟨some 143, .fad false 0 1 (.t 142), none⟩, ⟨some 144, .ld false 1 (.t 143), none⟩, ⟨some 145, .fad false 1 1 (.t 20), none⟩, ⟨none, .st 1 (.t 145) (.t 144), none⟩] [141, 142, 143, 144, 145]) .skip)))
 (.seq (.draw [] [⟨some 146, .ld true 11 (.t 14), none⟩, ⟨some 147, .ld true 63 (.t 4), none⟩, ⟨some 148, .ld true 7 (.t 20), none⟩, ⟨some 149, .mv (.t 2), none⟩, ⟨some 150, .call N_ref17_Next [false, false, false, true] [.t 147, .t 148, .t 149], none⟩, ⟨none, .st 11 (.t 6) (.t 146), none⟩, ⟨none, .st 63 (.t 7) (.t 150), none⟩, ⟨some 8, .mv (.c (.xsl [])), none⟩, ⟨some 9, .mv (.c (.d (.int .i64 0))), none⟩] [[], [0], [0, 1], [0, 1, 2], [0], [], [], [], []] [2, 4, 14, 20, 141, 146, 147, 148, 149, 150])
 (.ret [6, 7, 8, 9]))))))))))))
def r_ref20_Step : List ARes := [.c 6 true 11, .c 7 true 63, .t 8, .t 9]
def fn_ref20_Step : AFn := .code c_ref20_Step r_ref20_Step 151 true
end Go.Proofs.YtjillamaceggeaaGreat
