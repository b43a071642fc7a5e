/-
  Functions of the program, as the calculus has them.
-/
import Derived.Test.YtmbnbjkdamalpaaGreatB34f4da1
set_option linter.unusedSimpArgs false
set_option linter.unusedVariables false
namespace Go.Proofs.YtmbnbjkdamalpaaGreat
open Go Go.Sim
def l_law11_StripeBuilt_0 : ACode :=
 (.seq (.seq (.ops [] [⟨some 25, .mv (.t 4), none⟩, ⟨some 26, .bin .lss (.t 25) (.c (.d (.int .i64 4))), none⟩] [25])
 (.cond (.t 26) .skip (.exit 0 [3])))
 (.seq (.block 1 (.seq (.ops [] [⟨some 29, .mv (.t 3), none⟩, ⟨some 30, .bsl 11 1 (.d (.int .i64 0)) [(0, .c (.d (.int .i64 0))), (1, .c (.d (.int .i64 1))), (2, .c (.d (.int .i64 2))), (3, .c (.d (.int .i64 7))), (4, .c (.d (.int .i64 (-1)))), (5, .c (.d (.int .i64 (-2)))), (6, .c (.d (.int .i64 1099511627776))), (7, .c (.d (.int .i64 1099511627775))), (8, .c (.d (.int .i64 1099511627774))), (9, .c (.d (.int .i64 1099511627773))), (10, .c (.d (.int .i64 1099511627777)))], none⟩, ⟨some 31, .call N_base_Src_Pick [true, false] [.t 29, .t 30], none⟩, ⟨some 32, .mv (.t 3), none⟩, ⟨some 33, .call N_base_Src_N [true, false] [.t 32, .c (.d (.int .i64 3))], none⟩, ⟨some 34, .build [.d (.int .i64 0), .d (.int .i64 0), .d (.int .i64 0), .d (.int .i64 0)] [(0, (1, .t 31)), (1, (1, .t 33))], none⟩, ⟨some 5, .alloc (.d (.agg [.int .i64 0, .int .i64 0, .int .i64 0, .int .i64 0])), none⟩, ⟨none, .st 4 (.t 5) (.t 34), none⟩] [26, 29, 30, 31, 32, 33, 34])
 (.seq (.ops [] [⟨some 35, .mv (.t 3), none⟩, ⟨some 36, .call N_base_Src_Shard [true] [.t 35], none⟩, ⟨some 6, .alloc (.agg [.d (.bool false), .d (.int .i64 0), .d (.int .i64 0), .xsl [], .d (.int .i64 0), .d (.int .i64 0), .xsl [], .xsl []]), none⟩, ⟨none, .st 8 (.t 6) (.t 36), none⟩] [35, 36])
 (.seq (.ops [] [⟨some 37, .mv (.t 3), none⟩, ⟨some 38, .bsl 6 1 (.d (.int .i64 0)) [(0, .c (.d (.int .i64 0))), (1, .c (.d (.int .i64 1))), (2, .c (.d (.int .i64 2))), (3, .c (.d (.int .i64 (-1)))), (4, .c (.d (.int .i64 65536))), (5, .c (.d (.int .i64 65537)))], none⟩, ⟨some 39, .call N_base_Src_Pick [true, false] [.t 37, .t 38], none⟩, ⟨some 40, .mv (.t 3), none⟩, ⟨some 41, .call N_base_Src_Range [true, false, false] [.t 40, .c (.d (.int .i64 0)), .c (.d (.int .i64 9))], none⟩, ⟨some 7, .mv (.t 39), none⟩, ⟨some 8, .mv (.t 41), none⟩] [37, 38, 39, 40, 41])
 (.seq (.ops [] [⟨some 43, .ld true 4 (.t 5), none⟩, ⟨some 44, .call N_stripe_Begin [] [.t 43], none⟩, ⟨some 42, .mv (.t 44), none⟩, ⟨some 45, .ext (.t 42) 0, none⟩, ⟨some 46, .ext (.t 42) 1, none⟩, ⟨some 9, .alloc (.d (.agg [.int .i64 0, .int .i64 0, .int .i64 0, .int .i64 0])), none⟩, ⟨none, .st 4 (.t 9) (.t 45), none⟩, ⟨some 10, .mv (.t 46), none⟩] [42, 43, 44, 45, 46])
 (.seq (.ops [] [⟨some 48, .ld true 4 (.t 5), none⟩, ⟨some 49, .call N_ref11_Begin [] [.t 48], none⟩, ⟨some 47, .mv (.t 49), none⟩, ⟨some 50, .ext (.t 47) 0, none⟩, ⟨some 51, .ext (.t 47) 1, none⟩, ⟨some 11, .alloc (.d (.agg [.int .i64 0, .int .i64 0, .int .i64 0, .int .i64 0])), none⟩, ⟨none, .st 4 (.t 11) (.t 50), none⟩, ⟨some 12, .mv (.t 51), none⟩] [47, 48, 49, 50, 51])
 (.seq (.ops [] [⟨some 53, .ld true 4 (.t 5), none⟩, ⟨some 54, .ld true 8 (.t 6), none⟩, ⟨some 55, .mv (.t 7), none⟩, ⟨some 56, .mv (.t 8), none⟩, ⟨some 57, .call N_stripe_End [] [.t 53, .t 54, .t 55, .t 56], none⟩, ⟨some 52, .mv (.t 57), none⟩, ⟨some 58, .ext (.t 52) 0, none⟩, ⟨some 59, .ext (.t 52) 1, none⟩, ⟨some 13, .alloc (.d (.agg [.int .i64 0, .int .i64 0, .int .i64 0, .int .i64 0])), none⟩, ⟨none, .st 4 (.t 13) (.t 58), none⟩, ⟨some 14, .mv (.t 59), none⟩] [52, 53, 54, 55, 56, 57, 58, 59])
 (.seq (.ops [] [⟨some 61, .ld true 4 (.t 5), none⟩, ⟨some 62, .ld true 8 (.t 6), none⟩, ⟨some 63, .mv (.t 7), none⟩, ⟨some 64, .mv (.t 8), none⟩, ⟨some 65, .call N_ref11_End [] [.t 61, .t 62, .t 63, .t 64], none⟩, ⟨some 60, .mv (.t 65), none⟩, ⟨some 66, .ext (.t 60) 0, none⟩, ⟨some 67, .ext (.t 60) 1, none⟩, ⟨some 15, .alloc (.d (.agg [.int .i64 0, .int .i64 0, .int .i64 0, .int .i64 0])), none⟩, ⟨none, .st 4 (.t 15) (.t 66), none⟩, ⟨some 16, .mv (.t 67), none⟩] [5, 6, 7, 8, 60, 61, 62, 63, 64, 65, 66, 67])
 (.seq (.ops [] [⟨some 68, .ld true 4 (.t 9), none⟩, ⟨some 69, .ld true 4 (.t 11), none⟩, ⟨some 70, .eqs true 4 [(0, 0), (1, 0), (2, 0), (3, 0)] (.t 68) (.t 69), none⟩, ⟨some 71, .mv (.t 70), none⟩, ⟨some 72, .mv (.t 10), some (71, false)⟩, ⟨some 73, .mv (.t 12), some (71, false)⟩, ⟨some 74, .bin .neq (.t 72) (.t 73), some (71, false)⟩, ⟨some 75, .pick (.t 71) (.c (.d (.bool true))) (.t 74), none⟩, ⟨some 76, .mv (.t 75), none⟩, ⟨some 77, .ld true 4 (.t 13), some (76, false)⟩, ⟨some 78, .ld true 4 (.t 15), some (76, false)⟩, ⟨some 79, .eqs true 4 [(0, 0), (1, 0), (2, 0), (3, 0)] (.t 77) (.t 78), some (76, false)⟩, ⟨some 80, .pick (.t 76) (.c (.d (.bool true))) (.t 79), none⟩, ⟨some 81, .mv (.t 80), none⟩, ⟨some 82, .mv (.t 14), some (81, false)⟩, ⟨some 83, .mv (.t 16), some (81, false)⟩, ⟨some 84, .bin .neq (.t 82) (.t 83), some (81, false)⟩, ⟨some 85, .pick (.t 81) (.c (.d (.bool true))) (.t 84), none⟩] [9, 10, 11, 12, 13, 14, 15, 16, 68, 69, 70, 71, 72, 73, 74, 75, 76, 77, 78, 79, 80, 81, 82, 83, 84])
 (.cond (.t 85) (.seq (.ops [] [⟨some 2, .mv (.c (.d (.bool false))), none⟩] [3, 4, 85])
 (.ret [2])) .skip))))))))))
 (.ops [] [⟨some 27, .mv (.t 4), none⟩, ⟨some 28, .bin .add (.t 27) (.c (.d (.int .i64 1))), none⟩, ⟨some 4, .mv (.t 28), none⟩] [27, 28, 85])))
def c_law11_StripeBuilt : ACode :=
 (.seq (.ops [] [⟨some 2, .mv (.c (.d (.bool false))), none⟩] [2])
 (.seq (.ops [] [⟨some 23, .mv (.t 0), none⟩, ⟨some 24, .call N_base_New [] [.t 23], none⟩, ⟨some 3, .mv (.t 24), none⟩] [0, 23, 24])
 (.seq (.seq (.ops [] [⟨some 4, .mv (.c (.d (.int .i64 0))), none⟩] [])
 (.block 0 (.loop [] l_law11_StripeBuilt_0)))
 (.seq (.ops [] [⟨some 86, .mv (.t 3), none⟩, ⟨some 87, .call N_base_Src_Stripes [true] [.t 86], none⟩, ⟨some 88, .mv (.t 3), none⟩, ⟨some 89, .call N_base_Src_Stripes [true] [.t 88], none⟩, ⟨some 17, .mv (.t 87), none⟩, ⟨some 18, .mv (.t 89), none⟩] [3, 4, 26, 86, 87, 88, 89])
 (.seq (.ops [] [⟨some 91, .mv (.t 17), none⟩, ⟨some 92, .call N_stripe_Sum [] [.t 91, .c (.d (.int .i64 1))], none⟩, ⟨some 90, .mv (.t 92), none⟩, ⟨some 93, .ext (.t 90) 0, none⟩, ⟨some 94, .ext (.t 90) 1, none⟩, ⟨some 19, .mv (.t 93), none⟩, ⟨some 20, .mv (.t 94), none⟩] [90, 91, 92, 93, 94])
 (.seq (.ops [] [⟨some 96, .mv (.t 17), none⟩, ⟨some 97, .call N_ref11_Sum [] [.t 96, .c (.d (.int .i64 1))], none⟩, ⟨some 95, .mv (.t 97), none⟩, ⟨some 98, .ext (.t 95) 0, none⟩, ⟨some 99, .ext (.t 95) 1, none⟩, ⟨some 21, .mv (.t 98), none⟩, ⟨some 22, .mv (.t 99), none⟩] [95, 96, 97, 98, 99])
 (.seq (.ops [] [⟨some 100, .mv (.t 19), none⟩, ⟨some 101, .mv (.t 21), none⟩, ⟨some 102, .bin .eql (.t 100) (.t 101), none⟩, ⟨some 103, .mv (.t 102), none⟩, ⟨some 104, .mv (.t 20), some (103, true)⟩, ⟨some 105, .mv (.t 22), some (103, true)⟩, ⟨some 106, .bin .eql (.t 104) (.t 105), some (103, true)⟩, ⟨some 107, .pick (.t 103) (.t 106) (.c (.d (.bool false))), none⟩, ⟨some 108, .mv (.t 107), none⟩, ⟨some 109, .mv (.t 17), some (108, true)⟩, ⟨some 110, .call N_stripe_Quiet [] [.t 109], some (108, true)⟩, ⟨some 111, .mv (.t 17), some (108, true)⟩, ⟨some 112, .call N_ref11_Quiet [] [.t 111], some (108, true)⟩, ⟨some 113, .eqb false (.t 110) (.t 112), some (108, true)⟩, ⟨some 114, .pick (.t 108) (.t 113) (.c (.d (.bool false))), none⟩, ⟨some 115, .mv (.t 114), none⟩, ⟨some 116, .mv (.t 17), some (115, true)⟩, ⟨some 117, .mv (.t 18), some (115, true)⟩, ⟨some 118, .call N_stripe_Same [] [.t 116, .t 117], some (115, true)⟩, ⟨some 119, .mv (.t 17), some (115, true)⟩, ⟨some 120, .mv (.t 18), some (115, true)⟩, ⟨some 121, .call N_ref11_Same [] [.t 119, .t 120], some (115, true)⟩, ⟨some 122, .eqb false (.t 118) (.t 121), some (115, true)⟩, ⟨some 123, .pick (.t 115) (.t 122) (.c (.d (.bool false))), none⟩, ⟨some 124, .mv (.t 123), none⟩, ⟨some 125, .call N_law11_awake [] [], some (124, true)⟩, ⟨some 126, .pick (.t 124) (.t 125) (.c (.d (.bool false))), none⟩, ⟨some 2, .mv (.t 126), none⟩] [17, 18, 19, 20, 21, 22, 100, 101, 102, 103, 104, 105, 106, 107, 108, 109, 110, 111, 112, 113, 114, 115, 116, 117, 118, 119, 120, 121, 122, 123, 124, 125, 126])
 (.ret [2]))))))))
def r_law11_StripeBuilt : List ARes := [.t 2]
def fn_law11_StripeBuilt : AFn := .code c_law11_StripeBuilt r_law11_StripeBuilt 127 true
def c_base_New : ACode :=
 (.seq (.ops [] [⟨some 2, .mv (.c .undef), none⟩] [2])
 (.seq (.seq (.ops [] [⟨some 3, .mv (.t 0), none⟩, ⟨some 4, .len (.t 3), none⟩, ⟨some 5, .bin .gtr (.t 4) (.c (.d (.int .i64 4000))), none⟩] [3, 4])
 (.cond (.t 5) (.ops [] [⟨some 6, .mv (.t 0), none⟩, ⟨some 7, .slc 1 (.t 6) none (some (.c (.d (.int .i64 4000)))) none, none⟩, ⟨some 0, .mv (.t 7), none⟩] [5, 6, 7]) .skip))
 (.seq (.ops [] [⟨some 8, .mv (.t 0), none⟩, ⟨some 9, .build [.xsl [], .d (.int .i64 0)] [(0, (1, .t 8))], none⟩, ⟨some 10, .box (.t 9), none⟩, ⟨some 2, .mv (.t 10), none⟩] [0, 5, 8, 9, 10])
 (.ret [2]))))
def r_base_New : List ARes := [.t 2]
def fn_base_New : AFn := .code c_base_New r_base_New 11 false
def c_base_Src_Pick : ACode :=
 (.seq (.ops [] [⟨some 4, .mv (.c (.d (.int .i64 0))), none⟩] [4])
 (.seq (.ops [] [⟨some 5, .mv (.t 1), none⟩, ⟨some 6, .mv (.t 0), none⟩, ⟨some 7, .mv (.t 1), none⟩, ⟨some 8, .len (.t 7), none⟩, ⟨some 9, .call N_base_Src_N [true, false] [.t 6, .t 8], none⟩, ⟨some 10, .iad 1 (.t 5) (.t 9), none⟩, ⟨some 11, .ld false 1 (.t 10), none⟩, ⟨some 4, .mv (.t 11), none⟩] [0, 1, 5, 6, 7, 8, 9, 10, 11])
 (.ret [4])))
def r_base_Src_Pick : List ARes := [.t 4]
def fn_base_Src_Pick : AFn := .code c_base_Src_Pick r_base_Src_Pick 12 true
def c_base_Src_N : ACode :=
 (.seq (.ops [] [⟨some 4, .mv (.c (.d (.int .i64 0))), none⟩] [4])
 (.seq (.seq (.ops [] [⟨some 6, .mv (.t 1), none⟩, ⟨some 7, .bin .lss (.t 6) (.c (.d (.int .i64 1))), none⟩] [6])
 (.cond (.t 7) (.seq (.ops [] [⟨some 4, .mv (.c (.d (.int .i64 0))), none⟩] [0, 1, 7])
 (.ret [4])) .skip))
 (.seq (.ops [] [⟨some 8, .mv (.t 0), none⟩, ⟨some 9, .call N_base_Src_Raw [true] [.t 8], none⟩, ⟨some 10, .mv (.t 1), none⟩, ⟨some 11, .bin .rem (.t 9) (.t 10), none⟩, ⟨some 5, .mv (.t 11), none⟩] [0, 7, 8, 9, 10, 11])
 (.seq (.seq (.ops [] [⟨some 12, .mv (.t 5), none⟩, ⟨some 13, .bin .lss (.t 12) (.c (.d (.int .i64 0))), none⟩] [12])
 (.cond (.t 13) (.ops [] [⟨some 14, .mv (.t 5), none⟩, ⟨some 15, .mv (.t 1), none⟩, ⟨some 16, .bin .add (.t 14) (.t 15), none⟩, ⟨some 5, .mv (.t 16), none⟩] [1, 13, 14, 15, 16]) .skip))
 (.seq (.ops [] [⟨some 17, .mv (.t 5), none⟩, ⟨some 4, .mv (.t 17), none⟩] [1, 5, 13, 17])
 (.ret [4]))))))
def r_base_Src_N : List ARes := [.t 4]
def fn_base_Src_N : AFn := .code c_base_Src_N r_base_Src_N 18 true
def c_base_Src_Raw : ACode :=
 (.seq (.ops [] [⟨some 2, .mv (.c (.d (.int .i64 0))), none⟩] [2])
 (.seq (.seq (.draw [] [⟨some 3, .mv (.t 0), none⟩, ⟨some 4, .nilc (.t 3), none⟩, ⟨some 5, .fad false 1 1 (.t 4), none⟩, ⟨some 6, .ld false 1 (.t 5), none⟩, ⟨some 7, .mv (.t 0), none⟩, ⟨some 8, .nilc (.t 7), none⟩, ⟨some 9, .fad false 0 1 (.t 8), none⟩, ⟨some 10, .ld false 1 (.t 9), none⟩, ⟨some 11, .len (.t 10), none⟩, ⟨some 12, .bin .geq (.t 6) (.t 11), none⟩] [[], [], [], [], [0, 1, 2, 3], [0, 1, 2, 3], [0, 1, 2, 3], [0, 1, 2, 3], [0, 1, 2, 3], []] [3, 4, 5, 6, 7, 8, 9, 10, 11])
 (.cond (.t 12) (.seq (.ops [] [⟨some 2, .mv (.c (.d (.int .i64 0))), none⟩] [0, 12])
 (.ret [2])) .skip))
 (.seq (.ops [] [⟨some 13, .mv (.t 0), none⟩, ⟨some 14, .nilc (.t 13), none⟩, ⟨some 15, .fad false 1 1 (.t 14), none⟩, ⟨some 16, .ld false 1 (.t 15), none⟩, ⟨some 17, .bin .add (.t 16) (.c (.d (.int .i64 1))), none⟩, ⟨some 18, .nilc (.t 13), none⟩, ⟨some 19, .fad false 1 1 (.t 18), none⟩, ⟨none, .st 1 (.t 19) (.t 17), none⟩] [12, 13, 14, 15, 16, 17, 18, 19])
 (.seq (.draw [] [⟨some 20, .mv (.t 0), none⟩, ⟨some 21, .nilc (.t 20), none⟩, ⟨some 22, .fad false 0 1 (.t 21), none⟩, ⟨some 23, .ld false 1 (.t 22), none⟩, ⟨some 24, .mv (.t 0), none⟩, ⟨some 25, .nilc (.t 24), none⟩, ⟨some 26, .fad false 1 1 (.t 25), none⟩, ⟨some 27, .ld false 1 (.t 26), none⟩, ⟨some 28, .bin .sub (.t 27) (.c (.d (.int .i64 1))), none⟩, ⟨some 29, .iad 1 (.t 23) (.t 28), none⟩, ⟨some 30, .ld false 1 (.t 29), none⟩, ⟨some 2, .mv (.t 30), none⟩] [[], [], [], [], [0, 1, 2, 3], [0, 1, 2, 3], [0, 1, 2, 3], [0, 1, 2, 3], [0, 1, 2, 3], [], [], []] [0, 20, 21, 22, 23, 24, 25, 26, 27, 28, 29, 30])
 (.ret [2])))))
def r_base_Src_Raw : List ARes := [.t 2]
def fn_base_Src_Raw : AFn := .code c_base_Src_Raw r_base_Src_Raw 31 true
def c_base_Src_Shard : ACode :=
 (.seq (.ops [] [⟨some 2, .alloc (.agg [.d (.bool false), .d (.int .i64 0), .d (.int .i64 0), .xsl [], .d (.int .i64 0), .d (.int .i64 0), .xsl [], .xsl []]), none⟩] [])
 (.seq (.ops [] [⟨some 6, .mv (.t 0), none⟩, ⟨some 7, .call N_base_Src_Span [true] [.t 6], none⟩, ⟨some 5, .mv (.t 7), none⟩, ⟨some 8, .ext (.t 5) 0, none⟩, ⟨some 9, .ext (.t 5) 1, none⟩, ⟨some 3, .mv (.t 8), none⟩, ⟨some 4, .mv (.t 9), none⟩] [5, 6, 7, 8, 9])
 (.seq (.ops [] [⟨some 10, .mv (.t 0), none⟩, ⟨some 11, .mv (.t 3), none⟩, ⟨some 12, .mv (.t 4), none⟩, ⟨some 13, .call N_base_Src_Between [true, false, false] [.t 10, .t 11, .t 12], none⟩, ⟨none, .st 8 (.t 2) (.t 13), none⟩] [0, 3, 4, 10, 11, 12, 13])
 (.ret [2]))))
def r_base_Src_Shard : List ARes := [.c 2 true 8]
def fn_base_Src_Shard : AFn := .code c_base_Src_Shard r_base_Src_Shard 14 true
def c_base_Src_Span : ACode :=
 (.seq (.ops [] [⟨some 2, .mv (.c (.d (.int .i64 0))), none⟩, ⟨some 3, .mv (.c (.d (.int .i64 0))), none⟩] [2, 3])
 (.seq (.ops [] [⟨some 6, .mv (.t 0), none⟩, ⟨some 7, .bsl 5 1 (.d (.int .i64 0)) [(0, .c (.d (.int .i64 0))), (1, .c (.d (.int .i64 0))), (2, .c (.d (.int .i64 100))), (3, .c (.d (.int .i64 32768))), (4, .c (.d (.int .i64 65535)))], none⟩, ⟨some 8, .call N_base_Src_Pick [true, false] [.t 6, .t 7], none⟩, ⟨some 4, .mv (.t 8), none⟩] [6, 7, 8])
 (.seq (.ops [] [⟨some 9, .mv (.t 0), none⟩, ⟨some 10, .bsl 5 1 (.d (.int .i64 0)) [(0, .c (.d (.int .i64 65535))), (1, .c (.d (.int .i64 65535))), (2, .c (.d (.int .i64 40000))), (3, .c (.d (.int .i64 101))), (4, .c (.d (.int .i64 32768)))], none⟩, ⟨some 11, .call N_base_Src_Pick [true, false] [.t 9, .t 10], none⟩, ⟨some 5, .mv (.t 11), none⟩] [0, 9, 10, 11])
 (.seq (.ops [] [⟨some 12, .mv (.t 4), none⟩, ⟨some 13, .mv (.t 5), none⟩, ⟨some 14, .mm false [.t 12, .t 13], none⟩, ⟨some 15, .mv (.t 4), none⟩, ⟨some 16, .mv (.t 5), none⟩, ⟨some 17, .mm true [.t 15, .t 16], none⟩, ⟨some 2, .mv (.t 14), none⟩, ⟨some 3, .mv (.t 17), none⟩] [4, 5, 12, 13, 14, 15, 16, 17])
 (.ret [2, 3])))))
def r_base_Src_Span : List ARes := [.t 2, .t 3]
def fn_base_Src_Span : AFn := .code c_base_Src_Span r_base_Src_Span 18 true
def c_base_Src_Between : ACode :=
 (.seq (.ops [] [⟨some 6, .alloc (.agg [.d (.bool false), .d (.int .i64 0), .d (.int .i64 0), .xsl [], .d (.int .i64 0), .d (.int .i64 0), .xsl [], .xsl []]), none⟩] [])
 (.seq (.ops [] [⟨some 7, .mv (.t 0), none⟩, ⟨some 8, .mv (.t 1), none⟩, ⟨some 9, .mv (.t 2), none⟩, ⟨some 10, .call N_base_Src_From [true, false, false, false] [.t 7, .c (.d (.int .i64 1)), .t 8, .t 9], none⟩, ⟨none, .st 8 (.t 6) (.t 10), none⟩] [0, 1, 2, 7, 8, 9, 10])
 (.ret [6])))
def r_base_Src_Between : List ARes := [.c 6 true 8]
def fn_base_Src_Between : AFn := .code c_base_Src_Between r_base_Src_Between 11 true
def c_base_Src_From : ACode :=
 (.seq (.ops [] [⟨some 8, .alloc (.agg [.d (.bool false), .d (.int .i64 0), .d (.int .i64 0), .xsl [], .d (.int .i64 0), .d (.int .i64 0), .xsl [], .xsl []]), none⟩] [])
 (.seq (.ops [] [⟨some 9, .mv (.t 0), none⟩, ⟨some 10, .mv (.t 0), none⟩, ⟨some 11, .call N_base_Src_Range [true, false, false] [.t 10, .c (.d (.int .i64 1)), .c (.d (.int .i64 12))], none⟩, ⟨some 12, .mv (.t 1), none⟩, ⟨some 13, .mv (.t 2), none⟩, ⟨some 14, .mv (.t 3), none⟩, ⟨some 15, .call N_base_Src_FromOf [true, false, false, false, false] [.t 9, .t 11, .t 12, .t 13, .t 14], none⟩, ⟨none, .st 8 (.t 8) (.t 15), none⟩] [0, 1, 2, 3, 9, 10, 11, 12, 13, 14, 15])
 (.ret [8])))
def r_base_Src_From : List ARes := [.c 8 true 8]
def fn_base_Src_From : AFn := .code c_base_Src_From r_base_Src_From 16 true
def c_base_Src_Range : ACode :=
 (.seq (.ops [] [⟨some 6, .mv (.c (.d (.int .i64 0))), none⟩] [6])
 (.seq (.ops [] [⟨some 7, .mv (.t 1), none⟩, ⟨some 8, .mv (.t 0), none⟩, ⟨some 9, .mv (.t 2), none⟩, ⟨some 10, .mv (.t 1), none⟩, ⟨some 11, .bin .sub (.t 9) (.t 10), none⟩, ⟨some 12, .bin .add (.t 11) (.c (.d (.int .i64 1))), none⟩, ⟨some 13, .call N_base_Src_N [true, false] [.t 8, .t 12], none⟩, ⟨some 14, .bin .add (.t 7) (.t 13), none⟩, ⟨some 6, .mv (.t 14), none⟩] [0, 1, 2, 7, 8, 9, 10, 11, 12, 13, 14])
 (.ret [6])))
def r_base_Src_Range : List ARes := [.t 6]
def fn_base_Src_Range : AFn := .code c_base_Src_Range r_base_Src_Range 15 true
def c_base_Src_FromOf : ACode :=
 (.seq (.ops [] [⟨some 10, .alloc (.agg [.d (.bool false), .d (.int .i64 0), .d (.int .i64 0), .xsl [], .d (.int .i64 0), .d (.int .i64 0), .xsl [], .xsl []]), none⟩] [])
 (.seq (.seq (.ops [] [⟨some 14, .mv (.t 0), none⟩, ⟨some 15, .call N_base_Src_N [true, false] [.t 14, .c (.d (.int .i64 12))], none⟩, ⟨some 16, .bin .eql (.t 15) (.c (.d (.int .i64 11))), none⟩] [14, 15])
 (.cond (.t 16) (.seq (.ops [] [⟨some 18, .mv (.t 1), none⟩, ⟨some 19, .call N_ref07_Free [] [.t 18], none⟩, ⟨some 17, .mv (.t 19), none⟩, ⟨some 20, .ext (.t 17) 0, none⟩, ⟨some 21, .ext (.t 17) 1, none⟩, ⟨some 11, .alloc (.agg [.d (.bool false), .d (.int .i64 0), .d (.int .i64 0), .xsl [], .d (.int .i64 0), .d (.int .i64 0), .xsl [], .xsl []]), none⟩, ⟨none, .st 8 (.t 11) (.t 20), none⟩, ⟨some 12, .mv (.t 21), none⟩] [0, 1, 2, 3, 4, 12, 16, 17, 18, 19, 20, 21])
 (.seq (.ops [] [⟨some 22, .ld true 8 (.t 11), none⟩, ⟨none, .st 8 (.t 10) (.t 22), none⟩] [11, 22])
 (.ret [10]))) .skip))
 (.seq (.ops [] [⟨some 23, .mv (.t 3), none⟩, ⟨some 24, .mv (.t 4), none⟩, ⟨some 25, .mv (.t 0), none⟩, ⟨some 26, .mv (.t 1), none⟩, ⟨some 27, .mv (.t 2), none⟩, ⟨some 28, .mv (.t 3), none⟩, ⟨some 29, .mv (.t 4), none⟩, ⟨some 30, .call N_base_Src_RingOf [true, false, false, false, false, false] [.t 25, .t 26, .c (.d (.int .i64 6)), .t 27, .t 28, .t 29], none⟩, ⟨some 31, .build [.d (.bool false), .d (.int .i64 0), .d (.int .i64 0), .xsl [], .d (.int .i64 0), .d (.int .i64 0), .xsl [], .xsl []] [(0, (1, .c (.d (.bool true)))), (1, (1, .t 23)), (2, (1, .t 24)), (3, (3, .t 30))], none⟩, ⟨some 13, .alloc (.agg [.d (.bool false), .d (.int .i64 0), .d (.int .i64 0), .xsl [], .d (.int .i64 0), .d (.int .i64 0), .xsl [], .xsl []]), none⟩, ⟨none, .st 8 (.t 13) (.t 31), none⟩] [1, 16, 23, 24, 25, 26, 27, 28, 29, 30, 31])
 (.seq (.ops [] [⟨some 32, .mv (.t 0), none⟩, ⟨some 33, .fad true 3 3 (.t 13), none⟩, ⟨some 34, .fad false 0 1 (.t 33), none⟩, ⟨some 35, .ld false 1 (.t 34), none⟩, ⟨some 36, .len (.t 35), none⟩, ⟨some 37, .fad true 3 3 (.t 13), none⟩, ⟨some 38, .fad false 2 1 (.t 37), none⟩, ⟨some 39, .ld false 1 (.t 38), none⟩, ⟨some 40, .bin .sub (.t 36) (.t 39), none⟩, ⟨some 41, .mm false [.c (.d (.int .i64 4)), .t 40], none⟩, ⟨some 42, .mv (.t 2), none⟩, ⟨some 43, .bin .add (.t 42) (.c (.d (.int .i64 10))), none⟩, ⟨some 44, .mv (.t 3), none⟩, ⟨some 45, .mv (.t 4), none⟩, ⟨some 46, .call N_base_Src_Table [true, false, false, false, false] [.t 32, .t 41, .t 43, .t 44, .t 45], none⟩, ⟨some 47, .fad true 6 2 (.t 13), none⟩, ⟨none, .st 2 (.t 47) (.t 46), none⟩] [0, 2, 3, 4, 32, 33, 34, 35, 36, 37, 38, 39, 40, 41, 42, 43, 44, 45, 46, 47])
 (.seq (.ops [] [⟨some 48, .ld true 8 (.t 13), none⟩, ⟨none, .st 8 (.t 10) (.t 48), none⟩] [13, 48])
 (.ret [10]))))))
def r_base_Src_FromOf : List ARes := [.c 10 true 8]
def fn_base_Src_FromOf : AFn := .code c_base_Src_FromOf r_base_Src_FromOf 49 true
def c_ref07_Free : ACode :=
 (.seq (.ops [] [⟨some 2, .alloc (.agg [.d (.bool false), .d (.int .i64 0), .d (.int .i64 0), .xsl [], .d (.int .i64 0), .d (.int .i64 0), .xsl [], .xsl []]), none⟩, ⟨some 3, .mv (.c (.d (.int .i64 0))), none⟩] [3])
 (.seq (.ops [] [⟨some 7, .mv (.t 0), none⟩, ⟨some 8, .call N_ref04_New [] [.t 7], none⟩, ⟨some 6, .mv (.t 8), none⟩, ⟨some 9, .ext (.t 6) 0, none⟩, ⟨some 10, .ext (.t 6) 1, none⟩, ⟨some 4, .alloc (.agg [.xsl [], .d (.int .i64 0), .d (.int .i64 0)]), none⟩, ⟨none, .st 3 (.t 4) (.t 9), none⟩, ⟨some 5, .mv (.t 10), none⟩] [0, 6, 7, 8, 9, 10])
 (.seq (.seq (.ops [] [⟨some 11, .mv (.t 5), none⟩, ⟨some 12, .bin .neq (.t 11) (.c (.d (.int .i64 0))), none⟩] [11])
 (.cond (.t 12) (.seq (.ops [] [⟨some 13, .build [.d (.bool false), .d (.int .i64 0), .d (.int .i64 0), .xsl [], .d (.int .i64 0), .d (.int .i64 0), .xsl [], .xsl []] [], none⟩, ⟨some 14, .mv (.t 5), none⟩, ⟨none, .st 8 (.t 2) (.t 13), none⟩, ⟨some 3, .mv (.t 14), none⟩] [4, 5, 12, 13, 14])
 (.ret [2, 3])) .skip))
 (.seq (.ops [] [⟨some 15, .ld true 3 (.t 4), none⟩, ⟨some 16, .build [.d (.bool false), .d (.int .i64 0), .d (.int .i64 0), .xsl [], .d (.int .i64 0), .d (.int .i64 0), .xsl [], .xsl []] [(3, (3, .t 15))], none⟩, ⟨none, .st 8 (.t 2) (.t 16), none⟩, ⟨some 3, .mv (.c (.d (.int .i64 0))), none⟩] [4, 5, 12, 15, 16])
 (.ret [2, 3])))))
def r_ref07_Free : List ARes := [.c 2 true 8, .t 3]
def fn_ref07_Free : AFn := .code c_ref07_Free r_ref07_Free 17 true
def c_ref04_New : ACode :=
 (.seq (.ops [] [⟨some 2, .alloc (.agg [.xsl [], .d (.int .i64 0), .d (.int .i64 0)]), none⟩, ⟨some 3, .mv (.c (.d (.int .i64 0))), none⟩] [3])
 (.seq (.seq (.ops [] [⟨some 4, .mv (.t 0), none⟩, ⟨some 5, .bin .lss (.t 4) (.c (.d (.int .i64 1))), none⟩, ⟨some 6, .mv (.t 5), none⟩, ⟨some 7, .mv (.t 0), some (6, false)⟩, ⟨some 8, .bin .gtr (.t 7) (.c (.d (.int .i64 12))), some (6, false)⟩, ⟨some 9, .pick (.t 6) (.c (.d (.bool true))) (.t 8), none⟩] [4, 5, 6, 7, 8])
 (.cond (.t 9) (.seq (.ops [] [⟨some 10, .build [.xsl [], .d (.int .i64 0), .d (.int .i64 0)] [], none⟩, ⟨none, .st 3 (.t 2) (.t 10), none⟩, ⟨some 3, .mv (.c (.d (.int .i64 1))), none⟩] [0, 9, 10])
 (.ret [2, 3])) .skip))
 (.seq (.ops [] [⟨some 11, .mv (.t 0), none⟩, ⟨some 12, .mks 7 (.d (.agg [.int .i64 0, .int .i64 0, .int .i64 0, .int .i64 0, .int .i64 0, .int .i64 0, .str []])) (.t 11) (.t 11), none⟩, ⟨some 13, .build [.xsl [], .d (.int .i64 0), .d (.int .i64 0)] [(0, (1, .t 12))], none⟩, ⟨none, .st 3 (.t 2) (.t 13), none⟩, ⟨some 3, .mv (.c (.d (.int .i64 0))), none⟩] [0, 9, 11, 12, 13])
 (.ret [2, 3]))))
def r_ref04_New : List ARes := [.c 2 true 3, .t 3]
def fn_ref04_New : AFn := .code c_ref04_New r_ref04_New 14 true
def l_base_Src_RingOf_0 : ACode :=
 (.seq (.seq (.ops [] [⟨some 35, .mv (.t 15), none⟩, ⟨some 36, .bin .gtr (.t 35) (.c (.d (.int .i64 0))), none⟩] [35])
 (.cond (.t 36) .skip (.exit 0 [12, 13])))
 (.seq (.block 1 (.seq (.seq (.ops [] [⟨some 39, .mv (.t 0), none⟩, ⟨some 40, .call N_base_Src_N [true, false] [.t 39, .c (.d (.int .i64 2))], none⟩, ⟨some 41, .bin .eql (.t 40) (.c (.d (.int .i64 0))), none⟩] [36, 39, 40])
 (.cond (.t 41) (.draw [] [⟨some 43, .ld true 3 (.t 13), none⟩, ⟨some 44, .mv (.t 0), none⟩, ⟨some 45, .mv (.t 3), none⟩, ⟨some 46, .mv (.t 4), none⟩, ⟨some 47, .mv (.t 5), none⟩, ⟨some 48, .call N_base_Src_Message [true, false, false, false] [.t 44, .t 45, .t 46, .t 47], none⟩, ⟨some 49, .call N_ref04_PushBack [] [.t 43, .t 48], none⟩, ⟨some 42, .mv (.t 49), none⟩, ⟨some 50, .ext (.t 42) 0, none⟩, ⟨some 51, .ext (.t 42) 1, none⟩, ⟨none, .st 3 (.t 13) (.t 50), none⟩] [[], [0], [0, 1], [0, 1, 2], [0, 1, 2, 3], [0], [], [], [], [8], [9]] [41, 42, 43, 44, 45, 46, 47, 48, 49, 50, 51]) (.draw [] [⟨some 53, .ld true 3 (.t 13), none⟩, ⟨some 54, .mv (.t 0), none⟩, ⟨some 55, .mv (.t 3), none⟩, ⟨some 56, .mv (.t 4), none⟩, ⟨some 57, .mv (.t 5), none⟩, ⟨some 58, .call N_base_Src_Message [true, false, false, false] [.t 54, .t 55, .t 56, .t 57], none⟩, ⟨some 59, .call N_ref04_PushFront [] [.t 53, .t 58], none⟩, ⟨some 52, .mv (.t 59), none⟩, ⟨some 60, .ext (.t 52) 0, none⟩, ⟨some 61, .ext (.t 52) 1, none⟩, ⟨none, .st 3 (.t 13) (.t 60), none⟩] [[], [0], [0, 1], [0, 1, 2], [0, 1, 2, 3], [0], [], [], [], [8], [9]] [41, 52, 53, 54, 55, 56, 57, 58, 59, 60, 61])))
 (.ops [] [⟨some 62, .mv (.t 3), none⟩, ⟨some 63, .bin .add (.t 62) (.c (.d (.int .i64 1))), none⟩, ⟨some 3, .mv (.t 63), none⟩] [62, 63])))
 (.ops [] [⟨some 37, .mv (.t 15), none⟩, ⟨some 38, .bin .sub (.t 37) (.c (.d (.int .i64 1))), none⟩, ⟨some 15, .mv (.t 38), none⟩] [37, 38])))
def c_base_Src_RingOf : ACode :=
 (.seq (.ops [] [⟨some 12, .alloc (.agg [.xsl [], .d (.int .i64 0), .d (.int .i64 0)]), none⟩] [])
 (.seq (.ops [] [⟨some 17, .mv (.t 1), none⟩, ⟨some 18, .call N_ref04_New [] [.t 17], none⟩, ⟨some 16, .mv (.t 18), none⟩, ⟨some 19, .ext (.t 16) 0, none⟩, ⟨some 20, .ext (.t 16) 1, none⟩, ⟨some 13, .alloc (.agg [.xsl [], .d (.int .i64 0), .d (.int .i64 0)]), none⟩, ⟨none, .st 3 (.t 13) (.t 19), none⟩, ⟨some 14, .mv (.t 20), none⟩] [1, 14, 16, 17, 18, 19, 20])
 (.seq (.ops [] [⟨some 21, .mv (.t 0), none⟩, ⟨some 22, .fad false 0 1 (.t 13), none⟩, ⟨some 23, .ld false 1 (.t 22), none⟩, ⟨some 24, .len (.t 23), none⟩, ⟨some 25, .call N_base_Src_N [true, false] [.t 21, .t 24], none⟩, ⟨some 26, .fad false 1 1 (.t 13), none⟩, ⟨none, .st 1 (.t 26) (.t 25), none⟩] [21, 22, 23, 24, 25, 26])
 (.seq (.seq (.ops [] [⟨some 27, .mv (.t 0), none⟩, ⟨some 28, .mv (.t 2), none⟩, ⟨some 29, .fad false 0 1 (.t 13), none⟩, ⟨some 30, .ld false 1 (.t 29), none⟩, ⟨some 31, .len (.t 30), none⟩, ⟨some 32, .mm false [.t 28, .t 31], none⟩, ⟨some 33, .bin .add (.t 32) (.c (.d (.int .i64 1))), none⟩, ⟨some 34, .call N_base_Src_N [true, false] [.t 27, .t 33], none⟩, ⟨some 15, .mv (.t 34), none⟩] [2, 27, 28, 29, 30, 31, 32, 33, 34])
 (.block 0 (.loop [] l_base_Src_RingOf_0)))
 (.seq (.ops [] [⟨some 64, .ld true 3 (.t 13), none⟩, ⟨none, .st 3 (.t 12) (.t 64), none⟩] [0, 3, 4, 5, 13, 15, 36, 64])
 (.ret [12]))))))
def r_base_Src_RingOf : List ARes := [.c 12 true 3]
def fn_base_Src_RingOf : AFn := .code c_base_Src_RingOf r_base_Src_RingOf 65 true
def c_base_Src_Message : ACode :=
 (.seq (.ops [] [⟨some 8, .alloc (.d (.agg [.int .i64 0, .int .i64 0, .int .i64 0, .int .i64 0, .int .i64 0, .int .i64 0, .str []])), none⟩] [])
 (.seq (.ops [] [⟨some 10, .mv (.t 1), none⟩, ⟨some 11, .mv (.t 1), none⟩, ⟨some 12, .call N_ref02_Route [] [.t 11], none⟩, ⟨some 13, .mv (.t 2), none⟩, ⟨some 14, .mv (.t 3), none⟩, ⟨some 15, .call N_ref02_Into [] [.t 12, .t 13, .t 14], none⟩, ⟨some 16, .mv (.t 0), none⟩, ⟨some 17, .call N_base_Src_N [true, false] [.t 16, .c (.d (.int .i64 3))], none⟩, ⟨some 18, .mv (.t 0), none⟩, ⟨some 19, .call N_base_Src_N [true, false] [.t 18, .c (.d (.int .i64 4))], none⟩, ⟨some 20, .mv (.t 0), none⟩, ⟨some 21, .call N_base_Src_N [true, false] [.t 20, .c (.d (.int .i64 50))], none⟩, ⟨some 22, .mv (.t 0), none⟩, ⟨some 23, .call N_base_Src_Body [true] [.t 22], none⟩, ⟨some 24, .build [.d (.int .i64 0), .d (.int .i64 0), .d (.int .i64 0), .d (.int .i64 0), .d (.int .i64 0), .d (.int .i64 0), .d (.str [])] [(0, (1, .t 10)), (1, (1, .t 15)), (2, (1, .t 17)), (3, (1, .t 19)), (5, (1, .t 21)), (6, (1, .t 23))], none⟩, ⟨some 9, .alloc (.d (.agg [.int .i64 0, .int .i64 0, .int .i64 0, .int .i64 0, .int .i64 0, .int .i64 0, .str []])), none⟩, ⟨none, .st 7 (.t 9) (.t 24), none⟩] [1, 2, 3, 10, 11, 12, 13, 14, 15, 16, 17, 18, 19, 20, 21, 22, 23, 24])
 (.seq (.draw [] [⟨some 25, .fad false 3 1 (.t 9), none⟩, ⟨some 26, .ld false 1 (.t 25), none⟩, ⟨some 27, .mv (.t 0), none⟩, ⟨some 28, .call N_base_Src_N [true, false] [.t 27, .c (.d (.int .i64 3))], none⟩, ⟨some 29, .bin .add (.t 26) (.t 28), none⟩, ⟨some 30, .fad false 4 1 (.t 9), none⟩, ⟨none, .st 1 (.t 30) (.t 29), none⟩] [[], [], [0, 1], [0, 1], [], [], []] [25, 26, 27, 28, 29, 30])
 (.seq (.seq (.ops [] [⟨some 31, .mv (.t 0), none⟩, ⟨some 32, .call N_base_Src_N [true, false] [.t 31, .c (.d (.int .i64 20))], none⟩, ⟨some 33, .bin .eql (.t 32) (.c (.d (.int .i64 19))), none⟩] [0, 31, 32])
 (.cond (.t 33) (.ops [] [⟨some 34, .fad false 4 1 (.t 9), none⟩, ⟨none, .st 1 (.t 34) (.c (.d (.int .i64 65536))), none⟩] [33, 34]) .skip))
 (.seq (.ops [] [⟨some 35, .ld true 7 (.t 9), none⟩, ⟨none, .st 7 (.t 8) (.t 35), none⟩] [9, 33, 35])
 (.ret [8]))))))
def r_base_Src_Message : List ARes := [.c 8 true 7]
def fn_base_Src_Message : AFn := .code c_base_Src_Message r_base_Src_Message 36 true
def c_ref02_Route : ACode :=
 (.seq (.ops [] [⟨some 2, .mv (.c (.d (.int .i64 0))), none⟩] [2])
 (.seq (.seq (.ops [] [⟨some 6, .mv (.t 0), none⟩, ⟨some 7, .bin .lss (.t 6) (.c (.d (.int .i64 0))), none⟩, ⟨some 8, .mv (.t 7), none⟩, ⟨some 9, .mv (.t 0), some (8, false)⟩, ⟨some 10, .bin .gtr (.t 9) (.c (.d (.int .i64 1073741824))), some (8, false)⟩, ⟨some 11, .pick (.t 8) (.c (.d (.bool true))) (.t 10), none⟩] [6, 7, 8, 9, 10])
 (.cond (.t 11) (.seq (.ops [] [⟨some 2, .mv (.c (.d (.int .i64 0))), none⟩] [0, 11])
 (.ret [2])) .skip))
 (.seq (.ops [] [⟨some 13, .mv (.t 0), none⟩, ⟨some 14, .call N_ref01_Put [] [.c (.xsl []), .t 13, .c (.d (.int .i64 4))], none⟩, ⟨some 12, .mv (.t 14), none⟩, ⟨some 15, .ext (.t 12) 0, none⟩, ⟨some 16, .ext (.t 12) 1, none⟩, ⟨some 3, .mv (.t 15), none⟩, ⟨some 4, .mv (.t 16), none⟩] [0, 4, 11, 12, 13, 14, 15, 16])
 (.seq (.ops [] [⟨some 17, .mv (.t 3), none⟩, ⟨some 18, .call N_ref02_Sum [] [.t 17], none⟩, ⟨some 5, .mv (.t 18), none⟩] [3, 17, 18])
 (.seq (.ops [] [⟨some 19, .mv (.t 5), none⟩, ⟨some 20, .bin .shr (.t 19) (.c (.d (.int .u64 16))), none⟩, ⟨some 21, .mv (.t 5), none⟩, ⟨some 22, .bin .and (.t 21) (.c (.d (.int .i64 65535))), none⟩, ⟨some 23, .bin .xor (.t 20) (.t 22), none⟩, ⟨some 2, .mv (.t 23), none⟩] [5, 19, 20, 21, 22, 23])
 (.ret [2]))))))
def r_ref02_Route : List ARes := [.t 2]
def fn_ref02_Route : AFn := .code c_ref02_Route r_ref02_Route 24 true
def l_ref01_Put_0 : ACode :=
 (.seq (.seq (.ops [] [⟨some 32, .mv (.t 9), none⟩, ⟨some 33, .bin .geq (.t 32) (.c (.d (.int .i64 0))), none⟩] [32])
 (.cond (.t 33) .skip (.exit 0 [8])))
 (.seq (.block 1 (.ops [] [⟨some 36, .mv (.t 8), none⟩, ⟨some 37, .mv (.t 1), none⟩, ⟨some 38, .mv (.t 9), none⟩, ⟨some 39, .bin .mul (.c (.d (.int .i64 8))) (.t 38), none⟩, ⟨some 40, .cvi .u64 (.t 39), none⟩, ⟨some 41, .bin .shr (.t 37) (.t 40), none⟩, ⟨some 42, .cvi .u8 (.t 41), none⟩, ⟨some 43, .bsl 1 1 (.d (.int .u8 0)) [(0, .t 42)], none⟩, ⟨some 44, .app 1 (.t 36) (.t 43), none⟩, ⟨some 8, .mv (.t 44), none⟩] [33, 36, 37, 38, 39, 40, 41, 42, 43, 44]))
 (.ops [] [⟨some 34, .mv (.t 9), none⟩, ⟨some 35, .bin .sub (.t 34) (.c (.d (.int .i64 1))), none⟩, ⟨some 9, .mv (.t 35), none⟩] [34, 35])))
def c_ref01_Put : ACode :=
 (.seq (.ops [] [⟨some 6, .mv (.c (.xsl [])), none⟩, ⟨some 7, .mv (.c (.d (.int .i64 0))), none⟩] [6, 7])
 (.seq (.seq (.ops [] [⟨some 10, .mv (.t 2), none⟩, ⟨some 11, .bin .lss (.t 10) (.c (.d (.int .i64 1))), none⟩, ⟨some 12, .mv (.t 11), none⟩, ⟨some 13, .mv (.t 2), some (12, false)⟩, ⟨some 14, .bin .gtr (.t 13) (.c (.d (.int .i64 6))), some (12, false)⟩, ⟨some 15, .pick (.t 12) (.c (.d (.bool true))) (.t 14), none⟩, ⟨some 16, .mv (.t 15), none⟩, ⟨some 17, .mv (.t 1), some (16, false)⟩, ⟨some 18, .bin .lss (.t 17) (.c (.d (.int .i64 0))), some (16, false)⟩, ⟨some 19, .pick (.t 16) (.c (.d (.bool true))) (.t 18), none⟩, ⟨some 20, .mv (.t 19), none⟩, ⟨some 21, .mv (.t 1), some (20, false)⟩, ⟨some 22, .mv (.t 2), some (20, false)⟩, ⟨some 23, .bin .mul (.c (.d (.int .i64 8))) (.t 22), some (20, false)⟩, ⟨some 24, .cvi .u64 (.t 23), some (20, false)⟩, ⟨some 25, .bin .shl (.c (.d (.int .i64 1))) (.t 24), some (20, false)⟩, ⟨some 26, .bin .geq (.t 21) (.t 25), some (20, false)⟩, ⟨some 27, .pick (.t 20) (.c (.d (.bool true))) (.t 26), none⟩] [10, 11, 12, 13, 14, 15, 16, 17, 18, 19, 20, 21, 22, 23, 24, 25, 26])
 (.cond (.t 27) (.seq (.ops [] [⟨some 6, .mv (.c (.xsl [])), none⟩, ⟨some 7, .mv (.c (.d (.int .i64 1))), none⟩] [0, 1, 2, 27])
 (.ret [6, 7])) .skip))
 (.seq (.ops [] [⟨some 28, .mv (.t 0), none⟩, ⟨some 29, .app 1 (.c (.xsl [])) (.t 28), none⟩, ⟨some 8, .mv (.t 29), none⟩] [0, 27, 28, 29])
 (.seq (.seq (.ops [] [⟨some 30, .mv (.t 2), none⟩, ⟨some 31, .bin .sub (.t 30) (.c (.d (.int .i64 1))), none⟩, ⟨some 9, .mv (.t 31), none⟩] [2, 30, 31])
 (.block 0 (.loop [] l_ref01_Put_0)))
 (.seq (.ops [] [⟨some 45, .mv (.t 8), none⟩, ⟨some 6, .mv (.t 45), none⟩, ⟨some 7, .mv (.c (.d (.int .i64 0))), none⟩] [1, 8, 9, 33, 45])
 (.ret [6, 7]))))))
def r_ref01_Put : List ARes := [.t 6, .t 7]
def fn_ref01_Put : AFn := .code c_ref01_Put r_ref01_Put 46 true
def l_ref02_Sum_0 : ACode :=
 (.seq (.seq (.ops [] [⟨some 5, .mv (.t 4), none⟩, ⟨some 6, .mv (.t 0), none⟩, ⟨some 7, .len (.t 6), none⟩, ⟨some 8, .bin .lss (.t 5) (.t 7), none⟩] [5, 6, 7])
 (.cond (.t 8) .skip (.exit 0 [3])))
 (.seq (.block 1 (.ops [] [⟨some 11, .mv (.t 3), none⟩, ⟨some 12, .mv (.t 0), none⟩, ⟨some 13, .mv (.t 4), none⟩, ⟨some 14, .iad 1 (.t 12) (.t 13), none⟩, ⟨some 15, .ld false 1 (.t 14), none⟩, ⟨some 16, .cvi .i64 (.t 15), none⟩, ⟨some 17, .bin .xor (.t 11) (.t 16), none⟩, ⟨some 18, .bin .mul (.t 17) (.c (.d (.int .i64 16777619))), none⟩, ⟨some 19, .bin .and (.t 18) (.c (.d (.int .i64 4294967295))), none⟩, ⟨some 3, .mv (.t 19), none⟩] [8, 11, 12, 13, 14, 15, 16, 17, 18, 19]))
 (.ops [] [⟨some 9, .mv (.t 4), none⟩, ⟨some 10, .bin .add (.t 9) (.c (.d (.int .i64 1))), none⟩, ⟨some 4, .mv (.t 10), none⟩] [9, 10])))
def c_ref02_Sum : ACode :=
 (.seq (.ops [] [⟨some 2, .mv (.c (.d (.int .i64 0))), none⟩] [2])
 (.seq (.ops [] [⟨some 3, .mv (.c (.d (.int .i64 2166136261))), none⟩] [])
 (.seq (.seq (.ops [] [⟨some 4, .mv (.c (.d (.int .i64 0))), none⟩] [])
 (.block 0 (.loop [] l_ref02_Sum_0)))
 (.seq (.ops [] [⟨some 20, .mv (.t 3), none⟩, ⟨some 2, .mv (.t 20), none⟩] [0, 3, 4, 8, 20])
 (.ret [2])))))
def r_ref02_Sum : List ARes := [.t 2]
def fn_ref02_Sum : AFn := .code c_ref02_Sum r_ref02_Sum 21 true
def c_ref02_Into : ACode :=
 (.seq (.ops [] [⟨some 6, .mv (.c (.d (.int .i64 0))), none⟩] [6])
 (.seq (.seq (.ops [] [⟨some 7, .mv (.t 0), none⟩, ⟨some 8, .bin .lss (.t 7) (.c (.d (.int .i64 0))), none⟩, ⟨some 9, .mv (.t 8), none⟩, ⟨some 10, .mv (.t 0), some (9, false)⟩, ⟨some 11, .bin .geq (.t 10) (.c (.d (.int .i64 65536))), some (9, false)⟩, ⟨some 12, .pick (.t 9) (.c (.d (.bool true))) (.t 11), none⟩, ⟨some 13, .mv (.t 12), none⟩, ⟨some 14, .mv (.t 1), some (13, false)⟩, ⟨some 15, .bin .lss (.t 14) (.c (.d (.int .i64 0))), some (13, false)⟩, ⟨some 16, .pick (.t 13) (.c (.d (.bool true))) (.t 15), none⟩, ⟨some 17, .mv (.t 16), none⟩, ⟨some 18, .mv (.t 2), some (17, false)⟩, ⟨some 19, .bin .geq (.t 18) (.c (.d (.int .i64 65536))), some (17, false)⟩, ⟨some 20, .pick (.t 17) (.c (.d (.bool true))) (.t 19), none⟩, ⟨some 21, .mv (.t 20), none⟩, ⟨some 22, .mv (.t 1), some (21, false)⟩, ⟨some 23, .mv (.t 2), some (21, false)⟩, ⟨some 24, .bin .gtr (.t 22) (.t 23), some (21, false)⟩, ⟨some 25, .pick (.t 21) (.c (.d (.bool true))) (.t 24), none⟩] [7, 8, 9, 10, 11, 12, 13, 14, 15, 16, 17, 18, 19, 20, 21, 22, 23, 24])
 (.cond (.t 25) (.seq (.ops [] [⟨some 6, .mv (.c (.d (.int .i64 0))), none⟩] [0, 1, 2, 25])
 (.ret [6])) .skip))
 (.seq (.seq (.ops [] [⟨some 26, .mv (.t 0), none⟩, ⟨some 27, .mv (.t 1), none⟩, ⟨some 28, .bin .geq (.t 26) (.t 27), none⟩, ⟨some 29, .mv (.t 28), none⟩, ⟨some 30, .mv (.t 0), some (29, true)⟩, ⟨some 31, .mv (.t 2), some (29, true)⟩, ⟨some 32, .bin .leq (.t 30) (.t 31), some (29, true)⟩, ⟨some 33, .pick (.t 29) (.t 32) (.c (.d (.bool false))), none⟩] [25, 26, 27, 28, 29, 30, 31, 32])
 (.cond (.t 33) (.seq (.ops [] [⟨some 34, .mv (.t 0), none⟩, ⟨some 6, .mv (.t 34), none⟩] [0, 1, 2, 33, 34])
 (.ret [6])) .skip))
 (.seq (.ops [] [⟨some 35, .mv (.t 1), none⟩, ⟨some 36, .mv (.t 0), none⟩, ⟨some 37, .mv (.t 2), none⟩, ⟨some 38, .mv (.t 1), none⟩, ⟨some 39, .bin .sub (.t 37) (.t 38), none⟩, ⟨some 40, .bin .add (.t 39) (.c (.d (.int .i64 1))), none⟩, ⟨some 41, .bin .rem (.t 36) (.t 40), none⟩, ⟨some 42, .bin .add (.t 35) (.t 41), none⟩, ⟨some 6, .mv (.t 42), none⟩] [0, 1, 2, 33, 35, 36, 37, 38, 39, 40, 41, 42])
 (.ret [6])))))
def r_ref02_Into : List ARes := [.t 6]
def fn_ref02_Into : AFn := .code c_ref02_Into r_ref02_Into 43 true
def l_base_Src_Body_0 : ACode :=
 (.seq (.seq (.ops [] [⟨some 8, .mv (.t 4), none⟩, ⟨some 9, .mv (.t 3), none⟩, ⟨some 10, .len (.t 9), none⟩, ⟨some 11, .bin .lss (.t 8) (.t 10), none⟩] [8, 9, 10])
 (.cond (.t 11) .skip (.exit 0 [3])))
 (.seq (.block 1 (.ops [] [⟨some 14, .mv (.t 3), none⟩, ⟨some 15, .mv (.t 4), none⟩, ⟨some 16, .mv (.t 0), none⟩, ⟨some 17, .call N_base_Src_N [true, false] [.t 16, .c (.d (.int .i64 3))], none⟩, ⟨some 18, .bin .add (.c (.d (.int .i64 97))) (.t 17), none⟩, ⟨some 19, .cvi .u8 (.t 18), none⟩, ⟨some 20, .iad 1 (.t 14) (.t 15), none⟩, ⟨none, .st 1 (.t 20) (.t 19), none⟩] [11, 14, 15, 16, 17, 18, 19, 20]))
 (.ops [] [⟨some 12, .mv (.t 4), none⟩, ⟨some 13, .bin .add (.t 12) (.c (.d (.int .i64 1))), none⟩, ⟨some 4, .mv (.t 13), none⟩] [12, 13])))
def c_base_Src_Body : ACode :=
 (.seq (.ops [] [⟨some 2, .mv (.c (.d (.str []))), none⟩] [2])
 (.seq (.ops [] [⟨some 5, .mv (.t 0), none⟩, ⟨some 6, .call N_base_Src_N [true, false] [.t 5, .c (.d (.int .i64 4))], none⟩, ⟨some 7, .mks 1 (.d (.int .u8 0)) (.t 6) (.t 6), none⟩, ⟨some 3, .mv (.t 7), none⟩] [5, 6, 7])
 (.seq (.seq (.ops [] [⟨some 4, .mv (.c (.d (.int .i64 0))), none⟩] [])
 (.block 0 (.loop [] l_base_Src_Body_0)))
 (.seq (.ops [15] [⟨some 21, .mv (.t 3), none⟩, ⟨some 22, .b2s (.t 21), none⟩, ⟨some 2, .mv (.t 22), none⟩] [0, 3, 4, 11, 21, 22])
 (.ret [2])))))
def r_base_Src_Body : List ARes := [.t 2]
def fn_base_Src_Body : AFn := .code c_base_Src_Body r_base_Src_Body 23 true
def c_ref04_PushBack : ACode :=
 (.seq (.ops [] [⟨some 2, .box (.t 0), none⟩, ⟨some 3, .box (.t 1), none⟩, ⟨some 4, .alloc (.agg [.xsl [], .d (.int .i64 0), .d (.int .i64 0)]), none⟩, ⟨some 5, .mv (.c (.d (.int .i64 0))), none⟩] [0, 1, 5])
 (.seq (.seq (.ops [] [⟨some 7, .ld true 3 (.t 2), none⟩, ⟨some 8, .ld true 7 (.t 3), none⟩, ⟨some 9, .call N_ref04_pushable [] [.t 7, .t 8], none⟩, ⟨some 6, .mv (.t 9), none⟩] [7, 8, 9])
 (.seq (.ops [] [⟨some 10, .mv (.t 6), none⟩, ⟨some 11, .bin .neq (.t 10) (.c (.d (.int .i64 0))), none⟩] [10])
 (.cond (.t 11) (.seq (.ops [] [⟨some 12, .build [.xsl [], .d (.int .i64 0), .d (.int .i64 0)] [], none⟩, ⟨some 13, .mv (.t 6), none⟩, ⟨none, .st 3 (.t 4) (.t 12), none⟩, ⟨some 5, .mv (.t 13), none⟩] [2, 3, 6, 11, 12, 13])
 (.ret [4, 5])) .skip)))
 (.seq (.draw [] [⟨some 14, .ld true 3 (.t 2), none⟩, ⟨some 15, .fad false 1 1 (.t 2), none⟩, ⟨some 16, .ld false 1 (.t 15), none⟩, ⟨some 17, .ld true 3 (.t 2), none⟩, ⟨some 18, .call N_ref04_order [] [.t 17], none⟩, ⟨some 19, .ld true 7 (.t 3), none⟩, ⟨some 20, .bsl 1 7 (.d (.agg [.int .i64 0, .int .i64 0, .int .i64 0, .int .i64 0, .int .i64 0, .int .i64 0, .str []])) [(0, .t 19)], none⟩, ⟨some 21, .app 7 (.t 18) (.t 20), none⟩, ⟨some 22, .call N_ref04_with [false, false, false, true] [.t 14, .t 16, .t 21], none⟩, ⟨none, .st 3 (.t 4) (.t 22), none⟩, ⟨some 5, .mv (.c (.d (.int .i64 0))), none⟩] [[], [0], [0], [0, 1, 2], [0, 1, 2], [0, 1, 2, 3, 4], [0, 1, 2, 3, 4], [0, 1, 2], [], [], []] [2, 3, 6, 11, 14, 15, 16, 17, 18, 19, 20, 21, 22])
 (.ret [4, 5]))))
def r_ref04_PushBack : List ARes := [.c 4 true 3, .t 5]
def fn_ref04_PushBack : AFn := .code c_ref04_PushBack r_ref04_PushBack 23 true
def c_ref04_pushable : ACode :=
 (.seq (.ops [] [⟨some 2, .box (.t 0), none⟩, ⟨some 3, .box (.t 1), none⟩, ⟨some 4, .mv (.c (.d (.int .i64 0))), none⟩] [0, 1, 4])
 (.seq (.seq (.ops [] [⟨some 7, .ld true 3 (.t 2), none⟩, ⟨some 8, .call N_ref04_Validate [] [.t 7], none⟩, ⟨some 5, .mv (.t 8), none⟩] [7, 8])
 (.seq (.ops [] [⟨some 9, .mv (.t 5), none⟩, ⟨some 10, .bin .neq (.t 9) (.c (.d (.int .i64 0))), none⟩] [9])
 (.cond (.t 10) (.seq (.ops [] [⟨some 11, .mv (.t 5), none⟩, ⟨some 4, .mv (.t 11), none⟩] [2, 3, 5, 10, 11])
 (.ret [4])) .skip)))
 (.seq (.seq (.ops [] [⟨some 12, .ld true 7 (.t 3), none⟩, ⟨some 13, .call N_ref03_Validate [] [.t 12], none⟩, ⟨some 6, .mv (.t 13), none⟩] [5, 10, 12, 13])
 (.seq (.ops [] [⟨some 14, .mv (.t 6), none⟩, ⟨some 15, .bin .neq (.t 14) (.c (.d (.int .i64 0))), none⟩] [14])
 (.cond (.t 15) (.seq (.ops [] [⟨some 16, .mv (.t 6), none⟩, ⟨some 4, .mv (.t 16), none⟩] [2, 3, 6, 15, 16])
 (.ret [4])) .skip)))
 (.seq (.seq (.ops [] [⟨some 17, .fad false 2 1 (.t 2), none⟩, ⟨some 18, .ld false 1 (.t 17), none⟩, ⟨some 19, .fad false 0 1 (.t 2), none⟩, ⟨some 20, .ld false 1 (.t 19), none⟩, ⟨some 21, .len (.t 20), none⟩, ⟨some 22, .bin .eql (.t 18) (.t 21), none⟩] [6, 15, 17, 18, 19, 20, 21])
 (.cond (.t 22) (.seq (.ops [] [⟨some 4, .mv (.c (.d (.int .i64 3))), none⟩] [2, 3, 22])
 (.ret [4])) .skip))
 (.seq (.seq (.draw [] [⟨some 23, .ld true 3 (.t 2), none⟩, ⟨some 24, .call N_ref04_order [] [.t 23], none⟩, ⟨some 25, .fad false 0 1 (.t 3), none⟩, ⟨some 26, .ld false 1 (.t 25), none⟩, ⟨some 27, .call N_ref03_Index [] [.t 24, .t 26], none⟩, ⟨some 28, .bin .geq (.t 27) (.c (.d (.int .i64 0))), none⟩] [[], [], [0, 1], [0, 1], [], []] [2, 3, 22, 23, 24, 25, 26, 27])
 (.cond (.t 28) (.seq (.ops [] [⟨some 4, .mv (.c (.d (.int .i64 10))), none⟩] [28])
 (.ret [4])) .skip))
 (.seq (.ops [] [⟨some 4, .mv (.c (.d (.int .i64 0))), none⟩] [28])
 (.ret [4])))))))
def r_ref04_pushable : List ARes := [.t 4]
def fn_ref04_pushable : AFn := .code c_ref04_pushable r_ref04_pushable 29 true
def l_ref04_Validate_0 : ACode :=
 (.seq (.seq (.ops [] [⟨some 42, .mv (.t 4), none⟩, ⟨some 43, .mv (.t 3), none⟩, ⟨some 44, .bin .lss (.t 42) (.t 43), none⟩] [42, 43])
 (.cond (.t 44) .skip (.exit 0 [1])))
 (.seq (.block 1 (.seq (.draw [] [⟨some 47, .fad false 0 1 (.t 1), none⟩, ⟨some 48, .ld false 1 (.t 47), none⟩, ⟨some 49, .fad false 1 1 (.t 1), none⟩, ⟨some 50, .ld false 1 (.t 49), none⟩, ⟨some 51, .mv (.t 4), none⟩, ⟨some 52, .bin .add (.t 50) (.t 51), none⟩, ⟨some 53, .mv (.t 3), none⟩, ⟨some 54, .bin .rem (.t 52) (.t 53), none⟩, ⟨some 55, .iad 7 (.t 48) (.t 54), none⟩, ⟨some 56, .ld true 7 (.t 55), none⟩, ⟨some 57, .build [.d (.int .i64 0), .d (.int .i64 0), .d (.int .i64 0), .d (.int .i64 0), .d (.int .i64 0), .d (.int .i64 0), .d (.str [])] [], none⟩, ⟨some 58, .eqs true 7 [(0, 0), (1, 0), (2, 0), (3, 0), (4, 0), (5, 0), (6, 2)] (.t 56) (.t 57), none⟩] [[], [], [0, 1], [0, 1], [0, 1, 2, 3], [0, 1], [0, 1, 2, 3, 4, 5], [0, 1], [], [], [0, 1, 2, 3, 4, 5, 6, 7, 8, 9], []] [44, 47, 48, 49, 50, 51, 52, 53, 54, 55, 56, 57])
 (.cond (.t 58) (.seq (.ops [] [⟨some 2, .mv (.c (.d (.int .i64 7))), none⟩] [1, 3, 4, 58])
 (.ret [2])) .skip)))
 (.ops [] [⟨some 45, .mv (.t 4), none⟩, ⟨some 46, .bin .add (.t 45) (.c (.d (.int .i64 1))), none⟩, ⟨some 4, .mv (.t 46), none⟩] [45, 46, 58])))
def l_ref04_Validate_1 : ACode :=
 (.seq (.seq (.ops [] [⟨some 61, .mv (.t 6), none⟩, ⟨some 62, .mv (.t 5), none⟩, ⟨some 63, .len (.t 62), none⟩, ⟨some 64, .bin .lss (.t 61) (.t 63), none⟩] [61, 62, 63])
 (.cond (.t 64) .skip (.exit 2 [5])))
 (.seq (.block 3 (.seq (.ops [] [⟨some 67, .mv (.t 5), none⟩, ⟨some 68, .mv (.t 6), none⟩, ⟨some 69, .iad 7 (.t 67) (.t 68), none⟩, ⟨some 70, .ld true 7 (.t 69), none⟩, ⟨some 71, .call N_ref03_Validate [] [.t 70], none⟩, ⟨some 7, .mv (.t 71), none⟩] [64, 67, 68, 69, 70, 71])
 (.seq (.ops [] [⟨some 72, .mv (.t 7), none⟩, ⟨some 73, .bin .neq (.t 72) (.c (.d (.int .i64 0))), none⟩] [72])
 (.cond (.t 73) (.seq (.ops [] [⟨some 74, .mv (.t 7), none⟩, ⟨some 2, .mv (.t 74), none⟩] [5, 6, 7, 73, 74])
 (.ret [2])) .skip))))
 (.ops [] [⟨some 65, .mv (.t 6), none⟩, ⟨some 66, .bin .add (.t 65) (.c (.d (.int .i64 1))), none⟩, ⟨some 6, .mv (.t 66), none⟩] [7, 65, 66, 73])))
def l_ref04_Validate_2 : ACode :=
 (.seq (.seq (.ops [] [⟨some 75, .mv (.t 8), none⟩, ⟨some 76, .mv (.t 5), none⟩, ⟨some 77, .len (.t 76), none⟩, ⟨some 78, .bin .lss (.t 75) (.t 77), none⟩] [75, 76, 77])
 (.cond (.t 78) .skip (.exit 4 [])))
 (.seq (.block 5 (.seq (.ops [] [⟨some 81, .mv (.t 5), none⟩, ⟨some 82, .mv (.t 5), none⟩, ⟨some 83, .mv (.t 8), none⟩, ⟨some 84, .iad 7 (.t 82) (.t 83), none⟩, ⟨some 85, .fad false 0 1 (.t 84), none⟩, ⟨some 86, .ld false 1 (.t 85), none⟩, ⟨some 87, .call N_ref03_Index [] [.t 81, .t 86], none⟩, ⟨some 88, .mv (.t 8), none⟩, ⟨some 89, .bin .neq (.t 87) (.t 88), none⟩] [78, 81, 82, 83, 84, 85, 86, 87, 88])
 (.cond (.t 89) (.seq (.ops [] [⟨some 2, .mv (.c (.d (.int .i64 10))), none⟩] [5, 8, 89])
 (.ret [2])) .skip)))
 (.ops [] [⟨some 79, .mv (.t 8), none⟩, ⟨some 80, .bin .add (.t 79) (.c (.d (.int .i64 1))), none⟩, ⟨some 8, .mv (.t 80), none⟩] [79, 80, 89])))
def c_ref04_Validate : ACode :=
 (.seq (.ops [] [⟨some 1, .box (.t 0), none⟩, ⟨some 2, .mv (.c (.d (.int .i64 0))), none⟩] [0, 2])
 (.seq (.ops [] [⟨some 9, .fad false 0 1 (.t 1), none⟩, ⟨some 10, .ld false 1 (.t 9), none⟩, ⟨some 11, .len (.t 10), none⟩, ⟨some 3, .mv (.t 11), none⟩] [9, 10, 11])
 (.seq (.seq (.ops [] [⟨some 12, .mv (.t 3), none⟩, ⟨some 13, .bin .lss (.t 12) (.c (.d (.int .i64 1))), none⟩, ⟨some 14, .mv (.t 13), none⟩, ⟨some 15, .mv (.t 3), some (14, false)⟩, ⟨some 16, .bin .gtr (.t 15) (.c (.d (.int .i64 12))), some (14, false)⟩, ⟨some 17, .pick (.t 14) (.c (.d (.bool true))) (.t 16), none⟩, ⟨some 18, .mv (.t 17), none⟩, ⟨some 19, .fad false 1 1 (.t 1), some (18, false)⟩, ⟨some 20, .ld false 1 (.t 19), some (18, false)⟩, ⟨some 21, .bin .lss (.t 20) (.c (.d (.int .i64 0))), some (18, false)⟩, ⟨some 22, .pick (.t 18) (.c (.d (.bool true))) (.t 21), none⟩, ⟨some 23, .mv (.t 22), none⟩, ⟨some 24, .fad false 1 1 (.t 1), some (23, false)⟩, ⟨some 25, .ld false 1 (.t 24), some (23, false)⟩, ⟨some 26, .mv (.t 3), some (23, false)⟩, ⟨some 27, .bin .geq (.t 25) (.t 26), some (23, false)⟩, ⟨some 28, .pick (.t 23) (.c (.d (.bool true))) (.t 27), none⟩, ⟨some 29, .mv (.t 28), none⟩, ⟨some 30, .fad false 2 1 (.t 1), some (29, false)⟩, ⟨some 31, .ld false 1 (.t 30), some (29, false)⟩, ⟨some 32, .bin .lss (.t 31) (.c (.d (.int .i64 0))), some (29, false)⟩, ⟨some 33, .pick (.t 29) (.c (.d (.bool true))) (.t 32), none⟩, ⟨some 34, .mv (.t 33), none⟩, ⟨some 35, .fad false 2 1 (.t 1), some (34, false)⟩, ⟨some 36, .ld false 1 (.t 35), some (34, false)⟩, ⟨some 37, .mv (.t 3), some (34, false)⟩, ⟨some 38, .bin .gtr (.t 36) (.t 37), some (34, false)⟩, ⟨some 39, .pick (.t 34) (.c (.d (.bool true))) (.t 38), none⟩] [12, 13, 14, 15, 16, 17, 18, 19, 20, 21, 22, 23, 24, 25, 26, 27, 28, 29, 30, 31, 32, 33, 34, 35, 36, 37, 38])
 (.cond (.t 39) (.seq (.ops [] [⟨some 2, .mv (.c (.d (.int .i64 1))), none⟩] [1, 3, 39])
 (.ret [2])) .skip))
 (.seq (.seq (.ops [] [⟨some 40, .fad false 2 1 (.t 1), none⟩, ⟨some 41, .ld false 1 (.t 40), none⟩, ⟨some 4, .mv (.t 41), none⟩] [39, 40, 41])
 (.block 0 (.loop [] l_ref04_Validate_0)))
 (.seq (.ops [] [⟨some 59, .ld true 3 (.t 1), none⟩, ⟨some 60, .call N_ref04_order [] [.t 59], none⟩, ⟨some 5, .mv (.t 60), none⟩] [1, 3, 4, 44, 59, 60])
 (.seq (.seq (.ops [] [⟨some 6, .mv (.c (.d (.int .i64 0))), none⟩] [])
 (.block 2 (.loop [] l_ref04_Validate_1)))
 (.seq (.seq (.ops [] [⟨some 8, .mv (.c (.d (.int .i64 0))), none⟩] [6, 64])
 (.block 4 (.loop [] l_ref04_Validate_2)))
 (.seq (.ops [] [⟨some 2, .mv (.c (.d (.int .i64 0))), none⟩] [5, 8, 78])
 (.ret [2])))))))))
def r_ref04_Validate : List ARes := [.t 2]
def fn_ref04_Validate : AFn := .code c_ref04_Validate r_ref04_Validate 90 true
def l_ref04_order_0 : ACode :=
 (.seq (.seq (.ops [] [⟨some 5, .mv (.t 4), none⟩, ⟨some 6, .fad false 2 1 (.t 1), none⟩, ⟨some 7, .ld false 1 (.t 6), none⟩, ⟨some 8, .bin .lss (.t 5) (.t 7), none⟩] [5, 6, 7])
 (.cond (.t 8) .skip (.exit 0 [3])))
 (.seq (.block 1 (.draw [] [⟨some 11, .mv (.t 3), none⟩, ⟨some 12, .fad false 0 1 (.t 1), none⟩, ⟨some 13, .ld false 1 (.t 12), none⟩, ⟨some 14, .fad false 1 1 (.t 1), none⟩, ⟨some 15, .ld false 1 (.t 14), none⟩, ⟨some 16, .mv (.t 4), none⟩, ⟨some 17, .bin .add (.t 15) (.t 16), none⟩, ⟨some 18, .fad false 0 1 (.t 1), none⟩, ⟨some 19, .ld false 1 (.t 18), none⟩, ⟨some 20, .len (.t 19), none⟩, ⟨some 21, .bin .rem (.t 17) (.t 20), none⟩, ⟨some 22, .iad 7 (.t 13) (.t 21), none⟩, ⟨some 23, .ld true 7 (.t 22), none⟩, ⟨some 24, .bsl 1 7 (.d (.agg [.int .i64 0, .int .i64 0, .int .i64 0, .int .i64 0, .int .i64 0, .int .i64 0, .str []])) [(0, .t 23)], none⟩, ⟨some 25, .app 7 (.t 11) (.t 24), none⟩, ⟨some 3, .mv (.t 25), none⟩] [[], [0], [0], [0, 1, 2], [0, 1, 2], [0, 1, 2, 3, 4], [0, 1, 2], [0, 1, 2, 3, 4, 5, 6], [0, 1, 2, 3, 4, 5, 6], [0, 1, 2, 3, 4, 5, 6], [0, 1, 2], [0], [0], [0], [], []] [8, 11, 12, 13, 14, 15, 16, 17, 18, 19, 20, 21, 22, 23, 24, 25]))
 (.ops [] [⟨some 9, .mv (.t 4), none⟩, ⟨some 10, .bin .add (.t 9) (.c (.d (.int .i64 1))), none⟩, ⟨some 4, .mv (.t 10), none⟩] [9, 10])))
def c_ref04_order : ACode :=
 (.seq (.ops [] [⟨some 1, .box (.t 0), none⟩, ⟨some 2, .mv (.c (.xsl [])), none⟩] [0, 2])
 (.seq (.ops [] [⟨some 3, .nacc, none⟩] [])
 (.seq (.seq (.ops [] [⟨some 4, .mv (.c (.d (.int .i64 0))), none⟩] [])
 (.block 0 (.loop [] l_ref04_order_0)))
 (.seq (.ops [] [⟨some 26, .mv (.t 3), none⟩, ⟨some 2, .mv (.t 26), none⟩] [1, 3, 4, 8, 26])
 (.ret [2])))))
def r_ref04_order : List ARes := [.t 2]
def fn_ref04_order : AFn := .code c_ref04_order r_ref04_order 27 false
def c_ref03_Validate : ACode :=
 (.seq (.ops [] [⟨some 1, .box (.t 0), none⟩, ⟨some 2, .mv (.c (.d (.int .i64 0))), none⟩] [0, 2])
 (.seq (.seq (.ops [] [⟨some 3, .fad false 0 1 (.t 1), none⟩, ⟨some 4, .ld false 1 (.t 3), none⟩, ⟨some 5, .call N_ref03_in [] [.t 4, .c (.d (.int .i64 1)), .c (.d (.int .i64 1073741824))], none⟩, ⟨some 6, .un .not (.t 5), none⟩, ⟨some 7, .mv (.t 6), none⟩, ⟨some 8, .fad false 1 1 (.t 1), some (7, false)⟩, ⟨some 9, .ld false 1 (.t 8), some (7, false)⟩, ⟨some 10, .call N_ref03_in [] [.t 9, .c (.d (.int .i64 0)), .c (.d (.int .i64 65535))], some (7, false)⟩, ⟨some 11, .un .not (.t 10), some (7, false)⟩, ⟨some 12, .pick (.t 7) (.c (.d (.bool true))) (.t 11), none⟩, ⟨some 13, .mv (.t 12), none⟩, ⟨some 14, .fad false 2 1 (.t 1), some (13, false)⟩, ⟨some 15, .ld false 1 (.t 14), some (13, false)⟩, ⟨some 16, .call N_ref03_in [] [.t 15, .c (.d (.int .i64 0)), .c (.d (.int .i64 65536))], some (13, false)⟩, ⟨some 17, .un .not (.t 16), some (13, false)⟩, ⟨some 18, .pick (.t 13) (.c (.d (.bool true))) (.t 17), none⟩, ⟨some 19, .mv (.t 18), none⟩, ⟨some 20, .fad false 3 1 (.t 1), some (19, false)⟩, ⟨some 21, .ld false 1 (.t 20), some (19, false)⟩, ⟨some 22, .call N_ref03_in [] [.t 21, .c (.d (.int .i64 0)), .c (.d (.int .i64 8))], some (19, false)⟩, ⟨some 23, .un .not (.t 22), some (19, false)⟩, ⟨some 24, .pick (.t 19) (.c (.d (.bool true))) (.t 23), none⟩, ⟨some 25, .mv (.t 24), none⟩, ⟨some 26, .fad false 4 1 (.t 1), some (25, false)⟩, ⟨some 27, .ld false 1 (.t 26), some (25, false)⟩, ⟨some 28, .fad false 3 1 (.t 1), some (25, false)⟩, ⟨some 29, .ld false 1 (.t 28), some (25, false)⟩, ⟨some 30, .call N_ref03_in [] [.t 27, .t 29, .c (.d (.int .i64 65536))], some (25, false)⟩, ⟨some 31, .un .not (.t 30), some (25, false)⟩, ⟨some 32, .pick (.t 25) (.c (.d (.bool true))) (.t 31), none⟩, ⟨some 33, .mv (.t 32), none⟩, ⟨some 34, .fad false 5 1 (.t 1), some (33, false)⟩, ⟨some 35, .ld false 1 (.t 34), some (33, false)⟩, ⟨some 36, .call N_ref03_in [] [.t 35, .c (.d (.int .i64 0)), .c (.d (.int .i64 1073741824))], some (33, false)⟩, ⟨some 37, .un .not (.t 36), some (33, false)⟩, ⟨some 38, .pick (.t 33) (.c (.d (.bool true))) (.t 37), none⟩] [3, 4, 5, 6, 7, 8, 9, 10, 11, 12, 13, 14, 15, 16, 17, 18, 19, 20, 21, 22, 23, 24, 25, 26, 27, 28, 29, 30, 31, 32, 33, 34, 35, 36, 37])
 (.cond (.t 38) (.seq (.ops [] [⟨some 2, .mv (.c (.d (.int .i64 1))), none⟩] [1, 38])
 (.ret [2])) .skip))
 (.seq (.seq (.ops [] [⟨some 39, .fad false 6 1 (.t 1), none⟩, ⟨some 40, .ld false 1 (.t 39), none⟩, ⟨some 41, .lens (.t 40), none⟩, ⟨some 42, .bin .gtr (.t 41) (.c (.d (.int .i64 16))), none⟩] [1, 38, 39, 40, 41])
 (.cond (.t 42) (.seq (.ops [] [⟨some 2, .mv (.c (.d (.int .i64 2))), none⟩] [42])
 (.ret [2])) .skip))
 (.seq (.ops [] [⟨some 2, .mv (.c (.d (.int .i64 0))), none⟩] [42])
 (.ret [2])))))
def r_ref03_Validate : List ARes := [.t 2]
def fn_ref03_Validate : AFn := .code c_ref03_Validate r_ref03_Validate 43 true
def c_ref03_in : ACode :=
 (.seq (.ops [] [⟨some 6, .mv (.c (.d (.bool false))), none⟩] [6])
 (.seq (.ops [] [⟨some 7, .mv (.t 0), none⟩, ⟨some 8, .mv (.t 1), none⟩, ⟨some 9, .bin .geq (.t 7) (.t 8), none⟩, ⟨some 10, .mv (.t 9), none⟩, ⟨some 11, .mv (.t 0), some (10, true)⟩, ⟨some 12, .mv (.t 2), some (10, true)⟩, ⟨some 13, .bin .leq (.t 11) (.t 12), some (10, true)⟩, ⟨some 14, .pick (.t 10) (.t 13) (.c (.d (.bool false))), none⟩, ⟨some 6, .mv (.t 14), none⟩] [0, 1, 2, 7, 8, 9, 10, 11, 12, 13, 14])
 (.ret [6])))
def r_ref03_in : List ARes := [.t 6]
def fn_ref03_in : AFn := .code c_ref03_in r_ref03_in 15 true
def l_ref03_Index_0 : ACode :=
 (.seq (.seq (.ops [] [⟨some 6, .mv (.t 5), none⟩, ⟨some 7, .mv (.t 0), none⟩, ⟨some 8, .len (.t 7), none⟩, ⟨some 9, .bin .lss (.t 6) (.t 8), none⟩] [6, 7, 8])
 (.cond (.t 9) .skip (.exit 0 [])))
 (.seq (.block 1 (.seq (.ops [] [⟨some 12, .mv (.t 0), none⟩, ⟨some 13, .mv (.t 5), none⟩, ⟨some 14, .iad 7 (.t 12) (.t 13), none⟩, ⟨some 15, .fad false 0 1 (.t 14), none⟩, ⟨some 16, .ld false 1 (.t 15), none⟩, ⟨some 17, .mv (.t 1), none⟩, ⟨some 18, .bin .eql (.t 16) (.t 17), none⟩] [9, 12, 13, 14, 15, 16, 17])
 (.cond (.t 18) (.seq (.ops [] [⟨some 19, .mv (.t 5), none⟩, ⟨some 4, .mv (.t 19), none⟩] [0, 1, 5, 18, 19])
 (.ret [4])) .skip)))
 (.ops [] [⟨some 10, .mv (.t 5), none⟩, ⟨some 11, .bin .add (.t 10) (.c (.d (.int .i64 1))), none⟩, ⟨some 5, .mv (.t 11), none⟩] [10, 11, 18])))
def c_ref03_Index : ACode :=
 (.seq (.ops [] [⟨some 4, .mv (.c (.d (.int .i64 0))), none⟩] [4])
 (.seq (.seq (.ops [] [⟨some 5, .mv (.c (.d (.int .i64 0))), none⟩] [])
 (.block 0 (.loop [] l_ref03_Index_0)))
 (.seq (.ops [] [⟨some 4, .mv (.c (.d (.int .i64 (-1)))), none⟩] [0, 1, 5, 9])
 (.ret [4]))))
def r_ref03_Index : List ARes := [.t 4]
def fn_ref03_Index : AFn := .code c_ref03_Index r_ref03_Index 20 true
def l_ref04_with_0 : ACode :=
 (.seq (.seq (.ops [] [⟨some 17, .mv (.t 8), none⟩, ⟨some 18, .mv (.t 2), none⟩, ⟨some 19, .len (.t 18), none⟩, ⟨some 20, .bin .lss (.t 17) (.t 19), none⟩] [17, 18, 19])
 (.cond (.t 20) .skip (.exit 0 [6, 7])))
 (.seq (.block 1 (.draw [] [⟨some 23, .fad false 0 1 (.t 7), none⟩, ⟨some 24, .ld false 1 (.t 23), none⟩, ⟨some 25, .mv (.t 1), none⟩, ⟨some 26, .mv (.t 8), none⟩, ⟨some 27, .bin .add (.t 25) (.t 26), none⟩, ⟨some 28, .fad false 0 1 (.t 7), none⟩, ⟨some 29, .ld false 1 (.t 28), none⟩, ⟨some 30, .len (.t 29), none⟩, ⟨some 31, .bin .rem (.t 27) (.t 30), none⟩, ⟨some 32, .mv (.t 2), none⟩, ⟨some 33, .mv (.t 8), none⟩, ⟨some 34, .iad 7 (.t 32) (.t 33), none⟩, ⟨some 35, .ld true 7 (.t 34), none⟩, ⟨some 36, .iad 7 (.t 24) (.t 31), none⟩, ⟨none, .st 7 (.t 36) (.t 35), none⟩] [[], [], [0, 1], [0, 1, 2], [0, 1], [0, 1, 2, 3, 4], [0, 1, 2, 3, 4], [0, 1, 2, 3, 4], [0, 1], [0, 1, 2, 3, 4, 5, 6, 7, 8], [0, 1, 2, 3, 4, 5, 6, 7, 8, 9], [0, 1, 2, 3, 4, 5, 6, 7, 8], [0, 1, 2, 3, 4, 5, 6, 7, 8], [], []] [20, 23, 24, 25, 26, 27, 28, 29, 30, 31, 32, 33, 34, 35, 36]))
 (.ops [] [⟨some 21, .mv (.t 8), none⟩, ⟨some 22, .bin .add (.t 21) (.c (.d (.int .i64 1))), none⟩, ⟨some 8, .mv (.t 22), none⟩] [21, 22])))
def c_ref04_with : ACode :=
 (.seq (.ops [] [⟨some 3, .box (.t 0), none⟩, ⟨some 6, .alloc (.agg [.xsl [], .d (.int .i64 0), .d (.int .i64 0)]), none⟩] [0])
 (.seq (.ops [] [⟨some 9, .fad false 0 1 (.t 3), none⟩, ⟨some 10, .ld false 1 (.t 9), none⟩, ⟨some 11, .len (.t 10), none⟩, ⟨some 12, .mks 7 (.d (.agg [.int .i64 0, .int .i64 0, .int .i64 0, .int .i64 0, .int .i64 0, .int .i64 0, .str []])) (.t 11) (.t 11), none⟩, ⟨some 13, .mv (.t 1), none⟩, ⟨some 14, .mv (.t 2), none⟩, ⟨some 15, .len (.t 14), none⟩, ⟨some 16, .build [.xsl [], .d (.int .i64 0), .d (.int .i64 0)] [(0, (1, .t 12)), (1, (1, .t 13)), (2, (1, .t 15))], none⟩, ⟨some 7, .alloc (.agg [.xsl [], .d (.int .i64 0), .d (.int .i64 0)]), none⟩, ⟨none, .st 3 (.t 7) (.t 16), none⟩] [3, 9, 10, 11, 12, 13, 14, 15, 16])
 (.seq (.seq (.ops [] [⟨some 8, .mv (.c (.d (.int .i64 0))), none⟩] [])
 (.block 0 (.loop [] l_ref04_with_0)))
 (.seq (.ops [] [⟨some 37, .ld true 3 (.t 7), none⟩, ⟨none, .st 3 (.t 6) (.t 37), none⟩] [1, 2, 7, 8, 20, 37])
 (.ret [6])))))
def r_ref04_with : List ARes := [.c 6 true 3]
def fn_ref04_with : AFn := .code c_ref04_with r_ref04_with 38 true
def c_ref04_PushFront : ACode :=
 (.seq (.ops [] [⟨some 2, .box (.t 0), none⟩, ⟨some 3, .box (.t 1), none⟩, ⟨some 4, .alloc (.agg [.xsl [], .d (.int .i64 0), .d (.int .i64 0)]), none⟩, ⟨some 5, .mv (.c (.d (.int .i64 0))), none⟩] [0, 1, 5])
 (.seq (.seq (.ops [] [⟨some 8, .ld true 3 (.t 2), none⟩, ⟨some 9, .ld true 7 (.t 3), none⟩, ⟨some 10, .call N_ref04_pushable [] [.t 8, .t 9], none⟩, ⟨some 6, .mv (.t 10), none⟩] [8, 9, 10])
 (.seq (.ops [] [⟨some 11, .mv (.t 6), none⟩, ⟨some 12, .bin .neq (.t 11) (.c (.d (.int .i64 0))), none⟩] [11])
 (.cond (.t 12) (.seq (.ops [] [⟨some 13, .build [.xsl [], .d (.int .i64 0), .d (.int .i64 0)] [], none⟩, ⟨some 14, .mv (.t 6), none⟩, ⟨none, .st 3 (.t 4) (.t 13), none⟩, ⟨some 5, .mv (.t 14), none⟩] [2, 3, 6, 12, 13, 14])
 (.ret [4, 5])) .skip)))
 (.seq (.ops [] [⟨some 15, .fad false 0 1 (.t 2), none⟩, ⟨some 16, .ld false 1 (.t 15), none⟩, ⟨some 17, .len (.t 16), none⟩, ⟨some 7, .mv (.t 17), none⟩] [6, 12, 15, 16, 17])
 (.seq (.draw [] [⟨some 18, .ld true 3 (.t 2), none⟩, ⟨some 19, .fad false 1 1 (.t 2), none⟩, ⟨some 20, .ld false 1 (.t 19), none⟩, ⟨some 21, .mv (.t 7), none⟩, ⟨some 22, .bin .add (.t 20) (.t 21), none⟩, ⟨some 23, .bin .sub (.t 22) (.c (.d (.int .i64 1))), none⟩, ⟨some 24, .mv (.t 7), none⟩, ⟨some 25, .bin .rem (.t 23) (.t 24), none⟩, ⟨some 26, .ld true 7 (.t 3), none⟩, ⟨some 27, .bsl 1 7 (.d (.agg [.int .i64 0, .int .i64 0, .int .i64 0, .int .i64 0, .int .i64 0, .int .i64 0, .str []])) [(0, .t 26)], none⟩, ⟨some 28, .ld true 3 (.t 2), none⟩, ⟨some 29, .call N_ref04_order [] [.t 28], none⟩, ⟨some 30, .app 7 (.t 27) (.t 29), none⟩, ⟨some 31, .call N_ref04_with [false, false, false, true] [.t 18, .t 25, .t 30], none⟩, ⟨none, .st 3 (.t 4) (.t 31), none⟩, ⟨some 5, .mv (.c (.d (.int .i64 0))), none⟩] [[], [0], [0], [0, 1, 2], [0], [0], [0, 1, 2, 3, 4, 5], [0], [0, 1, 2, 3, 4, 5, 6, 7], [0, 1, 2, 3, 4, 5, 6, 7], [0, 1, 2, 3, 4, 5, 6, 7, 8, 9], [0, 1, 2, 3, 4, 5, 6, 7, 8, 9], [0, 1, 2, 3, 4, 5, 6, 7], [], [], []] [2, 3, 7, 18, 19, 20, 21, 22, 23, 24, 25, 26, 27, 28, 29, 30, 31])
 (.ret [4, 5])))))
def r_ref04_PushFront : List ARes := [.c 4 true 3, .t 5]
def fn_ref04_PushFront : AFn := .code c_ref04_PushFront r_ref04_PushFront 32 true
def l_base_Src_Table_0 : ACode :=
 (.seq (.seq (.ops [] [⟨some 18, .mv (.t 12), none⟩, ⟨some 19, .bin .gtr (.t 18) (.c (.d (.int .i64 0))), none⟩] [18])
 (.cond (.t 19) .skip (.exit 0 [10, 11])))
 (.seq (.block 1 (.seq (.ops [] [⟨some 22, .mv (.t 0), none⟩, ⟨some 23, .mv (.t 2), none⟩, ⟨some 24, .mv (.t 3), none⟩, ⟨some 25, .mv (.t 4), none⟩, ⟨some 26, .call N_base_Src_Message [true, false, false, false] [.t 22, .t 23, .t 24, .t 25], none⟩, ⟨some 13, .alloc (.d (.agg [.int .i64 0, .int .i64 0, .int .i64 0, .int .i64 0, .int .i64 0, .int .i64 0, .str []])), none⟩, ⟨none, .st 7 (.t 13) (.t 26), none⟩] [19, 22, 23, 24, 25, 26])
 (.seq (.ops [] [⟨some 27, .fad false 4 1 (.t 13), none⟩, ⟨some 28, .ld false 1 (.t 27), none⟩, ⟨some 29, .mm true [.t 28, .c (.d (.int .i64 1))], none⟩, ⟨some 30, .fad false 4 1 (.t 13), none⟩, ⟨none, .st 1 (.t 30) (.t 29), none⟩] [27, 28, 29, 30])
 (.seq (.draw [] [⟨some 32, .ld true 2 (.t 11), none⟩, ⟨some 33, .ld true 7 (.t 13), none⟩, ⟨some 34, .mv (.t 0), none⟩, ⟨some 35, .call N_base_Src_N [true, false] [.t 34, .c (.d (.int .i64 30))], none⟩, ⟨some 36, .call N_ref06_Grant [] [.t 32, .t 33, .t 35], none⟩, ⟨some 31, .mv (.t 36), none⟩, ⟨some 37, .ext (.t 31) 0, none⟩, ⟨some 38, .ext (.t 31) 1, none⟩, ⟨none, .st 2 (.t 11) (.t 37), none⟩] [[], [0], [0, 1], [0, 1], [], [], [], [6], [7]] [13, 31, 32, 33, 34, 35, 36, 37, 38])
 (.ops [] [⟨some 39, .mv (.t 2), none⟩, ⟨some 40, .mv (.t 0), none⟩, ⟨some 41, .call N_base_Src_Range [true, false, false] [.t 40, .c (.d (.int .i64 1)), .c (.d (.int .i64 3))], none⟩, ⟨some 42, .bin .add (.t 39) (.t 41), none⟩, ⟨some 2, .mv (.t 42), none⟩] [39, 40, 41, 42])))))
 (.ops [] [⟨some 20, .mv (.t 12), none⟩, ⟨some 21, .bin .sub (.t 20) (.c (.d (.int .i64 1))), none⟩, ⟨some 12, .mv (.t 21), none⟩] [20, 21])))
def c_base_Src_Table : ACode :=
 (.seq (.ops [] [⟨some 10, .alloc (.agg [.xsl [], .xsl []]), none⟩] [])
 (.seq (.ops [] [⟨some 11, .alloc (.agg [.xsl [], .xsl []]), none⟩] [])
 (.seq (.seq (.ops [] [⟨some 14, .mv (.t 0), none⟩, ⟨some 15, .mv (.t 1), none⟩, ⟨some 16, .bin .add (.t 15) (.c (.d (.int .i64 1))), none⟩, ⟨some 17, .call N_base_Src_N [true, false] [.t 14, .t 16], none⟩, ⟨some 12, .mv (.t 17), none⟩] [1, 14, 15, 16, 17])
 (.block 0 (.loop [] l_base_Src_Table_0)))
 (.seq (.ops [] [⟨some 43, .ld true 2 (.t 11), none⟩, ⟨none, .st 2 (.t 10) (.t 43), none⟩] [0, 2, 3, 4, 11, 12, 19, 43])
 (.ret [10])))))
def r_base_Src_Table : List ARes := [.c 10 true 2]
def fn_base_Src_Table : AFn := .code c_base_Src_Table r_base_Src_Table 44 true
def l_ref06_Grant_0 : ACode :=
 (.seq (.seq (.draw [] [⟨some 52, .mv (.t 10), none⟩, ⟨some 53, .fad false 0 1 (.t 3), none⟩, ⟨some 54, .ld false 1 (.t 53), none⟩, ⟨some 55, .len (.t 54), none⟩, ⟨some 56, .bin .lss (.t 52) (.t 55), none⟩, ⟨some 57, .mv (.t 56), none⟩, ⟨some 58, .fad false 0 1 (.t 3), some (57, true)⟩, ⟨some 59, .ld false 1 (.t 58), some (57, true)⟩, ⟨some 60, .mv (.t 10), some (57, true)⟩, ⟨some 61, .iad 8 (.t 59) (.t 60), some (57, true)⟩, ⟨some 62, .fad true 0 7 (.t 61), some (57, true)⟩, ⟨some 63, .fad false 0 1 (.t 62), some (57, true)⟩, ⟨some 64, .ld false 1 (.t 63), some (57, true)⟩, ⟨some 65, .fad false 0 1 (.t 4), some (57, true)⟩, ⟨some 66, .ld false 1 (.t 65), some (57, true)⟩, ⟨some 67, .bin .lss (.t 64) (.t 66), some (57, true)⟩, ⟨some 68, .pick (.t 57) (.t 67) (.c (.d (.bool false))), none⟩] [[], [0], [0], [0], [], [], [], [], [6, 7], [], [], [], [], [6, 7, 8, 9, 10, 11, 12], [6, 7, 8, 9, 10, 11, 12], [], []] [52, 53, 54, 55, 56, 57, 58, 59, 60, 61, 62, 63, 64, 65, 66, 67])
 (.cond (.t 68) .skip (.exit 1 [2, 3, 4, 6, 10])))
 (.block 2 (.ops [] [⟨some 69, .mv (.t 10), none⟩, ⟨some 70, .bin .add (.t 69) (.c (.d (.int .i64 1))), none⟩, ⟨some 10, .mv (.t 70), none⟩] [68, 69, 70])))
def c_ref06_Grant : ACode :=
 (.seq (.ops [] [⟨some 3, .box (.t 0), none⟩, ⟨some 4, .box (.t 1), none⟩, ⟨some 6, .alloc (.agg [.xsl [], .xsl []]), none⟩, ⟨some 7, .mv (.c (.d (.int .i64 0))), none⟩] [0, 1, 7])
 (.seq (.seq (.ops [] [⟨some 14, .ld true 2 (.t 3), none⟩, ⟨some 15, .call N_ref06_Validate [] [.t 14], none⟩, ⟨some 8, .mv (.t 15), none⟩] [14, 15])
 (.seq (.ops [] [⟨some 16, .mv (.t 8), none⟩, ⟨some 17, .bin .neq (.t 16) (.c (.d (.int .i64 0))), none⟩] [16])
 (.cond (.t 17) (.seq (.ops [] [⟨some 18, .build [.xsl [], .xsl []] [], none⟩, ⟨some 19, .mv (.t 8), none⟩, ⟨none, .st 2 (.t 6) (.t 18), none⟩, ⟨some 7, .mv (.t 19), none⟩] [2, 3, 4, 8, 17, 18, 19])
 (.ret [6, 7])) .skip)))
 (.seq (.seq (.ops [] [⟨some 20, .ld true 7 (.t 4), none⟩, ⟨some 21, .call N_ref03_Validate [] [.t 20], none⟩, ⟨some 9, .mv (.t 21), none⟩] [8, 17, 20, 21])
 (.seq (.ops [] [⟨some 22, .mv (.t 9), none⟩, ⟨some 23, .bin .neq (.t 22) (.c (.d (.int .i64 0))), none⟩] [22])
 (.cond (.t 23) (.seq (.ops [] [⟨some 24, .build [.xsl [], .xsl []] [], none⟩, ⟨some 25, .mv (.t 9), none⟩, ⟨none, .st 2 (.t 6) (.t 24), none⟩, ⟨some 7, .mv (.t 25), none⟩] [2, 3, 4, 9, 23, 24, 25])
 (.ret [6, 7])) .skip)))
 (.seq (.block 0 (.seq (.ops [] [⟨some 27, .fad false 4 1 (.t 4), none⟩, ⟨some 28, .ld false 1 (.t 27), none⟩, ⟨some 29, .bin .eql (.t 28) (.c (.d (.int .i64 0))), none⟩, ⟨some 26, .mv (.t 29), none⟩] [9, 23, 27, 28, 29])
 (.cond (.t 26) (.seq (.ops [] [⟨some 30, .build [.xsl [], .xsl []] [], none⟩, ⟨none, .st 2 (.t 6) (.t 30), none⟩, ⟨some 7, .mv (.c (.d (.int .i64 7))), none⟩] [2, 3, 4, 26, 30])
 (.ret [6, 7])) (.seq (.ops [] [⟨some 32, .mv (.t 2), none⟩, ⟨some 33, .bin .lss (.t 32) (.c (.d (.int .i64 0))), none⟩, ⟨some 34, .mv (.t 33), none⟩, ⟨some 35, .mv (.t 2), some (34, false)⟩, ⟨some 36, .bin .gtr (.t 35) (.c (.d (.int .i64 1073741824))), some (34, false)⟩, ⟨some 37, .pick (.t 34) (.c (.d (.bool true))) (.t 36), none⟩, ⟨some 31, .mv (.t 37), none⟩] [26, 32, 33, 34, 35, 36, 37])
 (.cond (.t 31) (.seq (.ops [] [⟨some 38, .build [.xsl [], .xsl []] [], none⟩, ⟨none, .st 2 (.t 6) (.t 38), none⟩, ⟨some 7, .mv (.c (.d (.int .i64 1))), none⟩] [2, 3, 4, 31, 38])
 (.ret [6, 7])) (.seq (.ops [] [⟨some 40, .fad false 0 1 (.t 3), none⟩, ⟨some 41, .ld false 1 (.t 40), none⟩, ⟨some 42, .len (.t 41), none⟩, ⟨some 43, .bin .eql (.t 42) (.c (.d (.int .i64 12))), none⟩, ⟨some 39, .mv (.t 43), none⟩] [31, 40, 41, 42, 43])
 (.cond (.t 39) (.seq (.ops [] [⟨some 44, .build [.xsl [], .xsl []] [], none⟩, ⟨none, .st 2 (.t 6) (.t 44), none⟩, ⟨some 7, .mv (.c (.d (.int .i64 3))), none⟩] [2, 3, 4, 39, 44])
 (.ret [6, 7])) (.seq (.ops [] [⟨some 46, .ld true 2 (.t 3), none⟩, ⟨some 47, .fad false 0 1 (.t 4), none⟩, ⟨some 48, .ld false 1 (.t 47), none⟩, ⟨some 49, .call N_ref06_find [] [.t 46, .t 48], none⟩, ⟨some 50, .bin .geq (.t 49) (.c (.d (.int .i64 0))), none⟩, ⟨some 45, .mv (.t 50), none⟩] [39, 46, 47, 48, 49, 50])
 (.cond (.t 45) (.seq (.ops [] [⟨some 51, .build [.xsl [], .xsl []] [], none⟩, ⟨none, .st 2 (.t 6) (.t 51), none⟩, ⟨some 7, .mv (.c (.d (.int .i64 10))), none⟩] [2, 3, 4, 45, 51])
 (.ret [6, 7])) .skip)))))))))
 (.seq (.ops [] [⟨some 10, .mv (.c (.d (.int .i64 0))), none⟩] [45])
 (.seq (.block 1 (.loop [] l_ref06_Grant_0))
 (.seq (.ops [] [⟨some 72, .fad false 1 1 (.t 3), none⟩, ⟨some 73, .ld false 1 (.t 72), none⟩, ⟨some 74, .mv (.t 2), none⟩, ⟨some 75, .fad false 0 1 (.t 4), none⟩, ⟨some 76, .ld false 1 (.t 75), none⟩, ⟨some 77, .build [.d (.int .i64 0), .d (.int .i64 0)] [(0, (1, .t 74)), (1, (1, .t 76))], none⟩, ⟨some 78, .call N_ref05_Push [] [.t 73, .t 77], none⟩, ⟨some 71, .mv (.t 78), none⟩, ⟨some 79, .ext (.t 71) 0, none⟩, ⟨some 80, .ext (.t 71) 1, none⟩, ⟨some 11, .mv (.t 79), none⟩, ⟨some 12, .mv (.t 80), none⟩] [12, 68, 71, 72, 73, 74, 75, 76, 77, 78, 79, 80])
 (.seq (.draw [] [⟨some 81, .fad false 0 1 (.t 3), none⟩, ⟨some 82, .ld false 1 (.t 81), none⟩, ⟨some 83, .mv (.t 10), none⟩, ⟨some 84, .slc 8 (.t 82) none (some (.t 83)) none, none⟩, ⟨some 85, .app 8 (.c (.xsl [])) (.t 84), none⟩, ⟨some 86, .ld true 7 (.t 4), none⟩, ⟨some 87, .mv (.t 2), none⟩, ⟨some 88, .build [.d (.int .i64 0), .d (.int .i64 0), .d (.int .i64 0), .d (.int .i64 0), .d (.int .i64 0), .d (.int .i64 0), .d (.str []), .d (.int .i64 0)] [(0, (7, .t 86)), (7, (1, .t 87))], none⟩, ⟨some 89, .bsl 1 8 (.d (.agg [.int .i64 0, .int .i64 0, .int .i64 0, .int .i64 0, .int .i64 0, .int .i64 0, .str [], .int .i64 0])) [(0, .t 88)], none⟩, ⟨some 90, .app 8 (.t 85) (.t 89), none⟩, ⟨some 13, .mv (.t 90), none⟩] [[], [], [0, 1], [], [], [0, 1, 2, 3, 4], [0, 1, 2, 3, 4, 5], [0, 1, 2, 3, 4], [0, 1, 2, 3, 4], [], []] [2, 4, 81, 82, 83, 84, 85, 86, 87, 88, 89, 90])
 (.seq (.ops [] [⟨some 91, .mv (.t 13), none⟩, ⟨some 92, .fad false 0 1 (.t 3), none⟩, ⟨some 93, .ld false 1 (.t 92), none⟩, ⟨some 94, .mv (.t 10), none⟩, ⟨some 95, .slc 8 (.t 93) (some (.t 94)) none none, none⟩, ⟨some 96, .app 8 (.t 91) (.t 95), none⟩, ⟨some 97, .mv (.t 11), none⟩, ⟨some 98, .build [.xsl [], .xsl []] [(0, (1, .t 96)), (1, (1, .t 97))], none⟩, ⟨none, .st 2 (.t 6) (.t 98), none⟩, ⟨some 7, .mv (.c (.d (.int .i64 0))), none⟩] [3, 10, 11, 13, 91, 92, 93, 94, 95, 96, 97, 98])
 (.ret [6, 7]))))))))))
def r_ref06_Grant : List ARes := [.c 6 true 2, .t 7]
def fn_ref06_Grant : AFn := .code c_ref06_Grant r_ref06_Grant 99 true
def l_ref06_Validate_0 : ACode :=
 (.seq (.seq (.ops [] [⟨some 13, .mv (.t 3), none⟩, ⟨some 14, .fad false 0 1 (.t 1), none⟩, ⟨some 15, .ld false 1 (.t 14), none⟩, ⟨some 16, .len (.t 15), none⟩, ⟨some 17, .bin .lss (.t 13) (.t 16), none⟩] [13, 14, 15, 16])
 (.cond (.t 17) .skip (.exit 0 [1])))
 (.seq (.block 1 (.seq (.ops [] [⟨some 20, .fad false 0 1 (.t 1), none⟩, ⟨some 21, .ld false 1 (.t 20), none⟩, ⟨some 22, .mv (.t 3), none⟩, ⟨some 23, .iad 8 (.t 21) (.t 22), none⟩, ⟨some 24, .ld true 8 (.t 23), none⟩, ⟨some 4, .alloc (.d (.agg [.int .i64 0, .int .i64 0, .int .i64 0, .int .i64 0, .int .i64 0, .int .i64 0, .str [], .int .i64 0])), none⟩, ⟨none, .st 8 (.t 4) (.t 24), none⟩] [17, 20, 21, 22, 23, 24])
 (.seq (.seq (.ops [] [⟨some 25, .fad true 0 7 (.t 4), none⟩, ⟨some 26, .ld true 7 (.t 25), none⟩, ⟨some 27, .call N_ref03_Validate [] [.t 26], none⟩, ⟨some 5, .mv (.t 27), none⟩] [25, 26, 27])
 (.seq (.ops [] [⟨some 28, .mv (.t 5), none⟩, ⟨some 29, .bin .neq (.t 28) (.c (.d (.int .i64 0))), none⟩] [28])
 (.cond (.t 29) (.seq (.ops [] [⟨some 30, .mv (.t 5), none⟩, ⟨some 2, .mv (.t 30), none⟩] [1, 3, 4, 5, 29, 30])
 (.ret [2])) .skip)))
 (.block 2 (.seq (.ops [] [⟨some 32, .fad true 0 7 (.t 4), none⟩, ⟨some 33, .fad false 4 1 (.t 32), none⟩, ⟨some 34, .ld false 1 (.t 33), none⟩, ⟨some 35, .bin .eql (.t 34) (.c (.d (.int .i64 0))), none⟩, ⟨some 31, .mv (.t 35), none⟩] [5, 29, 32, 33, 34, 35])
 (.cond (.t 31) (.seq (.ops [] [⟨some 2, .mv (.c (.d (.int .i64 7))), none⟩] [1, 3, 4, 31])
 (.ret [2])) (.seq (.ops [] [⟨some 37, .fad false 7 1 (.t 4), none⟩, ⟨some 38, .ld false 1 (.t 37), none⟩, ⟨some 39, .bin .lss (.t 38) (.c (.d (.int .i64 0))), none⟩, ⟨some 40, .mv (.t 39), none⟩, ⟨some 41, .fad false 7 1 (.t 4), some (40, false)⟩, ⟨some 42, .ld false 1 (.t 41), some (40, false)⟩, ⟨some 43, .bin .gtr (.t 42) (.c (.d (.int .i64 1073741824))), some (40, false)⟩, ⟨some 44, .pick (.t 40) (.c (.d (.bool true))) (.t 43), none⟩, ⟨some 36, .mv (.t 44), none⟩] [31, 37, 38, 39, 40, 41, 42, 43, 44])
 (.cond (.t 36) (.seq (.ops [] [⟨some 2, .mv (.c (.d (.int .i64 1))), none⟩] [1, 3, 4, 36])
 (.ret [2])) (.seq (.draw [] [⟨some 46, .mv (.t 3), none⟩, ⟨some 47, .bin .gtr (.t 46) (.c (.d (.int .i64 0))), none⟩, ⟨some 48, .mv (.t 47), none⟩, ⟨some 49, .fad true 0 7 (.t 4), some (48, true)⟩, ⟨some 50, .fad false 0 1 (.t 49), some (48, true)⟩, ⟨some 51, .ld false 1 (.t 50), some (48, true)⟩, ⟨some 52, .fad false 0 1 (.t 1), some (48, true)⟩, ⟨some 53, .ld false 1 (.t 52), some (48, true)⟩, ⟨some 54, .mv (.t 3), some (48, true)⟩, ⟨some 55, .bin .sub (.t 54) (.c (.d (.int .i64 1))), some (48, true)⟩, ⟨some 56, .iad 8 (.t 53) (.t 55), some (48, true)⟩, ⟨some 57, .fad true 0 7 (.t 56), some (48, true)⟩, ⟨some 58, .fad false 0 1 (.t 57), some (48, true)⟩, ⟨some 59, .ld false 1 (.t 58), some (48, true)⟩, ⟨some 60, .bin .leq (.t 51) (.t 59), some (48, true)⟩, ⟨some 61, .pick (.t 48) (.t 60) (.c (.d (.bool false))), none⟩, ⟨some 45, .mv (.t 61), none⟩] [[], [], [], [], [], [], [3, 4, 5], [3, 4, 5], [3, 4, 5, 6, 7], [3, 4, 5, 6, 7], [3, 4, 5], [3, 4, 5], [3, 4, 5], [3, 4, 5], [], [], []] [4, 36, 46, 47, 48, 49, 50, 51, 52, 53, 54, 55, 56, 57, 58, 59, 60, 61])
 (.cond (.t 45) (.seq (.ops [] [⟨some 2, .mv (.c (.d (.int .i64 11))), none⟩] [1, 3, 45])
 (.ret [2])) .skip))))))))))
 (.ops [] [⟨some 18, .mv (.t 3), none⟩, ⟨some 19, .bin .add (.t 18) (.c (.d (.int .i64 1))), none⟩, ⟨some 3, .mv (.t 19), none⟩] [18, 19, 45])))
def l_ref06_Validate_1 : ACode :=
 (.seq (.seq (.ops [] [⟨some 75, .mv (.t 7), none⟩, ⟨some 76, .fad false 1 1 (.t 1), none⟩, ⟨some 77, .ld false 1 (.t 76), none⟩, ⟨some 78, .len (.t 77), none⟩, ⟨some 79, .bin .lss (.t 75) (.t 78), none⟩] [75, 76, 77, 78])
 (.cond (.t 79) .skip (.exit 3 [])))
 (.seq (.block 4 (.seq (.draw [] [⟨some 82, .ld true 2 (.t 1), none⟩, ⟨some 83, .fad false 1 1 (.t 1), none⟩, ⟨some 84, .ld false 1 (.t 83), none⟩, ⟨some 85, .mv (.t 7), none⟩, ⟨some 86, .iad 2 (.t 84) (.t 85), none⟩, ⟨some 87, .fad false 1 1 (.t 86), none⟩, ⟨some 88, .ld false 1 (.t 87), none⟩, ⟨some 89, .call N_ref06_find [] [.t 82, .t 88], none⟩, ⟨some 8, .mv (.t 89), none⟩] [[], [0], [0], [0, 1, 2], [0], [0], [0], [], []] [79, 82, 83, 84, 85, 86, 87, 88, 89])
 (.seq (.draw [] [⟨some 90, .mv (.t 8), none⟩, ⟨some 91, .bin .lss (.t 90) (.c (.d (.int .i64 0))), none⟩, ⟨some 92, .mv (.t 91), none⟩, ⟨some 93, .fad false 0 1 (.t 1), some (92, false)⟩, ⟨some 94, .ld false 1 (.t 93), some (92, false)⟩, ⟨some 95, .mv (.t 8), some (92, false)⟩, ⟨some 96, .iad 8 (.t 94) (.t 95), some (92, false)⟩, ⟨some 97, .fad false 7 1 (.t 96), some (92, false)⟩, ⟨some 98, .ld false 1 (.t 97), some (92, false)⟩, ⟨some 99, .fad false 1 1 (.t 1), some (92, false)⟩, ⟨some 100, .ld false 1 (.t 99), some (92, false)⟩, ⟨some 101, .mv (.t 7), some (92, false)⟩, ⟨some 102, .iad 2 (.t 100) (.t 101), some (92, false)⟩, ⟨some 103, .fad false 0 1 (.t 102), some (92, false)⟩, ⟨some 104, .ld false 1 (.t 103), some (92, false)⟩, ⟨some 105, .bin .neq (.t 98) (.t 104), some (92, false)⟩, ⟨some 106, .pick (.t 92) (.c (.d (.bool true))) (.t 105), none⟩] [[], [], [], [], [], [3, 4], [], [], [], [3, 4, 5, 6, 7, 8], [3, 4, 5, 6, 7, 8], [3, 4, 5, 6, 7, 8, 9, 10], [3, 4, 5, 6, 7, 8], [3, 4, 5, 6, 7, 8], [3, 4, 5, 6, 7, 8], [], []] [8, 90, 91, 92, 93, 94, 95, 96, 97, 98, 99, 100, 101, 102, 103, 104, 105])
 (.cond (.t 106) (.seq (.ops [] [⟨some 2, .mv (.c (.d (.int .i64 7))), none⟩] [1, 7, 106])
 (.ret [2])) .skip))))
 (.ops [] [⟨some 80, .mv (.t 7), none⟩, ⟨some 81, .bin .add (.t 80) (.c (.d (.int .i64 1))), none⟩, ⟨some 7, .mv (.t 81), none⟩] [80, 81, 106])))
def c_ref06_Validate : ACode :=
 (.seq (.ops [] [⟨some 1, .box (.t 0), none⟩, ⟨some 2, .mv (.c (.d (.int .i64 0))), none⟩] [0, 2])
 (.seq (.seq (.ops [] [⟨some 9, .fad false 0 1 (.t 1), none⟩, ⟨some 10, .ld false 1 (.t 9), none⟩, ⟨some 11, .len (.t 10), none⟩, ⟨some 12, .bin .gtr (.t 11) (.c (.d (.int .i64 12))), none⟩] [9, 10, 11])
 (.cond (.t 12) (.seq (.ops [] [⟨some 2, .mv (.c (.d (.int .i64 2))), none⟩] [1, 12])
 (.ret [2])) .skip))
 (.seq (.seq (.ops [] [⟨some 3, .mv (.c (.d (.int .i64 0))), none⟩] [12])
 (.block 0 (.loop [] l_ref06_Validate_0)))
 (.seq (.seq (.ops [] [⟨some 62, .fad false 1 1 (.t 1), none⟩, ⟨some 63, .ld false 1 (.t 62), none⟩, ⟨some 64, .call N_ref05_Validate [] [.t 63], none⟩, ⟨some 6, .mv (.t 64), none⟩] [3, 17, 62, 63, 64])
 (.seq (.ops [] [⟨some 65, .mv (.t 6), none⟩, ⟨some 66, .bin .neq (.t 65) (.c (.d (.int .i64 0))), none⟩] [65])
 (.cond (.t 66) (.seq (.ops [] [⟨some 67, .mv (.t 6), none⟩, ⟨some 2, .mv (.t 67), none⟩] [1, 6, 66, 67])
 (.ret [2])) .skip)))
 (.seq (.seq (.ops [] [⟨some 68, .fad false 1 1 (.t 1), none⟩, ⟨some 69, .ld false 1 (.t 68), none⟩, ⟨some 70, .len (.t 69), none⟩, ⟨some 71, .fad false 0 1 (.t 1), none⟩, ⟨some 72, .ld false 1 (.t 71), none⟩, ⟨some 73, .len (.t 72), none⟩, ⟨some 74, .bin .neq (.t 70) (.t 73), none⟩] [6, 66, 68, 69, 70, 71, 72, 73])
 (.cond (.t 74) (.seq (.ops [] [⟨some 2, .mv (.c (.d (.int .i64 7))), none⟩] [1, 74])
 (.ret [2])) .skip))
 (.seq (.seq (.ops [] [⟨some 7, .mv (.c (.d (.int .i64 0))), none⟩] [74])
 (.block 3 (.loop [] l_ref06_Validate_1)))
 (.seq (.ops [] [⟨some 2, .mv (.c (.d (.int .i64 0))), none⟩] [1, 7, 79])
 (.ret [2]))))))))
def r_ref06_Validate : List ARes := [.t 2]
def fn_ref06_Validate : AFn := .code c_ref06_Validate r_ref06_Validate 107 true
def l_ref05_Validate_0 : ACode :=
 (.seq (.seq (.ops [] [⟨some 9, .mv (.t 3), none⟩, ⟨some 10, .mv (.t 0), none⟩, ⟨some 11, .len (.t 10), none⟩, ⟨some 12, .bin .lss (.t 9) (.t 11), none⟩] [9, 10, 11])
 (.cond (.t 12) .skip (.exit 0 [0])))
 (.seq (.block 1 (.seq (.ops [] [⟨some 15, .mv (.t 0), none⟩, ⟨some 16, .mv (.t 3), none⟩, ⟨some 17, .iad 2 (.t 15) (.t 16), none⟩, ⟨some 18, .ld true 2 (.t 17), none⟩, ⟨some 19, .call N_ref05_sound [] [.t 18], none⟩, ⟨some 20, .un .not (.t 19), none⟩] [12, 15, 16, 17, 18, 19])
 (.cond (.t 20) (.seq (.ops [] [⟨some 2, .mv (.c (.d (.int .i64 1))), none⟩] [0, 3, 20])
 (.ret [2])) .skip)))
 (.ops [] [⟨some 13, .mv (.t 3), none⟩, ⟨some 14, .bin .add (.t 13) (.c (.d (.int .i64 1))), none⟩, ⟨some 3, .mv (.t 14), none⟩] [13, 14, 20])))
def l_ref05_Validate_1 : ACode :=
 (.seq (.seq (.ops [] [⟨some 21, .mv (.t 4), none⟩, ⟨some 22, .mv (.t 0), none⟩, ⟨some 23, .len (.t 22), none⟩, ⟨some 24, .bin .lss (.t 21) (.t 23), none⟩] [21, 22, 23])
 (.cond (.t 24) .skip (.exit 2 [0])))
 (.seq (.block 3 (.seq (.ops [] [⟨some 27, .mv (.t 0), none⟩, ⟨some 28, .mv (.t 0), none⟩, ⟨some 29, .mv (.t 4), none⟩, ⟨some 30, .iad 2 (.t 28) (.t 29), none⟩, ⟨some 31, .fad false 1 1 (.t 30), none⟩, ⟨some 32, .ld false 1 (.t 31), none⟩, ⟨some 33, .call N_ref05_index [] [.t 27, .t 32], none⟩, ⟨some 34, .mv (.t 4), none⟩, ⟨some 35, .bin .neq (.t 33) (.t 34), none⟩] [24, 27, 28, 29, 30, 31, 32, 33, 34])
 (.cond (.t 35) (.seq (.ops [] [⟨some 2, .mv (.c (.d (.int .i64 10))), none⟩] [0, 4, 35])
 (.ret [2])) .skip)))
 (.ops [] [⟨some 25, .mv (.t 4), none⟩, ⟨some 26, .bin .add (.t 25) (.c (.d (.int .i64 1))), none⟩, ⟨some 4, .mv (.t 26), none⟩] [25, 26, 35])))
def l_ref05_Validate_2 : ACode :=
 (.seq (.seq (.ops [] [⟨some 36, .mv (.t 5), none⟩, ⟨some 37, .mv (.t 0), none⟩, ⟨some 38, .len (.t 37), none⟩, ⟨some 39, .bin .lss (.t 36) (.t 38), none⟩] [36, 37, 38])
 (.cond (.t 39) .skip (.exit 4 [])))
 (.seq (.block 5 (.seq (.draw [] [⟨some 42, .mv (.t 0), none⟩, ⟨some 43, .mv (.t 5), none⟩, ⟨some 44, .iad 2 (.t 42) (.t 43), none⟩, ⟨some 45, .ld true 2 (.t 44), none⟩, ⟨some 46, .mv (.t 0), none⟩, ⟨some 47, .mv (.t 5), none⟩, ⟨some 48, .bin .sub (.t 47) (.c (.d (.int .i64 1))), none⟩, ⟨some 49, .bin .quo (.t 48) (.c (.d (.int .i64 2))), none⟩, ⟨some 50, .iad 2 (.t 46) (.t 49), none⟩, ⟨some 51, .ld true 2 (.t 50), none⟩, ⟨some 52, .call N_ref05_before [] [.t 45, .t 51], none⟩] [[], [0], [], [], [0, 1, 2, 3], [0, 1, 2, 3, 4], [0, 1, 2, 3, 4], [0, 1, 2, 3, 4], [0, 1, 2, 3], [0, 1, 2, 3], []] [39, 42, 43, 44, 45, 46, 47, 48, 49, 50, 51])
 (.cond (.t 52) (.seq (.ops [] [⟨some 2, .mv (.c (.d (.int .i64 11))), none⟩] [0, 5, 52])
 (.ret [2])) .skip)))
 (.ops [] [⟨some 40, .mv (.t 5), none⟩, ⟨some 41, .bin .add (.t 40) (.c (.d (.int .i64 1))), none⟩, ⟨some 5, .mv (.t 41), none⟩] [40, 41, 52])))
def c_ref05_Validate : ACode :=
 (.seq (.ops [] [⟨some 2, .mv (.c (.d (.int .i64 0))), none⟩] [2])
 (.seq (.seq (.ops [] [⟨some 6, .mv (.t 0), none⟩, ⟨some 7, .len (.t 6), none⟩, ⟨some 8, .bin .gtr (.t 7) (.c (.d (.int .i64 12))), none⟩] [6, 7])
 (.cond (.t 8) (.seq (.ops [] [⟨some 2, .mv (.c (.d (.int .i64 2))), none⟩] [0, 8])
 (.ret [2])) .skip))
 (.seq (.seq (.ops [] [⟨some 3, .mv (.c (.d (.int .i64 0))), none⟩] [8])
 (.block 0 (.loop [] l_ref05_Validate_0)))
 (.seq (.seq (.ops [] [⟨some 4, .mv (.c (.d (.int .i64 0))), none⟩] [3, 12])
 (.block 2 (.loop [] l_ref05_Validate_1)))
 (.seq (.seq (.ops [] [⟨some 5, .mv (.c (.d (.int .i64 1))), none⟩] [4, 24])
 (.block 4 (.loop [] l_ref05_Validate_2)))
 (.seq (.ops [] [⟨some 2, .mv (.c (.d (.int .i64 0))), none⟩] [0, 5, 39])
 (.ret [2])))))))
def r_ref05_Validate : List ARes := [.t 2]
def fn_ref05_Validate : AFn := .code c_ref05_Validate r_ref05_Validate 53 true
def c_ref05_sound : ACode :=
 (.seq (.ops [] [⟨some 1, .box (.t 0), none⟩, ⟨some 2, .mv (.c (.d (.bool false))), none⟩] [0, 2])
 (.seq (.ops [] [⟨some 3, .fad false 0 1 (.t 1), none⟩, ⟨some 4, .ld false 1 (.t 3), none⟩, ⟨some 5, .bin .geq (.t 4) (.c (.d (.int .i64 0))), none⟩, ⟨some 6, .mv (.t 5), none⟩, ⟨some 7, .fad false 0 1 (.t 1), some (6, true)⟩, ⟨some 8, .ld false 1 (.t 7), some (6, true)⟩, ⟨some 9, .bin .leq (.t 8) (.c (.d (.int .i64 1073741824))), some (6, true)⟩, ⟨some 10, .pick (.t 6) (.t 9) (.c (.d (.bool false))), none⟩, ⟨some 11, .mv (.t 10), none⟩, ⟨some 12, .fad false 1 1 (.t 1), some (11, true)⟩, ⟨some 13, .ld false 1 (.t 12), some (11, true)⟩, ⟨some 14, .bin .geq (.t 13) (.c (.d (.int .i64 1))), some (11, true)⟩, ⟨some 15, .pick (.t 11) (.t 14) (.c (.d (.bool false))), none⟩, ⟨some 16, .mv (.t 15), none⟩, ⟨some 17, .fad false 1 1 (.t 1), some (16, true)⟩, ⟨some 18, .ld false 1 (.t 17), some (16, true)⟩, ⟨some 19, .bin .leq (.t 18) (.c (.d (.int .i64 1073741824))), some (16, true)⟩, ⟨some 20, .pick (.t 16) (.t 19) (.c (.d (.bool false))), none⟩, ⟨some 2, .mv (.t 20), none⟩] [1, 3, 4, 5, 6, 7, 8, 9, 10, 11, 12, 13, 14, 15, 16, 17, 18, 19, 20])
 (.ret [2])))
def r_ref05_sound : List ARes := [.t 2]
def fn_ref05_sound : AFn := .code c_ref05_sound r_ref05_sound 21 true
def l_ref05_index_0 : ACode :=
 (.seq (.seq (.ops [] [⟨some 6, .mv (.t 5), none⟩, ⟨some 7, .mv (.t 0), none⟩, ⟨some 8, .len (.t 7), none⟩, ⟨some 9, .bin .lss (.t 6) (.t 8), none⟩] [6, 7, 8])
 (.cond (.t 9) .skip (.exit 0 [])))
 (.seq (.block 1 (.seq (.ops [] [⟨some 12, .mv (.t 0), none⟩, ⟨some 13, .mv (.t 5), none⟩, ⟨some 14, .iad 2 (.t 12) (.t 13), none⟩, ⟨some 15, .fad false 1 1 (.t 14), none⟩, ⟨some 16, .ld false 1 (.t 15), none⟩, ⟨some 17, .mv (.t 1), none⟩, ⟨some 18, .bin .eql (.t 16) (.t 17), none⟩] [9, 12, 13, 14, 15, 16, 17])
 (.cond (.t 18) (.seq (.ops [] [⟨some 19, .mv (.t 5), none⟩, ⟨some 4, .mv (.t 19), none⟩] [0, 1, 5, 18, 19])
 (.ret [4])) .skip)))
 (.ops [] [⟨some 10, .mv (.t 5), none⟩, ⟨some 11, .bin .add (.t 10) (.c (.d (.int .i64 1))), none⟩, ⟨some 5, .mv (.t 11), none⟩] [10, 11, 18])))
def c_ref05_index : ACode :=
 (.seq (.ops [] [⟨some 4, .mv (.c (.d (.int .i64 0))), none⟩] [4])
 (.seq (.seq (.ops [] [⟨some 5, .mv (.c (.d (.int .i64 0))), none⟩] [])
 (.block 0 (.loop [] l_ref05_index_0)))
 (.seq (.ops [] [⟨some 4, .mv (.c (.d (.int .i64 (-1)))), none⟩] [0, 1, 5, 9])
 (.ret [4]))))
def r_ref05_index : List ARes := [.t 4]
def fn_ref05_index : AFn := .code c_ref05_index r_ref05_index 20 true
def c_ref05_before : ACode :=
 (.seq (.ops [] [⟨some 2, .box (.t 0), none⟩, ⟨some 3, .box (.t 1), none⟩, ⟨some 4, .mv (.c (.d (.bool false))), none⟩] [0, 1, 4])
 (.seq (.ops [] [⟨some 5, .fad false 0 1 (.t 2), none⟩, ⟨some 6, .ld false 1 (.t 5), none⟩, ⟨some 7, .fad false 0 1 (.t 3), none⟩, ⟨some 8, .ld false 1 (.t 7), none⟩, ⟨some 9, .bin .lss (.t 6) (.t 8), none⟩, ⟨some 10, .mv (.t 9), none⟩, ⟨some 11, .fad false 0 1 (.t 2), some (10, false)⟩, ⟨some 12, .ld false 1 (.t 11), some (10, false)⟩, ⟨some 13, .fad false 0 1 (.t 3), some (10, false)⟩, ⟨some 14, .ld false 1 (.t 13), some (10, false)⟩, ⟨some 15, .bin .eql (.t 12) (.t 14), some (10, false)⟩, ⟨some 16, .mv (.t 15), some (10, false)⟩, ⟨some 17, .fad false 1 1 (.t 2), some (16, true)⟩, ⟨some 18, .ld false 1 (.t 17), some (16, true)⟩, ⟨some 19, .fad false 1 1 (.t 3), some (16, true)⟩, ⟨some 20, .ld false 1 (.t 19), some (16, true)⟩, ⟨some 21, .bin .lss (.t 18) (.t 20), some (16, true)⟩, ⟨some 22, .pick (.t 16) (.t 21) (.c (.d (.bool false))), some (10, false)⟩, ⟨some 23, .pick (.t 10) (.c (.d (.bool true))) (.t 22), none⟩, ⟨some 4, .mv (.t 23), none⟩] [2, 3, 5, 6, 7, 8, 9, 10, 11, 12, 13, 14, 15, 16, 17, 18, 19, 20, 21, 22, 23])
 (.ret [4])))
def r_ref05_before : List ARes := [.t 4]
def fn_ref05_before : AFn := .code c_ref05_before r_ref05_before 24 true
def l_ref06_find_0 : ACode :=
 (.seq (.seq (.ops [] [⟨some 6, .mv (.t 5), none⟩, ⟨some 7, .fad false 0 1 (.t 2), none⟩, ⟨some 8, .ld false 1 (.t 7), none⟩, ⟨some 9, .len (.t 8), none⟩, ⟨some 10, .bin .lss (.t 6) (.t 9), none⟩] [6, 7, 8, 9])
 (.cond (.t 10) .skip (.exit 0 [])))
 (.seq (.block 1 (.seq (.ops [] [⟨some 13, .fad false 0 1 (.t 2), none⟩, ⟨some 14, .ld false 1 (.t 13), none⟩, ⟨some 15, .mv (.t 5), none⟩, ⟨some 16, .iad 8 (.t 14) (.t 15), none⟩, ⟨some 17, .fad true 0 7 (.t 16), none⟩, ⟨some 18, .fad false 0 1 (.t 17), none⟩, ⟨some 19, .ld false 1 (.t 18), none⟩, ⟨some 20, .mv (.t 1), none⟩, ⟨some 21, .bin .eql (.t 19) (.t 20), none⟩] [10, 13, 14, 15, 16, 17, 18, 19, 20])
 (.cond (.t 21) (.seq (.ops [] [⟨some 22, .mv (.t 5), none⟩, ⟨some 4, .mv (.t 22), none⟩] [1, 2, 5, 21, 22])
 (.ret [4])) .skip)))
 (.ops [] [⟨some 11, .mv (.t 5), none⟩, ⟨some 12, .bin .add (.t 11) (.c (.d (.int .i64 1))), none⟩, ⟨some 5, .mv (.t 12), none⟩] [11, 12, 21])))
def c_ref06_find : ACode :=
 (.seq (.ops [] [⟨some 2, .box (.t 0), none⟩, ⟨some 4, .mv (.c (.d (.int .i64 0))), none⟩] [0, 4])
 (.seq (.seq (.ops [] [⟨some 5, .mv (.c (.d (.int .i64 0))), none⟩] [])
 (.block 0 (.loop [] l_ref06_find_0)))
 (.seq (.ops [] [⟨some 4, .mv (.c (.d (.int .i64 (-1)))), none⟩] [1, 2, 5, 10])
 (.ret [4]))))
def r_ref06_find : List ARes := [.t 4]
def fn_ref06_find : AFn := .code c_ref06_find r_ref06_find 23 true
def c_ref05_Push : ACode :=
 (.seq (.ops [] [⟨some 3, .box (.t 1), none⟩, ⟨some 4, .mv (.c (.xsl [])), none⟩, ⟨some 5, .mv (.c (.d (.int .i64 0))), none⟩] [1, 4, 5])
 (.seq (.seq (.ops [] [⟨some 7, .mv (.t 0), none⟩, ⟨some 8, .call N_ref05_Validate [] [.t 7], none⟩, ⟨some 6, .mv (.t 8), none⟩] [7, 8])
 (.seq (.ops [] [⟨some 9, .mv (.t 6), none⟩, ⟨some 10, .bin .neq (.t 9) (.c (.d (.int .i64 0))), none⟩] [9])
 (.cond (.t 10) (.seq (.ops [] [⟨some 11, .mv (.t 6), none⟩, ⟨some 4, .mv (.c (.xsl [])), none⟩, ⟨some 5, .mv (.t 11), none⟩] [0, 3, 6, 10, 11])
 (.ret [4, 5])) .skip)))
 (.seq (.block 0 (.seq (.ops [] [⟨some 13, .ld true 2 (.t 3), none⟩, ⟨some 14, .call N_ref05_sound [] [.t 13], none⟩, ⟨some 15, .un .not (.t 14), none⟩, ⟨some 12, .mv (.t 15), none⟩] [6, 10, 13, 14, 15])
 (.cond (.t 12) (.seq (.ops [] [⟨some 4, .mv (.c (.xsl [])), none⟩, ⟨some 5, .mv (.c (.d (.int .i64 1))), none⟩] [0, 3, 12])
 (.ret [4, 5])) (.seq (.ops [] [⟨some 17, .mv (.t 0), none⟩, ⟨some 18, .len (.t 17), none⟩, ⟨some 19, .bin .eql (.t 18) (.c (.d (.int .i64 12))), none⟩, ⟨some 16, .mv (.t 19), none⟩] [12, 17, 18, 19])
 (.cond (.t 16) (.seq (.ops [] [⟨some 4, .mv (.c (.xsl [])), none⟩, ⟨some 5, .mv (.c (.d (.int .i64 3))), none⟩] [0, 3, 16])
 (.ret [4, 5])) (.seq (.ops [] [⟨some 21, .mv (.t 0), none⟩, ⟨some 22, .fad false 1 1 (.t 3), none⟩, ⟨some 23, .ld false 1 (.t 22), none⟩, ⟨some 24, .call N_ref05_index [] [.t 21, .t 23], none⟩, ⟨some 25, .bin .geq (.t 24) (.c (.d (.int .i64 0))), none⟩, ⟨some 20, .mv (.t 25), none⟩] [16, 21, 22, 23, 24, 25])
 (.cond (.t 20) (.seq (.ops [] [⟨some 4, .mv (.c (.xsl [])), none⟩, ⟨some 5, .mv (.c (.d (.int .i64 10))), none⟩] [0, 3, 20])
 (.ret [4, 5])) .skip)))))))
 (.seq (.draw [] [⟨some 26, .mv (.t 0), none⟩, ⟨some 27, .app 2 (.c (.xsl [])) (.t 26), none⟩, ⟨some 28, .ld true 2 (.t 3), none⟩, ⟨some 29, .bsl 1 2 (.d (.agg [.int .i64 0, .int .i64 0])) [(0, .t 28)], none⟩, ⟨some 30, .app 2 (.t 27) (.t 29), none⟩, ⟨some 31, .mv (.t 0), none⟩, ⟨some 32, .len (.t 31), none⟩, ⟨some 33, .call N_ref05_up [false, false, true] [.t 30, .t 32], none⟩, ⟨some 4, .mv (.t 33), none⟩, ⟨some 5, .mv (.c (.d (.int .i64 0))), none⟩] [[], [], [0, 1], [0, 1], [], [0, 1, 2, 3, 4], [0, 1, 2, 3, 4], [], [], []] [0, 3, 20, 26, 27, 28, 29, 30, 31, 32, 33])
 (.ret [4, 5])))))
def r_ref05_Push : List ARes := [.t 4, .t 5]
def fn_ref05_Push : AFn := .code c_ref05_Push r_ref05_Push 34 true
def l_ref05_up_0 : ACode :=
 (.seq (.seq (.draw [] [⟨some 5, .mv (.t 1), none⟩, ⟨some 6, .bin .gtr (.t 5) (.c (.d (.int .i64 0))), none⟩, ⟨some 7, .mv (.t 6), none⟩, ⟨some 8, .mv (.t 0), some (7, true)⟩, ⟨some 9, .mv (.t 1), some (7, true)⟩, ⟨some 10, .iad 2 (.t 8) (.t 9), some (7, true)⟩, ⟨some 11, .ld true 2 (.t 10), some (7, true)⟩, ⟨some 12, .mv (.t 0), some (7, true)⟩, ⟨some 13, .mv (.t 1), some (7, true)⟩, ⟨some 14, .bin .sub (.t 13) (.c (.d (.int .i64 1))), some (7, true)⟩, ⟨some 15, .bin .quo (.t 14) (.c (.d (.int .i64 2))), some (7, true)⟩, ⟨some 16, .iad 2 (.t 12) (.t 15), some (7, true)⟩, ⟨some 17, .ld true 2 (.t 16), some (7, true)⟩, ⟨some 18, .call N_ref05_before [] [.t 11, .t 17], some (7, true)⟩, ⟨some 19, .pick (.t 7) (.t 18) (.c (.d (.bool false))), none⟩] [[], [], [], [], [3], [], [], [3, 4, 5, 6], [3, 4, 5, 6, 7], [3, 4, 5, 6, 7], [3, 4, 5, 6, 7], [3, 4, 5, 6], [3, 4, 5, 6], [], []] [5, 6, 7, 8, 9, 10, 11, 12, 13, 14, 15, 16, 17, 18])
 (.cond (.t 19) .skip (.exit 0 [0])))
 (.block 1 (.seq (.ops [] [⟨some 20, .mv (.t 0), none⟩, ⟨some 21, .mv (.t 1), none⟩, ⟨some 22, .mv (.t 1), none⟩, ⟨some 23, .bin .sub (.t 22) (.c (.d (.int .i64 1))), none⟩, ⟨some 24, .bin .quo (.t 23) (.c (.d (.int .i64 2))), none⟩, ⟨some 25, .call N_ref05_swap [] [.t 20, .t 21, .t 24], none⟩, ⟨some 0, .mv (.t 25), none⟩] [19, 20, 21, 22, 23, 24, 25])
 (.ops [] [⟨some 26, .mv (.t 1), none⟩, ⟨some 27, .bin .sub (.t 26) (.c (.d (.int .i64 1))), none⟩, ⟨some 28, .bin .quo (.t 27) (.c (.d (.int .i64 2))), none⟩, ⟨some 1, .mv (.t 28), none⟩] [26, 27, 28]))))
def c_ref05_up : ACode :=
 (.seq (.ops [] [⟨some 4, .mv (.c (.xsl [])), none⟩] [4])
 (.seq (.block 0 (.loop [] l_ref05_up_0))
 (.seq (.ops [] [⟨some 29, .mv (.t 0), none⟩, ⟨some 4, .mv (.t 29), none⟩] [0, 1, 19, 29])
 (.ret [4]))))
def r_ref05_up : List ARes := [.t 4]
def fn_ref05_up : AFn := .code c_ref05_up r_ref05_up 30 true
def c_ref05_swap : ACode :=
 (.seq (.ops [] [⟨some 6, .mv (.c (.xsl [])), none⟩] [6])
 (.seq (.ops [] [⟨some 8, .mv (.t 0), none⟩, ⟨some 9, .app 2 (.c (.xsl [])) (.t 8), none⟩, ⟨some 7, .mv (.t 9), none⟩] [8, 9])
 (.seq (.draw [18] [⟨some 10, .mv (.t 7), none⟩, ⟨some 11, .mv (.t 1), none⟩, ⟨some 12, .mv (.t 7), none⟩, ⟨some 13, .mv (.t 2), none⟩, ⟨some 14, .mv (.t 0), none⟩, ⟨some 15, .mv (.t 2), none⟩, ⟨some 16, .iad 2 (.t 14) (.t 15), none⟩, ⟨some 17, .ld true 2 (.t 16), none⟩, ⟨some 18, .mv (.t 0), none⟩, ⟨some 19, .mv (.t 1), none⟩, ⟨some 20, .iad 2 (.t 18) (.t 19), none⟩, ⟨some 21, .ld true 2 (.t 20), none⟩, ⟨some 22, .iad 2 (.t 10) (.t 11), none⟩, ⟨none, .st 2 (.t 22) (.t 17), none⟩, ⟨some 23, .iad 2 (.t 12) (.t 13), none⟩, ⟨none, .st 2 (.t 23) (.t 21), none⟩] [[], [0], [0, 1], [0, 1, 2], [0, 1, 2, 3], [0, 1, 2, 3, 4], [0, 1, 2, 3], [0, 1, 2, 3], [0, 1, 2, 3, 4, 5, 6, 7], [0, 1, 2, 3, 4, 5, 6, 7, 8], [0, 1, 2, 3, 4, 5, 6, 7], [0, 1, 2, 3, 4, 5, 6, 7], [2, 3], [2, 3], [], []] [0, 1, 2, 10, 11, 12, 13, 14, 15, 16, 17, 18, 19, 20, 21, 22, 23])
 (.seq (.ops [] [⟨some 24, .mv (.t 7), none⟩, ⟨some 6, .mv (.t 24), none⟩] [7, 24])
 (.ret [6])))))
def r_ref05_swap : List ARes := [.t 6]
def fn_ref05_swap : AFn := .code c_ref05_swap r_ref05_swap 25 true
def c_stripe_Begin : ACode :=
 (.seq (.ops [] [⟨some 1, .box (.t 0), none⟩, ⟨some 2, .alloc (.d (.agg [.int .i64 0, .int .i64 0, .int .i64 0, .int .i64 0])), none⟩, ⟨some 3, .mv (.c (.d (.int .i64 0))), none⟩] [0, 3])
 (.seq (.block 0 (.seq (.ops [] [⟨some 5, .fad false 0 1 (.t 1), none⟩, ⟨some 6, .ld false 1 (.t 5), none⟩, ⟨some 7, .call N_stripe_number [] [.t 6], none⟩, ⟨some 8, .un .not (.t 7), none⟩, ⟨some 4, .mv (.t 8), none⟩] [5, 6, 7, 8])
 (.cond (.t 4) (.seq (.ops [] [⟨some 9, .build [.d (.int .i64 0), .d (.int .i64 0), .d (.int .i64 0), .d (.int .i64 0)] [], none⟩, ⟨none, .st 4 (.t 2) (.t 9), none⟩, ⟨some 3, .mv (.c (.d (.int .i64 1))), none⟩] [1, 4, 9])
 (.ret [2, 3])) (.seq (.ops [] [⟨some 11, .fad false 0 1 (.t 1), none⟩, ⟨some 12, .ld false 1 (.t 11), none⟩, ⟨some 13, .bin .rem (.t 12) (.c (.d (.int .i64 2))), none⟩, ⟨some 14, .bin .eql (.t 13) (.c (.d (.int .i64 1))), none⟩, ⟨some 10, .mv (.t 14), none⟩] [4, 11, 12, 13, 14])
 (.cond (.t 10) (.seq (.ops [] [⟨some 15, .build [.d (.int .i64 0), .d (.int .i64 0), .d (.int .i64 0), .d (.int .i64 0)] [], none⟩, ⟨none, .st 4 (.t 2) (.t 15), none⟩, ⟨some 3, .mv (.c (.d (.int .i64 7))), none⟩] [1, 10, 15])
 (.ret [2, 3])) (.seq (.ops [] [⟨some 17, .fad false 0 1 (.t 1), none⟩, ⟨some 18, .ld false 1 (.t 17), none⟩, ⟨some 19, .bin .gtr (.t 18) (.c (.d (.int .i64 1099511627774))), none⟩, ⟨some 16, .mv (.t 19), none⟩] [10, 17, 18, 19])
 (.cond (.t 16) (.seq (.ops [] [⟨some 20, .build [.d (.int .i64 0), .d (.int .i64 0), .d (.int .i64 0), .d (.int .i64 0)] [], none⟩, ⟨none, .st 4 (.t 2) (.t 20), none⟩, ⟨some 3, .mv (.c (.d (.int .i64 6))), none⟩] [1, 16, 20])
 (.ret [2, 3])) .skip)))))))
 (.seq (.ops [] [⟨some 21, .fad false 0 1 (.t 1), none⟩, ⟨some 22, .ld false 1 (.t 21), none⟩, ⟨some 23, .bin .add (.t 22) (.c (.d (.int .i64 1))), none⟩, ⟨some 24, .fad false 0 1 (.t 1), none⟩, ⟨none, .st 1 (.t 24) (.t 23), none⟩] [16, 21, 22, 23, 24])
 (.seq (.ops [] [⟨some 25, .ld true 4 (.t 1), none⟩, ⟨none, .st 4 (.t 2) (.t 25), none⟩, ⟨some 3, .mv (.c (.d (.int .i64 0))), none⟩] [1, 25])
 (.ret [2, 3])))))
def r_stripe_Begin : List ARes := [.c 2 true 4, .t 3]
def fn_stripe_Begin : AFn := .code c_stripe_Begin r_stripe_Begin 26 true
def c_stripe_number : ACode :=
 (.seq (.ops [] [⟨some 2, .mv (.c (.d (.bool false))), none⟩] [2])
 (.seq (.ops [] [⟨some 3, .mv (.t 0), none⟩, ⟨some 4, .bin .geq (.t 3) (.c (.d (.int .i64 0))), none⟩, ⟨some 5, .mv (.t 4), none⟩, ⟨some 6, .mv (.t 0), some (5, true)⟩, ⟨some 7, .bin .leq (.t 6) (.c (.d (.int .i64 1099511627776))), some (5, true)⟩, ⟨some 8, .pick (.t 5) (.t 7) (.c (.d (.bool false))), none⟩, ⟨some 2, .mv (.t 8), none⟩] [0, 3, 4, 5, 6, 7, 8])
 (.ret [2])))
def r_stripe_number : List ARes := [.t 2]
def fn_stripe_number : AFn := .code c_stripe_number r_stripe_number 9 true
def c_ref11_Begin : ACode :=
 (.seq (.ops [] [⟨some 1, .box (.t 0), none⟩, ⟨some 2, .alloc (.d (.agg [.int .i64 0, .int .i64 0, .int .i64 0, .int .i64 0])), none⟩, ⟨some 3, .mv (.c (.d (.int .i64 0))), none⟩] [0, 3])
 (.seq (.block 0 (.seq (.ops [] [⟨some 5, .fad false 0 1 (.t 1), none⟩, ⟨some 6, .ld false 1 (.t 5), none⟩, ⟨some 7, .bin .lss (.t 6) (.c (.d (.int .i64 0))), none⟩, ⟨some 8, .mv (.t 7), none⟩, ⟨some 9, .fad false 0 1 (.t 1), some (8, false)⟩, ⟨some 10, .ld false 1 (.t 9), some (8, false)⟩, ⟨some 11, .bin .gtr (.t 10) (.c (.d (.int .i64 1099511627776))), some (8, false)⟩, ⟨some 12, .pick (.t 8) (.c (.d (.bool true))) (.t 11), none⟩, ⟨some 4, .mv (.t 12), none⟩] [5, 6, 7, 8, 9, 10, 11, 12])
 (.cond (.t 4) (.seq (.ops [] [⟨some 13, .build [.d (.int .i64 0), .d (.int .i64 0), .d (.int .i64 0), .d (.int .i64 0)] [], none⟩, ⟨none, .st 4 (.t 2) (.t 13), none⟩, ⟨some 3, .mv (.c (.d (.int .i64 1))), none⟩] [1, 4, 13])
 (.ret [2, 3])) (.seq (.ops [] [⟨some 15, .fad false 0 1 (.t 1), none⟩, ⟨some 16, .ld false 1 (.t 15), none⟩, ⟨some 17, .bin .rem (.t 16) (.c (.d (.int .i64 2))), none⟩, ⟨some 18, .bin .eql (.t 17) (.c (.d (.int .i64 1))), none⟩, ⟨some 14, .mv (.t 18), none⟩] [4, 15, 16, 17, 18])
 (.cond (.t 14) (.seq (.ops [] [⟨some 19, .build [.d (.int .i64 0), .d (.int .i64 0), .d (.int .i64 0), .d (.int .i64 0)] [], none⟩, ⟨none, .st 4 (.t 2) (.t 19), none⟩, ⟨some 3, .mv (.c (.d (.int .i64 7))), none⟩] [1, 14, 19])
 (.ret [2, 3])) (.seq (.ops [] [⟨some 21, .fad false 0 1 (.t 1), none⟩, ⟨some 22, .ld false 1 (.t 21), none⟩, ⟨some 23, .bin .gtr (.t 22) (.c (.d (.int .i64 1099511627774))), none⟩, ⟨some 20, .mv (.t 23), none⟩] [14, 21, 22, 23])
 (.cond (.t 20) (.seq (.ops [] [⟨some 24, .build [.d (.int .i64 0), .d (.int .i64 0), .d (.int .i64 0), .d (.int .i64 0)] [], none⟩, ⟨none, .st 4 (.t 2) (.t 24), none⟩, ⟨some 3, .mv (.c (.d (.int .i64 6))), none⟩] [1, 20, 24])
 (.ret [2, 3])) .skip)))))))
 (.seq (.ops [] [⟨some 25, .fad false 0 1 (.t 1), none⟩, ⟨some 26, .ld false 1 (.t 25), none⟩, ⟨some 27, .bin .add (.t 26) (.c (.d (.int .i64 1))), none⟩, ⟨some 28, .fad false 0 1 (.t 1), none⟩, ⟨none, .st 1 (.t 28) (.t 27), none⟩] [20, 25, 26, 27, 28])
 (.seq (.ops [] [⟨some 29, .ld true 4 (.t 1), none⟩, ⟨none, .st 4 (.t 2) (.t 29), none⟩, ⟨some 3, .mv (.c (.d (.int .i64 0))), none⟩] [1, 29])
 (.ret [2, 3])))))
def r_ref11_Begin : List ARes := [.c 2 true 4, .t 3]
def fn_ref11_Begin : AFn := .code c_ref11_Begin r_ref11_Begin 30 true
def c_stripe_End : ACode :=
 (.seq (.ops [] [⟨some 4, .box (.t 0), none⟩, ⟨some 5, .box (.t 1), none⟩, ⟨some 8, .alloc (.d (.agg [.int .i64 0, .int .i64 0, .int .i64 0, .int .i64 0])), none⟩, ⟨some 9, .mv (.c (.d (.int .i64 0))), none⟩] [0, 1, 9])
 (.seq (.block 0 (.seq (.ops [] [⟨some 13, .fad false 0 1 (.t 4), none⟩, ⟨some 14, .ld false 1 (.t 13), none⟩, ⟨some 15, .call N_stripe_number [] [.t 14], none⟩, ⟨some 16, .un .not (.t 15), none⟩, ⟨some 12, .mv (.t 16), none⟩] [13, 14, 15, 16])
 (.cond (.t 12) (.seq (.ops [] [⟨some 17, .build [.d (.int .i64 0), .d (.int .i64 0), .d (.int .i64 0), .d (.int .i64 0)] [], none⟩, ⟨none, .st 4 (.t 8) (.t 17), none⟩, ⟨some 9, .mv (.c (.d (.int .i64 1))), none⟩] [2, 3, 4, 5, 12, 17])
 (.ret [8, 9])) (.seq (.ops [] [⟨some 19, .fad false 0 1 (.t 4), none⟩, ⟨some 20, .ld false 1 (.t 19), none⟩, ⟨some 21, .bin .rem (.t 20) (.c (.d (.int .i64 2))), none⟩, ⟨some 22, .bin .eql (.t 21) (.c (.d (.int .i64 0))), none⟩, ⟨some 18, .mv (.t 22), none⟩] [12, 19, 20, 21, 22])
 (.cond (.t 18) (.seq (.ops [] [⟨some 23, .build [.d (.int .i64 0), .d (.int .i64 0), .d (.int .i64 0), .d (.int .i64 0)] [], none⟩, ⟨none, .st 4 (.t 8) (.t 23), none⟩, ⟨some 9, .mv (.c (.d (.int .i64 7))), none⟩] [2, 3, 4, 5, 18, 23])
 (.ret [8, 9])) .skip)))))
 (.seq (.seq (.ops [] [⟨some 24, .ld true 8 (.t 5), none⟩, ⟨some 25, .call N_shard_Validate [] [.t 24], none⟩, ⟨some 10, .mv (.t 25), none⟩] [18, 24, 25])
 (.seq (.ops [] [⟨some 26, .mv (.t 10), none⟩, ⟨some 27, .bin .neq (.t 26) (.c (.d (.int .i64 0))), none⟩] [26])
 (.cond (.t 27) (.seq (.ops [] [⟨some 28, .build [.d (.int .i64 0), .d (.int .i64 0), .d (.int .i64 0), .d (.int .i64 0)] [], none⟩, ⟨some 29, .mv (.t 10), none⟩, ⟨none, .st 4 (.t 8) (.t 28), none⟩, ⟨some 9, .mv (.t 29), none⟩] [2, 3, 4, 5, 10, 27, 28, 29])
 (.ret [8, 9])) .skip)))
 (.seq (.seq (.ops [] [⟨some 30, .mv (.t 2), none⟩, ⟨some 31, .bin .lss (.t 30) (.c (.d (.int .i64 0))), none⟩, ⟨some 32, .mv (.t 31), none⟩, ⟨some 33, .mv (.t 2), some (32, false)⟩, ⟨some 34, .bin .gtr (.t 33) (.c (.d (.int .i64 65536))), some (32, false)⟩, ⟨some 35, .pick (.t 32) (.c (.d (.bool true))) (.t 34), none⟩, ⟨some 36, .mv (.t 35), none⟩, ⟨some 37, .mv (.t 3), some (36, false)⟩, ⟨some 38, .bin .lss (.t 37) (.c (.d (.int .i64 1))), some (36, false)⟩, ⟨some 39, .pick (.t 36) (.c (.d (.bool true))) (.t 38), none⟩, ⟨some 40, .mv (.t 39), none⟩, ⟨some 41, .mv (.t 3), some (40, false)⟩, ⟨some 42, .bin .gtr (.t 41) (.c (.d (.int .i64 8))), some (40, false)⟩, ⟨some 43, .pick (.t 40) (.c (.d (.bool true))) (.t 42), none⟩] [10, 27, 30, 31, 32, 33, 34, 35, 36, 37, 38, 39, 40, 41, 42])
 (.cond (.t 43) (.seq (.ops [] [⟨some 44, .build [.d (.int .i64 0), .d (.int .i64 0), .d (.int .i64 0), .d (.int .i64 0)] [], none⟩, ⟨none, .st 4 (.t 8) (.t 44), none⟩, ⟨some 9, .mv (.c (.d (.int .i64 1))), none⟩] [2, 3, 4, 5, 43, 44])
 (.ret [8, 9])) .skip))
 (.seq (.ops [] [⟨some 45, .fad false 0 1 (.t 4), none⟩, ⟨some 46, .ld false 1 (.t 45), none⟩, ⟨some 47, .bin .add (.t 46) (.c (.d (.int .i64 1))), none⟩, ⟨some 48, .mv (.t 2), none⟩, ⟨some 49, .build [.d (.int .i64 0), .d (.int .i64 0), .d (.int .i64 0), .d (.int .i64 0)] [(0, (1, .t 47)), (1, (1, .t 48))], none⟩, ⟨some 11, .alloc (.d (.agg [.int .i64 0, .int .i64 0, .int .i64 0, .int .i64 0])), none⟩, ⟨none, .st 4 (.t 11) (.t 49), none⟩] [4, 43, 45, 46, 47, 48, 49])
 (.seq (.ops [] [⟨some 51, .ld true 8 (.t 5), none⟩, ⟨some 52, .mv (.t 2), none⟩, ⟨some 53, .mv (.t 3), none⟩, ⟨some 54, .call N_shard_Counts [] [.t 51, .t 52, .t 53], none⟩, ⟨some 50, .mv (.t 54), none⟩, ⟨some 55, .ext (.t 50) 0, none⟩, ⟨some 56, .ext (.t 50) 1, none⟩, ⟨some 57, .fad false 2 1 (.t 11), none⟩, ⟨none, .st 1 (.t 57) (.t 55), none⟩, ⟨some 58, .fad false 3 1 (.t 11), none⟩, ⟨none, .st 1 (.t 58) (.t 56), none⟩] [2, 3, 5, 50, 51, 52, 53, 54, 55, 56, 57, 58])
 (.seq (.ops [] [⟨some 59, .ld true 4 (.t 11), none⟩, ⟨none, .st 4 (.t 8) (.t 59), none⟩, ⟨some 9, .mv (.c (.d (.int .i64 0))), none⟩] [11, 59])
 (.ret [8, 9]))))))))
def r_stripe_End : List ARes := [.c 8 true 4, .t 9]
def fn_stripe_End : AFn := .code c_stripe_End r_stripe_End 60 true
def l_shard_Validate_0 : ACode :=
 (.seq (.ops [] [⟨some 57, .bin .lss (.t 56) (.t 55), none⟩] [])
 (.seq (.cond (.t 57) .skip (.exit 1 [6]))
 (.seq (.block 2 (.seq (.ops [] [⟨some 58, .iad 7 (.t 54) (.t 56), none⟩, ⟨some 59, .ld true 7 (.t 58), none⟩, ⟨some 8, .alloc (.d (.agg [.int .i64 0, .int .i64 0, .int .i64 0, .int .i64 0, .int .i64 0, .int .i64 0, .str []])), none⟩, ⟨none, .st 7 (.t 8) (.t 59), none⟩] [57, 58, 59])
 (.seq (.seq (.ops [] [⟨some 60, .fad false 1 1 (.t 8), none⟩, ⟨some 61, .ld false 1 (.t 60), none⟩, ⟨some 62, .fad false 1 1 (.t 1), none⟩, ⟨some 63, .ld false 1 (.t 62), none⟩, ⟨some 64, .fad false 2 1 (.t 1), none⟩, ⟨some 65, .ld false 1 (.t 64), none⟩, ⟨some 66, .call N_shard_in [] [.t 61, .t 63, .t 65], none⟩, ⟨some 67, .un .not (.t 66), none⟩] [60, 61, 62, 63, 64, 65, 66])
 (.cond (.t 67) (.seq (.ops [] [⟨some 2, .mv (.c (.d (.int .i64 12))), none⟩] [1, 5, 6, 8, 54, 55, 56, 67])
 (.ret [2])) .skip))
 (.seq (.ops [] [⟨some 68, .mv (.t 6), none⟩, ⟨some 69, .mv (.t 68), none⟩, ⟨some 70, .mv (.t 5), some (69, false)⟩, ⟨some 71, .fad false 0 1 (.t 8), some (69, false)⟩, ⟨some 72, .ld false 1 (.t 71), some (69, false)⟩, ⟨some 73, .lkp false (.bool false) (.t 70) (.t 72), some (69, false)⟩, ⟨some 74, .pick (.t 69) (.c (.d (.bool true))) (.t 73), none⟩, ⟨some 6, .mv (.t 74), none⟩] [67, 68, 69, 70, 71, 72, 73, 74])
 (.ops [] [⟨some 75, .mv (.t 5), none⟩, ⟨some 76, .fad false 0 1 (.t 8), none⟩, ⟨some 77, .ld false 1 (.t 76), none⟩, ⟨none, .mup (.t 75) (.t 77) (.c (.d (.bool true))), none⟩] [8, 75, 76, 77])))))
 (.ops [] [⟨some 78, .bin .add (.t 56) (.c (.d (.int .i64 1))), none⟩, ⟨some 56, .mv (.t 78), none⟩] [78]))))
def c_shard_Validate : ACode :=
 (.seq (.ops [] [⟨some 1, .box (.t 0), none⟩, ⟨some 2, .mv (.c (.d (.int .i64 0))), none⟩] [0, 2])
 (.seq (.seq (.ops [] [⟨some 9, .fad true 3 3 (.t 1), none⟩, ⟨some 10, .ld true 3 (.t 9), none⟩, ⟨some 11, .call N_ring_Validate [] [.t 10], none⟩, ⟨some 3, .mv (.t 11), none⟩] [9, 10, 11])
 (.seq (.ops [] [⟨some 12, .mv (.t 3), none⟩, ⟨some 13, .bin .neq (.t 12) (.c (.d (.int .i64 0))), none⟩] [12])
 (.cond (.t 13) (.seq (.ops [] [⟨some 14, .mv (.t 3), none⟩, ⟨some 2, .mv (.t 14), none⟩] [1, 3, 13, 14])
 (.ret [2])) .skip)))
 (.seq (.seq (.ops [] [⟨some 15, .fad true 6 2 (.t 1), none⟩, ⟨some 16, .ld true 2 (.t 15), none⟩, ⟨some 17, .call N_lease_Validate [] [.t 16], none⟩, ⟨some 4, .mv (.t 17), none⟩] [3, 13, 15, 16, 17])
 (.seq (.ops [] [⟨some 18, .mv (.t 4), none⟩, ⟨some 19, .bin .neq (.t 18) (.c (.d (.int .i64 0))), none⟩] [18])
 (.cond (.t 19) (.seq (.ops [] [⟨some 20, .mv (.t 4), none⟩, ⟨some 2, .mv (.t 20), none⟩] [1, 4, 19, 20])
 (.ret [2])) .skip)))
 (.seq (.seq (.ops [] [⟨some 21, .fad false 0 1 (.t 1), none⟩, ⟨some 22, .ld false 1 (.t 21), none⟩, ⟨some 23, .un .not (.t 22), none⟩] [4, 19, 21, 22])
 (.cond (.t 23) (.seq (.seq (.ops [] [⟨some 24, .fad false 1 1 (.t 1), none⟩, ⟨some 25, .ld false 1 (.t 24), none⟩, ⟨some 26, .bin .neq (.t 25) (.c (.d (.int .i64 0))), none⟩, ⟨some 27, .mv (.t 26), none⟩, ⟨some 28, .fad false 2 1 (.t 1), some (27, false)⟩, ⟨some 29, .ld false 1 (.t 28), some (27, false)⟩, ⟨some 30, .bin .neq (.t 29) (.c (.d (.int .i64 0))), some (27, false)⟩, ⟨some 31, .pick (.t 27) (.c (.d (.bool true))) (.t 30), none⟩, ⟨some 32, .mv (.t 31), none⟩, ⟨some 33, .ld true 8 (.t 1), some (32, false)⟩, ⟨some 34, .call N_shard_stored [] [.t 33], some (32, false)⟩, ⟨some 35, .bin .gtr (.t 34) (.c (.d (.int .i64 0))), some (32, false)⟩, ⟨some 36, .pick (.t 32) (.c (.d (.bool true))) (.t 35), none⟩] [1, 23, 24, 25, 26, 27, 28, 29, 30, 31, 32, 33, 34, 35])
 (.cond (.t 36) (.seq (.ops [] [⟨some 2, .mv (.c (.d (.int .i64 7))), none⟩] [36])
 (.ret [2])) .skip))
 (.seq (.ops [] [⟨some 2, .mv (.c (.d (.int .i64 0))), none⟩] [36])
 (.ret [2]))) .skip))
 (.seq (.block 0 (.seq (.ops [] [⟨some 38, .fad false 1 1 (.t 1), none⟩, ⟨some 39, .ld false 1 (.t 38), none⟩, ⟨some 40, .fad false 2 1 (.t 1), none⟩, ⟨some 41, .ld false 1 (.t 40), none⟩, ⟨some 42, .call N_shard_spans [] [.t 39, .t 41], none⟩, ⟨some 43, .un .not (.t 42), none⟩, ⟨some 37, .mv (.t 43), none⟩] [23, 38, 39, 40, 41, 42, 43])
 (.cond (.t 37) (.seq (.ops [] [⟨some 2, .mv (.c (.d (.int .i64 1))), none⟩] [1, 37])
 (.ret [2])) (.seq (.draw [] [⟨some 45, .ld true 8 (.t 1), none⟩, ⟨some 46, .call N_shard_stored [] [.t 45], none⟩, ⟨some 47, .fad true 3 3 (.t 1), none⟩, ⟨some 48, .fad false 0 1 (.t 47), none⟩, ⟨some 49, .ld false 1 (.t 48), none⟩, ⟨some 50, .len (.t 49), none⟩, ⟨some 51, .bin .gtr (.t 46) (.t 50), none⟩, ⟨some 44, .mv (.t 51), none⟩] [[], [], [0, 1], [0, 1], [0, 1], [0, 1], [], []] [37, 45, 46, 47, 48, 49, 50, 51])
 (.cond (.t 44) (.seq (.ops [] [⟨some 2, .mv (.c (.d (.int .i64 3))), none⟩] [1, 44])
 (.ret [2])) .skip)))))
 (.seq (.ops [] [⟨some 52, .mkm, none⟩, ⟨some 5, .mv (.t 52), none⟩] [44, 52])
 (.seq (.ops [] [⟨some 6, .mv (.c (.d (.bool false))), none⟩] [])
 (.seq (.seq (.ops [] [⟨some 53, .ld true 8 (.t 1), none⟩, ⟨some 54, .call N_shard_messages [] [.t 53], none⟩, ⟨some 55, .len (.t 54), none⟩, ⟨some 56, .mv (.c (.d (.int .i64 0))), none⟩] [53])
 (.block 1 (.loop [] l_shard_Validate_0)))
 (.seq (.seq (.ops [] [⟨some 79, .mv (.t 6), none⟩] [1, 5, 6, 54, 55, 56, 57])
 (.cond (.t 79) (.seq (.ops [] [⟨some 2, .mv (.c (.d (.int .i64 10))), none⟩] [79])
 (.ret [2])) .skip))
 (.seq (.ops [] [⟨some 2, .mv (.c (.d (.int .i64 0))), none⟩] [79])
 (.ret [2])))))))))))
def r_shard_Validate : List ARes := [.t 2]
def fn_shard_Validate : AFn := .code c_shard_Validate r_shard_Validate 80 true
def l_ring_Validate_0 : ACode :=
 (.seq (.seq (.ops [] [⟨some 43, .mv (.t 4), none⟩, ⟨some 44, .mv (.t 3), none⟩, ⟨some 45, .bin .lss (.t 43) (.t 44), none⟩] [43, 44])
 (.cond (.t 45) .skip (.exit 0 [1])))
 (.seq (.block 1 (.seq (.draw [] [⟨some 48, .fad false 0 1 (.t 1), none⟩, ⟨some 49, .ld false 1 (.t 48), none⟩, ⟨some 50, .ld true 3 (.t 1), none⟩, ⟨some 51, .mv (.t 4), none⟩, ⟨some 52, .call N_ring_cell [] [.t 50, .t 51], none⟩, ⟨some 53, .iad 7 (.t 49) (.t 52), none⟩, ⟨some 54, .ld true 7 (.t 53), none⟩, ⟨some 55, .build [.d (.int .i64 0), .d (.int .i64 0), .d (.int .i64 0), .d (.int .i64 0), .d (.int .i64 0), .d (.int .i64 0), .d (.str [])] [], none⟩, ⟨some 56, .eqs true 7 [(0, 0), (1, 0), (2, 0), (3, 0), (4, 0), (5, 0), (6, 2)] (.t 54) (.t 55), none⟩] [[], [], [0, 1], [0, 1, 2], [0, 1], [], [], [0, 1, 2, 3, 4, 5, 6], []] [45, 48, 49, 50, 51, 52, 53, 54, 55])
 (.cond (.t 56) (.seq (.ops [] [⟨some 2, .mv (.c (.d (.int .i64 7))), none⟩] [1, 3, 4, 56])
 (.ret [2])) .skip)))
 (.ops [] [⟨some 46, .mv (.t 4), none⟩, ⟨some 47, .bin .add (.t 46) (.c (.d (.int .i64 1))), none⟩, ⟨some 4, .mv (.t 47), none⟩] [46, 47, 56])))
def l_ring_Validate_1 : ACode :=
 (.seq (.ops [] [⟨some 62, .bin .lss (.t 61) (.t 60), none⟩] [])
 (.seq (.cond (.t 62) .skip (.exit 2 [6]))
 (.seq (.block 3 (.seq (.ops [] [⟨some 63, .iad 7 (.t 59) (.t 61), none⟩, ⟨some 64, .ld true 7 (.t 63), none⟩, ⟨some 8, .alloc (.d (.agg [.int .i64 0, .int .i64 0, .int .i64 0, .int .i64 0, .int .i64 0, .int .i64 0, .str []])), none⟩, ⟨none, .st 7 (.t 8) (.t 64), none⟩] [62, 63, 64])
 (.seq (.seq (.ops [] [⟨some 65, .ld true 7 (.t 8), none⟩, ⟨some 66, .call N_message_Validate [] [.t 65], none⟩, ⟨some 9, .mv (.t 66), none⟩] [65, 66])
 (.seq (.ops [] [⟨some 67, .mv (.t 9), none⟩, ⟨some 68, .bin .neq (.t 67) (.c (.d (.int .i64 0))), none⟩] [67])
 (.cond (.t 68) (.seq (.ops [] [⟨some 69, .mv (.t 9), none⟩, ⟨some 2, .mv (.t 69), none⟩] [5, 6, 8, 9, 59, 60, 61, 68, 69])
 (.ret [2])) .skip)))
 (.seq (.ops [] [⟨some 70, .mv (.t 6), none⟩, ⟨some 71, .mv (.t 70), none⟩, ⟨some 72, .mv (.t 5), some (71, false)⟩, ⟨some 73, .fad false 0 1 (.t 8), some (71, false)⟩, ⟨some 74, .ld false 1 (.t 73), some (71, false)⟩, ⟨some 75, .lkp false (.bool false) (.t 72) (.t 74), some (71, false)⟩, ⟨some 76, .pick (.t 71) (.c (.d (.bool true))) (.t 75), none⟩, ⟨some 6, .mv (.t 76), none⟩] [9, 68, 70, 71, 72, 73, 74, 75, 76])
 (.ops [] [⟨some 77, .mv (.t 5), none⟩, ⟨some 78, .fad false 0 1 (.t 8), none⟩, ⟨some 79, .ld false 1 (.t 78), none⟩, ⟨none, .mup (.t 77) (.t 79) (.c (.d (.bool true))), none⟩] [8, 77, 78, 79])))))
 (.ops [] [⟨some 80, .bin .add (.t 61) (.c (.d (.int .i64 1))), none⟩, ⟨some 61, .mv (.t 80), none⟩] [80]))))
def c_ring_Validate : ACode :=
 (.seq (.ops [] [⟨some 1, .box (.t 0), none⟩, ⟨some 2, .mv (.c (.d (.int .i64 0))), none⟩] [0, 2])
 (.seq (.ops [] [⟨some 10, .fad false 0 1 (.t 1), none⟩, ⟨some 11, .ld false 1 (.t 10), none⟩, ⟨some 12, .len (.t 11), none⟩, ⟨some 3, .mv (.t 12), none⟩] [10, 11, 12])
 (.seq (.seq (.ops [] [⟨some 13, .mv (.t 3), none⟩, ⟨some 14, .bin .lss (.t 13) (.c (.d (.int .i64 1))), none⟩, ⟨some 15, .mv (.t 14), none⟩, ⟨some 16, .mv (.t 3), some (15, false)⟩, ⟨some 17, .bin .gtr (.t 16) (.c (.d (.int .i64 12))), some (15, false)⟩, ⟨some 18, .pick (.t 15) (.c (.d (.bool true))) (.t 17), none⟩, ⟨some 19, .mv (.t 18), none⟩, ⟨some 20, .fad false 1 1 (.t 1), some (19, false)⟩, ⟨some 21, .ld false 1 (.t 20), some (19, false)⟩, ⟨some 22, .bin .lss (.t 21) (.c (.d (.int .i64 0))), some (19, false)⟩, ⟨some 23, .pick (.t 19) (.c (.d (.bool true))) (.t 22), none⟩, ⟨some 24, .mv (.t 23), none⟩, ⟨some 25, .fad false 1 1 (.t 1), some (24, false)⟩, ⟨some 26, .ld false 1 (.t 25), some (24, false)⟩, ⟨some 27, .mv (.t 3), some (24, false)⟩, ⟨some 28, .bin .geq (.t 26) (.t 27), some (24, false)⟩, ⟨some 29, .pick (.t 24) (.c (.d (.bool true))) (.t 28), none⟩, ⟨some 30, .mv (.t 29), none⟩, ⟨some 31, .fad false 2 1 (.t 1), some (30, false)⟩, ⟨some 32, .ld false 1 (.t 31), some (30, false)⟩, ⟨some 33, .bin .lss (.t 32) (.c (.d (.int .i64 0))), some (30, false)⟩, ⟨some 34, .pick (.t 30) (.c (.d (.bool true))) (.t 33), none⟩, ⟨some 35, .mv (.t 34), none⟩, ⟨some 36, .fad false 2 1 (.t 1), some (35, false)⟩, ⟨some 37, .ld false 1 (.t 36), some (35, false)⟩, ⟨some 38, .mv (.t 3), some (35, false)⟩, ⟨some 39, .bin .gtr (.t 37) (.t 38), some (35, false)⟩, ⟨some 40, .pick (.t 35) (.c (.d (.bool true))) (.t 39), none⟩] [13, 14, 15, 16, 17, 18, 19, 20, 21, 22, 23, 24, 25, 26, 27, 28, 29, 30, 31, 32, 33, 34, 35, 36, 37, 38, 39])
 (.cond (.t 40) (.seq (.ops [] [⟨some 2, .mv (.c (.d (.int .i64 1))), none⟩] [1, 3, 40])
 (.ret [2])) .skip))
 (.seq (.seq (.ops [] [⟨some 41, .fad false 2 1 (.t 1), none⟩, ⟨some 42, .ld false 1 (.t 41), none⟩, ⟨some 4, .mv (.t 42), none⟩] [40, 41, 42])
 (.block 0 (.loop [] l_ring_Validate_0)))
 (.seq (.ops [] [⟨some 57, .mkm, none⟩, ⟨some 5, .mv (.t 57), none⟩] [3, 4, 45, 57])
 (.seq (.ops [] [⟨some 6, .mv (.c (.d (.bool false))), none⟩] [])
 (.seq (.seq (.ops [] [⟨some 58, .ld true 3 (.t 1), none⟩, ⟨some 59, .call N_ring_list [] [.t 58], none⟩, ⟨some 60, .len (.t 59), none⟩, ⟨some 61, .mv (.c (.d (.int .i64 0))), none⟩] [1, 58])
 (.block 2 (.loop [] l_ring_Validate_1)))
 (.seq (.seq (.ops [] [⟨some 81, .mv (.t 6), none⟩] [5, 6, 59, 60, 61, 62])
 (.cond (.t 81) (.seq (.ops [] [⟨some 2, .mv (.c (.d (.int .i64 10))), none⟩] [81])
 (.ret [2])) .skip))
 (.seq (.ops [] [⟨some 2, .mv (.c (.d (.int .i64 0))), none⟩] [81])
 (.ret [2]))))))))))
def r_ring_Validate : List ARes := [.t 2]
def fn_ring_Validate : AFn := .code c_ring_Validate r_ring_Validate 82 true
def c_ring_cell : ACode :=
 (.seq (.ops [] [⟨some 2, .box (.t 0), none⟩, ⟨some 4, .mv (.c (.d (.int .i64 0))), none⟩] [0, 4])
 (.seq (.ops [] [⟨some 5, .fad false 1 1 (.t 2), none⟩, ⟨some 6, .ld false 1 (.t 5), none⟩, ⟨some 7, .mv (.t 1), none⟩, ⟨some 8, .bin .add (.t 6) (.t 7), none⟩, ⟨some 9, .fad false 0 1 (.t 2), none⟩, ⟨some 10, .ld false 1 (.t 9), none⟩, ⟨some 11, .len (.t 10), none⟩, ⟨some 12, .bin .rem (.t 8) (.t 11), none⟩, ⟨some 4, .mv (.t 12), none⟩] [1, 2, 5, 6, 7, 8, 9, 10, 11, 12])
 (.ret [4])))
def r_ring_cell : List ARes := [.t 4]
def fn_ring_cell : AFn := .code c_ring_cell r_ring_cell 13 true
def l_ring_list_0 : ACode :=
 (.seq (.ops [] [⟨some 8, .bin .lss (.t 7) (.t 6), none⟩] [])
 (.seq (.cond (.t 8) .skip (.exit 0 [3]))
 (.seq (.block 1 (.seq (.ops [] [⟨some 9, .mv (.t 7), none⟩, ⟨some 4, .mv (.t 9), none⟩] [8, 9])
 (.draw [] [⟨some 10, .mv (.t 3), none⟩, ⟨some 11, .fad false 0 1 (.t 1), none⟩, ⟨some 12, .ld false 1 (.t 11), none⟩, ⟨some 13, .ld true 3 (.t 1), none⟩, ⟨some 14, .mv (.t 4), none⟩, ⟨some 15, .call N_ring_cell [] [.t 13, .t 14], none⟩, ⟨some 16, .iad 7 (.t 12) (.t 15), none⟩, ⟨some 17, .ld true 7 (.t 16), none⟩, ⟨some 18, .bsl 1 7 (.d (.agg [.int .i64 0, .int .i64 0, .int .i64 0, .int .i64 0, .int .i64 0, .int .i64 0, .str []])) [(0, .t 17)], none⟩, ⟨some 19, .app 7 (.t 10) (.t 18), none⟩, ⟨some 3, .mv (.t 19), none⟩] [[], [0], [0], [0, 1, 2], [0, 1, 2, 3], [0, 1, 2], [0], [0], [0], [], []] [4, 10, 11, 12, 13, 14, 15, 16, 17, 18, 19])))
 (.ops [] [⟨some 20, .bin .add (.t 7) (.c (.d (.int .i64 1))), none⟩, ⟨some 7, .mv (.t 20), none⟩] [20]))))
def c_ring_list : ACode :=
 (.seq (.ops [] [⟨some 1, .box (.t 0), none⟩, ⟨some 2, .mv (.c (.xsl [])), none⟩] [0, 2])
 (.seq (.ops [] [⟨some 3, .nacc, none⟩] [])
 (.seq (.seq (.ops [] [⟨some 5, .fad false 2 1 (.t 1), none⟩, ⟨some 6, .ld false 1 (.t 5), none⟩, ⟨some 7, .mv (.c (.d (.int .i64 0))), none⟩] [5])
 (.block 0 (.loop [] l_ring_list_0)))
 (.seq (.ops [] [⟨some 21, .mv (.t 3), none⟩, ⟨some 2, .mv (.t 21), none⟩] [1, 3, 6, 7, 8, 21])
 (.ret [2])))))
def r_ring_list : List ARes := [.t 2]
def fn_ring_list : AFn := .code c_ring_list r_ring_list 22 false
def c_message_Validate : ACode :=
 (.seq (.ops [] [⟨some 1, .box (.t 0), none⟩, ⟨some 2, .mv (.c (.d (.int .i64 0))), none⟩] [0, 2])
 (.seq (.seq (.ops [] [⟨some 3, .fad false 0 1 (.t 1), none⟩, ⟨some 4, .ld false 1 (.t 3), none⟩, ⟨some 5, .call N_message_in [] [.t 4, .c (.d (.int .i64 1)), .c (.d (.int .i64 1073741824))], none⟩, ⟨some 6, .un .not (.t 5), none⟩, ⟨some 7, .mv (.t 6), none⟩, ⟨some 8, .fad false 1 1 (.t 1), some (7, false)⟩, ⟨some 9, .ld false 1 (.t 8), some (7, false)⟩, ⟨some 10, .call N_message_in [] [.t 9, .c (.d (.int .i64 0)), .c (.d (.int .i64 65535))], some (7, false)⟩, ⟨some 11, .un .not (.t 10), some (7, false)⟩, ⟨some 12, .pick (.t 7) (.c (.d (.bool true))) (.t 11), none⟩, ⟨some 13, .mv (.t 12), none⟩, ⟨some 14, .fad false 2 1 (.t 1), some (13, false)⟩, ⟨some 15, .ld false 1 (.t 14), some (13, false)⟩, ⟨some 16, .call N_message_in [] [.t 15, .c (.d (.int .i64 0)), .c (.d (.int .i64 65536))], some (13, false)⟩, ⟨some 17, .un .not (.t 16), some (13, false)⟩, ⟨some 18, .pick (.t 13) (.c (.d (.bool true))) (.t 17), none⟩, ⟨some 19, .mv (.t 18), none⟩, ⟨some 20, .fad false 3 1 (.t 1), some (19, false)⟩, ⟨some 21, .ld false 1 (.t 20), some (19, false)⟩, ⟨some 22, .call N_message_in [] [.t 21, .c (.d (.int .i64 0)), .c (.d (.int .i64 8))], some (19, false)⟩, ⟨some 23, .un .not (.t 22), some (19, false)⟩, ⟨some 24, .pick (.t 19) (.c (.d (.bool true))) (.t 23), none⟩, ⟨some 25, .mv (.t 24), none⟩, ⟨some 26, .fad false 4 1 (.t 1), some (25, false)⟩, ⟨some 27, .ld false 1 (.t 26), some (25, false)⟩, ⟨some 28, .fad false 3 1 (.t 1), some (25, false)⟩, ⟨some 29, .ld false 1 (.t 28), some (25, false)⟩, ⟨some 30, .call N_message_in [] [.t 27, .t 29, .c (.d (.int .i64 65536))], some (25, false)⟩, ⟨some 31, .un .not (.t 30), some (25, false)⟩, ⟨some 32, .pick (.t 25) (.c (.d (.bool true))) (.t 31), none⟩, ⟨some 33, .mv (.t 32), none⟩, ⟨some 34, .fad false 5 1 (.t 1), some (33, false)⟩, ⟨some 35, .ld false 1 (.t 34), some (33, false)⟩, ⟨some 36, .call N_message_in [] [.t 35, .c (.d (.int .i64 0)), .c (.d (.int .i64 1073741824))], some (33, false)⟩, ⟨some 37, .un .not (.t 36), some (33, false)⟩, ⟨some 38, .pick (.t 33) (.c (.d (.bool true))) (.t 37), none⟩] [3, 4, 5, 6, 7, 8, 9, 10, 11, 12, 13, 14, 15, 16, 17, 18, 19, 20, 21, 22, 23, 24, 25, 26, 27, 28, 29, 30, 31, 32, 33, 34, 35, 36, 37])
 (.cond (.t 38) (.seq (.ops [] [⟨some 2, .mv (.c (.d (.int .i64 1))), none⟩] [1, 38])
 (.ret [2])) .skip))
 (.seq (.seq (.ops [] [⟨some 39, .fad false 6 1 (.t 1), none⟩, ⟨some 40, .ld false 1 (.t 39), none⟩, ⟨some 41, .lens (.t 40), none⟩, ⟨some 42, .bin .gtr (.t 41) (.c (.d (.int .i64 16))), none⟩] [1, 38, 39, 40, 41])
 (.cond (.t 42) (.seq (.ops [] [⟨some 2, .mv (.c (.d (.int .i64 2))), none⟩] [42])
 (.ret [2])) .skip))
 (.seq (.ops [] [⟨some 2, .mv (.c (.d (.int .i64 0))), none⟩] [42])
 (.ret [2])))))
def r_message_Validate : List ARes := [.t 2]
def fn_message_Validate : AFn := .code c_message_Validate r_message_Validate 43 true
def c_message_in : ACode :=
 (.seq (.ops [] [⟨some 6, .mv (.c (.d (.bool false))), none⟩] [6])
 (.seq (.ops [] [⟨some 7, .mv (.t 1), none⟩, ⟨some 8, .mv (.t 0), none⟩, ⟨some 9, .bin .leq (.t 7) (.t 8), none⟩, ⟨some 10, .mv (.t 9), none⟩, ⟨some 11, .mv (.t 0), some (10, true)⟩, ⟨some 12, .mv (.t 2), some (10, true)⟩, ⟨some 13, .bin .leq (.t 11) (.t 12), some (10, true)⟩, ⟨some 14, .pick (.t 10) (.t 13) (.c (.d (.bool false))), none⟩, ⟨some 6, .mv (.t 14), none⟩] [0, 1, 2, 7, 8, 9, 10, 11, 12, 13, 14])
 (.ret [6])))
def r_message_in : List ARes := [.t 6]
def fn_message_in : AFn := .code c_message_in r_message_in 15 true
def l_lease_Validate_0 : ACode :=
 (.seq (.ops [] [⟨some 15, .bin .lss (.t 14) (.t 13), none⟩] [])
 (.seq (.cond (.t 15) .skip (.exit 0 [1]))
 (.seq (.block 1 (.seq (.ops [] [⟨some 16, .mv (.t 14), none⟩, ⟨some 17, .iad 8 (.t 12) (.t 14), none⟩, ⟨some 18, .ld true 8 (.t 17), none⟩, ⟨some 4, .alloc (.d (.agg [.int .i64 0, .int .i64 0, .int .i64 0, .int .i64 0, .int .i64 0, .int .i64 0, .str [], .int .i64 0])), none⟩, ⟨some 3, .mv (.t 16), none⟩, ⟨none, .st 8 (.t 4) (.t 18), none⟩] [15, 16, 17, 18])
 (.seq (.seq (.ops [] [⟨some 19, .fad true 0 7 (.t 4), none⟩, ⟨some 20, .ld true 7 (.t 19), none⟩, ⟨some 21, .call N_message_Validate [] [.t 20], none⟩, ⟨some 5, .mv (.t 21), none⟩] [19, 20, 21])
 (.seq (.ops [] [⟨some 22, .mv (.t 5), none⟩, ⟨some 23, .bin .neq (.t 22) (.c (.d (.int .i64 0))), none⟩] [22])
 (.cond (.t 23) (.seq (.ops [] [⟨some 24, .mv (.t 5), none⟩, ⟨some 2, .mv (.t 24), none⟩] [1, 3, 4, 5, 12, 13, 14, 23, 24])
 (.ret [2])) .skip)))
 (.block 2 (.seq (.ops [] [⟨some 26, .fad true 0 7 (.t 4), none⟩, ⟨some 27, .fad false 4 1 (.t 26), none⟩, ⟨some 28, .ld false 1 (.t 27), none⟩, ⟨some 29, .bin .eql (.t 28) (.c (.d (.int .i64 0))), none⟩, ⟨some 25, .mv (.t 29), none⟩] [5, 23, 26, 27, 28, 29])
 (.cond (.t 25) (.seq (.ops [] [⟨some 2, .mv (.c (.d (.int .i64 7))), none⟩] [1, 3, 4, 12, 13, 14, 25])
 (.ret [2])) (.seq (.ops [] [⟨some 31, .fad false 7 1 (.t 4), none⟩, ⟨some 32, .ld false 1 (.t 31), none⟩, ⟨some 33, .call N_lease_time [] [.t 32], none⟩, ⟨some 34, .un .not (.t 33), none⟩, ⟨some 30, .mv (.t 34), none⟩] [25, 31, 32, 33, 34])
 (.cond (.t 30) (.seq (.ops [] [⟨some 2, .mv (.c (.d (.int .i64 1))), none⟩] [1, 3, 4, 12, 13, 14, 30])
 (.ret [2])) (.seq (.draw [] [⟨some 36, .mv (.t 3), none⟩, ⟨some 37, .bin .gtr (.t 36) (.c (.d (.int .i64 0))), none⟩, ⟨some 38, .mv (.t 37), none⟩, ⟨some 39, .fad true 0 7 (.t 4), some (38, true)⟩, ⟨some 40, .fad false 0 1 (.t 39), some (38, true)⟩, ⟨some 41, .ld false 1 (.t 40), some (38, true)⟩, ⟨some 42, .fad false 0 1 (.t 1), some (38, true)⟩, ⟨some 43, .ld false 1 (.t 42), some (38, true)⟩, ⟨some 44, .mv (.t 3), some (38, true)⟩, ⟨some 45, .bin .sub (.t 44) (.c (.d (.int .i64 1))), some (38, true)⟩, ⟨some 46, .iad 8 (.t 43) (.t 45), some (38, true)⟩, ⟨some 47, .fad true 0 7 (.t 46), some (38, true)⟩, ⟨some 48, .fad false 0 1 (.t 47), some (38, true)⟩, ⟨some 49, .ld false 1 (.t 48), some (38, true)⟩, ⟨some 50, .bin .leq (.t 41) (.t 49), some (38, true)⟩, ⟨some 51, .pick (.t 38) (.t 50) (.c (.d (.bool false))), none⟩, ⟨some 35, .mv (.t 51), none⟩] [[], [], [], [], [], [], [3, 4, 5], [3, 4, 5], [3, 4, 5, 6, 7], [3, 4, 5, 6, 7], [3, 4, 5], [3, 4, 5], [3, 4, 5], [3, 4, 5], [], [], []] [3, 4, 30, 36, 37, 38, 39, 40, 41, 42, 43, 44, 45, 46, 47, 48, 49, 50, 51])
 (.cond (.t 35) (.seq (.ops [] [⟨some 2, .mv (.c (.d (.int .i64 11))), none⟩] [1, 12, 13, 14, 35])
 (.ret [2])) .skip))))))))))
 (.ops [] [⟨some 52, .bin .add (.t 14) (.c (.d (.int .i64 1))), none⟩, ⟨some 14, .mv (.t 52), none⟩] [35, 52]))))
def c_lease_Validate : ACode :=
 (.seq (.ops [] [⟨some 1, .box (.t 0), none⟩, ⟨some 2, .mv (.c (.d (.int .i64 0))), none⟩] [0, 2])
 (.seq (.seq (.ops [] [⟨some 7, .fad false 0 1 (.t 1), none⟩, ⟨some 8, .ld false 1 (.t 7), none⟩, ⟨some 9, .len (.t 8), none⟩, ⟨some 10, .bin .gtr (.t 9) (.c (.d (.int .i64 12))), none⟩] [7, 8, 9])
 (.cond (.t 10) (.seq (.ops [] [⟨some 2, .mv (.c (.d (.int .i64 2))), none⟩] [1, 10])
 (.ret [2])) .skip))
 (.seq (.seq (.ops [] [⟨some 11, .fad false 0 1 (.t 1), none⟩, ⟨some 12, .ld false 1 (.t 11), none⟩, ⟨some 13, .len (.t 12), none⟩, ⟨some 14, .mv (.c (.d (.int .i64 0))), none⟩] [10, 11])
 (.block 0 (.loop [] l_lease_Validate_0)))
 (.seq (.seq (.ops [] [⟨some 53, .fad false 1 1 (.t 1), none⟩, ⟨some 54, .ld false 1 (.t 53), none⟩, ⟨some 55, .call N_due_Validate [] [.t 54], none⟩, ⟨some 6, .mv (.t 55), none⟩] [12, 13, 14, 15, 53, 54, 55])
 (.seq (.ops [] [⟨some 56, .mv (.t 6), none⟩, ⟨some 57, .bin .neq (.t 56) (.c (.d (.int .i64 0))), none⟩] [56])
 (.cond (.t 57) (.seq (.ops [] [⟨some 58, .mv (.t 6), none⟩, ⟨some 2, .mv (.t 58), none⟩] [1, 6, 57, 58])
 (.ret [2])) .skip)))
 (.seq (.seq (.ops [] [⟨some 59, .ld true 2 (.t 1), none⟩, ⟨some 60, .call N_lease_matches [] [.t 59], none⟩, ⟨some 61, .un .not (.t 60), none⟩] [1, 6, 57, 59, 60])
 (.cond (.t 61) (.seq (.ops [] [⟨some 2, .mv (.c (.d (.int .i64 7))), none⟩] [61])
 (.ret [2])) .skip))
 (.seq (.ops [] [⟨some 2, .mv (.c (.d (.int .i64 0))), none⟩] [61])
 (.ret [2])))))))
def r_lease_Validate : List ARes := [.t 2]
def fn_lease_Validate : AFn := .code c_lease_Validate r_lease_Validate 62 true
def c_lease_time : ACode :=
 (.seq (.ops [] [⟨some 2, .mv (.c (.d (.bool false))), none⟩] [2])
 (.seq (.ops [] [⟨some 3, .mv (.t 0), none⟩, ⟨some 4, .bin .geq (.t 3) (.c (.d (.int .i64 0))), none⟩, ⟨some 5, .mv (.t 4), none⟩, ⟨some 6, .mv (.t 0), some (5, true)⟩, ⟨some 7, .bin .leq (.t 6) (.c (.d (.int .i64 1073741824))), some (5, true)⟩, ⟨some 8, .pick (.t 5) (.t 7) (.c (.d (.bool false))), none⟩, ⟨some 2, .mv (.t 8), none⟩] [0, 3, 4, 5, 6, 7, 8])
 (.ret [2])))
def r_lease_time : List ARes := [.t 2]
def fn_lease_time : AFn := .code c_lease_time r_lease_time 9 true
def l_due_Validate_0 : ACode :=
 (.seq (.ops [] [⟨some 14, .bin .lss (.t 13) (.t 12), none⟩] [])
 (.seq (.cond (.t 14) .skip (.exit 0 [0]))
 (.seq (.block 1 (.seq (.ops [] [⟨some 15, .mv (.t 13), none⟩, ⟨some 16, .iad 2 (.t 11) (.t 13), none⟩, ⟨some 17, .ld true 2 (.t 16), none⟩, ⟨some 4, .alloc (.d (.agg [.int .i64 0, .int .i64 0])), none⟩, ⟨some 3, .mv (.t 15), none⟩, ⟨none, .st 2 (.t 4) (.t 17), none⟩] [14, 15, 16, 17])
 (.seq (.ops [] [⟨some 18, .mv (.t 0), none⟩, ⟨some 19, .fad false 1 1 (.t 4), none⟩, ⟨some 20, .ld false 1 (.t 19), none⟩, ⟨some 21, .call N_due_find [] [.t 18, .t 20], none⟩, ⟨some 22, .mv (.t 3), none⟩, ⟨some 23, .bin .neq (.t 21) (.t 22), none⟩] [3, 4, 18, 19, 20, 21, 22])
 (.cond (.t 23) (.seq (.ops [] [⟨some 2, .mv (.c (.d (.int .i64 10))), none⟩] [0, 11, 12, 13, 23])
 (.ret [2])) .skip))))
 (.ops [] [⟨some 24, .bin .add (.t 13) (.c (.d (.int .i64 1))), none⟩, ⟨some 13, .mv (.t 24), none⟩] [23, 24]))))
def l_due_Validate_1 : ACode :=
 (.seq (.seq (.ops [] [⟨some 25, .mv (.t 5), none⟩, ⟨some 26, .mv (.t 0), none⟩, ⟨some 27, .len (.t 26), none⟩, ⟨some 28, .bin .lss (.t 25) (.t 27), none⟩] [25, 26, 27])
 (.cond (.t 28) .skip (.exit 2 [])))
 (.seq (.block 3 (.seq (.ops [] [⟨some 31, .mv (.t 0), none⟩, ⟨some 32, .mv (.t 5), none⟩, ⟨some 33, .mv (.t 5), none⟩, ⟨some 34, .bin .sub (.t 33) (.c (.d (.int .i64 1))), none⟩, ⟨some 35, .bin .quo (.t 34) (.c (.d (.int .i64 2))), none⟩, ⟨some 36, .call N_due_before [] [.t 31, .t 32, .t 35], none⟩] [28, 31, 32, 33, 34, 35])
 (.cond (.t 36) (.seq (.ops [] [⟨some 2, .mv (.c (.d (.int .i64 11))), none⟩] [0, 5, 36])
 (.ret [2])) .skip)))
 (.ops [] [⟨some 29, .mv (.t 5), none⟩, ⟨some 30, .bin .add (.t 29) (.c (.d (.int .i64 1))), none⟩, ⟨some 5, .mv (.t 30), none⟩] [29, 30, 36])))
def c_due_Validate : ACode :=
 (.seq (.ops [] [⟨some 2, .mv (.c (.d (.int .i64 0))), none⟩] [2])
 (.seq (.seq (.ops [] [⟨some 6, .mv (.t 0), none⟩, ⟨some 7, .len (.t 6), none⟩, ⟨some 8, .bin .gtr (.t 7) (.c (.d (.int .i64 12))), none⟩] [6, 7])
 (.cond (.t 8) (.seq (.ops [] [⟨some 2, .mv (.c (.d (.int .i64 2))), none⟩] [0, 8])
 (.ret [2])) .skip))
 (.seq (.seq (.ops [] [⟨some 9, .mv (.t 0), none⟩, ⟨some 10, .call N_slices_ContainsFunc_api_Due [] [.t 9, .c (.d (.fn N_due_Validate_1 []))], none⟩] [8, 9])
 (.cond (.t 10) (.seq (.ops [] [⟨some 2, .mv (.c (.d (.int .i64 1))), none⟩] [0, 10])
 (.ret [2])) .skip))
 (.seq (.seq (.ops [] [⟨some 11, .mv (.t 0), none⟩, ⟨some 12, .len (.t 11), none⟩, ⟨some 13, .mv (.c (.d (.int .i64 0))), none⟩] [10])
 (.block 0 (.loop [] l_due_Validate_0)))
 (.seq (.seq (.ops [] [⟨some 5, .mv (.c (.d (.int .i64 1))), none⟩] [11, 12, 13, 14])
 (.block 2 (.loop [] l_due_Validate_1)))
 (.seq (.ops [] [⟨some 2, .mv (.c (.d (.int .i64 0))), none⟩] [0, 5, 28])
 (.ret [2])))))))
def r_due_Validate : List ARes := [.t 2]
def fn_due_Validate : AFn := .code c_due_Validate r_due_Validate 37 true
def c_slices_ContainsFunc_api_Due : ACode :=
 (.seq (.ops [] [⟨some 4, .mv (.c (.d (.bool false))), none⟩] [4])
 (.seq (.ops [] [⟨some 5, .mv (.t 0), none⟩, ⟨some 6, .mv (.t 1), none⟩, ⟨some 7, .call N_slices_IndexFunc_api_Due [] [.t 5, .t 6], none⟩, ⟨some 8, .bin .geq (.t 7) (.c (.d (.int .i64 0))), none⟩, ⟨some 4, .mv (.t 8), none⟩] [0, 1, 5, 6, 7, 8])
 (.ret [4])))
def r_slices_ContainsFunc_api_Due : List ARes := [.t 4]
def fn_slices_ContainsFunc_api_Due : AFn := .code c_slices_ContainsFunc_api_Due r_slices_ContainsFunc_api_Due 9 true
def l_slices_IndexFunc_api_Due_0 : ACode :=
 (.seq (.ops [] [⟨some 9, .bin .lss (.t 8) (.t 7), none⟩] [])
 (.seq (.cond (.t 9) .skip (.exit 0 []))
 (.seq (.block 1 (.seq (.ops [] [⟨some 10, .mv (.t 8), none⟩, ⟨some 5, .mv (.t 10), none⟩] [9, 10])
 (.seq (.ops [] [⟨some 11, .mv (.t 1), none⟩, ⟨some 12, .mv (.t 0), none⟩, ⟨some 13, .mv (.t 5), none⟩, ⟨some 14, .iad 2 (.t 12) (.t 13), none⟩, ⟨some 15, .ld true 2 (.t 14), none⟩, ⟨some 16, .callv (.t 11) [] [.t 15], none⟩] [11, 12, 13, 14, 15])
 (.cond (.t 16) (.seq (.ops [] [⟨some 17, .mv (.t 5), none⟩, ⟨some 4, .mv (.t 17), none⟩] [0, 1, 5, 7, 8, 16, 17])
 (.ret [4])) .skip))))
 (.ops [] [⟨some 18, .bin .add (.t 8) (.c (.d (.int .i64 1))), none⟩, ⟨some 8, .mv (.t 18), none⟩] [5, 16, 18]))))
def c_slices_IndexFunc_api_Due : ACode :=
 (.seq (.ops [] [⟨some 4, .mv (.c (.d (.int .i64 0))), none⟩] [4])
 (.seq (.seq (.ops [] [⟨some 6, .mv (.t 0), none⟩, ⟨some 7, .len (.t 6), none⟩, ⟨some 8, .mv (.c (.d (.int .i64 0))), none⟩] [6])
 (.block 0 (.loop [] l_slices_IndexFunc_api_Due_0)))
 (.seq (.ops [] [⟨some 4, .mv (.c (.d (.int .i64 (-1)))), none⟩] [0, 1, 7, 8, 9])
 (.ret [4]))))
def r_slices_IndexFunc_api_Due : List ARes := [.t 4]
def fn_slices_IndexFunc_api_Due : AFn := .code c_slices_IndexFunc_api_Due r_slices_IndexFunc_api_Due 19 true
def c_due_Validate_1 : ACode :=
 (.seq (.ops [] [⟨some 1, .box (.t 0), none⟩, ⟨some 2, .mv (.c (.d (.bool false))), none⟩] [0, 2])
 (.seq (.ops [] [⟨some 3, .ld true 2 (.t 1), none⟩, ⟨some 4, .call N_due_valid [] [.t 3], none⟩, ⟨some 5, .un .not (.t 4), none⟩, ⟨some 2, .mv (.t 5), none⟩] [1, 3, 4, 5])
 (.ret [2])))
def r_due_Validate_1 : List ARes := [.t 2]
def fn_due_Validate_1 : AFn := .code c_due_Validate_1 r_due_Validate_1 6 true
def c_due_valid : ACode :=
 (.seq (.ops [] [⟨some 1, .box (.t 0), none⟩, ⟨some 2, .mv (.c (.d (.bool false))), none⟩] [0, 2])
 (.seq (.ops [] [⟨some 3, .fad false 0 1 (.t 1), none⟩, ⟨some 4, .ld false 1 (.t 3), none⟩, ⟨some 5, .bin .geq (.t 4) (.c (.d (.int .i64 0))), none⟩, ⟨some 6, .mv (.t 5), none⟩, ⟨some 7, .fad false 0 1 (.t 1), some (6, true)⟩, ⟨some 8, .ld false 1 (.t 7), some (6, true)⟩, ⟨some 9, .bin .leq (.t 8) (.c (.d (.int .i64 1073741824))), some (6, true)⟩, ⟨some 10, .pick (.t 6) (.t 9) (.c (.d (.bool false))), none⟩, ⟨some 11, .mv (.t 10), none⟩, ⟨some 12, .fad false 1 1 (.t 1), some (11, true)⟩, ⟨some 13, .ld false 1 (.t 12), some (11, true)⟩, ⟨some 14, .bin .geq (.t 13) (.c (.d (.int .i64 1))), some (11, true)⟩, ⟨some 15, .pick (.t 11) (.t 14) (.c (.d (.bool false))), none⟩, ⟨some 16, .mv (.t 15), none⟩, ⟨some 17, .fad false 1 1 (.t 1), some (16, true)⟩, ⟨some 18, .ld false 1 (.t 17), some (16, true)⟩, ⟨some 19, .bin .leq (.t 18) (.c (.d (.int .i64 1073741824))), some (16, true)⟩, ⟨some 20, .pick (.t 16) (.t 19) (.c (.d (.bool false))), none⟩, ⟨some 2, .mv (.t 20), none⟩] [1, 3, 4, 5, 6, 7, 8, 9, 10, 11, 12, 13, 14, 15, 16, 17, 18, 19, 20])
 (.ret [2])))
def r_due_valid : List ARes := [.t 2]
def fn_due_valid : AFn := .code c_due_valid r_due_valid 21 true
def c_due_find : ACode :=
 (.seq (.ops [] [⟨some 3, .box (.t 1), none⟩, ⟨some 4, .mv (.c (.d (.int .i64 0))), none⟩] [1, 4])
 (.seq (.ops [] [⟨some 5, .mv (.t 0), none⟩, ⟨some 6, .mkfn N_due_find_1 [.t 3], none⟩, ⟨some 7, .call N_slices_IndexFunc_api_Due [] [.t 5, .t 6], none⟩, ⟨some 4, .mv (.t 7), none⟩] [0, 3, 5, 6, 7])
 (.ret [4])))
def r_due_find : List ARes := [.t 4]
def fn_due_find : AFn := .code c_due_find r_due_find 8 true
def c_due_find_1 : ACode :=
 (.seq (.ops [] [⟨some 2, .box (.t 0), none⟩, ⟨some 3, .mv (.c (.d (.bool false))), none⟩] [0, 3])
 (.seq (.ops [] [⟨some 4, .fad false 1 1 (.t 2), none⟩, ⟨some 5, .ld false 1 (.t 4), none⟩, ⟨some 6, .ld false 1 (.t 1), none⟩, ⟨some 7, .bin .eql (.t 5) (.t 6), none⟩, ⟨some 3, .mv (.t 7), none⟩] [1, 2, 4, 5, 6, 7])
 (.ret [3])))
def r_due_find_1 : List ARes := [.t 3]
def fn_due_find_1 : AFn := .code c_due_find_1 r_due_find_1 8 true
def c_due_before : ACode :=
 (.seq (.ops [] [⟨some 6, .mv (.c (.d (.bool false))), none⟩] [6])
 (.seq (.draw [] [⟨some 7, .mv (.t 0), none⟩, ⟨some 8, .mv (.t 1), none⟩, ⟨some 9, .iad 2 (.t 7) (.t 8), none⟩, ⟨some 10, .ld true 2 (.t 9), none⟩, ⟨some 11, .mv (.t 0), none⟩, ⟨some 12, .mv (.t 2), none⟩, ⟨some 13, .iad 2 (.t 11) (.t 12), none⟩, ⟨some 14, .ld true 2 (.t 13), none⟩, ⟨some 15, .call N_due_compare [] [.t 10, .t 14], none⟩, ⟨some 16, .bin .lss (.t 15) (.c (.d (.int .i64 0))), none⟩, ⟨some 6, .mv (.t 16), none⟩] [[], [0], [], [], [0, 1, 2, 3], [0, 1, 2, 3, 4], [0, 1, 2, 3], [0, 1, 2, 3], [], [], []] [0, 1, 2, 7, 8, 9, 10, 11, 12, 13, 14, 15, 16])
 (.ret [6])))
def r_due_before : List ARes := [.t 6]
def fn_due_before : AFn := .code c_due_before r_due_before 17 true
def c_due_compare : ACode :=
 (.seq (.ops [] [⟨some 2, .box (.t 0), none⟩, ⟨some 3, .box (.t 1), none⟩, ⟨some 4, .mv (.c (.d (.int .i64 0))), none⟩] [0, 1, 4])
 (.seq (.draw [] [⟨some 5, .fad false 0 1 (.t 2), none⟩, ⟨some 6, .ld false 1 (.t 5), none⟩, ⟨some 7, .fad false 0 1 (.t 3), none⟩, ⟨some 8, .ld false 1 (.t 7), none⟩, ⟨some 9, .call N_cmp_Compare_int [] [.t 6, .t 8], none⟩, ⟨some 10, .fad false 1 1 (.t 2), none⟩, ⟨some 11, .ld false 1 (.t 10), none⟩, ⟨some 12, .fad false 1 1 (.t 3), none⟩, ⟨some 13, .ld false 1 (.t 12), none⟩, ⟨some 14, .call N_cmp_Compare_int [] [.t 11, .t 13], none⟩, ⟨some 15, .bsl 2 1 (.d (.int .i64 0)) [(0, .t 9), (1, .t 14)], none⟩, ⟨some 16, .call N_cmp_Or_int [] [.t 15], none⟩, ⟨some 4, .mv (.t 16), none⟩] [[], [], [0, 1], [0, 1], [], [0, 1, 2, 3, 4], [0, 1, 2, 3, 4], [0, 1, 2, 3, 4, 5, 6], [0, 1, 2, 3, 4, 5, 6], [], [], [], []] [2, 3, 5, 6, 7, 8, 9, 10, 11, 12, 13, 14, 15, 16])
 (.ret [4])))
def r_due_compare : List ARes := [.t 4]
def fn_due_compare : AFn := .code c_due_compare r_due_compare 17 true
def c_cmp_Compare_int : ACode :=
 (.seq (.ops [] [⟨some 4, .mv (.c (.d (.int .i64 0))), none⟩] [4])
 (.seq (.ops [] [⟨some 7, .mv (.t 0), none⟩, ⟨some 8, .call N_cmp_isNaN_int [] [.t 7], none⟩, ⟨some 5, .mv (.t 8), none⟩] [7, 8])
 (.seq (.ops [] [⟨some 9, .mv (.t 1), none⟩, ⟨some 10, .call N_cmp_isNaN_int [] [.t 9], none⟩, ⟨some 6, .mv (.t 10), none⟩] [9, 10])
 (.seq (.seq (.ops [] [⟨some 11, .mv (.t 5), none⟩] [5])
 (.cond (.t 11) (.seq (.seq (.ops [] [⟨some 12, .mv (.t 6), none⟩] [0, 1, 6, 11])
 (.cond (.t 12) (.seq (.ops [] [⟨some 4, .mv (.c (.d (.int .i64 0))), none⟩] [12])
 (.ret [4])) .skip))
 (.seq (.ops [] [⟨some 4, .mv (.c (.d (.int .i64 (-1)))), none⟩] [12])
 (.ret [4]))) .skip))
 (.seq (.seq (.ops [] [⟨some 13, .mv (.t 6), none⟩] [6, 11])
 (.cond (.t 13) (.seq (.ops [] [⟨some 4, .mv (.c (.d (.int .i64 1))), none⟩] [0, 1, 13])
 (.ret [4])) .skip))
 (.seq (.seq (.ops [] [⟨some 14, .mv (.t 0), none⟩, ⟨some 15, .mv (.t 1), none⟩, ⟨some 16, .bin .lss (.t 14) (.t 15), none⟩] [13, 14, 15])
 (.cond (.t 16) (.seq (.ops [] [⟨some 4, .mv (.c (.d (.int .i64 (-1)))), none⟩] [0, 1, 16])
 (.ret [4])) .skip))
 (.seq (.seq (.ops [] [⟨some 17, .mv (.t 0), none⟩, ⟨some 18, .mv (.t 1), none⟩, ⟨some 19, .bin .gtr (.t 17) (.t 18), none⟩] [0, 1, 16, 17, 18])
 (.cond (.t 19) (.seq (.ops [] [⟨some 4, .mv (.c (.d (.int .i64 1))), none⟩] [19])
 (.ret [4])) .skip))
 (.seq (.ops [] [⟨some 4, .mv (.c (.d (.int .i64 0))), none⟩] [19])
 (.ret [4])))))))))
def r_cmp_Compare_int : List ARes := [.t 4]
def fn_cmp_Compare_int : AFn := .code c_cmp_Compare_int r_cmp_Compare_int 20 true
def c_cmp_isNaN_int : ACode :=
 (.seq (.ops [] [⟨some 2, .mv (.c (.d (.bool false))), none⟩] [2])
 (.seq (.ops [] [⟨some 3, .mv (.t 0), none⟩, ⟨some 4, .mv (.t 0), none⟩, ⟨some 5, .bin .neq (.t 3) (.t 4), none⟩, ⟨some 2, .mv (.t 5), none⟩] [0, 3, 4, 5])
 (.ret [2])))
def r_cmp_isNaN_int : List ARes := [.t 2]
def fn_cmp_isNaN_int : AFn := .code c_cmp_isNaN_int r_cmp_isNaN_int 6 true
def l_cmp_Or_int_0 : ACode :=
 (.seq (.ops [] [⟨some 9, .bin .lss (.t 8) (.t 7), none⟩] [])
 (.seq (.cond (.t 9) .skip (.exit 0 [3]))
 (.seq (.block 1 (.seq (.ops [] [⟨some 10, .iad 1 (.t 6) (.t 8), none⟩, ⟨some 11, .ld false 1 (.t 10), none⟩, ⟨some 5, .mv (.t 11), none⟩] [9, 10, 11])
 (.seq (.ops [] [⟨some 12, .mv (.t 5), none⟩, ⟨some 13, .mv (.t 3), none⟩, ⟨some 14, .bin .neq (.t 12) (.t 13), none⟩] [12, 13])
 (.cond (.t 14) (.seq (.ops [] [⟨some 15, .mv (.t 5), none⟩, ⟨some 2, .mv (.t 15), none⟩] [3, 5, 6, 7, 8, 14, 15])
 (.ret [2])) .skip))))
 (.ops [] [⟨some 16, .bin .add (.t 8) (.c (.d (.int .i64 1))), none⟩, ⟨some 8, .mv (.t 16), none⟩] [5, 14, 16]))))
def c_cmp_Or_int : ACode :=
 (.seq (.ops [] [⟨some 2, .mv (.c (.d (.int .i64 0))), none⟩] [2])
 (.seq (.ops [] [⟨some 3, .mv (.c (.d (.int .i64 0))), none⟩] [])
 (.seq (.seq (.ops [] [⟨some 6, .mv (.t 0), none⟩, ⟨some 7, .len (.t 6), none⟩, ⟨some 8, .mv (.c (.d (.int .i64 0))), none⟩] [0])
 (.block 0 (.loop [] l_cmp_Or_int_0)))
 (.seq (.ops [] [⟨some 17, .mv (.t 3), none⟩, ⟨some 2, .mv (.t 17), none⟩] [3, 6, 7, 8, 9, 17])
 (.ret [2])))))
def r_cmp_Or_int : List ARes := [.t 2]
def fn_cmp_Or_int : AFn := .code c_cmp_Or_int r_cmp_Or_int 18 true
def l_lease_matches_0 : ACode :=
 (.seq (.ops [] [⟨some 16, .bin .lss (.t 15) (.t 14), none⟩] [])
 (.seq (.cond (.t 16) .skip (.exit 0 []))
 (.seq (.block 1 (.seq (.ops [] [⟨some 17, .iad 8 (.t 13) (.t 15), none⟩, ⟨some 18, .ld true 8 (.t 17), none⟩, ⟨some 4, .alloc (.d (.agg [.int .i64 0, .int .i64 0, .int .i64 0, .int .i64 0, .int .i64 0, .int .i64 0, .str [], .int .i64 0])), none⟩, ⟨none, .st 8 (.t 4) (.t 18), none⟩] [16, 17, 18])
 (.seq (.ops [] [⟨some 19, .fad false 1 1 (.t 1), none⟩, ⟨some 20, .ld false 1 (.t 19), none⟩, ⟨some 21, .fad false 7 1 (.t 4), none⟩, ⟨some 22, .ld false 1 (.t 21), none⟩, ⟨some 23, .fad true 0 7 (.t 4), none⟩, ⟨some 24, .fad false 0 1 (.t 23), none⟩, ⟨some 25, .ld false 1 (.t 24), none⟩, ⟨some 26, .build [.d (.int .i64 0), .d (.int .i64 0)] [(0, (1, .t 22)), (1, (1, .t 25))], none⟩, ⟨some 27, .call N_slices_Contains_api_Due [] [.t 20, .t 26], none⟩, ⟨some 28, .un .not (.t 27), none⟩] [4, 19, 20, 21, 22, 23, 24, 25, 26, 27])
 (.cond (.t 28) (.seq (.ops [] [⟨some 2, .mv (.c (.d (.bool false))), none⟩] [1, 13, 14, 15, 28])
 (.ret [2])) .skip))))
 (.ops [] [⟨some 29, .bin .add (.t 15) (.c (.d (.int .i64 1))), none⟩, ⟨some 15, .mv (.t 29), none⟩] [28, 29]))))
def c_lease_matches : ACode :=
 (.seq (.ops [] [⟨some 1, .box (.t 0), none⟩, ⟨some 2, .mv (.c (.d (.bool false))), none⟩] [0, 2])
 (.seq (.seq (.ops [] [⟨some 5, .fad false 1 1 (.t 1), none⟩, ⟨some 6, .ld false 1 (.t 5), none⟩, ⟨some 7, .len (.t 6), none⟩, ⟨some 8, .fad false 0 1 (.t 1), none⟩, ⟨some 9, .ld false 1 (.t 8), none⟩, ⟨some 10, .len (.t 9), none⟩, ⟨some 11, .bin .neq (.t 7) (.t 10), none⟩] [5, 6, 7, 8, 9, 10])
 (.cond (.t 11) (.seq (.ops [] [⟨some 2, .mv (.c (.d (.bool false))), none⟩] [1, 11])
 (.ret [2])) .skip))
 (.seq (.seq (.ops [] [⟨some 12, .fad false 0 1 (.t 1), none⟩, ⟨some 13, .ld false 1 (.t 12), none⟩, ⟨some 14, .len (.t 13), none⟩, ⟨some 15, .mv (.c (.d (.int .i64 0))), none⟩] [11, 12])
 (.block 0 (.loop [] l_lease_matches_0)))
 (.seq (.ops [] [⟨some 2, .mv (.c (.d (.bool true))), none⟩] [1, 13, 14, 15, 16])
 (.ret [2])))))
def r_lease_matches : List ARes := [.t 2]
def fn_lease_matches : AFn := .code c_lease_matches r_lease_matches 30 true
def c_slices_Contains_api_Due : ACode :=
 (.seq (.ops [] [⟨some 3, .box (.t 1), none⟩, ⟨some 4, .mv (.c (.d (.bool false))), none⟩] [1, 4])
 (.seq (.ops [] [⟨some 5, .mv (.t 0), none⟩, ⟨some 6, .ld true 2 (.t 3), none⟩, ⟨some 7, .call N_slices_Index_api_Due [] [.t 5, .t 6], none⟩, ⟨some 8, .bin .geq (.t 7) (.c (.d (.int .i64 0))), none⟩, ⟨some 4, .mv (.t 8), none⟩] [0, 3, 5, 6, 7, 8])
 (.ret [4])))
def r_slices_Contains_api_Due : List ARes := [.t 4]
def fn_slices_Contains_api_Due : AFn := .code c_slices_Contains_api_Due r_slices_Contains_api_Due 9 true
def l_slices_Index_api_Due_0 : ACode :=
 (.seq (.ops [] [⟨some 9, .bin .lss (.t 8) (.t 7), none⟩] [])
 (.seq (.cond (.t 9) .skip (.exit 0 []))
 (.seq (.block 1 (.seq (.ops [] [⟨some 10, .mv (.t 8), none⟩, ⟨some 5, .mv (.t 10), none⟩] [9, 10])
 (.seq (.draw [] [⟨some 11, .ld true 2 (.t 3), none⟩, ⟨some 12, .mv (.t 0), none⟩, ⟨some 13, .mv (.t 5), none⟩, ⟨some 14, .iad 2 (.t 12) (.t 13), none⟩, ⟨some 15, .ld true 2 (.t 14), none⟩, ⟨some 16, .eqs false 2 [(0, 0), (1, 0)] (.t 11) (.t 15), none⟩] [[], [0], [0, 1], [0], [0], []] [11, 12, 13, 14, 15])
 (.cond (.t 16) (.seq (.ops [] [⟨some 17, .mv (.t 5), none⟩, ⟨some 4, .mv (.t 17), none⟩] [0, 3, 5, 7, 8, 16, 17])
 (.ret [4])) .skip))))
 (.ops [] [⟨some 18, .bin .add (.t 8) (.c (.d (.int .i64 1))), none⟩, ⟨some 8, .mv (.t 18), none⟩] [5, 16, 18]))))
def c_slices_Index_api_Due : ACode :=
 (.seq (.ops [] [⟨some 3, .box (.t 1), none⟩, ⟨some 4, .mv (.c (.d (.int .i64 0))), none⟩] [1, 4])
 (.seq (.seq (.ops [] [⟨some 6, .mv (.t 0), none⟩, ⟨some 7, .len (.t 6), none⟩, ⟨some 8, .mv (.c (.d (.int .i64 0))), none⟩] [6])
 (.block 0 (.loop [] l_slices_Index_api_Due_0)))
 (.seq (.ops [] [⟨some 4, .mv (.c (.d (.int .i64 (-1)))), none⟩] [0, 3, 7, 8, 9])
 (.ret [4]))))
def r_slices_Index_api_Due : List ARes := [.t 4]
def fn_slices_Index_api_Due : AFn := .code c_slices_Index_api_Due r_slices_Index_api_Due 19 true
def c_shard_stored : ACode :=
 (.seq (.ops [] [⟨some 1, .box (.t 0), none⟩, ⟨some 2, .mv (.c (.d (.int .i64 0))), none⟩] [0, 2])
 (.seq (.ops [] [⟨some 3, .fad true 3 3 (.t 1), none⟩, ⟨some 4, .fad false 2 1 (.t 3), none⟩, ⟨some 5, .ld false 1 (.t 4), none⟩, ⟨some 6, .fad true 6 2 (.t 1), none⟩, ⟨some 7, .fad false 0 1 (.t 6), none⟩, ⟨some 8, .ld false 1 (.t 7), none⟩, ⟨some 9, .len (.t 8), none⟩, ⟨some 10, .bin .add (.t 5) (.t 9), none⟩, ⟨some 2, .mv (.t 10), none⟩] [1, 3, 4, 5, 6, 7, 8, 9, 10])
 (.ret [2])))
def r_shard_stored : List ARes := [.t 2]
def fn_shard_stored : AFn := .code c_shard_stored r_shard_stored 11 true
def c_shard_spans : ACode :=
 (.seq (.ops [] [⟨some 4, .mv (.c (.d (.bool false))), none⟩] [4])
 (.seq (.ops [] [⟨some 5, .mv (.t 0), none⟩, ⟨some 6, .bin .leq (.c (.d (.int .i64 0))) (.t 5), none⟩, ⟨some 7, .mv (.t 6), none⟩, ⟨some 8, .mv (.t 0), some (7, true)⟩, ⟨some 9, .mv (.t 1), some (7, true)⟩, ⟨some 10, .bin .leq (.t 8) (.t 9), some (7, true)⟩, ⟨some 11, .pick (.t 7) (.t 10) (.c (.d (.bool false))), none⟩, ⟨some 12, .mv (.t 11), none⟩, ⟨some 13, .mv (.t 1), some (12, true)⟩, ⟨some 14, .bin .lss (.t 13) (.c (.d (.int .i64 65536))), some (12, true)⟩, ⟨some 15, .pick (.t 12) (.t 14) (.c (.d (.bool false))), none⟩, ⟨some 4, .mv (.t 15), none⟩] [0, 1, 5, 6, 7, 8, 9, 10, 11, 12, 13, 14, 15])
 (.ret [4])))
def r_shard_spans : List ARes := [.t 4]
def fn_shard_spans : AFn := .code c_shard_spans r_shard_spans 16 true
def l_shard_messages_0 : ACode :=
 (.seq (.ops [] [⟨some 14, .bin .lss (.t 13) (.t 12), none⟩] [])
 (.seq (.cond (.t 14) .skip (.exit 0 [3]))
 (.seq (.block 1 (.seq (.ops [] [⟨some 15, .iad 8 (.t 11) (.t 13), none⟩, ⟨some 16, .ld true 8 (.t 15), none⟩, ⟨some 5, .alloc (.d (.agg [.int .i64 0, .int .i64 0, .int .i64 0, .int .i64 0, .int .i64 0, .int .i64 0, .str [], .int .i64 0])), none⟩, ⟨none, .st 8 (.t 5) (.t 16), none⟩] [14, 15, 16])
 (.ops [] [⟨some 17, .mv (.t 3), none⟩, ⟨some 18, .fad true 0 7 (.t 5), none⟩, ⟨some 19, .ld true 7 (.t 18), none⟩, ⟨some 20, .bsl 1 7 (.d (.agg [.int .i64 0, .int .i64 0, .int .i64 0, .int .i64 0, .int .i64 0, .int .i64 0, .str []])) [(0, .t 19)], none⟩, ⟨some 21, .app 7 (.t 17) (.t 20), none⟩, ⟨some 3, .mv (.t 21), none⟩] [5, 17, 18, 19, 20, 21])))
 (.ops [] [⟨some 22, .bin .add (.t 13) (.c (.d (.int .i64 1))), none⟩, ⟨some 13, .mv (.t 22), none⟩] [22]))))
def c_shard_messages : ACode :=
 (.seq (.ops [] [⟨some 1, .box (.t 0), none⟩, ⟨some 2, .mv (.c (.xsl [])), none⟩] [0, 2])
 (.seq (.ops [] [⟨some 6, .fad true 3 3 (.t 1), none⟩, ⟨some 7, .ld true 3 (.t 6), none⟩, ⟨some 8, .call N_ring_List [] [.t 7], none⟩, ⟨some 3, .mv (.t 8), none⟩] [6, 7, 8])
 (.seq (.seq (.ops [] [⟨some 9, .fad true 6 2 (.t 1), none⟩, ⟨some 10, .fad false 0 1 (.t 9), none⟩, ⟨some 11, .ld false 1 (.t 10), none⟩, ⟨some 12, .len (.t 11), none⟩, ⟨some 13, .mv (.c (.d (.int .i64 0))), none⟩] [1, 9, 10])
 (.block 0 (.loop [] l_shard_messages_0)))
 (.seq (.ops [] [⟨some 23, .mv (.t 3), none⟩, ⟨some 2, .mv (.t 23), none⟩] [3, 11, 12, 13, 14, 23])
 (.ret [2])))))
def r_shard_messages : List ARes := [.t 2]
def fn_shard_messages : AFn := .code c_shard_messages r_shard_messages 24 true
def c_ring_List : ACode :=
 (.seq (.ops [] [⟨some 1, .box (.t 0), none⟩, ⟨some 2, .mv (.c (.xsl [])), none⟩] [0, 2])
 (.seq (.seq (.ops [] [⟨some 3, .ld true 3 (.t 1), none⟩, ⟨some 4, .call N_ring_Validate [] [.t 3], none⟩, ⟨some 5, .bin .neq (.t 4) (.c (.d (.int .i64 0))), none⟩] [3, 4])
 (.cond (.t 5) (.seq (.ops [] [⟨some 2, .mv (.c (.xsl [])), none⟩] [1, 5])
 (.ret [2])) .skip))
 (.seq (.ops [] [⟨some 6, .ld true 3 (.t 1), none⟩, ⟨some 7, .call N_ring_list [] [.t 6], none⟩, ⟨some 2, .mv (.t 7), none⟩] [1, 5, 6, 7])
 (.ret [2]))))
def r_ring_List : List ARes := [.t 2]
def fn_ring_List : AFn := .code c_ring_List r_ring_List 8 false
def c_shard_in : ACode :=
 (.seq (.ops [] [⟨some 6, .mv (.c (.d (.bool false))), none⟩] [6])
 (.seq (.ops [] [⟨some 7, .mv (.t 1), none⟩, ⟨some 8, .mv (.t 0), none⟩, ⟨some 9, .bin .leq (.t 7) (.t 8), none⟩, ⟨some 10, .mv (.t 9), none⟩, ⟨some 11, .mv (.t 0), some (10, true)⟩, ⟨some 12, .mv (.t 2), some (10, true)⟩, ⟨some 13, .bin .leq (.t 11) (.t 12), some (10, true)⟩, ⟨some 14, .pick (.t 10) (.t 13) (.c (.d (.bool false))), none⟩, ⟨some 6, .mv (.t 14), none⟩] [0, 1, 2, 7, 8, 9, 10, 11, 12, 13, 14])
 (.ret [6])))
def r_shard_in : List ARes := [.t 6]
def fn_shard_in : AFn := .code c_shard_in r_shard_in 15 true
def l_shard_Counts_0 : ACode :=
 (.seq (.ops [] [⟨some 25, .bin .lss (.t 24) (.t 23), none⟩] [])
 (.seq (.cond (.t 25) .skip (.exit 0 [1, 3, 6, 7]))
 (.seq (.block 1 (.seq (.ops [] [⟨some 26, .iad 7 (.t 22) (.t 24), none⟩, ⟨some 27, .ld true 7 (.t 26), none⟩, ⟨some 9, .alloc (.d (.agg [.int .i64 0, .int .i64 0, .int .i64 0, .int .i64 0, .int .i64 0, .int .i64 0, .str []])), none⟩, ⟨none, .st 7 (.t 9) (.t 27), none⟩] [25, 26, 27])
 (.seq (.ops [] [⟨some 28, .ld true 7 (.t 9), none⟩, ⟨some 29, .mv (.t 1), none⟩, ⟨some 30, .call N_message_Purged [] [.t 28, .t 29], none⟩, ⟨some 31, .un .not (.t 30), none⟩, ⟨some 32, .mv (.t 31), none⟩, ⟨some 33, .ld true 7 (.t 9), some (32, true)⟩, ⟨some 34, .mv (.t 2), some (32, true)⟩, ⟨some 35, .call N_message_Spent [] [.t 33, .t 34], some (32, true)⟩, ⟨some 36, .un .not (.t 35), some (32, true)⟩, ⟨some 37, .pick (.t 32) (.t 36) (.c (.d (.bool false))), none⟩] [9, 28, 29, 30, 31, 32, 33, 34, 35, 36])
 (.cond (.t 37) (.ops [] [⟨some 38, .mv (.t 6), none⟩, ⟨some 39, .bin .add (.t 38) (.c (.d (.int .i64 1))), none⟩, ⟨some 6, .mv (.t 39), none⟩] [37, 38, 39]) .skip))))
 (.ops [] [⟨some 40, .bin .add (.t 24) (.c (.d (.int .i64 1))), none⟩, ⟨some 24, .mv (.t 40), none⟩] [37, 40]))))
def l_shard_Counts_1 : ACode :=
 (.seq (.ops [] [⟨some 46, .bin .lss (.t 45) (.t 44), none⟩] [])
 (.seq (.cond (.t 46) .skip (.exit 2 [6, 7]))
 (.seq (.block 3 (.seq (.ops [] [⟨some 47, .iad 8 (.t 43) (.t 45), none⟩, ⟨some 48, .ld true 8 (.t 47), none⟩, ⟨some 11, .alloc (.d (.agg [.int .i64 0, .int .i64 0, .int .i64 0, .int .i64 0, .int .i64 0, .int .i64 0, .str [], .int .i64 0])), none⟩, ⟨none, .st 8 (.t 11) (.t 48), none⟩] [46, 47, 48])
 (.seq (.ops [] [⟨some 49, .fad true 0 7 (.t 11), none⟩, ⟨some 50, .ld true 7 (.t 49), none⟩, ⟨some 51, .mv (.t 1), none⟩, ⟨some 52, .call N_message_Purged [] [.t 50, .t 51], none⟩, ⟨some 53, .un .not (.t 52), none⟩] [11, 49, 50, 51, 52])
 (.cond (.t 53) (.ops [] [⟨some 54, .mv (.t 7), none⟩, ⟨some 55, .bin .add (.t 54) (.c (.d (.int .i64 1))), none⟩, ⟨some 7, .mv (.t 55), none⟩] [53, 54, 55]) .skip))))
 (.ops [] [⟨some 56, .bin .add (.t 45) (.c (.d (.int .i64 1))), none⟩, ⟨some 45, .mv (.t 56), none⟩] [53, 56]))))
def c_shard_Counts : ACode :=
 (.seq (.ops [] [⟨some 3, .box (.t 0), none⟩, ⟨some 6, .mv (.c (.d (.int .i64 0))), none⟩, ⟨some 7, .mv (.c (.d (.int .i64 0))), none⟩] [0])
 (.seq (.seq (.draw [] [⟨some 12, .ld true 8 (.t 3), none⟩, ⟨some 13, .mv (.t 1), none⟩, ⟨some 14, .call N_shard_isEpoch [] [.t 13], none⟩, ⟨some 15, .mv (.t 2), none⟩, ⟨some 16, .call N_shard_isLimit [] [.t 15], none⟩, ⟨some 17, .bsl 2 1 (.d (.bool false)) [(0, .t 14), (1, .t 16)], none⟩, ⟨some 18, .call N_shard_usable [] [.t 12, .t 17], none⟩, ⟨some 19, .bin .neq (.t 18) (.c (.d (.int .i64 0))), none⟩] [[], [0], [0], [0, 1, 2], [0], [0], [], []] [12, 13, 14, 15, 16, 17, 18])
 (.cond (.t 19) (.seq (.ops [] [⟨some 6, .mv (.c (.d (.int .i64 0))), none⟩, ⟨some 7, .mv (.c (.d (.int .i64 0))), none⟩] [1, 2, 3, 19])
 (.ret [6, 7])) .skip))
 (.seq (.seq (.ops [] [⟨some 20, .fad true 3 3 (.t 3), none⟩, ⟨some 21, .ld true 3 (.t 20), none⟩, ⟨some 22, .call N_ring_List [] [.t 21], none⟩, ⟨some 23, .len (.t 22), none⟩, ⟨some 24, .mv (.c (.d (.int .i64 0))), none⟩] [19, 20, 21])
 (.block 0 (.loop [] l_shard_Counts_0)))
 (.seq (.seq (.ops [] [⟨some 41, .fad true 6 2 (.t 3), none⟩, ⟨some 42, .fad false 0 1 (.t 41), none⟩, ⟨some 43, .ld false 1 (.t 42), none⟩, ⟨some 44, .len (.t 43), none⟩, ⟨some 45, .mv (.c (.d (.int .i64 0))), none⟩] [2, 3, 22, 23, 24, 25, 41, 42])
 (.block 2 (.loop [] l_shard_Counts_1)))
 (.seq (.ops [] [⟨some 57, .mv (.t 6), none⟩, ⟨some 58, .mv (.t 7), none⟩, ⟨some 6, .mv (.t 57), none⟩, ⟨some 7, .mv (.t 58), none⟩] [1, 43, 44, 45, 46, 57, 58])
 (.ret [6, 7]))))))
def r_shard_Counts : List ARes := [.t 6, .t 7]
def fn_shard_Counts : AFn := .code c_shard_Counts r_shard_Counts 59 true
def c_shard_isEpoch : ACode :=
 (.seq (.ops [] [⟨some 2, .mv (.c (.d (.bool false))), none⟩] [2])
 (.seq (.ops [] [⟨some 3, .mv (.t 0), none⟩, ⟨some 4, .call N_shard_in [] [.t 3, .c (.d (.int .i64 0)), .c (.d (.int .i64 65536))], none⟩, ⟨some 2, .mv (.t 4), none⟩] [0, 3, 4])
 (.ret [2])))
def r_shard_isEpoch : List ARes := [.t 2]
def fn_shard_isEpoch : AFn := .code c_shard_isEpoch r_shard_isEpoch 5 true
def c_shard_isLimit : ACode :=
 (.seq (.ops [] [⟨some 2, .mv (.c (.d (.bool false))), none⟩] [2])
 (.seq (.ops [] [⟨some 3, .mv (.t 0), none⟩, ⟨some 4, .call N_shard_in [] [.t 3, .c (.d (.int .i64 1)), .c (.d (.int .i64 8))], none⟩, ⟨some 2, .mv (.t 4), none⟩] [0, 3, 4])
 (.ret [2])))
def r_shard_isLimit : List ARes := [.t 2]
def fn_shard_isLimit : AFn := .code c_shard_isLimit r_shard_isLimit 5 true
def c_shard_usable : ACode :=
 (.seq (.ops [] [⟨some 2, .box (.t 0), none⟩, ⟨some 4, .mv (.c (.d (.int .i64 0))), none⟩] [0, 4])
 (.seq (.seq (.ops [] [⟨some 6, .ld true 8 (.t 2), none⟩, ⟨some 7, .call N_shard_live [] [.t 6], none⟩, ⟨some 5, .mv (.t 7), none⟩] [2, 6, 7])
 (.seq (.ops [] [⟨some 8, .mv (.t 5), none⟩, ⟨some 9, .bin .neq (.t 8) (.c (.d (.int .i64 0))), none⟩] [8])
 (.cond (.t 9) (.seq (.ops [] [⟨some 10, .mv (.t 5), none⟩, ⟨some 4, .mv (.t 10), none⟩] [1, 5, 9, 10])
 (.ret [4])) .skip)))
 (.seq (.seq (.ops [] [⟨some 11, .mv (.t 1), none⟩, ⟨some 12, .call N_slices_Contains_bool [] [.t 11, .c (.d (.bool false))], none⟩] [1, 5, 9, 11])
 (.cond (.t 12) (.seq (.ops [] [⟨some 4, .mv (.c (.d (.int .i64 1))), none⟩] [12])
 (.ret [4])) .skip))
 (.seq (.ops [] [⟨some 4, .mv (.c (.d (.int .i64 0))), none⟩] [12])
 (.ret [4])))))
def r_shard_usable : List ARes := [.t 4]
def fn_shard_usable : AFn := .code c_shard_usable r_shard_usable 13 true
def c_shard_live : ACode :=
 (.seq (.ops [] [⟨some 1, .box (.t 0), none⟩, ⟨some 2, .mv (.c (.d (.int .i64 0))), none⟩] [0, 2])
 (.seq (.seq (.ops [] [⟨some 4, .ld true 8 (.t 1), none⟩, ⟨some 5, .call N_shard_Validate [] [.t 4], none⟩, ⟨some 3, .mv (.t 5), none⟩] [4, 5])
 (.seq (.ops [] [⟨some 6, .mv (.t 3), none⟩, ⟨some 7, .bin .neq (.t 6) (.c (.d (.int .i64 0))), none⟩] [6])
 (.cond (.t 7) (.seq (.ops [] [⟨some 8, .mv (.t 3), none⟩, ⟨some 2, .mv (.t 8), none⟩] [1, 3, 7, 8])
 (.ret [2])) .skip)))
 (.seq (.seq (.ops [] [⟨some 9, .fad false 0 1 (.t 1), none⟩, ⟨some 10, .ld false 1 (.t 9), none⟩, ⟨some 11, .un .not (.t 10), none⟩] [1, 3, 7, 9, 10])
 (.cond (.t 11) (.seq (.ops [] [⟨some 2, .mv (.c (.d (.int .i64 7))), none⟩] [11])
 (.ret [2])) .skip))
 (.seq (.ops [] [⟨some 2, .mv (.c (.d (.int .i64 0))), none⟩] [11])
 (.ret [2])))))
def r_shard_live : List ARes := [.t 2]
def fn_shard_live : AFn := .code c_shard_live r_shard_live 12 true
def c_slices_Contains_bool : ACode :=
 (.seq (.ops [] [⟨some 4, .mv (.c (.d (.bool false))), none⟩] [4])
 (.seq (.ops [] [⟨some 5, .mv (.t 0), none⟩, ⟨some 6, .mv (.t 1), none⟩, ⟨some 7, .call N_slices_Index_bool [] [.t 5, .t 6], none⟩, ⟨some 8, .bin .geq (.t 7) (.c (.d (.int .i64 0))), none⟩, ⟨some 4, .mv (.t 8), none⟩] [0, 1, 5, 6, 7, 8])
 (.ret [4])))
def r_slices_Contains_bool : List ARes := [.t 4]
def fn_slices_Contains_bool : AFn := .code c_slices_Contains_bool r_slices_Contains_bool 9 true
def l_slices_Index_bool_0 : ACode :=
 (.seq (.ops [] [⟨some 9, .bin .lss (.t 8) (.t 7), none⟩] [])
 (.seq (.cond (.t 9) .skip (.exit 0 []))
 (.seq (.block 1 (.seq (.ops [] [⟨some 10, .mv (.t 8), none⟩, ⟨some 5, .mv (.t 10), none⟩] [9, 10])
 (.seq (.ops [] [⟨some 11, .mv (.t 1), none⟩, ⟨some 12, .mv (.t 0), none⟩, ⟨some 13, .mv (.t 5), none⟩, ⟨some 14, .iad 1 (.t 12) (.t 13), none⟩, ⟨some 15, .ld false 1 (.t 14), none⟩, ⟨some 16, .eqb false (.t 11) (.t 15), none⟩] [11, 12, 13, 14, 15])
 (.cond (.t 16) (.seq (.ops [] [⟨some 17, .mv (.t 5), none⟩, ⟨some 4, .mv (.t 17), none⟩] [0, 1, 5, 7, 8, 16, 17])
 (.ret [4])) .skip))))
 (.ops [] [⟨some 18, .bin .add (.t 8) (.c (.d (.int .i64 1))), none⟩, ⟨some 8, .mv (.t 18), none⟩] [5, 16, 18]))))
def c_slices_Index_bool : ACode :=
 (.seq (.ops [] [⟨some 4, .mv (.c (.d (.int .i64 0))), none⟩] [4])
 (.seq (.seq (.ops [] [⟨some 6, .mv (.t 0), none⟩, ⟨some 7, .len (.t 6), none⟩, ⟨some 8, .mv (.c (.d (.int .i64 0))), none⟩] [6])
 (.block 0 (.loop [] l_slices_Index_bool_0)))
 (.seq (.ops [] [⟨some 4, .mv (.c (.d (.int .i64 (-1)))), none⟩] [0, 1, 7, 8, 9])
 (.ret [4]))))
def r_slices_Index_bool : List ARes := [.t 4]
def fn_slices_Index_bool : AFn := .code c_slices_Index_bool r_slices_Index_bool 19 true
def c_message_Purged : ACode :=
 (.seq (.ops [] [⟨some 2, .box (.t 0), none⟩, ⟨some 4, .mv (.c (.d (.bool false))), none⟩] [0, 4])
 (.seq (.ops [] [⟨some 5, .fad false 2 1 (.t 2), none⟩, ⟨some 6, .ld false 1 (.t 5), none⟩, ⟨some 7, .mv (.t 1), none⟩, ⟨some 8, .bin .lss (.t 6) (.t 7), none⟩, ⟨some 4, .mv (.t 8), none⟩] [1, 2, 5, 6, 7, 8])
 (.ret [4])))
def r_message_Purged : List ARes := [.t 4]
def fn_message_Purged : AFn := .code c_message_Purged r_message_Purged 9 true
def c_message_Spent : ACode :=
 (.seq (.ops [] [⟨some 2, .box (.t 0), none⟩, ⟨some 4, .mv (.c (.d (.bool false))), none⟩] [0, 4])
 (.seq (.ops [] [⟨some 5, .fad false 3 1 (.t 2), none⟩, ⟨some 6, .ld false 1 (.t 5), none⟩, ⟨some 7, .mv (.t 1), none⟩, ⟨some 8, .bin .geq (.t 6) (.t 7), none⟩, ⟨some 4, .mv (.t 8), none⟩] [1, 2, 5, 6, 7, 8])
 (.ret [4])))
def r_message_Spent : List ARes := [.t 4]
def fn_message_Spent : AFn := .code c_message_Spent r_message_Spent 9 true
def c_ref11_End : ACode :=
 (.seq (.ops [] [⟨some 4, .box (.t 0), none⟩, ⟨some 5, .box (.t 1), none⟩, ⟨some 8, .alloc (.d (.agg [.int .i64 0, .int .i64 0, .int .i64 0, .int .i64 0])), none⟩, ⟨some 9, .mv (.c (.d (.int .i64 0))), none⟩] [0, 1, 9])
 (.seq (.seq (.ops [] [⟨some 13, .fad false 0 1 (.t 4), none⟩, ⟨some 14, .ld false 1 (.t 13), none⟩, ⟨some 15, .bin .lss (.t 14) (.c (.d (.int .i64 0))), none⟩, ⟨some 16, .mv (.t 15), none⟩, ⟨some 17, .fad false 0 1 (.t 4), some (16, false)⟩, ⟨some 18, .ld false 1 (.t 17), some (16, false)⟩, ⟨some 19, .bin .gtr (.t 18) (.c (.d (.int .i64 1099511627776))), some (16, false)⟩, ⟨some 20, .pick (.t 16) (.c (.d (.bool true))) (.t 19), none⟩] [13, 14, 15, 16, 17, 18, 19])
 (.cond (.t 20) (.seq (.ops [] [⟨some 21, .build [.d (.int .i64 0), .d (.int .i64 0), .d (.int .i64 0), .d (.int .i64 0)] [], none⟩, ⟨none, .st 4 (.t 8) (.t 21), none⟩, ⟨some 9, .mv (.c (.d (.int .i64 1))), none⟩] [2, 3, 4, 5, 20, 21])
 (.ret [8, 9])) .skip))
 (.seq (.seq (.ops [] [⟨some 22, .fad false 0 1 (.t 4), none⟩, ⟨some 23, .ld false 1 (.t 22), none⟩, ⟨some 24, .bin .rem (.t 23) (.c (.d (.int .i64 2))), none⟩, ⟨some 25, .bin .eql (.t 24) (.c (.d (.int .i64 0))), none⟩] [20, 22, 23, 24])
 (.cond (.t 25) (.seq (.ops [] [⟨some 26, .build [.d (.int .i64 0), .d (.int .i64 0), .d (.int .i64 0), .d (.int .i64 0)] [], none⟩, ⟨none, .st 4 (.t 8) (.t 26), none⟩, ⟨some 9, .mv (.c (.d (.int .i64 7))), none⟩] [2, 3, 4, 5, 25, 26])
 (.ret [8, 9])) .skip))
 (.seq (.seq (.ops [] [⟨some 27, .ld true 8 (.t 5), none⟩, ⟨some 28, .call N_ref07_Validate [] [.t 27], none⟩, ⟨some 10, .mv (.t 28), none⟩] [25, 27, 28])
 (.seq (.ops [] [⟨some 29, .mv (.t 10), none⟩, ⟨some 30, .bin .neq (.t 29) (.c (.d (.int .i64 0))), none⟩] [29])
 (.cond (.t 30) (.seq (.ops [] [⟨some 31, .build [.d (.int .i64 0), .d (.int .i64 0), .d (.int .i64 0), .d (.int .i64 0)] [], none⟩, ⟨some 32, .mv (.t 10), none⟩, ⟨none, .st 4 (.t 8) (.t 31), none⟩, ⟨some 9, .mv (.t 32), none⟩] [2, 3, 4, 5, 10, 30, 31, 32])
 (.ret [8, 9])) .skip)))
 (.seq (.seq (.ops [] [⟨some 33, .mv (.t 2), none⟩, ⟨some 34, .bin .lss (.t 33) (.c (.d (.int .i64 0))), none⟩, ⟨some 35, .mv (.t 34), none⟩, ⟨some 36, .mv (.t 2), some (35, false)⟩, ⟨some 37, .bin .gtr (.t 36) (.c (.d (.int .i64 65536))), some (35, false)⟩, ⟨some 38, .pick (.t 35) (.c (.d (.bool true))) (.t 37), none⟩, ⟨some 39, .mv (.t 38), none⟩, ⟨some 40, .mv (.t 3), some (39, false)⟩, ⟨some 41, .bin .lss (.t 40) (.c (.d (.int .i64 1))), some (39, false)⟩, ⟨some 42, .pick (.t 39) (.c (.d (.bool true))) (.t 41), none⟩, ⟨some 43, .mv (.t 42), none⟩, ⟨some 44, .mv (.t 3), some (43, false)⟩, ⟨some 45, .bin .gtr (.t 44) (.c (.d (.int .i64 8))), some (43, false)⟩, ⟨some 46, .pick (.t 43) (.c (.d (.bool true))) (.t 45), none⟩] [10, 30, 33, 34, 35, 36, 37, 38, 39, 40, 41, 42, 43, 44, 45])
 (.cond (.t 46) (.seq (.ops [] [⟨some 47, .build [.d (.int .i64 0), .d (.int .i64 0), .d (.int .i64 0), .d (.int .i64 0)] [], none⟩, ⟨none, .st 4 (.t 8) (.t 47), none⟩, ⟨some 9, .mv (.c (.d (.int .i64 1))), none⟩] [2, 3, 4, 5, 46, 47])
 (.ret [8, 9])) .skip))
 (.seq (.ops [] [⟨some 49, .ld true 8 (.t 5), none⟩, ⟨some 50, .mv (.t 2), none⟩, ⟨some 51, .mv (.t 3), none⟩, ⟨some 52, .call N_ref07_Counts [] [.t 49, .t 50, .t 51], none⟩, ⟨some 48, .mv (.t 52), none⟩, ⟨some 53, .ext (.t 48) 0, none⟩, ⟨some 54, .ext (.t 48) 1, none⟩, ⟨some 11, .mv (.t 53), none⟩, ⟨some 12, .mv (.t 54), none⟩] [3, 5, 46, 48, 49, 50, 51, 52, 53, 54])
 (.seq (.ops [] [⟨some 55, .fad false 0 1 (.t 4), none⟩, ⟨some 56, .ld false 1 (.t 55), none⟩, ⟨some 57, .bin .add (.t 56) (.c (.d (.int .i64 1))), none⟩, ⟨some 58, .mv (.t 2), none⟩, ⟨some 59, .mv (.t 11), none⟩, ⟨some 60, .mv (.t 12), none⟩, ⟨some 61, .build [.d (.int .i64 0), .d (.int .i64 0), .d (.int .i64 0), .d (.int .i64 0)] [(0, (1, .t 57)), (1, (1, .t 58)), (2, (1, .t 59)), (3, (1, .t 60))], none⟩, ⟨none, .st 4 (.t 8) (.t 61), none⟩, ⟨some 9, .mv (.c (.d (.int .i64 0))), none⟩] [2, 4, 11, 12, 55, 56, 57, 58, 59, 60, 61])
 (.ret [8, 9]))))))))
def r_ref11_End : List ARes := [.c 8 true 4, .t 9]
def fn_ref11_End : AFn := .code c_ref11_End r_ref11_End 62 true
def l_ref07_Validate_0 : ACode :=
 (.seq (.seq (.ops [] [⟨some 58, .mv (.t 7), none⟩, ⟨some 59, .mv (.t 6), none⟩, ⟨some 60, .len (.t 59), none⟩, ⟨some 61, .bin .lss (.t 58) (.t 60), none⟩] [58, 59, 60])
 (.cond (.t 61) .skip (.exit 0 [6])))
 (.seq (.block 1 (.seq (.draw [] [⟨some 64, .mv (.t 6), none⟩, ⟨some 65, .mv (.t 7), none⟩, ⟨some 66, .iad 7 (.t 64) (.t 65), none⟩, ⟨some 67, .fad false 1 1 (.t 66), none⟩, ⟨some 68, .ld false 1 (.t 67), none⟩, ⟨some 69, .fad false 1 1 (.t 1), none⟩, ⟨some 70, .ld false 1 (.t 69), none⟩, ⟨some 71, .bin .lss (.t 68) (.t 70), none⟩, ⟨some 72, .mv (.t 71), none⟩, ⟨some 73, .mv (.t 6), some (72, false)⟩, ⟨some 74, .mv (.t 7), some (72, false)⟩, ⟨some 75, .iad 7 (.t 73) (.t 74), some (72, false)⟩, ⟨some 76, .fad false 1 1 (.t 75), some (72, false)⟩, ⟨some 77, .ld false 1 (.t 76), some (72, false)⟩, ⟨some 78, .fad false 2 1 (.t 1), some (72, false)⟩, ⟨some 79, .ld false 1 (.t 78), some (72, false)⟩, ⟨some 80, .bin .gtr (.t 77) (.t 79), some (72, false)⟩, ⟨some 81, .pick (.t 72) (.c (.d (.bool true))) (.t 80), none⟩] [[], [0], [], [], [], [0, 1, 2, 3, 4], [0, 1, 2, 3, 4], [], [], [], [9], [], [], [], [9, 10, 11, 12, 13], [9, 10, 11, 12, 13], [], []] [61, 64, 65, 66, 67, 68, 69, 70, 71, 72, 73, 74, 75, 76, 77, 78, 79, 80])
 (.cond (.t 81) (.seq (.ops [] [⟨some 2, .mv (.c (.d (.int .i64 12))), none⟩] [1, 6, 7, 81])
 (.ret [2])) .skip)))
 (.ops [] [⟨some 62, .mv (.t 7), none⟩, ⟨some 63, .bin .add (.t 62) (.c (.d (.int .i64 1))), none⟩, ⟨some 7, .mv (.t 63), none⟩] [62, 63, 81])))
def l_ref07_Validate_1 : ACode :=
 (.seq (.seq (.ops [] [⟨some 82, .mv (.t 8), none⟩, ⟨some 83, .mv (.t 6), none⟩, ⟨some 84, .len (.t 83), none⟩, ⟨some 85, .bin .lss (.t 82) (.t 84), none⟩] [82, 83, 84])
 (.cond (.t 85) .skip (.exit 2 [])))
 (.seq (.block 3 (.seq (.ops [] [⟨some 88, .mv (.t 6), none⟩, ⟨some 89, .mv (.t 6), none⟩, ⟨some 90, .mv (.t 8), none⟩, ⟨some 91, .iad 7 (.t 89) (.t 90), none⟩, ⟨some 92, .fad false 0 1 (.t 91), none⟩, ⟨some 93, .ld false 1 (.t 92), none⟩, ⟨some 94, .call N_ref03_Index [] [.t 88, .t 93], none⟩, ⟨some 95, .mv (.t 8), none⟩, ⟨some 96, .bin .neq (.t 94) (.t 95), none⟩] [85, 88, 89, 90, 91, 92, 93, 94, 95])
 (.cond (.t 96) (.seq (.ops [] [⟨some 2, .mv (.c (.d (.int .i64 10))), none⟩] [6, 8, 96])
 (.ret [2])) .skip)))
 (.ops [] [⟨some 86, .mv (.t 8), none⟩, ⟨some 87, .bin .add (.t 86) (.c (.d (.int .i64 1))), none⟩, ⟨some 8, .mv (.t 87), none⟩] [86, 87, 96])))
def c_ref07_Validate : ACode :=
 (.seq (.ops [] [⟨some 1, .box (.t 0), none⟩, ⟨some 2, .mv (.c (.d (.int .i64 0))), none⟩] [0, 2])
 (.seq (.seq (.ops [] [⟨some 9, .fad true 3 3 (.t 1), none⟩, ⟨some 10, .ld true 3 (.t 9), none⟩, ⟨some 11, .call N_ref04_Validate [] [.t 10], none⟩, ⟨some 3, .mv (.t 11), none⟩] [9, 10, 11])
 (.seq (.ops [] [⟨some 12, .mv (.t 3), none⟩, ⟨some 13, .bin .neq (.t 12) (.c (.d (.int .i64 0))), none⟩] [12])
 (.cond (.t 13) (.seq (.ops [] [⟨some 14, .mv (.t 3), none⟩, ⟨some 2, .mv (.t 14), none⟩] [1, 3, 13, 14])
 (.ret [2])) .skip)))
 (.seq (.seq (.ops [] [⟨some 15, .fad true 6 2 (.t 1), none⟩, ⟨some 16, .ld true 2 (.t 15), none⟩, ⟨some 17, .call N_ref06_Validate [] [.t 16], none⟩, ⟨some 4, .mv (.t 17), none⟩] [3, 13, 15, 16, 17])
 (.seq (.ops [] [⟨some 18, .mv (.t 4), none⟩, ⟨some 19, .bin .neq (.t 18) (.c (.d (.int .i64 0))), none⟩] [18])
 (.cond (.t 19) (.seq (.ops [] [⟨some 20, .mv (.t 4), none⟩, ⟨some 2, .mv (.t 20), none⟩] [1, 4, 19, 20])
 (.ret [2])) .skip)))
 (.seq (.ops [] [⟨some 21, .fad true 3 3 (.t 1), none⟩, ⟨some 22, .fad false 2 1 (.t 21), none⟩, ⟨some 23, .ld false 1 (.t 22), none⟩, ⟨some 24, .fad true 6 2 (.t 1), none⟩, ⟨some 25, .fad false 0 1 (.t 24), none⟩, ⟨some 26, .ld false 1 (.t 25), none⟩, ⟨some 27, .len (.t 26), none⟩, ⟨some 28, .bin .add (.t 23) (.t 27), none⟩, ⟨some 5, .mv (.t 28), none⟩] [4, 19, 21, 22, 23, 24, 25, 26, 27, 28])
 (.seq (.seq (.ops [] [⟨some 29, .fad false 0 1 (.t 1), none⟩, ⟨some 30, .ld false 1 (.t 29), none⟩, ⟨some 31, .un .not (.t 30), none⟩] [29, 30])
 (.cond (.t 31) (.seq (.seq (.ops [] [⟨some 32, .fad false 1 1 (.t 1), none⟩, ⟨some 33, .ld false 1 (.t 32), none⟩, ⟨some 34, .bin .neq (.t 33) (.c (.d (.int .i64 0))), none⟩, ⟨some 35, .mv (.t 34), none⟩, ⟨some 36, .fad false 2 1 (.t 1), some (35, false)⟩, ⟨some 37, .ld false 1 (.t 36), some (35, false)⟩, ⟨some 38, .bin .neq (.t 37) (.c (.d (.int .i64 0))), some (35, false)⟩, ⟨some 39, .pick (.t 35) (.c (.d (.bool true))) (.t 38), none⟩, ⟨some 40, .mv (.t 39), none⟩, ⟨some 41, .mv (.t 5), some (40, false)⟩, ⟨some 42, .bin .gtr (.t 41) (.c (.d (.int .i64 0))), some (40, false)⟩, ⟨some 43, .pick (.t 40) (.c (.d (.bool true))) (.t 42), none⟩] [1, 5, 31, 32, 33, 34, 35, 36, 37, 38, 39, 40, 41, 42])
 (.cond (.t 43) (.seq (.ops [] [⟨some 2, .mv (.c (.d (.int .i64 7))), none⟩] [43])
 (.ret [2])) .skip))
 (.seq (.ops [] [⟨some 2, .mv (.c (.d (.int .i64 0))), none⟩] [43])
 (.ret [2]))) .skip))
 (.seq (.seq (.ops [] [⟨some 44, .fad false 1 1 (.t 1), none⟩, ⟨some 45, .ld false 1 (.t 44), none⟩, ⟨some 46, .fad false 2 1 (.t 1), none⟩, ⟨some 47, .ld false 1 (.t 46), none⟩, ⟨some 48, .call N_ref07_span [] [.t 45, .t 47], none⟩, ⟨some 49, .un .not (.t 48), none⟩] [31, 44, 45, 46, 47, 48])
 (.cond (.t 49) (.seq (.ops [] [⟨some 2, .mv (.c (.d (.int .i64 1))), none⟩] [1, 5, 49])
 (.ret [2])) .skip))
 (.seq (.seq (.ops [] [⟨some 50, .mv (.t 5), none⟩, ⟨some 51, .fad true 3 3 (.t 1), none⟩, ⟨some 52, .fad false 0 1 (.t 51), none⟩, ⟨some 53, .ld false 1 (.t 52), none⟩, ⟨some 54, .len (.t 53), none⟩, ⟨some 55, .bin .gtr (.t 50) (.t 54), none⟩] [5, 49, 50, 51, 52, 53, 54])
 (.cond (.t 55) (.seq (.ops [] [⟨some 2, .mv (.c (.d (.int .i64 3))), none⟩] [1, 55])
 (.ret [2])) .skip))
 (.seq (.ops [] [⟨some 56, .ld true 8 (.t 1), none⟩, ⟨some 57, .call N_ref07_All [] [.t 56], none⟩, ⟨some 6, .mv (.t 57), none⟩] [55, 56, 57])
 (.seq (.seq (.ops [] [⟨some 7, .mv (.c (.d (.int .i64 0))), none⟩] [])
 (.block 0 (.loop [] l_ref07_Validate_0)))
 (.seq (.seq (.ops [] [⟨some 8, .mv (.c (.d (.int .i64 0))), none⟩] [1, 7, 61])
 (.block 2 (.loop [] l_ref07_Validate_1)))
 (.seq (.ops [] [⟨some 2, .mv (.c (.d (.int .i64 0))), none⟩] [6, 8, 85])
 (.ret [2]))))))))))))
def r_ref07_Validate : List ARes := [.t 2]
def fn_ref07_Validate : AFn := .code c_ref07_Validate r_ref07_Validate 97 true
def c_ref07_span : ACode :=
 (.seq (.ops [] [⟨some 4, .mv (.c (.d (.bool false))), none⟩] [4])
 (.seq (.ops [] [⟨some 5, .mv (.t 0), none⟩, ⟨some 6, .bin .geq (.t 5) (.c (.d (.int .i64 0))), none⟩, ⟨some 7, .mv (.t 6), none⟩, ⟨some 8, .mv (.t 0), some (7, true)⟩, ⟨some 9, .mv (.t 1), some (7, true)⟩, ⟨some 10, .bin .leq (.t 8) (.t 9), some (7, true)⟩, ⟨some 11, .pick (.t 7) (.t 10) (.c (.d (.bool false))), none⟩, ⟨some 12, .mv (.t 11), none⟩, ⟨some 13, .mv (.t 1), some (12, true)⟩, ⟨some 14, .bin .lss (.t 13) (.c (.d (.int .i64 65536))), some (12, true)⟩, ⟨some 15, .pick (.t 12) (.t 14) (.c (.d (.bool false))), none⟩, ⟨some 4, .mv (.t 15), none⟩] [0, 1, 5, 6, 7, 8, 9, 10, 11, 12, 13, 14, 15])
 (.ret [4])))
def r_ref07_span : List ARes := [.t 4]
def fn_ref07_span : AFn := .code c_ref07_span r_ref07_span 16 true
def c_ref07_All : ACode :=
 (.seq (.ops [] [⟨some 1, .box (.t 0), none⟩, ⟨some 2, .mv (.c (.xsl [])), none⟩] [0, 2])
 (.seq (.draw [] [⟨some 3, .ld true 8 (.t 1), none⟩, ⟨some 4, .call N_ref07_Ready [] [.t 3], none⟩, ⟨some 5, .app 7 (.c (.xsl [])) (.t 4), none⟩, ⟨some 6, .ld true 8 (.t 1), none⟩, ⟨some 7, .call N_ref07_Leased [] [.t 6], none⟩, ⟨some 8, .app 7 (.t 5) (.t 7), none⟩, ⟨some 2, .mv (.t 8), none⟩] [[], [], [], [0, 1, 2], [], [], []] [1, 3, 4, 5, 6, 7, 8])
 (.ret [2])))
def r_ref07_All : List ARes := [.t 2]
def fn_ref07_All : AFn := .code c_ref07_All r_ref07_All 9 true
def c_ref07_Ready : ACode :=
 (.seq (.ops [] [⟨some 1, .box (.t 0), none⟩, ⟨some 2, .mv (.c (.xsl [])), none⟩] [0, 2])
 (.seq (.ops [] [⟨some 3, .fad true 3 3 (.t 1), none⟩, ⟨some 4, .ld true 3 (.t 3), none⟩, ⟨some 5, .call N_ref04_List [] [.t 4], none⟩, ⟨some 2, .mv (.t 5), none⟩] [1, 3, 4, 5])
 (.ret [2])))
def r_ref07_Ready : List ARes := [.t 2]
def fn_ref07_Ready : AFn := .code c_ref07_Ready r_ref07_Ready 6 true
def c_ref04_List : ACode :=
 (.seq (.ops [] [⟨some 1, .box (.t 0), none⟩, ⟨some 2, .mv (.c (.xsl [])), none⟩] [0, 2])
 (.seq (.seq (.ops [] [⟨some 3, .ld true 3 (.t 1), none⟩, ⟨some 4, .call N_ref04_Validate [] [.t 3], none⟩, ⟨some 5, .bin .neq (.t 4) (.c (.d (.int .i64 0))), none⟩] [3, 4])
 (.cond (.t 5) (.seq (.ops [] [⟨some 2, .mv (.c (.xsl [])), none⟩] [1, 5])
 (.ret [2])) .skip))
 (.seq (.ops [] [⟨some 6, .ld true 3 (.t 1), none⟩, ⟨some 7, .call N_ref04_order [] [.t 6], none⟩, ⟨some 2, .mv (.t 7), none⟩] [1, 5, 6, 7])
 (.ret [2]))))
def r_ref04_List : List ARes := [.t 2]
def fn_ref04_List : AFn := .code c_ref04_List r_ref04_List 8 true
def l_ref07_Leased_0 : ACode :=
 (.seq (.seq (.ops [] [⟨some 5, .mv (.t 4), none⟩, ⟨some 6, .fad true 6 2 (.t 1), none⟩, ⟨some 7, .fad false 0 1 (.t 6), none⟩, ⟨some 8, .ld false 1 (.t 7), none⟩, ⟨some 9, .len (.t 8), none⟩, ⟨some 10, .bin .lss (.t 5) (.t 9), none⟩] [5, 6, 7, 8, 9])
 (.cond (.t 10) .skip (.exit 0 [3])))
 (.seq (.block 1 (.ops [] [⟨some 13, .mv (.t 3), none⟩, ⟨some 14, .fad true 6 2 (.t 1), none⟩, ⟨some 15, .fad false 0 1 (.t 14), none⟩, ⟨some 16, .ld false 1 (.t 15), none⟩, ⟨some 17, .mv (.t 4), none⟩, ⟨some 18, .iad 8 (.t 16) (.t 17), none⟩, ⟨some 19, .fad true 0 7 (.t 18), none⟩, ⟨some 20, .ld true 7 (.t 19), none⟩, ⟨some 21, .bsl 1 7 (.d (.agg [.int .i64 0, .int .i64 0, .int .i64 0, .int .i64 0, .int .i64 0, .int .i64 0, .str []])) [(0, .t 20)], none⟩, ⟨some 22, .app 7 (.t 13) (.t 21), none⟩, ⟨some 3, .mv (.t 22), none⟩] [10, 13, 14, 15, 16, 17, 18, 19, 20, 21, 22]))
 (.ops [] [⟨some 11, .mv (.t 4), none⟩, ⟨some 12, .bin .add (.t 11) (.c (.d (.int .i64 1))), none⟩, ⟨some 4, .mv (.t 12), none⟩] [11, 12])))
def c_ref07_Leased : ACode :=
 (.seq (.ops [] [⟨some 1, .box (.t 0), none⟩, ⟨some 2, .mv (.c (.xsl [])), none⟩] [0, 2])
 (.seq (.ops [] [⟨some 3, .nacc, none⟩] [])
 (.seq (.seq (.ops [] [⟨some 4, .mv (.c (.d (.int .i64 0))), none⟩] [])
 (.block 0 (.loop [] l_ref07_Leased_0)))
 (.seq (.ops [] [⟨some 23, .mv (.t 3), none⟩, ⟨some 2, .mv (.t 23), none⟩] [1, 3, 4, 10, 23])
 (.ret [2])))))
def r_ref07_Leased : List ARes := [.t 2]
def fn_ref07_Leased : AFn := .code c_ref07_Leased r_ref07_Leased 24 true
def l_ref07_Counts_0 : ACode :=
 (.seq (.seq (.ops [] [⟨some 31, .mv (.t 12), none⟩, ⟨some 32, .mv (.t 10), none⟩, ⟨some 33, .len (.t 32), none⟩, ⟨some 34, .bin .lss (.t 31) (.t 33), none⟩] [31, 32, 33])
 (.cond (.t 34) .skip (.exit 0 [1, 8, 9, 11])))
 (.seq (.block 1 (.seq (.ops [] [⟨some 37, .mv (.t 10), none⟩, ⟨some 38, .mv (.t 12), none⟩, ⟨some 39, .iad 7 (.t 37) (.t 38), none⟩, ⟨some 40, .ld true 7 (.t 39), none⟩, ⟨some 41, .mv (.t 1), none⟩, ⟨some 42, .call N_ref03_Purged [] [.t 40, .t 41], none⟩, ⟨some 43, .un .not (.t 42), none⟩, ⟨some 44, .mv (.t 43), none⟩, ⟨some 45, .mv (.t 10), some (44, true)⟩, ⟨some 46, .mv (.t 12), some (44, true)⟩, ⟨some 47, .iad 7 (.t 45) (.t 46), some (44, true)⟩, ⟨some 48, .ld true 7 (.t 47), some (44, true)⟩, ⟨some 49, .mv (.t 2), some (44, true)⟩, ⟨some 50, .call N_ref03_Spent [] [.t 48, .t 49], some (44, true)⟩, ⟨some 51, .un .not (.t 50), some (44, true)⟩, ⟨some 52, .pick (.t 44) (.t 51) (.c (.d (.bool false))), none⟩] [34, 37, 38, 39, 40, 41, 42, 43, 44, 45, 46, 47, 48, 49, 50, 51])
 (.cond (.t 52) (.ops [] [⟨some 53, .mv (.t 8), none⟩, ⟨some 54, .bin .add (.t 53) (.c (.d (.int .i64 1))), none⟩, ⟨some 8, .mv (.t 54), none⟩] [52, 53, 54]) .skip)))
 (.ops [] [⟨some 35, .mv (.t 12), none⟩, ⟨some 36, .bin .add (.t 35) (.c (.d (.int .i64 1))), none⟩, ⟨some 12, .mv (.t 36), none⟩] [35, 36, 52])))
def l_ref07_Counts_1 : ACode :=
 (.seq (.seq (.ops [] [⟨some 55, .mv (.t 13), none⟩, ⟨some 56, .mv (.t 11), none⟩, ⟨some 57, .len (.t 56), none⟩, ⟨some 58, .bin .lss (.t 55) (.t 57), none⟩] [55, 56, 57])
 (.cond (.t 58) .skip (.exit 2 [8, 9])))
 (.seq (.block 3 (.seq (.ops [] [⟨some 61, .mv (.t 11), none⟩, ⟨some 62, .mv (.t 13), none⟩, ⟨some 63, .iad 7 (.t 61) (.t 62), none⟩, ⟨some 64, .ld true 7 (.t 63), none⟩, ⟨some 65, .mv (.t 1), none⟩, ⟨some 66, .call N_ref03_Purged [] [.t 64, .t 65], none⟩, ⟨some 67, .un .not (.t 66), none⟩] [58, 61, 62, 63, 64, 65, 66])
 (.cond (.t 67) (.ops [] [⟨some 68, .mv (.t 9), none⟩, ⟨some 69, .bin .add (.t 68) (.c (.d (.int .i64 1))), none⟩, ⟨some 9, .mv (.t 69), none⟩] [67, 68, 69]) .skip)))
 (.ops [] [⟨some 59, .mv (.t 13), none⟩, ⟨some 60, .bin .add (.t 59) (.c (.d (.int .i64 1))), none⟩, ⟨some 13, .mv (.t 60), none⟩] [59, 60, 67])))
def c_ref07_Counts : ACode :=
 (.seq (.ops [] [⟨some 3, .box (.t 0), none⟩, ⟨some 6, .mv (.c (.d (.int .i64 0))), none⟩, ⟨some 7, .mv (.c (.d (.int .i64 0))), none⟩] [0, 6, 7])
 (.seq (.seq (.ops [] [⟨some 14, .ld true 8 (.t 3), none⟩, ⟨some 15, .call N_ref07_Live [] [.t 14], none⟩, ⟨some 16, .bin .neq (.t 15) (.c (.d (.int .i64 0))), none⟩, ⟨some 17, .mv (.t 16), none⟩, ⟨some 18, .mv (.t 1), some (17, false)⟩, ⟨some 19, .call N_ref07_epochs [] [.t 18], some (17, false)⟩, ⟨some 20, .un .not (.t 19), some (17, false)⟩, ⟨some 21, .pick (.t 17) (.c (.d (.bool true))) (.t 20), none⟩, ⟨some 22, .mv (.t 21), none⟩, ⟨some 23, .mv (.t 2), some (22, false)⟩, ⟨some 24, .call N_ref07_limits [] [.t 23], some (22, false)⟩, ⟨some 25, .un .not (.t 24), some (22, false)⟩, ⟨some 26, .pick (.t 22) (.c (.d (.bool true))) (.t 25), none⟩] [14, 15, 16, 17, 18, 19, 20, 21, 22, 23, 24, 25])
 (.cond (.t 26) (.seq (.ops [] [⟨some 6, .mv (.c (.d (.int .i64 0))), none⟩, ⟨some 7, .mv (.c (.d (.int .i64 0))), none⟩] [1, 2, 3, 26])
 (.ret [6, 7])) .skip))
 (.seq (.ops [] [⟨some 8, .mv (.c (.d (.int .i64 0))), none⟩, ⟨some 9, .mv (.c (.d (.int .i64 0))), none⟩] [26])
 (.seq (.draw [] [⟨some 27, .ld true 8 (.t 3), none⟩, ⟨some 28, .call N_ref07_Ready [] [.t 27], none⟩, ⟨some 29, .ld true 8 (.t 3), none⟩, ⟨some 30, .call N_ref07_Leased [] [.t 29], none⟩, ⟨some 10, .mv (.t 28), none⟩, ⟨some 11, .mv (.t 30), none⟩] [[], [], [0, 1], [], [], []] [3, 27, 28, 29, 30])
 (.seq (.seq (.ops [] [⟨some 12, .mv (.c (.d (.int .i64 0))), none⟩] [])
 (.block 0 (.loop [] l_ref07_Counts_0)))
 (.seq (.seq (.ops [] [⟨some 13, .mv (.c (.d (.int .i64 0))), none⟩] [2, 10, 12, 34])
 (.block 2 (.loop [] l_ref07_Counts_1)))
 (.seq (.ops [] [⟨some 70, .mv (.t 8), none⟩, ⟨some 71, .mv (.t 9), none⟩, ⟨some 6, .mv (.t 70), none⟩, ⟨some 7, .mv (.t 71), none⟩] [1, 8, 9, 11, 13, 58, 70, 71])
 (.ret [6, 7]))))))))
def r_ref07_Counts : List ARes := [.t 6, .t 7]
def fn_ref07_Counts : AFn := .code c_ref07_Counts r_ref07_Counts 72 true
def c_ref07_Live : ACode :=
 (.seq (.ops [] [⟨some 1, .box (.t 0), none⟩, ⟨some 2, .mv (.c (.d (.int .i64 0))), none⟩] [0, 2])
 (.seq (.seq (.ops [] [⟨some 4, .ld true 8 (.t 1), none⟩, ⟨some 5, .call N_ref07_Validate [] [.t 4], none⟩, ⟨some 3, .mv (.t 5), none⟩] [4, 5])
 (.seq (.ops [] [⟨some 6, .mv (.t 3), none⟩, ⟨some 7, .bin .neq (.t 6) (.c (.d (.int .i64 0))), none⟩] [6])
 (.cond (.t 7) (.seq (.ops [] [⟨some 8, .mv (.t 3), none⟩, ⟨some 2, .mv (.t 8), none⟩] [1, 3, 7, 8])
 (.ret [2])) .skip)))
 (.seq (.seq (.ops [] [⟨some 9, .fad false 0 1 (.t 1), none⟩, ⟨some 10, .ld false 1 (.t 9), none⟩, ⟨some 11, .un .not (.t 10), none⟩] [1, 3, 7, 9, 10])
 (.cond (.t 11) (.seq (.ops [] [⟨some 2, .mv (.c (.d (.int .i64 7))), none⟩] [11])
 (.ret [2])) .skip))
 (.seq (.ops [] [⟨some 2, .mv (.c (.d (.int .i64 0))), none⟩] [11])
 (.ret [2])))))
def r_ref07_Live : List ARes := [.t 2]
def fn_ref07_Live : AFn := .code c_ref07_Live r_ref07_Live 12 true
def c_ref07_epochs : ACode :=
 (.seq (.ops [] [⟨some 2, .mv (.c (.d (.bool false))), none⟩] [2])
 (.seq (.ops [] [⟨some 3, .mv (.t 0), none⟩, ⟨some 4, .bin .geq (.t 3) (.c (.d (.int .i64 0))), none⟩, ⟨some 5, .mv (.t 4), none⟩, ⟨some 6, .mv (.t 0), some (5, true)⟩, ⟨some 7, .bin .leq (.t 6) (.c (.d (.int .i64 65536))), some (5, true)⟩, ⟨some 8, .pick (.t 5) (.t 7) (.c (.d (.bool false))), none⟩, ⟨some 2, .mv (.t 8), none⟩] [0, 3, 4, 5, 6, 7, 8])
 (.ret [2])))
def r_ref07_epochs : List ARes := [.t 2]
def fn_ref07_epochs : AFn := .code c_ref07_epochs r_ref07_epochs 9 true
def c_ref07_limits : ACode :=
 (.seq (.ops [] [⟨some 2, .mv (.c (.d (.bool false))), none⟩] [2])
 (.seq (.ops [] [⟨some 3, .mv (.t 0), none⟩, ⟨some 4, .bin .geq (.t 3) (.c (.d (.int .i64 1))), none⟩, ⟨some 5, .mv (.t 4), none⟩, ⟨some 6, .mv (.t 0), some (5, true)⟩, ⟨some 7, .bin .leq (.t 6) (.c (.d (.int .i64 8))), some (5, true)⟩, ⟨some 8, .pick (.t 5) (.t 7) (.c (.d (.bool false))), none⟩, ⟨some 2, .mv (.t 8), none⟩] [0, 3, 4, 5, 6, 7, 8])
 (.ret [2])))
def r_ref07_limits : List ARes := [.t 2]
def fn_ref07_limits : AFn := .code c_ref07_limits r_ref07_limits 9 true
def c_ref03_Purged : ACode :=
 (.seq (.ops [] [⟨some 2, .box (.t 0), none⟩, ⟨some 4, .mv (.c (.d (.bool false))), none⟩] [0, 4])
 (.seq (.ops [] [⟨some 5, .fad false 2 1 (.t 2), none⟩, ⟨some 6, .ld false 1 (.t 5), none⟩, ⟨some 7, .mv (.t 1), none⟩, ⟨some 8, .bin .lss (.t 6) (.t 7), none⟩, ⟨some 4, .mv (.t 8), none⟩] [1, 2, 5, 6, 7, 8])
 (.ret [4])))
def r_ref03_Purged : List ARes := [.t 4]
def fn_ref03_Purged : AFn := .code c_ref03_Purged r_ref03_Purged 9 true
def c_ref03_Spent : ACode :=
 (.seq (.ops [] [⟨some 2, .box (.t 0), none⟩, ⟨some 4, .mv (.c (.d (.bool false))), none⟩] [0, 4])
 (.seq (.ops [] [⟨some 5, .fad false 3 1 (.t 2), none⟩, ⟨some 6, .ld false 1 (.t 5), none⟩, ⟨some 7, .mv (.t 1), none⟩, ⟨some 8, .bin .geq (.t 6) (.t 7), none⟩, ⟨some 4, .mv (.t 8), none⟩] [1, 2, 5, 6, 7, 8])
 (.ret [4])))
def r_ref03_Spent : List ARes := [.t 4]
def fn_ref03_Spent : AFn := .code c_ref03_Spent r_ref03_Spent 9 true
def l_base_Src_Stripes_0 : ACode :=
 (.seq (.seq (.ops [] [⟨some 7, .mv (.t 4), none⟩, ⟨some 8, .bin .gtr (.t 7) (.c (.d (.int .i64 0))), none⟩] [7])
 (.cond (.t 8) .skip (.exit 0 [3])))
 (.seq (.block 1 (.ops [] [⟨some 11, .mv (.t 3), none⟩, ⟨some 12, .mv (.t 0), none⟩, ⟨some 13, .call N_base_Src_N [true, false] [.t 12, .c (.d (.int .i64 6))], none⟩, ⟨some 14, .mv (.t 0), none⟩, ⟨some 15, .call N_base_Src_N [true, false] [.t 14, .c (.d (.int .i64 3))], none⟩, ⟨some 16, .mv (.t 0), none⟩, ⟨some 17, .call N_base_Src_N [true, false] [.t 16, .c (.d (.int .i64 5))], none⟩, ⟨some 18, .mv (.t 0), none⟩, ⟨some 19, .call N_base_Src_N [true, false] [.t 18, .c (.d (.int .i64 5))], none⟩, ⟨some 20, .build [.d (.int .i64 0), .d (.int .i64 0), .d (.int .i64 0), .d (.int .i64 0)] [(0, (1, .t 13)), (1, (1, .t 15)), (2, (1, .t 17)), (3, (1, .t 19))], none⟩, ⟨some 21, .bsl 1 4 (.d (.agg [.int .i64 0, .int .i64 0, .int .i64 0, .int .i64 0])) [(0, .t 20)], none⟩, ⟨some 22, .app 4 (.t 11) (.t 21), none⟩, ⟨some 3, .mv (.t 22), none⟩] [8, 11, 12, 13, 14, 15, 16, 17, 18, 19, 20, 21, 22]))
 (.ops [] [⟨some 9, .mv (.t 4), none⟩, ⟨some 10, .bin .sub (.t 9) (.c (.d (.int .i64 1))), none⟩, ⟨some 4, .mv (.t 10), none⟩] [9, 10])))
def c_base_Src_Stripes : ACode :=
 (.seq (.ops [] [⟨some 2, .mv (.c (.xsl [])), none⟩] [2])
 (.seq (.ops [] [⟨some 3, .nacc, none⟩] [])
 (.seq (.seq (.ops [] [⟨some 5, .mv (.t 0), none⟩, ⟨some 6, .call N_base_Src_N [true, false] [.t 5, .c (.d (.int .i64 5))], none⟩, ⟨some 4, .mv (.t 6), none⟩] [5, 6])
 (.block 0 (.loop [] l_base_Src_Stripes_0)))
 (.seq (.ops [] [⟨some 23, .mv (.t 3), none⟩, ⟨some 2, .mv (.t 23), none⟩] [0, 3, 4, 8, 23])
 (.ret [2])))))
def r_base_Src_Stripes : List ARes := [.t 2]
def fn_base_Src_Stripes : AFn := .code c_base_Src_Stripes r_base_Src_Stripes 24 true
def l_stripe_Sum_0 : ACode :=
 (.seq (.ops [] [⟨some 11, .bin .lss (.t 10) (.t 9), none⟩] [])
 (.seq (.cond (.t 11) .skip (.exit 0 [4, 5]))
 (.seq (.block 1 (.seq (.ops [] [⟨some 12, .iad 4 (.t 8) (.t 10), none⟩, ⟨some 13, .ld true 4 (.t 12), none⟩, ⟨some 7, .alloc (.d (.agg [.int .i64 0, .int .i64 0, .int .i64 0, .int .i64 0])), none⟩, ⟨none, .st 4 (.t 7) (.t 13), none⟩] [11, 12, 13])
 (.seq (.ops [] [⟨some 14, .fad false 1 1 (.t 7), none⟩, ⟨some 15, .ld false 1 (.t 14), none⟩, ⟨some 16, .mv (.t 1), none⟩, ⟨some 17, .bin .eql (.t 15) (.t 16), none⟩, ⟨some 18, .mv (.t 17), none⟩, ⟨some 19, .fad false 0 1 (.t 7), some (18, true)⟩, ⟨some 20, .ld false 1 (.t 19), some (18, true)⟩, ⟨some 21, .call N_stripe_number [] [.t 20], some (18, true)⟩, ⟨some 22, .pick (.t 18) (.t 21) (.c (.d (.bool false))), none⟩, ⟨some 23, .mv (.t 22), none⟩, ⟨some 24, .fad false 2 1 (.t 7), some (23, true)⟩, ⟨some 25, .ld false 1 (.t 24), some (23, true)⟩, ⟨some 26, .call N_stripe_number [] [.t 25], some (23, true)⟩, ⟨some 27, .pick (.t 23) (.t 26) (.c (.d (.bool false))), none⟩, ⟨some 28, .mv (.t 27), none⟩, ⟨some 29, .fad false 3 1 (.t 7), some (28, true)⟩, ⟨some 30, .ld false 1 (.t 29), some (28, true)⟩, ⟨some 31, .call N_stripe_number [] [.t 30], some (28, true)⟩, ⟨some 32, .pick (.t 28) (.t 31) (.c (.d (.bool false))), none⟩] [14, 15, 16, 17, 18, 19, 20, 21, 22, 23, 24, 25, 26, 27, 28, 29, 30, 31])
 (.cond (.t 32) (.seq (.ops [] [⟨some 33, .mv (.t 4), none⟩, ⟨some 34, .fad false 2 1 (.t 7), none⟩, ⟨some 35, .ld false 1 (.t 34), none⟩, ⟨some 36, .bin .add (.t 33) (.t 35), none⟩, ⟨some 4, .mv (.t 36), none⟩] [32, 33, 34, 35, 36])
 (.ops [] [⟨some 37, .mv (.t 5), none⟩, ⟨some 38, .fad false 3 1 (.t 7), none⟩, ⟨some 39, .ld false 1 (.t 38), none⟩, ⟨some 40, .bin .add (.t 37) (.t 39), none⟩, ⟨some 5, .mv (.t 40), none⟩] [7, 37, 38, 39, 40])) .skip))))
 (.ops [] [⟨some 41, .bin .add (.t 10) (.c (.d (.int .i64 1))), none⟩, ⟨some 10, .mv (.t 41), none⟩] [7, 32, 41]))))
def c_stripe_Sum : ACode :=
 (.seq (.ops [] [⟨some 4, .mv (.c (.d (.int .i64 0))), none⟩, ⟨some 5, .mv (.c (.d (.int .i64 0))), none⟩] [])
 (.seq (.seq (.ops [] [⟨some 8, .mv (.t 0), none⟩, ⟨some 9, .len (.t 8), none⟩, ⟨some 10, .mv (.c (.d (.int .i64 0))), none⟩] [0])
 (.block 0 (.loop [] l_stripe_Sum_0)))
 (.seq (.ops [] [⟨some 42, .mv (.t 4), none⟩, ⟨some 43, .mv (.t 5), none⟩, ⟨some 4, .mv (.t 42), none⟩, ⟨some 5, .mv (.t 43), none⟩] [1, 8, 9, 10, 11, 42, 43])
 (.ret [4, 5]))))
def r_stripe_Sum : List ARes := [.t 4, .t 5]
def fn_stripe_Sum : AFn := .code c_stripe_Sum r_stripe_Sum 44 true
def l_ref11_Sum_0 : ACode :=
 (.seq (.seq (.ops [] [⟨some 9, .mv (.t 8), none⟩, ⟨some 10, .mv (.t 0), none⟩, ⟨some 11, .len (.t 10), none⟩, ⟨some 12, .bin .lss (.t 9) (.t 11), none⟩] [9, 10, 11])
 (.cond (.t 12) .skip (.exit 0 [6, 7])))
 (.seq (.block 1 (.seq (.ops [] [⟨some 15, .mv (.t 0), none⟩, ⟨some 16, .mv (.t 8), none⟩, ⟨some 17, .iad 4 (.t 15) (.t 16), none⟩, ⟨some 18, .fad false 1 1 (.t 17), none⟩, ⟨some 19, .ld false 1 (.t 18), none⟩, ⟨some 20, .mv (.t 1), none⟩, ⟨some 21, .bin .eql (.t 19) (.t 20), none⟩, ⟨some 22, .mv (.t 21), none⟩, ⟨some 23, .mv (.t 0), some (22, true)⟩, ⟨some 24, .mv (.t 8), some (22, true)⟩, ⟨some 25, .iad 4 (.t 23) (.t 24), some (22, true)⟩, ⟨some 26, .fad false 0 1 (.t 25), some (22, true)⟩, ⟨some 27, .ld false 1 (.t 26), some (22, true)⟩, ⟨some 28, .call N_ref11_counted [] [.t 27], some (22, true)⟩, ⟨some 29, .pick (.t 22) (.t 28) (.c (.d (.bool false))), none⟩, ⟨some 30, .mv (.t 29), none⟩, ⟨some 31, .mv (.t 0), some (30, true)⟩, ⟨some 32, .mv (.t 8), some (30, true)⟩, ⟨some 33, .iad 4 (.t 31) (.t 32), some (30, true)⟩, ⟨some 34, .fad false 2 1 (.t 33), some (30, true)⟩, ⟨some 35, .ld false 1 (.t 34), some (30, true)⟩, ⟨some 36, .call N_ref11_counted [] [.t 35], some (30, true)⟩, ⟨some 37, .pick (.t 30) (.t 36) (.c (.d (.bool false))), none⟩, ⟨some 38, .mv (.t 37), none⟩, ⟨some 39, .mv (.t 0), some (38, true)⟩, ⟨some 40, .mv (.t 8), some (38, true)⟩, ⟨some 41, .iad 4 (.t 39) (.t 40), some (38, true)⟩, ⟨some 42, .fad false 3 1 (.t 41), some (38, true)⟩, ⟨some 43, .ld false 1 (.t 42), some (38, true)⟩, ⟨some 44, .call N_ref11_counted [] [.t 43], some (38, true)⟩, ⟨some 45, .pick (.t 38) (.t 44) (.c (.d (.bool false))), none⟩] [12, 15, 16, 17, 18, 19, 20, 21, 22, 23, 24, 25, 26, 27, 28, 29, 30, 31, 32, 33, 34, 35, 36, 37, 38, 39, 40, 41, 42, 43, 44])
 (.cond (.t 45) (.seq (.ops [] [⟨some 46, .mv (.t 6), none⟩, ⟨some 47, .mv (.t 0), none⟩, ⟨some 48, .mv (.t 8), none⟩, ⟨some 49, .iad 4 (.t 47) (.t 48), none⟩, ⟨some 50, .fad false 2 1 (.t 49), none⟩, ⟨some 51, .ld false 1 (.t 50), none⟩, ⟨some 52, .bin .add (.t 46) (.t 51), none⟩, ⟨some 6, .mv (.t 52), none⟩] [45, 46, 47, 48, 49, 50, 51, 52])
 (.ops [] [⟨some 53, .mv (.t 7), none⟩, ⟨some 54, .mv (.t 0), none⟩, ⟨some 55, .mv (.t 8), none⟩, ⟨some 56, .iad 4 (.t 54) (.t 55), none⟩, ⟨some 57, .fad false 3 1 (.t 56), none⟩, ⟨some 58, .ld false 1 (.t 57), none⟩, ⟨some 59, .bin .add (.t 53) (.t 58), none⟩, ⟨some 7, .mv (.t 59), none⟩] [53, 54, 55, 56, 57, 58, 59])) .skip)))
 (.ops [] [⟨some 13, .mv (.t 8), none⟩, ⟨some 14, .bin .add (.t 13) (.c (.d (.int .i64 1))), none⟩, ⟨some 8, .mv (.t 14), none⟩] [13, 14, 45])))
def c_ref11_Sum : ACode :=
 (.seq (.ops [] [⟨some 4, .mv (.c (.d (.int .i64 0))), none⟩, ⟨some 5, .mv (.c (.d (.int .i64 0))), none⟩] [4, 5])
 (.seq (.ops [] [⟨some 6, .mv (.c (.d (.int .i64 0))), none⟩, ⟨some 7, .mv (.c (.d (.int .i64 0))), none⟩] [])
 (.seq (.seq (.ops [] [⟨some 8, .mv (.c (.d (.int .i64 0))), none⟩] [])
 (.block 0 (.loop [] l_ref11_Sum_0)))
 (.seq (.ops [] [⟨some 60, .mv (.t 6), none⟩, ⟨some 61, .mv (.t 7), none⟩, ⟨some 4, .mv (.t 60), none⟩, ⟨some 5, .mv (.t 61), none⟩] [0, 1, 6, 7, 8, 12, 60, 61])
 (.ret [4, 5])))))
def r_ref11_Sum : List ARes := [.t 4, .t 5]
def fn_ref11_Sum : AFn := .code c_ref11_Sum r_ref11_Sum 62 true
def c_ref11_counted : ACode :=
 (.seq (.ops [] [⟨some 2, .mv (.c (.d (.bool false))), none⟩] [2])
 (.seq (.ops [] [⟨some 3, .mv (.t 0), none⟩, ⟨some 4, .bin .geq (.t 3) (.c (.d (.int .i64 0))), none⟩, ⟨some 5, .mv (.t 4), none⟩, ⟨some 6, .mv (.t 0), some (5, true)⟩, ⟨some 7, .bin .leq (.t 6) (.c (.d (.int .i64 1099511627776))), some (5, true)⟩, ⟨some 8, .pick (.t 5) (.t 7) (.c (.d (.bool false))), none⟩, ⟨some 2, .mv (.t 8), none⟩] [0, 3, 4, 5, 6, 7, 8])
 (.ret [2])))
def r_ref11_counted : List ARes := [.t 2]
def fn_ref11_counted : AFn := .code c_ref11_counted r_ref11_counted 9 true
def c_stripe_Quiet : ACode :=
 (.seq (.ops [] [⟨some 2, .mv (.c (.d (.bool false))), none⟩] [2])
 (.seq (.ops [] [⟨some 3, .mv (.t 0), none⟩, ⟨some 4, .call N_slices_ContainsFunc_api_Stripe [] [.t 3, .c (.d (.fn N_stripe_Quiet_1 []))], none⟩, ⟨some 5, .un .not (.t 4), none⟩, ⟨some 2, .mv (.t 5), none⟩] [0, 3, 4, 5])
 (.ret [2])))
def r_stripe_Quiet : List ARes := [.t 2]
def fn_stripe_Quiet : AFn := .code c_stripe_Quiet r_stripe_Quiet 6 true
def c_slices_ContainsFunc_api_Stripe : ACode :=
 (.seq (.ops [] [⟨some 4, .mv (.c (.d (.bool false))), none⟩] [4])
 (.seq (.ops [] [⟨some 5, .mv (.t 0), none⟩, ⟨some 6, .mv (.t 1), none⟩, ⟨some 7, .call N_slices_IndexFunc_api_Stripe [] [.t 5, .t 6], none⟩, ⟨some 8, .bin .geq (.t 7) (.c (.d (.int .i64 0))), none⟩, ⟨some 4, .mv (.t 8), none⟩] [0, 1, 5, 6, 7, 8])
 (.ret [4])))
def r_slices_ContainsFunc_api_Stripe : List ARes := [.t 4]
def fn_slices_ContainsFunc_api_Stripe : AFn := .code c_slices_ContainsFunc_api_Stripe r_slices_ContainsFunc_api_Stripe 9 true
def l_slices_IndexFunc_api_Stripe_0 : ACode :=
 (.seq (.ops [] [⟨some 9, .bin .lss (.t 8) (.t 7), none⟩] [])
 (.seq (.cond (.t 9) .skip (.exit 0 []))
 (.seq (.block 1 (.seq (.ops [] [⟨some 10, .mv (.t 8), none⟩, ⟨some 5, .mv (.t 10), none⟩] [9, 10])
 (.seq (.ops [] [⟨some 11, .mv (.t 1), none⟩, ⟨some 12, .mv (.t 0), none⟩, ⟨some 13, .mv (.t 5), none⟩, ⟨some 14, .iad 4 (.t 12) (.t 13), none⟩, ⟨some 15, .ld true 4 (.t 14), none⟩, ⟨some 16, .callv (.t 11) [] [.t 15], none⟩] [11, 12, 13, 14, 15])
 (.cond (.t 16) (.seq (.ops [] [⟨some 17, .mv (.t 5), none⟩, ⟨some 4, .mv (.t 17), none⟩] [0, 1, 5, 7, 8, 16, 17])
 (.ret [4])) .skip))))
 (.ops [] [⟨some 18, .bin .add (.t 8) (.c (.d (.int .i64 1))), none⟩, ⟨some 8, .mv (.t 18), none⟩] [5, 16, 18]))))
def c_slices_IndexFunc_api_Stripe : ACode :=
 (.seq (.ops [] [⟨some 4, .mv (.c (.d (.int .i64 0))), none⟩] [4])
 (.seq (.seq (.ops [] [⟨some 6, .mv (.t 0), none⟩, ⟨some 7, .len (.t 6), none⟩, ⟨some 8, .mv (.c (.d (.int .i64 0))), none⟩] [6])
 (.block 0 (.loop [] l_slices_IndexFunc_api_Stripe_0)))
 (.seq (.ops [] [⟨some 4, .mv (.c (.d (.int .i64 (-1)))), none⟩] [0, 1, 7, 8, 9])
 (.ret [4]))))
def r_slices_IndexFunc_api_Stripe : List ARes := [.t 4]
def fn_slices_IndexFunc_api_Stripe : AFn := .code c_slices_IndexFunc_api_Stripe r_slices_IndexFunc_api_Stripe 19 true
def c_stripe_Quiet_1 : ACode :=
 (.seq (.ops [] [⟨some 1, .box (.t 0), none⟩, ⟨some 2, .mv (.c (.d (.bool false))), none⟩] [0, 2])
 (.seq (.ops [] [⟨some 3, .fad false 0 1 (.t 1), none⟩, ⟨some 4, .ld false 1 (.t 3), none⟩, ⟨some 5, .bin .rem (.t 4) (.c (.d (.int .i64 2))), none⟩, ⟨some 6, .bin .neq (.t 5) (.c (.d (.int .i64 0))), none⟩, ⟨some 2, .mv (.t 6), none⟩] [1, 3, 4, 5, 6])
 (.ret [2])))
def r_stripe_Quiet_1 : List ARes := [.t 2]
def fn_stripe_Quiet_1 : AFn := .code c_stripe_Quiet_1 r_stripe_Quiet_1 7 true
def l_ref11_Quiet_0 : ACode :=
 (.seq (.seq (.ops [] [⟨some 4, .mv (.t 3), none⟩, ⟨some 5, .mv (.t 0), none⟩, ⟨some 6, .len (.t 5), none⟩, ⟨some 7, .bin .lss (.t 4) (.t 6), none⟩] [4, 5, 6])
 (.cond (.t 7) .skip (.exit 0 [])))
 (.seq (.block 1 (.seq (.ops [] [⟨some 10, .mv (.t 0), none⟩, ⟨some 11, .mv (.t 3), none⟩, ⟨some 12, .iad 4 (.t 10) (.t 11), none⟩, ⟨some 13, .fad false 0 1 (.t 12), none⟩, ⟨some 14, .ld false 1 (.t 13), none⟩, ⟨some 15, .bin .rem (.t 14) (.c (.d (.int .i64 2))), none⟩, ⟨some 16, .bin .neq (.t 15) (.c (.d (.int .i64 0))), none⟩] [7, 10, 11, 12, 13, 14, 15])
 (.cond (.t 16) (.seq (.ops [] [⟨some 2, .mv (.c (.d (.bool false))), none⟩] [0, 3, 16])
 (.ret [2])) .skip)))
 (.ops [] [⟨some 8, .mv (.t 3), none⟩, ⟨some 9, .bin .add (.t 8) (.c (.d (.int .i64 1))), none⟩, ⟨some 3, .mv (.t 9), none⟩] [8, 9, 16])))
def c_ref11_Quiet : ACode :=
 (.seq (.ops [] [⟨some 2, .mv (.c (.d (.bool false))), none⟩] [2])
 (.seq (.seq (.ops [] [⟨some 3, .mv (.c (.d (.int .i64 0))), none⟩] [])
 (.block 0 (.loop [] l_ref11_Quiet_0)))
 (.seq (.ops [] [⟨some 2, .mv (.c (.d (.bool true))), none⟩] [0, 3, 7])
 (.ret [2]))))
def r_ref11_Quiet : List ARes := [.t 2]
def fn_ref11_Quiet : AFn := .code c_ref11_Quiet r_ref11_Quiet 17 true
def c_stripe_Same : ACode :=
 (.seq (.ops [] [⟨some 4, .mv (.c (.d (.bool false))), none⟩] [4])
 (.seq (.ops [] [⟨some 5, .mv (.t 0), none⟩, ⟨some 6, .mv (.t 1), none⟩, ⟨some 7, .call N_slices_Equal_api_Stripe [] [.t 5, .t 6], none⟩, ⟨some 4, .mv (.t 7), none⟩] [0, 1, 5, 6, 7])
 (.ret [4])))
def r_stripe_Same : List ARes := [.t 4]
def fn_stripe_Same : AFn := .code c_stripe_Same r_stripe_Same 8 true
def l_slices_Equal_api_Stripe_0 : ACode :=
 (.seq (.ops [] [⟨some 14, .bin .lss (.t 13) (.t 12), none⟩] [])
 (.seq (.cond (.t 14) .skip (.exit 0 []))
 (.seq (.block 1 (.seq (.ops [] [⟨some 15, .mv (.t 13), none⟩, ⟨some 5, .mv (.t 15), none⟩] [14, 15])
 (.seq (.draw [] [⟨some 16, .mv (.t 0), none⟩, ⟨some 17, .mv (.t 5), none⟩, ⟨some 18, .iad 4 (.t 16) (.t 17), none⟩, ⟨some 19, .ld true 4 (.t 18), none⟩, ⟨some 20, .mv (.t 1), none⟩, ⟨some 21, .mv (.t 5), none⟩, ⟨some 22, .iad 4 (.t 20) (.t 21), none⟩, ⟨some 23, .ld true 4 (.t 22), none⟩, ⟨some 24, .eqs true 4 [(0, 0), (1, 0), (2, 0), (3, 0)] (.t 19) (.t 23), none⟩] [[], [0], [], [], [0, 1, 2, 3], [0, 1, 2, 3, 4], [0, 1, 2, 3], [0, 1, 2, 3], []] [5, 16, 17, 18, 19, 20, 21, 22, 23])
 (.cond (.t 24) (.seq (.ops [] [⟨some 4, .mv (.c (.d (.bool false))), none⟩] [0, 1, 12, 13, 24])
 (.ret [4])) .skip))))
 (.ops [] [⟨some 25, .bin .add (.t 13) (.c (.d (.int .i64 1))), none⟩, ⟨some 13, .mv (.t 25), none⟩] [24, 25]))))
def c_slices_Equal_api_Stripe : ACode :=
 (.seq (.ops [] [⟨some 4, .mv (.c (.d (.bool false))), none⟩] [4])
 (.seq (.seq (.ops [] [⟨some 6, .mv (.t 0), none⟩, ⟨some 7, .len (.t 6), none⟩, ⟨some 8, .mv (.t 1), none⟩, ⟨some 9, .len (.t 8), none⟩, ⟨some 10, .bin .neq (.t 7) (.t 9), none⟩] [6, 7, 8, 9])
 (.cond (.t 10) (.seq (.ops [] [⟨some 4, .mv (.c (.d (.bool false))), none⟩] [0, 1, 10])
 (.ret [4])) .skip))
 (.seq (.seq (.ops [] [⟨some 11, .mv (.t 0), none⟩, ⟨some 12, .len (.t 11), none⟩, ⟨some 13, .mv (.c (.d (.int .i64 0))), none⟩] [10, 11])
 (.block 0 (.loop [] l_slices_Equal_api_Stripe_0)))
 (.seq (.ops [] [⟨some 4, .mv (.c (.d (.bool true))), none⟩] [0, 1, 12, 13, 14])
 (.ret [4])))))
def r_slices_Equal_api_Stripe : List ARes := [.t 4]
def fn_slices_Equal_api_Stripe : AFn := .code c_slices_Equal_api_Stripe r_slices_Equal_api_Stripe 26 true
def l_ref11_Same_0 : ACode :=
 (.seq (.seq (.ops [] [⟨some 11, .mv (.t 5), none⟩, ⟨some 12, .mv (.t 0), none⟩, ⟨some 13, .len (.t 12), none⟩, ⟨some 14, .bin .lss (.t 11) (.t 13), none⟩] [11, 12, 13])
 (.cond (.t 14) .skip (.exit 0 [])))
 (.seq (.block 1 (.seq (.draw [] [⟨some 17, .mv (.t 0), none⟩, ⟨some 18, .mv (.t 5), none⟩, ⟨some 19, .iad 4 (.t 17) (.t 18), none⟩, ⟨some 20, .ld true 4 (.t 19), none⟩, ⟨some 21, .mv (.t 1), none⟩, ⟨some 22, .mv (.t 5), none⟩, ⟨some 23, .iad 4 (.t 21) (.t 22), none⟩, ⟨some 24, .ld true 4 (.t 23), none⟩, ⟨some 25, .eqs true 4 [(0, 0), (1, 0), (2, 0), (3, 0)] (.t 20) (.t 24), none⟩] [[], [0], [], [], [0, 1, 2, 3], [0, 1, 2, 3, 4], [0, 1, 2, 3], [0, 1, 2, 3], []] [14, 17, 18, 19, 20, 21, 22, 23, 24])
 (.cond (.t 25) (.seq (.ops [] [⟨some 4, .mv (.c (.d (.bool false))), none⟩] [0, 1, 5, 25])
 (.ret [4])) .skip)))
 (.ops [] [⟨some 15, .mv (.t 5), none⟩, ⟨some 16, .bin .add (.t 15) (.c (.d (.int .i64 1))), none⟩, ⟨some 5, .mv (.t 16), none⟩] [15, 16, 25])))
def c_ref11_Same : ACode :=
 (.seq (.ops [] [⟨some 4, .mv (.c (.d (.bool false))), none⟩] [4])
 (.seq (.seq (.ops [] [⟨some 6, .mv (.t 0), none⟩, ⟨some 7, .len (.t 6), none⟩, ⟨some 8, .mv (.t 1), none⟩, ⟨some 9, .len (.t 8), none⟩, ⟨some 10, .bin .neq (.t 7) (.t 9), none⟩] [6, 7, 8, 9])
 (.cond (.t 10) (.seq (.ops [] [⟨some 4, .mv (.c (.d (.bool false))), none⟩] [0, 1, 10])
 (.ret [4])) .skip))
 (.seq (.seq (.ops [] [⟨some 5, .mv (.c (.d (.int .i64 0))), none⟩] [10])
 (.block 0 (.loop [] l_ref11_Same_0)))
 (.seq (.ops [] [⟨some 4, .mv (.c (.d (.bool true))), none⟩] [0, 1, 5, 14])
 (.ret [4])))))
def r_ref11_Same : List ARes := [.t 4]
def fn_ref11_Same : AFn := .code c_ref11_Same r_ref11_Same 26 true
def c_law11_awake : ACode :=
 (.seq (.ops [] [⟨some 0, .mv (.c (.d (.bool false))), none⟩] [0])
 (.seq (.ops [] [⟨some 6, .build [.d (.int .i64 0), .d (.int .i64 0), .d (.int .i64 0), .d (.int .i64 0)] [(0, (1, .c (.d (.int .i64 2)))), (1, (1, .c (.d (.int .i64 1)))), (2, (1, .c (.d (.int .i64 3)))), (3, (1, .c (.d (.int .i64 4))))], none⟩, ⟨some 7, .build [.d (.int .i64 0), .d (.int .i64 0), .d (.int .i64 0), .d (.int .i64 0)] [(2, (1, .c (.d (.int .i64 5)))), (3, (1, .c (.d (.int .i64 6))))], none⟩, ⟨some 8, .bsl 2 4 (.d (.agg [.int .i64 0, .int .i64 0, .int .i64 0, .int .i64 0])) [(0, .t 6), (1, .t 7)], none⟩, ⟨some 9, .call N_stripe_Sum [] [.t 8, .c (.d (.int .i64 1))], none⟩, ⟨some 5, .mv (.t 9), none⟩, ⟨some 10, .ext (.t 5) 0, none⟩, ⟨some 11, .ext (.t 5) 1, none⟩, ⟨some 1, .mv (.t 10), none⟩, ⟨some 2, .mv (.t 11), none⟩] [5, 6, 7, 8, 9, 10, 11])
 (.seq (.ops [] [⟨some 13, .build [.d (.int .i64 0), .d (.int .i64 0), .d (.int .i64 0), .d (.int .i64 0)] [(0, (1, .c (.d (.int .i64 4))))], none⟩, ⟨some 14, .call N_stripe_Begin [] [.t 13], none⟩, ⟨some 12, .mv (.t 14), none⟩, ⟨some 15, .ext (.t 12) 0, none⟩, ⟨some 16, .ext (.t 12) 1, none⟩, ⟨some 3, .alloc (.d (.agg [.int .i64 0, .int .i64 0, .int .i64 0, .int .i64 0])), none⟩, ⟨none, .st 4 (.t 3) (.t 15), none⟩, ⟨some 4, .mv (.t 16), none⟩] [12, 13, 14, 15, 16])
 (.seq (.ops [] [⟨some 17, .mv (.t 1), none⟩, ⟨some 18, .bin .eql (.t 17) (.c (.d (.int .i64 3))), none⟩, ⟨some 19, .mv (.t 18), none⟩, ⟨some 20, .mv (.t 2), some (19, true)⟩, ⟨some 21, .bin .eql (.t 20) (.c (.d (.int .i64 4))), some (19, true)⟩, ⟨some 22, .pick (.t 19) (.t 21) (.c (.d (.bool false))), none⟩, ⟨some 23, .mv (.t 22), none⟩, ⟨some 24, .mv (.t 4), some (23, true)⟩, ⟨some 25, .bin .eql (.t 24) (.c (.d (.int .i64 0))), some (23, true)⟩, ⟨some 26, .pick (.t 23) (.t 25) (.c (.d (.bool false))), none⟩, ⟨some 27, .mv (.t 26), none⟩, ⟨some 28, .fad false 0 1 (.t 3), some (27, true)⟩, ⟨some 29, .ld false 1 (.t 28), some (27, true)⟩, ⟨some 30, .bin .eql (.t 29) (.c (.d (.int .i64 5))), some (27, true)⟩, ⟨some 31, .pick (.t 27) (.t 30) (.c (.d (.bool false))), none⟩, ⟨some 0, .mv (.t 31), none⟩] [1, 2, 3, 4, 17, 18, 19, 20, 21, 22, 23, 24, 25, 26, 27, 28, 29, 30, 31])
 (.ret [0])))))
def r_law11_awake : List ARes := [.t 0]
def fn_law11_awake : AFn := .code c_law11_awake r_law11_awake 32 true
end Go.Proofs.YtmbnbjkdamalpaaGreat
