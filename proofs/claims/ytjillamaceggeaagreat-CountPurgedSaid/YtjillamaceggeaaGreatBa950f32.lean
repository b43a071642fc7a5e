/-
  Functions of the program, as the calculus has them.
-/
import Derived.Test.YtjillamaceggeaaGreatB3cb969c
set_option linter.unusedSimpArgs false
set_option linter.unusedVariables false
namespace Go.Proofs.YtjillamaceggeaaGreat
open Go Go.Sim
def c_law22_CountPurged : ACode :=
 (.seq (.ops [] [oP 2 (.mv (.c (.d (.bool false))))] [2])
 (.seq (.ops [] [oP 9 (.call N_base_Two [] [kI 2, kI 6, kI 1]), oP 3 (.alloc (.d (.agg [.int .i64 0, .int .i64 0, .int .i64 0, .int .i64 0, .int .i64 0, .int .i64 0, .int .i64 0, .int .i64 0]))), oN (.st 8 (.t 3) (.t 9))] [9])
 (.seq (.ops [] [oP 10 (.ld true 8 (.t 3)), oM 11 0, oP 12 (.bin .rem (.t 11) (.c (.d (.int .u8 8)))), oP 13 (.cvi .i64 (.t 12)), oP 14 (.call N_base_Loaded [false, false, true] [.t 10, .t 13]), oP 4 (.alloc (.agg [.xsl [], .xsl [], aI 0, aI 0, .xsl [], aI 0, .xsl [], .xsl [], aI 0, aI 0, aI 0])), oN (.st 11 (.t 4) (.t 14))] [0, 10, 11, 12, 13, 14])
 (.seq (.ops [] [oP 15 (.fad false 8 1 (.t 4)), oP 16 (.ld false 1 (.t 15)), oP 17 (.bin .add (.t 16) (kI 1)), oP 18 (.fad false 8 1 (.t 4)), oN (.st 1 (.t 18) (.t 17))] [15, 16, 17, 18])
 (.seq (.ops [] [oP 20 (.ld true 11 (.t 4)), oP 21 (.ld true 8 (.t 3)), oP 22 (.build [aI 0, aI 0, aI 0, aI 0, aI 0, aI 0, .xsl [], .xsl []] [(0, (1, kI 7))]), oP 23 (.call N_law22_run [false, false, false, false, true] [.t 20, .t 21, .t 22, kI 0]), oM 19 23, oP 24 (.ext (.t 19) 0), oP 25 (.ext (.t 19) 1), oP 26 (.ext (.t 19) 2), oP 27 (.ext (.t 19) 3), oP 5 (.alloc (.agg [.xsl [], .xsl [], aI 0, aI 0, .xsl [], aI 0, .xsl [], .xsl [], aI 0, aI 0, aI 0])), oN (.st 11 (.t 5) (.t 24)), oM 6 25, oM 7 26, oM 8 27] [3, 4, 5, 7, 19, 20, 21, 22, 23, 24, 25, 26, 27])
 (.seq (.ops [] [oM 28 8, oP 29 (.bin .eql (.t 28) (kI 6)), oM 30 29, oQ 31 (.mv (.t 6)) 30 true, oQ 32 (.len (.t 31)) 30 true, oQ 33 (.bin .eql (.t 32) (kI 1)) 30 true, oP 34 (.pick (.t 30) (.t 33) (.c (.d (.bool false)))), oM 35 34, oQ 36 (.mv (.t 6)) 35 true, oQ 37 (.iad 7 (.t 36) (kI 0)) 35 true, oQ 38 (.fad false 4 1 (.t 37)) 35 true, oQ 39 (.ld false 1 (.t 38)) 35 true, oQ 40 (.bin .eql (.t 39) (kI 0)) 35 true, oP 41 (.pick (.t 35) (.t 40) (.c (.d (.bool false)))), oM 42 41, oQ 43 (.mv (.t 6)) 42 true, oQ 44 (.iad 7 (.t 43) (kI 0)) 42 true, oQ 45 (.fad false 5 1 (.t 44)) 42 true, oQ 46 (.ld false 1 (.t 45)) 42 true, oQ 47 (.bin .eql (.t 46) (kI 0)) 42 true, oP 48 (.pick (.t 42) (.t 47) (.c (.d (.bool false)))), oM 49 48, oQ 50 (.call N_law22_awake [] []) 49 true, oP 51 (.pick (.t 49) (.t 50) (.c (.d (.bool false)))), oM 2 51] [6, 8, 28, 29, 30, 31, 32, 33, 34, 35, 36, 37, 38, 39, 40, 41, 42, 43, 44, 45, 46, 47, 48, 49, 50, 51])
 (.ret [2])))))))
def r_law22_CountPurged : List ARes := [.t 2]
def fn_law22_CountPurged : AFn := .code c_law22_CountPurged r_law22_CountPurged 52 true
def c_base_Two : ACode :=
 (.seq (.ops [] [oP 6 (.alloc (.d (.agg [.int .i64 0, .int .i64 0, .int .i64 0, .int .i64 0, .int .i64 0, .int .i64 0, .int .i64 0, .int .i64 0])))] [])
 (.seq (.ops [] [oM 7 0, oM 8 1, oM 9 2, oP 10 (.build [aI 0, aI 0, aI 0, aI 0, aI 0, aI 0, aI 0, aI 0] [(0, (1, kI 2)), (1, (1, .t 7)), (2, (1, .t 8)), (3, (1, kI 3)), (4, (1, .t 9)), (6, (1, kI 1))]), oN (.st 8 (.t 6) (.t 10))] [0, 1, 2, 7, 8, 9, 10])
 (.ret [6])))
def r_base_Two : List ARes := [.c 6 true 8]
def fn_base_Two : AFn := .code c_base_Two r_base_Two 11 true
def l_base_Loaded_0 : ACode :=
 (.seq (.seq (.ops [] [oM 13 7, oM 14 1, oP 15 (.bin .lss (.t 13) (.t 14))] [13, 14])
 (.cond (.t 15) .skip (.exit 0 [4, 5])))
 (.seq (.block 1 (.seq (.ops [] [oP 19 (.ld true 23 (.t 5)), oP 20 (.bsl 1 1 (.d (.str [])) [(0, .c (.d (.str [109])))]), oP 21 (.build [aI 0, aI 0, aI 0, aI 0, aI 0, aI 0, .xsl [], .xsl []] [(0, (1, kI 1)), (6, (1, .t 20))]), oP 22 (.call N_ref30_Invoke [false, false, true] [.t 19, .t 21]), oM 18 22, oP 23 (.ext (.t 18) 0), oP 24 (.ext (.t 18) 1), oP 25 (.ext (.t 18) 2), oN (.st 23 (.t 5) (.t 23))] [15, 18, 19, 20, 21, 22, 23, 24, 25])
 (.ops [] [oP 27 (.ld true 23 (.t 5)), oP 28 (.call N_ref30_Finish [false, true] [.t 27]), oM 26 28, oP 29 (.ext (.t 26) 0), oP 30 (.ext (.t 26) 1), oP 31 (.ext (.t 26) 2), oN (.st 23 (.t 5) (.t 29))] [26, 27, 28, 29, 30, 31])))
 (.ops [] [oM 16 7, oP 17 (.bin .add (.t 16) (kI 1)), oM 7 17] [16, 17])))
def c_base_Loaded : ACode :=
 (.seq (.ops [] [oP 2 (.box (.t 0)), oP 4 (.alloc (.agg [.xsl [], .xsl [], aI 0, aI 0, .xsl [], aI 0, .xsl [], .xsl [], aI 0, aI 0, aI 0]))] [0])
 (.seq (.ops [] [oP 9 (.ld true 8 (.t 2)), oP 10 (.call N_ref30_New [false, true] [.t 9]), oM 8 10, oP 11 (.ext (.t 8) 0), oP 12 (.ext (.t 8) 1), oP 5 (.alloc (.agg [aI 0, aI 0, aI 0, aI 0, aI 0, aI 0, aI 0, aI 0, .xsl [], .xsl [], aI 0, aI 0, .xsl [], aI 0, .xsl [], .xsl [], aI 0, aI 0, aI 0, .xsl [], .xsl [], aI 0, .xsl []])), oN (.st 23 (.t 5) (.t 11)), oM 6 12] [2, 6, 8, 9, 10, 11, 12])
 (.seq (.seq (.ops [] [oP 7 (.mv (kI 0))] [])
 (.block 0 (.loop [] l_base_Loaded_0)))
 (.seq (.ops [] [oP 32 (.fad true 8 11 (.t 5)), oP 33 (.ld true 11 (.t 32)), oN (.st 11 (.t 4) (.t 33))] [1, 5, 7, 15, 32, 33])
 (.ret [4])))))
def r_base_Loaded : List ARes := [.c 4 true 11]
def fn_base_Loaded : AFn := .code c_base_Loaded r_base_Loaded 34 true
def c_ref30_New : ACode :=
 (.seq (.ops [] [oP 1 (.box (.t 0)), oP 2 (.alloc (.agg [aI 0, aI 0, aI 0, aI 0, aI 0, aI 0, aI 0, aI 0, .xsl [], .xsl [], aI 0, aI 0, .xsl [], aI 0, .xsl [], .xsl [], aI 0, aI 0, aI 0, .xsl [], .xsl [], aI 0, .xsl []])), oP 3 (.mv (kI 0))] [0, 3])
 (.seq (.ops [] [oP 7 (.ld true 8 (.t 1)), oP 8 (.call N_ref12_New [false, true] [.t 7]), oM 6 8, oP 9 (.ext (.t 6) 0), oP 10 (.ext (.t 6) 1), oP 4 (.alloc (.agg [.xsl [], .xsl [], aI 0, aI 0, .xsl [], aI 0, .xsl [], .xsl [], aI 0, aI 0, aI 0])), oN (.st 11 (.t 4) (.t 9)), oM 5 10] [6, 7, 8, 9, 10])
 (.seq (.seq (.ops [] [oM 11 5, oP 12 (.bin .neq (.t 11) (kI 0))] [11])
 (.cond (.t 12) (.seq (.ops [] [oP 13 (.build [aI 0, aI 0, aI 0, aI 0, aI 0, aI 0, aI 0, aI 0, .xsl [], .xsl [], aI 0, aI 0, .xsl [], aI 0, .xsl [], .xsl [], aI 0, aI 0, aI 0, .xsl [], .xsl [], aI 0, .xsl []] []), oM 14 5, oN (.st 23 (.t 2) (.t 13)), oM 3 14] [1, 4, 5, 12, 13, 14])
 (.ret [2, 3])) .skip))
 (.seq (.ops [] [oP 15 (.ld true 8 (.t 1)), oP 16 (.ld true 11 (.t 4)), oP 17 (.build [aI 0, aI 0, aI 0, aI 0, aI 0, aI 0, aI 0, aI 0, .xsl [], .xsl [], aI 0, aI 0, .xsl [], aI 0, .xsl [], .xsl [], aI 0, aI 0, aI 0, .xsl [], .xsl [], aI 0, .xsl []] [(0, (8, .t 15)), (8, (11, .t 16))]), oN (.st 23 (.t 2) (.t 17)), oP 3 (.mv (kI 0))] [1, 4, 5, 12, 15, 16, 17])
 (.ret [2, 3])))))
def r_ref30_New : List ARes := [.c 2 true 23, .t 3]
def fn_ref30_New : AFn := .code c_ref30_New r_ref30_New 18 true
def l_ref12_New_0 : ACode :=
 (.seq (.seq (.ops [] [oM 75 7, oP 76 (.fad false 0 1 (.t 1)), oP 77 (.ld false 1 (.t 76)), oP 78 (.bin .lss (.t 75) (.t 77))] [75, 76, 77])
 (.cond (.t 78) .skip (.exit 0 [1, 2, 6])))
 (.seq (.block 1 (.seq (.ops [] [oP 82 (.fad false 2 1 (.t 1)), oP 83 (.ld false 1 (.t 82)), oP 84 (.call N_ref07_Free [false, true] [.t 83]), oM 81 84, oP 85 (.ext (.t 81) 0), oP 86 (.ext (.t 81) 1), oP 8 (.alloc (.agg [.d (.bool false), aI 0, aI 0, .xsl [], aI 0, aI 0, .xsl [], .xsl []])), oN (.st 8 (.t 8) (.t 85)), oM 9 86] [9, 78, 81, 82, 83, 84, 85, 86])
 (.seq (.seq (.ops [] [oM 87 7, oP 88 (.fad false 1 1 (.t 1)), oP 89 (.ld false 1 (.t 88)), oP 90 (.bin .lss (.t 87) (.t 89))] [87, 88, 89])
 (.cond (.t 90) (.draw [] [oP 92 (.fad false 2 1 (.t 1)), oP 93 (.ld false 1 (.t 92)), oP 94 (.fad false 1 1 (.t 4)), oP 95 (.ld false 1 (.t 94)), oM 96 7, oP 97 (.iad 3 (.t 95) (.t 96)), oP 98 (.fad false 0 1 (.t 97)), oP 99 (.ld false 1 (.t 98)), oP 100 (.fad false 1 1 (.t 4)), oP 101 (.ld false 1 (.t 100)), oM 102 7, oP 103 (.iad 3 (.t 101) (.t 102)), oP 104 (.fad false 1 1 (.t 103)), oP 105 (.ld false 1 (.t 104)), oP 106 (.call N_ref07_New [false, false, false, true] [.t 93, .t 99, .t 105]), oM 91 106, oP 107 (.ext (.t 91) 0), oP 108 (.ext (.t 91) 1), oN (.st 8 (.t 8) (.t 107))] [[], [], [0, 1], [0, 1], [0, 1, 2, 3], [0, 1], [0, 1], [0, 1], [0, 1, 2, 3, 4, 5, 6, 7], [0, 1, 2, 3, 4, 5, 6, 7], [0, 1, 2, 3, 4, 5, 6, 7, 8, 9], [0, 1, 2, 3, 4, 5, 6, 7], [0, 1, 2, 3, 4, 5, 6, 7], [0, 1, 2, 3, 4, 5, 6, 7], [], [], [], [16], [17]] [90, 91, 92, 93, 94, 95, 96, 97, 98, 99, 100, 101, 102, 103, 104, 105, 106, 107, 108]) .skip))
 (.seq (.ops [] [oP 109 (.fad false 0 1 (.t 6)), oP 110 (.ld false 1 (.t 109)), oP 111 (.ld true 8 (.t 8)), oP 112 (.build [aI 0, .d (.bool false), aI 0, aI 0, .xsl [], aI 0, aI 0, .xsl [], .xsl []] [(1, (8, .t 111))]), oP 113 (.bsl 1 9 (.agg [aI 0, .d (.bool false), aI 0, aI 0, .xsl [], aI 0, aI 0, .xsl [], .xsl []]) [(0, .t 112)]), oP 114 (.app 9 (.t 110) (.t 113)), oP 115 (.fad false 0 1 (.t 6)), oN (.st 1 (.t 115) (.t 114))] [8, 90, 109, 110, 111, 112, 113, 114, 115])
 (.ops [] [oP 116 (.fad false 1 1 (.t 6)), oP 117 (.ld false 1 (.t 116)), oP 118 (.fad false 7 1 (.t 1)), oP 119 (.ld false 1 (.t 118)), oP 120 (.build [aI 0, aI 0, aI 0, aI 0] [(1, (1, .t 119))]), oP 121 (.bsl 1 4 (.d (.agg [.int .i64 0, .int .i64 0, .int .i64 0, .int .i64 0])) [(0, .t 120)]), oP 122 (.app 4 (.t 117) (.t 121)), oP 123 (.fad false 1 1 (.t 6)), oN (.st 1 (.t 123) (.t 122))] [116, 117, 118, 119, 120, 121, 122, 123])))))
 (.ops [] [oM 79 7, oP 80 (.bin .add (.t 79) (kI 1)), oM 7 80] [79, 80])))
def c_ref12_New : ACode :=
 (.seq (.ops [] [oP 1 (.box (.t 0)), oP 2 (.alloc (.agg [.xsl [], .xsl [], aI 0, aI 0, .xsl [], aI 0, .xsl [], .xsl [], aI 0, aI 0, aI 0])), oP 3 (.mv (kI 0))] [0, 3])
 (.seq (.seq (.ops [] [oP 10 (.fad false 0 1 (.t 1)), oP 11 (.ld false 1 (.t 10)), oP 12 (.call N_ref12_in [] [.t 11, kI 1, kI 6]), oP 13 (.un .not (.t 12)), oM 14 13, oQ 15 (.fad false 1 1 (.t 1)) 14 false, oQ 16 (.ld false 1 (.t 15)) 14 false, oQ 17 (.fad false 0 1 (.t 1)) 14 false, oQ 18 (.ld false 1 (.t 17)) 14 false, oQ 19 (.call N_ref12_in [] [.t 16, kI 1, .t 18]) 14 false, oQ 20 (.un .not (.t 19)) 14 false, oP 21 (.pick (.t 14) (.c (.d (.bool true))) (.t 20)), oM 22 21, oQ 23 (.fad false 2 1 (.t 1)) 22 false, oQ 24 (.ld false 1 (.t 23)) 22 false, oQ 25 (.call N_ref12_in [] [.t 24, kI 1, kI 12]) 22 false, oQ 26 (.un .not (.t 25)) 22 false, oP 27 (.pick (.t 22) (.c (.d (.bool true))) (.t 26)), oM 28 27, oQ 29 (.fad false 3 1 (.t 1)) 28 false, oQ 30 (.ld false 1 (.t 29)) 28 false, oQ 31 (.call N_ref12_in [] [.t 30, kI 1, kI 24]) 28 false, oQ 32 (.un .not (.t 31)) 28 false, oP 33 (.pick (.t 28) (.c (.d (.bool true))) (.t 32)), oM 34 33, oQ 35 (.fad false 4 1 (.t 1)) 34 false, oQ 36 (.ld false 1 (.t 35)) 34 false, oQ 37 (.call N_ref12_in [] [.t 36, kI 1, kI 8]) 34 false, oQ 38 (.un .not (.t 37)) 34 false, oP 39 (.pick (.t 34) (.c (.d (.bool true))) (.t 38)), oM 40 39, oQ 41 (.fad false 5 1 (.t 1)) 40 false, oQ 42 (.ld false 1 (.t 41)) 40 false, oQ 43 (.call N_ref12_in [] [.t 42, kI 0, kI 1073741824]) 40 false, oQ 44 (.un .not (.t 43)) 40 false, oP 45 (.pick (.t 40) (.c (.d (.bool true))) (.t 44)), oM 46 45, oQ 47 (.fad false 6 1 (.t 1)) 46 false, oQ 48 (.ld false 1 (.t 47)) 46 false, oQ 49 (.call N_ref12_in [] [.t 48, kI 1, kI 1073741824]) 46 false, oQ 50 (.un .not (.t 49)) 46 false, oP 51 (.pick (.t 46) (.c (.d (.bool true))) (.t 50)), oM 52 51, oQ 53 (.fad false 7 1 (.t 1)) 52 false, oQ 54 (.ld false 1 (.t 53)) 52 false, oQ 55 (.call N_ref12_in [] [.t 54, kI 0, kI 65536]) 52 false, oQ 56 (.un .not (.t 55)) 52 false, oP 57 (.pick (.t 52) (.c (.d (.bool true))) (.t 56))] [10, 11, 12, 13, 14, 15, 16, 17, 18, 19, 20, 21, 22, 23, 24, 25, 26, 27, 28, 29, 30, 31, 32, 33, 34, 35, 36, 37, 38, 39, 40, 41, 42, 43, 44, 45, 46, 47, 48, 49, 50, 51, 52, 53, 54, 55, 56])
 (.cond (.t 57) (.seq (.ops [] [oP 58 (.build [.xsl [], .xsl [], aI 0, aI 0, .xsl [], aI 0, .xsl [], .xsl [], aI 0, aI 0, aI 0] []), oN (.st 11 (.t 2) (.t 58)), oP 3 (.mv (kI 1))] [1, 57, 58])
 (.ret [2, 3])) .skip))
 (.seq (.ops [] [oP 60 (.fad false 0 1 (.t 1)), oP 61 (.ld false 1 (.t 60)), oP 62 (.fad false 1 1 (.t 1)), oP 63 (.ld false 1 (.t 62)), oP 64 (.call N_ref10_New [false, false, true] [.t 61, .t 63]), oM 59 64, oP 65 (.ext (.t 59) 0), oP 66 (.ext (.t 59) 1), oP 4 (.alloc (.agg [aI 0, .xsl [], .xsl []])), oN (.st 3 (.t 4) (.t 65)), oM 5 66] [5, 57, 59, 60, 61, 62, 63, 64, 65, 66])
 (.seq (.ops [] [oP 67 (.ld true 3 (.t 4)), oP 68 (.fad false 7 1 (.t 1)), oP 69 (.ld false 1 (.t 68)), oP 70 (.fad false 5 1 (.t 1)), oP 71 (.ld false 1 (.t 70)), oP 72 (.fad false 6 1 (.t 1)), oP 73 (.ld false 1 (.t 72)), oP 74 (.build [.xsl [], .xsl [], aI 0, aI 0, .xsl [], aI 0, .xsl [], .xsl [], aI 0, aI 0, aI 0] [(5, (3, .t 67)), (8, (1, .t 69)), (9, (1, .t 71)), (10, (1, .t 73))]), oP 6 (.alloc (.agg [.xsl [], .xsl [], aI 0, aI 0, .xsl [], aI 0, .xsl [], .xsl [], aI 0, aI 0, aI 0])), oN (.st 11 (.t 6) (.t 74))] [67, 68, 69, 70, 71, 72, 73, 74])
 (.seq (.seq (.ops [] [oP 7 (.mv (kI 0))] [])
 (.block 0 (.loop [] l_ref12_New_0)))
 (.seq (.ops [] [oP 125 (.fad false 3 1 (.t 1)), oP 126 (.ld false 1 (.t 125)), oP 127 (.call N_ref08_New [false, true] [.t 126]), oM 124 127, oP 128 (.ext (.t 124) 0), oP 129 (.ext (.t 124) 1), oP 130 (.fad true 2 3 (.t 6)), oP 131 (.fad true 1 2 (.t 130)), oN (.st 2 (.t 131) (.t 128))] [1, 4, 7, 78, 124, 125, 126, 127, 128, 129, 130, 131])
 (.seq (.ops [] [oP 132 (.ld true 11 (.t 6)), oN (.st 11 (.t 2) (.t 132)), oP 3 (.mv (kI 0))] [6, 132])
 (.ret [2, 3]))))))))
def r_ref12_New : List ARes := [.c 2 true 11, .t 3]
def fn_ref12_New : AFn := .code c_ref12_New r_ref12_New 133 true
def c_ref12_in : ACode :=
 (.seq (.ops [] [oP 6 (.mv (.c (.d (.bool false))))] [6])
 (.seq (.ops [] [oM 7 0, oM 8 1, oP 9 (.bin .geq (.t 7) (.t 8)), oM 10 9, oQ 11 (.mv (.t 0)) 10 true, oQ 12 (.mv (.t 2)) 10 true, oQ 13 (.bin .leq (.t 11) (.t 12)) 10 true, oP 14 (.pick (.t 10) (.t 13) (.c (.d (.bool false)))), oM 6 14] [0, 1, 2, 7, 8, 9, 10, 11, 12, 13, 14])
 (.ret [6])))
def r_ref12_in : List ARes := [.t 6]
def fn_ref12_in : AFn := .code c_ref12_in r_ref12_in 15 true
def l_ref10_New_0 : ACode :=
 (.seq (.seq (.ops [] [oM 22 7, oM 23 1, oP 24 (.bin .lss (.t 22) (.t 23))] [22, 23])
 (.cond (.t 24) .skip (.exit 0 [0, 4, 6])))
 (.seq (.block 1 (.draw [] [oP 27 (.fad false 1 1 (.t 6)), oP 28 (.ld false 1 (.t 27)), oM 29 7, oP 30 (.bin .mul (.t 29) (kI 65536)), oM 31 1, oP 32 (.bin .quo (.t 30) (.t 31)), oM 33 7, oP 34 (.bin .add (.t 33) (kI 1)), oP 35 (.bin .mul (.t 34) (kI 65536)), oM 36 1, oP 37 (.bin .quo (.t 35) (.t 36)), oP 38 (.bin .sub (.t 37) (kI 1)), oM 39 7, oP 40 (.build [aI 0, aI 0, aI 0] [(0, (1, .t 32)), (1, (1, .t 38)), (2, (1, .t 39))]), oP 41 (.bsl 1 3 (.d (.agg [.int .i64 0, .int .i64 0, .int .i64 0])) [(0, .t 40)]), oP 42 (.app 3 (.t 28) (.t 41)), oP 43 (.fad false 1 1 (.t 6)), oN (.st 1 (.t 43) (.t 42))] [[], [], [0, 1], [0, 1], [0, 1, 2, 3], [0, 1], [0, 1, 2, 3, 4, 5], [0, 1, 2, 3, 4, 5], [0, 1, 2, 3, 4, 5], [0, 1, 2, 3, 4, 5, 6, 7, 8], [0, 1, 2, 3, 4, 5], [0, 1, 2, 3, 4, 5], [0, 1, 2, 3, 4, 5, 6, 7, 8, 9, 10, 11], [0, 1], [0, 1], [], [], []] [24, 27, 28, 29, 30, 31, 32, 33, 34, 35, 36, 37, 38, 39, 40, 41, 42, 43]))
 (.ops [4000042] [oM 25 7, oP 26 (.bin .add (.t 25) (kI 1)), oM 7 26] [25, 26])))
def l_ref10_New_1 : ACode :=
 (.seq (.seq (.ops [] [oM 44 8, oM 45 0, oP 46 (.bin .lss (.t 44) (.t 45))] [44, 45])
 (.cond (.t 46) .skip (.exit 2 [4, 6])))
 (.seq (.block 3 (.ops [] [oP 49 (.fad false 2 1 (.t 6)), oP 50 (.ld false 1 (.t 49)), oP 51 (.bsl 1 1 (aI 0) [(0, kI (-1))]), oP 52 (.app 1 (.t 50) (.t 51)), oP 53 (.fad false 2 1 (.t 6)), oN (.st 1 (.t 53) (.t 52))] [46, 49, 50, 51, 52, 53]))
 (.ops [] [oM 47 8, oP 48 (.bin .add (.t 47) (kI 1)), oM 8 48] [47, 48])))
def c_ref10_New : ACode :=
 (.seq (.ops [] [oP 4 (.alloc (.agg [aI 0, .xsl [], .xsl []])), oP 5 (.mv (kI 0))] [5])
 (.seq (.seq (.ops [] [oM 9 1, oP 10 (.bin .lss (.t 9) (kI 1)), oM 11 10, oQ 12 (.mv (.t 1)) 11 false, oQ 13 (.mv (.t 0)) 11 false, oQ 14 (.bin .gtr (.t 12) (.t 13)) 11 false, oP 15 (.pick (.t 11) (.c (.d (.bool true))) (.t 14)), oM 16 15, oQ 17 (.mv (.t 0)) 16 false, oQ 18 (.bin .gtr (.t 17) (kI 6)) 16 false, oP 19 (.pick (.t 16) (.c (.d (.bool true))) (.t 18))] [9, 10, 11, 12, 13, 14, 15, 16, 17, 18])
 (.cond (.t 19) (.seq (.ops [] [oP 20 (.build [aI 0, .xsl [], .xsl []] []), oN (.st 3 (.t 4) (.t 20)), oP 5 (.mv (kI 1))] [0, 1, 19, 20])
 (.ret [4, 5])) .skip))
 (.seq (.ops [] [oP 21 (.build [aI 0, .xsl [], .xsl []] [(0, (1, kI 1))]), oP 6 (.alloc (.agg [aI 0, .xsl [], .xsl []])), oN (.st 3 (.t 6) (.t 21))] [19, 21])
 (.seq (.seq (.ops [] [oP 7 (.mv (kI 0))] [])
 (.block 0 (.loop [] l_ref10_New_0)))
 (.seq (.seq (.ops [] [oP 8 (.mv (kI 0))] [1, 7, 24])
 (.block 2 (.loop [] l_ref10_New_1)))
 (.seq (.ops [] [oP 54 (.ld true 3 (.t 6)), oN (.st 3 (.t 4) (.t 54)), oP 5 (.mv (kI 0))] [0, 6, 8, 46, 54])
 (.ret [4, 5])))))))
def r_ref10_New : List ARes := [.c 4 true 3, .t 5]
def fn_ref10_New : AFn := .code c_ref10_New r_ref10_New 55 true
def c_ref07_Free : ACode :=
 (.seq (.ops [] [oP 2 (.alloc (.agg [.d (.bool false), aI 0, aI 0, .xsl [], aI 0, aI 0, .xsl [], .xsl []])), oP 3 (.mv (kI 0))] [3])
 (.seq (.ops [] [oM 7 0, oP 8 (.call N_ref04_New [false, true] [.t 7]), oM 6 8, oP 9 (.ext (.t 6) 0), oP 10 (.ext (.t 6) 1), oP 4 (.alloc (.agg [.xsl [], aI 0, aI 0])), oN (.st 3 (.t 4) (.t 9)), oM 5 10] [0, 6, 7, 8, 9, 10])
 (.seq (.seq (.ops [] [oM 11 5, oP 12 (.bin .neq (.t 11) (kI 0))] [11])
 (.cond (.t 12) (.seq (.ops [] [oP 13 (.build [.d (.bool false), aI 0, aI 0, .xsl [], aI 0, aI 0, .xsl [], .xsl []] []), oM 14 5, oN (.st 8 (.t 2) (.t 13)), oM 3 14] [4, 5, 12, 13, 14])
 (.ret [2, 3])) .skip))
 (.seq (.ops [] [oP 15 (.ld true 3 (.t 4)), oP 16 (.build [.d (.bool false), aI 0, aI 0, .xsl [], aI 0, aI 0, .xsl [], .xsl []] [(3, (3, .t 15))]), oN (.st 8 (.t 2) (.t 16)), oP 3 (.mv (kI 0))] [4, 5, 12, 15, 16])
 (.ret [2, 3])))))
def r_ref07_Free : List ARes := [.c 2 true 8, .t 3]
def fn_ref07_Free : AFn := .code c_ref07_Free r_ref07_Free 17 true
def c_ref04_New : ACode :=
 (.seq (.ops [] [oP 2 (.alloc (.agg [.xsl [], aI 0, aI 0])), oP 3 (.mv (kI 0))] [3])
 (.seq (.seq (.ops [] [oM 4 0, oP 5 (.bin .lss (.t 4) (kI 1)), oM 6 5, oQ 7 (.mv (.t 0)) 6 false, oQ 8 (.bin .gtr (.t 7) (kI 12)) 6 false, oP 9 (.pick (.t 6) (.c (.d (.bool true))) (.t 8))] [4, 5, 6, 7, 8])
 (.cond (.t 9) (.seq (.ops [] [oP 10 (.build [.xsl [], aI 0, aI 0] []), oN (.st 3 (.t 2) (.t 10)), oP 3 (.mv (kI 1))] [0, 9, 10])
 (.ret [2, 3])) .skip))
 (.seq (.ops [] [oM 11 0, oP 12 (.mks 7 (.d (.agg [.int .i64 0, .int .i64 0, .int .i64 0, .int .i64 0, .int .i64 0, .int .i64 0, .str []])) (.t 11) (.t 11)), oP 13 (.build [.xsl [], aI 0, aI 0] [(0, (1, .t 12))]), oN (.st 3 (.t 2) (.t 13)), oP 3 (.mv (kI 0))] [0, 9, 11, 12, 13])
 (.ret [2, 3]))))
def r_ref04_New : List ARes := [.c 2 true 3, .t 3]
def fn_ref04_New : AFn := .code c_ref04_New r_ref04_New 14 true
def c_ref07_New : ACode :=
 (.seq (.ops [] [oP 6 (.alloc (.agg [.d (.bool false), aI 0, aI 0, .xsl [], aI 0, aI 0, .xsl [], .xsl []])), oP 7 (.mv (kI 0))] [7])
 (.seq (.ops [] [oM 11 0, oP 12 (.call N_ref04_New [false, true] [.t 11]), oM 10 12, oP 13 (.ext (.t 10) 0), oP 14 (.ext (.t 10) 1), oP 8 (.alloc (.agg [.xsl [], aI 0, aI 0])), oN (.st 3 (.t 8) (.t 13)), oM 9 14] [0, 10, 11, 12, 13, 14])
 (.seq (.seq (.ops [] [oM 15 9, oP 16 (.bin .neq (.t 15) (kI 0))] [15])
 (.cond (.t 16) (.seq (.ops [] [oP 17 (.build [.d (.bool false), aI 0, aI 0, .xsl [], aI 0, aI 0, .xsl [], .xsl []] []), oM 18 9, oN (.st 8 (.t 6) (.t 17)), oM 7 18] [1, 2, 8, 9, 16, 17, 18])
 (.ret [6, 7])) .skip))
 (.seq (.seq (.ops [] [oM 19 1, oM 20 2, oP 21 (.call N_ref07_span [] [.t 19, .t 20]), oP 22 (.un .not (.t 21))] [9, 16, 19, 20, 21])
 (.cond (.t 22) (.seq (.ops [] [oP 23 (.build [.d (.bool false), aI 0, aI 0, .xsl [], aI 0, aI 0, .xsl [], .xsl []] []), oN (.st 8 (.t 6) (.t 23)), oP 7 (.mv (kI 1))] [1, 2, 8, 22, 23])
 (.ret [6, 7])) .skip))
 (.seq (.ops [] [oM 24 1, oM 25 2, oP 26 (.ld true 3 (.t 8)), oP 27 (.build [.d (.bool false), aI 0, aI 0, .xsl [], aI 0, aI 0, .xsl [], .xsl []] [(0, (1, .c (.d (.bool true)))), (1, (1, .t 24)), (2, (1, .t 25)), (3, (3, .t 26))]), oN (.st 8 (.t 6) (.t 27)), oP 7 (.mv (kI 0))] [1, 2, 8, 22, 24, 25, 26, 27])
 (.ret [6, 7]))))))
def r_ref07_New : List ARes := [.c 6 true 8, .t 7]
def fn_ref07_New : AFn := .code c_ref07_New r_ref07_New 28 true
def c_ref07_span : ACode :=
 (.seq (.ops [] [oP 4 (.mv (.c (.d (.bool false))))] [4])
 (.seq (.ops [] [oM 5 0, oP 6 (.bin .geq (.t 5) (kI 0)), oM 7 6, oQ 8 (.mv (.t 0)) 7 true, oQ 9 (.mv (.t 1)) 7 true, oQ 10 (.bin .leq (.t 8) (.t 9)) 7 true, oP 11 (.pick (.t 7) (.t 10) (.c (.d (.bool false)))), oM 12 11, oQ 13 (.mv (.t 1)) 12 true, oQ 14 (.bin .lss (.t 13) (kI 65536)) 12 true, oP 15 (.pick (.t 12) (.t 14) (.c (.d (.bool false)))), oM 4 15] [0, 1, 5, 6, 7, 8, 9, 10, 11, 12, 13, 14, 15])
 (.ret [4])))
def r_ref07_span : List ARes := [.t 4]
def fn_ref07_span : AFn := .code c_ref07_span r_ref07_span 16 true
def c_ref08_New : ACode :=
 (.seq (.ops [] [oP 2 (.alloc (.agg [aI 0, .xsl []])), oP 3 (.mv (kI 0))] [3])
 (.seq (.seq (.ops [] [oM 4 0, oP 5 (.bin .lss (.t 4) (kI 1)), oM 6 5, oQ 7 (.mv (.t 0)) 6 false, oQ 8 (.bin .gtr (.t 7) (kI 24)) 6 false, oP 9 (.pick (.t 6) (.c (.d (.bool true))) (.t 8))] [4, 5, 6, 7, 8])
 (.cond (.t 9) (.seq (.ops [] [oP 10 (.build [aI 0, .xsl []] []), oN (.st 2 (.t 2) (.t 10)), oP 3 (.mv (kI 1))] [0, 9, 10])
 (.ret [2, 3])) .skip))
 (.seq (.ops [] [oM 11 0, oP 12 (.build [aI 0, .xsl []] [(0, (1, .t 11))]), oN (.st 2 (.t 2) (.t 12)), oP 3 (.mv (kI 0))] [0, 9, 11, 12])
 (.ret [2, 3]))))
def r_ref08_New : List ARes := [.c 2 true 2, .t 3]
def fn_ref08_New : AFn := .code c_ref08_New r_ref08_New 13 true
def c_ref30_Invoke : ACode :=
 (.seq (.ops [] [oP 2 (.box (.t 0)), oP 3 (.box (.t 1)), oP 4 (.alloc (.agg [aI 0, aI 0, aI 0, aI 0, aI 0, aI 0, aI 0, aI 0, .xsl [], .xsl [], aI 0, aI 0, .xsl [], aI 0, .xsl [], .xsl [], aI 0, aI 0, aI 0, .xsl [], .xsl [], aI 0, .xsl []])), oP 5 (.mv (kI 0)), oP 6 (.mv (kI 0))] [0, 1, 5, 6])
 (.seq (.seq (.ops [] [oP 10 (.fad false 19 1 (.t 2)), oP 11 (.ld false 1 (.t 10)), oP 12 (.len (.t 11)), oP 13 (.bin .geq (.t 12) (kI 200)), oM 14 13, oQ 15 (.ld true 23 (.t 2)) 14 false, oQ 16 (.call N_ref30_Open [false, true] [.t 15]) 14 false, oQ 17 (.len (.t 16)) 14 false, oQ 18 (.bin .geq (.t 17) (kI 8)) 14 false, oP 19 (.pick (.t 14) (.c (.d (.bool true))) (.t 18))] [10, 11, 12, 13, 14, 15, 16, 17, 18])
 (.cond (.t 19) (.seq (.ops [] [oP 20 (.build [aI 0, aI 0, aI 0, aI 0, aI 0, aI 0, aI 0, aI 0, .xsl [], .xsl [], aI 0, aI 0, .xsl [], aI 0, .xsl [], .xsl [], aI 0, aI 0, aI 0, .xsl [], .xsl [], aI 0, .xsl []] []), oN (.st 23 (.t 4) (.t 20)), oP 5 (.mv (kI 0)), oP 6 (.mv (kI 3))] [2, 3, 19, 20])
 (.ret [4, 5, 6])) .skip))
 (.seq (.ops [] [oP 21 (.fad false 19 1 (.t 2)), oP 22 (.ld false 1 (.t 21)), oP 23 (.len (.t 22)), oP 24 (.bin .add (.t 23) (kI 1)), oM 7 24] [19, 21, 22, 23, 24])
 (.seq (.ops [] [oM 26 7, oP 27 (.ld true 8 (.t 3)), oP 28 (.fad true 0 8 (.t 2)), oP 29 (.ld true 8 (.t 28)), oP 30 (.fad false 21 1 (.t 2)), oP 31 (.ld false 1 (.t 30)), oP 32 (.call N_ref17_Start [false, false, false, false, true] [.t 26, .t 27, .t 29, .t 31]), oM 25 32, oP 33 (.ext (.t 25) 0), oP 34 (.ext (.t 25) 1), oP 8 (.alloc (.agg [aI 0, aI 0, aI 0, aI 0, aI 0, aI 0, aI 0, .xsl [], .xsl [], aI 0, .d (.bool false), aI 0, aI 0, aI 0, .xsl [], aI 0, aI 0, aI 0, aI 0, aI 0, aI 0, aI 0, aI 0, aI 0, aI 0, .xsl [], aI 0, aI 0, aI 0, aI 0, aI 0, aI 0, aI 0, aI 0, .xsl [], aI 0, .xsl [], .xsl [], aI 0, .xsl [], .xsl [], .xsl [], aI 0, .xsl [], .xsl [], .xsl [], .xsl [], aI 0, .xsl [], aI 0, .xsl [], .xsl [], aI 0, aI 0, aI 0, aI 0, aI 0, aI 0, aI 0, aI 0, aI 0, .xsl [], .xsl []])), oN (.st 63 (.t 8) (.t 33)), oM 9 34] [3, 25, 26, 27, 28, 29, 30, 31, 32, 33, 34])
 (.seq (.seq (.ops [] [oM 35 9, oP 36 (.bin .neq (.t 35) (kI 0))] [35])
 (.cond (.t 36) (.seq (.ops [] [oP 37 (.build [aI 0, aI 0, aI 0, aI 0, aI 0, aI 0, aI 0, aI 0, .xsl [], .xsl [], aI 0, aI 0, .xsl [], aI 0, .xsl [], .xsl [], aI 0, aI 0, aI 0, .xsl [], .xsl [], aI 0, .xsl []] []), oM 38 9, oN (.st 23 (.t 4) (.t 37)), oP 5 (.mv (kI 0)), oM 6 38] [2, 7, 8, 9, 36, 37, 38])
 (.ret [4, 5, 6])) .skip))
 (.seq (.draw [] [oP 39 (.fad false 19 1 (.t 2)), oP 40 (.ld false 1 (.t 39)), oP 41 (.app 63 (.c (.xsl [])) (.t 40)), oP 42 (.ld true 63 (.t 8)), oP 43 (.bsl 1 63 (.agg [aI 0, aI 0, aI 0, aI 0, aI 0, aI 0, aI 0, .xsl [], .xsl [], aI 0, .d (.bool false), aI 0, aI 0, aI 0, .xsl [], aI 0, aI 0, aI 0, aI 0, aI 0, aI 0, aI 0, aI 0, aI 0, aI 0, .xsl [], aI 0, aI 0, aI 0, aI 0, aI 0, aI 0, aI 0, aI 0, .xsl [], aI 0, .xsl [], .xsl [], aI 0, .xsl [], .xsl [], .xsl [], aI 0, .xsl [], .xsl [], .xsl [], .xsl [], aI 0, .xsl [], aI 0, .xsl [], .xsl [], aI 0, aI 0, aI 0, aI 0, aI 0, aI 0, aI 0, aI 0, aI 0, .xsl [], .xsl []]) [(0, .t 42)]), oP 44 (.app 63 (.t 41) (.t 43)), oP 45 (.fad false 19 1 (.t 2)), oN (.st 1 (.t 45) (.t 44))] [[], [], [], [0, 1, 2], [0, 1, 2], [], [], []] [8, 9, 36, 39, 40, 41, 42, 43, 44, 45])
 (.seq (.ops [] [oP 46 (.ld true 23 (.t 2)), oM 47 7, oN (.st 23 (.t 4) (.t 46)), oM 5 47, oP 6 (.mv (kI 0))] [2, 7, 46, 47])
 (.ret [4, 5, 6]))))))))
def r_ref30_Invoke : List ARes := [.c 4 true 23, .t 5, .t 6]
def fn_ref30_Invoke : AFn := .code c_ref30_Invoke r_ref30_Invoke 48 true
def l_ref30_Open_0 : ACode :=
 (.seq (.seq (.ops [] [oM 5 4, oP 6 (.fad false 19 1 (.t 1)), oP 7 (.ld false 1 (.t 6)), oP 8 (.len (.t 7)), oP 9 (.bin .lss (.t 5) (.t 8))] [5, 6, 7, 8])
 (.cond (.t 9) .skip (.exit 0 [3])))
 (.seq (.block 1 (.seq (.ops [] [oP 12 (.fad false 19 1 (.t 1)), oP 13 (.ld false 1 (.t 12)), oM 14 4, oP 15 (.iad 63 (.t 13) (.t 14)), oP 16 (.fad false 10 1 (.t 15)), oP 17 (.ld false 1 (.t 16)), oP 18 (.un .not (.t 17))] [9, 12, 13, 14, 15, 16, 17])
 (.cond (.t 18) (.ops [] [oM 19 3, oM 20 4, oP 21 (.bsl 1 1 (aI 0) [(0, .t 20)]), oP 22 (.app 1 (.t 19) (.t 21)), oM 3 22] [18, 19, 20, 21, 22]) .skip)))
 (.ops [] [oM 10 4, oP 11 (.bin .add (.t 10) (kI 1)), oM 4 11] [10, 11, 18])))
def c_ref30_Open : ACode :=
 (.seq (.ops [] [oP 1 (.box (.t 0)), oP 2 (.mv (.c (.xsl [])))] [0, 2])
 (.seq (.ops [] [oP 3 .nacc] [])
 (.seq (.seq (.ops [] [oP 4 (.mv (kI 0))] [])
 (.block 0 (.loop [] l_ref30_Open_0)))
 (.seq (.ops [] [oM 23 3, oM 2 23] [1, 3, 4, 9, 23])
 (.ret [2])))))
def r_ref30_Open : List ARes := [.t 2]
def fn_ref30_Open : AFn := .code c_ref30_Open r_ref30_Open 24 true
def c_ref17_Start : ACode :=
 (.seq (.ops [] [oP 5 (.box (.t 1)), oP 6 (.box (.t 2)), oP 8 (.alloc (.agg [aI 0, aI 0, aI 0, aI 0, aI 0, aI 0, aI 0, .xsl [], .xsl [], aI 0, .d (.bool false), aI 0, aI 0, aI 0, .xsl [], aI 0, aI 0, aI 0, aI 0, aI 0, aI 0, aI 0, aI 0, aI 0, aI 0, .xsl [], aI 0, aI 0, aI 0, aI 0, aI 0, aI 0, aI 0, aI 0, .xsl [], aI 0, .xsl [], .xsl [], aI 0, .xsl [], .xsl [], .xsl [], aI 0, .xsl [], .xsl [], .xsl [], .xsl [], aI 0, .xsl [], aI 0, .xsl [], .xsl [], aI 0, aI 0, aI 0, aI 0, aI 0, aI 0, aI 0, aI 0, aI 0, .xsl [], .xsl []])), oP 9 (.mv (kI 0))] [1, 2, 9])
 (.seq (.seq (.ops [] [oM 13 0, oP 14 (.bin .lss (.t 13) (kI 1)), oM 15 14, oQ 16 (.mv (.t 0)) 15 false, oQ 17 (.bin .gtr (.t 16) (kI 200)) 15 false, oP 18 (.pick (.t 15) (.c (.d (.bool true))) (.t 17)), oM 19 18, oQ 20 (.mv (.t 3)) 19 false, oQ 21 (.bin .lss (.t 20) (kI 0)) 19 false, oP 22 (.pick (.t 19) (.c (.d (.bool true))) (.t 21))] [13, 14, 15, 16, 17, 18, 19, 20, 21])
 (.cond (.t 22) (.seq (.ops [] [oP 23 (.build [aI 0, aI 0, aI 0, aI 0, aI 0, aI 0, aI 0, .xsl [], .xsl [], aI 0, .d (.bool false), aI 0, aI 0, aI 0, .xsl [], aI 0, aI 0, aI 0, aI 0, aI 0, aI 0, aI 0, aI 0, aI 0, aI 0, .xsl [], aI 0, aI 0, aI 0, aI 0, aI 0, aI 0, aI 0, aI 0, .xsl [], aI 0, .xsl [], .xsl [], aI 0, .xsl [], .xsl [], .xsl [], aI 0, .xsl [], .xsl [], .xsl [], .xsl [], aI 0, .xsl [], aI 0, .xsl [], .xsl [], aI 0, aI 0, aI 0, aI 0, aI 0, aI 0, aI 0, aI 0, aI 0, .xsl [], .xsl []] []), oN (.st 63 (.t 8) (.t 23)), oP 9 (.mv (kI 1))] [0, 3, 5, 6, 22, 23])
 (.ret [8, 9])) .skip))
 (.seq (.seq (.ops [] [oP 25 (.ld true 8 (.t 6)), oP 26 (.call N_ref12_New [false, true] [.t 25]), oM 24 26, oP 27 (.ext (.t 24) 0), oP 28 (.ext (.t 24) 1), oP 10 (.alloc (.agg [.xsl [], .xsl [], aI 0, aI 0, .xsl [], aI 0, .xsl [], .xsl [], aI 0, aI 0, aI 0])), oN (.st 11 (.t 10) (.t 27)), oM 11 28] [10, 22, 24, 25, 26, 27, 28])
 (.seq (.ops [] [oM 29 11, oP 30 (.bin .neq (.t 29) (kI 0))] [29])
 (.cond (.t 30) (.seq (.ops [] [oP 31 (.build [aI 0, aI 0, aI 0, aI 0, aI 0, aI 0, aI 0, .xsl [], .xsl [], aI 0, .d (.bool false), aI 0, aI 0, aI 0, .xsl [], aI 0, aI 0, aI 0, aI 0, aI 0, aI 0, aI 0, aI 0, aI 0, aI 0, .xsl [], aI 0, aI 0, aI 0, aI 0, aI 0, aI 0, aI 0, aI 0, .xsl [], aI 0, .xsl [], .xsl [], aI 0, .xsl [], .xsl [], .xsl [], aI 0, .xsl [], .xsl [], .xsl [], .xsl [], aI 0, .xsl [], aI 0, .xsl [], .xsl [], aI 0, aI 0, aI 0, aI 0, aI 0, aI 0, aI 0, aI 0, aI 0, .xsl [], .xsl []] []), oM 32 11, oN (.st 63 (.t 8) (.t 31)), oM 9 32] [0, 3, 5, 6, 11, 30, 31, 32])
 (.ret [8, 9])) .skip)))
 (.seq (.seq (.ops [] [oP 33 (.ld true 8 (.t 5)), oP 34 (.ld true 8 (.t 6)), oP 35 (.call N_ref17_Validate [] [.t 33, .t 34]), oM 12 35] [11, 30, 33, 34, 35])
 (.seq (.ops [] [oM 36 12, oP 37 (.bin .neq (.t 36) (kI 0))] [36])
 (.cond (.t 37) (.seq (.ops [] [oP 38 (.build [aI 0, aI 0, aI 0, aI 0, aI 0, aI 0, aI 0, .xsl [], .xsl [], aI 0, .d (.bool false), aI 0, aI 0, aI 0, .xsl [], aI 0, aI 0, aI 0, aI 0, aI 0, aI 0, aI 0, aI 0, aI 0, aI 0, .xsl [], aI 0, aI 0, aI 0, aI 0, aI 0, aI 0, aI 0, aI 0, .xsl [], aI 0, .xsl [], .xsl [], aI 0, .xsl [], .xsl [], .xsl [], aI 0, .xsl [], .xsl [], .xsl [], .xsl [], aI 0, .xsl [], aI 0, .xsl [], .xsl [], aI 0, aI 0, aI 0, aI 0, aI 0, aI 0, aI 0, aI 0, aI 0, .xsl [], .xsl []] []), oM 39 12, oN (.st 63 (.t 8) (.t 38)), oM 9 39] [0, 3, 5, 6, 12, 37, 38, 39])
 (.ret [8, 9])) .skip)))
 (.seq (.ops [] [oM 40 0, oP 41 (.ld true 8 (.t 5)), oP 42 (.ld true 8 (.t 6)), oM 43 3, oP 44 (.build [aI 0, aI 0, aI 0, aI 0, aI 0, aI 0, aI 0, .xsl [], .xsl [], aI 0, .d (.bool false), aI 0, aI 0, aI 0, .xsl [], aI 0, aI 0, aI 0, aI 0, aI 0, aI 0, aI 0, aI 0, aI 0, aI 0, .xsl [], aI 0, aI 0, aI 0, aI 0, aI 0, aI 0, aI 0, aI 0, .xsl [], aI 0, .xsl [], .xsl [], aI 0, .xsl [], .xsl [], .xsl [], aI 0, .xsl [], .xsl [], .xsl [], .xsl [], aI 0, .xsl [], aI 0, .xsl [], .xsl [], aI 0, aI 0, aI 0, aI 0, aI 0, aI 0, aI 0, aI 0, aI 0, .xsl [], .xsl []] [(0, (1, .t 40)), (1, (8, .t 41)), (15, (8, .t 42)), (9, (1, .t 43))]), oN (.st 63 (.t 8) (.t 44)), oP 9 (.mv (kI 0))] [0, 3, 5, 6, 12, 37, 40, 41, 42, 43, 44])
 (.ret [8, 9]))))))
def r_ref17_Start : List ARes := [.c 8 true 63, .t 9]
def fn_ref17_Start : AFn := .code c_ref17_Start r_ref17_Start 45 true
def l_ref17_Validate_0 : ACode :=
 (.seq (.seq (.ops [] [oM 24 6, oP 25 (.fad false 6 1 (.t 2)), oP 26 (.ld false 1 (.t 25)), oP 27 (.len (.t 26)), oP 28 (.bin .lss (.t 24) (.t 27))] [24, 25, 26, 27])
 (.cond (.t 28) .skip (.exit 1 [])))
 (.seq (.block 2 (.seq (.ops [] [oP 31 (.fad false 6 1 (.t 2)), oP 32 (.ld false 1 (.t 31)), oM 33 6, oP 34 (.iad 1 (.t 32) (.t 33)), oP 35 (.ld false 1 (.t 34)), oP 36 (.lens (.t 35)), oP 37 (.bin .gtr (.t 36) (kI 16))] [28, 31, 32, 33, 34, 35, 36])
 (.cond (.t 37) (.seq (.ops [] [oP 4 (.mv (kI 2))] [2, 6, 37])
 (.ret [4])) .skip)))
 (.ops [] [oM 29 6, oP 30 (.bin .add (.t 29) (kI 1)), oM 6 30] [29, 30, 37])))
def c_ref17_Validate : ACode :=
 (.seq (.ops [] [oP 2 (.box (.t 0)), oP 3 (.box (.t 1)), oP 4 (.mv (kI 0))] [0, 1, 4])
 (.seq (.ops [] [oP 7 (.fad false 0 1 (.t 3)), oP 8 (.ld false 1 (.t 7)), oP 9 (.bin .sub (.t 8) (kI 1)), oM 5 9] [7, 8, 9])
 (.seq (.seq (.ops [] [oP 10 (.fad false 0 1 (.t 2)), oP 11 (.ld false 1 (.t 10))] [10])
 (.block 0 (.seq (.ops [] [oP 13 (.bin .eql (.t 11) (kI 1)), oM 12 13] [13])
 (.cond (.t 12) (.seq (.seq (.ops [] [oP 14 (.fad false 6 1 (.t 2)), oP 15 (.ld false 1 (.t 14)), oP 16 (.len (.t 15)), oP 17 (.bin .eql (.t 16) (kI 0)), oM 18 17, oQ 19 (.fad false 6 1 (.t 2)) 18 false, oQ 20 (.ld false 1 (.t 19)) 18 false, oQ 21 (.len (.t 20)) 18 false, oQ 22 (.bin .gtr (.t 21) (kI 6)) 18 false, oP 23 (.pick (.t 18) (.c (.d (.bool true))) (.t 22))] [3, 5, 11, 12, 14, 15, 16, 17, 18, 19, 20, 21, 22])
 (.cond (.t 23) (.seq (.ops [] [oP 4 (.mv (kI 2))] [2, 23])
 (.ret [4])) .skip))
 (.seq (.ops [] [oP 6 (.mv (kI 0))] [23])
 (.block 1 (.loop [] l_ref17_Validate_0)))) (.seq (.seq (.ops [] [oP 39 (.bin .eql (.t 11) (kI 2)), oM 38 39] [12, 39])
 (.cond (.t 38) .skip (.ops [] [oP 40 (.bin .eql (.t 11) (kI 8)), oM 38 40] [40])))
 (.cond (.t 38) (.seq (.ops [] [oP 41 (.fad false 1 1 (.t 2)), oP 42 (.ld false 1 (.t 41)), oM 43 5, oP 44 (.call N_ref17_in [] [.t 42, kI 0, .t 43]), oP 45 (.un .not (.t 44)), oM 46 45, oQ 47 (.fad false 2 1 (.t 2)) 46 false, oQ 48 (.ld false 1 (.t 47)) 46 false, oQ 49 (.call N_ref17_in [] [.t 48, kI 1, kI 6]) 46 false, oQ 50 (.un .not (.t 49)) 46 false, oP 51 (.pick (.t 46) (.c (.d (.bool true))) (.t 50)), oM 52 51, oQ 53 (.fad false 0 1 (.t 2)) 52 false, oQ 54 (.ld false 1 (.t 53)) 52 false, oQ 55 (.bin .eql (.t 54) (kI 2)) 52 false, oQ 56 (.mv (.t 55)) 52 false, oQ 57 (.fad false 3 1 (.t 2)) 56 true, oQ 58 (.ld false 1 (.t 57)) 56 true, oQ 59 (.call N_ref17_in [] [.t 58, kI 0, kI 1000]) 56 true, oQ 60 (.un .not (.t 59)) 56 true, oQ 61 (.pick (.t 56) (.t 60) (.c (.d (.bool false)))) 52 false, oP 62 (.pick (.t 52) (.c (.d (.bool true))) (.t 61))] [2, 3, 5, 11, 38, 41, 42, 43, 44, 45, 46, 47, 48, 49, 50, 51, 52, 53, 54, 55, 56, 57, 58, 59, 60, 61])
 (.cond (.t 62) (.seq (.ops [] [oP 4 (.mv (kI 1))] [62])
 (.ret [4])) .skip)) (.seq (.seq (.ops [] [oP 64 (.bin .eql (.t 11) (kI 3)), oM 63 64] [38, 64])
 (.cond (.t 63) .skip (.seq (.ops [] [oP 65 (.bin .eql (.t 11) (kI 4)), oM 63 65] [65])
 (.cond (.t 63) .skip (.ops [] [oP 66 (.bin .eql (.t 11) (kI 5)), oM 63 66] [66])))))
 (.cond (.t 63) (.seq (.seq (.ops [] [oP 67 (.fad false 7 1 (.t 2)), oP 68 (.ld false 1 (.t 67)), oP 69 (.len (.t 68)), oP 70 (.bin .eql (.t 69) (kI 0)), oM 71 70, oQ 72 (.fad false 7 1 (.t 2)) 71 false, oQ 73 (.ld false 1 (.t 72)) 71 false, oQ 74 (.len (.t 73)) 71 false, oQ 75 (.bin .gtr (.t 74) (kI 6)) 71 false, oP 76 (.pick (.t 71) (.c (.d (.bool true))) (.t 75))] [3, 5, 11, 63, 67, 68, 69, 70, 71, 72, 73, 74, 75])
 (.cond (.t 76) (.seq (.ops [] [oP 4 (.mv (kI 2))] [2, 76])
 (.ret [4])) .skip))
 (.seq (.ops [] [oP 77 (.fad false 0 1 (.t 2)), oP 78 (.ld false 1 (.t 77)), oP 79 (.bin .eql (.t 78) (kI 5)), oM 80 79, oQ 81 (.fad false 3 1 (.t 2)) 80 true, oQ 82 (.ld false 1 (.t 81)) 80 true, oQ 83 (.call N_ref17_in [] [.t 82, kI 0, kI 1000]) 80 true, oQ 84 (.un .not (.t 83)) 80 true, oP 85 (.pick (.t 80) (.t 84) (.c (.d (.bool false))))] [2, 76, 77, 78, 79, 80, 81, 82, 83, 84])
 (.cond (.t 85) (.seq (.ops [] [oP 4 (.mv (kI 1))] [85])
 (.ret [4])) .skip))) (.seq (.seq (.ops [] [oP 87 (.bin .eql (.t 11) (kI 9)), oM 86 87] [63, 87])
 (.cond (.t 86) .skip (.seq (.ops [] [oP 88 (.bin .eql (.t 11) (kI 10)), oM 86 88] [88])
 (.cond (.t 86) .skip (.ops [] [oP 89 (.bin .eql (.t 11) (kI 11)), oM 86 89] [89])))))
 (.cond (.t 86) (.seq (.ops [] [oP 90 (.fad false 4 1 (.t 2)), oP 91 (.ld false 1 (.t 90)), oM 92 5, oP 93 (.call N_ref17_in [] [.t 91, kI 0, .t 92]), oP 94 (.un .not (.t 93)), oM 95 94, oQ 96 (.fad false 5 1 (.t 2)) 95 false, oQ 97 (.ld false 1 (.t 96)) 95 false, oQ 98 (.mv (.t 5)) 95 false, oQ 99 (.call N_ref17_in [] [.t 97, kI 0, .t 98]) 95 false, oQ 100 (.un .not (.t 99)) 95 false, oP 101 (.pick (.t 95) (.c (.d (.bool true))) (.t 100)), oM 102 101, oQ 103 (.fad false 4 1 (.t 2)) 102 false, oQ 104 (.ld false 1 (.t 103)) 102 false, oQ 105 (.fad false 5 1 (.t 2)) 102 false, oQ 106 (.ld false 1 (.t 105)) 102 false, oQ 107 (.bin .eql (.t 104) (.t 106)) 102 false, oP 108 (.pick (.t 102) (.c (.d (.bool true))) (.t 107))] [2, 3, 5, 11, 86, 90, 91, 92, 93, 94, 95, 96, 97, 98, 99, 100, 101, 102, 103, 104, 105, 106, 107])
 (.cond (.t 108) (.seq (.ops [] [oP 4 (.mv (kI 1))] [108])
 (.ret [4])) .skip)) (.seq (.seq (.ops [] [oP 110 (.bin .eql (.t 11) (kI 12)), oM 109 110] [86, 110])
 (.cond (.t 109) .skip (.ops [] [oP 111 (.bin .eql (.t 11) (kI 14)), oM 109 111] [111])))
 (.cond (.t 109) (.seq (.ops [] [oP 112 (.fad false 4 1 (.t 2)), oP 113 (.ld false 1 (.t 112)), oM 114 5, oP 115 (.call N_ref17_in [] [.t 113, kI 0, .t 114]), oP 116 (.un .not (.t 115))] [2, 3, 5, 11, 109, 112, 113, 114, 115])
 (.cond (.t 116) (.seq (.ops [] [oP 4 (.mv (kI 1))] [116])
 (.ret [4])) .skip)) (.seq (.ops [] [oP 118 (.bin .eql (.t 11) (kI 13)), oM 117 118] [5, 109, 118])
 (.cond (.t 117) (.seq (.ops [] [oP 119 (.fad false 4 1 (.t 2)), oP 120 (.ld false 1 (.t 119)), oP 121 (.bin .lss (.t 120) (kI 0)), oM 122 121, oQ 123 (.fad false 4 1 (.t 2)) 122 false, oQ 124 (.ld false 1 (.t 123)) 122 false, oQ 125 (.fad false 0 1 (.t 3)) 122 false, oQ 126 (.ld false 1 (.t 125)) 122 false, oQ 127 (.bin .gtr (.t 124) (.t 126)) 122 false, oP 128 (.pick (.t 122) (.c (.d (.bool true))) (.t 127))] [2, 3, 11, 117, 119, 120, 121, 122, 123, 124, 125, 126, 127])
 (.cond (.t 128) (.seq (.ops [] [oP 4 (.mv (kI 1))] [128])
 (.ret [4])) .skip)) (.seq (.seq (.ops [] [oP 130 (.bin .eql (.t 11) (kI 6)), oM 129 130] [2, 3, 117, 130])
 (.cond (.t 129) .skip (.ops [] [oP 131 (.bin .eql (.t 11) (kI 7)), oM 129 131] [11, 131])))
 (.cond (.t 129) .skip (.seq (.ops [] [oP 4 (.mv (kI 9))] [11, 129])
 (.ret [4]))))))))))))))))))
 (.seq (.ops [] [oP 4 (.mv (kI 0))] [2, 6, 11, 28, 62, 85, 108, 116, 128, 129])
 (.ret [4])))))
def r_ref17_Validate : List ARes := [.t 4]
def fn_ref17_Validate : AFn := .code c_ref17_Validate r_ref17_Validate 132 true
def c_ref17_in : ACode :=
 (.seq (.ops [] [oP 6 (.mv (.c (.d (.bool false))))] [6])
 (.seq (.ops [] [oM 7 0, oM 8 1, oP 9 (.bin .geq (.t 7) (.t 8)), oM 10 9, oQ 11 (.mv (.t 0)) 10 true, oQ 12 (.mv (.t 2)) 10 true, oQ 13 (.bin .leq (.t 11) (.t 12)) 10 true, oP 14 (.pick (.t 10) (.t 13) (.c (.d (.bool false)))), oM 6 14] [0, 1, 2, 7, 8, 9, 10, 11, 12, 13, 14])
 (.ret [6])))
def r_ref17_in : List ARes := [.t 6]
def fn_ref17_in : AFn := .code c_ref17_in r_ref17_in 15 true
def l_ref30_Finish_0 : ACode :=
 (.seq (.seq (.ops [] [oM 24 8, oM 25 7, oP 26 (.len (.t 25)), oP 27 (.bin .lss (.t 24) (.t 26)), oM 28 27, oQ 29 (.mv (.t 6)) 28 true, oQ 30 (.mv (.t 5)) 28 true, oQ 31 (.bin .lss (.t 29) (.t 30)) 28 true, oP 32 (.pick (.t 28) (.t 31) (.c (.d (.bool false))))] [24, 25, 26, 27, 28, 29, 30, 31])
 (.cond (.t 32) .skip (.exit 2 [1, 2, 5, 6])))
 (.seq (.block 3 (.seq (.draw [] [oP 36 (.ld true 23 (.t 1)), oM 37 7, oM 38 8, oP 39 (.iad 1 (.t 37) (.t 38)), oP 40 (.ld false 1 (.t 39)), oP 41 (.call N_ref30_step [false, false, true] [.t 36, .t 40]), oM 35 41, oP 42 (.ext (.t 35) 0), oP 43 (.ext (.t 35) 1), oP 9 (.alloc (.agg [aI 0, aI 0, aI 0, aI 0, aI 0, aI 0, aI 0, aI 0, .xsl [], .xsl [], aI 0, aI 0, .xsl [], aI 0, .xsl [], .xsl [], aI 0, aI 0, aI 0, .xsl [], .xsl [], aI 0, .xsl []])), oN (.st 23 (.t 9) (.t 42)), oM 10 43] [[], [0], [0, 1], [0], [0], [], [], [], [7], [0, 1, 2, 3, 4, 5, 6, 7, 8], [8], []] [32, 35, 36, 37, 38, 39, 40, 41, 42, 43])
 (.seq (.seq (.ops [] [oM 44 10, oP 45 (.bin .neq (.t 44) (kI 0))] [44])
 (.cond (.t 45) (.seq (.ops [] [oP 46 (.build [aI 0, aI 0, aI 0, aI 0, aI 0, aI 0, aI 0, aI 0, .xsl [], .xsl [], aI 0, aI 0, .xsl [], aI 0, .xsl [], .xsl [], aI 0, aI 0, aI 0, .xsl [], .xsl [], aI 0, .xsl []] []), oM 47 10, oN (.st 23 (.t 2) (.t 46)), oP 3 (.mv (kI 0)), oM 4 47] [1, 5, 6, 7, 8, 9, 10, 45, 46, 47])
 (.ret [2, 3, 4])) .skip))
 (.seq (.ops [] [oP 48 (.ld true 23 (.t 9)), oN (.st 23 (.t 1) (.t 48))] [9, 10, 45, 48])
 (.ops [] [oM 49 6, oP 50 (.bin .add (.t 49) (kI 1)), oM 6 50] [49, 50])))))
 (.ops [] [oM 33 8, oP 34 (.bin .add (.t 33) (kI 1)), oM 8 34] [33, 34])))
def l_ref30_Finish_1 : ACode :=
 (.seq (.seq (.ops [] [oP 13 (.ld true 23 (.t 1)), oP 14 (.call N_ref30_Open [false, true] [.t 13]), oP 15 (.len (.t 14)), oP 16 (.bin .gtr (.t 15) (kI 0)), oM 17 16, oQ 18 (.mv (.t 6)) 17 true, oQ 19 (.mv (.t 5)) 17 true, oQ 20 (.bin .lss (.t 18) (.t 19)) 17 true, oP 21 (.pick (.t 17) (.t 20) (.c (.d (.bool false))))] [13, 14, 15, 16, 17, 18, 19, 20])
 (.cond (.t 21) .skip (.exit 0 [1, 2, 6])))
 (.block 1 (.seq (.ops [] [oP 22 (.ld true 23 (.t 1)), oP 23 (.call N_ref30_Open [false, true] [.t 22]), oM 7 23] [21, 22, 23])
 (.seq (.ops [] [oP 8 (.mv (kI 0))] [])
 (.block 2 (.loop [] l_ref30_Finish_0))))))
def c_ref30_Finish : ACode :=
 (.seq (.ops [] [oP 1 (.box (.t 0)), oP 2 (.alloc (.agg [aI 0, aI 0, aI 0, aI 0, aI 0, aI 0, aI 0, aI 0, .xsl [], .xsl [], aI 0, aI 0, .xsl [], aI 0, .xsl [], .xsl [], aI 0, aI 0, aI 0, .xsl [], .xsl [], aI 0, .xsl []])), oP 3 (.mv (kI 0)), oP 4 (.mv (kI 0))] [0, 3, 4])
 (.seq (.ops [] [oP 11 (.ld true 23 (.t 1)), oP 12 (.call N_ref30_Bound [] [.t 11]), oM 5 12, oP 6 (.mv (kI 0))] [11, 12])
 (.seq (.block 0 (.loop [7, 8, 32] l_ref30_Finish_1))
 (.seq (.ops [] [oP 51 (.ld true 23 (.t 1)), oM 52 6, oN (.st 23 (.t 2) (.t 51)), oM 3 52, oP 4 (.mv (kI 0))] [1, 5, 6, 21, 51, 52])
 (.ret [2, 3, 4])))))
def r_ref30_Finish : List ARes := [.c 2 true 23, .t 3, .t 4]
def fn_ref30_Finish : AFn := .code c_ref30_Finish r_ref30_Finish 53 true
def l_ref30_Bound_0 : ACode :=
 (.seq (.seq (.ops [] [oM 17 7, oM 18 4, oP 19 (.bin .lss (.t 17) (.t 18))] [17, 18])
 (.cond (.t 19) .skip (.exit 0 [4, 5, 6])))
 (.seq (.block 1 (.seq (.draw [] [oP 22 (.fad false 19 1 (.t 1)), oP 23 (.ld false 1 (.t 22)), oM 24 3, oM 25 7, oP 26 (.iad 1 (.t 24) (.t 25)), oP 27 (.ld false 1 (.t 26)), oP 28 (.iad 63 (.t 23) (.t 27)), oP 29 (.ld true 63 (.t 28)), oP 8 (.alloc (.agg [aI 0, aI 0, aI 0, aI 0, aI 0, aI 0, aI 0, .xsl [], .xsl [], aI 0, .d (.bool false), aI 0, aI 0, aI 0, .xsl [], aI 0, aI 0, aI 0, aI 0, aI 0, aI 0, aI 0, aI 0, aI 0, aI 0, .xsl [], aI 0, aI 0, aI 0, aI 0, aI 0, aI 0, aI 0, aI 0, .xsl [], aI 0, .xsl [], .xsl [], aI 0, .xsl [], .xsl [], .xsl [], aI 0, .xsl [], .xsl [], .xsl [], .xsl [], aI 0, .xsl [], aI 0, .xsl [], .xsl [], aI 0, aI 0, aI 0, aI 0, aI 0, aI 0, aI 0, aI 0, aI 0, .xsl [], .xsl []])), oN (.st 63 (.t 8) (.t 29))] [[], [], [0, 1], [0, 1, 2], [0, 1], [0, 1], [], [], [0, 1, 2, 3, 4, 5, 6, 7], []] [19, 22, 23, 24, 25, 26, 27, 28, 29])
 (.draw [] [oM 30 6, oP 31 (.fad true 1 8 (.t 8)), oP 32 (.ld true 8 (.t 31)), oP 33 (.call N_ref17_Entries [] [.t 32]), oP 34 (.fad false 13 1 (.t 8)), oP 35 (.ld false 1 (.t 34)), oP 36 (.bin .sub (.t 33) (.t 35)), oP 37 (.bin .add (.t 30) (.t 36)), oM 6 37] [[], [0], [0], [0], [0, 1, 2, 3], [0, 1, 2, 3], [0], [], []] [8, 30, 31, 32, 33, 34, 35, 36, 37])))
 (.ops [] [oM 20 7, oP 21 (.bin .add (.t 20) (kI 1)), oM 7 21] [20, 21])))
def c_ref30_Bound : ACode :=
 (.seq (.ops [] [oP 1 (.box (.t 0)), oP 2 (.mv (kI 0))] [0, 2])
 (.seq (.ops [] [oP 9 (.ld true 23 (.t 1)), oP 10 (.call N_ref30_Open [false, true] [.t 9]), oM 3 10] [9, 10])
 (.seq (.draw [] [oM 11 3, oP 12 (.len (.t 11)), oP 13 (.fad true 8 11 (.t 1)), oP 14 (.fad false 0 1 (.t 13)), oP 15 (.ld false 1 (.t 14)), oP 16 (.len (.t 15)), oM 4 12, oM 5 16, oP 6 (.mv (kI 0))] [[], [], [0, 1], [0, 1], [0, 1], [0, 1], [2, 3, 4, 5], [], []] [11, 12, 13, 14, 15, 16])
 (.seq (.seq (.ops [] [oP 7 (.mv (kI 0))] [])
 (.block 0 (.loop [] l_ref30_Bound_0)))
 (.seq (.ops [] [oM 38 4, oM 39 6, oM 40 5, oM 41 4, oP 42 (.bin .mul (kI 2) (.t 41)), oP 43 (.bin .add (.t 40) (.t 42)), oP 44 (.bin .add (.t 43) (kI 2)), oP 45 (.bin .mul (.t 39) (.t 44)), oM 46 4, oP 47 (.bin .mul (kI 4) (.t 46)), oP 48 (.bin .add (.t 47) (kI 32)), oP 49 (.bin .mul (.t 45) (.t 48)), oM 50 6, oP 51 (.bin .mul (kI 4) (.t 50)), oP 52 (.bin .add (.t 49) (.t 51)), oM 53 4, oP 54 (.bin .mul (kI 4) (.t 53)), oP 55 (.bin .add (.t 52) (.t 54)), oM 56 5, oP 57 (.bin .mul (kI 8) (.t 56)), oP 58 (.bin .add (.t 55) (.t 57)), oP 59 (.bin .add (.t 58) (kI 16)), oP 60 (.bin .mul (.t 38) (.t 59)), oM 2 60] [1, 3, 4, 5, 6, 7, 19, 38, 39, 40, 41, 42, 43, 44, 45, 46, 47, 48, 49, 50, 51, 52, 53, 54, 55, 56, 57, 58, 59, 60])
 (.ret [2]))))))
def r_ref30_Bound : List ARes := [.t 2]
def fn_ref30_Bound : AFn := .code c_ref30_Bound r_ref30_Bound 61 true
def c_ref17_Entries : ACode :=
 (.seq (.ops [] [oP 1 (.box (.t 0)), oP 2 (.mv (kI 0))] [0, 2])
 (.seq (.seq (.ops [] [oP 3 (.fad false 0 1 (.t 1)), oP 4 (.ld false 1 (.t 3))] [3])
 (.block 0 (.seq (.ops [] [oP 6 (.bin .eql (.t 4) (kI 1)), oM 5 6] [6])
 (.cond (.t 5) (.seq (.ops [] [oP 7 (.fad false 6 1 (.t 1)), oP 8 (.ld false 1 (.t 7)), oP 9 (.len (.t 8)), oM 2 9] [1, 4, 5, 7, 8, 9])
 (.ret [2])) (.seq (.seq (.ops [] [oP 11 (.bin .eql (.t 4) (kI 3)), oM 10 11] [5, 11])
 (.cond (.t 10) .skip (.seq (.ops [] [oP 12 (.bin .eql (.t 4) (kI 4)), oM 10 12] [12])
 (.cond (.t 10) .skip (.ops [] [oP 13 (.bin .eql (.t 4) (kI 5)), oM 10 13] [4, 13])))))
 (.cond (.t 10) (.seq (.ops [] [oP 14 (.fad false 7 1 (.t 1)), oP 15 (.ld false 1 (.t 14)), oP 16 (.len (.t 15)), oM 2 16] [1, 4, 10, 14, 15, 16])
 (.ret [2])) .skip))))))
 (.seq (.ops [] [oP 2 (.mv (kI 1))] [1, 4, 10])
 (.ret [2]))))
def r_ref17_Entries : List ARes := [.t 2]
def fn_ref17_Entries : AFn := .code c_ref17_Entries r_ref17_Entries 17 true
def l_ref30_step_0 : ACode :=
 (.seq (.seq (.ops [] [oM 57 11, oP 58 (.fad false 14 1 (.t 8)), oP 59 (.ld false 1 (.t 58)), oP 60 (.len (.t 59)), oP 61 (.bin .lss (.t 57) (.t 60))] [57, 58, 59, 60])
 (.cond (.t 61) .skip (.exit 0 [2, 4])))
 (.seq (.block 1 (.draw [] [oP 64 (.fad false 22 1 (.t 2)), oP 65 (.ld false 1 (.t 64)), oP 66 (.app 1 (.c (.xsl [])) (.t 65)), oP 67 (.fad false 14 1 (.t 8)), oP 68 (.ld false 1 (.t 67)), oM 69 11, oP 70 (.iad 7 (.t 68) (.t 69)), oP 71 (.fad false 2 1 (.t 70)), oP 72 (.ld false 1 (.t 71)), oP 73 (.app 1 (.t 66) (.t 72)), oP 74 (.fad false 22 1 (.t 2)), oN (.st 1 (.t 74) (.t 73))] [[], [], [], [0, 1, 2], [0, 1, 2], [0, 1, 2, 3, 4], [0, 1, 2], [0, 1, 2], [0, 1, 2], [], [], []] [61, 64, 65, 66, 67, 68, 69, 70, 71, 72, 73, 74]))
 (.ops [] [oM 62 11, oP 63 (.bin .add (.t 62) (kI 1)), oM 11 63] [62, 63])))
def c_ref30_step : ACode :=
 (.seq (.ops [] [oP 2 (.box (.t 0)), oP 4 (.alloc (.agg [aI 0, aI 0, aI 0, aI 0, aI 0, aI 0, aI 0, aI 0, .xsl [], .xsl [], aI 0, aI 0, .xsl [], aI 0, .xsl [], .xsl [], aI 0, aI 0, aI 0, .xsl [], .xsl [], aI 0, .xsl []])), oP 5 (.mv (kI 0))] [0, 5])
 (.seq (.ops [] [oP 12 (.fad false 19 1 (.t 2)), oP 13 (.ld false 1 (.t 12)), oM 14 1, oP 15 (.iad 63 (.t 13) (.t 14)), oP 16 (.ld true 63 (.t 15)), oP 6 (.alloc (.agg [aI 0, aI 0, aI 0, aI 0, aI 0, aI 0, aI 0, .xsl [], .xsl [], aI 0, .d (.bool false), aI 0, aI 0, aI 0, .xsl [], aI 0, aI 0, aI 0, aI 0, aI 0, aI 0, aI 0, aI 0, aI 0, aI 0, .xsl [], aI 0, aI 0, aI 0, aI 0, aI 0, aI 0, aI 0, aI 0, .xsl [], aI 0, .xsl [], .xsl [], aI 0, .xsl [], .xsl [], .xsl [], aI 0, .xsl [], .xsl [], .xsl [], .xsl [], aI 0, .xsl [], aI 0, .xsl [], .xsl [], aI 0, aI 0, aI 0, aI 0, aI 0, aI 0, aI 0, aI 0, aI 0, .xsl [], .xsl []])), oN (.st 63 (.t 6) (.t 16))] [12, 13, 14, 15, 16])
 (.seq (.ops [] [oP 18 (.fad true 8 11 (.t 2)), oP 19 (.ld true 11 (.t 18)), oP 20 (.ld true 63 (.t 6)), oP 21 (.fad false 21 1 (.t 2)), oP 22 (.ld false 1 (.t 21)), oP 23 (.bin .add (.t 22) (kI 1)), oP 24 (.call N_ref29_Step [false, false, false, true] [.t 19, .t 20, .t 23]), oM 17 24, oP 25 (.ext (.t 17) 0), oP 26 (.ext (.t 17) 1), oP 27 (.ext (.t 17) 2), oP 28 (.ext (.t 17) 3), oP 7 (.alloc (.agg [.xsl [], .xsl [], aI 0, aI 0, .xsl [], aI 0, .xsl [], .xsl [], aI 0, aI 0, aI 0])), oP 8 (.alloc (.agg [aI 0, aI 0, aI 0, aI 0, aI 0, aI 0, aI 0, .xsl [], .xsl [], aI 0, .d (.bool false), aI 0, aI 0, aI 0, .xsl [], aI 0, aI 0, aI 0, aI 0, aI 0, aI 0, aI 0, aI 0, aI 0, aI 0, .xsl [], aI 0, aI 0, aI 0, aI 0, aI 0, aI 0, aI 0, aI 0, .xsl [], aI 0, .xsl [], .xsl [], aI 0, .xsl [], .xsl [], .xsl [], aI 0, .xsl [], .xsl [], .xsl [], .xsl [], aI 0, .xsl [], aI 0, .xsl [], .xsl [], aI 0, aI 0, aI 0, aI 0, aI 0, aI 0, aI 0, aI 0, aI 0, .xsl [], .xsl []])), oN (.st 11 (.t 7) (.t 25)), oN (.st 63 (.t 8) (.t 26)), oM 9 27, oM 10 28] [17, 18, 19, 20, 21, 22, 23, 24, 25, 26, 27, 28])
 (.seq (.seq (.ops [] [oM 29 10, oP 30 (.bin .neq (.t 29) (kI 0))] [29])
 (.cond (.t 30) (.seq (.ops [] [oP 31 (.build [aI 0, aI 0, aI 0, aI 0, aI 0, aI 0, aI 0, aI 0, .xsl [], .xsl [], aI 0, aI 0, .xsl [], aI 0, .xsl [], .xsl [], aI 0, aI 0, aI 0, .xsl [], .xsl [], aI 0, .xsl []] []), oM 32 10, oN (.st 23 (.t 4) (.t 31)), oM 5 32] [1, 2, 6, 7, 8, 9, 10, 30, 31, 32])
 (.ret [4, 5])) .skip))
 (.seq (.ops [] [oP 33 (.fad false 21 1 (.t 2)), oP 34 (.ld false 1 (.t 33)), oP 35 (.bin .add (.t 34) (kI 1)), oP 36 (.fad false 21 1 (.t 2)), oN (.st 1 (.t 36) (.t 35))] [10, 30, 33, 34, 35, 36])
 (.seq (.ops [] [oP 37 (.ld true 11 (.t 7)), oP 38 (.fad true 8 11 (.t 2)), oN (.st 11 (.t 38) (.t 37))] [7, 37, 38])
 (.seq (.ops [] [oP 39 (.fad false 19 1 (.t 2)), oP 40 (.ld false 1 (.t 39)), oP 41 (.app 63 (.c (.xsl [])) (.t 40)), oP 42 (.fad false 19 1 (.t 2)), oN (.st 1 (.t 42) (.t 41))] [39, 40, 41, 42])
 (.seq (.ops [82] [oP 43 (.fad false 19 1 (.t 2)), oP 44 (.ld false 1 (.t 43)), oM 45 1, oP 46 (.ld true 63 (.t 8)), oP 47 (.iad 63 (.t 44) (.t 45)), oN (.st 63 (.t 47) (.t 46))] [1, 43, 44, 45, 46, 47])
 (.seq (.ops [] [oP 48 (.fad false 20 1 (.t 2)), oP 49 (.ld false 1 (.t 48)), oP 50 (.app 10 (.c (.xsl [])) (.t 49)), oM 51 9, oP 52 (.app 10 (.t 50) (.t 51)), oP 53 (.fad false 20 1 (.t 2)), oN (.st 1 (.t 53) (.t 52))] [9, 48, 49, 50, 51, 52, 53])
 (.seq (.seq (.ops [] [oP 54 (.fad false 14 1 (.t 6)), oP 55 (.ld false 1 (.t 54)), oP 56 (.len (.t 55)), oM 11 56] [6, 54, 55, 56])
 (.block 0 (.loop [] l_ref30_step_0)))
 (.seq (.ops [] [oP 75 (.ld true 23 (.t 2)), oN (.st 23 (.t 4) (.t 75)), oP 5 (.mv (kI 0))] [2, 8, 11, 61, 75])
 (.ret [4, 5]))))))))))))
def r_ref30_step : List ARes := [.c 4 true 23, .t 5]
def fn_ref30_step : AFn := .code c_ref30_step r_ref30_step 76 true
def c_ref29_Step : ACode :=
 (.seq (.ops [] [oP 3 (.box (.t 0)), oP 4 (.box (.t 1)), oP 6 (.alloc (.agg [.xsl [], .xsl [], aI 0, aI 0, .xsl [], aI 0, .xsl [], .xsl [], aI 0, aI 0, aI 0])), oP 7 (.alloc (.agg [aI 0, aI 0, aI 0, aI 0, aI 0, aI 0, aI 0, .xsl [], .xsl [], aI 0, .d (.bool false), aI 0, aI 0, aI 0, .xsl [], aI 0, aI 0, aI 0, aI 0, aI 0, aI 0, aI 0, aI 0, aI 0, aI 0, .xsl [], aI 0, aI 0, aI 0, aI 0, aI 0, aI 0, aI 0, aI 0, .xsl [], aI 0, .xsl [], .xsl [], aI 0, .xsl [], .xsl [], .xsl [], aI 0, .xsl [], .xsl [], .xsl [], .xsl [], aI 0, .xsl [], aI 0, .xsl [], .xsl [], aI 0, aI 0, aI 0, aI 0, aI 0, aI 0, aI 0, aI 0, aI 0, .xsl [], .xsl []])), oP 8 (.mv (.c (.xsl []))), oP 9 (.mv (kI 0))] [0, 1, 8, 9])
 (.seq (.seq (.ops [] [oP 10 (.fad false 10 1 (.t 4)), oP 11 (.ld false 1 (.t 10))] [10])
 (.cond (.t 11) (.seq (.ops [] [oP 12 (.call N_ref18_Fail [false, true] [kI 7]), oP 13 (.ext (.t 12) 0), oP 14 (.ext (.t 12) 1), oP 15 (.ext (.t 12) 2), oP 16 (.ext (.t 12) 3), oN (.st 11 (.t 6) (.t 13)), oN (.st 63 (.t 7) (.t 14)), oM 8 15, oM 9 16] [2, 3, 4, 11, 12, 13, 14, 15, 16])
 (.ret [6, 7, 8, 9])) .skip))
 (.seq (.seq (.ops [] [oP 17 (.fad true 1 8 (.t 4)), oP 18 (.fad false 0 1 (.t 17)), oP 19 (.ld false 1 (.t 18))] [11, 17, 18])
 (.block 0 (.seq (.ops [] [oP 21 (.bin .eql (.t 19) (kI 1)), oM 20 21] [21])
 (.cond (.t 20) (.seq (.ops [] [oP 22 (.ld true 11 (.t 3)), oP 23 (.ld true 63 (.t 4)), oM 24 2, oP 25 (.call N_ref18_Step [false, false, false, true] [.t 22, .t 23, .t 24]), oP 26 (.ext (.t 25) 0), oP 27 (.ext (.t 25) 1), oP 28 (.ext (.t 25) 2), oP 29 (.ext (.t 25) 3), oN (.st 11 (.t 6) (.t 26)), oN (.st 63 (.t 7) (.t 27)), oM 8 28, oM 9 29] [2, 3, 4, 19, 20, 22, 23, 24, 25, 26, 27, 28, 29])
 (.ret [6, 7, 8, 9])) (.seq (.ops [] [oP 31 (.bin .eql (.t 19) (kI 2)), oM 30 31] [20, 31])
 (.cond (.t 30) (.seq (.ops [] [oP 32 (.ld true 11 (.t 3)), oP 33 (.ld true 63 (.t 4)), oM 34 2, oP 35 (.call N_ref19_Step [false, false, false, true] [.t 32, .t 33, .t 34]), oP 36 (.ext (.t 35) 0), oP 37 (.ext (.t 35) 1), oP 38 (.ext (.t 35) 2), oP 39 (.ext (.t 35) 3), oN (.st 11 (.t 6) (.t 36)), oN (.st 63 (.t 7) (.t 37)), oM 8 38, oM 9 39] [2, 3, 4, 19, 30, 32, 33, 34, 35, 36, 37, 38, 39])
 (.ret [6, 7, 8, 9])) (.seq (.seq (.ops [] [oP 41 (.bin .eql (.t 19) (kI 3)), oM 40 41] [30, 41])
 (.cond (.t 40) .skip (.seq (.ops [] [oP 42 (.bin .eql (.t 19) (kI 4)), oM 40 42] [42])
 (.cond (.t 40) .skip (.ops [] [oP 43 (.bin .eql (.t 19) (kI 5)), oM 40 43] [43])))))
 (.cond (.t 40) (.seq (.ops [] [oP 44 (.ld true 11 (.t 3)), oP 45 (.ld true 63 (.t 4)), oM 46 2, oP 47 (.call N_ref20_Step [false, false, false, true] [.t 44, .t 45, .t 46]), oP 48 (.ext (.t 47) 0), oP 49 (.ext (.t 47) 1), oP 50 (.ext (.t 47) 2), oP 51 (.ext (.t 47) 3), oN (.st 11 (.t 6) (.t 48)), oN (.st 63 (.t 7) (.t 49)), oM 8 50, oM 9 51] [2, 3, 4, 19, 40, 44, 45, 46, 47, 48, 49, 50, 51])
 (.ret [6, 7, 8, 9])) (.seq (.ops [] [oP 53 (.bin .eql (.t 19) (kI 6)), oM 52 53] [40, 53])
 (.cond (.t 52) (.seq (.ops [] [oP 54 (.ld true 11 (.t 3)), oP 55 (.ld true 63 (.t 4)), oM 56 2, oP 57 (.call N_ref21_Step [false, false, false, true] [.t 54, .t 55, .t 56]), oP 58 (.ext (.t 57) 0), oP 59 (.ext (.t 57) 1), oP 60 (.ext (.t 57) 2), oP 61 (.ext (.t 57) 3), oN (.st 11 (.t 6) (.t 58)), oN (.st 63 (.t 7) (.t 59)), oM 8 60, oM 9 61] [2, 3, 4, 19, 52, 54, 55, 56, 57, 58, 59, 60, 61])
 (.ret [6, 7, 8, 9])) (.seq (.ops [] [oP 63 (.bin .eql (.t 19) (kI 7)), oM 62 63] [52, 63])
 (.cond (.t 62) (.seq (.ops [] [oP 64 (.ld true 11 (.t 3)), oP 65 (.ld true 63 (.t 4)), oM 66 2, oP 67 (.call N_ref22_Step [false, false, false, true] [.t 64, .t 65, .t 66]), oP 68 (.ext (.t 67) 0), oP 69 (.ext (.t 67) 1), oP 70 (.ext (.t 67) 2), oP 71 (.ext (.t 67) 3), oN (.st 11 (.t 6) (.t 68)), oN (.st 63 (.t 7) (.t 69)), oM 8 70, oM 9 71] [2, 3, 4, 19, 62, 64, 65, 66, 67, 68, 69, 70, 71])
 (.ret [6, 7, 8, 9])) (.seq (.ops [] [oP 73 (.bin .eql (.t 19) (kI 8)), oM 72 73] [62, 73])
 (.cond (.t 72) (.seq (.ops [] [oP 74 (.ld true 11 (.t 3)), oP 75 (.ld true 63 (.t 4)), oM 76 2, oP 77 (.call N_ref23_Step [false, false, false, true] [.t 74, .t 75, .t 76]), oP 78 (.ext (.t 77) 0), oP 79 (.ext (.t 77) 1), oP 80 (.ext (.t 77) 2), oP 81 (.ext (.t 77) 3), oN (.st 11 (.t 6) (.t 78)), oN (.st 63 (.t 7) (.t 79)), oM 8 80, oM 9 81] [2, 3, 4, 19, 72, 74, 75, 76, 77, 78, 79, 80, 81])
 (.ret [6, 7, 8, 9])) (.seq (.ops [] [oP 83 (.bin .eql (.t 19) (kI 9)), oM 82 83] [72, 83])
 (.cond (.t 82) (.seq (.ops [] [oP 84 (.ld true 11 (.t 3)), oP 85 (.ld true 63 (.t 4)), oM 86 2, oP 87 (.call N_ref24_Step [false, false, false, true] [.t 84, .t 85, .t 86]), oP 88 (.ext (.t 87) 0), oP 89 (.ext (.t 87) 1), oP 90 (.ext (.t 87) 2), oP 91 (.ext (.t 87) 3), oN (.st 11 (.t 6) (.t 88)), oN (.st 63 (.t 7) (.t 89)), oM 8 90, oM 9 91] [2, 3, 4, 19, 82, 84, 85, 86, 87, 88, 89, 90, 91])
 (.ret [6, 7, 8, 9])) (.seq (.ops [] [oP 93 (.bin .eql (.t 19) (kI 10)), oM 92 93] [82, 93])
 (.cond (.t 92) (.seq (.ops [] [oP 94 (.ld true 11 (.t 3)), oP 95 (.ld true 63 (.t 4)), oM 96 2, oP 97 (.call N_ref25_Step [false, false, false, true] [.t 94, .t 95, .t 96]), oP 98 (.ext (.t 97) 0), oP 99 (.ext (.t 97) 1), oP 100 (.ext (.t 97) 2), oP 101 (.ext (.t 97) 3), oN (.st 11 (.t 6) (.t 98)), oN (.st 63 (.t 7) (.t 99)), oM 8 100, oM 9 101] [2, 3, 4, 19, 92, 94, 95, 96, 97, 98, 99, 100, 101])
 (.ret [6, 7, 8, 9])) (.seq (.ops [] [oP 103 (.bin .eql (.t 19) (kI 11)), oM 102 103] [92, 103])
 (.cond (.t 102) (.seq (.ops [] [oP 104 (.ld true 11 (.t 3)), oP 105 (.ld true 63 (.t 4)), oM 106 2, oP 107 (.call N_ref26_Step [false, false, false, true] [.t 104, .t 105, .t 106]), oP 108 (.ext (.t 107) 0), oP 109 (.ext (.t 107) 1), oP 110 (.ext (.t 107) 2), oP 111 (.ext (.t 107) 3), oN (.st 11 (.t 6) (.t 108)), oN (.st 63 (.t 7) (.t 109)), oM 8 110, oM 9 111] [2, 3, 4, 19, 102, 104, 105, 106, 107, 108, 109, 110, 111])
 (.ret [6, 7, 8, 9])) (.seq (.seq (.ops [] [oP 113 (.bin .eql (.t 19) (kI 12)), oM 112 113] [102, 113])
 (.cond (.t 112) .skip (.ops [] [oP 114 (.bin .eql (.t 19) (kI 13)), oM 112 114] [114])))
 (.cond (.t 112) (.seq (.ops [] [oP 115 (.ld true 11 (.t 3)), oP 116 (.ld true 63 (.t 4)), oM 117 2, oP 118 (.call N_ref27_Step [false, false, false, true] [.t 115, .t 116, .t 117]), oP 119 (.ext (.t 118) 0), oP 120 (.ext (.t 118) 1), oP 121 (.ext (.t 118) 2), oP 122 (.ext (.t 118) 3), oN (.st 11 (.t 6) (.t 119)), oN (.st 63 (.t 7) (.t 120)), oM 8 121, oM 9 122] [2, 3, 4, 19, 112, 115, 116, 117, 118, 119, 120, 121, 122])
 (.ret [6, 7, 8, 9])) (.seq (.ops [] [oP 124 (.bin .eql (.t 19) (kI 14)), oM 123 124] [19, 112, 124])
 (.cond (.t 123) (.seq (.ops [] [oP 125 (.ld true 11 (.t 3)), oP 126 (.ld true 63 (.t 4)), oM 127 2, oP 128 (.call N_ref28_Step [false, false, false, true] [.t 125, .t 126, .t 127]), oP 129 (.ext (.t 128) 0), oP 130 (.ext (.t 128) 1), oP 131 (.ext (.t 128) 2), oP 132 (.ext (.t 128) 3), oN (.st 11 (.t 6) (.t 129)), oN (.st 63 (.t 7) (.t 130)), oM 8 131, oM 9 132] [2, 3, 4, 123, 125, 126, 127, 128, 129, 130, 131, 132])
 (.ret [6, 7, 8, 9])) .skip))))))))))))))))))))))))
 (.seq (.ops [] [oP 133 (.call N_ref18_Fail [false, true] [kI 9]), oP 134 (.ext (.t 133) 0), oP 135 (.ext (.t 133) 1), oP 136 (.ext (.t 133) 2), oP 137 (.ext (.t 133) 3), oN (.st 11 (.t 6) (.t 134)), oN (.st 63 (.t 7) (.t 135)), oM 8 136, oM 9 137] [2, 3, 4, 123, 133, 134, 135, 136, 137])
 (.ret [6, 7, 8, 9])))))
def r_ref29_Step : List ARes := [.c 6 true 11, .c 7 true 63, .t 8, .t 9]
def fn_ref29_Step : AFn := .code c_ref29_Step r_ref29_Step 138 true
def c_ref18_Fail : ACode :=
 (.seq (.ops [] [oP 2 (.alloc (.agg [.xsl [], .xsl [], aI 0, aI 0, .xsl [], aI 0, .xsl [], .xsl [], aI 0, aI 0, aI 0])), oP 3 (.alloc (.agg [aI 0, aI 0, aI 0, aI 0, aI 0, aI 0, aI 0, .xsl [], .xsl [], aI 0, .d (.bool false), aI 0, aI 0, aI 0, .xsl [], aI 0, aI 0, aI 0, aI 0, aI 0, aI 0, aI 0, aI 0, aI 0, aI 0, .xsl [], aI 0, aI 0, aI 0, aI 0, aI 0, aI 0, aI 0, aI 0, .xsl [], aI 0, .xsl [], .xsl [], aI 0, .xsl [], .xsl [], .xsl [], aI 0, .xsl [], .xsl [], .xsl [], .xsl [], aI 0, .xsl [], aI 0, .xsl [], .xsl [], aI 0, aI 0, aI 0, aI 0, aI 0, aI 0, aI 0, aI 0, aI 0, .xsl [], .xsl []])), oP 4 (.mv (.c (.xsl []))), oP 5 (.mv (kI 0))] [4, 5])
 (.seq (.ops [] [oP 6 (.build [.xsl [], .xsl [], aI 0, aI 0, .xsl [], aI 0, .xsl [], .xsl [], aI 0, aI 0, aI 0] []), oP 7 (.build [aI 0, aI 0, aI 0, aI 0, aI 0, aI 0, aI 0, .xsl [], .xsl [], aI 0, .d (.bool false), aI 0, aI 0, aI 0, .xsl [], aI 0, aI 0, aI 0, aI 0, aI 0, aI 0, aI 0, aI 0, aI 0, aI 0, .xsl [], aI 0, aI 0, aI 0, aI 0, aI 0, aI 0, aI 0, aI 0, .xsl [], aI 0, .xsl [], .xsl [], aI 0, .xsl [], .xsl [], .xsl [], aI 0, .xsl [], .xsl [], .xsl [], .xsl [], aI 0, .xsl [], aI 0, .xsl [], .xsl [], aI 0, aI 0, aI 0, aI 0, aI 0, aI 0, aI 0, aI 0, aI 0, .xsl [], .xsl []] []), oM 8 0, oN (.st 11 (.t 2) (.t 6)), oN (.st 63 (.t 3) (.t 7)), oP 4 (.mv (.c (.xsl []))), oM 5 8] [0, 6, 7, 8])
 (.ret [2, 3, 4, 5])))
def r_ref18_Fail : List ARes := [.c 2 true 11, .c 3 true 63, .t 4, .t 5]
def fn_ref18_Fail : AFn := .code c_ref18_Fail r_ref18_Fail 9 true
def c_ref18_Step : ACode :=
 (.seq (.ops [] [oP 3 (.box (.t 0)), oP 4 (.box (.t 1)), oP 6 (.alloc (.agg [.xsl [], .xsl [], aI 0, aI 0, .xsl [], aI 0, .xsl [], .xsl [], aI 0, aI 0, aI 0])), oP 7 (.alloc (.agg [aI 0, aI 0, aI 0, aI 0, aI 0, aI 0, aI 0, .xsl [], .xsl [], aI 0, .d (.bool false), aI 0, aI 0, aI 0, .xsl [], aI 0, aI 0, aI 0, aI 0, aI 0, aI 0, aI 0, aI 0, aI 0, aI 0, .xsl [], aI 0, aI 0, aI 0, aI 0, aI 0, aI 0, aI 0, aI 0, .xsl [], aI 0, .xsl [], .xsl [], aI 0, .xsl [], .xsl [], .xsl [], aI 0, .xsl [], .xsl [], .xsl [], .xsl [], aI 0, .xsl [], aI 0, .xsl [], .xsl [], aI 0, aI 0, aI 0, aI 0, aI 0, aI 0, aI 0, aI 0, aI 0, .xsl [], .xsl []])), oP 8 (.mv (.c (.xsl []))), oP 9 (.mv (kI 0))] [0, 1, 8, 9])
 (.seq (.seq (.ops [] [oP 21 (.ld true 63 (.t 4)), oP 22 (.call N_ref18_Guard [] [.t 21, kI 1, kI 1]), oM 10 22] [21, 22])
 (.seq (.ops [] [oM 23 10, oP 24 (.bin .neq (.t 23) (kI 0))] [23])
 (.cond (.t 24) (.seq (.ops [] [oM 25 10, oP 26 (.call N_ref18_Fail [false, true] [.t 25]), oP 27 (.ext (.t 26) 0), oP 28 (.ext (.t 26) 1), oP 29 (.ext (.t 26) 2), oP 30 (.ext (.t 26) 3), oN (.st 11 (.t 6) (.t 27)), oN (.st 63 (.t 7) (.t 28)), oM 8 29, oM 9 30] [2, 3, 4, 10, 24, 25, 26, 27, 28, 29, 30])
 (.ret [6, 7, 8, 9])) .skip)))
 (.seq (.seq (.ops [] [oP 31 (.fad false 12 1 (.t 4)), oP 32 (.ld false 1 (.t 31))] [10, 24, 31])
 (.block 0 (.seq (.ops [] [oP 34 (.bin .eql (.t 32) (kI 0)), oM 33 34] [34])
 (.cond (.t 33) (.seq (.ops [] [oP 36 (.ld true 11 (.t 3)), oP 37 (.call N_ref12_Load [] [.t 36, kI 3]), oM 35 37, oP 38 (.ext (.t 35) 0), oP 39 (.ext (.t 35) 1), oP 40 (.fad false 60 1 (.t 4)), oN (.st 1 (.t 40) (.t 38))] [32, 33, 35, 36, 37, 38, 39, 40])
 (.seq (.seq (.ops [] [oP 41 (.fad false 60 1 (.t 4)), oP 42 (.ld false 1 (.t 41)), oP 43 (.bin .eql (.t 42) (kI 1073741824))] [41, 42])
 (.cond (.t 43) (.seq (.ops [] [oP 44 (.ld true 63 (.t 4)), oM 45 2, oP 46 (.call N_ref18_Event [false, false, false, true] [.t 44, kI 2, .t 45]), oP 11 (.alloc (.agg [aI 0, aI 0, aI 0, aI 0, aI 0, aI 0, aI 0, .xsl [], aI 0, aI 0])), oN (.st 10 (.t 11) (.t 46))] [43, 44, 45, 46])
 (.seq (.ops [] [oP 47 (.fad false 6 1 (.t 11)), oN (.st 1 (.t 47) (kI 6))] [47])
 (.seq (.draw [] [oP 48 (.ld true 11 (.t 3)), oP 49 (.ld true 63 (.t 4)), oP 50 (.build [aI 0, aI 0, .xsl [], .xsl [], aI 0, aI 0, aI 0] [(0, (1, kI 6))]), oM 51 2, oP 52 (.call N_ref17_Next [false, false, false, true] [.t 49, .t 50, .t 51]), oP 53 (.ld true 10 (.t 11)), oP 54 (.bsl 1 10 (.agg [aI 0, aI 0, aI 0, aI 0, aI 0, aI 0, aI 0, .xsl [], aI 0, aI 0]) [(0, .t 53)]), oN (.st 11 (.t 6) (.t 48)), oN (.st 63 (.t 7) (.t 52)), oM 8 54, oP 9 (.mv (kI 0))] [[], [0], [0, 1], [0, 1, 2], [0], [0, 1, 2, 3, 4], [0, 1, 2, 3, 4], [5, 6], [5, 6], [], []] [2, 3, 4, 11, 48, 49, 50, 51, 52, 53, 54])
 (.ret [6, 7, 8, 9])))) .skip))
 (.seq (.ops [] [oP 55 (.fad false 12 1 (.t 4)), oN (.st 1 (.t 55) (kI 1))] [2, 43, 55])
 (.seq (.draw [] [oP 56 (.ld true 11 (.t 3)), oP 57 (.ld true 63 (.t 4)), oN (.st 11 (.t 6) (.t 56)), oN (.st 63 (.t 7) (.t 57)), oP 8 (.mv (.c (.xsl []))), oP 9 (.mv (kI 0))] [[], [0], [1], [], [], []] [3, 4, 56, 57])
 (.ret [6, 7, 8, 9]))))) (.seq (.ops [] [oP 59 (.bin .eql (.t 32) (kI 1)), oM 58 59] [33, 59])
 (.cond (.t 58) (.seq (.ops [] [oP 61 (.ld true 11 (.t 3)), oP 62 (.fad false 60 1 (.t 4)), oP 63 (.ld false 1 (.t 62)), oP 64 (.fad false 60 1 (.t 4)), oP 65 (.ld false 1 (.t 64)), oP 66 (.bin .add (.t 65) (kI 1)), oP 67 (.call N_ref12_CAS [false, false, false, false, true] [.t 61, kI 3, .t 63, .t 66]), oM 60 67, oP 68 (.ext (.t 60) 0), oP 69 (.ext (.t 60) 1), oP 70 (.ext (.t 60) 2), oP 12 (.alloc (.agg [.xsl [], .xsl [], aI 0, aI 0, .xsl [], aI 0, .xsl [], .xsl [], aI 0, aI 0, aI 0])), oN (.st 11 (.t 12) (.t 68)), oM 13 69, oM 14 70] [2, 3, 32, 58, 60, 61, 62, 63, 64, 65, 66, 67, 68, 69, 70])
 (.seq (.seq (.ops [] [oM 71 14, oP 72 (.bin .neq (.t 71) (kI 0))] [71])
 (.cond (.t 72) (.seq (.ops [] [oM 73 14, oP 74 (.call N_ref18_Fail [false, true] [.t 73]), oP 75 (.ext (.t 74) 0), oP 76 (.ext (.t 74) 1), oP 77 (.ext (.t 74) 2), oP 78 (.ext (.t 74) 3), oN (.st 11 (.t 6) (.t 75)), oN (.st 63 (.t 7) (.t 76)), oM 8 77, oM 9 78] [4, 12, 13, 14, 72, 73, 74, 75, 76, 77, 78])
 (.ret [6, 7, 8, 9])) .skip))
 (.seq (.ops [] [oP 79 (.fad false 12 1 (.t 4)), oN (.st 1 (.t 79) (kI 0))] [14, 72, 79])
 (.seq (.seq (.ops [] [oM 80 13] [13])
 (.cond (.t 80) (.seq (.ops [] [oP 81 (.fad false 60 1 (.t 4)), oP 82 (.ld false 1 (.t 81)), oP 83 (.fad false 55 1 (.t 4)), oN (.st 1 (.t 83) (.t 82)), oP 84 (.fad false 12 1 (.t 4)), oN (.st 1 (.t 84) (kI 2))] [80, 81, 82, 83, 84])
 (.ops [] [oP 86 (.fad false 55 1 (.t 4)), oP 87 (.ld false 1 (.t 86)), oP 88 (.call N_ref02_Route [] [.t 87]), oP 89 (.call N_ref16_Begin [] [.t 88]), oM 85 89, oP 90 (.ext (.t 85) 0), oP 91 (.ext (.t 85) 1), oP 92 (.fad true 52 2 (.t 4)), oN (.st 2 (.t 92) (.t 90))] [85, 86, 87, 88, 89, 90, 91, 92])) .skip))
 (.seq (.draw [] [oP 93 (.ld true 11 (.t 12)), oP 94 (.ld true 63 (.t 4)), oN (.st 11 (.t 6) (.t 93)), oN (.st 63 (.t 7) (.t 94)), oP 8 (.mv (.c (.xsl []))), oP 9 (.mv (kI 0))] [[], [0], [1], [], [], []] [4, 12, 80, 93, 94])
 (.ret [6, 7, 8, 9])))))) (.seq (.ops [] [oP 96 (.bin .eql (.t 32) (kI 2)), oM 95 96] [32, 58, 96])
 (.cond (.t 95) (.seq (.draw [] [oP 97 (.ld true 11 (.t 3)), oP 98 (.ld true 11 (.t 3)), oP 99 (.ld true 63 (.t 4)), oP 100 (.fad true 52 2 (.t 4)), oP 101 (.fad false 0 1 (.t 100)), oP 102 (.ld false 1 (.t 101)), oP 103 (.call N_ref18_Look [false, false, false, false, true] [.t 98, .t 99, .t 102, kI 3]), oN (.st 11 (.t 6) (.t 97)), oN (.st 63 (.t 7) (.t 103)), oP 8 (.mv (.c (.xsl []))), oP 9 (.mv (kI 0))] [[], [0], [0, 1], [0, 1, 2], [0, 1, 2], [0, 1, 2], [0], [], [], [], []] [2, 3, 4, 95, 97, 98, 99, 100, 101, 102, 103])
 (.ret [6, 7, 8, 9])) .skip))))))))
 (.seq (.ops [] [oP 105 (.ld true 11 (.t 3)), oP 106 (.ld true 63 (.t 4)), oM 107 2, oP 108 (.call N_ref18_Go [false, false, false, true] [.t 105, .t 106, .t 107]), oM 104 108, oP 109 (.ext (.t 104) 0), oP 110 (.ext (.t 104) 1), oP 111 (.ext (.t 104) 2), oP 112 (.ext (.t 104) 3), oP 113 (.ext (.t 104) 4), oP 15 (.alloc (.agg [.xsl [], .xsl [], aI 0, aI 0, .xsl [], aI 0, .xsl [], .xsl [], aI 0, aI 0, aI 0])), oN (.st 11 (.t 15) (.t 109)), oN (.st 63 (.t 4) (.t 110)), oM 16 111, oM 17 112, oM 18 113] [3, 95, 104, 105, 106, 107, 108, 109, 110, 111, 112, 113])
 (.seq (.seq (.ops [] [oM 114 18, oP 115 (.bin .neq (.t 114) (kI 0))] [114])
 (.cond (.t 115) (.seq (.ops [] [oM 116 18, oP 117 (.call N_ref18_Fail [false, true] [.t 116]), oP 118 (.ext (.t 117) 0), oP 119 (.ext (.t 117) 1), oP 120 (.ext (.t 117) 2), oP 121 (.ext (.t 117) 3), oN (.st 11 (.t 6) (.t 118)), oN (.st 63 (.t 7) (.t 119)), oM 8 120, oM 9 121] [2, 4, 15, 16, 17, 18, 115, 116, 117, 118, 119, 120, 121])
 (.ret [6, 7, 8, 9])) .skip))
 (.seq (.seq (.ops [] [oM 122 16] [16, 18, 115])
 (.cond (.t 122) (.seq (.ops [] [oP 124 (.ld true 63 (.t 4)), oP 125 (.call N_ref18_decide [false, true] [.t 124]), oM 123 125, oP 126 (.ext (.t 123) 0), oP 127 (.ext (.t 123) 1), oP 19 (.alloc (.agg [aI 0, aI 0, aI 0, aI 0, aI 0, aI 0, aI 0, .xsl [], .xsl [], aI 0, .d (.bool false), aI 0, aI 0, aI 0, .xsl [], aI 0, aI 0, aI 0, aI 0, aI 0, aI 0, aI 0, aI 0, aI 0, aI 0, .xsl [], aI 0, aI 0, aI 0, aI 0, aI 0, aI 0, aI 0, aI 0, .xsl [], aI 0, .xsl [], .xsl [], aI 0, .xsl [], .xsl [], .xsl [], aI 0, .xsl [], .xsl [], .xsl [], .xsl [], aI 0, .xsl [], aI 0, .xsl [], .xsl [], aI 0, aI 0, aI 0, aI 0, aI 0, aI 0, aI 0, aI 0, aI 0, .xsl [], .xsl []])), oN (.st 63 (.t 19) (.t 126)), oM 20 127] [2, 4, 17, 122, 123, 124, 125, 126, 127])
 (.seq (.draw [] [oP 128 (.ld true 11 (.t 15)), oP 129 (.ld true 63 (.t 19)), oM 130 20, oN (.st 11 (.t 6) (.t 128)), oN (.st 63 (.t 7) (.t 129)), oM 8 130, oP 9 (.mv (kI 0))] [[], [0], [0, 1], [1, 2], [2], [], []] [15, 19, 20, 128, 129, 130])
 (.ret [6, 7, 8, 9]))) .skip))
 (.seq (.seq (.ops [] [oM 131 17, oP 132 (.un .not (.t 131))] [17, 122, 131])
 (.cond (.t 132) (.seq (.draw [] [oP 133 (.ld true 11 (.t 15)), oP 134 (.ld true 63 (.t 4)), oN (.st 11 (.t 6) (.t 133)), oN (.st 63 (.t 7) (.t 134)), oP 8 (.mv (.c (.xsl []))), oP 9 (.mv (kI 0))] [[], [0], [1], [], [], []] [2, 4, 15, 132, 133, 134])
 (.ret [6, 7, 8, 9])) .skip))
 (.seq (.seq (.ops [] [oP 135 (.fad false 60 1 (.t 4)), oP 136 (.ld false 1 (.t 135))] [132, 135])
 (.block 1 (.seq (.ops [] [oP 138 (.bin .eql (.t 136) (kI 1)), oM 137 138] [138])
 (.cond (.t 137) (.seq (.draw [] [oP 139 (.ld true 11 (.t 15)), oP 140 (.ld true 63 (.t 4)), oP 141 (.fad false 55 1 (.t 4)), oP 142 (.ld false 1 (.t 141)), oP 143 (.build [aI 0, aI 0, .xsl [], .xsl [], aI 0, aI 0, aI 0] [(1, (1, .t 142))]), oM 144 2, oP 145 (.call N_ref17_Next [false, false, false, true] [.t 140, .t 143, .t 144]), oN (.st 11 (.t 6) (.t 139)), oN (.st 63 (.t 7) (.t 145)), oP 8 (.mv (.c (.xsl []))), oP 9 (.mv (kI 0))] [[], [0], [0, 1], [0, 1], [0, 1], [0, 1, 2, 3, 4], [0], [], [], [], []] [2, 4, 15, 136, 137, 139, 140, 141, 142, 143, 144, 145])
 (.ret [6, 7, 8, 9])) (.seq (.ops [] [oP 147 (.bin .eql (.t 136) (kI 2)), oM 146 147] [136, 137, 147])
 (.cond (.t 146) (.seq (.draw [] [oP 148 (.ld true 11 (.t 15)), oP 149 (.ld true 63 (.t 4)), oP 150 (.build [aI 0, aI 0, .xsl [], .xsl [], aI 0, aI 0, aI 0] [(0, (1, kI 3))]), oM 151 2, oP 152 (.call N_ref17_Next [false, false, false, true] [.t 149, .t 150, .t 151]), oN (.st 11 (.t 6) (.t 148)), oN (.st 63 (.t 7) (.t 152)), oP 8 (.mv (.c (.xsl []))), oP 9 (.mv (kI 0))] [[], [0], [0, 1], [0, 1, 2], [0], [], [], [], []] [2, 4, 15, 146, 148, 149, 150, 151, 152])
 (.ret [6, 7, 8, 9])) .skip))))))
 (.seq (.ops [] [oP 153 (.fad false 12 1 (.t 4)), oN (.st 1 (.t 153) (kI 2))] [2, 146, 153])
 (.seq (.draw [] [oP 154 (.ld true 11 (.t 15)), oP 155 (.ld true 63 (.t 4)), oN (.st 11 (.t 6) (.t 154)), oN (.st 63 (.t 7) (.t 155)), oP 8 (.mv (.c (.xsl []))), oP 9 (.mv (kI 0))] [[], [0], [1], [], [], []] [4, 15, 154, 155])
 (.ret [6, 7, 8, 9])))))))))))
def r_ref18_Step : List ARes := [.c 6 true 11, .c 7 true 63, .t 8, .t 9]
def fn_ref18_Step : AFn := .code c_ref18_Step r_ref18_Step 156 true
def c_ref18_Guard : ACode :=
 (.seq (.ops [] [oP 3 (.box (.t 0)), oP 6 (.mv (kI 0))] [0, 6])
 (.seq (.seq (.ops [] [oP 7 (.fad false 10 1 (.t 3)), oP 8 (.ld false 1 (.t 7))] [7])
 (.cond (.t 8) (.seq (.ops [] [oP 6 (.mv (kI 7))] [1, 2, 3, 8])
 (.ret [6])) .skip))
 (.seq (.seq (.ops [] [oP 9 (.fad true 1 8 (.t 3)), oP 10 (.fad false 0 1 (.t 9)), oP 11 (.ld false 1 (.t 10)), oM 12 1, oP 13 (.bin .lss (.t 11) (.t 12)), oM 14 13, oQ 15 (.fad true 1 8 (.t 3)) 14 false, oQ 16 (.fad false 0 1 (.t 15)) 14 false, oQ 17 (.ld false 1 (.t 16)) 14 false, oQ 18 (.mv (.t 2)) 14 false, oQ 19 (.bin .gtr (.t 17) (.t 18)) 14 false, oP 20 (.pick (.t 14) (.c (.d (.bool true))) (.t 19))] [1, 2, 3, 8, 9, 10, 11, 12, 13, 14, 15, 16, 17, 18, 19])
 (.cond (.t 20) (.seq (.ops [] [oP 6 (.mv (kI 9))] [20])
 (.ret [6])) .skip))
 (.seq (.ops [] [oP 6 (.mv (kI 0))] [20])
 (.ret [6])))))
def r_ref18_Guard : List ARes := [.t 6]
def fn_ref18_Guard : AFn := .code c_ref18_Guard r_ref18_Guard 21 true
def c_ref12_Load : ACode :=
 (.seq (.ops [] [oP 2 (.box (.t 0)), oP 4 (.mv (kI 0)), oP 5 (.mv (kI 0))] [0, 4, 5])
 (.seq (.seq (.ops [] [oM 6 1] [1])
 (.block 0 (.seq (.ops [] [oP 8 (.bin .eql (.t 6) (kI 1)), oM 7 8] [8])
 (.cond (.t 7) (.seq (.ops [] [oP 9 (.fad false 8 1 (.t 2)), oP 10 (.ld false 1 (.t 9)), oM 4 10, oP 5 (.mv (kI 0))] [2, 6, 7, 9, 10])
 (.ret [4, 5])) (.seq (.ops [] [oP 12 (.bin .eql (.t 6) (kI 2)), oM 11 12] [7, 12])
 (.cond (.t 11) (.seq (.ops [] [oP 13 (.fad false 9 1 (.t 2)), oP 14 (.ld false 1 (.t 13)), oM 4 14, oP 5 (.mv (kI 0))] [2, 6, 11, 13, 14])
 (.ret [4, 5])) (.seq (.ops [] [oP 16 (.bin .eql (.t 6) (kI 3)), oM 15 16] [6, 11, 16])
 (.cond (.t 15) (.seq (.ops [] [oP 17 (.fad false 10 1 (.t 2)), oP 18 (.ld false 1 (.t 17)), oM 4 18, oP 5 (.mv (kI 0))] [2, 15, 17, 18])
 (.ret [4, 5])) .skip))))))))
 (.seq (.ops [] [oP 4 (.mv (kI 0)), oP 5 (.mv (kI 9))] [2, 15])
 (.ret [4, 5]))))
def r_ref12_Load : List ARes := [.t 4, .t 5]
def fn_ref12_Load : AFn := .code c_ref12_Load r_ref12_Load 19 true
def c_ref18_Event : ACode :=
 (.seq (.ops [] [oP 3 (.box (.t 0)), oP 6 (.alloc (.agg [aI 0, aI 0, aI 0, aI 0, aI 0, aI 0, aI 0, .xsl [], aI 0, aI 0]))] [0])
 (.seq (.ops [] [oM 7 2, oP 8 (.fad false 0 1 (.t 3)), oP 9 (.ld false 1 (.t 8)), oP 10 (.fad false 13 1 (.t 3)), oP 11 (.ld false 1 (.t 10)), oM 12 1, oP 13 (.build [aI 0, aI 0, aI 0, aI 0, aI 0, aI 0, aI 0, .xsl [], aI 0, aI 0] [(0, (1, .t 7)), (1, (1, .t 9)), (2, (1, .t 11)), (3, (1, .t 12))]), oN (.st 10 (.t 6) (.t 13))] [1, 2, 3, 7, 8, 9, 10, 11, 12, 13])
 (.ret [6])))
def r_ref18_Event : List ARes := [.c 6 true 10]
def fn_ref18_Event : AFn := .code c_ref18_Event r_ref18_Event 14 true
def c_ref17_Next : ACode :=
 (.seq (.ops [] [oP 3 (.box (.t 0)), oP 4 (.box (.t 1)), oP 6 (.alloc (.agg [aI 0, aI 0, aI 0, aI 0, aI 0, aI 0, aI 0, .xsl [], .xsl [], aI 0, .d (.bool false), aI 0, aI 0, aI 0, .xsl [], aI 0, aI 0, aI 0, aI 0, aI 0, aI 0, aI 0, aI 0, aI 0, aI 0, .xsl [], aI 0, aI 0, aI 0, aI 0, aI 0, aI 0, aI 0, aI 0, .xsl [], aI 0, .xsl [], .xsl [], aI 0, .xsl [], .xsl [], .xsl [], aI 0, .xsl [], .xsl [], .xsl [], .xsl [], aI 0, .xsl [], aI 0, .xsl [], .xsl [], aI 0, aI 0, aI 0, aI 0, aI 0, aI 0, aI 0, aI 0, aI 0, .xsl [], .xsl []]))] [0, 1])
 (.seq (.ops [] [oP 8 (.fad false 0 1 (.t 3)), oP 9 (.ld false 1 (.t 8)), oP 10 (.fad true 1 8 (.t 3)), oP 11 (.ld true 8 (.t 10)), oP 12 (.fad true 15 8 (.t 3)), oP 13 (.ld true 8 (.t 12)), oP 14 (.fad false 9 1 (.t 3)), oP 15 (.ld false 1 (.t 14)), oP 16 (.fad false 13 1 (.t 3)), oP 17 (.ld false 1 (.t 16)), oP 18 (.bin .add (.t 17) (kI 1)), oP 19 (.fad false 10 1 (.t 3)), oP 20 (.ld false 1 (.t 19)), oP 21 (.fad false 11 1 (.t 3)), oP 22 (.ld false 1 (.t 21)), oP 23 (.build [aI 0, aI 0, aI 0, aI 0, aI 0, aI 0, aI 0, .xsl [], .xsl [], aI 0, .d (.bool false), aI 0, aI 0, aI 0, .xsl [], aI 0, aI 0, aI 0, aI 0, aI 0, aI 0, aI 0, aI 0, aI 0, aI 0, .xsl [], aI 0, aI 0, aI 0, aI 0, aI 0, aI 0, aI 0, aI 0, .xsl [], aI 0, .xsl [], .xsl [], aI 0, .xsl [], .xsl [], .xsl [], aI 0, .xsl [], .xsl [], .xsl [], .xsl [], aI 0, .xsl [], aI 0, .xsl [], .xsl [], aI 0, aI 0, aI 0, aI 0, aI 0, aI 0, aI 0, aI 0, aI 0, .xsl [], .xsl []] [(0, (1, .t 9)), (1, (8, .t 11)), (15, (8, .t 13)), (9, (1, .t 15)), (13, (1, .t 18)), (10, (1, .t 20)), (11, (1, .t 22))]), oP 7 (.alloc (.agg [aI 0, aI 0, aI 0, aI 0, aI 0, aI 0, aI 0, .xsl [], .xsl [], aI 0, .d (.bool false), aI 0, aI 0, aI 0, .xsl [], aI 0, aI 0, aI 0, aI 0, aI 0, aI 0, aI 0, aI 0, aI 0, aI 0, .xsl [], aI 0, aI 0, aI 0, aI 0, aI 0, aI 0, aI 0, aI 0, .xsl [], aI 0, .xsl [], .xsl [], aI 0, .xsl [], .xsl [], .xsl [], aI 0, .xsl [], .xsl [], .xsl [], .xsl [], aI 0, .xsl [], aI 0, .xsl [], .xsl [], aI 0, aI 0, aI 0, aI 0, aI 0, aI 0, aI 0, aI 0, aI 0, .xsl [], .xsl []])), oN (.st 63 (.t 7) (.t 23))] [8, 9, 10, 11, 12, 13, 14, 15, 16, 17, 18, 19, 20, 21, 22, 23])
 (.seq (.draw [] [oP 24 (.fad false 14 1 (.t 3)), oP 25 (.ld false 1 (.t 24)), oP 26 (.app 7 (.c (.xsl [])) (.t 25)), oP 27 (.ld true 7 (.t 4)), oP 28 (.bsl 1 7 (.agg [aI 0, aI 0, .xsl [], .xsl [], aI 0, aI 0, aI 0]) [(0, .t 27)]), oP 29 (.app 7 (.t 26) (.t 28)), oP 30 (.fad false 14 1 (.t 7)), oN (.st 1 (.t 30) (.t 29))] [[], [], [], [0, 1, 2], [0, 1, 2], [], [], []] [4, 24, 25, 26, 27, 28, 29, 30])
 (.seq (.seq (.draw [] [oP 31 (.fad false 13 1 (.t 7)), oP 32 (.ld false 1 (.t 31)), oP 33 (.fad true 1 8 (.t 3)), oP 34 (.ld true 8 (.t 33)), oP 35 (.call N_ref17_Entries [] [.t 34]), oP 36 (.bin .eql (.t 32) (.t 35))] [[], [], [0, 1], [0, 1], [0, 1], []] [3, 31, 32, 33, 34, 35])
 (.cond (.t 36) (.ops [] [oM 37 2, oP 38 (.fad false 10 1 (.t 7)), oN (.st 1 (.t 38) (.c (.d (.bool true)))), oP 39 (.fad false 11 1 (.t 7)), oN (.st 1 (.t 39) (.t 37))] [2, 36, 37, 38, 39]) .skip))
 (.seq (.ops [] [oP 40 (.ld true 63 (.t 7)), oN (.st 63 (.t 6) (.t 40))] [2, 7, 36, 40])
 (.ret [6]))))))
def r_ref17_Next : List ARes := [.c 6 true 63]
def fn_ref17_Next : AFn := .code c_ref17_Next r_ref17_Next 41 true
def c_ref12_CAS : ACode :=
 (.seq (.ops [] [oP 4 (.box (.t 0)), oP 8 (.alloc (.agg [.xsl [], .xsl [], aI 0, aI 0, .xsl [], aI 0, .xsl [], .xsl [], aI 0, aI 0, aI 0])), oP 9 (.mv (.c (.d (.bool false)))), oP 10 (.mv (kI 0))] [0, 9, 10])
 (.seq (.seq (.ops [] [oM 13 1, oP 14 (.bin .neq (.t 13) (kI 1)), oM 15 14, oQ 16 (.mv (.t 1)) 15 true, oQ 17 (.bin .neq (.t 16) (kI 3)) 15 true, oP 18 (.pick (.t 15) (.t 17) (.c (.d (.bool false))))] [13, 14, 15, 16, 17])
 (.cond (.t 18) (.seq (.ops [] [oP 19 (.build [.xsl [], .xsl [], aI 0, aI 0, .xsl [], aI 0, .xsl [], .xsl [], aI 0, aI 0, aI 0] []), oN (.st 11 (.t 8) (.t 19)), oP 9 (.mv (.c (.d (.bool false)))), oP 10 (.mv (kI 9))] [1, 2, 3, 4, 18, 19])
 (.ret [8, 9, 10])) .skip))
 (.seq (.seq (.ops [] [oM 20 1, oP 21 (.bin .eql (.t 20) (kI 1)), oM 22 21, oQ 23 (.mv (.t 3)) 22 true, oQ 24 (.call N_ref12_in [] [.t 23, kI 0, kI 65536]) 22 true, oQ 25 (.un .not (.t 24)) 22 true, oP 26 (.pick (.t 22) (.t 25) (.c (.d (.bool false)))), oM 27 26, oQ 28 (.mv (.t 1)) 27 false, oQ 29 (.bin .eql (.t 28) (kI 3)) 27 false, oQ 30 (.mv (.t 29)) 27 false, oQ 31 (.mv (.t 3)) 30 true, oQ 32 (.call N_ref12_in [] [.t 31, kI 1, kI 1073741824]) 30 true, oQ 33 (.un .not (.t 32)) 30 true, oQ 34 (.pick (.t 30) (.t 33) (.c (.d (.bool false)))) 27 false, oP 35 (.pick (.t 27) (.c (.d (.bool true))) (.t 34))] [18, 20, 21, 22, 23, 24, 25, 26, 27, 28, 29, 30, 31, 32, 33, 34])
 (.cond (.t 35) (.seq (.ops [] [oP 36 (.build [.xsl [], .xsl [], aI 0, aI 0, .xsl [], aI 0, .xsl [], .xsl [], aI 0, aI 0, aI 0] []), oN (.st 11 (.t 8) (.t 36)), oP 9 (.mv (.c (.d (.bool false)))), oP 10 (.mv (kI 1))] [1, 2, 3, 4, 35, 36])
 (.ret [8, 9, 10])) .skip))
 (.seq (.ops [] [oP 38 (.ld true 11 (.t 4)), oM 39 1, oP 40 (.call N_ref12_Load [] [.t 38, .t 39]), oM 37 40, oP 41 (.ext (.t 37) 0), oP 42 (.ext (.t 37) 1), oM 11 41, oM 12 42] [12, 35, 37, 38, 39, 40, 41, 42])
 (.seq (.seq (.ops [] [oM 43 11, oM 44 2, oP 45 (.bin .neq (.t 43) (.t 44))] [2, 11, 43, 44])
 (.cond (.t 45) (.seq (.ops [] [oP 46 (.ld true 11 (.t 4)), oN (.st 11 (.t 8) (.t 46)), oP 9 (.mv (.c (.d (.bool false)))), oP 10 (.mv (kI 0))] [1, 3, 4, 45, 46])
 (.ret [8, 9, 10])) .skip))
 (.seq (.seq (.ops [] [oM 47 1, oP 48 (.bin .eql (.t 47) (kI 1))] [1, 45, 47])
 (.cond (.t 48) (.ops [] [oM 49 3, oP 50 (.fad false 8 1 (.t 4)), oN (.st 1 (.t 50) (.t 49))] [3, 48, 49, 50]) (.ops [] [oM 51 3, oP 52 (.fad false 10 1 (.t 4)), oN (.st 1 (.t 52) (.t 51))] [3, 48, 51, 52])))
 (.seq (.ops [] [oP 53 (.ld true 11 (.t 4)), oN (.st 11 (.t 8) (.t 53)), oP 9 (.mv (.c (.d (.bool true)))), oP 10 (.mv (kI 0))] [4, 53])
 (.ret [8, 9, 10]))))))))
def r_ref12_CAS : List ARes := [.c 8 true 11, .t 9, .t 10]
def fn_ref12_CAS : AFn := .code c_ref12_CAS r_ref12_CAS 54 true
def c_ref02_Route : ACode :=
 (.seq (.ops [] [oP 2 (.mv (kI 0))] [2])
 (.seq (.seq (.ops [] [oM 6 0, oP 7 (.bin .lss (.t 6) (kI 0)), oM 8 7, oQ 9 (.mv (.t 0)) 8 false, oQ 10 (.bin .gtr (.t 9) (kI 1073741824)) 8 false, oP 11 (.pick (.t 8) (.c (.d (.bool true))) (.t 10))] [6, 7, 8, 9, 10])
 (.cond (.t 11) (.seq (.ops [] [oP 2 (.mv (kI 0))] [0, 11])
 (.ret [2])) .skip))
 (.seq (.ops [] [oM 13 0, oP 14 (.call N_ref01_Put [false, false, false, true] [.c (.xsl []), .t 13, kI 4]), oM 12 14, oP 15 (.ext (.t 12) 0), oP 16 (.ext (.t 12) 1), oM 3 15, oM 4 16] [0, 4, 11, 12, 13, 14, 15, 16])
 (.seq (.ops [] [oM 17 3, oP 18 (.call N_ref02_Sum [] [.t 17]), oM 5 18] [3, 17, 18])
 (.seq (.ops [] [oM 19 5, oP 20 (.bin .shr (.t 19) (.c (.d (.int .u64 16)))), oM 21 5, oP 22 (.bin .and (.t 21) (kI 65535)), oP 23 (.bin .xor (.t 20) (.t 22)), oM 2 23] [5, 19, 20, 21, 22, 23])
 (.ret [2]))))))
def r_ref02_Route : List ARes := [.t 2]
def fn_ref02_Route : AFn := .code c_ref02_Route r_ref02_Route 24 true
def l_ref01_Put_0 : ACode :=
 (.seq (.seq (.ops [] [oM 32 9, oP 33 (.bin .geq (.t 32) (kI 0))] [32])
 (.cond (.t 33) .skip (.exit 0 [8])))
 (.seq (.block 1 (.ops [] [oM 36 8, oM 37 1, oM 38 9, oP 39 (.bin .mul (kI 8) (.t 38)), oP 40 (.cvi .u64 (.t 39)), oP 41 (.bin .shr (.t 37) (.t 40)), oP 42 (.cvi .u8 (.t 41)), oP 43 (.bsl 1 1 (.d (.int .u8 0)) [(0, .t 42)]), oP 44 (.app 1 (.t 36) (.t 43)), oM 8 44] [33, 36, 37, 38, 39, 40, 41, 42, 43, 44]))
 (.ops [] [oM 34 9, oP 35 (.bin .sub (.t 34) (kI 1)), oM 9 35] [34, 35])))
def c_ref01_Put : ACode :=
 (.seq (.ops [] [oP 6 (.mv (.c (.xsl []))), oP 7 (.mv (kI 0))] [6, 7])
 (.seq (.seq (.ops [] [oM 10 2, oP 11 (.bin .lss (.t 10) (kI 1)), oM 12 11, oQ 13 (.mv (.t 2)) 12 false, oQ 14 (.bin .gtr (.t 13) (kI 6)) 12 false, oP 15 (.pick (.t 12) (.c (.d (.bool true))) (.t 14)), oM 16 15, oQ 17 (.mv (.t 1)) 16 false, oQ 18 (.bin .lss (.t 17) (kI 0)) 16 false, oP 19 (.pick (.t 16) (.c (.d (.bool true))) (.t 18)), oM 20 19, oQ 21 (.mv (.t 1)) 20 false, oQ 22 (.mv (.t 2)) 20 false, oQ 23 (.bin .mul (kI 8) (.t 22)) 20 false, oQ 24 (.cvi .u64 (.t 23)) 20 false, oQ 25 (.bin .shl (kI 1) (.t 24)) 20 false, oQ 26 (.bin .geq (.t 21) (.t 25)) 20 false, oP 27 (.pick (.t 20) (.c (.d (.bool true))) (.t 26))] [10, 11, 12, 13, 14, 15, 16, 17, 18, 19, 20, 21, 22, 23, 24, 25, 26])
 (.cond (.t 27) (.seq (.ops [] [oP 6 (.mv (.c (.xsl []))), oP 7 (.mv (kI 1))] [0, 1, 2, 27])
 (.ret [6, 7])) .skip))
 (.seq (.ops [] [oM 28 0, oP 29 (.app 1 (.c (.xsl [])) (.t 28)), oM 8 29] [0, 27, 28, 29])
 (.seq (.seq (.ops [] [oM 30 2, oP 31 (.bin .sub (.t 30) (kI 1)), oM 9 31] [2, 30, 31])
 (.block 0 (.loop [] l_ref01_Put_0)))
 (.seq (.ops [] [oM 45 8, oM 6 45, oP 7 (.mv (kI 0))] [1, 8, 9, 33, 45])
 (.ret [6, 7]))))))
def r_ref01_Put : List ARes := [.t 6, .t 7]
def fn_ref01_Put : AFn := .code c_ref01_Put r_ref01_Put 46 true
def l_ref02_Sum_0 : ACode :=
 (.seq (.seq (.ops [] [oM 5 4, oM 6 0, oP 7 (.len (.t 6)), oP 8 (.bin .lss (.t 5) (.t 7))] [5, 6, 7])
 (.cond (.t 8) .skip (.exit 0 [3])))
 (.seq (.block 1 (.ops [] [oM 11 3, oM 12 0, oM 13 4, oP 14 (.iad 1 (.t 12) (.t 13)), oP 15 (.ld false 1 (.t 14)), oP 16 (.cvi .i64 (.t 15)), oP 17 (.bin .xor (.t 11) (.t 16)), oP 18 (.bin .mul (.t 17) (kI 16777619)), oP 19 (.bin .and (.t 18) (kI 4294967295)), oM 3 19] [8, 11, 12, 13, 14, 15, 16, 17, 18, 19]))
 (.ops [] [oM 9 4, oP 10 (.bin .add (.t 9) (kI 1)), oM 4 10] [9, 10])))
def c_ref02_Sum : ACode :=
 (.seq (.ops [] [oP 2 (.mv (kI 0))] [2])
 (.seq (.ops [] [oP 3 (.mv (kI 2166136261))] [])
 (.seq (.seq (.ops [] [oP 4 (.mv (kI 0))] [])
 (.block 0 (.loop [] l_ref02_Sum_0)))
 (.seq (.ops [] [oM 20 3, oM 2 20] [0, 3, 4, 8, 20])
 (.ret [2])))))
def r_ref02_Sum : List ARes := [.t 2]
def fn_ref02_Sum : AFn := .code c_ref02_Sum r_ref02_Sum 21 true
def c_ref16_Begin : ACode :=
 (.seq (.ops [] [oP 2 (.alloc (.d (.agg [.int .i64 0, .int .i64 0]))), oP 3 (.mv (kI 0))] [3])
 (.seq (.seq (.ops [] [oM 4 0, oP 5 (.bin .lss (.t 4) (kI 0)), oM 6 5, oQ 7 (.mv (.t 0)) 6 false, oQ 8 (.bin .geq (.t 7) (kI 65536)) 6 false, oP 9 (.pick (.t 6) (.c (.d (.bool true))) (.t 8))] [4, 5, 6, 7, 8])
 (.cond (.t 9) (.seq (.ops [] [oP 10 (.build [aI 0, aI 0] []), oN (.st 2 (.t 2) (.t 10)), oP 3 (.mv (kI 1))] [0, 9, 10])
 (.ret [2, 3])) .skip))
 (.seq (.ops [] [oM 11 0, oP 12 (.build [aI 0, aI 0] [(0, (1, .t 11))]), oN (.st 2 (.t 2) (.t 12)), oP 3 (.mv (kI 0))] [0, 9, 11, 12])
 (.ret [2, 3]))))
def r_ref16_Begin : List ARes := [.c 2 true 2, .t 3]
def fn_ref16_Begin : AFn := .code c_ref16_Begin r_ref16_Begin 13 true
def c_ref18_Look : ACode :=
 (.seq (.ops [] [oP 4 (.box (.t 0)), oP 5 (.box (.t 1)), oP 8 (.alloc (.agg [aI 0, aI 0, aI 0, aI 0, aI 0, aI 0, aI 0, .xsl [], .xsl [], aI 0, .d (.bool false), aI 0, aI 0, aI 0, .xsl [], aI 0, aI 0, aI 0, aI 0, aI 0, aI 0, aI 0, aI 0, aI 0, aI 0, .xsl [], aI 0, aI 0, aI 0, aI 0, aI 0, aI 0, aI 0, aI 0, .xsl [], aI 0, .xsl [], .xsl [], aI 0, .xsl [], .xsl [], .xsl [], aI 0, .xsl [], .xsl [], .xsl [], .xsl [], aI 0, .xsl [], aI 0, .xsl [], .xsl [], aI 0, aI 0, aI 0, aI 0, aI 0, aI 0, aI 0, aI 0, aI 0, .xsl [], .xsl []]))] [0, 1])
 (.seq (.ops [] [oP 9 (.ld true 11 (.t 4)), oP 10 (.call N_ref12_LoadDir [false, true] [.t 9]), oP 11 (.fad true 49 3 (.t 5)), oN (.st 3 (.t 11) (.t 10))] [4, 9, 10, 11])
 (.seq (.ops [] [oP 12 (.fad true 49 3 (.t 5)), oP 13 (.ld true 3 (.t 12)), oM 14 2, oP 15 (.call N_ref10_Owner [] [.t 13, .t 14]), oP 16 (.fad false 54 1 (.t 5)), oN (.st 1 (.t 16) (.t 15))] [2, 12, 13, 14, 15, 16])
 (.seq (.ops [] [oP 17 (.ld true 63 (.t 5)), oP 18 (.fad false 54 1 (.t 5)), oP 19 (.ld false 1 (.t 18)), oP 20 (.bsl 1 1 (aI 0) [(0, .t 19)]), oM 21 3, oP 22 (.call N_ref18_Section [false, false, false, true] [.t 17, .t 20, .t 21]), oN (.st 63 (.t 8) (.t 22))] [3, 5, 17, 18, 19, 20, 21, 22])
 (.ret [8])))))
def r_ref18_Look : List ARes := [.c 8 true 63]
def fn_ref18_Look : AFn := .code c_ref18_Look r_ref18_Look 23 true
def c_ref12_LoadDir : ACode :=
 (.seq (.ops [] [oP 1 (.box (.t 0)), oP 2 (.alloc (.agg [aI 0, .xsl [], .xsl []]))] [0])
 (.seq (.ops [] [oP 3 (.fad true 5 3 (.t 1)), oP 4 (.ld true 3 (.t 3)), oN (.st 3 (.t 2) (.t 4))] [1, 3, 4])
 (.ret [2])))
def r_ref12_LoadDir : List ARes := [.c 2 true 3]
def fn_ref12_LoadDir : AFn := .code c_ref12_LoadDir r_ref12_LoadDir 5 true
def l_ref10_Owner_0 : ACode :=
 (.seq (.seq (.ops [] [oM 6 5, oP 7 (.fad false 1 1 (.t 2)), oP 8 (.ld false 1 (.t 7)), oP 9 (.len (.t 8)), oP 10 (.bin .lss (.t 6) (.t 9)), oM 11 10, oQ 12 (.ld true 3 (.t 2)) 11 true, oQ 13 (.call N_ref10_Validate [] [.t 12]) 11 true, oQ 14 (.bin .eql (.t 13) (kI 0)) 11 true, oP 15 (.pick (.t 11) (.t 14) (.c (.d (.bool false))))] [6, 7, 8, 9, 10, 11, 12, 13, 14])
 (.cond (.t 15) .skip (.exit 0 [])))
 (.seq (.block 1 (.seq (.ops [] [oM 18 1, oP 19 (.fad false 1 1 (.t 2)), oP 20 (.ld false 1 (.t 19)), oM 21 5, oP 22 (.iad 3 (.t 20) (.t 21)), oP 23 (.fad false 0 1 (.t 22)), oP 24 (.ld false 1 (.t 23)), oP 25 (.bin .geq (.t 18) (.t 24)), oM 26 25, oQ 27 (.mv (.t 1)) 26 true, oQ 28 (.fad false 1 1 (.t 2)) 26 true, oQ 29 (.ld false 1 (.t 28)) 26 true, oQ 30 (.mv (.t 5)) 26 true, oQ 31 (.iad 3 (.t 29) (.t 30)) 26 true, oQ 32 (.fad false 1 1 (.t 31)) 26 true, oQ 33 (.ld false 1 (.t 32)) 26 true, oQ 34 (.bin .leq (.t 27) (.t 33)) 26 true, oP 35 (.pick (.t 26) (.t 34) (.c (.d (.bool false))))] [15, 18, 19, 20, 21, 22, 23, 24, 25, 26, 27, 28, 29, 30, 31, 32, 33, 34])
 (.cond (.t 35) (.seq (.ops [] [oP 36 (.fad false 1 1 (.t 2)), oP 37 (.ld false 1 (.t 36)), oM 38 5, oP 39 (.iad 3 (.t 37) (.t 38)), oP 40 (.fad false 2 1 (.t 39)), oP 41 (.ld false 1 (.t 40)), oM 4 41] [1, 2, 5, 35, 36, 37, 38, 39, 40, 41])
 (.ret [4])) .skip)))
 (.ops [] [oM 16 5, oP 17 (.bin .add (.t 16) (kI 1)), oM 5 17] [16, 17, 35])))
def c_ref10_Owner : ACode :=
 (.seq (.ops [] [oP 2 (.box (.t 0)), oP 4 (.mv (kI 0))] [0, 4])
 (.seq (.seq (.ops [] [oP 5 (.mv (kI 0))] [])
 (.block 0 (.loop [] l_ref10_Owner_0)))
 (.seq (.ops [] [oP 4 (.mv (kI (-1)))] [1, 2, 5, 15])
 (.ret [4]))))
def r_ref10_Owner : List ARes := [.t 4]
def fn_ref10_Owner : AFn := .code c_ref10_Owner r_ref10_Owner 42 true
def l_ref10_Validate_0 : ACode :=
 (.seq (.seq (.ops [] [oM 32 5, oP 33 (.fad false 1 1 (.t 1)), oP 34 (.ld false 1 (.t 33)), oP 35 (.len (.t 34)), oP 36 (.bin .lss (.t 32) (.t 35))] [32, 33, 34, 35])
 (.cond (.t 36) .skip (.exit 0 [1, 3, 4])))
 (.seq (.block 1 (.seq (.ops [] [oP 39 (.fad false 1 1 (.t 1)), oP 40 (.ld false 1 (.t 39)), oM 41 5, oP 42 (.iad 3 (.t 40) (.t 41)), oP 43 (.ld true 3 (.t 42)), oP 6 (.alloc (.d (.agg [.int .i64 0, .int .i64 0, .int .i64 0]))), oN (.st 3 (.t 6) (.t 43))] [36, 39, 40, 41, 42, 43])
 (.seq (.seq (.ops [] [oP 44 (.fad false 0 1 (.t 6)), oP 45 (.ld false 1 (.t 44)), oM 46 4, oP 47 (.bin .neq (.t 45) (.t 46)), oM 48 47, oQ 49 (.fad false 1 1 (.t 6)) 48 false, oQ 50 (.ld false 1 (.t 49)) 48 false, oQ 51 (.fad false 0 1 (.t 6)) 48 false, oQ 52 (.ld false 1 (.t 51)) 48 false, oQ 53 (.bin .lss (.t 50) (.t 52)) 48 false, oP 54 (.pick (.t 48) (.c (.d (.bool true))) (.t 53)), oM 55 54, oQ 56 (.fad false 1 1 (.t 6)) 55 false, oQ 57 (.ld false 1 (.t 56)) 55 false, oQ 58 (.bin .geq (.t 57) (kI 65536)) 55 false, oP 59 (.pick (.t 55) (.c (.d (.bool true))) (.t 58))] [4, 44, 45, 46, 47, 48, 49, 50, 51, 52, 53, 54, 55, 56, 57, 58])
 (.cond (.t 59) (.seq (.ops [] [oP 2 (.mv (kI 7))] [1, 3, 5, 6, 59])
 (.ret [2])) .skip))
 (.ops [] [oP 60 (.fad false 1 1 (.t 6)), oP 61 (.ld false 1 (.t 60)), oP 62 (.bin .add (.t 61) (kI 1)), oM 4 62] [6, 59, 60, 61, 62]))))
 (.ops [] [oM 37 5, oP 38 (.bin .add (.t 37) (kI 1)), oM 5 38] [37, 38])))
def l_ref10_Validate_1 : ACode :=
 (.seq (.seq (.ops [] [oM 65 7, oP 66 (.fad false 1 1 (.t 1)), oP 67 (.ld false 1 (.t 66)), oP 68 (.len (.t 67)), oP 69 (.bin .lss (.t 65) (.t 68))] [65, 66, 67, 68])
 (.cond (.t 69) .skip (.exit 2 [1, 3])))
 (.seq (.block 3 (.seq (.ops [] [oP 72 (.fad false 1 1 (.t 1)), oP 73 (.ld false 1 (.t 72)), oM 74 7, oP 75 (.iad 3 (.t 73) (.t 74)), oP 76 (.fad false 2 1 (.t 75)), oP 77 (.ld false 1 (.t 76)), oP 78 (.bin .lss (.t 77) (kI 0)), oM 79 78, oQ 80 (.fad false 1 1 (.t 1)) 79 false, oQ 81 (.ld false 1 (.t 80)) 79 false, oQ 82 (.mv (.t 7)) 79 false, oQ 83 (.iad 3 (.t 81) (.t 82)) 79 false, oQ 84 (.fad false 2 1 (.t 83)) 79 false, oQ 85 (.ld false 1 (.t 84)) 79 false, oQ 86 (.mv (.t 3)) 79 false, oQ 87 (.bin .geq (.t 85) (.t 86)) 79 false, oP 88 (.pick (.t 79) (.c (.d (.bool true))) (.t 87))] [69, 72, 73, 74, 75, 76, 77, 78, 79, 80, 81, 82, 83, 84, 85, 86, 87])
 (.cond (.t 88) (.seq (.ops [] [oP 2 (.mv (kI 4))] [1, 3, 7, 88])
 (.ret [2])) .skip)))
 (.ops [] [oM 70 7, oP 71 (.bin .add (.t 70) (kI 1)), oM 7 71] [70, 71, 88])))
def l_ref10_Validate_2 : ACode :=
 (.seq (.seq (.ops [] [oM 89 8, oP 90 (.fad false 1 1 (.t 1)), oP 91 (.ld false 1 (.t 90)), oP 92 (.len (.t 91)), oP 93 (.bin .lss (.t 89) (.t 92))] [89, 90, 91, 92])
 (.cond (.t 93) .skip (.exit 4 [1, 3])))
 (.seq (.block 5 (.seq (.draw [] [oP 96 (.ld true 3 (.t 1)), oP 97 (.fad false 1 1 (.t 1)), oP 98 (.ld false 1 (.t 97)), oM 99 8, oP 100 (.iad 3 (.t 98) (.t 99)), oP 101 (.fad false 2 1 (.t 100)), oP 102 (.ld false 1 (.t 101)), oP 103 (.call N_ref10_index [] [.t 96, .t 102]), oM 104 8, oP 105 (.bin .neq (.t 103) (.t 104))] [[], [0], [0], [0, 1, 2], [0], [0], [0], [], [0, 1, 2, 3, 4, 5, 6, 7], []] [93, 96, 97, 98, 99, 100, 101, 102, 103, 104])
 (.cond (.t 105) (.seq (.ops [] [oP 2 (.mv (kI 10))] [1, 3, 8, 105])
 (.ret [2])) .skip)))
 (.ops [] [oM 94 8, oP 95 (.bin .add (.t 94) (kI 1)), oM 8 95] [94, 95, 105])))
def l_ref10_Validate_3 : ACode :=
 (.seq (.seq (.ops [] [oM 106 9, oM 107 3, oP 108 (.bin .lss (.t 106) (.t 107))] [106, 107])
 (.cond (.t 108) .skip (.exit 6 [1, 3])))
 (.seq (.block 7 (.seq (.ops [] [oP 111 (.fad false 2 1 (.t 1)), oP 112 (.ld false 1 (.t 111)), oM 113 9, oP 114 (.iad 1 (.t 112) (.t 113)), oP 115 (.ld false 1 (.t 114)), oP 116 (.bin .lss (.t 115) (kI (-1))), oM 117 116, oQ 118 (.fad false 2 1 (.t 1)) 117 false, oQ 119 (.ld false 1 (.t 118)) 117 false, oQ 120 (.mv (.t 9)) 117 false, oQ 121 (.iad 1 (.t 119) (.t 120)) 117 false, oQ 122 (.ld false 1 (.t 121)) 117 false, oQ 123 (.mv (.t 3)) 117 false, oQ 124 (.bin .geq (.t 122) (.t 123)) 117 false, oP 125 (.pick (.t 117) (.c (.d (.bool true))) (.t 124)), oM 126 125, oQ 127 (.ld true 3 (.t 1)) 126 false, oQ 128 (.mv (.t 9)) 126 false, oQ 129 (.call N_ref10_index [] [.t 127, .t 128]) 126 false, oQ 130 (.bin .geq (.t 129) (kI 0)) 126 false, oQ 131 (.mv (.t 130)) 126 false, oQ 132 (.fad false 2 1 (.t 1)) 131 true, oQ 133 (.ld false 1 (.t 132)) 131 true, oQ 134 (.mv (.t 9)) 131 true, oQ 135 (.iad 1 (.t 133) (.t 134)) 131 true, oQ 136 (.ld false 1 (.t 135)) 131 true, oQ 137 (.bin .neq (.t 136) (kI (-1))) 131 true, oQ 138 (.pick (.t 131) (.t 137) (.c (.d (.bool false)))) 126 false, oP 139 (.pick (.t 126) (.c (.d (.bool true))) (.t 138))] [108, 111, 112, 113, 114, 115, 116, 117, 118, 119, 120, 121, 122, 123, 124, 125, 126, 127, 128, 129, 130, 131, 132, 133, 134, 135, 136, 137, 138])
 (.cond (.t 139) (.seq (.ops [] [oP 2 (.mv (kI 7))] [1, 3, 9, 139])
 (.ret [2])) .skip)))
 (.ops [] [oM 109 9, oP 110 (.bin .add (.t 109) (kI 1)), oM 9 110] [109, 110, 139])))
def l_ref10_Validate_4 : ACode :=
 (.seq (.seq (.ops [] [oM 146 12, oM 147 3, oP 148 (.bin .lss (.t 146) (.t 147)), oM 149 148, oQ 150 (.mv (.t 11)) 149 true, oQ 151 (.bin .geq (.t 150) (kI 0)) 149 true, oP 152 (.pick (.t 149) (.t 151) (.c (.d (.bool false))))] [146, 147, 148, 149, 150, 151])
 (.cond (.t 152) .skip (.exit 10 [1, 3, 10, 11])))
 (.seq (.block 11 (.ops [] [oP 155 (.fad false 2 1 (.t 1)), oP 156 (.ld false 1 (.t 155)), oM 157 11, oP 158 (.iad 1 (.t 156) (.t 157)), oP 159 (.ld false 1 (.t 158)), oM 11 159] [152, 155, 156, 157, 158, 159]))
 (.ops [] [oM 153 12, oP 154 (.bin .add (.t 153) (kI 1)), oM 12 154] [153, 154])))
def l_ref10_Validate_5 : ACode :=
 (.seq (.seq (.ops [] [oM 140 10, oM 141 3, oP 142 (.bin .lss (.t 140) (.t 141))] [140, 141])
 (.cond (.t 142) .skip (.exit 8 [])))
 (.seq (.block 9 (.seq (.ops [] [oM 145 10, oM 11 145] [142, 145])
 (.seq (.seq (.ops [] [oP 12 (.mv (kI 0))] [])
 (.block 10 (.loop [] l_ref10_Validate_4)))
 (.seq (.ops [] [oM 160 11, oP 161 (.bin .geq (.t 160) (kI 0))] [11, 12, 152, 160])
 (.cond (.t 161) (.seq (.ops [] [oP 2 (.mv (kI 7))] [1, 3, 10, 161])
 (.ret [2])) .skip)))))
 (.ops [] [oM 143 10, oP 144 (.bin .add (.t 143) (kI 1)), oM 10 144] [143, 144, 161])))
def c_ref10_Validate : ACode :=
 (.seq (.ops [] [oP 1 (.box (.t 0)), oP 2 (.mv (kI 0))] [0, 2])
 (.seq (.ops [] [oP 13 (.fad false 2 1 (.t 1)), oP 14 (.ld false 1 (.t 13)), oP 15 (.len (.t 14)), oM 3 15] [13, 14, 15])
 (.seq (.seq (.ops [] [oP 16 (.fad false 0 1 (.t 1)), oP 17 (.ld false 1 (.t 16)), oP 18 (.bin .lss (.t 17) (kI 1)), oM 19 18, oQ 20 (.fad false 0 1 (.t 1)) 19 false, oQ 21 (.ld false 1 (.t 20)) 19 false, oQ 22 (.bin .gtr (.t 21) (kI 1099511627776)) 19 false, oP 23 (.pick (.t 19) (.c (.d (.bool true))) (.t 22)), oM 24 23, oQ 25 (.mv (.t 3)) 24 false, oQ 26 (.bin .lss (.t 25) (kI 1)) 24 false, oP 27 (.pick (.t 24) (.c (.d (.bool true))) (.t 26)), oM 28 27, oQ 29 (.mv (.t 3)) 28 false, oQ 30 (.bin .gtr (.t 29) (kI 6)) 28 false, oP 31 (.pick (.t 28) (.c (.d (.bool true))) (.t 30))] [16, 17, 18, 19, 20, 21, 22, 23, 24, 25, 26, 27, 28, 29, 30])
 (.cond (.t 31) (.seq (.ops [] [oP 2 (.mv (kI 1))] [1, 3, 31])
 (.ret [2])) .skip))
 (.seq (.ops [] [oP 4 (.mv (kI 0))] [31])
 (.seq (.seq (.ops [] [oP 5 (.mv (kI 0))] [])
 (.block 0 (.loop [] l_ref10_Validate_0)))
 (.seq (.seq (.ops [] [oM 63 4, oP 64 (.bin .neq (.t 63) (kI 65536))] [4, 5, 36, 63])
 (.cond (.t 64) (.seq (.ops [] [oP 2 (.mv (kI 7))] [1, 3, 64])
 (.ret [2])) .skip))
 (.seq (.seq (.ops [] [oP 7 (.mv (kI 0))] [64])
 (.block 2 (.loop [] l_ref10_Validate_1)))
 (.seq (.seq (.ops [] [oP 8 (.mv (kI 0))] [7, 69])
 (.block 4 (.loop [] l_ref10_Validate_2)))
 (.seq (.seq (.ops [] [oP 9 (.mv (kI 0))] [8, 93])
 (.block 6 (.loop [] l_ref10_Validate_3)))
 (.seq (.seq (.ops [] [oP 10 (.mv (kI 0))] [9, 108])
 (.block 8 (.loop [] l_ref10_Validate_5)))
 (.seq (.ops [] [oP 2 (.mv (kI 0))] [1, 3, 10, 142])
 (.ret [2]))))))))))))
def r_ref10_Validate : List ARes := [.t 2]
def fn_ref10_Validate : AFn := .code c_ref10_Validate r_ref10_Validate 162 true
def l_ref10_index_0 : ACode :=
 (.seq (.seq (.ops [] [oM 6 5, oP 7 (.fad false 1 1 (.t 2)), oP 8 (.ld false 1 (.t 7)), oP 9 (.len (.t 8)), oP 10 (.bin .lss (.t 6) (.t 9))] [6, 7, 8, 9])
 (.cond (.t 10) .skip (.exit 0 [])))
 (.seq (.block 1 (.seq (.ops [] [oP 13 (.fad false 1 1 (.t 2)), oP 14 (.ld false 1 (.t 13)), oM 15 5, oP 16 (.iad 3 (.t 14) (.t 15)), oP 17 (.fad false 2 1 (.t 16)), oP 18 (.ld false 1 (.t 17)), oM 19 1, oP 20 (.bin .eql (.t 18) (.t 19))] [10, 13, 14, 15, 16, 17, 18, 19])
 (.cond (.t 20) (.seq (.ops [] [oM 21 5, oM 4 21] [1, 2, 5, 20, 21])
 (.ret [4])) .skip)))
 (.ops [] [oM 11 5, oP 12 (.bin .add (.t 11) (kI 1)), oM 5 12] [11, 12, 20])))
def c_ref10_index : ACode :=
 (.seq (.ops [] [oP 2 (.box (.t 0)), oP 4 (.mv (kI 0))] [0, 4])
 (.seq (.seq (.ops [] [oP 5 (.mv (kI 0))] [])
 (.block 0 (.loop [] l_ref10_index_0)))
 (.seq (.ops [] [oP 4 (.mv (kI (-1)))] [1, 2, 5, 10])
 (.ret [4]))))
def r_ref10_index : List ARes := [.t 4]
def fn_ref10_index : AFn := .code c_ref10_index r_ref10_index 22 true
def c_ref18_Section : ACode :=
 (.seq (.ops [] [oP 3 (.box (.t 0)), oP 6 (.alloc (.agg [aI 0, aI 0, aI 0, aI 0, aI 0, aI 0, aI 0, .xsl [], .xsl [], aI 0, .d (.bool false), aI 0, aI 0, aI 0, .xsl [], aI 0, aI 0, aI 0, aI 0, aI 0, aI 0, aI 0, aI 0, aI 0, aI 0, .xsl [], aI 0, aI 0, aI 0, aI 0, aI 0, aI 0, aI 0, aI 0, .xsl [], aI 0, .xsl [], .xsl [], aI 0, .xsl [], .xsl [], .xsl [], aI 0, .xsl [], .xsl [], .xsl [], .xsl [], aI 0, .xsl [], aI 0, .xsl [], .xsl [], aI 0, aI 0, aI 0, aI 0, aI 0, aI 0, aI 0, aI 0, aI 0, .xsl [], .xsl []]))] [0])
 (.seq (.ops [] [oM 8 1, oP 9 (.fad true 15 8 (.t 3)), oP 10 (.fad false 4 1 (.t 9)), oP 11 (.ld false 1 (.t 10)), oP 12 (.call N_ref15_New [false, false, true] [.t 8, .t 11]), oM 7 12, oP 13 (.ext (.t 7) 0), oP 14 (.ext (.t 7) 1), oP 15 (.fad true 23 26 (.t 3)), oN (.st 26 (.t 15) (.t 13))] [1, 7, 8, 9, 10, 11, 12, 13, 14, 15])
 (.seq (.ops [] [oM 16 2, oP 17 (.fad false 12 1 (.t 3)), oN (.st 1 (.t 17) (.t 16))] [2, 16, 17])
 (.seq (.ops [] [oP 18 (.ld true 63 (.t 3)), oN (.st 63 (.t 6) (.t 18))] [3, 18])
 (.ret [6])))))
def r_ref18_Section : List ARes := [.c 6 true 63]
def fn_ref18_Section : AFn := .code c_ref18_Section r_ref18_Section 19 true
def c_ref15_New : ACode :=
 (.seq (.ops [] [oP 4 (.alloc (.agg [aI 0, aI 0, .xsl [], aI 0, aI 0, aI 0, aI 0, aI 0, aI 0, aI 0, aI 0, .xsl [], aI 0, .xsl [], .xsl [], aI 0, .xsl [], .xsl [], .xsl [], aI 0, .xsl [], .xsl [], .xsl [], .xsl [], aI 0, .xsl []])), oP 5 (.mv (kI 0))] [5])
 (.seq (.ops [] [oM 9 0, oP 10 (.call N_ref13_New [false, true] [.t 9]), oM 8 10, oP 11 (.ext (.t 8) 0), oP 12 (.ext (.t 8) 1), oP 6 (.alloc (.agg [.xsl [], aI 0, aI 0, aI 0, aI 0])), oN (.st 5 (.t 6) (.t 11)), oM 7 12] [0, 8, 9, 10, 11, 12])
 (.seq (.seq (.ops [] [oM 13 7, oP 14 (.bin .neq (.t 13) (kI 0))] [13])
 (.cond (.t 14) (.seq (.ops [] [oP 15 (.build [aI 0, aI 0, .xsl [], aI 0, aI 0, aI 0, aI 0, aI 0, aI 0, aI 0, aI 0, .xsl [], aI 0, .xsl [], .xsl [], aI 0, .xsl [], .xsl [], .xsl [], aI 0, .xsl [], .xsl [], .xsl [], .xsl [], aI 0, .xsl []] []), oM 16 7, oN (.st 26 (.t 4) (.t 15)), oM 5 16] [1, 6, 7, 14, 15, 16])
 (.ret [4, 5])) .skip))
 (.seq (.seq (.ops [] [oM 17 1, oP 18 (.bin .lss (.t 17) (kI 1)), oM 19 18, oQ 20 (.mv (.t 1)) 19 false, oQ 21 (.bin .gtr (.t 20) (kI 8)) 19 false, oP 22 (.pick (.t 19) (.c (.d (.bool true))) (.t 21))] [7, 14, 17, 18, 19, 20, 21])
 (.cond (.t 22) (.seq (.ops [] [oP 23 (.build [aI 0, aI 0, .xsl [], aI 0, aI 0, aI 0, aI 0, aI 0, aI 0, aI 0, aI 0, .xsl [], aI 0, .xsl [], .xsl [], aI 0, .xsl [], .xsl [], .xsl [], aI 0, .xsl [], .xsl [], .xsl [], .xsl [], aI 0, .xsl []] []), oN (.st 26 (.t 4) (.t 23)), oP 5 (.mv (kI 1))] [1, 6, 22, 23])
 (.ret [4, 5])) .skip))
 (.seq (.ops [] [oP 24 (.ld true 5 (.t 6)), oM 25 1, oP 26 (.build [aI 0, aI 0, .xsl [], aI 0, aI 0, aI 0, aI 0, aI 0, aI 0, aI 0, aI 0, .xsl [], aI 0, .xsl [], .xsl [], aI 0, .xsl [], .xsl [], .xsl [], aI 0, .xsl [], .xsl [], .xsl [], .xsl [], aI 0, .xsl []] [(2, (5, .t 24)), (24, (1, .t 25))]), oN (.st 26 (.t 4) (.t 26)), oP 5 (.mv (kI 0))] [1, 6, 22, 24, 25, 26])
 (.ret [4, 5]))))))
def r_ref15_New : List ARes := [.c 4 true 26, .t 5]
def fn_ref15_New : AFn := .code c_ref15_New r_ref15_New 27 true
def l_ref13_New_0 : ACode :=
 (.seq (.seq (.ops [] [oM 14 4, oM 15 0, oP 16 (.len (.t 15)), oP 17 (.bin .lss (.t 14) (.t 16))] [14, 15, 16])
 (.cond (.t 17) .skip (.exit 0 [0, 2])))
 (.seq (.block 1 (.seq (.draw [] [oM 20 0, oM 21 4, oP 22 (.iad 1 (.t 20) (.t 21)), oP 23 (.ld false 1 (.t 22)), oP 24 (.bin .lss (.t 23) (kI 0)), oM 25 24, oQ 26 (.mv (.t 0)) 25 false, oQ 27 (.mv (.t 4)) 25 false, oQ 28 (.iad 1 (.t 26) (.t 27)) 25 false, oQ 29 (.ld false 1 (.t 28)) 25 false, oQ 30 (.bin .gtr (.t 29) (kI 6)) 25 false, oP 31 (.pick (.t 25) (.c (.d (.bool true))) (.t 30)), oM 32 31, oQ 33 (.mv (.t 4)) 32 false, oQ 34 (.bin .gtr (.t 33) (kI 0)) 32 false, oQ 35 (.mv (.t 34)) 32 false, oQ 36 (.mv (.t 0)) 35 true, oQ 37 (.mv (.t 4)) 35 true, oQ 38 (.iad 1 (.t 36) (.t 37)) 35 true, oQ 39 (.ld false 1 (.t 38)) 35 true, oQ 40 (.mv (.t 0)) 35 true, oQ 41 (.mv (.t 4)) 35 true, oQ 42 (.bin .sub (.t 41) (kI 1)) 35 true, oQ 43 (.iad 1 (.t 40) (.t 42)) 35 true, oQ 44 (.ld false 1 (.t 43)) 35 true, oQ 45 (.bin .leq (.t 39) (.t 44)) 35 true, oQ 46 (.pick (.t 35) (.t 45) (.c (.d (.bool false)))) 32 false, oP 47 (.pick (.t 32) (.c (.d (.bool true))) (.t 46))] [[], [0], [], [], [], [], [], [6], [], [], [], [], [], [], [], [], [], [16], [], [], [16, 17, 18, 19], [16, 17, 18, 19, 20], [16, 17, 18, 19, 20], [16, 17, 18, 19], [16, 17, 18, 19], [], [], []] [17, 20, 21, 22, 23, 24, 25, 26, 27, 28, 29, 30, 31, 32, 33, 34, 35, 36, 37, 38, 39, 40, 41, 42, 43, 44, 45, 46])
 (.cond (.t 47) (.seq (.ops [] [oP 48 (.build [.xsl [], aI 0, aI 0, aI 0, aI 0] []), oN (.st 5 (.t 2) (.t 48)), oP 3 (.mv (kI 1))] [0, 4, 47, 48])
 (.ret [2, 3])) .skip)))
 (.ops [] [oM 18 4, oP 19 (.bin .add (.t 18) (kI 1)), oM 4 19] [18, 19, 47])))
def c_ref13_New : ACode :=
 (.seq (.ops [] [oP 2 (.alloc (.agg [.xsl [], aI 0, aI 0, aI 0, aI 0])), oP 3 (.mv (kI 0))] [3])
 (.seq (.seq (.ops [] [oM 5 0, oP 6 (.len (.t 5)), oP 7 (.bin .eql (.t 6) (kI 0)), oM 8 7, oQ 9 (.mv (.t 0)) 8 false, oQ 10 (.len (.t 9)) 8 false, oQ 11 (.bin .gtr (.t 10) (kI 3)) 8 false, oP 12 (.pick (.t 8) (.c (.d (.bool true))) (.t 11))] [5, 6, 7, 8, 9, 10, 11])
 (.cond (.t 12) (.seq (.ops [] [oP 13 (.build [.xsl [], aI 0, aI 0, aI 0, aI 0] []), oN (.st 5 (.t 2) (.t 13)), oP 3 (.mv (kI 2))] [0, 12, 13])
 (.ret [2, 3])) .skip))
 (.seq (.seq (.ops [] [oP 4 (.mv (kI 0))] [12])
 (.block 0 (.loop [] l_ref13_New_0)))
 (.seq (.ops [] [oM 49 0, oP 50 (.app 1 (.c (.xsl [])) (.t 49)), oP 51 (.build [.xsl [], aI 0, aI 0, aI 0, aI 0] [(0, (1, .t 50))]), oN (.st 5 (.t 2) (.t 51)), oP 3 (.mv (kI 0))] [0, 4, 17, 49, 50, 51])
 (.ret [2, 3])))))
def r_ref13_New : List ARes := [.c 2 true 5, .t 3]
def fn_ref13_New : AFn := .code c_ref13_New r_ref13_New 52 true
def c_ref18_Go : ACode :=
 (.seq (.ops [] [oP 3 (.box (.t 0)), oP 4 (.box (.t 1)), oP 6 (.alloc (.agg [.xsl [], .xsl [], aI 0, aI 0, .xsl [], aI 0, .xsl [], .xsl [], aI 0, aI 0, aI 0])), oP 7 (.alloc (.agg [aI 0, aI 0, aI 0, aI 0, aI 0, aI 0, aI 0, .xsl [], .xsl [], aI 0, .d (.bool false), aI 0, aI 0, aI 0, .xsl [], aI 0, aI 0, aI 0, aI 0, aI 0, aI 0, aI 0, aI 0, aI 0, aI 0, .xsl [], aI 0, aI 0, aI 0, aI 0, aI 0, aI 0, aI 0, aI 0, .xsl [], aI 0, .xsl [], .xsl [], aI 0, .xsl [], .xsl [], .xsl [], aI 0, .xsl [], .xsl [], .xsl [], .xsl [], aI 0, .xsl [], aI 0, .xsl [], .xsl [], aI 0, aI 0, aI 0, aI 0, aI 0, aI 0, aI 0, aI 0, aI 0, .xsl [], .xsl []])), oP 8 (.mv (.c (.d (.bool false)))), oP 9 (.mv (.c (.d (.bool false)))), oP 10 (.mv (kI 0))] [0, 1, 8, 9, 10])
 (.seq (.ops [] [oP 15 (.ld true 11 (.t 3)), oP 16 (.fad true 23 26 (.t 4)), oP 17 (.ld true 26 (.t 16)), oP 18 (.fad false 0 1 (.t 4)), oP 19 (.ld false 1 (.t 18)), oM 20 2, oP 21 (.call N_ref15_Step [false, false, false, false, true] [.t 15, .t 17, .t 19, .t 20]), oM 14 21, oP 22 (.ext (.t 14) 0), oP 23 (.ext (.t 14) 1), oP 24 (.ext (.t 14) 2), oP 11 (.alloc (.agg [.xsl [], .xsl [], aI 0, aI 0, .xsl [], aI 0, .xsl [], .xsl [], aI 0, aI 0, aI 0])), oP 12 (.alloc (.agg [aI 0, aI 0, .xsl [], aI 0, aI 0, aI 0, aI 0, aI 0, aI 0, aI 0, aI 0, .xsl [], aI 0, .xsl [], .xsl [], aI 0, .xsl [], .xsl [], .xsl [], aI 0, .xsl [], .xsl [], .xsl [], .xsl [], aI 0, .xsl []])), oN (.st 11 (.t 11) (.t 22)), oN (.st 26 (.t 12) (.t 23)), oM 13 24] [2, 3, 14, 15, 16, 17, 18, 19, 20, 21, 22, 23, 24])
 (.seq (.seq (.ops [] [oM 25 13, oP 26 (.bin .neq (.t 25) (kI 0))] [25])
 (.cond (.t 26) (.seq (.ops [] [oP 27 (.build [.xsl [], .xsl [], aI 0, aI 0, .xsl [], aI 0, .xsl [], .xsl [], aI 0, aI 0, aI 0] []), oP 28 (.build [aI 0, aI 0, aI 0, aI 0, aI 0, aI 0, aI 0, .xsl [], .xsl [], aI 0, .d (.bool false), aI 0, aI 0, aI 0, .xsl [], aI 0, aI 0, aI 0, aI 0, aI 0, aI 0, aI 0, aI 0, aI 0, aI 0, .xsl [], aI 0, aI 0, aI 0, aI 0, aI 0, aI 0, aI 0, aI 0, .xsl [], aI 0, .xsl [], .xsl [], aI 0, .xsl [], .xsl [], .xsl [], aI 0, .xsl [], .xsl [], .xsl [], .xsl [], aI 0, .xsl [], aI 0, .xsl [], .xsl [], aI 0, aI 0, aI 0, aI 0, aI 0, aI 0, aI 0, aI 0, aI 0, .xsl [], .xsl []] []), oM 29 13, oN (.st 11 (.t 6) (.t 27)), oN (.st 63 (.t 7) (.t 28)), oP 8 (.mv (.c (.d (.bool false)))), oP 9 (.mv (.c (.d (.bool false)))), oM 10 29] [4, 11, 12, 13, 26, 27, 28, 29])
 (.ret [6, 7, 8, 9, 10])) .skip))
 (.seq (.ops [] [oP 30 (.ld true 26 (.t 12)), oP 31 (.fad true 23 26 (.t 4)), oN (.st 26 (.t 31) (.t 30))] [13, 26, 30, 31])
 (.seq (.draw [] [oP 32 (.ld true 11 (.t 11)), oP 33 (.ld true 63 (.t 4)), oP 34 (.fad false 0 1 (.t 12)), oP 35 (.ld false 1 (.t 34)), oP 36 (.bin .eql (.t 35) (kI 4)), oP 37 (.fad false 0 1 (.t 12)), oP 38 (.ld false 1 (.t 37)), oP 39 (.bin .eql (.t 38) (kI 9)), oN (.st 11 (.t 6) (.t 32)), oN (.st 63 (.t 7) (.t 33)), oM 8 36, oM 9 39, oP 10 (.mv (kI 0))] [[], [0], [0, 1], [0, 1], [0, 1], [0, 1, 2, 3, 4], [0, 1, 2, 3, 4], [0, 1, 2, 3, 4], [1, 2, 3, 4, 5, 6, 7], [2, 3, 4, 5, 6, 7], [5, 6, 7], [], []] [4, 11, 12, 32, 33, 34, 35, 36, 37, 38, 39])
 (.ret [6, 7, 8, 9, 10]))))))
def r_ref18_Go : List ARes := [.c 6 true 11, .c 7 true 63, .t 8, .t 9, .t 10]
def fn_ref18_Go : AFn := .code c_ref18_Go r_ref18_Go 40 true
def c_ref15_Step : ACode :=
 (.seq (.ops [] [oP 4 (.box (.t 0)), oP 5 (.box (.t 1)), oP 8 (.alloc (.agg [.xsl [], .xsl [], aI 0, aI 0, .xsl [], aI 0, .xsl [], .xsl [], aI 0, aI 0, aI 0])), oP 9 (.alloc (.agg [aI 0, aI 0, .xsl [], aI 0, aI 0, aI 0, aI 0, aI 0, aI 0, aI 0, aI 0, .xsl [], aI 0, .xsl [], .xsl [], aI 0, .xsl [], .xsl [], .xsl [], aI 0, .xsl [], .xsl [], .xsl [], .xsl [], aI 0, .xsl []])), oP 10 (.mv (kI 0))] [0, 1, 10])
 (.seq (.ops [] [oP 15 (.ld true 11 (.t 4)), oP 16 (.ld true 26 (.t 5)), oM 17 2, oM 18 3, oP 19 (.call N_ref15_step [false, false, false, false, true] [.t 15, .t 16, .t 17, .t 18]), oM 14 19, oP 20 (.ext (.t 14) 0), oP 21 (.ext (.t 14) 1), oP 22 (.ext (.t 14) 2), oP 11 (.alloc (.agg [.xsl [], .xsl [], aI 0, aI 0, .xsl [], aI 0, .xsl [], .xsl [], aI 0, aI 0, aI 0])), oP 12 (.alloc (.agg [aI 0, aI 0, .xsl [], aI 0, aI 0, aI 0, aI 0, aI 0, aI 0, aI 0, aI 0, .xsl [], aI 0, .xsl [], .xsl [], aI 0, .xsl [], .xsl [], .xsl [], aI 0, .xsl [], .xsl [], .xsl [], .xsl [], aI 0, .xsl []])), oN (.st 11 (.t 11) (.t 20)), oN (.st 26 (.t 12) (.t 21)), oM 13 22] [2, 3, 4, 5, 14, 15, 16, 17, 18, 19, 20, 21, 22])
 (.seq (.seq (.ops [] [oM 23 13, oP 24 (.bin .neq (.t 23) (kI 0))] [23])
 (.cond (.t 24) (.seq (.ops [] [oP 25 (.build [.xsl [], .xsl [], aI 0, aI 0, .xsl [], aI 0, .xsl [], .xsl [], aI 0, aI 0, aI 0] []), oP 26 (.build [aI 0, aI 0, .xsl [], aI 0, aI 0, aI 0, aI 0, aI 0, aI 0, aI 0, aI 0, .xsl [], aI 0, .xsl [], .xsl [], aI 0, .xsl [], .xsl [], .xsl [], aI 0, .xsl [], .xsl [], .xsl [], .xsl [], aI 0, .xsl []] []), oM 27 13, oN (.st 11 (.t 8) (.t 25)), oN (.st 26 (.t 9) (.t 26)), oM 10 27] [11, 12, 13, 24, 25, 26, 27])
 (.ret [8, 9, 10])) .skip))
 (.seq (.draw [] [oP 28 (.ld true 11 (.t 11)), oP 29 (.ld true 26 (.t 12)), oN (.st 11 (.t 8) (.t 28)), oN (.st 26 (.t 9) (.t 29)), oP 10 (.mv (kI 0))] [[], [0], [1], [], []] [11, 12, 13, 24, 28, 29])
 (.ret [8, 9, 10])))))
def r_ref15_Step : List ARes := [.c 8 true 11, .c 9 true 26, .t 10]
def fn_ref15_Step : AFn := .code c_ref15_Step r_ref15_Step 30 true
def c_ref15_step : ACode :=
 (.seq (.ops [] [oP 4 (.box (.t 0)), oP 5 (.box (.t 1)), oP 8 (.alloc (.agg [.xsl [], .xsl [], aI 0, aI 0, .xsl [], aI 0, .xsl [], .xsl [], aI 0, aI 0, aI 0])), oP 9 (.alloc (.agg [aI 0, aI 0, .xsl [], aI 0, aI 0, aI 0, aI 0, aI 0, aI 0, aI 0, aI 0, .xsl [], aI 0, .xsl [], .xsl [], aI 0, .xsl [], .xsl [], .xsl [], aI 0, .xsl [], .xsl [], .xsl [], .xsl [], aI 0, .xsl []])), oP 10 (.mv (kI 0))] [0, 1, 10])
 (.seq (.seq (.ops [] [oP 19 (.fad false 0 1 (.t 5)), oP 20 (.ld false 1 (.t 19))] [19])
 (.block 0 (.seq (.ops [] [oP 22 (.bin .eql (.t 20) (kI 0)), oM 21 22] [22])
 (.cond (.t 21) (.seq (.ops [] [oP 24 (.ld true 11 (.t 4)), oP 25 (.fad true 2 5 (.t 5)), oP 26 (.ld true 5 (.t 25)), oM 27 2, oP 28 (.call N_ref13_Step [false, false, false, true] [.t 24, .t 26, .t 27]), oM 23 28, oP 29 (.ext (.t 23) 0), oP 30 (.ext (.t 23) 1), oP 31 (.ext (.t 23) 2), oP 11 (.alloc (.agg [.xsl [], .xsl [], aI 0, aI 0, .xsl [], aI 0, .xsl [], .xsl [], aI 0, aI 0, aI 0])), oP 12 (.alloc (.agg [.xsl [], aI 0, aI 0, aI 0, aI 0])), oN (.st 11 (.t 11) (.t 29)), oN (.st 5 (.t 12) (.t 30)), oM 13 31] [2, 3, 20, 21, 23, 24, 25, 26, 27, 28, 29, 30, 31])
 (.seq (.ops [] [oP 32 (.ld true 5 (.t 12)), oP 33 (.fad true 2 5 (.t 5)), oN (.st 5 (.t 33) (.t 32))] [32, 33])
 (.seq (.seq (.ops [] [oM 34 13, oP 35 (.bin .eql (.t 34) (kI 0)), oM 36 35, oQ 37 (.fad false 1 1 (.t 12)) 36 true, oQ 38 (.ld false 1 (.t 37)) 36 true, oQ 39 (.bin .eql (.t 38) (kI 3)) 36 true, oP 40 (.pick (.t 36) (.t 39) (.c (.d (.bool false))))] [12, 34, 35, 36, 37, 38, 39])
 (.cond (.t 40) (.seq (.ops [] [oP 41 (.ld true 26 (.t 5)), oP 42 (.call N_ref15_enter [false, false, true] [.t 41, kI 1]), oN (.st 26 (.t 5) (.t 42))] [40, 41, 42])
 (.seq (.ops [] [oP 43 (.ld true 11 (.t 4)), oP 44 (.ld true 26 (.t 5)), oP 45 (.call N_ref15_slots [] [.t 43, .t 44]), oP 46 (.bin .eql (.t 45) (kI 0))] [4, 43, 44, 45])
 (.cond (.t 46) (.ops [] [oP 47 (.ld true 26 (.t 5)), oP 48 (.call N_ref15_enter [false, false, true] [.t 47, kI 2]), oN (.st 26 (.t 5) (.t 48))] [46, 47, 48]) .skip))) .skip))
 (.seq (.draw [] [oP 49 (.ld true 11 (.t 11)), oP 50 (.ld true 26 (.t 5)), oM 51 13, oN (.st 11 (.t 8) (.t 49)), oN (.st 26 (.t 9) (.t 50)), oM 10 51] [[], [0], [0, 1], [1, 2], [2], []] [4, 5, 11, 13, 40, 46, 49, 50, 51])
 (.ret [8, 9, 10]))))) (.seq (.ops [] [oP 53 (.bin .eql (.t 20) (kI 1)), oM 52 53] [21, 53])
 (.cond (.t 52) (.seq (.ops [] [oP 54 (.ld true 11 (.t 4)), oP 55 (.ld true 26 (.t 5)), oM 56 2, oP 57 (.call N_ref15_mark [false, false, false, true] [.t 54, .t 55, .t 56]), oP 58 (.ext (.t 57) 0), oP 59 (.ext (.t 57) 1), oP 60 (.ext (.t 57) 2), oN (.st 11 (.t 8) (.t 58)), oN (.st 26 (.t 9) (.t 59)), oM 10 60] [2, 3, 4, 5, 20, 52, 54, 55, 56, 57, 58, 59, 60])
 (.ret [8, 9, 10])) (.seq (.ops [] [oP 62 (.bin .eql (.t 20) (kI 2)), oM 61 62] [52, 62])
 (.cond (.t 61) (.seq (.ops [] [oP 63 (.ld true 11 (.t 4)), oP 64 (.ld true 26 (.t 5)), oP 65 (.call N_ref15_load [false, false, true] [.t 63, .t 64]), oP 66 (.ext (.t 65) 0), oP 67 (.ext (.t 65) 1), oP 68 (.ext (.t 65) 2), oN (.st 11 (.t 8) (.t 66)), oN (.st 26 (.t 9) (.t 67)), oM 10 68] [2, 3, 4, 5, 20, 61, 63, 64, 65, 66, 67, 68])
 (.ret [8, 9, 10])) (.seq (.ops [] [oP 70 (.bin .eql (.t 20) (kI 3)), oM 69 70] [61, 70])
 (.cond (.t 69) (.seq (.ops [] [oP 72 (.ld true 11 (.t 4)), oP 73 (.fad true 7 4 (.t 5)), oP 74 (.ld true 4 (.t 73)), oM 75 3, oP 76 (.call N_ref14_Step [] [.t 72, .t 74, .t 75]), oM 71 76, oP 77 (.ext (.t 71) 0), oP 78 (.ext (.t 71) 1), oP 14 (.alloc (.d (.agg [.int .i64 0, .int .i64 0, .int .i64 0, .int .i64 0]))), oN (.st 4 (.t 14) (.t 77)), oM 15 78] [2, 3, 20, 69, 71, 72, 73, 74, 75, 76, 77, 78])
 (.seq (.ops [] [oP 79 (.ld true 4 (.t 14)), oP 80 (.fad true 7 4 (.t 5)), oN (.st 4 (.t 80) (.t 79))] [79, 80])
 (.seq (.seq (.ops [] [oM 81 15, oP 82 (.bin .eql (.t 81) (kI 0)), oM 83 82, oQ 84 (.fad false 0 1 (.t 14)) 83 true, oQ 85 (.ld false 1 (.t 84)) 83 true, oQ 86 (.bin .eql (.t 85) (kI 3)) 83 true, oP 87 (.pick (.t 83) (.t 86) (.c (.d (.bool false))))] [14, 81, 82, 83, 84, 85, 86])
 (.cond (.t 87) (.ops [] [oP 88 (.ld true 26 (.t 5)), oP 89 (.call N_ref15_enter [false, false, true] [.t 88, kI 4]), oN (.st 26 (.t 5) (.t 89))] [87, 88, 89]) .skip))
 (.seq (.draw [] [oP 90 (.ld true 11 (.t 4)), oP 91 (.ld true 26 (.t 5)), oM 92 15, oN (.st 11 (.t 8) (.t 90)), oN (.st 26 (.t 9) (.t 91)), oM 10 92] [[], [0], [0, 1], [1, 2], [2], []] [4, 5, 15, 87, 90, 91, 92])
 (.ret [8, 9, 10]))))) (.seq (.ops [] [oP 94 (.bin .eql (.t 20) (kI 5)), oM 93 94] [3, 69, 94])
 (.cond (.t 93) (.seq (.ops [] [oP 95 (.ld true 11 (.t 4)), oP 96 (.ld true 26 (.t 5)), oM 97 2, oP 98 (.call N_ref15_store [false, false, false, true] [.t 95, .t 96, .t 97]), oP 99 (.ext (.t 98) 0), oP 100 (.ext (.t 98) 1), oP 101 (.ext (.t 98) 2), oN (.st 11 (.t 8) (.t 99)), oN (.st 26 (.t 9) (.t 100)), oM 10 101] [2, 4, 5, 20, 93, 95, 96, 97, 98, 99, 100, 101])
 (.ret [8, 9, 10])) (.seq (.ops [] [oP 103 (.bin .eql (.t 20) (kI 6)), oM 102 103] [93, 103])
 (.cond (.t 102) (.seq (.ops [] [oP 104 (.ld true 11 (.t 4)), oP 105 (.ld true 26 (.t 5)), oP 106 (.call N_ref15_edit [false, false, true] [.t 104, .t 105]), oP 107 (.ext (.t 106) 0), oP 108 (.ext (.t 106) 1), oP 109 (.ext (.t 106) 2), oN (.st 11 (.t 8) (.t 107)), oN (.st 26 (.t 9) (.t 108)), oM 10 109] [2, 4, 5, 20, 102, 104, 105, 106, 107, 108, 109])
 (.ret [8, 9, 10])) (.seq (.ops [] [oP 111 (.bin .eql (.t 20) (kI 7)), oM 110 111] [102, 111])
 (.cond (.t 110) (.seq (.ops [] [oP 112 (.ld true 11 (.t 4)), oP 113 (.ld true 26 (.t 5)), oM 114 2, oP 115 (.call N_ref15_unmark [false, false, false, true] [.t 112, .t 113, .t 114]), oP 116 (.ext (.t 115) 0), oP 117 (.ext (.t 115) 1), oP 118 (.ext (.t 115) 2), oN (.st 11 (.t 8) (.t 116)), oN (.st 26 (.t 9) (.t 117)), oM 10 118] [2, 4, 5, 20, 110, 112, 113, 114, 115, 116, 117, 118])
 (.ret [8, 9, 10])) (.seq (.ops [] [oP 120 (.bin .eql (.t 20) (kI 8)), oM 119 120] [20, 110, 120])
 (.cond (.t 119) (.seq (.ops [] [oP 122 (.ld true 11 (.t 4)), oP 123 (.fad true 2 5 (.t 5)), oP 124 (.ld true 5 (.t 123)), oM 125 2, oP 126 (.call N_ref13_Step [false, false, false, true] [.t 122, .t 124, .t 125]), oM 121 126, oP 127 (.ext (.t 121) 0), oP 128 (.ext (.t 121) 1), oP 129 (.ext (.t 121) 2), oP 16 (.alloc (.agg [.xsl [], .xsl [], aI 0, aI 0, .xsl [], aI 0, .xsl [], .xsl [], aI 0, aI 0, aI 0])), oP 17 (.alloc (.agg [.xsl [], aI 0, aI 0, aI 0, aI 0])), oN (.st 11 (.t 16) (.t 127)), oN (.st 5 (.t 17) (.t 128)), oM 18 129] [2, 4, 119, 121, 122, 123, 124, 125, 126, 127, 128, 129])
 (.seq (.ops [] [oP 130 (.ld true 5 (.t 17)), oP 131 (.fad true 2 5 (.t 5)), oN (.st 5 (.t 131) (.t 130))] [130, 131])
 (.seq (.seq (.ops [] [oM 132 18, oP 133 (.bin .eql (.t 132) (kI 0)), oM 134 133, oQ 135 (.fad false 1 1 (.t 17)) 134 true, oQ 136 (.ld false 1 (.t 135)) 134 true, oQ 137 (.bin .eql (.t 136) (kI 5)) 134 true, oP 138 (.pick (.t 134) (.t 137) (.c (.d (.bool false))))] [17, 132, 133, 134, 135, 136, 137])
 (.cond (.t 138) (.ops [] [oP 139 (.ld true 26 (.t 5)), oP 140 (.call N_ref15_enter [false, false, true] [.t 139, kI 9]), oN (.st 26 (.t 5) (.t 140))] [138, 139, 140]) .skip))
 (.seq (.draw [] [oP 141 (.ld true 11 (.t 16)), oP 142 (.ld true 26 (.t 5)), oM 143 18, oN (.st 11 (.t 8) (.t 141)), oN (.st 26 (.t 9) (.t 142)), oM 10 143] [[], [0], [0, 1], [1, 2], [2], []] [5, 16, 18, 138, 141, 142, 143])
 (.ret [8, 9, 10]))))) .skip))))))))))))))))))
 (.seq (.draw [] [oP 144 (.ld true 11 (.t 4)), oP 145 (.ld true 26 (.t 5)), oN (.st 11 (.t 8) (.t 144)), oN (.st 26 (.t 9) (.t 145)), oP 10 (.mv (kI 7))] [[], [0], [1], [], []] [2, 4, 5, 119, 144, 145])
 (.ret [8, 9, 10]))))
def r_ref15_step : List ARes := [.c 8 true 11, .c 9 true 26, .t 10]
def fn_ref15_step : AFn := .code c_ref15_step r_ref15_step 146 true
def c_ref13_Step : ACode :=
 (.seq (.ops [] [oP 3 (.box (.t 0)), oP 4 (.box (.t 1)), oP 6 (.alloc (.agg [.xsl [], .xsl [], aI 0, aI 0, .xsl [], aI 0, .xsl [], .xsl [], aI 0, aI 0, aI 0])), oP 7 (.alloc (.agg [.xsl [], aI 0, aI 0, aI 0, aI 0])), oP 8 (.mv (kI 0))] [0, 1, 8])
 (.seq (.seq (.ops [] [oP 14 (.fad false 1 1 (.t 4)), oP 15 (.ld false 1 (.t 14))] [14])
 (.block 0 (.seq (.ops [] [oP 17 (.bin .eql (.t 15) (kI 0)), oM 16 17] [17])
 (.cond (.t 16) (.seq (.draw [] [oP 19 (.ld true 11 (.t 3)), oP 20 (.fad false 0 1 (.t 4)), oP 21 (.ld false 1 (.t 20)), oP 22 (.fad false 2 1 (.t 4)), oP 23 (.ld false 1 (.t 22)), oP 24 (.iad 1 (.t 21) (.t 23)), oP 25 (.ld false 1 (.t 24)), oM 26 2, oP 27 (.call N_ref12_TryLock [false, false, false, true] [.t 19, .t 25, .t 26]), oM 18 27, oP 28 (.ext (.t 18) 0), oP 29 (.ext (.t 18) 1), oP 30 (.ext (.t 18) 2), oP 9 (.alloc (.agg [.xsl [], .xsl [], aI 0, aI 0, .xsl [], aI 0, .xsl [], .xsl [], aI 0, aI 0, aI 0])), oN (.st 11 (.t 9) (.t 28)), oM 10 29, oM 11 30] [[], [0], [0], [0, 1, 2], [0, 1, 2], [0], [0], [0, 1, 2, 3, 4, 5, 6], [], [], [], [10], [10, 11], [0, 1, 2, 3, 4, 5, 6, 7, 8, 9, 10, 11, 12], [11, 12], [12], []] [2, 3, 15, 16, 18, 19, 20, 21, 22, 23, 24, 25, 26, 27, 28, 29, 30])
 (.seq (.seq (.ops [] [oM 31 11, oP 32 (.bin .neq (.t 31) (kI 0))] [31])
 (.cond (.t 32) (.seq (.ops [] [oP 33 (.build [.xsl [], .xsl [], aI 0, aI 0, .xsl [], aI 0, .xsl [], .xsl [], aI 0, aI 0, aI 0] []), oP 34 (.build [.xsl [], aI 0, aI 0, aI 0, aI 0] []), oM 35 11, oN (.st 11 (.t 6) (.t 33)), oN (.st 5 (.t 7) (.t 34)), oM 8 35] [4, 9, 10, 11, 32, 33, 34, 35])
 (.ret [6, 7, 8])) .skip))
 (.seq (.block 1 (.seq (.ops [] [oM 37 10, oM 36 37] [10, 11, 32, 37])
 (.cond (.t 36) (.seq (.ops [] [oP 38 (.fad false 2 1 (.t 4)), oP 39 (.ld false 1 (.t 38)), oP 40 (.bin .add (.t 39) (kI 1)), oP 41 (.fad false 2 1 (.t 4)), oN (.st 1 (.t 41) (.t 40))] [36, 38, 39, 40, 41])
 (.seq (.ops [] [oP 42 (.fad false 2 1 (.t 4)), oP 43 (.ld false 1 (.t 42)), oP 44 (.fad false 0 1 (.t 4)), oP 45 (.ld false 1 (.t 44)), oP 46 (.len (.t 45)), oP 47 (.bin .eql (.t 43) (.t 46))] [42, 43, 44, 45, 46])
 (.cond (.t 47) (.ops [] [oP 48 (.fad false 1 1 (.t 4)), oN (.st 1 (.t 48) (kI 3))] [47, 48]) .skip))) (.seq (.ops [] [oP 50 (.fad false 2 1 (.t 4)), oP 51 (.ld false 1 (.t 50)), oP 52 (.bin .gtr (.t 51) (kI 0)), oM 49 52] [36, 50, 51, 52])
 (.cond (.t 49) (.ops [] [oP 53 (.fad false 1 1 (.t 4)), oN (.st 1 (.t 53) (kI 1))] [49, 53]) .skip)))))
 (.seq (.draw [] [oP 54 (.ld true 11 (.t 9)), oP 55 (.ld true 5 (.t 4)), oN (.st 11 (.t 6) (.t 54)), oN (.st 5 (.t 7) (.t 55)), oP 8 (.mv (kI 0))] [[], [0], [1], [], []] [4, 9, 47, 49, 54, 55])
 (.ret [6, 7, 8]))))) (.seq (.seq (.ops [] [oP 57 (.bin .eql (.t 15) (kI 1)), oM 56 57] [16, 57])
 (.cond (.t 56) .skip (.ops [] [oP 58 (.bin .eql (.t 15) (kI 4)), oM 56 58] [58])))
 (.cond (.t 56) (.seq (.draw [] [oP 60 (.ld true 11 (.t 3)), oP 61 (.fad false 0 1 (.t 4)), oP 62 (.ld false 1 (.t 61)), oP 63 (.fad false 2 1 (.t 4)), oP 64 (.ld false 1 (.t 63)), oP 65 (.bin .sub (.t 64) (kI 1)), oP 66 (.iad 1 (.t 62) (.t 65)), oP 67 (.ld false 1 (.t 66)), oM 68 2, oP 69 (.call N_ref12_Unlock [false, false, false, true] [.t 60, .t 67, .t 68]), oM 59 69, oP 70 (.ext (.t 59) 0), oP 71 (.ext (.t 59) 1), oP 12 (.alloc (.agg [.xsl [], .xsl [], aI 0, aI 0, .xsl [], aI 0, .xsl [], .xsl [], aI 0, aI 0, aI 0])), oN (.st 11 (.t 12) (.t 70)), oM 13 71] [[], [0], [0], [0, 1, 2], [0, 1, 2], [0, 1, 2], [0], [0], [0, 1, 2, 3, 4, 5, 6, 7], [], [], [], [11], [0, 1, 2, 3, 4, 5, 6, 7, 8, 9, 10, 11, 12], [12], []] [2, 3, 15, 56, 59, 60, 61, 62, 63, 64, 65, 66, 67, 68, 69, 70, 71])
 (.seq (.seq (.ops [] [oM 72 13, oP 73 (.bin .neq (.t 72) (kI 0))] [72])
 (.cond (.t 73) (.seq (.ops [] [oP 74 (.build [.xsl [], .xsl [], aI 0, aI 0, .xsl [], aI 0, .xsl [], .xsl [], aI 0, aI 0, aI 0] []), oP 75 (.build [.xsl [], aI 0, aI 0, aI 0, aI 0] []), oM 76 13, oN (.st 11 (.t 6) (.t 74)), oN (.st 5 (.t 7) (.t 75)), oM 8 76] [4, 12, 13, 73, 74, 75, 76])
 (.ret [6, 7, 8])) .skip))
 (.seq (.ops [] [oP 77 (.fad false 2 1 (.t 4)), oP 78 (.ld false 1 (.t 77)), oP 79 (.bin .sub (.t 78) (kI 1)), oP 80 (.fad false 2 1 (.t 4)), oN (.st 1 (.t 80) (.t 79))] [13, 73, 77, 78, 79, 80])
 (.seq (.block 2 (.seq (.ops [] [oP 91 (.fad false 2 1 (.t 4)), oP 92 (.ld false 1 (.t 91)), oP 93 (.bin .gtr (.t 92) (kI 0)), oM 90 93] [91, 92, 93])
 (.cond (.t 90) .skip (.seq (.ops [] [oP 95 (.fad false 1 1 (.t 4)), oP 96 (.ld false 1 (.t 95)), oP 97 (.bin .eql (.t 96) (kI 4)), oM 94 97] [90, 95, 96, 97])
 (.cond (.t 94) (.ops [] [oP 98 (.fad false 1 1 (.t 4)), oN (.st 1 (.t 98) (kI 5))] [94, 98]) (.seq (.ops [] [oP 81 (.fad false 3 1 (.t 4)), oP 82 (.ld false 1 (.t 81)), oP 83 (.bin .add (.t 82) (kI 1)), oP 84 (.fad false 3 1 (.t 4)), oN (.st 1 (.t 84) (.t 83))] [81, 82, 83, 84, 94])
 (.seq (.ops [] [oP 85 (.fad false 3 1 (.t 4)), oP 86 (.ld false 1 (.t 85)), oP 87 (.mm false [.t 86, kI 3]), oP 88 (.fad false 4 1 (.t 4)), oN (.st 1 (.t 88) (.t 87))] [85, 86, 87, 88])
 (.ops [] [oP 89 (.fad false 1 1 (.t 4)), oN (.st 1 (.t 89) (kI 2))] [89]))))))))
 (.seq (.draw [] [oP 99 (.ld true 11 (.t 12)), oP 100 (.ld true 5 (.t 4)), oN (.st 11 (.t 6) (.t 99)), oN (.st 5 (.t 7) (.t 100)), oP 8 (.mv (kI 0))] [[], [0], [1], [], []] [4, 12, 90, 99, 100])
 (.ret [6, 7, 8])))))) (.seq (.ops [] [oP 102 (.bin .eql (.t 15) (kI 2)), oM 101 102] [2, 15, 56, 102])
 (.cond (.t 101) (.seq (.ops [] [oP 103 (.fad false 4 1 (.t 4)), oP 104 (.ld false 1 (.t 103)), oP 105 (.bin .sub (.t 104) (kI 1)), oP 106 (.fad false 4 1 (.t 4)), oN (.st 1 (.t 106) (.t 105))] [101, 103, 104, 105, 106])
 (.seq (.seq (.ops [] [oP 107 (.fad false 4 1 (.t 4)), oP 108 (.ld false 1 (.t 107)), oP 109 (.bin .eql (.t 108) (kI 0))] [107, 108])
 (.cond (.t 109) (.ops [] [oP 110 (.fad false 1 1 (.t 4)), oN (.st 1 (.t 110) (kI 0))] [109, 110]) .skip))
 (.seq (.draw [] [oP 111 (.ld true 11 (.t 3)), oP 112 (.ld true 5 (.t 4)), oN (.st 11 (.t 6) (.t 111)), oN (.st 5 (.t 7) (.t 112)), oP 8 (.mv (kI 0))] [[], [0], [1], [], []] [3, 4, 109, 111, 112])
 (.ret [6, 7, 8])))) .skip))))))))
 (.seq (.ops [] [oP 113 (.build [.xsl [], .xsl [], aI 0, aI 0, .xsl [], aI 0, .xsl [], .xsl [], aI 0, aI 0, aI 0] []), oP 114 (.build [.xsl [], aI 0, aI 0, aI 0, aI 0] []), oN (.st 11 (.t 6) (.t 113)), oN (.st 5 (.t 7) (.t 114)), oP 8 (.mv (kI 7))] [3, 4, 101, 113, 114])
 (.ret [6, 7, 8]))))
def r_ref13_Step : List ARes := [.c 6 true 11, .c 7 true 5, .t 8]
def fn_ref13_Step : AFn := .code c_ref13_Step r_ref13_Step 115 true
def c_ref12_TryLock : ACode :=
 (.seq (.ops [] [oP 3 (.box (.t 0)), oP 6 (.alloc (.agg [.xsl [], .xsl [], aI 0, aI 0, .xsl [], aI 0, .xsl [], .xsl [], aI 0, aI 0, aI 0])), oP 7 (.mv (.c (.d (.bool false)))), oP 8 (.mv (kI 0))] [0, 7, 8])
 (.seq (.seq (.ops [] [oM 9 1, oP 10 (.bin .lss (.t 9) (kI 0)), oM 11 10, oQ 12 (.mv (.t 1)) 11 false, oQ 13 (.fad false 0 1 (.t 3)) 11 false, oQ 14 (.ld false 1 (.t 13)) 11 false, oQ 15 (.len (.t 14)) 11 false, oQ 16 (.bin .gtr (.t 12) (.t 15)) 11 false, oP 17 (.pick (.t 11) (.c (.d (.bool true))) (.t 16)), oM 18 17, oQ 19 (.mv (.t 2)) 18 false, oQ 20 (.call N_ref12_task [] [.t 19]) 18 false, oQ 21 (.un .not (.t 20)) 18 false, oP 22 (.pick (.t 18) (.c (.d (.bool true))) (.t 21))] [9, 10, 11, 12, 13, 14, 15, 16, 17, 18, 19, 20, 21])
 (.cond (.t 22) (.seq (.ops [] [oP 23 (.build [.xsl [], .xsl [], aI 0, aI 0, .xsl [], aI 0, .xsl [], .xsl [], aI 0, aI 0, aI 0] []), oN (.st 11 (.t 6) (.t 23)), oP 7 (.mv (.c (.d (.bool false)))), oP 8 (.mv (kI 1))] [1, 2, 3, 22, 23])
 (.ret [6, 7, 8])) .skip))
 (.seq (.seq (.ops [] [oP 24 (.ld true 11 (.t 3)), oM 25 1, oP 26 (.call N_ref12_Owner [] [.t 24, .t 25]), oP 27 (.bin .neq (.t 26) (kI 0))] [22, 24, 25, 26])
 (.cond (.t 27) (.seq (.ops [] [oP 28 (.ld true 11 (.t 3)), oN (.st 11 (.t 6) (.t 28)), oP 7 (.mv (.c (.d (.bool false)))), oP 8 (.mv (kI 0))] [1, 2, 3, 27, 28])
 (.ret [6, 7, 8])) .skip))
 (.seq (.ops [] [oP 29 (.ld true 11 (.t 3)), oM 30 1, oM 31 2, oP 32 (.call N_ref12_own [false, false, false, true] [.t 29, .t 30, .t 31]), oN (.st 11 (.t 6) (.t 32)), oP 7 (.mv (.c (.d (.bool true)))), oP 8 (.mv (kI 0))] [1, 2, 3, 27, 29, 30, 31, 32])
 (.ret [6, 7, 8])))))
def r_ref12_TryLock : List ARes := [.c 6 true 11, .t 7, .t 8]
def fn_ref12_TryLock : AFn := .code c_ref12_TryLock r_ref12_TryLock 33 true
def c_ref12_task : ACode :=
 (.seq (.ops [] [oP 2 (.mv (.c (.d (.bool false))))] [2])
 (.seq (.ops [] [oM 3 0, oP 4 (.bin .geq (.t 3) (kI 1)), oM 5 4, oQ 6 (.mv (.t 0)) 5 true, oQ 7 (.bin .leq (.t 6) (kI 200)) 5 true, oP 8 (.pick (.t 5) (.t 7) (.c (.d (.bool false)))), oM 2 8] [0, 3, 4, 5, 6, 7, 8])
 (.ret [2])))
def r_ref12_task : List ARes := [.t 2]
def fn_ref12_task : AFn := .code c_ref12_task r_ref12_task 9 true
def c_ref12_Owner : ACode :=
 (.seq (.ops [] [oP 2 (.box (.t 0)), oP 4 (.mv (kI 0))] [0, 4])
 (.seq (.seq (.ops [] [oM 5 1, oP 6 (.fad false 0 1 (.t 2)), oP 7 (.ld false 1 (.t 6)), oP 8 (.len (.t 7)), oP 9 (.bin .eql (.t 5) (.t 8))] [5, 6, 7, 8])
 (.cond (.t 9) (.seq (.ops [] [oP 10 (.fad true 2 3 (.t 2)), oP 11 (.fad false 0 1 (.t 10)), oP 12 (.ld false 1 (.t 11)), oM 4 12] [1, 2, 9, 10, 11, 12])
 (.ret [4])) .skip))
 (.seq (.ops [] [oP 13 (.fad false 0 1 (.t 2)), oP 14 (.ld false 1 (.t 13)), oM 15 1, oP 16 (.iad 9 (.t 14) (.t 15)), oP 17 (.fad false 0 1 (.t 16)), oP 18 (.ld false 1 (.t 17)), oM 4 18] [1, 2, 9, 13, 14, 15, 16, 17, 18])
 (.ret [4]))))
def r_ref12_Owner : List ARes := [.t 4]
def fn_ref12_Owner : AFn := .code c_ref12_Owner r_ref12_Owner 19 true
def c_ref12_own : ACode :=
 (.seq (.ops [] [oP 3 (.box (.t 0)), oP 6 (.alloc (.agg [.xsl [], .xsl [], aI 0, aI 0, .xsl [], aI 0, .xsl [], .xsl [], aI 0, aI 0, aI 0]))] [0])
 (.seq (.seq (.ops [] [oM 7 1, oP 8 (.fad false 0 1 (.t 3)), oP 9 (.ld false 1 (.t 8)), oP 10 (.len (.t 9)), oP 11 (.bin .eql (.t 7) (.t 10))] [7, 8, 9, 10])
 (.cond (.t 11) (.seq (.ops [] [oM 12 2, oP 13 (.fad true 2 3 (.t 3)), oP 14 (.fad false 0 1 (.t 13)), oN (.st 1 (.t 14) (.t 12))] [1, 2, 11, 12, 13, 14])
 (.seq (.ops [] [oP 15 (.ld true 11 (.t 3)), oN (.st 11 (.t 6) (.t 15))] [3, 15])
 (.ret [6]))) .skip))
 (.seq (.ops [] [oP 16 (.fad false 0 1 (.t 3)), oP 17 (.ld false 1 (.t 16)), oP 18 (.app 9 (.c (.xsl [])) (.t 17)), oP 19 (.fad false 0 1 (.t 3)), oN (.st 1 (.t 19) (.t 18))] [11, 16, 17, 18, 19])
 (.seq (.ops [36] [oP 20 (.fad false 0 1 (.t 3)), oP 21 (.ld false 1 (.t 20)), oM 22 1, oM 23 2, oP 24 (.iad 9 (.t 21) (.t 22)), oP 25 (.fad false 0 1 (.t 24)), oN (.st 1 (.t 25) (.t 23))] [1, 2, 20, 21, 22, 23, 24, 25])
 (.seq (.ops [] [oP 26 (.ld true 11 (.t 3)), oN (.st 11 (.t 6) (.t 26))] [3, 26])
 (.ret [6]))))))
def r_ref12_own : List ARes := [.c 6 true 11]
def fn_ref12_own : AFn := .code c_ref12_own r_ref12_own 27 true
def c_ref12_Unlock : ACode :=
 (.seq (.ops [] [oP 3 (.box (.t 0)), oP 6 (.alloc (.agg [.xsl [], .xsl [], aI 0, aI 0, .xsl [], aI 0, .xsl [], .xsl [], aI 0, aI 0, aI 0])), oP 7 (.mv (kI 0))] [0, 7])
 (.seq (.seq (.ops [] [oM 8 1, oP 9 (.bin .lss (.t 8) (kI 0)), oM 10 9, oQ 11 (.mv (.t 1)) 10 false, oQ 12 (.fad false 0 1 (.t 3)) 10 false, oQ 13 (.ld false 1 (.t 12)) 10 false, oQ 14 (.len (.t 13)) 10 false, oQ 15 (.bin .gtr (.t 11) (.t 14)) 10 false, oP 16 (.pick (.t 10) (.c (.d (.bool true))) (.t 15)), oM 17 16, oQ 18 (.mv (.t 2)) 17 false, oQ 19 (.call N_ref12_task [] [.t 18]) 17 false, oQ 20 (.un .not (.t 19)) 17 false, oP 21 (.pick (.t 17) (.c (.d (.bool true))) (.t 20))] [8, 9, 10, 11, 12, 13, 14, 15, 16, 17, 18, 19, 20])
 (.cond (.t 21) (.seq (.ops [] [oP 22 (.build [.xsl [], .xsl [], aI 0, aI 0, .xsl [], aI 0, .xsl [], .xsl [], aI 0, aI 0, aI 0] []), oN (.st 11 (.t 6) (.t 22)), oP 7 (.mv (kI 1))] [1, 2, 3, 21, 22])
 (.ret [6, 7])) .skip))
 (.seq (.seq (.ops [] [oP 23 (.ld true 11 (.t 3)), oM 24 1, oP 25 (.call N_ref12_Owner [] [.t 23, .t 24]), oM 26 2, oP 27 (.bin .neq (.t 25) (.t 26))] [2, 21, 23, 24, 25, 26])
 (.cond (.t 27) (.seq (.ops [] [oP 28 (.build [.xsl [], .xsl [], aI 0, aI 0, .xsl [], aI 0, .xsl [], .xsl [], aI 0, aI 0, aI 0] []), oN (.st 11 (.t 6) (.t 28)), oP 7 (.mv (kI 13))] [1, 3, 27, 28])
 (.ret [6, 7])) .skip))
 (.seq (.ops [] [oP 29 (.ld true 11 (.t 3)), oM 30 1, oP 31 (.call N_ref12_own [false, false, false, true] [.t 29, .t 30, kI 0]), oN (.st 11 (.t 6) (.t 31)), oP 7 (.mv (kI 0))] [1, 3, 27, 29, 30, 31])
 (.ret [6, 7])))))
def r_ref12_Unlock : List ARes := [.c 6 true 11, .t 7]
def fn_ref12_Unlock : AFn := .code c_ref12_Unlock r_ref12_Unlock 32 true
def c_ref15_enter : ACode :=
 (.seq (.ops [] [oP 2 (.box (.t 0)), oP 4 (.alloc (.agg [aI 0, aI 0, .xsl [], aI 0, aI 0, aI 0, aI 0, aI 0, aI 0, aI 0, aI 0, .xsl [], aI 0, .xsl [], .xsl [], aI 0, .xsl [], .xsl [], .xsl [], aI 0, .xsl [], .xsl [], .xsl [], .xsl [], aI 0, .xsl []]))] [0])
 (.seq (.ops [] [oM 5 1, oP 6 (.fad false 0 1 (.t 2)), oN (.st 1 (.t 6) (.t 5)), oP 7 (.fad false 1 1 (.t 2)), oN (.st 1 (.t 7) (kI 0))] [1, 5, 6, 7])
 (.seq (.ops [] [oP 8 (.ld true 26 (.t 2)), oN (.st 26 (.t 4) (.t 8))] [2, 8])
 (.ret [4]))))
def r_ref15_enter : List ARes := [.c 4 true 26]
def fn_ref15_enter : AFn := .code c_ref15_enter r_ref15_enter 9 true
def l_ref15_slots_0 : ACode :=
 (.seq (.seq (.ops [] [oM 7 6, oP 8 (.fad true 2 5 (.t 3)), oP 9 (.fad false 0 1 (.t 8)), oP 10 (.ld false 1 (.t 9)), oP 11 (.len (.t 10)), oP 12 (.bin .lss (.t 7) (.t 11))] [7, 8, 9, 10, 11])
 (.cond (.t 12) .skip (.exit 0 [5])))
 (.seq (.block 1 (.seq (.draw [] [oP 15 (.fad true 2 5 (.t 3)), oP 16 (.fad false 0 1 (.t 15)), oP 17 (.ld false 1 (.t 16)), oM 18 6, oP 19 (.iad 1 (.t 17) (.t 18)), oP 20 (.ld false 1 (.t 19)), oP 21 (.fad false 0 1 (.t 2)), oP 22 (.ld false 1 (.t 21)), oP 23 (.len (.t 22)), oP 24 (.bin .lss (.t 20) (.t 23))] [[], [], [], [0, 1, 2], [], [], [0, 1, 2, 3, 4, 5], [0, 1, 2, 3, 4, 5], [0, 1, 2, 3, 4, 5], []] [12, 15, 16, 17, 18, 19, 20, 21, 22, 23])
 (.cond (.t 24) (.ops [] [oM 25 5, oP 26 (.bin .add (.t 25) (kI 1)), oM 5 26] [24, 25, 26]) .skip)))
 (.ops [] [oM 13 6, oP 14 (.bin .add (.t 13) (kI 1)), oM 6 14] [13, 14, 24])))
def c_ref15_slots : ACode :=
 (.seq (.ops [] [oP 2 (.box (.t 0)), oP 3 (.box (.t 1)), oP 4 (.mv (kI 0))] [0, 1, 4])
 (.seq (.ops [] [oP 5 (.mv (kI 0))] [])
 (.seq (.seq (.ops [] [oP 6 (.mv (kI 0))] [])
 (.block 0 (.loop [] l_ref15_slots_0)))
 (.seq (.ops [] [oM 27 5, oM 4 27] [2, 3, 5, 6, 12, 27])
 (.ret [4])))))
def r_ref15_slots : List ARes := [.t 4]
def fn_ref15_slots : AFn := .code c_ref15_slots r_ref15_slots 28 true
def c_ref15_mark : ACode :=
 (.seq (.ops [] [oP 3 (.box (.t 0)), oP 4 (.box (.t 1)), oP 6 (.alloc (.agg [.xsl [], .xsl [], aI 0, aI 0, .xsl [], aI 0, .xsl [], .xsl [], aI 0, aI 0, aI 0])), oP 7 (.alloc (.agg [aI 0, aI 0, .xsl [], aI 0, aI 0, aI 0, aI 0, aI 0, aI 0, aI 0, aI 0, .xsl [], aI 0, .xsl [], .xsl [], aI 0, .xsl [], .xsl [], .xsl [], aI 0, .xsl [], .xsl [], .xsl [], .xsl [], aI 0, .xsl []])), oP 8 (.mv (kI 0))] [0, 1, 8])
 (.seq (.ops [] [oP 15 (.fad false 1 1 (.t 4)), oP 16 (.ld false 1 (.t 15)), oP 17 (.bin .quo (.t 16) (kI 2)), oM 9 17] [15, 16, 17])
 (.seq (.ops [] [oP 18 (.fad true 2 5 (.t 4)), oP 19 (.fad false 0 1 (.t 18)), oP 20 (.ld false 1 (.t 19)), oM 21 9, oP 22 (.iad 1 (.t 20) (.t 21)), oP 23 (.ld false 1 (.t 22)), oM 10 23] [18, 19, 20, 21, 22, 23])
 (.seq (.seq (.ops [] [oP 24 (.fad false 1 1 (.t 4)), oP 25 (.ld false 1 (.t 24)), oP 26 (.bin .rem (.t 25) (kI 2)), oP 27 (.bin .eql (.t 26) (kI 0))] [24, 25, 26])
 (.cond (.t 27) (.seq (.ops [] [oP 29 (.ld true 11 (.t 3)), oM 30 10, oP 31 (.call N_ref12_LoadStripe [] [.t 29, .t 30]), oM 28 31, oP 32 (.ext (.t 28) 0), oP 33 (.ext (.t 28) 1), oP 11 (.alloc (.d (.agg [.int .i64 0, .int .i64 0, .int .i64 0, .int .i64 0]))), oN (.st 4 (.t 11) (.t 32)), oM 12 33] [2, 9, 10, 27, 28, 29, 30, 31, 32, 33])
 (.seq (.draw [] [oP 34 (.fad false 14 1 (.t 4)), oP 35 (.ld false 1 (.t 34)), oP 36 (.app 4 (.c (.xsl [])) (.t 35)), oP 37 (.ld true 4 (.t 11)), oP 38 (.bsl 1 4 (.d (.agg [.int .i64 0, .int .i64 0, .int .i64 0, .int .i64 0])) [(0, .t 37)]), oP 39 (.app 4 (.t 36) (.t 38)), oP 40 (.fad false 14 1 (.t 4)), oN (.st 1 (.t 40) (.t 39))] [[], [], [], [0, 1, 2], [0, 1, 2], [], [], []] [11, 34, 35, 36, 37, 38, 39, 40])
 (.seq (.ops [] [oP 41 (.fad false 1 1 (.t 4)), oP 42 (.ld false 1 (.t 41)), oP 43 (.bin .add (.t 42) (kI 1)), oP 44 (.fad false 1 1 (.t 4)), oN (.st 1 (.t 44) (.t 43))] [41, 42, 43, 44])
 (.seq (.draw [] [oP 45 (.ld true 11 (.t 3)), oP 46 (.ld true 26 (.t 4)), oM 47 12, oN (.st 11 (.t 6) (.t 45)), oN (.st 26 (.t 7) (.t 46)), oM 8 47] [[], [0], [0, 1], [1, 2], [2], []] [3, 4, 12, 45, 46, 47])
 (.ret [6, 7, 8]))))) .skip))
 (.seq (.ops [] [oP 49 (.fad false 14 1 (.t 4)), oP 50 (.ld false 1 (.t 49)), oM 51 9, oP 52 (.iad 4 (.t 50) (.t 51)), oP 53 (.ld true 4 (.t 52)), oP 54 (.call N_ref11_Begin [] [.t 53]), oM 48 54, oP 55 (.ext (.t 48) 0), oP 56 (.ext (.t 48) 1), oP 13 (.alloc (.d (.agg [.int .i64 0, .int .i64 0, .int .i64 0, .int .i64 0]))), oN (.st 4 (.t 13) (.t 55)), oM 14 56] [27, 48, 49, 50, 51, 52, 53, 54, 55, 56])
 (.seq (.seq (.ops [] [oM 57 14, oP 58 (.bin .neq (.t 57) (kI 0))] [57])
 (.cond (.t 58) (.seq (.draw [] [oP 59 (.ld true 11 (.t 3)), oP 60 (.ld true 26 (.t 4)), oM 61 14, oN (.st 11 (.t 6) (.t 59)), oN (.st 26 (.t 7) (.t 60)), oM 8 61] [[], [0], [0, 1], [1, 2], [2], []] [2, 3, 4, 9, 10, 13, 14, 58, 59, 60, 61])
 (.ret [6, 7, 8])) .skip))
 (.seq (.draw [] [oP 62 (.fad false 14 1 (.t 4)), oP 63 (.ld false 1 (.t 62)), oM 64 9, oP 65 (.slc 4 (.t 63) none (some (.t 64)) none), oP 66 (.app 4 (.c (.xsl [])) (.t 65)), oP 67 (.ld true 4 (.t 13)), oP 68 (.bsl 1 4 (.d (.agg [.int .i64 0, .int .i64 0, .int .i64 0, .int .i64 0])) [(0, .t 67)]), oP 69 (.app 4 (.t 66) (.t 68)), oP 70 (.fad false 14 1 (.t 4)), oN (.st 1 (.t 70) (.t 69))] [[], [], [0, 1], [], [], [0, 1, 2, 3, 4], [0, 1, 2, 3, 4], [], [], []] [9, 14, 58, 62, 63, 64, 65, 66, 67, 68, 69, 70])
 (.seq (.ops [] [oP 72 (.ld true 11 (.t 3)), oM 73 10, oM 74 2, oP 75 (.ld true 4 (.t 13)), oP 76 (.call N_ref12_StoreStripe [false, false, false, false, true] [.t 72, .t 73, .t 74, .t 75]), oM 71 76, oP 77 (.ext (.t 71) 0), oP 78 (.ext (.t 71) 1), oN (.st 11 (.t 3) (.t 77)), oM 14 78] [2, 10, 13, 71, 72, 73, 74, 75, 76, 77, 78])
 (.seq (.ops [] [oP 79 (.fad false 1 1 (.t 4)), oP 80 (.ld false 1 (.t 79)), oP 81 (.bin .add (.t 80) (kI 1)), oP 82 (.fad false 1 1 (.t 4)), oN (.st 1 (.t 82) (.t 81))] [79, 80, 81, 82])
 (.seq (.seq (.draw [] [oM 83 14, oP 84 (.bin .eql (.t 83) (kI 0)), oM 85 84, oQ 86 (.fad false 1 1 (.t 4)) 85 true, oQ 87 (.ld false 1 (.t 86)) 85 true, oQ 88 (.ld true 11 (.t 3)) 85 true, oQ 89 (.ld true 26 (.t 4)) 85 true, oQ 90 (.call N_ref15_slots [] [.t 88, .t 89]) 85 true, oQ 91 (.bin .mul (kI 2) (.t 90)) 85 true, oQ 92 (.bin .eql (.t 87) (.t 91)) 85 true, oP 93 (.pick (.t 85) (.t 92) (.c (.d (.bool false))))] [[], [], [], [], [], [3, 4], [3, 4, 5], [3, 4], [3, 4], [], []] [83, 84, 85, 86, 87, 88, 89, 90, 91, 92])
 (.cond (.t 93) (.ops [] [oP 94 (.ld true 26 (.t 4)), oP 95 (.call N_ref15_enter [false, false, true] [.t 94, kI 2]), oN (.st 26 (.t 4) (.t 95))] [93, 94, 95]) .skip))
 (.seq (.draw [] [oP 96 (.ld true 11 (.t 3)), oP 97 (.ld true 26 (.t 4)), oM 98 14, oN (.st 11 (.t 6) (.t 96)), oN (.st 26 (.t 7) (.t 97)), oM 8 98] [[], [0], [0, 1], [1, 2], [2], []] [3, 4, 14, 93, 96, 97, 98])
 (.ret [6, 7, 8]))))))))))))
def r_ref15_mark : List ARes := [.c 6 true 11, .c 7 true 26, .t 8]
def fn_ref15_mark : AFn := .code c_ref15_mark r_ref15_mark 99 true
def c_ref12_LoadStripe : ACode :=
 (.seq (.ops [] [oP 2 (.box (.t 0)), oP 4 (.alloc (.d (.agg [.int .i64 0, .int .i64 0, .int .i64 0, .int .i64 0]))), oP 5 (.mv (kI 0))] [0, 5])
 (.seq (.seq (.ops [] [oP 6 (.ld true 11 (.t 2)), oM 7 1, oP 8 (.call N_ref12_slot [] [.t 6, .t 7]), oP 9 (.un .not (.t 8))] [6, 7, 8])
 (.cond (.t 9) (.seq (.ops [] [oP 10 (.build [aI 0, aI 0, aI 0, aI 0] []), oN (.st 4 (.t 4) (.t 10)), oP 5 (.mv (kI 1))] [1, 2, 9, 10])
 (.ret [4, 5])) .skip))
 (.seq (.ops [] [oP 11 (.fad false 1 1 (.t 2)), oP 12 (.ld false 1 (.t 11)), oM 13 1, oP 14 (.iad 4 (.t 12) (.t 13)), oP 15 (.ld true 4 (.t 14)), oN (.st 4 (.t 4) (.t 15)), oP 5 (.mv (kI 0))] [1, 2, 9, 11, 12, 13, 14, 15])
 (.ret [4, 5]))))
def r_ref12_LoadStripe : List ARes := [.c 4 true 4, .t 5]
def fn_ref12_LoadStripe : AFn := .code c_ref12_LoadStripe r_ref12_LoadStripe 16 true
def c_ref12_slot : ACode :=
 (.seq (.ops [] [oP 2 (.box (.t 0)), oP 4 (.mv (.c (.d (.bool false))))] [0, 4])
 (.seq (.ops [] [oM 5 1, oP 6 (.bin .geq (.t 5) (kI 0)), oM 7 6, oQ 8 (.mv (.t 1)) 7 true, oQ 9 (.fad false 0 1 (.t 2)) 7 true, oQ 10 (.ld false 1 (.t 9)) 7 true, oQ 11 (.len (.t 10)) 7 true, oQ 12 (.bin .lss (.t 8) (.t 11)) 7 true, oP 13 (.pick (.t 7) (.t 12) (.c (.d (.bool false)))), oM 4 13] [1, 2, 5, 6, 7, 8, 9, 10, 11, 12, 13])
 (.ret [4])))
def r_ref12_slot : List ARes := [.t 4]
def fn_ref12_slot : AFn := .code c_ref12_slot r_ref12_slot 14 true
def c_ref11_Begin : ACode :=
 (.seq (.ops [] [oP 1 (.box (.t 0)), oP 2 (.alloc (.d (.agg [.int .i64 0, .int .i64 0, .int .i64 0, .int .i64 0]))), oP 3 (.mv (kI 0))] [0, 3])
 (.seq (.block 0 (.seq (.ops [] [oP 5 (.fad false 0 1 (.t 1)), oP 6 (.ld false 1 (.t 5)), oP 7 (.bin .lss (.t 6) (kI 0)), oM 8 7, oQ 9 (.fad false 0 1 (.t 1)) 8 false, oQ 10 (.ld false 1 (.t 9)) 8 false, oQ 11 (.bin .gtr (.t 10) (kI 1099511627776)) 8 false, oP 12 (.pick (.t 8) (.c (.d (.bool true))) (.t 11)), oM 4 12] [5, 6, 7, 8, 9, 10, 11, 12])
 (.cond (.t 4) (.seq (.ops [] [oP 13 (.build [aI 0, aI 0, aI 0, aI 0] []), oN (.st 4 (.t 2) (.t 13)), oP 3 (.mv (kI 1))] [1, 4, 13])
 (.ret [2, 3])) (.seq (.ops [] [oP 15 (.fad false 0 1 (.t 1)), oP 16 (.ld false 1 (.t 15)), oP 17 (.bin .rem (.t 16) (kI 2)), oP 18 (.bin .eql (.t 17) (kI 1)), oM 14 18] [4, 15, 16, 17, 18])
 (.cond (.t 14) (.seq (.ops [] [oP 19 (.build [aI 0, aI 0, aI 0, aI 0] []), oN (.st 4 (.t 2) (.t 19)), oP 3 (.mv (kI 7))] [1, 14, 19])
 (.ret [2, 3])) (.seq (.ops [] [oP 21 (.fad false 0 1 (.t 1)), oP 22 (.ld false 1 (.t 21)), oP 23 (.bin .gtr (.t 22) (kI 1099511627774)), oM 20 23] [14, 21, 22, 23])
 (.cond (.t 20) (.seq (.ops [] [oP 24 (.build [aI 0, aI 0, aI 0, aI 0] []), oN (.st 4 (.t 2) (.t 24)), oP 3 (.mv (kI 6))] [1, 20, 24])
 (.ret [2, 3])) .skip)))))))
 (.seq (.ops [] [oP 25 (.fad false 0 1 (.t 1)), oP 26 (.ld false 1 (.t 25)), oP 27 (.bin .add (.t 26) (kI 1)), oP 28 (.fad false 0 1 (.t 1)), oN (.st 1 (.t 28) (.t 27))] [20, 25, 26, 27, 28])
 (.seq (.ops [] [oP 29 (.ld true 4 (.t 1)), oN (.st 4 (.t 2) (.t 29)), oP 3 (.mv (kI 0))] [1, 29])
 (.ret [2, 3])))))
def r_ref11_Begin : List ARes := [.c 2 true 4, .t 3]
def fn_ref11_Begin : AFn := .code c_ref11_Begin r_ref11_Begin 30 true
def c_ref12_StoreStripe : ACode :=
 (.seq (.ops [] [oP 4 (.box (.t 0)), oP 7 (.box (.t 3)), oP 8 (.alloc (.agg [.xsl [], .xsl [], aI 0, aI 0, .xsl [], aI 0, .xsl [], .xsl [], aI 0, aI 0, aI 0])), oP 9 (.mv (kI 0))] [0, 3, 9])
 (.seq (.seq (.ops [] [oP 11 (.ld true 11 (.t 4)), oM 12 1, oM 13 2, oP 14 (.call N_ref12_storable [] [.t 11, .t 12, .t 13]), oM 10 14] [2, 11, 12, 13, 14])
 (.seq (.ops [] [oM 15 10, oP 16 (.bin .neq (.t 15) (kI 0))] [15])
 (.cond (.t 16) (.seq (.ops [] [oP 17 (.build [.xsl [], .xsl [], aI 0, aI 0, .xsl [], aI 0, .xsl [], .xsl [], aI 0, aI 0, aI 0] []), oM 18 10, oN (.st 11 (.t 8) (.t 17)), oM 9 18] [1, 4, 7, 10, 16, 17, 18])
 (.ret [8, 9])) .skip)))
 (.seq (.seq (.ops [] [oP 19 (.fad false 0 1 (.t 7)), oP 20 (.ld false 1 (.t 19)), oP 21 (.call N_ref12_in [] [.t 20, kI 0, kI 1099511627776]), oP 22 (.un .not (.t 21)), oM 23 22, oQ 24 (.fad false 1 1 (.t 7)) 23 false, oQ 25 (.ld false 1 (.t 24)) 23 false, oQ 26 (.call N_ref12_in [] [.t 25, kI 0, kI 1099511627776]) 23 false, oQ 27 (.un .not (.t 26)) 23 false, oP 28 (.pick (.t 23) (.c (.d (.bool true))) (.t 27)), oM 29 28, oQ 30 (.fad false 2 1 (.t 7)) 29 false, oQ 31 (.ld false 1 (.t 30)) 29 false, oQ 32 (.call N_ref12_in [] [.t 31, kI 0, kI 1099511627776]) 29 false, oQ 33 (.un .not (.t 32)) 29 false, oP 34 (.pick (.t 29) (.c (.d (.bool true))) (.t 33)), oM 35 34, oQ 36 (.fad false 3 1 (.t 7)) 35 false, oQ 37 (.ld false 1 (.t 36)) 35 false, oQ 38 (.call N_ref12_in [] [.t 37, kI 0, kI 1099511627776]) 35 false, oQ 39 (.un .not (.t 38)) 35 false, oP 40 (.pick (.t 35) (.c (.d (.bool true))) (.t 39))] [10, 16, 19, 20, 21, 22, 23, 24, 25, 26, 27, 28, 29, 30, 31, 32, 33, 34, 35, 36, 37, 38, 39])
 (.cond (.t 40) (.seq (.ops [] [oP 41 (.build [.xsl [], .xsl [], aI 0, aI 0, .xsl [], aI 0, .xsl [], .xsl [], aI 0, aI 0, aI 0] []), oN (.st 11 (.t 8) (.t 41)), oP 9 (.mv (kI 1))] [1, 4, 7, 40, 41])
 (.ret [8, 9])) .skip))
 (.seq (.ops [] [oP 42 (.fad false 1 1 (.t 4)), oP 43 (.ld false 1 (.t 42)), oP 44 (.app 4 (.c (.xsl [])) (.t 43)), oP 45 (.fad false 1 1 (.t 4)), oN (.st 1 (.t 45) (.t 44))] [40, 42, 43, 44, 45])
 (.seq (.ops [88] [oP 46 (.fad false 1 1 (.t 4)), oP 47 (.ld false 1 (.t 46)), oM 48 1, oP 49 (.ld true 4 (.t 7)), oP 50 (.iad 4 (.t 47) (.t 48)), oN (.st 4 (.t 50) (.t 49))] [1, 7, 46, 47, 48, 49, 50])
 (.seq (.ops [] [oP 51 (.ld true 11 (.t 4)), oN (.st 11 (.t 8) (.t 51)), oP 9 (.mv (kI 0))] [4, 51])
 (.ret [8, 9])))))))
def r_ref12_StoreStripe : List ARes := [.c 8 true 11, .t 9]
def fn_ref12_StoreStripe : AFn := .code c_ref12_StoreStripe r_ref12_StoreStripe 52 true
def c_ref12_storable : ACode :=
 (.seq (.ops [] [oP 3 (.box (.t 0)), oP 6 (.mv (kI 0))] [0, 6])
 (.seq (.seq (.ops [] [oP 7 (.ld true 11 (.t 3)), oM 8 1, oP 9 (.call N_ref12_slot [] [.t 7, .t 8]), oP 10 (.un .not (.t 9)), oM 11 10, oQ 12 (.mv (.t 2)) 11 false, oQ 13 (.call N_ref12_task [] [.t 12]) 11 false, oQ 14 (.un .not (.t 13)) 11 false, oP 15 (.pick (.t 11) (.c (.d (.bool true))) (.t 14))] [7, 8, 9, 10, 11, 12, 13, 14])
 (.cond (.t 15) (.seq (.ops [] [oP 6 (.mv (kI 1))] [1, 2, 3, 15])
 (.ret [6])) .skip))
 (.seq (.seq (.ops [] [oP 16 (.fad false 0 1 (.t 3)), oP 17 (.ld false 1 (.t 16)), oM 18 1, oP 19 (.iad 9 (.t 17) (.t 18)), oP 20 (.fad false 0 1 (.t 19)), oP 21 (.ld false 1 (.t 20)), oM 22 2, oP 23 (.bin .neq (.t 21) (.t 22))] [1, 2, 3, 15, 16, 17, 18, 19, 20, 21, 22])
 (.cond (.t 23) (.seq (.ops [] [oP 6 (.mv (kI 13))] [23])
 (.ret [6])) .skip))
 (.seq (.ops [] [oP 6 (.mv (kI 0))] [23])
 (.ret [6])))))
def r_ref12_storable : List ARes := [.t 6]
def fn_ref12_storable : AFn := .code c_ref12_storable r_ref12_storable 24 true
def c_ref15_load : ACode :=
 (.seq (.ops [] [oP 2 (.box (.t 0)), oP 3 (.box (.t 1)), oP 4 (.alloc (.agg [.xsl [], .xsl [], aI 0, aI 0, .xsl [], aI 0, .xsl [], .xsl [], aI 0, aI 0, aI 0])), oP 5 (.alloc (.agg [aI 0, aI 0, .xsl [], aI 0, aI 0, aI 0, aI 0, aI 0, aI 0, aI 0, aI 0, .xsl [], aI 0, .xsl [], .xsl [], aI 0, .xsl [], .xsl [], .xsl [], aI 0, .xsl [], .xsl [], .xsl [], .xsl [], aI 0, .xsl []])), oP 6 (.mv (kI 0))] [0, 1, 6])
 (.seq (.ops [] [oP 10 (.fad true 2 5 (.t 3)), oP 11 (.fad false 0 1 (.t 10)), oP 12 (.ld false 1 (.t 11)), oP 13 (.fad false 1 1 (.t 3)), oP 14 (.ld false 1 (.t 13)), oP 15 (.iad 1 (.t 12) (.t 14)), oP 16 (.ld false 1 (.t 15)), oM 7 16] [10, 11, 12, 13, 14, 15, 16])
 (.seq (.ops [] [oP 8 (.mv (kI 0))] [])
 (.seq (.seq (.ops [] [oM 17 7, oP 18 (.fad false 0 1 (.t 2)), oP 19 (.ld false 1 (.t 18)), oP 20 (.len (.t 19)), oP 21 (.bin .eql (.t 17) (.t 20))] [17, 18, 19, 20])
 (.cond (.t 21) (.ops [] [oP 22 (.ld true 11 (.t 2)), oP 23 (.call N_ref12_LoadDead [false, true] [.t 22]), oP 24 (.fad true 12 2 (.t 3)), oN (.st 2 (.t 24) (.t 23))] [7, 21, 22, 23, 24]) (.seq (.ops [] [oP 9 (.alloc (.agg [.d (.bool false), aI 0, aI 0, .xsl [], aI 0, aI 0, .xsl [], .xsl []]))] [8, 21])
 (.seq (.ops [] [oP 26 (.ld true 11 (.t 2)), oM 27 7, oP 28 (.call N_ref12_LoadSlot [false, false, true] [.t 26, .t 27]), oM 25 28, oP 29 (.ext (.t 25) 0), oP 30 (.ext (.t 25) 1), oN (.st 8 (.t 9) (.t 29)), oM 8 30] [7, 25, 26, 27, 28, 29, 30])
 (.draw [] [oP 31 (.fad false 11 1 (.t 3)), oP 32 (.ld false 1 (.t 31)), oP 33 (.app 8 (.c (.xsl [])) (.t 32)), oP 34 (.ld true 8 (.t 9)), oP 35 (.bsl 1 8 (.agg [.d (.bool false), aI 0, aI 0, .xsl [], aI 0, aI 0, .xsl [], .xsl []]) [(0, .t 34)]), oP 36 (.app 8 (.t 33) (.t 35)), oP 37 (.fad false 11 1 (.t 3)), oN (.st 1 (.t 37) (.t 36))] [[], [], [], [0, 1, 2], [0, 1, 2], [], [], []] [9, 31, 32, 33, 34, 35, 36, 37])))))
 (.seq (.ops [] [oP 38 (.fad false 1 1 (.t 3)), oP 39 (.ld false 1 (.t 38)), oP 40 (.bin .add (.t 39) (kI 1)), oP 41 (.fad false 1 1 (.t 3)), oN (.st 1 (.t 41) (.t 40))] [38, 39, 40, 41])
 (.seq (.seq (.ops [] [oP 42 (.fad false 1 1 (.t 3)), oP 43 (.ld false 1 (.t 42)), oP 44 (.fad true 2 5 (.t 3)), oP 45 (.fad false 0 1 (.t 44)), oP 46 (.ld false 1 (.t 45)), oP 47 (.len (.t 46)), oP 48 (.bin .eql (.t 43) (.t 47))] [42, 43, 44, 45, 46, 47])
 (.cond (.t 48) (.ops [] [oP 49 (.ld true 26 (.t 3)), oP 50 (.call N_ref15_enter [false, false, true] [.t 49, kI 3]), oN (.st 26 (.t 3) (.t 50))] [48, 49, 50]) .skip))
 (.seq (.draw [] [oP 51 (.ld true 11 (.t 2)), oP 52 (.ld true 26 (.t 3)), oM 53 8, oN (.st 11 (.t 4) (.t 51)), oN (.st 26 (.t 5) (.t 52)), oM 6 53] [[], [0], [0, 1], [1, 2], [2], []] [2, 3, 8, 48, 51, 52, 53])
 (.ret [4, 5, 6]))))))))
def r_ref15_load : List ARes := [.c 4 true 11, .c 5 true 26, .t 6]
def fn_ref15_load : AFn := .code c_ref15_load r_ref15_load 54 true
def c_ref12_LoadDead : ACode :=
 (.seq (.ops [] [oP 1 (.box (.t 0)), oP 2 (.alloc (.agg [aI 0, .xsl []]))] [0])
 (.seq (.ops [] [oP 3 (.fad true 2 3 (.t 1)), oP 4 (.fad true 1 2 (.t 3)), oP 5 (.ld true 2 (.t 4)), oN (.st 2 (.t 2) (.t 5))] [1, 3, 4, 5])
 (.ret [2])))
def r_ref12_LoadDead : List ARes := [.c 2 true 2]
def fn_ref12_LoadDead : AFn := .code c_ref12_LoadDead r_ref12_LoadDead 6 true
def c_ref12_LoadSlot : ACode :=
 (.seq (.ops [] [oP 2 (.box (.t 0)), oP 4 (.alloc (.agg [.d (.bool false), aI 0, aI 0, .xsl [], aI 0, aI 0, .xsl [], .xsl []])), oP 5 (.mv (kI 0))] [0, 5])
 (.seq (.seq (.ops [] [oP 6 (.ld true 11 (.t 2)), oM 7 1, oP 8 (.call N_ref12_slot [] [.t 6, .t 7]), oP 9 (.un .not (.t 8))] [6, 7, 8])
 (.cond (.t 9) (.seq (.ops [] [oP 10 (.build [.d (.bool false), aI 0, aI 0, .xsl [], aI 0, aI 0, .xsl [], .xsl []] []), oN (.st 8 (.t 4) (.t 10)), oP 5 (.mv (kI 1))] [1, 2, 9, 10])
 (.ret [4, 5])) .skip))
 (.seq (.ops [] [oP 11 (.fad false 0 1 (.t 2)), oP 12 (.ld false 1 (.t 11)), oM 13 1, oP 14 (.iad 9 (.t 12) (.t 13)), oP 15 (.fad true 1 8 (.t 14)), oP 16 (.ld true 8 (.t 15)), oN (.st 8 (.t 4) (.t 16)), oP 5 (.mv (kI 0))] [1, 2, 9, 11, 12, 13, 14, 15, 16])
 (.ret [4, 5]))))
def r_ref12_LoadSlot : List ARes := [.c 4 true 8, .t 5]
def fn_ref12_LoadSlot : AFn := .code c_ref12_LoadSlot r_ref12_LoadSlot 17 true
def c_ref14_Step : ACode :=
 (.seq (.ops [] [oP 3 (.box (.t 0)), oP 4 (.box (.t 1)), oP 6 (.alloc (.d (.agg [.int .i64 0, .int .i64 0, .int .i64 0, .int .i64 0]))), oP 7 (.mv (kI 0))] [0, 1, 7])
 (.seq (.ops [] [oP 13 (.ld true 11 (.t 3)), oP 14 (.call N_ref12_Load [] [.t 13, kI 1]), oM 12 14, oP 15 (.ext (.t 12) 0), oP 16 (.ext (.t 12) 1), oM 8 15, oM 9 16] [9, 12, 13, 14, 15, 16])
 (.seq (.ops [] [oP 18 (.ld true 11 (.t 3)), oP 19 (.call N_ref12_Load [] [.t 18, kI 2]), oM 17 19, oP 20 (.ext (.t 17) 0), oP 21 (.ext (.t 17) 1), oM 10 20, oM 11 21] [3, 11, 17, 18, 19, 20, 21])
 (.seq (.seq (.ops [] [oP 22 (.fad false 0 1 (.t 4)), oP 23 (.ld false 1 (.t 22))] [22])
 (.block 0 (.seq (.ops [] [oP 26 (.bin .eql (.t 23) (kI 0)), oM 25 26] [26])
 (.cond (.t 25) (.ops [] [oM 27 8, oP 28 (.fad false 1 1 (.t 4)), oN (.st 1 (.t 28) (.t 27)), oP 29 (.fad false 0 1 (.t 4)), oN (.st 1 (.t 29) (kI 1))] [2, 8, 10, 23, 25, 27, 28, 29]) (.seq (.ops [] [oP 31 (.bin .eql (.t 23) (kI 1)), oM 30 31] [25, 31])
 (.cond (.t 30) (.ops [] [oM 32 10, oM 33 2, oP 34 (.fad false 2 1 (.t 4)), oN (.st 1 (.t 34) (.t 32)), oP 35 (.fad false 3 1 (.t 4)), oN (.st 1 (.t 35) (.t 33)), oP 36 (.fad false 0 1 (.t 4)), oN (.st 1 (.t 36) (kI 2))] [2, 8, 10, 23, 30, 32, 33, 34, 35, 36]) (.seq (.ops [] [oP 38 (.bin .eql (.t 23) (kI 2)), oM 37 38] [2, 10, 30, 38])
 (.cond (.t 37) (.seq (.ops [] [oM 39 8, oP 40 (.fad false 1 1 (.t 4)), oP 41 (.ld false 1 (.t 40)), oP 42 (.bin .eql (.t 39) (.t 41))] [23, 37, 39, 40, 41])
 (.cond (.t 42) (.ops [] [oP 43 (.fad false 0 1 (.t 4)), oN (.st 1 (.t 43) (kI 3))] [8, 42, 43]) (.ops [] [oM 44 8, oP 45 (.fad false 1 1 (.t 4)), oN (.st 1 (.t 45) (.t 44)), oP 46 (.fad false 0 1 (.t 4)), oN (.st 1 (.t 46) (kI 1))] [8, 42, 44, 45, 46]))) (.seq (.ops [] [oP 48 (.bin .eql (.t 23) (kI 3)), oM 47 48] [4, 8, 23, 37, 48])
 (.cond (.t 47) (.seq (.ops [] [oP 49 (.build [aI 0, aI 0, aI 0, aI 0] []), oN (.st 4 (.t 6) (.t 49)), oP 7 (.mv (kI 7))] [47, 49])
 (.ret [6, 7])) (.seq (.ops [] [oP 24 (.build [aI 0, aI 0, aI 0, aI 0] []), oN (.st 4 (.t 6) (.t 24)), oP 7 (.mv (kI 1))] [24, 47])
 (.ret [6, 7]))))))))))))
 (.seq (.ops [] [oP 50 (.ld true 4 (.t 4)), oN (.st 4 (.t 6) (.t 50)), oP 7 (.mv (kI 0))] [4, 50])
 (.ret [6, 7]))))))
def r_ref14_Step : List ARes := [.c 6 true 4, .t 7]
def fn_ref14_Step : AFn := .code c_ref14_Step r_ref14_Step 51 true
def c_ref15_store : ACode :=
 (.seq (.ops [] [oP 3 (.box (.t 0)), oP 4 (.box (.t 1)), oP 6 (.alloc (.agg [.xsl [], .xsl [], aI 0, aI 0, .xsl [], aI 0, .xsl [], .xsl [], aI 0, aI 0, aI 0])), oP 7 (.alloc (.agg [aI 0, aI 0, .xsl [], aI 0, aI 0, aI 0, aI 0, aI 0, aI 0, aI 0, aI 0, .xsl [], aI 0, .xsl [], .xsl [], aI 0, .xsl [], .xsl [], .xsl [], aI 0, .xsl [], .xsl [], .xsl [], .xsl [], aI 0, .xsl []])), oP 8 (.mv (kI 0))] [0, 1, 8])
 (.seq (.ops [] [oP 12 (.fad true 18 6 (.t 4)), oP 13 (.fad false 3 1 (.t 12)), oP 14 (.ld false 1 (.t 13)), oP 15 (.fad false 1 1 (.t 4)), oP 16 (.ld false 1 (.t 15)), oP 17 (.iad 1 (.t 14) (.t 16)), oP 18 (.ld false 1 (.t 17)), oM 9 18] [12, 13, 14, 15, 16, 17, 18])
 (.seq (.ops [] [oP 19 (.fad true 2 5 (.t 4)), oP 20 (.fad false 0 1 (.t 19)), oP 21 (.ld false 1 (.t 20)), oM 22 9, oP 23 (.iad 1 (.t 21) (.t 22)), oP 24 (.ld false 1 (.t 23)), oM 10 24] [19, 20, 21, 22, 23, 24])
 (.seq (.ops [] [oP 11 (.mv (kI 0))] [11])
 (.seq (.seq (.ops [] [oM 25 10, oP 26 (.fad false 0 1 (.t 3)), oP 27 (.ld false 1 (.t 26)), oP 28 (.len (.t 27)), oP 29 (.bin .eql (.t 25) (.t 28))] [25, 26, 27, 28])
 (.cond (.t 29) (.ops [] [oP 31 (.ld true 11 (.t 3)), oM 32 2, oP 33 (.fad true 18 6 (.t 4)), oP 34 (.fad true 1 2 (.t 33)), oP 35 (.ld true 2 (.t 34)), oP 36 (.call N_ref12_StoreDead [false, false, false, true] [.t 31, .t 32, .t 35]), oM 30 36, oP 37 (.ext (.t 30) 0), oP 38 (.ext (.t 30) 1), oN (.st 11 (.t 3) (.t 37)), oM 11 38] [2, 9, 10, 29, 30, 31, 32, 33, 34, 35, 36, 37, 38]) (.draw [] [oP 40 (.ld true 11 (.t 3)), oM 41 10, oM 42 2, oP 43 (.fad true 18 6 (.t 4)), oP 44 (.fad false 0 1 (.t 43)), oP 45 (.ld false 1 (.t 44)), oM 46 9, oP 47 (.iad 8 (.t 45) (.t 46)), oP 48 (.ld true 8 (.t 47)), oP 49 (.call N_ref12_StoreSlot [false, false, false, false, true] [.t 40, .t 41, .t 42, .t 48]), oM 39 49, oP 50 (.ext (.t 39) 0), oP 51 (.ext (.t 39) 1), oN (.st 11 (.t 3) (.t 50)), oM 11 51] [[], [0], [0, 1], [0, 1, 2], [0, 1, 2], [0, 1, 2], [0, 1, 2, 3, 4, 5], [0, 1, 2], [0, 1, 2], [], [], [], [11], [12], []] [2, 9, 10, 29, 39, 40, 41, 42, 43, 44, 45, 46, 47, 48, 49, 50, 51])))
 (.seq (.seq (.ops [] [oM 52 11, oP 53 (.bin .neq (.t 52) (kI 0))] [52])
 (.cond (.t 53) (.seq (.draw [] [oP 54 (.ld true 11 (.t 3)), oP 55 (.ld true 26 (.t 4)), oM 56 11, oN (.st 11 (.t 6) (.t 54)), oN (.st 26 (.t 7) (.t 55)), oM 8 56] [[], [0], [0, 1], [1, 2], [2], []] [3, 4, 11, 53, 54, 55, 56])
 (.ret [6, 7, 8])) .skip))
 (.seq (.ops [] [oP 57 (.fad false 1 1 (.t 4)), oP 58 (.ld false 1 (.t 57)), oP 59 (.bin .add (.t 58) (kI 1)), oP 60 (.fad false 1 1 (.t 4)), oN (.st 1 (.t 60) (.t 59))] [11, 53, 57, 58, 59, 60])
 (.seq (.seq (.ops [] [oP 61 (.fad false 1 1 (.t 4)), oP 62 (.ld false 1 (.t 61)), oP 63 (.fad true 18 6 (.t 4)), oP 64 (.fad false 3 1 (.t 63)), oP 65 (.ld false 1 (.t 64)), oP 66 (.len (.t 65)), oP 67 (.bin .lss (.t 62) (.t 66))] [61, 62, 63, 64, 65, 66])
 (.cond (.t 67) (.seq (.ops [] [oP 68 (.fad true 18 6 (.t 4)), oP 69 (.fad false 4 1 (.t 68)), oP 70 (.ld false 1 (.t 69)), oP 71 (.fad false 25 1 (.t 4)), oN (.st 1 (.t 71) (.t 70))] [67, 68, 69, 70, 71])
 (.seq (.draw [] [oP 72 (.ld true 11 (.t 3)), oP 73 (.ld true 26 (.t 4)), oN (.st 11 (.t 6) (.t 72)), oN (.st 26 (.t 7) (.t 73)), oP 8 (.mv (kI 0))] [[], [0], [1], [], []] [3, 4, 72, 73])
 (.ret [6, 7, 8]))) .skip))
 (.seq (.ops [] [oP 74 (.fad false 25 1 (.t 4)), oN (.st 1 (.t 74) (.c (.xsl [])))] [67, 74])
 (.seq (.seq (.ops [] [oP 75 (.fad true 18 6 (.t 4)), oP 76 (.fad false 5 1 (.t 75)), oP 77 (.ld false 1 (.t 76)), oP 78 (.len (.t 77)), oP 79 (.bin .gtr (.t 78) (kI 0))] [75, 76, 77, 78])
 (.cond (.t 79) (.seq (.draw [] [oP 80 (.ld true 11 (.t 3)), oP 81 (.ld true 26 (.t 4)), oP 82 (.call N_ref15_enter [false, false, true] [.t 81, kI 6]), oN (.st 11 (.t 6) (.t 80)), oN (.st 26 (.t 7) (.t 82)), oP 8 (.mv (kI 0))] [[], [0], [0], [], [], []] [3, 4, 79, 80, 81, 82])
 (.ret [6, 7, 8])) .skip))
 (.seq (.ops [] [oP 83 (.ld true 11 (.t 3)), oP 84 (.ld true 26 (.t 4)), oP 85 (.call N_ref15_unmarking [false, false, true] [.t 83, .t 84]), oP 86 (.ext (.t 85) 0), oP 87 (.ext (.t 85) 1), oP 88 (.ext (.t 85) 2), oN (.st 11 (.t 6) (.t 86)), oN (.st 26 (.t 7) (.t 87)), oM 8 88] [3, 4, 79, 83, 84, 85, 86, 87, 88])
 (.ret [6, 7, 8]))))))))))))
def r_ref15_store : List ARes := [.c 6 true 11, .c 7 true 26, .t 8]
def fn_ref15_store : AFn := .code c_ref15_store r_ref15_store 89 true
def c_ref12_StoreDead : ACode :=
 (.seq (.ops [] [oP 3 (.box (.t 0)), oP 5 (.box (.t 2)), oP 6 (.alloc (.agg [.xsl [], .xsl [], aI 0, aI 0, .xsl [], aI 0, .xsl [], .xsl [], aI 0, aI 0, aI 0])), oP 7 (.mv (kI 0))] [0, 2, 7])
 (.seq (.seq (.ops [] [oM 9 1, oP 10 (.call N_ref12_task [] [.t 9]), oP 11 (.un .not (.t 10))] [9, 10])
 (.cond (.t 11) (.seq (.ops [] [oP 12 (.build [.xsl [], .xsl [], aI 0, aI 0, .xsl [], aI 0, .xsl [], .xsl [], aI 0, aI 0, aI 0] []), oN (.st 11 (.t 6) (.t 12)), oP 7 (.mv (kI 1))] [1, 3, 5, 11, 12])
 (.ret [6, 7])) .skip))
 (.seq (.seq (.ops [] [oP 13 (.fad true 2 3 (.t 3)), oP 14 (.fad false 0 1 (.t 13)), oP 15 (.ld false 1 (.t 14)), oM 16 1, oP 17 (.bin .neq (.t 15) (.t 16))] [1, 11, 13, 14, 15, 16])
 (.cond (.t 17) (.seq (.ops [] [oP 18 (.build [.xsl [], .xsl [], aI 0, aI 0, .xsl [], aI 0, .xsl [], .xsl [], aI 0, aI 0, aI 0] []), oN (.st 11 (.t 6) (.t 18)), oP 7 (.mv (kI 13))] [3, 5, 17, 18])
 (.ret [6, 7])) .skip))
 (.seq (.seq (.ops [] [oP 19 (.ld true 2 (.t 5)), oP 20 (.call N_ref08_Validate [] [.t 19]), oM 8 20] [17, 19, 20])
 (.seq (.ops [] [oM 21 8, oP 22 (.bin .neq (.t 21) (kI 0))] [21])
 (.cond (.t 22) (.seq (.ops [] [oP 23 (.build [.xsl [], .xsl [], aI 0, aI 0, .xsl [], aI 0, .xsl [], .xsl [], aI 0, aI 0, aI 0] []), oM 24 8, oN (.st 11 (.t 6) (.t 23)), oM 7 24] [3, 5, 8, 22, 23, 24])
 (.ret [6, 7])) .skip)))
 (.seq (.seq (.ops [] [oP 25 (.fad false 0 1 (.t 5)), oP 26 (.ld false 1 (.t 25)), oP 27 (.fad true 2 3 (.t 3)), oP 28 (.fad true 1 2 (.t 27)), oP 29 (.fad false 0 1 (.t 28)), oP 30 (.ld false 1 (.t 29)), oP 31 (.bin .neq (.t 26) (.t 30))] [8, 22, 25, 26, 27, 28, 29, 30])
 (.cond (.t 31) (.seq (.ops [] [oP 32 (.build [.xsl [], .xsl [], aI 0, aI 0, .xsl [], aI 0, .xsl [], .xsl [], aI 0, aI 0, aI 0] []), oN (.st 11 (.t 6) (.t 32)), oP 7 (.mv (kI 1))] [3, 5, 31, 32])
 (.ret [6, 7])) .skip))
 (.seq (.ops [] [oP 33 (.ld true 2 (.t 5)), oP 34 (.fad true 2 3 (.t 3)), oP 35 (.fad true 1 2 (.t 34)), oN (.st 2 (.t 35) (.t 33))] [5, 31, 33, 34, 35])
 (.seq (.ops [] [oP 36 (.ld true 11 (.t 3)), oN (.st 11 (.t 6) (.t 36)), oP 7 (.mv (kI 0))] [3, 36])
 (.ret [6, 7]))))))))
def r_ref12_StoreDead : List ARes := [.c 6 true 11, .t 7]
def fn_ref12_StoreDead : AFn := .code c_ref12_StoreDead r_ref12_StoreDead 37 true
def c_ref03_Validate : ACode :=
 (.seq (.ops [] [oP 1 (.box (.t 0)), oP 2 (.mv (kI 0))] [0, 2])
 (.seq (.seq (.ops [] [oP 3 (.fad false 0 1 (.t 1)), oP 4 (.ld false 1 (.t 3)), oP 5 (.call N_ref03_in [] [.t 4, kI 1, kI 1073741824]), oP 6 (.un .not (.t 5)), oM 7 6, oQ 8 (.fad false 1 1 (.t 1)) 7 false, oQ 9 (.ld false 1 (.t 8)) 7 false, oQ 10 (.call N_ref03_in [] [.t 9, kI 0, kI 65535]) 7 false, oQ 11 (.un .not (.t 10)) 7 false, oP 12 (.pick (.t 7) (.c (.d (.bool true))) (.t 11)), oM 13 12, oQ 14 (.fad false 2 1 (.t 1)) 13 false, oQ 15 (.ld false 1 (.t 14)) 13 false, oQ 16 (.call N_ref03_in [] [.t 15, kI 0, kI 65536]) 13 false, oQ 17 (.un .not (.t 16)) 13 false, oP 18 (.pick (.t 13) (.c (.d (.bool true))) (.t 17)), oM 19 18, oQ 20 (.fad false 3 1 (.t 1)) 19 false, oQ 21 (.ld false 1 (.t 20)) 19 false, oQ 22 (.call N_ref03_in [] [.t 21, kI 0, kI 8]) 19 false, oQ 23 (.un .not (.t 22)) 19 false, oP 24 (.pick (.t 19) (.c (.d (.bool true))) (.t 23)), oM 25 24, oQ 26 (.fad false 4 1 (.t 1)) 25 false, oQ 27 (.ld false 1 (.t 26)) 25 false, oQ 28 (.fad false 3 1 (.t 1)) 25 false, oQ 29 (.ld false 1 (.t 28)) 25 false, oQ 30 (.call N_ref03_in [] [.t 27, .t 29, kI 65536]) 25 false, oQ 31 (.un .not (.t 30)) 25 false, oP 32 (.pick (.t 25) (.c (.d (.bool true))) (.t 31)), oM 33 32, oQ 34 (.fad false 5 1 (.t 1)) 33 false, oQ 35 (.ld false 1 (.t 34)) 33 false, oQ 36 (.call N_ref03_in [] [.t 35, kI 0, kI 1073741824]) 33 false, oQ 37 (.un .not (.t 36)) 33 false, oP 38 (.pick (.t 33) (.c (.d (.bool true))) (.t 37))] [3, 4, 5, 6, 7, 8, 9, 10, 11, 12, 13, 14, 15, 16, 17, 18, 19, 20, 21, 22, 23, 24, 25, 26, 27, 28, 29, 30, 31, 32, 33, 34, 35, 36, 37])
 (.cond (.t 38) (.seq (.ops [] [oP 2 (.mv (kI 1))] [1, 38])
 (.ret [2])) .skip))
 (.seq (.seq (.ops [] [oP 39 (.fad false 6 1 (.t 1)), oP 40 (.ld false 1 (.t 39)), oP 41 (.lens (.t 40)), oP 42 (.bin .gtr (.t 41) (kI 16))] [1, 38, 39, 40, 41])
 (.cond (.t 42) (.seq (.ops [] [oP 2 (.mv (kI 2))] [42])
 (.ret [2])) .skip))
 (.seq (.ops [] [oP 2 (.mv (kI 0))] [42])
 (.ret [2])))))
def r_ref03_Validate : List ARes := [.t 2]
def fn_ref03_Validate : AFn := .code c_ref03_Validate r_ref03_Validate 43 true
def c_ref03_in : ACode :=
 (.seq (.ops [] [oP 6 (.mv (.c (.d (.bool false))))] [6])
 (.seq (.ops [] [oM 7 0, oM 8 1, oP 9 (.bin .geq (.t 7) (.t 8)), oM 10 9, oQ 11 (.mv (.t 0)) 10 true, oQ 12 (.mv (.t 2)) 10 true, oQ 13 (.bin .leq (.t 11) (.t 12)) 10 true, oP 14 (.pick (.t 10) (.t 13) (.c (.d (.bool false)))), oM 6 14] [0, 1, 2, 7, 8, 9, 10, 11, 12, 13, 14])
 (.ret [6])))
def r_ref03_in : List ARes := [.t 6]
def fn_ref03_in : AFn := .code c_ref03_in r_ref03_in 15 true
def l_ref03_Index_0 : ACode :=
 (.seq (.seq (.ops [] [oM 6 5, oM 7 0, oP 8 (.len (.t 7)), oP 9 (.bin .lss (.t 6) (.t 8))] [6, 7, 8])
 (.cond (.t 9) .skip (.exit 0 [])))
 (.seq (.block 1 (.seq (.ops [] [oM 12 0, oM 13 5, oP 14 (.iad 7 (.t 12) (.t 13)), oP 15 (.fad false 0 1 (.t 14)), oP 16 (.ld false 1 (.t 15)), oM 17 1, oP 18 (.bin .eql (.t 16) (.t 17))] [9, 12, 13, 14, 15, 16, 17])
 (.cond (.t 18) (.seq (.ops [] [oM 19 5, oM 4 19] [0, 1, 5, 18, 19])
 (.ret [4])) .skip)))
 (.ops [] [oM 10 5, oP 11 (.bin .add (.t 10) (kI 1)), oM 5 11] [10, 11, 18])))
def c_ref03_Index : ACode :=
 (.seq (.ops [] [oP 4 (.mv (kI 0))] [4])
 (.seq (.seq (.ops [] [oP 5 (.mv (kI 0))] [])
 (.block 0 (.loop [] l_ref03_Index_0)))
 (.seq (.ops [] [oP 4 (.mv (kI (-1)))] [0, 1, 5, 9])
 (.ret [4]))))
def r_ref03_Index : List ARes := [.t 4]
def fn_ref03_Index : AFn := .code c_ref03_Index r_ref03_Index 20 true
def c_ref12_StoreSlot : ACode :=
 (.seq (.ops [] [oP 4 (.box (.t 0)), oP 7 (.box (.t 3)), oP 8 (.alloc (.agg [.xsl [], .xsl [], aI 0, aI 0, .xsl [], aI 0, .xsl [], .xsl [], aI 0, aI 0, aI 0])), oP 9 (.mv (kI 0))] [0, 3, 9])
 (.seq (.seq (.ops [] [oP 12 (.ld true 11 (.t 4)), oM 13 1, oM 14 2, oP 15 (.call N_ref12_storable [] [.t 12, .t 13, .t 14]), oM 10 15] [2, 12, 13, 14, 15])
 (.seq (.ops [] [oM 16 10, oP 17 (.bin .neq (.t 16) (kI 0))] [16])
 (.cond (.t 17) (.seq (.ops [] [oP 18 (.build [.xsl [], .xsl [], aI 0, aI 0, .xsl [], aI 0, .xsl [], .xsl [], aI 0, aI 0, aI 0] []), oM 19 10, oN (.st 11 (.t 8) (.t 18)), oM 9 19] [1, 4, 7, 10, 17, 18, 19])
 (.ret [8, 9])) .skip)))
 (.seq (.seq (.ops [] [oP 20 (.ld true 8 (.t 7)), oP 21 (.call N_ref07_Validate [] [.t 20]), oM 11 21] [10, 17, 20, 21])
 (.seq (.ops [] [oM 22 11, oP 23 (.bin .neq (.t 22) (kI 0))] [22])
 (.cond (.t 23) (.seq (.ops [] [oP 24 (.build [.xsl [], .xsl [], aI 0, aI 0, .xsl [], aI 0, .xsl [], .xsl [], aI 0, aI 0, aI 0] []), oM 25 11, oN (.st 11 (.t 8) (.t 24)), oM 9 25] [1, 4, 7, 11, 23, 24, 25])
 (.ret [8, 9])) .skip)))
 (.seq (.seq (.draw [] [oP 26 (.fad true 3 3 (.t 7)), oP 27 (.fad false 0 1 (.t 26)), oP 28 (.ld false 1 (.t 27)), oP 29 (.len (.t 28)), oP 30 (.fad false 0 1 (.t 4)), oP 31 (.ld false 1 (.t 30)), oM 32 1, oP 33 (.iad 9 (.t 31) (.t 32)), oP 34 (.fad true 1 8 (.t 33)), oP 35 (.fad true 3 3 (.t 34)), oP 36 (.fad false 0 1 (.t 35)), oP 37 (.ld false 1 (.t 36)), oP 38 (.len (.t 37)), oP 39 (.bin .neq (.t 29) (.t 38))] [[], [], [], [], [0, 1, 2, 3], [0, 1, 2, 3], [0, 1, 2, 3, 4, 5], [0, 1, 2, 3], [0, 1, 2, 3], [0, 1, 2, 3], [0, 1, 2, 3], [0, 1, 2, 3], [0, 1, 2, 3], []] [11, 23, 26, 27, 28, 29, 30, 31, 32, 33, 34, 35, 36, 37, 38])
 (.cond (.t 39) (.seq (.ops [] [oP 40 (.build [.xsl [], .xsl [], aI 0, aI 0, .xsl [], aI 0, .xsl [], .xsl [], aI 0, aI 0, aI 0] []), oN (.st 11 (.t 8) (.t 40)), oP 9 (.mv (kI 1))] [1, 4, 7, 39, 40])
 (.ret [8, 9])) .skip))
 (.seq (.ops [] [oP 41 (.fad false 0 1 (.t 4)), oP 42 (.ld false 1 (.t 41)), oP 43 (.app 9 (.c (.xsl [])) (.t 42)), oP 44 (.fad false 0 1 (.t 4)), oN (.st 1 (.t 44) (.t 43))] [39, 41, 42, 43, 44])
 (.seq (.ops [86] [oP 45 (.fad false 0 1 (.t 4)), oP 46 (.ld false 1 (.t 45)), oM 47 1, oP 48 (.ld true 8 (.t 7)), oP 49 (.iad 9 (.t 46) (.t 47)), oP 50 (.fad true 1 8 (.t 49)), oN (.st 8 (.t 50) (.t 48))] [1, 7, 45, 46, 47, 48, 49, 50])
 (.seq (.ops [] [oP 51 (.ld true 11 (.t 4)), oN (.st 11 (.t 8) (.t 51)), oP 9 (.mv (kI 0))] [4, 51])
 (.ret [8, 9]))))))))
def r_ref12_StoreSlot : List ARes := [.c 8 true 11, .t 9]
def fn_ref12_StoreSlot : AFn := .code c_ref12_StoreSlot r_ref12_StoreSlot 52 true
def l_ref07_Validate_0 : ACode :=
 (.seq (.seq (.ops [] [oM 58 7, oM 59 6, oP 60 (.len (.t 59)), oP 61 (.bin .lss (.t 58) (.t 60))] [58, 59, 60])
 (.cond (.t 61) .skip (.exit 0 [6])))
 (.seq (.block 1 (.seq (.draw [] [oM 64 6, oM 65 7, oP 66 (.iad 7 (.t 64) (.t 65)), oP 67 (.fad false 1 1 (.t 66)), oP 68 (.ld false 1 (.t 67)), oP 69 (.fad false 1 1 (.t 1)), oP 70 (.ld false 1 (.t 69)), oP 71 (.bin .lss (.t 68) (.t 70)), oM 72 71, oQ 73 (.mv (.t 6)) 72 false, oQ 74 (.mv (.t 7)) 72 false, oQ 75 (.iad 7 (.t 73) (.t 74)) 72 false, oQ 76 (.fad false 1 1 (.t 75)) 72 false, oQ 77 (.ld false 1 (.t 76)) 72 false, oQ 78 (.fad false 2 1 (.t 1)) 72 false, oQ 79 (.ld false 1 (.t 78)) 72 false, oQ 80 (.bin .gtr (.t 77) (.t 79)) 72 false, oP 81 (.pick (.t 72) (.c (.d (.bool true))) (.t 80))] [[], [0], [], [], [], [0, 1, 2, 3, 4], [0, 1, 2, 3, 4], [], [], [], [9], [], [], [], [9, 10, 11, 12, 13], [9, 10, 11, 12, 13], [], []] [61, 64, 65, 66, 67, 68, 69, 70, 71, 72, 73, 74, 75, 76, 77, 78, 79, 80])
 (.cond (.t 81) (.seq (.ops [] [oP 2 (.mv (kI 12))] [1, 6, 7, 81])
 (.ret [2])) .skip)))
 (.ops [] [oM 62 7, oP 63 (.bin .add (.t 62) (kI 1)), oM 7 63] [62, 63, 81])))
def l_ref07_Validate_1 : ACode :=
 (.seq (.seq (.ops [] [oM 82 8, oM 83 6, oP 84 (.len (.t 83)), oP 85 (.bin .lss (.t 82) (.t 84))] [82, 83, 84])
 (.cond (.t 85) .skip (.exit 2 [])))
 (.seq (.block 3 (.seq (.ops [] [oM 88 6, oM 89 6, oM 90 8, oP 91 (.iad 7 (.t 89) (.t 90)), oP 92 (.fad false 0 1 (.t 91)), oP 93 (.ld false 1 (.t 92)), oP 94 (.call N_ref03_Index [] [.t 88, .t 93]), oM 95 8, oP 96 (.bin .neq (.t 94) (.t 95))] [85, 88, 89, 90, 91, 92, 93, 94, 95])
 (.cond (.t 96) (.seq (.ops [] [oP 2 (.mv (kI 10))] [6, 8, 96])
 (.ret [2])) .skip)))
 (.ops [] [oM 86 8, oP 87 (.bin .add (.t 86) (kI 1)), oM 8 87] [86, 87, 96])))
def c_ref07_Validate : ACode :=
 (.seq (.ops [] [oP 1 (.box (.t 0)), oP 2 (.mv (kI 0))] [0, 2])
 (.seq (.seq (.ops [] [oP 9 (.fad true 3 3 (.t 1)), oP 10 (.ld true 3 (.t 9)), oP 11 (.call N_ref04_Validate [] [.t 10]), oM 3 11] [9, 10, 11])
 (.seq (.ops [] [oM 12 3, oP 13 (.bin .neq (.t 12) (kI 0))] [12])
 (.cond (.t 13) (.seq (.ops [] [oM 14 3, oM 2 14] [1, 3, 13, 14])
 (.ret [2])) .skip)))
 (.seq (.seq (.ops [] [oP 15 (.fad true 6 2 (.t 1)), oP 16 (.ld true 2 (.t 15)), oP 17 (.call N_ref06_Validate [] [.t 16]), oM 4 17] [3, 13, 15, 16, 17])
 (.seq (.ops [] [oM 18 4, oP 19 (.bin .neq (.t 18) (kI 0))] [18])
 (.cond (.t 19) (.seq (.ops [] [oM 20 4, oM 2 20] [1, 4, 19, 20])
 (.ret [2])) .skip)))
 (.seq (.ops [] [oP 21 (.fad true 3 3 (.t 1)), oP 22 (.fad false 2 1 (.t 21)), oP 23 (.ld false 1 (.t 22)), oP 24 (.fad true 6 2 (.t 1)), oP 25 (.fad false 0 1 (.t 24)), oP 26 (.ld false 1 (.t 25)), oP 27 (.len (.t 26)), oP 28 (.bin .add (.t 23) (.t 27)), oM 5 28] [4, 19, 21, 22, 23, 24, 25, 26, 27, 28])
 (.seq (.seq (.ops [] [oP 29 (.fad false 0 1 (.t 1)), oP 30 (.ld false 1 (.t 29)), oP 31 (.un .not (.t 30))] [29, 30])
 (.cond (.t 31) (.seq (.seq (.ops [] [oP 32 (.fad false 1 1 (.t 1)), oP 33 (.ld false 1 (.t 32)), oP 34 (.bin .neq (.t 33) (kI 0)), oM 35 34, oQ 36 (.fad false 2 1 (.t 1)) 35 false, oQ 37 (.ld false 1 (.t 36)) 35 false, oQ 38 (.bin .neq (.t 37) (kI 0)) 35 false, oP 39 (.pick (.t 35) (.c (.d (.bool true))) (.t 38)), oM 40 39, oQ 41 (.mv (.t 5)) 40 false, oQ 42 (.bin .gtr (.t 41) (kI 0)) 40 false, oP 43 (.pick (.t 40) (.c (.d (.bool true))) (.t 42))] [1, 5, 31, 32, 33, 34, 35, 36, 37, 38, 39, 40, 41, 42])
 (.cond (.t 43) (.seq (.ops [] [oP 2 (.mv (kI 7))] [43])
 (.ret [2])) .skip))
 (.seq (.ops [] [oP 2 (.mv (kI 0))] [43])
 (.ret [2]))) .skip))
 (.seq (.seq (.ops [] [oP 44 (.fad false 1 1 (.t 1)), oP 45 (.ld false 1 (.t 44)), oP 46 (.fad false 2 1 (.t 1)), oP 47 (.ld false 1 (.t 46)), oP 48 (.call N_ref07_span [] [.t 45, .t 47]), oP 49 (.un .not (.t 48))] [31, 44, 45, 46, 47, 48])
 (.cond (.t 49) (.seq (.ops [] [oP 2 (.mv (kI 1))] [1, 5, 49])
 (.ret [2])) .skip))
 (.seq (.seq (.ops [] [oM 50 5, oP 51 (.fad true 3 3 (.t 1)), oP 52 (.fad false 0 1 (.t 51)), oP 53 (.ld false 1 (.t 52)), oP 54 (.len (.t 53)), oP 55 (.bin .gtr (.t 50) (.t 54))] [5, 49, 50, 51, 52, 53, 54])
 (.cond (.t 55) (.seq (.ops [] [oP 2 (.mv (kI 3))] [1, 55])
 (.ret [2])) .skip))
 (.seq (.ops [] [oP 56 (.ld true 8 (.t 1)), oP 57 (.call N_ref07_All [false, true] [.t 56]), oM 6 57] [55, 56, 57])
 (.seq (.seq (.ops [] [oP 7 (.mv (kI 0))] [])
 (.block 0 (.loop [] l_ref07_Validate_0)))
 (.seq (.seq (.ops [] [oP 8 (.mv (kI 0))] [1, 7, 61])
 (.block 2 (.loop [] l_ref07_Validate_1)))
 (.seq (.ops [] [oP 2 (.mv (kI 0))] [6, 8, 85])
 (.ret [2]))))))))))))
def r_ref07_Validate : List ARes := [.t 2]
def fn_ref07_Validate : AFn := .code c_ref07_Validate r_ref07_Validate 97 true
def l_ref04_Validate_0 : ACode :=
 (.seq (.seq (.ops [] [oM 42 4, oM 43 3, oP 44 (.bin .lss (.t 42) (.t 43))] [42, 43])
 (.cond (.t 44) .skip (.exit 0 [1])))
 (.seq (.block 1 (.seq (.draw [] [oP 47 (.fad false 0 1 (.t 1)), oP 48 (.ld false 1 (.t 47)), oP 49 (.fad false 1 1 (.t 1)), oP 50 (.ld false 1 (.t 49)), oM 51 4, oP 52 (.bin .add (.t 50) (.t 51)), oM 53 3, oP 54 (.bin .rem (.t 52) (.t 53)), oP 55 (.iad 7 (.t 48) (.t 54)), oP 56 (.ld true 7 (.t 55)), oP 57 (.build [aI 0, aI 0, aI 0, aI 0, aI 0, aI 0, .d (.str [])] []), oP 58 (.eqs true 7 [(0, 0), (1, 0), (2, 0), (3, 0), (4, 0), (5, 0), (6, 2)] (.t 56) (.t 57))] [[], [], [0, 1], [0, 1], [0, 1, 2, 3], [0, 1], [0, 1, 2, 3, 4, 5], [0, 1], [], [], [0, 1, 2, 3, 4, 5, 6, 7, 8, 9], []] [44, 47, 48, 49, 50, 51, 52, 53, 54, 55, 56, 57])
 (.cond (.t 58) (.seq (.ops [] [oP 2 (.mv (kI 7))] [1, 3, 4, 58])
 (.ret [2])) .skip)))
 (.ops [] [oM 45 4, oP 46 (.bin .add (.t 45) (kI 1)), oM 4 46] [45, 46, 58])))
def l_ref04_Validate_1 : ACode :=
 (.seq (.seq (.ops [] [oM 61 6, oM 62 5, oP 63 (.len (.t 62)), oP 64 (.bin .lss (.t 61) (.t 63))] [61, 62, 63])
 (.cond (.t 64) .skip (.exit 2 [5])))
 (.seq (.block 3 (.seq (.ops [] [oM 67 5, oM 68 6, oP 69 (.iad 7 (.t 67) (.t 68)), oP 70 (.ld true 7 (.t 69)), oP 71 (.call N_ref03_Validate [] [.t 70]), oM 7 71] [64, 67, 68, 69, 70, 71])
 (.seq (.ops [] [oM 72 7, oP 73 (.bin .neq (.t 72) (kI 0))] [72])
 (.cond (.t 73) (.seq (.ops [] [oM 74 7, oM 2 74] [5, 6, 7, 73, 74])
 (.ret [2])) .skip))))
 (.ops [] [oM 65 6, oP 66 (.bin .add (.t 65) (kI 1)), oM 6 66] [7, 65, 66, 73])))
def l_ref04_Validate_2 : ACode :=
 (.seq (.seq (.ops [] [oM 75 8, oM 76 5, oP 77 (.len (.t 76)), oP 78 (.bin .lss (.t 75) (.t 77))] [75, 76, 77])
 (.cond (.t 78) .skip (.exit 4 [])))
 (.seq (.block 5 (.seq (.ops [] [oM 81 5, oM 82 5, oM 83 8, oP 84 (.iad 7 (.t 82) (.t 83)), oP 85 (.fad false 0 1 (.t 84)), oP 86 (.ld false 1 (.t 85)), oP 87 (.call N_ref03_Index [] [.t 81, .t 86]), oM 88 8, oP 89 (.bin .neq (.t 87) (.t 88))] [78, 81, 82, 83, 84, 85, 86, 87, 88])
 (.cond (.t 89) (.seq (.ops [] [oP 2 (.mv (kI 10))] [5, 8, 89])
 (.ret [2])) .skip)))
 (.ops [] [oM 79 8, oP 80 (.bin .add (.t 79) (kI 1)), oM 8 80] [79, 80, 89])))
def c_ref04_Validate : ACode :=
 (.seq (.ops [] [oP 1 (.box (.t 0)), oP 2 (.mv (kI 0))] [0, 2])
 (.seq (.ops [] [oP 9 (.fad false 0 1 (.t 1)), oP 10 (.ld false 1 (.t 9)), oP 11 (.len (.t 10)), oM 3 11] [9, 10, 11])
 (.seq (.seq (.ops [] [oM 12 3, oP 13 (.bin .lss (.t 12) (kI 1)), oM 14 13, oQ 15 (.mv (.t 3)) 14 false, oQ 16 (.bin .gtr (.t 15) (kI 12)) 14 false, oP 17 (.pick (.t 14) (.c (.d (.bool true))) (.t 16)), oM 18 17, oQ 19 (.fad false 1 1 (.t 1)) 18 false, oQ 20 (.ld false 1 (.t 19)) 18 false, oQ 21 (.bin .lss (.t 20) (kI 0)) 18 false, oP 22 (.pick (.t 18) (.c (.d (.bool true))) (.t 21)), oM 23 22, oQ 24 (.fad false 1 1 (.t 1)) 23 false, oQ 25 (.ld false 1 (.t 24)) 23 false, oQ 26 (.mv (.t 3)) 23 false, oQ 27 (.bin .geq (.t 25) (.t 26)) 23 false, oP 28 (.pick (.t 23) (.c (.d (.bool true))) (.t 27)), oM 29 28, oQ 30 (.fad false 2 1 (.t 1)) 29 false, oQ 31 (.ld false 1 (.t 30)) 29 false, oQ 32 (.bin .lss (.t 31) (kI 0)) 29 false, oP 33 (.pick (.t 29) (.c (.d (.bool true))) (.t 32)), oM 34 33, oQ 35 (.fad false 2 1 (.t 1)) 34 false, oQ 36 (.ld false 1 (.t 35)) 34 false, oQ 37 (.mv (.t 3)) 34 false, oQ 38 (.bin .gtr (.t 36) (.t 37)) 34 false, oP 39 (.pick (.t 34) (.c (.d (.bool true))) (.t 38))] [12, 13, 14, 15, 16, 17, 18, 19, 20, 21, 22, 23, 24, 25, 26, 27, 28, 29, 30, 31, 32, 33, 34, 35, 36, 37, 38])
 (.cond (.t 39) (.seq (.ops [] [oP 2 (.mv (kI 1))] [1, 3, 39])
 (.ret [2])) .skip))
 (.seq (.seq (.ops [] [oP 40 (.fad false 2 1 (.t 1)), oP 41 (.ld false 1 (.t 40)), oM 4 41] [39, 40, 41])
 (.block 0 (.loop [] l_ref04_Validate_0)))
 (.seq (.ops [] [oP 59 (.ld true 3 (.t 1)), oP 60 (.call N_ref04_order [false, true] [.t 59]), oM 5 60] [1, 3, 4, 44, 59, 60])
 (.seq (.seq (.ops [] [oP 6 (.mv (kI 0))] [])
 (.block 2 (.loop [] l_ref04_Validate_1)))
 (.seq (.seq (.ops [] [oP 8 (.mv (kI 0))] [6, 64])
 (.block 4 (.loop [] l_ref04_Validate_2)))
 (.seq (.ops [] [oP 2 (.mv (kI 0))] [5, 8, 78])
 (.ret [2])))))))))
def r_ref04_Validate : List ARes := [.t 2]
def fn_ref04_Validate : AFn := .code c_ref04_Validate r_ref04_Validate 90 true
def l_ref04_order_0 : ACode :=
 (.seq (.seq (.ops [] [oM 5 4, oP 6 (.fad false 2 1 (.t 1)), oP 7 (.ld false 1 (.t 6)), oP 8 (.bin .lss (.t 5) (.t 7))] [5, 6, 7])
 (.cond (.t 8) .skip (.exit 0 [3])))
 (.seq (.block 1 (.draw [] [oM 11 3, oP 12 (.fad false 0 1 (.t 1)), oP 13 (.ld false 1 (.t 12)), oP 14 (.fad false 1 1 (.t 1)), oP 15 (.ld false 1 (.t 14)), oM 16 4, oP 17 (.bin .add (.t 15) (.t 16)), oP 18 (.fad false 0 1 (.t 1)), oP 19 (.ld false 1 (.t 18)), oP 20 (.len (.t 19)), oP 21 (.bin .rem (.t 17) (.t 20)), oP 22 (.iad 7 (.t 13) (.t 21)), oP 23 (.ld true 7 (.t 22)), oP 24 (.bsl 1 7 (.d (.agg [.int .i64 0, .int .i64 0, .int .i64 0, .int .i64 0, .int .i64 0, .int .i64 0, .str []])) [(0, .t 23)]), oP 25 (.app 7 (.t 11) (.t 24)), oM 3 25] [[], [0], [0], [0, 1, 2], [0, 1, 2], [0, 1, 2, 3, 4], [0, 1, 2], [0, 1, 2, 3, 4, 5, 6], [0, 1, 2, 3, 4, 5, 6], [0, 1, 2, 3, 4, 5, 6], [0, 1, 2], [0], [0], [0], [], []] [8, 11, 12, 13, 14, 15, 16, 17, 18, 19, 20, 21, 22, 23, 24, 25]))
 (.ops [] [oM 9 4, oP 10 (.bin .add (.t 9) (kI 1)), oM 4 10] [9, 10])))
def c_ref04_order : ACode :=
 (.seq (.ops [] [oP 1 (.box (.t 0)), oP 2 (.mv (.c (.xsl [])))] [0, 2])
 (.seq (.ops [] [oP 3 .nacc] [])
 (.seq (.seq (.ops [] [oP 4 (.mv (kI 0))] [])
 (.block 0 (.loop [] l_ref04_order_0)))
 (.seq (.ops [] [oM 26 3, oM 2 26] [1, 3, 4, 8, 26])
 (.ret [2])))))
def r_ref04_order : List ARes := [.t 2]
def fn_ref04_order : AFn := .code c_ref04_order r_ref04_order 27 false
def l_ref06_Validate_0 : ACode :=
 (.seq (.seq (.ops [] [oM 13 3, oP 14 (.fad false 0 1 (.t 1)), oP 15 (.ld false 1 (.t 14)), oP 16 (.len (.t 15)), oP 17 (.bin .lss (.t 13) (.t 16))] [13, 14, 15, 16])
 (.cond (.t 17) .skip (.exit 0 [1])))
 (.seq (.block 1 (.seq (.ops [] [oP 20 (.fad false 0 1 (.t 1)), oP 21 (.ld false 1 (.t 20)), oM 22 3, oP 23 (.iad 8 (.t 21) (.t 22)), oP 24 (.ld true 8 (.t 23)), oP 4 (.alloc (.d (.agg [.int .i64 0, .int .i64 0, .int .i64 0, .int .i64 0, .int .i64 0, .int .i64 0, .str [], .int .i64 0]))), oN (.st 8 (.t 4) (.t 24))] [17, 20, 21, 22, 23, 24])
 (.seq (.seq (.ops [] [oP 25 (.fad true 0 7 (.t 4)), oP 26 (.ld true 7 (.t 25)), oP 27 (.call N_ref03_Validate [] [.t 26]), oM 5 27] [25, 26, 27])
 (.seq (.ops [] [oM 28 5, oP 29 (.bin .neq (.t 28) (kI 0))] [28])
 (.cond (.t 29) (.seq (.ops [] [oM 30 5, oM 2 30] [1, 3, 4, 5, 29, 30])
 (.ret [2])) .skip)))
 (.block 2 (.seq (.ops [] [oP 32 (.fad true 0 7 (.t 4)), oP 33 (.fad false 4 1 (.t 32)), oP 34 (.ld false 1 (.t 33)), oP 35 (.bin .eql (.t 34) (kI 0)), oM 31 35] [5, 29, 32, 33, 34, 35])
 (.cond (.t 31) (.seq (.ops [] [oP 2 (.mv (kI 7))] [1, 3, 4, 31])
 (.ret [2])) (.seq (.ops [] [oP 37 (.fad false 7 1 (.t 4)), oP 38 (.ld false 1 (.t 37)), oP 39 (.bin .lss (.t 38) (kI 0)), oM 40 39, oQ 41 (.fad false 7 1 (.t 4)) 40 false, oQ 42 (.ld false 1 (.t 41)) 40 false, oQ 43 (.bin .gtr (.t 42) (kI 1073741824)) 40 false, oP 44 (.pick (.t 40) (.c (.d (.bool true))) (.t 43)), oM 36 44] [31, 37, 38, 39, 40, 41, 42, 43, 44])
 (.cond (.t 36) (.seq (.ops [] [oP 2 (.mv (kI 1))] [1, 3, 4, 36])
 (.ret [2])) (.seq (.draw [] [oM 46 3, oP 47 (.bin .gtr (.t 46) (kI 0)), oM 48 47, oQ 49 (.fad true 0 7 (.t 4)) 48 true, oQ 50 (.fad false 0 1 (.t 49)) 48 true, oQ 51 (.ld false 1 (.t 50)) 48 true, oQ 52 (.fad false 0 1 (.t 1)) 48 true, oQ 53 (.ld false 1 (.t 52)) 48 true, oQ 54 (.mv (.t 3)) 48 true, oQ 55 (.bin .sub (.t 54) (kI 1)) 48 true, oQ 56 (.iad 8 (.t 53) (.t 55)) 48 true, oQ 57 (.fad true 0 7 (.t 56)) 48 true, oQ 58 (.fad false 0 1 (.t 57)) 48 true, oQ 59 (.ld false 1 (.t 58)) 48 true, oQ 60 (.bin .leq (.t 51) (.t 59)) 48 true, oP 61 (.pick (.t 48) (.t 60) (.c (.d (.bool false)))), oM 45 61] [[], [], [], [], [], [], [3, 4, 5], [3, 4, 5], [3, 4, 5, 6, 7], [3, 4, 5, 6, 7], [3, 4, 5], [3, 4, 5], [3, 4, 5], [3, 4, 5], [], [], []] [4, 36, 46, 47, 48, 49, 50, 51, 52, 53, 54, 55, 56, 57, 58, 59, 60, 61])
 (.cond (.t 45) (.seq (.ops [] [oP 2 (.mv (kI 11))] [1, 3, 45])
 (.ret [2])) .skip))))))))))
 (.ops [] [oM 18 3, oP 19 (.bin .add (.t 18) (kI 1)), oM 3 19] [18, 19, 45])))
def l_ref06_Validate_1 : ACode :=
 (.seq (.seq (.ops [] [oM 75 7, oP 76 (.fad false 1 1 (.t 1)), oP 77 (.ld false 1 (.t 76)), oP 78 (.len (.t 77)), oP 79 (.bin .lss (.t 75) (.t 78))] [75, 76, 77, 78])
 (.cond (.t 79) .skip (.exit 3 [])))
 (.seq (.block 4 (.seq (.draw [] [oP 82 (.ld true 2 (.t 1)), oP 83 (.fad false 1 1 (.t 1)), oP 84 (.ld false 1 (.t 83)), oM 85 7, oP 86 (.iad 2 (.t 84) (.t 85)), oP 87 (.fad false 1 1 (.t 86)), oP 88 (.ld false 1 (.t 87)), oP 89 (.call N_ref06_find [] [.t 82, .t 88]), oM 8 89] [[], [0], [0], [0, 1, 2], [0], [0], [0], [], []] [79, 82, 83, 84, 85, 86, 87, 88, 89])
 (.seq (.draw [] [oM 90 8, oP 91 (.bin .lss (.t 90) (kI 0)), oM 92 91, oQ 93 (.fad false 0 1 (.t 1)) 92 false, oQ 94 (.ld false 1 (.t 93)) 92 false, oQ 95 (.mv (.t 8)) 92 false, oQ 96 (.iad 8 (.t 94) (.t 95)) 92 false, oQ 97 (.fad false 7 1 (.t 96)) 92 false, oQ 98 (.ld false 1 (.t 97)) 92 false, oQ 99 (.fad false 1 1 (.t 1)) 92 false, oQ 100 (.ld false 1 (.t 99)) 92 false, oQ 101 (.mv (.t 7)) 92 false, oQ 102 (.iad 2 (.t 100) (.t 101)) 92 false, oQ 103 (.fad false 0 1 (.t 102)) 92 false, oQ 104 (.ld false 1 (.t 103)) 92 false, oQ 105 (.bin .neq (.t 98) (.t 104)) 92 false, oP 106 (.pick (.t 92) (.c (.d (.bool true))) (.t 105))] [[], [], [], [], [], [3, 4], [], [], [], [3, 4, 5, 6, 7, 8], [3, 4, 5, 6, 7, 8], [3, 4, 5, 6, 7, 8, 9, 10], [3, 4, 5, 6, 7, 8], [3, 4, 5, 6, 7, 8], [3, 4, 5, 6, 7, 8], [], []] [8, 90, 91, 92, 93, 94, 95, 96, 97, 98, 99, 100, 101, 102, 103, 104, 105])
 (.cond (.t 106) (.seq (.ops [] [oP 2 (.mv (kI 7))] [1, 7, 106])
 (.ret [2])) .skip))))
 (.ops [] [oM 80 7, oP 81 (.bin .add (.t 80) (kI 1)), oM 7 81] [80, 81, 106])))
def c_ref06_Validate : ACode :=
 (.seq (.ops [] [oP 1 (.box (.t 0)), oP 2 (.mv (kI 0))] [0, 2])
 (.seq (.seq (.ops [] [oP 9 (.fad false 0 1 (.t 1)), oP 10 (.ld false 1 (.t 9)), oP 11 (.len (.t 10)), oP 12 (.bin .gtr (.t 11) (kI 12))] [9, 10, 11])
 (.cond (.t 12) (.seq (.ops [] [oP 2 (.mv (kI 2))] [1, 12])
 (.ret [2])) .skip))
 (.seq (.seq (.ops [] [oP 3 (.mv (kI 0))] [12])
 (.block 0 (.loop [] l_ref06_Validate_0)))
 (.seq (.seq (.ops [] [oP 62 (.fad false 1 1 (.t 1)), oP 63 (.ld false 1 (.t 62)), oP 64 (.call N_ref05_Validate [] [.t 63]), oM 6 64] [3, 17, 62, 63, 64])
 (.seq (.ops [] [oM 65 6, oP 66 (.bin .neq (.t 65) (kI 0))] [65])
 (.cond (.t 66) (.seq (.ops [] [oM 67 6, oM 2 67] [1, 6, 66, 67])
 (.ret [2])) .skip)))
 (.seq (.seq (.ops [] [oP 68 (.fad false 1 1 (.t 1)), oP 69 (.ld false 1 (.t 68)), oP 70 (.len (.t 69)), oP 71 (.fad false 0 1 (.t 1)), oP 72 (.ld false 1 (.t 71)), oP 73 (.len (.t 72)), oP 74 (.bin .neq (.t 70) (.t 73))] [6, 66, 68, 69, 70, 71, 72, 73])
 (.cond (.t 74) (.seq (.ops [] [oP 2 (.mv (kI 7))] [1, 74])
 (.ret [2])) .skip))
 (.seq (.seq (.ops [] [oP 7 (.mv (kI 0))] [74])
 (.block 3 (.loop [] l_ref06_Validate_1)))
 (.seq (.ops [] [oP 2 (.mv (kI 0))] [1, 7, 79])
 (.ret [2]))))))))
def r_ref06_Validate : List ARes := [.t 2]
def fn_ref06_Validate : AFn := .code c_ref06_Validate r_ref06_Validate 107 true
def l_ref05_Validate_0 : ACode :=
 (.seq (.seq (.ops [] [oM 9 3, oM 10 0, oP 11 (.len (.t 10)), oP 12 (.bin .lss (.t 9) (.t 11))] [9, 10, 11])
 (.cond (.t 12) .skip (.exit 0 [0])))
 (.seq (.block 1 (.seq (.ops [] [oM 15 0, oM 16 3, oP 17 (.iad 2 (.t 15) (.t 16)), oP 18 (.ld true 2 (.t 17)), oP 19 (.call N_ref05_sound [] [.t 18]), oP 20 (.un .not (.t 19))] [12, 15, 16, 17, 18, 19])
 (.cond (.t 20) (.seq (.ops [] [oP 2 (.mv (kI 1))] [0, 3, 20])
 (.ret [2])) .skip)))
 (.ops [] [oM 13 3, oP 14 (.bin .add (.t 13) (kI 1)), oM 3 14] [13, 14, 20])))
def l_ref05_Validate_1 : ACode :=
 (.seq (.seq (.ops [] [oM 21 4, oM 22 0, oP 23 (.len (.t 22)), oP 24 (.bin .lss (.t 21) (.t 23))] [21, 22, 23])
 (.cond (.t 24) .skip (.exit 2 [0])))
 (.seq (.block 3 (.seq (.ops [] [oM 27 0, oM 28 0, oM 29 4, oP 30 (.iad 2 (.t 28) (.t 29)), oP 31 (.fad false 1 1 (.t 30)), oP 32 (.ld false 1 (.t 31)), oP 33 (.call N_ref05_index [] [.t 27, .t 32]), oM 34 4, oP 35 (.bin .neq (.t 33) (.t 34))] [24, 27, 28, 29, 30, 31, 32, 33, 34])
 (.cond (.t 35) (.seq (.ops [] [oP 2 (.mv (kI 10))] [0, 4, 35])
 (.ret [2])) .skip)))
 (.ops [] [oM 25 4, oP 26 (.bin .add (.t 25) (kI 1)), oM 4 26] [25, 26, 35])))
def l_ref05_Validate_2 : ACode :=
 (.seq (.seq (.ops [] [oM 36 5, oM 37 0, oP 38 (.len (.t 37)), oP 39 (.bin .lss (.t 36) (.t 38))] [36, 37, 38])
 (.cond (.t 39) .skip (.exit 4 [])))
 (.seq (.block 5 (.seq (.draw [] [oM 42 0, oM 43 5, oP 44 (.iad 2 (.t 42) (.t 43)), oP 45 (.ld true 2 (.t 44)), oM 46 0, oM 47 5, oP 48 (.bin .sub (.t 47) (kI 1)), oP 49 (.bin .quo (.t 48) (kI 2)), oP 50 (.iad 2 (.t 46) (.t 49)), oP 51 (.ld true 2 (.t 50)), oP 52 (.call N_ref05_before [] [.t 45, .t 51])] [[], [0], [], [], [0, 1, 2, 3], [0, 1, 2, 3, 4], [0, 1, 2, 3, 4], [0, 1, 2, 3, 4], [0, 1, 2, 3], [0, 1, 2, 3], []] [39, 42, 43, 44, 45, 46, 47, 48, 49, 50, 51])
 (.cond (.t 52) (.seq (.ops [] [oP 2 (.mv (kI 11))] [0, 5, 52])
 (.ret [2])) .skip)))
 (.ops [] [oM 40 5, oP 41 (.bin .add (.t 40) (kI 1)), oM 5 41] [40, 41, 52])))
def c_ref05_Validate : ACode :=
 (.seq (.ops [] [oP 2 (.mv (kI 0))] [2])
 (.seq (.seq (.ops [] [oM 6 0, oP 7 (.len (.t 6)), oP 8 (.bin .gtr (.t 7) (kI 12))] [6, 7])
 (.cond (.t 8) (.seq (.ops [] [oP 2 (.mv (kI 2))] [0, 8])
 (.ret [2])) .skip))
 (.seq (.seq (.ops [] [oP 3 (.mv (kI 0))] [8])
 (.block 0 (.loop [] l_ref05_Validate_0)))
 (.seq (.seq (.ops [] [oP 4 (.mv (kI 0))] [3, 12])
 (.block 2 (.loop [] l_ref05_Validate_1)))
 (.seq (.seq (.ops [] [oP 5 (.mv (kI 1))] [4, 24])
 (.block 4 (.loop [] l_ref05_Validate_2)))
 (.seq (.ops [] [oP 2 (.mv (kI 0))] [0, 5, 39])
 (.ret [2])))))))
def r_ref05_Validate : List ARes := [.t 2]
def fn_ref05_Validate : AFn := .code c_ref05_Validate r_ref05_Validate 53 true
def c_ref07_All : ACode :=
 (.seq (.ops [] [oP 1 (.box (.t 0)), oP 2 (.mv (.c (.xsl [])))] [0, 2])
 (.seq (.draw [] [oP 3 (.ld true 8 (.t 1)), oP 4 (.call N_ref07_Ready [false, true] [.t 3]), oP 5 (.app 7 (.c (.xsl [])) (.t 4)), oP 6 (.ld true 8 (.t 1)), oP 7 (.call N_ref07_Leased [false, true] [.t 6]), oP 8 (.app 7 (.t 5) (.t 7)), oM 2 8] [[], [], [], [0, 1, 2], [], [], []] [1, 3, 4, 5, 6, 7, 8])
 (.ret [2])))
def r_ref07_All : List ARes := [.t 2]
def fn_ref07_All : AFn := .code c_ref07_All r_ref07_All 9 true
def c_ref07_Ready : ACode :=
 (.seq (.ops [] [oP 1 (.box (.t 0)), oP 2 (.mv (.c (.xsl [])))] [0, 2])
 (.seq (.ops [] [oP 3 (.fad true 3 3 (.t 1)), oP 4 (.ld true 3 (.t 3)), oP 5 (.call N_ref04_List [false, true] [.t 4]), oM 2 5] [1, 3, 4, 5])
 (.ret [2])))
def r_ref07_Ready : List ARes := [.t 2]
def fn_ref07_Ready : AFn := .code c_ref07_Ready r_ref07_Ready 6 true
def c_ref04_List : ACode :=
 (.seq (.ops [] [oP 1 (.box (.t 0)), oP 2 (.mv (.c (.xsl [])))] [0, 2])
 (.seq (.seq (.ops [] [oP 3 (.ld true 3 (.t 1)), oP 4 (.call N_ref04_Validate [] [.t 3]), oP 5 (.bin .neq (.t 4) (kI 0))] [3, 4])
 (.cond (.t 5) (.seq (.ops [] [oP 2 (.mv (.c (.xsl [])))] [1, 5])
 (.ret [2])) .skip))
 (.seq (.ops [] [oP 6 (.ld true 3 (.t 1)), oP 7 (.call N_ref04_order [false, true] [.t 6]), oM 2 7] [1, 5, 6, 7])
 (.ret [2]))))
def r_ref04_List : List ARes := [.t 2]
def fn_ref04_List : AFn := .code c_ref04_List r_ref04_List 8 true
def l_ref07_Leased_0 : ACode :=
 (.seq (.seq (.ops [] [oM 5 4, oP 6 (.fad true 6 2 (.t 1)), oP 7 (.fad false 0 1 (.t 6)), oP 8 (.ld false 1 (.t 7)), oP 9 (.len (.t 8)), oP 10 (.bin .lss (.t 5) (.t 9))] [5, 6, 7, 8, 9])
 (.cond (.t 10) .skip (.exit 0 [3])))
 (.seq (.block 1 (.ops [] [oM 13 3, oP 14 (.fad true 6 2 (.t 1)), oP 15 (.fad false 0 1 (.t 14)), oP 16 (.ld false 1 (.t 15)), oM 17 4, oP 18 (.iad 8 (.t 16) (.t 17)), oP 19 (.fad true 0 7 (.t 18)), oP 20 (.ld true 7 (.t 19)), oP 21 (.bsl 1 7 (.d (.agg [.int .i64 0, .int .i64 0, .int .i64 0, .int .i64 0, .int .i64 0, .int .i64 0, .str []])) [(0, .t 20)]), oP 22 (.app 7 (.t 13) (.t 21)), oM 3 22] [10, 13, 14, 15, 16, 17, 18, 19, 20, 21, 22]))
 (.ops [] [oM 11 4, oP 12 (.bin .add (.t 11) (kI 1)), oM 4 12] [11, 12])))
def c_ref07_Leased : ACode :=
 (.seq (.ops [] [oP 1 (.box (.t 0)), oP 2 (.mv (.c (.xsl [])))] [0, 2])
 (.seq (.ops [] [oP 3 .nacc] [])
 (.seq (.seq (.ops [] [oP 4 (.mv (kI 0))] [])
 (.block 0 (.loop [] l_ref07_Leased_0)))
 (.seq (.ops [] [oM 23 3, oM 2 23] [1, 3, 4, 10, 23])
 (.ret [2])))))
def r_ref07_Leased : List ARes := [.t 2]
def fn_ref07_Leased : AFn := .code c_ref07_Leased r_ref07_Leased 24 true
def c_ref15_unmarking : ACode :=
 (.seq (.ops [] [oP 2 (.box (.t 0)), oP 3 (.box (.t 1)), oP 4 (.alloc (.agg [.xsl [], .xsl [], aI 0, aI 0, .xsl [], aI 0, .xsl [], .xsl [], aI 0, aI 0, aI 0])), oP 5 (.alloc (.agg [aI 0, aI 0, .xsl [], aI 0, aI 0, aI 0, aI 0, aI 0, aI 0, aI 0, aI 0, .xsl [], aI 0, .xsl [], .xsl [], aI 0, .xsl [], .xsl [], .xsl [], aI 0, .xsl [], .xsl [], .xsl [], .xsl [], aI 0, .xsl []])), oP 6 (.mv (kI 0))] [0, 1, 6])
 (.seq (.seq (.ops [] [oP 8 (.fad false 14 1 (.t 3)), oP 9 (.ld false 1 (.t 8)), oP 10 (.len (.t 9)), oP 11 (.bin .gtr (.t 10) (kI 0))] [8, 9, 10])
 (.cond (.t 11) (.seq (.draw [] [oP 12 (.ld true 11 (.t 2)), oP 13 (.ld true 26 (.t 3)), oP 14 (.call N_ref15_enter [false, false, true] [.t 13, kI 7]), oN (.st 11 (.t 4) (.t 12)), oN (.st 26 (.t 5) (.t 14)), oP 6 (.mv (kI 0))] [[], [0], [0], [], [], []] [2, 3, 11, 12, 13, 14])
 (.ret [4, 5, 6])) .skip))
 (.seq (.ops [] [oP 16 (.ld true 26 (.t 3)), oP 17 (.call N_ref15_freeing [false, true] [.t 16]), oM 15 17, oP 18 (.ext (.t 15) 0), oP 19 (.ext (.t 15) 1), oN (.st 26 (.t 3) (.t 18)), oM 7 19] [11, 15, 16, 17, 18, 19])
 (.seq (.draw [] [oP 20 (.ld true 11 (.t 2)), oP 21 (.ld true 26 (.t 3)), oM 22 7, oN (.st 11 (.t 4) (.t 20)), oN (.st 26 (.t 5) (.t 21)), oM 6 22] [[], [0], [0, 1], [1, 2], [2], []] [2, 3, 7, 20, 21, 22])
 (.ret [4, 5, 6])))))
def r_ref15_unmarking : List ARes := [.c 4 true 11, .c 5 true 26, .t 6]
def fn_ref15_unmarking : AFn := .code c_ref15_unmarking r_ref15_unmarking 23 true
def c_ref15_freeing : ACode :=
 (.seq (.ops [] [oP 1 (.box (.t 0)), oP 2 (.alloc (.agg [aI 0, aI 0, .xsl [], aI 0, aI 0, aI 0, aI 0, aI 0, aI 0, aI 0, aI 0, .xsl [], aI 0, .xsl [], .xsl [], aI 0, .xsl [], .xsl [], .xsl [], aI 0, .xsl [], .xsl [], .xsl [], .xsl [], aI 0, .xsl []])), oP 3 (.mv (kI 0))] [0, 3])
 (.seq (.ops [] [oP 7 (.fad true 2 5 (.t 1)), oP 8 (.ld true 5 (.t 7)), oP 9 (.call N_ref13_Free [false, true] [.t 8]), oM 6 9, oP 10 (.ext (.t 6) 0), oP 11 (.ext (.t 6) 1), oP 4 (.alloc (.agg [.xsl [], aI 0, aI 0, aI 0, aI 0])), oN (.st 5 (.t 4) (.t 10)), oM 5 11] [6, 7, 8, 9, 10, 11])
 (.seq (.seq (.ops [] [oM 12 5, oP 13 (.bin .neq (.t 12) (kI 0))] [12])
 (.cond (.t 13) (.seq (.ops [] [oP 14 (.ld true 26 (.t 1)), oM 15 5, oN (.st 26 (.t 2) (.t 14)), oM 3 15] [1, 4, 5, 13, 14, 15])
 (.ret [2, 3])) .skip))
 (.seq (.ops [] [oP 16 (.ld true 5 (.t 4)), oP 17 (.fad true 2 5 (.t 1)), oN (.st 5 (.t 17) (.t 16))] [4, 5, 13, 16, 17])
 (.seq (.ops [] [oP 18 (.ld true 26 (.t 1)), oP 19 (.call N_ref15_enter [false, false, true] [.t 18, kI 8]), oN (.st 26 (.t 2) (.t 19)), oP 3 (.mv (kI 0))] [1, 18, 19])
 (.ret [2, 3]))))))
def r_ref15_freeing : List ARes := [.c 2 true 26, .t 3]
def fn_ref15_freeing : AFn := .code c_ref15_freeing r_ref15_freeing 20 true
def c_ref13_Free : ACode :=
 (.seq (.ops [] [oP 1 (.box (.t 0)), oP 2 (.alloc (.agg [.xsl [], aI 0, aI 0, aI 0, aI 0])), oP 3 (.mv (kI 0))] [0, 3])
 (.seq (.seq (.ops [] [oP 4 (.fad false 1 1 (.t 1)), oP 5 (.ld false 1 (.t 4)), oP 6 (.bin .neq (.t 5) (kI 3))] [4, 5])
 (.cond (.t 6) (.seq (.ops [] [oP 7 (.build [.xsl [], aI 0, aI 0, aI 0, aI 0] []), oN (.st 5 (.t 2) (.t 7)), oP 3 (.mv (kI 7))] [1, 6, 7])
 (.ret [2, 3])) .skip))
 (.seq (.ops [] [oP 8 (.fad false 1 1 (.t 1)), oN (.st 1 (.t 8) (kI 4))] [6, 8])
 (.seq (.ops [] [oP 9 (.ld true 5 (.t 1)), oN (.st 5 (.t 2) (.t 9)), oP 3 (.mv (kI 0))] [1, 9])
 (.ret [2, 3])))))
def r_ref13_Free : List ARes := [.c 2 true 5, .t 3]
def fn_ref13_Free : AFn := .code c_ref13_Free r_ref13_Free 10 true
def c_ref15_edit : ACode :=
 (.seq (.ops [] [oP 2 (.box (.t 0)), oP 3 (.box (.t 1)), oP 4 (.alloc (.agg [.xsl [], .xsl [], aI 0, aI 0, .xsl [], aI 0, .xsl [], .xsl [], aI 0, aI 0, aI 0])), oP 5 (.alloc (.agg [aI 0, aI 0, .xsl [], aI 0, aI 0, aI 0, aI 0, aI 0, aI 0, aI 0, aI 0, .xsl [], aI 0, .xsl [], .xsl [], aI 0, .xsl [], .xsl [], .xsl [], aI 0, .xsl [], .xsl [], .xsl [], .xsl [], aI 0, .xsl []])), oP 6 (.mv (kI 0))] [0, 1, 6])
 (.seq (.seq (.ops [] [oP 11 (.fad false 1 1 (.t 3)), oP 12 (.ld false 1 (.t 11)), oP 13 (.bin .eql (.t 12) (kI 0))] [11, 12])
 (.cond (.t 13) (.seq (.ops [] [oP 14 (.ld true 11 (.t 2)), oP 15 (.call N_ref12_LoadDir [false, true] [.t 14]), oP 16 (.fad true 15 3 (.t 3)), oN (.st 3 (.t 16) (.t 15))] [13, 14, 15, 16])
 (.seq (.ops [] [oP 17 (.fad false 1 1 (.t 3)), oN (.st 1 (.t 17) (kI 1))] [17])
 (.seq (.draw [] [oP 18 (.ld true 11 (.t 2)), oP 19 (.ld true 26 (.t 3)), oN (.st 11 (.t 4) (.t 18)), oN (.st 26 (.t 5) (.t 19)), oP 6 (.mv (kI 0))] [[], [0], [1], [], []] [2, 3, 18, 19])
 (.ret [4, 5, 6])))) .skip))
 (.seq (.draw [] [oP 21 (.fad true 15 3 (.t 3)), oP 22 (.ld true 3 (.t 21)), oP 23 (.fad true 18 6 (.t 3)), oP 24 (.fad false 5 1 (.t 23)), oP 25 (.ld false 1 (.t 24)), oP 26 (.iad 4 (.t 25) (kI 0)), oP 27 (.ld true 4 (.t 26)), oP 28 (.call N_ref10_Apply [false, false, true] [.t 22, .t 27]), oM 20 28, oP 29 (.ext (.t 20) 0), oP 30 (.ext (.t 20) 1), oP 7 (.alloc (.agg [aI 0, .xsl [], .xsl []])), oN (.st 3 (.t 7) (.t 29)), oM 8 30] [[], [], [0, 1], [0, 1], [0, 1], [0, 1], [0, 1], [], [], [], [9], [0, 1, 2, 3, 4, 5, 6, 7, 8, 9, 10], [10], []] [13, 20, 21, 22, 23, 24, 25, 26, 27, 28, 29, 30])
 (.seq (.seq (.ops [] [oM 31 8, oP 32 (.bin .neq (.t 31) (kI 0))] [31])
 (.cond (.t 32) (.seq (.draw [] [oP 33 (.ld true 11 (.t 2)), oP 34 (.ld true 26 (.t 3)), oM 35 8, oN (.st 11 (.t 4) (.t 33)), oN (.st 26 (.t 5) (.t 34)), oM 6 35] [[], [0], [0, 1], [1, 2], [2], []] [2, 3, 7, 8, 32, 33, 34, 35])
 (.ret [4, 5, 6])) .skip))
 (.seq (.ops [] [oP 37 (.ld true 11 (.t 2)), oP 38 (.fad true 15 3 (.t 3)), oP 39 (.fad false 0 1 (.t 38)), oP 40 (.ld false 1 (.t 39)), oP 41 (.ld true 3 (.t 7)), oP 42 (.call N_ref12_CASDir [false, false, false, true] [.t 37, .t 40, .t 41]), oM 36 42, oP 43 (.ext (.t 36) 0), oP 44 (.ext (.t 36) 1), oP 45 (.ext (.t 36) 2), oP 9 (.alloc (.agg [.xsl [], .xsl [], aI 0, aI 0, .xsl [], aI 0, .xsl [], .xsl [], aI 0, aI 0, aI 0])), oN (.st 11 (.t 9) (.t 43)), oM 10 44, oM 8 45] [32, 36, 37, 38, 39, 40, 41, 42, 43, 44, 45])
 (.seq (.seq (.ops [] [oM 46 8, oP 47 (.bin .neq (.t 46) (kI 0))] [46])
 (.cond (.t 47) (.seq (.draw [] [oP 48 (.ld true 11 (.t 2)), oP 49 (.ld true 26 (.t 3)), oM 50 8, oN (.st 11 (.t 4) (.t 48)), oN (.st 26 (.t 5) (.t 49)), oM 6 50] [[], [0], [0, 1], [1, 2], [2], []] [2, 3, 7, 8, 9, 10, 47, 48, 49, 50])
 (.ret [4, 5, 6])) .skip))
 (.seq (.seq (.ops [] [oM 51 10, oP 52 (.un .not (.t 51))] [2, 8, 10, 47, 51])
 (.cond (.t 52) (.seq (.ops [] [oP 53 (.fad false 1 1 (.t 3)), oN (.st 1 (.t 53) (kI 0))] [7, 52, 53])
 (.seq (.draw [] [oP 54 (.ld true 11 (.t 9)), oP 55 (.ld true 26 (.t 3)), oN (.st 11 (.t 4) (.t 54)), oN (.st 26 (.t 5) (.t 55)), oP 6 (.mv (kI 0))] [[], [0], [1], [], []] [3, 9, 54, 55])
 (.ret [4, 5, 6]))) .skip))
 (.seq (.ops [] [oP 56 (.ld true 3 (.t 7)), oP 57 (.fad true 15 3 (.t 3)), oN (.st 3 (.t 57) (.t 56))] [7, 52, 56, 57])
 (.seq (.ops [] [oP 58 (.ld true 11 (.t 9)), oP 59 (.ld true 26 (.t 3)), oP 60 (.call N_ref15_unmarking [false, false, true] [.t 58, .t 59]), oP 61 (.ext (.t 60) 0), oP 62 (.ext (.t 60) 1), oP 63 (.ext (.t 60) 2), oN (.st 11 (.t 4) (.t 61)), oN (.st 26 (.t 5) (.t 62)), oM 6 63] [3, 9, 58, 59, 60, 61, 62, 63])
 (.ret [4, 5, 6]))))))))))
def r_ref15_edit : List ARes := [.c 4 true 11, .c 5 true 26, .t 6]
def fn_ref15_edit : AFn := .code c_ref15_edit r_ref15_edit 64 true
def c_ref15_unmark : ACode :=
 (.seq (.ops [] [oP 3 (.box (.t 0)), oP 4 (.box (.t 1)), oP 6 (.alloc (.agg [.xsl [], .xsl [], aI 0, aI 0, .xsl [], aI 0, .xsl [], .xsl [], aI 0, aI 0, aI 0])), oP 7 (.alloc (.agg [aI 0, aI 0, .xsl [], aI 0, aI 0, aI 0, aI 0, aI 0, aI 0, aI 0, aI 0, .xsl [], aI 0, .xsl [], .xsl [], aI 0, .xsl [], .xsl [], .xsl [], aI 0, .xsl [], .xsl [], .xsl [], .xsl [], aI 0, .xsl []])), oP 8 (.mv (kI 0))] [0, 1, 8])
 (.seq (.ops [] [oP 13 (.fad false 1 1 (.t 4)), oP 14 (.ld false 1 (.t 13)), oM 9 14] [13, 14])
 (.seq (.ops [] [oP 15 (.fad false 11 1 (.t 4)), oP 16 (.ld false 1 (.t 15)), oM 17 9, oP 18 (.iad 8 (.t 16) (.t 17)), oP 19 (.ld true 8 (.t 18)), oP 10 (.alloc (.agg [.d (.bool false), aI 0, aI 0, .xsl [], aI 0, aI 0, .xsl [], .xsl []])), oN (.st 8 (.t 10) (.t 19))] [15, 16, 17, 18, 19])
 (.seq (.seq (.ops [] [oP 20 (.ld true 26 (.t 4)), oM 21 9, oP 22 (.call N_ref15_Stored [] [.t 20, .t 21])] [20, 21])
 (.cond (.t 22) (.ops [] [oP 23 (.fad true 18 6 (.t 4)), oP 24 (.fad false 0 1 (.t 23)), oP 25 (.ld false 1 (.t 24)), oM 26 9, oP 27 (.iad 8 (.t 25) (.t 26)), oP 28 (.ld true 8 (.t 27)), oN (.st 8 (.t 10) (.t 28))] [22, 23, 24, 25, 26, 27, 28]) .skip))
 (.seq (.draw [] [oP 30 (.fad false 14 1 (.t 4)), oP 31 (.ld false 1 (.t 30)), oM 32 9, oP 33 (.iad 4 (.t 31) (.t 32)), oP 34 (.ld true 4 (.t 33)), oP 35 (.ld true 8 (.t 10)), oP 36 (.fad true 7 4 (.t 4)), oP 37 (.fad false 1 1 (.t 36)), oP 38 (.ld false 1 (.t 37)), oP 39 (.fad false 24 1 (.t 4)), oP 40 (.ld false 1 (.t 39)), oP 41 (.call N_ref11_End [] [.t 34, .t 35, .t 38, .t 40]), oM 29 41, oP 42 (.ext (.t 29) 0), oP 43 (.ext (.t 29) 1), oP 11 (.alloc (.d (.agg [.int .i64 0, .int .i64 0, .int .i64 0, .int .i64 0]))), oN (.st 4 (.t 11) (.t 42)), oM 12 43] [[], [], [0, 1], [], [], [0, 1, 2, 3, 4], [0, 1, 2, 3, 4, 5], [0, 1, 2, 3, 4, 5], [0, 1, 2, 3, 4, 5], [0, 1, 2, 3, 4, 5, 6, 7, 8], [0, 1, 2, 3, 4, 5, 6, 7, 8], [], [], [], [13], [0, 1, 2, 3, 4, 5, 6, 7, 8, 9, 10, 11, 12, 13, 14], [14], []] [10, 22, 29, 30, 31, 32, 33, 34, 35, 36, 37, 38, 39, 40, 41, 42, 43])
 (.seq (.seq (.ops [] [oM 44 12, oP 45 (.bin .neq (.t 44) (kI 0))] [44])
 (.cond (.t 45) (.seq (.draw [] [oP 46 (.ld true 11 (.t 3)), oP 47 (.ld true 26 (.t 4)), oM 48 12, oN (.st 11 (.t 6) (.t 46)), oN (.st 26 (.t 7) (.t 47)), oM 8 48] [[], [0], [0, 1], [1, 2], [2], []] [2, 3, 4, 9, 11, 12, 45, 46, 47, 48])
 (.ret [6, 7, 8])) .skip))
 (.seq (.draw [] [oP 50 (.ld true 11 (.t 3)), oP 51 (.fad true 2 5 (.t 4)), oP 52 (.fad false 0 1 (.t 51)), oP 53 (.ld false 1 (.t 52)), oM 54 9, oP 55 (.iad 1 (.t 53) (.t 54)), oP 56 (.ld false 1 (.t 55)), oM 57 2, oP 58 (.ld true 4 (.t 11)), oP 59 (.call N_ref12_StoreStripe [false, false, false, false, true] [.t 50, .t 56, .t 57, .t 58]), oM 49 59, oP 60 (.ext (.t 49) 0), oP 61 (.ext (.t 49) 1), oN (.st 11 (.t 3) (.t 60)), oM 12 61] [[], [0], [0], [0], [0, 1, 2, 3], [0], [0], [0, 1, 2, 3, 4, 5, 6], [0, 1, 2, 3, 4, 5, 6, 7], [], [], [], [11], [12], []] [2, 9, 11, 45, 49, 50, 51, 52, 53, 54, 55, 56, 57, 58, 59, 60, 61])
 (.seq (.seq (.ops [] [oM 62 12, oP 63 (.bin .neq (.t 62) (kI 0))] [62])
 (.cond (.t 63) (.seq (.draw [] [oP 64 (.ld true 11 (.t 3)), oP 65 (.ld true 26 (.t 4)), oM 66 12, oN (.st 11 (.t 6) (.t 64)), oN (.st 26 (.t 7) (.t 65)), oM 8 66] [[], [0], [0, 1], [1, 2], [2], []] [3, 4, 12, 63, 64, 65, 66])
 (.ret [6, 7, 8])) .skip))
 (.seq (.ops [] [oP 67 (.fad false 1 1 (.t 4)), oP 68 (.ld false 1 (.t 67)), oP 69 (.bin .add (.t 68) (kI 1)), oP 70 (.fad false 1 1 (.t 4)), oN (.st 1 (.t 70) (.t 69))] [63, 67, 68, 69, 70])
 (.seq (.seq (.ops [] [oP 71 (.fad false 1 1 (.t 4)), oP 72 (.ld false 1 (.t 71)), oP 73 (.fad false 14 1 (.t 4)), oP 74 (.ld false 1 (.t 73)), oP 75 (.len (.t 74)), oP 76 (.bin .eql (.t 72) (.t 75))] [71, 72, 73, 74, 75])
 (.cond (.t 76) (.ops [] [oP 78 (.ld true 26 (.t 4)), oP 79 (.call N_ref15_freeing [false, true] [.t 78]), oM 77 79, oP 80 (.ext (.t 77) 0), oP 81 (.ext (.t 77) 1), oN (.st 26 (.t 4) (.t 80)), oM 12 81] [76, 77, 78, 79, 80, 81]) .skip))
 (.seq (.draw [] [oP 82 (.ld true 11 (.t 3)), oP 83 (.ld true 26 (.t 4)), oM 84 12, oN (.st 11 (.t 6) (.t 82)), oN (.st 26 (.t 7) (.t 83)), oM 8 84] [[], [0], [0, 1], [1, 2], [2], []] [3, 4, 12, 76, 82, 83, 84])
 (.ret [6, 7, 8]))))))))))))
def r_ref15_unmark : List ARes := [.c 6 true 11, .c 7 true 26, .t 8]
def fn_ref15_unmark : AFn := .code c_ref15_unmark r_ref15_unmark 85 true
def l_ref15_Stored_0 : ACode :=
 (.seq (.seq (.ops [] [oM 6 5, oP 7 (.fad true 18 6 (.t 2)), oP 8 (.fad false 3 1 (.t 7)), oP 9 (.ld false 1 (.t 8)), oP 10 (.len (.t 9)), oP 11 (.bin .lss (.t 6) (.t 10))] [6, 7, 8, 9, 10])
 (.cond (.t 11) .skip (.exit 0 [])))
 (.seq (.block 1 (.seq (.ops [] [oP 14 (.fad true 18 6 (.t 2)), oP 15 (.fad false 3 1 (.t 14)), oP 16 (.ld false 1 (.t 15)), oM 17 5, oP 18 (.iad 1 (.t 16) (.t 17)), oP 19 (.ld false 1 (.t 18)), oM 20 1, oP 21 (.bin .eql (.t 19) (.t 20))] [11, 14, 15, 16, 17, 18, 19, 20])
 (.cond (.t 21) (.seq (.ops [] [oP 4 (.mv (.c (.d (.bool true))))] [1, 2, 5, 21])
 (.ret [4])) .skip)))
 (.ops [] [oM 12 5, oP 13 (.bin .add (.t 12) (kI 1)), oM 5 13] [12, 13, 21])))
def c_ref15_Stored : ACode :=
 (.seq (.ops [] [oP 2 (.box (.t 0)), oP 4 (.mv (.c (.d (.bool false))))] [0, 4])
 (.seq (.seq (.ops [] [oP 5 (.mv (kI 0))] [])
 (.block 0 (.loop [] l_ref15_Stored_0)))
 (.seq (.ops [] [oP 4 (.mv (.c (.d (.bool false))))] [1, 2, 5, 11])
 (.ret [4]))))
def r_ref15_Stored : List ARes := [.t 4]
def fn_ref15_Stored : AFn := .code c_ref15_Stored r_ref15_Stored 22 true
def c_ref11_End : ACode :=
 (.seq (.ops [] [oP 4 (.box (.t 0)), oP 5 (.box (.t 1)), oP 8 (.alloc (.d (.agg [.int .i64 0, .int .i64 0, .int .i64 0, .int .i64 0]))), oP 9 (.mv (kI 0))] [0, 1, 9])
 (.seq (.seq (.ops [] [oP 13 (.fad false 0 1 (.t 4)), oP 14 (.ld false 1 (.t 13)), oP 15 (.bin .lss (.t 14) (kI 0)), oM 16 15, oQ 17 (.fad false 0 1 (.t 4)) 16 false, oQ 18 (.ld false 1 (.t 17)) 16 false, oQ 19 (.bin .gtr (.t 18) (kI 1099511627776)) 16 false, oP 20 (.pick (.t 16) (.c (.d (.bool true))) (.t 19))] [13, 14, 15, 16, 17, 18, 19])
 (.cond (.t 20) (.seq (.ops [] [oP 21 (.build [aI 0, aI 0, aI 0, aI 0] []), oN (.st 4 (.t 8) (.t 21)), oP 9 (.mv (kI 1))] [2, 3, 4, 5, 20, 21])
 (.ret [8, 9])) .skip))
 (.seq (.seq (.ops [] [oP 22 (.fad false 0 1 (.t 4)), oP 23 (.ld false 1 (.t 22)), oP 24 (.bin .rem (.t 23) (kI 2)), oP 25 (.bin .eql (.t 24) (kI 0))] [20, 22, 23, 24])
 (.cond (.t 25) (.seq (.ops [] [oP 26 (.build [aI 0, aI 0, aI 0, aI 0] []), oN (.st 4 (.t 8) (.t 26)), oP 9 (.mv (kI 7))] [2, 3, 4, 5, 25, 26])
 (.ret [8, 9])) .skip))
 (.seq (.seq (.ops [] [oP 27 (.ld true 8 (.t 5)), oP 28 (.call N_ref07_Validate [] [.t 27]), oM 10 28] [25, 27, 28])
 (.seq (.ops [] [oM 29 10, oP 30 (.bin .neq (.t 29) (kI 0))] [29])
 (.cond (.t 30) (.seq (.ops [] [oP 31 (.build [aI 0, aI 0, aI 0, aI 0] []), oM 32 10, oN (.st 4 (.t 8) (.t 31)), oM 9 32] [2, 3, 4, 5, 10, 30, 31, 32])
 (.ret [8, 9])) .skip)))
 (.seq (.seq (.ops [] [oM 33 2, oP 34 (.bin .lss (.t 33) (kI 0)), oM 35 34, oQ 36 (.mv (.t 2)) 35 false, oQ 37 (.bin .gtr (.t 36) (kI 65536)) 35 false, oP 38 (.pick (.t 35) (.c (.d (.bool true))) (.t 37)), oM 39 38, oQ 40 (.mv (.t 3)) 39 false, oQ 41 (.bin .lss (.t 40) (kI 1)) 39 false, oP 42 (.pick (.t 39) (.c (.d (.bool true))) (.t 41)), oM 43 42, oQ 44 (.mv (.t 3)) 43 false, oQ 45 (.bin .gtr (.t 44) (kI 8)) 43 false, oP 46 (.pick (.t 43) (.c (.d (.bool true))) (.t 45))] [10, 30, 33, 34, 35, 36, 37, 38, 39, 40, 41, 42, 43, 44, 45])
 (.cond (.t 46) (.seq (.ops [] [oP 47 (.build [aI 0, aI 0, aI 0, aI 0] []), oN (.st 4 (.t 8) (.t 47)), oP 9 (.mv (kI 1))] [2, 3, 4, 5, 46, 47])
 (.ret [8, 9])) .skip))
 (.seq (.ops [] [oP 49 (.ld true 8 (.t 5)), oM 50 2, oM 51 3, oP 52 (.call N_ref07_Counts [] [.t 49, .t 50, .t 51]), oM 48 52, oP 53 (.ext (.t 48) 0), oP 54 (.ext (.t 48) 1), oM 11 53, oM 12 54] [3, 5, 46, 48, 49, 50, 51, 52, 53, 54])
 (.seq (.ops [] [oP 55 (.fad false 0 1 (.t 4)), oP 56 (.ld false 1 (.t 55)), oP 57 (.bin .add (.t 56) (kI 1)), oM 58 2, oM 59 11, oM 60 12, oP 61 (.build [aI 0, aI 0, aI 0, aI 0] [(0, (1, .t 57)), (1, (1, .t 58)), (2, (1, .t 59)), (3, (1, .t 60))]), oN (.st 4 (.t 8) (.t 61)), oP 9 (.mv (kI 0))] [2, 4, 11, 12, 55, 56, 57, 58, 59, 60, 61])
 (.ret [8, 9]))))))))
def r_ref11_End : List ARes := [.c 8 true 4, .t 9]
def fn_ref11_End : AFn := .code c_ref11_End r_ref11_End 62 true
end Go.Proofs.YtjillamaceggeaaGreat
