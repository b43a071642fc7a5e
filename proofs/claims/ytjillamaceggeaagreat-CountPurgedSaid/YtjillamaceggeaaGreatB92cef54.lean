/-
  Functions of the program, as the calculus has them.
-/
import Derived.Test.YtjillamaceggeaaGreatB3cb969c
import Derived.Test.YtjillamaceggeaaGreatBa950f32
set_option linter.unusedSimpArgs false
set_option linter.unusedVariables false
namespace Go.Proofs.YtjillamaceggeaaGreat
open Go Go.Sim
def l_ref07_Counts_0 : ACode :=
 (.seq (.seq (.ops [] [oM 31 12, oM 32 10, oP 33 (.len (.t 32)), oP 34 (.bin .lss (.t 31) (.t 33))] [31, 32, 33])
 (.cond (.t 34) .skip (.exit 0 [1, 8, 9, 11])))
 (.seq (.block 1 (.seq (.ops [] [oM 37 10, oM 38 12, oP 39 (.iad 7 (.t 37) (.t 38)), oP 40 (.ld true 7 (.t 39)), oM 41 1, oP 42 (.call N_ref03_Purged [] [.t 40, .t 41]), oP 43 (.un .not (.t 42)), oM 44 43, oQ 45 (.mv (.t 10)) 44 true, oQ 46 (.mv (.t 12)) 44 true, oQ 47 (.iad 7 (.t 45) (.t 46)) 44 true, oQ 48 (.ld true 7 (.t 47)) 44 true, oQ 49 (.mv (.t 2)) 44 true, oQ 50 (.call N_ref03_Spent [] [.t 48, .t 49]) 44 true, oQ 51 (.un .not (.t 50)) 44 true, oP 52 (.pick (.t 44) (.t 51) (.c (.d (.bool false))))] [34, 37, 38, 39, 40, 41, 42, 43, 44, 45, 46, 47, 48, 49, 50, 51])
 (.cond (.t 52) (.ops [] [oM 53 8, oP 54 (.bin .add (.t 53) (kI 1)), oM 8 54] [52, 53, 54]) .skip)))
 (.ops [] [oM 35 12, oP 36 (.bin .add (.t 35) (kI 1)), oM 12 36] [35, 36, 52])))
def l_ref07_Counts_1 : ACode :=
 (.seq (.seq (.ops [] [oM 55 13, oM 56 11, oP 57 (.len (.t 56)), oP 58 (.bin .lss (.t 55) (.t 57))] [55, 56, 57])
 (.cond (.t 58) .skip (.exit 2 [8, 9])))
 (.seq (.block 3 (.seq (.ops [] [oM 61 11, oM 62 13, oP 63 (.iad 7 (.t 61) (.t 62)), oP 64 (.ld true 7 (.t 63)), oM 65 1, oP 66 (.call N_ref03_Purged [] [.t 64, .t 65]), oP 67 (.un .not (.t 66))] [58, 61, 62, 63, 64, 65, 66])
 (.cond (.t 67) (.ops [] [oM 68 9, oP 69 (.bin .add (.t 68) (kI 1)), oM 9 69] [67, 68, 69]) .skip)))
 (.ops [] [oM 59 13, oP 60 (.bin .add (.t 59) (kI 1)), oM 13 60] [59, 60, 67])))
def c_ref07_Counts : ACode :=
 (.seq (.ops [] [oP 3 (.box (.t 0)), oP 6 (.mv (kI 0)), oP 7 (.mv (kI 0))] [0, 6, 7])
 (.seq (.seq (.ops [] [oP 14 (.ld true 8 (.t 3)), oP 15 (.call N_ref07_Live [] [.t 14]), oP 16 (.bin .neq (.t 15) (kI 0)), oM 17 16, oQ 18 (.mv (.t 1)) 17 false, oQ 19 (.call N_ref07_epochs [] [.t 18]) 17 false, oQ 20 (.un .not (.t 19)) 17 false, oP 21 (.pick (.t 17) (.c (.d (.bool true))) (.t 20)), oM 22 21, oQ 23 (.mv (.t 2)) 22 false, oQ 24 (.call N_ref07_limits [] [.t 23]) 22 false, oQ 25 (.un .not (.t 24)) 22 false, oP 26 (.pick (.t 22) (.c (.d (.bool true))) (.t 25))] [14, 15, 16, 17, 18, 19, 20, 21, 22, 23, 24, 25])
 (.cond (.t 26) (.seq (.ops [] [oP 6 (.mv (kI 0)), oP 7 (.mv (kI 0))] [1, 2, 3, 26])
 (.ret [6, 7])) .skip))
 (.seq (.ops [] [oP 8 (.mv (kI 0)), oP 9 (.mv (kI 0))] [26])
 (.seq (.draw [] [oP 27 (.ld true 8 (.t 3)), oP 28 (.call N_ref07_Ready [false, true] [.t 27]), oP 29 (.ld true 8 (.t 3)), oP 30 (.call N_ref07_Leased [false, true] [.t 29]), oM 10 28, oM 11 30] [[], [], [0, 1], [], [], []] [3, 27, 28, 29, 30])
 (.seq (.seq (.ops [] [oP 12 (.mv (kI 0))] [])
 (.block 0 (.loop [] l_ref07_Counts_0)))
 (.seq (.seq (.ops [] [oP 13 (.mv (kI 0))] [2, 10, 12, 34])
 (.block 2 (.loop [] l_ref07_Counts_1)))
 (.seq (.ops [] [oM 70 8, oM 71 9, oM 6 70, oM 7 71] [1, 8, 9, 11, 13, 58, 70, 71])
 (.ret [6, 7]))))))))
def r_ref07_Counts : List ARes := [.t 6, .t 7]
def fn_ref07_Counts : AFn := .code c_ref07_Counts r_ref07_Counts 72 true
def c_ref07_Live : ACode :=
 (.seq (.ops [] [oP 1 (.box (.t 0)), oP 2 (.mv (kI 0))] [0, 2])
 (.seq (.seq (.ops [] [oP 4 (.ld true 8 (.t 1)), oP 5 (.call N_ref07_Validate [] [.t 4]), oM 3 5] [4, 5])
 (.seq (.ops [] [oM 6 3, oP 7 (.bin .neq (.t 6) (kI 0))] [6])
 (.cond (.t 7) (.seq (.ops [] [oM 8 3, oM 2 8] [1, 3, 7, 8])
 (.ret [2])) .skip)))
 (.seq (.seq (.ops [] [oP 9 (.fad false 0 1 (.t 1)), oP 10 (.ld false 1 (.t 9)), oP 11 (.un .not (.t 10))] [1, 3, 7, 9, 10])
 (.cond (.t 11) (.seq (.ops [] [oP 2 (.mv (kI 7))] [11])
 (.ret [2])) .skip))
 (.seq (.ops [] [oP 2 (.mv (kI 0))] [11])
 (.ret [2])))))
def r_ref07_Live : List ARes := [.t 2]
def fn_ref07_Live : AFn := .code c_ref07_Live r_ref07_Live 12 true
def c_ref07_epochs : ACode :=
 (.seq (.ops [] [oP 2 (.mv (.c (.d (.bool false))))] [2])
 (.seq (.ops [] [oM 3 0, oP 4 (.bin .geq (.t 3) (kI 0)), oM 5 4, oQ 6 (.mv (.t 0)) 5 true, oQ 7 (.bin .leq (.t 6) (kI 65536)) 5 true, oP 8 (.pick (.t 5) (.t 7) (.c (.d (.bool false)))), oM 2 8] [0, 3, 4, 5, 6, 7, 8])
 (.ret [2])))
def r_ref07_epochs : List ARes := [.t 2]
def fn_ref07_epochs : AFn := .code c_ref07_epochs r_ref07_epochs 9 true
def c_ref07_limits : ACode :=
 (.seq (.ops [] [oP 2 (.mv (.c (.d (.bool false))))] [2])
 (.seq (.ops [] [oM 3 0, oP 4 (.bin .geq (.t 3) (kI 1)), oM 5 4, oQ 6 (.mv (.t 0)) 5 true, oQ 7 (.bin .leq (.t 6) (kI 8)) 5 true, oP 8 (.pick (.t 5) (.t 7) (.c (.d (.bool false)))), oM 2 8] [0, 3, 4, 5, 6, 7, 8])
 (.ret [2])))
def r_ref07_limits : List ARes := [.t 2]
def fn_ref07_limits : AFn := .code c_ref07_limits r_ref07_limits 9 true
def c_ref03_Purged : ACode :=
 (.seq (.ops [] [oP 2 (.box (.t 0)), oP 4 (.mv (.c (.d (.bool false))))] [0, 4])
 (.seq (.ops [] [oP 5 (.fad false 2 1 (.t 2)), oP 6 (.ld false 1 (.t 5)), oM 7 1, oP 8 (.bin .lss (.t 6) (.t 7)), oM 4 8] [1, 2, 5, 6, 7, 8])
 (.ret [4])))
def r_ref03_Purged : List ARes := [.t 4]
def fn_ref03_Purged : AFn := .code c_ref03_Purged r_ref03_Purged 9 true
def c_ref03_Spent : ACode :=
 (.seq (.ops [] [oP 2 (.box (.t 0)), oP 4 (.mv (.c (.d (.bool false))))] [0, 4])
 (.seq (.ops [] [oP 5 (.fad false 3 1 (.t 2)), oP 6 (.ld false 1 (.t 5)), oM 7 1, oP 8 (.bin .geq (.t 6) (.t 7)), oM 4 8] [1, 2, 5, 6, 7, 8])
 (.ret [4])))
def r_ref03_Spent : List ARes := [.t 4]
def fn_ref03_Spent : AFn := .code c_ref03_Spent r_ref03_Spent 9 true
def c_ref18_decide : ACode :=
 (.seq (.ops [] [oP 1 (.box (.t 0)), oP 2 (.alloc (.agg [aI 0, aI 0, aI 0, aI 0, aI 0, aI 0, aI 0, .xsl [], .xsl [], aI 0, .d (.bool false), aI 0, aI 0, aI 0, .xsl [], aI 0, aI 0, aI 0, aI 0, aI 0, aI 0, aI 0, aI 0, aI 0, aI 0, .xsl [], aI 0, aI 0, aI 0, aI 0, aI 0, aI 0, aI 0, aI 0, .xsl [], aI 0, .xsl [], .xsl [], aI 0, .xsl [], .xsl [], .xsl [], aI 0, .xsl [], .xsl [], .xsl [], .xsl [], aI 0, .xsl [], aI 0, .xsl [], .xsl [], aI 0, aI 0, aI 0, aI 0, aI 0, aI 0, aI 0, aI 0, aI 0, .xsl [], .xsl []])), oP 3 (.mv (.c (.xsl [])))] [0, 3])
 (.seq (.ops [] [oP 11 (.fad true 23 26 (.t 1)), oP 12 (.fad false 11 1 (.t 11)), oP 13 (.ld false 1 (.t 12)), oP 14 (.iad 8 (.t 13) (kI 0)), oP 15 (.ld true 8 (.t 14)), oP 4 (.alloc (.agg [.d (.bool false), aI 0, aI 0, .xsl [], aI 0, aI 0, .xsl [], .xsl []])), oN (.st 8 (.t 4) (.t 15))] [11, 12, 13, 14, 15])
 (.seq (.ops [] [oP 16 (.fad false 60 1 (.t 1)), oN (.st 1 (.t 16) (kI 0))] [16])
 (.seq (.ops [] [oP 17 (.fad true 23 26 (.t 1)), oP 18 (.ld true 26 (.t 17)), oP 19 (.call N_ref15_Unchanged [false, true] [.t 18]), oP 5 (.alloc (.agg [.xsl [], aI 0, .xsl [], .xsl [], .xsl [], .xsl []])), oN (.st 6 (.t 5) (.t 19))] [17, 18, 19])
 (.seq (.seq (.ops [] [oP 20 (.ld true 8 (.t 4)), oP 21 (.fad true 52 2 (.t 1)), oP 22 (.fad false 0 1 (.t 21)), oP 23 (.ld false 1 (.t 22)), oP 24 (.call N_ref07_Owns [] [.t 20, .t 23]), oP 25 (.un .not (.t 24))] [20, 21, 22, 23, 24])
 (.cond (.t 25) (.seq (.ops [] [oP 26 (.ld true 63 (.t 1)), oP 27 (.ld true 6 (.t 5)), oP 28 (.call N_ref18_Decide [false, false, true] [.t 26, .t 27]), oN (.st 63 (.t 2) (.t 28)), oP 3 (.mv (.c (.xsl [])))] [1, 4, 5, 25, 26, 27, 28])
 (.ret [2, 3])) .skip))
 (.seq (.ops [] [oP 29 (.ld true 63 (.t 1)), oP 30 (.call N_ref18_Snapped [false, false, true] [.t 29, kI 2]), oP 6 (.alloc (.agg [aI 0, aI 0, aI 0, aI 0, aI 0, aI 0, aI 0, .xsl [], aI 0, aI 0])), oN (.st 10 (.t 6) (.t 30))] [25, 29, 30])
 (.seq (.seq (.draw [] [oP 31 (.ld true 8 (.t 4)), oP 32 (.call N_ref07_Stored [] [.t 31]), oP 33 (.fad true 3 3 (.t 4)), oP 34 (.fad false 0 1 (.t 33)), oP 35 (.ld false 1 (.t 34)), oP 36 (.len (.t 35)), oP 37 (.bin .eql (.t 32) (.t 36))] [[], [], [0, 1], [0, 1], [0, 1], [0, 1], []] [31, 32, 33, 34, 35, 36])
 (.cond (.t 37) (.seq (.ops [] [oP 39 (.fad true 52 2 (.t 1)), oP 40 (.ld true 2 (.t 39)), oP 41 (.fad false 1 1 (.t 4)), oP 42 (.ld false 1 (.t 41)), oP 43 (.fad false 2 1 (.t 4)), oP 44 (.ld false 1 (.t 43)), oP 45 (.call N_ref16_Advance [] [.t 40, .t 42, .t 44]), oM 38 45, oP 46 (.ext (.t 38) 0), oP 47 (.ext (.t 38) 1), oP 48 (.fad true 52 2 (.t 1)), oN (.st 2 (.t 48) (.t 46))] [4, 37, 38, 39, 40, 41, 42, 43, 44, 45, 46, 47, 48])
 (.seq (.seq (.ops [] [oP 49 (.fad true 52 2 (.t 1)), oP 50 (.ld true 2 (.t 49)), oP 51 (.call N_ref16_Over [] [.t 50]), oP 52 (.un .not (.t 51))] [49, 50, 51])
 (.cond (.t 52) (.seq (.ops [] [oP 53 (.ld true 63 (.t 1)), oP 54 (.ld true 6 (.t 5)), oP 55 (.call N_ref18_Decide [false, false, true] [.t 53, .t 54]), oN (.st 63 (.t 2) (.t 55)), oP 3 (.mv (.c (.xsl [])))] [1, 5, 6, 52, 53, 54, 55])
 (.ret [2, 3])) .skip))
 (.seq (.ops [] [oP 56 (.fad false 60 1 (.t 1)), oN (.st 1 (.t 56) (kI 2))] [52, 56])
 (.seq (.ops [] [oP 57 (.fad false 6 1 (.t 6)), oN (.st 1 (.t 57) (kI 3))] [57])
 (.seq (.ops [] [oP 58 (.fad false 55 1 (.t 1)), oP 59 (.ld false 1 (.t 58)), oP 60 (.build [aI 0, aI 0, aI 0, aI 0] [(0, (1, .t 59))]), oP 61 (.bsl 1 4 (.d (.agg [.int .i64 0, .int .i64 0, .int .i64 0, .int .i64 0])) [(0, .t 60)]), oP 62 (.fad false 7 1 (.t 6)), oN (.st 1 (.t 62) (.t 61))] [58, 59, 60, 61, 62])
 (.seq (.draw [] [oP 63 (.ld true 63 (.t 1)), oP 64 (.ld true 6 (.t 5)), oP 65 (.call N_ref18_Decide [false, false, true] [.t 63, .t 64]), oP 66 (.ld true 10 (.t 6)), oP 67 (.bsl 1 10 (.agg [aI 0, aI 0, aI 0, aI 0, aI 0, aI 0, aI 0, .xsl [], aI 0, aI 0]) [(0, .t 66)]), oN (.st 63 (.t 2) (.t 65)), oM 3 67] [[], [0], [], [0, 1, 2], [0, 1, 2], [3, 4], []] [1, 5, 6, 63, 64, 65, 66, 67])
 (.ret [2, 3]))))))) .skip))
 (.seq (.draw [] [oP 69 (.fad false 55 1 (.t 1)), oP 70 (.ld false 1 (.t 69)), oP 71 (.fad false 55 1 (.t 1)), oP 72 (.ld false 1 (.t 71)), oP 73 (.call N_ref02_Route [] [.t 72]), oP 74 (.fad false 1 1 (.t 4)), oP 75 (.ld false 1 (.t 74)), oP 76 (.fad false 2 1 (.t 4)), oP 77 (.ld false 1 (.t 76)), oP 78 (.call N_ref02_Into [] [.t 73, .t 75, .t 77]), oP 79 (.fad true 23 26 (.t 1)), oP 80 (.fad true 7 4 (.t 79)), oP 81 (.fad false 1 1 (.t 80)), oP 82 (.ld false 1 (.t 81)), oP 83 (.fad true 23 26 (.t 1)), oP 84 (.fad true 7 4 (.t 83)), oP 85 (.fad false 2 1 (.t 84)), oP 86 (.ld false 1 (.t 85)), oP 87 (.fad true 1 8 (.t 1)), oP 88 (.fad false 6 1 (.t 87)), oP 89 (.ld false 1 (.t 88)), oP 90 (.fad false 13 1 (.t 1)), oP 91 (.ld false 1 (.t 90)), oP 92 (.iad 1 (.t 89) (.t 91)), oP 93 (.ld false 1 (.t 92)), oP 94 (.call N_ref03_New [] [.t 70, .t 78, .t 82, .t 86, .t 93]), oM 68 94, oP 95 (.ext (.t 68) 0), oP 96 (.ext (.t 68) 1), oP 7 (.alloc (.d (.agg [.int .i64 0, .int .i64 0, .int .i64 0, .int .i64 0, .int .i64 0, .int .i64 0, .str []]))), oN (.st 7 (.t 7) (.t 95)), oM 8 96] [[], [], [0, 1], [0, 1], [0, 1], [0, 1, 2, 3, 4], [0, 1, 2, 3, 4], [0, 1, 2, 3, 4, 5, 6], [0, 1, 2, 3, 4, 5, 6], [0, 1], [0, 1, 2, 3, 4, 5, 6, 7, 8, 9], [0, 1, 2, 3, 4, 5, 6, 7, 8, 9], [0, 1, 2, 3, 4, 5, 6, 7, 8, 9], [0, 1, 2, 3, 4, 5, 6, 7, 8, 9], [0, 1, 2, 3, 4, 5, 6, 7, 8, 9, 10, 11, 12, 13], [0, 1, 2, 3, 4, 5, 6, 7, 8, 9, 10, 11, 12, 13], [0, 1, 2, 3, 4, 5, 6, 7, 8, 9, 10, 11, 12, 13], [0, 1, 2, 3, 4, 5, 6, 7, 8, 9, 10, 11, 12, 13], [0, 1, 2, 3, 4, 5, 6, 7, 8, 9, 10, 11, 12, 13, 14, 15, 16, 17], [0, 1, 2, 3, 4, 5, 6, 7, 8, 9, 10, 11, 12, 13, 14, 15, 16, 17], [0, 1, 2, 3, 4, 5, 6, 7, 8, 9, 10, 11, 12, 13, 14, 15, 16, 17], [0, 1, 2, 3, 4, 5, 6, 7, 8, 9, 10, 11, 12, 13, 14, 15, 16, 17, 18, 19, 20], [0, 1, 2, 3, 4, 5, 6, 7, 8, 9, 10, 11, 12, 13, 14, 15, 16, 17, 18, 19, 20], [0, 1, 2, 3, 4, 5, 6, 7, 8, 9, 10, 11, 12, 13, 14, 15, 16, 17], [0, 1, 2, 3, 4, 5, 6, 7, 8, 9, 10, 11, 12, 13, 14, 15, 16, 17], [], [], [], [27], [0, 1, 2, 3, 4, 5, 6, 7, 8, 9, 10, 11, 12, 13, 14, 15, 16, 17, 18, 19, 20, 21, 22, 23, 24, 25, 26, 27, 28], [28], []] [8, 37, 68, 69, 70, 71, 72, 73, 74, 75, 76, 77, 78, 79, 80, 81, 82, 83, 84, 85, 86, 87, 88, 89, 90, 91, 92, 93, 94, 95, 96])
 (.seq (.ops [] [oP 98 (.ld true 8 (.t 4)), oP 99 (.ld true 7 (.t 7)), oP 100 (.call N_ref07_Put [false, false, true] [.t 98, .t 99]), oM 97 100, oP 101 (.ext (.t 97) 0), oP 102 (.ext (.t 97) 1), oP 9 (.alloc (.agg [.d (.bool false), aI 0, aI 0, .xsl [], aI 0, aI 0, .xsl [], .xsl []])), oN (.st 8 (.t 9) (.t 101)), oM 10 102] [4, 10, 97, 98, 99, 100, 101, 102])
 (.seq (.ops [] [oP 103 (.ld true 8 (.t 9)), oP 104 (.bsl 1 8 (.agg [.d (.bool false), aI 0, aI 0, .xsl [], aI 0, aI 0, .xsl [], .xsl []]) [(0, .t 103)]), oP 105 (.fad false 0 1 (.t 5)), oN (.st 1 (.t 105) (.t 104))] [9, 103, 104, 105])
 (.seq (.ops [] [oP 106 (.bsl 1 1 (aI 0) [(0, kI 0)]), oP 107 (.fad false 3 1 (.t 5)), oN (.st 1 (.t 107) (.t 106))] [106, 107])
 (.seq (.ops [] [oP 108 (.fad false 60 1 (.t 1)), oN (.st 1 (.t 108) (kI 1))] [108])
 (.seq (.ops [] [oP 109 (.fad false 55 1 (.t 1)), oP 110 (.ld false 1 (.t 109)), oP 111 (.fad false 1 1 (.t 7)), oP 112 (.ld false 1 (.t 111)), oP 113 (.build [aI 0, aI 0, aI 0, aI 0] [(0, (1, .t 110)), (2, (1, .t 112))]), oP 114 (.bsl 1 4 (.d (.agg [.int .i64 0, .int .i64 0, .int .i64 0, .int .i64 0])) [(0, .t 113)]), oP 115 (.fad false 7 1 (.t 6)), oN (.st 1 (.t 115) (.t 114))] [7, 109, 110, 111, 112, 113, 114, 115])
 (.seq (.draw [] [oP 116 (.ld true 63 (.t 1)), oP 117 (.ld true 6 (.t 5)), oP 118 (.call N_ref18_Decide [false, false, true] [.t 116, .t 117]), oP 119 (.ld true 10 (.t 6)), oP 120 (.bsl 1 10 (.agg [aI 0, aI 0, aI 0, aI 0, aI 0, aI 0, aI 0, .xsl [], aI 0, aI 0]) [(0, .t 119)]), oN (.st 63 (.t 2) (.t 118)), oM 3 120] [[], [0], [], [0, 1, 2], [0, 1, 2], [3, 4], []] [1, 5, 6, 116, 117, 118, 119, 120])
 (.ret [2, 3])))))))))))))))
def r_ref18_decide : List ARes := [.c 2 true 63, .t 3]
def fn_ref18_decide : AFn := .code c_ref18_decide r_ref18_decide 121 true
def c_ref15_Unchanged : ACode :=
 (.seq (.ops [] [oP 1 (.box (.t 0)), oP 2 (.alloc (.agg [.xsl [], aI 0, .xsl [], .xsl [], .xsl [], .xsl []]))] [0])
 (.seq (.ops [] [oP 3 (.fad false 11 1 (.t 1)), oP 4 (.ld false 1 (.t 3)), oP 5 (.fad true 12 2 (.t 1)), oP 6 (.ld true 2 (.t 5)), oP 7 (.build [.xsl [], aI 0, .xsl [], .xsl [], .xsl [], .xsl []] [(0, (1, .t 4)), (1, (2, .t 6))]), oN (.st 6 (.t 2) (.t 7))] [1, 3, 4, 5, 6, 7])
 (.ret [2])))
def r_ref15_Unchanged : List ARes := [.c 2 true 6]
def fn_ref15_Unchanged : AFn := .code c_ref15_Unchanged r_ref15_Unchanged 8 true
def c_ref07_Owns : ACode :=
 (.seq (.ops [] [oP 2 (.box (.t 0)), oP 4 (.mv (.c (.d (.bool false))))] [0, 4])
 (.seq (.ops [] [oP 5 (.ld true 8 (.t 2)), oP 6 (.call N_ref07_Live [] [.t 5]), oP 7 (.bin .eql (.t 6) (kI 0)), oM 8 7, oQ 9 (.mv (.t 1)) 8 true, oQ 10 (.fad false 1 1 (.t 2)) 8 true, oQ 11 (.ld false 1 (.t 10)) 8 true, oQ 12 (.bin .geq (.t 9) (.t 11)) 8 true, oP 13 (.pick (.t 8) (.t 12) (.c (.d (.bool false)))), oM 14 13, oQ 15 (.mv (.t 1)) 14 true, oQ 16 (.fad false 2 1 (.t 2)) 14 true, oQ 17 (.ld false 1 (.t 16)) 14 true, oQ 18 (.bin .leq (.t 15) (.t 17)) 14 true, oP 19 (.pick (.t 14) (.t 18) (.c (.d (.bool false)))), oM 4 19] [1, 2, 5, 6, 7, 8, 9, 10, 11, 12, 13, 14, 15, 16, 17, 18, 19])
 (.ret [4])))
def r_ref07_Owns : List ARes := [.t 4]
def fn_ref07_Owns : AFn := .code c_ref07_Owns r_ref07_Owns 20 true
def c_ref18_Decide : ACode :=
 (.seq (.ops [] [oP 2 (.box (.t 0)), oP 3 (.box (.t 1)), oP 4 (.alloc (.agg [aI 0, aI 0, aI 0, aI 0, aI 0, aI 0, aI 0, .xsl [], .xsl [], aI 0, .d (.bool false), aI 0, aI 0, aI 0, .xsl [], aI 0, aI 0, aI 0, aI 0, aI 0, aI 0, aI 0, aI 0, aI 0, aI 0, .xsl [], aI 0, aI 0, aI 0, aI 0, aI 0, aI 0, aI 0, aI 0, .xsl [], aI 0, .xsl [], .xsl [], aI 0, .xsl [], .xsl [], .xsl [], aI 0, .xsl [], .xsl [], .xsl [], .xsl [], aI 0, .xsl [], aI 0, .xsl [], .xsl [], aI 0, aI 0, aI 0, aI 0, aI 0, aI 0, aI 0, aI 0, aI 0, .xsl [], .xsl []]))] [0, 1])
 (.seq (.ops [] [oP 6 (.fad true 23 26 (.t 2)), oP 7 (.ld true 26 (.t 6)), oP 8 (.ld true 6 (.t 3)), oP 9 (.call N_ref15_Decide [false, false, true] [.t 7, .t 8]), oM 5 9, oP 10 (.ext (.t 5) 0), oP 11 (.ext (.t 5) 1), oP 12 (.fad true 23 26 (.t 2)), oN (.st 26 (.t 12) (.t 10))] [3, 5, 6, 7, 8, 9, 10, 11, 12])
 (.seq (.ops [] [oP 13 (.ld true 63 (.t 2)), oN (.st 63 (.t 4) (.t 13))] [2, 13])
 (.ret [4]))))
def r_ref18_Decide : List ARes := [.c 4 true 63]
def fn_ref18_Decide : AFn := .code c_ref18_Decide r_ref18_Decide 14 true
def l_ref15_Decide_0 : ACode :=
 (.seq (.seq (.ops [] [oM 54 7, oM 55 6, oP 56 (.bin .lss (.t 54) (.t 55))] [54, 55])
 (.cond (.t 56) .skip (.exit 2 [2, 3, 4, 6])))
 (.seq (.block 3 (.seq (.draw [] [oP 59 (.fad false 3 1 (.t 3)), oP 60 (.ld false 1 (.t 59)), oM 61 7, oP 62 (.iad 1 (.t 60) (.t 61)), oP 63 (.ld false 1 (.t 62)), oP 64 (.fad false 3 1 (.t 3)), oP 65 (.ld false 1 (.t 64)), oM 66 6, oP 67 (.iad 1 (.t 65) (.t 66)), oP 68 (.ld false 1 (.t 67)), oP 69 (.bin .eql (.t 63) (.t 68))] [[], [], [0, 1], [], [], [0, 1, 2, 3, 4], [0, 1, 2, 3, 4], [0, 1, 2, 3, 4, 5, 6], [0, 1, 2, 3, 4], [0, 1, 2, 3, 4], []] [56, 59, 60, 61, 62, 63, 64, 65, 66, 67, 68])
 (.cond (.t 69) (.seq (.ops [] [oP 70 (.build [aI 0, aI 0, .xsl [], aI 0, aI 0, aI 0, aI 0, aI 0, aI 0, aI 0, aI 0, .xsl [], aI 0, .xsl [], .xsl [], aI 0, .xsl [], .xsl [], .xsl [], aI 0, .xsl [], .xsl [], .xsl [], .xsl [], aI 0, .xsl []] []), oN (.st 26 (.t 4) (.t 70)), oP 5 (.mv (kI 1))] [2, 3, 6, 7, 69, 70])
 (.ret [4, 5])) .skip)))
 (.ops [] [oM 57 7, oP 58 (.bin .add (.t 57) (kI 1)), oM 7 58] [57, 58, 69])))
def l_ref15_Decide_1 : ACode :=
 (.seq (.seq (.ops [] [oM 28 6, oP 29 (.fad false 3 1 (.t 3)), oP 30 (.ld false 1 (.t 29)), oP 31 (.len (.t 30)), oP 32 (.bin .lss (.t 28) (.t 31))] [28, 29, 30, 31])
 (.cond (.t 32) .skip (.exit 0 [2, 3, 4])))
 (.seq (.block 1 (.seq (.seq (.draw [] [oP 35 (.fad false 3 1 (.t 3)), oP 36 (.ld false 1 (.t 35)), oM 37 6, oP 38 (.iad 1 (.t 36) (.t 37)), oP 39 (.ld false 1 (.t 38)), oP 40 (.bin .lss (.t 39) (kI 0)), oM 41 40, oQ 42 (.fad false 3 1 (.t 3)) 41 false, oQ 43 (.ld false 1 (.t 42)) 41 false, oQ 44 (.mv (.t 6)) 41 false, oQ 45 (.iad 1 (.t 43) (.t 44)) 41 false, oQ 46 (.ld false 1 (.t 45)) 41 false, oQ 47 (.fad true 2 5 (.t 2)) 41 false, oQ 48 (.fad false 0 1 (.t 47)) 41 false, oQ 49 (.ld false 1 (.t 48)) 41 false, oQ 50 (.len (.t 49)) 41 false, oQ 51 (.bin .geq (.t 46) (.t 50)) 41 false, oP 52 (.pick (.t 41) (.c (.d (.bool true))) (.t 51))] [[], [], [0, 1], [], [], [], [], [], [], [7, 8], [], [], [7, 8, 9, 10, 11], [7, 8, 9, 10, 11], [7, 8, 9, 10, 11], [7, 8, 9, 10, 11], [], []] [32, 35, 36, 37, 38, 39, 40, 41, 42, 43, 44, 45, 46, 47, 48, 49, 50, 51])
 (.cond (.t 52) (.seq (.ops [] [oP 53 (.build [aI 0, aI 0, .xsl [], aI 0, aI 0, aI 0, aI 0, aI 0, aI 0, aI 0, aI 0, .xsl [], aI 0, .xsl [], .xsl [], aI 0, .xsl [], .xsl [], .xsl [], aI 0, .xsl [], .xsl [], .xsl [], .xsl [], aI 0, .xsl []] []), oN (.st 26 (.t 4) (.t 53)), oP 5 (.mv (kI 1))] [2, 3, 6, 52, 53])
 (.ret [4, 5])) .skip))
 (.seq (.ops [] [oP 7 (.mv (kI 0))] [52])
 (.block 2 (.loop [] l_ref15_Decide_0)))))
 (.ops [] [oM 33 6, oP 34 (.bin .add (.t 33) (kI 1)), oM 6 34] [7, 33, 34, 56])))
def c_ref15_Decide : ACode :=
 (.seq (.ops [] [oP 2 (.box (.t 0)), oP 3 (.box (.t 1)), oP 4 (.alloc (.agg [aI 0, aI 0, .xsl [], aI 0, aI 0, aI 0, aI 0, aI 0, aI 0, aI 0, aI 0, .xsl [], aI 0, .xsl [], .xsl [], aI 0, .xsl [], .xsl [], .xsl [], aI 0, .xsl [], .xsl [], .xsl [], .xsl [], aI 0, .xsl []])), oP 5 (.mv (kI 0))] [0, 1, 5])
 (.seq (.seq (.ops [] [oP 10 (.fad false 0 1 (.t 2)), oP 11 (.ld false 1 (.t 10)), oP 12 (.bin .neq (.t 11) (kI 4))] [10, 11])
 (.cond (.t 12) (.seq (.ops [] [oP 13 (.build [aI 0, aI 0, .xsl [], aI 0, aI 0, aI 0, aI 0, aI 0, aI 0, aI 0, aI 0, .xsl [], aI 0, .xsl [], .xsl [], aI 0, .xsl [], .xsl [], .xsl [], aI 0, .xsl [], .xsl [], .xsl [], .xsl [], aI 0, .xsl []] []), oN (.st 26 (.t 4) (.t 13)), oP 5 (.mv (kI 7))] [2, 3, 12, 13])
 (.ret [4, 5])) .skip))
 (.seq (.seq (.ops [] [oP 14 (.fad false 0 1 (.t 3)), oP 15 (.ld false 1 (.t 14)), oP 16 (.len (.t 15)), oP 17 (.fad false 11 1 (.t 2)), oP 18 (.ld false 1 (.t 17)), oP 19 (.len (.t 18)), oP 20 (.bin .neq (.t 16) (.t 19)), oM 21 20, oQ 22 (.fad false 5 1 (.t 3)) 21 false, oQ 23 (.ld false 1 (.t 22)) 21 false, oQ 24 (.len (.t 23)) 21 false, oQ 25 (.bin .gtr (.t 24) (kI 1)) 21 false, oP 26 (.pick (.t 21) (.c (.d (.bool true))) (.t 25))] [12, 14, 15, 16, 17, 18, 19, 20, 21, 22, 23, 24, 25])
 (.cond (.t 26) (.seq (.ops [] [oP 27 (.build [aI 0, aI 0, .xsl [], aI 0, aI 0, aI 0, aI 0, aI 0, aI 0, aI 0, aI 0, .xsl [], aI 0, .xsl [], .xsl [], aI 0, .xsl [], .xsl [], .xsl [], aI 0, .xsl [], .xsl [], .xsl [], .xsl [], aI 0, .xsl []] []), oN (.st 26 (.t 4) (.t 27)), oP 5 (.mv (kI 1))] [2, 3, 26, 27])
 (.ret [4, 5])) .skip))
 (.seq (.seq (.ops [] [oP 6 (.mv (kI 0))] [26])
 (.block 0 (.loop [] l_ref15_Decide_1)))
 (.seq (.ops [] [oP 71 (.ld true 6 (.t 3)), oP 72 (.fad true 18 6 (.t 2)), oN (.st 6 (.t 72) (.t 71))] [6, 32, 71, 72])
 (.seq (.block 4 (.seq (.ops [] [oP 74 (.fad false 3 1 (.t 3)), oP 75 (.ld false 1 (.t 74)), oP 76 (.len (.t 75)), oP 77 (.bin .gtr (.t 76) (kI 0)), oM 73 77] [74, 75, 76, 77])
 (.cond (.t 73) (.seq (.ops [] [oP 78 (.ld true 26 (.t 2)), oP 79 (.call N_ref15_enter [false, false, true] [.t 78, kI 5]), oN (.st 26 (.t 4) (.t 79)), oP 5 (.mv (kI 0))] [2, 3, 73, 78, 79])
 (.ret [4, 5])) (.seq (.ops [] [oP 81 (.fad false 5 1 (.t 3)), oP 82 (.ld false 1 (.t 81)), oP 83 (.len (.t 82)), oP 84 (.bin .gtr (.t 83) (kI 0)), oM 80 84] [3, 73, 81, 82, 83, 84])
 (.cond (.t 80) (.seq (.ops [] [oP 85 (.ld true 26 (.t 2)), oP 86 (.call N_ref15_enter [false, false, true] [.t 85, kI 6]), oN (.st 26 (.t 4) (.t 86)), oP 5 (.mv (kI 0))] [2, 80, 85, 86])
 (.ret [4, 5])) .skip)))))
 (.seq (.ops [] [oP 88 (.build [.xsl [], .xsl [], aI 0, aI 0, .xsl [], aI 0, .xsl [], .xsl [], aI 0, aI 0, aI 0] []), oP 89 (.ld true 26 (.t 2)), oP 90 (.call N_ref15_unmarking [false, false, true] [.t 88, .t 89]), oM 87 90, oP 91 (.ext (.t 87) 0), oP 92 (.ext (.t 87) 1), oP 93 (.ext (.t 87) 2), oP 8 (.alloc (.agg [.xsl [], .xsl [], aI 0, aI 0, .xsl [], aI 0, .xsl [], .xsl [], aI 0, aI 0, aI 0])), oN (.st 11 (.t 8) (.t 91)), oN (.st 26 (.t 2) (.t 92)), oM 9 93] [8, 80, 87, 88, 89, 90, 91, 92, 93])
 (.seq (.ops [] [oP 94 (.ld true 26 (.t 2)), oM 95 9, oN (.st 26 (.t 4) (.t 94)), oM 5 95] [2, 9, 94, 95])
 (.ret [4, 5])))))))))
def r_ref15_Decide : List ARes := [.c 4 true 26, .t 5]
def fn_ref15_Decide : AFn := .code c_ref15_Decide r_ref15_Decide 96 true
def c_ref18_Snapped : ACode :=
 (.seq (.ops [] [oP 2 (.box (.t 0)), oP 4 (.alloc (.agg [aI 0, aI 0, aI 0, aI 0, aI 0, aI 0, aI 0, .xsl [], aI 0, aI 0]))] [0])
 (.seq (.ops [] [oP 6 (.fad true 23 26 (.t 2)), oP 7 (.fad true 7 4 (.t 6)), oP 8 (.ld true 4 (.t 7)), oP 5 (.alloc (.d (.agg [.int .i64 0, .int .i64 0, .int .i64 0, .int .i64 0]))), oN (.st 4 (.t 5) (.t 8))] [6, 7, 8])
 (.seq (.ops [] [oP 9 (.fad false 3 1 (.t 5)), oP 10 (.ld false 1 (.t 9)), oP 11 (.fad false 0 1 (.t 2)), oP 12 (.ld false 1 (.t 11)), oP 13 (.fad false 13 1 (.t 2)), oP 14 (.ld false 1 (.t 13)), oM 15 1, oP 16 (.fad false 2 1 (.t 5)), oP 17 (.ld false 1 (.t 16)), oP 18 (.fad false 1 1 (.t 5)), oP 19 (.ld false 1 (.t 18)), oP 20 (.build [aI 0, aI 0, aI 0, aI 0, aI 0, aI 0, aI 0, .xsl [], aI 0, aI 0] [(0, (1, .t 10)), (1, (1, .t 12)), (2, (1, .t 14)), (3, (1, .t 15)), (4, (1, .t 17)), (5, (1, .t 19))]), oN (.st 10 (.t 4) (.t 20))] [1, 2, 5, 9, 10, 11, 12, 13, 14, 15, 16, 17, 18, 19, 20])
 (.ret [4]))))
def r_ref18_Snapped : List ARes := [.c 4 true 10]
def fn_ref18_Snapped : AFn := .code c_ref18_Snapped r_ref18_Snapped 21 true
def c_ref07_Stored : ACode :=
 (.seq (.ops [] [oP 1 (.box (.t 0)), oP 2 (.mv (kI 0))] [0, 2])
 (.seq (.seq (.ops [] [oP 3 (.ld true 8 (.t 1)), oP 4 (.call N_ref07_Live [] [.t 3]), oP 5 (.bin .neq (.t 4) (kI 0))] [3, 4])
 (.cond (.t 5) (.seq (.ops [] [oP 2 (.mv (kI 0))] [1, 5])
 (.ret [2])) .skip))
 (.seq (.ops [] [oP 6 (.fad true 3 3 (.t 1)), oP 7 (.fad false 2 1 (.t 6)), oP 8 (.ld false 1 (.t 7)), oP 9 (.fad true 6 2 (.t 1)), oP 10 (.fad false 0 1 (.t 9)), oP 11 (.ld false 1 (.t 10)), oP 12 (.len (.t 11)), oP 13 (.bin .add (.t 8) (.t 12)), oM 2 13] [1, 5, 6, 7, 8, 9, 10, 11, 12, 13])
 (.ret [2]))))
def r_ref07_Stored : List ARes := [.t 2]
def fn_ref07_Stored : AFn := .code c_ref07_Stored r_ref07_Stored 14 true
def c_ref16_Advance : ACode :=
 (.seq (.ops [] [oP 3 (.box (.t 0)), oP 6 (.alloc (.d (.agg [.int .i64 0, .int .i64 0]))), oP 7 (.mv (kI 0))] [0, 7])
 (.seq (.seq (.ops [] [oM 8 1, oP 9 (.bin .lss (.t 8) (kI 0)), oM 10 9, oQ 11 (.mv (.t 1)) 10 false, oQ 12 (.fad false 0 1 (.t 3)) 10 false, oQ 13 (.ld false 1 (.t 12)) 10 false, oQ 14 (.bin .gtr (.t 11) (.t 13)) 10 false, oP 15 (.pick (.t 10) (.c (.d (.bool true))) (.t 14)), oM 16 15, oQ 17 (.fad false 0 1 (.t 3)) 16 false, oQ 18 (.ld false 1 (.t 17)) 16 false, oQ 19 (.mv (.t 2)) 16 false, oQ 20 (.bin .gtr (.t 18) (.t 19)) 16 false, oP 21 (.pick (.t 16) (.c (.d (.bool true))) (.t 20)), oM 22 21, oQ 23 (.mv (.t 2)) 22 false, oQ 24 (.bin .geq (.t 23) (kI 65536)) 22 false, oP 25 (.pick (.t 22) (.c (.d (.bool true))) (.t 24)), oM 26 25, oQ 27 (.fad false 1 1 (.t 3)) 26 false, oQ 28 (.ld false 1 (.t 27)) 26 false, oQ 29 (.bin .lss (.t 28) (kI 0)) 26 false, oP 30 (.pick (.t 26) (.c (.d (.bool true))) (.t 29)), oM 31 30, oQ 32 (.fad false 1 1 (.t 3)) 31 false, oQ 33 (.ld false 1 (.t 32)) 31 false, oQ 34 (.bin .geq (.t 33) (kI 65536)) 31 false, oP 35 (.pick (.t 31) (.c (.d (.bool true))) (.t 34))] [1, 8, 9, 10, 11, 12, 13, 14, 15, 16, 17, 18, 19, 20, 21, 22, 23, 24, 25, 26, 27, 28, 29, 30, 31, 32, 33, 34])
 (.cond (.t 35) (.seq (.ops [] [oP 36 (.build [aI 0, aI 0] []), oN (.st 2 (.t 6) (.t 36)), oP 7 (.mv (kI 1))] [2, 3, 35, 36])
 (.ret [6, 7])) .skip))
 (.seq (.ops [] [oM 37 2, oP 38 (.bin .add (.t 37) (kI 1)), oP 39 (.bin .rem (.t 38) (kI 65536)), oP 40 (.fad false 1 1 (.t 3)), oP 41 (.ld false 1 (.t 40)), oM 42 2, oP 43 (.bin .add (.t 41) (.t 42)), oP 44 (.fad false 0 1 (.t 3)), oP 45 (.ld false 1 (.t 44)), oP 46 (.bin .sub (.t 43) (.t 45)), oP 47 (.bin .add (.t 46) (kI 1)), oP 48 (.build [aI 0, aI 0] [(0, (1, .t 39)), (1, (1, .t 47))]), oN (.st 2 (.t 6) (.t 48)), oP 7 (.mv (kI 0))] [2, 3, 35, 37, 38, 39, 40, 41, 42, 43, 44, 45, 46, 47, 48])
 (.ret [6, 7]))))
def r_ref16_Advance : List ARes := [.c 6 true 2, .t 7]
def fn_ref16_Advance : AFn := .code c_ref16_Advance r_ref16_Advance 49 true
def c_ref16_Over : ACode :=
 (.seq (.ops [] [oP 1 (.box (.t 0)), oP 2 (.mv (.c (.d (.bool false))))] [0, 2])
 (.seq (.ops [] [oP 3 (.fad false 1 1 (.t 1)), oP 4 (.ld false 1 (.t 3)), oP 5 (.bin .geq (.t 4) (kI 65536)), oM 2 5] [1, 3, 4, 5])
 (.ret [2])))
def r_ref16_Over : List ARes := [.t 2]
def fn_ref16_Over : AFn := .code c_ref16_Over r_ref16_Over 6 true
def c_ref02_Into : ACode :=
 (.seq (.ops [] [oP 6 (.mv (kI 0))] [6])
 (.seq (.seq (.ops [] [oM 7 0, oP 8 (.bin .lss (.t 7) (kI 0)), oM 9 8, oQ 10 (.mv (.t 0)) 9 false, oQ 11 (.bin .geq (.t 10) (kI 65536)) 9 false, oP 12 (.pick (.t 9) (.c (.d (.bool true))) (.t 11)), oM 13 12, oQ 14 (.mv (.t 1)) 13 false, oQ 15 (.bin .lss (.t 14) (kI 0)) 13 false, oP 16 (.pick (.t 13) (.c (.d (.bool true))) (.t 15)), oM 17 16, oQ 18 (.mv (.t 2)) 17 false, oQ 19 (.bin .geq (.t 18) (kI 65536)) 17 false, oP 20 (.pick (.t 17) (.c (.d (.bool true))) (.t 19)), oM 21 20, oQ 22 (.mv (.t 1)) 21 false, oQ 23 (.mv (.t 2)) 21 false, oQ 24 (.bin .gtr (.t 22) (.t 23)) 21 false, oP 25 (.pick (.t 21) (.c (.d (.bool true))) (.t 24))] [7, 8, 9, 10, 11, 12, 13, 14, 15, 16, 17, 18, 19, 20, 21, 22, 23, 24])
 (.cond (.t 25) (.seq (.ops [] [oP 6 (.mv (kI 0))] [0, 1, 2, 25])
 (.ret [6])) .skip))
 (.seq (.seq (.ops [] [oM 26 0, oM 27 1, oP 28 (.bin .geq (.t 26) (.t 27)), oM 29 28, oQ 30 (.mv (.t 0)) 29 true, oQ 31 (.mv (.t 2)) 29 true, oQ 32 (.bin .leq (.t 30) (.t 31)) 29 true, oP 33 (.pick (.t 29) (.t 32) (.c (.d (.bool false))))] [25, 26, 27, 28, 29, 30, 31, 32])
 (.cond (.t 33) (.seq (.ops [] [oM 34 0, oM 6 34] [0, 1, 2, 33, 34])
 (.ret [6])) .skip))
 (.seq (.ops [] [oM 35 1, oM 36 0, oM 37 2, oM 38 1, oP 39 (.bin .sub (.t 37) (.t 38)), oP 40 (.bin .add (.t 39) (kI 1)), oP 41 (.bin .rem (.t 36) (.t 40)), oP 42 (.bin .add (.t 35) (.t 41)), oM 6 42] [0, 1, 2, 33, 35, 36, 37, 38, 39, 40, 41, 42])
 (.ret [6])))))
def r_ref02_Into : List ARes := [.t 6]
def fn_ref02_Into : AFn := .code c_ref02_Into r_ref02_Into 43 true
def c_ref03_New : ACode :=
 (.seq (.ops [] [oP 10 (.alloc (.d (.agg [.int .i64 0, .int .i64 0, .int .i64 0, .int .i64 0, .int .i64 0, .int .i64 0, .str []]))), oP 11 (.mv (kI 0))] [11])
 (.seq (.ops [] [oM 14 0, oM 15 1, oM 16 2, oM 17 3, oM 18 4, oP 19 (.build [aI 0, aI 0, aI 0, aI 0, aI 0, aI 0, .d (.str [])] [(0, (1, .t 14)), (1, (1, .t 15)), (2, (1, .t 16)), (5, (1, .t 17)), (6, (1, .t 18))]), oP 12 (.alloc (.d (.agg [.int .i64 0, .int .i64 0, .int .i64 0, .int .i64 0, .int .i64 0, .int .i64 0, .str []]))), oN (.st 7 (.t 12) (.t 19))] [0, 1, 2, 3, 4, 14, 15, 16, 17, 18, 19])
 (.seq (.seq (.ops [] [oP 20 (.ld true 7 (.t 12)), oP 21 (.call N_ref03_Validate [] [.t 20]), oM 13 21] [20, 21])
 (.seq (.ops [] [oM 22 13, oP 23 (.bin .neq (.t 22) (kI 0))] [22])
 (.cond (.t 23) (.seq (.ops [] [oP 24 (.build [aI 0, aI 0, aI 0, aI 0, aI 0, aI 0, .d (.str [])] []), oM 25 13, oN (.st 7 (.t 10) (.t 24)), oM 11 25] [12, 13, 23, 24, 25])
 (.ret [10, 11])) .skip)))
 (.seq (.ops [] [oP 26 (.ld true 7 (.t 12)), oN (.st 7 (.t 10) (.t 26)), oP 11 (.mv (kI 0))] [12, 13, 23, 26])
 (.ret [10, 11])))))
def r_ref03_New : List ARes := [.c 10 true 7, .t 11]
def fn_ref03_New : AFn := .code c_ref03_New r_ref03_New 27 true
def c_ref07_Put : ACode :=
 (.seq (.ops [] [oP 2 (.box (.t 0)), oP 3 (.box (.t 1)), oP 4 (.alloc (.agg [.d (.bool false), aI 0, aI 0, .xsl [], aI 0, aI 0, .xsl [], .xsl []])), oP 5 (.mv (kI 0))] [0, 1, 5])
 (.seq (.seq (.ops [] [oP 8 (.ld true 8 (.t 2)), oP 9 (.call N_ref07_Live [] [.t 8]), oM 6 9] [8, 9])
 (.seq (.ops [] [oM 10 6, oP 11 (.bin .neq (.t 10) (kI 0))] [10])
 (.cond (.t 11) (.seq (.ops [] [oP 12 (.build [.d (.bool false), aI 0, aI 0, .xsl [], aI 0, aI 0, .xsl [], .xsl []] []), oM 13 6, oN (.st 8 (.t 4) (.t 12)), oM 5 13] [2, 3, 6, 11, 12, 13])
 (.ret [4, 5])) .skip)))
 (.seq (.seq (.ops [] [oP 14 (.ld true 7 (.t 3)), oP 15 (.call N_ref03_Validate [] [.t 14]), oM 7 15] [6, 11, 14, 15])
 (.seq (.ops [] [oM 16 7, oP 17 (.bin .neq (.t 16) (kI 0))] [16])
 (.cond (.t 17) (.seq (.ops [] [oP 18 (.build [.d (.bool false), aI 0, aI 0, .xsl [], aI 0, aI 0, .xsl [], .xsl []] []), oM 19 7, oN (.st 8 (.t 4) (.t 18)), oM 5 19] [2, 3, 7, 17, 18, 19])
 (.ret [4, 5])) .skip)))
 (.seq (.block 0 (.seq (.ops [] [oP 21 (.fad false 1 1 (.t 3)), oP 22 (.ld false 1 (.t 21)), oP 23 (.fad false 1 1 (.t 2)), oP 24 (.ld false 1 (.t 23)), oP 25 (.bin .lss (.t 22) (.t 24)), oM 26 25, oQ 27 (.fad false 1 1 (.t 3)) 26 false, oQ 28 (.ld false 1 (.t 27)) 26 false, oQ 29 (.fad false 2 1 (.t 2)) 26 false, oQ 30 (.ld false 1 (.t 29)) 26 false, oQ 31 (.bin .gtr (.t 28) (.t 30)) 26 false, oP 32 (.pick (.t 26) (.c (.d (.bool true))) (.t 31)), oM 20 32] [7, 17, 21, 22, 23, 24, 25, 26, 27, 28, 29, 30, 31, 32])
 (.cond (.t 20) (.seq (.ops [] [oP 33 (.build [.d (.bool false), aI 0, aI 0, .xsl [], aI 0, aI 0, .xsl [], .xsl []] []), oN (.st 8 (.t 4) (.t 33)), oP 5 (.mv (kI 12))] [2, 3, 20, 33])
 (.ret [4, 5])) (.seq (.draw [] [oP 35 (.ld true 8 (.t 2)), oP 36 (.call N_ref07_Stored [] [.t 35]), oP 37 (.fad true 3 3 (.t 2)), oP 38 (.fad false 0 1 (.t 37)), oP 39 (.ld false 1 (.t 38)), oP 40 (.len (.t 39)), oP 41 (.bin .eql (.t 36) (.t 40)), oM 34 41] [[], [], [0, 1], [0, 1], [0, 1], [0, 1], [], []] [20, 35, 36, 37, 38, 39, 40, 41])
 (.cond (.t 34) (.seq (.ops [] [oP 42 (.build [.d (.bool false), aI 0, aI 0, .xsl [], aI 0, aI 0, .xsl [], .xsl []] []), oN (.st 8 (.t 4) (.t 42)), oP 5 (.mv (kI 3))] [2, 3, 34, 42])
 (.ret [4, 5])) (.seq (.draw [] [oP 44 (.ld true 8 (.t 2)), oP 45 (.call N_ref07_All [false, true] [.t 44]), oP 46 (.fad false 0 1 (.t 3)), oP 47 (.ld false 1 (.t 46)), oP 48 (.call N_ref03_Index [] [.t 45, .t 47]), oP 49 (.bin .geq (.t 48) (kI 0)), oM 43 49] [[], [], [0, 1], [0, 1], [], [], []] [34, 44, 45, 46, 47, 48, 49])
 (.cond (.t 43) (.seq (.ops [] [oP 50 (.build [.d (.bool false), aI 0, aI 0, .xsl [], aI 0, aI 0, .xsl [], .xsl []] []), oN (.st 8 (.t 4) (.t 50)), oP 5 (.mv (kI 10))] [2, 3, 43, 50])
 (.ret [4, 5])) .skip)))))))
 (.seq (.ops [] [oP 52 (.fad true 3 3 (.t 2)), oP 53 (.ld true 3 (.t 52)), oP 54 (.ld true 7 (.t 3)), oP 55 (.call N_ref04_PushBack [false, false, true] [.t 53, .t 54]), oM 51 55, oP 56 (.ext (.t 51) 0), oP 57 (.ext (.t 51) 1), oP 58 (.fad true 3 3 (.t 2)), oN (.st 3 (.t 58) (.t 56))] [3, 43, 51, 52, 53, 54, 55, 56, 57, 58])
 (.seq (.ops [] [oP 59 (.ld true 8 (.t 2)), oN (.st 8 (.t 4) (.t 59)), oP 5 (.mv (kI 0))] [2, 59])
 (.ret [4, 5])))))))
def r_ref07_Put : List ARes := [.c 4 true 8, .t 5]
def fn_ref07_Put : AFn := .code c_ref07_Put r_ref07_Put 60 true
def c_ref04_PushBack : ACode :=
 (.seq (.ops [] [oP 2 (.box (.t 0)), oP 3 (.box (.t 1)), oP 4 (.alloc (.agg [.xsl [], aI 0, aI 0])), oP 5 (.mv (kI 0))] [0, 1, 5])
 (.seq (.seq (.ops [] [oP 7 (.ld true 3 (.t 2)), oP 8 (.ld true 7 (.t 3)), oP 9 (.call N_ref04_pushable [] [.t 7, .t 8]), oM 6 9] [7, 8, 9])
 (.seq (.ops [] [oM 10 6, oP 11 (.bin .neq (.t 10) (kI 0))] [10])
 (.cond (.t 11) (.seq (.ops [] [oP 12 (.build [.xsl [], aI 0, aI 0] []), oM 13 6, oN (.st 3 (.t 4) (.t 12)), oM 5 13] [2, 3, 6, 11, 12, 13])
 (.ret [4, 5])) .skip)))
 (.seq (.draw [] [oP 14 (.ld true 3 (.t 2)), oP 15 (.fad false 1 1 (.t 2)), oP 16 (.ld false 1 (.t 15)), oP 17 (.ld true 3 (.t 2)), oP 18 (.call N_ref04_order [false, true] [.t 17]), oP 19 (.ld true 7 (.t 3)), oP 20 (.bsl 1 7 (.d (.agg [.int .i64 0, .int .i64 0, .int .i64 0, .int .i64 0, .int .i64 0, .int .i64 0, .str []])) [(0, .t 19)]), oP 21 (.app 7 (.t 18) (.t 20)), oP 22 (.call N_ref04_with [false, false, false, true] [.t 14, .t 16, .t 21]), oN (.st 3 (.t 4) (.t 22)), oP 5 (.mv (kI 0))] [[], [0], [0], [0, 1, 2], [0, 1, 2], [0, 1, 2, 3, 4], [0, 1, 2, 3, 4], [0, 1, 2], [], [], []] [2, 3, 6, 11, 14, 15, 16, 17, 18, 19, 20, 21, 22])
 (.ret [4, 5]))))
def r_ref04_PushBack : List ARes := [.c 4 true 3, .t 5]
def fn_ref04_PushBack : AFn := .code c_ref04_PushBack r_ref04_PushBack 23 true
def c_ref04_pushable : ACode :=
 (.seq (.ops [] [oP 2 (.box (.t 0)), oP 3 (.box (.t 1)), oP 4 (.mv (kI 0))] [0, 1, 4])
 (.seq (.seq (.ops [] [oP 7 (.ld true 3 (.t 2)), oP 8 (.call N_ref04_Validate [] [.t 7]), oM 5 8] [7, 8])
 (.seq (.ops [] [oM 9 5, oP 10 (.bin .neq (.t 9) (kI 0))] [9])
 (.cond (.t 10) (.seq (.ops [] [oM 11 5, oM 4 11] [2, 3, 5, 10, 11])
 (.ret [4])) .skip)))
 (.seq (.seq (.ops [] [oP 12 (.ld true 7 (.t 3)), oP 13 (.call N_ref03_Validate [] [.t 12]), oM 6 13] [5, 10, 12, 13])
 (.seq (.ops [] [oM 14 6, oP 15 (.bin .neq (.t 14) (kI 0))] [14])
 (.cond (.t 15) (.seq (.ops [] [oM 16 6, oM 4 16] [2, 3, 6, 15, 16])
 (.ret [4])) .skip)))
 (.seq (.seq (.ops [] [oP 17 (.fad false 2 1 (.t 2)), oP 18 (.ld false 1 (.t 17)), oP 19 (.fad false 0 1 (.t 2)), oP 20 (.ld false 1 (.t 19)), oP 21 (.len (.t 20)), oP 22 (.bin .eql (.t 18) (.t 21))] [6, 15, 17, 18, 19, 20, 21])
 (.cond (.t 22) (.seq (.ops [] [oP 4 (.mv (kI 3))] [2, 3, 22])
 (.ret [4])) .skip))
 (.seq (.seq (.draw [] [oP 23 (.ld true 3 (.t 2)), oP 24 (.call N_ref04_order [false, true] [.t 23]), oP 25 (.fad false 0 1 (.t 3)), oP 26 (.ld false 1 (.t 25)), oP 27 (.call N_ref03_Index [] [.t 24, .t 26]), oP 28 (.bin .geq (.t 27) (kI 0))] [[], [], [0, 1], [0, 1], [], []] [2, 3, 22, 23, 24, 25, 26, 27])
 (.cond (.t 28) (.seq (.ops [] [oP 4 (.mv (kI 10))] [28])
 (.ret [4])) .skip))
 (.seq (.ops [] [oP 4 (.mv (kI 0))] [28])
 (.ret [4])))))))
def r_ref04_pushable : List ARes := [.t 4]
def fn_ref04_pushable : AFn := .code c_ref04_pushable r_ref04_pushable 29 true
def l_ref04_with_0 : ACode :=
 (.seq (.seq (.ops [] [oM 17 8, oM 18 2, oP 19 (.len (.t 18)), oP 20 (.bin .lss (.t 17) (.t 19))] [17, 18, 19])
 (.cond (.t 20) .skip (.exit 0 [6, 7])))
 (.seq (.block 1 (.draw [] [oP 23 (.fad false 0 1 (.t 7)), oP 24 (.ld false 1 (.t 23)), oM 25 1, oM 26 8, oP 27 (.bin .add (.t 25) (.t 26)), oP 28 (.fad false 0 1 (.t 7)), oP 29 (.ld false 1 (.t 28)), oP 30 (.len (.t 29)), oP 31 (.bin .rem (.t 27) (.t 30)), oM 32 2, oM 33 8, oP 34 (.iad 7 (.t 32) (.t 33)), oP 35 (.ld true 7 (.t 34)), oP 36 (.iad 7 (.t 24) (.t 31)), oN (.st 7 (.t 36) (.t 35))] [[], [], [0, 1], [0, 1, 2], [0, 1], [0, 1, 2, 3, 4], [0, 1, 2, 3, 4], [0, 1, 2, 3, 4], [0, 1], [0, 1, 2, 3, 4, 5, 6, 7, 8], [0, 1, 2, 3, 4, 5, 6, 7, 8, 9], [0, 1, 2, 3, 4, 5, 6, 7, 8], [0, 1, 2, 3, 4, 5, 6, 7, 8], [], []] [20, 23, 24, 25, 26, 27, 28, 29, 30, 31, 32, 33, 34, 35, 36]))
 (.ops [] [oM 21 8, oP 22 (.bin .add (.t 21) (kI 1)), oM 8 22] [21, 22])))
def c_ref04_with : ACode :=
 (.seq (.ops [] [oP 3 (.box (.t 0)), oP 6 (.alloc (.agg [.xsl [], aI 0, aI 0]))] [0])
 (.seq (.ops [] [oP 9 (.fad false 0 1 (.t 3)), oP 10 (.ld false 1 (.t 9)), oP 11 (.len (.t 10)), oP 12 (.mks 7 (.d (.agg [.int .i64 0, .int .i64 0, .int .i64 0, .int .i64 0, .int .i64 0, .int .i64 0, .str []])) (.t 11) (.t 11)), oM 13 1, oM 14 2, oP 15 (.len (.t 14)), oP 16 (.build [.xsl [], aI 0, aI 0] [(0, (1, .t 12)), (1, (1, .t 13)), (2, (1, .t 15))]), oP 7 (.alloc (.agg [.xsl [], aI 0, aI 0])), oN (.st 3 (.t 7) (.t 16))] [3, 9, 10, 11, 12, 13, 14, 15, 16])
 (.seq (.seq (.ops [] [oP 8 (.mv (kI 0))] [])
 (.block 0 (.loop [] l_ref04_with_0)))
 (.seq (.ops [] [oP 37 (.ld true 3 (.t 7)), oN (.st 3 (.t 6) (.t 37))] [1, 2, 7, 8, 20, 37])
 (.ret [6])))))
def r_ref04_with : List ARes := [.c 6 true 3]
def fn_ref04_with : AFn := .code c_ref04_with r_ref04_with 38 true
def c_ref19_Step : ACode :=
 (.seq (.ops [] [oP 3 (.box (.t 0)), oP 4 (.box (.t 1)), oP 6 (.alloc (.agg [.xsl [], .xsl [], aI 0, aI 0, .xsl [], aI 0, .xsl [], .xsl [], aI 0, aI 0, aI 0])), oP 7 (.alloc (.agg [aI 0, aI 0, aI 0, aI 0, aI 0, aI 0, aI 0, .xsl [], .xsl [], aI 0, .d (.bool false), aI 0, aI 0, aI 0, .xsl [], aI 0, aI 0, aI 0, aI 0, aI 0, aI 0, aI 0, aI 0, aI 0, aI 0, .xsl [], aI 0, aI 0, aI 0, aI 0, aI 0, aI 0, aI 0, aI 0, .xsl [], aI 0, .xsl [], .xsl [], aI 0, .xsl [], .xsl [], .xsl [], aI 0, .xsl [], .xsl [], .xsl [], .xsl [], aI 0, .xsl [], aI 0, .xsl [], .xsl [], aI 0, aI 0, aI 0, aI 0, aI 0, aI 0, aI 0, aI 0, aI 0, .xsl [], .xsl []])), oP 8 (.mv (.c (.xsl []))), oP 9 (.mv (kI 0))] [0, 1, 8, 9])
 (.seq (.seq (.ops [] [oP 19 (.ld true 63 (.t 4)), oP 20 (.call N_ref18_Guard [] [.t 19, kI 2, kI 2]), oM 10 20] [19, 20])
 (.seq (.ops [] [oM 21 10, oP 22 (.bin .neq (.t 21) (kI 0))] [21])
 (.cond (.t 22) (.seq (.ops [] [oM 23 10, oP 24 (.call N_ref18_Fail [false, true] [.t 23]), oP 25 (.ext (.t 24) 0), oP 26 (.ext (.t 24) 1), oP 27 (.ext (.t 24) 2), oP 28 (.ext (.t 24) 3), oN (.st 11 (.t 6) (.t 25)), oN (.st 63 (.t 7) (.t 26)), oM 8 27, oM 9 28] [2, 3, 4, 10, 22, 23, 24, 25, 26, 27, 28])
 (.ret [6, 7, 8, 9])) .skip)))
 (.seq (.seq (.ops [] [oP 29 (.fad false 12 1 (.t 4)), oP 30 (.ld false 1 (.t 29))] [10, 22, 29])
 (.block 0 (.seq (.ops [] [oP 32 (.bin .eql (.t 30) (kI 0)), oM 31 32] [32])
 (.cond (.t 31) (.seq (.ops [] [oP 33 (.ld true 11 (.t 3)), oP 34 (.call N_ref12_LoadDir [false, true] [.t 33]), oP 35 (.fad true 49 3 (.t 4)), oN (.st 3 (.t 35) (.t 34))] [2, 30, 31, 33, 34, 35])
 (.seq (.ops [] [oP 36 (.fad true 49 3 (.t 4)), oP 37 (.ld true 3 (.t 36)), oP 38 (.fad true 1 8 (.t 4)), oP 39 (.fad false 1 1 (.t 38)), oP 40 (.ld false 1 (.t 39)), oP 41 (.call N_ref19_Home [] [.t 37, .t 40]), oP 42 (.fad false 54 1 (.t 4)), oN (.st 1 (.t 42) (.t 41))] [36, 37, 38, 39, 40, 41, 42])
 (.seq (.ops [] [oP 44 (.fad true 49 3 (.t 4)), oP 45 (.ld true 3 (.t 44)), oP 46 (.fad false 54 1 (.t 4)), oP 47 (.ld false 1 (.t 46)), oP 48 (.call N_ref10_Span [] [.t 45, .t 47]), oM 43 48, oP 49 (.ext (.t 43) 0), oP 50 (.ext (.t 43) 1), oP 11 (.alloc (.d (.agg [.int .i64 0, .int .i64 0, .int .i64 0]))), oN (.st 3 (.t 11) (.t 49)), oM 12 50] [12, 43, 44, 45, 46, 47, 48, 49, 50])
 (.seq (.ops [] [oP 52 (.fad false 0 1 (.t 11)), oP 53 (.ld false 1 (.t 52)), oP 54 (.call N_ref16_Begin [] [.t 53]), oM 51 54, oP 55 (.ext (.t 51) 0), oP 56 (.ext (.t 51) 1), oP 57 (.fad true 52 2 (.t 4)), oN (.st 2 (.t 57) (.t 55))] [11, 51, 52, 53, 54, 55, 56, 57])
 (.seq (.draw [] [oP 58 (.ld true 11 (.t 3)), oP 59 (.ld true 63 (.t 4)), oP 60 (.fad false 54 1 (.t 4)), oP 61 (.ld false 1 (.t 60)), oP 62 (.bsl 1 1 (aI 0) [(0, .t 61)]), oP 63 (.call N_ref18_Section [false, false, false, true] [.t 59, .t 62, kI 1]), oN (.st 11 (.t 6) (.t 58)), oN (.st 63 (.t 7) (.t 63)), oP 8 (.mv (.c (.xsl []))), oP 9 (.mv (kI 0))] [[], [0], [0, 1], [0, 1], [0, 1], [0], [], [], [], []] [3, 4, 58, 59, 60, 61, 62, 63])
 (.ret [6, 7, 8, 9])))))) (.seq (.ops [] [oP 65 (.bin .eql (.t 30) (kI 2)), oM 64 65] [30, 31, 65])
 (.cond (.t 64) (.seq (.draw [] [oP 66 (.ld true 11 (.t 3)), oP 67 (.ld true 11 (.t 3)), oP 68 (.ld true 63 (.t 4)), oP 69 (.fad true 52 2 (.t 4)), oP 70 (.fad false 0 1 (.t 69)), oP 71 (.ld false 1 (.t 70)), oP 72 (.call N_ref18_Look [false, false, false, false, true] [.t 67, .t 68, .t 71, kI 1]), oN (.st 11 (.t 6) (.t 66)), oN (.st 63 (.t 7) (.t 72)), oP 8 (.mv (.c (.xsl []))), oP 9 (.mv (kI 0))] [[], [0], [0, 1], [0, 1, 2], [0, 1, 2], [0, 1, 2], [0], [], [], [], []] [2, 3, 4, 64, 66, 67, 68, 69, 70, 71, 72])
 (.ret [6, 7, 8, 9])) .skip))))))
 (.seq (.ops [] [oP 74 (.ld true 11 (.t 3)), oP 75 (.ld true 63 (.t 4)), oM 76 2, oP 77 (.call N_ref18_Go [false, false, false, true] [.t 74, .t 75, .t 76]), oM 73 77, oP 78 (.ext (.t 73) 0), oP 79 (.ext (.t 73) 1), oP 80 (.ext (.t 73) 2), oP 81 (.ext (.t 73) 3), oP 82 (.ext (.t 73) 4), oP 13 (.alloc (.agg [.xsl [], .xsl [], aI 0, aI 0, .xsl [], aI 0, .xsl [], .xsl [], aI 0, aI 0, aI 0])), oN (.st 11 (.t 13) (.t 78)), oN (.st 63 (.t 4) (.t 79)), oM 14 80, oM 15 81, oM 16 82] [3, 64, 73, 74, 75, 76, 77, 78, 79, 80, 81, 82])
 (.seq (.seq (.ops [] [oM 83 16, oP 84 (.bin .neq (.t 83) (kI 0))] [83])
 (.cond (.t 84) (.seq (.ops [] [oM 85 16, oP 86 (.call N_ref18_Fail [false, true] [.t 85]), oP 87 (.ext (.t 86) 0), oP 88 (.ext (.t 86) 1), oP 89 (.ext (.t 86) 2), oP 90 (.ext (.t 86) 3), oN (.st 11 (.t 6) (.t 87)), oN (.st 63 (.t 7) (.t 88)), oM 8 89, oM 9 90] [2, 4, 13, 14, 15, 16, 84, 85, 86, 87, 88, 89, 90])
 (.ret [6, 7, 8, 9])) .skip))
 (.seq (.seq (.ops [] [oM 91 14] [14, 16, 84])
 (.cond (.t 91) (.seq (.ops [] [oP 93 (.ld true 63 (.t 4)), oP 94 (.call N_ref19_decide [false, true] [.t 93]), oM 92 94, oP 95 (.ext (.t 92) 0), oP 96 (.ext (.t 92) 1), oP 17 (.alloc (.agg [aI 0, aI 0, aI 0, aI 0, aI 0, aI 0, aI 0, .xsl [], .xsl [], aI 0, .d (.bool false), aI 0, aI 0, aI 0, .xsl [], aI 0, aI 0, aI 0, aI 0, aI 0, aI 0, aI 0, aI 0, aI 0, aI 0, .xsl [], aI 0, aI 0, aI 0, aI 0, aI 0, aI 0, aI 0, aI 0, .xsl [], aI 0, .xsl [], .xsl [], aI 0, .xsl [], .xsl [], .xsl [], aI 0, .xsl [], .xsl [], .xsl [], .xsl [], aI 0, .xsl [], aI 0, .xsl [], .xsl [], aI 0, aI 0, aI 0, aI 0, aI 0, aI 0, aI 0, aI 0, aI 0, .xsl [], .xsl []])), oN (.st 63 (.t 17) (.t 95)), oM 18 96] [2, 4, 15, 91, 92, 93, 94, 95, 96])
 (.seq (.draw [] [oP 97 (.ld true 11 (.t 13)), oP 98 (.ld true 63 (.t 17)), oM 99 18, oN (.st 11 (.t 6) (.t 97)), oN (.st 63 (.t 7) (.t 98)), oM 8 99, oP 9 (.mv (kI 0))] [[], [0], [0, 1], [1, 2], [2], [], []] [13, 17, 18, 97, 98, 99])
 (.ret [6, 7, 8, 9]))) .skip))
 (.seq (.seq (.ops [] [oM 100 15, oP 101 (.un .not (.t 100))] [15, 91, 100])
 (.cond (.t 101) (.seq (.draw [] [oP 102 (.ld true 11 (.t 13)), oP 103 (.ld true 63 (.t 4)), oN (.st 11 (.t 6) (.t 102)), oN (.st 63 (.t 7) (.t 103)), oP 8 (.mv (.c (.xsl []))), oP 9 (.mv (kI 0))] [[], [0], [1], [], [], []] [2, 4, 13, 101, 102, 103])
 (.ret [6, 7, 8, 9])) .skip))
 (.seq (.seq (.ops [] [oP 104 (.fad false 60 1 (.t 4)), oP 105 (.ld false 1 (.t 104))] [101, 104])
 (.block 1 (.seq (.ops [] [oP 107 (.bin .eql (.t 105) (kI 3)), oM 106 107] [107])
 (.cond (.t 106) (.seq (.draw [] [oP 108 (.ld true 11 (.t 13)), oP 109 (.ld true 63 (.t 4)), oP 110 (.build [aI 0, aI 0, .xsl [], .xsl [], aI 0, aI 0, aI 0] [(0, (1, kI 6))]), oM 111 2, oP 112 (.call N_ref17_Next [false, false, false, true] [.t 109, .t 110, .t 111]), oN (.st 11 (.t 6) (.t 108)), oN (.st 63 (.t 7) (.t 112)), oP 8 (.mv (.c (.xsl []))), oP 9 (.mv (kI 0))] [[], [0], [0, 1], [0, 1, 2], [0], [], [], [], []] [2, 4, 13, 105, 106, 108, 109, 110, 111, 112])
 (.ret [6, 7, 8, 9])) (.seq (.ops [] [oP 114 (.bin .eql (.t 105) (kI 2)), oM 113 114] [106, 114])
 (.cond (.t 113) (.seq (.draw [] [oP 115 (.ld true 11 (.t 13)), oP 116 (.ld true 63 (.t 4)), oP 117 (.build [aI 0, aI 0, .xsl [], .xsl [], aI 0, aI 0, aI 0] []), oM 118 2, oP 119 (.call N_ref17_Next [false, false, false, true] [.t 116, .t 117, .t 118]), oN (.st 11 (.t 6) (.t 115)), oN (.st 63 (.t 7) (.t 119)), oP 8 (.mv (.c (.xsl []))), oP 9 (.mv (kI 0))] [[], [0], [0, 1], [0, 1, 2], [0], [], [], [], []] [2, 4, 13, 105, 113, 115, 116, 117, 118, 119])
 (.ret [6, 7, 8, 9])) (.seq (.ops [] [oP 121 (.bin .eql (.t 105) (kI 1)), oM 120 121] [105, 113, 121])
 (.cond (.t 120) (.seq (.draw [] [oP 122 (.ld true 11 (.t 13)), oP 123 (.ld true 63 (.t 4)), oP 124 (.ld true 63 (.t 4)), oP 125 (.call N_ref19_result [false, true] [.t 124]), oM 126 2, oP 127 (.call N_ref17_Next [false, false, false, true] [.t 123, .t 125, .t 126]), oN (.st 11 (.t 6) (.t 122)), oN (.st 63 (.t 7) (.t 127)), oP 8 (.mv (.c (.xsl []))), oP 9 (.mv (kI 0))] [[], [0], [0, 1], [0, 1], [0, 1, 2, 3], [0], [], [], [], []] [2, 4, 13, 120, 122, 123, 124, 125, 126, 127])
 (.ret [6, 7, 8, 9])) .skip))))))))
 (.seq (.ops [] [oP 128 (.fad false 12 1 (.t 4)), oN (.st 1 (.t 128) (kI 2))] [2, 120, 128])
 (.seq (.draw [] [oP 129 (.ld true 11 (.t 13)), oP 130 (.ld true 63 (.t 4)), oN (.st 11 (.t 6) (.t 129)), oN (.st 63 (.t 7) (.t 130)), oP 8 (.mv (.c (.xsl []))), oP 9 (.mv (kI 0))] [[], [0], [1], [], [], []] [4, 13, 129, 130])
 (.ret [6, 7, 8, 9])))))))))))
def r_ref19_Step : List ARes := [.c 6 true 11, .c 7 true 63, .t 8, .t 9]
def fn_ref19_Step : AFn := .code c_ref19_Step r_ref19_Step 131 true
def c_ref20_Step : ACode :=
 (.seq (.ops [] [oP 3 (.box (.t 0)), oP 4 (.box (.t 1)), oP 6 (.alloc (.agg [.xsl [], .xsl [], aI 0, aI 0, .xsl [], aI 0, .xsl [], .xsl [], aI 0, aI 0, aI 0])), oP 7 (.alloc (.agg [aI 0, aI 0, aI 0, aI 0, aI 0, aI 0, aI 0, .xsl [], .xsl [], aI 0, .d (.bool false), aI 0, aI 0, aI 0, .xsl [], aI 0, aI 0, aI 0, aI 0, aI 0, aI 0, aI 0, aI 0, aI 0, aI 0, .xsl [], aI 0, aI 0, aI 0, aI 0, aI 0, aI 0, aI 0, aI 0, .xsl [], aI 0, .xsl [], .xsl [], aI 0, .xsl [], .xsl [], .xsl [], aI 0, .xsl [], .xsl [], .xsl [], .xsl [], aI 0, .xsl [], aI 0, .xsl [], .xsl [], aI 0, aI 0, aI 0, aI 0, aI 0, aI 0, aI 0, aI 0, aI 0, .xsl [], .xsl []])), oP 8 (.mv (.c (.xsl []))), oP 9 (.mv (kI 0))] [0, 1, 8, 9])
 (.seq (.seq (.ops [] [oP 21 (.ld true 63 (.t 4)), oP 22 (.call N_ref18_Guard [] [.t 21, kI 3, kI 5]), oM 10 22] [21, 22])
 (.seq (.ops [] [oM 23 10, oP 24 (.bin .neq (.t 23) (kI 0))] [23])
 (.cond (.t 24) (.seq (.ops [] [oM 25 10, oP 26 (.call N_ref18_Fail [false, true] [.t 25]), oP 27 (.ext (.t 26) 0), oP 28 (.ext (.t 26) 1), oP 29 (.ext (.t 26) 2), oP 30 (.ext (.t 26) 3), oN (.st 11 (.t 6) (.t 27)), oN (.st 63 (.t 7) (.t 28)), oM 8 29, oM 9 30] [2, 3, 4, 10, 24, 25, 26, 27, 28, 29, 30])
 (.ret [6, 7, 8, 9])) .skip)))
 (.seq (.seq (.ops [] [oP 31 (.fad false 12 1 (.t 4)), oP 32 (.ld false 1 (.t 31))] [10, 24, 31])
 (.block 0 (.seq (.ops [] [oP 34 (.bin .eql (.t 32) (kI 0)), oM 33 34] [34])
 (.cond (.t 33) (.seq (.ops [] [oP 36 (.fad true 1 8 (.t 4)), oP 37 (.fad false 7 1 (.t 36)), oP 38 (.ld false 1 (.t 37)), oP 39 (.fad false 13 1 (.t 4)), oP 40 (.ld false 1 (.t 39)), oP 41 (.iad 1 (.t 38) (.t 40)), oP 42 (.ld false 1 (.t 41)), oP 43 (.call N_ref09_Parse [] [.t 42]), oM 35 43, oP 44 (.ext (.t 35) 0), oP 45 (.ext (.t 35) 1), oP 11 (.alloc (.d (.agg [.int .i64 0, .int .i64 0, .int .i64 0, .int .i64 0]))), oN (.st 4 (.t 11) (.t 44)), oM 12 45] [32, 33, 35, 36, 37, 38, 39, 40, 41, 42, 43, 44, 45])
 (.seq (.seq (.ops [] [oM 46 12, oP 47 (.bin .neq (.t 46) (kI 0))] [12, 46])
 (.cond (.t 47) (.seq (.draw [] [oP 48 (.ld true 63 (.t 4)), oP 49 (.fad true 1 8 (.t 4)), oP 50 (.fad false 0 1 (.t 49)), oP 51 (.ld false 1 (.t 50)), oP 52 (.call N_ref20_kind [] [.t 51]), oM 53 2, oP 54 (.call N_ref18_Event [false, false, false, true] [.t 48, .t 52, .t 53]), oP 13 (.alloc (.agg [aI 0, aI 0, aI 0, aI 0, aI 0, aI 0, aI 0, .xsl [], aI 0, aI 0])), oN (.st 10 (.t 13) (.t 54))] [[], [0], [0], [0], [0], [0, 1, 2, 3, 4], [], [0, 1, 2, 3, 4, 5, 6], []] [11, 47, 48, 49, 50, 51, 52, 53, 54])
 (.seq (.ops [] [oP 55 (.fad false 6 1 (.t 13)), oN (.st 1 (.t 55) (kI 5))] [55])
 (.seq (.draw [] [oP 56 (.ld true 11 (.t 3)), oP 57 (.ld true 63 (.t 4)), oP 58 (.build [aI 0, aI 0, .xsl [], .xsl [], aI 0, aI 0, aI 0] [(0, (1, kI 5))]), oM 59 2, oP 60 (.call N_ref17_Next [false, false, false, true] [.t 57, .t 58, .t 59]), oP 61 (.ld true 10 (.t 13)), oP 62 (.bsl 1 10 (.agg [aI 0, aI 0, aI 0, aI 0, aI 0, aI 0, aI 0, .xsl [], aI 0, aI 0]) [(0, .t 61)]), oN (.st 11 (.t 6) (.t 56)), oN (.st 63 (.t 7) (.t 60)), oM 8 62, oP 9 (.mv (kI 0))] [[], [0], [0, 1], [0, 1, 2], [0], [0, 1, 2, 3, 4], [0, 1, 2, 3, 4], [5, 6], [5, 6], [], []] [2, 3, 4, 13, 56, 57, 58, 59, 60, 61, 62])
 (.ret [6, 7, 8, 9])))) .skip))
 (.seq (.ops [] [oP 63 (.ld true 4 (.t 11)), oP 64 (.fad true 56 4 (.t 4)), oN (.st 4 (.t 64) (.t 63)), oP 65 (.fad false 12 1 (.t 4)), oN (.st 1 (.t 65) (kI 1))] [2, 47, 63, 64, 65])
 (.seq (.seq (.ops [] [oP 66 (.fad false 3 1 (.t 11)), oP 67 (.ld false 1 (.t 66)), oP 68 (.fad true 15 8 (.t 4)), oP 69 (.fad false 0 1 (.t 68)), oP 70 (.ld false 1 (.t 69)), oP 71 (.bin .lss (.t 67) (.t 70))] [66, 67, 68, 69, 70])
 (.cond (.t 71) (.ops [] [oP 72 (.ld true 63 (.t 4)), oP 73 (.fad false 3 1 (.t 11)), oP 74 (.ld false 1 (.t 73)), oP 75 (.bsl 1 1 (aI 0) [(0, .t 74)]), oP 76 (.call N_ref18_Section [false, false, false, true] [.t 72, .t 75, kI 2]), oN (.st 63 (.t 4) (.t 76))] [11, 71, 72, 73, 74, 75, 76]) .skip))
 (.seq (.draw [] [oP 77 (.ld true 11 (.t 3)), oP 78 (.ld true 63 (.t 4)), oN (.st 11 (.t 6) (.t 77)), oN (.st 63 (.t 7) (.t 78)), oP 8 (.mv (.c (.xsl []))), oP 9 (.mv (kI 0))] [[], [0], [1], [], [], []] [3, 4, 11, 71, 77, 78])
 (.ret [6, 7, 8, 9])))))) (.seq (.ops [] [oP 80 (.bin .eql (.t 32) (kI 1)), oM 79 80] [32, 33, 80])
 (.cond (.t 79) (.seq (.draw [] [oP 81 (.ld true 11 (.t 3)), oP 82 (.ld true 11 (.t 3)), oP 83 (.ld true 63 (.t 4)), oP 84 (.fad true 56 4 (.t 4)), oP 85 (.fad false 2 1 (.t 84)), oP 86 (.ld false 1 (.t 85)), oP 87 (.call N_ref18_Look [false, false, false, false, true] [.t 82, .t 83, .t 86, kI 2]), oN (.st 11 (.t 6) (.t 81)), oN (.st 63 (.t 7) (.t 87)), oP 8 (.mv (.c (.xsl []))), oP 9 (.mv (kI 0))] [[], [0], [0, 1], [0, 1, 2], [0, 1, 2], [0, 1, 2], [0], [], [], [], []] [2, 3, 4, 79, 81, 82, 83, 84, 85, 86, 87])
 (.ret [6, 7, 8, 9])) .skip))))))
 (.seq (.ops [] [oP 89 (.ld true 11 (.t 3)), oP 90 (.ld true 63 (.t 4)), oM 91 2, oP 92 (.call N_ref18_Go [false, false, false, true] [.t 89, .t 90, .t 91]), oM 88 92, oP 93 (.ext (.t 88) 0), oP 94 (.ext (.t 88) 1), oP 95 (.ext (.t 88) 2), oP 96 (.ext (.t 88) 3), oP 97 (.ext (.t 88) 4), oP 14 (.alloc (.agg [.xsl [], .xsl [], aI 0, aI 0, .xsl [], aI 0, .xsl [], .xsl [], aI 0, aI 0, aI 0])), oN (.st 11 (.t 14) (.t 93)), oN (.st 63 (.t 4) (.t 94)), oM 15 95, oM 16 96, oM 17 97] [3, 79, 88, 89, 90, 91, 92, 93, 94, 95, 96, 97])
 (.seq (.seq (.ops [] [oM 98 17, oP 99 (.bin .neq (.t 98) (kI 0))] [98])
 (.cond (.t 99) (.seq (.ops [] [oM 100 17, oP 101 (.call N_ref18_Fail [false, true] [.t 100]), oP 102 (.ext (.t 101) 0), oP 103 (.ext (.t 101) 1), oP 104 (.ext (.t 101) 2), oP 105 (.ext (.t 101) 3), oN (.st 11 (.t 6) (.t 102)), oN (.st 63 (.t 7) (.t 103)), oM 8 104, oM 9 105] [2, 4, 14, 15, 16, 17, 99, 100, 101, 102, 103, 104, 105])
 (.ret [6, 7, 8, 9])) .skip))
 (.seq (.seq (.ops [] [oM 106 15] [15, 17, 99])
 (.cond (.t 106) (.seq (.ops [] [oP 108 (.ld true 63 (.t 4)), oP 109 (.call N_ref20_decide [false, true] [.t 108]), oM 107 109, oP 110 (.ext (.t 107) 0), oP 111 (.ext (.t 107) 1), oP 18 (.alloc (.agg [aI 0, aI 0, aI 0, aI 0, aI 0, aI 0, aI 0, .xsl [], .xsl [], aI 0, .d (.bool false), aI 0, aI 0, aI 0, .xsl [], aI 0, aI 0, aI 0, aI 0, aI 0, aI 0, aI 0, aI 0, aI 0, aI 0, .xsl [], aI 0, aI 0, aI 0, aI 0, aI 0, aI 0, aI 0, aI 0, .xsl [], aI 0, .xsl [], .xsl [], aI 0, .xsl [], .xsl [], .xsl [], aI 0, .xsl [], .xsl [], .xsl [], .xsl [], aI 0, .xsl [], aI 0, .xsl [], .xsl [], aI 0, aI 0, aI 0, aI 0, aI 0, aI 0, aI 0, aI 0, aI 0, .xsl [], .xsl []])), oN (.st 63 (.t 18) (.t 110)), oM 19 111] [2, 4, 16, 106, 107, 108, 109, 110, 111])
 (.seq (.draw [] [oP 112 (.ld true 11 (.t 14)), oP 113 (.ld true 63 (.t 18)), oM 114 19, oN (.st 11 (.t 6) (.t 112)), oN (.st 63 (.t 7) (.t 113)), oM 8 114, oP 9 (.mv (kI 0))] [[], [0], [0, 1], [1, 2], [2], [], []] [14, 18, 19, 112, 113, 114])
 (.ret [6, 7, 8, 9]))) .skip))
 (.seq (.seq (.ops [] [oM 115 16, oP 116 (.un .not (.t 115))] [16, 106, 115])
 (.cond (.t 116) (.seq (.draw [] [oP 117 (.ld true 11 (.t 14)), oP 118 (.ld true 63 (.t 4)), oN (.st 11 (.t 6) (.t 117)), oN (.st 63 (.t 7) (.t 118)), oP 8 (.mv (.c (.xsl []))), oP 9 (.mv (kI 0))] [[], [0], [1], [], [], []] [2, 4, 14, 116, 117, 118])
 (.ret [6, 7, 8, 9])) .skip))
 (.seq (.seq (.draw [] [oP 119 (.fad true 23 26 (.t 4)), oP 120 (.fad false 11 1 (.t 119)), oP 121 (.ld false 1 (.t 120)), oP 122 (.iad 8 (.t 121) (kI 0)), oP 123 (.ld true 8 (.t 122)), oP 124 (.fad true 56 4 (.t 4)), oP 125 (.fad false 2 1 (.t 124)), oP 126 (.ld false 1 (.t 125)), oP 127 (.call N_ref07_Owns [] [.t 123, .t 126]), oP 128 (.un .not (.t 127))] [[], [], [], [], [], [0, 1, 2, 3, 4], [0, 1, 2, 3, 4], [0, 1, 2, 3, 4], [], []] [116, 119, 120, 121, 122, 123, 124, 125, 126, 127])
 (.cond (.t 128) (.seq (.ops [] [oP 129 (.fad false 12 1 (.t 4)), oN (.st 1 (.t 129) (kI 1))] [2, 128, 129])
 (.seq (.draw [] [oP 130 (.ld true 11 (.t 14)), oP 131 (.ld true 63 (.t 4)), oN (.st 11 (.t 6) (.t 130)), oN (.st 63 (.t 7) (.t 131)), oP 8 (.mv (.c (.xsl []))), oP 9 (.mv (kI 0))] [[], [0], [1], [], [], []] [4, 14, 130, 131])
 (.ret [6, 7, 8, 9]))) .skip))
 (.seq (.ops [] [oP 132 (.build [aI 0, aI 0, .xsl [], .xsl [], aI 0, aI 0, aI 0] []), oP 20 (.alloc (.agg [aI 0, aI 0, .xsl [], .xsl [], aI 0, aI 0, aI 0])), oN (.st 7 (.t 20) (.t 132))] [128, 132])
 (.seq (.seq (.ops [] [oP 134 (.ld true 63 (.t 4)), oP 135 (.call N_ref20_settle [false, true] [.t 134]), oM 133 135, oP 136 (.ext (.t 133) 0), oP 137 (.ext (.t 133) 1), oP 138 (.fad false 0 1 (.t 20)), oN (.st 1 (.t 138) (.t 137))] [133, 134, 135, 136, 137, 138])
 (.seq (.ops [] [oP 139 (.fad false 0 1 (.t 20)), oP 140 (.ld false 1 (.t 139)), oP 141 (.bin .eql (.t 140) (kI 0))] [139, 140])
 (.cond (.t 141) (.ops [] [oP 142 (.fad true 56 4 (.t 4)), oP 143 (.fad false 0 1 (.t 142)), oP 144 (.ld false 1 (.t 143)), oP 145 (.fad false 1 1 (.t 20)), oN (.st 1 (.t 145) (.t 144))] [141, 142, 143, 144, 145]) .skip)))
 (.seq (.draw [] [oP 146 (.ld true 11 (.t 14)), oP 147 (.ld true 63 (.t 4)), oP 148 (.ld true 7 (.t 20)), oM 149 2, oP 150 (.call N_ref17_Next [false, false, false, true] [.t 147, .t 148, .t 149]), oN (.st 11 (.t 6) (.t 146)), oN (.st 63 (.t 7) (.t 150)), oP 8 (.mv (.c (.xsl []))), oP 9 (.mv (kI 0))] [[], [0], [0, 1], [0, 1, 2], [0], [], [], [], []] [2, 4, 14, 20, 141, 146, 147, 148, 149, 150])
 (.ret [6, 7, 8, 9]))))))))))))
def r_ref20_Step : List ARes := [.c 6 true 11, .c 7 true 63, .t 8, .t 9]
def fn_ref20_Step : AFn := .code c_ref20_Step r_ref20_Step 151 true
def c_ref21_Step : ACode :=
 (.seq (.ops [] [oP 3 (.box (.t 0)), oP 4 (.box (.t 1)), oP 6 (.alloc (.agg [.xsl [], .xsl [], aI 0, aI 0, .xsl [], aI 0, .xsl [], .xsl [], aI 0, aI 0, aI 0])), oP 7 (.alloc (.agg [aI 0, aI 0, aI 0, aI 0, aI 0, aI 0, aI 0, .xsl [], .xsl [], aI 0, .d (.bool false), aI 0, aI 0, aI 0, .xsl [], aI 0, aI 0, aI 0, aI 0, aI 0, aI 0, aI 0, aI 0, aI 0, aI 0, .xsl [], aI 0, aI 0, aI 0, aI 0, aI 0, aI 0, aI 0, aI 0, .xsl [], aI 0, .xsl [], .xsl [], aI 0, .xsl [], .xsl [], .xsl [], aI 0, .xsl [], .xsl [], .xsl [], .xsl [], aI 0, .xsl [], aI 0, .xsl [], .xsl [], aI 0, aI 0, aI 0, aI 0, aI 0, aI 0, aI 0, aI 0, aI 0, .xsl [], .xsl []])), oP 8 (.mv (.c (.xsl []))), oP 9 (.mv (kI 0))] [0, 1, 8, 9])
 (.seq (.seq (.ops [] [oP 15 (.ld true 63 (.t 4)), oP 16 (.call N_ref18_Guard [] [.t 15, kI 6, kI 6]), oM 10 16] [15, 16])
 (.seq (.ops [] [oM 17 10, oP 18 (.bin .neq (.t 17) (kI 0))] [17])
 (.cond (.t 18) (.seq (.ops [] [oM 19 10, oP 20 (.call N_ref18_Fail [false, true] [.t 19]), oP 21 (.ext (.t 20) 0), oP 22 (.ext (.t 20) 1), oP 23 (.ext (.t 20) 2), oP 24 (.ext (.t 20) 3), oN (.st 11 (.t 6) (.t 21)), oN (.st 63 (.t 7) (.t 22)), oM 8 23, oM 9 24] [2, 3, 4, 10, 18, 19, 20, 21, 22, 23, 24])
 (.ret [6, 7, 8, 9])) .skip)))
 (.seq (.ops [] [oP 25 (.ld true 63 (.t 4)), oM 26 2, oP 27 (.call N_ref18_Event [false, false, false, true] [.t 25, kI 7, .t 26]), oP 11 (.alloc (.agg [aI 0, aI 0, aI 0, aI 0, aI 0, aI 0, aI 0, .xsl [], aI 0, aI 0])), oN (.st 10 (.t 11) (.t 27))] [10, 18, 25, 26, 27])
 (.seq (.seq (.ops [] [oP 28 (.fad false 12 1 (.t 4)), oP 29 (.ld false 1 (.t 28)), oP 30 (.bin .eql (.t 29) (kI 0))] [28, 29])
 (.cond (.t 30) (.seq (.ops [] [oP 32 (.ld true 11 (.t 3)), oP 33 (.call N_ref12_Load [] [.t 32, kI 1]), oM 31 33, oP 34 (.ext (.t 31) 0), oP 35 (.ext (.t 31) 1), oP 36 (.fad false 60 1 (.t 4)), oN (.st 1 (.t 36) (.t 34))] [30, 31, 32, 33, 34, 35, 36])
 (.seq (.seq (.ops [] [oP 37 (.fad false 60 1 (.t 4)), oP 38 (.ld false 1 (.t 37)), oP 39 (.bin .eql (.t 38) (kI 65536))] [37, 38])
 (.cond (.t 39) (.seq (.ops [] [oP 40 (.fad false 6 1 (.t 11)), oN (.st 1 (.t 40) (kI 6))] [39, 40])
 (.seq (.draw [] [oP 41 (.ld true 11 (.t 3)), oP 42 (.ld true 63 (.t 4)), oP 43 (.build [aI 0, aI 0, .xsl [], .xsl [], aI 0, aI 0, aI 0] [(0, (1, kI 6))]), oM 44 2, oP 45 (.call N_ref17_Next [false, false, false, true] [.t 42, .t 43, .t 44]), oP 46 (.ld true 10 (.t 11)), oP 47 (.bsl 1 10 (.agg [aI 0, aI 0, aI 0, aI 0, aI 0, aI 0, aI 0, .xsl [], aI 0, aI 0]) [(0, .t 46)]), oN (.st 11 (.t 6) (.t 41)), oN (.st 63 (.t 7) (.t 45)), oM 8 47, oP 9 (.mv (kI 0))] [[], [0], [0, 1], [0, 1, 2], [0], [0, 1, 2, 3, 4], [0, 1, 2, 3, 4], [5, 6], [5, 6], [], []] [2, 3, 4, 11, 41, 42, 43, 44, 45, 46, 47])
 (.ret [6, 7, 8, 9]))) .skip))
 (.seq (.ops [] [oP 48 (.fad false 12 1 (.t 4)), oN (.st 1 (.t 48) (kI 1))] [2, 11, 39, 48])
 (.seq (.draw [] [oP 49 (.ld true 11 (.t 3)), oP 50 (.ld true 63 (.t 4)), oN (.st 11 (.t 6) (.t 49)), oN (.st 63 (.t 7) (.t 50)), oP 8 (.mv (.c (.xsl []))), oP 9 (.mv (kI 0))] [[], [0], [1], [], [], []] [3, 4, 49, 50])
 (.ret [6, 7, 8, 9]))))) .skip))
 (.seq (.ops [] [oP 52 (.ld true 11 (.t 3)), oP 53 (.fad false 60 1 (.t 4)), oP 54 (.ld false 1 (.t 53)), oP 55 (.fad false 60 1 (.t 4)), oP 56 (.ld false 1 (.t 55)), oP 57 (.bin .add (.t 56) (kI 1)), oP 58 (.call N_ref12_CAS [false, false, false, false, true] [.t 52, kI 1, .t 54, .t 57]), oM 51 58, oP 59 (.ext (.t 51) 0), oP 60 (.ext (.t 51) 1), oP 61 (.ext (.t 51) 2), oP 12 (.alloc (.agg [.xsl [], .xsl [], aI 0, aI 0, .xsl [], aI 0, .xsl [], .xsl [], aI 0, aI 0, aI 0])), oN (.st 11 (.t 12) (.t 59)), oM 13 60, oM 14 61] [3, 30, 51, 52, 53, 54, 55, 56, 57, 58, 59, 60, 61])
 (.seq (.seq (.ops [] [oM 62 14, oP 63 (.bin .neq (.t 62) (kI 0))] [62])
 (.cond (.t 63) (.seq (.ops [] [oM 64 14, oP 65 (.call N_ref18_Fail [false, true] [.t 64]), oP 66 (.ext (.t 65) 0), oP 67 (.ext (.t 65) 1), oP 68 (.ext (.t 65) 2), oP 69 (.ext (.t 65) 3), oN (.st 11 (.t 6) (.t 66)), oN (.st 63 (.t 7) (.t 67)), oM 8 68, oM 9 69] [2, 4, 11, 12, 13, 14, 63, 64, 65, 66, 67, 68, 69])
 (.ret [6, 7, 8, 9])) .skip))
 (.seq (.seq (.ops [] [oM 70 13, oP 71 (.un .not (.t 70))] [13, 14, 63, 70])
 (.cond (.t 71) (.seq (.ops [] [oP 72 (.fad false 12 1 (.t 4)), oN (.st 1 (.t 72) (kI 0))] [2, 11, 71, 72])
 (.seq (.draw [] [oP 73 (.ld true 11 (.t 12)), oP 74 (.ld true 63 (.t 4)), oN (.st 11 (.t 6) (.t 73)), oN (.st 63 (.t 7) (.t 74)), oP 8 (.mv (.c (.xsl []))), oP 9 (.mv (kI 0))] [[], [0], [1], [], [], []] [4, 12, 73, 74])
 (.ret [6, 7, 8, 9]))) .skip))
 (.seq (.ops [] [oP 75 (.fad false 60 1 (.t 4)), oP 76 (.ld false 1 (.t 75)), oP 77 (.bin .add (.t 76) (kI 1)), oP 78 (.fad false 5 1 (.t 11)), oN (.st 1 (.t 78) (.t 77))] [71, 75, 76, 77, 78])
 (.seq (.draw [] [oP 79 (.ld true 11 (.t 12)), oP 80 (.ld true 63 (.t 4)), oP 81 (.build [aI 0, aI 0, .xsl [], .xsl [], aI 0, aI 0, aI 0] []), oM 82 2, oP 83 (.call N_ref17_Next [false, false, false, true] [.t 80, .t 81, .t 82]), oP 84 (.ld true 10 (.t 11)), oP 85 (.bsl 1 10 (.agg [aI 0, aI 0, aI 0, aI 0, aI 0, aI 0, aI 0, .xsl [], aI 0, aI 0]) [(0, .t 84)]), oN (.st 11 (.t 6) (.t 79)), oN (.st 63 (.t 7) (.t 83)), oM 8 85, oP 9 (.mv (kI 0))] [[], [0], [0, 1], [0, 1, 2], [0], [0, 1, 2, 3, 4], [0, 1, 2, 3, 4], [5, 6], [5, 6], [], []] [2, 4, 11, 12, 79, 80, 81, 82, 83, 84, 85])
 (.ret [6, 7, 8, 9]))))))))))
def r_ref21_Step : List ARes := [.c 6 true 11, .c 7 true 63, .t 8, .t 9]
def fn_ref21_Step : AFn := .code c_ref21_Step r_ref21_Step 86 true
def c_ref22_Step : ACode :=
 (.seq (.ops [] [oP 3 (.box (.t 0)), oP 4 (.box (.t 1)), oP 6 (.alloc (.agg [.xsl [], .xsl [], aI 0, aI 0, .xsl [], aI 0, .xsl [], .xsl [], aI 0, aI 0, aI 0])), oP 7 (.alloc (.agg [aI 0, aI 0, aI 0, aI 0, aI 0, aI 0, aI 0, .xsl [], .xsl [], aI 0, .d (.bool false), aI 0, aI 0, aI 0, .xsl [], aI 0, aI 0, aI 0, aI 0, aI 0, aI 0, aI 0, aI 0, aI 0, aI 0, .xsl [], aI 0, aI 0, aI 0, aI 0, aI 0, aI 0, aI 0, aI 0, .xsl [], aI 0, .xsl [], .xsl [], aI 0, .xsl [], .xsl [], .xsl [], aI 0, .xsl [], .xsl [], .xsl [], .xsl [], aI 0, .xsl [], aI 0, .xsl [], .xsl [], aI 0, aI 0, aI 0, aI 0, aI 0, aI 0, aI 0, aI 0, aI 0, .xsl [], .xsl []])), oP 8 (.mv (.c (.xsl []))), oP 9 (.mv (kI 0))] [0, 1, 8, 9])
 (.seq (.seq (.ops [] [oP 18 (.ld true 63 (.t 4)), oP 19 (.call N_ref18_Guard [] [.t 18, kI 7, kI 7]), oM 10 19] [18, 19])
 (.seq (.ops [] [oM 20 10, oP 21 (.bin .neq (.t 20) (kI 0))] [20])
 (.cond (.t 21) (.seq (.ops [] [oM 22 10, oP 23 (.call N_ref18_Fail [false, true] [.t 22]), oP 24 (.ext (.t 23) 0), oP 25 (.ext (.t 23) 1), oP 26 (.ext (.t 23) 2), oP 27 (.ext (.t 23) 3), oN (.st 11 (.t 6) (.t 24)), oN (.st 63 (.t 7) (.t 25)), oM 8 26, oM 9 27] [2, 3, 4, 10, 21, 22, 23, 24, 25, 26, 27])
 (.ret [6, 7, 8, 9])) .skip)))
 (.seq (.seq (.ops [] [oP 28 (.fad false 12 1 (.t 4)), oP 29 (.ld false 1 (.t 28))] [10, 21, 28])
 (.block 0 (.seq (.ops [] [oP 69 (.bin .eql (.t 29) (kI 0)), oM 68 69] [69])
 (.cond (.t 68) (.seq (.ops [] [oP 71 (.ld true 11 (.t 3)), oP 72 (.call N_ref12_Load [] [.t 71, kI 1]), oM 70 72, oP 73 (.ext (.t 70) 0), oP 74 (.ext (.t 70) 1), oP 75 (.fad false 60 1 (.t 4)), oN (.st 1 (.t 75) (.t 73))] [2, 29, 68, 70, 71, 72, 73, 74, 75])
 (.ops [] [oP 76 (.fad false 61 1 (.t 4)), oN (.st 1 (.t 76) (.c (.xsl []))), oP 77 (.fad false 62 1 (.t 4)), oN (.st 1 (.t 77) (.c (.xsl []))), oP 78 (.fad false 12 1 (.t 4)), oN (.st 1 (.t 78) (kI 1))] [76, 77, 78])) (.seq (.ops [] [oP 80 (.bin .eql (.t 29) (kI 1)), oM 79 80] [68, 80])
 (.cond (.t 79) (.seq (.ops [] [oP 82 (.ld true 11 (.t 3)), oP 83 (.fad false 61 1 (.t 4)), oP 84 (.ld false 1 (.t 83)), oP 85 (.len (.t 84)), oP 86 (.call N_ref12_LoadStripe [] [.t 82, .t 85]), oM 81 86, oP 87 (.ext (.t 81) 0), oP 88 (.ext (.t 81) 1), oP 11 (.alloc (.d (.agg [.int .i64 0, .int .i64 0, .int .i64 0, .int .i64 0]))), oN (.st 4 (.t 11) (.t 87)), oM 12 88] [2, 29, 79, 81, 82, 83, 84, 85, 86, 87, 88])
 (.seq (.seq (.ops [] [oM 89 12, oP 90 (.bin .neq (.t 89) (kI 0))] [89])
 (.cond (.t 90) (.seq (.ops [] [oM 91 12, oP 92 (.call N_ref18_Fail [false, true] [.t 91]), oP 93 (.ext (.t 92) 0), oP 94 (.ext (.t 92) 1), oP 95 (.ext (.t 92) 2), oP 96 (.ext (.t 92) 3), oN (.st 11 (.t 6) (.t 93)), oN (.st 63 (.t 7) (.t 94)), oM 8 95, oM 9 96] [3, 4, 11, 12, 90, 91, 92, 93, 94, 95, 96])
 (.ret [6, 7, 8, 9])) .skip))
 (.seq (.draw [] [oP 97 (.fad false 61 1 (.t 4)), oP 98 (.ld false 1 (.t 97)), oP 99 (.app 4 (.c (.xsl [])) (.t 98)), oP 100 (.ld true 4 (.t 11)), oP 101 (.bsl 1 4 (.d (.agg [.int .i64 0, .int .i64 0, .int .i64 0, .int .i64 0])) [(0, .t 100)]), oP 102 (.app 4 (.t 99) (.t 101)), oP 103 (.fad false 61 1 (.t 4)), oN (.st 1 (.t 103) (.t 102))] [[], [], [], [0, 1, 2], [0, 1, 2], [], [], []] [11, 12, 90, 97, 98, 99, 100, 101, 102, 103])
 (.seq (.ops [] [oP 104 (.fad false 61 1 (.t 4)), oP 105 (.ld false 1 (.t 104)), oP 106 (.len (.t 105)), oP 107 (.fad true 15 8 (.t 4)), oP 108 (.fad false 0 1 (.t 107)), oP 109 (.ld false 1 (.t 108)), oP 110 (.bin .eql (.t 106) (.t 109))] [104, 105, 106, 107, 108, 109])
 (.cond (.t 110) (.seq (.ops [] [oP 111 (.fad false 12 1 (.t 4)), oN (.st 1 (.t 111) (kI 0))] [110, 111])
 (.seq (.ops [] [oP 112 (.fad false 61 1 (.t 4)), oP 113 (.ld false 1 (.t 112)), oP 114 (.call N_ref11_Quiet [] [.t 113])] [112, 113])
 (.cond (.t 114) (.ops [] [oP 115 (.fad false 12 1 (.t 4)), oN (.st 1 (.t 115) (kI 2))] [114, 115]) .skip))) .skip))))) (.seq (.ops [] [oP 117 (.bin .eql (.t 29) (kI 2)), oM 116 117] [29, 79, 117])
 (.cond (.t 116) (.seq (.ops [] [oP 119 (.ld true 11 (.t 3)), oP 120 (.fad false 62 1 (.t 4)), oP 121 (.ld false 1 (.t 120)), oP 122 (.len (.t 121)), oP 123 (.call N_ref12_LoadStripe [] [.t 119, .t 122]), oM 118 123, oP 124 (.ext (.t 118) 0), oP 125 (.ext (.t 118) 1), oP 13 (.alloc (.d (.agg [.int .i64 0, .int .i64 0, .int .i64 0, .int .i64 0]))), oN (.st 4 (.t 13) (.t 124)), oM 14 125] [116, 118, 119, 120, 121, 122, 123, 124, 125])
 (.seq (.seq (.ops [] [oM 126 14, oP 127 (.bin .neq (.t 126) (kI 0))] [126])
 (.cond (.t 127) (.seq (.ops [] [oM 128 14, oP 129 (.call N_ref18_Fail [false, true] [.t 128]), oP 130 (.ext (.t 129) 0), oP 131 (.ext (.t 129) 1), oP 132 (.ext (.t 129) 2), oP 133 (.ext (.t 129) 3), oN (.st 11 (.t 6) (.t 130)), oN (.st 63 (.t 7) (.t 131)), oM 8 132, oM 9 133] [2, 3, 4, 13, 14, 127, 128, 129, 130, 131, 132, 133])
 (.ret [6, 7, 8, 9])) .skip))
 (.seq (.seq (.ops [] [oP 134 (.fad false 62 1 (.t 4)), oP 135 (.ld false 1 (.t 134)), oP 136 (.len (.t 135)), oP 137 (.bin .eql (.t 136) (kI 0))] [14, 127, 134, 135, 136])
 (.cond (.t 137) (.ops [] [oM 138 2, oP 139 (.fad false 55 1 (.t 4)), oN (.st 1 (.t 139) (.t 138))] [2, 137, 138, 139]) .skip))
 (.seq (.draw [] [oP 140 (.fad false 62 1 (.t 4)), oP 141 (.ld false 1 (.t 140)), oP 142 (.app 4 (.c (.xsl [])) (.t 141)), oP 143 (.ld true 4 (.t 13)), oP 144 (.bsl 1 4 (.d (.agg [.int .i64 0, .int .i64 0, .int .i64 0, .int .i64 0])) [(0, .t 143)]), oP 145 (.app 4 (.t 142) (.t 144)), oP 146 (.fad false 62 1 (.t 4)), oN (.st 1 (.t 146) (.t 145))] [[], [], [], [0, 1, 2], [0, 1, 2], [], [], []] [2, 13, 137, 140, 141, 142, 143, 144, 145, 146])
 (.seq (.ops [] [oP 147 (.fad false 62 1 (.t 4)), oP 148 (.ld false 1 (.t 147)), oP 149 (.len (.t 148)), oP 150 (.fad true 15 8 (.t 4)), oP 151 (.fad false 0 1 (.t 150)), oP 152 (.ld false 1 (.t 151)), oP 153 (.bin .eql (.t 149) (.t 152))] [147, 148, 149, 150, 151, 152])
 (.cond (.t 153) (.seq (.ops [] [oP 154 (.fad false 12 1 (.t 4)), oN (.st 1 (.t 154) (kI 0))] [153, 154])
 (.seq (.ops [] [oP 155 (.fad false 61 1 (.t 4)), oP 156 (.ld false 1 (.t 155)), oP 157 (.fad false 62 1 (.t 4)), oP 158 (.ld false 1 (.t 157)), oP 159 (.call N_ref11_Same [] [.t 156, .t 158])] [155, 156, 157, 158])
 (.cond (.t 159) (.ops [] [oP 160 (.fad false 12 1 (.t 4)), oN (.st 1 (.t 160) (kI 3))] [159, 160]) .skip))) .skip)))))) (.seq (.ops [] [oP 31 (.ld true 11 (.t 3)), oP 32 (.call N_ref12_Load [] [.t 31, kI 1]), oM 30 32, oP 33 (.ext (.t 30) 0), oP 34 (.ext (.t 30) 1), oM 15 33, oM 16 34] [16, 30, 31, 32, 33, 34, 116])
 (.seq (.seq (.ops [] [oM 35 15, oP 36 (.fad false 60 1 (.t 4)), oP 37 (.ld false 1 (.t 36)), oP 38 (.bin .neq (.t 35) (.t 37))] [35, 36, 37])
 (.cond (.t 38) (.seq (.ops [] [oP 39 (.fad false 12 1 (.t 4)), oN (.st 1 (.t 39) (kI 0))] [2, 15, 38, 39])
 (.seq (.draw [] [oP 40 (.ld true 11 (.t 3)), oP 41 (.ld true 63 (.t 4)), oN (.st 11 (.t 6) (.t 40)), oN (.st 63 (.t 7) (.t 41)), oP 8 (.mv (.c (.xsl []))), oP 9 (.mv (kI 0))] [[], [0], [1], [], [], []] [3, 4, 40, 41])
 (.ret [6, 7, 8, 9]))) .skip))
 (.seq (.ops [] [oP 42 (.ld true 63 (.t 4)), oP 43 (.fad false 55 1 (.t 4)), oP 44 (.ld false 1 (.t 43)), oP 45 (.call N_ref18_Event [false, false, false, true] [.t 42, kI 8, .t 44]), oP 17 (.alloc (.agg [aI 0, aI 0, aI 0, aI 0, aI 0, aI 0, aI 0, .xsl [], aI 0, aI 0])), oN (.st 10 (.t 17) (.t 45))] [38, 42, 43, 44, 45])
 (.seq (.ops [] [oM 46 15, oP 47 (.fad false 5 1 (.t 17)), oN (.st 1 (.t 47) (.t 46))] [46, 47])
 (.seq (.ops [] [oP 49 (.fad false 61 1 (.t 4)), oP 50 (.ld false 1 (.t 49)), oM 51 15, oP 52 (.call N_ref11_Sum [] [.t 50, .t 51]), oM 48 52, oP 53 (.ext (.t 48) 0), oP 54 (.ext (.t 48) 1), oP 55 (.fad false 8 1 (.t 17)), oN (.st 1 (.t 55) (.t 53)), oP 56 (.fad false 9 1 (.t 17)), oN (.st 1 (.t 56) (.t 54))] [15, 48, 49, 50, 51, 52, 53, 54, 55, 56])
 (.seq (.draw [] [oP 57 (.ld true 11 (.t 3)), oP 58 (.ld true 63 (.t 4)), oP 59 (.fad false 8 1 (.t 17)), oP 60 (.ld false 1 (.t 59)), oP 61 (.fad false 9 1 (.t 17)), oP 62 (.ld false 1 (.t 61)), oP 63 (.build [aI 0, aI 0, .xsl [], .xsl [], aI 0, aI 0, aI 0] [(4, (1, .t 60)), (5, (1, .t 62))]), oM 64 2, oP 65 (.call N_ref17_Next [false, false, false, true] [.t 58, .t 63, .t 64]), oP 66 (.ld true 10 (.t 17)), oP 67 (.bsl 1 10 (.agg [aI 0, aI 0, aI 0, aI 0, aI 0, aI 0, aI 0, .xsl [], aI 0, aI 0]) [(0, .t 66)]), oN (.st 11 (.t 6) (.t 57)), oN (.st 63 (.t 7) (.t 65)), oM 8 67, oP 9 (.mv (kI 0))] [[], [0], [0, 1], [0, 1], [0, 1, 2, 3], [0, 1, 2, 3], [0, 1], [0, 1, 2, 3, 4, 5, 6], [0], [0, 1, 2, 3, 4, 5, 6, 7, 8], [0, 1, 2, 3, 4, 5, 6, 7, 8], [9, 10], [9, 10], [], []] [2, 3, 4, 17, 57, 58, 59, 60, 61, 62, 63, 64, 65, 66, 67])
 (.ret [6, 7, 8, 9])))))))))))))))
 (.seq (.draw [] [oP 161 (.ld true 11 (.t 3)), oP 162 (.ld true 63 (.t 4)), oN (.st 11 (.t 6) (.t 161)), oN (.st 63 (.t 7) (.t 162)), oP 8 (.mv (.c (.xsl []))), oP 9 (.mv (kI 0))] [[], [0], [1], [], [], []] [3, 4, 110, 114, 153, 159, 161, 162])
 (.ret [6, 7, 8, 9])))))
def r_ref22_Step : List ARes := [.c 6 true 11, .c 7 true 63, .t 8, .t 9]
def fn_ref22_Step : AFn := .code c_ref22_Step r_ref22_Step 163 true
def c_ref23_Step : ACode :=
 (.seq (.ops [] [oP 3 (.box (.t 0)), oP 4 (.box (.t 1)), oP 6 (.alloc (.agg [.xsl [], .xsl [], aI 0, aI 0, .xsl [], aI 0, .xsl [], .xsl [], aI 0, aI 0, aI 0])), oP 7 (.alloc (.agg [aI 0, aI 0, aI 0, aI 0, aI 0, aI 0, aI 0, .xsl [], .xsl [], aI 0, .d (.bool false), aI 0, aI 0, aI 0, .xsl [], aI 0, aI 0, aI 0, aI 0, aI 0, aI 0, aI 0, aI 0, aI 0, aI 0, .xsl [], aI 0, aI 0, aI 0, aI 0, aI 0, aI 0, aI 0, aI 0, .xsl [], aI 0, .xsl [], .xsl [], aI 0, .xsl [], .xsl [], .xsl [], aI 0, .xsl [], .xsl [], .xsl [], .xsl [], aI 0, .xsl [], aI 0, .xsl [], .xsl [], aI 0, aI 0, aI 0, aI 0, aI 0, aI 0, aI 0, aI 0, aI 0, .xsl [], .xsl []])), oP 8 (.mv (.c (.xsl []))), oP 9 (.mv (kI 0))] [0, 1, 8, 9])
 (.seq (.seq (.ops [] [oP 19 (.ld true 63 (.t 4)), oP 20 (.call N_ref18_Guard [] [.t 19, kI 8, kI 8]), oM 10 20] [19, 20])
 (.seq (.ops [] [oM 21 10, oP 22 (.bin .neq (.t 21) (kI 0))] [21])
 (.cond (.t 22) (.seq (.ops [] [oM 23 10, oP 24 (.call N_ref18_Fail [false, true] [.t 23]), oP 25 (.ext (.t 24) 0), oP 26 (.ext (.t 24) 1), oP 27 (.ext (.t 24) 2), oP 28 (.ext (.t 24) 3), oN (.st 11 (.t 6) (.t 25)), oN (.st 63 (.t 7) (.t 26)), oM 8 27, oM 9 28] [2, 3, 4, 10, 22, 23, 24, 25, 26, 27, 28])
 (.ret [6, 7, 8, 9])) .skip)))
 (.seq (.seq (.ops [] [oP 29 (.fad false 12 1 (.t 4)), oP 30 (.ld false 1 (.t 29)), oP 31 (.bin .eql (.t 30) (kI 0))] [10, 22, 29, 30])
 (.cond (.t 31) (.seq (.ops [] [oP 32 (.ld true 11 (.t 3)), oP 33 (.call N_ref12_LoadDir [false, true] [.t 32]), oP 34 (.fad true 49 3 (.t 4)), oN (.st 3 (.t 34) (.t 33))] [2, 31, 32, 33, 34])
 (.seq (.ops [] [oP 35 (.fad true 49 3 (.t 4)), oP 36 (.ld true 3 (.t 35)), oP 37 (.fad true 1 8 (.t 4)), oP 38 (.fad false 1 1 (.t 37)), oP 39 (.ld false 1 (.t 38)), oP 40 (.call N_ref19_Home [] [.t 36, .t 39]), oP 41 (.fad false 54 1 (.t 4)), oN (.st 1 (.t 41) (.t 40))] [35, 36, 37, 38, 39, 40, 41])
 (.seq (.draw [] [oP 42 (.ld true 11 (.t 3)), oP 43 (.ld true 63 (.t 4)), oP 44 (.fad false 54 1 (.t 4)), oP 45 (.ld false 1 (.t 44)), oP 46 (.fad true 15 8 (.t 4)), oP 47 (.fad false 0 1 (.t 46)), oP 48 (.ld false 1 (.t 47)), oP 49 (.bsl 2 1 (aI 0) [(0, .t 45), (1, .t 48)]), oP 50 (.call N_ref18_Section [false, false, false, true] [.t 43, .t 49, kI 1]), oN (.st 11 (.t 6) (.t 42)), oN (.st 63 (.t 7) (.t 50)), oP 8 (.mv (.c (.xsl []))), oP 9 (.mv (kI 0))] [[], [0], [0, 1], [0, 1], [0, 1, 2, 3], [0, 1, 2, 3], [0, 1, 2, 3], [0, 1], [0], [], [], [], []] [3, 4, 42, 43, 44, 45, 46, 47, 48, 49, 50])
 (.ret [6, 7, 8, 9])))) .skip))
 (.seq (.ops [] [oP 52 (.ld true 11 (.t 3)), oP 53 (.ld true 63 (.t 4)), oM 54 2, oP 55 (.call N_ref18_Go [false, false, false, true] [.t 52, .t 53, .t 54]), oM 51 55, oP 56 (.ext (.t 51) 0), oP 57 (.ext (.t 51) 1), oP 58 (.ext (.t 51) 2), oP 59 (.ext (.t 51) 3), oP 60 (.ext (.t 51) 4), oP 11 (.alloc (.agg [.xsl [], .xsl [], aI 0, aI 0, .xsl [], aI 0, .xsl [], .xsl [], aI 0, aI 0, aI 0])), oN (.st 11 (.t 11) (.t 56)), oN (.st 63 (.t 4) (.t 57)), oM 12 58, oM 13 59, oM 14 60] [3, 31, 51, 52, 53, 54, 55, 56, 57, 58, 59, 60])
 (.seq (.seq (.ops [] [oM 61 14, oP 62 (.bin .neq (.t 61) (kI 0))] [61])
 (.cond (.t 62) (.seq (.ops [] [oM 63 14, oP 64 (.call N_ref18_Fail [false, true] [.t 63]), oP 65 (.ext (.t 64) 0), oP 66 (.ext (.t 64) 1), oP 67 (.ext (.t 64) 2), oP 68 (.ext (.t 64) 3), oN (.st 11 (.t 6) (.t 65)), oN (.st 63 (.t 7) (.t 66)), oM 8 67, oM 9 68] [2, 4, 11, 12, 13, 14, 62, 63, 64, 65, 66, 67, 68])
 (.ret [6, 7, 8, 9])) .skip))
 (.seq (.seq (.ops [] [oM 69 12] [12, 14, 62])
 (.cond (.t 69) (.seq (.ops [] [oP 71 (.ld true 63 (.t 4)), oP 72 (.call N_ref23_decide [false, true] [.t 71]), oM 70 72, oP 73 (.ext (.t 70) 0), oP 74 (.ext (.t 70) 1), oP 15 (.alloc (.agg [aI 0, aI 0, aI 0, aI 0, aI 0, aI 0, aI 0, .xsl [], .xsl [], aI 0, .d (.bool false), aI 0, aI 0, aI 0, .xsl [], aI 0, aI 0, aI 0, aI 0, aI 0, aI 0, aI 0, aI 0, aI 0, aI 0, .xsl [], aI 0, aI 0, aI 0, aI 0, aI 0, aI 0, aI 0, aI 0, .xsl [], aI 0, .xsl [], .xsl [], aI 0, .xsl [], .xsl [], .xsl [], aI 0, .xsl [], .xsl [], .xsl [], .xsl [], aI 0, .xsl [], aI 0, .xsl [], .xsl [], aI 0, aI 0, aI 0, aI 0, aI 0, aI 0, aI 0, aI 0, aI 0, .xsl [], .xsl []])), oN (.st 63 (.t 15) (.t 73)), oM 16 74] [2, 4, 13, 69, 70, 71, 72, 73, 74])
 (.seq (.draw [] [oP 75 (.ld true 11 (.t 11)), oP 76 (.ld true 63 (.t 15)), oM 77 16, oN (.st 11 (.t 6) (.t 75)), oN (.st 63 (.t 7) (.t 76)), oM 8 77, oP 9 (.mv (kI 0))] [[], [0], [0, 1], [1, 2], [2], [], []] [11, 15, 16, 75, 76, 77])
 (.ret [6, 7, 8, 9]))) .skip))
 (.seq (.seq (.ops [] [oM 78 13, oP 79 (.un .not (.t 78))] [13, 69, 78])
 (.cond (.t 79) (.seq (.draw [] [oP 80 (.ld true 11 (.t 11)), oP 81 (.ld true 63 (.t 4)), oN (.st 11 (.t 6) (.t 80)), oN (.st 63 (.t 7) (.t 81)), oP 8 (.mv (.c (.xsl []))), oP 9 (.mv (kI 0))] [[], [0], [1], [], [], []] [2, 4, 11, 79, 80, 81])
 (.ret [6, 7, 8, 9])) .skip))
 (.seq (.ops [] [oP 82 (.fad true 23 26 (.t 4)), oP 83 (.fad false 11 1 (.t 82)), oP 84 (.ld false 1 (.t 83)), oP 85 (.iad 8 (.t 84) (kI 0)), oP 86 (.ld true 8 (.t 85)), oP 17 (.alloc (.agg [.d (.bool false), aI 0, aI 0, .xsl [], aI 0, aI 0, .xsl [], .xsl []])), oN (.st 8 (.t 17) (.t 86))] [79, 82, 83, 84, 85, 86])
 (.seq (.seq (.ops [] [oP 87 (.fad false 0 1 (.t 17)), oP 88 (.ld false 1 (.t 87)), oP 89 (.un .not (.t 88))] [17, 87, 88])
 (.cond (.t 89) (.seq (.ops [] [oP 90 (.fad false 12 1 (.t 4)), oN (.st 1 (.t 90) (kI 0))] [2, 89, 90])
 (.seq (.draw [] [oP 91 (.ld true 11 (.t 11)), oP 92 (.ld true 63 (.t 4)), oN (.st 11 (.t 6) (.t 91)), oN (.st 63 (.t 7) (.t 92)), oP 8 (.mv (.c (.xsl []))), oP 9 (.mv (kI 0))] [[], [0], [1], [], [], []] [4, 11, 91, 92])
 (.ret [6, 7, 8, 9]))) .skip))
 (.seq (.ops [] [oP 93 (.fad true 23 26 (.t 4)), oP 94 (.fad true 18 6 (.t 93)), oP 95 (.fad false 4 1 (.t 94)), oP 96 (.ld false 1 (.t 95)), oP 97 (.len (.t 96)), oP 98 (.build [aI 0, aI 0, .xsl [], .xsl [], aI 0, aI 0, aI 0] [(6, (1, .t 97))]), oP 18 (.alloc (.agg [aI 0, aI 0, .xsl [], .xsl [], aI 0, aI 0, aI 0])), oN (.st 7 (.t 18) (.t 98))] [89, 93, 94, 95, 96, 97, 98])
 (.seq (.seq (.ops [] [oP 99 (.ld true 63 (.t 4)), oP 100 (.call N_ref23_room [] [.t 99]), oP 101 (.bin .eql (.t 100) (kI 0))] [99, 100])
 (.cond (.t 101) (.ops [] [oP 102 (.fad false 0 1 (.t 18)), oN (.st 1 (.t 102) (kI 3))] [101, 102]) .skip))
 (.seq (.draw [] [oP 103 (.ld true 11 (.t 11)), oP 104 (.ld true 63 (.t 4)), oP 105 (.ld true 7 (.t 18)), oM 106 2, oP 107 (.call N_ref17_Next [false, false, false, true] [.t 104, .t 105, .t 106]), oN (.st 11 (.t 6) (.t 103)), oN (.st 63 (.t 7) (.t 107)), oP 8 (.mv (.c (.xsl []))), oP 9 (.mv (kI 0))] [[], [0], [0, 1], [0, 1, 2], [0], [], [], [], []] [2, 4, 11, 18, 101, 103, 104, 105, 106, 107])
 (.ret [6, 7, 8, 9])))))))))))))
def r_ref23_Step : List ARes := [.c 6 true 11, .c 7 true 63, .t 8, .t 9]
def fn_ref23_Step : AFn := .code c_ref23_Step r_ref23_Step 108 true
def c_ref24_Step : ACode :=
 (.seq (.ops [] [oP 3 (.box (.t 0)), oP 4 (.box (.t 1)), oP 6 (.alloc (.agg [.xsl [], .xsl [], aI 0, aI 0, .xsl [], aI 0, .xsl [], .xsl [], aI 0, aI 0, aI 0])), oP 7 (.alloc (.agg [aI 0, aI 0, aI 0, aI 0, aI 0, aI 0, aI 0, .xsl [], .xsl [], aI 0, .d (.bool false), aI 0, aI 0, aI 0, .xsl [], aI 0, aI 0, aI 0, aI 0, aI 0, aI 0, aI 0, aI 0, aI 0, aI 0, .xsl [], aI 0, aI 0, aI 0, aI 0, aI 0, aI 0, aI 0, aI 0, .xsl [], aI 0, .xsl [], .xsl [], aI 0, .xsl [], .xsl [], .xsl [], aI 0, .xsl [], .xsl [], .xsl [], .xsl [], aI 0, .xsl [], aI 0, .xsl [], .xsl [], aI 0, aI 0, aI 0, aI 0, aI 0, aI 0, aI 0, aI 0, aI 0, .xsl [], .xsl []])), oP 8 (.mv (.c (.xsl []))), oP 9 (.mv (kI 0))] [0, 1, 8, 9])
 (.seq (.seq (.ops [] [oP 21 (.ld true 63 (.t 4)), oP 22 (.call N_ref18_Guard [] [.t 21, kI 9, kI 9]), oM 10 22] [21, 22])
 (.seq (.ops [] [oM 23 10, oP 24 (.bin .neq (.t 23) (kI 0))] [23])
 (.cond (.t 24) (.seq (.ops [] [oM 25 10, oP 26 (.call N_ref18_Fail [false, true] [.t 25]), oP 27 (.ext (.t 26) 0), oP 28 (.ext (.t 26) 1), oP 29 (.ext (.t 26) 2), oP 30 (.ext (.t 26) 3), oN (.st 11 (.t 6) (.t 27)), oN (.st 63 (.t 7) (.t 28)), oM 8 29, oM 9 30] [2, 3, 4, 10, 24, 25, 26, 27, 28, 29, 30])
 (.ret [6, 7, 8, 9])) .skip)))
 (.seq (.seq (.ops [] [oP 31 (.fad false 12 1 (.t 4)), oP 32 (.ld false 1 (.t 31)), oP 33 (.bin .eql (.t 32) (kI 0))] [10, 24, 31, 32])
 (.cond (.t 33) (.draw [] [oP 34 (.ld true 63 (.t 4)), oP 35 (.fad true 1 8 (.t 4)), oP 36 (.fad false 4 1 (.t 35)), oP 37 (.ld false 1 (.t 36)), oP 38 (.fad true 1 8 (.t 4)), oP 39 (.fad false 5 1 (.t 38)), oP 40 (.ld false 1 (.t 39)), oP 41 (.call N_ref18_Pair [false, false, true] [.t 37, .t 40]), oP 42 (.call N_ref18_Section [false, false, false, true] [.t 34, .t 41, kI 1]), oN (.st 63 (.t 4) (.t 42))] [[], [0], [0], [0], [0, 1, 2, 3], [0, 1, 2, 3], [0, 1, 2, 3], [0], [], []] [33, 34, 35, 36, 37, 38, 39, 40, 41, 42]) .skip))
 (.seq (.ops [] [oP 44 (.ld true 11 (.t 3)), oP 45 (.ld true 63 (.t 4)), oM 46 2, oP 47 (.call N_ref18_Go [false, false, false, true] [.t 44, .t 45, .t 46]), oM 43 47, oP 48 (.ext (.t 43) 0), oP 49 (.ext (.t 43) 1), oP 50 (.ext (.t 43) 2), oP 51 (.ext (.t 43) 3), oP 52 (.ext (.t 43) 4), oP 11 (.alloc (.agg [.xsl [], .xsl [], aI 0, aI 0, .xsl [], aI 0, .xsl [], .xsl [], aI 0, aI 0, aI 0])), oN (.st 11 (.t 11) (.t 48)), oN (.st 63 (.t 4) (.t 49)), oM 12 50, oM 13 51, oM 14 52] [3, 33, 43, 44, 45, 46, 47, 48, 49, 50, 51, 52])
 (.seq (.seq (.ops [] [oM 53 14, oP 54 (.bin .neq (.t 53) (kI 0))] [53])
 (.cond (.t 54) (.seq (.ops [] [oM 55 14, oP 56 (.call N_ref18_Fail [false, true] [.t 55]), oP 57 (.ext (.t 56) 0), oP 58 (.ext (.t 56) 1), oP 59 (.ext (.t 56) 2), oP 60 (.ext (.t 56) 3), oN (.st 11 (.t 6) (.t 57)), oN (.st 63 (.t 7) (.t 58)), oM 8 59, oM 9 60] [2, 4, 11, 12, 13, 14, 54, 55, 56, 57, 58, 59, 60])
 (.ret [6, 7, 8, 9])) .skip))
 (.seq (.seq (.ops [] [oM 61 12] [12, 14, 54])
 (.cond (.t 61) (.seq (.ops [] [oP 63 (.ld true 63 (.t 4)), oP 64 (.call N_ref24_plan [false, true] [.t 63]), oM 62 64, oP 65 (.ext (.t 62) 0), oP 66 (.ext (.t 62) 1), oP 67 (.ext (.t 62) 2), oP 15 (.alloc (.agg [.xsl [], aI 0, .xsl [], .xsl [], .xsl [], .xsl []])), oP 16 (.alloc (.agg [aI 0, aI 0, .xsl [], .xsl [], aI 0, aI 0, aI 0])), oN (.st 6 (.t 15) (.t 65)), oN (.st 7 (.t 16) (.t 66)), oM 17 67] [2, 13, 16, 61, 62, 63, 64, 65, 66, 67])
 (.seq (.draw [] [oP 68 (.ld true 11 (.t 11)), oP 69 (.ld true 63 (.t 4)), oP 70 (.ld true 6 (.t 15)), oP 71 (.call N_ref18_Decide [false, false, true] [.t 69, .t 70]), oM 72 17, oN (.st 11 (.t 6) (.t 68)), oN (.st 63 (.t 7) (.t 71)), oM 8 72, oP 9 (.mv (kI 0))] [[], [0], [0, 1], [0], [0, 1, 2, 3], [4], [4], [], []] [4, 11, 15, 17, 68, 69, 70, 71, 72])
 (.ret [6, 7, 8, 9]))) .skip))
 (.seq (.seq (.ops [] [oM 73 13, oP 74 (.un .not (.t 73))] [13, 61, 73])
 (.cond (.t 74) (.seq (.draw [] [oP 75 (.ld true 11 (.t 11)), oP 76 (.ld true 63 (.t 4)), oN (.st 11 (.t 6) (.t 75)), oN (.st 63 (.t 7) (.t 76)), oP 8 (.mv (.c (.xsl []))), oP 9 (.mv (kI 0))] [[], [0], [1], [], [], []] [2, 4, 11, 74, 75, 76])
 (.ret [6, 7, 8, 9])) .skip))
 (.seq (.ops [] [oP 78 (.ld true 63 (.t 4)), oP 79 (.call N_ref24_plan [false, true] [.t 78]), oM 77 79, oP 80 (.ext (.t 77) 0), oP 81 (.ext (.t 77) 1), oP 82 (.ext (.t 77) 2), oP 18 (.alloc (.agg [.xsl [], aI 0, .xsl [], .xsl [], .xsl [], .xsl []])), oP 19 (.alloc (.agg [aI 0, aI 0, .xsl [], .xsl [], aI 0, aI 0, aI 0])), oN (.st 6 (.t 18) (.t 80)), oN (.st 7 (.t 19) (.t 81)), oM 20 82] [18, 20, 74, 77, 78, 79, 80, 81, 82])
 (.seq (.draw [] [oP 83 (.ld true 11 (.t 11)), oP 84 (.ld true 63 (.t 4)), oP 85 (.ld true 7 (.t 19)), oM 86 2, oP 87 (.call N_ref17_Next [false, false, false, true] [.t 84, .t 85, .t 86]), oN (.st 11 (.t 6) (.t 83)), oN (.st 63 (.t 7) (.t 87)), oP 8 (.mv (.c (.xsl []))), oP 9 (.mv (kI 0))] [[], [0], [0, 1], [0, 1, 2], [0], [], [], [], []] [2, 4, 11, 19, 83, 84, 85, 86, 87])
 (.ret [6, 7, 8, 9]))))))))))
def r_ref24_Step : List ARes := [.c 6 true 11, .c 7 true 63, .t 8, .t 9]
def fn_ref24_Step : AFn := .code c_ref24_Step r_ref24_Step 88 true
def c_ref25_Step : ACode :=
 (.seq (.ops [] [oP 3 (.box (.t 0)), oP 4 (.box (.t 1)), oP 6 (.alloc (.agg [.xsl [], .xsl [], aI 0, aI 0, .xsl [], aI 0, .xsl [], .xsl [], aI 0, aI 0, aI 0])), oP 7 (.alloc (.agg [aI 0, aI 0, aI 0, aI 0, aI 0, aI 0, aI 0, .xsl [], .xsl [], aI 0, .d (.bool false), aI 0, aI 0, aI 0, .xsl [], aI 0, aI 0, aI 0, aI 0, aI 0, aI 0, aI 0, aI 0, aI 0, aI 0, .xsl [], aI 0, aI 0, aI 0, aI 0, aI 0, aI 0, aI 0, aI 0, .xsl [], aI 0, .xsl [], .xsl [], aI 0, .xsl [], .xsl [], .xsl [], aI 0, .xsl [], .xsl [], .xsl [], .xsl [], aI 0, .xsl [], aI 0, .xsl [], .xsl [], aI 0, aI 0, aI 0, aI 0, aI 0, aI 0, aI 0, aI 0, aI 0, .xsl [], .xsl []])), oP 8 (.mv (.c (.xsl []))), oP 9 (.mv (kI 0))] [0, 1, 8, 9])
 (.seq (.seq (.ops [] [oP 21 (.ld true 63 (.t 4)), oP 22 (.call N_ref18_Guard [] [.t 21, kI 10, kI 10]), oM 10 22] [21, 22])
 (.seq (.ops [] [oM 23 10, oP 24 (.bin .neq (.t 23) (kI 0))] [23])
 (.cond (.t 24) (.seq (.ops [] [oM 25 10, oP 26 (.call N_ref18_Fail [false, true] [.t 25]), oP 27 (.ext (.t 26) 0), oP 28 (.ext (.t 26) 1), oP 29 (.ext (.t 26) 2), oP 30 (.ext (.t 26) 3), oN (.st 11 (.t 6) (.t 27)), oN (.st 63 (.t 7) (.t 28)), oM 8 29, oM 9 30] [2, 3, 4, 10, 24, 25, 26, 27, 28, 29, 30])
 (.ret [6, 7, 8, 9])) .skip)))
 (.seq (.seq (.ops [] [oP 31 (.fad false 12 1 (.t 4)), oP 32 (.ld false 1 (.t 31)), oP 33 (.bin .eql (.t 32) (kI 0))] [10, 24, 31, 32])
 (.cond (.t 33) (.draw [] [oP 34 (.ld true 63 (.t 4)), oP 35 (.fad true 1 8 (.t 4)), oP 36 (.fad false 4 1 (.t 35)), oP 37 (.ld false 1 (.t 36)), oP 38 (.fad true 1 8 (.t 4)), oP 39 (.fad false 5 1 (.t 38)), oP 40 (.ld false 1 (.t 39)), oP 41 (.call N_ref18_Pair [false, false, true] [.t 37, .t 40]), oP 42 (.call N_ref18_Section [false, false, false, true] [.t 34, .t 41, kI 1]), oN (.st 63 (.t 4) (.t 42))] [[], [0], [0], [0], [0, 1, 2, 3], [0, 1, 2, 3], [0, 1, 2, 3], [0], [], []] [33, 34, 35, 36, 37, 38, 39, 40, 41, 42]) .skip))
 (.seq (.ops [] [oP 44 (.ld true 11 (.t 3)), oP 45 (.ld true 63 (.t 4)), oM 46 2, oP 47 (.call N_ref18_Go [false, false, false, true] [.t 44, .t 45, .t 46]), oM 43 47, oP 48 (.ext (.t 43) 0), oP 49 (.ext (.t 43) 1), oP 50 (.ext (.t 43) 2), oP 51 (.ext (.t 43) 3), oP 52 (.ext (.t 43) 4), oP 11 (.alloc (.agg [.xsl [], .xsl [], aI 0, aI 0, .xsl [], aI 0, .xsl [], .xsl [], aI 0, aI 0, aI 0])), oN (.st 11 (.t 11) (.t 48)), oN (.st 63 (.t 4) (.t 49)), oM 12 50, oM 13 51, oM 14 52] [3, 33, 43, 44, 45, 46, 47, 48, 49, 50, 51, 52])
 (.seq (.seq (.ops [] [oM 53 14, oP 54 (.bin .neq (.t 53) (kI 0))] [53])
 (.cond (.t 54) (.seq (.ops [] [oM 55 14, oP 56 (.call N_ref18_Fail [false, true] [.t 55]), oP 57 (.ext (.t 56) 0), oP 58 (.ext (.t 56) 1), oP 59 (.ext (.t 56) 2), oP 60 (.ext (.t 56) 3), oN (.st 11 (.t 6) (.t 57)), oN (.st 63 (.t 7) (.t 58)), oM 8 59, oM 9 60] [2, 4, 11, 12, 13, 14, 54, 55, 56, 57, 58, 59, 60])
 (.ret [6, 7, 8, 9])) .skip))
 (.seq (.seq (.ops [] [oM 61 12] [12, 14, 54])
 (.cond (.t 61) (.seq (.ops [] [oP 63 (.ld true 63 (.t 4)), oP 64 (.call N_ref25_plan [false, true] [.t 63]), oM 62 64, oP 65 (.ext (.t 62) 0), oP 66 (.ext (.t 62) 1), oP 67 (.ext (.t 62) 2), oP 15 (.alloc (.agg [.xsl [], aI 0, .xsl [], .xsl [], .xsl [], .xsl []])), oP 16 (.alloc (.agg [aI 0, aI 0, .xsl [], .xsl [], aI 0, aI 0, aI 0])), oN (.st 6 (.t 15) (.t 65)), oN (.st 7 (.t 16) (.t 66)), oM 17 67] [2, 13, 16, 61, 62, 63, 64, 65, 66, 67])
 (.seq (.draw [] [oP 68 (.ld true 11 (.t 11)), oP 69 (.ld true 63 (.t 4)), oP 70 (.ld true 6 (.t 15)), oP 71 (.call N_ref18_Decide [false, false, true] [.t 69, .t 70]), oM 72 17, oN (.st 11 (.t 6) (.t 68)), oN (.st 63 (.t 7) (.t 71)), oM 8 72, oP 9 (.mv (kI 0))] [[], [0], [0, 1], [0], [0, 1, 2, 3], [4], [4], [], []] [4, 11, 15, 17, 68, 69, 70, 71, 72])
 (.ret [6, 7, 8, 9]))) .skip))
 (.seq (.seq (.ops [] [oM 73 13, oP 74 (.un .not (.t 73))] [13, 61, 73])
 (.cond (.t 74) (.seq (.draw [] [oP 75 (.ld true 11 (.t 11)), oP 76 (.ld true 63 (.t 4)), oN (.st 11 (.t 6) (.t 75)), oN (.st 63 (.t 7) (.t 76)), oP 8 (.mv (.c (.xsl []))), oP 9 (.mv (kI 0))] [[], [0], [1], [], [], []] [2, 4, 11, 74, 75, 76])
 (.ret [6, 7, 8, 9])) .skip))
 (.seq (.ops [] [oP 78 (.ld true 63 (.t 4)), oP 79 (.call N_ref25_plan [false, true] [.t 78]), oM 77 79, oP 80 (.ext (.t 77) 0), oP 81 (.ext (.t 77) 1), oP 82 (.ext (.t 77) 2), oP 18 (.alloc (.agg [.xsl [], aI 0, .xsl [], .xsl [], .xsl [], .xsl []])), oP 19 (.alloc (.agg [aI 0, aI 0, .xsl [], .xsl [], aI 0, aI 0, aI 0])), oN (.st 6 (.t 18) (.t 80)), oN (.st 7 (.t 19) (.t 81)), oM 20 82] [18, 20, 74, 77, 78, 79, 80, 81, 82])
 (.seq (.draw [] [oP 83 (.ld true 11 (.t 11)), oP 84 (.ld true 63 (.t 4)), oP 85 (.ld true 7 (.t 19)), oM 86 2, oP 87 (.call N_ref17_Next [false, false, false, true] [.t 84, .t 85, .t 86]), oN (.st 11 (.t 6) (.t 83)), oN (.st 63 (.t 7) (.t 87)), oP 8 (.mv (.c (.xsl []))), oP 9 (.mv (kI 0))] [[], [0], [0, 1], [0, 1, 2], [0], [], [], [], []] [2, 4, 11, 19, 83, 84, 85, 86, 87])
 (.ret [6, 7, 8, 9]))))))))))
def r_ref25_Step : List ARes := [.c 6 true 11, .c 7 true 63, .t 8, .t 9]
def fn_ref25_Step : AFn := .code c_ref25_Step r_ref25_Step 88 true
def c_ref26_Step : ACode :=
 (.seq (.ops [] [oP 3 (.box (.t 0)), oP 4 (.box (.t 1)), oP 6 (.alloc (.agg [.xsl [], .xsl [], aI 0, aI 0, .xsl [], aI 0, .xsl [], .xsl [], aI 0, aI 0, aI 0])), oP 7 (.alloc (.agg [aI 0, aI 0, aI 0, aI 0, aI 0, aI 0, aI 0, .xsl [], .xsl [], aI 0, .d (.bool false), aI 0, aI 0, aI 0, .xsl [], aI 0, aI 0, aI 0, aI 0, aI 0, aI 0, aI 0, aI 0, aI 0, aI 0, .xsl [], aI 0, aI 0, aI 0, aI 0, aI 0, aI 0, aI 0, aI 0, .xsl [], aI 0, .xsl [], .xsl [], aI 0, .xsl [], .xsl [], .xsl [], aI 0, .xsl [], .xsl [], .xsl [], .xsl [], aI 0, .xsl [], aI 0, .xsl [], .xsl [], aI 0, aI 0, aI 0, aI 0, aI 0, aI 0, aI 0, aI 0, aI 0, .xsl [], .xsl []])), oP 8 (.mv (.c (.xsl []))), oP 9 (.mv (kI 0))] [0, 1, 8, 9])
 (.seq (.seq (.ops [] [oP 21 (.ld true 63 (.t 4)), oP 22 (.call N_ref18_Guard [] [.t 21, kI 11, kI 11]), oM 10 22] [21, 22])
 (.seq (.ops [] [oM 23 10, oP 24 (.bin .neq (.t 23) (kI 0))] [23])
 (.cond (.t 24) (.seq (.ops [] [oM 25 10, oP 26 (.call N_ref18_Fail [false, true] [.t 25]), oP 27 (.ext (.t 26) 0), oP 28 (.ext (.t 26) 1), oP 29 (.ext (.t 26) 2), oP 30 (.ext (.t 26) 3), oN (.st 11 (.t 6) (.t 27)), oN (.st 63 (.t 7) (.t 28)), oM 8 29, oM 9 30] [2, 3, 4, 10, 24, 25, 26, 27, 28, 29, 30])
 (.ret [6, 7, 8, 9])) .skip)))
 (.seq (.seq (.ops [] [oP 31 (.fad false 12 1 (.t 4)), oP 32 (.ld false 1 (.t 31)), oP 33 (.bin .eql (.t 32) (kI 0))] [10, 24, 31, 32])
 (.cond (.t 33) (.draw [] [oP 34 (.ld true 63 (.t 4)), oP 35 (.fad true 1 8 (.t 4)), oP 36 (.fad false 4 1 (.t 35)), oP 37 (.ld false 1 (.t 36)), oP 38 (.fad true 1 8 (.t 4)), oP 39 (.fad false 5 1 (.t 38)), oP 40 (.ld false 1 (.t 39)), oP 41 (.call N_ref18_Pair [false, false, true] [.t 37, .t 40]), oP 42 (.call N_ref18_Section [false, false, false, true] [.t 34, .t 41, kI 1]), oN (.st 63 (.t 4) (.t 42))] [[], [0], [0], [0], [0, 1, 2, 3], [0, 1, 2, 3], [0, 1, 2, 3], [0], [], []] [33, 34, 35, 36, 37, 38, 39, 40, 41, 42]) .skip))
 (.seq (.ops [] [oP 44 (.ld true 11 (.t 3)), oP 45 (.ld true 63 (.t 4)), oM 46 2, oP 47 (.call N_ref18_Go [false, false, false, true] [.t 44, .t 45, .t 46]), oM 43 47, oP 48 (.ext (.t 43) 0), oP 49 (.ext (.t 43) 1), oP 50 (.ext (.t 43) 2), oP 51 (.ext (.t 43) 3), oP 52 (.ext (.t 43) 4), oP 11 (.alloc (.agg [.xsl [], .xsl [], aI 0, aI 0, .xsl [], aI 0, .xsl [], .xsl [], aI 0, aI 0, aI 0])), oN (.st 11 (.t 11) (.t 48)), oN (.st 63 (.t 4) (.t 49)), oM 12 50, oM 13 51, oM 14 52] [3, 33, 43, 44, 45, 46, 47, 48, 49, 50, 51, 52])
 (.seq (.seq (.ops [] [oM 53 14, oP 54 (.bin .neq (.t 53) (kI 0))] [53])
 (.cond (.t 54) (.seq (.ops [] [oM 55 14, oP 56 (.call N_ref18_Fail [false, true] [.t 55]), oP 57 (.ext (.t 56) 0), oP 58 (.ext (.t 56) 1), oP 59 (.ext (.t 56) 2), oP 60 (.ext (.t 56) 3), oN (.st 11 (.t 6) (.t 57)), oN (.st 63 (.t 7) (.t 58)), oM 8 59, oM 9 60] [2, 4, 11, 12, 13, 14, 54, 55, 56, 57, 58, 59, 60])
 (.ret [6, 7, 8, 9])) .skip))
 (.seq (.seq (.ops [] [oM 61 12] [12, 14, 54])
 (.cond (.t 61) (.seq (.ops [] [oP 63 (.ld true 63 (.t 4)), oP 64 (.call N_ref26_plan [false, true] [.t 63]), oM 62 64, oP 65 (.ext (.t 62) 0), oP 66 (.ext (.t 62) 1), oP 67 (.ext (.t 62) 2), oP 15 (.alloc (.agg [.xsl [], aI 0, .xsl [], .xsl [], .xsl [], .xsl []])), oP 16 (.alloc (.agg [aI 0, aI 0, .xsl [], .xsl [], aI 0, aI 0, aI 0])), oN (.st 6 (.t 15) (.t 65)), oN (.st 7 (.t 16) (.t 66)), oM 17 67] [2, 13, 16, 61, 62, 63, 64, 65, 66, 67])
 (.seq (.draw [] [oP 68 (.ld true 11 (.t 11)), oP 69 (.ld true 63 (.t 4)), oP 70 (.ld true 6 (.t 15)), oP 71 (.call N_ref18_Decide [false, false, true] [.t 69, .t 70]), oM 72 17, oN (.st 11 (.t 6) (.t 68)), oN (.st 63 (.t 7) (.t 71)), oM 8 72, oP 9 (.mv (kI 0))] [[], [0], [0, 1], [0], [0, 1, 2, 3], [4], [4], [], []] [4, 11, 15, 17, 68, 69, 70, 71, 72])
 (.ret [6, 7, 8, 9]))) .skip))
 (.seq (.seq (.ops [] [oM 73 13, oP 74 (.un .not (.t 73))] [13, 61, 73])
 (.cond (.t 74) (.seq (.draw [] [oP 75 (.ld true 11 (.t 11)), oP 76 (.ld true 63 (.t 4)), oN (.st 11 (.t 6) (.t 75)), oN (.st 63 (.t 7) (.t 76)), oP 8 (.mv (.c (.xsl []))), oP 9 (.mv (kI 0))] [[], [0], [1], [], [], []] [2, 4, 11, 74, 75, 76])
 (.ret [6, 7, 8, 9])) .skip))
 (.seq (.ops [] [oP 78 (.ld true 63 (.t 4)), oP 79 (.call N_ref26_plan [false, true] [.t 78]), oM 77 79, oP 80 (.ext (.t 77) 0), oP 81 (.ext (.t 77) 1), oP 82 (.ext (.t 77) 2), oP 18 (.alloc (.agg [.xsl [], aI 0, .xsl [], .xsl [], .xsl [], .xsl []])), oP 19 (.alloc (.agg [aI 0, aI 0, .xsl [], .xsl [], aI 0, aI 0, aI 0])), oN (.st 6 (.t 18) (.t 80)), oN (.st 7 (.t 19) (.t 81)), oM 20 82] [18, 20, 74, 77, 78, 79, 80, 81, 82])
 (.seq (.draw [] [oP 83 (.ld true 11 (.t 11)), oP 84 (.ld true 63 (.t 4)), oP 85 (.ld true 7 (.t 19)), oM 86 2, oP 87 (.call N_ref17_Next [false, false, false, true] [.t 84, .t 85, .t 86]), oN (.st 11 (.t 6) (.t 83)), oN (.st 63 (.t 7) (.t 87)), oP 8 (.mv (.c (.xsl []))), oP 9 (.mv (kI 0))] [[], [0], [0, 1], [0, 1, 2], [0], [], [], [], []] [2, 4, 11, 19, 83, 84, 85, 86, 87])
 (.ret [6, 7, 8, 9]))))))))))
def r_ref26_Step : List ARes := [.c 6 true 11, .c 7 true 63, .t 8, .t 9]
def fn_ref26_Step : AFn := .code c_ref26_Step r_ref26_Step 88 true
def c_ref27_Step : ACode :=
 (.seq (.ops [] [oP 3 (.box (.t 0)), oP 4 (.box (.t 1)), oP 6 (.alloc (.agg [.xsl [], .xsl [], aI 0, aI 0, .xsl [], aI 0, .xsl [], .xsl [], aI 0, aI 0, aI 0])), oP 7 (.alloc (.agg [aI 0, aI 0, aI 0, aI 0, aI 0, aI 0, aI 0, .xsl [], .xsl [], aI 0, .d (.bool false), aI 0, aI 0, aI 0, .xsl [], aI 0, aI 0, aI 0, aI 0, aI 0, aI 0, aI 0, aI 0, aI 0, aI 0, .xsl [], aI 0, aI 0, aI 0, aI 0, aI 0, aI 0, aI 0, aI 0, .xsl [], aI 0, .xsl [], .xsl [], aI 0, .xsl [], .xsl [], .xsl [], aI 0, .xsl [], .xsl [], .xsl [], .xsl [], aI 0, .xsl [], aI 0, .xsl [], .xsl [], aI 0, aI 0, aI 0, aI 0, aI 0, aI 0, aI 0, aI 0, aI 0, .xsl [], .xsl []])), oP 8 (.mv (.c (.xsl []))), oP 9 (.mv (kI 0))] [0, 1, 8, 9])
 (.seq (.seq (.ops [] [oP 21 (.ld true 63 (.t 4)), oP 22 (.call N_ref18_Guard [] [.t 21, kI 12, kI 13]), oM 10 22] [21, 22])
 (.seq (.ops [] [oM 23 10, oP 24 (.bin .neq (.t 23) (kI 0))] [23])
 (.cond (.t 24) (.seq (.ops [] [oM 25 10, oP 26 (.call N_ref18_Fail [false, true] [.t 25]), oP 27 (.ext (.t 26) 0), oP 28 (.ext (.t 26) 1), oP 29 (.ext (.t 26) 2), oP 30 (.ext (.t 26) 3), oN (.st 11 (.t 6) (.t 27)), oN (.st 63 (.t 7) (.t 28)), oM 8 29, oM 9 30] [2, 3, 4, 10, 24, 25, 26, 27, 28, 29, 30])
 (.ret [6, 7, 8, 9])) .skip)))
 (.seq (.seq (.ops [] [oP 31 (.fad false 12 1 (.t 4)), oP 32 (.ld false 1 (.t 31)), oP 33 (.bin .eql (.t 32) (kI 0))] [10, 24, 31, 32])
 (.cond (.t 33) (.ops [] [oP 34 (.ld true 63 (.t 4)), oP 35 (.fad true 1 8 (.t 4)), oP 36 (.fad false 4 1 (.t 35)), oP 37 (.ld false 1 (.t 36)), oP 38 (.bsl 1 1 (aI 0) [(0, .t 37)]), oP 39 (.call N_ref18_Section [false, false, false, true] [.t 34, .t 38, kI 1]), oN (.st 63 (.t 4) (.t 39))] [33, 34, 35, 36, 37, 38, 39]) .skip))
 (.seq (.ops [] [oP 41 (.ld true 11 (.t 3)), oP 42 (.ld true 63 (.t 4)), oM 43 2, oP 44 (.call N_ref18_Go [false, false, false, true] [.t 41, .t 42, .t 43]), oM 40 44, oP 45 (.ext (.t 40) 0), oP 46 (.ext (.t 40) 1), oP 47 (.ext (.t 40) 2), oP 48 (.ext (.t 40) 3), oP 49 (.ext (.t 40) 4), oP 11 (.alloc (.agg [.xsl [], .xsl [], aI 0, aI 0, .xsl [], aI 0, .xsl [], .xsl [], aI 0, aI 0, aI 0])), oN (.st 11 (.t 11) (.t 45)), oN (.st 63 (.t 4) (.t 46)), oM 12 47, oM 13 48, oM 14 49] [3, 33, 40, 41, 42, 43, 44, 45, 46, 47, 48, 49])
 (.seq (.seq (.ops [] [oM 50 14, oP 51 (.bin .neq (.t 50) (kI 0))] [50])
 (.cond (.t 51) (.seq (.ops [] [oM 52 14, oP 53 (.call N_ref18_Fail [false, true] [.t 52]), oP 54 (.ext (.t 53) 0), oP 55 (.ext (.t 53) 1), oP 56 (.ext (.t 53) 2), oP 57 (.ext (.t 53) 3), oN (.st 11 (.t 6) (.t 54)), oN (.st 63 (.t 7) (.t 55)), oM 8 56, oM 9 57] [2, 4, 11, 12, 13, 14, 51, 52, 53, 54, 55, 56, 57])
 (.ret [6, 7, 8, 9])) .skip))
 (.seq (.seq (.ops [] [oM 58 12] [12, 14, 51])
 (.cond (.t 58) (.seq (.ops [] [oP 60 (.ld true 63 (.t 4)), oP 61 (.call N_ref27_plan [false, true] [.t 60]), oM 59 61, oP 62 (.ext (.t 59) 0), oP 63 (.ext (.t 59) 1), oP 64 (.ext (.t 59) 2), oP 15 (.alloc (.agg [.xsl [], aI 0, .xsl [], .xsl [], .xsl [], .xsl []])), oP 16 (.alloc (.agg [aI 0, aI 0, .xsl [], .xsl [], aI 0, aI 0, aI 0])), oN (.st 6 (.t 15) (.t 62)), oN (.st 7 (.t 16) (.t 63)), oM 17 64] [2, 13, 16, 58, 59, 60, 61, 62, 63, 64])
 (.seq (.draw [] [oP 65 (.ld true 11 (.t 11)), oP 66 (.ld true 63 (.t 4)), oP 67 (.ld true 6 (.t 15)), oP 68 (.call N_ref18_Decide [false, false, true] [.t 66, .t 67]), oM 69 17, oN (.st 11 (.t 6) (.t 65)), oN (.st 63 (.t 7) (.t 68)), oM 8 69, oP 9 (.mv (kI 0))] [[], [0], [0, 1], [0], [0, 1, 2, 3], [4], [4], [], []] [4, 11, 15, 17, 65, 66, 67, 68, 69])
 (.ret [6, 7, 8, 9]))) .skip))
 (.seq (.seq (.ops [] [oM 70 13, oP 71 (.un .not (.t 70))] [13, 58, 70])
 (.cond (.t 71) (.seq (.draw [] [oP 72 (.ld true 11 (.t 11)), oP 73 (.ld true 63 (.t 4)), oN (.st 11 (.t 6) (.t 72)), oN (.st 63 (.t 7) (.t 73)), oP 8 (.mv (.c (.xsl []))), oP 9 (.mv (kI 0))] [[], [0], [1], [], [], []] [2, 4, 11, 71, 72, 73])
 (.ret [6, 7, 8, 9])) .skip))
 (.seq (.ops [] [oP 75 (.ld true 63 (.t 4)), oP 76 (.call N_ref27_plan [false, true] [.t 75]), oM 74 76, oP 77 (.ext (.t 74) 0), oP 78 (.ext (.t 74) 1), oP 79 (.ext (.t 74) 2), oP 18 (.alloc (.agg [.xsl [], aI 0, .xsl [], .xsl [], .xsl [], .xsl []])), oP 19 (.alloc (.agg [aI 0, aI 0, .xsl [], .xsl [], aI 0, aI 0, aI 0])), oN (.st 6 (.t 18) (.t 77)), oN (.st 7 (.t 19) (.t 78)), oM 20 79] [18, 20, 71, 74, 75, 76, 77, 78, 79])
 (.seq (.draw [] [oP 80 (.ld true 11 (.t 11)), oP 81 (.ld true 63 (.t 4)), oP 82 (.ld true 7 (.t 19)), oM 83 2, oP 84 (.call N_ref17_Next [false, false, false, true] [.t 81, .t 82, .t 83]), oN (.st 11 (.t 6) (.t 80)), oN (.st 63 (.t 7) (.t 84)), oP 8 (.mv (.c (.xsl []))), oP 9 (.mv (kI 0))] [[], [0], [0, 1], [0, 1, 2], [0], [], [], [], []] [2, 4, 11, 19, 80, 81, 82, 83, 84])
 (.ret [6, 7, 8, 9]))))))))))
def r_ref27_Step : List ARes := [.c 6 true 11, .c 7 true 63, .t 8, .t 9]
def fn_ref27_Step : AFn := .code c_ref27_Step r_ref27_Step 85 true
def c_ref28_Step : ACode :=
 (.seq (.ops [] [oP 3 (.box (.t 0)), oP 4 (.box (.t 1)), oP 6 (.alloc (.agg [.xsl [], .xsl [], aI 0, aI 0, .xsl [], aI 0, .xsl [], .xsl [], aI 0, aI 0, aI 0])), oP 7 (.alloc (.agg [aI 0, aI 0, aI 0, aI 0, aI 0, aI 0, aI 0, .xsl [], .xsl [], aI 0, .d (.bool false), aI 0, aI 0, aI 0, .xsl [], aI 0, aI 0, aI 0, aI 0, aI 0, aI 0, aI 0, aI 0, aI 0, aI 0, .xsl [], aI 0, aI 0, aI 0, aI 0, aI 0, aI 0, aI 0, aI 0, .xsl [], aI 0, .xsl [], .xsl [], aI 0, .xsl [], .xsl [], .xsl [], aI 0, .xsl [], .xsl [], .xsl [], .xsl [], aI 0, .xsl [], aI 0, .xsl [], .xsl [], aI 0, aI 0, aI 0, aI 0, aI 0, aI 0, aI 0, aI 0, aI 0, .xsl [], .xsl []])), oP 8 (.mv (.c (.xsl []))), oP 9 (.mv (kI 0))] [0, 1, 8, 9])
 (.seq (.seq (.ops [] [oP 21 (.ld true 63 (.t 4)), oP 22 (.call N_ref18_Guard [] [.t 21, kI 14, kI 14]), oM 10 22] [21, 22])
 (.seq (.ops [] [oM 23 10, oP 24 (.bin .neq (.t 23) (kI 0))] [23])
 (.cond (.t 24) (.seq (.ops [] [oM 25 10, oP 26 (.call N_ref18_Fail [false, true] [.t 25]), oP 27 (.ext (.t 26) 0), oP 28 (.ext (.t 26) 1), oP 29 (.ext (.t 26) 2), oP 30 (.ext (.t 26) 3), oN (.st 11 (.t 6) (.t 27)), oN (.st 63 (.t 7) (.t 28)), oM 8 29, oM 9 30] [2, 3, 4, 10, 24, 25, 26, 27, 28, 29, 30])
 (.ret [6, 7, 8, 9])) .skip)))
 (.seq (.seq (.ops [] [oP 31 (.fad false 12 1 (.t 4)), oP 32 (.ld false 1 (.t 31)), oP 33 (.bin .eql (.t 32) (kI 0))] [10, 24, 31, 32])
 (.cond (.t 33) (.ops [] [oP 34 (.ld true 63 (.t 4)), oP 35 (.fad true 1 8 (.t 4)), oP 36 (.fad false 4 1 (.t 35)), oP 37 (.ld false 1 (.t 36)), oP 38 (.fad true 15 8 (.t 4)), oP 39 (.fad false 0 1 (.t 38)), oP 40 (.ld false 1 (.t 39)), oP 41 (.bsl 2 1 (aI 0) [(0, .t 37), (1, .t 40)]), oP 42 (.call N_ref18_Section [false, false, false, true] [.t 34, .t 41, kI 1]), oN (.st 63 (.t 4) (.t 42))] [33, 34, 35, 36, 37, 38, 39, 40, 41, 42]) .skip))
 (.seq (.ops [] [oP 44 (.ld true 11 (.t 3)), oP 45 (.ld true 63 (.t 4)), oM 46 2, oP 47 (.call N_ref18_Go [false, false, false, true] [.t 44, .t 45, .t 46]), oM 43 47, oP 48 (.ext (.t 43) 0), oP 49 (.ext (.t 43) 1), oP 50 (.ext (.t 43) 2), oP 51 (.ext (.t 43) 3), oP 52 (.ext (.t 43) 4), oP 11 (.alloc (.agg [.xsl [], .xsl [], aI 0, aI 0, .xsl [], aI 0, .xsl [], .xsl [], aI 0, aI 0, aI 0])), oN (.st 11 (.t 11) (.t 48)), oN (.st 63 (.t 4) (.t 49)), oM 12 50, oM 13 51, oM 14 52] [3, 33, 43, 44, 45, 46, 47, 48, 49, 50, 51, 52])
 (.seq (.seq (.ops [] [oM 53 14, oP 54 (.bin .neq (.t 53) (kI 0))] [53])
 (.cond (.t 54) (.seq (.ops [] [oM 55 14, oP 56 (.call N_ref18_Fail [false, true] [.t 55]), oP 57 (.ext (.t 56) 0), oP 58 (.ext (.t 56) 1), oP 59 (.ext (.t 56) 2), oP 60 (.ext (.t 56) 3), oN (.st 11 (.t 6) (.t 57)), oN (.st 63 (.t 7) (.t 58)), oM 8 59, oM 9 60] [2, 4, 11, 12, 13, 14, 54, 55, 56, 57, 58, 59, 60])
 (.ret [6, 7, 8, 9])) .skip))
 (.seq (.seq (.ops [] [oM 61 12] [12, 14, 54])
 (.cond (.t 61) (.seq (.ops [] [oP 63 (.ld true 63 (.t 4)), oP 64 (.call N_ref28_plan [false, true] [.t 63]), oM 62 64, oP 65 (.ext (.t 62) 0), oP 66 (.ext (.t 62) 1), oP 67 (.ext (.t 62) 2), oP 15 (.alloc (.agg [.xsl [], aI 0, .xsl [], .xsl [], .xsl [], .xsl []])), oP 16 (.alloc (.agg [aI 0, aI 0, .xsl [], .xsl [], aI 0, aI 0, aI 0])), oN (.st 6 (.t 15) (.t 65)), oN (.st 7 (.t 16) (.t 66)), oM 17 67] [2, 13, 16, 61, 62, 63, 64, 65, 66, 67])
 (.seq (.draw [] [oP 68 (.ld true 11 (.t 11)), oP 69 (.ld true 63 (.t 4)), oP 70 (.ld true 6 (.t 15)), oP 71 (.call N_ref18_Decide [false, false, true] [.t 69, .t 70]), oM 72 17, oN (.st 11 (.t 6) (.t 68)), oN (.st 63 (.t 7) (.t 71)), oM 8 72, oP 9 (.mv (kI 0))] [[], [0], [0, 1], [0], [0, 1, 2, 3], [4], [4], [], []] [4, 11, 15, 17, 68, 69, 70, 71, 72])
 (.ret [6, 7, 8, 9]))) .skip))
 (.seq (.seq (.ops [] [oM 73 13, oP 74 (.un .not (.t 73))] [13, 61, 73])
 (.cond (.t 74) (.seq (.draw [] [oP 75 (.ld true 11 (.t 11)), oP 76 (.ld true 63 (.t 4)), oN (.st 11 (.t 6) (.t 75)), oN (.st 63 (.t 7) (.t 76)), oP 8 (.mv (.c (.xsl []))), oP 9 (.mv (kI 0))] [[], [0], [1], [], [], []] [2, 4, 11, 74, 75, 76])
 (.ret [6, 7, 8, 9])) .skip))
 (.seq (.ops [] [oP 78 (.ld true 63 (.t 4)), oP 79 (.call N_ref28_plan [false, true] [.t 78]), oM 77 79, oP 80 (.ext (.t 77) 0), oP 81 (.ext (.t 77) 1), oP 82 (.ext (.t 77) 2), oP 18 (.alloc (.agg [.xsl [], aI 0, .xsl [], .xsl [], .xsl [], .xsl []])), oP 19 (.alloc (.agg [aI 0, aI 0, .xsl [], .xsl [], aI 0, aI 0, aI 0])), oN (.st 6 (.t 18) (.t 80)), oN (.st 7 (.t 19) (.t 81)), oM 20 82] [18, 20, 74, 77, 78, 79, 80, 81, 82])
 (.seq (.draw [] [oP 83 (.ld true 11 (.t 11)), oP 84 (.ld true 63 (.t 4)), oP 85 (.ld true 7 (.t 19)), oM 86 2, oP 87 (.call N_ref17_Next [false, false, false, true] [.t 84, .t 85, .t 86]), oN (.st 11 (.t 6) (.t 83)), oN (.st 63 (.t 7) (.t 87)), oP 8 (.mv (.c (.xsl []))), oP 9 (.mv (kI 0))] [[], [0], [0, 1], [0, 1, 2], [0], [], [], [], []] [2, 4, 11, 19, 83, 84, 85, 86, 87])
 (.ret [6, 7, 8, 9]))))))))))
def r_ref28_Step : List ARes := [.c 6 true 11, .c 7 true 63, .t 8, .t 9]
def fn_ref28_Step : AFn := .code c_ref28_Step r_ref28_Step 88 true
def l_law22_run_0 : ACode :=
 (.seq (.seq (.ops [] [oP 27 (.fad false 10 1 (.t 12)), oP 28 (.ld false 1 (.t 27)), oP 29 (.un .not (.t 28)), oM 30 29, oQ 31 (.mv (.t 15)) 30 true, oQ 32 (.bin .lss (.t 31) (kI 400)) 30 true, oP 33 (.pick (.t 30) (.t 32) (.c (.d (.bool false))))] [27, 28, 29, 30, 31, 32])
 (.cond (.t 33) .skip (.exit 0 [4, 8, 12, 14, 15])))
 (.block 1 (.seq (.ops [] [oM 34 15, oP 35 (.bin .add (.t 34) (kI 1)), oM 15 35] [33, 34, 35])
 (.seq (.ops [] [oP 37 (.ld true 11 (.t 4)), oP 38 (.ld true 63 (.t 12)), oM 39 3, oM 40 15, oP 41 (.bin .add (.t 39) (.t 40)), oP 42 (.call N_count_Step [false, false, false, true] [.t 37, .t 38, .t 41]), oM 36 42, oP 43 (.ext (.t 36) 0), oP 44 (.ext (.t 36) 1), oP 45 (.ext (.t 36) 2), oP 46 (.ext (.t 36) 3), oP 16 (.alloc (.agg [.xsl [], .xsl [], aI 0, aI 0, .xsl [], aI 0, .xsl [], .xsl [], aI 0, aI 0, aI 0])), oP 17 (.alloc (.agg [aI 0, aI 0, aI 0, aI 0, aI 0, aI 0, aI 0, .xsl [], .xsl [], aI 0, .d (.bool false), aI 0, aI 0, aI 0, .xsl [], aI 0, aI 0, aI 0, aI 0, aI 0, aI 0, aI 0, aI 0, aI 0, aI 0, .xsl [], aI 0, aI 0, aI 0, aI 0, aI 0, aI 0, aI 0, aI 0, .xsl [], aI 0, .xsl [], .xsl [], aI 0, .xsl [], .xsl [], .xsl [], aI 0, .xsl [], .xsl [], .xsl [], .xsl [], aI 0, .xsl [], aI 0, .xsl [], .xsl [], aI 0, aI 0, aI 0, aI 0, aI 0, aI 0, aI 0, aI 0, aI 0, .xsl [], .xsl []])), oN (.st 11 (.t 16) (.t 43)), oN (.st 63 (.t 17) (.t 44)), oM 18 45, oM 19 46] [36, 37, 38, 39, 40, 41, 42, 43, 44, 45, 46])
 (.seq (.seq (.ops [] [oM 47 19, oP 48 (.bin .neq (.t 47) (kI 0)), oM 49 48, oQ 50 (.fad false 0 1 (.t 17)) 49 false, oQ 51 (.ld false 1 (.t 50)) 49 false, oQ 52 (.bin .neq (.t 51) (kI 1)) 49 false, oP 53 (.pick (.t 49) (.c (.d (.bool true))) (.t 52))] [19, 47, 48, 49, 50, 51, 52])
 (.cond (.t 53) (.seq (.ops [] [oP 54 (.build [.xsl [], .xsl [], aI 0, aI 0, .xsl [], aI 0, .xsl [], .xsl [], aI 0, aI 0, aI 0] []), oN (.st 11 (.t 8) (.t 54)), oP 9 (.mv (.c (.xsl []))), oP 10 (.mv (.c (.xsl []))), oP 11 (.mv (kI (-1)))] [3, 4, 12, 14, 15, 16, 17, 18, 53, 54])
 (.ret [8, 9, 10, 11])) .skip))
 (.seq (.draw [] [oP 55 (.ld true 11 (.t 16)), oP 56 (.ld true 63 (.t 17)), oN (.st 11 (.t 4) (.t 55)), oN (.st 63 (.t 12) (.t 56))] [[], [0], [1], []] [16, 17, 53, 55, 56])
 (.ops [] [oM 57 14, oM 58 18, oP 59 (.app 10 (.t 57) (.t 58)), oM 14 59] [18, 57, 58, 59])))))))
def c_law22_run : ACode :=
 (.seq (.ops [] [oP 4 (.box (.t 0)), oP 5 (.box (.t 1)), oP 6 (.box (.t 2)), oP 8 (.alloc (.agg [.xsl [], .xsl [], aI 0, aI 0, .xsl [], aI 0, .xsl [], .xsl [], aI 0, aI 0, aI 0])), oP 9 (.mv (.c (.xsl []))), oP 10 (.mv (.c (.xsl []))), oP 11 (.mv (kI 0))] [0, 1, 2, 9, 10, 11])
 (.seq (.ops [] [oP 21 (.ld true 8 (.t 6)), oP 22 (.ld true 8 (.t 5)), oM 23 3, oP 24 (.call N_ref17_Start [false, false, false, false, true] [kI 1, .t 21, .t 22, .t 23]), oM 20 24, oP 25 (.ext (.t 20) 0), oP 26 (.ext (.t 20) 1), oP 12 (.alloc (.agg [aI 0, aI 0, aI 0, aI 0, aI 0, aI 0, aI 0, .xsl [], .xsl [], aI 0, .d (.bool false), aI 0, aI 0, aI 0, .xsl [], aI 0, aI 0, aI 0, aI 0, aI 0, aI 0, aI 0, aI 0, aI 0, aI 0, .xsl [], aI 0, aI 0, aI 0, aI 0, aI 0, aI 0, aI 0, aI 0, .xsl [], aI 0, .xsl [], .xsl [], aI 0, .xsl [], .xsl [], .xsl [], aI 0, .xsl [], .xsl [], .xsl [], .xsl [], aI 0, .xsl [], aI 0, .xsl [], .xsl [], aI 0, aI 0, aI 0, aI 0, aI 0, aI 0, aI 0, aI 0, aI 0, .xsl [], .xsl []])), oN (.st 63 (.t 12) (.t 25)), oM 13 26] [5, 6, 13, 20, 21, 22, 23, 24, 25, 26])
 (.seq (.ops [] [oP 14 .nacc] [])
 (.seq (.ops [] [oP 15 (.mv (kI 0))] [])
 (.seq (.block 0 (.loop [] l_law22_run_0))
 (.seq (.draw [] [oP 60 (.ld true 11 (.t 4)), oP 61 (.fad false 14 1 (.t 12)), oP 62 (.ld false 1 (.t 61)), oM 63 14, oM 64 15, oN (.st 11 (.t 8) (.t 60)), oM 9 62, oM 10 63, oM 11 64] [[], [0], [0], [0, 1, 2], [0, 1, 2, 3], [1, 2, 3, 4], [3, 4], [4], []] [3, 4, 12, 14, 15, 33, 60, 61, 62, 63, 64])
 (.ret [8, 9, 10, 11])))))))
def r_law22_run : List ARes := [.c 8 true 11, .t 9, .t 10, .t 11]
def fn_law22_run : AFn := .code c_law22_run r_law22_run 65 true
def c_count_Step : ACode :=
 (.seq (.ops [] [oP 3 (.box (.t 0)), oP 4 (.box (.t 1)), oP 6 (.alloc (.agg [.xsl [], .xsl [], aI 0, aI 0, .xsl [], aI 0, .xsl [], .xsl [], aI 0, aI 0, aI 0])), oP 7 (.alloc (.agg [aI 0, aI 0, aI 0, aI 0, aI 0, aI 0, aI 0, .xsl [], .xsl [], aI 0, .d (.bool false), aI 0, aI 0, aI 0, .xsl [], aI 0, aI 0, aI 0, aI 0, aI 0, aI 0, aI 0, aI 0, aI 0, aI 0, .xsl [], aI 0, aI 0, aI 0, aI 0, aI 0, aI 0, aI 0, aI 0, .xsl [], aI 0, .xsl [], .xsl [], aI 0, .xsl [], .xsl [], .xsl [], aI 0, .xsl [], .xsl [], .xsl [], .xsl [], aI 0, .xsl [], aI 0, .xsl [], .xsl [], aI 0, aI 0, aI 0, aI 0, aI 0, aI 0, aI 0, aI 0, aI 0, .xsl [], .xsl []])), oP 8 (.mv (.c (.xsl []))), oP 9 (.mv (kI 0))] [0, 1, 8, 9])
 (.seq (.ops [] [oP 12 (.ld true 63 (.t 4)), oP 13 (.call N_count_ready [] [.t 12]), oM 10 13] [12, 13])
 (.seq (.ops [] [oP 11 (.mv (.c (.xsl [])))] [])
 (.seq (.seq (.ops [] [oM 14 10, oP 15 (.bin .eql (.t 14) (kI 0))] [14])
 (.cond (.t 15) (.seq (.ops [] [oP 16 (.fad false 12 1 (.t 4)), oP 17 (.ld false 1 (.t 16))] [10, 15, 16])
 (.block 0 (.seq (.ops [] [oP 19 (.bin .eql (.t 17) (kI 0)), oM 18 19] [19])
 (.cond (.t 18) (.seq (.ops [] [oP 21 (.ld true 11 (.t 3)), oP 22 (.call N_arena_Load [] [.t 21, kI 1]), oM 20 22, oP 23 (.ext (.t 20) 0), oP 24 (.ext (.t 20) 1), oP 25 (.fad false 60 1 (.t 4)), oN (.st 1 (.t 25) (.t 23)), oM 10 24] [2, 17, 18, 20, 21, 22, 23, 24, 25])
 (.ops [] [oP 26 (.fad false 61 1 (.t 4)), oN (.st 1 (.t 26) (.c (.xsl []))), oP 27 (.fad false 62 1 (.t 4)), oN (.st 1 (.t 27) (.c (.xsl []))), oP 28 (.fad false 12 1 (.t 4)), oN (.st 1 (.t 28) (kI 1))] [26, 27, 28])) (.seq (.ops [] [oP 30 (.bin .eql (.t 17) (kI 1)), oM 29 30] [18, 30])
 (.cond (.t 29) (.ops [] [oP 32 (.ld true 11 (.t 3)), oP 33 (.ld true 63 (.t 4)), oP 34 (.call N_count_first [false, false, true] [.t 32, .t 33]), oM 31 34, oP 35 (.ext (.t 31) 0), oP 36 (.ext (.t 31) 1), oN (.st 63 (.t 4) (.t 35)), oM 10 36] [2, 17, 29, 31, 32, 33, 34, 35, 36]) (.seq (.ops [] [oP 38 (.bin .eql (.t 17) (kI 2)), oM 37 38] [29, 38])
 (.cond (.t 37) (.ops [] [oP 40 (.ld true 11 (.t 3)), oP 41 (.ld true 63 (.t 4)), oM 42 2, oP 43 (.call N_count_second [false, false, false, true] [.t 40, .t 41, .t 42]), oM 39 43, oP 44 (.ext (.t 39) 0), oP 45 (.ext (.t 39) 1), oN (.st 63 (.t 4) (.t 44)), oM 10 45] [2, 17, 37, 39, 40, 41, 42, 43, 44, 45]) (.seq (.ops [] [oP 47 (.bin .eql (.t 17) (kI 3)), oM 46 47] [17, 37, 47])
 (.cond (.t 46) (.ops [] [oP 49 (.ld true 11 (.t 3)), oP 50 (.ld true 63 (.t 4)), oM 51 2, oP 52 (.call N_count_sum [false, false, false, true] [.t 49, .t 50, .t 51]), oM 48 52, oP 53 (.ext (.t 48) 0), oP 54 (.ext (.t 48) 1), oP 55 (.ext (.t 48) 2), oN (.st 63 (.t 4) (.t 53)), oM 11 54, oM 10 55] [2, 46, 48, 49, 50, 51, 52, 53, 54, 55]) (.ops [] [oP 10 (.mv (kI 7))] [2, 46]))))))))))) .skip))
 (.seq (.seq (.ops [] [oM 56 10, oP 57 (.bin .neq (.t 56) (kI 0))] [2, 15, 56])
 (.cond (.t 57) (.seq (.ops [] [oP 58 (.build [.xsl [], .xsl [], aI 0, aI 0, .xsl [], aI 0, .xsl [], .xsl [], aI 0, aI 0, aI 0] []), oP 59 (.build [aI 0, aI 0, aI 0, aI 0, aI 0, aI 0, aI 0, .xsl [], .xsl [], aI 0, .d (.bool false), aI 0, aI 0, aI 0, .xsl [], aI 0, aI 0, aI 0, aI 0, aI 0, aI 0, aI 0, aI 0, aI 0, aI 0, .xsl [], aI 0, aI 0, aI 0, aI 0, aI 0, aI 0, aI 0, aI 0, .xsl [], aI 0, .xsl [], .xsl [], aI 0, .xsl [], .xsl [], .xsl [], aI 0, .xsl [], .xsl [], .xsl [], .xsl [], aI 0, .xsl [], aI 0, .xsl [], .xsl [], aI 0, aI 0, aI 0, aI 0, aI 0, aI 0, aI 0, aI 0, aI 0, .xsl [], .xsl []] []), oM 60 10, oN (.st 11 (.t 6) (.t 58)), oN (.st 63 (.t 7) (.t 59)), oP 8 (.mv (.c (.xsl []))), oM 9 60] [3, 4, 10, 11, 57, 58, 59, 60])
 (.ret [6, 7, 8, 9])) .skip))
 (.seq (.draw [] [oP 61 (.ld true 11 (.t 3)), oP 62 (.ld true 63 (.t 4)), oM 63 11, oN (.st 11 (.t 6) (.t 61)), oN (.st 63 (.t 7) (.t 62)), oM 8 63, oP 9 (.mv (kI 0))] [[], [0], [0, 1], [1, 2], [2], [], []] [3, 4, 10, 11, 57, 61, 62, 63])
 (.ret [6, 7, 8, 9])))))))
def r_count_Step : List ARes := [.c 6 true 11, .c 7 true 63, .t 8, .t 9]
def fn_count_Step : AFn := .code c_count_Step r_count_Step 64 true
def c_count_ready : ACode :=
 (.seq (.ops [] [oP 1 (.box (.t 0)), oP 2 (.mv (kI 0))] [0, 2])
 (.seq (.block 0 (.seq (.ops [] [oP 4 (.fad false 10 1 (.t 1)), oP 5 (.ld false 1 (.t 4)), oM 3 5] [4, 5])
 (.cond (.t 3) (.seq (.ops [] [oP 2 (.mv (kI 7))] [1, 3])
 (.ret [2])) (.seq (.ops [] [oP 7 (.fad true 1 8 (.t 1)), oP 8 (.fad false 0 1 (.t 7)), oP 9 (.ld false 1 (.t 8)), oP 10 (.bin .neq (.t 9) (kI 7)), oM 6 10] [1, 3, 7, 8, 9, 10])
 (.cond (.t 6) (.seq (.ops [] [oP 2 (.mv (kI 9))] [6])
 (.ret [2])) .skip)))))
 (.seq (.ops [] [oP 2 (.mv (kI 0))] [6])
 (.ret [2]))))
def r_count_ready : List ARes := [.t 2]
def fn_count_ready : AFn := .code c_count_ready r_count_ready 11 true
def c_arena_Load : ACode :=
 (.seq (.ops [] [oP 2 (.box (.t 0)), oP 4 (.mv (kI 0)), oP 5 (.mv (kI 0))] [0, 4, 5])
 (.seq (.seq (.ops [] [oM 6 1] [1])
 (.block 0 (.seq (.ops [] [oP 8 (.bin .eql (.t 6) (kI 1)), oM 7 8] [8])
 (.cond (.t 7) (.seq (.ops [] [oP 9 (.fad false 8 1 (.t 2)), oP 10 (.ld false 1 (.t 9)), oM 4 10, oP 5 (.mv (kI 0))] [2, 6, 7, 9, 10])
 (.ret [4, 5])) (.seq (.ops [] [oP 12 (.bin .eql (.t 6) (kI 2)), oM 11 12] [7, 12])
 (.cond (.t 11) (.seq (.ops [] [oP 13 (.fad false 9 1 (.t 2)), oP 14 (.ld false 1 (.t 13)), oM 4 14, oP 5 (.mv (kI 0))] [2, 6, 11, 13, 14])
 (.ret [4, 5])) (.seq (.ops [] [oP 16 (.bin .eql (.t 6) (kI 3)), oM 15 16] [6, 11, 16])
 (.cond (.t 15) (.seq (.ops [] [oP 17 (.fad false 10 1 (.t 2)), oP 18 (.ld false 1 (.t 17)), oM 4 18, oP 5 (.mv (kI 0))] [2, 15, 17, 18])
 (.ret [4, 5])) .skip))))))))
 (.seq (.ops [] [oP 4 (.mv (kI 0)), oP 5 (.mv (kI 9))] [2, 15])
 (.ret [4, 5]))))
def r_arena_Load : List ARes := [.t 4, .t 5]
def fn_arena_Load : AFn := .code c_arena_Load r_arena_Load 19 true
def c_count_first : ACode :=
 (.seq (.ops [] [oP 2 (.box (.t 0)), oP 3 (.box (.t 1)), oP 4 (.alloc (.agg [aI 0, aI 0, aI 0, aI 0, aI 0, aI 0, aI 0, .xsl [], .xsl [], aI 0, .d (.bool false), aI 0, aI 0, aI 0, .xsl [], aI 0, aI 0, aI 0, aI 0, aI 0, aI 0, aI 0, aI 0, aI 0, aI 0, .xsl [], aI 0, aI 0, aI 0, aI 0, aI 0, aI 0, aI 0, aI 0, .xsl [], aI 0, .xsl [], .xsl [], aI 0, .xsl [], .xsl [], .xsl [], aI 0, .xsl [], .xsl [], .xsl [], .xsl [], aI 0, .xsl [], aI 0, .xsl [], .xsl [], aI 0, aI 0, aI 0, aI 0, aI 0, aI 0, aI 0, aI 0, aI 0, .xsl [], .xsl []])), oP 5 (.mv (kI 0))] [0, 1, 5])
 (.seq (.ops [] [oP 6 (.mv (kI 0))] [6])
 (.seq (.seq (.ops [] [oP 8 (.ld true 11 (.t 2)), oP 9 (.fad false 61 1 (.t 3)), oP 10 (.ld false 1 (.t 9)), oP 11 (.call N_count_next [false, false, true] [.t 8, .t 10]), oM 7 11, oP 12 (.ext (.t 7) 0), oP 13 (.ext (.t 7) 1), oP 14 (.fad false 61 1 (.t 3)), oN (.st 1 (.t 14) (.t 12)), oM 6 13] [2, 7, 8, 9, 10, 11, 12, 13, 14])
 (.seq (.ops [] [oM 15 6, oP 16 (.bin .neq (.t 15) (kI 0))] [15])
 (.cond (.t 16) (.seq (.ops [] [oP 17 (.ld true 63 (.t 3)), oM 18 6, oN (.st 63 (.t 4) (.t 17)), oM 5 18] [3, 6, 16, 17, 18])
 (.ret [4, 5])) .skip)))
 (.seq (.seq (.ops [] [oP 19 (.fad false 61 1 (.t 3)), oP 20 (.ld false 1 (.t 19)), oP 21 (.len (.t 20)), oP 22 (.fad true 15 8 (.t 3)), oP 23 (.fad false 0 1 (.t 22)), oP 24 (.ld false 1 (.t 23)), oP 25 (.bin .eql (.t 21) (.t 24))] [6, 16, 19, 20, 21, 22, 23, 24])
 (.cond (.t 25) (.seq (.ops [] [oP 26 (.fad false 12 1 (.t 3)), oN (.st 1 (.t 26) (kI 0))] [25, 26])
 (.seq (.ops [] [oP 27 (.fad false 61 1 (.t 3)), oP 28 (.ld false 1 (.t 27)), oP 29 (.call N_stripe_Quiet [] [.t 28])] [27, 28])
 (.cond (.t 29) (.ops [] [oP 30 (.fad false 12 1 (.t 3)), oN (.st 1 (.t 30) (kI 2))] [29, 30]) .skip))) .skip))
 (.seq (.ops [] [oP 31 (.ld true 63 (.t 3)), oN (.st 63 (.t 4) (.t 31)), oP 5 (.mv (kI 0))] [3, 25, 29, 31])
 (.ret [4, 5]))))))
def r_count_first : List ARes := [.c 4 true 63, .t 5]
def fn_count_first : AFn := .code c_count_first r_count_first 32 true
def c_count_next : ACode :=
 (.seq (.ops [] [oP 2 (.box (.t 0)), oP 4 (.mv (.c (.xsl []))), oP 5 (.mv (kI 0))] [0, 4, 5])
 (.seq (.ops [] [oP 9 (.ld true 11 (.t 2)), oM 10 1, oP 11 (.len (.t 10)), oP 12 (.call N_arena_LoadStripe [] [.t 9, .t 11]), oM 8 12, oP 13 (.ext (.t 8) 0), oP 14 (.ext (.t 8) 1), oP 6 (.alloc (.d (.agg [.int .i64 0, .int .i64 0, .int .i64 0, .int .i64 0]))), oN (.st 4 (.t 6) (.t 13)), oM 7 14] [2, 8, 9, 10, 11, 12, 13, 14])
 (.seq (.seq (.ops [] [oM 15 7, oP 16 (.bin .neq (.t 15) (kI 0))] [15])
 (.cond (.t 16) (.seq (.ops [] [oM 17 7, oP 4 (.mv (.c (.xsl []))), oM 5 17] [1, 6, 7, 16, 17])
 (.ret [4, 5])) .skip))
 (.seq (.draw [] [oM 18 1, oM 19 1, oP 20 (.len (.t 19)), oM 21 1, oP 22 (.len (.t 21)), oP 23 (.slc 4 (.t 18) none (some (.t 20)) (some (.t 22))), oP 24 (.ld true 4 (.t 6)), oP 25 (.bsl 1 4 (.d (.agg [.int .i64 0, .int .i64 0, .int .i64 0, .int .i64 0])) [(0, .t 24)]), oP 26 (.app 4 (.t 23) (.t 25)), oM 4 26, oP 5 (.mv (kI 0))] [[], [0], [0], [0, 1, 2], [0, 1, 2], [], [0, 1, 2, 3, 4, 5], [0, 1, 2, 3, 4, 5], [], [], []] [1, 6, 7, 16, 18, 19, 20, 21, 22, 23, 24, 25, 26])
 (.ret [4, 5])))))
def r_count_next : List ARes := [.t 4, .t 5]
def fn_count_next : AFn := .code c_count_next r_count_next 27 true
def c_arena_LoadStripe : ACode :=
 (.seq (.ops [] [oP 2 (.box (.t 0)), oP 4 (.alloc (.d (.agg [.int .i64 0, .int .i64 0, .int .i64 0, .int .i64 0]))), oP 5 (.mv (kI 0))] [0, 5])
 (.seq (.seq (.ops [] [oM 6 1, oP 7 (.bin .lss (.t 6) (kI 0)), oM 8 7, oQ 9 (.mv (.t 1)) 8 false, oQ 10 (.fad false 1 1 (.t 2)) 8 false, oQ 11 (.ld false 1 (.t 10)) 8 false, oQ 12 (.len (.t 11)) 8 false, oQ 13 (.bin .geq (.t 9) (.t 12)) 8 false, oP 14 (.pick (.t 8) (.c (.d (.bool true))) (.t 13))] [6, 7, 8, 9, 10, 11, 12, 13])
 (.cond (.t 14) (.seq (.ops [] [oP 15 (.build [aI 0, aI 0, aI 0, aI 0] []), oN (.st 4 (.t 4) (.t 15)), oP 5 (.mv (kI 1))] [1, 2, 14, 15])
 (.ret [4, 5])) .skip))
 (.seq (.ops [] [oP 16 (.fad false 1 1 (.t 2)), oP 17 (.ld false 1 (.t 16)), oM 18 1, oP 19 (.iad 4 (.t 17) (.t 18)), oP 20 (.ld true 4 (.t 19)), oN (.st 4 (.t 4) (.t 20)), oP 5 (.mv (kI 0))] [1, 2, 14, 16, 17, 18, 19, 20])
 (.ret [4, 5]))))
def r_arena_LoadStripe : List ARes := [.c 4 true 4, .t 5]
def fn_arena_LoadStripe : AFn := .code c_arena_LoadStripe r_arena_LoadStripe 21 true
def c_stripe_Quiet : ACode :=
 (.seq (.ops [] [oP 2 (.mv (.c (.d (.bool false))))] [2])
 (.seq (.ops [] [oM 3 0, oP 4 (.call N_slices_ContainsFunc_api_Stripe [] [.t 3, .c (.d (.fn N_stripe_Quiet_1 []))]), oP 5 (.un .not (.t 4)), oM 2 5] [0, 3, 4, 5])
 (.ret [2])))
def r_stripe_Quiet : List ARes := [.t 2]
def fn_stripe_Quiet : AFn := .code c_stripe_Quiet r_stripe_Quiet 6 true
def c_slices_ContainsFunc_api_Stripe : ACode :=
 (.seq (.ops [] [oP 4 (.mv (.c (.d (.bool false))))] [4])
 (.seq (.ops [] [oM 5 0, oM 6 1, oP 7 (.call N_slices_IndexFunc_api_Stripe [] [.t 5, .t 6]), oP 8 (.bin .geq (.t 7) (kI 0)), oM 4 8] [0, 1, 5, 6, 7, 8])
 (.ret [4])))
def r_slices_ContainsFunc_api_Stripe : List ARes := [.t 4]
def fn_slices_ContainsFunc_api_Stripe : AFn := .code c_slices_ContainsFunc_api_Stripe r_slices_ContainsFunc_api_Stripe 9 true
def l_slices_IndexFunc_api_Stripe_0 : ACode :=
 (.seq (.ops [] [oP 9 (.bin .lss (.t 8) (.t 7))] [])
 (.seq (.cond (.t 9) .skip (.exit 0 []))
 (.seq (.block 1 (.seq (.ops [] [oM 10 8, oM 5 10] [9, 10])
 (.seq (.ops [] [oM 11 1, oM 12 0, oM 13 5, oP 14 (.iad 4 (.t 12) (.t 13)), oP 15 (.ld true 4 (.t 14)), oP 16 (.callv (.t 11) [] [.t 15])] [11, 12, 13, 14, 15])
 (.cond (.t 16) (.seq (.ops [] [oM 17 5, oM 4 17] [0, 1, 5, 7, 8, 16, 17])
 (.ret [4])) .skip))))
 (.ops [] [oP 18 (.bin .add (.t 8) (kI 1)), oM 8 18] [5, 16, 18]))))
def c_slices_IndexFunc_api_Stripe : ACode :=
 (.seq (.ops [] [oP 4 (.mv (kI 0))] [4])
 (.seq (.seq (.ops [] [oM 6 0, oP 7 (.len (.t 6)), oP 8 (.mv (kI 0))] [6])
 (.block 0 (.loop [] l_slices_IndexFunc_api_Stripe_0)))
 (.seq (.ops [] [oP 4 (.mv (kI (-1)))] [0, 1, 7, 8, 9])
 (.ret [4]))))
def r_slices_IndexFunc_api_Stripe : List ARes := [.t 4]
def fn_slices_IndexFunc_api_Stripe : AFn := .code c_slices_IndexFunc_api_Stripe r_slices_IndexFunc_api_Stripe 19 true
def c_stripe_Quiet_1 : ACode :=
 (.seq (.ops [] [oP 1 (.box (.t 0)), oP 2 (.mv (.c (.d (.bool false))))] [0, 2])
 (.seq (.ops [] [oP 3 (.fad false 0 1 (.t 1)), oP 4 (.ld false 1 (.t 3)), oP 5 (.bin .rem (.t 4) (kI 2)), oP 6 (.bin .neq (.t 5) (kI 0)), oM 2 6] [1, 3, 4, 5, 6])
 (.ret [2])))
def r_stripe_Quiet_1 : List ARes := [.t 2]
def fn_stripe_Quiet_1 : AFn := .code c_stripe_Quiet_1 r_stripe_Quiet_1 7 true
def c_count_second : ACode :=
 (.seq (.ops [] [oP 3 (.box (.t 0)), oP 4 (.box (.t 1)), oP 6 (.alloc (.agg [aI 0, aI 0, aI 0, aI 0, aI 0, aI 0, aI 0, .xsl [], .xsl [], aI 0, .d (.bool false), aI 0, aI 0, aI 0, .xsl [], aI 0, aI 0, aI 0, aI 0, aI 0, aI 0, aI 0, aI 0, aI 0, aI 0, .xsl [], aI 0, aI 0, aI 0, aI 0, aI 0, aI 0, aI 0, aI 0, .xsl [], aI 0, .xsl [], .xsl [], aI 0, .xsl [], .xsl [], .xsl [], aI 0, .xsl [], .xsl [], .xsl [], .xsl [], aI 0, .xsl [], aI 0, .xsl [], .xsl [], aI 0, aI 0, aI 0, aI 0, aI 0, aI 0, aI 0, aI 0, aI 0, .xsl [], .xsl []])), oP 7 (.mv (kI 0))] [0, 1, 7])
 (.seq (.ops [] [oP 8 (.mv (kI 0))] [8])
 (.seq (.seq (.ops [] [oP 10 (.ld true 11 (.t 3)), oP 11 (.fad false 62 1 (.t 4)), oP 12 (.ld false 1 (.t 11)), oP 13 (.call N_count_next [false, false, true] [.t 10, .t 12]), oM 9 13, oP 14 (.ext (.t 9) 0), oP 15 (.ext (.t 9) 1), oP 16 (.fad false 62 1 (.t 4)), oN (.st 1 (.t 16) (.t 14)), oM 8 15] [3, 9, 10, 11, 12, 13, 14, 15, 16])
 (.seq (.ops [] [oM 17 8, oP 18 (.bin .neq (.t 17) (kI 0))] [17])
 (.cond (.t 18) (.seq (.ops [] [oP 19 (.ld true 63 (.t 4)), oM 20 8, oN (.st 63 (.t 6) (.t 19)), oM 7 20] [2, 4, 8, 18, 19, 20])
 (.ret [6, 7])) .skip)))
 (.seq (.seq (.ops [] [oP 21 (.fad false 62 1 (.t 4)), oP 22 (.ld false 1 (.t 21)), oP 23 (.len (.t 22)), oP 24 (.bin .eql (.t 23) (kI 1))] [8, 18, 21, 22, 23])
 (.cond (.t 24) (.ops [] [oM 25 2, oP 26 (.fad false 55 1 (.t 4)), oN (.st 1 (.t 26) (.t 25))] [2, 24, 25, 26]) .skip))
 (.seq (.seq (.ops [] [oP 27 (.fad false 62 1 (.t 4)), oP 28 (.ld false 1 (.t 27)), oP 29 (.len (.t 28)), oP 30 (.fad true 15 8 (.t 4)), oP 31 (.fad false 0 1 (.t 30)), oP 32 (.ld false 1 (.t 31)), oP 33 (.bin .eql (.t 29) (.t 32))] [2, 24, 27, 28, 29, 30, 31, 32])
 (.cond (.t 33) (.seq (.ops [] [oP 34 (.fad false 12 1 (.t 4)), oN (.st 1 (.t 34) (kI 0))] [33, 34])
 (.seq (.ops [] [oP 35 (.fad false 61 1 (.t 4)), oP 36 (.ld false 1 (.t 35)), oP 37 (.fad false 62 1 (.t 4)), oP 38 (.ld false 1 (.t 37)), oP 39 (.call N_stripe_Same [] [.t 36, .t 38])] [35, 36, 37, 38])
 (.cond (.t 39) (.ops [] [oP 40 (.fad false 12 1 (.t 4)), oN (.st 1 (.t 40) (kI 3))] [39, 40]) .skip))) .skip))
 (.seq (.ops [] [oP 41 (.ld true 63 (.t 4)), oN (.st 63 (.t 6) (.t 41)), oP 7 (.mv (kI 0))] [4, 33, 39, 41])
 (.ret [6, 7])))))))
def r_count_second : List ARes := [.c 6 true 63, .t 7]
def fn_count_second : AFn := .code c_count_second r_count_second 42 true
def c_stripe_Same : ACode :=
 (.seq (.ops [] [oP 4 (.mv (.c (.d (.bool false))))] [4])
 (.seq (.ops [] [oM 5 0, oM 6 1, oP 7 (.call N_slices_Equal_api_Stripe [] [.t 5, .t 6]), oM 4 7] [0, 1, 5, 6, 7])
 (.ret [4])))
def r_stripe_Same : List ARes := [.t 4]
def fn_stripe_Same : AFn := .code c_stripe_Same r_stripe_Same 8 true
def l_slices_Equal_api_Stripe_0 : ACode :=
 (.seq (.ops [] [oP 14 (.bin .lss (.t 13) (.t 12))] [])
 (.seq (.cond (.t 14) .skip (.exit 0 []))
 (.seq (.block 1 (.seq (.ops [] [oM 15 13, oM 5 15] [14, 15])
 (.seq (.draw [] [oM 16 0, oM 17 5, oP 18 (.iad 4 (.t 16) (.t 17)), oP 19 (.ld true 4 (.t 18)), oM 20 1, oM 21 5, oP 22 (.iad 4 (.t 20) (.t 21)), oP 23 (.ld true 4 (.t 22)), oP 24 (.eqs true 4 [(0, 0), (1, 0), (2, 0), (3, 0)] (.t 19) (.t 23))] [[], [0], [], [], [0, 1, 2, 3], [0, 1, 2, 3, 4], [0, 1, 2, 3], [0, 1, 2, 3], []] [5, 16, 17, 18, 19, 20, 21, 22, 23])
 (.cond (.t 24) (.seq (.ops [] [oP 4 (.mv (.c (.d (.bool false))))] [0, 1, 12, 13, 24])
 (.ret [4])) .skip))))
 (.ops [] [oP 25 (.bin .add (.t 13) (kI 1)), oM 13 25] [24, 25]))))
def c_slices_Equal_api_Stripe : ACode :=
 (.seq (.ops [] [oP 4 (.mv (.c (.d (.bool false))))] [4])
 (.seq (.seq (.ops [] [oM 6 0, oP 7 (.len (.t 6)), oM 8 1, oP 9 (.len (.t 8)), oP 10 (.bin .neq (.t 7) (.t 9))] [6, 7, 8, 9])
 (.cond (.t 10) (.seq (.ops [] [oP 4 (.mv (.c (.d (.bool false))))] [0, 1, 10])
 (.ret [4])) .skip))
 (.seq (.seq (.ops [] [oM 11 0, oP 12 (.len (.t 11)), oP 13 (.mv (kI 0))] [10, 11])
 (.block 0 (.loop [] l_slices_Equal_api_Stripe_0)))
 (.seq (.ops [] [oP 4 (.mv (.c (.d (.bool true))))] [0, 1, 12, 13, 14])
 (.ret [4])))))
def r_slices_Equal_api_Stripe : List ARes := [.t 4]
def fn_slices_Equal_api_Stripe : AFn := .code c_slices_Equal_api_Stripe r_slices_Equal_api_Stripe 26 true
def c_count_sum : ACode :=
 (.seq (.ops [] [oP 3 (.box (.t 0)), oP 4 (.box (.t 1)), oP 6 (.alloc (.agg [aI 0, aI 0, aI 0, aI 0, aI 0, aI 0, aI 0, .xsl [], .xsl [], aI 0, .d (.bool false), aI 0, aI 0, aI 0, .xsl [], aI 0, aI 0, aI 0, aI 0, aI 0, aI 0, aI 0, aI 0, aI 0, aI 0, .xsl [], aI 0, aI 0, aI 0, aI 0, aI 0, aI 0, aI 0, aI 0, .xsl [], aI 0, .xsl [], .xsl [], aI 0, .xsl [], .xsl [], .xsl [], aI 0, .xsl [], .xsl [], .xsl [], .xsl [], aI 0, .xsl [], aI 0, .xsl [], .xsl [], aI 0, aI 0, aI 0, aI 0, aI 0, aI 0, aI 0, aI 0, aI 0, .xsl [], .xsl []])), oP 7 (.mv (.c (.xsl []))), oP 8 (.mv (kI 0))] [0, 1, 7, 8])
 (.seq (.ops [] [oP 15 (.ld true 11 (.t 3)), oP 16 (.call N_arena_Load [] [.t 15, kI 1]), oM 14 16, oP 17 (.ext (.t 14) 0), oP 18 (.ext (.t 14) 1), oM 9 17, oM 10 18] [3, 14, 15, 16, 17, 18])
 (.seq (.seq (.ops [] [oM 19 10, oP 20 (.bin .neq (.t 19) (kI 0))] [19])
 (.cond (.t 20) (.seq (.ops [] [oP 21 (.ld true 63 (.t 4)), oM 22 10, oN (.st 63 (.t 6) (.t 21)), oP 7 (.mv (.c (.xsl []))), oM 8 22] [2, 4, 9, 10, 20, 21, 22])
 (.ret [6, 7, 8])) .skip))
 (.seq (.seq (.ops [] [oM 23 9, oP 24 (.fad false 60 1 (.t 4)), oP 25 (.ld false 1 (.t 24)), oP 26 (.bin .neq (.t 23) (.t 25))] [9, 10, 20, 23, 24, 25])
 (.cond (.t 26) (.seq (.ops [] [oP 27 (.fad false 12 1 (.t 4)), oN (.st 1 (.t 27) (kI 0))] [2, 26, 27])
 (.seq (.ops [] [oP 28 (.ld true 63 (.t 4)), oN (.st 63 (.t 6) (.t 28)), oP 7 (.mv (.c (.xsl []))), oP 8 (.mv (kI 0))] [4, 28])
 (.ret [6, 7, 8]))) .skip))
 (.seq (.ops [] [oP 30 (.fad false 61 1 (.t 4)), oP 31 (.ld false 1 (.t 30)), oP 32 (.fad false 60 1 (.t 4)), oP 33 (.ld false 1 (.t 32)), oP 34 (.call N_stripe_Sum [] [.t 31, .t 33]), oM 29 34, oP 35 (.ext (.t 29) 0), oP 36 (.ext (.t 29) 1), oM 11 35, oM 12 36] [26, 29, 30, 31, 32, 33, 34, 35, 36])
 (.seq (.ops [] [oP 37 (.fad false 55 1 (.t 4)), oP 38 (.ld false 1 (.t 37)), oP 39 (.fad false 0 1 (.t 4)), oP 40 (.ld false 1 (.t 39)), oP 41 (.fad false 13 1 (.t 4)), oP 42 (.ld false 1 (.t 41)), oP 43 (.fad false 60 1 (.t 4)), oP 44 (.ld false 1 (.t 43)), oM 45 11, oM 46 12, oP 47 (.build [aI 0, aI 0, aI 0, aI 0, aI 0, aI 0, aI 0, .xsl [], aI 0, aI 0] [(0, (1, .t 38)), (1, (1, .t 40)), (2, (1, .t 42)), (3, (1, kI 8)), (5, (1, .t 44)), (8, (1, .t 45)), (9, (1, .t 46))]), oP 13 (.alloc (.agg [aI 0, aI 0, aI 0, aI 0, aI 0, aI 0, aI 0, .xsl [], aI 0, aI 0])), oN (.st 10 (.t 13) (.t 47))] [37, 38, 39, 40, 41, 42, 43, 44, 45, 46, 47])
 (.seq (.draw [] [oP 48 (.ld true 63 (.t 4)), oM 49 11, oM 50 12, oP 51 (.build [aI 0, aI 0, .xsl [], .xsl [], aI 0, aI 0, aI 0] [(4, (1, .t 49)), (5, (1, .t 50))]), oM 52 2, oP 53 (.call N_batch_Next [false, false, false, true] [.t 48, .t 51, .t 52]), oP 54 (.ld true 10 (.t 13)), oP 55 (.bsl 1 10 (.agg [aI 0, aI 0, aI 0, aI 0, aI 0, aI 0, aI 0, .xsl [], aI 0, aI 0]) [(0, .t 54)]), oN (.st 63 (.t 6) (.t 53)), oM 7 55, oP 8 (.mv (kI 0))] [[], [0], [0, 1], [0], [0, 1, 2, 3], [], [0, 1, 2, 3, 4, 5], [0, 1, 2, 3, 4, 5], [6, 7], [], []] [2, 4, 11, 12, 13, 48, 49, 50, 51, 52, 53, 54, 55])
 (.ret [6, 7, 8]))))))))
def r_count_sum : List ARes := [.c 6 true 63, .t 7, .t 8]
def fn_count_sum : AFn := .code c_count_sum r_count_sum 56 true
def l_stripe_Sum_0 : ACode :=
 (.seq (.ops [] [oP 11 (.bin .lss (.t 10) (.t 9))] [])
 (.seq (.cond (.t 11) .skip (.exit 0 [4, 5]))
 (.seq (.block 1 (.seq (.ops [] [oP 12 (.iad 4 (.t 8) (.t 10)), oP 13 (.ld true 4 (.t 12)), oP 7 (.alloc (.d (.agg [.int .i64 0, .int .i64 0, .int .i64 0, .int .i64 0]))), oN (.st 4 (.t 7) (.t 13))] [11, 12, 13])
 (.seq (.ops [] [oP 14 (.fad false 1 1 (.t 7)), oP 15 (.ld false 1 (.t 14)), oM 16 1, oP 17 (.bin .eql (.t 15) (.t 16)), oM 18 17, oQ 19 (.fad false 0 1 (.t 7)) 18 true, oQ 20 (.ld false 1 (.t 19)) 18 true, oQ 21 (.call N_stripe_number [] [.t 20]) 18 true, oP 22 (.pick (.t 18) (.t 21) (.c (.d (.bool false)))), oM 23 22, oQ 24 (.fad false 2 1 (.t 7)) 23 true, oQ 25 (.ld false 1 (.t 24)) 23 true, oQ 26 (.call N_stripe_number [] [.t 25]) 23 true, oP 27 (.pick (.t 23) (.t 26) (.c (.d (.bool false)))), oM 28 27, oQ 29 (.fad false 3 1 (.t 7)) 28 true, oQ 30 (.ld false 1 (.t 29)) 28 true, oQ 31 (.call N_stripe_number [] [.t 30]) 28 true, oP 32 (.pick (.t 28) (.t 31) (.c (.d (.bool false))))] [14, 15, 16, 17, 18, 19, 20, 21, 22, 23, 24, 25, 26, 27, 28, 29, 30, 31])
 (.cond (.t 32) (.seq (.ops [] [oM 33 4, oP 34 (.fad false 2 1 (.t 7)), oP 35 (.ld false 1 (.t 34)), oP 36 (.bin .add (.t 33) (.t 35)), oM 4 36] [32, 33, 34, 35, 36])
 (.ops [] [oM 37 5, oP 38 (.fad false 3 1 (.t 7)), oP 39 (.ld false 1 (.t 38)), oP 40 (.bin .add (.t 37) (.t 39)), oM 5 40] [7, 37, 38, 39, 40])) .skip))))
 (.ops [] [oP 41 (.bin .add (.t 10) (kI 1)), oM 10 41] [7, 32, 41]))))
def c_stripe_Sum : ACode :=
 (.seq (.ops [] [oP 4 (.mv (kI 0)), oP 5 (.mv (kI 0))] [])
 (.seq (.seq (.ops [] [oM 8 0, oP 9 (.len (.t 8)), oP 10 (.mv (kI 0))] [0])
 (.block 0 (.loop [] l_stripe_Sum_0)))
 (.seq (.ops [] [oM 42 4, oM 43 5, oM 4 42, oM 5 43] [1, 8, 9, 10, 11, 42, 43])
 (.ret [4, 5]))))
def r_stripe_Sum : List ARes := [.t 4, .t 5]
def fn_stripe_Sum : AFn := .code c_stripe_Sum r_stripe_Sum 44 true
def c_stripe_number : ACode :=
 (.seq (.ops [] [oP 2 (.mv (.c (.d (.bool false))))] [2])
 (.seq (.ops [] [oM 3 0, oP 4 (.bin .geq (.t 3) (kI 0)), oM 5 4, oQ 6 (.mv (.t 0)) 5 true, oQ 7 (.bin .leq (.t 6) (kI 1099511627776)) 5 true, oP 8 (.pick (.t 5) (.t 7) (.c (.d (.bool false)))), oM 2 8] [0, 3, 4, 5, 6, 7, 8])
 (.ret [2])))
def r_stripe_number : List ARes := [.t 2]
def fn_stripe_number : AFn := .code c_stripe_number r_stripe_number 9 true
def c_batch_Next : ACode :=
 (.seq (.ops [] [oP 3 (.box (.t 0)), oP 4 (.box (.t 1)), oP 6 (.alloc (.agg [aI 0, aI 0, aI 0, aI 0, aI 0, aI 0, aI 0, .xsl [], .xsl [], aI 0, .d (.bool false), aI 0, aI 0, aI 0, .xsl [], aI 0, aI 0, aI 0, aI 0, aI 0, aI 0, aI 0, aI 0, aI 0, aI 0, .xsl [], aI 0, aI 0, aI 0, aI 0, aI 0, aI 0, aI 0, aI 0, .xsl [], aI 0, .xsl [], .xsl [], aI 0, .xsl [], .xsl [], .xsl [], aI 0, .xsl [], .xsl [], .xsl [], .xsl [], aI 0, .xsl [], aI 0, .xsl [], .xsl [], aI 0, aI 0, aI 0, aI 0, aI 0, aI 0, aI 0, aI 0, aI 0, .xsl [], .xsl []]))] [0, 1])
 (.seq (.ops [] [oP 8 (.fad false 0 1 (.t 3)), oP 9 (.ld false 1 (.t 8)), oP 10 (.fad true 1 8 (.t 3)), oP 11 (.ld true 8 (.t 10)), oP 12 (.fad true 15 8 (.t 3)), oP 13 (.ld true 8 (.t 12)), oP 14 (.fad false 9 1 (.t 3)), oP 15 (.ld false 1 (.t 14)), oP 16 (.fad false 10 1 (.t 3)), oP 17 (.ld false 1 (.t 16)), oP 18 (.fad false 11 1 (.t 3)), oP 19 (.ld false 1 (.t 18)), oP 20 (.fad false 13 1 (.t 3)), oP 21 (.ld false 1 (.t 20)), oP 22 (.bin .add (.t 21) (kI 1)), oP 23 (.build [aI 0, aI 0, aI 0, aI 0, aI 0, aI 0, aI 0, .xsl [], .xsl [], aI 0, .d (.bool false), aI 0, aI 0, aI 0, .xsl [], aI 0, aI 0, aI 0, aI 0, aI 0, aI 0, aI 0, aI 0, aI 0, aI 0, .xsl [], aI 0, aI 0, aI 0, aI 0, aI 0, aI 0, aI 0, aI 0, .xsl [], aI 0, .xsl [], .xsl [], aI 0, .xsl [], .xsl [], .xsl [], aI 0, .xsl [], .xsl [], .xsl [], .xsl [], aI 0, .xsl [], aI 0, .xsl [], .xsl [], aI 0, aI 0, aI 0, aI 0, aI 0, aI 0, aI 0, aI 0, aI 0, .xsl [], .xsl []] [(0, (1, .t 9)), (1, (8, .t 11)), (15, (8, .t 13)), (9, (1, .t 15)), (10, (1, .t 17)), (11, (1, .t 19)), (13, (1, .t 22))]), oP 7 (.alloc (.agg [aI 0, aI 0, aI 0, aI 0, aI 0, aI 0, aI 0, .xsl [], .xsl [], aI 0, .d (.bool false), aI 0, aI 0, aI 0, .xsl [], aI 0, aI 0, aI 0, aI 0, aI 0, aI 0, aI 0, aI 0, aI 0, aI 0, .xsl [], aI 0, aI 0, aI 0, aI 0, aI 0, aI 0, aI 0, aI 0, .xsl [], aI 0, .xsl [], .xsl [], aI 0, .xsl [], .xsl [], .xsl [], aI 0, .xsl [], .xsl [], .xsl [], .xsl [], aI 0, .xsl [], aI 0, .xsl [], .xsl [], aI 0, aI 0, aI 0, aI 0, aI 0, aI 0, aI 0, aI 0, aI 0, .xsl [], .xsl []])), oN (.st 63 (.t 7) (.t 23))] [8, 9, 10, 11, 12, 13, 14, 15, 16, 17, 18, 19, 20, 21, 22, 23])
 (.seq (.draw [] [oP 24 (.fad false 14 1 (.t 3)), oP 25 (.ld false 1 (.t 24)), oP 26 (.call N_slices_Clip_api_Result [false, true] [.t 25]), oP 27 (.ld true 7 (.t 4)), oP 28 (.bsl 1 7 (.agg [aI 0, aI 0, .xsl [], .xsl [], aI 0, aI 0, aI 0]) [(0, .t 27)]), oP 29 (.app 7 (.t 26) (.t 28)), oP 30 (.fad false 14 1 (.t 7)), oN (.st 1 (.t 30) (.t 29))] [[], [], [], [0, 1, 2], [0, 1, 2], [], [], []] [4, 24, 25, 26, 27, 28, 29, 30])
 (.seq (.seq (.draw [] [oP 31 (.fad false 13 1 (.t 7)), oP 32 (.ld false 1 (.t 31)), oP 33 (.fad true 1 8 (.t 3)), oP 34 (.ld true 8 (.t 33)), oP 35 (.call N_batch_Entries [] [.t 34]), oP 36 (.bin .eql (.t 32) (.t 35))] [[], [], [0, 1], [0, 1], [0, 1], []] [3, 31, 32, 33, 34, 35])
 (.cond (.t 36) (.ops [] [oM 37 2, oP 38 (.fad false 10 1 (.t 7)), oN (.st 1 (.t 38) (.c (.d (.bool true)))), oP 39 (.fad false 11 1 (.t 7)), oN (.st 1 (.t 39) (.t 37))] [2, 36, 37, 38, 39]) .skip))
 (.seq (.ops [] [oP 40 (.ld true 63 (.t 7)), oN (.st 63 (.t 6) (.t 40))] [2, 7, 36, 40])
 (.ret [6]))))))
def r_batch_Next : List ARes := [.c 6 true 63]
def fn_batch_Next : AFn := .code c_batch_Next r_batch_Next 41 true
def c_slices_Clip_api_Result : ACode :=
 (.seq (.ops [] [oP 2 (.mv (.c (.xsl [])))] [2])
 (.seq (.ops [] [oM 3 0, oM 4 0, oP 5 (.len (.t 4)), oM 6 0, oP 7 (.len (.t 6)), oP 8 (.slc 7 (.t 3) none (some (.t 5)) (some (.t 7))), oM 2 8] [0, 3, 4, 5, 6, 7, 8])
 (.ret [2])))
def r_slices_Clip_api_Result : List ARes := [.t 2]
def fn_slices_Clip_api_Result : AFn := .code c_slices_Clip_api_Result r_slices_Clip_api_Result 9 false
def c_batch_Entries : ACode :=
 (.seq (.ops [] [oP 1 (.box (.t 0)), oP 2 (.mv (kI 0))] [0, 2])
 (.seq (.seq (.ops [] [oP 3 (.fad false 0 1 (.t 1)), oP 4 (.ld false 1 (.t 3))] [3])
 (.block 0 (.seq (.ops [] [oP 6 (.bin .eql (.t 4) (kI 1)), oM 5 6] [6])
 (.cond (.t 5) (.seq (.ops [] [oP 7 (.fad false 6 1 (.t 1)), oP 8 (.ld false 1 (.t 7)), oP 9 (.len (.t 8)), oM 2 9] [1, 4, 5, 7, 8, 9])
 (.ret [2])) (.seq (.seq (.ops [] [oP 11 (.bin .eql (.t 4) (kI 3)), oM 10 11] [5, 11])
 (.cond (.t 10) .skip (.seq (.ops [] [oP 12 (.bin .eql (.t 4) (kI 4)), oM 10 12] [12])
 (.cond (.t 10) .skip (.ops [] [oP 13 (.bin .eql (.t 4) (kI 5)), oM 10 13] [4, 13])))))
 (.cond (.t 10) (.seq (.ops [] [oP 14 (.fad false 7 1 (.t 1)), oP 15 (.ld false 1 (.t 14)), oP 16 (.len (.t 15)), oM 2 16] [1, 4, 10, 14, 15, 16])
 (.ret [2])) .skip))))))
 (.seq (.ops [] [oP 2 (.mv (kI 1))] [1, 4, 10])
 (.ret [2]))))
def r_batch_Entries : List ARes := [.t 2]
def fn_batch_Entries : AFn := .code c_batch_Entries r_batch_Entries 17 true
def c_law22_awake : ACode :=
 (.seq (.ops [] [oP 0 (.mv (.c (.d (.bool false))))] [0])
 (.seq (.ops [] [oP 6 (.call N_base_Two [] [kI 2, kI 3, kI 1]), oP 1 (.alloc (.d (.agg [.int .i64 0, .int .i64 0, .int .i64 0, .int .i64 0, .int .i64 0, .int .i64 0, .int .i64 0, .int .i64 0]))), oN (.st 8 (.t 1) (.t 6))] [6])
 (.seq (.draw [] [oP 8 (.ld true 8 (.t 1)), oP 9 (.call N_base_Loaded [false, false, true] [.t 8, kI 2]), oP 10 (.ld true 8 (.t 1)), oP 11 (.build [aI 0, aI 0, aI 0, aI 0, aI 0, aI 0, .xsl [], .xsl []] [(0, (1, kI 7))]), oP 12 (.call N_law22_run [false, false, false, false, true] [.t 9, .t 10, .t 11, kI 0]), oM 7 12, oP 13 (.ext (.t 7) 0), oP 14 (.ext (.t 7) 1), oP 15 (.ext (.t 7) 2), oP 16 (.ext (.t 7) 3), oP 2 (.alloc (.agg [.xsl [], .xsl [], aI 0, aI 0, .xsl [], aI 0, .xsl [], .xsl [], aI 0, aI 0, aI 0])), oN (.st 11 (.t 2) (.t 13)), oM 3 14, oM 4 15, oM 5 16] [[], [], [0, 1], [0, 1, 2], [], [], [], [6], [6, 7], [6, 7, 8], [0, 1, 2, 3, 4, 5, 6, 7, 8, 9], [7, 8, 9], [8, 9], [9], []] [1, 2, 7, 8, 9, 10, 11, 12, 13, 14, 15, 16])
 (.seq (.ops [] [oM 17 5, oP 18 (.bin .eql (.t 17) (kI 6)), oM 19 18, oQ 20 (.mv (.t 3)) 19 true, oQ 21 (.len (.t 20)) 19 true, oQ 22 (.bin .eql (.t 21) (kI 1)) 19 true, oP 23 (.pick (.t 19) (.t 22) (.c (.d (.bool false)))), oM 24 23, oQ 25 (.mv (.t 3)) 24 true, oQ 26 (.iad 7 (.t 25) (kI 0)) 24 true, oQ 27 (.fad false 4 1 (.t 26)) 24 true, oQ 28 (.ld false 1 (.t 27)) 24 true, oQ 29 (.bin .eql (.t 28) (kI 2)) 24 true, oP 30 (.pick (.t 24) (.t 29) (.c (.d (.bool false)))), oM 31 30, oQ 32 (.mv (.t 3)) 31 true, oQ 33 (.iad 7 (.t 32) (kI 0)) 31 true, oQ 34 (.fad false 5 1 (.t 33)) 31 true, oQ 35 (.ld false 1 (.t 34)) 31 true, oQ 36 (.bin .eql (.t 35) (kI 0)) 31 true, oP 37 (.pick (.t 31) (.t 36) (.c (.d (.bool false)))), oM 38 37, oQ 39 (.mv (.t 4)) 38 true, oQ 40 (.len (.t 39)) 38 true, oQ 41 (.bin .eql (.t 40) (kI 1)) 38 true, oP 42 (.pick (.t 38) (.t 41) (.c (.d (.bool false)))), oM 43 42, oQ 44 (.mv (.t 4)) 43 true, oQ 45 (.iad 10 (.t 44) (kI 0)) 43 true, oQ 46 (.fad false 0 1 (.t 45)) 43 true, oQ 47 (.ld false 1 (.t 46)) 43 true, oQ 48 (.bin .eql (.t 47) (kI 4)) 43 true, oP 49 (.pick (.t 43) (.t 48) (.c (.d (.bool false)))), oM 0 49] [3, 4, 5, 17, 18, 19, 20, 21, 22, 23, 24, 25, 26, 27, 28, 29, 30, 31, 32, 33, 34, 35, 36, 37, 38, 39, 40, 41, 42, 43, 44, 45, 46, 47, 48, 49])
 (.ret [0])))))
def r_law22_awake : List ARes := [.t 0]
def fn_law22_awake : AFn := .code c_law22_awake r_law22_awake 50 true
end Go.Proofs.YtjillamaceggeaaGreat
