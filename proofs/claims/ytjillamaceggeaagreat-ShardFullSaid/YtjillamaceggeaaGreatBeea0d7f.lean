/-
  Functions of the program, as the calculus has them.
-/
import Derived.Test.YtjillamaceggeaaGreatB3cb969c
set_option linter.unusedSimpArgs false
set_option linter.unusedVariables false
namespace Go.Proofs.YtjillamaceggeaaGreat
open Go Go.Sim
def l_law07_ShardFull_0 : ACode :=
 (.seq (.seq (.ops [] [oM 23 7, oM 24 1, oP 25 (.bin .leq (.t 23) (.t 24))] [23, 24])
 (.cond (.t 25) .skip (.exit 0 [0, 1, 5])))
 (.seq (.block 1 (.seq (.ops [] [oP 29 (.ld true 8 (.t 5)), oM 30 7, oP 31 (.build [aI 0, aI 0, aI 0, aI 0, aI 0, aI 0, .d (.str [])] [(0, (1, .t 30))]), oP 32 (.call N_shard_Put [] [.t 29, .t 31]), oM 28 32, oP 33 (.ext (.t 28) 0), oP 34 (.ext (.t 28) 1), oP 8 (.alloc (.agg [.d (.bool false), aI 0, aI 0, .xsl [], aI 0, aI 0, .xsl [], .xsl []])), oN (.st 8 (.t 8) (.t 33)), oM 9 34] [25, 28, 29, 30, 31, 32, 33, 34])
 (.seq (.seq (.ops [] [oM 35 9, oP 36 (.bin .neq (.t 35) (kI 0))] [35])
 (.cond (.t 36) (.seq (.seq (.ops [] [oM 37 9, oP 38 (.bin .neq (.t 37) (kI 3)), oM 39 38, oQ 40 (.ld true 8 (.t 5)) 39 false, oQ 41 (.call N_shard_Stored [] [.t 40]) 39 false, oQ 42 (.mv (.t 0)) 39 false, oQ 43 (.bin .neq (.t 41) (.t 42)) 39 false, oP 44 (.pick (.t 39) (.c (.d (.bool true))) (.t 43))] [8, 9, 36, 37, 38, 39, 40, 41, 42, 43])
 (.cond (.t 44) (.seq (.ops [] [oP 4 (.mv (.c (.d (.bool false))))] [0, 1, 5, 7, 44])
 (.ret [4])) .skip))
 (.exit 1 [0, 1, 5, 7])) .skip))
 (.ops [] [oP 45 (.ld true 8 (.t 8)), oN (.st 8 (.t 5) (.t 45))] [8, 9, 36, 45]))))
 (.ops [] [oM 26 7, oP 27 (.bin .add (.t 26) (kI 1)), oM 7 27] [26, 27, 44])))
def c_law07_ShardFull : ACode :=
 (.seq (.ops [] [oP 4 (.mv (.c (.d (.bool false))))] [4])
 (.seq (.ops [] [oM 10 0, oP 11 (.bin .and (.t 10) (kI 65535)), oP 12 (.bin .rem (.t 11) (kI 12)), oP 13 (.bin .add (kI 1) (.t 12)), oM 0 13] [10, 11, 12, 13])
 (.seq (.ops [] [oM 15 0, oP 16 (.call N_shard_New [] [.t 15, kI 0, kI 65535]), oM 14 16, oP 17 (.ext (.t 14) 0), oP 18 (.ext (.t 14) 1), oP 5 (.alloc (.agg [.d (.bool false), aI 0, aI 0, .xsl [], aI 0, aI 0, .xsl [], .xsl []])), oN (.st 8 (.t 5) (.t 17)), oM 6 18] [14, 15, 16, 17, 18])
 (.seq (.seq (.ops [] [oM 19 6, oP 20 (.bin .neq (.t 19) (kI 0))] [6, 19])
 (.cond (.t 20) (.seq (.ops [] [oP 4 (.mv (.c (.d (.bool false))))] [0, 1, 5, 20])
 (.ret [4])) .skip))
 (.seq (.ops [] [oM 21 1, oP 22 (.bin .and (.t 21) (kI 31)), oM 1 22] [20, 21, 22])
 (.seq (.seq (.ops [] [oP 7 (.mv (kI 1))] [])
 (.block 0 (.loop [] l_law07_ShardFull_0)))
 (.seq (.ops [] [oP 46 (.ld true 8 (.t 5)), oP 47 (.call N_shard_Stored [] [.t 46]), oM 48 1, oM 49 0, oP 50 (.mm false [.t 48, .t 49]), oP 51 (.bin .eql (.t 47) (.t 50)), oM 52 51, oQ 53 (.call N_law07_awake [] []) 52 true, oP 54 (.pick (.t 52) (.t 53) (.c (.d (.bool false)))), oM 4 54] [0, 1, 5, 7, 25, 46, 47, 48, 49, 50, 51, 52, 53, 54])
 (.ret [4]))))))))
def r_law07_ShardFull : List ARes := [.t 4]
def fn_law07_ShardFull : AFn := .code c_law07_ShardFull r_law07_ShardFull 55 true
def c_shard_New : ACode :=
 (.seq (.ops [] [oP 6 (.alloc (.agg [.d (.bool false), aI 0, aI 0, .xsl [], aI 0, aI 0, .xsl [], .xsl []])), oP 7 (.mv (kI 0))] [7])
 (.seq (.ops [] [oM 11 0, oP 12 (.call N_ring_New [] [.t 11]), oM 10 12, oP 13 (.ext (.t 10) 0), oP 14 (.ext (.t 10) 1), oP 8 (.alloc (.agg [.xsl [], aI 0, aI 0])), oN (.st 3 (.t 8) (.t 13)), oM 9 14] [0, 10, 11, 12, 13, 14])
 (.seq (.seq (.ops [] [oM 15 9, oP 16 (.bin .neq (.t 15) (kI 0))] [15])
 (.cond (.t 16) (.seq (.ops [] [oP 17 (.build [.d (.bool false), aI 0, aI 0, .xsl [], aI 0, aI 0, .xsl [], .xsl []] []), oM 18 9, oN (.st 8 (.t 6) (.t 17)), oM 7 18] [1, 2, 8, 9, 16, 17, 18])
 (.ret [6, 7])) .skip))
 (.seq (.seq (.ops [] [oM 19 1, oM 20 2, oP 21 (.call N_shard_spans [] [.t 19, .t 20]), oP 22 (.un .not (.t 21))] [9, 16, 19, 20, 21])
 (.cond (.t 22) (.seq (.ops [] [oP 23 (.build [.d (.bool false), aI 0, aI 0, .xsl [], aI 0, aI 0, .xsl [], .xsl []] []), oN (.st 8 (.t 6) (.t 23)), oP 7 (.mv (kI 1))] [1, 2, 8, 22, 23])
 (.ret [6, 7])) .skip))
 (.seq (.ops [] [oM 24 1, oM 25 2, oP 26 (.ld true 3 (.t 8)), oP 27 (.build [.d (.bool false), aI 0, aI 0, .xsl [], aI 0, aI 0, .xsl [], .xsl []] [(0, (1, .c (.d (.bool true)))), (1, (1, .t 24)), (2, (1, .t 25)), (3, (3, .t 26))]), oN (.st 8 (.t 6) (.t 27)), oP 7 (.mv (kI 0))] [1, 2, 8, 22, 24, 25, 26, 27])
 (.ret [6, 7]))))))
def r_shard_New : List ARes := [.c 6 true 8, .t 7]
def fn_shard_New : AFn := .code c_shard_New r_shard_New 28 true
def c_ring_New : ACode :=
 (.seq (.ops [] [oP 2 (.alloc (.agg [.xsl [], aI 0, aI 0])), oP 3 (.mv (kI 0))] [3])
 (.seq (.seq (.ops [] [oM 4 0, oP 5 (.bin .lss (.t 4) (kI 1)), oM 6 5, oQ 7 (.mv (.t 0)) 6 false, oQ 8 (.bin .gtr (.t 7) (kI 12)) 6 false, oP 9 (.pick (.t 6) (.c (.d (.bool true))) (.t 8))] [4, 5, 6, 7, 8])
 (.cond (.t 9) (.seq (.ops [] [oP 10 (.build [.xsl [], aI 0, aI 0] []), oN (.st 3 (.t 2) (.t 10)), oP 3 (.mv (kI 1))] [0, 9, 10])
 (.ret [2, 3])) .skip))
 (.seq (.ops [] [oM 11 0, oP 12 (.mks 7 (.d (.agg [.int .i64 0, .int .i64 0, .int .i64 0, .int .i64 0, .int .i64 0, .int .i64 0, .str []])) (.t 11) (.t 11)), oP 13 (.build [.xsl [], aI 0, aI 0] [(0, (1, .t 12))]), oN (.st 3 (.t 2) (.t 13)), oP 3 (.mv (kI 0))] [0, 9, 11, 12, 13])
 (.ret [2, 3]))))
def r_ring_New : List ARes := [.c 2 true 3, .t 3]
def fn_ring_New : AFn := .code c_ring_New r_ring_New 14 true
def c_shard_spans : ACode :=
 (.seq (.ops [] [oP 4 (.mv (.c (.d (.bool false))))] [4])
 (.seq (.ops [] [oM 5 0, oP 6 (.bin .leq (kI 0) (.t 5)), oM 7 6, oQ 8 (.mv (.t 0)) 7 true, oQ 9 (.mv (.t 1)) 7 true, oQ 10 (.bin .leq (.t 8) (.t 9)) 7 true, oP 11 (.pick (.t 7) (.t 10) (.c (.d (.bool false)))), oM 12 11, oQ 13 (.mv (.t 1)) 12 true, oQ 14 (.bin .lss (.t 13) (kI 65536)) 12 true, oP 15 (.pick (.t 12) (.t 14) (.c (.d (.bool false)))), oM 4 15] [0, 1, 5, 6, 7, 8, 9, 10, 11, 12, 13, 14, 15])
 (.ret [4])))
def r_shard_spans : List ARes := [.t 4]
def fn_shard_spans : AFn := .code c_shard_spans r_shard_spans 16 true
def c_shard_Put : ACode :=
 (.seq (.ops [] [oP 2 (.box (.t 0)), oP 3 (.box (.t 1)), oP 4 (.alloc (.agg [.d (.bool false), aI 0, aI 0, .xsl [], aI 0, aI 0, .xsl [], .xsl []])), oP 5 (.mv (kI 0))] [0, 1, 5])
 (.seq (.seq (.ops [] [oP 7 (.ld true 8 (.t 2)), oP 8 (.call N_shard_live [] [.t 7]), oM 6 8] [7, 8])
 (.seq (.ops [] [oM 9 6, oP 10 (.bin .neq (.t 9) (kI 0))] [9])
 (.cond (.t 10) (.seq (.ops [] [oP 11 (.build [.d (.bool false), aI 0, aI 0, .xsl [], aI 0, aI 0, .xsl [], .xsl []] []), oM 12 6, oN (.st 8 (.t 4) (.t 11)), oM 5 12] [2, 3, 6, 10, 11, 12])
 (.ret [4, 5])) .skip)))
 (.seq (.ops [] [oP 13 (.ld true 8 (.t 2)), oP 14 (.ld true 7 (.t 3)), oP 15 (.call N_shard_put [] [.t 13, .t 14]), oP 16 (.ext (.t 15) 0), oP 17 (.ext (.t 15) 1), oN (.st 8 (.t 4) (.t 16)), oM 5 17] [2, 3, 6, 10, 13, 14, 15, 16, 17])
 (.ret [4, 5]))))
def r_shard_Put : List ARes := [.c 4 true 8, .t 5]
def fn_shard_Put : AFn := .code c_shard_Put r_shard_Put 18 true
def c_shard_live : ACode :=
 (.seq (.ops [] [oP 1 (.box (.t 0)), oP 2 (.mv (kI 0))] [0, 2])
 (.seq (.seq (.ops [] [oP 4 (.ld true 8 (.t 1)), oP 5 (.call N_shard_Validate [] [.t 4]), oM 3 5] [4, 5])
 (.seq (.ops [] [oM 6 3, oP 7 (.bin .neq (.t 6) (kI 0))] [6])
 (.cond (.t 7) (.seq (.ops [] [oM 8 3, oM 2 8] [1, 3, 7, 8])
 (.ret [2])) .skip)))
 (.seq (.seq (.ops [] [oP 9 (.fad false 0 1 (.t 1)), oP 10 (.ld false 1 (.t 9)), oP 11 (.un .not (.t 10))] [1, 3, 7, 9, 10])
 (.cond (.t 11) (.seq (.ops [] [oP 2 (.mv (kI 7))] [11])
 (.ret [2])) .skip))
 (.seq (.ops [] [oP 2 (.mv (kI 0))] [11])
 (.ret [2])))))
def r_shard_live : List ARes := [.t 2]
def fn_shard_live : AFn := .code c_shard_live r_shard_live 12 true
def l_shard_Validate_0 : ACode :=
 (.seq (.ops [] [oP 57 (.bin .lss (.t 56) (.t 55))] [])
 (.seq (.cond (.t 57) .skip (.exit 1 [6]))
 (.seq (.block 2 (.seq (.ops [] [oP 58 (.iad 7 (.t 54) (.t 56)), oP 59 (.ld true 7 (.t 58)), oP 8 (.alloc (.d (.agg [.int .i64 0, .int .i64 0, .int .i64 0, .int .i64 0, .int .i64 0, .int .i64 0, .str []]))), oN (.st 7 (.t 8) (.t 59))] [57, 58, 59])
 (.seq (.seq (.ops [] [oP 60 (.fad false 1 1 (.t 8)), oP 61 (.ld false 1 (.t 60)), oP 62 (.fad false 1 1 (.t 1)), oP 63 (.ld false 1 (.t 62)), oP 64 (.fad false 2 1 (.t 1)), oP 65 (.ld false 1 (.t 64)), oP 66 (.call N_shard_in [] [.t 61, .t 63, .t 65]), oP 67 (.un .not (.t 66))] [60, 61, 62, 63, 64, 65, 66])
 (.cond (.t 67) (.seq (.ops [] [oP 2 (.mv (kI 12))] [1, 5, 6, 8, 54, 55, 56, 67])
 (.ret [2])) .skip))
 (.seq (.ops [] [oM 68 6, oM 69 68, oQ 70 (.mv (.t 5)) 69 false, oQ 71 (.fad false 0 1 (.t 8)) 69 false, oQ 72 (.ld false 1 (.t 71)) 69 false, oQ 73 (.lkp false (.bool false) (.t 70) (.t 72)) 69 false, oP 74 (.pick (.t 69) (.c (.d (.bool true))) (.t 73)), oM 6 74] [67, 68, 69, 70, 71, 72, 73, 74])
 (.ops [] [oM 75 5, oP 76 (.fad false 0 1 (.t 8)), oP 77 (.ld false 1 (.t 76)), oN (.mup (.t 75) (.t 77) (.c (.d (.bool true))))] [8, 75, 76, 77])))))
 (.ops [] [oP 78 (.bin .add (.t 56) (kI 1)), oM 56 78] [78]))))
def c_shard_Validate : ACode :=
 (.seq (.ops [] [oP 1 (.box (.t 0)), oP 2 (.mv (kI 0))] [0, 2])
 (.seq (.seq (.ops [] [oP 9 (.fad true 3 3 (.t 1)), oP 10 (.ld true 3 (.t 9)), oP 11 (.call N_ring_Validate [] [.t 10]), oM 3 11] [9, 10, 11])
 (.seq (.ops [] [oM 12 3, oP 13 (.bin .neq (.t 12) (kI 0))] [12])
 (.cond (.t 13) (.seq (.ops [] [oM 14 3, oM 2 14] [1, 3, 13, 14])
 (.ret [2])) .skip)))
 (.seq (.seq (.ops [] [oP 15 (.fad true 6 2 (.t 1)), oP 16 (.ld true 2 (.t 15)), oP 17 (.call N_lease_Validate [] [.t 16]), oM 4 17] [3, 13, 15, 16, 17])
 (.seq (.ops [] [oM 18 4, oP 19 (.bin .neq (.t 18) (kI 0))] [18])
 (.cond (.t 19) (.seq (.ops [] [oM 20 4, oM 2 20] [1, 4, 19, 20])
 (.ret [2])) .skip)))
 (.seq (.seq (.ops [] [oP 21 (.fad false 0 1 (.t 1)), oP 22 (.ld false 1 (.t 21)), oP 23 (.un .not (.t 22))] [4, 19, 21, 22])
 (.cond (.t 23) (.seq (.seq (.ops [] [oP 24 (.fad false 1 1 (.t 1)), oP 25 (.ld false 1 (.t 24)), oP 26 (.bin .neq (.t 25) (kI 0)), oM 27 26, oQ 28 (.fad false 2 1 (.t 1)) 27 false, oQ 29 (.ld false 1 (.t 28)) 27 false, oQ 30 (.bin .neq (.t 29) (kI 0)) 27 false, oP 31 (.pick (.t 27) (.c (.d (.bool true))) (.t 30)), oM 32 31, oQ 33 (.ld true 8 (.t 1)) 32 false, oQ 34 (.call N_shard_stored [] [.t 33]) 32 false, oQ 35 (.bin .gtr (.t 34) (kI 0)) 32 false, oP 36 (.pick (.t 32) (.c (.d (.bool true))) (.t 35))] [1, 23, 24, 25, 26, 27, 28, 29, 30, 31, 32, 33, 34, 35])
 (.cond (.t 36) (.seq (.ops [] [oP 2 (.mv (kI 7))] [36])
 (.ret [2])) .skip))
 (.seq (.ops [] [oP 2 (.mv (kI 0))] [36])
 (.ret [2]))) .skip))
 (.seq (.block 0 (.seq (.ops [] [oP 38 (.fad false 1 1 (.t 1)), oP 39 (.ld false 1 (.t 38)), oP 40 (.fad false 2 1 (.t 1)), oP 41 (.ld false 1 (.t 40)), oP 42 (.call N_shard_spans [] [.t 39, .t 41]), oP 43 (.un .not (.t 42)), oM 37 43] [23, 38, 39, 40, 41, 42, 43])
 (.cond (.t 37) (.seq (.ops [] [oP 2 (.mv (kI 1))] [1, 37])
 (.ret [2])) (.seq (.draw [] [oP 45 (.ld true 8 (.t 1)), oP 46 (.call N_shard_stored [] [.t 45]), oP 47 (.fad true 3 3 (.t 1)), oP 48 (.fad false 0 1 (.t 47)), oP 49 (.ld false 1 (.t 48)), oP 50 (.len (.t 49)), oP 51 (.bin .gtr (.t 46) (.t 50)), oM 44 51] [[], [], [0, 1], [0, 1], [0, 1], [0, 1], [], []] [37, 45, 46, 47, 48, 49, 50, 51])
 (.cond (.t 44) (.seq (.ops [] [oP 2 (.mv (kI 3))] [1, 44])
 (.ret [2])) .skip)))))
 (.seq (.ops [] [oP 52 .mkm, oM 5 52] [44, 52])
 (.seq (.ops [] [oP 6 (.mv (.c (.d (.bool false))))] [])
 (.seq (.seq (.ops [] [oP 53 (.ld true 8 (.t 1)), oP 54 (.call N_shard_messages [] [.t 53]), oP 55 (.len (.t 54)), oP 56 (.mv (kI 0))] [53])
 (.block 1 (.loop [] l_shard_Validate_0)))
 (.seq (.seq (.ops [] [oM 79 6] [1, 5, 6, 54, 55, 56, 57])
 (.cond (.t 79) (.seq (.ops [] [oP 2 (.mv (kI 10))] [79])
 (.ret [2])) .skip))
 (.seq (.ops [] [oP 2 (.mv (kI 0))] [79])
 (.ret [2])))))))))))
def r_shard_Validate : List ARes := [.t 2]
def fn_shard_Validate : AFn := .code c_shard_Validate r_shard_Validate 80 true
def l_ring_Validate_0 : ACode :=
 (.seq (.seq (.ops [] [oM 43 4, oM 44 3, oP 45 (.bin .lss (.t 43) (.t 44))] [43, 44])
 (.cond (.t 45) .skip (.exit 0 [1])))
 (.seq (.block 1 (.seq (.draw [] [oP 48 (.fad false 0 1 (.t 1)), oP 49 (.ld false 1 (.t 48)), oP 50 (.ld true 3 (.t 1)), oM 51 4, oP 52 (.call N_ring_cell [] [.t 50, .t 51]), oP 53 (.iad 7 (.t 49) (.t 52)), oP 54 (.ld true 7 (.t 53)), oP 55 (.build [aI 0, aI 0, aI 0, aI 0, aI 0, aI 0, .d (.str [])] []), oP 56 (.eqs true 7 [(0, 0), (1, 0), (2, 0), (3, 0), (4, 0), (5, 0), (6, 2)] (.t 54) (.t 55))] [[], [], [0, 1], [0, 1, 2], [0, 1], [], [], [0, 1, 2, 3, 4, 5, 6], []] [45, 48, 49, 50, 51, 52, 53, 54, 55])
 (.cond (.t 56) (.seq (.ops [] [oP 2 (.mv (kI 7))] [1, 3, 4, 56])
 (.ret [2])) .skip)))
 (.ops [] [oM 46 4, oP 47 (.bin .add (.t 46) (kI 1)), oM 4 47] [46, 47, 56])))
def l_ring_Validate_1 : ACode :=
 (.seq (.ops [] [oP 62 (.bin .lss (.t 61) (.t 60))] [])
 (.seq (.cond (.t 62) .skip (.exit 2 [6]))
 (.seq (.block 3 (.seq (.ops [] [oP 63 (.iad 7 (.t 59) (.t 61)), oP 64 (.ld true 7 (.t 63)), oP 8 (.alloc (.d (.agg [.int .i64 0, .int .i64 0, .int .i64 0, .int .i64 0, .int .i64 0, .int .i64 0, .str []]))), oN (.st 7 (.t 8) (.t 64))] [62, 63, 64])
 (.seq (.seq (.ops [] [oP 65 (.ld true 7 (.t 8)), oP 66 (.call N_message_Validate [] [.t 65]), oM 9 66] [65, 66])
 (.seq (.ops [] [oM 67 9, oP 68 (.bin .neq (.t 67) (kI 0))] [67])
 (.cond (.t 68) (.seq (.ops [] [oM 69 9, oM 2 69] [5, 6, 8, 9, 59, 60, 61, 68, 69])
 (.ret [2])) .skip)))
 (.seq (.ops [] [oM 70 6, oM 71 70, oQ 72 (.mv (.t 5)) 71 false, oQ 73 (.fad false 0 1 (.t 8)) 71 false, oQ 74 (.ld false 1 (.t 73)) 71 false, oQ 75 (.lkp false (.bool false) (.t 72) (.t 74)) 71 false, oP 76 (.pick (.t 71) (.c (.d (.bool true))) (.t 75)), oM 6 76] [9, 68, 70, 71, 72, 73, 74, 75, 76])
 (.ops [] [oM 77 5, oP 78 (.fad false 0 1 (.t 8)), oP 79 (.ld false 1 (.t 78)), oN (.mup (.t 77) (.t 79) (.c (.d (.bool true))))] [8, 77, 78, 79])))))
 (.ops [] [oP 80 (.bin .add (.t 61) (kI 1)), oM 61 80] [80]))))
def c_ring_Validate : ACode :=
 (.seq (.ops [] [oP 1 (.box (.t 0)), oP 2 (.mv (kI 0))] [0, 2])
 (.seq (.ops [] [oP 10 (.fad false 0 1 (.t 1)), oP 11 (.ld false 1 (.t 10)), oP 12 (.len (.t 11)), oM 3 12] [10, 11, 12])
 (.seq (.seq (.ops [] [oM 13 3, oP 14 (.bin .lss (.t 13) (kI 1)), oM 15 14, oQ 16 (.mv (.t 3)) 15 false, oQ 17 (.bin .gtr (.t 16) (kI 12)) 15 false, oP 18 (.pick (.t 15) (.c (.d (.bool true))) (.t 17)), oM 19 18, oQ 20 (.fad false 1 1 (.t 1)) 19 false, oQ 21 (.ld false 1 (.t 20)) 19 false, oQ 22 (.bin .lss (.t 21) (kI 0)) 19 false, oP 23 (.pick (.t 19) (.c (.d (.bool true))) (.t 22)), oM 24 23, oQ 25 (.fad false 1 1 (.t 1)) 24 false, oQ 26 (.ld false 1 (.t 25)) 24 false, oQ 27 (.mv (.t 3)) 24 false, oQ 28 (.bin .geq (.t 26) (.t 27)) 24 false, oP 29 (.pick (.t 24) (.c (.d (.bool true))) (.t 28)), oM 30 29, oQ 31 (.fad false 2 1 (.t 1)) 30 false, oQ 32 (.ld false 1 (.t 31)) 30 false, oQ 33 (.bin .lss (.t 32) (kI 0)) 30 false, oP 34 (.pick (.t 30) (.c (.d (.bool true))) (.t 33)), oM 35 34, oQ 36 (.fad false 2 1 (.t 1)) 35 false, oQ 37 (.ld false 1 (.t 36)) 35 false, oQ 38 (.mv (.t 3)) 35 false, oQ 39 (.bin .gtr (.t 37) (.t 38)) 35 false, oP 40 (.pick (.t 35) (.c (.d (.bool true))) (.t 39))] [13, 14, 15, 16, 17, 18, 19, 20, 21, 22, 23, 24, 25, 26, 27, 28, 29, 30, 31, 32, 33, 34, 35, 36, 37, 38, 39])
 (.cond (.t 40) (.seq (.ops [] [oP 2 (.mv (kI 1))] [1, 3, 40])
 (.ret [2])) .skip))
 (.seq (.seq (.ops [] [oP 41 (.fad false 2 1 (.t 1)), oP 42 (.ld false 1 (.t 41)), oM 4 42] [40, 41, 42])
 (.block 0 (.loop [] l_ring_Validate_0)))
 (.seq (.ops [] [oP 57 .mkm, oM 5 57] [3, 4, 45, 57])
 (.seq (.ops [] [oP 6 (.mv (.c (.d (.bool false))))] [])
 (.seq (.seq (.ops [] [oP 58 (.ld true 3 (.t 1)), oP 59 (.call N_ring_list [] [.t 58]), oP 60 (.len (.t 59)), oP 61 (.mv (kI 0))] [1, 58])
 (.block 2 (.loop [] l_ring_Validate_1)))
 (.seq (.seq (.ops [] [oM 81 6] [5, 6, 59, 60, 61, 62])
 (.cond (.t 81) (.seq (.ops [] [oP 2 (.mv (kI 10))] [81])
 (.ret [2])) .skip))
 (.seq (.ops [] [oP 2 (.mv (kI 0))] [81])
 (.ret [2]))))))))))
def r_ring_Validate : List ARes := [.t 2]
def fn_ring_Validate : AFn := .code c_ring_Validate r_ring_Validate 82 true
def c_ring_cell : ACode :=
 (.seq (.ops [] [oP 2 (.box (.t 0)), oP 4 (.mv (kI 0))] [0, 4])
 (.seq (.ops [] [oP 5 (.fad false 1 1 (.t 2)), oP 6 (.ld false 1 (.t 5)), oM 7 1, oP 8 (.bin .add (.t 6) (.t 7)), oP 9 (.fad false 0 1 (.t 2)), oP 10 (.ld false 1 (.t 9)), oP 11 (.len (.t 10)), oP 12 (.bin .rem (.t 8) (.t 11)), oM 4 12] [1, 2, 5, 6, 7, 8, 9, 10, 11, 12])
 (.ret [4])))
def r_ring_cell : List ARes := [.t 4]
def fn_ring_cell : AFn := .code c_ring_cell r_ring_cell 13 true
def l_ring_list_0 : ACode :=
 (.seq (.ops [] [oP 8 (.bin .lss (.t 7) (.t 6))] [])
 (.seq (.cond (.t 8) .skip (.exit 0 [3]))
 (.seq (.block 1 (.seq (.ops [] [oM 9 7, oM 4 9] [8, 9])
 (.draw [] [oM 10 3, oP 11 (.fad false 0 1 (.t 1)), oP 12 (.ld false 1 (.t 11)), oP 13 (.ld true 3 (.t 1)), oM 14 4, oP 15 (.call N_ring_cell [] [.t 13, .t 14]), oP 16 (.iad 7 (.t 12) (.t 15)), oP 17 (.ld true 7 (.t 16)), oP 18 (.bsl 1 7 (.d (.agg [.int .i64 0, .int .i64 0, .int .i64 0, .int .i64 0, .int .i64 0, .int .i64 0, .str []])) [(0, .t 17)]), oP 19 (.app 7 (.t 10) (.t 18)), oM 3 19] [[], [0], [0], [0, 1, 2], [0, 1, 2, 3], [0, 1, 2], [0], [0], [0], [], []] [4, 10, 11, 12, 13, 14, 15, 16, 17, 18, 19])))
 (.ops [] [oP 20 (.bin .add (.t 7) (kI 1)), oM 7 20] [20]))))
def c_ring_list : ACode :=
 (.seq (.ops [] [oP 1 (.box (.t 0)), oP 2 (.mv (.c (.xsl [])))] [0, 2])
 (.seq (.ops [] [oP 3 .nacc] [])
 (.seq (.seq (.ops [] [oP 5 (.fad false 2 1 (.t 1)), oP 6 (.ld false 1 (.t 5)), oP 7 (.mv (kI 0))] [5])
 (.block 0 (.loop [] l_ring_list_0)))
 (.seq (.ops [] [oM 21 3, oM 2 21] [1, 3, 6, 7, 8, 21])
 (.ret [2])))))
def r_ring_list : List ARes := [.t 2]
def fn_ring_list : AFn := .code c_ring_list r_ring_list 22 false
def c_message_Validate : ACode :=
 (.seq (.ops [] [oP 1 (.box (.t 0)), oP 2 (.mv (kI 0))] [0, 2])
 (.seq (.seq (.ops [] [oP 3 (.fad false 0 1 (.t 1)), oP 4 (.ld false 1 (.t 3)), oP 5 (.call N_message_in [] [.t 4, kI 1, kI 1073741824]), oP 6 (.un .not (.t 5)), oM 7 6, oQ 8 (.fad false 1 1 (.t 1)) 7 false, oQ 9 (.ld false 1 (.t 8)) 7 false, oQ 10 (.call N_message_in [] [.t 9, kI 0, kI 65535]) 7 false, oQ 11 (.un .not (.t 10)) 7 false, oP 12 (.pick (.t 7) (.c (.d (.bool true))) (.t 11)), oM 13 12, oQ 14 (.fad false 2 1 (.t 1)) 13 false, oQ 15 (.ld false 1 (.t 14)) 13 false, oQ 16 (.call N_message_in [] [.t 15, kI 0, kI 65536]) 13 false, oQ 17 (.un .not (.t 16)) 13 false, oP 18 (.pick (.t 13) (.c (.d (.bool true))) (.t 17)), oM 19 18, oQ 20 (.fad false 3 1 (.t 1)) 19 false, oQ 21 (.ld false 1 (.t 20)) 19 false, oQ 22 (.call N_message_in [] [.t 21, kI 0, kI 8]) 19 false, oQ 23 (.un .not (.t 22)) 19 false, oP 24 (.pick (.t 19) (.c (.d (.bool true))) (.t 23)), oM 25 24, oQ 26 (.fad false 4 1 (.t 1)) 25 false, oQ 27 (.ld false 1 (.t 26)) 25 false, oQ 28 (.fad false 3 1 (.t 1)) 25 false, oQ 29 (.ld false 1 (.t 28)) 25 false, oQ 30 (.call N_message_in [] [.t 27, .t 29, kI 65536]) 25 false, oQ 31 (.un .not (.t 30)) 25 false, oP 32 (.pick (.t 25) (.c (.d (.bool true))) (.t 31)), oM 33 32, oQ 34 (.fad false 5 1 (.t 1)) 33 false, oQ 35 (.ld false 1 (.t 34)) 33 false, oQ 36 (.call N_message_in [] [.t 35, kI 0, kI 1073741824]) 33 false, oQ 37 (.un .not (.t 36)) 33 false, oP 38 (.pick (.t 33) (.c (.d (.bool true))) (.t 37))] [3, 4, 5, 6, 7, 8, 9, 10, 11, 12, 13, 14, 15, 16, 17, 18, 19, 20, 21, 22, 23, 24, 25, 26, 27, 28, 29, 30, 31, 32, 33, 34, 35, 36, 37])
 (.cond (.t 38) (.seq (.ops [] [oP 2 (.mv (kI 1))] [1, 38])
 (.ret [2])) .skip))
 (.seq (.seq (.ops [] [oP 39 (.fad false 6 1 (.t 1)), oP 40 (.ld false 1 (.t 39)), oP 41 (.lens (.t 40)), oP 42 (.bin .gtr (.t 41) (kI 16))] [1, 38, 39, 40, 41])
 (.cond (.t 42) (.seq (.ops [] [oP 2 (.mv (kI 2))] [42])
 (.ret [2])) .skip))
 (.seq (.ops [] [oP 2 (.mv (kI 0))] [42])
 (.ret [2])))))
def r_message_Validate : List ARes := [.t 2]
def fn_message_Validate : AFn := .code c_message_Validate r_message_Validate 43 true
def c_message_in : ACode :=
 (.seq (.ops [] [oP 6 (.mv (.c (.d (.bool false))))] [6])
 (.seq (.ops [] [oM 7 1, oM 8 0, oP 9 (.bin .leq (.t 7) (.t 8)), oM 10 9, oQ 11 (.mv (.t 0)) 10 true, oQ 12 (.mv (.t 2)) 10 true, oQ 13 (.bin .leq (.t 11) (.t 12)) 10 true, oP 14 (.pick (.t 10) (.t 13) (.c (.d (.bool false)))), oM 6 14] [0, 1, 2, 7, 8, 9, 10, 11, 12, 13, 14])
 (.ret [6])))
def r_message_in : List ARes := [.t 6]
def fn_message_in : AFn := .code c_message_in r_message_in 15 true
def l_lease_Validate_0 : ACode :=
 (.seq (.ops [] [oP 15 (.bin .lss (.t 14) (.t 13))] [])
 (.seq (.cond (.t 15) .skip (.exit 0 [1]))
 (.seq (.block 1 (.seq (.ops [] [oM 16 14, oP 17 (.iad 8 (.t 12) (.t 14)), oP 18 (.ld true 8 (.t 17)), oP 4 (.alloc (.d (.agg [.int .i64 0, .int .i64 0, .int .i64 0, .int .i64 0, .int .i64 0, .int .i64 0, .str [], .int .i64 0]))), oM 3 16, oN (.st 8 (.t 4) (.t 18))] [15, 16, 17, 18])
 (.seq (.seq (.ops [] [oP 19 (.fad true 0 7 (.t 4)), oP 20 (.ld true 7 (.t 19)), oP 21 (.call N_message_Validate [] [.t 20]), oM 5 21] [19, 20, 21])
 (.seq (.ops [] [oM 22 5, oP 23 (.bin .neq (.t 22) (kI 0))] [22])
 (.cond (.t 23) (.seq (.ops [] [oM 24 5, oM 2 24] [1, 3, 4, 5, 12, 13, 14, 23, 24])
 (.ret [2])) .skip)))
 (.block 2 (.seq (.ops [] [oP 26 (.fad true 0 7 (.t 4)), oP 27 (.fad false 4 1 (.t 26)), oP 28 (.ld false 1 (.t 27)), oP 29 (.bin .eql (.t 28) (kI 0)), oM 25 29] [5, 23, 26, 27, 28, 29])
 (.cond (.t 25) (.seq (.ops [] [oP 2 (.mv (kI 7))] [1, 3, 4, 12, 13, 14, 25])
 (.ret [2])) (.seq (.ops [] [oP 31 (.fad false 7 1 (.t 4)), oP 32 (.ld false 1 (.t 31)), oP 33 (.call N_lease_time [] [.t 32]), oP 34 (.un .not (.t 33)), oM 30 34] [25, 31, 32, 33, 34])
 (.cond (.t 30) (.seq (.ops [] [oP 2 (.mv (kI 1))] [1, 3, 4, 12, 13, 14, 30])
 (.ret [2])) (.seq (.draw [] [oM 36 3, oP 37 (.bin .gtr (.t 36) (kI 0)), oM 38 37, oQ 39 (.fad true 0 7 (.t 4)) 38 true, oQ 40 (.fad false 0 1 (.t 39)) 38 true, oQ 41 (.ld false 1 (.t 40)) 38 true, oQ 42 (.fad false 0 1 (.t 1)) 38 true, oQ 43 (.ld false 1 (.t 42)) 38 true, oQ 44 (.mv (.t 3)) 38 true, oQ 45 (.bin .sub (.t 44) (kI 1)) 38 true, oQ 46 (.iad 8 (.t 43) (.t 45)) 38 true, oQ 47 (.fad true 0 7 (.t 46)) 38 true, oQ 48 (.fad false 0 1 (.t 47)) 38 true, oQ 49 (.ld false 1 (.t 48)) 38 true, oQ 50 (.bin .leq (.t 41) (.t 49)) 38 true, oP 51 (.pick (.t 38) (.t 50) (.c (.d (.bool false)))), oM 35 51] [[], [], [], [], [], [], [3, 4, 5], [3, 4, 5], [3, 4, 5, 6, 7], [3, 4, 5, 6, 7], [3, 4, 5], [3, 4, 5], [3, 4, 5], [3, 4, 5], [], [], []] [3, 4, 30, 36, 37, 38, 39, 40, 41, 42, 43, 44, 45, 46, 47, 48, 49, 50, 51])
 (.cond (.t 35) (.seq (.ops [] [oP 2 (.mv (kI 11))] [1, 12, 13, 14, 35])
 (.ret [2])) .skip))))))))))
 (.ops [] [oP 52 (.bin .add (.t 14) (kI 1)), oM 14 52] [35, 52]))))
def c_lease_Validate : ACode :=
 (.seq (.ops [] [oP 1 (.box (.t 0)), oP 2 (.mv (kI 0))] [0, 2])
 (.seq (.seq (.ops [] [oP 7 (.fad false 0 1 (.t 1)), oP 8 (.ld false 1 (.t 7)), oP 9 (.len (.t 8)), oP 10 (.bin .gtr (.t 9) (kI 12))] [7, 8, 9])
 (.cond (.t 10) (.seq (.ops [] [oP 2 (.mv (kI 2))] [1, 10])
 (.ret [2])) .skip))
 (.seq (.seq (.ops [] [oP 11 (.fad false 0 1 (.t 1)), oP 12 (.ld false 1 (.t 11)), oP 13 (.len (.t 12)), oP 14 (.mv (kI 0))] [10, 11])
 (.block 0 (.loop [] l_lease_Validate_0)))
 (.seq (.seq (.ops [] [oP 53 (.fad false 1 1 (.t 1)), oP 54 (.ld false 1 (.t 53)), oP 55 (.call N_due_Validate [] [.t 54]), oM 6 55] [12, 13, 14, 15, 53, 54, 55])
 (.seq (.ops [] [oM 56 6, oP 57 (.bin .neq (.t 56) (kI 0))] [56])
 (.cond (.t 57) (.seq (.ops [] [oM 58 6, oM 2 58] [1, 6, 57, 58])
 (.ret [2])) .skip)))
 (.seq (.seq (.ops [] [oP 59 (.ld true 2 (.t 1)), oP 60 (.call N_lease_matches [] [.t 59]), oP 61 (.un .not (.t 60))] [1, 6, 57, 59, 60])
 (.cond (.t 61) (.seq (.ops [] [oP 2 (.mv (kI 7))] [61])
 (.ret [2])) .skip))
 (.seq (.ops [] [oP 2 (.mv (kI 0))] [61])
 (.ret [2])))))))
def r_lease_Validate : List ARes := [.t 2]
def fn_lease_Validate : AFn := .code c_lease_Validate r_lease_Validate 62 true
def c_lease_time : ACode :=
 (.seq (.ops [] [oP 2 (.mv (.c (.d (.bool false))))] [2])
 (.seq (.ops [] [oM 3 0, oP 4 (.bin .geq (.t 3) (kI 0)), oM 5 4, oQ 6 (.mv (.t 0)) 5 true, oQ 7 (.bin .leq (.t 6) (kI 1073741824)) 5 true, oP 8 (.pick (.t 5) (.t 7) (.c (.d (.bool false)))), oM 2 8] [0, 3, 4, 5, 6, 7, 8])
 (.ret [2])))
def r_lease_time : List ARes := [.t 2]
def fn_lease_time : AFn := .code c_lease_time r_lease_time 9 true
def l_due_Validate_0 : ACode :=
 (.seq (.ops [] [oP 14 (.bin .lss (.t 13) (.t 12))] [])
 (.seq (.cond (.t 14) .skip (.exit 0 [0]))
 (.seq (.block 1 (.seq (.ops [] [oM 15 13, oP 16 (.iad 2 (.t 11) (.t 13)), oP 17 (.ld true 2 (.t 16)), oP 4 (.alloc (.d (.agg [.int .i64 0, .int .i64 0]))), oM 3 15, oN (.st 2 (.t 4) (.t 17))] [14, 15, 16, 17])
 (.seq (.ops [] [oM 18 0, oP 19 (.fad false 1 1 (.t 4)), oP 20 (.ld false 1 (.t 19)), oP 21 (.call N_due_find [] [.t 18, .t 20]), oM 22 3, oP 23 (.bin .neq (.t 21) (.t 22))] [3, 4, 18, 19, 20, 21, 22])
 (.cond (.t 23) (.seq (.ops [] [oP 2 (.mv (kI 10))] [0, 11, 12, 13, 23])
 (.ret [2])) .skip))))
 (.ops [] [oP 24 (.bin .add (.t 13) (kI 1)), oM 13 24] [23, 24]))))
def l_due_Validate_1 : ACode :=
 (.seq (.seq (.ops [] [oM 25 5, oM 26 0, oP 27 (.len (.t 26)), oP 28 (.bin .lss (.t 25) (.t 27))] [25, 26, 27])
 (.cond (.t 28) .skip (.exit 2 [])))
 (.seq (.block 3 (.seq (.ops [] [oM 31 0, oM 32 5, oM 33 5, oP 34 (.bin .sub (.t 33) (kI 1)), oP 35 (.bin .quo (.t 34) (kI 2)), oP 36 (.call N_due_before [] [.t 31, .t 32, .t 35])] [28, 31, 32, 33, 34, 35])
 (.cond (.t 36) (.seq (.ops [] [oP 2 (.mv (kI 11))] [0, 5, 36])
 (.ret [2])) .skip)))
 (.ops [] [oM 29 5, oP 30 (.bin .add (.t 29) (kI 1)), oM 5 30] [29, 30, 36])))
def c_due_Validate : ACode :=
 (.seq (.ops [] [oP 2 (.mv (kI 0))] [2])
 (.seq (.seq (.ops [] [oM 6 0, oP 7 (.len (.t 6)), oP 8 (.bin .gtr (.t 7) (kI 12))] [6, 7])
 (.cond (.t 8) (.seq (.ops [] [oP 2 (.mv (kI 2))] [0, 8])
 (.ret [2])) .skip))
 (.seq (.seq (.ops [] [oM 9 0, oP 10 (.call N_slices_ContainsFunc_api_Due [] [.t 9, .c (.d (.fn N_due_Validate_1 []))])] [8, 9])
 (.cond (.t 10) (.seq (.ops [] [oP 2 (.mv (kI 1))] [0, 10])
 (.ret [2])) .skip))
 (.seq (.seq (.ops [] [oM 11 0, oP 12 (.len (.t 11)), oP 13 (.mv (kI 0))] [10])
 (.block 0 (.loop [] l_due_Validate_0)))
 (.seq (.seq (.ops [] [oP 5 (.mv (kI 1))] [11, 12, 13, 14])
 (.block 2 (.loop [] l_due_Validate_1)))
 (.seq (.ops [] [oP 2 (.mv (kI 0))] [0, 5, 28])
 (.ret [2])))))))
def r_due_Validate : List ARes := [.t 2]
def fn_due_Validate : AFn := .code c_due_Validate r_due_Validate 37 true
def c_slices_ContainsFunc_api_Due : ACode :=
 (.seq (.ops [] [oP 4 (.mv (.c (.d (.bool false))))] [4])
 (.seq (.ops [] [oM 5 0, oM 6 1, oP 7 (.call N_slices_IndexFunc_api_Due [] [.t 5, .t 6]), oP 8 (.bin .geq (.t 7) (kI 0)), oM 4 8] [0, 1, 5, 6, 7, 8])
 (.ret [4])))
def r_slices_ContainsFunc_api_Due : List ARes := [.t 4]
def fn_slices_ContainsFunc_api_Due : AFn := .code c_slices_ContainsFunc_api_Due r_slices_ContainsFunc_api_Due 9 true
def l_slices_IndexFunc_api_Due_0 : ACode :=
 (.seq (.ops [] [oP 9 (.bin .lss (.t 8) (.t 7))] [])
 (.seq (.cond (.t 9) .skip (.exit 0 []))
 (.seq (.block 1 (.seq (.ops [] [oM 10 8, oM 5 10] [9, 10])
 (.seq (.ops [] [oM 11 1, oM 12 0, oM 13 5, oP 14 (.iad 2 (.t 12) (.t 13)), oP 15 (.ld true 2 (.t 14)), oP 16 (.callv (.t 11) [] [.t 15])] [11, 12, 13, 14, 15])
 (.cond (.t 16) (.seq (.ops [] [oM 17 5, oM 4 17] [0, 1, 5, 7, 8, 16, 17])
 (.ret [4])) .skip))))
 (.ops [] [oP 18 (.bin .add (.t 8) (kI 1)), oM 8 18] [5, 16, 18]))))
def c_slices_IndexFunc_api_Due : ACode :=
 (.seq (.ops [] [oP 4 (.mv (kI 0))] [4])
 (.seq (.seq (.ops [] [oM 6 0, oP 7 (.len (.t 6)), oP 8 (.mv (kI 0))] [6])
 (.block 0 (.loop [] l_slices_IndexFunc_api_Due_0)))
 (.seq (.ops [] [oP 4 (.mv (kI (-1)))] [0, 1, 7, 8, 9])
 (.ret [4]))))
def r_slices_IndexFunc_api_Due : List ARes := [.t 4]
def fn_slices_IndexFunc_api_Due : AFn := .code c_slices_IndexFunc_api_Due r_slices_IndexFunc_api_Due 19 true
def c_due_Validate_1 : ACode :=
 (.seq (.ops [] [oP 1 (.box (.t 0)), oP 2 (.mv (.c (.d (.bool false))))] [0, 2])
 (.seq (.ops [] [oP 3 (.ld true 2 (.t 1)), oP 4 (.call N_due_valid [] [.t 3]), oP 5 (.un .not (.t 4)), oM 2 5] [1, 3, 4, 5])
 (.ret [2])))
def r_due_Validate_1 : List ARes := [.t 2]
def fn_due_Validate_1 : AFn := .code c_due_Validate_1 r_due_Validate_1 6 true
def c_due_valid : ACode :=
 (.seq (.ops [] [oP 1 (.box (.t 0)), oP 2 (.mv (.c (.d (.bool false))))] [0, 2])
 (.seq (.ops [] [oP 3 (.fad false 0 1 (.t 1)), oP 4 (.ld false 1 (.t 3)), oP 5 (.bin .geq (.t 4) (kI 0)), oM 6 5, oQ 7 (.fad false 0 1 (.t 1)) 6 true, oQ 8 (.ld false 1 (.t 7)) 6 true, oQ 9 (.bin .leq (.t 8) (kI 1073741824)) 6 true, oP 10 (.pick (.t 6) (.t 9) (.c (.d (.bool false)))), oM 11 10, oQ 12 (.fad false 1 1 (.t 1)) 11 true, oQ 13 (.ld false 1 (.t 12)) 11 true, oQ 14 (.bin .geq (.t 13) (kI 1)) 11 true, oP 15 (.pick (.t 11) (.t 14) (.c (.d (.bool false)))), oM 16 15, oQ 17 (.fad false 1 1 (.t 1)) 16 true, oQ 18 (.ld false 1 (.t 17)) 16 true, oQ 19 (.bin .leq (.t 18) (kI 1073741824)) 16 true, oP 20 (.pick (.t 16) (.t 19) (.c (.d (.bool false)))), oM 2 20] [1, 3, 4, 5, 6, 7, 8, 9, 10, 11, 12, 13, 14, 15, 16, 17, 18, 19, 20])
 (.ret [2])))
def r_due_valid : List ARes := [.t 2]
def fn_due_valid : AFn := .code c_due_valid r_due_valid 21 true
def c_due_find : ACode :=
 (.seq (.ops [] [oP 3 (.box (.t 1)), oP 4 (.mv (kI 0))] [1, 4])
 (.seq (.ops [] [oM 5 0, oP 6 (.mkfn N_due_find_1 [.t 3]), oP 7 (.call N_slices_IndexFunc_api_Due [] [.t 5, .t 6]), oM 4 7] [0, 3, 5, 6, 7])
 (.ret [4])))
def r_due_find : List ARes := [.t 4]
def fn_due_find : AFn := .code c_due_find r_due_find 8 true
def c_due_find_1 : ACode :=
 (.seq (.ops [] [oP 2 (.box (.t 0)), oP 3 (.mv (.c (.d (.bool false))))] [0, 3])
 (.seq (.ops [] [oP 4 (.fad false 1 1 (.t 2)), oP 5 (.ld false 1 (.t 4)), oP 6 (.ld false 1 (.t 1)), oP 7 (.bin .eql (.t 5) (.t 6)), oM 3 7] [1, 2, 4, 5, 6, 7])
 (.ret [3])))
def r_due_find_1 : List ARes := [.t 3]
def fn_due_find_1 : AFn := .code c_due_find_1 r_due_find_1 8 true
def c_due_before : ACode :=
 (.seq (.ops [] [oP 6 (.mv (.c (.d (.bool false))))] [6])
 (.seq (.draw [] [oM 7 0, oM 8 1, oP 9 (.iad 2 (.t 7) (.t 8)), oP 10 (.ld true 2 (.t 9)), oM 11 0, oM 12 2, oP 13 (.iad 2 (.t 11) (.t 12)), oP 14 (.ld true 2 (.t 13)), oP 15 (.call N_due_compare [] [.t 10, .t 14]), oP 16 (.bin .lss (.t 15) (kI 0)), oM 6 16] [[], [0], [], [], [0, 1, 2, 3], [0, 1, 2, 3, 4], [0, 1, 2, 3], [0, 1, 2, 3], [], [], []] [0, 1, 2, 7, 8, 9, 10, 11, 12, 13, 14, 15, 16])
 (.ret [6])))
def r_due_before : List ARes := [.t 6]
def fn_due_before : AFn := .code c_due_before r_due_before 17 true
def c_due_compare : ACode :=
 (.seq (.ops [] [oP 2 (.box (.t 0)), oP 3 (.box (.t 1)), oP 4 (.mv (kI 0))] [0, 1, 4])
 (.seq (.draw [] [oP 5 (.fad false 0 1 (.t 2)), oP 6 (.ld false 1 (.t 5)), oP 7 (.fad false 0 1 (.t 3)), oP 8 (.ld false 1 (.t 7)), oP 9 (.call N_cmp_Compare_int [] [.t 6, .t 8]), oP 10 (.fad false 1 1 (.t 2)), oP 11 (.ld false 1 (.t 10)), oP 12 (.fad false 1 1 (.t 3)), oP 13 (.ld false 1 (.t 12)), oP 14 (.call N_cmp_Compare_int [] [.t 11, .t 13]), oP 15 (.bsl 2 1 (aI 0) [(0, .t 9), (1, .t 14)]), oP 16 (.call N_cmp_Or_int [] [.t 15]), oM 4 16] [[], [], [0, 1], [0, 1], [], [0, 1, 2, 3, 4], [0, 1, 2, 3, 4], [0, 1, 2, 3, 4, 5, 6], [0, 1, 2, 3, 4, 5, 6], [], [], [], []] [2, 3, 5, 6, 7, 8, 9, 10, 11, 12, 13, 14, 15, 16])
 (.ret [4])))
def r_due_compare : List ARes := [.t 4]
def fn_due_compare : AFn := .code c_due_compare r_due_compare 17 true
def c_cmp_Compare_int : ACode :=
 (.seq (.ops [] [oP 4 (.mv (kI 0))] [4])
 (.seq (.ops [] [oM 7 0, oP 8 (.call N_cmp_isNaN_int [] [.t 7]), oM 5 8] [7, 8])
 (.seq (.ops [] [oM 9 1, oP 10 (.call N_cmp_isNaN_int [] [.t 9]), oM 6 10] [9, 10])
 (.seq (.seq (.ops [] [oM 11 5] [5])
 (.cond (.t 11) (.seq (.seq (.ops [] [oM 12 6] [0, 1, 6, 11])
 (.cond (.t 12) (.seq (.ops [] [oP 4 (.mv (kI 0))] [12])
 (.ret [4])) .skip))
 (.seq (.ops [] [oP 4 (.mv (kI (-1)))] [12])
 (.ret [4]))) .skip))
 (.seq (.seq (.ops [] [oM 13 6] [6, 11])
 (.cond (.t 13) (.seq (.ops [] [oP 4 (.mv (kI 1))] [0, 1, 13])
 (.ret [4])) .skip))
 (.seq (.seq (.ops [] [oM 14 0, oM 15 1, oP 16 (.bin .lss (.t 14) (.t 15))] [13, 14, 15])
 (.cond (.t 16) (.seq (.ops [] [oP 4 (.mv (kI (-1)))] [0, 1, 16])
 (.ret [4])) .skip))
 (.seq (.seq (.ops [] [oM 17 0, oM 18 1, oP 19 (.bin .gtr (.t 17) (.t 18))] [0, 1, 16, 17, 18])
 (.cond (.t 19) (.seq (.ops [] [oP 4 (.mv (kI 1))] [19])
 (.ret [4])) .skip))
 (.seq (.ops [] [oP 4 (.mv (kI 0))] [19])
 (.ret [4])))))))))
def r_cmp_Compare_int : List ARes := [.t 4]
def fn_cmp_Compare_int : AFn := .code c_cmp_Compare_int r_cmp_Compare_int 20 true
def c_cmp_isNaN_int : ACode :=
 (.seq (.ops [] [oP 2 (.mv (.c (.d (.bool false))))] [2])
 (.seq (.ops [] [oM 3 0, oM 4 0, oP 5 (.bin .neq (.t 3) (.t 4)), oM 2 5] [0, 3, 4, 5])
 (.ret [2])))
def r_cmp_isNaN_int : List ARes := [.t 2]
def fn_cmp_isNaN_int : AFn := .code c_cmp_isNaN_int r_cmp_isNaN_int 6 true
def l_cmp_Or_int_0 : ACode :=
 (.seq (.ops [] [oP 9 (.bin .lss (.t 8) (.t 7))] [])
 (.seq (.cond (.t 9) .skip (.exit 0 [3]))
 (.seq (.block 1 (.seq (.ops [] [oP 10 (.iad 1 (.t 6) (.t 8)), oP 11 (.ld false 1 (.t 10)), oM 5 11] [9, 10, 11])
 (.seq (.ops [] [oM 12 5, oM 13 3, oP 14 (.bin .neq (.t 12) (.t 13))] [12, 13])
 (.cond (.t 14) (.seq (.ops [] [oM 15 5, oM 2 15] [3, 5, 6, 7, 8, 14, 15])
 (.ret [2])) .skip))))
 (.ops [] [oP 16 (.bin .add (.t 8) (kI 1)), oM 8 16] [5, 14, 16]))))
def c_cmp_Or_int : ACode :=
 (.seq (.ops [] [oP 2 (.mv (kI 0))] [2])
 (.seq (.ops [] [oP 3 (.mv (kI 0))] [])
 (.seq (.seq (.ops [] [oM 6 0, oP 7 (.len (.t 6)), oP 8 (.mv (kI 0))] [0])
 (.block 0 (.loop [] l_cmp_Or_int_0)))
 (.seq (.ops [] [oM 17 3, oM 2 17] [3, 6, 7, 8, 9, 17])
 (.ret [2])))))
def r_cmp_Or_int : List ARes := [.t 2]
def fn_cmp_Or_int : AFn := .code c_cmp_Or_int r_cmp_Or_int 18 true
def l_lease_matches_0 : ACode :=
 (.seq (.ops [] [oP 16 (.bin .lss (.t 15) (.t 14))] [])
 (.seq (.cond (.t 16) .skip (.exit 0 []))
 (.seq (.block 1 (.seq (.ops [] [oP 17 (.iad 8 (.t 13) (.t 15)), oP 18 (.ld true 8 (.t 17)), oP 4 (.alloc (.d (.agg [.int .i64 0, .int .i64 0, .int .i64 0, .int .i64 0, .int .i64 0, .int .i64 0, .str [], .int .i64 0]))), oN (.st 8 (.t 4) (.t 18))] [16, 17, 18])
 (.seq (.ops [] [oP 19 (.fad false 1 1 (.t 1)), oP 20 (.ld false 1 (.t 19)), oP 21 (.fad false 7 1 (.t 4)), oP 22 (.ld false 1 (.t 21)), oP 23 (.fad true 0 7 (.t 4)), oP 24 (.fad false 0 1 (.t 23)), oP 25 (.ld false 1 (.t 24)), oP 26 (.build [aI 0, aI 0] [(0, (1, .t 22)), (1, (1, .t 25))]), oP 27 (.call N_slices_Contains_api_Due [] [.t 20, .t 26]), oP 28 (.un .not (.t 27))] [4, 19, 20, 21, 22, 23, 24, 25, 26, 27])
 (.cond (.t 28) (.seq (.ops [] [oP 2 (.mv (.c (.d (.bool false))))] [1, 13, 14, 15, 28])
 (.ret [2])) .skip))))
 (.ops [] [oP 29 (.bin .add (.t 15) (kI 1)), oM 15 29] [28, 29]))))
def c_lease_matches : ACode :=
 (.seq (.ops [] [oP 1 (.box (.t 0)), oP 2 (.mv (.c (.d (.bool false))))] [0, 2])
 (.seq (.seq (.ops [] [oP 5 (.fad false 1 1 (.t 1)), oP 6 (.ld false 1 (.t 5)), oP 7 (.len (.t 6)), oP 8 (.fad false 0 1 (.t 1)), oP 9 (.ld false 1 (.t 8)), oP 10 (.len (.t 9)), oP 11 (.bin .neq (.t 7) (.t 10))] [5, 6, 7, 8, 9, 10])
 (.cond (.t 11) (.seq (.ops [] [oP 2 (.mv (.c (.d (.bool false))))] [1, 11])
 (.ret [2])) .skip))
 (.seq (.seq (.ops [] [oP 12 (.fad false 0 1 (.t 1)), oP 13 (.ld false 1 (.t 12)), oP 14 (.len (.t 13)), oP 15 (.mv (kI 0))] [11, 12])
 (.block 0 (.loop [] l_lease_matches_0)))
 (.seq (.ops [] [oP 2 (.mv (.c (.d (.bool true))))] [1, 13, 14, 15, 16])
 (.ret [2])))))
def r_lease_matches : List ARes := [.t 2]
def fn_lease_matches : AFn := .code c_lease_matches r_lease_matches 30 true
def c_slices_Contains_api_Due : ACode :=
 (.seq (.ops [] [oP 3 (.box (.t 1)), oP 4 (.mv (.c (.d (.bool false))))] [1, 4])
 (.seq (.ops [] [oM 5 0, oP 6 (.ld true 2 (.t 3)), oP 7 (.call N_slices_Index_api_Due [] [.t 5, .t 6]), oP 8 (.bin .geq (.t 7) (kI 0)), oM 4 8] [0, 3, 5, 6, 7, 8])
 (.ret [4])))
def r_slices_Contains_api_Due : List ARes := [.t 4]
def fn_slices_Contains_api_Due : AFn := .code c_slices_Contains_api_Due r_slices_Contains_api_Due 9 true
def l_slices_Index_api_Due_0 : ACode :=
 (.seq (.ops [] [oP 9 (.bin .lss (.t 8) (.t 7))] [])
 (.seq (.cond (.t 9) .skip (.exit 0 []))
 (.seq (.block 1 (.seq (.ops [] [oM 10 8, oM 5 10] [9, 10])
 (.seq (.draw [] [oP 11 (.ld true 2 (.t 3)), oM 12 0, oM 13 5, oP 14 (.iad 2 (.t 12) (.t 13)), oP 15 (.ld true 2 (.t 14)), oP 16 (.eqs false 2 [(0, 0), (1, 0)] (.t 11) (.t 15))] [[], [0], [0, 1], [0], [0], []] [11, 12, 13, 14, 15])
 (.cond (.t 16) (.seq (.ops [] [oM 17 5, oM 4 17] [0, 3, 5, 7, 8, 16, 17])
 (.ret [4])) .skip))))
 (.ops [] [oP 18 (.bin .add (.t 8) (kI 1)), oM 8 18] [5, 16, 18]))))
def c_slices_Index_api_Due : ACode :=
 (.seq (.ops [] [oP 3 (.box (.t 1)), oP 4 (.mv (kI 0))] [1, 4])
 (.seq (.seq (.ops [] [oM 6 0, oP 7 (.len (.t 6)), oP 8 (.mv (kI 0))] [6])
 (.block 0 (.loop [] l_slices_Index_api_Due_0)))
 (.seq (.ops [] [oP 4 (.mv (kI (-1)))] [0, 3, 7, 8, 9])
 (.ret [4]))))
def r_slices_Index_api_Due : List ARes := [.t 4]
def fn_slices_Index_api_Due : AFn := .code c_slices_Index_api_Due r_slices_Index_api_Due 19 true
def c_shard_stored : ACode :=
 (.seq (.ops [] [oP 1 (.box (.t 0)), oP 2 (.mv (kI 0))] [0, 2])
 (.seq (.ops [] [oP 3 (.fad true 3 3 (.t 1)), oP 4 (.fad false 2 1 (.t 3)), oP 5 (.ld false 1 (.t 4)), oP 6 (.fad true 6 2 (.t 1)), oP 7 (.fad false 0 1 (.t 6)), oP 8 (.ld false 1 (.t 7)), oP 9 (.len (.t 8)), oP 10 (.bin .add (.t 5) (.t 9)), oM 2 10] [1, 3, 4, 5, 6, 7, 8, 9, 10])
 (.ret [2])))
def r_shard_stored : List ARes := [.t 2]
def fn_shard_stored : AFn := .code c_shard_stored r_shard_stored 11 true
def l_shard_messages_0 : ACode :=
 (.seq (.ops [] [oP 14 (.bin .lss (.t 13) (.t 12))] [])
 (.seq (.cond (.t 14) .skip (.exit 0 [3]))
 (.seq (.block 1 (.seq (.ops [] [oP 15 (.iad 8 (.t 11) (.t 13)), oP 16 (.ld true 8 (.t 15)), oP 5 (.alloc (.d (.agg [.int .i64 0, .int .i64 0, .int .i64 0, .int .i64 0, .int .i64 0, .int .i64 0, .str [], .int .i64 0]))), oN (.st 8 (.t 5) (.t 16))] [14, 15, 16])
 (.ops [] [oM 17 3, oP 18 (.fad true 0 7 (.t 5)), oP 19 (.ld true 7 (.t 18)), oP 20 (.bsl 1 7 (.d (.agg [.int .i64 0, .int .i64 0, .int .i64 0, .int .i64 0, .int .i64 0, .int .i64 0, .str []])) [(0, .t 19)]), oP 21 (.app 7 (.t 17) (.t 20)), oM 3 21] [5, 17, 18, 19, 20, 21])))
 (.ops [] [oP 22 (.bin .add (.t 13) (kI 1)), oM 13 22] [22]))))
def c_shard_messages : ACode :=
 (.seq (.ops [] [oP 1 (.box (.t 0)), oP 2 (.mv (.c (.xsl [])))] [0, 2])
 (.seq (.ops [] [oP 6 (.fad true 3 3 (.t 1)), oP 7 (.ld true 3 (.t 6)), oP 8 (.call N_ring_List [] [.t 7]), oM 3 8] [6, 7, 8])
 (.seq (.seq (.ops [] [oP 9 (.fad true 6 2 (.t 1)), oP 10 (.fad false 0 1 (.t 9)), oP 11 (.ld false 1 (.t 10)), oP 12 (.len (.t 11)), oP 13 (.mv (kI 0))] [1, 9, 10])
 (.block 0 (.loop [] l_shard_messages_0)))
 (.seq (.ops [] [oM 23 3, oM 2 23] [3, 11, 12, 13, 14, 23])
 (.ret [2])))))
def r_shard_messages : List ARes := [.t 2]
def fn_shard_messages : AFn := .code c_shard_messages r_shard_messages 24 true
def c_ring_List : ACode :=
 (.seq (.ops [] [oP 1 (.box (.t 0)), oP 2 (.mv (.c (.xsl [])))] [0, 2])
 (.seq (.seq (.ops [] [oP 3 (.ld true 3 (.t 1)), oP 4 (.call N_ring_Validate [] [.t 3]), oP 5 (.bin .neq (.t 4) (kI 0))] [3, 4])
 (.cond (.t 5) (.seq (.ops [] [oP 2 (.mv (.c (.xsl [])))] [1, 5])
 (.ret [2])) .skip))
 (.seq (.ops [] [oP 6 (.ld true 3 (.t 1)), oP 7 (.call N_ring_list [] [.t 6]), oM 2 7] [1, 5, 6, 7])
 (.ret [2]))))
def r_ring_List : List ARes := [.t 2]
def fn_ring_List : AFn := .code c_ring_List r_ring_List 8 false
def c_shard_in : ACode :=
 (.seq (.ops [] [oP 6 (.mv (.c (.d (.bool false))))] [6])
 (.seq (.ops [] [oM 7 1, oM 8 0, oP 9 (.bin .leq (.t 7) (.t 8)), oM 10 9, oQ 11 (.mv (.t 0)) 10 true, oQ 12 (.mv (.t 2)) 10 true, oQ 13 (.bin .leq (.t 11) (.t 12)) 10 true, oP 14 (.pick (.t 10) (.t 13) (.c (.d (.bool false)))), oM 6 14] [0, 1, 2, 7, 8, 9, 10, 11, 12, 13, 14])
 (.ret [6])))
def r_shard_in : List ARes := [.t 6]
def fn_shard_in : AFn := .code c_shard_in r_shard_in 15 true
def c_shard_put : ACode :=
 (.seq (.ops [] [oP 2 (.box (.t 0)), oP 3 (.box (.t 1)), oP 4 (.alloc (.agg [.d (.bool false), aI 0, aI 0, .xsl [], aI 0, aI 0, .xsl [], .xsl []])), oP 5 (.mv (kI 0))] [0, 1, 5])
 (.seq (.seq (.ops [] [oP 8 (.ld true 7 (.t 3)), oP 9 (.call N_message_Validate [] [.t 8]), oM 6 9] [8, 9])
 (.seq (.ops [] [oM 10 6, oP 11 (.bin .neq (.t 10) (kI 0))] [10])
 (.cond (.t 11) (.seq (.ops [] [oP 12 (.build [.d (.bool false), aI 0, aI 0, .xsl [], aI 0, aI 0, .xsl [], .xsl []] []), oM 13 6, oN (.st 8 (.t 4) (.t 12)), oM 5 13] [2, 3, 6, 11, 12, 13])
 (.ret [4, 5])) .skip)))
 (.seq (.block 0 (.seq (.ops [] [oP 15 (.fad false 1 1 (.t 3)), oP 16 (.ld false 1 (.t 15)), oP 17 (.fad false 1 1 (.t 2)), oP 18 (.ld false 1 (.t 17)), oP 19 (.fad false 2 1 (.t 2)), oP 20 (.ld false 1 (.t 19)), oP 21 (.call N_shard_in [] [.t 16, .t 18, .t 20]), oP 22 (.un .not (.t 21)), oM 14 22] [6, 11, 15, 16, 17, 18, 19, 20, 21, 22])
 (.cond (.t 14) (.seq (.ops [] [oP 23 (.build [.d (.bool false), aI 0, aI 0, .xsl [], aI 0, aI 0, .xsl [], .xsl []] []), oN (.st 8 (.t 4) (.t 23)), oP 5 (.mv (kI 12))] [2, 3, 14, 23])
 (.ret [4, 5])) (.seq (.ops [] [oP 25 (.ld true 8 (.t 2)), oP 26 (.call N_shard_room [] [.t 25]), oP 27 (.bin .eql (.t 26) (kI 0)), oM 24 27] [14, 25, 26, 27])
 (.cond (.t 24) (.seq (.ops [] [oP 28 (.build [.d (.bool false), aI 0, aI 0, .xsl [], aI 0, aI 0, .xsl [], .xsl []] []), oN (.st 8 (.t 4) (.t 28)), oP 5 (.mv (kI 3))] [2, 3, 24, 28])
 (.ret [4, 5])) (.seq (.ops [] [oP 30 (.ld true 8 (.t 2)), oP 31 (.fad false 0 1 (.t 3)), oP 32 (.ld false 1 (.t 31)), oP 33 (.call N_shard_has [] [.t 30, .t 32]), oM 29 33] [24, 30, 31, 32, 33])
 (.cond (.t 29) (.seq (.ops [] [oP 34 (.build [.d (.bool false), aI 0, aI 0, .xsl [], aI 0, aI 0, .xsl [], .xsl []] []), oN (.st 8 (.t 4) (.t 34)), oP 5 (.mv (kI 10))] [2, 3, 29, 34])
 (.ret [4, 5])) .skip)))))))
 (.seq (.ops [] [oP 7 (.mv (kI 0))] [7, 29])
 (.seq (.ops [] [oP 35 (.ld true 8 (.t 2)), oP 36 (.call N_shard_own [] [.t 35]), oN (.st 8 (.t 2) (.t 36))] [35, 36])
 (.seq (.seq (.ops [] [oP 38 (.fad true 3 3 (.t 2)), oP 39 (.ld true 3 (.t 38)), oP 40 (.ld true 7 (.t 3)), oP 41 (.call N_ring_PushBack [] [.t 39, .t 40]), oM 37 41, oP 42 (.ext (.t 37) 0), oP 43 (.ext (.t 37) 1), oP 44 (.fad true 3 3 (.t 2)), oN (.st 3 (.t 44) (.t 42)), oM 7 43] [3, 37, 38, 39, 40, 41, 42, 43, 44])
 (.seq (.ops [] [oM 45 7, oP 46 (.bin .neq (.t 45) (kI 0))] [45])
 (.cond (.t 46) (.seq (.ops [] [oP 47 (.build [.d (.bool false), aI 0, aI 0, .xsl [], aI 0, aI 0, .xsl [], .xsl []] []), oM 48 7, oN (.st 8 (.t 4) (.t 47)), oM 5 48] [2, 7, 46, 47, 48])
 (.ret [4, 5])) .skip)))
 (.seq (.ops [] [oP 49 (.ld true 8 (.t 2)), oN (.st 8 (.t 4) (.t 49)), oP 5 (.mv (kI 0))] [2, 7, 46, 49])
 (.ret [4, 5]))))))))
def r_shard_put : List ARes := [.c 4 true 8, .t 5]
def fn_shard_put : AFn := .code c_shard_put r_shard_put 50 true
def c_shard_room : ACode :=
 (.seq (.ops [] [oP 1 (.box (.t 0)), oP 2 (.mv (kI 0))] [0, 2])
 (.seq (.draw [] [oP 3 (.fad true 3 3 (.t 1)), oP 4 (.fad false 0 1 (.t 3)), oP 5 (.ld false 1 (.t 4)), oP 6 (.len (.t 5)), oP 7 (.ld true 8 (.t 1)), oP 8 (.call N_shard_stored [] [.t 7]), oP 9 (.bin .sub (.t 6) (.t 8)), oM 2 9] [[], [], [], [], [0, 1, 2, 3], [0, 1, 2, 3], [], []] [1, 3, 4, 5, 6, 7, 8, 9])
 (.ret [2])))
def r_shard_room : List ARes := [.t 2]
def fn_shard_room : AFn := .code c_shard_room r_shard_room 10 true
def c_shard_has : ACode :=
 (.seq (.ops [] [oP 2 (.box (.t 0)), oP 3 (.box (.t 1)), oP 4 (.mv (.c (.d (.bool false))))] [0, 1, 4])
 (.seq (.ops [] [oP 5 (.ld true 8 (.t 2)), oP 6 (.call N_shard_messages [] [.t 5]), oP 7 (.mkfn N_shard_has_1 [.t 3]), oP 8 (.call N_slices_ContainsFunc_api_Message [] [.t 6, .t 7]), oM 4 8] [2, 3, 5, 6, 7, 8])
 (.ret [4])))
def r_shard_has : List ARes := [.t 4]
def fn_shard_has : AFn := .code c_shard_has r_shard_has 9 true
def c_shard_has_1 : ACode :=
 (.seq (.ops [] [oP 2 (.box (.t 0)), oP 3 (.mv (.c (.d (.bool false))))] [0, 3])
 (.seq (.ops [] [oP 4 (.fad false 0 1 (.t 2)), oP 5 (.ld false 1 (.t 4)), oP 6 (.ld false 1 (.t 1)), oP 7 (.bin .eql (.t 5) (.t 6)), oM 3 7] [1, 2, 4, 5, 6, 7])
 (.ret [3])))
def r_shard_has_1 : List ARes := [.t 3]
def fn_shard_has_1 : AFn := .code c_shard_has_1 r_shard_has_1 8 true
def c_slices_ContainsFunc_api_Message : ACode :=
 (.seq (.ops [] [oP 4 (.mv (.c (.d (.bool false))))] [4])
 (.seq (.ops [] [oM 5 0, oM 6 1, oP 7 (.call N_slices_IndexFunc_api_Message [] [.t 5, .t 6]), oP 8 (.bin .geq (.t 7) (kI 0)), oM 4 8] [0, 1, 5, 6, 7, 8])
 (.ret [4])))
def r_slices_ContainsFunc_api_Message : List ARes := [.t 4]
def fn_slices_ContainsFunc_api_Message : AFn := .code c_slices_ContainsFunc_api_Message r_slices_ContainsFunc_api_Message 9 true
def l_slices_IndexFunc_api_Message_0 : ACode :=
 (.seq (.ops [] [oP 9 (.bin .lss (.t 8) (.t 7))] [])
 (.seq (.cond (.t 9) .skip (.exit 0 []))
 (.seq (.block 1 (.seq (.ops [] [oM 10 8, oM 5 10] [9, 10])
 (.seq (.ops [] [oM 11 1, oM 12 0, oM 13 5, oP 14 (.iad 7 (.t 12) (.t 13)), oP 15 (.ld true 7 (.t 14)), oP 16 (.callv (.t 11) [] [.t 15])] [11, 12, 13, 14, 15])
 (.cond (.t 16) (.seq (.ops [] [oM 17 5, oM 4 17] [0, 1, 5, 7, 8, 16, 17])
 (.ret [4])) .skip))))
 (.ops [] [oP 18 (.bin .add (.t 8) (kI 1)), oM 8 18] [5, 16, 18]))))
def c_slices_IndexFunc_api_Message : ACode :=
 (.seq (.ops [] [oP 4 (.mv (kI 0))] [4])
 (.seq (.seq (.ops [] [oM 6 0, oP 7 (.len (.t 6)), oP 8 (.mv (kI 0))] [6])
 (.block 0 (.loop [] l_slices_IndexFunc_api_Message_0)))
 (.seq (.ops [] [oP 4 (.mv (kI (-1)))] [0, 1, 7, 8, 9])
 (.ret [4]))))
def r_slices_IndexFunc_api_Message : List ARes := [.t 4]
def fn_slices_IndexFunc_api_Message : AFn := .code c_slices_IndexFunc_api_Message r_slices_IndexFunc_api_Message 19 true
def c_shard_own : ACode :=
 (.seq (.ops [] [oP 1 (.box (.t 0)), oP 2 (.alloc (.agg [.d (.bool false), aI 0, aI 0, .xsl [], aI 0, aI 0, .xsl [], .xsl []]))] [0])
 (.seq (.ops [] [oP 3 (.fad true 3 3 (.t 1)), oP 4 (.fad false 0 1 (.t 3)), oP 5 (.ld false 1 (.t 4)), oP 6 (.call N_slices_Clone_api_Message [] [.t 5]), oP 7 (.fad true 3 3 (.t 1)), oP 8 (.fad false 0 1 (.t 7)), oN (.st 1 (.t 8) (.t 6))] [3, 4, 5, 6, 7, 8])
 (.seq (.draw [] [oP 9 (.fad true 6 2 (.t 1)), oP 10 (.fad false 0 1 (.t 9)), oP 11 (.ld false 1 (.t 10)), oP 12 (.call N_slices_Clone_api_Lease [] [.t 11]), oP 13 (.fad true 6 2 (.t 1)), oP 14 (.fad false 1 1 (.t 13)), oP 15 (.ld false 1 (.t 14)), oP 16 (.call N_slices_Clone_api_Due [] [.t 15]), oP 17 (.build [.xsl [], .xsl []] [(0, (1, .t 12)), (1, (1, .t 16))]), oP 18 (.fad true 6 2 (.t 1)), oN (.st 2 (.t 18) (.t 17))] [[], [], [], [], [0, 1, 2, 3], [0, 1, 2, 3], [0, 1, 2, 3], [], [], [], []] [9, 10, 11, 12, 13, 14, 15, 16, 17, 18])
 (.seq (.ops [] [oP 19 (.ld true 8 (.t 1)), oN (.st 8 (.t 2) (.t 19))] [1, 19])
 (.ret [2])))))
def r_shard_own : List ARes := [.c 2 true 8]
def fn_shard_own : AFn := .code c_shard_own r_shard_own 20 true
def c_slices_Clone_api_Message : ACode :=
 (.seq (.ops [] [oP 2 .nacc] [2])
 (.seq (.seq (.ops [] [oM 3 0, oP 4 (.nileq false (.t 3))] [3])
 (.cond (.t 4) (.seq (.ops [] [oP 2 .nacc] [0, 4])
 (.ret [2])) .skip))
 (.seq (.ops [] [oP 5 (.bsl 0 7 (.d (.agg [.int .i64 0, .int .i64 0, .int .i64 0, .int .i64 0, .int .i64 0, .int .i64 0, .str []])) []), oM 6 0, oP 7 (.app 7 (.t 5) (.t 6)), oM 2 7] [0, 4, 5, 6, 7])
 (.ret [2]))))
def r_slices_Clone_api_Message : List ARes := [.t 2]
def fn_slices_Clone_api_Message : AFn := .nils c_slices_Clone_api_Message r_slices_Clone_api_Message 8
def c_slices_Clone_api_Lease : ACode :=
 (.seq (.ops [] [oP 2 .nacc] [2])
 (.seq (.seq (.ops [] [oM 3 0, oP 4 (.nileq false (.t 3))] [3])
 (.cond (.t 4) (.seq (.ops [] [oP 2 .nacc] [0, 4])
 (.ret [2])) .skip))
 (.seq (.ops [] [oP 5 (.bsl 0 8 (.d (.agg [.int .i64 0, .int .i64 0, .int .i64 0, .int .i64 0, .int .i64 0, .int .i64 0, .str [], .int .i64 0])) []), oM 6 0, oP 7 (.app 8 (.t 5) (.t 6)), oM 2 7] [0, 4, 5, 6, 7])
 (.ret [2]))))
def r_slices_Clone_api_Lease : List ARes := [.t 2]
def fn_slices_Clone_api_Lease : AFn := .nils c_slices_Clone_api_Lease r_slices_Clone_api_Lease 8
def c_slices_Clone_api_Due : ACode :=
 (.seq (.ops [] [oP 2 .nacc] [2])
 (.seq (.seq (.ops [] [oM 3 0, oP 4 (.nileq false (.t 3))] [3])
 (.cond (.t 4) (.seq (.ops [] [oP 2 .nacc] [0, 4])
 (.ret [2])) .skip))
 (.seq (.ops [] [oP 5 (.bsl 0 2 (.d (.agg [.int .i64 0, .int .i64 0])) []), oM 6 0, oP 7 (.app 2 (.t 5) (.t 6)), oM 2 7] [0, 4, 5, 6, 7])
 (.ret [2]))))
def r_slices_Clone_api_Due : List ARes := [.t 2]
def fn_slices_Clone_api_Due : AFn := .nils c_slices_Clone_api_Due r_slices_Clone_api_Due 8
def c_ring_PushBack : ACode :=
 (.seq (.ops [] [oP 2 (.box (.t 0)), oP 3 (.box (.t 1)), oP 4 (.alloc (.agg [.xsl [], aI 0, aI 0])), oP 5 (.mv (kI 0))] [0, 1, 5])
 (.seq (.seq (.ops [] [oP 7 (.ld true 3 (.t 2)), oP 8 (.ld true 7 (.t 3)), oP 9 (.call N_ring_room [] [.t 7, .t 8]), oM 6 9] [7, 8, 9])
 (.seq (.ops [] [oM 10 6, oP 11 (.bin .neq (.t 10) (kI 0))] [10])
 (.cond (.t 11) (.seq (.ops [] [oP 12 (.build [.xsl [], aI 0, aI 0] []), oM 13 6, oN (.st 3 (.t 4) (.t 12)), oM 5 13] [2, 3, 6, 11, 12, 13])
 (.ret [4, 5])) .skip)))
 (.seq (.ops [] [oP 14 (.ld true 3 (.t 2)), oP 15 (.call N_ring_own [] [.t 14]), oN (.st 3 (.t 2) (.t 15))] [6, 11, 14, 15])
 (.seq (.draw [30] [oP 16 (.fad false 0 1 (.t 2)), oP 17 (.ld false 1 (.t 16)), oP 18 (.ld true 3 (.t 2)), oP 19 (.fad false 2 1 (.t 2)), oP 20 (.ld false 1 (.t 19)), oP 21 (.call N_ring_cell [] [.t 18, .t 20]), oP 22 (.ld true 7 (.t 3)), oP 23 (.iad 7 (.t 17) (.t 21)), oN (.st 7 (.t 23) (.t 22))] [[], [], [0, 1], [0, 1, 2], [0, 1, 2], [0, 1], [0, 1, 2, 3, 4, 5], [], []] [3, 16, 17, 18, 19, 20, 21, 22, 23])
 (.seq (.ops [] [oP 24 (.fad false 2 1 (.t 2)), oP 25 (.ld false 1 (.t 24)), oP 26 (.bin .add (.t 25) (kI 1)), oP 27 (.fad false 2 1 (.t 2)), oN (.st 1 (.t 27) (.t 26))] [24, 25, 26, 27])
 (.seq (.ops [] [oP 28 (.ld true 3 (.t 2)), oN (.st 3 (.t 4) (.t 28)), oP 5 (.mv (kI 0))] [2, 28])
 (.ret [4, 5])))))))
def r_ring_PushBack : List ARes := [.c 4 true 3, .t 5]
def fn_ring_PushBack : AFn := .code c_ring_PushBack r_ring_PushBack 29 true
def c_ring_room : ACode :=
 (.seq (.ops [] [oP 2 (.box (.t 0)), oP 3 (.box (.t 1)), oP 4 (.mv (kI 0))] [0, 1, 4])
 (.seq (.seq (.ops [] [oP 7 (.ld true 3 (.t 2)), oP 8 (.call N_ring_Validate [] [.t 7]), oM 5 8] [7, 8])
 (.seq (.ops [] [oM 9 5, oP 10 (.bin .neq (.t 9) (kI 0))] [9])
 (.cond (.t 10) (.seq (.ops [] [oM 11 5, oM 4 11] [2, 3, 5, 10, 11])
 (.ret [4])) .skip)))
 (.seq (.seq (.ops [] [oP 12 (.ld true 7 (.t 3)), oP 13 (.call N_message_Validate [] [.t 12]), oM 6 13] [5, 10, 12, 13])
 (.seq (.ops [] [oM 14 6, oP 15 (.bin .neq (.t 14) (kI 0))] [14])
 (.cond (.t 15) (.seq (.ops [] [oM 16 6, oM 4 16] [2, 3, 6, 15, 16])
 (.ret [4])) .skip)))
 (.seq (.block 0 (.seq (.ops [] [oP 18 (.fad false 2 1 (.t 2)), oP 19 (.ld false 1 (.t 18)), oP 20 (.fad false 0 1 (.t 2)), oP 21 (.ld false 1 (.t 20)), oP 22 (.len (.t 21)), oP 23 (.bin .eql (.t 19) (.t 22)), oM 17 23] [6, 15, 18, 19, 20, 21, 22, 23])
 (.cond (.t 17) (.seq (.ops [] [oP 4 (.mv (kI 3))] [2, 3, 17])
 (.ret [4])) (.seq (.ops [] [oP 25 (.ld true 3 (.t 2)), oP 26 (.fad false 0 1 (.t 3)), oP 27 (.ld false 1 (.t 26)), oP 28 (.call N_ring_find [] [.t 25, .t 27]), oP 29 (.bin .geq (.t 28) (kI 0)), oM 24 29] [2, 3, 17, 25, 26, 27, 28, 29])
 (.cond (.t 24) (.seq (.ops [] [oP 4 (.mv (kI 10))] [24])
 (.ret [4])) .skip)))))
 (.seq (.ops [] [oP 4 (.mv (kI 0))] [24])
 (.ret [4]))))))
def r_ring_room : List ARes := [.t 4]
def fn_ring_room : AFn := .code c_ring_room r_ring_room 30 true
def c_ring_find : ACode :=
 (.seq (.ops [] [oP 2 (.box (.t 0)), oP 3 (.box (.t 1)), oP 4 (.mv (kI 0))] [0, 1, 4])
 (.seq (.ops [] [oP 5 (.ld true 3 (.t 2)), oP 6 (.call N_ring_list [] [.t 5]), oP 7 (.mkfn N_ring_find_1 [.t 3]), oP 8 (.call N_slices_IndexFunc_api_Message [] [.t 6, .t 7]), oM 4 8] [2, 3, 5, 6, 7, 8])
 (.ret [4])))
def r_ring_find : List ARes := [.t 4]
def fn_ring_find : AFn := .code c_ring_find r_ring_find 9 true
def c_ring_find_1 : ACode :=
 (.seq (.ops [] [oP 2 (.box (.t 0)), oP 3 (.mv (.c (.d (.bool false))))] [0, 3])
 (.seq (.ops [] [oP 4 (.fad false 0 1 (.t 2)), oP 5 (.ld false 1 (.t 4)), oP 6 (.ld false 1 (.t 1)), oP 7 (.bin .eql (.t 5) (.t 6)), oM 3 7] [1, 2, 4, 5, 6, 7])
 (.ret [3])))
def r_ring_find_1 : List ARes := [.t 3]
def fn_ring_find_1 : AFn := .code c_ring_find_1 r_ring_find_1 8 true
def c_ring_own : ACode :=
 (.seq (.ops [] [oP 1 (.box (.t 0)), oP 2 (.alloc (.agg [.xsl [], aI 0, aI 0]))] [0])
 (.seq (.ops [] [oP 3 (.fad false 0 1 (.t 1)), oP 4 (.ld false 1 (.t 3)), oP 5 (.call N_slices_Clone_api_Message [] [.t 4]), oP 6 (.fad false 0 1 (.t 1)), oN (.st 1 (.t 6) (.t 5))] [3, 4, 5, 6])
 (.seq (.ops [] [oP 7 (.ld true 3 (.t 1)), oN (.st 3 (.t 2) (.t 7))] [1, 7])
 (.ret [2]))))
def r_ring_own : List ARes := [.c 2 true 3]
def fn_ring_own : AFn := .code c_ring_own r_ring_own 8 false
def c_shard_Stored : ACode :=
 (.seq (.ops [] [oP 1 (.box (.t 0)), oP 2 (.mv (kI 0))] [0, 2])
 (.seq (.seq (.ops [] [oP 3 (.ld true 8 (.t 1)), oP 4 (.call N_shard_Validate [] [.t 3]), oP 5 (.bin .neq (.t 4) (kI 0))] [3, 4])
 (.cond (.t 5) (.seq (.ops [] [oP 2 (.mv (kI 0))] [1, 5])
 (.ret [2])) .skip))
 (.seq (.ops [] [oP 6 (.ld true 8 (.t 1)), oP 7 (.call N_shard_stored [] [.t 6]), oM 2 7] [1, 5, 6, 7])
 (.ret [2]))))
def r_shard_Stored : List ARes := [.t 2]
def fn_shard_Stored : AFn := .code c_shard_Stored r_shard_Stored 8 true
def c_law07_awake : ACode :=
 (.seq (.ops [] [oP 0 (.mv (.c (.d (.bool false))))] [0])
 (.seq (.ops [] [oP 11 (.call N_shard_New [] [kI 3, kI 0, kI 65535]), oM 10 11, oP 12 (.ext (.t 10) 0), oP 13 (.ext (.t 10) 1), oP 1 (.alloc (.agg [.d (.bool false), aI 0, aI 0, .xsl [], aI 0, aI 0, .xsl [], .xsl []])), oN (.st 8 (.t 1) (.t 12)), oM 2 13] [10, 11, 12, 13])
 (.seq (.ops [] [oP 15 (.ld true 8 (.t 1)), oP 16 (.build [aI 0, aI 0, aI 0, aI 0, aI 0, aI 0, .d (.str [])] [(0, (1, kI 1))]), oP 17 (.call N_shard_Put [] [.t 15, .t 16]), oM 14 17, oP 18 (.ext (.t 14) 0), oP 19 (.ext (.t 14) 1), oN (.st 8 (.t 1) (.t 18)), oM 3 19] [14, 15, 16, 17, 18, 19])
 (.seq (.ops [] [oP 21 (.ld true 8 (.t 1)), oP 22 (.call N_shard_Take [] [.t 21, kI 1, kI 10, kI 5, kI 0, kI 3]), oM 20 22, oP 23 (.ext (.t 20) 0), oP 24 (.ext (.t 20) 1), oP 25 (.ext (.t 20) 2), oN (.st 8 (.t 1) (.t 23)), oM 4 24, oM 5 25] [20, 21, 22, 23, 24, 25])
 (.seq (.ops [] [oP 26 (.build [aI 0, aI 0, aI 0, aI 0] [(0, (1, kI 1)), (1, (1, kI 1))]), oP 6 (.alloc (.d (.agg [.int .i64 0, .int .i64 0, .int .i64 0, .int .i64 0]))), oN (.st 4 (.t 6) (.t 26))] [26])
 (.seq (.ops [] [oP 28 (.ld true 8 (.t 1)), oP 29 (.call N_shard_Expire [] [.t 28, kI 15, kI 0, kI 3]), oM 27 29, oP 30 (.ext (.t 27) 0), oP 31 (.ext (.t 27) 1), oP 32 (.ext (.t 27) 2), oP 7 (.alloc (.agg [.d (.bool false), aI 0, aI 0, .xsl [], aI 0, aI 0, .xsl [], .xsl []])), oN (.st 8 (.t 7) (.t 30)), oM 8 31, oM 9 32] [7, 27, 28, 29, 30, 31, 32])
 (.seq (.ops [] [oM 33 2, oP 34 (.bin .eql (.t 33) (kI 0)), oM 35 34, oQ 36 (.mv (.t 3)) 35 true, oQ 37 (.bin .eql (.t 36) (kI 0)) 35 true, oP 38 (.pick (.t 35) (.t 37) (.c (.d (.bool false)))), oM 39 38, oQ 40 (.mv (.t 5)) 39 true, oQ 41 (.bin .eql (.t 40) (kI 0)) 39 true, oP 42 (.pick (.t 39) (.t 41) (.c (.d (.bool false)))), oM 43 42, oQ 44 (.mv (.t 4)) 43 true, oQ 45 (.len (.t 44)) 43 true, oQ 46 (.bin .eql (.t 45) (kI 1)) 43 true, oP 47 (.pick (.t 43) (.t 46) (.c (.d (.bool false)))), oM 48 47, oQ 49 (.ld true 8 (.t 1)) 48 true, oQ 50 (.ld true 4 (.t 6)) 48 true, oQ 51 (.call N_shard_Holds [] [.t 49, .t 50, kI 14, kI 0]) 48 true, oP 52 (.pick (.t 48) (.t 51) (.c (.d (.bool false)))), oM 53 52, oQ 54 (.ld true 8 (.t 1)) 53 true, oQ 55 (.ld true 4 (.t 6)) 53 true, oQ 56 (.call N_shard_Holds [] [.t 54, .t 55, kI 15, kI 0]) 53 true, oQ 57 (.un .not (.t 56)) 53 true, oP 58 (.pick (.t 53) (.t 57) (.c (.d (.bool false)))), oM 59 58, oQ 60 (.mv (.t 9)) 59 true, oQ 61 (.bin .eql (.t 60) (kI 0)) 59 true, oP 62 (.pick (.t 59) (.t 61) (.c (.d (.bool false)))), oM 63 62, oQ 64 (.mv (.t 8)) 63 true, oQ 65 (.len (.t 64)) 63 true, oQ 66 (.bin .eql (.t 65) (kI 1)) 63 true, oP 67 (.pick (.t 63) (.t 66) (.c (.d (.bool false)))), oM 0 67] [1, 2, 3, 4, 5, 6, 8, 9, 33, 34, 35, 36, 37, 38, 39, 40, 41, 42, 43, 44, 45, 46, 47, 48, 49, 50, 51, 52, 53, 54, 55, 56, 57, 58, 59, 60, 61, 62, 63, 64, 65, 66, 67])
 (.ret [0]))))))))
def r_law07_awake : List ARes := [.t 0]
def fn_law07_awake : AFn := .code c_law07_awake r_law07_awake 68 true
def l_shard_Take_0 : ACode :=
 (.seq (.ops [] [oP 50 (.bin .lss (.t 49) (.t 48))] [])
 (.seq (.cond (.t 50) .skip (.exit 0 [6, 12, 16]))
 (.seq (.block 1 (.seq (.ops [] [oP 51 (.iad 7 (.t 47) (.t 49)), oP 52 (.ld true 7 (.t 51)), oP 18 (.alloc (.d (.agg [.int .i64 0, .int .i64 0, .int .i64 0, .int .i64 0, .int .i64 0, .int .i64 0, .str []]))), oN (.st 7 (.t 18) (.t 52))] [50, 51, 52])
 (.seq (.seq (.ops [] [oM 53 16, oP 54 (.len (.t 53)), oM 55 1, oP 56 (.bin .eql (.t 54) (.t 55)), oM 57 56, oQ 58 (.ld true 7 (.t 18)) 57 false, oQ 59 (.mv (.t 4)) 57 false, oQ 60 (.mv (.t 5)) 57 false, oQ 61 (.call N_message_Receivable [] [.t 58, .t 59, .t 60]) 57 false, oQ 62 (.un .not (.t 61)) 57 false, oP 63 (.pick (.t 57) (.c (.d (.bool true))) (.t 62))] [53, 54, 55, 56, 57, 58, 59, 60, 61, 62])
 (.cond (.t 63) (.exit 1 [1, 2, 3, 4, 5, 6, 12, 16, 47, 48, 49]) .skip))
 (.seq (.ops [] [oP 65 (.ld true 7 (.t 18)), oM 66 2, oM 67 3, oP 68 (.bin .add (.t 66) (.t 67)), oP 69 (.call N_shard_deliver [true, false, false] [.t 6, .t 65, .t 68]), oM 64 69, oP 70 (.ext (.t 64) 0), oP 71 (.ext (.t 64) 1), oP 19 (.alloc (.d (.agg [.int .i64 0, .int .i64 0, .int .i64 0, .int .i64 0, .int .i64 0, .int .i64 0, .str [], .int .i64 0]))), oN (.st 8 (.t 19) (.t 70)), oM 20 71] [18, 63, 64, 65, 66, 67, 68, 69, 70, 71])
 (.seq (.seq (.ops [] [oM 72 20, oP 73 (.bin .neq (.t 72) (kI 0))] [72])
 (.cond (.t 73) (.seq (.ops [] [oP 74 (.build [.d (.bool false), aI 0, aI 0, .xsl [], aI 0, aI 0, .xsl [], .xsl []] []), oM 75 20, oN (.st 8 (.t 12) (.t 74)), oP 13 (.mv (.c (.xsl []))), oM 14 75] [1, 2, 3, 4, 5, 6, 16, 19, 20, 47, 48, 49, 73, 74, 75])
 (.ret [12, 13, 14])) .skip))
 (.ops [] [oM 76 16, oP 77 (.ld true 8 (.t 19)), oP 78 (.bsl 1 8 (.d (.agg [.int .i64 0, .int .i64 0, .int .i64 0, .int .i64 0, .int .i64 0, .int .i64 0, .str [], .int .i64 0])) [(0, .t 77)]), oP 79 (.app 8 (.t 76) (.t 78)), oM 16 79] [19, 20, 73, 76, 77, 78, 79]))))))
 (.ops [] [oP 80 (.bin .add (.t 49) (kI 1)), oM 49 80] [18, 63, 80]))))
def c_shard_Take : ACode :=
 (.seq (.ops [] [oP 6 (.box (.t 0)), oP 12 (.alloc (.agg [.d (.bool false), aI 0, aI 0, .xsl [], aI 0, aI 0, .xsl [], .xsl []])), oP 13 (.mv (.c (.xsl []))), oP 14 (.mv (kI 0))] [0, 13, 14])
 (.seq (.seq (.draw [] [oP 21 (.ld true 8 (.t 6)), oM 22 4, oP 23 (.call N_shard_isEpoch [] [.t 22]), oM 24 5, oP 25 (.call N_shard_isLimit [] [.t 24]), oM 26 2, oP 27 (.call N_shard_isTime [] [.t 26]), oM 28 3, oP 29 (.call N_shard_isVisibility [] [.t 28]), oM 30 1, oP 31 (.call N_shard_in [] [.t 30, kI 1, kI 6]), oP 32 (.bsl 5 1 (.d (.bool false)) [(0, .t 23), (1, .t 25), (2, .t 27), (3, .t 29), (4, .t 31)]), oP 33 (.call N_shard_usable [] [.t 21, .t 32]), oM 15 33] [[], [0], [0], [0, 1, 2], [0], [0, 1, 2, 3, 4], [0], [0, 1, 2, 3, 4, 5, 6], [0], [0, 1, 2, 3, 4, 5, 6, 7, 8], [0], [0], [], []] [21, 22, 23, 24, 25, 26, 27, 28, 29, 30, 31, 32, 33])
 (.seq (.ops [] [oM 34 15, oP 35 (.bin .neq (.t 34) (kI 0))] [34])
 (.cond (.t 35) (.seq (.ops [] [oP 36 (.build [.d (.bool false), aI 0, aI 0, .xsl [], aI 0, aI 0, .xsl [], .xsl []] []), oM 37 15, oN (.st 8 (.t 12) (.t 36)), oP 13 (.mv (.c (.xsl []))), oM 14 37] [1, 2, 3, 4, 5, 6, 15, 35, 36, 37])
 (.ret [12, 13, 14])) .skip)))
 (.seq (.seq (.ops [] [oM 38 2, oM 39 3, oP 40 (.bin .add (.t 38) (.t 39)), oP 41 (.bin .gtr (.t 40) (kI 1073741824))] [15, 35, 38, 39, 40])
 (.cond (.t 41) (.seq (.ops [] [oP 42 (.build [.d (.bool false), aI 0, aI 0, .xsl [], aI 0, aI 0, .xsl [], .xsl []] []), oN (.st 8 (.t 12) (.t 42)), oP 13 (.mv (.c (.xsl []))), oP 14 (.mv (kI 6))] [1, 2, 3, 4, 5, 6, 41, 42])
 (.ret [12, 13, 14])) .skip))
 (.seq (.ops [] [oP 43 (.ld true 8 (.t 6)), oP 44 (.call N_shard_own [] [.t 43]), oN (.st 8 (.t 6) (.t 44))] [41, 43, 44])
 (.seq (.ops [] [oP 16 .nacc] [])
 (.seq (.seq (.ops [] [oP 45 (.fad true 3 3 (.t 6)), oP 46 (.ld true 3 (.t 45)), oP 47 (.call N_ring_List [] [.t 46]), oP 48 (.len (.t 47)), oP 49 (.mv (kI 0))] [45, 46])
 (.block 0 (.loop [] l_shard_Take_0)))
 (.seq (.ops [] [oP 81 (.ld true 8 (.t 6)), oM 82 16, oN (.st 8 (.t 12) (.t 81)), oM 13 82, oP 14 (.mv (kI 0))] [1, 2, 3, 4, 5, 6, 16, 47, 48, 49, 50, 81, 82])
 (.ret [12, 13, 14]))))))))
def r_shard_Take : List ARes := [.c 12 true 8, .t 13, .t 14]
def fn_shard_Take : AFn := .code c_shard_Take r_shard_Take 83 true
def c_shard_isEpoch : ACode :=
 (.seq (.ops [] [oP 2 (.mv (.c (.d (.bool false))))] [2])
 (.seq (.ops [] [oM 3 0, oP 4 (.call N_shard_in [] [.t 3, kI 0, kI 65536]), oM 2 4] [0, 3, 4])
 (.ret [2])))
def r_shard_isEpoch : List ARes := [.t 2]
def fn_shard_isEpoch : AFn := .code c_shard_isEpoch r_shard_isEpoch 5 true
def c_shard_isLimit : ACode :=
 (.seq (.ops [] [oP 2 (.mv (.c (.d (.bool false))))] [2])
 (.seq (.ops [] [oM 3 0, oP 4 (.call N_shard_in [] [.t 3, kI 1, kI 8]), oM 2 4] [0, 3, 4])
 (.ret [2])))
def r_shard_isLimit : List ARes := [.t 2]
def fn_shard_isLimit : AFn := .code c_shard_isLimit r_shard_isLimit 5 true
def c_shard_isTime : ACode :=
 (.seq (.ops [] [oP 2 (.mv (.c (.d (.bool false))))] [2])
 (.seq (.ops [] [oM 3 0, oP 4 (.call N_shard_in [] [.t 3, kI 0, kI 1073741824]), oM 2 4] [0, 3, 4])
 (.ret [2])))
def r_shard_isTime : List ARes := [.t 2]
def fn_shard_isTime : AFn := .code c_shard_isTime r_shard_isTime 5 true
def c_shard_isVisibility : ACode :=
 (.seq (.ops [] [oP 2 (.mv (.c (.d (.bool false))))] [2])
 (.seq (.ops [] [oM 3 0, oP 4 (.call N_shard_in [] [.t 3, kI 0, kI 1000]), oM 2 4] [0, 3, 4])
 (.ret [2])))
def r_shard_isVisibility : List ARes := [.t 2]
def fn_shard_isVisibility : AFn := .code c_shard_isVisibility r_shard_isVisibility 5 true
def c_shard_usable : ACode :=
 (.seq (.ops [] [oP 2 (.box (.t 0)), oP 4 (.mv (kI 0))] [0, 4])
 (.seq (.seq (.ops [] [oP 6 (.ld true 8 (.t 2)), oP 7 (.call N_shard_live [] [.t 6]), oM 5 7] [2, 6, 7])
 (.seq (.ops [] [oM 8 5, oP 9 (.bin .neq (.t 8) (kI 0))] [8])
 (.cond (.t 9) (.seq (.ops [] [oM 10 5, oM 4 10] [1, 5, 9, 10])
 (.ret [4])) .skip)))
 (.seq (.seq (.ops [] [oM 11 1, oP 12 (.call N_slices_Contains_bool [] [.t 11, .c (.d (.bool false))])] [1, 5, 9, 11])
 (.cond (.t 12) (.seq (.ops [] [oP 4 (.mv (kI 1))] [12])
 (.ret [4])) .skip))
 (.seq (.ops [] [oP 4 (.mv (kI 0))] [12])
 (.ret [4])))))
def r_shard_usable : List ARes := [.t 4]
def fn_shard_usable : AFn := .code c_shard_usable r_shard_usable 13 true
def c_slices_Contains_bool : ACode :=
 (.seq (.ops [] [oP 4 (.mv (.c (.d (.bool false))))] [4])
 (.seq (.ops [] [oM 5 0, oM 6 1, oP 7 (.call N_slices_Index_bool [] [.t 5, .t 6]), oP 8 (.bin .geq (.t 7) (kI 0)), oM 4 8] [0, 1, 5, 6, 7, 8])
 (.ret [4])))
def r_slices_Contains_bool : List ARes := [.t 4]
def fn_slices_Contains_bool : AFn := .code c_slices_Contains_bool r_slices_Contains_bool 9 true
def l_slices_Index_bool_0 : ACode :=
 (.seq (.ops [] [oP 9 (.bin .lss (.t 8) (.t 7))] [])
 (.seq (.cond (.t 9) .skip (.exit 0 []))
 (.seq (.block 1 (.seq (.ops [] [oM 10 8, oM 5 10] [9, 10])
 (.seq (.ops [] [oM 11 1, oM 12 0, oM 13 5, oP 14 (.iad 1 (.t 12) (.t 13)), oP 15 (.ld false 1 (.t 14)), oP 16 (.eqb false (.t 11) (.t 15))] [11, 12, 13, 14, 15])
 (.cond (.t 16) (.seq (.ops [] [oM 17 5, oM 4 17] [0, 1, 5, 7, 8, 16, 17])
 (.ret [4])) .skip))))
 (.ops [] [oP 18 (.bin .add (.t 8) (kI 1)), oM 8 18] [5, 16, 18]))))
def c_slices_Index_bool : ACode :=
 (.seq (.ops [] [oP 4 (.mv (kI 0))] [4])
 (.seq (.seq (.ops [] [oM 6 0, oP 7 (.len (.t 6)), oP 8 (.mv (kI 0))] [6])
 (.block 0 (.loop [] l_slices_Index_bool_0)))
 (.seq (.ops [] [oP 4 (.mv (kI (-1)))] [0, 1, 7, 8, 9])
 (.ret [4]))))
def r_slices_Index_bool : List ARes := [.t 4]
def fn_slices_Index_bool : AFn := .code c_slices_Index_bool r_slices_Index_bool 19 true
def c_message_Receivable : ACode :=
 (.seq (.ops [] [oP 3 (.box (.t 0)), oP 6 (.mv (.c (.d (.bool false))))] [0, 6])
 (.seq (.ops [] [oP 7 (.ld true 7 (.t 3)), oM 8 1, oP 9 (.call N_message_Purged [] [.t 7, .t 8]), oP 10 (.un .not (.t 9)), oM 11 10, oQ 12 (.ld true 7 (.t 3)) 11 true, oQ 13 (.mv (.t 2)) 11 true, oQ 14 (.call N_message_Spent [] [.t 12, .t 13]) 11 true, oQ 15 (.un .not (.t 14)) 11 true, oP 16 (.pick (.t 11) (.t 15) (.c (.d (.bool false)))), oM 17 16, oQ 18 (.fad false 4 1 (.t 3)) 17 true, oQ 19 (.ld false 1 (.t 18)) 17 true, oQ 20 (.bin .lss (.t 19) (kI 65536)) 17 true, oP 21 (.pick (.t 17) (.t 20) (.c (.d (.bool false)))), oM 6 21] [1, 2, 3, 7, 8, 9, 10, 11, 12, 13, 14, 15, 16, 17, 18, 19, 20, 21])
 (.ret [6])))
def r_message_Receivable : List ARes := [.t 6]
def fn_message_Receivable : AFn := .code c_message_Receivable r_message_Receivable 22 true
def c_message_Purged : ACode :=
 (.seq (.ops [] [oP 2 (.box (.t 0)), oP 4 (.mv (.c (.d (.bool false))))] [0, 4])
 (.seq (.ops [] [oP 5 (.fad false 2 1 (.t 2)), oP 6 (.ld false 1 (.t 5)), oM 7 1, oP 8 (.bin .lss (.t 6) (.t 7)), oM 4 8] [1, 2, 5, 6, 7, 8])
 (.ret [4])))
def r_message_Purged : List ARes := [.t 4]
def fn_message_Purged : AFn := .code c_message_Purged r_message_Purged 9 true
def c_message_Spent : ACode :=
 (.seq (.ops [] [oP 2 (.box (.t 0)), oP 4 (.mv (.c (.d (.bool false))))] [0, 4])
 (.seq (.ops [] [oP 5 (.fad false 3 1 (.t 2)), oP 6 (.ld false 1 (.t 5)), oM 7 1, oP 8 (.bin .geq (.t 6) (.t 7)), oM 4 8] [1, 2, 5, 6, 7, 8])
 (.ret [4])))
def r_message_Spent : List ARes := [.t 4]
def fn_message_Spent : AFn := .code c_message_Spent r_message_Spent 9 true
def c_shard_deliver : ACode :=
 (.seq (.ops [] [oP 4 (.box (.t 1)), oP 6 (.alloc (.d (.agg [.int .i64 0, .int .i64 0, .int .i64 0, .int .i64 0, .int .i64 0, .int .i64 0, .str [], .int .i64 0]))), oP 7 (.mv (kI 0))] [1, 7])
 (.seq (.draw [] [oM 12 0, oP 13 (.nilc (.t 12)), oP 14 (.fad true 3 3 (.t 13)), oP 15 (.ld true 3 (.t 14)), oP 16 (.fad false 0 1 (.t 4)), oP 17 (.ld false 1 (.t 16)), oP 18 (.call N_ring_Remove [] [.t 15, .t 17]), oM 11 18, oP 19 (.ext (.t 11) 0), oP 20 (.ext (.t 11) 1), oP 21 (.ext (.t 11) 2), oP 8 (.alloc (.agg [.xsl [], aI 0, aI 0])), oN (.st 3 (.t 8) (.t 19)), oN (.st 7 (.t 4) (.t 20)), oM 9 21] [[], [], [], [], [0, 1, 2, 3], [0, 1, 2, 3], [], [], [], [8], [8, 9], [0, 1, 2, 3, 4, 5, 6, 7, 8, 9, 10], [9, 10], [10], []] [11, 12, 13, 14, 15, 16, 17, 18, 19, 20, 21])
 (.seq (.seq (.ops [] [oM 22 9, oP 23 (.bin .neq (.t 22) (kI 0))] [22])
 (.cond (.t 23) (.seq (.ops [] [oP 24 (.build [aI 0, aI 0, aI 0, aI 0, aI 0, aI 0, .d (.str []), aI 0] []), oM 25 9, oN (.st 8 (.t 6) (.t 24)), oM 7 25] [0, 2, 4, 8, 9, 23, 24, 25])
 (.ret [6, 7])) .skip))
 (.seq (.seq (.ops [] [oP 27 (.ld true 7 (.t 4)), oP 28 (.call N_message_Deliver [] [.t 27]), oM 26 28, oP 29 (.ext (.t 26) 0), oP 30 (.ext (.t 26) 1), oN (.st 7 (.t 4) (.t 29)), oM 9 30] [23, 26, 27, 28, 29, 30])
 (.seq (.ops [] [oM 31 9, oP 32 (.bin .neq (.t 31) (kI 0))] [31])
 (.cond (.t 32) (.seq (.ops [] [oP 33 (.build [aI 0, aI 0, aI 0, aI 0, aI 0, aI 0, .d (.str []), aI 0] []), oM 34 9, oN (.st 8 (.t 6) (.t 33)), oM 7 34] [0, 2, 4, 8, 9, 32, 33, 34])
 (.ret [6, 7])) .skip)))
 (.seq (.draw [] [oM 36 0, oP 37 (.nilc (.t 36)), oP 38 (.fad true 6 2 (.t 37)), oP 39 (.ld true 2 (.t 38)), oP 40 (.ld true 7 (.t 4)), oM 41 2, oP 42 (.call N_lease_Grant [] [.t 39, .t 40, .t 41]), oM 35 42, oP 43 (.ext (.t 35) 0), oP 44 (.ext (.t 35) 1), oP 10 (.alloc (.agg [.xsl [], .xsl []])), oN (.st 2 (.t 10) (.t 43)), oM 9 44] [[], [], [], [], [0, 1, 2, 3], [0, 1, 2, 3, 4], [], [], [], [8], [0, 1, 2, 3, 4, 5, 6, 7, 8, 9], [9], []] [32, 35, 36, 37, 38, 39, 40, 41, 42, 43, 44])
 (.seq (.seq (.ops [] [oM 45 9, oP 46 (.bin .neq (.t 45) (kI 0))] [45])
 (.cond (.t 46) (.seq (.ops [] [oP 47 (.build [aI 0, aI 0, aI 0, aI 0, aI 0, aI 0, .d (.str []), aI 0] []), oM 48 9, oN (.st 8 (.t 6) (.t 47)), oM 7 48] [0, 2, 4, 8, 9, 10, 46, 47, 48])
 (.ret [6, 7])) .skip))
 (.seq (.draw [] [oM 49 0, oM 50 0, oP 51 (.ld true 3 (.t 8)), oP 52 (.ld true 2 (.t 10)), oP 53 (.nilc (.t 49)), oP 54 (.fad true 3 3 (.t 53)), oN (.st 3 (.t 54) (.t 51)), oP 55 (.nilc (.t 50)), oP 56 (.fad true 6 2 (.t 55)), oN (.st 2 (.t 56) (.t 52))] [[], [0], [0, 1], [0, 1, 2], [1, 3], [1, 3], [1, 3], [], [], []] [0, 8, 9, 10, 46, 49, 50, 51, 52, 53, 54, 55, 56])
 (.seq (.ops [] [oP 57 (.ld true 7 (.t 4)), oM 58 2, oP 59 (.build [aI 0, aI 0, aI 0, aI 0, aI 0, aI 0, .d (.str []), aI 0] [(0, (7, .t 57)), (7, (1, .t 58))]), oN (.st 8 (.t 6) (.t 59)), oP 7 (.mv (kI 0))] [2, 4, 57, 58, 59])
 (.ret [6, 7])))))))))
def r_shard_deliver : List ARes := [.c 6 true 8, .t 7]
def fn_shard_deliver : AFn := .code c_shard_deliver r_shard_deliver 60 true
def c_ring_Remove : ACode :=
 (.seq (.ops [] [oP 2 (.box (.t 0)), oP 4 (.alloc (.agg [.xsl [], aI 0, aI 0])), oP 5 (.alloc (.d (.agg [.int .i64 0, .int .i64 0, .int .i64 0, .int .i64 0, .int .i64 0, .int .i64 0, .str []]))), oP 6 (.mv (kI 0))] [0, 6])
 (.seq (.seq (.ops [] [oP 10 (.ld true 3 (.t 2)), oP 11 (.call N_ring_Validate [] [.t 10]), oM 7 11] [10, 11])
 (.seq (.ops [] [oM 12 7, oP 13 (.bin .neq (.t 12) (kI 0))] [12])
 (.cond (.t 13) (.seq (.ops [] [oP 14 (.build [.xsl [], aI 0, aI 0] []), oP 15 (.build [aI 0, aI 0, aI 0, aI 0, aI 0, aI 0, .d (.str [])] []), oM 16 7, oN (.st 3 (.t 4) (.t 14)), oN (.st 7 (.t 5) (.t 15)), oM 6 16] [1, 2, 7, 13, 14, 15, 16])
 (.ret [4, 5, 6])) .skip)))
 (.seq (.ops [] [oP 17 (.ld true 3 (.t 2)), oM 18 1, oP 19 (.call N_ring_find [] [.t 17, .t 18]), oM 8 19] [1, 7, 13, 17, 18, 19])
 (.seq (.seq (.ops [] [oM 20 8, oP 21 (.bin .lss (.t 20) (kI 0))] [20])
 (.cond (.t 21) (.seq (.ops [] [oP 22 (.build [.xsl [], aI 0, aI 0] []), oP 23 (.build [aI 0, aI 0, aI 0, aI 0, aI 0, aI 0, .d (.str [])] []), oN (.st 3 (.t 4) (.t 22)), oN (.st 7 (.t 5) (.t 23)), oP 6 (.mv (kI 4))] [2, 8, 21, 22, 23])
 (.ret [4, 5, 6])) .skip))
 (.seq (.ops [] [oP 25 (.ld true 3 (.t 2)), oM 26 8, oP 27 (.call N_ring_take [] [.t 25, .t 26]), oM 24 27, oP 28 (.ext (.t 24) 0), oP 29 (.ext (.t 24) 1), oP 9 (.alloc (.d (.agg [.int .i64 0, .int .i64 0, .int .i64 0, .int .i64 0, .int .i64 0, .int .i64 0, .str []]))), oN (.st 3 (.t 2) (.t 28)), oN (.st 7 (.t 9) (.t 29))] [8, 21, 24, 25, 26, 27, 28, 29])
 (.seq (.draw [] [oP 30 (.ld true 3 (.t 2)), oP 31 (.ld true 7 (.t 9)), oN (.st 3 (.t 4) (.t 30)), oN (.st 7 (.t 5) (.t 31)), oP 6 (.mv (kI 0))] [[], [0], [1], [], []] [2, 9, 30, 31])
 (.ret [4, 5, 6])))))))
def r_ring_Remove : List ARes := [.c 4 true 3, .c 5 true 7, .t 6]
def fn_ring_Remove : AFn := .code c_ring_Remove r_ring_Remove 32 true
def l_ring_take_0 : ACode :=
 (.seq (.seq (.ops [] [oM 18 7, oP 19 (.fad false 2 1 (.t 2)), oP 20 (.ld false 1 (.t 19)), oP 21 (.bin .sub (.t 20) (kI 1)), oP 22 (.bin .lss (.t 18) (.t 21))] [18, 19, 20, 21])
 (.cond (.t 22) .skip (.exit 0 [2, 4, 5, 6])))
 (.seq (.block 1 (.draw [] [oP 25 (.fad false 0 1 (.t 2)), oP 26 (.ld false 1 (.t 25)), oP 27 (.ld true 3 (.t 2)), oM 28 7, oP 29 (.call N_ring_cell [] [.t 27, .t 28]), oP 30 (.fad false 0 1 (.t 2)), oP 31 (.ld false 1 (.t 30)), oP 32 (.ld true 3 (.t 2)), oM 33 7, oP 34 (.bin .add (.t 33) (kI 1)), oP 35 (.call N_ring_cell [] [.t 32, .t 34]), oP 36 (.iad 7 (.t 31) (.t 35)), oP 37 (.ld true 7 (.t 36)), oP 38 (.iad 7 (.t 26) (.t 29)), oN (.st 7 (.t 38) (.t 37))] [[], [], [0, 1], [0, 1, 2], [0, 1], [0, 1, 2, 3, 4], [0, 1, 2, 3, 4], [0, 1, 2, 3, 4, 5, 6], [0, 1, 2, 3, 4, 5, 6, 7], [0, 1, 2, 3, 4, 5, 6, 7], [0, 1, 5, 6], [0, 1], [0, 1], [], []] [22, 25, 26, 27, 28, 29, 30, 31, 32, 33, 34, 35, 36, 37, 38]))
 (.ops [] [oM 23 7, oP 24 (.bin .add (.t 23) (kI 1)), oM 7 24] [23, 24])))
def c_ring_take : ACode :=
 (.seq (.ops [] [oP 2 (.box (.t 0)), oP 4 (.alloc (.agg [.xsl [], aI 0, aI 0])), oP 5 (.alloc (.d (.agg [.int .i64 0, .int .i64 0, .int .i64 0, .int .i64 0, .int .i64 0, .int .i64 0, .str []])))] [0])
 (.seq (.ops [] [oP 8 (.ld true 3 (.t 2)), oP 9 (.call N_ring_own [] [.t 8]), oN (.st 3 (.t 2) (.t 9))] [8, 9])
 (.seq (.draw [18] [oP 10 (.fad false 0 1 (.t 2)), oP 11 (.ld false 1 (.t 10)), oP 12 (.ld true 3 (.t 2)), oM 13 1, oP 14 (.call N_ring_cell [] [.t 12, .t 13]), oP 15 (.iad 7 (.t 11) (.t 14)), oP 16 (.ld true 7 (.t 15)), oP 6 (.alloc (.d (.agg [.int .i64 0, .int .i64 0, .int .i64 0, .int .i64 0, .int .i64 0, .int .i64 0, .str []]))), oN (.st 7 (.t 6) (.t 16))] [[], [], [0, 1], [0, 1, 2], [0, 1], [], [], [0, 1, 2, 3, 4, 5, 6], []] [10, 11, 12, 13, 14, 15, 16])
 (.seq (.seq (.ops [] [oM 17 1, oM 7 17] [1, 17])
 (.block 0 (.loop [] l_ring_take_0)))
 (.seq (.ops [] [oP 39 (.fad false 2 1 (.t 2)), oP 40 (.ld false 1 (.t 39)), oP 41 (.bin .sub (.t 40) (kI 1)), oP 42 (.fad false 2 1 (.t 2)), oN (.st 1 (.t 42) (.t 41))] [7, 22, 39, 40, 41, 42])
 (.seq (.draw [] [oP 43 (.fad false 0 1 (.t 2)), oP 44 (.ld false 1 (.t 43)), oP 45 (.ld true 3 (.t 2)), oP 46 (.fad false 2 1 (.t 2)), oP 47 (.ld false 1 (.t 46)), oP 48 (.call N_ring_cell [] [.t 45, .t 47]), oP 49 (.build [aI 0, aI 0, aI 0, aI 0, aI 0, aI 0, .d (.str [])] []), oP 50 (.iad 7 (.t 44) (.t 48)), oN (.st 7 (.t 50) (.t 49))] [[], [], [0, 1], [0, 1, 2], [0, 1, 2], [0, 1], [0, 1, 2, 3, 4, 5], [], []] [43, 44, 45, 46, 47, 48, 49, 50])
 (.seq (.draw [] [oP 51 (.ld true 3 (.t 2)), oP 52 (.ld true 7 (.t 6)), oN (.st 3 (.t 4) (.t 51)), oN (.st 7 (.t 5) (.t 52))] [[], [0], [1], []] [2, 6, 51, 52])
 (.ret [4, 5]))))))))
def r_ring_take : List ARes := [.c 4 true 3, .c 5 true 7]
def fn_ring_take : AFn := .code c_ring_take r_ring_take 53 true
def c_message_Deliver : ACode :=
 (.seq (.ops [] [oP 1 (.box (.t 0)), oP 2 (.alloc (.d (.agg [.int .i64 0, .int .i64 0, .int .i64 0, .int .i64 0, .int .i64 0, .int .i64 0, .str []]))), oP 3 (.mv (kI 0))] [0, 3])
 (.seq (.seq (.ops [] [oP 5 (.ld true 7 (.t 1)), oP 6 (.call N_message_Validate [] [.t 5]), oM 4 6] [5, 6])
 (.seq (.ops [] [oM 7 4, oP 8 (.bin .neq (.t 7) (kI 0))] [7])
 (.cond (.t 8) (.seq (.ops [] [oP 9 (.build [aI 0, aI 0, aI 0, aI 0, aI 0, aI 0, .d (.str [])] []), oM 10 4, oN (.st 7 (.t 2) (.t 9)), oM 3 10] [1, 4, 8, 9, 10])
 (.ret [2, 3])) .skip)))
 (.seq (.block 0 (.seq (.ops [] [oP 12 (.fad false 4 1 (.t 1)), oP 13 (.ld false 1 (.t 12)), oP 14 (.bin .eql (.t 13) (kI 65536)), oM 11 14] [4, 8, 12, 13, 14])
 (.cond (.t 11) (.seq (.ops [] [oP 15 (.build [aI 0, aI 0, aI 0, aI 0, aI 0, aI 0, .d (.str [])] []), oN (.st 7 (.t 2) (.t 15)), oP 3 (.mv (kI 6))] [1, 11, 15])
 (.ret [2, 3])) (.seq (.ops [] [oP 17 (.fad false 3 1 (.t 1)), oP 18 (.ld false 1 (.t 17)), oP 19 (.bin .eql (.t 18) (kI 8)), oM 16 19] [11, 17, 18, 19])
 (.cond (.t 16) (.seq (.ops [] [oP 20 (.build [aI 0, aI 0, aI 0, aI 0, aI 0, aI 0, .d (.str [])] []), oN (.st 7 (.t 2) (.t 20)), oP 3 (.mv (kI 7))] [1, 16, 20])
 (.ret [2, 3])) .skip)))))
 (.seq (.ops [] [oP 21 (.fad false 3 1 (.t 1)), oP 22 (.ld false 1 (.t 21)), oP 23 (.bin .add (.t 22) (kI 1)), oP 24 (.fad false 3 1 (.t 1)), oN (.st 1 (.t 24) (.t 23))] [16, 21, 22, 23, 24])
 (.seq (.ops [] [oP 25 (.fad false 4 1 (.t 1)), oP 26 (.ld false 1 (.t 25)), oP 27 (.bin .add (.t 26) (kI 1)), oP 28 (.fad false 4 1 (.t 1)), oN (.st 1 (.t 28) (.t 27))] [25, 26, 27, 28])
 (.seq (.ops [] [oP 29 (.ld true 7 (.t 1)), oN (.st 7 (.t 2) (.t 29)), oP 3 (.mv (kI 0))] [1, 29])
 (.ret [2, 3])))))))
def r_message_Deliver : List ARes := [.c 2 true 7, .t 3]
def fn_message_Deliver : AFn := .code c_message_Deliver r_message_Deliver 30 true
def c_lease_Grant : ACode :=
 (.seq (.ops [] [oP 3 (.box (.t 0)), oP 4 (.box (.t 1)), oP 6 (.alloc (.agg [.xsl [], .xsl []])), oP 7 (.mv (kI 0))] [0, 1, 7])
 (.seq (.seq (.ops [] [oP 14 (.ld true 2 (.t 3)), oP 15 (.call N_lease_Validate [] [.t 14]), oM 8 15] [14, 15])
 (.seq (.ops [] [oM 16 8, oP 17 (.bin .neq (.t 16) (kI 0))] [16])
 (.cond (.t 17) (.seq (.ops [] [oP 18 (.build [.xsl [], .xsl []] []), oM 19 8, oN (.st 2 (.t 6) (.t 18)), oM 7 19] [2, 3, 4, 8, 17, 18, 19])
 (.ret [6, 7])) .skip)))
 (.seq (.seq (.ops [] [oP 20 (.ld true 7 (.t 4)), oP 21 (.call N_message_Validate [] [.t 20]), oM 9 21] [8, 17, 20, 21])
 (.seq (.ops [] [oM 22 9, oP 23 (.bin .neq (.t 22) (kI 0))] [22])
 (.cond (.t 23) (.seq (.ops [] [oP 24 (.build [.xsl [], .xsl []] []), oM 25 9, oN (.st 2 (.t 6) (.t 24)), oM 7 25] [2, 3, 4, 9, 23, 24, 25])
 (.ret [6, 7])) .skip)))
 (.seq (.ops [] [oP 27 (.ld true 2 (.t 3)), oP 28 (.fad false 0 1 (.t 4)), oP 29 (.ld false 1 (.t 28)), oP 30 (.call N_lease_find [] [.t 27, .t 29]), oM 26 30, oP 31 (.ext (.t 26) 0), oP 32 (.ext (.t 26) 1), oM 10 31, oM 11 32] [9, 23, 26, 27, 28, 29, 30, 31, 32])
 (.seq (.block 0 (.seq (.ops [] [oP 34 (.fad false 4 1 (.t 4)), oP 35 (.ld false 1 (.t 34)), oP 36 (.bin .eql (.t 35) (kI 0)), oM 33 36] [34, 35, 36])
 (.cond (.t 33) (.seq (.ops [] [oP 37 (.build [.xsl [], .xsl []] []), oN (.st 2 (.t 6) (.t 37)), oP 7 (.mv (kI 7))] [2, 3, 4, 10, 11, 33, 37])
 (.ret [6, 7])) (.seq (.ops [] [oM 39 2, oP 40 (.call N_lease_time [] [.t 39]), oP 41 (.un .not (.t 40)), oM 38 41] [33, 39, 40, 41])
 (.cond (.t 38) (.seq (.ops [] [oP 42 (.build [.xsl [], .xsl []] []), oN (.st 2 (.t 6) (.t 42)), oP 7 (.mv (kI 1))] [2, 3, 4, 10, 11, 38, 42])
 (.ret [6, 7])) (.seq (.ops [] [oP 44 (.fad false 0 1 (.t 3)), oP 45 (.ld false 1 (.t 44)), oP 46 (.len (.t 45)), oP 47 (.bin .eql (.t 46) (kI 12)), oM 43 47] [38, 44, 45, 46, 47])
 (.cond (.t 43) (.seq (.ops [] [oP 48 (.build [.xsl [], .xsl []] []), oN (.st 2 (.t 6) (.t 48)), oP 7 (.mv (kI 3))] [2, 3, 4, 10, 11, 43, 48])
 (.ret [6, 7])) (.seq (.ops [] [oM 50 11, oM 49 50] [11, 43, 50])
 (.cond (.t 49) (.seq (.ops [] [oP 51 (.build [.xsl [], .xsl []] []), oN (.st 2 (.t 6) (.t 51)), oP 7 (.mv (kI 10))] [2, 3, 4, 10, 49, 51])
 (.ret [6, 7])) .skip)))))))))
 (.seq (.ops [] [oP 53 (.fad false 1 1 (.t 3)), oP 54 (.ld false 1 (.t 53)), oM 55 2, oP 56 (.fad false 0 1 (.t 4)), oP 57 (.ld false 1 (.t 56)), oP 58 (.build [aI 0, aI 0] [(0, (1, .t 55)), (1, (1, .t 57))]), oP 59 (.call N_due_Push [] [.t 54, .t 58]), oM 52 59, oP 60 (.ext (.t 52) 0), oP 61 (.ext (.t 52) 1), oM 12 60, oM 13 61] [49, 52, 53, 54, 55, 56, 57, 58, 59, 60, 61])
 (.seq (.seq (.ops [] [oM 62 13, oP 63 (.bin .neq (.t 62) (kI 0))] [62])
 (.cond (.t 63) (.seq (.ops [] [oP 64 (.build [.xsl [], .xsl []] []), oM 65 13, oN (.st 2 (.t 6) (.t 64)), oM 7 65] [2, 3, 4, 10, 12, 13, 63, 64, 65])
 (.ret [6, 7])) .skip))
 (.seq (.draw [] [oP 66 (.fad false 0 1 (.t 3)), oP 67 (.ld false 1 (.t 66)), oP 68 (.call N_slices_Clone_api_Lease [] [.t 67]), oM 69 10, oP 70 (.ld true 7 (.t 4)), oM 71 2, oP 72 (.build [aI 0, aI 0, aI 0, aI 0, aI 0, aI 0, .d (.str []), aI 0] [(0, (7, .t 70)), (7, (1, .t 71))]), oP 73 (.bsl 1 8 (.d (.agg [.int .i64 0, .int .i64 0, .int .i64 0, .int .i64 0, .int .i64 0, .int .i64 0, .str [], .int .i64 0])) [(0, .t 72)]), oP 74 (.call N_slices_Insert_api_Lease [true, false, false] [.t 68, .t 69, .t 73]), oM 75 12, oP 76 (.build [.xsl [], .xsl []] [(0, (1, .t 74)), (1, (1, .t 75))]), oN (.st 2 (.t 6) (.t 76)), oP 7 (.mv (kI 0))] [[], [], [], [0, 1, 2], [0, 1, 2, 3], [0, 1, 2, 3, 4], [0, 1, 2, 3], [0, 1, 2, 3], [], [0, 1, 2, 3, 4, 5, 6, 7, 8], [], [], []] [2, 3, 4, 10, 12, 13, 63, 66, 67, 68, 69, 70, 71, 72, 73, 74, 75, 76])
 (.ret [6, 7])))))))))
def r_lease_Grant : List ARes := [.c 6 true 2, .t 7]
def fn_lease_Grant : AFn := .code c_lease_Grant r_lease_Grant 77 true
def c_lease_find : ACode :=
 (.seq (.ops [] [oP 2 (.box (.t 0)), oP 4 (.mv (kI 0)), oP 5 (.mv (.c (.d (.bool false))))] [0, 4, 5])
 (.seq (.ops [] [oP 6 (.fad false 0 1 (.t 2)), oP 7 (.ld false 1 (.t 6)), oM 8 1, oP 9 (.call N_slices_BinarySearchFunc_api_Lease [] [.t 7, .t 8, .c (.d (.fn N_lease_find_1 []))]), oP 10 (.ext (.t 9) 0), oP 11 (.ext (.t 9) 1), oM 4 10, oM 5 11] [1, 2, 6, 7, 8, 9, 10, 11])
 (.ret [4, 5])))
def r_lease_find : List ARes := [.t 4, .t 5]
def fn_lease_find : AFn := .code c_lease_find r_lease_find 12 true
def l_slices_BinarySearchFunc_api_Lease_0 : ACode :=
 (.seq (.seq (.ops [] [oM 15 9, oM 16 10, oP 17 (.bin .lss (.t 15) (.t 16))] [15, 16])
 (.cond (.t 17) .skip (.exit 0 [0, 1, 2, 8, 9])))
 (.block 1 (.seq (.ops [] [oM 18 9, oM 19 10, oP 20 (.bin .add (.t 18) (.t 19)), oP 21 (.cvi .u64 (.t 20)), oP 22 (.bin .shr (.t 21) (.c (.d (.int .u64 1)))), oP 23 (.cvi .i64 (.t 22)), oM 11 23] [17, 18, 19, 20, 21, 22, 23])
 (.seq (.ops [] [oM 24 2, oM 25 0, oM 26 11, oP 27 (.iad 8 (.t 25) (.t 26)), oP 28 (.ld true 8 (.t 27)), oM 29 1, oP 30 (.callv (.t 24) [] [.t 28, .t 29]), oP 31 (.bin .lss (.t 30) (kI 0))] [24, 25, 26, 27, 28, 29, 30])
 (.cond (.t 31) (.ops [] [oM 32 11, oP 33 (.bin .add (.t 32) (kI 1)), oM 9 33] [11, 31, 32, 33]) (.ops [] [oM 34 11, oM 10 34] [11, 31, 34]))))))
def c_slices_BinarySearchFunc_api_Lease : ACode :=
 (.seq (.ops [] [oP 6 (.mv (kI 0)), oP 7 (.mv (.c (.d (.bool false))))] [6, 7])
 (.seq (.ops [] [oM 12 0, oP 13 (.len (.t 12)), oM 8 13] [12, 13])
 (.seq (.ops [] [oM 14 8, oP 9 (.mv (kI 0)), oM 10 14] [14])
 (.seq (.block 0 (.loop [] l_slices_BinarySearchFunc_api_Lease_0))
 (.seq (.ops [] [oM 35 9, oM 36 9, oM 37 8, oP 38 (.bin .lss (.t 36) (.t 37)), oM 39 38, oQ 40 (.mv (.t 2)) 39 true, oQ 41 (.mv (.t 0)) 39 true, oQ 42 (.mv (.t 9)) 39 true, oQ 43 (.iad 8 (.t 41) (.t 42)) 39 true, oQ 44 (.ld true 8 (.t 43)) 39 true, oQ 45 (.mv (.t 1)) 39 true, oQ 46 (.callv (.t 40) [] [.t 44, .t 45]) 39 true, oQ 47 (.bin .eql (.t 46) (kI 0)) 39 true, oP 48 (.pick (.t 39) (.t 47) (.c (.d (.bool false)))), oM 6 35, oM 7 48] [0, 1, 2, 8, 9, 10, 17, 35, 36, 37, 38, 39, 40, 41, 42, 43, 44, 45, 46, 47, 48])
 (.ret [6, 7]))))))
def r_slices_BinarySearchFunc_api_Lease : List ARes := [.t 6, .t 7]
def fn_slices_BinarySearchFunc_api_Lease : AFn := .code c_slices_BinarySearchFunc_api_Lease r_slices_BinarySearchFunc_api_Lease 49 true
def c_lease_find_1 : ACode :=
 (.seq (.ops [] [oP 2 (.box (.t 0)), oP 4 (.mv (kI 0))] [0, 4])
 (.seq (.ops [] [oP 5 (.fad true 0 7 (.t 2)), oP 6 (.fad false 0 1 (.t 5)), oP 7 (.ld false 1 (.t 6)), oM 8 1, oP 9 (.call N_cmp_Compare_int [] [.t 7, .t 8]), oM 4 9] [1, 2, 5, 6, 7, 8, 9])
 (.ret [4])))
def r_lease_find_1 : List ARes := [.t 4]
def fn_lease_find_1 : AFn := .code c_lease_find_1 r_lease_find_1 10 true
def c_due_Push : ACode :=
 (.seq (.ops [] [oP 3 (.box (.t 1)), oP 4 (.mv (.c (.xsl []))), oP 5 (.mv (kI 0))] [1, 4, 5])
 (.seq (.seq (.ops [] [oM 7 0, oP 8 (.call N_due_Validate [] [.t 7]), oM 6 8] [7, 8])
 (.seq (.ops [] [oM 9 6, oP 10 (.bin .neq (.t 9) (kI 0))] [9])
 (.cond (.t 10) (.seq (.ops [] [oM 11 6, oP 4 (.mv (.c (.xsl []))), oM 5 11] [0, 3, 6, 10, 11])
 (.ret [4, 5])) .skip)))
 (.seq (.block 0 (.seq (.ops [] [oP 13 (.ld true 2 (.t 3)), oP 14 (.call N_due_valid [] [.t 13]), oP 15 (.un .not (.t 14)), oM 12 15] [6, 10, 13, 14, 15])
 (.cond (.t 12) (.seq (.ops [] [oP 4 (.mv (.c (.xsl []))), oP 5 (.mv (kI 1))] [0, 3, 12])
 (.ret [4, 5])) (.seq (.ops [] [oM 17 0, oP 18 (.len (.t 17)), oP 19 (.bin .eql (.t 18) (kI 12)), oM 16 19] [12, 17, 18, 19])
 (.cond (.t 16) (.seq (.ops [] [oP 4 (.mv (.c (.xsl []))), oP 5 (.mv (kI 3))] [0, 3, 16])
 (.ret [4, 5])) (.seq (.ops [] [oM 21 0, oP 22 (.fad false 1 1 (.t 3)), oP 23 (.ld false 1 (.t 22)), oP 24 (.call N_due_find [] [.t 21, .t 23]), oP 25 (.bin .geq (.t 24) (kI 0)), oM 20 25] [16, 21, 22, 23, 24, 25])
 (.cond (.t 20) (.seq (.ops [] [oP 4 (.mv (.c (.xsl []))), oP 5 (.mv (kI 10))] [0, 3, 20])
 (.ret [4, 5])) .skip)))))))
 (.seq (.draw [] [oM 26 0, oP 27 (.call N_slices_Clone_api_Due [] [.t 26]), oP 28 (.ld true 2 (.t 3)), oP 29 (.bsl 1 2 (.d (.agg [.int .i64 0, .int .i64 0])) [(0, .t 28)]), oP 30 (.app 2 (.t 27) (.t 29)), oM 0 30] [[], [], [0, 1], [0, 1], [], []] [3, 20, 26, 27, 28, 29, 30])
 (.seq (.ops [54] [oM 31 0, oM 32 0, oP 33 (.len (.t 32)), oP 34 (.bin .sub (.t 33) (kI 1)), oP 35 (.call N_due_up [true, false] [.t 31, .t 34])] [31, 32, 33, 34, 35])
 (.seq (.ops [] [oM 36 0, oM 4 36, oP 5 (.mv (kI 0))] [0, 36])
 (.ret [4, 5])))))))
def r_due_Push : List ARes := [.t 4, .t 5]
def fn_due_Push : AFn := .code c_due_Push r_due_Push 37 true
def l_due_up_0 : ACode :=
 (.seq (.seq (.ops [] [oM 6 1, oP 7 (.bin .gtr (.t 6) (kI 0)), oM 8 7, oQ 9 (.mv (.t 0)) 8 true, oQ 10 (.mv (.t 1)) 8 true, oQ 11 (.mv (.t 1)) 8 true, oQ 12 (.bin .sub (.t 11) (kI 1)) 8 true, oQ 13 (.bin .quo (.t 12) (kI 2)) 8 true, oQ 14 (.call N_due_before [] [.t 9, .t 10, .t 13]) 8 true, oP 15 (.pick (.t 8) (.t 14) (.c (.d (.bool false))))] [6, 7, 8, 9, 10, 11, 12, 13, 14])
 (.cond (.t 15) .skip (.exit 0 [1])))
 (.block 1 (.seq (.ops [] [oM 16 1, oP 17 (.bin .sub (.t 16) (kI 1)), oP 18 (.bin .quo (.t 17) (kI 2)), oM 5 18] [15, 16, 17, 18])
 (.seq (.draw [] [oM 19 0, oM 20 1, oM 21 0, oM 22 5, oM 23 0, oM 24 5, oP 25 (.iad 2 (.t 23) (.t 24)), oP 26 (.ld true 2 (.t 25)), oM 27 0, oM 28 1, oP 29 (.iad 2 (.t 27) (.t 28)), oP 30 (.ld true 2 (.t 29)), oP 31 (.iad 2 (.t 19) (.t 20)), oN (.st 2 (.t 31) (.t 26)), oP 32 (.iad 2 (.t 21) (.t 22)), oN (.st 2 (.t 32) (.t 30))] [[], [0], [0, 1], [0, 1, 2], [0, 1, 2, 3], [0, 1, 2, 3, 4], [0, 1, 2, 3], [0, 1, 2, 3], [0, 1, 2, 3, 4, 5, 6, 7], [0, 1, 2, 3, 4, 5, 6, 7, 8], [0, 1, 2, 3, 4, 5, 6, 7], [0, 1, 2, 3, 4, 5, 6, 7], [2, 3], [2, 3], [], []] [1, 19, 20, 21, 22, 23, 24, 25, 26, 27, 28, 29, 30, 31, 32])
 (.ops [] [oM 33 5, oM 1 33] [5, 33])))))
def c_due_up : ACode :=
 (.seq (.ops [] [oP 4 (.mv (kI 0))] [4])
 (.seq (.block 0 (.loop [] l_due_up_0))
 (.seq (.ops [] [oM 34 1, oM 4 34] [0, 1, 15, 34])
 (.ret [4]))))
def r_due_up : List ARes := [.t 4]
def fn_due_up : AFn := .code c_due_up r_due_up 35 true
def fn_slices_Insert_api_Lease : AFn := .ext (insF 8)
def l_shard_Expire_0 : ACode :=
 (.seq (.ops [] [oP 40 (.bin .lss (.t 39) (.t 38))] [])
 (.seq (.cond (.t 40) .skip (.exit 0 [4, 8, 12]))
 (.seq (.block 1 (.seq (.ops [] [oP 41 (.iad 1 (.t 37) (.t 39)), oP 42 (.ld false 1 (.t 41)), oM 14 42] [40, 41, 42])
 (.seq (.ops [] [oP 15 (.alloc (.d (.agg [.int .i64 0, .int .i64 0, .int .i64 0, .int .i64 0, .int .i64 0, .int .i64 0, .str []])))] [])
 (.seq (.ops [] [oP 16 (.mv (kI 0))] [16])
 (.seq (.seq (.ops [] [oP 44 (.ld true 8 (.t 4)), oM 45 14, oP 46 (.call N_shard_release [] [.t 44, .t 45]), oM 43 46, oP 47 (.ext (.t 43) 0), oP 48 (.ext (.t 43) 1), oP 49 (.ext (.t 43) 2), oN (.st 8 (.t 4) (.t 47)), oN (.st 7 (.t 15) (.t 48)), oM 16 49] [14, 43, 44, 45, 46, 47, 48, 49])
 (.seq (.ops [] [oM 50 16, oP 51 (.bin .neq (.t 50) (kI 0))] [50])
 (.cond (.t 51) (.seq (.ops [] [oP 52 (.build [.d (.bool false), aI 0, aI 0, .xsl [], aI 0, aI 0, .xsl [], .xsl []] []), oM 53 16, oN (.st 8 (.t 8) (.t 52)), oP 9 (.mv (.c (.xsl []))), oM 10 53] [4, 12, 15, 16, 37, 38, 39, 51, 52, 53])
 (.ret [8, 9, 10])) .skip)))
 (.seq (.ops [] [oP 55 (.fad true 3 3 (.t 4)), oP 56 (.ld true 3 (.t 55)), oP 57 (.ld true 7 (.t 15)), oP 58 (.call N_ring_PushBack [] [.t 56, .t 57]), oM 54 58, oP 59 (.ext (.t 54) 0), oP 60 (.ext (.t 54) 1), oP 61 (.fad true 3 3 (.t 4)), oN (.st 3 (.t 61) (.t 59)), oM 16 60] [15, 51, 54, 55, 56, 57, 58, 59, 60, 61])
 (.seq (.ops [] [oM 62 16, oP 63 (.bin .neq (.t 62) (kI 0))] [62])
 (.cond (.t 63) (.seq (.ops [] [oP 64 (.build [.d (.bool false), aI 0, aI 0, .xsl [], aI 0, aI 0, .xsl [], .xsl []] []), oM 65 16, oN (.st 8 (.t 8) (.t 64)), oP 9 (.mv (.c (.xsl []))), oM 10 65] [4, 12, 16, 37, 38, 39, 63, 64, 65])
 (.ret [8, 9, 10])) .skip))))))))
 (.ops [] [oP 66 (.bin .add (.t 39) (kI 1)), oM 39 66] [16, 63, 66]))))
def c_shard_Expire : ACode :=
 (.seq (.ops [] [oP 4 (.box (.t 0)), oP 8 (.alloc (.agg [.d (.bool false), aI 0, aI 0, .xsl [], aI 0, aI 0, .xsl [], .xsl []])), oP 9 (.mv (.c (.xsl []))), oP 10 (.mv (kI 0))] [0, 9, 10])
 (.seq (.seq (.draw [] [oP 17 (.ld true 8 (.t 4)), oM 18 1, oP 19 (.call N_shard_isTime [] [.t 18]), oM 20 2, oP 21 (.call N_shard_isEpoch [] [.t 20]), oM 22 3, oP 23 (.call N_shard_isLimit [] [.t 22]), oP 24 (.bsl 3 1 (.d (.bool false)) [(0, .t 19), (1, .t 21), (2, .t 23)]), oP 25 (.call N_shard_usable [] [.t 17, .t 24]), oM 11 25] [[], [0], [0], [0, 1, 2], [0], [0, 1, 2, 3, 4], [0], [0], [], []] [3, 17, 18, 19, 20, 21, 22, 23, 24, 25])
 (.seq (.ops [] [oM 26 11, oP 27 (.bin .neq (.t 26) (kI 0))] [26])
 (.cond (.t 27) (.seq (.ops [] [oP 28 (.build [.d (.bool false), aI 0, aI 0, .xsl [], aI 0, aI 0, .xsl [], .xsl []] []), oM 29 11, oN (.st 8 (.t 8) (.t 28)), oP 9 (.mv (.c (.xsl []))), oM 10 29] [1, 2, 4, 11, 27, 28, 29])
 (.ret [8, 9, 10])) .skip)))
 (.seq (.ops [] [oP 30 (.ld true 8 (.t 4)), oP 31 (.call N_shard_own [] [.t 30]), oN (.st 8 (.t 4) (.t 31))] [11, 27, 30, 31])
 (.seq (.ops [] [oP 32 (.fad true 6 2 (.t 4)), oP 33 (.ld true 2 (.t 32)), oM 34 1, oM 35 2, oP 36 (.call N_lease_Lapsed [] [.t 33, .t 34, .t 35]), oM 12 36] [1, 2, 32, 33, 34, 35, 36])
 (.seq (.seq (.ops [] [oM 37 12, oP 38 (.len (.t 37)), oP 39 (.mv (kI 0))] [])
 (.block 0 (.loop [] l_shard_Expire_0)))
 (.seq (.ops [] [oP 67 (.ld true 8 (.t 4)), oM 68 12, oN (.st 8 (.t 8) (.t 67)), oM 9 68, oP 10 (.mv (kI 0))] [4, 12, 37, 38, 39, 40, 67, 68])
 (.ret [8, 9, 10])))))))
def r_shard_Expire : List ARes := [.c 8 true 8, .t 9, .t 10]
def fn_shard_Expire : AFn := .code c_shard_Expire r_shard_Expire 69 true
def c_lease_Lapsed : ACode :=
 (.seq (.ops [] [oP 3 (.box (.t 0)), oP 5 (.box (.t 2)), oP 6 (.mv (.c (.xsl [])))] [0, 2, 6])
 (.seq (.seq (.ops [] [oP 7 (.ld true 2 (.t 3)), oP 8 (.call N_lease_Validate [] [.t 7]), oP 9 (.bin .neq (.t 8) (kI 0))] [7, 8])
 (.cond (.t 9) (.seq (.ops [] [oP 6 (.mv (.c (.xsl [])))] [1, 3, 5, 9])
 (.ret [6])) .skip))
 (.seq (.ops [] [oP 10 (.fad false 1 1 (.t 3)), oP 11 (.ld false 1 (.t 10)), oM 12 1, oP 13 (.call N_due_Until [] [.t 11, .t 12]), oP 14 (.mkfn N_lease_Lapsed_1 [.t 3, .t 5]), oP 15 (.call N_slices_DeleteFunc_int [true, false] [.t 13, .t 14]), oM 6 15] [1, 3, 5, 9, 10, 11, 12, 13, 14, 15])
 (.ret [6]))))
def r_lease_Lapsed : List ARes := [.t 6]
def fn_lease_Lapsed : AFn := .code c_lease_Lapsed r_lease_Lapsed 16 true
def l_due_Until_0 : ACode :=
 (.seq (.ops [] [oP 19 (.bin .lss (.t 18) (.t 17))] [])
 (.seq (.cond (.t 19) .skip (.exit 0 [6]))
 (.seq (.block 1 (.seq (.ops [] [oP 20 (.iad 2 (.t 16) (.t 18)), oP 21 (.ld true 2 (.t 20)), oP 8 (.alloc (.d (.agg [.int .i64 0, .int .i64 0]))), oN (.st 2 (.t 8) (.t 21))] [19, 20, 21])
 (.seq (.ops [] [oP 22 (.fad false 0 1 (.t 8)), oP 23 (.ld false 1 (.t 22)), oM 24 1, oP 25 (.bin .leq (.t 23) (.t 24))] [22, 23, 24])
 (.cond (.t 25) (.ops [] [oM 26 6, oP 27 (.fad false 1 1 (.t 8)), oP 28 (.ld false 1 (.t 27)), oP 29 (.bsl 1 1 (aI 0) [(0, .t 28)]), oP 30 (.app 1 (.t 26) (.t 29)), oM 6 30] [8, 25, 26, 27, 28, 29, 30]) .skip))))
 (.ops [] [oP 31 (.bin .add (.t 18) (kI 1)), oM 18 31] [8, 25, 31]))))
def c_due_Until : ACode :=
 (.seq (.ops [] [oP 4 (.mv (.c (.xsl [])))] [4])
 (.seq (.seq (.ops [] [oM 9 0, oP 10 (.call N_due_Validate [] [.t 9]), oP 11 (.bin .neq (.t 10) (kI 0))] [9, 10])
 (.cond (.t 11) (.seq (.ops [] [oP 4 (.mv (.c (.xsl [])))] [0, 1, 11])
 (.ret [4])) .skip))
 (.seq (.ops [] [oM 12 0, oP 13 (.call N_slices_Clone_api_Due [] [.t 12]), oM 5 13] [0, 11, 12, 13])
 (.seq (.ops [26] [oM 14 5, oP 15 (.call N_slices_SortFunc_api_Due [true, false] [.t 14, .c (.d (.fn N_due_compare []))])] [14, 15])
 (.seq (.ops [] [oP 6 .nacc] [])
 (.seq (.seq (.ops [] [oM 16 5, oP 17 (.len (.t 16)), oP 18 (.mv (kI 0))] [5])
 (.block 0 (.loop [] l_due_Until_0)))
 (.seq (.ops [] [oM 32 6, oM 4 32] [1, 6, 16, 17, 18, 19, 32])
 (.ret [4]))))))))
def r_due_Until : List ARes := [.t 4]
def fn_due_Until : AFn := .code c_due_Until r_due_Until 33 false
def c_slices_SortFunc_api_Due : ACode :=
 (.seq (.ops [] [oM 5 0, oP 6 (.len (.t 5)), oM 4 6] [5, 6])
 (.ops [] [oM 7 0, oM 8 4, oM 9 4, oP 10 (.cvi .u64 (.t 9)), oP 11 (.call N_math_bits_Len [] [.t 10]), oM 12 1, oP 13 (.call N_slices_pdqsortCmpFunc_api_Due [true, false, false, false, false] [.t 7, kI 0, .t 8, .t 11, .t 12])] [0, 1, 4, 7, 8, 9, 10, 11, 12, 13]))
def r_slices_SortFunc_api_Due : List ARes := []
def fn_slices_SortFunc_api_Due : AFn := .code c_slices_SortFunc_api_Due r_slices_SortFunc_api_Due 14 true
def c_math_bits_Len : ACode :=
 (.seq (.ops [] [oP 2 (.mv (kI 0))] [2])
 (.seq (.cond (.c (.d (.bool false))) (.seq (.ops [] [oM 3 0, oP 4 (.cvi .u32 (.t 3)), oP 5 (.call N_math_bits_Len32 [] [.t 4]), oM 2 5] [0, 3, 4, 5])
 (.ret [2])) .skip)
 (.seq (.ops [] [oM 6 0, oP 7 (.call N_math_bits_Len64 [] [.t 6]), oM 2 7] [0, 6, 7])
 (.ret [2]))))
def r_math_bits_Len : List ARes := [.t 2]
def fn_math_bits_Len : AFn := .code c_math_bits_Len r_math_bits_Len 8 true
def c_math_bits_Len32 : ACode :=
 (.seq (.ops [] [oP 2 (.mv (kI 0))] [])
 (.seq (.seq (.ops [] [oM 3 0, oP 4 (.bin .geq (.t 3) (.c (.d (.int .u32 65536))))] [3])
 (.cond (.t 4) (.seq (.ops [] [oM 5 0, oP 6 (.bin .shr (.t 5) (.c (.d (.int .u64 16)))), oM 0 6] [2, 4, 5, 6])
 (.ops [] [oP 2 (.mv (kI 16))] [])) .skip))
 (.seq (.seq (.ops [] [oM 7 0, oP 8 (.bin .geq (.t 7) (.c (.d (.int .u32 256))))] [4, 7])
 (.cond (.t 8) (.seq (.ops [] [oM 9 0, oP 10 (.bin .shr (.t 9) (.c (.d (.int .u64 8)))), oM 0 10] [8, 9, 10])
 (.ops [] [oM 11 2, oP 12 (.bin .add (.t 11) (kI 8)), oM 2 12] [11, 12])) .skip))
 (.seq (.ops [] [oM 13 2, oM 14 0, oP 15 (.cvi .u8 (.t 14)), oP 16 (.idx (.c (.d (.str [0, 1, 2, 2, 3, 3, 3, 3, 4, 4, 4, 4, 4, 4, 4, 4, 5, 5, 5, 5, 5, 5, 5, 5, 5, 5, 5, 5, 5, 5, 5, 5, 6, 6, 6, 6, 6, 6, 6, 6, 6, 6, 6, 6, 6, 6, 6, 6, 6, 6, 6, 6, 6, 6, 6, 6, 6, 6, 6, 6, 6, 6, 6, 6, 7, 7, 7, 7, 7, 7, 7, 7, 7, 7, 7, 7, 7, 7, 7, 7, 7, 7, 7, 7, 7, 7, 7, 7, 7, 7, 7, 7, 7, 7, 7, 7, 7, 7, 7, 7, 7, 7, 7, 7, 7, 7, 7, 7, 7, 7, 7, 7, 7, 7, 7, 7, 7, 7, 7, 7, 7, 7, 7, 7, 7, 7, 7, 7, 8, 8, 8, 8, 8, 8, 8, 8, 8, 8, 8, 8, 8, 8, 8, 8, 8, 8, 8, 8, 8, 8, 8, 8, 8, 8, 8, 8, 8, 8, 8, 8, 8, 8, 8, 8, 8, 8, 8, 8, 8, 8, 8, 8, 8, 8, 8, 8, 8, 8, 8, 8, 8, 8, 8, 8, 8, 8, 8, 8, 8, 8, 8, 8, 8, 8, 8, 8, 8, 8, 8, 8, 8, 8, 8, 8, 8, 8, 8, 8, 8, 8, 8, 8, 8, 8, 8, 8, 8, 8, 8, 8, 8, 8, 8, 8, 8, 8, 8, 8, 8, 8, 8, 8, 8, 8, 8, 8, 8, 8, 8, 8, 8, 8, 8, 8, 8, 8, 8, 8, 8, 8, 8, 8, 8, 8, 8, 8]))) (.t 15)), oP 17 (.cvi .i64 (.t 16)), oP 18 (.bin .add (.t 13) (.t 17)), oM 2 18] [0, 8, 13, 14, 15, 16, 17, 18])
 (.ret [2])))))
def r_math_bits_Len32 : List ARes := [.t 2]
def fn_math_bits_Len32 : AFn := .code c_math_bits_Len32 r_math_bits_Len32 19 true
def c_math_bits_Len64 : ACode :=
 (.seq (.ops [] [oP 2 (.mv (kI 0))] [])
 (.seq (.seq (.ops [] [oM 3 0, oP 4 (.bin .geq (.t 3) (.c (.d (.int .u64 4294967296))))] [3])
 (.cond (.t 4) (.seq (.ops [] [oM 5 0, oP 6 (.bin .shr (.t 5) (.c (.d (.int .u64 32)))), oM 0 6] [2, 4, 5, 6])
 (.ops [] [oP 2 (.mv (kI 32))] [])) .skip))
 (.seq (.seq (.ops [] [oM 7 0, oP 8 (.bin .geq (.t 7) (.c (.d (.int .u64 65536))))] [4, 7])
 (.cond (.t 8) (.seq (.ops [] [oM 9 0, oP 10 (.bin .shr (.t 9) (.c (.d (.int .u64 16)))), oM 0 10] [8, 9, 10])
 (.ops [] [oM 11 2, oP 12 (.bin .add (.t 11) (kI 16)), oM 2 12] [11, 12])) .skip))
 (.seq (.seq (.ops [] [oM 13 0, oP 14 (.bin .geq (.t 13) (.c (.d (.int .u64 256))))] [8, 13])
 (.cond (.t 14) (.seq (.ops [] [oM 15 0, oP 16 (.bin .shr (.t 15) (.c (.d (.int .u64 8)))), oM 0 16] [14, 15, 16])
 (.ops [] [oM 17 2, oP 18 (.bin .add (.t 17) (kI 8)), oM 2 18] [17, 18])) .skip))
 (.seq (.ops [] [oM 19 2, oM 20 0, oP 21 (.cvi .u8 (.t 20)), oP 22 (.idx (.c (.d (.str [0, 1, 2, 2, 3, 3, 3, 3, 4, 4, 4, 4, 4, 4, 4, 4, 5, 5, 5, 5, 5, 5, 5, 5, 5, 5, 5, 5, 5, 5, 5, 5, 6, 6, 6, 6, 6, 6, 6, 6, 6, 6, 6, 6, 6, 6, 6, 6, 6, 6, 6, 6, 6, 6, 6, 6, 6, 6, 6, 6, 6, 6, 6, 6, 7, 7, 7, 7, 7, 7, 7, 7, 7, 7, 7, 7, 7, 7, 7, 7, 7, 7, 7, 7, 7, 7, 7, 7, 7, 7, 7, 7, 7, 7, 7, 7, 7, 7, 7, 7, 7, 7, 7, 7, 7, 7, 7, 7, 7, 7, 7, 7, 7, 7, 7, 7, 7, 7, 7, 7, 7, 7, 7, 7, 7, 7, 7, 7, 8, 8, 8, 8, 8, 8, 8, 8, 8, 8, 8, 8, 8, 8, 8, 8, 8, 8, 8, 8, 8, 8, 8, 8, 8, 8, 8, 8, 8, 8, 8, 8, 8, 8, 8, 8, 8, 8, 8, 8, 8, 8, 8, 8, 8, 8, 8, 8, 8, 8, 8, 8, 8, 8, 8, 8, 8, 8, 8, 8, 8, 8, 8, 8, 8, 8, 8, 8, 8, 8, 8, 8, 8, 8, 8, 8, 8, 8, 8, 8, 8, 8, 8, 8, 8, 8, 8, 8, 8, 8, 8, 8, 8, 8, 8, 8, 8, 8, 8, 8, 8, 8, 8, 8, 8, 8, 8, 8, 8, 8, 8, 8, 8, 8, 8, 8, 8, 8, 8, 8, 8, 8, 8, 8, 8, 8, 8, 8]))) (.t 21)), oP 23 (.cvi .i64 (.t 22)), oP 24 (.bin .add (.t 19) (.t 23)), oM 2 24] [0, 14, 19, 20, 21, 22, 23, 24])
 (.ret [2]))))))
def r_math_bits_Len64 : List ARes := [.t 2]
def fn_math_bits_Len64 : AFn := .code c_math_bits_Len64 r_math_bits_Len64 25 true
def l_slices_pdqsortCmpFunc_api_Due_0 : ACode :=
 (.block 1 (.seq (.ops [] [oM 21 2, oM 22 1, oP 23 (.bin .sub (.t 21) (.t 22)), oM 12 23] [21, 22, 23])
 (.seq (.seq (.ops [] [oM 24 12, oP 25 (.bin .leq (.t 24) (kI 12))] [24])
 (.cond (.t 25) (.seq (.ops [] [oM 26 0, oM 27 1, oM 28 2, oM 29 4, oP 30 (.call N_slices_insertionSortCmpFunc_api_Due [true, false, false, false] [.t 26, .t 27, .t 28, .t 29])] [0, 1, 2, 3, 4, 10, 11, 12, 25, 26, 27, 28, 29, 30])
 (.ret [])) .skip))
 (.seq (.seq (.ops [] [oM 31 3, oP 32 (.bin .eql (.t 31) (kI 0))] [25, 31])
 (.cond (.t 32) (.seq (.ops [] [oM 33 0, oM 34 1, oM 35 2, oM 36 4, oP 37 (.call N_slices_heapSortCmpFunc_api_Due [true, false, false, false] [.t 33, .t 34, .t 35, .t 36])] [0, 1, 2, 3, 4, 10, 11, 12, 32, 33, 34, 35, 36, 37])
 (.ret [])) .skip))
 (.seq (.seq (.ops [] [oM 38 10, oP 39 (.un .not (.t 38))] [32, 38])
 (.cond (.t 39) (.seq (.ops [] [oM 40 0, oM 41 1, oM 42 2, oM 43 4, oP 44 (.call N_slices_breakPatternsCmpFunc_api_Due [true, false, false, false] [.t 40, .t 41, .t 42, .t 43])] [39, 40, 41, 42, 43, 44])
 (.ops [] [oM 45 3, oP 46 (.bin .sub (.t 45) (kI 1)), oM 3 46] [45, 46])) .skip))
 (.seq (.ops [] [oM 48 0, oM 49 1, oM 50 2, oM 51 4, oP 52 (.call N_slices_choosePivotCmpFunc_api_Due [] [.t 48, .t 49, .t 50, .t 51]), oM 47 52, oP 53 (.ext (.t 47) 0), oP 54 (.ext (.t 47) 1), oM 13 53, oM 14 54] [39, 47, 48, 49, 50, 51, 52, 53, 54])
 (.seq (.seq (.ops [] [oM 55 14, oP 56 (.bin .eql (.t 55) (kI 2))] [55])
 (.cond (.t 56) (.seq (.ops [] [oM 57 0, oM 58 1, oM 59 2, oM 60 4, oP 61 (.call N_slices_reverseRangeCmpFunc_api_Due [true, false, false, false] [.t 57, .t 58, .t 59, .t 60])] [14, 56, 57, 58, 59, 60, 61])
 (.seq (.ops [] [oM 62 2, oP 63 (.bin .sub (.t 62) (kI 1)), oM 64 13, oM 65 1, oP 66 (.bin .sub (.t 64) (.t 65)), oP 67 (.bin .sub (.t 63) (.t 66)), oM 13 67] [62, 63, 64, 65, 66, 67])
 (.ops [] [oP 14 (.mv (kI 1))] []))) .skip))
 (.seq (.seq (.ops [] [oM 68 10, oM 69 68, oQ 70 (.mv (.t 11)) 69 true, oP 71 (.pick (.t 69) (.t 70) (.c (.d (.bool false)))), oM 72 71, oQ 73 (.mv (.t 14)) 72 true, oQ 74 (.bin .eql (.t 73) (kI 1)) 72 true, oP 75 (.pick (.t 72) (.t 74) (.c (.d (.bool false))))] [14, 56, 68, 69, 70, 71, 72, 73, 74])
 (.cond (.t 75) (.seq (.ops [] [oM 76 0, oM 77 1, oM 78 2, oM 79 4, oP 80 (.call N_slices_partialInsertionSortCmpFunc_api_Due [true, false, false, false] [.t 76, .t 77, .t 78, .t 79])] [75, 76, 77, 78, 79])
 (.cond (.t 80) (.ret []) .skip)) .skip))
 (.seq (.seq (.draw [] [oM 81 1, oP 82 (.bin .gtr (.t 81) (kI 0)), oM 83 82, oQ 84 (.mv (.t 4)) 83 true, oQ 85 (.mv (.t 0)) 83 true, oQ 86 (.mv (.t 1)) 83 true, oQ 87 (.bin .sub (.t 86) (kI 1)) 83 true, oQ 88 (.iad 2 (.t 85) (.t 87)) 83 true, oQ 89 (.ld true 2 (.t 88)) 83 true, oQ 90 (.mv (.t 0)) 83 true, oQ 91 (.mv (.t 13)) 83 true, oQ 92 (.iad 2 (.t 90) (.t 91)) 83 true, oQ 93 (.ld true 2 (.t 92)) 83 true, oQ 94 (.callv (.t 84) [] [.t 89, .t 93]) 83 true, oQ 95 (.bin .lss (.t 94) (kI 0)) 83 true, oQ 96 (.un .not (.t 95)) 83 true, oP 97 (.pick (.t 83) (.t 96) (.c (.d (.bool false))))] [[], [], [], [], [3], [3, 4], [3, 4], [3], [3], [3, 4, 5, 6, 7, 8], [3, 4, 5, 6, 7, 8, 9], [3, 4, 5, 6, 7, 8], [3, 4, 5, 6, 7, 8], [], [], [], []] [75, 80, 81, 82, 83, 84, 85, 86, 87, 88, 89, 90, 91, 92, 93, 94, 95, 96])
 (.cond (.t 97) (.seq (.ops [] [oM 98 0, oM 99 1, oM 100 2, oM 101 13, oM 102 4, oP 103 (.call N_slices_partitionEqualCmpFunc_api_Due [true, false, false, false, false] [.t 98, .t 99, .t 100, .t 101, .t 102]), oM 15 103] [1, 12, 13, 97, 98, 99, 100, 101, 102, 103])
 (.seq (.ops [] [oM 104 15, oM 1 104] [15, 104])
 (.exit 1 [0, 1, 2, 3, 4, 10, 11]))) .skip))
 (.seq (.ops [] [oM 106 0, oM 107 1, oM 108 2, oM 109 13, oM 110 4, oP 111 (.call N_slices_partitionCmpFunc_api_Due [true, false, false, false, false] [.t 106, .t 107, .t 108, .t 109, .t 110]), oM 105 111, oP 112 (.ext (.t 105) 0), oP 113 (.ext (.t 105) 1), oM 16 112, oM 17 113] [10, 11, 13, 97, 105, 106, 107, 108, 109, 110, 111, 112, 113])
 (.seq (.ops [] [oM 114 17, oM 11 114] [17, 114])
 (.seq (.ops [] [oM 115 16, oM 116 1, oP 117 (.bin .sub (.t 115) (.t 116)), oM 118 2, oM 119 16, oP 120 (.bin .sub (.t 118) (.t 119)), oM 18 117, oM 19 120] [115, 116, 117, 118, 119, 120])
 (.seq (.ops [] [oM 121 12, oP 122 (.bin .quo (.t 121) (kI 8)), oM 20 122] [12, 121, 122])
 (.seq (.ops [] [oM 123 18, oM 124 19, oP 125 (.bin .lss (.t 123) (.t 124))] [123, 124])
 (.cond (.t 125) (.seq (.ops [] [oM 126 18, oM 127 20, oP 128 (.bin .geq (.t 126) (.t 127)), oM 10 128] [18, 19, 20, 125, 126, 127, 128])
 (.seq (.ops [] [oM 129 0, oM 130 1, oM 131 16, oM 132 3, oM 133 4, oP 134 (.call N_slices_pdqsortCmpFunc_api_Due [true, false, false, false, false] [.t 129, .t 130, .t 131, .t 132, .t 133])] [1, 129, 130, 131, 132, 133, 134])
 (.ops [] [oM 135 16, oP 136 (.bin .add (.t 135) (kI 1)), oM 1 136] [16, 135, 136]))) (.seq (.ops [] [oM 137 19, oM 138 20, oP 139 (.bin .geq (.t 137) (.t 138)), oM 10 139] [18, 19, 20, 125, 137, 138, 139])
 (.seq (.ops [] [oM 140 0, oM 141 16, oP 142 (.bin .add (.t 141) (kI 1)), oM 143 2, oM 144 3, oM 145 4, oP 146 (.call N_slices_pdqsortCmpFunc_api_Due [true, false, false, false, false] [.t 140, .t 142, .t 143, .t 144, .t 145])] [2, 140, 141, 142, 143, 144, 145, 146])
 (.ops [] [oM 147 16, oM 2 147] [16, 147]))))))))))))))))))
def c_slices_pdqsortCmpFunc_api_Due : ACode :=
 (.seq (.ops [] [oP 10 (.mv (.c (.d (.bool true))))] [])
 (.seq (.ops [] [oP 11 (.mv (.c (.d (.bool true))))] [])
 (.block 0 (.loop [] l_slices_pdqsortCmpFunc_api_Due_0))))
def r_slices_pdqsortCmpFunc_api_Due : List ARes := []
def fn_slices_pdqsortCmpFunc_api_Due : AFn := .code c_slices_pdqsortCmpFunc_api_Due r_slices_pdqsortCmpFunc_api_Due 148 true
def l_slices_insertionSortCmpFunc_api_Due_0 : ACode :=
 (.seq (.seq (.draw [] [oM 18 9, oM 19 1, oP 20 (.bin .gtr (.t 18) (.t 19)), oM 21 20, oQ 22 (.mv (.t 3)) 21 true, oQ 23 (.mv (.t 0)) 21 true, oQ 24 (.mv (.t 9)) 21 true, oQ 25 (.iad 2 (.t 23) (.t 24)) 21 true, oQ 26 (.ld true 2 (.t 25)) 21 true, oQ 27 (.mv (.t 0)) 21 true, oQ 28 (.mv (.t 9)) 21 true, oQ 29 (.bin .sub (.t 28) (kI 1)) 21 true, oQ 30 (.iad 2 (.t 27) (.t 29)) 21 true, oQ 31 (.ld true 2 (.t 30)) 21 true, oQ 32 (.callv (.t 22) [] [.t 26, .t 31]) 21 true, oQ 33 (.bin .lss (.t 32) (kI 0)) 21 true, oP 34 (.pick (.t 21) (.t 33) (.c (.d (.bool false))))] [[], [0], [], [], [], [4], [4, 5], [4], [4], [4, 5, 6, 7, 8], [4, 5, 6, 7, 8, 9], [4, 5, 6, 7, 8, 9], [4, 5, 6, 7, 8], [4, 5, 6, 7, 8], [], [], []] [18, 19, 20, 21, 22, 23, 24, 25, 26, 27, 28, 29, 30, 31, 32, 33])
 (.cond (.t 34) .skip (.exit 2 [0, 1, 2, 3, 8])))
 (.seq (.block 3 (.draw [] [oM 37 0, oM 38 9, oM 39 0, oM 40 9, oP 41 (.bin .sub (.t 40) (kI 1)), oM 42 0, oM 43 9, oP 44 (.bin .sub (.t 43) (kI 1)), oP 45 (.iad 2 (.t 42) (.t 44)), oP 46 (.ld true 2 (.t 45)), oM 47 0, oM 48 9, oP 49 (.iad 2 (.t 47) (.t 48)), oP 50 (.ld true 2 (.t 49)), oP 51 (.iad 2 (.t 37) (.t 38)), oN (.st 2 (.t 51) (.t 46)), oP 52 (.iad 2 (.t 39) (.t 41)), oN (.st 2 (.t 52) (.t 50))] [[], [0], [0, 1], [0, 1, 2], [0, 1, 2], [0, 1, 2, 3, 4], [0, 1, 2, 3, 4, 5], [0, 1, 2, 3, 4, 5], [0, 1, 2, 3, 4], [0, 1, 2, 3, 4], [0, 1, 2, 3, 4, 5, 6, 7, 8, 9], [0, 1, 2, 3, 4, 5, 6, 7, 8, 9, 10], [0, 1, 2, 3, 4, 5, 6, 7, 8, 9], [0, 1, 2, 3, 4, 5, 6, 7, 8, 9], [2, 3, 4], [2, 3, 4], [], []] [34, 37, 38, 39, 40, 41, 42, 43, 44, 45, 46, 47, 48, 49, 50, 51, 52]))
 (.ops [] [oM 35 9, oP 36 (.bin .sub (.t 35) (kI 1)), oM 9 36] [35, 36])))
def l_slices_insertionSortCmpFunc_api_Due_1 : ACode :=
 (.seq (.seq (.ops [] [oM 12 8, oM 13 2, oP 14 (.bin .lss (.t 12) (.t 13))] [12, 13])
 (.cond (.t 14) .skip (.exit 0 [])))
 (.seq (.block 1 (.seq (.ops [] [oM 17 8, oM 9 17] [14, 17])
 (.block 2 (.loop [] l_slices_insertionSortCmpFunc_api_Due_0))))
 (.ops [] [oM 15 8, oP 16 (.bin .add (.t 15) (kI 1)), oM 8 16] [9, 15, 16, 34])))
def c_slices_insertionSortCmpFunc_api_Due : ACode :=
 (.seq (.ops [] [oM 10 1, oP 11 (.bin .add (.t 10) (kI 1)), oM 8 11] [10, 11])
 (.block 0 (.loop [] l_slices_insertionSortCmpFunc_api_Due_1)))
def r_slices_insertionSortCmpFunc_api_Due : List ARes := []
def fn_slices_insertionSortCmpFunc_api_Due : AFn := .code c_slices_insertionSortCmpFunc_api_Due r_slices_insertionSortCmpFunc_api_Due 53 true
def c_lease_Lapsed_1 : ACode :=
 (.seq (.ops [] [oP 4 (.mv (.c (.d (.bool false))))] [4])
 (.seq (.ops [] [oP 8 (.ld true 2 (.t 1)), oM 9 0, oP 10 (.call N_lease_find [] [.t 8, .t 9]), oM 7 10, oP 11 (.ext (.t 7) 0), oP 12 (.ext (.t 7) 1), oM 5 11, oM 6 12] [0, 6, 7, 8, 9, 10, 11, 12])
 (.seq (.draw [] [oP 13 (.fad false 0 1 (.t 1)), oP 14 (.ld false 1 (.t 13)), oM 15 5, oP 16 (.iad 8 (.t 14) (.t 15)), oP 17 (.fad true 0 7 (.t 16)), oP 18 (.ld true 7 (.t 17)), oP 19 (.ld false 1 (.t 2)), oP 20 (.call N_message_Purged [] [.t 18, .t 19]), oM 4 20] [[], [], [0, 1], [], [], [], [0, 1, 2, 3, 4, 5], [], []] [1, 2, 5, 13, 14, 15, 16, 17, 18, 19, 20])
 (.ret [4]))))
def r_lease_Lapsed_1 : List ARes := [.t 4]
def fn_lease_Lapsed_1 : AFn := .code c_lease_Lapsed_1 r_lease_Lapsed_1 21 true
def l_slices_DeleteFunc_int_0 : ACode :=
 (.seq (.seq (.ops [] [oM 16 6, oM 17 0, oP 18 (.len (.t 17)), oP 19 (.bin .lss (.t 16) (.t 18))] [16, 17, 18])
 (.cond (.t 19) .skip (.exit 0 [0, 5])))
 (.seq (.block 1 (.seq (.ops [] [oM 22 0, oM 23 6, oP 24 (.iad 1 (.t 22) (.t 23)), oP 25 (.ld false 1 (.t 24)), oM 7 25] [19, 22, 23, 24, 25])
 (.seq (.ops [] [oM 26 1, oM 27 7, oP 28 (.callv (.t 26) [] [.t 27]), oP 29 (.un .not (.t 28))] [26, 27, 28])
 (.cond (.t 29) (.seq (.ops [] [oM 30 0, oM 31 5, oM 32 7, oP 33 (.iad 1 (.t 30) (.t 31)), oN (.st 1 (.t 33) (.t 32))] [7, 29, 30, 31, 32, 33])
 (.ops [] [oM 34 5, oP 35 (.bin .add (.t 34) (kI 1)), oM 5 35] [34, 35])) .skip))))
 (.ops [] [oM 20 6, oP 21 (.bin .add (.t 20) (kI 1)), oM 6 21] [7, 20, 21, 29])))
def c_slices_DeleteFunc_int : ACode :=
 (.seq (.ops [2000000] [oP 4 (.mv (.c (.xsl [])))] [4])
 (.seq (.ops [] [oM 8 0, oM 9 1, oP 10 (.call N_slices_IndexFunc_int [] [.t 8, .t 9]), oM 5 10] [8, 9, 10])
 (.seq (.seq (.ops [] [oM 11 5, oP 12 (.bin .eql (.t 11) (kI (-1)))] [11])
 (.cond (.t 12) (.seq (.ops [] [oM 13 0, oM 4 13] [0, 1, 5, 12, 13])
 (.ret [4])) .skip))
 (.seq (.seq (.ops [] [oM 14 5, oP 15 (.bin .add (.t 14) (kI 1)), oM 6 15] [12, 14, 15])
 (.block 0 (.loop [] l_slices_DeleteFunc_int_0)))
 (.seq (.ops [] [oM 36 0, oM 37 5, oP 38 (.slc 1 (.t 36) (some (.t 37)) none none), oN (.clr 1 (.t 38))] [1, 6, 19, 36, 37, 38])
 (.seq (.ops [] [oM 39 0, oM 40 5, oP 41 (.slc 1 (.t 39) none (some (.t 40)) none), oM 4 41] [0, 5, 39, 40, 41])
 (.ret [4])))))))
def r_slices_DeleteFunc_int : List ARes := [.t 4]
def fn_slices_DeleteFunc_int : AFn := .code c_slices_DeleteFunc_int r_slices_DeleteFunc_int 42 false
def l_slices_IndexFunc_int_0 : ACode :=
 (.seq (.ops [] [oP 9 (.bin .lss (.t 8) (.t 7))] [])
 (.seq (.cond (.t 9) .skip (.exit 0 []))
 (.seq (.block 1 (.seq (.ops [] [oM 10 8, oM 5 10] [9, 10])
 (.seq (.ops [] [oM 11 1, oM 12 0, oM 13 5, oP 14 (.iad 1 (.t 12) (.t 13)), oP 15 (.ld false 1 (.t 14)), oP 16 (.callv (.t 11) [] [.t 15])] [11, 12, 13, 14, 15])
 (.cond (.t 16) (.seq (.ops [] [oM 17 5, oM 4 17] [0, 1, 5, 7, 8, 16, 17])
 (.ret [4])) .skip))))
 (.ops [] [oP 18 (.bin .add (.t 8) (kI 1)), oM 8 18] [5, 16, 18]))))
def c_slices_IndexFunc_int : ACode :=
 (.seq (.ops [] [oP 4 (.mv (kI 0))] [4])
 (.seq (.seq (.ops [] [oM 6 0, oP 7 (.len (.t 6)), oP 8 (.mv (kI 0))] [6])
 (.block 0 (.loop [] l_slices_IndexFunc_int_0)))
 (.seq (.ops [] [oP 4 (.mv (kI (-1)))] [0, 1, 7, 8, 9])
 (.ret [4]))))
def r_slices_IndexFunc_int : List ARes := [.t 4]
def fn_slices_IndexFunc_int : AFn := .code c_slices_IndexFunc_int r_slices_IndexFunc_int 19 true
def c_shard_release : ACode :=
 (.seq (.ops [] [oP 2 (.box (.t 0)), oP 4 (.alloc (.agg [.d (.bool false), aI 0, aI 0, .xsl [], aI 0, aI 0, .xsl [], .xsl []])), oP 5 (.alloc (.d (.agg [.int .i64 0, .int .i64 0, .int .i64 0, .int .i64 0, .int .i64 0, .int .i64 0, .str []]))), oP 6 (.mv (kI 0))] [0, 6])
 (.seq (.ops [] [oP 11 (.fad true 6 2 (.t 2)), oP 12 (.ld true 2 (.t 11)), oM 13 1, oP 14 (.call N_lease_Release [] [.t 12, .t 13]), oM 10 14, oP 15 (.ext (.t 10) 0), oP 16 (.ext (.t 10) 1), oP 17 (.ext (.t 10) 2), oP 7 (.alloc (.agg [.xsl [], .xsl []])), oP 8 (.alloc (.d (.agg [.int .i64 0, .int .i64 0, .int .i64 0, .int .i64 0, .int .i64 0, .int .i64 0, .str []]))), oN (.st 2 (.t 7) (.t 15)), oN (.st 7 (.t 8) (.t 16)), oM 9 17] [1, 10, 11, 12, 13, 14, 15, 16, 17])
 (.seq (.seq (.ops [] [oM 18 9, oP 19 (.bin .neq (.t 18) (kI 0))] [18])
 (.cond (.t 19) (.seq (.ops [] [oP 20 (.build [.d (.bool false), aI 0, aI 0, .xsl [], aI 0, aI 0, .xsl [], .xsl []] []), oP 21 (.build [aI 0, aI 0, aI 0, aI 0, aI 0, aI 0, .d (.str [])] []), oM 22 9, oN (.st 8 (.t 4) (.t 20)), oN (.st 7 (.t 5) (.t 21)), oM 6 22] [2, 7, 8, 9, 19, 20, 21, 22])
 (.ret [4, 5, 6])) .skip))
 (.seq (.ops [] [oP 23 (.ld true 8 (.t 2)), oP 24 (.call N_shard_own [] [.t 23]), oN (.st 8 (.t 2) (.t 24))] [9, 19, 23, 24])
 (.seq (.ops [] [oP 25 (.ld true 2 (.t 7)), oP 26 (.fad true 6 2 (.t 2)), oN (.st 2 (.t 26) (.t 25))] [7, 25, 26])
 (.seq (.draw [] [oP 27 (.ld true 8 (.t 2)), oP 28 (.ld true 7 (.t 8)), oN (.st 8 (.t 4) (.t 27)), oN (.st 7 (.t 5) (.t 28)), oP 6 (.mv (kI 0))] [[], [0], [1], [], []] [2, 8, 27, 28])
 (.ret [4, 5, 6])))))))
def r_shard_release : List ARes := [.c 4 true 8, .c 5 true 7, .t 6]
def fn_shard_release : AFn := .code c_shard_release r_shard_release 29 true
def c_lease_Release : ACode :=
 (.seq (.ops [] [oP 2 (.box (.t 0)), oP 4 (.alloc (.agg [.xsl [], .xsl []])), oP 5 (.alloc (.d (.agg [.int .i64 0, .int .i64 0, .int .i64 0, .int .i64 0, .int .i64 0, .int .i64 0, .str []]))), oP 6 (.mv (kI 0))] [0, 6])
 (.seq (.seq (.ops [] [oP 12 (.ld true 2 (.t 2)), oP 13 (.call N_lease_Validate [] [.t 12]), oM 7 13] [12, 13])
 (.seq (.ops [] [oM 14 7, oP 15 (.bin .neq (.t 14) (kI 0))] [14])
 (.cond (.t 15) (.seq (.ops [] [oP 16 (.build [.xsl [], .xsl []] []), oP 17 (.build [aI 0, aI 0, aI 0, aI 0, aI 0, aI 0, .d (.str [])] []), oM 18 7, oN (.st 2 (.t 4) (.t 16)), oN (.st 7 (.t 5) (.t 17)), oM 6 18] [1, 2, 7, 15, 16, 17, 18])
 (.ret [4, 5, 6])) .skip)))
 (.seq (.ops [] [oP 20 (.ld true 2 (.t 2)), oM 21 1, oP 22 (.call N_lease_find [] [.t 20, .t 21]), oM 19 22, oP 23 (.ext (.t 19) 0), oP 24 (.ext (.t 19) 1), oM 8 23, oM 9 24] [7, 15, 19, 20, 21, 22, 23, 24])
 (.seq (.seq (.ops [] [oM 25 9, oP 26 (.un .not (.t 25))] [9, 25])
 (.cond (.t 26) (.seq (.ops [] [oP 27 (.build [.xsl [], .xsl []] []), oP 28 (.build [aI 0, aI 0, aI 0, aI 0, aI 0, aI 0, .d (.str [])] []), oN (.st 2 (.t 4) (.t 27)), oN (.st 7 (.t 5) (.t 28)), oP 6 (.mv (kI 4))] [1, 2, 8, 26, 27, 28])
 (.ret [4, 5, 6])) .skip))
 (.seq (.ops [] [oP 30 (.fad false 1 1 (.t 2)), oP 31 (.ld false 1 (.t 30)), oM 32 1, oP 33 (.call N_due_Remove [] [.t 31, .t 32]), oM 29 33, oP 34 (.ext (.t 29) 0), oP 35 (.ext (.t 29) 1), oM 10 34, oM 11 35] [1, 26, 29, 30, 31, 32, 33, 34, 35])
 (.seq (.seq (.ops [] [oM 36 11, oP 37 (.bin .neq (.t 36) (kI 0))] [36])
 (.cond (.t 37) (.seq (.ops [] [oP 38 (.build [.xsl [], .xsl []] []), oP 39 (.build [aI 0, aI 0, aI 0, aI 0, aI 0, aI 0, .d (.str [])] []), oM 40 11, oN (.st 2 (.t 4) (.t 38)), oN (.st 7 (.t 5) (.t 39)), oM 6 40] [2, 8, 10, 11, 37, 38, 39, 40])
 (.ret [4, 5, 6])) .skip))
 (.seq (.draw [] [oP 41 (.fad false 0 1 (.t 2)), oP 42 (.ld false 1 (.t 41)), oM 43 8, oP 44 (.call N_lease_without_api_Lease [] [.t 42, .t 43]), oM 45 10, oP 46 (.build [.xsl [], .xsl []] [(0, (1, .t 44)), (1, (1, .t 45))]), oP 47 (.fad false 0 1 (.t 2)), oP 48 (.ld false 1 (.t 47)), oM 49 8, oP 50 (.iad 8 (.t 48) (.t 49)), oP 51 (.fad true 0 7 (.t 50)), oP 52 (.ld true 7 (.t 51)), oN (.st 2 (.t 4) (.t 46)), oN (.st 7 (.t 5) (.t 52)), oP 6 (.mv (kI 0))] [[], [], [0, 1], [], [0, 1, 2, 3], [], [0, 1, 2, 3, 4, 5], [0, 1, 2, 3, 4, 5], [0, 1, 2, 3, 4, 5, 6, 7], [0, 1, 2, 3, 4, 5], [0, 1, 2, 3, 4, 5], [0, 1, 2, 3, 4, 5], [6, 7, 8, 9, 10, 11], [], []] [2, 8, 10, 11, 37, 41, 42, 43, 44, 45, 46, 47, 48, 49, 50, 51, 52])
 (.ret [4, 5, 6]))))))))
def r_lease_Release : List ARes := [.c 4 true 2, .c 5 true 7, .t 6]
def fn_lease_Release : AFn := .code c_lease_Release r_lease_Release 53 true
def c_due_Remove : ACode :=
 (.seq (.ops [] [oP 4 (.mv (.c (.xsl []))), oP 5 (.mv (kI 0))] [4, 5])
 (.seq (.seq (.ops [] [oM 8 0, oP 9 (.call N_due_Validate [] [.t 8]), oM 6 9] [8, 9])
 (.seq (.ops [] [oM 10 6, oP 11 (.bin .neq (.t 10) (kI 0))] [10])
 (.cond (.t 11) (.seq (.ops [] [oM 12 6, oP 4 (.mv (.c (.xsl []))), oM 5 12] [0, 1, 6, 11, 12])
 (.ret [4, 5])) .skip)))
 (.seq (.ops [] [oM 13 0, oM 14 1, oP 15 (.call N_due_find [] [.t 13, .t 14]), oM 7 15] [1, 6, 11, 13, 14, 15])
 (.seq (.seq (.ops [] [oM 16 7, oP 17 (.bin .lss (.t 16) (kI 0))] [16])
 (.cond (.t 17) (.seq (.ops [] [oP 4 (.mv (.c (.xsl []))), oP 5 (.mv (kI 4))] [0, 7, 17])
 (.ret [4, 5])) .skip))
 (.seq (.ops [] [oM 18 0, oM 19 7, oP 20 (.call N_due_drop [] [.t 18, .t 19]), oM 4 20, oP 5 (.mv (kI 0))] [0, 7, 17, 18, 19, 20])
 (.ret [4, 5]))))))
def r_due_Remove : List ARes := [.t 4, .t 5]
def fn_due_Remove : AFn := .code c_due_Remove r_due_Remove 21 true
def c_due_drop : ACode :=
 (.seq (.ops [] [oP 4 (.mv (.c (.xsl [])))] [4])
 (.seq (.ops [] [oM 7 0, oP 8 (.len (.t 7)), oP 9 (.bin .sub (.t 8) (kI 1)), oM 5 9] [7, 8, 9])
 (.seq (.ops [] [oM 10 0, oM 11 5, oP 12 (.slc 2 (.t 10) none (some (.t 11)) none), oP 13 (.call N_slices_Clone_api_Due [] [.t 12]), oM 6 13] [10, 11, 12, 13])
 (.seq (.seq (.ops [] [oM 14 1, oM 15 5, oP 16 (.bin .eql (.t 14) (.t 15))] [14, 15])
 (.cond (.t 16) (.seq (.ops [] [oM 17 6, oM 4 17] [0, 1, 5, 6, 16, 17])
 (.ret [4])) .skip))
 (.seq (.ops [26] [oM 18 6, oM 19 1, oM 20 0, oM 21 5, oP 22 (.iad 2 (.t 20) (.t 21)), oP 23 (.ld true 2 (.t 22)), oP 24 (.iad 2 (.t 18) (.t 19)), oN (.st 2 (.t 24) (.t 23))] [0, 5, 16, 18, 19, 20, 21, 22, 23, 24])
 (.seq (.seq (.ops [] [oM 25 6, oM 26 1, oP 27 (.call N_due_up [true, false] [.t 25, .t 26]), oM 28 1, oP 29 (.bin .eql (.t 27) (.t 28))] [25, 26, 27, 28])
 (.cond (.t 29) (.ops [] [oM 30 6, oM 31 1, oP 32 (.call N_due_down [true, false] [.t 30, .t 31])] [1, 29, 30, 31, 32]) .skip))
 (.seq (.ops [] [oM 33 6, oM 4 33] [1, 6, 29, 33])
 (.ret [4]))))))))
def r_due_drop : List ARes := [.t 4]
def fn_due_drop : AFn := .code c_due_drop r_due_drop 34 true
def l_due_down_0 : ACode :=
 (.block 1 (.seq (.ops [] [oM 5 1, oP 6 (.bin .mul (kI 2) (.t 5)), oP 7 (.bin .add (.t 6) (kI 1)), oM 4 7] [5, 6, 7])
 (.seq (.seq (.ops [] [oM 8 4, oM 9 0, oP 10 (.len (.t 9)), oP 11 (.bin .geq (.t 8) (.t 10))] [8, 9, 10])
 (.cond (.t 11) (.ret []) .skip))
 (.seq (.seq (.ops [] [oM 12 4, oP 13 (.bin .add (.t 12) (kI 1)), oM 14 0, oP 15 (.len (.t 14)), oP 16 (.bin .lss (.t 13) (.t 15)), oM 17 16, oQ 18 (.mv (.t 0)) 17 true, oQ 19 (.mv (.t 4)) 17 true, oQ 20 (.bin .add (.t 19) (kI 1)) 17 true, oQ 21 (.mv (.t 4)) 17 true, oQ 22 (.call N_due_before [] [.t 18, .t 20, .t 21]) 17 true, oP 23 (.pick (.t 17) (.t 22) (.c (.d (.bool false))))] [11, 12, 13, 14, 15, 16, 17, 18, 19, 20, 21, 22])
 (.cond (.t 23) (.ops [] [oM 24 4, oP 25 (.bin .add (.t 24) (kI 1)), oM 4 25] [23, 24, 25]) .skip))
 (.seq (.seq (.ops [] [oM 26 0, oM 27 4, oM 28 1, oP 29 (.call N_due_before [] [.t 26, .t 27, .t 28]), oP 30 (.un .not (.t 29))] [23, 26, 27, 28, 29])
 (.cond (.t 30) (.ret []) .skip))
 (.seq (.draw [] [oM 31 0, oM 32 1, oM 33 0, oM 34 4, oM 35 0, oM 36 4, oP 37 (.iad 2 (.t 35) (.t 36)), oP 38 (.ld true 2 (.t 37)), oM 39 0, oM 40 1, oP 41 (.iad 2 (.t 39) (.t 40)), oP 42 (.ld true 2 (.t 41)), oP 43 (.iad 2 (.t 31) (.t 32)), oN (.st 2 (.t 43) (.t 38)), oP 44 (.iad 2 (.t 33) (.t 34)), oN (.st 2 (.t 44) (.t 42))] [[], [0], [0, 1], [0, 1, 2], [0, 1, 2, 3], [0, 1, 2, 3, 4], [0, 1, 2, 3], [0, 1, 2, 3], [0, 1, 2, 3, 4, 5, 6, 7], [0, 1, 2, 3, 4, 5, 6, 7, 8], [0, 1, 2, 3, 4, 5, 6, 7], [0, 1, 2, 3, 4, 5, 6, 7], [2, 3], [2, 3], [], []] [1, 30, 31, 32, 33, 34, 35, 36, 37, 38, 39, 40, 41, 42, 43, 44])
 (.ops [] [oM 45 4, oM 1 45] [4, 45])))))))
def c_due_down : ACode :=
 (.block 0 (.loop [] l_due_down_0))
def r_due_down : List ARes := []
def fn_due_down : AFn := .code c_due_down r_due_down 46 true
def c_lease_without_api_Lease : ACode :=
 (.seq (.ops [] [oP 4 (.mv (.c (.xsl [])))] [4])
 (.seq (.ops [] [oM 5 0, oP 6 (.call N_slices_Clone_api_Lease [] [.t 5]), oM 7 1, oM 8 1, oP 9 (.bin .add (.t 8) (kI 1)), oP 10 (.call N_slices_Delete_api_Lease [true, false, false] [.t 6, .t 7, .t 9]), oM 4 10] [0, 1, 5, 6, 7, 8, 9, 10])
 (.ret [4])))
def r_lease_without_api_Lease : List ARes := [.t 4]
def fn_lease_without_api_Lease : AFn := .code c_lease_without_api_Lease r_lease_without_api_Lease 11 true
def fn_slices_Delete_api_Lease : AFn := .ext (delF 8)
def c_shard_Holds : ACode :=
 (.seq (.ops [] [oP 4 (.box (.t 0)), oP 5 (.box (.t 1)), oP 8 (.mv (.c (.d (.bool false))))] [0, 1, 8])
 (.seq (.draw [] [oP 9 (.ld true 8 (.t 4)), oM 10 2, oP 11 (.call N_shard_isTime [] [.t 10]), oM 12 3, oP 13 (.call N_shard_isEpoch [] [.t 12]), oP 14 (.bsl 2 1 (.d (.bool false)) [(0, .t 11), (1, .t 13)]), oP 15 (.call N_shard_usable [] [.t 9, .t 14]), oP 16 (.bin .eql (.t 15) (kI 0)), oM 17 16, oQ 18 (.ld true 8 (.t 4)) 17 true, oQ 19 (.ld true 4 (.t 5)) 17 true, oQ 20 (.mv (.t 2)) 17 true, oQ 21 (.mv (.t 3)) 17 true, oQ 22 (.call N_shard_holds [] [.t 18, .t 19, .t 20, .t 21]) 17 true, oP 23 (.pick (.t 17) (.t 22) (.c (.d (.bool false)))), oM 8 23] [[], [0], [0], [0, 1, 2], [0], [0], [], [], [], [], [9], [9, 10], [9, 10, 11], [], [], []] [2, 3, 4, 5, 9, 10, 11, 12, 13, 14, 15, 16, 17, 18, 19, 20, 21, 22, 23])
 (.ret [8])))
def r_shard_Holds : List ARes := [.t 8]
def fn_shard_Holds : AFn := .code c_shard_Holds r_shard_Holds 24 true
def c_shard_holds : ACode :=
 (.seq (.ops [] [oP 4 (.box (.t 0)), oP 5 (.box (.t 1)), oP 8 (.mv (.c (.d (.bool false))))] [0, 1, 8])
 (.seq (.ops [] [oP 12 (.fad true 6 2 (.t 4)), oP 13 (.ld true 2 (.t 12)), oP 14 (.fad false 0 1 (.t 5)), oP 15 (.ld false 1 (.t 14)), oP 16 (.call N_lease_Find [] [.t 13, .t 15]), oM 11 16, oP 17 (.ext (.t 11) 0), oP 18 (.ext (.t 11) 1), oP 9 (.alloc (.d (.agg [.int .i64 0, .int .i64 0, .int .i64 0, .int .i64 0, .int .i64 0, .int .i64 0, .str [], .int .i64 0]))), oN (.st 8 (.t 9) (.t 17)), oM 10 18] [4, 11, 12, 13, 14, 15, 16, 17, 18])
 (.seq (.ops [] [oM 19 10, oM 20 19, oQ 21 (.fad true 0 7 (.t 9)) 20 true, oQ 22 (.fad false 4 1 (.t 21)) 20 true, oQ 23 (.ld false 1 (.t 22)) 20 true, oQ 24 (.fad false 1 1 (.t 5)) 20 true, oQ 25 (.ld false 1 (.t 24)) 20 true, oQ 26 (.bin .eql (.t 23) (.t 25)) 20 true, oP 27 (.pick (.t 20) (.t 26) (.c (.d (.bool false)))), oM 28 27, oQ 29 (.fad true 0 7 (.t 9)) 28 true, oQ 30 (.fad false 1 1 (.t 29)) 28 true, oQ 31 (.ld false 1 (.t 30)) 28 true, oQ 32 (.fad false 2 1 (.t 5)) 28 true, oQ 33 (.ld false 1 (.t 32)) 28 true, oQ 34 (.bin .eql (.t 31) (.t 33)) 28 true, oP 35 (.pick (.t 28) (.t 34) (.c (.d (.bool false)))), oM 36 35, oQ 37 (.fad true 0 7 (.t 9)) 36 true, oQ 38 (.ld true 7 (.t 37)) 36 true, oQ 39 (.mv (.t 3)) 36 true, oQ 40 (.call N_message_Purged [] [.t 38, .t 39]) 36 true, oQ 41 (.un .not (.t 40)) 36 true, oP 42 (.pick (.t 36) (.t 41) (.c (.d (.bool false)))), oM 43 42, oQ 44 (.fad false 7 1 (.t 9)) 43 true, oQ 45 (.ld false 1 (.t 44)) 43 true, oQ 46 (.mv (.t 2)) 43 true, oQ 47 (.bin .gtr (.t 45) (.t 46)) 43 true, oP 48 (.pick (.t 43) (.t 47) (.c (.d (.bool false)))), oM 8 48] [2, 3, 5, 9, 10, 19, 20, 21, 22, 23, 24, 25, 26, 27, 28, 29, 30, 31, 32, 33, 34, 35, 36, 37, 38, 39, 40, 41, 42, 43, 44, 45, 46, 47, 48])
 (.ret [8]))))
def r_shard_holds : List ARes := [.t 8]
def fn_shard_holds : AFn := .code c_shard_holds r_shard_holds 49 true
def c_lease_Find : ACode :=
 (.seq (.ops [] [oP 2 (.box (.t 0)), oP 4 (.alloc (.d (.agg [.int .i64 0, .int .i64 0, .int .i64 0, .int .i64 0, .int .i64 0, .int .i64 0, .str [], .int .i64 0]))), oP 5 (.mv (.c (.d (.bool false))))] [0, 5])
 (.seq (.seq (.ops [] [oP 8 (.ld true 2 (.t 2)), oP 9 (.call N_lease_Validate [] [.t 8]), oP 10 (.bin .neq (.t 9) (kI 0))] [8, 9])
 (.cond (.t 10) (.seq (.ops [] [oP 11 (.build [aI 0, aI 0, aI 0, aI 0, aI 0, aI 0, .d (.str []), aI 0] []), oN (.st 8 (.t 4) (.t 11)), oP 5 (.mv (.c (.d (.bool false))))] [1, 2, 10, 11])
 (.ret [4, 5])) .skip))
 (.seq (.ops [] [oP 13 (.ld true 2 (.t 2)), oM 14 1, oP 15 (.call N_lease_find [] [.t 13, .t 14]), oM 12 15, oP 16 (.ext (.t 12) 0), oP 17 (.ext (.t 12) 1), oM 6 16, oM 7 17] [1, 10, 12, 13, 14, 15, 16, 17])
 (.seq (.seq (.ops [] [oM 18 7, oP 19 (.un .not (.t 18))] [7, 18])
 (.cond (.t 19) (.seq (.ops [] [oP 20 (.build [aI 0, aI 0, aI 0, aI 0, aI 0, aI 0, .d (.str []), aI 0] []), oN (.st 8 (.t 4) (.t 20)), oP 5 (.mv (.c (.d (.bool false))))] [2, 6, 19, 20])
 (.ret [4, 5])) .skip))
 (.seq (.ops [] [oP 21 (.fad false 0 1 (.t 2)), oP 22 (.ld false 1 (.t 21)), oM 23 6, oP 24 (.iad 8 (.t 22) (.t 23)), oP 25 (.ld true 8 (.t 24)), oN (.st 8 (.t 4) (.t 25)), oP 5 (.mv (.c (.d (.bool true))))] [2, 6, 19, 21, 22, 23, 24, 25])
 (.ret [4, 5]))))))
def r_lease_Find : List ARes := [.c 4 true 8, .t 5]
def fn_lease_Find : AFn := .code c_lease_Find r_lease_Find 26 true
end Go.Proofs.YtjillamaceggeaaGreat
