/-
  Functions of the program, as the calculus has them.
-/
import Derived.Test.YtadnfmkdmknmhaaBdddc6c5
import Derived.Test.YtadnfmkdmknmhaaProg
set_option linter.unusedSimpArgs false
set_option linter.unusedVariables false
namespace Go.Proofs.Ytadnfmkdmknmhaa
open Go Go.Sim
set_option maxRecDepth 100000
set_option maxHeartbeats 4000000
def l_law17_BatchBuilt_0 : ACode :=
 (.seq (.seq (.ops [] [oM 63 7, oP 64 (.bin .gtr (.t 63) (kI 0))] [63])
 (.cond (.t 64) .skip (.exit 3 [3, 4, 5, 6])))
 (.seq (.block 4 (.ops [] [oP 67 (.fad false 7 1 (.t 6)), oP 68 (.ld false 1 (.t 67)), oM 69 7, oP 70 (.cvi .u8 (.t 69)), oP 71 (.bsl 1 1 (.d (.int .u8 0)) [(0, .t 70)]), oP 72 (.bsl 1 1 (.xsl []) [(0, .t 71)]), oP 73 (.app 1 (.t 68) (.t 72)), oP 74 (.fad false 7 1 (.t 6)), oN (.st 1 (.t 74) (.t 73))] [64, 67, 68, 69, 70, 71, 72, 73, 74]))
 (.ops [4000073] [oM 65 7, oP 66 (.bin .sub (.t 65) (kI 1)), oM 7 66] [65, 66])))
def l_law17_BatchBuilt_1 : ACode :=
 (.seq (.seq (.ops [] [oM 79 8, oP 80 (.bin .gtr (.t 79) (kI 0))] [79])
 (.cond (.t 80) .skip (.exit 5 [3, 4, 5, 6])))
 (.seq (.block 6 (.draw [] [oP 83 (.fad false 6 1 (.t 6)), oP 84 (.ld false 1 (.t 83)), oP 85 (.sls (.c (.d (.str [48, 49, 50, 51, 52, 53, 54, 55, 56, 57, 97, 98, 99, 100, 101, 102]))) none (some (kI 14))), oM 86 3, oP 87 (.call N_base_Src_Body [true] [.t 86]), oP 88 (.bin .add (.t 85) (.t 87)), oP 89 (.bsl 1 1 (.d (.str [])) [(0, .t 88)]), oP 90 (.app 1 (.t 84) (.t 89)), oP 91 (.fad false 6 1 (.t 6)), oN (.st 1 (.t 91) (.t 90))] [[], [], [0, 1], [0, 1, 2], [0, 1, 2], [0, 1], [0, 1], [], [], []] [80, 83, 84, 85, 86, 87, 88, 89, 90, 91]))
 (.ops [4000090] [oM 81 8, oP 82 (.bin .sub (.t 81) (kI 1)), oM 8 82] [81, 82])))
def l_law17_BatchBuilt_2 : ACode :=
 (.seq (.seq (.ops [] [oM 19 5, oP 20 (.bin .lss (.t 19) (kI 6))] [19])
 (.cond (.t 20) .skip (.exit 0 [])))
 (.seq (.block 1 (.seq (.ops [] [oM 23 3, oP 24 (.call N_base_Src_Command [true] [.t 23]), oP 25 (.fld true 3 8 (.t 24)), oP 6 (.alloc (.agg [aI 0, aI 0, aI 0, aI 0, aI 0, aI 0, .xsl [], .xsl []])), oN (.st 8 (.t 6) (.t 25))] [20, 23, 24, 25])
 (.seq (.seq (.ops [] [oM 26 3, oP 27 (.call N_base_Src_N [true, false] [.t 26, kI 3]), oP 28 (.bin .eql (.t 27) (kI 0))] [26, 27])
 (.cond (.t 28) (.ops [] [oM 29 3, oP 30 (.call N_base_Src_Range [true, false, false] [.t 29, kI 0, kI 15]), oP 31 (.fad false 0 1 (.t 6)), oN (.st 1 (.t 31) (.t 30))] [28, 29, 30, 31]) .skip))
 (.seq (.seq (.ops [] [oM 32 3, oP 33 (.call N_base_Src_N [true, false] [.t 32, kI 8])] [28, 32])
 (.block 2 (.seq (.ops [] [oP 35 (.bin .eql (.t 33) (kI 0)), oM 34 35] [35])
 (.cond (.t 34) (.ops [] [oM 36 3, oP 37 (.call N_base_Src_Range [true, false, false] [.t 36, kI (-1), kI 5]), oP 38 (.fad false 1 1 (.t 6)), oN (.st 1 (.t 38) (.t 37))] [33, 34, 36, 37, 38]) (.seq (.ops [] [oP 40 (.bin .eql (.t 33) (kI 1)), oM 39 40] [34, 40])
 (.cond (.t 39) (.ops [] [oM 41 3, oP 42 (.bsl 3 1 (aI 0) [(0, kI 0), (1, kI 6), (2, kI 7)]), oP 43 (.call N_base_Src_Pick [true, false] [.t 41, .t 42]), oP 44 (.fad false 2 1 (.t 6)), oN (.st 1 (.t 44) (.t 43))] [33, 39, 41, 42, 43, 44]) (.seq (.ops [] [oP 46 (.bin .eql (.t 33) (kI 2)), oM 45 46] [39, 46])
 (.cond (.t 45) (.ops [] [oM 47 3, oP 48 (.bsl 3 1 (aI 0) [(0, kI (-1)), (1, kI 1000), (2, kI 1001)]), oP 49 (.call N_base_Src_Pick [true, false] [.t 47, .t 48]), oP 50 (.fad false 3 1 (.t 6)), oN (.st 1 (.t 50) (.t 49))] [33, 45, 47, 48, 49, 50]) (.seq (.ops [] [oP 52 (.bin .eql (.t 33) (kI 3)), oM 51 52] [45, 52])
 (.cond (.t 51) (.ops [] [oM 53 3, oP 54 (.call N_base_Src_Range [true, false, false] [.t 53, kI (-1), kI 5]), oM 55 3, oP 56 (.call N_base_Src_Range [true, false, false] [.t 55, kI (-1), kI 5]), oP 57 (.fad false 4 1 (.t 6)), oN (.st 1 (.t 57) (.t 54)), oP 58 (.fad false 5 1 (.t 6)), oN (.st 1 (.t 58) (.t 56))] [33, 51, 53, 54, 55, 56, 57, 58]) (.seq (.ops [] [oP 60 (.bin .eql (.t 33) (kI 4)), oM 59 60] [51, 60])
 (.cond (.t 59) (.seq (.ops [] [oM 61 3, oP 62 (.call N_base_Src_N [true, false] [.t 61, kI 9]), oM 7 62] [33, 59, 61, 62])
 (.block 3 (.loop [] l_law17_BatchBuilt_0))) (.seq (.ops [] [oP 76 (.bin .eql (.t 33) (kI 5)), oM 75 76] [33, 59, 76])
 (.cond (.t 75) (.seq (.ops [49] [oM 77 3, oP 78 (.call N_base_Src_N [true, false] [.t 77, kI 9]), oM 8 78] [75, 77, 78])
 (.block 5 (.loop [] l_law17_BatchBuilt_1))) .skip))))))))))))))
 (.seq (.ops [] [oM 92 3, oP 93 (.bsl 5 1 (aI 0) [(0, kI 1), (1, kI 5), (2, kI 200), (3, kI 0), (4, kI 201)]), oP 94 (.call N_base_Src_Pick [true, false] [.t 92, .t 93]), oM 95 3, oP 96 (.call N_base_Src_Range [true, false, false] [.t 95, kI (-1), kI 9]), oM 9 94, oM 10 96] [7, 8, 64, 75, 80, 92, 93, 94, 95, 96])
 (.seq (.ops [49, 6000024, 6500073, 6500090] [oM 98 9, oP 99 (.ld true 8 (.t 6)), oP 100 (.ld true 8 (.t 4)), oM 101 10, oP 102 (.call N_batch_Start [] [.t 98, .t 99, .t 100, .t 101]), oM 97 102, oP 103 (.ext (.t 97) 0), oP 104 (.ext (.t 97) 1), oP 11 (.alloc (.agg [aI 0, aI 0, aI 0, aI 0, aI 0, aI 0, aI 0, .xsl [], .xsl [], aI 0, .d (.bool false), aI 0, aI 0, aI 0, .xsl [], aI 0, aI 0, aI 0, aI 0, aI 0, aI 0, aI 0, aI 0, aI 0, aI 0, .xsl [], aI 0, aI 0, aI 0, aI 0, aI 0, aI 0, aI 0, aI 0, .xsl [], aI 0, .xsl [], .xsl [], aI 0, .xsl [], .xsl [], .xsl [], aI 0, .xsl [], .xsl [], .xsl [], .xsl [], aI 0, .xsl [], aI 0, .xsl [], .xsl [], aI 0, aI 0, aI 0, aI 0, aI 0, aI 0, aI 0, aI 0, aI 0, .xsl [], .xsl []])), oN (.st 63 (.t 11) (.t 103)), oM 12 104] [97, 98, 99, 100, 101, 102, 103, 104])
 (.seq (.ops [] [oM 106 9, oP 107 (.ld true 8 (.t 6)), oP 108 (.ld true 8 (.t 4)), oM 109 10, oP 110 (.call N_ref17_Start [] [.t 106, .t 107, .t 108, .t 109]), oM 105 110, oP 111 (.ext (.t 105) 0), oP 112 (.ext (.t 105) 1), oP 13 (.alloc (.agg [aI 0, aI 0, aI 0, aI 0, aI 0, aI 0, aI 0, .xsl [], .xsl [], aI 0, .d (.bool false), aI 0, aI 0, aI 0, .xsl [], aI 0, aI 0, aI 0, aI 0, aI 0, aI 0, aI 0, aI 0, aI 0, aI 0, .xsl [], aI 0, aI 0, aI 0, aI 0, aI 0, aI 0, aI 0, aI 0, .xsl [], aI 0, .xsl [], .xsl [], aI 0, .xsl [], .xsl [], .xsl [], aI 0, .xsl [], .xsl [], .xsl [], .xsl [], aI 0, .xsl [], aI 0, .xsl [], .xsl [], aI 0, aI 0, aI 0, aI 0, aI 0, aI 0, aI 0, aI 0, aI 0, .xsl [], .xsl []])), oN (.st 63 (.t 13) (.t 111)), oM 14 112] [9, 10, 105, 106, 107, 108, 109, 110, 111, 112])
 (.seq (.draw [] [oM 113 12, oM 114 14, oP 115 (.bin .neq (.t 113) (.t 114)), oM 116 115, oQ 117 (.ld true 63 (.t 11)) 116 false, oQ 118 (.ld true 63 (.t 13)) 116 false, oQ 119 (.call N_law17_same [] [.t 117, .t 118]) 116 false, oQ 120 (.un .not (.t 119)) 116 false, oP 121 (.pick (.t 116) (.c (.d (.bool true))) (.t 120)), oM 122 121, oQ 123 (.ld true 8 (.t 6)) 122 false, oQ 124 (.ld true 8 (.t 4)) 122 false, oQ 125 (.call N_batch_Validate [] [.t 123, .t 124]) 122 false, oQ 126 (.ld true 8 (.t 6)) 122 false, oQ 127 (.ld true 8 (.t 4)) 122 false, oQ 128 (.call N_ref17_Validate [] [.t 126, .t 127]) 122 false, oQ 129 (.bin .neq (.t 125) (.t 128)) 122 false, oP 130 (.pick (.t 122) (.c (.d (.bool true))) (.t 129)), oM 131 130, oQ 132 (.ld true 8 (.t 6)) 131 false, oQ 133 (.call N_batch_Entries [] [.t 132]) 131 false, oQ 134 (.ld true 8 (.t 6)) 131 false, oQ 135 (.call N_ref17_Entries [] [.t 134]) 131 false, oQ 136 (.bin .neq (.t 133) (.t 135)) 131 false, oP 137 (.pick (.t 131) (.c (.d (.bool true))) (.t 136))] [[], [0], [], [], [], [4], [], [], [], [], [], [10], [], [10, 11, 12], [10, 11, 12, 13], [], [], [], [], [], [], [19, 20], [], [], []] [6, 11, 12, 13, 14, 113, 114, 115, 116, 117, 118, 119, 120, 121, 122, 123, 124, 125, 126, 127, 128, 129, 130, 131, 132, 133, 134, 135, 136])
 (.cond (.t 137) (.seq (.ops [] [oP 2 (.mv (.c (.d (.bool false))))] [3, 4, 5, 137])
 (.ret [2])) .skip)))))))))
 (.ops [] [oM 21 5, oP 22 (.bin .add (.t 21) (kI 1)), oM 5 22] [21, 22, 137])))
def c_law17_BatchBuilt : ACode :=
 (.seq (.ops [] [oP 2 (.mv (.c (.d (.bool false))))] [2])
 (.seq (.ops [] [oM 15 0, oP 16 (.call N_base_New [] [.t 15]), oM 3 16] [0, 15, 16])
 (.seq (.ops [] [oM 17 3, oP 18 (.call N_base_Src_Setup [true] [.t 17]), oP 4 (.alloc (.d (.agg [.int .i64 0, .int .i64 0, .int .i64 0, .int .i64 0, .int .i64 0, .int .i64 0, .int .i64 0, .int .i64 0]))), oN (.st 8 (.t 4) (.t 18))] [17, 18])
 (.seq (.seq (.ops [] [oP 5 (.mv (kI 0))] [])
 (.block 0 (.loop [] l_law17_BatchBuilt_2)))
 (.seq (.ops [] [oP 138 (.call N_law17_awake [] []), oM 2 138] [3, 4, 5, 20, 138])
 (.ret [2]))))))
def r_law17_BatchBuilt : List ARes := [.t 2]
def fn_law17_BatchBuilt : AFn := .code c_law17_BatchBuilt r_law17_BatchBuilt 139 true
def h_base_New : Hints := { kill := kx [(0,[2]),(1,[3,4]),(2,[5007]),(3,[0,5,8010])],ret := [2] }
def c_base_New : ACode := vl (x := codeC Try.prog Try.f4 h_base_New [] [])
def r_base_New : List ARes := [.t 2]
def fn_base_New : AFn := .code c_base_New r_base_New 11 false
def h_base_Src_Setup : Hints := { kill := kx [(1,[4012]),(2,[13017]),(3,[18]),(4,[21]),(5,[0,19,20,22025]),(6,[20,27]),(7,[0,19,26,28031]),(8,[19,26,33]),(9,[0,32,34037]),(10,[0,3,32,38])],obj := [(5,[true,false,false]),(7,[true,false,false]),(9,[true,false,false]),(11,[true,false,false]),(16,[true,false,false]),(19,[true,false]),(23,[true,false]),(29,[true,false]),(35,[true,false])],ret := [2] }
def c_base_Src_Setup : ACode := vl (x := codeC Try.prog Try.f5 h_base_Src_Setup [] [])
def r_base_Src_Setup : List ARes := [.c 2 true 8]
def fn_base_Src_Setup : AFn := .code c_base_Src_Setup r_base_Src_Setup 39 true
def h_base_Src_Range : Hints := { kill := kx [(0,[6]),(1,[0,1,2,7014])],obj := [(13,[true,false])],ret := [6] }
def c_base_Src_Range : ACode := vl (x := codeC Try.prog Try.f8 h_base_Src_Range [] [])
def r_base_Src_Range : List ARes := [.t 6]
def fn_base_Src_Range : AFn := .code c_base_Src_Range r_base_Src_Range 15 true
def h_base_Src_N : Hints := { kill := kx [(0,[4]),(1,[6]),(2,[0,1,7]),(3,[0,7011]),(4,[12]),(5,[1,13016]),(6,[1,5,13,17])],obj := [(9,[true])],ret := [4] }
def c_base_Src_N : ACode := vl (x := codeC Try.prog Try.f7 h_base_Src_N [] [])
def r_base_Src_N : List ARes := [.t 4]
def fn_base_Src_N : AFn := .code c_base_Src_N r_base_Src_N 18 true
def h_base_Src_Raw : Hints := { kill := kx [(0,[2]),(1,[3011]),(2,[0,12]),(3,[12019]),(4,[0,20030])],ret := [2] }
def q_base_Src_Raw : List (Nat × List (List Nat)) := qx [(1,[[],[],[],[],[1003],[1003],[1003],[1003],[1003],[]]),(4,[[],[],[],[],[1003],[1003],[1003],[1003],[1003],[],[],[]])]
def c_base_Src_Raw : ACode := vl (x := codeC Try.prog Try.f20 h_base_Src_Raw q_base_Src_Raw [])
def r_base_Src_Raw : List ARes := [.t 2]
def fn_base_Src_Raw : AFn := .code c_base_Src_Raw r_base_Src_Raw 31 true
def h_base_Src_Command : Hints := { kill := kx [(1,[8,9]),(2,[11,12]),(3,[0,3,10,13018]),(4,[10,20,21]),(5,[0,3,19,22025]),(6,[19,26]),(7,[27,28]),(8,[3]),(9,[0,5,30035,115]),(10,[37]),(11,[38]),(12,[39]),(13,[5,29,36,40,41]),(14,[42,43]),(15,[44]),(16,[46,47]),(17,[45,48056]),(18,[36,58]),(19,[59]),(20,[0,5,29,57,60067]),(21,[57,69]),(22,[70]),(23,[5,29,68,71074]),(24,[75077]),(25,[78083]),(26,[78,84,85]),(27,[86]),(28,[88,89]),(29,[87,90104]),(30,[68,106]),(31,[0,5,29,105,107114]),(32,[29,105,116]),(33,[0,5,115,117123]),(34,[0,4,6,7,45,87,124,125])],ghost := [(16,[4000054]),(28,[4000103]),(34,[1000108,1000206])],obj := [(9,[true,false]),(14,[true,false]),(17,[true,false]),(24,[true,false]),(28,[true,false]),(31,[true,false,false]),(33,[true,false]),(43,[true,false,false]),(52,[true]),(62,[true,false,false]),(65,[true,false]),(72,[true,false,false]),(81,[true,false]),(85,[true,false,false]),(93,[true,false]),(96,[true,false]),(98,[true,false]),(109,[true,false]),(112,[true,false,false]),(118,[true,false,false]),(121,[true,false]),(125,[true])],exit := [(2,[2,4]),(4,[2,4])],ret := [2] }
def q_base_Src_Command : List (Nat × List (List Nat)) := qx [(17,[[],[],[],[1002],[1002],[1002],[],[],[],[]]),(29,[[],[],[0,1],[0,1],[1003],[1004],[0,1],[1006],[0,1],[0,1],[0,1],[0,1],[0,1],[],[],[]])]
@[irreducible] def l_base_Src_Command_0 : ACode := vl (x := codeL Try.prog Try.f6 h_base_Src_Command q_base_Src_Command 0 [])
@[irreducible] def l_base_Src_Command_1 : ACode := vl (x := codeL Try.prog Try.f6 h_base_Src_Command q_base_Src_Command 1 [])
def c_base_Src_Command : ACode := vl (x := codeC Try.prog Try.f6 h_base_Src_Command q_base_Src_Command [l_base_Src_Command_0, l_base_Src_Command_1])
def r_base_Src_Command : List ARes := [.c 2 true 12]
def fn_base_Src_Command : AFn := .code c_base_Src_Command r_base_Src_Command 126 false
def h_base_Src_Pick : Hints := { kill := kx [(0,[4]),(1,[0,1,5011])],obj := [(9,[true,false])],ret := [4] }
def c_base_Src_Pick : ACode := vl (x := codeC Try.prog Try.f9 h_base_Src_Pick [] [])
def r_base_Src_Pick : List ARes := [.t 4]
def fn_base_Src_Pick : AFn := .code c_base_Src_Pick r_base_Src_Pick 12 true
def h_base_Src_Body : Hints := { kill := kx [(0,[2]),(1,[5007]),(3,[8010]),(4,[12,13]),(5,[11,14020]),(6,[0,3,4,11,21,22])],ghost := [(6,[15])],obj := [(6,[true,false]),(17,[true,false])],exit := [(0,[3])],ret := [2] }
@[irreducible] def l_base_Src_Body_0 : ACode := vl (x := codeL Try.prog Try.f10 h_base_Src_Body [] 0 [])
def c_base_Src_Body : ACode := vl (x := codeC Try.prog Try.f10 h_base_Src_Body [] [l_base_Src_Body_0])
def r_base_Src_Body : List ARes := [.t 2]
def fn_base_Src_Body : AFn := .code c_base_Src_Body r_base_Src_Body 23 true
def h_base_fitted : Hints := { kill := kx [(0,[0]),(1,[4006]),(2,[3,7011]),(3,[12016]),(4,[1,12,17])],ret := [2] }
def c_base_fitted : ACode := vl (x := codeC Try.prog Try.f19 h_base_fitted [] [])
def r_base_fitted : List ARes := [.c 2 true 12]
def fn_base_fitted : AFn := .code c_base_fitted r_base_fitted 18 false
def h_batch_Start : Hints := { kill := kx [(0,[1,2,9]),(1,[13018]),(2,[0,3,5,6,19,20]),(3,[10,19,21025]),(4,[26]),(5,[0,3,5,6,11,27029]),(6,[11,27,30032]),(7,[33]),(8,[0,3,5,6,12,34036]),(9,[0,3,5,6,12,34,37041])],ret := [8,9] }
def c_batch_Start : ACode := vl (x := codeC Try.prog Try.f11 h_batch_Start [] [])
def r_batch_Start : List ARes := [.c 8 true 63, .t 9]
def fn_batch_Start : AFn := .code c_batch_Start r_batch_Start 42 true
def h_batch_in : Hints := { kill := kx [(0,[6]),(1,[0,1,2,7014])],ret := [6] }
def c_batch_in : ACode := vl (x := codeC Try.prog Try.f21 h_batch_in [] [])
def r_batch_in : List ARes := [.t 6]
def fn_batch_in : AFn := .code c_batch_in r_batch_in 15 true
def h_arena_New : Hints := { kill := kx [(0,[0,3]),(1,[10056]),(2,[1,57,58]),(3,[57,59065]),(4,[66074]),(5,[75082]),(6,[83]),(8,[86,87]),(9,[7,88093]),(10,[5,94100]),(11,[9]),(12,[8,101111]),(13,[6,8,101,112118]),(14,[119126]),(15,[127]),(16,[1,4,84086,128])],exit := [(0,[2,4])],ret := [2,3] }
@[irreducible] def l_arena_New_0 : ACode := vl (x := codeL Try.prog Try.f22 h_arena_New [] 0 [])
def c_arena_New : ACode := vl (x := codeC Try.prog Try.f22 h_arena_New [] [l_arena_New_0])
def r_arena_New : List ARes := [.c 2 true 11, .t 3]
def fn_arena_New : AFn := .code c_arena_New r_arena_New 129 true
def h_arena_in : Hints := { kill := kx [(0,[6]),(1,[0,1,2,7014])],ret := [6] }
def c_arena_in : ACode := vl (x := codeC Try.prog Try.f32 h_arena_in [] [])
def r_arena_in : List ARes := [.t 6]
def fn_arena_in : AFn := .code c_arena_in r_arena_in 15 true
def h_directory_New : Hints := { kill := kx [(0,[5]),(1,[8017]),(2,[0,1,18,19]),(3,[18,20]),(6,[23,24]),(7,[7,25041]),(8,[42]),(9,[0,1,21023]),(11,[45050]),(12,[51]),(13,[6,43045,52])],ghost := [(8,[4000040])],exit := [(0,[0,4,6]),(2,[4,6])],ret := [4,5] }
def q_directory_New : List (Nat × List (List Nat)) := qx [(7,[[],[],[0,1],[0,1],[1003],[0,1],[1005],[1005],[1005],[1008],[1005],[1005],[1011],[0,1],[0,1],[],[],[]])]
@[irreducible] def l_directory_New_0 : ACode := vl (x := codeL Try.prog Try.f33 h_directory_New q_directory_New 0 [])
@[irreducible] def l_directory_New_1 : ACode := vl (x := codeL Try.prog Try.f33 h_directory_New q_directory_New 1 [])
def c_directory_New : ACode := vl (x := codeC Try.prog Try.f33 h_directory_New q_directory_New [l_directory_New_0, l_directory_New_1])
def r_directory_New : List ARes := [.c 4 true 3, .t 5]
def fn_directory_New : AFn := .code c_directory_New r_directory_New 53 true
def h_dead_New : Hints := { kill := kx [(0,[3]),(1,[4008]),(2,[0,9,10]),(3,[0,9,11,12])],ret := [2,3] }
def c_dead_New : ACode := vl (x := codeC Try.prog Try.f34 h_dead_New [] [])
def r_dead_New : List ARes := [.c 2 true 2, .t 3]
def fn_dead_New : AFn := .code c_dead_New r_dead_New 13 true
def h_shard_Free : Hints := { kill := kx [(0,[3]),(1,[0,6010]),(2,[11]),(3,[4,5,12014]),(4,[4,5,12,15,16])],ret := [2,3] }
def c_shard_Free : ACode := vl (x := codeC Try.prog Try.f35 h_shard_Free [] [])
def r_shard_Free : List ARes := [.c 2 true 8, .t 3]
def fn_shard_Free : AFn := .code c_shard_Free r_shard_Free 17 true
def h_ring_New : Hints := { kill := kx [(0,[3]),(1,[4008]),(2,[0,9,10]),(3,[0,9,11013])],ret := [2,3] }
def c_ring_New : ACode := vl (x := codeC Try.prog Try.f54 h_ring_New [] [])
def r_ring_New : List ARes := [.c 2 true 3, .t 3]
def fn_ring_New : AFn := .code c_ring_New r_ring_New 14 true
def h_directory_Span : Hints := { kill := kx [(0,[0,5]),(1,[7,8]),(2,[1,2,9,10]),(3,[1,9,11014]),(4,[15]),(5,[2,6,16,17]),(6,[2,6,16,18022])],ret := [4,5] }
def c_directory_Span : ACode := vl (x := codeC Try.prog Try.f36 h_directory_Span [] [])
def r_directory_Span : List ARes := [.c 4 true 3, .t 5]
def fn_directory_Span : AFn := .code c_directory_Span r_directory_Span 23 true
def h_directory_Validate : Hints := { kill := kx [(0,[0,2]),(1,[6008]),(2,[10025]),(3,[1,3,9]),(4,[9,27030]),(5,[1,3,26]),(6,[3,26,32035]),(7,[1,31]),(8,[31,36]),(10,[40043]),(11,[4,5,44049]),(12,[1,37039,50]),(13,[50,51]),(14,[1,37040,52,53]),(15,[54]),(16,[54])],exit := [(1,[1])],ret := [2] }
@[irreducible] def l_directory_Validate_0 : ACode := vl (x := codeL Try.prog Try.f55 h_directory_Validate [] 0 [])
def c_directory_Validate : ACode := vl (x := codeC Try.prog Try.f55 h_directory_Validate [] [l_directory_Validate_0])
def r_directory_Validate : List ARes := [.t 2]
def fn_directory_Validate : AFn := .code c_directory_Validate r_directory_Validate 55 true
def h_directory_tiles : Hints := { kill := kx [(0,[2]),(2,[0]),(4,[9011]),(5,[3,12026]),(6,[5008,27]),(7,[5,27030]),(8,[31]),(9,[3,6009,32,33])],exit := [(0,[3])],ret := [2] }
@[irreducible] def l_directory_tiles_0 : ACode := vl (x := codeL Try.prog Try.f62 h_directory_tiles [] 0 [])
def c_directory_tiles : ACode := vl (x := codeC Try.prog Try.f62 h_directory_tiles [] [l_directory_tiles_0])
def r_directory_tiles : List ARes := [.t 2]
def fn_directory_tiles : AFn := .code c_directory_tiles r_directory_tiles 34 true
def h_directory_Validate_1 : Hints := { kill := kx [(0,[0,3]),(1,[1,2,4012])],ret := [3] }
def c_directory_Validate_1 : ACode := vl (x := codeC Try.prog Try.f64 h_directory_Validate_1 [] [])
def r_directory_Validate_1 : List ARes := [.t 3]
def fn_directory_Validate_1 : AFn := .code c_directory_Validate_1 r_directory_Validate_1 13 true
def h_slices_ContainsFunc_api_Span : Hints := { kill := kx [(0,[4]),(1,[0,1,5008])],ret := [4] }
def c_slices_ContainsFunc_api_Span : ACode := vl (x := codeC Try.prog Try.f63 h_slices_ContainsFunc_api_Span [] [])
def r_slices_ContainsFunc_api_Span : List ARes := [.t 4]
def fn_slices_ContainsFunc_api_Span : AFn := .code c_slices_ContainsFunc_api_Span r_slices_ContainsFunc_api_Span 9 true
def h_slices_IndexFunc_api_Span : Hints := { kill := kx [(0,[4]),(1,[6]),(3,[9,10]),(4,[11015]),(5,[0,1,5,7,8,16,17]),(6,[5,16,18]),(7,[0,1,7009])],ret := [4] }
@[irreducible] def l_slices_IndexFunc_api_Span_0 : ACode := vl (x := codeL Try.prog Try.f66 h_slices_IndexFunc_api_Span [] 0 [])
def c_slices_IndexFunc_api_Span : ACode := vl (x := codeC Try.prog Try.f66 h_slices_IndexFunc_api_Span [] [l_slices_IndexFunc_api_Span_0])
def r_slices_IndexFunc_api_Span : List ARes := [.t 4]
def fn_slices_IndexFunc_api_Span : AFn := .code c_slices_IndexFunc_api_Span r_slices_IndexFunc_api_Span 19 true
def h_directory_find : Hints := { kill := kx [(0,[1,4]),(1,[0,3,5007])],ret := [4] }
def c_directory_find : ACode := vl (x := codeC Try.prog Try.f56 h_directory_find [] [])
def r_directory_find : List ARes := [.t 4]
def fn_directory_find : AFn := .code c_directory_find r_directory_find 8 true
def h_directory_find_1 : Hints := { kill := kx [(0,[0,3]),(1,[1,2,4007])],ret := [3] }
def c_directory_find_1 : ACode := vl (x := codeC Try.prog Try.f67 h_directory_find_1 [] [])
def r_directory_find_1 : List ARes := [.t 3]
def fn_directory_find_1 : AFn := .code c_directory_find_1 r_directory_find_1 8 true
def h_directory_forwards : Hints := { kill := kx [(0,[0,2]),(1,[8]),(3,[12015]),(4,[3,16020]),(5,[4,5,21035]),(6,[1,9011,36]),(7,[36,37]),(8,[9012,38,39]),(10,[42,43]),(11,[6,44]),(12,[45,46]),(14,[49,50]),(15,[51056]),(16,[51,57]),(17,[7,47049,58]),(18,[1,40,41,59]),(19,[59,60]),(20,[1,40042])],exit := [(0,[1]),(4,[1,7,40,41])],ret := [2] }
@[irreducible] def l_directory_forwards_0 : ACode := vl (x := codeL Try.prog Try.f65 h_directory_forwards [] 0 [])
@[irreducible] def l_directory_forwards_1 : ACode := vl (x := codeL Try.prog Try.f65 h_directory_forwards [] 1 [])
@[irreducible] def l_directory_forwards_2 : ACode := vl (x := codeL Try.prog Try.f65 h_directory_forwards [] 2 [l_directory_forwards_1])
def c_directory_forwards : ACode := vl (x := codeC Try.prog Try.f65 h_directory_forwards [] [l_directory_forwards_0, l_directory_forwards_1, l_directory_forwards_2])
def r_directory_forwards : List ARes := [.t 2]
def fn_directory_forwards : AFn := .code c_directory_forwards r_directory_forwards 61 true
def h_shard_New : Hints := { kill := kx [(0,[7]),(1,[0,10014]),(2,[15]),(3,[1,2,8,9,16018]),(4,[9,16,19021]),(5,[1,2,8,22,23]),(6,[1,2,8,22,24027])],ret := [6,7] }
def c_shard_New : ACode := vl (x := codeC Try.prog Try.f37 h_shard_New [] [])
def r_shard_New : List ARes := [.c 6 true 8, .t 7]
def fn_shard_New : AFn := .code c_shard_New r_shard_New 28 true
def h_shard_spans : Hints := { kill := kx [(0,[4]),(1,[0,1,5015])],ret := [4] }
def c_shard_spans : ACode := vl (x := codeC Try.prog Try.f57 h_shard_spans [] [])
def r_shard_spans : List ARes := [.t 4]
def fn_shard_spans : AFn := .code c_shard_spans r_shard_spans 16 true
def h_batch_Validate : Hints := { kill := kx [(0,[0,1,4]),(1,[10]),(2,[11013]),(3,[14016]),(5,[17]),(6,[2,3,99]),(7,[20]),(8,[3,5007,18,19]),(9,[2,9,21030]),(10,[8,31]),(11,[19,33]),(12,[2,3,5007,18,32,34043]),(13,[32,45]),(14,[46]),(15,[47]),(16,[3,5,7,8,18,44,48051]),(17,[2,6,52]),(18,[2,6,52058]),(19,[6,44,60]),(20,[61]),(21,[8,59,63]),(22,[2,3,5,7,18,62,64070]),(23,[7,62,72]),(24,[73]),(25,[74]),(26,[2,3,5,18,71,75091]),(27,[71,93]),(28,[94]),(29,[2,3,5,18,92,95098]),(30,[5,18,92,100]),(31,[2,3,99,101105]),(32,[2,3,5,7,8,18,31,59,106]),(33,[107]),(34,[107])],ret := [4] }
def c_batch_Validate : ACode := vl (x := codeC Try.prog Try.f14 h_batch_Validate [] [])
def r_batch_Validate : List ARes := [.t 4]
def fn_batch_Validate : AFn := .code c_batch_Validate r_batch_Validate 108 true
def h_batch_Validate_1 : Hints := { kill := kx [(0,[3]),(1,[0,1,4008])],ret := [3] }
def c_batch_Validate_1 : ACode := vl (x := codeC Try.prog Try.f27 h_batch_Validate_1 [] [])
def r_batch_Validate_1 : List ARes := [.t 3]
def fn_batch_Validate_1 : AFn := .code c_batch_Validate_1 r_batch_Validate_1 9 true
def h_batch_Validate_2 : Hints := { kill := kx [(0,[2]),(1,[0,3005])],ret := [2] }
def c_batch_Validate_2 : ACode := vl (x := codeC Try.prog Try.f28 h_batch_Validate_2 [] [])
def r_batch_Validate_2 : List ARes := [.t 2]
def fn_batch_Validate_2 : AFn := .code c_batch_Validate_2 r_batch_Validate_2 6 true
def h_slices_ContainsFunc_string : Hints := { kill := kx [(0,[4]),(1,[0,1,5008])],ret := [4] }
def c_slices_ContainsFunc_string : ACode := vl (x := codeC Try.prog Try.f29 h_slices_ContainsFunc_string [] [])
def r_slices_ContainsFunc_string : List ARes := [.t 4]
def fn_slices_ContainsFunc_string : AFn := .code c_slices_ContainsFunc_string r_slices_ContainsFunc_string 9 true
def h_slices_IndexFunc_string : Hints := { kill := kx [(0,[4]),(1,[6]),(3,[9,10]),(4,[11015]),(5,[0,1,5,7,8,16,17]),(6,[5,16,18]),(7,[0,1,7009])],ret := [4] }
@[irreducible] def l_slices_IndexFunc_string_0 : ACode := vl (x := codeL Try.prog Try.f52 h_slices_IndexFunc_string [] 0 [])
def c_slices_IndexFunc_string : ACode := vl (x := codeC Try.prog Try.f52 h_slices_IndexFunc_string [] [l_slices_IndexFunc_string_0])
def r_slices_IndexFunc_string : List ARes := [.t 4]
def fn_slices_IndexFunc_string : AFn := .code c_slices_IndexFunc_string r_slices_IndexFunc_string 19 true
def h_ref17_Start : Hints := { kill := kx [(0,[1,2,9]),(1,[13021]),(2,[0,3,5,6,22,23]),(3,[10,22,24028]),(4,[29]),(5,[0,3,5,6,11,30032]),(6,[11,30,33035]),(7,[36]),(8,[0,3,5,6,12,37039]),(9,[0,3,5,6,12,37,40044])],ret := [8,9] }
def c_ref17_Start : ACode := vl (x := codeC Try.prog Try.f12 h_ref17_Start [] [])
def r_ref17_Start : List ARes := [.c 8 true 63, .t 9]
def fn_ref17_Start : AFn := .code c_ref17_Start r_ref17_Start 45 true
def h_ref12_New : Hints := { kill := kx [(0,[0,3]),(1,[10056]),(2,[1,57,58]),(3,[5,57,59066]),(4,[67074]),(6,[75077]),(7,[79,80]),(8,[9,78,81086]),(9,[87089]),(10,[90108]),(11,[8,90,109115]),(12,[116123]),(13,[1,4,7,78,124131]),(14,[6,132])],exit := [(0,[1,2,6])],ret := [2,3] }
def q_ref12_New : List (Nat × List (List Nat)) := qx [(10,[[],[],[0,1],[0,1],[1003],[0,1],[0,1],[0,1],[1007],[1007],[1009],[1007],[1007],[1007],[],[],[],[16],[17]])]
@[irreducible] def l_ref12_New_0 : ACode := vl (x := codeL Try.prog Try.f23 h_ref12_New q_ref12_New 0 [])
def c_ref12_New : ACode := vl (x := codeC Try.prog Try.f23 h_ref12_New q_ref12_New [l_ref12_New_0])
def r_ref12_New : List ARes := [.c 2 true 11, .t 3]
def fn_ref12_New : AFn := .code c_ref12_New r_ref12_New 133 true
def h_ref12_in : Hints := { kill := kx [(0,[6]),(1,[0,1,2,7014])],ret := [6] }
def c_ref12_in : ACode := vl (x := codeC Try.prog Try.f38 h_ref12_in [] [])
def r_ref12_in : List ARes := [.t 6]
def fn_ref12_in : AFn := .code c_ref12_in r_ref12_in 15 true
def h_ref10_New : Hints := { kill := kx [(0,[5]),(1,[9018]),(2,[0,1,19,20]),(3,[19,21]),(5,[22,23]),(6,[25,26]),(7,[24,27043]),(8,[1,7,24]),(9,[44,45]),(10,[47,48]),(11,[46,49053]),(12,[0,6,8,46,54])],ghost := [(6,[4000042])],exit := [(0,[0,4,6]),(2,[4,6])],ret := [4,5] }
def q_ref10_New : List (Nat × List (List Nat)) := qx [(7,[[],[],[0,1],[0,1],[1003],[0,1],[1005],[1005],[1005],[1008],[1005],[1005],[1011],[0,1],[0,1],[],[],[]])]
@[irreducible] def l_ref10_New_0 : ACode := vl (x := codeL Try.prog Try.f39 h_ref10_New q_ref10_New 0 [])
@[irreducible] def l_ref10_New_1 : ACode := vl (x := codeL Try.prog Try.f39 h_ref10_New q_ref10_New 1 [])
def c_ref10_New : ACode := vl (x := codeC Try.prog Try.f39 h_ref10_New q_ref10_New [l_ref10_New_0, l_ref10_New_1])
def r_ref10_New : List ARes := [.c 4 true 3, .t 5]
def fn_ref10_New : AFn := .code c_ref10_New r_ref10_New 55 true
def h_ref07_Free : Hints := { kill := kx [(0,[3]),(1,[0,6010]),(2,[11]),(3,[4,5,12014]),(4,[4,5,12,15,16])],ret := [2,3] }
def c_ref07_Free : ACode := vl (x := codeC Try.prog Try.f40 h_ref07_Free [] [])
def r_ref07_Free : List ARes := [.c 2 true 8, .t 3]
def fn_ref07_Free : AFn := .code c_ref07_Free r_ref07_Free 17 true
def h_ref04_New : Hints := { kill := kx [(0,[3]),(1,[4008]),(2,[0,9,10]),(3,[0,9,11013])],ret := [2,3] }
def c_ref04_New : ACode := vl (x := codeC Try.prog Try.f58 h_ref04_New [] [])
def r_ref04_New : List ARes := [.c 2 true 3, .t 3]
def fn_ref04_New : AFn := .code c_ref04_New r_ref04_New 14 true
def h_ref07_New : Hints := { kill := kx [(0,[7]),(1,[0,10014]),(2,[15]),(3,[1,2,8,9,16018]),(4,[9,16,19021]),(5,[1,2,8,22,23]),(6,[1,2,8,22,24027])],ret := [6,7] }
def c_ref07_New : ACode := vl (x := codeC Try.prog Try.f41 h_ref07_New [] [])
def r_ref07_New : List ARes := [.c 6 true 8, .t 7]
def fn_ref07_New : AFn := .code c_ref07_New r_ref07_New 28 true
def h_ref07_span : Hints := { kill := kx [(0,[4]),(1,[0,1,5015])],ret := [4] }
def c_ref07_span : ACode := vl (x := codeC Try.prog Try.f59 h_ref07_span [] [])
def r_ref07_span : List ARes := [.t 4]
def fn_ref07_span : AFn := .code c_ref07_span r_ref07_span 16 true
def h_ref08_New : Hints := { kill := kx [(0,[3]),(1,[4008]),(2,[0,9,10]),(3,[0,9,11,12])],ret := [2,3] }
def c_ref08_New : ACode := vl (x := codeC Try.prog Try.f42 h_ref08_New [] [])
def r_ref08_New : List ARes := [.c 2 true 2, .t 3]
def fn_ref08_New : AFn := .code c_ref08_New r_ref08_New 13 true
def h_ref17_Validate : Hints := { kill := kx [(0,[0,1,4]),(1,[7009]),(2,[10]),(3,[11,129]),(4,[13]),(5,[3,5,11,12,14022]),(6,[2,23]),(7,[23]),(8,[24027]),(9,[29,30,37]),(10,[28,31036]),(11,[2,6,37]),(12,[12,39]),(13,[40]),(14,[2,3,5,11,38,41061]),(15,[62]),(16,[38,64]),(17,[65]),(18,[66]),(19,[3,5,11,63,67075]),(20,[2,76]),(21,[2,76084]),(22,[85]),(23,[63,87]),(24,[88]),(25,[89]),(26,[2,3,5,11,86,90107]),(27,[108]),(28,[86,110]),(29,[111]),(30,[2,3,5,11,109,112115]),(31,[116]),(32,[5,109,118]),(33,[2,3,11,117,119127]),(34,[128]),(35,[2,3,117,130]),(36,[11,131]),(37,[2,6,11,28,62,85,108,116,128,129])],ret := [4] }
@[irreducible] def l_ref17_Validate_0 : ACode := vl (x := codeL Try.prog Try.f15 h_ref17_Validate [] 0 [])
def c_ref17_Validate : ACode := vl (x := codeC Try.prog Try.f15 h_ref17_Validate [] [l_ref17_Validate_0])
def r_ref17_Validate : List ARes := [.t 4]
def fn_ref17_Validate : AFn := .code c_ref17_Validate r_ref17_Validate 132 true
def h_ref17_in : Hints := { kill := kx [(0,[6]),(1,[0,1,2,7014])],ret := [6] }
def c_ref17_in : ACode := vl (x := codeC Try.prog Try.f30 h_ref17_in [] [])
def r_ref17_in : List ARes := [.t 6]
def fn_ref17_in : AFn := .code c_ref17_in r_ref17_in 15 true
def c_law17_same : ACode :=
 (.seq (.ops [] [oP 2 (.box (.t 0)), oP 3 (.box (.t 1)), oP 4 (.mv (.c (.d (.bool false))))] [0, 1, 4])
 (.seq (.ops [] [oP 5 (.fad false 0 1 (.t 2)), oP 6 (.ld false 1 (.t 5)), oP 7 (.fad false 0 1 (.t 3)), oP 8 (.ld false 1 (.t 7)), oP 9 (.bin .eql (.t 6) (.t 8)), oM 10 9, oQ 11 (.fad true 1 8 (.t 2)) 10 true, oQ 12 (.ld true 8 (.t 11)) 10 true, oQ 13 (.fad true 1 8 (.t 3)) 10 true, oQ 14 (.ld true 8 (.t 13)) 10 true, oQ 15 (.call N_ref17_SameInvocation [] [.t 12, .t 14]) 10 true, oP 16 (.pick (.t 10) (.t 15) (.c (.d (.bool false)))), oM 17 16, oQ 18 (.fad true 15 8 (.t 2)) 17 true, oQ 19 (.ld true 8 (.t 18)) 17 true, oQ 20 (.fad true 15 8 (.t 3)) 17 true, oQ 21 (.ld true 8 (.t 20)) 17 true, oQ 22 (.eqs false 8 [(0, 0), (1, 0), (2, 0), (3, 0), (4, 0), (5, 0), (6, 0), (7, 0)] (.t 19) (.t 21)) 17 true, oP 23 (.pick (.t 17) (.t 22) (.c (.d (.bool false)))), oM 24 23, oQ 25 (.fad false 9 1 (.t 2)) 24 true, oQ 26 (.ld false 1 (.t 25)) 24 true, oQ 27 (.fad false 9 1 (.t 3)) 24 true, oQ 28 (.ld false 1 (.t 27)) 24 true, oQ 29 (.bin .eql (.t 26) (.t 28)) 24 true, oP 30 (.pick (.t 24) (.t 29) (.c (.d (.bool false)))), oM 31 30, oQ 32 (.fad false 10 1 (.t 2)) 31 true, oQ 33 (.ld false 1 (.t 32)) 31 true, oQ 34 (.fad false 10 1 (.t 3)) 31 true, oQ 35 (.ld false 1 (.t 34)) 31 true, oQ 36 (.eqb false (.t 33) (.t 35)) 31 true, oP 37 (.pick (.t 31) (.t 36) (.c (.d (.bool false)))), oM 38 37, oQ 39 (.fad false 11 1 (.t 2)) 38 true, oQ 40 (.ld false 1 (.t 39)) 38 true, oQ 41 (.fad false 11 1 (.t 3)) 38 true, oQ 42 (.ld false 1 (.t 41)) 38 true, oQ 43 (.bin .eql (.t 40) (.t 42)) 38 true, oP 44 (.pick (.t 38) (.t 43) (.c (.d (.bool false)))), oM 45 44, oQ 46 (.fad false 12 1 (.t 2)) 45 true, oQ 47 (.ld false 1 (.t 46)) 45 true, oQ 48 (.fad false 12 1 (.t 3)) 45 true, oQ 49 (.ld false 1 (.t 48)) 45 true, oQ 50 (.bin .eql (.t 47) (.t 49)) 45 true, oP 51 (.pick (.t 45) (.t 50) (.c (.d (.bool false)))), oM 52 51, oQ 53 (.fad false 13 1 (.t 2)) 52 true, oQ 54 (.ld false 1 (.t 53)) 52 true, oQ 55 (.fad false 13 1 (.t 3)) 52 true, oQ 56 (.ld false 1 (.t 55)) 52 true, oQ 57 (.bin .eql (.t 54) (.t 56)) 52 true, oP 58 (.pick (.t 52) (.t 57) (.c (.d (.bool false)))), oM 59 58, oQ 60 (.fad false 14 1 (.t 2)) 59 true, oQ 61 (.ld false 1 (.t 60)) 59 true, oQ 62 (.fad false 14 1 (.t 3)) 59 true, oQ 63 (.ld false 1 (.t 62)) 59 true, oQ 64 (.call N_ref17_SameResults [] [.t 61, .t 63]) 59 true, oP 65 (.pick (.t 59) (.t 64) (.c (.d (.bool false)))), oM 66 65, oQ 67 (.fad true 23 26 (.t 2)) 66 true, oQ 68 (.ld true 26 (.t 67)) 66 true, oQ 69 (.fad true 23 26 (.t 3)) 66 true, oQ 70 (.ld true 26 (.t 69)) 66 true, oQ 71 (.call N_ref15_Same [] [.t 68, .t 70]) 66 true, oP 72 (.pick (.t 66) (.t 71) (.c (.d (.bool false)))), oM 73 72, oQ 74 (.fad true 52 2 (.t 2)) 73 true, oQ 75 (.ld true 2 (.t 74)) 73 true, oQ 76 (.fad true 52 2 (.t 3)) 73 true, oQ 77 (.ld true 2 (.t 76)) 73 true, oQ 78 (.eqs false 2 [(0, 0), (1, 0)] (.t 75) (.t 77)) 73 true, oP 79 (.pick (.t 73) (.t 78) (.c (.d (.bool false)))), oM 80 79, oQ 81 (.fad false 54 1 (.t 2)) 80 true, oQ 82 (.ld false 1 (.t 81)) 80 true, oQ 83 (.fad false 54 1 (.t 3)) 80 true, oQ 84 (.ld false 1 (.t 83)) 80 true, oQ 85 (.bin .eql (.t 82) (.t 84)) 80 true, oP 86 (.pick (.t 80) (.t 85) (.c (.d (.bool false)))), oM 87 86, oQ 88 (.fad false 55 1 (.t 2)) 87 true, oQ 89 (.ld false 1 (.t 88)) 87 true, oQ 90 (.fad false 55 1 (.t 3)) 87 true, oQ 91 (.ld false 1 (.t 90)) 87 true, oQ 92 (.bin .eql (.t 89) (.t 91)) 87 true, oP 93 (.pick (.t 87) (.t 92) (.c (.d (.bool false)))), oM 94 93, oQ 95 (.fad true 56 4 (.t 2)) 94 true, oQ 96 (.ld true 4 (.t 95)) 94 true, oQ 97 (.fad true 56 4 (.t 3)) 94 true, oQ 98 (.ld true 4 (.t 97)) 94 true, oQ 99 (.eqs false 4 [(0, 0), (1, 0), (2, 0), (3, 0)] (.t 96) (.t 98)) 94 true, oP 100 (.pick (.t 94) (.t 99) (.c (.d (.bool false)))), oM 101 100, oQ 102 (.fad false 60 1 (.t 2)) 101 true, oQ 103 (.ld false 1 (.t 102)) 101 true, oQ 104 (.fad false 60 1 (.t 3)) 101 true, oQ 105 (.ld false 1 (.t 104)) 101 true, oQ 106 (.bin .eql (.t 103) (.t 105)) 101 true, oP 107 (.pick (.t 101) (.t 106) (.c (.d (.bool false)))), oM 108 107, oQ 109 (.fad true 49 3 (.t 2)) 108 true, oQ 110 (.fad false 1 1 (.t 109)) 108 true, oQ 111 (.ld false 1 (.t 110)) 108 true, oQ 112 (.len (.t 111)) 108 true, oQ 113 (.fad true 49 3 (.t 3)) 108 true, oQ 114 (.fad false 1 1 (.t 113)) 108 true, oQ 115 (.ld false 1 (.t 114)) 108 true, oQ 116 (.len (.t 115)) 108 true, oQ 117 (.bin .eql (.t 112) (.t 116)) 108 true, oP 118 (.pick (.t 108) (.t 117) (.c (.d (.bool false)))), oM 119 118, oQ 120 (.fad true 49 3 (.t 2)) 119 true, oQ 121 (.fad false 0 1 (.t 120)) 119 true, oQ 122 (.ld false 1 (.t 121)) 119 true, oQ 123 (.fad true 49 3 (.t 3)) 119 true, oQ 124 (.fad false 0 1 (.t 123)) 119 true, oQ 125 (.ld false 1 (.t 124)) 119 true, oQ 126 (.bin .eql (.t 122) (.t 125)) 119 true, oP 127 (.pick (.t 119) (.t 126) (.c (.d (.bool false)))), oM 128 127, oQ 129 (.fad false 61 1 (.t 2)) 128 true, oQ 130 (.ld false 1 (.t 129)) 128 true, oQ 131 (.len (.t 130)) 128 true, oQ 132 (.fad false 61 1 (.t 3)) 128 true, oQ 133 (.ld false 1 (.t 132)) 128 true, oQ 134 (.len (.t 133)) 128 true, oQ 135 (.bin .eql (.t 131) (.t 134)) 128 true, oP 136 (.pick (.t 128) (.t 135) (.c (.d (.bool false)))), oM 137 136, oQ 138 (.fad false 62 1 (.t 2)) 137 true, oQ 139 (.ld false 1 (.t 138)) 137 true, oQ 140 (.len (.t 139)) 137 true, oQ 141 (.fad false 62 1 (.t 3)) 137 true, oQ 142 (.ld false 1 (.t 141)) 137 true, oQ 143 (.len (.t 142)) 137 true, oQ 144 (.bin .eql (.t 140) (.t 143)) 137 true, oP 145 (.pick (.t 137) (.t 144) (.c (.d (.bool false)))), oM 4 145] [2, 3, 5, 6, 7, 8, 9, 10, 11, 12, 13, 14, 15, 16, 17, 18, 19, 20, 21, 22, 23, 24, 25, 26, 27, 28, 29, 30, 31, 32, 33, 34, 35, 36, 37, 38, 39, 40, 41, 42, 43, 44, 45, 46, 47, 48, 49, 50, 51, 52, 53, 54, 55, 56, 57, 58, 59, 60, 61, 62, 63, 64, 65, 66, 67, 68, 69, 70, 71, 72, 73, 74, 75, 76, 77, 78, 79, 80, 81, 82, 83, 84, 85, 86, 87, 88, 89, 90, 91, 92, 93, 94, 95, 96, 97, 98, 99, 100, 101, 102, 103, 104, 105, 106, 107, 108, 109, 110, 111, 112, 113, 114, 115, 116, 117, 118, 119, 120, 121, 122, 123, 124, 125, 126, 127, 128, 129, 130, 131, 132, 133, 134, 135, 136, 137, 138, 139, 140, 141, 142, 143, 144, 145])
 (.ret [4])))
def r_law17_same : List ARes := [.t 4]
def fn_law17_same : AFn := .code c_law17_same r_law17_same 146 true
def h_ref17_SameInvocation : Hints := { kill := kx [(0,[0,1,4]),(1,[2,3,5058])],ret := [4] }
def c_ref17_SameInvocation : ACode := vl (x := codeC Try.prog Try.f24 h_ref17_SameInvocation [] [])
def r_ref17_SameInvocation : List ARes := [.t 4]
def fn_ref17_SameInvocation : AFn := .code c_ref17_SameInvocation r_ref17_SameInvocation 59 true
def h_ref17_SameTexts : Hints := { kill := kx [(0,[4]),(1,[6009]),(2,[0,1,10]),(3,[10]),(4,[11013]),(5,[15,16,25]),(6,[14,17024]),(7,[0,1,5,25]),(8,[0,1,5,14])],ret := [4] }
def q_ref17_SameTexts : List (Nat × List (List Nat)) := qx [(6,[[],[0],[],[],[1003],[1004],[1003],[1003],[]])]
@[irreducible] def l_ref17_SameTexts_0 : ACode := vl (x := codeL Try.prog Try.f43 h_ref17_SameTexts q_ref17_SameTexts 0 [])
def c_ref17_SameTexts : ACode := vl (x := codeC Try.prog Try.f43 h_ref17_SameTexts q_ref17_SameTexts [l_ref17_SameTexts_0])
def r_ref17_SameTexts : List ARes := [.t 4]
def fn_ref17_SameTexts : AFn := .code c_ref17_SameTexts r_ref17_SameTexts 26 true
def h_ref17_SameTokens : Hints := { kill := kx [(0,[4]),(1,[6009]),(2,[0,1,10]),(3,[10]),(4,[11013]),(5,[15,16,27]),(6,[14,17026]),(7,[0,1,5,27]),(8,[0,1,5,14])],ret := [4] }
def q_ref17_SameTokens : List (Nat × List (List Nat)) := qx [(6,[[],[0],[],[],[],[1004],[1005],[1004],[1004],[1004],[]])]
@[irreducible] def l_ref17_SameTokens_0 : ACode := vl (x := codeL Try.prog Try.f44 h_ref17_SameTokens q_ref17_SameTokens 0 [])
def c_ref17_SameTokens : ACode := vl (x := codeC Try.prog Try.f44 h_ref17_SameTokens q_ref17_SameTokens [l_ref17_SameTokens_0])
def r_ref17_SameTokens : List ARes := [.t 4]
def fn_ref17_SameTokens : AFn := .code c_ref17_SameTokens r_ref17_SameTokens 28 true
def h_ref17_SameResults : Hints := { kill := kx [(0,[4]),(1,[8011]),(2,[0,1,12]),(3,[12]),(4,[13015]),(5,[17,18,75]),(6,[16,19026]),(7,[6,7,27074]),(8,[0,1,5,75]),(9,[0,1,5,16])],ret := [4] }
def q_ref17_SameResults : List (Nat × List (List Nat)) := qx [(6,[[],[0],[],[],[1003],[1004],[1003],[1003],[1007],[1008],[5007],[]])]
@[irreducible] def l_ref17_SameResults_0 : ACode := vl (x := codeL Try.prog Try.f25 h_ref17_SameResults q_ref17_SameResults 0 [])
def c_ref17_SameResults : ACode := vl (x := codeC Try.prog Try.f25 h_ref17_SameResults q_ref17_SameResults [l_ref17_SameResults_0])
def r_ref17_SameResults : List ARes := [.t 4]
def fn_ref17_SameResults : AFn := .code c_ref17_SameResults r_ref17_SameResults 76 true
def c_ref15_Same : ACode :=
 (.seq (.ops [] [oP 2 (.box (.t 0)), oP 3 (.box (.t 1)), oP 4 (.mv (.c (.d (.bool false))))] [0, 1, 4])
 (.seq (.ops [] [oP 5 (.fad false 0 1 (.t 2)), oP 6 (.ld false 1 (.t 5)), oP 7 (.fad false 0 1 (.t 3)), oP 8 (.ld false 1 (.t 7)), oP 9 (.bin .eql (.t 6) (.t 8)), oM 10 9, oQ 11 (.fad false 1 1 (.t 2)) 10 true, oQ 12 (.ld false 1 (.t 11)) 10 true, oQ 13 (.fad false 1 1 (.t 3)) 10 true, oQ 14 (.ld false 1 (.t 13)) 10 true, oQ 15 (.bin .eql (.t 12) (.t 14)) 10 true, oP 16 (.pick (.t 10) (.t 15) (.c (.d (.bool false)))), oM 17 16, oQ 18 (.fad true 2 5 (.t 2)) 17 true, oQ 19 (.ld true 5 (.t 18)) 17 true, oQ 20 (.fad true 2 5 (.t 3)) 17 true, oQ 21 (.ld true 5 (.t 20)) 17 true, oQ 22 (.call N_ref13_Same [] [.t 19, .t 21]) 17 true, oP 23 (.pick (.t 17) (.t 22) (.c (.d (.bool false)))), oM 24 23, oQ 25 (.fad true 7 4 (.t 2)) 24 true, oQ 26 (.ld true 4 (.t 25)) 24 true, oQ 27 (.fad true 7 4 (.t 3)) 24 true, oQ 28 (.ld true 4 (.t 27)) 24 true, oQ 29 (.eqs false 4 [(0, 0), (1, 0), (2, 0), (3, 0)] (.t 26) (.t 28)) 24 true, oP 30 (.pick (.t 24) (.t 29) (.c (.d (.bool false)))), oM 31 30, oQ 32 (.fad false 11 1 (.t 2)) 31 true, oQ 33 (.ld false 1 (.t 32)) 31 true, oQ 34 (.fad false 11 1 (.t 3)) 31 true, oQ 35 (.ld false 1 (.t 34)) 31 true, oQ 36 (.call N_ref15_sameShards [] [.t 33, .t 35]) 31 true, oP 37 (.pick (.t 31) (.t 36) (.c (.d (.bool false)))), oM 38 37, oQ 39 (.fad true 12 2 (.t 2)) 38 true, oQ 40 (.ld true 2 (.t 39)) 38 true, oQ 41 (.fad true 12 2 (.t 3)) 38 true, oQ 42 (.ld true 2 (.t 41)) 38 true, oQ 43 (.call N_ref08_Same [] [.t 40, .t 42]) 38 true, oP 44 (.pick (.t 38) (.t 43) (.c (.d (.bool false)))), oM 45 44, oQ 46 (.fad false 14 1 (.t 2)) 45 true, oQ 47 (.ld false 1 (.t 46)) 45 true, oQ 48 (.fad false 14 1 (.t 3)) 45 true, oQ 49 (.ld false 1 (.t 48)) 45 true, oQ 50 (.call N_ref11_Same [] [.t 47, .t 49]) 45 true, oP 51 (.pick (.t 45) (.t 50) (.c (.d (.bool false)))), oM 52 51, oQ 53 (.fad true 15 3 (.t 2)) 52 true, oQ 54 (.ld true 3 (.t 53)) 52 true, oQ 55 (.fad true 15 3 (.t 3)) 52 true, oQ 56 (.ld true 3 (.t 55)) 52 true, oQ 57 (.call N_ref10_Same [] [.t 54, .t 56]) 52 true, oP 58 (.pick (.t 52) (.t 57) (.c (.d (.bool false)))), oM 59 58, oQ 60 (.fad true 18 6 (.t 2)) 59 true, oQ 61 (.ld true 6 (.t 60)) 59 true, oQ 62 (.fad true 18 6 (.t 3)) 59 true, oQ 63 (.ld true 6 (.t 62)) 59 true, oQ 64 (.call N_ref15_SameOutcome [] [.t 61, .t 63]) 59 true, oP 65 (.pick (.t 59) (.t 64) (.c (.d (.bool false)))), oM 66 65, oQ 67 (.fad false 24 1 (.t 2)) 66 true, oQ 68 (.ld false 1 (.t 67)) 66 true, oQ 69 (.fad false 24 1 (.t 3)) 66 true, oQ 70 (.ld false 1 (.t 69)) 66 true, oQ 71 (.bin .eql (.t 68) (.t 70)) 66 true, oP 72 (.pick (.t 66) (.t 71) (.c (.d (.bool false)))), oM 73 72, oQ 74 (.fad false 25 1 (.t 2)) 73 true, oQ 75 (.ld false 1 (.t 74)) 73 true, oQ 76 (.fad false 25 1 (.t 3)) 73 true, oQ 77 (.ld false 1 (.t 76)) 73 true, oQ 78 (.call N_ref03_Same [] [.t 75, .t 77]) 73 true, oP 79 (.pick (.t 73) (.t 78) (.c (.d (.bool false)))), oM 4 79] [2, 3, 5, 6, 7, 8, 9, 10, 11, 12, 13, 14, 15, 16, 17, 18, 19, 20, 21, 22, 23, 24, 25, 26, 27, 28, 29, 30, 31, 32, 33, 34, 35, 36, 37, 38, 39, 40, 41, 42, 43, 44, 45, 46, 47, 48, 49, 50, 51, 52, 53, 54, 55, 56, 57, 58, 59, 60, 61, 62, 63, 64, 65, 66, 67, 68, 69, 70, 71, 72, 73, 74, 75, 76, 77, 78, 79])
 (.ret [4])))
def r_ref15_Same : List ARes := [.t 4]
def fn_ref15_Same : AFn := .code c_ref15_Same r_ref15_Same 80 true
def h_ref13_Same : Hints := { kill := kx [(0,[0,1,4]),(1,[2,3,5037])],ret := [4] }
def c_ref13_Same : ACode := vl (x := codeC Try.prog Try.f45 h_ref13_Same [] [])
def r_ref13_Same : List ARes := [.t 4]
def fn_ref13_Same : AFn := .code c_ref13_Same r_ref13_Same 38 true
def h_ref13_SameInts : Hints := { kill := kx [(0,[4]),(1,[6009]),(2,[0,1,10]),(3,[10]),(4,[11013]),(5,[15,16,25]),(6,[14,17024]),(7,[0,1,5,25]),(8,[0,1,5,14])],ret := [4] }
def q_ref13_SameInts : List (Nat × List (List Nat)) := qx [(6,[[],[0],[],[],[1003],[1004],[1003],[1003],[]])]
@[irreducible] def l_ref13_SameInts_0 : ACode := vl (x := codeL Try.prog Try.f60 h_ref13_SameInts q_ref13_SameInts 0 [])
def c_ref13_SameInts : ACode := vl (x := codeC Try.prog Try.f60 h_ref13_SameInts q_ref13_SameInts [l_ref13_SameInts_0])
def r_ref13_SameInts : List ARes := [.t 4]
def fn_ref13_SameInts : AFn := .code c_ref13_SameInts r_ref13_SameInts 26 true
def h_ref15_sameShards : Hints := { kill := kx [(0,[4]),(1,[6009]),(2,[0,1,10]),(3,[10]),(4,[11013]),(5,[15,16,26]),(6,[14,17025]),(7,[0,1,5,26]),(8,[0,1,5,14])],ret := [4] }
def q_ref15_sameShards : List (Nat × List (List Nat)) := qx [(6,[[],[0],[],[],[1003],[1004],[1003],[1003],[],[]])]
@[irreducible] def l_ref15_sameShards_0 : ACode := vl (x := codeL Try.prog Try.f46 h_ref15_sameShards q_ref15_sameShards 0 [])
def c_ref15_sameShards : ACode := vl (x := codeC Try.prog Try.f46 h_ref15_sameShards q_ref15_sameShards [l_ref15_sameShards_0])
def r_ref15_sameShards : List ARes := [.t 4]
def fn_ref15_sameShards : AFn := .code c_ref15_sameShards r_ref15_sameShards 27 true
def h_ref07_Same : Hints := { kill := kx [(0,[0,1,4]),(1,[2,3,5037])],ret := [4] }
def c_ref07_Same : ACode := vl (x := codeC Try.prog Try.f61 h_ref07_Same [] [])
def r_ref07_Same : List ARes := [.t 4]
def fn_ref07_Same : AFn := .code c_ref07_Same r_ref07_Same 38 true
def h_ref04_Same : Hints := { kill := kx [(0,[0,1,4]),(1,[2,3,5023])],ret := [4] }
def c_ref04_Same : ACode := vl (x := codeC Try.prog Try.f68 h_ref04_Same [] [])
def r_ref04_Same : List ARes := [.t 4]
def fn_ref04_Same : AFn := .code c_ref04_Same r_ref04_Same 24 true
def l_ref03_Same_0 : ACode :=
 (.seq (.seq (.ops [] [oM 11 5, oM 12 0, oP 13 (.len (.t 12)), oP 14 (.bin .lss (.t 11) (.t 13))] [11, 12, 13])
 (.cond (.t 14) .skip (.exit 0 [])))
 (.seq (.block 1 (.seq (.draw [] [oM 17 0, oM 18 5, oP 19 (.iad 7 (.t 17) (.t 18)), oP 20 (.ld true 7 (.t 19)), oM 21 1, oM 22 5, oP 23 (.iad 7 (.t 21) (.t 22)), oP 24 (.ld true 7 (.t 23)), oP 25 (.eqs true 7 [(0, 0), (1, 0), (2, 0), (3, 0), (4, 0), (5, 0), (6, 2)] (.t 20) (.t 24))] [[], [0], [], [], [0, 1, 2, 3], [0, 1, 2, 3, 4], [0, 1, 2, 3], [0, 1, 2, 3], []] [14, 17, 18, 19, 20, 21, 22, 23, 24])
 (.cond (.t 25) (.seq (.ops [] [oP 4 (.mv (.c (.d (.bool false))))] [0, 1, 5, 25])
 (.ret [4])) .skip)))
 (.ops [] [oM 15 5, oP 16 (.bin .add (.t 15) (kI 1)), oM 5 16] [15, 16, 25])))
def c_ref03_Same : ACode :=
 (.seq (.ops [] [oP 4 (.mv (.c (.d (.bool false))))] [4])
 (.seq (.seq (.ops [] [oM 6 0, oP 7 (.len (.t 6)), oM 8 1, oP 9 (.len (.t 8)), oP 10 (.bin .neq (.t 7) (.t 9))] [6, 7, 8, 9])
 (.cond (.t 10) (.seq (.ops [] [oP 4 (.mv (.c (.d (.bool false))))] [0, 1, 10])
 (.ret [4])) .skip))
 (.seq (.seq (.ops [] [oP 5 (.mv (kI 0))] [10])
 (.block 0 (.loop [] l_ref03_Same_0)))
 (.seq (.ops [] [oP 4 (.mv (.c (.d (.bool true))))] [0, 1, 5, 14])
 (.ret [4])))))
def r_ref03_Same : List ARes := [.t 4]
def fn_ref03_Same : AFn := .code c_ref03_Same r_ref03_Same 26 true
def h_ref06_Same : Hints := { kill := kx [(0,[0,1,4]),(1,[2,3,5016])],ret := [4] }
def c_ref06_Same : ACode := vl (x := codeC Try.prog Try.f69 h_ref06_Same [] [])
def r_ref06_Same : List ARes := [.t 4]
def fn_ref06_Same : AFn := .code c_ref06_Same r_ref06_Same 17 true
def l_ref06_SameLeases_0 : ACode :=
 (.seq (.seq (.ops [] [oM 11 5, oM 12 0, oP 13 (.len (.t 12)), oP 14 (.bin .lss (.t 11) (.t 13))] [11, 12, 13])
 (.cond (.t 14) .skip (.exit 0 [])))
 (.seq (.block 1 (.seq (.draw [] [oM 17 0, oM 18 5, oP 19 (.iad 8 (.t 17) (.t 18)), oP 20 (.ld true 8 (.t 19)), oM 21 1, oM 22 5, oP 23 (.iad 8 (.t 21) (.t 22)), oP 24 (.ld true 8 (.t 23)), oP 25 (.eqs true 8 [(0, 0), (1, 0), (2, 0), (3, 0), (4, 0), (5, 0), (6, 2), (7, 0)] (.t 20) (.t 24))] [[], [0], [], [], [0, 1, 2, 3], [0, 1, 2, 3, 4], [0, 1, 2, 3], [0, 1, 2, 3], []] [14, 17, 18, 19, 20, 21, 22, 23, 24])
 (.cond (.t 25) (.seq (.ops [] [oP 4 (.mv (.c (.d (.bool false))))] [0, 1, 5, 25])
 (.ret [4])) .skip)))
 (.ops [] [oM 15 5, oP 16 (.bin .add (.t 15) (kI 1)), oM 5 16] [15, 16, 25])))
def c_ref06_SameLeases : ACode :=
 (.seq (.ops [] [oP 4 (.mv (.c (.d (.bool false))))] [4])
 (.seq (.seq (.ops [] [oM 6 0, oP 7 (.len (.t 6)), oM 8 1, oP 9 (.len (.t 8)), oP 10 (.bin .neq (.t 7) (.t 9))] [6, 7, 8, 9])
 (.cond (.t 10) (.seq (.ops [] [oP 4 (.mv (.c (.d (.bool false))))] [0, 1, 10])
 (.ret [4])) .skip))
 (.seq (.seq (.ops [] [oP 5 (.mv (kI 0))] [10])
 (.block 0 (.loop [] l_ref06_SameLeases_0)))
 (.seq (.ops [] [oP 4 (.mv (.c (.d (.bool true))))] [0, 1, 5, 14])
 (.ret [4])))))
def r_ref06_SameLeases : List ARes := [.t 4]
def fn_ref06_SameLeases : AFn := .code c_ref06_SameLeases r_ref06_SameLeases 26 true
def l_ref05_Same_0 : ACode :=
 (.seq (.seq (.ops [] [oM 11 5, oM 12 0, oP 13 (.len (.t 12)), oP 14 (.bin .lss (.t 11) (.t 13))] [11, 12, 13])
 (.cond (.t 14) .skip (.exit 0 [])))
 (.seq (.block 1 (.seq (.draw [] [oM 17 0, oM 18 5, oP 19 (.iad 2 (.t 17) (.t 18)), oP 20 (.ld true 2 (.t 19)), oM 21 1, oM 22 5, oP 23 (.iad 2 (.t 21) (.t 22)), oP 24 (.ld true 2 (.t 23)), oP 25 (.eqs true 2 [(0, 0), (1, 0)] (.t 20) (.t 24))] [[], [0], [], [], [0, 1, 2, 3], [0, 1, 2, 3, 4], [0, 1, 2, 3], [0, 1, 2, 3], []] [14, 17, 18, 19, 20, 21, 22, 23, 24])
 (.cond (.t 25) (.seq (.ops [] [oP 4 (.mv (.c (.d (.bool false))))] [0, 1, 5, 25])
 (.ret [4])) .skip)))
 (.ops [] [oM 15 5, oP 16 (.bin .add (.t 15) (kI 1)), oM 5 16] [15, 16, 25])))
def c_ref05_Same : ACode :=
 (.seq (.ops [] [oP 4 (.mv (.c (.d (.bool false))))] [4])
 (.seq (.seq (.ops [] [oM 6 0, oP 7 (.len (.t 6)), oM 8 1, oP 9 (.len (.t 8)), oP 10 (.bin .neq (.t 7) (.t 9))] [6, 7, 8, 9])
 (.cond (.t 10) (.seq (.ops [] [oP 4 (.mv (.c (.d (.bool false))))] [0, 1, 10])
 (.ret [4])) .skip))
 (.seq (.seq (.ops [] [oP 5 (.mv (kI 0))] [10])
 (.block 0 (.loop [] l_ref05_Same_0)))
 (.seq (.ops [] [oP 4 (.mv (.c (.d (.bool true))))] [0, 1, 5, 14])
 (.ret [4])))))
def r_ref05_Same : List ARes := [.t 4]
def fn_ref05_Same : AFn := .code c_ref05_Same r_ref05_Same 26 true
def h_ref08_Same : Hints := { kill := kx [(0,[0,1,4]),(1,[2,3,5016])],ret := [4] }
def c_ref08_Same : ACode := vl (x := codeC Try.prog Try.f47 h_ref08_Same [] [])
def r_ref08_Same : List ARes := [.t 4]
def fn_ref08_Same : AFn := .code c_ref08_Same r_ref08_Same 17 true
def l_ref11_Same_0 : ACode :=
 (.seq (.seq (.ops [] [oM 11 5, oM 12 0, oP 13 (.len (.t 12)), oP 14 (.bin .lss (.t 11) (.t 13))] [11, 12, 13])
 (.cond (.t 14) .skip (.exit 0 [])))
 (.seq (.block 1 (.seq (.draw [] [oM 17 0, oM 18 5, oP 19 (.iad 4 (.t 17) (.t 18)), oP 20 (.ld true 4 (.t 19)), oM 21 1, oM 22 5, oP 23 (.iad 4 (.t 21) (.t 22)), oP 24 (.ld true 4 (.t 23)), oP 25 (.eqs true 4 [(0, 0), (1, 0), (2, 0), (3, 0)] (.t 20) (.t 24))] [[], [0], [], [], [0, 1, 2, 3], [0, 1, 2, 3, 4], [0, 1, 2, 3], [0, 1, 2, 3], []] [14, 17, 18, 19, 20, 21, 22, 23, 24])
 (.cond (.t 25) (.seq (.ops [] [oP 4 (.mv (.c (.d (.bool false))))] [0, 1, 5, 25])
 (.ret [4])) .skip)))
 (.ops [] [oM 15 5, oP 16 (.bin .add (.t 15) (kI 1)), oM 5 16] [15, 16, 25])))
def c_ref11_Same : ACode :=
 (.seq (.ops [] [oP 4 (.mv (.c (.d (.bool false))))] [4])
 (.seq (.seq (.ops [] [oM 6 0, oP 7 (.len (.t 6)), oM 8 1, oP 9 (.len (.t 8)), oP 10 (.bin .neq (.t 7) (.t 9))] [6, 7, 8, 9])
 (.cond (.t 10) (.seq (.ops [] [oP 4 (.mv (.c (.d (.bool false))))] [0, 1, 10])
 (.ret [4])) .skip))
 (.seq (.seq (.ops [] [oP 5 (.mv (kI 0))] [10])
 (.block 0 (.loop [] l_ref11_Same_0)))
 (.seq (.ops [] [oP 4 (.mv (.c (.d (.bool true))))] [0, 1, 5, 14])
 (.ret [4])))))
def r_ref11_Same : List ARes := [.t 4]
def fn_ref11_Same : AFn := .code c_ref11_Same r_ref11_Same 26 true
def l_ref10_Same_0 : ACode :=
 (.seq (.seq (.ops [] [oM 30 5, oP 31 (.fad false 1 1 (.t 2)), oP 32 (.ld false 1 (.t 31)), oP 33 (.len (.t 32)), oP 34 (.bin .lss (.t 30) (.t 33))] [30, 31, 32, 33])
 (.cond (.t 34) .skip (.exit 0 [2, 3])))
 (.seq (.block 1 (.seq (.draw [] [oP 37 (.fad false 1 1 (.t 2)), oP 38 (.ld false 1 (.t 37)), oM 39 5, oP 40 (.iad 3 (.t 38) (.t 39)), oP 41 (.ld true 3 (.t 40)), oP 42 (.fad false 1 1 (.t 3)), oP 43 (.ld false 1 (.t 42)), oM 44 5, oP 45 (.iad 3 (.t 43) (.t 44)), oP 46 (.ld true 3 (.t 45)), oP 47 (.eqs true 3 [(0, 0), (1, 0), (2, 0)] (.t 41) (.t 46))] [[], [], [0, 1], [], [], [0, 1, 2, 3, 4], [0, 1, 2, 3, 4], [0, 1, 2, 3, 4, 5, 6], [0, 1, 2, 3, 4], [0, 1, 2, 3, 4], []] [34, 37, 38, 39, 40, 41, 42, 43, 44, 45, 46])
 (.cond (.t 47) (.seq (.ops [] [oP 4 (.mv (.c (.d (.bool false))))] [2, 3, 5, 47])
 (.ret [4])) .skip)))
 (.ops [] [oM 35 5, oP 36 (.bin .add (.t 35) (kI 1)), oM 5 36] [35, 36, 47])))
def l_ref10_Same_1 : ACode :=
 (.seq (.seq (.ops [] [oM 48 6, oP 49 (.fad false 2 1 (.t 2)), oP 50 (.ld false 1 (.t 49)), oP 51 (.len (.t 50)), oP 52 (.bin .lss (.t 48) (.t 51))] [48, 49, 50, 51])
 (.cond (.t 52) .skip (.exit 2 [])))
 (.seq (.block 3 (.seq (.draw [] [oP 55 (.fad false 2 1 (.t 2)), oP 56 (.ld false 1 (.t 55)), oM 57 6, oP 58 (.iad 1 (.t 56) (.t 57)), oP 59 (.ld false 1 (.t 58)), oP 60 (.fad false 2 1 (.t 3)), oP 61 (.ld false 1 (.t 60)), oM 62 6, oP 63 (.iad 1 (.t 61) (.t 62)), oP 64 (.ld false 1 (.t 63)), oP 65 (.bin .neq (.t 59) (.t 64))] [[], [], [0, 1], [], [], [0, 1, 2, 3, 4], [0, 1, 2, 3, 4], [0, 1, 2, 3, 4, 5, 6], [0, 1, 2, 3, 4], [0, 1, 2, 3, 4], []] [52, 55, 56, 57, 58, 59, 60, 61, 62, 63, 64])
 (.cond (.t 65) (.seq (.ops [] [oP 4 (.mv (.c (.d (.bool false))))] [2, 3, 6, 65])
 (.ret [4])) .skip)))
 (.ops [] [oM 53 6, oP 54 (.bin .add (.t 53) (kI 1)), oM 6 54] [53, 54, 65])))
def c_ref10_Same : ACode :=
 (.seq (.ops [] [oP 2 (.box (.t 0)), oP 3 (.box (.t 1)), oP 4 (.mv (.c (.d (.bool false))))] [0, 1, 4])
 (.seq (.seq (.ops [] [oP 7 (.fad false 0 1 (.t 2)), oP 8 (.ld false 1 (.t 7)), oP 9 (.fad false 0 1 (.t 3)), oP 10 (.ld false 1 (.t 9)), oP 11 (.bin .neq (.t 8) (.t 10)), oM 12 11, oQ 13 (.fad false 1 1 (.t 2)) 12 false, oQ 14 (.ld false 1 (.t 13)) 12 false, oQ 15 (.len (.t 14)) 12 false, oQ 16 (.fad false 1 1 (.t 3)) 12 false, oQ 17 (.ld false 1 (.t 16)) 12 false, oQ 18 (.len (.t 17)) 12 false, oQ 19 (.bin .neq (.t 15) (.t 18)) 12 false, oP 20 (.pick (.t 12) (.c (.d (.bool true))) (.t 19)), oM 21 20, oQ 22 (.fad false 2 1 (.t 2)) 21 false, oQ 23 (.ld false 1 (.t 22)) 21 false, oQ 24 (.len (.t 23)) 21 false, oQ 25 (.fad false 2 1 (.t 3)) 21 false, oQ 26 (.ld false 1 (.t 25)) 21 false, oQ 27 (.len (.t 26)) 21 false, oQ 28 (.bin .neq (.t 24) (.t 27)) 21 false, oP 29 (.pick (.t 21) (.c (.d (.bool true))) (.t 28))] [7, 8, 9, 10, 11, 12, 13, 14, 15, 16, 17, 18, 19, 20, 21, 22, 23, 24, 25, 26, 27, 28])
 (.cond (.t 29) (.seq (.ops [] [oP 4 (.mv (.c (.d (.bool false))))] [2, 3, 29])
 (.ret [4])) .skip))
 (.seq (.seq (.ops [] [oP 5 (.mv (kI 0))] [29])
 (.block 0 (.loop [] l_ref10_Same_0)))
 (.seq (.seq (.ops [] [oP 6 (.mv (kI 0))] [5, 34])
 (.block 2 (.loop [] l_ref10_Same_1)))
 (.seq (.ops [] [oP 4 (.mv (.c (.d (.bool true))))] [2, 3, 6, 52])
 (.ret [4]))))))
def r_ref10_Same : List ARes := [.t 4]
def fn_ref10_Same : AFn := .code c_ref10_Same r_ref10_Same 66 true
def l_ref15_SameOutcome_0 : ACode :=
 (.seq (.seq (.ops [] [oM 13 5, oP 14 (.fad false 5 1 (.t 2)), oP 15 (.ld false 1 (.t 14)), oP 16 (.len (.t 15)), oP 17 (.bin .lss (.t 13) (.t 16))] [13, 14, 15, 16])
 (.cond (.t 17) .skip (.exit 0 [2, 3])))
 (.seq (.block 1 (.seq (.draw [] [oP 20 (.fad false 5 1 (.t 2)), oP 21 (.ld false 1 (.t 20)), oM 22 5, oP 23 (.iad 4 (.t 21) (.t 22)), oP 24 (.ld true 4 (.t 23)), oP 25 (.fad false 5 1 (.t 3)), oP 26 (.ld false 1 (.t 25)), oM 27 5, oP 28 (.iad 4 (.t 26) (.t 27)), oP 29 (.ld true 4 (.t 28)), oP 30 (.eqs true 4 [(0, 0), (1, 0), (2, 0), (3, 0)] (.t 24) (.t 29))] [[], [], [0, 1], [], [], [0, 1, 2, 3, 4], [0, 1, 2, 3, 4], [0, 1, 2, 3, 4, 5, 6], [0, 1, 2, 3, 4], [0, 1, 2, 3, 4], []] [17, 20, 21, 22, 23, 24, 25, 26, 27, 28, 29])
 (.cond (.t 30) (.seq (.ops [] [oP 4 (.mv (.c (.d (.bool false))))] [2, 3, 5, 30])
 (.ret [4])) .skip)))
 (.ops [] [oM 18 5, oP 19 (.bin .add (.t 18) (kI 1)), oM 5 19] [18, 19, 30])))
def c_ref15_SameOutcome : ACode :=
 (.seq (.ops [] [oP 2 (.box (.t 0)), oP 3 (.box (.t 1)), oP 4 (.mv (.c (.d (.bool false))))] [0, 1, 4])
 (.seq (.seq (.ops [] [oP 6 (.fad false 5 1 (.t 2)), oP 7 (.ld false 1 (.t 6)), oP 8 (.len (.t 7)), oP 9 (.fad false 5 1 (.t 3)), oP 10 (.ld false 1 (.t 9)), oP 11 (.len (.t 10)), oP 12 (.bin .neq (.t 8) (.t 11))] [6, 7, 8, 9, 10, 11])
 (.cond (.t 12) (.seq (.ops [] [oP 4 (.mv (.c (.d (.bool false))))] [2, 3, 12])
 (.ret [4])) .skip))
 (.seq (.seq (.ops [] [oP 5 (.mv (kI 0))] [12])
 (.block 0 (.loop [] l_ref15_SameOutcome_0)))
 (.seq (.ops [] [oP 31 (.fad false 0 1 (.t 2)), oP 32 (.ld false 1 (.t 31)), oP 33 (.fad false 0 1 (.t 3)), oP 34 (.ld false 1 (.t 33)), oP 35 (.call N_ref15_sameShards [] [.t 32, .t 34]), oM 36 35, oQ 37 (.fad true 1 2 (.t 2)) 36 true, oQ 38 (.ld true 2 (.t 37)) 36 true, oQ 39 (.fad true 1 2 (.t 3)) 36 true, oQ 40 (.ld true 2 (.t 39)) 36 true, oQ 41 (.call N_ref08_Same [] [.t 38, .t 40]) 36 true, oP 42 (.pick (.t 36) (.t 41) (.c (.d (.bool false)))), oM 43 42, oQ 44 (.fad false 3 1 (.t 2)) 43 true, oQ 45 (.ld false 1 (.t 44)) 43 true, oQ 46 (.fad false 3 1 (.t 3)) 43 true, oQ 47 (.ld false 1 (.t 46)) 43 true, oQ 48 (.call N_ref13_SameInts [] [.t 45, .t 47]) 43 true, oP 49 (.pick (.t 43) (.t 48) (.c (.d (.bool false)))), oM 50 49, oQ 51 (.fad false 4 1 (.t 2)) 50 true, oQ 52 (.ld false 1 (.t 51)) 50 true, oQ 53 (.fad false 4 1 (.t 3)) 50 true, oQ 54 (.ld false 1 (.t 53)) 50 true, oQ 55 (.call N_ref03_Same [] [.t 52, .t 54]) 50 true, oP 56 (.pick (.t 50) (.t 55) (.c (.d (.bool false)))), oM 4 56] [2, 3, 5, 17, 31, 32, 33, 34, 35, 36, 37, 38, 39, 40, 41, 42, 43, 44, 45, 46, 47, 48, 49, 50, 51, 52, 53, 54, 55, 56])
 (.ret [4])))))
def r_ref15_SameOutcome : List ARes := [.t 4]
def fn_ref15_SameOutcome : AFn := .code c_ref15_SameOutcome r_ref15_SameOutcome 57 true
def h_batch_Entries : Hints := { kill := kx [(0,[0,2]),(1,[3]),(2,[6]),(3,[1,4,5,7009]),(4,[5,11]),(5,[12]),(6,[4,13]),(7,[1,4,10,14016]),(8,[1,4,10])],ret := [2] }
def c_batch_Entries : ACode := vl (x := codeC Try.prog Try.f16 h_batch_Entries [] [])
def r_batch_Entries : List ARes := [.t 2]
def fn_batch_Entries : AFn := .code c_batch_Entries r_batch_Entries 17 true
def h_ref17_Entries : Hints := { kill := kx [(0,[0,2]),(1,[3]),(2,[6]),(3,[1,4,5,7009]),(4,[5,11]),(5,[12]),(6,[4,13]),(7,[1,4,10,14016]),(8,[1,4,10])],ret := [2] }
def c_ref17_Entries : ACode := vl (x := codeC Try.prog Try.f17 h_ref17_Entries [] [])
def r_ref17_Entries : List ARes := [.t 2]
def fn_ref17_Entries : AFn := .code c_ref17_Entries r_ref17_Entries 17 true
def c_law17_awake : ACode :=
 (.seq (.ops [] [oP 0 (.mv (.c (.d (.bool false))))] [0])
 (.seq (.ops [] [oP 4 (.bsl 2 1 (.d (.str [])) [(0, .c (.d (.str [97]))), (1, .c (.d (.str [98])))]), oP 5 (.build [aI 0, aI 0, aI 0, aI 0, aI 0, aI 0, .xsl [], .xsl []] [(0, (1, kI 1)), (6, (1, .t 4))]), oP 1 (.alloc (.agg [aI 0, aI 0, aI 0, aI 0, aI 0, aI 0, .xsl [], .xsl []])), oN (.st 8 (.t 1) (.t 5))] [4, 5])
 (.seq (.ops [] [oP 7 (.ld true 8 (.t 1)), oP 8 (.build [aI 0, aI 0, aI 0, aI 0, aI 0, aI 0, aI 0, aI 0] [(0, (1, kI 1)), (1, (1, kI 1)), (2, (1, kI 1)), (3, (1, kI 1)), (4, (1, kI 1)), (6, (1, kI 1))]), oP 9 (.call N_batch_Start [] [kI 1, .t 7, .t 8, kI 0]), oM 6 9, oP 10 (.ext (.t 6) 0), oP 11 (.ext (.t 6) 1), oP 2 (.alloc (.agg [aI 0, aI 0, aI 0, aI 0, aI 0, aI 0, aI 0, .xsl [], .xsl [], aI 0, .d (.bool false), aI 0, aI 0, aI 0, .xsl [], aI 0, aI 0, aI 0, aI 0, aI 0, aI 0, aI 0, aI 0, aI 0, aI 0, .xsl [], aI 0, aI 0, aI 0, aI 0, aI 0, aI 0, aI 0, aI 0, .xsl [], aI 0, .xsl [], .xsl [], aI 0, .xsl [], .xsl [], .xsl [], aI 0, .xsl [], .xsl [], .xsl [], .xsl [], aI 0, .xsl [], aI 0, .xsl [], .xsl [], aI 0, aI 0, aI 0, aI 0, aI 0, aI 0, aI 0, aI 0, aI 0, .xsl [], .xsl []])), oN (.st 63 (.t 2) (.t 10)), oM 3 11] [6, 7, 8, 9, 10, 11])
 (.seq (.ops [] [oP 12 (.ld true 63 (.t 2)), oP 13 (.build [aI 0, aI 0, .xsl [], .xsl [], aI 0, aI 0, aI 0] [(1, (1, kI 1))]), oP 14 (.call N_batch_Next [] [.t 12, .t 13, kI 5]), oN (.st 63 (.t 2) (.t 14))] [12, 13, 14])
 (.seq (.ops [] [oM 15 3, oP 16 (.bin .eql (.t 15) (kI 0)), oM 17 16, oQ 18 (.ld true 8 (.t 1)) 17 true, oQ 19 (.call N_batch_Entries [] [.t 18]) 17 true, oQ 20 (.bin .eql (.t 19) (kI 2)) 17 true, oP 21 (.pick (.t 17) (.t 20) (.c (.d (.bool false)))), oM 22 21, oQ 23 (.fad false 13 1 (.t 2)) 22 true, oQ 24 (.ld false 1 (.t 23)) 22 true, oQ 25 (.bin .eql (.t 24) (kI 1)) 22 true, oP 26 (.pick (.t 22) (.t 25) (.c (.d (.bool false)))), oM 27 26, oQ 28 (.fad false 10 1 (.t 2)) 27 true, oQ 29 (.ld false 1 (.t 28)) 27 true, oQ 30 (.un .not (.t 29)) 27 true, oP 31 (.pick (.t 27) (.t 30) (.c (.d (.bool false)))), oM 0 31] [1, 2, 3, 15, 16, 17, 18, 19, 20, 21, 22, 23, 24, 25, 26, 27, 28, 29, 30, 31])
 (.ret [0]))))))
def r_law17_awake : List ARes := [.t 0]
def fn_law17_awake : AFn := .code c_law17_awake r_law17_awake 32 true
def h_batch_Next : Hints := { kill := kx [(0,[0,1]),(1,[8023]),(2,[4,24030]),(3,[3,31035]),(4,[2,36039]),(5,[2,7,36,40])],ret := [6] }
def q_batch_Next : List (Nat × List (List Nat)) := qx [(2,[[],[],[],[1002],[1002],[],[],[]]),(3,[[],[],[0,1],[0,1],[0,1],[]])]
def c_batch_Next : ACode := vl (x := codeC Try.prog Try.f31 h_batch_Next q_batch_Next [])
def r_batch_Next : List ARes := [.c 6 true 63]
def fn_batch_Next : AFn := .code c_batch_Next r_batch_Next 41 true
def h_slices_Clip_api_Result : Hints := { kill := kx [(0,[2]),(1,[0,3008])],ret := [2] }
def c_slices_Clip_api_Result : ACode := vl (x := codeC Try.prog Try.f53 h_slices_Clip_api_Result [] [])
def r_slices_Clip_api_Result : List ARes := [.t 2]
def fn_slices_Clip_api_Result : AFn := .code c_slices_Clip_api_Result r_slices_Clip_api_Result 9 false
end Go.Proofs.Ytadnfmkdmknmhaa
