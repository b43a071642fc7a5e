/-
  Part of the calculus in which the claim is proved: Functions of the program, as the calculus has them
-/
import Derived.Test.YtcjncbkhbllchaaGreatB704729f
import Derived.Test.YtcjncbkhbllchaaGreatProg
set_option linter.unusedSimpArgs false
set_option linter.unusedVariables false
set_option maxHeartbeats 10000000
set_option maxRecDepth 100000
namespace Go.Proofs.YtcjncbkhbllchaaGreat
open Go Go.Sim
def z8Y : Hints := { kill := kx [(0,[2]),(1,[0,19,20]),(2,[21,22]),(3,[3,23033]),(4,[34049]),(5,[8,50]),(6,[4007,51057]),(7,[51]),(8,[58060]),(9,[11,62,63,151,212]),(10,[61,64068]),(11,[10,69075]),(12,[76,77]),(13,[78081]),(14,[82086]),(15,[87091]),(16,[12014,92147]),(17,[4007,9,11,148]),(18,[148150]),(19,[151161]),(20,[162173]),(21,[11,15018,174211]),(22,[4007,9,212]),(23,[4007,9,61,213])],obj := [(22,[true]),(24,[true,false,false]),(26,[true,false]),(28,[true,false]),(30,[true,false]),(32,[true,false,false])],exit := [(1,[4,5,6,7,9])],ret := [2] }
def zem : List (Nat × List (List Nat)) := qx [(12,[[],[0],[0,1],[1002],[1],[]]),(21,[[],[],[],[],[],[],[],[],[7],[7,8],[7,8],[8010],[8010],[],[],[],[],[16],[16,17],[16,17],[17019],[17019],[],[],[],[],[],[25,26],[],[],[],[],[],[],[],[33,34],[],[],[]])]
@[irreducible] def l_law07_ShardLeases_0 : ACode := vl (x := codeL Tryz.prog Tryz.f3 z8Y zem 0 [])
def zeW : ACode := vl (x := codeC Tryz.prog Tryz.f3 z8Y zem [l_law07_ShardLeases_0])
def zb0 : AFn := .code zeW [.t 2] 214 true
def zc9 : Hints := { kill := kx [(0,[2]),(1,[3,4]),(2,[5007]),(3,[0,5,8010])],ret := [2] }
def z6C : ACode := vl (x := codeC Tryz.prog Tryz.f7 zc9 [] [])
def z7c : AFn := .code z6C [.t 2] 11 false
def zck : Hints := { kill := kx [(1,[5009]),(2,[0,3,4,10013])],obj := [(7,[true]),(13,[true,false,false])],ret := [2] }
def z9T : ACode := vl (x := codeC Tryz.prog Tryz.f8 zck [] [])
def z7l : AFn := .code z9T [.c 2 true 8] 14 true
def zcl : Hints := { kill := kx [(0,[2,3]),(1,[6008]),(2,[0,9011]),(3,[4,5,12017])],obj := [(8,[true,false]),(11,[true,false])],ret := [2,3] }
def z3B : ACode := vl (x := codeC Tryz.prog Tryz.f34 zcl [] [])
def z4b : AFn := .code z3B [.t 2, .t 3] 18 true
def zch : Hints := { kill := kx [(0,[4]),(1,[0,1,5011])],obj := [(9,[true,false])],ret := [4] }
def z6G : ACode := vl (x := codeC Tryz.prog Tryz.f17 zch [] [])
def z7i : AFn := .code z6G [.t 4] 12 true
def zcg : Hints := { kill := kx [(0,[4]),(1,[6]),(2,[0,1,7]),(3,[0,7011]),(4,[12]),(5,[1,13016]),(6,[1,5,13,17])],obj := [(9,[true])],ret := [4] }
def z6E : ACode := vl (x := codeC Tryz.prog Tryz.f10 zcg [] [])
def z7g : AFn := .code z6E [.t 4] 18 true
def zcj : Hints := { kill := kx [(0,[2]),(1,[3011]),(2,[0,12]),(3,[12019]),(4,[0,20030])],ret := [2] }
def ziQ : List (Nat × List (List Nat)) := qx [(1,[[],[],[],[],[1003],[1003],[1003],[1003],[1003],[]]),(4,[[],[],[],[],[1003],[1003],[1003],[1003],[1003],[],[],[]])]
def z6H : ACode := vl (x := codeC Tryz.prog Tryz.f36 zcj ziQ [])
def z7k : AFn := .code z6H [.t 2] 31 true
def zca : Hints := { kill := kx [(1,[0,1,2,7010])],obj := [(10,[true,false,false,false])],ret := [6] }
def z9Q : ACode := vl (x := codeC Tryz.prog Tryz.f35 zca [] [])
def z47 : AFn := .code z9Q [.c 6 true 8] 11 true
def zcb : Hints := { kill := kx [(1,[0,1003,9015])],obj := [(11,[true,false,false]),(15,[true,false,false,false,false])],ret := [8] }
def z9R : ACode := vl (x := codeC Tryz.prog Tryz.f87 zcb [] [])
def z48 : AFn := .code z9R [.c 8 true 8] 16 true
def zci : Hints := { kill := kx [(0,[6]),(1,[0,1,2,7014])],obj := [(13,[true,false])],ret := [6] }
def z9S : ACode := vl (x := codeC Tryz.prog Tryz.f9 zci [] [])
def z7j : AFn := .code z9S [.t 6] 15 true
def zcc : Hints := { kill := kx [(1,[14,15]),(2,[0,1004,12,16021]),(3,[11,22]),(4,[1,16,23031]),(5,[0,2004,32047]),(6,[13,48])],obj := [(15,[true,false]),(30,[true,false,false,false,false,false]),(46,[true,false,false,false,false])],ret := [10] }
def z31 : ACode := vl (x := codeC Tryz.prog Tryz.f146 zcc [] [])
def z49 : AFn := .code z31 [.c 10 true 8] 49 true
def zdm : Hints := { kill := kx [(0,[3]),(1,[0,6010]),(2,[11]),(3,[4,5,12014]),(4,[4,5,12,15,16])],ret := [2,3] }
def zaA : ACode := vl (x := codeC Tryz.prog Tryz.f177 zdm [] [])
def z55 : AFn := .code zaA [.c 2 true 8, .t 3] 17 true
def zd3 : Hints := { kill := kx [(0,[3]),(1,[4008]),(2,[0,9,10]),(3,[0,9,11013])],ret := [2,3] }
def zao : ACode := vl (x := codeC Tryz.prog Tryz.f200 zd3 [] [])
def z4Q : AFn := .code zao [.c 2 true 3, .t 3] 14 true
def z8S : Hints := { kill := kx [(1,[1,14,16020]),(2,[21026]),(3,[2,27034]),(4,[35]),(5,[37,38]),(6,[36,39,40]),(7,[41051]),(8,[41,52061]),(9,[62,63]),(10,[0,3005,13,15,36,64])],obj := [(25,[true,false]),(34,[true,false]),(40,[true,false]),(48,[true,false,false,false]),(58,[true,false,false,false])],exit := [(0,[12,13])],ret := [12] }
def zei : List (Nat × List (List Nat)) := qx [(7,[[],[0],[0,1],[1002],[1003],[0],[],[],[],[8],[9]]),(8,[[],[0],[0,1],[1002],[1003],[0],[],[],[],[8],[9]])]
@[irreducible] def l_base_Src_RingOf_0 : ACode := vl (x := codeL Tryz.prog Tryz.f178 z8S zei 0 [])
def z6I : ACode := vl (x := codeC Tryz.prog Tryz.f178 z8S zei [l_base_Src_RingOf_0])
def z4a : AFn := .code z6I [.c 12 true 3] 65 true
def zce : Hints := { kill := kx [(1,[1003,10024]),(2,[25030]),(3,[0,31,32]),(4,[33,34]),(5,[9,33,35])],obj := [(17,[true,false]),(19,[true,false]),(21,[true,false]),(23,[true]),(28,[true,false]),(32,[true,false])],ret := [8] }
def ziO : List (Nat × List (List Nat)) := qx [(2,[[],[],[0,1],[0,1],[],[],[]])]
def z32 : ACode := vl (x := codeC Tryz.prog Tryz.f33 zce ziO [])
def z7f : AFn := .code z32 [.c 8 true 7] 36 true
def zcU : Hints := { kill := kx [(0,[2]),(1,[6010]),(2,[0,11]),(3,[0,4,11016]),(4,[3,17,18]),(5,[5,19023])],ret := [2] }
def z3J : ACode := vl (x := codeC Tryz.prog Tryz.f86 zcU [] [])
def z7y : AFn := .code z3J [.t 2] 24 true
def z92 : Hints := { kill := kx [(0,[6,7]),(1,[10026]),(2,[0,1,2,27]),(3,[0,27029]),(4,[2,30,31]),(5,[32]),(6,[34,35]),(7,[33,36044]),(8,[1,8,9,33,45])],exit := [(0,[8])],ret := [6,7] }
@[irreducible] def l_ref01_Put_0 : ACode := vl (x := codeL Tryz.prog Tryz.f144 z92 [] 0 [])
def zaj : ACode := vl (x := codeC Tryz.prog Tryz.f144 z92 [] [l_ref01_Put_0])
def z4J : AFn := .code zaj [.t 6, .t 7] 46 true
def z93 : Hints := { kill := kx [(0,[2]),(3,[5007]),(4,[9,10]),(5,[8,11019]),(6,[0,3,4,8,20])],exit := [(0,[3])],ret := [2] }
@[irreducible] def l_ref02_Sum_0 : ACode := vl (x := codeL Tryz.prog Tryz.f145 z93 [] 0 [])
def zak : ACode := vl (x := codeC Tryz.prog Tryz.f145 z93 [] [l_ref02_Sum_0])
def z4K : AFn := .code zak [.t 2] 21 true
def zcT : Hints := { kill := kx [(0,[6]),(1,[7024]),(2,[0,1,2,25]),(3,[25032]),(4,[0,1,2,33,34]),(5,[0,1,2,33,35042])],ret := [6] }
def z36 : ACode := vl (x := codeC Tryz.prog Tryz.f85 zcT [] [])
def z7x : AFn := .code z36 [.t 6] 43 true
def z8R : Hints := { kill := kx [(0,[2]),(1,[5007]),(3,[8010]),(4,[12,13]),(5,[11,14020]),(6,[0,3,4,11,21,22])],ghost := [(6,[15])],obj := [(6,[true,false]),(17,[true,false])],exit := [(0,[3])],ret := [2] }
@[irreducible] def l_base_Src_Body_0 : ACode := vl (x := codeL Tryz.prog Tryz.f84 z8R [] 0 [])
def z6D : ACode := vl (x := codeC Tryz.prog Tryz.f84 z8R [] [l_base_Src_Body_0])
def z7d : AFn := .code z6D [.t 2] 23 true
def zd4 : Hints := { kill := kx [(0,[0,1,5]),(1,[7009]),(2,[10]),(3,[2,3,6,11013]),(4,[2,3,6,11,14022])],obj := [(22,[false,false,false,true])],ret := [4,5] }
def ziZ : List (Nat × List (List Nat)) := qx [(4,[[],[0],[0],[1002],[1002],[1004],[1004],[1002],[],[],[]])]
def z6O : ACode := vl (x := codeC Tryz.prog Tryz.f133 zd4 ziZ [])
def z7E : AFn := .code z6O [.c 4 true 3, .t 5] 23 true
def zd8 : Hints := { kill := kx [(0,[0,1,4]),(1,[7,8]),(2,[9]),(3,[2,3,5,10,11]),(4,[5,10,12,13]),(5,[14]),(6,[2,3,6,15,16]),(7,[6,15,17021]),(8,[2,3,22]),(9,[2,3,22027]),(10,[28]),(11,[28])],ret := [4] }
def zj2 : List (Nat × List (List Nat)) := qx [(9,[[],[],[0,1],[0,1],[],[]])]
def z1b : ACode := vl (x := codeC Tryz.prog Tryz.f170 zd8 zj2 [])
def z4U : AFn := .code z1b [.t 4] 29 true
def z6t : ACode :=
 (.seq (.seq (.ops [] [oM 42 4, oM 43 3, oP 44 (.bin .lss (.t 42) (.t 43))] [42, 43])
 (.cond (.t 44) .skip (.exit 0 [1])))
 (.seq (.block 1 (.seq (.draw [] [oP 47 (.fad false 0 1 (.t 1)), oP 48 (.ld false 1 (.t 47)), oP 49 (.fad false 1 1 (.t 1)), oP 50 (.ld false 1 (.t 49)), oM 51 4, oP 52 (.bin .add (.t 50) (.t 51)), oM 53 3, oP 54 (.bin .rem (.t 52) (.t 53)), oP 55 (.iad 7 (.t 48) (.t 54)), oP 56 (.ld true 7 (.t 55)), oP 57 (.build [aI 0, aI 0, aI 0, aI 0, aI 0, aI 0, .d (.str [])] []), oP 58 (.eqs true 7 [(0, 0), (1, 0), (2, 0), (3, 0), (4, 0), (5, 0), (6, 2)] (.t 56) (.t 57))] [[], [], [0, 1], [0, 1], [0, 1, 2, 3], [0, 1], [0, 1, 2, 3, 4, 5], [0, 1], [], [], [0, 1, 2, 3, 4, 5, 6, 7, 8, 9], []] [44, 47, 48, 49, 50, 51, 52, 53, 54, 55, 56, 57])
 (.cond (.t 58) (.seq (.ops [] [oP 2 (.mv (kI 7))] [1, 3, 4, 58])
 (.ret [2])) .skip)))
 (.ops [] [oM 45 4, oP 46 (.bin .add (.t 45) (kI 1)), oM 4 46] [45, 46, 58])))
def z6u : ACode :=
 (.seq (.seq (.ops [] [oM 61 6, oM 62 5, oP 63 (.len (.t 62)), oP 64 (.bin .lss (.t 61) (.t 63))] [61, 62, 63])
 (.cond (.t 64) .skip (.exit 2 [5])))
 (.seq (.block 3 (.seq (.ops [] [oM 67 5, oM 68 6, oP 69 (.iad 7 (.t 67) (.t 68)), oP 70 (.ld true 7 (.t 69)), oP 71 (.call zJ [] [.t 70]), oM 7 71] [64, 67, 68, 69, 70, 71])
 (.seq (.ops [] [oM 72 7, oP 73 (.bin .neq (.t 72) (kI 0))] [72])
 (.cond (.t 73) (.seq (.ops [] [oM 74 7, oM 2 74] [5, 6, 7, 73, 74])
 (.ret [2])) .skip))))
 (.ops [] [oM 65 6, oP 66 (.bin .add (.t 65) (kI 1)), oM 6 66] [7, 65, 66, 73])))
def z6v : ACode :=
 (.seq (.seq (.ops [] [oM 75 8, oM 76 5, oP 77 (.len (.t 76)), oP 78 (.bin .lss (.t 75) (.t 77))] [75, 76, 77])
 (.cond (.t 78) .skip (.exit 4 [])))
 (.seq (.block 5 (.seq (.ops [] [oM 81 5, oM 82 5, oM 83 8, oP 84 (.iad 7 (.t 82) (.t 83)), oP 85 (.fad false 0 1 (.t 84)), oP 86 (.ld false 1 (.t 85)), oP 87 (.call zG [] [.t 81, .t 86]), oM 88 8, oP 89 (.bin .neq (.t 87) (.t 88))] [78, 81, 82, 83, 84, 85, 86, 87, 88])
 (.cond (.t 89) (.seq (.ops [] [oP 2 (.mv (kI 10))] [5, 8, 89])
 (.ret [2])) .skip)))
 (.ops [] [oM 79 8, oP 80 (.bin .add (.t 79) (kI 1)), oM 8 80] [79, 80, 89])))
def z0u : ACode :=
 (.seq (.ops [] [oP 1 (.box (.t 0)), oP 2 (.mv (kI 0))] [0, 2])
 (.seq (.ops [] [oP 9 (.fad false 0 1 (.t 1)), oP 10 (.ld false 1 (.t 9)), oP 11 (.len (.t 10)), oM 3 11] [9, 10, 11])
 (.seq (.seq (.ops [] [oM 12 3, oP 13 (.bin .lss (.t 12) (kI 1)), oM 14 13, oQ 15 (.mv (.t 3)) 14 false, oQ 16 (.bin .gtr (.t 15) (kI 12)) 14 false, oP 17 (.pick (.t 14) (.c (.d (.bool true))) (.t 16)), oM 18 17, oQ 19 (.fad false 1 1 (.t 1)) 18 false, oQ 20 (.ld false 1 (.t 19)) 18 false, oQ 21 (.bin .lss (.t 20) (kI 0)) 18 false, oP 22 (.pick (.t 18) (.c (.d (.bool true))) (.t 21)), oM 23 22, oQ 24 (.fad false 1 1 (.t 1)) 23 false, oQ 25 (.ld false 1 (.t 24)) 23 false, oQ 26 (.mv (.t 3)) 23 false, oQ 27 (.bin .geq (.t 25) (.t 26)) 23 false, oP 28 (.pick (.t 23) (.c (.d (.bool true))) (.t 27)), oM 29 28, oQ 30 (.fad false 2 1 (.t 1)) 29 false, oQ 31 (.ld false 1 (.t 30)) 29 false, oQ 32 (.bin .lss (.t 31) (kI 0)) 29 false, oP 33 (.pick (.t 29) (.c (.d (.bool true))) (.t 32)), oM 34 33, oQ 35 (.fad false 2 1 (.t 1)) 34 false, oQ 36 (.ld false 1 (.t 35)) 34 false, oQ 37 (.mv (.t 3)) 34 false, oQ 38 (.bin .gtr (.t 36) (.t 37)) 34 false, oP 39 (.pick (.t 34) (.c (.d (.bool true))) (.t 38))] [12, 13, 14, 15, 16, 17, 18, 19, 20, 21, 22, 23, 24, 25, 26, 27, 28, 29, 30, 31, 32, 33, 34, 35, 36, 37, 38])
 (.cond (.t 39) (.seq (.ops [] [oP 2 (.mv (kI 1))] [1, 3, 39])
 (.ret [2])) .skip))
 (.seq (.seq (.ops [] [oP 40 (.fad false 2 1 (.t 1)), oP 41 (.ld false 1 (.t 40)), oM 4 41] [39, 40, 41])
 (.block 0 (.loop [] z6t)))
 (.seq (.ops [] [oP 59 (.ld true 3 (.t 1)), oP 60 (.call z0Q [] [.t 59]), oM 5 60] [1, 3, 4, 44, 59, 60])
 (.seq (.seq (.ops [] [oP 6 (.mv (kI 0))] [])
 (.block 2 (.loop [] z6u)))
 (.seq (.seq (.ops [] [oP 8 (.mv (kI 0))] [6, 64])
 (.block 4 (.loop [] z6v)))
 (.seq (.ops [] [oP 2 (.mv (kI 0))] [5, 8, 78])
 (.ret [2])))))))))
def z4S : AFn := .code z0u [.t 2] 90 true
def z95 : Hints := { kill := kx [(0,[0,2]),(3,[5007]),(4,[9,10]),(5,[8,11025]),(6,[1,3,4,8,26])],acc := [3],exit := [(0,[3])],ret := [2] }
def zep : List (Nat × List (List Nat)) := qx [(5,[[],[0],[0],[1002],[1002],[1004],[1002],[1006],[1006],[1006],[1002],[0],[0],[0],[],[]])]
@[irreducible] def l_ref04_order_0 : ACode := vl (x := codeL Tryz.prog Tryz.f122 z95 zep 0 [])
def zaq : ACode := vl (x := codeC Tryz.prog Tryz.f122 z95 zep [l_ref04_order_0])
def z4T : AFn := .code zaq [.t 2] 27 false
def zcZ : Hints := { kill := kx [(0,[0,2]),(1,[3037]),(2,[1,38]),(3,[1,38041]),(4,[42]),(5,[42])],ret := [2] }
def z3K : ACode := vl (x := codeC Tryz.prog Tryz.f123 zcZ [] [])
def z7C : AFn := .code z3K [.t 2] 43 true
def zd1 : Hints := { kill := kx [(0,[6]),(1,[0,1,2,7014])],ret := [6] }
def z3L : ACode := vl (x := codeC Tryz.prog Tryz.f166 zd1 [] [])
def z4P : AFn := .code z3L [.t 6] 15 true
def z94 : Hints := { kill := kx [(0,[4]),(2,[6008]),(3,[10,11,18]),(4,[9,12017]),(5,[0,1,5,18,19]),(6,[0,1,5,9])],ret := [4] }
@[irreducible] def l_ref03_Index_0 : ACode := vl (x := codeL Tryz.prog Tryz.f20 z94 [] 0 [])
def z6M : ACode := vl (x := codeC Tryz.prog Tryz.f20 z94 [] [l_ref03_Index_0])
def z7z : AFn := .code z6M [.t 4] 20 true
def z96 : Hints := { kill := kx [(0,[0]),(1,[3,9016]),(3,[17019]),(4,[21,22]),(5,[20,23036]),(6,[1,2,7,8,20,37])],exit := [(0,[6,7])],ret := [6] }
def zeq : List (Nat × List (List Nat)) := qx [(5,[[],[],[0,1],[1002],[0,1],[1004],[1004],[1004],[0,1],[1008],[1009],[1008],[1008],[],[]])]
@[irreducible] def l_ref04_with_0 : ACode := vl (x := codeL Tryz.prog Tryz.f171 z96 zeq 0 [])
def zar : ACode := vl (x := codeC Tryz.prog Tryz.f171 z96 zeq [l_ref04_with_0])
def z4V : AFn := .code zar [.c 6 true 3] 38 true
def zd5 : Hints := { kill := kx [(0,[0,1,5]),(1,[8010]),(2,[11]),(3,[2,3,6,12014]),(4,[6,12,15017]),(5,[2,3,7,18031])],obj := [(31,[false,false,false,true])],ret := [4,5] }
def zj0 : List (Nat × List (List Nat)) := qx [(5,[[],[0],[0],[1002],[0],[0],[1005],[0],[1007],[1007],[1009],[1009],[1007],[],[],[]])]
def z3M : ACode := vl (x := codeC Tryz.prog Tryz.f142 zd5 zj0 [])
def z7F : AFn := .code z3M [.c 4 true 3, .t 5] 32 true
def z8T : Hints := { kill := kx [(2,[1,14017]),(3,[18]),(4,[20,21]),(5,[19,22026]),(6,[27030]),(7,[13,31038]),(8,[39042]),(9,[0,2004,11,12,19,43])],obj := [(17,[true,false]),(26,[true,false,false,false]),(35,[true,false]),(41,[true,false,false])],exit := [(0,[10,11])],ret := [10] }
def zej : List (Nat × List (List Nat)) := qx [(7,[[],[0],[0,1],[0,1],[],[],[],[6],[7]])]
@[irreducible] def l_base_Src_Table_0 : ACode := vl (x := codeL Tryz.prog Tryz.f179 z8T zej 0 [])
def z6J : ACode := vl (x := codeC Tryz.prog Tryz.f179 z8T zej [l_base_Src_Table_0])
def z4c : AFn := .code z6J [.c 10 true 2] 44 true
def z9a : Hints := { kill := kx [(0,[0,1,7]),(1,[14,15]),(2,[16]),(3,[2004,8,17019]),(4,[8,17,20,21]),(5,[22]),(6,[2004,9,23025]),(7,[9,23,27029]),(8,[2004,26,30]),(9,[26,32037]),(10,[2004,31,38]),(11,[31,40043]),(12,[2004,39,44]),(13,[39,46050]),(14,[2004,45,51]),(15,[45]),(16,[52067]),(17,[68070]),(18,[12,68,71080]),(19,[2,4,81090]),(20,[3,10,11,13,91098])],exit := [(1,[2,3,4,6,10])],ret := [6,7] }
def zet : List (Nat × List (List Nat)) := qx [(16,[[],[0],[0],[0],[],[],[],[],[6,7],[],[],[],[],[7012],[7012],[],[]]),(19,[[],[],[0,1],[],[],[1004],[1005],[1004],[1004],[],[]])]
@[irreducible] def l_ref06_Grant_0 : ACode := vl (x := codeL Tryz.prog Tryz.f139 z9a zet 0 [])
def zw : ACode := vl (x := codeC Tryz.prog Tryz.f139 z9a zet [l_ref06_Grant_0])
def z7N : AFn := .code zw [.c 6 true 2, .t 7] 99 true
def z6o : Hints := { kill := kx [(0,[0,2]),(1,[9011]),(2,[1,12]),(3,[12]),(4,[13016]),(5,[18,19,45]),(6,[17,20024]),(7,[25027]),(8,[28]),(9,[1,3005,29,30]),(10,[5,29,32035]),(11,[1,3,4,31]),(12,[31,37044]),(13,[1,3,4,36]),(14,[4,36,46061]),(15,[1,3,45]),(16,[3,17,62064]),(17,[65]),(18,[1,6,66,67]),(19,[6,66,68073]),(20,[1,74]),(21,[74]),(22,[75078]),(23,[80,81,106]),(24,[79,82089]),(25,[8,90105]),(26,[1,7,106]),(27,[1,7,79])],exit := [(0,[1])],ret := [2] }
def z9x : List (Nat × List (List Nat)) := qx [(14,[[],[],[],[],[],[],[4005],[4005],[4007],[4007],[4005],[4005],[4005],[4005],[],[],[]]),(24,[[],[0],[0],[1002],[0],[0],[0],[],[]]),(25,[[],[],[],[],[],[3,4],[],[],[],[4008],[4008],[4010],[4008],[4008],[4008],[],[]])]
@[irreducible] def l_ref06_Validate_0 : ACode := vl (x := codeL Tryz.prog Tryz.f69 z6o z9x 0 [])
@[irreducible] def l_ref06_Validate_1 : ACode := vl (x := codeL Tryz.prog Tryz.f69 z6o z9x 1 [])
def z0v : ACode := vl (x := codeC Tryz.prog Tryz.f69 z6o z9x [l_ref06_Validate_0, l_ref06_Validate_1])
def z7R : AFn := .code z0v [.t 2] 107 true
def z3z : Hints := { kill := kx [(0,[2]),(1,[6,7]),(2,[0,8]),(3,[8]),(4,[9011]),(5,[13,14,20]),(6,[12,15019]),(7,[0,3,20]),(8,[3,12]),(9,[21023]),(10,[25,26,35]),(11,[24,27034]),(12,[0,4,35]),(13,[4,24]),(14,[36038]),(15,[40,41,52]),(16,[39,42051]),(17,[0,5,52]),(18,[0,5,39])],exit := [(0,[0]),(2,[0])],ret := [2] }
def z6y : List (Nat × List (List Nat)) := qx [(16,[[],[0],[],[],[1003],[1004],[1004],[1004],[1003],[1003],[]])]
@[irreducible] def l_ref05_Validate_0 : ACode := vl (x := codeL Tryz.prog Tryz.f124 z3z z6y 0 [])
@[irreducible] def l_ref05_Validate_1 : ACode := vl (x := codeL Tryz.prog Tryz.f124 z3z z6y 1 [])
@[irreducible] def l_ref05_Validate_2 : ACode := vl (x := codeL Tryz.prog Tryz.f124 z3z z6y 2 [])
def zas : ACode := vl (x := codeC Tryz.prog Tryz.f124 z3z z6y [l_ref05_Validate_0, l_ref05_Validate_1, l_ref05_Validate_2])
def z7K : AFn := .code zas [.t 2] 53 true
def zdd : Hints := { kill := kx [(0,[0,2]),(1,[1,3020])],ret := [2] }
def zav : ACode := vl (x := codeC Tryz.prog Tryz.f167 zdd [] [])
def z50 : AFn := .code zav [.t 2] 21 true
def z98 : Hints := { kill := kx [(0,[4]),(2,[6008]),(3,[10,11,18]),(4,[9,12017]),(5,[0,1,5,18,19]),(6,[0,1,5,9])],ret := [4] }
@[irreducible] def l_ref05_index_0 : ACode := vl (x := codeL Tryz.prog Tryz.f168 z98 [] 0 [])
def zau : ACode := vl (x := codeC Tryz.prog Tryz.f168 z98 [] [l_ref05_index_0])
def z4Z : AFn := .code zau [.t 4] 20 true
def zdb : Hints := { kill := kx [(0,[0,1,4]),(1,[2,3,5023])],ret := [4] }
def zat : ACode := vl (x := codeC Tryz.prog Tryz.f169 zdb [] [])
def z4W : AFn := .code zat [.t 4] 24 true
def z9b : Hints := { kill := kx [(0,[0,4]),(2,[6009]),(3,[11,12,21]),(4,[10,13020]),(5,[1,2,5,21,22]),(6,[1,2,5,10])],ret := [4] }
@[irreducible] def l_ref06_find_0 : ACode := vl (x := codeL Tryz.prog Tryz.f125 z9b [] 0 [])
def z6Q : ACode := vl (x := codeC Tryz.prog Tryz.f125 z9b [] [l_ref06_find_0])
def z7S : AFn := .code z6Q [.t 4] 23 true
def zd9 : Hints := { kill := kx [(0,[1,4,5]),(1,[7,8]),(2,[9]),(3,[0,3,6,10,11]),(4,[6,10,13015]),(5,[0,3,12]),(6,[12,17019]),(7,[0,3,16]),(8,[16,21025]),(9,[0,3,20]),(10,[0,3,20,26033])],obj := [(33,[false,false,true])],ret := [4,5] }
def zj3 : List (Nat × List (List Nat)) := qx [(10,[[],[],[0,1],[0,1],[],[1004],[1004],[],[],[]])]
def z1c : ACode := vl (x := codeC Tryz.prog Tryz.f175 zd9 zj3 [])
def z7H : AFn := .code z1c [.t 4, .t 5] 34 true
def z99 : Hints := { kill := kx [(0,[4]),(1,[5018]),(2,[19025]),(3,[26028]),(4,[0,1,19,29])],exit := [(0,[0])],ret := [4] }
def zes : List (Nat × List (List Nat)) := qx [(1,[[],[],[],[],[3],[],[],[4006],[4007],[4007],[4007],[4006],[4006],[],[]])]
@[irreducible] def l_ref05_up_0 : ACode := vl (x := codeL Tryz.prog Tryz.f198 z99 zes 0 [])
def zax : ACode := vl (x := codeC Tryz.prog Tryz.f198 z99 zes [l_ref05_up_0])
def z52 : AFn := .code zax [.t 4] 30 true
def zde : Hints := { kill := kx [(0,[6]),(1,[8,9]),(2,[0,1,2,10023]),(3,[7,24])],ghost := [(2,[18])],ret := [6] }
def zj5 : List (Nat × List (List Nat)) := qx [(2,[[],[0],[0,1],[1002],[1003],[1004],[1003],[1003],[1007],[1008],[1007],[1007],[2,3],[2,3],[],[]])]
def zaw : ACode := vl (x := codeC Tryz.prog Tryz.f213 zde zj5 [])
def z51 : AFn := .code zaw [.t 6] 25 true
def z9h : Hints := { kill := kx [(0,[0,13,14]),(1,[21033]),(2,[34]),(3,[1006,15,35037]),(4,[15,35,38040]),(5,[1006,41,42]),(6,[41,43,44]),(8,[45,46]),(10,[50052]),(11,[53062]),(12,[18,63071]),(13,[72]),(14,[1006,16,19,20,47049,73075]),(15,[19,20,73,76079]),(16,[18,63,80]),(17,[1006,16,47050,81,82])],obj := [(69,[true,false,false])],acc := [16],exit := [(0,[6,12,16]),(1,[1,2,3,4,5,6,12,16,47,48,49])],ret := [12,13,14] }
def zex : List (Nat × List (List Nat)) := qx [(1,[[],[0],[0],[1002],[0],[1004],[0],[1006],[0],[1008],[0],[0],[],[]])]
@[irreducible] def l_shard_Take_0 : ACode := vl (x := codeL Tryz.prog Tryz.f11 z9h zex 0 [])
def z3f : ACode := vl (x := codeC Tryz.prog Tryz.f11 z9h zex [l_shard_Take_0])
def z5x : AFn := .code z3f [.c 12 true 8, .t 13, .t 14] 83 true
def zdY : Hints := { kill := kx [(0,[2]),(1,[0,3,4])],ret := [2] }
def z72 : ACode := vl (x := codeC Tryz.prog Tryz.f38 zdY [] [])
def z5B : AFn := .code z72 [.t 2] 5 true
def zdX : Hints := { kill := kx [(0,[6]),(1,[0,1,2,7014])],ret := [6] }
def z41 : ACode := vl (x := codeC Tryz.prog Tryz.f42 zdX [] [])
def z8a : AFn := .code z41 [.t 6] 15 true
def zdZ : Hints := { kill := kx [(0,[2]),(1,[0,3,4])],ret := [2] }
def z73 : ACode := vl (x := codeC Tryz.prog Tryz.f39 zdZ [] [])
def z5C : AFn := .code z73 [.t 2] 5 true
def ze0 : Hints := { kill := kx [(0,[2]),(1,[0,3,4])],ret := [2] }
def zaP : ACode := vl (x := codeC Tryz.prog Tryz.f40 ze0 [] [])
def z5D : AFn := .code zaP [.t 2] 5 true
def ze1 : Hints := { kill := kx [(0,[2]),(1,[0,3,4])],ret := [2] }
def zaQ : ACode := vl (x := codeC Tryz.prog Tryz.f41 ze1 [] [])
def z5E : AFn := .code zaQ [.t 2] 5 true
def ze9 : Hints := { kill := kx [(0,[0,4]),(1,[2,6,7]),(2,[8]),(3,[1,5,9,10]),(4,[1,5,9,11]),(5,[12]),(6,[12])],ret := [4] }
def z0A : ACode := vl (x := codeC Tryz.prog Tryz.f37 ze9 [] [])
def z8g : AFn := .code z0A [.t 4] 13 true
def ze2 : Hints := { kill := kx [(0,[0,2]),(1,[4,5]),(2,[6]),(3,[1,3,7,8]),(4,[1,3,7,9,10]),(5,[11]),(6,[11])],ret := [2] }
def z42 : ACode := vl (x := codeC Tryz.prog Tryz.f56 ze2 [] [])
def z8b : AFn := .code z42 [.t 2] 12 true
def z9i : Hints := { kill := kx [(0,[0,2]),(1,[9011]),(2,[12]),(3,[1,3,13,14]),(4,[3,13,15017]),(5,[18]),(6,[1,4,19,20]),(7,[4,19,21,22]),(8,[1,23035]),(9,[36]),(10,[36]),(11,[23,38043]),(12,[1,37]),(13,[37,45051]),(14,[1,44]),(15,[44,52]),(17,[53]),(19,[57059]),(20,[60066]),(21,[1,5,6,8,54056,67]),(22,[67074]),(23,[8,75077]),(24,[78]),(25,[1,5,6,54057]),(26,[79]),(27,[79])],exit := [(1,[6])],ret := [2] }
def zey : List (Nat × List (List Nat)) := qx [(13,[[],[],[0,1],[0,1],[0,1],[0,1],[],[]])]
@[irreducible] def l_shard_Validate_0 : ACode := vl (x := codeL Tryz.prog Tryz.f54 z9i zey 0 [])
def zi : ACode := vl (x := codeC Tryz.prog Tryz.f54 z9i zey [l_shard_Validate_0])
def z88 : AFn := .code zi [.t 2] 80 true
def z6w : ACode :=
 (.seq (.seq (.ops [] [oM 43 4, oM 44 3, oP 45 (.bin .lss (.t 43) (.t 44))] [43, 44])
 (.cond (.t 45) .skip (.exit 0 [1])))
 (.seq (.block 1 (.seq (.draw [] [oP 48 (.fad false 0 1 (.t 1)), oP 49 (.ld false 1 (.t 48)), oP 50 (.ld true 3 (.t 1)), oM 51 4, oP 52 (.call z0S [] [.t 50, .t 51]), oP 53 (.iad 7 (.t 49) (.t 52)), oP 54 (.ld true 7 (.t 53)), oP 55 (.build [aI 0, aI 0, aI 0, aI 0, aI 0, aI 0, .d (.str [])] []), oP 56 (.eqs true 7 [(0, 0), (1, 0), (2, 0), (3, 0), (4, 0), (5, 0), (6, 2)] (.t 54) (.t 55))] [[], [], [0, 1], [0, 1, 2], [0, 1], [], [], [0, 1, 2, 3, 4, 5, 6], []] [45, 48, 49, 50, 51, 52, 53, 54, 55])
 (.cond (.t 56) (.seq (.ops [] [oP 2 (.mv (kI 7))] [1, 3, 4, 56])
 (.ret [2])) .skip)))
 (.ops [] [oM 46 4, oP 47 (.bin .add (.t 46) (kI 1)), oM 4 47] [46, 47, 56])))
def z6x : ACode :=
 (.seq (.ops [] [oP 62 (.bin .lss (.t 61) (.t 60))] [])
 (.seq (.cond (.t 62) .skip (.exit 2 [6]))
 (.seq (.block 3 (.seq (.ops [] [oP 63 (.iad 7 (.t 59) (.t 61)), oP 64 (.ld true 7 (.t 63)), oP 8 (.alloc (.d (.agg [.int .i64 0, .int .i64 0, .int .i64 0, .int .i64 0, .int .i64 0, .int .i64 0, .str []]))), oN (.st 7 (.t 8) (.t 64))] [62, 63, 64])
 (.seq (.seq (.ops [] [oP 65 (.ld true 7 (.t 8)), oP 66 (.call zF [] [.t 65]), oM 9 66] [65, 66])
 (.seq (.ops [] [oM 67 9, oP 68 (.bin .neq (.t 67) (kI 0))] [67])
 (.cond (.t 68) (.seq (.ops [] [oM 69 9, oM 2 69] [5, 6, 8, 9, 59, 60, 61, 68, 69])
 (.ret [2])) .skip)))
 (.seq (.ops [] [oM 70 6, oM 71 70, oQ 72 (.mv (.t 5)) 71 false, oQ 73 (.fad false 0 1 (.t 8)) 71 false, oQ 74 (.ld false 1 (.t 73)) 71 false, oQ 75 (.lkp false (.bool false) (.t 72) (.t 74)) 71 false, oP 76 (.pick (.t 71) (.c (.d (.bool true))) (.t 75)), oM 6 76] [9, 68, 70, 71, 72, 73, 74, 75, 76])
 (.ops [] [oM 77 5, oP 78 (.fad false 0 1 (.t 8)), oP 79 (.ld false 1 (.t 78)), oN (.mup (.t 77) (.t 79) (.c (.d (.bool true))))] [8, 77, 78, 79])))))
 (.ops [] [oP 80 (.bin .add (.t 61) (kI 1)), oM 61 80] [80]))))
def z0y : ACode :=
 (.seq (.ops [] [oP 1 (.box (.t 0)), oP 2 (.mv (kI 0))] [0, 2])
 (.seq (.ops [] [oP 10 (.fad false 0 1 (.t 1)), oP 11 (.ld false 1 (.t 10)), oP 12 (.len (.t 11)), oM 3 12] [10, 11, 12])
 (.seq (.seq (.ops [] [oM 13 3, oP 14 (.bin .lss (.t 13) (kI 1)), oM 15 14, oQ 16 (.mv (.t 3)) 15 false, oQ 17 (.bin .gtr (.t 16) (kI 12)) 15 false, oP 18 (.pick (.t 15) (.c (.d (.bool true))) (.t 17)), oM 19 18, oQ 20 (.fad false 1 1 (.t 1)) 19 false, oQ 21 (.ld false 1 (.t 20)) 19 false, oQ 22 (.bin .lss (.t 21) (kI 0)) 19 false, oP 23 (.pick (.t 19) (.c (.d (.bool true))) (.t 22)), oM 24 23, oQ 25 (.fad false 1 1 (.t 1)) 24 false, oQ 26 (.ld false 1 (.t 25)) 24 false, oQ 27 (.mv (.t 3)) 24 false, oQ 28 (.bin .geq (.t 26) (.t 27)) 24 false, oP 29 (.pick (.t 24) (.c (.d (.bool true))) (.t 28)), oM 30 29, oQ 31 (.fad false 2 1 (.t 1)) 30 false, oQ 32 (.ld false 1 (.t 31)) 30 false, oQ 33 (.bin .lss (.t 32) (kI 0)) 30 false, oP 34 (.pick (.t 30) (.c (.d (.bool true))) (.t 33)), oM 35 34, oQ 36 (.fad false 2 1 (.t 1)) 35 false, oQ 37 (.ld false 1 (.t 36)) 35 false, oQ 38 (.mv (.t 3)) 35 false, oQ 39 (.bin .gtr (.t 37) (.t 38)) 35 false, oP 40 (.pick (.t 35) (.c (.d (.bool true))) (.t 39))] [13, 14, 15, 16, 17, 18, 19, 20, 21, 22, 23, 24, 25, 26, 27, 28, 29, 30, 31, 32, 33, 34, 35, 36, 37, 38, 39])
 (.cond (.t 40) (.seq (.ops [] [oP 2 (.mv (kI 1))] [1, 3, 40])
 (.ret [2])) .skip))
 (.seq (.seq (.ops [] [oP 41 (.fad false 2 1 (.t 1)), oP 42 (.ld false 1 (.t 41)), oM 4 42] [40, 41, 42])
 (.block 0 (.loop [] z6w)))
 (.seq (.ops [] [oP 57 .mkm, oM 5 57] [3, 4, 45, 57])
 (.seq (.ops [] [oP 6 (.mv (.c (.d (.bool false))))] [])
 (.seq (.seq (.ops [] [oP 58 (.ld true 3 (.t 1)), oP 59 (.call z0U [] [.t 58]), oP 60 (.len (.t 59)), oP 61 (.mv (kI 0))] [1, 58])
 (.block 2 (.loop [] z6x)))
 (.seq (.seq (.ops [] [oM 81 6] [5, 6, 59, 60, 61, 62])
 (.cond (.t 81) (.seq (.ops [] [oP 2 (.mv (kI 10))] [81])
 (.ret [2])) .skip))
 (.seq (.ops [] [oP 2 (.mv (kI 0))] [81])
 (.ret [2]))))))))))
def z85 : AFn := .code z0y [.t 2] 82 true
def zdG : Hints := { kill := kx [(0,[0,4]),(1,[1,2,5012])],ret := [4] }
def zaG : ACode := vl (x := codeC Tryz.prog Tryz.f105 zdG [] [])
def z86 : AFn := .code zaG [.t 4] 13 true
def z9e : Hints := { kill := kx [(0,[0,2]),(2,[5]),(4,[8,9]),(5,[4,10019]),(6,[20]),(7,[1,3,6008,21])],acc := [3],exit := [(0,[3])],ret := [2] }
def zeu : List (Nat × List (List Nat)) := qx [(5,[[],[0],[0],[1002],[1003],[1002],[0],[0],[0],[],[]])]
@[irreducible] def l_ring_list_0 : ACode := vl (x := codeL Tryz.prog Tryz.f93 z9e zeu 0 [])
def zaJ : ACode := vl (x := codeC Tryz.prog Tryz.f93 z9e zeu [l_ring_list_0])
def z5k : AFn := .code zaJ [.t 2] 22 false
def zcR : Hints := { kill := kx [(0,[0,2]),(1,[3037]),(2,[1,38]),(3,[1,38041]),(4,[42]),(5,[42])],ret := [2] }
def z3H : ACode := vl (x := codeC Tryz.prog Tryz.f148 zcR [] [])
def z7w : AFn := .code z3H [.t 2] 43 true
def zcS : Hints := { kill := kx [(0,[6]),(1,[0,1,2,7014])],ret := [6] }
def z3I : ACode := vl (x := codeC Tryz.prog Tryz.f180 zcS [] [])
def z4H : AFn := .code z3I [.t 6] 15 true
def z90 : Hints := { kill := kx [(0,[0,2]),(1,[7009]),(2,[1,10]),(3,[10,11]),(5,[15018]),(6,[19021]),(7,[22]),(8,[1,3005,12014,23,24]),(9,[5,23,26029]),(10,[1,3,4,12014,25]),(11,[25,31034]),(12,[1,3,4,12014,30]),(13,[3,4,30,36051]),(14,[1,12014,35]),(15,[35,52]),(16,[12015,53055]),(17,[56]),(18,[1,6,57,58]),(19,[1,6,57,59,60]),(20,[61]),(21,[61])],exit := [(0,[1])],ret := [2] }
def zeo : List (Nat × List (List Nat)) := qx [(13,[[],[],[],[],[],[],[4005],[4005],[4007],[4007],[4005],[4005],[4005],[4005],[],[],[]])]
@[irreducible] def l_lease_Validate_0 : ACode := vl (x := codeL Tryz.prog Tryz.f106 z90 zeo 0 [])
def z1a : ACode := vl (x := codeC Tryz.prog Tryz.f106 z90 zeo [l_lease_Validate_0])
def z7s : AFn := .code z1a [.t 2] 62 true
def zcK : Hints := { kill := kx [(0,[2]),(1,[0,3008])],ret := [2] }
def z3G : ACode := vl (x := codeC Tryz.prog Tryz.f116 zcK [] [])
def z7t : AFn := .code z3G [.t 2] 9 true
def z6l : Hints := { kill := kx [(0,[2]),(1,[6,7]),(2,[0,8]),(3,[8,9]),(4,[0,10]),(5,[10]),(7,[14017]),(8,[3,4,18022]),(9,[0,11013,23]),(10,[23,24]),(11,[11014]),(12,[25027]),(13,[29,30,36]),(14,[28,31035]),(15,[0,5,36]),(16,[0,5,28])],exit := [(0,[0])],ret := [2] }
@[irreducible] def l_due_Validate_0 : ACode := vl (x := codeL Tryz.prog Tryz.f153 z6l [] 0 [])
@[irreducible] def l_due_Validate_1 : ACode := vl (x := codeL Tryz.prog Tryz.f153 z6l [] 1 [])
def z9Y : ACode := vl (x := codeC Tryz.prog Tryz.f153 z6l [] [l_due_Validate_0, l_due_Validate_1])
def z7q : AFn := .code z9Y [.t 2] 37 true
def zed : Hints := { kill := kx [(0,[4]),(1,[0,1,5008])],ret := [4] }
def zaU : ACode := vl (x := codeC Tryz.prog Tryz.f185 zed [] [])
def z5L : AFn := .code zaU [.t 4] 9 true
def z9m : Hints := { kill := kx [(0,[4]),(1,[6]),(3,[9,10]),(4,[11015]),(5,[0,1,5,7,8,16,17]),(6,[5,16,18]),(7,[0,1,7009])],ret := [4] }
@[irreducible] def l_slices_IndexFunc_api_Due_0 : ACode := vl (x := codeL Tryz.prog Tryz.f190 z9m [] 0 [])
def zaX : ACode := vl (x := codeC Tryz.prog Tryz.f190 z9m [] [l_slices_IndexFunc_api_Due_0])
def z5R : AFn := .code zaX [.t 4] 19 true
def zcq : Hints := { kill := kx [(0,[0,2]),(1,[1,3005])],ret := [2] }
def z9Z : ACode := vl (x := codeC Tryz.prog Tryz.f186 zcq [] [])
def z4f : AFn := .code z9Z [.t 2] 6 true
def zcw : Hints := { kill := kx [(0,[0,2]),(1,[1,3020])],ret := [2] }
def za6 : ACode := vl (x := codeC Tryz.prog Tryz.f161 zcw [] [])
def z4n : AFn := .code za6 [.t 2] 21 true
def zcu : Hints := { kill := kx [(0,[1,4]),(1,[0,3,5007])],ret := [4] }
def za3 : ACode := vl (x := codeC Tryz.prog Tryz.f159 zcu [] [])
def z4k : AFn := .code za3 [.t 4] 8 true
def zcv : Hints := { kill := kx [(0,[0,3]),(1,[1,2,4007])],ret := [3] }
def za4 : ACode := vl (x := codeC Tryz.prog Tryz.f191 zcv [] [])
def z4l : AFn := .code za4 [.t 3] 8 true
def zcr : Hints := { kill := kx [(0,[6]),(1,[0,1,2,7016])],ret := [6] }
def ziS : List (Nat × List (List Nat)) := qx [(1,[[],[0],[],[],[1003],[1004],[1003],[1003],[],[],[]])]
def za0 : ACode := vl (x := codeC Tryz.prog Tryz.f187 zcr ziS [])
def z4g : AFn := .code za0 [.t 6] 17 true
def zcs : Hints := { kill := kx [(0,[0,1,4]),(1,[2,3,5016])],ret := [4] }
def ziT : List (Nat × List (List Nat)) := qx [(1,[[],[],[0,1],[0,1],[],[1004],[1004],[1006],[1006],[],[],[],[]])]
def za1 : ACode := vl (x := codeC Tryz.prog Tryz.f165 zcs ziT [])
def z4h : AFn := .code za1 [.t 4] 17 true
def zcm : Hints := { kill := kx [(0,[4]),(1,[7,8]),(2,[9,10]),(3,[5]),(4,[0,1,6,11]),(5,[12]),(6,[12]),(7,[6,11]),(8,[0,1,13]),(9,[13015]),(10,[0,1,16]),(11,[0,1,16018]),(12,[19]),(13,[19])],ret := [4] }
def z9U : ACode := vl (x := codeC Tryz.prog Tryz.f158 zcm [] [])
def z7m : AFn := .code z9U [.t 4] 20 true
def zcn : Hints := { kill := kx [(0,[2]),(1,[0,3005])],ret := [2] }
def z9W : ACode := vl (x := codeC Tryz.prog Tryz.f189 zcn [] [])
def z4e : AFn := .code z9W [.t 2] 6 true
def z8U : Hints := { kill := kx [(0,[2]),(2,[0]),(4,[9011]),(5,[12,13]),(6,[3,5008,14,15]),(7,[5,14,16]),(8,[3,6009,17])],exit := [(0,[3])],ret := [2] }
@[irreducible] def l_cmp_Or_int_0 : ACode := vl (x := codeL Tryz.prog Tryz.f195 z8U [] 0 [])
def z9V : ACode := vl (x := codeC Tryz.prog Tryz.f195 z8U [] [l_cmp_Or_int_0])
def z4d : AFn := .code z9V [.t 2] 18 true
def z91 : Hints := { kill := kx [(0,[0,2]),(1,[5010]),(2,[1,11]),(3,[11,12]),(5,[16018]),(6,[4,19027]),(7,[1,13015,28]),(8,[28,29]),(9,[1,13016])],ret := [2] }
@[irreducible] def l_lease_matches_0 : ACode := vl (x := codeL Tryz.prog Tryz.f154 z91 [] 0 [])
def z3F : ACode := vl (x := codeC Tryz.prog Tryz.f154 z91 [] [l_lease_matches_0])
def z4B : AFn := .code z3F [.t 2] 30 true
def zef : Hints := { kill := kx [(0,[1,4]),(1,[0,3,5008])],ret := [4] }
def zaW : ACode := vl (x := codeC Tryz.prog Tryz.f188 zef [] [])
def z5N : AFn := .code zaW [.t 4] 9 true
def z9u : ACode :=
 (.seq (.ops [] [oP 9 (.bin .lss (.t 8) (.t 7))] [])
 (.seq (.cond (.t 9) .skip (.exit 0 []))
 (.seq (.block 1 (.seq (.ops [] [oM 10 8, oM 5 10] [9, 10])
 (.seq (.draw [] [oP 11 (.ld true 2 (.t 3)), oM 12 0, oM 13 5, oP 14 (.iad 2 (.t 12) (.t 13)), oP 15 (.ld true 2 (.t 14)), oP 16 (.eqs false 2 [(0, 0), (1, 0)] (.t 11) (.t 15))] [[], [0], [0, 1], [0], [0], []] [11, 12, 13, 14, 15])
 (.cond (.t 16) (.seq (.ops [] [oM 17 5, oM 4 17] [0, 3, 5, 7, 8, 16, 17])
 (.ret [4])) .skip))))
 (.ops [] [oP 18 (.bin .add (.t 8) (kI 1)), oM 8 18] [5, 16, 18]))))
def z46 : ACode :=
 (.seq (.ops [] [oP 3 (.box (.t 1)), oP 4 (.mv (kI 0))] [1, 4])
 (.seq (.seq (.ops [] [oM 6 0, oP 7 (.len (.t 6)), oP 8 (.mv (kI 0))] [6])
 (.block 0 (.loop [] z9u)))
 (.seq (.ops [] [oP 4 (.mv (kI (-1)))] [0, 3, 7, 8, 9])
 (.ret [4]))))
def z5U : AFn := .code z46 [.t 4] 19 true
def ze8 : Hints := { kill := kx [(0,[0,2]),(1,[1,3010])],ret := [2] }
def zaT : ACode := vl (x := codeC Tryz.prog Tryz.f55 ze8 [] [])
def z8f : AFn := .code zaT [.t 2] 11 true
def ze7 : Hints := { kill := kx [(0,[4]),(1,[0,1,5015])],ret := [4] }
def z76 : ACode := vl (x := codeC Tryz.prog Tryz.f99 ze7 [] [])
def z8e : AFn := .code z76 [.t 4] 16 true
def z9j : Hints := { kill := kx [(0,[0,2]),(1,[6008]),(2,[1,9,10]),(4,[14016]),(5,[5,17021]),(6,[22]),(7,[3,11014,23])],exit := [(0,[3])],ret := [2] }
@[irreducible] def l_shard_messages_0 : ACode := vl (x := codeL Tryz.prog Tryz.f62 z9j [] 0 [])
def zaR : ACode := vl (x := codeC Tryz.prog Tryz.f62 z9j [] [l_shard_messages_0])
def z8c : AFn := .code zaR [.t 2] 24 true
def zdB : Hints := { kill := kx [(0,[0,2]),(1,[3,4]),(2,[1,5]),(3,[1,5007])],ret := [2] }
def zaE : ACode := vl (x := codeC Tryz.prog Tryz.f44 zdB [] [])
def z81 : AFn := .code zaE [.t 2] 8 false
def zeg : Hints := { kill := kx [(0,[4]),(1,[0,1,5008])],ret := [4] }
def z1g : ACode := vl (x := codeC Tryz.prog Tryz.f88 zeg [] [])
def z5O : AFn := .code z1g [.t 4] 9 true
def z9p : Hints := { kill := kx [(0,[4]),(1,[6]),(3,[9,10]),(4,[11015]),(5,[0,1,5,7,8,16,17]),(6,[5,16,18]),(7,[0,1,7009])],ret := [4] }
@[irreducible] def l_slices_Index_bool_0 : ACode := vl (x := codeL Tryz.prog Tryz.f147 z9p [] 0 [])
def z0D : ACode := vl (x := codeC Tryz.prog Tryz.f147 z9p [] [l_slices_Index_bool_0])
def z5V : AFn := .code z0D [.t 4] 19 true
def ze3 : Hints := { kill := kx [(0,[0]),(1,[3008]),(2,[9018]),(3,[1,19])],ret := [2] }
def zji : List (Nat × List (List Nat)) := qx [(2,[[],[],[],[],[1003],[1003],[1003],[],[],[],[]])]
def z74 : ACode := vl (x := codeC Tryz.prog Tryz.f43 ze3 zji [])
def z5F : AFn := .code z74 [.c 2 true 8] 20 true
def zec : Hints := { kill := kx [(0,[2]),(1,[3]),(2,[0,4]),(3,[0,4007])],acc := [2,2],ret := [2] }
def z0C : ACode := vl (x := codeC Tryz.prog Tryz.f89 zec [] [])
def z5K : AFn := .nils z0C [.t 2] 8
def zeb : Hints := { kill := kx [(0,[2]),(1,[3]),(2,[0,4]),(3,[0,4007])],acc := [2,2],ret := [2] }
def z44 : ACode := vl (x := codeC Tryz.prog Tryz.f90 zeb [] [])
def z8h : AFn := .nils z44 [.t 2] 8
def zea : Hints := { kill := kx [(0,[2]),(1,[3]),(2,[0,4]),(3,[0,4007])],acc := [2,2],ret := [2] }
def z0B : ACode := vl (x := codeC Tryz.prog Tryz.f91 zea [] [])
def z5J : AFn := .nils z0B [.t 2] 8
def zcP : Hints := { kill := kx [(0,[0,6]),(1,[1003,7021])],ret := [6] }
def zah : ACode := vl (x := codeC Tryz.prog Tryz.f45 zcP [] [])
def z4G : AFn := .code zah [.t 6] 22 true
def zcO : Hints := { kill := kx [(0,[0,4]),(1,[1,2,5008])],ret := [4] }
def z6L : ACode := vl (x := codeC Tryz.prog Tryz.f94 zcO [] [])
def z7u : AFn := .code z6L [.t 4] 9 true
def zcQ : Hints := { kill := kx [(0,[0,4]),(1,[1,2,5008])],ret := [4] }
def zai : ACode := vl (x := codeC Tryz.prog Tryz.f51 zcQ [] [])
def z7v : AFn := .code zai [.t 4] 9 true
def zdT : Hints := { kill := kx [(0,[1,7]),(1,[11021]),(2,[22]),(3,[0,2,4,8,9,23025]),(4,[23,26030]),(5,[31]),(6,[0,2,4,8,9,32034]),(7,[32,35044]),(8,[45]),(9,[0,2,4,8010,46048]),(10,[0,8010,46,49056]),(11,[2,4,57059])],ret := [6,7] }
def zjh : List (Nat × List (List Nat)) := qx [(1,[[],[],[],[],[1003],[1003],[],[],[],[8],[8,9],[1010],[9,10],[10],[]]),(7,[[],[],[],[],[1003],[1004],[],[],[],[8],[1009],[9],[]]),(10,[[],[0],[0,1],[1002],[1,3],[1,3],[1,3],[],[],[]])]
def z3g : ACode := vl (x := codeC Tryz.prog Tryz.f46 zdT zjh [])
def z5y : AFn := .code z3g [.c 6 true 8, .t 7] 60 true
def zdF : Hints := { kill := kx [(0,[0,6]),(1,[10,11]),(2,[12]),(3,[1,2,7,13016]),(4,[1,7,13,17019]),(5,[20]),(6,[2,8,21023]),(7,[8,21,24029]),(8,[2,9,30,31])],ret := [4,5,6] }
def zjc : List (Nat × List (List Nat)) := qx [(8,[[],[0],[1],[],[]])]
def z3X : ACode := vl (x := codeC Tryz.prog Tryz.f95 zdF zjc [])
def z84 : AFn := .code z3X [.c 4 true 3, .c 5 true 7, .t 6] 32 true
def zdH : Hints := { kill := kx [(0,[0,1,4]),(1,[2,3,5008])],ret := [4] }
def zaH : ACode := vl (x := codeC Tryz.prog Tryz.f149 zdH [] [])
def z5i : AFn := .code zaH [.t 4] 9 true
def zdI : Hints := { kill := kx [(0,[0,3]),(1,[1,2,4007])],ret := [3] }
def zaI : ACode := vl (x := codeC Tryz.prog Tryz.f181 zdI [] [])
def z5j : AFn := .code zaI [.t 3] 8 true
def z9n : Hints := { kill := kx [(0,[4]),(1,[6]),(3,[9,10]),(4,[11015]),(5,[0,1,5,7,8,16,17]),(6,[5,16,18]),(7,[0,1,7009])],ret := [4] }
@[irreducible] def l_slices_IndexFunc_api_Message_0 : ACode := vl (x := codeL Tryz.prog Tryz.f113 z9n [] 0 [])
def z77 : ACode := vl (x := codeC Tryz.prog Tryz.f113 z9n [] [l_slices_IndexFunc_api_Message_0])
def z5S : AFn := .code z77 [.t 4] 19 true
def z9f : Hints := { kill := kx [(0,[0]),(1,[8,9]),(2,[10016]),(3,[1,17]),(4,[18021]),(5,[23,24]),(6,[22,25038]),(7,[7,22,39042]),(8,[43050]),(9,[2,6,51,52])],ghost := [(2,[18])],exit := [(0,[2,4,5,6])],ret := [4,5] }
def zev : List (Nat × List (List Nat)) := qx [(2,[[],[],[0,1],[1002],[0,1],[],[],[1006],[]]),(6,[[],[],[0,1],[1002],[0,1],[1004],[1004],[1006],[1007],[1007],[0,1,5,6],[0,1],[0,1],[],[]]),(8,[[],[],[0,1],[1002],[1002],[0,1],[1005],[],[]]),(9,[[],[0],[1],[]])]
@[irreducible] def l_ring_take_0 : ACode := vl (x := codeL Tryz.prog Tryz.f150 z9f zev 0 [])
def zaL : ACode := vl (x := codeC Tryz.prog Tryz.f150 z9f zev [l_ring_take_0])
def z5n : AFn := .code zaL [.c 4 true 3, .c 5 true 7] 53 true
def zdJ : Hints := { kill := kx [(0,[0]),(1,[3006]),(2,[1,7])],ret := [2] }
def zaK : ACode := vl (x := codeC Tryz.prog Tryz.f104 zdJ [] [])
def z5l : AFn := .code zaK [.c 2 true 3] 8 false
def zcN : Hints := { kill := kx [(0,[0,3]),(1,[5,6]),(2,[7]),(3,[1,4,8010]),(4,[4,8,12014]),(5,[1,11,15]),(6,[11,17019]),(7,[1,16,20]),(8,[16,21024]),(9,[25028]),(10,[1,29])],ret := [2,3] }
def z35 : ACode := vl (x := codeC Tryz.prog Tryz.f96 zcN [] [])
def z4F : AFn := .code z35 [.c 2 true 7, .t 3] 30 true
def zcE : Hints := { kill := kx [(0,[0,1,7]),(1,[14,15]),(2,[16]),(3,[2004,8,17019]),(4,[8,17,20,21]),(5,[22]),(6,[2004,9,23025]),(7,[9,23,26032]),(8,[34036]),(9,[2004,10,11,33,37]),(10,[33,39041]),(11,[2004,10,11,38,42]),(12,[38,44047]),(13,[2004,10,11,43,48]),(14,[11,43,50]),(15,[2004,10,49,51]),(16,[49,52061]),(17,[62]),(18,[2004,10,12,13,63065]),(19,[2004,10,12,13,63,66076])],obj := [(74,[true,false,false])],ret := [6,7] }
def ziV : List (Nat × List (List Nat)) := qx [(19,[[],[],[],[1002],[1003],[1004],[1003],[1003],[],[1008],[],[],[]])]
def zf : ACode := vl (x := codeC Tryz.prog Tryz.f97 zcE ziV [])
def z4v : AFn := .code zf [.c 6 true 2, .t 7] 77 true
def zcI : Hints := { kill := kx [(0,[0,4,5]),(1,[1,2,6011])],ret := [4,5] }
def zac : ACode := vl (x := codeC Tryz.prog Tryz.f115 zcI [] [])
def z4z : AFn := .code zac [.t 4, .t 5] 12 true
def z9k : Hints := { kill := kx [(0,[6,7]),(1,[12,13]),(2,[14]),(3,[15,16]),(4,[17023]),(5,[24030]),(6,[11,31033]),(7,[11,31,34]),(8,[0,1,2,8010,17,35048])],exit := [(0,[0,1,2,8,9])],ret := [6,7] }
@[irreducible] def l_slices_BinarySearchFunc_api_Lease_0 : ACode := vl (x := codeL Tryz.prog Tryz.f156 z9k [] 0 [])
def z43 : ACode := vl (x := codeC Tryz.prog Tryz.f156 z9k [] [l_slices_BinarySearchFunc_api_Lease_0])
def z5I : AFn := .code z43 [.t 6, .t 7] 49 true
def zcJ : Hints := { kill := kx [(0,[0,4]),(1,[1,2,5009])],ret := [4] }
def zad : ACode := vl (x := codeC Tryz.prog Tryz.f157 zcJ [] [])
def z4A : AFn := .code zad [.t 4] 10 true
def zco : Hints := { kill := kx [(0,[1,4,5]),(1,[7,8]),(2,[9]),(3,[0,3,6,10,11]),(4,[6,10,13015]),(5,[0,3,12]),(6,[12,17019]),(7,[0,3,16]),(8,[16,21025]),(9,[0,3,20]),(10,[3,20,26030]),(11,[31035]),(12,[0,36])],ghost := [(11,[54])],obj := [(35,[true,false])],ret := [4,5] }
def ziR : List (Nat × List (List Nat)) := qx [(10,[[],[],[0,1],[0,1],[],[]])]
def z19 : ACode := vl (x := codeC Tryz.prog Tryz.f118 zco ziR [])
def z7n : AFn := .code z19 [.t 4, .t 5] 37 true
def z8X : Hints := { kill := kx [(0,[4]),(1,[6014]),(2,[15018]),(3,[1,19032]),(4,[5,33]),(5,[0,1,15,34])],exit := [(0,[1])],ret := [4] }
def zel : List (Nat × List (List Nat)) := qx [(3,[[],[0],[0,1],[1002],[1003],[1004],[1003],[1003],[1007],[1008],[1007],[1007],[2,3],[2,3],[],[]])]
@[irreducible] def l_due_up_0 : ACode := vl (x := codeL Tryz.prog Tryz.f162 z8X zel 0 [])
def za5 : ACode := vl (x := codeC Tryz.prog Tryz.f162 z8X zel [l_due_up_0])
def z4m : AFn := .code za5 [.t 4] 35 true
def z5W : AFn := .ext (insF 8)
def zcx : Hints := { kill := kx [(0,[0]),(1,[10013]),(2,[14019]),(3,[20025]),(4,[26]),(5,[7,27032]),(6,[1006,8,9,33067])],ret := [0] }
def za7 : ACode := vl (x := codeC Tryz.prog Tryz.f12 zcx [] [])
def z4p : AFn := .code za7 [.t 0] 68 true
def zdP : Hints := { kill := kx [(0,[7]),(1,[0,10014]),(2,[15]),(3,[1,2,8,9,16018]),(4,[9,16,19021]),(5,[1,2,8,22,23]),(6,[1,2,8,22,24027])],ret := [6,7] }
def zaM : ACode := vl (x := codeC Tryz.prog Tryz.f47 zdP [] [])
def z5t : AFn := .code zaM [.c 6 true 8, .t 7] 28 true
def zdC : Hints := { kill := kx [(0,[3]),(1,[4008]),(2,[0,9,10]),(3,[0,9,11013])],ret := [2,3] }
def zaF : ACode := vl (x := codeC Tryz.prog Tryz.f98 zdC [] [])
def z5h : AFn := .code zaF [.c 2 true 3, .t 3] 14 true
def zdR : Hints := { kill := kx [(0,[0,1,5]),(1,[7,8]),(2,[9]),(3,[2,3,6,10012]),(4,[2,3,6,10,13017])],ret := [4,5] }
def z40 : ACode := vl (x := codeC Tryz.prog Tryz.f48 zdR [] [])
def z5v : AFn := .code z40 [.c 4 true 8, .t 5] 18 true
def ze4 : Hints := { kill := kx [(0,[0,1,5]),(1,[8,9]),(2,[10]),(3,[2,3,6,11013]),(4,[6,11,15022]),(5,[2,3,14,23]),(6,[14,25027]),(7,[2,3,24,28]),(8,[24,30033]),(9,[2,3,29,34]),(10,[7,29]),(11,[35,36]),(12,[3,37044]),(13,[45]),(14,[2,7,46048]),(15,[2,7,46,49])],ret := [4,5] }
def z0z : ACode := vl (x := codeC Tryz.prog Tryz.f100 ze4 [] [])
def z5G : AFn := .code z0z [.c 4 true 8, .t 5] 50 true
def ze6 : Hints := { kill := kx [(0,[0,2]),(1,[1,3009])],ret := [2] }
def zjk : List (Nat × List (List Nat)) := qx [(1,[[],[],[],[],[1003],[1003],[],[]])]
def zaS : ACode := vl (x := codeC Tryz.prog Tryz.f60 ze6 zjk [])
def z8d : AFn := .code zaS [.t 2] 10 true
def zdU : Hints := { kill := kx [(0,[0,1,4]),(1,[2,3,5008])],ret := [4] }
def zaN : ACode := vl (x := codeC Tryz.prog Tryz.f64 zdU [] [])
def z89 : AFn := .code zaN [.t 4] 9 true
def zdV : Hints := { kill := kx [(0,[0,3]),(1,[1,2,4007])],ret := [3] }
def zaO : ACode := vl (x := codeC Tryz.prog Tryz.f114 zdV [] [])
def z5z : AFn := .code zaO [.t 3] 8 true
def zee : Hints := { kill := kx [(0,[4]),(1,[0,1,5008])],ret := [4] }
def zaV : ACode := vl (x := codeC Tryz.prog Tryz.f61 zee [] [])
def z5M : AFn := .code zaV [.t 4] 9 true
def zdD : Hints := { kill := kx [(0,[0,1,5]),(1,[7009]),(2,[10]),(3,[2,3,6,11013]),(4,[6,11,14,15]),(5,[3,16023]),(6,[24027]),(7,[2,28])],ghost := [(5,[30])],ret := [4,5] }
def zjb : List (Nat × List (List Nat)) := qx [(5,[[],[],[0,1],[1002],[1002],[0,1],[1005],[],[]])]
def z6V : ACode := vl (x := codeC Tryz.prog Tryz.f52 zdD zjb [])
def z82 : AFn := .code z6V [.c 4 true 3, .t 5] 29 true
def zdK : Hints := { kill := kx [(0,[0,1,4]),(1,[7,8]),(2,[9]),(3,[2,3,5,10,11]),(4,[5,10,12,13]),(5,[14]),(6,[2,3,6,15,16]),(7,[6,15,18023]),(8,[2,3,17]),(9,[2,3,17,25029]),(10,[24]),(11,[24])],ret := [4] }
def z1e : ACode := vl (x := codeC Tryz.prog Tryz.f103 zdK [] [])
def z5m : AFn := .code z1e [.t 4] 30 true
def z9g : Hints := { kill := kx [(0,[0,9,10]),(1,[3,17025]),(2,[26]),(3,[1,2,4,11,27029]),(4,[11,27,30,31]),(5,[1,2,32036]),(8,[40042]),(10,[16]),(11,[14,43049]),(12,[50]),(13,[4,12,15,16,37039,51053]),(14,[15,51,54061]),(15,[62]),(16,[4,12,16,37039,63065]),(17,[16,63,66]),(18,[4,12,37040,67,68])],exit := [(0,[4,8,12])],ret := [8,9,10] }
def zew : List (Nat × List (List Nat)) := qx [(1,[[],[0],[0],[1002],[0],[1004],[0],[0],[],[]])]
@[irreducible] def l_shard_Expire_0 : ACode := vl (x := codeL Tryz.prog Tryz.f28 z9g zew 0 [])
def z3Z : ACode := vl (x := codeC Tryz.prog Tryz.f28 z9g zew [l_shard_Expire_0])
def z5q : AFn := .code z3Z [.c 8 true 8, .t 9, .t 10] 69 true
def zcF : Hints := { kill := kx [(0,[0,2,6]),(1,[7,8]),(2,[1,3,5,9]),(3,[1,3,5,9015])],obj := [(15,[true,false])],ret := [6] }
def z3E : ACode := vl (x := codeC Tryz.prog Tryz.f67 zcF [] [])
def z4w : AFn := .code z3E [.t 6] 16 true
def z8V : Hints := { kill := kx [(0,[4]),(1,[9,10]),(2,[0,1,11]),(3,[0,11013]),(4,[14,15]),(6,[5]),(8,[19021]),(9,[22024]),(10,[8,25030]),(11,[8,25,31]),(12,[1,6,16019,32])],ghost := [(4,[26])],obj := [(15,[true,false])],acc := [6],exit := [(0,[6])],ret := [4] }
@[irreducible] def l_due_Until_0 : ACode := vl (x := codeL Tryz.prog Tryz.f120 z8V [] 0 [])
def z6K : ACode := vl (x := codeC Tryz.prog Tryz.f120 z8V [] [l_due_Until_0])
def z7p : AFn := .code z6K [.t 4] 33 false
def zeh : Hints := { kill := kx [(0,[5,6]),(1,[0,1,4,7013])],obj := [(13,[true,false,false,false,false])] }
def z79 : ACode := vl (x := codeC Tryz.prog Tryz.f164 zeh [] [])
def z5X : AFn := .code z79 [] 14 true
def zcM : Hints := { kill := kx [(0,[2]),(1,[0,3005]),(2,[0,6,7])],ret := [2] }
def zaf : ACode := vl (x := codeC Tryz.prog Tryz.f194 zcM [] [])
def z4D : AFn := .code zaf [.t 2] 8 true
def zag : ACode :=
 (.seq (.ops [] [oP 2 (.mv (kI 0))] [])
 (.seq (.seq (.ops [] [oM 3 0, oP 4 (.bin .geq (.t 3) (.c (.d (.int .u32 65536))))] [3])
 (.cond (.t 4) (.seq (.ops [] [oM 5 0, oP 6 (.bin .shr (.t 5) (.c (.d (.int .u64 16)))), oM 0 6] [2, 4, 5, 6])
 (.ops [] [oP 2 (.mv (kI 16))] [])) .skip))
 (.seq (.seq (.ops [] [oM 7 0, oP 8 (.bin .geq (.t 7) (.c (.d (.int .u32 256))))] [4, 7])
 (.cond (.t 8) (.seq (.ops [] [oM 9 0, oP 10 (.bin .shr (.t 9) (.c (.d (.int .u64 8)))), oM 0 10] [8, 9, 10])
 (.ops [] [oM 11 2, oP 12 (.bin .add (.t 11) (kI 8)), oM 2 12] [11, 12])) .skip))
 (.seq (.ops [] [oM 13 2, oM 14 0, oP 15 (.cvi .u8 (.t 14)), oP 16 (.idx (.c (.d (.str [0, 1, 2, 2, 3, 3, 3, 3, 4, 4, 4, 4, 4, 4, 4, 4, 5, 5, 5, 5, 5, 5, 5, 5, 5, 5, 5, 5, 5, 5, 5, 5, 6, 6, 6, 6, 6, 6, 6, 6, 6, 6, 6, 6, 6, 6, 6, 6, 6, 6, 6, 6, 6, 6, 6, 6, 6, 6, 6, 6, 6, 6, 6, 6, 7, 7, 7, 7, 7, 7, 7, 7, 7, 7, 7, 7, 7, 7, 7, 7, 7, 7, 7, 7, 7, 7, 7, 7, 7, 7, 7, 7, 7, 7, 7, 7, 7, 7, 7, 7, 7, 7, 7, 7, 7, 7, 7, 7, 7, 7, 7, 7, 7, 7, 7, 7, 7, 7, 7, 7, 7, 7, 7, 7, 7, 7, 7, 7, 8, 8, 8, 8, 8, 8, 8, 8, 8, 8, 8, 8, 8, 8, 8, 8, 8, 8, 8, 8, 8, 8, 8, 8, 8, 8, 8, 8, 8, 8, 8, 8, 8, 8, 8, 8, 8, 8, 8, 8, 8, 8, 8, 8, 8, 8, 8, 8, 8, 8, 8, 8, 8, 8, 8, 8, 8, 8, 8, 8, 8, 8, 8, 8, 8, 8, 8, 8, 8, 8, 8, 8, 8, 8, 8, 8, 8, 8, 8, 8, 8, 8, 8, 8, 8, 8, 8, 8, 8, 8, 8, 8, 8, 8, 8, 8, 8, 8, 8, 8, 8, 8, 8, 8, 8, 8, 8, 8, 8, 8, 8, 8, 8, 8, 8, 8, 8, 8, 8, 8, 8, 8, 8, 8, 8, 8, 8, 8]))) (.t 15)), oP 17 (.cvi .i64 (.t 16)), oP 18 (.bin .add (.t 13) (.t 17)), oM 2 18] [0, 8, 13, 14, 15, 16, 17, 18])
 (.ret [2])))))
def zb2 : AFn := .code zag [.t 2] 19 true
def za : ACode :=
 (.seq (.ops [] [oP 2 (.mv (kI 0))] [])
 (.seq (.seq (.ops [] [oM 3 0, oP 4 (.bin .geq (.t 3) (.c (.d (.int .u64 4294967296))))] [3])
 (.cond (.t 4) (.seq (.ops [] [oM 5 0, oP 6 (.bin .shr (.t 5) (.c (.d (.int .u64 32)))), oM 0 6] [2, 4, 5, 6])
 (.ops [] [oP 2 (.mv (kI 32))] [])) .skip))
 (.seq (.seq (.ops [] [oM 7 0, oP 8 (.bin .geq (.t 7) (.c (.d (.int .u64 65536))))] [4, 7])
 (.cond (.t 8) (.seq (.ops [] [oM 9 0, oP 10 (.bin .shr (.t 9) (.c (.d (.int .u64 16)))), oM 0 10] [8, 9, 10])
 (.ops [] [oM 11 2, oP 12 (.bin .add (.t 11) (kI 16)), oM 2 12] [11, 12])) .skip))
 (.seq (.seq (.ops [] [oM 13 0, oP 14 (.bin .geq (.t 13) (.c (.d (.int .u64 256))))] [8, 13])
 (.cond (.t 14) (.seq (.ops [] [oM 15 0, oP 16 (.bin .shr (.t 15) (.c (.d (.int .u64 8)))), oM 0 16] [14, 15, 16])
 (.ops [] [oM 17 2, oP 18 (.bin .add (.t 17) (kI 8)), oM 2 18] [17, 18])) .skip))
 (.seq (.ops [] [oM 19 2, oM 20 0, oP 21 (.cvi .u8 (.t 20)), oP 22 (.idx (.c (.d (.str [0, 1, 2, 2, 3, 3, 3, 3, 4, 4, 4, 4, 4, 4, 4, 4, 5, 5, 5, 5, 5, 5, 5, 5, 5, 5, 5, 5, 5, 5, 5, 5, 6, 6, 6, 6, 6, 6, 6, 6, 6, 6, 6, 6, 6, 6, 6, 6, 6, 6, 6, 6, 6, 6, 6, 6, 6, 6, 6, 6, 6, 6, 6, 6, 7, 7, 7, 7, 7, 7, 7, 7, 7, 7, 7, 7, 7, 7, 7, 7, 7, 7, 7, 7, 7, 7, 7, 7, 7, 7, 7, 7, 7, 7, 7, 7, 7, 7, 7, 7, 7, 7, 7, 7, 7, 7, 7, 7, 7, 7, 7, 7, 7, 7, 7, 7, 7, 7, 7, 7, 7, 7, 7, 7, 7, 7, 7, 7, 8, 8, 8, 8, 8, 8, 8, 8, 8, 8, 8, 8, 8, 8, 8, 8, 8, 8, 8, 8, 8, 8, 8, 8, 8, 8, 8, 8, 8, 8, 8, 8, 8, 8, 8, 8, 8, 8, 8, 8, 8, 8, 8, 8, 8, 8, 8, 8, 8, 8, 8, 8, 8, 8, 8, 8, 8, 8, 8, 8, 8, 8, 8, 8, 8, 8, 8, 8, 8, 8, 8, 8, 8, 8, 8, 8, 8, 8, 8, 8, 8, 8, 8, 8, 8, 8, 8, 8, 8, 8, 8, 8, 8, 8, 8, 8, 8, 8, 8, 8, 8, 8, 8, 8, 8, 8, 8, 8, 8, 8, 8, 8, 8, 8, 8, 8, 8, 8, 8, 8, 8, 8, 8, 8, 8, 8, 8, 8]))) (.t 21)), oP 23 (.cvi .i64 (.t 22)), oP 24 (.bin .add (.t 19) (.t 23)), oM 2 24] [0, 14, 19, 20, 21, 22, 23, 24])
 (.ret [2]))))))
def z4E : AFn := .code za [.t 2] 25 true
def z9q : Hints := { kill := kx [(2,[21023]),(3,[24]),(4,[0,1004,10012,25030]),(5,[25,31]),(6,[0,1004,10012,32037]),(7,[32,38]),(8,[39044]),(9,[45,46]),(10,[39,47054]),(11,[55]),(12,[14,56061]),(13,[62067]),(15,[14,56,68074]),(16,[75079]),(17,[75,80096]),(18,[1,12,13,97103]),(19,[15,104]),(20,[10,11,13,97,105113]),(21,[17,114]),(22,[115120]),(23,[12,121,122]),(24,[123,124]),(25,[18020,125128]),(26,[1,129134]),(27,[16,135,136]),(28,[18020,125,137139]),(29,[2,140146]),(30,[16,147])],obj := [(30,[true,false,false,false]),(37,[true,false,false,false]),(44,[true,false,false,false]),(61,[true,false,false,false]),(80,[true,false,false,false]),(103,[true,false,false,false,false]),(111,[true,false,false,false,false]),(134,[true,false,false,false,false]),(146,[true,false,false,false,false])],exit := [(1,[0,1,2,3,4,10,11])] }
def zez : List (Nat × List (List Nat)) := qx [(17,[[],[],[],[],[3],[3,4],[3,4],[3],[3],[4008],[4009],[4008],[4008],[],[],[],[]])]
@[irreducible] def l_slices_pdqsortCmpFunc_api_Due_0 : ACode := vl (x := codeL Tryz.prog Tryz.f193 z9q zez 0 [])
def z7b : ACode := vl (x := codeC Tryz.prog Tryz.f193 z9q zez [l_slices_pdqsortCmpFunc_api_Due_0])
def z5Z : AFn := .code z7b [] 148 true
def z6s : Hints := { kill := kx [(0,[10,11]),(1,[12,13]),(2,[9,15,16,34]),(3,[14,17]),(4,[18033]),(5,[35,36]),(6,[34,37052])],exit := [(2,[0,1,2,3,8])] }
def z9B : List (Nat × List (List Nat)) := qx [(4,[[],[0],[],[],[],[4],[4,5],[4],[4],[5008],[5009],[5009],[5008],[5008],[],[],[]]),(6,[[],[0],[0,1],[1002],[1002],[1004],[1005],[1005],[1004],[1004],[1009],[1010],[1009],[1009],[3004],[3004],[],[]])]
@[irreducible] def l_slices_insertionSortCmpFunc_api_Due_0 : ACode := vl (x := codeL Tryz.prog Tryz.f203 z6s z9B 0 [])
@[irreducible] def l_slices_insertionSortCmpFunc_api_Due_1 : ACode := vl (x := codeL Tryz.prog Tryz.f203 z6s z9B 1 [l_slices_insertionSortCmpFunc_api_Due_0])
def z7a : ACode := vl (x := codeC Tryz.prog Tryz.f203 z6s z9B [l_slices_insertionSortCmpFunc_api_Due_0, l_slices_insertionSortCmpFunc_api_Due_1])
def z5Y : AFn := .code z7a [] 53 true
def zcG : Hints := { kill := kx [(0,[4]),(1,[0,6012]),(2,[1,2,5,13020])],ret := [4] }
def ziW : List (Nat × List (List Nat)) := qx [(2,[[],[],[0,1],[],[],[],[1005],[],[]])]
def zab : ACode := vl (x := codeC Tryz.prog Tryz.f121 zcG ziW [])
def z4x : AFn := .code zab [.t 4] 21 true
def z9l : Hints := { kill := kx [(0,[4]),(1,[8010]),(2,[11]),(3,[0,1,5,12,13]),(4,[12,14,15]),(5,[16018]),(6,[7,20,21,29]),(7,[19,22025]),(8,[26028]),(9,[7,29033]),(10,[34,35]),(11,[1,6,19,36038]),(12,[0,5,39041])],ghost := [(0,[2000000])],exit := [(0,[0,5])],ret := [4] }
@[irreducible] def l_slices_DeleteFunc_int_0 : ACode := vl (x := codeL Tryz.prog Tryz.f119 z9l [] 0 [])
def z45 : ACode := vl (x := codeC Tryz.prog Tryz.f119 z9l [] [l_slices_DeleteFunc_int_0])
def z5P : AFn := .code z45 [.t 4] 42 false
def z9o : Hints := { kill := kx [(0,[4]),(1,[6]),(3,[9,10]),(4,[11015]),(5,[0,1,5,7,8,16,17]),(6,[5,16,18]),(7,[0,1,7009])],ret := [4] }
@[irreducible] def l_slices_IndexFunc_int_0 : ACode := vl (x := codeL Tryz.prog Tryz.f163 z9o [] 0 [])
def z78 : ACode := vl (x := codeC Tryz.prog Tryz.f163 z9o [] [l_slices_IndexFunc_int_0])
def z5T : AFn := .code z78 [.t 4] 19 true
def ze5 : Hints := { kill := kx [(0,[0,6]),(1,[1,10017]),(2,[18]),(3,[2,7009,19022]),(4,[9,19,23,24]),(5,[7,25,26]),(6,[2,8,27,28])],ret := [4,5,6] }
def zjj : List (Nat × List (List Nat)) := qx [(6,[[],[0],[1],[],[]])]
def z75 : ACode := vl (x := codeC Tryz.prog Tryz.f50 ze5 zjj [])
def z5H : AFn := .code z75 [.c 4 true 8, .c 5 true 7, .t 6] 29 true
def zcH : Hints := { kill := kx [(0,[0,6]),(1,[12,13]),(2,[14]),(3,[1,2,7,15018]),(4,[7,15,19024]),(5,[9,25]),(6,[1,2,8,26028]),(7,[1,26,29035]),(8,[36]),(9,[2,8,10,11,37040]),(10,[2,8,10,11,37,41052])],ret := [4,5,6] }
def ziX : List (Nat × List (List Nat)) := qx [(10,[[],[],[0,1],[],[1003],[],[1005],[1005],[1007],[1005],[1005],[1005],[7011],[],[]])]
def z34 : ACode := vl (x := codeC Tryz.prog Tryz.f102 zcH ziX [])
def z4y : AFn := .code z34 [.c 4 true 2, .c 5 true 7, .t 6] 53 true
def zcp : Hints := { kill := kx [(0,[4,5]),(1,[8,9]),(2,[10]),(3,[0,1,6,11,12]),(4,[1,6,11,13015]),(5,[16]),(6,[0,7,17]),(7,[0,7,17020])],ret := [4,5] }
def z9X : ACode := vl (x := codeC Tryz.prog Tryz.f117 zcp [] [])
def z7o : AFn := .code z9X [.t 4, .t 5] 21 true
def zct : Hints := { kill := kx [(0,[4]),(1,[7009]),(2,[10013]),(3,[14,15]),(4,[0,1,5,6,16,17]),(5,[0,5,16,18024]),(6,[25028]),(7,[1,29032]),(8,[1,6,29,33])],ghost := [(5,[26])],obj := [(27,[true,false]),(32,[true,false])],ret := [4] }
def z3C : ACode := vl (x := codeC Tryz.prog Tryz.f160 zct [] [])
def z4j : AFn := .code z3C [.t 4] 34 true
def z8W : Hints := { kill := kx [(0,[5007]),(1,[8010]),(2,[11022]),(3,[23025]),(4,[23,26029]),(5,[1,30044]),(6,[4,45])] }
def zek : List (Nat × List (List Nat)) := qx [(5,[[],[0],[0,1],[1002],[1003],[1004],[1003],[1003],[1007],[1008],[1007],[1007],[2,3],[2,3],[],[]])]
@[irreducible] def l_due_down_0 : ACode := vl (x := codeL Tryz.prog Tryz.f192 z8W zek 0 [])
def za2 : ACode := vl (x := codeC Tryz.prog Tryz.f192 z8W zek [l_due_down_0])
def z4i : AFn := .code za2 [] 46 true
def zcL : Hints := { kill := kx [(0,[4]),(1,[0,1,5010])],obj := [(10,[true,false,false])],ret := [4] }
def zae : ACode := vl (x := codeC Tryz.prog Tryz.f152 zcL [] [])
def z4C : AFn := .code zae [.t 4] 11 true
def z5Q : AFn := .ext (delF 8)
def zdN : Hints := { kill := kx [(0,[0,1,8]),(1,[2005,9023])],ret := [8] }
def zjf : List (Nat × List (List Nat)) := qx [(1,[[],[0],[0],[1002],[0],[0],[],[],[],[],[9],[9,10],[10011],[],[],[]])]
def z6Y : ACode := vl (x := codeC Tryz.prog Tryz.f13 zdN zjf [])
def z5r : AFn := .code z6Y [.t 8] 24 true
def zdW : Hints := { kill := kx [(0,[0,1,8]),(1,[4,11018]),(2,[2,3,5,9,10,19048])],ret := [8] }
def z71 : ACode := vl (x := codeC Tryz.prog Tryz.f49 zdW [] [])
def z5A : AFn := .code z71 [.t 8] 49 true
def zcD : Hints := { kill := kx [(0,[0,5]),(1,[8,9]),(2,[1,2,10,11]),(3,[1,10,12017]),(4,[7,18]),(5,[2,6,19,20]),(6,[2,6,19,21025])],ret := [4,5] }
def z3D : ACode := vl (x := codeC Tryz.prog Tryz.f101 zcD [] [])
def z4u : AFn := .code z3D [.c 4 true 8, .t 5] 26 true
def zdL : Hints := { kill := kx [(0,[0,1,9]),(1,[13019]),(2,[20]),(3,[2005,10,21023]),(4,[2,3,10,21,24028]),(5,[4,5,29,30]),(6,[5,11,29,31038]),(7,[4,12,39,40])],ret := [8,9] }
def zjd : List (Nat × List (List Nat)) := qx [(1,[[],[0],[0],[1002],[0],[0],[],[]])]
def z3Y : ACode := vl (x := codeC Tryz.prog Tryz.f14 zdL zjd [])
def z5o : AFn := .code z3Y [.c 8 true 8, .t 9] 41 true
def zdO : Hints := { kill := kx [(0,[0,1,11]),(1,[15023]),(2,[24]),(3,[2006,12,25027]),(4,[2,3,12,25,28032]),(5,[4006,33,34]),(6,[6,33,35042]),(7,[43]),(8,[4,5,13,14,44046]),(9,[4,14,44,47,48]),(10,[13,49057]),(11,[13,49,58065]),(12,[66]),(13,[5,14,67069]),(14,[5,14,67,70])],ret := [10,11] }
def zjg : List (Nat × List (List Nat)) := qx [(1,[[],[0],[0],[1002],[0],[1004],[0],[0],[],[]])]
def zP : ACode := vl (x := codeC Tryz.prog Tryz.f15 zdO zjg [])
def z5s : AFn := .code zP [.c 10 true 8, .t 11] 71 true
def zdE : Hints := { kill := kx [(0,[0,1,5]),(1,[7009]),(2,[10]),(3,[2,3,6,11013]),(4,[6,11,14,15]),(5,[16022]),(6,[3,23028]),(7,[29032]),(8,[2,33])],ghost := [(6,[30])],ret := [4,5] }
def z6W : ACode := vl (x := codeC Tryz.prog Tryz.f53 zdE [] [])
def z83 : AFn := .code z6W [.c 4 true 3, .t 5] 34 true
def zdS : Hints := { kill := kx [(0,[0,2]),(1,[3,4]),(2,[1,5]),(3,[1,5007])],ret := [2] }
def z70 : ACode := vl (x := codeC Tryz.prog Tryz.f16 zdS [] [])
def z5w : AFn := .code z70 [.t 2] 8 true
def z6m : Hints := { kill := kx [(0,[2]),(1,[0,15,16]),(2,[17,18]),(4,[19027]),(5,[7009,11,29,30,111]),(6,[28,31035]),(7,[36,37]),(9,[10]),(11,[38]),(12,[6,11,40049,96]),(14,[51]),(15,[6,39,50,52067]),(16,[50,69]),(17,[6,39,68,70081]),(18,[68,83]),(19,[6,39,82,84095]),(20,[39,82,97]),(21,[6,96,98109]),(22,[10,110]),(23,[111113]),(24,[114124]),(25,[3005,7009,11,12,125]),(26,[125]),(28,[126128]),(29,[130,131,159]),(30,[129,132145]),(31,[146148]),(32,[146,149158]),(33,[3005,7009,11014,159]),(34,[7009,11014,129,160]),(35,[3005,28,161])],obj := [(18,[true]),(32,[true]),(35,[true,false]),(39,[true,false])],exit := [(1,[3,4,5]),(3,[3,4,5,9])],ret := [2] }
def z9v : List (Nat × List (List Nat)) := qx [(6,[[],[],[0,1],[1002],[],[1004],[1005],[],[]]),(30,[[],[0],[0],[],[],[],[5],[],[],[6008],[6009],[6008],[6008],[],[]]),(32,[[],[],[],[],[3],[],[],[4006],[4006],[],[]])]
@[irreducible] def l_law07_ShardConserves_0 : ACode := vl (x := codeL Tryz.prog Tryz.f5 z6m z9v 0 [])
@[irreducible] def l_law07_ShardConserves_1 : ACode := vl (x := codeL Tryz.prog Tryz.f5 z6m z9v 1 [l_law07_ShardConserves_0])
def zeV : ACode := vl (x := codeC Tryz.prog Tryz.f5 z6m z9v [l_law07_ShardConserves_0, l_law07_ShardConserves_1])
def zaZ : AFn := .code zeV [.t 2] 162 true
def zcf : Hints := { kill := kx [(0,[2]),(1,[0,3012])],ret := [2] }
def ziP : List (Nat × List (List Nat)) := qx [(1,[[],[],[],[],[1003],[1003],[1003],[1003],[1003],[],[]])]
def zeU : ACode := vl (x := codeC Tryz.prog Tryz.f24 zcf ziP [])
def zaY : AFn := .code zeU [.t 2] 13 true
def zcA : Hints := { kill := kx [(1,[4022]),(2,[23]),(3,[26]),(4,[0,24,25,27030]),(5,[25,32]),(6,[0,24,31,33036]),(7,[31,38]),(8,[0,24,37,39042]),(9,[37,44]),(10,[0,24,43,45048]),(11,[43,50]),(12,[0,24,49,51054]),(13,[24,49,56]),(14,[0,55,57060]),(15,[0,3,55,61])],obj := [(5,[true,false,false]),(7,[true,false]),(10,[true,false]),(12,[true,false]),(14,[true,false,false]),(16,[true,false,false]),(19,[true,false]),(21,[true,false]),(24,[true,false]),(29,[true,false]),(35,[true,false]),(41,[true,false]),(47,[true,false]),(53,[true,false]),(59,[true,false])],ret := [2] }
def zaa : ACode := vl (x := codeC Tryz.prog Tryz.f25 zcA [] [])
def z7r : AFn := .code zaa [.c 2 true 8] 62 true
def zcd : Hints := { kill := kx [(0,[1]),(1,[8016]),(2,[17020]),(3,[21026]),(4,[3,6,27036]),(5,[7,37045]),(6,[0,46]),(7,[49]),(8,[47,48,50053]),(9,[47,48,55]),(10,[54,56060]),(11,[0,3,5,6,27,54,61])],obj := [(9,[true,false,false]),(11,[true,false,false]),(13,[true,false]),(15,[true,false]),(25,[true,false]),(33,[true,false]),(47,[true,false])],ret := [4] }
def ziN : List (Nat × List (List Nat)) := qx [(4,[[],[],[],[1002],[1003],[1002],[],[],[],[1008],[]])]
def z18 : ACode := vl (x := codeC Tryz.prog Tryz.f26 zcd ziN [])
def z7e : AFn := .code z18 [.c 4 true 4] 62 true
def z6n : Hints := { kill := kx [(0,[0,2]),(2,[1,7,8]),(4,[9011]),(5,[13,14]),(6,[12,15,16]),(7,[17030]),(8,[31033]),(9,[6,31,34048]),(10,[3005,12,49])],ghost := [(9,[4000037,1000074])],exit := [(0,[3]),(2,[3,4,5,6])],ret := [2] }
def z9w : List (Nat × List (List Nat)) := qx [(7,[[],[],[],[],[3],[3],[],[],[4007],[4008],[4007],[4007],[4007],[],[]]),(9,[[],[0],[],[],[1003],[1004],[1003],[1003],[1003],[1003],[],[1010],[1011],[1010],[],[]])]
@[irreducible] def l_law07_ids_0 : ACode := vl (x := codeL Tryz.prog Tryz.f23 z6n z9w 0 [])
@[irreducible] def l_law07_ids_1 : ACode := vl (x := codeL Tryz.prog Tryz.f23 z6n z9w 1 [l_law07_ids_0])
def zeX : ACode := vl (x := codeC Tryz.prog Tryz.f23 z6n z9w [l_law07_ids_0, l_law07_ids_1])
def zb1 : AFn := .code zeX [.t 2] 50 true
def zdk : Hints := { kill := kx [(0,[0,2]),(1,[1,3008])],ret := [2] }
def zj7 : List (Nat × List (List Nat)) := qx [(1,[[],[],[],[1002],[],[],[]])]
def zaz : ACode := vl (x := codeC Tryz.prog Tryz.f19 zdk zj7 [])
def z7T : AFn := .code zaz [.t 2] 9 true
def zds : Hints := { kill := kx [(0,[0,2]),(1,[1,3005])],ret := [2] }
def zaC : ACode := vl (x := codeC Tryz.prog Tryz.f58 zds [] [])
def z7W : AFn := .code zaC [.t 2] 6 true
def zd2 : Hints := { kill := kx [(0,[0,2]),(1,[3,4]),(2,[1,5]),(3,[1,5007])],ret := [2] }
def zan : ACode := vl (x := codeC Tryz.prog Tryz.f112 zd2 [] [])
def z7D : AFn := .code zan [.t 2] 8 true
def z9c : Hints := { kill := kx [(0,[0,2]),(3,[5009]),(4,[11,12]),(5,[10,13022]),(6,[1,3,4,10,23])],acc := [3],exit := [(0,[3])],ret := [2] }
@[irreducible] def l_ref07_Leased_0 : ACode := vl (x := codeL Tryz.prog Tryz.f59 z9c [] 0 [])
def zaB : ACode := vl (x := codeC Tryz.prog Tryz.f59 z9c [] [l_ref07_Leased_0])
def z57 : AFn := .code zaB [.t 2] 24 true
def zdM : Hints := { kill := kx [(0,[0,1,11]),(1,[14022]),(2,[23]),(3,[2006,12,24026]),(4,[3,12,24,28033]),(5,[2,4006,27,34]),(6,[27,36039]),(7,[2,4006,35,40]),(8,[13,35]),(9,[41,42]),(10,[2,4,6,43054]),(11,[55]),(12,[5,13,56058]),(13,[5,13,56,59])],ret := [10,11] }
def zje : List (Nat × List (List Nat)) := qx [(1,[[],[0],[0],[1002],[0],[1004],[0],[0],[],[]])]
def z1f : ACode := vl (x := codeC Tryz.prog Tryz.f27 zdM zje [])
def z5p : AFn := .code z1f [.c 10 true 8, .t 11] 60 true
def zcC : Hints := { kill := kx [(0,[0,7]),(1,[14,15]),(2,[16]),(3,[1003,8,17019]),(4,[8,17,20025]),(5,[10,27,28]),(6,[1003,9,26,29]),(7,[26,31033]),(8,[1003,9,30,34]),(9,[30,35041]),(10,[42]),(11,[1003,9,11,12,43045]),(12,[1,43,46053]),(13,[54]),(14,[2,3,9,11,12,55057]),(15,[3,12,55,58060]),(16,[2,9,61065]),(17,[11,13,66068])],ghost := [(16,[120])],ret := [6,7] }
def z0t : ACode := vl (x := codeC Tryz.prog Tryz.f66 zcC [] [])
def z4t : AFn := .code z0t [.c 6 true 2, .t 7] 69 true
def z6q : Hints := { kill := kx [(0,[0,2]),(1,[9011]),(2,[12]),(3,[1,3,13,14]),(4,[3,13,15017]),(5,[18]),(6,[1,4,19,20]),(7,[4,19,21028]),(8,[29,30]),(9,[1,5,31042]),(10,[43]),(11,[43]),(12,[31,44048]),(13,[1,5,49]),(14,[5,49054]),(15,[1,55]),(16,[55057]),(18,[58060]),(19,[62,63,81]),(20,[61,64080]),(21,[1,6,7,81]),(22,[1,7,61]),(23,[82084]),(24,[86,87,96]),(25,[85,88095]),(26,[6,8,96]),(27,[6,8,85])],exit := [(0,[6])],ret := [2] }
def z9z : List (Nat × List (List Nat)) := qx [(20,[[],[0],[],[],[],[1004],[1004],[],[],[],[9],[],[],[],[10013],[10013],[],[]])]
@[irreducible] def l_ref07_Validate_0 : ACode := vl (x := codeL Tryz.prog Tryz.f29 z6q z9z 0 [])
@[irreducible] def l_ref07_Validate_1 : ACode := vl (x := codeL Tryz.prog Tryz.f29 z6q z9z 1 [])
def zh : ACode := vl (x := codeC Tryz.prog Tryz.f29 z6q z9z [l_ref07_Validate_0, l_ref07_Validate_1])
def z7Y : AFn := .code zh [.t 2] 97 true
def zdy : Hints := { kill := kx [(0,[4]),(1,[0,1,5015])],ret := [4] }
def z6U : ACode := vl (x := codeC Tryz.prog Tryz.f70 zdy [] [])
def z5e : AFn := .code z6U [.t 4] 16 true
def z8Z : Hints := { kill := kx [(0,[2]),(1,[0,8,9]),(2,[10,11]),(4,[12]),(5,[14,15,40]),(6,[13,16020]),(7,[6,7,21039]),(8,[3005,40]),(9,[5,13,41]),(10,[44]),(11,[42,43,45048]),(12,[43,50]),(13,[42,49,51054]),(14,[42,49,56]),(15,[55,57059]),(16,[3,4,55,60087])],obj := [(11,[true]),(18,[true,false]),(20,[true]),(30,[true,false,false]),(35,[true,false,false,false]),(42,[true,false]),(58,[true,false]),(63,[true,false]),(65,[true]),(77,[true,false,false,false]),(80,[true,false]),(82,[true])],exit := [(0,[3,4])],ret := [2] }
def zen : List (Nat × List (List Nat)) := qx [(7,[[],[0],[0,1],[],[],[],[],[6],[6,7],[6,7],[7009],[7009],[7011],[7011],[6],[7014],[7015],[],[],[]]),(16,[[],[0],[0,1],[0],[1003],[0],[],[],[],[8],[8,9],[8,9],[9011],[9011],[9013],[9013],[9011],[8],[9017],[9018],[8],[9020],[8],[],[],[],[],[],[]])]
@[irreducible] def l_law07_ShardServes_0 : ACode := vl (x := codeL Tryz.prog Tryz.f6 z8Z zen 0 [])
def zu : ACode := vl (x := codeC Tryz.prog Tryz.f6 z8Z zen [l_law07_ShardServes_0])
def z4o : AFn := .code zu [.t 2] 88 true
def zcB : Hints := { kill := kx [(0,[0,1,2,6]),(1,[11019]),(2,[20028]),(3,[3005,7010,29078])],ret := [6] }
def ziU : List (Nat × List (List Nat)) := qx [(3,[[],[],[0,1],[],[],[],[],[],[6,7],[],[],[],[],[],[13],[13],[],[14016],[14017],[14017],[],[],[],[],[],[24],[],[],[],[],[29],[],[],[],[],[34],[34,35],[34,35],[35037],[35037],[],[35040],[35041],[35042],[35042],[35044],[35044],[],[],[],[]])]
def z33 : ACode := vl (x := codeC Tryz.prog Tryz.f30 zcB ziU [])
def z4s : AFn := .code z33 [.t 6] 79 true
def z6r : Hints := { kill := kx [(0,[0]),(1,[12018]),(2,[1003,19]),(3,[19021]),(5,[25027]),(6,[9,28036]),(7,[37039]),(8,[37,40]),(9,[2,3,22025,41,42]),(11,[46048]),(12,[11,49052]),(13,[53055]),(14,[53,56]),(15,[1,43046,57,58])],exit := [(0,[1,3,6,7]),(2,[6,7])],ret := [6,7] }
def z9A : List (Nat × List (List Nat)) := qx [(1,[[],[0],[0],[1002],[0],[0],[],[]])]
@[irreducible] def l_shard_Counts_0 : ACode := vl (x := codeL Tryz.prog Tryz.f71 z6r z9A 0 [])
@[irreducible] def l_shard_Counts_1 : ACode := vl (x := codeL Tryz.prog Tryz.f71 z6r z9A 1 [])
def z6X : ACode := vl (x := codeC Tryz.prog Tryz.f71 z6r z9A [l_shard_Counts_0, l_shard_Counts_1])
def z87 : AFn := .code z6X [.t 6, .t 7] 59 true
def z6p : Hints := { kill := kx [(0,[0,6,7]),(1,[14025]),(2,[1003,26]),(3,[26]),(4,[3,27030]),(6,[31033]),(7,[35,36,52]),(8,[34,37051]),(9,[52054]),(10,[2,10,12,34]),(11,[55057]),(12,[59,60,67]),(13,[58,61066]),(14,[67069]),(15,[1,8,9,11,13,58,70,71])],exit := [(0,[1,8,9,11]),(2,[8,9])],ret := [6,7] }
def z9y : List (Nat × List (List Nat)) := qx [(4,[[],[],[0,1],[],[],[]])]
@[irreducible] def l_ref07_Counts_0 : ACode := vl (x := codeL Tryz.prog Tryz.f72 z6p z9y 0 [])
@[irreducible] def l_ref07_Counts_1 : ACode := vl (x := codeL Tryz.prog Tryz.f72 z6p z9y 1 [])
def z3d : ACode := vl (x := codeC Tryz.prog Tryz.f72 z6p z9y [l_ref07_Counts_0, l_ref07_Counts_1])
def z7U : AFn := .code z3d [.t 6, .t 7] 72 true
def zdo : Hints := { kill := kx [(0,[0,2]),(1,[4,5]),(2,[6]),(3,[1,3,7,8]),(4,[1,3,7,9,10]),(5,[11]),(6,[11])],ret := [2] }
def z3S : ACode := vl (x := codeC Tryz.prog Tryz.f126 zdo [] [])
def z7V : AFn := .code z3S [.t 2] 12 true
def zdv : Hints := { kill := kx [(0,[2]),(1,[0,3008])],ret := [2] }
def z6S : ACode := vl (x := codeC Tryz.prog Tryz.f127 zdv [] [])
def z7Z : AFn := .code z6S [.t 2] 9 true
def zdx : Hints := { kill := kx [(0,[2]),(1,[0,3008])],ret := [2] }
def z6T : ACode := vl (x := codeC Tryz.prog Tryz.f128 zdx [] [])
def z80 : AFn := .code z6T [.t 2] 9 true
def zcW : Hints := { kill := kx [(0,[0,4]),(1,[1,2,5008])],ret := [4] }
def z6N : ACode := vl (x := codeC Tryz.prog Tryz.f129 zcW [] [])
def z7A : AFn := .code z6N [.t 4] 9 true
def zcY : Hints := { kill := kx [(0,[0,4]),(1,[1,2,5008])],ret := [4] }
def zam : ACode := vl (x := codeC Tryz.prog Tryz.f130 zcY [] [])
def z7B : AFn := .code zam [.t 4] 9 true
def zdu : Hints := { kill := kx [(0,[0,2]),(1,[3,4]),(2,[1,5]),(3,[1,5013])],ret := [2] }
def z3U : ACode := vl (x := codeC Tryz.prog Tryz.f73 zdu [] [])
def z5b : AFn := .code z3U [.t 2] 14 true
def zdQ : Hints := { kill := kx [(0,[0,4]),(1,[1,2,5015])],ret := [4] }
def z6Z : ACode := vl (x := codeC Tryz.prog Tryz.f74 zdQ [] [])
def z5u : AFn := .code z6Z [.t 4] 16 true
def zdq : Hints := { kill := kx [(0,[0,4]),(1,[1,2,5019])],ret := [4] }
def z3e : ACode := vl (x := codeC Tryz.prog Tryz.f75 zdq [] [])
def z59 : AFn := .code z3e [.t 4] 20 true
def zdn : Hints := { kill := kx [(0,[0,1,8]),(1,[11022]),(2,[2005,23]),(3,[4,23031]),(4,[2,3,5,9,10,32061])],ret := [8] }
def z0w : ACode := vl (x := codeC Tryz.prog Tryz.f76 zdn [] [])
def z56 : AFn := .code z0w [.t 8] 62 true
def zdz : Hints := { kill := kx [(0,[2]),(1,[0,3008])],ret := [2] }
def z3V : ACode := vl (x := codeC Tryz.prog Tryz.f131 zdz [] [])
def z5f : AFn := .code z3V [.t 2] 9 true
def zdg : Hints := { kill := kx [(0,[0,5]),(1,[1,7009]),(2,[10015]),(3,[2,6,16,17]),(4,[2,6,16,18022])],ret := [4,5] }
def z3P : ACode := vl (x := codeC Tryz.prog Tryz.f132 zdg [] [])
def z7M : AFn := .code z3P [.c 4 true 8, .t 5] 23 true
def z6F : ACode :=
 (.seq (.ops [] [oP 8 (.alloc (.d (.agg [.int .i64 0, .int .i64 0, .int .i64 0, .int .i64 0, .int .i64 0, .int .i64 0, .str []])))] [])
 (.seq (.ops [] [oM 10 0, oM 11 1, oM 12 2, oM 13 3, oP 14 (.call ze [true, false, false, false] [.t 10, .t 11, .t 12, .t 13]), oP 9 (.alloc (.d (.agg [.int .i64 0, .int .i64 0, .int .i64 0, .int .i64 0, .int .i64 0, .int .i64 0, .str []]))), oN (.st 7 (.t 9) (.t 14))] [1, 2, 3, 10, 11, 12, 13, 14])
 (.seq (.seq (.ops [] [oM 15 0, oP 16 (.call zm [true, false] [.t 15, kI 12])] [15])
 (.block 0 (.seq (.ops [] [oP 18 (.bin .eql (.t 16) (kI 0)), oM 17 18] [18])
 (.cond (.t 17) (.ops [] [oM 19 0, oP 20 (.bsl 4 1 (aI 0) [(0, kI 0), (1, kI 1073741824), (2, kI 1073741825), (3, kI (-1))]), oP 21 (.call zd [true, false] [.t 19, .t 20]), oP 22 (.fad false 0 1 (.t 9)), oN (.st 1 (.t 22) (.t 21))] [0, 16, 17, 19, 20, 21, 22]) (.seq (.ops [] [oP 24 (.bin .eql (.t 16) (kI 1)), oM 23 24] [17, 24])
 (.cond (.t 23) (.ops [] [oM 25 0, oP 26 (.bsl 3 1 (aI 0) [(0, kI (-1)), (1, kI 65535), (2, kI 65536)]), oP 27 (.call zd [true, false] [.t 25, .t 26]), oP 28 (.fad false 1 1 (.t 9)), oN (.st 1 (.t 28) (.t 27))] [0, 16, 23, 25, 26, 27, 28]) (.seq (.ops [] [oP 30 (.bin .eql (.t 16) (kI 2)), oM 29 30] [23, 30])
 (.cond (.t 29) (.ops [] [oM 31 0, oP 32 (.fad false 3 1 (.t 9)), oP 33 (.ld false 1 (.t 32)), oP 34 (.fad false 3 1 (.t 9)), oP 35 (.ld false 1 (.t 34)), oP 36 (.bin .sub (.t 35) (kI 1)), oP 37 (.bsl 4 1 (aI 0) [(0, .t 33), (1, .t 36), (2, kI 65536), (3, kI 65537)]), oP 38 (.call zd [true, false] [.t 31, .t 37]), oP 39 (.fad false 4 1 (.t 9)), oN (.st 1 (.t 39) (.t 38))] [0, 16, 29, 31, 32, 33, 34, 35, 36, 37, 38, 39]) (.seq (.ops [] [oP 41 (.bin .eql (.t 16) (kI 3)), oM 40 41] [29, 41])
 (.cond (.t 40) (.seq (.ops [] [oM 42 0, oP 43 (.bsl 3 1 (aI 0) [(0, kI 8), (1, kI 9), (2, kI (-1))]), oP 44 (.call zd [true, false] [.t 42, .t 43]), oP 45 (.fad false 3 1 (.t 9)), oN (.st 1 (.t 45) (.t 44))] [0, 16, 40, 42, 43, 44, 45])
 (.ops [] [oP 46 (.fad false 4 1 (.t 9)), oP 47 (.ld false 1 (.t 46)), oP 48 (.fad false 3 1 (.t 9)), oP 49 (.ld false 1 (.t 48)), oP 50 (.mm true [.t 47, .t 49]), oP 51 (.fad false 4 1 (.t 9)), oN (.st 1 (.t 51) (.t 50))] [46, 47, 48, 49, 50, 51])) (.seq (.ops [] [oP 53 (.bin .eql (.t 16) (kI 4)), oM 52 53] [40, 53])
 (.cond (.t 52) (.draw [] [oP 54 (.sls (.c (.d (.str [48, 49, 50, 51, 52, 53, 54, 55, 56, 57, 97, 98, 99, 100, 101, 102]))) none (some (kI 15))), oM 55 0, oP 56 (.call zB [true] [.t 55]), oP 57 (.bin .add (.t 54) (.t 56)), oP 58 (.fad false 6 1 (.t 9)), oN (.st 1 (.t 58) (.t 57))] [[], [0], [0], [], [], []] [0, 16, 52, 54, 55, 56, 57, 58]) (.seq (.ops [] [oP 60 (.bin .eql (.t 16) (kI 5)), oM 59 60] [52, 60])
 (.cond (.t 59) (.ops [] [oM 61 0, oP 62 (.bsl 3 1 (aI 0) [(0, kI (-1)), (1, kI 1073741824), (2, kI 1073741825)]), oP 63 (.call zd [true, false] [.t 61, .t 62]), oP 64 (.fad false 5 1 (.t 9)), oN (.st 1 (.t 64) (.t 63))] [0, 16, 59, 61, 62, 63, 64]) (.seq (.ops [] [oP 66 (.bin .eql (.t 16) (kI 6)), oM 65 66] [16, 59, 66])
 (.cond (.t 65) (.ops [] [oM 67 0, oP 68 (.bsl 3 1 (aI 0) [(0, kI (-1)), (1, kI 65536), (2, kI 65537)]), oP 69 (.call zd [true, false] [.t 67, .t 68]), oP 70 (.fad false 2 1 (.t 9)), oN (.st 1 (.t 70) (.t 69))] [0, 65, 67, 68, 69, 70]) .skip))))))))))))))))
 (.seq (.ops [] [oP 71 (.ld true 7 (.t 9)), oN (.st 7 (.t 8) (.t 71))] [0, 9, 65, 71])
 (.ret [8])))))
def z7h : AFn := .code z6F [.c 8 true 7] 72 true
def zcz : Hints := { kill := kx [(0,[0,1003,8]),(1,[15020]),(2,[5,21026]),(3,[10,12,27030]),(4,[4,6,7,9,11,31]),(5,[31047]),(6,[48063]),(7,[10,12014,64073]),(8,[4,6,7,9,11,74]),(9,[74084]),(10,[85094]),(11,[10,12,95098]),(12,[4,6,7,9,11,99]),(13,[99111]),(14,[112123]),(15,[10,12,124127]),(16,[4,6,7,9,11,128]),(17,[128140]),(18,[4,6,7,141152]),(19,[9012,153158])],ret := [8] }
def za9 : ACode := vl (x := codeC Tryz.prog Tryz.f31 zcz [] [])
def z4r : AFn := .code za9 [.t 8] 159 true
def zdr : Hints := { kill := kx [(0,[0,1,5]),(1,[8,9]),(2,[10]),(3,[2,3,6,11013]),(4,[6,11,14,15]),(5,[16]),(6,[2,3,7,17019]),(7,[7,17,21032]),(8,[2,3,20,33]),(9,[20,35041]),(10,[2,3,34,42]),(11,[34,44049]),(12,[2,3,43,50]),(13,[3,43,51058]),(14,[2,59])],ret := [4,5] }
def zja : List (Nat × List (List Nat)) := qx [(9,[[],[],[0,1],[0,1],[0,1],[0,1],[],[]]),(11,[[],[],[0,1],[0,1],[],[],[]])]
def zO : ACode := vl (x := codeC Tryz.prog Tryz.f77 zdr zja [])
def z5a : AFn := .code zO [.c 4 true 8, .t 5] 60 true
def zcy : Hints := { kill := kx [(0,[0,2,8]),(1,[1,3,4,6,9017])],ret := [8] }
def za8 : ACode := vl (x := codeC Tryz.prog Tryz.f78 zcy [] [])
def z4q : AFn := .code za8 [.t 8] 18 true
def zdt : Hints := { kill := kx [(0,[0,1,4]),(1,[2,3,5037])],ret := [4] }
def zaD : ACode := vl (x := codeC Tryz.prog Tryz.f134 zdt [] [])
def z7X : AFn := .code zaD [.t 4] 38 true
def zd7 : Hints := { kill := kx [(0,[0,1,4]),(1,[2,3,5023])],ret := [4] }
def zap : ACode := vl (x := codeC Tryz.prog Tryz.f172 zd7 [] [])
def z4R : AFn := .code zap [.t 4] 24 true
def z9r : ACode :=
 (.seq (.seq (.ops [] [oM 11 5, oM 12 0, oP 13 (.len (.t 12)), oP 14 (.bin .lss (.t 11) (.t 13))] [11, 12, 13])
 (.cond (.t 14) .skip (.exit 0 [])))
 (.seq (.block 1 (.seq (.draw [] [oM 17 0, oM 18 5, oP 19 (.iad 7 (.t 17) (.t 18)), oP 20 (.ld true 7 (.t 19)), oM 21 1, oM 22 5, oP 23 (.iad 7 (.t 21) (.t 22)), oP 24 (.ld true 7 (.t 23)), oP 25 (.eqs true 7 [(0, 0), (1, 0), (2, 0), (3, 0), (4, 0), (5, 0), (6, 2)] (.t 20) (.t 24))] [[], [0], [], [], [0, 1, 2, 3], [0, 1, 2, 3, 4], [0, 1, 2, 3], [0, 1, 2, 3], []] [14, 17, 18, 19, 20, 21, 22, 23, 24])
 (.cond (.t 25) (.seq (.ops [] [oP 4 (.mv (.c (.d (.bool false))))] [0, 1, 5, 25])
 (.ret [4])) .skip)))
 (.ops [] [oM 15 5, oP 16 (.bin .add (.t 15) (kI 1)), oM 5 16] [15, 16, 25])))
def z38 : ACode :=
 (.seq (.ops [] [oP 4 (.mv (.c (.d (.bool false))))] [4])
 (.seq (.seq (.ops [] [oM 6 0, oP 7 (.len (.t 6)), oM 8 1, oP 9 (.len (.t 8)), oP 10 (.bin .neq (.t 7) (.t 9))] [6, 7, 8, 9])
 (.cond (.t 10) (.seq (.ops [] [oP 4 (.mv (.c (.d (.bool false))))] [0, 1, 10])
 (.ret [4])) .skip))
 (.seq (.seq (.ops [] [oP 5 (.mv (kI 0))] [10])
 (.block 0 (.loop [] z9r)))
 (.seq (.ops [] [oP 4 (.mv (.c (.d (.bool true))))] [0, 1, 5, 14])
 (.ret [4])))))
def z4N : AFn := .code z38 [.t 4] 26 true
def zdi : Hints := { kill := kx [(0,[0,1,4]),(1,[2,3,5016])],ret := [4] }
def zay : ACode := vl (x := codeC Tryz.prog Tryz.f173 zdi [] [])
def z7P : AFn := .code zay [.t 4] 17 true
def z9t : ACode :=
 (.seq (.seq (.ops [] [oM 11 5, oM 12 0, oP 13 (.len (.t 12)), oP 14 (.bin .lss (.t 11) (.t 13))] [11, 12, 13])
 (.cond (.t 14) .skip (.exit 0 [])))
 (.seq (.block 1 (.seq (.draw [] [oM 17 0, oM 18 5, oP 19 (.iad 8 (.t 17) (.t 18)), oP 20 (.ld true 8 (.t 19)), oM 21 1, oM 22 5, oP 23 (.iad 8 (.t 21) (.t 22)), oP 24 (.ld true 8 (.t 23)), oP 25 (.eqs true 8 [(0, 0), (1, 0), (2, 0), (3, 0), (4, 0), (5, 0), (6, 2), (7, 0)] (.t 20) (.t 24))] [[], [0], [], [], [0, 1, 2, 3], [0, 1, 2, 3, 4], [0, 1, 2, 3], [0, 1, 2, 3], []] [14, 17, 18, 19, 20, 21, 22, 23, 24])
 (.cond (.t 25) (.seq (.ops [] [oP 4 (.mv (.c (.d (.bool false))))] [0, 1, 5, 25])
 (.ret [4])) .skip)))
 (.ops [] [oM 15 5, oP 16 (.bin .add (.t 15) (kI 1)), oM 5 16] [15, 16, 25])))
def z3c : ACode :=
 (.seq (.ops [] [oP 4 (.mv (.c (.d (.bool false))))] [4])
 (.seq (.seq (.ops [] [oM 6 0, oP 7 (.len (.t 6)), oM 8 1, oP 9 (.len (.t 8)), oP 10 (.bin .neq (.t 7) (.t 9))] [6, 7, 8, 9])
 (.cond (.t 10) (.seq (.ops [] [oP 4 (.mv (.c (.d (.bool false))))] [0, 1, 10])
 (.ret [4])) .skip))
 (.seq (.seq (.ops [] [oP 5 (.mv (kI 0))] [10])
 (.block 0 (.loop [] z9t)))
 (.seq (.ops [] [oP 4 (.mv (.c (.d (.bool true))))] [0, 1, 5, 14])
 (.ret [4])))))
def z7Q : AFn := .code z3c [.t 4] 26 true
def z9s : ACode :=
 (.seq (.seq (.ops [] [oM 11 5, oM 12 0, oP 13 (.len (.t 12)), oP 14 (.bin .lss (.t 11) (.t 13))] [11, 12, 13])
 (.cond (.t 14) .skip (.exit 0 [])))
 (.seq (.block 1 (.seq (.draw [] [oM 17 0, oM 18 5, oP 19 (.iad 2 (.t 17) (.t 18)), oP 20 (.ld true 2 (.t 19)), oM 21 1, oM 22 5, oP 23 (.iad 2 (.t 21) (.t 22)), oP 24 (.ld true 2 (.t 23)), oP 25 (.eqs true 2 [(0, 0), (1, 0)] (.t 20) (.t 24))] [[], [0], [], [], [0, 1, 2, 3], [0, 1, 2, 3, 4], [0, 1, 2, 3], [0, 1, 2, 3], []] [14, 17, 18, 19, 20, 21, 22, 23, 24])
 (.cond (.t 25) (.seq (.ops [] [oP 4 (.mv (.c (.d (.bool false))))] [0, 1, 5, 25])
 (.ret [4])) .skip)))
 (.ops [] [oM 15 5, oP 16 (.bin .add (.t 15) (kI 1)), oM 5 16] [15, 16, 25])))
def z3a : ACode :=
 (.seq (.ops [] [oP 4 (.mv (.c (.d (.bool false))))] [4])
 (.seq (.seq (.ops [] [oM 6 0, oP 7 (.len (.t 6)), oM 8 1, oP 9 (.len (.t 8)), oP 10 (.bin .neq (.t 7) (.t 9))] [6, 7, 8, 9])
 (.cond (.t 10) (.seq (.ops [] [oP 4 (.mv (.c (.d (.bool false))))] [0, 1, 10])
 (.ret [4])) .skip))
 (.seq (.seq (.ops [] [oP 5 (.mv (kI 0))] [10])
 (.block 0 (.loop [] z9s)))
 (.seq (.ops [] [oP 4 (.mv (.c (.d (.bool true))))] [0, 1, 5, 14])
 (.ret [4])))))
def z7J : AFn := .code z3a [.t 4] 26 true
def z9d : Hints := { kill := kx [(0,[0,13,14]),(1,[21,22]),(2,[23]),(3,[1006,15,24026]),(4,[15,24,27051]),(5,[1006,52,53]),(6,[52,54056]),(7,[1006,57,58]),(8,[57]),(9,[59,60]),(11,[61069]),(12,[71,72,80]),(13,[70,73079]),(14,[20,80088]),(15,[89098]),(16,[99109]),(17,[19,110117]),(18,[1006,16018,70,118,119])],acc := [16],exit := [(0,[6,12,16]),(1,[1,2,3,4,5,6,12,16,17,18])],ret := [12,13,14] }
@[irreducible] def l_ref07_Take_0 : ACode := vl (x := codeL Tryz.prog Tryz.f79 z9d [] 0 [])
def zg : ACode := vl (x := codeC Tryz.prog Tryz.f79 z9d [] [l_ref07_Take_0])
def z5c : AFn := .code zg [.c 12 true 8, .t 13, .t 14] 120 true
def zdA : Hints := { kill := kx [(0,[2]),(1,[0,3008])],ret := [2] }
def z3W : ACode := vl (x := codeC Tryz.prog Tryz.f135 zdA [] [])
def z5g : AFn := .code z3W [.t 2] 9 true
def zcX : Hints := { kill := kx [(0,[0,6]),(1,[1003,7021])],ret := [6] }
def zal : ACode := vl (x := codeC Tryz.prog Tryz.f136 zcX [] [])
def z4M : AFn := .code zal [.t 6] 22 true
def zcV : Hints := { kill := kx [(0,[0,3]),(1,[5,6]),(2,[8,9]),(3,[1,4,7,10,11]),(4,[4,7,13015]),(5,[1,12,16]),(6,[12,18020]),(7,[1,17,21]),(8,[17,22025]),(9,[26029]),(10,[1,30])],ret := [2,3] }
def z37 : ACode := vl (x := codeC Tryz.prog Tryz.f137 zcV [] [])
def z4L : AFn := .code z37 [.c 2 true 7, .t 3] 31 true
def zd6 : Hints := { kill := kx [(0,[0,6]),(1,[10,11]),(2,[12]),(3,[1,2,7,13016]),(4,[7,13,17,18]),(5,[1,19021]),(6,[22]),(7,[2,8,9,23025]),(8,[2,8,9,23,26036])],ghost := [(5,[6000018])],ret := [4,5,6] }
def zj1 : List (Nat × List (List Nat)) := qx [(8,[[],[0],[0],[1002],[1003],[1002],[],[1006],[1007],[1006],[1006],[8010],[],[]])]
def z3N : ACode := vl (x := codeC Tryz.prog Tryz.f138 zd6 zj1 [])
def z7G : AFn := .code z3N [.c 4 true 3, .c 5 true 7, .t 6] 37 true
def zd0 : Hints := { kill := kx [(0,[4]),(1,[0,1,5013])],ret := [4] }
def ziY : List (Nat × List (List Nat)) := qx [(1,[[],[0],[],[],[1003],[1004],[1004],[1003],[],[]])]
def z39 : ACode := vl (x := codeC Tryz.prog Tryz.f174 zd0 ziY [])
def z4O : AFn := .code z39 [.t 4] 14 true
def zdj : Hints := { kill := kx [(0,[0,1,9]),(1,[2,3,11015]),(2,[16]),(3,[4,5,10,17019]),(4,[5,10,17,20029]),(5,[4,30])],ret := [8,9] }
def z6R : ACode := vl (x := codeC Tryz.prog Tryz.f81 zdj [] [])
def z53 : AFn := .code z6R [.c 8 true 8, .t 9] 31 true
def zdw : Hints := { kill := kx [(0,[0,1,10]),(1,[12,13]),(2,[14]),(3,[2006,11,15,16]),(4,[4,11,15,17027]),(5,[2,3,5,6,28]),(6,[2,3,5,6,28033]),(7,[34]),(8,[34])],ret := [10] }
def z0x : ACode := vl (x := codeC Tryz.prog Tryz.f140 zdw [] [])
def z5d : AFn := .code z0x [.t 10] 35 true
def zdh : Hints := { kill := kx [(0,[0,6]),(1,[12,13]),(2,[14]),(3,[1,2,7,15018]),(4,[7,15,19021]),(5,[22]),(6,[1,2,8,23025]),(7,[1,10,23,26032]),(8,[33043]),(9,[2,8,9,11,44052])],ret := [4,5,6] }
def zj6 : List (Nat × List (List Nat)) := qx [(8,[[],[],[0,1],[],[],[1004],[1004],[1006],[1006],[1004],[],[]]),(9,[[],[0],[],[1002],[1002],[1004],[1002],[1002],[1002],[4008],[],[]])]
def z3Q : ACode := vl (x := codeC Tryz.prog Tryz.f141 zdh zj6 [])
def z7O : AFn := .code z3Q [.c 4 true 2, .c 5 true 7, .t 6] 53 true
def zda : Hints := { kill := kx [(0,[4,5]),(1,[8,9]),(2,[10]),(3,[0,1,6,11,12]),(4,[1,6,11,13015]),(5,[16]),(6,[0,7,17]),(7,[0,7,17020])],ret := [4,5] }
def z3O : ACode := vl (x := codeC Tryz.prog Tryz.f176 zda [] [])
def z7I : AFn := .code z3O [.t 4, .t 5] 21 true
def zdc : Hints := { kill := kx [(0,[4]),(1,[7009]),(2,[10013]),(3,[14,15]),(4,[0,1,5,6,16,17]),(5,[0,5,16,18024]),(6,[25038]),(7,[1,6,39042]),(8,[1,6,39,43045])],ghost := [(5,[26])],obj := [(42,[false,false,true]),(45,[false,false,true])],ret := [4] }
def zj4 : List (Nat × List (List Nat)) := qx [(6,[[],[],[],[],[3],[],[],[4006],[4007],[4007],[4007],[4006],[4006],[],[]])]
def z3b : ACode := vl (x := codeC Tryz.prog Tryz.f199 zdc zj4 [])
def z4X : AFn := .code z3b [.t 4] 46 true
def z97 : Hints := { kill := kx [(0,[4]),(1,[6010]),(2,[11014]),(3,[15030]),(4,[31033]),(5,[31,34042]),(6,[0,1,5,43,44]),(7,[1,43,45048]),(8,[5,49]),(9,[0,1,11,50])],exit := [(0,[0])],ret := [4] }
def zer : List (Nat × List (List Nat)) := qx [(3,[[],[],[0,1],[0,1],[],[],[],[6],[6],[],[],[7010],[7011],[7010],[7010],[],[]]),(5,[[],[0],[],[],[1003],[1004],[1003],[1003],[],[]])]
@[irreducible] def l_ref05_down_0 : ACode := vl (x := codeL Tryz.prog Tryz.f214 z97 zer 0 [])
def z6P : ACode := vl (x := codeC Tryz.prog Tryz.f214 z97 zer [l_ref05_down_0])
def z4Y : AFn := .code z6P [.t 4] 51 true
def zdp : Hints := { kill := kx [(0,[0,1,11]),(1,[2,3,16022]),(2,[23]),(3,[4006,12,24026]),(4,[6,12,15,24,27035]),(5,[13,36,37]),(6,[4,38,39]),(7,[14,40048]),(8,[14,40,49056]),(9,[5,57])],ret := [10,11] }
def zj9 : List (Nat × List (List Nat)) := qx [(1,[[],[0],[0,1],[1002],[1003],[1003],[],[]])]
def z3T : ACode := vl (x := codeC Tryz.prog Tryz.f82 zdp zj9 [])
def z58 : AFn := .code z3T [.c 10 true 8, .t 11] 58 true
def zdl : Hints := { kill := kx [(0,[0,1,11]),(1,[3,13019]),(2,[20]),(3,[2,4006,12,21023]),(4,[12,21,24026]),(5,[2,4006,27,28]),(6,[2,4,6,27,29040]),(7,[5,41])],ret := [10,11] }
def zj8 : List (Nat × List (List Nat)) := qx [(1,[[],[0],[0,1],[1002],[1003],[1003],[],[]])]
def z3R : ACode := vl (x := codeC Tryz.prog Tryz.f83 zdl zj8 [])
def z54 : AFn := .code z3R [.c 10 true 8, .t 11] 42 true
def zdf : Hints := { kill := kx [(0,[0,7]),(1,[13,14]),(2,[15]),(3,[1003,8,16018]),(4,[8,16,19021]),(5,[22]),(6,[1003,9,23,24]),(7,[23,25029]),(8,[1003,9,30,31]),(9,[11,30,32038]),(10,[1,39046]),(11,[3,47049]),(12,[2,9,50054]),(13,[10,12,55057])],ghost := [(12,[98])],ret := [6,7] }
def z1d : ACode := vl (x := codeC Tryz.prog Tryz.f143 zdf [] [])
def z7L : AFn := .code z1d [.c 6 true 2, .t 7] 58 true
end Go.Proofs.YtcjncbkhbllchaaGreat
