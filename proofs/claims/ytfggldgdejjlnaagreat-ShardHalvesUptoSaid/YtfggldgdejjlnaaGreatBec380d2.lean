/-
  Functions of the program, as the calculus has them.
-/
import Derived.Test.YtfggldgdejjlnaaGreatB457ae92
import Derived.Test.YtfggldgdejjlnaaGreatProg
set_option linter.unusedSimpArgs false
set_option linter.unusedVariables false
set_option maxHeartbeats 10000000
set_option maxRecDepth 100000
namespace Go.Proofs.YtfggldgdejjlnaaGreat
open Go Go.Sim
def zj0 : zh :=
 (.seq (.seq (.ops [] [oM 52 10, oM 53 9, oP 54 (.len (.t 53)), oP 55 (.bin .lss (.t 52) (.t 54))] [52, 53, 54])
 (.cond (.t 55) .skip (.exit 0 [4, 6, 7])))
 (.seq (.block 1 (.seq (.draw [] [oP 58 (.ld true 8 (.t 6)), oP 59 (.call zcj [] [.t 58]), oM 60 9, oM 61 10, oP 62 (.iad 7 (.t 60) (.t 61)), oP 63 (.fad false 0 1 (.t 62)), oP 64 (.ld false 1 (.t 63)), oP 65 (.call zci [] [.t 59, .t 64]), oP 66 (.bin .geq (.t 65) (kI 0)), oM 11 66] [[], [], [0, 1], [0, 1, 2], [0, 1], [0, 1], [0, 1], [], [], []] [55, 58, 59, 60, 61, 62, 63, 64, 65, 66])
 (.seq (.draw [] [oP 67 (.ld true 8 (.t 7)), oP 68 (.call zcj [] [.t 67]), oM 69 9, oM 70 10, oP 71 (.iad 7 (.t 69) (.t 70)), oP 72 (.fad false 0 1 (.t 71)), oP 73 (.ld false 1 (.t 72)), oP 74 (.call zci [] [.t 68, .t 73]), oP 75 (.bin .geq (.t 74) (kI 0)), oM 12 75] [[], [], [0, 1], [0, 1, 2], [0, 1], [0, 1], [0, 1], [], [], []] [67, 68, 69, 70, 71, 72, 73, 74, 75])
 (.seq (.ops [] [oM 76 11, oM 77 9, oM 78 10, oP 79 (.iad 7 (.t 77) (.t 78)), oP 80 (.fad false 1 1 (.t 79)), oP 81 (.ld false 1 (.t 80)), oM 82 5, oP 83 (.bin .leq (.t 81) (.t 82)), oP 84 (.eqb true (.t 76) (.t 83)), oM 85 84, oQ 86 (.mv (.t 12)) 85 false, oQ 87 (.mv (.t 11)) 85 false, oQ 88 (.eqb false (.t 86) (.t 87)) 85 false, oP 89 (.pick (.t 85) (.c (.d (.bool true))) (.t 88))] [11, 12, 76, 77, 78, 79, 80, 81, 82, 83, 84, 85, 86, 87, 88])
 (.cond (.t 89) (.seq (.ops [] [oP 2 (.mv (.c (.d (.bool false))))] [4, 5, 6, 7, 9, 10, 89])
 (.ret [2])) .skip)))))
 (.ops [] [oM 56 10, oP 57 (.bin .add (.t 56) (kI 1)), oM 10 57] [56, 57, 89])))
def znI : zh :=
 (.seq (.seq (.ops [] [oM 131 15, oP 132 (.fad true 6 2 (.t 4)), oP 133 (.fad false 0 1 (.t 132)), oP 134 (.ld false 1 (.t 133)), oP 135 (.len (.t 134)), oP 136 (.bin .lss (.t 131) (.t 135))] [131, 132, 133, 134, 135])
 (.cond (.t 136) .skip (.exit 2 [4, 6, 7])))
 (.seq (.block 3 (.seq (.draw [] [oP 139 (.fad true 6 2 (.t 13)), oP 140 (.fad false 0 1 (.t 139)), oP 141 (.ld false 1 (.t 140)), oM 142 15, oP 143 (.iad 8 (.t 141) (.t 142)), oP 144 (.ld true 8 (.t 143)), oP 145 (.fad true 6 2 (.t 4)), oP 146 (.fad false 0 1 (.t 145)), oP 147 (.ld false 1 (.t 146)), oM 148 15, oP 149 (.iad 8 (.t 147) (.t 148)), oP 150 (.ld true 8 (.t 149)), oP 151 (.eqs true 8 [(0, 0), (1, 0), (2, 0), (3, 0), (4, 0), (5, 0), (6, 2), (7, 0)] (.t 144) (.t 150))] [[], [], [], [0, 1, 2], [], [], [0, 1, 2, 3, 4, 5], [0, 1, 2, 3, 4, 5], [0, 1, 2, 3, 4, 5], [0, 1, 2, 3, 4, 5, 6, 7, 8], [0, 1, 2, 3, 4, 5], [0, 1, 2, 3, 4, 5], []] [136, 139, 140, 141, 142, 143, 144, 145, 146, 147, 148, 149, 150])
 (.cond (.t 151) (.seq (.ops [] [oP 2 (.mv (.c (.d (.bool false))))] [4, 6, 7, 13, 15, 151])
 (.ret [2])) .skip)))
 (.ops [] [oM 137 15, oP 138 (.bin .add (.t 137) (kI 1)), oM 15 138] [137, 138, 151])))
def zgt : zh :=
 (.seq (.ops [] [oP 2 (.mv (.c (.d (.bool false))))] [2])
 (.seq (.ops [] [oM 16 0, oP 17 (.call zcW [] [.t 16]), oM 3 17] [0, 16, 17])
 (.seq (.ops [] [oM 18 3, oP 19 (.call zcX [true] [.t 18]), oP 4 (.alloc (.agg [.d (.bool false), aI 0, aI 0, .xsl [], aI 0, aI 0, .xsl [], .xsl []])), oN (.st 8 (.t 4) (.t 19))] [18, 19])
 (.seq (.ops [] [oM 20 3, oP 21 (.bsl 5 1 (aI 0) [(0, kI 0), (1, kI 100), (2, kI 20000), (3, kI 32768), (4, kI 40000)]), oP 22 (.call zcv [true, false] [.t 20, .t 21]), oM 5 22] [3, 20, 21, 22])
 (.seq (.ops [] [oP 24 (.ld true 8 (.t 4)), oM 25 5, oP 26 (.call zdV [] [.t 24, .t 25]), oM 23 26, oP 27 (.ext (.t 23) 0), oP 28 (.ext (.t 23) 1), oP 29 (.ext (.t 23) 2), oP 6 (.alloc (.agg [.d (.bool false), aI 0, aI 0, .xsl [], aI 0, aI 0, .xsl [], .xsl []])), oP 7 (.alloc (.agg [.d (.bool false), aI 0, aI 0, .xsl [], aI 0, aI 0, .xsl [], .xsl []])), oN (.st 8 (.t 6) (.t 27)), oN (.st 8 (.t 7) (.t 28)), oM 8 29] [23, 24, 25, 26, 27, 28, 29])
 (.seq (.seq (.ops [] [oM 30 8, oP 31 (.bin .neq (.t 30) (kI 0))] [8, 30])
 (.cond (.t 31) (.seq (.ops [] [oP 32 (.fad false 0 1 (.t 4)), oP 33 (.ld false 1 (.t 32)), oP 34 (.un .not (.t 33)), oM 35 34, oQ 36 (.mv (.t 5)) 35 false, oQ 37 (.fad false 1 1 (.t 4)) 35 false, oQ 38 (.ld false 1 (.t 37)) 35 false, oQ 39 (.bin .lss (.t 36) (.t 38)) 35 false, oP 40 (.pick (.t 35) (.c (.d (.bool true))) (.t 39)), oM 41 40, oQ 42 (.mv (.t 5)) 41 false, oQ 43 (.fad false 2 1 (.t 4)) 41 false, oQ 44 (.ld false 1 (.t 43)) 41 false, oQ 45 (.bin .geq (.t 42) (.t 44)) 41 false, oP 46 (.pick (.t 41) (.c (.d (.bool true))) (.t 45)), oM 47 46, oQ 48 (.call zdm [] []) 47 true, oP 49 (.pick (.t 47) (.t 48) (.c (.d (.bool false)))), oM 2 49] [4, 5, 6, 7, 31, 32, 33, 34, 35, 36, 37, 38, 39, 40, 41, 42, 43, 44, 45, 46, 47, 48, 49])
 (.ret [2])) .skip))
 (.seq (.ops [] [oP 50 (.ld true 8 (.t 4)), oP 51 (.call zcj [] [.t 50]), oM 9 51] [31, 50, 51])
 (.seq (.seq (.ops [] [oP 10 (.mv (kI 0))] [])
 (.block 0 (.loop [] zj0)))
 (.seq (.ops [] [oP 91 (.ld true 8 (.t 6)), oP 92 (.ld true 8 (.t 7)), oP 93 (.call ze9 [] [.t 91, .t 92]), oM 90 93, oP 94 (.ext (.t 90) 0), oP 95 (.ext (.t 90) 1), oP 13 (.alloc (.agg [.d (.bool false), aI 0, aI 0, .xsl [], aI 0, aI 0, .xsl [], .xsl []])), oN (.st 8 (.t 13) (.t 94)), oM 14 95] [5, 9, 10, 55, 90, 91, 92, 93, 94, 95])
 (.seq (.seq (.draw [] [oM 96 14, oP 97 (.bin .neq (.t 96) (kI 0)), oM 98 97, oQ 99 (.fad false 1 1 (.t 13)) 98 false, oQ 100 (.ld false 1 (.t 99)) 98 false, oQ 101 (.fad false 1 1 (.t 4)) 98 false, oQ 102 (.ld false 1 (.t 101)) 98 false, oQ 103 (.bin .neq (.t 100) (.t 102)) 98 false, oP 104 (.pick (.t 98) (.c (.d (.bool true))) (.t 103)), oM 105 104, oQ 106 (.fad false 2 1 (.t 13)) 105 false, oQ 107 (.ld false 1 (.t 106)) 105 false, oQ 108 (.fad false 2 1 (.t 4)) 105 false, oQ 109 (.ld false 1 (.t 108)) 105 false, oQ 110 (.bin .neq (.t 107) (.t 109)) 105 false, oP 111 (.pick (.t 105) (.c (.d (.bool true))) (.t 110)), oM 112 111, oQ 113 (.ld true 8 (.t 13)) 112 false, oQ 114 (.call zcw [] [.t 113]) 112 false, oQ 115 (.ld true 8 (.t 4)) 112 false, oQ 116 (.call zcw [] [.t 115]) 112 false, oQ 117 (.call zcY [] [.t 114, .t 116]) 112 false, oQ 118 (.un .not (.t 117)) 112 false, oP 119 (.pick (.t 112) (.c (.d (.bool true))) (.t 118)), oM 120 119, oQ 121 (.fad true 6 2 (.t 13)) 120 false, oQ 122 (.fad false 0 1 (.t 121)) 120 false, oQ 123 (.ld false 1 (.t 122)) 120 false, oQ 124 (.len (.t 123)) 120 false, oQ 125 (.fad true 6 2 (.t 4)) 120 false, oQ 126 (.fad false 0 1 (.t 125)) 120 false, oQ 127 (.ld false 1 (.t 126)) 120 false, oQ 128 (.len (.t 127)) 120 false, oQ 129 (.bin .neq (.t 124) (.t 128)) 120 false, oP 130 (.pick (.t 120) (.c (.d (.bool true))) (.t 129))] [[], [], [], [], [], [3, 4], [3, 4], [], [], [], [], [], [10, 11], [10, 11], [], [], [], [], [], [17, 18], [], [], [], [], [], [], [], [], [], [25, 26, 27, 28], [25, 26, 27, 28], [25, 26, 27, 28], [25, 26, 27, 28], [], []] [14, 96, 97, 98, 99, 100, 101, 102, 103, 104, 105, 106, 107, 108, 109, 110, 111, 112, 113, 114, 115, 116, 117, 118, 119, 120, 121, 122, 123, 124, 125, 126, 127, 128, 129])
 (.cond (.t 130) (.seq (.ops [] [oP 2 (.mv (.c (.d (.bool false))))] [4, 6, 7, 13, 130])
 (.ret [2])) .skip))
 (.seq (.seq (.ops [] [oP 15 (.mv (kI 0))] [130])
 (.block 2 (.loop [] znI)))
 (.seq (.draw [] [oP 152 (.ld true 8 (.t 6)), oP 153 (.call zcZ [] [.t 152]), oP 154 (.ld true 8 (.t 7)), oP 155 (.call zcZ [] [.t 154]), oP 156 (.bin .add (.t 153) (.t 155)), oP 157 (.ld true 8 (.t 4)), oP 158 (.call zcZ [] [.t 157]), oP 159 (.bin .eql (.t 156) (.t 158)), oM 160 159, oQ 161 (.call zdm [] []) 160 true, oP 162 (.pick (.t 160) (.t 161) (.c (.d (.bool false)))), oM 2 162] [[], [], [0, 1], [], [], [0, 1, 2, 3, 4], [4], [], [], [], [], []] [4, 6, 7, 13, 15, 136, 152, 153, 154, 155, 156, 157, 158, 159, 160, 161, 162])
 (.ret [2])))))))))))))
def zjn : AFn := .code zgt [.t 2] 163 true
def zxH : zk := { kill := kx [(0,[2]),(1,[3,4]),(2,[5007]),(3,[0,5,8010])],ret := [2] }
def zpt : zh := vl (x := zm Tryz.prog Tryz.f4 zxH [] [])
def zqm : AFn := .code zpt [.t 2] 11 false
def zxQ : zk := { kill := kx [(1,[5009]),(2,[0,3,4,10013])],obj := [(7,[true]),(13,[true,false,false])],ret := [2] }
def zuF : zh := vl (x := zm Tryz.prog Tryz.f5 zxQ [] [])
def zqt : AFn := .code zuF [.c 2 true 8] 14 true
def zxR : zk := { kill := kx [(0,[2,3]),(1,[6008]),(2,[0,9011]),(3,[4,5,12017])],obj := [(8,[true,false]),(11,[true,false])],ret := [2,3] }
def zkW : zh := vl (x := zm Tryz.prog Tryz.f15 zxR [] [])
def zlO : AFn := .code zkW [.t 2, .t 3] 18 true
def zxN : zk := { kill := kx [(0,[4]),(1,[0,1,5011])],obj := [(9,[true,false])],ret := [4] }
def zuD : zh := vl (x := zm Tryz.prog Tryz.f6 zxN [] [])
def zqq : AFn := .code zuD [.t 4] 12 true
def zxM : zk := { kill := kx [(0,[4]),(1,[6]),(2,[0,1,7]),(3,[0,7011]),(4,[12]),(5,[1,13016]),(6,[1,5,13,17])],obj := [(9,[true])],ret := [4] }
def zpw : zh := vl (x := zm Tryz.prog Tryz.f17 zxM [] [])
def zqp : AFn := .code zpw [.t 4] 18 true
def zxP : zk := { kill := kx [(0,[2]),(1,[3011]),(2,[0,12]),(3,[12019]),(4,[0,20030])],ret := [2] }
def zME : List (Nat × List (List Nat)) := qx [(1,[[],[],[],[],[1003],[1003],[1003],[1003],[1003],[]]),(4,[[],[],[],[],[1003],[1003],[1003],[1003],[1003],[],[],[]])]
def zpx : zh := vl (x := zm Tryz.prog Tryz.f38 zxP zME [])
def zqs : AFn := .code zpx [.t 2] 31 true
def zxI : zk := { kill := kx [(1,[0,1,2,7010])],obj := [(10,[true,false,false,false])],ret := [6] }
def zuB : zh := vl (x := zm Tryz.prog Tryz.f16 zxI [] [])
def zlK : AFn := .code zuB [.c 6 true 8] 11 true
def zxJ : zk := { kill := kx [(1,[0,1003,9015])],obj := [(11,[true,false,false]),(15,[true,false,false,false,false])],ret := [8] }
def zuC : zh := vl (x := zm Tryz.prog Tryz.f37 zxJ [] [])
def zlL : AFn := .code zuC [.c 8 true 8] 16 true
def zxO : zk := { kill := kx [(0,[6]),(1,[0,1,2,7014])],obj := [(13,[true,false])],ret := [6] }
def zuE : zh := vl (x := zm Tryz.prog Tryz.f70 zxO [] [])
def zqr : AFn := .code zuE [.t 6] 15 true
def zxK : zk := { kill := kx [(1,[14,15]),(2,[0,1004,12,16021]),(3,[11,22]),(4,[1,16,23031]),(5,[0,2004,32047]),(6,[13,48])],obj := [(15,[true,false]),(30,[true,false,false,false,false,false]),(46,[true,false,false,false,false])],ret := [10] }
def zi3 : zh := vl (x := zm Tryz.prog Tryz.f69 zxK [] [])
def zlM : AFn := .code zi3 [.c 10 true 8] 49 true
def zyy : zk := { kill := kx [(0,[3]),(1,[0,6010]),(2,[11]),(3,[4,5,12014]),(4,[4,5,12,15,16])],ret := [2,3] }
def zvg : zh := vl (x := zm Tryz.prog Tryz.f94 zyy [] [])
def zmu : AFn := .code zvg [.c 2 true 8, .t 3] 17 true
def zyp : zk := { kill := kx [(0,[3]),(1,[4008]),(2,[0,9,10]),(3,[0,9,11013])],ret := [2,3] }
def zu5 : zh := vl (x := zm Tryz.prog Tryz.f119 zyp [] [])
def zmk : AFn := .code zu5 [.c 2 true 3, .t 3] 14 true
def zrF : zk := { kill := kx [(1,[1,14,16020]),(2,[21026]),(3,[2,27034]),(4,[35]),(5,[37,38]),(6,[36,39,40]),(7,[41051]),(8,[41,52061]),(9,[62,63]),(10,[0,3005,13,15,36,64])],obj := [(25,[true,false]),(34,[true,false]),(40,[true,false]),(48,[true,false,false,false]),(58,[true,false,false,false])],exit := [(0,[12,13])],ret := [12] }
def zAy : List (Nat × List (List Nat)) := qx [(7,[[],[0],[0,1],[1002],[1003],[0],[],[],[],[8],[9]]),(8,[[],[0],[0,1],[1002],[1003],[0],[],[],[],[8],[9]])]
@[irreducible] def znG : zh := vl (x := zY Tryz.prog Tryz.f95 zrF zAy 0 [])
def zpy : zh := vl (x := zm Tryz.prog Tryz.f95 zrF zAy [znG])
def zlN : AFn := .code zpy [.c 12 true 3] 65 true
def zxL : zk := { kill := kx [(1,[1003,10024]),(2,[25030]),(3,[0,31,32]),(4,[33,34]),(5,[9,33,35])],obj := [(17,[true,false]),(19,[true,false]),(21,[true,false]),(23,[true]),(28,[true,false]),(32,[true,false])],ret := [8] }
def zMD : List (Nat × List (List Nat)) := qx [(2,[[],[],[0,1],[0,1],[],[],[]])]
def zpv : zh := vl (x := zm Tryz.prog Tryz.f121 zxL zMD [])
def zqo : AFn := .code zpv [.c 8 true 7] 36 true
def zyl : zk := { kill := kx [(0,[2]),(1,[6010]),(2,[0,11]),(3,[0,4,11016]),(4,[3,17,18]),(5,[5,19023])],ret := [2] }
def zk5 : zh := vl (x := zm Tryz.prog Tryz.f139 zyl [] [])
def zqG : AFn := .code zk5 [.t 2] 24 true
def zrN : zk := { kill := kx [(0,[6,7]),(1,[10026]),(2,[0,1,2,27]),(3,[0,27029]),(4,[2,30,31]),(5,[32]),(6,[34,35]),(7,[33,36044]),(8,[1,8,9,33,45])],exit := [(0,[8])],ret := [6,7] }
@[irreducible] def zsv : zh := vl (x := zY Tryz.prog Tryz.f156 zrN [] 0 [])
def zu2 : zh := vl (x := zm Tryz.prog Tryz.f156 zrN [] [zsv])
def zmh : AFn := .code zu2 [.t 6, .t 7] 46 true
def zrO : zk := { kill := kx [(0,[2]),(3,[5007]),(4,[9,10]),(5,[8,11019]),(6,[0,3,4,8,20])],exit := [(0,[3])],ret := [2] }
@[irreducible] def zsw : zh := vl (x := zY Tryz.prog Tryz.f157 zrO [] 0 [])
def zu3 : zh := vl (x := zm Tryz.prog Tryz.f157 zrO [] [zsw])
def zmi : AFn := .code zu3 [.t 2] 21 true
def zyk : zk := { kill := kx [(0,[6]),(1,[7024]),(2,[0,1,2,25]),(3,[25032]),(4,[0,1,2,33,34]),(5,[0,1,2,33,35042])],ret := [6] }
def zk4 : zh := vl (x := zm Tryz.prog Tryz.f138 zyk [] [])
def zqF : AFn := .code zk4 [.t 6] 43 true
def zrE : zk := { kill := kx [(0,[2]),(1,[5007]),(3,[8010]),(4,[12,13]),(5,[11,14020]),(6,[0,3,4,11,21,22])],ghost := [(6,[15])],obj := [(6,[true,false]),(17,[true,false])],exit := [(0,[3])],ret := [2] }
@[irreducible] def zsn : zh := vl (x := zY Tryz.prog Tryz.f140 zrE [] 0 [])
def zpu : zh := vl (x := zm Tryz.prog Tryz.f140 zrE [] [zsn])
def zqn : AFn := .code zpu [.t 2] 23 true
def zyq : zk := { kill := kx [(0,[0,1,5]),(1,[7009]),(2,[10]),(3,[2,3,6,11013]),(4,[2,3,6,11,14022])],obj := [(22,[false,false,false,true])],ret := [4,5] }
def zML : List (Nat × List (List Nat)) := qx [(4,[[],[0],[0],[1002],[1002],[1004],[1004],[1002],[],[],[]])]
def zu6 : zh := vl (x := zm Tryz.prog Tryz.f120 zyq zML [])
def zqK : AFn := .code zu6 [.c 4 true 3, .t 5] 23 true
def zys : zk := { kill := kx [(0,[0,1,4]),(1,[7,8]),(2,[9]),(3,[2,3,5,10,11]),(4,[5,10,12,13]),(5,[14]),(6,[2,3,6,15,16]),(7,[6,15,17021]),(8,[2,3,22]),(9,[2,3,22027]),(10,[28]),(11,[28])],ret := [4] }
def zMN : List (Nat × List (List Nat)) := qx [(9,[[],[],[0,1],[0,1],[],[]])]
def zgv : zh := vl (x := zm Tryz.prog Tryz.f136 zys zMN [])
def zmn : AFn := .code zgv [.t 4] 29 true
def znJ : zh :=
 (.seq (.seq (.ops [] [oM 42 4, oM 43 3, oP 44 (.bin .lss (.t 42) (.t 43))] [42, 43])
 (.cond (.t 44) .skip (.exit 0 [1])))
 (.seq (.block 1 (.seq (.draw [] [oP 47 (.fad false 0 1 (.t 1)), oP 48 (.ld false 1 (.t 47)), oP 49 (.fad false 1 1 (.t 1)), oP 50 (.ld false 1 (.t 49)), oM 51 4, oP 52 (.bin .add (.t 50) (.t 51)), oM 53 3, oP 54 (.bin .rem (.t 52) (.t 53)), oP 55 (.iad 7 (.t 48) (.t 54)), oP 56 (.ld true 7 (.t 55)), oP 57 (.build [aI 0, aI 0, aI 0, aI 0, aI 0, aI 0, .d (.str [])] []), oP 58 (.eqs true 7 [(0, 0), (1, 0), (2, 0), (3, 0), (4, 0), (5, 0), (6, 2)] (.t 56) (.t 57))] [[], [], [0, 1], [0, 1], [0, 1, 2, 3], [0, 1], [0, 1, 2, 3, 4, 5], [0, 1], [], [], [0, 1, 2, 3, 4, 5, 6, 7, 8, 9], []] [44, 47, 48, 49, 50, 51, 52, 53, 54, 55, 56, 57])
 (.cond (.t 58) (.seq (.ops [] [oP 2 (.mv (kI 7))] [1, 3, 4, 58])
 (.ret [2])) .skip)))
 (.ops [] [oM 45 4, oP 46 (.bin .add (.t 45) (kI 1)), oM 4 46] [45, 46, 58])))
def znK : zh :=
 (.seq (.seq (.ops [] [oM 61 6, oM 62 5, oP 63 (.len (.t 62)), oP 64 (.bin .lss (.t 61) (.t 63))] [61, 62, 63])
 (.cond (.t 64) .skip (.exit 2 [5])))
 (.seq (.block 3 (.seq (.ops [] [oM 67 5, oM 68 6, oP 69 (.iad 7 (.t 67) (.t 68)), oP 70 (.ld true 7 (.t 69)), oP 71 (.call zf3 [] [.t 70]), oM 7 71] [64, 67, 68, 69, 70, 71])
 (.seq (.ops [] [oM 72 7, oP 73 (.bin .neq (.t 72) (kI 0))] [72])
 (.cond (.t 73) (.seq (.ops [] [oM 74 7, oM 2 74] [5, 6, 7, 73, 74])
 (.ret [2])) .skip))))
 (.ops [] [oM 65 6, oP 66 (.bin .add (.t 65) (kI 1)), oM 6 66] [7, 65, 66, 73])))
def znL : zh :=
 (.seq (.seq (.ops [] [oM 75 8, oM 76 5, oP 77 (.len (.t 76)), oP 78 (.bin .lss (.t 75) (.t 77))] [75, 76, 77])
 (.cond (.t 78) .skip (.exit 4 [])))
 (.seq (.block 5 (.seq (.ops [] [oM 81 5, oM 82 5, oM 83 8, oP 84 (.iad 7 (.t 82) (.t 83)), oP 85 (.fad false 0 1 (.t 84)), oP 86 (.ld false 1 (.t 85)), oP 87 (.call zci [] [.t 81, .t 86]), oM 88 8, oP 89 (.bin .neq (.t 87) (.t 88))] [78, 81, 82, 83, 84, 85, 86, 87, 88])
 (.cond (.t 89) (.seq (.ops [] [oP 2 (.mv (kI 10))] [5, 8, 89])
 (.ret [2])) .skip)))
 (.ops [] [oM 79 8, oP 80 (.bin .add (.t 79) (kI 1)), oM 8 80] [79, 80, 89])))
def zfl : zh :=
 (.seq (.ops [] [oP 1 (.box (.t 0)), oP 2 (.mv (kI 0))] [0, 2])
 (.seq (.ops [] [oP 9 (.fad false 0 1 (.t 1)), oP 10 (.ld false 1 (.t 9)), oP 11 (.len (.t 10)), oM 3 11] [9, 10, 11])
 (.seq (.seq (.ops [] [oM 12 3, oP 13 (.bin .lss (.t 12) (kI 1)), oM 14 13, oQ 15 (.mv (.t 3)) 14 false, oQ 16 (.bin .gtr (.t 15) (kI 12)) 14 false, oP 17 (.pick (.t 14) (.c (.d (.bool true))) (.t 16)), oM 18 17, oQ 19 (.fad false 1 1 (.t 1)) 18 false, oQ 20 (.ld false 1 (.t 19)) 18 false, oQ 21 (.bin .lss (.t 20) (kI 0)) 18 false, oP 22 (.pick (.t 18) (.c (.d (.bool true))) (.t 21)), oM 23 22, oQ 24 (.fad false 1 1 (.t 1)) 23 false, oQ 25 (.ld false 1 (.t 24)) 23 false, oQ 26 (.mv (.t 3)) 23 false, oQ 27 (.bin .geq (.t 25) (.t 26)) 23 false, oP 28 (.pick (.t 23) (.c (.d (.bool true))) (.t 27)), oM 29 28, oQ 30 (.fad false 2 1 (.t 1)) 29 false, oQ 31 (.ld false 1 (.t 30)) 29 false, oQ 32 (.bin .lss (.t 31) (kI 0)) 29 false, oP 33 (.pick (.t 29) (.c (.d (.bool true))) (.t 32)), oM 34 33, oQ 35 (.fad false 2 1 (.t 1)) 34 false, oQ 36 (.ld false 1 (.t 35)) 34 false, oQ 37 (.mv (.t 3)) 34 false, oQ 38 (.bin .gtr (.t 36) (.t 37)) 34 false, oP 39 (.pick (.t 34) (.c (.d (.bool true))) (.t 38))] [12, 13, 14, 15, 16, 17, 18, 19, 20, 21, 22, 23, 24, 25, 26, 27, 28, 29, 30, 31, 32, 33, 34, 35, 36, 37, 38])
 (.cond (.t 39) (.seq (.ops [] [oP 2 (.mv (kI 1))] [1, 3, 39])
 (.ret [2])) .skip))
 (.seq (.seq (.ops [] [oP 40 (.fad false 2 1 (.t 1)), oP 41 (.ld false 1 (.t 40)), oM 4 41] [39, 40, 41])
 (.block 0 (.loop [] znJ)))
 (.seq (.ops [] [oP 59 (.ld true 3 (.t 1)), oP 60 (.call zf6 [] [.t 59]), oM 5 60] [1, 3, 4, 44, 59, 60])
 (.seq (.seq (.ops [] [oP 6 (.mv (kI 0))] [])
 (.block 2 (.loop [] znK)))
 (.seq (.seq (.ops [] [oP 8 (.mv (kI 0))] [6, 64])
 (.block 4 (.loop [] znL)))
 (.seq (.ops [] [oP 2 (.mv (kI 0))] [5, 8, 78])
 (.ret [2])))))))))
def zml : AFn := .code zfl [.t 2] 90 true
def zrQ : zk := { kill := kx [(0,[0,2]),(3,[5007]),(4,[9,10]),(5,[8,11025]),(6,[1,3,4,8,26])],acc := [3],exit := [(0,[3])],ret := [2] }
def zAD : List (Nat × List (List Nat)) := qx [(5,[[],[0],[0],[1002],[1002],[1004],[1002],[1006],[1006],[1006],[1002],[0],[0],[0],[],[]])]
@[irreducible] def znM : zh := vl (x := zY Tryz.prog Tryz.f88 zrQ zAD 0 [])
def zu7 : zh := vl (x := zm Tryz.prog Tryz.f88 zrQ zAD [znM])
def zmm : AFn := .code zu7 [.t 2] 27 false
def zym : zk := { kill := kx [(0,[0,2]),(1,[3037]),(2,[1,38]),(3,[1,38041]),(4,[42]),(5,[42])],ret := [2] }
def zk6 : zh := vl (x := zm Tryz.prog Tryz.f109 zym [] [])
def zqI : AFn := .code zk6 [.t 2] 43 true
def zyn : zk := { kill := kx [(0,[6]),(1,[0,1,2,7014])],ret := [6] }
def zk7 : zh := vl (x := zm Tryz.prog Tryz.f131 zyn [] [])
def zmj : AFn := .code zk7 [.t 6] 15 true
def zrP : zk := { kill := kx [(0,[4]),(2,[6008]),(3,[10,11,18]),(4,[9,12017]),(5,[0,1,5,18,19]),(6,[0,1,5,9])],ret := [4] }
@[irreducible] def zsx : zh := vl (x := zY Tryz.prog Tryz.f10 zrP [] 0 [])
def zpD : zh := vl (x := zm Tryz.prog Tryz.f10 zrP [] [zsx])
def zqH : AFn := .code zpD [.t 4] 20 true
def zrR : zk := { kill := kx [(0,[0]),(1,[3,9016]),(3,[17019]),(4,[21,22]),(5,[20,23036]),(6,[1,2,7,8,20,37])],exit := [(0,[6,7])],ret := [6] }
def zAE : List (Nat × List (List Nat)) := qx [(5,[[],[],[0,1],[1002],[0,1],[1004],[1004],[1004],[0,1],[1008],[1009],[1008],[1008],[],[]])]
@[irreducible] def znN : zh := vl (x := zY Tryz.prog Tryz.f137 zrR zAE 0 [])
def zu8 : zh := vl (x := zm Tryz.prog Tryz.f137 zrR zAE [znN])
def zmo : AFn := .code zu8 [.c 6 true 3] 38 true
def zyr : zk := { kill := kx [(0,[0,1,5]),(1,[8010]),(2,[11]),(3,[2,3,6,12014]),(4,[6,12,15017]),(5,[2,3,7,18031])],obj := [(31,[false,false,false,true])],ret := [4,5] }
def zMM : List (Nat × List (List Nat)) := qx [(5,[[],[0],[0],[1002],[0],[0],[1005],[0],[1007],[1007],[1009],[1009],[1007],[],[],[]])]
def zpE : zh := vl (x := zm Tryz.prog Tryz.f122 zyr zMM [])
def zqL : AFn := .code zpE [.c 4 true 3, .t 5] 32 true
def zrG : zk := { kill := kx [(2,[1,14017]),(3,[18]),(4,[20,21]),(5,[19,22026]),(6,[27030]),(7,[13,31038]),(8,[39042]),(9,[0,2004,11,12,19,43])],obj := [(17,[true,false]),(26,[true,false,false,false]),(35,[true,false]),(41,[true,false,false])],exit := [(0,[10,11])],ret := [10] }
def zAz : List (Nat × List (List Nat)) := qx [(7,[[],[0],[0,1],[0,1],[],[],[],[6],[7]])]
@[irreducible] def zjZ : zh := vl (x := zY Tryz.prog Tryz.f96 zrG zAz 0 [])
def zpz : zh := vl (x := zm Tryz.prog Tryz.f96 zrG zAz [zjZ])
def zlP : AFn := .code zpz [.c 10 true 2] 44 true
def zrV : zk := { kill := kx [(0,[0,1,7]),(1,[14,15]),(2,[16]),(3,[2004,8,17019]),(4,[8,17,20,21]),(5,[22]),(6,[2004,9,23025]),(7,[9,23,27029]),(8,[2004,26,30]),(9,[26,32037]),(10,[2004,31,38]),(11,[31,40043]),(12,[2004,39,44]),(13,[39,46050]),(14,[2004,45,51]),(15,[45]),(16,[52067]),(17,[68070]),(18,[12,68,71080]),(19,[2,4,81090]),(20,[3,10,11,13,91098])],exit := [(1,[2,3,4,6,10])],ret := [6,7] }
def zAH : List (Nat × List (List Nat)) := qx [(16,[[],[0],[0],[0],[],[],[],[],[6,7],[],[],[],[],[7012],[7012],[],[]]),(19,[[],[],[0,1],[],[],[1004],[1005],[1004],[1004],[],[]])]
@[irreducible] def zsE : zh := vl (x := zY Tryz.prog Tryz.f123 zrV zAH 0 [])
def zdX : zh := vl (x := zm Tryz.prog Tryz.f123 zrV zAH [zsE])
def zqP : AFn := .code zdX [.c 6 true 2, .t 7] 99 true
def znv : zk := { kill := kx [(0,[0,2]),(1,[9011]),(2,[1,12]),(3,[12]),(4,[13016]),(5,[18,19,45]),(6,[17,20024]),(7,[25027]),(8,[28]),(9,[1,3005,29,30]),(10,[5,29,32035]),(11,[1,3,4,31]),(12,[31,37044]),(13,[1,3,4,36]),(14,[4,36,46061]),(15,[1,3,45]),(16,[3,17,62064]),(17,[65]),(18,[1,6,66,67]),(19,[6,66,68073]),(20,[1,74]),(21,[74]),(22,[75078]),(23,[80,81,106]),(24,[79,82089]),(25,[8,90105]),(26,[1,7,106]),(27,[1,7,79])],exit := [(0,[1])],ret := [2] }
def ztm : List (Nat × List (List Nat)) := qx [(14,[[],[],[],[],[],[],[4005],[4005],[4007],[4007],[4005],[4005],[4005],[4005],[],[],[]]),(24,[[],[0],[0],[1002],[0],[0],[0],[],[]]),(25,[[],[],[],[],[],[3,4],[],[],[],[4008],[4008],[4010],[4008],[4008],[4008],[],[]])]
@[irreducible] def zsF : zh := vl (x := zY Tryz.prog Tryz.f141 znv ztm 0 [])
@[irreducible] def znO : zh := vl (x := zY Tryz.prog Tryz.f141 znv ztm 1 [])
def zfm : zh := vl (x := zm Tryz.prog Tryz.f141 znv ztm [zsF, znO])
def zqQ : AFn := .code zfm [.t 2] 107 true
def zjQ : zk := { kill := kx [(0,[2]),(1,[6,7]),(2,[0,8]),(3,[8]),(4,[9011]),(5,[13,14,20]),(6,[12,15019]),(7,[0,3,20]),(8,[3,12]),(9,[21023]),(10,[25,26,35]),(11,[24,27034]),(12,[0,4,35]),(13,[4,24]),(14,[36038]),(15,[40,41,52]),(16,[39,42051]),(17,[0,5,52]),(18,[0,5,39])],exit := [(0,[0]),(2,[0])],ret := [2] }
def zog : List (Nat × List (List Nat)) := qx [(16,[[],[0],[],[],[1003],[1004],[1004],[1004],[1003],[1003],[]])]
@[irreducible] def zsz : zh := vl (x := zY Tryz.prog Tryz.f158 zjQ zog 0 [])
@[irreducible] def zsA : zh := vl (x := zY Tryz.prog Tryz.f158 zjQ zog 1 [])
@[irreducible] def zsB : zh := vl (x := zY Tryz.prog Tryz.f158 zjQ zog 2 [])
def zu9 : zh := vl (x := zm Tryz.prog Tryz.f158 zjQ zog [zsz, zsA, zsB])
def zqO : AFn := .code zu9 [.t 2] 53 true
def zyv : zk := { kill := kx [(0,[0,2]),(1,[1,3020])],ret := [2] }
def zvc : zh := vl (x := zm Tryz.prog Tryz.f159 zyv [] [])
def zmr : AFn := .code zvc [.t 2] 21 true
def zrT : zk := { kill := kx [(0,[4]),(2,[6008]),(3,[10,11,18]),(4,[9,12017]),(5,[0,1,5,18,19]),(6,[0,1,5,9])],ret := [4] }
@[irreducible] def zsC : zh := vl (x := zY Tryz.prog Tryz.f160 zrT [] 0 [])
def zvb : zh := vl (x := zm Tryz.prog Tryz.f160 zrT [] [zsC])
def zmq : AFn := .code zvb [.t 4] 20 true
def zyu : zk := { kill := kx [(0,[0,1,4]),(1,[2,3,5023])],ret := [4] }
def zva : zh := vl (x := zm Tryz.prog Tryz.f167 zyu [] [])
def zmp : AFn := .code zva [.t 4] 24 true
def zrW : zk := { kill := kx [(0,[0,4]),(2,[6009]),(3,[11,12,21]),(4,[10,13020]),(5,[1,2,5,21,22]),(6,[1,2,5,10])],ret := [4] }
@[irreducible] def zsG : zh := vl (x := zY Tryz.prog Tryz.f142 zrW [] 0 [])
def zpF : zh := vl (x := zm Tryz.prog Tryz.f142 zrW [] [zsG])
def zqR : AFn := .code zpF [.t 4] 23 true
def zyt : zk := { kill := kx [(0,[1,4,5]),(1,[7,8]),(2,[9]),(3,[0,3,6,10,11]),(4,[6,10,13015]),(5,[0,3,12]),(6,[12,17019]),(7,[0,3,16]),(8,[16,21025]),(9,[0,3,20]),(10,[0,3,20,26033])],obj := [(33,[false,false,true])],ret := [4,5] }
def zMO : List (Nat × List (List Nat)) := qx [(10,[[],[],[0,1],[0,1],[],[1004],[1004],[],[],[]])]
def zgw : zh := vl (x := zm Tryz.prog Tryz.f143 zyt zMO [])
def zqM : AFn := .code zgw [.t 4, .t 5] 34 true
def zrU : zk := { kill := kx [(0,[4]),(1,[5018]),(2,[19025]),(3,[26028]),(4,[0,1,19,29])],exit := [(0,[0])],ret := [4] }
def zAG : List (Nat × List (List Nat)) := qx [(1,[[],[],[],[],[3],[],[],[4006],[4007],[4007],[4007],[4006],[4006],[],[]])]
@[irreducible] def zsD : zh := vl (x := zY Tryz.prog Tryz.f161 zrU zAG 0 [])
def zve : zh := vl (x := zm Tryz.prog Tryz.f161 zrU zAG [zsD])
def zmt : AFn := .code zve [.t 4] 30 true
def zyw : zk := { kill := kx [(0,[6]),(1,[8,9]),(2,[0,1,2,10023]),(3,[7,24])],ghost := [(2,[18])],ret := [6] }
def zMP : List (Nat × List (List Nat)) := qx [(2,[[],[0],[0,1],[1002],[1003],[1004],[1003],[1003],[1007],[1008],[1007],[1007],[2,3],[2,3],[],[]])]
def zvd : zh := vl (x := zm Tryz.prog Tryz.f168 zyw zMP [])
def zms : AFn := .code zvd [.t 6] 25 true
def zyJ : zk := { kill := kx [(0,[0,6]),(1,[7,8]),(2,[9]),(3,[1,2,10013]),(4,[6,10,14022]),(5,[1,2,23025]),(6,[23,26033]),(7,[34]),(8,[1,2,35038]),(9,[1,2,35,39047]),(10,[48]),(11,[49052]),(12,[49,53,54])],ret := [4,5,6] }
def zMT : List (Nat × List (List Nat)) := qx [(12,[[],[0],[1],[],[]])]
def zi6 : zh := vl (x := zm Tryz.prog Tryz.f7 zyJ zMT [])
def zjo : AFn := .code zi6 [.c 4 true 8, .c 5 true 8, .t 6] 55 true
def zyY : zk := { kill := kx [(0,[0,2]),(1,[4,5]),(2,[6]),(3,[1,3,7,8]),(4,[1,3,7,9,10]),(5,[11]),(6,[11])],ret := [2] }
def zld : zh := vl (x := zm Tryz.prog Tryz.f18 zyY [] [])
def zq2 : AFn := .code zld [.t 2] 12 true
def zr2 : zk := { kill := kx [(0,[0,2]),(1,[9011]),(2,[12]),(3,[1,3,13,14]),(4,[3,13,15017]),(5,[18]),(6,[1,4,19,20]),(7,[4,19,21,22]),(8,[1,23035]),(9,[36]),(10,[36]),(11,[23,38043]),(12,[1,37]),(13,[37,45051]),(14,[1,44]),(15,[44,52]),(17,[53]),(19,[57059]),(20,[60066]),(21,[1,5,6,8,54056,67]),(22,[67074]),(23,[8,75077]),(24,[78]),(25,[1,5,6,54057]),(26,[79]),(27,[79])],exit := [(1,[6])],ret := [2] }
def zAM : List (Nat × List (List Nat)) := qx [(13,[[],[],[0,1],[0,1],[0,1],[0,1],[],[]])]
@[irreducible] def znU : zh := vl (x := zY Tryz.prog Tryz.f27 zr2 zAM 0 [])
def zdB : zh := vl (x := zm Tryz.prog Tryz.f27 zr2 zAM [znU])
def zqZ : AFn := .code zdB [.t 2] 80 true
def znQ : zh :=
 (.seq (.seq (.ops [] [oM 43 4, oM 44 3, oP 45 (.bin .lss (.t 43) (.t 44))] [43, 44])
 (.cond (.t 45) .skip (.exit 0 [1])))
 (.seq (.block 1 (.seq (.draw [] [oP 48 (.fad false 0 1 (.t 1)), oP 49 (.ld false 1 (.t 48)), oP 50 (.ld true 3 (.t 1)), oM 51 4, oP 52 (.call zf7 [] [.t 50, .t 51]), oP 53 (.iad 7 (.t 49) (.t 52)), oP 54 (.ld true 7 (.t 53)), oP 55 (.build [aI 0, aI 0, aI 0, aI 0, aI 0, aI 0, .d (.str [])] []), oP 56 (.eqs true 7 [(0, 0), (1, 0), (2, 0), (3, 0), (4, 0), (5, 0), (6, 2)] (.t 54) (.t 55))] [[], [], [0, 1], [0, 1, 2], [0, 1], [], [], [0, 1, 2, 3, 4, 5, 6], []] [45, 48, 49, 50, 51, 52, 53, 54, 55])
 (.cond (.t 56) (.seq (.ops [] [oP 2 (.mv (kI 7))] [1, 3, 4, 56])
 (.ret [2])) .skip)))
 (.ops [] [oM 46 4, oP 47 (.bin .add (.t 46) (kI 1)), oM 4 47] [46, 47, 56])))
def znR : zh :=
 (.seq (.ops [] [oP 62 (.bin .lss (.t 61) (.t 60))] [])
 (.seq (.cond (.t 62) .skip (.exit 2 [6]))
 (.seq (.block 3 (.seq (.ops [] [oP 63 (.iad 7 (.t 59) (.t 61)), oP 64 (.ld true 7 (.t 63)), oP 8 (.alloc (.d (.agg [.int .i64 0, .int .i64 0, .int .i64 0, .int .i64 0, .int .i64 0, .int .i64 0, .str []]))), oN (.st 7 (.t 8) (.t 64))] [62, 63, 64])
 (.seq (.seq (.ops [] [oP 65 (.ld true 7 (.t 8)), oP 66 (.call zek [] [.t 65]), oM 9 66] [65, 66])
 (.seq (.ops [] [oM 67 9, oP 68 (.bin .neq (.t 67) (kI 0))] [67])
 (.cond (.t 68) (.seq (.ops [] [oM 69 9, oM 2 69] [5, 6, 8, 9, 59, 60, 61, 68, 69])
 (.ret [2])) .skip)))
 (.seq (.ops [] [oM 70 6, oM 71 70, oQ 72 (.mv (.t 5)) 71 false, oQ 73 (.fad false 0 1 (.t 8)) 71 false, oQ 74 (.ld false 1 (.t 73)) 71 false, oQ 75 (.lkp false (.bool false) (.t 72) (.t 74)) 71 false, oP 76 (.pick (.t 71) (.c (.d (.bool true))) (.t 75)), oM 6 76] [9, 68, 70, 71, 72, 73, 74, 75, 76])
 (.ops [] [oM 77 5, oP 78 (.fad false 0 1 (.t 8)), oP 79 (.ld false 1 (.t 78)), oN (.mup (.t 77) (.t 79) (.c (.d (.bool true))))] [8, 77, 78, 79])))))
 (.ops [] [oP 80 (.bin .add (.t 61) (kI 1)), oM 61 80] [80]))))
def zfn : zh :=
 (.seq (.ops [] [oP 1 (.box (.t 0)), oP 2 (.mv (kI 0))] [0, 2])
 (.seq (.ops [] [oP 10 (.fad false 0 1 (.t 1)), oP 11 (.ld false 1 (.t 10)), oP 12 (.len (.t 11)), oM 3 12] [10, 11, 12])
 (.seq (.seq (.ops [] [oM 13 3, oP 14 (.bin .lss (.t 13) (kI 1)), oM 15 14, oQ 16 (.mv (.t 3)) 15 false, oQ 17 (.bin .gtr (.t 16) (kI 12)) 15 false, oP 18 (.pick (.t 15) (.c (.d (.bool true))) (.t 17)), oM 19 18, oQ 20 (.fad false 1 1 (.t 1)) 19 false, oQ 21 (.ld false 1 (.t 20)) 19 false, oQ 22 (.bin .lss (.t 21) (kI 0)) 19 false, oP 23 (.pick (.t 19) (.c (.d (.bool true))) (.t 22)), oM 24 23, oQ 25 (.fad false 1 1 (.t 1)) 24 false, oQ 26 (.ld false 1 (.t 25)) 24 false, oQ 27 (.mv (.t 3)) 24 false, oQ 28 (.bin .geq (.t 26) (.t 27)) 24 false, oP 29 (.pick (.t 24) (.c (.d (.bool true))) (.t 28)), oM 30 29, oQ 31 (.fad false 2 1 (.t 1)) 30 false, oQ 32 (.ld false 1 (.t 31)) 30 false, oQ 33 (.bin .lss (.t 32) (kI 0)) 30 false, oP 34 (.pick (.t 30) (.c (.d (.bool true))) (.t 33)), oM 35 34, oQ 36 (.fad false 2 1 (.t 1)) 35 false, oQ 37 (.ld false 1 (.t 36)) 35 false, oQ 38 (.mv (.t 3)) 35 false, oQ 39 (.bin .gtr (.t 37) (.t 38)) 35 false, oP 40 (.pick (.t 35) (.c (.d (.bool true))) (.t 39))] [13, 14, 15, 16, 17, 18, 19, 20, 21, 22, 23, 24, 25, 26, 27, 28, 29, 30, 31, 32, 33, 34, 35, 36, 37, 38, 39])
 (.cond (.t 40) (.seq (.ops [] [oP 2 (.mv (kI 1))] [1, 3, 40])
 (.ret [2])) .skip))
 (.seq (.seq (.ops [] [oP 41 (.fad false 2 1 (.t 1)), oP 42 (.ld false 1 (.t 41)), oM 4 42] [40, 41, 42])
 (.block 0 (.loop [] znQ)))
 (.seq (.ops [] [oP 57 .mkm, oM 5 57] [3, 4, 45, 57])
 (.seq (.ops [] [oP 6 (.mv (.c (.d (.bool false))))] [])
 (.seq (.seq (.ops [] [oP 58 (.ld true 3 (.t 1)), oP 59 (.call zf9 [] [.t 58]), oP 60 (.len (.t 59)), oP 61 (.mv (kI 0))] [1, 58])
 (.block 2 (.loop [] znR)))
 (.seq (.seq (.ops [] [oM 81 6] [5, 6, 59, 60, 61, 62])
 (.cond (.t 81) (.seq (.ops [] [oP 2 (.mv (kI 10))] [81])
 (.ret [2])) .skip))
 (.seq (.ops [] [oP 2 (.mv (kI 0))] [81])
 (.ret [2]))))))))))
def zqX : AFn := .code zfn [.t 2] 82 true
def zyE : zk := { kill := kx [(0,[0,4]),(1,[1,2,5012])],ret := [4] }
def zvl : zh := vl (x := zm Tryz.prog Tryz.f85 zyE [] [])
def zqY : AFn := .code zvl [.t 4] 13 true
def zrY : zk := { kill := kx [(0,[0,2]),(2,[5]),(4,[8,9]),(5,[4,10019]),(6,[20]),(7,[1,3,6008,21])],acc := [3],exit := [(0,[3])],ret := [2] }
def zAI : List (Nat × List (List Nat)) := qx [(5,[[],[0],[0],[1002],[1003],[1002],[0],[0],[0],[],[]])]
@[irreducible] def znS : zh := vl (x := zY Tryz.prog Tryz.f68 zrY zAI 0 [])
def zvo : zh := vl (x := zm Tryz.prog Tryz.f68 zrY zAI [znS])
def zmz : AFn := .code zvo [.t 2] 22 false
def zyi : zk := { kill := kx [(0,[0,2]),(1,[3037]),(2,[1,38]),(3,[1,38041]),(4,[42]),(5,[42])],ret := [2] }
def zk2 : zh := vl (x := zm Tryz.prog Tryz.f72 zyi [] [])
def zqE : AFn := .code zk2 [.t 2] 43 true
def zyj : zk := { kill := kx [(0,[6]),(1,[0,1,2,7014])],ret := [6] }
def zk3 : zh := vl (x := zm Tryz.prog Tryz.f97 zyj [] [])
def zmf : AFn := .code zk3 [.t 6] 15 true
def zrL : zk := { kill := kx [(0,[0,2]),(1,[7009]),(2,[1,10]),(3,[10,11]),(5,[15018]),(6,[19021]),(7,[22]),(8,[1,3005,12014,23,24]),(9,[5,23,26029]),(10,[1,3,4,12014,25]),(11,[25,31034]),(12,[1,3,4,12014,30]),(13,[3,4,30,36051]),(14,[1,12014,35]),(15,[35,52]),(16,[12015,53055]),(17,[56]),(18,[1,6,57,58]),(19,[1,6,57,59,60]),(20,[61]),(21,[61])],exit := [(0,[1])],ret := [2] }
def zAC : List (Nat × List (List Nat)) := qx [(13,[[],[],[],[],[],[],[4005],[4005],[4007],[4007],[4005],[4005],[4005],[4005],[],[],[]])]
@[irreducible] def zst : zh := vl (x := zY Tryz.prog Tryz.f62 zrL zAC 0 [])
def zgu : zh := vl (x := zm Tryz.prog Tryz.f62 zrL zAC [zst])
def zqA : AFn := .code zgu [.t 2] 62 true
def zyb : zk := { kill := kx [(0,[2]),(1,[0,3008])],ret := [2] }
def zk1 : zh := vl (x := zm Tryz.prog Tryz.f89 zyb [] [])
def zqB : AFn := .code zk1 [.t 2] 9 true
def znt : zk := { kill := kx [(0,[2]),(1,[6,7]),(2,[0,8]),(3,[8,9]),(4,[0,10]),(5,[10]),(7,[14017]),(8,[3,4,18022]),(9,[0,11013,23]),(10,[23,24]),(11,[11014]),(12,[25027]),(13,[29,30,36]),(14,[28,31035]),(15,[0,5,36]),(16,[0,5,28])],exit := [(0,[0])],ret := [2] }
@[irreducible] def zsp : zh := vl (x := zY Tryz.prog Tryz.f90 znt [] 0 [])
@[irreducible] def zsq : zh := vl (x := zY Tryz.prog Tryz.f90 znt [] 1 [])
def zuK : zh := vl (x := zm Tryz.prog Tryz.f90 znt [] [zsp, zsq])
def zqy : AFn := .code zuK [.t 2] 37 true
def zzd : zk := { kill := kx [(0,[4]),(1,[0,1,5008])],ret := [4] }
def zvG : zh := vl (x := zm Tryz.prog Tryz.f110 zzd [] [])
def zmX : AFn := .code zvG [.t 4] 9 true
def zr8 : zk := { kill := kx [(0,[4]),(1,[6]),(3,[9,10]),(4,[11015]),(5,[0,1,5,7,8,16,17]),(6,[5,16,18]),(7,[0,1,7009])],ret := [4] }
@[irreducible] def zsI : zh := vl (x := zY Tryz.prog Tryz.f132 zr8 [] 0 [])
def zvJ : zh := vl (x := zm Tryz.prog Tryz.f132 zr8 [] [zsI])
def zm2 : AFn := .code zvJ [.t 4] 19 true
def zxW : zk := { kill := kx [(0,[0,2]),(1,[1,3005])],ret := [2] }
def zuL : zh := vl (x := zm Tryz.prog Tryz.f111 zxW [] [])
def zlS : AFn := .code zuL [.t 2] 6 true
def zx2 : zk := { kill := kx [(0,[0,2]),(1,[1,3020])],ret := [2] }
def zuS : zh := vl (x := zm Tryz.prog Tryz.f112 zx2 [] [])
def zl0 : AFn := .code zuS [.t 2] 21 true
def zx0 : zk := { kill := kx [(0,[1,4]),(1,[0,3,5007])],ret := [4] }
def zuP : zh := vl (x := zm Tryz.prog Tryz.f113 zx0 [] [])
def zlX : AFn := .code zuP [.t 4] 8 true
def zx1 : zk := { kill := kx [(0,[0,3]),(1,[1,2,4007])],ret := [3] }
def zuQ : zh := vl (x := zm Tryz.prog Tryz.f133 zx1 [] [])
def zlY : AFn := .code zuQ [.t 3] 8 true
def zxX : zk := { kill := kx [(0,[6]),(1,[0,1,2,7016])],ret := [6] }
def zMG : List (Nat × List (List Nat)) := qx [(1,[[],[0],[],[],[1003],[1004],[1003],[1003],[],[],[]])]
def zuM : zh := vl (x := zm Tryz.prog Tryz.f114 zxX zMG [])
def zlT : AFn := .code zuM [.t 6] 17 true
def zxY : zk := { kill := kx [(0,[0,1,4]),(1,[2,3,5016])],ret := [4] }
def zMH : List (Nat × List (List Nat)) := qx [(1,[[],[],[0,1],[0,1],[],[1004],[1004],[1006],[1006],[],[],[],[]])]
def zuN : zh := vl (x := zm Tryz.prog Tryz.f103 zxY zMH [])
def zlU : AFn := .code zuN [.t 4] 17 true
def zxS : zk := { kill := kx [(0,[4]),(1,[7,8]),(2,[9,10]),(3,[5]),(4,[0,1,6,11]),(5,[12]),(6,[12]),(7,[6,11]),(8,[0,1,13]),(9,[13015]),(10,[0,1,16]),(11,[0,1,16018]),(12,[19]),(13,[19])],ret := [4] }
def zuG : zh := vl (x := zm Tryz.prog Tryz.f106 zxS [] [])
def zqu : AFn := .code zuG [.t 4] 20 true
def zxT : zk := { kill := kx [(0,[2]),(1,[0,3005])],ret := [2] }
def zuI : zh := vl (x := zm Tryz.prog Tryz.f128 zxT [] [])
def zlR : AFn := .code zuI [.t 2] 6 true
def zrH : zk := { kill := kx [(0,[2]),(2,[0]),(4,[9011]),(5,[12,13]),(6,[3,5008,14,15]),(7,[5,14,16]),(8,[3,6009,17])],exit := [(0,[3])],ret := [2] }
@[irreducible] def zso : zh := vl (x := zY Tryz.prog Tryz.f127 zrH [] 0 [])
def zuH : zh := vl (x := zm Tryz.prog Tryz.f127 zrH [] [zso])
def zlQ : AFn := .code zuH [.t 2] 18 true
def zrM : zk := { kill := kx [(0,[0,2]),(1,[5010]),(2,[1,11]),(3,[11,12]),(5,[16018]),(6,[4,19027]),(7,[1,13015,28]),(8,[28,29]),(9,[1,13016])],ret := [2] }
@[irreducible] def zsu : zh := vl (x := zY Tryz.prog Tryz.f91 zrM [] 0 [])
def zk0 : zh := vl (x := zm Tryz.prog Tryz.f91 zrM [] [zsu])
def zl9 : AFn := .code zk0 [.t 2] 30 true
def zzf : zk := { kill := kx [(0,[1,4]),(1,[0,3,5008])],ret := [4] }
def zvH : zh := vl (x := zm Tryz.prog Tryz.f115 zzf [] [])
def zmY : AFn := .code zvH [.t 4] 9 true
def zsL : zh :=
 (.seq (.ops [] [oP 9 (.bin .lss (.t 8) (.t 7))] [])
 (.seq (.cond (.t 9) .skip (.exit 0 []))
 (.seq (.block 1 (.seq (.ops [] [oM 10 8, oM 5 10] [9, 10])
 (.seq (.draw [] [oP 11 (.ld true 2 (.t 3)), oM 12 0, oM 13 5, oP 14 (.iad 2 (.t 12) (.t 13)), oP 15 (.ld true 2 (.t 14)), oP 16 (.eqs false 2 [(0, 0), (1, 0)] (.t 11) (.t 15))] [[], [0], [0, 1], [0], [0], []] [11, 12, 13, 14, 15])
 (.cond (.t 16) (.seq (.ops [] [oM 17 5, oM 4 17] [0, 3, 5, 7, 8, 16, 17])
 (.ret [4])) .skip))))
 (.ops [] [oP 18 (.bin .add (.t 8) (kI 1)), oM 8 18] [5, 16, 18]))))
def zlk : zh :=
 (.seq (.ops [] [oP 3 (.box (.t 1)), oP 4 (.mv (kI 0))] [1, 4])
 (.seq (.seq (.ops [] [oM 6 0, oP 7 (.len (.t 6)), oP 8 (.mv (kI 0))] [6])
 (.block 0 (.loop [] zsL)))
 (.seq (.ops [] [oP 4 (.mv (kI (-1)))] [0, 3, 7, 8, 9])
 (.ret [4]))))
def zm4 : AFn := .code zlk [.t 4] 19 true
def zy8 : zk := { kill := kx [(0,[0,2]),(1,[1,3010])],ret := [2] }
def zvF : zh := vl (x := zm Tryz.prog Tryz.f28 zy8 [] [])
def zq6 : AFn := .code zvF [.t 2] 11 true
def zy7 : zk := { kill := kx [(0,[4]),(1,[0,1,5015])],ret := [4] }
def zpO : zh := vl (x := zm Tryz.prog Tryz.f47 zy7 [] [])
def zq5 : AFn := .code zpO [.t 4] 16 true
def zr3 : zk := { kill := kx [(0,[0,2]),(1,[6008]),(2,[1,9,10]),(4,[14016]),(5,[5,17021]),(6,[22]),(7,[3,11014,23])],exit := [(0,[3])],ret := [2] }
@[irreducible] def znV : zh := vl (x := zY Tryz.prog Tryz.f31 zr3 [] 0 [])
def zvz : zh := vl (x := zm Tryz.prog Tryz.f31 zr3 [] [znV])
def zq3 : AFn := .code zvz [.t 2] 24 true
def zyA : zk := { kill := kx [(0,[0,2]),(1,[3,4]),(2,[1,5]),(3,[1,5007])],ret := [2] }
def zvj : zh := vl (x := zm Tryz.prog Tryz.f36 zyA [] [])
def zqU : AFn := .code zvj [.t 2] 8 false
def zyT : zk := { kill := kx [(0,[6]),(1,[0,1,2,7014])],ret := [6] }
def zlc : zh := vl (x := zm Tryz.prog Tryz.f40 zyT [] [])
def zq1 : AFn := .code zlc [.t 6] 15 true
def zy0 : zk := { kill := kx [(0,[0,1,2,7]),(1,[11020]),(2,[21]),(3,[3005,8,9,22024]),(4,[4,5,9,22,25]),(5,[3,8,10,26040])],ghost := [(4,[6000004,6000005]),(5,[6000010])],obj := [(31,[true,false]),(37,[true,false]),(38,[false,false,false,true])],ret := [6,7] }
def zMX : List (Nat × List (List Nat)) := qx [(5,[[],[0],[0],[0],[1003],[0],[1005],[1005],[1005],[0],[1009],[0],[],[],[13],[],[]])]
def zi9 : zh := vl (x := zm Tryz.prog Tryz.f19 zy0 zMX [])
def zjr : AFn := .code zi9 [.c 6 true 8, .t 7] 41 true
def zyL : zk := { kill := kx [(0,[7]),(1,[0,10014]),(2,[15]),(3,[1,2,8,9,16018]),(4,[9,16,19021]),(5,[1,2,8,22,23]),(6,[1,2,8,22,24027])],ret := [6,7] }
def zpI : zh := vl (x := zm Tryz.prog Tryz.f20 zyL [] [])
def zmF : AFn := .code zpI [.c 6 true 8, .t 7] 28 true
def zyB : zk := { kill := kx [(0,[3]),(1,[4008]),(2,[0,9,10]),(3,[0,9,11013])],ret := [2,3] }
def zvk : zh := vl (x := zm Tryz.prog Tryz.f46 zyB [] [])
def zmw : AFn := .code zvk [.c 2 true 3, .t 3] 14 true
def zy1 : zk := { kill := kx [(0,[0,4]),(1,[1003,5009])],ret := [4] }
def zvA : zh := vl (x := zm Tryz.prog Tryz.f39 zy1 [] [])
def zjs : AFn := .code zvA [.t 4] 10 true
def zy2 : zk := { kill := kx [(0,[0,3]),(1,[1,2,4007])],ret := [3] }
def zvB : zh := vl (x := zm Tryz.prog Tryz.f42 zy2 [] [])
def zjt : AFn := .code zvB [.t 3] 8 true
def zr6 : zk := { kill := kx [(0,[4]),(1,[8010]),(2,[11]),(3,[0,1,5,12,13]),(4,[12,14,15]),(5,[16018]),(6,[7,20,21,29]),(7,[19,22025]),(8,[26028]),(9,[7,29033]),(10,[34,35]),(11,[1,6,19,36038]),(12,[0,5,39041])],exit := [(0,[0,5])],ret := [4] }
@[irreducible] def zj5 : zh := vl (x := zY Tryz.prog Tryz.f41 zr6 [] 0 [])
def zli : zh := vl (x := zm Tryz.prog Tryz.f41 zr6 [] [zj5])
def zjx : AFn := .code zli [.t 4] 42 false
def zsa : zk := { kill := kx [(0,[4]),(1,[6]),(3,[9,10]),(4,[11015]),(5,[0,1,5,7,8,16,17]),(6,[5,16,18]),(7,[0,1,7009])],ret := [4] }
@[irreducible] def zj7 : zh := vl (x := zY Tryz.prog Tryz.f63 zsa [] 0 [])
def zja : zh := vl (x := zm Tryz.prog Tryz.f63 zsa [] [zj7])
def zjz : AFn := .code zja [.t 4] 19 true
def zzb : zk := { kill := kx [(0,[2]),(1,[3]),(2,[0,4]),(3,[0,4007])],acc := [2,2],ret := [2] }
def zlg : zh := vl (x := zm Tryz.prog Tryz.f44 zzb [] [])
def zq8 : AFn := .nils zlg [.t 2] 8
def zy3 : zk := { kill := kx [(0,[0,3]),(1,[1,2,4008])],ret := [3] }
def zvC : zh := vl (x := zm Tryz.prog Tryz.f45 zy3 [] [])
def zju : AFn := .code zvC [.t 3] 9 true
def zr5 : zk := { kill := kx [(0,[4]),(1,[8010]),(2,[11]),(3,[0,1,5,12,13]),(4,[12,14,15]),(5,[16018]),(6,[7,20,21,29]),(7,[19,22025]),(8,[26028]),(9,[7,29033]),(10,[34,35]),(11,[1,6,19,36038]),(12,[0,5,39041])],exit := [(0,[0,5])],ret := [4] }
@[irreducible] def zj4 : zh := vl (x := zY Tryz.prog Tryz.f43 zr5 [] 0 [])
def zlh : zh := vl (x := zm Tryz.prog Tryz.f43 zr5 [] [zj4])
def zjw : AFn := .code zlh [.t 4] 42 false
def zr9 : zk := { kill := kx [(0,[4]),(1,[6]),(3,[9,10]),(4,[11015]),(5,[0,1,5,7,8,16,17]),(6,[5,16,18]),(7,[0,1,7009])],ret := [4] }
@[irreducible] def zsJ : zh := vl (x := zY Tryz.prog Tryz.f71 zr9 [] 0 [])
def zpQ : zh := vl (x := zm Tryz.prog Tryz.f71 zr9 [] [zsJ])
def zjy : AFn := .code zpQ [.t 4] 19 true
def znx : zk := { kill := kx [(0,[0,7]),(1,[13,14]),(2,[8]),(3,[1]),(5,[18020]),(6,[10,21028]),(7,[29]),(8,[2,3,8,15017,30032]),(9,[8,30,33]),(10,[2,15018]),(12,[37039]),(13,[12,40050]),(14,[51]),(15,[3,8,34036,52054]),(16,[8,52,55]),(17,[3,34037,56])],exit := [(0,[2,3,6]),(2,[3,6])],ret := [6,7] }
@[irreducible] def zj2 : zh := vl (x := zY Tryz.prog Tryz.f35 znx [] 0 [])
@[irreducible] def zj3 : zh := vl (x := zY Tryz.prog Tryz.f35 znx [] 1 [])
def zlb : zh := vl (x := zm Tryz.prog Tryz.f35 znx [] [zj2, zj3])
def zmK : AFn := .code zlb [.c 6 true 8, .t 7] 57 true
def zyZ : zk := { kill := kx [(0,[0]),(1,[3008]),(2,[9018]),(3,[1,19])],ret := [2] }
def zMW : List (Nat × List (List Nat)) := qx [(2,[[],[],[],[],[1003],[1003],[1003],[],[],[],[]])]
def zpM : zh := vl (x := zm Tryz.prog Tryz.f34 zyZ zMW [])
def zmR : AFn := .code zpM [.c 2 true 8] 20 true
def zzc : zk := { kill := kx [(0,[2]),(1,[3]),(2,[0,4]),(3,[0,4007])],acc := [2,2],ret := [2] }
def zfp : zh := vl (x := zm Tryz.prog Tryz.f65 zzc [] [])
def zmW : AFn := .nils zfp [.t 2] 8
def zza : zk := { kill := kx [(0,[2]),(1,[3]),(2,[0,4]),(3,[0,4007])],acc := [2,2],ret := [2] }
def zfo : zh := vl (x := zm Tryz.prog Tryz.f66 zza [] [])
def zmV : AFn := .nils zfo [.t 2] 8
def zyC : zk := { kill := kx [(0,[0,1,5]),(1,[7009]),(2,[10]),(3,[2,3,6,11013]),(4,[6,11,14,15]),(5,[3,16023]),(6,[24027]),(7,[2,28])],ghost := [(5,[30])],ret := [4,5] }
def zMR : List (Nat × List (List Nat)) := qx [(5,[[],[],[0,1],[1002],[1002],[0,1],[1005],[],[]])]
def zpG : zh := vl (x := zm Tryz.prog Tryz.f58 zyC zMR [])
def zqV : AFn := .code zpG [.c 4 true 3, .t 5] 29 true
def zyI : zk := { kill := kx [(0,[0,1,4]),(1,[7,8]),(2,[9]),(3,[2,3,5,10,11]),(4,[5,10,12,13]),(5,[14]),(6,[2,3,6,15,16]),(7,[6,15,18023]),(8,[2,3,17]),(9,[2,3,17,25029]),(10,[24]),(11,[24])],ret := [4] }
def zgx : zh := vl (x := zm Tryz.prog Tryz.f83 zyI [] [])
def zmB : AFn := .code zgx [.t 4] 30 true
def zyF : zk := { kill := kx [(0,[0,1,4]),(1,[2,3,5008])],ret := [4] }
def zvm : zh := vl (x := zm Tryz.prog Tryz.f99 zyF [] [])
def zmx : AFn := .code zvm [.t 4] 9 true
def zyG : zk := { kill := kx [(0,[0,3]),(1,[1,2,4007])],ret := [3] }
def zvn : zh := vl (x := zm Tryz.prog Tryz.f124 zyG [] [])
def zmy : AFn := .code zvn [.t 3] 8 true
def zyH : zk := { kill := kx [(0,[0]),(1,[3006]),(2,[1,7])],ret := [2] }
def zvp : zh := vl (x := zm Tryz.prog Tryz.f84 zyH [] [])
def zmA : AFn := .code zvp [.c 2 true 3] 8 false
def zx5 : zk := { kill := kx [(0,[0,1,7]),(1,[14,15]),(2,[16]),(3,[2004,8,17019]),(4,[8,17,20,21]),(5,[22]),(6,[2004,9,23025]),(7,[9,23,26032]),(8,[34036]),(9,[2004,10,11,33,37]),(10,[33,39041]),(11,[2004,10,11,38,42]),(12,[38,44047]),(13,[2004,10,11,43,48]),(14,[11,43,50]),(15,[2004,10,49,51]),(16,[49,52061]),(17,[62]),(18,[2004,10,12,13,63065]),(19,[2004,10,12,13,63,66076])],obj := [(74,[true,false,false])],ret := [6,7] }
def zMI : List (Nat × List (List Nat)) := qx [(19,[[],[],[],[1002],[1003],[1004],[1003],[1003],[],[1008],[],[],[]])]
def zdA : zh := vl (x := zm Tryz.prog Tryz.f67 zx5 zMI [])
def zl3 : AFn := .code zdA [.c 6 true 2, .t 7] 77 true
def zx9 : zk := { kill := kx [(0,[0,4,5]),(1,[1,2,6011])],ret := [4,5] }
def zuV : zh := vl (x := zm Tryz.prog Tryz.f81 zx9 [] [])
def zl7 : AFn := .code zuV [.t 4, .t 5] 12 true
def zr4 : zk := { kill := kx [(0,[6,7]),(1,[12,13]),(2,[14]),(3,[15,16]),(4,[17023]),(5,[24030]),(6,[11,31033]),(7,[11,31,34]),(8,[0,1,2,8010,17,35048])],exit := [(0,[0,1,2,8,9])],ret := [6,7] }
@[irreducible] def zsH : zh := vl (x := zY Tryz.prog Tryz.f104 zr4 [] 0 [])
def zlf : zh := vl (x := zm Tryz.prog Tryz.f104 zr4 [] [zsH])
def zmU : AFn := .code zlf [.t 6, .t 7] 49 true
def zya : zk := { kill := kx [(0,[0,4]),(1,[1,2,5009])],ret := [4] }
def zuW : zh := vl (x := zm Tryz.prog Tryz.f105 zya [] [])
def zl8 : AFn := .code zuW [.t 4] 10 true
def zxU : zk := { kill := kx [(0,[1,4,5]),(1,[7,8]),(2,[9]),(3,[0,3,6,10,11]),(4,[6,10,13015]),(5,[0,3,12]),(6,[12,17019]),(7,[0,3,16]),(8,[16,21025]),(9,[0,3,20]),(10,[3,20,26030]),(11,[31035]),(12,[0,36])],ghost := [(11,[54])],obj := [(35,[true,false])],ret := [4,5] }
def zMF : List (Nat × List (List Nat)) := qx [(10,[[],[],[0,1],[0,1],[],[]])]
def zgs : zh := vl (x := zm Tryz.prog Tryz.f92 zxU zMF [])
def zqv : AFn := .code zgs [.t 4, .t 5] 37 true
def zrK : zk := { kill := kx [(0,[4]),(1,[6014]),(2,[15018]),(3,[1,19032]),(4,[5,33]),(5,[0,1,15,34])],exit := [(0,[1])],ret := [4] }
def zAB : List (Nat × List (List Nat)) := qx [(3,[[],[0],[0,1],[1002],[1003],[1004],[1003],[1003],[1007],[1008],[1007],[1007],[2,3],[2,3],[],[]])]
@[irreducible] def zss : zh := vl (x := zY Tryz.prog Tryz.f116 zrK zAB 0 [])
def zuR : zh := vl (x := zm Tryz.prog Tryz.f116 zrK zAB [zss])
def zlZ : AFn := .code zuR [.t 4] 35 true
def zm6 : AFn := .ext (zfz 8)
def zx3 : zk := { kill := kx [(0,[0]),(1,[10013]),(2,[14019]),(3,[20025]),(4,[26]),(5,[7,27032]),(6,[1006,8,9,33067])],ret := [0] }
def zuT : zh := vl (x := zm Tryz.prog Tryz.f8 zx3 [] [])
def zl1 : AFn := .code zuT [.t 0] 68 true
def zyM : zk := { kill := kx [(0,[0,1,5]),(1,[7,8]),(2,[9]),(3,[2,3,6,10012]),(4,[2,3,6,10,13017])],ret := [4,5] }
def zvr : zh := vl (x := zm Tryz.prog Tryz.f21 zyM [] [])
def zmG : AFn := .code zvr [.c 4 true 8, .t 5] 18 true
def zy4 : zk := { kill := kx [(0,[0,1,5]),(1,[8,9]),(2,[10]),(3,[2,3,6,11013]),(4,[6,11,15022]),(5,[2,3,14,23]),(6,[14,25027]),(7,[2,3,24,28]),(8,[24,30033]),(9,[2,3,29,34]),(10,[7,29]),(11,[35,36]),(12,[3,37044]),(13,[45]),(14,[2,7,46048]),(15,[2,7,46,49])],ret := [4,5] }
def zvD : zh := vl (x := zm Tryz.prog Tryz.f48 zy4 [] [])
def zmS : AFn := .code zvD [.c 4 true 8, .t 5] 50 true
def zy6 : zk := { kill := kx [(0,[0,2]),(1,[1,3009])],ret := [2] }
def zMZ : List (Nat × List (List Nat)) := qx [(1,[[],[],[],[],[1003],[1003],[],[]])]
def zvE : zh := vl (x := zm Tryz.prog Tryz.f29 zy6 zMZ [])
def zq4 : AFn := .code zvE [.t 2] 10 true
def zyQ : zk := { kill := kx [(0,[0,1,4]),(1,[2,3,5008])],ret := [4] }
def zvt : zh := vl (x := zm Tryz.prog Tryz.f33 zyQ [] [])
def zq0 : AFn := .code zvt [.t 4] 9 true
def zyR : zk := { kill := kx [(0,[0,3]),(1,[1,2,4007])],ret := [3] }
def zvu : zh := vl (x := zm Tryz.prog Tryz.f64 zyR [] [])
def zmL : AFn := .code zvu [.t 3] 8 true
def zze : zk := { kill := kx [(0,[4]),(1,[0,1,5008])],ret := [4] }
def zpP : zh := vl (x := zm Tryz.prog Tryz.f30 zze [] [])
def zjv : AFn := .code zpP [.t 4] 9 true
def zr1 : zk := { kill := kx [(0,[0,13,14]),(1,[21033]),(2,[34]),(3,[1006,15,35037]),(4,[15,35,38040]),(5,[1006,41,42]),(6,[41,43,44]),(8,[45,46]),(10,[50052]),(11,[53062]),(12,[18,63071]),(13,[72]),(14,[1006,16,19,20,47049,73075]),(15,[19,20,73,76079]),(16,[18,63,80]),(17,[1006,16,47050,81,82])],obj := [(69,[true,false,false])],acc := [16],exit := [(0,[6,12,16]),(1,[1,2,3,4,5,6,12,16,47,48,49])],ret := [12,13,14] }
def zAL : List (Nat × List (List Nat)) := qx [(1,[[],[0],[0],[1002],[0],[1004],[0],[1006],[0],[1008],[0],[0],[],[]])]
@[irreducible] def zfC : zh := vl (x := zY Tryz.prog Tryz.f22 zr1 zAL 0 [])
def zi7 : zh := vl (x := zm Tryz.prog Tryz.f22 zr1 zAL [zfC])
def zmI : AFn := .code zi7 [.c 12 true 8, .t 13, .t 14] 83 true
def zyU : zk := { kill := kx [(0,[2]),(1,[0,3,4])],ret := [2] }
def zvv : zh := vl (x := zm Tryz.prog Tryz.f50 zyU [] [])
def zmN : AFn := .code zvv [.t 2] 5 true
def zyV : zk := { kill := kx [(0,[2]),(1,[0,3,4])],ret := [2] }
def zvw : zh := vl (x := zm Tryz.prog Tryz.f51 zyV [] [])
def zmO : AFn := .code zvw [.t 2] 5 true
def zyW : zk := { kill := kx [(0,[2]),(1,[0,3,4])],ret := [2] }
def zvx : zh := vl (x := zm Tryz.prog Tryz.f52 zyW [] [])
def zmP : AFn := .code zvx [.t 2] 5 true
def zyX : zk := { kill := kx [(0,[2]),(1,[0,3,4])],ret := [2] }
def zvy : zh := vl (x := zm Tryz.prog Tryz.f53 zyX [] [])
def zmQ : AFn := .code zvy [.t 2] 5 true
def zy9 : zk := { kill := kx [(0,[0,4]),(1,[2,6,7]),(2,[8]),(3,[1,5,9,10]),(4,[1,5,9,11]),(5,[12]),(6,[12])],ret := [4] }
def zle : zh := vl (x := zm Tryz.prog Tryz.f49 zy9 [] [])
def zq7 : AFn := .code zle [.t 4] 13 true
def zzg : zk := { kill := kx [(0,[4]),(1,[0,1,5008])],ret := [4] }
def zvI : zh := vl (x := zm Tryz.prog Tryz.f73 zzg [] [])
def zmZ : AFn := .code zvI [.t 4] 9 true
def zsc : zk := { kill := kx [(0,[4]),(1,[6]),(3,[9,10]),(4,[11015]),(5,[0,1,5,7,8,16,17]),(6,[5,16,18]),(7,[0,1,7009])],ret := [4] }
@[irreducible] def zsM : zh := vl (x := zY Tryz.prog Tryz.f98 zsc [] 0 [])
def zpS : zh := vl (x := zm Tryz.prog Tryz.f98 zsc [] [zsM])
def zm5 : AFn := .code zpS [.t 4] 19 true
def zyg : zk := { kill := kx [(0,[0,6]),(1,[1003,7021])],ret := [6] }
def zu0 : zh := vl (x := zm Tryz.prog Tryz.f54 zyg [] [])
def zme : AFn := .code zu0 [.t 6] 22 true
def zyf : zk := { kill := kx [(0,[0,4]),(1,[1,2,5008])],ret := [4] }
def zpC : zh := vl (x := zm Tryz.prog Tryz.f74 zyf [] [])
def zqC : AFn := .code zpC [.t 4] 9 true
def zyh : zk := { kill := kx [(0,[0,4]),(1,[1,2,5008])],ret := [4] }
def zu1 : zh := vl (x := zm Tryz.prog Tryz.f75 zyh [] [])
def zqD : AFn := .code zu1 [.t 4] 9 true
def zyP : zk := { kill := kx [(0,[1,7]),(1,[11021]),(2,[22]),(3,[0,2,4,8,9,23025]),(4,[23,26030]),(5,[31]),(6,[0,2,4,8,9,32034]),(7,[32,35044]),(8,[45]),(9,[0,2,4,8010,46048]),(10,[0,8010,46,49056]),(11,[2,4,57059])],ret := [6,7] }
def zMV : List (Nat × List (List Nat)) := qx [(1,[[],[],[],[],[1003],[1003],[],[],[],[8],[8,9],[1010],[9,10],[10],[]]),(7,[[],[],[],[],[1003],[1004],[],[],[],[8],[1009],[9],[]]),(10,[[],[0],[0,1],[1002],[1,3],[1,3],[1,3],[],[],[]])]
def zi8 : zh := vl (x := zm Tryz.prog Tryz.f55 zyP zMV [])
def zmJ : AFn := .code zi8 [.c 6 true 8, .t 7] 60 true
def zyD : zk := { kill := kx [(0,[0,6]),(1,[10,11]),(2,[12]),(3,[1,2,7,13016]),(4,[1,7,13,17019]),(5,[20]),(6,[2,8,21023]),(7,[8,21,24029]),(8,[2,9,30,31])],ret := [4,5,6] }
def zMS : List (Nat × List (List Nat)) := qx [(8,[[],[0],[1],[],[]])]
def zk9 : zh := vl (x := zm Tryz.prog Tryz.f76 zyD zMS [])
def zqW : AFn := .code zk9 [.c 4 true 3, .c 5 true 7, .t 6] 32 true
def zrZ : zk := { kill := kx [(0,[0]),(1,[8,9]),(2,[10016]),(3,[1,17]),(4,[18021]),(5,[23,24]),(6,[22,25038]),(7,[7,22,39042]),(8,[43050]),(9,[2,6,51,52])],ghost := [(2,[18])],exit := [(0,[2,4,5,6])],ret := [4,5] }
def zAJ : List (Nat × List (List Nat)) := qx [(2,[[],[],[0,1],[1002],[0,1],[],[],[1006],[]]),(6,[[],[],[0,1],[1002],[0,1],[1004],[1004],[1006],[1007],[1007],[0,1,5,6],[0,1],[0,1],[],[]]),(8,[[],[],[0,1],[1002],[1002],[0,1],[1005],[],[]]),(9,[[],[0],[1],[]])]
@[irreducible] def znT : zh := vl (x := zY Tryz.prog Tryz.f100 zrZ zAJ 0 [])
def zvq : zh := vl (x := zm Tryz.prog Tryz.f100 zrZ zAJ [znT])
def zmC : AFn := .code zvq [.c 4 true 3, .c 5 true 7] 53 true
def zye : zk := { kill := kx [(0,[0,3]),(1,[5,6]),(2,[7]),(3,[1,4,8010]),(4,[4,8,12014]),(5,[1,11,15]),(6,[11,17019]),(7,[1,16,20]),(8,[16,21024]),(9,[25028]),(10,[1,29])],ret := [2,3] }
def zi5 : zh := vl (x := zm Tryz.prog Tryz.f77 zye [] [])
def zmd : AFn := .code zi5 [.c 2 true 7, .t 3] 30 true
def zr0 : zk := { kill := kx [(0,[0,9,10]),(1,[3,17025]),(2,[26]),(3,[1,2,4,11,27029]),(4,[11,27,30,31]),(5,[1,2,32036]),(8,[40042]),(10,[16]),(11,[14,43049]),(12,[50]),(13,[4,12,15,16,37039,51053]),(14,[15,51,54061]),(15,[62]),(16,[4,12,16,37039,63065]),(17,[16,63,66]),(18,[4,12,37040,67,68])],exit := [(0,[4,8,12])],ret := [8,9,10] }
def zAK : List (Nat × List (List Nat)) := qx [(1,[[],[0],[0],[1002],[0],[1004],[0],[0],[],[]])]
@[irreducible] def zg3 : zh := vl (x := zY Tryz.prog Tryz.f23 zr0 zAK 0 [])
def zla : zh := vl (x := zm Tryz.prog Tryz.f23 zr0 zAK [zg3])
def zmD : AFn := .code zla [.c 8 true 8, .t 9, .t 10] 69 true
def zx6 : zk := { kill := kx [(0,[0,2,6]),(1,[7,8]),(2,[1,3,5,9]),(3,[1,3,5,9015])],obj := [(15,[true,false])],ret := [6] }
def zkZ : zh := vl (x := zm Tryz.prog Tryz.f56 zx6 [] [])
def zl4 : AFn := .code zkZ [.t 6] 16 true
def zrI : zk := { kill := kx [(0,[4]),(1,[9,10]),(2,[0,1,11]),(3,[0,11013]),(4,[14,15]),(6,[5]),(8,[19021]),(9,[22024]),(10,[8,25030]),(11,[8,25,31]),(12,[1,6,16019,32])],ghost := [(4,[26])],obj := [(15,[true,false])],acc := [6],exit := [(0,[6])],ret := [4] }
@[irreducible] def znH : zh := vl (x := zY Tryz.prog Tryz.f79 zrI [] 0 [])
def zpA : zh := vl (x := zm Tryz.prog Tryz.f79 zrI [] [znH])
def zqx : AFn := .code zpA [.t 4] 33 false
def zzh : zk := { kill := kx [(0,[5,6]),(1,[0,1,4,7013])],obj := [(13,[true,false,false,false,false])] }
def zpT : zh := vl (x := zm Tryz.prog Tryz.f102 zzh [] [])
def zm7 : AFn := .code zpT [] 14 true
def zyd : zk := { kill := kx [(0,[2]),(1,[0,3005]),(2,[0,6,7])],ret := [2] }
def zuY : zh := vl (x := zm Tryz.prog Tryz.f126 zyd [] [])
def zmb : AFn := .code zuY [.t 2] 8 true
def zuZ : zh :=
 (.seq (.ops [] [oP 2 (.mv (kI 0))] [])
 (.seq (.seq (.ops [] [oM 3 0, oP 4 (.bin .geq (.t 3) (.c (.d (.int .u32 65536))))] [3])
 (.cond (.t 4) (.seq (.ops [] [oM 5 0, oP 6 (.bin .shr (.t 5) (.c (.d (.int .u64 16)))), oM 0 6] [2, 4, 5, 6])
 (.ops [] [oP 2 (.mv (kI 16))] [])) .skip))
 (.seq (.seq (.ops [] [oM 7 0, oP 8 (.bin .geq (.t 7) (.c (.d (.int .u32 256))))] [4, 7])
 (.cond (.t 8) (.seq (.ops [] [oM 9 0, oP 10 (.bin .shr (.t 9) (.c (.d (.int .u64 8)))), oM 0 10] [8, 9, 10])
 (.ops [] [oM 11 2, oP 12 (.bin .add (.t 11) (kI 8)), oM 2 12] [11, 12])) .skip))
 (.seq (.ops [] [oM 13 2, oM 14 0, oP 15 (.cvi .u8 (.t 14)), oP 16 (.idx (.c (.d (.str [0, 1, 2, 2, 3, 3, 3, 3, 4, 4, 4, 4, 4, 4, 4, 4, 5, 5, 5, 5, 5, 5, 5, 5, 5, 5, 5, 5, 5, 5, 5, 5, 6, 6, 6, 6, 6, 6, 6, 6, 6, 6, 6, 6, 6, 6, 6, 6, 6, 6, 6, 6, 6, 6, 6, 6, 6, 6, 6, 6, 6, 6, 6, 6, 7, 7, 7, 7, 7, 7, 7, 7, 7, 7, 7, 7, 7, 7, 7, 7, 7, 7, 7, 7, 7, 7, 7, 7, 7, 7, 7, 7, 7, 7, 7, 7, 7, 7, 7, 7, 7, 7, 7, 7, 7, 7, 7, 7, 7, 7, 7, 7, 7, 7, 7, 7, 7, 7, 7, 7, 7, 7, 7, 7, 7, 7, 7, 7, 8, 8, 8, 8, 8, 8, 8, 8, 8, 8, 8, 8, 8, 8, 8, 8, 8, 8, 8, 8, 8, 8, 8, 8, 8, 8, 8, 8, 8, 8, 8, 8, 8, 8, 8, 8, 8, 8, 8, 8, 8, 8, 8, 8, 8, 8, 8, 8, 8, 8, 8, 8, 8, 8, 8, 8, 8, 8, 8, 8, 8, 8, 8, 8, 8, 8, 8, 8, 8, 8, 8, 8, 8, 8, 8, 8, 8, 8, 8, 8, 8, 8, 8, 8, 8, 8, 8, 8, 8, 8, 8, 8, 8, 8, 8, 8, 8, 8, 8, 8, 8, 8, 8, 8, 8, 8, 8, 8, 8, 8, 8, 8, 8, 8, 8, 8, 8, 8, 8, 8, 8, 8, 8, 8, 8, 8, 8, 8]))) (.t 15)), oP 17 (.cvi .i64 (.t 16)), oP 18 (.bin .add (.t 13) (.t 17)), oM 2 18] [0, 8, 13, 14, 15, 16, 17, 18])
 (.ret [2])))))
def zwr : AFn := .code zuZ [.t 2] 19 true
def zbP : zh :=
 (.seq (.ops [] [oP 2 (.mv (kI 0))] [])
 (.seq (.seq (.ops [] [oM 3 0, oP 4 (.bin .geq (.t 3) (.c (.d (.int .u64 4294967296))))] [3])
 (.cond (.t 4) (.seq (.ops [] [oM 5 0, oP 6 (.bin .shr (.t 5) (.c (.d (.int .u64 32)))), oM 0 6] [2, 4, 5, 6])
 (.ops [] [oP 2 (.mv (kI 32))] [])) .skip))
 (.seq (.seq (.ops [] [oM 7 0, oP 8 (.bin .geq (.t 7) (.c (.d (.int .u64 65536))))] [4, 7])
 (.cond (.t 8) (.seq (.ops [] [oM 9 0, oP 10 (.bin .shr (.t 9) (.c (.d (.int .u64 16)))), oM 0 10] [8, 9, 10])
 (.ops [] [oM 11 2, oP 12 (.bin .add (.t 11) (kI 16)), oM 2 12] [11, 12])) .skip))
 (.seq (.seq (.ops [] [oM 13 0, oP 14 (.bin .geq (.t 13) (.c (.d (.int .u64 256))))] [8, 13])
 (.cond (.t 14) (.seq (.ops [] [oM 15 0, oP 16 (.bin .shr (.t 15) (.c (.d (.int .u64 8)))), oM 0 16] [14, 15, 16])
 (.ops [] [oM 17 2, oP 18 (.bin .add (.t 17) (kI 8)), oM 2 18] [17, 18])) .skip))
 (.seq (.ops [] [oM 19 2, oM 20 0, oP 21 (.cvi .u8 (.t 20)), oP 22 (.idx (.c (.d (.str [0, 1, 2, 2, 3, 3, 3, 3, 4, 4, 4, 4, 4, 4, 4, 4, 5, 5, 5, 5, 5, 5, 5, 5, 5, 5, 5, 5, 5, 5, 5, 5, 6, 6, 6, 6, 6, 6, 6, 6, 6, 6, 6, 6, 6, 6, 6, 6, 6, 6, 6, 6, 6, 6, 6, 6, 6, 6, 6, 6, 6, 6, 6, 6, 7, 7, 7, 7, 7, 7, 7, 7, 7, 7, 7, 7, 7, 7, 7, 7, 7, 7, 7, 7, 7, 7, 7, 7, 7, 7, 7, 7, 7, 7, 7, 7, 7, 7, 7, 7, 7, 7, 7, 7, 7, 7, 7, 7, 7, 7, 7, 7, 7, 7, 7, 7, 7, 7, 7, 7, 7, 7, 7, 7, 7, 7, 7, 7, 8, 8, 8, 8, 8, 8, 8, 8, 8, 8, 8, 8, 8, 8, 8, 8, 8, 8, 8, 8, 8, 8, 8, 8, 8, 8, 8, 8, 8, 8, 8, 8, 8, 8, 8, 8, 8, 8, 8, 8, 8, 8, 8, 8, 8, 8, 8, 8, 8, 8, 8, 8, 8, 8, 8, 8, 8, 8, 8, 8, 8, 8, 8, 8, 8, 8, 8, 8, 8, 8, 8, 8, 8, 8, 8, 8, 8, 8, 8, 8, 8, 8, 8, 8, 8, 8, 8, 8, 8, 8, 8, 8, 8, 8, 8, 8, 8, 8, 8, 8, 8, 8, 8, 8, 8, 8, 8, 8, 8, 8, 8, 8, 8, 8, 8, 8, 8, 8, 8, 8, 8, 8, 8, 8, 8, 8, 8, 8]))) (.t 21)), oP 23 (.cvi .i64 (.t 22)), oP 24 (.bin .add (.t 19) (.t 23)), oM 2 24] [0, 14, 19, 20, 21, 22, 23, 24])
 (.ret [2]))))))
def zmc : AFn := .code zbP [.t 2] 25 true
def zsd : zk := { kill := kx [(2,[21023]),(3,[24]),(4,[0,1004,10012,25030]),(5,[25,31]),(6,[0,1004,10012,32037]),(7,[32,38]),(8,[39044]),(9,[45,46]),(10,[39,47054]),(11,[55]),(12,[14,56061]),(13,[62067]),(15,[14,56,68074]),(16,[75079]),(17,[75,80096]),(18,[1,12,13,97103]),(19,[15,104]),(20,[10,11,13,97,105113]),(21,[17,114]),(22,[115120]),(23,[12,121,122]),(24,[123,124]),(25,[18020,125128]),(26,[1,129134]),(27,[16,135,136]),(28,[18020,125,137139]),(29,[2,140146]),(30,[16,147])],obj := [(30,[true,false,false,false]),(37,[true,false,false,false]),(44,[true,false,false,false]),(61,[true,false,false,false]),(80,[true,false,false,false]),(103,[true,false,false,false,false]),(111,[true,false,false,false,false]),(134,[true,false,false,false,false]),(146,[true,false,false,false,false])],exit := [(1,[0,1,2,3,4,10,11])] }
def zAN : List (Nat × List (List Nat)) := qx [(17,[[],[],[],[],[3],[3,4],[3,4],[3],[3],[4008],[4009],[4008],[4008],[],[],[],[]])]
@[irreducible] def zsN : zh := vl (x := zY Tryz.prog Tryz.f125 zsd zAN 0 [])
def zpV : zh := vl (x := zm Tryz.prog Tryz.f125 zsd zAN [zsN])
def zm9 : AFn := .code zpV [] 148 true
def zny : zk := { kill := kx [(0,[10,11]),(1,[12,13]),(2,[9,15,16,34]),(3,[14,17]),(4,[18033]),(5,[35,36]),(6,[34,37052])],exit := [(2,[0,1,2,3,8])] }
def zto : List (Nat × List (List Nat)) := qx [(4,[[],[0],[],[],[],[4],[4,5],[4],[4],[5008],[5009],[5009],[5008],[5008],[],[],[]]),(6,[[],[0],[0,1],[1002],[1002],[1004],[1005],[1005],[1004],[1004],[1009],[1010],[1009],[1009],[3004],[3004],[],[]])]
@[irreducible] def znW : zh := vl (x := zY Tryz.prog Tryz.f144 zny zto 0 [])
@[irreducible] def znX : zh := vl (x := zY Tryz.prog Tryz.f144 zny zto 1 [znW])
def zpU : zh := vl (x := zm Tryz.prog Tryz.f144 zny zto [znW, znX])
def zm8 : AFn := .code zpU [] 53 true
def zx7 : zk := { kill := kx [(0,[4]),(1,[0,6012]),(2,[1,2,5,13020])],ret := [4] }
def zMJ : List (Nat × List (List Nat)) := qx [(2,[[],[],[0,1],[],[],[],[1005],[],[]])]
def zuU : zh := vl (x := zm Tryz.prog Tryz.f80 zx7 zMJ [])
def zl5 : AFn := .code zuU [.t 4] 21 true
def zr7 : zk := { kill := kx [(0,[4]),(1,[8010]),(2,[11]),(3,[0,1,5,12,13]),(4,[12,14,15]),(5,[16018]),(6,[7,20,21,29]),(7,[19,22025]),(8,[26028]),(9,[7,29033]),(10,[34,35]),(11,[1,6,19,36038]),(12,[0,5,39041])],ghost := [(0,[2000000])],exit := [(0,[0,5])],ret := [4] }
@[irreducible] def zj6 : zh := vl (x := zY Tryz.prog Tryz.f78 zr7 [] 0 [])
def zlj : zh := vl (x := zm Tryz.prog Tryz.f78 zr7 [] [zj6])
def zm0 : AFn := .code zlj [.t 4] 42 false
def zsb : zk := { kill := kx [(0,[4]),(1,[6]),(3,[9,10]),(4,[11015]),(5,[0,1,5,7,8,16,17]),(6,[5,16,18]),(7,[0,1,7009])],ret := [4] }
@[irreducible] def zsK : zh := vl (x := zY Tryz.prog Tryz.f101 zsb [] 0 [])
def zpR : zh := vl (x := zm Tryz.prog Tryz.f101 zsb [] [zsK])
def zm3 : AFn := .code zpR [.t 4] 19 true
def zy5 : zk := { kill := kx [(0,[0,6]),(1,[1,10017]),(2,[18]),(3,[2,7009,19022]),(4,[9,19,23,24]),(5,[7,25,26]),(6,[2,8,27,28])],ret := [4,5,6] }
def zMY : List (Nat × List (List Nat)) := qx [(6,[[],[0],[1],[],[]])]
def zpN : zh := vl (x := zm Tryz.prog Tryz.f57 zy5 zMY [])
def zmT : AFn := .code zpN [.c 4 true 8, .c 5 true 7, .t 6] 29 true
def zx8 : zk := { kill := kx [(0,[0,6]),(1,[12,13]),(2,[14]),(3,[1,2,7,15018]),(4,[7,15,19024]),(5,[9,25]),(6,[1,2,8,26028]),(7,[1,26,29035]),(8,[36]),(9,[2,8,10,11,37040]),(10,[2,8,10,11,37,41052])],ret := [4,5,6] }
def zMK : List (Nat × List (List Nat)) := qx [(10,[[],[],[0,1],[],[1003],[],[1005],[1005],[1007],[1005],[1005],[1005],[7011],[],[]])]
def zi4 : zh := vl (x := zm Tryz.prog Tryz.f82 zx8 zMK [])
def zl6 : AFn := .code zi4 [.c 4 true 2, .c 5 true 7, .t 6] 53 true
def zxV : zk := { kill := kx [(0,[4,5]),(1,[8,9]),(2,[10]),(3,[0,1,6,11,12]),(4,[1,6,11,13015]),(5,[16]),(6,[0,7,17]),(7,[0,7,17020])],ret := [4,5] }
def zuJ : zh := vl (x := zm Tryz.prog Tryz.f107 zxV [] [])
def zqw : AFn := .code zuJ [.t 4, .t 5] 21 true
def zxZ : zk := { kill := kx [(0,[4]),(1,[7009]),(2,[10013]),(3,[14,15]),(4,[0,1,5,6,16,17]),(5,[0,5,16,18024]),(6,[25028]),(7,[1,29032]),(8,[1,6,29,33])],ghost := [(5,[26])],obj := [(27,[true,false]),(32,[true,false])],ret := [4] }
def zkX : zh := vl (x := zm Tryz.prog Tryz.f129 zxZ [] [])
def zlW : AFn := .code zkX [.t 4] 34 true
def zrJ : zk := { kill := kx [(0,[5007]),(1,[8010]),(2,[11022]),(3,[23025]),(4,[23,26029]),(5,[1,30044]),(6,[4,45])] }
def zAA : List (Nat × List (List Nat)) := qx [(5,[[],[0],[0,1],[1002],[1003],[1004],[1003],[1003],[1007],[1008],[1007],[1007],[2,3],[2,3],[],[]])]
@[irreducible] def zsr : zh := vl (x := zY Tryz.prog Tryz.f154 zrJ zAA 0 [])
def zuO : zh := vl (x := zm Tryz.prog Tryz.f154 zrJ zAA [zsr])
def zlV : AFn := .code zuO [] 46 true
def zyc : zk := { kill := kx [(0,[4]),(1,[0,1,5010])],obj := [(10,[true,false,false])],ret := [4] }
def zuX : zh := vl (x := zm Tryz.prog Tryz.f108 zyc [] [])
def zma : AFn := .code zuX [.t 4] 11 true
def zm1 : AFn := .ext (zgF 8)
def zyK : zk := { kill := kx [(0,[0,1,8]),(1,[2005,9023])],ret := [8] }
def zMU : List (Nat × List (List Nat)) := qx [(1,[[],[0],[0],[1002],[0],[0],[],[],[],[],[9],[9,10],[10011],[],[],[]])]
def zpH : zh := vl (x := zm Tryz.prog Tryz.f24 zyK zMU [])
def zmE : AFn := .code zpH [.t 8] 24 true
def zyS : zk := { kill := kx [(0,[0,1,8]),(1,[4,11018]),(2,[2,3,5,9,10,19048])],ret := [8] }
def zpL : zh := vl (x := zm Tryz.prog Tryz.f59 zyS [] [])
def zmM : AFn := .code zpL [.t 8] 49 true
def zx4 : zk := { kill := kx [(0,[0,5]),(1,[8,9]),(2,[1,2,10,11]),(3,[1,10,12017]),(4,[7,18]),(5,[2,6,19,20]),(6,[2,6,19,21025])],ret := [4,5] }
def zkY : zh := vl (x := zm Tryz.prog Tryz.f86 zx4 [] [])
def zl2 : AFn := .code zkY [.c 4 true 8, .t 5] 26 true
def zyx : zk := { kill := kx [(0,[0,2]),(1,[1,3008])],ret := [2] }
def zMQ : List (Nat × List (List Nat)) := qx [(1,[[],[],[],[1002],[],[],[]])]
def zvf : zh := vl (x := zm Tryz.prog Tryz.f9 zyx zMQ [])
def zqS : AFn := .code zvf [.t 2] 9 true
def zyz : zk := { kill := kx [(0,[0,2]),(1,[1,3005])],ret := [2] }
def zvi : zh := vl (x := zm Tryz.prog Tryz.f25 zyz [] [])
def zqT : AFn := .code zvi [.t 2] 6 true
def zyo : zk := { kill := kx [(0,[0,2]),(1,[3,4]),(2,[1,5]),(3,[1,5007])],ret := [2] }
def zu4 : zh := vl (x := zm Tryz.prog Tryz.f60 zyo [] [])
def zqJ : AFn := .code zu4 [.t 2] 8 true
def zrX : zk := { kill := kx [(0,[0,2]),(3,[5009]),(4,[11,12]),(5,[10,13022]),(6,[1,3,4,10,23])],acc := [3],exit := [(0,[3])],ret := [2] }
@[irreducible] def znP : zh := vl (x := zY Tryz.prog Tryz.f26 zrX [] 0 [])
def zvh : zh := vl (x := zm Tryz.prog Tryz.f26 zrX [] [znP])
def zmv : AFn := .code zvh [.t 2] 24 true
def znw : zk := { kill := kx [(0,[0,1,5]),(3,[14016]),(4,[17,18]),(6,[22024]),(7,[9,25027]),(8,[28]),(9,[2,3,7,10013,19021,29031]),(10,[10,29,32]),(11,[7,19022,33]),(12,[11014,35048]),(13,[2,3,34,49]),(14,[34,51055]),(15,[2,3,50,56]),(16,[50,58061]),(17,[2,3,57,62]),(18,[57,63,64]),(19,[65076]),(20,[2,3,77086])],obj := [(84,[false,false,false,true])],exit := [(0,[2,3,4]),(2,[2,3,4,11,12,13])],ret := [4,5] }
def ztn : List (Nat × List (List Nat)) := qx [(14,[[],[],[0,1],[],[],[]]),(19,[[],[],[0,1],[0,1],[],[1004],[1004],[1006],[1006],[1004],[8009],[8009],[],[]]),(20,[[],[0],[0],[0],[1003],[1003],[1003],[],[],[8],[],[]])]
@[irreducible] def zg4 : zh := vl (x := zY Tryz.prog Tryz.f11 znw ztn 0 [])
@[irreducible] def zj1 : zh := vl (x := zY Tryz.prog Tryz.f11 znw ztn 1 [zg4])
def zpK : zh := vl (x := zm Tryz.prog Tryz.f11 znw ztn [zg4, zj1])
def zjp : AFn := .code zpK [.c 4 true 8, .t 5] 87 true
def zyO : zk := { kill := kx [(0,[0,3]),(1,[1,2,4007])],ret := [3] }
def zvs : zh := vl (x := zm Tryz.prog Tryz.f32 zyO [] [])
def zjq : AFn := .code zvs [.t 3] 8 true
def znu : zk := { kill := kx [(0,[0,2]),(2,[1,7,8]),(4,[9011]),(5,[13,14]),(6,[12,15,16]),(7,[17030]),(8,[31033]),(9,[6,31,34048]),(10,[3005,12,49])],ghost := [(9,[4000037,1000074])],exit := [(0,[3]),(2,[3,4,5,6])],ret := [2] }
def ztl : List (Nat × List (List Nat)) := qx [(7,[[],[],[],[],[3],[3],[],[],[4007],[4008],[4007],[4007],[4007],[],[]]),(9,[[],[0],[],[],[1003],[1004],[1003],[1003],[1003],[1003],[],[1010],[1011],[1010],[],[]])]
@[irreducible] def zeM : zh := vl (x := zY Tryz.prog Tryz.f13 znu ztl 0 [])
@[irreducible] def zda : zh := vl (x := zY Tryz.prog Tryz.f13 znu ztl 1 [zeM])
def zpB : zh := vl (x := zm Tryz.prog Tryz.f13 znu ztl [zeM, zda])
def zqz : AFn := .code zpB [.t 2] 50 true
def zrS : zk := { kill := kx [(0,[4]),(1,[6009]),(2,[0,1,10]),(3,[10]),(4,[11013]),(5,[15,16,25]),(6,[14,17024]),(7,[0,1,5,25]),(8,[0,1,5,14])],ret := [4] }
def zAF : List (Nat × List (List Nat)) := qx [(6,[[],[0],[],[],[1003],[1004],[1003],[1003],[]])]
@[irreducible] def zsy : zh := vl (x := zY Tryz.prog Tryz.f12 zrS zAF 0 [])
def zk8 : zh := vl (x := zm Tryz.prog Tryz.f12 zrS zAF [zsy])
def zqN : AFn := .code zk8 [.t 4] 26 true
def zyN : zk := { kill := kx [(0,[0,2]),(1,[3,4]),(2,[1,5]),(3,[1,5007])],ret := [2] }
def zpJ : zh := vl (x := zm Tryz.prog Tryz.f14 zyN [] [])
def zmH : AFn := .code zpJ [.t 2] 8 true
end Go.Proofs.YtfggldgdejjlnaaGreat
