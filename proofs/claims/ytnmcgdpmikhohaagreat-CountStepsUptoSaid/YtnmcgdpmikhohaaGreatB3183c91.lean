/-
  Functions of the program, as the calculus has them.
-/
import Derived.Test.YtnmcgdpmikhohaaGreatB7f1db76
import Derived.Test.YtnmcgdpmikhohaaGreatProg
set_option linter.unusedSimpArgs false
set_option linter.unusedVariables false
set_option maxHeartbeats 10000000
set_option maxRecDepth 100000
namespace Go.Proofs.YtnmcgdpmikhohaaGreat
open Go Go.Sim
def zagE:zn:={ kill:=kx [(0,[4]),(1,[6009]),(2,[0,1,10]),(3,[10]),(4,[11013]),(5,[15,16,27]),(6,[14,17026]),(7,[0,1,5,27]),(8,[0,1,5,14])],ret:=[4] }
def zaib:List (Nat×List (List Nat)):=qx [(6,[[],[0],[],[],[],[1004],[1005],[1004],[1004],[1004],[]])]
@[irreducible] def zah3:zg:=vl (x:=zZ Tryz.prog Tryz.f152 zagE zaib 0 [])
def zahf:zg:=vl (x:=zu Tryz.prog Tryz.f152 zagE zaib [zah3])
def zaiz:List zl:=[.t 4]
def zagh:AFn:= .code zahf zaiz 28 true
def zagC:zn:={ kill:=kx [(0,[4]),(1,[8011]),(2,[0,1,12]),(3,[12]),(4,[13015]),(5,[17,18,75]),(6,[16,19026]),(7,[6,7,27074]),(8,[0,1,5,75]),(9,[0,1,5,16])],ret:=[4] }
def zah9:List (Nat×List (List Nat)):=qx [(6,[[],[0],[],[],[1003],[1004],[1003],[1003],[1007],[1008],[5007],[]])]
@[irreducible] def zagK:zg:=vl (x:=zZ Tryz.prog Tryz.f101 zagC zah9 0 [])
def zahd:zg:=vl (x:=zu Tryz.prog Tryz.f101 zagC zah9 [zagK])
def zaix:List zl:=[.t 4]
def zagf:AFn:= .code zahd zaix 76 true
def zagF:zn:={ kill:=kx [(0,[4]),(1,[6009]),(2,[0,1,10]),(3,[10]),(4,[11013]),(5,[15,16,26]),(6,[14,17025]),(7,[0,1,5,26]),(8,[0,1,5,14])],ret:=[4] }
def zaic:List (Nat×List (List Nat)):=qx [(6,[[],[0],[],[],[1003],[1004],[1003],[1003],[],[]])]
@[irreducible] def zagL:zg:=vl (x:=zZ Tryz.prog Tryz.f51 zagF zaic 0 [])
def zahg:zg:=vl (x:=zu Tryz.prog Tryz.f51 zagF zaic [zagL])
def zaiB:List zl:=[.t 4]
def zagj:AFn:= .code zahg zaiB 27 true
def zah4:zg:=
 (.seq (.seq (.ops [] [oM 76 5,oP 77 (.fad false 7 1 (.t 2)),oP 78 (.ld false 1 (.t 77)),oP 79 (.len (.t 78)),oP 80 (.bin .lss (.t 76) (.t 79))] [76,77,78,79])
 (.cond (.t 80) .skip (.exit 0 [])))
 (.seq (.block 1 (.seq (.draw [] [oP 83 (.fad false 7 1 (.t 2)),oP 84 (.ld false 1 (.t 83)),oM 85 5,oP 86 (.iad 4 (.t 84) (.t 85)),oP 87 (.ld true 4 (.t 86)),oP 88 (.fad false 7 1 (.t 3)),oP 89 (.ld false 1 (.t 88)),oM 90 5,oP 91 (.iad 4 (.t 89) (.t 90)),oP 92 (.ld true 4 (.t 91)),oP 93 (.eqs true 4 [(0,0),(1,0),(2,0),(3,0)] (.t 87) (.t 92))] [[],[],[0,1],[],[],[0,1,2,3,4],[0,1,2,3,4],[0,1,2,3,4,5,6],[0,1,2,3,4],[0,1,2,3,4],[]] [80,83,84,85,86,87,88,89,90,91,92])
 (.cond (.t 93) (.seq (.ops [] [oP 4 (.mv (.c (.d (.bool false))))] [2,3,5,93])
 (.ret [4])) .skip)))
 (.ops [] [oM 81 5,oP 82 (.bin .add (.t 81) (kI 1)),oM 5 82] [81,82,93])))
def zafM:zg:=
 (.seq (.ops [] [oP 2 (.box (.t 0)),oP 3 (.box (.t 1)),oP 4 (.mv (.c (.d (.bool false))))] [0,1,4])
 (.seq (.seq (.ops [] [oP 6 (.fad false 0 1 (.t 2)),oP 7 (.ld false 1 (.t 6)),oP 8 (.fad false 0 1 (.t 3)),oP 9 (.ld false 1 (.t 8)),oP 10 (.bin .neq (.t 7) (.t 9)),oM 11 10,oQ 12 (.fad false 1 1 (.t 2)) 11 false,oQ 13 (.ld false 1 (.t 12)) 11 false,oQ 14 (.fad false 1 1 (.t 3)) 11 false,oQ 15 (.ld false 1 (.t 14)) 11 false,oQ 16 (.bin .neq (.t 13) (.t 15)) 11 false,oP 17 (.pick (.t 11) (.c (.d (.bool true))) (.t 16)),oM 18 17,oQ 19 (.fad false 2 1 (.t 2)) 18 false,oQ 20 (.ld false 1 (.t 19)) 18 false,oQ 21 (.fad false 2 1 (.t 3)) 18 false,oQ 22 (.ld false 1 (.t 21)) 18 false,oQ 23 (.bin .neq (.t 20) (.t 22)) 18 false,oP 24 (.pick (.t 18) (.c (.d (.bool true))) (.t 23)),oM 25 24,oQ 26 (.fad false 3 1 (.t 2)) 25 false,oQ 27 (.ld false 1 (.t 26)) 25 false,oQ 28 (.fad false 3 1 (.t 3)) 25 false,oQ 29 (.ld false 1 (.t 28)) 25 false,oQ 30 (.bin .neq (.t 27) (.t 29)) 25 false,oP 31 (.pick (.t 25) (.c (.d (.bool true))) (.t 30)),oM 32 31,oQ 33 (.fad false 4 1 (.t 2)) 32 false,oQ 34 (.ld false 1 (.t 33)) 32 false,oQ 35 (.fad false 4 1 (.t 3)) 32 false,oQ 36 (.ld false 1 (.t 35)) 32 false,oQ 37 (.bin .neq (.t 34) (.t 36)) 32 false,oP 38 (.pick (.t 32) (.c (.d (.bool true))) (.t 37)),oM 39 38,oQ 40 (.fad false 5 1 (.t 2)) 39 false,oQ 41 (.ld false 1 (.t 40)) 39 false,oQ 42 (.fad false 5 1 (.t 3)) 39 false,oQ 43 (.ld false 1 (.t 42)) 39 false,oQ 44 (.bin .neq (.t 41) (.t 43)) 39 false,oP 45 (.pick (.t 39) (.c (.d (.bool true))) (.t 44)),oM 46 45,oQ 47 (.fad false 6 1 (.t 2)) 46 false,oQ 48 (.ld false 1 (.t 47)) 46 false,oQ 49 (.fad false 6 1 (.t 3)) 46 false,oQ 50 (.ld false 1 (.t 49)) 46 false,oQ 51 (.bin .neq (.t 48) (.t 50)) 46 false,oP 52 (.pick (.t 46) (.c (.d (.bool true))) (.t 51)),oM 53 52,oQ 54 (.fad false 8 1 (.t 2)) 53 false,oQ 55 (.ld false 1 (.t 54)) 53 false,oQ 56 (.fad false 8 1 (.t 3)) 53 false,oQ 57 (.ld false 1 (.t 56)) 53 false,oQ 58 (.bin .neq (.t 55) (.t 57)) 53 false,oP 59 (.pick (.t 53) (.c (.d (.bool true))) (.t 58)),oM 60 59,oQ 61 (.fad false 9 1 (.t 2)) 60 false,oQ 62 (.ld false 1 (.t 61)) 60 false,oQ 63 (.fad false 9 1 (.t 3)) 60 false,oQ 64 (.ld false 1 (.t 63)) 60 false,oQ 65 (.bin .neq (.t 62) (.t 64)) 60 false,oP 66 (.pick (.t 60) (.c (.d (.bool true))) (.t 65)),oM 67 66,oQ 68 (.fad false 7 1 (.t 2)) 67 false,oQ 69 (.ld false 1 (.t 68)) 67 false,oQ 70 (.len (.t 69)) 67 false,oQ 71 (.fad false 7 1 (.t 3)) 67 false,oQ 72 (.ld false 1 (.t 71)) 67 false,oQ 73 (.len (.t 72)) 67 false,oQ 74 (.bin .neq (.t 70) (.t 73)) 67 false,oP 75 (.pick (.t 67) (.c (.d (.bool true))) (.t 74))] [6,7,8,9,10,11,12,13,14,15,16,17,18,19,20,21,22,23,24,25,26,27,28,29,30,31,32,33,34,35,36,37,38,39,40,41,42,43,44,45,46,47,48,49,50,51,52,53,54,55,56,57,58,59,60,61,62,63,64,65,66,67,68,69,70,71,72,73,74])
 (.cond (.t 75) (.seq (.ops [] [oP 4 (.mv (.c (.d (.bool false))))] [2,3,75])
 (.ret [4])) .skip))
 (.seq (.seq (.ops [] [oP 5 (.mv (kI 0))] [75])
 (.block 0 (.loop [] zah4)))
 (.seq (.ops [] [oP 4 (.mv (.c (.d (.bool true))))] [2,3,5,80])
 (.ret [4])))))
def zaiA:List zl:=[.t 4]
def zagi:AFn:= .code zafM zaiA 94 true
def zI6:zn:={ kill:=kx [(1,[0,1,2,7010])],ret:=[6] }
def zD1:zg:=vl (x:=zu Tryz.prog Tryz.f52 zI6 [] [])
def zND:List zl:=[.c 6 true 8]
def zHG:AFn:= .code zD1 zND 11 true
def zYG:zg:=
 (.seq (.seq (.ops [] [oM 13 7,oM 14 1,oP 15 (.bin .lss (.t 13) (.t 14))] [13,14])
 (.cond (.t 15) .skip (.exit 0 [4,5])))
 (.seq (.block 1 (.seq (.ops [] [oP 19 (.ld true 23 (.t 5)),oP 20 (.bsl 1 1 (.d (.str [])) [(0,.c (.d (.str [109])))]),oP 21 (.build [aI 0,aI 0,aI 0,aI 0,aI 0,aI 0,.xsl [],.xsl []] [(0,(1,kI 1)),(6,(1,.t 20))]),oP 22 (.call zlS [false,false,true] [.t 19,.t 21]),oM 18 22,oP 23 (.ext (.t 18) 0),oP 24 (.ext (.t 18) 1),oP 25 (.ext (.t 18) 2),oN (.st 23 (.t 5) (.t 23))] [15,18,19,20,21,22,23,24,25])
 (.ops [] [oP 27 (.ld true 23 (.t 5)),oP 28 (.call zt1 [false,true] [.t 27]),oM 26 28,oP 29 (.ext (.t 26) 0),oP 30 (.ext (.t 26) 1),oP 31 (.ext (.t 26) 2),oN (.st 23 (.t 5) (.t 29))] [26,27,28,29,30,31])))
 (.ops [] [oM 16 7,oP 17 (.bin .add (.t 16) (kI 1)),oM 7 17] [16,17])))
def zuo:zg:=
 (.seq (.ops [] [oP 2 (.box (.t 0)),oP 4 (.alloc (.agg [.xsl [],.xsl [],aI 0,aI 0,.xsl [],aI 0,.xsl [],.xsl [],aI 0,aI 0,aI 0]))] [0])
 (.seq (.ops [] [oP 9 (.ld true 8 (.t 2)),oP 10 (.call zlT [false,true] [.t 9]),oM 8 10,oP 11 (.ext (.t 8) 0),oP 12 (.ext (.t 8) 1),oP 5 (.alloc (.agg [aI 0,aI 0,aI 0,aI 0,aI 0,aI 0,aI 0,aI 0,.xsl [],.xsl [],aI 0,aI 0,.xsl [],aI 0,.xsl [],.xsl [],aI 0,aI 0,aI 0,.xsl [],.xsl [],aI 0,.xsl []])),oN (.st 23 (.t 5) (.t 11)),oM 6 12] [2,6,8,9,10,11,12])
 (.seq (.seq (.ops [] [oP 7 (.mv (kI 0))] [])
 (.block 0 (.loop [] zYG)))
 (.seq (.ops [] [oP 32 (.fad true 8 11 (.t 5)),oP 33 (.ld true 11 (.t 32)),oN (.st 11 (.t 4) (.t 33))] [1,5,7,15,32,33])
 (.ret [4])))))
def zNv:List zl:=[.c 4 true 11]
def zHF:AFn:= .code zuo zNv 34 true
def zr9:zn:={ kill:=kx [(0,[0,3,4]),(1,[11,12]),(2,[13020]),(3,[21023]),(5,[24031]),(6,[33,34]),(7,[32,35043]),(8,[44]),(9,[1,5010,45047]),(10,[9,10,45,48]),(11,[49,50]),(12,[1,5,6,21,51,52])],obj:=[(41,[false,false,true])],loop:=[(2,[7,8,32])],exit:=[(0,[1,2,6]),(2,[1,2,5,6])],ret:=[2,3,4] }
def zBV:List (Nat×List (List Nat)):=qx [(7,[[],[0],[0,1],[0],[0],[],[],[],[7],[1008],[8],[]])]
@[irreducible] def zLY:zg:=vl (x:=zZ Tryz.prog Tryz.f105 zr9 zBV 0 [])
@[irreducible] def zYJ:zg:=vl (x:=zZ Tryz.prog Tryz.f105 zr9 zBV 1 [zLY])
def zGi:zg:=vl (x:=zu Tryz.prog Tryz.f105 zr9 zBV [zLY,zYJ])
def zPY:List zl:=[.c 2 true 23,.t 3,.t 4]
def zHK:AFn:= .code zGi zPY 53 true
def zAl:zn:={ kill:=kx [(0,[0,2]),(1,[9,10]),(2,[11016]),(4,[17,18]),(5,[20,21]),(6,[19,22029]),(7,[8,30037]),(8,[1,3007,19,38060])],exit:=[(0,[4,5,6])],ret:=[2] }
def zNk:List (Nat×List (List Nat)):=qx [(2,[[],[],[0,1],[0,1],[0,1],[0,1],[3005],[],[]]),(6,[[],[],[0,1],[1002],[0,1],[0,1],[],[],[1007],[]]),(7,[[],[0],[0],[0],[1003],[1003],[0],[],[]])]
@[irreducible] def zYI:zg:=vl (x:=zZ Tryz.prog Tryz.f153 zAl zNk 0 [])
def zGh:zg:=vl (x:=zu Tryz.prog Tryz.f153 zAl zNk [zYI])
def zPX:List zl:=[.t 2]
def zHJ:AFn:= .code zGh zPX 61 true
def zahP:zn:={ kill:=kx [(0,[2]),(1,[0,3007])],ret:=[2] }
def zag5:zg:=vl (x:=zu Tryz.prog Tryz.f5 zahP [] [])
def zaio:List zl:=[.t 2]
def zaf2:AFn:= .code zag5 zaio 8 true
def zagz:zn:={ kill:=kx [(0,[4]),(1,[0,20,21]),(2,[22,23]),(3,[24034]),(4,[1,5,6,35]),(5,[1,35047]),(6,[8,48]),(7,[5007,49]),(8,[49,50]),(9,[6,51053]),(11,[54067]),(12,[69,70]),(13,[68,71,72]),(14,[73076]),(15,[73,77083]),(16,[84098]),(17,[99113]),(18,[12,14,15,18,114133]),(19,[5,7,9011,13,16,17,19,134]),(20,[19,134,135]),(21,[5,7,9011,13,16,17,136]),(22,[13,16,17,136142]),(23,[5,7,9011,68])],ghost:=[(10,[20106])],obj:=[(21,[false,true]),(23,[true,false,true]),(40,[true,false,false,true]),(45,[false,false,false,false,true]),(53,[true,false,true]),(72,[true,false]),(76,[true,true]),(94,[false,false,false,true]),(109,[false,false,false,true])],exit:=[(1,[5,7,9,10,11])],ret:=[4] }
def zah6:List (Nat×List (List Nat)):=qx [(5,[[],[0],[0,1],[],[1003],[1003],[1005],[1005],[],[],[],[10],[1011],[11],[]]),(16,[[],[],[],[],[1003],[1004],[1004],[1004],[1004],[],[],[],[11],[11,12],[12013],[1014],[1015],[13014],[13,14],[14],[]]),(17,[[],[],[],[],[1003],[1004],[1004],[1004],[1004],[],[],[],[11],[11,12],[12013],[1014],[1015],[13014],[13,14],[14],[]]),(22,[[],[0],[0,1],[1002],[2,3],[2,3],[2,3],[3],[]])]
@[irreducible] def zaa9:zg:=vl (x:=zZ Tryz.prog Tryz.f15 zagz zah6 0 [])
def zag6:zg:=vl (x:=zu Tryz.prog Tryz.f15 zagz zah6 [zaa9])
def zaip:List zl:=[.t 4]
def zaf4:AFn:= .code zag6 zaip 143 true
def zahJ:zn:={ kill:=kx [(0,[0,1,8,9]),(1,[12,13]),(3,[14]),(4,[10,15,16]),(5,[2,46]),(6,[19]),(7,[2,17,18,20025]),(8,[26028]),(9,[18,30]),(10,[2,17,29,31036]),(11,[29,38]),(12,[2,17,37,39045]),(13,[17,37,47]),(14,[2,46,48055]),(15,[2,15,56]),(16,[3,4,10,11,57060]),(17,[3,4,10,11,57,61063])],ret:=[6,7,8,9] }
def zakx:List (Nat×List (List Nat)):=qx [(17,[[],[0],[0,1],[1,2],[2],[],[]])]
def zagZ:zg:=vl (x:=zu Tryz.prog Tryz.f17 zahJ zakx [])
def zaii:List zl:=[.c 6 true 11,.c 7 true 63,.t 8,.t 9]
def zafW:AFn:= .code zagZ zaii 64 true
def zahM:zn:={ kill:=kx [(0,[0,2]),(1,[4,5]),(2,[1,3]),(3,[1,3,7010]),(4,[6]),(5,[6])],ret:=[2] }
def zag2:zg:=vl (x:=zu Tryz.prog Tryz.f63 zahM [] [])
def zail:List zl:=[.t 2]
def zafZ:AFn:= .code zag2 zail 11 true
def zahK:zn:={ kill:=kx [(0,[0,1,5]),(1,[6]),(2,[2,7014]),(3,[15]),(4,[3,6,16018]),(5,[6,16,19024]),(6,[25,26]),(7,[27,28]),(8,[29,30]),(9,[3,25,29,31])],ret:=[4,5] }
def zag0:zg:=vl (x:=zu Tryz.prog Tryz.f64 zahK [] [])
def zaij:List zl:=[.c 4 true 63,.t 5]
def zafX:AFn:= .code zag0 zaij 32 true
def zahL:zn:={ kill:=kx [(0,[0,4,5]),(1,[2,8014]),(2,[15]),(3,[1,6,7,16,17]),(4,[1,6,7,16,18026])],ret:=[4,5] }
def zaky:List (Nat×List (List Nat)):=qx [(4,[[],[0],[0],[1002],[1002],[],[1005],[1005],[],[],[]])]
def zag1:zg:=vl (x:=zu Tryz.prog Tryz.f113 zahL zaky [])
def zaik:List zl:=[.t 4,.t 5]
def zafY:AFn:= .code zag1 zaik 27 true
def zahF:zn:={ kill:=kx [(0,[0,5]),(1,[6013]),(2,[1,2,14,15]),(3,[1,2,14,16020])],ret:=[4,5] }
def zagU:zg:=vl (x:=zu Tryz.prog Tryz.f160 zahF [] [])
def zaid:List zl:=[.c 4 true 4,.t 5]
def zafS:AFn:= .code zagU zaid 21 true
def zahX:zn:={ kill:=kx [(0,[2]),(1,[0,3005])],ret:=[2] }
def zahh:zg:=vl (x:=zu Tryz.prog Tryz.f114 zahX [] [])
def zaiE:List zl:=[.t 2]
def zago:AFn:= .code zahh zaiE 6 true
def zahW:zn:={ kill:=kx [(0,[4]),(1,[0,1,5008])],ret:=[4] }
def zafO:zg:=vl (x:=zu Tryz.prog Tryz.f161 zahW [] [])
def zagR:List zl:=[.t 4]
def zagl:AFn:= .code zafO zagR 9 true
def zagG:zn:={ kill:=kx [(0,[4]),(1,[6]),(3,[9,10]),(4,[11015]),(5,[0,1,5,7,8,16,17]),(6,[5,16,18]),(7,[0,1,7009])],ret:=[4] }
@[irreducible] def zagM:zg:=vl (x:=zZ Tryz.prog Tryz.f199 zagG [] 0 [])
def zafw:zg:=vl (x:=zu Tryz.prog Tryz.f199 zagG [] [zagM])
def zafG:List zl:=[.t 4]
def zagn:AFn:= .code zafw zafG 19 true
def zahY:zn:={ kill:=kx [(0,[0,2]),(1,[1,3006])],ret:=[2] }
def zahi:zg:=vl (x:=zu Tryz.prog Tryz.f162 zahY [] [])
def zaiF:List zl:=[.t 2]
def zagp:AFn:= .code zahi zaiF 7 true
def zahN:zn:={ kill:=kx [(0,[0,1,7]),(1,[8]),(2,[3,9016]),(3,[17]),(4,[2,4,8,18020]),(5,[8,18,21023]),(6,[2,24026]),(7,[2,24,27032]),(8,[33,34]),(9,[35038]),(10,[39,40]),(11,[4,33,39,41])],ret:=[6,7] }
def zag3:zg:=vl (x:=zu Tryz.prog Tryz.f65 zahN [] [])
def zaim:List zl:=[.c 6 true 63,.t 7]
def zaf0:AFn:= .code zag3 zaim 42 true
def zahZ:zn:={ kill:=kx [(0,[4]),(1,[0,1,5007])],ret:=[4] }
def zahj:zg:=vl (x:=zu Tryz.prog Tryz.f115 zahZ [] [])
def zaiG:List zl:=[.t 4]
def zagq:AFn:= .code zahj zaiG 8 true
def zafD:zg:=
 (.seq (.ops [] [oP 14 (.bin .lss (.t 13) (.t 12))] [])
 (.seq (.cond (.t 14) .skip (.exit 0 []))
 (.seq (.block 1 (.seq (.ops [] [oM 15 13,oM 5 15] [14,15])
 (.seq (.draw [] [oM 16 0,oM 17 5,oP 18 (.iad 4 (.t 16) (.t 17)),oP 19 (.ld true 4 (.t 18)),oM 20 1,oM 21 5,oP 22 (.iad 4 (.t 20) (.t 21)),oP 23 (.ld true 4 (.t 22)),oP 24 (.eqs true 4 [(0,0),(1,0),(2,0),(3,0)] (.t 19) (.t 23))] [[],[0],[],[],[0,1,2,3],[0,1,2,3,4],[0,1,2,3],[0,1,2,3],[]] [5,16,17,18,19,20,21,22,23])
 (.cond (.t 24) (.seq (.ops [] [oP 4 (.mv (.c (.d (.bool false))))] [0,1,12,13,24])
 (.ret [4])) .skip))))
 (.ops [] [oP 25 (.bin .add (.t 13) (kI 1)),oM 13 25] [24,25]))))
def zafP:zg:=
 (.seq (.ops [] [oP 4 (.mv (.c (.d (.bool false))))] [4])
 (.seq (.seq (.ops [] [oM 6 0,oP 7 (.len (.t 6)),oM 8 1,oP 9 (.len (.t 8)),oP 10 (.bin .neq (.t 7) (.t 9))] [6,7,8,9])
 (.cond (.t 10) (.seq (.ops [] [oP 4 (.mv (.c (.d (.bool false))))] [0,1,10])
 (.ret [4])) .skip))
 (.seq (.seq (.ops [] [oM 11 0,oP 12 (.len (.t 11)),oP 13 (.mv (kI 0))] [10,11])
 (.block 0 (.loop [] zafD)))
 (.seq (.ops [] [oP 4 (.mv (.c (.d (.bool true))))] [0,1,12,13,14])
 (.ret [4])))))
def zaiD:List zl:=[.t 4]
def zagm:AFn:= .code zafP zaiD 26 true
def zahO:zn:={ kill:=kx [(0,[0,1,7,8]),(1,[3,14018]),(2,[19]),(3,[2,4,9,10,20022]),(4,[9,10,20,23025]),(5,[2,26,27]),(6,[4,28]),(7,[26,29036]),(8,[37047]),(9,[2,4,11013,48055])],ret:=[6,7,8] }
def zakz:List (Nat×List (List Nat)):=qx [(9,[[],[0],[0,1],[0],[1003],[],[1005],[1005],[6,7],[],[]])]
def zag4:zg:=vl (x:=zu Tryz.prog Tryz.f66 zahO zakz [])
def zain:List zl:=[.c 6 true 63,.t 7,.t 8]
def zaf1:AFn:= .code zag4 zain 56 true
def zagH:zn:={ kill:=kx [(1,[0]),(3,[11013]),(4,[14031]),(5,[32036]),(6,[7,37040]),(7,[7,32,41]),(8,[1,8011,42,43])],exit:=[(0,[4,5])],ret:=[4,5] }
@[irreducible] def zafE:zg:=vl (x:=zZ Tryz.prog Tryz.f116 zagH [] 0 [])
def zahk:zg:=vl (x:=zu Tryz.prog Tryz.f116 zagH [] [zafE])
def zaiH:List zl:=[.t 4,.t 5]
def zagr:AFn:= .code zahk zaiH 44 true
def zah0:zn:={ kill:=kx [(0,[2]),(1,[0,3008])],ret:=[2] }
def zafQ:zg:=vl (x:=zu Tryz.prog Tryz.f164 zah0 [] [])
def zagS:List zl:=[.t 2]
def zags:AFn:= .code zafQ zagS 9 true
def zahQ:zn:={ kill:=kx [(0,[0]),(1,[6]),(2,[1,2,7016]),(3,[3005,17049])],obj:=[(9,[false,false,true]),(12,[false,false,false,false,true])],ret:=[0] }
def zakA:List (Nat×List (List Nat)):=qx [(2,[[],[],[0,1],[1002],[],[],[],[6],[6,7],[7008],[1009],[8009],[8,9],[9],[]])]
def zafJ:zg:=vl (x:=zu Tryz.prog Tryz.f16 zahQ zakA [])
def zagP:List zl:=[.t 0]
def zaf3:AFn:= .code zafJ zagP 50 true
def zagA:zn:={ kill:=kx [(0,[0,1,2,9011]),(1,[5,6,13,20026]),(4,[27032]),(5,[33035]),(6,[36046]),(7,[19,47052]),(8,[3,4,12,14018,53,54]),(9,[16,17,53,55,56]),(10,[18,57059]),(11,[3,4,12,14,15,33,60064])],obj:=[(24,[false,false,false,false,true]),(42,[false,false,false,true])],acc:=[14],exit:=[(0,[4,8,12,14,15])],ret:=[8,9,10,11] }
def zah7:List (Nat×List (List Nat)):=qx [(9,[[],[0],[1],[]]),(11,[[],[0],[0],[1002],[1003],[2004],[3,4],[4],[]])]
@[irreducible] def zajK:zg:=vl (x:=zZ Tryz.prog Tryz.f62 zagA zah7 0 [])
def zag7:zg:=vl (x:=zu Tryz.prog Tryz.f62 zagA zah7 [zajK])
def zaiq:List zl:=[.c 8 true 11,.t 9,.t 10,.t 11]
def zahu:AFn:= .code zag7 zaiq 65 true
end Go.Proofs.YtnmcgdpmikhohaaGreat
