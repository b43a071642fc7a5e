/-
  Functions of the program, as the calculus has them.
-/
import Derived.Test.YtnmcgdpmikhohaaGreatBa479406
import Derived.Test.YtnmcgdpmikhohaaGreatProg
set_option linter.unusedSimpArgs false
set_option linter.unusedVariables false
set_option maxHeartbeats 10000000
set_option maxRecDepth 100000
namespace Go.Proofs.YtnmcgdpmikhohaaGreat
open Go Go.Sim
def zafO:zn:={ kill:=kx [(0,[4]),(1,[6009]),(2,[0,1,10]),(3,[10]),(4,[11013]),(5,[15,16,27]),(6,[14,17026]),(7,[0,1,5,27]),(8,[0,1,5,14])],ret:=[4] }
def zagE:List (Nat×List (List Nat)):=qx [(6,[[],[0],[],[],[],[1004],[1005],[1004],[1004],[1004],[]])]
@[irreducible] def zagw:zg:=vl (x:=zZ Tryz.prog Tryz.f152 zafO zagE 0 [])
def zaga:zg:=vl (x:=zu Tryz.prog Tryz.f152 zafO zagE [zagw])
def zagU:List zl:=[.t 4]
def zafD:AFn:= .code zaga zagU 28 true
def zafM:zn:={ kill:=kx [(0,[4]),(1,[8011]),(2,[0,1,12]),(3,[12]),(4,[13015]),(5,[17,18,75]),(6,[16,19026]),(7,[6,7,27074]),(8,[0,1,5,75]),(9,[0,1,5,16])],ret:=[4] }
def zagC:List (Nat×List (List Nat)):=qx [(6,[[],[0],[],[],[1003],[1004],[1003],[1003],[1007],[1008],[5007],[]])]
@[irreducible] def zafS:zg:=vl (x:=zZ Tryz.prog Tryz.f101 zafM zagC 0 [])
def zaf8:zg:=vl (x:=zu Tryz.prog Tryz.f101 zafM zagC [zafS])
def zagS:List zl:=[.t 4]
def zafB:AFn:= .code zaf8 zagS 76 true
def zafP:zn:={ kill:=kx [(0,[4]),(1,[6009]),(2,[0,1,10]),(3,[10]),(4,[11013]),(5,[15,16,26]),(6,[14,17025]),(7,[0,1,5,26]),(8,[0,1,5,14])],ret:=[4] }
def zagF:List (Nat×List (List Nat)):=qx [(6,[[],[0],[],[],[1003],[1004],[1003],[1003],[],[]])]
@[irreducible] def zafT:zg:=vl (x:=zZ Tryz.prog Tryz.f51 zafP zagF 0 [])
def zagb:zg:=vl (x:=zu Tryz.prog Tryz.f51 zafP zagF [zafT])
def zagW:List zl:=[.t 4]
def zafF:AFn:= .code zagb zagW 27 true
def zagx:zg:=
 (.seq (.seq (.ops [] [oM 76 5,oP 77 (.fad false 7 1 (.t 2)),oP 78 (.ld false 1 (.t 77)),oP 79 (.len (.t 78)),oP 80 (.bin .lss (.t 76) (.t 79))] [76,77,78,79])
 (.cond (.t 80) .skip (.exit 0 [])))
 (.seq (.block 1 (.seq (.draw [] [oP 83 (.fad false 7 1 (.t 2)),oP 84 (.ld false 1 (.t 83)),oM 85 5,oP 86 (.iad 4 (.t 84) (.t 85)),oP 87 (.ld true 4 (.t 86)),oP 88 (.fad false 7 1 (.t 3)),oP 89 (.ld false 1 (.t 88)),oM 90 5,oP 91 (.iad 4 (.t 89) (.t 90)),oP 92 (.ld true 4 (.t 91)),oP 93 (.eqs true 4 [(0,0),(1,0),(2,0),(3,0)] (.t 87) (.t 92))] [[],[],[0,1],[],[],[0,1,2,3,4],[0,1,2,3,4],[0,1,2,3,4,5,6],[0,1,2,3,4],[0,1,2,3,4],[]] [80,83,84,85,86,87,88,89,90,91,92])
 (.cond (.t 93) (.seq (.ops [] [oP 4 (.mv (.c (.d (.bool false))))] [2,3,5,93])
 (.ret [4])) .skip)))
 (.ops [] [oM 81 5,oP 82 (.bin .add (.t 81) (kI 1)),oM 5 82] [81,82,93])))
def zafk:zg:=
 (.seq (.ops [] [oP 2 (.box (.t 0)),oP 3 (.box (.t 1)),oP 4 (.mv (.c (.d (.bool false))))] [0,1,4])
 (.seq (.seq (.ops [] [oP 6 (.fad false 0 1 (.t 2)),oP 7 (.ld false 1 (.t 6)),oP 8 (.fad false 0 1 (.t 3)),oP 9 (.ld false 1 (.t 8)),oP 10 (.bin .neq (.t 7) (.t 9)),oM 11 10,oQ 12 (.fad false 1 1 (.t 2)) 11 false,oQ 13 (.ld false 1 (.t 12)) 11 false,oQ 14 (.fad false 1 1 (.t 3)) 11 false,oQ 15 (.ld false 1 (.t 14)) 11 false,oQ 16 (.bin .neq (.t 13) (.t 15)) 11 false,oP 17 (.pick (.t 11) (.c (.d (.bool true))) (.t 16)),oM 18 17,oQ 19 (.fad false 2 1 (.t 2)) 18 false,oQ 20 (.ld false 1 (.t 19)) 18 false,oQ 21 (.fad false 2 1 (.t 3)) 18 false,oQ 22 (.ld false 1 (.t 21)) 18 false,oQ 23 (.bin .neq (.t 20) (.t 22)) 18 false,oP 24 (.pick (.t 18) (.c (.d (.bool true))) (.t 23)),oM 25 24,oQ 26 (.fad false 3 1 (.t 2)) 25 false,oQ 27 (.ld false 1 (.t 26)) 25 false,oQ 28 (.fad false 3 1 (.t 3)) 25 false,oQ 29 (.ld false 1 (.t 28)) 25 false,oQ 30 (.bin .neq (.t 27) (.t 29)) 25 false,oP 31 (.pick (.t 25) (.c (.d (.bool true))) (.t 30)),oM 32 31,oQ 33 (.fad false 4 1 (.t 2)) 32 false,oQ 34 (.ld false 1 (.t 33)) 32 false,oQ 35 (.fad false 4 1 (.t 3)) 32 false,oQ 36 (.ld false 1 (.t 35)) 32 false,oQ 37 (.bin .neq (.t 34) (.t 36)) 32 false,oP 38 (.pick (.t 32) (.c (.d (.bool true))) (.t 37)),oM 39 38,oQ 40 (.fad false 5 1 (.t 2)) 39 false,oQ 41 (.ld false 1 (.t 40)) 39 false,oQ 42 (.fad false 5 1 (.t 3)) 39 false,oQ 43 (.ld false 1 (.t 42)) 39 false,oQ 44 (.bin .neq (.t 41) (.t 43)) 39 false,oP 45 (.pick (.t 39) (.c (.d (.bool true))) (.t 44)),oM 46 45,oQ 47 (.fad false 6 1 (.t 2)) 46 false,oQ 48 (.ld false 1 (.t 47)) 46 false,oQ 49 (.fad false 6 1 (.t 3)) 46 false,oQ 50 (.ld false 1 (.t 49)) 46 false,oQ 51 (.bin .neq (.t 48) (.t 50)) 46 false,oP 52 (.pick (.t 46) (.c (.d (.bool true))) (.t 51)),oM 53 52,oQ 54 (.fad false 8 1 (.t 2)) 53 false,oQ 55 (.ld false 1 (.t 54)) 53 false,oQ 56 (.fad false 8 1 (.t 3)) 53 false,oQ 57 (.ld false 1 (.t 56)) 53 false,oQ 58 (.bin .neq (.t 55) (.t 57)) 53 false,oP 59 (.pick (.t 53) (.c (.d (.bool true))) (.t 58)),oM 60 59,oQ 61 (.fad false 9 1 (.t 2)) 60 false,oQ 62 (.ld false 1 (.t 61)) 60 false,oQ 63 (.fad false 9 1 (.t 3)) 60 false,oQ 64 (.ld false 1 (.t 63)) 60 false,oQ 65 (.bin .neq (.t 62) (.t 64)) 60 false,oP 66 (.pick (.t 60) (.c (.d (.bool true))) (.t 65)),oM 67 66,oQ 68 (.fad false 7 1 (.t 2)) 67 false,oQ 69 (.ld false 1 (.t 68)) 67 false,oQ 70 (.len (.t 69)) 67 false,oQ 71 (.fad false 7 1 (.t 3)) 67 false,oQ 72 (.ld false 1 (.t 71)) 67 false,oQ 73 (.len (.t 72)) 67 false,oQ 74 (.bin .neq (.t 70) (.t 73)) 67 false,oP 75 (.pick (.t 67) (.c (.d (.bool true))) (.t 74))] [6,7,8,9,10,11,12,13,14,15,16,17,18,19,20,21,22,23,24,25,26,27,28,29,30,31,32,33,34,35,36,37,38,39,40,41,42,43,44,45,46,47,48,49,50,51,52,53,54,55,56,57,58,59,60,61,62,63,64,65,66,67,68,69,70,71,72,73,74])
 (.cond (.t 75) (.seq (.ops [] [oP 4 (.mv (.c (.d (.bool false))))] [2,3,75])
 (.ret [4])) .skip))
 (.seq (.seq (.ops [] [oP 5 (.mv (kI 0))] [75])
 (.block 0 (.loop [] zagx)))
 (.seq (.ops [] [oP 4 (.mv (.c (.d (.bool true))))] [2,3,5,80])
 (.ret [4])))))
def zagV:List zl:=[.t 4]
def zafE:AFn:= .code zafk zagV 94 true
def zJa:zn:={ kill:=kx [(0,[0]),(1,[6]),(2,[1,7016]),(3,[2005,17054])],obj:=[(9,[false,false,true]),(12,[false,false,false,false,true])],ret:=[0] }
def z5D:List (Nat×List (List Nat)):=qx [(2,[[],[],[0,1],[1002],[],[],[],[6],[6,7],[7008],[1009],[8009],[8,9],[9],[]])]
def zD4:zg:=vl (x:=zu Tryz.prog Tryz.f11 zJa z5D [])
def zNH:List zl:=[.t 0]
def zHH:AFn:= .code zD4 zNH 55 true
def zI6:zn:={ kill:=kx [(1,[0,1,2,7010])],ret:=[6] }
def zD1:zg:=vl (x:=zu Tryz.prog Tryz.f52 zI6 [] [])
def zND:List zl:=[.c 6 true 8]
def zHG:AFn:= .code zD1 zND 11 true
def zYG:zg:=
 (.seq (.seq (.ops [] [oM 13 7,oM 14 1,oP 15 (.bin .lss (.t 13) (.t 14))] [13,14])
 (.cond (.t 15) .skip (.exit 0 [4,5])))
 (.seq (.block 1 (.seq (.ops [] [oP 19 (.ld true 23 (.t 5)),oP 20 (.bsl 1 1 (.d (.str [])) [(0,.c (.d (.str [109])))]),oP 21 (.build [aI 0,aI 0,aI 0,aI 0,aI 0,aI 0,.xsl [],.xsl []] [(0,(1,kI 1)),(6,(1,.t 20))]),oP 22 (.call zlS [false,false,true] [.t 19,.t 21]),oM 18 22,oP 23 (.ext (.t 18) 0),oP 24 (.ext (.t 18) 1),oP 25 (.ext (.t 18) 2),oN (.st 23 (.t 5) (.t 23))] [15,18,19,20,21,22,23,24,25])
 (.ops [] [oP 27 (.ld true 23 (.t 5)),oP 28 (.call zt1 [false,true] [.t 27]),oM 26 28,oP 29 (.ext (.t 26) 0),oP 30 (.ext (.t 26) 1),oP 31 (.ext (.t 26) 2),oN (.st 23 (.t 5) (.t 29))] [26,27,28,29,30,31])))
 (.ops [] [oM 16 7,oP 17 (.bin .add (.t 16) (kI 1)),oM 7 17] [16,17])))
def zuo:zg:=
 (.seq (.ops [] [oP 2 (.box (.t 0)),oP 4 (.alloc (.agg [.xsl [],.xsl [],aI 0,aI 0,.xsl [],aI 0,.xsl [],.xsl [],aI 0,aI 0,aI 0]))] [0])
 (.seq (.ops [] [oP 9 (.ld true 8 (.t 2)),oP 10 (.call zlT [false,true] [.t 9]),oM 8 10,oP 11 (.ext (.t 8) 0),oP 12 (.ext (.t 8) 1),oP 5 (.alloc (.agg [aI 0,aI 0,aI 0,aI 0,aI 0,aI 0,aI 0,aI 0,.xsl [],.xsl [],aI 0,aI 0,.xsl [],aI 0,.xsl [],.xsl [],aI 0,aI 0,aI 0,.xsl [],.xsl [],aI 0,.xsl []])),oN (.st 23 (.t 5) (.t 11)),oM 6 12] [2,6,8,9,10,11,12])
 (.seq (.seq (.ops [] [oP 7 (.mv (kI 0))] [])
 (.block 0 (.loop [] zYG)))
 (.seq (.ops [] [oP 32 (.fad true 8 11 (.t 5)),oP 33 (.ld true 11 (.t 32)),oN (.st 11 (.t 4) (.t 33))] [1,5,7,15,32,33])
 (.ret [4])))))
def zNv:List zl:=[.c 4 true 11]
def zHF:AFn:= .code zuo zNv 34 true
def zr9:zn:={ kill:=kx [(0,[0,3,4]),(1,[11,12]),(2,[13020]),(3,[21023]),(5,[24031]),(6,[33,34]),(7,[32,35043]),(8,[44]),(9,[1,5010,45047]),(10,[9,10,45,48]),(11,[49,50]),(12,[1,5,6,21,51,52])],obj:=[(41,[false,false,true])],loop:=[(2,[7,8,32])],exit:=[(0,[1,2,6]),(2,[1,2,5,6])],ret:=[2,3,4] }
def zBV:List (Nat×List (List Nat)):=qx [(7,[[],[0],[0,1],[0],[0],[],[],[],[7],[1008],[8],[]])]
@[irreducible] def zLY:zg:=vl (x:=zZ Tryz.prog Tryz.f105 zr9 zBV 0 [])
@[irreducible] def zYJ:zg:=vl (x:=zZ Tryz.prog Tryz.f105 zr9 zBV 1 [zLY])
def zGi:zg:=vl (x:=zu Tryz.prog Tryz.f105 zr9 zBV [zLY,zYJ])
def zPY:List zl:=[.c 2 true 23,.t 3,.t 4]
def zHK:AFn:= .code zGi zPY 53 true
def zAl:zn:={ kill:=kx [(0,[0,2]),(1,[9,10]),(2,[11016]),(4,[17,18]),(5,[20,21]),(6,[19,22029]),(7,[8,30037]),(8,[1,3007,19,38060])],exit:=[(0,[4,5,6])],ret:=[2] }
def zNk:List (Nat×List (List Nat)):=qx [(2,[[],[],[0,1],[0,1],[0,1],[0,1],[3005],[],[]]),(6,[[],[],[0,1],[1002],[0,1],[0,1],[],[],[1007],[]]),(7,[[],[0],[0],[0],[1003],[1003],[0],[],[]])]
@[irreducible] def zYI:zg:=vl (x:=zZ Tryz.prog Tryz.f153 zAl zNk 0 [])
def zGh:zg:=vl (x:=zu Tryz.prog Tryz.f153 zAl zNk [zYI])
def zPX:List zl:=[.t 2]
def zHJ:AFn:= .code zGh zPX 61 true
def zzM:zn:={ kill:=kx [(0,[0,1,2,9011]),(1,[5,6,13,20026]),(4,[27032]),(5,[33035]),(6,[36046]),(7,[19,47052]),(8,[3,4,12,14018,53,54]),(9,[16,17,53,55,56]),(10,[18,57059]),(11,[3,4,12,14,15,33,60064])],obj:=[(24,[false,false,false,false,true]),(42,[false,false,false,true])],acc:=[14],exit:=[(0,[4,8,12,14,15])],ret:=[8,9,10,11] }
def zM2:List (Nat×List (List Nat)):=qx [(9,[[],[0],[1],[]]),(11,[[],[0],[0],[1002],[1003],[2004],[3,4],[4],[]])]
@[irreducible] def zYH:zg:=vl (x:=zZ Tryz.prog Tryz.f53 zzM zM2 0 [])
def zD5:zg:=vl (x:=zu Tryz.prog Tryz.f53 zzM zM2 [zYH])
def zNI:List zl:=[.c 8 true 11,.t 9,.t 10,.t 11]
def zHI:AFn:= .code zD5 zNI 65 true
end Go.Proofs.YtnmcgdpmikhohaaGreat
