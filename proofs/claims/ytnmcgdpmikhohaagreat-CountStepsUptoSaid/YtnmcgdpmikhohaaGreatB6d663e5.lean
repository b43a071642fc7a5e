/-
  Functions of the program, as the calculus has them.
-/
import Derived.Test.YtnmcgdpmikhohaaGreatB7f1db76
import Derived.Test.YtnmcgdpmikhohaaGreatProg
set_option linter.unusedSimpArgs false
set_option linter.unusedVariables false
set_option maxHeartbeats 10000000
set_option maxRecDepth 100000
namespace Go.Proofs.YtnmcgdpmikhohaaGreat
open Go Go.Sim
def zJv:zn:={ kill:=kx [(0,[0,1,5]),(1,[8010]),(2,[11]),(3,[2,3,6,12014]),(4,[6,12,15017]),(5,[2,3,7,18031])],obj:=[(31,[false,false,false,true])],ret:=[4,5] }
def z5I:List (Nat×List (List Nat)):=qx [(5,[[],[0],[0],[1002],[0],[0],[1005],[0],[1007],[1007],[1009],[1009],[1007],[],[],[]])]
def zEo:zg:=vl (x:=zu Tryz.prog Tryz.f253 zJv z5I [])
def zN1:List zl:=[.c 4 true 3,.t 5]
def zwa:AFn:= .code zEo zN1 32 true
def zJJ:zn:={ kill:=kx [(0,[0,1,11]),(1,[3,13019]),(2,[20]),(3,[2,4006,12,21023]),(4,[12,21,24026]),(5,[2,4006,27,28]),(6,[2,4,6,27,29040]),(7,[5,41])],ret:=[10,11] }
def z5Q:List (Nat×List (List Nat)):=qx [(1,[[],[0],[0,1],[1002],[1003],[1003],[],[]])]
def zEB:zg:=vl (x:=zu Tryz.prog Tryz.f217 zJJ z5Q [])
def zOf:List zl:=[.c 10 true 8,.t 11]
def zwC:AFn:= .code zEB zOf 42 true
def zJE:zn:={ kill:=kx [(0,[0,7]),(1,[13,14]),(2,[15]),(3,[1003,8,16018]),(4,[8,16,19021]),(5,[22]),(6,[1003,9,23,24]),(7,[23,25029]),(8,[1003,9,30,31]),(9,[11,30,32038]),(10,[1,39046]),(11,[3,47049]),(12,[2,9,50054]),(13,[10,12,55057])],ghost:=[(12,[98])],ret:=[6,7] }
def zuC:zg:=vl (x:=zu Tryz.prog Tryz.f255 zJE [] [])
def zB9:List zl:=[.c 6 true 2,.t 7]
def zwr:AFn:= .code zuC zB9 58 true
def zK9:zn:={ kill:=kx [(0,[0,1,8,9]),(1,[15,16]),(2,[17]),(3,[2004,10,18024]),(4,[10,18,25027]),(5,[28,29]),(6,[30036]),(7,[37,38]),(8,[39,40]),(9,[2004,11,41047]),(10,[2,11,39,48]),(11,[3,4,49,50]),(12,[3,30,51061]),(13,[62]),(14,[2,4,11014,63069]),(15,[13,14,63,70]),(16,[2,11,71,72]),(17,[4,12,73,74]),(18,[71,75078]),(19,[2,4,11,12,79085])],obj:=[(20,[false,true]),(27,[false,false,false,true]),(45,[false,false,false,true]),(58,[false,false,false,false,true]),(65,[false,true]),(83,[false,false,false,true])],ret:=[6,7,8,9] }
def z6e:List (Nat×List (List Nat)):=qx [(9,[[],[0],[0,1],[1002],[0],[1004],[1004],[5,6],[5,6],[],[]]),(11,[[],[0],[1],[],[],[]]),(17,[[],[0],[1],[],[],[]]),(19,[[],[0],[0,1],[1002],[0],[1004],[1004],[5,6],[5,6],[],[]])]
def zFY:zg:=vl (x:=zu Tryz.prog Tryz.f49 zK9 z6e [])
def zPE:List zl:=[.c 6 true 11,.c 7 true 63,.t 8,.t 9]
def zyt:AFn:= .code zFY zPE 86 true
def zLa:zn:={ kill:=kx [(0,[0,1,8,9]),(1,[18,19]),(2,[20]),(3,[2004,10,21027]),(4,[10,21,28]),(5,[16,30034,116]),(6,[35037]),(7,[2,15,38,39]),(8,[3,4,40,41]),(9,[38,42045]),(10,[46,47]),(11,[15,48056]),(12,[2004,17,57067]),(13,[69]),(14,[2,29,68,70075]),(15,[76078]),(16,[68,80]),(17,[2,29,79,81088]),(18,[89]),(19,[3,4,11,12,90096]),(20,[11,12,90,97103]),(21,[104109]),(22,[110,111]),(23,[112,113]),(24,[114,115]),(25,[29,79,117]),(26,[116,118125]),(27,[126]),(28,[2004,13,14,127133]),(29,[14,127,134136]),(30,[2,137139]),(31,[2,13,137,140146]),(32,[147152]),(33,[153,154]),(34,[155158]),(35,[159,160]),(36,[3,4,110,114,153,159,161,162])],obj:=[(23,[false,true]),(45,[false,false,false,true]),(65,[false,false,false,true]),(92,[false,true]),(129,[false,true])],ret:=[6,7,8,9] }
def z6f:List (Nat×List (List Nat)):=qx [(20,[[],[],[],[1002],[1002],[],[],[]]),(31,[[],[],[],[1002],[1002],[],[],[]]),(8,[[],[0],[1],[],[],[]]),(12,[[],[0],[0,1],[0,1],[1003],[1003],[0,1],[1006],[0],[1008],[1008],[9,10],[9,10],[],[]]),(36,[[],[0],[1],[],[],[]])]
def zFZ:zg:=vl (x:=zu Tryz.prog Tryz.f61 zLa z6f [])
def zPF:List zl:=[.c 6 true 11,.c 7 true 63,.t 8,.t 9]
def zyu:AFn:= .code zFZ zPF 163 true
def zAb:zn:={ kill:=kx [(0,[2]),(2,[4006]),(3,[8,9,16]),(4,[7,10015]),(5,[0,3,16]),(6,[0,3,7])],ret:=[2] }
@[irreducible] def zAT:zg:=vl (x:=zZ Tryz.prog Tryz.f111 zAb [] 0 [])
def zFd:zg:=vl (x:=zu Tryz.prog Tryz.f111 zAb [] [zAT])
def zOR:List zl:=[.t 2]
def zxk:AFn:= .code zFd zOR 17 true
def zsG:zg:=
 (.seq (.seq (.ops [] [oM 11 5,oM 12 0,oP 13 (.len (.t 12)),oP 14 (.bin .lss (.t 11) (.t 13))] [11,12,13])
 (.cond (.t 14) .skip (.exit 0 [])))
 (.seq (.block 1 (.seq (.draw [] [oM 17 0,oM 18 5,oP 19 (.iad 4 (.t 17) (.t 18)),oP 20 (.ld true 4 (.t 19)),oM 21 1,oM 22 5,oP 23 (.iad 4 (.t 21) (.t 22)),oP 24 (.ld true 4 (.t 23)),oP 25 (.eqs true 4 [(0,0),(1,0),(2,0),(3,0)] (.t 20) (.t 24))] [[],[0],[],[],[0,1,2,3],[0,1,2,3,4],[0,1,2,3],[0,1,2,3],[]] [14,17,18,19,20,21,22,23,24])
 (.cond (.t 25) (.seq (.ops [] [oP 4 (.mv (.c (.d (.bool false))))] [0,1,5,25])
 (.ret [4])) .skip)))
 (.ops [] [oM 15 5,oP 16 (.bin .add (.t 15) (kI 1)),oM 5 16] [15,16,25])))
def zuK:zg:=
 (.seq (.ops [] [oP 4 (.mv (.c (.d (.bool false))))] [4])
 (.seq (.seq (.ops [] [oM 6 0,oP 7 (.len (.t 6)),oM 8 1,oP 9 (.len (.t 8)),oP 10 (.bin .neq (.t 7) (.t 9))] [6,7,8,9])
 (.cond (.t 10) (.seq (.ops [] [oP 4 (.mv (.c (.d (.bool false))))] [0,1,10])
 (.ret [4])) .skip))
 (.seq (.seq (.ops [] [oP 5 (.mv (kI 0))] [10])
 (.block 0 (.loop [] zsG)))
 (.seq (.ops [] [oP 4 (.mv (.c (.d (.bool true))))] [0,1,5,14])
 (.ret [4])))))
def zOS:List zl:=[.t 4]
def zxl:AFn:= .code zuK zOS 26 true
def zAc:zn:={ kill:=kx [(0,[4,5]),(3,[9011]),(4,[13,14,45]),(5,[12,15044]),(6,[45052]),(7,[53059]),(8,[0,1,6008,12,60,61])],exit:=[(0,[6,7])],ret:=[4,5] }
@[irreducible] def zsH:zg:=vl (x:=zZ Tryz.prog Tryz.f112 zAc [] 0 [])
def zFe:zg:=vl (x:=zu Tryz.prog Tryz.f112 zAc [] [zsH])
def zOT:List zl:=[.t 4,.t 5]
def zxm:AFn:= .code zFe zOT 62 true
def zKb:zn:={ kill:=kx [(0,[2]),(1,[0,3008])],ret:=[2] }
def zuL:zg:=vl (x:=zu Tryz.prog Tryz.f159 zKb [] [])
def zCh:List zl:=[.t 2]
def zxn:AFn:= .code zuL zCh 9 true
def zLb:zn:={ kill:=kx [(0,[0,1,8,9]),(1,[19,20]),(2,[21]),(3,[2004,10,22028]),(4,[10,22,29,30]),(5,[2,31034]),(6,[35041]),(7,[3,4,42050]),(8,[3,31,51060]),(9,[61]),(10,[2,4,11014,62068]),(11,[12,14,62]),(12,[2,4,13,69074]),(13,[11,15,16,75077]),(14,[13,69,78]),(15,[2,4,11,79081]),(16,[79,82086]),(17,[17,87,88]),(18,[2,89,90]),(19,[4,11,91,92]),(20,[89,93098]),(21,[99,100]),(22,[101,102]),(23,[2,4,11,18,101,103107])],obj:=[(24,[false,true]),(33,[false,true]),(50,[false,false,false,true]),(55,[false,false,false,true]),(64,[false,true]),(72,[false,true]),(107,[false,false,false,true])],ret:=[6,7,8,9] }
def z6g:List (Nat×List (List Nat)):=qx [(7,[[],[0],[0,1],[0,1],[1003],[1003],[1003],[0,1],[0],[],[],[],[]]),(13,[[],[0],[0,1],[1,2],[2],[],[]]),(15,[[],[0],[1],[],[],[]]),(19,[[],[0],[1],[],[],[]]),(23,[[],[0],[0,1],[1002],[0],[],[],[],[]])]
def zF0:zg:=vl (x:=zu Tryz.prog Tryz.f144 zLb z6g [])
def zPG:List zl:=[.c 6 true 11,.c 7 true 63,.t 8,.t 9]
def zyv:AFn:= .code zF0 zPG 108 true
def zAj:zn:={ kill:=kx [(0,[0,3]),(1,[15019]),(2,[20022]),(3,[23,24]),(4,[1,4,5,25028]),(5,[25,29,30]),(6,[31,32]),(7,[33]),(8,[4,7,34,35]),(9,[1,5,6,36040]),(10,[7,10,34,41053]),(11,[54,55]),(12,[1,4006,8,9,56061]),(13,[56]),(14,[62064]),(15,[66,67]),(16,[65,68072]),(17,[73078]),(18,[12,79095]),(19,[4,9,11,14,65,96102]),(20,[8,13,103107]),(21,[108,109]),(22,[1,5,6,110114])],ghost:=[(15,[4000094]),(22,[6500094])],obj:=[(22,[false,true]),(28,[false,false,true]),(30,[false,false,true]),(38,[false,false,true]),(50,[false,false,false,true]),(59,[false,false,true]),(100,[false,false,true]),(112,[false,false,true])],exit:=[(0,[1,2,4,5,6,8])],ret:=[2,3] }
def zNi:List (Nat×List (List Nat)):=qx [(9,[[],[0],[],[1002],[1002],[3,4],[]]),(12,[[],[0],[],[1002],[1002],[3,4],[]]),(18,[[],[],[0,1],[0,1],[1003],[1003],[1005],[1006],[1006],[1008],[1008],[1005],[1005],[0,1],[0,1],[],[],[]]),(20,[[],[],[0,1],[2],[2],[],[]]),(22,[[],[0],[],[1002],[1002],[3,4],[]])]
@[irreducible] def zks:zg:=vl (x:=zZ Tryz.prog Tryz.f190 zAj zNi 0 [])
def zF1:zg:=vl (x:=zu Tryz.prog Tryz.f190 zAj zNi [zks])
def zPH:List zl:=[.c 2 true 63,.t 3]
def zyw:AFn:= .code zF1 zPH 115 true
def zLc:zn:={ kill:=kx [(0,[0,2]),(1,[4008]),(2,[1,3,9019])],ret:=[2] }
def z6h:List (Nat×List (List Nat)):=qx [(2,[[],[],[],[1002],[1002],[1002],[1002],[1006],[1006],[1002],[],[]])]
def zF2:zg:=vl (x:=zu Tryz.prog Tryz.f191 zLc z6h [])
def zPI:List zl:=[.t 2]
def zyx:AFn:= .code zF2 zPI 20 true
def zz7:zn:={ kill:=kx [(0,[0,7,8]),(1,[13,14]),(2,[15]),(3,[1003,9,16018]),(4,[9,16,19027]),(5,[1003,28,29]),(6,[28,30032]),(9,[33036]),(10,[38,39]),(11,[37,40052]),(12,[53061]),(13,[53,62071]),(14,[1003,10012,37,72,73])],ghost:=[(10,[4000070])],acc:=[11],exit:=[(0,[6,10,11])],ret:=[6,7,8] }
def zNe:List (Nat×List (List Nat)):=qx [(13,[[],[],[0,1],[0,1],[1003],[0,1],[0,1],[0,1],[],[],[]])]
@[irreducible] def zgm:zg:=vl (x:=zZ Tryz.prog Tryz.f218 zz7 zNe 0 [])
def zE2:zg:=vl (x:=zu Tryz.prog Tryz.f218 zz7 zNe [zgm])
def zOG:List zl:=[.c 6 true 2,.t 7,.t 8]
def zw6:AFn:= .code zE2 zOG 74 true
def zJm:zn:={ kill:=kx [(0,[0]),(1,[3]),(2,[1,4])],ret:=[2] }
def zEh:zg:=vl (x:=zu Tryz.prog Tryz.f219 zJm [] [])
def zNU:List zl:=[.c 2 true 7]
def zv1:AFn:= .code zEh zNU 5 true
def zJl:zn:={ kill:=kx [(0,[0]),(1,[1,2,7012]),(2,[3,13])],ret:=[6] }
def zEg:zg:=vl (x:=zu Tryz.prog Tryz.f220 zJl [] [])
def zNT:List zl:=[.c 6 true 7]
def zv0:AFn:= .code zEg zNT 14 true
def zz0:zn:={ kill:=kx [(0,[0,5]),(1,[10,11]),(2,[12]),(3,[1,2,6,13015]),(4,[6,13,16024]),(5,[1,2,25,26]),(6,[25]),(7,[27029]),(8,[31,32]),(9,[30,33046]),(10,[47]),(11,[1,2,7009,48050]),(12,[8,9,48,51]),(13,[1,2,7,30,52])],obj:=[(44,[false,false,true])],exit:=[(0,[2,4])],ret:=[4,5] }
def zM9:List (Nat×List (List Nat)):=qx [(4,[[],[],[0,1],[0,1],[0,1],[0,1],[1005],[1005],[0,1],[]]),(9,[[],[0],[0,1],[0],[0],[1004],[1004],[1006],[1006],[0],[],[],[],[12],[1013],[13],[]])]
@[irreducible] def zmI:zg:=vl (x:=zZ Tryz.prog Tryz.f221 zz0 zM9 0 [])
def zEx:zg:=vl (x:=zu Tryz.prog Tryz.f221 zz0 zM9 [zmI])
def zOb:List zl:=[.c 4 true 8,.t 5]
def zwy:AFn:= .code zEx zOb 53 true
def zLd:zn:={ kill:=kx [(0,[0,1,8,9]),(1,[21,22]),(2,[23]),(3,[2004,10,24030]),(4,[10,24,31,32]),(5,[33042]),(6,[3,33,43052]),(7,[53]),(8,[2,4,11014,54060]),(9,[12,14,54]),(10,[2,13,16,61067]),(11,[4,11,15,17,68072]),(12,[13,61,73]),(13,[2,4,11,74076]),(14,[18,20,74,77082]),(15,[2,4,11,19,83087])],obj:=[(26,[false,true]),(41,[false,false,true]),(42,[false,false,false,true]),(47,[false,false,false,true]),(56,[false,true]),(64,[false,true]),(71,[false,false,true]),(79,[false,true]),(87,[false,false,false,true])],ret:=[6,7,8,9] }
def z6i:List (Nat×List (List Nat)):=qx [(5,[[],[0],[0],[0],[1003],[1003],[1003],[0],[],[]]),(11,[[],[0],[0,1],[0],[1003],[4],[4],[],[]]),(13,[[],[0],[1],[],[],[]]),(15,[[],[0],[0,1],[1002],[0],[],[],[],[]])]
def zF3:zg:=vl (x:=zu Tryz.prog Tryz.f145 zLd z6i [])
def zPJ:List zl:=[.c 6 true 11,.c 7 true 63,.t 8,.t 9]
def zyy:AFn:= .code zF3 zPJ 88 true
def zKX:zn:={ kill:=kx [(0,[4]),(1,[0,1,5011])],ret:=[4] }
def zl2:zg:=vl (x:=zu Tryz.prog Tryz.f192 zKX [] [])
def znf:List zl:=[.t 4]
def zyf:AFn:= .code zl2 znf 12 true
def zLg:zn:={ kill:=kx [(0,[0,4]),(1,[14016]),(2,[17021]),(3,[22028]),(4,[1,5007,29031]),(5,[29,32044]),(6,[45]),(7,[1,5008,46048]),(8,[6,11,46,49055]),(9,[7,13,56061]),(10,[1,9,10,12,62071]),(11,[5,8,72074])],obj:=[(16,[false,true]),(19,[false,true]),(52,[false,false,true]),(59,[false,false,true]),(65,[false,false,false,true]),(67,[false,true])],ret:=[2,3,4] }
def z6j:List (Nat×List (List Nat)):=qx [(5,[[],[],[],[],[],[1004],[1004],[1004],[1004],[1008],[1008],[1004],[],[]]),(10,[[],[0],[0,1],[],[1003],[],[1005],[5006],[6],[6],[6],[],[]])]
def zF5:zg:=vl (x:=zu Tryz.prog Tryz.f193 zLg z6j [])
def zPL:List zl:=[.c 2 true 6,.c 3 true 7,.t 4]
def zyB:AFn:= .code zF5 zPL 75 true
def zLh:zn:={ kill:=kx [(0,[0]),(1,[5,6]),(2,[1,4,7022])],obj:=[(6,[false,true])],ret:=[2,3] }
def z6k:List (Nat×List (List Nat)):=qx [(2,[[],[],[],[1002],[1002],[1002],[],[],[1007],[1007],[1007],[1010],[1010],[1010],[1007],[1007],[9015],[]])]
def zqY:zg:=vl (x:=zu Tryz.prog Tryz.f222 zLh z6k [])
def zth:List zl:=[.c 2 true 8,.c 3 true 8]
def zyC:AFn:= .code zqY zth 23 true
def zLe:zn:={ kill:=kx [(0,[0,2]),(1,[1,3008]),(2,[9,10]),(3,[9,11])],ret:=[2] }
def zqX:zg:=vl (x:=zu Tryz.prog Tryz.f225 zLe [] [])
def ztg:List zl:=[.t 2]
def zyz:AFn:= .code zqX ztg 12 true
def zJK:zn:={ kill:=kx [(0,[0,5,6]),(1,[11,12]),(2,[13]),(3,[1,2,7,14016]),(4,[1,7,14,17024]),(5,[25]),(6,[2,8010,26028]),(7,[8,10,26,29,30]),(8,[2,9,31,32])],obj:=[(21,[false,false,true])],ret:=[4,5,6] }
def zEE:zg:=vl (x:=zu Tryz.prog Tryz.f223 zJK [] [])
def zOi:List zl:=[.c 4 true 8,.t 5,.t 6]
def zwF:AFn:= .code zEE zOi 33 true
def zJr:zn:={ kill:=kx [(0,[0,5,6]),(1,[9,10]),(2,[11]),(3,[1,2,7,12014]),(4,[7,12,15021]),(5,[1,2,22,23]),(6,[22,24,25]),(7,[1,2,8,26041])],ghost:=[(7,[6000025])],obj:=[(25,[false,true]),(35,[false,false,false,true])],ret:=[4,5,6] }
def z5G:List (Nat×List (List Nat)):=qx [(7,[[],[0],[0],[1002],[1003],[1003],[1005],[1003],[1002],[],[1009],[1010],[1010],[1012],[1010],[1009],[11015],[],[]])]
def zEl:zg:=vl (x:=zu Tryz.prog Tryz.f258 zJr z5G [])
def zNY:List zl:=[.c 4 true 3,.t 5,.t 6]
def zv6:AFn:= .code zEl zNY 42 true
def zLf:zn:={ kill:=kx [(0,[0,1,2,6]),(1,[3,7012]),(2,[4,5,13016]),(3,[4,5,13,17019])],ret:=[6] }
def zF4:zg:=vl (x:=zu Tryz.prog Tryz.f224 zLf [] [])
def zPK:List zl:=[.t 6]
def zyA:AFn:= .code zF4 zPK 20 true
def zLi:zn:={ kill:=kx [(0,[0,1,8,9]),(1,[21,22]),(2,[23]),(3,[2004,10,24030]),(4,[10,24,31,32]),(5,[33042]),(6,[3,33,43052]),(7,[53]),(8,[2,4,11014,54060]),(9,[12,14,54]),(10,[2,13,16,61067]),(11,[4,11,15,17,68072]),(12,[13,61,73]),(13,[2,4,11,74076]),(14,[18,20,74,77082]),(15,[2,4,11,19,83087])],obj:=[(26,[false,true]),(41,[false,false,true]),(42,[false,false,false,true]),(47,[false,false,false,true]),(56,[false,true]),(64,[false,true]),(71,[false,false,true]),(79,[false,true]),(87,[false,false,false,true])],ret:=[6,7,8,9] }
def z6l:List (Nat×List (List Nat)):=qx [(5,[[],[0],[0],[0],[1003],[1003],[1003],[0],[],[]]),(11,[[],[0],[0,1],[0],[1003],[4],[4],[],[]]),(13,[[],[0],[1],[],[],[]]),(15,[[],[0],[0,1],[1002],[0],[],[],[],[]])]
def zF6:zg:=vl (x:=zu Tryz.prog Tryz.f146 zLi z6l [])
def zPM:List zl:=[.c 6 true 11,.c 7 true 63,.t 8,.t 9]
def zyD:AFn:= .code zF6 zPM 88 true
def zLl:zn:={ kill:=kx [(0,[0,4]),(1,[12014]),(2,[15019]),(3,[7,20032]),(4,[1,5,6,33035]),(5,[33,36041]),(6,[6,11,42048]),(7,[9,49059]),(8,[1,8,60069]),(9,[5,10,70073])],obj:=[(14,[false,true]),(17,[false,true]),(45,[false,false,true]),(52,[false,false,false,true]),(54,[false,true]),(56,[false,true])],ret:=[2,3,4] }
def z6m:List (Nat×List (List Nat)):=qx [(7,[[],[0],[0,1],[],[1003],[],[1005],[],[5007],[],[],[],[],[]]),(9,[[],[0],[0],[0],[3],[],[]])]
def zF8:zg:=vl (x:=zu Tryz.prog Tryz.f195 zLl z6m [])
def zPO:List zl:=[.c 2 true 6,.c 3 true 7,.t 4]
def zyG:AFn:= .code zF8 zPO 74 true
def zLm:zn:={ kill:=kx [(0,[0]),(1,[5,6]),(2,[1,4,7022])],obj:=[(6,[false,true])],ret:=[2,3] }
def z6n:List (Nat×List (List Nat)):=qx [(2,[[],[],[],[1002],[1002],[1002],[],[],[1007],[1007],[1007],[1010],[1010],[1010],[1007],[1007],[9015],[]])]
def zq0:zg:=vl (x:=zu Tryz.prog Tryz.f227 zLm z6n [])
def ztj:List zl:=[.c 2 true 8,.c 3 true 8]
def zyH:AFn:= .code zq0 ztj 23 true
def zLj:zn:={ kill:=kx [(0,[0,2]),(1,[1,3008]),(2,[9,10]),(3,[9,11])],ret:=[2] }
def zqZ:zg:=vl (x:=zu Tryz.prog Tryz.f230 zLj [] [])
def zti:List zl:=[.t 2]
def zyE:AFn:= .code zqZ zti 12 true
def zJL:zn:={ kill:=kx [(0,[0,6]),(1,[13,14]),(2,[15]),(3,[1,2,7,16019]),(4,[7,16,20028]),(5,[1,2,29031]),(6,[29,32035]),(7,[10,36043]),(8,[1,8,12,44052]),(9,[2,9,11,53066])],obj:=[(41,[false,false,false,true]),(50,[false,false,false,true]),(55,[false,true]),(59,[false,false,false,true]),(62,[false,true]),(66,[false,false,false,true])],ret:=[4,5,6] }
def z5R:List (Nat×List (List Nat)):=qx [(9,[[],[0],[0],[1002],[1002],[1002],[],[1006],[1007],[7],[1009],[1009],[1009],[],[],[],[]])]
def zEF:zg:=vl (x:=zu Tryz.prog Tryz.f228 zJL z5R [])
def zOj:List zl:=[.c 4 true 8,.c 5 true 8,.t 6]
def zwG:AFn:= .code zEF zOj 67 true
def zr4:zn:={ kill:=kx [(0,[0]),(2,[10012]),(3,[14,15,33]),(4,[13,16032]),(5,[33044]),(6,[1,7,13]),(7,[45047]),(8,[49,50,66]),(9,[48,51056]),(10,[9,57065]),(11,[66083]),(12,[2,3,8,48,84])],obj:=[(41,[false,false,true]),(80,[false,false,false,true])],exit:=[(0,[2,3,6]),(2,[3,6])],ret:=[6] }
def zBR:List (Nat×List (List Nat)):=qx [(4,[[],[0],[],[],[],[1004],[1004],[],[],[],[9],[],[],[],[10013],[10013],[],[]]),(5,[[],[],[0,1],[1002],[0,1],[0,1],[],[],[],[8],[9],[9]]),(11,[[],[],[0,1],[1002],[0,1],[0,1],[0,1],[1006],[1007],[1006],[1006],[1006],[],[],[],[14],[15],[15]])]
@[irreducible] def zmL:zg:=vl (x:=zZ Tryz.prog Tryz.f261 zr4 zBR 0 [])
@[irreducible] def zmM:zg:=vl (x:=zZ Tryz.prog Tryz.f261 zr4 zBR 1 [])
def zEU:zg:=vl (x:=zu Tryz.prog Tryz.f261 zr4 zBR [zmL,zmM])
def zOy:List zl:=[.c 6 true 8]
def zwW:AFn:= .code zEU zOy 85 true
def zLk:zn:={ kill:=kx [(0,[0,1,2,6]),(1,[3,7012]),(2,[4,5,13016]),(3,[4,5,13,17019])],ret:=[6] }
def zF7:zg:=vl (x:=zu Tryz.prog Tryz.f229 zLk [] [])
def zPN:List zl:=[.t 6]
def zyF:AFn:= .code zF7 zPN 20 true
def zLn:zn:={ kill:=kx [(0,[0,1,8,9]),(1,[21,22]),(2,[23]),(3,[2004,10,24030]),(4,[10,24,31,32]),(5,[33042]),(6,[3,33,43052]),(7,[53]),(8,[2,4,11014,54060]),(9,[12,14,54]),(10,[2,13,16,61067]),(11,[4,11,15,17,68072]),(12,[13,61,73]),(13,[2,4,11,74076]),(14,[18,20,74,77082]),(15,[2,4,11,19,83087])],obj:=[(26,[false,true]),(41,[false,false,true]),(42,[false,false,false,true]),(47,[false,false,false,true]),(56,[false,true]),(64,[false,true]),(71,[false,false,true]),(79,[false,true]),(87,[false,false,false,true])],ret:=[6,7,8,9] }
def z6o:List (Nat×List (List Nat)):=qx [(5,[[],[0],[0],[0],[1003],[1003],[1003],[0],[],[]]),(11,[[],[0],[0,1],[0],[1003],[4],[4],[],[]]),(13,[[],[0],[1],[],[],[]]),(15,[[],[0],[0,1],[1002],[0],[],[],[],[]])]
def zF9:zg:=vl (x:=zu Tryz.prog Tryz.f147 zLn z6o [])
def zPP:List zl:=[.c 6 true 11,.c 7 true 63,.t 8,.t 9]
def zyI:AFn:= .code zF9 zPP 88 true
def zLq:zn:={ kill:=kx [(0,[0,4]),(1,[12014]),(2,[15019]),(3,[7,20025]),(4,[26]),(5,[1,5,6,8,9,27030]),(6,[9,11,27,31038]),(7,[8,10,39049]),(8,[1,50058]),(9,[5,6,59062])],obj:=[(14,[false,true]),(17,[false,true]),(23,[false,false,true]),(36,[false,true]),(42,[false,false,false,true]),(44,[false,true]),(46,[false,true])],ret:=[2,3,4] }
def z6p:List (Nat×List (List Nat)):=qx [(7,[[],[0],[0,1],[],[1003],[],[1005],[],[5007],[],[],[],[],[]]),(9,[[],[0],[0],[0],[3],[],[]])]
def zGb:zg:=vl (x:=zu Tryz.prog Tryz.f196 zLq z6p [])
def zPR:List zl:=[.c 2 true 6,.c 3 true 7,.t 4]
def zyL:AFn:= .code zGb zPR 63 true
def zLr:zn:={ kill:=kx [(0,[0]),(1,[5,6]),(2,[1,4,7022])],obj:=[(6,[false,true])],ret:=[2,3] }
def z6q:List (Nat×List (List Nat)):=qx [(2,[[],[],[],[1002],[1002],[1002],[],[],[1007],[1007],[1007],[1010],[1010],[1010],[1007],[1007],[9015],[]])]
def zq2:zg:=vl (x:=zu Tryz.prog Tryz.f232 zLr z6q [])
def ztl:List zl:=[.c 2 true 8,.c 3 true 8]
def zyM:AFn:= .code zq2 ztl 23 true
def zLo:zn:={ kill:=kx [(0,[0,2]),(1,[1,3008]),(2,[9,10]),(3,[9,11])],ret:=[2] }
def zq1:zg:=vl (x:=zu Tryz.prog Tryz.f235 zLo [] [])
def ztk:List zl:=[.t 2]
def zyJ:AFn:= .code zq1 ztk 12 true
def zz5:zn:={ kill:=kx [(0,[0,1,5]),(1,[11,12]),(2,[13]),(3,[2,3,6,14016]),(4,[6,14,17,18]),(5,[19]),(6,[2,3,7,20022]),(7,[7,20,23045]),(8,[2,3,46,47]),(9,[46,48056]),(10,[2,3,57,58]),(11,[57,59062]),(13,[63065]),(14,[67,68,76]),(15,[66,69075]),(16,[2,3,8010,76,77]),(17,[8010,66,78089]),(18,[2,3,90096])],obj:=[(60,[false,true]),(62,[false,true]),(92,[false,true]),(96,[false,false,false,true])],exit:=[(0,[2,3,4])],ret:=[4,5] }
def zNc:List (Nat×List (List Nat)):=qx [(9,[[],[],[0,1],[],[],[1004],[1004],[1004],[1004],[]]),(11,[[],[],[0,1],[],[],[]]),(17,[[],[],[0,1],[0,1],[],[1004],[1004],[1006],[1006],[1004],[8009],[8009],[],[]]),(18,[[],[0],[0],[1002],[1002],[1002],[],[],[]])]
@[irreducible] def zsx:zg:=vl (x:=zZ Tryz.prog Tryz.f233 zz5 zNc 0 [])
def zES:zg:=vl (x:=zu Tryz.prog Tryz.f233 zz5 zNc [zsx])
def zOw:List zl:=[.c 4 true 8,.t 5]
def zwT:AFn:= .code zES zOw 97 true
def zLp:zn:={ kill:=kx [(0,[0,1,2,6]),(1,[3,7012]),(2,[4,5,13016]),(3,[4,5,13,17019])],ret:=[6] }
def zGa:zg:=vl (x:=zu Tryz.prog Tryz.f234 zLp [] [])
def zPQ:List zl:=[.t 6]
def zyK:AFn:= .code zGa zPQ 20 true
def zLs:zn:={ kill:=kx [(0,[0,1,8,9]),(1,[21,22]),(2,[23]),(3,[2004,10,24030]),(4,[10,24,31,32]),(5,[33039]),(6,[3,33,40049]),(7,[50]),(8,[2,4,11014,51057]),(9,[12,14,51]),(10,[2,13,16,58064]),(11,[4,11,15,17,65069]),(12,[13,58,70]),(13,[2,4,11,71073]),(14,[18,20,71,74079]),(15,[2,4,11,19,80084])],obj:=[(26,[false,true]),(39,[false,false,false,true]),(44,[false,false,false,true]),(53,[false,true]),(61,[false,true]),(68,[false,false,true]),(76,[false,true]),(84,[false,false,false,true])],ret:=[6,7,8,9] }
def z6r:List (Nat×List (List Nat)):=qx [(11,[[],[0],[0,1],[0],[1003],[4],[4],[],[]]),(13,[[],[0],[1],[],[],[]]),(15,[[],[0],[0,1],[1002],[0],[],[],[],[]])]
def zGc:zg:=vl (x:=zu Tryz.prog Tryz.f148 zLs z6r [])
def zPS:List zl:=[.c 6 true 11,.c 7 true 63,.t 8,.t 9]
def zyN:AFn:= .code zGc zPS 85 true
def zAk:zn:={ kill:=kx [(0,[0,4]),(1,[19021]),(2,[22024]),(3,[25028]),(4,[1,6,9,29039]),(5,[40]),(6,[7,41045]),(7,[5,7,8,41,46048]),(8,[29,49053]),(9,[54,55]),(10,[1,5,6,10,56058]),(11,[56,59061]),(12,[1,6,10,13,62070]),(13,[71]),(14,[11,72077]),(15,[5,11,12,72,78080]),(16,[6,10,16,62,81093]),(17,[94,95]),(18,[1,5,14,15,96098]),(19,[1,96,99,100]),(21,[101103]),(22,[105,106]),(23,[104,107116]),(24,[14,18,104,117121]),(25,[5,15,17,122127])],ghost:=[(22,[4000115]),(24,[6500115])],obj:=[(21,[false,true]),(36,[false,false,true]),(67,[false,false,true]),(90,[false,false,false,false,true]),(100,[false,false,true])],exit:=[(0,[2,3,5,14,15,17])],ret:=[2,3,4] }
def zNj:List (Nat×List (List Nat)):=qx [(23,[[],[],[0,1],[1002],[0,1],[0,1],[0,1],[0,1],[],[],[]]),(25,[[],[0],[0],[0],[1003],[1003],[2005],[4,5],[]])]
@[irreducible] def zkt:zg:=vl (x:=zZ Tryz.prog Tryz.f197 zAk zNj 0 [])
def zGd:zg:=vl (x:=zu Tryz.prog Tryz.f197 zAk zNj [zkt])
def zPT:List zl:=[.c 2 true 6,.c 3 true 7,.t 4]
def zyO:AFn:= .code zGd zPT 128 true
def zz6:zn:={ kill:=kx [(0,[0,5,6]),(1,[10,11]),(2,[12]),(3,[1,2,7,13015]),(4,[7,13,16020]),(5,[1,2,21,22]),(6,[21,23025]),(8,[26029]),(9,[31,32,40]),(10,[30,33039]),(11,[40050]),(12,[1,2,8,9,30,51058])],ghost:=[(9,[4000049])],exit:=[(0,[2,4,8])],ret:=[4,5,6] }
def zNd:List (Nat×List (List Nat)):=qx [(11,[[],[],[0,1],[0,1],[1003],[0,1],[0,1],[0,1],[],[],[]]),(12,[[],[0],[0],[0],[1003],[1003],[1003],[0],[2007],[],[]])]
@[irreducible] def zhV:zg:=vl (x:=zZ Tryz.prog Tryz.f236 zz6 zNd 0 [])
def zEY:zg:=vl (x:=zu Tryz.prog Tryz.f236 zz6 zNd [zhV])
def zOC:List zl:=[.c 4 true 2,.t 5,.t 6]
def zw2:AFn:= .code zEY zOC 59 true
def zr1:zn:={ kill:=kx [(0,[0,5,6]),(1,[13,14]),(2,[15]),(3,[1,2,7,16018]),(4,[7,16,19,20]),(5,[1,2,21,22]),(6,[21]),(7,[23026]),(9,[27029]),(10,[31,32,38]),(11,[30,33037]),(12,[38051]),(13,[52,53]),(14,[9,11,30]),(15,[54056]),(16,[58,59,65]),(17,[57,60064]),(18,[65078]),(19,[79,80]),(20,[1,2,8,10,12,57,81,82])],obj:=[(24,[false,true]),(26,[false,true]),(47,[false,false,true]),(74,[false,false,true])],exit:=[(0,[1,2,4,8,10]),(2,[2,4,8])],ret:=[4,5,6] }
def zBO:List (Nat×List (List Nat)):=qx [(7,[[],[],[0,1],[],[],[]]),(12,[[],[],[0,1],[1002],[0,1],[0,1],[0,1],[],[],[],[9],[9,10],[10,11],[10,11]]),(18,[[],[],[0,1],[1002],[0,1],[0,1],[0,1],[],[],[],[9],[9,10],[10,11],[10,11]])]
@[irreducible] def zmJ:zg:=vl (x:=zZ Tryz.prog Tryz.f237 zr1 zBO 0 [])
@[irreducible] def zmK:zg:=vl (x:=zZ Tryz.prog Tryz.f237 zr1 zBO 1 [])
def zEC:zg:=vl (x:=zu Tryz.prog Tryz.f237 zr1 zBO [zmJ,zmK])
def zOg:List zl:=[.c 4 true 8,.t 5,.t 6]
def zwD:AFn:= .code zEC zOg 83 true
def zLt:zn:={ kill:=kx [(0,[0,1,8,9]),(1,[21,22]),(2,[23]),(3,[2004,10,24030]),(4,[10,24,31,32]),(5,[33042]),(6,[3,33,43052]),(7,[53]),(8,[2,4,11014,54060]),(9,[12,14,54]),(10,[2,13,16,61067]),(11,[4,11,15,17,68072]),(12,[13,61,73]),(13,[2,4,11,74076]),(14,[18,20,74,77082]),(15,[2,4,11,19,83087])],obj:=[(26,[false,true]),(42,[false,false,false,true]),(47,[false,false,false,true]),(56,[false,true]),(64,[false,true]),(71,[false,false,true]),(79,[false,true]),(87,[false,false,false,true])],ret:=[6,7,8,9] }
def z6s:List (Nat×List (List Nat)):=qx [(11,[[],[0],[0,1],[0],[1003],[4],[4],[],[]]),(13,[[],[0],[1],[],[],[]]),(15,[[],[0],[0,1],[1002],[0],[],[],[],[]])]
def zGe:zg:=vl (x:=zu Tryz.prog Tryz.f149 zLt z6s [])
def zPU:List zl:=[.c 6 true 11,.c 7 true 63,.t 8,.t 9]
def zyP:AFn:= .code zGe zPU 88 true
def zLu:zn:={ kill:=kx [(0,[0,4]),(1,[12014]),(2,[15019]),(3,[20,21]),(4,[1,5,6,22024]),(5,[6,9,22,25041]),(6,[42,43]),(7,[1,5,7,8,44046]),(8,[1,11,44,47054]),(9,[7,10,55063]),(10,[5,8,64067])],obj:=[(14,[false,true]),(38,[false,false,false,false,true]),(52,[false,false,true])],ret:=[2,3,4] }
def z6t:List (Nat×List (List Nat)):=qx [(5,[[],[0],[0],[0],[0],[1004],[1004],[1004],[1004],[1008],[1008],[1008],[],[],[],[14],[14,15],[1016],[15,16],[16],[]]),(9,[[],[],[0,1],[1002],[1003],[3004],[3004],[3,4],[3,4],[4],[4],[],[]])]
def zGf:zg:=vl (x:=zu Tryz.prog Tryz.f198 zLu z6t [])
def zPV:List zl:=[.c 2 true 6,.c 3 true 7,.t 4]
def zyQ:AFn:= .code zGf zPV 68 true
def zJ3:zn:={ kill:=kx [(0,[0,2]),(1,[3,4]),(2,[1,5]),(3,[1,5011])],ret:=[2] }
def zE1:zg:=vl (x:=zu Tryz.prog Tryz.f240 zJ3 [] [])
def zOF:List zl:=[.t 2]
def zw5:AFn:= .code zE1 zOF 12 true
def zz1:zn:={ kill:=kx [(0,[0,9,10]),(1,[15,16]),(2,[17]),(3,[1004,11,18020]),(4,[11,18,21031]),(5,[1004,32,33]),(6,[32]),(7,[34,35]),(9,[36044]),(10,[46,47,62]),(11,[45,48061]),(12,[62075]),(13,[76082]),(14,[1004,12014,45,83,84])],obj:=[(35,[false,true]),(71,[false,false,true])],acc:=[12],exit:=[(0,[4,8,12])],ret:=[8,9,10] }
def zNa:List (Nat×List (List Nat)):=qx [(12,[[],[],[0,1],[1002],[0,1],[0,1],[0,1],[],[],[],[9],[9,10],[10,11],[10,11]])]
@[irreducible] def zkn:zg:=vl (x:=zZ Tryz.prog Tryz.f239 zz1 zNa 0 [])
def zEA:zg:=vl (x:=zu Tryz.prog Tryz.f239 zz1 zNa [zkn])
def zOe:List zl:=[.c 8 true 8,.t 9,.t 10]
def zwB:AFn:= .code zEA zOe 85 true
def zJ2:zn:={ kill:=kx [(0,[0,5]),(1,[9,10]),(2,[11]),(3,[1,2,6,12014]),(4,[6,12,15018]),(5,[1,2,19,20]),(6,[1,19,21025]),(7,[26,27]),(8,[28]),(9,[2,7,8,29031]),(10,[2,7,8,29,32035])],ret:=[4,5] }
def zE0:zg:=vl (x:=zu Tryz.prog Tryz.f241 zJ2 [] [])
def zOE:List zl:=[.c 4 true 2,.t 5]
def zw4:AFn:= .code zE0 zOE 36 true
def zLz:zn:={ kill:=kx [(0,[0,5]),(1,[1,8014]),(2,[15]),(3,[2,6,7,16018]),(4,[7,16,19022]),(5,[23,24]),(6,[6,25035]),(7,[2,36])],obj:=[(12,[false,false,true])],ret:=[4,5] }
def z6w:List (Nat×List (List Nat)):=qx [(6,[[],[],[],[1002],[1002],[1004],[1004],[1002],[1002],[],[],[]])]
def zGn:zg:=vl (x:=zu Tryz.prog Tryz.f156 zLz z6w [])
def zP3:List zl:=[.c 4 true 23,.t 5]
def zyW:AFn:= .code zGn zP3 37 true
def zKn:zn:={ kill:=kx [(0,[0,5]),(1,[6,7]),(2,[1,2,8,9]),(3,[8,10013]),(4,[1,2,14,15]),(5,[1,14,16020]),(6,[2,21])],ret:=[4,5] }
def zuO:zg:=vl (x:=zu Tryz.prog Tryz.f43 zKn [] [])
def zCk:List zl:=[.c 4 true 11,.t 5]
def zxA:AFn:= .code zuO zCk 22 true
def zLA:zn:={ kill:=kx [(0,[0,4]),(1,[10016]),(2,[1,2,17019]),(3,[1,17,20028]),(4,[29033]),(5,[7,34]),(6,[2,5,6,35,36]),(7,[2,35,37]),(8,[5,39,59]),(9,[41]),(10,[38,40,42045]),(11,[40,47]),(12,[38,46,48051]),(13,[46,53]),(14,[38,52,54058]),(15,[6,38,52,60]),(16,[5,59,61,62]),(17,[63070]),(18,[8,71]),(19,[6,72076]),(20,[7,77]),(21,[5,9,78,79]),(22,[5,9,78,80])],ghost:=[(17,[124])],obj:=[(74,[false,true])],ret:=[4] }
def zu0:zg:=vl (x:=zu Tryz.prog Tryz.f91 zLA [] [])
def zCw:List zl:=[.t 4]
def zy0:AFn:= .code zu0 zCw 81 true
def zLw:zn:={ kill:=kx [(0,[0,1,5,6]),(1,[10018]),(2,[2,3,19,20]),(3,[19,21024]),(4,[3,25034]),(5,[35]),(6,[2,7009,36038]),(7,[8,9,36,39045]),(8,[2,7,46,47])],obj:=[(32,[false,false,false,false,true])],ret:=[4,5,6] }
def z6u:List (Nat×List (List Nat)):=qx [(7,[[],[],[],[1002],[1002],[],[],[]])]
def zGj:zg:=vl (x:=zu Tryz.prog Tryz.f104 zLw z6u [])
def zPZ:List zl:=[.c 4 true 23,.t 5,.t 6]
def zyS:AFn:= .code zGj zPZ 48 true
def zKP:zn:={ kill:=kx [(0,[1,2,9]),(1,[13021]),(2,[0,3,5,6,22,23]),(3,[10,22,24028]),(4,[29]),(5,[0,3,5,6,11,30032]),(6,[11,30,33035]),(7,[36]),(8,[0,3,5,6,12,37039]),(9,[0,3,5,6,12,37,40044])],ret:=[8,9] }
def zFH:zg:=vl (x:=zu Tryz.prog Tryz.f44 zKP [] [])
def zPm:List zl:=[.c 8 true 63,.t 9]
def zx6:AFn:= .code zFH zPm 45 true
def zAh:zn:={ kill:=kx [(0,[0,1,4]),(1,[7009]),(2,[10]),(3,[11,129]),(4,[13]),(5,[3,5,11,12,14022]),(6,[2,23]),(7,[23]),(8,[24027]),(9,[29,30,37]),(10,[28,31036]),(11,[2,6,37]),(12,[12,39]),(13,[40]),(14,[2,3,5,11,38,41061]),(15,[62]),(16,[38,64]),(17,[65]),(18,[66]),(19,[3,5,11,63,67075]),(20,[2,76]),(21,[2,76084]),(22,[85]),(23,[63,87]),(24,[88]),(25,[89]),(26,[2,3,5,11,86,90107]),(27,[108]),(28,[86,110]),(29,[111]),(30,[2,3,5,11,109,112115]),(31,[116]),(32,[5,109,118]),(33,[2,3,11,117,119127]),(34,[128]),(35,[2,3,117,130]),(36,[11,131]),(37,[2,6,11,28,62,85,108,116,128,129])],ret:=[4] }
@[irreducible] def zAX:zg:=vl (x:=zZ Tryz.prog Tryz.f89 zAh [] 0 [])
def zFI:zg:=vl (x:=zu Tryz.prog Tryz.f89 zAh [] [zAX])
def zPn:List zl:=[.t 4]
def zx7:AFn:= .code zFI zPn 132 true
def zKQ:zn:={ kill:=kx [(0,[6]),(1,[0,1,2,7014])],ret:=[6] }
def zuW:zg:=vl (x:=zu Tryz.prog Tryz.f137 zKQ [] [])
def zCs:List zl:=[.t 6]
def zx8:AFn:= .code zuW zCs 15 true
def zafy:zn:={ kill:=kx [(0,[2]),(1,[15017]),(2,[18,19]),(4,[22]),(5,[1,5,7,20,21,23,24]),(6,[25]),(7,[27,28]),(8,[26,29035]),(9,[21,37]),(10,[38]),(11,[5,7,20,36,39045]),(12,[1,46]),(13,[0,47051]),(14,[36,53]),(15,[54]),(16,[55]),(17,[7,20,52,56,57]),(18,[58]),(19,[60,61]),(20,[59,62068]),(21,[11,69072]),(22,[73077]),(23,[14,78083]),(24,[12,84087]),(25,[13,88,89]),(26,[12,13,84,90095]),(27,[1,5,10,59,96]),(28,[0,97101]),(29,[1,5,52,103]),(30,[104]),(31,[105]),(32,[0,20,102,106113]),(33,[114117]),(34,[7,118124]),(35,[102,126]),(36,[127]),(37,[0,7,20,125,128131]),(38,[20,125,133]),(39,[0,7,132,134138]),(40,[0,7009,26,47,97,118,132,139])],ghost:=[(7,[4000034])],obj:=[(24,[true,false,false]),(32,[true]),(41,[true,false]),(43,[true,false,false]),(50,[true,false]),(57,[true,false,false]),(63,[true,false]),(66,[true,false]),(72,[false,false,true]),(82,[true,false]),(86,[true,false]),(89,[false,true]),(100,[true,false]),(108,[true,false]),(111,[true,false]),(130,[true,false]),(137,[true,false])],exit:=[(1,[6,8]),(3,[0,1,6,8])],ret:=[6] }
def zagO:List (Nat×List (List Nat)):=qx [(8,[[],[],[0,1],[0,1],[0,1],[],[],[]])]
@[irreducible] def zajI:zg:=vl (x:=zZ Tryz.prog Tryz.f45 zafy zagO 0 [])
@[irreducible] def zajJ:zg:=vl (x:=zZ Tryz.prog Tryz.f45 zafy zagO 1 [])
def zagV:zg:=vl (x:=zu Tryz.prog Tryz.f45 zafy zagO [zajI,zajJ])
def zaie:List zl:=[.c 6 true 8]
def zafT:AFn:= .code zagV zaie 140 true
def zahI:zn:={ kill:=kx [(0,[0,2]),(1,[1,4009]),(2,[3,10])],ret:=[2] }
def zagY:zg:=vl (x:=zu Tryz.prog Tryz.f93 zahI [] [])
def zaih:List zl:=[.t 2]
def zaht:AFn:= .code zagY zaih 11 true
def zahG:zn:={ kill:=kx [(0,[0,1,4]),(1,[3,5013])],ret:=[4] }
def zakv:List (Nat×List (List Nat)):=qx [(1,[[],[],[0,1],[0,1],[0,1],[1004],[1004],[],[],[]])]
def zagW:zg:=vl (x:=zu Tryz.prog Tryz.f46 zahG zakv [])
def zaif:List zl:=[.t 4]
def zafU:AFn:= .code zagW zaif 14 false
def zahH:zn:={ kill:=kx [(0,[11017]),(1,[18]),(2,[21]),(3,[19,20,22026]),(4,[0,1,27038]),(5,[19,20,40]),(6,[0,39,41050]),(7,[1,51060]),(8,[39,61065]),(9,[4,66,67]),(10,[68,69]),(11,[0,5,70077]),(12,[9,78098]),(13,[10,99]),(14,[1,6008,100111])],obj:=[(19,[true,false]),(34,[true,false]),(49,[true,false]),(75,[true,false]),(94,[false,false,false,true])] }
def zakw:List (Nat×List (List Nat)):=qx [(4,[[],[],[],[],[],[1004],[1004],[],[],[],[],[]]),(12,[[],[],[],[],[1003],[1003],[1003],[1003],[1007],[1003],[1003],[1010],[1010],[1010],[1010],[],[],[],[17],[17,18],[18019],[1020],[1021],[19020],[19,20],[20],[]]),(14,[[],[0],[0],[0],[0],[1004],[1005],[1006],[5,7],[5,7],[5,7],[],[]])]
def zagX:zg:=vl (x:=zu Tryz.prog Tryz.f48 zahH zakw [])
def zaig:List zl:=[]
def zafV:AFn:= .code zagX zaig 112 true
def zIW:zn:={ kill:=kx [(0,[0,4,5]),(1,[1]),(2,[8]),(3,[2,6,7,9,10]),(4,[7,12]),(5,[2,6,11,13,14]),(6,[6,11,16]),(7,[2,15,17,18]),(8,[2,15])],ret:=[4,5] }
def zDS:zg:=vl (x:=zu Tryz.prog Tryz.f38 zIW [] [])
def zNt:List zl:=[.t 4,.t 5]
def zvv:AFn:= .code zDS zNt 19 true
def zI9:zn:={ kill:=kx [(0,[0,1]),(1,[8023]),(2,[4,24030]),(3,[3,31035]),(4,[2,36039]),(5,[2,7,36,40])],ret:=[6] }
def z5C:List (Nat×List (List Nat)):=qx [(2,[[],[],[],[1002],[1002],[],[],[]]),(3,[[],[],[0,1],[0,1],[0,1],[]])]
def zqL:zg:=vl (x:=zu Tryz.prog Tryz.f60 zI9 z5C [])
def zs4:List zl:=[.c 6 true 63]
def zvK:AFn:= .code zqL zs4 41 true
def zLB:zn:={ kill:=kx [(0,[2]),(1,[0,3008])],ret:=[2] }
def zGp:zg:=vl (x:=zu Tryz.prog Tryz.f108 zLB [] [])
def zP5:List zl:=[.t 2]
def zy1:AFn:= .code zGp zP5 9 false
def zI8:zn:={ kill:=kx [(0,[0,2]),(1,[3]),(2,[6]),(3,[1,4,5,7009]),(4,[5,11]),(5,[12]),(6,[4,13]),(7,[1,4,10,14016]),(8,[1,4,10])],ret:=[2] }
def zD3:zg:=vl (x:=zu Tryz.prog Tryz.f109 zI8 [] [])
def zNF:List zl:=[.t 2]
def zvJ:AFn:= .code zD3 zNF 17 true
def zagB:zn:={ kill:=kx [(0,[0,1,4]),(1,[6067]),(2,[2,3,68]),(3,[68]),(4,[69072]),(5,[74,75,104]),(6,[73,76103]),(7,[2,3,5,104]),(8,[2,3,5,73])],ret:=[4] }
def zah8:List (Nat×List (List Nat)):=qx [(6,[[],[],[0,1],[],[],[],[1005],[1005],[1007],[1005],[1005],[1005],[],[],[],[],[14,15],[],[],[],[15019],[15019],[15021],[15019],[15019],[15019],[],[],[]])]
@[irreducible] def zafC:zg:=vl (x:=zZ Tryz.prog Tryz.f29 zagB zah8 0 [])
def zafL:zg:=vl (x:=zu Tryz.prog Tryz.f29 zagB zah8 [zafC])
def zagQ:List zl:=[.t 4]
def zagd:AFn:= .code zafL zagQ 105 true
def zahU:zn:={ kill:=kx [(0,[0,1,4]),(1,[2,3,5016])],ret:=[4] }
def zahb:zg:=vl (x:=zu Tryz.prog Tryz.f76 zahU [] [])
def zaiu:List zl:=[.t 4]
def zagb:AFn:= .code zahb zaiu 17 true
def zafz:zg:=
 (.seq (.seq (.ops [] [oM 11 5,oM 12 0,oP 13 (.len (.t 12)),oP 14 (.bin .lss (.t 11) (.t 13))] [11,12,13])
 (.cond (.t 14) .skip (.exit 0 [])))
 (.seq (.block 1 (.seq (.draw [] [oM 17 0,oM 18 5,oP 19 (.iad 7 (.t 17) (.t 18)),oP 20 (.ld true 7 (.t 19)),oM 21 1,oM 22 5,oP 23 (.iad 7 (.t 21) (.t 22)),oP 24 (.ld true 7 (.t 23)),oP 25 (.eqs true 7 [(0,0),(1,0),(2,0),(3,0),(4,0),(5,0),(6,2)] (.t 20) (.t 24))] [[],[0],[],[],[0,1,2,3],[0,1,2,3,4],[0,1,2,3],[0,1,2,3],[]] [14,17,18,19,20,21,22,23,24])
 (.cond (.t 25) (.seq (.ops [] [oP 4 (.mv (.c (.d (.bool false))))] [0,1,5,25])
 (.ret [4])) .skip)))
 (.ops [] [oM 15 5,oP 16 (.bin .add (.t 15) (kI 1)),oM 5 16] [15,16,25])))
def zaeJ:zg:=
 (.seq (.ops [] [oP 4 (.mv (.c (.d (.bool false))))] [4])
 (.seq (.seq (.ops [] [oM 6 0,oP 7 (.len (.t 6)),oM 8 1,oP 9 (.len (.t 8)),oP 10 (.bin .neq (.t 7) (.t 9))] [6,7,8,9])
 (.cond (.t 10) (.seq (.ops [] [oP 4 (.mv (.c (.d (.bool false))))] [0,1,10])
 (.ret [4])) .skip))
 (.seq (.seq (.ops [] [oP 5 (.mv (kI 0))] [10])
 (.block 0 (.loop [] zafz)))
 (.seq (.ops [] [oP 4 (.mv (.c (.d (.bool true))))] [0,1,5,14])
 (.ret [4])))))
def zaeZ:List zl:=[.t 4]
def zaf5:AFn:= .code zaeJ zaeZ 26 true
def zafA:zg:=
 (.seq (.seq (.ops [] [oM 30 5,oP 31 (.fad false 1 1 (.t 2)),oP 32 (.ld false 1 (.t 31)),oP 33 (.len (.t 32)),oP 34 (.bin .lss (.t 30) (.t 33))] [30,31,32,33])
 (.cond (.t 34) .skip (.exit 0 [2,3])))
 (.seq (.block 1 (.seq (.draw [] [oP 37 (.fad false 1 1 (.t 2)),oP 38 (.ld false 1 (.t 37)),oM 39 5,oP 40 (.iad 3 (.t 38) (.t 39)),oP 41 (.ld true 3 (.t 40)),oP 42 (.fad false 1 1 (.t 3)),oP 43 (.ld false 1 (.t 42)),oM 44 5,oP 45 (.iad 3 (.t 43) (.t 44)),oP 46 (.ld true 3 (.t 45)),oP 47 (.eqs true 3 [(0,0),(1,0),(2,0)] (.t 41) (.t 46))] [[],[],[0,1],[],[],[0,1,2,3,4],[0,1,2,3,4],[0,1,2,3,4,5,6],[0,1,2,3,4],[0,1,2,3,4],[]] [34,37,38,39,40,41,42,43,44,45,46])
 (.cond (.t 47) (.seq (.ops [] [oP 4 (.mv (.c (.d (.bool false))))] [2,3,5,47])
 (.ret [4])) .skip)))
 (.ops [] [oM 35 5,oP 36 (.bin .add (.t 35) (kI 1)),oM 5 36] [35,36,47])))
def zafB:zg:=
 (.seq (.seq (.ops [] [oM 48 6,oP 49 (.fad false 2 1 (.t 2)),oP 50 (.ld false 1 (.t 49)),oP 51 (.len (.t 50)),oP 52 (.bin .lss (.t 48) (.t 51))] [48,49,50,51])
 (.cond (.t 52) .skip (.exit 2 [])))
 (.seq (.block 3 (.seq (.draw [] [oP 55 (.fad false 2 1 (.t 2)),oP 56 (.ld false 1 (.t 55)),oM 57 6,oP 58 (.iad 1 (.t 56) (.t 57)),oP 59 (.ld false 1 (.t 58)),oP 60 (.fad false 2 1 (.t 3)),oP 61 (.ld false 1 (.t 60)),oM 62 6,oP 63 (.iad 1 (.t 61) (.t 62)),oP 64 (.ld false 1 (.t 63)),oP 65 (.bin .neq (.t 59) (.t 64))] [[],[],[0,1],[],[],[0,1,2,3,4],[0,1,2,3,4],[0,1,2,3,4,5,6],[0,1,2,3,4],[0,1,2,3,4],[]] [52,55,56,57,58,59,60,61,62,63,64])
 (.cond (.t 65) (.seq (.ops [] [oP 4 (.mv (.c (.d (.bool false))))] [2,3,6,65])
 (.ret [4])) .skip)))
 (.ops [] [oM 53 6,oP 54 (.bin .add (.t 53) (kI 1)),oM 6 54] [53,54,65])))
def zafK:zg:=
 (.seq (.ops [] [oP 2 (.box (.t 0)),oP 3 (.box (.t 1)),oP 4 (.mv (.c (.d (.bool false))))] [0,1,4])
 (.seq (.seq (.ops [] [oP 7 (.fad false 0 1 (.t 2)),oP 8 (.ld false 1 (.t 7)),oP 9 (.fad false 0 1 (.t 3)),oP 10 (.ld false 1 (.t 9)),oP 11 (.bin .neq (.t 8) (.t 10)),oM 12 11,oQ 13 (.fad false 1 1 (.t 2)) 12 false,oQ 14 (.ld false 1 (.t 13)) 12 false,oQ 15 (.len (.t 14)) 12 false,oQ 16 (.fad false 1 1 (.t 3)) 12 false,oQ 17 (.ld false 1 (.t 16)) 12 false,oQ 18 (.len (.t 17)) 12 false,oQ 19 (.bin .neq (.t 15) (.t 18)) 12 false,oP 20 (.pick (.t 12) (.c (.d (.bool true))) (.t 19)),oM 21 20,oQ 22 (.fad false 2 1 (.t 2)) 21 false,oQ 23 (.ld false 1 (.t 22)) 21 false,oQ 24 (.len (.t 23)) 21 false,oQ 25 (.fad false 2 1 (.t 3)) 21 false,oQ 26 (.ld false 1 (.t 25)) 21 false,oQ 27 (.len (.t 26)) 21 false,oQ 28 (.bin .neq (.t 24) (.t 27)) 21 false,oP 29 (.pick (.t 21) (.c (.d (.bool true))) (.t 28))] [7,8,9,10,11,12,13,14,15,16,17,18,19,20,21,22,23,24,25,26,27,28])
 (.cond (.t 29) (.seq (.ops [] [oP 4 (.mv (.c (.d (.bool false))))] [2,3,29])
 (.ret [4])) .skip))
 (.seq (.seq (.ops [] [oP 5 (.mv (kI 0))] [29])
 (.block 0 (.loop [] zafA)))
 (.seq (.seq (.ops [] [oP 6 (.mv (kI 0))] [5,34])
 (.block 2 (.loop [] zafB)))
 (.seq (.ops [] [oP 4 (.mv (.c (.d (.bool true))))] [2,3,6,52])
 (.ret [4]))))))
def zaiv:List zl:=[.t 4]
def zagc:AFn:= .code zafK zaiv 66 true
def zahT:zn:={ kill:=kx [(0,[0,1,4]),(1,[2,3,5037])],ret:=[4] }
def zaha:zg:=vl (x:=zu Tryz.prog Tryz.f77 zahT [] [])
def zait:List zl:=[.t 4]
def zaga:AFn:= .code zaha zait 38 true
def zahR:zn:={ kill:=kx [(0,[0,1,4]),(1,[2,3,5023])],ret:=[4] }
def zag8:zg:=vl (x:=zu Tryz.prog Tryz.f123 zahR [] [])
def zair:List zl:=[.t 4]
def zaf6:AFn:= .code zag8 zair 24 true
def zahS:zn:={ kill:=kx [(0,[0,1,4]),(1,[2,3,5016])],ret:=[4] }
def zag9:zg:=vl (x:=zu Tryz.prog Tryz.f124 zahS [] [])
def zais:List zl:=[.t 4]
def zaf8:AFn:= .code zag9 zais 17 true
def zagJ:zg:=
 (.seq (.seq (.ops [] [oM 11 5,oM 12 0,oP 13 (.len (.t 12)),oP 14 (.bin .lss (.t 11) (.t 13))] [11,12,13])
 (.cond (.t 14) .skip (.exit 0 [])))
 (.seq (.block 1 (.seq (.draw [] [oM 17 0,oM 18 5,oP 19 (.iad 8 (.t 17) (.t 18)),oP 20 (.ld true 8 (.t 19)),oM 21 1,oM 22 5,oP 23 (.iad 8 (.t 21) (.t 22)),oP 24 (.ld true 8 (.t 23)),oP 25 (.eqs true 8 [(0,0),(1,0),(2,0),(3,0),(4,0),(5,0),(6,2),(7,0)] (.t 20) (.t 24))] [[],[0],[],[],[0,1,2,3],[0,1,2,3,4],[0,1,2,3],[0,1,2,3],[]] [14,17,18,19,20,21,22,23,24])
 (.cond (.t 25) (.seq (.ops [] [oP 4 (.mv (.c (.d (.bool false))))] [0,1,5,25])
 (.ret [4])) .skip)))
 (.ops [] [oM 15 5,oP 16 (.bin .add (.t 15) (kI 1)),oM 5 16] [15,16,25])))
def zaeL:zg:=
 (.seq (.ops [] [oP 4 (.mv (.c (.d (.bool false))))] [4])
 (.seq (.seq (.ops [] [oM 6 0,oP 7 (.len (.t 6)),oM 8 1,oP 9 (.len (.t 8)),oP 10 (.bin .neq (.t 7) (.t 9))] [6,7,8,9])
 (.cond (.t 10) (.seq (.ops [] [oP 4 (.mv (.c (.d (.bool false))))] [0,1,10])
 (.ret [4])) .skip))
 (.seq (.seq (.ops [] [oP 5 (.mv (kI 0))] [10])
 (.block 0 (.loop [] zagJ)))
 (.seq (.ops [] [oP 4 (.mv (.c (.d (.bool true))))] [0,1,5,14])
 (.ret [4])))))
def zae1:List zl:=[.t 4]
def zaf9:AFn:= .code zaeL zae1 26 true
def zagI:zg:=
 (.seq (.seq (.ops [] [oM 11 5,oM 12 0,oP 13 (.len (.t 12)),oP 14 (.bin .lss (.t 11) (.t 13))] [11,12,13])
 (.cond (.t 14) .skip (.exit 0 [])))
 (.seq (.block 1 (.seq (.draw [] [oM 17 0,oM 18 5,oP 19 (.iad 2 (.t 17) (.t 18)),oP 20 (.ld true 2 (.t 19)),oM 21 1,oM 22 5,oP 23 (.iad 2 (.t 21) (.t 22)),oP 24 (.ld true 2 (.t 23)),oP 25 (.eqs true 2 [(0,0),(1,0)] (.t 20) (.t 24))] [[],[0],[],[],[0,1,2,3],[0,1,2,3,4],[0,1,2,3],[0,1,2,3],[]] [14,17,18,19,20,21,22,23,24])
 (.cond (.t 25) (.seq (.ops [] [oP 4 (.mv (.c (.d (.bool false))))] [0,1,5,25])
 (.ret [4])) .skip)))
 (.ops [] [oM 15 5,oP 16 (.bin .add (.t 15) (kI 1)),oM 5 16] [15,16,25])))
def zaeK:zg:=
 (.seq (.ops [] [oP 4 (.mv (.c (.d (.bool false))))] [4])
 (.seq (.seq (.ops [] [oM 6 0,oP 7 (.len (.t 6)),oM 8 1,oP 9 (.len (.t 8)),oP 10 (.bin .neq (.t 7) (.t 9))] [6,7,8,9])
 (.cond (.t 10) (.seq (.ops [] [oP 4 (.mv (.c (.d (.bool false))))] [0,1,10])
 (.ret [4])) .skip))
 (.seq (.seq (.ops [] [oP 5 (.mv (kI 0))] [10])
 (.block 0 (.loop [] zagI)))
 (.seq (.ops [] [oP 4 (.mv (.c (.d (.bool true))))] [0,1,5,14])
 (.ret [4])))))
def zae0:List zl:=[.t 4]
def zaf7:AFn:= .code zaeK zae0 26 true
def zafN:zg:=
 (.seq (.ops [] [oP 2 (.box (.t 0)),oP 3 (.box (.t 1)),oP 4 (.mv (.c (.d (.bool false))))] [0,1,4])
 (.seq (.ops [] [oP 5 (.fad false 0 1 (.t 2)),oP 6 (.ld false 1 (.t 5)),oP 7 (.fad false 0 1 (.t 3)),oP 8 (.ld false 1 (.t 7)),oP 9 (.bin .eql (.t 6) (.t 8)),oM 10 9,oQ 11 (.fad true 1 8 (.t 2)) 10 true,oQ 12 (.ld true 8 (.t 11)) 10 true,oQ 13 (.fad true 1 8 (.t 3)) 10 true,oQ 14 (.ld true 8 (.t 13)) 10 true,oQ 15 (.call zaeT [] [.t 12,.t 14]) 10 true,oP 16 (.pick (.t 10) (.t 15) (.c (.d (.bool false)))),oM 17 16,oQ 18 (.fad true 15 8 (.t 2)) 17 true,oQ 19 (.ld true 8 (.t 18)) 17 true,oQ 20 (.fad true 15 8 (.t 3)) 17 true,oQ 21 (.ld true 8 (.t 20)) 17 true,oQ 22 (.eqs false 8 [(0,0),(1,0),(2,0),(3,0),(4,0),(5,0),(6,0),(7,0)] (.t 19) (.t 21)) 17 true,oP 23 (.pick (.t 17) (.t 22) (.c (.d (.bool false)))),oM 24 23,oQ 25 (.fad false 9 1 (.t 2)) 24 true,oQ 26 (.ld false 1 (.t 25)) 24 true,oQ 27 (.fad false 9 1 (.t 3)) 24 true,oQ 28 (.ld false 1 (.t 27)) 24 true,oQ 29 (.bin .eql (.t 26) (.t 28)) 24 true,oP 30 (.pick (.t 24) (.t 29) (.c (.d (.bool false)))),oM 31 30,oQ 32 (.fad false 10 1 (.t 2)) 31 true,oQ 33 (.ld false 1 (.t 32)) 31 true,oQ 34 (.fad false 10 1 (.t 3)) 31 true,oQ 35 (.ld false 1 (.t 34)) 31 true,oQ 36 (.eqb false (.t 33) (.t 35)) 31 true,oP 37 (.pick (.t 31) (.t 36) (.c (.d (.bool false)))),oM 38 37,oQ 39 (.fad false 11 1 (.t 2)) 38 true,oQ 40 (.ld false 1 (.t 39)) 38 true,oQ 41 (.fad false 11 1 (.t 3)) 38 true,oQ 42 (.ld false 1 (.t 41)) 38 true,oQ 43 (.bin .eql (.t 40) (.t 42)) 38 true,oP 44 (.pick (.t 38) (.t 43) (.c (.d (.bool false)))),oM 45 44,oQ 46 (.fad false 13 1 (.t 2)) 45 true,oQ 47 (.ld false 1 (.t 46)) 45 true,oQ 48 (.fad false 13 1 (.t 3)) 45 true,oQ 49 (.ld false 1 (.t 48)) 45 true,oQ 50 (.bin .eql (.t 47) (.t 49)) 45 true,oP 51 (.pick (.t 45) (.t 50) (.c (.d (.bool false)))),oM 52 51,oQ 53 (.fad false 14 1 (.t 2)) 52 true,oQ 54 (.ld false 1 (.t 53)) 52 true,oQ 55 (.fad false 14 1 (.t 3)) 52 true,oQ 56 (.ld false 1 (.t 55)) 52 true,oQ 57 (.call zaeI [] [.t 54,.t 56]) 52 true,oP 58 (.pick (.t 52) (.t 57) (.c (.d (.bool false)))),oM 59 58,oQ 60 (.fad true 23 26 (.t 2)) 59 true,oQ 61 (.fad true 2 5 (.t 60)) 59 true,oQ 62 (.fad false 2 1 (.t 61)) 59 true,oQ 63 (.ld false 1 (.t 62)) 59 true,oQ 64 (.fad true 23 26 (.t 3)) 59 true,oQ 65 (.fad true 2 5 (.t 64)) 59 true,oQ 66 (.fad false 2 1 (.t 65)) 59 true,oQ 67 (.ld false 1 (.t 66)) 59 true,oQ 68 (.bin .eql (.t 63) (.t 67)) 59 true,oP 69 (.pick (.t 59) (.t 68) (.c (.d (.bool false)))),oM 70 69,oQ 71 (.fad true 23 26 (.t 2)) 70 true,oQ 72 (.fad false 25 1 (.t 71)) 70 true,oQ 73 (.ld false 1 (.t 72)) 70 true,oQ 74 (.fad true 23 26 (.t 3)) 70 true,oQ 75 (.fad false 25 1 (.t 74)) 70 true,oQ 76 (.ld false 1 (.t 75)) 70 true,oQ 77 (.call zaeH [] [.t 73,.t 76]) 70 true,oP 78 (.pick (.t 70) (.t 77) (.c (.d (.bool false)))),oM 4 78] [2,3,5,6,7,8,9,10,11,12,13,14,15,16,17,18,19,20,21,22,23,24,25,26,27,28,29,30,31,32,33,34,35,36,37,38,39,40,41,42,43,44,45,46,47,48,49,50,51,52,53,54,55,56,57,58,59,60,61,62,63,64,65,66,67,68,69,70,71,72,73,74,75,76,77,78])
 (.ret [4])))
def zaiC:List zl:=[.t 4]
def zagk:AFn:= .code zafN zaiC 79 true
def zahV:zn:={ kill:=kx [(0,[0,1,4]),(1,[2,3,5058])],ret:=[4] }
def zahc:zg:=vl (x:=zu Tryz.prog Tryz.f100 zahV [] [])
def zaiw:List zl:=[.t 4]
def zage:AFn:= .code zahc zaiw 59 true
def zagD:zn:={ kill:=kx [(0,[4]),(1,[6009]),(2,[0,1,10]),(3,[10]),(4,[11013]),(5,[15,16,25]),(6,[14,17024]),(7,[0,1,5,25]),(8,[0,1,5,14])],ret:=[4] }
def zaia:List (Nat×List (List Nat)):=qx [(6,[[],[0],[],[],[1003],[1004],[1003],[1003],[]])]
@[irreducible] def zah2:zg:=vl (x:=zZ Tryz.prog Tryz.f151 zagD zaia 0 [])
def zahe:zg:=vl (x:=zu Tryz.prog Tryz.f151 zagD zaia [zah2])
def zaiy:List zl:=[.t 4]
def zagg:AFn:= .code zahe zaiy 26 true
end Go.Proofs.YtnmcgdpmikhohaaGreat
