/-
  Functions of the program, as the calculus has them.
-/
import Derived.Test.YtnmcgdpmikhohaaGreatB7f1db76
import Derived.Test.YtnmcgdpmikhohaaGreatProg
set_option linter.unusedSimpArgs false
set_option linter.unusedVariables false
set_option maxHeartbeats 10000000
set_option maxRecDepth 100000
namespace Go.Proofs.YtnmcgdpmikhohaaGreat
open Go Go.Sim
def zAe:zn:={ kill:=kx [(0,[3]),(1,[5011]),(2,[0,12,13]),(3,[12]),(4,[14016]),(5,[18,19,47]),(6,[17,20046]),(7,[0,4,47,48]),(8,[0,4,17,49051])],exit:=[(0,[0,2])],ret:=[2,3] }
def zNg:List (Nat×List (List Nat)):=qx [(6,[[],[0],[],[],[],[],[],[6],[],[],[],[],[],[],[],[],[],[16],[],[],[17019],[17020],[17020],[17019],[17019],[],[],[]])]
@[irreducible] def zAV:zg:=vl (x:=zZ Tryz.prog Tryz.f246 zAe zNg 0 [])
def zqT:zg:=vl (x:=zu Tryz.prog Tryz.f246 zAe zNg [zAV])
def ztc:List zl:=[.c 2 true 5,.t 3]
def zxJ:AFn:= .code zqT ztc 52 true
def zKU:zn:={ kill:=kx [(0,[0,1,8010]),(1,[2,3,14024]),(2,[25]),(3,[4,11013,26029]),(4,[13,26,30,31]),(5,[4,11,12,32039])],obj:=[(21,[false,false,false,false,true])],ret:=[6,7,8,9,10] }
def z56:List (Nat×List (List Nat)):=qx [(5,[[],[0],[0,1],[0,1],[0,1],[1004],[1004],[1004],[2007],[3007],[6007],[],[]])]
def zuZ:zg:=vl (x:=zu Tryz.prog Tryz.f178 zKU z56 [])
def zCv:List zl:=[.c 6 true 11,.c 7 true 63,.t 8,.t 9,.t 10]
def zyc:AFn:= .code zuZ zCv 40 true
def zKz:zn:={ kill:=kx [(0,[0,1,10]),(1,[2005,14022]),(2,[23]),(3,[11013,24027]),(4,[11013,24,28,29])],obj:=[(19,[false,false,false,false,true])],ret:=[8,9,10] }
def z5X:List (Nat×List (List Nat)):=qx [(4,[[],[0],[1],[],[]])]
def zuT:zg:=vl (x:=zu Tryz.prog Tryz.f202 zKz z5X [])
def zCp:List zl:=[.c 8 true 11,.c 9 true 26,.t 10]
def zxO:AFn:= .code zuT zCp 30 true
def zKG:zn:={ kill:=kx [(0,[0,1,10]),(1,[19]),(2,[22]),(3,[2,3,20,21,23031]),(4,[32,33]),(5,[12,34039]),(6,[40042]),(7,[4,43045]),(8,[46048]),(9,[4,5,11,13,40,46,49051]),(10,[21,53]),(11,[2005,20,52,54060]),(12,[52,62]),(13,[2005,20,61,63068]),(14,[61,70]),(15,[2,3,20,69,71078]),(16,[79,80]),(17,[14,81086]),(18,[87089]),(19,[4,5,15,87,90092]),(20,[3,69,94]),(21,[2,4,5,20,93,95101]),(22,[93,103]),(23,[2,4,5,20,102,104109]),(24,[102,111]),(25,[2,4,5,20,110,112118]),(26,[20,110,120]),(27,[2,4,119,121129]),(28,[130,131]),(29,[17,132137]),(30,[138140]),(31,[5,16,18,138,141143]),(32,[2,4,5,119,144,145])],obj:=[(28,[false,false,false,true]),(42,[false,false,true]),(48,[false,false,true]),(57,[false,false,false,true]),(65,[false,false,true]),(89,[false,false,true]),(98,[false,false,false,true]),(106,[false,false,true]),(115,[false,false,false,true]),(126,[false,false,false,true]),(140,[false,false,true])],ret:=[8,9,10] }
def z51:List (Nat×List (List Nat)):=qx [(9,[[],[0],[0,1],[1,2],[2],[]]),(19,[[],[0],[0,1],[1,2],[2],[]]),(31,[[],[0],[0,1],[1,2],[2],[]]),(32,[[],[0],[1],[],[]])]
def zFB:zg:=vl (x:=zu Tryz.prog Tryz.f242 zKG z51 [])
def zPg:List zl:=[.c 8 true 11,.c 9 true 26,.t 10]
def zxX:AFn:= .code zFB zPg 146 true
def zKw:zn:={ kill:=kx [(0,[0,1,8]),(1,[14]),(2,[17]),(3,[2,3,15,16,18030]),(4,[31]),(5,[4,9011,32035]),(6,[10,11,32,37]),(7,[36,38041]),(8,[42046]),(9,[47,48]),(10,[36,50052]),(11,[49,53]),(12,[4,9,47,49,54,55]),(13,[16,57]),(14,[58]),(15,[2,3,15,56,59071]),(16,[72]),(17,[4,12,13,73076]),(18,[13,73,77080]),(19,[81084,94]),(20,[85088]),(21,[89]),(22,[91093]),(23,[90,95097]),(24,[94,98]),(25,[4,12,90,99,100]),(26,[2,15,56,102]),(27,[101,103106]),(28,[107,108]),(29,[109,110]),(30,[3,4,109,111,112]),(31,[3,4,101,113,114])],ret:=[6,7,8] }
def z5W:List (Nat×List (List Nat)):=qx [(3,[[],[0],[0],[1002],[1002],[0],[0],[1006],[],[],[],[10],[10,11],[1012],[11,12],[12],[]]),(12,[[],[0],[1],[],[]]),(15,[[],[0],[0],[1002],[1002],[1002],[0],[0],[1007],[],[],[],[11],[1012],[12],[]]),(25,[[],[0],[1],[],[]]),(30,[[],[0],[1],[],[]])]
def zFr:zg:=vl (x:=zu Tryz.prog Tryz.f269 zKw z5W [])
def zO6:List zl:=[.c 6 true 11,.c 7 true 5,.t 8]
def zxK:AFn:= .code zFr zO6 115 true
def zKo:zn:={ kill:=kx [(0,[0,7,8]),(1,[9021]),(2,[1003,22,23]),(3,[22,24026]),(4,[1003,27,28]),(5,[1003,27,29032])],obj:=[(32,[false,false,false,true])],ret:=[6,7,8] }
def zFm:zg:=vl (x:=zu Tryz.prog Tryz.f28 zKo [] [])
def zO1:List zl:=[.c 6 true 11,.t 7,.t 8]
def zxB:AFn:= .code zFm zO1 33 true
def zKu:zn:={ kill:=kx [(0,[2]),(1,[0,3008])],ret:=[2] }
def zFp:zg:=vl (x:=zu Tryz.prog Tryz.f72 zKu [] [])
def zO4:List zl:=[.t 2]
def zxH:AFn:= .code zFp zO4 9 true
def zKj:zn:={ kill:=kx [(0,[0,4]),(1,[5008]),(2,[1,2,9012]),(3,[1,2,9,13018])],ret:=[4] }
def zFk:zg:=vl (x:=zu Tryz.prog Tryz.f73 zKj [] [])
def zOZ:List zl:=[.t 4]
def zxw:AFn:= .code zFk zOZ 19 true
def zKr:zn:={ kill:=kx [(0,[0]),(1,[7010]),(2,[1,2,11014]),(3,[3,15]),(4,[11,16019]),(5,[1,2,20025]),(6,[3,26])],ghost:=[(5,[36])],ret:=[6] }
def zFo:zg:=vl (x:=zu Tryz.prog Tryz.f74 zKr [] [])
def zO3:List zl:=[.c 6 true 11]
def zxE:AFn:= .code zFo zO3 27 true
def zKp:zn:={ kill:=kx [(0,[0,7]),(1,[8020]),(2,[1003,21,22]),(3,[2,21,23026]),(4,[1,3,27,28]),(5,[1,3,27,29031])],obj:=[(31,[false,false,false,true])],ret:=[6,7] }
def zFn:zg:=vl (x:=zu Tryz.prog Tryz.f31 zKp [] [])
def zO2:List zl:=[.c 6 true 11,.t 7]
def zxC:AFn:= .code zFn zO2 32 true
def zKC:zn:={ kill:=kx [(0,[0]),(1,[1,5007]),(2,[2,8])],ret:=[4] }
def zFw:zg:=vl (x:=zu Tryz.prog Tryz.f259 zKC [] [])
def zPb:List zl:=[.c 4 true 26]
def zxS:AFn:= .code zFw zPb 9 true
def zAg:zn:={ kill:=kx [(0,[0,1,4]),(3,[7011]),(4,[13,14,24]),(5,[12,15023]),(6,[24026]),(7,[2,3,5,6,12,27])],exit:=[(0,[5])],ret:=[4] }
def zNh:List (Nat×List (List Nat)):=qx [(5,[[],[],[],[1002],[],[],[1005],[1005],[1005],[]])]
@[irreducible] def zsK:zg:=vl (x:=zZ Tryz.prog Tryz.f270 zAg zNh 0 [])
def zFA:zg:=vl (x:=zu Tryz.prog Tryz.f270 zAg zNh [zsK])
def zPf:List zl:=[.t 4]
def zxW:AFn:= .code zFA zPf 28 true
def zKF:zn:={ kill:=kx [(0,[0,1,8]),(1,[15017]),(2,[18023]),(3,[24026]),(4,[2,9,10,27033]),(5,[11,34040]),(6,[41044]),(7,[3,4,12,45047]),(8,[27,48056]),(9,[57]),(10,[2004,9,10,13,14,58061]),(11,[9,14,58,62070]),(12,[2,10,13,71078]),(13,[79082]),(14,[83092]),(15,[93095]),(16,[3,4,14,93,96098])],obj:=[(76,[false,false,false,false,true]),(95,[false,false,true])],ret:=[6,7,8] }
def z50:List (Nat×List (List Nat)):=qx [(5,[[],[],[],[1002],[1002],[],[],[]]),(7,[[],[0],[0,1],[1,2],[2],[]]),(10,[[],[0],[0,1],[1,2],[2],[]]),(11,[[],[],[0,1],[],[],[1004],[1004],[],[],[]]),(14,[[],[],[],[],[],[3,4],[4005],[3,4],[3,4],[],[]]),(16,[[],[0],[0,1],[1,2],[2],[]])]
def zFz:zg:=vl (x:=zu Tryz.prog Tryz.f271 zKF z50 [])
def zPe:List zl:=[.c 6 true 11,.c 7 true 26,.t 8]
def zxV:AFn:= .code zFz zPe 99 true
def zKi:zn:={ kill:=kx [(0,[0,5]),(1,[6008]),(2,[1,2,9,10]),(3,[1,2,9,11015])],ret:=[4,5] }
def zFj:zg:=vl (x:=zu Tryz.prog Tryz.f110 zKi [] [])
def zOY:List zl:=[.c 4 true 4,.t 5]
def zxu:AFn:= .code zFj zOY 16 true
def zKs:zn:={ kill:=kx [(0,[0,4]),(1,[1,2,5013])],ret:=[4] }
def zuQ:zg:=vl (x:=zu Tryz.prog Tryz.f158 zKs [] [])
def zCm:List zl:=[.t 4]
def zxF:AFn:= .code zuQ zCm 14 true
def zJ9:zn:={ kill:=kx [(0,[0,3]),(1,[5012]),(2,[1,4,13]),(3,[4,15018]),(4,[1,14,19]),(5,[14,21023]),(6,[1,20,24]),(7,[20,25028]),(8,[1,29])],ret:=[2,3] }
def zFb:zg:=vl (x:=zu Tryz.prog Tryz.f294 zJ9 [] [])
def zOP:List zl:=[.c 2 true 4,.t 3]
def zxi:AFn:= .code zFb zOP 30 true
def zKm:zn:={ kill:=kx [(0,[0,3,9]),(1,[2,11014]),(2,[15]),(3,[1,4,7,10,16018]),(4,[10,16,19039]),(5,[1,4,7,40,41]),(6,[40,42045]),(7,[1,7,46050]),(8,[4,51])],ghost:=[(7,[88])],ret:=[8,9] }
def zFl:zg:=vl (x:=zu Tryz.prog Tryz.f295 zKm [] [])
def zO0:List zl:=[.c 8 true 11,.t 9]
def zxz:AFn:= .code zFl zO0 52 true
def zKt:zn:={ kill:=kx [(0,[0,6]),(1,[7014]),(2,[1003,15]),(3,[1003,15022]),(4,[23]),(5,[23])],ret:=[6] }
def zuR:zg:=vl (x:=zu Tryz.prog Tryz.f308 zKt [] [])
def zCn:List zl:=[.t 6]
def zxG:AFn:= .code zuR zCn 24 true
def zKE:zn:={ kill:=kx [(0,[0,1,6]),(1,[10016]),(3,[17020]),(4,[7,21024]),(5,[8,21]),(6,[7,25030]),(7,[9,31037]),(8,[38041]),(9,[42047]),(10,[48050]),(11,[2,3,8,48,51053])],obj:=[(23,[false,true]),(28,[false,false,true]),(50,[false,false,true])],ret:=[4,5,6] }
def z5Z:List (Nat×List (List Nat)):=qx [(7,[[],[],[],[1002],[1002],[],[],[]]),(11,[[],[0],[0,1],[1,2],[2],[]])]
def zFy:zg:=vl (x:=zu Tryz.prog Tryz.f272 zKE z5Z [])
def zPd:List zl:=[.c 4 true 11,.c 5 true 26,.t 6]
def zxU:AFn:= .code zFy zPd 54 true
def zKf:zn:={ kill:=kx [(0,[0]),(1,[1,3005])],ret:=[2] }
def zFh:zg:=vl (x:=zu Tryz.prog Tryz.f296 zKf [] [])
def zOW:List zl:=[.c 2 true 2]
def zxr:AFn:= .code zFh zOW 6 true
def zKh:zn:={ kill:=kx [(0,[0,5]),(1,[6008]),(2,[1,2,9,10]),(3,[1,2,9,11016])],ret:=[4,5] }
def zuM:zg:=vl (x:=zu Tryz.prog Tryz.f297 zKh [] [])
def zCi:List zl:=[.c 4 true 8,.t 5]
def zxt:AFn:= .code zuM zCi 17 true
def zKx:zn:={ kill:=kx [(0,[0,1,7]),(1,[9,12016]),(2,[3,11,17021]),(3,[22]),(4,[24,47]),(5,[26]),(6,[2,8,10,23,25,27029]),(7,[25,31]),(8,[2,8,10,23,30,32036]),(9,[2,10,30,38]),(10,[23,37,39041]),(11,[8,42,43]),(12,[8,42,44046]),(13,[4,8,23,37,48]),(14,[47,49]),(15,[4,50])],ret:=[6,7] }
def zuS:zg:=vl (x:=zu Tryz.prog Tryz.f22 zKx [] [])
def zCo:List zl:=[.c 6 true 4,.t 7]
def zxL:AFn:= .code zuS zCo 51 true
def zKH:zn:={ kill:=kx [(0,[0,1,8]),(1,[12018]),(2,[19024]),(3,[11]),(4,[25028]),(5,[2,9,10,29038]),(6,[2,9,10,29,39051]),(7,[52]),(8,[3,4,11,53056]),(9,[11,53,57060]),(10,[61066]),(11,[67071]),(12,[3,4,72,73]),(13,[67,74]),(14,[75078]),(15,[3,4,79082]),(16,[3,4,79,83088])],obj:=[(36,[false,false,false,true]),(49,[false,false,false,false,true]),(82,[false,false,true]),(85,[false,false,true])],ret:=[6,7,8] }
def z52:List (Nat×List (List Nat)):=qx [(6,[[],[0],[0,1],[1002],[1002],[1002],[1005],[1002],[1002],[],[],[],[11],[12],[]]),(8,[[],[0],[0,1],[1,2],[2],[]]),(12,[[],[0],[1],[],[]]),(15,[[],[0],[0],[],[],[]])]
def zFC:zg:=vl (x:=zu Tryz.prog Tryz.f273 zKH z52 [])
def zPh:List zl:=[.c 6 true 11,.c 7 true 26,.t 8]
def zxY:AFn:= .code zFC zPh 89 true
def zKk:zn:={ kill:=kx [(0,[0,2,7]),(1,[9,10]),(2,[1,3,5,11,12]),(3,[1,11,13016]),(4,[3,5,17,18]),(5,[17,19,20]),(6,[21]),(7,[3,5,8,22024]),(8,[8,22,25030]),(9,[3,5,31,32]),(10,[5,31,33035]),(11,[3,36])],ret:=[6,7] }
def zqR:zg:=vl (x:=zu Tryz.prog Tryz.f298 zKk [] [])
def zta:List zl:=[.c 6 true 11,.t 7]
def zxx:AFn:= .code zqR zta 37 true
def zJ4:zn:={ kill:=kx [(0,[0,2]),(1,[3009]),(2,[1,10]),(3,[10015]),(4,[1,16]),(5,[1,16019])],ret:=[2] }
def zE3:zg:=vl (x:=zu Tryz.prog Tryz.f256 zJ4 [] [])
def zOH:List zl:=[.t 2]
def zw7:AFn:= .code zE3 zOH 20 true
def zr5:zn:={ kill:=kx [(0,[2]),(2,[6008]),(3,[4,10,11,18]),(4,[9,12016]),(5,[17]),(6,[0,3,4,18,19]),(7,[3,9]),(8,[20022]),(9,[24,25,34]),(10,[23,26033]),(11,[0,5,34]),(12,[0,5,23])],exit:=[(0,[0])],ret:=[2] }
@[irreducible] def zsB:zg:=vl (x:=zZ Tryz.prog Tryz.f268 zr5 [] 0 [])
@[irreducible] def zsC:zg:=vl (x:=zZ Tryz.prog Tryz.f268 zr5 [] 1 [])
def zE4:zg:=vl (x:=zu Tryz.prog Tryz.f268 zr5 [] [zsB,zsC])
def zOI:List zl:=[.t 2]
def zw8:AFn:= .code zE4 zOI 35 true
def zJo:zn:={ kill:=kx [(0,[0,2]),(1,[3037]),(2,[1,38]),(3,[1,38041]),(4,[42]),(5,[42])],ret:=[2] }
def zEj:zg:=vl (x:=zu Tryz.prog Tryz.f243 zJo [] [])
def zNW:List zl:=[.t 2]
def zv3:AFn:= .code zEj zNW 43 true
def zJq:zn:={ kill:=kx [(0,[6]),(1,[0,1,2,7014])],ret:=[6] }
def zEk:zg:=vl (x:=zu Tryz.prog Tryz.f276 zJq [] [])
def zNX:List zl:=[.t 6]
def zv5:AFn:= .code zEk zNX 15 true
def zzQ:zn:={ kill:=kx [(0,[4]),(2,[6008]),(3,[10,11,18]),(4,[9,12017]),(5,[0,1,5,18,19]),(6,[0,1,5,9])],ret:=[4] }
@[irreducible] def zAC:zg:=vl (x:=zZ Tryz.prog Tryz.f244 zzQ [] 0 [])
def zEd:zg:=vl (x:=zu Tryz.prog Tryz.f244 zzQ [] [zAC])
def zNQ:List zl:=[.t 4]
def zvW:AFn:= .code zEd zNQ 20 true
def zKl:zn:={ kill:=kx [(0,[0,3,9]),(1,[2,12015]),(2,[16]),(3,[1,4,7,10,17019]),(4,[10,17,20,21]),(5,[22]),(6,[1,4,7,11,23025]),(7,[11,23,26038]),(8,[1,4,7,39,40]),(9,[39,41044]),(10,[1,7,45050]),(11,[4,51])],ghost:=[(10,[86])],ret:=[8,9] }
def z5V:List (Nat×List (List Nat)):=qx [(7,[[],[],[],[],[1003],[1003],[1005],[1003],[1003],[1003],[1003],[1003],[1003],[]])]
def zqS:zg:=vl (x:=zu Tryz.prog Tryz.f299 zKl z5V [])
def ztb:List zl:=[.c 8 true 11,.t 9]
def zxy:AFn:= .code zqS ztb 52 true
def zr3:zn:={ kill:=kx [(0,[0,2]),(1,[9011]),(2,[12]),(3,[1,3,13,14]),(4,[3,13,15017]),(5,[18]),(6,[1,4,19,20]),(7,[4,19,21028]),(8,[29,30]),(9,[1,5,31042]),(10,[43]),(11,[43]),(12,[31,44048]),(13,[1,5,49]),(14,[5,49054]),(15,[1,55]),(16,[55057]),(18,[58060]),(19,[62,63,81]),(20,[61,64080]),(21,[1,6,7,81]),(22,[1,7,61]),(23,[82084]),(24,[86,87,96]),(25,[85,88095]),(26,[6,8,96]),(27,[6,8,85])],exit:=[(0,[6])],ret:=[2] }
def zBQ:List (Nat×List (List Nat)):=qx [(20,[[],[0],[],[],[],[1004],[1004],[],[],[],[9],[],[],[],[10013],[10013],[],[]])]
@[irreducible] def zsy:zg:=vl (x:=zZ Tryz.prog Tryz.f248 zr3 zBQ 0 [])
@[irreducible] def zsz:zg:=vl (x:=zZ Tryz.prog Tryz.f248 zr3 zBQ 1 [])
def zET:zg:=vl (x:=zu Tryz.prog Tryz.f248 zr3 zBQ [zsy,zsz])
def zOx:List zl:=[.t 2]
def zwU:AFn:= .code zET zOx 97 true
def zsm:zg:=
 (.seq (.seq (.ops [] [oM 42 4,oM 43 3,oP 44 (.bin .lss (.t 42) (.t 43))] [42,43])
 (.cond (.t 44) .skip (.exit 0 [1])))
 (.seq (.block 1 (.seq (.draw [] [oP 47 (.fad false 0 1 (.t 1)),oP 48 (.ld false 1 (.t 47)),oP 49 (.fad false 1 1 (.t 1)),oP 50 (.ld false 1 (.t 49)),oM 51 4,oP 52 (.bin .add (.t 50) (.t 51)),oM 53 3,oP 54 (.bin .rem (.t 52) (.t 53)),oP 55 (.iad 7 (.t 48) (.t 54)),oP 56 (.ld true 7 (.t 55)),oP 57 (.build [aI 0,aI 0,aI 0,aI 0,aI 0,aI 0,.d (.str [])] []),oP 58 (.eqs true 7 [(0,0),(1,0),(2,0),(3,0),(4,0),(5,0),(6,2)] (.t 56) (.t 57))] [[],[],[0,1],[0,1],[0,1,2,3],[0,1],[0,1,2,3,4,5],[0,1],[],[],[0,1,2,3,4,5,6,7,8,9],[]] [44,47,48,49,50,51,52,53,54,55,56,57])
 (.cond (.t 58) (.seq (.ops [] [oP 2 (.mv (kI 7))] [1,3,4,58])
 (.ret [2])) .skip)))
 (.ops [] [oM 45 4,oP 46 (.bin .add (.t 45) (kI 1)),oM 4 46] [45,46,58])))
def zsn:zg:=
 (.seq (.seq (.ops [] [oM 61 6,oM 62 5,oP 63 (.len (.t 62)),oP 64 (.bin .lss (.t 61) (.t 63))] [61,62,63])
 (.cond (.t 64) .skip (.exit 2 [5])))
 (.seq (.block 3 (.seq (.ops [] [oM 67 5,oM 68 6,oP 69 (.iad 7 (.t 67) (.t 68)),oP 70 (.ld true 7 (.t 69)),oP 71 (.call zlu [] [.t 70]),oM 7 71] [64,67,68,69,70,71])
 (.seq (.ops [] [oM 72 7,oP 73 (.bin .neq (.t 72) (kI 0))] [72])
 (.cond (.t 73) (.seq (.ops [] [oM 74 7,oM 2 74] [5,6,7,73,74])
 (.ret [2])) .skip))))
 (.ops [] [oM 65 6,oP 66 (.bin .add (.t 65) (kI 1)),oM 6 66] [7,65,66,73])))
def zso:zg:=
 (.seq (.seq (.ops [] [oM 75 8,oM 76 5,oP 77 (.len (.t 76)),oP 78 (.bin .lss (.t 75) (.t 77))] [75,76,77])
 (.cond (.t 78) .skip (.exit 4 [])))
 (.seq (.block 5 (.seq (.ops [] [oM 81 5,oM 82 5,oM 83 8,oP 84 (.iad 7 (.t 82) (.t 83)),oP 85 (.fad false 0 1 (.t 84)),oP 86 (.ld false 1 (.t 85)),oP 87 (.call zlr [] [.t 81,.t 86]),oM 88 8,oP 89 (.bin .neq (.t 87) (.t 88))] [78,81,82,83,84,85,86,87,88])
 (.cond (.t 89) (.seq (.ops [] [oP 2 (.mv (kI 10))] [5,8,89])
 (.ret [2])) .skip)))
 (.ops [] [oM 79 8,oP 80 (.bin .add (.t 79) (kI 1)),oM 8 80] [79,80,89])))
def zuv:zg:=
 (.seq (.ops [] [oP 1 (.box (.t 0)),oP 2 (.mv (kI 0))] [0,2])
 (.seq (.ops [] [oP 9 (.fad false 0 1 (.t 1)),oP 10 (.ld false 1 (.t 9)),oP 11 (.len (.t 10)),oM 3 11] [9,10,11])
 (.seq (.seq (.ops [] [oM 12 3,oP 13 (.bin .lss (.t 12) (kI 1)),oM 14 13,oQ 15 (.mv (.t 3)) 14 false,oQ 16 (.bin .gtr (.t 15) (kI 12)) 14 false,oP 17 (.pick (.t 14) (.c (.d (.bool true))) (.t 16)),oM 18 17,oQ 19 (.fad false 1 1 (.t 1)) 18 false,oQ 20 (.ld false 1 (.t 19)) 18 false,oQ 21 (.bin .lss (.t 20) (kI 0)) 18 false,oP 22 (.pick (.t 18) (.c (.d (.bool true))) (.t 21)),oM 23 22,oQ 24 (.fad false 1 1 (.t 1)) 23 false,oQ 25 (.ld false 1 (.t 24)) 23 false,oQ 26 (.mv (.t 3)) 23 false,oQ 27 (.bin .geq (.t 25) (.t 26)) 23 false,oP 28 (.pick (.t 23) (.c (.d (.bool true))) (.t 27)),oM 29 28,oQ 30 (.fad false 2 1 (.t 1)) 29 false,oQ 31 (.ld false 1 (.t 30)) 29 false,oQ 32 (.bin .lss (.t 31) (kI 0)) 29 false,oP 33 (.pick (.t 29) (.c (.d (.bool true))) (.t 32)),oM 34 33,oQ 35 (.fad false 2 1 (.t 1)) 34 false,oQ 36 (.ld false 1 (.t 35)) 34 false,oQ 37 (.mv (.t 3)) 34 false,oQ 38 (.bin .gtr (.t 36) (.t 37)) 34 false,oP 39 (.pick (.t 34) (.c (.d (.bool true))) (.t 38))] [12,13,14,15,16,17,18,19,20,21,22,23,24,25,26,27,28,29,30,31,32,33,34,35,36,37,38])
 (.cond (.t 39) (.seq (.ops [] [oP 2 (.mv (kI 1))] [1,3,39])
 (.ret [2])) .skip))
 (.seq (.seq (.ops [] [oP 40 (.fad false 2 1 (.t 1)),oP 41 (.ld false 1 (.t 40)),oM 4 41] [39,40,41])
 (.block 0 (.loop [] zsm)))
 (.seq (.ops [] [oP 59 (.ld true 3 (.t 1)),oP 60 (.call zlx [] [.t 59]),oM 5 60] [1,3,4,44,59,60])
 (.seq (.seq (.ops [] [oP 6 (.mv (kI 0))] [])
 (.block 2 (.loop [] zsn)))
 (.seq (.seq (.ops [] [oP 8 (.mv (kI 0))] [6,64])
 (.block 4 (.loop [] zso)))
 (.seq (.ops [] [oP 2 (.mv (kI 0))] [5,8,78])
 (.ret [2])))))))))
def zN2:List zl:=[.t 2]
def zwc:AFn:= .code zuv zN2 90 true
def zzR:zn:={ kill:=kx [(0,[0,2]),(3,[5007]),(4,[9,10]),(5,[8,11025]),(6,[1,3,4,8,26])],acc:=[3],exit:=[(0,[3])],ret:=[2] }
def zM3:List (Nat×List (List Nat)):=qx [(5,[[],[0],[0],[1002],[1002],[1004],[1002],[1006],[1006],[1006],[1002],[0],[0],[0],[],[]])]
@[irreducible] def zsp:zg:=vl (x:=zZ Tryz.prog Tryz.f279 zzR zM3 0 [])
def zuw:zg:=vl (x:=zu Tryz.prog Tryz.f279 zzR zM3 [zsp])
def zB3:List zl:=[.t 2]
def zwd:AFn:= .code zuw zB3 27 false
def zr0:zn:={ kill:=kx [(0,[0,2]),(1,[9011]),(2,[1,12]),(3,[12]),(4,[13016]),(5,[18,19,45]),(6,[17,20024]),(7,[25027]),(8,[28]),(9,[1,3005,29,30]),(10,[5,29,32035]),(11,[1,3,4,31]),(12,[31,37044]),(13,[1,3,4,36]),(14,[4,36,46061]),(15,[1,3,45]),(16,[3,17,62064]),(17,[65]),(18,[1,6,66,67]),(19,[6,66,68073]),(20,[1,74]),(21,[74]),(22,[75078]),(23,[80,81,106]),(24,[79,82089]),(25,[8,90105]),(26,[1,7,106]),(27,[1,7,79])],exit:=[(0,[1])],ret:=[2] }
def zBN:List (Nat×List (List Nat)):=qx [(14,[[],[],[],[],[],[],[4005],[4005],[4007],[4007],[4005],[4005],[4005],[4005],[],[],[]]),(24,[[],[0],[0],[1002],[0],[0],[0],[],[]]),(25,[[],[],[],[],[],[3,4],[],[],[],[4008],[4008],[4010],[4008],[4008],[4008],[],[]])]
@[irreducible] def zAK:zg:=vl (x:=zZ Tryz.prog Tryz.f284 zr0 zBN 0 [])
@[irreducible] def zss:zg:=vl (x:=zZ Tryz.prog Tryz.f284 zr0 zBN 1 [])
def zEv:zg:=vl (x:=zu Tryz.prog Tryz.f284 zr0 zBN [zAK,zss])
def zN9:List zl:=[.t 2]
def zww:AFn:= .code zEv zN9 107 true
def zmu:zn:={ kill:=kx [(0,[2]),(1,[6,7]),(2,[0,8]),(3,[8]),(4,[9011]),(5,[13,14,20]),(6,[12,15019]),(7,[0,3,20]),(8,[3,12]),(9,[21023]),(10,[25,26,35]),(11,[24,27034]),(12,[0,4,35]),(13,[4,24]),(14,[36038]),(15,[40,41,52]),(16,[39,42051]),(17,[0,5,52]),(18,[0,5,39])],exit:=[(0,[0]),(2,[0])],ret:=[2] }
def zsZ:List (Nat×List (List Nat)):=qx [(16,[[],[0],[],[],[1003],[1004],[1004],[1004],[1003],[1003],[]])]
@[irreducible] def zAD:zg:=vl (x:=zZ Tryz.prog Tryz.f302 zmu zsZ 0 [])
@[irreducible] def zAE:zg:=vl (x:=zZ Tryz.prog Tryz.f302 zmu zsZ 1 [])
@[irreducible] def zAF:zg:=vl (x:=zZ Tryz.prog Tryz.f302 zmu zsZ 2 [])
def zuz:zg:=vl (x:=zu Tryz.prog Tryz.f302 zmu zsZ [zAD,zAE,zAF])
def zB6:List zl:=[.t 2]
def zwj:AFn:= .code zuz zB6 53 true
def zJC:zn:={ kill:=kx [(0,[0,2]),(1,[1,3020])],ret:=[2] }
def zEs:zg:=vl (x:=zu Tryz.prog Tryz.f305 zJC [] [])
def zN6:List zl:=[.t 2]
def zwo:AFn:= .code zEs zN6 21 true
def zzV:zn:={ kill:=kx [(0,[4]),(2,[6008]),(3,[10,11,18]),(4,[9,12017]),(5,[0,1,5,18,19]),(6,[0,1,5,9])],ret:=[4] }
@[irreducible] def zAG:zg:=vl (x:=zZ Tryz.prog Tryz.f303 zzV [] 0 [])
def zuA:zg:=vl (x:=zu Tryz.prog Tryz.f303 zzV [] [zAG])
def zB7:List zl:=[.t 4]
def zwn:AFn:= .code zuA zB7 20 true
def zJA:zn:={ kill:=kx [(0,[0,1,4]),(1,[2,3,5023])],ret:=[4] }
def zEq:zg:=vl (x:=zu Tryz.prog Tryz.f310 zJA [] [])
def zN4:List zl:=[.t 4]
def zwk:AFn:= .code zEq zN4 24 true
def zzZ:zn:={ kill:=kx [(0,[0,4]),(2,[6009]),(3,[11,12,21]),(4,[10,13020]),(5,[1,2,5,21,22]),(6,[1,2,5,10])],ret:=[4] }
@[irreducible] def zAL:zg:=vl (x:=zZ Tryz.prog Tryz.f286 zzZ [] 0 [])
def zEw:zg:=vl (x:=zu Tryz.prog Tryz.f286 zzZ [] [zAL])
def zOa:List zl:=[.t 4]
def zwx:AFn:= .code zEw zOa 23 true
def zJI:zn:={ kill:=kx [(0,[0,2]),(1,[1,3008])],ret:=[2] }
def z5P:List (Nat×List (List Nat)):=qx [(1,[[],[],[],[1002],[],[],[]])]
def zEz:zg:=vl (x:=zu Tryz.prog Tryz.f231 zJI z5P [])
def zOd:List zl:=[.t 2]
def zwA:AFn:= .code zEz zOd 9 true
def zJT:zn:={ kill:=kx [(0,[0,2]),(1,[1,3005])],ret:=[2] }
def zEP:zg:=vl (x:=zu Tryz.prog Tryz.f262 zJT [] [])
def zOt:List zl:=[.t 2]
def zwQ:AFn:= .code zEP zOt 6 true
def zJs:zn:={ kill:=kx [(0,[0,2]),(1,[3,4]),(2,[1,5]),(3,[1,5007])],ret:=[2] }
def zEm:zg:=vl (x:=zu Tryz.prog Tryz.f290 zJs [] [])
def zNZ:List zl:=[.t 2]
def zv7:AFn:= .code zEm zNZ 8 true
def zz3:zn:={ kill:=kx [(0,[0,2]),(3,[5009]),(4,[11,12]),(5,[10,13022]),(6,[1,3,4,10,23])],acc:=[3],exit:=[(0,[3])],ret:=[2] }
@[irreducible] def zsw:zg:=vl (x:=zZ Tryz.prog Tryz.f263 zz3 [] 0 [])
def zEJ:zg:=vl (x:=zu Tryz.prog Tryz.f263 zz3 [] [zsw])
def zOn:List zl:=[.t 2]
def zwK:AFn:= .code zEJ zOn 24 true
def zKJ:zn:={ kill:=kx [(0,[0,1,6]),(1,[8010]),(2,[2,3,11014]),(3,[11,15019]),(4,[2,3,7,20022])],obj:=[(14,[false,false,true]),(17,[false,true])],ret:=[4,5,6] }
def z54:List (Nat×List (List Nat)):=qx [(2,[[],[0],[0],[],[],[]]),(4,[[],[0],[0,1],[1,2],[2],[]])]
def zFE:zg:=vl (x:=zu Tryz.prog Tryz.f260 zKJ z54 [])
def zPj:List zl:=[.c 4 true 11,.c 5 true 26,.t 6]
def zx0:AFn:= .code zFE zPj 23 true
def zKD:zn:={ kill:=kx [(0,[0,3]),(1,[6011]),(2,[12]),(3,[1,4,5,13015]),(4,[4,5,13,16,17]),(5,[1,18,19])],obj:=[(9,[false,true]),(19,[false,false,true])],ret:=[2,3] }
def zFx:zg:=vl (x:=zu Tryz.prog Tryz.f289 zKD [] [])
def zPc:List zl:=[.c 2 true 26,.t 3]
def zxT:AFn:= .code zFx zPc 20 true
def zKv:zn:={ kill:=kx [(0,[0,3]),(1,[4,5]),(2,[1,6,7]),(3,[6,8]),(4,[1,9])],ret:=[2,3] }
def zFq:zg:=vl (x:=zu Tryz.prog Tryz.f307 zKv [] [])
def zO5:List zl:=[.c 2 true 5,.t 3]
def zxI:AFn:= .code zFq zO5 10 true
def zKB:zn:={ kill:=kx [(0,[0,1,6]),(1,[11,12]),(2,[13016]),(3,[17]),(4,[2,3,18,19]),(5,[13,20030]),(6,[31]),(7,[2,3,7,8,32035]),(8,[32,36045]),(9,[46]),(10,[2,3,7010,47050]),(11,[2,8,10,47,51]),(12,[7,52,53]),(13,[3,9,54,55]),(14,[7,52,56,57]),(15,[3,9,58063])],obj:=[(15,[false,true]),(28,[false,false,true]),(42,[false,false,false,true]),(60,[false,false,true])],ret:=[4,5,6] }
def z5Y:List (Nat×List (List Nat)):=qx [(4,[[],[0],[1],[],[]]),(5,[[],[],[0,1],[0,1],[0,1],[0,1],[0,1],[],[],[],[9],[1010],[10],[]]),(7,[[],[0],[0,1],[1,2],[2],[]]),(10,[[],[0],[0,1],[1,2],[2],[]]),(13,[[],[0],[1],[],[]])]
def zFv:zg:=vl (x:=zu Tryz.prog Tryz.f274 zKB z5Y [])
def zPa:List zl:=[.c 4 true 11,.c 5 true 26,.t 6]
def zxR:AFn:= .code zFv zPa 64 true
def zJ7:zn:={ kill:=kx [(0,[0,1,5]),(1,[13,14]),(2,[15]),(3,[2,3,6,16018]),(4,[6,16,19021]),(5,[23025]),(6,[2,3,7,22,26]),(7,[22,28035]),(8,[2,3,7,27,36]),(9,[7,27,38057]),(10,[2,3,37,58]),(11,[37,59066]),(12,[67073]),(13,[74,75]),(14,[9,76081]),(15,[2,3,8,10,82,83]),(16,[82,84088]),(17,[89099]),(18,[2,3,8,10,11,100,101]),(19,[11,100,102124]),(20,[2,8,125133]),(21,[3,134138]),(22,[10,139]),(23,[76,140156]),(24,[2,3,8010,157,158]),(25,[8,9,157,159161]),(26,[162185]),(27,[2,12,186194]),(28,[3,195201]),(29,[10,202])],ghost:=[(21,[144]),(28,[144])],ret:=[4,5] }
def z5U:List (Nat×List (List Nat)):=qx [(11,[[],[0],[0],[],[1003],[1004],[1004],[],[],[]]),(12,[[],[],[],[1002],[1002],[1002],[],[1006],[]]),(19,[[],[],[0,1],[],[],[1004],[1004],[1006],[1006],[1008],[1008],[1004],[1011],[1011],[1011],[1014],[1014],[1016],[1016],[1011],[1004],[],[],[]]),(20,[[],[],[0,1],[0,1],[1003],[1003],[0,1],[],[],[]]),(26,[[],[],[0,1],[],[],[1004],[1004],[1006],[1004],[1004],[1004],[1010],[1010],[1012],[1012],[1010],[1010],[1010],[1017],[1017],[1004],[1004],[],[],[]]),(27,[[],[],[0,1],[0,1],[1003],[1003],[0,1],[],[],[]])]
def zhs:zg:=vl (x:=zu Tryz.prog Tryz.f79 zJ7 z5U [])
def zh9:List zl:=[.c 4 true 3,.t 5]
def zxb:AFn:= .code zhs zh9 203 true
def zKd:zn:={ kill:=kx [(0,[0,2,7,8]),(1,[10,11]),(2,[12]),(3,[1,3,5,9,13015]),(4,[9,13,16021]),(5,[1,3,5,22,23]),(6,[1,22,24027]),(7,[3,5,28,29]),(8,[5,28,30,31]),(9,[3,32])],ret:=[6,7,8] }
def zqQ:zg:=vl (x:=zu Tryz.prog Tryz.f35 zKd [] [])
def zs9:List zl:=[.c 6 true 11,.t 7,.t 8]
def zxp:AFn:= .code zqQ zs9 33 true
def zKI:zn:={ kill:=kx [(0,[0,1,8]),(1,[13,14]),(2,[15019]),(3,[20,21]),(4,[22028]),(5,[10,22,29043]),(6,[44]),(7,[2004,9,11,12,45048]),(8,[2,9,11,45,49061]),(9,[62]),(10,[3,4,12,63066]),(11,[63,67070]),(12,[71075]),(13,[76081]),(14,[3,4,12,76,82084])],obj:=[(59,[false,false,false,false,true]),(79,[false,true])],ret:=[6,7,8] }
def z53:List (Nat×List (List Nat)):=qx [(5,[[],[],[0,1],[],[],[1004],[1005],[1005],[1005],[1008],[1008],[],[],[],[13],[1014],[14],[]]),(7,[[],[0],[0,1],[1,2],[2],[]]),(8,[[],[0],[0],[0],[1003],[0],[0],[1006],[1007],[],[],[],[11],[12],[]]),(10,[[],[0],[0,1],[1,2],[2],[]]),(14,[[],[0],[0,1],[1,2],[2],[]])]
def zFD:zg:=vl (x:=zu Tryz.prog Tryz.f275 zKI z53 [])
def zPi:List zl:=[.c 6 true 11,.c 7 true 26,.t 8]
def zxZ:AFn:= .code zFD zPi 85 true
def zAf:zn:={ kill:=kx [(0,[0,4]),(2,[6010]),(3,[12,13,21]),(4,[11,14020]),(5,[1,2,5,21]),(6,[1,2,5,11])],ret:=[4] }
@[irreducible] def zAW:zg:=vl (x:=zZ Tryz.prog Tryz.f300 zAf [] 0 [])
def zFt:zg:=vl (x:=zu Tryz.prog Tryz.f300 zAf [] [zAW])
def zO8:List zl:=[.t 4]
def zxP:AFn:= .code zFt zO8 22 true
def zKa:zn:={ kill:=kx [(0,[0,1,9]),(1,[13019]),(2,[2005,20,21]),(3,[20,22024]),(4,[2005,25,26]),(5,[25,27,28]),(6,[29]),(7,[2005,10,30032]),(8,[10,30,33045]),(9,[2005,46,47]),(10,[3,5,46,48054]),(11,[2,4,11,12,55061])],ret:=[8,9] }
def zFc:zg:=vl (x:=zu Tryz.prog Tryz.f301 zKa [] [])
def zOQ:List zl:=[.c 8 true 4,.t 9]
def zxj:AFn:= .code zFc zOQ 62 true
def zr2:zn:={ kill:=kx [(0,[0,6,7]),(1,[14025]),(2,[1003,26]),(3,[26]),(4,[3,27030]),(6,[31033]),(7,[35,36,52]),(8,[34,37051]),(9,[52054]),(10,[2,10,12,34]),(11,[55057]),(12,[59,60,67]),(13,[58,61066]),(14,[67069]),(15,[1,8,9,11,13,58,70,71])],exit:=[(0,[1,8,9,11]),(2,[8,9])],ret:=[6,7] }
def zBP:List (Nat×List (List Nat)):=qx [(4,[[],[],[0,1],[],[],[]])]
@[irreducible] def zst:zg:=vl (x:=zZ Tryz.prog Tryz.f309 zr2 zBP 0 [])
@[irreducible] def zsu:zg:=vl (x:=zZ Tryz.prog Tryz.f309 zr2 zBP 1 [])
def zED:zg:=vl (x:=zu Tryz.prog Tryz.f309 zr2 zBP [zst,zsu])
def zOh:List zl:=[.t 6,.t 7]
def zwE:AFn:= .code zED zOh 72 true
def zJO:zn:={ kill:=kx [(0,[0,2]),(1,[4,5]),(2,[6]),(3,[1,3,7,8]),(4,[1,3,7,9,10]),(5,[11]),(6,[11])],ret:=[2] }
def zEK:zg:=vl (x:=zu Tryz.prog Tryz.f214 zJO [] [])
def zOo:List zl:=[.t 2]
def zwL:AFn:= .code zEK zOo 12 true
def zJV:zn:={ kill:=kx [(0,[2]),(1,[0,3008])],ret:=[2] }
def zuG:zg:=vl (x:=zu Tryz.prog Tryz.f264 zJV [] [])
def zCd:List zl:=[.t 2]
def zwV:AFn:= .code zuG zCd 9 true
def zJX:zn:={ kill:=kx [(0,[2]),(1,[0,3008])],ret:=[2] }
def zuH:zg:=vl (x:=zu Tryz.prog Tryz.f251 zJX [] [])
def zCe:List zl:=[.t 2]
def zwY:AFn:= .code zuH zCe 9 true
def zJj:zn:={ kill:=kx [(0,[0,4]),(1,[1,2,5008])],ret:=[4] }
def zEe:zg:=vl (x:=zu Tryz.prog Tryz.f257 zJj [] [])
def zNR:List zl:=[.t 4]
def zvY:AFn:= .code zEe zNR 9 true
def zJn:zn:={ kill:=kx [(0,[0,4]),(1,[1,2,5008])],ret:=[4] }
def zEi:zg:=vl (x:=zu Tryz.prog Tryz.f252 zJn [] [])
def zNV:List zl:=[.t 4]
def zv2:AFn:= .code zEi zNV 9 true
def zK1:zn:={ kill:=kx [(0,[0,3]),(1,[11015]),(2,[16]),(3,[17019]),(4,[20024]),(5,[1,4,5,25028]),(6,[25,29,30]),(7,[31036]),(8,[4,37048]),(9,[49051]),(10,[1,5,6,52055]),(11,[52,56]),(12,[57]),(13,[58062]),(14,[1,5,6,63067]),(15,[8,37,68096]),(16,[4,10,97102]),(17,[9,103105]),(18,[106,107]),(19,[108]),(20,[7,109115]),(21,[1,5,6,116120])],obj:=[(19,[false,true]),(28,[false,false,true]),(30,[false,false,true]),(55,[false,false,true]),(65,[false,false,true]),(100,[false,false,true]),(118,[false,false,true])],ret:=[2,3] }
def z58:List (Nat×List (List Nat)):=qx [(7,[[],[],[0,1],[0,1],[0,1],[0,1],[]]),(14,[[],[0],[],[1002],[1002],[3,4],[]]),(15,[[],[],[0,1],[0,1],[0,1],[1004],[1004],[1006],[1006],[0,1],[1009],[1009],[1009],[1009],[1013],[1013],[1013],[1013],[1017],[1017],[1017],[1020],[1020],[1017],[1017],[],[],[],[27],[1028],[28],[]]),(21,[[],[0],[],[1002],[1002],[3,4],[]])]
def zqW:zg:=vl (x:=zu Tryz.prog Tryz.f179 zK1 z58 [])
def ztf:List zl:=[.c 2 true 63,.t 3]
def zyj:AFn:= .code zqW ztf 121 true
def zKA:zn:={ kill:=kx [(0,[0]),(1,[1,3007])],ret:=[2] }
def zFu:zg:=vl (x:=zu Tryz.prog Tryz.f203 zKA [] [])
def zO9:List zl:=[.c 2 true 6]
def zxQ:AFn:= .code zFu zO9 8 false
def zJR:zn:={ kill:=kx [(0,[0,4]),(1,[1,2,5019])],ret:=[4] }
def zEN:zg:=vl (x:=zu Tryz.prog Tryz.f188 zJR [] [])
def zOr:List zl:=[.t 4]
def zwO:AFn:= .code zEN zOr 20 true
def zKR:zn:={ kill:=kx [(0,[0,1]),(1,[3,5012]),(2,[2,13])],obj:=[(9,[false,false,true])],ret:=[4] }
def zFJ:zg:=vl (x:=zu Tryz.prog Tryz.f194 zKR [] [])
def zPo:List zl:=[.c 4 true 63]
def zx9:AFn:= .code zFJ zPo 14 true
def zr7:zn:={ kill:=kx [(0,[0,1,5]),(1,[10,11]),(2,[2,3,12,13]),(3,[12,14025]),(4,[2,3,26,27]),(5,[26]),(6,[28031]),(7,[7,33,34,56]),(8,[32,35051]),(9,[2,3,6,52,53]),(10,[52]),(11,[54,55]),(12,[57,58,69]),(13,[56,59068]),(14,[2,3,6,7,69,70]),(15,[6,32,71,72]),(16,[74077]),(17,[2,3,73,78,79]),(18,[3,73,81084]),(19,[2,80,85,86]),(20,[8,80,87093]),(21,[2,9,94,95])],obj:=[(79,[false,false,true]),(86,[false,false,true]),(90,[false,false,true])],exit:=[(0,[2,3,4]),(2,[2,3,4,6])],ret:=[4,5] }
def zBT:List (Nat×List (List Nat)):=qx [(8,[[],[],[0,1],[],[],[],[],[],[],[7,8],[],[],[8011],[8011],[8011],[8011],[],[]]),(13,[[],[],[0,1],[],[],[1004],[1004],[1006],[1004],[1004],[]])]
@[irreducible] def zsI:zg:=vl (x:=zZ Tryz.prog Tryz.f226 zr7 zBT 0 [])
@[irreducible] def zsJ:zg:=vl (x:=zZ Tryz.prog Tryz.f226 zr7 zBT 1 [zsI])
def zFs:zg:=vl (x:=zu Tryz.prog Tryz.f226 zr7 zBT [zsI,zsJ])
def zO7:List zl:=[.c 4 true 26,.t 5]
def zxM:AFn:= .code zFs zO7 96 true
def zKZ:zn:={ kill:=kx [(0,[0]),(1,[6008]),(2,[1,2,5,9020])],ret:=[4] }
def zFN:zg:=vl (x:=zu Tryz.prog Tryz.f204 zKZ [] [])
def zPt:List zl:=[.c 4 true 10]
def zyh:AFn:= .code zFN zPt 21 false
def zJU:zn:={ kill:=kx [(0,[0,2]),(1,[3,4]),(2,[1,5]),(3,[1,5013])],ret:=[2] }
def zEQ:zg:=vl (x:=zu Tryz.prog Tryz.f205 zJU [] [])
def zOu:List zl:=[.t 2]
def zwR:AFn:= .code zEQ zOu 14 true
def zKK:zn:={ kill:=kx [(0,[0,7]),(1,[1,8034]),(2,[2,3,35,36]),(3,[2,3,35,37048])],ret:=[6,7] }
def zuU:zg:=vl (x:=zu Tryz.prog Tryz.f206 zKK [] [])
def zCq:List zl:=[.c 6 true 2,.t 7]
def zx1:AFn:= .code zuU zCq 49 true
def zKM:zn:={ kill:=kx [(0,[0,2]),(1,[1,3005])],ret:=[2] }
def zFF:zg:=vl (x:=zu Tryz.prog Tryz.f207 zKM [] [])
def zPk:List zl:=[.t 2]
def zx3:AFn:= .code zFF zPk 6 true
def zJf:zn:={ kill:=kx [(0,[6]),(1,[7024]),(2,[0,1,2,25]),(3,[25032]),(4,[0,1,2,33,34]),(5,[0,1,2,33,35042])],ret:=[6] }
def zD9:zg:=vl (x:=zu Tryz.prog Tryz.f209 zJf [] [])
def zNM:List zl:=[.t 6]
def zvS:AFn:= .code zD9 zNM 43 true
def zJi:zn:={ kill:=kx [(0,[11]),(1,[0,1004,14019]),(2,[20,21]),(3,[22]),(4,[12,13,23025]),(5,[12,13,23,26])],ret:=[10,11] }
def zus:zg:=vl (x:=zu Tryz.prog Tryz.f208 zJi [] [])
def zB0:List zl:=[.c 10 true 7,.t 11]
def zvX:AFn:= .code zus zB0 27 true
def zJS:zn:={ kill:=kx [(0,[0,1,5]),(1,[8,9]),(2,[10]),(3,[2,3,6,11013]),(4,[6,11,14,15]),(5,[16]),(6,[2,3,7,17019]),(7,[7,17,21032]),(8,[2,3,20,33]),(9,[20,35041]),(10,[2,3,34,42]),(11,[34,44049]),(12,[2,3,43,50]),(13,[3,43,51058]),(14,[2,59])],ret:=[4,5] }
def z5T:List (Nat×List (List Nat)):=qx [(9,[[],[],[0,1],[0,1],[0,1],[0,1],[],[]]),(11,[[],[],[0,1],[0,1],[],[],[]])]
def zEO:zg:=vl (x:=zu Tryz.prog Tryz.f210 zJS z5T [])
def zOs:List zl:=[.c 4 true 8,.t 5]
def zwP:AFn:= .code zEO zOs 60 true
def zJu:zn:={ kill:=kx [(0,[0,1,5]),(1,[7009]),(2,[10]),(3,[2,3,6,11013]),(4,[2,3,6,11,14022])],obj:=[(22,[false,false,false,true])],ret:=[4,5] }
def z5H:List (Nat×List (List Nat)):=qx [(4,[[],[0],[0],[1002],[1002],[1004],[1004],[1002],[],[],[]])]
def zEn:zg:=vl (x:=zu Tryz.prog Tryz.f245 zJu z5H [])
def zN0:List zl:=[.c 4 true 3,.t 5]
def zv9:AFn:= .code zEn zN0 23 true
def zJx:zn:={ kill:=kx [(0,[0,1,4]),(1,[7,8]),(2,[9]),(3,[2,3,5,10,11]),(4,[5,10,12,13]),(5,[14]),(6,[2,3,6,15,16]),(7,[6,15,17021]),(8,[2,3,22]),(9,[2,3,22027]),(10,[28]),(11,[28])],ret:=[4] }
def z5K:List (Nat×List (List Nat)):=qx [(9,[[],[],[0,1],[0,1],[],[]])]
def zqN:zg:=vl (x:=zu Tryz.prog Tryz.f277 zJx z5K [])
def zs6:List zl:=[.t 4]
def zwe:AFn:= .code zqN zs6 29 true
def zzS:zn:={ kill:=kx [(0,[0]),(1,[3,9016]),(3,[17019]),(4,[21,22]),(5,[20,23036]),(6,[1,2,7,8,20,37])],exit:=[(0,[6,7])],ret:=[6] }
def zM4:List (Nat×List (List Nat)):=qx [(5,[[],[],[0,1],[1002],[0,1],[1004],[1004],[1004],[0,1],[1008],[1009],[1008],[1008],[],[]])]
@[irreducible] def zsq:zg:=vl (x:=zZ Tryz.prog Tryz.f278 zzS zM4 0 [])
def zux:zg:=vl (x:=zu Tryz.prog Tryz.f278 zzS zM4 [zsq])
def zB4:List zl:=[.c 6 true 3]
def zwf:AFn:= .code zux zB4 38 true
def zK3:zn:={ kill:=kx [(0,[0,1,8,9]),(1,[19,20]),(2,[21]),(3,[2004,10,22028]),(4,[10,22,29]),(5,[32]),(6,[2,30,31,33035]),(7,[36042]),(8,[12,43050]),(9,[11,51057]),(10,[3,4,58063]),(11,[30,31,65]),(12,[2004,64,66072]),(13,[3,64,73082]),(14,[83]),(15,[2,4,13016,84090]),(16,[14,16,84]),(17,[2,4,15,91096]),(18,[13,17,18,97099]),(19,[15,91,100]),(20,[2,4,13,101103]),(21,[101,104]),(22,[107]),(23,[2,4,13,105,106,108112]),(24,[106,114]),(25,[2,4,13,105,113,115119]),(26,[105,113,121]),(27,[2,4,13,120,122127]),(28,[2,120,128]),(29,[4,13,129,130])],obj:=[(24,[false,true]),(34,[false,true]),(63,[false,false,false,true]),(72,[false,false,false,false,true]),(77,[false,false,false,true]),(86,[false,true]),(94,[false,true]),(112,[false,false,false,true]),(119,[false,false,false,true]),(125,[false,true]),(127,[false,false,false,true])],ret:=[6,7,8,9] }
def z59:List (Nat×List (List Nat)):=qx [(10,[[],[0],[0,1],[0,1],[0,1],[0],[],[],[],[]]),(12,[[],[0],[0,1],[1002],[1002],[1002],[0],[],[],[],[]]),(18,[[],[0],[0,1],[1,2],[2],[],[]]),(20,[[],[0],[1],[],[],[]]),(23,[[],[0],[0,1],[1002],[0],[],[],[],[]]),(25,[[],[0],[0,1],[1002],[0],[],[],[],[]]),(27,[[],[0],[0,1],[0,1],[1003],[0],[],[],[],[]]),(29,[[],[0],[1],[],[],[]])]
def zFQ:zg:=vl (x:=zu Tryz.prog Tryz.f142 zK3 z59 [])
def zPw:List zl:=[.c 6 true 11,.c 7 true 63,.t 8,.t 9]
def zyl:AFn:= .code zFQ zPw 131 true
def zK2:zn:={ kill:=kx [(0,[0,4]),(1,[1,6008]),(2,[9]),(3,[2,5,10,11]),(4,[2,5,10,12,13])],ret:=[4] }
def zFP:zg:=vl (x:=zu Tryz.prog Tryz.f181 zK2 [] [])
def zPv:List zl:=[.t 4]
def zyk:AFn:= .code zFP zPv 14 true
def zz8:zn:={ kill:=kx [(0,[0,4]),(1,[5017]),(2,[1,2,18]),(3,[19025]),(4,[26031]),(5,[1,2,26,32])],loop:=[(3,[18])],exit:=[(0,[1])],ret:=[4] }
@[irreducible] def zAM:zg:=vl (x:=zZ Tryz.prog Tryz.f211 zz8 [] 0 [])
def zE7:zg:=vl (x:=zu Tryz.prog Tryz.f211 zz8 [] [zAM])
def zOL:List zl:=[.t 4]
def zxc:AFn:= .code zE7 zOL 33 true
def zJ8:zn:={ kill:=kx [(0,[0,5]),(1,[1,7009]),(2,[10015]),(3,[2,6,16,17]),(4,[2,6,16,18022])],ret:=[4,5] }
def zE8:zg:=vl (x:=zu Tryz.prog Tryz.f182 zJ8 [] [])
def zOM:List zl:=[.c 4 true 3,.t 5]
def zxf:AFn:= .code zE8 zOM 23 true
def zr8:zn:={ kill:=kx [(0,[0,3]),(1,[15019]),(2,[20]),(3,[21023]),(4,[24028]),(5,[1,4,5,29032]),(6,[29,33,34]),(7,[35042]),(8,[4,43,44]),(9,[45]),(10,[1,5,6,46050]),(11,[43,51056]),(13,[57,58]),(14,[59061]),(16,[62064]),(17,[66,67]),(18,[65,68077]),(19,[11,12,65,78081]),(20,[8,59,82088]),(21,[7,89092]),(22,[93,94]),(23,[4,7,89,95105]),(24,[107109]),(25,[106,110]),(27,[111113]),(28,[115,116]),(29,[114,117121]),(30,[14,122138]),(31,[6,9,13,114,139142]),(32,[9,106,144146]),(33,[143,147]),(34,[6,148151]),(35,[1,5,6,10,143,152155])],ghost:=[(17,[4000076]),(19,[6500076]),(28,[4000137]),(31,[6500137])],obj:=[(23,[false,true]),(32,[false,false,true]),(34,[false,false,true]),(48,[false,false,true]),(53,[false,true]),(61,[false,false,true]),(154,[false,false,true])],acc:=[10],exit:=[(0,[1,2,4,5,6,7,8,9,10,11]),(3,[1,2,5,6,10])],ret:=[2,3] }
def zBU:List (Nat×List (List Nat)):=qx [(10,[[],[0],[],[1002],[1002],[3,4],[]]),(18,[[],[],[0,1],[1002],[0,1],[0,1],[0,1],[0,1],[],[],[]]),(30,[[],[],[0,1],[0,1],[1003],[1003],[1005],[1005],[1007],[1008],[1007],[1007],[1007],[0,1],[0,1],[],[],[]])]
@[irreducible] def zkp:zg:=vl (x:=zZ Tryz.prog Tryz.f184 zr8 zBU 0 [])
@[irreducible] def zkq:zg:=vl (x:=zZ Tryz.prog Tryz.f184 zr8 zBU 1 [])
def zFR:zg:=vl (x:=zu Tryz.prog Tryz.f184 zr8 zBU [zkp,zkq])
def zPx:List zl:=[.c 2 true 63,.t 3]
def zym:AFn:= .code zFR zPx 156 true
def zK4:zn:={ kill:=kx [(0,[0,3,4]),(1,[11018]),(2,[8,19031]),(3,[1,6,10,32050]),(4,[5,7,9,51053])],obj:=[(28,[false,false,false,false,true]),(47,[false,false,false,false,false,false,true])],ret:=[2,3,4] }
def z6a:List (Nat×List (List Nat)):=qx [(1,[[],[],[],[],[],[1004],[1004],[1004],[1007],[1008],[6007],[]])]
def zFT:zg:=vl (x:=zu Tryz.prog Tryz.f213 zK4 z6a [])
def zPz:List zl:=[.c 2 true 8,.t 3,.t 4]
def zyo:AFn:= .code zFT zPz 54 true
def zz2:zn:={ kill:=kx [(0,[0,9,10]),(1,[17,18]),(2,[19]),(3,[1004,11,20022]),(4,[3,11,20,23034]),(5,[1,2,4,35,36]),(6,[1,2,35,37041]),(8,[42044]),(9,[46,47]),(10,[16,45,48058]),(11,[14,59,60]),(12,[15,61068]),(13,[4,12,13,45,69,70])],obj:=[(41,[false,false,false,true]),(55,[false,false,true]),(65,[false,false,true])],exit:=[(0,[4,8,12])],ret:=[8,9,10] }
def zNb:List (Nat×List (List Nat)):=qx [(10,[[],[],[0,1],[1002],[0,1],[0,1],[],[],[],[8],[8,9],[1010],[1011],[9,10],[10],[]])]
@[irreducible] def zsv:zg:=vl (x:=zZ Tryz.prog Tryz.f238 zz2 zNb 0 [])
def zEG:zg:=vl (x:=zu Tryz.prog Tryz.f238 zz2 zNb [zsv])
def zOk:List zl:=[.c 8 true 8,.t 9,.t 10]
def zwH:AFn:= .code zEG zOk 71 true
def zJZ:zn:={ kill:=kx [(0,[2]),(1,[0,3008])],ret:=[2] }
def zEW:zg:=vl (x:=zu Tryz.prog Tryz.f266 zJZ [] [])
def zOA:List zl:=[.t 2]
def zw0:AFn:= .code zEW zOA 9 true
def zzY:zn:={ kill:=kx [(0,[0,6]),(1,[12,13]),(2,[1003,14]),(3,[14]),(4,[1,15018]),(6,[19021]),(7,[23,24,38]),(8,[11,22,25033]),(9,[10,34037]),(10,[38045]),(11,[2,3,7009,22,46])],acc:=[7],exit:=[(0,[7])],ret:=[6] }
def zM8:List (Nat×List (List Nat)):=qx [(8,[[],[0],[0,1],[0],[0],[],[],[],[7],[1008],[8],[]])]
@[irreducible] def zAJ:zg:=vl (x:=zZ Tryz.prog Tryz.f267 zzY zM8 0 [])
def zEu:zg:=vl (x:=zu Tryz.prog Tryz.f267 zzY zM8 [zAJ])
def zN8:List zl:=[.t 6]
def zwu:AFn:= .code zEu zN8 47 true
def zzT:zn:={ kill:=kx [(0,[4]),(2,[6020]),(3,[21028]),(4,[29,30]),(5,[0,1,5,21,31])],acc:=[5],exit:=[(0,[5])],ret:=[4] }
@[irreducible] def zmH:zg:=vl (x:=zZ Tryz.prog Tryz.f292 zzT [] 0 [])
def zuy:zg:=vl (x:=zu Tryz.prog Tryz.f292 zzT [] [zmH])
def zB5:List zl:=[.t 4]
def zwi:AFn:= .code zuy zB5 32 true
def zJB:zn:={ kill:=kx [(0,[4]),(1,[7009]),(2,[10013]),(3,[14,15]),(4,[0,1,5,6,16,17]),(5,[0,5,16,18024]),(6,[25038]),(7,[1,6,39042]),(8,[1,6,39,43045])],ghost:=[(5,[26])],obj:=[(42,[false,false,true]),(45,[false,false,true])],ret:=[4] }
def z5M:List (Nat×List (List Nat)):=qx [(6,[[],[],[],[],[3],[],[],[4006],[4007],[4007],[4007],[4006],[4006],[],[]])]
def zEr:zg:=vl (x:=zu Tryz.prog Tryz.f304 zJB z5M [])
def zN5:List zl:=[.t 4]
def zwl:AFn:= .code zEr zN5 46 true
def zzW:zn:={ kill:=kx [(0,[4]),(1,[5018]),(2,[19025]),(3,[26028]),(4,[0,1,19,29])],exit:=[(0,[0])],ret:=[4] }
def zM6:List (Nat×List (List Nat)):=qx [(1,[[],[],[],[],[3],[],[],[4006],[4007],[4007],[4007],[4006],[4006],[],[]])]
@[irreducible] def zAH:zg:=vl (x:=zZ Tryz.prog Tryz.f306 zzW zM6 0 [])
def zuB:zg:=vl (x:=zu Tryz.prog Tryz.f306 zzW zM6 [zAH])
def zB8:List zl:=[.t 4]
def zwq:AFn:= .code zuB zB8 30 true
def zJD:zn:={ kill:=kx [(0,[6]),(1,[8,9]),(2,[0,1,2,10023]),(3,[7,24])],ghost:=[(2,[18])],ret:=[6] }
def z5N:List (Nat×List (List Nat)):=qx [(2,[[],[0],[0,1],[1002],[1003],[1004],[1003],[1003],[1007],[1008],[1007],[1007],[2,3],[2,3],[],[]])]
def zEt:zg:=vl (x:=zu Tryz.prog Tryz.f312 zJD z5N [])
def zN7:List zl:=[.t 6]
def zwp:AFn:= .code zEt zN7 25 true
def zzU:zn:={ kill:=kx [(0,[4]),(1,[6010]),(2,[11014]),(3,[15030]),(4,[31033]),(5,[31,34042]),(6,[0,1,5,43,44]),(7,[1,43,45048]),(8,[5,49]),(9,[0,1,11,50])],exit:=[(0,[0])],ret:=[4] }
def zM5:List (Nat×List (List Nat)):=qx [(3,[[],[],[0,1],[0,1],[],[],[],[6],[6],[],[],[7010],[7011],[7010],[7010],[],[]]),(5,[[],[0],[],[],[1003],[1004],[1003],[1003],[],[]])]
@[irreducible] def zsr:zg:=vl (x:=zZ Tryz.prog Tryz.f311 zzU zM5 0 [])
def zqO:zg:=vl (x:=zu Tryz.prog Tryz.f311 zzU zM5 [zsr])
def zs7:List zl:=[.t 4]
def zwm:AFn:= .code zqO zs7 51 true
def zJF:zn:={ kill:=kx [(0,[0,5]),(1,[1,7009]),(2,[10015]),(3,[2,6,16,17]),(4,[2,6,16,18022])],ret:=[4,5] }
def zuD:zg:=vl (x:=zu Tryz.prog Tryz.f293 zJF [] [])
def zCa:List zl:=[.c 4 true 8,.t 5]
def zws:AFn:= .code zuD zCa 23 true
def zJG:zn:={ kill:=kx [(0,[0,6]),(1,[12,13]),(2,[14]),(3,[1,2,7,15018]),(4,[7,15,19021]),(5,[22]),(6,[1,2,8,23025]),(7,[1,10,23,26032]),(8,[33043]),(9,[2,8,9,11,44052])],ret:=[4,5,6] }
def z5O:List (Nat×List (List Nat)):=qx [(8,[[],[],[0,1],[],[],[1004],[1004],[1006],[1006],[1004],[],[]]),(9,[[],[0],[],[1002],[1002],[1004],[1002],[1002],[1002],[4008],[],[]])]
def zuF:zg:=vl (x:=zu Tryz.prog Tryz.f250 zJG z5O [])
def zCc:List zl:=[.c 4 true 2,.c 5 true 7,.t 6]
def zwv:AFn:= .code zuF zCc 53 true
def zJz:zn:={ kill:=kx [(0,[4,5]),(1,[8,9]),(2,[10]),(3,[0,1,6,11,12]),(4,[1,6,11,13015]),(5,[16]),(6,[0,7,17]),(7,[0,7,17020])],ret:=[4,5] }
def zl1:zg:=vl (x:=zu Tryz.prog Tryz.f287 zJz [] [])
def zne:List zl:=[.t 4,.t 5]
def zwh:AFn:= .code zl1 zne 21 true
def zz4:zn:={ kill:=kx [(0,[0,13,14]),(1,[21,22]),(2,[23]),(3,[1006,15,24026]),(4,[15,24,27051]),(5,[1006,52,53]),(6,[52,54056]),(7,[1006,57,58]),(8,[57]),(9,[59,60]),(11,[61069]),(12,[71,72,80]),(13,[70,73079]),(14,[20,80088]),(15,[89098]),(16,[99109]),(17,[19,110117]),(18,[1006,16018,70,118,119])],acc:=[16],exit:=[(0,[6,12,16]),(1,[1,2,3,4,5,6,12,16,17,18])],ret:=[12,13,14] }
@[irreducible] def zko:zg:=vl (x:=zZ Tryz.prog Tryz.f247 zz4 [] 0 [])
def zER:zg:=vl (x:=zu Tryz.prog Tryz.f247 zz4 [] [zko])
def zOv:List zl:=[.c 12 true 8,.t 13,.t 14]
def zwS:AFn:= .code zER zOv 120 true
def zJ0:zn:={ kill:=kx [(0,[2]),(1,[0,3008])],ret:=[2] }
def zEX:zg:=vl (x:=zu Tryz.prog Tryz.f254 zJ0 [] [])
def zOB:List zl:=[.t 2]
def zw1:AFn:= .code zEX zOB 9 true
def zJk:zn:={ kill:=kx [(0,[0,6]),(1,[1003,7021])],ret:=[6] }
def zEf:zg:=vl (x:=zu Tryz.prog Tryz.f280 zJk [] [])
def zNS:List zl:=[.t 6]
def zvZ:AFn:= .code zEf zNS 22 true
def zJh:zn:={ kill:=kx [(0,[0,3]),(1,[5,6]),(2,[8,9]),(3,[1,4,7,10,11]),(4,[4,7,13015]),(5,[1,12,16]),(6,[12,18020]),(7,[1,17,21]),(8,[17,22025]),(9,[26029]),(10,[1,30])],ret:=[2,3] }
def zEc:zg:=vl (x:=zu Tryz.prog Tryz.f281 zJh [] [])
def zNP:List zl:=[.c 2 true 7,.t 3]
def zvV:AFn:= .code zEc zNP 31 true
def zJw:zn:={ kill:=kx [(0,[0,6]),(1,[10,11]),(2,[12]),(3,[1,2,7,13016]),(4,[7,13,17,18]),(5,[1,19021]),(6,[22]),(7,[2,8,9,23025]),(8,[2,8,9,23,26036])],ghost:=[(5,[6000018])],ret:=[4,5,6] }
def z5J:List (Nat×List (List Nat)):=qx [(8,[[],[0],[0],[1002],[1003],[1002],[],[1006],[1007],[1006],[1006],[8010],[],[]])]
def zuu:zg:=vl (x:=zu Tryz.prog Tryz.f265 zJw z5J [])
def zB2:List zl:=[.c 4 true 3,.c 5 true 7,.t 6]
def zwb:AFn:= .code zuu zB2 37 true
def zJp:zn:={ kill:=kx [(0,[4]),(1,[0,1,5013])],ret:=[4] }
def z5F:List (Nat×List (List Nat)):=qx [(1,[[],[0],[],[],[1003],[1004],[1004],[1003],[],[]])]
def zqM:zg:=vl (x:=zu Tryz.prog Tryz.f291 zJp z5F [])
def zs5:List zl:=[.t 4]
def zv4:AFn:= .code zqM zs5 14 true
def zzX:zn:={ kill:=kx [(0,[0,1,7]),(1,[14,15]),(2,[16]),(3,[2004,8,17019]),(4,[8,17,20,21]),(5,[22]),(6,[2004,9,23025]),(7,[9,23,27029]),(8,[2004,26,30]),(9,[26,32037]),(10,[2004,31,38]),(11,[31,40043]),(12,[2004,39,44]),(13,[39,46050]),(14,[2004,45,51]),(15,[45]),(16,[52067]),(17,[68070]),(18,[12,68,71080]),(19,[2,4,81090]),(20,[3,10,11,13,91098])],exit:=[(1,[2,3,4,6,10])],ret:=[6,7] }
def zM7:List (Nat×List (List Nat)):=qx [(16,[[],[0],[0],[0],[],[],[],[],[6,7],[],[],[],[],[7012],[7012],[],[]]),(19,[[],[],[0,1],[],[],[1004],[1005],[1004],[1004],[],[]])]
@[irreducible] def zAI:zg:=vl (x:=zZ Tryz.prog Tryz.f282 zzX zM7 0 [])
def zuE:zg:=vl (x:=zu Tryz.prog Tryz.f282 zzX zM7 [zAI])
def zCb:List zl:=[.c 6 true 2,.t 7]
def zwt:AFn:= .code zuE zCb 99 true
def zJy:zn:={ kill:=kx [(0,[1,4,5]),(1,[7,8]),(2,[9]),(3,[0,3,6,10,11]),(4,[6,10,13015]),(5,[0,3,12]),(6,[12,17019]),(7,[0,3,16]),(8,[16,21025]),(9,[0,3,20]),(10,[0,3,20,26033])],obj:=[(33,[false,false,true])],ret:=[4,5] }
def z5L:List (Nat×List (List Nat)):=qx [(10,[[],[],[0,1],[0,1],[],[1004],[1004],[],[],[]])]
def zEp:zg:=vl (x:=zu Tryz.prog Tryz.f288 zJy z5L [])
def zN3:List zl:=[.t 4,.t 5]
def zwg:AFn:= .code zEp zN3 34 true
def zAi:zn:={ kill:=kx [(0,[0]),(2,[4,5,11016]),(4,[17019]),(5,[21,22]),(6,[20,23027]),(7,[10,28040]),(8,[9,41046]),(9,[8,47053]),(10,[1,3,6,7,20,54])],obj:=[(13,[false,true]),(38,[false,true])],exit:=[(0,[2,3])],ret:=[2] }
@[irreducible] def zkr:zg:=vl (x:=zZ Tryz.prog Tryz.f185 zAi [] 0 [])
def zFS:zg:=vl (x:=zu Tryz.prog Tryz.f185 zAi [] [zkr])
def zPy:List zl:=[.c 2 true 7]
def zyn:AFn:= .code zFS zPy 55 true
def zJ5:zn:={ kill:=kx [(0,[0,2,3]),(1,[5041]),(2,[1,42]),(3,[42,43]),(4,[44050]),(5,[51057]),(6,[58064]),(7,[1,65070]),(8,[71077]),(9,[4,78])],obj:=[(48,[false,false,false,true]),(55,[false,false,false,true]),(62,[false,false,false,true]),(75,[false,false,false,true])],ret:=[2,3] }
def zE5:zg:=vl (x:=zu Tryz.prog Tryz.f138 zJ5 [] [])
def zOJ:List zl:=[.t 2,.t 3]
def zw9:AFn:= .code zE5 zOJ 79 true
def zJe:zn:={ kill:=kx [(0,[2]),(1,[0,3006])],ret:=[2] }
def zD8:zg:=vl (x:=zu Tryz.prog Tryz.f174 zJe [] [])
def zNL:List zl:=[.t 2]
def zvR:AFn:= .code zD8 zNL 7 true
def zK5:zn:={ kill:=kx [(0,[0,1,8,9]),(1,[21,22]),(2,[23]),(3,[2004,10,24030]),(4,[10,24,31]),(5,[34]),(6,[32,33,35045]),(7,[12,46]),(8,[11,47054]),(9,[55]),(10,[2004,13,56062]),(11,[2,47,63065]),(12,[66070]),(13,[11,71076]),(14,[3,4,11,71,77,78]),(15,[32,33,80]),(16,[2004,79,81087]),(17,[3,79,88097]),(18,[98]),(19,[2,4,14017,99105]),(20,[15,17,99]),(21,[2,4,16,106111]),(22,[14,18,19,112114]),(23,[16,106,115]),(24,[2,4,14,116118]),(25,[116,119127]),(26,[2,128,129]),(27,[4,14,130,131]),(28,[128,132]),(29,[133138]),(30,[139,140]),(31,[141145]),(32,[2,4,14,20,141,146150])],obj:=[(26,[false,true]),(54,[false,false,false,true]),(60,[false,false,false,true]),(76,[false,false,false,true]),(87,[false,false,false,false,true]),(92,[false,false,false,true]),(101,[false,true]),(109,[false,true]),(135,[false,true]),(150,[false,false,false,true])],ret:=[6,7,8,9] }
def z6b:List (Nat×List (List Nat)):=qx [(8,[[],[0],[0],[0],[0],[1004],[],[1006],[]]),(10,[[],[0],[0,1],[1002],[0],[1004],[1004],[5,6],[5,6],[],[]]),(14,[[],[0],[1],[],[],[]]),(16,[[],[0],[0,1],[1002],[1002],[1002],[0],[],[],[],[]]),(22,[[],[0],[0,1],[1,2],[2],[],[]]),(24,[[],[0],[1],[],[],[]]),(25,[[],[],[],[],[],[1004],[1004],[1004],[],[]]),(27,[[],[0],[1],[],[],[]]),(32,[[],[0],[0,1],[1002],[0],[],[],[],[]])]
def zFU:zg:=vl (x:=zu Tryz.prog Tryz.f143 zK5 z6b [])
def zPA:List zl:=[.c 6 true 11,.c 7 true 63,.t 8,.t 9]
def zyp:AFn:= .code zFU zPA 151 true
def zJ6:zn:={ kill:=kx [(0,[3]),(1,[7,8]),(2,[0,9,10]),(3,[9]),(4,[11016]),(5,[17022]),(6,[23028]),(7,[29034]),(8,[35039]),(9,[0,5,6,40046]),(10,[4,47,48]),(11,[4,47,49])],obj:=[(37,[false,true])],ret:=[2,3] }
def zE6:zg:=vl (x:=zu Tryz.prog Tryz.f92 zJ6 [] [])
def zOK:List zl:=[.c 2 true 4,.t 3]
def zxa:AFn:= .code zE6 zOK 50 true
def zzN:zn:={ kill:=kx [(0,[6,7]),(1,[10018]),(2,[0,1,2,19]),(3,[19030]),(4,[0,1,2,31]),(5,[31]),(7,[32,33]),(8,[35,36]),(9,[34,37046]),(10,[0,1,2,8,9,34,47])],exit:=[(0,[8])],ret:=[6,7] }
@[irreducible] def zg0:zg:=vl (x:=zZ Tryz.prog Tryz.f139 zzN [] 0 [])
def zjO:zg:=vl (x:=zu Tryz.prog Tryz.f139 zzN [] [zg0])
def zkX:List zl:=[.t 6,.t 7]
def zvO:AFn:= .code zjO zkX 48 true
def zJd:zn:={ kill:=kx [(0,[4]),(1,[0,1,5009])],ret:=[4] }
def zur:zg:=vl (x:=zu Tryz.prog Tryz.f140 zJd [] [])
def zBZ:List zl:=[.t 4]
def zvQ:AFn:= .code zur zBZ 10 true
def zK7:zn:={ kill:=kx [(0,[2]),(1,[0]),(2,[5]),(3,[3,4]),(4,[3,4,7]),(5,[6]),(6,[6])],ret:=[2] }
def zFW:zg:=vl (x:=zu Tryz.prog Tryz.f186 zK7 [] [])
def zPC:List zl:=[.t 2]
def zyr:AFn:= .code zFW zPC 8 true
def zK6:zn:={ kill:=kx [(0,[0,3]),(1,[9011]),(2,[12020]),(3,[1,4,21024]),(4,[21,25030]),(5,[31040]),(6,[41045]),(7,[46,47]),(8,[8,48]),(9,[7,49052]),(10,[53,54]),(11,[55057]),(12,[58067]),(13,[6,7,49,58,68070]),(14,[1,4,5,71075])],obj:=[(11,[false,true]),(24,[false,false,true]),(30,[false,false,true]),(43,[false,true]),(73,[false,false,true])],ret:=[2,3] }
def z6c:List (Nat×List (List Nat)):=qx [(2,[[],[],[],[],[],[1004],[1004],[1004],[],[]]),(4,[[],[0],[0],[0],[0],[],[1005],[]]),(14,[[],[0],[],[1002],[1002],[3,4],[]])]
def zFV:zg:=vl (x:=zu Tryz.prog Tryz.f187 zK6 z6c [])
def zPB:List zl:=[.c 2 true 63,.t 3]
def zyq:AFn:= .code zFV zPB 76 true
def zK8:zn:={ kill:=kx [(0,[0,3]),(1,[6013]),(2,[14,15]),(3,[18]),(4,[1,4,5,16,17,19028]),(5,[16,17,30]),(6,[1,4,5,29,31043]),(7,[1,4,5,29,44056])],obj:=[(26,[false,false,false,false,true]),(41,[false,false,false,false,false,true]),(54,[false,false,false,false,false,true])],ret:=[2,3] }
def z6d:List (Nat×List (List Nat)):=qx [(1,[[],[],[],[],[],[1004],[1004],[1004],[1007],[1008],[6007],[]])]
def zFX:zg:=vl (x:=zu Tryz.prog Tryz.f189 zK8 z6d [])
def zPD:List zl:=[.c 2 true 8,.t 3]
def zys:AFn:= .code zFX zPD 57 true
def zJH:zn:={ kill:=kx [(0,[0,1,9]),(1,[2,3,11015]),(2,[16]),(3,[4,5,10,17019]),(4,[5,10,17,20029]),(5,[4,30])],ret:=[8,9] }
def zEy:zg:=vl (x:=zu Tryz.prog Tryz.f215 zJH [] [])
def zOc:List zl:=[.c 8 true 8,.t 9]
def zwz:AFn:= .code zEy zOc 31 true
def zJW:zn:={ kill:=kx [(0,[0,1,10]),(1,[12,13]),(2,[14]),(3,[2006,11,15,16]),(4,[4,11,15,17027]),(5,[2,3,5,6,28]),(6,[2,3,5,6,28033]),(7,[34]),(8,[34])],ret:=[10] }
def zEV:zg:=vl (x:=zu Tryz.prog Tryz.f249 zJW [] [])
def zOz:List zl:=[.t 10]
def zwX:AFn:= .code zEV zOz 35 true
def zJN:zn:={ kill:=kx [(0,[0,1,8]),(1,[11022]),(2,[2005,23]),(3,[4,23031]),(4,[2,3,5,9,10,32061])],ret:=[8] }
def zEI:zg:=vl (x:=zu Tryz.prog Tryz.f285 zJN [] [])
def zOm:List zl:=[.t 8]
def zwJ:AFn:= .code zEI zOm 62 true
def zJP:zn:={ kill:=kx [(0,[0,1,11]),(1,[2,3,16022]),(2,[23]),(3,[4006,12,24026]),(4,[6,12,15,24,27035]),(5,[13,36,37]),(6,[4,38,39]),(7,[14,40048]),(8,[14,40,49056]),(9,[5,57])],ret:=[10,11] }
def z5S:List (Nat×List (List Nat)):=qx [(1,[[],[0],[0,1],[1002],[1003],[1003],[],[]])]
def zEL:zg:=vl (x:=zu Tryz.prog Tryz.f216 zJP z5S [])
def zOp:List zl:=[.c 10 true 8,.t 11]
def zwM:AFn:= .code zEL zOp 58 true
end Go.Proofs.YtnmcgdpmikhohaaGreat
