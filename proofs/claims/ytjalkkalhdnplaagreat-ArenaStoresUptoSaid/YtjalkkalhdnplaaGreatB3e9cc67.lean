/-
  Functions of the program, as the calculus has them.
-/
import Derived.Test.YtjalkkalhdnplaaGreatBc66d388
import Derived.Test.YtjalkkalhdnplaaGreatProg
set_option linter.unusedSimpArgs false
set_option linter.unusedVariables false
set_option maxHeartbeats 10000000
set_option maxRecDepth 100000
namespace Go.Proofs.YtjalkkalhdnplaaGreat
open Go Go.Sim
def zw6:=wl Tryz.f299 {obj:=[(59,[false,false,false,false,true]),(79,[false,true])]} []
def zMQ:=af Tryz.prog true Tryz.f299 zw6
@[irreducible] def zr6:=wv Tryz.f318 {} 0 []
def zwW:=wl Tryz.f318 {} [zr6]
def zMG:=af Tryz.prog true Tryz.f318 zwW
def zwu:=wl Tryz.f319 {} []
def zMe:=af Tryz.prog true Tryz.f319 zwu
@[irreducible] def zod:=wv Tryz.f12 {} 0 []
@[irreducible] def zoe:=wv Tryz.f12 {} 1 []
def zvO:=wl Tryz.f12 {} [zod,zoe]
def zLy:=af Tryz.prog true Tryz.f12 zvO
def zvV:=wl Tryz.f47 {} []
def zLF:=af Tryz.prog true Tryz.f47 zvV
def zv6:=wl Tryz.f48 {} []
def zLQ:=af Tryz.prog true Tryz.f48 zv6
def zv9:=wl Tryz.f49 {} []
def zLT:=af Tryz.prog true Tryz.f49 zv9
def zve:=wl Tryz.f52 {} []
def zKY:=af Tryz.prog true Tryz.f52 zve
def zvi:=wl Tryz.f53 {} []
def zK2:=af Tryz.prog true Tryz.f53 zvi
def zxp:=wl Tryz.f157 {obj:=[(19,[false,true]),(28,[false,false,true]),(30,[false,false,true]),(55,[false,false,true]),(65,[false,false,true]),(100,[false,false,true]),(118,[false,false,true])]} []
def zM9:=af Tryz.prog true Tryz.f157 zxp
def zwX:=wl Tryz.f209 {} []
def zMH:=af Tryz.prog false Tryz.f209 zwX
def zvY:=wl Tryz.f167 {} []
def zLI:=af Tryz.prog true Tryz.f167 zvY
def zxf:=wl Tryz.f174 {obj:=[(9,[false,false,true])]} []
def zMZ:=af Tryz.prog true Tryz.f174 zxf
def zrq:zal:={obj:=[(79,[false,false,true]),(86,[false,false,true]),(90,[false,false,true])]}
@[irreducible] def zot:=wv Tryz.f235 zrq 0 []
@[irreducible] def zou:=wv Tryz.f235 zrq 1 [zot]
def zwT:=wl Tryz.f235 zrq [zot,zou]
def zMD:=af Tryz.prog true Tryz.f235 zwT
def zxn:=wl Tryz.f210 {} []
def zM7:=af Tryz.prog false Tryz.f210 zxn
def zv2:=wl Tryz.f211 {} []
def zLM:=af Tryz.prog true Tryz.f211 zv2
def zw8:=wl Tryz.f212 {} []
def zMS:=af Tryz.prog true Tryz.f212 zw8
def zxa:=wl Tryz.f213 {} []
def zMU:=af Tryz.prog true Tryz.f213 zxa
def zu8:=wl Tryz.f198 {} []
def zKS:=af Tryz.prog true Tryz.f198 zu8
def zvd:=wl Tryz.f214 {} []
def zKX:=af Tryz.prog true Tryz.f214 zvd
def zvZ:=wl Tryz.f215 {} []
def zLJ:=af Tryz.prog true Tryz.f215 zvZ
def zvn:=wl Tryz.f272 {obj:=[(22,[false,false,false,true])]} []
def zK7:=af Tryz.prog true Tryz.f272 zvn
def zvt:=wl Tryz.f300 {} []
def zLd:=af Tryz.prog true Tryz.f300 zvt
@[irreducible] def zoa:=wv Tryz.f301 {} 0 []
def zvu:=wl Tryz.f301 {} [zoa]
def zLe:=af Tryz.prog true Tryz.f301 zvu
def zxr:=wl Tryz.f101 {obj:=[(24,[false,true]),(34,[false,true]),(63,[false,false,false,true]),(72,[false,false,false,false,true]),(77,[false,false,false,true]),(86,[false,true]),(94,[false,true]),(112,[false,false,false,true]),(119,[false,false,false,true]),(125,[false,true]),(127,[false,false,false,true])]} []
def zNb:=af Tryz.prog true Tryz.f101 zxr
def zxq:=wl Tryz.f159 {} []
def zNa:=af Tryz.prog true Tryz.f159 zxq
@[irreducible] def zrY:=wv Tryz.f216 {} 0 []
def zwm:=wl Tryz.f216 {} [zrY]
def zL6:=af Tryz.prog true Tryz.f216 zwm
def zwq:=wl Tryz.f160 {} []
def zMa:=af Tryz.prog true Tryz.f160 zwq
def zrr:zal:={ghost:=[(17,[4000076]),(19,[6500076]),(28,[4000137]),(31,[6500137])],obj:=[(23,[false,true]),(32,[false,false,true]),(34,[false,false,true]),(48,[false,false,true]),(53,[false,true]),(61,[false,false,true]),(154,[false,false,true])],acc:=[10]}
@[irreducible] def zj1:=wv Tryz.f162 zrr 0 []
@[irreducible] def zj2:=wv Tryz.f162 zrr 1 []
def zxs:=wl Tryz.f162 zrr [zj1,zj2]
def zNc:=af Tryz.prog true Tryz.f162 zxs
def zxu:=wl Tryz.f220 {obj:=[(28,[false,false,false,false,true]),(47,[false,false,false,false,false,false,true])]} []
def zNe:=af Tryz.prog true Tryz.f220 zxu
def zBm:zal:={obj:=[(41,[false,false,false,true]),(55,[false,false,true]),(65,[false,false,true])]}
@[irreducible] def zof:=wv Tryz.f246 zBm 0 []
def zvR:=wl Tryz.f246 zBm [zof]
def zLB:=af Tryz.prog true Tryz.f246 zvR
def zwb:=wl Tryz.f285 {} []
def zLV:=af Tryz.prog true Tryz.f285 zwb
def zBj:zal:={acc:=[7]}
@[irreducible] def zrU:=wv Tryz.f286 zBj 0 []
def zvD:=wl Tryz.f286 zBj [zrU]
def zLn:=af Tryz.prog true Tryz.f286 zvD
def zBi:zal:={acc:=[5]}
@[irreducible] def zlN:=wv Tryz.f309 zBi 0 []
def zqk:=wl Tryz.f309 zBi [zlN]
def zAl:=af Tryz.prog true Tryz.f309 zqk
def zvx:=wl Tryz.f320 {ghost:=[(5,[26])],obj:=[(42,[false,false,true]),(45,[false,false,true])]} []
def zLh:=af Tryz.prog true Tryz.f320 zvx
@[irreducible] def zrS:=wv Tryz.f321 {} 0 []
def zqn:=wl Tryz.f321 {} [zrS]
def zAp:=af Tryz.prog true Tryz.f321 zqn
def zvz:=wl Tryz.f325 {ghost:=[(2,[18])]} []
def zLj:=af Tryz.prog true Tryz.f325 zvz
@[irreducible] def zob:=wv Tryz.f324 {} 0 []
def znb:=wl Tryz.f324 {} [zob]
def zAn:=af Tryz.prog true Tryz.f324 znb
def zvB:=wl Tryz.f310 {} []
def zLl:=af Tryz.prog true Tryz.f310 zvB
def zvE:=wl Tryz.f276 {} []
def zLo:=af Tryz.prog true Tryz.f276 zvE
def zlc:=wl Tryz.f305 {} []
def zAj:=af Tryz.prog true Tryz.f305 zlc
def zBo:zal:={acc:=[16]}
@[irreducible] def zjZ:=wv Tryz.f274 zBo 0 []
def zv3:=wl Tryz.f274 zBo [zjZ]
def zLN:=af Tryz.prog true Tryz.f274 zv3
def zwc:=wl Tryz.f278 {} []
def zLW:=af Tryz.prog true Tryz.f278 zwc
def zvf:=wl Tryz.f302 {} []
def zKZ:=af Tryz.prog true Tryz.f302 zvf
def zvb:=wl Tryz.f303 {} []
def zKV:=af Tryz.prog true Tryz.f303 zvb
def zvp:=wl Tryz.f284 {ghost:=[(5,[6000018])]} []
def zK9:=af Tryz.prog true Tryz.f284 zvp
def zna:=wl Tryz.f308 {} []
def zAh:=af Tryz.prog true Tryz.f308 zna
@[irreducible] def zrT:=wv Tryz.f287 {} 0 []
def zvC:=wl Tryz.f287 {} [zrT]
def zLm:=af Tryz.prog true Tryz.f287 zvC
def zvv:=wl Tryz.f306 {obj:=[(33,[false,false,true])]} []
def zLf:=af Tryz.prog true Tryz.f306 zvv
def zBt:zal:={obj:=[(13,[false,true]),(38,[false,true])]}
@[irreducible] def zj3:=wv Tryz.f163 zBt 0 []
def zxt:=wl Tryz.f163 zBt [zj3]
def zNd:=af Tryz.prog true Tryz.f163 zxt
def zwk:=wl Tryz.f203 {obj:=[(48,[false,false,false,true]),(55,[false,false,false,true]),(62,[false,false,false,true]),(75,[false,false,false,true])]} []
def zL4:=af Tryz.prog true Tryz.f203 zwk
def zu7:=wl Tryz.f270 {} []
def zKR:=af Tryz.prog true Tryz.f270 zu7
def zxv:=wl Tryz.f102 {obj:=[(26,[false,true]),(54,[false,false,false,true]),(60,[false,false,false,true]),(76,[false,false,false,true]),(87,[false,false,false,false,true]),(92,[false,false,false,true]),(101,[false,true]),(109,[false,true]),(135,[false,true]),(150,[false,false,false,true])]} []
def zNf:=af Tryz.prog true Tryz.f102 zxv
def zwl:=wl Tryz.f164 {obj:=[(37,[false,true])]} []
def zL5:=af Tryz.prog true Tryz.f164 zwl
@[irreducible] def zgY:=wv Tryz.f221 {} 0 []
def zju:=wl Tryz.f221 {} [zgY]
def zAd:=af Tryz.prog true Tryz.f221 zju
def zqi:=wl Tryz.f222 {} []
def zAf:=af Tryz.prog true Tryz.f222 zqi
def zxx:=wl Tryz.f165 {} []
def zNh:=af Tryz.prog true Tryz.f165 zxx
def zxw:=wl Tryz.f166 {obj:=[(11,[false,true]),(24,[false,false,true]),(30,[false,false,true]),(43,[false,true]),(73,[false,false,true])]} []
def zNg:=af Tryz.prog true Tryz.f166 zxw
def zxy:=wl Tryz.f168 {obj:=[(26,[false,false,false,false,true]),(41,[false,false,false,false,false,true]),(54,[false,false,false,false,false,true])]} []
def zNi:=af Tryz.prog true Tryz.f168 zxy
def zvJ:=wl Tryz.f223 {} []
def zLt:=af Tryz.prog true Tryz.f223 zvJ
def zv8:=wl Tryz.f275 {} []
def zLS:=af Tryz.prog true Tryz.f275 zv8
def zvT:=wl Tryz.f304 {} []
def zLD:=af Tryz.prog true Tryz.f304 zvT
def zvW:=wl Tryz.f224 {} []
def zLG:=af Tryz.prog true Tryz.f224 zvW
def zvo:=wl Tryz.f277 {obj:=[(31,[false,false,false,true])]} []
def zK8:=af Tryz.prog true Tryz.f277 zvo
def zvM:=wl Tryz.f225 {} []
def zLw:=af Tryz.prog true Tryz.f225 zvM
def zvA:=wl Tryz.f279 {ghost:=[(12,[98])]} []
def zLk:=af Tryz.prog true Tryz.f279 zvA
def zxz:=wl Tryz.f103 {obj:=[(20,[false,true]),(27,[false,false,false,true]),(45,[false,false,false,true]),(58,[false,false,false,false,true]),(65,[false,true]),(83,[false,false,false,true])]} []
def zNj:=af Tryz.prog true Tryz.f103 zxz
def zxA:=wl Tryz.f104 {obj:=[(23,[false,true]),(45,[false,false,false,true]),(65,[false,false,false,true]),(92,[false,true]),(129,[false,true])]} []
def zNk:=af Tryz.prog true Tryz.f104 zxA
@[irreducible] def zr3:=wv Tryz.f11 {} 0 []
def zwv:=wl Tryz.f11 {} [zr3]
def zMf:=af Tryz.prog true Tryz.f11 zwv
def zj0:zw:=
 (.seq (.seq (.ops [] [oM 11 5,oM 12 0,oP 13 (.len (.t 12)),oP 14 (.bin .lss (.t 11) (.t 13))] [11,12,13])
 (.cond (.t 14) .skip (.exit 0 [])))
 (.seq (.block 1 (.seq (.draw [] [oM 17 0,oM 18 5,oP 19 (.iad 4 (.t 17) (.t 18)),oP 20 (.ld true 4 (.t 19)),oM 21 1,oM 22 5,oP 23 (.iad 4 (.t 21) (.t 22)),oP 24 (.ld true 4 (.t 23)),oP 25 (.eqs true 4 [(0,0),(1,0),(2,0),(3,0)] (.t 20) (.t 24))] [[],[0],[],[],[0,1,2,3],[0,1,2,3,4],[0,1,2,3],[0,1,2,3],[]] [14,17,18,19,20,21,22,23,24])
 (.cond (.t 25) (.seq (.ops [] [oP 4 (.mv (.c (.d (.bool false))))] [0,1,5,25])
 (.ret [4])) .skip)))
 (.ops [] [oM 15 5,oP 16 (.bin .add (.t 15) (kI 1)),oM 5 16] [15,16,25])))
def zlf:zw:=
 (.seq (.ops [] [oP 4 (.mv (.c (.d (.bool false))))] [4])
 (.seq (.seq (.ops [] [oM 6 0,oP 7 (.len (.t 6)),oM 8 1,oP 9 (.len (.t 8)),oP 10 (.bin .neq (.t 7) (.t 9))] [6,7,8,9])
 (.cond (.t 10) (.seq (.ops [] [oP 4 (.mv (.c (.d (.bool false))))] [0,1,10])
 (.ret [4])) .skip))
 (.seq (.seq (.ops [] [oP 5 (.mv (kI 0))] [10])
 (.block 0 (.loop [] zj0)))
 (.seq (.ops [] [oP 4 (.mv (.c (.d (.bool true))))] [0,1,5,14])
 (.ret [4])))))
def zAu:=af Tryz.prog true Tryz.f62 zlf
@[irreducible] def zor:=wv Tryz.f169 {} 0 []
def zww:=wl Tryz.f169 {} [zor]
def zMg:=af Tryz.prog true Tryz.f169 zww
def zwx:=wl Tryz.f226 {} []
def zMh:=af Tryz.prog true Tryz.f226 zwx
def zxB:=wl Tryz.f105 {obj:=[(24,[false,true]),(33,[false,true]),(50,[false,false,false,true]),(55,[false,false,false,true]),(64,[false,true]),(72,[false,true]),(107,[false,false,false,true])]} []
def zNl:=af Tryz.prog true Tryz.f105 zxB
def zBu:zal:={ghost:=[(15,[4000094]),(22,[6500094])],obj:=[(22,[false,true]),(28,[false,false,true]),(30,[false,false,true]),(38,[false,false,true]),(50,[false,false,false,true]),(59,[false,false,true]),(100,[false,false,true]),(112,[false,false,true])]}
@[irreducible] def zj4:=wv Tryz.f170 zBu 0 []
def zxC:=wl Tryz.f170 zBu [zj4]
def zNm:=af Tryz.prog true Tryz.f170 zxC
def zxD:=wl Tryz.f171 {} []
def zNn:=af Tryz.prog true Tryz.f171 zxD
def zBr:zal:={ghost:=[(10,[4000070])],acc:=[11]}
@[irreducible] def zgu:=wv Tryz.f227 zBr 0 []
def zwh:=wl Tryz.f227 zBr [zgu]
def zL1:=af Tryz.prog true Tryz.f227 zwh
def zvh:=wl Tryz.f228 {} []
def zK1:=af Tryz.prog true Tryz.f228 zvh
def zvg:=wl Tryz.f229 {} []
def zK0:=af Tryz.prog true Tryz.f229 zvg
def zBk:zal:={obj:=[(44,[false,false,true])]}
@[irreducible] def zlO:=wv Tryz.f230 zBk 0 []
def zvI:=wl Tryz.f230 zBk [zlO]
def zLs:=af Tryz.prog true Tryz.f230 zvI
def zxE:=wl Tryz.f106 {obj:=[(26,[false,true]),(41,[false,false,true]),(42,[false,false,false,true]),(47,[false,false,false,true]),(56,[false,true]),(64,[false,true]),(71,[false,false,true]),(79,[false,true]),(87,[false,false,false,true])]} []
def zNo:=af Tryz.prog true Tryz.f106 zxE
def zxl:=wl Tryz.f172 {} []
def zM5:=af Tryz.prog true Tryz.f172 zxl
def zxH:=wl Tryz.f173 {obj:=[(16,[false,true]),(19,[false,true]),(52,[false,false,true]),(59,[false,false,true]),(65,[false,false,false,true]),(67,[false,true])]} []
def zNs:=af Tryz.prog true Tryz.f173 zxH
def zxI:=wl Tryz.f231 {obj:=[(6,[false,true])]} []
def zNt:=af Tryz.prog true Tryz.f231 zxI
def zxF:=wl Tryz.f234 {} []
def zNp:=af Tryz.prog true Tryz.f234 zxF
def zvP:=wl Tryz.f232 {obj:=[(21,[false,false,true])]} []
def zLz:=af Tryz.prog true Tryz.f232 zvP
def zvl:=wl Tryz.f280 {ghost:=[(7,[6000025])],obj:=[(25,[false,true]),(35,[false,false,false,true])]} []
def zK5:=af Tryz.prog true Tryz.f280 zvl
def zxG:=wl Tryz.f233 {} []
def zNq:=af Tryz.prog true Tryz.f233 zxG
def zxJ:=wl Tryz.f107 {obj:=[(26,[false,true]),(41,[false,false,true]),(42,[false,false,false,true]),(47,[false,false,false,true]),(56,[false,true]),(64,[false,true]),(71,[false,false,true]),(79,[false,true]),(87,[false,false,false,true])]} []
def zNu:=af Tryz.prog true Tryz.f107 zxJ
def zxM:=wl Tryz.f175 {obj:=[(14,[false,true]),(17,[false,true]),(45,[false,false,true]),(52,[false,false,false,true]),(54,[false,true]),(56,[false,true])]} []
def zNx:=af Tryz.prog true Tryz.f175 zxM
def zxN:=wl Tryz.f236 {obj:=[(6,[false,true])]} []
def zNy:=af Tryz.prog true Tryz.f236 zxN
def zxK:=wl Tryz.f239 {} []
def zNv:=af Tryz.prog true Tryz.f239 zxK
def zvQ:=wl Tryz.f237 {obj:=[(41,[false,false,false,true]),(50,[false,false,false,true]),(55,[false,true]),(59,[false,false,false,true]),(62,[false,true]),(66,[false,false,false,true])]} []
def zLA:=af Tryz.prog true Tryz.f237 zvQ
def zro:zal:={obj:=[(41,[false,false,true]),(80,[false,false,false,true])]}
@[irreducible] def zlR:=wv Tryz.f283 zro 0 []
@[irreducible] def zlS:=wv Tryz.f283 zro 1 []
def zv7:=wl Tryz.f283 zro [zlR,zlS]
def zLR:=af Tryz.prog true Tryz.f283 zv7
def zxL:=wl Tryz.f238 {} []
def zNw:=af Tryz.prog true Tryz.f238 zxL
def zxO:=wl Tryz.f108 {obj:=[(26,[false,true]),(41,[false,false,true]),(42,[false,false,false,true]),(47,[false,false,false,true]),(56,[false,true]),(64,[false,true]),(71,[false,false,true]),(79,[false,true]),(87,[false,false,false,true])]} []
def zNz:=af Tryz.prog true Tryz.f108 zxO
def zxR:=wl Tryz.f176 {obj:=[(14,[false,true]),(17,[false,true]),(23,[false,false,true]),(36,[false,true]),(42,[false,false,false,true]),(44,[false,true]),(46,[false,true])]} []
def zNC:=af Tryz.prog true Tryz.f176 zxR
def zxS:=wl Tryz.f240 {obj:=[(6,[false,true])]} []
def zND:=af Tryz.prog true Tryz.f240 zxS
def zxP:=wl Tryz.f243 {} []
def zNA:=af Tryz.prog true Tryz.f243 zxP
def zBp:zal:={obj:=[(60,[false,true]),(62,[false,true]),(92,[false,true]),(96,[false,false,false,true])]}
@[irreducible] def zoh:=wv Tryz.f241 zBp 0 []
def zv4:=wl Tryz.f241 zBp [zoh]
def zLO:=af Tryz.prog true Tryz.f241 zv4
def zxQ:=wl Tryz.f242 {} []
def zNB:=af Tryz.prog true Tryz.f242 zxQ
def zxT:=wl Tryz.f109 {obj:=[(26,[false,true]),(39,[false,false,false,true]),(44,[false,false,false,true]),(53,[false,true]),(61,[false,true]),(68,[false,false,true]),(76,[false,true]),(84,[false,false,false,true])]} []
def zNE:=af Tryz.prog true Tryz.f109 zxT
def zBv:zal:={ghost:=[(22,[4000115]),(24,[6500115])],obj:=[(21,[false,true]),(36,[false,false,true]),(67,[false,false,true]),(90,[false,false,false,false,true]),(100,[false,false,true])]}
@[irreducible] def zj5:=wv Tryz.f177 zBv 0 []
def zxU:=wl Tryz.f177 zBv [zj5]
def zNF:=af Tryz.prog true Tryz.f177 zxU
def zBq:zal:={ghost:=[(9,[4000049])]}
@[irreducible] def zhL:=wv Tryz.f244 zBq 0 []
def zwd:=wl Tryz.f244 zBq [zhL]
def zLX:=af Tryz.prog true Tryz.f244 zwd
def zrn:zal:={obj:=[(24,[false,true]),(26,[false,true]),(47,[false,false,true]),(74,[false,false,true])]}
@[irreducible] def zlP:=wv Tryz.f245 zrn 0 []
@[irreducible] def zlQ:=wv Tryz.f245 zrn 1 []
def zvN:=wl Tryz.f245 zrn [zlP,zlQ]
def zLx:=af Tryz.prog true Tryz.f245 zvN
def zxV:=wl Tryz.f110 {obj:=[(26,[false,true]),(42,[false,false,false,true]),(47,[false,false,false,true]),(56,[false,true]),(64,[false,true]),(71,[false,false,true]),(79,[false,true]),(87,[false,false,false,true])]} []
def zNG:=af Tryz.prog true Tryz.f110 zxV
def zxW:=wl Tryz.f178 {obj:=[(14,[false,true]),(38,[false,false,false,false,true]),(52,[false,false,true])]} []
def zNH:=af Tryz.prog true Tryz.f178 zxW
def zwf:=wl Tryz.f248 {} []
def zLZ:=af Tryz.prog true Tryz.f248 zwf
def zBl:zal:={obj:=[(35,[false,true]),(71,[false,false,true])],acc:=[12]}
@[irreducible] def zjY:=wv Tryz.f247 zBl 0 []
def zvL:=wl Tryz.f247 zBl [zjY]
def zLv:=af Tryz.prog true Tryz.f247 zvL
def zwe:=wl Tryz.f249 {} []
def zLY:=af Tryz.prog true Tryz.f249 zwe
def zx2:=wl Tryz.f143 {obj:=[(12,[false,false,true])]} []
def zNN:=af Tryz.prog true Tryz.f143 zx2
def zwJ:=wl Tryz.f202 {} []
def zMt:=af Tryz.prog true Tryz.f202 zwJ
def zqt:=wl Tryz.f144 {ghost:=[(17,[124])],obj:=[(74,[false,true])]} []
def zAA:=af Tryz.prog true Tryz.f144 zqt
def zxY:=wl Tryz.f116 {obj:=[(32,[false,false,false,false,true])]} []
def zNJ:=af Tryz.prog true Tryz.f116 zxY
def zxd:=wl Tryz.f9 {} []
def zMX:=af Tryz.prog true Tryz.f9 zxd
@[irreducible] def zr7:=wv Tryz.f46 {} 0 []
def zxe:=wl Tryz.f46 {} [zr7]
def zMY:=af Tryz.prog true Tryz.f46 zxe
def zqs:=wl Tryz.f97 {} []
def zAz:=af Tryz.prog true Tryz.f97 zqs
def zk8:=wl Tryz.f25 {} []
def zzP:=af Tryz.prog true Tryz.f25 zk8
@[irreducible] def zos:=wv Tryz.f16 {} 0 []
def zqp:=wl Tryz.f16 {} [zos]
def zAw:=af Tryz.prog true Tryz.f16 zqp
def zwg:=wl Tryz.f28 {} []
def zL0:=af Tryz.prog true Tryz.f28 zwg
def zrM:zw:=
 (.seq (.seq (.ops [] [oM 11 5,oM 12 0,oP 13 (.len (.t 12)),oP 14 (.bin .lss (.t 11) (.t 13))] [11,12,13])
 (.cond (.t 14) .skip (.exit 0 [])))
 (.seq (.block 1 (.seq (.draw [] [oM 17 0,oM 18 5,oP 19 (.iad 7 (.t 17) (.t 18)),oP 20 (.ld true 7 (.t 19)),oM 21 1,oM 22 5,oP 23 (.iad 7 (.t 21) (.t 22)),oP 24 (.ld true 7 (.t 23)),oP 25 (.eqs true 7 [(0,0),(1,0),(2,0),(3,0),(4,0),(5,0),(6,2)] (.t 20) (.t 24))] [[],[0],[],[],[0,1,2,3],[0,1,2,3,4],[0,1,2,3],[0,1,2,3],[]] [14,17,18,19,20,21,22,23,24])
 (.cond (.t 25) (.seq (.ops [] [oP 4 (.mv (.c (.d (.bool false))))] [0,1,5,25])
 (.ret [4])) .skip)))
 (.ops [] [oM 15 5,oP 16 (.bin .add (.t 15) (kI 1)),oM 5 16] [15,16,25])))
def zlb:zw:=
 (.seq (.ops [] [oP 4 (.mv (.c (.d (.bool false))))] [4])
 (.seq (.seq (.ops [] [oM 6 0,oP 7 (.len (.t 6)),oM 8 1,oP 9 (.len (.t 8)),oP 10 (.bin .neq (.t 7) (.t 9))] [6,7,8,9])
 (.cond (.t 10) (.seq (.ops [] [oP 4 (.mv (.c (.d (.bool false))))] [0,1,10])
 (.ret [4])) .skip))
 (.seq (.seq (.ops [] [oP 5 (.mv (kI 0))] [10])
 (.block 0 (.loop [] zrM)))
 (.seq (.ops [] [oP 4 (.mv (.c (.d (.bool true))))] [0,1,5,14])
 (.ret [4])))))
def zAg:=af Tryz.prog true Tryz.f73 zlb
def zom:zw:=
 (.seq (.seq (.ops [] [oM 30 5,oP 31 (.fad false 1 1 (.t 2)),oP 32 (.ld false 1 (.t 31)),oP 33 (.len (.t 32)),oP 34 (.bin .lss (.t 30) (.t 33))] [30,31,32,33])
 (.cond (.t 34) .skip (.exit 0 [2,3])))
 (.seq (.block 1 (.seq (.draw [] [oP 37 (.fad false 1 1 (.t 2)),oP 38 (.ld false 1 (.t 37)),oM 39 5,oP 40 (.iad 3 (.t 38) (.t 39)),oP 41 (.ld true 3 (.t 40)),oP 42 (.fad false 1 1 (.t 3)),oP 43 (.ld false 1 (.t 42)),oM 44 5,oP 45 (.iad 3 (.t 43) (.t 44)),oP 46 (.ld true 3 (.t 45)),oP 47 (.eqs true 3 [(0,0),(1,0),(2,0)] (.t 41) (.t 46))] [[],[],[0,1],[],[],[0,1,2,3,4],[0,1,2,3,4],[0,1,2,3,4,5,6],[0,1,2,3,4],[0,1,2,3,4],[]] [34,37,38,39,40,41,42,43,44,45,46])
 (.cond (.t 47) (.seq (.ops [] [oP 4 (.mv (.c (.d (.bool false))))] [2,3,5,47])
 (.ret [4])) .skip)))
 (.ops [] [oM 35 5,oP 36 (.bin .add (.t 35) (kI 1)),oM 5 36] [35,36,47])))
def zon:zw:=
 (.seq (.seq (.ops [] [oM 48 6,oP 49 (.fad false 2 1 (.t 2)),oP 50 (.ld false 1 (.t 49)),oP 51 (.len (.t 50)),oP 52 (.bin .lss (.t 48) (.t 51))] [48,49,50,51])
 (.cond (.t 52) .skip (.exit 2 [])))
 (.seq (.block 3 (.seq (.draw [] [oP 55 (.fad false 2 1 (.t 2)),oP 56 (.ld false 1 (.t 55)),oM 57 6,oP 58 (.iad 1 (.t 56) (.t 57)),oP 59 (.ld false 1 (.t 58)),oP 60 (.fad false 2 1 (.t 3)),oP 61 (.ld false 1 (.t 60)),oM 62 6,oP 63 (.iad 1 (.t 61) (.t 62)),oP 64 (.ld false 1 (.t 63)),oP 65 (.bin .neq (.t 59) (.t 64))] [[],[],[0,1],[],[],[0,1,2,3,4],[0,1,2,3,4],[0,1,2,3,4,5,6],[0,1,2,3,4],[0,1,2,3,4],[]] [52,55,56,57,58,59,60,61,62,63,64])
 (.cond (.t 65) (.seq (.ops [] [oP 4 (.mv (.c (.d (.bool false))))] [2,3,6,65])
 (.ret [4])) .skip)))
 (.ops [] [oM 53 6,oP 54 (.bin .add (.t 53) (kI 1)),oM 6 54] [53,54,65])))
def zwp:zw:=
 (.seq (.ops [] [oP 2 (.box (.t 0)),oP 3 (.box (.t 1)),oP 4 (.mv (.c (.d (.bool false))))] [0,1,4])
 (.seq (.seq (.ops [] [oP 7 (.fad false 0 1 (.t 2)),oP 8 (.ld false 1 (.t 7)),oP 9 (.fad false 0 1 (.t 3)),oP 10 (.ld false 1 (.t 9)),oP 11 (.bin .neq (.t 8) (.t 10)),oM 12 11,oQ 13 (.fad false 1 1 (.t 2)) 12 false,oQ 14 (.ld false 1 (.t 13)) 12 false,oQ 15 (.len (.t 14)) 12 false,oQ 16 (.fad false 1 1 (.t 3)) 12 false,oQ 17 (.ld false 1 (.t 16)) 12 false,oQ 18 (.len (.t 17)) 12 false,oQ 19 (.bin .neq (.t 15) (.t 18)) 12 false,oP 20 (.pick (.t 12) (.c (.d (.bool true))) (.t 19)),oM 21 20,oQ 22 (.fad false 2 1 (.t 2)) 21 false,oQ 23 (.ld false 1 (.t 22)) 21 false,oQ 24 (.len (.t 23)) 21 false,oQ 25 (.fad false 2 1 (.t 3)) 21 false,oQ 26 (.ld false 1 (.t 25)) 21 false,oQ 27 (.len (.t 26)) 21 false,oQ 28 (.bin .neq (.t 24) (.t 27)) 21 false,oP 29 (.pick (.t 21) (.c (.d (.bool true))) (.t 28))] [7,8,9,10,11,12,13,14,15,16,17,18,19,20,21,22,23,24,25,26,27,28])
 (.cond (.t 29) (.seq (.ops [] [oP 4 (.mv (.c (.d (.bool false))))] [2,3,29])
 (.ret [4])) .skip))
 (.seq (.seq (.ops [] [oP 5 (.mv (kI 0))] [29])
 (.block 0 (.loop [] zom)))
 (.seq (.seq (.ops [] [oP 6 (.mv (kI 0))] [5,34])
 (.block 2 (.loop [] zon)))
 (.seq (.ops [] [oP 4 (.mv (.c (.d (.bool true))))] [2,3,6,52])
 (.ret [4]))))))
def zL9:=af Tryz.prog true Tryz.f63 zwp
def zv1:=wl Tryz.f27 {} []
def zLL:=af Tryz.prog true Tryz.f27 zv1
def zvq:=wl Tryz.f71 {} []
def zLa:=af Tryz.prog true Tryz.f71 zvq
def zvF:=wl Tryz.f72 {} []
def zLp:=af Tryz.prog true Tryz.f72 zvF
def zrV:zw:=
 (.seq (.seq (.ops [] [oM 11 5,oM 12 0,oP 13 (.len (.t 12)),oP 14 (.bin .lss (.t 11) (.t 13))] [11,12,13])
 (.cond (.t 14) .skip (.exit 0 [])))
 (.seq (.block 1 (.seq (.draw [] [oM 17 0,oM 18 5,oP 19 (.iad 8 (.t 17) (.t 18)),oP 20 (.ld true 8 (.t 19)),oM 21 1,oM 22 5,oP 23 (.iad 8 (.t 21) (.t 22)),oP 24 (.ld true 8 (.t 23)),oP 25 (.eqs true 8 [(0,0),(1,0),(2,0),(3,0),(4,0),(5,0),(6,2),(7,0)] (.t 20) (.t 24))] [[],[0],[],[],[0,1,2,3],[0,1,2,3,4],[0,1,2,3],[0,1,2,3],[]] [14,17,18,19,20,21,22,23,24])
 (.cond (.t 25) (.seq (.ops [] [oP 4 (.mv (.c (.d (.bool false))))] [0,1,5,25])
 (.ret [4])) .skip)))
 (.ops [] [oM 15 5,oP 16 (.bin .add (.t 15) (kI 1)),oM 5 16] [15,16,25])))
def zle:zw:=
 (.seq (.ops [] [oP 4 (.mv (.c (.d (.bool false))))] [4])
 (.seq (.seq (.ops [] [oM 6 0,oP 7 (.len (.t 6)),oM 8 1,oP 9 (.len (.t 8)),oP 10 (.bin .neq (.t 7) (.t 9))] [6,7,8,9])
 (.cond (.t 10) (.seq (.ops [] [oP 4 (.mv (.c (.d (.bool false))))] [0,1,10])
 (.ret [4])) .skip))
 (.seq (.seq (.ops [] [oP 5 (.mv (kI 0))] [10])
 (.block 0 (.loop [] zrV)))
 (.seq (.ops [] [oP 4 (.mv (.c (.d (.bool true))))] [0,1,5,14])
 (.ret [4])))))
def zAq:=af Tryz.prog true Tryz.f118 zle
def zrN:zw:=
 (.seq (.seq (.ops [] [oM 11 5,oM 12 0,oP 13 (.len (.t 12)),oP 14 (.bin .lss (.t 11) (.t 13))] [11,12,13])
 (.cond (.t 14) .skip (.exit 0 [])))
 (.seq (.block 1 (.seq (.draw [] [oM 17 0,oM 18 5,oP 19 (.iad 2 (.t 17) (.t 18)),oP 20 (.ld true 2 (.t 19)),oM 21 1,oM 22 5,oP 23 (.iad 2 (.t 21) (.t 22)),oP 24 (.ld true 2 (.t 23)),oP 25 (.eqs true 2 [(0,0),(1,0)] (.t 20) (.t 24))] [[],[0],[],[],[0,1,2,3],[0,1,2,3,4],[0,1,2,3],[0,1,2,3],[]] [14,17,18,19,20,21,22,23,24])
 (.cond (.t 25) (.seq (.ops [] [oP 4 (.mv (.c (.d (.bool false))))] [0,1,5,25])
 (.ret [4])) .skip)))
 (.ops [] [oM 15 5,oP 16 (.bin .add (.t 15) (kI 1)),oM 5 16] [15,16,25])))
def zld:zw:=
 (.seq (.ops [] [oP 4 (.mv (.c (.d (.bool false))))] [4])
 (.seq (.seq (.ops [] [oM 6 0,oP 7 (.len (.t 6)),oM 8 1,oP 9 (.len (.t 8)),oP 10 (.bin .neq (.t 7) (.t 9))] [6,7,8,9])
 (.cond (.t 10) (.seq (.ops [] [oP 4 (.mv (.c (.d (.bool false))))] [0,1,10])
 (.ret [4])) .skip))
 (.seq (.seq (.ops [] [oP 5 (.mv (kI 0))] [10])
 (.block 0 (.loop [] zrN)))
 (.seq (.ops [] [oP 4 (.mv (.c (.d (.bool true))))] [0,1,5,14])
 (.ret [4])))))
def zAk:=af Tryz.prog true Tryz.f119 zld
def zb7:zw:=
 (.seq (.seq (.ops [] [oM 37 11,oP 38 (.bin .lss (.t 37) (kI 5))] [37])
 (.cond (.t 38) .skip (.exit 0 [])))
 (.seq (.block 1 (.seq (.ops [] [oM 41 9,oP 42 (.call 21 [true,false,false] [.t 41,kI (-1),kI 4]),oM 43 9,oP 44 (.call 21 [true,false,false] [.t 43,kI 0,kI 3]),oM 12 42,oM 13 44] [38,41,42,43,44])
 (.seq (.seq (.ops [] [oM 45 11,oP 46 (.bin .eql (.t 45) (kI 0))] [45])
 (.cond (.t 46) (.ops [] [oM 47 1,oM 48 2,oM 12 47,oM 13 48] [46,47,48]) .skip))
 (.seq (.seq (.ops [] [oP 50 (.ld true 11 (.t 10)),oM 51 12,oM 52 13,oP 53 (.call 22 [false,false,false,true] [.t 50,.t 51,.t 52]),oM 49 53,oP 54 (.ext (.t 49) 0),oP 55 (.ext (.t 49) 1),oP 56 (.ext (.t 49) 2),oP 14 (.alloc (.agg [.xsl [],.xsl [],aI 0,aI 0,.xsl [],aI 0,.xsl [],.xsl [],aI 0,aI 0,aI 0])),oN (.st 11 (.t 14) (.t 54)),oM 15 55,oM 16 56] [15,46,49,50,51,52,53,54,55,56])
 (.seq (.ops [] [oM 57 16,oP 58 (.bin .eql (.t 57) (kI 0)),oM 59 58,oQ 60 (.mv (.t 9)) 59 true,oQ 61 (.call 13 [true,false] [.t 60,kI 4]) 59 true,oQ 62 (.bin .gtr (.t 61) (kI 0)) 59 true,oP 63 (.pick (.t 59) (.t 62) (.c (.d (.bool false))))] [16,57,58,59,60,61,62])
 (.cond (.t 63) (.ops [] [oP 64 (.ld true 11 (.t 14)),oN (.st 11 (.t 10) (.t 64))] [14,63,64]) .skip)))
 (.seq (.ops [] [oP 66 (.ld true 11 (.t 10)),oM 67 12,oP 68 (.call 23 [false,false,true] [.t 66,.t 67]),oM 65 68,oP 69 (.ext (.t 65) 0),oP 70 (.ext (.t 65) 1),oP 17 (.alloc (.agg [.d (.bool false),aI 0,aI 0,.xsl [],aI 0,aI 0,.xsl [],.xsl []])),oN (.st 8 (.t 17) (.t 69)),oM 18 70] [14,63,65,66,67,68,69,70])
 (.seq (.ops [8000000] [oP 72 (.ld true 11 (.t 10)),oM 73 12,oP 74 (.call 24 [false,false,true] [.t 72,.t 73]),oM 71 74,oP 75 (.ext (.t 71) 0),oP 76 (.ext (.t 71) 1),oP 19 (.alloc (.agg [.d (.bool false),aI 0,aI 0,.xsl [],aI 0,aI 0,.xsl [],.xsl []])),oN (.st 8 (.t 19) (.t 75)),oM 20 76] [71,72,73,74,75,76])
 (.seq (.ops [] [oP 78 (.ld true 11 (.t 10)),oM 79 12,oP 80 (.call 25 [] [.t 78,.t 79]),oM 77 80,oP 81 (.ext (.t 77) 0),oP 82 (.ext (.t 77) 1),oP 21 (.alloc (.d (.agg [.int .i64 0,.int .i64 0,.int .i64 0,.int .i64 0]))),oN (.st 4 (.t 21) (.t 81)),oM 22 82] [77,78,79,80,81,82])
 (.seq (.ops [] [oP 84 (.ld true 11 (.t 10)),oM 85 12,oP 86 (.call 26 [] [.t 84,.t 85]),oM 83 86,oP 87 (.ext (.t 83) 0),oP 88 (.ext (.t 83) 1),oP 23 (.alloc (.d (.agg [.int .i64 0,.int .i64 0,.int .i64 0,.int .i64 0]))),oN (.st 4 (.t 23) (.t 87)),oM 24 88] [83,84,85,86,87,88])
 (.seq (.seq (.draw [] [oM 89 18,oM 90 20,oP 91 (.bin .neq (.t 89) (.t 90)),oM 92 91,oQ 93 (.mv (.t 22)) 92 false,oQ 94 (.mv (.t 24)) 92 false,oQ 95 (.bin .neq (.t 93) (.t 94)) 92 false,oP 96 (.pick (.t 92) (.c (.d (.bool true))) (.t 95)),oM 97 96,oQ 98 (.ld true 4 (.t 21)) 97 false,oQ 99 (.ld true 4 (.t 23)) 97 false,oQ 100 (.eqs true 4 [(0,0),(1,0),(2,0),(3,0)] (.t 98) (.t 99)) 97 false,oP 101 (.pick (.t 97) (.c (.d (.bool true))) (.t 100)),oM 102 101,oQ 103 (.ld true 8 (.t 17)) 102 false,oQ 104 (.ld true 8 (.t 19)) 102 false,oQ 105 (.call 27 [] [.t 103,.t 104]) 102 false,oQ 106 (.un .not (.t 105)) 102 false,oP 107 (.pick (.t 102) (.c (.d (.bool true))) (.t 106)),oM 108 107,oQ 109 (.ld true 11 (.t 10)) 108 false,oQ 110 (.call 29 [false,true] [.t 109]) 108 false,oQ 111 (.fad true 2 3 (.t 10)) 108 false,oQ 112 (.fad true 1 2 (.t 111)) 108 false,oQ 113 (.ld true 2 (.t 112)) 108 false,oQ 114 (.call 28 [] [.t 110,.t 113]) 108 false,oQ 115 (.un .not (.t 114)) 108 false,oP 116 (.pick (.t 108) (.c (.d (.bool true))) (.t 115))] [[],[0],[],[],[],[4],[],[],[],[],[9],[],[],[],[],[14],[],[],[],[],[],[],[20,21],[20,21],[20,21],[],[],[]] [17,18,20,21,22,23,24,89,90,91,92,93,94,95,96,97,98,99,100,101,102,103,104,105,106,107,108,109,110,111,112,113,114,115])
 (.cond (.t 116) (.seq (.ops [] [oP 8 (.mv (.c (.d (.bool false))))] [1,2,7,9,10,11,12,13,19,116])
 (.ret [8])) .skip))
 (.seq (.ops [] [oM 117 9,oP 118 (.call 30 [true,true] [.t 117]),oP 25 (.alloc (.agg [.d (.bool false),aI 0,aI 0,.xsl [],aI 0,aI 0,.xsl [],.xsl []])),oN (.st 8 (.t 25) (.t 118))] [116,117,118])
 (.seq (.seq (.ops [] [oP 119 (.fad true 3 3 (.t 19)),oP 120 (.fad false 0 1 (.t 119)),oP 121 (.ld false 1 (.t 120)),oP 122 (.len (.t 121)),oM 26 122] [19,119,120,121,122])
 (.seq (.ops [] [oM 123 26,oP 124 (.bin .gtr (.t 123) (kI 0)),oM 125 124,oQ 126 (.mv (.t 9)) 125 true,oQ 127 (.call 13 [true,false] [.t 126,kI 4]) 125 true,oQ 128 (.bin .gtr (.t 127) (kI 0)) 125 true,oP 129 (.pick (.t 125) (.t 128) (.c (.d (.bool false))))] [123,124,125,126,127,128])
 (.cond (.t 129) (.ops [] [oM 131 26,oM 132 9,oP 133 (.call 13 [true,false] [.t 132,kI 100]),oP 134 (.call 31 [false,false,false,true] [.t 131,.t 133,kI 200]),oM 130 134,oP 135 (.ext (.t 130) 0),oP 136 (.ext (.t 130) 1),oN (.st 8 (.t 25) (.t 135))] [26,129,130,131,132,133,134,135,136]) .skip)))
 (.seq (.ops [] [oP 138 (.ld true 11 (.t 10)),oM 139 12,oM 140 13,oP 141 (.ld true 8 (.t 25)),oP 142 (.call 32 [false,false,false,false,true] [.t 138,.t 139,.t 140,.t 141]),oM 137 142,oP 143 (.ext (.t 137) 0),oP 144 (.ext (.t 137) 1),oP 27 (.alloc (.agg [.xsl [],.xsl [],aI 0,aI 0,.xsl [],aI 0,.xsl [],.xsl [],aI 0,aI 0,aI 0])),oN (.st 11 (.t 27) (.t 143)),oM 18 144] [26,129,137,138,139,140,141,142,143,144])
 (.seq (.ops [8000000] [oP 146 (.ld true 11 (.t 10)),oM 147 12,oM 148 13,oP 149 (.ld true 8 (.t 25)),oP 150 (.call 33 [false,false,false,false,true] [.t 146,.t 147,.t 148,.t 149]),oM 145 150,oP 151 (.ext (.t 145) 0),oP 152 (.ext (.t 145) 1),oP 28 (.alloc (.agg [.xsl [],.xsl [],aI 0,aI 0,.xsl [],aI 0,.xsl [],.xsl [],aI 0,aI 0,aI 0])),oN (.st 11 (.t 28) (.t 151)),oM 20 152] [25,145,146,147,148,149,150,151,152])
 (.seq (.seq (.ops [] [oM 153 18,oM 154 20,oP 155 (.bin .neq (.t 153) (.t 154)),oM 156 155,oQ 157 (.ld true 11 (.t 27)) 156 false,oQ 158 (.ld true 11 (.t 28)) 156 false,oQ 159 (.call 16 [] [.t 157,.t 158]) 156 false,oQ 160 (.un .not (.t 159)) 156 false,oP 161 (.pick (.t 156) (.c (.d (.bool true))) (.t 160))] [18,20,153,154,155,156,157,158,159,160])
 (.cond (.t 161) (.seq (.ops [] [oP 8 (.mv (.c (.d (.bool false))))] [1,2,7,9,10,11,12,13,27,28,161])
 (.ret [8])) .skip))
 (.seq (.seq (.ops [] [oM 162 9,oP 163 (.call 13 [true,false] [.t 162,kI 2]),oP 164 (.bin .eql (.t 163) (kI 0))] [161,162,163])
 (.cond (.t 164) (.ops [] [oM 165 9,oP 166 (.bsl 4 1 (aI 0) [(0,kI (-1)),(1,kI 3),(2,kI 1099511627776),(3,kI 1099511627777)]),oP 167 (.call 34 [true,false] [.t 165,.t 166]),oM 168 9,oP 169 (.call 13 [true,false] [.t 168,kI 3]),oM 170 9,oP 171 (.call 13 [true,false] [.t 170,kI 3]),oP 172 (.build [aI 0,aI 0,aI 0,aI 0] [(0,(1,.t 167)),(1,(1,.t 169)),(2,(1,.t 171))]),oN (.st 4 (.t 7) (.t 172))] [164,165,166,167,168,169,170,171,172]) .skip))
 (.seq (.ops [] [oP 174 (.ld true 11 (.t 10)),oM 175 12,oM 176 13,oP 177 (.ld true 4 (.t 7)),oP 178 (.call 35 [false,false,false,false,true] [.t 174,.t 175,.t 176,.t 177]),oM 173 178,oP 179 (.ext (.t 173) 0),oP 180 (.ext (.t 173) 1),oN (.st 11 (.t 27) (.t 179)),oM 18 180] [164,173,174,175,176,177,178,179,180])
 (.seq (.ops [8000000] [oP 182 (.ld true 11 (.t 10)),oM 183 12,oM 184 13,oP 185 (.ld true 4 (.t 7)),oP 186 (.call 36 [false,false,false,false,true] [.t 182,.t 183,.t 184,.t 185]),oM 181 186,oP 187 (.ext (.t 181) 0),oP 188 (.ext (.t 181) 1),oN (.st 11 (.t 28) (.t 187)),oM 20 188] [12,181,182,183,184,185,186,187,188])
 (.seq (.seq (.ops [] [oM 189 18,oM 190 20,oP 191 (.bin .neq (.t 189) (.t 190)),oM 192 191,oQ 193 (.ld true 11 (.t 27)) 192 false,oQ 194 (.ld true 11 (.t 28)) 192 false,oQ 195 (.call 16 [] [.t 193,.t 194]) 192 false,oQ 196 (.un .not (.t 195)) 192 false,oP 197 (.pick (.t 192) (.c (.d (.bool true))) (.t 196))] [18,20,189,190,191,192,193,194,195,196])
 (.cond (.t 197) (.seq (.ops [] [oP 8 (.mv (.c (.d (.bool false))))] [1,2,7,9,10,11,13,27,28,197])
 (.ret [8])) .skip))
 (.seq (.ops [] [oM 198 9,oP 199 (.call 37 [true,true] [.t 198]),oP 29 (.alloc (.agg [aI 0,.xsl []])),oN (.st 2 (.t 29) (.t 199))] [197,198,199])
 (.seq (.seq (.ops [] [oM 200 9,oP 201 (.call 13 [true,false] [.t 200,kI 3]),oP 202 (.bin .gtr (.t 201) (kI 0))] [200,201])
 (.cond (.t 202) (.ops [] [oP 203 (.fad true 2 3 (.t 10)),oP 204 (.fad true 1 2 (.t 203)),oP 205 (.fad false 0 1 (.t 204)),oP 206 (.ld false 1 (.t 205)),oP 207 (.fad false 0 1 (.t 29)),oN (.st 1 (.t 207) (.t 206))] [202,203,204,205,206,207]) .skip))
 (.seq (.seq (.ops [] [oP 209 (.ld true 11 (.t 10)),oP 210 (.fad false 0 1 (.t 10)),oP 211 (.ld false 1 (.t 210)),oP 212 (.len (.t 211)),oM 213 13,oP 214 (.call 22 [false,false,false,true] [.t 209,.t 212,.t 213]),oM 208 214,oP 215 (.ext (.t 208) 0),oP 216 (.ext (.t 208) 1),oP 217 (.ext (.t 208) 2),oP 30 (.alloc (.agg [.xsl [],.xsl [],aI 0,aI 0,.xsl [],aI 0,.xsl [],.xsl [],aI 0,aI 0,aI 0])),oN (.st 11 (.t 30) (.t 215)),oM 31 216,oM 32 217] [31,202,208,209,210,211,212,213,214,215,216,217])
 (.seq (.ops [] [oM 218 32,oP 219 (.bin .eql (.t 218) (kI 0)),oM 220 219,oQ 221 (.mv (.t 9)) 220 true,oQ 222 (.call 13 [true,false] [.t 221,kI 2]) 220 true,oQ 223 (.bin .eql (.t 222) (kI 0)) 220 true,oP 224 (.pick (.t 220) (.t 223) (.c (.d (.bool false))))] [32,218,219,220,221,222,223])
 (.cond (.t 224) (.ops [] [oP 225 (.ld true 11 (.t 30)),oN (.st 11 (.t 10) (.t 225))] [30,224,225]) .skip)))
 (.seq (.ops [] [oP 227 (.ld true 11 (.t 10)),oM 228 13,oP 229 (.ld true 2 (.t 29)),oP 230 (.call 38 [false,false,false,true] [.t 227,.t 228,.t 229]),oM 226 230,oP 231 (.ext (.t 226) 0),oP 232 (.ext (.t 226) 1),oN (.st 11 (.t 27) (.t 231)),oM 18 232] [30,224,226,227,228,229,230,231,232])
 (.seq (.ops [8000000] [oP 234 (.ld true 11 (.t 10)),oM 235 13,oP 236 (.ld true 2 (.t 29)),oP 237 (.call 39 [false,false,false,true] [.t 234,.t 235,.t 236]),oM 233 237,oP 238 (.ext (.t 233) 0),oP 239 (.ext (.t 233) 1),oN (.st 11 (.t 28) (.t 238)),oM 20 239] [13,29,233,234,235,236,237,238,239])
 (.seq (.ops [] [oM 240 18,oM 241 20,oP 242 (.bin .neq (.t 240) (.t 241)),oM 243 242,oQ 244 (.ld true 11 (.t 27)) 243 false,oQ 245 (.ld true 11 (.t 28)) 243 false,oQ 246 (.call 16 [] [.t 244,.t 245]) 243 false,oQ 247 (.un .not (.t 246)) 243 false,oP 248 (.pick (.t 243) (.c (.d (.bool true))) (.t 247))] [18,20,27,28,240,241,242,243,244,245,246,247])
 (.cond (.t 248) (.seq (.ops [] [oP 8 (.mv (.c (.d (.bool false))))] [1,2,7,9,10,11,248])
 (.ret [8])) .skip)))))))))))))))))))))))))
 (.ops [] [oM 39 11,oP 40 (.bin .add (.t 39) (kI 1)),oM 11 40] [39,40,248])))
def zqg:zw:=
 (.seq (.ops [] [oP 7 (.box (.t 3)),oP 8 (.mv (.c (.d (.bool false))))] [3,8])
 (.seq (.ops [] [oM 33 0,oP 34 (.call 6 [false,true] [.t 33]),oM 9 34] [0,33,34])
 (.seq (.ops [] [oM 35 9,oP 36 (.call 20 [true,true] [.t 35]),oP 10 (.alloc (.agg [.xsl [],.xsl [],aI 0,aI 0,.xsl [],aI 0,.xsl [],.xsl [],aI 0,aI 0,aI 0])),oN (.st 11 (.t 10) (.t 36))] [35,36])
 (.seq (.seq (.ops [] [oP 11 (.mv (kI 0))] [])
 (.block 0 (.loop [] zb7)))
 (.seq (.ops [] [oP 249 (.call 40 [] []),oM 8 249] [1,2,7,9,10,11,38,249])
 (.ret [8]))))))
def zq7:=af Tryz.prog true Tryz.f5 zqg
def zqh:=wl Tryz.f20 {obj:=[(4,[true,false,true])]} []
def zKL:=af Tryz.prog true Tryz.f20 zqh
def zm2:=wl Tryz.f23 {} []
def zzO:=af Tryz.prog true Tryz.f23 zm2
def zp4:=wl Tryz.f69 {} []
def zzU:=af Tryz.prog true Tryz.f69 zp4
def zp3:=wl Tryz.f29 {} []
def zzN:=af Tryz.prog true Tryz.f29 zp3
def zuO:=wl Tryz.f30 {obj:=[(7,[true]),(13,[true,false,false])]} []
def zKx:=af Tryz.prog true Tryz.f30 zuO
def zuP:=wl Tryz.f74 {obj:=[(8,[true,false]),(11,[true,false])]} []
def zKy:=af Tryz.prog true Tryz.f74 zuP
def zuE:=wl Tryz.f75 {obj:=[(10,[true,false,false,false])]} []
def zKn:=af Tryz.prog true Tryz.f75 zuE
def zuF:=wl Tryz.f120 {obj:=[(11,[true,false,false]),(15,[true,false,false,false,false])]} []
def zKo:=af Tryz.prog true Tryz.f120 zuF
def zuG:=wl Tryz.f187 {obj:=[(15,[true,false]),(30,[true,false,false,false,false,false]),(46,[true,false,false,false,false])]} []
def zKp:=af Tryz.prog true Tryz.f187 zuG
def zBe:zal:={obj:=[(25,[true,false]),(34,[true,false]),(40,[true,false]),(48,[true,false,false,false]),(58,[true,false,false,false])]}
@[irreducible] def zn4:=wv Tryz.f251 zBe 0 []
def zm6:=wl Tryz.f251 zBe [zn4]
def zzX:=af Tryz.prog true Tryz.f251 zm6
def zuH:=wl Tryz.f131 {obj:=[(17,[true,false]),(19,[true,false]),(21,[true,false]),(23,[true]),(28,[true,false]),(32,[true,false])]} []
def zKq:=af Tryz.prog true Tryz.f131 zuH
def zBg:zal:={obj:=[(17,[true,false]),(26,[true,false,false,false]),(35,[true,false]),(41,[true,false,false])]}
@[irreducible] def zlK:=wv Tryz.f252 zBg 0 []
def zm7:=wl Tryz.f252 zBg [zlK]
def zzZ:=af Tryz.prog true Tryz.f252 zm7
def zjs:=wl Tryz.f32 {ghost:=[(10,[86])]} []
def zzR:=af Tryz.prog true Tryz.f32 zjs
def zk9:=wl Tryz.f78 {} []
def zzT:=af Tryz.prog true Tryz.f78 zk9
def zuB:=wl Tryz.f87 {} []
def zKk:=af Tryz.prog true Tryz.f87 zuB
def zuA:=wl Tryz.f83 {} []
def zKj:=af Tryz.prog true Tryz.f83 zuA
@[irreducible] def zoz:=wv Tryz.f79 {} 0 []
def zyd:=wl Tryz.f79 {} [zoz]
def zNY:=af Tryz.prog true Tryz.f79 zyd
def zow:zw:=
 (.seq (.seq (.ops [] [oM 43 4,oM 44 3,oP 45 (.bin .lss (.t 43) (.t 44))] [43,44])
 (.cond (.t 45) .skip (.exit 0 [1])))
 (.seq (.block 1 (.seq (.draw [] [oP 48 (.fad false 0 1 (.t 1)),oP 49 (.ld false 1 (.t 48)),oP 50 (.ld true 3 (.t 1)),oM 51 4,oP 52 (.call 188 [] [.t 50,.t 51]),oP 53 (.iad 7 (.t 49) (.t 52)),oP 54 (.ld true 7 (.t 53)),oP 55 (.build [aI 0,aI 0,aI 0,aI 0,aI 0,aI 0,.d (.str [])] []),oP 56 (.eqs true 7 [(0,0),(1,0),(2,0),(3,0),(4,0),(5,0),(6,2)] (.t 54) (.t 55))] [[],[],[0,1],[0,1,2],[0,1],[],[],[0,1,2,3,4,5,6],[]] [45,48,49,50,51,52,53,54,55])
 (.cond (.t 56) (.seq (.ops [] [oP 2 (.mv (kI 7))] [1,3,4,56])
 (.ret [2])) .skip)))
 (.ops [] [oM 46 4,oP 47 (.bin .add (.t 46) (kI 1)),oM 4 47] [46,47,56])))
def zox:zw:=
 (.seq (.ops [] [oP 62 (.bin .lss (.t 61) (.t 60))] [])
 (.seq (.cond (.t 62) .skip (.exit 2 [6]))
 (.seq (.block 3 (.seq (.ops [] [oP 63 (.iad 7 (.t 59) (.t 61)),oP 64 (.ld true 7 (.t 63)),oP 8 (.alloc (.d (.agg [.int .i64 0,.int .i64 0,.int .i64 0,.int .i64 0,.int .i64 0,.int .i64 0,.str []]))),oN (.st 7 (.t 8) (.t 64))] [62,63,64])
 (.seq (.seq (.ops [] [oP 65 (.ld true 7 (.t 8)),oP 66 (.call 190 [] [.t 65]),oM 9 66] [65,66])
 (.seq (.ops [] [oM 67 9,oP 68 (.bin .neq (.t 67) (kI 0))] [67])
 (.cond (.t 68) (.seq (.ops [] [oM 69 9,oM 2 69] [5,6,8,9,59,60,61,68,69])
 (.ret [2])) .skip)))
 (.seq (.ops [] [oM 70 6,oM 71 70,oQ 72 (.mv (.t 5)) 71 false,oQ 73 (.fad false 0 1 (.t 8)) 71 false,oQ 74 (.ld false 1 (.t 73)) 71 false,oQ 75 (.lkp false (.bool false) (.t 72) (.t 74)) 71 false,oP 76 (.pick (.t 71) (.c (.d (.bool true))) (.t 75)),oM 6 76] [9,68,70,71,72,73,74,75,76])
 (.ops [] [oM 77 5,oP 78 (.fad false 0 1 (.t 8)),oP 79 (.ld false 1 (.t 78)),oN (.mup (.t 77) (.t 79) (.c (.d (.bool true))))] [8,77,78,79])))))
 (.ops [] [oP 80 (.bin .add (.t 61) (kI 1)),oM 61 80] [80]))))
def zx8:zw:=
 (.seq (.ops [] [oP 1 (.box (.t 0)),oP 2 (.mv (kI 0))] [0,2])
 (.seq (.ops [] [oP 10 (.fad false 0 1 (.t 1)),oP 11 (.ld false 1 (.t 10)),oP 12 (.len (.t 11)),oM 3 12] [10,11,12])
 (.seq (.seq (.ops [] [oM 13 3,oP 14 (.bin .lss (.t 13) (kI 1)),oM 15 14,oQ 16 (.mv (.t 3)) 15 false,oQ 17 (.bin .gtr (.t 16) (kI 12)) 15 false,oP 18 (.pick (.t 15) (.c (.d (.bool true))) (.t 17)),oM 19 18,oQ 20 (.fad false 1 1 (.t 1)) 19 false,oQ 21 (.ld false 1 (.t 20)) 19 false,oQ 22 (.bin .lss (.t 21) (kI 0)) 19 false,oP 23 (.pick (.t 19) (.c (.d (.bool true))) (.t 22)),oM 24 23,oQ 25 (.fad false 1 1 (.t 1)) 24 false,oQ 26 (.ld false 1 (.t 25)) 24 false,oQ 27 (.mv (.t 3)) 24 false,oQ 28 (.bin .geq (.t 26) (.t 27)) 24 false,oP 29 (.pick (.t 24) (.c (.d (.bool true))) (.t 28)),oM 30 29,oQ 31 (.fad false 2 1 (.t 1)) 30 false,oQ 32 (.ld false 1 (.t 31)) 30 false,oQ 33 (.bin .lss (.t 32) (kI 0)) 30 false,oP 34 (.pick (.t 30) (.c (.d (.bool true))) (.t 33)),oM 35 34,oQ 36 (.fad false 2 1 (.t 1)) 35 false,oQ 37 (.ld false 1 (.t 36)) 35 false,oQ 38 (.mv (.t 3)) 35 false,oQ 39 (.bin .gtr (.t 37) (.t 38)) 35 false,oP 40 (.pick (.t 35) (.c (.d (.bool true))) (.t 39))] [13,14,15,16,17,18,19,20,21,22,23,24,25,26,27,28,29,30,31,32,33,34,35,36,37,38,39])
 (.cond (.t 40) (.seq (.ops [] [oP 2 (.mv (kI 1))] [1,3,40])
 (.ret [2])) .skip))
 (.seq (.seq (.ops [] [oP 41 (.fad false 2 1 (.t 1)),oP 42 (.ld false 1 (.t 41)),oM 4 42] [40,41,42])
 (.block 0 (.loop [] zow)))
 (.seq (.ops [] [oP 57 .mkm,oM 5 57] [3,4,45,57])
 (.seq (.ops [] [oP 6 (.mv (.c (.d (.bool false))))] [])
 (.seq (.seq (.ops [] [oP 58 (.ld true 3 (.t 1)),oP 59 (.call 189 [] [.t 58]),oP 60 (.len (.t 59)),oP 61 (.mv (kI 0))] [1,58])
 (.block 2 (.loop [] zox)))
 (.seq (.seq (.ops [] [oM 81 6] [5,6,59,60,61,62])
 (.cond (.t 81) (.seq (.ops [] [oP 2 (.mv (kI 10))] [81])
 (.ret [2])) .skip))
 (.seq (.ops [] [oP 2 (.mv (kI 0))] [81])
 (.ret [2]))))))))))
def zNT:=af Tryz.prog true Tryz.f121 zx8
def zx9:=wl Tryz.f188 {} []
def zNU:=af Tryz.prog true Tryz.f188 zx9
def zBz:zal:={acc:=[3]}
@[irreducible] def zoy:=wv Tryz.f189 zBz 0 []
def zya:=wl Tryz.f189 zBz [zoy]
def zNV:=af Tryz.prog false Tryz.f189 zya
def zu5:=wl Tryz.f190 {} []
def zKP:=af Tryz.prog true Tryz.f190 zu5
def zu6:=wl Tryz.f253 {} []
def zKQ:=af Tryz.prog true Tryz.f253 zu6
@[irreducible] def zrI:=wv Tryz.f122 {} 0 []
def zu2:=wl Tryz.f122 {} [zrI]
def zKM:=af Tryz.prog true Tryz.f122 zu2
def zu4:=wl Tryz.f191 {} []
def zKO:=af Tryz.prog true Tryz.f191 zu4
@[irreducible] def zrG:=wv Tryz.f192 {} 0 []
@[irreducible] def zrH:=wv Tryz.f192 {} 1 []
def zp9:=wl Tryz.f192 {} [zrG,zrH]
def zz6:=af Tryz.prog true Tryz.f192 zp9
def zqu:=wl Tryz.f254 {} []
def zAD:=af Tryz.prog true Tryz.f254 zqu
@[irreducible] def zsc:=wv Tryz.f288 {} 0 []
def zqv:=wl Tryz.f288 {} [zsc]
def zAE:=af Tryz.prog true Tryz.f288 zqv
def zqa:=wl Tryz.f255 {} []
def zz7:=af Tryz.prog true Tryz.f255 zqa
def zqf:=wl Tryz.f256 {} []
def zAc:=af Tryz.prog true Tryz.f256 zqf
def zqd:=wl Tryz.f257 {} []
def zAa:=af Tryz.prog true Tryz.f257 zqd
def zqe:=wl Tryz.f289 {} []
def zAb:=af Tryz.prog true Tryz.f289 zqe
def zqb:=wl Tryz.f258 {} []
def zz8:=af Tryz.prog true Tryz.f258 zqb
def zqc:=wl Tryz.f290 {} []
def zz9:=af Tryz.prog true Tryz.f290 zqc
def zp6:=wl Tryz.f312 {} []
def zz0:=af Tryz.prog true Tryz.f312 zp6
def zp8:=wl Tryz.f323 {} []
def zz2:=af Tryz.prog true Tryz.f323 zp8
@[irreducible] def zrF:=wv Tryz.f311 {} 0 []
def zp7:=wl Tryz.f311 {} [zrF]
def zz1:=af Tryz.prog true Tryz.f311 zp7
@[irreducible] def zrJ:=wv Tryz.f193 {} 0 []
def zu3:=wl Tryz.f193 {} [zrJ]
def zKN:=af Tryz.prog true Tryz.f193 zu3
def zyj:=wl Tryz.f259 {} []
def zN4:=af Tryz.prog true Tryz.f259 zyj
def zsd:zw:=
 (.seq (.ops [] [oP 9 (.bin .lss (.t 8) (.t 7))] [])
 (.seq (.cond (.t 9) .skip (.exit 0 []))
 (.seq (.block 1 (.seq (.ops [] [oM 10 8,oM 5 10] [9,10])
 (.seq (.draw [] [oP 11 (.ld true 2 (.t 3)),oM 12 0,oM 13 5,oP 14 (.iad 2 (.t 12) (.t 13)),oP 15 (.ld true 2 (.t 14)),oP 16 (.eqs false 2 [(0,0),(1,0)] (.t 11) (.t 15))] [[],[0],[0,1],[0],[0],[]] [11,12,13,14,15])
 (.cond (.t 16) (.seq (.ops [] [oM 17 5,oM 4 17] [0,3,5,7,8,16,17])
 (.ret [4])) .skip))))
 (.ops [] [oP 18 (.bin .add (.t 8) (kI 1)),oM 8 18] [5,16,18]))))
def zyl:zw:=
 (.seq (.ops [] [oP 3 (.box (.t 1)),oP 4 (.mv (kI 0))] [1,4])
 (.seq (.seq (.ops [] [oM 6 0,oP 7 (.len (.t 6)),oP 8 (.mv (kI 0))] [6])
 (.block 0 (.loop [] zsd)))
 (.seq (.ops [] [oP 4 (.mv (kI (-1)))] [0,3,7,8,9])
 (.ret [4]))))
def zN6:=af Tryz.prog true Tryz.f291 zyl
def zyh:=wl Tryz.f123 {} []
def zN2:=af Tryz.prog true Tryz.f123 zyh
def zyg:=wl Tryz.f124 {} []
def zN1:=af Tryz.prog true Tryz.f124 zyg
@[irreducible] def zoA:=wv Tryz.f125 {} 0 []
def zyf:=wl Tryz.f125 {} [zoA]
def zN0:=af Tryz.prog true Tryz.f125 zyf
def zx6:=wl Tryz.f194 {} []
def zNR:=af Tryz.prog false Tryz.f194 zx6
def zye:=wl Tryz.f126 {} []
def zNZ:=af Tryz.prog true Tryz.f126 zye
def zlg:=wl Tryz.f80 {acc:=[2,2]} []
def zAB:=an Tryz.prog Tryz.f80 zlg
def zBb:zal:={ghost:=[(13,[92])]}
@[irreducible] def zfZ:=wv Tryz.f35 zBb 0 []
def zhs:=wl Tryz.f35 zBb [zfZ]
def zzS:=af Tryz.prog true Tryz.f35 zhs
def zlh:=wl Tryz.f84 {acc:=[2,2]} []
def zAC:=an Tryz.prog Tryz.f84 zlh
def zp5:=wl Tryz.f37 {obj:=[(5,[true,false,false]),(6,[true,false])]} []
def zq5:=af Tryz.prog true Tryz.f37 zp5
def zBd:zal:={ghost:=[(4,[4000029])],obj:=[(17,[true,false]),(27,[true,false,false,false])]}
@[irreducible] def zjX:=wv Tryz.f86 zBd 0 []
def zm5:=wl Tryz.f86 zBd [zjX]
def zq6:=af Tryz.prog true Tryz.f86 zm5
def zm3:=wl Tryz.f38 {} []
def zzQ:=af Tryz.prog true Tryz.f38 zm3
def zht:=wl Tryz.f88 {} []
def zz3:=af Tryz.prog true Tryz.f88 zht
@[irreducible] def zn5:=wv Tryz.f132 {} 0 []
def zm8:=wl Tryz.f132 {} [zn5]
def zz4:=af Tryz.prog true Tryz.f132 zm8
@[irreducible] def zlL:=wv Tryz.f133 {} 0 []
def zm9:=wl Tryz.f133 {} [zlL]
def zz5:=af Tryz.prog true Tryz.f133 zm9
def zu1:=wl Tryz.f40 {obj:=[(10,[false,true]),(15,[false,false,false,true]),(21,[false,false,false,true])]} []
def zKK:=af Tryz.prog true Tryz.f40 zu1
@[irreducible] def zP8:=wv Tryz.f90 {} 0 []
def zux:=wl Tryz.f90 {} [zP8]
def zKg:=af Tryz.prog true Tryz.f90 zux
def zrm:zal:={ghost:=[(8,[4000040])]}
@[irreducible] def zP9:=wv Tryz.f135 zrm 0 []
@[irreducible] def zQa:=wv Tryz.f135 zrm 1 []
def zuT:=wl Tryz.f135 zrm [zP9,zQa]
def zKC:=af Tryz.prog true Tryz.f135 zuT
def zuS:=wl Tryz.f136 {} []
def zKB:=af Tryz.prog true Tryz.f136 zuS
def zyb:=wl Tryz.f137 {} []
def zNW:=af Tryz.prog true Tryz.f137 zyb
def zx7:=wl Tryz.f199 {} []
def zNS:=af Tryz.prog true Tryz.f199 zx7
def zuU:=wl Tryz.f138 {} []
def zKD:=af Tryz.prog true Tryz.f138 zuU
@[irreducible] def zQb:=wv Tryz.f200 {} 0 []
def zuV:=wl Tryz.f200 {} [zQb]
def zKE:=af Tryz.prog true Tryz.f200 zuV
@[irreducible] def zQe:=wv Tryz.f264 {} 0 []
def zu0:=wl Tryz.f264 {} [zQe]
def zKJ:=af Tryz.prog true Tryz.f264 zu0
def zuW:=wl Tryz.f266 {} []
def zKF:=af Tryz.prog true Tryz.f266 zuW
def zyi:=wl Tryz.f265 {} []
def zN3:=af Tryz.prog true Tryz.f265 zyi
@[irreducible] def zQf:=wv Tryz.f268 {} 0 []
def zyk:=wl Tryz.f268 {} [zQf]
def zN5:=af Tryz.prog true Tryz.f268 zyk
def zuX:=wl Tryz.f201 {} []
def zKG:=af Tryz.prog true Tryz.f201 zuX
def zuY:=wl Tryz.f269 {} []
def zKH:=af Tryz.prog true Tryz.f269 zuY
@[irreducible] def zQc:=wv Tryz.f267 {} 0 []
@[irreducible] def zBV:=wv Tryz.f267 {} 1 []
@[irreducible] def zQd:=wv Tryz.f267 {} 2 [zBV]
def zuZ:=wl Tryz.f267 {} [zQc,zBV,zQd]
def zKI:=af Tryz.prog true Tryz.f267 zuZ
def zyc:=wl Tryz.f139 {} []
def zNX:=af Tryz.prog true Tryz.f139 zyc
def zuy:=wl Tryz.f91 {} []
def zKh:=af Tryz.prog true Tryz.f91 zuy
def zuC:=wl Tryz.f140 {} []
def zKl:=af Tryz.prog true Tryz.f140 zuC
def zuz:=wl Tryz.f141 {ghost:=[(5,[36])]} []
def zKi:=af Tryz.prog true Tryz.f141 zuz
end Go.Proofs.YtjalkkalhdnplaaGreat
