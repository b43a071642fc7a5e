/-
  Functions of the program, as the calculus has them.
-/
import Derived.Test.YtjalkkalhdnplaaGreatBd2d1618
import Derived.Test.YtjalkkalhdnplaaGreatProg
set_option linter.unusedSimpArgs false
set_option linter.unusedVariables false
set_option maxHeartbeats 10000000
set_option maxRecDepth 100000
namespace Go.Proofs.YtjalkkalhdnplaaGreat
open Go Go.Sim
def zwl:=wl Tryz.f212 {} []
def zKX:=af Tryz.prog true Tryz.f212 zwl
def zwn:=wl Tryz.f213 {} []
def zKZ:=af Tryz.prog true Tryz.f213 zwn
def zuk:=wl Tryz.f198 {} []
def zIW:=af Tryz.prog true Tryz.f198 zuk
def zup:=wl Tryz.f214 {} []
def zI1:=af Tryz.prog true Tryz.f214 zup
def zvb:=wl Tryz.f215 {} []
def zJN:=af Tryz.prog true Tryz.f215 zvb
def zuz:=wl Tryz.f272 {obj:=[(22,[false,false,false,true])]} []
def zJb:=af Tryz.prog true Tryz.f272 zuz
def zuF:=wl Tryz.f300 {} []
def zJh:=af Tryz.prog true Tryz.f300 zuF
@[irreducible] def zn2:=wv Tryz.f301 {} 0 []
def zuG:=wl Tryz.f301 {} [zn2]
def zJi:=af Tryz.prog true Tryz.f301 zuG
def zwE:=wl Tryz.f101 {obj:=[(24,[false,true]),(34,[false,true]),(63,[false,false,false,true]),(72,[false,false,false,false,true]),(77,[false,false,false,true]),(86,[false,true]),(94,[false,true]),(112,[false,false,false,true]),(119,[false,false,false,true]),(125,[false,true]),(127,[false,false,false,true])]} []
def zLg:=af Tryz.prog true Tryz.f101 zwE
def zwD:=wl Tryz.f159 {} []
def zLf:=af Tryz.prog true Tryz.f159 zwD
@[irreducible] def zri:=wv Tryz.f216 {} 0 []
def zvz:=wl Tryz.f216 {} [zri]
def zKb:=af Tryz.prog true Tryz.f216 zvz
def zvD:=wl Tryz.f160 {} []
def zKf:=af Tryz.prog true Tryz.f160 zvD
def zqO:zap:={ghost:=[(17,[4000076]),(19,[6500076]),(28,[4000137]),(31,[6500137])],obj:=[(23,[false,true]),(32,[false,false,true]),(34,[false,false,true]),(48,[false,false,true]),(53,[false,true]),(61,[false,false,true]),(154,[false,false,true])],acc:=[10]}
@[irreducible] def zkh:=wv Tryz.f162 zqO 0 []
@[irreducible] def zki:=wv Tryz.f162 zqO 1 []
def zwF:=wl Tryz.f162 zqO [zkh,zki]
def zLh:=af Tryz.prog true Tryz.f162 zwF
def zwH:=wl Tryz.f220 {obj:=[(28,[false,false,false,false,true]),(47,[false,false,false,false,false,false,true])]} []
def zLj:=af Tryz.prog true Tryz.f220 zwH
def zzQ:zap:={obj:=[(41,[false,false,false,true]),(55,[false,false,true]),(65,[false,false,true])]}
@[irreducible] def zn7:=wv Tryz.f246 zzQ 0 []
def zu3:=wl Tryz.f246 zzQ [zn7]
def zJF:=af Tryz.prog true Tryz.f246 zu3
def zvn:=wl Tryz.f285 {} []
def zJZ:=af Tryz.prog true Tryz.f285 zvn
def zzN:zap:={acc:=[7]}
@[irreducible] def zre:=wv Tryz.f286 zzN 0 []
def zuP:=wl Tryz.f286 zzN [zre]
def zJr:=af Tryz.prog true Tryz.f286 zuP
def zzM:zap:={acc:=[5]}
@[irreducible] def zlS:=wv Tryz.f309 zzM 0 []
def zpR:=wl Tryz.f309 zzM [zlS]
def zy7:=af Tryz.prog true Tryz.f309 zpR
def zuJ:=wl Tryz.f320 {ghost:=[(5,[26])],obj:=[(42,[false,false,true]),(45,[false,false,true])]} []
def zJl:=af Tryz.prog true Tryz.f320 zuJ
@[irreducible] def zrc:=wv Tryz.f321 {} 0 []
def zpU:=wl Tryz.f321 {} [zrc]
def zzb:=af Tryz.prog true Tryz.f321 zpU
def zuL:=wl Tryz.f325 {ghost:=[(2,[18])]} []
def zJn:=af Tryz.prog true Tryz.f325 zuL
@[irreducible] def zn3:=wv Tryz.f324 {} 0 []
def zna:=wl Tryz.f324 {} [zn3]
def zy9:=af Tryz.prog true Tryz.f324 zna
def zuN:=wl Tryz.f310 {} []
def zJp:=af Tryz.prog true Tryz.f310 zuN
def zuQ:=wl Tryz.f276 {} []
def zJs:=af Tryz.prog true Tryz.f276 zuQ
def zli:=wl Tryz.f305 {} []
def zy5:=af Tryz.prog true Tryz.f305 zli
def zzS:zap:={acc:=[16]}
@[irreducible] def zkf:=wv Tryz.f274 zzS 0 []
def zvf:=wl Tryz.f274 zzS [zkf]
def zJR:=af Tryz.prog true Tryz.f274 zvf
def zvo:=wl Tryz.f278 {} []
def zJ0:=af Tryz.prog true Tryz.f278 zvo
def zur:=wl Tryz.f302 {} []
def zI3:=af Tryz.prog true Tryz.f302 zur
def zun:=wl Tryz.f303 {} []
def zIZ:=af Tryz.prog true Tryz.f303 zun
def zuB:=wl Tryz.f284 {ghost:=[(5,[6000018])]} []
def zJd:=af Tryz.prog true Tryz.f284 zuB
def zm9:=wl Tryz.f308 {} []
def zy3:=af Tryz.prog true Tryz.f308 zm9
@[irreducible] def zrd:=wv Tryz.f287 {} 0 []
def zuO:=wl Tryz.f287 {} [zrd]
def zJq:=af Tryz.prog true Tryz.f287 zuO
def zuH:=wl Tryz.f306 {obj:=[(33,[false,false,true])]} []
def zJj:=af Tryz.prog true Tryz.f306 zuH
def zzX:zap:={obj:=[(13,[false,true]),(38,[false,true])]}
@[irreducible] def zkj:=wv Tryz.f163 zzX 0 []
def zwG:=wl Tryz.f163 zzX [zkj]
def zLi:=af Tryz.prog true Tryz.f163 zwG
def zvx:=wl Tryz.f203 {obj:=[(48,[false,false,false,true]),(55,[false,false,false,true]),(62,[false,false,false,true]),(75,[false,false,false,true])]} []
def zJ9:=af Tryz.prog true Tryz.f203 zvx
def zuj:=wl Tryz.f270 {} []
def zIV:=af Tryz.prog true Tryz.f270 zuj
def zwI:=wl Tryz.f102 {obj:=[(26,[false,true]),(54,[false,false,false,true]),(60,[false,false,false,true]),(76,[false,false,false,true]),(87,[false,false,false,false,true]),(92,[false,false,false,true]),(101,[false,true]),(109,[false,true]),(135,[false,true]),(150,[false,false,false,true])]} []
def zLk:=af Tryz.prog true Tryz.f102 zwI
def zvy:=wl Tryz.f164 {obj:=[(37,[false,true])]} []
def zKa:=af Tryz.prog true Tryz.f164 zvy
@[irreducible] def zhm:=wv Tryz.f221 {} 0 []
def zjO:=wl Tryz.f221 {} [zhm]
def zyZ:=af Tryz.prog true Tryz.f221 zjO
def zpP:=wl Tryz.f222 {} []
def zy1:=af Tryz.prog true Tryz.f222 zpP
def zwK:=wl Tryz.f165 {} []
def zLm:=af Tryz.prog true Tryz.f165 zwK
def zwJ:=wl Tryz.f166 {obj:=[(11,[false,true]),(24,[false,false,true]),(30,[false,false,true]),(43,[false,true]),(73,[false,false,true])]} []
def zLl:=af Tryz.prog true Tryz.f166 zwJ
def zwL:=wl Tryz.f168 {obj:=[(26,[false,false,false,false,true]),(41,[false,false,false,false,false,true]),(54,[false,false,false,false,false,true])]} []
def zLn:=af Tryz.prog true Tryz.f168 zwL
def zuV:=wl Tryz.f223 {} []
def zJx:=af Tryz.prog true Tryz.f223 zuV
def zvk:=wl Tryz.f275 {} []
def zJW:=af Tryz.prog true Tryz.f275 zvk
def zu5:=wl Tryz.f304 {} []
def zJH:=af Tryz.prog true Tryz.f304 zu5
def zu8:=wl Tryz.f224 {} []
def zJK:=af Tryz.prog true Tryz.f224 zu8
def zuA:=wl Tryz.f277 {obj:=[(31,[false,false,false,true])]} []
def zJc:=af Tryz.prog true Tryz.f277 zuA
def zuY:=wl Tryz.f225 {} []
def zJA:=af Tryz.prog true Tryz.f225 zuY
def zuM:=wl Tryz.f279 {ghost:=[(12,[98])]} []
def zJo:=af Tryz.prog true Tryz.f279 zuM
def zwM:=wl Tryz.f103 {obj:=[(20,[false,true]),(27,[false,false,false,true]),(45,[false,false,false,true]),(58,[false,false,false,false,true]),(65,[false,true]),(83,[false,false,false,true])]} []
def zLo:=af Tryz.prog true Tryz.f103 zwM
def zwN:=wl Tryz.f104 {obj:=[(23,[false,true]),(45,[false,false,false,true]),(65,[false,false,false,true]),(92,[false,true]),(129,[false,true])]} []
def zLp:=af Tryz.prog true Tryz.f104 zwN
@[irreducible] def zrn:=wv Tryz.f11 {} 0 []
def zvI:=wl Tryz.f11 {} [zrn]
def zKk:=af Tryz.prog true Tryz.f11 zvI
def zkg:zJ:=
 (.seq (.seq (.ops [] [oM 11 5,oM 12 0,oP 13 (.len (.t 12)),oP 14 (.bin .lss (.t 11) (.t 13))] [11,12,13])
 (.cond (.t 14) .skip (.exit 0 [])))
 (.seq (.block 1 (.seq (.draw [] [oM 17 0,oM 18 5,oP 19 (.iad 4 (.t 17) (.t 18)),oP 20 (.ld true 4 (.t 19)),oM 21 1,oM 22 5,oP 23 (.iad 4 (.t 21) (.t 22)),oP 24 (.ld true 4 (.t 23)),oP 25 (.eqs true 4 [(0,0),(1,0),(2,0),(3,0)] (.t 20) (.t 24))] [[],[0],[],[],[0,1,2,3],[0,1,2,3,4],[0,1,2,3],[0,1,2,3],[]] [14,17,18,19,20,21,22,23,24])
 (.cond (.t 25) (.seq (.ops [] [oP 4 (.mv (.c (.d (.bool false))))] [0,1,5,25])
 (.ret [4])) .skip)))
 (.ops [] [oM 15 5,oP 16 (.bin .add (.t 15) (kI 1)),oM 5 16] [15,16,25])))
def zll:zJ:=
 (.seq (.ops [] [oP 4 (.mv (.c (.d (.bool false))))] [4])
 (.seq (.seq (.ops [] [oM 6 0,oP 7 (.len (.t 6)),oM 8 1,oP 9 (.len (.t 8)),oP 10 (.bin .neq (.t 7) (.t 9))] [6,7,8,9])
 (.cond (.t 10) (.seq (.ops [] [oP 4 (.mv (.c (.d (.bool false))))] [0,1,10])
 (.ret [4])) .skip))
 (.seq (.seq (.ops [] [oP 5 (.mv (kI 0))] [10])
 (.block 0 (.loop [] zkg)))
 (.seq (.ops [] [oP 4 (.mv (.c (.d (.bool true))))] [0,1,5,14])
 (.ret [4])))))
def zze:=af Tryz.prog true Tryz.f62 zll
@[irreducible] def zoj:=wv Tryz.f169 {} 0 []
def zvJ:=wl Tryz.f169 {} [zoj]
def zKl:=af Tryz.prog true Tryz.f169 zvJ
def zvK:=wl Tryz.f226 {} []
def zKm:=af Tryz.prog true Tryz.f226 zvK
def zwO:=wl Tryz.f105 {obj:=[(24,[false,true]),(33,[false,true]),(50,[false,false,false,true]),(55,[false,false,false,true]),(64,[false,true]),(72,[false,true]),(107,[false,false,false,true])]} []
def zLq:=af Tryz.prog true Tryz.f105 zwO
def zzY:zap:={ghost:=[(15,[4000094]),(22,[6500094])],obj:=[(22,[false,true]),(28,[false,false,true]),(30,[false,false,true]),(38,[false,false,true]),(50,[false,false,false,true]),(59,[false,false,true]),(100,[false,false,true]),(112,[false,false,true])]}
@[irreducible] def zkk:=wv Tryz.f170 zzY 0 []
def zwP:=wl Tryz.f170 zzY [zkk]
def zLr:=af Tryz.prog true Tryz.f170 zwP
def zwQ:=wl Tryz.f171 {} []
def zLs:=af Tryz.prog true Tryz.f171 zwQ
def zzV:zap:={ghost:=[(10,[4000070])],acc:=[11]}
@[irreducible] def zgO:=wv Tryz.f227 zzV 0 []
def zvu:=wl Tryz.f227 zzV [zgO]
def zJ6:=af Tryz.prog true Tryz.f227 zvu
def zut:=wl Tryz.f228 {} []
def zI5:=af Tryz.prog true Tryz.f228 zut
def zus:=wl Tryz.f229 {} []
def zI4:=af Tryz.prog true Tryz.f229 zus
def zzO:zap:={obj:=[(44,[false,false,true])]}
@[irreducible] def zlT:=wv Tryz.f230 zzO 0 []
def zuU:=wl Tryz.f230 zzO [zlT]
def zJw:=af Tryz.prog true Tryz.f230 zuU
def zwR:=wl Tryz.f106 {obj:=[(26,[false,true]),(41,[false,false,true]),(42,[false,false,false,true]),(47,[false,false,false,true]),(56,[false,true]),(64,[false,true]),(71,[false,false,true]),(79,[false,true]),(87,[false,false,false,true])]} []
def zLt:=af Tryz.prog true Tryz.f106 zwR
def zwy:=wl Tryz.f172 {} []
def zLa:=af Tryz.prog true Tryz.f172 zwy
def zwU:=wl Tryz.f173 {obj:=[(16,[false,true]),(19,[false,true]),(52,[false,false,true]),(59,[false,false,true]),(65,[false,false,false,true]),(67,[false,true])]} []
def zLw:=af Tryz.prog true Tryz.f173 zwU
def zwV:=wl Tryz.f231 {obj:=[(6,[false,true])]} []
def zLx:=af Tryz.prog true Tryz.f231 zwV
def zwS:=wl Tryz.f234 {} []
def zLu:=af Tryz.prog true Tryz.f234 zwS
def zu1:=wl Tryz.f232 {obj:=[(21,[false,false,true])]} []
def zJD:=af Tryz.prog true Tryz.f232 zu1
def zux:=wl Tryz.f280 {ghost:=[(7,[6000025])],obj:=[(25,[false,true]),(35,[false,false,false,true])]} []
def zI9:=af Tryz.prog true Tryz.f280 zux
def zwT:=wl Tryz.f233 {} []
def zLv:=af Tryz.prog true Tryz.f233 zwT
def zwW:=wl Tryz.f107 {obj:=[(26,[false,true]),(41,[false,false,true]),(42,[false,false,false,true]),(47,[false,false,false,true]),(56,[false,true]),(64,[false,true]),(71,[false,false,true]),(79,[false,true]),(87,[false,false,false,true])]} []
def zLy:=af Tryz.prog true Tryz.f107 zwW
def zwZ:=wl Tryz.f175 {obj:=[(14,[false,true]),(17,[false,true]),(45,[false,false,true]),(52,[false,false,false,true]),(54,[false,true]),(56,[false,true])]} []
def zLB:=af Tryz.prog true Tryz.f175 zwZ
def zw0:=wl Tryz.f236 {obj:=[(6,[false,true])]} []
def zLC:=af Tryz.prog true Tryz.f236 zw0
def zwX:=wl Tryz.f239 {} []
def zLz:=af Tryz.prog true Tryz.f239 zwX
def zu2:=wl Tryz.f237 {obj:=[(41,[false,false,false,true]),(50,[false,false,false,true]),(55,[false,true]),(59,[false,false,false,true]),(62,[false,true]),(66,[false,false,false,true])]} []
def zJE:=af Tryz.prog true Tryz.f237 zu2
def zqL:zap:={obj:=[(41,[false,false,true]),(80,[false,false,false,true])]}
@[irreducible] def zlW:=wv Tryz.f283 zqL 0 []
@[irreducible] def zlX:=wv Tryz.f283 zqL 1 []
def zvj:=wl Tryz.f283 zqL [zlW,zlX]
def zJV:=af Tryz.prog true Tryz.f283 zvj
def zwY:=wl Tryz.f238 {} []
def zLA:=af Tryz.prog true Tryz.f238 zwY
def zw1:=wl Tryz.f108 {obj:=[(26,[false,true]),(41,[false,false,true]),(42,[false,false,false,true]),(47,[false,false,false,true]),(56,[false,true]),(64,[false,true]),(71,[false,false,true]),(79,[false,true]),(87,[false,false,false,true])]} []
def zLD:=af Tryz.prog true Tryz.f108 zw1
def zw4:=wl Tryz.f176 {obj:=[(14,[false,true]),(17,[false,true]),(23,[false,false,true]),(36,[false,true]),(42,[false,false,false,true]),(44,[false,true]),(46,[false,true])]} []
def zLG:=af Tryz.prog true Tryz.f176 zw4
def zw5:=wl Tryz.f240 {obj:=[(6,[false,true])]} []
def zLH:=af Tryz.prog true Tryz.f240 zw5
def zw2:=wl Tryz.f243 {} []
def zLE:=af Tryz.prog true Tryz.f243 zw2
def zzT:zap:={obj:=[(60,[false,true]),(62,[false,true]),(92,[false,true]),(96,[false,false,false,true])]}
@[irreducible] def zn9:=wv Tryz.f241 zzT 0 []
def zvg:=wl Tryz.f241 zzT [zn9]
def zJS:=af Tryz.prog true Tryz.f241 zvg
def zw3:=wl Tryz.f242 {} []
def zLF:=af Tryz.prog true Tryz.f242 zw3
def zw6:=wl Tryz.f109 {obj:=[(26,[false,true]),(39,[false,false,false,true]),(44,[false,false,false,true]),(53,[false,true]),(61,[false,true]),(68,[false,false,true]),(76,[false,true]),(84,[false,false,false,true])]} []
def zLI:=af Tryz.prog true Tryz.f109 zw6
def zzZ:zap:={ghost:=[(22,[4000115]),(24,[6500115])],obj:=[(21,[false,true]),(36,[false,false,true]),(67,[false,false,true]),(90,[false,false,false,false,true]),(100,[false,false,true])]}
@[irreducible] def zkl:=wv Tryz.f177 zzZ 0 []
def zw7:=wl Tryz.f177 zzZ [zkl]
def zLJ:=af Tryz.prog true Tryz.f177 zw7
def zzU:zap:={ghost:=[(9,[4000049])]}
@[irreducible] def zh5:=wv Tryz.f244 zzU 0 []
def zvp:=wl Tryz.f244 zzU [zh5]
def zJ1:=af Tryz.prog true Tryz.f244 zvp
def zqK:zap:={obj:=[(24,[false,true]),(26,[false,true]),(47,[false,false,true]),(74,[false,false,true])]}
@[irreducible] def zlU:=wv Tryz.f245 zqK 0 []
@[irreducible] def zlV:=wv Tryz.f245 zqK 1 []
def zuZ:=wl Tryz.f245 zqK [zlU,zlV]
def zJB:=af Tryz.prog true Tryz.f245 zuZ
def zw8:=wl Tryz.f110 {obj:=[(26,[false,true]),(42,[false,false,false,true]),(47,[false,false,false,true]),(56,[false,true]),(64,[false,true]),(71,[false,false,true]),(79,[false,true]),(87,[false,false,false,true])]} []
def zLK:=af Tryz.prog true Tryz.f110 zw8
def zw9:=wl Tryz.f178 {obj:=[(14,[false,true]),(38,[false,false,false,false,true]),(52,[false,false,true])]} []
def zLL:=af Tryz.prog true Tryz.f178 zw9
def zvs:=wl Tryz.f248 {} []
def zJ4:=af Tryz.prog true Tryz.f248 zvs
def zzP:zap:={obj:=[(35,[false,true]),(71,[false,false,true])],acc:=[12]}
@[irreducible] def zke:=wv Tryz.f247 zzP 0 []
def zuX:=wl Tryz.f247 zzP [zke]
def zJz:=af Tryz.prog true Tryz.f247 zuX
def zvr:=wl Tryz.f249 {} []
def zJ3:=af Tryz.prog true Tryz.f249 zvr
def zxh:=wl Tryz.f143 {obj:=[(12,[false,false,true])]} []
def zLT:=af Tryz.prog true Tryz.f143 zxh
def zvW:=wl Tryz.f202 {} []
def zKy:=af Tryz.prog true Tryz.f202 zvW
def zp0:=wl Tryz.f144 {ghost:=[(17,[124])],obj:=[(74,[false,true])]} []
def zzk:=af Tryz.prog true Tryz.f144 zp0
def zxd:=wl Tryz.f116 {obj:=[(32,[false,false,false,false,true])]} []
def zLP:=af Tryz.prog true Tryz.f116 zxd
def zwq:=wl Tryz.f9 {} []
def zK2:=af Tryz.prog true Tryz.f9 zwq
@[irreducible] def zrr:=wv Tryz.f46 {} 0 []
def zwr:=wl Tryz.f46 {} [zrr]
def zK3:=af Tryz.prog true Tryz.f46 zwr
def zpZ:=wl Tryz.f97 {} []
def zzj:=af Tryz.prog true Tryz.f97 zpZ
def zt1:=wl Tryz.f8 {} []
def zIE:=af Tryz.prog false Tryz.f8 zt1
def zt4:=wl Tryz.f14 {obj:=[(19,[true,false]),(34,[true,false]),(49,[true,false]),(75,[true,false]),(94,[false,false,false,true])]} []
def zyW:=af Tryz.prog true Tryz.f14 zt4
def zub:=wl Tryz.f15 {} []
def zIN:=af Tryz.prog true Tryz.f15 zub
def zue:=wl Tryz.f57 {} []
def zIQ:=af Tryz.prog true Tryz.f57 zue
def ztU:=wl Tryz.f58 {} []
def zIx:=af Tryz.prog true Tryz.f58 ztU
def zuc:=wl Tryz.f59 {} []
def zIO:=af Tryz.prog true Tryz.f59 zuc
def zud:=wl Tryz.f111 {} []
def zIP:=af Tryz.prog true Tryz.f111 zud
def ztV:=wl Tryz.f25 {} []
def zIy:=af Tryz.prog true Tryz.f25 ztV
def zxn:=wl Tryz.f112 {} []
def zLZ:=af Tryz.prog true Tryz.f112 zxn
def zp1:=wl Tryz.f179 {} []
def zzl:=af Tryz.prog true Tryz.f179 zp1
@[irreducible] def zrw:=wv Tryz.f250 {} 0 []
def znb:=wl Tryz.f250 {} [zrw]
def zzm:=af Tryz.prog true Tryz.f250 znb
def zxo:=wl Tryz.f180 {} []
def zL0:=af Tryz.prog true Tryz.f180 zxo
def zuf:=wl Tryz.f60 {} []
def zIR:=af Tryz.prog true Tryz.f60 zuf
def zxp:=wl Tryz.f113 {} []
def zL1:=af Tryz.prog true Tryz.f113 zxp
def zoo:zJ:=
 (.seq (.ops [] [oP 14 (.bin .lss (.t 13) (.t 12))] [])
 (.seq (.cond (.t 14) .skip (.exit 0 []))
 (.seq (.block 1 (.seq (.ops [] [oM 15 13,oM 5 15] [14,15])
 (.seq (.draw [] [oM 16 0,oM 17 5,oP 18 (.iad 4 (.t 16) (.t 17)),oP 19 (.ld true 4 (.t 18)),oM 20 1,oM 21 5,oP 22 (.iad 4 (.t 20) (.t 21)),oP 23 (.ld true 4 (.t 22)),oP 24 (.eqs true 4 [(0,0),(1,0),(2,0),(3,0)] (.t 19) (.t 23))] [[],[0],[],[],[0,1,2,3],[0,1,2,3,4],[0,1,2,3],[0,1,2,3],[]] [5,16,17,18,19,20,21,22,23])
 (.cond (.t 24) (.seq (.ops [] [oP 4 (.mv (.c (.d (.bool false))))] [0,1,12,13,24])
 (.ret [4])) .skip))))
 (.ops [] [oP 25 (.bin .add (.t 13) (kI 1)),oM 13 25] [24,25]))))
def zxm:zJ:=
 (.seq (.ops [] [oP 4 (.mv (.c (.d (.bool false))))] [4])
 (.seq (.seq (.ops [] [oM 6 0,oP 7 (.len (.t 6)),oM 8 1,oP 9 (.len (.t 8)),oP 10 (.bin .neq (.t 7) (.t 9))] [6,7,8,9])
 (.cond (.t 10) (.seq (.ops [] [oP 4 (.mv (.c (.d (.bool false))))] [0,1,10])
 (.ret [4])) .skip))
 (.seq (.seq (.ops [] [oM 11 0,oP 12 (.len (.t 11)),oP 13 (.mv (kI 0))] [10,11])
 (.block 0 (.loop [] zoo)))
 (.seq (.ops [] [oP 4 (.mv (.c (.d (.bool true))))] [0,1,12,13,14])
 (.ret [4])))))
def zLY:=af Tryz.prog true Tryz.f181 zxm
def zug:=wl Tryz.f61 {} []
def zIS:=af Tryz.prog true Tryz.f61 zug
@[irreducible] def zop:=wv Tryz.f114 {} 0 []
def zxq:=wl Tryz.f114 {} [zop]
def zL2:=af Tryz.prog true Tryz.f114 zxq
def zxr:=wl Tryz.f182 {} []
def zL3:=af Tryz.prog true Tryz.f182 zxr
def zua:=wl Tryz.f115 {} []
def zIM:=af Tryz.prog true Tryz.f115 zua
def zxl:=wl Tryz.f183 {} []
def zLX:=af Tryz.prog false Tryz.f183 zxl
def zt9:=wl Tryz.f184 {} []
def zIL:=af Tryz.prog true Tryz.f184 zt9
@[irreducible] def zok:=wv Tryz.f16 {} 0 []
def zpW:=wl Tryz.f16 {} [zok]
def zzg:=af Tryz.prog true Tryz.f16 zpW
def zvt:=wl Tryz.f28 {} []
def zJ5:=af Tryz.prog true Tryz.f28 zvt
def zq6:zJ:=
 (.seq (.seq (.ops [] [oM 11 5,oM 12 0,oP 13 (.len (.t 12)),oP 14 (.bin .lss (.t 11) (.t 13))] [11,12,13])
 (.cond (.t 14) .skip (.exit 0 [])))
 (.seq (.block 1 (.seq (.draw [] [oM 17 0,oM 18 5,oP 19 (.iad 7 (.t 17) (.t 18)),oP 20 (.ld true 7 (.t 19)),oM 21 1,oM 22 5,oP 23 (.iad 7 (.t 21) (.t 22)),oP 24 (.ld true 7 (.t 23)),oP 25 (.eqs true 7 [(0,0),(1,0),(2,0),(3,0),(4,0),(5,0),(6,2)] (.t 20) (.t 24))] [[],[0],[],[],[0,1,2,3],[0,1,2,3,4],[0,1,2,3],[0,1,2,3],[]] [14,17,18,19,20,21,22,23,24])
 (.cond (.t 25) (.seq (.ops [] [oP 4 (.mv (.c (.d (.bool false))))] [0,1,5,25])
 (.ret [4])) .skip)))
 (.ops [] [oM 15 5,oP 16 (.bin .add (.t 15) (kI 1)),oM 5 16] [15,16,25])))
def zlh:zJ:=
 (.seq (.ops [] [oP 4 (.mv (.c (.d (.bool false))))] [4])
 (.seq (.seq (.ops [] [oM 6 0,oP 7 (.len (.t 6)),oM 8 1,oP 9 (.len (.t 8)),oP 10 (.bin .neq (.t 7) (.t 9))] [6,7,8,9])
 (.cond (.t 10) (.seq (.ops [] [oP 4 (.mv (.c (.d (.bool false))))] [0,1,10])
 (.ret [4])) .skip))
 (.seq (.seq (.ops [] [oP 5 (.mv (kI 0))] [10])
 (.block 0 (.loop [] zq6)))
 (.seq (.ops [] [oP 4 (.mv (.c (.d (.bool true))))] [0,1,5,14])
 (.ret [4])))))
def zy2:=af Tryz.prog true Tryz.f73 zlh
def zoe:zJ:=
 (.seq (.seq (.ops [] [oM 30 5,oP 31 (.fad false 1 1 (.t 2)),oP 32 (.ld false 1 (.t 31)),oP 33 (.len (.t 32)),oP 34 (.bin .lss (.t 30) (.t 33))] [30,31,32,33])
 (.cond (.t 34) .skip (.exit 0 [2,3])))
 (.seq (.block 1 (.seq (.draw [] [oP 37 (.fad false 1 1 (.t 2)),oP 38 (.ld false 1 (.t 37)),oM 39 5,oP 40 (.iad 3 (.t 38) (.t 39)),oP 41 (.ld true 3 (.t 40)),oP 42 (.fad false 1 1 (.t 3)),oP 43 (.ld false 1 (.t 42)),oM 44 5,oP 45 (.iad 3 (.t 43) (.t 44)),oP 46 (.ld true 3 (.t 45)),oP 47 (.eqs true 3 [(0,0),(1,0),(2,0)] (.t 41) (.t 46))] [[],[],[0,1],[],[],[0,1,2,3,4],[0,1,2,3,4],[0,1,2,3,4,5,6],[0,1,2,3,4],[0,1,2,3,4],[]] [34,37,38,39,40,41,42,43,44,45,46])
 (.cond (.t 47) (.seq (.ops [] [oP 4 (.mv (.c (.d (.bool false))))] [2,3,5,47])
 (.ret [4])) .skip)))
 (.ops [] [oM 35 5,oP 36 (.bin .add (.t 35) (kI 1)),oM 5 36] [35,36,47])))
def zof:zJ:=
 (.seq (.seq (.ops [] [oM 48 6,oP 49 (.fad false 2 1 (.t 2)),oP 50 (.ld false 1 (.t 49)),oP 51 (.len (.t 50)),oP 52 (.bin .lss (.t 48) (.t 51))] [48,49,50,51])
 (.cond (.t 52) .skip (.exit 2 [])))
 (.seq (.block 3 (.seq (.draw [] [oP 55 (.fad false 2 1 (.t 2)),oP 56 (.ld false 1 (.t 55)),oM 57 6,oP 58 (.iad 1 (.t 56) (.t 57)),oP 59 (.ld false 1 (.t 58)),oP 60 (.fad false 2 1 (.t 3)),oP 61 (.ld false 1 (.t 60)),oM 62 6,oP 63 (.iad 1 (.t 61) (.t 62)),oP 64 (.ld false 1 (.t 63)),oP 65 (.bin .neq (.t 59) (.t 64))] [[],[],[0,1],[],[],[0,1,2,3,4],[0,1,2,3,4],[0,1,2,3,4,5,6],[0,1,2,3,4],[0,1,2,3,4],[]] [52,55,56,57,58,59,60,61,62,63,64])
 (.cond (.t 65) (.seq (.ops [] [oP 4 (.mv (.c (.d (.bool false))))] [2,3,6,65])
 (.ret [4])) .skip)))
 (.ops [] [oM 53 6,oP 54 (.bin .add (.t 53) (kI 1)),oM 6 54] [53,54,65])))
def zvC:zJ:=
 (.seq (.ops [] [oP 2 (.box (.t 0)),oP 3 (.box (.t 1)),oP 4 (.mv (.c (.d (.bool false))))] [0,1,4])
 (.seq (.seq (.ops [] [oP 7 (.fad false 0 1 (.t 2)),oP 8 (.ld false 1 (.t 7)),oP 9 (.fad false 0 1 (.t 3)),oP 10 (.ld false 1 (.t 9)),oP 11 (.bin .neq (.t 8) (.t 10)),oM 12 11,oQ 13 (.fad false 1 1 (.t 2)) 12 false,oQ 14 (.ld false 1 (.t 13)) 12 false,oQ 15 (.len (.t 14)) 12 false,oQ 16 (.fad false 1 1 (.t 3)) 12 false,oQ 17 (.ld false 1 (.t 16)) 12 false,oQ 18 (.len (.t 17)) 12 false,oQ 19 (.bin .neq (.t 15) (.t 18)) 12 false,oP 20 (.pick (.t 12) (.c (.d (.bool true))) (.t 19)),oM 21 20,oQ 22 (.fad false 2 1 (.t 2)) 21 false,oQ 23 (.ld false 1 (.t 22)) 21 false,oQ 24 (.len (.t 23)) 21 false,oQ 25 (.fad false 2 1 (.t 3)) 21 false,oQ 26 (.ld false 1 (.t 25)) 21 false,oQ 27 (.len (.t 26)) 21 false,oQ 28 (.bin .neq (.t 24) (.t 27)) 21 false,oP 29 (.pick (.t 21) (.c (.d (.bool true))) (.t 28))] [7,8,9,10,11,12,13,14,15,16,17,18,19,20,21,22,23,24,25,26,27,28])
 (.cond (.t 29) (.seq (.ops [] [oP 4 (.mv (.c (.d (.bool false))))] [2,3,29])
 (.ret [4])) .skip))
 (.seq (.seq (.ops [] [oP 5 (.mv (kI 0))] [29])
 (.block 0 (.loop [] zoe)))
 (.seq (.seq (.ops [] [oP 6 (.mv (kI 0))] [5,34])
 (.block 2 (.loop [] zof)))
 (.seq (.ops [] [oP 4 (.mv (.c (.d (.bool true))))] [2,3,6,52])
 (.ret [4]))))))
def zKe:=af Tryz.prog true Tryz.f63 zvC
def zvd:=wl Tryz.f27 {} []
def zJP:=af Tryz.prog true Tryz.f27 zvd
def zuC:=wl Tryz.f71 {} []
def zJe:=af Tryz.prog true Tryz.f71 zuC
def zuR:=wl Tryz.f72 {} []
def zJt:=af Tryz.prog true Tryz.f72 zuR
def zrf:zJ:=
 (.seq (.seq (.ops [] [oM 11 5,oM 12 0,oP 13 (.len (.t 12)),oP 14 (.bin .lss (.t 11) (.t 13))] [11,12,13])
 (.cond (.t 14) .skip (.exit 0 [])))
 (.seq (.block 1 (.seq (.draw [] [oM 17 0,oM 18 5,oP 19 (.iad 8 (.t 17) (.t 18)),oP 20 (.ld true 8 (.t 19)),oM 21 1,oM 22 5,oP 23 (.iad 8 (.t 21) (.t 22)),oP 24 (.ld true 8 (.t 23)),oP 25 (.eqs true 8 [(0,0),(1,0),(2,0),(3,0),(4,0),(5,0),(6,2),(7,0)] (.t 20) (.t 24))] [[],[0],[],[],[0,1,2,3],[0,1,2,3,4],[0,1,2,3],[0,1,2,3],[]] [14,17,18,19,20,21,22,23,24])
 (.cond (.t 25) (.seq (.ops [] [oP 4 (.mv (.c (.d (.bool false))))] [0,1,5,25])
 (.ret [4])) .skip)))
 (.ops [] [oM 15 5,oP 16 (.bin .add (.t 15) (kI 1)),oM 5 16] [15,16,25])))
def zlk:zJ:=
 (.seq (.ops [] [oP 4 (.mv (.c (.d (.bool false))))] [4])
 (.seq (.seq (.ops [] [oM 6 0,oP 7 (.len (.t 6)),oM 8 1,oP 9 (.len (.t 8)),oP 10 (.bin .neq (.t 7) (.t 9))] [6,7,8,9])
 (.cond (.t 10) (.seq (.ops [] [oP 4 (.mv (.c (.d (.bool false))))] [0,1,10])
 (.ret [4])) .skip))
 (.seq (.seq (.ops [] [oP 5 (.mv (kI 0))] [10])
 (.block 0 (.loop [] zrf)))
 (.seq (.ops [] [oP 4 (.mv (.c (.d (.bool true))))] [0,1,5,14])
 (.ret [4])))))
def zzc:=af Tryz.prog true Tryz.f118 zlk
def zq7:zJ:=
 (.seq (.seq (.ops [] [oM 11 5,oM 12 0,oP 13 (.len (.t 12)),oP 14 (.bin .lss (.t 11) (.t 13))] [11,12,13])
 (.cond (.t 14) .skip (.exit 0 [])))
 (.seq (.block 1 (.seq (.draw [] [oM 17 0,oM 18 5,oP 19 (.iad 2 (.t 17) (.t 18)),oP 20 (.ld true 2 (.t 19)),oM 21 1,oM 22 5,oP 23 (.iad 2 (.t 21) (.t 22)),oP 24 (.ld true 2 (.t 23)),oP 25 (.eqs true 2 [(0,0),(1,0)] (.t 20) (.t 24))] [[],[0],[],[],[0,1,2,3],[0,1,2,3,4],[0,1,2,3],[0,1,2,3],[]] [14,17,18,19,20,21,22,23,24])
 (.cond (.t 25) (.seq (.ops [] [oP 4 (.mv (.c (.d (.bool false))))] [0,1,5,25])
 (.ret [4])) .skip)))
 (.ops [] [oM 15 5,oP 16 (.bin .add (.t 15) (kI 1)),oM 5 16] [15,16,25])))
def zlj:zJ:=
 (.seq (.ops [] [oP 4 (.mv (.c (.d (.bool false))))] [4])
 (.seq (.seq (.ops [] [oM 6 0,oP 7 (.len (.t 6)),oM 8 1,oP 9 (.len (.t 8)),oP 10 (.bin .neq (.t 7) (.t 9))] [6,7,8,9])
 (.cond (.t 10) (.seq (.ops [] [oP 4 (.mv (.c (.d (.bool false))))] [0,1,10])
 (.ret [4])) .skip))
 (.seq (.seq (.ops [] [oP 5 (.mv (kI 0))] [10])
 (.block 0 (.loop [] zq7)))
 (.seq (.ops [] [oP 4 (.mv (.c (.d (.bool true))))] [0,1,5,14])
 (.ret [4])))))
def zy6:=af Tryz.prog true Tryz.f119 zlj
def zuh:=wl Tryz.f17 {obj:=[(9,[false,false,true]),(12,[false,false,false,false,true])]} []
def zIT:=af Tryz.prog true Tryz.f17 zuh
def zt7:=wl Tryz.f64 {} []
def zIJ:=af Tryz.prog true Tryz.f64 zt7
def zAl:zJ:=
 (.seq (.seq (.ops [] [oM 13 7,oM 14 1,oP 15 (.bin .lss (.t 13) (.t 14))] [13,14])
 (.cond (.t 15) .skip (.exit 0 [4,5])))
 (.seq (.block 1 (.seq (.ops [] [oP 19 (.ld true 23 (.t 5)),oP 20 (.bsl 1 1 (.d (.str [])) [(0,.c (.d (.str [109])))]),oP 21 (.build [aI 0,aI 0,aI 0,aI 0,aI 0,aI 0,.xsl [],.xsl []] [(0,(1,kI 1)),(6,(1,.t 20))]),oP 22 (.call 116 [false,false,true] [.t 19,.t 21]),oM 18 22,oP 23 (.ext (.t 18) 0),oP 24 (.ext (.t 18) 1),oP 25 (.ext (.t 18) 2),oN (.st 23 (.t 5) (.t 23))] [15,18,19,20,21,22,23,24,25])
 (.ops [] [oP 27 (.ld true 23 (.t 5)),oP 28 (.call 117 [false,true] [.t 27]),oM 26 28,oP 29 (.ext (.t 26) 0),oP 30 (.ext (.t 26) 1),oP 31 (.ext (.t 26) 2),oN (.st 23 (.t 5) (.t 29))] [26,27,28,29,30,31])))
 (.ops [] [oM 16 7,oP 17 (.bin .add (.t 16) (kI 1)),oM 7 17] [16,17])))
def ztW:zJ:=
 (.seq (.ops [] [oP 2 (.box (.t 0)),oP 4 (.alloc (.agg [.xsl [],.xsl [],aI 0,aI 0,.xsl [],aI 0,.xsl [],.xsl [],aI 0,aI 0,aI 0]))] [0])
 (.seq (.ops [] [oP 9 (.ld true 8 (.t 2)),oP 10 (.call 44 [false,true] [.t 9]),oM 8 10,oP 11 (.ext (.t 8) 0),oP 12 (.ext (.t 8) 1),oP 5 (.alloc (.agg [aI 0,aI 0,aI 0,aI 0,aI 0,aI 0,aI 0,aI 0,.xsl [],.xsl [],aI 0,aI 0,.xsl [],aI 0,.xsl [],.xsl [],aI 0,aI 0,aI 0,.xsl [],.xsl [],aI 0,.xsl []])),oN (.st 23 (.t 5) (.t 11)),oM 6 12] [2,6,8,9,10,11,12])
 (.seq (.seq (.ops [] [oP 7 (.mv (kI 0))] [])
 (.block 0 (.loop [] zAl)))
 (.seq (.ops [] [oP 32 (.fad true 8 11 (.t 5)),oP 33 (.ld true 11 (.t 32)),oN (.st 11 (.t 4) (.t 33))] [1,5,7,15,32,33])
 (.ret [4])))))
def zIz:=af Tryz.prog true Tryz.f65 ztW
def zqP:zap:={obj:=[(41,[false,false,true])]}
@[irreducible] def zAo:=wv Tryz.f117 zqP 0 []
@[irreducible] def zNN:=wv Tryz.f117 zqP 1 [zAo]
def zxc:=wl Tryz.f117 zqP [zAo,zNN]
def zLO:=af Tryz.prog true Tryz.f117 zxc
@[irreducible] def zNM:=wv Tryz.f185 {} 0 []
def zxb:=wl Tryz.f185 {} [zNM]
def zLN:=af Tryz.prog true Tryz.f185 zxb
def zzK:zap:={obj:=[(24,[false,false,false,false,true]),(42,[false,false,false,true])],acc:=[14]}
@[irreducible] def zNL:=wv Tryz.f19 zzK 0 []
def zui:=wl Tryz.f19 zzK [zNL]
def zIU:=af Tryz.prog true Tryz.f19 zui
end Go.Proofs.YtjalkkalhdnplaaGreat
