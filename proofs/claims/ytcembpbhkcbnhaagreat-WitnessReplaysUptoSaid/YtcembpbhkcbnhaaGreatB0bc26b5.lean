/-
  Functions of the program, as the calculus has them.
-/
import Derived.Test.YtcembpbhkcbnhaaGreatBe288a21
import Derived.Test.YtcembpbhkcbnhaaGreatProg
set_option linter.unusedSimpArgs false
set_option linter.unusedVariables false
set_option maxHeartbeats 10000000
set_option maxRecDepth 100000
namespace Go.Proofs.YtcembpbhkcbnhaaGreat
open Go Go.Sim
def zuD:=wl Tryz.f275 {} []
def zws:=af Tryz.prog true Tryz.f275 zuD
def zuF:=wl Tryz.f228 {} []
def zwv:=af Tryz.prog true Tryz.f228 zuF
def zl1:=wl Tryz.f269 {} []
def zwh:=af Tryz.prog true Tryz.f269 zl1
def zz4:zn:={acc:=[16]}
@[irreducible] def zko:=wv Tryz.f225 zz4 0 []
def zER:=wl Tryz.f225 zz4 [zko]
def zwS:=af Tryz.prog true Tryz.f225 zER
def zEX:=wl Tryz.f232 {} []
def zw1:=af Tryz.prog true Tryz.f232 zEX
def zEf:=wl Tryz.f262 {} []
def zvZ:=af Tryz.prog true Tryz.f262 zEf
def zEc:=wl Tryz.f263 {} []
def zvV:=af Tryz.prog true Tryz.f263 zEc
def zuu:=wl Tryz.f243 {ghost:=[(5,[6000018])]} []
def zwb:=af Tryz.prog true Tryz.f243 zuu
def zqM:=wl Tryz.f273 {} []
def zv4:=af Tryz.prog true Tryz.f273 zqM
@[irreducible] def zAI:=wv Tryz.f264 {} 0 []
def zuE:=wl Tryz.f264 {} [zAI]
def zwt:=af Tryz.prog true Tryz.f264 zuE
def zEp:=wl Tryz.f270 {obj:=[(33,[false,false,true])]} []
def zwg:=af Tryz.prog true Tryz.f270 zEp
def zAi:zn:={obj:=[(13,[false,true]),(38,[false,true])]}
@[irreducible] def zkr:=wv Tryz.f149 zAi 0 []
def zFS:=wl Tryz.f149 zAi [zkr]
def zyn:=af Tryz.prog true Tryz.f149 zFS
def zE5:=wl Tryz.f92 {obj:=[(48,[false,false,false,true]),(55,[false,false,false,true]),(62,[false,false,false,true]),(75,[false,false,false,true])]} []
def zw9:=af Tryz.prog true Tryz.f92 zE5
def zD8:=wl Tryz.f128 {} []
def zvR:=af Tryz.prog true Tryz.f128 zD8
def zFU:=wl Tryz.f114 {obj:=[(26,[false,true]),(54,[false,false,false,true]),(60,[false,false,false,true]),(76,[false,false,false,true]),(87,[false,false,false,false,true]),(92,[false,false,false,true]),(101,[false,true]),(109,[false,true]),(135,[false,true]),(150,[false,false,false,true])]} []
def zyp:=af Tryz.prog true Tryz.f114 zFU
def zE6:=wl Tryz.f91 {obj:=[(37,[false,true])]} []
def zxa:=af Tryz.prog true Tryz.f91 zE6
@[irreducible] def zg0:=wv Tryz.f125 {} 0 []
def zjO:=wl Tryz.f125 {} [zg0]
def zvO:=af Tryz.prog true Tryz.f125 zjO
def zur:=wl Tryz.f126 {} []
def zvQ:=af Tryz.prog true Tryz.f126 zur
def zFW:=wl Tryz.f150 {} []
def zyr:=af Tryz.prog true Tryz.f150 zFW
def zFV:=wl Tryz.f151 {obj:=[(11,[false,true]),(24,[false,false,true]),(30,[false,false,true]),(43,[false,true]),(73,[false,false,true])]} []
def zyq:=af Tryz.prog true Tryz.f151 zFV
def zFX:=wl Tryz.f153 {obj:=[(26,[false,false,false,false,true]),(41,[false,false,false,false,false,true]),(54,[false,false,false,false,false,true])]} []
def zys:=af Tryz.prog true Tryz.f153 zFX
def zEy:=wl Tryz.f187 {} []
def zwz:=af Tryz.prog true Tryz.f187 zEy
def zEV:=wl Tryz.f227 {} []
def zwX:=af Tryz.prog true Tryz.f227 zEV
def zEI:=wl Tryz.f267 {} []
def zwJ:=af Tryz.prog true Tryz.f267 zEI
def zEL:=wl Tryz.f188 {} []
def zwM:=af Tryz.prog true Tryz.f188 zEL
def zEo:=wl Tryz.f231 {obj:=[(31,[false,false,false,true])]} []
def zwa:=af Tryz.prog true Tryz.f231 zEo
def zEB:=wl Tryz.f189 {} []
def zwC:=af Tryz.prog true Tryz.f189 zEB
def zuC:=wl Tryz.f233 {ghost:=[(12,[98])]} []
def zwr:=af Tryz.prog true Tryz.f233 zuC
def zFY:=wl Tryz.f115 {obj:=[(20,[false,true]),(27,[false,false,false,true]),(45,[false,false,false,true]),(58,[false,false,false,false,true]),(65,[false,true]),(83,[false,false,false,true])]} []
def zyt:=af Tryz.prog true Tryz.f115 zFY
def zFZ:=wl Tryz.f116 {obj:=[(23,[false,true]),(45,[false,false,false,true]),(65,[false,false,false,true]),(92,[false,true]),(129,[false,true])]} []
def zyu:=af Tryz.prog true Tryz.f116 zFZ
@[irreducible] def zAT:=wv Tryz.f155 {} 0 []
def zFd:=wl Tryz.f155 {} [zAT]
def zxk:=af Tryz.prog true Tryz.f155 zFd
def zsG:zg:=
 (.seq (.seq (.ops [] [oM 11 5,oM 12 0,oP 13 (.len (.t 12)),oP 14 (.bin .lss (.t 11) (.t 13))] [11,12,13])
 (.cond (.t 14) .skip (.exit 0 [])))
 (.seq (.block 1 (.seq (.draw [] [oM 17 0,oM 18 5,oP 19 (.iad 4 (.t 17) (.t 18)),oP 20 (.ld true 4 (.t 19)),oM 21 1,oM 22 5,oP 23 (.iad 4 (.t 21) (.t 22)),oP 24 (.ld true 4 (.t 23)),oP 25 (.eqs true 4 [(0,0),(1,0),(2,0),(3,0)] (.t 20) (.t 24))] [[],[0],[],[],[0,1,2,3],[0,1,2,3,4],[0,1,2,3],[0,1,2,3],[]] [14,17,18,19,20,21,22,23,24])
 (.cond (.t 25) (.seq (.ops [] [oP 4 (.mv (.c (.d (.bool false))))] [0,1,5,25])
 (.ret [4])) .skip)))
 (.ops [] [oM 15 5,oP 16 (.bin .add (.t 15) (kI 1)),oM 5 16] [15,16,25])))
def zuK:zg:=
 (.seq (.ops [] [oP 4 (.mv (.c (.d (.bool false))))] [4])
 (.seq (.seq (.ops [] [oM 6 0,oP 7 (.len (.t 6)),oM 8 1,oP 9 (.len (.t 8)),oP 10 (.bin .neq (.t 7) (.t 9))] [6,7,8,9])
 (.cond (.t 10) (.seq (.ops [] [oP 4 (.mv (.c (.d (.bool false))))] [0,1,10])
 (.ret [4])) .skip))
 (.seq (.seq (.ops [] [oP 5 (.mv (kI 0))] [10])
 (.block 0 (.loop [] zsG)))
 (.seq (.ops [] [oP 4 (.mv (.c (.d (.bool true))))] [0,1,5,14])
 (.ret [4])))))
def zxl:=af Tryz.prog true Tryz.f156 zuK
@[irreducible] def zsH:=wv Tryz.f157 {} 0 []
def zFe:=wl Tryz.f157 {} [zsH]
def zxm:=af Tryz.prog true Tryz.f157 zFe
def zuL:=wl Tryz.f191 {} []
def zxn:=af Tryz.prog true Tryz.f191 zuL
def zF0:=wl Tryz.f117 {obj:=[(24,[false,true]),(33,[false,true]),(50,[false,false,false,true]),(55,[false,false,false,true]),(64,[false,true]),(72,[false,true]),(107,[false,false,false,true])]} []
def zyv:=af Tryz.prog true Tryz.f117 zF0
def zAj:zn:={ghost:=[(15,[4000094]),(22,[6500094])],obj:=[(22,[false,true]),(28,[false,false,true]),(30,[false,false,true]),(38,[false,false,true]),(50,[false,false,false,true]),(59,[false,false,true]),(100,[false,false,true]),(112,[false,false,true])]}
@[irreducible] def zks:=wv Tryz.f158 zAj 0 []
def zF1:=wl Tryz.f158 zAj [zks]
def zyw:=af Tryz.prog true Tryz.f158 zF1
def zF2:=wl Tryz.f159 {} []
def zyx:=af Tryz.prog true Tryz.f159 zF2
def zz7:zn:={ghost:=[(10,[4000070])],acc:=[11]}
@[irreducible] def zgm:=wv Tryz.f192 zz7 0 []
def zE2:=wl Tryz.f192 zz7 [zgm]
def zw6:=af Tryz.prog true Tryz.f192 zE2
def zEh:=wl Tryz.f193 {} []
def zv1:=af Tryz.prog true Tryz.f193 zEh
def zEg:=wl Tryz.f194 {} []
def zv0:=af Tryz.prog true Tryz.f194 zEg
def zz0:zn:={obj:=[(44,[false,false,true])]}
@[irreducible] def zmI:=wv Tryz.f195 zz0 0 []
def zEx:=wl Tryz.f195 zz0 [zmI]
def zwy:=af Tryz.prog true Tryz.f195 zEx
def zF3:=wl Tryz.f118 {obj:=[(26,[false,true]),(41,[false,false,true]),(42,[false,false,false,true]),(47,[false,false,false,true]),(56,[false,true]),(64,[false,true]),(71,[false,false,true]),(79,[false,true]),(87,[false,false,false,true])]} []
def zyy:=af Tryz.prog true Tryz.f118 zF3
def zl2:=wl Tryz.f160 {} []
def zyf:=af Tryz.prog true Tryz.f160 zl2
def zF5:=wl Tryz.f161 {obj:=[(16,[false,true]),(19,[false,true]),(52,[false,false,true]),(59,[false,false,true]),(65,[false,false,false,true]),(67,[false,true])]} []
def zyB:=af Tryz.prog true Tryz.f161 zF5
def zqY:=wl Tryz.f196 {obj:=[(6,[false,true])]} []
def zyC:=af Tryz.prog true Tryz.f196 zqY
def zqX:=wl Tryz.f199 {} []
def zyz:=af Tryz.prog true Tryz.f199 zqX
def zEE:=wl Tryz.f197 {obj:=[(21,[false,false,true])]} []
def zwF:=af Tryz.prog true Tryz.f197 zEE
def zEl:=wl Tryz.f236 {ghost:=[(7,[6000025])],obj:=[(25,[false,true]),(35,[false,false,false,true])]} []
def zv6:=af Tryz.prog true Tryz.f236 zEl
def zF4:=wl Tryz.f198 {} []
def zyA:=af Tryz.prog true Tryz.f198 zF4
def zF6:=wl Tryz.f119 {obj:=[(26,[false,true]),(41,[false,false,true]),(42,[false,false,false,true]),(47,[false,false,false,true]),(56,[false,true]),(64,[false,true]),(71,[false,false,true]),(79,[false,true]),(87,[false,false,false,true])]} []
def zyD:=af Tryz.prog true Tryz.f119 zF6
def zF8:=wl Tryz.f163 {obj:=[(14,[false,true]),(17,[false,true]),(45,[false,false,true]),(52,[false,false,false,true]),(54,[false,true]),(56,[false,true])]} []
def zyG:=af Tryz.prog true Tryz.f163 zF8
def zq0:=wl Tryz.f201 {obj:=[(6,[false,true])]} []
def zyH:=af Tryz.prog true Tryz.f201 zq0
def zqZ:=wl Tryz.f204 {} []
def zyE:=af Tryz.prog true Tryz.f204 zqZ
def zEF:=wl Tryz.f202 {obj:=[(41,[false,false,false,true]),(50,[false,false,false,true]),(55,[false,true]),(59,[false,false,false,true]),(62,[false,true]),(66,[false,false,false,true])]} []
def zwG:=af Tryz.prog true Tryz.f202 zEF
def zr4:zn:={obj:=[(41,[false,false,true]),(80,[false,false,false,true])]}
@[irreducible] def zmL:=wv Tryz.f239 zr4 0 []
@[irreducible] def zmM:=wv Tryz.f239 zr4 1 []
def zEU:=wl Tryz.f239 zr4 [zmL,zmM]
def zwW:=af Tryz.prog true Tryz.f239 zEU
def zF7:=wl Tryz.f203 {} []
def zyF:=af Tryz.prog true Tryz.f203 zF7
def zF9:=wl Tryz.f120 {obj:=[(26,[false,true]),(41,[false,false,true]),(42,[false,false,false,true]),(47,[false,false,false,true]),(56,[false,true]),(64,[false,true]),(71,[false,false,true]),(79,[false,true]),(87,[false,false,false,true])]} []
def zyI:=af Tryz.prog true Tryz.f120 zF9
def zGb:=wl Tryz.f164 {obj:=[(14,[false,true]),(17,[false,true]),(23,[false,false,true]),(36,[false,true]),(42,[false,false,false,true]),(44,[false,true]),(46,[false,true])]} []
def zyL:=af Tryz.prog true Tryz.f164 zGb
def zq2:=wl Tryz.f206 {obj:=[(6,[false,true])]} []
def zyM:=af Tryz.prog true Tryz.f206 zq2
def zq1:=wl Tryz.f209 {} []
def zyJ:=af Tryz.prog true Tryz.f209 zq1
def zz5:zn:={obj:=[(60,[false,true]),(62,[false,true]),(92,[false,true]),(96,[false,false,false,true])]}
@[irreducible] def zsx:=wv Tryz.f207 zz5 0 []
def zES:=wl Tryz.f207 zz5 [zsx]
def zwT:=af Tryz.prog true Tryz.f207 zES
def zGa:=wl Tryz.f208 {} []
def zyK:=af Tryz.prog true Tryz.f208 zGa
def zGc:=wl Tryz.f121 {obj:=[(26,[false,true]),(39,[false,false,false,true]),(44,[false,false,false,true]),(53,[false,true]),(61,[false,true]),(68,[false,false,true]),(76,[false,true]),(84,[false,false,false,true])]} []
def zyN:=af Tryz.prog true Tryz.f121 zGc
def zAk:zn:={ghost:=[(22,[4000115]),(24,[6500115])],obj:=[(21,[false,true]),(36,[false,false,true]),(67,[false,false,true]),(90,[false,false,false,false,true]),(100,[false,false,true])]}
@[irreducible] def zkt:=wv Tryz.f165 zAk 0 []
def zGd:=wl Tryz.f165 zAk [zkt]
def zyO:=af Tryz.prog true Tryz.f165 zGd
def zz6:zn:={ghost:=[(9,[4000049])]}
@[irreducible] def zhV:=wv Tryz.f210 zz6 0 []
def zEY:=wl Tryz.f210 zz6 [zhV]
def zw2:=af Tryz.prog true Tryz.f210 zEY
def zr1:zn:={obj:=[(24,[false,true]),(26,[false,true]),(47,[false,false,true]),(74,[false,false,true])]}
@[irreducible] def zmJ:=wv Tryz.f211 zr1 0 []
@[irreducible] def zmK:=wv Tryz.f211 zr1 1 []
def zEC:=wl Tryz.f211 zr1 [zmJ,zmK]
def zwD:=af Tryz.prog true Tryz.f211 zEC
def zGe:=wl Tryz.f122 {obj:=[(26,[false,true]),(42,[false,false,false,true]),(47,[false,false,false,true]),(56,[false,true]),(64,[false,true]),(71,[false,false,true]),(79,[false,true]),(87,[false,false,false,true])]} []
def zyP:=af Tryz.prog true Tryz.f122 zGe
def zGf:=wl Tryz.f166 {obj:=[(14,[false,true]),(38,[false,false,false,false,true]),(52,[false,false,true])]} []
def zyQ:=af Tryz.prog true Tryz.f166 zGf
def zE1:=wl Tryz.f214 {} []
def zw5:=af Tryz.prog true Tryz.f214 zE1
def zz1:zn:={obj:=[(35,[false,true]),(71,[false,false,true])],acc:=[12]}
@[irreducible] def zkn:=wv Tryz.f213 zz1 0 []
def zEA:=wl Tryz.f213 zz1 [zkn]
def zwB:=af Tryz.prog true Tryz.f213 zEA
def zE0:=wl Tryz.f215 {} []
def zw4:=af Tryz.prog true Tryz.f215 zE0
def zGn:=wl Tryz.f56 {obj:=[(12,[false,false,true])]} []
def zyW:=af Tryz.prog true Tryz.f56 zGn
def zuO:=wl Tryz.f90 {} []
def zxA:=af Tryz.prog true Tryz.f90 zuO
def zu0:=wl Tryz.f57 {ghost:=[(17,[124])],obj:=[(74,[false,true])]} []
def zy0:=af Tryz.prog true Tryz.f57 zu0
def zGj:=wl Tryz.f25 {obj:=[(32,[false,false,false,false,true])]} []
def zyS:=af Tryz.prog true Tryz.f25 zGj
def zFH:=wl Tryz.f46 {} []
def zx6:=af Tryz.prog true Tryz.f46 zFH
@[irreducible] def zAX:=wv Tryz.f84 {} 0 []
def zFI:=wl Tryz.f84 {} [zAX]
def zx7:=af Tryz.prog true Tryz.f84 zFI
def zuW:=wl Tryz.f110 {} []
def zx8:=af Tryz.prog true Tryz.f110 zuW
def zagL:zn:={ghost:=[(8,[6000035])]}
@[irreducible] def zafv:=wv Tryz.f10 zagL 0 []
@[irreducible] def zaf0:=wv Tryz.f10 zagL 1 [zafv]
def zahJ:=wl Tryz.f10 zagL [zafv,zaf0]
def zakH:=af Tryz.prog false Tryz.f10 zahJ
def zagE:zg:=
 (.seq (.ops [] [oP 0 (.mv (.c (.d (.bool false))))] [0])
 (.seq (.ops [] [oP 8 (.call 24 [] [kI 1,kI 2,kI 1]),oP 9 (.call 22 [false,true] [.t 8]),oM 7 9,oP 10 (.ext (.t 7) 0),oP 11 (.ext (.t 7) 1),oP 1 (.alloc (.agg [aI 0,aI 0,aI 0,aI 0,aI 0,aI 0,aI 0,aI 0,.xsl [],.xsl [],aI 0,aI 0,.xsl [],aI 0,.xsl [],.xsl [],aI 0,aI 0,aI 0,.xsl [],.xsl [],aI 0,.xsl []])),oN (.st 23 (.t 1) (.t 10)),oM 2 11] [2,7,8,9,10,11])
 (.seq (.ops [] [oP 13 (.ld true 23 (.t 1)),oP 14 (.bsl 1 1 (.d (.str [])) [(0,.c (.d (.str [97])))]),oP 15 (.build [aI 0,aI 0,aI 0,aI 0,aI 0,aI 0,.xsl [],.xsl []] [(0,(1,kI 1)),(6,(1,.t 14))]),oP 16 (.call 25 [false,false,true] [.t 13,.t 15]),oM 12 16,oP 17 (.ext (.t 12) 0),oP 18 (.ext (.t 12) 1),oP 19 (.ext (.t 12) 2),oN (.st 23 (.t 1) (.t 17))] [12,13,14,15,16,17,18,19])
 (.seq (.ops [] [oP 21 (.ld true 23 (.t 1)),oP 22 (.call 26 [false,true] [.t 21]),oM 20 22,oP 23 (.ext (.t 20) 0),oP 24 (.ext (.t 20) 1),oP 25 (.ext (.t 20) 2),oN (.st 23 (.t 1) (.t 23))] [20,21,22,23,24,25])
 (.seq (.ops [] [oP 27 (.ld true 23 (.t 1)),oP 28 (.build [aI 0,aI 0,aI 0,aI 0,aI 0,aI 0,.xsl [],.xsl []] [(0,(1,kI 2)),(2,(1,kI 1)),(3,(1,kI 3))]),oP 29 (.call 25 [false,false,true] [.t 27,.t 28]),oM 26 29,oP 30 (.ext (.t 26) 0),oP 31 (.ext (.t 26) 1),oP 32 (.ext (.t 26) 2),oN (.st 23 (.t 1) (.t 30))] [26,27,28,29,30,31,32])
 (.seq (.ops [] [oP 34 (.ld true 23 (.t 1)),oP 35 (.call 26 [false,true] [.t 34]),oM 33 35,oP 36 (.ext (.t 33) 0),oP 37 (.ext (.t 33) 1),oP 38 (.ext (.t 33) 2),oN (.st 23 (.t 1) (.t 36))] [33,34,35,36,37,38])
 (.seq (.ops [] [oP 39 (.fad false 20 1 (.t 1)),oP 40 (.ld false 1 (.t 39)),oP 41 (.call 16 [false,true] [.t 40]),oM 3 41] [39,40,41])
 (.seq (.ops [] [oP 43 (.fad true 0 8 (.t 1)),oP 44 (.ld true 8 (.t 43)),oM 45 3,oP 46 (.call 5 [false,false,true] [.t 44,.t 45]),oM 42 46,oP 47 (.ext (.t 42) 0),oP 48 (.ext (.t 42) 1),oP 49 (.ext (.t 42) 2),oP 4 (.alloc (.agg [aI 0,aI 0,aI 0,.xsl []])),oN (.st 4 (.t 4) (.t 47)),oM 5 48,oM 6 49] [4,42,43,44,45,46,47,48,49])
 (.seq (.ops [] [oM 50 3,oP 51 (.len (.t 50)),oP 52 (.bin .eql (.t 51) (kI 2)),oM 53 52,oQ 54 (.mv (.t 3)) 53 true,oQ 55 (.iad 10 (.t 54) (kI 0)) 53 true,oQ 56 (.fad false 3 1 (.t 55)) 53 true,oQ 57 (.ld false 1 (.t 56)) 53 true,oQ 58 (.bin .eql (.t 57) (kI 2)) 53 true,oP 59 (.pick (.t 53) (.t 58) (.c (.d (.bool false)))),oM 60 59,oQ 61 (.mv (.t 5)) 60 true,oQ 62 (.bin .eql (.t 61) (kI 2)) 60 true,oP 63 (.pick (.t 60) (.t 62) (.c (.d (.bool false)))),oM 64 63,oQ 65 (.mv (.t 6)) 64 true,oQ 66 (.bin .eql (.t 65) (kI 0)) 64 true,oP 67 (.pick (.t 64) (.t 66) (.c (.d (.bool false)))),oM 68 67,oQ 69 (.ld true 23 (.t 1)) 68 true,oQ 70 (.call 27 [] [.t 69]) 68 true,oQ 71 (.bin .eql (.t 70) (kI 0)) 68 true,oP 72 (.pick (.t 68) (.t 71) (.c (.d (.bool false)))),oM 73 72,oQ 74 (.ld true 23 (.t 1)) 73 true,oQ 75 (.call 28 [] [.t 74]) 73 true,oP 76 (.pick (.t 73) (.t 75) (.c (.d (.bool false)))),oM 0 76] [1,3,5,6,50,51,52,53,54,55,56,57,58,59,60,61,62,63,64,65,66,67,68,69,70,71,72,73,74,75,76])
 (.ret [0]))))))))))
def zaio:=af Tryz.prog true Tryz.f12 zagE
def zD1:=wl Tryz.f24 {} []
def zHG:=af Tryz.prog true Tryz.f24 zD1
def zr9:zn:={obj:=[(41,[false,false,true])]}
@[irreducible] def zLY:=wv Tryz.f26 zr9 0 []
@[irreducible] def zYJ:=wv Tryz.f26 zr9 1 [zLY]
def zGi:=wl Tryz.f26 zr9 [zLY,zYJ]
def zHK:=af Tryz.prog true Tryz.f26 zGi
@[irreducible] def zYI:=wv Tryz.f47 {} 0 []
def zGh:=wl Tryz.f47 {} [zYI]
def zHJ:=af Tryz.prog true Tryz.f47 zGh
def zahY:=wl Tryz.f16 {ghost:=[(2,[10])],obj:=[(7,[true,false])]} []
def zakW:=af Tryz.prog true Tryz.f16 zahY
def zahL:=wl Tryz.f32 {acc:=[2,2]} []
def zakJ:=an Tryz.prog Tryz.f32 zahL
def zahQ:=wl Tryz.f33 {obj:=[(8,[true,false,false])]} []
def zakO:=af Tryz.prog true Tryz.f33 zahQ
def zagk:zn:={obj:=[(18,[true,false,false,false]),(27,[true,false,false,false]),(43,[true,false,false,false,false]),(60,[true,false,false,false,false])]}
@[irreducible] def zalC:=wv Tryz.f59 zagk 0 []
@[irreducible] def zaiH:=wv Tryz.f59 zagk 1 []
@[irreducible] def zalD:=wv Tryz.f59 zagk 2 [zaiH]
def zahT:=wl Tryz.f59 zagk [zalC,zaiH,zalD]
def zakR:=af Tryz.prog true Tryz.f59 zahT
@[irreducible] def zaiG:=wv Tryz.f93 {} 0 []
@[irreducible] def zalA:=wv Tryz.f93 {} 1 [zaiG]
def zahR:=wl Tryz.f93 {} [zaiG,zalA]
def zakP:=af Tryz.prog true Tryz.f93 zahR
def zafG:zn:={obj:=[(191,[true,false,false,false,false]),(205,[true,false,false,false,false]),(219,[true,false,false,false,false])]}
@[irreducible] def zalF:=wv Tryz.f94 zafG 0 []
@[irreducible] def zalG:=wv Tryz.f94 zafG 1 []
@[irreducible] def zalH:=wv Tryz.f94 zafG 2 []
@[irreducible] def zalI:=wv Tryz.f94 zafG 3 []
@[irreducible] def zalJ:=wv Tryz.f94 zafG 4 []
def zahV:=wl Tryz.f94 zafG [zalF,zalG,zalH,zalI,zalJ]
def zakT:=af Tryz.prog true Tryz.f94 zahV
def zaiB:zn:={obj:=[(31,[true,false,false,false,false]),(46,[true,false,false,false,false]),(57,[true,false,false,false,false])]}
@[irreducible] def zalB:=wv Tryz.f129 zaiB 0 []
def zahS:=wl Tryz.f129 zaiB [zalB]
def zakQ:=af Tryz.prog true Tryz.f129 zahS
@[irreducible] def zalE:=wv Tryz.f169 {} 0 []
def zahU:=wl Tryz.f169 {} [zalE]
def zakS:=af Tryz.prog true Tryz.f169 zahU
def zahZ:=wl Tryz.f34 {} []
def zakX:=af Tryz.prog true Tryz.f34 zahZ
def zahn:=wl Tryz.f35 {} []
def zakl:=af Tryz.prog true Tryz.f35 zahn
def zaho:=wl Tryz.f60 {} []
def zakm:=af Tryz.prog true Tryz.f60 zaho
@[irreducible] def zalK:=wv Tryz.f27 {} 0 []
@[irreducible] def zalL:=wv Tryz.f27 {} 1 []
def zahW:=wl Tryz.f27 {} [zalK,zalL]
def zakU:=af Tryz.prog true Tryz.f27 zahW
def zah3:=wl Tryz.f49 {} []
def zak1:=af Tryz.prog true Tryz.f49 zah3
def zahX:=wl Tryz.f51 {} []
def zakV:=af Tryz.prog true Tryz.f51 zahX
def zah4:=wl Tryz.f52 {} []
def zak2:=af Tryz.prog true Tryz.f52 zah4
def zah5:=wl Tryz.f53 {} []
def zak3:=af Tryz.prog true Tryz.f53 zah5
def zD3:=wl Tryz.f88 {} []
def zvJ:=af Tryz.prog true Tryz.f88 zD3
def zahM:=wl Tryz.f50 {} []
def zakK:=af Tryz.prog true Tryz.f50 zahM
@[irreducible] def zalz:=wv Tryz.f87 {} 0 []
def zahP:=wl Tryz.f87 {} [zalz]
def zakN:=af Tryz.prog true Tryz.f87 zahP
def zagl:zn:={acc:=[7]}
@[irreducible] def zaiJ:=wv Tryz.f54 zagl 0 []
@[irreducible] def zaiK:=wv Tryz.f54 zagl 1 []
@[irreducible] def zalO:=wv Tryz.f54 zagl 2 [zaiJ,zaiK]
def zah7:=wl Tryz.f54 zagl [zaiJ,zaiK,zalO]
def zak5:=af Tryz.prog true Tryz.f54 zah7
def zah2:=wl Tryz.f89 {} []
def zak0:=af Tryz.prog true Tryz.f89 zah2
@[irreducible] def zalx:=wv Tryz.f123 {} 0 []
def zahN:=wl Tryz.f123 {} [zalx]
def zakL:=af Tryz.prog true Tryz.f123 zahN
def zah6:zg:=
 (.seq (.ops [] [oP 2 (.box (.t 0)),oP 4 (.mv (.c (.d (.bool false))))] [0,4])
 (.seq (.ops [] [oM 8 1,oP 9 (.call 167 [] [.t 8]),oM 7 9,oP 10 (.ext (.t 7) 0),oP 11 (.ext (.t 7) 1),oP 5 (.alloc (.d (.agg [.int .i64 0,.int .i64 0,.int .i64 0,.int .i64 0]))),oN (.st 4 (.t 5) (.t 10)),oM 6 11] [1,7,8,9,10,11])
 (.seq (.ops [] [oM 12 6,oP 13 (.bin .eql (.t 12) (kI 0)),oM 14 13,oQ 15 (.fad false 0 1 (.t 5)) 14 true,oQ 16 (.ld false 1 (.t 15)) 14 true,oQ 17 (.fad false 1 1 (.t 5)) 14 true,oQ 18 (.ld false 1 (.t 17)) 14 true,oQ 19 (.fad false 2 1 (.t 5)) 14 true,oQ 20 (.ld false 1 (.t 19)) 14 true,oQ 21 (.build [aI 0,aI 0,aI 0] [(0,(1,.t 16)),(1,(1,.t 18)),(2,(1,.t 20))]) 14 true,oQ 22 (.fad false 0 1 (.t 2)) 14 true,oQ 23 (.ld false 1 (.t 22)) 14 true,oQ 24 (.fad false 1 1 (.t 2)) 14 true,oQ 25 (.ld false 1 (.t 24)) 14 true,oQ 26 (.fad false 2 1 (.t 2)) 14 true,oQ 27 (.ld false 1 (.t 26)) 14 true,oQ 28 (.build [aI 0,aI 0,aI 0] [(0,(1,.t 23)),(1,(1,.t 25)),(2,(1,.t 27))]) 14 true,oQ 29 (.eqs false 3 [(0,0),(1,0),(2,0)] (.t 21) (.t 28)) 14 true,oP 30 (.pick (.t 14) (.t 29) (.c (.d (.bool false)))),oM 4 30] [2,5,6,12,13,14,15,16,17,18,19,20,21,22,23,24,25,26,27,28,29,30])
 (.ret [4]))))
def zak4:=af Tryz.prog true Tryz.f124 zah6
@[irreducible] def zalu:=wv Tryz.f167 {} 0 []
def zahs:=wl Tryz.f167 {} [zalu]
def zakq:=af Tryz.prog true Tryz.f167 zahs
@[irreducible] def zalv:=wv Tryz.f216 {} 0 []
def zahu:=wl Tryz.f216 {} [zalv]
def zaks:=af Tryz.prog true Tryz.f216 zahu
@[irreducible] def zalt:=wv Tryz.f217 {} 0 []
def zahr:=wl Tryz.f217 {} [zalt]
def zakp:=af Tryz.prog true Tryz.f217 zahr
def zaht:=wl Tryz.f247 {} []
def zakr:=af Tryz.prog true Tryz.f247 zaht
@[irreducible] def zalw:=wv Tryz.f248 {} 0 []
def zahv:=wl Tryz.f248 {} [zalw]
def zakt:=af Tryz.prog true Tryz.f248 zahv
def zahp:=wl Tryz.f249 {} []
def zakn:=af Tryz.prog true Tryz.f249 zahp
@[irreducible] def zals:=wv Tryz.f276 {} 0 []
def zahq:=wl Tryz.f276 {} [zals]
def zako:=af Tryz.prog true Tryz.f276 zahq
@[irreducible] def zaly:=wv Tryz.f218 {} 0 []
def zahO:=wl Tryz.f218 {} [zaly]
def zakM:=af Tryz.prog true Tryz.f218 zahO
@[irreducible] def zalM:=wv Tryz.f28 {} 0 []
@[irreducible] def zaiI:=wv Tryz.f28 {} 1 []
@[irreducible] def zalN:=wv Tryz.f28 {} 2 [zaiI]
def zah0:=wl Tryz.f28 {} [zalM,zaiI,zalN]
def zakY:=af Tryz.prog true Tryz.f28 zah0
end Go.Proofs.YtcembpbhkcbnhaaGreat
