/-
  Functions of the program, as the calculus has them.
-/
import Derived.Test.YtgjlpcbolldhhaaGreatB6e36091
import Derived.Test.YtgjlpcbolldhhaaGreatProg
import Derived.Test.YtgjlpcbolldhhaaGreatB45bf821
set_option linter.unusedSimpArgs false
set_option linter.unusedVariables false
set_option maxHeartbeats 10000000
set_option maxRecDepth 100000
namespace Go.Proofs.YtgjlpcbolldhhaaGreat
open Go Go.Sim
def zxb := wl Tryz.f112 {obj:=[(14,[false,true]),(38,[false,false,false,false,true]),(52,[false,false,true])]} []
def zqL := af Tryz.prog true Tryz.f112 zxb
def zvr := wl Tryz.f173 {} []
def zo1 := af Tryz.prog true Tryz.f173 zvr
def zrr : zw := {obj:=[(35,[false,true]),(71,[false,false,true])],acc:=[12]}
@[irreducible] def zA3 := wv Tryz.f172 zrr 0 []
def zuX := wl Tryz.f172 zrr [zA3]
def zox := af Tryz.prog true Tryz.f172 zuX
def zvq := wl Tryz.f174 {} []
def zo0 := af Tryz.prog true Tryz.f174 zvq
@[irreducible] def zBU := wv Tryz.f17 {} 0 []
def zxs := wl Tryz.f17 {} [zBU]
def zq3 := af Tryz.prog true Tryz.f17 zxs
def ztF := wl Tryz.f27 {} []
def znf := af Tryz.prog true Tryz.f27 ztF
def ztO := wl Tryz.f45 {} []
def zno := af Tryz.prog true Tryz.f45 ztO
def ztG := wl Tryz.f28 {ghost:=[(7,[78])],obj:=[(42,[true,false])]} []
def zng := af Tryz.prog true Tryz.f28 ztG
def zt0 := wl Tryz.f46 {} []
def znA := af Tryz.prog true Tryz.f46 zt0
def zxj := wl Tryz.f47 {acc:=[2,2]} []
def zqT := an Tryz.prog Tryz.f47 zxj
def ztJ := wl Tryz.f48 {obj:=[(13,[true,false]),(18,[true,false]),(23,[true,false]),(30,[true,false]),(35,[true,false]),(64,[true,false]),(67,[true,false])]} []
def znj := af Tryz.prog false Tryz.f48 ztJ
def ztZ := wl Tryz.f68 {} []
def znz := af Tryz.prog true Tryz.f68 ztZ
def ztW := wl Tryz.f69 {obj:=[(72,[true,false,false])]} []
def znw := af Tryz.prog false Tryz.f69 ztW
def ztP := wl Tryz.f113 {} []
def znp := af Tryz.prog true Tryz.f113 ztP
def ztQ := wl Tryz.f175 {} []
def znq := af Tryz.prog true Tryz.f175 ztQ
@[irreducible] def zBO := wv Tryz.f114 {} 0 []
def zxn := wl Tryz.f114 {} [zBO]
def zqX := af Tryz.prog true Tryz.f114 zxn
def ztX := wl Tryz.f115 {} []
def znx := af Tryz.prog true Tryz.f115 ztX
def zqZ : AFn := .ext (zeo 6)
def ztS := wl Tryz.f70 {obj:=[(15,[true,false,true])]} []
def zns := af Tryz.prog true Tryz.f70 ztS
def ztT := wl Tryz.f118 {} []
def znt := af Tryz.prog true Tryz.f118 ztT
def ztN := wl Tryz.f119 {} []
def znn := af Tryz.prog true Tryz.f119 ztN
def zrm : zw := {obj:=[(41,[true,false,true])]}
@[irreducible] def zAA := wv Tryz.f117 zrm 0 []
def ztK := wl Tryz.f117 zrm [zAA]
def znk := af Tryz.prog true Tryz.f117 ztK
def ztY := wl Tryz.f71 {obj:=[(102,[true,false])]} []
def zny := af Tryz.prog true Tryz.f71 ztY
def ztH := wl Tryz.f120 {} []
def znh := af Tryz.prog true Tryz.f120 ztH
def ztE := wl Tryz.f178 {} []
def zne := af Tryz.prog true Tryz.f178 ztE
def ztI := wl Tryz.f121 {} []
def zni := af Tryz.prog true Tryz.f121 ztI
@[irreducible] def zAB := wv Tryz.f72 {} 0 []
def ztR := wl Tryz.f72 {} [zAB]
def znr := af Tryz.prog true Tryz.f72 ztR
@[irreducible] def zAz := wv Tryz.f73 {} 0 []
def ztD := wl Tryz.f73 {} [zAz]
def znd := af Tryz.prog true Tryz.f73 ztD
def ztU := wl Tryz.f74 {obj:=[(14,[true,false,false])]} []
def znu := af Tryz.prog true Tryz.f74 ztU
def ztV := wl Tryz.f122 {} []
def znv := af Tryz.prog true Tryz.f122 ztV
def ztL := wl Tryz.f75 {obj:=[(13,[true,false,true])]} []
def znl := af Tryz.prog true Tryz.f75 ztL
def ztM := wl Tryz.f123 {obj:=[(27,[true,false])]} []
def znm := af Tryz.prog true Tryz.f123 ztM
@[irreducible] def zBQ := wv Tryz.f18 {} 0 []
@[irreducible] def zBR := wv Tryz.f18 {} 1 []
def zxp := wl Tryz.f18 {} [zBQ, zBR]
def zq0 := af Tryz.prog true Tryz.f18 zxp
def zxu := wl Tryz.f29 {} []
def zq5 := af Tryz.prog true Tryz.f29 zxu
def zxq := wl Tryz.f31 {} []
def zq1 := af Tryz.prog true Tryz.f31 zxq
def zxv := wl Tryz.f32 {} []
def zq6 := af Tryz.prog true Tryz.f32 zxv
def zxw := wl Tryz.f33 {} []
def zq7 := af Tryz.prog true Tryz.f33 zxw
def zt2 := wl Tryz.f50 {} []
def znC := af Tryz.prog true Tryz.f50 zt2
def zxk := wl Tryz.f30 {} []
def zqU := af Tryz.prog true Tryz.f30 zxk
@[irreducible] def zBP := wv Tryz.f49 {} 0 []
def zxo := wl Tryz.f49 {} [zBP]
def zqY := af Tryz.prog true Tryz.f49 zxo
def zfG : zw := {acc:=[7]}
@[irreducible] def zrQ := wv Tryz.f34 zfG 0 []
@[irreducible] def zrR := wv Tryz.f34 zfG 1 []
@[irreducible] def zBV := wv Tryz.f34 zfG 2 [zrQ, zrR]
def zxy := wl Tryz.f34 zfG [zrQ, zrR, zBV]
def zq9 := af Tryz.prog true Tryz.f34 zxy
def zxt := wl Tryz.f51 {} []
def zq4 := af Tryz.prog true Tryz.f51 zxt
@[irreducible] def zBM := wv Tryz.f76 {} 0 []
def zxl := wl Tryz.f76 {} [zBM]
def zqV := af Tryz.prog true Tryz.f76 zxl
def zxx : zl :=
 (.seq (.ops [] [oP 2 (.box (.t 0)), oP 4 (.mv (.c (.d (.bool false))))] [0, 4])
 (.seq (.ops [] [oM 8 1, oP 9 (.call zgx [] [.t 8]), oM 7 9, oP 10 (.ext (.t 7) 0), oP 11 (.ext (.t 7) 1), oP 5 (.alloc (.d (.agg [.int .i64 0, .int .i64 0, .int .i64 0, .int .i64 0]))), oN (.st 4 (.t 5) (.t 10)), oM 6 11] [1, 7, 8, 9, 10, 11])
 (.seq (.ops [] [oM 12 6, oP 13 (.bin .eql (.t 12) (kI 0)), oM 14 13, oQ 15 (.fad false 0 1 (.t 5)) 14 true, oQ 16 (.ld false 1 (.t 15)) 14 true, oQ 17 (.fad false 1 1 (.t 5)) 14 true, oQ 18 (.ld false 1 (.t 17)) 14 true, oQ 19 (.fad false 2 1 (.t 5)) 14 true, oQ 20 (.ld false 1 (.t 19)) 14 true, oQ 21 (.build [aI 0, aI 0, aI 0] [(0, (1, .t 16)), (1, (1, .t 18)), (2, (1, .t 20))]) 14 true, oQ 22 (.fad false 0 1 (.t 2)) 14 true, oQ 23 (.ld false 1 (.t 22)) 14 true, oQ 24 (.fad false 1 1 (.t 2)) 14 true, oQ 25 (.ld false 1 (.t 24)) 14 true, oQ 26 (.fad false 2 1 (.t 2)) 14 true, oQ 27 (.ld false 1 (.t 26)) 14 true, oQ 28 (.build [aI 0, aI 0, aI 0] [(0, (1, .t 23)), (1, (1, .t 25)), (2, (1, .t 27))]) 14 true, oQ 29 (.eqs false 3 [(0, 0), (1, 0), (2, 0)] (.t 21) (.t 28)) 14 true, oP 30 (.pick (.t 14) (.t 29) (.c (.d (.bool false)))), oM 4 30] [2, 5, 6, 12, 13, 14, 15, 16, 17, 18, 19, 20, 21, 22, 23, 24, 25, 26, 27, 28, 29, 30])
 (.ret [4]))))
def zq8 := af Tryz.prog true Tryz.f77 zxx
@[irreducible] def zAE := wv Tryz.f124 {} 0 []
def zt6 := wl Tryz.f124 {} [zAE]
def znG := af Tryz.prog true Tryz.f124 zt6
@[irreducible] def zAF := wv Tryz.f179 {} 0 []
def zt8 := wl Tryz.f179 {} [zAF]
def znI := af Tryz.prog true Tryz.f179 zt8
@[irreducible] def zAD := wv Tryz.f180 {} 0 []
def zt5 := wl Tryz.f180 {} [zAD]
def znF := af Tryz.prog true Tryz.f180 zt5
def zt7 := wl Tryz.f211 {} []
def znH := af Tryz.prog true Tryz.f211 zt7
@[irreducible] def zAG := wv Tryz.f212 {} 0 []
def zt9 := wl Tryz.f212 {} [zAG]
def znJ := af Tryz.prog true Tryz.f212 zt9
def zt3 := wl Tryz.f213 {} []
def znD := af Tryz.prog true Tryz.f213 zt3
@[irreducible] def zAC := wv Tryz.f241 {} 0 []
def zt4 := wl Tryz.f241 {} [zAC]
def znE := af Tryz.prog true Tryz.f241 zt4
@[irreducible] def zBN := wv Tryz.f181 {} 0 []
def zxm := wl Tryz.f181 {} [zBN]
def zqW := af Tryz.prog true Tryz.f181 zxm
@[irreducible] def zBS := wv Tryz.f19 {} 0 []
@[irreducible] def zrP := wv Tryz.f19 {} 1 []
@[irreducible] def zBT := wv Tryz.f19 {} 2 [zrP]
def zxr := wl Tryz.f19 {} [zBS, zrP, zBT]
def zq2 := af Tryz.prog true Tryz.f19 zxr
end Go.Proofs.YtgjlpcbolldhhaaGreat
