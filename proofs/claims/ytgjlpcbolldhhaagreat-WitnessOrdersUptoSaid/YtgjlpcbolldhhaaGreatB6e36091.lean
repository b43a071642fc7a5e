/-
  Functions of the program, as the calculus has them.
-/
import Derived.Test.YtgjlpcbolldhhaaGreatB45bf821
import Derived.Test.YtgjlpcbolldhhaaGreatProg
set_option linter.unusedSimpArgs false
set_option linter.unusedVariables false
set_option maxHeartbeats 10000000
set_option maxRecDepth 100000
namespace Go.Proofs.YtgjlpcbolldhhaaGreat
open Go Go.Sim
abbrev zeZ : Nat := 3
abbrev zcC : Nat := 4
abbrev ze1 : Nat := 5
abbrev ze2 : Nat := 6
abbrev zdT : Nat := 7
abbrev ze3 : Nat := 8
abbrev zdV : Nat := 9
abbrev z8 : Nat := 10
abbrev zeX : Nat := 11
abbrev ze0 : Nat := 12
abbrev zdU : Nat := 13
abbrev zdS : Nat := 14
abbrev zb9 : Nat := 15
abbrev zb8 : Nat := 16
abbrev zdZ : Nat := 17
abbrev zdX : Nat := 18
abbrev zdY : Nat := 19
abbrev zdW : Nat := 20
abbrev zeY : Nat := 21
abbrev zkI : Nat := 22
abbrev zl5 : Nat := 23
abbrev zli : Nat := 24
abbrev zl4 : Nat := 25
abbrev zl6 : Nat := 26
abbrev ziB : Nat := 27
abbrev ziC : Nat := 28
abbrev zmg : Nat := 29
abbrev zl8 : Nat := 30
abbrev zme : Nat := 31
abbrev zmh : Nat := 32
abbrev zmi : Nat := 33
abbrev zmk : Nat := 34
abbrev zc4 : Nat := 35
abbrev zbK : Nat := 36
abbrev zkP : Nat := 37
abbrev zkq : Nat := 38
abbrev zjV : Nat := 39
abbrev zj0 : Nat := 40
abbrev zkg : Nat := 41
abbrev zlj : Nat := 42
abbrev zlg : Nat := 43
abbrev zl3 : Nat := 44
abbrev ziK : Nat := 45
abbrev ziW : Nat := 46
abbrev zl7 : Nat := 47
abbrev ziF : Nat := 48
abbrev zmc : Nat := 49
abbrev ziX : Nat := 50
abbrev zmf : Nat := 51
abbrev zc5 : Nat := 52
abbrev zjm : Nat := 53
abbrev zkc : Nat := 54
abbrev zlk : Nat := 55
abbrev zln : Nat := 56
abbrev zlu : Nat := 57
abbrev zlx : Nat := 58
abbrev zlB : Nat := 59
abbrev zlF : Nat := 60
abbrev zlG : Nat := 61
abbrev zlH : Nat := 62
abbrev zlK : Nat := 63
abbrev zlP : Nat := 64
abbrev zlU : Nat := 65
abbrev zlZ : Nat := 66
abbrev zl1 : Nat := 67
abbrev ziV : Nat := 68
abbrev ziS : Nat := 69
abbrev ziO : Nat := 70
abbrev ziU : Nat := 71
abbrev ziN : Nat := 72
abbrev ziz : Nat := 73
abbrev ziQ : Nat := 74
abbrev ziH : Nat := 75
abbrev zl9 : Nat := 76
abbrev zmj : Nat := 77
abbrev ze4 : Nat := 78
abbrev zlp : Nat := 79
abbrev zkD : Nat := 80
abbrev zlm : Nat := 81
abbrev zlh : Nat := 82
abbrev zkB : Nat := 83
abbrev zle : Nat := 84
abbrev zi9 : Nat := 85
abbrev zlq : Nat := 86
abbrev zlo : Nat := 87
abbrev zlv : Nat := 88
abbrev zkF : Nat := 89
abbrev zlw : Nat := 90
abbrev zks : Nat := 91
abbrev zls : Nat := 92
abbrev zly : Nat := 93
abbrev zlz : Nat := 94
abbrev zkn : Nat := 95
abbrev zlD : Nat := 96
abbrev zlC : Nat := 97
abbrev zj1 : Nat := 98
abbrev zlE : Nat := 99
abbrev zkH : Nat := 100
abbrev zkx : Nat := 101
abbrev zky : Nat := 102
abbrev zkz : Nat := 103
abbrev zlI : Nat := 104
abbrev zlJ : Nat := 105
abbrev zlr : Nat := 106
abbrev zlN : Nat := 107
abbrev zll : Nat := 108
abbrev zlS : Nat := 109
abbrev zlX : Nat := 110
abbrev zl0 : Nat := 111
abbrev zl2 : Nat := 112
abbrev ziL : Nat := 113
abbrev zmb : Nat := 114
abbrev ziT : Nat := 115
abbrev zmd : Nat := 116
abbrev ziG : Nat := 117
abbrev ziP : Nat := 118
abbrev ziJ : Nat := 119
abbrev ziD : Nat := 120
abbrev ziE : Nat := 121
abbrev ziR : Nat := 122
abbrev ziI : Nat := 123
abbrev zgx : Nat := 124
abbrev zi5 : Nat := 125
abbrev zja : Nat := 126
abbrev zkr : Nat := 127
abbrev zk0 : Nat := 128
abbrev zk2 : Nat := 129
abbrev zlt : Nat := 130
abbrev zj4 : Nat := 131
abbrev zld : Nat := 132
abbrev zlf : Nat := 133
abbrev zjc : Nat := 134
abbrev zi8 : Nat := 135
abbrev zj2 : Nat := 136
abbrev zkp : Nat := 137
abbrev zku : Nat := 138
abbrev zkt : Nat := 139
abbrev zkZ : Nat := 140
abbrev zlA : Nat := 141
abbrev zkm : Nat := 142
abbrev zi4 : Nat := 143
abbrev zi6 : Nat := 144
abbrev zjY : Nat := 145
abbrev zjM : Nat := 146
abbrev zjZ : Nat := 147
abbrev zjP : Nat := 148
abbrev zkR : Nat := 149
abbrev zkA : Nat := 150
abbrev zkj : Nat := 151
abbrev zjg : Nat := 152
abbrev zjf : Nat := 153
abbrev zjL : Nat := 154
abbrev zlO : Nat := 155
abbrev zjS : Nat := 156
abbrev zlM : Nat := 157
abbrev zlL : Nat := 158
abbrev zkY : Nat := 159
abbrev zlT : Nat := 160
abbrev zjT : Nat := 161
abbrev zlR : Nat := 162
abbrev zlQ : Nat := 163
abbrev zjN : Nat := 164
abbrev zlY : Nat := 165
abbrev zj6 : Nat := 166
abbrev zlW : Nat := 167
abbrev zlV : Nat := 168
abbrev zkf : Nat := 169
abbrev zjQ : Nat := 170
abbrev zjU : Nat := 171
abbrev zjO : Nat := 172
abbrev zki : Nat := 173
abbrev zkh : Nat := 174
abbrev ziM : Nat := 175
abbrev ziA : Nat := 178
abbrev zi2 : Nat := 179
abbrev zi0 : Nat := 180
abbrev zma : Nat := 181
abbrev zk9 : Nat := 182
abbrev zgz : Nat := 183
abbrev zgy : Nat := 184
abbrev zjn : Nat := 185
abbrev zkV : Nat := 186
abbrev zj5 : Nat := 187
abbrev zi7 : Nat := 188
abbrev zj7 : Nat := 189
abbrev zka : Nat := 190
abbrev zjI : Nat := 191
abbrev zkb : Nat := 192
abbrev zjh : Nat := 193
abbrev zjo : Nat := 194
abbrev zke : Nat := 195
abbrev zjE : Nat := 196
abbrev zkk : Nat := 197
abbrev zjd : Nat := 198
abbrev zjk : Nat := 199
abbrev zk4 : Nat := 200
abbrev zlc : Nat := 201
abbrev zj9 : Nat := 202
abbrev zj3 : Nat := 203
abbrev zjX : Nat := 204
abbrev zj8 : Nat := 205
abbrev zjp : Nat := 206
abbrev zkd : Nat := 207
abbrev zjH : Nat := 208
abbrev zkl : Nat := 209
abbrev zi1 : Nat := 211
abbrev zi3 : Nat := 212
abbrev ziY : Nat := 213
abbrev zkW : Nat := 214
abbrev zk8 : Nat := 215
abbrev zk7 : Nat := 216
abbrev zk6 : Nat := 217
abbrev zkX : Nat := 218
abbrev zla : Nat := 219
abbrev zk3 : Nat := 220
abbrev zlb : Nat := 221
abbrev zjj : Nat := 222
abbrev zjr : Nat := 223
abbrev zjs : Nat := 224
abbrev zgA : Nat := 225
abbrev zje : Nat := 226
abbrev zjb : Nat := 227
abbrev zjG : Nat := 228
abbrev zjq : Nat := 229
abbrev zjJ : Nat := 230
abbrev zjW : Nat := 231
abbrev zjK : Nat := 232
abbrev zju : Nat := 233
abbrev zjt : Nat := 234
abbrev zk5 : Nat := 235
abbrev zjl : Nat := 236
abbrev zji : Nat := 237
abbrev zjv : Nat := 238
abbrev zjF : Nat := 239
abbrev ziZ : Nat := 241
abbrev zkN : Nat := 242
abbrev zkO : Nat := 243
abbrev zkv : Nat := 244
abbrev zkM : Nat := 245
abbrev zkE : Nat := 246
abbrev zkG : Nat := 247
abbrev zkK : Nat := 248
abbrev zkL : Nat := 249
abbrev zko : Nat := 250
abbrev zkC : Nat := 251
abbrev zk1 : Nat := 252
abbrev zkw : Nat := 253
abbrev zjw : Nat := 254
abbrev zjA : Nat := 255
abbrev zjy : Nat := 256
abbrev zjB : Nat := 257
abbrev zjD : Nat := 258
abbrev zkU : Nat := 259
abbrev zkT : Nat := 260
abbrev zkJ : Nat := 261
abbrev zkQ : Nat := 262
abbrev zkS : Nat := 263
abbrev zjR : Nat := 264
abbrev zjx : Nat := 265
abbrev zjz : Nat := 266
abbrev zjC : Nat := 267
def wl (fn : Func) (hs : zw) (ls : List zl) {c : zl} (_ : zm2 Tryz.prog fn hs ls = some c := by conv => lhs; reduce; try simp only [iP, iN, zLa, zK9, zK8]) : zl := c
def wv (fn : Func) (hs : zw) (j : Nat) (ls : List zl) {c : zl} (_ : zm1 Tryz.prog fn hs j ls = some c := by conv => lhs; reduce; try simp only [iP, iN, zLa, zK9, zK8]) : zl := c
theorem zJY {fn : Func} {hs : zw} {ls : List zl} {c : zl} (h : zm2 Tryz.prog fn hs ls = some c) : wl fn hs ls h = c := rfl
theorem zJ1 {fn : Func} {hs : zw} {j : Nat} {ls : List zl} {c : zl} (h : zm1 Tryz.prog fn hs j ls = some c) : wv fn hs j ls h = c := rfl
attribute [go_sem ↓] zJY zJ1
def zmI := wl Tryz.f3 {obj:=[(8,[false,true]),(11,[false,true]),(22,[false,true])]} []
def zhe := af Tryz.prog true Tryz.f3 zmI
def zgX := wl Tryz.f4 {ghost:=[(2,[10])],obj:=[(7,[true,false])]} []
def zhq := af Tryz.prog true Tryz.f4 zgX
def zfe := wl Tryz.f8 {acc:=[2,2]} []
def zhj := an Tryz.prog Tryz.f8 zfe
def zgV := wl Tryz.f9 {obj:=[(8,[true,false,false])]} []
def zhk := af Tryz.prog true Tryz.f9 zgV
def zfF : zw := {obj:=[(18,[true,false,false,false]),(27,[true,false,false,false]),(43,[true,false,false,false,false]),(60,[true,false,false,false,false])]}
@[irreducible] def zdr := wv Tryz.f20 zfF 0 []
@[irreducible] def zds := wv Tryz.f20 zfF 1 []
@[irreducible] def zcQ := wv Tryz.f20 zfF 2 [zds]
def zgW := wl Tryz.f20 zfF [zdr, zds, zcQ]
def zhn := af Tryz.prog true Tryz.f20 zgW
@[irreducible] def zdq := wv Tryz.f35 {} 0 []
@[irreducible] def zco := wv Tryz.f35 {} 1 [zdq]
def zff := wl Tryz.f35 {} [zdq, zco]
def zhl := af Tryz.prog true Tryz.f35 zff
def zdo : zw := {obj:=[(191,[true,false,false,false,false]),(205,[true,false,false,false,false]),(219,[true,false,false,false,false])]}
@[irreducible] def zfO := wv Tryz.f36 zdo 0 []
@[irreducible] def zfP := wv Tryz.f36 zdo 1 []
@[irreducible] def zfQ := wv Tryz.f36 zdo 2 []
@[irreducible] def zfR := wv Tryz.f36 zdo 3 []
@[irreducible] def zet := wv Tryz.f36 zdo 4 []
def zea := wl Tryz.f36 zdo [zfO, zfP, zfQ, zfR, zet]
def zhp := af Tryz.prog true Tryz.f36 zea
def zrE : zw := {obj:=[(31,[true,false,false,false,false]),(46,[true,false,false,false,false]),(57,[true,false,false,false,false])]}
@[irreducible] def zes := wv Tryz.f52 zrE 0 []
def zmM := wl Tryz.f52 zrE [zes]
def zhm := af Tryz.prog true Tryz.f52 zmM
@[irreducible] def zfN := wv Tryz.f78 {} 0 []
def zmN := wl Tryz.f78 {} [zfN]
def zho := af Tryz.prog true Tryz.f78 zmN
def zmO := wl Tryz.f10 {} []
def zhr := af Tryz.prog true Tryz.f10 zmO
def zmG := wl Tryz.f11 {} []
def zhc := af Tryz.prog true Tryz.f11 zmG
def zmH := wl Tryz.f21 {} []
def zhd := af Tryz.prog true Tryz.f21 zmH
def zhA : zw := {ghost:=[(8,[6000035])]}
@[irreducible] def zcP := wv Tryz.f6 zhA 0 []
@[irreducible] def zer := wv Tryz.f6 zhA 1 [zcP]
def zgU := wl Tryz.f6 zhA [zcP, zer]
def zhi := af Tryz.prog true Tryz.f6 zgU
@[irreducible] def zfM := wv Tryz.f5 {} 0 []
def zmL := wl Tryz.f5 {} [zfM]
def zhh := af Tryz.prog true Tryz.f5 zmL
def zfL : zl :=
 (.seq (.seq (.ops [] [oM 76 5, oP 77 (.fad false 7 1 (.t 2)), oP 78 (.ld false 1 (.t 77)), oP 79 (.len (.t 78)), oP 80 (.bin .lss (.t 76) (.t 79))] [76, 77, 78, 79])
 (.cond (.t 80) .skip (.exit 0 [])))
 (.seq (.block 1 (.seq (.draw [] [oP 83 (.fad false 7 1 (.t 2)), oP 84 (.ld false 1 (.t 83)), oM 85 5, oP 86 (.iad 4 (.t 84) (.t 85)), oP 87 (.ld true 4 (.t 86)), oP 88 (.fad false 7 1 (.t 3)), oP 89 (.ld false 1 (.t 88)), oM 90 5, oP 91 (.iad 4 (.t 89) (.t 90)), oP 92 (.ld true 4 (.t 91)), oP 93 (.eqs true 4 [(0, 0), (1, 0), (2, 0), (3, 0)] (.t 87) (.t 92))] [[], [], [0, 1], [], [], [0, 1, 2, 3, 4], [0, 1, 2, 3, 4], [0, 1, 2, 3, 4, 5, 6], [0, 1, 2, 3, 4], [0, 1, 2, 3, 4], []] [80, 83, 84, 85, 86, 87, 88, 89, 90, 91, 92])
 (.cond (.t 93) (.seq (.ops [] [oP 4 (.mv (.c (.d (.bool false))))] [2, 3, 5, 93])
 (.ret [4])) .skip)))
 (.ops [] [oM 81 5, oP 82 (.bin .add (.t 81) (kI 1)), oM 5 82] [81, 82, 93])))
def zmK : zl :=
 (.seq (.ops [] [oP 2 (.box (.t 0)), oP 3 (.box (.t 1)), oP 4 (.mv (.c (.d (.bool false))))] [0, 1, 4])
 (.seq (.seq (.ops [] [oP 6 (.fad false 0 1 (.t 2)), oP 7 (.ld false 1 (.t 6)), oP 8 (.fad false 0 1 (.t 3)), oP 9 (.ld false 1 (.t 8)), oP 10 (.bin .neq (.t 7) (.t 9)), oM 11 10, oQ 12 (.fad false 1 1 (.t 2)) 11 false, oQ 13 (.ld false 1 (.t 12)) 11 false, oQ 14 (.fad false 1 1 (.t 3)) 11 false, oQ 15 (.ld false 1 (.t 14)) 11 false, oQ 16 (.bin .neq (.t 13) (.t 15)) 11 false, oP 17 (.pick (.t 11) (.c (.d (.bool true))) (.t 16)), oM 18 17, oQ 19 (.fad false 2 1 (.t 2)) 18 false, oQ 20 (.ld false 1 (.t 19)) 18 false, oQ 21 (.fad false 2 1 (.t 3)) 18 false, oQ 22 (.ld false 1 (.t 21)) 18 false, oQ 23 (.bin .neq (.t 20) (.t 22)) 18 false, oP 24 (.pick (.t 18) (.c (.d (.bool true))) (.t 23)), oM 25 24, oQ 26 (.fad false 3 1 (.t 2)) 25 false, oQ 27 (.ld false 1 (.t 26)) 25 false, oQ 28 (.fad false 3 1 (.t 3)) 25 false, oQ 29 (.ld false 1 (.t 28)) 25 false, oQ 30 (.bin .neq (.t 27) (.t 29)) 25 false, oP 31 (.pick (.t 25) (.c (.d (.bool true))) (.t 30)), oM 32 31, oQ 33 (.fad false 4 1 (.t 2)) 32 false, oQ 34 (.ld false 1 (.t 33)) 32 false, oQ 35 (.fad false 4 1 (.t 3)) 32 false, oQ 36 (.ld false 1 (.t 35)) 32 false, oQ 37 (.bin .neq (.t 34) (.t 36)) 32 false, oP 38 (.pick (.t 32) (.c (.d (.bool true))) (.t 37)), oM 39 38, oQ 40 (.fad false 5 1 (.t 2)) 39 false, oQ 41 (.ld false 1 (.t 40)) 39 false, oQ 42 (.fad false 5 1 (.t 3)) 39 false, oQ 43 (.ld false 1 (.t 42)) 39 false, oQ 44 (.bin .neq (.t 41) (.t 43)) 39 false, oP 45 (.pick (.t 39) (.c (.d (.bool true))) (.t 44)), oM 46 45, oQ 47 (.fad false 6 1 (.t 2)) 46 false, oQ 48 (.ld false 1 (.t 47)) 46 false, oQ 49 (.fad false 6 1 (.t 3)) 46 false, oQ 50 (.ld false 1 (.t 49)) 46 false, oQ 51 (.bin .neq (.t 48) (.t 50)) 46 false, oP 52 (.pick (.t 46) (.c (.d (.bool true))) (.t 51)), oM 53 52, oQ 54 (.fad false 8 1 (.t 2)) 53 false, oQ 55 (.ld false 1 (.t 54)) 53 false, oQ 56 (.fad false 8 1 (.t 3)) 53 false, oQ 57 (.ld false 1 (.t 56)) 53 false, oQ 58 (.bin .neq (.t 55) (.t 57)) 53 false, oP 59 (.pick (.t 53) (.c (.d (.bool true))) (.t 58)), oM 60 59, oQ 61 (.fad false 9 1 (.t 2)) 60 false, oQ 62 (.ld false 1 (.t 61)) 60 false, oQ 63 (.fad false 9 1 (.t 3)) 60 false, oQ 64 (.ld false 1 (.t 63)) 60 false, oQ 65 (.bin .neq (.t 62) (.t 64)) 60 false, oP 66 (.pick (.t 60) (.c (.d (.bool true))) (.t 65)), oM 67 66, oQ 68 (.fad false 7 1 (.t 2)) 67 false, oQ 69 (.ld false 1 (.t 68)) 67 false, oQ 70 (.len (.t 69)) 67 false, oQ 71 (.fad false 7 1 (.t 3)) 67 false, oQ 72 (.ld false 1 (.t 71)) 67 false, oQ 73 (.len (.t 72)) 67 false, oQ 74 (.bin .neq (.t 70) (.t 73)) 67 false, oP 75 (.pick (.t 67) (.c (.d (.bool true))) (.t 74))] [6, 7, 8, 9, 10, 11, 12, 13, 14, 15, 16, 17, 18, 19, 20, 21, 22, 23, 24, 25, 26, 27, 28, 29, 30, 31, 32, 33, 34, 35, 36, 37, 38, 39, 40, 41, 42, 43, 44, 45, 46, 47, 48, 49, 50, 51, 52, 53, 54, 55, 56, 57, 58, 59, 60, 61, 62, 63, 64, 65, 66, 67, 68, 69, 70, 71, 72, 73, 74])
 (.cond (.t 75) (.seq (.ops [] [oP 4 (.mv (.c (.d (.bool false))))] [2, 3, 75])
 (.ret [4])) .skip))
 (.seq (.seq (.ops [] [oP 5 (.mv (kI 0))] [75])
 (.block 0 (.loop [] zfL)))
 (.seq (.ops [] [oP 4 (.mv (.c (.d (.bool true))))] [2, 3, 5, 80])
 (.ret [4])))))
def zhg := af Tryz.prog true Tryz.f12 zmK
def zmJ : zl :=
 (.seq (.ops [] [oP 0 (.mv (.c (.d (.bool false))))] [0])
 (.seq (.ops [] [oP 8 (.call zdS [] [kI 1, kI 2, kI 1]), oP 9 (.call zdU [false, true] [.t 8]), oM 7 9, oP 10 (.ext (.t 7) 0), oP 11 (.ext (.t 7) 1), oP 1 (.alloc (.agg [aI 0, aI 0, aI 0, aI 0, aI 0, aI 0, aI 0, aI 0, .xsl [], .xsl [], aI 0, aI 0, .xsl [], aI 0, .xsl [], .xsl [], aI 0, aI 0, aI 0, .xsl [], .xsl [], aI 0, .xsl []])), oN (.st 23 (.t 1) (.t 10)), oM 2 11] [2, 7, 8, 9, 10, 11])
 (.seq (.ops [] [oP 13 (.ld true 23 (.t 1)), oP 14 (.bsl 1 1 (.d (.str [])) [(0, .c (.d (.str [97])))]), oP 15 (.build [aI 0, aI 0, aI 0, aI 0, aI 0, aI 0, .xsl [], .xsl []] [(0, (1, kI 1)), (6, (1, .t 14))]), oP 16 (.call zb9 [false, false, true] [.t 13, .t 15]), oM 12 16, oP 17 (.ext (.t 12) 0), oP 18 (.ext (.t 12) 1), oP 19 (.ext (.t 12) 2), oN (.st 23 (.t 1) (.t 17))] [12, 13, 14, 15, 16, 17, 18, 19])
 (.seq (.ops [] [oP 21 (.ld true 23 (.t 1)), oP 22 (.call zb8 [false, true] [.t 21]), oM 20 22, oP 23 (.ext (.t 20) 0), oP 24 (.ext (.t 20) 1), oP 25 (.ext (.t 20) 2), oN (.st 23 (.t 1) (.t 23))] [20, 21, 22, 23, 24, 25])
 (.seq (.ops [] [oP 27 (.ld true 23 (.t 1)), oP 28 (.build [aI 0, aI 0, aI 0, aI 0, aI 0, aI 0, .xsl [], .xsl []] [(0, (1, kI 2)), (2, (1, kI 1)), (3, (1, kI 3))]), oP 29 (.call zb9 [false, false, true] [.t 27, .t 28]), oM 26 29, oP 30 (.ext (.t 26) 0), oP 31 (.ext (.t 26) 1), oP 32 (.ext (.t 26) 2), oN (.st 23 (.t 1) (.t 30))] [26, 27, 28, 29, 30, 31, 32])
 (.seq (.ops [] [oP 34 (.ld true 23 (.t 1)), oP 35 (.call zb8 [false, true] [.t 34]), oM 33 35, oP 36 (.ext (.t 33) 0), oP 37 (.ext (.t 33) 1), oP 38 (.ext (.t 33) 2), oN (.st 23 (.t 1) (.t 36))] [33, 34, 35, 36, 37, 38])
 (.seq (.ops [] [oP 39 (.fad false 20 1 (.t 1)), oP 40 (.ld false 1 (.t 39)), oP 41 (.call zcC [false, true] [.t 40]), oM 3 41] [39, 40, 41])
 (.seq (.ops [] [oP 43 (.fad true 0 8 (.t 1)), oP 44 (.ld true 8 (.t 43)), oM 45 3, oP 46 (.call zdZ [false, false, true] [.t 44, .t 45]), oM 42 46, oP 47 (.ext (.t 42) 0), oP 48 (.ext (.t 42) 1), oP 49 (.ext (.t 42) 2), oP 4 (.alloc (.agg [aI 0, aI 0, aI 0, .xsl []])), oN (.st 4 (.t 4) (.t 47)), oM 5 48, oM 6 49] [4, 42, 43, 44, 45, 46, 47, 48, 49])
 (.seq (.ops [] [oM 50 3, oP 51 (.len (.t 50)), oP 52 (.bin .eql (.t 51) (kI 2)), oM 53 52, oQ 54 (.mv (.t 3)) 53 true, oQ 55 (.iad 10 (.t 54) (kI 0)) 53 true, oQ 56 (.fad false 3 1 (.t 55)) 53 true, oQ 57 (.ld false 1 (.t 56)) 53 true, oQ 58 (.bin .eql (.t 57) (kI 2)) 53 true, oP 59 (.pick (.t 53) (.t 58) (.c (.d (.bool false)))), oM 60 59, oQ 61 (.mv (.t 5)) 60 true, oQ 62 (.bin .eql (.t 61) (kI 2)) 60 true, oP 63 (.pick (.t 60) (.t 62) (.c (.d (.bool false)))), oM 64 63, oQ 65 (.mv (.t 6)) 64 true, oQ 66 (.bin .eql (.t 65) (kI 0)) 64 true, oP 67 (.pick (.t 64) (.t 66) (.c (.d (.bool false)))), oM 68 67, oQ 69 (.ld true 23 (.t 1)) 68 true, oQ 70 (.call zdX [] [.t 69]) 68 true, oQ 71 (.bin .eql (.t 70) (kI 0)) 68 true, oP 72 (.pick (.t 68) (.t 71) (.c (.d (.bool false)))), oM 73 72, oQ 74 (.ld true 23 (.t 1)) 73 true, oQ 75 (.call zdY [] [.t 74]) 73 true, oP 76 (.pick (.t 73) (.t 75) (.c (.d (.bool false)))), oM 0 76] [1, 3, 5, 6, 50, 51, 52, 53, 54, 55, 56, 57, 58, 59, 60, 61, 62, 63, 64, 65, 66, 67, 68, 69, 70, 71, 72, 73, 74, 75, 76])
 (.ret [0]))))))))))
def zhf := af Tryz.prog true Tryz.f7 zmJ
def zt1 := wl Tryz.f14 {} []
def znB := af Tryz.prog true Tryz.f14 zt1
def zxg := wl Tryz.f13 {obj:=[(8,[false,true])]} []
def zqQ := af Tryz.prog true Tryz.f13 zxg
def zry : zw := {obj:=[(64,[false,false,true]),(84,[false,true]),(106,[false,false,false,true]),(127,[false,true])]}
@[irreducible] def zBx := wv Tryz.f22 zry 0 []
def zvR := wl Tryz.f22 zry [zBx]
def zpr := af Tryz.prog true Tryz.f22 zvR
def zvY := wl Tryz.f37 {} []
def zpy := af Tryz.prog true Tryz.f37 zvY
def zhw : zw := {ghost:=[(6,[4000042])]}
@[irreducible] def zBl := wv Tryz.f38 zhw 0 []
@[irreducible] def zBm := wv Tryz.f38 zhw 1 []
def zvz := wl Tryz.f38 zhw [zBl, zBm]
def zo9 := af Tryz.prog true Tryz.f38 zvz
def zu4 := wl Tryz.f39 {} []
def zoE := af Tryz.prog true Tryz.f39 zu4
def zuu := wl Tryz.f53 {} []
def zn4 := af Tryz.prog true Tryz.f53 zuu
def zu9 := wl Tryz.f40 {} []
def zoJ := af Tryz.prog true Tryz.f40 zu9
def zvl := wl Tryz.f54 {} []
def zoV := af Tryz.prog true Tryz.f54 zvl
def zvp := wl Tryz.f41 {} []
def zoZ := af Tryz.prog true Tryz.f41 zvp
def zxf := wl Tryz.f15 {obj:=[(32,[false,false,false,false,true])]} []
def zqP := af Tryz.prog true Tryz.f15 zxf
def zrC : zw := {ghost:=[(7,[6])],acc:=[3]}
@[irreducible] def zBK := wv Tryz.f23 zrC 0 []
def zxh := wl Tryz.f23 zrC [zBK]
def zqR := af Tryz.prog false Tryz.f23 zxh
def zwr := wl Tryz.f24 {} []
def zp1 := af Tryz.prog true Tryz.f24 zwr
@[irreducible] def zBC := wv Tryz.f42 {} 0 []
def zws := wl Tryz.f42 {} [zBC]
def zp2 := af Tryz.prog true Tryz.f42 zws
def zwt := wl Tryz.f55 {} []
def zp3 := af Tryz.prog true Tryz.f55 zwt
def zhz : zw := {obj:=[(41,[false,false,true])]}
@[irreducible] def zrO := wv Tryz.f16 zhz 0 []
@[irreducible] def zBJ := wv Tryz.f16 zhz 1 [zrO]
def zxe := wl Tryz.f16 zhz [zrO, zBJ]
def zqO := af Tryz.prog true Tryz.f16 zxe
@[irreducible] def zBI := wv Tryz.f25 {} 0 []
def zxd := wl Tryz.f25 {} [zBI]
def zqN := af Tryz.prog true Tryz.f25 zxd
def zwp := wl Tryz.f43 {} []
def zpZ := af Tryz.prog true Tryz.f43 zwp
def zrD : zw := {ghost:=[(8,[82])],obj:=[(24,[false,false,false,true])]}
@[irreducible] def zBL := wv Tryz.f26 zrD 0 []
def zxi := wl Tryz.f26 zrD [zBL]
def zqS := af Tryz.prog true Tryz.f26 zxi
def zxc := wl Tryz.f44 {obj:=[(12,[false,true]),(25,[false,false,false,true]),(35,[false,false,false,true]),(47,[false,false,false,true]),(57,[false,false,false,true]),(67,[false,false,false,true]),(77,[false,false,false,true]),(87,[false,false,false,true]),(97,[false,false,false,true]),(107,[false,false,false,true]),(118,[false,false,false,true]),(128,[false,false,false,true]),(133,[false,true])]} []
def zqM := af Tryz.prog true Tryz.f44 zxc
def zww := wl Tryz.f56 {} []
def zp6 := af Tryz.prog true Tryz.f56 zww
def zwD := wl Tryz.f57 {obj:=[(26,[false,true]),(46,[false,false,false,true]),(52,[false,false,false,true]),(67,[false,false,false,false,true]),(74,[false,true]),(103,[false,false,false,false,true]),(108,[false,false,false,true]),(117,[false,true]),(125,[false,true]),(145,[false,false,false,true]),(152,[false,false,false,true])]} []
def zqd := af Tryz.prog true Tryz.f57 zwD
def zwy := wl Tryz.f79 {} []
def zp8 := af Tryz.prog true Tryz.f79 zwy
def zvM := wl Tryz.f80 {} []
def zpm := af Tryz.prog true Tryz.f80 zvM
def zwv := wl Tryz.f81 {} []
def zp5 := af Tryz.prog true Tryz.f81 zwv
def zwq := wl Tryz.f82 {} []
def zp0 := af Tryz.prog true Tryz.f82 zwq
def zvK := wl Tryz.f83 {} []
def zpk := af Tryz.prog true Tryz.f83 zvK
def zuf := wl Tryz.f85 {} []
def znP := af Tryz.prog true Tryz.f85 zuf
@[irreducible] def zAI := wv Tryz.f125 {} 0 []
def zub := wl Tryz.f125 {} [zAI]
def znL := af Tryz.prog false Tryz.f125 zub
@[irreducible] def zAJ := wv Tryz.f126 {} 0 []
def zug := wl Tryz.f126 {} [zAJ]
def znQ := af Tryz.prog true Tryz.f126 zug
def zwn := wl Tryz.f84 {} []
def zpX := af Tryz.prog true Tryz.f84 zwn
def zwz := wl Tryz.f86 {obj:=[(10,[false,true]),(22,[false,false,false,true])]} []
def zp9 := af Tryz.prog true Tryz.f86 zwz
def zvO := wl Tryz.f89 {} []
def zpo := af Tryz.prog true Tryz.f89 zvO
@[irreducible] def zBn := wv Tryz.f127 {} 0 []
def zvA := wl Tryz.f127 {} [zBn]
def zpa := af Tryz.prog true Tryz.f127 zvA
@[irreducible] def zBo := wv Tryz.f139 {} 0 []
@[irreducible] def zBp := wv Tryz.f139 {} 1 []
@[irreducible] def zBq := wv Tryz.f139 {} 2 []
@[irreducible] def zBr := wv Tryz.f139 {} 3 []
@[irreducible] def zrM := wv Tryz.f139 {} 4 []
@[irreducible] def zBs := wv Tryz.f139 {} 5 [zrM]
def zvC := wl Tryz.f139 {} [zBo, zBp, zBq, zBr, zrM, zBs]
def zpc := af Tryz.prog true Tryz.f139 zvC
@[irreducible] def zBt := wv Tryz.f138 {} 0 []
def zvD := wl Tryz.f138 {} [zBt]
def zpd := af Tryz.prog true Tryz.f138 zvD
def zwB := wl Tryz.f92 {obj:=[(12,[false,false,true])]} []
def zqb := af Tryz.prog true Tryz.f92 zwB
def zv8 := wl Tryz.f140 {obj:=[(10,[false,true])]} []
def zpI := af Tryz.prog true Tryz.f140 zv8
@[irreducible] def zBy := wv Tryz.f186 {} 0 []
def zv4 := wl Tryz.f186 {} [zBy]
def zpE := af Tryz.prog true Tryz.f186 zv4
def zwx := wl Tryz.f87 {obj:=[(21,[false,false,false,false,true])]} []
def zp7 := af Tryz.prog true Tryz.f87 zwx
def zv9 := wl Tryz.f128 {obj:=[(19,[false,false,false,false,true])]} []
def zpJ := af Tryz.prog true Tryz.f128 zv9
def zwi := wl Tryz.f182 {obj:=[(28,[false,false,false,true]),(42,[false,false,true]),(48,[false,false,true]),(57,[false,false,false,true]),(65,[false,false,true]),(89,[false,false,true]),(98,[false,false,false,true]),(106,[false,false,true]),(115,[false,false,false,true]),(126,[false,false,false,true]),(140,[false,false,true])]} []
def zpS := af Tryz.prog true Tryz.f182 zwi
def zv5 := wl Tryz.f214 {} []
def zpF := af Tryz.prog true Tryz.f214 zv5
def zvW := wl Tryz.f242 {obj:=[(32,[false,false,false,true])]} []
def zpw := af Tryz.prog true Tryz.f242 zvW
def zv2 := wl Tryz.f260 {} []
def zpC := af Tryz.prog true Tryz.f260 zv2
def zvS := wl Tryz.f261 {} []
def zps := af Tryz.prog true Tryz.f261 zvS
def zvZ := wl Tryz.f262 {ghost:=[(5,[36])]} []
def zpz := af Tryz.prog true Tryz.f262 zvZ
def zvX := wl Tryz.f243 {obj:=[(31,[false,false,false,true])]} []
def zpx := af Tryz.prog true Tryz.f243 zvX
def zwd := wl Tryz.f200 {} []
def zpN := af Tryz.prog true Tryz.f200 zwd
@[irreducible] def zBB := wv Tryz.f215 {} 0 []
def zwh := wl Tryz.f215 {} [zBB]
def zpR := af Tryz.prog true Tryz.f215 zwh
def zwg := wl Tryz.f216 {obj:=[(76,[false,false,false,false,true]),(95,[false,false,true])]} []
def zpQ := af Tryz.prog true Tryz.f216 zwg
def zvQ := wl Tryz.f100 {} []
def zpq := af Tryz.prog true Tryz.f100 zvQ
def zv0 := wl Tryz.f149 {} []
def zpA := af Tryz.prog true Tryz.f149 zv0
def zvE := wl Tryz.f244 {} []
def zpe := af Tryz.prog true Tryz.f244 zvE
def zvV := wl Tryz.f245 {ghost:=[(7,[88])]} []
def zpv := af Tryz.prog true Tryz.f245 zvV
def zv1 := wl Tryz.f263 {} []
def zpB := af Tryz.prog true Tryz.f263 zv1
def zwf := wl Tryz.f217 {obj:=[(23,[false,true]),(28,[false,false,true]),(50,[false,false,true])]} []
def zpP := af Tryz.prog true Tryz.f217 zwf
def zvN := wl Tryz.f246 {} []
def zpn := af Tryz.prog true Tryz.f246 zvN
def zvP := wl Tryz.f247 {} []
def zpp := af Tryz.prog true Tryz.f247 zvP
def zv6 := wl Tryz.f218 {} []
def zpG := af Tryz.prog true Tryz.f218 zv6
def zwj := wl Tryz.f219 {obj:=[(36,[false,false,false,true]),(49,[false,false,false,false,true]),(82,[false,false,true]),(85,[false,false,true])]} []
def zpT := af Tryz.prog true Tryz.f219 zwj
def zvT := wl Tryz.f248 {} []
def zpt := af Tryz.prog true Tryz.f248 zvT
def zvt := wl Tryz.f197 {} []
def zo3 := af Tryz.prog true Tryz.f197 zvt
@[irreducible] def zBi := wv Tryz.f209 {} 0 []
@[irreducible] def zBj := wv Tryz.f209 {} 1 []
def zvu := wl Tryz.f209 {} [zBi, zBj]
def zo4 := af Tryz.prog true Tryz.f209 zvu
def zup := wl Tryz.f183 {} []
def znZ := af Tryz.prog true Tryz.f183 zup
def zur := wl Tryz.f222 {} []
def zn1 := af Tryz.prog true Tryz.f222 zur
@[irreducible] def zAK := wv Tryz.f184 {} 0 []
def zui := wl Tryz.f184 {} [zAK]
def znS := af Tryz.prog true Tryz.f184 zui
def zvU := wl Tryz.f249 {ghost:=[(10,[86])]} []
def zpu := af Tryz.prog true Tryz.f249 zvU
@[irreducible] def zBc := wv Tryz.f189 {} 0 []
@[irreducible] def zBd := wv Tryz.f189 {} 1 []
def zvg := wl Tryz.f189 {} [zBc, zBd]
def zoQ := af Tryz.prog true Tryz.f189 zvg
def zAL : zl :=
 (.seq (.seq (.ops [] [oM 42 4, oM 43 3, oP 44 (.bin .lss (.t 42) (.t 43))] [42, 43])
 (.cond (.t 44) .skip (.exit 0 [1])))
 (.seq (.block 1 (.seq (.draw [] [oP 47 (.fad false 0 1 (.t 1)), oP 48 (.ld false 1 (.t 47)), oP 49 (.fad false 1 1 (.t 1)), oP 50 (.ld false 1 (.t 49)), oM 51 4, oP 52 (.bin .add (.t 50) (.t 51)), oM 53 3, oP 54 (.bin .rem (.t 52) (.t 53)), oP 55 (.iad 7 (.t 48) (.t 54)), oP 56 (.ld true 7 (.t 55)), oP 57 (.build [aI 0, aI 0, aI 0, aI 0, aI 0, aI 0, .d (.str [])] []), oP 58 (.eqs true 7 [(0, 0), (1, 0), (2, 0), (3, 0), (4, 0), (5, 0), (6, 2)] (.t 56) (.t 57))] [[], [], [0, 1], [0, 1], [0, 1, 2, 3], [0, 1], [0, 1, 2, 3, 4, 5], [0, 1], [], [], [0, 1, 2, 3, 4, 5, 6, 7, 8, 9], []] [44, 47, 48, 49, 50, 51, 52, 53, 54, 55, 56, 57])
 (.cond (.t 58) (.seq (.ops [] [oP 2 (.mv (kI 7))] [1, 3, 4, 58])
 (.ret [2])) .skip)))
 (.ops [] [oM 45 4, oP 46 (.bin .add (.t 45) (kI 1)), oM 4 46] [45, 46, 58])))
def zAM : zl :=
 (.seq (.seq (.ops [] [oM 61 6, oM 62 5, oP 63 (.len (.t 62)), oP 64 (.bin .lss (.t 61) (.t 63))] [61, 62, 63])
 (.cond (.t 64) .skip (.exit 2 [5])))
 (.seq (.block 3 (.seq (.ops [] [oM 67 5, oM 68 6, oP 69 (.iad 7 (.t 67) (.t 68)), oP 70 (.ld true 7 (.t 69)), oP 71 (.call zgz [] [.t 70]), oM 7 71] [64, 67, 68, 69, 70, 71])
 (.seq (.ops [] [oM 72 7, oP 73 (.bin .neq (.t 72) (kI 0))] [72])
 (.cond (.t 73) (.seq (.ops [] [oM 74 7, oM 2 74] [5, 6, 7, 73, 74])
 (.ret [2])) .skip))))
 (.ops [] [oM 65 6, oP 66 (.bin .add (.t 65) (kI 1)), oM 6 66] [7, 65, 66, 73])))
def zAN : zl :=
 (.seq (.seq (.ops [] [oM 75 8, oM 76 5, oP 77 (.len (.t 76)), oP 78 (.bin .lss (.t 75) (.t 77))] [75, 76, 77])
 (.cond (.t 78) .skip (.exit 4 [])))
 (.seq (.block 5 (.seq (.ops [] [oM 81 5, oM 82 5, oM 83 8, oP 84 (.iad 7 (.t 82) (.t 83)), oP 85 (.fad false 0 1 (.t 84)), oP 86 (.ld false 1 (.t 85)), oP 87 (.call zgy [] [.t 81, .t 86]), oM 88 8, oP 89 (.bin .neq (.t 87) (.t 88))] [78, 81, 82, 83, 84, 85, 86, 87, 88])
 (.cond (.t 89) (.seq (.ops [] [oP 2 (.mv (kI 10))] [5, 8, 89])
 (.ret [2])) .skip)))
 (.ops [] [oM 79 8, oP 80 (.bin .add (.t 79) (kI 1)), oM 8 80] [79, 80, 89])))
def zuy : zl :=
 (.seq (.ops [] [oP 1 (.box (.t 0)), oP 2 (.mv (kI 0))] [0, 2])
 (.seq (.ops [] [oP 9 (.fad false 0 1 (.t 1)), oP 10 (.ld false 1 (.t 9)), oP 11 (.len (.t 10)), oM 3 11] [9, 10, 11])
 (.seq (.seq (.ops [] [oM 12 3, oP 13 (.bin .lss (.t 12) (kI 1)), oM 14 13, oQ 15 (.mv (.t 3)) 14 false, oQ 16 (.bin .gtr (.t 15) (kI 12)) 14 false, oP 17 (.pick (.t 14) (.c (.d (.bool true))) (.t 16)), oM 18 17, oQ 19 (.fad false 1 1 (.t 1)) 18 false, oQ 20 (.ld false 1 (.t 19)) 18 false, oQ 21 (.bin .lss (.t 20) (kI 0)) 18 false, oP 22 (.pick (.t 18) (.c (.d (.bool true))) (.t 21)), oM 23 22, oQ 24 (.fad false 1 1 (.t 1)) 23 false, oQ 25 (.ld false 1 (.t 24)) 23 false, oQ 26 (.mv (.t 3)) 23 false, oQ 27 (.bin .geq (.t 25) (.t 26)) 23 false, oP 28 (.pick (.t 23) (.c (.d (.bool true))) (.t 27)), oM 29 28, oQ 30 (.fad false 2 1 (.t 1)) 29 false, oQ 31 (.ld false 1 (.t 30)) 29 false, oQ 32 (.bin .lss (.t 31) (kI 0)) 29 false, oP 33 (.pick (.t 29) (.c (.d (.bool true))) (.t 32)), oM 34 33, oQ 35 (.fad false 2 1 (.t 1)) 34 false, oQ 36 (.ld false 1 (.t 35)) 34 false, oQ 37 (.mv (.t 3)) 34 false, oQ 38 (.bin .gtr (.t 36) (.t 37)) 34 false, oP 39 (.pick (.t 34) (.c (.d (.bool true))) (.t 38))] [12, 13, 14, 15, 16, 17, 18, 19, 20, 21, 22, 23, 24, 25, 26, 27, 28, 29, 30, 31, 32, 33, 34, 35, 36, 37, 38])
 (.cond (.t 39) (.seq (.ops [] [oP 2 (.mv (kI 1))] [1, 3, 39])
 (.ret [2])) .skip))
 (.seq (.seq (.ops [] [oP 40 (.fad false 2 1 (.t 1)), oP 41 (.ld false 1 (.t 40)), oM 4 41] [39, 40, 41])
 (.block 0 (.loop [] zAL)))
 (.seq (.ops [] [oP 59 (.ld true 3 (.t 1)), oP 60 (.call zgA [] [.t 59]), oM 5 60] [1, 3, 4, 44, 59, 60])
 (.seq (.seq (.ops [] [oP 6 (.mv (kI 0))] [])
 (.block 2 (.loop [] zAM)))
 (.seq (.seq (.ops [] [oP 8 (.mv (kI 0))] [6, 64])
 (.block 4 (.loop [] zAN)))
 (.seq (.ops [] [oP 2 (.mv (kI 0))] [5, 8, 78])
 (.ret [2])))))))))
def zn8 := af Tryz.prog true Tryz.f229 zuy
def zrn : zw := {acc:=[3]}
@[irreducible] def zAO := wv Tryz.f225 zrn 0 []
def zuz := wl Tryz.f225 zrn [zAO]
def zn9 := af Tryz.prog false Tryz.f225 zuz
@[irreducible] def zAZ := wv Tryz.f230 {} 0 []
@[irreducible] def zA0 := wv Tryz.f230 {} 1 []
def zuS := wl Tryz.f230 {} [zAZ, zA0]
def zos := af Tryz.prog true Tryz.f230 zuS
@[irreducible] def zAR := wv Tryz.f254 {} 0 []
@[irreducible] def zAS := wv Tryz.f254 {} 1 []
@[irreducible] def zAT := wv Tryz.f254 {} 2 []
def zuF := wl Tryz.f254 {} [zAR, zAS, zAT]
def zof := af Tryz.prog true Tryz.f254 zuF
def zuK := wl Tryz.f257 {} []
def zok := af Tryz.prog true Tryz.f257 zuK
@[irreducible] def zAV := wv Tryz.f255 {} 0 []
def zuJ := wl Tryz.f255 {} [zAV]
def zoj := af Tryz.prog true Tryz.f255 zuJ
def zuG := wl Tryz.f265 {} []
def zog := af Tryz.prog true Tryz.f265 zuG
@[irreducible] def zA1 := wv Tryz.f232 {} 0 []
def zuT := wl Tryz.f232 {} [zA1]
def zot := af Tryz.prog true Tryz.f232 zuT
def zuW := wl Tryz.f164 {} []
def zow := af Tryz.prog true Tryz.f164 zuW
def zvc := wl Tryz.f203 {} []
def zoM := af Tryz.prog true Tryz.f203 zvc
def zut := wl Tryz.f236 {} []
def zn3 := af Tryz.prog true Tryz.f236 zut
def zrt : zw := {acc:=[3]}
@[irreducible] def zA9 := wv Tryz.f204 zrt 0 []
def zu6 := wl Tryz.f204 zrt [zA9]
def zoG := af Tryz.prog true Tryz.f204 zu6
def zwl := wl Tryz.f201 {obj:=[(14,[false,false,true]),(17,[false,true])]} []
def zpV := af Tryz.prog true Tryz.f201 zwl
def zwe := wl Tryz.f235 {obj:=[(9,[false,true]),(19,[false,false,true])]} []
def zpO := af Tryz.prog true Tryz.f235 zwe
def zv3 := wl Tryz.f259 {} []
def zpD := af Tryz.prog true Tryz.f259 zv3
def zwc := wl Tryz.f220 {obj:=[(15,[false,true]),(28,[false,false,true]),(42,[false,false,false,true]),(60,[false,false,true])]} []
def zpM := af Tryz.prog true Tryz.f220 zwc
def zvx := wl Tryz.f250 {ghost:=[(21,[144]),(28,[144])]} []
def zo7 := af Tryz.prog true Tryz.f250 zvx
def zvL := wl Tryz.f251 {} []
def zpl := af Tryz.prog true Tryz.f251 zvL
def zwk := wl Tryz.f221 {obj:=[(59,[false,false,false,false,true]),(79,[false,true])]} []
def zpU := af Tryz.prog true Tryz.f221 zwk
@[irreducible] def zBA := wv Tryz.f252 {} 0 []
def zwa := wl Tryz.f252 {} [zBA]
def zpK := af Tryz.prog true Tryz.f252 zwa
def zvF := wl Tryz.f253 {} []
def zpf := af Tryz.prog true Tryz.f253 zvF
@[irreducible] def zA6 := wv Tryz.f264 {} 0 []
@[irreducible] def zA7 := wv Tryz.f264 {} 1 []
def zu0 := wl Tryz.f264 {} [zA6, zA7]
def zoA := af Tryz.prog true Tryz.f264 zu0
def zu7 := wl Tryz.f145 {} []
def zoH := af Tryz.prog true Tryz.f145 zu7
def zvh := wl Tryz.f205 {} []
def zoR := af Tryz.prog true Tryz.f205 zvh
def zvk := wl Tryz.f192 {} []
def zoU := af Tryz.prog true Tryz.f192 zvk
def zuk := wl Tryz.f198 {} []
def znU := af Tryz.prog true Tryz.f198 zuk
def zuo := wl Tryz.f193 {} []
def znY := af Tryz.prog true Tryz.f193 zuo
def zwE := wl Tryz.f88 {obj:=[(19,[false,true]),(28,[false,false,true]),(30,[false,false,true]),(55,[false,false,true]),(65,[false,false,true]),(100,[false,false,true]),(118,[false,false,true])]} []
def zqe := af Tryz.prog true Tryz.f88 zwE
def zwb := wl Tryz.f129 {} []
def zpL := af Tryz.prog false Tryz.f129 zwb
def zva := wl Tryz.f98 {} []
def zoK := af Tryz.prog true Tryz.f98 zva
def zwu := wl Tryz.f108 {obj:=[(9,[false,false,true])]} []
def zp4 := af Tryz.prog true Tryz.f108 zwu
def zhx : zw := {obj:=[(79,[false,false,true]),(86,[false,false,true]),(90,[false,false,true])]}
@[irreducible] def zrN := wv Tryz.f159 zhx 0 []
@[irreducible] def zBz := wv Tryz.f159 zhx 1 [zrN]
def zv7 := wl Tryz.f159 zhx [zrN, zBz]
def zpH := af Tryz.prog true Tryz.f159 zv7
def zwC := wl Tryz.f130 {} []
def zqc := af Tryz.prog false Tryz.f130 zwC
def zvd := wl Tryz.f131 {} []
def zoN := af Tryz.prog true Tryz.f131 zvd
def zwm := wl Tryz.f132 {} []
def zpW := af Tryz.prog true Tryz.f132 zwm
def zwo := wl Tryz.f133 {} []
def zpY := af Tryz.prog true Tryz.f133 zwo
def zue := wl Tryz.f135 {} []
def znO := af Tryz.prog true Tryz.f135 zue
def zuj := wl Tryz.f134 {} []
def znT := af Tryz.prog true Tryz.f134 zuj
def zvb := wl Tryz.f136 {} []
def zoL := af Tryz.prog true Tryz.f136 zvb
def zuv := wl Tryz.f185 {obj:=[(22,[false,false,false,true])]} []
def zn5 := af Tryz.prog true Tryz.f185 zuv
def zuA := wl Tryz.f223 {} []
def zoa := af Tryz.prog true Tryz.f223 zuA
@[irreducible] def zAP := wv Tryz.f224 {} 0 []
def zuB := wl Tryz.f224 {} [zAP]
def zob := af Tryz.prog true Tryz.f224 zuB
def zwG := wl Tryz.f58 {obj:=[(24,[false,true]),(34,[false,true]),(63,[false,false,false,true]),(72,[false,false,false,false,true]),(77,[false,false,false,true]),(86,[false,true]),(94,[false,true]),(112,[false,false,false,true]),(119,[false,false,false,true]),(125,[false,true]),(127,[false,false,false,true])]} []
def zqg := af Tryz.prog true Tryz.f58 zwG
def zwF := wl Tryz.f90 {} []
def zqf := af Tryz.prog true Tryz.f90 zwF
@[irreducible] def zBk := wv Tryz.f137 {} 0 []
def zvy := wl Tryz.f137 {} [zBk]
def zo8 := af Tryz.prog true Tryz.f137 zvy
def zvB := wl Tryz.f91 {} []
def zpb := af Tryz.prog true Tryz.f91 zvB
def zhy : zw := {ghost:=[(17,[4000076]),(19,[6500076]),(28,[4000137]),(31,[6500137])],obj:=[(23,[false,true]),(32,[false,false,true]),(34,[false,false,true]),(48,[false,false,true]),(53,[false,true]),(61,[false,false,true]),(154,[false,false,true])],acc:=[10]}
@[irreducible] def zBD := wv Tryz.f93 zhy 0 []
@[irreducible] def zBE := wv Tryz.f93 zhy 1 []
def zwH := wl Tryz.f93 zhy [zBD, zBE]
def zqh := af Tryz.prog true Tryz.f93 zwH
def zwJ := wl Tryz.f141 {obj:=[(28,[false,false,false,false,true]),(47,[false,false,false,false,false,false,true])]} []
def zqj := af Tryz.prog true Tryz.f141 zwJ
def zrs : zw := {obj:=[(41,[false,false,false,true]),(55,[false,false,true]),(65,[false,false,true])]}
@[irreducible] def zA8 := wv Tryz.f171 zrs 0 []
def zu3 := wl Tryz.f171 zrs [zA8]
def zoD := af Tryz.prog true Tryz.f171 zu3
def zvm := wl Tryz.f207 {} []
def zoW := af Tryz.prog true Tryz.f207 zvm
def zrp : zw := {acc:=[7]}
@[irreducible] def zAY := wv Tryz.f208 zrp 0 []
def zuQ := wl Tryz.f208 zrp [zAY]
def zoq := af Tryz.prog true Tryz.f208 zuQ
def zro : zw := {acc:=[5]}
@[irreducible] def zAQ := wv Tryz.f238 zro 0 []
def zuE := wl Tryz.f238 zro [zAQ]
def zoe := af Tryz.prog true Tryz.f238 zuE
def zuH := wl Tryz.f256 {ghost:=[(5,[26])],obj:=[(42,[false,false,true]),(45,[false,false,true])]} []
def zoh := af Tryz.prog true Tryz.f256 zuH
@[irreducible] def zAW := wv Tryz.f258 {} 0 []
def zuM := wl Tryz.f258 {} [zAW]
def zom := af Tryz.prog true Tryz.f258 zuM
def zuL := wl Tryz.f267 {ghost:=[(2,[18])]} []
def zol := af Tryz.prog true Tryz.f267 zuL
@[irreducible] def zAU := wv Tryz.f266 {} 0 []
def zuI := wl Tryz.f266 {} [zAU]
def zoi := af Tryz.prog true Tryz.f266 zuI
def zuO := wl Tryz.f239 {} []
def zoo := af Tryz.prog true Tryz.f239 zuO
def zuR := wl Tryz.f191 {} []
def zor := af Tryz.prog true Tryz.f191 zuR
def zuD := wl Tryz.f233 {} []
def zod := af Tryz.prog true Tryz.f233 zuD
def zru : zw := {acc:=[16]}
@[irreducible] def zBa := wv Tryz.f187 zru 0 []
def zve := wl Tryz.f187 zru [zBa]
def zoO := af Tryz.prog true Tryz.f187 zve
def zvn := wl Tryz.f195 {} []
def zoX := af Tryz.prog true Tryz.f195 zvn
def zul := wl Tryz.f226 {} []
def znV := af Tryz.prog true Tryz.f226 zul
def zuh := wl Tryz.f227 {} []
def znR := af Tryz.prog true Tryz.f227 zuh
def zux := wl Tryz.f206 {ghost:=[(5,[6000018])]} []
def zn7 := af Tryz.prog true Tryz.f206 zux
def zuq := wl Tryz.f237 {} []
def zn0 := af Tryz.prog true Tryz.f237 zuq
@[irreducible] def zAX := wv Tryz.f228 {} 0 []
def zuP := wl Tryz.f228 {} [zAX]
def zop := af Tryz.prog true Tryz.f228 zuP
def zuC := wl Tryz.f234 {obj:=[(33,[false,false,true])]} []
def zoc := af Tryz.prog true Tryz.f234 zuC
def zrz : zw := {obj:=[(13,[false,true]),(38,[false,true])]}
@[irreducible] def zBF := wv Tryz.f94 zrz 0 []
def zwI := wl Tryz.f94 zrz [zBF]
def zqi := af Tryz.prog true Tryz.f94 zwI
def zvv := wl Tryz.f142 {obj:=[(48,[false,false,false,true]),(55,[false,false,false,true]),(62,[false,false,false,true]),(75,[false,false,false,true])]} []
def zo5 := af Tryz.prog true Tryz.f142 zvv
def zud := wl Tryz.f188 {} []
def znN := af Tryz.prog true Tryz.f188 zud
def zwK := wl Tryz.f59 {obj:=[(26,[false,true]),(54,[false,false,false,true]),(60,[false,false,false,true]),(76,[false,false,false,true]),(87,[false,false,false,false,true]),(92,[false,false,false,true]),(101,[false,true]),(109,[false,true]),(135,[false,true]),(150,[false,false,false,true])]} []
def zqk := af Tryz.prog true Tryz.f59 zwK
def zvw := wl Tryz.f95 {obj:=[(37,[false,true])]} []
def zo6 := af Tryz.prog true Tryz.f95 zvw
@[irreducible] def zAH := wv Tryz.f143 {} 0 []
def zua := wl Tryz.f143 {} [zAH]
def znK := af Tryz.prog true Tryz.f143 zua
def zuc := wl Tryz.f144 {} []
def znM := af Tryz.prog true Tryz.f144 zuc
def zwM := wl Tryz.f96 {} []
def zqm := af Tryz.prog true Tryz.f96 zwM
def zwL := wl Tryz.f97 {obj:=[(11,[false,true]),(24,[false,false,true]),(30,[false,false,true]),(43,[false,true]),(73,[false,false,true])]} []
def zql := af Tryz.prog true Tryz.f97 zwL
def zwN := wl Tryz.f99 {obj:=[(26,[false,false,false,false,true]),(41,[false,false,false,false,false,true]),(54,[false,false,false,false,false,true])]} []
def zqn := af Tryz.prog true Tryz.f99 zwN
def zuV := wl Tryz.f146 {} []
def zov := af Tryz.prog true Tryz.f146 zuV
def zvj := wl Tryz.f190 {} []
def zoT := af Tryz.prog true Tryz.f190 zvj
def zu5 := wl Tryz.f231 {} []
def zoF := af Tryz.prog true Tryz.f231 zu5
def zu8 := wl Tryz.f147 {} []
def zoI := af Tryz.prog true Tryz.f147 zu8
def zuw := wl Tryz.f194 {obj:=[(31,[false,false,false,true])]} []
def zn6 := af Tryz.prog true Tryz.f194 zuw
def zuY := wl Tryz.f148 {} []
def zoy := af Tryz.prog true Tryz.f148 zuY
def zuN := wl Tryz.f196 {ghost:=[(12,[98])]} []
def zon := af Tryz.prog true Tryz.f196 zuN
def zwO := wl Tryz.f60 {obj:=[(20,[false,true]),(27,[false,false,false,true]),(45,[false,false,false,true]),(58,[false,false,false,false,true]),(65,[false,true]),(83,[false,false,false,true])]} []
def zqo := af Tryz.prog true Tryz.f60 zwO
def zwP := wl Tryz.f61 {obj:=[(23,[false,true]),(45,[false,false,false,true]),(65,[false,false,false,true]),(92,[false,true]),(129,[false,true])]} []
def zqp := af Tryz.prog true Tryz.f61 zwP
@[irreducible] def zBu := wv Tryz.f101 {} 0 []
def zvG := wl Tryz.f101 {} [zBu]
def zpg := af Tryz.prog true Tryz.f101 zvG
def zBv : zl :=
 (.seq (.seq (.ops [] [oM 11 5, oM 12 0, oP 13 (.len (.t 12)), oP 14 (.bin .lss (.t 11) (.t 13))] [11, 12, 13])
 (.cond (.t 14) .skip (.exit 0 [])))
 (.seq (.block 1 (.seq (.draw [] [oM 17 0, oM 18 5, oP 19 (.iad 4 (.t 17) (.t 18)), oP 20 (.ld true 4 (.t 19)), oM 21 1, oM 22 5, oP 23 (.iad 4 (.t 21) (.t 22)), oP 24 (.ld true 4 (.t 23)), oP 25 (.eqs true 4 [(0, 0), (1, 0), (2, 0), (3, 0)] (.t 20) (.t 24))] [[], [0], [], [], [0, 1, 2, 3], [0, 1, 2, 3, 4], [0, 1, 2, 3], [0, 1, 2, 3], []] [14, 17, 18, 19, 20, 21, 22, 23, 24])
 (.cond (.t 25) (.seq (.ops [] [oP 4 (.mv (.c (.d (.bool false))))] [0, 1, 5, 25])
 (.ret [4])) .skip)))
 (.ops [] [oM 15 5, oP 16 (.bin .add (.t 15) (kI 1)), oM 5 16] [15, 16, 25])))
def zvH : zl :=
 (.seq (.ops [] [oP 4 (.mv (.c (.d (.bool false))))] [4])
 (.seq (.seq (.ops [] [oM 6 0, oP 7 (.len (.t 6)), oM 8 1, oP 9 (.len (.t 8)), oP 10 (.bin .neq (.t 7) (.t 9))] [6, 7, 8, 9])
 (.cond (.t 10) (.seq (.ops [] [oP 4 (.mv (.c (.d (.bool false))))] [0, 1, 10])
 (.ret [4])) .skip))
 (.seq (.seq (.ops [] [oP 5 (.mv (kI 0))] [10])
 (.block 0 (.loop [] zBv)))
 (.seq (.ops [] [oP 4 (.mv (.c (.d (.bool true))))] [0, 1, 5, 14])
 (.ret [4])))))
def zph := af Tryz.prog true Tryz.f102 zvH
@[irreducible] def zBw := wv Tryz.f103 {} 0 []
def zvI := wl Tryz.f103 {} [zBw]
def zpi := af Tryz.prog true Tryz.f103 zvI
def zvJ := wl Tryz.f150 {} []
def zpj := af Tryz.prog true Tryz.f150 zvJ
def zwQ := wl Tryz.f62 {obj:=[(24,[false,true]),(33,[false,true]),(50,[false,false,false,true]),(55,[false,false,false,true]),(64,[false,true]),(72,[false,true]),(107,[false,false,false,true])]} []
def zqq := af Tryz.prog true Tryz.f62 zwQ
def zrA : zw := {ghost:=[(15,[4000094]),(22,[6500094])],obj:=[(22,[false,true]),(28,[false,false,true]),(30,[false,false,true]),(38,[false,false,true]),(50,[false,false,false,true]),(59,[false,false,true]),(100,[false,false,true]),(112,[false,false,true])]}
@[irreducible] def zBG := wv Tryz.f104 zrA 0 []
def zwR := wl Tryz.f104 zrA [zBG]
def zqr := af Tryz.prog true Tryz.f104 zwR
def zwS := wl Tryz.f105 {} []
def zqs := af Tryz.prog true Tryz.f105 zwS
def zrx : zw := {ghost:=[(10,[4000070])],acc:=[11]}
@[irreducible] def zBh := wv Tryz.f151 zrx 0 []
def zvs := wl Tryz.f151 zrx [zBh]
def zo2 := af Tryz.prog true Tryz.f151 zvs
def zun := wl Tryz.f152 {} []
def znX := af Tryz.prog true Tryz.f152 zun
def zum := wl Tryz.f153 {} []
def znW := af Tryz.prog true Tryz.f153 zum
def zrq : zw := {obj:=[(44,[false,false,true])]}
@[irreducible] def zA2 := wv Tryz.f154 zrq 0 []
def zuU := wl Tryz.f154 zrq [zA2]
def zou := af Tryz.prog true Tryz.f154 zuU
def zwT := wl Tryz.f63 {obj:=[(26,[false,true]),(41,[false,false,true]),(42,[false,false,false,true]),(47,[false,false,false,true]),(56,[false,true]),(64,[false,true]),(71,[false,false,true]),(79,[false,true]),(87,[false,false,false,true])]} []
def zqt := af Tryz.prog true Tryz.f63 zwT
def zwA := wl Tryz.f106 {} []
def zqa := af Tryz.prog true Tryz.f106 zwA
def zwW := wl Tryz.f107 {obj:=[(16,[false,true]),(19,[false,true]),(52,[false,false,true]),(59,[false,false,true]),(65,[false,false,false,true]),(67,[false,true])]} []
def zqw := af Tryz.prog true Tryz.f107 zwW
def zwX := wl Tryz.f155 {obj:=[(6,[false,true])]} []
def zqx := af Tryz.prog true Tryz.f155 zwX
def zwU := wl Tryz.f158 {} []
def zqu := af Tryz.prog true Tryz.f158 zwU
def zu1 := wl Tryz.f156 {obj:=[(21,[false,false,true])]} []
def zoB := af Tryz.prog true Tryz.f156 zu1
def zus := wl Tryz.f199 {ghost:=[(7,[6000025])],obj:=[(25,[false,true]),(35,[false,false,false,true])]} []
def zn2 := af Tryz.prog true Tryz.f199 zus
def zwV := wl Tryz.f157 {} []
def zqv := af Tryz.prog true Tryz.f157 zwV
def zwY := wl Tryz.f64 {obj:=[(26,[false,true]),(41,[false,false,true]),(42,[false,false,false,true]),(47,[false,false,false,true]),(56,[false,true]),(64,[false,true]),(71,[false,false,true]),(79,[false,true]),(87,[false,false,false,true])]} []
def zqy := af Tryz.prog true Tryz.f64 zwY
def zw1 := wl Tryz.f109 {obj:=[(14,[false,true]),(17,[false,true]),(45,[false,false,true]),(52,[false,false,false,true]),(54,[false,true]),(56,[false,true])]} []
def zqB := af Tryz.prog true Tryz.f109 zw1
def zw2 := wl Tryz.f160 {obj:=[(6,[false,true])]} []
def zqC := af Tryz.prog true Tryz.f160 zw2
def zwZ := wl Tryz.f163 {} []
def zqz := af Tryz.prog true Tryz.f163 zwZ
def zu2 := wl Tryz.f161 {obj:=[(41,[false,false,false,true]),(50,[false,false,false,true]),(55,[false,true]),(59,[false,false,false,true]),(62,[false,true]),(66,[false,false,false,true])]} []
def zoC := af Tryz.prog true Tryz.f161 zu2
def zhv : zw := {obj:=[(41,[false,false,true]),(80,[false,false,false,true])]}
@[irreducible] def zBe := wv Tryz.f202 zhv 0 []
@[irreducible] def zBf := wv Tryz.f202 zhv 1 []
def zvi := wl Tryz.f202 zhv [zBe, zBf]
def zoS := af Tryz.prog true Tryz.f202 zvi
def zw0 := wl Tryz.f162 {} []
def zqA := af Tryz.prog true Tryz.f162 zw0
def zw3 := wl Tryz.f65 {obj:=[(26,[false,true]),(41,[false,false,true]),(42,[false,false,false,true]),(47,[false,false,false,true]),(56,[false,true]),(64,[false,true]),(71,[false,false,true]),(79,[false,true]),(87,[false,false,false,true])]} []
def zqD := af Tryz.prog true Tryz.f65 zw3
def zw6 := wl Tryz.f110 {obj:=[(14,[false,true]),(17,[false,true]),(23,[false,false,true]),(36,[false,true]),(42,[false,false,false,true]),(44,[false,true]),(46,[false,true])]} []
def zqG := af Tryz.prog true Tryz.f110 zw6
def zw7 := wl Tryz.f165 {obj:=[(6,[false,true])]} []
def zqH := af Tryz.prog true Tryz.f165 zw7
def zw4 := wl Tryz.f168 {} []
def zqE := af Tryz.prog true Tryz.f168 zw4
def zrv : zw := {obj:=[(60,[false,true]),(62,[false,true]),(92,[false,true]),(96,[false,false,false,true])]}
@[irreducible] def zBb := wv Tryz.f166 zrv 0 []
def zvf := wl Tryz.f166 zrv [zBb]
def zoP := af Tryz.prog true Tryz.f166 zvf
def zw5 := wl Tryz.f167 {} []
def zqF := af Tryz.prog true Tryz.f167 zw5
def zw8 := wl Tryz.f66 {obj:=[(26,[false,true]),(39,[false,false,false,true]),(44,[false,false,false,true]),(53,[false,true]),(61,[false,true]),(68,[false,false,true]),(76,[false,true]),(84,[false,false,false,true])]} []
def zqI := af Tryz.prog true Tryz.f66 zw8
def zrB : zw := {ghost:=[(22,[4000115]),(24,[6500115])],obj:=[(21,[false,true]),(36,[false,false,true]),(67,[false,false,true]),(90,[false,false,false,false,true]),(100,[false,false,true])]}
@[irreducible] def zBH := wv Tryz.f111 zrB 0 []
def zw9 := wl Tryz.f111 zrB [zBH]
def zqJ := af Tryz.prog true Tryz.f111 zw9
def zrw : zw := {ghost:=[(9,[4000049])]}
@[irreducible] def zBg := wv Tryz.f169 zrw 0 []
def zvo := wl Tryz.f169 zrw [zBg]
def zoY := af Tryz.prog true Tryz.f169 zvo
def zhu : zw := {obj:=[(24,[false,true]),(26,[false,true]),(47,[false,false,true]),(74,[false,false,true])]}
@[irreducible] def zA4 := wv Tryz.f170 zhu 0 []
@[irreducible] def zA5 := wv Tryz.f170 zhu 1 []
def zuZ := wl Tryz.f170 zhu [zA4, zA5]
def zoz := af Tryz.prog true Tryz.f170 zuZ
def zxa := wl Tryz.f67 {obj:=[(26,[false,true]),(42,[false,false,false,true]),(47,[false,false,false,true]),(56,[false,true]),(64,[false,true]),(71,[false,false,true]),(79,[false,true]),(87,[false,false,false,true])]} []
def zqK := af Tryz.prog true Tryz.f67 zxa
end Go.Proofs.YtgjlpcbolldhhaaGreat
