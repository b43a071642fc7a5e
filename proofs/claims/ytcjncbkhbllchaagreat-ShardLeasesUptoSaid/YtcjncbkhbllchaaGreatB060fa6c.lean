/-
  Functions of the program, as the calculus has them.
-/
import Derived.Test.YtcjncbkhbllchaaGreatBcb12757
import Derived.Test.YtcjncbkhbllchaaGreatProg
set_option linter.unusedSimpArgs false
set_option linter.unusedVariables false
namespace Go.Proofs.YtcjncbkhbllchaaGreat
open Go Go.Sim
set_option maxRecDepth 100000
set_option maxHeartbeats 4000000
def z7b : Hints := { kill := [(0, [2]), (1, [0, 19, 20]), (2, [21, 22]), (3, [3, 23, 24, 25, 26, 27, 28, 29, 30, 31, 32, 33]), (4, [34, 35, 36, 37, 38, 39, 40, 41, 42, 43, 44, 45, 46, 47, 48, 49]), (5, [8, 50]), (6, [4, 5, 6, 7, 51, 52, 53, 54, 55, 56, 57]), (7, [51]), (8, [58, 59, 60]), (9, [11, 62, 63, 151, 212]), (10, [61, 64, 65, 66, 67, 68]), (11, [10, 69, 70, 71, 72, 73, 74, 75]), (12, [76, 77]), (13, [78, 79, 80, 81]), (14, [82, 83, 84, 85, 86]), (15, [87, 88, 89, 90, 91]), (16, [12, 13, 14, 92, 93, 94, 95, 96, 97, 98, 99, 100, 101, 102, 103, 104, 105, 106, 107, 108, 109, 110, 111, 112, 113, 114, 115, 116, 117, 118, 119, 120, 121, 122, 123, 124, 125, 126, 127, 128, 129, 130, 131, 132, 133, 134, 135, 136, 137, 138, 139, 140, 141, 142, 143, 144, 145, 146, 147]), (17, [4, 5, 6, 7, 9, 11, 148]), (18, [148, 149, 150]), (19, [151, 152, 153, 154, 155, 156, 157, 158, 159, 160, 161]), (20, [162, 163, 164, 165, 166, 167, 168, 169, 170, 171, 172, 173]), (21, [11, 15, 16, 17, 18, 174, 175, 176, 177, 178, 179, 180, 181, 182, 183, 184, 185, 186, 187, 188, 189, 190, 191, 192, 193, 194, 195, 196, 197, 198, 199, 200, 201, 202, 203, 204, 205, 206, 207, 208, 209, 210, 211]), (22, [4, 5, 6, 7, 9, 212]), (23, [4, 5, 6, 7, 9, 61, 213])], obj := [(22, [true]), (24, [true, false, false]), (26, [true, false]), (28, [true, false]), (30, [true, false]), (32, [true, false, false])], exit := [(1, [4, 5, 6, 7, 9])], ret := [2] }
def zbK : List (Nat × List (List Nat)) := [(12, [[], [0], [0, 1], [0, 1, 2], [1], []]), (21, [[], [], [], [], [], [], [], [], [7], [7, 8], [7, 8], [7, 8, 9, 10], [7, 8, 9, 10], [], [], [], [], [16], [16, 17], [16, 17], [16, 17, 18, 19], [16, 17, 18, 19], [], [], [], [], [], [25, 26], [], [], [], [], [], [], [], [33, 34], [], [], []])]
def z0C : ACode := by
  refine val (x := codeL Tryz.prog Tryz.f3 z7b zbK 0 []) ?_ ?_
  rotate_left
  conv => lhs; reduce; try simp only [iP, iN, Int.cast_ofNat_Int, Int.natCast_zero, Int.natCast_one]
attribute [irreducible] z0C
def z5F : ACode := by
  refine val (x := codeC Tryz.prog Tryz.f3 z7b zbK [z0C]) ?_ ?_
  rotate_left
  conv => lhs; reduce; try simp only [iP, iN, Int.cast_ofNat_Int, Int.natCast_zero, Int.natCast_one]
def z7L : List ARes := [.t 2]
def z3d : AFn := .code z5F z7L 214 true
def zab : Hints := { kill := [(0, [2]), (1, [3, 4]), (2, [5, 6, 7]), (3, [0, 5, 8, 9, 10])], ret := [2] }
def z5x : ACode := by
  refine val (x := codeC Tryz.prog Tryz.f7 zab [] []) ?_ ?_
  rotate_left
  conv => lhs; reduce; try simp only [iP, iN, Int.cast_ofNat_Int, Int.natCast_zero, Int.natCast_one]
def z7D : List ARes := [.t 2]
def z5Y : AFn := .code z5x z7D 11 false
def zak : Hints := { kill := [(1, [5, 6, 7, 8, 9]), (2, [0, 3, 4, 10, 11, 12, 13])], obj := [(7, [true]), (13, [true, false, false])], ret := [2] }
def z8a : ACode := by
  refine val (x := codeC Tryz.prog Tryz.f8 zak [] []) ?_ ?_
  rotate_left
  conv => lhs; reduce; try simp only [iP, iN, Int.cast_ofNat_Int, Int.natCast_zero, Int.natCast_one]
def zc0 : List ARes := [.c 2 true 8]
def z65 : AFn := .code z8a zc0 14 true
def zal : Hints := { kill := [(0, [2, 3]), (1, [6, 7, 8]), (2, [0, 9, 10, 11]), (3, [4, 5, 12, 13, 14, 15, 16, 17])], obj := [(8, [true, false]), (11, [true, false])], ret := [2, 3] }
def z2A : ACode := by
  refine val (x := codeC Tryz.prog Tryz.f34 zal [] []) ?_ ?_
  rotate_left
  conv => lhs; reduce; try simp only [iP, iN, Int.cast_ofNat_Int, Int.natCast_zero, Int.natCast_one]
def z5c : List ARes := [.t 2, .t 3]
def z30 : AFn := .code z2A z5c 18 true
def zah : Hints := { kill := [(0, [4]), (1, [0, 1, 5, 6, 7, 8, 9, 10, 11])], obj := [(9, [true, false])], ret := [4] }
def z88 : ACode := by
  refine val (x := codeC Tryz.prog Tryz.f17 zah [] []) ?_ ?_
  rotate_left
  conv => lhs; reduce; try simp only [iP, iN, Int.cast_ofNat_Int, Int.natCast_zero, Int.natCast_one]
def zbY : List ARes := [.t 4]
def z62 : AFn := .code z88 zbY 12 true
def zag : Hints := { kill := [(0, [4]), (1, [6]), (2, [0, 1, 7]), (3, [0, 7, 8, 9, 10, 11]), (4, [12]), (5, [1, 13, 14, 15, 16]), (6, [1, 5, 13, 17])], obj := [(9, [true])], ret := [4] }
def z5A : ACode := by
  refine val (x := codeC Tryz.prog Tryz.f10 zag [] []) ?_ ?_
  rotate_left
  conv => lhs; reduce; try simp only [iP, iN, Int.cast_ofNat_Int, Int.natCast_zero, Int.natCast_one]
def z7G : List ARes := [.t 4]
def z61 : AFn := .code z5A z7G 18 true
def zaj : Hints := { kill := [(0, [2]), (1, [3, 4, 5, 6, 7, 8, 9, 10, 11]), (2, [0, 12]), (3, [12, 13, 14, 15, 16, 17, 18, 19]), (4, [0, 20, 21, 22, 23, 24, 25, 26, 27, 28, 29, 30])], ret := [2] }
def zg3 : List (Nat × List (List Nat)) := [(1, [[], [], [], [], [0, 1, 2, 3], [0, 1, 2, 3], [0, 1, 2, 3], [0, 1, 2, 3], [0, 1, 2, 3], []]), (4, [[], [], [], [], [0, 1, 2, 3], [0, 1, 2, 3], [0, 1, 2, 3], [0, 1, 2, 3], [0, 1, 2, 3], [], [], []])]
def z5B : ACode := by
  refine val (x := codeC Tryz.prog Tryz.f36 zaj zg3 []) ?_ ?_
  rotate_left
  conv => lhs; reduce; try simp only [iP, iN, Int.cast_ofNat_Int, Int.natCast_zero, Int.natCast_one]
def z7H : List ARes := [.t 2]
def z64 : AFn := .code z5B z7H 31 true
def zac : Hints := { kill := [(1, [0, 1, 2, 7, 8, 9, 10])], obj := [(10, [true, false, false, false])], ret := [6] }
def z86 : ACode := by
  refine val (x := codeC Tryz.prog Tryz.f35 zac [] []) ?_ ?_
  rotate_left
  conv => lhs; reduce; try simp only [iP, iN, Int.cast_ofNat_Int, Int.natCast_zero, Int.natCast_one]
def zbW : List ARes := [.c 6 true 8]
def z2W : AFn := .code z86 zbW 11 true
def zad : Hints := { kill := [(1, [0, 1, 2, 3, 9, 10, 11, 12, 13, 14, 15])], obj := [(11, [true, false, false]), (15, [true, false, false, false, false])], ret := [8] }
def z87 : ACode := by
  refine val (x := codeC Tryz.prog Tryz.f87 zad [] []) ?_ ?_
  rotate_left
  conv => lhs; reduce; try simp only [iP, iN, Int.cast_ofNat_Int, Int.natCast_zero, Int.natCast_one]
def zbX : List ARes := [.c 8 true 8]
def z2X : AFn := .code z87 zbX 16 true
def zai : Hints := { kill := [(0, [6]), (1, [0, 1, 2, 7, 8, 9, 10, 11, 12, 13, 14])], obj := [(13, [true, false])], ret := [6] }
def z89 : ACode := by
  refine val (x := codeC Tryz.prog Tryz.f9 zai [] []) ?_ ?_
  rotate_left
  conv => lhs; reduce; try simp only [iP, iN, Int.cast_ofNat_Int, Int.natCast_zero, Int.natCast_one]
def zbZ : List ARes := [.t 6]
def z63 : AFn := .code z89 zbZ 15 true
def zae : Hints := { kill := [(1, [14, 15]), (2, [0, 1, 2, 3, 4, 12, 16, 17, 18, 19, 20, 21]), (3, [11, 22]), (4, [1, 16, 23, 24, 25, 26, 27, 28, 29, 30, 31]), (5, [0, 2, 3, 4, 32, 33, 34, 35, 36, 37, 38, 39, 40, 41, 42, 43, 44, 45, 46, 47]), (6, [13, 48])], obj := [(15, [true, false]), (30, [true, false, false, false, false, false]), (46, [true, false, false, false, false])], ret := [10] }
def z22 : ACode := by
  refine val (x := codeC Tryz.prog Tryz.f146 zae [] []) ?_ ?_
  rotate_left
  conv => lhs; reduce; try simp only [iP, iN, Int.cast_ofNat_Int, Int.natCast_zero, Int.natCast_one]
def z2u : List ARes := [.c 10 true 8]
def z2Y : AFn := .code z22 z2u 49 true
def zb0 : Hints := { kill := [(0, [3]), (1, [0, 6, 7, 8, 9, 10]), (2, [11]), (3, [4, 5, 12, 13, 14]), (4, [4, 5, 12, 15, 16])], ret := [2, 3] }
def z8J : ACode := by
  refine val (x := codeC Tryz.prog Tryz.f177 zb0 [] []) ?_ ?_
  rotate_left
  conv => lhs; reduce; try simp only [iP, iN, Int.cast_ofNat_Int, Int.natCast_zero, Int.natCast_one]
def zcy : List ARes := [.c 2 true 8, .t 3]
def z3L : AFn := .code z8J zcy 17 true
def zaS : Hints := { kill := [(0, [3]), (1, [4, 5, 6, 7, 8]), (2, [0, 9, 10]), (3, [0, 9, 11, 12, 13])], ret := [2, 3] }
def z8z : ACode := by
  refine val (x := codeC Tryz.prog Tryz.f200 zaS [] []) ?_ ?_
  rotate_left
  conv => lhs; reduce; try simp only [iP, iN, Int.cast_ofNat_Int, Int.natCast_zero, Int.natCast_one]
def zco : List ARes := [.c 2 true 3, .t 3]
def z3y : AFn := .code z8z zco 14 true
def z75 : Hints := { kill := [(1, [1, 14, 16, 17, 18, 19, 20]), (2, [21, 22, 23, 24, 25, 26]), (3, [2, 27, 28, 29, 30, 31, 32, 33, 34]), (4, [35]), (5, [37, 38]), (6, [36, 39, 40]), (7, [41, 42, 43, 44, 45, 46, 47, 48, 49, 50, 51]), (8, [41, 52, 53, 54, 55, 56, 57, 58, 59, 60, 61]), (9, [62, 63]), (10, [0, 3, 4, 5, 13, 15, 36, 64])], obj := [(25, [true, false]), (34, [true, false]), (40, [true, false]), (48, [true, false, false, false]), (58, [true, false, false, false])], exit := [(0, [12, 13])], ret := [12] }
def zbG : List (Nat × List (List Nat)) := [(7, [[], [0], [0, 1], [0, 1, 2], [0, 1, 2, 3], [0], [], [], [], [8], [9]]), (8, [[], [0], [0, 1], [0, 1, 2], [0, 1, 2, 3], [0], [], [], [], [8], [9]])]
def z2j : ACode := by
  refine val (x := codeL Tryz.prog Tryz.f178 z75 zbG 0 []) ?_ ?_
  rotate_left
  conv => lhs; reduce; try simp only [iP, iN, Int.cast_ofNat_Int, Int.natCast_zero, Int.natCast_one]
attribute [irreducible] z2j
def z5C : ACode := by
  refine val (x := codeC Tryz.prog Tryz.f178 z75 zbG [z2j]) ?_ ?_
  rotate_left
  conv => lhs; reduce; try simp only [iP, iN, Int.cast_ofNat_Int, Int.natCast_zero, Int.natCast_one]
def z7I : List ARes := [.c 12 true 3]
def z2Z : AFn := .code z5C z7I 65 true
def zaf : Hints := { kill := [(1, [1, 2, 3, 10, 11, 12, 13, 14, 15, 16, 17, 18, 19, 20, 21, 22, 23, 24]), (2, [25, 26, 27, 28, 29, 30]), (3, [0, 31, 32]), (4, [33, 34]), (5, [9, 33, 35])], obj := [(17, [true, false]), (19, [true, false]), (21, [true, false]), (23, [true]), (28, [true, false]), (32, [true, false])], ret := [8] }
def zg2 : List (Nat × List (List Nat)) := [(2, [[], [], [0, 1], [0, 1], [], [], []])]
def z5z : ACode := by
  refine val (x := codeC Tryz.prog Tryz.f33 zaf zg2 []) ?_ ?_
  rotate_left
  conv => lhs; reduce; try simp only [iP, iN, Int.cast_ofNat_Int, Int.natCast_zero, Int.natCast_one]
def z7F : List ARes := [.c 8 true 7]
def z60 : AFn := .code z5z z7F 36 true
def zaP : Hints := { kill := [(0, [2]), (1, [6, 7, 8, 9, 10]), (2, [0, 11]), (3, [0, 4, 11, 12, 13, 14, 15, 16]), (4, [3, 17, 18]), (5, [5, 19, 20, 21, 22, 23])], ret := [2] }
def z2J : ACode := by
  refine val (x := codeC Tryz.prog Tryz.f86 zaP [] []) ?_ ?_
  rotate_left
  conv => lhs; reduce; try simp only [iP, iN, Int.cast_ofNat_Int, Int.natCast_zero, Int.natCast_one]
def z5l : List ARes := [.t 2]
def z6h : AFn := .code z2J z5l 24 true
def z7e : Hints := { kill := [(0, [6, 7]), (1, [10, 11, 12, 13, 14, 15, 16, 17, 18, 19, 20, 21, 22, 23, 24, 25, 26]), (2, [0, 1, 2, 27]), (3, [0, 27, 28, 29]), (4, [2, 30, 31]), (5, [32]), (6, [34, 35]), (7, [33, 36, 37, 38, 39, 40, 41, 42, 43, 44]), (8, [1, 8, 9, 33, 45])], exit := [(0, [8])], ret := [6, 7] }
def z4P : ACode := by
  refine val (x := codeL Tryz.prog Tryz.f144 z7e [] 0 []) ?_ ?_
  rotate_left
  conv => lhs; reduce; try simp only [iP, iN, Int.cast_ofNat_Int, Int.natCast_zero, Int.natCast_one]
attribute [irreducible] z4P
def z8x : ACode := by
  refine val (x := codeC Tryz.prog Tryz.f144 z7e [] [z4P]) ?_ ?_
  rotate_left
  conv => lhs; reduce; try simp only [iP, iN, Int.cast_ofNat_Int, Int.natCast_zero, Int.natCast_one]
def zcm : List ARes := [.t 6, .t 7]
def z3u : AFn := .code z8x zcm 46 true
def z7f : Hints := { kill := [(0, [2]), (3, [5, 6, 7]), (4, [9, 10]), (5, [8, 11, 12, 13, 14, 15, 16, 17, 18, 19]), (6, [0, 3, 4, 8, 20])], exit := [(0, [3])], ret := [2] }
def z4Q : ACode := by
  refine val (x := codeL Tryz.prog Tryz.f145 z7f [] 0 []) ?_ ?_
  rotate_left
  conv => lhs; reduce; try simp only [iP, iN, Int.cast_ofNat_Int, Int.natCast_zero, Int.natCast_one]
attribute [irreducible] z4Q
def z8y : ACode := by
  refine val (x := codeC Tryz.prog Tryz.f145 z7f [] [z4Q]) ?_ ?_
  rotate_left
  conv => lhs; reduce; try simp only [iP, iN, Int.cast_ofNat_Int, Int.natCast_zero, Int.natCast_one]
def zcn : List ARes := [.t 2]
def z3v : AFn := .code z8y zcn 21 true
def zaO : Hints := { kill := [(0, [6]), (1, [7, 8, 9, 10, 11, 12, 13, 14, 15, 16, 17, 18, 19, 20, 21, 22, 23, 24]), (2, [0, 1, 2, 25]), (3, [25, 26, 27, 28, 29, 30, 31, 32]), (4, [0, 1, 2, 33, 34]), (5, [0, 1, 2, 33, 35, 36, 37, 38, 39, 40, 41, 42])], ret := [6] }
def z2I : ACode := by
  refine val (x := codeC Tryz.prog Tryz.f85 zaO [] []) ?_ ?_
  rotate_left
  conv => lhs; reduce; try simp only [iP, iN, Int.cast_ofNat_Int, Int.natCast_zero, Int.natCast_one]
def z5k : List ARes := [.t 6]
def z6g : AFn := .code z2I z5k 43 true
def z74 : Hints := { kill := [(0, [2]), (1, [5, 6, 7]), (3, [8, 9, 10]), (4, [12, 13]), (5, [11, 14, 15, 16, 17, 18, 19, 20]), (6, [0, 3, 4, 11, 21, 22])], ghost := [(6, [15])], obj := [(6, [true, false]), (17, [true, false])], exit := [(0, [3])], ret := [2] }
def z4H : ACode := by
  refine val (x := codeL Tryz.prog Tryz.f84 z74 [] 0 []) ?_ ?_
  rotate_left
  conv => lhs; reduce; try simp only [iP, iN, Int.cast_ofNat_Int, Int.natCast_zero, Int.natCast_one]
attribute [irreducible] z4H
def z5y : ACode := by
  refine val (x := codeC Tryz.prog Tryz.f84 z74 [] [z4H]) ?_ ?_
  rotate_left
  conv => lhs; reduce; try simp only [iP, iN, Int.cast_ofNat_Int, Int.natCast_zero, Int.natCast_one]
def z7E : List ARes := [.t 2]
def z5Z : AFn := .code z5y z7E 23 true
def zaT : Hints := { kill := [(0, [0, 1, 5]), (1, [7, 8, 9]), (2, [10]), (3, [2, 3, 6, 11, 12, 13]), (4, [2, 3, 6, 11, 14, 15, 16, 17, 18, 19, 20, 21, 22])], obj := [(22, [false, false, false, true])], ret := [4, 5] }
def zga : List (Nat × List (List Nat)) := [(4, [[], [0], [0], [0, 1, 2], [0, 1, 2], [0, 1, 2, 3, 4], [0, 1, 2, 3, 4], [0, 1, 2], [], [], []])]
def z8A : ACode := by
  refine val (x := codeC Tryz.prog Tryz.f133 zaT zga []) ?_ ?_
  rotate_left
  conv => lhs; reduce; try simp only [iP, iN, Int.cast_ofNat_Int, Int.natCast_zero, Int.natCast_one]
def zcp : List ARes := [.c 4 true 3, .t 5]
def z3z : AFn := .code z8A zcp 23 true
def zaV : Hints := { kill := [(0, [0, 1, 4]), (1, [7, 8]), (2, [9]), (3, [2, 3, 5, 10, 11]), (4, [5, 10, 12, 13]), (5, [14]), (6, [2, 3, 6, 15, 16]), (7, [6, 15, 17, 18, 19, 20, 21]), (8, [2, 3, 22]), (9, [2, 3, 22, 23, 24, 25, 26, 27]), (10, [28]), (11, [28])], ret := [4] }
def zgc : List (Nat × List (List Nat)) := [(9, [[], [], [0, 1], [0, 1], [], []])]
def z0u : ACode := by
  refine val (x := codeC Tryz.prog Tryz.f170 zaV zgc []) ?_ ?_
  rotate_left
  conv => lhs; reduce; try simp only [iP, iN, Int.cast_ofNat_Int, Int.natCast_zero, Int.natCast_one]
def z0H : List ARes := [.t 4]
def z3D : AFn := .code z0u z0H 29 true
def z4S : ACode :=
 (.seq (.seq (.ops [] [oM 42 4, oM 43 3, oP 44 (.bin .lss (.t 42) (.t 43))] [42, 43])
 (.cond (.t 44) .skip (.exit 0 [1])))
 (.seq (.block 1 (.seq (.draw [] [oP 47 (.fad false 0 1 (.t 1)), oP 48 (.ld false 1 (.t 47)), oP 49 (.fad false 1 1 (.t 1)), oP 50 (.ld false 1 (.t 49)), oM 51 4, oP 52 (.bin .add (.t 50) (.t 51)), oM 53 3, oP 54 (.bin .rem (.t 52) (.t 53)), oP 55 (.iad 7 (.t 48) (.t 54)), oP 56 (.ld true 7 (.t 55)), oP 57 (.build [aI 0, aI 0, aI 0, aI 0, aI 0, aI 0, .d (.str [])] []), oP 58 (.eqs true 7 [(0, 0), (1, 0), (2, 0), (3, 0), (4, 0), (5, 0), (6, 2)] (.t 56) (.t 57))] [[], [], [0, 1], [0, 1], [0, 1, 2, 3], [0, 1], [0, 1, 2, 3, 4, 5], [0, 1], [], [], [0, 1, 2, 3, 4, 5, 6, 7, 8, 9], []] [44, 47, 48, 49, 50, 51, 52, 53, 54, 55, 56, 57])
 (.cond (.t 58) (.seq (.ops [] [oP 2 (.mv (kI 7))] [1, 3, 4, 58])
 (.ret [2])) .skip)))
 (.ops [] [oM 45 4, oP 46 (.bin .add (.t 45) (kI 1)), oM 4 46] [45, 46, 58])))
def z4T : ACode :=
 (.seq (.seq (.ops [] [oM 61 6, oM 62 5, oP 63 (.len (.t 62)), oP 64 (.bin .lss (.t 61) (.t 63))] [61, 62, 63])
 (.cond (.t 64) .skip (.exit 2 [5])))
 (.seq (.block 3 (.seq (.ops [] [oM 67 5, oM 68 6, oP 69 (.iad 7 (.t 67) (.t 68)), oP 70 (.ld true 7 (.t 69)), oP 71 (.call z0b [] [.t 70]), oM 7 71] [64, 67, 68, 69, 70, 71])
 (.seq (.ops [] [oM 72 7, oP 73 (.bin .neq (.t 72) (kI 0))] [72])
 (.cond (.t 73) (.seq (.ops [] [oM 74 7, oM 2 74] [5, 6, 7, 73, 74])
 (.ret [2])) .skip))))
 (.ops [] [oM 65 6, oP 66 (.bin .add (.t 65) (kI 1)), oM 6 66] [7, 65, 66, 73])))
def z4U : ACode :=
 (.seq (.seq (.ops [] [oM 75 8, oM 76 5, oP 77 (.len (.t 76)), oP 78 (.bin .lss (.t 75) (.t 77))] [75, 76, 77])
 (.cond (.t 78) .skip (.exit 4 [])))
 (.seq (.block 5 (.seq (.ops [] [oM 81 5, oM 82 5, oM 83 8, oP 84 (.iad 7 (.t 82) (.t 83)), oP 85 (.fad false 0 1 (.t 84)), oP 86 (.ld false 1 (.t 85)), oP 87 (.call z0a [] [.t 81, .t 86]), oM 88 8, oP 89 (.bin .neq (.t 87) (.t 88))] [78, 81, 82, 83, 84, 85, 86, 87, 88])
 (.cond (.t 89) (.seq (.ops [] [oP 2 (.mv (kI 10))] [5, 8, 89])
 (.ret [2])) .skip)))
 (.ops [] [oM 79 8, oP 80 (.bin .add (.t 79) (kI 1)), oM 8 80] [79, 80, 89])))
def zU : ACode :=
 (.seq (.ops [] [oP 1 (.box (.t 0)), oP 2 (.mv (kI 0))] [0, 2])
 (.seq (.ops [] [oP 9 (.fad false 0 1 (.t 1)), oP 10 (.ld false 1 (.t 9)), oP 11 (.len (.t 10)), oM 3 11] [9, 10, 11])
 (.seq (.seq (.ops [] [oM 12 3, oP 13 (.bin .lss (.t 12) (kI 1)), oM 14 13, oQ 15 (.mv (.t 3)) 14 false, oQ 16 (.bin .gtr (.t 15) (kI 12)) 14 false, oP 17 (.pick (.t 14) (.c (.d (.bool true))) (.t 16)), oM 18 17, oQ 19 (.fad false 1 1 (.t 1)) 18 false, oQ 20 (.ld false 1 (.t 19)) 18 false, oQ 21 (.bin .lss (.t 20) (kI 0)) 18 false, oP 22 (.pick (.t 18) (.c (.d (.bool true))) (.t 21)), oM 23 22, oQ 24 (.fad false 1 1 (.t 1)) 23 false, oQ 25 (.ld false 1 (.t 24)) 23 false, oQ 26 (.mv (.t 3)) 23 false, oQ 27 (.bin .geq (.t 25) (.t 26)) 23 false, oP 28 (.pick (.t 23) (.c (.d (.bool true))) (.t 27)), oM 29 28, oQ 30 (.fad false 2 1 (.t 1)) 29 false, oQ 31 (.ld false 1 (.t 30)) 29 false, oQ 32 (.bin .lss (.t 31) (kI 0)) 29 false, oP 33 (.pick (.t 29) (.c (.d (.bool true))) (.t 32)), oM 34 33, oQ 35 (.fad false 2 1 (.t 1)) 34 false, oQ 36 (.ld false 1 (.t 35)) 34 false, oQ 37 (.mv (.t 3)) 34 false, oQ 38 (.bin .gtr (.t 36) (.t 37)) 34 false, oP 39 (.pick (.t 34) (.c (.d (.bool true))) (.t 38))] [12, 13, 14, 15, 16, 17, 18, 19, 20, 21, 22, 23, 24, 25, 26, 27, 28, 29, 30, 31, 32, 33, 34, 35, 36, 37, 38])
 (.cond (.t 39) (.seq (.ops [] [oP 2 (.mv (kI 1))] [1, 3, 39])
 (.ret [2])) .skip))
 (.seq (.seq (.ops [] [oP 40 (.fad false 2 1 (.t 1)), oP 41 (.ld false 1 (.t 40)), oM 4 41] [39, 40, 41])
 (.block 0 (.loop [] z4S)))
 (.seq (.ops [] [oP 59 (.ld true 3 (.t 1)), oP 60 (.call z0e [] [.t 59]), oM 5 60] [1, 3, 4, 44, 59, 60])
 (.seq (.seq (.ops [] [oP 6 (.mv (kI 0))] [])
 (.block 2 (.loop [] z4T)))
 (.seq (.seq (.ops [] [oP 8 (.mv (kI 0))] [6, 64])
 (.block 4 (.loop [] z4U)))
 (.seq (.ops [] [oP 2 (.mv (kI 0))] [5, 8, 78])
 (.ret [2])))))))))
def z0G : List ARes := [.t 2]
def z3B : AFn := .code zU z0G 90 true
def z7h : Hints := { kill := [(0, [0, 2]), (3, [5, 6, 7]), (4, [9, 10]), (5, [8, 11, 12, 13, 14, 15, 16, 17, 18, 19, 20, 21, 22, 23, 24, 25]), (6, [1, 3, 4, 8, 26])], acc := [3], exit := [(0, [3])], ret := [2] }
def zbM : List (Nat × List (List Nat)) := [(5, [[], [0], [0], [0, 1, 2], [0, 1, 2], [0, 1, 2, 3, 4], [0, 1, 2], [0, 1, 2, 3, 4, 5, 6], [0, 1, 2, 3, 4, 5, 6], [0, 1, 2, 3, 4, 5, 6], [0, 1, 2], [0], [0], [0], [], []])]
def z2l : ACode := by
  refine val (x := codeL Tryz.prog Tryz.f122 z7h zbM 0 []) ?_ ?_
  rotate_left
  conv => lhs; reduce; try simp only [iP, iN, Int.cast_ofNat_Int, Int.natCast_zero, Int.natCast_one]
attribute [irreducible] z2l
def z8B : ACode := by
  refine val (x := codeC Tryz.prog Tryz.f122 z7h zbM [z2l]) ?_ ?_
  rotate_left
  conv => lhs; reduce; try simp only [iP, iN, Int.cast_ofNat_Int, Int.natCast_zero, Int.natCast_one]
def zcq : List ARes := [.t 2]
def z3C : AFn := .code z8B zcq 27 false
def zaQ : Hints := { kill := [(0, [0, 2]), (1, [3, 4, 5, 6, 7, 8, 9, 10, 11, 12, 13, 14, 15, 16, 17, 18, 19, 20, 21, 22, 23, 24, 25, 26, 27, 28, 29, 30, 31, 32, 33, 34, 35, 36, 37]), (2, [1, 38]), (3, [1, 38, 39, 40, 41]), (4, [42]), (5, [42])], ret := [2] }
def z2K : ACode := by
  refine val (x := codeC Tryz.prog Tryz.f123 zaQ [] []) ?_ ?_
  rotate_left
  conv => lhs; reduce; try simp only [iP, iN, Int.cast_ofNat_Int, Int.natCast_zero, Int.natCast_one]
def z5m : List ARes := [.t 2]
def z6i : AFn := .code z2K z5m 43 true
def zaR : Hints := { kill := [(0, [6]), (1, [0, 1, 2, 7, 8, 9, 10, 11, 12, 13, 14])], ret := [6] }
def z2L : ACode := by
  refine val (x := codeC Tryz.prog Tryz.f166 zaR [] []) ?_ ?_
  rotate_left
  conv => lhs; reduce; try simp only [iP, iN, Int.cast_ofNat_Int, Int.natCast_zero, Int.natCast_one]
def z5n : List ARes := [.t 6]
def z3x : AFn := .code z2L z5n 15 true
def z7g : Hints := { kill := [(0, [4]), (2, [6, 7, 8]), (3, [10, 11, 18]), (4, [9, 12, 13, 14, 15, 16, 17]), (5, [0, 1, 5, 18, 19]), (6, [0, 1, 5, 9])], ret := [4] }
def z4R : ACode := by
  refine val (x := codeL Tryz.prog Tryz.f20 z7g [] 0 []) ?_ ?_
  rotate_left
  conv => lhs; reduce; try simp only [iP, iN, Int.cast_ofNat_Int, Int.natCast_zero, Int.natCast_one]
attribute [irreducible] z4R
def z5H : ACode := by
  refine val (x := codeC Tryz.prog Tryz.f20 z7g [] [z4R]) ?_ ?_
  rotate_left
  conv => lhs; reduce; try simp only [iP, iN, Int.cast_ofNat_Int, Int.natCast_zero, Int.natCast_one]
def z7N : List ARes := [.t 4]
def z3w : AFn := .code z5H z7N 20 true
def z7i : Hints := { kill := [(0, [0]), (1, [3, 9, 10, 11, 12, 13, 14, 15, 16]), (3, [17, 18, 19]), (4, [21, 22]), (5, [20, 23, 24, 25, 26, 27, 28, 29, 30, 31, 32, 33, 34, 35, 36]), (6, [1, 2, 7, 8, 20, 37])], exit := [(0, [6, 7])], ret := [6] }
def zbN : List (Nat × List (List Nat)) := [(5, [[], [], [0, 1], [0, 1, 2], [0, 1], [0, 1, 2, 3, 4], [0, 1, 2, 3, 4], [0, 1, 2, 3, 4], [0, 1], [0, 1, 2, 3, 4, 5, 6, 7, 8], [0, 1, 2, 3, 4, 5, 6, 7, 8, 9], [0, 1, 2, 3, 4, 5, 6, 7, 8], [0, 1, 2, 3, 4, 5, 6, 7, 8], [], []])]
def z2m : ACode := by
  refine val (x := codeL Tryz.prog Tryz.f171 z7i zbN 0 []) ?_ ?_
  rotate_left
  conv => lhs; reduce; try simp only [iP, iN, Int.cast_ofNat_Int, Int.natCast_zero, Int.natCast_one]
attribute [irreducible] z2m
def z8C : ACode := by
  refine val (x := codeC Tryz.prog Tryz.f171 z7i zbN [z2m]) ?_ ?_
  rotate_left
  conv => lhs; reduce; try simp only [iP, iN, Int.cast_ofNat_Int, Int.natCast_zero, Int.natCast_one]
def zcr : List ARes := [.c 6 true 3]
def z3E : AFn := .code z8C zcr 38 true
def zaU : Hints := { kill := [(0, [0, 1, 5]), (1, [8, 9, 10]), (2, [11]), (3, [2, 3, 6, 12, 13, 14]), (4, [6, 12, 15, 16, 17]), (5, [2, 3, 7, 18, 19, 20, 21, 22, 23, 24, 25, 26, 27, 28, 29, 30, 31])], obj := [(31, [false, false, false, true])], ret := [4, 5] }
def zgb : List (Nat × List (List Nat)) := [(5, [[], [0], [0], [0, 1, 2], [0], [0], [0, 1, 2, 3, 4, 5], [0], [0, 1, 2, 3, 4, 5, 6, 7], [0, 1, 2, 3, 4, 5, 6, 7], [0, 1, 2, 3, 4, 5, 6, 7, 8, 9], [0, 1, 2, 3, 4, 5, 6, 7, 8, 9], [0, 1, 2, 3, 4, 5, 6, 7], [], [], []])]
def z5I : ACode := by
  refine val (x := codeC Tryz.prog Tryz.f142 zaU zgb []) ?_ ?_
  rotate_left
  conv => lhs; reduce; try simp only [iP, iN, Int.cast_ofNat_Int, Int.natCast_zero, Int.natCast_one]
def z7O : List ARes := [.c 4 true 3, .t 5]
def z3A : AFn := .code z5I z7O 32 true
def z76 : Hints := { kill := [(2, [1, 14, 15, 16, 17]), (3, [18]), (4, [20, 21]), (5, [19, 22, 23, 24, 25, 26]), (6, [27, 28, 29, 30]), (7, [13, 31, 32, 33, 34, 35, 36, 37, 38]), (8, [39, 40, 41, 42]), (9, [0, 2, 3, 4, 11, 12, 19, 43])], obj := [(17, [true, false]), (26, [true, false, false, false]), (35, [true, false]), (41, [true, false, false])], exit := [(0, [10, 11])], ret := [10] }
def zbH : List (Nat × List (List Nat)) := [(7, [[], [0], [0, 1], [0, 1], [], [], [], [6], [7]])]
def z0B : ACode := by
  refine val (x := codeL Tryz.prog Tryz.f179 z76 zbH 0 []) ?_ ?_
  rotate_left
  conv => lhs; reduce; try simp only [iP, iN, Int.cast_ofNat_Int, Int.natCast_zero, Int.natCast_one]
attribute [irreducible] z0B
def z5D : ACode := by
  refine val (x := codeC Tryz.prog Tryz.f179 z76 zbH [z0B]) ?_ ?_
  rotate_left
  conv => lhs; reduce; try simp only [iP, iN, Int.cast_ofNat_Int, Int.natCast_zero, Int.natCast_one]
def z7J : List ARes := [.c 10 true 2]
def z31 : AFn := .code z5D z7J 44 true
def z7l : Hints := { kill := [(0, [0, 1, 7]), (1, [14, 15]), (2, [16]), (3, [2, 3, 4, 8, 17, 18, 19]), (4, [8, 17, 20, 21]), (5, [22]), (6, [2, 3, 4, 9, 23, 24, 25]), (7, [9, 23, 27, 28, 29]), (8, [2, 3, 4, 26, 30]), (9, [26, 32, 33, 34, 35, 36, 37]), (10, [2, 3, 4, 31, 38]), (11, [31, 40, 41, 42, 43]), (12, [2, 3, 4, 39, 44]), (13, [39, 46, 47, 48, 49, 50]), (14, [2, 3, 4, 45, 51]), (15, [45]), (16, [52, 53, 54, 55, 56, 57, 58, 59, 60, 61, 62, 63, 64, 65, 66, 67]), (17, [68, 69, 70]), (18, [12, 68, 71, 72, 73, 74, 75, 76, 77, 78, 79, 80]), (19, [2, 4, 81, 82, 83, 84, 85, 86, 87, 88, 89, 90]), (20, [3, 10, 11, 13, 91, 92, 93, 94, 95, 96, 97, 98])], exit := [(1, [2, 3, 4, 6, 10])], ret := [6, 7] }
def zbP : List (Nat × List (List Nat)) := [(16, [[], [0], [0], [0], [], [], [], [], [6, 7], [], [], [], [], [6, 7, 8, 9, 10, 11, 12], [6, 7, 8, 9, 10, 11, 12], [], []]), (19, [[], [], [0, 1], [], [], [0, 1, 2, 3, 4], [0, 1, 2, 3, 4, 5], [0, 1, 2, 3, 4], [0, 1, 2, 3, 4], [], []])]
def z50 : ACode := by
  refine val (x := codeL Tryz.prog Tryz.f139 z7l zbP 0 []) ?_ ?_
  rotate_left
  conv => lhs; reduce; try simp only [iP, iN, Int.cast_ofNat_Int, Int.natCast_zero, Int.natCast_one]
attribute [irreducible] z50
def zg : ACode := by
  refine val (x := codeC Tryz.prog Tryz.f139 z7l zbP [z50]) ?_ ?_
  rotate_left
  conv => lhs; reduce; try simp only [iP, iN, Int.cast_ofNat_Int, Int.natCast_zero, Int.natCast_one]
def zj : List ARes := [.c 6 true 2, .t 7]
def z3K : AFn := .code zg zj 99 true
def z4F : Hints := { kill := [(0, [0, 2]), (1, [9, 10, 11]), (2, [1, 12]), (3, [12]), (4, [13, 14, 15, 16]), (5, [18, 19, 45]), (6, [17, 20, 21, 22, 23, 24]), (7, [25, 26, 27]), (8, [28]), (9, [1, 3, 4, 5, 29, 30]), (10, [5, 29, 32, 33, 34, 35]), (11, [1, 3, 4, 31]), (12, [31, 37, 38, 39, 40, 41, 42, 43, 44]), (13, [1, 3, 4, 36]), (14, [4, 36, 46, 47, 48, 49, 50, 51, 52, 53, 54, 55, 56, 57, 58, 59, 60, 61]), (15, [1, 3, 45]), (16, [3, 17, 62, 63, 64]), (17, [65]), (18, [1, 6, 66, 67]), (19, [6, 66, 68, 69, 70, 71, 72, 73]), (20, [1, 74]), (21, [74]), (22, [75, 76, 77, 78]), (23, [80, 81, 106]), (24, [79, 82, 83, 84, 85, 86, 87, 88, 89]), (25, [8, 90, 91, 92, 93, 94, 95, 96, 97, 98, 99, 100, 101, 102, 103, 104, 105]), (26, [1, 7, 106]), (27, [1, 7, 79])], exit := [(0, [1])], ret := [2] }
def z7B : List (Nat × List (List Nat)) := [(14, [[], [], [], [], [], [], [3, 4, 5], [3, 4, 5], [3, 4, 5, 6, 7], [3, 4, 5, 6, 7], [3, 4, 5], [3, 4, 5], [3, 4, 5], [3, 4, 5], [], [], []]), (24, [[], [0], [0], [0, 1, 2], [0], [0], [0], [], []]), (25, [[], [], [], [], [], [3, 4], [], [], [], [3, 4, 5, 6, 7, 8], [3, 4, 5, 6, 7, 8], [3, 4, 5, 6, 7, 8, 9, 10], [3, 4, 5, 6, 7, 8], [3, 4, 5, 6, 7, 8], [3, 4, 5, 6, 7, 8], [], []])]
def z51 : ACode := by
  refine val (x := codeL Tryz.prog Tryz.f69 z4F z7B 0 []) ?_ ?_
  rotate_left
  conv => lhs; reduce; try simp only [iP, iN, Int.cast_ofNat_Int, Int.natCast_zero, Int.natCast_one]
attribute [irreducible] z51
def z2n : ACode := by
  refine val (x := codeL Tryz.prog Tryz.f69 z4F z7B 1 []) ?_ ?_
  rotate_left
  conv => lhs; reduce; try simp only [iP, iN, Int.cast_ofNat_Int, Int.natCast_zero, Int.natCast_one]
attribute [irreducible] z2n
def zV : ACode := by
  refine val (x := codeC Tryz.prog Tryz.f69 z4F z7B [z51, z2n]) ?_ ?_
  rotate_left
  conv => lhs; reduce; try simp only [iP, iN, Int.cast_ofNat_Int, Int.natCast_zero, Int.natCast_one]
def z00 : List ARes := [.t 2]
def z6l : AFn := .code zV z00 107 true
def z2i : Hints := { kill := [(0, [2]), (1, [6, 7]), (2, [0, 8]), (3, [8]), (4, [9, 10, 11]), (5, [13, 14, 20]), (6, [12, 15, 16, 17, 18, 19]), (7, [0, 3, 20]), (8, [3, 12]), (9, [21, 22, 23]), (10, [25, 26, 35]), (11, [24, 27, 28, 29, 30, 31, 32, 33, 34]), (12, [0, 4, 35]), (13, [4, 24]), (14, [36, 37, 38]), (15, [40, 41, 52]), (16, [39, 42, 43, 44, 45, 46, 47, 48, 49, 50, 51]), (17, [0, 5, 52]), (18, [0, 5, 39])], exit := [(0, [0]), (2, [0])], ret := [2] }
def z5b : List (Nat × List (List Nat)) := [(16, [[], [0], [], [], [0, 1, 2, 3], [0, 1, 2, 3, 4], [0, 1, 2, 3, 4], [0, 1, 2, 3, 4], [0, 1, 2, 3], [0, 1, 2, 3], []])]
def z4V : ACode := by
  refine val (x := codeL Tryz.prog Tryz.f124 z2i z5b 0 []) ?_ ?_
  rotate_left
  conv => lhs; reduce; try simp only [iP, iN, Int.cast_ofNat_Int, Int.natCast_zero, Int.natCast_one]
attribute [irreducible] z4V
def z4W : ACode := by
  refine val (x := codeL Tryz.prog Tryz.f124 z2i z5b 1 []) ?_ ?_
  rotate_left
  conv => lhs; reduce; try simp only [iP, iN, Int.cast_ofNat_Int, Int.natCast_zero, Int.natCast_one]
attribute [irreducible] z4W
def z4X : ACode := by
  refine val (x := codeL Tryz.prog Tryz.f124 z2i z5b 2 []) ?_ ?_
  rotate_left
  conv => lhs; reduce; try simp only [iP, iN, Int.cast_ofNat_Int, Int.natCast_zero, Int.natCast_one]
attribute [irreducible] z4X
def z8D : ACode := by
  refine val (x := codeC Tryz.prog Tryz.f124 z2i z5b [z4V, z4W, z4X]) ?_ ?_
  rotate_left
  conv => lhs; reduce; try simp only [iP, iN, Int.cast_ofNat_Int, Int.natCast_zero, Int.natCast_one]
def zcs : List ARes := [.t 2]
def z6k : AFn := .code z8D zcs 53 true
def zaY : Hints := { kill := [(0, [0, 2]), (1, [1, 3, 4, 5, 6, 7, 8, 9, 10, 11, 12, 13, 14, 15, 16, 17, 18, 19, 20])], ret := [2] }
def z8G : ACode := by
  refine val (x := codeC Tryz.prog Tryz.f167 zaY [] []) ?_ ?_
  rotate_left
  conv => lhs; reduce; try simp only [iP, iN, Int.cast_ofNat_Int, Int.natCast_zero, Int.natCast_one]
def zcv : List ARes := [.t 2]
def z3H : AFn := .code z8G zcv 21 true
def z7j : Hints := { kill := [(0, [4]), (2, [6, 7, 8]), (3, [10, 11, 18]), (4, [9, 12, 13, 14, 15, 16, 17]), (5, [0, 1, 5, 18, 19]), (6, [0, 1, 5, 9])], ret := [4] }
def z4Y : ACode := by
  refine val (x := codeL Tryz.prog Tryz.f168 z7j [] 0 []) ?_ ?_
  rotate_left
  conv => lhs; reduce; try simp only [iP, iN, Int.cast_ofNat_Int, Int.natCast_zero, Int.natCast_one]
attribute [irreducible] z4Y
def z8F : ACode := by
  refine val (x := codeC Tryz.prog Tryz.f168 z7j [] [z4Y]) ?_ ?_
  rotate_left
  conv => lhs; reduce; try simp only [iP, iN, Int.cast_ofNat_Int, Int.natCast_zero, Int.natCast_one]
def zcu : List ARes := [.t 4]
def z3G : AFn := .code z8F zcu 20 true
def zaX : Hints := { kill := [(0, [0, 1, 4]), (1, [2, 3, 5, 6, 7, 8, 9, 10, 11, 12, 13, 14, 15, 16, 17, 18, 19, 20, 21, 22, 23])], ret := [4] }
def z8E : ACode := by
  refine val (x := codeC Tryz.prog Tryz.f169 zaX [] []) ?_ ?_
  rotate_left
  conv => lhs; reduce; try simp only [iP, iN, Int.cast_ofNat_Int, Int.natCast_zero, Int.natCast_one]
def zct : List ARes := [.t 4]
def z3F : AFn := .code z8E zct 24 true
def z7m : Hints := { kill := [(0, [0, 4]), (2, [6, 7, 8, 9]), (3, [11, 12, 21]), (4, [10, 13, 14, 15, 16, 17, 18, 19, 20]), (5, [1, 2, 5, 21, 22]), (6, [1, 2, 5, 10])], ret := [4] }
def z52 : ACode := by
  refine val (x := codeL Tryz.prog Tryz.f125 z7m [] 0 []) ?_ ?_
  rotate_left
  conv => lhs; reduce; try simp only [iP, iN, Int.cast_ofNat_Int, Int.natCast_zero, Int.natCast_one]
attribute [irreducible] z52
def z5J : ACode := by
  refine val (x := codeC Tryz.prog Tryz.f125 z7m [] [z52]) ?_ ?_
  rotate_left
  conv => lhs; reduce; try simp only [iP, iN, Int.cast_ofNat_Int, Int.natCast_zero, Int.natCast_one]
def z7P : List ARes := [.t 4]
def z6m : AFn := .code z5J z7P 23 true
def zaW : Hints := { kill := [(0, [1, 4, 5]), (1, [7, 8]), (2, [9]), (3, [0, 3, 6, 10, 11]), (4, [6, 10, 13, 14, 15]), (5, [0, 3, 12]), (6, [12, 17, 18, 19]), (7, [0, 3, 16]), (8, [16, 21, 22, 23, 24, 25]), (9, [0, 3, 20]), (10, [0, 3, 20, 26, 27, 28, 29, 30, 31, 32, 33])], obj := [(33, [false, false, true])], ret := [4, 5] }
def zgd : List (Nat × List (List Nat)) := [(10, [[], [], [0, 1], [0, 1], [], [0, 1, 2, 3, 4], [0, 1, 2, 3, 4], [], [], []])]
def z0v : ACode := by
  refine val (x := codeC Tryz.prog Tryz.f175 zaW zgd []) ?_ ?_
  rotate_left
  conv => lhs; reduce; try simp only [iP, iN, Int.cast_ofNat_Int, Int.natCast_zero, Int.natCast_one]
def z0I : List ARes := [.t 4, .t 5]
def z6j : AFn := .code z0v z0I 34 true
def z7k : Hints := { kill := [(0, [4]), (1, [5, 6, 7, 8, 9, 10, 11, 12, 13, 14, 15, 16, 17, 18]), (2, [19, 20, 21, 22, 23, 24, 25]), (3, [26, 27, 28]), (4, [0, 1, 19, 29])], exit := [(0, [0])], ret := [4] }
def zbO : List (Nat × List (List Nat)) := [(1, [[], [], [], [], [3], [], [], [3, 4, 5, 6], [3, 4, 5, 6, 7], [3, 4, 5, 6, 7], [3, 4, 5, 6, 7], [3, 4, 5, 6], [3, 4, 5, 6], [], []])]
def z4Z : ACode := by
  refine val (x := codeL Tryz.prog Tryz.f198 z7k zbO 0 []) ?_ ?_
  rotate_left
  conv => lhs; reduce; try simp only [iP, iN, Int.cast_ofNat_Int, Int.natCast_zero, Int.natCast_one]
attribute [irreducible] z4Z
def z8I : ACode := by
  refine val (x := codeC Tryz.prog Tryz.f198 z7k zbO [z4Z]) ?_ ?_
  rotate_left
  conv => lhs; reduce; try simp only [iP, iN, Int.cast_ofNat_Int, Int.natCast_zero, Int.natCast_one]
def zcx : List ARes := [.t 4]
def z3J : AFn := .code z8I zcx 30 true
def zaZ : Hints := { kill := [(0, [6]), (1, [8, 9]), (2, [0, 1, 2, 10, 11, 12, 13, 14, 15, 16, 17, 18, 19, 20, 21, 22, 23]), (3, [7, 24])], ghost := [(2, [18])], ret := [6] }
def zge : List (Nat × List (List Nat)) := [(2, [[], [0], [0, 1], [0, 1, 2], [0, 1, 2, 3], [0, 1, 2, 3, 4], [0, 1, 2, 3], [0, 1, 2, 3], [0, 1, 2, 3, 4, 5, 6, 7], [0, 1, 2, 3, 4, 5, 6, 7, 8], [0, 1, 2, 3, 4, 5, 6, 7], [0, 1, 2, 3, 4, 5, 6, 7], [2, 3], [2, 3], [], []])]
def z8H : ACode := by
  refine val (x := codeC Tryz.prog Tryz.f213 zaZ zge []) ?_ ?_
  rotate_left
  conv => lhs; reduce; try simp only [iP, iN, Int.cast_ofNat_Int, Int.natCast_zero, Int.natCast_one]
def zcw : List ARes := [.t 6]
def z3I : AFn := .code z8H zcw 25 true
def z7q : Hints := { kill := [(0, [0, 13, 14]), (1, [21, 22, 23, 24, 25, 26, 27, 28, 29, 30, 31, 32, 33]), (2, [34]), (3, [1, 2, 3, 4, 5, 6, 15, 35, 36, 37]), (4, [15, 35, 38, 39, 40]), (5, [1, 2, 3, 4, 5, 6, 41, 42]), (6, [41, 43, 44]), (8, [45, 46]), (10, [50, 51, 52]), (11, [53, 54, 55, 56, 57, 58, 59, 60, 61, 62]), (12, [18, 63, 64, 65, 66, 67, 68, 69, 70, 71]), (13, [72]), (14, [1, 2, 3, 4, 5, 6, 16, 19, 20, 47, 48, 49, 73, 74, 75]), (15, [19, 20, 73, 76, 77, 78, 79]), (16, [18, 63, 80]), (17, [1, 2, 3, 4, 5, 6, 16, 47, 48, 49, 50, 81, 82])], obj := [(69, [true, false, false])], acc := [16], exit := [(0, [6, 12, 16]), (1, [1, 2, 3, 4, 5, 6, 12, 16, 47, 48, 49])], ret := [12, 13, 14] }
def zbT : List (Nat × List (List Nat)) := [(1, [[], [0], [0], [0, 1, 2], [0], [0, 1, 2, 3, 4], [0], [0, 1, 2, 3, 4, 5, 6], [0], [0, 1, 2, 3, 4, 5, 6, 7, 8], [0], [0], [], []])]
def zq : ACode := by
  refine val (x := codeL Tryz.prog Tryz.f11 z7q zbT 0 []) ?_ ?_
  rotate_left
  conv => lhs; reduce; try simp only [iP, iN, Int.cast_ofNat_Int, Int.natCast_zero, Int.natCast_one]
attribute [irreducible] zq
def z25 : ACode := by
  refine val (x := codeC Tryz.prog Tryz.f11 z7q zbT [zq]) ?_ ?_
  rotate_left
  conv => lhs; reduce; try simp only [iP, iN, Int.cast_ofNat_Int, Int.natCast_zero, Int.natCast_one]
def z2x : List ARes := [.c 12 true 8, .t 13, .t 14]
def z40 : AFn := .code z25 z2x 83 true
def zbm : Hints := { kill := [(0, [2]), (1, [0, 3, 4])], ret := [2] }
def z8W : ACode := by
  refine val (x := codeC Tryz.prog Tryz.f38 zbm [] []) ?_ ?_
  rotate_left
  conv => lhs; reduce; try simp only [iP, iN, Int.cast_ofNat_Int, Int.natCast_zero, Int.natCast_one]
def zcL : List ARes := [.t 2]
def z44 : AFn := .code z8W zcL 5 true
def zbl : Hints := { kill := [(0, [6]), (1, [0, 1, 2, 7, 8, 9, 10, 11, 12, 13, 14])], ret := [6] }
def z2P : ACode := by
  refine val (x := codeC Tryz.prog Tryz.f42 zbl [] []) ?_ ?_
  rotate_left
  conv => lhs; reduce; try simp only [iP, iN, Int.cast_ofNat_Int, Int.natCast_zero, Int.natCast_one]
def z5r : List ARes := [.t 6]
def z6v : AFn := .code z2P z5r 15 true
def zbn : Hints := { kill := [(0, [2]), (1, [0, 3, 4])], ret := [2] }
def z8X : ACode := by
  refine val (x := codeC Tryz.prog Tryz.f39 zbn [] []) ?_ ?_
  rotate_left
  conv => lhs; reduce; try simp only [iP, iN, Int.cast_ofNat_Int, Int.natCast_zero, Int.natCast_one]
def zcM : List ARes := [.t 2]
def z45 : AFn := .code z8X zcM 5 true
def zbo : Hints := { kill := [(0, [2]), (1, [0, 3, 4])], ret := [2] }
def z8Y : ACode := by
  refine val (x := codeC Tryz.prog Tryz.f40 zbo [] []) ?_ ?_
  rotate_left
  conv => lhs; reduce; try simp only [iP, iN, Int.cast_ofNat_Int, Int.natCast_zero, Int.natCast_one]
def zcN : List ARes := [.t 2]
def z46 : AFn := .code z8Y zcN 5 true
def zbp : Hints := { kill := [(0, [2]), (1, [0, 3, 4])], ret := [2] }
def z8Z : ACode := by
  refine val (x := codeC Tryz.prog Tryz.f41 zbp [] []) ?_ ?_
  rotate_left
  conv => lhs; reduce; try simp only [iP, iN, Int.cast_ofNat_Int, Int.natCast_zero, Int.natCast_one]
def zcO : List ARes := [.t 2]
def z47 : AFn := .code z8Z zcO 5 true
def zbx : Hints := { kill := [(0, [0, 4]), (1, [2, 6, 7]), (2, [8]), (3, [1, 5, 9, 10]), (4, [1, 5, 9, 11]), (5, [12]), (6, [12])], ret := [4] }
def z2R : ACode := by
  refine val (x := codeC Tryz.prog Tryz.f37 zbx [] []) ?_ ?_
  rotate_left
  conv => lhs; reduce; try simp only [iP, iN, Int.cast_ofNat_Int, Int.natCast_zero, Int.natCast_one]
def z5t : List ARes := [.t 4]
def z6B : AFn := .code z2R z5t 13 true
def zbq : Hints := { kill := [(0, [0, 2]), (1, [4, 5]), (2, [6]), (3, [1, 3, 7, 8]), (4, [1, 3, 7, 9, 10]), (5, [11]), (6, [11])], ret := [2] }
def z2Q : ACode := by
  refine val (x := codeC Tryz.prog Tryz.f56 zbq [] []) ?_ ?_
  rotate_left
  conv => lhs; reduce; try simp only [iP, iN, Int.cast_ofNat_Int, Int.natCast_zero, Int.natCast_one]
def z5s : List ARes := [.t 2]
def z6w : AFn := .code z2Q z5s 12 true
def z7r : Hints := { kill := [(0, [0, 2]), (1, [9, 10, 11]), (2, [12]), (3, [1, 3, 13, 14]), (4, [3, 13, 15, 16, 17]), (5, [18]), (6, [1, 4, 19, 20]), (7, [4, 19, 21, 22]), (8, [1, 23, 24, 25, 26, 27, 28, 29, 30, 31, 32, 33, 34, 35]), (9, [36]), (10, [36]), (11, [23, 38, 39, 40, 41, 42, 43]), (12, [1, 37]), (13, [37, 45, 46, 47, 48, 49, 50, 51]), (14, [1, 44]), (15, [44, 52]), (17, [53]), (19, [57, 58, 59]), (20, [60, 61, 62, 63, 64, 65, 66]), (21, [1, 5, 6, 8, 54, 55, 56, 67]), (22, [67, 68, 69, 70, 71, 72, 73, 74]), (23, [8, 75, 76, 77]), (24, [78]), (25, [1, 5, 6, 54, 55, 56, 57]), (26, [79]), (27, [79])], exit := [(1, [6])], ret := [2] }
def zbU : List (Nat × List (List Nat)) := [(13, [[], [], [0, 1], [0, 1], [0, 1], [0, 1], [], []])]
def z2q : ACode := by
  refine val (x := codeL Tryz.prog Tryz.f54 z7r zbU 0 []) ?_ ?_
  rotate_left
  conv => lhs; reduce; try simp only [iP, iN, Int.cast_ofNat_Int, Int.natCast_zero, Int.natCast_one]
attribute [irreducible] z2q
def z8 : ACode := by
  refine val (x := codeC Tryz.prog Tryz.f54 z7r zbU [z2q]) ?_ ?_
  rotate_left
  conv => lhs; reduce; try simp only [iP, iN, Int.cast_ofNat_Int, Int.natCast_zero, Int.natCast_one]
def zb : List ARes := [.t 2]
def z6t : AFn := .code z8 zb 80 true
def z53 : ACode :=
 (.seq (.seq (.ops [] [oM 43 4, oM 44 3, oP 45 (.bin .lss (.t 43) (.t 44))] [43, 44])
 (.cond (.t 45) .skip (.exit 0 [1])))
 (.seq (.block 1 (.seq (.draw [] [oP 48 (.fad false 0 1 (.t 1)), oP 49 (.ld false 1 (.t 48)), oP 50 (.ld true 3 (.t 1)), oM 51 4, oP 52 (.call z0f [] [.t 50, .t 51]), oP 53 (.iad 7 (.t 49) (.t 52)), oP 54 (.ld true 7 (.t 53)), oP 55 (.build [aI 0, aI 0, aI 0, aI 0, aI 0, aI 0, .d (.str [])] []), oP 56 (.eqs true 7 [(0, 0), (1, 0), (2, 0), (3, 0), (4, 0), (5, 0), (6, 2)] (.t 54) (.t 55))] [[], [], [0, 1], [0, 1, 2], [0, 1], [], [], [0, 1, 2, 3, 4, 5, 6], []] [45, 48, 49, 50, 51, 52, 53, 54, 55])
 (.cond (.t 56) (.seq (.ops [] [oP 2 (.mv (kI 7))] [1, 3, 4, 56])
 (.ret [2])) .skip)))
 (.ops [] [oM 46 4, oP 47 (.bin .add (.t 46) (kI 1)), oM 4 47] [46, 47, 56])))
def z54 : ACode :=
 (.seq (.ops [] [oP 62 (.bin .lss (.t 61) (.t 60))] [])
 (.seq (.cond (.t 62) .skip (.exit 2 [6]))
 (.seq (.block 3 (.seq (.ops [] [oP 63 (.iad 7 (.t 59) (.t 61)), oP 64 (.ld true 7 (.t 63)), oP 8 (.alloc (.d (.agg [.int .i64 0, .int .i64 0, .int .i64 0, .int .i64 0, .int .i64 0, .int .i64 0, .str []]))), oN (.st 7 (.t 8) (.t 64))] [62, 63, 64])
 (.seq (.seq (.ops [] [oP 65 (.ld true 7 (.t 8)), oP 66 (.call zn [] [.t 65]), oM 9 66] [65, 66])
 (.seq (.ops [] [oM 67 9, oP 68 (.bin .neq (.t 67) (kI 0))] [67])
 (.cond (.t 68) (.seq (.ops [] [oM 69 9, oM 2 69] [5, 6, 8, 9, 59, 60, 61, 68, 69])
 (.ret [2])) .skip)))
 (.seq (.ops [] [oM 70 6, oM 71 70, oQ 72 (.mv (.t 5)) 71 false, oQ 73 (.fad false 0 1 (.t 8)) 71 false, oQ 74 (.ld false 1 (.t 73)) 71 false, oQ 75 (.lkp false (.bool false) (.t 72) (.t 74)) 71 false, oP 76 (.pick (.t 71) (.c (.d (.bool true))) (.t 75)), oM 6 76] [9, 68, 70, 71, 72, 73, 74, 75, 76])
 (.ops [] [oM 77 5, oP 78 (.fad false 0 1 (.t 8)), oP 79 (.ld false 1 (.t 78)), oN (.mup (.t 77) (.t 79) (.c (.d (.bool true))))] [8, 77, 78, 79])))))
 (.ops [] [oP 80 (.bin .add (.t 61) (kI 1)), oM 61 80] [80]))))
def zW : ACode :=
 (.seq (.ops [] [oP 1 (.box (.t 0)), oP 2 (.mv (kI 0))] [0, 2])
 (.seq (.ops [] [oP 10 (.fad false 0 1 (.t 1)), oP 11 (.ld false 1 (.t 10)), oP 12 (.len (.t 11)), oM 3 12] [10, 11, 12])
 (.seq (.seq (.ops [] [oM 13 3, oP 14 (.bin .lss (.t 13) (kI 1)), oM 15 14, oQ 16 (.mv (.t 3)) 15 false, oQ 17 (.bin .gtr (.t 16) (kI 12)) 15 false, oP 18 (.pick (.t 15) (.c (.d (.bool true))) (.t 17)), oM 19 18, oQ 20 (.fad false 1 1 (.t 1)) 19 false, oQ 21 (.ld false 1 (.t 20)) 19 false, oQ 22 (.bin .lss (.t 21) (kI 0)) 19 false, oP 23 (.pick (.t 19) (.c (.d (.bool true))) (.t 22)), oM 24 23, oQ 25 (.fad false 1 1 (.t 1)) 24 false, oQ 26 (.ld false 1 (.t 25)) 24 false, oQ 27 (.mv (.t 3)) 24 false, oQ 28 (.bin .geq (.t 26) (.t 27)) 24 false, oP 29 (.pick (.t 24) (.c (.d (.bool true))) (.t 28)), oM 30 29, oQ 31 (.fad false 2 1 (.t 1)) 30 false, oQ 32 (.ld false 1 (.t 31)) 30 false, oQ 33 (.bin .lss (.t 32) (kI 0)) 30 false, oP 34 (.pick (.t 30) (.c (.d (.bool true))) (.t 33)), oM 35 34, oQ 36 (.fad false 2 1 (.t 1)) 35 false, oQ 37 (.ld false 1 (.t 36)) 35 false, oQ 38 (.mv (.t 3)) 35 false, oQ 39 (.bin .gtr (.t 37) (.t 38)) 35 false, oP 40 (.pick (.t 35) (.c (.d (.bool true))) (.t 39))] [13, 14, 15, 16, 17, 18, 19, 20, 21, 22, 23, 24, 25, 26, 27, 28, 29, 30, 31, 32, 33, 34, 35, 36, 37, 38, 39])
 (.cond (.t 40) (.seq (.ops [] [oP 2 (.mv (kI 1))] [1, 3, 40])
 (.ret [2])) .skip))
 (.seq (.seq (.ops [] [oP 41 (.fad false 2 1 (.t 1)), oP 42 (.ld false 1 (.t 41)), oM 4 42] [40, 41, 42])
 (.block 0 (.loop [] z53)))
 (.seq (.ops [] [oP 57 .mkm, oM 5 57] [3, 4, 45, 57])
 (.seq (.ops [] [oP 6 (.mv (.c (.d (.bool false))))] [])
 (.seq (.seq (.ops [] [oP 58 (.ld true 3 (.t 1)), oP 59 (.call z0h [] [.t 58]), oP 60 (.len (.t 59)), oP 61 (.mv (kI 0))] [1, 58])
 (.block 2 (.loop [] z54)))
 (.seq (.seq (.ops [] [oM 81 6] [5, 6, 59, 60, 61, 62])
 (.cond (.t 81) (.seq (.ops [] [oP 2 (.mv (kI 10))] [81])
 (.ret [2])) .skip))
 (.seq (.ops [] [oP 2 (.mv (kI 0))] [81])
 (.ret [2]))))))))))
def z0J : List ARes := [.t 2]
def z6r : AFn := .code zW z0J 82 true
def zb6 : Hints := { kill := [(0, [0, 4]), (1, [1, 2, 5, 6, 7, 8, 9, 10, 11, 12])], ret := [4] }
def z8M : ACode := by
  refine val (x := codeC Tryz.prog Tryz.f105 zb6 [] []) ?_ ?_
  rotate_left
  conv => lhs; reduce; try simp only [iP, iN, Int.cast_ofNat_Int, Int.natCast_zero, Int.natCast_one]
def zcB : List ARes := [.t 4]
def z6s : AFn := .code z8M zcB 13 true
def z7n : Hints := { kill := [(0, [0, 2]), (2, [5]), (4, [8, 9]), (5, [4, 10, 11, 12, 13, 14, 15, 16, 17, 18, 19]), (6, [20]), (7, [1, 3, 6, 7, 8, 21])], acc := [3], exit := [(0, [3])], ret := [2] }
def zbQ : List (Nat × List (List Nat)) := [(5, [[], [0], [0], [0, 1, 2], [0, 1, 2, 3], [0, 1, 2], [0], [0], [0], [], []])]
def z2o : ACode := by
  refine val (x := codeL Tryz.prog Tryz.f93 z7n zbQ 0 []) ?_ ?_
  rotate_left
  conv => lhs; reduce; try simp only [iP, iN, Int.cast_ofNat_Int, Int.natCast_zero, Int.natCast_one]
attribute [irreducible] z2o
def z8P : ACode := by
  refine val (x := codeC Tryz.prog Tryz.f93 z7n zbQ [z2o]) ?_ ?_
  rotate_left
  conv => lhs; reduce; try simp only [iP, iN, Int.cast_ofNat_Int, Int.natCast_zero, Int.natCast_one]
def zcE : List ARes := [.t 2]
def z3P : AFn := .code z8P zcE 22 false
def zaM : Hints := { kill := [(0, [0, 2]), (1, [3, 4, 5, 6, 7, 8, 9, 10, 11, 12, 13, 14, 15, 16, 17, 18, 19, 20, 21, 22, 23, 24, 25, 26, 27, 28, 29, 30, 31, 32, 33, 34, 35, 36, 37]), (2, [1, 38]), (3, [1, 38, 39, 40, 41]), (4, [42]), (5, [42])], ret := [2] }
def z2G : ACode := by
  refine val (x := codeC Tryz.prog Tryz.f148 zaM [] []) ?_ ?_
  rotate_left
  conv => lhs; reduce; try simp only [iP, iN, Int.cast_ofNat_Int, Int.natCast_zero, Int.natCast_one]
def z5i : List ARes := [.t 2]
def z6f : AFn := .code z2G z5i 43 true
def zaN : Hints := { kill := [(0, [6]), (1, [0, 1, 2, 7, 8, 9, 10, 11, 12, 13, 14])], ret := [6] }
def z2H : ACode := by
  refine val (x := codeC Tryz.prog Tryz.f180 zaN [] []) ?_ ?_
  rotate_left
  conv => lhs; reduce; try simp only [iP, iN, Int.cast_ofNat_Int, Int.natCast_zero, Int.natCast_one]
def z5j : List ARes := [.t 6]
def z3s : AFn := .code z2H z5j 15 true
def z7c : Hints := { kill := [(0, [0, 2]), (1, [7, 8, 9]), (2, [1, 10]), (3, [10, 11]), (5, [15, 16, 17, 18]), (6, [19, 20, 21]), (7, [22]), (8, [1, 3, 4, 5, 12, 13, 14, 23, 24]), (9, [5, 23, 26, 27, 28, 29]), (10, [1, 3, 4, 12, 13, 14, 25]), (11, [25, 31, 32, 33, 34]), (12, [1, 3, 4, 12, 13, 14, 30]), (13, [3, 4, 30, 36, 37, 38, 39, 40, 41, 42, 43, 44, 45, 46, 47, 48, 49, 50, 51]), (14, [1, 12, 13, 14, 35]), (15, [35, 52]), (16, [12, 13, 14, 15, 53, 54, 55]), (17, [56]), (18, [1, 6, 57, 58]), (19, [1, 6, 57, 59, 60]), (20, [61]), (21, [61])], exit := [(0, [1])], ret := [2] }
def zbL : List (Nat × List (List Nat)) := [(13, [[], [], [], [], [], [], [3, 4, 5], [3, 4, 5], [3, 4, 5, 6, 7], [3, 4, 5, 6, 7], [3, 4, 5], [3, 4, 5], [3, 4, 5], [3, 4, 5], [], [], []])]
def z4N : ACode := by
  refine val (x := codeL Tryz.prog Tryz.f106 z7c zbL 0 []) ?_ ?_
  rotate_left
  conv => lhs; reduce; try simp only [iP, iN, Int.cast_ofNat_Int, Int.natCast_zero, Int.natCast_one]
attribute [irreducible] z4N
def z0t : ACode := by
  refine val (x := codeC Tryz.prog Tryz.f106 z7c zbL [z4N]) ?_ ?_
  rotate_left
  conv => lhs; reduce; try simp only [iP, iN, Int.cast_ofNat_Int, Int.natCast_zero, Int.natCast_one]
def z0F : List ARes := [.t 2]
def z6b : AFn := .code z0t z0F 62 true
def zaF : Hints := { kill := [(0, [2]), (1, [0, 3, 4, 5, 6, 7, 8])], ret := [2] }
def z2F : ACode := by
  refine val (x := codeC Tryz.prog Tryz.f116 zaF [] []) ?_ ?_
  rotate_left
  conv => lhs; reduce; try simp only [iP, iN, Int.cast_ofNat_Int, Int.natCast_zero, Int.natCast_one]
def z5h : List ARes := [.t 2]
def z6c : AFn := .code z2F z5h 9 true
def z4E : Hints := { kill := [(0, [2]), (1, [6, 7]), (2, [0, 8]), (3, [8, 9]), (4, [0, 10]), (5, [10]), (7, [14, 15, 16, 17]), (8, [3, 4, 18, 19, 20, 21, 22]), (9, [0, 11, 12, 13, 23]), (10, [23, 24]), (11, [11, 12, 13, 14]), (12, [25, 26, 27]), (13, [29, 30, 36]), (14, [28, 31, 32, 33, 34, 35]), (15, [0, 5, 36]), (16, [0, 5, 28])], exit := [(0, [0])], ret := [2] }
def z4J : ACode := by
  refine val (x := codeL Tryz.prog Tryz.f153 z4E [] 0 []) ?_ ?_
  rotate_left
  conv => lhs; reduce; try simp only [iP, iN, Int.cast_ofNat_Int, Int.natCast_zero, Int.natCast_one]
attribute [irreducible] z4J
def z4K : ACode := by
  refine val (x := codeL Tryz.prog Tryz.f153 z4E [] 1 []) ?_ ?_
  rotate_left
  conv => lhs; reduce; try simp only [iP, iN, Int.cast_ofNat_Int, Int.natCast_zero, Int.natCast_one]
attribute [irreducible] z4K
def z8f : ACode := by
  refine val (x := codeC Tryz.prog Tryz.f153 z4E [] [z4J, z4K]) ?_ ?_
  rotate_left
  conv => lhs; reduce; try simp only [iP, iN, Int.cast_ofNat_Int, Int.natCast_zero, Int.natCast_one]
def zc5 : List ARes := [.t 2]
def z6a : AFn := .code z8f zc5 37 true
def zbB : Hints := { kill := [(0, [4]), (1, [0, 1, 5, 6, 7, 8])], ret := [4] }
def z94 : ACode := by
  refine val (x := codeC Tryz.prog Tryz.f185 zbB [] []) ?_ ?_
  rotate_left
  conv => lhs; reduce; try simp only [iP, iN, Int.cast_ofNat_Int, Int.natCast_zero, Int.natCast_one]
def zcT : List ARes := [.t 4]
def z4e : AFn := .code z94 zcT 9 true
def z7v : Hints := { kill := [(0, [4]), (1, [6]), (3, [9, 10]), (4, [11, 12, 13, 14, 15]), (5, [0, 1, 5, 7, 8, 16, 17]), (6, [5, 16, 18]), (7, [0, 1, 7, 8, 9])], ret := [4] }
def z56 : ACode := by
  refine val (x := codeL Tryz.prog Tryz.f190 z7v [] 0 []) ?_ ?_
  rotate_left
  conv => lhs; reduce; try simp only [iP, iN, Int.cast_ofNat_Int, Int.natCast_zero, Int.natCast_one]
attribute [irreducible] z56
def z98 : ACode := by
  refine val (x := codeC Tryz.prog Tryz.f190 z7v [] [z56]) ?_ ?_
  rotate_left
  conv => lhs; reduce; try simp only [iP, iN, Int.cast_ofNat_Int, Int.natCast_zero, Int.natCast_one]
def zcX : List ARes := [.t 4]
def z4k : AFn := .code z98 zcX 19 true
def zaq : Hints := { kill := [(0, [0, 2]), (1, [1, 3, 4, 5])], ret := [2] }
def z8g : ACode := by
  refine val (x := codeC Tryz.prog Tryz.f186 zaq [] []) ?_ ?_
  rotate_left
  conv => lhs; reduce; try simp only [iP, iN, Int.cast_ofNat_Int, Int.natCast_zero, Int.natCast_one]
def zc6 : List ARes := [.t 2]
def z34 : AFn := .code z8g zc6 6 true
def zaw : Hints := { kill := [(0, [0, 2]), (1, [1, 3, 4, 5, 6, 7, 8, 9, 10, 11, 12, 13, 14, 15, 16, 17, 18, 19, 20])], ret := [2] }
def z8n : ACode := by
  refine val (x := codeC Tryz.prog Tryz.f161 zaw [] []) ?_ ?_
  rotate_left
  conv => lhs; reduce; try simp only [iP, iN, Int.cast_ofNat_Int, Int.natCast_zero, Int.natCast_one]
def zcd : List ARes := [.t 2]
def z3c : AFn := .code z8n zcd 21 true
def zau : Hints := { kill := [(0, [1, 4]), (1, [0, 3, 5, 6, 7])], ret := [4] }
def z8k : ACode := by
  refine val (x := codeC Tryz.prog Tryz.f159 zau [] []) ?_ ?_
  rotate_left
  conv => lhs; reduce; try simp only [iP, iN, Int.cast_ofNat_Int, Int.natCast_zero, Int.natCast_one]
def zca : List ARes := [.t 4]
def z39 : AFn := .code z8k zca 8 true
def zav : Hints := { kill := [(0, [0, 3]), (1, [1, 2, 4, 5, 6, 7])], ret := [3] }
def z8l : ACode := by
  refine val (x := codeC Tryz.prog Tryz.f191 zav [] []) ?_ ?_
  rotate_left
  conv => lhs; reduce; try simp only [iP, iN, Int.cast_ofNat_Int, Int.natCast_zero, Int.natCast_one]
def zcb : List ARes := [.t 3]
def z3a : AFn := .code z8l zcb 8 true
def zar : Hints := { kill := [(0, [6]), (1, [0, 1, 2, 7, 8, 9, 10, 11, 12, 13, 14, 15, 16])], ret := [6] }
def zg5 : List (Nat × List (List Nat)) := [(1, [[], [0], [], [], [0, 1, 2, 3], [0, 1, 2, 3, 4], [0, 1, 2, 3], [0, 1, 2, 3], [], [], []])]
def z8h : ACode := by
  refine val (x := codeC Tryz.prog Tryz.f187 zar zg5 []) ?_ ?_
  rotate_left
  conv => lhs; reduce; try simp only [iP, iN, Int.cast_ofNat_Int, Int.natCast_zero, Int.natCast_one]
def zc7 : List ARes := [.t 6]
def z35 : AFn := .code z8h zc7 17 true
def zas : Hints := { kill := [(0, [0, 1, 4]), (1, [2, 3, 5, 6, 7, 8, 9, 10, 11, 12, 13, 14, 15, 16])], ret := [4] }
def zg6 : List (Nat × List (List Nat)) := [(1, [[], [], [0, 1], [0, 1], [], [0, 1, 2, 3, 4], [0, 1, 2, 3, 4], [0, 1, 2, 3, 4, 5, 6], [0, 1, 2, 3, 4, 5, 6], [], [], [], []])]
def z8i : ACode := by
  refine val (x := codeC Tryz.prog Tryz.f165 zas zg6 []) ?_ ?_
  rotate_left
  conv => lhs; reduce; try simp only [iP, iN, Int.cast_ofNat_Int, Int.natCast_zero, Int.natCast_one]
def zc8 : List ARes := [.t 4]
def z36 : AFn := .code z8i zc8 17 true
def zam : Hints := { kill := [(0, [4]), (1, [7, 8]), (2, [9, 10]), (3, [5]), (4, [0, 1, 6, 11]), (5, [12]), (6, [12]), (7, [6, 11]), (8, [0, 1, 13]), (9, [13, 14, 15]), (10, [0, 1, 16]), (11, [0, 1, 16, 17, 18]), (12, [19]), (13, [19])], ret := [4] }
def z8b : ACode := by
  refine val (x := codeC Tryz.prog Tryz.f158 zam [] []) ?_ ?_
  rotate_left
  conv => lhs; reduce; try simp only [iP, iN, Int.cast_ofNat_Int, Int.natCast_zero, Int.natCast_one]
def zc1 : List ARes := [.t 4]
def z66 : AFn := .code z8b zc1 20 true
def zan : Hints := { kill := [(0, [2]), (1, [0, 3, 4, 5])], ret := [2] }
def z8d : ACode := by
  refine val (x := codeC Tryz.prog Tryz.f189 zan [] []) ?_ ?_
  rotate_left
  conv => lhs; reduce; try simp only [iP, iN, Int.cast_ofNat_Int, Int.natCast_zero, Int.natCast_one]
def zc3 : List ARes := [.t 2]
def z33 : AFn := .code z8d zc3 6 true
def z77 : Hints := { kill := [(0, [2]), (2, [0]), (4, [9, 10, 11]), (5, [12, 13]), (6, [3, 5, 6, 7, 8, 14, 15]), (7, [5, 14, 16]), (8, [3, 6, 7, 8, 9, 17])], exit := [(0, [3])], ret := [2] }
def z4I : ACode := by
  refine val (x := codeL Tryz.prog Tryz.f195 z77 [] 0 []) ?_ ?_
  rotate_left
  conv => lhs; reduce; try simp only [iP, iN, Int.cast_ofNat_Int, Int.natCast_zero, Int.natCast_one]
attribute [irreducible] z4I
def z8c : ACode := by
  refine val (x := codeC Tryz.prog Tryz.f195 z77 [] [z4I]) ?_ ?_
  rotate_left
  conv => lhs; reduce; try simp only [iP, iN, Int.cast_ofNat_Int, Int.natCast_zero, Int.natCast_one]
def zc2 : List ARes := [.t 2]
def z32 : AFn := .code z8c zc2 18 true
def z7d : Hints := { kill := [(0, [0, 2]), (1, [5, 6, 7, 8, 9, 10]), (2, [1, 11]), (3, [11, 12]), (5, [16, 17, 18]), (6, [4, 19, 20, 21, 22, 23, 24, 25, 26, 27]), (7, [1, 13, 14, 15, 28]), (8, [28, 29]), (9, [1, 13, 14, 15, 16])], ret := [2] }
def z4O : ACode := by
  refine val (x := codeL Tryz.prog Tryz.f154 z7d [] 0 []) ?_ ?_
  rotate_left
  conv => lhs; reduce; try simp only [iP, iN, Int.cast_ofNat_Int, Int.natCast_zero, Int.natCast_one]
attribute [irreducible] z4O
def z2E : ACode := by
  refine val (x := codeC Tryz.prog Tryz.f154 z7d [] [z4O]) ?_ ?_
  rotate_left
  conv => lhs; reduce; try simp only [iP, iN, Int.cast_ofNat_Int, Int.natCast_zero, Int.natCast_one]
def z5g : List ARes := [.t 2]
def z3m : AFn := .code z2E z5g 30 true
def zbD : Hints := { kill := [(0, [1, 4]), (1, [0, 3, 5, 6, 7, 8])], ret := [4] }
def z96 : ACode := by
  refine val (x := codeC Tryz.prog Tryz.f188 zbD [] []) ?_ ?_
  rotate_left
  conv => lhs; reduce; try simp only [iP, iN, Int.cast_ofNat_Int, Int.natCast_zero, Int.natCast_one]
def zcV : List ARes := [.t 4]
def z4g : AFn := .code z96 zcV 9 true
def z7A : ACode :=
 (.seq (.ops [] [oP 9 (.bin .lss (.t 8) (.t 7))] [])
 (.seq (.cond (.t 9) .skip (.exit 0 []))
 (.seq (.block 1 (.seq (.ops [] [oM 10 8, oM 5 10] [9, 10])
 (.seq (.draw [] [oP 11 (.ld true 2 (.t 3)), oM 12 0, oM 13 5, oP 14 (.iad 2 (.t 12) (.t 13)), oP 15 (.ld true 2 (.t 14)), oP 16 (.eqs false 2 [(0, 0), (1, 0)] (.t 11) (.t 15))] [[], [0], [0, 1], [0], [0], []] [11, 12, 13, 14, 15])
 (.cond (.t 16) (.seq (.ops [] [oM 17 5, oM 4 17] [0, 3, 5, 7, 8, 16, 17])
 (.ret [4])) .skip))))
 (.ops [] [oP 18 (.bin .add (.t 8) (kI 1)), oM 8 18] [5, 16, 18]))))
def z2V : ACode :=
 (.seq (.ops [] [oP 3 (.box (.t 1)), oP 4 (.mv (kI 0))] [1, 4])
 (.seq (.seq (.ops [] [oM 6 0, oP 7 (.len (.t 6)), oP 8 (.mv (kI 0))] [6])
 (.block 0 (.loop [] z7A)))
 (.seq (.ops [] [oP 4 (.mv (kI (-1)))] [0, 3, 7, 8, 9])
 (.ret [4]))))
def z80 : List ARes := [.t 4]
def z4n : AFn := .code z2V z80 19 true
def zbw : Hints := { kill := [(0, [0, 2]), (1, [1, 3, 4, 5, 6, 7, 8, 9, 10])], ret := [2] }
def z93 : ACode := by
  refine val (x := codeC Tryz.prog Tryz.f55 zbw [] []) ?_ ?_
  rotate_left
  conv => lhs; reduce; try simp only [iP, iN, Int.cast_ofNat_Int, Int.natCast_zero, Int.natCast_one]
def zcS : List ARes := [.t 2]
def z6A : AFn := .code z93 zcS 11 true
def zbv : Hints := { kill := [(0, [4]), (1, [0, 1, 5, 6, 7, 8, 9, 10, 11, 12, 13, 14, 15])], ret := [4] }
def z5R : ACode := by
  refine val (x := codeC Tryz.prog Tryz.f99 zbv [] []) ?_ ?_
  rotate_left
  conv => lhs; reduce; try simp only [iP, iN, Int.cast_ofNat_Int, Int.natCast_zero, Int.natCast_one]
def z7X : List ARes := [.t 4]
def z6z : AFn := .code z5R z7X 16 true
def z7s : Hints := { kill := [(0, [0, 2]), (1, [6, 7, 8]), (2, [1, 9, 10]), (4, [14, 15, 16]), (5, [5, 17, 18, 19, 20, 21]), (6, [22]), (7, [3, 11, 12, 13, 14, 23])], exit := [(0, [3])], ret := [2] }
def z2r : ACode := by
  refine val (x := codeL Tryz.prog Tryz.f62 z7s [] 0 []) ?_ ?_
  rotate_left
  conv => lhs; reduce; try simp only [iP, iN, Int.cast_ofNat_Int, Int.natCast_zero, Int.natCast_one]
attribute [irreducible] z2r
def z90 : ACode := by
  refine val (x := codeC Tryz.prog Tryz.f62 z7s [] [z2r]) ?_ ?_
  rotate_left
  conv => lhs; reduce; try simp only [iP, iN, Int.cast_ofNat_Int, Int.natCast_zero, Int.natCast_one]
def zcP : List ARes := [.t 2]
def z6x : AFn := .code z90 zcP 24 true
def zb1 : Hints := { kill := [(0, [0, 2]), (1, [3, 4]), (2, [1, 5]), (3, [1, 5, 6, 7])], ret := [2] }
def z8K : ACode := by
  refine val (x := codeC Tryz.prog Tryz.f44 zb1 [] []) ?_ ?_
  rotate_left
  conv => lhs; reduce; try simp only [iP, iN, Int.cast_ofNat_Int, Int.natCast_zero, Int.natCast_one]
def zcz : List ARes := [.t 2]
def z6n : AFn := .code z8K zcz 8 false
def zbE : Hints := { kill := [(0, [4]), (1, [0, 1, 5, 6, 7, 8])], ret := [4] }
def z97 : ACode := by
  refine val (x := codeC Tryz.prog Tryz.f88 zbE [] []) ?_ ?_
  rotate_left
  conv => lhs; reduce; try simp only [iP, iN, Int.cast_ofNat_Int, Int.natCast_zero, Int.natCast_one]
def zcW : List ARes := [.t 4]
def z4h : AFn := .code z97 zcW 9 true
def z7y : Hints := { kill := [(0, [4]), (1, [6]), (3, [9, 10]), (4, [11, 12, 13, 14, 15]), (5, [0, 1, 5, 7, 8, 16, 17]), (6, [5, 16, 18]), (7, [0, 1, 7, 8, 9])], ret := [4] }
def z59 : ACode := by
  refine val (x := codeL Tryz.prog Tryz.f147 z7y [] 0 []) ?_ ?_
  rotate_left
  conv => lhs; reduce; try simp only [iP, iN, Int.cast_ofNat_Int, Int.natCast_zero, Int.natCast_one]
attribute [irreducible] z59
def z5U : ACode := by
  refine val (x := codeC Tryz.prog Tryz.f147 z7y [] [z59]) ?_ ?_
  rotate_left
  conv => lhs; reduce; try simp only [iP, iN, Int.cast_ofNat_Int, Int.natCast_zero, Int.natCast_one]
def z81 : List ARes := [.t 4]
def z4o : AFn := .code z5U z81 19 true
def zbr : Hints := { kill := [(0, [0]), (1, [3, 4, 5, 6, 7, 8]), (2, [9, 10, 11, 12, 13, 14, 15, 16, 17, 18]), (3, [1, 19])], ret := [2] }
def zgl : List (Nat × List (List Nat)) := [(2, [[], [], [], [], [0, 1, 2, 3], [0, 1, 2, 3], [0, 1, 2, 3], [], [], [], []])]
def z5P : ACode := by
  refine val (x := codeC Tryz.prog Tryz.f43 zbr zgl []) ?_ ?_
  rotate_left
  conv => lhs; reduce; try simp only [iP, iN, Int.cast_ofNat_Int, Int.natCast_zero, Int.natCast_one]
def z7V : List ARes := [.c 2 true 8]
def z48 : AFn := .code z5P z7V 20 true
def zbA : Hints := { kill := [(0, [2]), (1, [3]), (2, [0, 4]), (3, [0, 4, 5, 6, 7])], acc := [2, 2], ret := [2] }
def zY : ACode := by
  refine val (x := codeC Tryz.prog Tryz.f89 zbA [] []) ?_ ?_
  rotate_left
  conv => lhs; reduce; try simp only [iP, iN, Int.cast_ofNat_Int, Int.natCast_zero, Int.natCast_one]
def z02 : List ARes := [.t 2]
def z4d : AFn := .nils zY z02 8
def zbz : Hints := { kill := [(0, [2]), (1, [3]), (2, [0, 4]), (3, [0, 4, 5, 6, 7])], acc := [2, 2], ret := [2] }
def z2T : ACode := by
  refine val (x := codeC Tryz.prog Tryz.f90 zbz [] []) ?_ ?_
  rotate_left
  conv => lhs; reduce; try simp only [iP, iN, Int.cast_ofNat_Int, Int.natCast_zero, Int.natCast_one]
def z5v : List ARes := [.t 2]
def z6C : AFn := .nils z2T z5v 8
def zby : Hints := { kill := [(0, [2]), (1, [3]), (2, [0, 4]), (3, [0, 4, 5, 6, 7])], acc := [2, 2], ret := [2] }
def zX : ACode := by
  refine val (x := codeC Tryz.prog Tryz.f91 zby [] []) ?_ ?_
  rotate_left
  conv => lhs; reduce; try simp only [iP, iN, Int.cast_ofNat_Int, Int.natCast_zero, Int.natCast_one]
def z01 : List ARes := [.t 2]
def z4c : AFn := .nils zX z01 8
def zaK : Hints := { kill := [(0, [0, 6]), (1, [1, 2, 3, 7, 8, 9, 10, 11, 12, 13, 14, 15, 16, 17, 18, 19, 20, 21])], ret := [6] }
def z8v : ACode := by
  refine val (x := codeC Tryz.prog Tryz.f45 zaK [] []) ?_ ?_
  rotate_left
  conv => lhs; reduce; try simp only [iP, iN, Int.cast_ofNat_Int, Int.natCast_zero, Int.natCast_one]
def zck : List ARes := [.t 6]
def z3r : AFn := .code z8v zck 22 true
def zaJ : Hints := { kill := [(0, [0, 4]), (1, [1, 2, 5, 6, 7, 8])], ret := [4] }
def z5G : ACode := by
  refine val (x := codeC Tryz.prog Tryz.f94 zaJ [] []) ?_ ?_
  rotate_left
  conv => lhs; reduce; try simp only [iP, iN, Int.cast_ofNat_Int, Int.natCast_zero, Int.natCast_one]
def z7M : List ARes := [.t 4]
def z6d : AFn := .code z5G z7M 9 true
def zaL : Hints := { kill := [(0, [0, 4]), (1, [1, 2, 5, 6, 7, 8])], ret := [4] }
def z8w : ACode := by
  refine val (x := codeC Tryz.prog Tryz.f51 zaL [] []) ?_ ?_
  rotate_left
  conv => lhs; reduce; try simp only [iP, iN, Int.cast_ofNat_Int, Int.natCast_zero, Int.natCast_one]
def zcl : List ARes := [.t 4]
def z6e : AFn := .code z8w zcl 9 true
def zbh : Hints := { kill := [(0, [1, 7]), (1, [11, 12, 13, 14, 15, 16, 17, 18, 19, 20, 21]), (2, [22]), (3, [0, 2, 4, 8, 9, 23, 24, 25]), (4, [23, 26, 27, 28, 29, 30]), (5, [31]), (6, [0, 2, 4, 8, 9, 32, 33, 34]), (7, [32, 35, 36, 37, 38, 39, 40, 41, 42, 43, 44]), (8, [45]), (9, [0, 2, 4, 8, 9, 10, 46, 47, 48]), (10, [0, 8, 9, 10, 46, 49, 50, 51, 52, 53, 54, 55, 56]), (11, [2, 4, 57, 58, 59])], ret := [6, 7] }
def zgk : List (Nat × List (List Nat)) := [(1, [[], [], [], [], [0, 1, 2, 3], [0, 1, 2, 3], [], [], [], [8], [8, 9], [0, 1, 2, 3, 4, 5, 6, 7, 8, 9, 10], [9, 10], [10], []]), (7, [[], [], [], [], [0, 1, 2, 3], [0, 1, 2, 3, 4], [], [], [], [8], [0, 1, 2, 3, 4, 5, 6, 7, 8, 9], [9], []]), (10, [[], [0], [0, 1], [0, 1, 2], [1, 3], [1, 3], [1, 3], [], [], []])]
def z26 : ACode := by
  refine val (x := codeC Tryz.prog Tryz.f46 zbh zgk []) ?_ ?_
  rotate_left
  conv => lhs; reduce; try simp only [iP, iN, Int.cast_ofNat_Int, Int.natCast_zero, Int.natCast_one]
def z2y : List ARes := [.c 6 true 8, .t 7]
def z41 : AFn := .code z26 z2y 60 true
def zb5 : Hints := { kill := [(0, [0, 6]), (1, [10, 11]), (2, [12]), (3, [1, 2, 7, 13, 14, 15, 16]), (4, [1, 7, 13, 17, 18, 19]), (5, [20]), (6, [2, 8, 21, 22, 23]), (7, [8, 21, 24, 25, 26, 27, 28, 29]), (8, [2, 9, 30, 31])], ret := [4, 5, 6] }
def zgg : List (Nat × List (List Nat)) := [(8, [[], [0], [1], [], []])]
def z2M : ACode := by
  refine val (x := codeC Tryz.prog Tryz.f95 zb5 zgg []) ?_ ?_
  rotate_left
  conv => lhs; reduce; try simp only [iP, iN, Int.cast_ofNat_Int, Int.natCast_zero, Int.natCast_one]
def z5o : List ARes := [.c 4 true 3, .c 5 true 7, .t 6]
def z6q : AFn := .code z2M z5o 32 true
def zb7 : Hints := { kill := [(0, [0, 1, 4]), (1, [2, 3, 5, 6, 7, 8])], ret := [4] }
def z8N : ACode := by
  refine val (x := codeC Tryz.prog Tryz.f149 zb7 [] []) ?_ ?_
  rotate_left
  conv => lhs; reduce; try simp only [iP, iN, Int.cast_ofNat_Int, Int.natCast_zero, Int.natCast_one]
def zcC : List ARes := [.t 4]
def z3N : AFn := .code z8N zcC 9 true
def zb8 : Hints := { kill := [(0, [0, 3]), (1, [1, 2, 4, 5, 6, 7])], ret := [3] }
def z8O : ACode := by
  refine val (x := codeC Tryz.prog Tryz.f181 zb8 [] []) ?_ ?_
  rotate_left
  conv => lhs; reduce; try simp only [iP, iN, Int.cast_ofNat_Int, Int.natCast_zero, Int.natCast_one]
def zcD : List ARes := [.t 3]
def z3O : AFn := .code z8O zcD 8 true
def z7w : Hints := { kill := [(0, [4]), (1, [6]), (3, [9, 10]), (4, [11, 12, 13, 14, 15]), (5, [0, 1, 5, 7, 8, 16, 17]), (6, [5, 16, 18]), (7, [0, 1, 7, 8, 9])], ret := [4] }
def z57 : ACode := by
  refine val (x := codeL Tryz.prog Tryz.f113 z7w [] 0 []) ?_ ?_
  rotate_left
  conv => lhs; reduce; try simp only [iP, iN, Int.cast_ofNat_Int, Int.natCast_zero, Int.natCast_one]
attribute [irreducible] z57
def z5S : ACode := by
  refine val (x := codeC Tryz.prog Tryz.f113 z7w [] [z57]) ?_ ?_
  rotate_left
  conv => lhs; reduce; try simp only [iP, iN, Int.cast_ofNat_Int, Int.natCast_zero, Int.natCast_one]
def z7Y : List ARes := [.t 4]
def z4l : AFn := .code z5S z7Y 19 true
def z7o : Hints := { kill := [(0, [0]), (1, [8, 9]), (2, [10, 11, 12, 13, 14, 15, 16]), (3, [1, 17]), (4, [18, 19, 20, 21]), (5, [23, 24]), (6, [22, 25, 26, 27, 28, 29, 30, 31, 32, 33, 34, 35, 36, 37, 38]), (7, [7, 22, 39, 40, 41, 42]), (8, [43, 44, 45, 46, 47, 48, 49, 50]), (9, [2, 6, 51, 52])], ghost := [(2, [18])], exit := [(0, [2, 4, 5, 6])], ret := [4, 5] }
def zbR : List (Nat × List (List Nat)) := [(2, [[], [], [0, 1], [0, 1, 2], [0, 1], [], [], [0, 1, 2, 3, 4, 5, 6], []]), (6, [[], [], [0, 1], [0, 1, 2], [0, 1], [0, 1, 2, 3, 4], [0, 1, 2, 3, 4], [0, 1, 2, 3, 4, 5, 6], [0, 1, 2, 3, 4, 5, 6, 7], [0, 1, 2, 3, 4, 5, 6, 7], [0, 1, 5, 6], [0, 1], [0, 1], [], []]), (8, [[], [], [0, 1], [0, 1, 2], [0, 1, 2], [0, 1], [0, 1, 2, 3, 4, 5], [], []]), (9, [[], [0], [1], []])]
def z2p : ACode := by
  refine val (x := codeL Tryz.prog Tryz.f150 z7o zbR 0 []) ?_ ?_
  rotate_left
  conv => lhs; reduce; try simp only [iP, iN, Int.cast_ofNat_Int, Int.natCast_zero, Int.natCast_one]
attribute [irreducible] z2p
def z8R : ACode := by
  refine val (x := codeC Tryz.prog Tryz.f150 z7o zbR [z2p]) ?_ ?_
  rotate_left
  conv => lhs; reduce; try simp only [iP, iN, Int.cast_ofNat_Int, Int.natCast_zero, Int.natCast_one]
def zcG : List ARes := [.c 4 true 3, .c 5 true 7]
def z3S : AFn := .code z8R zcG 53 true
def zb9 : Hints := { kill := [(0, [0]), (1, [3, 4, 5, 6]), (2, [1, 7])], ret := [2] }
def z8Q : ACode := by
  refine val (x := codeC Tryz.prog Tryz.f104 zb9 [] []) ?_ ?_
  rotate_left
  conv => lhs; reduce; try simp only [iP, iN, Int.cast_ofNat_Int, Int.natCast_zero, Int.natCast_one]
def zcF : List ARes := [.c 2 true 3]
def z3Q : AFn := .code z8Q zcF 8 false
def zaI : Hints := { kill := [(0, [0, 3]), (1, [5, 6]), (2, [7]), (3, [1, 4, 8, 9, 10]), (4, [4, 8, 12, 13, 14]), (5, [1, 11, 15]), (6, [11, 17, 18, 19]), (7, [1, 16, 20]), (8, [16, 21, 22, 23, 24]), (9, [25, 26, 27, 28]), (10, [1, 29])], ret := [2, 3] }
def z24 : ACode := by
  refine val (x := codeC Tryz.prog Tryz.f96 zaI [] []) ?_ ?_
  rotate_left
  conv => lhs; reduce; try simp only [iP, iN, Int.cast_ofNat_Int, Int.natCast_zero, Int.natCast_one]
def z2w : List ARes := [.c 2 true 7, .t 3]
def z3q : AFn := .code z24 z2w 30 true
def zaz : Hints := { kill := [(0, [0, 1, 7]), (1, [14, 15]), (2, [16]), (3, [2, 3, 4, 8, 17, 18, 19]), (4, [8, 17, 20, 21]), (5, [22]), (6, [2, 3, 4, 9, 23, 24, 25]), (7, [9, 23, 26, 27, 28, 29, 30, 31, 32]), (8, [34, 35, 36]), (9, [2, 3, 4, 10, 11, 33, 37]), (10, [33, 39, 40, 41]), (11, [2, 3, 4, 10, 11, 38, 42]), (12, [38, 44, 45, 46, 47]), (13, [2, 3, 4, 10, 11, 43, 48]), (14, [11, 43, 50]), (15, [2, 3, 4, 10, 49, 51]), (16, [49, 52, 53, 54, 55, 56, 57, 58, 59, 60, 61]), (17, [62]), (18, [2, 3, 4, 10, 12, 13, 63, 64, 65]), (19, [2, 3, 4, 10, 12, 13, 63, 66, 67, 68, 69, 70, 71, 72, 73, 74, 75, 76])], obj := [(74, [true, false, false])], ret := [6, 7] }
def zg7 : List (Nat × List (List Nat)) := [(19, [[], [], [], [0, 1, 2], [0, 1, 2, 3], [0, 1, 2, 3, 4], [0, 1, 2, 3], [0, 1, 2, 3], [], [0, 1, 2, 3, 4, 5, 6, 7, 8], [], [], []])]
def z7 : ACode := by
  refine val (x := codeC Tryz.prog Tryz.f97 zaz zg7 []) ?_ ?_
  rotate_left
  conv => lhs; reduce; try simp only [iP, iN, Int.cast_ofNat_Int, Int.natCast_zero, Int.natCast_one]
def za : List ARes := [.c 6 true 2, .t 7]
def z3g : AFn := .code z7 za 77 true
def zaD : Hints := { kill := [(0, [0, 4, 5]), (1, [1, 2, 6, 7, 8, 9, 10, 11])], ret := [4, 5] }
def z8q : ACode := by
  refine val (x := codeC Tryz.prog Tryz.f115 zaD [] []) ?_ ?_
  rotate_left
  conv => lhs; reduce; try simp only [iP, iN, Int.cast_ofNat_Int, Int.natCast_zero, Int.natCast_one]
def zcg : List ARes := [.t 4, .t 5]
def z3k : AFn := .code z8q zcg 12 true
def z7t : Hints := { kill := [(0, [6, 7]), (1, [12, 13]), (2, [14]), (3, [15, 16]), (4, [17, 18, 19, 20, 21, 22, 23]), (5, [24, 25, 26, 27, 28, 29, 30]), (6, [11, 31, 32, 33]), (7, [11, 31, 34]), (8, [0, 1, 2, 8, 9, 10, 17, 35, 36, 37, 38, 39, 40, 41, 42, 43, 44, 45, 46, 47, 48])], exit := [(0, [0, 1, 2, 8, 9])], ret := [6, 7] }
def z55 : ACode := by
  refine val (x := codeL Tryz.prog Tryz.f156 z7t [] 0 []) ?_ ?_
  rotate_left
  conv => lhs; reduce; try simp only [iP, iN, Int.cast_ofNat_Int, Int.natCast_zero, Int.natCast_one]
attribute [irreducible] z55
def z2S : ACode := by
  refine val (x := codeC Tryz.prog Tryz.f156 z7t [] [z55]) ?_ ?_
  rotate_left
  conv => lhs; reduce; try simp only [iP, iN, Int.cast_ofNat_Int, Int.natCast_zero, Int.natCast_one]
def z5u : List ARes := [.t 6, .t 7]
def z4b : AFn := .code z2S z5u 49 true
def zaE : Hints := { kill := [(0, [0, 4]), (1, [1, 2, 5, 6, 7, 8, 9])], ret := [4] }
def z8r : ACode := by
  refine val (x := codeC Tryz.prog Tryz.f157 zaE [] []) ?_ ?_
  rotate_left
  conv => lhs; reduce; try simp only [iP, iN, Int.cast_ofNat_Int, Int.natCast_zero, Int.natCast_one]
def zch : List ARes := [.t 4]
def z3l : AFn := .code z8r zch 10 true
def zao : Hints := { kill := [(0, [1, 4, 5]), (1, [7, 8]), (2, [9]), (3, [0, 3, 6, 10, 11]), (4, [6, 10, 13, 14, 15]), (5, [0, 3, 12]), (6, [12, 17, 18, 19]), (7, [0, 3, 16]), (8, [16, 21, 22, 23, 24, 25]), (9, [0, 3, 20]), (10, [3, 20, 26, 27, 28, 29, 30]), (11, [31, 32, 33, 34, 35]), (12, [0, 36])], ghost := [(11, [54])], obj := [(35, [true, false])], ret := [4, 5] }
def zg4 : List (Nat × List (List Nat)) := [(10, [[], [], [0, 1], [0, 1], [], []])]
def z0s : ACode := by
  refine val (x := codeC Tryz.prog Tryz.f118 zao zg4 []) ?_ ?_
  rotate_left
  conv => lhs; reduce; try simp only [iP, iN, Int.cast_ofNat_Int, Int.natCast_zero, Int.natCast_one]
def z0E : List ARes := [.t 4, .t 5]
def z67 : AFn := .code z0s z0E 37 true
def z7a : Hints := { kill := [(0, [4]), (1, [6, 7, 8, 9, 10, 11, 12, 13, 14]), (2, [15, 16, 17, 18]), (3, [1, 19, 20, 21, 22, 23, 24, 25, 26, 27, 28, 29, 30, 31, 32]), (4, [5, 33]), (5, [0, 1, 15, 34])], exit := [(0, [1])], ret := [4] }
def zbJ : List (Nat × List (List Nat)) := [(3, [[], [0], [0, 1], [0, 1, 2], [0, 1, 2, 3], [0, 1, 2, 3, 4], [0, 1, 2, 3], [0, 1, 2, 3], [0, 1, 2, 3, 4, 5, 6, 7], [0, 1, 2, 3, 4, 5, 6, 7, 8], [0, 1, 2, 3, 4, 5, 6, 7], [0, 1, 2, 3, 4, 5, 6, 7], [2, 3], [2, 3], [], []])]
def z4M : ACode := by
  refine val (x := codeL Tryz.prog Tryz.f162 z7a zbJ 0 []) ?_ ?_
  rotate_left
  conv => lhs; reduce; try simp only [iP, iN, Int.cast_ofNat_Int, Int.natCast_zero, Int.natCast_one]
attribute [irreducible] z4M
def z8m : ACode := by
  refine val (x := codeC Tryz.prog Tryz.f162 z7a zbJ [z4M]) ?_ ?_
  rotate_left
  conv => lhs; reduce; try simp only [iP, iN, Int.cast_ofNat_Int, Int.natCast_zero, Int.natCast_one]
def zcc : List ARes := [.t 4]
def z3b : AFn := .code z8m zcc 35 true
def z4p : AFn := .ext (insF 8)
def zax : Hints := { kill := [(0, [0]), (1, [10, 11, 12, 13]), (2, [14, 15, 16, 17, 18, 19]), (3, [20, 21, 22, 23, 24, 25]), (4, [26]), (5, [7, 27, 28, 29, 30, 31, 32]), (6, [1, 2, 3, 4, 5, 6, 8, 9, 33, 34, 35, 36, 37, 38, 39, 40, 41, 42, 43, 44, 45, 46, 47, 48, 49, 50, 51, 52, 53, 54, 55, 56, 57, 58, 59, 60, 61, 62, 63, 64, 65, 66, 67])], ret := [0] }
def z8o : ACode := by
  refine val (x := codeC Tryz.prog Tryz.f12 zax [] []) ?_ ?_
  rotate_left
  conv => lhs; reduce; try simp only [iP, iN, Int.cast_ofNat_Int, Int.natCast_zero, Int.natCast_one]
def zce : List ARes := [.t 0]
def z3e : AFn := .code z8o zce 68 true
def zbe : Hints := { kill := [(0, [7]), (1, [0, 10, 11, 12, 13, 14]), (2, [15]), (3, [1, 2, 8, 9, 16, 17, 18]), (4, [9, 16, 19, 20, 21]), (5, [1, 2, 8, 22, 23]), (6, [1, 2, 8, 22, 24, 25, 26, 27])], ret := [6, 7] }
def z8S : ACode := by
  refine val (x := codeC Tryz.prog Tryz.f47 zbe [] []) ?_ ?_
  rotate_left
  conv => lhs; reduce; try simp only [iP, iN, Int.cast_ofNat_Int, Int.natCast_zero, Int.natCast_one]
def zcH : List ARes := [.c 6 true 8, .t 7]
def z3X : AFn := .code z8S zcH 28 true
def zb2 : Hints := { kill := [(0, [3]), (1, [4, 5, 6, 7, 8]), (2, [0, 9, 10]), (3, [0, 9, 11, 12, 13])], ret := [2, 3] }
def z8L : ACode := by
  refine val (x := codeC Tryz.prog Tryz.f98 zb2 [] []) ?_ ?_
  rotate_left
  conv => lhs; reduce; try simp only [iP, iN, Int.cast_ofNat_Int, Int.natCast_zero, Int.natCast_one]
def zcA : List ARes := [.c 2 true 3, .t 3]
def z3M : AFn := .code z8L zcA 14 true
def zbf : Hints := { kill := [(0, [0, 1, 5]), (1, [7, 8]), (2, [9]), (3, [2, 3, 6, 10, 11, 12]), (4, [2, 3, 6, 10, 13, 14, 15, 16, 17])], ret := [4, 5] }
def z8T : ACode := by
  refine val (x := codeC Tryz.prog Tryz.f48 zbf [] []) ?_ ?_
  rotate_left
  conv => lhs; reduce; try simp only [iP, iN, Int.cast_ofNat_Int, Int.natCast_zero, Int.natCast_one]
def zcI : List ARes := [.c 4 true 8, .t 5]
def z3Y : AFn := .code z8T zcI 18 true
def zbs : Hints := { kill := [(0, [0, 1, 5]), (1, [8, 9]), (2, [10]), (3, [2, 3, 6, 11, 12, 13]), (4, [6, 11, 15, 16, 17, 18, 19, 20, 21, 22]), (5, [2, 3, 14, 23]), (6, [14, 25, 26, 27]), (7, [2, 3, 24, 28]), (8, [24, 30, 31, 32, 33]), (9, [2, 3, 29, 34]), (10, [7, 29]), (11, [35, 36]), (12, [3, 37, 38, 39, 40, 41, 42, 43, 44]), (13, [45]), (14, [2, 7, 46, 47, 48]), (15, [2, 7, 46, 49])], ret := [4, 5] }
def z91 : ACode := by
  refine val (x := codeC Tryz.prog Tryz.f100 zbs [] []) ?_ ?_
  rotate_left
  conv => lhs; reduce; try simp only [iP, iN, Int.cast_ofNat_Int, Int.natCast_zero, Int.natCast_one]
def zcQ : List ARes := [.c 4 true 8, .t 5]
def z49 : AFn := .code z91 zcQ 50 true
def zbu : Hints := { kill := [(0, [0, 2]), (1, [1, 3, 4, 5, 6, 7, 8, 9])], ret := [2] }
def zgn : List (Nat × List (List Nat)) := [(1, [[], [], [], [], [0, 1, 2, 3], [0, 1, 2, 3], [], []])]
def z92 : ACode := by
  refine val (x := codeC Tryz.prog Tryz.f60 zbu zgn []) ?_ ?_
  rotate_left
  conv => lhs; reduce; try simp only [iP, iN, Int.cast_ofNat_Int, Int.natCast_zero, Int.natCast_one]
def zcR : List ARes := [.t 2]
def z6y : AFn := .code z92 zcR 10 true
def zbi : Hints := { kill := [(0, [0, 1, 4]), (1, [2, 3, 5, 6, 7, 8])], ret := [4] }
def z8U : ACode := by
  refine val (x := codeC Tryz.prog Tryz.f64 zbi [] []) ?_ ?_
  rotate_left
  conv => lhs; reduce; try simp only [iP, iN, Int.cast_ofNat_Int, Int.natCast_zero, Int.natCast_one]
def zcJ : List ARes := [.t 4]
def z6u : AFn := .code z8U zcJ 9 true
def zbj : Hints := { kill := [(0, [0, 3]), (1, [1, 2, 4, 5, 6, 7])], ret := [3] }
def z8V : ACode := by
  refine val (x := codeC Tryz.prog Tryz.f114 zbj [] []) ?_ ?_
  rotate_left
  conv => lhs; reduce; try simp only [iP, iN, Int.cast_ofNat_Int, Int.natCast_zero, Int.natCast_one]
def zcK : List ARes := [.t 3]
def z42 : AFn := .code z8V zcK 8 true
def zbC : Hints := { kill := [(0, [4]), (1, [0, 1, 5, 6, 7, 8])], ret := [4] }
def z95 : ACode := by
  refine val (x := codeC Tryz.prog Tryz.f61 zbC [] []) ?_ ?_
  rotate_left
  conv => lhs; reduce; try simp only [iP, iN, Int.cast_ofNat_Int, Int.natCast_zero, Int.natCast_one]
def zcU : List ARes := [.t 4]
def z4f : AFn := .code z95 zcU 9 true
def zb3 : Hints := { kill := [(0, [0, 1, 5]), (1, [7, 8, 9]), (2, [10]), (3, [2, 3, 6, 11, 12, 13]), (4, [6, 11, 14, 15]), (5, [3, 16, 17, 18, 19, 20, 21, 22, 23]), (6, [24, 25, 26, 27]), (7, [2, 28])], ghost := [(5, [30])], ret := [4, 5] }
def zgf : List (Nat × List (List Nat)) := [(5, [[], [], [0, 1], [0, 1, 2], [0, 1, 2], [0, 1], [0, 1, 2, 3, 4, 5], [], []])]
def z5K : ACode := by
  refine val (x := codeC Tryz.prog Tryz.f52 zb3 zgf []) ?_ ?_
  rotate_left
  conv => lhs; reduce; try simp only [iP, iN, Int.cast_ofNat_Int, Int.natCast_zero, Int.natCast_one]
def z7Q : List ARes := [.c 4 true 3, .t 5]
def z6o : AFn := .code z5K z7Q 29 true
def zba : Hints := { kill := [(0, [0, 1, 4]), (1, [7, 8]), (2, [9]), (3, [2, 3, 5, 10, 11]), (4, [5, 10, 12, 13]), (5, [14]), (6, [2, 3, 6, 15, 16]), (7, [6, 15, 18, 19, 20, 21, 22, 23]), (8, [2, 3, 17]), (9, [2, 3, 17, 25, 26, 27, 28, 29]), (10, [24]), (11, [24])], ret := [4] }
def z0w : ACode := by
  refine val (x := codeC Tryz.prog Tryz.f103 zba [] []) ?_ ?_
  rotate_left
  conv => lhs; reduce; try simp only [iP, iN, Int.cast_ofNat_Int, Int.natCast_zero, Int.natCast_one]
def z0K : List ARes := [.t 4]
def z3R : AFn := .code z0w z0K 30 true
def z7p : Hints := { kill := [(0, [0, 9, 10]), (1, [3, 17, 18, 19, 20, 21, 22, 23, 24, 25]), (2, [26]), (3, [1, 2, 4, 11, 27, 28, 29]), (4, [11, 27, 30, 31]), (5, [1, 2, 32, 33, 34, 35, 36]), (8, [40, 41, 42]), (10, [16]), (11, [14, 43, 44, 45, 46, 47, 48, 49]), (12, [50]), (13, [4, 12, 15, 16, 37, 38, 39, 51, 52, 53]), (14, [15, 51, 54, 55, 56, 57, 58, 59, 60, 61]), (15, [62]), (16, [4, 12, 16, 37, 38, 39, 63, 64, 65]), (17, [16, 63, 66]), (18, [4, 12, 37, 38, 39, 40, 67, 68])], exit := [(0, [4, 8, 12])], ret := [8, 9, 10] }
def zbS : List (Nat × List (List Nat)) := [(1, [[], [0], [0], [0, 1, 2], [0], [0, 1, 2, 3, 4], [0], [0], [], []])]
def zZ : ACode := by
  refine val (x := codeL Tryz.prog Tryz.f28 z7p zbS 0 []) ?_ ?_
  rotate_left
  conv => lhs; reduce; try simp only [iP, iN, Int.cast_ofNat_Int, Int.natCast_zero, Int.natCast_one]
attribute [irreducible] zZ
def z2O : ACode := by
  refine val (x := codeC Tryz.prog Tryz.f28 z7p zbS [zZ]) ?_ ?_
  rotate_left
  conv => lhs; reduce; try simp only [iP, iN, Int.cast_ofNat_Int, Int.natCast_zero, Int.natCast_one]
def z5q : List ARes := [.c 8 true 8, .t 9, .t 10]
def z3U : AFn := .code z2O z5q 69 true
def zaA : Hints := { kill := [(0, [0, 2, 6]), (1, [7, 8]), (2, [1, 3, 5, 9]), (3, [1, 3, 5, 9, 10, 11, 12, 13, 14, 15])], obj := [(15, [true, false])], ret := [6] }
def z2D : ACode := by
  refine val (x := codeC Tryz.prog Tryz.f67 zaA [] []) ?_ ?_
  rotate_left
  conv => lhs; reduce; try simp only [iP, iN, Int.cast_ofNat_Int, Int.natCast_zero, Int.natCast_one]
def z5f : List ARes := [.t 6]
def z3h : AFn := .code z2D z5f 16 true
def z78 : Hints := { kill := [(0, [4]), (1, [9, 10]), (2, [0, 1, 11]), (3, [0, 11, 12, 13]), (4, [14, 15]), (6, [5]), (8, [19, 20, 21]), (9, [22, 23, 24]), (10, [8, 25, 26, 27, 28, 29, 30]), (11, [8, 25, 31]), (12, [1, 6, 16, 17, 18, 19, 32])], ghost := [(4, [26])], obj := [(15, [true, false])], acc := [6], exit := [(0, [6])], ret := [4] }
def z2k : ACode := by
  refine val (x := codeL Tryz.prog Tryz.f120 z78 [] 0 []) ?_ ?_
  rotate_left
  conv => lhs; reduce; try simp only [iP, iN, Int.cast_ofNat_Int, Int.natCast_zero, Int.natCast_one]
attribute [irreducible] z2k
def z5E : ACode := by
  refine val (x := codeC Tryz.prog Tryz.f120 z78 [] [z2k]) ?_ ?_
  rotate_left
  conv => lhs; reduce; try simp only [iP, iN, Int.cast_ofNat_Int, Int.natCast_zero, Int.natCast_one]
def z7K : List ARes := [.t 4]
def z69 : AFn := .code z5E z7K 33 false
def zbF : Hints := { kill := [(0, [5, 6]), (1, [0, 1, 4, 7, 8, 9, 10, 11, 12, 13])], obj := [(13, [true, false, false, false, false])] }
def z5V : ACode := by
  refine val (x := codeC Tryz.prog Tryz.f164 zbF [] []) ?_ ?_
  rotate_left
  conv => lhs; reduce; try simp only [iP, iN, Int.cast_ofNat_Int, Int.natCast_zero, Int.natCast_one]
def z82 : List ARes := []
def z4q : AFn := .code z5V z82 14 true
def zaH : Hints := { kill := [(0, [2]), (1, [0, 3, 4, 5]), (2, [0, 6, 7])], ret := [2] }
def z8t : ACode := by
  refine val (x := codeC Tryz.prog Tryz.f194 zaH [] []) ?_ ?_
  rotate_left
  conv => lhs; reduce; try simp only [iP, iN, Int.cast_ofNat_Int, Int.natCast_zero, Int.natCast_one]
def zcj : List ARes := [.t 2]
def z3o : AFn := .code z8t zcj 8 true
def z8u : ACode :=
 (.seq (.ops [] [oP 2 (.mv (kI 0))] [])
 (.seq (.seq (.ops [] [oM 3 0, oP 4 (.bin .geq (.t 3) (.c (.d (.int .u32 65536))))] [3])
 (.cond (.t 4) (.seq (.ops [] [oM 5 0, oP 6 (.bin .shr (.t 5) (.c (.d (.int .u64 16)))), oM 0 6] [2, 4, 5, 6])
 (.ops [] [oP 2 (.mv (kI 16))] [])) .skip))
 (.seq (.seq (.ops [] [oM 7 0, oP 8 (.bin .geq (.t 7) (.c (.d (.int .u32 256))))] [4, 7])
 (.cond (.t 8) (.seq (.ops [] [oM 9 0, oP 10 (.bin .shr (.t 9) (.c (.d (.int .u64 8)))), oM 0 10] [8, 9, 10])
 (.ops [] [oM 11 2, oP 12 (.bin .add (.t 11) (kI 8)), oM 2 12] [11, 12])) .skip))
 (.seq (.ops [] [oM 13 2, oM 14 0, oP 15 (.cvi .u8 (.t 14)), oP 16 (.idx (.c (.d (.str [0, 1, 2, 2, 3, 3, 3, 3, 4, 4, 4, 4, 4, 4, 4, 4, 5, 5, 5, 5, 5, 5, 5, 5, 5, 5, 5, 5, 5, 5, 5, 5, 6, 6, 6, 6, 6, 6, 6, 6, 6, 6, 6, 6, 6, 6, 6, 6, 6, 6, 6, 6, 6, 6, 6, 6, 6, 6, 6, 6, 6, 6, 6, 6, 7, 7, 7, 7, 7, 7, 7, 7, 7, 7, 7, 7, 7, 7, 7, 7, 7, 7, 7, 7, 7, 7, 7, 7, 7, 7, 7, 7, 7, 7, 7, 7, 7, 7, 7, 7, 7, 7, 7, 7, 7, 7, 7, 7, 7, 7, 7, 7, 7, 7, 7, 7, 7, 7, 7, 7, 7, 7, 7, 7, 7, 7, 7, 7, 8, 8, 8, 8, 8, 8, 8, 8, 8, 8, 8, 8, 8, 8, 8, 8, 8, 8, 8, 8, 8, 8, 8, 8, 8, 8, 8, 8, 8, 8, 8, 8, 8, 8, 8, 8, 8, 8, 8, 8, 8, 8, 8, 8, 8, 8, 8, 8, 8, 8, 8, 8, 8, 8, 8, 8, 8, 8, 8, 8, 8, 8, 8, 8, 8, 8, 8, 8, 8, 8, 8, 8, 8, 8, 8, 8, 8, 8, 8, 8, 8, 8, 8, 8, 8, 8, 8, 8, 8, 8, 8, 8, 8, 8, 8, 8, 8, 8, 8, 8, 8, 8, 8, 8, 8, 8, 8, 8, 8, 8, 8, 8, 8, 8, 8, 8, 8, 8, 8, 8, 8, 8, 8, 8, 8, 8, 8, 8]))) (.t 15)), oP 17 (.cvi .i64 (.t 16)), oP 18 (.bin .add (.t 13) (.t 17)), oM 2 18] [0, 8, 13, 14, 15, 16, 17, 18])
 (.ret [2])))))
def zgo : List ARes := [.t 2]
def z99 : AFn := .code z8u zgo 19 true
def z4 : ACode :=
 (.seq (.ops [] [oP 2 (.mv (kI 0))] [])
 (.seq (.seq (.ops [] [oM 3 0, oP 4 (.bin .geq (.t 3) (.c (.d (.int .u64 4294967296))))] [3])
 (.cond (.t 4) (.seq (.ops [] [oM 5 0, oP 6 (.bin .shr (.t 5) (.c (.d (.int .u64 32)))), oM 0 6] [2, 4, 5, 6])
 (.ops [] [oP 2 (.mv (kI 32))] [])) .skip))
 (.seq (.seq (.ops [] [oM 7 0, oP 8 (.bin .geq (.t 7) (.c (.d (.int .u64 65536))))] [4, 7])
 (.cond (.t 8) (.seq (.ops [] [oM 9 0, oP 10 (.bin .shr (.t 9) (.c (.d (.int .u64 16)))), oM 0 10] [8, 9, 10])
 (.ops [] [oM 11 2, oP 12 (.bin .add (.t 11) (kI 16)), oM 2 12] [11, 12])) .skip))
 (.seq (.seq (.ops [] [oM 13 0, oP 14 (.bin .geq (.t 13) (.c (.d (.int .u64 256))))] [8, 13])
 (.cond (.t 14) (.seq (.ops [] [oM 15 0, oP 16 (.bin .shr (.t 15) (.c (.d (.int .u64 8)))), oM 0 16] [14, 15, 16])
 (.ops [] [oM 17 2, oP 18 (.bin .add (.t 17) (kI 8)), oM 2 18] [17, 18])) .skip))
 (.seq (.ops [] [oM 19 2, oM 20 0, oP 21 (.cvi .u8 (.t 20)), oP 22 (.idx (.c (.d (.str [0, 1, 2, 2, 3, 3, 3, 3, 4, 4, 4, 4, 4, 4, 4, 4, 5, 5, 5, 5, 5, 5, 5, 5, 5, 5, 5, 5, 5, 5, 5, 5, 6, 6, 6, 6, 6, 6, 6, 6, 6, 6, 6, 6, 6, 6, 6, 6, 6, 6, 6, 6, 6, 6, 6, 6, 6, 6, 6, 6, 6, 6, 6, 6, 7, 7, 7, 7, 7, 7, 7, 7, 7, 7, 7, 7, 7, 7, 7, 7, 7, 7, 7, 7, 7, 7, 7, 7, 7, 7, 7, 7, 7, 7, 7, 7, 7, 7, 7, 7, 7, 7, 7, 7, 7, 7, 7, 7, 7, 7, 7, 7, 7, 7, 7, 7, 7, 7, 7, 7, 7, 7, 7, 7, 7, 7, 7, 7, 8, 8, 8, 8, 8, 8, 8, 8, 8, 8, 8, 8, 8, 8, 8, 8, 8, 8, 8, 8, 8, 8, 8, 8, 8, 8, 8, 8, 8, 8, 8, 8, 8, 8, 8, 8, 8, 8, 8, 8, 8, 8, 8, 8, 8, 8, 8, 8, 8, 8, 8, 8, 8, 8, 8, 8, 8, 8, 8, 8, 8, 8, 8, 8, 8, 8, 8, 8, 8, 8, 8, 8, 8, 8, 8, 8, 8, 8, 8, 8, 8, 8, 8, 8, 8, 8, 8, 8, 8, 8, 8, 8, 8, 8, 8, 8, 8, 8, 8, 8, 8, 8, 8, 8, 8, 8, 8, 8, 8, 8, 8, 8, 8, 8, 8, 8, 8, 8, 8, 8, 8, 8, 8, 8, 8, 8, 8, 8]))) (.t 21)), oP 23 (.cvi .i64 (.t 22)), oP 24 (.bin .add (.t 19) (.t 23)), oM 2 24] [0, 14, 19, 20, 21, 22, 23, 24])
 (.ret [2]))))))
def z6 : List ARes := [.t 2]
def z3p : AFn := .code z4 z6 25 true
def z7z : Hints := { kill := [(2, [21, 22, 23]), (3, [24]), (4, [0, 1, 2, 3, 4, 10, 11, 12, 25, 26, 27, 28, 29, 30]), (5, [25, 31]), (6, [0, 1, 2, 3, 4, 10, 11, 12, 32, 33, 34, 35, 36, 37]), (7, [32, 38]), (8, [39, 40, 41, 42, 43, 44]), (9, [45, 46]), (10, [39, 47, 48, 49, 50, 51, 52, 53, 54]), (11, [55]), (12, [14, 56, 57, 58, 59, 60, 61]), (13, [62, 63, 64, 65, 66, 67]), (15, [14, 56, 68, 69, 70, 71, 72, 73, 74]), (16, [75, 76, 77, 78, 79]), (17, [75, 80, 81, 82, 83, 84, 85, 86, 87, 88, 89, 90, 91, 92, 93, 94, 95, 96]), (18, [1, 12, 13, 97, 98, 99, 100, 101, 102, 103]), (19, [15, 104]), (20, [10, 11, 13, 97, 105, 106, 107, 108, 109, 110, 111, 112, 113]), (21, [17, 114]), (22, [115, 116, 117, 118, 119, 120]), (23, [12, 121, 122]), (24, [123, 124]), (25, [18, 19, 20, 125, 126, 127, 128]), (26, [1, 129, 130, 131, 132, 133, 134]), (27, [16, 135, 136]), (28, [18, 19, 20, 125, 137, 138, 139]), (29, [2, 140, 141, 142, 143, 144, 145, 146]), (30, [16, 147])], obj := [(30, [true, false, false, false]), (37, [true, false, false, false]), (44, [true, false, false, false]), (61, [true, false, false, false]), (80, [true, false, false, false]), (103, [true, false, false, false, false]), (111, [true, false, false, false, false]), (134, [true, false, false, false, false]), (146, [true, false, false, false, false])], exit := [(1, [0, 1, 2, 3, 4, 10, 11])] }
def zbV : List (Nat × List (List Nat)) := [(17, [[], [], [], [], [3], [3, 4], [3, 4], [3], [3], [3, 4, 5, 6, 7, 8], [3, 4, 5, 6, 7, 8, 9], [3, 4, 5, 6, 7, 8], [3, 4, 5, 6, 7, 8], [], [], [], []])]
def z5a : ACode := by
  refine val (x := codeL Tryz.prog Tryz.f193 z7z zbV 0 []) ?_ ?_
  rotate_left
  conv => lhs; reduce; try simp only [iP, iN, Int.cast_ofNat_Int, Int.natCast_zero, Int.natCast_one]
attribute [irreducible] z5a
def z5X : ACode := by
  refine val (x := codeC Tryz.prog Tryz.f193 z7z zbV [z5a]) ?_ ?_
  rotate_left
  conv => lhs; reduce; try simp only [iP, iN, Int.cast_ofNat_Int, Int.natCast_zero, Int.natCast_one]
def z84 : List ARes := []
def z4s : AFn := .code z5X z84 148 true
def z4G : Hints := { kill := [(0, [10, 11]), (1, [12, 13]), (2, [9, 15, 16, 34]), (3, [14, 17]), (4, [18, 19, 20, 21, 22, 23, 24, 25, 26, 27, 28, 29, 30, 31, 32, 33]), (5, [35, 36]), (6, [34, 37, 38, 39, 40, 41, 42, 43, 44, 45, 46, 47, 48, 49, 50, 51, 52])], exit := [(2, [0, 1, 2, 3, 8])] }
def z7C : List (Nat × List (List Nat)) := [(4, [[], [0], [], [], [], [4], [4, 5], [4], [4], [4, 5, 6, 7, 8], [4, 5, 6, 7, 8, 9], [4, 5, 6, 7, 8, 9], [4, 5, 6, 7, 8], [4, 5, 6, 7, 8], [], [], []]), (6, [[], [0], [0, 1], [0, 1, 2], [0, 1, 2], [0, 1, 2, 3, 4], [0, 1, 2, 3, 4, 5], [0, 1, 2, 3, 4, 5], [0, 1, 2, 3, 4], [0, 1, 2, 3, 4], [0, 1, 2, 3, 4, 5, 6, 7, 8, 9], [0, 1, 2, 3, 4, 5, 6, 7, 8, 9, 10], [0, 1, 2, 3, 4, 5, 6, 7, 8, 9], [0, 1, 2, 3, 4, 5, 6, 7, 8, 9], [2, 3, 4], [2, 3, 4], [], []])]
def z2s : ACode := by
  refine val (x := codeL Tryz.prog Tryz.f203 z4G z7C 0 []) ?_ ?_
  rotate_left
  conv => lhs; reduce; try simp only [iP, iN, Int.cast_ofNat_Int, Int.natCast_zero, Int.natCast_one]
attribute [irreducible] z2s
def z2t : ACode := by
  refine val (x := codeL Tryz.prog Tryz.f203 z4G z7C 1 [z2s]) ?_ ?_
  rotate_left
  conv => lhs; reduce; try simp only [iP, iN, Int.cast_ofNat_Int, Int.natCast_zero, Int.natCast_one]
attribute [irreducible] z2t
def z5W : ACode := by
  refine val (x := codeC Tryz.prog Tryz.f203 z4G z7C [z2s, z2t]) ?_ ?_
  rotate_left
  conv => lhs; reduce; try simp only [iP, iN, Int.cast_ofNat_Int, Int.natCast_zero, Int.natCast_one]
def z83 : List ARes := []
def z4r : AFn := .code z5W z83 53 true
def zaB : Hints := { kill := [(0, [4]), (1, [0, 6, 7, 8, 9, 10, 11, 12]), (2, [1, 2, 5, 13, 14, 15, 16, 17, 18, 19, 20])], ret := [4] }
def zg8 : List (Nat × List (List Nat)) := [(2, [[], [], [0, 1], [], [], [], [0, 1, 2, 3, 4, 5], [], []])]
def z8p : ACode := by
  refine val (x := codeC Tryz.prog Tryz.f121 zaB zg8 []) ?_ ?_
  rotate_left
  conv => lhs; reduce; try simp only [iP, iN, Int.cast_ofNat_Int, Int.natCast_zero, Int.natCast_one]
def zcf : List ARes := [.t 4]
def z3i : AFn := .code z8p zcf 21 true
def z7u : Hints := { kill := [(0, [4]), (1, [8, 9, 10]), (2, [11]), (3, [0, 1, 5, 12, 13]), (4, [12, 14, 15]), (5, [16, 17, 18]), (6, [7, 20, 21, 29]), (7, [19, 22, 23, 24, 25]), (8, [26, 27, 28]), (9, [7, 29, 30, 31, 32, 33]), (10, [34, 35]), (11, [1, 6, 19, 36, 37, 38]), (12, [0, 5, 39, 40, 41])], ghost := [(0, [2000000])], exit := [(0, [0, 5])], ret := [4] }
def z0D : ACode := by
  refine val (x := codeL Tryz.prog Tryz.f119 z7u [] 0 []) ?_ ?_
  rotate_left
  conv => lhs; reduce; try simp only [iP, iN, Int.cast_ofNat_Int, Int.natCast_zero, Int.natCast_one]
attribute [irreducible] z0D
def z2U : ACode := by
  refine val (x := codeC Tryz.prog Tryz.f119 z7u [] [z0D]) ?_ ?_
  rotate_left
  conv => lhs; reduce; try simp only [iP, iN, Int.cast_ofNat_Int, Int.natCast_zero, Int.natCast_one]
def z5w : List ARes := [.t 4]
def z4i : AFn := .code z2U z5w 42 false
def z7x : Hints := { kill := [(0, [4]), (1, [6]), (3, [9, 10]), (4, [11, 12, 13, 14, 15]), (5, [0, 1, 5, 7, 8, 16, 17]), (6, [5, 16, 18]), (7, [0, 1, 7, 8, 9])], ret := [4] }
def z58 : ACode := by
  refine val (x := codeL Tryz.prog Tryz.f163 z7x [] 0 []) ?_ ?_
  rotate_left
  conv => lhs; reduce; try simp only [iP, iN, Int.cast_ofNat_Int, Int.natCast_zero, Int.natCast_one]
attribute [irreducible] z58
def z5T : ACode := by
  refine val (x := codeC Tryz.prog Tryz.f163 z7x [] [z58]) ?_ ?_
  rotate_left
  conv => lhs; reduce; try simp only [iP, iN, Int.cast_ofNat_Int, Int.natCast_zero, Int.natCast_one]
def z7Z : List ARes := [.t 4]
def z4m : AFn := .code z5T z7Z 19 true
def zbt : Hints := { kill := [(0, [0, 6]), (1, [1, 10, 11, 12, 13, 14, 15, 16, 17]), (2, [18]), (3, [2, 7, 8, 9, 19, 20, 21, 22]), (4, [9, 19, 23, 24]), (5, [7, 25, 26]), (6, [2, 8, 27, 28])], ret := [4, 5, 6] }
def zgm : List (Nat × List (List Nat)) := [(6, [[], [0], [1], [], []])]
def z5Q : ACode := by
  refine val (x := codeC Tryz.prog Tryz.f50 zbt zgm []) ?_ ?_
  rotate_left
  conv => lhs; reduce; try simp only [iP, iN, Int.cast_ofNat_Int, Int.natCast_zero, Int.natCast_one]
def z7W : List ARes := [.c 4 true 8, .c 5 true 7, .t 6]
def z4a : AFn := .code z5Q z7W 29 true
def zaC : Hints := { kill := [(0, [0, 6]), (1, [12, 13]), (2, [14]), (3, [1, 2, 7, 15, 16, 17, 18]), (4, [7, 15, 19, 20, 21, 22, 23, 24]), (5, [9, 25]), (6, [1, 2, 8, 26, 27, 28]), (7, [1, 26, 29, 30, 31, 32, 33, 34, 35]), (8, [36]), (9, [2, 8, 10, 11, 37, 38, 39, 40]), (10, [2, 8, 10, 11, 37, 41, 42, 43, 44, 45, 46, 47, 48, 49, 50, 51, 52])], ret := [4, 5, 6] }
def zg9 : List (Nat × List (List Nat)) := [(10, [[], [], [0, 1], [], [0, 1, 2, 3], [], [0, 1, 2, 3, 4, 5], [0, 1, 2, 3, 4, 5], [0, 1, 2, 3, 4, 5, 6, 7], [0, 1, 2, 3, 4, 5], [0, 1, 2, 3, 4, 5], [0, 1, 2, 3, 4, 5], [6, 7, 8, 9, 10, 11], [], []])]
def z23 : ACode := by
  refine val (x := codeC Tryz.prog Tryz.f102 zaC zg9 []) ?_ ?_
  rotate_left
  conv => lhs; reduce; try simp only [iP, iN, Int.cast_ofNat_Int, Int.natCast_zero, Int.natCast_one]
def z2v : List ARes := [.c 4 true 2, .c 5 true 7, .t 6]
def z3j : AFn := .code z23 z2v 53 true
def zap : Hints := { kill := [(0, [4, 5]), (1, [8, 9]), (2, [10]), (3, [0, 1, 6, 11, 12]), (4, [1, 6, 11, 13, 14, 15]), (5, [16]), (6, [0, 7, 17]), (7, [0, 7, 17, 18, 19, 20])], ret := [4, 5] }
def z8e : ACode := by
  refine val (x := codeC Tryz.prog Tryz.f117 zap [] []) ?_ ?_
  rotate_left
  conv => lhs; reduce; try simp only [iP, iN, Int.cast_ofNat_Int, Int.natCast_zero, Int.natCast_one]
def zc4 : List ARes := [.t 4, .t 5]
def z68 : AFn := .code z8e zc4 21 true
def zat : Hints := { kill := [(0, [4]), (1, [7, 8, 9]), (2, [10, 11, 12, 13]), (3, [14, 15]), (4, [0, 1, 5, 6, 16, 17]), (5, [0, 5, 16, 18, 19, 20, 21, 22, 23, 24]), (6, [25, 26, 27, 28]), (7, [1, 29, 30, 31, 32]), (8, [1, 6, 29, 33])], ghost := [(5, [26])], obj := [(27, [true, false]), (32, [true, false])], ret := [4] }
def z2B : ACode := by
  refine val (x := codeC Tryz.prog Tryz.f160 zat [] []) ?_ ?_
  rotate_left
  conv => lhs; reduce; try simp only [iP, iN, Int.cast_ofNat_Int, Int.natCast_zero, Int.natCast_one]
def z5d : List ARes := [.t 4]
def z38 : AFn := .code z2B z5d 34 true
def z79 : Hints := { kill := [(0, [5, 6, 7]), (1, [8, 9, 10]), (2, [11, 12, 13, 14, 15, 16, 17, 18, 19, 20, 21, 22]), (3, [23, 24, 25]), (4, [23, 26, 27, 28, 29]), (5, [1, 30, 31, 32, 33, 34, 35, 36, 37, 38, 39, 40, 41, 42, 43, 44]), (6, [4, 45])] }
def zbI : List (Nat × List (List Nat)) := [(5, [[], [0], [0, 1], [0, 1, 2], [0, 1, 2, 3], [0, 1, 2, 3, 4], [0, 1, 2, 3], [0, 1, 2, 3], [0, 1, 2, 3, 4, 5, 6, 7], [0, 1, 2, 3, 4, 5, 6, 7, 8], [0, 1, 2, 3, 4, 5, 6, 7], [0, 1, 2, 3, 4, 5, 6, 7], [2, 3], [2, 3], [], []])]
def z4L : ACode := by
  refine val (x := codeL Tryz.prog Tryz.f192 z79 zbI 0 []) ?_ ?_
  rotate_left
  conv => lhs; reduce; try simp only [iP, iN, Int.cast_ofNat_Int, Int.natCast_zero, Int.natCast_one]
attribute [irreducible] z4L
def z8j : ACode := by
  refine val (x := codeC Tryz.prog Tryz.f192 z79 zbI [z4L]) ?_ ?_
  rotate_left
  conv => lhs; reduce; try simp only [iP, iN, Int.cast_ofNat_Int, Int.natCast_zero, Int.natCast_one]
def zc9 : List ARes := []
def z37 : AFn := .code z8j zc9 46 true
def zaG : Hints := { kill := [(0, [4]), (1, [0, 1, 5, 6, 7, 8, 9, 10])], obj := [(10, [true, false, false])], ret := [4] }
def z8s : ACode := by
  refine val (x := codeC Tryz.prog Tryz.f152 zaG [] []) ?_ ?_
  rotate_left
  conv => lhs; reduce; try simp only [iP, iN, Int.cast_ofNat_Int, Int.natCast_zero, Int.natCast_one]
def zci : List ARes := [.t 4]
def z3n : AFn := .code z8s zci 11 true
def z4j : AFn := .ext (delF 8)
def zbc : Hints := { kill := [(0, [0, 1, 8]), (1, [2, 3, 4, 5, 9, 10, 11, 12, 13, 14, 15, 16, 17, 18, 19, 20, 21, 22, 23])], ret := [8] }
def zgi : List (Nat × List (List Nat)) := [(1, [[], [0], [0], [0, 1, 2], [0], [0], [], [], [], [], [9], [9, 10], [9, 10, 11], [], [], []])]
def z5M : ACode := by
  refine val (x := codeC Tryz.prog Tryz.f13 zbc zgi []) ?_ ?_
  rotate_left
  conv => lhs; reduce; try simp only [iP, iN, Int.cast_ofNat_Int, Int.natCast_zero, Int.natCast_one]
def z7S : List ARes := [.t 8]
def z3V : AFn := .code z5M z7S 24 true
def zbk : Hints := { kill := [(0, [0, 1, 8]), (1, [4, 11, 12, 13, 14, 15, 16, 17, 18]), (2, [2, 3, 5, 9, 10, 19, 20, 21, 22, 23, 24, 25, 26, 27, 28, 29, 30, 31, 32, 33, 34, 35, 36, 37, 38, 39, 40, 41, 42, 43, 44, 45, 46, 47, 48])], ret := [8] }
def z5O : ACode := by
  refine val (x := codeC Tryz.prog Tryz.f49 zbk [] []) ?_ ?_
  rotate_left
  conv => lhs; reduce; try simp only [iP, iN, Int.cast_ofNat_Int, Int.natCast_zero, Int.natCast_one]
def z7U : List ARes := [.t 8]
def z43 : AFn := .code z5O z7U 49 true
def zay : Hints := { kill := [(0, [0, 5]), (1, [8, 9]), (2, [1, 2, 10, 11]), (3, [1, 10, 12, 13, 14, 15, 16, 17]), (4, [7, 18]), (5, [2, 6, 19, 20]), (6, [2, 6, 19, 21, 22, 23, 24, 25])], ret := [4, 5] }
def z2C : ACode := by
  refine val (x := codeC Tryz.prog Tryz.f101 zay [] []) ?_ ?_
  rotate_left
  conv => lhs; reduce; try simp only [iP, iN, Int.cast_ofNat_Int, Int.natCast_zero, Int.natCast_one]
def z5e : List ARes := [.c 4 true 8, .t 5]
def z3f : AFn := .code z2C z5e 26 true
def zbb : Hints := { kill := [(0, [0, 1, 9]), (1, [13, 14, 15, 16, 17, 18, 19]), (2, [20]), (3, [2, 3, 4, 5, 10, 21, 22, 23]), (4, [2, 3, 10, 21, 24, 25, 26, 27, 28]), (5, [4, 5, 29, 30]), (6, [5, 11, 29, 31, 32, 33, 34, 35, 36, 37, 38]), (7, [4, 12, 39, 40])], ret := [8, 9] }
def zgh : List (Nat × List (List Nat)) := [(1, [[], [0], [0], [0, 1, 2], [0], [0], [], []])]
def z2N : ACode := by
  refine val (x := codeC Tryz.prog Tryz.f14 zbb zgh []) ?_ ?_
  rotate_left
  conv => lhs; reduce; try simp only [iP, iN, Int.cast_ofNat_Int, Int.natCast_zero, Int.natCast_one]
def z5p : List ARes := [.c 8 true 8, .t 9]
def z3T : AFn := .code z2N z5p 41 true
def zbd : Hints := { kill := [(0, [0, 1, 11]), (1, [15, 16, 17, 18, 19, 20, 21, 22, 23]), (2, [24]), (3, [2, 3, 4, 5, 6, 12, 25, 26, 27]), (4, [2, 3, 12, 25, 28, 29, 30, 31, 32]), (5, [4, 5, 6, 33, 34]), (6, [6, 33, 35, 36, 37, 38, 39, 40, 41, 42]), (7, [43]), (8, [4, 5, 13, 14, 44, 45, 46]), (9, [4, 14, 44, 47, 48]), (10, [13, 49, 50, 51, 52, 53, 54, 55, 56, 57]), (11, [13, 49, 58, 59, 60, 61, 62, 63, 64, 65]), (12, [66]), (13, [5, 14, 67, 68, 69]), (14, [5, 14, 67, 70])], ret := [10, 11] }
def zgj : List (Nat × List (List Nat)) := [(1, [[], [0], [0], [0, 1, 2], [0], [0, 1, 2, 3, 4], [0], [0], [], []])]
def zo : ACode := by
  refine val (x := codeC Tryz.prog Tryz.f15 zbd zgj []) ?_ ?_
  rotate_left
  conv => lhs; reduce; try simp only [iP, iN, Int.cast_ofNat_Int, Int.natCast_zero, Int.natCast_one]
def zr : List ARes := [.c 10 true 8, .t 11]
def z3W : AFn := .code zo zr 71 true
def zb4 : Hints := { kill := [(0, [0, 1, 5]), (1, [7, 8, 9]), (2, [10]), (3, [2, 3, 6, 11, 12, 13]), (4, [6, 11, 14, 15]), (5, [16, 17, 18, 19, 20, 21, 22]), (6, [3, 23, 24, 25, 26, 27, 28]), (7, [29, 30, 31, 32]), (8, [2, 33])], ghost := [(6, [30])], ret := [4, 5] }
def z5L : ACode := by
  refine val (x := codeC Tryz.prog Tryz.f53 zb4 [] []) ?_ ?_
  rotate_left
  conv => lhs; reduce; try simp only [iP, iN, Int.cast_ofNat_Int, Int.natCast_zero, Int.natCast_one]
def z7R : List ARes := [.c 4 true 3, .t 5]
def z6p : AFn := .code z5L z7R 34 true
def zbg : Hints := { kill := [(0, [0, 2]), (1, [3, 4]), (2, [1, 5]), (3, [1, 5, 6, 7])], ret := [2] }
def z5N : ACode := by
  refine val (x := codeC Tryz.prog Tryz.f16 zbg [] []) ?_ ?_
  rotate_left
  conv => lhs; reduce; try simp only [iP, iN, Int.cast_ofNat_Int, Int.natCast_zero, Int.natCast_one]
def z7T : List ARes := [.t 2]
def z3Z : AFn := .code z5N z7T 8 true
end Go.Proofs.YtcjncbkhbllchaaGreat
