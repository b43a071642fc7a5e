/-
  Functions of the program, as the calculus has them.
-/
import Derived.Test.YtcjncbkhbllchaaGreatBccbe0a5
import Derived.Test.YtcjncbkhbllchaaGreatProg
set_option linter.unusedSimpArgs false
set_option linter.unusedVariables false
namespace Go.Proofs.YtcjncbkhbllchaaGreat
open Go Go.Sim
set_option maxRecDepth 100000
set_option maxHeartbeats 4000000
def z5j : Hints := { kill := [(0, [2]), (1, [0, 15, 16]), (2, [17, 18]), (4, [19, 20, 21, 22, 23, 24, 25, 26, 27]), (5, [7, 8, 9, 11, 29, 30, 111]), (6, [28, 31, 32, 33, 34, 35]), (7, [36, 37]), (9, [10]), (11, [38]), (12, [6, 11, 40, 41, 42, 43, 44, 45, 46, 47, 48, 49, 96]), (14, [51]), (15, [6, 39, 50, 52, 53, 54, 55, 56, 57, 58, 59, 60, 61, 62, 63, 64, 65, 66, 67]), (16, [50, 69]), (17, [6, 39, 68, 70, 71, 72, 73, 74, 75, 76, 77, 78, 79, 80, 81]), (18, [68, 83]), (19, [6, 39, 82, 84, 85, 86, 87, 88, 89, 90, 91, 92, 93, 94, 95]), (20, [39, 82, 97]), (21, [6, 96, 98, 99, 100, 101, 102, 103, 104, 105, 106, 107, 108, 109]), (22, [10, 110]), (23, [111, 112, 113]), (24, [114, 115, 116, 117, 118, 119, 120, 121, 122, 123, 124]), (25, [3, 4, 5, 7, 8, 9, 11, 12, 125]), (26, [125]), (28, [126, 127, 128]), (29, [130, 131, 159]), (30, [129, 132, 133, 134, 135, 136, 137, 138, 139, 140, 141, 142, 143, 144, 145]), (31, [146, 147, 148]), (32, [146, 149, 150, 151, 152, 153, 154, 155, 156, 157, 158]), (33, [3, 4, 5, 7, 8, 9, 11, 12, 13, 14, 159]), (34, [7, 8, 9, 11, 12, 13, 14, 129, 160]), (35, [3, 4, 5, 28, 161])], obj := [(18, [true]), (32, [true]), (35, [true, false]), (39, [true, false])], exit := [(1, [3, 4, 5]), (3, [3, 4, 5, 9])], ret := [2] }
def z8o : List (Nat × List (List Nat)) := [(6, [[], [], [0, 1], [0, 1, 2], [], [0, 1, 2, 3, 4], [0, 1, 2, 3, 4, 5], [], []]), (30, [[], [0], [0], [], [], [], [5], [], [], [5, 6, 7, 8], [5, 6, 7, 8, 9], [5, 6, 7, 8], [5, 6, 7, 8], [], []]), (32, [[], [], [], [], [3], [], [], [3, 4, 5, 6], [3, 4, 5, 6], [], []])]
def zx : ACode := by
  refine val (x := codeL Tryz.prog Tryz.f5 z5j z8o 0 []) ?_ ?_
  rotate_left
  conv => lhs; reduce; try simp only [iP, iN, Int.cast_ofNat_Int, Int.natCast_zero, Int.natCast_one]
attribute [irreducible] zx
def zb : ACode := by
  refine val (x := codeL Tryz.prog Tryz.f5 z5j z8o 1 [zx]) ?_ ?_
  rotate_left
  conv => lhs; reduce; try simp only [iP, iN, Int.cast_ofNat_Int, Int.natCast_zero, Int.natCast_one]
attribute [irreducible] zb
def z9f : ACode := by
  refine val (x := codeC Tryz.prog Tryz.f5 z5j z8o [zx, zb]) ?_ ?_
  rotate_left
  conv => lhs; reduce; try simp only [iP, iN, Int.cast_ofNat_Int, Int.natCast_zero, Int.natCast_one]
def zdo : List ARes := [.t 2]
def z3M : AFn := .code z9f zdo 162 true
def zbe : Hints := { kill := [(0, [2]), (1, [3, 4]), (2, [5, 6, 7]), (3, [0, 5, 8, 9, 10])], ret := [2] }
def z6e : ACode := by
  refine val (x := codeC Tryz.prog Tryz.f7 zbe [] []) ?_ ?_
  rotate_left
  conv => lhs; reduce; try simp only [iP, iN, Int.cast_ofNat_Int, Int.natCast_zero, Int.natCast_one]
def z8t : List ARes := [.t 2]
def z6G : AFn := .code z6e z8t 11 false
def zbp : Hints := { kill := [(1, [5, 6, 7, 8, 9]), (2, [0, 3, 4, 10, 11, 12, 13])], obj := [(7, [true]), (13, [true, false, false])], ret := [2] }
def z91 : ACode := by
  refine val (x := codeC Tryz.prog Tryz.f8 zbp [] []) ?_ ?_
  rotate_left
  conv => lhs; reduce; try simp only [iP, iN, Int.cast_ofNat_Int, Int.natCast_zero, Int.natCast_one]
def zda : List ARes := [.c 2 true 8]
def z6P : AFn := .code z91 zda 14 true
def zbq : Hints := { kill := [(0, [2, 3]), (1, [6, 7, 8]), (2, [0, 9, 10, 11]), (3, [4, 5, 12, 13, 14, 15, 16, 17])], obj := [(8, [true, false]), (11, [true, false])], ret := [2, 3] }
def z39 : ACode := by
  refine val (x := codeC Tryz.prog Tryz.f34 zbq [] []) ?_ ?_
  rotate_left
  conv => lhs; reduce; try simp only [iP, iN, Int.cast_ofNat_Int, Int.natCast_zero, Int.natCast_one]
def z5T : List ARes := [.t 2, .t 3]
def z3z : AFn := .code z39 z5T 18 true
def zbm : Hints := { kill := [(0, [4]), (1, [0, 1, 5, 6, 7, 8, 9, 10, 11])], obj := [(9, [true, false])], ret := [4] }
def z6i : ACode := by
  refine val (x := codeC Tryz.prog Tryz.f17 zbm [] []) ?_ ?_
  rotate_left
  conv => lhs; reduce; try simp only [iP, iN, Int.cast_ofNat_Int, Int.natCast_zero, Int.natCast_one]
def z8x : List ARes := [.t 4]
def z6M : AFn := .code z6i z8x 12 true
def zbl : Hints := { kill := [(0, [4]), (1, [6]), (2, [0, 1, 7]), (3, [0, 7, 8, 9, 10, 11]), (4, [12]), (5, [1, 13, 14, 15, 16]), (6, [1, 5, 13, 17])], obj := [(9, [true])], ret := [4] }
def z6h : ACode := by
  refine val (x := codeC Tryz.prog Tryz.f10 zbl [] []) ?_ ?_
  rotate_left
  conv => lhs; reduce; try simp only [iP, iN, Int.cast_ofNat_Int, Int.natCast_zero, Int.natCast_one]
def z8w : List ARes := [.t 4]
def z6L : AFn := .code z6h z8w 18 true
def zbo : Hints := { kill := [(0, [2]), (1, [3, 4, 5, 6, 7, 8, 9, 10, 11]), (2, [0, 12]), (3, [12, 13, 14, 15, 16, 17, 18, 19]), (4, [0, 20, 21, 22, 23, 24, 25, 26, 27, 28, 29, 30])], ret := [2] }
def zhy : List (Nat × List (List Nat)) := [(1, [[], [], [], [], [0, 1, 2, 3], [0, 1, 2, 3], [0, 1, 2, 3], [0, 1, 2, 3], [0, 1, 2, 3], []]), (4, [[], [], [], [], [0, 1, 2, 3], [0, 1, 2, 3], [0, 1, 2, 3], [0, 1, 2, 3], [0, 1, 2, 3], [], [], []])]
def z6j : ACode := by
  refine val (x := codeC Tryz.prog Tryz.f36 zbo zhy []) ?_ ?_
  rotate_left
  conv => lhs; reduce; try simp only [iP, iN, Int.cast_ofNat_Int, Int.natCast_zero, Int.natCast_one]
def z8y : List ARes := [.t 2]
def z6O : AFn := .code z6j z8y 31 true
def zbf : Hints := { kill := [(1, [0, 1, 2, 7, 8, 9, 10])], obj := [(10, [true, false, false, false])], ret := [6] }
def z8X : ACode := by
  refine val (x := codeC Tryz.prog Tryz.f35 zbf [] []) ?_ ?_
  rotate_left
  conv => lhs; reduce; try simp only [iP, iN, Int.cast_ofNat_Int, Int.natCast_zero, Int.natCast_one]
def zd6 : List ARes := [.c 6 true 8]
def z3v : AFn := .code z8X zd6 11 true
def zbg : Hints := { kill := [(1, [0, 1, 2, 3, 9, 10, 11, 12, 13, 14, 15])], obj := [(11, [true, false, false]), (15, [true, false, false, false, false])], ret := [8] }
def z8Y : ACode := by
  refine val (x := codeC Tryz.prog Tryz.f87 zbg [] []) ?_ ?_
  rotate_left
  conv => lhs; reduce; try simp only [iP, iN, Int.cast_ofNat_Int, Int.natCast_zero, Int.natCast_one]
def zd7 : List ARes := [.c 8 true 8]
def z3w : AFn := .code z8Y zd7 16 true
def zbn : Hints := { kill := [(0, [6]), (1, [0, 1, 2, 7, 8, 9, 10, 11, 12, 13, 14])], obj := [(13, [true, false])], ret := [6] }
def z90 : ACode := by
  refine val (x := codeC Tryz.prog Tryz.f9 zbn [] []) ?_ ?_
  rotate_left
  conv => lhs; reduce; try simp only [iP, iN, Int.cast_ofNat_Int, Int.natCast_zero, Int.natCast_one]
def zd9 : List ARes := [.t 6]
def z6N : AFn := .code z90 zd9 15 true
def zbh : Hints := { kill := [(1, [14, 15]), (2, [0, 1, 2, 3, 4, 12, 16, 17, 18, 19, 20, 21]), (3, [11, 22]), (4, [1, 16, 23, 24, 25, 26, 27, 28, 29, 30, 31]), (5, [0, 2, 3, 4, 32, 33, 34, 35, 36, 37, 38, 39, 40, 41, 42, 43, 44, 45, 46, 47]), (6, [13, 48])], obj := [(15, [true, false]), (30, [true, false, false, false, false, false]), (46, [true, false, false, false, false])], ret := [10] }
def z2x : ACode := by
  refine val (x := codeC Tryz.prog Tryz.f146 zbh [] []) ?_ ?_
  rotate_left
  conv => lhs; reduce; try simp only [iP, iN, Int.cast_ofNat_Int, Int.natCast_zero, Int.natCast_one]
def z33 : List ARes := [.c 10 true 8]
def z3x : AFn := .code z2x z33 49 true
def zc9 : Hints := { kill := [(0, [3]), (1, [0, 6, 7, 8, 9, 10]), (2, [11]), (3, [4, 5, 12, 13, 14]), (4, [4, 5, 12, 15, 16])], ret := [2, 3] }
def z9E : ACode := by
  refine val (x := codeC Tryz.prog Tryz.f177 zc9 [] []) ?_ ?_
  rotate_left
  conv => lhs; reduce; try simp only [iP, iN, Int.cast_ofNat_Int, Int.natCast_zero, Int.natCast_one]
def zdM : List ARes := [.c 2 true 8, .t 3]
def z4m : AFn := .code z9E zdM 17 true
def zc0 : Hints := { kill := [(0, [3]), (1, [4, 5, 6, 7, 8]), (2, [0, 9, 10]), (3, [0, 9, 11, 12, 13])], ret := [2, 3] }
def z9t : ACode := by
  refine val (x := codeC Tryz.prog Tryz.f200 zc0 [] []) ?_ ?_
  rotate_left
  conv => lhs; reduce; try simp only [iP, iN, Int.cast_ofNat_Int, Int.natCast_zero, Int.natCast_one]
def zdB : List ARes := [.c 2 true 3, .t 3]
def z49 : AFn := .code z9t zdB 14 true
def z7S : Hints := { kill := [(1, [1, 14, 16, 17, 18, 19, 20]), (2, [21, 22, 23, 24, 25, 26]), (3, [2, 27, 28, 29, 30, 31, 32, 33, 34]), (4, [35]), (5, [37, 38]), (6, [36, 39, 40]), (7, [41, 42, 43, 44, 45, 46, 47, 48, 49, 50, 51]), (8, [41, 52, 53, 54, 55, 56, 57, 58, 59, 60, 61]), (9, [62, 63]), (10, [0, 3, 4, 5, 13, 15, 36, 64])], obj := [(25, [true, false]), (34, [true, false]), (40, [true, false]), (48, [true, false, false, false]), (58, [true, false, false, false])], exit := [(0, [12, 13])], ret := [12] }
def zcR : List (Nat × List (List Nat)) := [(7, [[], [0], [0, 1], [0, 1, 2], [0, 1, 2, 3], [0], [], [], [], [8], [9]]), (8, [[], [0], [0, 1], [0, 1, 2], [0, 1, 2, 3], [0], [], [], [], [8], [9]])]
def z2P : ACode := by
  refine val (x := codeL Tryz.prog Tryz.f178 z7S zcR 0 []) ?_ ?_
  rotate_left
  conv => lhs; reduce; try simp only [iP, iN, Int.cast_ofNat_Int, Int.natCast_zero, Int.natCast_one]
attribute [irreducible] z2P
def z6k : ACode := by
  refine val (x := codeC Tryz.prog Tryz.f178 z7S zcR [z2P]) ?_ ?_
  rotate_left
  conv => lhs; reduce; try simp only [iP, iN, Int.cast_ofNat_Int, Int.natCast_zero, Int.natCast_one]
def z8z : List ARes := [.c 12 true 3]
def z3y : AFn := .code z6k z8z 65 true
def zbj : Hints := { kill := [(1, [1, 2, 3, 10, 11, 12, 13, 14, 15, 16, 17, 18, 19, 20, 21, 22, 23, 24]), (2, [25, 26, 27, 28, 29, 30]), (3, [0, 31, 32]), (4, [33, 34]), (5, [9, 33, 35])], obj := [(17, [true, false]), (19, [true, false]), (21, [true, false]), (23, [true]), (28, [true, false]), (32, [true, false])], ret := [8] }
def zhw : List (Nat × List (List Nat)) := [(2, [[], [], [0, 1], [0, 1], [], [], []])]
def z6g : ACode := by
  refine val (x := codeC Tryz.prog Tryz.f33 zbj zhw []) ?_ ?_
  rotate_left
  conv => lhs; reduce; try simp only [iP, iN, Int.cast_ofNat_Int, Int.natCast_zero, Int.natCast_one]
def z8v : List ARes := [.c 8 true 7]
def z6J : AFn := .code z6g z8v 36 true
def zbW : Hints := { kill := [(0, [2]), (1, [6, 7, 8, 9, 10]), (2, [0, 11]), (3, [0, 4, 11, 12, 13, 14, 15, 16]), (4, [3, 17, 18]), (5, [5, 19, 20, 21, 22, 23])], ret := [2] }
def z3i : ACode := by
  refine val (x := codeC Tryz.prog Tryz.f86 zbW [] []) ?_ ?_
  rotate_left
  conv => lhs; reduce; try simp only [iP, iN, Int.cast_ofNat_Int, Int.natCast_zero, Int.natCast_one]
def z62 : List ARes := [.t 2]
def z73 : AFn := .code z3i z62 24 true
def z80 : Hints := { kill := [(0, [6, 7]), (1, [10, 11, 12, 13, 14, 15, 16, 17, 18, 19, 20, 21, 22, 23, 24, 25, 26]), (2, [0, 1, 2, 27]), (3, [0, 27, 28, 29]), (4, [2, 30, 31]), (5, [32]), (6, [34, 35]), (7, [33, 36, 37, 38, 39, 40, 41, 42, 43, 44]), (8, [1, 8, 9, 33, 45])], exit := [(0, [8])], ret := [6, 7] }
def z5w : ACode := by
  refine val (x := codeL Tryz.prog Tryz.f144 z80 [] 0 []) ?_ ?_
  rotate_left
  conv => lhs; reduce; try simp only [iP, iN, Int.cast_ofNat_Int, Int.natCast_zero, Int.natCast_one]
attribute [irreducible] z5w
def z9q : ACode := by
  refine val (x := codeC Tryz.prog Tryz.f144 z80 [] [z5w]) ?_ ?_
  rotate_left
  conv => lhs; reduce; try simp only [iP, iN, Int.cast_ofNat_Int, Int.natCast_zero, Int.natCast_one]
def zdy : List ARes := [.t 6, .t 7]
def z44 : AFn := .code z9q zdy 46 true
def z81 : Hints := { kill := [(0, [2]), (3, [5, 6, 7]), (4, [9, 10]), (5, [8, 11, 12, 13, 14, 15, 16, 17, 18, 19]), (6, [0, 3, 4, 8, 20])], exit := [(0, [3])], ret := [2] }
def z5x : ACode := by
  refine val (x := codeL Tryz.prog Tryz.f145 z81 [] 0 []) ?_ ?_
  rotate_left
  conv => lhs; reduce; try simp only [iP, iN, Int.cast_ofNat_Int, Int.natCast_zero, Int.natCast_one]
attribute [irreducible] z5x
def z9r : ACode := by
  refine val (x := codeC Tryz.prog Tryz.f145 z81 [] [z5x]) ?_ ?_
  rotate_left
  conv => lhs; reduce; try simp only [iP, iN, Int.cast_ofNat_Int, Int.natCast_zero, Int.natCast_one]
def zdz : List ARes := [.t 2]
def z45 : AFn := .code z9r zdz 21 true
def zbV : Hints := { kill := [(0, [6]), (1, [7, 8, 9, 10, 11, 12, 13, 14, 15, 16, 17, 18, 19, 20, 21, 22, 23, 24]), (2, [0, 1, 2, 25]), (3, [25, 26, 27, 28, 29, 30, 31, 32]), (4, [0, 1, 2, 33, 34]), (5, [0, 1, 2, 33, 35, 36, 37, 38, 39, 40, 41, 42])], ret := [6] }
def z3h : ACode := by
  refine val (x := codeC Tryz.prog Tryz.f85 zbV [] []) ?_ ?_
  rotate_left
  conv => lhs; reduce; try simp only [iP, iN, Int.cast_ofNat_Int, Int.natCast_zero, Int.natCast_one]
def z61 : List ARes := [.t 6]
def z72 : AFn := .code z3h z61 43 true
def z7R : Hints := { kill := [(0, [2]), (1, [5, 6, 7]), (3, [8, 9, 10]), (4, [12, 13]), (5, [11, 14, 15, 16, 17, 18, 19, 20]), (6, [0, 3, 4, 11, 21, 22])], ghost := [(6, [15])], obj := [(6, [true, false]), (17, [true, false])], exit := [(0, [3])], ret := [2] }
def z5o : ACode := by
  refine val (x := codeL Tryz.prog Tryz.f84 z7R [] 0 []) ?_ ?_
  rotate_left
  conv => lhs; reduce; try simp only [iP, iN, Int.cast_ofNat_Int, Int.natCast_zero, Int.natCast_one]
attribute [irreducible] z5o
def z6f : ACode := by
  refine val (x := codeC Tryz.prog Tryz.f84 z7R [] [z5o]) ?_ ?_
  rotate_left
  conv => lhs; reduce; try simp only [iP, iN, Int.cast_ofNat_Int, Int.natCast_zero, Int.natCast_one]
def z8u : List ARes := [.t 2]
def z6H : AFn := .code z6f z8u 23 true
def zc1 : Hints := { kill := [(0, [0, 1, 5]), (1, [7, 8, 9]), (2, [10]), (3, [2, 3, 6, 11, 12, 13]), (4, [2, 3, 6, 11, 14, 15, 16, 17, 18, 19, 20, 21, 22])], obj := [(22, [false, false, false, true])], ret := [4, 5] }
def zhF : List (Nat × List (List Nat)) := [(4, [[], [0], [0], [0, 1, 2], [0, 1, 2], [0, 1, 2, 3, 4], [0, 1, 2, 3, 4], [0, 1, 2], [], [], []])]
def z9u : ACode := by
  refine val (x := codeC Tryz.prog Tryz.f133 zc1 zhF []) ?_ ?_
  rotate_left
  conv => lhs; reduce; try simp only [iP, iN, Int.cast_ofNat_Int, Int.natCast_zero, Int.natCast_one]
def zdC : List ARes := [.c 4 true 3, .t 5]
def z4a : AFn := .code z9u zdC 23 true
def zc3 : Hints := { kill := [(0, [0, 1, 4]), (1, [7, 8]), (2, [9]), (3, [2, 3, 5, 10, 11]), (4, [5, 10, 12, 13]), (5, [14]), (6, [2, 3, 6, 15, 16]), (7, [6, 15, 17, 18, 19, 20, 21]), (8, [2, 3, 22]), (9, [2, 3, 22, 23, 24, 25, 26, 27]), (10, [28]), (11, [28])], ret := [4] }
def zhH : List (Nat × List (List Nat)) := [(9, [[], [], [0, 1], [0, 1], [], []])]
def z0K : ACode := by
  refine val (x := codeC Tryz.prog Tryz.f170 zc3 zhH []) ?_ ?_
  rotate_left
  conv => lhs; reduce; try simp only [iP, iN, Int.cast_ofNat_Int, Int.natCast_zero, Int.natCast_one]
def z0Z : List ARes := [.t 4]
def z4e : AFn := .code z0K z0Z 29 true
def z5z : ACode :=
 (.seq (.seq (.ops [] [oM 42 4, oM 43 3, oP 44 (.bin .lss (.t 42) (.t 43))] [42, 43])
 (.cond (.t 44) .skip (.exit 0 [1])))
 (.seq (.block 1 (.seq (.draw [] [oP 47 (.fad false 0 1 (.t 1)), oP 48 (.ld false 1 (.t 47)), oP 49 (.fad false 1 1 (.t 1)), oP 50 (.ld false 1 (.t 49)), oM 51 4, oP 52 (.bin .add (.t 50) (.t 51)), oM 53 3, oP 54 (.bin .rem (.t 52) (.t 53)), oP 55 (.iad 7 (.t 48) (.t 54)), oP 56 (.ld true 7 (.t 55)), oP 57 (.build [aI 0, aI 0, aI 0, aI 0, aI 0, aI 0, .d (.str [])] []), oP 58 (.eqs true 7 [(0, 0), (1, 0), (2, 0), (3, 0), (4, 0), (5, 0), (6, 2)] (.t 56) (.t 57))] [[], [], [0, 1], [0, 1], [0, 1, 2, 3], [0, 1], [0, 1, 2, 3, 4, 5], [0, 1], [], [], [0, 1, 2, 3, 4, 5, 6, 7, 8, 9], []] [44, 47, 48, 49, 50, 51, 52, 53, 54, 55, 56, 57])
 (.cond (.t 58) (.seq (.ops [] [oP 2 (.mv (kI 7))] [1, 3, 4, 58])
 (.ret [2])) .skip)))
 (.ops [] [oM 45 4, oP 46 (.bin .add (.t 45) (kI 1)), oM 4 46] [45, 46, 58])))
def z5A : ACode :=
 (.seq (.seq (.ops [] [oM 61 6, oM 62 5, oP 63 (.len (.t 62)), oP 64 (.bin .lss (.t 61) (.t 63))] [61, 62, 63])
 (.cond (.t 64) .skip (.exit 2 [5])))
 (.seq (.block 3 (.seq (.ops [] [oM 67 5, oM 68 6, oP 69 (.iad 7 (.t 67) (.t 68)), oP 70 (.ld true 7 (.t 69)), oP 71 (.call z0r [] [.t 70]), oM 7 71] [64, 67, 68, 69, 70, 71])
 (.seq (.ops [] [oM 72 7, oP 73 (.bin .neq (.t 72) (kI 0))] [72])
 (.cond (.t 73) (.seq (.ops [] [oM 74 7, oM 2 74] [5, 6, 7, 73, 74])
 (.ret [2])) .skip))))
 (.ops [] [oM 65 6, oP 66 (.bin .add (.t 65) (kI 1)), oM 6 66] [7, 65, 66, 73])))
def z5B : ACode :=
 (.seq (.seq (.ops [] [oM 75 8, oM 76 5, oP 77 (.len (.t 76)), oP 78 (.bin .lss (.t 75) (.t 77))] [75, 76, 77])
 (.cond (.t 78) .skip (.exit 4 [])))
 (.seq (.block 5 (.seq (.ops [] [oM 81 5, oM 82 5, oM 83 8, oP 84 (.iad 7 (.t 82) (.t 83)), oP 85 (.fad false 0 1 (.t 84)), oP 86 (.ld false 1 (.t 85)), oP 87 (.call z0q [] [.t 81, .t 86]), oM 88 8, oP 89 (.bin .neq (.t 87) (.t 88))] [78, 81, 82, 83, 84, 85, 86, 87, 88])
 (.cond (.t 89) (.seq (.ops [] [oP 2 (.mv (kI 10))] [5, 8, 89])
 (.ret [2])) .skip)))
 (.ops [] [oM 79 8, oP 80 (.bin .add (.t 79) (kI 1)), oM 8 80] [79, 80, 89])))
def z0b : ACode :=
 (.seq (.ops [] [oP 1 (.box (.t 0)), oP 2 (.mv (kI 0))] [0, 2])
 (.seq (.ops [] [oP 9 (.fad false 0 1 (.t 1)), oP 10 (.ld false 1 (.t 9)), oP 11 (.len (.t 10)), oM 3 11] [9, 10, 11])
 (.seq (.seq (.ops [] [oM 12 3, oP 13 (.bin .lss (.t 12) (kI 1)), oM 14 13, oQ 15 (.mv (.t 3)) 14 false, oQ 16 (.bin .gtr (.t 15) (kI 12)) 14 false, oP 17 (.pick (.t 14) (.c (.d (.bool true))) (.t 16)), oM 18 17, oQ 19 (.fad false 1 1 (.t 1)) 18 false, oQ 20 (.ld false 1 (.t 19)) 18 false, oQ 21 (.bin .lss (.t 20) (kI 0)) 18 false, oP 22 (.pick (.t 18) (.c (.d (.bool true))) (.t 21)), oM 23 22, oQ 24 (.fad false 1 1 (.t 1)) 23 false, oQ 25 (.ld false 1 (.t 24)) 23 false, oQ 26 (.mv (.t 3)) 23 false, oQ 27 (.bin .geq (.t 25) (.t 26)) 23 false, oP 28 (.pick (.t 23) (.c (.d (.bool true))) (.t 27)), oM 29 28, oQ 30 (.fad false 2 1 (.t 1)) 29 false, oQ 31 (.ld false 1 (.t 30)) 29 false, oQ 32 (.bin .lss (.t 31) (kI 0)) 29 false, oP 33 (.pick (.t 29) (.c (.d (.bool true))) (.t 32)), oM 34 33, oQ 35 (.fad false 2 1 (.t 1)) 34 false, oQ 36 (.ld false 1 (.t 35)) 34 false, oQ 37 (.mv (.t 3)) 34 false, oQ 38 (.bin .gtr (.t 36) (.t 37)) 34 false, oP 39 (.pick (.t 34) (.c (.d (.bool true))) (.t 38))] [12, 13, 14, 15, 16, 17, 18, 19, 20, 21, 22, 23, 24, 25, 26, 27, 28, 29, 30, 31, 32, 33, 34, 35, 36, 37, 38])
 (.cond (.t 39) (.seq (.ops [] [oP 2 (.mv (kI 1))] [1, 3, 39])
 (.ret [2])) .skip))
 (.seq (.seq (.ops [] [oP 40 (.fad false 2 1 (.t 1)), oP 41 (.ld false 1 (.t 40)), oM 4 41] [39, 40, 41])
 (.block 0 (.loop [] z5z)))
 (.seq (.ops [] [oP 59 (.ld true 3 (.t 1)), oP 60 (.call z0u [] [.t 59]), oM 5 60] [1, 3, 4, 44, 59, 60])
 (.seq (.seq (.ops [] [oP 6 (.mv (kI 0))] [])
 (.block 2 (.loop [] z5A)))
 (.seq (.seq (.ops [] [oP 8 (.mv (kI 0))] [6, 64])
 (.block 4 (.loop [] z5B)))
 (.seq (.ops [] [oP 2 (.mv (kI 0))] [5, 8, 78])
 (.ret [2])))))))))
def z0Y : List ARes := [.t 2]
def z4c : AFn := .code z0b z0Y 90 true
def z83 : Hints := { kill := [(0, [0, 2]), (3, [5, 6, 7]), (4, [9, 10]), (5, [8, 11, 12, 13, 14, 15, 16, 17, 18, 19, 20, 21, 22, 23, 24, 25]), (6, [1, 3, 4, 8, 26])], acc := [3], exit := [(0, [3])], ret := [2] }
def zcW : List (Nat × List (List Nat)) := [(5, [[], [0], [0], [0, 1, 2], [0, 1, 2], [0, 1, 2, 3, 4], [0, 1, 2], [0, 1, 2, 3, 4, 5, 6], [0, 1, 2, 3, 4, 5, 6], [0, 1, 2, 3, 4, 5, 6], [0, 1, 2], [0], [0], [0], [], []])]
def z2R : ACode := by
  refine val (x := codeL Tryz.prog Tryz.f122 z83 zcW 0 []) ?_ ?_
  rotate_left
  conv => lhs; reduce; try simp only [iP, iN, Int.cast_ofNat_Int, Int.natCast_zero, Int.natCast_one]
attribute [irreducible] z2R
def z9v : ACode := by
  refine val (x := codeC Tryz.prog Tryz.f122 z83 zcW [z2R]) ?_ ?_
  rotate_left
  conv => lhs; reduce; try simp only [iP, iN, Int.cast_ofNat_Int, Int.natCast_zero, Int.natCast_one]
def zdD : List ARes := [.t 2]
def z4d : AFn := .code z9v zdD 27 false
def zbX : Hints := { kill := [(0, [0, 2]), (1, [3, 4, 5, 6, 7, 8, 9, 10, 11, 12, 13, 14, 15, 16, 17, 18, 19, 20, 21, 22, 23, 24, 25, 26, 27, 28, 29, 30, 31, 32, 33, 34, 35, 36, 37]), (2, [1, 38]), (3, [1, 38, 39, 40, 41]), (4, [42]), (5, [42])], ret := [2] }
def z3j : ACode := by
  refine val (x := codeC Tryz.prog Tryz.f123 zbX [] []) ?_ ?_
  rotate_left
  conv => lhs; reduce; try simp only [iP, iN, Int.cast_ofNat_Int, Int.natCast_zero, Int.natCast_one]
def z63 : List ARes := [.t 2]
def z74 : AFn := .code z3j z63 43 true
def zbY : Hints := { kill := [(0, [6]), (1, [0, 1, 2, 7, 8, 9, 10, 11, 12, 13, 14])], ret := [6] }
def z3k : ACode := by
  refine val (x := codeC Tryz.prog Tryz.f166 zbY [] []) ?_ ?_
  rotate_left
  conv => lhs; reduce; try simp only [iP, iN, Int.cast_ofNat_Int, Int.natCast_zero, Int.natCast_one]
def z64 : List ARes := [.t 6]
def z47 : AFn := .code z3k z64 15 true
def z82 : Hints := { kill := [(0, [4]), (2, [6, 7, 8]), (3, [10, 11, 18]), (4, [9, 12, 13, 14, 15, 16, 17]), (5, [0, 1, 5, 18, 19]), (6, [0, 1, 5, 9])], ret := [4] }
def z5y : ACode := by
  refine val (x := codeL Tryz.prog Tryz.f20 z82 [] 0 []) ?_ ?_
  rotate_left
  conv => lhs; reduce; try simp only [iP, iN, Int.cast_ofNat_Int, Int.natCast_zero, Int.natCast_one]
attribute [irreducible] z5y
def z6p : ACode := by
  refine val (x := codeC Tryz.prog Tryz.f20 z82 [] [z5y]) ?_ ?_
  rotate_left
  conv => lhs; reduce; try simp only [iP, iN, Int.cast_ofNat_Int, Int.natCast_zero, Int.natCast_one]
def z8E : List ARes := [.t 4]
def z46 : AFn := .code z6p z8E 20 true
def z84 : Hints := { kill := [(0, [0]), (1, [3, 9, 10, 11, 12, 13, 14, 15, 16]), (3, [17, 18, 19]), (4, [21, 22]), (5, [20, 23, 24, 25, 26, 27, 28, 29, 30, 31, 32, 33, 34, 35, 36]), (6, [1, 2, 7, 8, 20, 37])], exit := [(0, [6, 7])], ret := [6] }
def zcX : List (Nat × List (List Nat)) := [(5, [[], [], [0, 1], [0, 1, 2], [0, 1], [0, 1, 2, 3, 4], [0, 1, 2, 3, 4], [0, 1, 2, 3, 4], [0, 1], [0, 1, 2, 3, 4, 5, 6, 7, 8], [0, 1, 2, 3, 4, 5, 6, 7, 8, 9], [0, 1, 2, 3, 4, 5, 6, 7, 8], [0, 1, 2, 3, 4, 5, 6, 7, 8], [], []])]
def z2S : ACode := by
  refine val (x := codeL Tryz.prog Tryz.f171 z84 zcX 0 []) ?_ ?_
  rotate_left
  conv => lhs; reduce; try simp only [iP, iN, Int.cast_ofNat_Int, Int.natCast_zero, Int.natCast_one]
attribute [irreducible] z2S
def z9w : ACode := by
  refine val (x := codeC Tryz.prog Tryz.f171 z84 zcX [z2S]) ?_ ?_
  rotate_left
  conv => lhs; reduce; try simp only [iP, iN, Int.cast_ofNat_Int, Int.natCast_zero, Int.natCast_one]
def zdE : List ARes := [.c 6 true 3]
def z4f : AFn := .code z9w zdE 38 true
def zc2 : Hints := { kill := [(0, [0, 1, 5]), (1, [8, 9, 10]), (2, [11]), (3, [2, 3, 6, 12, 13, 14]), (4, [6, 12, 15, 16, 17]), (5, [2, 3, 7, 18, 19, 20, 21, 22, 23, 24, 25, 26, 27, 28, 29, 30, 31])], obj := [(31, [false, false, false, true])], ret := [4, 5] }
def zhG : List (Nat × List (List Nat)) := [(5, [[], [0], [0], [0, 1, 2], [0], [0], [0, 1, 2, 3, 4, 5], [0], [0, 1, 2, 3, 4, 5, 6, 7], [0, 1, 2, 3, 4, 5, 6, 7], [0, 1, 2, 3, 4, 5, 6, 7, 8, 9], [0, 1, 2, 3, 4, 5, 6, 7, 8, 9], [0, 1, 2, 3, 4, 5, 6, 7], [], [], []])]
def z6q : ACode := by
  refine val (x := codeC Tryz.prog Tryz.f142 zc2 zhG []) ?_ ?_
  rotate_left
  conv => lhs; reduce; try simp only [iP, iN, Int.cast_ofNat_Int, Int.natCast_zero, Int.natCast_one]
def z8F : List ARes := [.c 4 true 3, .t 5]
def z4b : AFn := .code z6q z8F 32 true
def z7T : Hints := { kill := [(2, [1, 14, 15, 16, 17]), (3, [18]), (4, [20, 21]), (5, [19, 22, 23, 24, 25, 26]), (6, [27, 28, 29, 30]), (7, [13, 31, 32, 33, 34, 35, 36, 37, 38]), (8, [39, 40, 41, 42]), (9, [0, 2, 3, 4, 11, 12, 19, 43])], obj := [(17, [true, false]), (26, [true, false, false, false]), (35, [true, false]), (41, [true, false, false])], exit := [(0, [10, 11])], ret := [10] }
def zcS : List (Nat × List (List Nat)) := [(7, [[], [0], [0, 1], [0, 1], [], [], [], [6], [7]])]
def z0T : ACode := by
  refine val (x := codeL Tryz.prog Tryz.f179 z7T zcS 0 []) ?_ ?_
  rotate_left
  conv => lhs; reduce; try simp only [iP, iN, Int.cast_ofNat_Int, Int.natCast_zero, Int.natCast_one]
attribute [irreducible] z0T
def z6l : ACode := by
  refine val (x := codeC Tryz.prog Tryz.f179 z7T zcS [z0T]) ?_ ?_
  rotate_left
  conv => lhs; reduce; try simp only [iP, iN, Int.cast_ofNat_Int, Int.natCast_zero, Int.natCast_one]
def z8A : List ARes := [.c 10 true 2]
def z3A : AFn := .code z6l z8A 44 true
def z87 : Hints := { kill := [(0, [0, 1, 7]), (1, [14, 15]), (2, [16]), (3, [2, 3, 4, 8, 17, 18, 19]), (4, [8, 17, 20, 21]), (5, [22]), (6, [2, 3, 4, 9, 23, 24, 25]), (7, [9, 23, 27, 28, 29]), (8, [2, 3, 4, 26, 30]), (9, [26, 32, 33, 34, 35, 36, 37]), (10, [2, 3, 4, 31, 38]), (11, [31, 40, 41, 42, 43]), (12, [2, 3, 4, 39, 44]), (13, [39, 46, 47, 48, 49, 50]), (14, [2, 3, 4, 45, 51]), (15, [45]), (16, [52, 53, 54, 55, 56, 57, 58, 59, 60, 61, 62, 63, 64, 65, 66, 67]), (17, [68, 69, 70]), (18, [12, 68, 71, 72, 73, 74, 75, 76, 77, 78, 79, 80]), (19, [2, 4, 81, 82, 83, 84, 85, 86, 87, 88, 89, 90]), (20, [3, 10, 11, 13, 91, 92, 93, 94, 95, 96, 97, 98])], exit := [(1, [2, 3, 4, 6, 10])], ret := [6, 7] }
def zcZ : List (Nat × List (List Nat)) := [(16, [[], [0], [0], [0], [], [], [], [], [6, 7], [], [], [], [], [6, 7, 8, 9, 10, 11, 12], [6, 7, 8, 9, 10, 11, 12], [], []]), (19, [[], [], [0, 1], [], [], [0, 1, 2, 3, 4], [0, 1, 2, 3, 4, 5], [0, 1, 2, 3, 4], [0, 1, 2, 3, 4], [], []])]
def z5H : ACode := by
  refine val (x := codeL Tryz.prog Tryz.f139 z87 zcZ 0 []) ?_ ?_
  rotate_left
  conv => lhs; reduce; try simp only [iP, iN, Int.cast_ofNat_Int, Int.natCast_zero, Int.natCast_one]
attribute [irreducible] z5H
def zr : ACode := by
  refine val (x := codeC Tryz.prog Tryz.f139 z87 zcZ [z5H]) ?_ ?_
  rotate_left
  conv => lhs; reduce; try simp only [iP, iN, Int.cast_ofNat_Int, Int.natCast_zero, Int.natCast_one]
def zA : List ARes := [.c 6 true 2, .t 7]
def z4l : AFn := .code zr zA 99 true
def z5l : Hints := { kill := [(0, [0, 2]), (1, [9, 10, 11]), (2, [1, 12]), (3, [12]), (4, [13, 14, 15, 16]), (5, [18, 19, 45]), (6, [17, 20, 21, 22, 23, 24]), (7, [25, 26, 27]), (8, [28]), (9, [1, 3, 4, 5, 29, 30]), (10, [5, 29, 32, 33, 34, 35]), (11, [1, 3, 4, 31]), (12, [31, 37, 38, 39, 40, 41, 42, 43, 44]), (13, [1, 3, 4, 36]), (14, [4, 36, 46, 47, 48, 49, 50, 51, 52, 53, 54, 55, 56, 57, 58, 59, 60, 61]), (15, [1, 3, 45]), (16, [3, 17, 62, 63, 64]), (17, [65]), (18, [1, 6, 66, 67]), (19, [6, 66, 68, 69, 70, 71, 72, 73]), (20, [1, 74]), (21, [74]), (22, [75, 76, 77, 78]), (23, [80, 81, 106]), (24, [79, 82, 83, 84, 85, 86, 87, 88, 89]), (25, [8, 90, 91, 92, 93, 94, 95, 96, 97, 98, 99, 100, 101, 102, 103, 104, 105]), (26, [1, 7, 106]), (27, [1, 7, 79])], exit := [(0, [1])], ret := [2] }
def z8q : List (Nat × List (List Nat)) := [(14, [[], [], [], [], [], [], [3, 4, 5], [3, 4, 5], [3, 4, 5, 6, 7], [3, 4, 5, 6, 7], [3, 4, 5], [3, 4, 5], [3, 4, 5], [3, 4, 5], [], [], []]), (24, [[], [0], [0], [0, 1, 2], [0], [0], [0], [], []]), (25, [[], [], [], [], [], [3, 4], [], [], [], [3, 4, 5, 6, 7, 8], [3, 4, 5, 6, 7, 8], [3, 4, 5, 6, 7, 8, 9, 10], [3, 4, 5, 6, 7, 8], [3, 4, 5, 6, 7, 8], [3, 4, 5, 6, 7, 8], [], []])]
def z5I : ACode := by
  refine val (x := codeL Tryz.prog Tryz.f69 z5l z8q 0 []) ?_ ?_
  rotate_left
  conv => lhs; reduce; try simp only [iP, iN, Int.cast_ofNat_Int, Int.natCast_zero, Int.natCast_one]
attribute [irreducible] z5I
def z2T : ACode := by
  refine val (x := codeL Tryz.prog Tryz.f69 z5l z8q 1 []) ?_ ?_
  rotate_left
  conv => lhs; reduce; try simp only [iP, iN, Int.cast_ofNat_Int, Int.natCast_zero, Int.natCast_one]
attribute [irreducible] z2T
def z0c : ACode := by
  refine val (x := codeC Tryz.prog Tryz.f69 z5l z8q [z5I, z2T]) ?_ ?_
  rotate_left
  conv => lhs; reduce; try simp only [iP, iN, Int.cast_ofNat_Int, Int.natCast_zero, Int.natCast_one]
def z0j : List ARes := [.t 2]
def z77 : AFn := .code z0c z0j 107 true
def z2O : Hints := { kill := [(0, [2]), (1, [6, 7]), (2, [0, 8]), (3, [8]), (4, [9, 10, 11]), (5, [13, 14, 20]), (6, [12, 15, 16, 17, 18, 19]), (7, [0, 3, 20]), (8, [3, 12]), (9, [21, 22, 23]), (10, [25, 26, 35]), (11, [24, 27, 28, 29, 30, 31, 32, 33, 34]), (12, [0, 4, 35]), (13, [4, 24]), (14, [36, 37, 38]), (15, [40, 41, 52]), (16, [39, 42, 43, 44, 45, 46, 47, 48, 49, 50, 51]), (17, [0, 5, 52]), (18, [0, 5, 39])], exit := [(0, [0]), (2, [0])], ret := [2] }
def z5S : List (Nat × List (List Nat)) := [(16, [[], [0], [], [], [0, 1, 2, 3], [0, 1, 2, 3, 4], [0, 1, 2, 3, 4], [0, 1, 2, 3, 4], [0, 1, 2, 3], [0, 1, 2, 3], []])]
def z5C : ACode := by
  refine val (x := codeL Tryz.prog Tryz.f124 z2O z5S 0 []) ?_ ?_
  rotate_left
  conv => lhs; reduce; try simp only [iP, iN, Int.cast_ofNat_Int, Int.natCast_zero, Int.natCast_one]
attribute [irreducible] z5C
def z5D : ACode := by
  refine val (x := codeL Tryz.prog Tryz.f124 z2O z5S 1 []) ?_ ?_
  rotate_left
  conv => lhs; reduce; try simp only [iP, iN, Int.cast_ofNat_Int, Int.natCast_zero, Int.natCast_one]
attribute [irreducible] z5D
def z5E : ACode := by
  refine val (x := codeL Tryz.prog Tryz.f124 z2O z5S 2 []) ?_ ?_
  rotate_left
  conv => lhs; reduce; try simp only [iP, iN, Int.cast_ofNat_Int, Int.natCast_zero, Int.natCast_one]
attribute [irreducible] z5E
def z9x : ACode := by
  refine val (x := codeC Tryz.prog Tryz.f124 z2O z5S [z5C, z5D, z5E]) ?_ ?_
  rotate_left
  conv => lhs; reduce; try simp only [iP, iN, Int.cast_ofNat_Int, Int.natCast_zero, Int.natCast_one]
def zdF : List ARes := [.t 2]
def z76 : AFn := .code z9x zdF 53 true
def zc6 : Hints := { kill := [(0, [0, 2]), (1, [1, 3, 4, 5, 6, 7, 8, 9, 10, 11, 12, 13, 14, 15, 16, 17, 18, 19, 20])], ret := [2] }
def z9A : ACode := by
  refine val (x := codeC Tryz.prog Tryz.f167 zc6 [] []) ?_ ?_
  rotate_left
  conv => lhs; reduce; try simp only [iP, iN, Int.cast_ofNat_Int, Int.natCast_zero, Int.natCast_one]
def zdI : List ARes := [.t 2]
def z4i : AFn := .code z9A zdI 21 true
def z85 : Hints := { kill := [(0, [4]), (2, [6, 7, 8]), (3, [10, 11, 18]), (4, [9, 12, 13, 14, 15, 16, 17]), (5, [0, 1, 5, 18, 19]), (6, [0, 1, 5, 9])], ret := [4] }
def z5F : ACode := by
  refine val (x := codeL Tryz.prog Tryz.f168 z85 [] 0 []) ?_ ?_
  rotate_left
  conv => lhs; reduce; try simp only [iP, iN, Int.cast_ofNat_Int, Int.natCast_zero, Int.natCast_one]
attribute [irreducible] z5F
def z9z : ACode := by
  refine val (x := codeC Tryz.prog Tryz.f168 z85 [] [z5F]) ?_ ?_
  rotate_left
  conv => lhs; reduce; try simp only [iP, iN, Int.cast_ofNat_Int, Int.natCast_zero, Int.natCast_one]
def zdH : List ARes := [.t 4]
def z4h : AFn := .code z9z zdH 20 true
def zc5 : Hints := { kill := [(0, [0, 1, 4]), (1, [2, 3, 5, 6, 7, 8, 9, 10, 11, 12, 13, 14, 15, 16, 17, 18, 19, 20, 21, 22, 23])], ret := [4] }
def z9y : ACode := by
  refine val (x := codeC Tryz.prog Tryz.f169 zc5 [] []) ?_ ?_
  rotate_left
  conv => lhs; reduce; try simp only [iP, iN, Int.cast_ofNat_Int, Int.natCast_zero, Int.natCast_one]
def zdG : List ARes := [.t 4]
def z4g : AFn := .code z9y zdG 24 true
def z88 : Hints := { kill := [(0, [0, 4]), (2, [6, 7, 8, 9]), (3, [11, 12, 21]), (4, [10, 13, 14, 15, 16, 17, 18, 19, 20]), (5, [1, 2, 5, 21, 22]), (6, [1, 2, 5, 10])], ret := [4] }
def z5J : ACode := by
  refine val (x := codeL Tryz.prog Tryz.f125 z88 [] 0 []) ?_ ?_
  rotate_left
  conv => lhs; reduce; try simp only [iP, iN, Int.cast_ofNat_Int, Int.natCast_zero, Int.natCast_one]
attribute [irreducible] z5J
def z6r : ACode := by
  refine val (x := codeC Tryz.prog Tryz.f125 z88 [] [z5J]) ?_ ?_
  rotate_left
  conv => lhs; reduce; try simp only [iP, iN, Int.cast_ofNat_Int, Int.natCast_zero, Int.natCast_one]
def z8G : List ARes := [.t 4]
def z78 : AFn := .code z6r z8G 23 true
def zc4 : Hints := { kill := [(0, [1, 4, 5]), (1, [7, 8]), (2, [9]), (3, [0, 3, 6, 10, 11]), (4, [6, 10, 13, 14, 15]), (5, [0, 3, 12]), (6, [12, 17, 18, 19]), (7, [0, 3, 16]), (8, [16, 21, 22, 23, 24, 25]), (9, [0, 3, 20]), (10, [0, 3, 20, 26, 27, 28, 29, 30, 31, 32, 33])], obj := [(33, [false, false, true])], ret := [4, 5] }
def zhI : List (Nat × List (List Nat)) := [(10, [[], [], [0, 1], [0, 1], [], [0, 1, 2, 3, 4], [0, 1, 2, 3, 4], [], [], []])]
def z0L : ACode := by
  refine val (x := codeC Tryz.prog Tryz.f175 zc4 zhI []) ?_ ?_
  rotate_left
  conv => lhs; reduce; try simp only [iP, iN, Int.cast_ofNat_Int, Int.natCast_zero, Int.natCast_one]
def z10 : List ARes := [.t 4, .t 5]
def z75 : AFn := .code z0L z10 34 true
def z86 : Hints := { kill := [(0, [4]), (1, [5, 6, 7, 8, 9, 10, 11, 12, 13, 14, 15, 16, 17, 18]), (2, [19, 20, 21, 22, 23, 24, 25]), (3, [26, 27, 28]), (4, [0, 1, 19, 29])], exit := [(0, [0])], ret := [4] }
def zcY : List (Nat × List (List Nat)) := [(1, [[], [], [], [], [3], [], [], [3, 4, 5, 6], [3, 4, 5, 6, 7], [3, 4, 5, 6, 7], [3, 4, 5, 6, 7], [3, 4, 5, 6], [3, 4, 5, 6], [], []])]
def z5G : ACode := by
  refine val (x := codeL Tryz.prog Tryz.f198 z86 zcY 0 []) ?_ ?_
  rotate_left
  conv => lhs; reduce; try simp only [iP, iN, Int.cast_ofNat_Int, Int.natCast_zero, Int.natCast_one]
attribute [irreducible] z5G
def z9C : ACode := by
  refine val (x := codeC Tryz.prog Tryz.f198 z86 zcY [z5G]) ?_ ?_
  rotate_left
  conv => lhs; reduce; try simp only [iP, iN, Int.cast_ofNat_Int, Int.natCast_zero, Int.natCast_one]
def zdK : List ARes := [.t 4]
def z4k : AFn := .code z9C zdK 30 true
def zc7 : Hints := { kill := [(0, [6]), (1, [8, 9]), (2, [0, 1, 2, 10, 11, 12, 13, 14, 15, 16, 17, 18, 19, 20, 21, 22, 23]), (3, [7, 24])], ghost := [(2, [18])], ret := [6] }
def zhJ : List (Nat × List (List Nat)) := [(2, [[], [0], [0, 1], [0, 1, 2], [0, 1, 2, 3], [0, 1, 2, 3, 4], [0, 1, 2, 3], [0, 1, 2, 3], [0, 1, 2, 3, 4, 5, 6, 7], [0, 1, 2, 3, 4, 5, 6, 7, 8], [0, 1, 2, 3, 4, 5, 6, 7], [0, 1, 2, 3, 4, 5, 6, 7], [2, 3], [2, 3], [], []])]
def z9B : ACode := by
  refine val (x := codeC Tryz.prog Tryz.f213 zc7 zhJ []) ?_ ?_
  rotate_left
  conv => lhs; reduce; try simp only [iP, iN, Int.cast_ofNat_Int, Int.natCast_zero, Int.natCast_one]
def zdJ : List ARes := [.t 6]
def z4j : AFn := .code z9B zdJ 25 true
def zbk : Hints := { kill := [(0, [2]), (1, [0, 3, 4, 5, 6, 7, 8, 9, 10, 11, 12])], ret := [2] }
def zhx : List (Nat × List (List Nat)) := [(1, [[], [], [], [], [0, 1, 2, 3], [0, 1, 2, 3], [0, 1, 2, 3], [0, 1, 2, 3], [0, 1, 2, 3], [], []])]
def z8Z : ACode := by
  refine val (x := codeC Tryz.prog Tryz.f24 zbk zhx []) ?_ ?_
  rotate_left
  conv => lhs; reduce; try simp only [iP, iN, Int.cast_ofNat_Int, Int.natCast_zero, Int.natCast_one]
def zd8 : List ARes := [.t 2]
def z6K : AFn := .code z8Z zd8 13 true
def zbD : Hints := { kill := [(1, [4, 5, 6, 7, 8, 9, 10, 11, 12, 13, 14, 15, 16, 17, 18, 19, 20, 21, 22]), (2, [23]), (3, [26]), (4, [0, 24, 25, 27, 28, 29, 30]), (5, [25, 32]), (6, [0, 24, 31, 33, 34, 35, 36]), (7, [31, 38]), (8, [0, 24, 37, 39, 40, 41, 42]), (9, [37, 44]), (10, [0, 24, 43, 45, 46, 47, 48]), (11, [43, 50]), (12, [0, 24, 49, 51, 52, 53, 54]), (13, [24, 49, 56]), (14, [0, 55, 57, 58, 59, 60]), (15, [0, 3, 55, 61])], obj := [(5, [true, false, false]), (7, [true, false]), (10, [true, false]), (12, [true, false]), (14, [true, false, false]), (16, [true, false, false]), (19, [true, false]), (21, [true, false]), (24, [true, false]), (29, [true, false]), (35, [true, false]), (41, [true, false]), (47, [true, false]), (53, [true, false]), (59, [true, false])], ret := [2] }
def z9h : ACode := by
  refine val (x := codeC Tryz.prog Tryz.f25 zbD [] []) ?_ ?_
  rotate_left
  conv => lhs; reduce; try simp only [iP, iN, Int.cast_ofNat_Int, Int.natCast_zero, Int.natCast_one]
def zdq : List ARes := [.c 2 true 8]
def z6W : AFn := .code z9h zdq 62 true
def zbi : Hints := { kill := [(0, [1]), (1, [8, 9, 10, 11, 12, 13, 14, 15, 16]), (2, [17, 18, 19, 20]), (3, [21, 22, 23, 24, 25, 26]), (4, [3, 6, 27, 28, 29, 30, 31, 32, 33, 34, 35, 36]), (5, [7, 37, 38, 39, 40, 41, 42, 43, 44, 45]), (6, [0, 46]), (7, [49]), (8, [47, 48, 50, 51, 52, 53]), (9, [47, 48, 55]), (10, [54, 56, 57, 58, 59, 60]), (11, [0, 3, 5, 6, 27, 54, 61])], obj := [(9, [true, false, false]), (11, [true, false, false]), (13, [true, false]), (15, [true, false]), (25, [true, false]), (33, [true, false]), (47, [true, false])], ret := [4] }
def zhv : List (Nat × List (List Nat)) := [(4, [[], [], [], [0, 1, 2], [0, 1, 2, 3], [0, 1, 2], [], [], [], [0, 1, 2, 3, 4, 5, 6, 7, 8], []])]
def z0H : ACode := by
  refine val (x := codeC Tryz.prog Tryz.f26 zbi zhv []) ?_ ?_
  rotate_left
  conv => lhs; reduce; try simp only [iP, iN, Int.cast_ofNat_Int, Int.natCast_zero, Int.natCast_one]
def z0V : List ARes := [.c 4 true 4]
def z6I : AFn := .code z0H z0V 62 true
def z5k : Hints := { kill := [(0, [0, 2]), (2, [1, 7, 8]), (4, [9, 10, 11]), (5, [13, 14]), (6, [12, 15, 16]), (7, [17, 18, 19, 20, 21, 22, 23, 24, 25, 26, 27, 28, 29, 30]), (8, [31, 32, 33]), (9, [6, 31, 34, 35, 36, 37, 38, 39, 40, 41, 42, 43, 44, 45, 46, 47, 48]), (10, [3, 4, 5, 12, 49])], ghost := [(9, [4000037, 1000074])], exit := [(0, [3]), (2, [3, 4, 5, 6])], ret := [2] }
def z8p : List (Nat × List (List Nat)) := [(7, [[], [], [], [], [3], [3], [], [], [3, 4, 5, 6, 7], [3, 4, 5, 6, 7, 8], [3, 4, 5, 6, 7], [3, 4, 5, 6, 7], [3, 4, 5, 6, 7], [], []]), (9, [[], [0], [], [], [0, 1, 2, 3], [0, 1, 2, 3, 4], [0, 1, 2, 3], [0, 1, 2, 3], [0, 1, 2, 3], [0, 1, 2, 3], [], [0, 1, 2, 3, 4, 5, 6, 7, 8, 9, 10], [0, 1, 2, 3, 4, 5, 6, 7, 8, 9, 10, 11], [0, 1, 2, 3, 4, 5, 6, 7, 8, 9, 10], [], []])]
def zy : ACode := by
  refine val (x := codeL Tryz.prog Tryz.f23 z5k z8p 0 []) ?_ ?_
  rotate_left
  conv => lhs; reduce; try simp only [iP, iN, Int.cast_ofNat_Int, Int.natCast_zero, Int.natCast_one]
attribute [irreducible] zy
def zf : ACode := by
  refine val (x := codeL Tryz.prog Tryz.f23 z5k z8p 1 [zy]) ?_ ?_
  rotate_left
  conv => lhs; reduce; try simp only [iP, iN, Int.cast_ofNat_Int, Int.natCast_zero, Int.natCast_one]
attribute [irreducible] zf
def z6n : ACode := by
  refine val (x := codeC Tryz.prog Tryz.f23 z5k z8p [zy, zf]) ?_ ?_
  rotate_left
  conv => lhs; reduce; try simp only [iP, iN, Int.cast_ofNat_Int, Int.natCast_zero, Int.natCast_one]
def z8C : List ARes := [.t 2]
def z6V : AFn := .code z6n z8C 50 true
def zc8 : Hints := { kill := [(0, [0, 2]), (1, [1, 3, 4, 5, 6, 7, 8])], ret := [2] }
def zhK : List (Nat × List (List Nat)) := [(1, [[], [], [], [0, 1, 2], [], [], []])]
def z9D : ACode := by
  refine val (x := codeC Tryz.prog Tryz.f19 zc8 zhK []) ?_ ?_
  rotate_left
  conv => lhs; reduce; try simp only [iP, iN, Int.cast_ofNat_Int, Int.natCast_zero, Int.natCast_one]
def zdL : List ARes := [.t 2]
def z79 : AFn := .code z9D zdL 9 true
def zca : Hints := { kill := [(0, [0, 2]), (1, [1, 3, 4, 5])], ret := [2] }
def z9G : ACode := by
  refine val (x := codeC Tryz.prog Tryz.f58 zca [] []) ?_ ?_
  rotate_left
  conv => lhs; reduce; try simp only [iP, iN, Int.cast_ofNat_Int, Int.natCast_zero, Int.natCast_one]
def zdO : List ARes := [.t 2]
def z4o : AFn := .code z9G zdO 6 true
def zbZ : Hints := { kill := [(0, [0, 2]), (1, [3, 4]), (2, [1, 5]), (3, [1, 5, 6, 7])], ret := [2] }
def z9s : ACode := by
  refine val (x := codeC Tryz.prog Tryz.f112 zbZ [] []) ?_ ?_
  rotate_left
  conv => lhs; reduce; try simp only [iP, iN, Int.cast_ofNat_Int, Int.natCast_zero, Int.natCast_one]
def zdA : List ARes := [.t 2]
def z48 : AFn := .code z9s zdA 8 true
def z89 : Hints := { kill := [(0, [0, 2]), (3, [5, 6, 7, 8, 9]), (4, [11, 12]), (5, [10, 13, 14, 15, 16, 17, 18, 19, 20, 21, 22]), (6, [1, 3, 4, 10, 23])], acc := [3], exit := [(0, [3])], ret := [2] }
def z2U : ACode := by
  refine val (x := codeL Tryz.prog Tryz.f59 z89 [] 0 []) ?_ ?_
  rotate_left
  conv => lhs; reduce; try simp only [iP, iN, Int.cast_ofNat_Int, Int.natCast_zero, Int.natCast_one]
attribute [irreducible] z2U
def z9F : ACode := by
  refine val (x := codeC Tryz.prog Tryz.f59 z89 [] [z2U]) ?_ ?_
  rotate_left
  conv => lhs; reduce; try simp only [iP, iN, Int.cast_ofNat_Int, Int.natCast_zero, Int.natCast_one]
def zdN : List ARes := [.t 2]
def z4n : AFn := .code z9F zdN 24 true
def z8d : Hints := { kill := [(0, [0, 13, 14]), (1, [21, 22, 23, 24, 25, 26, 27, 28, 29, 30, 31, 32, 33]), (2, [34]), (3, [1, 2, 3, 4, 5, 6, 15, 35, 36, 37]), (4, [15, 35, 38, 39, 40]), (5, [1, 2, 3, 4, 5, 6, 41, 42]), (6, [41, 43, 44]), (8, [45, 46]), (10, [50, 51, 52]), (11, [53, 54, 55, 56, 57, 58, 59, 60, 61, 62]), (12, [18, 63, 64, 65, 66, 67, 68, 69, 70, 71]), (13, [72]), (14, [1, 2, 3, 4, 5, 6, 16, 19, 20, 47, 48, 49, 73, 74, 75]), (15, [19, 20, 73, 76, 77, 78, 79]), (16, [18, 63, 80]), (17, [1, 2, 3, 4, 5, 6, 16, 47, 48, 49, 50, 81, 82])], obj := [(69, [true, false, false])], acc := [16], exit := [(0, [6, 12, 16]), (1, [1, 2, 3, 4, 5, 6, 12, 16, 47, 48, 49])], ret := [12, 13, 14] }
def zd3 : List (Nat × List (List Nat)) := [(1, [[], [0], [0], [0, 1, 2], [0], [0, 1, 2, 3, 4], [0], [0, 1, 2, 3, 4, 5, 6], [0], [0, 1, 2, 3, 4, 5, 6, 7, 8], [0], [0], [], []])]
def zJ : ACode := by
  refine val (x := codeL Tryz.prog Tryz.f11 z8d zd3 0 []) ?_ ?_
  rotate_left
  conv => lhs; reduce; try simp only [iP, iN, Int.cast_ofNat_Int, Int.natCast_zero, Int.natCast_one]
attribute [irreducible] zJ
def z2A : ACode := by
  refine val (x := codeC Tryz.prog Tryz.f11 z8d zd3 [zJ]) ?_ ?_
  rotate_left
  conv => lhs; reduce; try simp only [iP, iN, Int.cast_ofNat_Int, Int.natCast_zero, Int.natCast_one]
def z36 : List ARes := [.c 12 true 8, .t 13, .t 14]
def z4E : AFn := .code z2A z36 83 true
def zcx : Hints := { kill := [(0, [2]), (1, [0, 3, 4])], ret := [2] }
def z9T : ACode := by
  refine val (x := codeC Tryz.prog Tryz.f38 zcx [] []) ?_ ?_
  rotate_left
  conv => lhs; reduce; try simp only [iP, iN, Int.cast_ofNat_Int, Int.natCast_zero, Int.natCast_one]
def ze1 : List ARes := [.t 2]
def z4I : AFn := .code z9T ze1 5 true
def zcw : Hints := { kill := [(0, [6]), (1, [0, 1, 2, 7, 8, 9, 10, 11, 12, 13, 14])], ret := [6] }
def z3o : ACode := by
  refine val (x := codeC Tryz.prog Tryz.f42 zcw [] []) ?_ ?_
  rotate_left
  conv => lhs; reduce; try simp only [iP, iN, Int.cast_ofNat_Int, Int.natCast_zero, Int.natCast_one]
def z68 : List ARes := [.t 6]
def z7j : AFn := .code z3o z68 15 true
def zcy : Hints := { kill := [(0, [2]), (1, [0, 3, 4])], ret := [2] }
def z9U : ACode := by
  refine val (x := codeC Tryz.prog Tryz.f39 zcy [] []) ?_ ?_
  rotate_left
  conv => lhs; reduce; try simp only [iP, iN, Int.cast_ofNat_Int, Int.natCast_zero, Int.natCast_one]
def ze2 : List ARes := [.t 2]
def z4J : AFn := .code z9U ze2 5 true
def zcz : Hints := { kill := [(0, [2]), (1, [0, 3, 4])], ret := [2] }
def z9V : ACode := by
  refine val (x := codeC Tryz.prog Tryz.f40 zcz [] []) ?_ ?_
  rotate_left
  conv => lhs; reduce; try simp only [iP, iN, Int.cast_ofNat_Int, Int.natCast_zero, Int.natCast_one]
def ze3 : List ARes := [.t 2]
def z4K : AFn := .code z9V ze3 5 true
def zcA : Hints := { kill := [(0, [2]), (1, [0, 3, 4])], ret := [2] }
def z9W : ACode := by
  refine val (x := codeC Tryz.prog Tryz.f41 zcA [] []) ?_ ?_
  rotate_left
  conv => lhs; reduce; try simp only [iP, iN, Int.cast_ofNat_Int, Int.natCast_zero, Int.natCast_one]
def ze4 : List ARes := [.t 2]
def z4L : AFn := .code z9W ze4 5 true
def zcI : Hints := { kill := [(0, [0, 4]), (1, [2, 6, 7]), (2, [8]), (3, [1, 5, 9, 10]), (4, [1, 5, 9, 11]), (5, [12]), (6, [12])], ret := [4] }
def z3q : ACode := by
  refine val (x := codeC Tryz.prog Tryz.f37 zcI [] []) ?_ ?_
  rotate_left
  conv => lhs; reduce; try simp only [iP, iN, Int.cast_ofNat_Int, Int.natCast_zero, Int.natCast_one]
def z6a : List ARes := [.t 4]
def z7p : AFn := .code z3q z6a 13 true
def zcB : Hints := { kill := [(0, [0, 2]), (1, [4, 5]), (2, [6]), (3, [1, 3, 7, 8]), (4, [1, 3, 7, 9, 10]), (5, [11]), (6, [11])], ret := [2] }
def z3p : ACode := by
  refine val (x := codeC Tryz.prog Tryz.f56 zcB [] []) ?_ ?_
  rotate_left
  conv => lhs; reduce; try simp only [iP, iN, Int.cast_ofNat_Int, Int.natCast_zero, Int.natCast_one]
def z69 : List ARes := [.t 2]
def z7k : AFn := .code z3p z69 12 true
def z8e : Hints := { kill := [(0, [0, 2]), (1, [9, 10, 11]), (2, [12]), (3, [1, 3, 13, 14]), (4, [3, 13, 15, 16, 17]), (5, [18]), (6, [1, 4, 19, 20]), (7, [4, 19, 21, 22]), (8, [1, 23, 24, 25, 26, 27, 28, 29, 30, 31, 32, 33, 34, 35]), (9, [36]), (10, [36]), (11, [23, 38, 39, 40, 41, 42, 43]), (12, [1, 37]), (13, [37, 45, 46, 47, 48, 49, 50, 51]), (14, [1, 44]), (15, [44, 52]), (17, [53]), (19, [57, 58, 59]), (20, [60, 61, 62, 63, 64, 65, 66]), (21, [1, 5, 6, 8, 54, 55, 56, 67]), (22, [67, 68, 69, 70, 71, 72, 73, 74]), (23, [8, 75, 76, 77]), (24, [78]), (25, [1, 5, 6, 54, 55, 56, 57]), (26, [79]), (27, [79])], exit := [(1, [6])], ret := [2] }
def zd4 : List (Nat × List (List Nat)) := [(13, [[], [], [0, 1], [0, 1], [0, 1], [0, 1], [], []])]
def z2Z : ACode := by
  refine val (x := codeL Tryz.prog Tryz.f54 z8e zd4 0 []) ?_ ?_
  rotate_left
  conv => lhs; reduce; try simp only [iP, iN, Int.cast_ofNat_Int, Int.natCast_zero, Int.natCast_one]
attribute [irreducible] z2Z
def zj : ACode := by
  refine val (x := codeC Tryz.prog Tryz.f54 z8e zd4 [z2Z]) ?_ ?_
  rotate_left
  conv => lhs; reduce; try simp only [iP, iN, Int.cast_ofNat_Int, Int.natCast_zero, Int.natCast_one]
def zn : List ARes := [.t 2]
def z7h : AFn := .code zj zn 80 true
def z5K : ACode :=
 (.seq (.seq (.ops [] [oM 43 4, oM 44 3, oP 45 (.bin .lss (.t 43) (.t 44))] [43, 44])
 (.cond (.t 45) .skip (.exit 0 [1])))
 (.seq (.block 1 (.seq (.draw [] [oP 48 (.fad false 0 1 (.t 1)), oP 49 (.ld false 1 (.t 48)), oP 50 (.ld true 3 (.t 1)), oM 51 4, oP 52 (.call z0v [] [.t 50, .t 51]), oP 53 (.iad 7 (.t 49) (.t 52)), oP 54 (.ld true 7 (.t 53)), oP 55 (.build [aI 0, aI 0, aI 0, aI 0, aI 0, aI 0, .d (.str [])] []), oP 56 (.eqs true 7 [(0, 0), (1, 0), (2, 0), (3, 0), (4, 0), (5, 0), (6, 2)] (.t 54) (.t 55))] [[], [], [0, 1], [0, 1, 2], [0, 1], [], [], [0, 1, 2, 3, 4, 5, 6], []] [45, 48, 49, 50, 51, 52, 53, 54, 55])
 (.cond (.t 56) (.seq (.ops [] [oP 2 (.mv (kI 7))] [1, 3, 4, 56])
 (.ret [2])) .skip)))
 (.ops [] [oM 46 4, oP 47 (.bin .add (.t 46) (kI 1)), oM 4 47] [46, 47, 56])))
def z5L : ACode :=
 (.seq (.ops [] [oP 62 (.bin .lss (.t 61) (.t 60))] [])
 (.seq (.cond (.t 62) .skip (.exit 2 [6]))
 (.seq (.block 3 (.seq (.ops [] [oP 63 (.iad 7 (.t 59) (.t 61)), oP 64 (.ld true 7 (.t 63)), oP 8 (.alloc (.d (.agg [.int .i64 0, .int .i64 0, .int .i64 0, .int .i64 0, .int .i64 0, .int .i64 0, .str []]))), oN (.st 7 (.t 8) (.t 64))] [62, 63, 64])
 (.seq (.seq (.ops [] [oP 65 (.ld true 7 (.t 8)), oP 66 (.call zE [] [.t 65]), oM 9 66] [65, 66])
 (.seq (.ops [] [oM 67 9, oP 68 (.bin .neq (.t 67) (kI 0))] [67])
 (.cond (.t 68) (.seq (.ops [] [oM 69 9, oM 2 69] [5, 6, 8, 9, 59, 60, 61, 68, 69])
 (.ret [2])) .skip)))
 (.seq (.ops [] [oM 70 6, oM 71 70, oQ 72 (.mv (.t 5)) 71 false, oQ 73 (.fad false 0 1 (.t 8)) 71 false, oQ 74 (.ld false 1 (.t 73)) 71 false, oQ 75 (.lkp false (.bool false) (.t 72) (.t 74)) 71 false, oP 76 (.pick (.t 71) (.c (.d (.bool true))) (.t 75)), oM 6 76] [9, 68, 70, 71, 72, 73, 74, 75, 76])
 (.ops [] [oM 77 5, oP 78 (.fad false 0 1 (.t 8)), oP 79 (.ld false 1 (.t 78)), oN (.mup (.t 77) (.t 79) (.c (.d (.bool true))))] [8, 77, 78, 79])))))
 (.ops [] [oP 80 (.bin .add (.t 61) (kI 1)), oM 61 80] [80]))))
def z0d : ACode :=
 (.seq (.ops [] [oP 1 (.box (.t 0)), oP 2 (.mv (kI 0))] [0, 2])
 (.seq (.ops [] [oP 10 (.fad false 0 1 (.t 1)), oP 11 (.ld false 1 (.t 10)), oP 12 (.len (.t 11)), oM 3 12] [10, 11, 12])
 (.seq (.seq (.ops [] [oM 13 3, oP 14 (.bin .lss (.t 13) (kI 1)), oM 15 14, oQ 16 (.mv (.t 3)) 15 false, oQ 17 (.bin .gtr (.t 16) (kI 12)) 15 false, oP 18 (.pick (.t 15) (.c (.d (.bool true))) (.t 17)), oM 19 18, oQ 20 (.fad false 1 1 (.t 1)) 19 false, oQ 21 (.ld false 1 (.t 20)) 19 false, oQ 22 (.bin .lss (.t 21) (kI 0)) 19 false, oP 23 (.pick (.t 19) (.c (.d (.bool true))) (.t 22)), oM 24 23, oQ 25 (.fad false 1 1 (.t 1)) 24 false, oQ 26 (.ld false 1 (.t 25)) 24 false, oQ 27 (.mv (.t 3)) 24 false, oQ 28 (.bin .geq (.t 26) (.t 27)) 24 false, oP 29 (.pick (.t 24) (.c (.d (.bool true))) (.t 28)), oM 30 29, oQ 31 (.fad false 2 1 (.t 1)) 30 false, oQ 32 (.ld false 1 (.t 31)) 30 false, oQ 33 (.bin .lss (.t 32) (kI 0)) 30 false, oP 34 (.pick (.t 30) (.c (.d (.bool true))) (.t 33)), oM 35 34, oQ 36 (.fad false 2 1 (.t 1)) 35 false, oQ 37 (.ld false 1 (.t 36)) 35 false, oQ 38 (.mv (.t 3)) 35 false, oQ 39 (.bin .gtr (.t 37) (.t 38)) 35 false, oP 40 (.pick (.t 35) (.c (.d (.bool true))) (.t 39))] [13, 14, 15, 16, 17, 18, 19, 20, 21, 22, 23, 24, 25, 26, 27, 28, 29, 30, 31, 32, 33, 34, 35, 36, 37, 38, 39])
 (.cond (.t 40) (.seq (.ops [] [oP 2 (.mv (kI 1))] [1, 3, 40])
 (.ret [2])) .skip))
 (.seq (.seq (.ops [] [oP 41 (.fad false 2 1 (.t 1)), oP 42 (.ld false 1 (.t 41)), oM 4 42] [40, 41, 42])
 (.block 0 (.loop [] z5K)))
 (.seq (.ops [] [oP 57 .mkm, oM 5 57] [3, 4, 45, 57])
 (.seq (.ops [] [oP 6 (.mv (.c (.d (.bool false))))] [])
 (.seq (.seq (.ops [] [oP 58 (.ld true 3 (.t 1)), oP 59 (.call z0x [] [.t 58]), oP 60 (.len (.t 59)), oP 61 (.mv (kI 0))] [1, 58])
 (.block 2 (.loop [] z5L)))
 (.seq (.seq (.ops [] [oM 81 6] [5, 6, 59, 60, 61, 62])
 (.cond (.t 81) (.seq (.ops [] [oP 2 (.mv (kI 10))] [81])
 (.ret [2])) .skip))
 (.seq (.ops [] [oP 2 (.mv (kI 0))] [81])
 (.ret [2]))))))))))
def z11 : List ARes := [.t 2]
def z7f : AFn := .code z0d z11 82 true
def zch : Hints := { kill := [(0, [0, 4]), (1, [1, 2, 5, 6, 7, 8, 9, 10, 11, 12])], ret := [4] }
def z9J : ACode := by
  refine val (x := codeC Tryz.prog Tryz.f105 zch [] []) ?_ ?_
  rotate_left
  conv => lhs; reduce; try simp only [iP, iN, Int.cast_ofNat_Int, Int.natCast_zero, Int.natCast_one]
def zdR : List ARes := [.t 4]
def z7g : AFn := .code z9J zdR 13 true
def z8a : Hints := { kill := [(0, [0, 2]), (2, [5]), (4, [8, 9]), (5, [4, 10, 11, 12, 13, 14, 15, 16, 17, 18, 19]), (6, [20]), (7, [1, 3, 6, 7, 8, 21])], acc := [3], exit := [(0, [3])], ret := [2] }
def zd0 : List (Nat × List (List Nat)) := [(5, [[], [0], [0], [0, 1, 2], [0, 1, 2, 3], [0, 1, 2], [0], [0], [0], [], []])]
def z2X : ACode := by
  refine val (x := codeL Tryz.prog Tryz.f93 z8a zd0 0 []) ?_ ?_
  rotate_left
  conv => lhs; reduce; try simp only [iP, iN, Int.cast_ofNat_Int, Int.natCast_zero, Int.natCast_one]
attribute [irreducible] z2X
def z9M : ACode := by
  refine val (x := codeC Tryz.prog Tryz.f93 z8a zd0 [z2X]) ?_ ?_
  rotate_left
  conv => lhs; reduce; try simp only [iP, iN, Int.cast_ofNat_Int, Int.natCast_zero, Int.natCast_one]
def zdU : List ARes := [.t 2]
def z4t : AFn := .code z9M zdU 22 false
def zbT : Hints := { kill := [(0, [0, 2]), (1, [3, 4, 5, 6, 7, 8, 9, 10, 11, 12, 13, 14, 15, 16, 17, 18, 19, 20, 21, 22, 23, 24, 25, 26, 27, 28, 29, 30, 31, 32, 33, 34, 35, 36, 37]), (2, [1, 38]), (3, [1, 38, 39, 40, 41]), (4, [42]), (5, [42])], ret := [2] }
def z3f : ACode := by
  refine val (x := codeC Tryz.prog Tryz.f148 zbT [] []) ?_ ?_
  rotate_left
  conv => lhs; reduce; try simp only [iP, iN, Int.cast_ofNat_Int, Int.natCast_zero, Int.natCast_one]
def z5Z : List ARes := [.t 2]
def z71 : AFn := .code z3f z5Z 43 true
def zbU : Hints := { kill := [(0, [6]), (1, [0, 1, 2, 7, 8, 9, 10, 11, 12, 13, 14])], ret := [6] }
def z3g : ACode := by
  refine val (x := codeC Tryz.prog Tryz.f180 zbU [] []) ?_ ?_
  rotate_left
  conv => lhs; reduce; try simp only [iP, iN, Int.cast_ofNat_Int, Int.natCast_zero, Int.natCast_one]
def z60 : List ARes := [.t 6]
def z42 : AFn := .code z3g z60 15 true
def z7Y : Hints := { kill := [(0, [0, 2]), (1, [7, 8, 9]), (2, [1, 10]), (3, [10, 11]), (5, [15, 16, 17, 18]), (6, [19, 20, 21]), (7, [22]), (8, [1, 3, 4, 5, 12, 13, 14, 23, 24]), (9, [5, 23, 26, 27, 28, 29]), (10, [1, 3, 4, 12, 13, 14, 25]), (11, [25, 31, 32, 33, 34]), (12, [1, 3, 4, 12, 13, 14, 30]), (13, [3, 4, 30, 36, 37, 38, 39, 40, 41, 42, 43, 44, 45, 46, 47, 48, 49, 50, 51]), (14, [1, 12, 13, 14, 35]), (15, [35, 52]), (16, [12, 13, 14, 15, 53, 54, 55]), (17, [56]), (18, [1, 6, 57, 58]), (19, [1, 6, 57, 59, 60]), (20, [61]), (21, [61])], exit := [(0, [1])], ret := [2] }
def zcV : List (Nat × List (List Nat)) := [(13, [[], [], [], [], [], [], [3, 4, 5], [3, 4, 5], [3, 4, 5, 6, 7], [3, 4, 5, 6, 7], [3, 4, 5], [3, 4, 5], [3, 4, 5], [3, 4, 5], [], [], []])]
def z5u : ACode := by
  refine val (x := codeL Tryz.prog Tryz.f106 z7Y zcV 0 []) ?_ ?_
  rotate_left
  conv => lhs; reduce; try simp only [iP, iN, Int.cast_ofNat_Int, Int.natCast_zero, Int.natCast_one]
attribute [irreducible] z5u
def z0J : ACode := by
  refine val (x := codeC Tryz.prog Tryz.f106 z7Y zcV [z5u]) ?_ ?_
  rotate_left
  conv => lhs; reduce; try simp only [iP, iN, Int.cast_ofNat_Int, Int.natCast_zero, Int.natCast_one]
def z0X : List ARes := [.t 2]
def z6X : AFn := .code z0J z0X 62 true
def zbM : Hints := { kill := [(0, [2]), (1, [0, 3, 4, 5, 6, 7, 8])], ret := [2] }
def z3e : ACode := by
  refine val (x := codeC Tryz.prog Tryz.f116 zbM [] []) ?_ ?_
  rotate_left
  conv => lhs; reduce; try simp only [iP, iN, Int.cast_ofNat_Int, Int.natCast_zero, Int.natCast_one]
def z5Y : List ARes := [.t 2]
def z6Y : AFn := .code z3e z5Y 9 true
def z5i : Hints := { kill := [(0, [2]), (1, [6, 7]), (2, [0, 8]), (3, [8, 9]), (4, [0, 10]), (5, [10]), (7, [14, 15, 16, 17]), (8, [3, 4, 18, 19, 20, 21, 22]), (9, [0, 11, 12, 13, 23]), (10, [23, 24]), (11, [11, 12, 13, 14]), (12, [25, 26, 27]), (13, [29, 30, 36]), (14, [28, 31, 32, 33, 34, 35]), (15, [0, 5, 36]), (16, [0, 5, 28])], exit := [(0, [0])], ret := [2] }
def z5q : ACode := by
  refine val (x := codeL Tryz.prog Tryz.f153 z5i [] 0 []) ?_ ?_
  rotate_left
  conv => lhs; reduce; try simp only [iP, iN, Int.cast_ofNat_Int, Int.natCast_zero, Int.natCast_one]
attribute [irreducible] z5q
def z5r : ACode := by
  refine val (x := codeL Tryz.prog Tryz.f153 z5i [] 1 []) ?_ ?_
  rotate_left
  conv => lhs; reduce; try simp only [iP, iN, Int.cast_ofNat_Int, Int.natCast_zero, Int.natCast_one]
attribute [irreducible] z5r
def z96 : ACode := by
  refine val (x := codeC Tryz.prog Tryz.f153 z5i [] [z5q, z5r]) ?_ ?_
  rotate_left
  conv => lhs; reduce; try simp only [iP, iN, Int.cast_ofNat_Int, Int.natCast_zero, Int.natCast_one]
def zdf : List ARes := [.t 2]
def z6U : AFn := .code z96 zdf 37 true
def zcM : Hints := { kill := [(0, [4]), (1, [0, 1, 5, 6, 7, 8])], ret := [4] }
def za1 : ACode := by
  refine val (x := codeC Tryz.prog Tryz.f185 zcM [] []) ?_ ?_
  rotate_left
  conv => lhs; reduce; try simp only [iP, iN, Int.cast_ofNat_Int, Int.natCast_zero, Int.natCast_one]
def ze9 : List ARes := [.t 4]
def z4S : AFn := .code za1 ze9 9 true
def z8i : Hints := { kill := [(0, [4]), (1, [6]), (3, [9, 10]), (4, [11, 12, 13, 14, 15]), (5, [0, 1, 5, 7, 8, 16, 17]), (6, [5, 16, 18]), (7, [0, 1, 7, 8, 9])], ret := [4] }
def z5N : ACode := by
  refine val (x := codeL Tryz.prog Tryz.f190 z8i [] 0 []) ?_ ?_
  rotate_left
  conv => lhs; reduce; try simp only [iP, iN, Int.cast_ofNat_Int, Int.natCast_zero, Int.natCast_one]
attribute [irreducible] z5N
def za5 : ACode := by
  refine val (x := codeC Tryz.prog Tryz.f190 z8i [] [z5N]) ?_ ?_
  rotate_left
  conv => lhs; reduce; try simp only [iP, iN, Int.cast_ofNat_Int, Int.natCast_zero, Int.natCast_one]
def zed : List ARes := [.t 4]
def z4Y : AFn := .code za5 zed 19 true
def zbv : Hints := { kill := [(0, [0, 2]), (1, [1, 3, 4, 5])], ret := [2] }
def z97 : ACode := by
  refine val (x := codeC Tryz.prog Tryz.f186 zbv [] []) ?_ ?_
  rotate_left
  conv => lhs; reduce; try simp only [iP, iN, Int.cast_ofNat_Int, Int.natCast_zero, Int.natCast_one]
def zdg : List ARes := [.t 2]
def z3D : AFn := .code z97 zdg 6 true
def zbB : Hints := { kill := [(0, [0, 2]), (1, [1, 3, 4, 5, 6, 7, 8, 9, 10, 11, 12, 13, 14, 15, 16, 17, 18, 19, 20])], ret := [2] }
def z9e : ACode := by
  refine val (x := codeC Tryz.prog Tryz.f161 zbB [] []) ?_ ?_
  rotate_left
  conv => lhs; reduce; try simp only [iP, iN, Int.cast_ofNat_Int, Int.natCast_zero, Int.natCast_one]
def zdn : List ARes := [.t 2]
def z3L : AFn := .code z9e zdn 21 true
def zbz : Hints := { kill := [(0, [1, 4]), (1, [0, 3, 5, 6, 7])], ret := [4] }
def z9b : ACode := by
  refine val (x := codeC Tryz.prog Tryz.f159 zbz [] []) ?_ ?_
  rotate_left
  conv => lhs; reduce; try simp only [iP, iN, Int.cast_ofNat_Int, Int.natCast_zero, Int.natCast_one]
def zdk : List ARes := [.t 4]
def z3I : AFn := .code z9b zdk 8 true
def zbA : Hints := { kill := [(0, [0, 3]), (1, [1, 2, 4, 5, 6, 7])], ret := [3] }
def z9c : ACode := by
  refine val (x := codeC Tryz.prog Tryz.f191 zbA [] []) ?_ ?_
  rotate_left
  conv => lhs; reduce; try simp only [iP, iN, Int.cast_ofNat_Int, Int.natCast_zero, Int.natCast_one]
def zdl : List ARes := [.t 3]
def z3J : AFn := .code z9c zdl 8 true
def zbw : Hints := { kill := [(0, [6]), (1, [0, 1, 2, 7, 8, 9, 10, 11, 12, 13, 14, 15, 16])], ret := [6] }
def zhA : List (Nat × List (List Nat)) := [(1, [[], [0], [], [], [0, 1, 2, 3], [0, 1, 2, 3, 4], [0, 1, 2, 3], [0, 1, 2, 3], [], [], []])]
def z98 : ACode := by
  refine val (x := codeC Tryz.prog Tryz.f187 zbw zhA []) ?_ ?_
  rotate_left
  conv => lhs; reduce; try simp only [iP, iN, Int.cast_ofNat_Int, Int.natCast_zero, Int.natCast_one]
def zdh : List ARes := [.t 6]
def z3E : AFn := .code z98 zdh 17 true
def zbx : Hints := { kill := [(0, [0, 1, 4]), (1, [2, 3, 5, 6, 7, 8, 9, 10, 11, 12, 13, 14, 15, 16])], ret := [4] }
def zhB : List (Nat × List (List Nat)) := [(1, [[], [], [0, 1], [0, 1], [], [0, 1, 2, 3, 4], [0, 1, 2, 3, 4], [0, 1, 2, 3, 4, 5, 6], [0, 1, 2, 3, 4, 5, 6], [], [], [], []])]
def z99 : ACode := by
  refine val (x := codeC Tryz.prog Tryz.f165 zbx zhB []) ?_ ?_
  rotate_left
  conv => lhs; reduce; try simp only [iP, iN, Int.cast_ofNat_Int, Int.natCast_zero, Int.natCast_one]
def zdi : List ARes := [.t 4]
def z3F : AFn := .code z99 zdi 17 true
def zbr : Hints := { kill := [(0, [4]), (1, [7, 8]), (2, [9, 10]), (3, [5]), (4, [0, 1, 6, 11]), (5, [12]), (6, [12]), (7, [6, 11]), (8, [0, 1, 13]), (9, [13, 14, 15]), (10, [0, 1, 16]), (11, [0, 1, 16, 17, 18]), (12, [19]), (13, [19])], ret := [4] }
def z92 : ACode := by
  refine val (x := codeC Tryz.prog Tryz.f158 zbr [] []) ?_ ?_
  rotate_left
  conv => lhs; reduce; try simp only [iP, iN, Int.cast_ofNat_Int, Int.natCast_zero, Int.natCast_one]
def zdb : List ARes := [.t 4]
def z6Q : AFn := .code z92 zdb 20 true
def zbs : Hints := { kill := [(0, [2]), (1, [0, 3, 4, 5])], ret := [2] }
def z94 : ACode := by
  refine val (x := codeC Tryz.prog Tryz.f189 zbs [] []) ?_ ?_
  rotate_left
  conv => lhs; reduce; try simp only [iP, iN, Int.cast_ofNat_Int, Int.natCast_zero, Int.natCast_one]
def zdd : List ARes := [.t 2]
def z3C : AFn := .code z94 zdd 6 true
def z7U : Hints := { kill := [(0, [2]), (2, [0]), (4, [9, 10, 11]), (5, [12, 13]), (6, [3, 5, 6, 7, 8, 14, 15]), (7, [5, 14, 16]), (8, [3, 6, 7, 8, 9, 17])], exit := [(0, [3])], ret := [2] }
def z5p : ACode := by
  refine val (x := codeL Tryz.prog Tryz.f195 z7U [] 0 []) ?_ ?_
  rotate_left
  conv => lhs; reduce; try simp only [iP, iN, Int.cast_ofNat_Int, Int.natCast_zero, Int.natCast_one]
attribute [irreducible] z5p
def z93 : ACode := by
  refine val (x := codeC Tryz.prog Tryz.f195 z7U [] [z5p]) ?_ ?_
  rotate_left
  conv => lhs; reduce; try simp only [iP, iN, Int.cast_ofNat_Int, Int.natCast_zero, Int.natCast_one]
def zdc : List ARes := [.t 2]
def z3B : AFn := .code z93 zdc 18 true
def z7Z : Hints := { kill := [(0, [0, 2]), (1, [5, 6, 7, 8, 9, 10]), (2, [1, 11]), (3, [11, 12]), (5, [16, 17, 18]), (6, [4, 19, 20, 21, 22, 23, 24, 25, 26, 27]), (7, [1, 13, 14, 15, 28]), (8, [28, 29]), (9, [1, 13, 14, 15, 16])], ret := [2] }
def z5v : ACode := by
  refine val (x := codeL Tryz.prog Tryz.f154 z7Z [] 0 []) ?_ ?_
  rotate_left
  conv => lhs; reduce; try simp only [iP, iN, Int.cast_ofNat_Int, Int.natCast_zero, Int.natCast_one]
attribute [irreducible] z5v
def z3d : ACode := by
  refine val (x := codeC Tryz.prog Tryz.f154 z7Z [] [z5v]) ?_ ?_
  rotate_left
  conv => lhs; reduce; try simp only [iP, iN, Int.cast_ofNat_Int, Int.natCast_zero, Int.natCast_one]
def z5X : List ARes := [.t 2]
def z3W : AFn := .code z3d z5X 30 true
def zcO : Hints := { kill := [(0, [1, 4]), (1, [0, 3, 5, 6, 7, 8])], ret := [4] }
def za3 : ACode := by
  refine val (x := codeC Tryz.prog Tryz.f188 zcO [] []) ?_ ?_
  rotate_left
  conv => lhs; reduce; try simp only [iP, iN, Int.cast_ofNat_Int, Int.natCast_zero, Int.natCast_one]
def zeb : List ARes := [.t 4]
def z4U : AFn := .code za3 zeb 9 true
def z8n : ACode :=
 (.seq (.ops [] [oP 9 (.bin .lss (.t 8) (.t 7))] [])
 (.seq (.cond (.t 9) .skip (.exit 0 []))
 (.seq (.block 1 (.seq (.ops [] [oM 10 8, oM 5 10] [9, 10])
 (.seq (.draw [] [oP 11 (.ld true 2 (.t 3)), oM 12 0, oM 13 5, oP 14 (.iad 2 (.t 12) (.t 13)), oP 15 (.ld true 2 (.t 14)), oP 16 (.eqs false 2 [(0, 0), (1, 0)] (.t 11) (.t 15))] [[], [0], [0, 1], [0], [0], []] [11, 12, 13, 14, 15])
 (.cond (.t 16) (.seq (.ops [] [oM 17 5, oM 4 17] [0, 3, 5, 7, 8, 16, 17])
 (.ret [4])) .skip))))
 (.ops [] [oP 18 (.bin .add (.t 8) (kI 1)), oM 8 18] [5, 16, 18]))))
def z3u : ACode :=
 (.seq (.ops [] [oP 3 (.box (.t 1)), oP 4 (.mv (kI 0))] [1, 4])
 (.seq (.seq (.ops [] [oM 6 0, oP 7 (.len (.t 6)), oP 8 (.mv (kI 0))] [6])
 (.block 0 (.loop [] z8n)))
 (.seq (.ops [] [oP 4 (.mv (kI (-1)))] [0, 3, 7, 8, 9])
 (.ret [4]))))
def z8R : List ARes := [.t 4]
def z51 : AFn := .code z3u z8R 19 true
def zcH : Hints := { kill := [(0, [0, 2]), (1, [1, 3, 4, 5, 6, 7, 8, 9, 10])], ret := [2] }
def za0 : ACode := by
  refine val (x := codeC Tryz.prog Tryz.f55 zcH [] []) ?_ ?_
  rotate_left
  conv => lhs; reduce; try simp only [iP, iN, Int.cast_ofNat_Int, Int.natCast_zero, Int.natCast_one]
def ze8 : List ARes := [.t 2]
def z7o : AFn := .code za0 ze8 11 true
def zcG : Hints := { kill := [(0, [4]), (1, [0, 1, 5, 6, 7, 8, 9, 10, 11, 12, 13, 14, 15])], ret := [4] }
def z6z : ACode := by
  refine val (x := codeC Tryz.prog Tryz.f99 zcG [] []) ?_ ?_
  rotate_left
  conv => lhs; reduce; try simp only [iP, iN, Int.cast_ofNat_Int, Int.natCast_zero, Int.natCast_one]
def z8O : List ARes := [.t 4]
def z7n : AFn := .code z6z z8O 16 true
def z8f : Hints := { kill := [(0, [0, 2]), (1, [6, 7, 8]), (2, [1, 9, 10]), (4, [14, 15, 16]), (5, [5, 17, 18, 19, 20, 21]), (6, [22]), (7, [3, 11, 12, 13, 14, 23])], exit := [(0, [3])], ret := [2] }
def z30 : ACode := by
  refine val (x := codeL Tryz.prog Tryz.f62 z8f [] 0 []) ?_ ?_
  rotate_left
  conv => lhs; reduce; try simp only [iP, iN, Int.cast_ofNat_Int, Int.natCast_zero, Int.natCast_one]
attribute [irreducible] z30
def z9X : ACode := by
  refine val (x := codeC Tryz.prog Tryz.f62 z8f [] [z30]) ?_ ?_
  rotate_left
  conv => lhs; reduce; try simp only [iP, iN, Int.cast_ofNat_Int, Int.natCast_zero, Int.natCast_one]
def ze5 : List ARes := [.t 2]
def z7l : AFn := .code z9X ze5 24 true
def zcc : Hints := { kill := [(0, [0, 2]), (1, [3, 4]), (2, [1, 5]), (3, [1, 5, 6, 7])], ret := [2] }
def z9H : ACode := by
  refine val (x := codeC Tryz.prog Tryz.f44 zcc [] []) ?_ ?_
  rotate_left
  conv => lhs; reduce; try simp only [iP, iN, Int.cast_ofNat_Int, Int.natCast_zero, Int.natCast_one]
def zdP : List ARes := [.t 2]
def z7b : AFn := .code z9H zdP 8 false
def zcP : Hints := { kill := [(0, [4]), (1, [0, 1, 5, 6, 7, 8])], ret := [4] }
def za4 : ACode := by
  refine val (x := codeC Tryz.prog Tryz.f88 zcP [] []) ?_ ?_
  rotate_left
  conv => lhs; reduce; try simp only [iP, iN, Int.cast_ofNat_Int, Int.natCast_zero, Int.natCast_one]
def zec : List ARes := [.t 4]
def z4V : AFn := .code za4 zec 9 true
def z8l : Hints := { kill := [(0, [4]), (1, [6]), (3, [9, 10]), (4, [11, 12, 13, 14, 15]), (5, [0, 1, 5, 7, 8, 16, 17]), (6, [5, 16, 18]), (7, [0, 1, 7, 8, 9])], ret := [4] }
def z5Q : ACode := by
  refine val (x := codeL Tryz.prog Tryz.f147 z8l [] 0 []) ?_ ?_
  rotate_left
  conv => lhs; reduce; try simp only [iP, iN, Int.cast_ofNat_Int, Int.natCast_zero, Int.natCast_one]
attribute [irreducible] z5Q
def z6C : ACode := by
  refine val (x := codeC Tryz.prog Tryz.f147 z8l [] [z5Q]) ?_ ?_
  rotate_left
  conv => lhs; reduce; try simp only [iP, iN, Int.cast_ofNat_Int, Int.natCast_zero, Int.natCast_one]
def z8S : List ARes := [.t 4]
def z52 : AFn := .code z6C z8S 19 true
def zcC : Hints := { kill := [(0, [0]), (1, [3, 4, 5, 6, 7, 8]), (2, [9, 10, 11, 12, 13, 14, 15, 16, 17, 18]), (3, [1, 19])], ret := [2] }
def zhS : List (Nat × List (List Nat)) := [(2, [[], [], [], [], [0, 1, 2, 3], [0, 1, 2, 3], [0, 1, 2, 3], [], [], [], []])]
def z6x : ACode := by
  refine val (x := codeC Tryz.prog Tryz.f43 zcC zhS []) ?_ ?_
  rotate_left
  conv => lhs; reduce; try simp only [iP, iN, Int.cast_ofNat_Int, Int.natCast_zero, Int.natCast_one]
def z8M : List ARes := [.c 2 true 8]
def z4M : AFn := .code z6x z8M 20 true
def zcL : Hints := { kill := [(0, [2]), (1, [3]), (2, [0, 4]), (3, [0, 4, 5, 6, 7])], acc := [2, 2], ret := [2] }
def z0f : ACode := by
  refine val (x := codeC Tryz.prog Tryz.f89 zcL [] []) ?_ ?_
  rotate_left
  conv => lhs; reduce; try simp only [iP, iN, Int.cast_ofNat_Int, Int.natCast_zero, Int.natCast_one]
def z0l : List ARes := [.t 2]
def z4R : AFn := .nils z0f z0l 8
def zcK : Hints := { kill := [(0, [2]), (1, [3]), (2, [0, 4]), (3, [0, 4, 5, 6, 7])], acc := [2, 2], ret := [2] }
def z3s : ACode := by
  refine val (x := codeC Tryz.prog Tryz.f90 zcK [] []) ?_ ?_
  rotate_left
  conv => lhs; reduce; try simp only [iP, iN, Int.cast_ofNat_Int, Int.natCast_zero, Int.natCast_one]
def z6c : List ARes := [.t 2]
def z7q : AFn := .nils z3s z6c 8
def zcJ : Hints := { kill := [(0, [2]), (1, [3]), (2, [0, 4]), (3, [0, 4, 5, 6, 7])], acc := [2, 2], ret := [2] }
def z0e : ACode := by
  refine val (x := codeC Tryz.prog Tryz.f91 zcJ [] []) ?_ ?_
  rotate_left
  conv => lhs; reduce; try simp only [iP, iN, Int.cast_ofNat_Int, Int.natCast_zero, Int.natCast_one]
def z0k : List ARes := [.t 2]
def z4Q : AFn := .nils z0e z0k 8
def zbR : Hints := { kill := [(0, [0, 6]), (1, [1, 2, 3, 7, 8, 9, 10, 11, 12, 13, 14, 15, 16, 17, 18, 19, 20, 21])], ret := [6] }
def z9o : ACode := by
  refine val (x := codeC Tryz.prog Tryz.f45 zbR [] []) ?_ ?_
  rotate_left
  conv => lhs; reduce; try simp only [iP, iN, Int.cast_ofNat_Int, Int.natCast_zero, Int.natCast_one]
def zdw : List ARes := [.t 6]
def z41 : AFn := .code z9o zdw 22 true
def zbQ : Hints := { kill := [(0, [0, 4]), (1, [1, 2, 5, 6, 7, 8])], ret := [4] }
def z6o : ACode := by
  refine val (x := codeC Tryz.prog Tryz.f94 zbQ [] []) ?_ ?_
  rotate_left
  conv => lhs; reduce; try simp only [iP, iN, Int.cast_ofNat_Int, Int.natCast_zero, Int.natCast_one]
def z8D : List ARes := [.t 4]
def z6Z : AFn := .code z6o z8D 9 true
def zbS : Hints := { kill := [(0, [0, 4]), (1, [1, 2, 5, 6, 7, 8])], ret := [4] }
def z9p : ACode := by
  refine val (x := codeC Tryz.prog Tryz.f51 zbS [] []) ?_ ?_
  rotate_left
  conv => lhs; reduce; try simp only [iP, iN, Int.cast_ofNat_Int, Int.natCast_zero, Int.natCast_one]
def zdx : List ARes := [.t 4]
def z70 : AFn := .code z9p zdx 9 true
def zcs : Hints := { kill := [(0, [1, 7]), (1, [11, 12, 13, 14, 15, 16, 17, 18, 19, 20, 21]), (2, [22]), (3, [0, 2, 4, 8, 9, 23, 24, 25]), (4, [23, 26, 27, 28, 29, 30]), (5, [31]), (6, [0, 2, 4, 8, 9, 32, 33, 34]), (7, [32, 35, 36, 37, 38, 39, 40, 41, 42, 43, 44]), (8, [45]), (9, [0, 2, 4, 8, 9, 10, 46, 47, 48]), (10, [0, 8, 9, 10, 46, 49, 50, 51, 52, 53, 54, 55, 56]), (11, [2, 4, 57, 58, 59])], ret := [6, 7] }
def zhR : List (Nat × List (List Nat)) := [(1, [[], [], [], [], [0, 1, 2, 3], [0, 1, 2, 3], [], [], [], [8], [8, 9], [0, 1, 2, 3, 4, 5, 6, 7, 8, 9, 10], [9, 10], [10], []]), (7, [[], [], [], [], [0, 1, 2, 3], [0, 1, 2, 3, 4], [], [], [], [8], [0, 1, 2, 3, 4, 5, 6, 7, 8, 9], [9], []]), (10, [[], [0], [0, 1], [0, 1, 2], [1, 3], [1, 3], [1, 3], [], [], []])]
def z2B : ACode := by
  refine val (x := codeC Tryz.prog Tryz.f46 zcs zhR []) ?_ ?_
  rotate_left
  conv => lhs; reduce; try simp only [iP, iN, Int.cast_ofNat_Int, Int.natCast_zero, Int.natCast_one]
def z37 : List ARes := [.c 6 true 8, .t 7]
def z4F : AFn := .code z2B z37 60 true
def zcg : Hints := { kill := [(0, [0, 6]), (1, [10, 11]), (2, [12]), (3, [1, 2, 7, 13, 14, 15, 16]), (4, [1, 7, 13, 17, 18, 19]), (5, [20]), (6, [2, 8, 21, 22, 23]), (7, [8, 21, 24, 25, 26, 27, 28, 29]), (8, [2, 9, 30, 31])], ret := [4, 5, 6] }
def zhM : List (Nat × List (List Nat)) := [(8, [[], [0], [1], [], []])]
def z3l : ACode := by
  refine val (x := codeC Tryz.prog Tryz.f95 zcg zhM []) ?_ ?_
  rotate_left
  conv => lhs; reduce; try simp only [iP, iN, Int.cast_ofNat_Int, Int.natCast_zero, Int.natCast_one]
def z65 : List ARes := [.c 4 true 3, .c 5 true 7, .t 6]
def z7e : AFn := .code z3l z65 32 true
def zci : Hints := { kill := [(0, [0, 1, 4]), (1, [2, 3, 5, 6, 7, 8])], ret := [4] }
def z9K : ACode := by
  refine val (x := codeC Tryz.prog Tryz.f149 zci [] []) ?_ ?_
  rotate_left
  conv => lhs; reduce; try simp only [iP, iN, Int.cast_ofNat_Int, Int.natCast_zero, Int.natCast_one]
def zdS : List ARes := [.t 4]
def z4r : AFn := .code z9K zdS 9 true
def zcj : Hints := { kill := [(0, [0, 3]), (1, [1, 2, 4, 5, 6, 7])], ret := [3] }
def z9L : ACode := by
  refine val (x := codeC Tryz.prog Tryz.f181 zcj [] []) ?_ ?_
  rotate_left
  conv => lhs; reduce; try simp only [iP, iN, Int.cast_ofNat_Int, Int.natCast_zero, Int.natCast_one]
def zdT : List ARes := [.t 3]
def z4s : AFn := .code z9L zdT 8 true
def z8j : Hints := { kill := [(0, [4]), (1, [6]), (3, [9, 10]), (4, [11, 12, 13, 14, 15]), (5, [0, 1, 5, 7, 8, 16, 17]), (6, [5, 16, 18]), (7, [0, 1, 7, 8, 9])], ret := [4] }
def z5O : ACode := by
  refine val (x := codeL Tryz.prog Tryz.f113 z8j [] 0 []) ?_ ?_
  rotate_left
  conv => lhs; reduce; try simp only [iP, iN, Int.cast_ofNat_Int, Int.natCast_zero, Int.natCast_one]
attribute [irreducible] z5O
def z6A : ACode := by
  refine val (x := codeC Tryz.prog Tryz.f113 z8j [] [z5O]) ?_ ?_
  rotate_left
  conv => lhs; reduce; try simp only [iP, iN, Int.cast_ofNat_Int, Int.natCast_zero, Int.natCast_one]
def z8P : List ARes := [.t 4]
def z4Z : AFn := .code z6A z8P 19 true
def z8b : Hints := { kill := [(0, [0]), (1, [8, 9]), (2, [10, 11, 12, 13, 14, 15, 16]), (3, [1, 17]), (4, [18, 19, 20, 21]), (5, [23, 24]), (6, [22, 25, 26, 27, 28, 29, 30, 31, 32, 33, 34, 35, 36, 37, 38]), (7, [7, 22, 39, 40, 41, 42]), (8, [43, 44, 45, 46, 47, 48, 49, 50]), (9, [2, 6, 51, 52])], ghost := [(2, [18])], exit := [(0, [2, 4, 5, 6])], ret := [4, 5] }
def zd1 : List (Nat × List (List Nat)) := [(2, [[], [], [0, 1], [0, 1, 2], [0, 1], [], [], [0, 1, 2, 3, 4, 5, 6], []]), (6, [[], [], [0, 1], [0, 1, 2], [0, 1], [0, 1, 2, 3, 4], [0, 1, 2, 3, 4], [0, 1, 2, 3, 4, 5, 6], [0, 1, 2, 3, 4, 5, 6, 7], [0, 1, 2, 3, 4, 5, 6, 7], [0, 1, 5, 6], [0, 1], [0, 1], [], []]), (8, [[], [], [0, 1], [0, 1, 2], [0, 1, 2], [0, 1], [0, 1, 2, 3, 4, 5], [], []]), (9, [[], [0], [1], []])]
def z2Y : ACode := by
  refine val (x := codeL Tryz.prog Tryz.f150 z8b zd1 0 []) ?_ ?_
  rotate_left
  conv => lhs; reduce; try simp only [iP, iN, Int.cast_ofNat_Int, Int.natCast_zero, Int.natCast_one]
attribute [irreducible] z2Y
def z9O : ACode := by
  refine val (x := codeC Tryz.prog Tryz.f150 z8b zd1 [z2Y]) ?_ ?_
  rotate_left
  conv => lhs; reduce; try simp only [iP, iN, Int.cast_ofNat_Int, Int.natCast_zero, Int.natCast_one]
def zdW : List ARes := [.c 4 true 3, .c 5 true 7]
def z4w : AFn := .code z9O zdW 53 true
def zck : Hints := { kill := [(0, [0]), (1, [3, 4, 5, 6]), (2, [1, 7])], ret := [2] }
def z9N : ACode := by
  refine val (x := codeC Tryz.prog Tryz.f104 zck [] []) ?_ ?_
  rotate_left
  conv => lhs; reduce; try simp only [iP, iN, Int.cast_ofNat_Int, Int.natCast_zero, Int.natCast_one]
def zdV : List ARes := [.c 2 true 3]
def z4u : AFn := .code z9N zdV 8 false
def zbP : Hints := { kill := [(0, [0, 3]), (1, [5, 6]), (2, [7]), (3, [1, 4, 8, 9, 10]), (4, [4, 8, 12, 13, 14]), (5, [1, 11, 15]), (6, [11, 17, 18, 19]), (7, [1, 16, 20]), (8, [16, 21, 22, 23, 24]), (9, [25, 26, 27, 28]), (10, [1, 29])], ret := [2, 3] }
def z2z : ACode := by
  refine val (x := codeC Tryz.prog Tryz.f96 zbP [] []) ?_ ?_
  rotate_left
  conv => lhs; reduce; try simp only [iP, iN, Int.cast_ofNat_Int, Int.natCast_zero, Int.natCast_one]
def z35 : List ARes := [.c 2 true 7, .t 3]
def z40 : AFn := .code z2z z35 30 true
def zbG : Hints := { kill := [(0, [0, 1, 7]), (1, [14, 15]), (2, [16]), (3, [2, 3, 4, 8, 17, 18, 19]), (4, [8, 17, 20, 21]), (5, [22]), (6, [2, 3, 4, 9, 23, 24, 25]), (7, [9, 23, 26, 27, 28, 29, 30, 31, 32]), (8, [34, 35, 36]), (9, [2, 3, 4, 10, 11, 33, 37]), (10, [33, 39, 40, 41]), (11, [2, 3, 4, 10, 11, 38, 42]), (12, [38, 44, 45, 46, 47]), (13, [2, 3, 4, 10, 11, 43, 48]), (14, [11, 43, 50]), (15, [2, 3, 4, 10, 49, 51]), (16, [49, 52, 53, 54, 55, 56, 57, 58, 59, 60, 61]), (17, [62]), (18, [2, 3, 4, 10, 12, 13, 63, 64, 65]), (19, [2, 3, 4, 10, 12, 13, 63, 66, 67, 68, 69, 70, 71, 72, 73, 74, 75, 76])], obj := [(74, [true, false, false])], ret := [6, 7] }
def zhC : List (Nat × List (List Nat)) := [(19, [[], [], [], [0, 1, 2], [0, 1, 2, 3], [0, 1, 2, 3, 4], [0, 1, 2, 3], [0, 1, 2, 3], [], [0, 1, 2, 3, 4, 5, 6, 7, 8], [], [], []])]
def zh : ACode := by
  refine val (x := codeC Tryz.prog Tryz.f97 zbG zhC []) ?_ ?_
  rotate_left
  conv => lhs; reduce; try simp only [iP, iN, Int.cast_ofNat_Int, Int.natCast_zero, Int.natCast_one]
def zl : List ARes := [.c 6 true 2, .t 7]
def z3Q : AFn := .code zh zl 77 true
def zbK : Hints := { kill := [(0, [0, 4, 5]), (1, [1, 2, 6, 7, 8, 9, 10, 11])], ret := [4, 5] }
def z9j : ACode := by
  refine val (x := codeC Tryz.prog Tryz.f115 zbK [] []) ?_ ?_
  rotate_left
  conv => lhs; reduce; try simp only [iP, iN, Int.cast_ofNat_Int, Int.natCast_zero, Int.natCast_one]
def zds : List ARes := [.t 4, .t 5]
def z3U : AFn := .code z9j zds 12 true
def z8g : Hints := { kill := [(0, [6, 7]), (1, [12, 13]), (2, [14]), (3, [15, 16]), (4, [17, 18, 19, 20, 21, 22, 23]), (5, [24, 25, 26, 27, 28, 29, 30]), (6, [11, 31, 32, 33]), (7, [11, 31, 34]), (8, [0, 1, 2, 8, 9, 10, 17, 35, 36, 37, 38, 39, 40, 41, 42, 43, 44, 45, 46, 47, 48])], exit := [(0, [0, 1, 2, 8, 9])], ret := [6, 7] }
def z5M : ACode := by
  refine val (x := codeL Tryz.prog Tryz.f156 z8g [] 0 []) ?_ ?_
  rotate_left
  conv => lhs; reduce; try simp only [iP, iN, Int.cast_ofNat_Int, Int.natCast_zero, Int.natCast_one]
attribute [irreducible] z5M
def z3r : ACode := by
  refine val (x := codeC Tryz.prog Tryz.f156 z8g [] [z5M]) ?_ ?_
  rotate_left
  conv => lhs; reduce; try simp only [iP, iN, Int.cast_ofNat_Int, Int.natCast_zero, Int.natCast_one]
def z6b : List ARes := [.t 6, .t 7]
def z4P : AFn := .code z3r z6b 49 true
def zbL : Hints := { kill := [(0, [0, 4]), (1, [1, 2, 5, 6, 7, 8, 9])], ret := [4] }
def z9k : ACode := by
  refine val (x := codeC Tryz.prog Tryz.f157 zbL [] []) ?_ ?_
  rotate_left
  conv => lhs; reduce; try simp only [iP, iN, Int.cast_ofNat_Int, Int.natCast_zero, Int.natCast_one]
def zdt : List ARes := [.t 4]
def z3V : AFn := .code z9k zdt 10 true
def zbt : Hints := { kill := [(0, [1, 4, 5]), (1, [7, 8]), (2, [9]), (3, [0, 3, 6, 10, 11]), (4, [6, 10, 13, 14, 15]), (5, [0, 3, 12]), (6, [12, 17, 18, 19]), (7, [0, 3, 16]), (8, [16, 21, 22, 23, 24, 25]), (9, [0, 3, 20]), (10, [3, 20, 26, 27, 28, 29, 30]), (11, [31, 32, 33, 34, 35]), (12, [0, 36])], ghost := [(11, [54])], obj := [(35, [true, false])], ret := [4, 5] }
def zhz : List (Nat × List (List Nat)) := [(10, [[], [], [0, 1], [0, 1], [], []])]
def z0I : ACode := by
  refine val (x := codeC Tryz.prog Tryz.f118 zbt zhz []) ?_ ?_
  rotate_left
  conv => lhs; reduce; try simp only [iP, iN, Int.cast_ofNat_Int, Int.natCast_zero, Int.natCast_one]
def z0W : List ARes := [.t 4, .t 5]
def z6R : AFn := .code z0I z0W 37 true
def z7X : Hints := { kill := [(0, [4]), (1, [6, 7, 8, 9, 10, 11, 12, 13, 14]), (2, [15, 16, 17, 18]), (3, [1, 19, 20, 21, 22, 23, 24, 25, 26, 27, 28, 29, 30, 31, 32]), (4, [5, 33]), (5, [0, 1, 15, 34])], exit := [(0, [1])], ret := [4] }
def zcU : List (Nat × List (List Nat)) := [(3, [[], [0], [0, 1], [0, 1, 2], [0, 1, 2, 3], [0, 1, 2, 3, 4], [0, 1, 2, 3], [0, 1, 2, 3], [0, 1, 2, 3, 4, 5, 6, 7], [0, 1, 2, 3, 4, 5, 6, 7, 8], [0, 1, 2, 3, 4, 5, 6, 7], [0, 1, 2, 3, 4, 5, 6, 7], [2, 3], [2, 3], [], []])]
def z5t : ACode := by
  refine val (x := codeL Tryz.prog Tryz.f162 z7X zcU 0 []) ?_ ?_
  rotate_left
  conv => lhs; reduce; try simp only [iP, iN, Int.cast_ofNat_Int, Int.natCast_zero, Int.natCast_one]
attribute [irreducible] z5t
def z9d : ACode := by
  refine val (x := codeC Tryz.prog Tryz.f162 z7X zcU [z5t]) ?_ ?_
  rotate_left
  conv => lhs; reduce; try simp only [iP, iN, Int.cast_ofNat_Int, Int.natCast_zero, Int.natCast_one]
def zdm : List ARes := [.t 4]
def z3K : AFn := .code z9d zdm 35 true
def z53 : AFn := .ext (insF 8)
def zcp : Hints := { kill := [(0, [0, 1, 11]), (1, [15, 16, 17, 18, 19, 20, 21, 22, 23]), (2, [24]), (3, [2, 3, 4, 5, 6, 12, 25, 26, 27]), (4, [2, 3, 12, 25, 28, 29, 30, 31, 32]), (5, [4, 5, 6, 33, 34]), (6, [6, 33, 35, 36, 37, 38, 39, 40, 41, 42]), (7, [43]), (8, [4, 5, 13, 14, 44, 45, 46]), (9, [4, 14, 44, 47, 48]), (10, [13, 49, 50, 51, 52, 53, 54, 55, 56, 57]), (11, [13, 49, 58, 59, 60, 61, 62, 63, 64, 65]), (12, [66]), (13, [5, 14, 67, 68, 69]), (14, [5, 14, 67, 70])], ret := [10, 11] }
def zhQ : List (Nat × List (List Nat)) := [(1, [[], [0], [0], [0, 1, 2], [0], [0, 1, 2, 3, 4], [0], [0], [], []])]
def zG : ACode := by
  refine val (x := codeC Tryz.prog Tryz.f15 zcp zhQ []) ?_ ?_
  rotate_left
  conv => lhs; reduce; try simp only [iP, iN, Int.cast_ofNat_Int, Int.natCast_zero, Int.natCast_one]
def zK : List ARes := [.c 10 true 8, .t 11]
def z4B : AFn := .code zG zK 71 true
def zcv : Hints := { kill := [(0, [0, 1, 8]), (1, [4, 11, 12, 13, 14, 15, 16, 17, 18]), (2, [2, 3, 5, 9, 10, 19, 20, 21, 22, 23, 24, 25, 26, 27, 28, 29, 30, 31, 32, 33, 34, 35, 36, 37, 38, 39, 40, 41, 42, 43, 44, 45, 46, 47, 48])], ret := [8] }
def z6w : ACode := by
  refine val (x := codeC Tryz.prog Tryz.f49 zcv [] []) ?_ ?_
  rotate_left
  conv => lhs; reduce; try simp only [iP, iN, Int.cast_ofNat_Int, Int.natCast_zero, Int.natCast_one]
def z8L : List ARes := [.t 8]
def z4H : AFn := .code z6w z8L 49 true
def zbF : Hints := { kill := [(0, [0, 5]), (1, [8, 9]), (2, [1, 2, 10, 11]), (3, [1, 10, 12, 13, 14, 15, 16, 17]), (4, [7, 18]), (5, [2, 6, 19, 20]), (6, [2, 6, 19, 21, 22, 23, 24, 25])], ret := [4, 5] }
def z3b : ACode := by
  refine val (x := codeC Tryz.prog Tryz.f101 zbF [] []) ?_ ?_
  rotate_left
  conv => lhs; reduce; try simp only [iP, iN, Int.cast_ofNat_Int, Int.natCast_zero, Int.natCast_one]
def z5V : List ARes := [.c 4 true 8, .t 5]
def z3P : AFn := .code z3b z5V 26 true
def zcE : Hints := { kill := [(0, [0, 6]), (1, [1, 10, 11, 12, 13, 14, 15, 16, 17]), (2, [18]), (3, [2, 7, 8, 9, 19, 20, 21, 22]), (4, [9, 19, 23, 24]), (5, [7, 25, 26]), (6, [2, 8, 27, 28])], ret := [4, 5, 6] }
def zhT : List (Nat × List (List Nat)) := [(6, [[], [0], [1], [], []])]
def z6y : ACode := by
  refine val (x := codeC Tryz.prog Tryz.f50 zcE zhT []) ?_ ?_
  rotate_left
  conv => lhs; reduce; try simp only [iP, iN, Int.cast_ofNat_Int, Int.natCast_zero, Int.natCast_one]
def z8N : List ARes := [.c 4 true 8, .c 5 true 7, .t 6]
def z4O : AFn := .code z6y z8N 29 true
def zbJ : Hints := { kill := [(0, [0, 6]), (1, [12, 13]), (2, [14]), (3, [1, 2, 7, 15, 16, 17, 18]), (4, [7, 15, 19, 20, 21, 22, 23, 24]), (5, [9, 25]), (6, [1, 2, 8, 26, 27, 28]), (7, [1, 26, 29, 30, 31, 32, 33, 34, 35]), (8, [36]), (9, [2, 8, 10, 11, 37, 38, 39, 40]), (10, [2, 8, 10, 11, 37, 41, 42, 43, 44, 45, 46, 47, 48, 49, 50, 51, 52])], ret := [4, 5, 6] }
def zhE : List (Nat × List (List Nat)) := [(10, [[], [], [0, 1], [], [0, 1, 2, 3], [], [0, 1, 2, 3, 4, 5], [0, 1, 2, 3, 4, 5], [0, 1, 2, 3, 4, 5, 6, 7], [0, 1, 2, 3, 4, 5], [0, 1, 2, 3, 4, 5], [0, 1, 2, 3, 4, 5], [6, 7, 8, 9, 10, 11], [], []])]
def z2y : ACode := by
  refine val (x := codeC Tryz.prog Tryz.f102 zbJ zhE []) ?_ ?_
  rotate_left
  conv => lhs; reduce; try simp only [iP, iN, Int.cast_ofNat_Int, Int.natCast_zero, Int.natCast_one]
def z34 : List ARes := [.c 4 true 2, .c 5 true 7, .t 6]
def z3T : AFn := .code z2y z34 53 true
def zbu : Hints := { kill := [(0, [4, 5]), (1, [8, 9]), (2, [10]), (3, [0, 1, 6, 11, 12]), (4, [1, 6, 11, 13, 14, 15]), (5, [16]), (6, [0, 7, 17]), (7, [0, 7, 17, 18, 19, 20])], ret := [4, 5] }
def z95 : ACode := by
  refine val (x := codeC Tryz.prog Tryz.f117 zbu [] []) ?_ ?_
  rotate_left
  conv => lhs; reduce; try simp only [iP, iN, Int.cast_ofNat_Int, Int.natCast_zero, Int.natCast_one]
def zde : List ARes := [.t 4, .t 5]
def z6S : AFn := .code z95 zde 21 true
def zby : Hints := { kill := [(0, [4]), (1, [7, 8, 9]), (2, [10, 11, 12, 13]), (3, [14, 15]), (4, [0, 1, 5, 6, 16, 17]), (5, [0, 5, 16, 18, 19, 20, 21, 22, 23, 24]), (6, [25, 26, 27, 28]), (7, [1, 29, 30, 31, 32]), (8, [1, 6, 29, 33])], ghost := [(5, [26])], obj := [(27, [true, false]), (32, [true, false])], ret := [4] }
def z3a : ACode := by
  refine val (x := codeC Tryz.prog Tryz.f160 zby [] []) ?_ ?_
  rotate_left
  conv => lhs; reduce; try simp only [iP, iN, Int.cast_ofNat_Int, Int.natCast_zero, Int.natCast_one]
def z5U : List ARes := [.t 4]
def z3H : AFn := .code z3a z5U 34 true
def z7W : Hints := { kill := [(0, [5, 6, 7]), (1, [8, 9, 10]), (2, [11, 12, 13, 14, 15, 16, 17, 18, 19, 20, 21, 22]), (3, [23, 24, 25]), (4, [23, 26, 27, 28, 29]), (5, [1, 30, 31, 32, 33, 34, 35, 36, 37, 38, 39, 40, 41, 42, 43, 44]), (6, [4, 45])] }
def zcT : List (Nat × List (List Nat)) := [(5, [[], [0], [0, 1], [0, 1, 2], [0, 1, 2, 3], [0, 1, 2, 3, 4], [0, 1, 2, 3], [0, 1, 2, 3], [0, 1, 2, 3, 4, 5, 6, 7], [0, 1, 2, 3, 4, 5, 6, 7, 8], [0, 1, 2, 3, 4, 5, 6, 7], [0, 1, 2, 3, 4, 5, 6, 7], [2, 3], [2, 3], [], []])]
def z5s : ACode := by
  refine val (x := codeL Tryz.prog Tryz.f192 z7W zcT 0 []) ?_ ?_
  rotate_left
  conv => lhs; reduce; try simp only [iP, iN, Int.cast_ofNat_Int, Int.natCast_zero, Int.natCast_one]
attribute [irreducible] z5s
def z9a : ACode := by
  refine val (x := codeC Tryz.prog Tryz.f192 z7W zcT [z5s]) ?_ ?_
  rotate_left
  conv => lhs; reduce; try simp only [iP, iN, Int.cast_ofNat_Int, Int.natCast_zero, Int.natCast_one]
def zdj : List ARes := []
def z3G : AFn := .code z9a zdj 46 true
def zbN : Hints := { kill := [(0, [4]), (1, [0, 1, 5, 6, 7, 8, 9, 10])], obj := [(10, [true, false, false])], ret := [4] }
def z9l : ACode := by
  refine val (x := codeC Tryz.prog Tryz.f152 zbN [] []) ?_ ?_
  rotate_left
  conv => lhs; reduce; try simp only [iP, iN, Int.cast_ofNat_Int, Int.natCast_zero, Int.natCast_one]
def zdu : List ARes := [.t 4]
def z3X : AFn := .code z9l zdu 11 true
def z4X : AFn := .ext (delF 8)
def zce : Hints := { kill := [(0, [0, 1, 5]), (1, [7, 8, 9]), (2, [10]), (3, [2, 3, 6, 11, 12, 13]), (4, [6, 11, 14, 15]), (5, [3, 16, 17, 18, 19, 20, 21, 22, 23]), (6, [24, 25, 26, 27]), (7, [2, 28])], ghost := [(5, [30])], ret := [4, 5] }
def zhL : List (Nat × List (List Nat)) := [(5, [[], [], [0, 1], [0, 1, 2], [0, 1, 2], [0, 1], [0, 1, 2, 3, 4, 5], [], []])]
def z6t : ACode := by
  refine val (x := codeC Tryz.prog Tryz.f52 zce zhL []) ?_ ?_
  rotate_left
  conv => lhs; reduce; try simp only [iP, iN, Int.cast_ofNat_Int, Int.natCast_zero, Int.natCast_one]
def z8I : List ARes := [.c 4 true 3, .t 5]
def z7c : AFn := .code z6t z8I 29 true
def zcl : Hints := { kill := [(0, [0, 1, 4]), (1, [7, 8]), (2, [9]), (3, [2, 3, 5, 10, 11]), (4, [5, 10, 12, 13]), (5, [14]), (6, [2, 3, 6, 15, 16]), (7, [6, 15, 18, 19, 20, 21, 22, 23]), (8, [2, 3, 17]), (9, [2, 3, 17, 25, 26, 27, 28, 29]), (10, [24]), (11, [24])], ret := [4] }
def z0M : ACode := by
  refine val (x := codeC Tryz.prog Tryz.f103 zcl [] []) ?_ ?_
  rotate_left
  conv => lhs; reduce; try simp only [iP, iN, Int.cast_ofNat_Int, Int.natCast_zero, Int.natCast_one]
def z12 : List ARes := [.t 4]
def z4v : AFn := .code z0M z12 30 true
def zcf : Hints := { kill := [(0, [0, 1, 5]), (1, [7, 8, 9]), (2, [10]), (3, [2, 3, 6, 11, 12, 13]), (4, [6, 11, 14, 15]), (5, [16, 17, 18, 19, 20, 21, 22]), (6, [3, 23, 24, 25, 26, 27, 28]), (7, [29, 30, 31, 32]), (8, [2, 33])], ghost := [(6, [30])], ret := [4, 5] }
def z6u : ACode := by
  refine val (x := codeC Tryz.prog Tryz.f53 zcf [] []) ?_ ?_
  rotate_left
  conv => lhs; reduce; try simp only [iP, iN, Int.cast_ofNat_Int, Int.natCast_zero, Int.natCast_one]
def z8J : List ARes := [.c 4 true 3, .t 5]
def z7d : AFn := .code z6u z8J 34 true
def zcn : Hints := { kill := [(0, [0, 1, 11]), (1, [14, 15, 16, 17, 18, 19, 20, 21, 22]), (2, [23]), (3, [2, 3, 4, 5, 6, 12, 24, 25, 26]), (4, [3, 12, 24, 28, 29, 30, 31, 32, 33]), (5, [2, 4, 5, 6, 27, 34]), (6, [27, 36, 37, 38, 39]), (7, [2, 4, 5, 6, 35, 40]), (8, [13, 35]), (9, [41, 42]), (10, [2, 4, 6, 43, 44, 45, 46, 47, 48, 49, 50, 51, 52, 53, 54]), (11, [55]), (12, [5, 13, 56, 57, 58]), (13, [5, 13, 56, 59])], ret := [10, 11] }
def zhO : List (Nat × List (List Nat)) := [(1, [[], [0], [0], [0, 1, 2], [0], [0, 1, 2, 3, 4], [0], [0], [], []])]
def z0N : ACode := by
  refine val (x := codeC Tryz.prog Tryz.f27 zcn zhO []) ?_ ?_
  rotate_left
  conv => lhs; reduce; try simp only [iP, iN, Int.cast_ofNat_Int, Int.natCast_zero, Int.natCast_one]
def z13 : List ARes := [.c 10 true 8, .t 11]
def z4y : AFn := .code z0N z13 60 true
def zbE : Hints := { kill := [(0, [0, 7]), (1, [14, 15]), (2, [16]), (3, [1, 2, 3, 8, 17, 18, 19]), (4, [8, 17, 20, 21, 22, 23, 24, 25]), (5, [10, 27, 28]), (6, [1, 2, 3, 9, 26, 29]), (7, [26, 31, 32, 33]), (8, [1, 2, 3, 9, 30, 34]), (9, [30, 35, 36, 37, 38, 39, 40, 41]), (10, [42]), (11, [1, 2, 3, 9, 11, 12, 43, 44, 45]), (12, [1, 43, 46, 47, 48, 49, 50, 51, 52, 53]), (13, [54]), (14, [2, 3, 9, 11, 12, 55, 56, 57]), (15, [3, 12, 55, 58, 59, 60]), (16, [2, 9, 61, 62, 63, 64, 65]), (17, [11, 13, 66, 67, 68])], ghost := [(16, [120])], ret := [6, 7] }
def z0a : ACode := by
  refine val (x := codeC Tryz.prog Tryz.f66 zbE [] []) ?_ ?_
  rotate_left
  conv => lhs; reduce; try simp only [iP, iN, Int.cast_ofNat_Int, Int.natCast_zero, Int.natCast_one]
def z0i : List ARes := [.c 6 true 2, .t 7]
def z3O : AFn := .code z0a z0i 69 true
def z8c : Hints := { kill := [(0, [0, 9, 10]), (1, [3, 17, 18, 19, 20, 21, 22, 23, 24, 25]), (2, [26]), (3, [1, 2, 4, 11, 27, 28, 29]), (4, [11, 27, 30, 31]), (5, [1, 2, 32, 33, 34, 35, 36]), (8, [40, 41, 42]), (10, [16]), (11, [14, 43, 44, 45, 46, 47, 48, 49]), (12, [50]), (13, [4, 12, 15, 16, 37, 38, 39, 51, 52, 53]), (14, [15, 51, 54, 55, 56, 57, 58, 59, 60, 61]), (15, [62]), (16, [4, 12, 16, 37, 38, 39, 63, 64, 65]), (17, [16, 63, 66]), (18, [4, 12, 37, 38, 39, 40, 67, 68])], exit := [(0, [4, 8, 12])], ret := [8, 9, 10] }
def zd2 : List (Nat × List (List Nat)) := [(1, [[], [0], [0], [0, 1, 2], [0], [0, 1, 2, 3, 4], [0], [0], [], []])]
def z0h : ACode := by
  refine val (x := codeL Tryz.prog Tryz.f28 z8c zd2 0 []) ?_ ?_
  rotate_left
  conv => lhs; reduce; try simp only [iP, iN, Int.cast_ofNat_Int, Int.natCast_zero, Int.natCast_one]
attribute [irreducible] z0h
def z3n : ACode := by
  refine val (x := codeC Tryz.prog Tryz.f28 z8c zd2 [z0h]) ?_ ?_
  rotate_left
  conv => lhs; reduce; try simp only [iP, iN, Int.cast_ofNat_Int, Int.natCast_zero, Int.natCast_one]
def z67 : List ARes := [.c 8 true 8, .t 9, .t 10]
def z4z : AFn := .code z3n z67 69 true
def zbH : Hints := { kill := [(0, [0, 2, 6]), (1, [7, 8]), (2, [1, 3, 5, 9]), (3, [1, 3, 5, 9, 10, 11, 12, 13, 14, 15])], obj := [(15, [true, false])], ret := [6] }
def z3c : ACode := by
  refine val (x := codeC Tryz.prog Tryz.f67 zbH [] []) ?_ ?_
  rotate_left
  conv => lhs; reduce; try simp only [iP, iN, Int.cast_ofNat_Int, Int.natCast_zero, Int.natCast_one]
def z5W : List ARes := [.t 6]
def z3R : AFn := .code z3c z5W 16 true
def z7V : Hints := { kill := [(0, [4]), (1, [9, 10]), (2, [0, 1, 11]), (3, [0, 11, 12, 13]), (4, [14, 15]), (6, [5]), (8, [19, 20, 21]), (9, [22, 23, 24]), (10, [8, 25, 26, 27, 28, 29, 30]), (11, [8, 25, 31]), (12, [1, 6, 16, 17, 18, 19, 32])], ghost := [(4, [26])], obj := [(15, [true, false])], acc := [6], exit := [(0, [6])], ret := [4] }
def z2Q : ACode := by
  refine val (x := codeL Tryz.prog Tryz.f120 z7V [] 0 []) ?_ ?_
  rotate_left
  conv => lhs; reduce; try simp only [iP, iN, Int.cast_ofNat_Int, Int.natCast_zero, Int.natCast_one]
attribute [irreducible] z2Q
def z6m : ACode := by
  refine val (x := codeC Tryz.prog Tryz.f120 z7V [] [z2Q]) ?_ ?_
  rotate_left
  conv => lhs; reduce; try simp only [iP, iN, Int.cast_ofNat_Int, Int.natCast_zero, Int.natCast_one]
def z8B : List ARes := [.t 4]
def z6T : AFn := .code z6m z8B 33 false
def zcQ : Hints := { kill := [(0, [5, 6]), (1, [0, 1, 4, 7, 8, 9, 10, 11, 12, 13])], obj := [(13, [true, false, false, false, false])] }
def z6D : ACode := by
  refine val (x := codeC Tryz.prog Tryz.f164 zcQ [] []) ?_ ?_
  rotate_left
  conv => lhs; reduce; try simp only [iP, iN, Int.cast_ofNat_Int, Int.natCast_zero, Int.natCast_one]
def z8T : List ARes := []
def z54 : AFn := .code z6D z8T 14 true
def zbO : Hints := { kill := [(0, [2]), (1, [0, 3, 4, 5]), (2, [0, 6, 7])], ret := [2] }
def z9m : ACode := by
  refine val (x := codeC Tryz.prog Tryz.f194 zbO [] []) ?_ ?_
  rotate_left
  conv => lhs; reduce; try simp only [iP, iN, Int.cast_ofNat_Int, Int.natCast_zero, Int.natCast_one]
def zdv : List ARes := [.t 2]
def z3Y : AFn := .code z9m zdv 8 true
def z9n : ACode :=
 (.seq (.ops [] [oP 2 (.mv (kI 0))] [])
 (.seq (.seq (.ops [] [oM 3 0, oP 4 (.bin .geq (.t 3) (.c (.d (.int .u32 65536))))] [3])
 (.cond (.t 4) (.seq (.ops [] [oM 5 0, oP 6 (.bin .shr (.t 5) (.c (.d (.int .u64 16)))), oM 0 6] [2, 4, 5, 6])
 (.ops [] [oP 2 (.mv (kI 16))] [])) .skip))
 (.seq (.seq (.ops [] [oM 7 0, oP 8 (.bin .geq (.t 7) (.c (.d (.int .u32 256))))] [4, 7])
 (.cond (.t 8) (.seq (.ops [] [oM 9 0, oP 10 (.bin .shr (.t 9) (.c (.d (.int .u64 8)))), oM 0 10] [8, 9, 10])
 (.ops [] [oM 11 2, oP 12 (.bin .add (.t 11) (kI 8)), oM 2 12] [11, 12])) .skip))
 (.seq (.ops [] [oM 13 2, oM 14 0, oP 15 (.cvi .u8 (.t 14)), oP 16 (.idx (.c (.d (.str [0, 1, 2, 2, 3, 3, 3, 3, 4, 4, 4, 4, 4, 4, 4, 4, 5, 5, 5, 5, 5, 5, 5, 5, 5, 5, 5, 5, 5, 5, 5, 5, 6, 6, 6, 6, 6, 6, 6, 6, 6, 6, 6, 6, 6, 6, 6, 6, 6, 6, 6, 6, 6, 6, 6, 6, 6, 6, 6, 6, 6, 6, 6, 6, 7, 7, 7, 7, 7, 7, 7, 7, 7, 7, 7, 7, 7, 7, 7, 7, 7, 7, 7, 7, 7, 7, 7, 7, 7, 7, 7, 7, 7, 7, 7, 7, 7, 7, 7, 7, 7, 7, 7, 7, 7, 7, 7, 7, 7, 7, 7, 7, 7, 7, 7, 7, 7, 7, 7, 7, 7, 7, 7, 7, 7, 7, 7, 7, 8, 8, 8, 8, 8, 8, 8, 8, 8, 8, 8, 8, 8, 8, 8, 8, 8, 8, 8, 8, 8, 8, 8, 8, 8, 8, 8, 8, 8, 8, 8, 8, 8, 8, 8, 8, 8, 8, 8, 8, 8, 8, 8, 8, 8, 8, 8, 8, 8, 8, 8, 8, 8, 8, 8, 8, 8, 8, 8, 8, 8, 8, 8, 8, 8, 8, 8, 8, 8, 8, 8, 8, 8, 8, 8, 8, 8, 8, 8, 8, 8, 8, 8, 8, 8, 8, 8, 8, 8, 8, 8, 8, 8, 8, 8, 8, 8, 8, 8, 8, 8, 8, 8, 8, 8, 8, 8, 8, 8, 8, 8, 8, 8, 8, 8, 8, 8, 8, 8, 8, 8, 8, 8, 8, 8, 8, 8, 8]))) (.t 15)), oP 17 (.cvi .i64 (.t 16)), oP 18 (.bin .add (.t 13) (.t 17)), oM 2 18] [0, 8, 13, 14, 15, 16, 17, 18])
 (.ret [2])))))
def zhV : List ARes := [.t 2]
def za6 : AFn := .code z9n zhV 19 true
def za : ACode :=
 (.seq (.ops [] [oP 2 (.mv (kI 0))] [])
 (.seq (.seq (.ops [] [oM 3 0, oP 4 (.bin .geq (.t 3) (.c (.d (.int .u64 4294967296))))] [3])
 (.cond (.t 4) (.seq (.ops [] [oM 5 0, oP 6 (.bin .shr (.t 5) (.c (.d (.int .u64 32)))), oM 0 6] [2, 4, 5, 6])
 (.ops [] [oP 2 (.mv (kI 32))] [])) .skip))
 (.seq (.seq (.ops [] [oM 7 0, oP 8 (.bin .geq (.t 7) (.c (.d (.int .u64 65536))))] [4, 7])
 (.cond (.t 8) (.seq (.ops [] [oM 9 0, oP 10 (.bin .shr (.t 9) (.c (.d (.int .u64 16)))), oM 0 10] [8, 9, 10])
 (.ops [] [oM 11 2, oP 12 (.bin .add (.t 11) (kI 16)), oM 2 12] [11, 12])) .skip))
 (.seq (.seq (.ops [] [oM 13 0, oP 14 (.bin .geq (.t 13) (.c (.d (.int .u64 256))))] [8, 13])
 (.cond (.t 14) (.seq (.ops [] [oM 15 0, oP 16 (.bin .shr (.t 15) (.c (.d (.int .u64 8)))), oM 0 16] [14, 15, 16])
 (.ops [] [oM 17 2, oP 18 (.bin .add (.t 17) (kI 8)), oM 2 18] [17, 18])) .skip))
 (.seq (.ops [] [oM 19 2, oM 20 0, oP 21 (.cvi .u8 (.t 20)), oP 22 (.idx (.c (.d (.str [0, 1, 2, 2, 3, 3, 3, 3, 4, 4, 4, 4, 4, 4, 4, 4, 5, 5, 5, 5, 5, 5, 5, 5, 5, 5, 5, 5, 5, 5, 5, 5, 6, 6, 6, 6, 6, 6, 6, 6, 6, 6, 6, 6, 6, 6, 6, 6, 6, 6, 6, 6, 6, 6, 6, 6, 6, 6, 6, 6, 6, 6, 6, 6, 7, 7, 7, 7, 7, 7, 7, 7, 7, 7, 7, 7, 7, 7, 7, 7, 7, 7, 7, 7, 7, 7, 7, 7, 7, 7, 7, 7, 7, 7, 7, 7, 7, 7, 7, 7, 7, 7, 7, 7, 7, 7, 7, 7, 7, 7, 7, 7, 7, 7, 7, 7, 7, 7, 7, 7, 7, 7, 7, 7, 7, 7, 7, 7, 8, 8, 8, 8, 8, 8, 8, 8, 8, 8, 8, 8, 8, 8, 8, 8, 8, 8, 8, 8, 8, 8, 8, 8, 8, 8, 8, 8, 8, 8, 8, 8, 8, 8, 8, 8, 8, 8, 8, 8, 8, 8, 8, 8, 8, 8, 8, 8, 8, 8, 8, 8, 8, 8, 8, 8, 8, 8, 8, 8, 8, 8, 8, 8, 8, 8, 8, 8, 8, 8, 8, 8, 8, 8, 8, 8, 8, 8, 8, 8, 8, 8, 8, 8, 8, 8, 8, 8, 8, 8, 8, 8, 8, 8, 8, 8, 8, 8, 8, 8, 8, 8, 8, 8, 8, 8, 8, 8, 8, 8, 8, 8, 8, 8, 8, 8, 8, 8, 8, 8, 8, 8, 8, 8, 8, 8, 8, 8]))) (.t 21)), oP 23 (.cvi .i64 (.t 22)), oP 24 (.bin .add (.t 19) (.t 23)), oM 2 24] [0, 14, 19, 20, 21, 22, 23, 24])
 (.ret [2]))))))
def ze : List ARes := [.t 2]
def z3Z : AFn := .code za ze 25 true
def z8m : Hints := { kill := [(2, [21, 22, 23]), (3, [24]), (4, [0, 1, 2, 3, 4, 10, 11, 12, 25, 26, 27, 28, 29, 30]), (5, [25, 31]), (6, [0, 1, 2, 3, 4, 10, 11, 12, 32, 33, 34, 35, 36, 37]), (7, [32, 38]), (8, [39, 40, 41, 42, 43, 44]), (9, [45, 46]), (10, [39, 47, 48, 49, 50, 51, 52, 53, 54]), (11, [55]), (12, [14, 56, 57, 58, 59, 60, 61]), (13, [62, 63, 64, 65, 66, 67]), (15, [14, 56, 68, 69, 70, 71, 72, 73, 74]), (16, [75, 76, 77, 78, 79]), (17, [75, 80, 81, 82, 83, 84, 85, 86, 87, 88, 89, 90, 91, 92, 93, 94, 95, 96]), (18, [1, 12, 13, 97, 98, 99, 100, 101, 102, 103]), (19, [15, 104]), (20, [10, 11, 13, 97, 105, 106, 107, 108, 109, 110, 111, 112, 113]), (21, [17, 114]), (22, [115, 116, 117, 118, 119, 120]), (23, [12, 121, 122]), (24, [123, 124]), (25, [18, 19, 20, 125, 126, 127, 128]), (26, [1, 129, 130, 131, 132, 133, 134]), (27, [16, 135, 136]), (28, [18, 19, 20, 125, 137, 138, 139]), (29, [2, 140, 141, 142, 143, 144, 145, 146]), (30, [16, 147])], obj := [(30, [true, false, false, false]), (37, [true, false, false, false]), (44, [true, false, false, false]), (61, [true, false, false, false]), (80, [true, false, false, false]), (103, [true, false, false, false, false]), (111, [true, false, false, false, false]), (134, [true, false, false, false, false]), (146, [true, false, false, false, false])], exit := [(1, [0, 1, 2, 3, 4, 10, 11])] }
def zd5 : List (Nat × List (List Nat)) := [(17, [[], [], [], [], [3], [3, 4], [3, 4], [3], [3], [3, 4, 5, 6, 7, 8], [3, 4, 5, 6, 7, 8, 9], [3, 4, 5, 6, 7, 8], [3, 4, 5, 6, 7, 8], [], [], [], []])]
def z5R : ACode := by
  refine val (x := codeL Tryz.prog Tryz.f193 z8m zd5 0 []) ?_ ?_
  rotate_left
  conv => lhs; reduce; try simp only [iP, iN, Int.cast_ofNat_Int, Int.natCast_zero, Int.natCast_one]
attribute [irreducible] z5R
def z6F : ACode := by
  refine val (x := codeC Tryz.prog Tryz.f193 z8m zd5 [z5R]) ?_ ?_
  rotate_left
  conv => lhs; reduce; try simp only [iP, iN, Int.cast_ofNat_Int, Int.natCast_zero, Int.natCast_one]
def z8V : List ARes := []
def z56 : AFn := .code z6F z8V 148 true
def z5n : Hints := { kill := [(0, [10, 11]), (1, [12, 13]), (2, [9, 15, 16, 34]), (3, [14, 17]), (4, [18, 19, 20, 21, 22, 23, 24, 25, 26, 27, 28, 29, 30, 31, 32, 33]), (5, [35, 36]), (6, [34, 37, 38, 39, 40, 41, 42, 43, 44, 45, 46, 47, 48, 49, 50, 51, 52])], exit := [(2, [0, 1, 2, 3, 8])] }
def z8s : List (Nat × List (List Nat)) := [(4, [[], [0], [], [], [], [4], [4, 5], [4], [4], [4, 5, 6, 7, 8], [4, 5, 6, 7, 8, 9], [4, 5, 6, 7, 8, 9], [4, 5, 6, 7, 8], [4, 5, 6, 7, 8], [], [], []]), (6, [[], [0], [0, 1], [0, 1, 2], [0, 1, 2], [0, 1, 2, 3, 4], [0, 1, 2, 3, 4, 5], [0, 1, 2, 3, 4, 5], [0, 1, 2, 3, 4], [0, 1, 2, 3, 4], [0, 1, 2, 3, 4, 5, 6, 7, 8, 9], [0, 1, 2, 3, 4, 5, 6, 7, 8, 9, 10], [0, 1, 2, 3, 4, 5, 6, 7, 8, 9], [0, 1, 2, 3, 4, 5, 6, 7, 8, 9], [2, 3, 4], [2, 3, 4], [], []])]
def z31 : ACode := by
  refine val (x := codeL Tryz.prog Tryz.f203 z5n z8s 0 []) ?_ ?_
  rotate_left
  conv => lhs; reduce; try simp only [iP, iN, Int.cast_ofNat_Int, Int.natCast_zero, Int.natCast_one]
attribute [irreducible] z31
def z32 : ACode := by
  refine val (x := codeL Tryz.prog Tryz.f203 z5n z8s 1 [z31]) ?_ ?_
  rotate_left
  conv => lhs; reduce; try simp only [iP, iN, Int.cast_ofNat_Int, Int.natCast_zero, Int.natCast_one]
attribute [irreducible] z32
def z6E : ACode := by
  refine val (x := codeC Tryz.prog Tryz.f203 z5n z8s [z31, z32]) ?_ ?_
  rotate_left
  conv => lhs; reduce; try simp only [iP, iN, Int.cast_ofNat_Int, Int.natCast_zero, Int.natCast_one]
def z8U : List ARes := []
def z55 : AFn := .code z6E z8U 53 true
def zbI : Hints := { kill := [(0, [4]), (1, [0, 6, 7, 8, 9, 10, 11, 12]), (2, [1, 2, 5, 13, 14, 15, 16, 17, 18, 19, 20])], ret := [4] }
def zhD : List (Nat × List (List Nat)) := [(2, [[], [], [0, 1], [], [], [], [0, 1, 2, 3, 4, 5], [], []])]
def z9i : ACode := by
  refine val (x := codeC Tryz.prog Tryz.f121 zbI zhD []) ?_ ?_
  rotate_left
  conv => lhs; reduce; try simp only [iP, iN, Int.cast_ofNat_Int, Int.natCast_zero, Int.natCast_one]
def zdr : List ARes := [.t 4]
def z3S : AFn := .code z9i zdr 21 true
def z8h : Hints := { kill := [(0, [4]), (1, [8, 9, 10]), (2, [11]), (3, [0, 1, 5, 12, 13]), (4, [12, 14, 15]), (5, [16, 17, 18]), (6, [7, 20, 21, 29]), (7, [19, 22, 23, 24, 25]), (8, [26, 27, 28]), (9, [7, 29, 30, 31, 32, 33]), (10, [34, 35]), (11, [1, 6, 19, 36, 37, 38]), (12, [0, 5, 39, 40, 41])], ghost := [(0, [2000000])], exit := [(0, [0, 5])], ret := [4] }
def z0U : ACode := by
  refine val (x := codeL Tryz.prog Tryz.f119 z8h [] 0 []) ?_ ?_
  rotate_left
  conv => lhs; reduce; try simp only [iP, iN, Int.cast_ofNat_Int, Int.natCast_zero, Int.natCast_one]
attribute [irreducible] z0U
def z3t : ACode := by
  refine val (x := codeC Tryz.prog Tryz.f119 z8h [] [z0U]) ?_ ?_
  rotate_left
  conv => lhs; reduce; try simp only [iP, iN, Int.cast_ofNat_Int, Int.natCast_zero, Int.natCast_one]
def z6d : List ARes := [.t 4]
def z4W : AFn := .code z3t z6d 42 false
def z8k : Hints := { kill := [(0, [4]), (1, [6]), (3, [9, 10]), (4, [11, 12, 13, 14, 15]), (5, [0, 1, 5, 7, 8, 16, 17]), (6, [5, 16, 18]), (7, [0, 1, 7, 8, 9])], ret := [4] }
def z5P : ACode := by
  refine val (x := codeL Tryz.prog Tryz.f163 z8k [] 0 []) ?_ ?_
  rotate_left
  conv => lhs; reduce; try simp only [iP, iN, Int.cast_ofNat_Int, Int.natCast_zero, Int.natCast_one]
attribute [irreducible] z5P
def z6B : ACode := by
  refine val (x := codeC Tryz.prog Tryz.f163 z8k [] [z5P]) ?_ ?_
  rotate_left
  conv => lhs; reduce; try simp only [iP, iN, Int.cast_ofNat_Int, Int.natCast_zero, Int.natCast_one]
def z8Q : List ARes := [.t 4]
def z50 : AFn := .code z6B z8Q 19 true
def zcm : Hints := { kill := [(0, [0, 1, 9]), (1, [13, 14, 15, 16, 17, 18, 19]), (2, [20]), (3, [2, 3, 4, 5, 10, 21, 22, 23]), (4, [2, 3, 10, 21, 24, 25, 26, 27, 28]), (5, [4, 5, 29, 30]), (6, [5, 11, 29, 31, 32, 33, 34, 35, 36, 37, 38]), (7, [4, 12, 39, 40])], ret := [8, 9] }
def zhN : List (Nat × List (List Nat)) := [(1, [[], [0], [0], [0, 1, 2], [0], [0], [], []])]
def z3m : ACode := by
  refine val (x := codeC Tryz.prog Tryz.f14 zcm zhN []) ?_ ?_
  rotate_left
  conv => lhs; reduce; try simp only [iP, iN, Int.cast_ofNat_Int, Int.natCast_zero, Int.natCast_one]
def z66 : List ARes := [.c 8 true 8, .t 9]
def z4x : AFn := .code z3m z66 41 true
def z5m : Hints := { kill := [(0, [0, 2]), (1, [9, 10, 11]), (2, [12]), (3, [1, 3, 13, 14]), (4, [3, 13, 15, 16, 17]), (5, [18]), (6, [1, 4, 19, 20]), (7, [4, 19, 21, 22, 23, 24, 25, 26, 27, 28]), (8, [29, 30]), (9, [1, 5, 31, 32, 33, 34, 35, 36, 37, 38, 39, 40, 41, 42]), (10, [43]), (11, [43]), (12, [31, 44, 45, 46, 47, 48]), (13, [1, 5, 49]), (14, [5, 49, 50, 51, 52, 53, 54]), (15, [1, 55]), (16, [55, 56, 57]), (18, [58, 59, 60]), (19, [62, 63, 81]), (20, [61, 64, 65, 66, 67, 68, 69, 70, 71, 72, 73, 74, 75, 76, 77, 78, 79, 80]), (21, [1, 6, 7, 81]), (22, [1, 7, 61]), (23, [82, 83, 84]), (24, [86, 87, 96]), (25, [85, 88, 89, 90, 91, 92, 93, 94, 95]), (26, [6, 8, 96]), (27, [6, 8, 85])], exit := [(0, [6])], ret := [2] }
def z8r : List (Nat × List (List Nat)) := [(20, [[], [0], [], [], [], [0, 1, 2, 3, 4], [0, 1, 2, 3, 4], [], [], [], [9], [], [], [], [9, 10, 11, 12, 13], [9, 10, 11, 12, 13], [], []])]
def z2V : ACode := by
  refine val (x := codeL Tryz.prog Tryz.f29 z5m z8r 0 []) ?_ ?_
  rotate_left
  conv => lhs; reduce; try simp only [iP, iN, Int.cast_ofNat_Int, Int.natCast_zero, Int.natCast_one]
attribute [irreducible] z2V
def z2W : ACode := by
  refine val (x := codeL Tryz.prog Tryz.f29 z5m z8r 1 []) ?_ ?_
  rotate_left
  conv => lhs; reduce; try simp only [iP, iN, Int.cast_ofNat_Int, Int.natCast_zero, Int.natCast_one]
attribute [irreducible] z2W
def zi : ACode := by
  refine val (x := codeC Tryz.prog Tryz.f29 z5m z8r [z2V, z2W]) ?_ ?_
  rotate_left
  conv => lhs; reduce; try simp only [iP, iN, Int.cast_ofNat_Int, Int.natCast_zero, Int.natCast_one]
def zm : List ARes := [.t 2]
def z7a : AFn := .code zi zm 97 true
def zcb : Hints := { kill := [(0, [4]), (1, [0, 1, 5, 6, 7, 8, 9, 10, 11, 12, 13, 14, 15])], ret := [4] }
def z6s : ACode := by
  refine val (x := codeC Tryz.prog Tryz.f70 zcb [] []) ?_ ?_
  rotate_left
  conv => lhs; reduce; try simp only [iP, iN, Int.cast_ofNat_Int, Int.natCast_zero, Int.natCast_one]
def z8H : List ARes := [.t 4]
def z4p : AFn := .code z6s z8H 16 true
def zbC : Hints := { kill := [(0, [0]), (1, [10, 11, 12, 13]), (2, [14, 15, 16, 17, 18, 19]), (3, [20, 21, 22, 23, 24, 25]), (4, [26]), (5, [7, 27, 28, 29, 30, 31, 32]), (6, [1, 2, 3, 4, 5, 6, 8, 9, 33, 34, 35, 36, 37, 38, 39, 40, 41, 42, 43, 44, 45, 46, 47, 48, 49, 50, 51, 52, 53, 54, 55, 56, 57, 58, 59, 60, 61, 62, 63, 64, 65, 66, 67])], ret := [0] }
def z9g : ACode := by
  refine val (x := codeC Tryz.prog Tryz.f12 zbC [] []) ?_ ?_
  rotate_left
  conv => lhs; reduce; try simp only [iP, iN, Int.cast_ofNat_Int, Int.natCast_zero, Int.natCast_one]
def zdp : List ARes := [.t 0]
def z3N : AFn := .code z9g zdp 68 true
def zcq : Hints := { kill := [(0, [7]), (1, [0, 10, 11, 12, 13, 14]), (2, [15]), (3, [1, 2, 8, 9, 16, 17, 18]), (4, [9, 16, 19, 20, 21]), (5, [1, 2, 8, 22, 23]), (6, [1, 2, 8, 22, 24, 25, 26, 27])], ret := [6, 7] }
def z9P : ACode := by
  refine val (x := codeC Tryz.prog Tryz.f47 zcq [] []) ?_ ?_
  rotate_left
  conv => lhs; reduce; try simp only [iP, iN, Int.cast_ofNat_Int, Int.natCast_zero, Int.natCast_one]
def zdX : List ARes := [.c 6 true 8, .t 7]
def z4C : AFn := .code z9P zdX 28 true
def zcd : Hints := { kill := [(0, [3]), (1, [4, 5, 6, 7, 8]), (2, [0, 9, 10]), (3, [0, 9, 11, 12, 13])], ret := [2, 3] }
def z9I : ACode := by
  refine val (x := codeC Tryz.prog Tryz.f98 zcd [] []) ?_ ?_
  rotate_left
  conv => lhs; reduce; try simp only [iP, iN, Int.cast_ofNat_Int, Int.natCast_zero, Int.natCast_one]
def zdQ : List ARes := [.c 2 true 3, .t 3]
def z4q : AFn := .code z9I zdQ 14 true
def zcr : Hints := { kill := [(0, [0, 1, 5]), (1, [7, 8]), (2, [9]), (3, [2, 3, 6, 10, 11, 12]), (4, [2, 3, 6, 10, 13, 14, 15, 16, 17])], ret := [4, 5] }
def z9Q : ACode := by
  refine val (x := codeC Tryz.prog Tryz.f48 zcr [] []) ?_ ?_
  rotate_left
  conv => lhs; reduce; try simp only [iP, iN, Int.cast_ofNat_Int, Int.natCast_zero, Int.natCast_one]
def zdY : List ARes := [.c 4 true 8, .t 5]
def z4D : AFn := .code z9Q zdY 18 true
def zcD : Hints := { kill := [(0, [0, 1, 5]), (1, [8, 9]), (2, [10]), (3, [2, 3, 6, 11, 12, 13]), (4, [6, 11, 15, 16, 17, 18, 19, 20, 21, 22]), (5, [2, 3, 14, 23]), (6, [14, 25, 26, 27]), (7, [2, 3, 24, 28]), (8, [24, 30, 31, 32, 33]), (9, [2, 3, 29, 34]), (10, [7, 29]), (11, [35, 36]), (12, [3, 37, 38, 39, 40, 41, 42, 43, 44]), (13, [45]), (14, [2, 7, 46, 47, 48]), (15, [2, 7, 46, 49])], ret := [4, 5] }
def z9Y : ACode := by
  refine val (x := codeC Tryz.prog Tryz.f100 zcD [] []) ?_ ?_
  rotate_left
  conv => lhs; reduce; try simp only [iP, iN, Int.cast_ofNat_Int, Int.natCast_zero, Int.natCast_one]
def ze6 : List ARes := [.c 4 true 8, .t 5]
def z4N : AFn := .code z9Y ze6 50 true
def zcF : Hints := { kill := [(0, [0, 2]), (1, [1, 3, 4, 5, 6, 7, 8, 9])], ret := [2] }
def zhU : List (Nat × List (List Nat)) := [(1, [[], [], [], [], [0, 1, 2, 3], [0, 1, 2, 3], [], []])]
def z9Z : ACode := by
  refine val (x := codeC Tryz.prog Tryz.f60 zcF zhU []) ?_ ?_
  rotate_left
  conv => lhs; reduce; try simp only [iP, iN, Int.cast_ofNat_Int, Int.natCast_zero, Int.natCast_one]
def ze7 : List ARes := [.t 2]
def z7m : AFn := .code z9Z ze7 10 true
def zct : Hints := { kill := [(0, [0, 1, 4]), (1, [2, 3, 5, 6, 7, 8])], ret := [4] }
def z9R : ACode := by
  refine val (x := codeC Tryz.prog Tryz.f64 zct [] []) ?_ ?_
  rotate_left
  conv => lhs; reduce; try simp only [iP, iN, Int.cast_ofNat_Int, Int.natCast_zero, Int.natCast_one]
def zdZ : List ARes := [.t 4]
def z7i : AFn := .code z9R zdZ 9 true
def zcu : Hints := { kill := [(0, [0, 3]), (1, [1, 2, 4, 5, 6, 7])], ret := [3] }
def z9S : ACode := by
  refine val (x := codeC Tryz.prog Tryz.f114 zcu [] []) ?_ ?_
  rotate_left
  conv => lhs; reduce; try simp only [iP, iN, Int.cast_ofNat_Int, Int.natCast_zero, Int.natCast_one]
def ze0 : List ARes := [.t 3]
def z4G : AFn := .code z9S ze0 8 true
def zcN : Hints := { kill := [(0, [4]), (1, [0, 1, 5, 6, 7, 8])], ret := [4] }
def za2 : ACode := by
  refine val (x := codeC Tryz.prog Tryz.f61 zcN [] []) ?_ ?_
  rotate_left
  conv => lhs; reduce; try simp only [iP, iN, Int.cast_ofNat_Int, Int.natCast_zero, Int.natCast_one]
def zea : List ARes := [.t 4]
def z4T : AFn := .code za2 zea 9 true
def zco : Hints := { kill := [(0, [0, 1, 8]), (1, [2, 3, 4, 5, 9, 10, 11, 12, 13, 14, 15, 16, 17, 18, 19, 20, 21, 22, 23])], ret := [8] }
def zhP : List (Nat × List (List Nat)) := [(1, [[], [0], [0], [0, 1, 2], [0], [0], [], [], [], [], [9], [9, 10], [9, 10, 11], [], [], []])]
def z6v : ACode := by
  refine val (x := codeC Tryz.prog Tryz.f13 zco zhP []) ?_ ?_
  rotate_left
  conv => lhs; reduce; try simp only [iP, iN, Int.cast_ofNat_Int, Int.natCast_zero, Int.natCast_one]
def z8K : List ARes := [.t 8]
def z4A : AFn := .code z6v z8K 24 true
end Go.Proofs.YtcjncbkhbllchaaGreat
