/-
  The reader of numbers.
-/
import Derived.Test.YtlphhhmicdjljaaRG1
namespace Go.Proofs.Ytlphhhmicdjljaa
open Go Go.Sim
set_option linter.unusedSimpArgs false
set_option linter.unusedVariables false
set_option maxHeartbeats 10000000
set_option maxRecDepth 40000
theorem wrapN {x : Int} (h0 : -4294967296 ≤ x) (h1 : x ≤ 4294967296) : IntKind.i64.wrap x = x := wr (by omega)

/-- The reader: what it has, where it is. -/
abbrev srcO (l : List Int) (a : Nat) : Go.Sim.Obj := .row [.d (.agg [.sl (ints l), .int .i64 a])]
theorem new_ok (l : List Int) (hL : l.length ≤ LIM) : callL G N_base_New [.d (.sl (ints l))] [] = some (.ref 0 0 0, [(0, srcO (l.take 4000) 0)]) := by
  have hs := allSize_ints l
  rw [callL_code g_base_New (by simp)]; simp -implicitDefEqProofs only [c_base_New, r_base_New, go_sem, ↓reduceIte, reduceCtorEq, Nat.reduceEqDiff, Nat.reduceAdd, Nat.reduceBEq, Nat.reduceMul, Nat.reduceLeDiff, Nat.reduceSub, Nat.reduceLT, Nat.reduceDiv, Nat.reduceMod, List.reduceReplicate, Int.reduceEq, Int.reduceLT, Int.reduceLE, Int.reduceAdd, Int.reduceSub, Int.reduceMul, Int.reduceNeg, Int.reduceToNat]
  by_cases h : 4000 < l.length
  · simp -implicitDefEqProofs only [hs, List.length_map, show 4000 < (l.length : Int) by omega, show (4000 : Int) ≤ (l.length : Int) by omega, go_sem, ↓reduceIte, reduceCtorEq, Nat.reduceEqDiff, Nat.reduceAdd, Nat.reduceBEq, Nat.reduceMul, Nat.reduceLeDiff, Nat.reduceSub, Nat.reduceLT, Nat.reduceDiv, Nat.reduceMod, List.reduceReplicate, Int.reduceEq, Int.reduceLT, Int.reduceLE, Int.reduceAdd, Int.reduceSub, Int.reduceMul, Int.reduceNeg, Int.reduceToNat]
    simp [srcO, ints, List.map_take]
  · simp -implicitDefEqProofs only [hs, List.length_map, show ¬ 4000 < (l.length : Int) by omega, go_sem, ↓reduceIte, reduceCtorEq, Nat.reduceEqDiff, Nat.reduceAdd, Nat.reduceBEq, Nat.reduceMul, Nat.reduceLeDiff, Nat.reduceSub, Nat.reduceLT, Nat.reduceDiv, Nat.reduceMod, List.reduceReplicate, Int.reduceEq, Int.reduceLT, Int.reduceLE, Int.reduceAdd, Int.reduceSub, Int.reduceMul, Int.reduceNeg, Int.reduceToNat]
    simp [srcO, List.take_of_length_le (show l.length ≤ 4000 by omega)]
def rawD (l : List Int) (a : Nat) : Int × Nat := if a < l.length then (l.getD a 0, a + 1) else (0, a)
theorem raw_ok (l : List Int) (a : Nat) (hL : l.length ≤ 4000) : callL G N_base_Src_Raw [.ref 1000000 0 0] [(1000000, srcO l a)] = some (.d (.int .i64 (rawD l a).1), [(1000000, srcO l (rawD l a).2)]) := by
  rw [callL_code g_base_Src_Raw (by simp)]; simp -implicitDefEqProofs only [c_base_Src_Raw, r_base_Src_Raw, go_sem, ↓reduceIte, reduceCtorEq, Nat.reduceEqDiff, Nat.reduceAdd, Nat.reduceBEq, Nat.reduceMul, Nat.reduceLeDiff, Nat.reduceSub, Nat.reduceLT, Nat.reduceDiv, Nat.reduceMod, List.reduceReplicate, Int.reduceEq, Int.reduceLT, Int.reduceLE, Int.reduceAdd, Int.reduceSub, Int.reduceMul, Int.reduceNeg, Int.reduceToNat]
  unfold rawD
  by_cases h : a < l.length
  · have hw : IntKind.i64.wrap ((a : Int) + 1) = ((a + 1 : Nat) : Int) := by rw [wrapN (by omega) (by omega)]; omega
    have hw4 : IntKind.i64.wrap (((a + 1 : Nat) : Int) - 1) = (a : Int) := by rw [wrapN (by omega) (by omega)]; omega
    have hg : (ints l)[a]? = some (.int .i64 (l.getD a 0)) := by simp [List.getElem?_map, List.getElem?_eq_getElem h, h]
    simp -implicitDefEqProofs only [h, hw, hw4, hg, List.length_map, show ¬ (l.length : Int) ≤ (a : Int) by omega, show (a : Int) < (l.length : Int) by omega, Int.natCast_nonneg, Int.toNat_natCast, go_sem, ↓reduceIte, reduceCtorEq, Nat.reduceEqDiff, Nat.reduceAdd, Nat.reduceBEq, Nat.reduceMul, Nat.reduceLeDiff, Nat.reduceSub, Nat.reduceLT, Nat.reduceDiv, Nat.reduceMod, List.reduceReplicate, Int.reduceEq, Int.reduceLT, Int.reduceLE, Int.reduceAdd, Int.reduceSub, Int.reduceMul, Int.reduceNeg, Int.reduceToNat]
  · simp -implicitDefEqProofs only [h, List.length_map, show (l.length : Int) ≤ (a : Int) by omega, go_sem, ↓reduceIte, reduceCtorEq, Nat.reduceEqDiff, Nat.reduceAdd, Nat.reduceBEq, Nat.reduceMul, Nat.reduceLeDiff, Nat.reduceSub, Nat.reduceLT, Nat.reduceDiv, Nat.reduceMod, List.reduceReplicate, Int.reduceEq, Int.reduceLT, Int.reduceLE, Int.reduceAdd, Int.reduceSub, Int.reduceMul, Int.reduceNeg, Int.reduceToNat]

theorem raw_le (l : List Int) (a : Nat) (h : a ≤ l.length) : (rawD l a).2 ≤ l.length := by unfold rawD; split <;> simp <;> omega
def nD (l : List Int) (a : Nat) (n : Int) : Int := if (rawD l a).1.tmod n < 0 then (rawD l a).1.tmod n + n else (rawD l a).1.tmod n
theorem nD_in (l : List Int) (a : Nat) {n : Int} (h : 1 ≤ n) : 0 ≤ nD l a n ∧ nD l a n < n := by
  unfold nD
  have h1 := Int.tmod_lt_of_pos (rawD l a).1 (show 0 < n by omega)
  have h2 := Int.lt_tmod_of_pos (rawD l a).1 (show 0 < n by omega)
  split <;> omega
theorem n_ok (l : List Int) (a : Nat) (n : Int) (hL : l.length ≤ 4000) (h1 : 1 ≤ n) (h2 : n ≤ 4294967296) : callL G N_base_Src_N [.ref 1000000 0 0, .d (.int .i64 n)] [(1000000, srcO l a)] = some (.d (.int .i64 (nD l a n)), [(1000000, srcO l (rawD l a).2)]) := by
  have hr := raw_ok l a hL
  have h3 := Int.tmod_lt_of_pos (rawD l a).1 (show 0 < n by omega)
  have h4 := Int.lt_tmod_of_pos (rawD l a).1 (show 0 < n by omega)
  rw [callL_code g_base_Src_N (by simp)]; simp -implicitDefEqProofs only [c_base_Src_N, r_base_Src_N, go_sem, ↓reduceIte, reduceCtorEq, Nat.reduceEqDiff, Nat.reduceAdd, Nat.reduceBEq, Nat.reduceMul, Nat.reduceLeDiff, Nat.reduceSub, Nat.reduceLT, Nat.reduceDiv, Nat.reduceMod, List.reduceReplicate, Int.reduceEq, Int.reduceLT, Int.reduceLE, Int.reduceAdd, Int.reduceSub, Int.reduceMul, Int.reduceNeg, Int.reduceToNat]
  unfold nD
  by_cases h : (rawD l a).1.tmod n < 0
  · have hw : IntKind.i64.wrap ((rawD l a).1.tmod n + n) = (rawD l a).1.tmod n + n := by rw [wrapN (by omega) (by omega)]
    simp -implicitDefEqProofs only [hr, h, hw, show ¬ n < 1 by omega, show ¬ n = 0 by omega, go_sem, ↓reduceIte, reduceCtorEq, Nat.reduceEqDiff, Nat.reduceAdd, Nat.reduceBEq, Nat.reduceMul, Nat.reduceLeDiff, Nat.reduceSub, Nat.reduceLT, Nat.reduceDiv, Nat.reduceMod, List.reduceReplicate, Int.reduceEq, Int.reduceLT, Int.reduceLE, Int.reduceAdd, Int.reduceSub, Int.reduceMul, Int.reduceNeg, Int.reduceToNat]
  · simp -implicitDefEqProofs only [hr, h, show ¬ n < 1 by omega, show ¬ n = 0 by omega, go_sem, ↓reduceIte, reduceCtorEq, Nat.reduceEqDiff, Nat.reduceAdd, Nat.reduceBEq, Nat.reduceMul, Nat.reduceLeDiff, Nat.reduceSub, Nat.reduceLT, Nat.reduceDiv, Nat.reduceMod, List.reduceReplicate, Int.reduceEq, Int.reduceLT, Int.reduceLE, Int.reduceAdd, Int.reduceSub, Int.reduceMul, Int.reduceNeg, Int.reduceToNat]
theorem range_ok (l : List Int) (a : Nat) (lo hi : Int) (hL : l.length ≤ 4000) (h0 : -4294967296 ≤ lo) (h1 : lo ≤ hi) (h2 : hi ≤ 4294967296) (h3 : hi - lo < 4294967296) : callL G N_base_Src_Range [.ref 1000000 0 0, .d (.int .i64 lo), .d (.int .i64 hi)] [(1000000, srcO l a)] = some (.d (.int .i64 (lo + nD l a (hi - lo + 1))), [(1000000, srcO l (rawD l a).2)]) := by
  have hr := n_ok l a (hi - lo + 1) hL (by omega) (by omega)
  have hn := nD_in l a (show 1 ≤ hi - lo + 1 by omega)
  have w1 : IntKind.i64.wrap (hi - lo) = hi - lo := by rw [wrapN (by omega) (by omega)]
  have w2 : IntKind.i64.wrap (hi - lo + 1) = hi - lo + 1 := by rw [wrapN (by omega) (by omega)]
  have w3 : IntKind.i64.wrap (lo + nD l a (hi - lo + 1)) = lo + nD l a (hi - lo + 1) := by rw [wrapN (by omega) (by omega)]
  rw [callL_code g_base_Src_Range (by simp)]; simp -implicitDefEqProofs only [c_base_Src_Range, r_base_Src_Range, go_sem, ↓reduceIte, reduceCtorEq, Nat.reduceEqDiff, Nat.reduceAdd, Nat.reduceBEq, Nat.reduceMul, Nat.reduceLeDiff, Nat.reduceSub, Nat.reduceLT, Nat.reduceDiv, Nat.reduceMod, List.reduceReplicate, Int.reduceEq, Int.reduceLT, Int.reduceLE, Int.reduceAdd, Int.reduceSub, Int.reduceMul, Int.reduceNeg, Int.reduceToNat]
  simp -implicitDefEqProofs only [w1, w2, w3, hr, go_sem, ↓reduceIte, reduceCtorEq, Nat.reduceEqDiff, Nat.reduceAdd, Nat.reduceBEq, Nat.reduceMul, Nat.reduceLeDiff, Nat.reduceSub, Nat.reduceLT, Nat.reduceDiv, Nat.reduceMod, List.reduceReplicate, Int.reduceEq, Int.reduceLT, Int.reduceLE, Int.reduceAdd, Int.reduceSub, Int.reduceMul, Int.reduceNeg, Int.reduceToNat]
end Go.Proofs.Ytlphhhmicdjljaa
