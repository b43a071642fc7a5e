/-
  The reader of numbers, and heaps as the reference builds them.
-/
import Derived.Test.YtlphhhmicdjljabQD6a
namespace Go.Proofs.Ytlphhhmicdjljab
open Go Go.Sim
set_option linter.unusedSimpArgs false
set_option linter.unusedVariables false
set_option maxRecDepth 40000

abbrev ints (l : List Int) : List D := l.map (.int .i64)
/-- The reader: what it has, where it is. -/
abbrev srcO (l : List Int) (a : Nat) : Go.Sim.Obj := .row [.d (.agg [.sl (ints l), .int .i64 a])]
theorem allSize_ints (l : List Int) : allSize 1 (ints l) = true := by simp [allSize, D.size, D.cells]
theorem new_ok (l : List Int) (hL : l.length ≤ LIM) : callL G N_base_New [.d (.sl (ints l))] [] = some (.ref 0 0 0, [(0, srcO (l.take 4000) 0)]) := by
  have hs := allSize_ints l
  rw [callL_code g_base_New (by simp)]; simp -implicitDefEqProofs only [c_base_New, r_base_New, go_sem, ↓reduceIte, reduceCtorEq, Nat.reduceEqDiff, Nat.reduceAdd, Nat.reduceBEq, Nat.reduceMul, Nat.reduceLeDiff, Nat.reduceSub, Nat.reduceLT, Nat.reduceDiv, Nat.reduceMod, List.reduceReplicate, Int.reduceEq, Int.reduceLT, Int.reduceLE, Int.reduceAdd, Int.reduceSub, Int.reduceMul, Int.reduceNeg, Int.reduceToNat]
  by_cases h : 4000 < l.length
  · simp -implicitDefEqProofs only [hs, List.length_map, show 4000 < (l.length : Int) by omega, show (4000 : Int) ≤ (l.length : Int) by omega, go_sem, ↓reduceIte, reduceCtorEq, Nat.reduceEqDiff, Nat.reduceAdd, Nat.reduceBEq, Nat.reduceMul, Nat.reduceLeDiff, Nat.reduceSub, Nat.reduceLT, Nat.reduceDiv, Nat.reduceMod, List.reduceReplicate, Int.reduceEq, Int.reduceLT, Int.reduceLE, Int.reduceAdd, Int.reduceSub, Int.reduceMul, Int.reduceNeg, Int.reduceToNat]
    simp [srcO, ints, List.map_take]
  · simp -implicitDefEqProofs only [hs, List.length_map, show ¬ 4000 < (l.length : Int) by omega, go_sem, ↓reduceIte, reduceCtorEq, Nat.reduceEqDiff, Nat.reduceAdd, Nat.reduceBEq, Nat.reduceMul, Nat.reduceLeDiff, Nat.reduceSub, Nat.reduceLT, Nat.reduceDiv, Nat.reduceMod, List.reduceReplicate, Int.reduceEq, Int.reduceLT, Int.reduceLE, Int.reduceAdd, Int.reduceSub, Int.reduceMul, Int.reduceNeg, Int.reduceToNat]
    simp [srcO, List.take_of_length_le (show l.length ≤ 4000 by omega)]
def rawD (l : List Int) (a : Nat) : Int × Nat := if a < l.length then (l.getD a 0, a + 1) else (0, a)
theorem raw_ok (l : List Int) (a : Nat) (hL : l.length ≤ 4000) : callL G N_base_Src_Raw [.ref 1000000 0 0] [(1000000, srcO l a)] = some (.d (.int .i64 (rawD l a).1), [(1000000, srcO l (rawD l a).2)]) := by
  rw [callL_code g_base_Src_Raw (by simp)]; simp -implicitDefEqProofs only [c_base_Src_Raw, r_base_Src_Raw, go_sem, ↓reduceIte, reduceCtorEq, Nat.reduceEqDiff, Nat.reduceAdd, Nat.reduceBEq, Nat.reduceMul, Nat.reduceLeDiff, Nat.reduceSub, Nat.reduceLT, Nat.reduceDiv, Nat.reduceMod, List.reduceReplicate, Int.reduceEq, Int.reduceLT, Int.reduceLE, Int.reduceAdd, Int.reduceSub, Int.reduceMul, Int.reduceNeg, Int.reduceToNat]
  unfold rawD
  by_cases h : a < l.length
  · have hw : IntKind.i64.wrap ((a : Int) + 1) = ((a + 1 : Nat) : Int) := by rw [wrapN (by omega) (by omega)]; omega
    have hw4 : IntKind.i64.wrap (((a + 1 : Nat) : Int) - 1) = (a : Int) := by rw [wrapN (by omega) (by omega)]; omega
    have hg : (ints l)[a]? = some (.int .i64 (l.getD a 0)) := by simp [List.getElem?_map, List.getElem?_eq_getElem h, h]
    simp -implicitDefEqProofs only [h, hw, hw4, hg, List.length_map, show ¬ (l.length : Int) ≤ (a : Int) by omega, show (a : Int) < (l.length : Int) by omega, Int.natCast_nonneg, Int.toNat_natCast, go_sem, ↓reduceIte, reduceCtorEq, Nat.reduceEqDiff, Nat.reduceAdd, Nat.reduceBEq, Nat.reduceMul, Nat.reduceLeDiff, Nat.reduceSub, Nat.reduceLT, Nat.reduceDiv, Nat.reduceMod, List.reduceReplicate, Int.reduceEq, Int.reduceLT, Int.reduceLE, Int.reduceAdd, Int.reduceSub, Int.reduceMul, Int.reduceNeg, Int.reduceToNat]
  · simp -implicitDefEqProofs only [h, List.length_map, show (l.length : Int) ≤ (a : Int) by omega, go_sem, ↓reduceIte, reduceCtorEq, Nat.reduceEqDiff, Nat.reduceAdd, Nat.reduceBEq, Nat.reduceMul, Nat.reduceLeDiff, Nat.reduceSub, Nat.reduceLT, Nat.reduceDiv, Nat.reduceMod, List.reduceReplicate, Int.reduceEq, Int.reduceLT, Int.reduceLE, Int.reduceAdd, Int.reduceSub, Int.reduceMul, Int.reduceNeg, Int.reduceToNat]

theorem raw_le (l : List Int) (a : Nat) (h : a ≤ l.length) : (rawD l a).2 ≤ l.length := by unfold rawD; split <;> simp <;> omega
def nD (l : List Int) (a : Nat) (n : Int) : Int := if (rawD l a).1.tmod n < 0 then (rawD l a).1.tmod n + n else (rawD l a).1.tmod n
theorem nD_in (l : List Int) (a : Nat) {n : Int} (h : 1 ≤ n) : 0 ≤ nD l a n ∧ nD l a n < n := by
  unfold nD
  have h1 := Int.tmod_lt_of_pos (rawD l a).1 (show 0 < n by omega)
  have h2 := Int.lt_tmod_of_pos (rawD l a).1 (show 0 < n by omega)
  split <;> omega
theorem n_ok (l : List Int) (a : Nat) (n : Int) (hL : l.length ≤ 4000) (h1 : 1 ≤ n) (h2 : n ≤ 4294967296) : callL G N_base_Src_N [.ref 1000000 0 0, .d (.int .i64 n)] [(1000000, srcO l a)] = some (.d (.int .i64 (nD l a n)), [(1000000, srcO l (rawD l a).2)]) := by
  have hr := raw_ok l a hL
  have h3 := Int.tmod_lt_of_pos (rawD l a).1 (show 0 < n by omega)
  have h4 := Int.lt_tmod_of_pos (rawD l a).1 (show 0 < n by omega)
  rw [callL_code g_base_Src_N (by simp)]; simp -implicitDefEqProofs only [c_base_Src_N, r_base_Src_N, go_sem, ↓reduceIte, reduceCtorEq, Nat.reduceEqDiff, Nat.reduceAdd, Nat.reduceBEq, Nat.reduceMul, Nat.reduceLeDiff, Nat.reduceSub, Nat.reduceLT, Nat.reduceDiv, Nat.reduceMod, List.reduceReplicate, Int.reduceEq, Int.reduceLT, Int.reduceLE, Int.reduceAdd, Int.reduceSub, Int.reduceMul, Int.reduceNeg, Int.reduceToNat]
  unfold nD
  by_cases h : (rawD l a).1.tmod n < 0
  · have hw : IntKind.i64.wrap ((rawD l a).1.tmod n + n) = (rawD l a).1.tmod n + n := by rw [wrapN (by omega) (by omega)]
    simp -implicitDefEqProofs only [hr, h, hw, show ¬ n < 1 by omega, show ¬ n = 0 by omega, go_sem, ↓reduceIte, reduceCtorEq, Nat.reduceEqDiff, Nat.reduceAdd, Nat.reduceBEq, Nat.reduceMul, Nat.reduceLeDiff, Nat.reduceSub, Nat.reduceLT, Nat.reduceDiv, Nat.reduceMod, List.reduceReplicate, Int.reduceEq, Int.reduceLT, Int.reduceLE, Int.reduceAdd, Int.reduceSub, Int.reduceMul, Int.reduceNeg, Int.reduceToNat]
  · simp -implicitDefEqProofs only [hr, h, show ¬ n < 1 by omega, show ¬ n = 0 by omega, go_sem, ↓reduceIte, reduceCtorEq, Nat.reduceEqDiff, Nat.reduceAdd, Nat.reduceBEq, Nat.reduceMul, Nat.reduceLeDiff, Nat.reduceSub, Nat.reduceLT, Nat.reduceDiv, Nat.reduceMod, List.reduceReplicate, Int.reduceEq, Int.reduceLT, Int.reduceLE, Int.reduceAdd, Int.reduceSub, Int.reduceMul, Int.reduceNeg, Int.reduceToNat]
theorem range_ok (l : List Int) (a : Nat) (lo hi : Int) (hL : l.length ≤ 4000) (h0 : -4294967296 ≤ lo) (h1 : lo ≤ hi) (h2 : hi ≤ 4294967296) (h3 : hi - lo < 4294967296) : callL G N_base_Src_Range [.ref 1000000 0 0, .d (.int .i64 lo), .d (.int .i64 hi)] [(1000000, srcO l a)] = some (.d (.int .i64 (lo + nD l a (hi - lo + 1))), [(1000000, srcO l (rawD l a).2)]) := by
  have hr := n_ok l a (hi - lo + 1) hL (by omega) (by omega)
  have hn := nD_in l a (show 1 ≤ hi - lo + 1 by omega)
  have w1 : IntKind.i64.wrap (hi - lo) = hi - lo := by rw [wrapN (by omega) (by omega)]
  have w2 : IntKind.i64.wrap (hi - lo + 1) = hi - lo + 1 := by rw [wrapN (by omega) (by omega)]
  have w3 : IntKind.i64.wrap (lo + nD l a (hi - lo + 1)) = lo + nD l a (hi - lo + 1) := by rw [wrapN (by omega) (by omega)]
  rw [callL_code g_base_Src_Range (by simp)]; simp -implicitDefEqProofs only [c_base_Src_Range, r_base_Src_Range, go_sem, ↓reduceIte, reduceCtorEq, Nat.reduceEqDiff, Nat.reduceAdd, Nat.reduceBEq, Nat.reduceMul, Nat.reduceLeDiff, Nat.reduceSub, Nat.reduceLT, Nat.reduceDiv, Nat.reduceMod, List.reduceReplicate, Int.reduceEq, Int.reduceLT, Int.reduceLE, Int.reduceAdd, Int.reduceSub, Int.reduceMul, Int.reduceNeg, Int.reduceToNat]
  simp -implicitDefEqProofs only [w1, w2, w3, hr, go_sem, ↓reduceIte, reduceCtorEq, Nat.reduceEqDiff, Nat.reduceAdd, Nat.reduceBEq, Nat.reduceMul, Nat.reduceLeDiff, Nat.reduceSub, Nat.reduceLT, Nat.reduceDiv, Nat.reduceMod, List.reduceReplicate, Int.reduceEq, Int.reduceLT, Int.reduceLE, Int.reduceAdd, Int.reduceSub, Int.reduceMul, Int.reduceNeg, Int.reduceToNat]

/-! ### The reference -/
theorem refBefore_ok (a b : Due) : callL G N_ref05_before [.d (eD a), .d (eD b)] [] = some (.d (.bool (lt a b)), []) := by
  have key : lt a b = (decide (a.1 < b.1) || (decide (a.1 = b.1) && decide (a.2 < b.2))) := by
    have := lt_iff a b
    cases h : lt a b
    · rw [h] at this; simp at this; simp; omega
    · rw [h] at this; simp at this; simp; omega
  rw [key]
  rw [callL_code g_ref05_before (by simp)]; simp -implicitDefEqProofs only [c_ref05_before, r_ref05_before, go_sem, ↓reduceIte, reduceCtorEq, Nat.reduceEqDiff, Nat.reduceAdd, Nat.reduceBEq, Nat.reduceMul, Nat.reduceLeDiff, Nat.reduceSub, Nat.reduceLT, Nat.reduceDiv, Nat.reduceMod, List.reduceReplicate, Int.reduceEq, Int.reduceLT, Int.reduceLE, Int.reduceAdd, Int.reduceSub, Int.reduceMul, Int.reduceNeg, Int.reduceToNat]
  simp -implicitDefEqProofs only [eD, go_sem, ↓reduceIte, reduceCtorEq, Nat.reduceEqDiff, Nat.reduceAdd, Nat.reduceBEq, Nat.reduceMul, Nat.reduceLeDiff, Nat.reduceSub, Nat.reduceLT, Nat.reduceDiv, Nat.reduceMod, List.reduceReplicate, Int.reduceEq, Int.reduceLT, Int.reduceLE, Int.reduceAdd, Int.reduceSub, Int.reduceMul, Int.reduceNeg, Int.reduceToNat]
theorem refSound_ok (d : Due) : callL G N_ref05_sound [.d (eD d)] [] = some (.d (.bool (validD d)), []) := by
  rw [callL_code g_ref05_sound (by simp)]; simp -implicitDefEqProofs only [c_ref05_sound, r_ref05_sound, go_sem, ↓reduceIte, reduceCtorEq, Nat.reduceEqDiff, Nat.reduceAdd, Nat.reduceBEq, Nat.reduceMul, Nat.reduceLeDiff, Nat.reduceSub, Nat.reduceLT, Nat.reduceDiv, Nat.reduceMod, List.reduceReplicate, Int.reduceEq, Int.reduceLT, Int.reduceLE, Int.reduceAdd, Int.reduceSub, Int.reduceMul, Int.reduceNeg, Int.reduceToNat]
  simp -implicitDefEqProofs only [eD, go_sem, ↓reduceIte, reduceCtorEq, Nat.reduceEqDiff, Nat.reduceAdd, Nat.reduceBEq, Nat.reduceMul, Nat.reduceLeDiff, Nat.reduceSub, Nat.reduceLT, Nat.reduceDiv, Nat.reduceMod, List.reduceReplicate, Int.reduceEq, Int.reduceLT, Int.reduceLE, Int.reduceAdd, Int.reduceSub, Int.reduceMul, Int.reduceNeg, Int.reduceToNat]
  rfl

def refIdxR (h : List Due) (j : Int) (k : Nat) : AExit × St := match (h.drop k).findIdx? (fun d => decide (d.2 = j)) with | some i => (.ret, ⟨[(4, .d (.int .i64 ((k + i : Nat) : Int)))], []⟩) | none => (.exit 0, ⟨[], []⟩)
theorem refIdx_loop (h : List Due) (j : Int) (hL : h.length ≤ LIM) : ∀ k, k ≤ h.length → loopL G [] l_ref05_index_0 ⟨[(0, .d (.sl (h.map eD))), (1, .d (.int .i64 j)), (5, .d (.int .i64 k))], []⟩ = some (refIdxR h j k) := by
  refine loop_ind (fun k => h.length - k) (fun k => k ≤ h.length) _ _ fun k hk L ih => ?_
  simp -implicitDefEqProofs only [l_ref05_index_0, go_sem, ↓reduceIte, reduceCtorEq, Nat.reduceEqDiff, Nat.reduceAdd, Nat.reduceBEq, Nat.reduceMul, Nat.reduceLeDiff, Nat.reduceSub, Nat.reduceLT, Nat.reduceDiv, Nat.reduceMod, List.reduceReplicate, Int.reduceEq, Int.reduceLT, Int.reduceLE, Int.reduceAdd, Int.reduceSub, Int.reduceMul, Int.reduceNeg, Int.reduceToNat]
  by_cases hlt : k < h.length
  · simp -implicitDefEqProofs only [List.length_map, show ((k : Int) < (h.length : Int)) by omega, show (0 : Int) ≤ (k : Int) by omega, Int.toNat_natCast, List.getElem?_map, List.getElem?_eq_getElem hlt, eD_size, eD_asAgg, eD, wrap1 hlt hL, go_sem, ↓reduceIte, reduceCtorEq, Nat.reduceEqDiff, Nat.reduceAdd, Nat.reduceBEq, Nat.reduceMul, Nat.reduceLeDiff, Nat.reduceSub, Nat.reduceLT, Nat.reduceDiv, Nat.reduceMod, List.reduceReplicate, Int.reduceEq, Int.reduceLT, Int.reduceLE, Int.reduceAdd, Int.reduceSub, Int.reduceMul, Int.reduceNeg, Int.reduceToNat]
    unfold refIdxR
    rw [List.drop_eq_getElem_cons hlt, List.findIdx?_cons]
    by_cases he : h[k].2 = j
    · simp [he]
    · simp only [he, decide_false, Bool.false_eq_true, if_false]
      rw [ih (k + 1) (by omega) (by omega)]
      unfold refIdxR
      cases (h.drop (k + 1)).findIdx? (fun d => decide (d.2 = j)) with
      | none => rfl
      | some i => simp; omega
  · have : k = h.length := by omega
    subst this
    simp -implicitDefEqProofs only [List.length_map, show ¬ ((h.length : Int) < (h.length : Int)) by omega, go_sem, ↓reduceIte, reduceCtorEq, Nat.reduceEqDiff, Nat.reduceAdd, Nat.reduceBEq, Nat.reduceMul, Nat.reduceLeDiff, Nat.reduceSub, Nat.reduceLT, Nat.reduceDiv, Nat.reduceMod, List.reduceReplicate, Int.reduceEq, Int.reduceLT, Int.reduceLE, Int.reduceAdd, Int.reduceSub, Int.reduceMul, Int.reduceNeg, Int.reduceToNat]
    simp [refIdxR]
theorem refIndex_ok (h : List Due) (j : Int) (hL : h.length ≤ LIM) : callL G N_ref05_index [.d (.sl (h.map eD)), .d (.int .i64 j)] [] = some (.d (.int .i64 (findD h j)), []) := by
  have := refIdx_loop h j hL 0 (by omega)
  simp only [Int.natCast_zero] at this
  rw [callL_code g_ref05_index (by simp)]; simp -implicitDefEqProofs only [c_ref05_index, r_ref05_index, go_sem, ↓reduceIte, reduceCtorEq, Nat.reduceEqDiff, Nat.reduceAdd, Nat.reduceBEq, Nat.reduceMul, Nat.reduceLeDiff, Nat.reduceSub, Nat.reduceLT, Nat.reduceDiv, Nat.reduceMod, List.reduceReplicate, Int.reduceEq, Int.reduceLT, Int.reduceLE, Int.reduceAdd, Int.reduceSub, Int.reduceMul, Int.reduceNeg, Int.reduceToNat]
  simp only [this]
  unfold refIdxR findD idxI
  simp only [List.drop_zero, Nat.zero_add]
  cases h.findIdx? (fun d => decide (d.2 = j)) <;> simp -implicitDefEqProofs only [go_sem, ↓reduceIte, reduceCtorEq, Nat.reduceEqDiff, Nat.reduceAdd, Nat.reduceBEq, Nat.reduceMul, Nat.reduceLeDiff, Nat.reduceSub, Nat.reduceLT, Nat.reduceDiv, Nat.reduceMod, List.reduceReplicate, Int.reduceEq, Int.reduceLT, Int.reduceLE, Int.reduceAdd, Int.reduceSub, Int.reduceMul, Int.reduceNeg, Int.reduceToNat]

def refV0 (h : List Due) (k : Nat) : AExit × St := if (h.drop k).any (fun d => !validD d) then (.ret, ⟨[(2, .d (.int .i64 1))], []⟩) else (.exit 0, ⟨[(0, .d (.sl (h.map eD)))], []⟩)
theorem refV0_loop (h : List Due) (hL : h.length ≤ 12) : ∀ k, k ≤ h.length → loopL G [] l_ref05_Validate_0 ⟨[(0, .d (.sl (h.map eD))), (3, .d (.int .i64 k))], []⟩ = some (refV0 h k) := by
  refine loop_ind (fun k => h.length - k) (fun k => k ≤ h.length) _ _ fun k hk L ih => ?_
  simp -implicitDefEqProofs only [l_ref05_Validate_0, go_sem, ↓reduceIte, reduceCtorEq, Nat.reduceEqDiff, Nat.reduceAdd, Nat.reduceBEq, Nat.reduceMul, Nat.reduceLeDiff, Nat.reduceSub, Nat.reduceLT, Nat.reduceDiv, Nat.reduceMod, List.reduceReplicate, Int.reduceEq, Int.reduceLT, Int.reduceLE, Int.reduceAdd, Int.reduceSub, Int.reduceMul, Int.reduceNeg, Int.reduceToNat]
  by_cases hlt : k < h.length
  · have hs := refSound_ok h[k]
    simp -implicitDefEqProofs only [List.length_map, show ((k : Int) < (h.length : Int)) by omega, show (0 : Int) ≤ (k : Int) by omega, Int.toNat_natCast, List.getElem?_map, List.getElem?_eq_getElem hlt, eD_size, eD_asAgg, hs, wrap1 hlt (show h.length ≤ LIM by simp [LIM]; omega), go_sem, ↓reduceIte, reduceCtorEq, Nat.reduceEqDiff, Nat.reduceAdd, Nat.reduceBEq, Nat.reduceMul, Nat.reduceLeDiff, Nat.reduceSub, Nat.reduceLT, Nat.reduceDiv, Nat.reduceMod, List.reduceReplicate, Int.reduceEq, Int.reduceLT, Int.reduceLE, Int.reduceAdd, Int.reduceSub, Int.reduceMul, Int.reduceNeg, Int.reduceToNat]
    rw [ih (k + 1) (by omega) (by omega)]
    unfold refV0
    rw [List.drop_eq_getElem_cons hlt, List.any_cons]
    cases validD h[k] <;> rfl
  · have : k = h.length := by omega
    subst this
    simp -implicitDefEqProofs only [List.length_map, show ¬ ((h.length : Int) < (h.length : Int)) by omega, go_sem, ↓reduceIte, reduceCtorEq, Nat.reduceEqDiff, Nat.reduceAdd, Nat.reduceBEq, Nat.reduceMul, Nat.reduceLeDiff, Nat.reduceSub, Nat.reduceLT, Nat.reduceDiv, Nat.reduceMod, List.reduceReplicate, Int.reduceEq, Int.reduceLT, Int.reduceLE, Int.reduceAdd, Int.reduceSub, Int.reduceMul, Int.reduceNeg, Int.reduceToNat]
    simp [refV0]
def refV1 (h : List Due) (k : Nat) : AExit × St := if (List.range' k (h.length - k)).any (dupAt h) then (.ret, ⟨[(2, .d (.int .i64 10))], []⟩) else (.exit 2, ⟨[(0, .d (.sl (h.map eD)))], []⟩)
theorem refV1_loop (h : List Due) (hL : h.length ≤ 12) : ∀ k, k ≤ h.length → loopL G [] l_ref05_Validate_1 ⟨[(0, .d (.sl (h.map eD))), (4, .d (.int .i64 k))], []⟩ = some (refV1 h k) := by
  refine loop_ind (fun k => h.length - k) (fun k => k ≤ h.length) _ _ fun k hk L ih => ?_
  simp -implicitDefEqProofs only [l_ref05_Validate_1, go_sem, ↓reduceIte, reduceCtorEq, Nat.reduceEqDiff, Nat.reduceAdd, Nat.reduceBEq, Nat.reduceMul, Nat.reduceLeDiff, Nat.reduceSub, Nat.reduceLT, Nat.reduceDiv, Nat.reduceMod, List.reduceReplicate, Int.reduceEq, Int.reduceLT, Int.reduceLE, Int.reduceAdd, Int.reduceSub, Int.reduceMul, Int.reduceNeg, Int.reduceToNat]
  by_cases hlt : k < h.length
  · have hf := refIndex_ok h h[k].2 (by simp [LIM]; omega)
    simp -implicitDefEqProofs only [List.length_map, show ((k : Int) < (h.length : Int)) by omega, show (0 : Int) ≤ (k : Int) by omega, Int.toNat_natCast, List.getElem?_map, List.getElem?_eq_getElem hlt, eD_size, eD_asAgg, eD, hf, wrap1 hlt (show h.length ≤ LIM by simp [LIM]; omega), go_sem, ↓reduceIte, reduceCtorEq, Nat.reduceEqDiff, Nat.reduceAdd, Nat.reduceBEq, Nat.reduceMul, Nat.reduceLeDiff, Nat.reduceSub, Nat.reduceLT, Nat.reduceDiv, Nat.reduceMod, List.reduceReplicate, Int.reduceEq, Int.reduceLT, Int.reduceLE, Int.reduceAdd, Int.reduceSub, Int.reduceMul, Int.reduceNeg, Int.reduceToNat]
    rw [ih (k + 1) (by omega) (by omega)]
    unfold refV1
    rw [show h.length - k = (h.length - (k + 1)) + 1 by omega, List.range'_succ, List.any_cons]
    have hd : dupAt h k = !decide (findD h h[k].2 = k) := by simp [dupAt, hlt]
    rw [hd]
    cases decide (findD h h[k].2 = k) <;> rfl
  · have : k = h.length := by omega
    subst this
    simp -implicitDefEqProofs only [List.length_map, show ¬ ((h.length : Int) < (h.length : Int)) by omega, go_sem, ↓reduceIte, reduceCtorEq, Nat.reduceEqDiff, Nat.reduceAdd, Nat.reduceBEq, Nat.reduceMul, Nat.reduceLeDiff, Nat.reduceSub, Nat.reduceLT, Nat.reduceDiv, Nat.reduceMod, List.reduceReplicate, Int.reduceEq, Int.reduceLT, Int.reduceLE, Int.reduceAdd, Int.reduceSub, Int.reduceMul, Int.reduceNeg, Int.reduceToNat]
    simp [refV1]
def refV2 (h : List Due) (k : Nat) : AExit × St := if (List.range' k (h.length - k)).any (ordAt h) then (.ret, ⟨[(2, .d (.int .i64 11))], []⟩) else (.exit 4, ⟨[], []⟩)
theorem refV2_loop (h : List Due) (hL : h.length ≤ 12) : ∀ k : Nat, 1 ≤ k → loopL G [] l_ref05_Validate_2 ⟨[(0, .d (.sl (h.map eD))), (5, .d (.int .i64 k))], []⟩ = some (refV2 h k) := by
  refine loop_ind (fun k => h.length - k) (fun k => 1 ≤ k) _ _ fun k hk L ih => ?_
  simp -implicitDefEqProofs only [l_ref05_Validate_2, go_sem, ↓reduceIte, reduceCtorEq, Nat.reduceEqDiff, Nat.reduceAdd, Nat.reduceBEq, Nat.reduceMul, Nat.reduceLeDiff, Nat.reduceSub, Nat.reduceLT, Nat.reduceDiv, Nat.reduceMod, List.reduceReplicate, Int.reduceEq, Int.reduceLT, Int.reduceLE, Int.reduceAdd, Int.reduceSub, Int.reduceMul, Int.reduceNeg, Int.reduceToNat]
  by_cases hlt : k < h.length
  · have hq : IntKind.i64.wrap (((k : Int) - 1).tdiv 2) = (((k - 1) / 2 : Nat) : Int) := by
      rw [wrapN (by rw [Int.tdiv_eq_ediv_of_nonneg (by omega)]; omega) (by rw [Int.tdiv_eq_ediv_of_nonneg (by omega)]; omega), Int.tdiv_eq_ediv_of_nonneg (by omega)]; omega
    have hlt2 : (k - 1) / 2 < h.length := by omega
    have hb := refBefore_ok h[k] h[(k - 1) / 2]
    simp -implicitDefEqProofs only [List.length_map, show ((k : Int) < (h.length : Int)) by omega, show (((k - 1) / 2 : Nat) : Int) < (h.length : Int) by omega, wrapN (show -4294967296 ≤ (k : Int) - 1 by omega) (by omega), hq, hb, Int.natCast_nonneg, Int.toNat_natCast, List.getElem?_map, List.getElem?_eq_getElem hlt, List.getElem?_eq_getElem hlt2, eD_size, eD_asAgg, wrap1 hlt (show h.length ≤ LIM by simp [LIM]; omega), go_sem, ↓reduceIte, reduceCtorEq, Nat.reduceEqDiff, Nat.reduceAdd, Nat.reduceBEq, Nat.reduceMul, Nat.reduceLeDiff, Nat.reduceSub, Nat.reduceLT, Nat.reduceDiv, Nat.reduceMod, List.reduceReplicate, Int.reduceEq, Int.reduceLT, Int.reduceLE, Int.reduceAdd, Int.reduceSub, Int.reduceMul, Int.reduceNeg, Int.reduceToNat]
    rw [ih (k + 1) (by omega) (by omega)]
    unfold refV2
    rw [show h.length - k = (h.length - (k + 1)) + 1 by omega, List.range'_succ, List.any_cons]
    have hd : ordAt h k = lt h[k] h[(k - 1) / 2] := by simp [ordAt, hlt, hlt2]
    rw [hd]
    cases lt h[k] h[(k - 1) / 2] <;> rfl
  · simp -implicitDefEqProofs only [List.length_map, show ¬ ((k : Int) < (h.length : Int)) by omega, go_sem, ↓reduceIte, reduceCtorEq, Nat.reduceEqDiff, Nat.reduceAdd, Nat.reduceBEq, Nat.reduceMul, Nat.reduceLeDiff, Nat.reduceSub, Nat.reduceLT, Nat.reduceDiv, Nat.reduceMod, List.reduceReplicate, Int.reduceEq, Int.reduceLT, Int.reduceLE, Int.reduceAdd, Int.reduceSub, Int.reduceMul, Int.reduceNeg, Int.reduceToNat]
    simp [refV2, show h.length - k = 0 by omega]
theorem refValidate_ok (h : List Due) (hL : h.length ≤ LIM) : callL G N_ref05_Validate [.d (.sl (h.map eD))] [] = some (.d (.int .i64 (validateD h)), []) := by
  rw [callL_code g_ref05_Validate (by simp)]; simp -implicitDefEqProofs only [c_ref05_Validate, r_ref05_Validate, go_sem, ↓reduceIte, reduceCtorEq, Nat.reduceEqDiff, Nat.reduceAdd, Nat.reduceBEq, Nat.reduceMul, Nat.reduceLeDiff, Nat.reduceSub, Nat.reduceLT, Nat.reduceDiv, Nat.reduceMod, List.reduceReplicate, Int.reduceEq, Int.reduceLT, Int.reduceLE, Int.reduceAdd, Int.reduceSub, Int.reduceMul, Int.reduceNeg, Int.reduceToNat]
  unfold validateD
  by_cases h12 : 12 < h.length
  · simp -implicitDefEqProofs only [h12, List.length_map, show (12 < (h.length : Int)) by omega, go_sem, ↓reduceIte, reduceCtorEq, Nat.reduceEqDiff, Nat.reduceAdd, Nat.reduceBEq, Nat.reduceMul, Nat.reduceLeDiff, Nat.reduceSub, Nat.reduceLT, Nat.reduceDiv, Nat.reduceMod, List.reduceReplicate, Int.reduceEq, Int.reduceLT, Int.reduceLE, Int.reduceAdd, Int.reduceSub, Int.reduceMul, Int.reduceNeg, Int.reduceToNat]
  · have e0 := refV0_loop h (by omega) 0 (by omega)
    have e1 := refV1_loop h (by omega) 0 (by omega)
    have e2 := refV2_loop h (by omega) 1 (by omega)
    simp only [Int.natCast_zero] at e0 e1
    simp only [Int.natCast_one] at e2
    have hlen : ¬ (12 < (h.length : Int)) := by omega
    cases hA : h.any (fun d => !validD d)
    · cases hB : (List.range' 0 h.length).any (dupAt h)
      · cases hC : (List.range' 1 (h.length - 1)).any (ordAt h) <;>
          simp -implicitDefEqProofs only [h12, List.length_map, hlen, e0, e1, e2, refV0, refV1, refV2, List.drop_zero, Nat.sub_zero, hA, hB, hC, go_sem, ↓reduceIte, reduceCtorEq, Nat.reduceEqDiff, Nat.reduceAdd, Nat.reduceBEq, Nat.reduceMul, Nat.reduceLeDiff, Nat.reduceSub, Nat.reduceLT, Nat.reduceDiv, Nat.reduceMod, List.reduceReplicate, Int.reduceEq, Int.reduceLT, Int.reduceLE, Int.reduceAdd, Int.reduceSub, Int.reduceMul, Int.reduceNeg, Int.reduceToNat]
      · simp -implicitDefEqProofs only [h12, List.length_map, hlen, e0, e1, refV0, refV1, List.drop_zero, Nat.sub_zero, hA, hB, go_sem, ↓reduceIte, reduceCtorEq, Nat.reduceEqDiff, Nat.reduceAdd, Nat.reduceBEq, Nat.reduceMul, Nat.reduceLeDiff, Nat.reduceSub, Nat.reduceLT, Nat.reduceDiv, Nat.reduceMod, List.reduceReplicate, Int.reduceEq, Int.reduceLT, Int.reduceLE, Int.reduceAdd, Int.reduceSub, Int.reduceMul, Int.reduceNeg, Int.reduceToNat]
    · simp -implicitDefEqProofs only [h12, List.length_map, hlen, e0, refV0, List.drop_zero, hA, go_sem, ↓reduceIte, reduceCtorEq, Nat.reduceEqDiff, Nat.reduceAdd, Nat.reduceBEq, Nat.reduceMul, Nat.reduceLeDiff, Nat.reduceSub, Nat.reduceLT, Nat.reduceDiv, Nat.reduceMod, List.reduceReplicate, Int.reduceEq, Int.reduceLT, Int.reduceLE, Int.reduceAdd, Int.reduceSub, Int.reduceMul, Int.reduceNeg, Int.reduceToNat]

/-! ### Sifting, as the reference does it -/
theorem refSwap_ok (h : List Due) (i j : Nat) (hi : i < h.length) (hj : j < h.length) (hL : h.length ≤ 1000) : callL G N_ref05_swap [.d (.sl (h.map eD)), .d (.int .i64 i), .d (.int .i64 j)] [] = some (.d (.sl ((swp h i j).map eD)), []) := by
  have hs := allSize_eD h
  have hi' : (i : Int) < h.length := by omega
  have hj' : (j : Int) < h.length := by omega
  have hL2 : h.length ≤ LIM := by simp [LIM]; omega
  have gi : (List.map eD h)[i]? = some (eD (h.getD i (0, 0))) := by simp [List.getElem?_map, List.getElem?_eq_getElem hi, hi]
  have gj : (List.map eD h)[j]? = some (eD (h.getD j (0, 0))) := by simp [List.getElem?_map, List.getElem?_eq_getElem hj, hj]
  have hne : h ≠ [] := by intro e; subst e; simp at hi
  have hemp : (h.map eD).isEmpty = false := by cases h; simp at hi; rfl
  have hz : ¬ h.length = 0 := by omega
  have g2 := rowGet (h.set i (h.getD j (0, 0))) j (by simpa using hj)
  have ht : List.take h.length (List.map AV.d (List.map eD ((h.set i (h.getD j (0, 0))).set j (h.getD i (0, 0))))) = List.map AV.d (List.map eD ((h.set i (h.getD j (0, 0))).set j (h.getD i (0, 0)))) := by
    rw [List.take_of_length_le]; simp
  have hl : (List.map eD ((h.set i (h.getD j (0, 0))).set j (h.getD i (0, 0)))).length = h.length := by simp
  unfold swp
  rw [callL_code g_ref05_swap (by simp)]; simp -implicitDefEqProofs only [c_ref05_swap, r_ref05_swap, go_sem, ↓reduceIte, reduceCtorEq, Nat.reduceEqDiff, Nat.reduceAdd, Nat.reduceBEq, Nat.reduceMul, Nat.reduceLeDiff, Nat.reduceSub, Nat.reduceLT, Nat.reduceDiv, Nat.reduceMod, List.reduceReplicate, Int.reduceEq, Int.reduceLT, Int.reduceLE, Int.reduceAdd, Int.reduceSub, Int.reduceMul, Int.reduceNeg, Int.reduceToNat]
  simp -implicitDefEqProofs only [g2, ht, hl, hs, hL2, hi', hj', gi, gj, hemp, hz, rowGet h i hi, rowGet h j hj, rowSet, eD_size, eD_asAgg, eD_isT, List.length_map, Int.natCast_nonneg, Int.toNat_natCast, go_sem, ↓reduceIte, reduceCtorEq, Nat.reduceEqDiff, Nat.reduceAdd, Nat.reduceBEq, Nat.reduceMul, Nat.reduceLeDiff, Nat.reduceSub, Nat.reduceLT, Nat.reduceDiv, Nat.reduceMod, List.reduceReplicate, Int.reduceEq, Int.reduceLT, Int.reduceLE, Int.reduceAdd, Int.reduceSub, Int.reduceMul, Int.reduceNeg, Int.reduceToNat]

def refUpS (p : List Due × Nat) : St := ⟨[(0, .d (.sl (p.1.map eD))), (1, .d (.int .i64 p.2))], []⟩
theorem refUp_loop : ∀ p : List Due × Nat, p.2 < p.1.length ∧ p.1.length ≤ 1000 → loopL G [] l_ref05_up_0 (refUpS p) = some (.exit 0, ⟨[(0, .d (.sl ((upL p.1 p.2).1.map eD)))], []⟩) := by
  refine loop_ind (fun p : List Due × Nat => p.2) (fun p : List Due × Nat => p.2 < p.1.length ∧ p.1.length ≤ 1000) refUpS _ fun ⟨l, i⟩ ⟨hi, hL⟩ L ih => ?_
  simp only [refUpS] at hi hL ih ⊢
  simp -implicitDefEqProofs only [l_ref05_up_0, go_sem, ↓reduceIte, reduceCtorEq, Nat.reduceEqDiff, Nat.reduceAdd, Nat.reduceBEq, Nat.reduceMul, Nat.reduceLeDiff, Nat.reduceSub, Nat.reduceLT, Nat.reduceDiv, Nat.reduceMod, List.reduceReplicate, Int.reduceEq, Int.reduceLT, Int.reduceLE, Int.reduceAdd, Int.reduceSub, Int.reduceMul, Int.reduceNeg, Int.reduceToNat]
  rw [upL]
  by_cases h0 : 0 < i
  · have hq : IntKind.i64.wrap (((i : Int) - 1).tdiv 2) = (((i - 1) / 2 : Nat) : Int) := by
      rw [wrapN (by rw [Int.tdiv_eq_ediv_of_nonneg (by omega)]; omega) (by rw [Int.tdiv_eq_ediv_of_nonneg (by omega)]; omega), Int.tdiv_eq_ediv_of_nonneg (by omega)]; omega
    have hj : (i - 1) / 2 < l.length := by omega
    have hb := refBefore_ok (l.getD i (0, 0)) (l.getD ((i - 1) / 2) (0, 0))
    have hsw := refSwap_ok l i ((i - 1) / 2) hi hj hL
    have gi : (List.map eD l)[i]? = some (eD (l.getD i (0, 0))) := by simp [List.getElem?_map, List.getElem?_eq_getElem hi, hi]
    have gj : (List.map eD l)[(i - 1) / 2]? = some (eD (l.getD ((i - 1) / 2) (0, 0))) := by simp [List.getElem?_map, List.getElem?_eq_getElem hj, hj]
    have hi' : (i : Int) < l.length := by omega
    have hj' : (((i - 1) / 2 : Nat) : Int) < l.length := by omega
    have fin := ih (swp l i ((i - 1) / 2), (i - 1) / 2) ⟨by simp only [swp_length]; omega, by simp only [swp_length]; omega⟩ (by simp only; omega)
    simp only at fin
    cases hlt : lt (l.getD i (0, 0)) (l.getD ((i - 1) / 2) (0, 0))
    · simp -implicitDefEqProofs only [hlt, h0, show (0 : Int) < (i : Int) by omega, wrapN (show -4294967296 ≤ (i : Int) - 1 by omega) (by omega), hq, hb, gi, gj, hi', hj', Int.natCast_nonneg, Int.toNat_natCast, List.length_map, eD_size, eD_asAgg, go_sem, ↓reduceIte, reduceCtorEq, Nat.reduceEqDiff, Nat.reduceAdd, Nat.reduceBEq, Nat.reduceMul, Nat.reduceLeDiff, Nat.reduceSub, Nat.reduceLT, Nat.reduceDiv, Nat.reduceMod, List.reduceReplicate, Int.reduceEq, Int.reduceLT, Int.reduceLE, Int.reduceAdd, Int.reduceSub, Int.reduceMul, Int.reduceNeg, Int.reduceToNat]
    · simp -implicitDefEqProofs only [hlt, h0, show (0 : Int) < (i : Int) by omega, wrapN (show -4294967296 ≤ (i : Int) - 1 by omega) (by omega), hq, hb, hsw, gi, gj, hi', hj', Int.natCast_nonneg, Int.toNat_natCast, List.length_map, eD_size, eD_asAgg, fin, go_sem, ↓reduceIte, reduceCtorEq, Nat.reduceEqDiff, Nat.reduceAdd, Nat.reduceBEq, Nat.reduceMul, Nat.reduceLeDiff, Nat.reduceSub, Nat.reduceLT, Nat.reduceDiv, Nat.reduceMod, List.reduceReplicate, Int.reduceEq, Int.reduceLT, Int.reduceLE, Int.reduceAdd, Int.reduceSub, Int.reduceMul, Int.reduceNeg, Int.reduceToNat]
  · simp -implicitDefEqProofs only [h0, show ¬ (0 : Int) < (i : Int) by omega, go_sem, ↓reduceIte, reduceCtorEq, Nat.reduceEqDiff, Nat.reduceAdd, Nat.reduceBEq, Nat.reduceMul, Nat.reduceLeDiff, Nat.reduceSub, Nat.reduceLT, Nat.reduceDiv, Nat.reduceMod, List.reduceReplicate, Int.reduceEq, Int.reduceLT, Int.reduceLE, Int.reduceAdd, Int.reduceSub, Int.reduceMul, Int.reduceNeg, Int.reduceToNat]
theorem refUp_ok (h : List Due) (i : Nat) (hi : i < h.length) (hL : h.length ≤ 1000) : callL G N_ref05_up [.d (.sl (h.map eD)), .d (.int .i64 i)] [] = some (.d (.sl ((upL h i).1.map eD)), []) := by
  have := refUp_loop (h, i) ⟨hi, hL⟩
  simp only [refUpS] at this
  rw [callL_code g_ref05_up (by simp)]; simp -implicitDefEqProofs only [c_ref05_up, r_ref05_up, go_sem, ↓reduceIte, reduceCtorEq, Nat.reduceEqDiff, Nat.reduceAdd, Nat.reduceBEq, Nat.reduceMul, Nat.reduceLeDiff, Nat.reduceSub, Nat.reduceLT, Nat.reduceDiv, Nat.reduceMod, List.reduceReplicate, Int.reduceEq, Int.reduceLT, Int.reduceLE, Int.reduceAdd, Int.reduceSub, Int.reduceMul, Int.reduceNeg, Int.reduceToNat]
  simp -implicitDefEqProofs only [this, go_sem, ↓reduceIte, reduceCtorEq, Nat.reduceEqDiff, Nat.reduceAdd, Nat.reduceBEq, Nat.reduceMul, Nat.reduceLeDiff, Nat.reduceSub, Nat.reduceLT, Nat.reduceDiv, Nat.reduceMod, List.reduceReplicate, Int.reduceEq, Int.reduceLT, Int.reduceLE, Int.reduceAdd, Int.reduceSub, Int.reduceMul, Int.reduceNeg, Int.reduceToNat]
theorem refPush_ok (h : List Due) (d : Due) (hL : h.length ≤ LIM) : callL G N_ref05_Push [.d (.sl (h.map eD)), .d (eD d)] [] = some (.d (eDE (pushD h d)), []) := by
  have hv := refValidate_ok h hL
  have hf := refIndex_ok h d.2 hL
  have hd := refSound_ok d
  have hs := allSize_eD h
  simp only [eD] at hd
  simp only [eD]
  unfold pushD pushE eDE
  rw [callL_code g_ref05_Push (by simp)]; simp -implicitDefEqProofs only [c_ref05_Push, r_ref05_Push, go_sem, ↓reduceIte, reduceCtorEq, Nat.reduceEqDiff, Nat.reduceAdd, Nat.reduceBEq, Nat.reduceMul, Nat.reduceLeDiff, Nat.reduceSub, Nat.reduceLT, Nat.reduceDiv, Nat.reduceMod, List.reduceReplicate, Int.reduceEq, Int.reduceLT, Int.reduceLE, Int.reduceAdd, Int.reduceSub, Int.reduceMul, Int.reduceNeg, Int.reduceToNat]
  simp -implicitDefEqProofs only [hv, go_sem, ↓reduceIte, reduceCtorEq, Nat.reduceEqDiff, Nat.reduceAdd, Nat.reduceBEq, Nat.reduceMul, Nat.reduceLeDiff, Nat.reduceSub, Nat.reduceLT, Nat.reduceDiv, Nat.reduceMod, List.reduceReplicate, Int.reduceEq, Int.reduceLT, Int.reduceLE, Int.reduceAdd, Int.reduceSub, Int.reduceMul, Int.reduceNeg, Int.reduceToNat]
  by_cases h0 : validateD h = 0
  · simp -implicitDefEqProofs only [h0, hd, go_sem, ↓reduceIte, reduceCtorEq, Nat.reduceEqDiff, Nat.reduceAdd, Nat.reduceBEq, Nat.reduceMul, Nat.reduceLeDiff, Nat.reduceSub, Nat.reduceLT, Nat.reduceDiv, Nat.reduceMod, List.reduceReplicate, Int.reduceEq, Int.reduceLT, Int.reduceLE, Int.reduceAdd, Int.reduceSub, Int.reduceMul, Int.reduceNeg, Int.reduceToNat]
    cases h1 : validD d
    · simp -implicitDefEqProofs only [h1, go_sem, ↓reduceIte, reduceCtorEq, Nat.reduceEqDiff, Nat.reduceAdd, Nat.reduceBEq, Nat.reduceMul, Nat.reduceLeDiff, Nat.reduceSub, Nat.reduceLT, Nat.reduceDiv, Nat.reduceMod, List.reduceReplicate, Int.reduceEq, Int.reduceLT, Int.reduceLE, Int.reduceAdd, Int.reduceSub, Int.reduceMul, Int.reduceNeg, Int.reduceToNat]
    · have h12 := validateD_le h0
      by_cases h2 : h.length = 12
      · simp -implicitDefEqProofs only [h1, h2, List.length_map, go_sem, ↓reduceIte, reduceCtorEq, Nat.reduceEqDiff, Nat.reduceAdd, Nat.reduceBEq, Nat.reduceMul, Nat.reduceLeDiff, Nat.reduceSub, Nat.reduceLT, Nat.reduceDiv, Nat.reduceMod, List.reduceReplicate, Int.reduceEq, Int.reduceLT, Int.reduceLE, Int.reduceAdd, Int.reduceSub, Int.reduceMul, Int.reduceNeg, Int.reduceToNat]
        simp
      · obtain ⟨l, hl⟩ : ∃ l, l = h ++ [d] := ⟨_, rfl⟩
        have e1 : h.map eD ++ [D.agg [.int .i64 d.1, .int .i64 d.2]] = l.map eD := by simp [eD, hl]
        have e2 : l.length = h.length + 1 := by simp [hl]
        have hu := refUp_ok l h.length (by omega) (by omega)
        have h4 : h.length + 1 ≤ LIM := by simp [LIM]; omega
        simp -implicitDefEqProofs only [h1, h2, hf, allSize_eD, hL, e1, e2, h4, List.length_map, show ¬ ((h.length : Int) = 12) by omega, go_sem, ↓reduceIte, reduceCtorEq, Nat.reduceEqDiff, Nat.reduceAdd, Nat.reduceBEq, Nat.reduceMul, Nat.reduceLeDiff, Nat.reduceSub, Nat.reduceLT, Nat.reduceDiv, Nat.reduceMod, List.reduceReplicate, Int.reduceEq, Int.reduceLT, Int.reduceLE, Int.reduceAdd, Int.reduceSub, Int.reduceMul, Int.reduceNeg, Int.reduceToNat]
        by_cases h3 : 0 ≤ findD h d.2
        · simp -implicitDefEqProofs only [h3, go_sem, ↓reduceIte, reduceCtorEq, Nat.reduceEqDiff, Nat.reduceAdd, Nat.reduceBEq, Nat.reduceMul, Nat.reduceLeDiff, Nat.reduceSub, Nat.reduceLT, Nat.reduceDiv, Nat.reduceMod, List.reduceReplicate, Int.reduceEq, Int.reduceLT, Int.reduceLE, Int.reduceAdd, Int.reduceSub, Int.reduceMul, Int.reduceNeg, Int.reduceToNat]
        · simp -implicitDefEqProofs only [h3, allSize_eD, e1, e2, List.length_map, hu, go_sem, ↓reduceIte, reduceCtorEq, Nat.reduceEqDiff, Nat.reduceAdd, Nat.reduceBEq, Nat.reduceMul, Nat.reduceLeDiff, Nat.reduceSub, Nat.reduceLT, Nat.reduceDiv, Nat.reduceMod, List.reduceReplicate, Int.reduceEq, Int.reduceLT, Int.reduceLE, Int.reduceAdd, Int.reduceSub, Int.reduceMul, Int.reduceNeg, Int.reduceToNat]
          subst hl
          rfl
  · simp -implicitDefEqProofs only [h0, go_sem, ↓reduceIte, reduceCtorEq, Nat.reduceEqDiff, Nat.reduceAdd, Nat.reduceBEq, Nat.reduceMul, Nat.reduceLeDiff, Nat.reduceSub, Nat.reduceLT, Nat.reduceDiv, Nat.reduceMod, List.reduceReplicate, Int.reduceEq, Int.reduceLT, Int.reduceLE, Int.reduceAdd, Int.reduceSub, Int.reduceMul, Int.reduceNeg, Int.reduceToNat]
end Go.Proofs.Ytlphhhmicdjljab
