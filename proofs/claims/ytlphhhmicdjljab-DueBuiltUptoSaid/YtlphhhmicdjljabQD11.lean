/-
  Sorting by insertion, and Until.
-/
import Derived.Test.YtlphhhmicdjljabQD10b
namespace Go.Proofs.Ytlphhhmicdjljab
open Go Go.Sim
set_option linter.unusedSimpArgs false
set_option linter.unusedVariables false
set_option maxHeartbeats 2000000
set_option maxRecDepth 40000

/-- In ascending order up to 'n'. -/
def Asc (l : List Due) (n : Nat) : Prop := ∀ p q, p < q → q < n → lt (l.getD q dz) (l.getD p dz) = false
def insL (l : List Due) (j : Nat) : List Due :=
  if 0 < j then (if lt (l.getD j dz) (l.getD (j - 1) dz) then insL (swp l j (j - 1)) (j - 1) else l) else l
termination_by j
theorem insL_length (l : List Due) (j : Nat) : (insL l j).length = l.length := by
  fun_induction insL l j with
  | case1 l j h0 h1 ih => rw [ih, swp_length]
  | case2 => rfl
  | case3 => rfl
theorem ins_asc (l : List Due) (j i : Nat) (hi : i < l.length) (hj : j ≤ i) (h1 : ∀ p q, p < q → q ≤ i → p ≠ j → q ≠ j → lt (l.getD q dz) (l.getD p dz) = false) (h2 : ∀ q, j < q → q ≤ i → lt (l.getD q dz) (l.getD j dz) = false) : Asc (insL l j) (i + 1) ∧ (insL l j).Perm l := by
  fun_induction insL l j with
  | case1 l j h0 hlt ih =>
    have hs : ∀ k, (swp l j (j - 1)).getD k dz = if k = j - 1 then l.getD j dz else if k = j then l.getD (j - 1) dz else l.getD k dz := fun k => swp_get l j (j - 1) k (by omega) (by omega)
    have ih' := ih (by rw [swp_length]; exact hi) (by omega) (fun p q hpq hq hp hq2 => by
        rw [hs, hs]
        by_cases e1 : q = j
        · subst e1
          rw [if_neg (by omega), if_pos rfl, if_neg (by omega), if_neg (by omega)]
          exact h1 p (q - 1) (by omega) (by omega) (by omega) (by omega)
        · by_cases e2 : p = j
          · subst e2
            rw [if_neg (by omega), if_neg (by omega), if_neg (by omega), if_pos rfl]
            exact h1 (p - 1) q (by omega) hq (by omega) (by omega)
          · rw [if_neg (by omega), if_neg e1, if_neg (by omega), if_neg e2]
            exact h1 p q hpq hq e2 e1) (fun q hq1 hq2 => by
        rw [hs, hs, if_neg (by omega), if_pos rfl]
        by_cases e1 : q = j
        · rw [if_pos e1]; exact lt_asymm hlt
        · rw [if_neg e1]; exact h2 q (by omega) hq2)
    exact ⟨ih'.1, ih'.2.trans (swp_perm l j (j - 1) (by omega) (by omega))⟩
  | case2 l j h0 hlt =>
    refine ⟨fun p q hpq hq => ?_, .refl _⟩
    have hjj : lt (l.getD j dz) (l.getD (j - 1) dz) = false := by simpa using hlt
    by_cases e1 : p = j
    · subst e1; exact h2 q hpq (by omega)
    · by_cases e2 : q = j
      · subst e2
        by_cases e3 : p = q - 1
        · subst e3; exact hjj
        · exact le_trans' (h1 p (q - 1) (by omega) (by omega) e1 (by omega)) hjj
      · exact h1 p q hpq (by omega) e1 e2
  | case3 l j h0 =>
    refine ⟨fun p q hpq hq => ?_, .refl _⟩
    by_cases e1 : p = j
    · subst e1; exact h2 q hpq (by omega)
    · exact h1 p q hpq (by omega) e1 (by omega)
def sortG (l : List Due) (i : Nat) : List Due := if i < l.length then sortG (insL l i) (i + 1) else l
termination_by l.length - i
decreasing_by rw [insL_length]; omega
theorem sortG_spec (l : List Due) (i : Nat) (h : Asc l i) : Asc (sortG l i) l.length ∧ (sortG l i).Perm l := by
  fun_induction sortG l i with
  | case1 l i hi ih =>
    have := ins_asc l i i hi (by omega) (fun p q hpq hq _ hq2 => h p q hpq (by omega)) (fun q h1 h2 => by omega)
    have ih' := ih this.1
    rw [insL_length] at ih'
    exact ⟨ih'.1, ih'.2.trans this.2⟩
  | case2 l i hi => exact ⟨fun p q hpq hq => h p q hpq (by omega), .refl _⟩

abbrev fcmp : AV := .d (.fn N_due_compare [])
def insS (l : List Due) (i : Nat) (j : Nat) : St := ⟨[(0, .osl 1000000 0 l.length), (1, .d (.int .i64 0)), (2, .d (.int .i64 l.length)), (3, fcmp), (8, .d (.int .i64 i)), (9, .d (.int .i64 j)), (1000000, .ref 1000000 1 0)], [(1000000, rowL l)]⟩
theorem ins_loop (i : Nat) : ∀ p : List Due × Nat, p.2 < p.1.length ∧ p.1.length ≤ 1000 → loopL G [] l_slices_insertionSortCmpFunc_api_Due_0 (insS p.1 i p.2) = some (.exit 2, ⟨[(0, .osl 1000000 0 p.1.length), (1, .d (.int .i64 0)), (2, .d (.int .i64 p.1.length)), (3, fcmp), (8, .d (.int .i64 i)), (1000000, .ref 1000000 1 0)], [(1000000, rowL (insL p.1 p.2))]⟩) := by
  refine loop_ind (fun p : List Due × Nat => p.2) (fun p : List Due × Nat => p.2 < p.1.length ∧ p.1.length ≤ 1000) (fun p => insS p.1 i p.2) _ fun ⟨l, j⟩ ⟨hj, hL⟩ L ih => ?_
  simp only at hj hL
  simp only [l_slices_insertionSortCmpFunc_api_Due_0, insS]
  rw [insL]
  by_cases h0 : 0 < j
  · have g0 := rowGet l j hj
    have g1 := rowGet l (j - 1) (by omega)
    have t1 : ((j : Int) - 1).toNat = j - 1 := by omega
    have s1 := rowGet (l.set j (l.getD (j - 1) (0, 0))) (j - 1) (by simp; omega)
    have s2 := rowGet l j hj
    have hc : ∀ a b : Due, callL G N_due_compare [.d (eD a), .d (eD b)] [] = some (.d (.int .i64 (cmpD a b)), []) := due_compare_ok
    have hlt : lt (l.getD j (0, 0)) (l.getD (j - 1) (0, 0)) = decide (cmpD (l.getD j (0, 0)) (l.getD (j - 1) (0, 0)) < 0) := rfl
    have := ih (swp l j (j - 1), j - 1) ⟨by simp only [swp_length]; omega, by simp only [swp_length]; omega⟩ (by simp only; omega)
    simp only [insS, rowL, swp_length, show ((j - 1 : Nat) : Int) = (j : Int) - 1 by omega, swp] at this
    simp only [dz, hlt]
    by_cases hcc : cmpD (l.getD j (0, 0)) (l.getD (j - 1) (0, 0)) < 0
    · simp -implicitDefEqProofs (disch := omega) only [wr, Int.cast_ofNat_Int, Int.natCast_zero, List.length_append, lim_eq, wu64, wu32, wu8, Bool.true_beq, Bool.false_beq, beqT, beqF, Int.natCast_add, Int.natCast_one, ltT, ltF, leT, leF, eqT, eqF, nltT, nltF, nleT, nleF, neqT, neqF, mapGet, Int.toNat_natCast, Int.natCast_nonneg, List.length_map, go_sem, ↓reduceIte, reduceCtorEq, Nat.reduceEqDiff, Nat.reduceAdd, Nat.reduceBEq, Nat.reduceMul, Nat.reduceLeDiff, Nat.reduceSub, Nat.reduceLT, Nat.reduceDiv, Nat.reduceMod, List.reduceReplicate, Int.reduceEq, Int.reduceLT, Int.reduceLE, Int.reduceAdd, Int.reduceSub, Int.reduceMul, Int.reduceNeg, Int.reduceToNat, g0, g1, t1, s1, hc, hcc, rowSet, eD_size, eD_asAgg, eD_isT, this, List.map_nil]
      simp only [List.length_set] at this
      exact this
    · simp -implicitDefEqProofs (disch := omega) only [wr, Int.cast_ofNat_Int, Int.natCast_zero, List.length_append, lim_eq, wu64, wu32, wu8, Bool.true_beq, Bool.false_beq, beqT, beqF, Int.natCast_add, Int.natCast_one, ltT, ltF, leT, leF, eqT, eqF, nltT, nltF, nleT, nleF, neqT, neqF, mapGet, Int.toNat_natCast, Int.natCast_nonneg, List.length_map, go_sem, ↓reduceIte, reduceCtorEq, Nat.reduceEqDiff, Nat.reduceAdd, Nat.reduceBEq, Nat.reduceMul, Nat.reduceLeDiff, Nat.reduceSub, Nat.reduceLT, Nat.reduceDiv, Nat.reduceMod, List.reduceReplicate, Int.reduceEq, Int.reduceLT, Int.reduceLE, Int.reduceAdd, Int.reduceSub, Int.reduceMul, Int.reduceNeg, Int.reduceToNat, g0, g1, t1, hc, hcc, eD_size, eD_asAgg]
  · simp -implicitDefEqProofs (disch := omega) only [wr, Int.cast_ofNat_Int, Int.natCast_zero, List.length_append, lim_eq, wu64, wu32, wu8, Bool.true_beq, Bool.false_beq, beqT, beqF, Int.natCast_add, Int.natCast_one, ltT, ltF, leT, leF, eqT, eqF, nltT, nltF, nleT, nleF, neqT, neqF, mapGet, Int.toNat_natCast, Int.natCast_nonneg, List.length_map, go_sem, ↓reduceIte, reduceCtorEq, Nat.reduceEqDiff, Nat.reduceAdd, Nat.reduceBEq, Nat.reduceMul, Nat.reduceLeDiff, Nat.reduceSub, Nat.reduceLT, Nat.reduceDiv, Nat.reduceMod, List.reduceReplicate, Int.reduceEq, Int.reduceLT, Int.reduceLE, Int.reduceAdd, Int.reduceSub, Int.reduceMul, Int.reduceNeg, Int.reduceToNat, h0]
def isS (l : List Due) (i : Nat) : St := ⟨[(0, .osl 1000000 0 l.length), (1, .d (.int .i64 0)), (2, .d (.int .i64 l.length)), (3, fcmp), (8, .d (.int .i64 i)), (1000000, .ref 1000000 1 0)], [(1000000, rowL l)]⟩
theorem is_loop : ∀ p : List Due × Nat, p.2 ≤ p.1.length ∧ p.1.length ≤ 1000 → loopL G [] l_slices_insertionSortCmpFunc_api_Due_1 (isS p.1 p.2) = some (.exit 0, ⟨[(1000000, .ref 1000000 1 0)], [(1000000, rowL (sortG p.1 p.2))]⟩) := by
  refine loop_ind (fun p : List Due × Nat => p.1.length - p.2) (fun p : List Due × Nat => p.2 ≤ p.1.length ∧ p.1.length ≤ 1000) (fun p => isS p.1 p.2) _ fun ⟨l, i⟩ ⟨hj, hL⟩ L ih => ?_
  simp only at hj hL
  simp only [l_slices_insertionSortCmpFunc_api_Due_1, isS]
  rw [sortG]
  by_cases h0 : i < l.length
  · have h1 := ins_loop i (l, i) ⟨h0, hL⟩
    simp only [insS, rowL, fcmp] at h1
    have := ih (insL l i, i + 1) ⟨by simp only [insL_length]; omega, by simp only [insL_length]; omega⟩ (by simp only [insL_length]; omega)
    simp only [isS, rowL, insL_length, fcmp, Int.natCast_add, Int.natCast_one] at this
    simp -implicitDefEqProofs (disch := omega) only [wr, Int.cast_ofNat_Int, Int.natCast_zero, List.length_append, lim_eq, wu64, wu32, wu8, Bool.true_beq, Bool.false_beq, beqT, beqF, Int.natCast_add, Int.natCast_one, ltT, ltF, leT, leF, eqT, eqF, nltT, nltF, nleT, nleF, neqT, neqF, mapGet, Int.toNat_natCast, Int.natCast_nonneg, List.length_map, go_sem, ↓reduceIte, reduceCtorEq, Nat.reduceEqDiff, Nat.reduceAdd, Nat.reduceBEq, Nat.reduceMul, Nat.reduceLeDiff, Nat.reduceSub, Nat.reduceLT, Nat.reduceDiv, Nat.reduceMod, List.reduceReplicate, Int.reduceEq, Int.reduceLT, Int.reduceLE, Int.reduceAdd, Int.reduceSub, Int.reduceMul, Int.reduceNeg, Int.reduceToNat, h1, this, h0, rowL]
  · simp -implicitDefEqProofs (disch := omega) only [wr, Int.cast_ofNat_Int, Int.natCast_zero, List.length_append, lim_eq, wu64, wu32, wu8, Bool.true_beq, Bool.false_beq, beqT, beqF, Int.natCast_add, Int.natCast_one, ltT, ltF, leT, leF, eqT, eqF, nltT, nltF, nleT, nleF, neqT, neqF, mapGet, Int.toNat_natCast, Int.natCast_nonneg, List.length_map, go_sem, ↓reduceIte, reduceCtorEq, Nat.reduceEqDiff, Nat.reduceAdd, Nat.reduceBEq, Nat.reduceMul, Nat.reduceLeDiff, Nat.reduceSub, Nat.reduceLT, Nat.reduceDiv, Nat.reduceMod, List.reduceReplicate, Int.reduceEq, Int.reduceLT, Int.reduceLE, Int.reduceAdd, Int.reduceSub, Int.reduceMul, Int.reduceNeg, Int.reduceToNat, h0, rowL]
theorem isort_ok (l : List Due) (h0 : 0 < l.length) (hL : l.length ≤ 1000) : callL G N_slices_insertionSortCmpFunc_api_Due [.osl 1000000 0 l.length, .d (.int .i64 0), .d (.int .i64 l.length), fcmp] [(1000000, rowL l)] = some (.d (.tup []), [(1000000, rowL (sortG l 1))]) := by
  have := is_loop (l, 1) ⟨h0, hL⟩
  simp only [isS, rowL, fcmp, Int.natCast_one] at this
  rw [callL_code g_slices_insertionSortCmpFunc_api_Due (by simp)]; simp -implicitDefEqProofs (disch := omega) only [c_slices_insertionSortCmpFunc_api_Due, r_slices_insertionSortCmpFunc_api_Due, wr, Int.cast_ofNat_Int, Int.natCast_zero, List.length_append, lim_eq, wu64, wu32, wu8, Bool.true_beq, Bool.false_beq, beqT, beqF, Int.natCast_add, Int.natCast_one, ltT, ltF, leT, leF, eqT, eqF, nltT, nltF, nleT, nleF, neqT, neqF, mapGet, Int.toNat_natCast, Int.natCast_nonneg, List.length_map, go_sem, ↓reduceIte, reduceCtorEq, Nat.reduceEqDiff, Nat.reduceAdd, Nat.reduceBEq, Nat.reduceMul, Nat.reduceLeDiff, Nat.reduceSub, Nat.reduceLT, Nat.reduceDiv, Nat.reduceMod, List.reduceReplicate, Int.reduceEq, Int.reduceLT, Int.reduceLE, Int.reduceAdd, Int.reduceSub, Int.reduceMul, Int.reduceNeg, Int.reduceToNat, rowL, this]
theorem isort0_ok : callL G N_slices_insertionSortCmpFunc_api_Due [.d (.sl []), .d (.int .i64 0), .d (.int .i64 0), fcmp] [] = some (.d (.tup []), []) := by
  rw [callL_code g_slices_insertionSortCmpFunc_api_Due (by simp)]; simp -implicitDefEqProofs (disch := omega) only [c_slices_insertionSortCmpFunc_api_Due, r_slices_insertionSortCmpFunc_api_Due, wr, Int.cast_ofNat_Int, Int.natCast_zero, List.length_append, lim_eq, wu64, wu32, wu8, Bool.true_beq, Bool.false_beq, beqT, beqF, Int.natCast_add, Int.natCast_one, ltT, ltF, leT, leF, eqT, eqF, nltT, nltF, nleT, nleF, neqT, neqF, mapGet, Int.toNat_natCast, Int.natCast_nonneg, List.length_map, go_sem, ↓reduceIte, reduceCtorEq, Nat.reduceEqDiff, Nat.reduceAdd, Nat.reduceBEq, Nat.reduceMul, Nat.reduceLeDiff, Nat.reduceSub, Nat.reduceLT, Nat.reduceDiv, Nat.reduceMod, List.reduceReplicate, Int.reduceEq, Int.reduceLT, Int.reduceLE, Int.reduceAdd, Int.reduceSub, Int.reduceMul, Int.reduceNeg, Int.reduceToNat, fcmp]
  rw [loopL_eq]
  simp only [l_slices_insertionSortCmpFunc_api_Due_1]
  simp -implicitDefEqProofs (disch := omega) only [wr, Int.cast_ofNat_Int, Int.natCast_zero, List.length_append, lim_eq, wu64, wu32, wu8, Bool.true_beq, Bool.false_beq, beqT, beqF, Int.natCast_add, Int.natCast_one, ltT, ltF, leT, leF, eqT, eqF, nltT, nltF, nleT, nleF, neqT, neqF, mapGet, Int.toNat_natCast, Int.natCast_nonneg, List.length_map, go_sem, ↓reduceIte, reduceCtorEq, Nat.reduceEqDiff, Nat.reduceAdd, Nat.reduceBEq, Nat.reduceMul, Nat.reduceLeDiff, Nat.reduceSub, Nat.reduceLT, Nat.reduceDiv, Nat.reduceMod, List.reduceReplicate, Int.reduceEq, Int.reduceLT, Int.reduceLE, Int.reduceAdd, Int.reduceSub, Int.reduceMul, Int.reduceNeg, Int.reduceToNat, fcmp]
theorem len64_ok (n : Nat) (h : n ≤ 12) : ∃ b : Int, callL G N_math_bits_Len64 [.d (.int .u64 n)] [] = some (.d (.int .i64 b), []) := by
  obtain rfl | rfl | rfl | rfl | rfl | rfl | rfl | rfl | rfl | rfl | rfl | rfl | rfl : n = 0 ∨ n = 1 ∨ n = 2 ∨ n = 3 ∨ n = 4 ∨ n = 5 ∨ n = 6 ∨ n = 7 ∨ n = 8 ∨ n = 9 ∨ n = 10 ∨ n = 11 ∨ n = 12 := by omega
  · exact ⟨0, by simp only [Int.natCast_zero, Int.natCast_one, Int.cast_ofNat_Int]; rw [callL_code g_math_bits_Len64 (by simp)]; simp -implicitDefEqProofs (disch := omega) only [c_math_bits_Len64, r_math_bits_Len64, wr, Int.cast_ofNat_Int, Int.natCast_zero, List.length_append, lim_eq, wu64, wu32, wu8, Bool.true_beq, Bool.false_beq, beqT, beqF, Int.natCast_add, Int.natCast_one, ltT, ltF, leT, leF, eqT, eqF, nltT, nltF, nleT, nleF, neqT, neqF, mapGet, Int.toNat_natCast, Int.natCast_nonneg, List.length_map, go_sem, ↓reduceIte, reduceCtorEq, Nat.reduceEqDiff, Nat.reduceAdd, Nat.reduceBEq, Nat.reduceMul, Nat.reduceLeDiff, Nat.reduceSub, Nat.reduceLT, Nat.reduceDiv, Nat.reduceMod, List.reduceReplicate, Int.reduceEq, Int.reduceLT, Int.reduceLE, Int.reduceAdd, Int.reduceSub, Int.reduceMul, Int.reduceNeg, Int.reduceToNat, UInt8.toNat_ofNat, Nat.reducePow]⟩
  · exact ⟨1, by simp only [Int.natCast_zero, Int.natCast_one, Int.cast_ofNat_Int]; rw [callL_code g_math_bits_Len64 (by simp)]; simp -implicitDefEqProofs (disch := omega) only [c_math_bits_Len64, r_math_bits_Len64, wr, Int.cast_ofNat_Int, Int.natCast_zero, List.length_append, lim_eq, wu64, wu32, wu8, Bool.true_beq, Bool.false_beq, beqT, beqF, Int.natCast_add, Int.natCast_one, ltT, ltF, leT, leF, eqT, eqF, nltT, nltF, nleT, nleF, neqT, neqF, mapGet, Int.toNat_natCast, Int.natCast_nonneg, List.length_map, go_sem, ↓reduceIte, reduceCtorEq, Nat.reduceEqDiff, Nat.reduceAdd, Nat.reduceBEq, Nat.reduceMul, Nat.reduceLeDiff, Nat.reduceSub, Nat.reduceLT, Nat.reduceDiv, Nat.reduceMod, List.reduceReplicate, Int.reduceEq, Int.reduceLT, Int.reduceLE, Int.reduceAdd, Int.reduceSub, Int.reduceMul, Int.reduceNeg, Int.reduceToNat, UInt8.toNat_ofNat, Nat.reducePow]⟩
  · exact ⟨2, by simp only [Int.natCast_zero, Int.natCast_one, Int.cast_ofNat_Int]; rw [callL_code g_math_bits_Len64 (by simp)]; simp -implicitDefEqProofs (disch := omega) only [c_math_bits_Len64, r_math_bits_Len64, wr, Int.cast_ofNat_Int, Int.natCast_zero, List.length_append, lim_eq, wu64, wu32, wu8, Bool.true_beq, Bool.false_beq, beqT, beqF, Int.natCast_add, Int.natCast_one, ltT, ltF, leT, leF, eqT, eqF, nltT, nltF, nleT, nleF, neqT, neqF, mapGet, Int.toNat_natCast, Int.natCast_nonneg, List.length_map, go_sem, ↓reduceIte, reduceCtorEq, Nat.reduceEqDiff, Nat.reduceAdd, Nat.reduceBEq, Nat.reduceMul, Nat.reduceLeDiff, Nat.reduceSub, Nat.reduceLT, Nat.reduceDiv, Nat.reduceMod, List.reduceReplicate, Int.reduceEq, Int.reduceLT, Int.reduceLE, Int.reduceAdd, Int.reduceSub, Int.reduceMul, Int.reduceNeg, Int.reduceToNat, UInt8.toNat_ofNat, Nat.reducePow]⟩
  · exact ⟨2, by simp only [Int.natCast_zero, Int.natCast_one, Int.cast_ofNat_Int]; rw [callL_code g_math_bits_Len64 (by simp)]; simp -implicitDefEqProofs (disch := omega) only [c_math_bits_Len64, r_math_bits_Len64, wr, Int.cast_ofNat_Int, Int.natCast_zero, List.length_append, lim_eq, wu64, wu32, wu8, Bool.true_beq, Bool.false_beq, beqT, beqF, Int.natCast_add, Int.natCast_one, ltT, ltF, leT, leF, eqT, eqF, nltT, nltF, nleT, nleF, neqT, neqF, mapGet, Int.toNat_natCast, Int.natCast_nonneg, List.length_map, go_sem, ↓reduceIte, reduceCtorEq, Nat.reduceEqDiff, Nat.reduceAdd, Nat.reduceBEq, Nat.reduceMul, Nat.reduceLeDiff, Nat.reduceSub, Nat.reduceLT, Nat.reduceDiv, Nat.reduceMod, List.reduceReplicate, Int.reduceEq, Int.reduceLT, Int.reduceLE, Int.reduceAdd, Int.reduceSub, Int.reduceMul, Int.reduceNeg, Int.reduceToNat, UInt8.toNat_ofNat, Nat.reducePow]⟩
  · exact ⟨3, by simp only [Int.natCast_zero, Int.natCast_one, Int.cast_ofNat_Int]; rw [callL_code g_math_bits_Len64 (by simp)]; simp -implicitDefEqProofs (disch := omega) only [c_math_bits_Len64, r_math_bits_Len64, wr, Int.cast_ofNat_Int, Int.natCast_zero, List.length_append, lim_eq, wu64, wu32, wu8, Bool.true_beq, Bool.false_beq, beqT, beqF, Int.natCast_add, Int.natCast_one, ltT, ltF, leT, leF, eqT, eqF, nltT, nltF, nleT, nleF, neqT, neqF, mapGet, Int.toNat_natCast, Int.natCast_nonneg, List.length_map, go_sem, ↓reduceIte, reduceCtorEq, Nat.reduceEqDiff, Nat.reduceAdd, Nat.reduceBEq, Nat.reduceMul, Nat.reduceLeDiff, Nat.reduceSub, Nat.reduceLT, Nat.reduceDiv, Nat.reduceMod, List.reduceReplicate, Int.reduceEq, Int.reduceLT, Int.reduceLE, Int.reduceAdd, Int.reduceSub, Int.reduceMul, Int.reduceNeg, Int.reduceToNat, UInt8.toNat_ofNat, Nat.reducePow]⟩
  · exact ⟨3, by simp only [Int.natCast_zero, Int.natCast_one, Int.cast_ofNat_Int]; rw [callL_code g_math_bits_Len64 (by simp)]; simp -implicitDefEqProofs (disch := omega) only [c_math_bits_Len64, r_math_bits_Len64, wr, Int.cast_ofNat_Int, Int.natCast_zero, List.length_append, lim_eq, wu64, wu32, wu8, Bool.true_beq, Bool.false_beq, beqT, beqF, Int.natCast_add, Int.natCast_one, ltT, ltF, leT, leF, eqT, eqF, nltT, nltF, nleT, nleF, neqT, neqF, mapGet, Int.toNat_natCast, Int.natCast_nonneg, List.length_map, go_sem, ↓reduceIte, reduceCtorEq, Nat.reduceEqDiff, Nat.reduceAdd, Nat.reduceBEq, Nat.reduceMul, Nat.reduceLeDiff, Nat.reduceSub, Nat.reduceLT, Nat.reduceDiv, Nat.reduceMod, List.reduceReplicate, Int.reduceEq, Int.reduceLT, Int.reduceLE, Int.reduceAdd, Int.reduceSub, Int.reduceMul, Int.reduceNeg, Int.reduceToNat, UInt8.toNat_ofNat, Nat.reducePow]⟩
  · exact ⟨3, by simp only [Int.natCast_zero, Int.natCast_one, Int.cast_ofNat_Int]; rw [callL_code g_math_bits_Len64 (by simp)]; simp -implicitDefEqProofs (disch := omega) only [c_math_bits_Len64, r_math_bits_Len64, wr, Int.cast_ofNat_Int, Int.natCast_zero, List.length_append, lim_eq, wu64, wu32, wu8, Bool.true_beq, Bool.false_beq, beqT, beqF, Int.natCast_add, Int.natCast_one, ltT, ltF, leT, leF, eqT, eqF, nltT, nltF, nleT, nleF, neqT, neqF, mapGet, Int.toNat_natCast, Int.natCast_nonneg, List.length_map, go_sem, ↓reduceIte, reduceCtorEq, Nat.reduceEqDiff, Nat.reduceAdd, Nat.reduceBEq, Nat.reduceMul, Nat.reduceLeDiff, Nat.reduceSub, Nat.reduceLT, Nat.reduceDiv, Nat.reduceMod, List.reduceReplicate, Int.reduceEq, Int.reduceLT, Int.reduceLE, Int.reduceAdd, Int.reduceSub, Int.reduceMul, Int.reduceNeg, Int.reduceToNat, UInt8.toNat_ofNat, Nat.reducePow]⟩
  · exact ⟨3, by simp only [Int.natCast_zero, Int.natCast_one, Int.cast_ofNat_Int]; rw [callL_code g_math_bits_Len64 (by simp)]; simp -implicitDefEqProofs (disch := omega) only [c_math_bits_Len64, r_math_bits_Len64, wr, Int.cast_ofNat_Int, Int.natCast_zero, List.length_append, lim_eq, wu64, wu32, wu8, Bool.true_beq, Bool.false_beq, beqT, beqF, Int.natCast_add, Int.natCast_one, ltT, ltF, leT, leF, eqT, eqF, nltT, nltF, nleT, nleF, neqT, neqF, mapGet, Int.toNat_natCast, Int.natCast_nonneg, List.length_map, go_sem, ↓reduceIte, reduceCtorEq, Nat.reduceEqDiff, Nat.reduceAdd, Nat.reduceBEq, Nat.reduceMul, Nat.reduceLeDiff, Nat.reduceSub, Nat.reduceLT, Nat.reduceDiv, Nat.reduceMod, List.reduceReplicate, Int.reduceEq, Int.reduceLT, Int.reduceLE, Int.reduceAdd, Int.reduceSub, Int.reduceMul, Int.reduceNeg, Int.reduceToNat, UInt8.toNat_ofNat, Nat.reducePow]⟩
  · exact ⟨4, by simp only [Int.natCast_zero, Int.natCast_one, Int.cast_ofNat_Int]; rw [callL_code g_math_bits_Len64 (by simp)]; simp -implicitDefEqProofs (disch := omega) only [c_math_bits_Len64, r_math_bits_Len64, wr, Int.cast_ofNat_Int, Int.natCast_zero, List.length_append, lim_eq, wu64, wu32, wu8, Bool.true_beq, Bool.false_beq, beqT, beqF, Int.natCast_add, Int.natCast_one, ltT, ltF, leT, leF, eqT, eqF, nltT, nltF, nleT, nleF, neqT, neqF, mapGet, Int.toNat_natCast, Int.natCast_nonneg, List.length_map, go_sem, ↓reduceIte, reduceCtorEq, Nat.reduceEqDiff, Nat.reduceAdd, Nat.reduceBEq, Nat.reduceMul, Nat.reduceLeDiff, Nat.reduceSub, Nat.reduceLT, Nat.reduceDiv, Nat.reduceMod, List.reduceReplicate, Int.reduceEq, Int.reduceLT, Int.reduceLE, Int.reduceAdd, Int.reduceSub, Int.reduceMul, Int.reduceNeg, Int.reduceToNat, UInt8.toNat_ofNat, Nat.reducePow]⟩
  · exact ⟨4, by simp only [Int.natCast_zero, Int.natCast_one, Int.cast_ofNat_Int]; rw [callL_code g_math_bits_Len64 (by simp)]; simp -implicitDefEqProofs (disch := omega) only [c_math_bits_Len64, r_math_bits_Len64, wr, Int.cast_ofNat_Int, Int.natCast_zero, List.length_append, lim_eq, wu64, wu32, wu8, Bool.true_beq, Bool.false_beq, beqT, beqF, Int.natCast_add, Int.natCast_one, ltT, ltF, leT, leF, eqT, eqF, nltT, nltF, nleT, nleF, neqT, neqF, mapGet, Int.toNat_natCast, Int.natCast_nonneg, List.length_map, go_sem, ↓reduceIte, reduceCtorEq, Nat.reduceEqDiff, Nat.reduceAdd, Nat.reduceBEq, Nat.reduceMul, Nat.reduceLeDiff, Nat.reduceSub, Nat.reduceLT, Nat.reduceDiv, Nat.reduceMod, List.reduceReplicate, Int.reduceEq, Int.reduceLT, Int.reduceLE, Int.reduceAdd, Int.reduceSub, Int.reduceMul, Int.reduceNeg, Int.reduceToNat, UInt8.toNat_ofNat, Nat.reducePow]⟩
  · exact ⟨4, by simp only [Int.natCast_zero, Int.natCast_one, Int.cast_ofNat_Int]; rw [callL_code g_math_bits_Len64 (by simp)]; simp -implicitDefEqProofs (disch := omega) only [c_math_bits_Len64, r_math_bits_Len64, wr, Int.cast_ofNat_Int, Int.natCast_zero, List.length_append, lim_eq, wu64, wu32, wu8, Bool.true_beq, Bool.false_beq, beqT, beqF, Int.natCast_add, Int.natCast_one, ltT, ltF, leT, leF, eqT, eqF, nltT, nltF, nleT, nleF, neqT, neqF, mapGet, Int.toNat_natCast, Int.natCast_nonneg, List.length_map, go_sem, ↓reduceIte, reduceCtorEq, Nat.reduceEqDiff, Nat.reduceAdd, Nat.reduceBEq, Nat.reduceMul, Nat.reduceLeDiff, Nat.reduceSub, Nat.reduceLT, Nat.reduceDiv, Nat.reduceMod, List.reduceReplicate, Int.reduceEq, Int.reduceLT, Int.reduceLE, Int.reduceAdd, Int.reduceSub, Int.reduceMul, Int.reduceNeg, Int.reduceToNat, UInt8.toNat_ofNat, Nat.reducePow]⟩
  · exact ⟨4, by simp only [Int.natCast_zero, Int.natCast_one, Int.cast_ofNat_Int]; rw [callL_code g_math_bits_Len64 (by simp)]; simp -implicitDefEqProofs (disch := omega) only [c_math_bits_Len64, r_math_bits_Len64, wr, Int.cast_ofNat_Int, Int.natCast_zero, List.length_append, lim_eq, wu64, wu32, wu8, Bool.true_beq, Bool.false_beq, beqT, beqF, Int.natCast_add, Int.natCast_one, ltT, ltF, leT, leF, eqT, eqF, nltT, nltF, nleT, nleF, neqT, neqF, mapGet, Int.toNat_natCast, Int.natCast_nonneg, List.length_map, go_sem, ↓reduceIte, reduceCtorEq, Nat.reduceEqDiff, Nat.reduceAdd, Nat.reduceBEq, Nat.reduceMul, Nat.reduceLeDiff, Nat.reduceSub, Nat.reduceLT, Nat.reduceDiv, Nat.reduceMod, List.reduceReplicate, Int.reduceEq, Int.reduceLT, Int.reduceLE, Int.reduceAdd, Int.reduceSub, Int.reduceMul, Int.reduceNeg, Int.reduceToNat, UInt8.toNat_ofNat, Nat.reducePow]⟩
  · exact ⟨4, by simp only [Int.natCast_zero, Int.natCast_one, Int.cast_ofNat_Int]; rw [callL_code g_math_bits_Len64 (by simp)]; simp -implicitDefEqProofs (disch := omega) only [c_math_bits_Len64, r_math_bits_Len64, wr, Int.cast_ofNat_Int, Int.natCast_zero, List.length_append, lim_eq, wu64, wu32, wu8, Bool.true_beq, Bool.false_beq, beqT, beqF, Int.natCast_add, Int.natCast_one, ltT, ltF, leT, leF, eqT, eqF, nltT, nltF, nleT, nleF, neqT, neqF, mapGet, Int.toNat_natCast, Int.natCast_nonneg, List.length_map, go_sem, ↓reduceIte, reduceCtorEq, Nat.reduceEqDiff, Nat.reduceAdd, Nat.reduceBEq, Nat.reduceMul, Nat.reduceLeDiff, Nat.reduceSub, Nat.reduceLT, Nat.reduceDiv, Nat.reduceMod, List.reduceReplicate, Int.reduceEq, Int.reduceLT, Int.reduceLE, Int.reduceAdd, Int.reduceSub, Int.reduceMul, Int.reduceNeg, Int.reduceToNat, UInt8.toNat_ofNat, Nat.reducePow]⟩
theorem len_ok (n : Nat) (h : n ≤ 12) : ∃ b : Int, callL G N_math_bits_Len [.d (.int .u64 n)] [] = some (.d (.int .i64 b), []) := by
  obtain ⟨b, hb⟩ := len64_ok n h
  refine ⟨b, ?_⟩
  rw [callL_code g_math_bits_Len (by simp)]; simp -implicitDefEqProofs (disch := omega) only [c_math_bits_Len, r_math_bits_Len, wr, Int.cast_ofNat_Int, Int.natCast_zero, List.length_append, lim_eq, wu64, wu32, wu8, Bool.true_beq, Bool.false_beq, beqT, beqF, Int.natCast_add, Int.natCast_one, ltT, ltF, leT, leF, eqT, eqF, nltT, nltF, nleT, nleF, neqT, neqF, mapGet, Int.toNat_natCast, Int.natCast_nonneg, List.length_map, go_sem, ↓reduceIte, reduceCtorEq, Nat.reduceEqDiff, Nat.reduceAdd, Nat.reduceBEq, Nat.reduceMul, Nat.reduceLeDiff, Nat.reduceSub, Nat.reduceLT, Nat.reduceDiv, Nat.reduceMod, List.reduceReplicate, Int.reduceEq, Int.reduceLT, Int.reduceLE, Int.reduceAdd, Int.reduceSub, Int.reduceMul, Int.reduceNeg, Int.reduceToNat, hb]
theorem pdq_ok (l : List Due) (b : Int) (h0 : 0 < l.length) (hL : l.length ≤ 12) : callL G N_slices_pdqsortCmpFunc_api_Due [.osl 1000000 0 l.length, .d (.int .i64 0), .d (.int .i64 l.length), .d (.int .i64 b), fcmp] [(1000000, rowL l)] = some (.d (.tup []), [(1000000, rowL (sortG l 1))]) := by
  have := isort_ok l h0 (by omega)
  simp only [rowL, fcmp] at this
  rw [callL_code g_slices_pdqsortCmpFunc_api_Due (by simp)]; simp -implicitDefEqProofs (disch := omega) only [c_slices_pdqsortCmpFunc_api_Due, r_slices_pdqsortCmpFunc_api_Due, wr, Int.cast_ofNat_Int, Int.natCast_zero, List.length_append, lim_eq, wu64, wu32, wu8, Bool.true_beq, Bool.false_beq, beqT, beqF, Int.natCast_add, Int.natCast_one, ltT, ltF, leT, leF, eqT, eqF, nltT, nltF, nleT, nleF, neqT, neqF, mapGet, Int.toNat_natCast, Int.natCast_nonneg, List.length_map, go_sem, ↓reduceIte, reduceCtorEq, Nat.reduceEqDiff, Nat.reduceAdd, Nat.reduceBEq, Nat.reduceMul, Nat.reduceLeDiff, Nat.reduceSub, Nat.reduceLT, Nat.reduceDiv, Nat.reduceMod, List.reduceReplicate, Int.reduceEq, Int.reduceLT, Int.reduceLE, Int.reduceAdd, Int.reduceSub, Int.reduceMul, Int.reduceNeg, Int.reduceToNat, this, rowL, fcmp]
  rw [loopL_eq]
  simp only [l_slices_pdqsortCmpFunc_api_Due_0]
  simp -implicitDefEqProofs (disch := omega) only [wr, Int.cast_ofNat_Int, Int.natCast_zero, List.length_append, lim_eq, wu64, wu32, wu8, Bool.true_beq, Bool.false_beq, beqT, beqF, Int.natCast_add, Int.natCast_one, ltT, ltF, leT, leF, eqT, eqF, nltT, nltF, nleT, nleF, neqT, neqF, mapGet, Int.toNat_natCast, Int.natCast_nonneg, List.length_map, go_sem, ↓reduceIte, reduceCtorEq, Nat.reduceEqDiff, Nat.reduceAdd, Nat.reduceBEq, Nat.reduceMul, Nat.reduceLeDiff, Nat.reduceSub, Nat.reduceLT, Nat.reduceDiv, Nat.reduceMod, List.reduceReplicate, Int.reduceEq, Int.reduceLT, Int.reduceLE, Int.reduceAdd, Int.reduceSub, Int.reduceMul, Int.reduceNeg, Int.reduceToNat, this, rowL, fcmp]
theorem pdq0_ok (b : Int) : callL G N_slices_pdqsortCmpFunc_api_Due [.d (.sl []), .d (.int .i64 0), .d (.int .i64 0), .d (.int .i64 b), fcmp] [] = some (.d (.tup []), []) := by
  have := isort0_ok
  simp only [fcmp] at this
  rw [callL_code g_slices_pdqsortCmpFunc_api_Due (by simp)]; simp -implicitDefEqProofs (disch := omega) only [c_slices_pdqsortCmpFunc_api_Due, r_slices_pdqsortCmpFunc_api_Due, wr, Int.cast_ofNat_Int, Int.natCast_zero, List.length_append, lim_eq, wu64, wu32, wu8, Bool.true_beq, Bool.false_beq, beqT, beqF, Int.natCast_add, Int.natCast_one, ltT, ltF, leT, leF, eqT, eqF, nltT, nltF, nleT, nleF, neqT, neqF, mapGet, Int.toNat_natCast, Int.natCast_nonneg, List.length_map, go_sem, ↓reduceIte, reduceCtorEq, Nat.reduceEqDiff, Nat.reduceAdd, Nat.reduceBEq, Nat.reduceMul, Nat.reduceLeDiff, Nat.reduceSub, Nat.reduceLT, Nat.reduceDiv, Nat.reduceMod, List.reduceReplicate, Int.reduceEq, Int.reduceLT, Int.reduceLE, Int.reduceAdd, Int.reduceSub, Int.reduceMul, Int.reduceNeg, Int.reduceToNat, this, fcmp]
  rw [loopL_eq]
  simp only [l_slices_pdqsortCmpFunc_api_Due_0]
  simp -implicitDefEqProofs (disch := omega) only [wr, Int.cast_ofNat_Int, Int.natCast_zero, List.length_append, lim_eq, wu64, wu32, wu8, Bool.true_beq, Bool.false_beq, beqT, beqF, Int.natCast_add, Int.natCast_one, ltT, ltF, leT, leF, eqT, eqF, nltT, nltF, nleT, nleF, neqT, neqF, mapGet, Int.toNat_natCast, Int.natCast_nonneg, List.length_map, go_sem, ↓reduceIte, reduceCtorEq, Nat.reduceEqDiff, Nat.reduceAdd, Nat.reduceBEq, Nat.reduceMul, Nat.reduceLeDiff, Nat.reduceSub, Nat.reduceLT, Nat.reduceDiv, Nat.reduceMod, List.reduceReplicate, Int.reduceEq, Int.reduceLT, Int.reduceLE, Int.reduceAdd, Int.reduceSub, Int.reduceMul, Int.reduceNeg, Int.reduceToNat, this, fcmp]
theorem sortFunc_ok (l : List Due) (h0 : 0 < l.length) (hL : l.length ≤ 12) : callL G N_slices_SortFunc_api_Due [.osl 1000000 0 l.length, fcmp] [(1000000, rowL l)] = some (.d (.tup []), [(1000000, rowL (sortG l 1))]) := by
  obtain ⟨b, hb⟩ := len_ok l.length hL
  have := pdq_ok l b h0 hL
  simp only [rowL, fcmp] at this
  rw [callL_code g_slices_SortFunc_api_Due (by simp)]; simp -implicitDefEqProofs (disch := omega) only [c_slices_SortFunc_api_Due, r_slices_SortFunc_api_Due, wr, Int.cast_ofNat_Int, Int.natCast_zero, List.length_append, lim_eq, wu64, wu32, wu8, Bool.true_beq, Bool.false_beq, beqT, beqF, Int.natCast_add, Int.natCast_one, ltT, ltF, leT, leF, eqT, eqF, nltT, nltF, nleT, nleF, neqT, neqF, mapGet, Int.toNat_natCast, Int.natCast_nonneg, List.length_map, go_sem, ↓reduceIte, reduceCtorEq, Nat.reduceEqDiff, Nat.reduceAdd, Nat.reduceBEq, Nat.reduceMul, Nat.reduceLeDiff, Nat.reduceSub, Nat.reduceLT, Nat.reduceDiv, Nat.reduceMod, List.reduceReplicate, Int.reduceEq, Int.reduceLT, Int.reduceLE, Int.reduceAdd, Int.reduceSub, Int.reduceMul, Int.reduceNeg, Int.reduceToNat, hb, this, rowL, fcmp]
theorem sortFunc0_ok : callL G N_slices_SortFunc_api_Due [.d (.sl []), fcmp] [] = some (.d (.tup []), []) := by
  obtain ⟨b, hb⟩ := len_ok 0 (by omega)
  have := pdq0_ok b
  simp only [Int.natCast_zero, fcmp] at this hb
  rw [callL_code g_slices_SortFunc_api_Due (by simp)]; simp -implicitDefEqProofs (disch := omega) only [c_slices_SortFunc_api_Due, r_slices_SortFunc_api_Due, wr, Int.cast_ofNat_Int, Int.natCast_zero, List.length_append, lim_eq, wu64, wu32, wu8, Bool.true_beq, Bool.false_beq, beqT, beqF, Int.natCast_add, Int.natCast_one, ltT, ltF, leT, leF, eqT, eqF, nltT, nltF, nleT, nleF, neqT, neqF, mapGet, Int.toNat_natCast, Int.natCast_nonneg, List.length_map, go_sem, ↓reduceIte, reduceCtorEq, Nat.reduceEqDiff, Nat.reduceAdd, Nat.reduceBEq, Nat.reduceMul, Nat.reduceLeDiff, Nat.reduceSub, Nat.reduceLT, Nat.reduceDiv, Nat.reduceMod, List.reduceReplicate, Int.reduceEq, Int.reduceLT, Int.reduceLE, Int.reduceAdd, Int.reduceSub, Int.reduceMul, Int.reduceNeg, Int.reduceToNat, hb, this, fcmp]

/-! ### Until -/
def dueIds (now : Int) (l : List Due) : List Int := (l.filter fun d => decide (d.1 ≤ now)).map (·.2)
def untilD (h : List Due) (now : Int) : List Int := if validateD h = 0 then dueIds now (sortG h 1) else []
abbrev accI (o : Nat) (l : List Int) : AV := .acc o (ints l)
theorem ints_append (a b : List Int) : ints a ++ ints b = ints (a ++ b) := by simp [ints]
def untilS (l : List Due) (now : Int) (k : Nat) (out : List Int) : St := ⟨[(1, .d (.int .i64 now)), (6, .acc 6 (ints out)), (16, .osl 13 0 l.length), (17, .d (.int .i64 l.length)), (18, .d (.int .i64 k))], [(6, .acc out.length), (13, rowL l)]⟩
theorem until_loop (l : List Due) (now : Int) (hL : l.length ≤ 12) : ∀ k, k ≤ l.length → loopL G [] l_due_Until_0 (untilS l now k (dueIds now (l.take k))) = some (.exit 0, ⟨[(6, .acc 6 (ints (dueIds now l)))], [(6, .acc (dueIds now l).length)]⟩) := by
  refine loop_ind (fun k => l.length - k) (fun k => k ≤ l.length) (fun k => untilS l now k (dueIds now (l.take k))) _ fun k hk L ih => ?_
  simp only [l_due_Until_0, untilS, rowL] at ih ⊢
  by_cases h0 : k < l.length
  · have hg := rowGet l k h0
    have hlen : (dueIds now (l.take k)).length ≤ 12 := by
      have := List.length_filter_le (fun d : Due => decide (d.1 ≤ now)) (l.take k)
      simp only [dueIds, List.length_map]; rw [List.length_take] at this; omega
    have e1 : dueIds now (l.take (k + 1)) = if l[k].1 ≤ now then dueIds now (l.take k) ++ [l[k].2] else dueIds now (l.take k) := by
      rw [List.take_succ_eq_append_getElem h0]
      unfold dueIds
      rw [List.filter_append, List.map_append]
      by_cases hc : l[k].1 ≤ now <;> simp [hc]
    have := ih (k + 1) (by omega) (by omega)
    rw [e1] at this
    have e2 : l.getD k (0, 0) = l[k] := by simp [h0]
    rw [e2] at hg
    obtain ⟨ds, hds⟩ : ∃ ds, ds = dueIds now (l.take k) := ⟨_, rfl⟩
    rw [← hds] at this hlen ⊢
    by_cases hc : l[k].1 ≤ now
    · rw [if_pos hc] at this
      simp only [ints, List.map_append, List.map_cons, List.map_nil, List.length_append, List.length_cons, List.length_nil, Int.natCast_add, Int.natCast_one, Nat.zero_add] at this
      simp -implicitDefEqProofs (disch := omega) only [wr, Int.cast_ofNat_Int, Int.natCast_zero, List.length_append, lim_eq, wu64, wu32, wu8, Bool.true_beq, Bool.false_beq, beqT, beqF, Int.natCast_add, Int.natCast_one, ltT, ltF, leT, leF, eqT, eqF, nltT, nltF, nleT, nleF, neqT, neqF, mapGet, Int.toNat_natCast, Int.natCast_nonneg, List.length_map, go_sem, ↓reduceIte, reduceCtorEq, Nat.reduceEqDiff, Nat.reduceAdd, Nat.reduceBEq, Nat.reduceMul, Nat.reduceLeDiff, Nat.reduceSub, Nat.reduceLT, Nat.reduceDiv, Nat.reduceMod, List.reduceReplicate, Int.reduceEq, Int.reduceLT, Int.reduceLE, Int.reduceAdd, Int.reduceSub, Int.reduceMul, Int.reduceNeg, Int.reduceToNat, hg, eD, hc, allSize_ints, this]
    · rw [if_neg hc] at this
      simp only [Int.natCast_add, Int.natCast_one] at this
      simp -implicitDefEqProofs (disch := omega) only [wr, Int.cast_ofNat_Int, Int.natCast_zero, List.length_append, lim_eq, wu64, wu32, wu8, Bool.true_beq, Bool.false_beq, beqT, beqF, Int.natCast_add, Int.natCast_one, ltT, ltF, leT, leF, eqT, eqF, nltT, nltF, nleT, nleF, neqT, neqF, mapGet, Int.toNat_natCast, Int.natCast_nonneg, List.length_map, go_sem, ↓reduceIte, reduceCtorEq, Nat.reduceEqDiff, Nat.reduceAdd, Nat.reduceBEq, Nat.reduceMul, Nat.reduceLeDiff, Nat.reduceSub, Nat.reduceLT, Nat.reduceDiv, Nat.reduceMod, List.reduceReplicate, Int.reduceEq, Int.reduceLT, Int.reduceLE, Int.reduceAdd, Int.reduceSub, Int.reduceMul, Int.reduceNeg, Int.reduceToNat, hg, eD, hc, allSize_ints, this]
  · have : k = l.length := by omega
    subst this
    simp -implicitDefEqProofs (disch := omega) only [wr, Int.cast_ofNat_Int, Int.natCast_zero, List.length_append, lim_eq, wu64, wu32, wu8, Bool.true_beq, Bool.false_beq, beqT, beqF, Int.natCast_add, Int.natCast_one, ltT, ltF, leT, leF, eqT, eqF, nltT, nltF, nleT, nleF, neqT, neqF, mapGet, Int.toNat_natCast, Int.natCast_nonneg, List.length_map, go_sem, ↓reduceIte, reduceCtorEq, Nat.reduceEqDiff, Nat.reduceAdd, Nat.reduceBEq, Nat.reduceMul, Nat.reduceLeDiff, Nat.reduceSub, Nat.reduceLT, Nat.reduceDiv, Nat.reduceMod, List.reduceReplicate, Int.reduceEq, Int.reduceLT, Int.reduceLE, Int.reduceAdd, Int.reduceSub, Int.reduceMul, Int.reduceNeg, Int.reduceToNat, List.take_length]
theorem until_ok (h : List Due) (now : Int) (hL : h.length ≤ LIM) : callL G N_due_Until [.d (.sl (h.map eD)), .d (.int .i64 now)] [] = some (.d (.sl (ints (untilD h now))), []) := by
  have hv := validate_ok h hL
  unfold untilD
  by_cases h0 : validateD h = 0
  · have h12 := validateD_le h0
    have hc := clone_ok (h.map eD) (allSize_eD h) (by simpa using hL)
    have hsl := (sortG_spec h 1 (fun p q hp hq => by omega)).2.length_eq
    have hl := until_loop (sortG h 1) now (by omega) 0 (by omega)
    simp only [untilS, dueIds, List.take_zero, List.filter_nil, List.map_nil, List.length_nil, rowL, hsl, ints, Int.natCast_zero] at hl
    by_cases he : h = []
    · subst he
      have hs := sortFunc0_ok
      have e0 : sortG [] 1 = [] := by rw [sortG]; simp
      simp only [fcmp] at hs
      simp only [List.map_nil] at hv hc ⊢
      rw [e0]
      rw [callL_code g_due_Until (by simp)]; simp -implicitDefEqProofs (disch := omega) only [c_due_Until, r_due_Until, wr, Int.cast_ofNat_Int, Int.natCast_zero, List.length_append, lim_eq, wu64, wu32, wu8, Bool.true_beq, Bool.false_beq, beqT, beqF, Int.natCast_add, Int.natCast_one, ltT, ltF, leT, leF, eqT, eqF, nltT, nltF, nleT, nleF, neqT, neqF, mapGet, Int.toNat_natCast, Int.natCast_nonneg, List.length_map, go_sem, ↓reduceIte, reduceCtorEq, Nat.reduceEqDiff, Nat.reduceAdd, Nat.reduceBEq, Nat.reduceMul, Nat.reduceLeDiff, Nat.reduceSub, Nat.reduceLT, Nat.reduceDiv, Nat.reduceMod, List.reduceReplicate, Int.reduceEq, Int.reduceLT, Int.reduceLE, Int.reduceAdd, Int.reduceSub, Int.reduceMul, Int.reduceNeg, Int.reduceToNat, hv, hc, hs, h0, fcmp]
      rw [loopL_eq]
      simp only [l_due_Until_0]
      simp -implicitDefEqProofs (disch := omega) only [wr, Int.cast_ofNat_Int, Int.natCast_zero, List.length_append, lim_eq, wu64, wu32, wu8, Bool.true_beq, Bool.false_beq, beqT, beqF, Int.natCast_add, Int.natCast_one, ltT, ltF, leT, leF, eqT, eqF, nltT, nltF, nleT, nleF, neqT, neqF, mapGet, Int.toNat_natCast, Int.natCast_nonneg, List.length_map, go_sem, ↓reduceIte, reduceCtorEq, Nat.reduceEqDiff, Nat.reduceAdd, Nat.reduceBEq, Nat.reduceMul, Nat.reduceLeDiff, Nat.reduceSub, Nat.reduceLT, Nat.reduceDiv, Nat.reduceMod, List.reduceReplicate, Int.reduceEq, Int.reduceLT, Int.reduceLE, Int.reduceAdd, Int.reduceSub, Int.reduceMul, Int.reduceNeg, Int.reduceToNat, Nat.zero_add]
      rfl
    · have hs := sortFunc_ok h (List.length_pos_iff.2 he) h12
      simp only [rowL, fcmp] at hs
      have hne : h.length ≠ 0 := by simpa using he
      have e4 : List.take h.length (List.map AV.d (List.map eD h)) = List.map AV.d (List.map eD h) := rowAll h
      rw [callL_code g_due_Until (by simp)]; simp -implicitDefEqProofs (disch := omega) only [c_due_Until, r_due_Until, wr, Int.cast_ofNat_Int, Int.natCast_zero, List.length_append, lim_eq, wu64, wu32, wu8, Bool.true_beq, Bool.false_beq, beqT, beqF, Int.natCast_add, Int.natCast_one, ltT, ltF, leT, leF, eqT, eqF, nltT, nltF, nleT, nleF, neqT, neqF, mapGet, Int.toNat_natCast, Int.natCast_nonneg, List.length_map, go_sem, ↓reduceIte, reduceCtorEq, Nat.reduceEqDiff, Nat.reduceAdd, Nat.reduceBEq, Nat.reduceMul, Nat.reduceLeDiff, Nat.reduceSub, Nat.reduceLT, Nat.reduceDiv, Nat.reduceMod, List.reduceReplicate, Int.reduceEq, Int.reduceLT, Int.reduceLE, Int.reduceAdd, Int.reduceSub, Int.reduceMul, Int.reduceNeg, Int.reduceToNat, hv, hc, hs, h0, hl, e4, hne]
      rfl
  · rw [callL_code g_due_Until (by simp)]; simp -implicitDefEqProofs (disch := omega) only [c_due_Until, r_due_Until, wr, Int.cast_ofNat_Int, Int.natCast_zero, List.length_append, lim_eq, wu64, wu32, wu8, Bool.true_beq, Bool.false_beq, beqT, beqF, Int.natCast_add, Int.natCast_one, ltT, ltF, leT, leF, eqT, eqF, nltT, nltF, nleT, nleF, neqT, neqF, mapGet, Int.toNat_natCast, Int.natCast_nonneg, List.length_map, go_sem, ↓reduceIte, reduceCtorEq, Nat.reduceEqDiff, Nat.reduceAdd, Nat.reduceBEq, Nat.reduceMul, Nat.reduceLeDiff, Nat.reduceSub, Nat.reduceLT, Nat.reduceDiv, Nat.reduceMod, List.reduceReplicate, Int.reduceEq, Int.reduceLT, Int.reduceLE, Int.reduceAdd, Int.reduceSub, Int.reduceMul, Int.reduceNeg, Int.reduceToNat, hv, h0]

end Go.Proofs.Ytlphhhmicdjljab
