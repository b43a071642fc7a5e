/-
  Heaps of deadlines: what the functions of package due compute, part 3.
-/
import Derived.Test.YtlphhhmicdjljabQD2
namespace Go.Proofs.Ytlphhhmicdjljab
open Go Go.Sim
set_option linter.unusedSimpArgs false
set_option linter.unusedVariables false
set_option maxRecDepth 4000

abbrev rowL (h : List Due) : Go.Sim.Obj := .row ((h.map eD).map .d)
theorem eD_isT (d : Due) : (eD d).isT = false := rfl
def swp (l : List Due) (i j : Nat) : List Due := (l.set i (l.getD j (0, 0))).set j (l.getD i (0, 0))
theorem swp_length (l : List Due) (i j : Nat) : (swp l i j).length = l.length := by simp [swp]
def upL (l : List Due) (i : Nat) : List Due × Nat :=
  if 0 < i then
    if lt (l.getD i (0, 0)) (l.getD ((i - 1) / 2) (0, 0)) then upL (swp l i ((i - 1) / 2)) ((i - 1) / 2) else (l, i)
  else (l, i)
termination_by i
decreasing_by omega

theorem rowGet (l : List Due) (i : Nat) (h : i < l.length) : (List.map AV.d (List.map eD l))[i]? = some (.d (eD (l.getD i (0, 0)))) := by
  simp [List.getElem?_map, List.getElem?_eq_getElem h, h]
theorem rowSet (l : List Due) (i : Nat) (x : Due) : (List.map AV.d (List.map eD l)).set i (.d (eD x)) = List.map AV.d (List.map eD (l.set i x)) := by
  rw [List.map_set, List.map_set]
theorem rowAll (l : List Due) : List.take l.length (List.map AV.d (List.map eD l)) = List.map AV.d (List.map eD l) := by
  rw [List.take_of_length_le]; simp
theorem rowLen (l : List Due) : (List.map eD l).length = l.length := by simp
theorem before_ok' (h : List Due) (i j : Nat) (hi : i < h.length) (hj : j < h.length) : callL G N_due_before [.d (.sl (h.map eD)), .d (.int .i64 i), .d (.int .i64 j)] [] = some (.d (.bool (lt (h.getD i (0, 0)) (h.getD j (0, 0)))), []) := by
  rw [before_ok h i j hi hj]; simp [hi, hj]
def upS (l : List Due) (i : Nat) : St := ⟨[(0, .osl 1000000 0 l.length), (1, .d (.int .i64 i)), (1000000, .ref 1000000 1 0)], [(1000000, rowL l)]⟩
def upE (l : List Due) (i : Nat) : St := ⟨[(1, .d (.int .i64 i)), (1000000, .ref 1000000 1 0)], [(1000000, rowL l)]⟩
theorem up_loop : ∀ p : List Due × Nat, p.2 < p.1.length ∧ p.1.length ≤ 1000 → loopL G [] l_due_up_0 (upS p.1 p.2) = some (.exit 0, upE (upL p.1 p.2).1 (upL p.1 p.2).2) := by
  refine loop_ind (fun p : List Due × Nat => p.2) (fun p : List Due × Nat => p.2 < p.1.length ∧ p.1.length ≤ 1000) (fun p : List Due × Nat => upS p.1 p.2) _ fun ⟨l, i⟩ ⟨hi, hL⟩ L ih => ?_
  simp only at hi hL ih ⊢
  simp -implicitDefEqProofs only [l_due_up_0, upS, upE, rowL, go_sem, ↓reduceIte, reduceCtorEq, Nat.reduceEqDiff, Nat.reduceAdd, Nat.reduceBEq, Nat.reduceMul, Nat.reduceLeDiff, Nat.reduceSub, Nat.reduceLT, Nat.reduceDiv, Nat.reduceMod, List.reduceReplicate, Int.reduceEq, Int.reduceLT, Int.reduceLE, Int.reduceAdd, Int.reduceSub, Int.reduceMul, Int.reduceNeg, Int.reduceToNat]
  rw [upL]
  by_cases h0 : 0 < i
  · have hq : IntKind.i64.wrap (((i : Int) - 1).tdiv 2) = (((i - 1) / 2 : Nat) : Int) := by
      rw [wrapN (by rw [Int.tdiv_eq_ediv_of_nonneg (by omega)]; omega) (by rw [Int.tdiv_eq_ediv_of_nonneg (by omega)]; omega), Int.tdiv_eq_ediv_of_nonneg (by omega)]; omega
    have hj : (i - 1) / 2 < l.length := by omega
    have hb := before_ok' l i ((i - 1) / 2) hi hj
    have hi' : (i : Int) < l.length := by omega
    have hj' : (((i - 1) / 2 : Nat) : Int) < l.length := by omega
    simp -implicitDefEqProofs only [h0, show (0 : Int) < (i : Int) by omega, wrapN (show -4294967296 ≤ (i : Int) - 1 by omega) (by omega), hq, rowAll, rowLen, hb, go_sem, ↓reduceIte, reduceCtorEq, Nat.reduceEqDiff, Nat.reduceAdd, Nat.reduceBEq, Nat.reduceMul, Nat.reduceLeDiff, Nat.reduceSub, Nat.reduceLT, Nat.reduceDiv, Nat.reduceMod, List.reduceReplicate, Int.reduceEq, Int.reduceLT, Int.reduceLE, Int.reduceAdd, Int.reduceSub, Int.reduceMul, Int.reduceNeg, Int.reduceToNat]
    cases hlt : lt (l.getD i (0, 0)) (l.getD ((i - 1) / 2) (0, 0))
    · simp -implicitDefEqProofs only [hlt, go_sem, ↓reduceIte, reduceCtorEq, Nat.reduceEqDiff, Nat.reduceAdd, Nat.reduceBEq, Nat.reduceMul, Nat.reduceLeDiff, Nat.reduceSub, Nat.reduceLT, Nat.reduceDiv, Nat.reduceMod, List.reduceReplicate, Int.reduceEq, Int.reduceLT, Int.reduceLE, Int.reduceAdd, Int.reduceSub, Int.reduceMul, Int.reduceNeg, Int.reduceToNat]
    · simp -implicitDefEqProofs only [hlt, h0, show (0 : Int) < (i : Int) by omega, wrapN (show -4294967296 ≤ (i : Int) - 1 by omega) (by omega), hq, hi', hj', Int.natCast_nonneg, Int.toNat_natCast, rowGet l i hi, rowGet l _ hj, rowSet, eD_size, eD_asAgg, eD_isT, rowGet (l.set i (l.getD ((i - 1) / 2) (0, 0))) ((i - 1) / 2) (by simpa using hj), go_sem, ↓reduceIte, reduceCtorEq, Nat.reduceEqDiff, Nat.reduceAdd, Nat.reduceBEq, Nat.reduceMul, Nat.reduceLeDiff, Nat.reduceSub, Nat.reduceLT, Nat.reduceDiv, Nat.reduceMod, List.reduceReplicate, Int.reduceEq, Int.reduceLT, Int.reduceLE, Int.reduceAdd, Int.reduceSub, Int.reduceMul, Int.reduceNeg, Int.reduceToNat]
      have := ih (swp l i ((i - 1) / 2), (i - 1) / 2) ⟨by simp only [swp_length]; omega, by simp only [swp_length]; omega⟩ (by simp only; omega)
      simp only [upS, upE, rowL, swp_length] at this
      exact this
  · simp -implicitDefEqProofs only [h0, show ¬ (0 : Int) < (i : Int) by omega, go_sem, ↓reduceIte, reduceCtorEq, Nat.reduceEqDiff, Nat.reduceAdd, Nat.reduceBEq, Nat.reduceMul, Nat.reduceLeDiff, Nat.reduceSub, Nat.reduceLT, Nat.reduceDiv, Nat.reduceMod, List.reduceReplicate, Int.reduceEq, Int.reduceLT, Int.reduceLE, Int.reduceAdd, Int.reduceSub, Int.reduceMul, Int.reduceNeg, Int.reduceToNat]
theorem upL_length (l : List Due) (i : Nat) : (upL l i).1.length = l.length := by
  fun_induction upL l i with
  | case1 l i h0 h1 ih => rw [ih, swp_length]
  | case2 => rfl
  | case3 => rfl
theorem up_ok (h : List Due) (i : Nat) (hi : i < h.length) (hL : h.length ≤ 1000) : callL G N_due_up [.osl 1000000 0 h.length, .d (.int .i64 i)] [(1000000, rowL h)] = some (.d (.int .i64 (upL h i).2), [(1000000, rowL (upL h i).1)]) := by
  have := up_loop (h, i) ⟨hi, hL⟩
  simp only [upS, upE, rowL] at this
  rw [callL_code g_due_up (by simp)]; simp -implicitDefEqProofs only [c_due_up, r_due_up, go_sem, ↓reduceIte, reduceCtorEq, Nat.reduceEqDiff, Nat.reduceAdd, Nat.reduceBEq, Nat.reduceMul, Nat.reduceLeDiff, Nat.reduceSub, Nat.reduceLT, Nat.reduceDiv, Nat.reduceMod, List.reduceReplicate, Int.reduceEq, Int.reduceLT, Int.reduceLE, Int.reduceAdd, Int.reduceSub, Int.reduceMul, Int.reduceNeg, Int.reduceToNat]
  simp -implicitDefEqProofs only [rowL, this, go_sem, ↓reduceIte, reduceCtorEq, Nat.reduceEqDiff, Nat.reduceAdd, Nat.reduceBEq, Nat.reduceMul, Nat.reduceLeDiff, Nat.reduceSub, Nat.reduceLT, Nat.reduceDiv, Nat.reduceMod, List.reduceReplicate, Int.reduceEq, Int.reduceLT, Int.reduceLE, Int.reduceAdd, Int.reduceSub, Int.reduceMul, Int.reduceNeg, Int.reduceToNat]

def downL (l : List Due) (i : Nat) : List Due :=
  if _h : 2 * i + 1 < l.length then
    let k := if 2 * i + 1 + 1 < l.length ∧ lt (l.getD (2 * i + 1 + 1) (0, 0)) (l.getD (2 * i + 1) (0, 0)) then 2 * i + 1 + 1 else 2 * i + 1
    if lt (l.getD k (0, 0)) (l.getD i (0, 0)) then downL (swp l i k) k else l
  else l
termination_by l.length - i
decreasing_by simp only [swp_length]; split <;> omega

theorem down_loop : ∀ p : List Due × Nat, p.2 < p.1.length ∧ p.1.length ≤ 1000 → loopL G [] l_due_down_0 (upS p.1 p.2) = some (.ret, ⟨[(1000000, .ref 1000000 1 0)], [(1000000, rowL (downL p.1 p.2))]⟩) := by
  refine loop_ind (fun p : List Due × Nat => p.1.length - p.2) (fun p : List Due × Nat => p.2 < p.1.length ∧ p.1.length ≤ 1000) (fun p : List Due × Nat => upS p.1 p.2) _ fun ⟨l, i⟩ ⟨hi, hL⟩ L ih => ?_
  simp only at hi hL ih ⊢
  rw [downL]
  have w1 : IntKind.i64.wrap (2 * (i : Int)) = 2 * (i : Int) := wrapN (by omega) (by omega)
  have w2 : IntKind.i64.wrap (2 * (i : Int) + 1) = ((2 * i + 1 : Nat) : Int) := by rw [wrapN (by omega) (by omega)]; omega
  simp -implicitDefEqProofs only [l_due_down_0, upS, rowL, w1, w2, go_sem, ↓reduceIte, reduceCtorEq, Nat.reduceEqDiff, Nat.reduceAdd, Nat.reduceBEq, Nat.reduceMul, Nat.reduceLeDiff, Nat.reduceSub, Nat.reduceLT, Nat.reduceDiv, Nat.reduceMod, List.reduceReplicate, Int.reduceEq, Int.reduceLT, Int.reduceLE, Int.reduceAdd, Int.reduceSub, Int.reduceMul, Int.reduceNeg, Int.reduceToNat]
  by_cases h1 : 2 * i + 1 < l.length
  · have w3 : IntKind.i64.wrap (((2 * i + 1 : Nat) : Int) + 1) = ((2 * i + 1 + 1 : Nat) : Int) := by rw [wrapN (by omega) (by omega)]; omega
    have fin : ∀ k : Nat, i < k → k < l.length → L ⟨[(0, .osl 1000000 0 l.length), (1, .d (.int .i64 k)), (1000000, .ref 1000000 1 0)], [(1000000, .row (List.map .d (List.map eD ((l.set i (l.getD k (0, 0))).set k (l.getD i (0, 0))))))]⟩ = some (.ret, ⟨[(1000000, .ref 1000000 1 0)], [(1000000, .row (List.map .d (List.map eD (downL (swp l i k) k))))]⟩) := by
      intro k h1 h2
      have := ih (swp l i k, k) ⟨by simp only [swp_length]; omega, by simp only [swp_length]; omega⟩ (by simp only [swp_length]; omega)
      simp only [upS, rowL, swp_length] at this
      exact this
    have hd := before_ok' l (2 * i + 1) i h1 hi
    have s1 := rowGet (l.set i (l.getD (2 * i + 1) (0, 0))) (2 * i + 1) (by simpa using h1)
    have f1 := fin (2 * i + 1) (by omega) h1
    have b0 : (i : Int) < (l.length : Int) := by omega
    have b1 : ((2 * i + 1 : Nat) : Int) < (l.length : Int) := by omega
    by_cases h2 : 2 * i + 1 + 1 < l.length
    · have hb := before_ok' l (2 * i + 1 + 1) (2 * i + 1) h2 h1
      have hc := before_ok' l (2 * i + 1 + 1) i h2 hi
      have s2 := rowGet (l.set i (l.getD (2 * i + 1 + 1) (0, 0))) (2 * i + 1 + 1) (by simpa using h2)
      have f2 := fin (2 * i + 1 + 1) (by omega) h2
      have b2 : ((2 * i + 1 + 1 : Nat) : Int) < (l.length : Int) := by omega
      simp -implicitDefEqProofs only [h1, h2, show ¬ ((l.length : Int) ≤ ((2 * i + 1 : Nat) : Int)) by omega, b0, b1, b2, w3, rowAll, rowLen, hb, hc, hd, go_sem, ↓reduceIte, reduceCtorEq, Nat.reduceEqDiff, Nat.reduceAdd, Nat.reduceBEq, Nat.reduceMul, Nat.reduceLeDiff, Nat.reduceSub, Nat.reduceLT, Nat.reduceDiv, Nat.reduceMod, List.reduceReplicate, Int.reduceEq, Int.reduceLT, Int.reduceLE, Int.reduceAdd, Int.reduceSub, Int.reduceMul, Int.reduceNeg, Int.reduceToNat]
      cases hlt : lt (l.getD (2 * i + 1 + 1) (0, 0)) (l.getD (2 * i + 1) (0, 0))
      · cases hlt2 : lt (l.getD (2 * i + 1) (0, 0)) (l.getD i (0, 0))
        · simp -implicitDefEqProofs only [hlt, hlt2, go_sem, ↓reduceIte, reduceCtorEq, Nat.reduceEqDiff, Nat.reduceAdd, Nat.reduceBEq, Nat.reduceMul, Nat.reduceLeDiff, Nat.reduceSub, Nat.reduceLT, Nat.reduceDiv, Nat.reduceMod, List.reduceReplicate, Int.reduceEq, Int.reduceLT, Int.reduceLE, Int.reduceAdd, Int.reduceSub, Int.reduceMul, Int.reduceNeg, Int.reduceToNat]; simp [hlt, hlt2]
        · simp -implicitDefEqProofs only [hlt, hlt2, b0, b1, Int.natCast_nonneg, Int.toNat_natCast, rowGet l i hi, rowGet l _ h1, rowSet, eD_size, eD_asAgg, eD_isT, s1, f1, go_sem, ↓reduceIte, reduceCtorEq, Nat.reduceEqDiff, Nat.reduceAdd, Nat.reduceBEq, Nat.reduceMul, Nat.reduceLeDiff, Nat.reduceSub, Nat.reduceLT, Nat.reduceDiv, Nat.reduceMod, List.reduceReplicate, Int.reduceEq, Int.reduceLT, Int.reduceLE, Int.reduceAdd, Int.reduceSub, Int.reduceMul, Int.reduceNeg, Int.reduceToNat]; simp [hlt, hlt2]
      · cases hlt2 : lt (l.getD (2 * i + 1 + 1) (0, 0)) (l.getD i (0, 0))
        · simp -implicitDefEqProofs only [hlt, hlt2, go_sem, ↓reduceIte, reduceCtorEq, Nat.reduceEqDiff, Nat.reduceAdd, Nat.reduceBEq, Nat.reduceMul, Nat.reduceLeDiff, Nat.reduceSub, Nat.reduceLT, Nat.reduceDiv, Nat.reduceMod, List.reduceReplicate, Int.reduceEq, Int.reduceLT, Int.reduceLE, Int.reduceAdd, Int.reduceSub, Int.reduceMul, Int.reduceNeg, Int.reduceToNat]; simp [hlt, hlt2]
        · simp -implicitDefEqProofs only [hlt, hlt2, b0, b2, Int.natCast_nonneg, Int.toNat_natCast, rowGet l i hi, rowGet l _ h2, rowSet, eD_size, eD_asAgg, eD_isT, s2, f2, go_sem, ↓reduceIte, reduceCtorEq, Nat.reduceEqDiff, Nat.reduceAdd, Nat.reduceBEq, Nat.reduceMul, Nat.reduceLeDiff, Nat.reduceSub, Nat.reduceLT, Nat.reduceDiv, Nat.reduceMod, List.reduceReplicate, Int.reduceEq, Int.reduceLT, Int.reduceLE, Int.reduceAdd, Int.reduceSub, Int.reduceMul, Int.reduceNeg, Int.reduceToNat]; simp [hlt, hlt2]
    · simp -implicitDefEqProofs only [h1, h2, show ¬ ((l.length : Int) ≤ ((2 * i + 1 : Nat) : Int)) by omega, show ¬ ((2 * i + 1 + 1 : Nat) : Int) < (l.length : Int) by omega, b0, b1, w3, rowAll, rowLen, hd, go_sem, ↓reduceIte, reduceCtorEq, Nat.reduceEqDiff, Nat.reduceAdd, Nat.reduceBEq, Nat.reduceMul, Nat.reduceLeDiff, Nat.reduceSub, Nat.reduceLT, Nat.reduceDiv, Nat.reduceMod, List.reduceReplicate, Int.reduceEq, Int.reduceLT, Int.reduceLE, Int.reduceAdd, Int.reduceSub, Int.reduceMul, Int.reduceNeg, Int.reduceToNat]
      cases hlt2 : lt (l.getD (2 * i + 1) (0, 0)) (l.getD i (0, 0))
      · simp -implicitDefEqProofs only [hlt2, go_sem, ↓reduceIte, reduceCtorEq, Nat.reduceEqDiff, Nat.reduceAdd, Nat.reduceBEq, Nat.reduceMul, Nat.reduceLeDiff, Nat.reduceSub, Nat.reduceLT, Nat.reduceDiv, Nat.reduceMod, List.reduceReplicate, Int.reduceEq, Int.reduceLT, Int.reduceLE, Int.reduceAdd, Int.reduceSub, Int.reduceMul, Int.reduceNeg, Int.reduceToNat]; simp only [hlt2, false_and, Bool.false_eq_true, if_false, dite_true]
      · simp -implicitDefEqProofs only [hlt2, b0, b1, Int.natCast_nonneg, Int.toNat_natCast, rowGet l i hi, rowGet l _ h1, rowSet, eD_size, eD_asAgg, eD_isT, s1, f1, go_sem, ↓reduceIte, reduceCtorEq, Nat.reduceEqDiff, Nat.reduceAdd, Nat.reduceBEq, Nat.reduceMul, Nat.reduceLeDiff, Nat.reduceSub, Nat.reduceLT, Nat.reduceDiv, Nat.reduceMod, List.reduceReplicate, Int.reduceEq, Int.reduceLT, Int.reduceLE, Int.reduceAdd, Int.reduceSub, Int.reduceMul, Int.reduceNeg, Int.reduceToNat]; simp only [hlt2, false_and, if_false, if_true, dite_true]
  · simp -implicitDefEqProofs only [h1, show ((l.length : Int) ≤ ((2 * i + 1 : Nat) : Int)) by omega, go_sem, ↓reduceIte, reduceCtorEq, Nat.reduceEqDiff, Nat.reduceAdd, Nat.reduceBEq, Nat.reduceMul, Nat.reduceLeDiff, Nat.reduceSub, Nat.reduceLT, Nat.reduceDiv, Nat.reduceMod, List.reduceReplicate, Int.reduceEq, Int.reduceLT, Int.reduceLE, Int.reduceAdd, Int.reduceSub, Int.reduceMul, Int.reduceNeg, Int.reduceToNat]
    simp
theorem down_ok (h : List Due) (i : Nat) (hi : i < h.length) (hL : h.length ≤ 1000) : callL G N_due_down [.osl 1000000 0 h.length, .d (.int .i64 i)] [(1000000, rowL h)] = some (.d (.tup []), [(1000000, rowL (downL h i))]) := by
  have := down_loop (h, i) ⟨hi, hL⟩
  simp only [upS, rowL] at this
  rw [callL_code g_due_down (by simp)]; simp -implicitDefEqProofs only [c_due_down, r_due_down, go_sem, ↓reduceIte, reduceCtorEq, Nat.reduceEqDiff, Nat.reduceAdd, Nat.reduceBEq, Nat.reduceMul, Nat.reduceLeDiff, Nat.reduceSub, Nat.reduceLT, Nat.reduceDiv, Nat.reduceMod, List.reduceReplicate, Int.reduceEq, Int.reduceLT, Int.reduceLE, Int.reduceAdd, Int.reduceSub, Int.reduceMul, Int.reduceNeg, Int.reduceToNat]
  simp -implicitDefEqProofs only [rowL, this, go_sem, ↓reduceIte, reduceCtorEq, Nat.reduceEqDiff, Nat.reduceAdd, Nat.reduceBEq, Nat.reduceMul, Nat.reduceLeDiff, Nat.reduceSub, Nat.reduceLT, Nat.reduceDiv, Nat.reduceMod, List.reduceReplicate, Int.reduceEq, Int.reduceLT, Int.reduceLE, Int.reduceAdd, Int.reduceSub, Int.reduceMul, Int.reduceNeg, Int.reduceToNat]
end Go.Proofs.Ytlphhhmicdjljab
