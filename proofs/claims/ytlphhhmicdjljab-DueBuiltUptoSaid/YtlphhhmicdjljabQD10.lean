/-
  The reference of heaps: sifting down, cutting, Pop, Remove, equality.
-/
import Derived.Test.YtlphhhmicdjljabQD9a
namespace Go.Proofs.Ytlphhhmicdjljab
open Go Go.Sim
set_option linter.unusedSimpArgs false
set_option linter.unusedVariables false
set_option maxHeartbeats 2000000
set_option maxRecDepth 40000

def refDownS (p : List Due × Nat) : St := ⟨[(0, .d (.sl (p.1.map eD))), (1, .d (.int .i64 p.2))], []⟩
theorem refDown_loop : ∀ p : List Due × Nat, p.2 < p.1.length ∧ p.1.length ≤ 1000 → ∃ e : AExit, (e = .exit 0 ∧ loopL G [] l_ref05_down_0 (refDownS p) = some (.exit 0, ⟨[(0, .d (.sl ((downL p.1 p.2).map eD)))], []⟩)) ∨ (e = .ret ∧ loopL G [] l_ref05_down_0 (refDownS p) = some (.ret, ⟨[(4, .d (.sl ((downL p.1 p.2).map eD)))], []⟩)) := by
  refine loop_indP (fun p : List Due × Nat => p.1.length - p.2) (fun p : List Due × Nat => p.2 < p.1.length ∧ p.1.length ≤ 1000) refDownS (fun p r => ∃ e : AExit, (e = .exit 0 ∧ r = some (.exit 0, ⟨[(0, .d (.sl ((downL p.1 p.2).map eD)))], []⟩)) ∨ (e = .ret ∧ r = some (.ret, ⟨[(4, .d (.sl ((downL p.1 p.2).map eD)))], []⟩))) fun ⟨l, i⟩ ⟨hi, hL⟩ L ih => ?_
  simp only [refDownS] at hi hL ih ⊢
  simp only [l_ref05_down_0]
  by_cases h1 : 2 * i + 1 < l.length
  · have fin : ∀ k : Nat, i < k → k < l.length → ∃ e : AExit, (e = .exit 0 ∧ L ⟨[(0, .d (.sl ((swp l i k).map eD))), (1, .d (.int .i64 k))], []⟩ = some (.exit 0, ⟨[(0, .d (.sl ((downL (swp l i k) k).map eD)))], []⟩)) ∨ (e = .ret ∧ L ⟨[(0, .d (.sl ((swp l i k).map eD))), (1, .d (.int .i64 k))], []⟩ = some (.ret, ⟨[(4, .d (.sl ((downL (swp l i k) k).map eD)))], []⟩)) := fun k h1 h2 =>
      ih (swp l i k, k) ⟨by simp only [swp_length]; omega, by simp only [swp_length]; omega⟩ (by simp only [swp_length]; omega)
    have hg : ∀ k : Nat, k < l.length → (List.map eD l)[k]? = some (eD (l.getD k (0, 0))) := fun k hk => by simp [List.getElem?_map, List.getElem?_eq_getElem hk, hk]
    have g0 := hg i hi
    have g1 := hg _ h1
    have s1 := refSwap_ok l i (2 * i + 1) hi h1 hL
    have f1 := fin (2 * i + 1) (by omega) h1
    simp only [Int.natCast_add, Int.natCast_mul, Int.natCast_one, Int.cast_ofNat_Int] at s1 f1
    have t1 : ((2 : Int) * (i : Int) + 1).toNat = 2 * i + 1 := by omega
    have t2 : ((2 : Int) * (i : Int) + 1 + 1).toNat = 2 * i + 1 + 1 := by omega
    by_cases h2 : 2 * i + 1 + 1 < l.length
    · have g2 := hg _ h2
      have s2 := refSwap_ok l i (2 * i + 1 + 1) hi h2 hL
      have f2 := fin (2 * i + 1 + 1) (by omega) h2
      simp only [Int.natCast_add, Int.natCast_mul, Int.natCast_one, Int.cast_ofNat_Int] at s2 f2
      cases hlt : lt (l.getD (2 * i + 1 + 1) (0, 0)) (l.getD (2 * i + 1) (0, 0))
      · cases hlt2 : lt (l.getD (2 * i + 1) (0, 0)) (l.getD i (0, 0))
        · simp -implicitDefEqProofs (disch := omega) only [wr, Bool.true_beq, Bool.false_beq, beqT, beqF, Int.natCast_add, Int.natCast_one, ltT, ltF, leT, leF, eqT, eqF, nltT, nltF, nleT, nleF, neqT, neqF, mapGet, Int.toNat_natCast, Int.natCast_nonneg, List.length_map, go_sem, ↓reduceIte, reduceCtorEq, Nat.reduceEqDiff, Nat.reduceAdd, Nat.reduceBEq, Nat.reduceMul, Nat.reduceLeDiff, Nat.reduceSub, Nat.reduceLT, Nat.reduceDiv, Nat.reduceMod, List.reduceReplicate, Int.reduceEq, Int.reduceLT, Int.reduceLE, Int.reduceAdd, Int.reduceSub, Int.reduceMul, Int.reduceNeg, Int.reduceToNat, g0, g1, g2, t1, t2, refBefore_ok, hlt, hlt2, eD_size, eD_asAgg]
          have e : downL l i = l := by rw [downL]; simp only [h1, h2, hlt, hlt2, dite_true, dite_false, true_and, and_true, false_and, if_true, if_false, Bool.false_eq_true, reduceCtorEq]
          exact ⟨.ret, .inr ⟨rfl, by rw [e]⟩⟩
        · simp -implicitDefEqProofs (disch := omega) only [wr, Bool.true_beq, Bool.false_beq, beqT, beqF, Int.natCast_add, Int.natCast_one, ltT, ltF, leT, leF, eqT, eqF, nltT, nltF, nleT, nleF, neqT, neqF, mapGet, Int.toNat_natCast, Int.natCast_nonneg, List.length_map, go_sem, ↓reduceIte, reduceCtorEq, Nat.reduceEqDiff, Nat.reduceAdd, Nat.reduceBEq, Nat.reduceMul, Nat.reduceLeDiff, Nat.reduceSub, Nat.reduceLT, Nat.reduceDiv, Nat.reduceMod, List.reduceReplicate, Int.reduceEq, Int.reduceLT, Int.reduceLE, Int.reduceAdd, Int.reduceSub, Int.reduceMul, Int.reduceNeg, Int.reduceToNat, g0, g1, g2, t1, t2, refBefore_ok, hlt, hlt2, s1, eD_size, eD_asAgg]
          have e : downL l i = downL (swp l i (2 * i + 1)) (2 * i + 1) := by rw [downL]; simp only [h1, h2, hlt, hlt2, dite_true, dite_false, true_and, and_true, false_and, if_true, if_false, Bool.false_eq_true, reduceCtorEq]
          rw [e]; exact f1
      · cases hlt2 : lt (l.getD (2 * i + 1 + 1) (0, 0)) (l.getD i (0, 0))
        · simp -implicitDefEqProofs (disch := omega) only [wr, Bool.true_beq, Bool.false_beq, beqT, beqF, Int.natCast_add, Int.natCast_one, ltT, ltF, leT, leF, eqT, eqF, nltT, nltF, nleT, nleF, neqT, neqF, mapGet, Int.toNat_natCast, Int.natCast_nonneg, List.length_map, go_sem, ↓reduceIte, reduceCtorEq, Nat.reduceEqDiff, Nat.reduceAdd, Nat.reduceBEq, Nat.reduceMul, Nat.reduceLeDiff, Nat.reduceSub, Nat.reduceLT, Nat.reduceDiv, Nat.reduceMod, List.reduceReplicate, Int.reduceEq, Int.reduceLT, Int.reduceLE, Int.reduceAdd, Int.reduceSub, Int.reduceMul, Int.reduceNeg, Int.reduceToNat, g0, g1, g2, t1, t2, refBefore_ok, hlt, hlt2, eD_size, eD_asAgg]
          have e : downL l i = l := by rw [downL]; simp only [h1, h2, hlt, hlt2, dite_true, dite_false, true_and, and_true, false_and, if_true, if_false, Bool.false_eq_true, reduceCtorEq]
          exact ⟨.ret, .inr ⟨rfl, by rw [e]⟩⟩
        · simp -implicitDefEqProofs (disch := omega) only [wr, Bool.true_beq, Bool.false_beq, beqT, beqF, Int.natCast_add, Int.natCast_one, ltT, ltF, leT, leF, eqT, eqF, nltT, nltF, nleT, nleF, neqT, neqF, mapGet, Int.toNat_natCast, Int.natCast_nonneg, List.length_map, go_sem, ↓reduceIte, reduceCtorEq, Nat.reduceEqDiff, Nat.reduceAdd, Nat.reduceBEq, Nat.reduceMul, Nat.reduceLeDiff, Nat.reduceSub, Nat.reduceLT, Nat.reduceDiv, Nat.reduceMod, List.reduceReplicate, Int.reduceEq, Int.reduceLT, Int.reduceLE, Int.reduceAdd, Int.reduceSub, Int.reduceMul, Int.reduceNeg, Int.reduceToNat, g0, g1, g2, t1, t2, refBefore_ok, hlt, hlt2, s2, eD_size, eD_asAgg]
          have e : downL l i = downL (swp l i (2 * i + 1 + 1)) (2 * i + 1 + 1) := by rw [downL]; simp only [h1, h2, hlt, hlt2, dite_true, dite_false, true_and, and_true, false_and, if_true, if_false, Bool.false_eq_true, reduceCtorEq]
          rw [e]; exact f2
    · cases hlt2 : lt (l.getD (2 * i + 1) (0, 0)) (l.getD i (0, 0))
      · simp -implicitDefEqProofs (disch := omega) only [wr, Bool.true_beq, Bool.false_beq, beqT, beqF, Int.natCast_add, Int.natCast_one, ltT, ltF, leT, leF, eqT, eqF, nltT, nltF, nleT, nleF, neqT, neqF, mapGet, Int.toNat_natCast, Int.natCast_nonneg, List.length_map, go_sem, ↓reduceIte, reduceCtorEq, Nat.reduceEqDiff, Nat.reduceAdd, Nat.reduceBEq, Nat.reduceMul, Nat.reduceLeDiff, Nat.reduceSub, Nat.reduceLT, Nat.reduceDiv, Nat.reduceMod, List.reduceReplicate, Int.reduceEq, Int.reduceLT, Int.reduceLE, Int.reduceAdd, Int.reduceSub, Int.reduceMul, Int.reduceNeg, Int.reduceToNat, g0, g1, t1, t2, refBefore_ok, hlt2, eD_size, eD_asAgg]
        have e : downL l i = l := by rw [downL]; simp only [h1, h2, hlt2, dite_true, dite_false, true_and, and_true, false_and, if_true, if_false, Bool.false_eq_true, reduceCtorEq]
        exact ⟨.ret, .inr ⟨rfl, by rw [e]⟩⟩
      · simp -implicitDefEqProofs (disch := omega) only [wr, Bool.true_beq, Bool.false_beq, beqT, beqF, Int.natCast_add, Int.natCast_one, ltT, ltF, leT, leF, eqT, eqF, nltT, nltF, nleT, nleF, neqT, neqF, mapGet, Int.toNat_natCast, Int.natCast_nonneg, List.length_map, go_sem, ↓reduceIte, reduceCtorEq, Nat.reduceEqDiff, Nat.reduceAdd, Nat.reduceBEq, Nat.reduceMul, Nat.reduceLeDiff, Nat.reduceSub, Nat.reduceLT, Nat.reduceDiv, Nat.reduceMod, List.reduceReplicate, Int.reduceEq, Int.reduceLT, Int.reduceLE, Int.reduceAdd, Int.reduceSub, Int.reduceMul, Int.reduceNeg, Int.reduceToNat, g0, g1, t1, t2, refBefore_ok, hlt2, s1, eD_size, eD_asAgg]
        have e : downL l i = downL (swp l i (2 * i + 1)) (2 * i + 1) := by rw [downL]; simp only [h1, h2, hlt2, dite_true, dite_false, true_and, and_true, false_and, if_true, if_false, Bool.false_eq_true, reduceCtorEq]
        rw [e]; exact f1
  · simp -implicitDefEqProofs (disch := omega) only [wr, Bool.true_beq, Bool.false_beq, beqT, beqF, Int.natCast_add, Int.natCast_one, ltT, ltF, leT, leF, eqT, eqF, nltT, nltF, nleT, nleF, neqT, neqF, mapGet, Int.toNat_natCast, Int.natCast_nonneg, List.length_map, go_sem, ↓reduceIte, reduceCtorEq, Nat.reduceEqDiff, Nat.reduceAdd, Nat.reduceBEq, Nat.reduceMul, Nat.reduceLeDiff, Nat.reduceSub, Nat.reduceLT, Nat.reduceDiv, Nat.reduceMod, List.reduceReplicate, Int.reduceEq, Int.reduceLT, Int.reduceLE, Int.reduceAdd, Int.reduceSub, Int.reduceMul, Int.reduceNeg, Int.reduceToNat, Nat.zero_add]
    have e : downL l i = l := by rw [downL]; simp only [h1, dite_false]
    exact ⟨.exit 0, .inl ⟨rfl, by rw [e]⟩⟩
theorem refDown_ok (h : List Due) (i : Nat) (hi : i < h.length) (hL : h.length ≤ 1000) : callL G N_ref05_down [.d (.sl (h.map eD)), .d (.int .i64 i)] [] = some (.d (.sl ((downL h i).map eD)), []) := by
  obtain ⟨e, h1 | h1⟩ := refDown_loop (h, i) ⟨hi, hL⟩
  · have := h1.2
    simp only [refDownS] at this
    rw [callL_code g_ref05_down (by simp)]; simp -implicitDefEqProofs (disch := omega) only [c_ref05_down, r_ref05_down, wr, Bool.true_beq, Bool.false_beq, beqT, beqF, Int.natCast_add, Int.natCast_one, ltT, ltF, leT, leF, eqT, eqF, nltT, nltF, nleT, nleF, neqT, neqF, mapGet, Int.toNat_natCast, Int.natCast_nonneg, List.length_map, go_sem, ↓reduceIte, reduceCtorEq, Nat.reduceEqDiff, Nat.reduceAdd, Nat.reduceBEq, Nat.reduceMul, Nat.reduceLeDiff, Nat.reduceSub, Nat.reduceLT, Nat.reduceDiv, Nat.reduceMod, List.reduceReplicate, Int.reduceEq, Int.reduceLT, Int.reduceLE, Int.reduceAdd, Int.reduceSub, Int.reduceMul, Int.reduceNeg, Int.reduceToNat, this]
  · have := h1.2
    simp only [refDownS] at this
    rw [callL_code g_ref05_down (by simp)]; simp -implicitDefEqProofs (disch := omega) only [c_ref05_down, r_ref05_down, wr, Bool.true_beq, Bool.false_beq, beqT, beqF, Int.natCast_add, Int.natCast_one, ltT, ltF, leT, leF, eqT, eqF, nltT, nltF, nleT, nleF, neqT, neqF, mapGet, Int.toNat_natCast, Int.natCast_nonneg, List.length_map, go_sem, ↓reduceIte, reduceCtorEq, Nat.reduceEqDiff, Nat.reduceAdd, Nat.reduceBEq, Nat.reduceMul, Nat.reduceLeDiff, Nat.reduceSub, Nat.reduceLT, Nat.reduceDiv, Nat.reduceMod, List.reduceReplicate, Int.reduceEq, Int.reduceLT, Int.reduceLE, Int.reduceAdd, Int.reduceSub, Int.reduceMul, Int.reduceNeg, Int.reduceToNat, this]
end Go.Proofs.Ytlphhhmicdjljab
