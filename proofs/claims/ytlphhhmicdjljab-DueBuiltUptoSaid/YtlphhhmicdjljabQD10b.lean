/-
  The reference of heaps: cutting, Pop, Remove.
-/
import Derived.Test.YtlphhhmicdjljabQD10
namespace Go.Proofs.Ytlphhhmicdjljab
open Go Go.Sim
set_option linter.unusedSimpArgs false
set_option linter.unusedVariables false
set_option maxHeartbeats 2000000
set_option maxRecDepth 40000
theorem refCut_ok (h : List Due) (i : Nat) (hi : i < h.length) (hL : h.length ≤ 1000) : callL G N_ref05_cut [.d (.sl (h.map eD)), .d (.int .i64 i)] [] = some (.d (.sl ((dropL h i).map eD)), []) := by
  obtain ⟨m, hm⟩ : ∃ m, m = h.length - 1 := ⟨_, rfl⟩
  obtain ⟨t, ht⟩ : ∃ t, t = h.take m := ⟨_, rfl⟩
  have htl : t.length = m := by simp [ht]; omega
  have e1 : List.take m (h.map eD) = t.map eD := by rw [ht, List.map_take]
  have w1 : ((h.length : Int) - 1) = (m : Int) := by omega
  unfold dropL
  rw [← hm, ← ht]
  by_cases hi2 : i = m
  · subst hi2
    rw [callL_code g_ref05_cut (by simp)]; simp -implicitDefEqProofs (disch := omega) only [c_ref05_cut, r_ref05_cut, wr, Bool.true_beq, Bool.false_beq, beqT, beqF, Int.natCast_add, Int.natCast_one, ltT, ltF, leT, leF, eqT, eqF, nltT, nltF, nleT, nleF, neqT, neqF, mapGet, Int.toNat_natCast, Int.natCast_nonneg, List.length_map, go_sem, ↓reduceIte, reduceCtorEq, Nat.reduceEqDiff, Nat.reduceAdd, Nat.reduceBEq, Nat.reduceMul, Nat.reduceLeDiff, Nat.reduceSub, Nat.reduceLT, Nat.reduceDiv, Nat.reduceMod, List.reduceReplicate, Int.reduceEq, Int.reduceLT, Int.reduceLE, Int.reduceAdd, Int.reduceSub, Int.reduceMul, Int.reduceNeg, Int.reduceToNat, w1, e1, htl, allSize_eD, lim_eq]
  · have hi3 : i < m := by omega
    obtain ⟨l, hl⟩ : ∃ l, l = t.set i (h.getD m (0, 0)) := ⟨_, rfl⟩
    have hll : l.length = m := by rw [hl, List.length_set, htl]
    have ha : (List.map eD h)[m]? = some (eD (h.getD m (0, 0))) := by simp [List.getElem?_map, List.getElem?_eq_getElem (show m < h.length by omega), show m < h.length by omega]
    have e5 : (List.map AV.d (List.map eD t)).set i (AV.d (eD (h.getD m (0, 0)))) = List.map AV.d (List.map eD l) := by rw [hl, rowSet]
    have hg := rowGet t i (by omega)
    have hu := refUp_ok l i (by omega) (by omega)
    have hd := refDown_ok l i (by omega) (by omega)
    have hne : t ≠ [] := by intro e; rw [e] at htl; simp at htl; omega
    rw [← hl]
    simp only [hi2, if_false]
    have e6 : List.take m (List.map AV.d (List.map eD l)) = List.map AV.d (List.map eD l) := by rw [← hll, rowAll]
    have g1 := rowGet l i (by omega)
    have g2 : 0 < i → (List.map AV.d (List.map eD l))[(i - 1) / 2]? = some (.d (eD (l.getD ((i - 1) / 2) (0, 0)))) := fun _ => rowGet l _ (by omega)
    have hq : 0 < i → ((i : Int) - 1).tdiv 2 = (((i - 1) / 2 : Nat) : Int) := fun h => by
      rw [Int.tdiv_eq_ediv_of_nonneg (by omega)]; omega
    by_cases h0 : 0 < i
    · cases hlt : lt (l.getD i (0, 0)) (l.getD ((i - 1) / 2) (0, 0))
      · have : upL l i = (l, i) := by rw [upL, if_pos h0, if_neg (by rw [hlt]; decide)]
        rw [this]
        simp only [if_true]
        rw [callL_code g_ref05_cut (by simp)]; simp -implicitDefEqProofs (disch := omega) only [c_ref05_cut, r_ref05_cut, wr, Bool.true_beq, Bool.false_beq, beqT, beqF, Int.natCast_add, Int.natCast_one, ltT, ltF, leT, leF, eqT, eqF, nltT, nltF, nleT, nleF, neqT, neqF, mapGet, Int.toNat_natCast, Int.natCast_nonneg, List.length_map, go_sem, ↓reduceIte, reduceCtorEq, Nat.reduceEqDiff, Nat.reduceAdd, Nat.reduceBEq, Nat.reduceMul, Nat.reduceLeDiff, Nat.reduceSub, Nat.reduceLT, Nat.reduceDiv, Nat.reduceMod, List.reduceReplicate, Int.reduceEq, Int.reduceLT, Int.reduceLE, Int.reduceAdd, Int.reduceSub, Int.reduceMul, Int.reduceNeg, Int.reduceToNat, w1, e1, htl, allSize_eD, lim_eq, hg, ha, e5, e6, g1, g2 h0, hq h0, hlt, hll, hd, refBefore_ok, eD_size, eD_asAgg, eD_isT]
      · have hat := @upL_at l i
        have : ¬ (upL l i).2 = i := by
          rcases hat.2 with hc | hc
          · omega
          · exact absurd ⟨h0, hlt⟩ hc.1
        simp only [this, if_false]
        rw [callL_code g_ref05_cut (by simp)]; simp -implicitDefEqProofs (disch := omega) only [c_ref05_cut, r_ref05_cut, wr, Bool.true_beq, Bool.false_beq, beqT, beqF, Int.natCast_add, Int.natCast_one, ltT, ltF, leT, leF, eqT, eqF, nltT, nltF, nleT, nleF, neqT, neqF, mapGet, Int.toNat_natCast, Int.natCast_nonneg, List.length_map, go_sem, ↓reduceIte, reduceCtorEq, Nat.reduceEqDiff, Nat.reduceAdd, Nat.reduceBEq, Nat.reduceMul, Nat.reduceLeDiff, Nat.reduceSub, Nat.reduceLT, Nat.reduceDiv, Nat.reduceMod, List.reduceReplicate, Int.reduceEq, Int.reduceLT, Int.reduceLE, Int.reduceAdd, Int.reduceSub, Int.reduceMul, Int.reduceNeg, Int.reduceToNat, w1, e1, htl, allSize_eD, lim_eq, hg, ha, e5, e6, g1, g2 h0, hq h0, hlt, hll, hu, refBefore_ok, eD_size, eD_asAgg, eD_isT]
    · have : upL l i = (l, i) := by rw [upL, if_neg h0]
      rw [this]
      simp only [if_true]
      rw [callL_code g_ref05_cut (by simp)]; simp -implicitDefEqProofs (disch := omega) only [c_ref05_cut, r_ref05_cut, wr, Bool.true_beq, Bool.false_beq, beqT, beqF, Int.natCast_add, Int.natCast_one, ltT, ltF, leT, leF, eqT, eqF, nltT, nltF, nleT, nleF, neqT, neqF, mapGet, Int.toNat_natCast, Int.natCast_nonneg, List.length_map, go_sem, ↓reduceIte, reduceCtorEq, Nat.reduceEqDiff, Nat.reduceAdd, Nat.reduceBEq, Nat.reduceMul, Nat.reduceLeDiff, Nat.reduceSub, Nat.reduceLT, Nat.reduceDiv, Nat.reduceMod, List.reduceReplicate, Int.reduceEq, Int.reduceLT, Int.reduceLE, Int.reduceAdd, Int.reduceSub, Int.reduceMul, Int.reduceNeg, Int.reduceToNat, w1, e1, htl, allSize_eD, lim_eq, hg, ha, e5, e6, g1, hll, hd, eD_size, eD_asAgg, eD_isT]
theorem refPop_ok (h : List Due) (hL : h.length ≤ LIM) : callL G N_ref05_Pop [.d (.sl (h.map eD))] [] = some (.d (.tup [.sl ((popD h).1.map eD), eD (popD h).2.1, .int .i64 (popD h).2.2]), []) := by
  have hv := refValidate_ok h hL
  unfold popD
  by_cases h0 : validateD h = 0
  · have h12 := validateD_le h0
    by_cases he : h = []
    · subst he
      simp only [List.map_nil] at hv ⊢
      rw [callL_code g_ref05_Pop (by simp)]; simp -implicitDefEqProofs (disch := omega) only [c_ref05_Pop, r_ref05_Pop, wr, Bool.true_beq, Bool.false_beq, beqT, beqF, Int.natCast_add, Int.natCast_one, ltT, ltF, leT, leF, eqT, eqF, nltT, nltF, nleT, nleF, neqT, neqF, mapGet, Int.toNat_natCast, Int.natCast_nonneg, List.length_map, go_sem, ↓reduceIte, reduceCtorEq, Nat.reduceEqDiff, Nat.reduceAdd, Nat.reduceBEq, Nat.reduceMul, Nat.reduceLeDiff, Nat.reduceSub, Nat.reduceLT, Nat.reduceDiv, Nat.reduceMod, List.reduceReplicate, Int.reduceEq, Int.reduceLT, Int.reduceLE, Int.reduceAdd, Int.reduceSub, Int.reduceMul, Int.reduceNeg, Int.reduceToNat, hv, h0, eD, List.map_nil]
    · have he2 : h.length ≠ 0 := by simpa using he
      have hd := refCut_ok h 0 (by omega) (by omega)
      have hg : (h.map eD)[0]? = some (eD (h.getD 0 (0, 0))) := by simp [List.getElem?_map, List.getElem?_eq_getElem (show 0 < h.length by omega), show 0 < h.length by omega]
      simp only [Int.natCast_zero] at hd
      rw [callL_code g_ref05_Pop (by simp)]; simp -implicitDefEqProofs (disch := omega) only [c_ref05_Pop, r_ref05_Pop, wr, Bool.true_beq, Bool.false_beq, beqT, beqF, Int.natCast_add, Int.natCast_one, ltT, ltF, leT, leF, eqT, eqF, nltT, nltF, nleT, nleF, neqT, neqF, mapGet, Int.toNat_natCast, Int.natCast_nonneg, List.length_map, go_sem, ↓reduceIte, reduceCtorEq, Nat.reduceEqDiff, Nat.reduceAdd, Nat.reduceBEq, Nat.reduceMul, Nat.reduceLeDiff, Nat.reduceSub, Nat.reduceLT, Nat.reduceDiv, Nat.reduceMod, List.reduceReplicate, Int.reduceEq, Int.reduceLT, Int.reduceLE, Int.reduceAdd, Int.reduceSub, Int.reduceMul, Int.reduceNeg, Int.reduceToNat, hv, h0, hd, hg, he, eD_size, eD_asAgg, eD_isT]
  · rw [callL_code g_ref05_Pop (by simp)]; simp -implicitDefEqProofs (disch := omega) only [c_ref05_Pop, r_ref05_Pop, wr, Bool.true_beq, Bool.false_beq, beqT, beqF, Int.natCast_add, Int.natCast_one, ltT, ltF, leT, leF, eqT, eqF, nltT, nltF, nleT, nleF, neqT, neqF, mapGet, Int.toNat_natCast, Int.natCast_nonneg, List.length_map, go_sem, ↓reduceIte, reduceCtorEq, Nat.reduceEqDiff, Nat.reduceAdd, Nat.reduceBEq, Nat.reduceMul, Nat.reduceLeDiff, Nat.reduceSub, Nat.reduceLT, Nat.reduceDiv, Nat.reduceMod, List.reduceReplicate, Int.reduceEq, Int.reduceLT, Int.reduceLE, Int.reduceAdd, Int.reduceSub, Int.reduceMul, Int.reduceNeg, Int.reduceToNat, hv, h0]
    simp [eD, h0]
theorem refRemove_ok (h : List Due) (id : Int) (hL : h.length ≤ LIM) : callL G N_ref05_Remove [.d (.sl (h.map eD)), .d (.int .i64 id)] [] = some (.d (eDE (removeD h id)), []) := by
  have hv := refValidate_ok h hL
  have hf := refIndex_ok h id hL
  unfold removeD eDE
  by_cases h0 : validateD h = 0
  · have h12 := validateD_le h0
    by_cases hn : findD h id < 0
    · rw [callL_code g_ref05_Remove (by simp)]; simp -implicitDefEqProofs (disch := omega) only [c_ref05_Remove, r_ref05_Remove, wr, Bool.true_beq, Bool.false_beq, beqT, beqF, Int.natCast_add, Int.natCast_one, ltT, ltF, leT, leF, eqT, eqF, nltT, nltF, nleT, nleF, neqT, neqF, mapGet, Int.toNat_natCast, Int.natCast_nonneg, List.length_map, go_sem, ↓reduceIte, reduceCtorEq, Nat.reduceEqDiff, Nat.reduceAdd, Nat.reduceBEq, Nat.reduceMul, Nat.reduceLeDiff, Nat.reduceSub, Nat.reduceLT, Nat.reduceDiv, Nat.reduceMod, List.reduceReplicate, Int.reduceEq, Int.reduceLT, Int.reduceLE, Int.reduceAdd, Int.reduceSub, Int.reduceMul, Int.reduceNeg, Int.reduceToNat, hv, h0, hf, hn, List.map_nil]
    · have hd := refCut_ok h (findD h id).toNat (by have := find_lt h id; omega) (by omega)
      rw [show (((findD h id).toNat : Nat) : Int) = findD h id by omega] at hd
      rw [callL_code g_ref05_Remove (by simp)]; simp -implicitDefEqProofs (disch := omega) only [c_ref05_Remove, r_ref05_Remove, wr, Bool.true_beq, Bool.false_beq, beqT, beqF, Int.natCast_add, Int.natCast_one, ltT, ltF, leT, leF, eqT, eqF, nltT, nltF, nleT, nleF, neqT, neqF, mapGet, Int.toNat_natCast, Int.natCast_nonneg, List.length_map, go_sem, ↓reduceIte, reduceCtorEq, Nat.reduceEqDiff, Nat.reduceAdd, Nat.reduceBEq, Nat.reduceMul, Nat.reduceLeDiff, Nat.reduceSub, Nat.reduceLT, Nat.reduceDiv, Nat.reduceMod, List.reduceReplicate, Int.reduceEq, Int.reduceLT, Int.reduceLE, Int.reduceAdd, Int.reduceSub, Int.reduceMul, Int.reduceNeg, Int.reduceToNat, hv, h0, hf, hn, hd]
  · rw [callL_code g_ref05_Remove (by simp)]; simp -implicitDefEqProofs (disch := omega) only [c_ref05_Remove, r_ref05_Remove, wr, Bool.true_beq, Bool.false_beq, beqT, beqF, Int.natCast_add, Int.natCast_one, ltT, ltF, leT, leF, eqT, eqF, nltT, nltF, nleT, nleF, neqT, neqF, mapGet, Int.toNat_natCast, Int.natCast_nonneg, List.length_map, go_sem, ↓reduceIte, reduceCtorEq, Nat.reduceEqDiff, Nat.reduceAdd, Nat.reduceBEq, Nat.reduceMul, Nat.reduceLeDiff, Nat.reduceSub, Nat.reduceLT, Nat.reduceDiv, Nat.reduceMod, List.reduceReplicate, Int.reduceEq, Int.reduceLT, Int.reduceLE, Int.reduceAdd, Int.reduceSub, Int.reduceMul, Int.reduceNeg, Int.reduceToNat, hv, h0]
end Go.Proofs.Ytlphhhmicdjljab
