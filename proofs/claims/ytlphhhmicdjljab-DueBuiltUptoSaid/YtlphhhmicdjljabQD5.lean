/-
  Heaps of deadlines: what the functions of package due compute, part 5.
-/
import Derived.Test.YtlphhhmicdjljabQD4
namespace Go.Proofs.Ytlphhhmicdjljab
open Go Go.Sim
set_option linter.unusedSimpArgs false
set_option linter.unusedVariables false
set_option maxRecDepth 40000

theorem downL_length (l : List Due) (i : Nat) : (downL l i).length = l.length := by
  fun_induction downL l i with
  | case1 l i h k h1 ih => rw [ih, swp_length]
  | case2 => rfl
  | case3 => rfl
/-- The heap without the deadline at 'i'. -/
def dropL (h : List Due) (i : Nat) : List Due :=
  if i = h.length - 1 then h.take (h.length - 1) else
  let l := (h.take (h.length - 1)).set i (h.getD (h.length - 1) (0, 0))
  if (upL l i).2 = i then downL (upL l i).1 i else (upL l i).1
theorem drop_ok (h : List Due) (i : Nat) (hi : i < h.length) (hL : h.length ≤ 1000) : callL G N_due_drop [.d (.sl (h.map eD)), .d (.int .i64 i)] [] = some (.d (.sl ((dropL h i).map eD)), []) := by
  have hc := clone_ok ((h.take (h.length - 1)).map eD) (allSize_eD _) (by simp [LIM]; omega)
  obtain ⟨m, hm⟩ : ∃ m, m = h.length - 1 := ⟨_, rfl⟩
  have hm2 : h.length = m + 1 := by omega
  obtain ⟨t, ht⟩ : ∃ t, t = h.take m := ⟨_, rfl⟩
  have htl : t.length = m := by simp [ht]; omega
  rw [← hm] at hc
  rw [← ht] at hc
  have e1 : List.take m (h.map eD) = t.map eD := by rw [ht, List.map_take]
  have w1 : IntKind.i64.wrap (((m + 1 : Nat) : Int) - 1) = (m : Int) := by rw [wrapN (by omega) (by omega)]; omega
  have hs := allSize_eD h
  have hs2 := allSize_eD t
  unfold dropL
  rw [← hm, ← ht]
  by_cases hi2 : i = m
  · rw [callL_code g_due_drop (by simp)]; simp -implicitDefEqProofs only [c_due_drop, r_due_drop, go_sem, ↓reduceIte, reduceCtorEq, Nat.reduceEqDiff, Nat.reduceAdd, Nat.reduceBEq, Nat.reduceMul, Nat.reduceLeDiff, Nat.reduceSub, Nat.reduceLT, Nat.reduceDiv, Nat.reduceMod, List.reduceReplicate, Int.reduceEq, Int.reduceLT, Int.reduceLE, Int.reduceAdd, Int.reduceSub, Int.reduceMul, Int.reduceNeg, Int.reduceToNat]
    subst hi2
    simp -implicitDefEqProofs only [w1, e1, hc, hm2, hs, htl, show (i : Int) ≤ ((i + 1 : Nat) : Int) by omega, List.length_map, Int.natCast_nonneg, Int.toNat_natCast, go_sem, ↓reduceIte, reduceCtorEq, Nat.reduceEqDiff, Nat.reduceAdd, Nat.reduceBEq, Nat.reduceMul, Nat.reduceLeDiff, Nat.reduceSub, Nat.reduceLT, Nat.reduceDiv, Nat.reduceMod, List.reduceReplicate, Int.reduceEq, Int.reduceLT, Int.reduceLE, Int.reduceAdd, Int.reduceSub, Int.reduceMul, Int.reduceNeg, Int.reduceToNat]
  · have hi3 : i < m := by omega
    have hne : ¬ (i : Int) = (m : Int) := by omega
    obtain ⟨l, hl⟩ : ∃ l, l = t.set i (h.getD m (0, 0)) := ⟨_, rfl⟩
    have hll : l.length = m := by rw [hl, List.length_set, htl]
    have hu := up_ok l i (by omega) (by omega)
    have ha : (List.map eD h)[m]? = some (eD (h.getD m (0, 0))) := by simp [List.getElem?_map, List.getElem?_eq_getElem (show m < h.length by omega), show m < h.length by omega]
    simp only [rowL, hll] at hu
    rw [← hl]
    have hu2 : (upL l i).1.length = m := by rw [upL_length, hll]
    have hd := down_ok (upL l i).1 i (by omega) (by omega)
    simp only [rowL, hu2] at hd
    have e5 : (List.map AV.d (List.map eD t)).set i (AV.d (eD (h.getD m (0, 0)))) = List.map AV.d (List.map eD l) := by rw [hl, rowSet]
    rw [callL_code g_due_drop (by simp)]; simp -implicitDefEqProofs only [c_due_drop, r_due_drop, go_sem, ↓reduceIte, reduceCtorEq, Nat.reduceEqDiff, Nat.reduceAdd, Nat.reduceBEq, Nat.reduceMul, Nat.reduceLeDiff, Nat.reduceSub, Nat.reduceLT, Nat.reduceDiv, Nat.reduceMod, List.reduceReplicate, Int.reduceEq, Int.reduceLT, Int.reduceLE, Int.reduceAdd, Int.reduceSub, Int.reduceMul, Int.reduceNeg, Int.reduceToNat]
    have hg := rowGet t i (by omega)
    have ht1 : List.take m (List.map AV.d (List.map eD (upL l i).1)) = List.map AV.d (List.map eD (upL l i).1) := by rw [← hu2, rowAll]
    have hd2 : (downL (upL l i).1 i).length = m := by rw [downL_length, hu2]
    have ht2 : List.take m (List.map AV.d (List.map eD (downL (upL l i).1 i))) = List.map AV.d (List.map eD (downL (upL l i).1 i)) := by rw [← hd2, rowAll]
    simp -implicitDefEqProofs only [w1, e1, hc, hm2, hs, hs2, htl, hne, hi2, hg, show ¬ m = 0 by omega, ha, e5, hu, show (m : Int) ≤ ((m + 1 : Nat) : Int) by omega, show (m : Int) < ((m + 1 : Nat) : Int) by omega, show (i : Int) < (m : Int) by omega, eD_size, eD_asAgg, eD_isT, List.length_map, Int.natCast_nonneg, Int.toNat_natCast, go_sem, ↓reduceIte, reduceCtorEq, Nat.reduceEqDiff, Nat.reduceAdd, Nat.reduceBEq, Nat.reduceMul, Nat.reduceLeDiff, Nat.reduceSub, Nat.reduceLT, Nat.reduceDiv, Nat.reduceMod, List.reduceReplicate, Int.reduceEq, Int.reduceLT, Int.reduceLE, Int.reduceAdd, Int.reduceSub, Int.reduceMul, Int.reduceNeg, Int.reduceToNat]
    by_cases h4 : (upL l i).2 = i
    · simp -implicitDefEqProofs only [h4, hd, hd2, ht2, List.length_map, go_sem, ↓reduceIte, reduceCtorEq, Nat.reduceEqDiff, Nat.reduceAdd, Nat.reduceBEq, Nat.reduceMul, Nat.reduceLeDiff, Nat.reduceSub, Nat.reduceLT, Nat.reduceDiv, Nat.reduceMod, List.reduceReplicate, Int.reduceEq, Int.reduceLT, Int.reduceLE, Int.reduceAdd, Int.reduceSub, Int.reduceMul, Int.reduceNeg, Int.reduceToNat]
    · simp -implicitDefEqProofs only [h4, show ¬ ((upL l i).2 : Int) = (i : Int) by omega, hu2, ht1, List.length_map, go_sem, ↓reduceIte, reduceCtorEq, Nat.reduceEqDiff, Nat.reduceAdd, Nat.reduceBEq, Nat.reduceMul, Nat.reduceLeDiff, Nat.reduceSub, Nat.reduceLT, Nat.reduceDiv, Nat.reduceMod, List.reduceReplicate, Int.reduceEq, Int.reduceLT, Int.reduceLE, Int.reduceAdd, Int.reduceSub, Int.reduceMul, Int.reduceNeg, Int.reduceToNat]
def errD (h : List Due) (e : Int) : Int := if validateD h ≠ 0 then validateD h else if e ≠ 0 then e else 0
def popD (h : List Due) : List Due × Due × Int :=
  if validateD h ≠ 0 then ([], (0, 0), validateD h) else if h = [] then ([], (0, 0), 4) else (dropL h 0, h.getD 0 (0, 0), 0)
def removeD (h : List Due) (id : Int) : List Due × Int :=
  if validateD h ≠ 0 then ([], validateD h) else if findD h id < 0 then ([], 4) else (dropL h (findD h id).toNat, 0)
theorem pop_ok (h : List Due) (hL : h.length ≤ LIM) : callL G N_due_Pop [.d (.sl (h.map eD))] [] = some (.d (.tup [.sl ((popD h).1.map eD), eD (popD h).2.1, .int .i64 (popD h).2.2]), []) := by
  have hv := validate_ok h hL
  have hs := allSize_eD h
  unfold popD
  by_cases h0 : validateD h = 0
  · have h12 := validateD_le h0
    by_cases he : h = []
    · have he2 : h.length = 0 := by simp [he]
      rw [callL_code g_due_Pop (by simp)]; simp -implicitDefEqProofs only [c_due_Pop, r_due_Pop, go_sem, ↓reduceIte, reduceCtorEq, Nat.reduceEqDiff, Nat.reduceAdd, Nat.reduceBEq, Nat.reduceMul, Nat.reduceLeDiff, Nat.reduceSub, Nat.reduceLT, Nat.reduceDiv, Nat.reduceMod, List.reduceReplicate, Int.reduceEq, Int.reduceLT, Int.reduceLE, Int.reduceAdd, Int.reduceSub, Int.reduceMul, Int.reduceNeg, Int.reduceToNat]
      simp -implicitDefEqProofs only [hv, h0, he2, List.length_map, go_sem, ↓reduceIte, reduceCtorEq, Nat.reduceEqDiff, Nat.reduceAdd, Nat.reduceBEq, Nat.reduceMul, Nat.reduceLeDiff, Nat.reduceSub, Nat.reduceLT, Nat.reduceDiv, Nat.reduceMod, List.reduceReplicate, Int.reduceEq, Int.reduceLT, Int.reduceLE, Int.reduceAdd, Int.reduceSub, Int.reduceMul, Int.reduceNeg, Int.reduceToNat]
      simp [eD, he]
    · have he2 : h.length ≠ 0 := by simpa using he
      have hd := drop_ok h 0 (by omega) (by omega)
      have hg : (h.map eD)[0]? = some (eD (h.getD 0 (0, 0))) := by simp [List.getElem?_map, List.getElem?_eq_getElem (show 0 < h.length by omega), show 0 < h.length by omega]
      simp only [Int.natCast_zero] at hd
      rw [callL_code g_due_Pop (by simp)]; simp -implicitDefEqProofs only [c_due_Pop, r_due_Pop, go_sem, ↓reduceIte, reduceCtorEq, Nat.reduceEqDiff, Nat.reduceAdd, Nat.reduceBEq, Nat.reduceMul, Nat.reduceLeDiff, Nat.reduceSub, Nat.reduceLT, Nat.reduceDiv, Nat.reduceMod, List.reduceReplicate, Int.reduceEq, Int.reduceLT, Int.reduceLE, Int.reduceAdd, Int.reduceSub, Int.reduceMul, Int.reduceNeg, Int.reduceToNat]
      simp -implicitDefEqProofs only [hv, h0, he2, hd, hs, hg, he, eD_size, eD_asAgg, eD_isT, show ¬ ((h.length : Int) = 0) by omega, show (0 : Int) < (h.length : Int) by omega, List.length_map, go_sem, ↓reduceIte, reduceCtorEq, Nat.reduceEqDiff, Nat.reduceAdd, Nat.reduceBEq, Nat.reduceMul, Nat.reduceLeDiff, Nat.reduceSub, Nat.reduceLT, Nat.reduceDiv, Nat.reduceMod, List.reduceReplicate, Int.reduceEq, Int.reduceLT, Int.reduceLE, Int.reduceAdd, Int.reduceSub, Int.reduceMul, Int.reduceNeg, Int.reduceToNat]
  · rw [callL_code g_due_Pop (by simp)]; simp -implicitDefEqProofs only [c_due_Pop, r_due_Pop, go_sem, ↓reduceIte, reduceCtorEq, Nat.reduceEqDiff, Nat.reduceAdd, Nat.reduceBEq, Nat.reduceMul, Nat.reduceLeDiff, Nat.reduceSub, Nat.reduceLT, Nat.reduceDiv, Nat.reduceMod, List.reduceReplicate, Int.reduceEq, Int.reduceLT, Int.reduceLE, Int.reduceAdd, Int.reduceSub, Int.reduceMul, Int.reduceNeg, Int.reduceToNat]
    simp -implicitDefEqProofs only [hv, h0, go_sem, ↓reduceIte, reduceCtorEq, Nat.reduceEqDiff, Nat.reduceAdd, Nat.reduceBEq, Nat.reduceMul, Nat.reduceLeDiff, Nat.reduceSub, Nat.reduceLT, Nat.reduceDiv, Nat.reduceMod, List.reduceReplicate, Int.reduceEq, Int.reduceLT, Int.reduceLE, Int.reduceAdd, Int.reduceSub, Int.reduceMul, Int.reduceNeg, Int.reduceToNat]
    simp [eD]
theorem find_lt (h : List Due) (id : Int) : findD h id < h.length := by
  unfold findD idxI
  cases e : List.findIdx? (fun d : Due => decide (d.2 = id)) h with
  | none => simp only; omega
  | some i => have := (List.findIdx?_eq_some_iff_getElem.1 e).1; simp only; omega
theorem remove_ok (h : List Due) (id : Int) (hL : h.length ≤ LIM) : callL G N_due_Remove [.d (.sl (h.map eD)), .d (.int .i64 id)] [] = some (.d (eDE (removeD h id)), []) := by
  have hv := validate_ok h hL
  have hf := find_ok h id hL
  have hs := allSize_eD h
  unfold removeD eDE
  rw [callL_code g_due_Remove (by simp)]; simp -implicitDefEqProofs only [c_due_Remove, r_due_Remove, go_sem, ↓reduceIte, reduceCtorEq, Nat.reduceEqDiff, Nat.reduceAdd, Nat.reduceBEq, Nat.reduceMul, Nat.reduceLeDiff, Nat.reduceSub, Nat.reduceLT, Nat.reduceDiv, Nat.reduceMod, List.reduceReplicate, Int.reduceEq, Int.reduceLT, Int.reduceLE, Int.reduceAdd, Int.reduceSub, Int.reduceMul, Int.reduceNeg, Int.reduceToNat]
  by_cases h0 : validateD h = 0
  · have h12 := validateD_le h0
    by_cases hn : findD h id < 0
    · simp -implicitDefEqProofs only [hv, h0, hf, hn, go_sem, ↓reduceIte, reduceCtorEq, Nat.reduceEqDiff, Nat.reduceAdd, Nat.reduceBEq, Nat.reduceMul, Nat.reduceLeDiff, Nat.reduceSub, Nat.reduceLT, Nat.reduceDiv, Nat.reduceMod, List.reduceReplicate, Int.reduceEq, Int.reduceLT, Int.reduceLE, Int.reduceAdd, Int.reduceSub, Int.reduceMul, Int.reduceNeg, Int.reduceToNat]
    · have hd := drop_ok h (findD h id).toNat (by have := find_lt h id; omega) (by omega)
      rw [show (((findD h id).toNat : Nat) : Int) = findD h id by omega] at hd
      simp -implicitDefEqProofs only [hv, h0, hf, hn, hd, go_sem, ↓reduceIte, reduceCtorEq, Nat.reduceEqDiff, Nat.reduceAdd, Nat.reduceBEq, Nat.reduceMul, Nat.reduceLeDiff, Nat.reduceSub, Nat.reduceLT, Nat.reduceDiv, Nat.reduceMod, List.reduceReplicate, Int.reduceEq, Int.reduceLT, Int.reduceLE, Int.reduceAdd, Int.reduceSub, Int.reduceMul, Int.reduceNeg, Int.reduceToNat]
  · simp -implicitDefEqProofs only [hv, h0, go_sem, ↓reduceIte, reduceCtorEq, Nat.reduceEqDiff, Nat.reduceAdd, Nat.reduceBEq, Nat.reduceMul, Nat.reduceLeDiff, Nat.reduceSub, Nat.reduceLT, Nat.reduceDiv, Nat.reduceMod, List.reduceReplicate, Int.reduceEq, Int.reduceLT, Int.reduceLE, Int.reduceAdd, Int.reduceSub, Int.reduceMul, Int.reduceNeg, Int.reduceToNat]
end Go.Proofs.Ytlphhhmicdjljab
