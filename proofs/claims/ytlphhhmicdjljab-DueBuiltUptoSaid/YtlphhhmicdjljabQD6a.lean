/-
  Heaps of deadlines: the sanity check.
-/
import Derived.Test.YtlphhhmicdjljabQH2
import Derived.Test.YtlphhhmicdjljabXM
namespace Go.Proofs.Ytlphhhmicdjljab
open Go Go.Sim
set_option linter.unusedSimpArgs false
set_option linter.unusedVariables false
set_option maxRecDepth 40000

theorem pushD_nil (d : Due) (hd : validD d = true) : pushD [] d = ([d], 0) := by
  rw [(push_ok' ok_nil hd (by simp) (by simp)).1]
  simp [pushL, upL]
theorem awake_ok : callL G N_law05_awake [] [] = some (.d (.bool true), []) := by
  have e1 : pushD [] (5, 1) = ([(5, 1)], 0) := pushD_nil _ (by decide)
  have o1 : Ok [(5, 1)] := ⟨by simp, by decide, by simp, fun k ha hb => by simp at hb; omega⟩
  have e2 : pushD [(5, 1)] (3, 2) = ([(3, 2), (5, 1)], 0) := by
    rw [(push_ok' o1 (by decide) (by simp) (by simp)).1]
    have : lt (3, 2) (5, 1) = true := by decide
    simp [pushL, upL, swp, this]
  have h1 := push_ok [] (5, 1) (by simp)
  have h2 := push_ok [(5, 1)] (3, 2) (by simp [LIM])
  rw [e1] at h1
  rw [e2] at h2
  simp only [eD, eDE, List.map_cons, List.map_nil] at h1 h2
  rw [callL_code g_law05_awake (by simp)]; simp -implicitDefEqProofs only [c_law05_awake, r_law05_awake, go_sem, ↓reduceIte, reduceCtorEq, Nat.reduceEqDiff, Nat.reduceAdd, Nat.reduceBEq, Nat.reduceMul, Nat.reduceLeDiff, Nat.reduceSub, Nat.reduceLT, Nat.reduceDiv, Nat.reduceMod, List.reduceReplicate, Int.reduceEq, Int.reduceLT, Int.reduceLE, Int.reduceAdd, Int.reduceSub, Int.reduceMul, Int.reduceNeg, Int.reduceToNat]
  simp -implicitDefEqProofs only [h1, h2, Int.cast_ofNat_Int, go_sem, ↓reduceIte, reduceCtorEq, Nat.reduceEqDiff, Nat.reduceAdd, Nat.reduceBEq, Nat.reduceMul, Nat.reduceLeDiff, Nat.reduceSub, Nat.reduceLT, Nat.reduceDiv, Nat.reduceMod, List.reduceReplicate, Int.reduceEq, Int.reduceLT, Int.reduceLE, Int.reduceAdd, Int.reduceSub, Int.reduceMul, Int.reduceNeg, Int.reduceToNat]
end Go.Proofs.Ytlphhhmicdjljab
