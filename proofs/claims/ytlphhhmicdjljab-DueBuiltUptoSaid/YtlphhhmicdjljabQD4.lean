/-
  Heaps of deadlines: what the functions of package due compute, part 4.
-/
import Derived.Test.YtlphhhmicdjljabQD3
namespace Go.Proofs.Ytlphhhmicdjljab
open Go Go.Sim
set_option linter.unusedSimpArgs false
set_option linter.unusedVariables false
set_option maxRecDepth 40000

theorem allSize_eD (h : List Due) : allSize 2 (h.map eD) = true := by simp [allSize, eD_size]
def pushL (h : List Due) (d : Due) : List Due := (upL (h ++ [d]) h.length).1
def pushE (h : List Due) (d : Due) : Int := if validateD h ≠ 0 then validateD h else if validD d = false then 1 else if h.length = 12 then 3 else if 0 ≤ findD h d.2 then 10 else 0
def pushD (h : List Due) (d : Due) : List Due × Int := (if pushE h d = 0 then pushL h d else [], pushE h d)
def eDE (r : List Due × Int) : D := .tup [.sl (r.1.map eD), .int .i64 r.2]
theorem validateD_le {h : List Due} (h0 : validateD h = 0) : h.length ≤ 12 := by
  unfold validateD at h0
  split at h0
  · cases h0
  · omega
theorem push_ok (h : List Due) (d : Due) (hL : h.length ≤ LIM) : callL G N_due_Push [.d (.sl (h.map eD)), .d (eD d)] [] = some (.d (eDE (pushD h d)), []) := by
  have hv := validate_ok h hL
  have hf := find_ok h d.2 hL
  have hd := valid_ok d
  have hc := clone_ok (h.map eD) (allSize_eD h) (by simpa using hL)
  have hs := allSize_eD h
  simp only [eD] at hd
  simp only [eD]
  unfold pushD pushE eDE
  rw [callL_code g_due_Push (by simp)]; simp -implicitDefEqProofs only [c_due_Push, r_due_Push, go_sem, ↓reduceIte, reduceCtorEq, Nat.reduceEqDiff, Nat.reduceAdd, Nat.reduceBEq, Nat.reduceMul, Nat.reduceLeDiff, Nat.reduceSub, Nat.reduceLT, Nat.reduceDiv, Nat.reduceMod, List.reduceReplicate, Int.reduceEq, Int.reduceLT, Int.reduceLE, Int.reduceAdd, Int.reduceSub, Int.reduceMul, Int.reduceNeg, Int.reduceToNat]
  simp -implicitDefEqProofs only [hv, go_sem, ↓reduceIte, reduceCtorEq, Nat.reduceEqDiff, Nat.reduceAdd, Nat.reduceBEq, Nat.reduceMul, Nat.reduceLeDiff, Nat.reduceSub, Nat.reduceLT, Nat.reduceDiv, Nat.reduceMod, List.reduceReplicate, Int.reduceEq, Int.reduceLT, Int.reduceLE, Int.reduceAdd, Int.reduceSub, Int.reduceMul, Int.reduceNeg, Int.reduceToNat]
  by_cases h0 : validateD h = 0
  · simp -implicitDefEqProofs only [h0, hd, go_sem, ↓reduceIte, reduceCtorEq, Nat.reduceEqDiff, Nat.reduceAdd, Nat.reduceBEq, Nat.reduceMul, Nat.reduceLeDiff, Nat.reduceSub, Nat.reduceLT, Nat.reduceDiv, Nat.reduceMod, List.reduceReplicate, Int.reduceEq, Int.reduceLT, Int.reduceLE, Int.reduceAdd, Int.reduceSub, Int.reduceMul, Int.reduceNeg, Int.reduceToNat]
    cases h1 : validD d
    · simp -implicitDefEqProofs only [h1, go_sem, ↓reduceIte, reduceCtorEq, Nat.reduceEqDiff, Nat.reduceAdd, Nat.reduceBEq, Nat.reduceMul, Nat.reduceLeDiff, Nat.reduceSub, Nat.reduceLT, Nat.reduceDiv, Nat.reduceMod, List.reduceReplicate, Int.reduceEq, Int.reduceLT, Int.reduceLE, Int.reduceAdd, Int.reduceSub, Int.reduceMul, Int.reduceNeg, Int.reduceToNat]
    · have h12 := validateD_le h0
      by_cases h2 : h.length = 12
      · simp -implicitDefEqProofs only [h1, h2, List.length_map, go_sem, ↓reduceIte, reduceCtorEq, Nat.reduceEqDiff, Nat.reduceAdd, Nat.reduceBEq, Nat.reduceMul, Nat.reduceLeDiff, Nat.reduceSub, Nat.reduceLT, Nat.reduceDiv, Nat.reduceMod, List.reduceReplicate, Int.reduceEq, Int.reduceLT, Int.reduceLE, Int.reduceAdd, Int.reduceSub, Int.reduceMul, Int.reduceNeg, Int.reduceToNat]
        simp
      · obtain ⟨l, hl⟩ : ∃ l, l = h ++ [d] := ⟨_, rfl⟩
        have e1 : h.map eD ++ [D.agg [.int .i64 d.1, .int .i64 d.2]] = l.map eD := by simp [eD, hl]
        have e2 : l.length = h.length + 1 := by simp [hl]
        have hu := up_ok l h.length (by omega) (by omega)
        have h4 : h.length + 1 ≤ LIM := by simp [LIM]; omega
        simp -implicitDefEqProofs only [h1, h2, hf, hc, allSize_eD, e1, e2, h4, List.length_map, show ¬ ((h.length : Int) = 12) by omega, go_sem, ↓reduceIte, reduceCtorEq, Nat.reduceEqDiff, Nat.reduceAdd, Nat.reduceBEq, Nat.reduceMul, Nat.reduceLeDiff, Nat.reduceSub, Nat.reduceLT, Nat.reduceDiv, Nat.reduceMod, List.reduceReplicate, Int.reduceEq, Int.reduceLT, Int.reduceLE, Int.reduceAdd, Int.reduceSub, Int.reduceMul, Int.reduceNeg, Int.reduceToNat]
        by_cases h3 : 0 ≤ findD h d.2
        · simp -implicitDefEqProofs only [h3, go_sem, ↓reduceIte, reduceCtorEq, Nat.reduceEqDiff, Nat.reduceAdd, Nat.reduceBEq, Nat.reduceMul, Nat.reduceLeDiff, Nat.reduceSub, Nat.reduceLT, Nat.reduceDiv, Nat.reduceMod, List.reduceReplicate, Int.reduceEq, Int.reduceLT, Int.reduceLE, Int.reduceAdd, Int.reduceSub, Int.reduceMul, Int.reduceNeg, Int.reduceToNat]
        · simp only [rowL, e2] at hu
          simp -implicitDefEqProofs only [h3, allSize_eD, e1, e2, List.length_map, wrapN (show -4294967296 ≤ (h.length : Int) by omega) (by omega), show ((h.length + 1 : Nat) : Int) - 1 = (h.length : Int) by omega, hu, go_sem, ↓reduceIte, reduceCtorEq, Nat.reduceEqDiff, Nat.reduceAdd, Nat.reduceBEq, Nat.reduceMul, Nat.reduceLeDiff, Nat.reduceSub, Nat.reduceLT, Nat.reduceDiv, Nat.reduceMod, List.reduceReplicate, Int.reduceEq, Int.reduceLT, Int.reduceLE, Int.reduceAdd, Int.reduceSub, Int.reduceMul, Int.reduceNeg, Int.reduceToNat]
          have e3 : (upL l h.length).1.length = h.length + 1 := by rw [upL_length, e2]
          have e4 : List.take (h.length + 1) (List.map AV.d (List.map eD (upL l h.length).1)) = List.map AV.d (List.map eD (upL l h.length).1) := by rw [← e3, rowAll]
          simp -implicitDefEqProofs only [e4, e3, List.length_map, go_sem, ↓reduceIte, reduceCtorEq, Nat.reduceEqDiff, Nat.reduceAdd, Nat.reduceBEq, Nat.reduceMul, Nat.reduceLeDiff, Nat.reduceSub, Nat.reduceLT, Nat.reduceDiv, Nat.reduceMod, List.reduceReplicate, Int.reduceEq, Int.reduceLT, Int.reduceLE, Int.reduceAdd, Int.reduceSub, Int.reduceMul, Int.reduceNeg, Int.reduceToNat]
          subst hl
          rfl
  · simp -implicitDefEqProofs only [h0, go_sem, ↓reduceIte, reduceCtorEq, Nat.reduceEqDiff, Nat.reduceAdd, Nat.reduceBEq, Nat.reduceMul, Nat.reduceLeDiff, Nat.reduceSub, Nat.reduceLT, Nat.reduceDiv, Nat.reduceMod, List.reduceReplicate, Int.reduceEq, Int.reduceLT, Int.reduceLE, Int.reduceAdd, Int.reduceSub, Int.reduceMul, Int.reduceNeg, Int.reduceToNat]
end Go.Proofs.Ytlphhhmicdjljab
