/-
  Heaps as the reader of numbers builds them.
-/
import Derived.Test.YtlphhhmicdjljabQD8
import Derived.Test.YtlphhhmicdjljabXO
namespace Go.Proofs.Ytlphhhmicdjljab
open Go Go.Sim
set_option linter.unusedSimpArgs false
set_option linter.unusedVariables false
set_option maxRecDepth 40000
theorem pushD_of0 {h : List Due} {d : Due} (h0 : (pushD h d).2 = 0) : Ok (pushD h d).1 := by
  have he : pushE h d = 0 := h0
  have h1 := he
  unfold pushE at h1
  split at h1
  · rename_i hv; exact absurd h1 hv
  · rename_i hv
    have o := (validate_iff h).1 (by simpa using hv)
    split at h1
    · cases h1
    · rename_i hd
      split at h1
      · cases h1
      · rename_i hl
        split at h1
        · cases h1
        · rename_i hf
          have := push_ok' o (by simpa using hd) (by have := o.len; omega) ((findD_neg h d.2).1 (by omega))
          rw [this.1]; exact this.2.1
def heapS (l : List Int) (p : List Due × Nat × Nat) : St := ⟨[(0, .ref 1000000 0 0), (3, .d (.sl (p.1.map eD))), (4, .d (.int .i64 p.2.2)), (1000000, .ref 1000000 1 0)], [(1000000, srcO l p.2.1)]⟩
theorem heap_loop (l : List Int) (hL : l.length ≤ 4000) : ∀ p : List Due × Nat × Nat, Ok p.1 ∧ p.2.2 ≤ 100 → ∃ h' a', Ok h' ∧ loopL G [] l_base_Src_Heap_0 (heapS l p) = some (.exit 0, ⟨[(3, .d (.sl (h'.map eD))), (1000000, .ref 1000000 1 0)], [(1000000, srcO l a')]⟩) := by
  refine loop_indP (fun p : List Due × Nat × Nat => p.2.2) (fun p : List Due × Nat × Nat => Ok p.1 ∧ p.2.2 ≤ 100) (heapS l) (fun p r => ∃ h' a', Ok h' ∧ r = some (.exit 0, ⟨[(3, .d (.sl (h'.map eD))), (1000000, .ref 1000000 1 0)], [(1000000, srcO l a')]⟩)) fun ⟨h, a, k⟩ ⟨o, hk⟩ L ih => ?_
  simp only [heapS] at ih o hk ⊢
  simp only [l_base_Src_Heap_0]
  have n1 := nD_in l a (n := 12) (by omega)
  have n2 := nD_in l (rawD l a).2 (n := 20) (by omega)
  by_cases h0 : 0 < k
  · have hp := refPush_ok h (nD l a 12, 1 + nD l (rawD l a).2 20) (by have := o.len; simp [LIM]; omega)
    simp only [eD, eDE] at hp
    simp -implicitDefEqProofs (disch := omega) only [wr, Bool.true_beq, Bool.false_beq, beqT, beqF, Int.natCast_add, Int.natCast_one, ltT, ltF, leT, leF, eqT, eqF, nltT, nltF, nleT, nleF, neqT, neqF, mapGet, Int.toNat_natCast, Int.natCast_nonneg, List.length_map, go_sem, ↓reduceIte, reduceCtorEq, Nat.reduceEqDiff, Nat.reduceAdd, Nat.reduceBEq, Nat.reduceMul, Nat.reduceLeDiff, Nat.reduceSub, Nat.reduceLT, Nat.reduceDiv, Nat.reduceMod, List.reduceReplicate, Int.reduceEq, Int.reduceLT, Int.reduceLE, Int.reduceAdd, Int.reduceSub, Int.reduceMul, Int.reduceNeg, Int.reduceToNat, n_ok, range_ok, hp]
    split
    · rename_i h1
      have := ih (_, (rawD l (rawD l a).2).2, k - 1) ⟨pushD_of0 (by simpa using h1), by simp only; omega⟩ (by simp only; omega)
      simp only [show (((k - 1 : Nat)) : Int) = (k : Int) - 1 by omega] at this
      exact this
    · have := ih (h, (rawD l (rawD l a).2).2, k - 1) ⟨o, by simp only; omega⟩ (by simp only; omega)
      simp only [show (((k - 1 : Nat)) : Int) = (k : Int) - 1 by omega] at this
      exact this
  · simp -implicitDefEqProofs (disch := omega) only [wr, Bool.true_beq, Bool.false_beq, beqT, beqF, Int.natCast_add, Int.natCast_one, ltT, ltF, leT, leF, eqT, eqF, nltT, nltF, nleT, nleF, neqT, neqF, mapGet, Int.toNat_natCast, Int.natCast_nonneg, List.length_map, go_sem, ↓reduceIte, reduceCtorEq, Nat.reduceEqDiff, Nat.reduceAdd, Nat.reduceBEq, Nat.reduceMul, Nat.reduceLeDiff, Nat.reduceSub, Nat.reduceLT, Nat.reduceDiv, Nat.reduceMod, List.reduceReplicate, Int.reduceEq, Int.reduceLT, Int.reduceLE, Int.reduceAdd, Int.reduceSub, Int.reduceMul, Int.reduceNeg, Int.reduceToNat, Nat.zero_add]
    exact ⟨h, a, o, rfl⟩
theorem heap_ok (l : List Int) (a : Nat) (hL : l.length ≤ 4000) : ∃ h' a', Ok h' ∧ callL G N_base_Src_Heap [.ref 1000000 0 0] [(1000000, srcO l a)] = some (.d (.sl (h'.map eD)), [(1000000, srcO l a')]) := by
  have n1 := nD_in l a (n := 13) (by omega)
  obtain ⟨h', a', o, hh⟩ := heap_loop l hL ([], (rawD l a).2, (nD l a 13).toNat) ⟨ok_nil, by simp only; omega⟩
  refine ⟨h', a', o, ?_⟩
  simp only [heapS, List.map_nil, show ((nD l a 13).toNat : Int) = nD l a 13 by omega] at hh
  rw [callL_code g_base_Src_Heap (by simp)]; simp -implicitDefEqProofs (disch := omega) only [c_base_Src_Heap, r_base_Src_Heap, wr, Bool.true_beq, Bool.false_beq, beqT, beqF, Int.natCast_add, Int.natCast_one, ltT, ltF, leT, leF, eqT, eqF, nltT, nltF, nleT, nleF, neqT, neqF, mapGet, Int.toNat_natCast, Int.natCast_nonneg, List.length_map, go_sem, ↓reduceIte, reduceCtorEq, Nat.reduceEqDiff, Nat.reduceAdd, Nat.reduceBEq, Nat.reduceMul, Nat.reduceLeDiff, Nat.reduceSub, Nat.reduceLT, Nat.reduceDiv, Nat.reduceMod, List.reduceReplicate, Int.reduceEq, Int.reduceLT, Int.reduceLE, Int.reduceAdd, Int.reduceSub, Int.reduceMul, Int.reduceNeg, Int.reduceToNat, n_ok, hh]
end Go.Proofs.Ytlphhhmicdjljab
