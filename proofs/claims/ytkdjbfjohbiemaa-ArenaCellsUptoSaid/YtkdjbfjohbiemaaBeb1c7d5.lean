/-
  The laws of lockers: the cells that are drawn; the first law.
  The laws of lockers: New, Script.
  Lockers: what their steps keep; the law of scripts.
  Lockers: the law of scripts, whole.
  Lockers: who owns which cell.
  The law of cells.
  From the calculus to the given form of a statement: a law that returns true and leaves what it was given as it was.
  What is handed to a law, of any type made of numbers, bools, strings, structs and slices, is data of the calculus.
  Data of a form, as lists and numbers.
-/
import Derived.Test.YtkdjbfjohbiemaaBdb14841
import Derived.Test.YtkdjbfjohbiemaaBdbf4735
import Derived.Test.YtkdjbfjohbiemaaB46a48c6
import Derived.Carry
import Derived.OpenShut
import Derived.ChangeSlices
import Derived.ChangeArms
import Derived.WideShapes
set_option linter.unusedSimpArgs false
set_option linter.unusedVariables false
namespace Go.Proofs.Ytkdjbfjohbiemaa
open Go Go.Sim
set_option linter.unusedSimpArgs false
set_option linter.unusedVariables false
set_option maxHeartbeats 10000000
set_option maxRecDepth 40000
structure Asc (cs : List Int) (n : Int) : Prop where
  p : cs.Pairwise (· < ·)
  b : ∀ c ∈ cs, 0 ≤ c ∧ c ≤ n
  l : cs.length ≤ 3
theorem Asc.at {cs : List Int} {n : Int} (h : Asc cs n) (hn : n ≤ 6) : (List.range cs.length).all (lockAt cs) = true := by
  rw [List.all_eq_true]
  intro k hk
  have hk := List.mem_range.1 hk
  unfold lockAt
  have h1 := h.b cs[k] (List.getElem_mem hk)
  rw [getDT hk]
  refine decide_eq_true ⟨h1.1, by omega, ?_⟩
  by_cases h0 : k = 0
  · exact .inl h0
  · right
    rw [getDT (by omega)]
    exact List.pairwise_iff_getElem.1 h.p (k - 1) k (by omega) hk (by omega)
theorem lockNew_asc {cs : List Int} {n : Int} (h : Asc cs n) (hn : n ≤ 6) (h0 : 1 ≤ cs.length) : lockNew cs = (⟨cs, 0, 0, 0, 0⟩, 0) := by
  unfold lockNew
  have := h.l
  rw [if_neg (by omega), if_pos (h.at hn)]
theorem asc_append {cs : List Int} {n i : Int} (h : Asc cs n) (hi : ∀ c ∈ cs, c < i) (h0 : 0 ≤ i) (h1 : i ≤ n) (hl : cs.length < 3) : Asc (cs ++ [i]) n := by
  refine ⟨List.pairwise_append.2 ⟨h.p, by simp, fun a ha b hb => ?_⟩, fun c hc => ?_, by simp; omega⟩
  · simp at hb; rw [hb]; exact hi a ha
  · rcases List.mem_append.1 hc with hc | hc
    · exact h.b c hc
    · simp at hc; omega
theorem some_loop (l : List Int) (n : Nat) (hL : l.length ≤ 4000) (hn : n ≤ 6) : ∀ p : Nat × Nat × List Int, (p.1 ≤ n + 1 ∧ Asc p.2.2 n ∧ ∀ c ∈ p.2.2, c < p.1) → ∃ a' cs, Asc cs n ∧ loopL G [] l_law13_some_0 ⟨[(0, .ref 1000000 0 0), (1, .d (.int .i64 n)), (5, .acc 5 (ints p.2.2)), (6, .d (.int .i64 p.1)), (1000000, .ref 1000000 1 0)], [(5, .acc p.2.2.length), (1000000, srcO l p.2.1)]⟩ = some (.exit 0, ⟨[(0, .ref 1000000 0 0), (1, .d (.int .i64 n)), (5, .acc 5 (ints cs)), (1000000, .ref 1000000 1 0)], [(5, .acc cs.length), (1000000, srcO l a')]⟩) := by
  refine loop_indP (fun p : Nat × Nat × List Int => n + 1 - p.1) _ (fun p : Nat × Nat × List Int => ⟨[(0, .ref 1000000 0 0), (1, .d (.int .i64 n)), (5, .acc 5 (ints p.2.2)), (6, .d (.int .i64 p.1)), (1000000, .ref 1000000 1 0)], [(5, .acc p.2.2.length), (1000000, srcO l p.2.1)]⟩) (fun p r => ∃ a' cs, Asc cs n ∧ r = some (.exit 0, ⟨[(0, .ref 1000000 0 0), (1, .d (.int .i64 n)), (5, .acc 5 (ints cs)), (1000000, .ref 1000000 1 0)], [(5, .acc cs.length), (1000000, srcO l a')]⟩)) fun ⟨k, a, cs⟩ ⟨hk, hA, hlt⟩ L ih => ?_
  simp only at ih hk hA hlt
  have hl3 := hA.l
  have hn := n_ok l a 2 hL (by omega) (by omega)
  simp only [l_law13_some_0]
  by_cases h0 : k ≤ n ∧ cs.length < 3
  · by_cases c1 : nD l a 2 = 0
    · obtain ⟨a', cs', h1, h2⟩ := ih (k + 1, (rawD l a).2, cs ++ [(k : Int)]) ⟨by simp only; omega, asc_append hA hlt (by omega) (by omega) (by omega), fun c hc => by
        simp only at hc ⊢
        rcases List.mem_append.1 hc with hc | hc
        · have := hlt c hc; omega
        · simp at hc; omega⟩ (by simp only; omega)
      refine ⟨a', cs', h1, ?_⟩
      simp only [ints] at h2
      simp only [Int.natCast_add, Int.natCast_one, Int.natCast_zero, Int.natCast_mul, Int.cast_ofNat_Int, List.length_append, List.length_map, List.map_nil, List.length_nil, List.map_append, List.map_cons, List.length_cons, Nat.zero_add, srcO] at h2
      rw [← h2]
      (try simp -implicitDefEqProofs (disch := omega) only [c1, getDT, go_sem, *]); (try simp only [pA, pB, pC, pD, pE, pF, pG, pH, pI, pJ, pK, pL, pM, pN, pO, if_true, if_false]); repeat' (first | done | rfl | (refine iteC (fun hq => ?_) (fun hq => ?_) <;> (try (exfalso; omega)) <;> (try simp -implicitDefEqProofs (disch := omega) only [c1, getDT, go_sem, *]) <;> (try simp only [pA, pB, pC, pD, pE, pF, pG, pH, pI, pJ, pK, pL, pM, pN, pO, if_true, if_false]))); (all_goals try rfl); (all_goals try (repeat' (first | done | rfl | (exfalso; omega) | (refine iteR (fun hq => ?_) (fun hq => ?_)))))
    · obtain ⟨a', cs', h1, h2⟩ := ih (k + 1, (rawD l a).2, cs) ⟨by simp only; omega, hA, fun c hc => by have := hlt c hc; simp only; omega⟩ (by simp only; omega)
      refine ⟨a', cs', h1, ?_⟩
      simp only [Int.natCast_add, Int.natCast_one, Int.natCast_zero, Int.natCast_mul, Int.cast_ofNat_Int, List.length_append, List.length_map, List.map_nil, List.length_nil, List.map_append, List.map_cons, List.length_cons, Nat.zero_add, srcO] at h2
      rw [← h2]
      (try simp -implicitDefEqProofs (disch := omega) only [c1, getDT, go_sem, *]); (try simp only [pA, pB, pC, pD, pE, pF, pG, pH, pI, pJ, pK, pL, pM, pN, pO, if_true, if_false]); repeat' (first | done | rfl | (refine iteC (fun hq => ?_) (fun hq => ?_) <;> (try (exfalso; omega)) <;> (try simp -implicitDefEqProofs (disch := omega) only [c1, getDT, go_sem, *]) <;> (try simp only [pA, pB, pC, pD, pE, pF, pG, pH, pI, pJ, pK, pL, pM, pN, pO, if_true, if_false]))); (all_goals try rfl); (all_goals try (repeat' (first | done | rfl | (exfalso; omega) | (refine iteR (fun hq => ?_) (fun hq => ?_)))))
  · refine ⟨a, cs, hA, ?_⟩
    by_cases h1 : k ≤ n
    · (try simp -implicitDefEqProofs (disch := omega) only [h1, getDT, go_sem, *]); (try simp only [pA, pB, pC, pD, pE, pF, pG, pH, pI, pJ, pK, pL, pM, pN, pO, if_true, if_false]); repeat' (first | done | rfl | (refine iteC (fun hq => ?_) (fun hq => ?_) <;> (try (exfalso; omega)) <;> (try simp -implicitDefEqProofs (disch := omega) only [h1, getDT, go_sem, *]) <;> (try simp only [pA, pB, pC, pD, pE, pF, pG, pH, pI, pJ, pK, pL, pM, pN, pO, if_true, if_false]))); (all_goals try rfl); (all_goals try (repeat' (first | done | rfl | (exfalso; omega) | (refine iteR (fun hq => ?_) (fun hq => ?_)))))
    · (try simp -implicitDefEqProofs (disch := omega) only [h1, getDT, go_sem, *]); (try simp only [pA, pB, pC, pD, pE, pF, pG, pH, pI, pJ, pK, pL, pM, pN, pO, if_true, if_false]); repeat' (first | done | rfl | (refine iteC (fun hq => ?_) (fun hq => ?_) <;> (try (exfalso; omega)) <;> (try simp -implicitDefEqProofs (disch := omega) only [h1, getDT, go_sem, *]) <;> (try simp only [pA, pB, pC, pD, pE, pF, pG, pH, pI, pJ, pK, pL, pM, pN, pO, if_true, if_false]))); (all_goals try rfl); (all_goals try (repeat' (first | done | rfl | (exfalso; omega) | (refine iteR (fun hq => ?_) (fun hq => ?_)))))
theorem some_ok (l : List Int) (a : Nat) (n : Nat) (hL : l.length ≤ 4000) (hn : n ≤ 6) : ∃ cs a', Asc cs n ∧ 1 ≤ cs.length ∧ callL G N_law13_some [.ref 1000000 0 0, .d (.int .i64 n)] [(1000000, srcO l a)] = some (.d (.sl (ints cs)), [(1000000, srcO l a')]) := by
  obtain ⟨a1, cs, h1, h2⟩ := some_loop l n hL hn (0, a, []) ⟨by simp, ⟨List.Pairwise.nil, by simp, by simp⟩, by simp⟩
  have hn := n_ok l a1 (n + 1) hL (by omega) (by omega)
  have hni := nD_in l a1 (n := n + 1) (by omega)
  simp only [ints] at h2
  simp only [Int.natCast_add, Int.natCast_one, Int.natCast_zero, Int.natCast_mul, Int.cast_ofNat_Int, List.length_append, List.length_map, List.map_nil, List.length_nil, List.map_append, List.map_cons, List.length_cons, Nat.zero_add, srcO] at h2
  by_cases c1 : cs.length = 0
  · have : cs = [] := List.length_eq_zero_iff.1 c1
    subst this
    refine ⟨[nD l a1 (n + 1)], (rawD l a1).2, ⟨by simp, by simp; omega, by simp⟩, by simp, ?_⟩
    simp only [List.map_nil, List.length_nil, List.map_cons] at h2 ⊢
    rw [callL_code g_law13_some (by simp)]; simp -implicitDefEqProofs (disch := omega) only [c_law13_some, r_law13_some, getDT, go_sem, *]; (try simp only [pA, pB, pC, pD, pE, pF, pG, pH, pI, pJ, pK, pL, pM, pN, pO, if_true, if_false]); repeat' (first | done | rfl | (refine iteC (fun hq => ?_) (fun hq => ?_) <;> (try (exfalso; omega)) <;> (try simp -implicitDefEqProofs (disch := omega) only [getDT, go_sem, *]) <;> (try simp only [pA, pB, pC, pD, pE, pF, pG, pH, pI, pJ, pK, pL, pM, pN, pO, if_true, if_false]))); (all_goals try rfl); (all_goals try (repeat' (first | done | rfl | (exfalso; omega) | (refine iteR (fun hq => ?_) (fun hq => ?_)))))
  · refine ⟨cs, a1, h1, by omega, ?_⟩
    rw [callL_code g_law13_some (by simp)]; simp -implicitDefEqProofs (disch := omega) only [c_law13_some, r_law13_some, getDT, go_sem, *]; (try simp only [pA, pB, pC, pD, pE, pF, pG, pH, pI, pJ, pK, pL, pM, pN, pO, if_true, if_false]); repeat' (first | done | rfl | (refine iteC (fun hq => ?_) (fun hq => ?_) <;> (try (exfalso; omega)) <;> (try simp -implicitDefEqProofs (disch := omega) only [getDT, go_sem, *]) <;> (try simp only [pA, pB, pC, pD, pE, pF, pG, pH, pI, pJ, pK, pL, pM, pN, pO, if_true, if_false]))); (all_goals try rfl); (all_goals try (repeat' (first | done | rfl | (exfalso; omega) | (refine iteR (fun hq => ?_) (fun hq => ?_)))))
end Go.Proofs.Ytkdjbfjohbiemaa

namespace Go.Proofs.Ytkdjbfjohbiemaa
open Go Go.Sim
set_option linter.unusedSimpArgs false
set_option linter.unusedVariables false
set_option maxHeartbeats 10000000
set_option maxRecDepth 40000
def setup3 : Setup := ⟨3, 1, 1, 1, 1, 0, 1, 0⟩
theorem awake13_ok : callL G N_law13_awake [] [] = some (.d (.bool true), []) := by
  obtain ⟨a, b, c, ha, h1, h2, f1, f2, f3, f4, f5⟩ : ∃ a b c : Arena, arenaNew setup3 = (a, 0) ∧ lockStep a ⟨[0, 2], 0, 0, 0, 0⟩ 1 = (b, ⟨[0, 2], 0, 1, 0, 0⟩, 0) ∧ lockStep b ⟨[0, 2], 0, 1, 0, 0⟩ 1 = (c, ⟨[0, 2], 3, 2, 0, 0⟩, 0) ∧ a.slots.length = 3 ∧ b.slots.length = 3 ∧ c.slots.length = 3 ∧ (c.slots.getD 2 zSlot).owner = 1 ∧ (c.slots.getD 1 zSlot).owner = 0 :=
    ⟨(arenaNew setup3).1, _, _, by decide, by rfl, by rfl, by decide, by decide, by decide, by decide, by decide⟩
  have e0 := arenaNew_ok setup3
  rw [ha] at e0
  have e1 := lnew_ok [0, 2] (by decide)
  rw [show lockNew [0, 2] = (⟨[0, 2], 0, 0, 0, 0⟩, 0) by decide] at e1
  have e2 := lstep_ok a ⟨[0, 2], 0, 0, 0, 0⟩ 1 (by omega) (by constructor <;> decide)
  rw [h1] at e2
  have e3 := lstep_ok b ⟨[0, 2], 0, 1, 0, 0⟩ 1 (by omega) (by constructor <;> decide)
  rw [h2] at e3
  have e4 := lfree_ok ⟨[0, 2], 3, 2, 0, 0⟩
  rw [show lockFree ⟨[0, 2], 3, 2, 0, 0⟩ = (⟨[0, 2], 4, 2, 0, 0⟩, 0) by decide] at e4
  rw [getDT (by omega)] at f4 f5
  clear ha h1 h2
  simp only [eSetup, setup3, eLocker, ints, List.map_cons, List.map_nil] at e0 e1 e2 e3 e4
  rw [callL_code g_law13_awake (by simp)]; simp -implicitDefEqProofs (disch := omega) only [c_law13_awake, r_law13_awake, getDT, go_sem, *]; (try simp only [pA, pB, pC, pD, pE, pF, pG, pH, pI, pJ, pK, pL, pM, pN, pO, if_true, if_false]); repeat' (first | done | rfl | (refine iteC (fun hq => ?_) (fun hq => ?_) <;> (try (exfalso; omega)) <;> (try simp -implicitDefEqProofs (disch := omega) only [getDT, go_sem, *]) <;> (try simp only [pA, pB, pC, pD, pE, pF, pG, pH, pI, pJ, pK, pL, pM, pN, pO, if_true, if_false]))); (all_goals try rfl); (all_goals try (repeat' (first | done | rfl | (exfalso; omega) | (refine iteR (fun hq => ?_) (fun hq => ?_)))))
theorem lnl_loop (cells l : List Int) (hL : l.length ≤ 4000) : ∀ p : Nat × Nat × List Int, p.1 ≤ 4 ∧ p.2.2.length + p.1 ≤ 4 → ∃ sm : List Int, sm.length ≤ 4 ∧ loopL G [] l_law13_LockerNew_0 ⟨[(0, .d (.sl (ints cells))), (5, .ref 20 0 0), (6, .acc 6 (ints p.2.2)), (7, .d (.int .i64 p.1))], [(6, .acc p.2.2.length), (20, srcO l p.2.1)]⟩ = some (.exit 0, ⟨[(0, .d (.sl (ints cells))), (6, .acc 6 (ints sm))], [(6, .acc sm.length)]⟩) := by
  refine loop_indP (fun p : Nat × Nat × List Int => p.1) _ (fun p : Nat × Nat × List Int => ⟨[(0, .d (.sl (ints cells))), (5, .ref 20 0 0), (6, .acc 6 (ints p.2.2)), (7, .d (.int .i64 p.1))], [(6, .acc p.2.2.length), (20, srcO l p.2.1)]⟩) (fun p r => ∃ sm : List Int, sm.length ≤ 4 ∧ r = some (.exit 0, ⟨[(0, .d (.sl (ints cells))), (6, .acc 6 (ints sm))], [(6, .acc sm.length)]⟩)) fun ⟨k, a, sm⟩ ⟨hk, hl⟩ L ih => ?_
  simp only at ih hk hl
  have hr := range_ok l a (-1) 7 hL (by omega) (by omega) (by omega) (by omega)
  simp only [l_law13_LockerNew_0]
  by_cases h0 : 0 < k
  · obtain ⟨sm', h1, h2⟩ := ih (k - 1, (rawD l a).2, sm ++ [-1 + nD l a (7 - (-1) + 1)]) ⟨by simp only; omega, by simp only [List.length_append, List.length_singleton]; omega⟩ (by simp only; omega)
    refine ⟨sm', h1, ?_⟩
    simp only [ints] at h2
    rw [show ((k - 1 : Nat) : Int) = (k : Int) - 1 by omega] at h2
    simp only [Int.natCast_add, Int.natCast_one, Int.natCast_zero, Int.natCast_mul, Int.cast_ofNat_Int, List.length_append, List.length_map, List.map_nil, List.length_nil, List.map_append, List.map_cons, List.length_cons, Nat.zero_add, srcO] at h2
    rw [← h2]
    (try simp -implicitDefEqProofs (disch := omega) only [getDT, go_sem, *]); (try simp only [pA, pB, pC, pD, pE, pF, pG, pH, pI, pJ, pK, pL, pM, pN, pO, if_true, if_false]); repeat' (first | done | rfl | (refine iteC (fun hq => ?_) (fun hq => ?_) <;> (try (exfalso; omega)) <;> (try simp -implicitDefEqProofs (disch := omega) only [getDT, go_sem, *]) <;> (try simp only [pA, pB, pC, pD, pE, pF, pG, pH, pI, pJ, pK, pL, pM, pN, pO, if_true, if_false]))); (all_goals try rfl); (all_goals try (repeat' (first | done | rfl | (exfalso; omega) | (refine iteR (fun hq => ?_) (fun hq => ?_)))))
  · refine ⟨sm, by omega, ?_⟩
    (try simp -implicitDefEqProofs (disch := omega) only [getDT, go_sem, *]); (try simp only [pA, pB, pC, pD, pE, pF, pG, pH, pI, pJ, pK, pL, pM, pN, pO, if_true, if_false]); repeat' (first | done | rfl | (refine iteC (fun hq => ?_) (fun hq => ?_) <;> (try (exfalso; omega)) <;> (try simp -implicitDefEqProofs (disch := omega) only [getDT, go_sem, *]) <;> (try simp only [pA, pB, pC, pD, pE, pF, pG, pH, pI, pJ, pK, pL, pM, pN, pO, if_true, if_false]))); (all_goals try rfl); (all_goals try (repeat' (first | done | rfl | (exfalso; omega) | (refine iteR (fun hq => ?_) (fun hq => ?_)))))
theorem lockerNew_law (cells l : List Int) (hC : cells.length ≤ LIM) (hL : l.length ≤ LIM) : callL G N_law13_LockerNew [.d (.sl (ints cells)), .d (.sl (ints l))] [] = some (.d (.bool true), []) := by
  obtain ⟨t, ht, hnew⟩ := new_ok2 l hL
  by_cases c : 20 < cells.length
  · rw [callL_code g_law13_LockerNew (by simp)]; simp -implicitDefEqProofs (disch := omega) only [c_law13_LockerNew, r_law13_LockerNew, getDT, go_sem, *]; (try simp only [pA, pB, pC, pD, pE, pF, pG, pH, pI, pJ, pK, pL, pM, pN, pO, if_true, if_false]); repeat' (first | done | rfl | (refine iteC (fun hq => ?_) (fun hq => ?_) <;> (try (exfalso; omega)) <;> (try simp -implicitDefEqProofs (disch := omega) only [getDT, go_sem, *]) <;> (try simp only [pA, pB, pC, pD, pE, pF, pG, pH, pI, pJ, pK, pL, pM, pN, pO, if_true, if_false]))); (all_goals try rfl); (all_goals try (repeat' (first | done | rfl | (exfalso; omega) | (refine iteR (fun hq => ?_) (fun hq => ?_)))))
  have n0 := n_ok0 t 5 ht (by omega) (by omega)
  have n1 := nD_in t 0 (n := 5) (by omega)
  obtain ⟨k, hk⟩ : ∃ k : Nat, nD t 0 5 = k := ⟨(nD t 0 5).toNat, by omega⟩
  obtain ⟨sm, h1, h2⟩ := lnl_loop cells t ht (k, (rawD t 0).2, []) ⟨by simp only; omega, by simp; omega⟩
  rw [hk] at n0
  simp only [ints] at h2
  simp only [Int.natCast_add, Int.natCast_one, Int.natCast_zero, Int.natCast_mul, Int.cast_ofNat_Int, List.length_append, List.length_map, List.map_nil, List.length_nil, List.map_append, List.map_cons, List.length_cons, Nat.zero_add, srcO] at h2
  have e1 := lnew_ok cells (by omega)
  have e2 := l13new_ok cells (by omega)
  have e3 := lnew_ok sm (by omega)
  have e4 := l13new_ok sm (by omega)
  have hcl : ∀ cs : List Int, (lockNew cs).1.cells.length ≤ 4294967296 := fun cs => by
    unfold lockNew
    by_cases q1 : cs.length = 0 ∨ 3 < cs.length
    · rw [if_pos q1]; simp [zLocker]
    · rw [if_neg q1]
      by_cases q2 : (List.range cs.length).all (lockAt cs) = true
      · rw [if_pos q2]; simp only; omega
      · rw [if_neg q2]; simp [zLocker]
  have s1 := same_Locker (lockNew cells).1 (lockNew cells).1 (hcl _)
  have s2 := same_Locker (lockNew sm).1 (lockNew sm).1 (hcl _)
  have hw := awake13_ok
  clear hcl
  simp only [decide_true] at s1 s2
  rw [callL_code g_law13_LockerNew (by simp)]; simp -implicitDefEqProofs (disch := omega) only [c_law13_LockerNew, r_law13_LockerNew, getDT, go_sem, *]; (try simp only [pA, pB, pC, pD, pE, pF, pG, pH, pI, pJ, pK, pL, pM, pN, pO, if_true, if_false]); repeat' (first | done | rfl | (refine iteC (fun hq => ?_) (fun hq => ?_) <;> (try (exfalso; omega)) <;> (try simp -implicitDefEqProofs (disch := omega) only [getDT, go_sem, *]) <;> (try simp only [pA, pB, pC, pD, pE, pF, pG, pH, pI, pJ, pK, pL, pM, pN, pO, if_true, if_false]))); (all_goals try rfl); (all_goals try (repeat' (first | done | rfl | (exfalso; omega) | (refine iteR (fun hq => ?_) (fun hq => ?_)))))
end Go.Proofs.Ytkdjbfjohbiemaa

namespace Go.Proofs.Ytkdjbfjohbiemaa
open Go Go.Sim
set_option linter.unusedSimpArgs false
set_option linter.unusedVariables false
set_option maxHeartbeats 10000000
set_option maxRecDepth 40000
theorem setOwner_len (a : Arena) (c k : Int) : (setOwner a c k).slots.length = a.slots.length := by
  unfold setOwner; split <;> simp
theorem setOwner_shard (a : Arena) (c k : Int) (i : Nat) (h : i < a.slots.length) : ((setOwner a c k).slots[i]'(by rw [setOwner_len]; exact h)).shard = (a.slots[i]).shard := by
  unfold setOwner
  split
  · rfl
  · rename_i hc
    simp only [List.getElem_set]
    split
    · rename_i e; subst e; simp [h]
    · rfl
theorem fitA_set {a : Arena} (h : FitA a) (c k : Int) : FitA (setOwner a c k) := by
  refine ⟨by rw [setOwner_len]; exact h.sl, fun i hi => ?_, ?_, ?_, ?_, ?_⟩
  · rw [setOwner_len] at hi
    rw [setOwner_shard a c k i hi]; exact h.sh i hi
  all_goals (unfold setOwner; split)
  all_goals first | exact h.st | exact h.de | exact h.dl | exact h.df
theorem fitA_z : FitA zArena := ⟨by decide, fun i h => by simp [zArena] at h, by decide, by decide, by decide, by decide⟩
theorem aTry_keep (a : Arena) (c k : Int) (h : (aTry a c k).2.2 = 0) : ((aTry a c k).1 = a ∧ (aTry a c k).2.1 = false ∧ owners a c ≠ 0) ∨ ((aTry a c k).1 = setOwner a c k ∧ (aTry a c k).2.1 = true ∧ owners a c = 0) := by
  unfold aTry at *
  split at h
  · cases h
  · rename_i h1
    rw [if_neg h1]
    split
    · rename_i h2; exact .inr ⟨rfl, rfl, h2⟩
    · rename_i h2; exact .inl ⟨rfl, rfl, h2⟩
theorem aUnlock_keep (a : Arena) (c k : Int) (h : (aUnlock a c k).2 = 0) : (aUnlock a c k).1 = setOwner a c 0 ∧ owners a c = k := by
  unfold aUnlock at *
  split at h
  · cases h
  · rename_i h1
    rw [if_neg h1]
    split at h
    · rename_i h2; rw [if_pos h2]; exact ⟨rfl, h2⟩
    · cases h
theorem lockStep_keep {B : Int} {a : Arena} {l : Locker} {k : Int} (hw : LWF B l) (h : (lockStep a l k).2.2 = 0) :
    LWF (B + 1) (lockStep a l k).2.1 ∧ (lockStep a l k).2.1.cells = l.cells ∧ ((lockStep a l k).1 = a ∨ ∃ c o, (lockStep a l k).1 = setOwner a c o) := by
  obtain ⟨w1, w2, w3, w4, w5, w6, w7, w8, w9, w10, w11, w12, w13⟩ := hw
  unfold lockStep at *
  by_cases c0 : l.phase = 0
  · have hh := w5 c0
    rw [if_pos c0] at h ⊢
    unfold lockTry at *
    by_cases c1 : (aTry a (l.cells.getD l.have_.toNat 0) k).2.2 = 0
    · rw [if_pos c1] at h ⊢
      rcases aTry_keep _ _ _ c1 with ⟨e1, e2, _⟩ | ⟨e1, e2, _⟩
      · rw [if_neg (by rw [e2]; simp)] at h ⊢
        refine ⟨?_, rfl, .inl e1⟩
        by_cases c2 : 0 < l.have_
        · simp only [c2, if_true]; constructor <;> simp only <;> omega
        · simp only [c2, if_false, c0]; constructor <;> simp only <;> omega
      · rw [if_pos e2] at h ⊢
        refine ⟨?_, rfl, .inr ⟨_, _, e1⟩⟩
        by_cases c2 : l.have_ + 1 = l.cells.length
        · simp only [c2, if_true]; constructor <;> simp only <;> first | omega | exact fun _ => trivial
        · simp only [c2, if_false, c0]; constructor <;> simp only <;> omega
    · rw [if_neg c1] at h
      exact absurd h c1
  rw [if_neg c0] at h ⊢
  by_cases c14 : l.phase = 1 ∨ l.phase = 4
  · have hh : 1 ≤ l.have_ := by rcases c14 with h | h; exact w6 h; exact w9 h
    rw [if_pos c14] at h ⊢
    unfold lockLeave at *
    by_cases c1 : (aUnlock a (l.cells.getD (l.have_ - 1).toNat 0) k).2 = 0
    · rw [if_pos c1] at h ⊢
      have hk := aUnlock_keep _ _ _ c1
      refine ⟨?_, ?_, .inr ⟨_, _, hk.1⟩⟩
      · simp only [leaveL]
        by_cases c2 : 0 < l.have_ - 1
        · rw [if_pos c2]; constructor <;> simp only <;> omega
        · rw [if_neg c2]
          by_cases c3 : l.phase = 4
          · rw [if_pos c3]; constructor <;> simp only <;> omega
          · rw [if_neg c3]
            by_cases c4 : 3 < l.tries + 1
            · rw [if_pos c4]; constructor <;> simp only <;> omega
            · rw [if_neg c4]; constructor <;> simp only <;> omega
      · simp only [leaveL]
        by_cases c2 : 0 < l.have_ - 1
        · rw [if_pos c2]
        · rw [if_neg c2]
          by_cases c3 : l.phase = 4
          · rw [if_pos c3]
          · rw [if_neg c3]
    · rw [if_neg c1] at h
      exact absurd h c1
  rw [if_neg c14] at h ⊢
  by_cases c2 : l.phase = 2
  · have hh := w7 c2
    rw [if_pos c2] at h ⊢
    refine ⟨?_, rfl, .inl rfl⟩
    by_cases c3 : l.wait - 1 = 0
    · simp only [c3, if_true]; constructor <;> simp only <;> omega
    · simp only [c3, if_false]; constructor <;> simp only <;> omega
  · rw [if_neg c2] at h
    cases h
theorem lockStep_bad {B : Int} {a : Arena} {l : Locker} {k : Int} (h : ¬ (lockStep a l k).2.2 = 0) : (lockStep a l k).1 = zArena ∧ (lockStep a l k).2.1 = zLocker := by
  unfold lockStep at *
  by_cases c0 : l.phase = 0
  · rw [if_pos c0] at h ⊢
    unfold lockTry at *
    by_cases c1 : (aTry a (l.cells.getD l.have_.toNat 0) k).2.2 = 0
    · rw [if_pos c1] at h
      exfalso; apply h; split <;> rfl
    · rw [if_neg c1]; exact ⟨rfl, rfl⟩
  rw [if_neg c0] at h ⊢
  by_cases c14 : l.phase = 1 ∨ l.phase = 4
  · rw [if_pos c14] at h ⊢
    unfold lockLeave at *
    by_cases c1 : (aUnlock a (l.cells.getD (l.have_ - 1).toNat 0) k).2 = 0
    · rw [if_pos c1] at h; exact absurd rfl h
    · rw [if_neg c1]; exact ⟨rfl, rfl⟩
  rw [if_neg c14] at h ⊢
  by_cases c2 : l.phase = 2
  · rw [if_pos c2] at h; exact absurd rfl h
  · rw [if_neg c2]; exact ⟨rfl, rfl⟩
theorem LWF.mono {B B' : Int} {l : Locker} (h : LWF B l) (hb : B ≤ B') : LWF B' l := ⟨h.c1, h.c2, h.h0, h.h1, h.t0, h.t1, h.t2, h.t3, h.t4, h.t5, h.t6, h.b0, by have := h.b1; omega⟩
theorem lockFree_wf {B : Int} {l : Locker} (h : LWF B l) (hp : l.phase = 3) : LWF B (lockFree l).1 ∧ (lockFree l).1.cells = l.cells := by
  have h3 := h.t3 hp
  obtain ⟨w1, w2, w3, w4, w5, w6, w7, w8, w9, w10, w11, w12, w13⟩ := h
  unfold lockFree
  rw [if_pos hp]
  exact ⟨by constructor <;> simp only <;> omega, rfl⟩
def LWFs (B : Int) (ps : List Locker) : Prop := ∀ i (h : i < ps.length), LWF B (ps[i])
theorem LWFs.set {B : Int} {ps : List Locker} (h : LWFs B ps) {j : Nat} {x : Locker} (hx : LWF B x) : LWFs B (ps.set j x) := by
  intro i hi
  simp only [List.getElem_set]
  split
  · exact hx
  · exact h i (by simpa using hi)
def scrS (t : List Int) (a : Nat) (ar : Arena) (ps : List Locker) (i : Nat) : St := ⟨[(3, .ref 28 0 0), (4, .ref 4 0 0), (6, .ref 6 0 0), (7, .osl 7 0 3), (8, .osl 8 0 3), (15, .d (.int .i64 i))], [(4, .row [.d (eArena ar)]), (6, .row [.d (eArena ar)]), (7, .row ((ps.map eLocker).map .d)), (8, .row ((ps.map eLocker).map .d)), (28, srcO t a)]⟩
structure ScrT where
  i : Nat
  a : Nat
  ar : Arena
  ps : List Locker
structure ScrI (s : ScrT) : Prop where
  i : s.i ≤ 60
  f : FitA s.ar
  l : s.ps.length = 3
  w : LWFs s.i s.ps
theorem scr_loop (t : List Int) (ht : t.length ≤ 4000) : ∀ s : ScrT, ScrI s → loopL G [] l_law13_LockerScript_1 (scrS t s.a s.ar s.ps s.i) = some (.exit 2, ⟨[], []⟩) := by
  refine loop_ind (fun s : ScrT => 60 - s.i) ScrI (fun s => scrS t s.a s.ar s.ps s.i) _ fun ⟨i, a, ar, ps⟩ ⟨hi, hf, hp, hw⟩ L ih => ?_
  simp only at hi hf hp hw
  simp only [scrS] at ih ⊢
  simp only [l_law13_LockerScript_1]
  have hm := more_ok t a ht
  by_cases h60 : i < 60 ∧ (i < 6 ∨ (a : Int) < t.length)
  rotate_left
  · by_cases c : i < 60
    · (try simp -implicitDefEqProofs (maxSteps := 4000000) (disch := omega) only [c, getDT, go_sem, *]); (try simp only [pA, pB, pC, pD, pE, pF, pG, pH, pI, pJ, pK, pL, pM, pN, pO, pP, if_true, if_false]); repeat' (first | done | rfl | (refine iteC (fun hq => ?_) (fun hq => ?_) <;> (try (first | (exfalso; omega) | contradiction)) <;> (try simp -implicitDefEqProofs (maxSteps := 4000000) (disch := omega) only [c, getDT, go_sem, *]) <;> (try simp only [pA, pB, pC, pD, pE, pF, pG, pH, pI, pJ, pK, pL, pM, pN, pO, pP, if_true, if_false]))); (all_goals try rfl); (all_goals try (repeat' (first | done | rfl | (exfalso; omega) | contradiction | (refine iteR (fun hq => ?_) (fun hq => ?_)))))
    · (try simp -implicitDefEqProofs (maxSteps := 4000000) (disch := omega) only [c, getDT, go_sem, *]); (try simp only [pA, pB, pC, pD, pE, pF, pG, pH, pI, pJ, pK, pL, pM, pN, pO, pP, if_true, if_false]); repeat' (first | done | rfl | (refine iteC (fun hq => ?_) (fun hq => ?_) <;> (try (first | (exfalso; omega) | contradiction)) <;> (try simp -implicitDefEqProofs (maxSteps := 4000000) (disch := omega) only [c, getDT, go_sem, *]) <;> (try simp only [pA, pB, pC, pD, pE, pF, pG, pH, pI, pJ, pK, pL, pM, pN, pO, pP, if_true, if_false]))); (all_goals try rfl); (all_goals try (repeat' (first | done | rfl | (exfalso; omega) | contradiction | (refine iteR (fun hq => ?_) (fun hq => ?_)))))
  obtain ⟨h60, hmore⟩ := h60
  have h3 := n_ok t a 3 ht (by omega) (by omega)
  have h0 : 0 ≤ nD t a 3 ∧ nD t a 3 < 3 := nD_in t a (by omega)
  have h4 := n_ok t (rawD t a).2 3 ht (by omega) (by omega)
  generalize (rawD t a).2 = a1 at h3 h4
  generalize (rawD t a1).2 = a2 at h4
  generalize nD t a1 3 = z at h4
  obtain ⟨j, hj⟩ : ∃ j : Nat, nD t a 3 = j := ⟨(nD t a 3).toNat, by omega⟩
  rw [hj] at h3 h0
  have hj3 : j < ps.length := by omega
  have hwj := hw j hj3
  by_cases hz : z = 0
  · have e1 := lfree_ok ps[j]
    have e2 := l13free_ok ps[j]
    have hs := same_Locker (lockFree ps[j]).1 (lockFree ps[j]).1 (by
      have := hwj.c2
      unfold lockFree; split
      · simp only; omega
      · simp [zLocker])
    by_cases hp3 : ps[j].phase = 3
    · have hkeep := lockFree_wf hwj hp3
      have ih1 := ih ⟨i + 1, a2, ar, ps.set j (lockFree ps[j]).1⟩ ⟨by simp only; omega, hf, by simpa using hp, fun q hq => (LWFs.set hw hkeep.1 q hq).mono (by simp only; omega)⟩ (by simp only; omega)
      have e0 : (lockFree ps[j]).2 = 0 := by unfold lockFree; rw [if_pos hp3]
      rw [e0] at e1 e2
      generalize (lockFree ps[j]).1 = x at *
      simp only [decide_true] at hs
      clear hkeep hw hwj
      simp only [Int.natCast_add, Int.natCast_one, Int.natCast_zero, Int.natCast_mul, Int.cast_ofNat_Int, List.length_append, List.length_map, List.map_nil, List.length_nil, List.map_append, List.map_cons, List.length_cons, Nat.zero_add, srcO, mapSet] at ih1
      clear ih
      by_cases c : (i : Int) < 6
      · (try simp -implicitDefEqProofs (maxSteps := 4000000) (disch := omega) only [c, getDT, go_sem, *]); (try simp only [pA, pB, pC, pD, pE, pF, pG, pH, pI, pJ, pK, pL, pM, pN, pO, pP, if_true, if_false]); repeat' (first | done | rfl | (refine iteC (fun hq => ?_) (fun hq => ?_) <;> (try (first | (exfalso; omega) | contradiction)) <;> (try simp -implicitDefEqProofs (maxSteps := 4000000) (disch := omega) only [c, getDT, go_sem, *]) <;> (try simp only [pA, pB, pC, pD, pE, pF, pG, pH, pI, pJ, pK, pL, pM, pN, pO, pP, if_true, if_false]))); (all_goals try rfl); (all_goals try (repeat' (first | done | rfl | (exfalso; omega) | contradiction | (refine iteR (fun hq => ?_) (fun hq => ?_)))))
      · have hmore : (a : Int) < t.length := by omega
        (try simp -implicitDefEqProofs (maxSteps := 4000000) (disch := omega) only [c, getDT, go_sem, *]); (try simp only [pA, pB, pC, pD, pE, pF, pG, pH, pI, pJ, pK, pL, pM, pN, pO, pP, if_true, if_false]); repeat' (first | done | rfl | (refine iteC (fun hq => ?_) (fun hq => ?_) <;> (try (first | (exfalso; omega) | contradiction)) <;> (try simp -implicitDefEqProofs (maxSteps := 4000000) (disch := omega) only [c, getDT, go_sem, *]) <;> (try simp only [pA, pB, pC, pD, pE, pF, pG, pH, pI, pJ, pK, pL, pM, pN, pO, pP, if_true, if_false]))); (all_goals try rfl); (all_goals try (repeat' (first | done | rfl | (exfalso; omega) | contradiction | (refine iteR (fun hq => ?_) (fun hq => ?_)))))
    · have ih1 := ih ⟨i + 1, a2, ar, ps⟩ ⟨by simp only; omega, hf, hp, fun q hq => (hw q hq).mono (by simp only; omega)⟩ (by simp only; omega)
      have e0 : lockFree ps[j] = (zLocker, 7) := by unfold lockFree; rw [if_neg hp3]
      rw [e0] at e1 e2 hs
      simp only [decide_true] at hs
      clear hw hwj
      simp only [Int.natCast_add, Int.natCast_one, Int.natCast_zero, Int.natCast_mul, Int.cast_ofNat_Int, List.length_append, List.length_map, List.map_nil, List.length_nil, List.map_append, List.map_cons, List.length_cons, Nat.zero_add, srcO, mapSet] at ih1
      clear ih
      by_cases c : (i : Int) < 6
      · (try simp -implicitDefEqProofs (maxSteps := 4000000) (disch := omega) only [c, getDT, go_sem, *]); (try simp only [pA, pB, pC, pD, pE, pF, pG, pH, pI, pJ, pK, pL, pM, pN, pO, pP, if_true, if_false]); repeat' (first | done | rfl | (refine iteC (fun hq => ?_) (fun hq => ?_) <;> (try (first | (exfalso; omega) | contradiction)) <;> (try simp -implicitDefEqProofs (maxSteps := 4000000) (disch := omega) only [c, getDT, go_sem, *]) <;> (try simp only [pA, pB, pC, pD, pE, pF, pG, pH, pI, pJ, pK, pL, pM, pN, pO, pP, if_true, if_false]))); (all_goals try rfl); (all_goals try (repeat' (first | done | rfl | (exfalso; omega) | contradiction | (refine iteR (fun hq => ?_) (fun hq => ?_)))))
      · have hmore : (a : Int) < t.length := by omega
        (try simp -implicitDefEqProofs (maxSteps := 4000000) (disch := omega) only [c, getDT, go_sem, *]); (try simp only [pA, pB, pC, pD, pE, pF, pG, pH, pI, pJ, pK, pL, pM, pN, pO, pP, if_true, if_false]); repeat' (first | done | rfl | (refine iteC (fun hq => ?_) (fun hq => ?_) <;> (try (first | (exfalso; omega) | contradiction)) <;> (try simp -implicitDefEqProofs (maxSteps := 4000000) (disch := omega) only [c, getDT, go_sem, *]) <;> (try simp only [pA, pB, pC, pD, pE, pF, pG, pH, pI, pJ, pK, pL, pM, pN, pO, pP, if_true, if_false]))); (all_goals try rfl); (all_goals try (repeat' (first | done | rfl | (exfalso; omega) | contradiction | (refine iteR (fun hq => ?_) (fun hq => ?_)))))
  · have e1 := lstep_ok ar ps[j] ((j : Int) + 1) hf.sl (hwj.mono (by omega))
    have e2 := l13step_ok ar ps[j] ((j : Int) + 1) hf.sl (hwj.mono (by omega))
    by_cases hr : (lockStep ar ps[j] ((j : Int) + 1)).2.2 = 0
    · obtain ⟨k1, k2, k3⟩ := lockStep_keep hwj hr
      have hfa : FitA (lockStep ar ps[j] ((j : Int) + 1)).1 := by
        rcases k3 with k3 | ⟨c, o, k3⟩
        · rw [k3]; exact hf
        · rw [k3]; exact fitA_set hf c o
      have hsl := same_Locker (lockStep ar ps[j] ((j : Int) + 1)).2.1 (lockStep ar ps[j] ((j : Int) + 1)).2.1 (by have := k1.c2; omega)
      have hsa := same_Arena _ (lockStep ar ps[j] ((j : Int) + 1)).1 hfa
      have ih1 := ih ⟨i + 1, a2, (lockStep ar ps[j] ((j : Int) + 1)).1, ps.set j (lockStep ar ps[j] ((j : Int) + 1)).2.1⟩ ⟨by simp only; omega, hfa, by simpa using hp, fun q hq => (LWFs.set (fun q hq => (hw q hq).mono (B' := i + 1) (by omega)) k1 q hq).mono (by simp only; omega)⟩ (by simp only; omega)
      rw [hr] at e1 e2
      generalize (lockStep ar ps[j] ((j : Int) + 1)).1 = u at *
      generalize (lockStep ar ps[j] ((j : Int) + 1)).2.1 = x at *
      simp only [decide_true] at hsl hsa
      clear hw hwj k1 k2 k3 hfa hr ih hf
      simp only [Int.natCast_add, Int.natCast_one, Int.natCast_zero, Int.natCast_mul, Int.cast_ofNat_Int, List.length_append, List.length_map, List.map_nil, List.length_nil, List.map_append, List.map_cons, List.length_cons, Nat.zero_add, srcO, mapSet] at ih1
      by_cases c : (i : Int) < 6
      · (try simp -implicitDefEqProofs (maxSteps := 4000000) (disch := omega) only [c, getDT, go_sem, *]); (try simp only [pA, pB, pC, pD, pE, pF, pG, pH, pI, pJ, pK, pL, pM, pN, pO, pP, if_true, if_false]); repeat' (first | done | rfl | (refine iteC (fun hq => ?_) (fun hq => ?_) <;> (try (first | (exfalso; omega) | contradiction)) <;> (try simp -implicitDefEqProofs (maxSteps := 4000000) (disch := omega) only [c, getDT, go_sem, *]) <;> (try simp only [pA, pB, pC, pD, pE, pF, pG, pH, pI, pJ, pK, pL, pM, pN, pO, pP, if_true, if_false]))); (all_goals try rfl); (all_goals try (repeat' (first | done | rfl | (exfalso; omega) | contradiction | (refine iteR (fun hq => ?_) (fun hq => ?_)))))
      · have hmore : (a : Int) < t.length := by omega
        (try simp -implicitDefEqProofs (maxSteps := 4000000) (disch := omega) only [c, getDT, go_sem, *]); (try simp only [pA, pB, pC, pD, pE, pF, pG, pH, pI, pJ, pK, pL, pM, pN, pO, pP, if_true, if_false]); repeat' (first | done | rfl | (refine iteC (fun hq => ?_) (fun hq => ?_) <;> (try (first | (exfalso; omega) | contradiction)) <;> (try simp -implicitDefEqProofs (maxSteps := 4000000) (disch := omega) only [c, getDT, go_sem, *]) <;> (try simp only [pA, pB, pC, pD, pE, pF, pG, pH, pI, pJ, pK, pL, pM, pN, pO, pP, if_true, if_false]))); (all_goals try rfl); (all_goals try (repeat' (first | done | rfl | (exfalso; omega) | contradiction | (refine iteR (fun hq => ?_) (fun hq => ?_)))))
    · obtain ⟨k1, k2⟩ := lockStep_bad (B := 0) hr
      have hsl := same_Locker zLocker zLocker (by decide)
      have hsa := same_Arena zArena zArena fitA_z
      have ih1 := ih ⟨i + 1, a2, ar, ps⟩ ⟨by simp only; omega, hf, hp, fun q hq => (hw q hq).mono (by simp only; omega)⟩ (by simp only; omega)
      rw [k1, k2] at e1 e2
      generalize (lockStep ar ps[j] ((j : Int) + 1)).2.2 = e at *
      simp only [decide_true] at hsl hsa
      clear hw hwj k1 k2 ih hf
      simp only [Int.natCast_add, Int.natCast_one, Int.natCast_zero, Int.natCast_mul, Int.cast_ofNat_Int, List.length_append, List.length_map, List.map_nil, List.length_nil, List.map_append, List.map_cons, List.length_cons, Nat.zero_add, srcO, mapSet] at ih1
      by_cases c : (i : Int) < 6
      · (try simp -implicitDefEqProofs (maxSteps := 4000000) (disch := omega) only [c, getDT, go_sem, *]); (try simp only [pA, pB, pC, pD, pE, pF, pG, pH, pI, pJ, pK, pL, pM, pN, pO, pP, if_true, if_false]); repeat' (first | done | rfl | (refine iteC (fun hq => ?_) (fun hq => ?_) <;> (try (first | (exfalso; omega) | contradiction)) <;> (try simp -implicitDefEqProofs (maxSteps := 4000000) (disch := omega) only [c, getDT, go_sem, *]) <;> (try simp only [pA, pB, pC, pD, pE, pF, pG, pH, pI, pJ, pK, pL, pM, pN, pO, pP, if_true, if_false]))); (all_goals try rfl); (all_goals try (repeat' (first | done | rfl | (exfalso; omega) | contradiction | (refine iteR (fun hq => ?_) (fun hq => ?_)))))
      · have hmore : (a : Int) < t.length := by omega
        (try simp -implicitDefEqProofs (maxSteps := 4000000) (disch := omega) only [c, getDT, go_sem, *]); (try simp only [pA, pB, pC, pD, pE, pF, pG, pH, pI, pJ, pK, pL, pM, pN, pO, pP, if_true, if_false]); repeat' (first | done | rfl | (refine iteC (fun hq => ?_) (fun hq => ?_) <;> (try (first | (exfalso; omega) | contradiction)) <;> (try simp -implicitDefEqProofs (maxSteps := 4000000) (disch := omega) only [c, getDT, go_sem, *]) <;> (try simp only [pA, pB, pC, pD, pE, pF, pG, pH, pI, pJ, pK, pL, pM, pN, pO, pP, if_true, if_false]))); (all_goals try rfl); (all_goals try (repeat' (first | done | rfl | (exfalso; omega) | contradiction | (refine iteR (fun hq => ?_) (fun hq => ?_)))))
end Go.Proofs.Ytkdjbfjohbiemaa

namespace Go.Proofs.Ytkdjbfjohbiemaa
open Go Go.Sim
set_option linter.unusedSimpArgs false
set_option linter.unusedVariables false
set_option maxHeartbeats 10000000
set_option maxRecDepth 40000
theorem arenaN_of {s : Setup} (h : 1 ≤ s.slots ∧ s.slots ≤ 4 ∧ 1 ≤ s.live ∧ s.live ≤ s.slots ∧ 1 ≤ s.capacity ∧ s.capacity ≤ 5 ∧ 1 ≤ s.dead ∧ s.dead ≤ 4 ∧ 1 ≤ s.limit ∧ s.limit ≤ 3 ∧ 0 ≤ s.clock ∧ s.clock ≤ 1073741824 ∧ 1 ≤ s.nextID ∧ s.nextID ≤ 1073741824 ∧ 0 ≤ s.epoch ∧ s.epoch ≤ 65536) :
    arenaNew s = (arenaN s, 0) ∧ FitA (arenaN s) ∧ 1 ≤ (arenaN s).slots.length ∧ (arenaN s).slots.length ≤ 4 ∧ ∀ c : Int, 0 ≤ c → c ≤ (arenaN s).slots.length → owners (arenaN s) c = 0 := by
  have ho : okSetup s = true := by
    simp only [okSetup, inB, Bool.and_eq_true, decide_eq_true_eq]; omega
  have hl : (arenaN s).slots.length = s.slots.toNat := by simp [arenaN, slotsN]
  refine ⟨by unfold arenaNew; rw [if_pos ho], ⟨by omega, fun i hi => ?_, ?_, ?_, ?_, ?_⟩, by omega, by omega, fun c h0 h1 => ?_⟩
  · simp only [arenaN, slotsN, List.getElem_map, List.getElem_range, slotI]
    split <;> exact ⟨by simp [ringN]; omega, by simp, by simp⟩
  · simp [arenaN, stripesN]; omega
  · simp [arenaN]
  · simp [arenaN, dirN, spansN]; omega
  · simp [arenaN, dirN]; omega
  · unfold owners
    split
    · rfl
    · rw [getDT (by omega)]
      simp only [arenaN, slotsN, List.getElem_map, List.getElem_range, slotI]
structure Fresh (n : Nat) (l : Locker) : Prop where
  asc : Asc l.cells n
  one : 1 ≤ l.cells.length
  eq : l = ⟨l.cells, 0, 0, 0, 0⟩
theorem Fresh.wf {n : Nat} {l : Locker} (h : Fresh n l) : LWF 0 l := by
  have h1 := h.one
  have h2 := h.asc.l
  rw [h.eq]
  constructor <;> simp only <;> omega
theorem fresh_append {n : Nat} {ps : List Locker} {cs : List Int} (h : ∀ i (hi : i < ps.length), Fresh n ps[i]) (hc : Asc cs n) (h1 : 1 ≤ cs.length) : ∀ i (hi : i < (ps ++ [(⟨cs, 0, 0, 0, 0⟩ : Locker)]).length), Fresh n (ps ++ [(⟨cs, 0, 0, 0, 0⟩ : Locker)])[i] := by
  intro i hi
  by_cases c : i < ps.length
  · rw [List.getElem_append_left c]; exact h i c
  · have : i = ps.length := by simp at hi; omega
    subst this
    rw [List.getElem_append_right (by omega)]
    simp only [Nat.sub_self, List.getElem_cons_zero]
    exact ⟨hc, h1, rfl⟩
theorem scr0_loop (t : List Int) (ht : t.length ≤ 4000) (ar : Arena) (hn : ar.slots.length ≤ 4) : ∀ s : Nat × Nat × List Locker, s.1 ≤ 3 ∧ s.2.2.length = s.1 ∧ (∀ i (hi : i < s.2.2.length), Fresh ar.slots.length s.2.2[i]) → ∃ (a' : Nat) (ps : List Locker), ps.length = 3 ∧ (∀ i (hi : i < ps.length), Fresh ar.slots.length ps[i]) ∧ loopL G [] l_law13_LockerScript_0 ⟨[(3, .ref 28 0 0), (4, .ref 4 0 0), (6, .ref 6 0 0), (7, .acc 7 (s.2.2.map eLocker)), (8, .acc 8 (s.2.2.map eLocker)), (9, .d (.int .i64 s.1))], [(4, .row [.d (eArena ar)]), (6, .row [.d (eArena ar)]), (7, .acc s.2.2.length), (8, .acc s.2.2.length), (28, srcO t s.2.1)]⟩ = some (.exit 0, ⟨[(3, .ref 28 0 0), (4, .ref 4 0 0), (6, .ref 6 0 0), (7, .acc 7 (ps.map eLocker)), (8, .acc 8 (ps.map eLocker))], [(4, .row [.d (eArena ar)]), (6, .row [.d (eArena ar)]), (7, .acc ps.length), (8, .acc ps.length), (28, srcO t a')]⟩) := by
  refine loop_indP (fun s : Nat × Nat × List Locker => 3 - s.1) _ (fun s : Nat × Nat × List Locker => ⟨[(3, .ref 28 0 0), (4, .ref 4 0 0), (6, .ref 6 0 0), (7, .acc 7 (s.2.2.map eLocker)), (8, .acc 8 (s.2.2.map eLocker)), (9, .d (.int .i64 s.1))], [(4, .row [.d (eArena ar)]), (6, .row [.d (eArena ar)]), (7, .acc s.2.2.length), (8, .acc s.2.2.length), (28, srcO t s.2.1)]⟩) (fun s r => ∃ (a' : Nat) (ps : List Locker), ps.length = 3 ∧ (∀ i (hi : i < ps.length), Fresh ar.slots.length ps[i]) ∧ r = some (.exit 0, ⟨[(3, .ref 28 0 0), (4, .ref 4 0 0), (6, .ref 6 0 0), (7, .acc 7 (ps.map eLocker)), (8, .acc 8 (ps.map eLocker))], [(4, .row [.d (eArena ar)]), (6, .row [.d (eArena ar)]), (7, .acc ps.length), (8, .acc ps.length), (28, srcO t a')]⟩)) fun ⟨i, a, ps⟩ ⟨hi, hl, hf⟩ L ih => ?_
  simp only at hi hl hf ih
  simp only [l_law13_LockerScript_0]
  by_cases h3 : i < 3
  · obtain ⟨cs, a1, hc, h1, hs⟩ := some_ok t a ar.slots.length ht (by omega)
    have e1 := lnew_ok cs (by have := hc.l; omega)
    have e2 := l13new_ok cs (by have := hc.l; omega)
    rw [lockNew_asc hc (by omega) h1] at e1 e2
    have hsl := same_Locker ⟨cs, 0, 0, 0, 0⟩ ⟨cs, 0, 0, 0, 0⟩ (by have := hc.l; simp only; omega)
    simp only [decide_true] at hsl
    obtain ⟨a', qs, q1, q2, q3⟩ := ih (i + 1, a1, ps ++ [⟨cs, 0, 0, 0, 0⟩]) ⟨by simp only; omega, by simp [hl], fresh_append hf hc h1⟩ (by simp only; omega)
    refine ⟨a', qs, q1, q2, ?_⟩
    simp only [Int.natCast_add, Int.natCast_one, Int.natCast_zero, Int.natCast_mul, Int.cast_ofNat_Int, List.length_append, List.length_map, List.map_nil, List.length_nil, List.map_append, List.map_cons, List.length_cons, Nat.zero_add, srcO, mapSet] at q3
    rw [← q3]
    clear ih q3 hf q2 q1
    (try simp -implicitDefEqProofs (maxSteps := 4000000) (disch := omega) only [getDT, go_sem, *]); (try simp only [pA, pB, pC, pD, pE, pF, pG, pH, pI, pJ, pK, pL, pM, pN, pO, pP, if_true, if_false]); repeat' (first | done | rfl | (refine iteC (fun hq => ?_) (fun hq => ?_) <;> (try (first | (exfalso; omega) | contradiction)) <;> (try simp -implicitDefEqProofs (maxSteps := 4000000) (disch := omega) only [getDT, go_sem, *]) <;> (try simp only [pA, pB, pC, pD, pE, pF, pG, pH, pI, pJ, pK, pL, pM, pN, pO, pP, if_true, if_false]))); (all_goals try rfl); (all_goals try (repeat' (first | done | rfl | (exfalso; omega) | contradiction | (refine iteR (fun hq => ?_) (fun hq => ?_)))))
  · refine ⟨a, ps, by omega, hf, ?_⟩
    clear ih hf
    (try simp -implicitDefEqProofs (maxSteps := 4000000) (disch := omega) only [getDT, go_sem, *]); (try simp only [pA, pB, pC, pD, pE, pF, pG, pH, pI, pJ, pK, pL, pM, pN, pO, pP, if_true, if_false]); repeat' (first | done | rfl | (refine iteC (fun hq => ?_) (fun hq => ?_) <;> (try (first | (exfalso; omega) | contradiction)) <;> (try simp -implicitDefEqProofs (maxSteps := 4000000) (disch := omega) only [getDT, go_sem, *]) <;> (try simp only [pA, pB, pC, pD, pE, pF, pG, pH, pI, pJ, pK, pL, pM, pN, pO, pP, if_true, if_false]))); (all_goals try rfl); (all_goals try (repeat' (first | done | rfl | (exfalso; omega) | contradiction | (refine iteR (fun hq => ?_) (fun hq => ?_)))))
theorem lockerScript_law (l : List Int) (hL : l.length ≤ LIM) : callL G N_law13_LockerScript [.d (.sl (ints l))] [] = some (.d (.bool true), []) := by
  obtain ⟨t, ht, hnew⟩ := new_ok2 l hL
  obtain ⟨s, a1, hs, hs1⟩ := setup_ok0 t ht
  have ha := arenaNew_ok s
  obtain ⟨he, hf, hn1, hn4, ho⟩ := arenaN_of hs
  rw [he] at ha
  generalize arenaN s = ar at *
  obtain ⟨a2, ps, hp, hfr, hl0⟩ := scr0_loop t ht ar hn4 (0, a1, []) ⟨by simp, by simp, by simp⟩
  have hl1 := scr_loop t ht ⟨0, a2, ar, ps⟩ ⟨by simp, hf, hp, fun i hi => (hfr i hi).wf⟩
  have hw := awake13_ok
  simp only [scrS, List.map_nil, List.length_nil, hp] at hl0 hl1
  simp only [Int.natCast_add, Int.natCast_one, Int.natCast_zero, Int.natCast_mul, Int.cast_ofNat_Int, List.length_append, List.length_map, List.map_nil, List.length_nil, List.map_append, List.map_cons, List.length_cons, Nat.zero_add, srcO, mapSet] at hl0 hl1
  clear hfr ho hf he hs hn1 hn4
  rw [callL_code g_law13_LockerScript (by simp)]; simp -implicitDefEqProofs (maxSteps := 4000000) (disch := omega) only [c_law13_LockerScript, r_law13_LockerScript, getDT, go_sem, *]; (try simp only [pA, pB, pC, pD, pE, pF, pG, pH, pI, pJ, pK, pL, pM, pN, pO, pP, if_true, if_false]); repeat' (first | done | rfl | (refine iteC (fun hq => ?_) (fun hq => ?_) <;> (try (first | (exfalso; omega) | contradiction)) <;> (try simp -implicitDefEqProofs (maxSteps := 4000000) (disch := omega) only [getDT, go_sem, *]) <;> (try simp only [pA, pB, pC, pD, pE, pF, pG, pH, pI, pJ, pK, pL, pM, pN, pO, pP, if_true, if_false]))); (all_goals try rfl); (all_goals try (repeat' (first | done | rfl | (exfalso; omega) | contradiction | (refine iteR (fun hq => ?_) (fun hq => ?_)))))
end Go.Proofs.Ytkdjbfjohbiemaa

namespace Go.Proofs.Ytkdjbfjohbiemaa
open Go Go.Sim
set_option linter.unusedSimpArgs false
set_option linter.unusedVariables false
set_option maxHeartbeats 10000000
set_option maxRecDepth 40000
theorem owners_set (a : Arena) (c k c' : Int) (h0 : 0 ≤ c) (h1 : c ≤ a.slots.length) (h2 : 0 ≤ c') (h3 : c' ≤ a.slots.length) : owners (setOwner a c k) c' = if c' = c then k else owners a c' := by
  unfold owners
  rw [setOwner_len]
  unfold setOwner
  by_cases e : c = a.slots.length
  · rw [if_pos e]
    by_cases e2 : c' = a.slots.length
    · rw [if_pos e2, if_pos (by omega)]
    · rw [if_neg e2, if_neg e2, if_neg (by omega)]
  · rw [if_neg e]
    by_cases e2 : c' = a.slots.length
    · rw [if_pos e2, if_pos e2, if_neg (by omega)]
    · rw [if_neg e2, if_neg e2]
      have hl : c'.toNat < a.slots.length := by omega
      rw [getDT (by simpa using hl), getDT hl]
      simp only [List.getElem_set]
      by_cases e3 : c' = c
      · subst e3; simp
      · rw [if_neg (by omega), if_neg e3]
def held (l : Locker) : List Int := l.cells.take l.have_.toNat
structure OWN (n : Nat) (B : Int) (a : Arena) (ps : List Locker) : Prop where
  nn : a.slots.length = n
  f : FitA a
  asc : ∀ j (h : j < ps.length), Asc ps[j].cells n
  wf : LWFs B ps
  jj : ∀ c : Int, 0 ≤ c → c ≤ n → ∀ j (h : j < ps.length), (c ∈ held ps[j] ↔ owners a c = (j : Int) + 1)
  rr : ∀ c : Int, 0 ≤ c → c ≤ n → 0 ≤ owners a c ∧ owners a c ≤ ps.length
theorem OWN.mono {n : Nat} {B B' : Int} {a : Arena} {ps : List Locker} (h : OWN n B a ps) (hb : B ≤ B') : OWN n B' a ps := ⟨h.nn, h.f, h.asc, fun i hi => (h.wf i hi).mono hb, h.jj, h.rr⟩
theorem OWN.set {n : Nat} {B : Int} {a : Arena} {ps : List Locker} (h : OWN n B a ps) {j : Nat} (hj : j < ps.length) {x : Locker} (hx : LWF B x) (hc : x.cells = ps[j].cells) (hh : held x = held ps[j]) : OWN n B a (ps.set j x) := by
  refine ⟨h.nn, h.f, fun i hi => ?_, LWFs.set h.wf hx, fun c c0 c1 i hi => ?_, fun c c0 c1 => by simpa using h.rr c c0 c1⟩
  · simp only [List.getElem_set]
    split
    · rw [hc]; exact h.asc j hj
    · exact h.asc i (by simpa using hi)
  · simp only [List.getElem_set]
    split
    · rename_i e; subst e; rw [hh]; exact h.jj c c0 c1 j hj
    · exact h.jj c c0 c1 i (by simpa using hi)
theorem OWN.free {n : Nat} {B : Int} {a : Arena} {ps : List Locker} (h : OWN n B a ps) {j : Nat} (hj : j < ps.length) (hp : ps[j].phase = 3) : OWN n B a (ps.set j (lockFree ps[j]).1) := by
  have hk := lockFree_wf (h.wf j hj) hp
  refine h.set hj hk.1 hk.2 ?_
  unfold held lockFree
  rw [if_pos hp]
theorem asc_lt {cs : List Int} {n : Int} (h : Asc cs n) {i j : Nat} (hij : i < j) (hj : j < cs.length) : cs[i] < cs[j] := List.pairwise_iff_getElem.1 h.p i j (by omega) hj hij
theorem mem_take_succ {cs : List Int} {k : Nat} (h : k < cs.length) (c : Int) : c ∈ cs.take (k + 1) ↔ c ∈ cs.take k ∨ c = cs[k] := by
  have : cs.take (k + 1) = cs.take k ++ [cs[k]] := by rw [List.take_append_getElem h]
  rw [this, List.mem_append, List.mem_singleton]
theorem asc_notmem {cs : List Int} {n : Int} (h : Asc cs n) {k : Nat} (hk : k < cs.length) : cs[k] ∉ cs.take k := by
  intro hm
  obtain ⟨i, hi, e⟩ := List.getElem_of_mem hm
  simp only [List.getElem_take, List.length_take] at e hi
  have := asc_lt h (i := i) (j := k) (by omega) hk
  omega
inductive Did (a : Arena) (l : Locker) (k : Int) : Arena → Locker → Prop
  | got (h0 : l.phase = 0) (hk : l.have_ < l.cells.length) (ho : owners a (l.cells.getD l.have_.toNat 0) = 0) : Did a l k (setOwner a (l.cells.getD l.have_.toNat 0) k) { l with have_ := l.have_ + 1, phase := if l.have_ + 1 = l.cells.length then 3 else 0 }
  | failed (h0 : l.phase = 0) (hk : l.have_ < l.cells.length) (ho : owners a (l.cells.getD l.have_.toNat 0) ≠ 0) : Did a l k a { l with phase := if 0 < l.have_ then 1 else 0 }
  | left (h0 : l.phase = 1 ∨ l.phase = 4) (hk : 1 ≤ l.have_) (ho : owners a (l.cells.getD (l.have_ - 1).toNat 0) = k) : Did a l k (setOwner a (l.cells.getD (l.have_ - 1).toNat 0) 0) (leaveL l)
  | waited (h0 : l.phase = 2) : Did a l k a { l with wait := l.wait - 1, phase := if l.wait - 1 = 0 then 0 else 2 }
theorem held_of (l : Locker) : held l = l.cells.take l.have_.toNat := rfl
theorem own_step {n : Nat} {B : Int} {a : Arena} {ps : List Locker} (h : OWN n B a ps) {j : Nat} (hj : j < ps.length) (h6 : ps.length ≤ 200) (hp : ps[j].phase ≠ 3 ∧ ps[j].phase ≠ 5) :
    (lockStep a ps[j] ((j : Int) + 1)).2.2 = 0 ∧ Did a ps[j] ((j : Int) + 1) (lockStep a ps[j] ((j : Int) + 1)).1 (lockStep a ps[j] ((j : Int) + 1)).2.1 ∧ OWN n (B + 1) (lockStep a ps[j] ((j : Int) + 1)).1 (ps.set j (lockStep a ps[j] ((j : Int) + 1)).2.1) := by
  have hw := h.wf j hj
  have ha := h.asc j hj
  have hn := h.nn
  have htask : taskB ((j : Int) + 1) = true := by unfold taskB inB; simp; omega
  have key : (lockStep a ps[j] ((j : Int) + 1)).2.2 = 0 ∧ Did a ps[j] ((j : Int) + 1) (lockStep a ps[j] ((j : Int) + 1)).1 (lockStep a ps[j] ((j : Int) + 1)).2.1 := by
    obtain ⟨w1, w2, w3, w4, w5, w6, w7, w8, w9, w10, w11, w12, w13⟩ := hw
    unfold lockStep
    by_cases c0 : ps[j].phase = 0
    · have hh := w5 c0
      rw [if_pos c0]
      have hc := ha.b (ps[j].cells.getD ps[j].have_.toNat 0) (by rw [getDT (by omega)]; exact List.getElem_mem _)
      have ht : aTry a (ps[j].cells.getD ps[j].have_.toNat 0) ((j : Int) + 1) = if owners a (ps[j].cells.getD ps[j].have_.toNat 0) = 0 then (setOwner a (ps[j].cells.getD ps[j].have_.toNat 0) ((j : Int) + 1), true, 0) else (a, false, 0) := by
        unfold aTry
        rw [if_neg (by rw [htask, hn]; rintro (q | q | q) <;> first | omega | cases q)]
      unfold lockTry
      rw [ht]
      by_cases c1 : owners a (ps[j].cells.getD ps[j].have_.toNat 0) = 0
      · rw [if_pos c1]
        refine ⟨rfl, ?_⟩
        have := Did.got (k := (j : Int) + 1) c0 hh c1
        simp only [c0, if_true]
        exact this
      · rw [if_neg c1]
        refine ⟨rfl, ?_⟩
        have := Did.failed (k := (j : Int) + 1) c0 hh c1
        simp only [c0, if_true, Bool.false_eq_true, if_false]
        exact this
    rw [if_neg c0]
    by_cases c14 : ps[j].phase = 1 ∨ ps[j].phase = 4
    · have hh : 1 ≤ ps[j].have_ := by rcases c14 with h | h; exact w6 h; exact w9 h
      rw [if_pos c14]
      have hlt : (ps[j].have_ - 1).toNat < ps[j].cells.length := by omega
      have hc := ha.b (ps[j].cells.getD (ps[j].have_ - 1).toNat 0) (by rw [getDT hlt]; exact List.getElem_mem _)
      have ho : owners a (ps[j].cells.getD (ps[j].have_ - 1).toNat 0) = (j : Int) + 1 := by
        refine (h.jj _ hc.1 hc.2 j hj).1 ?_
        rw [held_of, getDT hlt]
        rw [show ps[j].have_.toNat = (ps[j].have_ - 1).toNat + 1 by omega, mem_take_succ hlt]
        exact .inr rfl
      unfold lockLeave
      have ht : aUnlock a (ps[j].cells.getD (ps[j].have_ - 1).toNat 0) ((j : Int) + 1) = (setOwner a (ps[j].cells.getD (ps[j].have_ - 1).toNat 0) 0, 0) := by
        unfold aUnlock
        rw [if_neg (by rw [htask, hn]; rintro (q | q | q) <;> first | omega | cases q), if_pos ho]
      rw [ht]
      exact ⟨rfl, Did.left c14 hh ho⟩
    rw [if_neg c14]
    have c2 : ps[j].phase = 2 := by omega
    rw [if_pos c2]
    exact ⟨rfl, Did.waited c2⟩
  obtain ⟨k1, k2⟩ := key
  obtain ⟨g1, g2, g3⟩ := lockStep_keep hw k1
  refine ⟨k1, k2, ?_⟩
  generalize (lockStep a ps[j] ((j : Int) + 1)).1 = u at *
  generalize (lockStep a ps[j] ((j : Int) + 1)).2.1 = x at *
  have base : held x = held ps[j] → u = a → OWN n (B + 1) u (ps.set j x) := by
    rintro e1 rfl
    exact (h.mono (B' := B + 1) (by omega)).set hj g1 g2 e1
  have hlen : u.slots.length = n := by
    rcases g3 with g3 | ⟨c, o, g3⟩
    · rw [g3]; exact hn
    · rw [g3, setOwner_len]; exact hn
  have hfit : FitA u := by
    rcases g3 with g3 | ⟨c, o, g3⟩
    · rw [g3]; exact h.f
    · rw [g3]; exact fitA_set h.f c o
  have rest : (∀ c : Int, 0 ≤ c → c ≤ n → (c ∈ held x ↔ owners u c = (j : Int) + 1)) → (∀ c : Int, 0 ≤ c → c ≤ n → ∀ i, i < ps.length → i ≠ j → (owners u c = (i : Int) + 1 ↔ owners a c = (i : Int) + 1)) → (∀ c : Int, 0 ≤ c → c ≤ n → 0 ≤ owners u c ∧ owners u c ≤ ps.length) → OWN n (B + 1) u (ps.set j x) := by
    intro r1 r2 r3
    refine ⟨hlen, hfit, fun i hi => ?_, LWFs.set (fun q hq => (h.wf q hq).mono (by omega)) g1, fun c c0 c1 i hi => ?_, fun c c0 c1 => by simpa using r3 c c0 c1⟩
    · simp only [List.getElem_set]
      split
      · rw [g2]; exact ha
      · exact h.asc i (by simpa using hi)
    · simp only [List.getElem_set]
      split
      · rename_i e; subst e; exact r1 c c0 c1
      · rename_i e
        have hi : i < ps.length := by simpa using hi
        rw [r2 c c0 c1 i hi (by omega)]
        exact h.jj c c0 c1 i hi
  cases k2 with
  | got h0 hk ho =>
    have hlt : ps[j].have_.toNat < ps[j].cells.length := by have := hw.h0; omega
    have hc := ha.b (ps[j].cells.getD ps[j].have_.toNat 0) (by rw [getDT hlt]; exact List.getElem_mem _)
    have hos := fun (c : Int) (h0 : 0 ≤ c) (h1 : c ≤ n) => owners_set a (ps[j].cells.getD ps[j].have_.toNat 0) ((j : Int) + 1) c hc.1 (by rw [hn]; exact hc.2) h0 (by rw [hn]; exact h1)
    refine rest (fun c c0 c1 => ?_) (fun c c0 c1 i hi hne => ?_) (fun c c0 c1 => ?_)
    · rw [hos c c0 c1]
      have := h.jj c c0 c1 j hj
      rw [held_of] at this ⊢
      simp only
      rw [show (ps[j].have_ + 1).toNat = ps[j].have_.toNat + 1 by have := hw.h0; omega, mem_take_succ hlt, this, getDT hlt]
      by_cases e : c = ps[j].cells[ps[j].have_.toNat]
      · rw [if_pos e]; exact ⟨fun _ => rfl, fun _ => .inr e⟩
      · rw [if_neg e]; exact ⟨fun q => q.resolve_right e, .inl⟩
    · rw [hos c c0 c1]
      by_cases e : c = ps[j].cells.getD ps[j].have_.toNat 0
      · rw [if_pos e, e, ho]; constructor <;> intro q <;> omega
      · rw [if_neg e]
    · rw [hos c c0 c1]
      have := h.rr c c0 c1
      split <;> omega
  | failed h0 hk ho => exact base rfl rfl
  | waited h0 => exact base rfl rfl
  | left h0 hk ho =>
    have hlt : (ps[j].have_ - 1).toNat < ps[j].cells.length := by have := hw.h1; omega
    have hc := ha.b (ps[j].cells.getD (ps[j].have_ - 1).toNat 0) (by rw [getDT hlt]; exact List.getElem_mem _)
    have hos := fun (c : Int) (h0 : 0 ≤ c) (h1 : c ≤ n) => owners_set a (ps[j].cells.getD (ps[j].have_ - 1).toNat 0) 0 c hc.1 (by rw [hn]; exact hc.2) h0 (by rw [hn]; exact h1)
    have hhx : held (leaveL ps[j]) = ps[j].cells.take (ps[j].have_ - 1).toNat := by
      unfold held leaveL
      split
      · rfl
      · split <;> rfl
    refine rest (fun c c0 c1 => ?_) (fun c c0 c1 i hi hne => ?_) (fun c c0 c1 => ?_)
    · rw [hos c c0 c1, hhx]
      have := h.jj c c0 c1 j hj
      rw [held_of, show ps[j].have_.toNat = (ps[j].have_ - 1).toNat + 1 by omega, mem_take_succ hlt] at this
      have hnm := asc_notmem ha hlt
      rw [getDT hlt] at hos ho ⊢
      by_cases e : c = ps[j].cells[(ps[j].have_ - 1).toNat]
      · rw [if_pos e]
        constructor
        · intro q; rw [e] at q; exact absurd q hnm
        · intro q; omega
      · rw [if_neg e, ← this]
        exact ⟨.inl, fun q => q.resolve_right e⟩
    · rw [hos c c0 c1]
      by_cases e : c = ps[j].cells.getD (ps[j].have_ - 1).toNat 0
      · rw [if_pos e, e, ho]; constructor <;> intro q <;> omega
      · rw [if_neg e]
    · rw [hos c c0 c1]
      have := h.rr c c0 c1
      split <;> omega
theorem own_first {n : Nat} {a : Arena} {ps : List Locker} (hn : a.slots.length = n) (hf : FitA a) (ho : ∀ c : Int, 0 ≤ c → c ≤ a.slots.length → owners a c = 0) (hp : ∀ i (hi : i < ps.length), Fresh n ps[i]) : OWN n 0 a ps := by
  refine ⟨hn, hf, fun j h => (hp j h).asc, fun j h => (hp j h).wf, fun c c0 c1 j h => ?_, fun c c0 c1 => by rw [ho c c0 (by rw [hn]; exact c1)]; omega⟩
  rw [ho c c0 (by rw [hn]; exact c1), held_of, (hp j h).eq]
  simp only [Int.toNat_zero, List.take_zero, List.not_mem_nil, false_iff]
  omega
end Go.Proofs.Ytkdjbfjohbiemaa

namespace Go.Proofs.Ytkdjbfjohbiemaa
open Go Go.Sim
set_option linter.unusedSimpArgs false
set_option linter.unusedVariables false
set_option maxHeartbeats 10000000
set_option maxRecDepth 40000
theorem cells_loop (A B : Arena) (n c : Nat) (m o : Int) (hn4 : n ≤ 4) (hA : A.slots.length = n) (hB : B.slots = A.slots) (hs1 : A.stripes.length = n) (hs2 : B.stripes.length = n) (hf : FitA A) (hz : ∀ k (h : k < A.stripes.length), (A.stripes[k]).seq = 0) (h5 : ∀ k (h : k < B.stripes.length), (B.stripes[k]).seq = if k = c then 5 else 0) : ∀ k : Nat, k ≤ n → loopL G [] l_law12_ArenaCells_0 ⟨[(4, .ref 4 0 0), (6, .d (.int .i64 n)), (7, .d (.int .i64 c)), (8, .d (.int .i64 m)), (9, .d (.int .i64 o)), (19, .ref 19 0 0), (21, .d (.int .i64 k))], [(4, .row [.d (eArena A)]), (19, .row [.d (eArena B)])]⟩ = some (.exit 0, ⟨[(7, .d (.int .i64 c)), (8, .d (.int .i64 m)), (9, .d (.int .i64 o)), (19, .ref 19 0 0)], [(19, .row [.d (eArena B)])]⟩) := by
  refine loop_ind (fun k : Nat => n - k) _ (fun k : Nat => ⟨[(4, .ref 4 0 0), (6, .d (.int .i64 n)), (7, .d (.int .i64 c)), (8, .d (.int .i64 m)), (9, .d (.int .i64 o)), (19, .ref 19 0 0), (21, .d (.int .i64 k))], [(4, .row [.d (eArena A)]), (19, .row [.d (eArena B)])]⟩) _ fun k hk L ih => ?_
  simp only [l_law12_ArenaCells_0]
  by_cases h0 : k < n
  · have i1 := ih (k + 1) (by omega) (by omega)
    have e1 := loadSlot_ok A k (by omega)
    have e2 := loadSlot_ok B k (by rw [hB]; omega)
    have hsh := same_Shard (A.slots.getD k zSlot).shard (A.slots.getD k zSlot).shard (by rw [getDT (by omega)]; exact hf.sh k (by omega))
    unfold loadSlot slotB at e1 e2
    rw [if_pos (by simp; omega)] at e1
    rw [if_pos (by simp [hB]; omega), hB] at e2
    rw [Int.toNat_natCast] at e1 e2
    simp only [decide_true] at hsh
    have z1 := hz k (by omega)
    have z2 := h5 k (by omega)
    generalize (A.slots.getD k zSlot).shard = sh at *
    clear ih hz h5 hf hB
    simp only [Int.natCast_add, Int.natCast_one, Int.natCast_zero, Int.natCast_mul, Int.cast_ofNat_Int, List.length_append, List.length_map, List.map_nil, List.length_nil, List.map_append, List.map_cons, List.length_cons, Nat.zero_add, srcO, mapSet] at i1
    by_cases hc : k = c
    · rw [if_pos hc] at z2
      subst hc
      (try simp -implicitDefEqProofs (maxSteps := 4000000) (disch := omega) only [getDT, go_sem, *]); (try simp only [pA, pB, pC, pD, pE, pF, pG, pH, pI, pJ, pK, pL, pM, pN, pO, pP, if_true, if_false]); repeat' (first | done | rfl | (refine iteC (fun hq => ?_) (fun hq => ?_) <;> (try (first | (exfalso; omega) | contradiction)) <;> (try simp -implicitDefEqProofs (maxSteps := 4000000) (disch := omega) only [getDT, go_sem, *]) <;> (try simp only [pA, pB, pC, pD, pE, pF, pG, pH, pI, pJ, pK, pL, pM, pN, pO, pP, if_true, if_false]))); (all_goals try rfl); (all_goals try (repeat' (first | done | rfl | (exfalso; omega) | contradiction | (refine iteR (fun hq => ?_) (fun hq => ?_)))))
    · rw [if_neg hc] at z2
      have hc2 : ¬ (k : Int) = c := by omega
      (try simp -implicitDefEqProofs (maxSteps := 4000000) (disch := omega) only [getDT, go_sem, *]); (try simp only [pA, pB, pC, pD, pE, pF, pG, pH, pI, pJ, pK, pL, pM, pN, pO, pP, if_true, if_false]); repeat' (first | done | rfl | (refine iteC (fun hq => ?_) (fun hq => ?_) <;> (try (first | (exfalso; omega) | contradiction)) <;> (try simp -implicitDefEqProofs (maxSteps := 4000000) (disch := omega) only [getDT, go_sem, *]) <;> (try simp only [pA, pB, pC, pD, pE, pF, pG, pH, pI, pJ, pK, pL, pM, pN, pO, pP, if_true, if_false]))); (all_goals try rfl); (all_goals try (repeat' (first | done | rfl | (exfalso; omega) | contradiction | (refine iteR (fun hq => ?_) (fun hq => ?_)))))
  · have : k = n := by omega
    subst this
    clear ih hz h5 hf hB
    (try simp -implicitDefEqProofs (maxSteps := 4000000) (disch := omega) only [getDT, go_sem, *]); (try simp only [pA, pB, pC, pD, pE, pF, pG, pH, pI, pJ, pK, pL, pM, pN, pO, pP, if_true, if_false]); repeat' (first | done | rfl | (refine iteC (fun hq => ?_) (fun hq => ?_) <;> (try (first | (exfalso; omega) | contradiction)) <;> (try simp -implicitDefEqProofs (maxSteps := 4000000) (disch := omega) only [getDT, go_sem, *]) <;> (try simp only [pA, pB, pC, pD, pE, pF, pG, pH, pI, pJ, pK, pL, pM, pN, pO, pP, if_true, if_false]))); (all_goals try rfl); (all_goals try (repeat' (first | done | rfl | (exfalso; omega) | contradiction | (refine iteR (fun hq => ?_) (fun hq => ?_)))))
theorem setOwner_stripes (a : Arena) (c k : Int) : (setOwner a c k).stripes = a.stripes := by unfold setOwner; split <;> rfl
theorem arenaCells_law (l : List Int) (hL : l.length ≤ LIM) : callL G N_law12_ArenaCells [.d (.sl (ints l))] [] = some (.d (.bool true), []) := by
  obtain ⟨t, ht, hnew⟩ := new_ok2 l hL
  obtain ⟨s, a1, hs, hs1⟩ := setup_ok0 t ht
  have ha := arenaNew_ok s
  have hst : (arenaN s).stripes = List.replicate (arenaN s).slots.length ⟨0, s.epoch, 0, 0⟩ := by simp [arenaN, slotsN, stripesN]
  obtain ⟨he, hf, hn1, hn4, ho⟩ := arenaN_of hs
  rw [he] at ha
  generalize arenaN s = ar at *
  have n1 := n_ok t a1 ar.slots.length ht (by omega) (by omega)
  have n2 := range_ok t (rawD t a1).2 1 5 ht (by omega) (by omega) (by omega) (by omega)
  have n3 := range_ok t (rawD t (rawD t a1).2).2 6 9 ht (by omega) (by omega) (by omega) (by omega)
  have b1 := nD_in t a1 (n := ar.slots.length) (by omega)
  have b2 := nD_in t (rawD t a1).2 (n := 5 - 1 + 1) (by omega)
  have b3 := nD_in t (rawD t (rawD t a1).2).2 (n := 9 - 6 + 1) (by omega)
  obtain ⟨c, hc⟩ : ∃ c : Nat, nD t a1 ar.slots.length = c := ⟨(nD t a1 ar.slots.length).toNat, by omega⟩
  obtain ⟨m, hm⟩ : ∃ m, 1 + nD t (rawD t a1).2 (5 - 1 + 1) = m := ⟨_, rfl⟩
  obtain ⟨o, hoo⟩ : ∃ o, 6 + nD t (rawD t (rawD t a1).2).2 (9 - 6 + 1) = o := ⟨_, rfl⟩
  rw [hc] at n1 b1
  rw [hm] at n2
  rw [hoo] at n3
  have hm1 : 1 ≤ m ∧ m ≤ 5 := by omega
  have ho1 : 6 ≤ o ∧ o ≤ 9 := by omega
  clear b2 b3 hc hm hoo hs he
  have tk : ∀ k : Int, 1 ≤ k → k ≤ 9 → taskB k = true := fun k h1 h2 => by unfold taskB inB; simp; omega
  obtain ⟨n, hn⟩ : ∃ n, ar.slots.length = n := ⟨_, rfl⟩
  -- the lock
  have hoc := ho c (by omega) (by omega)
  have t1 := atry_ok ar c m (by omega)
  have q1 : aTry ar c m = (setOwner ar c m, true, 0) := by
    unfold aTry
    rw [if_neg (by rw [tk m (by omega) (by omega)]; simp; omega), if_pos hoc]
  rw [q1] at t1
  obtain ⟨A, hA⟩ : ∃ A, A = setOwner ar c m := ⟨_, rfl⟩
  have hAl : A.slots.length = n := by rw [hA, setOwner_len, hn]
  have hAs : A.stripes = List.replicate n ⟨0, s.epoch, 0, 0⟩ := by rw [hA, setOwner_stripes, hst, hn]
  have hAf : FitA A := by rw [hA]; exact fitA_set hf c m
  have hAo : owners A c = m := by rw [hA, owners_set ar c m c (by omega) (by omega) (by omega) (by omega), if_pos rfl]
  have hAo2 : (A.slots.getD c zSlot).owner = m := by
    unfold owners at hAo
    rw [if_neg (by omega)] at hAo
    simpa using hAo
  rw [← hA] at t1
  have hsl : slotB A c = true := by unfold slotB; simp; omega
  have hm13 : mineE A c o = 13 := by
    unfold mineE
    rw [if_neg (by rw [hsl, tk o (by omega) (by omega)]; simp), Int.toNat_natCast, hAo2, if_neg (by omega)]
  have hm0 : mineE A c m = 0 := by
    unfold mineE
    rw [if_neg (by rw [hsl, tk m (by omega) (by omega)]; simp), Int.toNat_natCast, hAo2, if_pos rfl]
  have t2 := loadSlot_ok A c (by omega)
  unfold loadSlot at t2
  rw [if_pos hsl] at t2
  have t3 := fun x => storeSlot_bad A c o x (by omega) (by rw [hm13]; decide)
  rw [hm13] at t3
  have hAsl : A.stripes.length = n := by rw [hAs]; simp
  have t4 := storeStripe_ok A c o ⟨0, 0, 0, 0⟩ (by omega) (by omega)
  unfold storeStripe at t4
  rw [if_neg (by rw [hm13]; decide), hm13] at t4
  have t5 := aunlock_ok A c o (by omega)
  have q5 : aUnlock A c o = (zArena, 13) := by
    unfold aUnlock
    rw [if_neg (by rw [tk o (by omega) (by omega)]; simp; omega), hAo, if_neg (by omega)]
  rw [q5] at t5
  have t6 := storeStripe_ok A c m ⟨5, 0, 0, 0⟩ (by omega) (by omega)
  unfold storeStripe at t6
  rw [if_pos hm0, if_pos ⟨by rfl, by omega⟩] at t6
  obtain ⟨B, hB⟩ : ∃ B, B = setStripe A c ⟨5, 0, 0, 0⟩ := ⟨_, rfl⟩
  rw [← hB] at t6
  have hBs : B.slots = A.slots := by rw [hB]; rfl
  have hBd : B.dead = A.dead := by rw [hB]; rfl
  have hBl : B.stripes.length = n := by rw [hB]; simp [setStripe, hAsl]
  have hlp := cells_loop A B n c m o (by omega) hAl hBs hAsl hBl hAf (fun k h => by simp [hAs]) (fun k h => by
    have hk : k < n := by omega
    simp only [hB, setStripe, Int.toNat_natCast, List.getElem_set, hAs, List.getElem_replicate]
    by_cases e : c = k
    · rw [if_pos e, if_pos e.symm]
    · rw [if_neg e, if_neg (fun q => e q.symm)]) 0 (by omega)
  have hBo : owners B c = m := by unfold owners at hAo ⊢; rw [hBs, hBd]; exact hAo
  have t7 := aunlock_ok B c m (by rw [hBs]; omega)
  have q7 : aUnlock B c m = (setOwner B c 0, 0) := by
    unfold aUnlock
    rw [if_neg (by rw [tk m (by omega) (by omega), hBs]; simp; omega), if_pos hBo]
  rw [q7] at t7
  obtain ⟨C, hC⟩ : ∃ C, C = setOwner B c 0 := ⟨_, rfl⟩
  rw [← hC] at t7
  have hCl : C.slots.length = n := by rw [hC, setOwner_len, hBs, hAl]
  have hCo : owners C c = 0 := by rw [hC, owners_set B c 0 c (by omega) (by rw [hBs]; omega) (by omega) (by rw [hBs]; omega), if_pos rfl]
  have t8 := atry_ok C c o (by omega)
  have q8 : aTry C c o = (setOwner C c o, true, 0) := by
    unfold aTry
    rw [if_neg (by rw [tk o (by omega) (by omega)]; simp; omega), if_pos hCo]
  rw [q8] at t8
  have hw := awake12_ok
  have hBl2 : B.slots.length = n := by rw [hBs, hAl]
  clear q1 q5 q7 q8 hA hB hC hst ho hf hAs hAf hAo hAo2 hsl hm13 hm0 hBs hBd hBo hCo tk hoc
  rw [hn] at n1 b1 hn1 hn4
  simp only [eStripe] at t4 t6
  simp only [Int.natCast_add, Int.natCast_one, Int.natCast_zero, Int.natCast_mul, Int.cast_ofNat_Int, List.length_append, List.length_map, List.map_nil, List.length_nil, List.map_append, List.map_cons, List.length_cons, Nat.zero_add, srcO, mapSet] at hlp
  rw [callL_code g_law12_ArenaCells (by simp)]; simp -implicitDefEqProofs (maxSteps := 4000000) (disch := omega) only [c_law12_ArenaCells, r_law12_ArenaCells, getDT, go_sem, *]; (try simp only [pA, pB, pC, pD, pE, pF, pG, pH, pI, pJ, pK, pL, pM, pN, pO, pP, if_true, if_false]); repeat' (first | done | rfl | (refine iteC (fun hq => ?_) (fun hq => ?_) <;> (try (first | (exfalso; omega) | contradiction)) <;> (try simp -implicitDefEqProofs (maxSteps := 4000000) (disch := omega) only [getDT, go_sem, *]) <;> (try simp only [pA, pB, pC, pD, pE, pF, pG, pH, pI, pJ, pK, pL, pM, pN, pO, pP, if_true, if_false]))); (all_goals try rfl); (all_goals try (repeat' (first | done | rfl | (exfalso; omega) | contradiction | (refine iteR (fun hq => ?_) (fun hq => ?_)))))
end Go.Proofs.Ytkdjbfjohbiemaa

namespace Go.Sim
open Go.ChangeShapes Go.WideShapes Go.RowKit
variable {P : Program} {G : FuncId → Option AFn}
theorem data_calls (hG : GOK P G) {f : FuncId} {ds : List D} {r : D} (h : callL G f (ds.map .d) [] = some (.d r, [])) {w : World} {us : List Value} (hl : us.length = ds.length)
    (hv : ∀ (i : Nat) (x : D) (u : Value), ds[i]? = some x → us[i]? = some u → Rd w (fun b => b < w.heap.size) (.v x u)) :
    Calls P f us.toArray w fun e w' => ∃ u, e = .returned u ∧ Below w.heap.size w w' ∧ ∃ R', Rd w' R' (.v r u) := by
  have h1 := (callL_ok hG f (ds.map .d) [] (.d r) [] h (by simp) (by simp)).2.1
  refine (h1 w (fun b => b < w.heap.size) (fun _ => none) us (fun b hb => hb) (by simp) (by simp) (by simp) ⟨by simpa using hl, fun i x u hx hu => ?_⟩).mono fun e w' h => ?_
  · rw [List.getElem?_map] at hx
    obtain ⟨d, hd, rfl⟩ := Option.map_eq_some_iff.1 hx
    exact .d (hv i d u hd hu)
  · obtain ⟨u, ι', R', h1, h2, h3, h4, h5, _, h6, _, _, _, _, _, _, h7⟩ := h
    refine ⟨u, h1, ⟨h2, h3, h4, h5, fun k hk => h6 k hk (by simp)⟩, R', ?_⟩
    cases h7 with
    | d h7 => exact h7
section
variable {H : Type} {enc : TypeId × Value → H}
theorem trodAll_below (hl : laidOutB P = true) {W W' : World} (hb : Below W.heap.size W W') : ∀ {ts : List TypeId} {vs : List Value} {ds : List (DataW H)} {ps : List MemPlace},
    (∀ t ∈ ts, P.readableRec t = true ∧ t < P.types.size) → DataW.TrodAll enc P W 0 (fun _ => true) true ts vs ds ps → (∀ x ∈ ps, x.block < W.heap.size) → DataW.TrodAll enc P W' 0 (fun b => decide (b < W.heap.size)) true ts vs ds ps
  | [], [], [], _, _, h, _ => h
  | _ :: _, _ :: _, _ :: _, _, ht, ⟨p, q, h1, h2, e⟩, hlt =>
    ⟨p, q, Below.trod hl (ht _ (.head _)).1 (ht _ (.head _)).2 h1 hb (fun x hx => hlt x (by rw [e]; exact List.mem_append_left _ hx)),
      trodAll_below hl hb (fun t h => ht t (.tail _ h)) h2 (fun x hx => hlt x (by rw [e]; exact List.mem_append_right _ hx)), e⟩
theorem post_true {f : Func} {s : ChangeSpec} {W W' : World} {args : Array Value} {ds gs : List (DataW H)} {before : List MemPlace} {tb : TypeId} (hres : f.resultTypes = #[tb]) (htb : P.underlying tb = some .bool) (hl : laidOutB P = true)
    (ht : ∀ t ∈ f.params.toList, P.readableRec t = true ∧ t < P.types.size) (hW : DataW.Whole enc P f.params.toList s.vars false W args.toList ds gs before) (hv : s.vars = [])
    (hs : s.fn H (ds ++ gs) = { results := [.lit (.bool true)], args := ds }) (hb : Below W.heap.size W W') : s.post enc P f false true false false W args (.bool true) W' := by
  have hlt : ∀ x ∈ before, x.block < W.heap.size := fun x hx => by simpa using hW.lt x hx
  obtain ⟨p, q, hA, hV, e, hfz, hnd⟩ := hW
  have hV0 := hV
  rw [hv] at hV0
  obtain ⟨rfl, rfl⟩ := trodVars_none hV0
  refine ⟨ds, [], before, [], p, [], ⟨p, [], hA, hV, e, hfz, hnd⟩, ?_, ?_, ?_, hb.frame _, fun h => by cases h⟩
  · rw [hs, hres]
    exact trodAll_mk1 (shut_bool htb _)
  · rw [hs]
    exact trodAll_below hl hb ht hA (fun x hx => hlt x (by rw [e]; exact List.mem_append_left _ hx))
  · rw [hs, hv]; rfl
end
theorem wf_has {k : IntKind} {n : Int} (h : (Lit.int k n).wf = true) : k.has n := by
  simp only [Lit.wf, Bool.and_eq_true, decide_eq_true_eq] at h
  simp [IntKind.has, h]
theorem rd_ints {W : World} {k : IntKind} {a : Addr} {len cap : Nat} {zs : List Int} (hl : len ≤ cap) (hlen : len ≤ zs.length) (hL : len ≤ LIM) (hc : ∀ i, i < zs.length → W.cell? (a.add i) = some (.int k (zs.getD i 0))) (hw : ∀ n ∈ zs, (Lit.int k n).wf = true) :
    Rd W (fun b => b < W.heap.size) (.v (.sl ((zs.take len).map (.int k))) (.slice (some a) len cap)) := by
  by_cases h0 : len = 0
  · subst h0; exact .sl0
  · have hsp : a.spot = none := by
      have := World.cell?_spot (hc 0 (by omega))
      unfold Addr.add at this
      split at this <;> simp_all
    obtain ⟨b, off, sp⟩ := a
    simp only at hsp
    subst hsp
    have hcell : ∀ i, i < zs.length → W.cell? ⟨b, off + i, none⟩ = some (.int k (zs.getD i 0)) := fun i hi => by
      have := hc i hi
      unfold Addr.add at this
      split at this
      · rename_i h; subst h; exact this
      · exact this
    have hlen2 : ((zs.take len).map (D.int k)).length = len := by simp; omega
    have := Rd.sl (w := W) (R := fun b => b < W.heap.size) (es := (zs.take len).map (D.int k)) (b := b) (off := off) (s := 1) (cap := cap) (World.block_lt_of_cell? W _ (hcell 0 (by omega)))
      (by intro h; rw [h] at hlen2; simp at hlen2; omega) (by omega) (by omega) (by omega) (fun e he => by obtain ⟨n, _, rfl⟩ := List.mem_map.1 he; rfl) (fun i e hi => by
        rw [List.getElem?_map] at hi
        obtain ⟨n, hn, rfl⟩ := Option.map_eq_some_iff.1 hi
        rw [List.getElem?_take] at hn
        split at hn
        · rename_i hi2
          have hn2 : zs.getD i 0 = n := by simp [hn]
          refine .elc rfl ?_ (.int (wf_has (hw n (List.mem_of_getElem? hn))))
          rw [Nat.mul_one, hcell i (by omega), hn2]
        · cases hn)
    rw [hlen2] at this
    exact this
end Go.Sim

namespace Go.Sim
open Go.ChangeShapes Go.WideShapes Go.RowKit
variable {P : Program}
inductive Sh where
  | int (k : IntKind)
  | bool
  | str
  | sl (s : Sh)
  | agg (fs : List Sh)
  deriving Inhabited
mutual
def Sh.size : Sh → Nat
  | .agg fs => Sh.sizeL fs
  | _ => 1
def Sh.sizeL : List Sh → Nat
  | [] => 0
  | s :: l => s.size + Sh.sizeL l
end
def BIG : Nat := 1048576
mutual
def Sh.has : Sh → D → Prop
  | .int k, .int k' n => k' = k ∧ k.has n
  | .bool, .bool _ => True
  | .str, .str s => s.length ≤ BIG
  | .sl s, .sl es => es.length ≤ BIG ∧ ∀ e ∈ es, Sh.has s e
  | .agg fs, .agg cs => Sh.hasL fs cs
  | _, _ => False
def Sh.hasL : List Sh → List D → Prop
  | [], cs => cs = []
  | s :: l, cs => ∃ x r, Sh.has s x ∧ cs = x.cells ++ r ∧ Sh.hasL l r
end
def tyFs (P : Program) (F : TypeId → Option Sh) : Nat → List Field → Option (List Sh)
  | _, [] => some []
  | off, f :: fs =>
    match F f.type with
    | some s => if f.offset = off ∧ P.cellsOf f.type = s.size then (tyFs P F (off + s.size) fs).map (s :: ·) else none
    | none => none
def tySh (P : Program) : Nat → TypeId → Option Sh
  | 0, _ => none
  | n + 1, t =>
    match P.underlying t with
    | some .bool => some .bool
    | some (.int k) => some (.int k)
    | some .string => some .str
    | some (.slice e) => match tySh P n e with | some s => if P.cellsOf e = s.size ∧ 0 < s.size then some (.sl s) else none | none => none
    | some (.struct fs) => match tyFs P (tySh P n) 0 fs.toList with | some l => if P.cellsOf t = Sh.sizeL l then some (.agg l) else none | none => none
    | _ => none
structure Bulk {H : Type} (B : DataW H → Nat) (Bs : List (DataW H) → Nat) : Prop where
  sl : ∀ es sp, B (.slice es sp) = Bs es + Bs sp + 1
  agg : ∀ ps, B (.agg ps) = Bs ps + 1
  str : ∀ s, B (.lit (.string s)) = s.length + 1
  nil : Bs [] = 0
  cons : ∀ d r, Bs (d :: r) = B d + Bs r
  pos : ∀ d, 1 ≤ B d
theorem Bulk.len {H : Type} {B : DataW H → Nat} {Bs : List (DataW H) → Nat} (b : Bulk B Bs) : ∀ l : List (DataW H), l.length ≤ Bs l := by
  intro l
  induction l with
  | nil => simp
  | cons d r ih => rw [b.cons, List.length_cons]; have := b.pos d; omega
theorem Bulk.mem {H : Type} {B : DataW H → Nat} {Bs : List (DataW H) → Nat} (b : Bulk B Bs) {d : DataW H} : ∀ {l : List (DataW H)}, d ∈ l → B d ≤ Bs l := by
  intro l
  induction l with
  | nil => intro h; cases h
  | cons e r ih =>
    intro h
    rw [b.cons]
    cases h with
    | head => omega
    | tail _ h => have := ih h; omega
theorem choose_list {n : Nat} {Q : Nat → D → Prop} (h : ∀ i, i < n → ∃ x, Q i x) : ∃ es : List D, es.length = n ∧ ∀ i e, es[i]? = some e → Q i e := by
  induction n with
  | zero => exact ⟨[], rfl, fun i e he => by simp at he⟩
  | succ n ih =>
    obtain ⟨es, hl, hq⟩ := ih fun i hi => h i (by omega)
    obtain ⟨x, hx⟩ := h n (by omega)
    refine ⟨es ++ [x], by simp [hl], fun i e he => ?_⟩
    by_cases hi : i < es.length
    · rw [List.getElem?_append_left hi] at he; exact hq i e he
    · rw [List.getElem?_append_right (by omega)] at he
      by_cases hi2 : i - es.length = 0
      · rw [hi2] at he
        simp at he
        subst he
        rw [show i = n by omega]
        exact hx
      · rw [List.getElem?_eq_none (by simp; omega)] at he; cases he
theorem Sh.has_notup {s : Sh} {x : D} (h : Sh.has s x) : ∀ vs, x ≠ .tup vs := by
  intro vs e
  subst e
  cases s <;> simp [Sh.has] at h
variable {H : Type} {enc : TypeId × Value → H} {w : World} {spare : Nat → Bool} {held : Bool} {B : DataW H → Nat} {Bs : List (DataW H) → Nat}
def CellsRd (w : World) (r : List D) (cs : List Value) : Prop := r.length = cs.length ∧ ∀ (i : Nat) (c : D) (u : Value), r[i]? = some c → cs[i]? = some u → c.cell = true ∧ Rd w (fun b => b < w.heap.size) (.v c u)
theorem fields_rd (hB : Bulk B Bs) {F : TypeId → Option Sh} {n : Nat} {cs : List Value}
    (ih : ∀ t cs d ps sh, DataW.trod enc P w 0 spare held n t cs = some (d, ps) → F t = some sh → B d ≤ BIG → ∃ x, Sh.has sh x ∧ x.size = sh.size ∧ CellsRd w x.cells cs) :
    ∀ (fs : List Field) (off : Nat) (shs : List Sh) (xs : List (DataW H × List MemPlace)), tyFs P F off fs = some shs → xs.length = fs.length → Bs (xs.map (·.1)) ≤ BIG →
      (∀ (i : Nat) (f : Field), fs[i]? = some f → DataW.trod enc P w 0 spare held n f.type ((cs.drop f.offset).take (P.cellsOf f.type)) = xs[i]?) → off + Sh.sizeL shs ≤ cs.length →
      ∃ r : List D, Sh.hasL shs r ∧ r.length = Sh.sizeL shs ∧ ∀ (j : Nat) (c : D) (u : Value), r[j]? = some c → cs[off + j]? = some u → c.cell = true ∧ Rd w (fun b => b < w.heap.size) (.v c u) := by
  intro fs
  induction fs with
  | nil =>
    intro off shs xs h1 _ _ _ _
    simp only [tyFs, Option.some.injEq] at h1
    subst h1
    exact ⟨[], rfl, rfl, fun j c u h => by simp at h⟩
  | cons f fs ihf =>
    intro off shs xs h1 h2 h3 h4 h5
    simp only [tyFs] at h1
    split at h1
    · rename_i s hs
      split at h1
      · rename_i hc
        obtain ⟨shs', h6, rfl⟩ := Option.map_eq_some_iff.1 h1
        cases xs with
        | nil => simp at h2
        | cons y ys =>
          obtain ⟨d, ps⟩ := y
          simp only [List.map_cons, hB.cons] at h3
          simp only [Sh.sizeL] at h5
          have hf := h4 0 f rfl
          simp only [List.getElem?_cons_zero] at hf
          obtain ⟨x, hx1, hx2, hx3, hx4⟩ := ih f.type _ d ps s hf hs (by omega)
          obtain ⟨r, hr1, hr2, hr3⟩ := ihf (off + s.size) shs' ys h6 (by simpa using h2) (by omega) (fun i g hg => by simpa using h4 (i + 1) g (by simpa using hg)) (by omega)
          have hxl : x.cells.length = s.size := hx2
          refine ⟨x.cells ++ r, ⟨x, r, hx1, rfl, hr1⟩, by rw [List.length_append, hr2, hxl]; rfl, fun j c u hj hu => ?_⟩
          by_cases hlt : j < s.size
          · rw [List.getElem?_append_left (by omega)] at hj
            refine hx4 j c u hj ?_
            rw [hc.1, hc.2, List.getElem?_take, if_pos hlt, List.getElem?_drop]
            exact hu
          · rw [List.getElem?_append_right (by omega), hxl] at hj
            exact hr3 (j - s.size) c u hj (by rw [show off + s.size + (j - s.size) = off + j by omega]; exact hu)
      · cases h1
    · cases h1
theorem open_any (hB : Bulk B Bs) : ∀ (n : Nat) (m : Nat) (t : TypeId) (cs : List Value) (d : DataW H) (ps : List MemPlace) (sh : Sh), DataW.trod enc P w 0 spare held n t cs = some (d, ps) → tySh P m t = some sh → B d ≤ BIG →
    ∃ x, Sh.has sh x ∧ x.size = sh.size ∧ CellsRd w x.cells cs := by
  intro n
  induction n using Nat.strongRecOn with
  | ind n ih =>
    intro m t cs d ps sh h hsh hb
    cases m with
    | zero => cases hsh
    | succ m =>
      simp only [tySh] at hsh
      split at hsh
      · rename_i ht
        cases hsh
        obtain ⟨b, rfl, hx⟩ := DataW.trod_bool ht h
        exact ⟨.bool b, trivial, rfl, rfl, fun i c u hc hu => by
          cases i with
          | zero => simp [D.cells] at hc hu; subst hc; subst hu; exact ⟨rfl, .bool⟩
          | succ i => simp [D.cells] at hc⟩
      · rename_i k ht
        cases hsh
        obtain ⟨z, rfl, hx, hw⟩ := DataW.trod_int ht h
        exact ⟨.int k z, ⟨rfl, wf_has hw⟩, rfl, rfl, fun i c u hc hu => by
          cases i with
          | zero => simp [D.cells] at hc hu; subst hc; subst hu; exact ⟨rfl, .int (wf_has hw)⟩
          | succ i => simp [D.cells] at hc⟩
      · rename_i ht
        cases hsh
        obtain ⟨s, rfl, hx, _⟩ := DataW.trod_string ht h
        simp only [Prod.mk.injEq] at hx
        obtain ⟨rfl, -⟩ := hx
        rw [hB.str] at hb
        have hs : s.data.toList.length ≤ BIG := by omega
        refine ⟨.str s.data.toList, hs, rfl, rfl, fun i c u hc hu => ?_⟩
        cases i with
        | zero =>
          simp [D.cells] at hc hu; subst hc; subst hu
          have := Rd.str (w := w) (R := fun b => b < w.heap.size) (s := s.data.toList) (Nat.le_trans hs (by simp [BIG, LIM]))
          simp only [Array.toArray_toList] at this
          exact ⟨rfl, this⟩
        | succ i => simp [D.cells] at hc
      · rename_i e ht
        split at hsh
        · rename_i s hse
          split at hsh
          · rename_i hc
            cases hsh
            rcases DataW.trod_slice ht h with ⟨rfl, hx⟩ | ⟨a, len, cap, elems, rest, n', rfl, rfl, hx, hbase, hl, hm, hlen, hel, hsp, hns⟩
            · exact ⟨.sl [], ⟨by simp, by simp⟩, rfl, rfl, fun i c u hc hu => by
                cases i with
                | zero => simp [D.cells] at hc hu; subst hc; subst hu; exact ⟨rfl, .sl0⟩
                | succ i => simp [D.cells] at hc⟩
            · simp only [Prod.mk.injEq] at hx
              obtain ⟨rfl, -⟩ := hx
              rw [hB.sl] at hb
              have hlb := hB.len (elems.map (·.1))
              rw [List.length_map, hlen] at hlb
              have each : ∀ i, i < len → ∃ x, Sh.has s x ∧ x.size = s.size ∧ ∃ cs', w.cells? 0 (a.add (i * P.cellsOf e)) (P.cellsOf e) = some cs' ∧ CellsRd w x.cells cs' := by
                intro i hi
                have h1 := hel i hi
                rw [List.getElem?_eq_getElem (by omega)] at h1
                obtain ⟨cs', h2, h3⟩ := Option.bind_eq_some_iff.1 h1
                obtain ⟨x, hx1, hx2, hx3⟩ := ih n' (by omega) m e cs' (elems[i]'(by omega)).1 (elems[i]'(by omega)).2 s h3 hse (by
                  have := hB.mem (d := (elems[i]'(by omega)).1) (l := elems.map (·.1)) (List.mem_map_of_mem (List.getElem_mem _)); omega)
                exact ⟨x, hx1, hx2, cs', h2, hx3⟩
              obtain ⟨es, hes1, hes2⟩ := choose_list each
              have hall : ∀ x ∈ es, Sh.has s x ∧ x.size = s.size := fun x hx => by
                obtain ⟨i, hi⟩ := List.getElem?_of_mem hx
                exact ⟨(hes2 i x hi).1, (hes2 i x hi).2.1⟩
              refine ⟨.sl es, ⟨by omega, fun x hx => (hall x hx).1⟩, rfl, rfl, fun i c u hcc hu => ?_⟩
              cases i with
              | succ i => simp [D.cells] at hcc
              | zero =>
                simp [D.cells] at hcc hu; subst hcc; subst hu
                refine ⟨rfl, ?_⟩
                subst hes1
                by_cases h0 : es = []
                · subst h0; exact .sl0
                · have hpos := List.length_pos_iff.2 h0
                  have hce : P.cellsOf e = s.size := hc.1
                  obtain ⟨_, _, cs0, hcs0, _⟩ := hes2 0 es[0] (List.getElem?_eq_getElem hpos)
                  have hc0 := (World.cells?_some hcs0).2.2 0 (by omega)
                  have hl0 := (World.cells?_some hcs0).2.1
                  rw [List.getElem?_eq_getElem (by omega)] at hc0
                  obtain ⟨b, off, spot⟩ := a
                  have hspot : spot = none := by
                    have := World.cell?_spot hc0
                    unfold Addr.add at this
                    revert this
                    split <;> (try split) <;> simp_all
                  subst hspot
                  have hlt : b < w.heap.size := World.block_lt_of_cell? w _ (by simpa [add_plain] using hc0)
                  refine .sl (s := s.size) hlt h0 hc.2 (by simp only [LIM, BIG] at *; omega) hl (fun x hx => (hall x hx).2) fun i x hx => ?_
                  obtain ⟨hx1, hx2, cs', hcs', hx3, hx4⟩ := hes2 i x hx
                  obtain ⟨_, hl', hcell'⟩ := World.cells?_some hcs'
                  refine Rd.el_of_cells (Sh.has_notup hx1) fun j c hj => ?_
                  have hjl : j < s.size := by
                    have h1 := (List.getElem?_eq_some_iff.1 hj).1
                    have h2 : x.cells.length = s.size := hx2
                    omega
                  have hu : cs'[j]? = some (cs'[j]'(by omega)) := List.getElem?_eq_getElem (by omega)
                  obtain ⟨k1, k2⟩ := hx4 j c _ hj hu
                  refine ⟨k1, _, ?_, k2⟩
                  have := hcell' j (by omega)
                  rw [add_plain, add_plain, hu, hce] at this
                  exact this
          · cases hsh
        · cases hsh
      · rename_i fs ht
        split at hsh
        · rename_i l hl
          split at hsh
          · rename_i hc
            cases hsh
            obtain ⟨xs, n', rfl, hx, hcl, hxl, hf⟩ := DataW.trod_struct ht h
            simp only [Prod.mk.injEq] at hx
            obtain ⟨rfl, -⟩ := hx
            rw [hB.agg] at hb
            obtain ⟨r, hr1, hr2, hr3⟩ := fields_rd (cs := cs) hB (fun t cs d ps sh h1 h2 h3 => ih n' (by omega) m t cs d ps sh h1 h2 h3) fs.toList 0 l xs hl (by simpa using hxl) (by omega) (fun i f hi => hf i f (by simpa using hi)) (by omega)
            exact ⟨.agg r, hr1, hr2, by rw [show D.cells (.agg r) = r from rfl]; omega, fun i c u hc hu => hr3 i c u hc (by simpa using hu)⟩
          · cases hsh
        · cases hsh
      · cases hsh
theorem open_arg (hB : Bulk B Bs) {m : Nat} {base : Nat} {t : TypeId} {v : Value} {d : DataW H} {ps : List MemPlace} {sh : Sh} (h : DataW.Trod enc P w 0 spare held t v d ps) (hsh : tySh P m t = some sh) (hb : B d ≤ BIG)
    (hv : Value.okWide P w .any base t v) : ∃ x, Sh.has sh x ∧ Rd w (fun b => b < w.heap.size) (.v x v) := by
  obtain ⟨fuel, hf⟩ := h
  obtain ⟨x, h1, h2, h3, h4⟩ := open_any hB fuel m t _ d ps sh hf hsh hb
  refine ⟨x, h1, ?_⟩
  cases m with
  | zero => cases hsh
  | succ m =>
    have one : ∀ u : Value, v = u → u.cells.toList = [u] → x.cell = true → Rd w (fun b => b < w.heap.size) (.v x v) := by
      intro u e1 e2 e3
      subst e1
      exact (h4 0 x v (by rw [D.cells_cell e3]; rfl) (by rw [e2]; rfl)).2
    simp only [tySh] at hsh
    split at hsh
    · rename_i ht
      cases hsh
      obtain ⟨b, hv⟩ := okWide_bool ht hv
      cases x <;> simp [Sh.has] at h1
      exact one _ hv rfl rfl
    · rename_i k ht
      cases hsh
      obtain ⟨b, hv⟩ := okWide_int ht hv
      cases x <;> simp [Sh.has] at h1
      exact one _ hv rfl rfl
    · rename_i ht
      cases hsh
      obtain ⟨b, hv⟩ := okWide_string ht hv
      cases x <;> simp [Sh.has] at h1
      exact one _ hv rfl rfl
    · rename_i e ht
      obtain ⟨a, len, cap, hv⟩ := okWide_slice ht hv
      split at hsh
      · split at hsh
        · cases hsh
          cases x <;> simp [Sh.has] at h1
          exact one _ hv rfl rfl
        · cases hsh
      · cases hsh
    · rename_i fs ht
      obtain ⟨cs, rfl, _⟩ := okWide_struct ht hv
      split at hsh
      · split at hsh
        · cases hsh
          cases x <;> simp [Sh.has] at h1
          rename_i cells
          have := Rd.agg (w := w) (R := fun b => b < w.heap.size) (cs := cells) (vs := cs.toList) (by simpa [D.cells, Value.cells] using h3.symm) (fun c hc => by
            obtain ⟨i, hi⟩ := List.getElem?_of_mem hc
            have hlt := (List.getElem?_eq_some_iff.1 hi).1
            have hlen : cells.length = cs.toList.length := by simpa [D.cells, Value.cells] using h3
            exact (h4 i c (cs.toList[i]'(by omega)) hi (by simp [Value.cells])).1) (fun i c u hc hu => (h4 i c u hc (by simpa [Value.cells] using hu)).2)
          simpa using this
        · cases hsh
      · cases hsh
    · cases hsh
end Go.Sim

namespace Go.Proofs.Ytkdjbfjohbiemaa
open Go Go.Sim
set_option linter.unusedSimpArgs false
set_option linter.unusedVariables false
set_option maxHeartbeats 10000000
theorem ex_list {α : Type} {f : α → D} {s : Sh} {x : D} (h : Sh.has (.sl s) x) (hs : ∀ e, Sh.has s e → ∃ a, e = f a) : ∃ l : List α, x = .sl (l.map f) ∧ l.length ≤ BIG := by
  cases x <;> simp only [Sh.has] at h
  rename_i es
  obtain ⟨h1, h2⟩ := h
  have : ∃ l : List α, es = l.map f := by
    clear h1
    induction es with
    | nil => exact ⟨[], rfl⟩
    | cons e es ih =>
      obtain ⟨a, rfl⟩ := hs e (h2 e (by simp))
      obtain ⟨l, rfl⟩ := ih fun e he => h2 e (by simp [he])
      exact ⟨a :: l, rfl⟩
  obtain ⟨l, rfl⟩ := this
  exact ⟨l, rfl, by simpa using h1⟩
theorem ex_int {k : IntKind} {x : D} (h : Sh.has (.int k) x) : ∃ n : Int, x = .int k n ∧ k.has n := by
  cases x <;> simp only [Sh.has] at h
  obtain ⟨rfl, h⟩ := h
  exact ⟨_, rfl, h⟩
theorem ex_ints {x : D} (h : Sh.has (.sl (.int .i64)) x) : ∃ l : List Int, x = .sl (ints l) ∧ l.length ≤ BIG := ex_list h fun e he => by obtain ⟨n, rfl, _⟩ := ex_int he; exact ⟨n, rfl⟩
theorem ex_cells {k : IntKind} {s : List Sh} {cs : List D} (h : Sh.hasL (.int k :: s) cs) : ∃ (n : Int) (r : List D), cs = .int k n :: r ∧ k.has n ∧ Sh.hasL s r := by
  simp only [Sh.hasL] at h
  obtain ⟨x, r, h1, rfl, h2⟩ := h
  obtain ⟨n, rfl, hn⟩ := ex_int h1
  exact ⟨n, r, rfl, hn, h2⟩
theorem ex_setup {x : D} (h : Sh.has (.agg [.int .i64, .int .i64, .int .i64, .int .i64, .int .i64, .int .i64, .int .i64, .int .i64]) x) : ∃ s : Setup, x = eSetup s := by
  cases x <;> simp only [Sh.has] at h
  obtain ⟨a1, r1, rfl, _, h⟩ := ex_cells h
  obtain ⟨a2, r2, rfl, _, h⟩ := ex_cells h
  obtain ⟨a3, r3, rfl, _, h⟩ := ex_cells h
  obtain ⟨a4, r4, rfl, _, h⟩ := ex_cells h
  obtain ⟨a5, r5, rfl, _, h⟩ := ex_cells h
  obtain ⟨a6, r6, rfl, _, h⟩ := ex_cells h
  obtain ⟨a7, r7, rfl, _, h⟩ := ex_cells h
  obtain ⟨a8, r8, rfl, _, h⟩ := ex_cells h
  simp only [Sh.hasL] at h
  subst h
  exact ⟨⟨a1, a2, a3, a4, a5, a6, a7, a8⟩, rfl⟩
end Go.Proofs.Ytkdjbfjohbiemaa
