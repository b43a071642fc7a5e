/-
  The reader at its beginning.
  The laws of lockers: New, Script.
  Equality of rings, tables, shards, stores, directories and arenas.
  Lockers: what their steps keep; the law of scripts.
  Lockers: the law of scripts, whole.
  From the calculus to the given form of a statement: a law that returns true and leaves what it was given as it was.
  What is handed to a law, of any type made of numbers, bools, strings, structs and slices, is data of the calculus.
  Data of a form, as lists and numbers.
-/
import Derived.Test.YtkdjbfjohbiemaaB70941a6
import Derived.Test.YtkdjbfjohbiemaaB1cc8308
import Derived.Carry
import Derived.OpenShut
import Derived.ChangeSlices
import Derived.ChangeArms
import Derived.WideShapes
set_option linter.unusedSimpArgs false
set_option linter.unusedVariables false
namespace Go.Proofs.Ytkdjbfjohbiemaa
open Go Go.Sim
set_option linter.unusedSimpArgs false
set_option linter.unusedVariables false
set_option maxHeartbeats 10000000
set_option maxRecDepth 40000
theorem new_ok2 (l : List Int) (hL : l.length ≤ LIM) : ∃ t : List Int, t.length ≤ 4000 ∧ callL G N_base_New [.d (.sl (ints l))] [] = some (.ref 0 0 0, [(0, .row [.d (.agg [.sl (ints t), .int .i64 0])])]) := ⟨l.take 4000, by simp; omega, new_ok l hL⟩
theorem n_ok0 (l : List Int) (n : Int) (hL : l.length ≤ 4000) (h1 : 1 ≤ n) (h2 : n ≤ 4294967296) : callL G N_base_Src_N [.ref 1000000 0 0, .d (.int .i64 n)] [(1000000, .row [.d (.agg [.sl (ints l), .int .i64 0])])] = some (.d (.int .i64 (nD l 0 n)), [(1000000, srcO l (rawD l 0).2)]) := n_ok l 0 n hL h1 h2
theorem range_ok0 (l : List Int) (lo hi : Int) (hL : l.length ≤ 4000) (h0 : -4294967296 ≤ lo) (h1 : lo ≤ hi) (h2 : hi ≤ 4294967296) (h3 : hi - lo < 4294967296) : callL G N_base_Src_Range [.ref 1000000 0 0, .d (.int .i64 lo), .d (.int .i64 hi)] [(1000000, .row [.d (.agg [.sl (ints l), .int .i64 0])])] = some (.d (.int .i64 (lo + nD l 0 (hi - lo + 1))), [(1000000, srcO l (rawD l 0).2)]) := range_ok l 0 lo hi hL h0 h1 h2 h3
theorem more_ok (l : List Int) (a : Nat) (hL : l.length ≤ 4000) : callL G N_base_Src_More [.d (.pd (.agg [.sl (ints l), .int .i64 a]))] [] = some (.d (.bool (decide ((a : Int) < l.length))), []) := by
  rw [callL_code g_base_Src_More (by simp)]; simp -implicitDefEqProofs (maxSteps := 4000000) (disch := omega) only [c_base_Src_More, r_base_Src_More, getDT, go_sem, *]; (try simp only [pA, pB, pC, pD, pE, pF, pG, pH, pI, pJ, pK, pL, pM, pN, pO, pP, if_true, if_false]); repeat' (first | done | rfl | (refine iteC (fun hq => ?_) (fun hq => ?_) <;> (try (first | (exfalso; omega) | contradiction)) <;> (try simp -implicitDefEqProofs (maxSteps := 4000000) (disch := omega) only [getDT, go_sem, *]) <;> (try simp only [pA, pB, pC, pD, pE, pF, pG, pH, pI, pJ, pK, pL, pM, pN, pO, pP, if_true, if_false]))); (all_goals try rfl); (all_goals try (repeat' (first | done | rfl | (exfalso; omega) | contradiction | (refine iteR (fun hq => ?_) (fun hq => ?_)))))
theorem setup_ok (l : List Int) (a : Nat) (hL : l.length ≤ 4000) : ∃ x a', (1 ≤ x.slots ∧ x.slots ≤ 4 ∧ 1 ≤ x.live ∧ x.live ≤ x.slots ∧ 1 ≤ x.capacity ∧ x.capacity ≤ 5 ∧ 1 ≤ x.dead ∧ x.dead ≤ 4 ∧ 1 ≤ x.limit ∧ x.limit ≤ 3 ∧ 0 ≤ x.clock ∧ x.clock ≤ 1073741824 ∧ 1 ≤ x.nextID ∧ x.nextID ≤ 1073741824 ∧ 0 ≤ x.epoch ∧ x.epoch ≤ 65536) ∧ callL G N_base_Src_Setup [.ref 1000000 0 0] [(1000000, srcO l a)] = some (.d (eSetup x), [(1000000, srcO l a')]) := by
  obtain ⟨a1, q1⟩ : ∃ a1, a1 = (rawD l a).2 := ⟨_, rfl⟩
  obtain ⟨a2, q2⟩ : ∃ a2, a2 = (rawD l a1).2 := ⟨_, rfl⟩
  obtain ⟨a3, q3⟩ : ∃ a3, a3 = (rawD l a2).2 := ⟨_, rfl⟩
  obtain ⟨a4, q4⟩ : ∃ a4, a4 = (rawD l a3).2 := ⟨_, rfl⟩
  obtain ⟨a5, q5⟩ : ∃ a5, a5 = (rawD l a4).2 := ⟨_, rfl⟩
  obtain ⟨a6, q6⟩ : ∃ a6, a6 = (rawD l a5).2 := ⟨_, rfl⟩
  have n1 := nD_in l a (n := 4) (by omega)
  have n2 := nD_in l a1 (n := 5) (by omega)
  have n3 := nD_in l a2 (n := 4) (by omega)
  have n4 := nD_in l a3 (n := 3) (by omega)
  have n5 := nD_in l a4 (n := 1 + nD l a 4 - 1 + 1) (by omega)
  have n6 := nD_in l a5 (n := 12) (by omega)
  have n7 := nD_in l a6 (n := 200) (by omega)
  have n8 := nD_in l a6 (n := 4) (by omega)
  have n9 := nD_in l a6 (n := 3) (by omega)
  by_cases c1 : nD l a5 12 = 9
  · refine ⟨⟨1 + nD l a 4, 1 + nD l a4 (1 + nD l a 4 - 1 + 1), 1 + nD l a1 5, 1 + nD l a2 4, 1 + nD l a3 3, 1073741824 - nD l a6 200, 1, 0⟩, (rawD l a6).2, by simp only; omega, ?_⟩
    simp only [eSetup]
    rw [callL_code g_base_Src_Setup (by simp)]; simp -implicitDefEqProofs (maxSteps := 4000000) (disch := omega) only [c_base_Src_Setup, r_base_Src_Setup, go_sem, n_ok, range_ok, ← q1, ← q2, ← q3, ← q4, ← q5, ← q6, c1]
  by_cases c2 : nD l a5 12 = 10
  · refine ⟨⟨1 + nD l a 4, 1 + nD l a4 (1 + nD l a 4 - 1 + 1), 1 + nD l a1 5, 1 + nD l a2 4, 1 + nD l a3 3, 0, 1073741824 - nD l a6 4, 0⟩, (rawD l a6).2, by simp only; omega, ?_⟩
    simp only [eSetup]
    rw [callL_code g_base_Src_Setup (by simp)]; simp -implicitDefEqProofs (maxSteps := 4000000) (disch := omega) only [c_base_Src_Setup, r_base_Src_Setup, go_sem, n_ok, range_ok, ← q1, ← q2, ← q3, ← q4, ← q5, ← q6, c1, c2]
  by_cases c3 : nD l a5 12 = 11
  · refine ⟨⟨1 + nD l a 4, 1 + nD l a4 (1 + nD l a 4 - 1 + 1), 1 + nD l a1 5, 1 + nD l a2 4, 1 + nD l a3 3, 0, 1, 65536 - nD l a6 3⟩, (rawD l a6).2, by simp only; omega, ?_⟩
    simp only [eSetup]
    rw [callL_code g_base_Src_Setup (by simp)]; simp -implicitDefEqProofs (maxSteps := 4000000) (disch := omega) only [c_base_Src_Setup, r_base_Src_Setup, go_sem, n_ok, range_ok, ← q1, ← q2, ← q3, ← q4, ← q5, ← q6, c1, c2, c3]
  · refine ⟨⟨1 + nD l a 4, 1 + nD l a4 (1 + nD l a 4 - 1 + 1), 1 + nD l a1 5, 1 + nD l a2 4, 1 + nD l a3 3, 0, 1, 0⟩, a6, by simp only; omega, ?_⟩
    simp only [eSetup]
    rw [callL_code g_base_Src_Setup (by simp)]; simp -implicitDefEqProofs (maxSteps := 4000000) (disch := omega) only [c_base_Src_Setup, r_base_Src_Setup, go_sem, n_ok, range_ok, ← q1, ← q2, ← q3, ← q4, ← q5, ← q6, c1, c2, c3]
theorem setup_ok0 (l : List Int) (hL : l.length ≤ 4000) : ∃ x a', (1 ≤ x.slots ∧ x.slots ≤ 4 ∧ 1 ≤ x.live ∧ x.live ≤ x.slots ∧ 1 ≤ x.capacity ∧ x.capacity ≤ 5 ∧ 1 ≤ x.dead ∧ x.dead ≤ 4 ∧ 1 ≤ x.limit ∧ x.limit ≤ 3 ∧ 0 ≤ x.clock ∧ x.clock ≤ 1073741824 ∧ 1 ≤ x.nextID ∧ x.nextID ≤ 1073741824 ∧ 0 ≤ x.epoch ∧ x.epoch ≤ 65536) ∧ callL G N_base_Src_Setup [.ref 1000000 0 0] [(1000000, .row [.d (.agg [.sl (ints l), .int .i64 0])])] = some (.d (eSetup x), [(1000000, srcO l a')]) := setup_ok l 0 hL
end Go.Proofs.Ytkdjbfjohbiemaa

namespace Go.Proofs.Ytkdjbfjohbiemaa
open Go Go.Sim
set_option linter.unusedSimpArgs false
set_option linter.unusedVariables false
set_option maxHeartbeats 10000000
set_option maxRecDepth 40000
def setup3 : Setup := ⟨3, 1, 1, 1, 1, 0, 1, 0⟩
theorem awake13_ok : callL G N_law13_awake [] [] = some (.d (.bool true), []) := by
  obtain ⟨a, b, c, ha, h1, h2, f1, f2, f3, f4, f5⟩ : ∃ a b c : Arena, arenaNew setup3 = (a, 0) ∧ lockStep a ⟨[0, 2], 0, 0, 0, 0⟩ 1 = (b, ⟨[0, 2], 0, 1, 0, 0⟩, 0) ∧ lockStep b ⟨[0, 2], 0, 1, 0, 0⟩ 1 = (c, ⟨[0, 2], 3, 2, 0, 0⟩, 0) ∧ a.slots.length = 3 ∧ b.slots.length = 3 ∧ c.slots.length = 3 ∧ (c.slots.getD 2 zSlot).owner = 1 ∧ (c.slots.getD 1 zSlot).owner = 0 :=
    ⟨(arenaNew setup3).1, _, _, by decide, by rfl, by rfl, by decide, by decide, by decide, by decide, by decide⟩
  have e0 := arenaNew_ok setup3
  rw [ha] at e0
  have e1 := lnew_ok [0, 2] (by decide)
  rw [show lockNew [0, 2] = (⟨[0, 2], 0, 0, 0, 0⟩, 0) by decide] at e1
  have e2 := lstep_ok a ⟨[0, 2], 0, 0, 0, 0⟩ 1 (by omega) (by constructor <;> decide)
  rw [h1] at e2
  have e3 := lstep_ok b ⟨[0, 2], 0, 1, 0, 0⟩ 1 (by omega) (by constructor <;> decide)
  rw [h2] at e3
  have e4 := lfree_ok ⟨[0, 2], 3, 2, 0, 0⟩
  rw [show lockFree ⟨[0, 2], 3, 2, 0, 0⟩ = (⟨[0, 2], 4, 2, 0, 0⟩, 0) by decide] at e4
  rw [getDT (by omega)] at f4 f5
  clear ha h1 h2
  simp only [eSetup, setup3, eLocker, ints, List.map_cons, List.map_nil] at e0 e1 e2 e3 e4
  rw [callL_code g_law13_awake (by simp)]; simp -implicitDefEqProofs (disch := omega) only [c_law13_awake, r_law13_awake, getDT, go_sem, *]; (try simp only [pA, pB, pC, pD, pE, pF, pG, pH, pI, pJ, pK, pL, pM, pN, pO, if_true, if_false]); repeat' (first | done | rfl | (refine iteC (fun hq => ?_) (fun hq => ?_) <;> (try (exfalso; omega)) <;> (try simp -implicitDefEqProofs (disch := omega) only [getDT, go_sem, *]) <;> (try simp only [pA, pB, pC, pD, pE, pF, pG, pH, pI, pJ, pK, pL, pM, pN, pO, if_true, if_false]))); (all_goals try rfl); (all_goals try (repeat' (first | done | rfl | (exfalso; omega) | (refine iteR (fun hq => ?_) (fun hq => ?_)))))
theorem lnl_loop (cells l : List Int) (hL : l.length ≤ 4000) : ∀ p : Nat × Nat × List Int, p.1 ≤ 4 ∧ p.2.2.length + p.1 ≤ 4 → ∃ sm : List Int, sm.length ≤ 4 ∧ loopL G [] l_law13_LockerNew_0 ⟨[(0, .d (.sl (ints cells))), (5, .ref 20 0 0), (6, .acc 6 (ints p.2.2)), (7, .d (.int .i64 p.1))], [(6, .acc p.2.2.length), (20, srcO l p.2.1)]⟩ = some (.exit 0, ⟨[(0, .d (.sl (ints cells))), (6, .acc 6 (ints sm))], [(6, .acc sm.length)]⟩) := by
  refine loop_indP (fun p : Nat × Nat × List Int => p.1) _ (fun p : Nat × Nat × List Int => ⟨[(0, .d (.sl (ints cells))), (5, .ref 20 0 0), (6, .acc 6 (ints p.2.2)), (7, .d (.int .i64 p.1))], [(6, .acc p.2.2.length), (20, srcO l p.2.1)]⟩) (fun p r => ∃ sm : List Int, sm.length ≤ 4 ∧ r = some (.exit 0, ⟨[(0, .d (.sl (ints cells))), (6, .acc 6 (ints sm))], [(6, .acc sm.length)]⟩)) fun ⟨k, a, sm⟩ ⟨hk, hl⟩ L ih => ?_
  simp only at ih hk hl
  have hr := range_ok l a (-1) 7 hL (by omega) (by omega) (by omega) (by omega)
  simp only [l_law13_LockerNew_0]
  by_cases h0 : 0 < k
  · obtain ⟨sm', h1, h2⟩ := ih (k - 1, (rawD l a).2, sm ++ [-1 + nD l a (7 - (-1) + 1)]) ⟨by simp only; omega, by simp only [List.length_append, List.length_singleton]; omega⟩ (by simp only; omega)
    refine ⟨sm', h1, ?_⟩
    simp only [ints] at h2
    rw [show ((k - 1 : Nat) : Int) = (k : Int) - 1 by omega] at h2
    simp only [Int.natCast_add, Int.natCast_one, Int.natCast_zero, Int.natCast_mul, Int.cast_ofNat_Int, List.length_append, List.length_map, List.map_nil, List.length_nil, List.map_append, List.map_cons, List.length_cons, Nat.zero_add, srcO] at h2
    rw [← h2]
    (try simp -implicitDefEqProofs (disch := omega) only [getDT, go_sem, *]); (try simp only [pA, pB, pC, pD, pE, pF, pG, pH, pI, pJ, pK, pL, pM, pN, pO, if_true, if_false]); repeat' (first | done | rfl | (refine iteC (fun hq => ?_) (fun hq => ?_) <;> (try (exfalso; omega)) <;> (try simp -implicitDefEqProofs (disch := omega) only [getDT, go_sem, *]) <;> (try simp only [pA, pB, pC, pD, pE, pF, pG, pH, pI, pJ, pK, pL, pM, pN, pO, if_true, if_false]))); (all_goals try rfl); (all_goals try (repeat' (first | done | rfl | (exfalso; omega) | (refine iteR (fun hq => ?_) (fun hq => ?_)))))
  · refine ⟨sm, by omega, ?_⟩
    (try simp -implicitDefEqProofs (disch := omega) only [getDT, go_sem, *]); (try simp only [pA, pB, pC, pD, pE, pF, pG, pH, pI, pJ, pK, pL, pM, pN, pO, if_true, if_false]); repeat' (first | done | rfl | (refine iteC (fun hq => ?_) (fun hq => ?_) <;> (try (exfalso; omega)) <;> (try simp -implicitDefEqProofs (disch := omega) only [getDT, go_sem, *]) <;> (try simp only [pA, pB, pC, pD, pE, pF, pG, pH, pI, pJ, pK, pL, pM, pN, pO, if_true, if_false]))); (all_goals try rfl); (all_goals try (repeat' (first | done | rfl | (exfalso; omega) | (refine iteR (fun hq => ?_) (fun hq => ?_)))))
theorem lockerNew_law (cells l : List Int) (hC : cells.length ≤ LIM) (hL : l.length ≤ LIM) : callL G N_law13_LockerNew [.d (.sl (ints cells)), .d (.sl (ints l))] [] = some (.d (.bool true), []) := by
  obtain ⟨t, ht, hnew⟩ := new_ok2 l hL
  by_cases c : 20 < cells.length
  · rw [callL_code g_law13_LockerNew (by simp)]; simp -implicitDefEqProofs (disch := omega) only [c_law13_LockerNew, r_law13_LockerNew, getDT, go_sem, *]; (try simp only [pA, pB, pC, pD, pE, pF, pG, pH, pI, pJ, pK, pL, pM, pN, pO, if_true, if_false]); repeat' (first | done | rfl | (refine iteC (fun hq => ?_) (fun hq => ?_) <;> (try (exfalso; omega)) <;> (try simp -implicitDefEqProofs (disch := omega) only [getDT, go_sem, *]) <;> (try simp only [pA, pB, pC, pD, pE, pF, pG, pH, pI, pJ, pK, pL, pM, pN, pO, if_true, if_false]))); (all_goals try rfl); (all_goals try (repeat' (first | done | rfl | (exfalso; omega) | (refine iteR (fun hq => ?_) (fun hq => ?_)))))
  have n0 := n_ok0 t 5 ht (by omega) (by omega)
  have n1 := nD_in t 0 (n := 5) (by omega)
  obtain ⟨k, hk⟩ : ∃ k : Nat, nD t 0 5 = k := ⟨(nD t 0 5).toNat, by omega⟩
  obtain ⟨sm, h1, h2⟩ := lnl_loop cells t ht (k, (rawD t 0).2, []) ⟨by simp only; omega, by simp; omega⟩
  rw [hk] at n0
  simp only [ints] at h2
  simp only [Int.natCast_add, Int.natCast_one, Int.natCast_zero, Int.natCast_mul, Int.cast_ofNat_Int, List.length_append, List.length_map, List.map_nil, List.length_nil, List.map_append, List.map_cons, List.length_cons, Nat.zero_add, srcO] at h2
  have e1 := lnew_ok cells (by omega)
  have e2 := l13new_ok cells (by omega)
  have e3 := lnew_ok sm (by omega)
  have e4 := l13new_ok sm (by omega)
  have hcl : ∀ cs : List Int, (lockNew cs).1.cells.length ≤ 4294967296 := fun cs => by
    unfold lockNew
    by_cases q1 : cs.length = 0 ∨ 3 < cs.length
    · rw [if_pos q1]; simp [zLocker]
    · rw [if_neg q1]
      by_cases q2 : (List.range cs.length).all (lockAt cs) = true
      · rw [if_pos q2]; simp only; omega
      · rw [if_neg q2]; simp [zLocker]
  have s1 := same_Locker (lockNew cells).1 (lockNew cells).1 (hcl _)
  have s2 := same_Locker (lockNew sm).1 (lockNew sm).1 (hcl _)
  have hw := awake13_ok
  clear hcl
  simp only [decide_true] at s1 s2
  rw [callL_code g_law13_LockerNew (by simp)]; simp -implicitDefEqProofs (disch := omega) only [c_law13_LockerNew, r_law13_LockerNew, getDT, go_sem, *]; (try simp only [pA, pB, pC, pD, pE, pF, pG, pH, pI, pJ, pK, pL, pM, pN, pO, if_true, if_false]); repeat' (first | done | rfl | (refine iteC (fun hq => ?_) (fun hq => ?_) <;> (try (exfalso; omega)) <;> (try simp -implicitDefEqProofs (disch := omega) only [getDT, go_sem, *]) <;> (try simp only [pA, pB, pC, pD, pE, pF, pG, pH, pI, pJ, pK, pL, pM, pN, pO, if_true, if_false]))); (all_goals try rfl); (all_goals try (repeat' (first | done | rfl | (exfalso; omega) | (refine iteR (fun hq => ?_) (fun hq => ?_)))))
end Go.Proofs.Ytkdjbfjohbiemaa

namespace Go.Proofs.Ytkdjbfjohbiemaa
open Go Go.Sim
set_option linter.unusedSimpArgs false
set_option linter.unusedVariables false
set_option maxHeartbeats 10000000
set_option maxRecDepth 40000
theorem same_Ring (a b : Ring) (hL : a.cells.length ≤ 4294967296) : callL G N_ref04_Same [.d (eRing a), .d (eRing b)] [] = some (.d (.bool (decide (a = b))), []) := by
  have h1 := same_ref03_Same a.cells b.cells hL
  have e : decide (a = b) = (decide (a.head = b.head) && (decide (a.size = b.size) && decide (a.cells = b.cells))) := by
    cases a; cases b
    apply Bool.eq_iff_iff.2
    simp only [Ring.mk.injEq, decide_eq_true_eq, Bool.and_eq_true]
    exact ⟨fun ⟨p, q, r⟩ => ⟨q, r, p⟩, fun ⟨p, q, r⟩ => ⟨r, p, q⟩⟩
  rw [e]
  rw [callL_code g_ref04_Same (by simp)]; simp -implicitDefEqProofs (maxSteps := 4000000) (disch := omega) only [c_ref04_Same, r_ref04_Same, getDT, go_sem, *]; (try simp only [pA, pB, pC, pD, pE, pF, pG, pH, pI, pJ, pK, pL, pM, pN, pO, pP, if_true, if_false]); repeat' (first | done | rfl | (refine iteC (fun hq => ?_) (fun hq => ?_) <;> (try (first | (exfalso; omega) | contradiction)) <;> (try simp -implicitDefEqProofs (maxSteps := 4000000) (disch := omega) only [getDT, go_sem, *]) <;> (try simp only [pA, pB, pC, pD, pE, pF, pG, pH, pI, pJ, pK, pL, pM, pN, pO, pP, if_true, if_false]))); (all_goals try rfl); (all_goals try (repeat' (first | done | rfl | (exfalso; omega) | contradiction | (refine iteR (fun hq => ?_) (fun hq => ?_)))))
theorem same_Table (a b : Table) (h1 : a.l.length ≤ 4294967296) (h2 : a.heap.length ≤ 4294967296) : callL G N_ref06_Same [.d (eTable a), .d (eTable b)] [] = some (.d (.bool (decide (a = b))), []) := by
  have h1 := same_ref06_SameLeases a.l b.l h1
  have h2 := same_ref05_Same a.heap b.heap h2
  have e : decide (a = b) = (decide (a.l = b.l) && decide (a.heap = b.heap)) := by
    cases a; cases b
    apply Bool.eq_iff_iff.2
    simp only [Table.mk.injEq, decide_eq_true_eq, Bool.and_eq_true]
  rw [e]
  rw [callL_code g_ref06_Same (by simp)]; simp -implicitDefEqProofs (maxSteps := 4000000) (disch := omega) only [c_ref06_Same, r_ref06_Same, getDT, go_sem, *]; (try simp only [pA, pB, pC, pD, pE, pF, pG, pH, pI, pJ, pK, pL, pM, pN, pO, pP, if_true, if_false]); repeat' (first | done | rfl | (refine iteC (fun hq => ?_) (fun hq => ?_) <;> (try (first | (exfalso; omega) | contradiction)) <;> (try simp -implicitDefEqProofs (maxSteps := 4000000) (disch := omega) only [getDT, go_sem, *]) <;> (try simp only [pA, pB, pC, pD, pE, pF, pG, pH, pI, pJ, pK, pL, pM, pN, pO, pP, if_true, if_false]))); (all_goals try rfl); (all_goals try (repeat' (first | done | rfl | (exfalso; omega) | contradiction | (refine iteR (fun hq => ?_) (fun hq => ?_)))))
structure FitS (s : Shard) : Prop where
  a : s.ready.cells.length ≤ 4294967296
  b : s.leases.l.length ≤ 4294967296
  c : s.leases.heap.length ≤ 4294967296
theorem same_Shard (a b : Shard) (h : FitS a) : callL G N_ref07_Same [.d (eShard a), .d (eShard b)] [] = some (.d (.bool (decide (a = b))), []) := by
  obtain ⟨f1, f2, f3⟩ := h
  have h1 := same_Ring a.ready b.ready f1
  have h2 := same_Table a.leases b.leases f2 f3
  have e : decide (a = b) = (decide (a.live = b.live) && (decide (a.low = b.low) && (decide (a.high = b.high) && (decide (a.ready = b.ready) && decide (a.leases = b.leases))))) := by
    cases a; cases b
    apply Bool.eq_iff_iff.2
    simp only [Shard.mk.injEq, decide_eq_true_eq, Bool.and_eq_true]
  rw [e]
  simp only [eRing, eTable] at h1 h2
  rw [callL_code g_ref07_Same (by simp)]; simp -implicitDefEqProofs (maxSteps := 4000000) (disch := omega) only [c_ref07_Same, r_ref07_Same, getDT, go_sem, *]; (try simp only [pA, pB, pC, pD, pE, pF, pG, pH, pI, pJ, pK, pL, pM, pN, pO, pP, if_true, if_false]); repeat' (first | done | rfl | (refine iteC (fun hq => ?_) (fun hq => ?_) <;> (try (first | (exfalso; omega) | contradiction)) <;> (try simp -implicitDefEqProofs (maxSteps := 4000000) (disch := omega) only [getDT, go_sem, *]) <;> (try simp only [pA, pB, pC, pD, pE, pF, pG, pH, pI, pJ, pK, pL, pM, pN, pO, pP, if_true, if_false]))); (all_goals try rfl); (all_goals try (repeat' (first | done | rfl | (exfalso; omega) | contradiction | (refine iteR (fun hq => ?_) (fun hq => ?_)))))
theorem same_Dead (a b : Dead) (h : a.l.length ≤ 4294967296) : callL G N_ref08_Same [.d (eDead a), .d (eDead b)] [] = some (.d (.bool (decide (a = b))), []) := by
  have h1 := same_ref03_Same a.l b.l h
  have e : decide (a = b) = (decide (a.cap = b.cap) && decide (a.l = b.l)) := by
    cases a; cases b
    apply Bool.eq_iff_iff.2
    simp only [Dead.mk.injEq, decide_eq_true_eq, Bool.and_eq_true]
  rw [e]
  rw [callL_code g_ref08_Same (by simp)]; simp -implicitDefEqProofs (maxSteps := 4000000) (disch := omega) only [c_ref08_Same, r_ref08_Same, getDT, go_sem, *]; (try simp only [pA, pB, pC, pD, pE, pF, pG, pH, pI, pJ, pK, pL, pM, pN, pO, pP, if_true, if_false]); repeat' (first | done | rfl | (refine iteC (fun hq => ?_) (fun hq => ?_) <;> (try (first | (exfalso; omega) | contradiction)) <;> (try simp -implicitDefEqProofs (maxSteps := 4000000) (disch := omega) only [getDT, go_sem, *]) <;> (try simp only [pA, pB, pC, pD, pE, pF, pG, pH, pI, pJ, pK, pL, pM, pN, pO, pP, if_true, if_false]))); (all_goals try rfl); (all_goals try (repeat' (first | done | rfl | (exfalso; omega) | contradiction | (refine iteR (fun hq => ?_) (fun hq => ?_)))))
theorem sd_loop0 (a b : Directory) (hL : a.l.length ≤ 4294967296) (hab : a.l.length = b.l.length) : loopL G [] l_ref10_Same_0 ⟨[(2, .ref 2 0 0), (3, .ref 3 0 0), (5, .d (.int .i64 0))], [(2, .row [.d (eDirectory a)]), (3, .row [.d (eDirectory b)])]⟩ = some (if a.l = b.l then (.exit 0, ⟨[(2, .ref 2 0 0), (3, .ref 3 0 0)], [(2, .row [.d (eDirectory a)]), (3, .row [.d (eDirectory b)])]⟩) else (.ret, ⟨[(4, .d (.bool false))], []⟩)) := by
  have := loop_all (G := G) (x := l_ref10_Same_0) (ks := []) a.l.length (fun k => decide (a.l[k]? = b.l[k]?)) (fun k => ⟨[(2, .ref 2 0 0), (3, .ref 3 0 0), (5, .d (.int .i64 k))], [(2, .row [.d (eDirectory a)]), (3, .row [.d (eDirectory b)])]⟩) (.ret, ⟨[(4, .d (.bool false))], []⟩) (.exit 0, ⟨[(2, .ref 2 0 0), (3, .ref 3 0 0)], [(2, .row [.d (eDirectory a)]), (3, .row [.d (eDirectory b)])]⟩) (fun k hk L => by
    simp only [l_ref10_Same_0]
    by_cases h0 : k < a.l.length
    · have hk2 : k < b.l.length := by omega
      simp only [get_eq h0 hk2, h0, if_true]
      (try simp -implicitDefEqProofs (maxSteps := 4000000) (disch := omega) only [getDT, go_sem, *]); (try simp only [pA, pB, pC, pD, pE, pF, pG, pH, pI, pJ, pK, pL, pM, pN, pO, pP, if_true, if_false]); repeat' (first | done | rfl | (refine iteC (fun hq => ?_) (fun hq => ?_) <;> (try (first | (exfalso; omega) | contradiction)) <;> (try simp -implicitDefEqProofs (maxSteps := 4000000) (disch := omega) only [getDT, go_sem, *]) <;> (try simp only [pA, pB, pC, pD, pE, pF, pG, pH, pI, pJ, pK, pL, pM, pN, pO, pP, if_true, if_false]))); (all_goals try rfl); (all_goals try (repeat' (first | done | rfl | (exfalso; omega) | contradiction | (refine iteR (fun hq => ?_) (fun hq => ?_)))))
    · (try simp -implicitDefEqProofs (maxSteps := 4000000) (disch := omega) only [getDT, go_sem, *]); (try simp only [pA, pB, pC, pD, pE, pF, pG, pH, pI, pJ, pK, pL, pM, pN, pO, pP, if_true, if_false]); repeat' (first | done | rfl | (refine iteC (fun hq => ?_) (fun hq => ?_) <;> (try (first | (exfalso; omega) | contradiction)) <;> (try simp -implicitDefEqProofs (maxSteps := 4000000) (disch := omega) only [getDT, go_sem, *]) <;> (try simp only [pA, pB, pC, pD, pE, pF, pG, pH, pI, pJ, pK, pL, pM, pN, pO, pP, if_true, if_false]))); (all_goals try rfl); (all_goals try (repeat' (first | done | rfl | (exfalso; omega) | contradiction | (refine iteR (fun hq => ?_) (fun hq => ?_))))))
  simp only [all_eq hab, Int.natCast_zero, decide_eq_true_eq] at this
  exact this
theorem sd_loop1 (a b : Directory) (hL : a.forward.length ≤ 4294967296) (hab : a.forward.length = b.forward.length) : loopL G [] l_ref10_Same_1 ⟨[(2, .ref 2 0 0), (3, .ref 3 0 0), (6, .d (.int .i64 0))], [(2, .row [.d (eDirectory a)]), (3, .row [.d (eDirectory b)])]⟩ = some (if a.forward = b.forward then (.exit 2, ⟨[], []⟩) else (.ret, ⟨[(4, .d (.bool false))], []⟩)) := by
  have := loop_all (G := G) (x := l_ref10_Same_1) (ks := []) a.forward.length (fun k => decide (a.forward[k]? = b.forward[k]?)) (fun k => ⟨[(2, .ref 2 0 0), (3, .ref 3 0 0), (6, .d (.int .i64 k))], [(2, .row [.d (eDirectory a)]), (3, .row [.d (eDirectory b)])]⟩) (.ret, ⟨[(4, .d (.bool false))], []⟩) (.exit 2, ⟨[], []⟩) (fun k hk L => by
    simp only [l_ref10_Same_1]
    by_cases h0 : k < a.forward.length
    · have hk2 : k < b.forward.length := by omega
      simp only [get_eq h0 hk2, h0, if_true]
      (try simp -implicitDefEqProofs (maxSteps := 4000000) (disch := omega) only [getDT, go_sem, *]); (try simp only [pA, pB, pC, pD, pE, pF, pG, pH, pI, pJ, pK, pL, pM, pN, pO, pP, if_true, if_false]); repeat' (first | done | rfl | (refine iteC (fun hq => ?_) (fun hq => ?_) <;> (try (first | (exfalso; omega) | contradiction)) <;> (try simp -implicitDefEqProofs (maxSteps := 4000000) (disch := omega) only [getDT, go_sem, *]) <;> (try simp only [pA, pB, pC, pD, pE, pF, pG, pH, pI, pJ, pK, pL, pM, pN, pO, pP, if_true, if_false]))); (all_goals try rfl); (all_goals try (repeat' (first | done | rfl | (exfalso; omega) | contradiction | (refine iteR (fun hq => ?_) (fun hq => ?_)))))
    · (try simp -implicitDefEqProofs (maxSteps := 4000000) (disch := omega) only [getDT, go_sem, *]); (try simp only [pA, pB, pC, pD, pE, pF, pG, pH, pI, pJ, pK, pL, pM, pN, pO, pP, if_true, if_false]); repeat' (first | done | rfl | (refine iteC (fun hq => ?_) (fun hq => ?_) <;> (try (first | (exfalso; omega) | contradiction)) <;> (try simp -implicitDefEqProofs (maxSteps := 4000000) (disch := omega) only [getDT, go_sem, *]) <;> (try simp only [pA, pB, pC, pD, pE, pF, pG, pH, pI, pJ, pK, pL, pM, pN, pO, pP, if_true, if_false]))); (all_goals try rfl); (all_goals try (repeat' (first | done | rfl | (exfalso; omega) | contradiction | (refine iteR (fun hq => ?_) (fun hq => ?_))))))
  simp only [all_eq hab, Int.natCast_zero, decide_eq_true_eq] at this
  exact this
theorem same_Directory (a b : Directory) (hL : a.l.length ≤ 4294967296) (hF : a.forward.length ≤ 4294967296) : callL G N_ref10_Same [.d (eDirectory a), .d (eDirectory b)] [] = some (.d (.bool (decide (a = b))), []) := by
  by_cases c0 : a.version = b.version ∧ a.l.length = b.l.length ∧ a.forward.length = b.forward.length
  · obtain ⟨c1, c2, c3⟩ := c0
    have h0 := sd_loop0 a b hL c2
    have h1 := sd_loop1 a b hF c3
    by_cases c4 : a.l = b.l
    · by_cases c5 : a.forward = b.forward
      · have e : a = b := by cases a; cases b; simp_all
        subst e
        simp only [if_true] at h0 h1
        simp only [decide_true]
        clear c1 c2 c3 c4 c5
        rw [callL_code g_ref10_Same (by simp)]; simp -implicitDefEqProofs (maxSteps := 4000000) (disch := omega) only [c_ref10_Same, r_ref10_Same, getDT, go_sem, *]; (try simp only [pA, pB, pC, pD, pE, pF, pG, pH, pI, pJ, pK, pL, pM, pN, pO, pP, if_true, if_false]); repeat' (first | done | rfl | (refine iteC (fun hq => ?_) (fun hq => ?_) <;> (try (first | (exfalso; omega) | contradiction)) <;> (try simp -implicitDefEqProofs (maxSteps := 4000000) (disch := omega) only [getDT, go_sem, *]) <;> (try simp only [pA, pB, pC, pD, pE, pF, pG, pH, pI, pJ, pK, pL, pM, pN, pO, pP, if_true, if_false]))); (all_goals try rfl); (all_goals try (repeat' (first | done | rfl | (exfalso; omega) | contradiction | (refine iteR (fun hq => ?_) (fun hq => ?_)))))
      · have e : ¬ a = b := fun e => c5 (by rw [e])
        rw [decide_eq_false e]
        rw [if_pos c4] at h0
        rw [if_neg c5] at h1
        clear c4
        rw [callL_code g_ref10_Same (by simp)]; simp -implicitDefEqProofs (maxSteps := 4000000) (disch := omega) only [c_ref10_Same, r_ref10_Same, getDT, go_sem, *]; (try simp only [pA, pB, pC, pD, pE, pF, pG, pH, pI, pJ, pK, pL, pM, pN, pO, pP, if_true, if_false]); repeat' (first | done | rfl | (refine iteC (fun hq => ?_) (fun hq => ?_) <;> (try (first | (exfalso; omega) | contradiction)) <;> (try simp -implicitDefEqProofs (maxSteps := 4000000) (disch := omega) only [getDT, go_sem, *]) <;> (try simp only [pA, pB, pC, pD, pE, pF, pG, pH, pI, pJ, pK, pL, pM, pN, pO, pP, if_true, if_false]))); (all_goals try rfl); (all_goals try (repeat' (first | done | rfl | (exfalso; omega) | contradiction | (refine iteR (fun hq => ?_) (fun hq => ?_)))))
    · have e : ¬ a = b := fun e => c4 (by rw [e])
      rw [decide_eq_false e]
      rw [if_neg c4] at h0
      clear h1
      rw [callL_code g_ref10_Same (by simp)]; simp -implicitDefEqProofs (maxSteps := 4000000) (disch := omega) only [c_ref10_Same, r_ref10_Same, getDT, go_sem, *]; (try simp only [pA, pB, pC, pD, pE, pF, pG, pH, pI, pJ, pK, pL, pM, pN, pO, pP, if_true, if_false]); repeat' (first | done | rfl | (refine iteC (fun hq => ?_) (fun hq => ?_) <;> (try (first | (exfalso; omega) | contradiction)) <;> (try simp -implicitDefEqProofs (maxSteps := 4000000) (disch := omega) only [getDT, go_sem, *]) <;> (try simp only [pA, pB, pC, pD, pE, pF, pG, pH, pI, pJ, pK, pL, pM, pN, pO, pP, if_true, if_false]))); (all_goals try rfl); (all_goals try (repeat' (first | done | rfl | (exfalso; omega) | contradiction | (refine iteR (fun hq => ?_) (fun hq => ?_)))))
  · have e : ¬ a = b := fun e => c0 (by rw [e]; exact ⟨rfl, rfl, rfl⟩)
    rw [decide_eq_false e]
    by_cases c1 : a.version = b.version
    · by_cases c2 : a.l.length = b.l.length
      · have c3 : ¬ a.forward.length = b.forward.length := fun c3 => c0 ⟨c1, c2, c3⟩
        rw [callL_code g_ref10_Same (by simp)]; simp -implicitDefEqProofs (maxSteps := 4000000) (disch := omega) only [c_ref10_Same, r_ref10_Same, getDT, go_sem, *]; (try simp only [pA, pB, pC, pD, pE, pF, pG, pH, pI, pJ, pK, pL, pM, pN, pO, pP, if_true, if_false]); repeat' (first | done | rfl | (refine iteC (fun hq => ?_) (fun hq => ?_) <;> (try (first | (exfalso; omega) | contradiction)) <;> (try simp -implicitDefEqProofs (maxSteps := 4000000) (disch := omega) only [getDT, go_sem, *]) <;> (try simp only [pA, pB, pC, pD, pE, pF, pG, pH, pI, pJ, pK, pL, pM, pN, pO, pP, if_true, if_false]))); (all_goals try rfl); (all_goals try (repeat' (first | done | rfl | (exfalso; omega) | contradiction | (refine iteR (fun hq => ?_) (fun hq => ?_)))))
      · rw [callL_code g_ref10_Same (by simp)]; simp -implicitDefEqProofs (maxSteps := 4000000) (disch := omega) only [c_ref10_Same, r_ref10_Same, getDT, go_sem, *]; (try simp only [pA, pB, pC, pD, pE, pF, pG, pH, pI, pJ, pK, pL, pM, pN, pO, pP, if_true, if_false]); repeat' (first | done | rfl | (refine iteC (fun hq => ?_) (fun hq => ?_) <;> (try (first | (exfalso; omega) | contradiction)) <;> (try simp -implicitDefEqProofs (maxSteps := 4000000) (disch := omega) only [getDT, go_sem, *]) <;> (try simp only [pA, pB, pC, pD, pE, pF, pG, pH, pI, pJ, pK, pL, pM, pN, pO, pP, if_true, if_false]))); (all_goals try rfl); (all_goals try (repeat' (first | done | rfl | (exfalso; omega) | contradiction | (refine iteR (fun hq => ?_) (fun hq => ?_)))))
    · rw [callL_code g_ref10_Same (by simp)]; simp -implicitDefEqProofs (maxSteps := 4000000) (disch := omega) only [c_ref10_Same, r_ref10_Same, getDT, go_sem, *]; (try simp only [pA, pB, pC, pD, pE, pF, pG, pH, pI, pJ, pK, pL, pM, pN, pO, pP, if_true, if_false]); repeat' (first | done | rfl | (refine iteC (fun hq => ?_) (fun hq => ?_) <;> (try (first | (exfalso; omega) | contradiction)) <;> (try simp -implicitDefEqProofs (maxSteps := 4000000) (disch := omega) only [getDT, go_sem, *]) <;> (try simp only [pA, pB, pC, pD, pE, pF, pG, pH, pI, pJ, pK, pL, pM, pN, pO, pP, if_true, if_false]))); (all_goals try rfl); (all_goals try (repeat' (first | done | rfl | (exfalso; omega) | contradiction | (refine iteR (fun hq => ?_) (fun hq => ?_)))))
structure FitA (a : Arena) : Prop where
  sl : a.slots.length ≤ 1000
  sh : ∀ i (h : i < a.slots.length), FitS (a.slots[i]).shard
  st : a.stripes.length ≤ 4294967296
  de : a.dead.dead.l.length ≤ 4294967296
  dl : a.dir.l.length ≤ 4294967296
  df : a.dir.forward.length ≤ 4294967296
theorem sa_loop (a b : Arena) (h : FitA a) (hab : a.slots.length = b.slots.length) : loopL G [] l_ref12_Same_0 ⟨[(2, .ref 2 0 0), (3, .ref 3 0 0), (5, .d (.int .i64 0))], [(2, .row [.d (eArena a)]), (3, .row [.d (eArena b)])]⟩ = some (if a.slots = b.slots then (.exit 0, ⟨[], []⟩) else (.ret, ⟨[(4, .d (.bool false))], []⟩)) := by
  obtain ⟨fa, fb, _, _, _, _⟩ := h
  have := loop_all (G := G) (x := l_ref12_Same_0) (ks := []) a.slots.length (fun k => decide (a.slots[k]? = b.slots[k]?)) (fun k => ⟨[(2, .ref 2 0 0), (3, .ref 3 0 0), (5, .d (.int .i64 k))], [(2, .row [.d (eArena a)]), (3, .row [.d (eArena b)])]⟩) (.ret, ⟨[(4, .d (.bool false))], []⟩) (.exit 0, ⟨[], []⟩) (fun k hk L => by
    simp only [l_ref12_Same_0]
    by_cases h0 : k < a.slots.length
    · have hk2 : k < b.slots.length := by omega
      have hs := same_Shard (a.slots[k]).shard (b.slots[k]).shard (fb k h0)
      simp only [eShard] at hs
      have e : decide (a.slots[k] = b.slots[k]) = (decide (a.slots[k].owner = b.slots[k].owner) && decide (a.slots[k].shard = b.slots[k].shard)) := by
        generalize a.slots[k] = x
        generalize b.slots[k] = y
        cases x; cases y
        apply Bool.eq_iff_iff.2
        simp
      simp only [get_eq h0 hk2, h0, if_true, e]
      clear fb
      by_cases c1 : a.slots[k].owner = b.slots[k].owner
      · by_cases c2 : a.slots[k].shard = b.slots[k].shard
        · simp only [c1, c2, decide_true, Bool.and_self, if_true] at hs ⊢
          (try simp -implicitDefEqProofs (maxSteps := 4000000) (disch := omega) only [c1, getDT, go_sem, *]); (try simp only [pA, pB, pC, pD, pE, pF, pG, pH, pI, pJ, pK, pL, pM, pN, pO, pP, if_true, if_false]); repeat' (first | done | rfl | (refine iteC (fun hq => ?_) (fun hq => ?_) <;> (try (first | (exfalso; omega) | contradiction)) <;> (try simp -implicitDefEqProofs (maxSteps := 4000000) (disch := omega) only [c1, getDT, go_sem, *]) <;> (try simp only [pA, pB, pC, pD, pE, pF, pG, pH, pI, pJ, pK, pL, pM, pN, pO, pP, if_true, if_false]))); (all_goals try rfl); (all_goals try (repeat' (first | done | rfl | (exfalso; omega) | contradiction | (refine iteR (fun hq => ?_) (fun hq => ?_)))))
        · simp only [c1, c2, decide_true, decide_false, Bool.and_false, Bool.false_eq_true, if_false] at hs ⊢
          (try simp -implicitDefEqProofs (maxSteps := 4000000) (disch := omega) only [c1, getDT, go_sem, *]); (try simp only [pA, pB, pC, pD, pE, pF, pG, pH, pI, pJ, pK, pL, pM, pN, pO, pP, if_true, if_false]); repeat' (first | done | rfl | (refine iteC (fun hq => ?_) (fun hq => ?_) <;> (try (first | (exfalso; omega) | contradiction)) <;> (try simp -implicitDefEqProofs (maxSteps := 4000000) (disch := omega) only [c1, getDT, go_sem, *]) <;> (try simp only [pA, pB, pC, pD, pE, pF, pG, pH, pI, pJ, pK, pL, pM, pN, pO, pP, if_true, if_false]))); (all_goals try rfl); (all_goals try (repeat' (first | done | rfl | (exfalso; omega) | contradiction | (refine iteR (fun hq => ?_) (fun hq => ?_)))))
      · simp only [c1, decide_false, Bool.false_and, Bool.false_eq_true, if_false]
        (try simp -implicitDefEqProofs (maxSteps := 4000000) (disch := omega) only [c1, getDT, go_sem, *]); (try simp only [pA, pB, pC, pD, pE, pF, pG, pH, pI, pJ, pK, pL, pM, pN, pO, pP, if_true, if_false]); repeat' (first | done | rfl | (refine iteC (fun hq => ?_) (fun hq => ?_) <;> (try (first | (exfalso; omega) | contradiction)) <;> (try simp -implicitDefEqProofs (maxSteps := 4000000) (disch := omega) only [c1, getDT, go_sem, *]) <;> (try simp only [pA, pB, pC, pD, pE, pF, pG, pH, pI, pJ, pK, pL, pM, pN, pO, pP, if_true, if_false]))); (all_goals try rfl); (all_goals try (repeat' (first | done | rfl | (exfalso; omega) | contradiction | (refine iteR (fun hq => ?_) (fun hq => ?_)))))
    · (try simp -implicitDefEqProofs (maxSteps := 4000000) (disch := omega) only [getDT, go_sem, *]); (try simp only [pA, pB, pC, pD, pE, pF, pG, pH, pI, pJ, pK, pL, pM, pN, pO, pP, if_true, if_false]); repeat' (first | done | rfl | (refine iteC (fun hq => ?_) (fun hq => ?_) <;> (try (first | (exfalso; omega) | contradiction)) <;> (try simp -implicitDefEqProofs (maxSteps := 4000000) (disch := omega) only [getDT, go_sem, *]) <;> (try simp only [pA, pB, pC, pD, pE, pF, pG, pH, pI, pJ, pK, pL, pM, pN, pO, pP, if_true, if_false]))); (all_goals try rfl); (all_goals try (repeat' (first | done | rfl | (exfalso; omega) | contradiction | (refine iteR (fun hq => ?_) (fun hq => ?_))))))
  simp only [all_eq hab, Int.natCast_zero, decide_eq_true_eq] at this
  exact this
theorem same_Arena (a b : Arena) (h : FitA a) : callL G N_ref12_Same [.d (eArena a), .d (eArena b)] [] = some (.d (.bool (decide (a = b))), []) := by
  have hl := sa_loop a b h
  obtain ⟨f1, f2, f3, f4, f5, f6⟩ := h
  have h1 := same_ref11_Same a.stripes b.stripes f3
  have h2 := same_Dead a.dead.dead b.dead.dead f4
  have h3 := same_Directory a.dir b.dir f5 f6
  simp only [eDead, eDirectory] at h2 h3
  have e : decide (a = b) = decide (a.slots.length = b.slots.length ∧ a.stripes = b.stripes ∧ a.dead.owner = b.dead.owner ∧ a.dead.dead = b.dead.dead ∧ a.dir = b.dir ∧ a.epoch = b.epoch ∧ a.clock = b.clock ∧ a.nextID = b.nextID ∧ a.slots = b.slots) := by
    apply Bool.eq_iff_iff.2
    simp only [decide_eq_true_eq]
    constructor
    · intro h; subst h; simp
    · rintro ⟨_, e1, e2, e3, e4, e5, e6, e7, e8⟩
      obtain ⟨_, _, ⟨_, _⟩, _, _, _, _⟩ := a
      obtain ⟨_, _, ⟨_, _⟩, _, _, _, _⟩ := b
      simp_all
  rw [e]
  clear e f2
  by_cases c1 : a.slots.length = b.slots.length
  · have hl2 := hl c1
    clear hl
    by_cases c2 : a.slots = b.slots
    · rw [if_pos c2] at hl2
      generalize hq9 : decide (a.slots.length = b.slots.length ∧ a.stripes = b.stripes ∧ a.dead.owner = b.dead.owner ∧ a.dead.dead = b.dead.dead ∧ a.dir = b.dir ∧ a.epoch = b.epoch ∧ a.clock = b.clock ∧ a.nextID = b.nextID ∧ a.slots = b.slots) = z
      simp only [c1, c2, true_and, and_true] at hq9
      clear c2
      rw [callL_code g_ref12_Same (by simp)]; simp -implicitDefEqProofs (maxSteps := 4000000) (disch := omega) only [c_ref12_Same, r_ref12_Same, getDT, go_sem, *]; (try simp only [pA, pB, pC, pD, pE, pF, pG, pH, pI, pJ, pK, pL, pM, pN, pO, pP, if_true, if_false]); repeat' (first | done | rfl | (refine iteC (fun hq => ?_) (fun hq => ?_) <;> (try (first | (exfalso; omega) | contradiction)) <;> (try simp -implicitDefEqProofs (maxSteps := 4000000) (disch := omega) only [getDT, go_sem, *]) <;> (try simp only [pA, pB, pC, pD, pE, pF, pG, pH, pI, pJ, pK, pL, pM, pN, pO, pP, if_true, if_false]))); (all_goals try rfl); (all_goals try (repeat' (first | done | rfl | (exfalso; omega) | contradiction | (refine iteR (fun hq => ?_) (fun hq => ?_)))))
      all_goals (clear h1 h2 h3 hl2; simp_all)
    · rw [if_neg c2] at hl2
      rw [decide_eq_false (fun h => c2 h.2.2.2.2.2.2.2.2)]
      clear c2
      rw [callL_code g_ref12_Same (by simp)]; simp -implicitDefEqProofs (maxSteps := 4000000) (disch := omega) only [c_ref12_Same, r_ref12_Same, getDT, go_sem, *]; (try simp only [pA, pB, pC, pD, pE, pF, pG, pH, pI, pJ, pK, pL, pM, pN, pO, pP, if_true, if_false]); repeat' (first | done | rfl | (refine iteC (fun hq => ?_) (fun hq => ?_) <;> (try (first | (exfalso; omega) | contradiction)) <;> (try simp -implicitDefEqProofs (maxSteps := 4000000) (disch := omega) only [getDT, go_sem, *]) <;> (try simp only [pA, pB, pC, pD, pE, pF, pG, pH, pI, pJ, pK, pL, pM, pN, pO, pP, if_true, if_false]))); (all_goals try rfl); (all_goals try (repeat' (first | done | rfl | (exfalso; omega) | contradiction | (refine iteR (fun hq => ?_) (fun hq => ?_)))))
  · clear hl
    rw [callL_code g_ref12_Same (by simp)]; simp -implicitDefEqProofs (maxSteps := 4000000) (disch := omega) only [c_ref12_Same, r_ref12_Same, getDT, go_sem, *]; (try simp only [pA, pB, pC, pD, pE, pF, pG, pH, pI, pJ, pK, pL, pM, pN, pO, pP, if_true, if_false]); repeat' (first | done | rfl | (refine iteC (fun hq => ?_) (fun hq => ?_) <;> (try (first | (exfalso; omega) | contradiction)) <;> (try simp -implicitDefEqProofs (maxSteps := 4000000) (disch := omega) only [getDT, go_sem, *]) <;> (try simp only [pA, pB, pC, pD, pE, pF, pG, pH, pI, pJ, pK, pL, pM, pN, pO, pP, if_true, if_false]))); (all_goals try rfl); (all_goals try (repeat' (first | done | rfl | (exfalso; omega) | contradiction | (refine iteR (fun hq => ?_) (fun hq => ?_)))))
end Go.Proofs.Ytkdjbfjohbiemaa

namespace Go.Proofs.Ytkdjbfjohbiemaa
open Go Go.Sim
set_option linter.unusedSimpArgs false
set_option linter.unusedVariables false
set_option maxHeartbeats 10000000
set_option maxRecDepth 40000
theorem setOwner_len (a : Arena) (c k : Int) : (setOwner a c k).slots.length = a.slots.length := by
  unfold setOwner; split <;> simp
theorem setOwner_shard (a : Arena) (c k : Int) (i : Nat) (h : i < a.slots.length) : ((setOwner a c k).slots[i]'(by rw [setOwner_len]; exact h)).shard = (a.slots[i]).shard := by
  unfold setOwner
  split
  · rfl
  · rename_i hc
    simp only [List.getElem_set]
    split
    · rename_i e; subst e; simp [h]
    · rfl
theorem fitA_set {a : Arena} (h : FitA a) (c k : Int) : FitA (setOwner a c k) := by
  refine ⟨by rw [setOwner_len]; exact h.sl, fun i hi => ?_, ?_, ?_, ?_, ?_⟩
  · rw [setOwner_len] at hi
    rw [setOwner_shard a c k i hi]; exact h.sh i hi
  all_goals (unfold setOwner; split)
  all_goals first | exact h.st | exact h.de | exact h.dl | exact h.df
theorem fitA_z : FitA zArena := ⟨by decide, fun i h => by simp [zArena] at h, by decide, by decide, by decide, by decide⟩
theorem aTry_keep (a : Arena) (c k : Int) (h : (aTry a c k).2.2 = 0) : ((aTry a c k).1 = a ∧ (aTry a c k).2.1 = false ∧ owners a c ≠ 0) ∨ ((aTry a c k).1 = setOwner a c k ∧ (aTry a c k).2.1 = true ∧ owners a c = 0) := by
  unfold aTry at *
  split at h
  · cases h
  · rename_i h1
    rw [if_neg h1]
    split
    · rename_i h2; exact .inr ⟨rfl, rfl, h2⟩
    · rename_i h2; exact .inl ⟨rfl, rfl, h2⟩
theorem aUnlock_keep (a : Arena) (c k : Int) (h : (aUnlock a c k).2 = 0) : (aUnlock a c k).1 = setOwner a c 0 ∧ owners a c = k := by
  unfold aUnlock at *
  split at h
  · cases h
  · rename_i h1
    rw [if_neg h1]
    split at h
    · rename_i h2; rw [if_pos h2]; exact ⟨rfl, h2⟩
    · cases h
/-- What a step that succeeds does: to the arena, and to the locker. -/
theorem lockStep_keep {B : Int} {a : Arena} {l : Locker} {k : Int} (hw : LWF B l) (h : (lockStep a l k).2.2 = 0) :
    LWF (B + 1) (lockStep a l k).2.1 ∧ (lockStep a l k).2.1.cells = l.cells ∧ ((lockStep a l k).1 = a ∨ ∃ c o, (lockStep a l k).1 = setOwner a c o) := by
  obtain ⟨w1, w2, w3, w4, w5, w6, w7, w8, w9, w10, w11, w12, w13⟩ := hw
  unfold lockStep at *
  by_cases c0 : l.phase = 0
  · have hh := w5 c0
    rw [if_pos c0] at h ⊢
    unfold lockTry at *
    by_cases c1 : (aTry a (l.cells.getD l.have_.toNat 0) k).2.2 = 0
    · rw [if_pos c1] at h ⊢
      rcases aTry_keep _ _ _ c1 with ⟨e1, e2, _⟩ | ⟨e1, e2, _⟩
      · rw [if_neg (by rw [e2]; simp)] at h ⊢
        refine ⟨?_, rfl, .inl e1⟩
        by_cases c2 : 0 < l.have_
        · simp only [c2, if_true]; constructor <;> simp only <;> omega
        · simp only [c2, if_false, c0]; constructor <;> simp only <;> omega
      · rw [if_pos e2] at h ⊢
        refine ⟨?_, rfl, .inr ⟨_, _, e1⟩⟩
        by_cases c2 : l.have_ + 1 = l.cells.length
        · simp only [c2, if_true]; constructor <;> simp only <;> first | omega | exact fun _ => trivial
        · simp only [c2, if_false, c0]; constructor <;> simp only <;> omega
    · rw [if_neg c1] at h
      exact absurd h c1
  rw [if_neg c0] at h ⊢
  by_cases c14 : l.phase = 1 ∨ l.phase = 4
  · have hh : 1 ≤ l.have_ := by rcases c14 with h | h; exact w6 h; exact w9 h
    rw [if_pos c14] at h ⊢
    unfold lockLeave at *
    by_cases c1 : (aUnlock a (l.cells.getD (l.have_ - 1).toNat 0) k).2 = 0
    · rw [if_pos c1] at h ⊢
      have hk := aUnlock_keep _ _ _ c1
      refine ⟨?_, ?_, .inr ⟨_, _, hk.1⟩⟩
      · simp only [leaveL]
        by_cases c2 : 0 < l.have_ - 1
        · rw [if_pos c2]; constructor <;> simp only <;> omega
        · rw [if_neg c2]
          by_cases c3 : l.phase = 4
          · rw [if_pos c3]; constructor <;> simp only <;> omega
          · rw [if_neg c3]
            by_cases c4 : 3 < l.tries + 1
            · rw [if_pos c4]; constructor <;> simp only <;> omega
            · rw [if_neg c4]; constructor <;> simp only <;> omega
      · simp only [leaveL]
        by_cases c2 : 0 < l.have_ - 1
        · rw [if_pos c2]
        · rw [if_neg c2]
          by_cases c3 : l.phase = 4
          · rw [if_pos c3]
          · rw [if_neg c3]
    · rw [if_neg c1] at h
      exact absurd h c1
  rw [if_neg c14] at h ⊢
  by_cases c2 : l.phase = 2
  · have hh := w7 c2
    rw [if_pos c2] at h ⊢
    refine ⟨?_, rfl, .inl rfl⟩
    by_cases c3 : l.wait - 1 = 0
    · simp only [c3, if_true]; constructor <;> simp only <;> omega
    · simp only [c3, if_false]; constructor <;> simp only <;> omega
  · rw [if_neg c2] at h
    cases h
theorem lockStep_bad {B : Int} {a : Arena} {l : Locker} {k : Int} (h : ¬ (lockStep a l k).2.2 = 0) : (lockStep a l k).1 = zArena ∧ (lockStep a l k).2.1 = zLocker := by
  unfold lockStep at *
  by_cases c0 : l.phase = 0
  · rw [if_pos c0] at h ⊢
    unfold lockTry at *
    by_cases c1 : (aTry a (l.cells.getD l.have_.toNat 0) k).2.2 = 0
    · rw [if_pos c1] at h
      exfalso; apply h; split <;> rfl
    · rw [if_neg c1]; exact ⟨rfl, rfl⟩
  rw [if_neg c0] at h ⊢
  by_cases c14 : l.phase = 1 ∨ l.phase = 4
  · rw [if_pos c14] at h ⊢
    unfold lockLeave at *
    by_cases c1 : (aUnlock a (l.cells.getD (l.have_ - 1).toNat 0) k).2 = 0
    · rw [if_pos c1] at h; exact absurd rfl h
    · rw [if_neg c1]; exact ⟨rfl, rfl⟩
  rw [if_neg c14] at h ⊢
  by_cases c2 : l.phase = 2
  · rw [if_pos c2] at h; exact absurd rfl h
  · rw [if_neg c2]; exact ⟨rfl, rfl⟩
theorem LWF.mono {B B' : Int} {l : Locker} (h : LWF B l) (hb : B ≤ B') : LWF B' l := ⟨h.c1, h.c2, h.h0, h.h1, h.t0, h.t1, h.t2, h.t3, h.t4, h.t5, h.t6, h.b0, by have := h.b1; omega⟩
theorem lockFree_wf {B : Int} {l : Locker} (h : LWF B l) (hp : l.phase = 3) : LWF B (lockFree l).1 ∧ (lockFree l).1.cells = l.cells := by
  have h3 := h.t3 hp
  obtain ⟨w1, w2, w3, w4, w5, w6, w7, w8, w9, w10, w11, w12, w13⟩ := h
  unfold lockFree
  rw [if_pos hp]
  exact ⟨by constructor <;> simp only <;> omega, rfl⟩
/-- All lockers of a list. -/
def LWFs (B : Int) (ps : List Locker) : Prop := ∀ i (h : i < ps.length), LWF B (ps[i])
theorem LWFs.set {B : Int} {ps : List Locker} (h : LWFs B ps) {j : Nat} {x : Locker} (hx : LWF B x) : LWFs B (ps.set j x) := by
  intro i hi
  simp only [List.getElem_set]
  split
  · exact hx
  · exact h i (by simpa using hi)
def scrS (t : List Int) (a : Nat) (ar : Arena) (ps : List Locker) (i : Nat) : St := ⟨[(3, .ref 28 0 0), (4, .ref 4 0 0), (6, .ref 6 0 0), (7, .osl 7 0 3), (8, .osl 8 0 3), (15, .d (.int .i64 i))], [(4, .row [.d (eArena ar)]), (6, .row [.d (eArena ar)]), (7, .row ((ps.map eLocker).map .d)), (8, .row ((ps.map eLocker).map .d)), (28, srcO t a)]⟩
structure ScrT where
  i : Nat
  a : Nat
  ar : Arena
  ps : List Locker
structure ScrI (s : ScrT) : Prop where
  i : s.i ≤ 60
  f : FitA s.ar
  l : s.ps.length = 3
  w : LWFs s.i s.ps
theorem scr_loop (t : List Int) (ht : t.length ≤ 4000) : ∀ s : ScrT, ScrI s → loopL G [] l_law13_LockerScript_1 (scrS t s.a s.ar s.ps s.i) = some (.exit 2, ⟨[], []⟩) := by
  refine loop_ind (fun s : ScrT => 60 - s.i) ScrI (fun s => scrS t s.a s.ar s.ps s.i) _ fun ⟨i, a, ar, ps⟩ ⟨hi, hf, hp, hw⟩ L ih => ?_
  simp only at hi hf hp hw
  simp only [scrS] at ih ⊢
  simp only [l_law13_LockerScript_1]
  have hm := more_ok t a ht
  by_cases h60 : i < 60 ∧ (i < 6 ∨ (a : Int) < t.length)
  rotate_left
  · by_cases c : i < 60
    · (try simp -implicitDefEqProofs (maxSteps := 4000000) (disch := omega) only [c, getDT, go_sem, *]); (try simp only [pA, pB, pC, pD, pE, pF, pG, pH, pI, pJ, pK, pL, pM, pN, pO, pP, if_true, if_false]); repeat' (first | done | rfl | (refine iteC (fun hq => ?_) (fun hq => ?_) <;> (try (first | (exfalso; omega) | contradiction)) <;> (try simp -implicitDefEqProofs (maxSteps := 4000000) (disch := omega) only [c, getDT, go_sem, *]) <;> (try simp only [pA, pB, pC, pD, pE, pF, pG, pH, pI, pJ, pK, pL, pM, pN, pO, pP, if_true, if_false]))); (all_goals try rfl); (all_goals try (repeat' (first | done | rfl | (exfalso; omega) | contradiction | (refine iteR (fun hq => ?_) (fun hq => ?_)))))
    · (try simp -implicitDefEqProofs (maxSteps := 4000000) (disch := omega) only [c, getDT, go_sem, *]); (try simp only [pA, pB, pC, pD, pE, pF, pG, pH, pI, pJ, pK, pL, pM, pN, pO, pP, if_true, if_false]); repeat' (first | done | rfl | (refine iteC (fun hq => ?_) (fun hq => ?_) <;> (try (first | (exfalso; omega) | contradiction)) <;> (try simp -implicitDefEqProofs (maxSteps := 4000000) (disch := omega) only [c, getDT, go_sem, *]) <;> (try simp only [pA, pB, pC, pD, pE, pF, pG, pH, pI, pJ, pK, pL, pM, pN, pO, pP, if_true, if_false]))); (all_goals try rfl); (all_goals try (repeat' (first | done | rfl | (exfalso; omega) | contradiction | (refine iteR (fun hq => ?_) (fun hq => ?_)))))
  obtain ⟨h60, hmore⟩ := h60
  have h3 := n_ok t a 3 ht (by omega) (by omega)
  have h0 : 0 ≤ nD t a 3 ∧ nD t a 3 < 3 := nD_in t a (by omega)
  have h4 := n_ok t (rawD t a).2 3 ht (by omega) (by omega)
  generalize (rawD t a).2 = a1 at h3 h4
  generalize (rawD t a1).2 = a2 at h4
  generalize nD t a1 3 = z at h4
  obtain ⟨j, hj⟩ : ∃ j : Nat, nD t a 3 = j := ⟨(nD t a 3).toNat, by omega⟩
  rw [hj] at h3 h0
  have hj3 : j < ps.length := by omega
  have hwj := hw j hj3
  by_cases hz : z = 0
  · have e1 := lfree_ok ps[j]
    have e2 := l13free_ok ps[j]
    have hs := same_Locker (lockFree ps[j]).1 (lockFree ps[j]).1 (by
      have := hwj.c2
      unfold lockFree; split
      · simp only; omega
      · simp [zLocker])
    by_cases hp3 : ps[j].phase = 3
    · have hkeep := lockFree_wf hwj hp3
      have ih1 := ih ⟨i + 1, a2, ar, ps.set j (lockFree ps[j]).1⟩ ⟨by simp only; omega, hf, by simpa using hp, fun q hq => (LWFs.set hw hkeep.1 q hq).mono (by simp only; omega)⟩ (by simp only; omega)
      have e0 : (lockFree ps[j]).2 = 0 := by unfold lockFree; rw [if_pos hp3]
      rw [e0] at e1 e2
      generalize (lockFree ps[j]).1 = x at *
      simp only [decide_true] at hs
      clear hkeep hw hwj
      simp only [Int.natCast_add, Int.natCast_one, Int.natCast_zero, Int.natCast_mul, Int.cast_ofNat_Int, List.length_append, List.length_map, List.map_nil, List.length_nil, List.map_append, List.map_cons, List.length_cons, Nat.zero_add, srcO, mapSet] at ih1
      clear ih
      by_cases c : (i : Int) < 6
      · (try simp -implicitDefEqProofs (maxSteps := 4000000) (disch := omega) only [c, getDT, go_sem, *]); (try simp only [pA, pB, pC, pD, pE, pF, pG, pH, pI, pJ, pK, pL, pM, pN, pO, pP, if_true, if_false]); repeat' (first | done | rfl | (refine iteC (fun hq => ?_) (fun hq => ?_) <;> (try (first | (exfalso; omega) | contradiction)) <;> (try simp -implicitDefEqProofs (maxSteps := 4000000) (disch := omega) only [c, getDT, go_sem, *]) <;> (try simp only [pA, pB, pC, pD, pE, pF, pG, pH, pI, pJ, pK, pL, pM, pN, pO, pP, if_true, if_false]))); (all_goals try rfl); (all_goals try (repeat' (first | done | rfl | (exfalso; omega) | contradiction | (refine iteR (fun hq => ?_) (fun hq => ?_)))))
      · have hmore : (a : Int) < t.length := by omega
        (try simp -implicitDefEqProofs (maxSteps := 4000000) (disch := omega) only [c, getDT, go_sem, *]); (try simp only [pA, pB, pC, pD, pE, pF, pG, pH, pI, pJ, pK, pL, pM, pN, pO, pP, if_true, if_false]); repeat' (first | done | rfl | (refine iteC (fun hq => ?_) (fun hq => ?_) <;> (try (first | (exfalso; omega) | contradiction)) <;> (try simp -implicitDefEqProofs (maxSteps := 4000000) (disch := omega) only [c, getDT, go_sem, *]) <;> (try simp only [pA, pB, pC, pD, pE, pF, pG, pH, pI, pJ, pK, pL, pM, pN, pO, pP, if_true, if_false]))); (all_goals try rfl); (all_goals try (repeat' (first | done | rfl | (exfalso; omega) | contradiction | (refine iteR (fun hq => ?_) (fun hq => ?_)))))
    · have ih1 := ih ⟨i + 1, a2, ar, ps⟩ ⟨by simp only; omega, hf, hp, fun q hq => (hw q hq).mono (by simp only; omega)⟩ (by simp only; omega)
      have e0 : lockFree ps[j] = (zLocker, 7) := by unfold lockFree; rw [if_neg hp3]
      rw [e0] at e1 e2 hs
      simp only [decide_true] at hs
      clear hw hwj
      simp only [Int.natCast_add, Int.natCast_one, Int.natCast_zero, Int.natCast_mul, Int.cast_ofNat_Int, List.length_append, List.length_map, List.map_nil, List.length_nil, List.map_append, List.map_cons, List.length_cons, Nat.zero_add, srcO, mapSet] at ih1
      clear ih
      by_cases c : (i : Int) < 6
      · (try simp -implicitDefEqProofs (maxSteps := 4000000) (disch := omega) only [c, getDT, go_sem, *]); (try simp only [pA, pB, pC, pD, pE, pF, pG, pH, pI, pJ, pK, pL, pM, pN, pO, pP, if_true, if_false]); repeat' (first | done | rfl | (refine iteC (fun hq => ?_) (fun hq => ?_) <;> (try (first | (exfalso; omega) | contradiction)) <;> (try simp -implicitDefEqProofs (maxSteps := 4000000) (disch := omega) only [c, getDT, go_sem, *]) <;> (try simp only [pA, pB, pC, pD, pE, pF, pG, pH, pI, pJ, pK, pL, pM, pN, pO, pP, if_true, if_false]))); (all_goals try rfl); (all_goals try (repeat' (first | done | rfl | (exfalso; omega) | contradiction | (refine iteR (fun hq => ?_) (fun hq => ?_)))))
      · have hmore : (a : Int) < t.length := by omega
        (try simp -implicitDefEqProofs (maxSteps := 4000000) (disch := omega) only [c, getDT, go_sem, *]); (try simp only [pA, pB, pC, pD, pE, pF, pG, pH, pI, pJ, pK, pL, pM, pN, pO, pP, if_true, if_false]); repeat' (first | done | rfl | (refine iteC (fun hq => ?_) (fun hq => ?_) <;> (try (first | (exfalso; omega) | contradiction)) <;> (try simp -implicitDefEqProofs (maxSteps := 4000000) (disch := omega) only [c, getDT, go_sem, *]) <;> (try simp only [pA, pB, pC, pD, pE, pF, pG, pH, pI, pJ, pK, pL, pM, pN, pO, pP, if_true, if_false]))); (all_goals try rfl); (all_goals try (repeat' (first | done | rfl | (exfalso; omega) | contradiction | (refine iteR (fun hq => ?_) (fun hq => ?_)))))
  · have e1 := lstep_ok ar ps[j] ((j : Int) + 1) hf.sl (hwj.mono (by omega))
    have e2 := l13step_ok ar ps[j] ((j : Int) + 1) hf.sl (hwj.mono (by omega))
    by_cases hr : (lockStep ar ps[j] ((j : Int) + 1)).2.2 = 0
    · obtain ⟨k1, k2, k3⟩ := lockStep_keep hwj hr
      have hfa : FitA (lockStep ar ps[j] ((j : Int) + 1)).1 := by
        rcases k3 with k3 | ⟨c, o, k3⟩
        · rw [k3]; exact hf
        · rw [k3]; exact fitA_set hf c o
      have hsl := same_Locker (lockStep ar ps[j] ((j : Int) + 1)).2.1 (lockStep ar ps[j] ((j : Int) + 1)).2.1 (by have := k1.c2; omega)
      have hsa := same_Arena _ (lockStep ar ps[j] ((j : Int) + 1)).1 hfa
      have ih1 := ih ⟨i + 1, a2, (lockStep ar ps[j] ((j : Int) + 1)).1, ps.set j (lockStep ar ps[j] ((j : Int) + 1)).2.1⟩ ⟨by simp only; omega, hfa, by simpa using hp, fun q hq => (LWFs.set (fun q hq => (hw q hq).mono (B' := i + 1) (by omega)) k1 q hq).mono (by simp only; omega)⟩ (by simp only; omega)
      rw [hr] at e1 e2
      generalize (lockStep ar ps[j] ((j : Int) + 1)).1 = u at *
      generalize (lockStep ar ps[j] ((j : Int) + 1)).2.1 = x at *
      simp only [decide_true] at hsl hsa
      clear hw hwj k1 k2 k3 hfa hr ih hf
      simp only [Int.natCast_add, Int.natCast_one, Int.natCast_zero, Int.natCast_mul, Int.cast_ofNat_Int, List.length_append, List.length_map, List.map_nil, List.length_nil, List.map_append, List.map_cons, List.length_cons, Nat.zero_add, srcO, mapSet] at ih1
      by_cases c : (i : Int) < 6
      · (try simp -implicitDefEqProofs (maxSteps := 4000000) (disch := omega) only [c, getDT, go_sem, *]); (try simp only [pA, pB, pC, pD, pE, pF, pG, pH, pI, pJ, pK, pL, pM, pN, pO, pP, if_true, if_false]); repeat' (first | done | rfl | (refine iteC (fun hq => ?_) (fun hq => ?_) <;> (try (first | (exfalso; omega) | contradiction)) <;> (try simp -implicitDefEqProofs (maxSteps := 4000000) (disch := omega) only [c, getDT, go_sem, *]) <;> (try simp only [pA, pB, pC, pD, pE, pF, pG, pH, pI, pJ, pK, pL, pM, pN, pO, pP, if_true, if_false]))); (all_goals try rfl); (all_goals try (repeat' (first | done | rfl | (exfalso; omega) | contradiction | (refine iteR (fun hq => ?_) (fun hq => ?_)))))
      · have hmore : (a : Int) < t.length := by omega
        (try simp -implicitDefEqProofs (maxSteps := 4000000) (disch := omega) only [c, getDT, go_sem, *]); (try simp only [pA, pB, pC, pD, pE, pF, pG, pH, pI, pJ, pK, pL, pM, pN, pO, pP, if_true, if_false]); repeat' (first | done | rfl | (refine iteC (fun hq => ?_) (fun hq => ?_) <;> (try (first | (exfalso; omega) | contradiction)) <;> (try simp -implicitDefEqProofs (maxSteps := 4000000) (disch := omega) only [c, getDT, go_sem, *]) <;> (try simp only [pA, pB, pC, pD, pE, pF, pG, pH, pI, pJ, pK, pL, pM, pN, pO, pP, if_true, if_false]))); (all_goals try rfl); (all_goals try (repeat' (first | done | rfl | (exfalso; omega) | contradiction | (refine iteR (fun hq => ?_) (fun hq => ?_)))))
    · obtain ⟨k1, k2⟩ := lockStep_bad (B := 0) hr
      have hsl := same_Locker zLocker zLocker (by decide)
      have hsa := same_Arena zArena zArena fitA_z
      have ih1 := ih ⟨i + 1, a2, ar, ps⟩ ⟨by simp only; omega, hf, hp, fun q hq => (hw q hq).mono (by simp only; omega)⟩ (by simp only; omega)
      rw [k1, k2] at e1 e2
      generalize (lockStep ar ps[j] ((j : Int) + 1)).2.2 = e at *
      simp only [decide_true] at hsl hsa
      clear hw hwj k1 k2 ih hf
      simp only [Int.natCast_add, Int.natCast_one, Int.natCast_zero, Int.natCast_mul, Int.cast_ofNat_Int, List.length_append, List.length_map, List.map_nil, List.length_nil, List.map_append, List.map_cons, List.length_cons, Nat.zero_add, srcO, mapSet] at ih1
      by_cases c : (i : Int) < 6
      · (try simp -implicitDefEqProofs (maxSteps := 4000000) (disch := omega) only [c, getDT, go_sem, *]); (try simp only [pA, pB, pC, pD, pE, pF, pG, pH, pI, pJ, pK, pL, pM, pN, pO, pP, if_true, if_false]); repeat' (first | done | rfl | (refine iteC (fun hq => ?_) (fun hq => ?_) <;> (try (first | (exfalso; omega) | contradiction)) <;> (try simp -implicitDefEqProofs (maxSteps := 4000000) (disch := omega) only [c, getDT, go_sem, *]) <;> (try simp only [pA, pB, pC, pD, pE, pF, pG, pH, pI, pJ, pK, pL, pM, pN, pO, pP, if_true, if_false]))); (all_goals try rfl); (all_goals try (repeat' (first | done | rfl | (exfalso; omega) | contradiction | (refine iteR (fun hq => ?_) (fun hq => ?_)))))
      · have hmore : (a : Int) < t.length := by omega
        (try simp -implicitDefEqProofs (maxSteps := 4000000) (disch := omega) only [c, getDT, go_sem, *]); (try simp only [pA, pB, pC, pD, pE, pF, pG, pH, pI, pJ, pK, pL, pM, pN, pO, pP, if_true, if_false]); repeat' (first | done | rfl | (refine iteC (fun hq => ?_) (fun hq => ?_) <;> (try (first | (exfalso; omega) | contradiction)) <;> (try simp -implicitDefEqProofs (maxSteps := 4000000) (disch := omega) only [c, getDT, go_sem, *]) <;> (try simp only [pA, pB, pC, pD, pE, pF, pG, pH, pI, pJ, pK, pL, pM, pN, pO, pP, if_true, if_false]))); (all_goals try rfl); (all_goals try (repeat' (first | done | rfl | (exfalso; omega) | contradiction | (refine iteR (fun hq => ?_) (fun hq => ?_)))))
end Go.Proofs.Ytkdjbfjohbiemaa

namespace Go.Proofs.Ytkdjbfjohbiemaa
open Go Go.Sim
set_option linter.unusedSimpArgs false
set_option linter.unusedVariables false
set_option maxHeartbeats 10000000
set_option maxRecDepth 40000
theorem arenaN_of {s : Setup} (h : 1 ≤ s.slots ∧ s.slots ≤ 4 ∧ 1 ≤ s.live ∧ s.live ≤ s.slots ∧ 1 ≤ s.capacity ∧ s.capacity ≤ 5 ∧ 1 ≤ s.dead ∧ s.dead ≤ 4 ∧ 1 ≤ s.limit ∧ s.limit ≤ 3 ∧ 0 ≤ s.clock ∧ s.clock ≤ 1073741824 ∧ 1 ≤ s.nextID ∧ s.nextID ≤ 1073741824 ∧ 0 ≤ s.epoch ∧ s.epoch ≤ 65536) :
    arenaNew s = (arenaN s, 0) ∧ FitA (arenaN s) ∧ 1 ≤ (arenaN s).slots.length ∧ (arenaN s).slots.length ≤ 4 ∧ ∀ c, 0 ≤ c → c ≤ (arenaN s).slots.length → owners (arenaN s) c = 0 := by
  have ho : okSetup s = true := by
    simp only [okSetup, inB, Bool.and_eq_true, decide_eq_true_eq]; omega
  have hl : (arenaN s).slots.length = s.slots.toNat := by simp [arenaN, slotsN]
  refine ⟨by unfold arenaNew; rw [if_pos ho], ⟨by omega, fun i hi => ?_, ?_, ?_, ?_, ?_⟩, by omega, by omega, fun c h0 h1 => ?_⟩
  · simp only [arenaN, slotsN, List.getElem_map, List.getElem_range, slotI]
    split <;> exact ⟨by simp [ringN]; omega, by simp, by simp⟩
  · simp [arenaN, stripesN]; omega
  · simp [arenaN]
  · simp [arenaN, dirN, spansN]; omega
  · simp [arenaN, dirN]; omega
  · unfold owners
    split
    · rfl
    · rw [getDT (by omega)]
      simp only [arenaN, slotsN, List.getElem_map, List.getElem_range, slotI]
structure Fresh (n : Nat) (l : Locker) : Prop where
  asc : Asc l.cells n
  one : 1 ≤ l.cells.length
  eq : l = ⟨l.cells, 0, 0, 0, 0⟩
theorem Fresh.wf {n : Nat} {l : Locker} (h : Fresh n l) : LWF 0 l := by
  have h1 := h.one
  have h2 := h.asc.l
  rw [h.eq]
  constructor <;> simp only <;> omega
theorem fresh_append {n : Nat} {ps : List Locker} {cs : List Int} (h : ∀ i (hi : i < ps.length), Fresh n ps[i]) (hc : Asc cs n) (h1 : 1 ≤ cs.length) : ∀ i (hi : i < (ps ++ [(⟨cs, 0, 0, 0, 0⟩ : Locker)]).length), Fresh n (ps ++ [(⟨cs, 0, 0, 0, 0⟩ : Locker)])[i] := by
  intro i hi
  by_cases c : i < ps.length
  · rw [List.getElem_append_left c]; exact h i c
  · have : i = ps.length := by simp at hi; omega
    subst this
    rw [List.getElem_append_right (by omega)]
    simp only [Nat.sub_self, List.getElem_cons_zero]
    exact ⟨hc, h1, rfl⟩
theorem scr0_loop (t : List Int) (ht : t.length ≤ 4000) (ar : Arena) (hn : ar.slots.length ≤ 4) : ∀ s : Nat × Nat × List Locker, s.1 ≤ 3 ∧ s.2.2.length = s.1 ∧ (∀ i (hi : i < s.2.2.length), Fresh ar.slots.length s.2.2[i]) → ∃ (a' : Nat) (ps : List Locker), ps.length = 3 ∧ (∀ i (hi : i < ps.length), Fresh ar.slots.length ps[i]) ∧ loopL G [] l_law13_LockerScript_0 ⟨[(3, .ref 28 0 0), (4, .ref 4 0 0), (6, .ref 6 0 0), (7, .acc 7 (s.2.2.map eLocker)), (8, .acc 8 (s.2.2.map eLocker)), (9, .d (.int .i64 s.1))], [(4, .row [.d (eArena ar)]), (6, .row [.d (eArena ar)]), (7, .acc s.2.2.length), (8, .acc s.2.2.length), (28, srcO t s.2.1)]⟩ = some (.exit 0, ⟨[(3, .ref 28 0 0), (4, .ref 4 0 0), (6, .ref 6 0 0), (7, .acc 7 (ps.map eLocker)), (8, .acc 8 (ps.map eLocker))], [(4, .row [.d (eArena ar)]), (6, .row [.d (eArena ar)]), (7, .acc ps.length), (8, .acc ps.length), (28, srcO t a')]⟩) := by
  refine loop_indP (fun s : Nat × Nat × List Locker => 3 - s.1) _ (fun s : Nat × Nat × List Locker => ⟨[(3, .ref 28 0 0), (4, .ref 4 0 0), (6, .ref 6 0 0), (7, .acc 7 (s.2.2.map eLocker)), (8, .acc 8 (s.2.2.map eLocker)), (9, .d (.int .i64 s.1))], [(4, .row [.d (eArena ar)]), (6, .row [.d (eArena ar)]), (7, .acc s.2.2.length), (8, .acc s.2.2.length), (28, srcO t s.2.1)]⟩) (fun s r => ∃ (a' : Nat) (ps : List Locker), ps.length = 3 ∧ (∀ i (hi : i < ps.length), Fresh ar.slots.length ps[i]) ∧ r = some (.exit 0, ⟨[(3, .ref 28 0 0), (4, .ref 4 0 0), (6, .ref 6 0 0), (7, .acc 7 (ps.map eLocker)), (8, .acc 8 (ps.map eLocker))], [(4, .row [.d (eArena ar)]), (6, .row [.d (eArena ar)]), (7, .acc ps.length), (8, .acc ps.length), (28, srcO t a')]⟩)) fun ⟨i, a, ps⟩ ⟨hi, hl, hf⟩ L ih => ?_
  simp only at hi hl hf ih
  simp only [l_law13_LockerScript_0]
  by_cases h3 : i < 3
  · obtain ⟨cs, a1, hc, h1, hs⟩ := some_ok t a ar.slots.length ht (by omega)
    have e1 := lnew_ok cs (by have := hc.l; omega)
    have e2 := l13new_ok cs (by have := hc.l; omega)
    rw [lockNew_asc hc (by omega) h1] at e1 e2
    have hsl := same_Locker ⟨cs, 0, 0, 0, 0⟩ ⟨cs, 0, 0, 0, 0⟩ (by have := hc.l; simp only; omega)
    simp only [decide_true] at hsl
    obtain ⟨a', qs, q1, q2, q3⟩ := ih (i + 1, a1, ps ++ [⟨cs, 0, 0, 0, 0⟩]) ⟨by simp only; omega, by simp [hl], fresh_append hf hc h1⟩ (by simp only; omega)
    refine ⟨a', qs, q1, q2, ?_⟩
    simp only [Int.natCast_add, Int.natCast_one, Int.natCast_zero, Int.natCast_mul, Int.cast_ofNat_Int, List.length_append, List.length_map, List.map_nil, List.length_nil, List.map_append, List.map_cons, List.length_cons, Nat.zero_add, srcO, mapSet] at q3
    rw [← q3]
    clear ih q3 hf q2 q1
    (try simp -implicitDefEqProofs (maxSteps := 4000000) (disch := omega) only [getDT, go_sem, *]); (try simp only [pA, pB, pC, pD, pE, pF, pG, pH, pI, pJ, pK, pL, pM, pN, pO, pP, if_true, if_false]); repeat' (first | done | rfl | (refine iteC (fun hq => ?_) (fun hq => ?_) <;> (try (first | (exfalso; omega) | contradiction)) <;> (try simp -implicitDefEqProofs (maxSteps := 4000000) (disch := omega) only [getDT, go_sem, *]) <;> (try simp only [pA, pB, pC, pD, pE, pF, pG, pH, pI, pJ, pK, pL, pM, pN, pO, pP, if_true, if_false]))); (all_goals try rfl); (all_goals try (repeat' (first | done | rfl | (exfalso; omega) | contradiction | (refine iteR (fun hq => ?_) (fun hq => ?_)))))
  · refine ⟨a, ps, by omega, hf, ?_⟩
    clear ih hf
    (try simp -implicitDefEqProofs (maxSteps := 4000000) (disch := omega) only [getDT, go_sem, *]); (try simp only [pA, pB, pC, pD, pE, pF, pG, pH, pI, pJ, pK, pL, pM, pN, pO, pP, if_true, if_false]); repeat' (first | done | rfl | (refine iteC (fun hq => ?_) (fun hq => ?_) <;> (try (first | (exfalso; omega) | contradiction)) <;> (try simp -implicitDefEqProofs (maxSteps := 4000000) (disch := omega) only [getDT, go_sem, *]) <;> (try simp only [pA, pB, pC, pD, pE, pF, pG, pH, pI, pJ, pK, pL, pM, pN, pO, pP, if_true, if_false]))); (all_goals try rfl); (all_goals try (repeat' (first | done | rfl | (exfalso; omega) | contradiction | (refine iteR (fun hq => ?_) (fun hq => ?_)))))
theorem lockerScript_law (l : List Int) (hL : l.length ≤ LIM) : callL G N_law13_LockerScript [.d (.sl (ints l))] [] = some (.d (.bool true), []) := by
  obtain ⟨t, ht, hnew⟩ := new_ok2 l hL
  obtain ⟨s, a1, hs, hs1⟩ := setup_ok0 t ht
  have ha := arenaNew_ok s
  obtain ⟨he, hf, hn1, hn4, ho⟩ := arenaN_of hs
  rw [he] at ha
  generalize arenaN s = ar at *
  obtain ⟨a2, ps, hp, hfr, hl0⟩ := scr0_loop t ht ar hn4 (0, a1, []) ⟨by simp, by simp, by simp⟩
  have hl1 := scr_loop t ht ⟨0, a2, ar, ps⟩ ⟨by simp, hf, hp, fun i hi => (hfr i hi).wf⟩
  have hw := awake13_ok
  simp only [scrS, List.map_nil, List.length_nil, hp] at hl0 hl1
  simp only [Int.natCast_add, Int.natCast_one, Int.natCast_zero, Int.natCast_mul, Int.cast_ofNat_Int, List.length_append, List.length_map, List.map_nil, List.length_nil, List.map_append, List.map_cons, List.length_cons, Nat.zero_add, srcO, mapSet] at hl0 hl1
  clear hfr ho hf he hs hn1 hn4
  rw [callL_code g_law13_LockerScript (by simp)]; simp -implicitDefEqProofs (maxSteps := 4000000) (disch := omega) only [c_law13_LockerScript, r_law13_LockerScript, getDT, go_sem, *]; (try simp only [pA, pB, pC, pD, pE, pF, pG, pH, pI, pJ, pK, pL, pM, pN, pO, pP, if_true, if_false]); repeat' (first | done | rfl | (refine iteC (fun hq => ?_) (fun hq => ?_) <;> (try (first | (exfalso; omega) | contradiction)) <;> (try simp -implicitDefEqProofs (maxSteps := 4000000) (disch := omega) only [getDT, go_sem, *]) <;> (try simp only [pA, pB, pC, pD, pE, pF, pG, pH, pI, pJ, pK, pL, pM, pN, pO, pP, if_true, if_false]))); (all_goals try rfl); (all_goals try (repeat' (first | done | rfl | (exfalso; omega) | contradiction | (refine iteR (fun hq => ?_) (fun hq => ?_)))))
end Go.Proofs.Ytkdjbfjohbiemaa

namespace Go.Sim
open Go.ChangeShapes Go.WideShapes Go.RowKit
variable {P : Program} {G : FuncId → Option AFn}

theorem data_calls (hG : GOK P G) {f : FuncId} {ds : List D} {r : D} (h : callL G f (ds.map .d) [] = some (.d r, [])) {w : World} {us : List Value} (hl : us.length = ds.length)
    (hv : ∀ (i : Nat) (x : D) (u : Value), ds[i]? = some x → us[i]? = some u → Rd w (fun b => b < w.heap.size) (.v x u)) :
    Calls P f us.toArray w fun e w' => ∃ u, e = .returned u ∧ Below w.heap.size w w' ∧ ∃ R', Rd w' R' (.v r u) := by
  have h1 := (callL_ok hG f (ds.map .d) [] (.d r) [] h (by simp) (by simp)).2.1
  refine (h1 w (fun b => b < w.heap.size) (fun _ => none) us (fun b hb => hb) (by simp) (by simp) (by simp) ⟨by simpa using hl, fun i x u hx hu => ?_⟩).mono fun e w' h => ?_
  · rw [List.getElem?_map] at hx
    obtain ⟨d, hd, rfl⟩ := Option.map_eq_some_iff.1 hx
    exact .d (hv i d u hd hu)
  · obtain ⟨u, ι', R', h1, h2, h3, h4, h5, _, h6, _, _, _, _, _, _, h7⟩ := h
    refine ⟨u, h1, ⟨h2, h3, h4, h5, fun k hk => h6 k hk (by simp)⟩, R', ?_⟩
    cases h7 with
    | d h7 => exact h7

section
variable {H : Type} {enc : TypeId × Value → H}

theorem trodAll_below (hl : laidOutB P = true) {W W' : World} (hb : Below W.heap.size W W') : ∀ {ts : List TypeId} {vs : List Value} {ds : List (DataW H)} {ps : List MemPlace},
    (∀ t ∈ ts, P.readableRec t = true ∧ t < P.types.size) → DataW.TrodAll enc P W 0 (fun _ => true) true ts vs ds ps → (∀ x ∈ ps, x.block < W.heap.size) → DataW.TrodAll enc P W' 0 (fun b => decide (b < W.heap.size)) true ts vs ds ps
  | [], [], [], _, _, h, _ => h
  | _ :: _, _ :: _, _ :: _, _, ht, ⟨p, q, h1, h2, e⟩, hlt =>
    ⟨p, q, Below.trod hl (ht _ (.head _)).1 (ht _ (.head _)).2 h1 hb (fun x hx => hlt x (by rw [e]; exact List.mem_append_left _ hx)),
      trodAll_below hl hb (fun t h => ht t (.tail _ h)) h2 (fun x hx => hlt x (by rw [e]; exact List.mem_append_right _ hx)), e⟩

/-- What stays as it was, and 'true': the given form asks for no more. -/
theorem post_true {f : Func} {s : ChangeSpec} {W W' : World} {args : Array Value} {ds gs : List (DataW H)} {before : List MemPlace} {tb : TypeId} (hres : f.resultTypes = #[tb]) (htb : P.underlying tb = some .bool) (hl : laidOutB P = true)
    (ht : ∀ t ∈ f.params.toList, P.readableRec t = true ∧ t < P.types.size) (hW : DataW.Whole enc P f.params.toList s.vars false W args.toList ds gs before) (hv : s.vars = [])
    (hs : s.fn H (ds ++ gs) = { results := [.lit (.bool true)], args := ds }) (hb : Below W.heap.size W W') : s.post enc P f false true false false W args (.bool true) W' := by
  have hlt : ∀ x ∈ before, x.block < W.heap.size := fun x hx => by simpa using hW.lt x hx
  obtain ⟨p, q, hA, hV, e, hfz, hnd⟩ := hW
  have hV0 := hV
  rw [hv] at hV0
  obtain ⟨rfl, rfl⟩ := trodVars_none hV0
  refine ⟨ds, [], before, [], p, [], ⟨p, [], hA, hV, e, hfz, hnd⟩, ?_, ?_, ?_, hb.frame _, fun h => by cases h⟩
  · rw [hs, hres]
    exact trodAll_mk1 (shut_bool htb _)
  · rw [hs]
    exact trodAll_below hl hb ht hA (fun x hx => hlt x (by rw [e]; exact List.mem_append_left _ hx))
  · rw [hs, hv]; rfl
end

theorem wf_has {k : IntKind} {n : Int} (h : (Lit.int k n).wf = true) : k.has n := by
  simp only [Lit.wf, Bool.and_eq_true, decide_eq_true_eq] at h
  simp [IntKind.has, h]

/-- A slice of numbers that was handed over. -/
theorem rd_ints {W : World} {k : IntKind} {a : Addr} {len cap : Nat} {zs : List Int} (hl : len ≤ cap) (hlen : len ≤ zs.length) (hL : len ≤ LIM) (hc : ∀ i, i < zs.length → W.cell? (a.add i) = some (.int k (zs.getD i 0))) (hw : ∀ n ∈ zs, (Lit.int k n).wf = true) :
    Rd W (fun b => b < W.heap.size) (.v (.sl ((zs.take len).map (.int k))) (.slice (some a) len cap)) := by
  by_cases h0 : len = 0
  · subst h0; exact .sl0
  · have hsp : a.spot = none := by
      have := World.cell?_spot (hc 0 (by omega))
      unfold Addr.add at this
      split at this <;> simp_all
    obtain ⟨b, off, sp⟩ := a
    simp only at hsp
    subst hsp
    have hcell : ∀ i, i < zs.length → W.cell? ⟨b, off + i, none⟩ = some (.int k (zs.getD i 0)) := fun i hi => by
      have := hc i hi
      unfold Addr.add at this
      split at this
      · rename_i h; subst h; exact this
      · exact this
    have hlen2 : ((zs.take len).map (D.int k)).length = len := by simp; omega
    have := Rd.sl (w := W) (R := fun b => b < W.heap.size) (es := (zs.take len).map (D.int k)) (b := b) (off := off) (s := 1) (cap := cap) (World.block_lt_of_cell? W _ (hcell 0 (by omega)))
      (by intro h; rw [h] at hlen2; simp at hlen2; omega) (by omega) (by omega) (by omega) (fun e he => by obtain ⟨n, _, rfl⟩ := List.mem_map.1 he; rfl) (fun i e hi => by
        rw [List.getElem?_map] at hi
        obtain ⟨n, hn, rfl⟩ := Option.map_eq_some_iff.1 hi
        rw [List.getElem?_take] at hn
        split at hn
        · rename_i hi2
          have hn2 : zs.getD i 0 = n := by simp [hn]
          refine .elc rfl ?_ (.int (wf_has (hw n (List.mem_of_getElem? hn))))
          rw [Nat.mul_one, hcell i (by omega), hn2]
        · cases hn)
    rw [hlen2] at this
    exact this
end Go.Sim

namespace Go.Sim
open Go.ChangeShapes Go.WideShapes Go.RowKit
variable {P : Program}

/-- The form of a type. -/
inductive Sh where
  | int (k : IntKind)
  | bool
  | str
  | sl (s : Sh)
  | agg (fs : List Sh)
  deriving Inhabited

mutual
def Sh.size : Sh → Nat
  | .agg fs => Sh.sizeL fs
  | _ => 1
def Sh.sizeL : List Sh → Nat
  | [] => 0
  | s :: l => s.size + Sh.sizeL l
end
def BIG : Nat := 1048576
mutual
def Sh.has : Sh → D → Prop
  | .int k, .int k' n => k' = k ∧ k.has n
  | .bool, .bool _ => True
  | .str, .str s => s.length ≤ BIG
  | .sl s, .sl es => es.length ≤ BIG ∧ ∀ e ∈ es, Sh.has s e
  | .agg fs, .agg cs => Sh.hasL fs cs
  | _, _ => False
def Sh.hasL : List Sh → List D → Prop
  | [], cs => cs = []
  | s :: l, cs => ∃ x r, Sh.has s x ∧ cs = x.cells ++ r ∧ Sh.hasL l r
end

def tyFs (P : Program) (F : TypeId → Option Sh) : Nat → List Field → Option (List Sh)
  | _, [] => some []
  | off, f :: fs =>
    match F f.type with
    | some s => if f.offset = off ∧ P.cellsOf f.type = s.size then (tyFs P F (off + s.size) fs).map (s :: ·) else none
    | none => none
def tySh (P : Program) : Nat → TypeId → Option Sh
  | 0, _ => none
  | n + 1, t =>
    match P.underlying t with
    | some .bool => some .bool
    | some (.int k) => some (.int k)
    | some .string => some .str
    | some (.slice e) => match tySh P n e with | some s => if P.cellsOf e = s.size ∧ 0 < s.size then some (.sl s) else none | none => none
    | some (.struct fs) => match tyFs P (tySh P n) 0 fs.toList with | some l => if P.cellsOf t = Sh.sizeL l then some (.agg l) else none | none => none
    | _ => none

/-- How much is read. -/
structure Bulk {H : Type} (B : DataW H → Nat) (Bs : List (DataW H) → Nat) : Prop where
  sl : ∀ es sp, B (.slice es sp) = Bs es + Bs sp + 1
  agg : ∀ ps, B (.agg ps) = Bs ps + 1
  str : ∀ s, B (.lit (.string s)) = s.length + 1
  nil : Bs [] = 0
  cons : ∀ d r, Bs (d :: r) = B d + Bs r
  pos : ∀ d, 1 ≤ B d
theorem Bulk.len {H : Type} {B : DataW H → Nat} {Bs : List (DataW H) → Nat} (b : Bulk B Bs) : ∀ l : List (DataW H), l.length ≤ Bs l := by
  intro l
  induction l with
  | nil => simp
  | cons d r ih => rw [b.cons, List.length_cons]; have := b.pos d; omega
theorem Bulk.mem {H : Type} {B : DataW H → Nat} {Bs : List (DataW H) → Nat} (b : Bulk B Bs) {d : DataW H} : ∀ {l : List (DataW H)}, d ∈ l → B d ≤ Bs l := by
  intro l
  induction l with
  | nil => intro h; cases h
  | cons e r ih =>
    intro h
    rw [b.cons]
    cases h with
    | head => omega
    | tail _ h => have := ih h; omega

theorem choose_list {n : Nat} {Q : Nat → D → Prop} (h : ∀ i, i < n → ∃ x, Q i x) : ∃ es : List D, es.length = n ∧ ∀ i e, es[i]? = some e → Q i e := by
  induction n with
  | zero => exact ⟨[], rfl, fun i e he => by simp at he⟩
  | succ n ih =>
    obtain ⟨es, hl, hq⟩ := ih fun i hi => h i (by omega)
    obtain ⟨x, hx⟩ := h n (by omega)
    refine ⟨es ++ [x], by simp [hl], fun i e he => ?_⟩
    by_cases hi : i < es.length
    · rw [List.getElem?_append_left hi] at he; exact hq i e he
    · rw [List.getElem?_append_right (by omega)] at he
      by_cases hi2 : i - es.length = 0
      · rw [hi2] at he
        simp at he
        subst he
        rw [show i = n by omega]
        exact hx
      · rw [List.getElem?_eq_none (by simp; omega)] at he; cases he

theorem Sh.has_notup {s : Sh} {x : D} (h : Sh.has s x) : ∀ vs, x ≠ .tup vs := by
  intro vs e
  subst e
  cases s <;> simp [Sh.has] at h

variable {H : Type} {enc : TypeId × Value → H} {w : World} {spare : Nat → Bool} {held : Bool} {B : DataW H → Nat} {Bs : List (DataW H) → Nat}

/-- Cells and what they read as. -/
def CellsRd (w : World) (r : List D) (cs : List Value) : Prop := r.length = cs.length ∧ ∀ (i : Nat) (c : D) (u : Value), r[i]? = some c → cs[i]? = some u → c.cell = true ∧ Rd w (fun b => b < w.heap.size) (.v c u)

theorem fields_rd (hB : Bulk B Bs) {F : TypeId → Option Sh} {n : Nat} {cs : List Value}
    (ih : ∀ t cs d ps sh, DataW.trod enc P w 0 spare held n t cs = some (d, ps) → F t = some sh → B d ≤ BIG → ∃ x, Sh.has sh x ∧ x.size = sh.size ∧ CellsRd w x.cells cs) :
    ∀ (fs : List Field) (off : Nat) (shs : List Sh) (xs : List (DataW H × List MemPlace)), tyFs P F off fs = some shs → xs.length = fs.length → Bs (xs.map (·.1)) ≤ BIG →
      (∀ (i : Nat) (f : Field), fs[i]? = some f → DataW.trod enc P w 0 spare held n f.type ((cs.drop f.offset).take (P.cellsOf f.type)) = xs[i]?) → off + Sh.sizeL shs ≤ cs.length →
      ∃ r : List D, Sh.hasL shs r ∧ r.length = Sh.sizeL shs ∧ ∀ (j : Nat) (c : D) (u : Value), r[j]? = some c → cs[off + j]? = some u → c.cell = true ∧ Rd w (fun b => b < w.heap.size) (.v c u) := by
  intro fs
  induction fs with
  | nil =>
    intro off shs xs h1 _ _ _ _
    simp only [tyFs, Option.some.injEq] at h1
    subst h1
    exact ⟨[], rfl, rfl, fun j c u h => by simp at h⟩
  | cons f fs ihf =>
    intro off shs xs h1 h2 h3 h4 h5
    simp only [tyFs] at h1
    split at h1
    · rename_i s hs
      split at h1
      · rename_i hc
        obtain ⟨shs', h6, rfl⟩ := Option.map_eq_some_iff.1 h1
        cases xs with
        | nil => simp at h2
        | cons y ys =>
          obtain ⟨d, ps⟩ := y
          simp only [List.map_cons, hB.cons] at h3
          simp only [Sh.sizeL] at h5
          have hf := h4 0 f rfl
          simp only [List.getElem?_cons_zero] at hf
          obtain ⟨x, hx1, hx2, hx3, hx4⟩ := ih f.type _ d ps s hf hs (by omega)
          obtain ⟨r, hr1, hr2, hr3⟩ := ihf (off + s.size) shs' ys h6 (by simpa using h2) (by omega) (fun i g hg => by simpa using h4 (i + 1) g (by simpa using hg)) (by omega)
          have hxl : x.cells.length = s.size := hx2
          refine ⟨x.cells ++ r, ⟨x, r, hx1, rfl, hr1⟩, by rw [List.length_append, hr2, hxl]; rfl, fun j c u hj hu => ?_⟩
          by_cases hlt : j < s.size
          · rw [List.getElem?_append_left (by omega)] at hj
            refine hx4 j c u hj ?_
            rw [hc.1, hc.2, List.getElem?_take, if_pos hlt, List.getElem?_drop]
            exact hu
          · rw [List.getElem?_append_right (by omega), hxl] at hj
            exact hr3 (j - s.size) c u hj (by rw [show off + s.size + (j - s.size) = off + j by omega]; exact hu)
      · cases h1
    · cases h1

theorem open_any (hB : Bulk B Bs) : ∀ (n : Nat) (m : Nat) (t : TypeId) (cs : List Value) (d : DataW H) (ps : List MemPlace) (sh : Sh), DataW.trod enc P w 0 spare held n t cs = some (d, ps) → tySh P m t = some sh → B d ≤ BIG →
    ∃ x, Sh.has sh x ∧ x.size = sh.size ∧ CellsRd w x.cells cs := by
  intro n
  induction n using Nat.strongRecOn with
  | ind n ih =>
    intro m t cs d ps sh h hsh hb
    cases m with
    | zero => cases hsh
    | succ m =>
      simp only [tySh] at hsh
      split at hsh
      · rename_i ht
        cases hsh
        obtain ⟨b, rfl, hx⟩ := DataW.trod_bool ht h
        exact ⟨.bool b, trivial, rfl, rfl, fun i c u hc hu => by
          cases i with
          | zero => simp [D.cells] at hc hu; subst hc; subst hu; exact ⟨rfl, .bool⟩
          | succ i => simp [D.cells] at hc⟩
      · rename_i k ht
        cases hsh
        obtain ⟨z, rfl, hx, hw⟩ := DataW.trod_int ht h
        exact ⟨.int k z, ⟨rfl, wf_has hw⟩, rfl, rfl, fun i c u hc hu => by
          cases i with
          | zero => simp [D.cells] at hc hu; subst hc; subst hu; exact ⟨rfl, .int (wf_has hw)⟩
          | succ i => simp [D.cells] at hc⟩
      · rename_i ht
        cases hsh
        obtain ⟨s, rfl, hx, _⟩ := DataW.trod_string ht h
        simp only [Prod.mk.injEq] at hx
        obtain ⟨rfl, -⟩ := hx
        rw [hB.str] at hb
        have hs : s.data.toList.length ≤ BIG := by omega
        refine ⟨.str s.data.toList, hs, rfl, rfl, fun i c u hc hu => ?_⟩
        cases i with
        | zero =>
          simp [D.cells] at hc hu; subst hc; subst hu
          have := Rd.str (w := w) (R := fun b => b < w.heap.size) (s := s.data.toList) (Nat.le_trans hs (by simp [BIG, LIM]))
          simp only [Array.toArray_toList] at this
          exact ⟨rfl, this⟩
        | succ i => simp [D.cells] at hc
      · rename_i e ht
        split at hsh
        · rename_i s hse
          split at hsh
          · rename_i hc
            cases hsh
            rcases DataW.trod_slice ht h with ⟨rfl, hx⟩ | ⟨a, len, cap, elems, rest, n', rfl, rfl, hx, hbase, hl, hm, hlen, hel, hsp, hns⟩
            · exact ⟨.sl [], ⟨by simp, by simp⟩, rfl, rfl, fun i c u hc hu => by
                cases i with
                | zero => simp [D.cells] at hc hu; subst hc; subst hu; exact ⟨rfl, .sl0⟩
                | succ i => simp [D.cells] at hc⟩
            · simp only [Prod.mk.injEq] at hx
              obtain ⟨rfl, -⟩ := hx
              rw [hB.sl] at hb
              have hlb := hB.len (elems.map (·.1))
              rw [List.length_map, hlen] at hlb
              have each : ∀ i, i < len → ∃ x, Sh.has s x ∧ x.size = s.size ∧ ∃ cs', w.cells? 0 (a.add (i * P.cellsOf e)) (P.cellsOf e) = some cs' ∧ CellsRd w x.cells cs' := by
                intro i hi
                have h1 := hel i hi
                rw [List.getElem?_eq_getElem (by omega)] at h1
                obtain ⟨cs', h2, h3⟩ := Option.bind_eq_some_iff.1 h1
                obtain ⟨x, hx1, hx2, hx3⟩ := ih n' (by omega) m e cs' (elems[i]'(by omega)).1 (elems[i]'(by omega)).2 s h3 hse (by
                  have := hB.mem (d := (elems[i]'(by omega)).1) (l := elems.map (·.1)) (List.mem_map_of_mem (List.getElem_mem _)); omega)
                exact ⟨x, hx1, hx2, cs', h2, hx3⟩
              obtain ⟨es, hes1, hes2⟩ := choose_list each
              have hall : ∀ x ∈ es, Sh.has s x ∧ x.size = s.size := fun x hx => by
                obtain ⟨i, hi⟩ := List.getElem?_of_mem hx
                exact ⟨(hes2 i x hi).1, (hes2 i x hi).2.1⟩
              refine ⟨.sl es, ⟨by omega, fun x hx => (hall x hx).1⟩, rfl, rfl, fun i c u hcc hu => ?_⟩
              cases i with
              | succ i => simp [D.cells] at hcc
              | zero =>
                simp [D.cells] at hcc hu; subst hcc; subst hu
                refine ⟨rfl, ?_⟩
                subst hes1
                by_cases h0 : es = []
                · subst h0; exact .sl0
                · have hpos := List.length_pos_iff.2 h0
                  have hce : P.cellsOf e = s.size := hc.1
                  obtain ⟨_, _, cs0, hcs0, _⟩ := hes2 0 es[0] (List.getElem?_eq_getElem hpos)
                  have hc0 := (World.cells?_some hcs0).2.2 0 (by omega)
                  have hl0 := (World.cells?_some hcs0).2.1
                  rw [List.getElem?_eq_getElem (by omega)] at hc0
                  obtain ⟨b, off, spot⟩ := a
                  have hspot : spot = none := by
                    have := World.cell?_spot hc0
                    unfold Addr.add at this
                    revert this
                    split <;> (try split) <;> simp_all
                  subst hspot
                  have hlt : b < w.heap.size := World.block_lt_of_cell? w _ (by simpa [add_plain] using hc0)
                  refine .sl (s := s.size) hlt h0 hc.2 (by simp only [LIM, BIG] at *; omega) hl (fun x hx => (hall x hx).2) fun i x hx => ?_
                  obtain ⟨hx1, hx2, cs', hcs', hx3, hx4⟩ := hes2 i x hx
                  obtain ⟨_, hl', hcell'⟩ := World.cells?_some hcs'
                  refine Rd.el_of_cells (Sh.has_notup hx1) fun j c hj => ?_
                  have hjl : j < s.size := by
                    have h1 := (List.getElem?_eq_some_iff.1 hj).1
                    have h2 : x.cells.length = s.size := hx2
                    omega
                  have hu : cs'[j]? = some (cs'[j]'(by omega)) := List.getElem?_eq_getElem (by omega)
                  obtain ⟨k1, k2⟩ := hx4 j c _ hj hu
                  refine ⟨k1, _, ?_, k2⟩
                  have := hcell' j (by omega)
                  rw [add_plain, add_plain, hu, hce] at this
                  exact this
          · cases hsh
        · cases hsh
      · rename_i fs ht
        split at hsh
        · rename_i l hl
          split at hsh
          · rename_i hc
            cases hsh
            obtain ⟨xs, n', rfl, hx, hcl, hxl, hf⟩ := DataW.trod_struct ht h
            simp only [Prod.mk.injEq] at hx
            obtain ⟨rfl, -⟩ := hx
            rw [hB.agg] at hb
            obtain ⟨r, hr1, hr2, hr3⟩ := fields_rd (cs := cs) hB (fun t cs d ps sh h1 h2 h3 => ih n' (by omega) m t cs d ps sh h1 h2 h3) fs.toList 0 l xs hl (by simpa using hxl) (by omega) (fun i f hi => hf i f (by simpa using hi)) (by omega)
            exact ⟨.agg r, hr1, hr2, by rw [show D.cells (.agg r) = r from rfl]; omega, fun i c u hc hu => hr3 i c u hc (by simpa using hu)⟩
          · cases hsh
        · cases hsh
      · cases hsh

/-- One argument. -/
theorem open_arg (hB : Bulk B Bs) {m : Nat} {base : Nat} {t : TypeId} {v : Value} {d : DataW H} {ps : List MemPlace} {sh : Sh} (h : DataW.Trod enc P w 0 spare held t v d ps) (hsh : tySh P m t = some sh) (hb : B d ≤ BIG)
    (hv : Value.okWide P w .any base t v) : ∃ x, Sh.has sh x ∧ Rd w (fun b => b < w.heap.size) (.v x v) := by
  obtain ⟨fuel, hf⟩ := h
  obtain ⟨x, h1, h2, h3, h4⟩ := open_any hB fuel m t _ d ps sh hf hsh hb
  refine ⟨x, h1, ?_⟩
  cases m with
  | zero => cases hsh
  | succ m =>
    have one : ∀ u : Value, v = u → u.cells.toList = [u] → x.cell = true → Rd w (fun b => b < w.heap.size) (.v x v) := by
      intro u e1 e2 e3
      subst e1
      exact (h4 0 x v (by rw [D.cells_cell e3]; rfl) (by rw [e2]; rfl)).2
    simp only [tySh] at hsh
    split at hsh
    · rename_i ht
      cases hsh
      obtain ⟨b, hv⟩ := okWide_bool ht hv
      cases x <;> simp [Sh.has] at h1
      exact one _ hv rfl rfl
    · rename_i k ht
      cases hsh
      obtain ⟨b, hv⟩ := okWide_int ht hv
      cases x <;> simp [Sh.has] at h1
      exact one _ hv rfl rfl
    · rename_i ht
      cases hsh
      obtain ⟨b, hv⟩ := okWide_string ht hv
      cases x <;> simp [Sh.has] at h1
      exact one _ hv rfl rfl
    · rename_i e ht
      obtain ⟨a, len, cap, hv⟩ := okWide_slice ht hv
      split at hsh
      · split at hsh
        · cases hsh
          cases x <;> simp [Sh.has] at h1
          exact one _ hv rfl rfl
        · cases hsh
      · cases hsh
    · rename_i fs ht
      obtain ⟨cs, rfl, _⟩ := okWide_struct ht hv
      split at hsh
      · split at hsh
        · cases hsh
          cases x <;> simp [Sh.has] at h1
          rename_i cells
          have := Rd.agg (w := w) (R := fun b => b < w.heap.size) (cs := cells) (vs := cs.toList) (by simpa [D.cells, Value.cells] using h3.symm) (fun c hc => by
            obtain ⟨i, hi⟩ := List.getElem?_of_mem hc
            have hlt := (List.getElem?_eq_some_iff.1 hi).1
            have hlen : cells.length = cs.toList.length := by simpa [D.cells, Value.cells] using h3
            exact (h4 i c (cs.toList[i]'(by omega)) hi (by simp [Value.cells])).1) (fun i c u hc hu => (h4 i c u hc (by simpa [Value.cells] using hu)).2)
          simpa using this
        · cases hsh
      · cases hsh
    · cases hsh
end Go.Sim

namespace Go.Proofs.Ytkdjbfjohbiemaa
open Go Go.Sim
set_option linter.unusedSimpArgs false
set_option linter.unusedVariables false
set_option maxHeartbeats 10000000
theorem ex_list {α : Type} {f : α → D} {s : Sh} {x : D} (h : Sh.has (.sl s) x) (hs : ∀ e, Sh.has s e → ∃ a, e = f a) : ∃ l : List α, x = .sl (l.map f) ∧ l.length ≤ BIG := by
  cases x <;> simp only [Sh.has] at h
  rename_i es
  obtain ⟨h1, h2⟩ := h
  have : ∃ l : List α, es = l.map f := by
    clear h1
    induction es with
    | nil => exact ⟨[], rfl⟩
    | cons e es ih =>
      obtain ⟨a, rfl⟩ := hs e (h2 e (by simp))
      obtain ⟨l, rfl⟩ := ih fun e he => h2 e (by simp [he])
      exact ⟨a :: l, rfl⟩
  obtain ⟨l, rfl⟩ := this
  exact ⟨l, rfl, by simpa using h1⟩
theorem ex_int {k : IntKind} {x : D} (h : Sh.has (.int k) x) : ∃ n : Int, x = .int k n ∧ k.has n := by
  cases x <;> simp only [Sh.has] at h
  obtain ⟨rfl, h⟩ := h
  exact ⟨_, rfl, h⟩
theorem ex_ints {x : D} (h : Sh.has (.sl (.int .i64)) x) : ∃ l : List Int, x = .sl (ints l) ∧ l.length ≤ BIG := ex_list h fun e he => by obtain ⟨n, rfl, _⟩ := ex_int he; exact ⟨n, rfl⟩
end Go.Proofs.Ytkdjbfjohbiemaa
