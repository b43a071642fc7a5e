/-
  The reader at its beginning.
  The laws of lockers: New, Script.
  Equality of rings, tables, shards, stores, directories and arenas.
  Lockers: what their steps keep; the law of scripts.
  Lockers: the law of scripts, whole.
  Lockers: who owns which cell.
  Lockers that step in turn: all come to an end.
-/
import Derived.Test.YtkdjbfjohbiemaaB70941a6
import Derived.Test.YtkdjbfjohbiemaaBeee4b7c
set_option linter.unusedSimpArgs false
set_option linter.unusedVariables false
namespace Go.Proofs.Ytkdjbfjohbiemaa
open Go Go.Sim
set_option linter.unusedSimpArgs false
set_option linter.unusedVariables false
set_option maxHeartbeats 10000000
set_option maxRecDepth 40000
theorem new_ok2 (l : List Int) (hL : l.length ≤ LIM) : ∃ t : List Int, t.length ≤ 4000 ∧ callL G N_base_New [.d (.sl (ints l))] [] = some (.ref 0 0 0, [(0, .row [.d (.agg [.sl (ints t), .int .i64 0])])]) := ⟨l.take 4000, by simp; omega, new_ok l hL⟩
theorem n_ok0 (l : List Int) (n : Int) (hL : l.length ≤ 4000) (h1 : 1 ≤ n) (h2 : n ≤ 4294967296) : callL G N_base_Src_N [.ref 1000000 0 0, .d (.int .i64 n)] [(1000000, .row [.d (.agg [.sl (ints l), .int .i64 0])])] = some (.d (.int .i64 (nD l 0 n)), [(1000000, srcO l (rawD l 0).2)]) := n_ok l 0 n hL h1 h2
theorem range_ok0 (l : List Int) (lo hi : Int) (hL : l.length ≤ 4000) (h0 : -4294967296 ≤ lo) (h1 : lo ≤ hi) (h2 : hi ≤ 4294967296) (h3 : hi - lo < 4294967296) : callL G N_base_Src_Range [.ref 1000000 0 0, .d (.int .i64 lo), .d (.int .i64 hi)] [(1000000, .row [.d (.agg [.sl (ints l), .int .i64 0])])] = some (.d (.int .i64 (lo + nD l 0 (hi - lo + 1))), [(1000000, srcO l (rawD l 0).2)]) := range_ok l 0 lo hi hL h0 h1 h2 h3
theorem more_ok (l : List Int) (a : Nat) (hL : l.length ≤ 4000) : callL G N_base_Src_More [.d (.pd (.agg [.sl (ints l), .int .i64 a]))] [] = some (.d (.bool (decide ((a : Int) < l.length))), []) := by
  rw [callL_code g_base_Src_More (by simp)]; simp -implicitDefEqProofs (maxSteps := 4000000) (disch := omega) only [c_base_Src_More, r_base_Src_More, getDT, go_sem, *]; (try simp only [pA, pB, pC, pD, pE, pF, pG, pH, pI, pJ, pK, pL, pM, pN, pO, pP, if_true, if_false]); repeat' (first | done | rfl | (refine iteC (fun hq => ?_) (fun hq => ?_) <;> (try (first | (exfalso; omega) | contradiction)) <;> (try simp -implicitDefEqProofs (maxSteps := 4000000) (disch := omega) only [getDT, go_sem, *]) <;> (try simp only [pA, pB, pC, pD, pE, pF, pG, pH, pI, pJ, pK, pL, pM, pN, pO, pP, if_true, if_false]))); (all_goals try rfl); (all_goals try (repeat' (first | done | rfl | (exfalso; omega) | contradiction | (refine iteR (fun hq => ?_) (fun hq => ?_)))))
theorem setup_ok (l : List Int) (a : Nat) (hL : l.length ≤ 4000) : ∃ x a', (1 ≤ x.slots ∧ x.slots ≤ 4 ∧ 1 ≤ x.live ∧ x.live ≤ x.slots ∧ 1 ≤ x.capacity ∧ x.capacity ≤ 5 ∧ 1 ≤ x.dead ∧ x.dead ≤ 4 ∧ 1 ≤ x.limit ∧ x.limit ≤ 3 ∧ 0 ≤ x.clock ∧ x.clock ≤ 1073741824 ∧ 1 ≤ x.nextID ∧ x.nextID ≤ 1073741824 ∧ 0 ≤ x.epoch ∧ x.epoch ≤ 65536) ∧ callL G N_base_Src_Setup [.ref 1000000 0 0] [(1000000, srcO l a)] = some (.d (eSetup x), [(1000000, srcO l a')]) := by
  obtain ⟨a1, q1⟩ : ∃ a1, a1 = (rawD l a).2 := ⟨_, rfl⟩
  obtain ⟨a2, q2⟩ : ∃ a2, a2 = (rawD l a1).2 := ⟨_, rfl⟩
  obtain ⟨a3, q3⟩ : ∃ a3, a3 = (rawD l a2).2 := ⟨_, rfl⟩
  obtain ⟨a4, q4⟩ : ∃ a4, a4 = (rawD l a3).2 := ⟨_, rfl⟩
  obtain ⟨a5, q5⟩ : ∃ a5, a5 = (rawD l a4).2 := ⟨_, rfl⟩
  obtain ⟨a6, q6⟩ : ∃ a6, a6 = (rawD l a5).2 := ⟨_, rfl⟩
  have n1 := nD_in l a (n := 4) (by omega)
  have n2 := nD_in l a1 (n := 5) (by omega)
  have n3 := nD_in l a2 (n := 4) (by omega)
  have n4 := nD_in l a3 (n := 3) (by omega)
  have n5 := nD_in l a4 (n := 1 + nD l a 4 - 1 + 1) (by omega)
  have n6 := nD_in l a5 (n := 12) (by omega)
  have n7 := nD_in l a6 (n := 200) (by omega)
  have n8 := nD_in l a6 (n := 4) (by omega)
  have n9 := nD_in l a6 (n := 3) (by omega)
  by_cases c1 : nD l a5 12 = 9
  · refine ⟨⟨1 + nD l a 4, 1 + nD l a4 (1 + nD l a 4 - 1 + 1), 1 + nD l a1 5, 1 + nD l a2 4, 1 + nD l a3 3, 1073741824 - nD l a6 200, 1, 0⟩, (rawD l a6).2, by simp only; omega, ?_⟩
    simp only [eSetup]
    rw [callL_code g_base_Src_Setup (by simp)]; simp -implicitDefEqProofs (maxSteps := 4000000) (disch := omega) only [c_base_Src_Setup, r_base_Src_Setup, go_sem, n_ok, range_ok, ← q1, ← q2, ← q3, ← q4, ← q5, ← q6, c1]
  by_cases c2 : nD l a5 12 = 10
  · refine ⟨⟨1 + nD l a 4, 1 + nD l a4 (1 + nD l a 4 - 1 + 1), 1 + nD l a1 5, 1 + nD l a2 4, 1 + nD l a3 3, 0, 1073741824 - nD l a6 4, 0⟩, (rawD l a6).2, by simp only; omega, ?_⟩
    simp only [eSetup]
    rw [callL_code g_base_Src_Setup (by simp)]; simp -implicitDefEqProofs (maxSteps := 4000000) (disch := omega) only [c_base_Src_Setup, r_base_Src_Setup, go_sem, n_ok, range_ok, ← q1, ← q2, ← q3, ← q4, ← q5, ← q6, c1, c2]
  by_cases c3 : nD l a5 12 = 11
  · refine ⟨⟨1 + nD l a 4, 1 + nD l a4 (1 + nD l a 4 - 1 + 1), 1 + nD l a1 5, 1 + nD l a2 4, 1 + nD l a3 3, 0, 1, 65536 - nD l a6 3⟩, (rawD l a6).2, by simp only; omega, ?_⟩
    simp only [eSetup]
    rw [callL_code g_base_Src_Setup (by simp)]; simp -implicitDefEqProofs (maxSteps := 4000000) (disch := omega) only [c_base_Src_Setup, r_base_Src_Setup, go_sem, n_ok, range_ok, ← q1, ← q2, ← q3, ← q4, ← q5, ← q6, c1, c2, c3]
  · refine ⟨⟨1 + nD l a 4, 1 + nD l a4 (1 + nD l a 4 - 1 + 1), 1 + nD l a1 5, 1 + nD l a2 4, 1 + nD l a3 3, 0, 1, 0⟩, a6, by simp only; omega, ?_⟩
    simp only [eSetup]
    rw [callL_code g_base_Src_Setup (by simp)]; simp -implicitDefEqProofs (maxSteps := 4000000) (disch := omega) only [c_base_Src_Setup, r_base_Src_Setup, go_sem, n_ok, range_ok, ← q1, ← q2, ← q3, ← q4, ← q5, ← q6, c1, c2, c3]
theorem setup_ok0 (l : List Int) (hL : l.length ≤ 4000) : ∃ x a', (1 ≤ x.slots ∧ x.slots ≤ 4 ∧ 1 ≤ x.live ∧ x.live ≤ x.slots ∧ 1 ≤ x.capacity ∧ x.capacity ≤ 5 ∧ 1 ≤ x.dead ∧ x.dead ≤ 4 ∧ 1 ≤ x.limit ∧ x.limit ≤ 3 ∧ 0 ≤ x.clock ∧ x.clock ≤ 1073741824 ∧ 1 ≤ x.nextID ∧ x.nextID ≤ 1073741824 ∧ 0 ≤ x.epoch ∧ x.epoch ≤ 65536) ∧ callL G N_base_Src_Setup [.ref 1000000 0 0] [(1000000, .row [.d (.agg [.sl (ints l), .int .i64 0])])] = some (.d (eSetup x), [(1000000, srcO l a')]) := setup_ok l 0 hL
end Go.Proofs.Ytkdjbfjohbiemaa

namespace Go.Proofs.Ytkdjbfjohbiemaa
open Go Go.Sim
set_option linter.unusedSimpArgs false
set_option linter.unusedVariables false
set_option maxHeartbeats 10000000
set_option maxRecDepth 40000
def setup3 : Setup := ⟨3, 1, 1, 1, 1, 0, 1, 0⟩
theorem awake13_ok : callL G N_law13_awake [] [] = some (.d (.bool true), []) := by
  obtain ⟨a, b, c, ha, h1, h2, f1, f2, f3, f4, f5⟩ : ∃ a b c : Arena, arenaNew setup3 = (a, 0) ∧ lockStep a ⟨[0, 2], 0, 0, 0, 0⟩ 1 = (b, ⟨[0, 2], 0, 1, 0, 0⟩, 0) ∧ lockStep b ⟨[0, 2], 0, 1, 0, 0⟩ 1 = (c, ⟨[0, 2], 3, 2, 0, 0⟩, 0) ∧ a.slots.length = 3 ∧ b.slots.length = 3 ∧ c.slots.length = 3 ∧ (c.slots.getD 2 zSlot).owner = 1 ∧ (c.slots.getD 1 zSlot).owner = 0 :=
    ⟨(arenaNew setup3).1, _, _, by decide, by rfl, by rfl, by decide, by decide, by decide, by decide, by decide⟩
  have e0 := arenaNew_ok setup3
  rw [ha] at e0
  have e1 := lnew_ok [0, 2] (by decide)
  rw [show lockNew [0, 2] = (⟨[0, 2], 0, 0, 0, 0⟩, 0) by decide] at e1
  have e2 := lstep_ok a ⟨[0, 2], 0, 0, 0, 0⟩ 1 (by omega) (by constructor <;> decide)
  rw [h1] at e2
  have e3 := lstep_ok b ⟨[0, 2], 0, 1, 0, 0⟩ 1 (by omega) (by constructor <;> decide)
  rw [h2] at e3
  have e4 := lfree_ok ⟨[0, 2], 3, 2, 0, 0⟩
  rw [show lockFree ⟨[0, 2], 3, 2, 0, 0⟩ = (⟨[0, 2], 4, 2, 0, 0⟩, 0) by decide] at e4
  rw [getDT (by omega)] at f4 f5
  clear ha h1 h2
  simp only [eSetup, setup3, eLocker, ints, List.map_cons, List.map_nil] at e0 e1 e2 e3 e4
  rw [callL_code g_law13_awake (by simp)]; simp -implicitDefEqProofs (disch := omega) only [c_law13_awake, r_law13_awake, getDT, go_sem, *]; (try simp only [pA, pB, pC, pD, pE, pF, pG, pH, pI, pJ, pK, pL, pM, pN, pO, if_true, if_false]); repeat' (first | done | rfl | (refine iteC (fun hq => ?_) (fun hq => ?_) <;> (try (exfalso; omega)) <;> (try simp -implicitDefEqProofs (disch := omega) only [getDT, go_sem, *]) <;> (try simp only [pA, pB, pC, pD, pE, pF, pG, pH, pI, pJ, pK, pL, pM, pN, pO, if_true, if_false]))); (all_goals try rfl); (all_goals try (repeat' (first | done | rfl | (exfalso; omega) | (refine iteR (fun hq => ?_) (fun hq => ?_)))))
theorem lnl_loop (cells l : List Int) (hL : l.length ≤ 4000) : ∀ p : Nat × Nat × List Int, p.1 ≤ 4 ∧ p.2.2.length + p.1 ≤ 4 → ∃ sm : List Int, sm.length ≤ 4 ∧ loopL G [] l_law13_LockerNew_0 ⟨[(0, .d (.sl (ints cells))), (5, .ref 20 0 0), (6, .acc 6 (ints p.2.2)), (7, .d (.int .i64 p.1))], [(6, .acc p.2.2.length), (20, srcO l p.2.1)]⟩ = some (.exit 0, ⟨[(0, .d (.sl (ints cells))), (6, .acc 6 (ints sm))], [(6, .acc sm.length)]⟩) := by
  refine loop_indP (fun p : Nat × Nat × List Int => p.1) _ (fun p : Nat × Nat × List Int => ⟨[(0, .d (.sl (ints cells))), (5, .ref 20 0 0), (6, .acc 6 (ints p.2.2)), (7, .d (.int .i64 p.1))], [(6, .acc p.2.2.length), (20, srcO l p.2.1)]⟩) (fun p r => ∃ sm : List Int, sm.length ≤ 4 ∧ r = some (.exit 0, ⟨[(0, .d (.sl (ints cells))), (6, .acc 6 (ints sm))], [(6, .acc sm.length)]⟩)) fun ⟨k, a, sm⟩ ⟨hk, hl⟩ L ih => ?_
  simp only at ih hk hl
  have hr := range_ok l a (-1) 7 hL (by omega) (by omega) (by omega) (by omega)
  simp only [l_law13_LockerNew_0]
  by_cases h0 : 0 < k
  · obtain ⟨sm', h1, h2⟩ := ih (k - 1, (rawD l a).2, sm ++ [-1 + nD l a (7 - (-1) + 1)]) ⟨by simp only; omega, by simp only [List.length_append, List.length_singleton]; omega⟩ (by simp only; omega)
    refine ⟨sm', h1, ?_⟩
    simp only [ints] at h2
    rw [show ((k - 1 : Nat) : Int) = (k : Int) - 1 by omega] at h2
    simp only [Int.natCast_add, Int.natCast_one, Int.natCast_zero, Int.natCast_mul, Int.cast_ofNat_Int, List.length_append, List.length_map, List.map_nil, List.length_nil, List.map_append, List.map_cons, List.length_cons, Nat.zero_add, srcO] at h2
    rw [← h2]
    (try simp -implicitDefEqProofs (disch := omega) only [getDT, go_sem, *]); (try simp only [pA, pB, pC, pD, pE, pF, pG, pH, pI, pJ, pK, pL, pM, pN, pO, if_true, if_false]); repeat' (first | done | rfl | (refine iteC (fun hq => ?_) (fun hq => ?_) <;> (try (exfalso; omega)) <;> (try simp -implicitDefEqProofs (disch := omega) only [getDT, go_sem, *]) <;> (try simp only [pA, pB, pC, pD, pE, pF, pG, pH, pI, pJ, pK, pL, pM, pN, pO, if_true, if_false]))); (all_goals try rfl); (all_goals try (repeat' (first | done | rfl | (exfalso; omega) | (refine iteR (fun hq => ?_) (fun hq => ?_)))))
  · refine ⟨sm, by omega, ?_⟩
    (try simp -implicitDefEqProofs (disch := omega) only [getDT, go_sem, *]); (try simp only [pA, pB, pC, pD, pE, pF, pG, pH, pI, pJ, pK, pL, pM, pN, pO, if_true, if_false]); repeat' (first | done | rfl | (refine iteC (fun hq => ?_) (fun hq => ?_) <;> (try (exfalso; omega)) <;> (try simp -implicitDefEqProofs (disch := omega) only [getDT, go_sem, *]) <;> (try simp only [pA, pB, pC, pD, pE, pF, pG, pH, pI, pJ, pK, pL, pM, pN, pO, if_true, if_false]))); (all_goals try rfl); (all_goals try (repeat' (first | done | rfl | (exfalso; omega) | (refine iteR (fun hq => ?_) (fun hq => ?_)))))
theorem lockerNew_law (cells l : List Int) (hC : cells.length ≤ LIM) (hL : l.length ≤ LIM) : callL G N_law13_LockerNew [.d (.sl (ints cells)), .d (.sl (ints l))] [] = some (.d (.bool true), []) := by
  obtain ⟨t, ht, hnew⟩ := new_ok2 l hL
  by_cases c : 20 < cells.length
  · rw [callL_code g_law13_LockerNew (by simp)]; simp -implicitDefEqProofs (disch := omega) only [c_law13_LockerNew, r_law13_LockerNew, getDT, go_sem, *]; (try simp only [pA, pB, pC, pD, pE, pF, pG, pH, pI, pJ, pK, pL, pM, pN, pO, if_true, if_false]); repeat' (first | done | rfl | (refine iteC (fun hq => ?_) (fun hq => ?_) <;> (try (exfalso; omega)) <;> (try simp -implicitDefEqProofs (disch := omega) only [getDT, go_sem, *]) <;> (try simp only [pA, pB, pC, pD, pE, pF, pG, pH, pI, pJ, pK, pL, pM, pN, pO, if_true, if_false]))); (all_goals try rfl); (all_goals try (repeat' (first | done | rfl | (exfalso; omega) | (refine iteR (fun hq => ?_) (fun hq => ?_)))))
  have n0 := n_ok0 t 5 ht (by omega) (by omega)
  have n1 := nD_in t 0 (n := 5) (by omega)
  obtain ⟨k, hk⟩ : ∃ k : Nat, nD t 0 5 = k := ⟨(nD t 0 5).toNat, by omega⟩
  obtain ⟨sm, h1, h2⟩ := lnl_loop cells t ht (k, (rawD t 0).2, []) ⟨by simp only; omega, by simp; omega⟩
  rw [hk] at n0
  simp only [ints] at h2
  simp only [Int.natCast_add, Int.natCast_one, Int.natCast_zero, Int.natCast_mul, Int.cast_ofNat_Int, List.length_append, List.length_map, List.map_nil, List.length_nil, List.map_append, List.map_cons, List.length_cons, Nat.zero_add, srcO] at h2
  have e1 := lnew_ok cells (by omega)
  have e2 := l13new_ok cells (by omega)
  have e3 := lnew_ok sm (by omega)
  have e4 := l13new_ok sm (by omega)
  have hcl : ∀ cs : List Int, (lockNew cs).1.cells.length ≤ 4294967296 := fun cs => by
    unfold lockNew
    by_cases q1 : cs.length = 0 ∨ 3 < cs.length
    · rw [if_pos q1]; simp [zLocker]
    · rw [if_neg q1]
      by_cases q2 : (List.range cs.length).all (lockAt cs) = true
      · rw [if_pos q2]; simp only; omega
      · rw [if_neg q2]; simp [zLocker]
  have s1 := same_Locker (lockNew cells).1 (lockNew cells).1 (hcl _)
  have s2 := same_Locker (lockNew sm).1 (lockNew sm).1 (hcl _)
  have hw := awake13_ok
  clear hcl
  simp only [decide_true] at s1 s2
  rw [callL_code g_law13_LockerNew (by simp)]; simp -implicitDefEqProofs (disch := omega) only [c_law13_LockerNew, r_law13_LockerNew, getDT, go_sem, *]; (try simp only [pA, pB, pC, pD, pE, pF, pG, pH, pI, pJ, pK, pL, pM, pN, pO, if_true, if_false]); repeat' (first | done | rfl | (refine iteC (fun hq => ?_) (fun hq => ?_) <;> (try (exfalso; omega)) <;> (try simp -implicitDefEqProofs (disch := omega) only [getDT, go_sem, *]) <;> (try simp only [pA, pB, pC, pD, pE, pF, pG, pH, pI, pJ, pK, pL, pM, pN, pO, if_true, if_false]))); (all_goals try rfl); (all_goals try (repeat' (first | done | rfl | (exfalso; omega) | (refine iteR (fun hq => ?_) (fun hq => ?_)))))
end Go.Proofs.Ytkdjbfjohbiemaa

namespace Go.Proofs.Ytkdjbfjohbiemaa
open Go Go.Sim
set_option linter.unusedSimpArgs false
set_option linter.unusedVariables false
set_option maxHeartbeats 10000000
set_option maxRecDepth 40000
theorem same_Ring (a b : Ring) (hL : a.cells.length ≤ 4294967296) : callL G N_ref04_Same [.d (eRing a), .d (eRing b)] [] = some (.d (.bool (decide (a = b))), []) := by
  have h1 := same_ref03_Same a.cells b.cells hL
  have e : decide (a = b) = (decide (a.head = b.head) && (decide (a.size = b.size) && decide (a.cells = b.cells))) := by
    cases a; cases b
    apply Bool.eq_iff_iff.2
    simp only [Ring.mk.injEq, decide_eq_true_eq, Bool.and_eq_true]
    exact ⟨fun ⟨p, q, r⟩ => ⟨q, r, p⟩, fun ⟨p, q, r⟩ => ⟨r, p, q⟩⟩
  rw [e]
  rw [callL_code g_ref04_Same (by simp)]; simp -implicitDefEqProofs (maxSteps := 4000000) (disch := omega) only [c_ref04_Same, r_ref04_Same, getDT, go_sem, *]; (try simp only [pA, pB, pC, pD, pE, pF, pG, pH, pI, pJ, pK, pL, pM, pN, pO, pP, if_true, if_false]); repeat' (first | done | rfl | (refine iteC (fun hq => ?_) (fun hq => ?_) <;> (try (first | (exfalso; omega) | contradiction)) <;> (try simp -implicitDefEqProofs (maxSteps := 4000000) (disch := omega) only [getDT, go_sem, *]) <;> (try simp only [pA, pB, pC, pD, pE, pF, pG, pH, pI, pJ, pK, pL, pM, pN, pO, pP, if_true, if_false]))); (all_goals try rfl); (all_goals try (repeat' (first | done | rfl | (exfalso; omega) | contradiction | (refine iteR (fun hq => ?_) (fun hq => ?_)))))
theorem same_Table (a b : Table) (h1 : a.l.length ≤ 4294967296) (h2 : a.heap.length ≤ 4294967296) : callL G N_ref06_Same [.d (eTable a), .d (eTable b)] [] = some (.d (.bool (decide (a = b))), []) := by
  have h1 := same_ref06_SameLeases a.l b.l h1
  have h2 := same_ref05_Same a.heap b.heap h2
  have e : decide (a = b) = (decide (a.l = b.l) && decide (a.heap = b.heap)) := by
    cases a; cases b
    apply Bool.eq_iff_iff.2
    simp only [Table.mk.injEq, decide_eq_true_eq, Bool.and_eq_true]
  rw [e]
  rw [callL_code g_ref06_Same (by simp)]; simp -implicitDefEqProofs (maxSteps := 4000000) (disch := omega) only [c_ref06_Same, r_ref06_Same, getDT, go_sem, *]; (try simp only [pA, pB, pC, pD, pE, pF, pG, pH, pI, pJ, pK, pL, pM, pN, pO, pP, if_true, if_false]); repeat' (first | done | rfl | (refine iteC (fun hq => ?_) (fun hq => ?_) <;> (try (first | (exfalso; omega) | contradiction)) <;> (try simp -implicitDefEqProofs (maxSteps := 4000000) (disch := omega) only [getDT, go_sem, *]) <;> (try simp only [pA, pB, pC, pD, pE, pF, pG, pH, pI, pJ, pK, pL, pM, pN, pO, pP, if_true, if_false]))); (all_goals try rfl); (all_goals try (repeat' (first | done | rfl | (exfalso; omega) | contradiction | (refine iteR (fun hq => ?_) (fun hq => ?_)))))
structure FitS (s : Shard) : Prop where
  a : s.ready.cells.length ≤ 4294967296
  b : s.leases.l.length ≤ 4294967296
  c : s.leases.heap.length ≤ 4294967296
theorem same_Shard (a b : Shard) (h : FitS a) : callL G N_ref07_Same [.d (eShard a), .d (eShard b)] [] = some (.d (.bool (decide (a = b))), []) := by
  obtain ⟨f1, f2, f3⟩ := h
  have h1 := same_Ring a.ready b.ready f1
  have h2 := same_Table a.leases b.leases f2 f3
  have e : decide (a = b) = (decide (a.live = b.live) && (decide (a.low = b.low) && (decide (a.high = b.high) && (decide (a.ready = b.ready) && decide (a.leases = b.leases))))) := by
    cases a; cases b
    apply Bool.eq_iff_iff.2
    simp only [Shard.mk.injEq, decide_eq_true_eq, Bool.and_eq_true]
  rw [e]
  simp only [eRing, eTable] at h1 h2
  rw [callL_code g_ref07_Same (by simp)]; simp -implicitDefEqProofs (maxSteps := 4000000) (disch := omega) only [c_ref07_Same, r_ref07_Same, getDT, go_sem, *]; (try simp only [pA, pB, pC, pD, pE, pF, pG, pH, pI, pJ, pK, pL, pM, pN, pO, pP, if_true, if_false]); repeat' (first | done | rfl | (refine iteC (fun hq => ?_) (fun hq => ?_) <;> (try (first | (exfalso; omega) | contradiction)) <;> (try simp -implicitDefEqProofs (maxSteps := 4000000) (disch := omega) only [getDT, go_sem, *]) <;> (try simp only [pA, pB, pC, pD, pE, pF, pG, pH, pI, pJ, pK, pL, pM, pN, pO, pP, if_true, if_false]))); (all_goals try rfl); (all_goals try (repeat' (first | done | rfl | (exfalso; omega) | contradiction | (refine iteR (fun hq => ?_) (fun hq => ?_)))))
theorem same_Dead (a b : Dead) (h : a.l.length ≤ 4294967296) : callL G N_ref08_Same [.d (eDead a), .d (eDead b)] [] = some (.d (.bool (decide (a = b))), []) := by
  have h1 := same_ref03_Same a.l b.l h
  have e : decide (a = b) = (decide (a.cap = b.cap) && decide (a.l = b.l)) := by
    cases a; cases b
    apply Bool.eq_iff_iff.2
    simp only [Dead.mk.injEq, decide_eq_true_eq, Bool.and_eq_true]
  rw [e]
  rw [callL_code g_ref08_Same (by simp)]; simp -implicitDefEqProofs (maxSteps := 4000000) (disch := omega) only [c_ref08_Same, r_ref08_Same, getDT, go_sem, *]; (try simp only [pA, pB, pC, pD, pE, pF, pG, pH, pI, pJ, pK, pL, pM, pN, pO, pP, if_true, if_false]); repeat' (first | done | rfl | (refine iteC (fun hq => ?_) (fun hq => ?_) <;> (try (first | (exfalso; omega) | contradiction)) <;> (try simp -implicitDefEqProofs (maxSteps := 4000000) (disch := omega) only [getDT, go_sem, *]) <;> (try simp only [pA, pB, pC, pD, pE, pF, pG, pH, pI, pJ, pK, pL, pM, pN, pO, pP, if_true, if_false]))); (all_goals try rfl); (all_goals try (repeat' (first | done | rfl | (exfalso; omega) | contradiction | (refine iteR (fun hq => ?_) (fun hq => ?_)))))
theorem sd_loop0 (a b : Directory) (hL : a.l.length ≤ 4294967296) (hab : a.l.length = b.l.length) : loopL G [] l_ref10_Same_0 ⟨[(2, .ref 2 0 0), (3, .ref 3 0 0), (5, .d (.int .i64 0))], [(2, .row [.d (eDirectory a)]), (3, .row [.d (eDirectory b)])]⟩ = some (if a.l = b.l then (.exit 0, ⟨[(2, .ref 2 0 0), (3, .ref 3 0 0)], [(2, .row [.d (eDirectory a)]), (3, .row [.d (eDirectory b)])]⟩) else (.ret, ⟨[(4, .d (.bool false))], []⟩)) := by
  have := loop_all (G := G) (x := l_ref10_Same_0) (ks := []) a.l.length (fun k => decide (a.l[k]? = b.l[k]?)) (fun k => ⟨[(2, .ref 2 0 0), (3, .ref 3 0 0), (5, .d (.int .i64 k))], [(2, .row [.d (eDirectory a)]), (3, .row [.d (eDirectory b)])]⟩) (.ret, ⟨[(4, .d (.bool false))], []⟩) (.exit 0, ⟨[(2, .ref 2 0 0), (3, .ref 3 0 0)], [(2, .row [.d (eDirectory a)]), (3, .row [.d (eDirectory b)])]⟩) (fun k hk L => by
    simp only [l_ref10_Same_0]
    by_cases h0 : k < a.l.length
    · have hk2 : k < b.l.length := by omega
      simp only [get_eq h0 hk2, h0, if_true]
      (try simp -implicitDefEqProofs (maxSteps := 4000000) (disch := omega) only [getDT, go_sem, *]); (try simp only [pA, pB, pC, pD, pE, pF, pG, pH, pI, pJ, pK, pL, pM, pN, pO, pP, if_true, if_false]); repeat' (first | done | rfl | (refine iteC (fun hq => ?_) (fun hq => ?_) <;> (try (first | (exfalso; omega) | contradiction)) <;> (try simp -implicitDefEqProofs (maxSteps := 4000000) (disch := omega) only [getDT, go_sem, *]) <;> (try simp only [pA, pB, pC, pD, pE, pF, pG, pH, pI, pJ, pK, pL, pM, pN, pO, pP, if_true, if_false]))); (all_goals try rfl); (all_goals try (repeat' (first | done | rfl | (exfalso; omega) | contradiction | (refine iteR (fun hq => ?_) (fun hq => ?_)))))
    · (try simp -implicitDefEqProofs (maxSteps := 4000000) (disch := omega) only [getDT, go_sem, *]); (try simp only [pA, pB, pC, pD, pE, pF, pG, pH, pI, pJ, pK, pL, pM, pN, pO, pP, if_true, if_false]); repeat' (first | done | rfl | (refine iteC (fun hq => ?_) (fun hq => ?_) <;> (try (first | (exfalso; omega) | contradiction)) <;> (try simp -implicitDefEqProofs (maxSteps := 4000000) (disch := omega) only [getDT, go_sem, *]) <;> (try simp only [pA, pB, pC, pD, pE, pF, pG, pH, pI, pJ, pK, pL, pM, pN, pO, pP, if_true, if_false]))); (all_goals try rfl); (all_goals try (repeat' (first | done | rfl | (exfalso; omega) | contradiction | (refine iteR (fun hq => ?_) (fun hq => ?_))))))
  simp only [all_eq hab, Int.natCast_zero, decide_eq_true_eq] at this
  exact this
theorem sd_loop1 (a b : Directory) (hL : a.forward.length ≤ 4294967296) (hab : a.forward.length = b.forward.length) : loopL G [] l_ref10_Same_1 ⟨[(2, .ref 2 0 0), (3, .ref 3 0 0), (6, .d (.int .i64 0))], [(2, .row [.d (eDirectory a)]), (3, .row [.d (eDirectory b)])]⟩ = some (if a.forward = b.forward then (.exit 2, ⟨[], []⟩) else (.ret, ⟨[(4, .d (.bool false))], []⟩)) := by
  have := loop_all (G := G) (x := l_ref10_Same_1) (ks := []) a.forward.length (fun k => decide (a.forward[k]? = b.forward[k]?)) (fun k => ⟨[(2, .ref 2 0 0), (3, .ref 3 0 0), (6, .d (.int .i64 k))], [(2, .row [.d (eDirectory a)]), (3, .row [.d (eDirectory b)])]⟩) (.ret, ⟨[(4, .d (.bool false))], []⟩) (.exit 2, ⟨[], []⟩) (fun k hk L => by
    simp only [l_ref10_Same_1]
    by_cases h0 : k < a.forward.length
    · have hk2 : k < b.forward.length := by omega
      simp only [get_eq h0 hk2, h0, if_true]
      (try simp -implicitDefEqProofs (maxSteps := 4000000) (disch := omega) only [getDT, go_sem, *]); (try simp only [pA, pB, pC, pD, pE, pF, pG, pH, pI, pJ, pK, pL, pM, pN, pO, pP, if_true, if_false]); repeat' (first | done | rfl | (refine iteC (fun hq => ?_) (fun hq => ?_) <;> (try (first | (exfalso; omega) | contradiction)) <;> (try simp -implicitDefEqProofs (maxSteps := 4000000) (disch := omega) only [getDT, go_sem, *]) <;> (try simp only [pA, pB, pC, pD, pE, pF, pG, pH, pI, pJ, pK, pL, pM, pN, pO, pP, if_true, if_false]))); (all_goals try rfl); (all_goals try (repeat' (first | done | rfl | (exfalso; omega) | contradiction | (refine iteR (fun hq => ?_) (fun hq => ?_)))))
    · (try simp -implicitDefEqProofs (maxSteps := 4000000) (disch := omega) only [getDT, go_sem, *]); (try simp only [pA, pB, pC, pD, pE, pF, pG, pH, pI, pJ, pK, pL, pM, pN, pO, pP, if_true, if_false]); repeat' (first | done | rfl | (refine iteC (fun hq => ?_) (fun hq => ?_) <;> (try (first | (exfalso; omega) | contradiction)) <;> (try simp -implicitDefEqProofs (maxSteps := 4000000) (disch := omega) only [getDT, go_sem, *]) <;> (try simp only [pA, pB, pC, pD, pE, pF, pG, pH, pI, pJ, pK, pL, pM, pN, pO, pP, if_true, if_false]))); (all_goals try rfl); (all_goals try (repeat' (first | done | rfl | (exfalso; omega) | contradiction | (refine iteR (fun hq => ?_) (fun hq => ?_))))))
  simp only [all_eq hab, Int.natCast_zero, decide_eq_true_eq] at this
  exact this
theorem same_Directory (a b : Directory) (hL : a.l.length ≤ 4294967296) (hF : a.forward.length ≤ 4294967296) : callL G N_ref10_Same [.d (eDirectory a), .d (eDirectory b)] [] = some (.d (.bool (decide (a = b))), []) := by
  by_cases c0 : a.version = b.version ∧ a.l.length = b.l.length ∧ a.forward.length = b.forward.length
  · obtain ⟨c1, c2, c3⟩ := c0
    have h0 := sd_loop0 a b hL c2
    have h1 := sd_loop1 a b hF c3
    by_cases c4 : a.l = b.l
    · by_cases c5 : a.forward = b.forward
      · have e : a = b := by cases a; cases b; simp_all
        subst e
        simp only [if_true] at h0 h1
        simp only [decide_true]
        clear c1 c2 c3 c4 c5
        rw [callL_code g_ref10_Same (by simp)]; simp -implicitDefEqProofs (maxSteps := 4000000) (disch := omega) only [c_ref10_Same, r_ref10_Same, getDT, go_sem, *]; (try simp only [pA, pB, pC, pD, pE, pF, pG, pH, pI, pJ, pK, pL, pM, pN, pO, pP, if_true, if_false]); repeat' (first | done | rfl | (refine iteC (fun hq => ?_) (fun hq => ?_) <;> (try (first | (exfalso; omega) | contradiction)) <;> (try simp -implicitDefEqProofs (maxSteps := 4000000) (disch := omega) only [getDT, go_sem, *]) <;> (try simp only [pA, pB, pC, pD, pE, pF, pG, pH, pI, pJ, pK, pL, pM, pN, pO, pP, if_true, if_false]))); (all_goals try rfl); (all_goals try (repeat' (first | done | rfl | (exfalso; omega) | contradiction | (refine iteR (fun hq => ?_) (fun hq => ?_)))))
      · have e : ¬ a = b := fun e => c5 (by rw [e])
        rw [decide_eq_false e]
        rw [if_pos c4] at h0
        rw [if_neg c5] at h1
        clear c4
        rw [callL_code g_ref10_Same (by simp)]; simp -implicitDefEqProofs (maxSteps := 4000000) (disch := omega) only [c_ref10_Same, r_ref10_Same, getDT, go_sem, *]; (try simp only [pA, pB, pC, pD, pE, pF, pG, pH, pI, pJ, pK, pL, pM, pN, pO, pP, if_true, if_false]); repeat' (first | done | rfl | (refine iteC (fun hq => ?_) (fun hq => ?_) <;> (try (first | (exfalso; omega) | contradiction)) <;> (try simp -implicitDefEqProofs (maxSteps := 4000000) (disch := omega) only [getDT, go_sem, *]) <;> (try simp only [pA, pB, pC, pD, pE, pF, pG, pH, pI, pJ, pK, pL, pM, pN, pO, pP, if_true, if_false]))); (all_goals try rfl); (all_goals try (repeat' (first | done | rfl | (exfalso; omega) | contradiction | (refine iteR (fun hq => ?_) (fun hq => ?_)))))
    · have e : ¬ a = b := fun e => c4 (by rw [e])
      rw [decide_eq_false e]
      rw [if_neg c4] at h0
      clear h1
      rw [callL_code g_ref10_Same (by simp)]; simp -implicitDefEqProofs (maxSteps := 4000000) (disch := omega) only [c_ref10_Same, r_ref10_Same, getDT, go_sem, *]; (try simp only [pA, pB, pC, pD, pE, pF, pG, pH, pI, pJ, pK, pL, pM, pN, pO, pP, if_true, if_false]); repeat' (first | done | rfl | (refine iteC (fun hq => ?_) (fun hq => ?_) <;> (try (first | (exfalso; omega) | contradiction)) <;> (try simp -implicitDefEqProofs (maxSteps := 4000000) (disch := omega) only [getDT, go_sem, *]) <;> (try simp only [pA, pB, pC, pD, pE, pF, pG, pH, pI, pJ, pK, pL, pM, pN, pO, pP, if_true, if_false]))); (all_goals try rfl); (all_goals try (repeat' (first | done | rfl | (exfalso; omega) | contradiction | (refine iteR (fun hq => ?_) (fun hq => ?_)))))
  · have e : ¬ a = b := fun e => c0 (by rw [e]; exact ⟨rfl, rfl, rfl⟩)
    rw [decide_eq_false e]
    by_cases c1 : a.version = b.version
    · by_cases c2 : a.l.length = b.l.length
      · have c3 : ¬ a.forward.length = b.forward.length := fun c3 => c0 ⟨c1, c2, c3⟩
        rw [callL_code g_ref10_Same (by simp)]; simp -implicitDefEqProofs (maxSteps := 4000000) (disch := omega) only [c_ref10_Same, r_ref10_Same, getDT, go_sem, *]; (try simp only [pA, pB, pC, pD, pE, pF, pG, pH, pI, pJ, pK, pL, pM, pN, pO, pP, if_true, if_false]); repeat' (first | done | rfl | (refine iteC (fun hq => ?_) (fun hq => ?_) <;> (try (first | (exfalso; omega) | contradiction)) <;> (try simp -implicitDefEqProofs (maxSteps := 4000000) (disch := omega) only [getDT, go_sem, *]) <;> (try simp only [pA, pB, pC, pD, pE, pF, pG, pH, pI, pJ, pK, pL, pM, pN, pO, pP, if_true, if_false]))); (all_goals try rfl); (all_goals try (repeat' (first | done | rfl | (exfalso; omega) | contradiction | (refine iteR (fun hq => ?_) (fun hq => ?_)))))
      · rw [callL_code g_ref10_Same (by simp)]; simp -implicitDefEqProofs (maxSteps := 4000000) (disch := omega) only [c_ref10_Same, r_ref10_Same, getDT, go_sem, *]; (try simp only [pA, pB, pC, pD, pE, pF, pG, pH, pI, pJ, pK, pL, pM, pN, pO, pP, if_true, if_false]); repeat' (first | done | rfl | (refine iteC (fun hq => ?_) (fun hq => ?_) <;> (try (first | (exfalso; omega) | contradiction)) <;> (try simp -implicitDefEqProofs (maxSteps := 4000000) (disch := omega) only [getDT, go_sem, *]) <;> (try simp only [pA, pB, pC, pD, pE, pF, pG, pH, pI, pJ, pK, pL, pM, pN, pO, pP, if_true, if_false]))); (all_goals try rfl); (all_goals try (repeat' (first | done | rfl | (exfalso; omega) | contradiction | (refine iteR (fun hq => ?_) (fun hq => ?_)))))
    · rw [callL_code g_ref10_Same (by simp)]; simp -implicitDefEqProofs (maxSteps := 4000000) (disch := omega) only [c_ref10_Same, r_ref10_Same, getDT, go_sem, *]; (try simp only [pA, pB, pC, pD, pE, pF, pG, pH, pI, pJ, pK, pL, pM, pN, pO, pP, if_true, if_false]); repeat' (first | done | rfl | (refine iteC (fun hq => ?_) (fun hq => ?_) <;> (try (first | (exfalso; omega) | contradiction)) <;> (try simp -implicitDefEqProofs (maxSteps := 4000000) (disch := omega) only [getDT, go_sem, *]) <;> (try simp only [pA, pB, pC, pD, pE, pF, pG, pH, pI, pJ, pK, pL, pM, pN, pO, pP, if_true, if_false]))); (all_goals try rfl); (all_goals try (repeat' (first | done | rfl | (exfalso; omega) | contradiction | (refine iteR (fun hq => ?_) (fun hq => ?_)))))
structure FitA (a : Arena) : Prop where
  sl : a.slots.length ≤ 1000
  sh : ∀ i (h : i < a.slots.length), FitS (a.slots[i]).shard
  st : a.stripes.length ≤ 4294967296
  de : a.dead.dead.l.length ≤ 4294967296
  dl : a.dir.l.length ≤ 4294967296
  df : a.dir.forward.length ≤ 4294967296
theorem sa_loop (a b : Arena) (h : FitA a) (hab : a.slots.length = b.slots.length) : loopL G [] l_ref12_Same_0 ⟨[(2, .ref 2 0 0), (3, .ref 3 0 0), (5, .d (.int .i64 0))], [(2, .row [.d (eArena a)]), (3, .row [.d (eArena b)])]⟩ = some (if a.slots = b.slots then (.exit 0, ⟨[], []⟩) else (.ret, ⟨[(4, .d (.bool false))], []⟩)) := by
  obtain ⟨fa, fb, _, _, _, _⟩ := h
  have := loop_all (G := G) (x := l_ref12_Same_0) (ks := []) a.slots.length (fun k => decide (a.slots[k]? = b.slots[k]?)) (fun k => ⟨[(2, .ref 2 0 0), (3, .ref 3 0 0), (5, .d (.int .i64 k))], [(2, .row [.d (eArena a)]), (3, .row [.d (eArena b)])]⟩) (.ret, ⟨[(4, .d (.bool false))], []⟩) (.exit 0, ⟨[], []⟩) (fun k hk L => by
    simp only [l_ref12_Same_0]
    by_cases h0 : k < a.slots.length
    · have hk2 : k < b.slots.length := by omega
      have hs := same_Shard (a.slots[k]).shard (b.slots[k]).shard (fb k h0)
      simp only [eShard] at hs
      have e : decide (a.slots[k] = b.slots[k]) = (decide (a.slots[k].owner = b.slots[k].owner) && decide (a.slots[k].shard = b.slots[k].shard)) := by
        generalize a.slots[k] = x
        generalize b.slots[k] = y
        cases x; cases y
        apply Bool.eq_iff_iff.2
        simp
      simp only [get_eq h0 hk2, h0, if_true, e]
      clear fb
      by_cases c1 : a.slots[k].owner = b.slots[k].owner
      · by_cases c2 : a.slots[k].shard = b.slots[k].shard
        · simp only [c1, c2, decide_true, Bool.and_self, if_true] at hs ⊢
          (try simp -implicitDefEqProofs (maxSteps := 4000000) (disch := omega) only [c1, getDT, go_sem, *]); (try simp only [pA, pB, pC, pD, pE, pF, pG, pH, pI, pJ, pK, pL, pM, pN, pO, pP, if_true, if_false]); repeat' (first | done | rfl | (refine iteC (fun hq => ?_) (fun hq => ?_) <;> (try (first | (exfalso; omega) | contradiction)) <;> (try simp -implicitDefEqProofs (maxSteps := 4000000) (disch := omega) only [c1, getDT, go_sem, *]) <;> (try simp only [pA, pB, pC, pD, pE, pF, pG, pH, pI, pJ, pK, pL, pM, pN, pO, pP, if_true, if_false]))); (all_goals try rfl); (all_goals try (repeat' (first | done | rfl | (exfalso; omega) | contradiction | (refine iteR (fun hq => ?_) (fun hq => ?_)))))
        · simp only [c1, c2, decide_true, decide_false, Bool.and_false, Bool.false_eq_true, if_false] at hs ⊢
          (try simp -implicitDefEqProofs (maxSteps := 4000000) (disch := omega) only [c1, getDT, go_sem, *]); (try simp only [pA, pB, pC, pD, pE, pF, pG, pH, pI, pJ, pK, pL, pM, pN, pO, pP, if_true, if_false]); repeat' (first | done | rfl | (refine iteC (fun hq => ?_) (fun hq => ?_) <;> (try (first | (exfalso; omega) | contradiction)) <;> (try simp -implicitDefEqProofs (maxSteps := 4000000) (disch := omega) only [c1, getDT, go_sem, *]) <;> (try simp only [pA, pB, pC, pD, pE, pF, pG, pH, pI, pJ, pK, pL, pM, pN, pO, pP, if_true, if_false]))); (all_goals try rfl); (all_goals try (repeat' (first | done | rfl | (exfalso; omega) | contradiction | (refine iteR (fun hq => ?_) (fun hq => ?_)))))
      · simp only [c1, decide_false, Bool.false_and, Bool.false_eq_true, if_false]
        (try simp -implicitDefEqProofs (maxSteps := 4000000) (disch := omega) only [c1, getDT, go_sem, *]); (try simp only [pA, pB, pC, pD, pE, pF, pG, pH, pI, pJ, pK, pL, pM, pN, pO, pP, if_true, if_false]); repeat' (first | done | rfl | (refine iteC (fun hq => ?_) (fun hq => ?_) <;> (try (first | (exfalso; omega) | contradiction)) <;> (try simp -implicitDefEqProofs (maxSteps := 4000000) (disch := omega) only [c1, getDT, go_sem, *]) <;> (try simp only [pA, pB, pC, pD, pE, pF, pG, pH, pI, pJ, pK, pL, pM, pN, pO, pP, if_true, if_false]))); (all_goals try rfl); (all_goals try (repeat' (first | done | rfl | (exfalso; omega) | contradiction | (refine iteR (fun hq => ?_) (fun hq => ?_)))))
    · (try simp -implicitDefEqProofs (maxSteps := 4000000) (disch := omega) only [getDT, go_sem, *]); (try simp only [pA, pB, pC, pD, pE, pF, pG, pH, pI, pJ, pK, pL, pM, pN, pO, pP, if_true, if_false]); repeat' (first | done | rfl | (refine iteC (fun hq => ?_) (fun hq => ?_) <;> (try (first | (exfalso; omega) | contradiction)) <;> (try simp -implicitDefEqProofs (maxSteps := 4000000) (disch := omega) only [getDT, go_sem, *]) <;> (try simp only [pA, pB, pC, pD, pE, pF, pG, pH, pI, pJ, pK, pL, pM, pN, pO, pP, if_true, if_false]))); (all_goals try rfl); (all_goals try (repeat' (first | done | rfl | (exfalso; omega) | contradiction | (refine iteR (fun hq => ?_) (fun hq => ?_))))))
  simp only [all_eq hab, Int.natCast_zero, decide_eq_true_eq] at this
  exact this
theorem same_Arena (a b : Arena) (h : FitA a) : callL G N_ref12_Same [.d (eArena a), .d (eArena b)] [] = some (.d (.bool (decide (a = b))), []) := by
  have hl := sa_loop a b h
  obtain ⟨f1, f2, f3, f4, f5, f6⟩ := h
  have h1 := same_ref11_Same a.stripes b.stripes f3
  have h2 := same_Dead a.dead.dead b.dead.dead f4
  have h3 := same_Directory a.dir b.dir f5 f6
  simp only [eDead, eDirectory] at h2 h3
  have e : decide (a = b) = decide (a.slots.length = b.slots.length ∧ a.stripes = b.stripes ∧ a.dead.owner = b.dead.owner ∧ a.dead.dead = b.dead.dead ∧ a.dir = b.dir ∧ a.epoch = b.epoch ∧ a.clock = b.clock ∧ a.nextID = b.nextID ∧ a.slots = b.slots) := by
    apply Bool.eq_iff_iff.2
    simp only [decide_eq_true_eq]
    constructor
    · intro h; subst h; simp
    · rintro ⟨_, e1, e2, e3, e4, e5, e6, e7, e8⟩
      obtain ⟨_, _, ⟨_, _⟩, _, _, _, _⟩ := a
      obtain ⟨_, _, ⟨_, _⟩, _, _, _, _⟩ := b
      simp_all
  rw [e]
  clear e f2
  by_cases c1 : a.slots.length = b.slots.length
  · have hl2 := hl c1
    clear hl
    by_cases c2 : a.slots = b.slots
    · rw [if_pos c2] at hl2
      generalize hq9 : decide (a.slots.length = b.slots.length ∧ a.stripes = b.stripes ∧ a.dead.owner = b.dead.owner ∧ a.dead.dead = b.dead.dead ∧ a.dir = b.dir ∧ a.epoch = b.epoch ∧ a.clock = b.clock ∧ a.nextID = b.nextID ∧ a.slots = b.slots) = z
      simp only [c1, c2, true_and, and_true] at hq9
      clear c2
      rw [callL_code g_ref12_Same (by simp)]; simp -implicitDefEqProofs (maxSteps := 4000000) (disch := omega) only [c_ref12_Same, r_ref12_Same, getDT, go_sem, *]; (try simp only [pA, pB, pC, pD, pE, pF, pG, pH, pI, pJ, pK, pL, pM, pN, pO, pP, if_true, if_false]); repeat' (first | done | rfl | (refine iteC (fun hq => ?_) (fun hq => ?_) <;> (try (first | (exfalso; omega) | contradiction)) <;> (try simp -implicitDefEqProofs (maxSteps := 4000000) (disch := omega) only [getDT, go_sem, *]) <;> (try simp only [pA, pB, pC, pD, pE, pF, pG, pH, pI, pJ, pK, pL, pM, pN, pO, pP, if_true, if_false]))); (all_goals try rfl); (all_goals try (repeat' (first | done | rfl | (exfalso; omega) | contradiction | (refine iteR (fun hq => ?_) (fun hq => ?_)))))
      all_goals (clear h1 h2 h3 hl2; simp_all)
    · rw [if_neg c2] at hl2
      rw [decide_eq_false (fun h => c2 h.2.2.2.2.2.2.2.2)]
      clear c2
      rw [callL_code g_ref12_Same (by simp)]; simp -implicitDefEqProofs (maxSteps := 4000000) (disch := omega) only [c_ref12_Same, r_ref12_Same, getDT, go_sem, *]; (try simp only [pA, pB, pC, pD, pE, pF, pG, pH, pI, pJ, pK, pL, pM, pN, pO, pP, if_true, if_false]); repeat' (first | done | rfl | (refine iteC (fun hq => ?_) (fun hq => ?_) <;> (try (first | (exfalso; omega) | contradiction)) <;> (try simp -implicitDefEqProofs (maxSteps := 4000000) (disch := omega) only [getDT, go_sem, *]) <;> (try simp only [pA, pB, pC, pD, pE, pF, pG, pH, pI, pJ, pK, pL, pM, pN, pO, pP, if_true, if_false]))); (all_goals try rfl); (all_goals try (repeat' (first | done | rfl | (exfalso; omega) | contradiction | (refine iteR (fun hq => ?_) (fun hq => ?_)))))
  · clear hl
    rw [callL_code g_ref12_Same (by simp)]; simp -implicitDefEqProofs (maxSteps := 4000000) (disch := omega) only [c_ref12_Same, r_ref12_Same, getDT, go_sem, *]; (try simp only [pA, pB, pC, pD, pE, pF, pG, pH, pI, pJ, pK, pL, pM, pN, pO, pP, if_true, if_false]); repeat' (first | done | rfl | (refine iteC (fun hq => ?_) (fun hq => ?_) <;> (try (first | (exfalso; omega) | contradiction)) <;> (try simp -implicitDefEqProofs (maxSteps := 4000000) (disch := omega) only [getDT, go_sem, *]) <;> (try simp only [pA, pB, pC, pD, pE, pF, pG, pH, pI, pJ, pK, pL, pM, pN, pO, pP, if_true, if_false]))); (all_goals try rfl); (all_goals try (repeat' (first | done | rfl | (exfalso; omega) | contradiction | (refine iteR (fun hq => ?_) (fun hq => ?_)))))
end Go.Proofs.Ytkdjbfjohbiemaa

namespace Go.Proofs.Ytkdjbfjohbiemaa
open Go Go.Sim
set_option linter.unusedSimpArgs false
set_option linter.unusedVariables false
set_option maxHeartbeats 10000000
set_option maxRecDepth 40000
theorem setOwner_len (a : Arena) (c k : Int) : (setOwner a c k).slots.length = a.slots.length := by
  unfold setOwner; split <;> simp
theorem setOwner_shard (a : Arena) (c k : Int) (i : Nat) (h : i < a.slots.length) : ((setOwner a c k).slots[i]'(by rw [setOwner_len]; exact h)).shard = (a.slots[i]).shard := by
  unfold setOwner
  split
  · rfl
  · rename_i hc
    simp only [List.getElem_set]
    split
    · rename_i e; subst e; simp [h]
    · rfl
theorem fitA_set {a : Arena} (h : FitA a) (c k : Int) : FitA (setOwner a c k) := by
  refine ⟨by rw [setOwner_len]; exact h.sl, fun i hi => ?_, ?_, ?_, ?_, ?_⟩
  · rw [setOwner_len] at hi
    rw [setOwner_shard a c k i hi]; exact h.sh i hi
  all_goals (unfold setOwner; split)
  all_goals first | exact h.st | exact h.de | exact h.dl | exact h.df
theorem fitA_z : FitA zArena := ⟨by decide, fun i h => by simp [zArena] at h, by decide, by decide, by decide, by decide⟩
theorem aTry_keep (a : Arena) (c k : Int) (h : (aTry a c k).2.2 = 0) : ((aTry a c k).1 = a ∧ (aTry a c k).2.1 = false ∧ owners a c ≠ 0) ∨ ((aTry a c k).1 = setOwner a c k ∧ (aTry a c k).2.1 = true ∧ owners a c = 0) := by
  unfold aTry at *
  split at h
  · cases h
  · rename_i h1
    rw [if_neg h1]
    split
    · rename_i h2; exact .inr ⟨rfl, rfl, h2⟩
    · rename_i h2; exact .inl ⟨rfl, rfl, h2⟩
theorem aUnlock_keep (a : Arena) (c k : Int) (h : (aUnlock a c k).2 = 0) : (aUnlock a c k).1 = setOwner a c 0 ∧ owners a c = k := by
  unfold aUnlock at *
  split at h
  · cases h
  · rename_i h1
    rw [if_neg h1]
    split at h
    · rename_i h2; rw [if_pos h2]; exact ⟨rfl, h2⟩
    · cases h
/-- What a step that succeeds does: to the arena, and to the locker. -/
theorem lockStep_keep {B : Int} {a : Arena} {l : Locker} {k : Int} (hw : LWF B l) (h : (lockStep a l k).2.2 = 0) :
    LWF (B + 1) (lockStep a l k).2.1 ∧ (lockStep a l k).2.1.cells = l.cells ∧ ((lockStep a l k).1 = a ∨ ∃ c o, (lockStep a l k).1 = setOwner a c o) := by
  obtain ⟨w1, w2, w3, w4, w5, w6, w7, w8, w9, w10, w11, w12, w13⟩ := hw
  unfold lockStep at *
  by_cases c0 : l.phase = 0
  · have hh := w5 c0
    rw [if_pos c0] at h ⊢
    unfold lockTry at *
    by_cases c1 : (aTry a (l.cells.getD l.have_.toNat 0) k).2.2 = 0
    · rw [if_pos c1] at h ⊢
      rcases aTry_keep _ _ _ c1 with ⟨e1, e2, _⟩ | ⟨e1, e2, _⟩
      · rw [if_neg (by rw [e2]; simp)] at h ⊢
        refine ⟨?_, rfl, .inl e1⟩
        by_cases c2 : 0 < l.have_
        · simp only [c2, if_true]; constructor <;> simp only <;> omega
        · simp only [c2, if_false, c0]; constructor <;> simp only <;> omega
      · rw [if_pos e2] at h ⊢
        refine ⟨?_, rfl, .inr ⟨_, _, e1⟩⟩
        by_cases c2 : l.have_ + 1 = l.cells.length
        · simp only [c2, if_true]; constructor <;> simp only <;> first | omega | exact fun _ => trivial
        · simp only [c2, if_false, c0]; constructor <;> simp only <;> omega
    · rw [if_neg c1] at h
      exact absurd h c1
  rw [if_neg c0] at h ⊢
  by_cases c14 : l.phase = 1 ∨ l.phase = 4
  · have hh : 1 ≤ l.have_ := by rcases c14 with h | h; exact w6 h; exact w9 h
    rw [if_pos c14] at h ⊢
    unfold lockLeave at *
    by_cases c1 : (aUnlock a (l.cells.getD (l.have_ - 1).toNat 0) k).2 = 0
    · rw [if_pos c1] at h ⊢
      have hk := aUnlock_keep _ _ _ c1
      refine ⟨?_, ?_, .inr ⟨_, _, hk.1⟩⟩
      · simp only [leaveL]
        by_cases c2 : 0 < l.have_ - 1
        · rw [if_pos c2]; constructor <;> simp only <;> omega
        · rw [if_neg c2]
          by_cases c3 : l.phase = 4
          · rw [if_pos c3]; constructor <;> simp only <;> omega
          · rw [if_neg c3]
            by_cases c4 : 3 < l.tries + 1
            · rw [if_pos c4]; constructor <;> simp only <;> omega
            · rw [if_neg c4]; constructor <;> simp only <;> omega
      · simp only [leaveL]
        by_cases c2 : 0 < l.have_ - 1
        · rw [if_pos c2]
        · rw [if_neg c2]
          by_cases c3 : l.phase = 4
          · rw [if_pos c3]
          · rw [if_neg c3]
    · rw [if_neg c1] at h
      exact absurd h c1
  rw [if_neg c14] at h ⊢
  by_cases c2 : l.phase = 2
  · have hh := w7 c2
    rw [if_pos c2] at h ⊢
    refine ⟨?_, rfl, .inl rfl⟩
    by_cases c3 : l.wait - 1 = 0
    · simp only [c3, if_true]; constructor <;> simp only <;> omega
    · simp only [c3, if_false]; constructor <;> simp only <;> omega
  · rw [if_neg c2] at h
    cases h
theorem lockStep_bad {B : Int} {a : Arena} {l : Locker} {k : Int} (h : ¬ (lockStep a l k).2.2 = 0) : (lockStep a l k).1 = zArena ∧ (lockStep a l k).2.1 = zLocker := by
  unfold lockStep at *
  by_cases c0 : l.phase = 0
  · rw [if_pos c0] at h ⊢
    unfold lockTry at *
    by_cases c1 : (aTry a (l.cells.getD l.have_.toNat 0) k).2.2 = 0
    · rw [if_pos c1] at h
      exfalso; apply h; split <;> rfl
    · rw [if_neg c1]; exact ⟨rfl, rfl⟩
  rw [if_neg c0] at h ⊢
  by_cases c14 : l.phase = 1 ∨ l.phase = 4
  · rw [if_pos c14] at h ⊢
    unfold lockLeave at *
    by_cases c1 : (aUnlock a (l.cells.getD (l.have_ - 1).toNat 0) k).2 = 0
    · rw [if_pos c1] at h; exact absurd rfl h
    · rw [if_neg c1]; exact ⟨rfl, rfl⟩
  rw [if_neg c14] at h ⊢
  by_cases c2 : l.phase = 2
  · rw [if_pos c2] at h; exact absurd rfl h
  · rw [if_neg c2]; exact ⟨rfl, rfl⟩
theorem LWF.mono {B B' : Int} {l : Locker} (h : LWF B l) (hb : B ≤ B') : LWF B' l := ⟨h.c1, h.c2, h.h0, h.h1, h.t0, h.t1, h.t2, h.t3, h.t4, h.t5, h.t6, h.b0, by have := h.b1; omega⟩
theorem lockFree_wf {B : Int} {l : Locker} (h : LWF B l) (hp : l.phase = 3) : LWF B (lockFree l).1 ∧ (lockFree l).1.cells = l.cells := by
  have h3 := h.t3 hp
  obtain ⟨w1, w2, w3, w4, w5, w6, w7, w8, w9, w10, w11, w12, w13⟩ := h
  unfold lockFree
  rw [if_pos hp]
  exact ⟨by constructor <;> simp only <;> omega, rfl⟩
/-- All lockers of a list. -/
def LWFs (B : Int) (ps : List Locker) : Prop := ∀ i (h : i < ps.length), LWF B (ps[i])
theorem LWFs.set {B : Int} {ps : List Locker} (h : LWFs B ps) {j : Nat} {x : Locker} (hx : LWF B x) : LWFs B (ps.set j x) := by
  intro i hi
  simp only [List.getElem_set]
  split
  · exact hx
  · exact h i (by simpa using hi)
def scrS (t : List Int) (a : Nat) (ar : Arena) (ps : List Locker) (i : Nat) : St := ⟨[(3, .ref 28 0 0), (4, .ref 4 0 0), (6, .ref 6 0 0), (7, .osl 7 0 3), (8, .osl 8 0 3), (15, .d (.int .i64 i))], [(4, .row [.d (eArena ar)]), (6, .row [.d (eArena ar)]), (7, .row ((ps.map eLocker).map .d)), (8, .row ((ps.map eLocker).map .d)), (28, srcO t a)]⟩
structure ScrT where
  i : Nat
  a : Nat
  ar : Arena
  ps : List Locker
structure ScrI (s : ScrT) : Prop where
  i : s.i ≤ 60
  f : FitA s.ar
  l : s.ps.length = 3
  w : LWFs s.i s.ps
theorem scr_loop (t : List Int) (ht : t.length ≤ 4000) : ∀ s : ScrT, ScrI s → loopL G [] l_law13_LockerScript_1 (scrS t s.a s.ar s.ps s.i) = some (.exit 2, ⟨[], []⟩) := by
  refine loop_ind (fun s : ScrT => 60 - s.i) ScrI (fun s => scrS t s.a s.ar s.ps s.i) _ fun ⟨i, a, ar, ps⟩ ⟨hi, hf, hp, hw⟩ L ih => ?_
  simp only at hi hf hp hw
  simp only [scrS] at ih ⊢
  simp only [l_law13_LockerScript_1]
  have hm := more_ok t a ht
  by_cases h60 : i < 60 ∧ (i < 6 ∨ (a : Int) < t.length)
  rotate_left
  · by_cases c : i < 60
    · (try simp -implicitDefEqProofs (maxSteps := 4000000) (disch := omega) only [c, getDT, go_sem, *]); (try simp only [pA, pB, pC, pD, pE, pF, pG, pH, pI, pJ, pK, pL, pM, pN, pO, pP, if_true, if_false]); repeat' (first | done | rfl | (refine iteC (fun hq => ?_) (fun hq => ?_) <;> (try (first | (exfalso; omega) | contradiction)) <;> (try simp -implicitDefEqProofs (maxSteps := 4000000) (disch := omega) only [c, getDT, go_sem, *]) <;> (try simp only [pA, pB, pC, pD, pE, pF, pG, pH, pI, pJ, pK, pL, pM, pN, pO, pP, if_true, if_false]))); (all_goals try rfl); (all_goals try (repeat' (first | done | rfl | (exfalso; omega) | contradiction | (refine iteR (fun hq => ?_) (fun hq => ?_)))))
    · (try simp -implicitDefEqProofs (maxSteps := 4000000) (disch := omega) only [c, getDT, go_sem, *]); (try simp only [pA, pB, pC, pD, pE, pF, pG, pH, pI, pJ, pK, pL, pM, pN, pO, pP, if_true, if_false]); repeat' (first | done | rfl | (refine iteC (fun hq => ?_) (fun hq => ?_) <;> (try (first | (exfalso; omega) | contradiction)) <;> (try simp -implicitDefEqProofs (maxSteps := 4000000) (disch := omega) only [c, getDT, go_sem, *]) <;> (try simp only [pA, pB, pC, pD, pE, pF, pG, pH, pI, pJ, pK, pL, pM, pN, pO, pP, if_true, if_false]))); (all_goals try rfl); (all_goals try (repeat' (first | done | rfl | (exfalso; omega) | contradiction | (refine iteR (fun hq => ?_) (fun hq => ?_)))))
  obtain ⟨h60, hmore⟩ := h60
  have h3 := n_ok t a 3 ht (by omega) (by omega)
  have h0 : 0 ≤ nD t a 3 ∧ nD t a 3 < 3 := nD_in t a (by omega)
  have h4 := n_ok t (rawD t a).2 3 ht (by omega) (by omega)
  generalize (rawD t a).2 = a1 at h3 h4
  generalize (rawD t a1).2 = a2 at h4
  generalize nD t a1 3 = z at h4
  obtain ⟨j, hj⟩ : ∃ j : Nat, nD t a 3 = j := ⟨(nD t a 3).toNat, by omega⟩
  rw [hj] at h3 h0
  have hj3 : j < ps.length := by omega
  have hwj := hw j hj3
  by_cases hz : z = 0
  · have e1 := lfree_ok ps[j]
    have e2 := l13free_ok ps[j]
    have hs := same_Locker (lockFree ps[j]).1 (lockFree ps[j]).1 (by
      have := hwj.c2
      unfold lockFree; split
      · simp only; omega
      · simp [zLocker])
    by_cases hp3 : ps[j].phase = 3
    · have hkeep := lockFree_wf hwj hp3
      have ih1 := ih ⟨i + 1, a2, ar, ps.set j (lockFree ps[j]).1⟩ ⟨by simp only; omega, hf, by simpa using hp, fun q hq => (LWFs.set hw hkeep.1 q hq).mono (by simp only; omega)⟩ (by simp only; omega)
      have e0 : (lockFree ps[j]).2 = 0 := by unfold lockFree; rw [if_pos hp3]
      rw [e0] at e1 e2
      generalize (lockFree ps[j]).1 = x at *
      simp only [decide_true] at hs
      clear hkeep hw hwj
      simp only [Int.natCast_add, Int.natCast_one, Int.natCast_zero, Int.natCast_mul, Int.cast_ofNat_Int, List.length_append, List.length_map, List.map_nil, List.length_nil, List.map_append, List.map_cons, List.length_cons, Nat.zero_add, srcO, mapSet] at ih1
      clear ih
      by_cases c : (i : Int) < 6
      · (try simp -implicitDefEqProofs (maxSteps := 4000000) (disch := omega) only [c, getDT, go_sem, *]); (try simp only [pA, pB, pC, pD, pE, pF, pG, pH, pI, pJ, pK, pL, pM, pN, pO, pP, if_true, if_false]); repeat' (first | done | rfl | (refine iteC (fun hq => ?_) (fun hq => ?_) <;> (try (first | (exfalso; omega) | contradiction)) <;> (try simp -implicitDefEqProofs (maxSteps := 4000000) (disch := omega) only [c, getDT, go_sem, *]) <;> (try simp only [pA, pB, pC, pD, pE, pF, pG, pH, pI, pJ, pK, pL, pM, pN, pO, pP, if_true, if_false]))); (all_goals try rfl); (all_goals try (repeat' (first | done | rfl | (exfalso; omega) | contradiction | (refine iteR (fun hq => ?_) (fun hq => ?_)))))
      · have hmore : (a : Int) < t.length := by omega
        (try simp -implicitDefEqProofs (maxSteps := 4000000) (disch := omega) only [c, getDT, go_sem, *]); (try simp only [pA, pB, pC, pD, pE, pF, pG, pH, pI, pJ, pK, pL, pM, pN, pO, pP, if_true, if_false]); repeat' (first | done | rfl | (refine iteC (fun hq => ?_) (fun hq => ?_) <;> (try (first | (exfalso; omega) | contradiction)) <;> (try simp -implicitDefEqProofs (maxSteps := 4000000) (disch := omega) only [c, getDT, go_sem, *]) <;> (try simp only [pA, pB, pC, pD, pE, pF, pG, pH, pI, pJ, pK, pL, pM, pN, pO, pP, if_true, if_false]))); (all_goals try rfl); (all_goals try (repeat' (first | done | rfl | (exfalso; omega) | contradiction | (refine iteR (fun hq => ?_) (fun hq => ?_)))))
    · have ih1 := ih ⟨i + 1, a2, ar, ps⟩ ⟨by simp only; omega, hf, hp, fun q hq => (hw q hq).mono (by simp only; omega)⟩ (by simp only; omega)
      have e0 : lockFree ps[j] = (zLocker, 7) := by unfold lockFree; rw [if_neg hp3]
      rw [e0] at e1 e2 hs
      simp only [decide_true] at hs
      clear hw hwj
      simp only [Int.natCast_add, Int.natCast_one, Int.natCast_zero, Int.natCast_mul, Int.cast_ofNat_Int, List.length_append, List.length_map, List.map_nil, List.length_nil, List.map_append, List.map_cons, List.length_cons, Nat.zero_add, srcO, mapSet] at ih1
      clear ih
      by_cases c : (i : Int) < 6
      · (try simp -implicitDefEqProofs (maxSteps := 4000000) (disch := omega) only [c, getDT, go_sem, *]); (try simp only [pA, pB, pC, pD, pE, pF, pG, pH, pI, pJ, pK, pL, pM, pN, pO, pP, if_true, if_false]); repeat' (first | done | rfl | (refine iteC (fun hq => ?_) (fun hq => ?_) <;> (try (first | (exfalso; omega) | contradiction)) <;> (try simp -implicitDefEqProofs (maxSteps := 4000000) (disch := omega) only [c, getDT, go_sem, *]) <;> (try simp only [pA, pB, pC, pD, pE, pF, pG, pH, pI, pJ, pK, pL, pM, pN, pO, pP, if_true, if_false]))); (all_goals try rfl); (all_goals try (repeat' (first | done | rfl | (exfalso; omega) | contradiction | (refine iteR (fun hq => ?_) (fun hq => ?_)))))
      · have hmore : (a : Int) < t.length := by omega
        (try simp -implicitDefEqProofs (maxSteps := 4000000) (disch := omega) only [c, getDT, go_sem, *]); (try simp only [pA, pB, pC, pD, pE, pF, pG, pH, pI, pJ, pK, pL, pM, pN, pO, pP, if_true, if_false]); repeat' (first | done | rfl | (refine iteC (fun hq => ?_) (fun hq => ?_) <;> (try (first | (exfalso; omega) | contradiction)) <;> (try simp -implicitDefEqProofs (maxSteps := 4000000) (disch := omega) only [c, getDT, go_sem, *]) <;> (try simp only [pA, pB, pC, pD, pE, pF, pG, pH, pI, pJ, pK, pL, pM, pN, pO, pP, if_true, if_false]))); (all_goals try rfl); (all_goals try (repeat' (first | done | rfl | (exfalso; omega) | contradiction | (refine iteR (fun hq => ?_) (fun hq => ?_)))))
  · have e1 := lstep_ok ar ps[j] ((j : Int) + 1) hf.sl (hwj.mono (by omega))
    have e2 := l13step_ok ar ps[j] ((j : Int) + 1) hf.sl (hwj.mono (by omega))
    by_cases hr : (lockStep ar ps[j] ((j : Int) + 1)).2.2 = 0
    · obtain ⟨k1, k2, k3⟩ := lockStep_keep hwj hr
      have hfa : FitA (lockStep ar ps[j] ((j : Int) + 1)).1 := by
        rcases k3 with k3 | ⟨c, o, k3⟩
        · rw [k3]; exact hf
        · rw [k3]; exact fitA_set hf c o
      have hsl := same_Locker (lockStep ar ps[j] ((j : Int) + 1)).2.1 (lockStep ar ps[j] ((j : Int) + 1)).2.1 (by have := k1.c2; omega)
      have hsa := same_Arena _ (lockStep ar ps[j] ((j : Int) + 1)).1 hfa
      have ih1 := ih ⟨i + 1, a2, (lockStep ar ps[j] ((j : Int) + 1)).1, ps.set j (lockStep ar ps[j] ((j : Int) + 1)).2.1⟩ ⟨by simp only; omega, hfa, by simpa using hp, fun q hq => (LWFs.set (fun q hq => (hw q hq).mono (B' := i + 1) (by omega)) k1 q hq).mono (by simp only; omega)⟩ (by simp only; omega)
      rw [hr] at e1 e2
      generalize (lockStep ar ps[j] ((j : Int) + 1)).1 = u at *
      generalize (lockStep ar ps[j] ((j : Int) + 1)).2.1 = x at *
      simp only [decide_true] at hsl hsa
      clear hw hwj k1 k2 k3 hfa hr ih hf
      simp only [Int.natCast_add, Int.natCast_one, Int.natCast_zero, Int.natCast_mul, Int.cast_ofNat_Int, List.length_append, List.length_map, List.map_nil, List.length_nil, List.map_append, List.map_cons, List.length_cons, Nat.zero_add, srcO, mapSet] at ih1
      by_cases c : (i : Int) < 6
      · (try simp -implicitDefEqProofs (maxSteps := 4000000) (disch := omega) only [c, getDT, go_sem, *]); (try simp only [pA, pB, pC, pD, pE, pF, pG, pH, pI, pJ, pK, pL, pM, pN, pO, pP, if_true, if_false]); repeat' (first | done | rfl | (refine iteC (fun hq => ?_) (fun hq => ?_) <;> (try (first | (exfalso; omega) | contradiction)) <;> (try simp -implicitDefEqProofs (maxSteps := 4000000) (disch := omega) only [c, getDT, go_sem, *]) <;> (try simp only [pA, pB, pC, pD, pE, pF, pG, pH, pI, pJ, pK, pL, pM, pN, pO, pP, if_true, if_false]))); (all_goals try rfl); (all_goals try (repeat' (first | done | rfl | (exfalso; omega) | contradiction | (refine iteR (fun hq => ?_) (fun hq => ?_)))))
      · have hmore : (a : Int) < t.length := by omega
        (try simp -implicitDefEqProofs (maxSteps := 4000000) (disch := omega) only [c, getDT, go_sem, *]); (try simp only [pA, pB, pC, pD, pE, pF, pG, pH, pI, pJ, pK, pL, pM, pN, pO, pP, if_true, if_false]); repeat' (first | done | rfl | (refine iteC (fun hq => ?_) (fun hq => ?_) <;> (try (first | (exfalso; omega) | contradiction)) <;> (try simp -implicitDefEqProofs (maxSteps := 4000000) (disch := omega) only [c, getDT, go_sem, *]) <;> (try simp only [pA, pB, pC, pD, pE, pF, pG, pH, pI, pJ, pK, pL, pM, pN, pO, pP, if_true, if_false]))); (all_goals try rfl); (all_goals try (repeat' (first | done | rfl | (exfalso; omega) | contradiction | (refine iteR (fun hq => ?_) (fun hq => ?_)))))
    · obtain ⟨k1, k2⟩ := lockStep_bad (B := 0) hr
      have hsl := same_Locker zLocker zLocker (by decide)
      have hsa := same_Arena zArena zArena fitA_z
      have ih1 := ih ⟨i + 1, a2, ar, ps⟩ ⟨by simp only; omega, hf, hp, fun q hq => (hw q hq).mono (by simp only; omega)⟩ (by simp only; omega)
      rw [k1, k2] at e1 e2
      generalize (lockStep ar ps[j] ((j : Int) + 1)).2.2 = e at *
      simp only [decide_true] at hsl hsa
      clear hw hwj k1 k2 ih hf
      simp only [Int.natCast_add, Int.natCast_one, Int.natCast_zero, Int.natCast_mul, Int.cast_ofNat_Int, List.length_append, List.length_map, List.map_nil, List.length_nil, List.map_append, List.map_cons, List.length_cons, Nat.zero_add, srcO, mapSet] at ih1
      by_cases c : (i : Int) < 6
      · (try simp -implicitDefEqProofs (maxSteps := 4000000) (disch := omega) only [c, getDT, go_sem, *]); (try simp only [pA, pB, pC, pD, pE, pF, pG, pH, pI, pJ, pK, pL, pM, pN, pO, pP, if_true, if_false]); repeat' (first | done | rfl | (refine iteC (fun hq => ?_) (fun hq => ?_) <;> (try (first | (exfalso; omega) | contradiction)) <;> (try simp -implicitDefEqProofs (maxSteps := 4000000) (disch := omega) only [c, getDT, go_sem, *]) <;> (try simp only [pA, pB, pC, pD, pE, pF, pG, pH, pI, pJ, pK, pL, pM, pN, pO, pP, if_true, if_false]))); (all_goals try rfl); (all_goals try (repeat' (first | done | rfl | (exfalso; omega) | contradiction | (refine iteR (fun hq => ?_) (fun hq => ?_)))))
      · have hmore : (a : Int) < t.length := by omega
        (try simp -implicitDefEqProofs (maxSteps := 4000000) (disch := omega) only [c, getDT, go_sem, *]); (try simp only [pA, pB, pC, pD, pE, pF, pG, pH, pI, pJ, pK, pL, pM, pN, pO, pP, if_true, if_false]); repeat' (first | done | rfl | (refine iteC (fun hq => ?_) (fun hq => ?_) <;> (try (first | (exfalso; omega) | contradiction)) <;> (try simp -implicitDefEqProofs (maxSteps := 4000000) (disch := omega) only [c, getDT, go_sem, *]) <;> (try simp only [pA, pB, pC, pD, pE, pF, pG, pH, pI, pJ, pK, pL, pM, pN, pO, pP, if_true, if_false]))); (all_goals try rfl); (all_goals try (repeat' (first | done | rfl | (exfalso; omega) | contradiction | (refine iteR (fun hq => ?_) (fun hq => ?_)))))
end Go.Proofs.Ytkdjbfjohbiemaa

namespace Go.Proofs.Ytkdjbfjohbiemaa
open Go Go.Sim
set_option linter.unusedSimpArgs false
set_option linter.unusedVariables false
set_option maxHeartbeats 10000000
set_option maxRecDepth 40000
theorem arenaN_of {s : Setup} (h : 1 ≤ s.slots ∧ s.slots ≤ 4 ∧ 1 ≤ s.live ∧ s.live ≤ s.slots ∧ 1 ≤ s.capacity ∧ s.capacity ≤ 5 ∧ 1 ≤ s.dead ∧ s.dead ≤ 4 ∧ 1 ≤ s.limit ∧ s.limit ≤ 3 ∧ 0 ≤ s.clock ∧ s.clock ≤ 1073741824 ∧ 1 ≤ s.nextID ∧ s.nextID ≤ 1073741824 ∧ 0 ≤ s.epoch ∧ s.epoch ≤ 65536) :
    arenaNew s = (arenaN s, 0) ∧ FitA (arenaN s) ∧ 1 ≤ (arenaN s).slots.length ∧ (arenaN s).slots.length ≤ 4 ∧ ∀ c : Int, 0 ≤ c → c ≤ (arenaN s).slots.length → owners (arenaN s) c = 0 := by
  have ho : okSetup s = true := by
    simp only [okSetup, inB, Bool.and_eq_true, decide_eq_true_eq]; omega
  have hl : (arenaN s).slots.length = s.slots.toNat := by simp [arenaN, slotsN]
  refine ⟨by unfold arenaNew; rw [if_pos ho], ⟨by omega, fun i hi => ?_, ?_, ?_, ?_, ?_⟩, by omega, by omega, fun c h0 h1 => ?_⟩
  · simp only [arenaN, slotsN, List.getElem_map, List.getElem_range, slotI]
    split <;> exact ⟨by simp [ringN]; omega, by simp, by simp⟩
  · simp [arenaN, stripesN]; omega
  · simp [arenaN]
  · simp [arenaN, dirN, spansN]; omega
  · simp [arenaN, dirN]; omega
  · unfold owners
    split
    · rfl
    · rw [getDT (by omega)]
      simp only [arenaN, slotsN, List.getElem_map, List.getElem_range, slotI]
structure Fresh (n : Nat) (l : Locker) : Prop where
  asc : Asc l.cells n
  one : 1 ≤ l.cells.length
  eq : l = ⟨l.cells, 0, 0, 0, 0⟩
theorem Fresh.wf {n : Nat} {l : Locker} (h : Fresh n l) : LWF 0 l := by
  have h1 := h.one
  have h2 := h.asc.l
  rw [h.eq]
  constructor <;> simp only <;> omega
theorem fresh_append {n : Nat} {ps : List Locker} {cs : List Int} (h : ∀ i (hi : i < ps.length), Fresh n ps[i]) (hc : Asc cs n) (h1 : 1 ≤ cs.length) : ∀ i (hi : i < (ps ++ [(⟨cs, 0, 0, 0, 0⟩ : Locker)]).length), Fresh n (ps ++ [(⟨cs, 0, 0, 0, 0⟩ : Locker)])[i] := by
  intro i hi
  by_cases c : i < ps.length
  · rw [List.getElem_append_left c]; exact h i c
  · have : i = ps.length := by simp at hi; omega
    subst this
    rw [List.getElem_append_right (by omega)]
    simp only [Nat.sub_self, List.getElem_cons_zero]
    exact ⟨hc, h1, rfl⟩
theorem scr0_loop (t : List Int) (ht : t.length ≤ 4000) (ar : Arena) (hn : ar.slots.length ≤ 4) : ∀ s : Nat × Nat × List Locker, s.1 ≤ 3 ∧ s.2.2.length = s.1 ∧ (∀ i (hi : i < s.2.2.length), Fresh ar.slots.length s.2.2[i]) → ∃ (a' : Nat) (ps : List Locker), ps.length = 3 ∧ (∀ i (hi : i < ps.length), Fresh ar.slots.length ps[i]) ∧ loopL G [] l_law13_LockerScript_0 ⟨[(3, .ref 28 0 0), (4, .ref 4 0 0), (6, .ref 6 0 0), (7, .acc 7 (s.2.2.map eLocker)), (8, .acc 8 (s.2.2.map eLocker)), (9, .d (.int .i64 s.1))], [(4, .row [.d (eArena ar)]), (6, .row [.d (eArena ar)]), (7, .acc s.2.2.length), (8, .acc s.2.2.length), (28, srcO t s.2.1)]⟩ = some (.exit 0, ⟨[(3, .ref 28 0 0), (4, .ref 4 0 0), (6, .ref 6 0 0), (7, .acc 7 (ps.map eLocker)), (8, .acc 8 (ps.map eLocker))], [(4, .row [.d (eArena ar)]), (6, .row [.d (eArena ar)]), (7, .acc ps.length), (8, .acc ps.length), (28, srcO t a')]⟩) := by
  refine loop_indP (fun s : Nat × Nat × List Locker => 3 - s.1) _ (fun s : Nat × Nat × List Locker => ⟨[(3, .ref 28 0 0), (4, .ref 4 0 0), (6, .ref 6 0 0), (7, .acc 7 (s.2.2.map eLocker)), (8, .acc 8 (s.2.2.map eLocker)), (9, .d (.int .i64 s.1))], [(4, .row [.d (eArena ar)]), (6, .row [.d (eArena ar)]), (7, .acc s.2.2.length), (8, .acc s.2.2.length), (28, srcO t s.2.1)]⟩) (fun s r => ∃ (a' : Nat) (ps : List Locker), ps.length = 3 ∧ (∀ i (hi : i < ps.length), Fresh ar.slots.length ps[i]) ∧ r = some (.exit 0, ⟨[(3, .ref 28 0 0), (4, .ref 4 0 0), (6, .ref 6 0 0), (7, .acc 7 (ps.map eLocker)), (8, .acc 8 (ps.map eLocker))], [(4, .row [.d (eArena ar)]), (6, .row [.d (eArena ar)]), (7, .acc ps.length), (8, .acc ps.length), (28, srcO t a')]⟩)) fun ⟨i, a, ps⟩ ⟨hi, hl, hf⟩ L ih => ?_
  simp only at hi hl hf ih
  simp only [l_law13_LockerScript_0]
  by_cases h3 : i < 3
  · obtain ⟨cs, a1, hc, h1, hs⟩ := some_ok t a ar.slots.length ht (by omega)
    have e1 := lnew_ok cs (by have := hc.l; omega)
    have e2 := l13new_ok cs (by have := hc.l; omega)
    rw [lockNew_asc hc (by omega) h1] at e1 e2
    have hsl := same_Locker ⟨cs, 0, 0, 0, 0⟩ ⟨cs, 0, 0, 0, 0⟩ (by have := hc.l; simp only; omega)
    simp only [decide_true] at hsl
    obtain ⟨a', qs, q1, q2, q3⟩ := ih (i + 1, a1, ps ++ [⟨cs, 0, 0, 0, 0⟩]) ⟨by simp only; omega, by simp [hl], fresh_append hf hc h1⟩ (by simp only; omega)
    refine ⟨a', qs, q1, q2, ?_⟩
    simp only [Int.natCast_add, Int.natCast_one, Int.natCast_zero, Int.natCast_mul, Int.cast_ofNat_Int, List.length_append, List.length_map, List.map_nil, List.length_nil, List.map_append, List.map_cons, List.length_cons, Nat.zero_add, srcO, mapSet] at q3
    rw [← q3]
    clear ih q3 hf q2 q1
    (try simp -implicitDefEqProofs (maxSteps := 4000000) (disch := omega) only [getDT, go_sem, *]); (try simp only [pA, pB, pC, pD, pE, pF, pG, pH, pI, pJ, pK, pL, pM, pN, pO, pP, if_true, if_false]); repeat' (first | done | rfl | (refine iteC (fun hq => ?_) (fun hq => ?_) <;> (try (first | (exfalso; omega) | contradiction)) <;> (try simp -implicitDefEqProofs (maxSteps := 4000000) (disch := omega) only [getDT, go_sem, *]) <;> (try simp only [pA, pB, pC, pD, pE, pF, pG, pH, pI, pJ, pK, pL, pM, pN, pO, pP, if_true, if_false]))); (all_goals try rfl); (all_goals try (repeat' (first | done | rfl | (exfalso; omega) | contradiction | (refine iteR (fun hq => ?_) (fun hq => ?_)))))
  · refine ⟨a, ps, by omega, hf, ?_⟩
    clear ih hf
    (try simp -implicitDefEqProofs (maxSteps := 4000000) (disch := omega) only [getDT, go_sem, *]); (try simp only [pA, pB, pC, pD, pE, pF, pG, pH, pI, pJ, pK, pL, pM, pN, pO, pP, if_true, if_false]); repeat' (first | done | rfl | (refine iteC (fun hq => ?_) (fun hq => ?_) <;> (try (first | (exfalso; omega) | contradiction)) <;> (try simp -implicitDefEqProofs (maxSteps := 4000000) (disch := omega) only [getDT, go_sem, *]) <;> (try simp only [pA, pB, pC, pD, pE, pF, pG, pH, pI, pJ, pK, pL, pM, pN, pO, pP, if_true, if_false]))); (all_goals try rfl); (all_goals try (repeat' (first | done | rfl | (exfalso; omega) | contradiction | (refine iteR (fun hq => ?_) (fun hq => ?_)))))
theorem lockerScript_law (l : List Int) (hL : l.length ≤ LIM) : callL G N_law13_LockerScript [.d (.sl (ints l))] [] = some (.d (.bool true), []) := by
  obtain ⟨t, ht, hnew⟩ := new_ok2 l hL
  obtain ⟨s, a1, hs, hs1⟩ := setup_ok0 t ht
  have ha := arenaNew_ok s
  obtain ⟨he, hf, hn1, hn4, ho⟩ := arenaN_of hs
  rw [he] at ha
  generalize arenaN s = ar at *
  obtain ⟨a2, ps, hp, hfr, hl0⟩ := scr0_loop t ht ar hn4 (0, a1, []) ⟨by simp, by simp, by simp⟩
  have hl1 := scr_loop t ht ⟨0, a2, ar, ps⟩ ⟨by simp, hf, hp, fun i hi => (hfr i hi).wf⟩
  have hw := awake13_ok
  simp only [scrS, List.map_nil, List.length_nil, hp] at hl0 hl1
  simp only [Int.natCast_add, Int.natCast_one, Int.natCast_zero, Int.natCast_mul, Int.cast_ofNat_Int, List.length_append, List.length_map, List.map_nil, List.length_nil, List.map_append, List.map_cons, List.length_cons, Nat.zero_add, srcO, mapSet] at hl0 hl1
  clear hfr ho hf he hs hn1 hn4
  rw [callL_code g_law13_LockerScript (by simp)]; simp -implicitDefEqProofs (maxSteps := 4000000) (disch := omega) only [c_law13_LockerScript, r_law13_LockerScript, getDT, go_sem, *]; (try simp only [pA, pB, pC, pD, pE, pF, pG, pH, pI, pJ, pK, pL, pM, pN, pO, pP, if_true, if_false]); repeat' (first | done | rfl | (refine iteC (fun hq => ?_) (fun hq => ?_) <;> (try (first | (exfalso; omega) | contradiction)) <;> (try simp -implicitDefEqProofs (maxSteps := 4000000) (disch := omega) only [getDT, go_sem, *]) <;> (try simp only [pA, pB, pC, pD, pE, pF, pG, pH, pI, pJ, pK, pL, pM, pN, pO, pP, if_true, if_false]))); (all_goals try rfl); (all_goals try (repeat' (first | done | rfl | (exfalso; omega) | contradiction | (refine iteR (fun hq => ?_) (fun hq => ?_)))))
end Go.Proofs.Ytkdjbfjohbiemaa

namespace Go.Proofs.Ytkdjbfjohbiemaa
open Go Go.Sim
set_option linter.unusedSimpArgs false
set_option linter.unusedVariables false
set_option maxHeartbeats 10000000
set_option maxRecDepth 40000
theorem owners_set (a : Arena) (c k c' : Int) (h0 : 0 ≤ c) (h1 : c ≤ a.slots.length) (h2 : 0 ≤ c') (h3 : c' ≤ a.slots.length) : owners (setOwner a c k) c' = if c' = c then k else owners a c' := by
  unfold owners
  rw [setOwner_len]
  unfold setOwner
  by_cases e : c = a.slots.length
  · rw [if_pos e]
    by_cases e2 : c' = a.slots.length
    · rw [if_pos e2, if_pos (by omega)]
    · rw [if_neg e2, if_neg e2, if_neg (by omega)]
  · rw [if_neg e]
    by_cases e2 : c' = a.slots.length
    · rw [if_pos e2, if_pos e2, if_neg (by omega)]
    · rw [if_neg e2, if_neg e2]
      have hl : c'.toNat < a.slots.length := by omega
      rw [getDT (by simpa using hl), getDT hl]
      simp only [List.getElem_set]
      by_cases e3 : c' = c
      · subst e3; simp
      · rw [if_neg (by omega), if_neg e3]
/-- The cells that a locker has. -/
def held (l : Locker) : List Int := l.cells.take l.have_.toNat
structure OWN (n : Nat) (B : Int) (a : Arena) (ps : List Locker) : Prop where
  nn : a.slots.length = n
  f : FitA a
  asc : ∀ j (h : j < ps.length), Asc ps[j].cells n
  wf : LWFs B ps
  jj : ∀ c : Int, 0 ≤ c → c ≤ n → ∀ j (h : j < ps.length), (c ∈ held ps[j] ↔ owners a c = (j : Int) + 1)
  rr : ∀ c : Int, 0 ≤ c → c ≤ n → 0 ≤ owners a c ∧ owners a c ≤ ps.length
theorem OWN.mono {n : Nat} {B B' : Int} {a : Arena} {ps : List Locker} (h : OWN n B a ps) (hb : B ≤ B') : OWN n B' a ps := ⟨h.nn, h.f, h.asc, fun i hi => (h.wf i hi).mono hb, h.jj, h.rr⟩
/-- A locker changes that has the same cells as before. -/
theorem OWN.set {n : Nat} {B : Int} {a : Arena} {ps : List Locker} (h : OWN n B a ps) {j : Nat} (hj : j < ps.length) {x : Locker} (hx : LWF B x) (hc : x.cells = ps[j].cells) (hh : held x = held ps[j]) : OWN n B a (ps.set j x) := by
  refine ⟨h.nn, h.f, fun i hi => ?_, LWFs.set h.wf hx, fun c c0 c1 i hi => ?_, fun c c0 c1 => by simpa using h.rr c c0 c1⟩
  · simp only [List.getElem_set]
    split
    · rw [hc]; exact h.asc j hj
    · exact h.asc i (by simpa using hi)
  · simp only [List.getElem_set]
    split
    · rename_i e; subst e; rw [hh]; exact h.jj c c0 c1 j hj
    · exact h.jj c c0 c1 i (by simpa using hi)
theorem OWN.free {n : Nat} {B : Int} {a : Arena} {ps : List Locker} (h : OWN n B a ps) {j : Nat} (hj : j < ps.length) (hp : ps[j].phase = 3) : OWN n B a (ps.set j (lockFree ps[j]).1) := by
  have hk := lockFree_wf (h.wf j hj) hp
  refine h.set hj hk.1 hk.2 ?_
  unfold held lockFree
  rw [if_pos hp]
theorem asc_lt {cs : List Int} {n : Int} (h : Asc cs n) {i j : Nat} (hij : i < j) (hj : j < cs.length) : cs[i] < cs[j] := List.pairwise_iff_getElem.1 h.p i j (by omega) hj hij
theorem mem_take_succ {cs : List Int} {k : Nat} (h : k < cs.length) (c : Int) : c ∈ cs.take (k + 1) ↔ c ∈ cs.take k ∨ c = cs[k] := by
  have : cs.take (k + 1) = cs.take k ++ [cs[k]] := by rw [List.take_append_getElem h]
  rw [this, List.mem_append, List.mem_singleton]
theorem asc_notmem {cs : List Int} {n : Int} (h : Asc cs n) {k : Nat} (hk : k < cs.length) : cs[k] ∉ cs.take k := by
  intro hm
  obtain ⟨i, hi, e⟩ := List.getElem_of_mem hm
  simp only [List.getElem_take, List.length_take] at e hi
  have := asc_lt h (i := i) (j := k) (by omega) hk
  omega
/-- What a step does that is not refused. -/
inductive Did (a : Arena) (l : Locker) (k : Int) : Arena → Locker → Prop
  | got (h0 : l.phase = 0) (hk : l.have_ < l.cells.length) (ho : owners a (l.cells.getD l.have_.toNat 0) = 0) : Did a l k (setOwner a (l.cells.getD l.have_.toNat 0) k) { l with have_ := l.have_ + 1, phase := if l.have_ + 1 = l.cells.length then 3 else 0 }
  | failed (h0 : l.phase = 0) (hk : l.have_ < l.cells.length) (ho : owners a (l.cells.getD l.have_.toNat 0) ≠ 0) : Did a l k a { l with phase := if 0 < l.have_ then 1 else 0 }
  | left (h0 : l.phase = 1 ∨ l.phase = 4) (hk : 1 ≤ l.have_) (ho : owners a (l.cells.getD (l.have_ - 1).toNat 0) = k) : Did a l k (setOwner a (l.cells.getD (l.have_ - 1).toNat 0) 0) (leaveL l)
  | waited (h0 : l.phase = 2) : Did a l k a { l with wait := l.wait - 1, phase := if l.wait - 1 = 0 then 0 else 2 }
theorem held_of (l : Locker) : held l = l.cells.take l.have_.toNat := rfl
theorem own_step {n : Nat} {B : Int} {a : Arena} {ps : List Locker} (h : OWN n B a ps) {j : Nat} (hj : j < ps.length) (h6 : ps.length ≤ 200) (hp : ps[j].phase ≠ 3 ∧ ps[j].phase ≠ 5) :
    (lockStep a ps[j] ((j : Int) + 1)).2.2 = 0 ∧ Did a ps[j] ((j : Int) + 1) (lockStep a ps[j] ((j : Int) + 1)).1 (lockStep a ps[j] ((j : Int) + 1)).2.1 ∧ OWN n (B + 1) (lockStep a ps[j] ((j : Int) + 1)).1 (ps.set j (lockStep a ps[j] ((j : Int) + 1)).2.1) := by
  have hw := h.wf j hj
  have ha := h.asc j hj
  have hn := h.nn
  have htask : taskB ((j : Int) + 1) = true := by unfold taskB inB; simp; omega
  have key : (lockStep a ps[j] ((j : Int) + 1)).2.2 = 0 ∧ Did a ps[j] ((j : Int) + 1) (lockStep a ps[j] ((j : Int) + 1)).1 (lockStep a ps[j] ((j : Int) + 1)).2.1 := by
    obtain ⟨w1, w2, w3, w4, w5, w6, w7, w8, w9, w10, w11, w12, w13⟩ := hw
    unfold lockStep
    by_cases c0 : ps[j].phase = 0
    · have hh := w5 c0
      rw [if_pos c0]
      have hc := ha.b (ps[j].cells.getD ps[j].have_.toNat 0) (by rw [getDT (by omega)]; exact List.getElem_mem _)
      have ht : aTry a (ps[j].cells.getD ps[j].have_.toNat 0) ((j : Int) + 1) = if owners a (ps[j].cells.getD ps[j].have_.toNat 0) = 0 then (setOwner a (ps[j].cells.getD ps[j].have_.toNat 0) ((j : Int) + 1), true, 0) else (a, false, 0) := by
        unfold aTry
        rw [if_neg (by rw [htask, hn]; rintro (q | q | q) <;> first | omega | cases q)]
      unfold lockTry
      rw [ht]
      by_cases c1 : owners a (ps[j].cells.getD ps[j].have_.toNat 0) = 0
      · rw [if_pos c1]
        refine ⟨rfl, ?_⟩
        have := Did.got (k := (j : Int) + 1) c0 hh c1
        simp only [c0, if_true]
        exact this
      · rw [if_neg c1]
        refine ⟨rfl, ?_⟩
        have := Did.failed (k := (j : Int) + 1) c0 hh c1
        simp only [c0, if_true, Bool.false_eq_true, if_false]
        exact this
    rw [if_neg c0]
    by_cases c14 : ps[j].phase = 1 ∨ ps[j].phase = 4
    · have hh : 1 ≤ ps[j].have_ := by rcases c14 with h | h; exact w6 h; exact w9 h
      rw [if_pos c14]
      have hlt : (ps[j].have_ - 1).toNat < ps[j].cells.length := by omega
      have hc := ha.b (ps[j].cells.getD (ps[j].have_ - 1).toNat 0) (by rw [getDT hlt]; exact List.getElem_mem _)
      have ho : owners a (ps[j].cells.getD (ps[j].have_ - 1).toNat 0) = (j : Int) + 1 := by
        refine (h.jj _ hc.1 hc.2 j hj).1 ?_
        rw [held_of, getDT hlt]
        rw [show ps[j].have_.toNat = (ps[j].have_ - 1).toNat + 1 by omega, mem_take_succ hlt]
        exact .inr rfl
      unfold lockLeave
      have ht : aUnlock a (ps[j].cells.getD (ps[j].have_ - 1).toNat 0) ((j : Int) + 1) = (setOwner a (ps[j].cells.getD (ps[j].have_ - 1).toNat 0) 0, 0) := by
        unfold aUnlock
        rw [if_neg (by rw [htask, hn]; rintro (q | q | q) <;> first | omega | cases q), if_pos ho]
      rw [ht]
      exact ⟨rfl, Did.left c14 hh ho⟩
    rw [if_neg c14]
    have c2 : ps[j].phase = 2 := by omega
    rw [if_pos c2]
    exact ⟨rfl, Did.waited c2⟩
  obtain ⟨k1, k2⟩ := key
  obtain ⟨g1, g2, g3⟩ := lockStep_keep hw k1
  refine ⟨k1, k2, ?_⟩
  generalize (lockStep a ps[j] ((j : Int) + 1)).1 = u at *
  generalize (lockStep a ps[j] ((j : Int) + 1)).2.1 = x at *
  have base : held x = held ps[j] → u = a → OWN n (B + 1) u (ps.set j x) := by
    rintro e1 rfl
    exact (h.mono (B' := B + 1) (by omega)).set hj g1 g2 e1
  have hlen : u.slots.length = n := by
    rcases g3 with g3 | ⟨c, o, g3⟩
    · rw [g3]; exact hn
    · rw [g3, setOwner_len]; exact hn
  have hfit : FitA u := by
    rcases g3 with g3 | ⟨c, o, g3⟩
    · rw [g3]; exact h.f
    · rw [g3]; exact fitA_set h.f c o
  have rest : (∀ c : Int, 0 ≤ c → c ≤ n → (c ∈ held x ↔ owners u c = (j : Int) + 1)) → (∀ c : Int, 0 ≤ c → c ≤ n → ∀ i, i < ps.length → i ≠ j → (owners u c = (i : Int) + 1 ↔ owners a c = (i : Int) + 1)) → (∀ c : Int, 0 ≤ c → c ≤ n → 0 ≤ owners u c ∧ owners u c ≤ ps.length) → OWN n (B + 1) u (ps.set j x) := by
    intro r1 r2 r3
    refine ⟨hlen, hfit, fun i hi => ?_, LWFs.set (fun q hq => (h.wf q hq).mono (by omega)) g1, fun c c0 c1 i hi => ?_, fun c c0 c1 => by simpa using r3 c c0 c1⟩
    · simp only [List.getElem_set]
      split
      · rw [g2]; exact ha
      · exact h.asc i (by simpa using hi)
    · simp only [List.getElem_set]
      split
      · rename_i e; subst e; exact r1 c c0 c1
      · rename_i e
        have hi : i < ps.length := by simpa using hi
        rw [r2 c c0 c1 i hi (by omega)]
        exact h.jj c c0 c1 i hi
  cases k2 with
  | got h0 hk ho =>
    have hlt : ps[j].have_.toNat < ps[j].cells.length := by have := hw.h0; omega
    have hc := ha.b (ps[j].cells.getD ps[j].have_.toNat 0) (by rw [getDT hlt]; exact List.getElem_mem _)
    have hos := fun (c : Int) (h0 : 0 ≤ c) (h1 : c ≤ n) => owners_set a (ps[j].cells.getD ps[j].have_.toNat 0) ((j : Int) + 1) c hc.1 (by rw [hn]; exact hc.2) h0 (by rw [hn]; exact h1)
    refine rest (fun c c0 c1 => ?_) (fun c c0 c1 i hi hne => ?_) (fun c c0 c1 => ?_)
    · rw [hos c c0 c1]
      have := h.jj c c0 c1 j hj
      rw [held_of] at this ⊢
      simp only
      rw [show (ps[j].have_ + 1).toNat = ps[j].have_.toNat + 1 by have := hw.h0; omega, mem_take_succ hlt, this, getDT hlt]
      by_cases e : c = ps[j].cells[ps[j].have_.toNat]
      · rw [if_pos e]; exact ⟨fun _ => rfl, fun _ => .inr e⟩
      · rw [if_neg e]; exact ⟨fun q => q.resolve_right e, .inl⟩
    · rw [hos c c0 c1]
      by_cases e : c = ps[j].cells.getD ps[j].have_.toNat 0
      · rw [if_pos e, e, ho]; constructor <;> intro q <;> omega
      · rw [if_neg e]
    · rw [hos c c0 c1]
      have := h.rr c c0 c1
      split <;> omega
  | failed h0 hk ho => exact base rfl rfl
  | waited h0 => exact base rfl rfl
  | left h0 hk ho =>
    have hlt : (ps[j].have_ - 1).toNat < ps[j].cells.length := by have := hw.h1; omega
    have hc := ha.b (ps[j].cells.getD (ps[j].have_ - 1).toNat 0) (by rw [getDT hlt]; exact List.getElem_mem _)
    have hos := fun (c : Int) (h0 : 0 ≤ c) (h1 : c ≤ n) => owners_set a (ps[j].cells.getD (ps[j].have_ - 1).toNat 0) 0 c hc.1 (by rw [hn]; exact hc.2) h0 (by rw [hn]; exact h1)
    have hhx : held (leaveL ps[j]) = ps[j].cells.take (ps[j].have_ - 1).toNat := by
      unfold held leaveL
      split
      · rfl
      · split <;> rfl
    refine rest (fun c c0 c1 => ?_) (fun c c0 c1 i hi hne => ?_) (fun c c0 c1 => ?_)
    · rw [hos c c0 c1, hhx]
      have := h.jj c c0 c1 j hj
      rw [held_of, show ps[j].have_.toNat = (ps[j].have_ - 1).toNat + 1 by omega, mem_take_succ hlt] at this
      have hnm := asc_notmem ha hlt
      rw [getDT hlt] at hos ho ⊢
      by_cases e : c = ps[j].cells[(ps[j].have_ - 1).toNat]
      · rw [if_pos e]
        constructor
        · intro q; rw [e] at q; exact absurd q hnm
        · intro q; omega
      · rw [if_neg e, ← this]
        exact ⟨.inl, fun q => q.resolve_right e⟩
    · rw [hos c c0 c1]
      by_cases e : c = ps[j].cells.getD (ps[j].have_ - 1).toNat 0
      · rw [if_pos e, e, ho]; constructor <;> intro q <;> omega
      · rw [if_neg e]
    · rw [hos c c0 c1]
      have := h.rr c c0 c1
      split <;> omega
theorem own_first {n : Nat} {a : Arena} {ps : List Locker} (hn : a.slots.length = n) (hf : FitA a) (ho : ∀ c : Int, 0 ≤ c → c ≤ a.slots.length → owners a c = 0) (hp : ∀ i (hi : i < ps.length), Fresh n ps[i]) : OWN n 0 a ps := by
  refine ⟨hn, hf, fun j h => (hp j h).asc, fun j h => (hp j h).wf, fun c c0 c1 j h => ?_, fun c c0 c1 => by rw [ho c c0 (by rw [hn]; exact c1)]; omega⟩
  rw [ho c c0 (by rw [hn]; exact c1), held_of, (hp j h).eq]
  simp only [Int.toNat_zero, List.take_zero, List.not_mem_nil, false_iff]
  omega
end Go.Proofs.Ytkdjbfjohbiemaa

namespace Go.Proofs.Ytkdjbfjohbiemaa
open Go Go.Sim
set_option linter.unusedSimpArgs false
set_option linter.unusedVariables false
set_option maxHeartbeats 10000000
set_option maxRecDepth 40000
/-- One turn of a locker: it gives back what it has, where it has all; it steps; nothing, where it is free. -/
def turn1 (a : Arena) (l : Locker) (k : Int) : Arena × Locker :=
  if l.phase = 5 then (a, l) else if l.phase = 3 then ((lockStep a (lockFree l).1 k).1, (lockStep a (lockFree l).1 k).2.1) else ((lockStep a l k).1, (lockStep a l k).2.1)
def turnP (k : Nat) (s : Arena × List Locker) : Arena × List Locker :=
  if h : k < s.2.length then ((turn1 s.1 s.2[k] ((k : Int) + 1)).1, s.2.set k (turn1 s.1 s.2[k] ((k : Int) + 1)).2) else s
/-- The first k turns of a round. -/
def turns : Nat → Arena × List Locker → Arena × List Locker
  | 0, s => s
  | k + 1, s => turnP k (turns k s)
/-- After r rounds. -/
def rounds (m : Nat) (s : Arena × List Locker) : Nat → Arena × List Locker
  | 0 => s
  | r + 1 => turns m (rounds m s r)
/-- Before turn k of round r. -/
def at_ (m : Nat) (s : Arena × List Locker) (r k : Nat) : Arena × List Locker := turns k (rounds m s r)
theorem turnP_len (k : Nat) (s : Arena × List Locker) : (turnP k s).2.length = s.2.length := by
  unfold turnP; split <;> simp
theorem turns_len : ∀ (k : Nat) (s : Arena × List Locker), (turns k s).2.length = s.2.length
  | 0, s => rfl
  | k + 1, s => by rw [turns, turnP_len, turns_len]
theorem rounds_len (m : Nat) (s : Arena × List Locker) : ∀ r, (rounds m s r).2.length = s.2.length
  | 0 => rfl
  | r + 1 => by rw [rounds, turns_len, rounds_len]
/-- What is true between turns. -/
structure TI (n : Nat) (s : Arena × List Locker) : Prop where
  own : ∃ B, OWN n B s.1 s.2
  six : s.2.length ≤ 6
theorem own_turn {n : Nat} {B : Int} {s : Arena × List Locker} (ho : OWN n B s.1 s.2) (h6 : s.2.length ≤ 6) (k : Nat) : OWN n (B + 1) (turnP k s).1 (turnP k s).2 := by
  unfold turnP
  split
  rotate_left
  · exact ho.mono (by omega)
  rename_i hk
  unfold turn1
  by_cases c5 : s.2[k].phase = 5
  · rw [if_pos c5]; simpa using ho.mono (by omega)
  rw [if_neg c5]
  by_cases c3 : s.2[k].phase = 3
  · rw [if_pos c3]
    have hf := ho.free hk c3
    have e4 : (lockFree s.2[k]).1.phase = 4 := by unfold lockFree; rw [if_pos c3]
    have hg : (s.2.set k (lockFree s.2[k]).1)[k]'(by simpa using hk) = (lockFree s.2[k]).1 := by simp
    have := own_step hf (by simpa using hk) (by simp; omega) (by rw [hg, e4]; decide)
    rw [hg, List.set_set] at this
    exact this.2.2
  · rw [if_neg c3]
    exact (own_step ho hk (by omega) ⟨c3, c5⟩).2.2
theorem own_turns {n : Nat} {B : Int} {s : Arena × List Locker} (ho : OWN n B s.1 s.2) (h6 : s.2.length ≤ 6) : ∀ k : Nat, OWN n (B + k) (turns k s).1 (turns k s).2
  | 0 => by show OWN n _ s.1 s.2; simpa using ho
  | k + 1 => by
    have := own_turn (own_turns ho h6 k) (by rw [turns_len]; exact h6) k
    rw [show B + ((k + 1 : Nat) : Int) = B + k + 1 by omega]
    exact this
theorem own_rounds {n m : Nat} {B : Int} {s : Arena × List Locker} (ho : OWN n B s.1 s.2) (h6 : s.2.length ≤ 6) (hm : m ≤ 6) : ∀ r : Nat, OWN n (B + 6 * r) (rounds m s r).1 (rounds m s r).2
  | 0 => by show OWN n _ s.1 s.2; simpa using ho
  | r + 1 => (own_turns (own_rounds ho h6 hm r) (by rw [rounds_len]; exact h6) m).mono (by omega)
theorem TI.turn {n : Nat} {s : Arena × List Locker} (h : TI n s) (k : Nat) : TI n (turnP k s) := by
  obtain ⟨⟨B, ho⟩, h6⟩ := h
  exact ⟨⟨_, own_turn ho h6 k⟩, by rw [turnP_len]; exact h6⟩
theorem TI.turns {n : Nat} {s : Arena × List Locker} (h : TI n s) : ∀ k, TI n (turns k s)
  | 0 => h
  | k + 1 => (TI.turns h k).turn k
theorem TI.rounds {n m : Nat} {s : Arena × List Locker} (h : TI n s) : ∀ r, TI n (rounds m s r)
  | 0 => h
  | r + 1 => (TI.rounds h r).turns m
/-- The locker j before its turn in round r. -/
def lk (m : Nat) (s : Arena × List Locker) (r j : Nat) : Locker := (rounds m s r).2.getD j zLocker
theorem turnP_ne {k j : Nat} {s : Arena × List Locker} (h : j ≠ k) : (turnP k s).2.getD j zLocker = s.2.getD j zLocker := by
  unfold turnP
  split
  · simp only [List.getD_eq_getElem?_getD, List.getElem?_set_ne (Ne.symm h)]
  · rfl
/-- Before and behind its turn a locker stays as it is. -/
theorem turns_before : ∀ {k j : Nat} {s : Arena × List Locker}, k ≤ j → (turns k s).2.getD j zLocker = s.2.getD j zLocker
  | 0, j, s, _ => rfl
  | k + 1, j, s, h => by rw [turns, turnP_ne (by omega), turns_before (by omega)]
theorem turns_after {j : Nat} {s : Arena × List Locker} : ∀ {k : Nat}, j < k → (turns k s).2.getD j zLocker = (turns (j + 1) s).2.getD j zLocker
  | 0, h => by omega
  | k + 1, h => by
    by_cases e : j = k
    · rw [e]
    · rw [turns, turnP_ne e, turns_after (by omega)]
theorem at_before (m : Nat) (s : Arena × List Locker) {r k j : Nat} (h : k ≤ j) : (at_ m s r k).2.getD j zLocker = lk m s r j := turns_before h
theorem at_after (m : Nat) (s : Arena × List Locker) {r k j : Nat} (h : j < k) (hm : j < m) : (at_ m s r k).2.getD j zLocker = lk m s (r + 1) j := by
  show (turns k (rounds m s r)).2.getD j zLocker = (turns m (rounds m s r)).2.getD j zLocker
  rw [turns_after h, turns_after hm]
theorem lk_next (m : Nat) (s : Arena × List Locker) {r j : Nat} (hj : j < s.2.length) (hm : j < m) : lk m s (r + 1) j = (turn1 (at_ m s r j).1 (lk m s r j) ((j : Int) + 1)).2 := by
  rw [← at_after m s (r := r) (k := j + 1) (by omega) hm]
  unfold at_
  rw [turns]
  have hl : j < (turns j (rounds m s r)).2.length := by rw [turns_len, rounds_len]; exact hj
  have e : (turns j (rounds m s r)).2[j] = lk m s r j := by
    rw [← getDT (d := zLocker) hl, turns_before (by omega)]; rfl
  unfold turnP
  rw [dif_pos hl]
  simp only
  rw [getDT (by simpa using hl), List.getElem_set_self, e]
inductive Tr (a : Arena) (l l' : Locker) : Prop
  | free (h : l.phase = 5) (e : l' = l)
  | got (h : l.phase = 0) (hk : l.have_ < l.cells.length) (ho : owners a (l.cells.getD l.have_.toNat 0) = 0) (e : l' = { l with have_ := l.have_ + 1, phase := if l.have_ + 1 = l.cells.length then 3 else 0 })
  | blocked (h : l.phase = 0) (hk : l.have_ < l.cells.length) (ho : owners a (l.cells.getD l.have_.toNat 0) ≠ 0) (e : l' = { l with phase := if 0 < l.have_ then 1 else 0 })
  | leave1 (h : l.phase = 1) (hk : 1 ≤ l.have_) (e : l' = leaveL l)
  | leave4 (h : l.phase = 3 ∨ l.phase = 4) (hk : 1 ≤ l.have_) (e1 : l'.cells = l.cells) (e2 : l'.have_ = l.have_ - 1) (e3 : l'.phase = if 0 < l.have_ - 1 then 4 else 5)
  | wait (h : l.phase = 2) (e : l' = { l with wait := l.wait - 1, phase := if l.wait - 1 = 0 then 0 else 2 })
/-- A system of lockers that began afresh. -/
structure SYS (n m : Nat) (s : Arena × List Locker) : Prop where
  ti : TI n s
  len : s.2.length = m
  fresh : ∀ j (h : j < s.2.length), Fresh n s.2[j]
  n4 : n ≤ 4
variable {n m : Nat} {s : Arena × List Locker}
theorem SYS.own (h : SYS n m s) (r k : Nat) : ∃ B, OWN n B (at_ m s r k).1 (at_ m s r k).2 ∧ (at_ m s r k).2.length = m := by
  obtain ⟨⟨B, h1⟩, h2⟩ := (h.ti.rounds (m := m) r).turns k
  exact ⟨B, h1, by unfold at_; rw [turns_len, rounds_len, h.len]⟩
theorem SYS.m6 (h : SYS n m s) : m ≤ 6 := by have := h.ti.six; rw [h.len] at this; exact this
theorem SYS.wf (h : SYS n m s) (r : Nat) {j : Nat} (hj : j < m) : ∃ B, LWF B (lk m s r j) ∧ Asc (lk m s r j).cells n := by
  obtain ⟨B, ho, hl⟩ := h.own r 0
  have hj2 : j < (at_ m s r 0).2.length := by rw [hl]; exact hj
  have e : (at_ m s r 0).2[j] = lk m s r j := by rw [← getDT (d := zLocker) hj2]; rfl
  exact ⟨B, e ▸ ho.wf j hj2, e ▸ ho.asc j hj2⟩
theorem SYS.tr (h : SYS n m s) (r : Nat) {j : Nat} (hj : j < m) : Tr (at_ m s r j).1 (lk m s r j) (lk m s (r + 1) j) := by
  obtain ⟨B, ho, hl⟩ := h.own r j
  have hj2 : j < (at_ m s r j).2.length := by rw [hl]; exact hj
  have e : (at_ m s r j).2[j] = lk m s r j := by rw [← getDT (d := zLocker) hj2, at_before m s (Nat.le_refl j)]
  have hm6 := h.m6
  rw [lk_next m s (by rw [h.len]; exact hj) hj]
  have hw := ho.wf j hj2
  rw [e] at hw
  unfold turn1
  by_cases c5 : (lk m s r j).phase = 5
  · rw [if_pos c5]; exact .free c5 rfl
  rw [if_neg c5]
  by_cases c3 : (lk m s r j).phase = 3
  · rw [if_pos c3]
    have hf := ho.free hj2 (by rw [e]; exact c3)
    rw [e] at hf
    have hg : ((at_ m s r j).2.set j (lockFree (lk m s r j)).1)[j]'(by simpa using hj2) = (lockFree (lk m s r j)).1 := by simp
    have e4 : (lockFree (lk m s r j)).1 = { lk m s r j with phase := 4 } := by unfold lockFree; rw [if_pos c3]
    have := (own_step hf (by simpa using hj2) (by simp; omega) (by rw [hg, e4]; exact ⟨by simp, by simp⟩)).2.1
    rw [hg, e4] at this
    rw [e4]
    generalize (lockStep (at_ m s r j).1 { lk m s r j with phase := 4 } ((j : Int) + 1)).1 = u at *
    generalize (lockStep (at_ m s r j).1 { lk m s r j with phase := 4 } ((j : Int) + 1)).2.1 = x at *
    have h1 := hw.t3 c3
    have h2 := hw.c1
    cases this with
    | got q => simp at q
    | failed q => simp at q
    | waited q => simp at q
    | left q1 q2 q3 =>
      refine .leave4 (.inl c3) (by omega) ?_ ?_ ?_
      · unfold leaveL; simp only; split
        · rfl
        · rfl
      · unfold leaveL; simp only; split
        · rfl
        · rfl
      · unfold leaveL; simp only; split
        · rfl
        · rfl
  rw [if_neg c3]
  have := (own_step ho hj2 (by omega) (by rw [e]; exact ⟨c3, c5⟩)).2.1
  rw [e] at this
  generalize (lockStep (at_ m s r j).1 (lk m s r j) ((j : Int) + 1)).1 = u at *
  generalize (lockStep (at_ m s r j).1 (lk m s r j) ((j : Int) + 1)).2.1 = x at *
  cases this with
  | got q1 q2 q3 => exact .got q1 q2 q3 rfl
  | failed q1 q2 q3 => exact .blocked q1 q2 q3 rfl
  | waited q => exact .wait q rfl
  | left q1 q2 q3 =>
    by_cases c1 : (lk m s r j).phase = 1
    · exact .leave1 c1 q2 rfl
    · have c4 : (lk m s r j).phase = 4 := q1.resolve_left c1
      refine .leave4 (.inr c4) q2 ?_ ?_ ?_
      · unfold leaveL; split
        · rfl
        · first | rfl | (split <;> rfl)
      · unfold leaveL; split
        · rfl
        · first | rfl | (split <;> rfl)
      · unfold leaveL; split
        · exact c4
        · first | rfl | rw [if_pos c4]
theorem leaveL_cells (l : Locker) : (leaveL l).cells = l.cells ∧ (leaveL l).have_ = l.have_ - 1 := by
  unfold leaveL; split
  · exact ⟨rfl, rfl⟩
  · split <;> exact ⟨rfl, rfl⟩
theorem SYS.cells (h : SYS n m s) {j : Nat} (hj : j < m) : ∀ r, (lk m s r j).cells = (lk m s 0 j).cells
  | 0 => rfl
  | r + 1 => by
    rw [← h.cells hj r]
    cases h.tr r hj with
    | free q e => rw [e]
    | got q1 q2 q3 e => rw [e]
    | blocked q1 q2 q3 e => rw [e]
    | leave1 q1 q2 e => rw [e, (leaveL_cells _).1]
    | leave4 q1 q2 e1 => exact e1
    | wait q e => rw [e]
theorem SYS.up1 (h : SYS n m s) {j : Nat} (hj : j < m) (r : Nat) (hp : 3 ≤ (lk m s r j).phase) : 3 ≤ (lk m s (r + 1) j).phase := by
  cases h.tr r hj with
  | free q e => rw [e]; exact hp
  | got q1 => omega
  | blocked q1 => omega
  | leave1 q1 => omega
  | leave4 q1 q2 e1 e2 e3 => rw [e3]; split <;> omega
  | wait q e => omega
theorem SYS.up (h : SYS n m s) {j : Nat} (hj : j < m) {r r' : Nat} (hr : r ≤ r') (hp : 3 ≤ (lk m s r j).phase) : 3 ≤ (lk m s r' j).phase := by
  induction hr with
  | refl => exact hp
  | step _ ih => exact h.up1 hj _ ih
theorem SYS.freed (h : SYS n m s) {j : Nat} (hj : j < m) : ∀ (d r : Nat), 3 ≤ (lk m s r j).phase → (lk m s r j).have_ ≤ d → (lk m s (r + d) j).phase = 5
  | 0, r, hp, hh => by
    obtain ⟨B, hw, _⟩ := h.wf r hj
    have h1 := hw.t3; have h2 := hw.t4; have h3 := hw.c1; have h4 := hw.t5
    show (lk m s r j).phase = 5
    by_cases c3 : (lk m s r j).phase = 3
    · have := h1 c3; omega
    · by_cases c4 : (lk m s r j).phase = 4
      · have := h2 c4; omega
      · omega
  | d + 1, r, hp, hh => by
    have hup := h.up1 hj r hp
    rw [show r + (d + 1) = (r + 1) + d by omega]
    cases h.tr r hj with
    | free q e =>
      refine h.freed hj d (r + 1) hup ?_
      obtain ⟨B, hw, _⟩ := h.wf r hj
      have := hw.t6 q
      rw [e]; omega
    | got q1 => omega
    | blocked q1 => omega
    | leave1 q1 => omega
    | leave4 q1 q2 e1 e2 e3 => exact h.freed hj d (r + 1) hup (by omega)
    | wait q e => omega
def Blk (m : Nat) (s : Arena × List Locker) (r j : Nat) : Prop := (lk m s r j).phase = 0 ∧ (lk m s r j).have_ < (lk m s r j).cells.length ∧ owners (at_ m s r j).1 ((lk m s r j).cells.getD (lk m s r j).have_.toNat 0) ≠ 0
theorem SYS.hist (h : SYS n m s) {j : Nat} (hj : j < m) : ∀ r, (lk m s r j).phase = 1 → ∃ r', r' < r ∧ Blk m s r' j ∧ (r : Int) + (lk m s r j).have_ ≤ r' + 1 + (lk m s r' j).have_ ∧ (lk m s r j).have_ ≤ (lk m s r' j).have_
  | 0, hp => by
    have hj2 : j < s.2.length := by rw [h.len]; exact hj
    have e : lk m s 0 j = s.2[j] := by unfold lk rounds; rw [getDT hj2]
    rw [e, (h.fresh j hj2).eq] at hp
    simp at hp
  | r + 1, hp => by
    cases h.tr r hj with
    | free q e => rw [e] at hp; omega
    | got q1 q2 q3 e => rw [e] at hp; simp only at hp; split at hp <;> omega
    | blocked q1 q2 q3 e => exact ⟨r, by omega, ⟨q1, q2, q3⟩, by rw [e]; simp only; omega, by rw [e]; simp⟩
    | leave1 q1 q2 e =>
      obtain ⟨r', g1, g2, g3, g4⟩ := h.hist hj r q1
      have := (leaveL_cells (lk m s r j)).2
      exact ⟨r', by omega, g2, by rw [e, this]; omega, by rw [e, this]; omega⟩
    | leave4 q1 q2 e1 e2 e3 => rw [e3] at hp; split at hp <;> omega
    | wait q e => rw [e] at hp; simp only at hp; split at hp <;> omega
/-- Between two rounds some locker got all its cells. -/
def NC (m : Nat) (s : Arena × List Locker) (r1 r2 : Nat) : Prop := ∃ j, j < m ∧ (lk m s r1 j).phase < 3 ∧ 3 ≤ (lk m s r2 j).phase
theorem SYS.nc (h : SYS n m s) {a b a' b' : Nat} (hc : NC m s a b) (ha : a' ≤ a) (hb : b ≤ b') : NC m s a' b' := by
  obtain ⟨j, hj, h1, h2⟩ := hc
  refine ⟨j, hj, ?_, h.up hj hb h2⟩
  by_cases q : (lk m s a' j).phase < 3
  · exact q
  · have := h.up hj ha (by omega); omega
def cellB (m : Nat) (s : Arena × List Locker) (r j : Nat) : Int := (lk m s r j).cells.getD (lk m s r j).have_.toNat 0
theorem SYS.cellB_in (h : SYS n m s) {r j : Nat} (hj : j < m) (hb : Blk m s r j) : 0 ≤ cellB m s r j ∧ cellB m s r j ≤ n := by
  obtain ⟨B, hw, ha⟩ := h.wf r hj
  have := hw.h0
  have h2 := hb.2.1
  unfold cellB
  rw [getDT (by omega)]
  exact ha.b _ (List.getElem_mem _)
/-- What a locker has is less than the cells that it does not have. -/
theorem SYS.held_lt (h : SYS n m s) {r r' j : Nat} (hj : j < m) {c : Int} (hc : c ∈ held (lk m s r j)) (hle : (lk m s r j).have_ ≤ (lk m s r' j).have_) (hb : Blk m s r' j) : c < cellB m s r' j := by
  obtain ⟨B, hw, ha⟩ := h.wf r' hj
  have h0 := hw.h0
  have h2 := hb.2.1
  have e : (lk m s r j).cells = (lk m s r' j).cells := by rw [h.cells hj r, h.cells hj r']
  unfold cellB
  rw [getDT (by omega)]
  unfold held at hc
  rw [e] at hc
  obtain ⟨i, hi, e2⟩ := List.getElem_of_mem hc
  simp only [List.getElem_take, List.length_take] at e2 hi
  rw [← e2]
  exact asc_lt ha (by omega) (by omega)
theorem SYS.chain (h : SYS n m s) : ∀ (d r k : Nat), k < m → Blk m s r k → n - cellB m s r k < d → 6 * d ≤ r → NC m s (r - 6 * d) (r + 3 * d)
  | 0, r, k, hk, hb, hd, hr => by have := h.cellB_in hk hb; omega
  | d + 1, r, k, hk, hb, hd, hr => by
    have hin := h.cellB_in hk hb
    obtain ⟨B, ho, hl⟩ := h.own r k
    have hrr := ho.rr (cellB m s r k) hin.1 hin.2
    have hne : owners (at_ m s r k).1 (cellB m s r k) ≠ 0 := hb.2.2
    obtain ⟨j, hj⟩ : ∃ j : Nat, owners (at_ m s r k).1 (cellB m s r k) = (j : Int) + 1 := ⟨(owners (at_ m s r k).1 (cellB m s r k) - 1).toNat, by omega⟩
    have hjm : j < m := by rw [hl] at hrr; omega
    have hheld := (ho.jj (cellB m s r k) hin.1 hin.2 j (by rw [hl]; exact hjm)).2 hj
    rw [← getDT (d := zLocker) (by rw [hl]; exact hjm)] at hheld
    -- the owner's own time
    obtain ⟨ρ, hρ1, hρ2, hρ⟩ : ∃ ρ, r ≤ ρ ∧ ρ ≤ r + 1 ∧ cellB m s r k ∈ held (lk m s ρ j) ∧ (j = k → ρ = r) := by
      by_cases q : j < k
      · exact ⟨r + 1, by omega, by omega, by rw [at_after m s q hjm] at hheld; exact hheld, fun e => by omega⟩
      · exact ⟨r, by omega, by omega, by rw [at_before m s (by omega)] at hheld; exact hheld, fun _ => rfl⟩
    obtain ⟨hρ, hρk⟩ := hρ
    have hjk : j ≠ k := by
      intro e
      have e2 := hρk e
      subst e e2
      have := h.held_lt hk hρ (Int.le_refl _) hb
      omega
    obtain ⟨B', hw, _⟩ := h.wf ρ hjm
    have hpos : 0 < (lk m s ρ j).have_ := by
      unfold held at hρ
      by_cases q : 0 < (lk m s ρ j).have_
      · exact q
      · rw [show (lk m s ρ j).have_.toNat = 0 by omega] at hρ; simp at hρ
    have h5 := hw.t5
    by_cases c3 : 3 ≤ (lk m s ρ j).phase
    · -- it has got all its cells not long ago
      have hne5 : (lk m s ρ j).phase ≠ 5 := fun q => by have := hw.t6 q; omega
      refine h.nc (a := ρ - 3) (b := ρ) ⟨j, hjm, ?_, c3⟩ (by omega) (by omega)
      by_cases q : (lk m s (ρ - 3) j).phase < 3
      · exact q
      · obtain ⟨B2, hw2, _⟩ := h.wf (ρ - 3) hjm
        have g1 := hw2.h1
        have g2 := hw2.c2
        have := h.freed hjm 3 (ρ - 3) (by omega) (by omega)
        rw [show ρ - 3 + 3 = ρ by omega] at this
        exact absurd this hne5
    by_cases c1 : (lk m s ρ j).phase = 1
    · obtain ⟨r', g1, g2, g3, g4⟩ := h.hist hjm ρ c1
      have hlt := h.held_lt hjm hρ g4 g2
      obtain ⟨B2, hw2, _⟩ := h.wf r' hjm
      have g5 := g2.2.1
      have g6 := hw2.c2
      exact h.nc (h.chain d r' j hjm g2 (by omega) (by omega)) (by omega) (by omega)
    have c0 : (lk m s ρ j).phase = 0 := by
      by_cases c2 : (lk m s ρ j).phase = 2
      · have := hw.t2 c2; omega
      · omega
    have hlen := hw.c2
    cases h.tr ρ hjm with
    | free q => omega
    | leave1 q => omega
    | leave4 q => omega
    | wait q => omega
    | blocked q1 q2 q3 e =>
      have hlt := h.held_lt hjm hρ (Int.le_refl _) ⟨q1, q2, q3⟩
      exact h.nc (h.chain d ρ j hjm ⟨q1, q2, q3⟩ (by omega) (by omega)) (by omega) (by omega)
    | got q1 q2 q3 e =>
      by_cases e3 : (lk m s ρ j).have_ + 1 = (lk m s ρ j).cells.length
      · rw [if_pos e3] at e
        exact h.nc (a := ρ) (b := ρ + 1) ⟨j, hjm, by omega, by rw [e]; simp⟩ (by omega) (by omega)
      · rw [if_neg e3] at e
        have p1 : (lk m s (ρ + 1) j).phase = 0 := by rw [e]
        have p2 : (lk m s (ρ + 1) j).have_ = (lk m s ρ j).have_ + 1 := by rw [e]
        have p3 : (lk m s (ρ + 1) j).cells = (lk m s ρ j).cells := by rw [e]
        cases h.tr (ρ + 1) hjm with
        | free q => omega
        | leave1 q => omega
        | leave4 q => omega
        | wait q => omega
        | blocked w1 w2 w3 e =>
          have hlt := h.held_lt hjm hρ (r' := ρ + 1) (by omega) ⟨w1, w2, w3⟩
          exact h.nc (h.chain d (ρ + 1) j hjm ⟨w1, w2, w3⟩ (by omega) (by omega)) (by omega) (by omega)
        | got w1 w2 w3 e =>
          have e4 : (lk m s (ρ + 1) j).have_ + 1 = (lk m s (ρ + 1) j).cells.length := by rw [p3] at w2 ⊢; omega
          rw [if_pos e4] at e
          exact h.nc (a := ρ) (b := ρ + 2) ⟨j, hjm, by omega, by rw [e]; simp⟩ (by omega) (by omega)
/-- A locker that does not fail gets all its cells soon. -/
theorem SYS.soon (h : SYS n m s) {j : Nat} (hj : j < m) : ∀ (d r : Nat), ((lk m s r j).phase = 1 ∧ (lk m s r j).have_ + 6 ≤ d ∨ (lk m s r j).phase = 2 ∧ (lk m s r j).wait + 3 ≤ d ∨ (lk m s r j).phase = 0 ∧ (lk m s r j).cells.length - (lk m s r j).have_ ≤ d ∨ 3 ≤ (lk m s r j).phase) → (∃ r', r ≤ r' ∧ r' ≤ r + d ∧ Blk m s r' j) ∨ 3 ≤ (lk m s (r + d) j).phase
  | 0, r, hc => by
    obtain ⟨B, hw, _⟩ := h.wf r hj
    have h0 := hw.h0
    have h1 := hw.t0
    have h2 := hw.t2
    rcases hc with ⟨q1, q2⟩ | ⟨q1, q2⟩ | ⟨q1, q2⟩ | q
    · omega
    · have := h2 q1; omega
    · have := h1 q1; omega
    · exact .inr q
  | d + 1, r, hc => by
    obtain ⟨B, hw, _⟩ := h.wf r hj
    obtain ⟨B1, hw1, _⟩ := h.wf (r + 1) hj
    have h0 := hw.h0
    have h1 := hw.t0
    have h2 := hw.t2
    have h3 := hw.c2
    have h4 := hw.b0
    have hce : (lk m s (r + 1) j).cells.length = (lk m s r j).cells.length := by rw [h.cells hj (r + 1), h.cells hj r]
    have next : ((lk m s (r + 1) j).phase = 1 ∧ (lk m s (r + 1) j).have_ + 6 ≤ d ∨ (lk m s (r + 1) j).phase = 2 ∧ (lk m s (r + 1) j).wait + 3 ≤ d ∨ (lk m s (r + 1) j).phase = 0 ∧ (lk m s (r + 1) j).cells.length - (lk m s (r + 1) j).have_ ≤ d ∨ 3 ≤ (lk m s (r + 1) j).phase) → (∃ r', r ≤ r' ∧ r' ≤ r + (d + 1) ∧ Blk m s r' j) ∨ 3 ≤ (lk m s (r + (d + 1)) j).phase := fun hn => by
      rcases h.soon hj d (r + 1) hn with ⟨r', g1, g2, g3⟩ | g
      · exact .inl ⟨r', by omega, by omega, g3⟩
      · rw [show r + 1 + d = r + (d + 1) by omega] at g; exact .inr g
    rcases hc with ⟨q1, q2⟩ | ⟨q1, q2⟩ | ⟨q1, q2⟩ | q
    · cases h.tr r hj with
      | free w => omega
      | got w => omega
      | blocked w => omega
      | leave4 w => omega
      | wait w => omega
      | leave1 w1 w2 e =>
        apply next
        have e2 := (leaveL_cells (lk m s r j)).2
        by_cases c : 0 < (lk m s r j).have_ - 1
        · left
          rw [e, e2]
          unfold leaveL
          rw [if_pos c]
          exact ⟨q1, by omega⟩
        · right; left
          rw [e]
          unfold leaveL
          rw [if_neg c, if_neg (by omega)]
          refine ⟨rfl, ?_⟩
          simp only
          split <;> omega
    · have h2 := h2 q1
      cases h.tr r hj with
      | free w => omega
      | got w => omega
      | blocked w => omega
      | leave4 w => omega
      | leave1 w => omega
      | wait w e =>
        apply next
        by_cases c : (lk m s r j).wait - 1 = 0
        · right; right; left
          rw [hce, e, if_pos c]
          exact ⟨rfl, by simp only; omega⟩
        · right; left
          rw [e, if_neg c]
          exact ⟨rfl, by simp only; omega⟩
    · cases h.tr r hj with
      | free w => omega
      | leave4 w => omega
      | leave1 w => omega
      | wait w => omega
      | blocked w1 w2 w3 e => exact .inl ⟨r, by omega, by omega, w1, w2, w3⟩
      | got w1 w2 w3 e =>
        apply next
        by_cases c : (lk m s r j).have_ + 1 = (lk m s r j).cells.length
        · right; right; right
          rw [e, if_pos c]; simp
        · right; right; left
          rw [hce, e, if_neg c]
          exact ⟨rfl, by simp only; omega⟩
    · exact next (.inr (.inr (.inr (h.up1 hj r q))))
theorem SYS.window (h : SYS n m s) {j r : Nat} (hj : j < m) (hp : (lk m s r j).phase < 3) : NC m s r (r + 60) := by
  obtain ⟨B, hw, _⟩ := h.wf (r + 30) hj
  have h1 := hw.t1
  have h2 := hw.t2
  have h3 := hw.c2
  have h4 := hw.h0
  have h5 := hw.t5
  have h6 := hw.h1
  rcases h.soon hj 9 (r + 30) (by
    by_cases c0 : (lk m s (r + 30) j).phase = 0
    · right; right; left; exact ⟨c0, by omega⟩
    by_cases c1 : (lk m s (r + 30) j).phase = 1
    · left; exact ⟨c1, by omega⟩
    by_cases c2 : (lk m s (r + 30) j).phase = 2
    · right; left; have := h2 c2; exact ⟨c2, by omega⟩
    · right; right; right; omega) with ⟨r', g1, g2, g3⟩ | g
  · have hin := h.cellB_in hj g3
    have := h.n4
    exact h.nc (h.chain 5 r' j hj g3 (by omega) (by omega)) (by omega) (by omega)
  · exact h.nc (a := r) (b := r + 30 + 9) ⟨j, hj, hp, g⟩ (by omega) (by omega)
/-- How many have not all their cells yet. -/
def left_ (m : Nat) (s : Arena × List Locker) (r : Nat) : Nat := ((List.range m).filter fun j => decide ((lk m s r j).phase < 3)).length
theorem filter_sub {p q : Nat → Bool} {l : List Nat} (h : ∀ x, q x = true → p x = true) : (l.filter q).length ≤ (l.filter p).length := by
  induction l with
  | nil => simp
  | cons x l ih =>
    rw [List.filter_cons, List.filter_cons]
    cases hq : q x
    · cases hp : p x
      · simpa using ih
      · simp; omega
    · rw [h x hq]; simpa using ih
theorem filter_lt {p q : Nat → Bool} {l : List Nat} (h : ∀ x, q x = true → p x = true) {y : Nat} (hy : y ∈ l) (h1 : p y = true) (h2 : q y = false) : (l.filter q).length < (l.filter p).length := by
  induction l with
  | nil => cases hy
  | cons x l ih =>
    have hs := filter_sub (l := l) h
    rw [List.filter_cons, List.filter_cons]
    cases hy with
    | head => rw [h1, h2]; simp; omega
    | tail _ hy =>
      have := ih hy
      cases hq : q x
      · cases hp : p x
        · simpa using this
        · simp; omega
      · rw [h x hq]; simpa using this
theorem SYS.fewer (h : SYS n m s) : ∀ i : Nat, left_ m s (60 * i) = 0 ∨ left_ m s (60 * i) + i ≤ m
  | 0 => by
    right
    unfold left_
    have := List.length_filter_le (fun j => decide ((lk m s (60 * 0) j).phase < 3)) (List.range m)
    simpa using this
  | i + 1 => by
    have mono : ∀ x, decide ((lk m s (60 * (i + 1)) x).phase < 3) = true → x < m → decide ((lk m s (60 * i) x).phase < 3) = true := fun x hx hm => by
      rw [decide_eq_true_eq] at hx ⊢
      by_cases q : (lk m s (60 * i) x).phase < 3
      · exact q
      · have := h.up hm (r := 60 * i) (r' := 60 * (i + 1)) (by omega) (by omega); omega
    have e : ∀ r, left_ m s r = ((List.range m).filter fun j => decide (j < m) && decide ((lk m s r j).phase < 3)).length := fun r => by
      unfold left_
      congr 1
      apply List.filter_congr
      intro x hx
      simp [List.mem_range.1 hx]
    by_cases hz : left_ m s (60 * i) = 0
    · left
      rw [e] at hz ⊢
      have := filter_sub (p := fun j => decide (j < m) && decide ((lk m s (60 * i) j).phase < 3)) (q := fun j => decide (j < m) && decide ((lk m s (60 * (i + 1)) j).phase < 3)) (l := List.range m) (fun x hx => by
        simp only [Bool.and_eq_true, decide_eq_true_eq] at hx ⊢
        exact ⟨hx.1, by simpa using mono x (by simpa using hx.2) hx.1⟩)
      omega
    · rcases h.fewer i with hi | hi
      · exact absurd hi hz
      · right
        have : ∃ j, j < m ∧ (lk m s (60 * i) j).phase < 3 := by
          unfold left_ at hz
          have hne : (List.range m).filter (fun j => decide ((lk m s (60 * i) j).phase < 3)) ≠ [] := fun q => hz (by rw [q]; rfl)
          obtain ⟨x, hx⟩ := List.exists_mem_of_ne_nil _ hne
          rw [List.mem_filter] at hx
          exact ⟨x, List.mem_range.1 hx.1, by simpa using hx.2⟩
        obtain ⟨j, hj, hp⟩ := this
        obtain ⟨y, hy, y1, y2⟩ := h.window hj hp
        rw [show 60 * i + 60 = 60 * (i + 1) by omega] at y2
        rw [e] at hi ⊢
        have := filter_lt (p := fun j => decide (j < m) && decide ((lk m s (60 * i) j).phase < 3)) (q := fun j => decide (j < m) && decide ((lk m s (60 * (i + 1)) j).phase < 3)) (l := List.range m) (fun x hx => by
          simp only [Bool.and_eq_true, decide_eq_true_eq] at hx ⊢
          exact ⟨hx.1, by simpa using mono x (by simpa using hx.2) hx.1⟩) (y := y) (List.mem_range.2 hy) (by simp [hy, y1]) (by simp; omega)
        omega
/-- After 363 rounds all are free. -/
theorem SYS.done (h : SYS n m s) {j r : Nat} (hj : j < m) (hr : 363 ≤ r) : (lk m s r j).phase = 5 := by
  have hm := h.m6
  have h3 : 3 ≤ (lk m s 360 j).phase := by
    have : left_ m s (60 * 6) = 0 := by rcases h.fewer 6 with q | q <;> omega
    unfold left_ at this
    have he := List.eq_nil_of_length_eq_zero this
    by_cases q : (lk m s 360 j).phase < 3
    · have : j ∈ (List.range m).filter fun j => decide ((lk m s (60 * 6) j).phase < 3) := List.mem_filter.2 ⟨List.mem_range.2 hj, by simpa using q⟩
      rw [he] at this; cases this
    · omega
  have hup := h.up hj (r := 360) (r' := r - 3) (by omega) h3
  obtain ⟨B, hw, _⟩ := h.wf (r - 3) hj
  have g1 := hw.h1
  have g2 := hw.c2
  have := h.freed hj 3 (r - 3) hup (by omega)
  rwa [show r - 3 + 3 = r by omega] at this
end Go.Proofs.Ytkdjbfjohbiemaa
