/-
  The reader at its beginning.
  The laws of lockers: New, Script.
  Equality of rings, tables, shards, stores, directories and arenas.
  Lockers: what their steps keep; the law of scripts.
  Lockers: the law of scripts, whole.
  Lockers: who owns which cell.
  Lockers: the law of order.
-/
import Derived.Test.YtkdjbfjohbiemaaB70941a6
import Derived.Test.YtkdjbfjohbiemaaB1cc8308
set_option linter.unusedSimpArgs false
set_option linter.unusedVariables false
namespace Go.Proofs.Ytkdjbfjohbiemaa
open Go Go.Sim
set_option linter.unusedSimpArgs false
set_option linter.unusedVariables false
set_option maxHeartbeats 10000000
set_option maxRecDepth 40000
theorem new_ok2 (l : List Int) (hL : l.length ≤ LIM) : ∃ t : List Int, t.length ≤ 4000 ∧ callL G N_base_New [.d (.sl (ints l))] [] = some (.ref 0 0 0, [(0, .row [.d (.agg [.sl (ints t), .int .i64 0])])]) := ⟨l.take 4000, by simp; omega, new_ok l hL⟩
theorem n_ok0 (l : List Int) (n : Int) (hL : l.length ≤ 4000) (h1 : 1 ≤ n) (h2 : n ≤ 4294967296) : callL G N_base_Src_N [.ref 1000000 0 0, .d (.int .i64 n)] [(1000000, .row [.d (.agg [.sl (ints l), .int .i64 0])])] = some (.d (.int .i64 (nD l 0 n)), [(1000000, srcO l (rawD l 0).2)]) := n_ok l 0 n hL h1 h2
theorem range_ok0 (l : List Int) (lo hi : Int) (hL : l.length ≤ 4000) (h0 : -4294967296 ≤ lo) (h1 : lo ≤ hi) (h2 : hi ≤ 4294967296) (h3 : hi - lo < 4294967296) : callL G N_base_Src_Range [.ref 1000000 0 0, .d (.int .i64 lo), .d (.int .i64 hi)] [(1000000, .row [.d (.agg [.sl (ints l), .int .i64 0])])] = some (.d (.int .i64 (lo + nD l 0 (hi - lo + 1))), [(1000000, srcO l (rawD l 0).2)]) := range_ok l 0 lo hi hL h0 h1 h2 h3
theorem more_ok (l : List Int) (a : Nat) (hL : l.length ≤ 4000) : callL G N_base_Src_More [.d (.pd (.agg [.sl (ints l), .int .i64 a]))] [] = some (.d (.bool (decide ((a : Int) < l.length))), []) := by
  rw [callL_code g_base_Src_More (by simp)]; simp -implicitDefEqProofs (maxSteps := 4000000) (disch := omega) only [c_base_Src_More, r_base_Src_More, getDT, go_sem, *]; (try simp only [pA, pB, pC, pD, pE, pF, pG, pH, pI, pJ, pK, pL, pM, pN, pO, pP, if_true, if_false]); repeat' (first | done | rfl | (refine iteC (fun hq => ?_) (fun hq => ?_) <;> (try (first | (exfalso; omega) | contradiction)) <;> (try simp -implicitDefEqProofs (maxSteps := 4000000) (disch := omega) only [getDT, go_sem, *]) <;> (try simp only [pA, pB, pC, pD, pE, pF, pG, pH, pI, pJ, pK, pL, pM, pN, pO, pP, if_true, if_false]))); (all_goals try rfl); (all_goals try (repeat' (first | done | rfl | (exfalso; omega) | contradiction | (refine iteR (fun hq => ?_) (fun hq => ?_)))))
theorem setup_ok (l : List Int) (a : Nat) (hL : l.length ≤ 4000) : ∃ x a', (1 ≤ x.slots ∧ x.slots ≤ 4 ∧ 1 ≤ x.live ∧ x.live ≤ x.slots ∧ 1 ≤ x.capacity ∧ x.capacity ≤ 5 ∧ 1 ≤ x.dead ∧ x.dead ≤ 4 ∧ 1 ≤ x.limit ∧ x.limit ≤ 3 ∧ 0 ≤ x.clock ∧ x.clock ≤ 1073741824 ∧ 1 ≤ x.nextID ∧ x.nextID ≤ 1073741824 ∧ 0 ≤ x.epoch ∧ x.epoch ≤ 65536) ∧ callL G N_base_Src_Setup [.ref 1000000 0 0] [(1000000, srcO l a)] = some (.d (eSetup x), [(1000000, srcO l a')]) := by
  obtain ⟨a1, q1⟩ : ∃ a1, a1 = (rawD l a).2 := ⟨_, rfl⟩
  obtain ⟨a2, q2⟩ : ∃ a2, a2 = (rawD l a1).2 := ⟨_, rfl⟩
  obtain ⟨a3, q3⟩ : ∃ a3, a3 = (rawD l a2).2 := ⟨_, rfl⟩
  obtain ⟨a4, q4⟩ : ∃ a4, a4 = (rawD l a3).2 := ⟨_, rfl⟩
  obtain ⟨a5, q5⟩ : ∃ a5, a5 = (rawD l a4).2 := ⟨_, rfl⟩
  obtain ⟨a6, q6⟩ : ∃ a6, a6 = (rawD l a5).2 := ⟨_, rfl⟩
  have n1 := nD_in l a (n := 4) (by omega)
  have n2 := nD_in l a1 (n := 5) (by omega)
  have n3 := nD_in l a2 (n := 4) (by omega)
  have n4 := nD_in l a3 (n := 3) (by omega)
  have n5 := nD_in l a4 (n := 1 + nD l a 4 - 1 + 1) (by omega)
  have n6 := nD_in l a5 (n := 12) (by omega)
  have n7 := nD_in l a6 (n := 200) (by omega)
  have n8 := nD_in l a6 (n := 4) (by omega)
  have n9 := nD_in l a6 (n := 3) (by omega)
  by_cases c1 : nD l a5 12 = 9
  · refine ⟨⟨1 + nD l a 4, 1 + nD l a4 (1 + nD l a 4 - 1 + 1), 1 + nD l a1 5, 1 + nD l a2 4, 1 + nD l a3 3, 1073741824 - nD l a6 200, 1, 0⟩, (rawD l a6).2, by simp only; omega, ?_⟩
    simp only [eSetup]
    rw [callL_code g_base_Src_Setup (by simp)]; simp -implicitDefEqProofs (maxSteps := 4000000) (disch := omega) only [c_base_Src_Setup, r_base_Src_Setup, go_sem, n_ok, range_ok, ← q1, ← q2, ← q3, ← q4, ← q5, ← q6, c1]
  by_cases c2 : nD l a5 12 = 10
  · refine ⟨⟨1 + nD l a 4, 1 + nD l a4 (1 + nD l a 4 - 1 + 1), 1 + nD l a1 5, 1 + nD l a2 4, 1 + nD l a3 3, 0, 1073741824 - nD l a6 4, 0⟩, (rawD l a6).2, by simp only; omega, ?_⟩
    simp only [eSetup]
    rw [callL_code g_base_Src_Setup (by simp)]; simp -implicitDefEqProofs (maxSteps := 4000000) (disch := omega) only [c_base_Src_Setup, r_base_Src_Setup, go_sem, n_ok, range_ok, ← q1, ← q2, ← q3, ← q4, ← q5, ← q6, c1, c2]
  by_cases c3 : nD l a5 12 = 11
  · refine ⟨⟨1 + nD l a 4, 1 + nD l a4 (1 + nD l a 4 - 1 + 1), 1 + nD l a1 5, 1 + nD l a2 4, 1 + nD l a3 3, 0, 1, 65536 - nD l a6 3⟩, (rawD l a6).2, by simp only; omega, ?_⟩
    simp only [eSetup]
    rw [callL_code g_base_Src_Setup (by simp)]; simp -implicitDefEqProofs (maxSteps := 4000000) (disch := omega) only [c_base_Src_Setup, r_base_Src_Setup, go_sem, n_ok, range_ok, ← q1, ← q2, ← q3, ← q4, ← q5, ← q6, c1, c2, c3]
  · refine ⟨⟨1 + nD l a 4, 1 + nD l a4 (1 + nD l a 4 - 1 + 1), 1 + nD l a1 5, 1 + nD l a2 4, 1 + nD l a3 3, 0, 1, 0⟩, a6, by simp only; omega, ?_⟩
    simp only [eSetup]
    rw [callL_code g_base_Src_Setup (by simp)]; simp -implicitDefEqProofs (maxSteps := 4000000) (disch := omega) only [c_base_Src_Setup, r_base_Src_Setup, go_sem, n_ok, range_ok, ← q1, ← q2, ← q3, ← q4, ← q5, ← q6, c1, c2, c3]
theorem setup_ok0 (l : List Int) (hL : l.length ≤ 4000) : ∃ x a', (1 ≤ x.slots ∧ x.slots ≤ 4 ∧ 1 ≤ x.live ∧ x.live ≤ x.slots ∧ 1 ≤ x.capacity ∧ x.capacity ≤ 5 ∧ 1 ≤ x.dead ∧ x.dead ≤ 4 ∧ 1 ≤ x.limit ∧ x.limit ≤ 3 ∧ 0 ≤ x.clock ∧ x.clock ≤ 1073741824 ∧ 1 ≤ x.nextID ∧ x.nextID ≤ 1073741824 ∧ 0 ≤ x.epoch ∧ x.epoch ≤ 65536) ∧ callL G N_base_Src_Setup [.ref 1000000 0 0] [(1000000, .row [.d (.agg [.sl (ints l), .int .i64 0])])] = some (.d (eSetup x), [(1000000, srcO l a')]) := setup_ok l 0 hL
end Go.Proofs.Ytkdjbfjohbiemaa

namespace Go.Proofs.Ytkdjbfjohbiemaa
open Go Go.Sim
set_option linter.unusedSimpArgs false
set_option linter.unusedVariables false
set_option maxHeartbeats 10000000
set_option maxRecDepth 40000
def setup3 : Setup := ⟨3, 1, 1, 1, 1, 0, 1, 0⟩
theorem awake13_ok : callL G N_law13_awake [] [] = some (.d (.bool true), []) := by
  obtain ⟨a, b, c, ha, h1, h2, f1, f2, f3, f4, f5⟩ : ∃ a b c : Arena, arenaNew setup3 = (a, 0) ∧ lockStep a ⟨[0, 2], 0, 0, 0, 0⟩ 1 = (b, ⟨[0, 2], 0, 1, 0, 0⟩, 0) ∧ lockStep b ⟨[0, 2], 0, 1, 0, 0⟩ 1 = (c, ⟨[0, 2], 3, 2, 0, 0⟩, 0) ∧ a.slots.length = 3 ∧ b.slots.length = 3 ∧ c.slots.length = 3 ∧ (c.slots.getD 2 zSlot).owner = 1 ∧ (c.slots.getD 1 zSlot).owner = 0 :=
    ⟨(arenaNew setup3).1, _, _, by decide, by rfl, by rfl, by decide, by decide, by decide, by decide, by decide⟩
  have e0 := arenaNew_ok setup3
  rw [ha] at e0
  have e1 := lnew_ok [0, 2] (by decide)
  rw [show lockNew [0, 2] = (⟨[0, 2], 0, 0, 0, 0⟩, 0) by decide] at e1
  have e2 := lstep_ok a ⟨[0, 2], 0, 0, 0, 0⟩ 1 (by omega) (by constructor <;> decide)
  rw [h1] at e2
  have e3 := lstep_ok b ⟨[0, 2], 0, 1, 0, 0⟩ 1 (by omega) (by constructor <;> decide)
  rw [h2] at e3
  have e4 := lfree_ok ⟨[0, 2], 3, 2, 0, 0⟩
  rw [show lockFree ⟨[0, 2], 3, 2, 0, 0⟩ = (⟨[0, 2], 4, 2, 0, 0⟩, 0) by decide] at e4
  rw [getDT (by omega)] at f4 f5
  clear ha h1 h2
  simp only [eSetup, setup3, eLocker, ints, List.map_cons, List.map_nil] at e0 e1 e2 e3 e4
  rw [callL_code g_law13_awake (by simp)]; simp -implicitDefEqProofs (disch := omega) only [c_law13_awake, r_law13_awake, getDT, go_sem, *]; (try simp only [pA, pB, pC, pD, pE, pF, pG, pH, pI, pJ, pK, pL, pM, pN, pO, if_true, if_false]); repeat' (first | done | rfl | (refine iteC (fun hq => ?_) (fun hq => ?_) <;> (try (exfalso; omega)) <;> (try simp -implicitDefEqProofs (disch := omega) only [getDT, go_sem, *]) <;> (try simp only [pA, pB, pC, pD, pE, pF, pG, pH, pI, pJ, pK, pL, pM, pN, pO, if_true, if_false]))); (all_goals try rfl); (all_goals try (repeat' (first | done | rfl | (exfalso; omega) | (refine iteR (fun hq => ?_) (fun hq => ?_)))))
theorem lnl_loop (cells l : List Int) (hL : l.length ≤ 4000) : ∀ p : Nat × Nat × List Int, p.1 ≤ 4 ∧ p.2.2.length + p.1 ≤ 4 → ∃ sm : List Int, sm.length ≤ 4 ∧ loopL G [] l_law13_LockerNew_0 ⟨[(0, .d (.sl (ints cells))), (5, .ref 20 0 0), (6, .acc 6 (ints p.2.2)), (7, .d (.int .i64 p.1))], [(6, .acc p.2.2.length), (20, srcO l p.2.1)]⟩ = some (.exit 0, ⟨[(0, .d (.sl (ints cells))), (6, .acc 6 (ints sm))], [(6, .acc sm.length)]⟩) := by
  refine loop_indP (fun p : Nat × Nat × List Int => p.1) _ (fun p : Nat × Nat × List Int => ⟨[(0, .d (.sl (ints cells))), (5, .ref 20 0 0), (6, .acc 6 (ints p.2.2)), (7, .d (.int .i64 p.1))], [(6, .acc p.2.2.length), (20, srcO l p.2.1)]⟩) (fun p r => ∃ sm : List Int, sm.length ≤ 4 ∧ r = some (.exit 0, ⟨[(0, .d (.sl (ints cells))), (6, .acc 6 (ints sm))], [(6, .acc sm.length)]⟩)) fun ⟨k, a, sm⟩ ⟨hk, hl⟩ L ih => ?_
  simp only at ih hk hl
  have hr := range_ok l a (-1) 7 hL (by omega) (by omega) (by omega) (by omega)
  simp only [l_law13_LockerNew_0]
  by_cases h0 : 0 < k
  · obtain ⟨sm', h1, h2⟩ := ih (k - 1, (rawD l a).2, sm ++ [-1 + nD l a (7 - (-1) + 1)]) ⟨by simp only; omega, by simp only [List.length_append, List.length_singleton]; omega⟩ (by simp only; omega)
    refine ⟨sm', h1, ?_⟩
    simp only [ints] at h2
    rw [show ((k - 1 : Nat) : Int) = (k : Int) - 1 by omega] at h2
    simp only [Int.natCast_add, Int.natCast_one, Int.natCast_zero, Int.natCast_mul, Int.cast_ofNat_Int, List.length_append, List.length_map, List.map_nil, List.length_nil, List.map_append, List.map_cons, List.length_cons, Nat.zero_add, srcO] at h2
    rw [← h2]
    (try simp -implicitDefEqProofs (disch := omega) only [getDT, go_sem, *]); (try simp only [pA, pB, pC, pD, pE, pF, pG, pH, pI, pJ, pK, pL, pM, pN, pO, if_true, if_false]); repeat' (first | done | rfl | (refine iteC (fun hq => ?_) (fun hq => ?_) <;> (try (exfalso; omega)) <;> (try simp -implicitDefEqProofs (disch := omega) only [getDT, go_sem, *]) <;> (try simp only [pA, pB, pC, pD, pE, pF, pG, pH, pI, pJ, pK, pL, pM, pN, pO, if_true, if_false]))); (all_goals try rfl); (all_goals try (repeat' (first | done | rfl | (exfalso; omega) | (refine iteR (fun hq => ?_) (fun hq => ?_)))))
  · refine ⟨sm, by omega, ?_⟩
    (try simp -implicitDefEqProofs (disch := omega) only [getDT, go_sem, *]); (try simp only [pA, pB, pC, pD, pE, pF, pG, pH, pI, pJ, pK, pL, pM, pN, pO, if_true, if_false]); repeat' (first | done | rfl | (refine iteC (fun hq => ?_) (fun hq => ?_) <;> (try (exfalso; omega)) <;> (try simp -implicitDefEqProofs (disch := omega) only [getDT, go_sem, *]) <;> (try simp only [pA, pB, pC, pD, pE, pF, pG, pH, pI, pJ, pK, pL, pM, pN, pO, if_true, if_false]))); (all_goals try rfl); (all_goals try (repeat' (first | done | rfl | (exfalso; omega) | (refine iteR (fun hq => ?_) (fun hq => ?_)))))
theorem lockerNew_law (cells l : List Int) (hC : cells.length ≤ LIM) (hL : l.length ≤ LIM) : callL G N_law13_LockerNew [.d (.sl (ints cells)), .d (.sl (ints l))] [] = some (.d (.bool true), []) := by
  obtain ⟨t, ht, hnew⟩ := new_ok2 l hL
  by_cases c : 20 < cells.length
  · rw [callL_code g_law13_LockerNew (by simp)]; simp -implicitDefEqProofs (disch := omega) only [c_law13_LockerNew, r_law13_LockerNew, getDT, go_sem, *]; (try simp only [pA, pB, pC, pD, pE, pF, pG, pH, pI, pJ, pK, pL, pM, pN, pO, if_true, if_false]); repeat' (first | done | rfl | (refine iteC (fun hq => ?_) (fun hq => ?_) <;> (try (exfalso; omega)) <;> (try simp -implicitDefEqProofs (disch := omega) only [getDT, go_sem, *]) <;> (try simp only [pA, pB, pC, pD, pE, pF, pG, pH, pI, pJ, pK, pL, pM, pN, pO, if_true, if_false]))); (all_goals try rfl); (all_goals try (repeat' (first | done | rfl | (exfalso; omega) | (refine iteR (fun hq => ?_) (fun hq => ?_)))))
  have n0 := n_ok0 t 5 ht (by omega) (by omega)
  have n1 := nD_in t 0 (n := 5) (by omega)
  obtain ⟨k, hk⟩ : ∃ k : Nat, nD t 0 5 = k := ⟨(nD t 0 5).toNat, by omega⟩
  obtain ⟨sm, h1, h2⟩ := lnl_loop cells t ht (k, (rawD t 0).2, []) ⟨by simp only; omega, by simp; omega⟩
  rw [hk] at n0
  simp only [ints] at h2
  simp only [Int.natCast_add, Int.natCast_one, Int.natCast_zero, Int.natCast_mul, Int.cast_ofNat_Int, List.length_append, List.length_map, List.map_nil, List.length_nil, List.map_append, List.map_cons, List.length_cons, Nat.zero_add, srcO] at h2
  have e1 := lnew_ok cells (by omega)
  have e2 := l13new_ok cells (by omega)
  have e3 := lnew_ok sm (by omega)
  have e4 := l13new_ok sm (by omega)
  have hcl : ∀ cs : List Int, (lockNew cs).1.cells.length ≤ 4294967296 := fun cs => by
    unfold lockNew
    by_cases q1 : cs.length = 0 ∨ 3 < cs.length
    · rw [if_pos q1]; simp [zLocker]
    · rw [if_neg q1]
      by_cases q2 : (List.range cs.length).all (lockAt cs) = true
      · rw [if_pos q2]; simp only; omega
      · rw [if_neg q2]; simp [zLocker]
  have s1 := same_Locker (lockNew cells).1 (lockNew cells).1 (hcl _)
  have s2 := same_Locker (lockNew sm).1 (lockNew sm).1 (hcl _)
  have hw := awake13_ok
  clear hcl
  simp only [decide_true] at s1 s2
  rw [callL_code g_law13_LockerNew (by simp)]; simp -implicitDefEqProofs (disch := omega) only [c_law13_LockerNew, r_law13_LockerNew, getDT, go_sem, *]; (try simp only [pA, pB, pC, pD, pE, pF, pG, pH, pI, pJ, pK, pL, pM, pN, pO, if_true, if_false]); repeat' (first | done | rfl | (refine iteC (fun hq => ?_) (fun hq => ?_) <;> (try (exfalso; omega)) <;> (try simp -implicitDefEqProofs (disch := omega) only [getDT, go_sem, *]) <;> (try simp only [pA, pB, pC, pD, pE, pF, pG, pH, pI, pJ, pK, pL, pM, pN, pO, if_true, if_false]))); (all_goals try rfl); (all_goals try (repeat' (first | done | rfl | (exfalso; omega) | (refine iteR (fun hq => ?_) (fun hq => ?_)))))
end Go.Proofs.Ytkdjbfjohbiemaa

namespace Go.Proofs.Ytkdjbfjohbiemaa
open Go Go.Sim
set_option linter.unusedSimpArgs false
set_option linter.unusedVariables false
set_option maxHeartbeats 10000000
set_option maxRecDepth 40000
theorem same_Ring (a b : Ring) (hL : a.cells.length ≤ 4294967296) : callL G N_ref04_Same [.d (eRing a), .d (eRing b)] [] = some (.d (.bool (decide (a = b))), []) := by
  have h1 := same_ref03_Same a.cells b.cells hL
  have e : decide (a = b) = (decide (a.head = b.head) && (decide (a.size = b.size) && decide (a.cells = b.cells))) := by
    cases a; cases b
    apply Bool.eq_iff_iff.2
    simp only [Ring.mk.injEq, decide_eq_true_eq, Bool.and_eq_true]
    exact ⟨fun ⟨p, q, r⟩ => ⟨q, r, p⟩, fun ⟨p, q, r⟩ => ⟨r, p, q⟩⟩
  rw [e]
  rw [callL_code g_ref04_Same (by simp)]; simp -implicitDefEqProofs (maxSteps := 4000000) (disch := omega) only [c_ref04_Same, r_ref04_Same, getDT, go_sem, *]; (try simp only [pA, pB, pC, pD, pE, pF, pG, pH, pI, pJ, pK, pL, pM, pN, pO, pP, if_true, if_false]); repeat' (first | done | rfl | (refine iteC (fun hq => ?_) (fun hq => ?_) <;> (try (first | (exfalso; omega) | contradiction)) <;> (try simp -implicitDefEqProofs (maxSteps := 4000000) (disch := omega) only [getDT, go_sem, *]) <;> (try simp only [pA, pB, pC, pD, pE, pF, pG, pH, pI, pJ, pK, pL, pM, pN, pO, pP, if_true, if_false]))); (all_goals try rfl); (all_goals try (repeat' (first | done | rfl | (exfalso; omega) | contradiction | (refine iteR (fun hq => ?_) (fun hq => ?_)))))
theorem same_Table (a b : Table) (h1 : a.l.length ≤ 4294967296) (h2 : a.heap.length ≤ 4294967296) : callL G N_ref06_Same [.d (eTable a), .d (eTable b)] [] = some (.d (.bool (decide (a = b))), []) := by
  have h1 := same_ref06_SameLeases a.l b.l h1
  have h2 := same_ref05_Same a.heap b.heap h2
  have e : decide (a = b) = (decide (a.l = b.l) && decide (a.heap = b.heap)) := by
    cases a; cases b
    apply Bool.eq_iff_iff.2
    simp only [Table.mk.injEq, decide_eq_true_eq, Bool.and_eq_true]
  rw [e]
  rw [callL_code g_ref06_Same (by simp)]; simp -implicitDefEqProofs (maxSteps := 4000000) (disch := omega) only [c_ref06_Same, r_ref06_Same, getDT, go_sem, *]; (try simp only [pA, pB, pC, pD, pE, pF, pG, pH, pI, pJ, pK, pL, pM, pN, pO, pP, if_true, if_false]); repeat' (first | done | rfl | (refine iteC (fun hq => ?_) (fun hq => ?_) <;> (try (first | (exfalso; omega) | contradiction)) <;> (try simp -implicitDefEqProofs (maxSteps := 4000000) (disch := omega) only [getDT, go_sem, *]) <;> (try simp only [pA, pB, pC, pD, pE, pF, pG, pH, pI, pJ, pK, pL, pM, pN, pO, pP, if_true, if_false]))); (all_goals try rfl); (all_goals try (repeat' (first | done | rfl | (exfalso; omega) | contradiction | (refine iteR (fun hq => ?_) (fun hq => ?_)))))
structure FitS (s : Shard) : Prop where
  a : s.ready.cells.length ≤ 4294967296
  b : s.leases.l.length ≤ 4294967296
  c : s.leases.heap.length ≤ 4294967296
theorem same_Shard (a b : Shard) (h : FitS a) : callL G N_ref07_Same [.d (eShard a), .d (eShard b)] [] = some (.d (.bool (decide (a = b))), []) := by
  obtain ⟨f1, f2, f3⟩ := h
  have h1 := same_Ring a.ready b.ready f1
  have h2 := same_Table a.leases b.leases f2 f3
  have e : decide (a = b) = (decide (a.live = b.live) && (decide (a.low = b.low) && (decide (a.high = b.high) && (decide (a.ready = b.ready) && decide (a.leases = b.leases))))) := by
    cases a; cases b
    apply Bool.eq_iff_iff.2
    simp only [Shard.mk.injEq, decide_eq_true_eq, Bool.and_eq_true]
  rw [e]
  simp only [eRing, eTable] at h1 h2
  rw [callL_code g_ref07_Same (by simp)]; simp -implicitDefEqProofs (maxSteps := 4000000) (disch := omega) only [c_ref07_Same, r_ref07_Same, getDT, go_sem, *]; (try simp only [pA, pB, pC, pD, pE, pF, pG, pH, pI, pJ, pK, pL, pM, pN, pO, pP, if_true, if_false]); repeat' (first | done | rfl | (refine iteC (fun hq => ?_) (fun hq => ?_) <;> (try (first | (exfalso; omega) | contradiction)) <;> (try simp -implicitDefEqProofs (maxSteps := 4000000) (disch := omega) only [getDT, go_sem, *]) <;> (try simp only [pA, pB, pC, pD, pE, pF, pG, pH, pI, pJ, pK, pL, pM, pN, pO, pP, if_true, if_false]))); (all_goals try rfl); (all_goals try (repeat' (first | done | rfl | (exfalso; omega) | contradiction | (refine iteR (fun hq => ?_) (fun hq => ?_)))))
theorem same_Dead (a b : Dead) (h : a.l.length ≤ 4294967296) : callL G N_ref08_Same [.d (eDead a), .d (eDead b)] [] = some (.d (.bool (decide (a = b))), []) := by
  have h1 := same_ref03_Same a.l b.l h
  have e : decide (a = b) = (decide (a.cap = b.cap) && decide (a.l = b.l)) := by
    cases a; cases b
    apply Bool.eq_iff_iff.2
    simp only [Dead.mk.injEq, decide_eq_true_eq, Bool.and_eq_true]
  rw [e]
  rw [callL_code g_ref08_Same (by simp)]; simp -implicitDefEqProofs (maxSteps := 4000000) (disch := omega) only [c_ref08_Same, r_ref08_Same, getDT, go_sem, *]; (try simp only [pA, pB, pC, pD, pE, pF, pG, pH, pI, pJ, pK, pL, pM, pN, pO, pP, if_true, if_false]); repeat' (first | done | rfl | (refine iteC (fun hq => ?_) (fun hq => ?_) <;> (try (first | (exfalso; omega) | contradiction)) <;> (try simp -implicitDefEqProofs (maxSteps := 4000000) (disch := omega) only [getDT, go_sem, *]) <;> (try simp only [pA, pB, pC, pD, pE, pF, pG, pH, pI, pJ, pK, pL, pM, pN, pO, pP, if_true, if_false]))); (all_goals try rfl); (all_goals try (repeat' (first | done | rfl | (exfalso; omega) | contradiction | (refine iteR (fun hq => ?_) (fun hq => ?_)))))
theorem sd_loop0 (a b : Directory) (hL : a.l.length ≤ 4294967296) (hab : a.l.length = b.l.length) : loopL G [] l_ref10_Same_0 ⟨[(2, .ref 2 0 0), (3, .ref 3 0 0), (5, .d (.int .i64 0))], [(2, .row [.d (eDirectory a)]), (3, .row [.d (eDirectory b)])]⟩ = some (if a.l = b.l then (.exit 0, ⟨[(2, .ref 2 0 0), (3, .ref 3 0 0)], [(2, .row [.d (eDirectory a)]), (3, .row [.d (eDirectory b)])]⟩) else (.ret, ⟨[(4, .d (.bool false))], []⟩)) := by
  have := loop_all (G := G) (x := l_ref10_Same_0) (ks := []) a.l.length (fun k => decide (a.l[k]? = b.l[k]?)) (fun k => ⟨[(2, .ref 2 0 0), (3, .ref 3 0 0), (5, .d (.int .i64 k))], [(2, .row [.d (eDirectory a)]), (3, .row [.d (eDirectory b)])]⟩) (.ret, ⟨[(4, .d (.bool false))], []⟩) (.exit 0, ⟨[(2, .ref 2 0 0), (3, .ref 3 0 0)], [(2, .row [.d (eDirectory a)]), (3, .row [.d (eDirectory b)])]⟩) (fun k hk L => by
    simp only [l_ref10_Same_0]
    by_cases h0 : k < a.l.length
    · have hk2 : k < b.l.length := by omega
      simp only [get_eq h0 hk2, h0, if_true]
      (try simp -implicitDefEqProofs (maxSteps := 4000000) (disch := omega) only [getDT, go_sem, *]); (try simp only [pA, pB, pC, pD, pE, pF, pG, pH, pI, pJ, pK, pL, pM, pN, pO, pP, if_true, if_false]); repeat' (first | done | rfl | (refine iteC (fun hq => ?_) (fun hq => ?_) <;> (try (first | (exfalso; omega) | contradiction)) <;> (try simp -implicitDefEqProofs (maxSteps := 4000000) (disch := omega) only [getDT, go_sem, *]) <;> (try simp only [pA, pB, pC, pD, pE, pF, pG, pH, pI, pJ, pK, pL, pM, pN, pO, pP, if_true, if_false]))); (all_goals try rfl); (all_goals try (repeat' (first | done | rfl | (exfalso; omega) | contradiction | (refine iteR (fun hq => ?_) (fun hq => ?_)))))
    · (try simp -implicitDefEqProofs (maxSteps := 4000000) (disch := omega) only [getDT, go_sem, *]); (try simp only [pA, pB, pC, pD, pE, pF, pG, pH, pI, pJ, pK, pL, pM, pN, pO, pP, if_true, if_false]); repeat' (first | done | rfl | (refine iteC (fun hq => ?_) (fun hq => ?_) <;> (try (first | (exfalso; omega) | contradiction)) <;> (try simp -implicitDefEqProofs (maxSteps := 4000000) (disch := omega) only [getDT, go_sem, *]) <;> (try simp only [pA, pB, pC, pD, pE, pF, pG, pH, pI, pJ, pK, pL, pM, pN, pO, pP, if_true, if_false]))); (all_goals try rfl); (all_goals try (repeat' (first | done | rfl | (exfalso; omega) | contradiction | (refine iteR (fun hq => ?_) (fun hq => ?_))))))
  simp only [all_eq hab, Int.natCast_zero, decide_eq_true_eq] at this
  exact this
theorem sd_loop1 (a b : Directory) (hL : a.forward.length ≤ 4294967296) (hab : a.forward.length = b.forward.length) : loopL G [] l_ref10_Same_1 ⟨[(2, .ref 2 0 0), (3, .ref 3 0 0), (6, .d (.int .i64 0))], [(2, .row [.d (eDirectory a)]), (3, .row [.d (eDirectory b)])]⟩ = some (if a.forward = b.forward then (.exit 2, ⟨[], []⟩) else (.ret, ⟨[(4, .d (.bool false))], []⟩)) := by
  have := loop_all (G := G) (x := l_ref10_Same_1) (ks := []) a.forward.length (fun k => decide (a.forward[k]? = b.forward[k]?)) (fun k => ⟨[(2, .ref 2 0 0), (3, .ref 3 0 0), (6, .d (.int .i64 k))], [(2, .row [.d (eDirectory a)]), (3, .row [.d (eDirectory b)])]⟩) (.ret, ⟨[(4, .d (.bool false))], []⟩) (.exit 2, ⟨[], []⟩) (fun k hk L => by
    simp only [l_ref10_Same_1]
    by_cases h0 : k < a.forward.length
    · have hk2 : k < b.forward.length := by omega
      simp only [get_eq h0 hk2, h0, if_true]
      (try simp -implicitDefEqProofs (maxSteps := 4000000) (disch := omega) only [getDT, go_sem, *]); (try simp only [pA, pB, pC, pD, pE, pF, pG, pH, pI, pJ, pK, pL, pM, pN, pO, pP, if_true, if_false]); repeat' (first | done | rfl | (refine iteC (fun hq => ?_) (fun hq => ?_) <;> (try (first | (exfalso; omega) | contradiction)) <;> (try simp -implicitDefEqProofs (maxSteps := 4000000) (disch := omega) only [getDT, go_sem, *]) <;> (try simp only [pA, pB, pC, pD, pE, pF, pG, pH, pI, pJ, pK, pL, pM, pN, pO, pP, if_true, if_false]))); (all_goals try rfl); (all_goals try (repeat' (first | done | rfl | (exfalso; omega) | contradiction | (refine iteR (fun hq => ?_) (fun hq => ?_)))))
    · (try simp -implicitDefEqProofs (maxSteps := 4000000) (disch := omega) only [getDT, go_sem, *]); (try simp only [pA, pB, pC, pD, pE, pF, pG, pH, pI, pJ, pK, pL, pM, pN, pO, pP, if_true, if_false]); repeat' (first | done | rfl | (refine iteC (fun hq => ?_) (fun hq => ?_) <;> (try (first | (exfalso; omega) | contradiction)) <;> (try simp -implicitDefEqProofs (maxSteps := 4000000) (disch := omega) only [getDT, go_sem, *]) <;> (try simp only [pA, pB, pC, pD, pE, pF, pG, pH, pI, pJ, pK, pL, pM, pN, pO, pP, if_true, if_false]))); (all_goals try rfl); (all_goals try (repeat' (first | done | rfl | (exfalso; omega) | contradiction | (refine iteR (fun hq => ?_) (fun hq => ?_))))))
  simp only [all_eq hab, Int.natCast_zero, decide_eq_true_eq] at this
  exact this
theorem same_Directory (a b : Directory) (hL : a.l.length ≤ 4294967296) (hF : a.forward.length ≤ 4294967296) : callL G N_ref10_Same [.d (eDirectory a), .d (eDirectory b)] [] = some (.d (.bool (decide (a = b))), []) := by
  by_cases c0 : a.version = b.version ∧ a.l.length = b.l.length ∧ a.forward.length = b.forward.length
  · obtain ⟨c1, c2, c3⟩ := c0
    have h0 := sd_loop0 a b hL c2
    have h1 := sd_loop1 a b hF c3
    by_cases c4 : a.l = b.l
    · by_cases c5 : a.forward = b.forward
      · have e : a = b := by cases a; cases b; simp_all
        subst e
        simp only [if_true] at h0 h1
        simp only [decide_true]
        clear c1 c2 c3 c4 c5
        rw [callL_code g_ref10_Same (by simp)]; simp -implicitDefEqProofs (maxSteps := 4000000) (disch := omega) only [c_ref10_Same, r_ref10_Same, getDT, go_sem, *]; (try simp only [pA, pB, pC, pD, pE, pF, pG, pH, pI, pJ, pK, pL, pM, pN, pO, pP, if_true, if_false]); repeat' (first | done | rfl | (refine iteC (fun hq => ?_) (fun hq => ?_) <;> (try (first | (exfalso; omega) | contradiction)) <;> (try simp -implicitDefEqProofs (maxSteps := 4000000) (disch := omega) only [getDT, go_sem, *]) <;> (try simp only [pA, pB, pC, pD, pE, pF, pG, pH, pI, pJ, pK, pL, pM, pN, pO, pP, if_true, if_false]))); (all_goals try rfl); (all_goals try (repeat' (first | done | rfl | (exfalso; omega) | contradiction | (refine iteR (fun hq => ?_) (fun hq => ?_)))))
      · have e : ¬ a = b := fun e => c5 (by rw [e])
        rw [decide_eq_false e]
        rw [if_pos c4] at h0
        rw [if_neg c5] at h1
        clear c4
        rw [callL_code g_ref10_Same (by simp)]; simp -implicitDefEqProofs (maxSteps := 4000000) (disch := omega) only [c_ref10_Same, r_ref10_Same, getDT, go_sem, *]; (try simp only [pA, pB, pC, pD, pE, pF, pG, pH, pI, pJ, pK, pL, pM, pN, pO, pP, if_true, if_false]); repeat' (first | done | rfl | (refine iteC (fun hq => ?_) (fun hq => ?_) <;> (try (first | (exfalso; omega) | contradiction)) <;> (try simp -implicitDefEqProofs (maxSteps := 4000000) (disch := omega) only [getDT, go_sem, *]) <;> (try simp only [pA, pB, pC, pD, pE, pF, pG, pH, pI, pJ, pK, pL, pM, pN, pO, pP, if_true, if_false]))); (all_goals try rfl); (all_goals try (repeat' (first | done | rfl | (exfalso; omega) | contradiction | (refine iteR (fun hq => ?_) (fun hq => ?_)))))
    · have e : ¬ a = b := fun e => c4 (by rw [e])
      rw [decide_eq_false e]
      rw [if_neg c4] at h0
      clear h1
      rw [callL_code g_ref10_Same (by simp)]; simp -implicitDefEqProofs (maxSteps := 4000000) (disch := omega) only [c_ref10_Same, r_ref10_Same, getDT, go_sem, *]; (try simp only [pA, pB, pC, pD, pE, pF, pG, pH, pI, pJ, pK, pL, pM, pN, pO, pP, if_true, if_false]); repeat' (first | done | rfl | (refine iteC (fun hq => ?_) (fun hq => ?_) <;> (try (first | (exfalso; omega) | contradiction)) <;> (try simp -implicitDefEqProofs (maxSteps := 4000000) (disch := omega) only [getDT, go_sem, *]) <;> (try simp only [pA, pB, pC, pD, pE, pF, pG, pH, pI, pJ, pK, pL, pM, pN, pO, pP, if_true, if_false]))); (all_goals try rfl); (all_goals try (repeat' (first | done | rfl | (exfalso; omega) | contradiction | (refine iteR (fun hq => ?_) (fun hq => ?_)))))
  · have e : ¬ a = b := fun e => c0 (by rw [e]; exact ⟨rfl, rfl, rfl⟩)
    rw [decide_eq_false e]
    by_cases c1 : a.version = b.version
    · by_cases c2 : a.l.length = b.l.length
      · have c3 : ¬ a.forward.length = b.forward.length := fun c3 => c0 ⟨c1, c2, c3⟩
        rw [callL_code g_ref10_Same (by simp)]; simp -implicitDefEqProofs (maxSteps := 4000000) (disch := omega) only [c_ref10_Same, r_ref10_Same, getDT, go_sem, *]; (try simp only [pA, pB, pC, pD, pE, pF, pG, pH, pI, pJ, pK, pL, pM, pN, pO, pP, if_true, if_false]); repeat' (first | done | rfl | (refine iteC (fun hq => ?_) (fun hq => ?_) <;> (try (first | (exfalso; omega) | contradiction)) <;> (try simp -implicitDefEqProofs (maxSteps := 4000000) (disch := omega) only [getDT, go_sem, *]) <;> (try simp only [pA, pB, pC, pD, pE, pF, pG, pH, pI, pJ, pK, pL, pM, pN, pO, pP, if_true, if_false]))); (all_goals try rfl); (all_goals try (repeat' (first | done | rfl | (exfalso; omega) | contradiction | (refine iteR (fun hq => ?_) (fun hq => ?_)))))
      · rw [callL_code g_ref10_Same (by simp)]; simp -implicitDefEqProofs (maxSteps := 4000000) (disch := omega) only [c_ref10_Same, r_ref10_Same, getDT, go_sem, *]; (try simp only [pA, pB, pC, pD, pE, pF, pG, pH, pI, pJ, pK, pL, pM, pN, pO, pP, if_true, if_false]); repeat' (first | done | rfl | (refine iteC (fun hq => ?_) (fun hq => ?_) <;> (try (first | (exfalso; omega) | contradiction)) <;> (try simp -implicitDefEqProofs (maxSteps := 4000000) (disch := omega) only [getDT, go_sem, *]) <;> (try simp only [pA, pB, pC, pD, pE, pF, pG, pH, pI, pJ, pK, pL, pM, pN, pO, pP, if_true, if_false]))); (all_goals try rfl); (all_goals try (repeat' (first | done | rfl | (exfalso; omega) | contradiction | (refine iteR (fun hq => ?_) (fun hq => ?_)))))
    · rw [callL_code g_ref10_Same (by simp)]; simp -implicitDefEqProofs (maxSteps := 4000000) (disch := omega) only [c_ref10_Same, r_ref10_Same, getDT, go_sem, *]; (try simp only [pA, pB, pC, pD, pE, pF, pG, pH, pI, pJ, pK, pL, pM, pN, pO, pP, if_true, if_false]); repeat' (first | done | rfl | (refine iteC (fun hq => ?_) (fun hq => ?_) <;> (try (first | (exfalso; omega) | contradiction)) <;> (try simp -implicitDefEqProofs (maxSteps := 4000000) (disch := omega) only [getDT, go_sem, *]) <;> (try simp only [pA, pB, pC, pD, pE, pF, pG, pH, pI, pJ, pK, pL, pM, pN, pO, pP, if_true, if_false]))); (all_goals try rfl); (all_goals try (repeat' (first | done | rfl | (exfalso; omega) | contradiction | (refine iteR (fun hq => ?_) (fun hq => ?_)))))
structure FitA (a : Arena) : Prop where
  sl : a.slots.length ≤ 1000
  sh : ∀ i (h : i < a.slots.length), FitS (a.slots[i]).shard
  st : a.stripes.length ≤ 4294967296
  de : a.dead.dead.l.length ≤ 4294967296
  dl : a.dir.l.length ≤ 4294967296
  df : a.dir.forward.length ≤ 4294967296
theorem sa_loop (a b : Arena) (h : FitA a) (hab : a.slots.length = b.slots.length) : loopL G [] l_ref12_Same_0 ⟨[(2, .ref 2 0 0), (3, .ref 3 0 0), (5, .d (.int .i64 0))], [(2, .row [.d (eArena a)]), (3, .row [.d (eArena b)])]⟩ = some (if a.slots = b.slots then (.exit 0, ⟨[], []⟩) else (.ret, ⟨[(4, .d (.bool false))], []⟩)) := by
  obtain ⟨fa, fb, _, _, _, _⟩ := h
  have := loop_all (G := G) (x := l_ref12_Same_0) (ks := []) a.slots.length (fun k => decide (a.slots[k]? = b.slots[k]?)) (fun k => ⟨[(2, .ref 2 0 0), (3, .ref 3 0 0), (5, .d (.int .i64 k))], [(2, .row [.d (eArena a)]), (3, .row [.d (eArena b)])]⟩) (.ret, ⟨[(4, .d (.bool false))], []⟩) (.exit 0, ⟨[], []⟩) (fun k hk L => by
    simp only [l_ref12_Same_0]
    by_cases h0 : k < a.slots.length
    · have hk2 : k < b.slots.length := by omega
      have hs := same_Shard (a.slots[k]).shard (b.slots[k]).shard (fb k h0)
      simp only [eShard] at hs
      have e : decide (a.slots[k] = b.slots[k]) = (decide (a.slots[k].owner = b.slots[k].owner) && decide (a.slots[k].shard = b.slots[k].shard)) := by
        generalize a.slots[k] = x
        generalize b.slots[k] = y
        cases x; cases y
        apply Bool.eq_iff_iff.2
        simp
      simp only [get_eq h0 hk2, h0, if_true, e]
      clear fb
      by_cases c1 : a.slots[k].owner = b.slots[k].owner
      · by_cases c2 : a.slots[k].shard = b.slots[k].shard
        · simp only [c1, c2, decide_true, Bool.and_self, if_true] at hs ⊢
          (try simp -implicitDefEqProofs (maxSteps := 4000000) (disch := omega) only [c1, getDT, go_sem, *]); (try simp only [pA, pB, pC, pD, pE, pF, pG, pH, pI, pJ, pK, pL, pM, pN, pO, pP, if_true, if_false]); repeat' (first | done | rfl | (refine iteC (fun hq => ?_) (fun hq => ?_) <;> (try (first | (exfalso; omega) | contradiction)) <;> (try simp -implicitDefEqProofs (maxSteps := 4000000) (disch := omega) only [c1, getDT, go_sem, *]) <;> (try simp only [pA, pB, pC, pD, pE, pF, pG, pH, pI, pJ, pK, pL, pM, pN, pO, pP, if_true, if_false]))); (all_goals try rfl); (all_goals try (repeat' (first | done | rfl | (exfalso; omega) | contradiction | (refine iteR (fun hq => ?_) (fun hq => ?_)))))
        · simp only [c1, c2, decide_true, decide_false, Bool.and_false, Bool.false_eq_true, if_false] at hs ⊢
          (try simp -implicitDefEqProofs (maxSteps := 4000000) (disch := omega) only [c1, getDT, go_sem, *]); (try simp only [pA, pB, pC, pD, pE, pF, pG, pH, pI, pJ, pK, pL, pM, pN, pO, pP, if_true, if_false]); repeat' (first | done | rfl | (refine iteC (fun hq => ?_) (fun hq => ?_) <;> (try (first | (exfalso; omega) | contradiction)) <;> (try simp -implicitDefEqProofs (maxSteps := 4000000) (disch := omega) only [c1, getDT, go_sem, *]) <;> (try simp only [pA, pB, pC, pD, pE, pF, pG, pH, pI, pJ, pK, pL, pM, pN, pO, pP, if_true, if_false]))); (all_goals try rfl); (all_goals try (repeat' (first | done | rfl | (exfalso; omega) | contradiction | (refine iteR (fun hq => ?_) (fun hq => ?_)))))
      · simp only [c1, decide_false, Bool.false_and, Bool.false_eq_true, if_false]
        (try simp -implicitDefEqProofs (maxSteps := 4000000) (disch := omega) only [c1, getDT, go_sem, *]); (try simp only [pA, pB, pC, pD, pE, pF, pG, pH, pI, pJ, pK, pL, pM, pN, pO, pP, if_true, if_false]); repeat' (first | done | rfl | (refine iteC (fun hq => ?_) (fun hq => ?_) <;> (try (first | (exfalso; omega) | contradiction)) <;> (try simp -implicitDefEqProofs (maxSteps := 4000000) (disch := omega) only [c1, getDT, go_sem, *]) <;> (try simp only [pA, pB, pC, pD, pE, pF, pG, pH, pI, pJ, pK, pL, pM, pN, pO, pP, if_true, if_false]))); (all_goals try rfl); (all_goals try (repeat' (first | done | rfl | (exfalso; omega) | contradiction | (refine iteR (fun hq => ?_) (fun hq => ?_)))))
    · (try simp -implicitDefEqProofs (maxSteps := 4000000) (disch := omega) only [getDT, go_sem, *]); (try simp only [pA, pB, pC, pD, pE, pF, pG, pH, pI, pJ, pK, pL, pM, pN, pO, pP, if_true, if_false]); repeat' (first | done | rfl | (refine iteC (fun hq => ?_) (fun hq => ?_) <;> (try (first | (exfalso; omega) | contradiction)) <;> (try simp -implicitDefEqProofs (maxSteps := 4000000) (disch := omega) only [getDT, go_sem, *]) <;> (try simp only [pA, pB, pC, pD, pE, pF, pG, pH, pI, pJ, pK, pL, pM, pN, pO, pP, if_true, if_false]))); (all_goals try rfl); (all_goals try (repeat' (first | done | rfl | (exfalso; omega) | contradiction | (refine iteR (fun hq => ?_) (fun hq => ?_))))))
  simp only [all_eq hab, Int.natCast_zero, decide_eq_true_eq] at this
  exact this
theorem same_Arena (a b : Arena) (h : FitA a) : callL G N_ref12_Same [.d (eArena a), .d (eArena b)] [] = some (.d (.bool (decide (a = b))), []) := by
  have hl := sa_loop a b h
  obtain ⟨f1, f2, f3, f4, f5, f6⟩ := h
  have h1 := same_ref11_Same a.stripes b.stripes f3
  have h2 := same_Dead a.dead.dead b.dead.dead f4
  have h3 := same_Directory a.dir b.dir f5 f6
  simp only [eDead, eDirectory] at h2 h3
  have e : decide (a = b) = decide (a.slots.length = b.slots.length ∧ a.stripes = b.stripes ∧ a.dead.owner = b.dead.owner ∧ a.dead.dead = b.dead.dead ∧ a.dir = b.dir ∧ a.epoch = b.epoch ∧ a.clock = b.clock ∧ a.nextID = b.nextID ∧ a.slots = b.slots) := by
    apply Bool.eq_iff_iff.2
    simp only [decide_eq_true_eq]
    constructor
    · intro h; subst h; simp
    · rintro ⟨_, e1, e2, e3, e4, e5, e6, e7, e8⟩
      obtain ⟨_, _, ⟨_, _⟩, _, _, _, _⟩ := a
      obtain ⟨_, _, ⟨_, _⟩, _, _, _, _⟩ := b
      simp_all
  rw [e]
  clear e f2
  by_cases c1 : a.slots.length = b.slots.length
  · have hl2 := hl c1
    clear hl
    by_cases c2 : a.slots = b.slots
    · rw [if_pos c2] at hl2
      generalize hq9 : decide (a.slots.length = b.slots.length ∧ a.stripes = b.stripes ∧ a.dead.owner = b.dead.owner ∧ a.dead.dead = b.dead.dead ∧ a.dir = b.dir ∧ a.epoch = b.epoch ∧ a.clock = b.clock ∧ a.nextID = b.nextID ∧ a.slots = b.slots) = z
      simp only [c1, c2, true_and, and_true] at hq9
      clear c2
      rw [callL_code g_ref12_Same (by simp)]; simp -implicitDefEqProofs (maxSteps := 4000000) (disch := omega) only [c_ref12_Same, r_ref12_Same, getDT, go_sem, *]; (try simp only [pA, pB, pC, pD, pE, pF, pG, pH, pI, pJ, pK, pL, pM, pN, pO, pP, if_true, if_false]); repeat' (first | done | rfl | (refine iteC (fun hq => ?_) (fun hq => ?_) <;> (try (first | (exfalso; omega) | contradiction)) <;> (try simp -implicitDefEqProofs (maxSteps := 4000000) (disch := omega) only [getDT, go_sem, *]) <;> (try simp only [pA, pB, pC, pD, pE, pF, pG, pH, pI, pJ, pK, pL, pM, pN, pO, pP, if_true, if_false]))); (all_goals try rfl); (all_goals try (repeat' (first | done | rfl | (exfalso; omega) | contradiction | (refine iteR (fun hq => ?_) (fun hq => ?_)))))
      all_goals (clear h1 h2 h3 hl2; simp_all)
    · rw [if_neg c2] at hl2
      rw [decide_eq_false (fun h => c2 h.2.2.2.2.2.2.2.2)]
      clear c2
      rw [callL_code g_ref12_Same (by simp)]; simp -implicitDefEqProofs (maxSteps := 4000000) (disch := omega) only [c_ref12_Same, r_ref12_Same, getDT, go_sem, *]; (try simp only [pA, pB, pC, pD, pE, pF, pG, pH, pI, pJ, pK, pL, pM, pN, pO, pP, if_true, if_false]); repeat' (first | done | rfl | (refine iteC (fun hq => ?_) (fun hq => ?_) <;> (try (first | (exfalso; omega) | contradiction)) <;> (try simp -implicitDefEqProofs (maxSteps := 4000000) (disch := omega) only [getDT, go_sem, *]) <;> (try simp only [pA, pB, pC, pD, pE, pF, pG, pH, pI, pJ, pK, pL, pM, pN, pO, pP, if_true, if_false]))); (all_goals try rfl); (all_goals try (repeat' (first | done | rfl | (exfalso; omega) | contradiction | (refine iteR (fun hq => ?_) (fun hq => ?_)))))
  · clear hl
    rw [callL_code g_ref12_Same (by simp)]; simp -implicitDefEqProofs (maxSteps := 4000000) (disch := omega) only [c_ref12_Same, r_ref12_Same, getDT, go_sem, *]; (try simp only [pA, pB, pC, pD, pE, pF, pG, pH, pI, pJ, pK, pL, pM, pN, pO, pP, if_true, if_false]); repeat' (first | done | rfl | (refine iteC (fun hq => ?_) (fun hq => ?_) <;> (try (first | (exfalso; omega) | contradiction)) <;> (try simp -implicitDefEqProofs (maxSteps := 4000000) (disch := omega) only [getDT, go_sem, *]) <;> (try simp only [pA, pB, pC, pD, pE, pF, pG, pH, pI, pJ, pK, pL, pM, pN, pO, pP, if_true, if_false]))); (all_goals try rfl); (all_goals try (repeat' (first | done | rfl | (exfalso; omega) | contradiction | (refine iteR (fun hq => ?_) (fun hq => ?_)))))
end Go.Proofs.Ytkdjbfjohbiemaa

namespace Go.Proofs.Ytkdjbfjohbiemaa
open Go Go.Sim
set_option linter.unusedSimpArgs false
set_option linter.unusedVariables false
set_option maxHeartbeats 10000000
set_option maxRecDepth 40000
theorem setOwner_len (a : Arena) (c k : Int) : (setOwner a c k).slots.length = a.slots.length := by
  unfold setOwner; split <;> simp
theorem setOwner_shard (a : Arena) (c k : Int) (i : Nat) (h : i < a.slots.length) : ((setOwner a c k).slots[i]'(by rw [setOwner_len]; exact h)).shard = (a.slots[i]).shard := by
  unfold setOwner
  split
  · rfl
  · rename_i hc
    simp only [List.getElem_set]
    split
    · rename_i e; subst e; simp [h]
    · rfl
theorem fitA_set {a : Arena} (h : FitA a) (c k : Int) : FitA (setOwner a c k) := by
  refine ⟨by rw [setOwner_len]; exact h.sl, fun i hi => ?_, ?_, ?_, ?_, ?_⟩
  · rw [setOwner_len] at hi
    rw [setOwner_shard a c k i hi]; exact h.sh i hi
  all_goals (unfold setOwner; split)
  all_goals first | exact h.st | exact h.de | exact h.dl | exact h.df
theorem fitA_z : FitA zArena := ⟨by decide, fun i h => by simp [zArena] at h, by decide, by decide, by decide, by decide⟩
theorem aTry_keep (a : Arena) (c k : Int) (h : (aTry a c k).2.2 = 0) : ((aTry a c k).1 = a ∧ (aTry a c k).2.1 = false ∧ owners a c ≠ 0) ∨ ((aTry a c k).1 = setOwner a c k ∧ (aTry a c k).2.1 = true ∧ owners a c = 0) := by
  unfold aTry at *
  split at h
  · cases h
  · rename_i h1
    rw [if_neg h1]
    split
    · rename_i h2; exact .inr ⟨rfl, rfl, h2⟩
    · rename_i h2; exact .inl ⟨rfl, rfl, h2⟩
theorem aUnlock_keep (a : Arena) (c k : Int) (h : (aUnlock a c k).2 = 0) : (aUnlock a c k).1 = setOwner a c 0 ∧ owners a c = k := by
  unfold aUnlock at *
  split at h
  · cases h
  · rename_i h1
    rw [if_neg h1]
    split at h
    · rename_i h2; rw [if_pos h2]; exact ⟨rfl, h2⟩
    · cases h
/-- What a step that succeeds does: to the arena, and to the locker. -/
theorem lockStep_keep {B : Int} {a : Arena} {l : Locker} {k : Int} (hw : LWF B l) (h : (lockStep a l k).2.2 = 0) :
    LWF (B + 1) (lockStep a l k).2.1 ∧ (lockStep a l k).2.1.cells = l.cells ∧ ((lockStep a l k).1 = a ∨ ∃ c o, (lockStep a l k).1 = setOwner a c o) := by
  obtain ⟨w1, w2, w3, w4, w5, w6, w7, w8, w9, w10, w11, w12, w13⟩ := hw
  unfold lockStep at *
  by_cases c0 : l.phase = 0
  · have hh := w5 c0
    rw [if_pos c0] at h ⊢
    unfold lockTry at *
    by_cases c1 : (aTry a (l.cells.getD l.have_.toNat 0) k).2.2 = 0
    · rw [if_pos c1] at h ⊢
      rcases aTry_keep _ _ _ c1 with ⟨e1, e2, _⟩ | ⟨e1, e2, _⟩
      · rw [if_neg (by rw [e2]; simp)] at h ⊢
        refine ⟨?_, rfl, .inl e1⟩
        by_cases c2 : 0 < l.have_
        · simp only [c2, if_true]; constructor <;> simp only <;> omega
        · simp only [c2, if_false, c0]; constructor <;> simp only <;> omega
      · rw [if_pos e2] at h ⊢
        refine ⟨?_, rfl, .inr ⟨_, _, e1⟩⟩
        by_cases c2 : l.have_ + 1 = l.cells.length
        · simp only [c2, if_true]; constructor <;> simp only <;> first | omega | exact fun _ => trivial
        · simp only [c2, if_false, c0]; constructor <;> simp only <;> omega
    · rw [if_neg c1] at h
      exact absurd h c1
  rw [if_neg c0] at h ⊢
  by_cases c14 : l.phase = 1 ∨ l.phase = 4
  · have hh : 1 ≤ l.have_ := by rcases c14 with h | h; exact w6 h; exact w9 h
    rw [if_pos c14] at h ⊢
    unfold lockLeave at *
    by_cases c1 : (aUnlock a (l.cells.getD (l.have_ - 1).toNat 0) k).2 = 0
    · rw [if_pos c1] at h ⊢
      have hk := aUnlock_keep _ _ _ c1
      refine ⟨?_, ?_, .inr ⟨_, _, hk.1⟩⟩
      · simp only [leaveL]
        by_cases c2 : 0 < l.have_ - 1
        · rw [if_pos c2]; constructor <;> simp only <;> omega
        · rw [if_neg c2]
          by_cases c3 : l.phase = 4
          · rw [if_pos c3]; constructor <;> simp only <;> omega
          · rw [if_neg c3]
            by_cases c4 : 3 < l.tries + 1
            · rw [if_pos c4]; constructor <;> simp only <;> omega
            · rw [if_neg c4]; constructor <;> simp only <;> omega
      · simp only [leaveL]
        by_cases c2 : 0 < l.have_ - 1
        · rw [if_pos c2]
        · rw [if_neg c2]
          by_cases c3 : l.phase = 4
          · rw [if_pos c3]
          · rw [if_neg c3]
    · rw [if_neg c1] at h
      exact absurd h c1
  rw [if_neg c14] at h ⊢
  by_cases c2 : l.phase = 2
  · have hh := w7 c2
    rw [if_pos c2] at h ⊢
    refine ⟨?_, rfl, .inl rfl⟩
    by_cases c3 : l.wait - 1 = 0
    · simp only [c3, if_true]; constructor <;> simp only <;> omega
    · simp only [c3, if_false]; constructor <;> simp only <;> omega
  · rw [if_neg c2] at h
    cases h
theorem lockStep_bad {B : Int} {a : Arena} {l : Locker} {k : Int} (h : ¬ (lockStep a l k).2.2 = 0) : (lockStep a l k).1 = zArena ∧ (lockStep a l k).2.1 = zLocker := by
  unfold lockStep at *
  by_cases c0 : l.phase = 0
  · rw [if_pos c0] at h ⊢
    unfold lockTry at *
    by_cases c1 : (aTry a (l.cells.getD l.have_.toNat 0) k).2.2 = 0
    · rw [if_pos c1] at h
      exfalso; apply h; split <;> rfl
    · rw [if_neg c1]; exact ⟨rfl, rfl⟩
  rw [if_neg c0] at h ⊢
  by_cases c14 : l.phase = 1 ∨ l.phase = 4
  · rw [if_pos c14] at h ⊢
    unfold lockLeave at *
    by_cases c1 : (aUnlock a (l.cells.getD (l.have_ - 1).toNat 0) k).2 = 0
    · rw [if_pos c1] at h; exact absurd rfl h
    · rw [if_neg c1]; exact ⟨rfl, rfl⟩
  rw [if_neg c14] at h ⊢
  by_cases c2 : l.phase = 2
  · rw [if_pos c2] at h; exact absurd rfl h
  · rw [if_neg c2]; exact ⟨rfl, rfl⟩
theorem LWF.mono {B B' : Int} {l : Locker} (h : LWF B l) (hb : B ≤ B') : LWF B' l := ⟨h.c1, h.c2, h.h0, h.h1, h.t0, h.t1, h.t2, h.t3, h.t4, h.t5, h.t6, h.b0, by have := h.b1; omega⟩
theorem lockFree_wf {B : Int} {l : Locker} (h : LWF B l) (hp : l.phase = 3) : LWF B (lockFree l).1 ∧ (lockFree l).1.cells = l.cells := by
  have h3 := h.t3 hp
  obtain ⟨w1, w2, w3, w4, w5, w6, w7, w8, w9, w10, w11, w12, w13⟩ := h
  unfold lockFree
  rw [if_pos hp]
  exact ⟨by constructor <;> simp only <;> omega, rfl⟩
/-- All lockers of a list. -/
def LWFs (B : Int) (ps : List Locker) : Prop := ∀ i (h : i < ps.length), LWF B (ps[i])
theorem LWFs.set {B : Int} {ps : List Locker} (h : LWFs B ps) {j : Nat} {x : Locker} (hx : LWF B x) : LWFs B (ps.set j x) := by
  intro i hi
  simp only [List.getElem_set]
  split
  · exact hx
  · exact h i (by simpa using hi)
def scrS (t : List Int) (a : Nat) (ar : Arena) (ps : List Locker) (i : Nat) : St := ⟨[(3, .ref 28 0 0), (4, .ref 4 0 0), (6, .ref 6 0 0), (7, .osl 7 0 3), (8, .osl 8 0 3), (15, .d (.int .i64 i))], [(4, .row [.d (eArena ar)]), (6, .row [.d (eArena ar)]), (7, .row ((ps.map eLocker).map .d)), (8, .row ((ps.map eLocker).map .d)), (28, srcO t a)]⟩
structure ScrT where
  i : Nat
  a : Nat
  ar : Arena
  ps : List Locker
structure ScrI (s : ScrT) : Prop where
  i : s.i ≤ 60
  f : FitA s.ar
  l : s.ps.length = 3
  w : LWFs s.i s.ps
theorem scr_loop (t : List Int) (ht : t.length ≤ 4000) : ∀ s : ScrT, ScrI s → loopL G [] l_law13_LockerScript_1 (scrS t s.a s.ar s.ps s.i) = some (.exit 2, ⟨[], []⟩) := by
  refine loop_ind (fun s : ScrT => 60 - s.i) ScrI (fun s => scrS t s.a s.ar s.ps s.i) _ fun ⟨i, a, ar, ps⟩ ⟨hi, hf, hp, hw⟩ L ih => ?_
  simp only at hi hf hp hw
  simp only [scrS] at ih ⊢
  simp only [l_law13_LockerScript_1]
  have hm := more_ok t a ht
  by_cases h60 : i < 60 ∧ (i < 6 ∨ (a : Int) < t.length)
  rotate_left
  · by_cases c : i < 60
    · (try simp -implicitDefEqProofs (maxSteps := 4000000) (disch := omega) only [c, getDT, go_sem, *]); (try simp only [pA, pB, pC, pD, pE, pF, pG, pH, pI, pJ, pK, pL, pM, pN, pO, pP, if_true, if_false]); repeat' (first | done | rfl | (refine iteC (fun hq => ?_) (fun hq => ?_) <;> (try (first | (exfalso; omega) | contradiction)) <;> (try simp -implicitDefEqProofs (maxSteps := 4000000) (disch := omega) only [c, getDT, go_sem, *]) <;> (try simp only [pA, pB, pC, pD, pE, pF, pG, pH, pI, pJ, pK, pL, pM, pN, pO, pP, if_true, if_false]))); (all_goals try rfl); (all_goals try (repeat' (first | done | rfl | (exfalso; omega) | contradiction | (refine iteR (fun hq => ?_) (fun hq => ?_)))))
    · (try simp -implicitDefEqProofs (maxSteps := 4000000) (disch := omega) only [c, getDT, go_sem, *]); (try simp only [pA, pB, pC, pD, pE, pF, pG, pH, pI, pJ, pK, pL, pM, pN, pO, pP, if_true, if_false]); repeat' (first | done | rfl | (refine iteC (fun hq => ?_) (fun hq => ?_) <;> (try (first | (exfalso; omega) | contradiction)) <;> (try simp -implicitDefEqProofs (maxSteps := 4000000) (disch := omega) only [c, getDT, go_sem, *]) <;> (try simp only [pA, pB, pC, pD, pE, pF, pG, pH, pI, pJ, pK, pL, pM, pN, pO, pP, if_true, if_false]))); (all_goals try rfl); (all_goals try (repeat' (first | done | rfl | (exfalso; omega) | contradiction | (refine iteR (fun hq => ?_) (fun hq => ?_)))))
  obtain ⟨h60, hmore⟩ := h60
  have h3 := n_ok t a 3 ht (by omega) (by omega)
  have h0 : 0 ≤ nD t a 3 ∧ nD t a 3 < 3 := nD_in t a (by omega)
  have h4 := n_ok t (rawD t a).2 3 ht (by omega) (by omega)
  generalize (rawD t a).2 = a1 at h3 h4
  generalize (rawD t a1).2 = a2 at h4
  generalize nD t a1 3 = z at h4
  obtain ⟨j, hj⟩ : ∃ j : Nat, nD t a 3 = j := ⟨(nD t a 3).toNat, by omega⟩
  rw [hj] at h3 h0
  have hj3 : j < ps.length := by omega
  have hwj := hw j hj3
  by_cases hz : z = 0
  · have e1 := lfree_ok ps[j]
    have e2 := l13free_ok ps[j]
    have hs := same_Locker (lockFree ps[j]).1 (lockFree ps[j]).1 (by
      have := hwj.c2
      unfold lockFree; split
      · simp only; omega
      · simp [zLocker])
    by_cases hp3 : ps[j].phase = 3
    · have hkeep := lockFree_wf hwj hp3
      have ih1 := ih ⟨i + 1, a2, ar, ps.set j (lockFree ps[j]).1⟩ ⟨by simp only; omega, hf, by simpa using hp, fun q hq => (LWFs.set hw hkeep.1 q hq).mono (by simp only; omega)⟩ (by simp only; omega)
      have e0 : (lockFree ps[j]).2 = 0 := by unfold lockFree; rw [if_pos hp3]
      rw [e0] at e1 e2
      generalize (lockFree ps[j]).1 = x at *
      simp only [decide_true] at hs
      clear hkeep hw hwj
      simp only [Int.natCast_add, Int.natCast_one, Int.natCast_zero, Int.natCast_mul, Int.cast_ofNat_Int, List.length_append, List.length_map, List.map_nil, List.length_nil, List.map_append, List.map_cons, List.length_cons, Nat.zero_add, srcO, mapSet] at ih1
      clear ih
      by_cases c : (i : Int) < 6
      · (try simp -implicitDefEqProofs (maxSteps := 4000000) (disch := omega) only [c, getDT, go_sem, *]); (try simp only [pA, pB, pC, pD, pE, pF, pG, pH, pI, pJ, pK, pL, pM, pN, pO, pP, if_true, if_false]); repeat' (first | done | rfl | (refine iteC (fun hq => ?_) (fun hq => ?_) <;> (try (first | (exfalso; omega) | contradiction)) <;> (try simp -implicitDefEqProofs (maxSteps := 4000000) (disch := omega) only [c, getDT, go_sem, *]) <;> (try simp only [pA, pB, pC, pD, pE, pF, pG, pH, pI, pJ, pK, pL, pM, pN, pO, pP, if_true, if_false]))); (all_goals try rfl); (all_goals try (repeat' (first | done | rfl | (exfalso; omega) | contradiction | (refine iteR (fun hq => ?_) (fun hq => ?_)))))
      · have hmore : (a : Int) < t.length := by omega
        (try simp -implicitDefEqProofs (maxSteps := 4000000) (disch := omega) only [c, getDT, go_sem, *]); (try simp only [pA, pB, pC, pD, pE, pF, pG, pH, pI, pJ, pK, pL, pM, pN, pO, pP, if_true, if_false]); repeat' (first | done | rfl | (refine iteC (fun hq => ?_) (fun hq => ?_) <;> (try (first | (exfalso; omega) | contradiction)) <;> (try simp -implicitDefEqProofs (maxSteps := 4000000) (disch := omega) only [c, getDT, go_sem, *]) <;> (try simp only [pA, pB, pC, pD, pE, pF, pG, pH, pI, pJ, pK, pL, pM, pN, pO, pP, if_true, if_false]))); (all_goals try rfl); (all_goals try (repeat' (first | done | rfl | (exfalso; omega) | contradiction | (refine iteR (fun hq => ?_) (fun hq => ?_)))))
    · have ih1 := ih ⟨i + 1, a2, ar, ps⟩ ⟨by simp only; omega, hf, hp, fun q hq => (hw q hq).mono (by simp only; omega)⟩ (by simp only; omega)
      have e0 : lockFree ps[j] = (zLocker, 7) := by unfold lockFree; rw [if_neg hp3]
      rw [e0] at e1 e2 hs
      simp only [decide_true] at hs
      clear hw hwj
      simp only [Int.natCast_add, Int.natCast_one, Int.natCast_zero, Int.natCast_mul, Int.cast_ofNat_Int, List.length_append, List.length_map, List.map_nil, List.length_nil, List.map_append, List.map_cons, List.length_cons, Nat.zero_add, srcO, mapSet] at ih1
      clear ih
      by_cases c : (i : Int) < 6
      · (try simp -implicitDefEqProofs (maxSteps := 4000000) (disch := omega) only [c, getDT, go_sem, *]); (try simp only [pA, pB, pC, pD, pE, pF, pG, pH, pI, pJ, pK, pL, pM, pN, pO, pP, if_true, if_false]); repeat' (first | done | rfl | (refine iteC (fun hq => ?_) (fun hq => ?_) <;> (try (first | (exfalso; omega) | contradiction)) <;> (try simp -implicitDefEqProofs (maxSteps := 4000000) (disch := omega) only [c, getDT, go_sem, *]) <;> (try simp only [pA, pB, pC, pD, pE, pF, pG, pH, pI, pJ, pK, pL, pM, pN, pO, pP, if_true, if_false]))); (all_goals try rfl); (all_goals try (repeat' (first | done | rfl | (exfalso; omega) | contradiction | (refine iteR (fun hq => ?_) (fun hq => ?_)))))
      · have hmore : (a : Int) < t.length := by omega
        (try simp -implicitDefEqProofs (maxSteps := 4000000) (disch := omega) only [c, getDT, go_sem, *]); (try simp only [pA, pB, pC, pD, pE, pF, pG, pH, pI, pJ, pK, pL, pM, pN, pO, pP, if_true, if_false]); repeat' (first | done | rfl | (refine iteC (fun hq => ?_) (fun hq => ?_) <;> (try (first | (exfalso; omega) | contradiction)) <;> (try simp -implicitDefEqProofs (maxSteps := 4000000) (disch := omega) only [c, getDT, go_sem, *]) <;> (try simp only [pA, pB, pC, pD, pE, pF, pG, pH, pI, pJ, pK, pL, pM, pN, pO, pP, if_true, if_false]))); (all_goals try rfl); (all_goals try (repeat' (first | done | rfl | (exfalso; omega) | contradiction | (refine iteR (fun hq => ?_) (fun hq => ?_)))))
  · have e1 := lstep_ok ar ps[j] ((j : Int) + 1) hf.sl (hwj.mono (by omega))
    have e2 := l13step_ok ar ps[j] ((j : Int) + 1) hf.sl (hwj.mono (by omega))
    by_cases hr : (lockStep ar ps[j] ((j : Int) + 1)).2.2 = 0
    · obtain ⟨k1, k2, k3⟩ := lockStep_keep hwj hr
      have hfa : FitA (lockStep ar ps[j] ((j : Int) + 1)).1 := by
        rcases k3 with k3 | ⟨c, o, k3⟩
        · rw [k3]; exact hf
        · rw [k3]; exact fitA_set hf c o
      have hsl := same_Locker (lockStep ar ps[j] ((j : Int) + 1)).2.1 (lockStep ar ps[j] ((j : Int) + 1)).2.1 (by have := k1.c2; omega)
      have hsa := same_Arena _ (lockStep ar ps[j] ((j : Int) + 1)).1 hfa
      have ih1 := ih ⟨i + 1, a2, (lockStep ar ps[j] ((j : Int) + 1)).1, ps.set j (lockStep ar ps[j] ((j : Int) + 1)).2.1⟩ ⟨by simp only; omega, hfa, by simpa using hp, fun q hq => (LWFs.set (fun q hq => (hw q hq).mono (B' := i + 1) (by omega)) k1 q hq).mono (by simp only; omega)⟩ (by simp only; omega)
      rw [hr] at e1 e2
      generalize (lockStep ar ps[j] ((j : Int) + 1)).1 = u at *
      generalize (lockStep ar ps[j] ((j : Int) + 1)).2.1 = x at *
      simp only [decide_true] at hsl hsa
      clear hw hwj k1 k2 k3 hfa hr ih hf
      simp only [Int.natCast_add, Int.natCast_one, Int.natCast_zero, Int.natCast_mul, Int.cast_ofNat_Int, List.length_append, List.length_map, List.map_nil, List.length_nil, List.map_append, List.map_cons, List.length_cons, Nat.zero_add, srcO, mapSet] at ih1
      by_cases c : (i : Int) < 6
      · (try simp -implicitDefEqProofs (maxSteps := 4000000) (disch := omega) only [c, getDT, go_sem, *]); (try simp only [pA, pB, pC, pD, pE, pF, pG, pH, pI, pJ, pK, pL, pM, pN, pO, pP, if_true, if_false]); repeat' (first | done | rfl | (refine iteC (fun hq => ?_) (fun hq => ?_) <;> (try (first | (exfalso; omega) | contradiction)) <;> (try simp -implicitDefEqProofs (maxSteps := 4000000) (disch := omega) only [c, getDT, go_sem, *]) <;> (try simp only [pA, pB, pC, pD, pE, pF, pG, pH, pI, pJ, pK, pL, pM, pN, pO, pP, if_true, if_false]))); (all_goals try rfl); (all_goals try (repeat' (first | done | rfl | (exfalso; omega) | contradiction | (refine iteR (fun hq => ?_) (fun hq => ?_)))))
      · have hmore : (a : Int) < t.length := by omega
        (try simp -implicitDefEqProofs (maxSteps := 4000000) (disch := omega) only [c, getDT, go_sem, *]); (try simp only [pA, pB, pC, pD, pE, pF, pG, pH, pI, pJ, pK, pL, pM, pN, pO, pP, if_true, if_false]); repeat' (first | done | rfl | (refine iteC (fun hq => ?_) (fun hq => ?_) <;> (try (first | (exfalso; omega) | contradiction)) <;> (try simp -implicitDefEqProofs (maxSteps := 4000000) (disch := omega) only [c, getDT, go_sem, *]) <;> (try simp only [pA, pB, pC, pD, pE, pF, pG, pH, pI, pJ, pK, pL, pM, pN, pO, pP, if_true, if_false]))); (all_goals try rfl); (all_goals try (repeat' (first | done | rfl | (exfalso; omega) | contradiction | (refine iteR (fun hq => ?_) (fun hq => ?_)))))
    · obtain ⟨k1, k2⟩ := lockStep_bad (B := 0) hr
      have hsl := same_Locker zLocker zLocker (by decide)
      have hsa := same_Arena zArena zArena fitA_z
      have ih1 := ih ⟨i + 1, a2, ar, ps⟩ ⟨by simp only; omega, hf, hp, fun q hq => (hw q hq).mono (by simp only; omega)⟩ (by simp only; omega)
      rw [k1, k2] at e1 e2
      generalize (lockStep ar ps[j] ((j : Int) + 1)).2.2 = e at *
      simp only [decide_true] at hsl hsa
      clear hw hwj k1 k2 ih hf
      simp only [Int.natCast_add, Int.natCast_one, Int.natCast_zero, Int.natCast_mul, Int.cast_ofNat_Int, List.length_append, List.length_map, List.map_nil, List.length_nil, List.map_append, List.map_cons, List.length_cons, Nat.zero_add, srcO, mapSet] at ih1
      by_cases c : (i : Int) < 6
      · (try simp -implicitDefEqProofs (maxSteps := 4000000) (disch := omega) only [c, getDT, go_sem, *]); (try simp only [pA, pB, pC, pD, pE, pF, pG, pH, pI, pJ, pK, pL, pM, pN, pO, pP, if_true, if_false]); repeat' (first | done | rfl | (refine iteC (fun hq => ?_) (fun hq => ?_) <;> (try (first | (exfalso; omega) | contradiction)) <;> (try simp -implicitDefEqProofs (maxSteps := 4000000) (disch := omega) only [c, getDT, go_sem, *]) <;> (try simp only [pA, pB, pC, pD, pE, pF, pG, pH, pI, pJ, pK, pL, pM, pN, pO, pP, if_true, if_false]))); (all_goals try rfl); (all_goals try (repeat' (first | done | rfl | (exfalso; omega) | contradiction | (refine iteR (fun hq => ?_) (fun hq => ?_)))))
      · have hmore : (a : Int) < t.length := by omega
        (try simp -implicitDefEqProofs (maxSteps := 4000000) (disch := omega) only [c, getDT, go_sem, *]); (try simp only [pA, pB, pC, pD, pE, pF, pG, pH, pI, pJ, pK, pL, pM, pN, pO, pP, if_true, if_false]); repeat' (first | done | rfl | (refine iteC (fun hq => ?_) (fun hq => ?_) <;> (try (first | (exfalso; omega) | contradiction)) <;> (try simp -implicitDefEqProofs (maxSteps := 4000000) (disch := omega) only [c, getDT, go_sem, *]) <;> (try simp only [pA, pB, pC, pD, pE, pF, pG, pH, pI, pJ, pK, pL, pM, pN, pO, pP, if_true, if_false]))); (all_goals try rfl); (all_goals try (repeat' (first | done | rfl | (exfalso; omega) | contradiction | (refine iteR (fun hq => ?_) (fun hq => ?_)))))
end Go.Proofs.Ytkdjbfjohbiemaa

namespace Go.Proofs.Ytkdjbfjohbiemaa
open Go Go.Sim
set_option linter.unusedSimpArgs false
set_option linter.unusedVariables false
set_option maxHeartbeats 10000000
set_option maxRecDepth 40000
theorem arenaN_of {s : Setup} (h : 1 ≤ s.slots ∧ s.slots ≤ 4 ∧ 1 ≤ s.live ∧ s.live ≤ s.slots ∧ 1 ≤ s.capacity ∧ s.capacity ≤ 5 ∧ 1 ≤ s.dead ∧ s.dead ≤ 4 ∧ 1 ≤ s.limit ∧ s.limit ≤ 3 ∧ 0 ≤ s.clock ∧ s.clock ≤ 1073741824 ∧ 1 ≤ s.nextID ∧ s.nextID ≤ 1073741824 ∧ 0 ≤ s.epoch ∧ s.epoch ≤ 65536) :
    arenaNew s = (arenaN s, 0) ∧ FitA (arenaN s) ∧ 1 ≤ (arenaN s).slots.length ∧ (arenaN s).slots.length ≤ 4 ∧ ∀ c : Int, 0 ≤ c → c ≤ (arenaN s).slots.length → owners (arenaN s) c = 0 := by
  have ho : okSetup s = true := by
    simp only [okSetup, inB, Bool.and_eq_true, decide_eq_true_eq]; omega
  have hl : (arenaN s).slots.length = s.slots.toNat := by simp [arenaN, slotsN]
  refine ⟨by unfold arenaNew; rw [if_pos ho], ⟨by omega, fun i hi => ?_, ?_, ?_, ?_, ?_⟩, by omega, by omega, fun c h0 h1 => ?_⟩
  · simp only [arenaN, slotsN, List.getElem_map, List.getElem_range, slotI]
    split <;> exact ⟨by simp [ringN]; omega, by simp, by simp⟩
  · simp [arenaN, stripesN]; omega
  · simp [arenaN]
  · simp [arenaN, dirN, spansN]; omega
  · simp [arenaN, dirN]; omega
  · unfold owners
    split
    · rfl
    · rw [getDT (by omega)]
      simp only [arenaN, slotsN, List.getElem_map, List.getElem_range, slotI]
structure Fresh (n : Nat) (l : Locker) : Prop where
  asc : Asc l.cells n
  one : 1 ≤ l.cells.length
  eq : l = ⟨l.cells, 0, 0, 0, 0⟩
theorem Fresh.wf {n : Nat} {l : Locker} (h : Fresh n l) : LWF 0 l := by
  have h1 := h.one
  have h2 := h.asc.l
  rw [h.eq]
  constructor <;> simp only <;> omega
theorem fresh_append {n : Nat} {ps : List Locker} {cs : List Int} (h : ∀ i (hi : i < ps.length), Fresh n ps[i]) (hc : Asc cs n) (h1 : 1 ≤ cs.length) : ∀ i (hi : i < (ps ++ [(⟨cs, 0, 0, 0, 0⟩ : Locker)]).length), Fresh n (ps ++ [(⟨cs, 0, 0, 0, 0⟩ : Locker)])[i] := by
  intro i hi
  by_cases c : i < ps.length
  · rw [List.getElem_append_left c]; exact h i c
  · have : i = ps.length := by simp at hi; omega
    subst this
    rw [List.getElem_append_right (by omega)]
    simp only [Nat.sub_self, List.getElem_cons_zero]
    exact ⟨hc, h1, rfl⟩
theorem scr0_loop (t : List Int) (ht : t.length ≤ 4000) (ar : Arena) (hn : ar.slots.length ≤ 4) : ∀ s : Nat × Nat × List Locker, s.1 ≤ 3 ∧ s.2.2.length = s.1 ∧ (∀ i (hi : i < s.2.2.length), Fresh ar.slots.length s.2.2[i]) → ∃ (a' : Nat) (ps : List Locker), ps.length = 3 ∧ (∀ i (hi : i < ps.length), Fresh ar.slots.length ps[i]) ∧ loopL G [] l_law13_LockerScript_0 ⟨[(3, .ref 28 0 0), (4, .ref 4 0 0), (6, .ref 6 0 0), (7, .acc 7 (s.2.2.map eLocker)), (8, .acc 8 (s.2.2.map eLocker)), (9, .d (.int .i64 s.1))], [(4, .row [.d (eArena ar)]), (6, .row [.d (eArena ar)]), (7, .acc s.2.2.length), (8, .acc s.2.2.length), (28, srcO t s.2.1)]⟩ = some (.exit 0, ⟨[(3, .ref 28 0 0), (4, .ref 4 0 0), (6, .ref 6 0 0), (7, .acc 7 (ps.map eLocker)), (8, .acc 8 (ps.map eLocker))], [(4, .row [.d (eArena ar)]), (6, .row [.d (eArena ar)]), (7, .acc ps.length), (8, .acc ps.length), (28, srcO t a')]⟩) := by
  refine loop_indP (fun s : Nat × Nat × List Locker => 3 - s.1) _ (fun s : Nat × Nat × List Locker => ⟨[(3, .ref 28 0 0), (4, .ref 4 0 0), (6, .ref 6 0 0), (7, .acc 7 (s.2.2.map eLocker)), (8, .acc 8 (s.2.2.map eLocker)), (9, .d (.int .i64 s.1))], [(4, .row [.d (eArena ar)]), (6, .row [.d (eArena ar)]), (7, .acc s.2.2.length), (8, .acc s.2.2.length), (28, srcO t s.2.1)]⟩) (fun s r => ∃ (a' : Nat) (ps : List Locker), ps.length = 3 ∧ (∀ i (hi : i < ps.length), Fresh ar.slots.length ps[i]) ∧ r = some (.exit 0, ⟨[(3, .ref 28 0 0), (4, .ref 4 0 0), (6, .ref 6 0 0), (7, .acc 7 (ps.map eLocker)), (8, .acc 8 (ps.map eLocker))], [(4, .row [.d (eArena ar)]), (6, .row [.d (eArena ar)]), (7, .acc ps.length), (8, .acc ps.length), (28, srcO t a')]⟩)) fun ⟨i, a, ps⟩ ⟨hi, hl, hf⟩ L ih => ?_
  simp only at hi hl hf ih
  simp only [l_law13_LockerScript_0]
  by_cases h3 : i < 3
  · obtain ⟨cs, a1, hc, h1, hs⟩ := some_ok t a ar.slots.length ht (by omega)
    have e1 := lnew_ok cs (by have := hc.l; omega)
    have e2 := l13new_ok cs (by have := hc.l; omega)
    rw [lockNew_asc hc (by omega) h1] at e1 e2
    have hsl := same_Locker ⟨cs, 0, 0, 0, 0⟩ ⟨cs, 0, 0, 0, 0⟩ (by have := hc.l; simp only; omega)
    simp only [decide_true] at hsl
    obtain ⟨a', qs, q1, q2, q3⟩ := ih (i + 1, a1, ps ++ [⟨cs, 0, 0, 0, 0⟩]) ⟨by simp only; omega, by simp [hl], fresh_append hf hc h1⟩ (by simp only; omega)
    refine ⟨a', qs, q1, q2, ?_⟩
    simp only [Int.natCast_add, Int.natCast_one, Int.natCast_zero, Int.natCast_mul, Int.cast_ofNat_Int, List.length_append, List.length_map, List.map_nil, List.length_nil, List.map_append, List.map_cons, List.length_cons, Nat.zero_add, srcO, mapSet] at q3
    rw [← q3]
    clear ih q3 hf q2 q1
    (try simp -implicitDefEqProofs (maxSteps := 4000000) (disch := omega) only [getDT, go_sem, *]); (try simp only [pA, pB, pC, pD, pE, pF, pG, pH, pI, pJ, pK, pL, pM, pN, pO, pP, if_true, if_false]); repeat' (first | done | rfl | (refine iteC (fun hq => ?_) (fun hq => ?_) <;> (try (first | (exfalso; omega) | contradiction)) <;> (try simp -implicitDefEqProofs (maxSteps := 4000000) (disch := omega) only [getDT, go_sem, *]) <;> (try simp only [pA, pB, pC, pD, pE, pF, pG, pH, pI, pJ, pK, pL, pM, pN, pO, pP, if_true, if_false]))); (all_goals try rfl); (all_goals try (repeat' (first | done | rfl | (exfalso; omega) | contradiction | (refine iteR (fun hq => ?_) (fun hq => ?_)))))
  · refine ⟨a, ps, by omega, hf, ?_⟩
    clear ih hf
    (try simp -implicitDefEqProofs (maxSteps := 4000000) (disch := omega) only [getDT, go_sem, *]); (try simp only [pA, pB, pC, pD, pE, pF, pG, pH, pI, pJ, pK, pL, pM, pN, pO, pP, if_true, if_false]); repeat' (first | done | rfl | (refine iteC (fun hq => ?_) (fun hq => ?_) <;> (try (first | (exfalso; omega) | contradiction)) <;> (try simp -implicitDefEqProofs (maxSteps := 4000000) (disch := omega) only [getDT, go_sem, *]) <;> (try simp only [pA, pB, pC, pD, pE, pF, pG, pH, pI, pJ, pK, pL, pM, pN, pO, pP, if_true, if_false]))); (all_goals try rfl); (all_goals try (repeat' (first | done | rfl | (exfalso; omega) | contradiction | (refine iteR (fun hq => ?_) (fun hq => ?_)))))
theorem lockerScript_law (l : List Int) (hL : l.length ≤ LIM) : callL G N_law13_LockerScript [.d (.sl (ints l))] [] = some (.d (.bool true), []) := by
  obtain ⟨t, ht, hnew⟩ := new_ok2 l hL
  obtain ⟨s, a1, hs, hs1⟩ := setup_ok0 t ht
  have ha := arenaNew_ok s
  obtain ⟨he, hf, hn1, hn4, ho⟩ := arenaN_of hs
  rw [he] at ha
  generalize arenaN s = ar at *
  obtain ⟨a2, ps, hp, hfr, hl0⟩ := scr0_loop t ht ar hn4 (0, a1, []) ⟨by simp, by simp, by simp⟩
  have hl1 := scr_loop t ht ⟨0, a2, ar, ps⟩ ⟨by simp, hf, hp, fun i hi => (hfr i hi).wf⟩
  have hw := awake13_ok
  simp only [scrS, List.map_nil, List.length_nil, hp] at hl0 hl1
  simp only [Int.natCast_add, Int.natCast_one, Int.natCast_zero, Int.natCast_mul, Int.cast_ofNat_Int, List.length_append, List.length_map, List.map_nil, List.length_nil, List.map_append, List.map_cons, List.length_cons, Nat.zero_add, srcO, mapSet] at hl0 hl1
  clear hfr ho hf he hs hn1 hn4
  rw [callL_code g_law13_LockerScript (by simp)]; simp -implicitDefEqProofs (maxSteps := 4000000) (disch := omega) only [c_law13_LockerScript, r_law13_LockerScript, getDT, go_sem, *]; (try simp only [pA, pB, pC, pD, pE, pF, pG, pH, pI, pJ, pK, pL, pM, pN, pO, pP, if_true, if_false]); repeat' (first | done | rfl | (refine iteC (fun hq => ?_) (fun hq => ?_) <;> (try (first | (exfalso; omega) | contradiction)) <;> (try simp -implicitDefEqProofs (maxSteps := 4000000) (disch := omega) only [getDT, go_sem, *]) <;> (try simp only [pA, pB, pC, pD, pE, pF, pG, pH, pI, pJ, pK, pL, pM, pN, pO, pP, if_true, if_false]))); (all_goals try rfl); (all_goals try (repeat' (first | done | rfl | (exfalso; omega) | contradiction | (refine iteR (fun hq => ?_) (fun hq => ?_)))))
end Go.Proofs.Ytkdjbfjohbiemaa

namespace Go.Proofs.Ytkdjbfjohbiemaa
open Go Go.Sim
set_option linter.unusedSimpArgs false
set_option linter.unusedVariables false
set_option maxHeartbeats 10000000
set_option maxRecDepth 40000
theorem owners_set (a : Arena) (c k c' : Int) (h0 : 0 ≤ c) (h1 : c ≤ a.slots.length) (h2 : 0 ≤ c') (h3 : c' ≤ a.slots.length) : owners (setOwner a c k) c' = if c' = c then k else owners a c' := by
  unfold owners
  rw [setOwner_len]
  unfold setOwner
  by_cases e : c = a.slots.length
  · rw [if_pos e]
    by_cases e2 : c' = a.slots.length
    · rw [if_pos e2, if_pos (by omega)]
    · rw [if_neg e2, if_neg e2, if_neg (by omega)]
  · rw [if_neg e]
    by_cases e2 : c' = a.slots.length
    · rw [if_pos e2, if_pos e2, if_neg (by omega)]
    · rw [if_neg e2, if_neg e2]
      have hl : c'.toNat < a.slots.length := by omega
      rw [getDT (by simpa using hl), getDT hl]
      simp only [List.getElem_set]
      by_cases e3 : c' = c
      · subst e3; simp
      · rw [if_neg (by omega), if_neg e3]
/-- The cells that a locker has. -/
def held (l : Locker) : List Int := l.cells.take l.have_.toNat
structure OWN (n : Nat) (B : Int) (a : Arena) (ps : List Locker) : Prop where
  nn : a.slots.length = n
  f : FitA a
  asc : ∀ j (h : j < ps.length), Asc ps[j].cells n
  wf : LWFs B ps
  jj : ∀ c : Int, 0 ≤ c → c ≤ n → ∀ j (h : j < ps.length), (c ∈ held ps[j] ↔ owners a c = (j : Int) + 1)
  rr : ∀ c : Int, 0 ≤ c → c ≤ n → 0 ≤ owners a c ∧ owners a c ≤ ps.length
theorem OWN.mono {n : Nat} {B B' : Int} {a : Arena} {ps : List Locker} (h : OWN n B a ps) (hb : B ≤ B') : OWN n B' a ps := ⟨h.nn, h.f, h.asc, fun i hi => (h.wf i hi).mono hb, h.jj, h.rr⟩
/-- A locker changes that has the same cells as before. -/
theorem OWN.set {n : Nat} {B : Int} {a : Arena} {ps : List Locker} (h : OWN n B a ps) {j : Nat} (hj : j < ps.length) {x : Locker} (hx : LWF B x) (hc : x.cells = ps[j].cells) (hh : held x = held ps[j]) : OWN n B a (ps.set j x) := by
  refine ⟨h.nn, h.f, fun i hi => ?_, LWFs.set h.wf hx, fun c c0 c1 i hi => ?_, fun c c0 c1 => by simpa using h.rr c c0 c1⟩
  · simp only [List.getElem_set]
    split
    · rw [hc]; exact h.asc j hj
    · exact h.asc i (by simpa using hi)
  · simp only [List.getElem_set]
    split
    · rename_i e; subst e; rw [hh]; exact h.jj c c0 c1 j hj
    · exact h.jj c c0 c1 i (by simpa using hi)
theorem OWN.free {n : Nat} {B : Int} {a : Arena} {ps : List Locker} (h : OWN n B a ps) {j : Nat} (hj : j < ps.length) (hp : ps[j].phase = 3) : OWN n B a (ps.set j (lockFree ps[j]).1) := by
  have hk := lockFree_wf (h.wf j hj) hp
  refine h.set hj hk.1 hk.2 ?_
  unfold held lockFree
  rw [if_pos hp]
theorem asc_lt {cs : List Int} {n : Int} (h : Asc cs n) {i j : Nat} (hij : i < j) (hj : j < cs.length) : cs[i] < cs[j] := List.pairwise_iff_getElem.1 h.p i j (by omega) hj hij
theorem mem_take_succ {cs : List Int} {k : Nat} (h : k < cs.length) (c : Int) : c ∈ cs.take (k + 1) ↔ c ∈ cs.take k ∨ c = cs[k] := by
  have : cs.take (k + 1) = cs.take k ++ [cs[k]] := by rw [List.take_append_getElem h]
  rw [this, List.mem_append, List.mem_singleton]
theorem asc_notmem {cs : List Int} {n : Int} (h : Asc cs n) {k : Nat} (hk : k < cs.length) : cs[k] ∉ cs.take k := by
  intro hm
  obtain ⟨i, hi, e⟩ := List.getElem_of_mem hm
  simp only [List.getElem_take, List.length_take] at e hi
  have := asc_lt h (i := i) (j := k) (by omega) hk
  omega
/-- What a step does that is not refused. -/
inductive Did (a : Arena) (l : Locker) (k : Int) : Arena → Locker → Prop
  | got (h0 : l.phase = 0) (hk : l.have_ < l.cells.length) (ho : owners a (l.cells.getD l.have_.toNat 0) = 0) : Did a l k (setOwner a (l.cells.getD l.have_.toNat 0) k) { l with have_ := l.have_ + 1, phase := if l.have_ + 1 = l.cells.length then 3 else 0 }
  | failed (h0 : l.phase = 0) (hk : l.have_ < l.cells.length) (ho : owners a (l.cells.getD l.have_.toNat 0) ≠ 0) : Did a l k a { l with phase := if 0 < l.have_ then 1 else 0 }
  | left (h0 : l.phase = 1 ∨ l.phase = 4) (hk : 1 ≤ l.have_) (ho : owners a (l.cells.getD (l.have_ - 1).toNat 0) = k) : Did a l k (setOwner a (l.cells.getD (l.have_ - 1).toNat 0) 0) (leaveL l)
  | waited (h0 : l.phase = 2) : Did a l k a { l with wait := l.wait - 1, phase := if l.wait - 1 = 0 then 0 else 2 }
theorem held_of (l : Locker) : held l = l.cells.take l.have_.toNat := rfl
theorem own_step {n : Nat} {B : Int} {a : Arena} {ps : List Locker} (h : OWN n B a ps) {j : Nat} (hj : j < ps.length) (h6 : ps.length ≤ 200) (hp : ps[j].phase ≠ 3 ∧ ps[j].phase ≠ 5) :
    (lockStep a ps[j] ((j : Int) + 1)).2.2 = 0 ∧ Did a ps[j] ((j : Int) + 1) (lockStep a ps[j] ((j : Int) + 1)).1 (lockStep a ps[j] ((j : Int) + 1)).2.1 ∧ OWN n (B + 1) (lockStep a ps[j] ((j : Int) + 1)).1 (ps.set j (lockStep a ps[j] ((j : Int) + 1)).2.1) := by
  have hw := h.wf j hj
  have ha := h.asc j hj
  have hn := h.nn
  have htask : taskB ((j : Int) + 1) = true := by unfold taskB inB; simp; omega
  have key : (lockStep a ps[j] ((j : Int) + 1)).2.2 = 0 ∧ Did a ps[j] ((j : Int) + 1) (lockStep a ps[j] ((j : Int) + 1)).1 (lockStep a ps[j] ((j : Int) + 1)).2.1 := by
    obtain ⟨w1, w2, w3, w4, w5, w6, w7, w8, w9, w10, w11, w12, w13⟩ := hw
    unfold lockStep
    by_cases c0 : ps[j].phase = 0
    · have hh := w5 c0
      rw [if_pos c0]
      have hc := ha.b (ps[j].cells.getD ps[j].have_.toNat 0) (by rw [getDT (by omega)]; exact List.getElem_mem _)
      have ht : aTry a (ps[j].cells.getD ps[j].have_.toNat 0) ((j : Int) + 1) = if owners a (ps[j].cells.getD ps[j].have_.toNat 0) = 0 then (setOwner a (ps[j].cells.getD ps[j].have_.toNat 0) ((j : Int) + 1), true, 0) else (a, false, 0) := by
        unfold aTry
        rw [if_neg (by rw [htask, hn]; rintro (q | q | q) <;> first | omega | cases q)]
      unfold lockTry
      rw [ht]
      by_cases c1 : owners a (ps[j].cells.getD ps[j].have_.toNat 0) = 0
      · rw [if_pos c1]
        refine ⟨rfl, ?_⟩
        have := Did.got (k := (j : Int) + 1) c0 hh c1
        simp only [c0, if_true]
        exact this
      · rw [if_neg c1]
        refine ⟨rfl, ?_⟩
        have := Did.failed (k := (j : Int) + 1) c0 hh c1
        simp only [c0, if_true, Bool.false_eq_true, if_false]
        exact this
    rw [if_neg c0]
    by_cases c14 : ps[j].phase = 1 ∨ ps[j].phase = 4
    · have hh : 1 ≤ ps[j].have_ := by rcases c14 with h | h; exact w6 h; exact w9 h
      rw [if_pos c14]
      have hlt : (ps[j].have_ - 1).toNat < ps[j].cells.length := by omega
      have hc := ha.b (ps[j].cells.getD (ps[j].have_ - 1).toNat 0) (by rw [getDT hlt]; exact List.getElem_mem _)
      have ho : owners a (ps[j].cells.getD (ps[j].have_ - 1).toNat 0) = (j : Int) + 1 := by
        refine (h.jj _ hc.1 hc.2 j hj).1 ?_
        rw [held_of, getDT hlt]
        rw [show ps[j].have_.toNat = (ps[j].have_ - 1).toNat + 1 by omega, mem_take_succ hlt]
        exact .inr rfl
      unfold lockLeave
      have ht : aUnlock a (ps[j].cells.getD (ps[j].have_ - 1).toNat 0) ((j : Int) + 1) = (setOwner a (ps[j].cells.getD (ps[j].have_ - 1).toNat 0) 0, 0) := by
        unfold aUnlock
        rw [if_neg (by rw [htask, hn]; rintro (q | q | q) <;> first | omega | cases q), if_pos ho]
      rw [ht]
      exact ⟨rfl, Did.left c14 hh ho⟩
    rw [if_neg c14]
    have c2 : ps[j].phase = 2 := by omega
    rw [if_pos c2]
    exact ⟨rfl, Did.waited c2⟩
  obtain ⟨k1, k2⟩ := key
  obtain ⟨g1, g2, g3⟩ := lockStep_keep hw k1
  refine ⟨k1, k2, ?_⟩
  generalize (lockStep a ps[j] ((j : Int) + 1)).1 = u at *
  generalize (lockStep a ps[j] ((j : Int) + 1)).2.1 = x at *
  have base : held x = held ps[j] → u = a → OWN n (B + 1) u (ps.set j x) := by
    rintro e1 rfl
    exact (h.mono (B' := B + 1) (by omega)).set hj g1 g2 e1
  have hlen : u.slots.length = n := by
    rcases g3 with g3 | ⟨c, o, g3⟩
    · rw [g3]; exact hn
    · rw [g3, setOwner_len]; exact hn
  have hfit : FitA u := by
    rcases g3 with g3 | ⟨c, o, g3⟩
    · rw [g3]; exact h.f
    · rw [g3]; exact fitA_set h.f c o
  have rest : (∀ c : Int, 0 ≤ c → c ≤ n → (c ∈ held x ↔ owners u c = (j : Int) + 1)) → (∀ c : Int, 0 ≤ c → c ≤ n → ∀ i, i < ps.length → i ≠ j → (owners u c = (i : Int) + 1 ↔ owners a c = (i : Int) + 1)) → (∀ c : Int, 0 ≤ c → c ≤ n → 0 ≤ owners u c ∧ owners u c ≤ ps.length) → OWN n (B + 1) u (ps.set j x) := by
    intro r1 r2 r3
    refine ⟨hlen, hfit, fun i hi => ?_, LWFs.set (fun q hq => (h.wf q hq).mono (by omega)) g1, fun c c0 c1 i hi => ?_, fun c c0 c1 => by simpa using r3 c c0 c1⟩
    · simp only [List.getElem_set]
      split
      · rw [g2]; exact ha
      · exact h.asc i (by simpa using hi)
    · simp only [List.getElem_set]
      split
      · rename_i e; subst e; exact r1 c c0 c1
      · rename_i e
        have hi : i < ps.length := by simpa using hi
        rw [r2 c c0 c1 i hi (by omega)]
        exact h.jj c c0 c1 i hi
  cases k2 with
  | got h0 hk ho =>
    have hlt : ps[j].have_.toNat < ps[j].cells.length := by have := hw.h0; omega
    have hc := ha.b (ps[j].cells.getD ps[j].have_.toNat 0) (by rw [getDT hlt]; exact List.getElem_mem _)
    have hos := fun (c : Int) (h0 : 0 ≤ c) (h1 : c ≤ n) => owners_set a (ps[j].cells.getD ps[j].have_.toNat 0) ((j : Int) + 1) c hc.1 (by rw [hn]; exact hc.2) h0 (by rw [hn]; exact h1)
    refine rest (fun c c0 c1 => ?_) (fun c c0 c1 i hi hne => ?_) (fun c c0 c1 => ?_)
    · rw [hos c c0 c1]
      have := h.jj c c0 c1 j hj
      rw [held_of] at this ⊢
      simp only
      rw [show (ps[j].have_ + 1).toNat = ps[j].have_.toNat + 1 by have := hw.h0; omega, mem_take_succ hlt, this, getDT hlt]
      by_cases e : c = ps[j].cells[ps[j].have_.toNat]
      · rw [if_pos e]; exact ⟨fun _ => rfl, fun _ => .inr e⟩
      · rw [if_neg e]; exact ⟨fun q => q.resolve_right e, .inl⟩
    · rw [hos c c0 c1]
      by_cases e : c = ps[j].cells.getD ps[j].have_.toNat 0
      · rw [if_pos e, e, ho]; constructor <;> intro q <;> omega
      · rw [if_neg e]
    · rw [hos c c0 c1]
      have := h.rr c c0 c1
      split <;> omega
  | failed h0 hk ho => exact base rfl rfl
  | waited h0 => exact base rfl rfl
  | left h0 hk ho =>
    have hlt : (ps[j].have_ - 1).toNat < ps[j].cells.length := by have := hw.h1; omega
    have hc := ha.b (ps[j].cells.getD (ps[j].have_ - 1).toNat 0) (by rw [getDT hlt]; exact List.getElem_mem _)
    have hos := fun (c : Int) (h0 : 0 ≤ c) (h1 : c ≤ n) => owners_set a (ps[j].cells.getD (ps[j].have_ - 1).toNat 0) 0 c hc.1 (by rw [hn]; exact hc.2) h0 (by rw [hn]; exact h1)
    have hhx : held (leaveL ps[j]) = ps[j].cells.take (ps[j].have_ - 1).toNat := by
      unfold held leaveL
      split
      · rfl
      · split <;> rfl
    refine rest (fun c c0 c1 => ?_) (fun c c0 c1 i hi hne => ?_) (fun c c0 c1 => ?_)
    · rw [hos c c0 c1, hhx]
      have := h.jj c c0 c1 j hj
      rw [held_of, show ps[j].have_.toNat = (ps[j].have_ - 1).toNat + 1 by omega, mem_take_succ hlt] at this
      have hnm := asc_notmem ha hlt
      rw [getDT hlt] at hos ho ⊢
      by_cases e : c = ps[j].cells[(ps[j].have_ - 1).toNat]
      · rw [if_pos e]
        constructor
        · intro q; rw [e] at q; exact absurd q hnm
        · intro q; omega
      · rw [if_neg e, ← this]
        exact ⟨.inl, fun q => q.resolve_right e⟩
    · rw [hos c c0 c1]
      by_cases e : c = ps[j].cells.getD (ps[j].have_ - 1).toNat 0
      · rw [if_pos e, e, ho]; constructor <;> intro q <;> omega
      · rw [if_neg e]
    · rw [hos c c0 c1]
      have := h.rr c c0 c1
      split <;> omega
theorem own_first {n : Nat} {a : Arena} {ps : List Locker} (hn : a.slots.length = n) (hf : FitA a) (ho : ∀ c : Int, 0 ≤ c → c ≤ a.slots.length → owners a c = 0) (hp : ∀ i (hi : i < ps.length), Fresh n ps[i]) : OWN n 0 a ps := by
  refine ⟨hn, hf, fun j h => (hp j h).asc, fun j h => (hp j h).wf, fun c c0 c1 j h => ?_, fun c c0 c1 => by rw [ho c c0 (by rw [hn]; exact c1)]; omega⟩
  rw [ho c c0 (by rw [hn]; exact c1), held_of, (hp j h).eq]
  simp only [Int.toNat_zero, List.take_zero, List.not_mem_nil, false_iff]
  omega
end Go.Proofs.Ytkdjbfjohbiemaa

namespace Go.Proofs.Ytkdjbfjohbiemaa
open Go Go.Sim
set_option linter.unusedSimpArgs false
set_option linter.unusedVariables false
set_option maxHeartbeats 10000000
set_option maxRecDepth 40000
def ordS (t : List Int) (a : Nat) (ar : Arena) (ps : List Locker) (i : Nat) (E : Env) : St := ⟨(3, .ref 22 0 0) :: (4, .ref 4 0 0) :: (6, .osl 6 0 3) :: (10, .d (.int .i64 i)) :: E, [(4, .row [.d (eArena ar)]), (6, .row ((ps.map eLocker).map .d)), (22, srcO t a)]⟩
theorem ord_loop1 (t : List Int) (a : Nat) (ar : Arena) (ps : List Locker) (i : Nat) (hp : ps.length = 3) (c j : Nat) (hj : j < ps.length) (w : Int) (hw : LWF 1000 ps[j]) : ∀ s : Nat × Int, s.1 ≤ 3 ∧ (s.1 : Int) ≤ ps[j].have_ ∧ s.2 = (if (c : Int) ∈ ps[j].cells.take s.1 then (j : Int) + 1 else w) → loopL G [] l_law13_LockerOrder_1 (ordS t a ar ps i [(17, .d (.int .i64 c)), (18, .d (.int .i64 s.2)), (19, .d (.int .i64 j)), (20, .d (.int .i64 s.1))]) = some (.exit 8, ordS t a ar ps i [(17, .d (.int .i64 c)), (18, .d (.int .i64 (if (c : Int) ∈ held ps[j] then (j : Int) + 1 else w))), (19, .d (.int .i64 j))]) := by
  refine loop_ind (fun s : Nat × Int => 3 - s.1) _ (fun s : Nat × Int => ordS t a ar ps i [(17, .d (.int .i64 c)), (18, .d (.int .i64 s.2)), (19, .d (.int .i64 j)), (20, .d (.int .i64 s.1))]) _ fun ⟨h, v⟩ ⟨h3, hh, hv⟩ L ih => ?_
  simp only at h3 hh hv
  simp only [ordS] at ih ⊢
  simp only [l_law13_LockerOrder_1]
  have w1 := hw.h1
  have w2 := hw.c2
  have w0 := hw.h0
  by_cases h1 : (h : Int) < ps[j].have_
  · have hlt : h < ps[j].cells.length := by omega
    have hm := mem_take_succ hlt (c : Int)
    by_cases e : ps[j].cells[h] = (c : Int)
    · have i1 := ih (h + 1, (j : Int) + 1) ⟨by simp only; omega, by simp only; omega, by simp only; rw [if_pos (hm.2 (.inr e.symm))]⟩ (by simp only; omega)
      simp only at i1
      simp only [Int.natCast_add, Int.natCast_one, Int.natCast_zero, Int.natCast_mul, Int.cast_ofNat_Int, List.length_append, List.length_map, List.map_nil, List.length_nil, List.map_append, List.map_cons, List.length_cons, Nat.zero_add, srcO, mapSet] at i1
      clear ih hm hv hw
      (try simp -implicitDefEqProofs (maxSteps := 4000000) (disch := omega) only [getDT, go_sem, *]); (try simp only [pA, pB, pC, pD, pE, pF, pG, pH, pI, pJ, pK, pL, pM, pN, pO, pP, if_true, if_false]); repeat' (first | done | rfl | (refine iteC (fun hq => ?_) (fun hq => ?_) <;> (try (first | (exfalso; omega) | contradiction)) <;> (try simp -implicitDefEqProofs (maxSteps := 4000000) (disch := omega) only [getDT, go_sem, *]) <;> (try simp only [pA, pB, pC, pD, pE, pF, pG, pH, pI, pJ, pK, pL, pM, pN, pO, pP, if_true, if_false]))); (all_goals try rfl); (all_goals try (repeat' (first | done | rfl | (exfalso; omega) | contradiction | (refine iteR (fun hq => ?_) (fun hq => ?_)))))
    · have i1 := ih (h + 1, v) ⟨by simp only; omega, by simp only; omega, by
        simp only; rw [hv]
        by_cases q : (c : Int) ∈ ps[j].cells.take h
        · rw [if_pos q, if_pos (hm.2 (.inl q))]
        · rw [if_neg q, if_neg (fun x => (hm.1 x).elim q (fun y => e y.symm))]⟩ (by simp only; omega)
      simp only at i1
      simp only [Int.natCast_add, Int.natCast_one, Int.natCast_zero, Int.natCast_mul, Int.cast_ofNat_Int, List.length_append, List.length_map, List.map_nil, List.length_nil, List.map_append, List.map_cons, List.length_cons, Nat.zero_add, srcO, mapSet] at i1
      clear ih hm hv hw
      (try simp -implicitDefEqProofs (maxSteps := 4000000) (disch := omega) only [getDT, go_sem, *]); (try simp only [pA, pB, pC, pD, pE, pF, pG, pH, pI, pJ, pK, pL, pM, pN, pO, pP, if_true, if_false]); repeat' (first | done | rfl | (refine iteC (fun hq => ?_) (fun hq => ?_) <;> (try (first | (exfalso; omega) | contradiction)) <;> (try simp -implicitDefEqProofs (maxSteps := 4000000) (disch := omega) only [getDT, go_sem, *]) <;> (try simp only [pA, pB, pC, pD, pE, pF, pG, pH, pI, pJ, pK, pL, pM, pN, pO, pP, if_true, if_false]))); (all_goals try rfl); (all_goals try (repeat' (first | done | rfl | (exfalso; omega) | contradiction | (refine iteR (fun hq => ?_) (fun hq => ?_)))))
  · have e : held ps[j] = ps[j].cells.take h := by
      unfold held; rw [show ps[j].have_.toNat = h by omega]
    rw [e, ← hv]
    clear ih hv hw
    (try simp -implicitDefEqProofs (maxSteps := 4000000) (disch := omega) only [getDT, go_sem, *]); (try simp only [pA, pB, pC, pD, pE, pF, pG, pH, pI, pJ, pK, pL, pM, pN, pO, pP, if_true, if_false]); repeat' (first | done | rfl | (refine iteC (fun hq => ?_) (fun hq => ?_) <;> (try (first | (exfalso; omega) | contradiction)) <;> (try simp -implicitDefEqProofs (maxSteps := 4000000) (disch := omega) only [getDT, go_sem, *]) <;> (try simp only [pA, pB, pC, pD, pE, pF, pG, pH, pI, pJ, pK, pL, pM, pN, pO, pP, if_true, if_false]))); (all_goals try rfl); (all_goals try (repeat' (first | done | rfl | (exfalso; omega) | contradiction | (refine iteR (fun hq => ?_) (fun hq => ?_)))))
theorem ord_loop2 (t : List Int) (a : Nat) (ar : Arena) (ps : List Locker) (i : Nat) (hp : ps.length = 3) (c : Nat) (o : Int) (hw : LWFs 1000 ps) (ho : 0 ≤ o ∧ o ≤ 3) (hJ : ∀ j (h : j < ps.length), ((c : Int) ∈ held ps[j] ↔ o = (j : Int) + 1)) : ∀ j : Nat, j ≤ 3 → loopL G [] l_law13_LockerOrder_2 (ordS t a ar ps i [(17, .d (.int .i64 c)), (18, .d (.int .i64 (if o ≤ j then o else 0))), (19, .d (.int .i64 j))]) = some (.exit 6, ordS t a ar ps i [(17, .d (.int .i64 c)), (18, .d (.int .i64 o))]) := by
  refine loop_ind (fun j : Nat => 3 - j) _ (fun j : Nat => ordS t a ar ps i [(17, .d (.int .i64 c)), (18, .d (.int .i64 (if o ≤ j then o else 0))), (19, .d (.int .i64 j))]) _ fun j h3 L ih => ?_
  by_cases h1 : j < 3
  · have i1 := ih (j + 1) (by omega) (by omega)
    have hl := ord_loop1 t a ar ps i hp c j (by omega) (if o ≤ j then o else 0) (hw j (by omega)) (0, if o ≤ j then o else 0) ⟨by simp, (hw j (by omega)).h0, by simp⟩
    have e : (if (c : Int) ∈ held (ps[j]'(by omega)) then (j : Int) + 1 else if o ≤ j then o else 0) = if o ≤ ((j + 1 : Nat) : Int) then o else 0 := by
      by_cases q : (c : Int) ∈ held (ps[j]'(by omega))
      · rw [if_pos q]
        have := (hJ j (by omega)).1 q
        rw [if_pos (by omega), this]
      · rw [if_neg q]
        have : ¬ o = (j : Int) + 1 := fun x => q ((hJ j (by omega)).2 x)
        by_cases q2 : o ≤ j
        · rw [if_pos q2, if_pos (by omega)]
        · rw [if_neg q2, if_neg (by omega)]
    rw [e] at hl
    clear ih hJ hw e
    generalize (if o ≤ ((j + 1 : Nat) : Int) then o else 0) = v at *
    generalize (if o ≤ (j : Int) then o else 0) = v0 at *
    simp only [ordS] at i1 hl ⊢
    simp only [l_law13_LockerOrder_2]
    simp only [Int.natCast_add, Int.natCast_one, Int.natCast_zero, Int.natCast_mul, Int.cast_ofNat_Int, List.length_append, List.length_map, List.map_nil, List.length_nil, List.map_append, List.map_cons, List.length_cons, Nat.zero_add, srcO, mapSet] at i1 hl
    (try simp -implicitDefEqProofs (maxSteps := 4000000) (disch := omega) only [getDT, go_sem, *]); (try simp only [pA, pB, pC, pD, pE, pF, pG, pH, pI, pJ, pK, pL, pM, pN, pO, pP, if_true, if_false]); repeat' (first | done | rfl | (refine iteC (fun hq => ?_) (fun hq => ?_) <;> (try (first | (exfalso; omega) | contradiction)) <;> (try simp -implicitDefEqProofs (maxSteps := 4000000) (disch := omega) only [getDT, go_sem, *]) <;> (try simp only [pA, pB, pC, pD, pE, pF, pG, pH, pI, pJ, pK, pL, pM, pN, pO, pP, if_true, if_false]))); (all_goals try rfl); (all_goals try (repeat' (first | done | rfl | (exfalso; omega) | contradiction | (refine iteR (fun hq => ?_) (fun hq => ?_)))))
  · have : j = 3 := by omega
    subst this
    rw [if_pos (by omega)]
    clear ih hJ hw
    simp only [ordS]
    simp only [l_law13_LockerOrder_2]
    (try simp -implicitDefEqProofs (maxSteps := 4000000) (disch := omega) only [getDT, go_sem, *]); (try simp only [pA, pB, pC, pD, pE, pF, pG, pH, pI, pJ, pK, pL, pM, pN, pO, pP, if_true, if_false]); repeat' (first | done | rfl | (refine iteC (fun hq => ?_) (fun hq => ?_) <;> (try (first | (exfalso; omega) | contradiction)) <;> (try simp -implicitDefEqProofs (maxSteps := 4000000) (disch := omega) only [getDT, go_sem, *]) <;> (try simp only [pA, pB, pC, pD, pE, pF, pG, pH, pI, pJ, pK, pL, pM, pN, pO, pP, if_true, if_false]))); (all_goals try rfl); (all_goals try (repeat' (first | done | rfl | (exfalso; omega) | contradiction | (refine iteR (fun hq => ?_) (fun hq => ?_)))))
theorem ord_loop3 (t : List Int) (a : Nat) (ar : Arena) (ps : List Locker) (i n : Nat) (hn4 : n ≤ 4) (hp : ps.length = 3) (h : OWN n 1000 ar ps) : ∀ c : Nat, c ≤ n + 1 → loopL G [] l_law13_LockerOrder_3 (ordS t a ar ps i [(17, .d (.int .i64 c))]) = some (.exit 4, ordS t a ar ps i []) := by
  refine loop_ind (fun c : Nat => n + 1 - c) _ (fun c : Nat => ordS t a ar ps i [(17, .d (.int .i64 c))]) _ fun c h3 L ih => ?_
  have hn := h.nn
  by_cases h1 : c ≤ n
  · have i1 := ih (c + 1) (by omega) (by omega)
    have hr := h.rr c (by omega) (by omega)
    have hl := ord_loop2 t a ar ps i hp c (owners ar c) h.wf (by omega) (fun j hj => h.jj c (by omega) (by omega) j hj) 0 (by omega)
    have hw := owner12_ok ar c (by omega) (by omega) (by omega)
    have e : (if owners ar c ≤ ((0 : Nat) : Int) then owners ar c else 0) = 0 := by split <;> omega
    rw [e] at hl
    clear ih h e
    simp only [ordS] at i1 hl ⊢
    simp only [l_law13_LockerOrder_3]
    simp only [Int.natCast_add, Int.natCast_one, Int.natCast_zero, Int.natCast_mul, Int.cast_ofNat_Int, List.length_append, List.length_map, List.map_nil, List.length_nil, List.map_append, List.map_cons, List.length_cons, Nat.zero_add, srcO, mapSet] at i1 hl
    (try simp -implicitDefEqProofs (maxSteps := 4000000) (disch := omega) only [getDT, go_sem, *]); (try simp only [pA, pB, pC, pD, pE, pF, pG, pH, pI, pJ, pK, pL, pM, pN, pO, pP, if_true, if_false]); repeat' (first | done | rfl | (refine iteC (fun hq => ?_) (fun hq => ?_) <;> (try (first | (exfalso; omega) | contradiction)) <;> (try simp -implicitDefEqProofs (maxSteps := 4000000) (disch := omega) only [getDT, go_sem, *]) <;> (try simp only [pA, pB, pC, pD, pE, pF, pG, pH, pI, pJ, pK, pL, pM, pN, pO, pP, if_true, if_false]))); (all_goals try rfl); (all_goals try (repeat' (first | done | rfl | (exfalso; omega) | contradiction | (refine iteR (fun hq => ?_) (fun hq => ?_)))))
  · have : c = n + 1 := by omega
    subst this
    clear ih h
    simp only [ordS]
    simp only [l_law13_LockerOrder_3]
    (try simp -implicitDefEqProofs (maxSteps := 4000000) (disch := omega) only [getDT, go_sem, *]); (try simp only [pA, pB, pC, pD, pE, pF, pG, pH, pI, pJ, pK, pL, pM, pN, pO, pP, if_true, if_false]); repeat' (first | done | rfl | (refine iteC (fun hq => ?_) (fun hq => ?_) <;> (try (first | (exfalso; omega) | contradiction)) <;> (try simp -implicitDefEqProofs (maxSteps := 4000000) (disch := omega) only [getDT, go_sem, *]) <;> (try simp only [pA, pB, pC, pD, pE, pF, pG, pH, pI, pJ, pK, pL, pM, pN, pO, pP, if_true, if_false]))); (all_goals try rfl); (all_goals try (repeat' (first | done | rfl | (exfalso; omega) | contradiction | (refine iteR (fun hq => ?_) (fun hq => ?_)))))
theorem ord_loop4 (t : List Int) (ht : t.length ≤ 4000) (n : Nat) (hn4 : n ≤ 4) : ∀ s : ScrT, (s.i ≤ 60 ∧ s.ps.length = 3 ∧ OWN n s.i s.ar s.ps) → loopL G [] l_law13_LockerOrder_4 (ordS t s.a s.ar s.ps s.i []) = some (.exit 2, ⟨[], []⟩) := by
  refine loop_ind (fun s : ScrT => 60 - s.i) _ (fun s => ordS t s.a s.ar s.ps s.i []) _ fun ⟨i, a, ar, ps⟩ ⟨hi, hp, hO⟩ L ih => ?_
  simp only at hi hp hO
  simp only [ordS] at ih ⊢
  simp only [l_law13_LockerOrder_4]
  have hm := more_ok t a ht
  by_cases h60 : i < 60 ∧ (i < 6 ∨ (a : Int) < t.length)
  rotate_left
  · clear ih
    by_cases c : i < 60
    · (try simp -implicitDefEqProofs (maxSteps := 4000000) (disch := omega) only [c, getDT, go_sem, *]); (try simp only [pA, pB, pC, pD, pE, pF, pG, pH, pI, pJ, pK, pL, pM, pN, pO, pP, if_true, if_false]); repeat' (first | done | rfl | (refine iteC (fun hq => ?_) (fun hq => ?_) <;> (try (first | (exfalso; omega) | contradiction)) <;> (try simp -implicitDefEqProofs (maxSteps := 4000000) (disch := omega) only [c, getDT, go_sem, *]) <;> (try simp only [pA, pB, pC, pD, pE, pF, pG, pH, pI, pJ, pK, pL, pM, pN, pO, pP, if_true, if_false]))); (all_goals try rfl); (all_goals try (repeat' (first | done | rfl | (exfalso; omega) | contradiction | (refine iteR (fun hq => ?_) (fun hq => ?_)))))
    · (try simp -implicitDefEqProofs (maxSteps := 4000000) (disch := omega) only [c, getDT, go_sem, *]); (try simp only [pA, pB, pC, pD, pE, pF, pG, pH, pI, pJ, pK, pL, pM, pN, pO, pP, if_true, if_false]); repeat' (first | done | rfl | (refine iteC (fun hq => ?_) (fun hq => ?_) <;> (try (first | (exfalso; omega) | contradiction)) <;> (try simp -implicitDefEqProofs (maxSteps := 4000000) (disch := omega) only [c, getDT, go_sem, *]) <;> (try simp only [pA, pB, pC, pD, pE, pF, pG, pH, pI, pJ, pK, pL, pM, pN, pO, pP, if_true, if_false]))); (all_goals try rfl); (all_goals try (repeat' (first | done | rfl | (exfalso; omega) | contradiction | (refine iteR (fun hq => ?_) (fun hq => ?_)))))
  obtain ⟨h60, hmore⟩ := h60
  have h3 := n_ok t a 3 ht (by omega) (by omega)
  have h0 : 0 ≤ nD t a 3 ∧ nD t a 3 < 3 := nD_in t a (by omega)
  generalize (rawD t a).2 = a1 at h3
  obtain ⟨k, hk⟩ : ∃ k : Nat, nD t a 3 = k := ⟨(nD t a 3).toNat, by omega⟩
  rw [hk] at h3 h0
  have hk3 : k < ps.length := by omega
  -- the locker gives its cells back, where it has them all
  have key : ∀ qs : List Locker, qs.length = 3 → OWN n i ar qs → (hk4 : k < qs.length) → qs[k].phase ≠ 3 →
      ((qs[k].phase = 5 ∧ callL G N_locker_Step [.d (eArena ar), .d (eLocker qs[k]), .d (.int .i64 ((k : Int) + 1))] [] = some (.d (.tup [eArena zArena, eLocker zLocker, .int .i64 7]), [])) ∨
       (∃ u x, callL G N_locker_Step [.d (eArena ar), .d (eLocker qs[k]), .d (.int .i64 ((k : Int) + 1))] [] = some (.d (.tup [eArena u, eLocker x, .int .i64 0]), []) ∧ OWN n (i + 1) u (qs.set k x))) := by
    intro qs hq3 hq hk4 hph
    have hw := hq.wf k hk4
    have es := lstep_ok ar qs[k] ((k : Int) + 1) (by have := hq.nn; omega) (hw.mono (by omega))
    by_cases c5 : qs[k].phase = 5
    · left
      refine ⟨c5, ?_⟩
      rw [es]
      unfold lockStep
      rw [if_neg (by omega), if_neg (by omega), if_neg (by omega)]
    · right
      obtain ⟨g1, g2, g3⟩ := own_step hq hk4 (by omega) ⟨hph, c5⟩
      rw [g1] at es
      exact ⟨_, _, es, g3⟩
  have i0 : OWN n (i + 1) ar ps → L (ordS t a1 ar ps (i + 1) []) = some (.exit 2, ⟨[], []⟩) := fun h => ih ⟨i + 1, a1, ar, ps⟩ ⟨by simp only; omega, hp, h⟩ (by simp only; omega)
  have i1 : ∀ u (qs : List Locker), qs.length = 3 → OWN n (i + 1) u qs → L (ordS t a1 u qs (i + 1) []) = some (.exit 2, ⟨[], []⟩) := fun u qs h1 h2 => ih ⟨i + 1, a1, u, qs⟩ ⟨by simp only; omega, h1, h2⟩ (by simp only; omega)
  clear ih
  by_cases hp3 : ps[k].phase = 3
  · have e1 := lfree_ok ps[k]
    have hfr := hO.free hk3 hp3
    have e0 : (lockFree ps[k]).2 = 0 := by unfold lockFree; rw [if_pos hp3]
    have e4 : (lockFree ps[k]).1.phase = 4 := by unfold lockFree; rw [if_pos hp3]
    rw [e0] at e1
    generalize (lockFree ps[k]).1 = y at *
    have hg : (ps.set k y)[k]'(by simpa using hk3) = y := by simp
    rcases key (ps.set k y) (by simpa using hp) hfr (by simpa using hk3) (by rw [hg]; omega) with ⟨c5, _⟩ | ⟨u, x, es, hO2⟩
    · rw [hg] at c5; omega
    · rw [hg] at es
      rw [List.set_set] at hO2
      have i2 := i1 u (ps.set k x) (by simpa using hp) hO2
      have hl := ord_loop3 t a1 u (ps.set k x) i n hn4 (by simpa using hp) (hO2.mono (by omega)) 0 (by omega)
      have hst : ((List.map eLocker ps).set k (eLocker y)).set k (eLocker x) = (List.map eLocker ps).set k (eLocker x) := by rw [List.set_set]
      have hgt : ((List.map eLocker ps).set k (eLocker y))[k]? = some (eLocker y) := by simp [hk3]
      have hgt2 : (List.map AV.d ((List.map eLocker ps).set k (eLocker y)))[k]? = some (.d (eLocker y)) := by simp [hk3]
      clear key i0 i1 hO hfr hO2 hg
      simp only [ordS] at i2 hl
      simp only [Int.natCast_add, Int.natCast_one, Int.natCast_zero, Int.natCast_mul, Int.cast_ofNat_Int, List.length_append, List.length_map, List.map_nil, List.length_nil, List.map_append, List.map_cons, List.length_cons, Nat.zero_add, srcO, mapSet] at i2 hl
      by_cases c : (i : Int) < 6
      · (try simp -implicitDefEqProofs (maxSteps := 4000000) (disch := omega) only [c, getDT, go_sem, *]); (try simp only [pA, pB, pC, pD, pE, pF, pG, pH, pI, pJ, pK, pL, pM, pN, pO, pP, if_true, if_false]); repeat' (first | done | rfl | (refine iteC (fun hq => ?_) (fun hq => ?_) <;> (try (first | (exfalso; omega) | contradiction)) <;> (try simp -implicitDefEqProofs (maxSteps := 4000000) (disch := omega) only [c, getDT, go_sem, *]) <;> (try simp only [pA, pB, pC, pD, pE, pF, pG, pH, pI, pJ, pK, pL, pM, pN, pO, pP, if_true, if_false]))); (all_goals try rfl); (all_goals try (repeat' (first | done | rfl | (exfalso; omega) | contradiction | (refine iteR (fun hq => ?_) (fun hq => ?_)))))
      · have hmore : (a : Int) < t.length := by omega
        (try simp -implicitDefEqProofs (maxSteps := 4000000) (disch := omega) only [c, getDT, go_sem, *]); (try simp only [pA, pB, pC, pD, pE, pF, pG, pH, pI, pJ, pK, pL, pM, pN, pO, pP, if_true, if_false]); repeat' (first | done | rfl | (refine iteC (fun hq => ?_) (fun hq => ?_) <;> (try (first | (exfalso; omega) | contradiction)) <;> (try simp -implicitDefEqProofs (maxSteps := 4000000) (disch := omega) only [c, getDT, go_sem, *]) <;> (try simp only [pA, pB, pC, pD, pE, pF, pG, pH, pI, pJ, pK, pL, pM, pN, pO, pP, if_true, if_false]))); (all_goals try rfl); (all_goals try (repeat' (first | done | rfl | (exfalso; omega) | contradiction | (refine iteR (fun hq => ?_) (fun hq => ?_)))))
  · rcases key ps hp hO hk3 hp3 with ⟨c5, es⟩ | ⟨u, x, es, hO2⟩
    · have i2 := i0 (hO.mono (by omega))
      clear key i0 i1 hO
      simp only [ordS] at i2
      simp only [Int.natCast_add, Int.natCast_one, Int.natCast_zero, Int.natCast_mul, Int.cast_ofNat_Int, List.length_append, List.length_map, List.map_nil, List.length_nil, List.map_append, List.map_cons, List.length_cons, Nat.zero_add, srcO, mapSet] at i2
      by_cases c : (i : Int) < 6
      · (try simp -implicitDefEqProofs (maxSteps := 4000000) (disch := omega) only [c, getDT, go_sem, *]); (try simp only [pA, pB, pC, pD, pE, pF, pG, pH, pI, pJ, pK, pL, pM, pN, pO, pP, if_true, if_false]); repeat' (first | done | rfl | (refine iteC (fun hq => ?_) (fun hq => ?_) <;> (try (first | (exfalso; omega) | contradiction)) <;> (try simp -implicitDefEqProofs (maxSteps := 4000000) (disch := omega) only [c, getDT, go_sem, *]) <;> (try simp only [pA, pB, pC, pD, pE, pF, pG, pH, pI, pJ, pK, pL, pM, pN, pO, pP, if_true, if_false]))); (all_goals try rfl); (all_goals try (repeat' (first | done | rfl | (exfalso; omega) | contradiction | (refine iteR (fun hq => ?_) (fun hq => ?_)))))
      · have hmore : (a : Int) < t.length := by omega
        (try simp -implicitDefEqProofs (maxSteps := 4000000) (disch := omega) only [c, getDT, go_sem, *]); (try simp only [pA, pB, pC, pD, pE, pF, pG, pH, pI, pJ, pK, pL, pM, pN, pO, pP, if_true, if_false]); repeat' (first | done | rfl | (refine iteC (fun hq => ?_) (fun hq => ?_) <;> (try (first | (exfalso; omega) | contradiction)) <;> (try simp -implicitDefEqProofs (maxSteps := 4000000) (disch := omega) only [c, getDT, go_sem, *]) <;> (try simp only [pA, pB, pC, pD, pE, pF, pG, pH, pI, pJ, pK, pL, pM, pN, pO, pP, if_true, if_false]))); (all_goals try rfl); (all_goals try (repeat' (first | done | rfl | (exfalso; omega) | contradiction | (refine iteR (fun hq => ?_) (fun hq => ?_)))))
    · have i2 := i1 u (ps.set k x) (by simpa using hp) hO2
      have hl := ord_loop3 t a1 u (ps.set k x) i n hn4 (by simpa using hp) (hO2.mono (by omega)) 0 (by omega)
      clear key i0 i1 hO hO2
      simp only [ordS] at i2 hl
      simp only [Int.natCast_add, Int.natCast_one, Int.natCast_zero, Int.natCast_mul, Int.cast_ofNat_Int, List.length_append, List.length_map, List.map_nil, List.length_nil, List.map_append, List.map_cons, List.length_cons, Nat.zero_add, srcO, mapSet] at i2 hl
      by_cases c : (i : Int) < 6
      · (try simp -implicitDefEqProofs (maxSteps := 4000000) (disch := omega) only [c, getDT, go_sem, *]); (try simp only [pA, pB, pC, pD, pE, pF, pG, pH, pI, pJ, pK, pL, pM, pN, pO, pP, if_true, if_false]); repeat' (first | done | rfl | (refine iteC (fun hq => ?_) (fun hq => ?_) <;> (try (first | (exfalso; omega) | contradiction)) <;> (try simp -implicitDefEqProofs (maxSteps := 4000000) (disch := omega) only [c, getDT, go_sem, *]) <;> (try simp only [pA, pB, pC, pD, pE, pF, pG, pH, pI, pJ, pK, pL, pM, pN, pO, pP, if_true, if_false]))); (all_goals try rfl); (all_goals try (repeat' (first | done | rfl | (exfalso; omega) | contradiction | (refine iteR (fun hq => ?_) (fun hq => ?_)))))
      · have hmore : (a : Int) < t.length := by omega
        (try simp -implicitDefEqProofs (maxSteps := 4000000) (disch := omega) only [c, getDT, go_sem, *]); (try simp only [pA, pB, pC, pD, pE, pF, pG, pH, pI, pJ, pK, pL, pM, pN, pO, pP, if_true, if_false]); repeat' (first | done | rfl | (refine iteC (fun hq => ?_) (fun hq => ?_) <;> (try (first | (exfalso; omega) | contradiction)) <;> (try simp -implicitDefEqProofs (maxSteps := 4000000) (disch := omega) only [c, getDT, go_sem, *]) <;> (try simp only [pA, pB, pC, pD, pE, pF, pG, pH, pI, pJ, pK, pL, pM, pN, pO, pP, if_true, if_false]))); (all_goals try rfl); (all_goals try (repeat' (first | done | rfl | (exfalso; omega) | contradiction | (refine iteR (fun hq => ?_) (fun hq => ?_)))))
theorem ord0_loop (t : List Int) (ht : t.length ≤ 4000) (ar : Arena) (hn : ar.slots.length ≤ 4) : ∀ s : Nat × Nat × List Locker, s.1 ≤ 3 ∧ s.2.2.length = s.1 ∧ (∀ i (hi : i < s.2.2.length), Fresh ar.slots.length s.2.2[i]) → ∃ (a' : Nat) (ps : List Locker), ps.length = 3 ∧ (∀ i (hi : i < ps.length), Fresh ar.slots.length ps[i]) ∧ loopL G [] l_law13_LockerOrder_0 ⟨[(3, .ref 22 0 0), (4, .ref 4 0 0), (6, .acc 6 (s.2.2.map eLocker)), (7, .d (.int .i64 s.1))], [(4, .row [.d (eArena ar)]), (6, .acc s.2.2.length), (22, srcO t s.2.1)]⟩ = some (.exit 0, ⟨[(3, .ref 22 0 0), (4, .ref 4 0 0), (6, .acc 6 (ps.map eLocker))], [(4, .row [.d (eArena ar)]), (6, .acc ps.length), (22, srcO t a')]⟩) := by
  refine loop_indP (fun s : Nat × Nat × List Locker => 3 - s.1) _ (fun s : Nat × Nat × List Locker => ⟨[(3, .ref 22 0 0), (4, .ref 4 0 0), (6, .acc 6 (s.2.2.map eLocker)), (7, .d (.int .i64 s.1))], [(4, .row [.d (eArena ar)]), (6, .acc s.2.2.length), (22, srcO t s.2.1)]⟩) (fun s r => ∃ (a' : Nat) (ps : List Locker), ps.length = 3 ∧ (∀ i (hi : i < ps.length), Fresh ar.slots.length ps[i]) ∧ r = some (.exit 0, ⟨[(3, .ref 22 0 0), (4, .ref 4 0 0), (6, .acc 6 (ps.map eLocker))], [(4, .row [.d (eArena ar)]), (6, .acc ps.length), (22, srcO t a')]⟩)) fun ⟨i, a, ps⟩ ⟨hi, hl, hf⟩ L ih => ?_
  simp only at hi hl hf ih
  simp only [l_law13_LockerOrder_0]
  by_cases h3 : i < 3
  · obtain ⟨cs, a1, hc, h1, hs⟩ := some_ok t a ar.slots.length ht (by omega)
    have e1 := lnew_ok cs (by have := hc.l; omega)
    rw [lockNew_asc hc (by omega) h1] at e1
    obtain ⟨a', qs, q1, q2, q3⟩ := ih (i + 1, a1, ps ++ [⟨cs, 0, 0, 0, 0⟩]) ⟨by simp only; omega, by simp [hl], fresh_append hf hc h1⟩ (by simp only; omega)
    refine ⟨a', qs, q1, q2, ?_⟩
    simp only [Int.natCast_add, Int.natCast_one, Int.natCast_zero, Int.natCast_mul, Int.cast_ofNat_Int, List.length_append, List.length_map, List.map_nil, List.length_nil, List.map_append, List.map_cons, List.length_cons, Nat.zero_add, srcO, mapSet] at q3
    rw [← q3]
    clear ih q3 hf q2 q1
    (try simp -implicitDefEqProofs (maxSteps := 4000000) (disch := omega) only [getDT, go_sem, *]); (try simp only [pA, pB, pC, pD, pE, pF, pG, pH, pI, pJ, pK, pL, pM, pN, pO, pP, if_true, if_false]); repeat' (first | done | rfl | (refine iteC (fun hq => ?_) (fun hq => ?_) <;> (try (first | (exfalso; omega) | contradiction)) <;> (try simp -implicitDefEqProofs (maxSteps := 4000000) (disch := omega) only [getDT, go_sem, *]) <;> (try simp only [pA, pB, pC, pD, pE, pF, pG, pH, pI, pJ, pK, pL, pM, pN, pO, pP, if_true, if_false]))); (all_goals try rfl); (all_goals try (repeat' (first | done | rfl | (exfalso; omega) | contradiction | (refine iteR (fun hq => ?_) (fun hq => ?_)))))
  · refine ⟨a, ps, by omega, hf, ?_⟩
    clear ih hf
    (try simp -implicitDefEqProofs (maxSteps := 4000000) (disch := omega) only [getDT, go_sem, *]); (try simp only [pA, pB, pC, pD, pE, pF, pG, pH, pI, pJ, pK, pL, pM, pN, pO, pP, if_true, if_false]); repeat' (first | done | rfl | (refine iteC (fun hq => ?_) (fun hq => ?_) <;> (try (first | (exfalso; omega) | contradiction)) <;> (try simp -implicitDefEqProofs (maxSteps := 4000000) (disch := omega) only [getDT, go_sem, *]) <;> (try simp only [pA, pB, pC, pD, pE, pF, pG, pH, pI, pJ, pK, pL, pM, pN, pO, pP, if_true, if_false]))); (all_goals try rfl); (all_goals try (repeat' (first | done | rfl | (exfalso; omega) | contradiction | (refine iteR (fun hq => ?_) (fun hq => ?_)))))
theorem lockerOrder_law (l : List Int) (hL : l.length ≤ LIM) : callL G N_law13_LockerOrder [.d (.sl (ints l))] [] = some (.d (.bool true), []) := by
  obtain ⟨t, ht, hnew⟩ := new_ok2 l hL
  obtain ⟨s, a1, hs, hs1⟩ := setup_ok0 t ht
  have ha := arenaNew_ok s
  obtain ⟨he, hf, hn1, hn4, ho⟩ := arenaN_of hs
  rw [he] at ha
  generalize arenaN s = ar at *
  obtain ⟨a2, ps, hp, hfr, hl0⟩ := ord0_loop t ht ar hn4 (0, a1, []) ⟨by simp, by simp, by simp⟩
  have hl1 := ord_loop4 t ht ar.slots.length hn4 ⟨0, a2, ar, ps⟩ ⟨by simp, hp, own_first rfl hf ho hfr⟩
  have hw := awake13_ok
  simp only [ordS, List.map_nil, List.length_nil, hp] at hl0 hl1
  simp only [Int.natCast_add, Int.natCast_one, Int.natCast_zero, Int.natCast_mul, Int.cast_ofNat_Int, List.length_append, List.length_map, List.map_nil, List.length_nil, List.map_append, List.map_cons, List.length_cons, Nat.zero_add, srcO, mapSet] at hl0 hl1
  clear hfr ho hf he hs hn1 hn4
  rw [callL_code g_law13_LockerOrder (by simp)]; simp -implicitDefEqProofs (maxSteps := 4000000) (disch := omega) only [c_law13_LockerOrder, r_law13_LockerOrder, getDT, go_sem, *]; (try simp only [pA, pB, pC, pD, pE, pF, pG, pH, pI, pJ, pK, pL, pM, pN, pO, pP, if_true, if_false]); repeat' (first | done | rfl | (refine iteC (fun hq => ?_) (fun hq => ?_) <;> (try (first | (exfalso; omega) | contradiction)) <;> (try simp -implicitDefEqProofs (maxSteps := 4000000) (disch := omega) only [getDT, go_sem, *]) <;> (try simp only [pA, pB, pC, pD, pE, pF, pG, pH, pI, pJ, pK, pL, pM, pN, pO, pP, if_true, if_false]))); (all_goals try rfl); (all_goals try (repeat' (first | done | rfl | (exfalso; omega) | contradiction | (refine iteR (fun hq => ?_) (fun hq => ?_)))))
end Go.Proofs.Ytkdjbfjohbiemaa
