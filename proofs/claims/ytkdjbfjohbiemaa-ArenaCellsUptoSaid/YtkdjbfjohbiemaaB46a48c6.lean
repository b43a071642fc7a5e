/-
  Equality of rings, tables, shards, stores, directories and arenas.
  The reader of numbers.
  The reader at its beginning.
  Directories: what the functions of package directory compute.
  Directories: Validate, Span, New.
  Directories: the first one.
  Rings, shards, stores and arenas: the first ones.
  Arenas: New.
  Arenas: locks.
  Locks of the reference; lockers of both.
-/
import Derived.Test.YtkdjbfjohbiemaaBdbf4735
set_option linter.unusedSimpArgs false
set_option linter.unusedVariables false
namespace Go.Proofs.Ytkdjbfjohbiemaa
open Go Go.Sim
set_option linter.unusedSimpArgs false
set_option linter.unusedVariables false
set_option maxHeartbeats 10000000
set_option maxRecDepth 40000
theorem same_Ring (a b : Ring) (hL : a.cells.length ≤ 4294967296) : callL G N_ref04_Same [.d (eRing a), .d (eRing b)] [] = some (.d (.bool (decide (a = b))), []) := by
  have h1 := same_ref03_Same a.cells b.cells hL
  have e : decide (a = b) = (decide (a.head = b.head) && (decide (a.size = b.size) && decide (a.cells = b.cells))) := by
    cases a; cases b
    apply Bool.eq_iff_iff.2
    simp only [Ring.mk.injEq, decide_eq_true_eq, Bool.and_eq_true]
    exact ⟨fun ⟨p, q, r⟩ => ⟨q, r, p⟩, fun ⟨p, q, r⟩ => ⟨r, p, q⟩⟩
  rw [e]
  rw [callL_code g_ref04_Same (by simp)]; simp -implicitDefEqProofs (maxSteps := 4000000) (disch := omega) only [c_ref04_Same, r_ref04_Same, getDT, go_sem, *]; (try simp only [pA, pB, pC, pD, pE, pF, pG, pH, pI, pJ, pK, pL, pM, pN, pO, pP, if_true, if_false]); repeat' (first | done | rfl | (refine iteC (fun hq => ?_) (fun hq => ?_) <;> (try (first | (exfalso; omega) | contradiction)) <;> (try simp -implicitDefEqProofs (maxSteps := 4000000) (disch := omega) only [getDT, go_sem, *]) <;> (try simp only [pA, pB, pC, pD, pE, pF, pG, pH, pI, pJ, pK, pL, pM, pN, pO, pP, if_true, if_false]))); (all_goals try rfl); (all_goals try (repeat' (first | done | rfl | (exfalso; omega) | contradiction | (refine iteR (fun hq => ?_) (fun hq => ?_)))))
theorem same_Table (a b : Table) (h1 : a.l.length ≤ 4294967296) (h2 : a.heap.length ≤ 4294967296) : callL G N_ref06_Same [.d (eTable a), .d (eTable b)] [] = some (.d (.bool (decide (a = b))), []) := by
  have h1 := same_ref06_SameLeases a.l b.l h1
  have h2 := same_ref05_Same a.heap b.heap h2
  have e : decide (a = b) = (decide (a.l = b.l) && decide (a.heap = b.heap)) := by
    cases a; cases b
    apply Bool.eq_iff_iff.2
    simp only [Table.mk.injEq, decide_eq_true_eq, Bool.and_eq_true]
  rw [e]
  rw [callL_code g_ref06_Same (by simp)]; simp -implicitDefEqProofs (maxSteps := 4000000) (disch := omega) only [c_ref06_Same, r_ref06_Same, getDT, go_sem, *]; (try simp only [pA, pB, pC, pD, pE, pF, pG, pH, pI, pJ, pK, pL, pM, pN, pO, pP, if_true, if_false]); repeat' (first | done | rfl | (refine iteC (fun hq => ?_) (fun hq => ?_) <;> (try (first | (exfalso; omega) | contradiction)) <;> (try simp -implicitDefEqProofs (maxSteps := 4000000) (disch := omega) only [getDT, go_sem, *]) <;> (try simp only [pA, pB, pC, pD, pE, pF, pG, pH, pI, pJ, pK, pL, pM, pN, pO, pP, if_true, if_false]))); (all_goals try rfl); (all_goals try (repeat' (first | done | rfl | (exfalso; omega) | contradiction | (refine iteR (fun hq => ?_) (fun hq => ?_)))))
structure FitS (s : Shard) : Prop where
  a : s.ready.cells.length ≤ 4294967296
  b : s.leases.l.length ≤ 4294967296
  c : s.leases.heap.length ≤ 4294967296
theorem same_Shard (a b : Shard) (h : FitS a) : callL G N_ref07_Same [.d (eShard a), .d (eShard b)] [] = some (.d (.bool (decide (a = b))), []) := by
  obtain ⟨f1, f2, f3⟩ := h
  have h1 := same_Ring a.ready b.ready f1
  have h2 := same_Table a.leases b.leases f2 f3
  have e : decide (a = b) = (decide (a.live = b.live) && (decide (a.low = b.low) && (decide (a.high = b.high) && (decide (a.ready = b.ready) && decide (a.leases = b.leases))))) := by
    cases a; cases b
    apply Bool.eq_iff_iff.2
    simp only [Shard.mk.injEq, decide_eq_true_eq, Bool.and_eq_true]
  rw [e]
  simp only [eRing, eTable] at h1 h2
  rw [callL_code g_ref07_Same (by simp)]; simp -implicitDefEqProofs (maxSteps := 4000000) (disch := omega) only [c_ref07_Same, r_ref07_Same, getDT, go_sem, *]; (try simp only [pA, pB, pC, pD, pE, pF, pG, pH, pI, pJ, pK, pL, pM, pN, pO, pP, if_true, if_false]); repeat' (first | done | rfl | (refine iteC (fun hq => ?_) (fun hq => ?_) <;> (try (first | (exfalso; omega) | contradiction)) <;> (try simp -implicitDefEqProofs (maxSteps := 4000000) (disch := omega) only [getDT, go_sem, *]) <;> (try simp only [pA, pB, pC, pD, pE, pF, pG, pH, pI, pJ, pK, pL, pM, pN, pO, pP, if_true, if_false]))); (all_goals try rfl); (all_goals try (repeat' (first | done | rfl | (exfalso; omega) | contradiction | (refine iteR (fun hq => ?_) (fun hq => ?_)))))
theorem same_Dead (a b : Dead) (h : a.l.length ≤ 4294967296) : callL G N_ref08_Same [.d (eDead a), .d (eDead b)] [] = some (.d (.bool (decide (a = b))), []) := by
  have h1 := same_ref03_Same a.l b.l h
  have e : decide (a = b) = (decide (a.cap = b.cap) && decide (a.l = b.l)) := by
    cases a; cases b
    apply Bool.eq_iff_iff.2
    simp only [Dead.mk.injEq, decide_eq_true_eq, Bool.and_eq_true]
  rw [e]
  rw [callL_code g_ref08_Same (by simp)]; simp -implicitDefEqProofs (maxSteps := 4000000) (disch := omega) only [c_ref08_Same, r_ref08_Same, getDT, go_sem, *]; (try simp only [pA, pB, pC, pD, pE, pF, pG, pH, pI, pJ, pK, pL, pM, pN, pO, pP, if_true, if_false]); repeat' (first | done | rfl | (refine iteC (fun hq => ?_) (fun hq => ?_) <;> (try (first | (exfalso; omega) | contradiction)) <;> (try simp -implicitDefEqProofs (maxSteps := 4000000) (disch := omega) only [getDT, go_sem, *]) <;> (try simp only [pA, pB, pC, pD, pE, pF, pG, pH, pI, pJ, pK, pL, pM, pN, pO, pP, if_true, if_false]))); (all_goals try rfl); (all_goals try (repeat' (first | done | rfl | (exfalso; omega) | contradiction | (refine iteR (fun hq => ?_) (fun hq => ?_)))))
theorem sd_loop0 (a b : Directory) (hL : a.l.length ≤ 4294967296) (hab : a.l.length = b.l.length) : loopL G [] l_ref10_Same_0 ⟨[(2, .ref 2 0 0), (3, .ref 3 0 0), (5, .d (.int .i64 0))], [(2, .row [.d (eDirectory a)]), (3, .row [.d (eDirectory b)])]⟩ = some (if a.l = b.l then (.exit 0, ⟨[(2, .ref 2 0 0), (3, .ref 3 0 0)], [(2, .row [.d (eDirectory a)]), (3, .row [.d (eDirectory b)])]⟩) else (.ret, ⟨[(4, .d (.bool false))], []⟩)) := by
  have := loop_all (G := G) (x := l_ref10_Same_0) (ks := []) a.l.length (fun k => decide (a.l[k]? = b.l[k]?)) (fun k => ⟨[(2, .ref 2 0 0), (3, .ref 3 0 0), (5, .d (.int .i64 k))], [(2, .row [.d (eDirectory a)]), (3, .row [.d (eDirectory b)])]⟩) (.ret, ⟨[(4, .d (.bool false))], []⟩) (.exit 0, ⟨[(2, .ref 2 0 0), (3, .ref 3 0 0)], [(2, .row [.d (eDirectory a)]), (3, .row [.d (eDirectory b)])]⟩) (fun k hk L => by
    simp only [l_ref10_Same_0]
    by_cases h0 : k < a.l.length
    · have hk2 : k < b.l.length := by omega
      simp only [get_eq h0 hk2, h0, if_true]
      (try simp -implicitDefEqProofs (maxSteps := 4000000) (disch := omega) only [getDT, go_sem, *]); (try simp only [pA, pB, pC, pD, pE, pF, pG, pH, pI, pJ, pK, pL, pM, pN, pO, pP, if_true, if_false]); repeat' (first | done | rfl | (refine iteC (fun hq => ?_) (fun hq => ?_) <;> (try (first | (exfalso; omega) | contradiction)) <;> (try simp -implicitDefEqProofs (maxSteps := 4000000) (disch := omega) only [getDT, go_sem, *]) <;> (try simp only [pA, pB, pC, pD, pE, pF, pG, pH, pI, pJ, pK, pL, pM, pN, pO, pP, if_true, if_false]))); (all_goals try rfl); (all_goals try (repeat' (first | done | rfl | (exfalso; omega) | contradiction | (refine iteR (fun hq => ?_) (fun hq => ?_)))))
    · (try simp -implicitDefEqProofs (maxSteps := 4000000) (disch := omega) only [getDT, go_sem, *]); (try simp only [pA, pB, pC, pD, pE, pF, pG, pH, pI, pJ, pK, pL, pM, pN, pO, pP, if_true, if_false]); repeat' (first | done | rfl | (refine iteC (fun hq => ?_) (fun hq => ?_) <;> (try (first | (exfalso; omega) | contradiction)) <;> (try simp -implicitDefEqProofs (maxSteps := 4000000) (disch := omega) only [getDT, go_sem, *]) <;> (try simp only [pA, pB, pC, pD, pE, pF, pG, pH, pI, pJ, pK, pL, pM, pN, pO, pP, if_true, if_false]))); (all_goals try rfl); (all_goals try (repeat' (first | done | rfl | (exfalso; omega) | contradiction | (refine iteR (fun hq => ?_) (fun hq => ?_))))))
  simp only [all_eq hab, Int.natCast_zero, decide_eq_true_eq] at this
  exact this
theorem sd_loop1 (a b : Directory) (hL : a.forward.length ≤ 4294967296) (hab : a.forward.length = b.forward.length) : loopL G [] l_ref10_Same_1 ⟨[(2, .ref 2 0 0), (3, .ref 3 0 0), (6, .d (.int .i64 0))], [(2, .row [.d (eDirectory a)]), (3, .row [.d (eDirectory b)])]⟩ = some (if a.forward = b.forward then (.exit 2, ⟨[], []⟩) else (.ret, ⟨[(4, .d (.bool false))], []⟩)) := by
  have := loop_all (G := G) (x := l_ref10_Same_1) (ks := []) a.forward.length (fun k => decide (a.forward[k]? = b.forward[k]?)) (fun k => ⟨[(2, .ref 2 0 0), (3, .ref 3 0 0), (6, .d (.int .i64 k))], [(2, .row [.d (eDirectory a)]), (3, .row [.d (eDirectory b)])]⟩) (.ret, ⟨[(4, .d (.bool false))], []⟩) (.exit 2, ⟨[], []⟩) (fun k hk L => by
    simp only [l_ref10_Same_1]
    by_cases h0 : k < a.forward.length
    · have hk2 : k < b.forward.length := by omega
      simp only [get_eq h0 hk2, h0, if_true]
      (try simp -implicitDefEqProofs (maxSteps := 4000000) (disch := omega) only [getDT, go_sem, *]); (try simp only [pA, pB, pC, pD, pE, pF, pG, pH, pI, pJ, pK, pL, pM, pN, pO, pP, if_true, if_false]); repeat' (first | done | rfl | (refine iteC (fun hq => ?_) (fun hq => ?_) <;> (try (first | (exfalso; omega) | contradiction)) <;> (try simp -implicitDefEqProofs (maxSteps := 4000000) (disch := omega) only [getDT, go_sem, *]) <;> (try simp only [pA, pB, pC, pD, pE, pF, pG, pH, pI, pJ, pK, pL, pM, pN, pO, pP, if_true, if_false]))); (all_goals try rfl); (all_goals try (repeat' (first | done | rfl | (exfalso; omega) | contradiction | (refine iteR (fun hq => ?_) (fun hq => ?_)))))
    · (try simp -implicitDefEqProofs (maxSteps := 4000000) (disch := omega) only [getDT, go_sem, *]); (try simp only [pA, pB, pC, pD, pE, pF, pG, pH, pI, pJ, pK, pL, pM, pN, pO, pP, if_true, if_false]); repeat' (first | done | rfl | (refine iteC (fun hq => ?_) (fun hq => ?_) <;> (try (first | (exfalso; omega) | contradiction)) <;> (try simp -implicitDefEqProofs (maxSteps := 4000000) (disch := omega) only [getDT, go_sem, *]) <;> (try simp only [pA, pB, pC, pD, pE, pF, pG, pH, pI, pJ, pK, pL, pM, pN, pO, pP, if_true, if_false]))); (all_goals try rfl); (all_goals try (repeat' (first | done | rfl | (exfalso; omega) | contradiction | (refine iteR (fun hq => ?_) (fun hq => ?_))))))
  simp only [all_eq hab, Int.natCast_zero, decide_eq_true_eq] at this
  exact this
theorem same_Directory (a b : Directory) (hL : a.l.length ≤ 4294967296) (hF : a.forward.length ≤ 4294967296) : callL G N_ref10_Same [.d (eDirectory a), .d (eDirectory b)] [] = some (.d (.bool (decide (a = b))), []) := by
  by_cases c0 : a.version = b.version ∧ a.l.length = b.l.length ∧ a.forward.length = b.forward.length
  · obtain ⟨c1, c2, c3⟩ := c0
    have h0 := sd_loop0 a b hL c2
    have h1 := sd_loop1 a b hF c3
    by_cases c4 : a.l = b.l
    · by_cases c5 : a.forward = b.forward
      · have e : a = b := by cases a; cases b; simp_all
        subst e
        simp only [if_true] at h0 h1
        simp only [decide_true]
        clear c1 c2 c3 c4 c5
        rw [callL_code g_ref10_Same (by simp)]; simp -implicitDefEqProofs (maxSteps := 4000000) (disch := omega) only [c_ref10_Same, r_ref10_Same, getDT, go_sem, *]; (try simp only [pA, pB, pC, pD, pE, pF, pG, pH, pI, pJ, pK, pL, pM, pN, pO, pP, if_true, if_false]); repeat' (first | done | rfl | (refine iteC (fun hq => ?_) (fun hq => ?_) <;> (try (first | (exfalso; omega) | contradiction)) <;> (try simp -implicitDefEqProofs (maxSteps := 4000000) (disch := omega) only [getDT, go_sem, *]) <;> (try simp only [pA, pB, pC, pD, pE, pF, pG, pH, pI, pJ, pK, pL, pM, pN, pO, pP, if_true, if_false]))); (all_goals try rfl); (all_goals try (repeat' (first | done | rfl | (exfalso; omega) | contradiction | (refine iteR (fun hq => ?_) (fun hq => ?_)))))
      · have e : ¬ a = b := fun e => c5 (by rw [e])
        rw [decide_eq_false e]
        rw [if_pos c4] at h0
        rw [if_neg c5] at h1
        clear c4
        rw [callL_code g_ref10_Same (by simp)]; simp -implicitDefEqProofs (maxSteps := 4000000) (disch := omega) only [c_ref10_Same, r_ref10_Same, getDT, go_sem, *]; (try simp only [pA, pB, pC, pD, pE, pF, pG, pH, pI, pJ, pK, pL, pM, pN, pO, pP, if_true, if_false]); repeat' (first | done | rfl | (refine iteC (fun hq => ?_) (fun hq => ?_) <;> (try (first | (exfalso; omega) | contradiction)) <;> (try simp -implicitDefEqProofs (maxSteps := 4000000) (disch := omega) only [getDT, go_sem, *]) <;> (try simp only [pA, pB, pC, pD, pE, pF, pG, pH, pI, pJ, pK, pL, pM, pN, pO, pP, if_true, if_false]))); (all_goals try rfl); (all_goals try (repeat' (first | done | rfl | (exfalso; omega) | contradiction | (refine iteR (fun hq => ?_) (fun hq => ?_)))))
    · have e : ¬ a = b := fun e => c4 (by rw [e])
      rw [decide_eq_false e]
      rw [if_neg c4] at h0
      clear h1
      rw [callL_code g_ref10_Same (by simp)]; simp -implicitDefEqProofs (maxSteps := 4000000) (disch := omega) only [c_ref10_Same, r_ref10_Same, getDT, go_sem, *]; (try simp only [pA, pB, pC, pD, pE, pF, pG, pH, pI, pJ, pK, pL, pM, pN, pO, pP, if_true, if_false]); repeat' (first | done | rfl | (refine iteC (fun hq => ?_) (fun hq => ?_) <;> (try (first | (exfalso; omega) | contradiction)) <;> (try simp -implicitDefEqProofs (maxSteps := 4000000) (disch := omega) only [getDT, go_sem, *]) <;> (try simp only [pA, pB, pC, pD, pE, pF, pG, pH, pI, pJ, pK, pL, pM, pN, pO, pP, if_true, if_false]))); (all_goals try rfl); (all_goals try (repeat' (first | done | rfl | (exfalso; omega) | contradiction | (refine iteR (fun hq => ?_) (fun hq => ?_)))))
  · have e : ¬ a = b := fun e => c0 (by rw [e]; exact ⟨rfl, rfl, rfl⟩)
    rw [decide_eq_false e]
    by_cases c1 : a.version = b.version
    · by_cases c2 : a.l.length = b.l.length
      · have c3 : ¬ a.forward.length = b.forward.length := fun c3 => c0 ⟨c1, c2, c3⟩
        rw [callL_code g_ref10_Same (by simp)]; simp -implicitDefEqProofs (maxSteps := 4000000) (disch := omega) only [c_ref10_Same, r_ref10_Same, getDT, go_sem, *]; (try simp only [pA, pB, pC, pD, pE, pF, pG, pH, pI, pJ, pK, pL, pM, pN, pO, pP, if_true, if_false]); repeat' (first | done | rfl | (refine iteC (fun hq => ?_) (fun hq => ?_) <;> (try (first | (exfalso; omega) | contradiction)) <;> (try simp -implicitDefEqProofs (maxSteps := 4000000) (disch := omega) only [getDT, go_sem, *]) <;> (try simp only [pA, pB, pC, pD, pE, pF, pG, pH, pI, pJ, pK, pL, pM, pN, pO, pP, if_true, if_false]))); (all_goals try rfl); (all_goals try (repeat' (first | done | rfl | (exfalso; omega) | contradiction | (refine iteR (fun hq => ?_) (fun hq => ?_)))))
      · rw [callL_code g_ref10_Same (by simp)]; simp -implicitDefEqProofs (maxSteps := 4000000) (disch := omega) only [c_ref10_Same, r_ref10_Same, getDT, go_sem, *]; (try simp only [pA, pB, pC, pD, pE, pF, pG, pH, pI, pJ, pK, pL, pM, pN, pO, pP, if_true, if_false]); repeat' (first | done | rfl | (refine iteC (fun hq => ?_) (fun hq => ?_) <;> (try (first | (exfalso; omega) | contradiction)) <;> (try simp -implicitDefEqProofs (maxSteps := 4000000) (disch := omega) only [getDT, go_sem, *]) <;> (try simp only [pA, pB, pC, pD, pE, pF, pG, pH, pI, pJ, pK, pL, pM, pN, pO, pP, if_true, if_false]))); (all_goals try rfl); (all_goals try (repeat' (first | done | rfl | (exfalso; omega) | contradiction | (refine iteR (fun hq => ?_) (fun hq => ?_)))))
    · rw [callL_code g_ref10_Same (by simp)]; simp -implicitDefEqProofs (maxSteps := 4000000) (disch := omega) only [c_ref10_Same, r_ref10_Same, getDT, go_sem, *]; (try simp only [pA, pB, pC, pD, pE, pF, pG, pH, pI, pJ, pK, pL, pM, pN, pO, pP, if_true, if_false]); repeat' (first | done | rfl | (refine iteC (fun hq => ?_) (fun hq => ?_) <;> (try (first | (exfalso; omega) | contradiction)) <;> (try simp -implicitDefEqProofs (maxSteps := 4000000) (disch := omega) only [getDT, go_sem, *]) <;> (try simp only [pA, pB, pC, pD, pE, pF, pG, pH, pI, pJ, pK, pL, pM, pN, pO, pP, if_true, if_false]))); (all_goals try rfl); (all_goals try (repeat' (first | done | rfl | (exfalso; omega) | contradiction | (refine iteR (fun hq => ?_) (fun hq => ?_)))))
structure FitA (a : Arena) : Prop where
  sl : a.slots.length ≤ 1000
  sh : ∀ i (h : i < a.slots.length), FitS (a.slots[i]).shard
  st : a.stripes.length ≤ 4294967296
  de : a.dead.dead.l.length ≤ 4294967296
  dl : a.dir.l.length ≤ 4294967296
  df : a.dir.forward.length ≤ 4294967296
theorem sa_loop (a b : Arena) (h : FitA a) (hab : a.slots.length = b.slots.length) : loopL G [] l_ref12_Same_0 ⟨[(2, .ref 2 0 0), (3, .ref 3 0 0), (5, .d (.int .i64 0))], [(2, .row [.d (eArena a)]), (3, .row [.d (eArena b)])]⟩ = some (if a.slots = b.slots then (.exit 0, ⟨[], []⟩) else (.ret, ⟨[(4, .d (.bool false))], []⟩)) := by
  obtain ⟨fa, fb, _, _, _, _⟩ := h
  have := loop_all (G := G) (x := l_ref12_Same_0) (ks := []) a.slots.length (fun k => decide (a.slots[k]? = b.slots[k]?)) (fun k => ⟨[(2, .ref 2 0 0), (3, .ref 3 0 0), (5, .d (.int .i64 k))], [(2, .row [.d (eArena a)]), (3, .row [.d (eArena b)])]⟩) (.ret, ⟨[(4, .d (.bool false))], []⟩) (.exit 0, ⟨[], []⟩) (fun k hk L => by
    simp only [l_ref12_Same_0]
    by_cases h0 : k < a.slots.length
    · have hk2 : k < b.slots.length := by omega
      have hs := same_Shard (a.slots[k]).shard (b.slots[k]).shard (fb k h0)
      simp only [eShard] at hs
      have e : decide (a.slots[k] = b.slots[k]) = (decide (a.slots[k].owner = b.slots[k].owner) && decide (a.slots[k].shard = b.slots[k].shard)) := by
        generalize a.slots[k] = x
        generalize b.slots[k] = y
        cases x; cases y
        apply Bool.eq_iff_iff.2
        simp
      simp only [get_eq h0 hk2, h0, if_true, e]
      clear fb
      by_cases c1 : a.slots[k].owner = b.slots[k].owner
      · by_cases c2 : a.slots[k].shard = b.slots[k].shard
        · simp only [c1, c2, decide_true, Bool.and_self, if_true] at hs ⊢
          (try simp -implicitDefEqProofs (maxSteps := 4000000) (disch := omega) only [c1, getDT, go_sem, *]); (try simp only [pA, pB, pC, pD, pE, pF, pG, pH, pI, pJ, pK, pL, pM, pN, pO, pP, if_true, if_false]); repeat' (first | done | rfl | (refine iteC (fun hq => ?_) (fun hq => ?_) <;> (try (first | (exfalso; omega) | contradiction)) <;> (try simp -implicitDefEqProofs (maxSteps := 4000000) (disch := omega) only [c1, getDT, go_sem, *]) <;> (try simp only [pA, pB, pC, pD, pE, pF, pG, pH, pI, pJ, pK, pL, pM, pN, pO, pP, if_true, if_false]))); (all_goals try rfl); (all_goals try (repeat' (first | done | rfl | (exfalso; omega) | contradiction | (refine iteR (fun hq => ?_) (fun hq => ?_)))))
        · simp only [c1, c2, decide_true, decide_false, Bool.and_false, Bool.false_eq_true, if_false] at hs ⊢
          (try simp -implicitDefEqProofs (maxSteps := 4000000) (disch := omega) only [c1, getDT, go_sem, *]); (try simp only [pA, pB, pC, pD, pE, pF, pG, pH, pI, pJ, pK, pL, pM, pN, pO, pP, if_true, if_false]); repeat' (first | done | rfl | (refine iteC (fun hq => ?_) (fun hq => ?_) <;> (try (first | (exfalso; omega) | contradiction)) <;> (try simp -implicitDefEqProofs (maxSteps := 4000000) (disch := omega) only [c1, getDT, go_sem, *]) <;> (try simp only [pA, pB, pC, pD, pE, pF, pG, pH, pI, pJ, pK, pL, pM, pN, pO, pP, if_true, if_false]))); (all_goals try rfl); (all_goals try (repeat' (first | done | rfl | (exfalso; omega) | contradiction | (refine iteR (fun hq => ?_) (fun hq => ?_)))))
      · simp only [c1, decide_false, Bool.false_and, Bool.false_eq_true, if_false]
        (try simp -implicitDefEqProofs (maxSteps := 4000000) (disch := omega) only [c1, getDT, go_sem, *]); (try simp only [pA, pB, pC, pD, pE, pF, pG, pH, pI, pJ, pK, pL, pM, pN, pO, pP, if_true, if_false]); repeat' (first | done | rfl | (refine iteC (fun hq => ?_) (fun hq => ?_) <;> (try (first | (exfalso; omega) | contradiction)) <;> (try simp -implicitDefEqProofs (maxSteps := 4000000) (disch := omega) only [c1, getDT, go_sem, *]) <;> (try simp only [pA, pB, pC, pD, pE, pF, pG, pH, pI, pJ, pK, pL, pM, pN, pO, pP, if_true, if_false]))); (all_goals try rfl); (all_goals try (repeat' (first | done | rfl | (exfalso; omega) | contradiction | (refine iteR (fun hq => ?_) (fun hq => ?_)))))
    · (try simp -implicitDefEqProofs (maxSteps := 4000000) (disch := omega) only [getDT, go_sem, *]); (try simp only [pA, pB, pC, pD, pE, pF, pG, pH, pI, pJ, pK, pL, pM, pN, pO, pP, if_true, if_false]); repeat' (first | done | rfl | (refine iteC (fun hq => ?_) (fun hq => ?_) <;> (try (first | (exfalso; omega) | contradiction)) <;> (try simp -implicitDefEqProofs (maxSteps := 4000000) (disch := omega) only [getDT, go_sem, *]) <;> (try simp only [pA, pB, pC, pD, pE, pF, pG, pH, pI, pJ, pK, pL, pM, pN, pO, pP, if_true, if_false]))); (all_goals try rfl); (all_goals try (repeat' (first | done | rfl | (exfalso; omega) | contradiction | (refine iteR (fun hq => ?_) (fun hq => ?_))))))
  simp only [all_eq hab, Int.natCast_zero, decide_eq_true_eq] at this
  exact this
theorem same_Arena (a b : Arena) (h : FitA a) : callL G N_ref12_Same [.d (eArena a), .d (eArena b)] [] = some (.d (.bool (decide (a = b))), []) := by
  have hl := sa_loop a b h
  obtain ⟨f1, f2, f3, f4, f5, f6⟩ := h
  have h1 := same_ref11_Same a.stripes b.stripes f3
  have h2 := same_Dead a.dead.dead b.dead.dead f4
  have h3 := same_Directory a.dir b.dir f5 f6
  simp only [eDead, eDirectory] at h2 h3
  have e : decide (a = b) = decide (a.slots.length = b.slots.length ∧ a.stripes = b.stripes ∧ a.dead.owner = b.dead.owner ∧ a.dead.dead = b.dead.dead ∧ a.dir = b.dir ∧ a.epoch = b.epoch ∧ a.clock = b.clock ∧ a.nextID = b.nextID ∧ a.slots = b.slots) := by
    apply Bool.eq_iff_iff.2
    simp only [decide_eq_true_eq]
    constructor
    · intro h; subst h; simp
    · rintro ⟨_, e1, e2, e3, e4, e5, e6, e7, e8⟩
      obtain ⟨_, _, ⟨_, _⟩, _, _, _, _⟩ := a
      obtain ⟨_, _, ⟨_, _⟩, _, _, _, _⟩ := b
      simp_all
  rw [e]
  clear e f2
  by_cases c1 : a.slots.length = b.slots.length
  · have hl2 := hl c1
    clear hl
    by_cases c2 : a.slots = b.slots
    · rw [if_pos c2] at hl2
      generalize hq9 : decide (a.slots.length = b.slots.length ∧ a.stripes = b.stripes ∧ a.dead.owner = b.dead.owner ∧ a.dead.dead = b.dead.dead ∧ a.dir = b.dir ∧ a.epoch = b.epoch ∧ a.clock = b.clock ∧ a.nextID = b.nextID ∧ a.slots = b.slots) = z
      simp only [c1, c2, true_and, and_true] at hq9
      clear c2
      rw [callL_code g_ref12_Same (by simp)]; simp -implicitDefEqProofs (maxSteps := 4000000) (disch := omega) only [c_ref12_Same, r_ref12_Same, getDT, go_sem, *]; (try simp only [pA, pB, pC, pD, pE, pF, pG, pH, pI, pJ, pK, pL, pM, pN, pO, pP, if_true, if_false]); repeat' (first | done | rfl | (refine iteC (fun hq => ?_) (fun hq => ?_) <;> (try (first | (exfalso; omega) | contradiction)) <;> (try simp -implicitDefEqProofs (maxSteps := 4000000) (disch := omega) only [getDT, go_sem, *]) <;> (try simp only [pA, pB, pC, pD, pE, pF, pG, pH, pI, pJ, pK, pL, pM, pN, pO, pP, if_true, if_false]))); (all_goals try rfl); (all_goals try (repeat' (first | done | rfl | (exfalso; omega) | contradiction | (refine iteR (fun hq => ?_) (fun hq => ?_)))))
      all_goals (clear h1 h2 h3 hl2; simp_all)
    · rw [if_neg c2] at hl2
      rw [decide_eq_false (fun h => c2 h.2.2.2.2.2.2.2.2)]
      clear c2
      rw [callL_code g_ref12_Same (by simp)]; simp -implicitDefEqProofs (maxSteps := 4000000) (disch := omega) only [c_ref12_Same, r_ref12_Same, getDT, go_sem, *]; (try simp only [pA, pB, pC, pD, pE, pF, pG, pH, pI, pJ, pK, pL, pM, pN, pO, pP, if_true, if_false]); repeat' (first | done | rfl | (refine iteC (fun hq => ?_) (fun hq => ?_) <;> (try (first | (exfalso; omega) | contradiction)) <;> (try simp -implicitDefEqProofs (maxSteps := 4000000) (disch := omega) only [getDT, go_sem, *]) <;> (try simp only [pA, pB, pC, pD, pE, pF, pG, pH, pI, pJ, pK, pL, pM, pN, pO, pP, if_true, if_false]))); (all_goals try rfl); (all_goals try (repeat' (first | done | rfl | (exfalso; omega) | contradiction | (refine iteR (fun hq => ?_) (fun hq => ?_)))))
  · clear hl
    rw [callL_code g_ref12_Same (by simp)]; simp -implicitDefEqProofs (maxSteps := 4000000) (disch := omega) only [c_ref12_Same, r_ref12_Same, getDT, go_sem, *]; (try simp only [pA, pB, pC, pD, pE, pF, pG, pH, pI, pJ, pK, pL, pM, pN, pO, pP, if_true, if_false]); repeat' (first | done | rfl | (refine iteC (fun hq => ?_) (fun hq => ?_) <;> (try (first | (exfalso; omega) | contradiction)) <;> (try simp -implicitDefEqProofs (maxSteps := 4000000) (disch := omega) only [getDT, go_sem, *]) <;> (try simp only [pA, pB, pC, pD, pE, pF, pG, pH, pI, pJ, pK, pL, pM, pN, pO, pP, if_true, if_false]))); (all_goals try rfl); (all_goals try (repeat' (first | done | rfl | (exfalso; omega) | contradiction | (refine iteR (fun hq => ?_) (fun hq => ?_)))))
end Go.Proofs.Ytkdjbfjohbiemaa

namespace Go.Proofs.Ytkdjbfjohbiemaa
open Go Go.Sim
set_option linter.unusedSimpArgs false
set_option linter.unusedVariables false
set_option maxHeartbeats 10000000
set_option maxRecDepth 40000
theorem wrapN {x : Int} (h0 : -4294967296 ≤ x) (h1 : x ≤ 4294967296) : IntKind.i64.wrap x = x := wr (by omega)
abbrev srcO (l : List Int) (a : Nat) : Go.Sim.Obj := .row [.d (.agg [.sl (ints l), .int .i64 a])]
theorem new_ok (l : List Int) (hL : l.length ≤ LIM) : callL G N_base_New [.d (.sl (ints l))] [] = some (.ref 0 0 0, [(0, srcO (l.take 4000) 0)]) := by
  have hs := allSize_ints l
  by_cases h : 4000 < l.length
  · have e : ints (l.take 4000) = (ints l).take 4000 := by simp [ints, List.map_take]
    simp only [srcO, e]
    rw [callL_code g_base_New (by simp)]; simp -implicitDefEqProofs (disch := omega) only [c_base_New, r_base_New, getDT, go_sem, *]; (try simp only [pA, pB, pC, pD, pE, pF, pG, pH, pI, pJ, pK, pL, pM, pN, pO, if_true, if_false]); repeat' (first | done | rfl | (refine iteC (fun hq => ?_) (fun hq => ?_) <;> (try (exfalso; omega)) <;> (try simp -implicitDefEqProofs (disch := omega) only [getDT, go_sem, *]) <;> (try simp only [pA, pB, pC, pD, pE, pF, pG, pH, pI, pJ, pK, pL, pM, pN, pO, if_true, if_false]))); (all_goals try rfl); (all_goals try (repeat' (first | done | rfl | (exfalso; omega) | (refine iteR (fun hq => ?_) (fun hq => ?_)))))
  · have e : l.take 4000 = l := List.take_of_length_le (by omega)
    simp only [srcO, e]
    rw [callL_code g_base_New (by simp)]; simp -implicitDefEqProofs (disch := omega) only [c_base_New, r_base_New, getDT, go_sem, *]; (try simp only [pA, pB, pC, pD, pE, pF, pG, pH, pI, pJ, pK, pL, pM, pN, pO, if_true, if_false]); repeat' (first | done | rfl | (refine iteC (fun hq => ?_) (fun hq => ?_) <;> (try (exfalso; omega)) <;> (try simp -implicitDefEqProofs (disch := omega) only [getDT, go_sem, *]) <;> (try simp only [pA, pB, pC, pD, pE, pF, pG, pH, pI, pJ, pK, pL, pM, pN, pO, if_true, if_false]))); (all_goals try rfl); (all_goals try (repeat' (first | done | rfl | (exfalso; omega) | (refine iteR (fun hq => ?_) (fun hq => ?_)))))
def rawD (l : List Int) (a : Nat) : Int × Nat := if a < l.length then (l.getD a 0, a + 1) else (0, a)
theorem raw_ok (l : List Int) (a : Nat) (hL : l.length ≤ 4000) : callL G N_base_Src_Raw [.ref 1000000 0 0] [(1000000, srcO l a)] = some (.d (.int .i64 (rawD l a).1), [(1000000, srcO l (rawD l a).2)]) := by
  unfold rawD
  have e : ((a : Int) + 1 - 1).toNat = a := by omega
  by_cases h : a < l.length
  · simp only [h, if_true]
    rw [callL_code g_base_Src_Raw (by simp)]; simp -implicitDefEqProofs (disch := omega) only [c_base_Src_Raw, r_base_Src_Raw, e, getDT, go_sem, *]; (try simp only [pA, pB, pC, pD, pE, pF, pG, pH, pI, pJ, pK, pL, pM, pN, pO, if_true, if_false]); repeat' (first | done | rfl | (refine iteC (fun hq => ?_) (fun hq => ?_) <;> (try (exfalso; omega)) <;> (try simp -implicitDefEqProofs (disch := omega) only [e, getDT, go_sem, *]) <;> (try simp only [pA, pB, pC, pD, pE, pF, pG, pH, pI, pJ, pK, pL, pM, pN, pO, if_true, if_false]))); (all_goals try rfl); (all_goals try (repeat' (first | done | rfl | (exfalso; omega) | (refine iteR (fun hq => ?_) (fun hq => ?_)))))
  · simp only [h, if_false]
    rw [callL_code g_base_Src_Raw (by simp)]; simp -implicitDefEqProofs (disch := omega) only [c_base_Src_Raw, r_base_Src_Raw, getDT, go_sem, *]; (try simp only [pA, pB, pC, pD, pE, pF, pG, pH, pI, pJ, pK, pL, pM, pN, pO, if_true, if_false]); repeat' (first | done | rfl | (refine iteC (fun hq => ?_) (fun hq => ?_) <;> (try (exfalso; omega)) <;> (try simp -implicitDefEqProofs (disch := omega) only [getDT, go_sem, *]) <;> (try simp only [pA, pB, pC, pD, pE, pF, pG, pH, pI, pJ, pK, pL, pM, pN, pO, if_true, if_false]))); (all_goals try rfl); (all_goals try (repeat' (first | done | rfl | (exfalso; omega) | (refine iteR (fun hq => ?_) (fun hq => ?_)))))
theorem raw_le (l : List Int) (a : Nat) (h : a ≤ l.length) : (rawD l a).2 ≤ l.length := by unfold rawD; split <;> simp <;> omega
def nD (l : List Int) (a : Nat) (n : Int) : Int := if (rawD l a).1.tmod n < 0 then (rawD l a).1.tmod n + n else (rawD l a).1.tmod n
theorem nD_in (l : List Int) (a : Nat) {n : Int} (h : 1 ≤ n) : 0 ≤ nD l a n ∧ nD l a n < n := by
  unfold nD
  have h1 := Int.tmod_lt_of_pos (rawD l a).1 (show 0 < n by omega)
  have h2 := Int.lt_tmod_of_pos (rawD l a).1 (show 0 < n by omega)
  split <;> omega
theorem n_ok (l : List Int) (a : Nat) (n : Int) (hL : l.length ≤ 4000) (h1 : 1 ≤ n) (h2 : n ≤ 4294967296) : callL G N_base_Src_N [.ref 1000000 0 0, .d (.int .i64 n)] [(1000000, srcO l a)] = some (.d (.int .i64 (nD l a n)), [(1000000, srcO l (rawD l a).2)]) := by
  have hr := raw_ok l a hL
  have h3 := Int.tmod_lt_of_pos (rawD l a).1 (show 0 < n by omega)
  have h4 := Int.lt_tmod_of_pos (rawD l a).1 (show 0 < n by omega)
  unfold nD
  by_cases h : (rawD l a).1.tmod n < 0
  · simp only [h, if_true]
    rw [callL_code g_base_Src_N (by simp)]; simp -implicitDefEqProofs (disch := omega) only [c_base_Src_N, r_base_Src_N, getDT, go_sem, *]; (try simp only [pA, pB, pC, pD, pE, pF, pG, pH, pI, pJ, pK, pL, pM, pN, pO, if_true, if_false]); repeat' (first | done | rfl | (refine iteC (fun hq => ?_) (fun hq => ?_) <;> (try (exfalso; omega)) <;> (try simp -implicitDefEqProofs (disch := omega) only [getDT, go_sem, *]) <;> (try simp only [pA, pB, pC, pD, pE, pF, pG, pH, pI, pJ, pK, pL, pM, pN, pO, if_true, if_false]))); (all_goals try rfl); (all_goals try (repeat' (first | done | rfl | (exfalso; omega) | (refine iteR (fun hq => ?_) (fun hq => ?_)))))
  · simp only [h, if_false]
    rw [callL_code g_base_Src_N (by simp)]; simp -implicitDefEqProofs (disch := omega) only [c_base_Src_N, r_base_Src_N, getDT, go_sem, *]; (try simp only [pA, pB, pC, pD, pE, pF, pG, pH, pI, pJ, pK, pL, pM, pN, pO, if_true, if_false]); repeat' (first | done | rfl | (refine iteC (fun hq => ?_) (fun hq => ?_) <;> (try (exfalso; omega)) <;> (try simp -implicitDefEqProofs (disch := omega) only [getDT, go_sem, *]) <;> (try simp only [pA, pB, pC, pD, pE, pF, pG, pH, pI, pJ, pK, pL, pM, pN, pO, if_true, if_false]))); (all_goals try rfl); (all_goals try (repeat' (first | done | rfl | (exfalso; omega) | (refine iteR (fun hq => ?_) (fun hq => ?_)))))
theorem range_ok (l : List Int) (a : Nat) (lo hi : Int) (hL : l.length ≤ 4000) (h0 : -4294967296 ≤ lo) (h1 : lo ≤ hi) (h2 : hi ≤ 4294967296) (h3 : hi - lo < 4294967296) : callL G N_base_Src_Range [.ref 1000000 0 0, .d (.int .i64 lo), .d (.int .i64 hi)] [(1000000, srcO l a)] = some (.d (.int .i64 (lo + nD l a (hi - lo + 1))), [(1000000, srcO l (rawD l a).2)]) := by
  have hr := n_ok l a (hi - lo + 1) hL (by omega) (by omega)
  have hn := nD_in l a (show 1 ≤ hi - lo + 1 by omega)
  rw [callL_code g_base_Src_Range (by simp)]; simp -implicitDefEqProofs (disch := omega) only [c_base_Src_Range, r_base_Src_Range, getDT, go_sem, *]; (try simp only [pA, pB, pC, pD, pE, pF, pG, pH, pI, pJ, pK, pL, pM, pN, pO, if_true, if_false]); repeat' (first | done | rfl | (refine iteC (fun hq => ?_) (fun hq => ?_) <;> (try (exfalso; omega)) <;> (try simp -implicitDefEqProofs (disch := omega) only [getDT, go_sem, *]) <;> (try simp only [pA, pB, pC, pD, pE, pF, pG, pH, pI, pJ, pK, pL, pM, pN, pO, if_true, if_false]))); (all_goals try rfl); (all_goals try (repeat' (first | done | rfl | (exfalso; omega) | (refine iteR (fun hq => ?_) (fun hq => ?_)))))
end Go.Proofs.Ytkdjbfjohbiemaa

namespace Go.Proofs.Ytkdjbfjohbiemaa
open Go Go.Sim
set_option linter.unusedSimpArgs false
set_option linter.unusedVariables false
set_option maxHeartbeats 10000000
set_option maxRecDepth 40000
theorem new_ok2 (l : List Int) (hL : l.length ≤ LIM) : ∃ t : List Int, t.length ≤ 4000 ∧ callL G N_base_New [.d (.sl (ints l))] [] = some (.ref 0 0 0, [(0, .row [.d (.agg [.sl (ints t), .int .i64 0])])]) := ⟨l.take 4000, by simp; omega, new_ok l hL⟩
theorem n_ok0 (l : List Int) (n : Int) (hL : l.length ≤ 4000) (h1 : 1 ≤ n) (h2 : n ≤ 4294967296) : callL G N_base_Src_N [.ref 1000000 0 0, .d (.int .i64 n)] [(1000000, .row [.d (.agg [.sl (ints l), .int .i64 0])])] = some (.d (.int .i64 (nD l 0 n)), [(1000000, srcO l (rawD l 0).2)]) := n_ok l 0 n hL h1 h2
theorem range_ok0 (l : List Int) (lo hi : Int) (hL : l.length ≤ 4000) (h0 : -4294967296 ≤ lo) (h1 : lo ≤ hi) (h2 : hi ≤ 4294967296) (h3 : hi - lo < 4294967296) : callL G N_base_Src_Range [.ref 1000000 0 0, .d (.int .i64 lo), .d (.int .i64 hi)] [(1000000, .row [.d (.agg [.sl (ints l), .int .i64 0])])] = some (.d (.int .i64 (lo + nD l 0 (hi - lo + 1))), [(1000000, srcO l (rawD l 0).2)]) := range_ok l 0 lo hi hL h0 h1 h2 h3
theorem more_ok (l : List Int) (a : Nat) (hL : l.length ≤ 4000) : callL G N_base_Src_More [.d (.pd (.agg [.sl (ints l), .int .i64 a]))] [] = some (.d (.bool (decide ((a : Int) < l.length))), []) := by
  rw [callL_code g_base_Src_More (by simp)]; simp -implicitDefEqProofs (maxSteps := 4000000) (disch := omega) only [c_base_Src_More, r_base_Src_More, getDT, go_sem, *]; (try simp only [pA, pB, pC, pD, pE, pF, pG, pH, pI, pJ, pK, pL, pM, pN, pO, pP, if_true, if_false]); repeat' (first | done | rfl | (refine iteC (fun hq => ?_) (fun hq => ?_) <;> (try (first | (exfalso; omega) | contradiction)) <;> (try simp -implicitDefEqProofs (maxSteps := 4000000) (disch := omega) only [getDT, go_sem, *]) <;> (try simp only [pA, pB, pC, pD, pE, pF, pG, pH, pI, pJ, pK, pL, pM, pN, pO, pP, if_true, if_false]))); (all_goals try rfl); (all_goals try (repeat' (first | done | rfl | (exfalso; omega) | contradiction | (refine iteR (fun hq => ?_) (fun hq => ?_)))))
theorem setup_ok (l : List Int) (a : Nat) (hL : l.length ≤ 4000) : ∃ x a', (1 ≤ x.slots ∧ x.slots ≤ 4 ∧ 1 ≤ x.live ∧ x.live ≤ x.slots ∧ 1 ≤ x.capacity ∧ x.capacity ≤ 5 ∧ 1 ≤ x.dead ∧ x.dead ≤ 4 ∧ 1 ≤ x.limit ∧ x.limit ≤ 3 ∧ 0 ≤ x.clock ∧ x.clock ≤ 1073741824 ∧ 1 ≤ x.nextID ∧ x.nextID ≤ 1073741824 ∧ 0 ≤ x.epoch ∧ x.epoch ≤ 65536) ∧ callL G N_base_Src_Setup [.ref 1000000 0 0] [(1000000, srcO l a)] = some (.d (eSetup x), [(1000000, srcO l a')]) := by
  obtain ⟨a1, q1⟩ : ∃ a1, a1 = (rawD l a).2 := ⟨_, rfl⟩
  obtain ⟨a2, q2⟩ : ∃ a2, a2 = (rawD l a1).2 := ⟨_, rfl⟩
  obtain ⟨a3, q3⟩ : ∃ a3, a3 = (rawD l a2).2 := ⟨_, rfl⟩
  obtain ⟨a4, q4⟩ : ∃ a4, a4 = (rawD l a3).2 := ⟨_, rfl⟩
  obtain ⟨a5, q5⟩ : ∃ a5, a5 = (rawD l a4).2 := ⟨_, rfl⟩
  obtain ⟨a6, q6⟩ : ∃ a6, a6 = (rawD l a5).2 := ⟨_, rfl⟩
  have n1 := nD_in l a (n := 4) (by omega)
  have n2 := nD_in l a1 (n := 5) (by omega)
  have n3 := nD_in l a2 (n := 4) (by omega)
  have n4 := nD_in l a3 (n := 3) (by omega)
  have n5 := nD_in l a4 (n := 1 + nD l a 4 - 1 + 1) (by omega)
  have n6 := nD_in l a5 (n := 12) (by omega)
  have n7 := nD_in l a6 (n := 200) (by omega)
  have n8 := nD_in l a6 (n := 4) (by omega)
  have n9 := nD_in l a6 (n := 3) (by omega)
  by_cases c1 : nD l a5 12 = 9
  · refine ⟨⟨1 + nD l a 4, 1 + nD l a4 (1 + nD l a 4 - 1 + 1), 1 + nD l a1 5, 1 + nD l a2 4, 1 + nD l a3 3, 1073741824 - nD l a6 200, 1, 0⟩, (rawD l a6).2, by simp only; omega, ?_⟩
    simp only [eSetup]
    rw [callL_code g_base_Src_Setup (by simp)]; simp -implicitDefEqProofs (maxSteps := 4000000) (disch := omega) only [c_base_Src_Setup, r_base_Src_Setup, go_sem, n_ok, range_ok, ← q1, ← q2, ← q3, ← q4, ← q5, ← q6, c1]
  by_cases c2 : nD l a5 12 = 10
  · refine ⟨⟨1 + nD l a 4, 1 + nD l a4 (1 + nD l a 4 - 1 + 1), 1 + nD l a1 5, 1 + nD l a2 4, 1 + nD l a3 3, 0, 1073741824 - nD l a6 4, 0⟩, (rawD l a6).2, by simp only; omega, ?_⟩
    simp only [eSetup]
    rw [callL_code g_base_Src_Setup (by simp)]; simp -implicitDefEqProofs (maxSteps := 4000000) (disch := omega) only [c_base_Src_Setup, r_base_Src_Setup, go_sem, n_ok, range_ok, ← q1, ← q2, ← q3, ← q4, ← q5, ← q6, c1, c2]
  by_cases c3 : nD l a5 12 = 11
  · refine ⟨⟨1 + nD l a 4, 1 + nD l a4 (1 + nD l a 4 - 1 + 1), 1 + nD l a1 5, 1 + nD l a2 4, 1 + nD l a3 3, 0, 1, 65536 - nD l a6 3⟩, (rawD l a6).2, by simp only; omega, ?_⟩
    simp only [eSetup]
    rw [callL_code g_base_Src_Setup (by simp)]; simp -implicitDefEqProofs (maxSteps := 4000000) (disch := omega) only [c_base_Src_Setup, r_base_Src_Setup, go_sem, n_ok, range_ok, ← q1, ← q2, ← q3, ← q4, ← q5, ← q6, c1, c2, c3]
  · refine ⟨⟨1 + nD l a 4, 1 + nD l a4 (1 + nD l a 4 - 1 + 1), 1 + nD l a1 5, 1 + nD l a2 4, 1 + nD l a3 3, 0, 1, 0⟩, a6, by simp only; omega, ?_⟩
    simp only [eSetup]
    rw [callL_code g_base_Src_Setup (by simp)]; simp -implicitDefEqProofs (maxSteps := 4000000) (disch := omega) only [c_base_Src_Setup, r_base_Src_Setup, go_sem, n_ok, range_ok, ← q1, ← q2, ← q3, ← q4, ← q5, ← q6, c1, c2, c3]
theorem setup_ok0 (l : List Int) (hL : l.length ≤ 4000) : ∃ x a', (1 ≤ x.slots ∧ x.slots ≤ 4 ∧ 1 ≤ x.live ∧ x.live ≤ x.slots ∧ 1 ≤ x.capacity ∧ x.capacity ≤ 5 ∧ 1 ≤ x.dead ∧ x.dead ≤ 4 ∧ 1 ≤ x.limit ∧ x.limit ≤ 3 ∧ 0 ≤ x.clock ∧ x.clock ≤ 1073741824 ∧ 1 ≤ x.nextID ∧ x.nextID ≤ 1073741824 ∧ 0 ≤ x.epoch ∧ x.epoch ≤ 65536) ∧ callL G N_base_Src_Setup [.ref 1000000 0 0] [(1000000, .row [.d (.agg [.sl (ints l), .int .i64 0])])] = some (.d (eSetup x), [(1000000, srcO l a')]) := setup_ok l 0 hL
end Go.Proofs.Ytkdjbfjohbiemaa

namespace Go.Proofs.Ytkdjbfjohbiemaa
open Go Go.Sim
set_option linter.unusedSimpArgs false
set_option linter.unusedVariables false
set_option maxHeartbeats 10000000
set_option maxRecDepth 40000
theorem idx_api_Span (l : List Span) (g : Nat) (cs : List D) (p : Span → Bool) (hL : l.length ≤ 4294967296) (hp : ∀ a ∈ l, callL G g (.d (eSpan a) :: cs.map .d) [] = some (.d (.bool (p a)), [])) : callL G N_slices_IndexFunc_api_Span [.d (.sl (l.map eSpan)), .d (.fn g cs)] [] = some (.d (.int .i64 (idxI p l)), []) := by
  have := loop_find (G := G) (x := l_slices_IndexFunc_api_Span_0) (ks := []) l.length (atB l p) (fun k => ⟨[(0, .d (.sl (l.map eSpan))), (1, .d (.fn g cs)), (7, .d (.int .i64 l.length)), (8, .d (.int .i64 k))], []⟩) (fun k => (.ret, ⟨[(4, .d (.int .i64 k))], []⟩)) (.exit 0, ⟨[], []⟩) (fun k hk L => by
    simp only [l_slices_IndexFunc_api_Span_0]
    by_cases h0 : k < l.length
    · have h1 := hp l[k] (List.getElem_mem h0)
      simp only [atB_at h0]
      cases h2 : p l[k]
      · rw [h2] at h1
        simp -implicitDefEqProofs (disch := omega) only [go_sem, h1, eSpan_size, eSpan_asAgg]
      · rw [h2] at h1
        simp -implicitDefEqProofs (disch := omega) only [go_sem, h1, eSpan_size, eSpan_asAgg]
    · simp -implicitDefEqProofs (disch := omega) only [go_sem, Nat.zero_add])
  rw [findR_idx] at this
  simp only [Int.natCast_add, Int.natCast_one, Int.natCast_zero, Int.natCast_mul, Int.cast_ofNat_Int, List.length_append, List.length_map, List.map_nil, List.length_nil, List.map_append, List.map_cons, List.length_cons, Nat.zero_add, srcO] at this
  unfold idxI
  cases h : l.findIdx? p with
  | none => rw [h] at this; rw [callL_code g_slices_IndexFunc_api_Span (by simp)]; simp -implicitDefEqProofs (disch := omega) only [c_slices_IndexFunc_api_Span, r_slices_IndexFunc_api_Span, go_sem, this]
  | some i => rw [h] at this; rw [callL_code g_slices_IndexFunc_api_Span (by simp)]; simp -implicitDefEqProofs (disch := omega) only [c_slices_IndexFunc_api_Span, r_slices_IndexFunc_api_Span, go_sem, this]
theorem contains_api_Span (l : List Span) (g : Nat) (cs : List D) (p : Span → Bool) (hL : l.length ≤ 4294967296) (hp : ∀ a ∈ l, callL G g (.d (eSpan a) :: cs.map .d) [] = some (.d (.bool (p a)), [])) : callL G N_slices_ContainsFunc_api_Span [.d (.sl (l.map eSpan)), .d (.fn g cs)] [] = some (.d (.bool (l.any p)), []) := by
  rw [callL_code g_slices_ContainsFunc_api_Span (by simp)]; simp -implicitDefEqProofs (disch := omega) only [c_slices_ContainsFunc_api_Span, r_slices_ContainsFunc_api_Span, go_sem, idx_api_Span l g cs p hL hp, idxI_any]
def findS (l : List Span) (slot : Int) : Int := idxI (fun x => decide (x.shard = slot)) l
def tileN : Int → List Span → Option Int
  | n, [] => some n
  | n, x :: l => if x.low = n ∧ x.low ≤ x.high ∧ x.high < 65536 then tileN (x.high + 1) l else none
def chase (F : List Int) : Nat → Int → Int
  | 0, a => a
  | m + 1, a => chase F m (if 0 ≤ a then F.getD a.toNat 0 else a)
def fwdAt (d : Directory) (i : Nat) : Bool := !((decide (0 ≤ findS d.l i) && !decide (d.forward.getD i 0 = -1)) || decide (d.forward.getD i 0 < -1) || decide ((d.forward.length : Int) ≤ d.forward.getD i 0))
def fwdOk (d : Directory) : Bool := ((List.range d.forward.length).all (fwdAt d)) && (List.range d.forward.length).all fun i => decide (chase d.forward d.forward.length i < 0)
def missB (n : Nat) (x : Span) : Bool := decide (x.shard < 0) || decide ((n : Int) ≤ x.shard)
def dupS (l : List Span) (i : Nat) : Bool := decide (findS l (l.getD i zSpan).shard = i)
def dirV (d : Directory) : Int :=
  if d.version < 1 ∨ 1099511627776 < d.version ∨ d.forward.length < 1 ∨ 6 < d.forward.length then 1
  else if tileN 0 d.l ≠ some 65536 then 7
  else if d.l.any (missB d.forward.length) = true then 4
  else if (List.range d.l.length).all (dupS d.l) = false then 10
  else if fwdOk d = false then 7 else 0
theorem dfind1_ok (x : Span) (j : Int) : callL G N_directory_find_1 [.d (eSpan x), .d (.pd (.int .i64 j))] [] = some (.d (.bool (decide (x.shard = j))), []) := by
  simp only [eSpan]
  rw [callL_code g_directory_find_1 (by simp)]; simp -implicitDefEqProofs (disch := omega) only [c_directory_find_1, r_directory_find_1, go_sem, Nat.zero_add]
theorem dfind_ok (l : List Span) (j : Int) (hL : l.length ≤ 4294967296) : callL G N_directory_find [.d (.sl (l.map eSpan)), .d (.int .i64 j)] [] = some (.d (.int .i64 (findS l j)), []) := by
  have := idx_api_Span l N_directory_find_1 [.pd (.int .i64 j)] (fun x => decide (x.shard = j)) hL (fun a _ => dfind1_ok a j)
  rw [callL_code g_directory_find (by simp)]; simp -implicitDefEqProofs (disch := omega) only [c_directory_find, r_directory_find, go_sem, this]
  rfl
def tileR (l : List Span) (k : Nat) (n : Int) : AExit × St := match tileN n (l.drop k) with | some m => (.exit 0, ⟨[(3, .d (.int .i64 m))], []⟩) | none => (.ret, ⟨[(2, .d (.bool false))], []⟩)
theorem tile_loop (l : List Span) (hL : l.length ≤ 4294967296) : ∀ p : Nat × Int, p.1 ≤ l.length ∧ 0 ≤ p.2 ∧ p.2 ≤ 65536 → loopL G [] l_directory_tiles_0 ⟨[(3, .d (.int .i64 p.2)), (6, .d (.sl (l.map eSpan))), (7, .d (.int .i64 l.length)), (8, .d (.int .i64 p.1))], []⟩ = some (tileR l p.1 p.2) := by
  refine loop_ind (fun p : Nat × Int => l.length - p.1) _ (fun p : Nat × Int => ⟨[(3, .d (.int .i64 p.2)), (6, .d (.sl (l.map eSpan))), (7, .d (.int .i64 l.length)), (8, .d (.int .i64 p.1))], []⟩) _ fun ⟨k, n⟩ ⟨hk, h1, h2⟩ L ih => ?_
  simp only at ih hk h1 h2 ⊢
  simp only [l_directory_tiles_0]
  unfold tileR
  by_cases h0 : k < l.length
  · rw [List.drop_eq_getElem_cons h0, tileN]
    by_cases c1 : l[k].low = n
    · by_cases c2 : l[k].low ≤ l[k].high
      · by_cases c3 : l[k].high < 65536
        · have := ih (k + 1, l[k].high + 1) ⟨by simp only; omega, by simp only; omega, by simp only; omega⟩ (by simp only; omega)
          simp only [Int.natCast_add, Int.natCast_one, Int.natCast_zero, Int.natCast_mul, Int.cast_ofNat_Int, List.length_append, List.length_map, List.map_nil, List.length_nil, List.map_append, List.map_cons, List.length_cons, Nat.zero_add, srcO] at this
          rw [if_pos ⟨c1, c2, c3⟩]
          simp -implicitDefEqProofs (disch := omega) only [go_sem, eSpan, this]
          rfl
        · rw [if_neg (fun h => c3 h.2.2)]
          simp -implicitDefEqProofs (disch := omega) only [go_sem, eSpan]
      · rw [if_neg (fun h => c2 h.2.1)]
        simp -implicitDefEqProofs (disch := omega) only [go_sem, eSpan]
    · rw [if_neg (fun h => c1 h.1)]
      simp -implicitDefEqProofs (disch := omega) only [go_sem, eSpan, c1]
  · rw [List.drop_of_length_le (by omega), tileN]
    simp -implicitDefEqProofs (disch := omega) only [go_sem, Nat.zero_add]
theorem tiles_ok (l : List Span) (hL : l.length ≤ 4294967296) : callL G N_directory_tiles [.d (.sl (l.map eSpan))] [] = some (.d (.bool (decide (tileN 0 l = some 65536))), []) := by
  have := tile_loop l hL (0, 0) ⟨by omega, by omega, by omega⟩
  simp only [tileR, List.drop_zero] at this
  simp only [Int.natCast_add, Int.natCast_one, Int.natCast_zero, Int.natCast_mul, Int.cast_ofNat_Int, List.length_append, List.length_map, List.map_nil, List.length_nil, List.map_append, List.map_cons, List.length_cons, Nat.zero_add, srcO] at this
  cases h : tileN 0 l with
  | none => rw [h] at this; rw [callL_code g_directory_tiles (by simp)]; simp -implicitDefEqProofs (disch := omega) only [c_directory_tiles, r_directory_tiles, go_sem, this]
  | some m =>
    rw [h] at this
    rw [callL_code g_directory_tiles (by simp)]; simp -implicitDefEqProofs (disch := omega) only [c_directory_tiles, r_directory_tiles, go_sem, this]
    simp
def obD (o : Nat) (d : Directory) : Nat × Go.Sim.Obj := (o, .row [.d (eDirectory d)])
theorem fwd_loop0 (d : Directory) (hL : d.l.length ≤ 4294967296) (hF : d.forward.length ≤ 6) : loopL G [] l_directory_forwards_0 ⟨[(1, .ref 1 0 0), (9, .d (.sl (ints d.forward))), (10, .d (.int .i64 d.forward.length)), (11, .d (.int .i64 0))], [obD 1 d]⟩ = some (if (List.range d.forward.length).all (fwdAt d) = true then (.exit 0, ⟨[(1, .ref 1 0 0)], [obD 1 d]⟩) else (.ret, ⟨[(2, .d (.bool false))], []⟩)) := by
  have := loop_all (G := G) (x := l_directory_forwards_0) (ks := []) d.forward.length (fwdAt d) (fun k => ⟨[(1, .ref 1 0 0), (9, .d (.sl (ints d.forward))), (10, .d (.int .i64 d.forward.length)), (11, .d (.int .i64 k))], [obD 1 d]⟩) (.ret, ⟨[(2, .d (.bool false))], []⟩) (.exit 0, ⟨[(1, .ref 1 0 0)], [obD 1 d]⟩) (fun k hk L => by
    simp only [l_directory_forwards_0, obD, eDirectory]
    by_cases h0 : k < d.forward.length
    · have hg : (d.forward.map (D.int .i64))[k]? = some (.int .i64 (d.forward.getD k 0)) := by simp [List.getElem?_eq_getElem h0, h0]
      unfold fwdAt
      generalize d.forward.getD k 0 = t at *
      by_cases c1 : 0 ≤ findS d.l k
      · by_cases c2 : t = -1
        · simp -implicitDefEqProofs (disch := omega) only [go_sem, hg, dfind_ok, c1, c2]
        · simp -implicitDefEqProofs (disch := omega) only [go_sem, hg, dfind_ok, c1, c2]
      · by_cases c3 : t < -1
        · simp -implicitDefEqProofs (disch := omega) only [go_sem, hg, dfind_ok, c1, c3]
        · by_cases c4 : (d.forward.length : Int) ≤ t
          · simp -implicitDefEqProofs (disch := omega) only [go_sem, hg, dfind_ok, c1, c3, c4]
          · simp -implicitDefEqProofs (disch := omega) only [go_sem, hg, dfind_ok, c1, c3, c4]
    · simp -implicitDefEqProofs (disch := omega) only [go_sem, Nat.zero_add])
  simp only [Int.natCast_add, Int.natCast_one, Int.natCast_zero, Int.natCast_mul, Int.cast_ofNat_Int, List.length_append, List.length_map, List.map_nil, List.length_nil, List.map_append, List.map_cons, List.length_cons, Nat.zero_add, srcO] at this
  exact this
theorem chase_loop (d : Directory) (i : Nat) (hF : d.forward.length ≤ 6) (hv : ∀ a ∈ d.forward, -1 ≤ a ∧ a < d.forward.length) : ∀ p : Nat × Int, p.1 ≤ d.forward.length ∧ -1 ≤ p.2 ∧ p.2 < d.forward.length → loopL G [] l_directory_forwards_1 ⟨[(1, .ref 1 0 0), (7, .d (.int .i64 p.2)), (40, .d (.int .i64 d.forward.length)), (41, .d (.int .i64 i)), (47, .d (.int .i64 d.forward.length)), (48, .d (.int .i64 p.1))], [obD 1 d]⟩ = some (.exit 4, ⟨[(1, .ref 1 0 0), (7, .d (.int .i64 (chase d.forward (d.forward.length - p.1) p.2))), (40, .d (.int .i64 d.forward.length)), (41, .d (.int .i64 i))], [obD 1 d]⟩) := by
  refine loop_ind (fun p : Nat × Int => d.forward.length - p.1) _ (fun p : Nat × Int => ⟨[(1, .ref 1 0 0), (7, .d (.int .i64 p.2)), (40, .d (.int .i64 d.forward.length)), (41, .d (.int .i64 i)), (47, .d (.int .i64 d.forward.length)), (48, .d (.int .i64 p.1))], [obD 1 d]⟩) _ fun ⟨k, a⟩ ⟨hk, h1, h2⟩ L ih => ?_
  simp only [obD, eDirectory] at ih hk h1 h2 ⊢
  simp only [l_directory_forwards_1]
  by_cases h0 : k < d.forward.length
  · rw [show d.forward.length - k = (d.forward.length - (k + 1)) + 1 by omega, chase]
    by_cases c1 : 0 ≤ a
    · have hlt : a.toNat < d.forward.length := by omega
      have hg : (d.forward.map (D.int .i64))[a.toNat]? = some (.int .i64 (d.forward.getD a.toNat 0)) := by simp [List.getElem?_eq_getElem hlt, hlt]
      have hm := hv (d.forward.getD a.toNat 0) (by simp [hlt])
      have := ih (k + 1, d.forward.getD a.toNat 0) ⟨by simp only; omega, hm.1, hm.2⟩ (by simp only; omega)
      rw [if_pos c1]
      simp only [Int.natCast_add, Int.natCast_one, Int.natCast_zero, Int.natCast_mul, Int.cast_ofNat_Int, List.length_append, List.length_map, List.map_nil, List.length_nil, List.map_append, List.map_cons, List.length_cons, Nat.zero_add, srcO] at this
      simp -implicitDefEqProofs (disch := omega) only [go_sem, hg, this]
    · have := ih (k + 1, a) ⟨by simp only; omega, h1, h2⟩ (by simp only; omega)
      rw [if_neg c1]
      simp only [Int.natCast_add, Int.natCast_one, Int.natCast_zero, Int.natCast_mul, Int.cast_ofNat_Int, List.length_append, List.length_map, List.map_nil, List.length_nil, List.map_append, List.map_cons, List.length_cons, Nat.zero_add, srcO] at this
      simp -implicitDefEqProofs (disch := omega) only [go_sem, this]
  · rw [show d.forward.length - k = 0 by omega, chase]
    simp -implicitDefEqProofs (disch := omega) only [go_sem, Nat.zero_add]
end Go.Proofs.Ytkdjbfjohbiemaa

namespace Go.Proofs.Ytkdjbfjohbiemaa
open Go Go.Sim
set_option linter.unusedSimpArgs false
set_option linter.unusedVariables false
set_option maxHeartbeats 10000000
set_option maxRecDepth 40000
theorem fwdAt_in {d : Directory} (h : (List.range d.forward.length).all (fwdAt d) = true) : ∀ a ∈ d.forward, -1 ≤ a ∧ a < d.forward.length := by
  intro a ha
  obtain ⟨i, hi, rfl⟩ := List.mem_iff_getElem.1 ha
  have := List.all_eq_true.1 h i (List.mem_range.2 hi)
  unfold fwdAt at this
  have e : d.forward.getD i 0 = d.forward[i] := by simp [hi]
  rw [e] at this
  simp only [Bool.not_eq_true', Bool.or_eq_false_iff, decide_eq_false_iff_not] at this
  omega
theorem fwd_loop2 (d : Directory) (hF : d.forward.length ≤ 6) (hv : ∀ a ∈ d.forward, -1 ≤ a ∧ a < d.forward.length) : loopL G [] l_directory_forwards_2 ⟨[(1, .ref 1 0 0), (40, .d (.int .i64 d.forward.length)), (41, .d (.int .i64 0))], [obD 1 d]⟩ = some (if ((List.range d.forward.length).all fun i => decide (chase d.forward d.forward.length i < 0)) = true then (.exit 2, ⟨[], []⟩) else (.ret, ⟨[(2, .d (.bool false))], []⟩)) := by
  have := loop_all (G := G) (x := l_directory_forwards_2) (ks := []) d.forward.length (fun i => decide (chase d.forward d.forward.length i < 0)) (fun k => ⟨[(1, .ref 1 0 0), (40, .d (.int .i64 d.forward.length)), (41, .d (.int .i64 k))], [obD 1 d]⟩) (.ret, ⟨[(2, .d (.bool false))], []⟩) (.exit 2, ⟨[], []⟩) (fun k hk L => by
    simp only [l_directory_forwards_2]
    by_cases h0 : k < d.forward.length
    · have hc := chase_loop d k hF hv (0, (k : Int)) ⟨by omega, by simp only; omega, by simp only; omega⟩
      simp only [obD, eDirectory, Nat.sub_zero] at hc ⊢
      simp only [Int.natCast_add, Int.natCast_one, Int.natCast_zero, Int.natCast_mul, Int.cast_ofNat_Int, List.length_append, List.length_map, List.map_nil, List.length_nil, List.map_append, List.map_cons, List.length_cons, Nat.zero_add, srcO] at hc
      by_cases c1 : chase d.forward d.forward.length k < 0
      · simp -implicitDefEqProofs (disch := omega) only [go_sem, hc, c1]
      · simp -implicitDefEqProofs (disch := omega) only [go_sem, hc, c1]
    · simp only [obD, eDirectory]
      simp -implicitDefEqProofs (disch := omega) only [go_sem, Nat.zero_add])
  simp only [Int.natCast_add, Int.natCast_one, Int.natCast_zero, Int.natCast_mul, Int.cast_ofNat_Int, List.length_append, List.length_map, List.map_nil, List.length_nil, List.map_append, List.map_cons, List.length_cons, Nat.zero_add, srcO] at this
  exact this
theorem forwards_ok (d : Directory) (hL : d.l.length ≤ 4294967296) (hF : d.forward.length ≤ 6) : callL G N_directory_forwards [.d (eDirectory d)] [] = some (.d (.bool (fwdOk d)), []) := by
  have h1 := fwd_loop0 d hL hF
  simp only [obD, eDirectory] at h1 ⊢
  unfold fwdOk
  cases c1 : (List.range d.forward.length).all (fwdAt d)
  · rw [c1] at h1
    simp only [Bool.false_eq_true, if_false] at h1
    rw [callL_code g_directory_forwards (by simp)]; simp -implicitDefEqProofs (disch := omega) only [c_directory_forwards, r_directory_forwards, go_sem, h1]
  · rw [c1] at h1
    simp only [if_true] at h1
    have h2 := fwd_loop2 d hF (fwdAt_in c1)
    simp only [obD, eDirectory] at h2
    cases c2 : ((List.range d.forward.length).all fun i => decide (chase d.forward d.forward.length i < 0))
    · rw [c2] at h2
      simp only [Bool.false_eq_true, if_false] at h2
      rw [callL_code g_directory_forwards (by simp)]; simp -implicitDefEqProofs (disch := omega) only [c_directory_forwards, r_directory_forwards, go_sem, h1, h2]
    · rw [c2] at h2
      simp only [if_true] at h2
      rw [callL_code g_directory_forwards (by simp)]; simp -implicitDefEqProofs (disch := omega) only [c_directory_forwards, r_directory_forwards, go_sem, h1, h2]
theorem dVal1_ok (n : Nat) (x : Span) : callL G N_directory_Validate_1 [.d (eSpan x), .d (.pd (.int .i64 n))] [] = some (.d (.bool (missB n x)), []) := by
  simp only [eSpan]
  unfold missB
  rw [callL_code g_directory_Validate_1 (by simp)]; simp -implicitDefEqProofs (disch := omega) only [c_directory_Validate_1, r_directory_Validate_1, go_sem, Nat.zero_add]
theorem dVal_loop (d : Directory) (hL : d.l.length ≤ 4294967296) : loopL G [] l_directory_Validate_0 ⟨[(1, .ref 1 0 0), (37, .d (.sl (d.l.map eSpan))), (38, .d (.int .i64 d.l.length)), (39, .d (.int .i64 0))], [obD 1 d]⟩ = some (if (List.range d.l.length).all (dupS d.l) = true then (.exit 1, ⟨[(1, .ref 1 0 0)], [obD 1 d]⟩) else (.ret, ⟨[(2, .d (.int .i64 10))], []⟩)) := by
  have := loop_all (G := G) (x := l_directory_Validate_0) (ks := []) d.l.length (dupS d.l) (fun k => ⟨[(1, .ref 1 0 0), (37, .d (.sl (d.l.map eSpan))), (38, .d (.int .i64 d.l.length)), (39, .d (.int .i64 k))], [obD 1 d]⟩) (.ret, ⟨[(2, .d (.int .i64 10))], []⟩) (.exit 1, ⟨[(1, .ref 1 0 0)], [obD 1 d]⟩) (fun k hk L => by
    simp only [l_directory_Validate_0, obD, eDirectory]
    by_cases h0 : k < d.l.length
    · have hg : d.l.getD k zSpan = d.l[k] := by simp [h0]
      unfold dupS
      rw [hg]
      by_cases c1 : findS d.l d.l[k].shard = k
      · simp -implicitDefEqProofs (disch := omega) only [go_sem, eSpan, dfind_ok, c1]
      · simp -implicitDefEqProofs (disch := omega) only [go_sem, eSpan, dfind_ok, c1]
    · simp -implicitDefEqProofs (disch := omega) only [go_sem, Nat.zero_add])
  simp only [Int.natCast_add, Int.natCast_one, Int.natCast_zero, Int.natCast_mul, Int.cast_ofNat_Int, List.length_append, List.length_map, List.map_nil, List.length_nil, List.map_append, List.map_cons, List.length_cons, Nat.zero_add, srcO] at this
  exact this
theorem dValidate_ok (d : Directory) (hL : d.l.length ≤ 4294967296) (hF : d.forward.length ≤ 4294967296) : callL G N_directory_Validate [.d (eDirectory d)] [] = some (.d (.int .i64 (dirV d)), []) := by
  unfold dirV
  by_cases c1 : d.version < 1
  · rw [if_pos (Or.inl c1)]
    simp only [eDirectory]
    rw [callL_code g_directory_Validate (by simp)]; simp -implicitDefEqProofs (disch := omega) only [c_directory_Validate, r_directory_Validate, go_sem, Nat.zero_add]
  by_cases c2 : 1099511627776 < d.version
  · rw [if_pos (Or.inr (Or.inl c2))]
    simp only [eDirectory]
    rw [callL_code g_directory_Validate (by simp)]; simp -implicitDefEqProofs (disch := omega) only [c_directory_Validate, r_directory_Validate, go_sem, Nat.zero_add]
  by_cases c3 : d.forward.length < 1
  · rw [if_pos (Or.inr (Or.inr (Or.inl c3)))]
    simp only [eDirectory]
    rw [callL_code g_directory_Validate (by simp)]; simp -implicitDefEqProofs (disch := omega) only [c_directory_Validate, r_directory_Validate, go_sem, Nat.zero_add]
  by_cases c4 : 6 < d.forward.length
  · rw [if_pos (Or.inr (Or.inr (Or.inr c4)))]
    simp only [eDirectory]
    rw [callL_code g_directory_Validate (by simp)]; simp -implicitDefEqProofs (disch := omega) only [c_directory_Validate, r_directory_Validate, go_sem, Nat.zero_add]
  rw [if_neg (by omega)]
  have ht := tiles_ok d.l hL
  have hm := contains_api_Span d.l N_directory_Validate_1 [.pd (.int .i64 d.forward.length)] (missB d.forward.length) hL (fun a _ => dVal1_ok _ a)
  have hd := dVal_loop d hL
  have hf := forwards_ok d hL (by omega)
  simp only [eDirectory, obD] at hd hf ⊢
  by_cases c5 : tileN 0 d.l = some 65536
  · simp only [c5, decide_true] at ht
    simp only [c5, ne_eq, not_true_eq_false, if_false]
    cases c6 : d.l.any (missB d.forward.length)
    · rw [c6] at hm
      cases c7 : (List.range d.l.length).all (dupS d.l)
      · rw [c7] at hd
        simp only [Bool.false_eq_true, if_false] at hd
        rw [callL_code g_directory_Validate (by simp)]; simp -implicitDefEqProofs (disch := omega) only [c_directory_Validate, r_directory_Validate, go_sem, ht, hm, hd]
      · rw [c7] at hd
        simp only [if_true] at hd
        cases c8 : fwdOk d
        · rw [c8] at hf
          rw [callL_code g_directory_Validate (by simp)]; simp -implicitDefEqProofs (disch := omega) only [c_directory_Validate, r_directory_Validate, go_sem, ht, hm, hd, hf]
        · rw [c8] at hf
          rw [callL_code g_directory_Validate (by simp)]; simp -implicitDefEqProofs (disch := omega) only [c_directory_Validate, r_directory_Validate, go_sem, ht, hm, hd, hf]
    · rw [c6] at hm
      rw [callL_code g_directory_Validate (by simp)]; simp -implicitDefEqProofs (disch := omega) only [c_directory_Validate, r_directory_Validate, go_sem, ht, hm]
  · simp only [c5, decide_false] at ht
    simp only [c5, ne_eq, not_false_eq_true, if_true]
    rw [callL_code g_directory_Validate (by simp)]; simp -implicitDefEqProofs (disch := omega) only [c_directory_Validate, r_directory_Validate, go_sem, ht]
def spanD (d : Directory) (slot : Int) : Span × Bool := if dirV d = 0 ∧ 0 ≤ findS d.l slot then (d.l.getD (findS d.l slot).toNat zSpan, true) else (zSpan, false)
theorem findS_lt (l : List Span) (j : Int) : -1 ≤ findS l j ∧ findS l j < l.length := idxI_lt _ _
theorem dSpan_ok (d : Directory) (slot : Int) (hL : d.l.length ≤ 4294967296) (hF : d.forward.length ≤ 4294967296) : callL G N_directory_Span [.d (eDirectory d), .d (.int .i64 slot)] [] = some (.d (.tup [eSpan (spanD d slot).1, .bool (spanD d slot).2]), []) := by
  have hv := dValidate_ok d hL hF
  have hf := dfind_ok d.l slot hL
  have hlt := findS_lt d.l slot
  unfold spanD
  simp only [eDirectory] at hv ⊢
  by_cases c1 : dirV d = 0
  · by_cases c2 : 0 ≤ findS d.l slot
    · rw [if_pos ⟨c1, c2⟩]
      have hl2 : (findS d.l slot).toNat < d.l.length := by omega
      have hg : (d.l.map eSpan)[(findS d.l slot).toNat]? = some (eSpan (d.l.getD (findS d.l slot).toNat zSpan)) := by simp [List.getElem?_eq_getElem hl2, hl2]
      simp only
      generalize d.l.getD (findS d.l slot).toNat zSpan = x at *
      simp only [eSpan] at hg ⊢
      rw [callL_code g_directory_Span (by simp)]; simp -implicitDefEqProofs (disch := omega) only [c_directory_Span, r_directory_Span, go_sem, hv, hf, hg, c1]
    · rw [if_neg (fun h => c2 h.2)]
      simp only [eSpan, zSpan]
      rw [callL_code g_directory_Span (by simp)]; simp -implicitDefEqProofs (disch := omega) only [c_directory_Span, r_directory_Span, go_sem, hv, hf, c1]
  · rw [if_neg (fun h => c1 h.1)]
    simp only [eSpan, zSpan]
    rw [callL_code g_directory_Span (by simp)]; simp -implicitDefEqProofs (disch := omega) only [c_directory_Span, r_directory_Span, go_sem, hv, c1]
end Go.Proofs.Ytkdjbfjohbiemaa

namespace Go.Proofs.Ytkdjbfjohbiemaa
open Go Go.Sim
set_option linter.unusedSimpArgs false
set_option linter.unusedVariables false
set_option maxHeartbeats 10000000
set_option maxRecDepth 40000
def spanI (live : Int) (i : Nat) : Span := ⟨(i : Int) * 65536 / live, ((i : Int) + 1) * 65536 / live - 1, i⟩
def spansN (live : Int) (k : Nat) : List Span := (List.range k).map (spanI live)
theorem spansN_len (live : Int) (k : Nat) : (spansN live k).length = k := by simp [spansN]
theorem spansN_succ (live : Int) (k : Nat) : spansN live (k + 1) = spansN live k ++ [spanI live k] := by simp [spansN, List.range_succ]
def dirN (slots live : Nat) : Directory := ⟨1, spansN live live, List.replicate slots (-1)⟩
def newD (slots live : Int) : Directory × Int := if live < 1 ∨ slots < live ∨ 6 < slots then (zDirectory, 1) else (dirN slots.toNat live.toNat, 0)
def ob4 : Nat × Go.Sim.Obj := (4, .row [.agg [.d (.int .i64 0), .xsl [], .xsl []]])
theorem dnew_loop0 (slots live : Nat) (h1 : 1 ≤ live) (h2 : live ≤ slots) (h3 : slots ≤ 6) : ∀ k, 1 ≤ k ∧ k ≤ live → loopL G [] l_directory_New_0 ⟨[(0, .d (.int .i64 slots)), (1, .d (.int .i64 live)), (4, .ref 4 0 0), (6, .ref 6 0 0), (21, .d (.int .i64 live)), (22, .d (.int .i64 k))], [ob4, (6, .row [.agg [.d (.int .i64 1), .acc 500040 ((spansN live k).map eSpan), .xsl []]]), (500040, .acc k)]⟩ = some (.exit 0, ⟨[(0, .d (.int .i64 slots)), (4, .ref 4 0 0), (6, .ref 6 0 0)], [ob4, (6, .row [.agg [.d (.int .i64 1), .acc 500040 ((spansN live live).map eSpan), .xsl []]]), (500040, .acc live)]⟩) := by
  refine loop_ind (fun k => live - k) _ _ _ fun k ⟨hk, hk2⟩ L ih => ?_
  simp only [ob4] at ih ⊢
  simp only [l_directory_New_0]
  by_cases h0 : k < live
  · have := ih (k + 1) ⟨by omega, by omega⟩ (by omega)
    rw [spansN_succ] at this
    have hq1 : 0 ≤ (k : Int) * 65536 / (live : Int) ∧ (k : Int) * 65536 / (live : Int) ≤ 1000000 := by
      refine ⟨Int.ediv_nonneg (by omega) (by omega), Int.le_trans (Int.ediv_le_self _ (by omega)) (by omega)⟩
    have hq2 : 0 ≤ ((k : Int) + 1) * 65536 / (live : Int) ∧ ((k : Int) + 1) * 65536 / (live : Int) ≤ 1000000 := by
      refine ⟨Int.ediv_nonneg (by omega) (by omega), Int.le_trans (Int.ediv_le_self _ (by omega)) (by omega)⟩
    obtain ⟨es, hes⟩ : ∃ es, es = spansN live k := ⟨_, rfl⟩
    have hesl : es.length = k := by rw [hes, spansN_len]
    rw [← hes] at this ⊢
    simp only [spanI, eSpan, List.map_append, List.map_cons, List.map_nil, Int.natCast_add, Int.natCast_one] at this
    simp -implicitDefEqProofs (disch := omega) only [go_sem, tdivE, hesl, allSize_Span, this]
  · have : k = live := by omega
    subst this
    simp -implicitDefEqProofs (disch := omega) only [go_sem, Nat.zero_add]
theorem dnew_first0 (slots live : Nat) (h1 : 1 ≤ live) (h2 : live ≤ slots) (h3 : slots ≤ 6) : loopL G [] l_directory_New_0 ⟨[(0, .d (.int .i64 slots)), (1, .d (.int .i64 live)), (4, .ref 4 0 0), (6, .ref 6 0 0), (21, .d (.int .i64 live)), (22, .d (.int .i64 0))], [ob4, (6, .row [.agg [.d (.int .i64 1), .xsl [], .xsl []]])]⟩ = some (.exit 0, ⟨[(0, .d (.int .i64 slots)), (4, .ref 4 0 0), (6, .ref 6 0 0)], [ob4, (6, .row [.agg [.d (.int .i64 1), .acc 500040 ((spansN live live).map eSpan), .xsl []]]), (500040, .acc live)]⟩) := by
  have h := dnew_loop0 slots live h1 h2 h3 1 ⟨by omega, h1⟩
  simp only [spansN, spanI, eSpan, ob4, List.range_one, List.map_cons, List.map_nil] at h
  simp only [Int.natCast_add, Int.natCast_one, Int.natCast_zero, Int.natCast_mul, Int.cast_ofNat_Int, List.length_append, List.length_map, List.map_nil, List.length_nil, List.map_append, List.map_cons, List.length_cons, Nat.zero_add, srcO] at h
  rw [loopL_eq]
  have hq2 : 0 ≤ (65536 : Int) / (live : Int) ∧ (65536 : Int) / (live : Int) ≤ 65536 := by
    refine ⟨Int.ediv_nonneg (by omega) (by omega), Int.ediv_le_self _ (by omega)⟩
  generalize hF : loopL G [] l_directory_New_0 = F at h ⊢
  simp only [l_directory_New_0, ob4]
  simp only [Int.zero_mul, Int.zero_ediv, Int.zero_add, Int.one_mul] at h
  simp -implicitDefEqProofs (disch := omega) only [go_sem, tdivE, Int.zero_mul, Int.zero_ediv, Int.zero_add, Int.one_mul]
  rw [h]
  simp only [spansN, spanI, eSpan]
theorem dnew_loop1 (slots : Nat) (h3 : slots ≤ 6) (es : List D) (m : Nat) : ∀ k, 1 ≤ k ∧ k ≤ slots → loopL G [] l_directory_New_1 ⟨[(4, .ref 4 0 0), (6, .ref 6 0 0), (43, .d (.int .i64 slots)), (44, .d (.int .i64 k))], [ob4, (6, .row [.agg [.d (.int .i64 1), .acc 500040 es, .acc 49 (ints (List.replicate k (-1)))]]), (49, .acc k), (500040, .acc m)]⟩ = some (.exit 2, ⟨[(4, .ref 4 0 0), (6, .ref 6 0 0)], [ob4, (6, .row [.agg [.d (.int .i64 1), .acc 500040 es, .acc 49 (ints (List.replicate slots (-1)))]]), (49, .acc slots), (500040, .acc m)]⟩) := by
  refine loop_ind (fun k => slots - k) _ _ _ fun k ⟨hk, hk2⟩ L ih => ?_
  simp only [ob4] at ih ⊢
  simp only [l_directory_New_1]
  by_cases h0 : k < slots
  · have := ih (k + 1) ⟨by omega, by omega⟩ (by omega)
    rw [List.replicate_succ'] at this
    obtain ⟨fs, hfs⟩ : ∃ fs, fs = List.replicate k (-1 : Int) := ⟨_, rfl⟩
    have hl : fs.length = k := by rw [hfs, List.length_replicate]
    rw [← hfs] at this ⊢
    simp only [ints] at this ⊢
    simp only [Int.natCast_add, Int.natCast_one, Int.natCast_zero, Int.natCast_mul, Int.cast_ofNat_Int, List.length_append, List.length_map, List.map_nil, List.length_nil, List.map_append, List.map_cons, List.length_cons, Nat.zero_add, srcO] at this
    simp -implicitDefEqProofs (disch := omega) only [go_sem, hl, allSize_ints, this]
  · have : k = slots := by omega
    subst this
    simp -implicitDefEqProofs (disch := omega) only [go_sem, Nat.zero_add]
theorem dnew_first1 (slots : Nat) (h1 : 1 ≤ slots) (h3 : slots ≤ 6) (es : List D) (m : Nat) : loopL G [] l_directory_New_1 ⟨[(4, .ref 4 0 0), (6, .ref 6 0 0), (43, .d (.int .i64 slots)), (44, .d (.int .i64 0))], [ob4, (6, .row [.agg [.d (.int .i64 1), .acc 500040 es, .xsl []]]), (500040, .acc m)]⟩ = some (.exit 2, ⟨[(4, .ref 4 0 0), (6, .ref 6 0 0)], [ob4, (6, .row [.agg [.d (.int .i64 1), .acc 500040 es, .acc 49 (ints (List.replicate slots (-1)))]]), (49, .acc slots), (500040, .acc m)]⟩) := by
  have h := dnew_loop1 slots h3 es m 1 ⟨by omega, h1⟩
  simp only [List.replicate_one, ob4] at h
  simp only [Int.natCast_add, Int.natCast_one, Int.natCast_zero, Int.natCast_mul, Int.cast_ofNat_Int, List.length_append, List.length_map, List.map_nil, List.length_nil, List.map_append, List.map_cons, List.length_cons, Nat.zero_add, srcO] at h
  rw [loopL_eq]
  generalize hF : loopL G [] l_directory_New_1 = F at h ⊢
  simp only [l_directory_New_1, ob4]
  simp -implicitDefEqProofs (disch := omega) only [go_sem, h]
theorem dnew_ok (slots live : Int) : callL G N_directory_New [.d (.int .i64 slots), .d (.int .i64 live)] [] = some (.d (.tup [eDirectory (newD slots live).1, .int .i64 (newD slots live).2]), []) := by
  unfold newD
  by_cases c1 : live < 1
  · rw [if_pos (Or.inl c1)]
    simp only [eDirectory, zDirectory]
    rw [callL_code g_directory_New (by simp)]; simp -implicitDefEqProofs (disch := omega) only [c_directory_New, r_directory_New, go_sem, Nat.zero_add]
  by_cases c2 : slots < live
  · rw [if_pos (Or.inr (Or.inl c2))]
    simp only [eDirectory, zDirectory]
    rw [callL_code g_directory_New (by simp)]; simp -implicitDefEqProofs (disch := omega) only [c_directory_New, r_directory_New, go_sem, Nat.zero_add]
  by_cases c3 : 6 < slots
  · rw [if_pos (Or.inr (Or.inr c3))]
    simp only [eDirectory, zDirectory]
    rw [callL_code g_directory_New (by simp)]; simp -implicitDefEqProofs (disch := omega) only [c_directory_New, r_directory_New, go_sem, Nat.zero_add]
  rw [if_neg (by omega)]
  obtain ⟨s, hs⟩ : ∃ s, s = slots.toNat := ⟨_, rfl⟩
  obtain ⟨l, hl⟩ : ∃ l, l = live.toNat := ⟨_, rfl⟩
  rw [← hs, ← hl, show slots = (s : Int) by omega, show live = (l : Int) by omega] 
  have h0 := dnew_first0 s l (by omega) (by omega) (by omega)
  have h1 := dnew_first1 s (by omega) (by omega) ((spansN l l).map eSpan) l
  simp only [ob4] at h0 h1
  simp only [eDirectory, dirN]
  rw [callL_code g_directory_New (by simp)]; simp -implicitDefEqProofs (disch := omega) only [c_directory_New, r_directory_New, go_sem, h0, h1]
theorem newD_ok {s l : Nat} (h1 : 1 ≤ l) (h2 : l ≤ s) (h3 : s ≤ 6) : newD s l = (dirN s l, 0) := by
  unfold newD
  rw [if_neg (by omega)]
  rfl
theorem dirN_valid : ∀ s l : Nat, 1 ≤ l → l ≤ s → s ≤ 6 → dirV (dirN s l) = 0 ∧ (∀ i, i < s → findS (dirN s l).l i = if i < l then (i : Int) else -1) := by
  have key : ∀ s, s < 7 → ∀ l, l < 7 → 1 ≤ l → l ≤ s → dirV (dirN s l) = 0 ∧ (∀ i, i < s → findS (dirN s l).l i = if i < l then (i : Int) else -1) := by decide
  intro s l h1 h2 h3
  exact key s (by omega) l (by omega) h1 h2
end Go.Proofs.Ytkdjbfjohbiemaa

namespace Go.Proofs.Ytkdjbfjohbiemaa
open Go Go.Sim
set_option linter.unusedSimpArgs false
set_option linter.unusedVariables false
set_option maxHeartbeats 10000000
set_option maxRecDepth 40000
def ringN (cap : Int) : Ring := ⟨List.replicate cap.toNat zMessage, 0, 0⟩
def ringNew (cap : Int) : Ring × Int := if cap < 1 ∨ 12 < cap then (zRing, 1) else (ringN cap, 0)
theorem ringNew_ok (cap : Int) : callL G N_ring_New [.d (.int .i64 cap)] [] = some (.d (.tup [eRing (ringNew cap).1, .int .i64 (ringNew cap).2]), []) := by
  unfold ringNew
  by_cases c1 : cap < 1
  · rw [if_pos (Or.inl c1)]
    simp only [eRing, zRing]
    rw [callL_code g_ring_New (by simp)]; simp -implicitDefEqProofs (disch := omega) only [c_ring_New, r_ring_New, go_sem, Nat.zero_add]
  by_cases c2 : 12 < cap
  · rw [if_pos (Or.inr c2)]
    simp only [eRing, zRing]
    rw [callL_code g_ring_New (by simp)]; simp -implicitDefEqProofs (disch := omega) only [c_ring_New, r_ring_New, go_sem, Nat.zero_add]
  rw [if_neg (by omega)]
  obtain ⟨n, hn⟩ : ∃ n, n = cap.toNat := ⟨_, rfl⟩
  have hz : ∀ n, List.replicate n (AV.d (.agg [.int .i64 0, .int .i64 0, .int .i64 0, .int .i64 0, .int .i64 0, .int .i64 0, .str []])) = ((List.replicate n zMessage).map eMessage).map .d := by
    intro n
    rw [List.map_replicate, List.map_replicate]; rfl
  have hl : ∀ n, List.take n (((List.replicate n zMessage).map eMessage).map AV.d) = ((List.replicate n zMessage).map eMessage).map AV.d := fun n => List.take_of_length_le (by simp)
  simp only [eRing, ringN]
  rw [← hn, show cap = (n : Int) by omega]
  rw [callL_code g_ring_New (by simp)]; simp -implicitDefEqProofs (disch := omega) only [c_ring_New, r_ring_New, go_sem, hz, hl, List.length_replicate]
def shardFree (cap : Int) : Shard × Int := if cap < 1 ∨ 12 < cap then (zShard, 1) else (⟨false, 0, 0, ringN cap, ⟨[], []⟩⟩, 0)
theorem shardFree_ok (cap : Int) : callL G N_shard_Free [.d (.int .i64 cap)] [] = some (.d (.tup [eShard (shardFree cap).1, .int .i64 (shardFree cap).2]), []) := by
  have hr := ringNew_ok cap
  unfold ringNew at hr
  unfold shardFree
  by_cases c1 : cap < 1 ∨ 12 < cap
  · rw [if_pos c1] at hr ⊢
    simp only [eRing, zRing, eShard, zShard] at hr ⊢
    simp only [Int.natCast_add, Int.natCast_one, Int.natCast_zero, Int.natCast_mul, Int.cast_ofNat_Int, List.length_append, List.length_map, List.map_nil, List.length_nil, List.map_append, List.map_cons, List.length_cons, Nat.zero_add, srcO] at hr
    rw [callL_code g_shard_Free (by simp)]; simp -implicitDefEqProofs (disch := omega) only [c_shard_Free, r_shard_Free, go_sem, hr]
  · rw [if_neg c1] at hr ⊢
    simp only [eRing, eShard] at hr ⊢
    rw [callL_code g_shard_Free (by simp)]; simp -implicitDefEqProofs (disch := omega) only [c_shard_Free, r_shard_Free, go_sem, hr]
def spansB (lo hi : Int) : Bool := decide (0 ≤ lo) && (decide (lo ≤ hi) && decide (hi < 65536))
theorem spans_ok (lo hi : Int) : callL G N_shard_spans [.d (.int .i64 lo), .d (.int .i64 hi)] [] = some (.d (.bool (spansB lo hi)), []) := by
  unfold spansB
  rw [callL_code g_shard_spans (by simp)]; simp -implicitDefEqProofs (disch := omega) only [c_shard_spans, r_shard_spans, go_sem, Nat.zero_add]
def shardNew (cap lo hi : Int) : Shard × Int := if cap < 1 ∨ 12 < cap then (zShard, 1) else if spansB lo hi = false then (zShard, 1) else (⟨true, lo, hi, ringN cap, ⟨[], []⟩⟩, 0)
theorem shardNew_ok (cap lo hi : Int) : callL G N_shard_New [.d (.int .i64 cap), .d (.int .i64 lo), .d (.int .i64 hi)] [] = some (.d (.tup [eShard (shardNew cap lo hi).1, .int .i64 (shardNew cap lo hi).2]), []) := by
  have hr := ringNew_ok cap
  have hs := spans_ok lo hi
  unfold ringNew at hr
  unfold shardNew
  by_cases c1 : cap < 1 ∨ 12 < cap
  · rw [if_pos c1] at hr ⊢
    simp only [eRing, zRing, eShard, zShard] at hr ⊢
    simp only [Int.natCast_add, Int.natCast_one, Int.natCast_zero, Int.natCast_mul, Int.cast_ofNat_Int, List.length_append, List.length_map, List.map_nil, List.length_nil, List.map_append, List.map_cons, List.length_cons, Nat.zero_add, srcO] at hr
    rw [callL_code g_shard_New (by simp)]; simp -implicitDefEqProofs (disch := omega) only [c_shard_New, r_shard_New, go_sem, hr]
  · rw [if_neg c1] at hr ⊢
    simp only [eRing, eShard] at hr ⊢
    cases c2 : spansB lo hi
    · rw [c2] at hs
      simp only [if_true, zShard]
      rw [callL_code g_shard_New (by simp)]; simp -implicitDefEqProofs (disch := omega) only [c_shard_New, r_shard_New, go_sem, hr, hs]
    · rw [c2] at hs
      simp only [Bool.true_eq_false, if_false]
      rw [callL_code g_shard_New (by simp)]; simp -implicitDefEqProofs (disch := omega) only [c_shard_New, r_shard_New, go_sem, hr, hs]
def deadNew (cap : Int) : Dead × Int := if cap < 1 ∨ 24 < cap then (zDead, 1) else (⟨cap, []⟩, 0)
theorem deadNew_ok (cap : Int) : callL G N_dead_New [.d (.int .i64 cap)] [] = some (.d (.tup [eDead (deadNew cap).1, .int .i64 (deadNew cap).2]), []) := by
  unfold deadNew
  by_cases c1 : cap < 1
  · rw [if_pos (Or.inl c1)]
    simp only [eDead, zDead]
    rw [callL_code g_dead_New (by simp)]; simp -implicitDefEqProofs (disch := omega) only [c_dead_New, r_dead_New, go_sem, Nat.zero_add]
  by_cases c2 : 24 < cap
  · rw [if_pos (Or.inr c2)]
    simp only [eDead, zDead]
    rw [callL_code g_dead_New (by simp)]; simp -implicitDefEqProofs (disch := omega) only [c_dead_New, r_dead_New, go_sem, Nat.zero_add]
  rw [if_neg (by omega)]
  simp only [eDead]
  rw [callL_code g_dead_New (by simp)]; simp -implicitDefEqProofs (disch := omega) only [c_dead_New, r_dead_New, go_sem, Nat.zero_add]
def inB (n lo hi : Int) : Bool := decide (lo ≤ n) && decide (n ≤ hi)
theorem ain_ok (n lo hi : Int) : callL G N_arena_in [.d (.int .i64 n), .d (.int .i64 lo), .d (.int .i64 hi)] [] = some (.d (.bool (inB n lo hi)), []) := by
  unfold inB
  rw [callL_code g_arena_in (by simp)]; simp -implicitDefEqProofs (disch := omega) only [c_arena_in, r_arena_in, go_sem, Nat.zero_add]
def okSetup (s : Setup) : Bool := inB s.slots 1 6 && (inB s.live 1 s.slots && (inB s.capacity 1 12 && (inB s.dead 1 24 && (inB s.limit 1 8 && (inB s.clock 0 1073741824 && (inB s.nextID 1 1073741824 && inB s.epoch 0 65536))))))
def slotI (s : Setup) (i : Nat) : Slot := ⟨0, if i < s.live.toNat then ⟨true, (spanI s.live i).low, (spanI s.live i).high, ringN s.capacity, ⟨[], []⟩⟩ else ⟨false, 0, 0, ringN s.capacity, ⟨[], []⟩⟩⟩
def slotsN (s : Setup) (k : Nat) : List Slot := (List.range k).map (slotI s)
def stripesN (s : Setup) (k : Nat) : List Stripe := List.replicate k ⟨0, s.epoch, 0, 0⟩
def arenaN (s : Setup) : Arena := ⟨slotsN s s.slots.toNat, stripesN s s.slots.toNat, ⟨0, ⟨s.dead, []⟩⟩, dirN s.slots.toNat s.live.toNat, s.epoch, s.clock, s.nextID⟩
def arenaNew (s : Setup) : Arena × Int := if okSetup s = true then (arenaN s, 0) else (zArena, 1)
theorem arenaNew_bad (s : Setup) (h : okSetup s = false) : callL G N_arena_New [.d (eSetup s)] [] = some (.d (.tup [eArena (arenaNew s).1, .int .i64 (arenaNew s).2]), []) := by
  unfold arenaNew
  rw [if_neg (by simp [h])]
  unfold okSetup at h
  simp only [eSetup, eArena, zArena]
  cases c1 : inB s.slots 1 6
  · rw [callL_code g_arena_New (by simp)]; simp -implicitDefEqProofs (disch := omega) only [c_arena_New, r_arena_New, go_sem, ain_ok, c1]
  cases c2 : inB s.live 1 s.slots
  · rw [callL_code g_arena_New (by simp)]; simp -implicitDefEqProofs (disch := omega) only [c_arena_New, r_arena_New, go_sem, ain_ok, c1, c2]
  cases c3 : inB s.capacity 1 12
  · rw [callL_code g_arena_New (by simp)]; simp -implicitDefEqProofs (disch := omega) only [c_arena_New, r_arena_New, go_sem, ain_ok, c1, c2, c3]
  cases c4 : inB s.dead 1 24
  · rw [callL_code g_arena_New (by simp)]; simp -implicitDefEqProofs (disch := omega) only [c_arena_New, r_arena_New, go_sem, ain_ok, c1, c2, c3, c4]
  cases c5 : inB s.limit 1 8
  · rw [callL_code g_arena_New (by simp)]; simp -implicitDefEqProofs (disch := omega) only [c_arena_New, r_arena_New, go_sem, ain_ok, c1, c2, c3, c4, c5]
  cases c6 : inB s.clock 0 1073741824
  · rw [callL_code g_arena_New (by simp)]; simp -implicitDefEqProofs (disch := omega) only [c_arena_New, r_arena_New, go_sem, ain_ok, c1, c2, c3, c4, c5, c6]
  cases c7 : inB s.nextID 1 1073741824
  · rw [callL_code g_arena_New (by simp)]; simp -implicitDefEqProofs (disch := omega) only [c_arena_New, r_arena_New, go_sem, ain_ok, c1, c2, c3, c4, c5, c6, c7]
  cases c8 : inB s.epoch 0 65536
  · rw [callL_code g_arena_New (by simp)]; simp -implicitDefEqProofs (disch := omega) only [c_arena_New, r_arena_New, go_sem, ain_ok, c1, c2, c3, c4, c5, c6, c7, c8]
  rw [c1, c2, c3, c4, c5, c6, c7, c8] at h
  cases h
end Go.Proofs.Ytkdjbfjohbiemaa

namespace Go.Proofs.Ytkdjbfjohbiemaa
open Go Go.Sim
set_option linter.unusedSimpArgs false
set_option linter.unusedVariables false
set_option maxHeartbeats 10000000
set_option maxRecDepth 40000
structure SetupOk (s : Setup) (n l : Nat) : Prop where
  ns : s.slots = n
  nl : s.live = l
  h1 : 1 ≤ l
  h2 : l ≤ n
  h3 : n ≤ 6
  c1 : 1 ≤ s.capacity
  c2 : s.capacity ≤ 12
  d1 : 1 ≤ s.dead
  d2 : s.dead ≤ 24
theorem setupOk_of {s : Setup} (h : okSetup s = true) : ∃ n l, SetupOk s n l ∧ inB s.limit 1 8 = true ∧ inB s.clock 0 1073741824 = true ∧ inB s.nextID 1 1073741824 = true ∧ inB s.epoch 0 65536 = true := by
  unfold okSetup at h
  simp only [Bool.and_eq_true] at h
  obtain ⟨h1, h2, h3, h4, h5, h6, h7, h8⟩ := h
  simp only [inB, Bool.and_eq_true, decide_eq_true_eq] at h1 h2 h3 h4
  exact ⟨s.slots.toNat, s.live.toNat, ⟨by omega, by omega, by omega, by omega, by omega, h3.1, h3.2, h4.1, h4.2⟩, h5, h6, h7, h8⟩
theorem spanI_in {l i : Nat} (h1 : 1 ≤ l) (h2 : i < l) (h3 : l ≤ 6) : spansB (spanI l i).low (spanI l i).high = true := by
  have key : ∀ l : Nat, l < 7 → ∀ i : Nat, i < 7 → 1 ≤ l → i < l → spansB (spanI l i).low (spanI l i).high = true := by decide
  exact key l (by omega) i (by omega) h1 h2
theorem slotsN_succ (s : Setup) (k : Nat) : slotsN s (k + 1) = slotsN s k ++ [slotI s k] := by simp [slotsN, List.range_succ]
theorem slotsN_len (s : Setup) (k : Nat) : (slotsN s k).length = k := by simp [slotsN]
theorem stripesN_succ (s : Setup) (k : Nat) : stripesN s (k + 1) = stripesN s k ++ [⟨0, s.epoch, 0, 0⟩] := by simp [stripesN, List.replicate_succ']
theorem stripesN_len (s : Setup) (k : Nat) : (stripesN s k).length = k := by simp [stripesN]
def ar2 : Nat × Go.Sim.Obj := (2, .row [.agg [.xsl [], .xsl [], .d (.int .i64 0), .d (.int .i64 0), .xsl [], .d (.int .i64 0), .xsl [], .xsl [], .d (.int .i64 0), .d (.int .i64 0), .d (.int .i64 0)]])
def arO (s : Setup) (d : Directory) (a b : Go.Sim.AV) : Nat × Go.Sim.Obj := (4, .row [.agg [a, b, .d (.int .i64 0), .d (.int .i64 s.dead), .d (.sl []), .d (.int .i64 d.version), .d (.sl (d.l.map eSpan)), .d (.sl (ints d.forward)), .d (.int .i64 s.epoch), .d (.int .i64 s.clock), .d (.int .i64 s.nextID)]])
def arS (s : Setup) (n k : Nat) (d : Directory) (a b : Go.Sim.AV) (hp : Heap) : St :=
  ⟨[(1, .ref 1 0 0), (2, .ref 2 0 0), (4, .ref 4 0 0), (84, .d (.int .i64 n)), (85, .d (.int .i64 k))], (1, .row [.d (eSetup s)]) :: ar2 :: arO s d a b :: hp⟩
theorem arena_loop (s : Setup) (n l : Nat) (ok : SetupOk s n l) (d : Directory) (hd : d = dirN n l) : ∀ k, 1 ≤ k ∧ k ≤ n → loopL G [] l_arena_New_0 (arS s n k d (.acc 117 ((slotsN s k).map eSlot)) (.acc 125 ((stripesN s k).map eStripe)) [(117, .acc k), (125, .acc k)]) = some (.exit 0, ⟨[(2, .ref 2 0 0), (4, .ref 4 0 0)], [ar2, arO s d (.acc 117 ((slotsN s n).map eSlot)) (.acc 125 ((stripesN s n).map eStripe)), (117, .acc n), (125, .acc n)]⟩) := by
  obtain ⟨o1, o2, o3, o4, o5, o6, o7, _, _⟩ := ok
  refine loop_ind (fun k => n - k) _ _ _ fun k ⟨hk1, hk2⟩ L ih => ?_
  simp only [l_arena_New_0, arS, arO, ar2, eSetup] at ih ⊢
  by_cases hk : k < n
  · have hv := dirN_valid n l o3 o4 o5
    have hfree := shardFree_ok s.capacity
    have hsp := dSpan_ok d k (by rw [hd]; simp [dirN, spansN]; omega) (by rw [hd]; simp [dirN]; omega)
    have hfs := hv.2 k hk
    rw [← hd] at hv hfs
    unfold spanD at hsp
    rw [hfs] at hsp
    have hc : ¬ (s.capacity < 1 ∨ 12 < s.capacity) := by omega
    unfold shardFree at hfree
    rw [if_neg hc] at hfree
    simp only [eShard, List.map_nil] at hfree
    have := ih (k + 1) ⟨by omega, by omega⟩ (by omega)
    rw [slotsN_succ, stripesN_succ] at this
    obtain ⟨es, hes⟩ : ∃ es, es = slotsN s k := ⟨_, rfl⟩
    obtain ⟨fs, hfs2⟩ : ∃ fs, fs = stripesN s k := ⟨_, rfl⟩
    have hel : es.length = k := by rw [hes, slotsN_len]
    have hfl : fs.length = k := by rw [hfs2, stripesN_len]
    rw [← hes, ← hfs2] at this ⊢
    by_cases h0 : k < l
    · have hnew := shardNew_ok s.capacity (spanI l k).low (spanI l k).high
      unfold shardNew at hnew
      rw [if_neg hc, if_neg (by rw [spanI_in o3 h0 (by omega)]; decide)] at hnew
      have e1 : (d.l.getD k zSpan) = spanI l k := by rw [hd]; simp [dirN, spansN, h0]
      rw [if_pos h0, if_pos ⟨hv.1, by omega⟩, show ((k : Int).toNat) = k by omega, e1] at hsp
      have e2 : slotI s k = ⟨0, ⟨true, (spanI l k).low, (spanI l k).high, ringN s.capacity, ⟨[], []⟩⟩⟩ := by
        unfold slotI; rw [if_pos (by omega), o2]
      rw [e2] at this
      simp only [eDirectory, eSpan] at hsp
      simp only [eShard, List.map_nil] at hnew
      simp only [eSlot, eStripe, List.map_append, List.map_cons, List.map_nil] at this
      simp only [Int.natCast_add, Int.natCast_one, Int.natCast_zero, Int.natCast_mul, Int.cast_ofNat_Int, List.length_append, List.length_map, List.map_nil, List.length_nil, List.map_append, List.map_cons, List.length_cons, Nat.zero_add, srcO] at this
      simp -implicitDefEqProofs (disch := omega) only [go_sem, hfree, hsp, hnew, hel, hfl, allSize_Slot, allSize_Stripe, this]
    · rw [if_neg h0, if_neg (by omega)] at hsp
      have e2 : slotI s k = ⟨0, ⟨false, 0, 0, ringN s.capacity, ⟨[], []⟩⟩⟩ := by
        unfold slotI; rw [if_neg (by omega)]
      rw [e2] at this
      simp only [eDirectory, eSpan, zSpan] at hsp
      simp only [eSlot, eStripe, List.map_append, List.map_cons, List.map_nil] at this
      simp only [Int.natCast_add, Int.natCast_one, Int.natCast_zero, Int.natCast_mul, Int.cast_ofNat_Int, List.length_append, List.length_map, List.map_nil, List.length_nil, List.map_append, List.map_cons, List.length_cons, Nat.zero_add, srcO] at this
      simp -implicitDefEqProofs (disch := omega) only [go_sem, hfree, hsp, hel, hfl, allSize_Slot, allSize_Stripe, this]
  · have : k = n := by omega
    subst this
    simp -implicitDefEqProofs (disch := omega) only [go_sem, Nat.zero_add]
theorem arena_first (s : Setup) (n l : Nat) (ok : SetupOk s n l) (d : Directory) (hd : d = dirN n l) : loopL G [] l_arena_New_0 (arS s n 0 d (.xsl []) (.xsl []) []) = some (.exit 0, ⟨[(2, .ref 2 0 0), (4, .ref 4 0 0)], [ar2, arO s d (.acc 117 ((slotsN s n).map eSlot)) (.acc 125 ((stripesN s n).map eStripe)), (117, .acc n), (125, .acc n)]⟩) := by
  have h := arena_loop s n l ok d hd 1 ⟨by omega, by have := ok.h1; have := ok.h2; omega⟩
  obtain ⟨o1, o2, o3, o4, o5, o6, o7, _, _⟩ := ok
  have hv := dirN_valid n l o3 o4 o5
  have hfree := shardFree_ok s.capacity
  have hsp := dSpan_ok d 0 (by rw [hd]; simp [dirN, spansN]; omega) (by rw [hd]; simp [dirN]; omega)
  have hfs := hv.2 0 (by omega)
  rw [← hd] at hv hfs
  simp only [Int.natCast_zero] at hfs
  rw [if_pos (by omega)] at hfs
  unfold spanD at hsp
  rw [hfs] at hsp
  have hc : ¬ (s.capacity < 1 ∨ 12 < s.capacity) := by omega
  unfold shardFree at hfree
  rw [if_neg hc] at hfree
  simp only [eShard, List.map_nil] at hfree
  have hnew := shardNew_ok s.capacity (spanI l 0).low (spanI l 0).high
  unfold shardNew at hnew
  rw [if_neg hc, if_neg (by rw [spanI_in o3 (by omega) (by omega)]; decide)] at hnew
  have e1 : (d.l.getD 0 zSpan) = spanI l 0 := by rw [hd]; simp [dirN, spansN, show 0 < l by omega]
  rw [if_pos ⟨hv.1, by omega⟩, show ((0 : Int).toNat) = 0 by rfl, e1] at hsp
  have e2 : slotI s 0 = ⟨0, ⟨true, (spanI l 0).low, (spanI l 0).high, ringN s.capacity, ⟨[], []⟩⟩⟩ := by
    unfold slotI; rw [if_pos (by omega), o2]
  have e3 : slotsN s 1 = [slotI s 0] := rfl
  have e4 : stripesN s 1 = [⟨0, s.epoch, 0, 0⟩] := rfl
  rw [e3, e4, e2] at h
  simp only [eDirectory, eSpan] at hsp
  simp only [eShard, List.map_nil] at hnew
  simp only [eSlot, eStripe, List.map_append, List.map_cons, List.map_nil, arS, ar2, arO, eSetup] at h
  simp only [Int.natCast_add, Int.natCast_one, Int.natCast_zero, Int.natCast_mul, Int.cast_ofNat_Int, List.length_append, List.length_map, List.map_nil, List.length_nil, List.map_append, List.map_cons, List.length_cons, Nat.zero_add, srcO] at h
  rw [loopL_eq]
  generalize hF : loopL G [] l_arena_New_0 = F at h ⊢
  simp only [l_arena_New_0, arS, ar2, arO, eSetup]
  simp -implicitDefEqProofs (disch := omega) only [go_sem, hfree, hsp, hnew, h]
theorem arenaNew_ok (s : Setup) : callL G N_arena_New [.d (eSetup s)] [] = some (.d (.tup [eArena (arenaNew s).1, .int .i64 (arenaNew s).2]), []) := by
  by_cases h : okSetup s = true
  · obtain ⟨n, l, ok, i5, i6, i7, i8⟩ := setupOk_of h
    have hl := arena_first s n l ok (dirN n l) rfl
    have hh := h
    unfold okSetup at hh
    simp only [Bool.and_eq_true] at hh
    obtain ⟨i1, i2, i3, i4, _⟩ := hh
    unfold arenaNew
    rw [if_pos h]
    obtain ⟨o1, o2, o3, o4, o5, o6, o7, o8, o9⟩ := ok
    have hn := dnew_ok s.slots s.live
    rw [o1, o2, newD_ok o3 o4 o5] at hn
    have hd := deadNew_ok s.dead
    unfold deadNew at hd
    rw [if_neg (by omega)] at hd
    have e1 : s.slots.toNat = n := by omega
    have e2 : s.live.toNat = l := by omega
    simp only [eArena, arenaN, e1, e2]
    rw [o1] at i1
    rw [o1, o2] at i2
    simp only [arS, ar2, arO, eSetup, o1, o2] at hl
    simp only [eDirectory, eDead, List.map_nil] at hn hd
    simp only [Int.natCast_add, Int.natCast_one, Int.natCast_zero, Int.natCast_mul, Int.cast_ofNat_Int, List.length_append, List.length_map, List.map_nil, List.length_nil, List.map_append, List.map_cons, List.length_cons, Nat.zero_add, srcO] at hl
    simp only [eSetup, o1, o2]
    rw [callL_code g_arena_New (by simp)]; simp -implicitDefEqProofs (disch := omega) only [c_arena_New, r_arena_New, go_sem, ain_ok, i1, i2, i3, i4, i5, i6, i7, i8, hn, hd, hl]
  · exact arenaNew_bad s (by simpa using h)
end Go.Proofs.Ytkdjbfjohbiemaa

namespace Go.Proofs.Ytkdjbfjohbiemaa
open Go Go.Sim
set_option linter.unusedSimpArgs false
set_option linter.unusedVariables false
set_option maxHeartbeats 10000000
set_option maxRecDepth 40000
theorem clone_api_Slot (es : List D) (hs : allSize 9 es = true) (hL : es.length ≤ 4294967296) : callL G N_slices_Clone_api_Slot [.d (.sl es)] [] = some (.acc 0 es, [(0, .acc es.length)]) := by
  cases es with
  | nil =>
    refine callL_nils0 g_slices_Clone_api_Slot (by decide) ?_ ?_
    · simp -implicitDefEqProofs only [c_slices_Clone_api_Slot, r_slices_Clone_api_Slot, go_sem]
    · simp -implicitDefEqProofs only [c_slices_Clone_api_Slot, r_slices_Clone_api_Slot, Nat.zero_le, go_sem]
  | cons e es =>
    rw [callL_nils g_slices_Clone_api_Slot (by simp) (by decide)]
    simp only [allSize_cons] at hs
    simp only [List.length_cons] at hL
    simp -implicitDefEqProofs (disch := omega) only [c_slices_Clone_api_Slot, r_slices_Clone_api_Slot, go_sem, *]
def owners (a : Arena) (c : Int) : Int := if c = a.slots.length then a.dead.owner else (a.slots.getD c.toNat zSlot).owner
def aOwner (a : Arena) (c : Int) : Int × Bool := if c < 0 ∨ (a.slots.length : Int) < c then (0, false) else (owners a c, true)
theorem aowner_ok (a : Arena) (c : Int) (hL : a.slots.length ≤ 4294967296) : callL G N_arena_owner [.d (eArena a), .d (.int .i64 c)] [] = some (.d (.tup [.int .i64 (aOwner a c).1, .bool (aOwner a c).2]), []) := by
  simp only [eArena, aOwner, owners]
  rw [callL_code g_arena_owner (by simp)]; simp -implicitDefEqProofs (disch := omega) only [c_arena_owner, r_arena_owner, eSlot, getDT, go_sem, *]; (try simp only [pA, pB, pC, pD, pE, pF, pG, pH, pI, pJ, pK, pL, pM, pN, pO, if_true, if_false]); repeat' (first | done | rfl | (refine iteC (fun hq => ?_) (fun hq => ?_) <;> (try (exfalso; omega)) <;> (try simp -implicitDefEqProofs (disch := omega) only [eSlot, getDT, go_sem, *]) <;> (try simp only [pA, pB, pC, pD, pE, pF, pG, pH, pI, pJ, pK, pL, pM, pN, pO, if_true, if_false]))); (all_goals try rfl); (all_goals try (repeat' (first | done | rfl | (exfalso; omega) | (refine iteR (fun hq => ?_) (fun hq => ?_)))))
def taskB (k : Int) : Bool := inB k 1 200
theorem isTask_ok (k : Int) : callL G N_arena_isTask [.d (.int .i64 k)] [] = some (.d (.bool (taskB k)), []) := by
  unfold taskB
  rw [callL_code g_arena_isTask (by simp)]; simp -implicitDefEqProofs (disch := omega) only [c_arena_isTask, r_arena_isTask, ain_ok, getDT, go_sem, *]; (try simp only [pA, pB, pC, pD, pE, pF, pG, pH, pI, pJ, pK, pL, pM, pN, pO, if_true, if_false]); repeat' (first | done | rfl | (refine iteC (fun hq => ?_) (fun hq => ?_) <;> (try (exfalso; omega)) <;> (try simp -implicitDefEqProofs (disch := omega) only [ain_ok, getDT, go_sem, *]) <;> (try simp only [pA, pB, pC, pD, pE, pF, pG, pH, pI, pJ, pK, pL, pM, pN, pO, if_true, if_false]))); (all_goals try rfl); (all_goals try (repeat' (first | done | rfl | (exfalso; omega) | (refine iteR (fun hq => ?_) (fun hq => ?_)))))
def setOwner (a : Arena) (c k : Int) : Arena := if c = a.slots.length then { a with dead := { a.dead with owner := k } } else { a with slots := a.slots.set c.toNat { a.slots.getD c.toNat zSlot with owner := k } }
theorem give_ok (a : Arena) (c k : Int) (hL : a.slots.length ≤ 1000) (h0 : 0 ≤ c) (h1 : c ≤ a.slots.length) : callL G N_arena_give [.d (eArena a), .d (.int .i64 c), .d (.int .i64 k)] [] = some (.d (eArena (setOwner a c k)), []) := by
  unfold setOwner
  by_cases h : c = a.slots.length
  · simp only [eArena, h, if_true]
    rw [callL_code g_arena_give (by simp)]; simp -implicitDefEqProofs (disch := omega) only [c_arena_give, r_arena_give, getDT, go_sem, *]; (try simp only [pA, pB, pC, pD, pE, pF, pG, pH, pI, pJ, pK, pL, pM, pN, pO, if_true, if_false]); repeat' (first | done | rfl | (refine iteC (fun hq => ?_) (fun hq => ?_) <;> (try (exfalso; omega)) <;> (try simp -implicitDefEqProofs (disch := omega) only [getDT, go_sem, *]) <;> (try simp only [pA, pB, pC, pD, pE, pF, pG, pH, pI, pJ, pK, pL, pM, pN, pO, if_true, if_false]))); (all_goals try rfl); (all_goals try (repeat' (first | done | rfl | (exfalso; omega) | (refine iteR (fun hq => ?_) (fun hq => ?_)))))
  · have hc := clone_api_Slot (a.slots.map eSlot) (allSize_Slot _) (by simp only [List.length_map]; omega)
    have hne : ¬ a.slots.length = 0 := by omega
    simp only [eArena, h, if_false]
    rw [callL_code g_arena_give (by simp)]; simp -implicitDefEqProofs (disch := omega) only [c_arena_give, r_arena_give, getDT, go_sem, *]; (try simp only [pA, pB, pC, pD, pE, pF, pG, pH, pI, pJ, pK, pL, pM, pN, pO, if_true, if_false]); repeat' (first | done | rfl | (refine iteC (fun hq => ?_) (fun hq => ?_) <;> (try (exfalso; omega)) <;> (try simp -implicitDefEqProofs (disch := omega) only [getDT, go_sem, *]) <;> (try simp only [pA, pB, pC, pD, pE, pF, pG, pH, pI, pJ, pK, pL, pM, pN, pO, if_true, if_false]))); (all_goals try rfl); (all_goals try (repeat' (first | done | rfl | (exfalso; omega) | (refine iteR (fun hq => ?_) (fun hq => ?_)))))
def aTry (a : Arena) (c k : Int) : Arena × Bool × Int := if c < 0 ∨ (a.slots.length : Int) < c ∨ taskB k = false then (zArena, false, 1) else if owners a c = 0 then (setOwner a c k, true, 0) else (a, false, 0)
theorem atry_ok (a : Arena) (c k : Int) (hL : a.slots.length ≤ 1000) : callL G N_arena_TryLock [.d (eArena a), .d (.int .i64 c), .d (.int .i64 k)] [] = some (.d (.tup [eArena (aTry a c k).1, .bool (aTry a c k).2.1, .int .i64 (aTry a c k).2.2]), []) := by
  have h1 := aowner_ok a c (by omega)
  have h2 := isTask_ok k
  have h3 := give_ok a c k hL
  unfold aTry
  unfold aOwner at h1
  by_cases c1 : c < 0 ∨ (a.slots.length : Int) < c
  · rw [if_pos c1] at h1
    rw [if_pos (by omega)]
    rw [callL_code g_arena_TryLock (by simp)]; simp -implicitDefEqProofs (disch := omega) only [c_arena_TryLock, r_arena_TryLock, getDT, go_sem, *]; (try simp only [pA, pB, pC, pD, pE, pF, pG, pH, pI, pJ, pK, pL, pM, pN, pO, if_true, if_false]); repeat' (first | done | rfl | (refine iteC (fun hq => ?_) (fun hq => ?_) <;> (try (exfalso; omega)) <;> (try simp -implicitDefEqProofs (disch := omega) only [getDT, go_sem, *]) <;> (try simp only [pA, pB, pC, pD, pE, pF, pG, pH, pI, pJ, pK, pL, pM, pN, pO, if_true, if_false]))); (all_goals try rfl); (all_goals try (repeat' (first | done | rfl | (exfalso; omega) | (refine iteR (fun hq => ?_) (fun hq => ?_)))))
  · rw [if_neg c1] at h1
    have h3 := h3 (by omega) (by omega)
    cases c2 : taskB k
    · rw [if_pos (by simp)]
      rw [callL_code g_arena_TryLock (by simp)]; simp -implicitDefEqProofs (disch := omega) only [c_arena_TryLock, r_arena_TryLock, getDT, go_sem, *]; (try simp only [pA, pB, pC, pD, pE, pF, pG, pH, pI, pJ, pK, pL, pM, pN, pO, if_true, if_false]); repeat' (first | done | rfl | (refine iteC (fun hq => ?_) (fun hq => ?_) <;> (try (exfalso; omega)) <;> (try simp -implicitDefEqProofs (disch := omega) only [getDT, go_sem, *]) <;> (try simp only [pA, pB, pC, pD, pE, pF, pG, pH, pI, pJ, pK, pL, pM, pN, pO, if_true, if_false]))); (all_goals try rfl); (all_goals try (repeat' (first | done | rfl | (exfalso; omega) | (refine iteR (fun hq => ?_) (fun hq => ?_)))))
    · rw [if_neg (by simp; omega)]
      rw [callL_code g_arena_TryLock (by simp)]; simp -implicitDefEqProofs (disch := omega) only [c_arena_TryLock, r_arena_TryLock, getDT, go_sem, *]; (try simp only [pA, pB, pC, pD, pE, pF, pG, pH, pI, pJ, pK, pL, pM, pN, pO, if_true, if_false]); repeat' (first | done | rfl | (refine iteC (fun hq => ?_) (fun hq => ?_) <;> (try (exfalso; omega)) <;> (try simp -implicitDefEqProofs (disch := omega) only [getDT, go_sem, *]) <;> (try simp only [pA, pB, pC, pD, pE, pF, pG, pH, pI, pJ, pK, pL, pM, pN, pO, if_true, if_false]))); (all_goals try rfl); (all_goals try (repeat' (first | done | rfl | (exfalso; omega) | (refine iteR (fun hq => ?_) (fun hq => ?_)))))
end Go.Proofs.Ytkdjbfjohbiemaa

namespace Go.Proofs.Ytkdjbfjohbiemaa
open Go Go.Sim
set_option linter.unusedSimpArgs false
set_option linter.unusedVariables false
set_option maxHeartbeats 10000000
set_option maxRecDepth 40000
def aUnlock (a : Arena) (c k : Int) : Arena × Int := if c < 0 ∨ (a.slots.length : Int) < c ∨ taskB k = false then (zArena, 1) else if owners a c = k then (setOwner a c 0, 0) else (zArena, 13)
theorem aunlock_ok (a : Arena) (c k : Int) (hL : a.slots.length ≤ 1000) : callL G N_arena_Unlock [.d (eArena a), .d (.int .i64 c), .d (.int .i64 k)] [] = some (.d (.tup [eArena (aUnlock a c k).1, .int .i64 (aUnlock a c k).2]), []) := by
  have h1 := aowner_ok a c (by omega)
  have h2 := isTask_ok k
  have h3 := give_ok a c 0 hL
  unfold aUnlock
  unfold aOwner at h1
  by_cases c1 : c < 0 ∨ (a.slots.length : Int) < c
  · rw [if_pos c1] at h1
    rw [if_pos (by omega)]
    rw [callL_code g_arena_Unlock (by simp)]; simp -implicitDefEqProofs (disch := omega) only [c_arena_Unlock, r_arena_Unlock, getDT, go_sem, *]; (try simp only [pA, pB, pC, pD, pE, pF, pG, pH, pI, pJ, pK, pL, pM, pN, pO, if_true, if_false]); repeat' (first | done | rfl | (refine iteC (fun hq => ?_) (fun hq => ?_) <;> (try (exfalso; omega)) <;> (try simp -implicitDefEqProofs (disch := omega) only [getDT, go_sem, *]) <;> (try simp only [pA, pB, pC, pD, pE, pF, pG, pH, pI, pJ, pK, pL, pM, pN, pO, if_true, if_false]))); (all_goals try rfl); (all_goals try (repeat' (first | done | rfl | (exfalso; omega) | (refine iteR (fun hq => ?_) (fun hq => ?_)))))
  · rw [if_neg c1] at h1
    have h3 := h3 (by omega) (by omega)
    cases c2 : taskB k
    · rw [if_pos (by simp)]
      rw [callL_code g_arena_Unlock (by simp)]; simp -implicitDefEqProofs (disch := omega) only [c_arena_Unlock, r_arena_Unlock, getDT, go_sem, *]; (try simp only [pA, pB, pC, pD, pE, pF, pG, pH, pI, pJ, pK, pL, pM, pN, pO, if_true, if_false]); repeat' (first | done | rfl | (refine iteC (fun hq => ?_) (fun hq => ?_) <;> (try (exfalso; omega)) <;> (try simp -implicitDefEqProofs (disch := omega) only [getDT, go_sem, *]) <;> (try simp only [pA, pB, pC, pD, pE, pF, pG, pH, pI, pJ, pK, pL, pM, pN, pO, if_true, if_false]))); (all_goals try rfl); (all_goals try (repeat' (first | done | rfl | (exfalso; omega) | (refine iteR (fun hq => ?_) (fun hq => ?_)))))
    · rw [if_neg (by simp; omega)]
      rw [callL_code g_arena_Unlock (by simp)]; simp -implicitDefEqProofs (disch := omega) only [c_arena_Unlock, r_arena_Unlock, getDT, go_sem, *]; (try simp only [pA, pB, pC, pD, pE, pF, pG, pH, pI, pJ, pK, pL, pM, pN, pO, if_true, if_false]); repeat' (first | done | rfl | (refine iteC (fun hq => ?_) (fun hq => ?_) <;> (try (exfalso; omega)) <;> (try simp -implicitDefEqProofs (disch := omega) only [getDT, go_sem, *]) <;> (try simp only [pA, pB, pC, pD, pE, pF, pG, pH, pI, pJ, pK, pL, pM, pN, pO, if_true, if_false]))); (all_goals try rfl); (all_goals try (repeat' (first | done | rfl | (exfalso; omega) | (refine iteR (fun hq => ?_) (fun hq => ?_)))))
theorem task12_ok (k : Int) : callL G N_ref12_task [.d (.int .i64 k)] [] = some (.d (.bool (taskB k)), []) := by
  unfold taskB inB
  rw [callL_code g_ref12_task (by simp)]; simp -implicitDefEqProofs (disch := omega) only [c_ref12_task, r_ref12_task, getDT, go_sem, *]; (try simp only [pA, pB, pC, pD, pE, pF, pG, pH, pI, pJ, pK, pL, pM, pN, pO, if_true, if_false]); repeat' (first | done | rfl | (refine iteC (fun hq => ?_) (fun hq => ?_) <;> (try (exfalso; omega)) <;> (try simp -implicitDefEqProofs (disch := omega) only [getDT, go_sem, *]) <;> (try simp only [pA, pB, pC, pD, pE, pF, pG, pH, pI, pJ, pK, pL, pM, pN, pO, if_true, if_false]))); (all_goals try rfl); (all_goals try (repeat' (first | done | rfl | (exfalso; omega) | (refine iteR (fun hq => ?_) (fun hq => ?_)))))
theorem owner12_ok (a : Arena) (c : Int) (hL : a.slots.length ≤ 1000) (h0 : 0 ≤ c) (h1 : c ≤ a.slots.length) : callL G N_ref12_Owner [.d (eArena a), .d (.int .i64 c)] [] = some (.d (.int .i64 (owners a c)), []) := by
  unfold owners
  rw [callL_code g_ref12_Owner (by simp)]; simp -implicitDefEqProofs (disch := omega) only [c_ref12_Owner, r_ref12_Owner, getDT, go_sem, *]; (try simp only [pA, pB, pC, pD, pE, pF, pG, pH, pI, pJ, pK, pL, pM, pN, pO, if_true, if_false]); repeat' (first | done | rfl | (refine iteC (fun hq => ?_) (fun hq => ?_) <;> (try (exfalso; omega)) <;> (try simp -implicitDefEqProofs (disch := omega) only [getDT, go_sem, *]) <;> (try simp only [pA, pB, pC, pD, pE, pF, pG, pH, pI, pJ, pK, pL, pM, pN, pO, if_true, if_false]))); (all_goals try rfl); (all_goals try (repeat' (first | done | rfl | (exfalso; omega) | (refine iteR (fun hq => ?_) (fun hq => ?_)))))
theorem own12_ok (a : Arena) (c k : Int) (hL : a.slots.length ≤ 1000) (h0 : 0 ≤ c) (h1 : c ≤ a.slots.length) : callL G N_ref12_own [.d (eArena a), .d (.int .i64 c), .d (.int .i64 k)] [] = some (.d (eArena (setOwner a c k)), []) := by
  unfold setOwner
  by_cases h : c = a.slots.length
  · simp only [eArena, h, if_true]
    rw [callL_code g_ref12_own (by simp)]; simp -implicitDefEqProofs (disch := omega) only [c_ref12_own, r_ref12_own, getDT, go_sem, *]; (try simp only [pA, pB, pC, pD, pE, pF, pG, pH, pI, pJ, pK, pL, pM, pN, pO, if_true, if_false]); repeat' (first | done | rfl | (refine iteC (fun hq => ?_) (fun hq => ?_) <;> (try (exfalso; omega)) <;> (try simp -implicitDefEqProofs (disch := omega) only [getDT, go_sem, *]) <;> (try simp only [pA, pB, pC, pD, pE, pF, pG, pH, pI, pJ, pK, pL, pM, pN, pO, if_true, if_false]))); (all_goals try rfl); (all_goals try (repeat' (first | done | rfl | (exfalso; omega) | (refine iteR (fun hq => ?_) (fun hq => ?_)))))
  · have hne : ¬ a.slots.length = 0 := by omega
    simp only [eArena, h, if_false]
    rw [callL_code g_ref12_own (by simp)]; simp -implicitDefEqProofs (disch := omega) only [c_ref12_own, r_ref12_own, getDT, go_sem, *]; (try simp only [pA, pB, pC, pD, pE, pF, pG, pH, pI, pJ, pK, pL, pM, pN, pO, if_true, if_false]); repeat' (first | done | rfl | (refine iteC (fun hq => ?_) (fun hq => ?_) <;> (try (exfalso; omega)) <;> (try simp -implicitDefEqProofs (disch := omega) only [getDT, go_sem, *]) <;> (try simp only [pA, pB, pC, pD, pE, pF, pG, pH, pI, pJ, pK, pL, pM, pN, pO, if_true, if_false]))); (all_goals try rfl); (all_goals try (repeat' (first | done | rfl | (exfalso; omega) | (refine iteR (fun hq => ?_) (fun hq => ?_)))))
theorem try12_ok (a : Arena) (c k : Int) (hL : a.slots.length ≤ 1000) : callL G N_ref12_TryLock [.d (eArena a), .d (.int .i64 c), .d (.int .i64 k)] [] = some (.d (.tup [eArena (aTry a c k).1, .bool (aTry a c k).2.1, .int .i64 (aTry a c k).2.2]), []) := by
  have h2 := task12_ok k
  unfold aTry
  by_cases c1 : c < 0 ∨ (a.slots.length : Int) < c
  · rw [if_pos (by omega)]
    rw [callL_code g_ref12_TryLock (by simp)]; simp -implicitDefEqProofs (disch := omega) only [c_ref12_TryLock, r_ref12_TryLock, getDT, go_sem, *]; (try simp only [pA, pB, pC, pD, pE, pF, pG, pH, pI, pJ, pK, pL, pM, pN, pO, if_true, if_false]); repeat' (first | done | rfl | (refine iteC (fun hq => ?_) (fun hq => ?_) <;> (try (exfalso; omega)) <;> (try simp -implicitDefEqProofs (disch := omega) only [getDT, go_sem, *]) <;> (try simp only [pA, pB, pC, pD, pE, pF, pG, pH, pI, pJ, pK, pL, pM, pN, pO, if_true, if_false]))); (all_goals try rfl); (all_goals try (repeat' (first | done | rfl | (exfalso; omega) | (refine iteR (fun hq => ?_) (fun hq => ?_)))))
  · have h1 := owner12_ok a c hL (by omega) (by omega)
    have h3 := own12_ok a c k hL (by omega) (by omega)
    cases c2 : taskB k
    · rw [if_pos (by simp)]
      rw [callL_code g_ref12_TryLock (by simp)]; simp -implicitDefEqProofs (disch := omega) only [c_ref12_TryLock, r_ref12_TryLock, getDT, go_sem, *]; (try simp only [pA, pB, pC, pD, pE, pF, pG, pH, pI, pJ, pK, pL, pM, pN, pO, if_true, if_false]); repeat' (first | done | rfl | (refine iteC (fun hq => ?_) (fun hq => ?_) <;> (try (exfalso; omega)) <;> (try simp -implicitDefEqProofs (disch := omega) only [getDT, go_sem, *]) <;> (try simp only [pA, pB, pC, pD, pE, pF, pG, pH, pI, pJ, pK, pL, pM, pN, pO, if_true, if_false]))); (all_goals try rfl); (all_goals try (repeat' (first | done | rfl | (exfalso; omega) | (refine iteR (fun hq => ?_) (fun hq => ?_)))))
    · rw [if_neg (by simp; omega)]
      rw [callL_code g_ref12_TryLock (by simp)]; simp -implicitDefEqProofs (disch := omega) only [c_ref12_TryLock, r_ref12_TryLock, getDT, go_sem, *]; (try simp only [pA, pB, pC, pD, pE, pF, pG, pH, pI, pJ, pK, pL, pM, pN, pO, if_true, if_false]); repeat' (first | done | rfl | (refine iteC (fun hq => ?_) (fun hq => ?_) <;> (try (exfalso; omega)) <;> (try simp -implicitDefEqProofs (disch := omega) only [getDT, go_sem, *]) <;> (try simp only [pA, pB, pC, pD, pE, pF, pG, pH, pI, pJ, pK, pL, pM, pN, pO, if_true, if_false]))); (all_goals try rfl); (all_goals try (repeat' (first | done | rfl | (exfalso; omega) | (refine iteR (fun hq => ?_) (fun hq => ?_)))))
theorem unlock12_ok (a : Arena) (c k : Int) (hL : a.slots.length ≤ 1000) : callL G N_ref12_Unlock [.d (eArena a), .d (.int .i64 c), .d (.int .i64 k)] [] = some (.d (.tup [eArena (aUnlock a c k).1, .int .i64 (aUnlock a c k).2]), []) := by
  have h2 := task12_ok k
  unfold aUnlock
  by_cases c1 : c < 0 ∨ (a.slots.length : Int) < c
  · rw [if_pos (by omega)]
    rw [callL_code g_ref12_Unlock (by simp)]; simp -implicitDefEqProofs (disch := omega) only [c_ref12_Unlock, r_ref12_Unlock, getDT, go_sem, *]; (try simp only [pA, pB, pC, pD, pE, pF, pG, pH, pI, pJ, pK, pL, pM, pN, pO, if_true, if_false]); repeat' (first | done | rfl | (refine iteC (fun hq => ?_) (fun hq => ?_) <;> (try (exfalso; omega)) <;> (try simp -implicitDefEqProofs (disch := omega) only [getDT, go_sem, *]) <;> (try simp only [pA, pB, pC, pD, pE, pF, pG, pH, pI, pJ, pK, pL, pM, pN, pO, if_true, if_false]))); (all_goals try rfl); (all_goals try (repeat' (first | done | rfl | (exfalso; omega) | (refine iteR (fun hq => ?_) (fun hq => ?_)))))
  · have h1 := owner12_ok a c hL (by omega) (by omega)
    have h3 := own12_ok a c 0 hL (by omega) (by omega)
    cases c2 : taskB k
    · rw [if_pos (by simp)]
      rw [callL_code g_ref12_Unlock (by simp)]; simp -implicitDefEqProofs (disch := omega) only [c_ref12_Unlock, r_ref12_Unlock, getDT, go_sem, *]; (try simp only [pA, pB, pC, pD, pE, pF, pG, pH, pI, pJ, pK, pL, pM, pN, pO, if_true, if_false]); repeat' (first | done | rfl | (refine iteC (fun hq => ?_) (fun hq => ?_) <;> (try (exfalso; omega)) <;> (try simp -implicitDefEqProofs (disch := omega) only [getDT, go_sem, *]) <;> (try simp only [pA, pB, pC, pD, pE, pF, pG, pH, pI, pJ, pK, pL, pM, pN, pO, if_true, if_false]))); (all_goals try rfl); (all_goals try (repeat' (first | done | rfl | (exfalso; omega) | (refine iteR (fun hq => ?_) (fun hq => ?_)))))
    · rw [if_neg (by simp; omega)]
      rw [callL_code g_ref12_Unlock (by simp)]; simp -implicitDefEqProofs (disch := omega) only [c_ref12_Unlock, r_ref12_Unlock, getDT, go_sem, *]; (try simp only [pA, pB, pC, pD, pE, pF, pG, pH, pI, pJ, pK, pL, pM, pN, pO, if_true, if_false]); repeat' (first | done | rfl | (refine iteC (fun hq => ?_) (fun hq => ?_) <;> (try (exfalso; omega)) <;> (try simp -implicitDefEqProofs (disch := omega) only [getDT, go_sem, *]) <;> (try simp only [pA, pB, pC, pD, pE, pF, pG, pH, pI, pJ, pK, pL, pM, pN, pO, if_true, if_false]))); (all_goals try rfl); (all_goals try (repeat' (first | done | rfl | (exfalso; omega) | (refine iteR (fun hq => ?_) (fun hq => ?_)))))
end Go.Proofs.Ytkdjbfjohbiemaa
