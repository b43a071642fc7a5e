/-
  Snapshots: Step, and the law of their steps.
-/
import Derived.Test.YtlphhhmicdjljaaRF5
namespace Go.Proofs.Ytlphhhmicdjljaa
open Go Go.Sim
set_option linter.unusedSimpArgs false
set_option linter.unusedVariables false
set_option maxHeartbeats 2000000
set_option maxRecDepth 40000
def loadW (a : Arena) (w : Int) : Int × Int := if w = 1 then (a.epoch, 0) else if w = 2 then (a.clock, 0) else if w = 3 then (a.nextID, 0) else (0, 9)
theorem aload_ok (a : Arena) (w : Int) : callL G N_arena_Load [.d (eArena a), .d (.int .i64 w)] [] = some (.d (.tup [.int .i64 (loadW a w).1, .int .i64 (loadW a w).2]), []) := by
  unfold loadW
  simp only [eArena]
  by_cases c1 : w = 1
  · subst c1; simp only [if_true]
    rw [callL_code g_arena_Load (by simp)]; simp -implicitDefEqProofs (disch := omega) only [c_arena_Load, r_arena_Load, wr, Int.natCast_mul, Int.cast_ofNat_Int, Int.natCast_zero, List.length_append, lim_eq, wu64, wu32, wu8, Bool.true_beq, Bool.false_beq, beqT, beqF, Int.natCast_add, Int.natCast_one, ltT, ltF, leT, leF, eqT, eqF, nltT, nltF, nleT, nleF, neqT, neqF, mapGet, Int.toNat_natCast, Int.natCast_nonneg, List.length_map, go_sem, ↓reduceIte, reduceCtorEq, Nat.reduceEqDiff, Nat.reduceAdd, Nat.reduceBEq, Nat.reduceMul, Nat.reduceLeDiff, Nat.reduceSub, Nat.reduceLT, Nat.reduceDiv, Nat.reduceMod, List.reduceReplicate, Int.reduceEq, Int.reduceLT, Int.reduceLE, Int.reduceAdd, Int.reduceSub, Int.reduceMul, Int.reduceNeg, Int.reduceToNat, Nat.zero_add]
  by_cases c2 : w = 2
  · subst c2; simp only [Int.reduceEq, if_true, if_false]
    rw [callL_code g_arena_Load (by simp)]; simp -implicitDefEqProofs (disch := omega) only [c_arena_Load, r_arena_Load, wr, Int.natCast_mul, Int.cast_ofNat_Int, Int.natCast_zero, List.length_append, lim_eq, wu64, wu32, wu8, Bool.true_beq, Bool.false_beq, beqT, beqF, Int.natCast_add, Int.natCast_one, ltT, ltF, leT, leF, eqT, eqF, nltT, nltF, nleT, nleF, neqT, neqF, mapGet, Int.toNat_natCast, Int.natCast_nonneg, List.length_map, go_sem, ↓reduceIte, reduceCtorEq, Nat.reduceEqDiff, Nat.reduceAdd, Nat.reduceBEq, Nat.reduceMul, Nat.reduceLeDiff, Nat.reduceSub, Nat.reduceLT, Nat.reduceDiv, Nat.reduceMod, List.reduceReplicate, Int.reduceEq, Int.reduceLT, Int.reduceLE, Int.reduceAdd, Int.reduceSub, Int.reduceMul, Int.reduceNeg, Int.reduceToNat, Nat.zero_add]
  by_cases c3 : w = 3
  · subst c3; simp only [Int.reduceEq, if_true, if_false]
    rw [callL_code g_arena_Load (by simp)]; simp -implicitDefEqProofs (disch := omega) only [c_arena_Load, r_arena_Load, wr, Int.natCast_mul, Int.cast_ofNat_Int, Int.natCast_zero, List.length_append, lim_eq, wu64, wu32, wu8, Bool.true_beq, Bool.false_beq, beqT, beqF, Int.natCast_add, Int.natCast_one, ltT, ltF, leT, leF, eqT, eqF, nltT, nltF, nleT, nleF, neqT, neqF, mapGet, Int.toNat_natCast, Int.natCast_nonneg, List.length_map, go_sem, ↓reduceIte, reduceCtorEq, Nat.reduceEqDiff, Nat.reduceAdd, Nat.reduceBEq, Nat.reduceMul, Nat.reduceLeDiff, Nat.reduceSub, Nat.reduceLT, Nat.reduceDiv, Nat.reduceMod, List.reduceReplicate, Int.reduceEq, Int.reduceLT, Int.reduceLE, Int.reduceAdd, Int.reduceSub, Int.reduceMul, Int.reduceNeg, Int.reduceToNat, Nat.zero_add]
  rw [if_neg c1, if_neg c2, if_neg c3]
  rw [callL_code g_arena_Load (by simp)]; simp -implicitDefEqProofs (disch := omega) only [c_arena_Load, r_arena_Load, wr, Int.natCast_mul, Int.cast_ofNat_Int, Int.natCast_zero, List.length_append, lim_eq, wu64, wu32, wu8, Bool.true_beq, Bool.false_beq, beqT, beqF, Int.natCast_add, Int.natCast_one, ltT, ltF, leT, leF, eqT, eqF, nltT, nltF, nleT, nleF, neqT, neqF, mapGet, Int.toNat_natCast, Int.natCast_nonneg, List.length_map, go_sem, ↓reduceIte, reduceCtorEq, Nat.reduceEqDiff, Nat.reduceAdd, Nat.reduceBEq, Nat.reduceMul, Nat.reduceLeDiff, Nat.reduceSub, Nat.reduceLT, Nat.reduceDiv, Nat.reduceMod, List.reduceReplicate, Int.reduceEq, Int.reduceLT, Int.reduceLE, Int.reduceAdd, Int.reduceSub, Int.reduceMul, Int.reduceNeg, Int.reduceToNat, c1, c2, c3]
def snapStep (a : Arena) (s : Snapshot) (n : Int) : Snapshot × Int :=
  if s.phase = 0 then (⟨1, a.epoch, s.clock, s.stamp⟩, 0)
  else if s.phase = 1 then (⟨2, s.epoch, a.clock, n⟩, 0)
  else if s.phase = 2 then (if a.epoch = s.epoch then (⟨3, s.epoch, s.clock, s.stamp⟩, 0) else (⟨1, a.epoch, s.clock, s.stamp⟩, 0))
  else if s.phase = 3 then (zSnapshot, 7) else (zSnapshot, 1)
theorem snapStep_ok (a : Arena) (s : Snapshot) (n : Int) : callL G N_snapshot_Step [.d (eArena a), .d (eSnapshot s), .d (.int .i64 n)] [] = some (.d (.tup [eSnapshot (snapStep a s n).1, .int .i64 (snapStep a s n).2]), []) := by
  have h1 := aload_ok a 1
  have h2 := aload_ok a 2
  simp only [loadW, Int.reduceEq, if_true, if_false] at h1 h2
  obtain ⟨ph, ep, ck, sp⟩ := s
  unfold snapStep
  simp only [eArena, eSnapshot] at h1 h2 ⊢
  by_cases c0 : ph = 0
  · subst c0; simp only [if_true]
    rw [callL_code g_snapshot_Step (by simp)]; simp -implicitDefEqProofs (disch := omega) only [c_snapshot_Step, r_snapshot_Step, wr, Int.natCast_mul, Int.cast_ofNat_Int, Int.natCast_zero, List.length_append, lim_eq, wu64, wu32, wu8, Bool.true_beq, Bool.false_beq, beqT, beqF, Int.natCast_add, Int.natCast_one, ltT, ltF, leT, leF, eqT, eqF, nltT, nltF, nleT, nleF, neqT, neqF, mapGet, Int.toNat_natCast, Int.natCast_nonneg, List.length_map, go_sem, ↓reduceIte, reduceCtorEq, Nat.reduceEqDiff, Nat.reduceAdd, Nat.reduceBEq, Nat.reduceMul, Nat.reduceLeDiff, Nat.reduceSub, Nat.reduceLT, Nat.reduceDiv, Nat.reduceMod, List.reduceReplicate, Int.reduceEq, Int.reduceLT, Int.reduceLE, Int.reduceAdd, Int.reduceSub, Int.reduceMul, Int.reduceNeg, Int.reduceToNat, h1]
  by_cases c1 : ph = 1
  · subst c1; simp only [Int.reduceEq, if_true, if_false]
    rw [callL_code g_snapshot_Step (by simp)]; simp -implicitDefEqProofs (disch := omega) only [c_snapshot_Step, r_snapshot_Step, wr, Int.natCast_mul, Int.cast_ofNat_Int, Int.natCast_zero, List.length_append, lim_eq, wu64, wu32, wu8, Bool.true_beq, Bool.false_beq, beqT, beqF, Int.natCast_add, Int.natCast_one, ltT, ltF, leT, leF, eqT, eqF, nltT, nltF, nleT, nleF, neqT, neqF, mapGet, Int.toNat_natCast, Int.natCast_nonneg, List.length_map, go_sem, ↓reduceIte, reduceCtorEq, Nat.reduceEqDiff, Nat.reduceAdd, Nat.reduceBEq, Nat.reduceMul, Nat.reduceLeDiff, Nat.reduceSub, Nat.reduceLT, Nat.reduceDiv, Nat.reduceMod, List.reduceReplicate, Int.reduceEq, Int.reduceLT, Int.reduceLE, Int.reduceAdd, Int.reduceSub, Int.reduceMul, Int.reduceNeg, Int.reduceToNat, h2]
  by_cases c2 : ph = 2
  · subst c2; simp only [Int.reduceEq, if_true, if_false]
    by_cases c4 : a.epoch = ep
    · rw [if_pos c4]
      subst c4
      rw [callL_code g_snapshot_Step (by simp)]; simp -implicitDefEqProofs (disch := omega) only [c_snapshot_Step, r_snapshot_Step, wr, Int.natCast_mul, Int.cast_ofNat_Int, Int.natCast_zero, List.length_append, lim_eq, wu64, wu32, wu8, Bool.true_beq, Bool.false_beq, beqT, beqF, Int.natCast_add, Int.natCast_one, ltT, ltF, leT, leF, eqT, eqF, nltT, nltF, nleT, nleF, neqT, neqF, mapGet, Int.toNat_natCast, Int.natCast_nonneg, List.length_map, go_sem, ↓reduceIte, reduceCtorEq, Nat.reduceEqDiff, Nat.reduceAdd, Nat.reduceBEq, Nat.reduceMul, Nat.reduceLeDiff, Nat.reduceSub, Nat.reduceLT, Nat.reduceDiv, Nat.reduceMod, List.reduceReplicate, Int.reduceEq, Int.reduceLT, Int.reduceLE, Int.reduceAdd, Int.reduceSub, Int.reduceMul, Int.reduceNeg, Int.reduceToNat, h1]
    · rw [if_neg c4]
      rw [callL_code g_snapshot_Step (by simp)]; simp -implicitDefEqProofs (disch := omega) only [c_snapshot_Step, r_snapshot_Step, wr, Int.natCast_mul, Int.cast_ofNat_Int, Int.natCast_zero, List.length_append, lim_eq, wu64, wu32, wu8, Bool.true_beq, Bool.false_beq, beqT, beqF, Int.natCast_add, Int.natCast_one, ltT, ltF, leT, leF, eqT, eqF, nltT, nltF, nleT, nleF, neqT, neqF, mapGet, Int.toNat_natCast, Int.natCast_nonneg, List.length_map, go_sem, ↓reduceIte, reduceCtorEq, Nat.reduceEqDiff, Nat.reduceAdd, Nat.reduceBEq, Nat.reduceMul, Nat.reduceLeDiff, Nat.reduceSub, Nat.reduceLT, Nat.reduceDiv, Nat.reduceMod, List.reduceReplicate, Int.reduceEq, Int.reduceLT, Int.reduceLE, Int.reduceAdd, Int.reduceSub, Int.reduceMul, Int.reduceNeg, Int.reduceToNat, h1, c4]
  by_cases c3 : ph = 3
  · subst c3; simp only [Int.reduceEq, if_true, if_false, zSnapshot]
    rw [callL_code g_snapshot_Step (by simp)]; simp -implicitDefEqProofs (disch := omega) only [c_snapshot_Step, r_snapshot_Step, wr, Int.natCast_mul, Int.cast_ofNat_Int, Int.natCast_zero, List.length_append, lim_eq, wu64, wu32, wu8, Bool.true_beq, Bool.false_beq, beqT, beqF, Int.natCast_add, Int.natCast_one, ltT, ltF, leT, leF, eqT, eqF, nltT, nltF, nleT, nleF, neqT, neqF, mapGet, Int.toNat_natCast, Int.natCast_nonneg, List.length_map, go_sem, ↓reduceIte, reduceCtorEq, Nat.reduceEqDiff, Nat.reduceAdd, Nat.reduceBEq, Nat.reduceMul, Nat.reduceLeDiff, Nat.reduceSub, Nat.reduceLT, Nat.reduceDiv, Nat.reduceMod, List.reduceReplicate, Int.reduceEq, Int.reduceLT, Int.reduceLE, Int.reduceAdd, Int.reduceSub, Int.reduceMul, Int.reduceNeg, Int.reduceToNat, h1]
  rw [if_neg c0, if_neg c1, if_neg c2, if_neg c3]
  simp only [zSnapshot]
  rw [callL_code g_snapshot_Step (by simp)]; simp -implicitDefEqProofs (disch := omega) only [c_snapshot_Step, r_snapshot_Step, wr, Int.natCast_mul, Int.cast_ofNat_Int, Int.natCast_zero, List.length_append, lim_eq, wu64, wu32, wu8, Bool.true_beq, Bool.false_beq, beqT, beqF, Int.natCast_add, Int.natCast_one, ltT, ltF, leT, leF, eqT, eqF, nltT, nltF, nleT, nleF, neqT, neqF, mapGet, Int.toNat_natCast, Int.natCast_nonneg, List.length_map, go_sem, ↓reduceIte, reduceCtorEq, Nat.reduceEqDiff, Nat.reduceAdd, Nat.reduceBEq, Nat.reduceMul, Nat.reduceLeDiff, Nat.reduceSub, Nat.reduceLT, Nat.reduceDiv, Nat.reduceMod, List.reduceReplicate, Int.reduceEq, Int.reduceLT, Int.reduceLE, Int.reduceAdd, Int.reduceSub, Int.reduceMul, Int.reduceNeg, Int.reduceToNat, c0, c1, c2, c3]
theorem snapNew_ok : callL G N_snapshot_New [] [] = some (.d (eSnapshot zSnapshot), []) := by
  simp only [eSnapshot, zSnapshot]
  rw [callL_code g_snapshot_New (by simp)]; simp -implicitDefEqProofs (disch := omega) only [c_snapshot_New, r_snapshot_New, wr, Int.natCast_mul, Int.cast_ofNat_Int, Int.natCast_zero, List.length_append, lim_eq, wu64, wu32, wu8, Bool.true_beq, Bool.false_beq, beqT, beqF, Int.natCast_add, Int.natCast_one, ltT, ltF, leT, leF, eqT, eqF, nltT, nltF, nleT, nleF, neqT, neqF, mapGet, Int.toNat_natCast, Int.natCast_nonneg, List.length_map, go_sem, ↓reduceIte, reduceCtorEq, Nat.reduceEqDiff, Nat.reduceAdd, Nat.reduceBEq, Nat.reduceMul, Nat.reduceLeDiff, Nat.reduceSub, Nat.reduceLT, Nat.reduceDiv, Nat.reduceMod, List.reduceReplicate, Int.reduceEq, Int.reduceLT, Int.reduceLE, Int.reduceAdd, Int.reduceSub, Int.reduceMul, Int.reduceNeg, Int.reduceToNat, Nat.zero_add]
theorem owner_ok (a : Arena) (i : Nat) (hi : i < a.slots.length) (hL : a.slots.length ≤ 4294967296) : callL G N_ref12_Owner [.d (eArena a), .d (.int .i64 i)] [] = some (.d (.int .i64 (a.slots[i]).owner), []) := by
  simp only [eArena]
  rw [callL_code g_ref12_Owner (by simp)]; simp -implicitDefEqProofs (disch := omega) only [c_ref12_Owner, r_ref12_Owner, wr, Int.natCast_mul, Int.cast_ofNat_Int, Int.natCast_zero, List.length_append, lim_eq, wu64, wu32, wu8, Bool.true_beq, Bool.false_beq, beqT, beqF, Int.natCast_add, Int.natCast_one, ltT, ltF, leT, leF, eqT, eqF, nltT, nltF, nleT, nleF, neqT, neqF, mapGet, Int.toNat_natCast, Int.natCast_nonneg, List.length_map, go_sem, ↓reduceIte, reduceCtorEq, Nat.reduceEqDiff, Nat.reduceAdd, Nat.reduceBEq, Nat.reduceMul, Nat.reduceLeDiff, Nat.reduceSub, Nat.reduceLT, Nat.reduceDiv, Nat.reduceMod, List.reduceReplicate, Int.reduceEq, Int.reduceLT, Int.reduceLE, Int.reduceAdd, Int.reduceSub, Int.reduceMul, Int.reduceNeg, Int.reduceToNat, eSlot]
def setup1 : Setup := ⟨1, 1, 1, 1, 1, 0, 1, 0⟩
def setup2 : Setup := ⟨1, 1, 1, 1, 1, 9, 1, 2⟩
theorem awake14_ok : callL G N_law14_awake [] [] = some (.d (.bool true), []) := by
  have ha := arenaNew_ok setup2
  have e : arenaNew setup2 = (arenaN setup2, 0) := by decide
  rw [e] at ha
  obtain ⟨a, hA⟩ : ∃ a, a = arenaN setup2 := ⟨_, rfl⟩
  have he : a.epoch = 2 := by rw [hA]; rfl
  have hc : a.clock = 9 := by rw [hA]; rfl
  rw [← hA] at ha
  have s1 := snapStep_ok a zSnapshot 1
  have s2 := snapStep_ok a ⟨1, 2, 0, 0⟩ 2
  have s3 := snapStep_ok a ⟨2, 2, 9, 2⟩ 3
  have hn := snapNew_ok
  simp only [snapStep, zSnapshot, he, hc, Int.reduceEq, if_true, if_false, eSnapshot, eArena] at s1 s2 s3 hn
  simp only [eSetup, setup2, eArena, he, hc] at ha
  rw [callL_code g_law14_awake (by simp)]; simp -implicitDefEqProofs (disch := omega) only [c_law14_awake, r_law14_awake, wr, Int.natCast_mul, Int.cast_ofNat_Int, Int.natCast_zero, List.length_append, lim_eq, wu64, wu32, wu8, Bool.true_beq, Bool.false_beq, beqT, beqF, Int.natCast_add, Int.natCast_one, ltT, ltF, leT, leF, eqT, eqF, nltT, nltF, nleT, nleF, neqT, neqF, mapGet, Int.toNat_natCast, Int.natCast_nonneg, List.length_map, go_sem, ↓reduceIte, reduceCtorEq, Nat.reduceEqDiff, Nat.reduceAdd, Nat.reduceBEq, Nat.reduceMul, Nat.reduceLeDiff, Nat.reduceSub, Nat.reduceLT, Nat.reduceDiv, Nat.reduceMod, List.reduceReplicate, Int.reduceEq, Int.reduceLT, Int.reduceLE, Int.reduceAdd, Int.reduceSub, Int.reduceMul, Int.reduceNeg, Int.reduceToNat, ha, hn, s1, s2, s3]
theorem arena1 : ∃ a, a = arenaN setup1 ∧ arenaNew setup1 = (a, 0) ∧ a.epoch = 0 ∧ a.clock = 0 := ⟨_, rfl, by decide, rfl, rfl⟩
def setE (a : Arena) (e : Int) : Arena := { a with epoch := e }
def ssS (a : Arena) (p : Nat) (t : Nat) (e : Int) (x : Snapshot) : St := ⟨[(3, .ref 3 0 0), (5, .d (.int .i64 p)), (6, .ref 6 0 0), (7, .d (.int .i64 t))], [(3, .row [.d (eArena (setE a e))]), (6, .row [.d (eSnapshot x)])]⟩
structure SI where
  t : Nat
  e : Int
  x : Snapshot
def sInv (p : Nat) (s : SI) : Prop :=
  (s.t = 0 ∧ s.x.phase = 0 ∧ s.e = 0) ∨ (∃ j : Nat, j ≤ p ∧ s.t = 2 * j + 1 ∧ s.x.phase = 1 ∧ s.x.epoch = j ∧ s.e = if j < p then (j : Int) + 1 else p) ∨
  (∃ j : Nat, j ≤ p ∧ s.t = 2 * j + 2 ∧ s.x.phase = 2 ∧ s.x.epoch = j ∧ s.e = if j < p then (j : Int) + 1 else p) ∨ (s.t = 2 * p + 3 ∧ s.x.phase = 3)
theorem ss_loop (a : Arena) (p : Nat) (hp : p < 20) : ∀ s : SI, sInv p s → ∃ e x, x.phase = 3 ∧ loopL G [50] l_law14_SnapshotSteps_0 (ssS a p s.t s.e s.x) = some (.exit 0, ssS a p (2 * p + 3) e x) := by
  refine loop_indP (fun s : SI => 2 * p + 4 - s.t) (sInv p) (fun s => ssS a p s.t s.e s.x) (fun s r => ∃ e x, x.phase = 3 ∧ r = some (.exit 0, ssS a p (2 * p + 3) e x)) fun ⟨t, e, x⟩ hinv L ih => ?_
  obtain ⟨ph, ep, ck, sp⟩ := x
  have hst := fun s n => snapStep_ok (setE a e) s n
  have hL : ∀ t' e' x', sInv p ⟨t', e', x'⟩ → t < t' → t' ≤ 2 * p + 3 → ∃ e2 x2, x2.phase = 3 ∧ L (ssS a p t' e' x') = some (.exit 0, ssS a p (2 * p + 3) e2 x2) := fun t' e' x' h1 h2 h3 => ih ⟨t', e', x'⟩ h1 (by simp only; omega)
  simp only [snapStep, eArena, setE, eSnapshot] at hst
  simp only [l_law14_SnapshotSteps_0, ssS, eArena, setE, eSnapshot] at hL ⊢
  rcases hinv with ⟨h1, h2, h3⟩ | ⟨j, hj, h1, h2, h3, h4⟩ | ⟨j, hj, h1, h2, h3, h4⟩ | ⟨h1, h2⟩
  · simp only at h1 h2 h3
    subst h1 h2 h3
    have s0 := hst ⟨0, ep, ck, sp⟩ 0
    simp only [if_true] at s0
    by_cases hp0 : 0 < p
    · obtain ⟨e2, x2, hx, hh⟩ := hL 1 1 ⟨1, 0, ck, sp⟩ (.inr (.inl ⟨0, by omega, rfl, rfl, rfl, by simp [hp0]⟩)) (by omega) (by omega)
      refine ⟨e2, x2, hx, ?_⟩
      simp only [Int.natCast_add, Int.natCast_one, Int.natCast_zero, Int.natCast_mul, Int.cast_ofNat_Int, List.length_append, List.length_map, List.map_nil, List.length_nil, List.map_append, List.map_cons, List.length_cons, Nat.zero_add, srcO] at hh
      simp -implicitDefEqProofs (disch := omega) only [wr, Int.natCast_mul, Int.cast_ofNat_Int, Int.natCast_zero, List.length_append, lim_eq, wu64, wu32, wu8, Bool.true_beq, Bool.false_beq, beqT, beqF, Int.natCast_add, Int.natCast_one, ltT, ltF, leT, leF, eqT, eqF, nltT, nltF, nleT, nleF, neqT, neqF, mapGet, Int.toNat_natCast, Int.natCast_nonneg, List.length_map, go_sem, ↓reduceIte, reduceCtorEq, Nat.reduceEqDiff, Nat.reduceAdd, Nat.reduceBEq, Nat.reduceMul, Nat.reduceLeDiff, Nat.reduceSub, Nat.reduceLT, Nat.reduceDiv, Nat.reduceMod, List.reduceReplicate, Int.reduceEq, Int.reduceLT, Int.reduceLE, Int.reduceAdd, Int.reduceSub, Int.reduceMul, Int.reduceNeg, Int.reduceToNat, s0, tdivE, tmodE]
      exact hh
    · obtain ⟨e2, x2, hx, hh⟩ := hL 1 0 ⟨1, 0, ck, sp⟩ (.inr (.inl ⟨0, by omega, rfl, rfl, rfl, by simp [hp0]; omega⟩)) (by omega) (by omega)
      refine ⟨e2, x2, hx, ?_⟩
      simp only [Int.natCast_add, Int.natCast_one, Int.natCast_zero, Int.natCast_mul, Int.cast_ofNat_Int, List.length_append, List.length_map, List.map_nil, List.length_nil, List.map_append, List.map_cons, List.length_cons, Nat.zero_add, srcO] at hh
      simp -implicitDefEqProofs (disch := omega) only [wr, Int.natCast_mul, Int.cast_ofNat_Int, Int.natCast_zero, List.length_append, lim_eq, wu64, wu32, wu8, Bool.true_beq, Bool.false_beq, beqT, beqF, Int.natCast_add, Int.natCast_one, ltT, ltF, leT, leF, eqT, eqF, nltT, nltF, nleT, nleF, neqT, neqF, mapGet, Int.toNat_natCast, Int.natCast_nonneg, List.length_map, go_sem, ↓reduceIte, reduceCtorEq, Nat.reduceEqDiff, Nat.reduceAdd, Nat.reduceBEq, Nat.reduceMul, Nat.reduceLeDiff, Nat.reduceSub, Nat.reduceLT, Nat.reduceDiv, Nat.reduceMod, List.reduceReplicate, Int.reduceEq, Int.reduceLT, Int.reduceLE, Int.reduceAdd, Int.reduceSub, Int.reduceMul, Int.reduceNeg, Int.reduceToNat, s0, tdivE, tmodE]
      exact hh
  · simp only at h1 h2 h3 h4
    subst h1 h2 h3
    have s0 := hst ⟨1, j, ck, sp⟩ ((2 * j + 1 : Nat) : Int)
    simp only [Int.reduceEq, if_true, if_false] at s0
    obtain ⟨e2, x2, hx, hh⟩ := hL (2 * j + 2) e ⟨2, j, a.clock, ((2 * j + 1 : Nat) : Int)⟩ (.inr (.inr (.inl ⟨j, hj, rfl, rfl, rfl, h4⟩))) (by omega) (by omega)
    refine ⟨e2, x2, hx, ?_⟩
    simp only [Int.natCast_add, Int.natCast_one, Int.natCast_zero, Int.natCast_mul, Int.cast_ofNat_Int, List.length_append, List.length_map, List.map_nil, List.length_nil, List.map_append, List.map_cons, List.length_cons, Nat.zero_add, srcO] at hh s0
    have e3 : (2 * (j : Int) + 1 + 1) = 2 * (j : Int) + 2 := by omega
    simp -implicitDefEqProofs (disch := omega) only [wr, Int.natCast_mul, Int.cast_ofNat_Int, Int.natCast_zero, List.length_append, lim_eq, wu64, wu32, wu8, Bool.true_beq, Bool.false_beq, beqT, beqF, Int.natCast_add, Int.natCast_one, ltT, ltF, leT, leF, eqT, eqF, nltT, nltF, nleT, nleF, neqT, neqF, mapGet, Int.toNat_natCast, Int.natCast_nonneg, List.length_map, go_sem, ↓reduceIte, reduceCtorEq, Nat.reduceEqDiff, Nat.reduceAdd, Nat.reduceBEq, Nat.reduceMul, Nat.reduceLeDiff, Nat.reduceSub, Nat.reduceLT, Nat.reduceDiv, Nat.reduceMod, List.reduceReplicate, Int.reduceEq, Int.reduceLT, Int.reduceLE, Int.reduceAdd, Int.reduceSub, Int.reduceMul, Int.reduceNeg, Int.reduceToNat, s0, tdivE, tmodE, e3]
    exact hh
  · simp only at h1 h2 h3 h4
    subst h1 h2 h3
    have s0 := hst ⟨2, j, ck, sp⟩ ((2 * j + 2 : Nat) : Int)
    simp only [Int.reduceEq, if_true, if_false] at s0
    have e3 : (2 * (j : Int) + 2 + 1) = 2 * (j : Int) + 3 := by omega
    by_cases hjp : j < p
    · rw [if_pos hjp] at h4
      subst h4
      simp only [show ¬ ((j : Int) + 1 = (j : Int)) by omega, if_false] at s0
      by_cases hjp2 : j + 1 < p
      · obtain ⟨e2, x2, hx, hh⟩ := hL (2 * j + 3) ((j : Int) + 1 + 1) ⟨1, (j : Int) + 1, ck, sp⟩ (.inr (.inl ⟨j + 1, by omega, by simp only; omega, rfl, by simp, by rw [if_pos hjp2]; simp⟩)) (by omega) (by omega)
        refine ⟨e2, x2, hx, ?_⟩
        simp only [Int.natCast_add, Int.natCast_one, Int.natCast_zero, Int.natCast_mul, Int.cast_ofNat_Int, List.length_append, List.length_map, List.map_nil, List.length_nil, List.map_append, List.map_cons, List.length_cons, Nat.zero_add, srcO] at hh s0
        simp -implicitDefEqProofs (disch := omega) only [wr, Int.natCast_mul, Int.cast_ofNat_Int, Int.natCast_zero, List.length_append, lim_eq, wu64, wu32, wu8, Bool.true_beq, Bool.false_beq, beqT, beqF, Int.natCast_add, Int.natCast_one, ltT, ltF, leT, leF, eqT, eqF, nltT, nltF, nleT, nleF, neqT, neqF, mapGet, Int.toNat_natCast, Int.natCast_nonneg, List.length_map, go_sem, ↓reduceIte, reduceCtorEq, Nat.reduceEqDiff, Nat.reduceAdd, Nat.reduceBEq, Nat.reduceMul, Nat.reduceLeDiff, Nat.reduceSub, Nat.reduceLT, Nat.reduceDiv, Nat.reduceMod, List.reduceReplicate, Int.reduceEq, Int.reduceLT, Int.reduceLE, Int.reduceAdd, Int.reduceSub, Int.reduceMul, Int.reduceNeg, Int.reduceToNat, s0, tdivE, tmodE, e3]
        exact hh
      · obtain ⟨e2, x2, hx, hh⟩ := hL (2 * j + 3) ((j : Int) + 1) ⟨1, (j : Int) + 1, ck, sp⟩ (.inr (.inl ⟨j + 1, by omega, by simp only; omega, rfl, by simp, by rw [if_neg hjp2]; simp only; omega⟩)) (by omega) (by omega)
        refine ⟨e2, x2, hx, ?_⟩
        simp only [Int.natCast_add, Int.natCast_one, Int.natCast_zero, Int.natCast_mul, Int.cast_ofNat_Int, List.length_append, List.length_map, List.map_nil, List.length_nil, List.map_append, List.map_cons, List.length_cons, Nat.zero_add, srcO] at hh s0
        simp -implicitDefEqProofs (disch := omega) only [wr, Int.natCast_mul, Int.cast_ofNat_Int, Int.natCast_zero, List.length_append, lim_eq, wu64, wu32, wu8, Bool.true_beq, Bool.false_beq, beqT, beqF, Int.natCast_add, Int.natCast_one, ltT, ltF, leT, leF, eqT, eqF, nltT, nltF, nleT, nleF, neqT, neqF, mapGet, Int.toNat_natCast, Int.natCast_nonneg, List.length_map, go_sem, ↓reduceIte, reduceCtorEq, Nat.reduceEqDiff, Nat.reduceAdd, Nat.reduceBEq, Nat.reduceMul, Nat.reduceLeDiff, Nat.reduceSub, Nat.reduceLT, Nat.reduceDiv, Nat.reduceMod, List.reduceReplicate, Int.reduceEq, Int.reduceLT, Int.reduceLE, Int.reduceAdd, Int.reduceSub, Int.reduceMul, Int.reduceNeg, Int.reduceToNat, s0, tdivE, tmodE, e3]
        exact hh
    · rw [if_neg hjp] at h4
      obtain rfl : j = p := by omega
      subst h4
      simp only [if_true] at s0
      obtain ⟨e2, x2, hx, hh⟩ := hL (2 * j + 3) j ⟨3, j, ck, sp⟩ (.inr (.inr (.inr ⟨rfl, rfl⟩))) (by omega) (by omega)
      refine ⟨e2, x2, hx, ?_⟩
      simp only [Int.natCast_add, Int.natCast_one, Int.natCast_zero, Int.natCast_mul, Int.cast_ofNat_Int, List.length_append, List.length_map, List.map_nil, List.length_nil, List.map_append, List.map_cons, List.length_cons, Nat.zero_add, srcO] at hh s0
      simp -implicitDefEqProofs (disch := omega) only [wr, Int.natCast_mul, Int.cast_ofNat_Int, Int.natCast_zero, List.length_append, lim_eq, wu64, wu32, wu8, Bool.true_beq, Bool.false_beq, beqT, beqF, Int.natCast_add, Int.natCast_one, ltT, ltF, leT, leF, eqT, eqF, nltT, nltF, nleT, nleF, neqT, neqF, mapGet, Int.toNat_natCast, Int.natCast_nonneg, List.length_map, go_sem, ↓reduceIte, reduceCtorEq, Nat.reduceEqDiff, Nat.reduceAdd, Nat.reduceBEq, Nat.reduceMul, Nat.reduceLeDiff, Nat.reduceSub, Nat.reduceLT, Nat.reduceDiv, Nat.reduceMod, List.reduceReplicate, Int.reduceEq, Int.reduceLT, Int.reduceLE, Int.reduceAdd, Int.reduceSub, Int.reduceMul, Int.reduceNeg, Int.reduceToNat, s0, tdivE, tmodE, e3]
      exact hh
  · simp only at h1 h2
    subst h1 h2
    refine ⟨e, ⟨3, ep, ck, sp⟩, rfl, ?_⟩
    simp -implicitDefEqProofs (disch := omega) only [wr, Int.natCast_mul, Int.cast_ofNat_Int, Int.natCast_zero, List.length_append, lim_eq, wu64, wu32, wu8, Bool.true_beq, Bool.false_beq, beqT, beqF, Int.natCast_add, Int.natCast_one, ltT, ltF, leT, leF, eqT, eqF, nltT, nltF, nleT, nleF, neqT, neqF, mapGet, Int.toNat_natCast, Int.natCast_nonneg, List.length_map, go_sem, ↓reduceIte, reduceCtorEq, Nat.reduceEqDiff, Nat.reduceAdd, Nat.reduceBEq, Nat.reduceMul, Nat.reduceLeDiff, Nat.reduceSub, Nat.reduceLT, Nat.reduceDiv, Nat.reduceMod, List.reduceReplicate, Int.reduceEq, Int.reduceLT, Int.reduceLE, Int.reduceAdd, Int.reduceSub, Int.reduceMul, Int.reduceNeg, Int.reduceToNat, Nat.zero_add]
theorem snapSteps_ok (n : Nat) (hn : n < 256) : callL G N_law14_SnapshotSteps [.d (.int .u8 n)] [] = some (.d (.bool true), []) := by
  obtain ⟨a, hA, ha, he, hc⟩ := arena1
  have hnew := arenaNew_ok setup1
  rw [ha] at hnew
  obtain ⟨e, x, hx, hl⟩ := ss_loop a (n % 20) (by omega) ⟨0, 0, zSnapshot⟩ (.inl ⟨rfl, rfl, rfl⟩)
  obtain ⟨ph, ep, ck, sp⟩ := x
  simp only at hx
  subst hx
  have hs := snapStep_ok (setE a e) ⟨3, ep, ck, sp⟩ ((2 * (n % 20) + 3 : Nat) : Int)
  have ho := owner_ok (setE a e) 0 (by rw [hA]; show 0 < (arenaN setup1).slots.length; decide) (by rw [hA]; show (arenaN setup1).slots.length ≤ 4294967296; decide)
  have ho2 : ((setE a e).slots[0]'(by rw [hA]; show 0 < (arenaN setup1).slots.length; decide)).owner = 0 := by subst hA; rfl
  rw [ho2] at ho
  have hsn := snapNew_ok
  simp only [snapStep, Int.reduceEq, if_true, if_false] at hs
  simp only [eArena, setE, eSnapshot, zSnapshot, eSetup, setup1, ssS, he] at hnew hl hs ho hsn
  have e3 : ((3 : Int) + 2 * ((n : Int) % 20)) = 2 * ((n : Int) % 20) + 3 := by omega
  have e4 : ((n % 20 : Nat) : Int) = (n : Int) % 20 := by omega
  simp only [Int.natCast_add, Int.natCast_one, Int.natCast_zero, Int.natCast_mul, Int.cast_ofNat_Int, List.length_append, List.length_map, List.map_nil, List.length_nil, List.map_append, List.map_cons, List.length_cons, Nat.zero_add, srcO] at hl hs ho
  simp only [e4] at hl hs
  rw [callL_code g_law14_SnapshotSteps (by simp)]; simp -implicitDefEqProofs (disch := omega) only [c_law14_SnapshotSteps, r_law14_SnapshotSteps, wr, Int.natCast_mul, Int.cast_ofNat_Int, Int.natCast_zero, List.length_append, lim_eq, wu64, wu32, wu8, Bool.true_beq, Bool.false_beq, beqT, beqF, Int.natCast_add, Int.natCast_one, ltT, ltF, leT, leF, eqT, eqF, nltT, nltF, nleT, nleF, neqT, neqF, mapGet, Int.toNat_natCast, Int.natCast_nonneg, List.length_map, go_sem, ↓reduceIte, reduceCtorEq, Nat.reduceEqDiff, Nat.reduceAdd, Nat.reduceBEq, Nat.reduceMul, Nat.reduceLeDiff, Nat.reduceSub, Nat.reduceLT, Nat.reduceDiv, Nat.reduceMod, List.reduceReplicate, Int.reduceEq, Int.reduceLT, Int.reduceLE, Int.reduceAdd, Int.reduceSub, Int.reduceMul, Int.reduceNeg, Int.reduceToNat, hnew, hsn, tmodE, hl, hs, ho, e3, awake14_ok]
end Go.Proofs.Ytlphhhmicdjljaa
