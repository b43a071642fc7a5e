/-
  Rings, shards, stores and arenas: the first ones.
-/
import Derived.Test.YtlphhhmicdjljaaRF3
namespace Go.Proofs.Ytlphhhmicdjljaa
open Go Go.Sim
set_option linter.unusedSimpArgs false
set_option linter.unusedVariables false
set_option maxHeartbeats 10000000
set_option maxRecDepth 40000
def ringN (cap : Int) : Ring := ⟨List.replicate cap.toNat zMessage, 0, 0⟩
def ringNew (cap : Int) : Ring × Int := if cap < 1 ∨ 12 < cap then (zRing, 1) else (ringN cap, 0)
theorem ringNew_ok (cap : Int) : callL G N_ring_New [.d (.int .i64 cap)] [] = some (.d (.tup [eRing (ringNew cap).1, .int .i64 (ringNew cap).2]), []) := by
  unfold ringNew
  by_cases c1 : cap < 1
  · rw [if_pos (Or.inl c1)]
    simp only [eRing, zRing]
    rw [callL_code g_ring_New (by simp)]; simp -implicitDefEqProofs (disch := omega) only [c_ring_New, r_ring_New, wr, Int.natCast_mul, Int.cast_ofNat_Int, Int.natCast_zero, List.length_append, lim_eq, wu64, wu32, wu8, Bool.true_beq, Bool.false_beq, beqT, beqF, Int.natCast_add, Int.natCast_one, ltT, ltF, leT, leF, eqT, eqF, lenLtT, lenLtF, lenLeT, addLeT, lenEqT, mapGet, Int.toNat_natCast, Int.natCast_nonneg, List.length_map, go_sem, ↓reduceIte, reduceCtorEq, Nat.reduceEqDiff, Nat.reduceAdd, Nat.reduceBEq, Nat.reduceMul, Nat.reduceLeDiff, Nat.reduceSub, Nat.reduceLT, Nat.reduceDiv, Nat.reduceMod, List.reduceReplicate, Int.reduceEq, Int.reduceLT, Int.reduceLE, Int.reduceAdd, Int.reduceSub, Int.reduceMul, Int.reduceNeg, Int.reduceToNat, Nat.zero_add]
  by_cases c2 : 12 < cap
  · rw [if_pos (Or.inr c2)]
    simp only [eRing, zRing]
    rw [callL_code g_ring_New (by simp)]; simp -implicitDefEqProofs (disch := omega) only [c_ring_New, r_ring_New, wr, Int.natCast_mul, Int.cast_ofNat_Int, Int.natCast_zero, List.length_append, lim_eq, wu64, wu32, wu8, Bool.true_beq, Bool.false_beq, beqT, beqF, Int.natCast_add, Int.natCast_one, ltT, ltF, leT, leF, eqT, eqF, lenLtT, lenLtF, lenLeT, addLeT, lenEqT, mapGet, Int.toNat_natCast, Int.natCast_nonneg, List.length_map, go_sem, ↓reduceIte, reduceCtorEq, Nat.reduceEqDiff, Nat.reduceAdd, Nat.reduceBEq, Nat.reduceMul, Nat.reduceLeDiff, Nat.reduceSub, Nat.reduceLT, Nat.reduceDiv, Nat.reduceMod, List.reduceReplicate, Int.reduceEq, Int.reduceLT, Int.reduceLE, Int.reduceAdd, Int.reduceSub, Int.reduceMul, Int.reduceNeg, Int.reduceToNat, Nat.zero_add]
  rw [if_neg (by omega)]
  obtain ⟨n, hn⟩ : ∃ n, n = cap.toNat := ⟨_, rfl⟩
  have hz : ∀ n, List.replicate n (AV.d (.agg [.int .i64 0, .int .i64 0, .int .i64 0, .int .i64 0, .int .i64 0, .int .i64 0, .str []])) = ((List.replicate n zMessage).map eMessage).map .d := by
    intro n
    rw [List.map_replicate, List.map_replicate]; rfl
  have hl : ∀ n, List.take n (((List.replicate n zMessage).map eMessage).map AV.d) = ((List.replicate n zMessage).map eMessage).map AV.d := fun n => List.take_of_length_le (by simp)
  simp only [eRing, ringN]
  rw [← hn, show cap = (n : Int) by omega]
  rw [callL_code g_ring_New (by simp)]; simp -implicitDefEqProofs (disch := omega) only [c_ring_New, r_ring_New, wr, Int.natCast_mul, Int.cast_ofNat_Int, Int.natCast_zero, List.length_append, lim_eq, wu64, wu32, wu8, Bool.true_beq, Bool.false_beq, beqT, beqF, Int.natCast_add, Int.natCast_one, ltT, ltF, leT, leF, eqT, eqF, lenLtT, lenLtF, lenLeT, addLeT, lenEqT, mapGet, Int.toNat_natCast, Int.natCast_nonneg, List.length_map, go_sem, ↓reduceIte, reduceCtorEq, Nat.reduceEqDiff, Nat.reduceAdd, Nat.reduceBEq, Nat.reduceMul, Nat.reduceLeDiff, Nat.reduceSub, Nat.reduceLT, Nat.reduceDiv, Nat.reduceMod, List.reduceReplicate, Int.reduceEq, Int.reduceLT, Int.reduceLE, Int.reduceAdd, Int.reduceSub, Int.reduceMul, Int.reduceNeg, Int.reduceToNat, hz, hl, List.length_replicate]
def shardFree (cap : Int) : Shard × Int := if cap < 1 ∨ 12 < cap then (zShard, 1) else (⟨false, 0, 0, ringN cap, ⟨[], []⟩⟩, 0)
theorem shardFree_ok (cap : Int) : callL G N_shard_Free [.d (.int .i64 cap)] [] = some (.d (.tup [eShard (shardFree cap).1, .int .i64 (shardFree cap).2]), []) := by
  have hr := ringNew_ok cap
  unfold ringNew at hr
  unfold shardFree
  by_cases c1 : cap < 1 ∨ 12 < cap
  · rw [if_pos c1] at hr ⊢
    simp only [eRing, zRing, eShard, zShard] at hr ⊢
    simp only [Int.natCast_add, Int.natCast_one, Int.natCast_zero, Int.natCast_mul, Int.cast_ofNat_Int, List.length_append, List.length_map, List.map_nil, List.length_nil, List.map_append, List.map_cons, List.length_cons, Nat.zero_add, srcO] at hr
    rw [callL_code g_shard_Free (by simp)]; simp -implicitDefEqProofs (disch := omega) only [c_shard_Free, r_shard_Free, wr, Int.natCast_mul, Int.cast_ofNat_Int, Int.natCast_zero, List.length_append, lim_eq, wu64, wu32, wu8, Bool.true_beq, Bool.false_beq, beqT, beqF, Int.natCast_add, Int.natCast_one, ltT, ltF, leT, leF, eqT, eqF, lenLtT, lenLtF, lenLeT, addLeT, lenEqT, mapGet, Int.toNat_natCast, Int.natCast_nonneg, List.length_map, go_sem, ↓reduceIte, reduceCtorEq, Nat.reduceEqDiff, Nat.reduceAdd, Nat.reduceBEq, Nat.reduceMul, Nat.reduceLeDiff, Nat.reduceSub, Nat.reduceLT, Nat.reduceDiv, Nat.reduceMod, List.reduceReplicate, Int.reduceEq, Int.reduceLT, Int.reduceLE, Int.reduceAdd, Int.reduceSub, Int.reduceMul, Int.reduceNeg, Int.reduceToNat, hr]
  · rw [if_neg c1] at hr ⊢
    simp only [eRing, eShard] at hr ⊢
    rw [callL_code g_shard_Free (by simp)]; simp -implicitDefEqProofs (disch := omega) only [c_shard_Free, r_shard_Free, wr, Int.natCast_mul, Int.cast_ofNat_Int, Int.natCast_zero, List.length_append, lim_eq, wu64, wu32, wu8, Bool.true_beq, Bool.false_beq, beqT, beqF, Int.natCast_add, Int.natCast_one, ltT, ltF, leT, leF, eqT, eqF, lenLtT, lenLtF, lenLeT, addLeT, lenEqT, mapGet, Int.toNat_natCast, Int.natCast_nonneg, List.length_map, go_sem, ↓reduceIte, reduceCtorEq, Nat.reduceEqDiff, Nat.reduceAdd, Nat.reduceBEq, Nat.reduceMul, Nat.reduceLeDiff, Nat.reduceSub, Nat.reduceLT, Nat.reduceDiv, Nat.reduceMod, List.reduceReplicate, Int.reduceEq, Int.reduceLT, Int.reduceLE, Int.reduceAdd, Int.reduceSub, Int.reduceMul, Int.reduceNeg, Int.reduceToNat, hr]
def spansB (lo hi : Int) : Bool := decide (0 ≤ lo) && (decide (lo ≤ hi) && decide (hi < 65536))
theorem spans_ok (lo hi : Int) : callL G N_shard_spans [.d (.int .i64 lo), .d (.int .i64 hi)] [] = some (.d (.bool (spansB lo hi)), []) := by
  unfold spansB
  rw [callL_code g_shard_spans (by simp)]; simp -implicitDefEqProofs (disch := omega) only [c_shard_spans, r_shard_spans, wr, Int.natCast_mul, Int.cast_ofNat_Int, Int.natCast_zero, List.length_append, lim_eq, wu64, wu32, wu8, Bool.true_beq, Bool.false_beq, beqT, beqF, Int.natCast_add, Int.natCast_one, ltT, ltF, leT, leF, eqT, eqF, lenLtT, lenLtF, lenLeT, addLeT, lenEqT, mapGet, Int.toNat_natCast, Int.natCast_nonneg, List.length_map, go_sem, ↓reduceIte, reduceCtorEq, Nat.reduceEqDiff, Nat.reduceAdd, Nat.reduceBEq, Nat.reduceMul, Nat.reduceLeDiff, Nat.reduceSub, Nat.reduceLT, Nat.reduceDiv, Nat.reduceMod, List.reduceReplicate, Int.reduceEq, Int.reduceLT, Int.reduceLE, Int.reduceAdd, Int.reduceSub, Int.reduceMul, Int.reduceNeg, Int.reduceToNat, Nat.zero_add]
def shardNew (cap lo hi : Int) : Shard × Int := if cap < 1 ∨ 12 < cap then (zShard, 1) else if spansB lo hi = false then (zShard, 1) else (⟨true, lo, hi, ringN cap, ⟨[], []⟩⟩, 0)
theorem shardNew_ok (cap lo hi : Int) : callL G N_shard_New [.d (.int .i64 cap), .d (.int .i64 lo), .d (.int .i64 hi)] [] = some (.d (.tup [eShard (shardNew cap lo hi).1, .int .i64 (shardNew cap lo hi).2]), []) := by
  have hr := ringNew_ok cap
  have hs := spans_ok lo hi
  unfold ringNew at hr
  unfold shardNew
  by_cases c1 : cap < 1 ∨ 12 < cap
  · rw [if_pos c1] at hr ⊢
    simp only [eRing, zRing, eShard, zShard] at hr ⊢
    simp only [Int.natCast_add, Int.natCast_one, Int.natCast_zero, Int.natCast_mul, Int.cast_ofNat_Int, List.length_append, List.length_map, List.map_nil, List.length_nil, List.map_append, List.map_cons, List.length_cons, Nat.zero_add, srcO] at hr
    rw [callL_code g_shard_New (by simp)]; simp -implicitDefEqProofs (disch := omega) only [c_shard_New, r_shard_New, wr, Int.natCast_mul, Int.cast_ofNat_Int, Int.natCast_zero, List.length_append, lim_eq, wu64, wu32, wu8, Bool.true_beq, Bool.false_beq, beqT, beqF, Int.natCast_add, Int.natCast_one, ltT, ltF, leT, leF, eqT, eqF, lenLtT, lenLtF, lenLeT, addLeT, lenEqT, mapGet, Int.toNat_natCast, Int.natCast_nonneg, List.length_map, go_sem, ↓reduceIte, reduceCtorEq, Nat.reduceEqDiff, Nat.reduceAdd, Nat.reduceBEq, Nat.reduceMul, Nat.reduceLeDiff, Nat.reduceSub, Nat.reduceLT, Nat.reduceDiv, Nat.reduceMod, List.reduceReplicate, Int.reduceEq, Int.reduceLT, Int.reduceLE, Int.reduceAdd, Int.reduceSub, Int.reduceMul, Int.reduceNeg, Int.reduceToNat, hr]
  · rw [if_neg c1] at hr ⊢
    simp only [eRing, eShard] at hr ⊢
    cases c2 : spansB lo hi
    · rw [c2] at hs
      simp only [if_true, zShard]
      rw [callL_code g_shard_New (by simp)]; simp -implicitDefEqProofs (disch := omega) only [c_shard_New, r_shard_New, wr, Int.natCast_mul, Int.cast_ofNat_Int, Int.natCast_zero, List.length_append, lim_eq, wu64, wu32, wu8, Bool.true_beq, Bool.false_beq, beqT, beqF, Int.natCast_add, Int.natCast_one, ltT, ltF, leT, leF, eqT, eqF, lenLtT, lenLtF, lenLeT, addLeT, lenEqT, mapGet, Int.toNat_natCast, Int.natCast_nonneg, List.length_map, go_sem, ↓reduceIte, reduceCtorEq, Nat.reduceEqDiff, Nat.reduceAdd, Nat.reduceBEq, Nat.reduceMul, Nat.reduceLeDiff, Nat.reduceSub, Nat.reduceLT, Nat.reduceDiv, Nat.reduceMod, List.reduceReplicate, Int.reduceEq, Int.reduceLT, Int.reduceLE, Int.reduceAdd, Int.reduceSub, Int.reduceMul, Int.reduceNeg, Int.reduceToNat, hr, hs]
    · rw [c2] at hs
      simp only [Bool.true_eq_false, if_false]
      rw [callL_code g_shard_New (by simp)]; simp -implicitDefEqProofs (disch := omega) only [c_shard_New, r_shard_New, wr, Int.natCast_mul, Int.cast_ofNat_Int, Int.natCast_zero, List.length_append, lim_eq, wu64, wu32, wu8, Bool.true_beq, Bool.false_beq, beqT, beqF, Int.natCast_add, Int.natCast_one, ltT, ltF, leT, leF, eqT, eqF, lenLtT, lenLtF, lenLeT, addLeT, lenEqT, mapGet, Int.toNat_natCast, Int.natCast_nonneg, List.length_map, go_sem, ↓reduceIte, reduceCtorEq, Nat.reduceEqDiff, Nat.reduceAdd, Nat.reduceBEq, Nat.reduceMul, Nat.reduceLeDiff, Nat.reduceSub, Nat.reduceLT, Nat.reduceDiv, Nat.reduceMod, List.reduceReplicate, Int.reduceEq, Int.reduceLT, Int.reduceLE, Int.reduceAdd, Int.reduceSub, Int.reduceMul, Int.reduceNeg, Int.reduceToNat, hr, hs]
def deadNew (cap : Int) : Dead × Int := if cap < 1 ∨ 24 < cap then (zDead, 1) else (⟨cap, []⟩, 0)
theorem deadNew_ok (cap : Int) : callL G N_dead_New [.d (.int .i64 cap)] [] = some (.d (.tup [eDead (deadNew cap).1, .int .i64 (deadNew cap).2]), []) := by
  unfold deadNew
  by_cases c1 : cap < 1
  · rw [if_pos (Or.inl c1)]
    simp only [eDead, zDead]
    rw [callL_code g_dead_New (by simp)]; simp -implicitDefEqProofs (disch := omega) only [c_dead_New, r_dead_New, wr, Int.natCast_mul, Int.cast_ofNat_Int, Int.natCast_zero, List.length_append, lim_eq, wu64, wu32, wu8, Bool.true_beq, Bool.false_beq, beqT, beqF, Int.natCast_add, Int.natCast_one, ltT, ltF, leT, leF, eqT, eqF, lenLtT, lenLtF, lenLeT, addLeT, lenEqT, mapGet, Int.toNat_natCast, Int.natCast_nonneg, List.length_map, go_sem, ↓reduceIte, reduceCtorEq, Nat.reduceEqDiff, Nat.reduceAdd, Nat.reduceBEq, Nat.reduceMul, Nat.reduceLeDiff, Nat.reduceSub, Nat.reduceLT, Nat.reduceDiv, Nat.reduceMod, List.reduceReplicate, Int.reduceEq, Int.reduceLT, Int.reduceLE, Int.reduceAdd, Int.reduceSub, Int.reduceMul, Int.reduceNeg, Int.reduceToNat, Nat.zero_add]
  by_cases c2 : 24 < cap
  · rw [if_pos (Or.inr c2)]
    simp only [eDead, zDead]
    rw [callL_code g_dead_New (by simp)]; simp -implicitDefEqProofs (disch := omega) only [c_dead_New, r_dead_New, wr, Int.natCast_mul, Int.cast_ofNat_Int, Int.natCast_zero, List.length_append, lim_eq, wu64, wu32, wu8, Bool.true_beq, Bool.false_beq, beqT, beqF, Int.natCast_add, Int.natCast_one, ltT, ltF, leT, leF, eqT, eqF, lenLtT, lenLtF, lenLeT, addLeT, lenEqT, mapGet, Int.toNat_natCast, Int.natCast_nonneg, List.length_map, go_sem, ↓reduceIte, reduceCtorEq, Nat.reduceEqDiff, Nat.reduceAdd, Nat.reduceBEq, Nat.reduceMul, Nat.reduceLeDiff, Nat.reduceSub, Nat.reduceLT, Nat.reduceDiv, Nat.reduceMod, List.reduceReplicate, Int.reduceEq, Int.reduceLT, Int.reduceLE, Int.reduceAdd, Int.reduceSub, Int.reduceMul, Int.reduceNeg, Int.reduceToNat, Nat.zero_add]
  rw [if_neg (by omega)]
  simp only [eDead]
  rw [callL_code g_dead_New (by simp)]; simp -implicitDefEqProofs (disch := omega) only [c_dead_New, r_dead_New, wr, Int.natCast_mul, Int.cast_ofNat_Int, Int.natCast_zero, List.length_append, lim_eq, wu64, wu32, wu8, Bool.true_beq, Bool.false_beq, beqT, beqF, Int.natCast_add, Int.natCast_one, ltT, ltF, leT, leF, eqT, eqF, lenLtT, lenLtF, lenLeT, addLeT, lenEqT, mapGet, Int.toNat_natCast, Int.natCast_nonneg, List.length_map, go_sem, ↓reduceIte, reduceCtorEq, Nat.reduceEqDiff, Nat.reduceAdd, Nat.reduceBEq, Nat.reduceMul, Nat.reduceLeDiff, Nat.reduceSub, Nat.reduceLT, Nat.reduceDiv, Nat.reduceMod, List.reduceReplicate, Int.reduceEq, Int.reduceLT, Int.reduceLE, Int.reduceAdd, Int.reduceSub, Int.reduceMul, Int.reduceNeg, Int.reduceToNat, Nat.zero_add]
def inB (n lo hi : Int) : Bool := decide (lo ≤ n) && decide (n ≤ hi)
theorem ain_ok (n lo hi : Int) : callL G N_arena_in [.d (.int .i64 n), .d (.int .i64 lo), .d (.int .i64 hi)] [] = some (.d (.bool (inB n lo hi)), []) := by
  unfold inB
  rw [callL_code g_arena_in (by simp)]; simp -implicitDefEqProofs (disch := omega) only [c_arena_in, r_arena_in, wr, Int.natCast_mul, Int.cast_ofNat_Int, Int.natCast_zero, List.length_append, lim_eq, wu64, wu32, wu8, Bool.true_beq, Bool.false_beq, beqT, beqF, Int.natCast_add, Int.natCast_one, ltT, ltF, leT, leF, eqT, eqF, lenLtT, lenLtF, lenLeT, addLeT, lenEqT, mapGet, Int.toNat_natCast, Int.natCast_nonneg, List.length_map, go_sem, ↓reduceIte, reduceCtorEq, Nat.reduceEqDiff, Nat.reduceAdd, Nat.reduceBEq, Nat.reduceMul, Nat.reduceLeDiff, Nat.reduceSub, Nat.reduceLT, Nat.reduceDiv, Nat.reduceMod, List.reduceReplicate, Int.reduceEq, Int.reduceLT, Int.reduceLE, Int.reduceAdd, Int.reduceSub, Int.reduceMul, Int.reduceNeg, Int.reduceToNat, Nat.zero_add]
/-! ### Arenas -/
def okSetup (s : Setup) : Bool := inB s.slots 1 6 && (inB s.live 1 s.slots && (inB s.capacity 1 12 && (inB s.dead 1 24 && (inB s.limit 1 8 && (inB s.clock 0 1073741824 && (inB s.nextID 1 1073741824 && inB s.epoch 0 65536))))))
def slotI (s : Setup) (i : Nat) : Slot := ⟨0, if i < s.live.toNat then ⟨true, (spanI s.live i).low, (spanI s.live i).high, ringN s.capacity, ⟨[], []⟩⟩ else ⟨false, 0, 0, ringN s.capacity, ⟨[], []⟩⟩⟩
def slotsN (s : Setup) (k : Nat) : List Slot := (List.range k).map (slotI s)
def stripesN (s : Setup) (k : Nat) : List Stripe := List.replicate k ⟨0, s.epoch, 0, 0⟩
def arenaN (s : Setup) : Arena := ⟨slotsN s s.slots.toNat, stripesN s s.slots.toNat, ⟨0, ⟨s.dead, []⟩⟩, dirN s.slots.toNat s.live.toNat, s.epoch, s.clock, s.nextID⟩
def arenaNew (s : Setup) : Arena × Int := if okSetup s = true then (arenaN s, 0) else (zArena, 1)
theorem arenaNew_bad (s : Setup) (h : okSetup s = false) : callL G N_arena_New [.d (eSetup s)] [] = some (.d (.tup [eArena (arenaNew s).1, .int .i64 (arenaNew s).2]), []) := by
  unfold arenaNew
  rw [if_neg (by simp [h])]
  unfold okSetup at h
  simp only [eSetup, eArena, zArena]
  cases c1 : inB s.slots 1 6
  · rw [callL_code g_arena_New (by simp)]; simp -implicitDefEqProofs (disch := omega) only [c_arena_New, r_arena_New, wr, Int.natCast_mul, Int.cast_ofNat_Int, Int.natCast_zero, List.length_append, lim_eq, wu64, wu32, wu8, Bool.true_beq, Bool.false_beq, beqT, beqF, Int.natCast_add, Int.natCast_one, ltT, ltF, leT, leF, eqT, eqF, lenLtT, lenLtF, lenLeT, addLeT, lenEqT, mapGet, Int.toNat_natCast, Int.natCast_nonneg, List.length_map, go_sem, ↓reduceIte, reduceCtorEq, Nat.reduceEqDiff, Nat.reduceAdd, Nat.reduceBEq, Nat.reduceMul, Nat.reduceLeDiff, Nat.reduceSub, Nat.reduceLT, Nat.reduceDiv, Nat.reduceMod, List.reduceReplicate, Int.reduceEq, Int.reduceLT, Int.reduceLE, Int.reduceAdd, Int.reduceSub, Int.reduceMul, Int.reduceNeg, Int.reduceToNat, ain_ok, c1]
  cases c2 : inB s.live 1 s.slots
  · rw [callL_code g_arena_New (by simp)]; simp -implicitDefEqProofs (disch := omega) only [c_arena_New, r_arena_New, wr, Int.natCast_mul, Int.cast_ofNat_Int, Int.natCast_zero, List.length_append, lim_eq, wu64, wu32, wu8, Bool.true_beq, Bool.false_beq, beqT, beqF, Int.natCast_add, Int.natCast_one, ltT, ltF, leT, leF, eqT, eqF, lenLtT, lenLtF, lenLeT, addLeT, lenEqT, mapGet, Int.toNat_natCast, Int.natCast_nonneg, List.length_map, go_sem, ↓reduceIte, reduceCtorEq, Nat.reduceEqDiff, Nat.reduceAdd, Nat.reduceBEq, Nat.reduceMul, Nat.reduceLeDiff, Nat.reduceSub, Nat.reduceLT, Nat.reduceDiv, Nat.reduceMod, List.reduceReplicate, Int.reduceEq, Int.reduceLT, Int.reduceLE, Int.reduceAdd, Int.reduceSub, Int.reduceMul, Int.reduceNeg, Int.reduceToNat, ain_ok, c1, c2]
  cases c3 : inB s.capacity 1 12
  · rw [callL_code g_arena_New (by simp)]; simp -implicitDefEqProofs (disch := omega) only [c_arena_New, r_arena_New, wr, Int.natCast_mul, Int.cast_ofNat_Int, Int.natCast_zero, List.length_append, lim_eq, wu64, wu32, wu8, Bool.true_beq, Bool.false_beq, beqT, beqF, Int.natCast_add, Int.natCast_one, ltT, ltF, leT, leF, eqT, eqF, lenLtT, lenLtF, lenLeT, addLeT, lenEqT, mapGet, Int.toNat_natCast, Int.natCast_nonneg, List.length_map, go_sem, ↓reduceIte, reduceCtorEq, Nat.reduceEqDiff, Nat.reduceAdd, Nat.reduceBEq, Nat.reduceMul, Nat.reduceLeDiff, Nat.reduceSub, Nat.reduceLT, Nat.reduceDiv, Nat.reduceMod, List.reduceReplicate, Int.reduceEq, Int.reduceLT, Int.reduceLE, Int.reduceAdd, Int.reduceSub, Int.reduceMul, Int.reduceNeg, Int.reduceToNat, ain_ok, c1, c2, c3]
  cases c4 : inB s.dead 1 24
  · rw [callL_code g_arena_New (by simp)]; simp -implicitDefEqProofs (disch := omega) only [c_arena_New, r_arena_New, wr, Int.natCast_mul, Int.cast_ofNat_Int, Int.natCast_zero, List.length_append, lim_eq, wu64, wu32, wu8, Bool.true_beq, Bool.false_beq, beqT, beqF, Int.natCast_add, Int.natCast_one, ltT, ltF, leT, leF, eqT, eqF, lenLtT, lenLtF, lenLeT, addLeT, lenEqT, mapGet, Int.toNat_natCast, Int.natCast_nonneg, List.length_map, go_sem, ↓reduceIte, reduceCtorEq, Nat.reduceEqDiff, Nat.reduceAdd, Nat.reduceBEq, Nat.reduceMul, Nat.reduceLeDiff, Nat.reduceSub, Nat.reduceLT, Nat.reduceDiv, Nat.reduceMod, List.reduceReplicate, Int.reduceEq, Int.reduceLT, Int.reduceLE, Int.reduceAdd, Int.reduceSub, Int.reduceMul, Int.reduceNeg, Int.reduceToNat, ain_ok, c1, c2, c3, c4]
  cases c5 : inB s.limit 1 8
  · rw [callL_code g_arena_New (by simp)]; simp -implicitDefEqProofs (disch := omega) only [c_arena_New, r_arena_New, wr, Int.natCast_mul, Int.cast_ofNat_Int, Int.natCast_zero, List.length_append, lim_eq, wu64, wu32, wu8, Bool.true_beq, Bool.false_beq, beqT, beqF, Int.natCast_add, Int.natCast_one, ltT, ltF, leT, leF, eqT, eqF, lenLtT, lenLtF, lenLeT, addLeT, lenEqT, mapGet, Int.toNat_natCast, Int.natCast_nonneg, List.length_map, go_sem, ↓reduceIte, reduceCtorEq, Nat.reduceEqDiff, Nat.reduceAdd, Nat.reduceBEq, Nat.reduceMul, Nat.reduceLeDiff, Nat.reduceSub, Nat.reduceLT, Nat.reduceDiv, Nat.reduceMod, List.reduceReplicate, Int.reduceEq, Int.reduceLT, Int.reduceLE, Int.reduceAdd, Int.reduceSub, Int.reduceMul, Int.reduceNeg, Int.reduceToNat, ain_ok, c1, c2, c3, c4, c5]
  cases c6 : inB s.clock 0 1073741824
  · rw [callL_code g_arena_New (by simp)]; simp -implicitDefEqProofs (disch := omega) only [c_arena_New, r_arena_New, wr, Int.natCast_mul, Int.cast_ofNat_Int, Int.natCast_zero, List.length_append, lim_eq, wu64, wu32, wu8, Bool.true_beq, Bool.false_beq, beqT, beqF, Int.natCast_add, Int.natCast_one, ltT, ltF, leT, leF, eqT, eqF, lenLtT, lenLtF, lenLeT, addLeT, lenEqT, mapGet, Int.toNat_natCast, Int.natCast_nonneg, List.length_map, go_sem, ↓reduceIte, reduceCtorEq, Nat.reduceEqDiff, Nat.reduceAdd, Nat.reduceBEq, Nat.reduceMul, Nat.reduceLeDiff, Nat.reduceSub, Nat.reduceLT, Nat.reduceDiv, Nat.reduceMod, List.reduceReplicate, Int.reduceEq, Int.reduceLT, Int.reduceLE, Int.reduceAdd, Int.reduceSub, Int.reduceMul, Int.reduceNeg, Int.reduceToNat, ain_ok, c1, c2, c3, c4, c5, c6]
  cases c7 : inB s.nextID 1 1073741824
  · rw [callL_code g_arena_New (by simp)]; simp -implicitDefEqProofs (disch := omega) only [c_arena_New, r_arena_New, wr, Int.natCast_mul, Int.cast_ofNat_Int, Int.natCast_zero, List.length_append, lim_eq, wu64, wu32, wu8, Bool.true_beq, Bool.false_beq, beqT, beqF, Int.natCast_add, Int.natCast_one, ltT, ltF, leT, leF, eqT, eqF, lenLtT, lenLtF, lenLeT, addLeT, lenEqT, mapGet, Int.toNat_natCast, Int.natCast_nonneg, List.length_map, go_sem, ↓reduceIte, reduceCtorEq, Nat.reduceEqDiff, Nat.reduceAdd, Nat.reduceBEq, Nat.reduceMul, Nat.reduceLeDiff, Nat.reduceSub, Nat.reduceLT, Nat.reduceDiv, Nat.reduceMod, List.reduceReplicate, Int.reduceEq, Int.reduceLT, Int.reduceLE, Int.reduceAdd, Int.reduceSub, Int.reduceMul, Int.reduceNeg, Int.reduceToNat, ain_ok, c1, c2, c3, c4, c5, c6, c7]
  cases c8 : inB s.epoch 0 65536
  · rw [callL_code g_arena_New (by simp)]; simp -implicitDefEqProofs (disch := omega) only [c_arena_New, r_arena_New, wr, Int.natCast_mul, Int.cast_ofNat_Int, Int.natCast_zero, List.length_append, lim_eq, wu64, wu32, wu8, Bool.true_beq, Bool.false_beq, beqT, beqF, Int.natCast_add, Int.natCast_one, ltT, ltF, leT, leF, eqT, eqF, lenLtT, lenLtF, lenLeT, addLeT, lenEqT, mapGet, Int.toNat_natCast, Int.natCast_nonneg, List.length_map, go_sem, ↓reduceIte, reduceCtorEq, Nat.reduceEqDiff, Nat.reduceAdd, Nat.reduceBEq, Nat.reduceMul, Nat.reduceLeDiff, Nat.reduceSub, Nat.reduceLT, Nat.reduceDiv, Nat.reduceMod, List.reduceReplicate, Int.reduceEq, Int.reduceLT, Int.reduceLE, Int.reduceAdd, Int.reduceSub, Int.reduceMul, Int.reduceNeg, Int.reduceToNat, ain_ok, c1, c2, c3, c4, c5, c6, c7, c8]
  rw [c1, c2, c3, c4, c5, c6, c7, c8] at h
  cases h
end Go.Proofs.Ytlphhhmicdjljaa
