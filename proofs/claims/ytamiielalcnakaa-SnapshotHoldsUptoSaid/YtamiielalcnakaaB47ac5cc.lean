/-
  Rings, shards, stores and arenas: the first ones.
  Arenas: New.
  Snapshots: Step, and the law of their steps.
  sync/atomic; the words of an arena: compare and swap, the clock.
  The reader of numbers.
-/
import Derived.Test.YtamiielalcnakaaB7ec6592
set_option linter.unusedSimpArgs false
set_option linter.unusedVariables false
namespace Go.Proofs.Ytamiielalcnakaa
open Go Go.Sim
set_option linter.unusedSimpArgs false
set_option linter.unusedVariables false
set_option maxHeartbeats 10000000
set_option maxRecDepth 40000
def ringN (cap : Int) : Ring := ⟨List.replicate cap.toNat zMessage, 0, 0⟩
def ringNew (cap : Int) : Ring × Int := if cap < 1 ∨ 12 < cap then (zRing, 1) else (ringN cap, 0)
theorem ringNew_ok (cap : Int) : callL G N_ring_New [.d (.int .i64 cap)] [] = some (.d (.tup [eRing (ringNew cap).1, .int .i64 (ringNew cap).2]), []) := by
  unfold ringNew
  by_cases c1 : cap < 1
  · rw [if_pos (Or.inl c1)]
    simp only [eRing, zRing]
    rw [callL_code g_ring_New (by simp)]; simp -implicitDefEqProofs (maxSteps := 4000000) (disch := omega) only [c_ring_New, r_ring_New, go_sem, Nat.zero_add]
  by_cases c2 : 12 < cap
  · rw [if_pos (Or.inr c2)]
    simp only [eRing, zRing]
    rw [callL_code g_ring_New (by simp)]; simp -implicitDefEqProofs (maxSteps := 4000000) (disch := omega) only [c_ring_New, r_ring_New, go_sem, Nat.zero_add]
  rw [if_neg (by omega)]
  obtain ⟨n, hn⟩ : ∃ n, n = cap.toNat := ⟨_, rfl⟩
  have hz : ∀ n, List.replicate n (AV.d (.agg [.int .i64 0, .int .i64 0, .int .i64 0, .int .i64 0, .int .i64 0, .int .i64 0, .str []])) = ((List.replicate n zMessage).map eMessage).map .d := by
    intro n
    rw [List.map_replicate, List.map_replicate]; rfl
  have hl : ∀ n, List.take n (((List.replicate n zMessage).map eMessage).map AV.d) = ((List.replicate n zMessage).map eMessage).map AV.d := fun n => List.take_of_length_le (by simp)
  simp only [eRing, ringN]
  rw [← hn, show cap = (n : Int) by omega]
  rw [callL_code g_ring_New (by simp)]; simp -implicitDefEqProofs (maxSteps := 4000000) (disch := omega) only [c_ring_New, r_ring_New, go_sem, hz, hl, List.length_replicate]
def shardFree (cap : Int) : Shard × Int := if cap < 1 ∨ 12 < cap then (zShard, 1) else (⟨false, 0, 0, ringN cap, ⟨[], []⟩⟩, 0)
theorem shardFree_ok (cap : Int) : callL G N_shard_Free [.d (.int .i64 cap)] [] = some (.d (.tup [eShard (shardFree cap).1, .int .i64 (shardFree cap).2]), []) := by
  have hr := ringNew_ok cap
  unfold ringNew at hr
  unfold shardFree
  by_cases c1 : cap < 1 ∨ 12 < cap
  · rw [if_pos c1] at hr ⊢
    simp only [eRing, zRing, eShard, zShard] at hr ⊢
    simp only [Int.natCast_add, Int.natCast_one, Int.natCast_zero, Int.natCast_mul, Int.cast_ofNat_Int, List.length_append, List.length_map, List.map_nil, List.length_nil, List.map_append, List.map_cons, List.length_cons, Nat.zero_add, srcO, mapSet] at hr
    rw [callL_code g_shard_Free (by simp)]; simp -implicitDefEqProofs (maxSteps := 4000000) (disch := omega) only [c_shard_Free, r_shard_Free, go_sem, hr]
  · rw [if_neg c1] at hr ⊢
    simp only [eRing, eShard] at hr ⊢
    rw [callL_code g_shard_Free (by simp)]; simp -implicitDefEqProofs (maxSteps := 4000000) (disch := omega) only [c_shard_Free, r_shard_Free, go_sem, hr]
def spansB (lo hi : Int) : Bool := decide (0 ≤ lo) && (decide (lo ≤ hi) && decide (hi < 65536))
theorem spans_ok (lo hi : Int) : callL G N_shard_spans [.d (.int .i64 lo), .d (.int .i64 hi)] [] = some (.d (.bool (spansB lo hi)), []) := by
  unfold spansB
  rw [callL_code g_shard_spans (by simp)]; simp -implicitDefEqProofs (maxSteps := 4000000) (disch := omega) only [c_shard_spans, r_shard_spans, go_sem, Nat.zero_add]
def shardNew (cap lo hi : Int) : Shard × Int := if cap < 1 ∨ 12 < cap then (zShard, 1) else if spansB lo hi = false then (zShard, 1) else (⟨true, lo, hi, ringN cap, ⟨[], []⟩⟩, 0)
theorem shardNew_ok (cap lo hi : Int) : callL G N_shard_New [.d (.int .i64 cap), .d (.int .i64 lo), .d (.int .i64 hi)] [] = some (.d (.tup [eShard (shardNew cap lo hi).1, .int .i64 (shardNew cap lo hi).2]), []) := by
  have hr := ringNew_ok cap
  have hs := spans_ok lo hi
  unfold ringNew at hr
  unfold shardNew
  by_cases c1 : cap < 1 ∨ 12 < cap
  · rw [if_pos c1] at hr ⊢
    simp only [eRing, zRing, eShard, zShard] at hr ⊢
    simp only [Int.natCast_add, Int.natCast_one, Int.natCast_zero, Int.natCast_mul, Int.cast_ofNat_Int, List.length_append, List.length_map, List.map_nil, List.length_nil, List.map_append, List.map_cons, List.length_cons, Nat.zero_add, srcO, mapSet] at hr
    rw [callL_code g_shard_New (by simp)]; simp -implicitDefEqProofs (maxSteps := 4000000) (disch := omega) only [c_shard_New, r_shard_New, go_sem, hr]
  · rw [if_neg c1] at hr ⊢
    simp only [eRing, eShard] at hr ⊢
    cases c2 : spansB lo hi
    · rw [c2] at hs
      simp only [if_true, zShard]
      rw [callL_code g_shard_New (by simp)]; simp -implicitDefEqProofs (maxSteps := 4000000) (disch := omega) only [c_shard_New, r_shard_New, go_sem, hr, hs]
    · rw [c2] at hs
      simp only [Bool.true_eq_false, if_false]
      rw [callL_code g_shard_New (by simp)]; simp -implicitDefEqProofs (maxSteps := 4000000) (disch := omega) only [c_shard_New, r_shard_New, go_sem, hr, hs]
def deadNew (cap : Int) : Dead × Int := if cap < 1 ∨ 24 < cap then (zDead, 1) else (⟨cap, []⟩, 0)
theorem deadNew_ok (cap : Int) : callL G N_dead_New [.d (.int .i64 cap)] [] = some (.d (.tup [eDead (deadNew cap).1, .int .i64 (deadNew cap).2]), []) := by
  unfold deadNew
  by_cases c1 : cap < 1
  · rw [if_pos (Or.inl c1)]
    simp only [eDead, zDead]
    rw [callL_code g_dead_New (by simp)]; simp -implicitDefEqProofs (maxSteps := 4000000) (disch := omega) only [c_dead_New, r_dead_New, go_sem, Nat.zero_add]
  by_cases c2 : 24 < cap
  · rw [if_pos (Or.inr c2)]
    simp only [eDead, zDead]
    rw [callL_code g_dead_New (by simp)]; simp -implicitDefEqProofs (maxSteps := 4000000) (disch := omega) only [c_dead_New, r_dead_New, go_sem, Nat.zero_add]
  rw [if_neg (by omega)]
  simp only [eDead]
  rw [callL_code g_dead_New (by simp)]; simp -implicitDefEqProofs (maxSteps := 4000000) (disch := omega) only [c_dead_New, r_dead_New, go_sem, Nat.zero_add]
def inB (n lo hi : Int) : Bool := decide (lo ≤ n) && decide (n ≤ hi)
theorem ain_ok (n lo hi : Int) : callL G N_arena_in [.d (.int .i64 n), .d (.int .i64 lo), .d (.int .i64 hi)] [] = some (.d (.bool (inB n lo hi)), []) := by
  unfold inB
  rw [callL_code g_arena_in (by simp)]; simp -implicitDefEqProofs (maxSteps := 4000000) (disch := omega) only [c_arena_in, r_arena_in, go_sem, Nat.zero_add]
/-! ### Arenas -/
def okSetup (s : Setup) : Bool := inB s.slots 1 6 && (inB s.live 1 s.slots && (inB s.capacity 1 12 && (inB s.dead 1 24 && (inB s.limit 1 8 && (inB s.clock 0 1073741824 && (inB s.nextID 1 1073741824 && inB s.epoch 0 65536))))))
def slotI (s : Setup) (i : Nat) : Slot := ⟨0, if i < s.live.toNat then ⟨true, (spanI s.live i).low, (spanI s.live i).high, ringN s.capacity, ⟨[], []⟩⟩ else ⟨false, 0, 0, ringN s.capacity, ⟨[], []⟩⟩⟩
def slotsN (s : Setup) (k : Nat) : List Slot := (List.range k).map (slotI s)
def stripesN (s : Setup) (k : Nat) : List Stripe := List.replicate k ⟨0, s.epoch, 0, 0⟩
def arenaN (s : Setup) : Arena := ⟨slotsN s s.slots.toNat, stripesN s s.slots.toNat, ⟨0, ⟨s.dead, []⟩⟩, dirN s.slots.toNat s.live.toNat, s.epoch, s.clock, s.nextID⟩
def arenaNew (s : Setup) : Arena × Int := if okSetup s = true then (arenaN s, 0) else (zArena, 1)
theorem arenaNew_bad (s : Setup) (h : okSetup s = false) : callL G N_arena_New [.d (eSetup s)] [] = some (.d (.tup [eArena (arenaNew s).1, .int .i64 (arenaNew s).2]), []) := by
  unfold arenaNew
  rw [if_neg (by simp [h])]
  unfold okSetup at h
  simp only [eSetup, eArena, zArena]
  cases c1 : inB s.slots 1 6
  · rw [callL_code g_arena_New (by simp)]; simp -implicitDefEqProofs (maxSteps := 4000000) (disch := omega) only [c_arena_New, r_arena_New, go_sem, ain_ok, c1]
  cases c2 : inB s.live 1 s.slots
  · rw [callL_code g_arena_New (by simp)]; simp -implicitDefEqProofs (maxSteps := 4000000) (disch := omega) only [c_arena_New, r_arena_New, go_sem, ain_ok, c1, c2]
  cases c3 : inB s.capacity 1 12
  · rw [callL_code g_arena_New (by simp)]; simp -implicitDefEqProofs (maxSteps := 4000000) (disch := omega) only [c_arena_New, r_arena_New, go_sem, ain_ok, c1, c2, c3]
  cases c4 : inB s.dead 1 24
  · rw [callL_code g_arena_New (by simp)]; simp -implicitDefEqProofs (maxSteps := 4000000) (disch := omega) only [c_arena_New, r_arena_New, go_sem, ain_ok, c1, c2, c3, c4]
  cases c5 : inB s.limit 1 8
  · rw [callL_code g_arena_New (by simp)]; simp -implicitDefEqProofs (maxSteps := 4000000) (disch := omega) only [c_arena_New, r_arena_New, go_sem, ain_ok, c1, c2, c3, c4, c5]
  cases c6 : inB s.clock 0 1073741824
  · rw [callL_code g_arena_New (by simp)]; simp -implicitDefEqProofs (maxSteps := 4000000) (disch := omega) only [c_arena_New, r_arena_New, go_sem, ain_ok, c1, c2, c3, c4, c5, c6]
  cases c7 : inB s.nextID 1 1073741824
  · rw [callL_code g_arena_New (by simp)]; simp -implicitDefEqProofs (maxSteps := 4000000) (disch := omega) only [c_arena_New, r_arena_New, go_sem, ain_ok, c1, c2, c3, c4, c5, c6, c7]
  cases c8 : inB s.epoch 0 65536
  · rw [callL_code g_arena_New (by simp)]; simp -implicitDefEqProofs (maxSteps := 4000000) (disch := omega) only [c_arena_New, r_arena_New, go_sem, ain_ok, c1, c2, c3, c4, c5, c6, c7, c8]
  rw [c1, c2, c3, c4, c5, c6, c7, c8] at h
  cases h
end Go.Proofs.Ytamiielalcnakaa

namespace Go.Proofs.Ytamiielalcnakaa
open Go Go.Sim
set_option linter.unusedSimpArgs false
set_option linter.unusedVariables false
set_option maxHeartbeats 10000000
set_option maxRecDepth 40000
structure SetupOk (s : Setup) (n l : Nat) : Prop where
  ns : s.slots = n
  nl : s.live = l
  h1 : 1 ≤ l
  h2 : l ≤ n
  h3 : n ≤ 6
  c1 : 1 ≤ s.capacity
  c2 : s.capacity ≤ 12
  d1 : 1 ≤ s.dead
  d2 : s.dead ≤ 24
theorem setupOk_of {s : Setup} (h : okSetup s = true) : ∃ n l, SetupOk s n l ∧ inB s.limit 1 8 = true ∧ inB s.clock 0 1073741824 = true ∧ inB s.nextID 1 1073741824 = true ∧ inB s.epoch 0 65536 = true := by
  unfold okSetup at h
  simp only [Bool.and_eq_true] at h
  obtain ⟨h1, h2, h3, h4, h5, h6, h7, h8⟩ := h
  simp only [inB, Bool.and_eq_true, decide_eq_true_eq] at h1 h2 h3 h4
  exact ⟨s.slots.toNat, s.live.toNat, ⟨by omega, by omega, by omega, by omega, by omega, h3.1, h3.2, h4.1, h4.2⟩, h5, h6, h7, h8⟩
theorem spanI_in {l i : Nat} (h1 : 1 ≤ l) (h2 : i < l) (h3 : l ≤ 6) : spansB (spanI l i).low (spanI l i).high = true := by
  have key : ∀ l : Nat, l < 7 → ∀ i : Nat, i < 7 → 1 ≤ l → i < l → spansB (spanI l i).low (spanI l i).high = true := by decide
  exact key l (by omega) i (by omega) h1 h2
theorem slotsN_succ (s : Setup) (k : Nat) : slotsN s (k + 1) = slotsN s k ++ [slotI s k] := by simp [slotsN, List.range_succ]
theorem slotsN_len (s : Setup) (k : Nat) : (slotsN s k).length = k := by simp [slotsN]
theorem stripesN_succ (s : Setup) (k : Nat) : stripesN s (k + 1) = stripesN s k ++ [⟨0, s.epoch, 0, 0⟩] := by simp [stripesN, List.replicate_succ']
theorem stripesN_len (s : Setup) (k : Nat) : (stripesN s k).length = k := by simp [stripesN]
def ar2 : Nat × Go.Sim.Obj := (2, .row [.agg [.xsl [], .xsl [], .d (.int .i64 0), .d (.int .i64 0), .xsl [], .d (.int .i64 0), .xsl [], .xsl [], .d (.int .i64 0), .d (.int .i64 0), .d (.int .i64 0)]])
def arO (s : Setup) (d : Directory) (a b : Go.Sim.AV) : Nat × Go.Sim.Obj := (4, .row [.agg [a, b, .d (.int .i64 0), .d (.int .i64 s.dead), .d (.sl []), .d (.int .i64 d.version), .d (.sl (d.l.map eSpan)), .d (.sl (ints d.forward)), .d (.int .i64 s.epoch), .d (.int .i64 s.clock), .d (.int .i64 s.nextID)]])
def arS (s : Setup) (n k : Nat) (d : Directory) (a b : Go.Sim.AV) (hp : Heap) : St :=
  ⟨[(1, .ref 1 0 0), (2, .ref 2 0 0), (4, .ref 4 0 0), (84, .d (.int .i64 n)), (85, .d (.int .i64 k))], (1, .row [.d (eSetup s)]) :: ar2 :: arO s d a b :: hp⟩
theorem arena_loop (s : Setup) (n l : Nat) (ok : SetupOk s n l) (d : Directory) (hd : d = dirN n l) : ∀ k, 1 ≤ k ∧ k ≤ n → loopL G [] l_arena_New_0 (arS s n k d (.acc 117 ((slotsN s k).map eSlot)) (.acc 125 ((stripesN s k).map eStripe)) [(117, .acc k), (125, .acc k)]) = some (.exit 0, ⟨[(2, .ref 2 0 0), (4, .ref 4 0 0)], [ar2, arO s d (.acc 117 ((slotsN s n).map eSlot)) (.acc 125 ((stripesN s n).map eStripe)), (117, .acc n), (125, .acc n)]⟩) := by
  obtain ⟨o1, o2, o3, o4, o5, o6, o7, _, _⟩ := ok
  refine loop_ind (fun k => n - k) _ _ _ fun k ⟨hk1, hk2⟩ L ih => ?_
  simp only [l_arena_New_0, arS, arO, ar2, eSetup] at ih ⊢
  by_cases hk : k < n
  · have hv := dirN_valid n l o3 o4 o5
    have hfree := shardFree_ok s.capacity
    have hsp := dSpan_ok d k (by rw [hd]; simp [dirN, spansN]; omega) (by rw [hd]; simp [dirN]; omega)
    have hfs := hv.2 k hk
    rw [← hd] at hv hfs
    unfold spanD at hsp
    rw [hfs] at hsp
    have hc : ¬ (s.capacity < 1 ∨ 12 < s.capacity) := by omega
    unfold shardFree at hfree
    rw [if_neg hc] at hfree
    simp only [eShard, List.map_nil] at hfree
    have := ih (k + 1) ⟨by omega, by omega⟩ (by omega)
    rw [slotsN_succ, stripesN_succ] at this
    obtain ⟨es, hes⟩ : ∃ es, es = slotsN s k := ⟨_, rfl⟩
    obtain ⟨fs, hfs2⟩ : ∃ fs, fs = stripesN s k := ⟨_, rfl⟩
    have hel : es.length = k := by rw [hes, slotsN_len]
    have hfl : fs.length = k := by rw [hfs2, stripesN_len]
    rw [← hes, ← hfs2] at this ⊢
    by_cases h0 : k < l
    · have hnew := shardNew_ok s.capacity (spanI l k).low (spanI l k).high
      unfold shardNew at hnew
      rw [if_neg hc, if_neg (by rw [spanI_in o3 h0 (by omega)]; decide)] at hnew
      have e1 : (d.l.getD k zSpan) = spanI l k := by rw [hd]; simp [dirN, spansN, h0]
      rw [if_pos h0, if_pos ⟨hv.1, by omega⟩, show ((k : Int).toNat) = k by omega, e1] at hsp
      have e2 : slotI s k = ⟨0, ⟨true, (spanI l k).low, (spanI l k).high, ringN s.capacity, ⟨[], []⟩⟩⟩ := by
        unfold slotI; rw [if_pos (by omega), o2]
      rw [e2] at this
      simp only [eDirectory, eSpan] at hsp
      simp only [eShard, List.map_nil] at hnew
      simp only [eSlot, eStripe, List.map_append, List.map_cons, List.map_nil] at this
      simp only [Int.natCast_add, Int.natCast_one, Int.natCast_zero, Int.natCast_mul, Int.cast_ofNat_Int, List.length_append, List.length_map, List.map_nil, List.length_nil, List.map_append, List.map_cons, List.length_cons, Nat.zero_add, srcO, mapSet] at this
      simp -implicitDefEqProofs (maxSteps := 4000000) (disch := omega) only [go_sem, hfree, hsp, hnew, hel, hfl, allSize_Slot, allSize_Stripe, this]
    · rw [if_neg h0, if_neg (by omega)] at hsp
      have e2 : slotI s k = ⟨0, ⟨false, 0, 0, ringN s.capacity, ⟨[], []⟩⟩⟩ := by
        unfold slotI; rw [if_neg (by omega)]
      rw [e2] at this
      simp only [eDirectory, eSpan, zSpan] at hsp
      simp only [eSlot, eStripe, List.map_append, List.map_cons, List.map_nil] at this
      simp only [Int.natCast_add, Int.natCast_one, Int.natCast_zero, Int.natCast_mul, Int.cast_ofNat_Int, List.length_append, List.length_map, List.map_nil, List.length_nil, List.map_append, List.map_cons, List.length_cons, Nat.zero_add, srcO, mapSet] at this
      simp -implicitDefEqProofs (maxSteps := 4000000) (disch := omega) only [go_sem, hfree, hsp, hel, hfl, allSize_Slot, allSize_Stripe, this]
  · have : k = n := by omega
    subst this
    simp -implicitDefEqProofs (maxSteps := 4000000) (disch := omega) only [go_sem, Nat.zero_add]
theorem arena_first (s : Setup) (n l : Nat) (ok : SetupOk s n l) (d : Directory) (hd : d = dirN n l) : loopL G [] l_arena_New_0 (arS s n 0 d (.xsl []) (.xsl []) []) = some (.exit 0, ⟨[(2, .ref 2 0 0), (4, .ref 4 0 0)], [ar2, arO s d (.acc 117 ((slotsN s n).map eSlot)) (.acc 125 ((stripesN s n).map eStripe)), (117, .acc n), (125, .acc n)]⟩) := by
  have h := arena_loop s n l ok d hd 1 ⟨by omega, by have := ok.h1; have := ok.h2; omega⟩
  obtain ⟨o1, o2, o3, o4, o5, o6, o7, _, _⟩ := ok
  have hv := dirN_valid n l o3 o4 o5
  have hfree := shardFree_ok s.capacity
  have hsp := dSpan_ok d 0 (by rw [hd]; simp [dirN, spansN]; omega) (by rw [hd]; simp [dirN]; omega)
  have hfs := hv.2 0 (by omega)
  rw [← hd] at hv hfs
  simp only [Int.natCast_zero] at hfs
  rw [if_pos (by omega)] at hfs
  unfold spanD at hsp
  rw [hfs] at hsp
  have hc : ¬ (s.capacity < 1 ∨ 12 < s.capacity) := by omega
  unfold shardFree at hfree
  rw [if_neg hc] at hfree
  simp only [eShard, List.map_nil] at hfree
  have hnew := shardNew_ok s.capacity (spanI l 0).low (spanI l 0).high
  unfold shardNew at hnew
  rw [if_neg hc, if_neg (by rw [spanI_in o3 (by omega) (by omega)]; decide)] at hnew
  have e1 : (d.l.getD 0 zSpan) = spanI l 0 := by rw [hd]; simp [dirN, spansN, show 0 < l by omega]
  rw [if_pos ⟨hv.1, by omega⟩, show ((0 : Int).toNat) = 0 by rfl, e1] at hsp
  have e2 : slotI s 0 = ⟨0, ⟨true, (spanI l 0).low, (spanI l 0).high, ringN s.capacity, ⟨[], []⟩⟩⟩ := by
    unfold slotI; rw [if_pos (by omega), o2]
  have e3 : slotsN s 1 = [slotI s 0] := rfl
  have e4 : stripesN s 1 = [⟨0, s.epoch, 0, 0⟩] := rfl
  rw [e3, e4, e2] at h
  simp only [eDirectory, eSpan] at hsp
  simp only [eShard, List.map_nil] at hnew
  simp only [eSlot, eStripe, List.map_append, List.map_cons, List.map_nil, arS, ar2, arO, eSetup] at h
  simp only [Int.natCast_add, Int.natCast_one, Int.natCast_zero, Int.natCast_mul, Int.cast_ofNat_Int, List.length_append, List.length_map, List.map_nil, List.length_nil, List.map_append, List.map_cons, List.length_cons, Nat.zero_add, srcO, mapSet] at h
  rw [loopL_eq]
  generalize hF : loopL G [] l_arena_New_0 = F at h ⊢
  simp only [l_arena_New_0, arS, ar2, arO, eSetup]
  simp -implicitDefEqProofs (maxSteps := 4000000) (disch := omega) only [go_sem, hfree, hsp, hnew, h]
theorem arenaNew_ok (s : Setup) : callL G N_arena_New [.d (eSetup s)] [] = some (.d (.tup [eArena (arenaNew s).1, .int .i64 (arenaNew s).2]), []) := by
  by_cases h : okSetup s = true
  · obtain ⟨n, l, ok, i5, i6, i7, i8⟩ := setupOk_of h
    have hl := arena_first s n l ok (dirN n l) rfl
    have hh := h
    unfold okSetup at hh
    simp only [Bool.and_eq_true] at hh
    obtain ⟨i1, i2, i3, i4, _⟩ := hh
    unfold arenaNew
    rw [if_pos h]
    obtain ⟨o1, o2, o3, o4, o5, o6, o7, o8, o9⟩ := ok
    have hn := dnew_ok s.slots s.live
    rw [o1, o2, newD_ok o3 o4 o5] at hn
    have hd := deadNew_ok s.dead
    unfold deadNew at hd
    rw [if_neg (by omega)] at hd
    have e1 : s.slots.toNat = n := by omega
    have e2 : s.live.toNat = l := by omega
    simp only [eArena, arenaN, e1, e2]
    rw [o1] at i1
    rw [o1, o2] at i2
    simp only [arS, ar2, arO, eSetup, o1, o2] at hl
    simp only [eDirectory, eDead, List.map_nil] at hn hd
    simp only [Int.natCast_add, Int.natCast_one, Int.natCast_zero, Int.natCast_mul, Int.cast_ofNat_Int, List.length_append, List.length_map, List.map_nil, List.length_nil, List.map_append, List.map_cons, List.length_cons, Nat.zero_add, srcO, mapSet] at hl
    simp only [eSetup, o1, o2]
    rw [callL_code g_arena_New (by simp)]; simp -implicitDefEqProofs (maxSteps := 4000000) (disch := omega) only [c_arena_New, r_arena_New, go_sem, ain_ok, i1, i2, i3, i4, i5, i6, i7, i8, hn, hd, hl]
  · exact arenaNew_bad s (by simpa using h)
end Go.Proofs.Ytamiielalcnakaa

namespace Go.Proofs.Ytamiielalcnakaa
open Go Go.Sim
set_option linter.unusedSimpArgs false
set_option linter.unusedVariables false
set_option maxHeartbeats 10000000
set_option maxRecDepth 40000
def loadW (a : Arena) (w : Int) : Int × Int := if w = 1 then (a.epoch, 0) else if w = 2 then (a.clock, 0) else if w = 3 then (a.nextID, 0) else (0, 9)
theorem aload_ok (a : Arena) (w : Int) : callL G N_arena_Load [.d (eArena a), .d (.int .i64 w)] [] = some (.d (.tup [.int .i64 (loadW a w).1, .int .i64 (loadW a w).2]), []) := by
  unfold loadW
  simp only [eArena]
  by_cases c1 : w = 1
  · subst c1; simp only [if_true]
    rw [callL_code g_arena_Load (by simp)]; simp -implicitDefEqProofs (maxSteps := 4000000) (disch := omega) only [c_arena_Load, r_arena_Load, go_sem, Nat.zero_add]
  by_cases c2 : w = 2
  · subst c2; simp only [Int.reduceEq, if_true, if_false]
    rw [callL_code g_arena_Load (by simp)]; simp -implicitDefEqProofs (maxSteps := 4000000) (disch := omega) only [c_arena_Load, r_arena_Load, go_sem, Nat.zero_add]
  by_cases c3 : w = 3
  · subst c3; simp only [Int.reduceEq, if_true, if_false]
    rw [callL_code g_arena_Load (by simp)]; simp -implicitDefEqProofs (maxSteps := 4000000) (disch := omega) only [c_arena_Load, r_arena_Load, go_sem, Nat.zero_add]
  rw [if_neg c1, if_neg c2, if_neg c3]
  rw [callL_code g_arena_Load (by simp)]; simp -implicitDefEqProofs (maxSteps := 4000000) (disch := omega) only [c_arena_Load, r_arena_Load, go_sem, c1, c2, c3]
def snapStep (a : Arena) (s : Snapshot) (n : Int) : Snapshot × Int :=
  if s.phase = 0 then (⟨1, a.epoch, s.clock, s.stamp⟩, 0)
  else if s.phase = 1 then (⟨2, s.epoch, a.clock, n⟩, 0)
  else if s.phase = 2 then (if a.epoch = s.epoch then (⟨3, s.epoch, s.clock, s.stamp⟩, 0) else (⟨1, a.epoch, s.clock, s.stamp⟩, 0))
  else if s.phase = 3 then (zSnapshot, 7) else (zSnapshot, 1)
theorem snapStep_ok (a : Arena) (s : Snapshot) (n : Int) : callL G N_snapshot_Step [.d (eArena a), .d (eSnapshot s), .d (.int .i64 n)] [] = some (.d (.tup [eSnapshot (snapStep a s n).1, .int .i64 (snapStep a s n).2]), []) := by
  have h1 := aload_ok a 1
  have h2 := aload_ok a 2
  simp only [loadW, Int.reduceEq, if_true, if_false] at h1 h2
  obtain ⟨ph, ep, ck, sp⟩ := s
  unfold snapStep
  simp only [eArena, eSnapshot] at h1 h2 ⊢
  by_cases c0 : ph = 0
  · subst c0; simp only [if_true]
    rw [callL_code g_snapshot_Step (by simp)]; simp -implicitDefEqProofs (maxSteps := 4000000) (disch := omega) only [c_snapshot_Step, r_snapshot_Step, go_sem, h1]
  by_cases c1 : ph = 1
  · subst c1; simp only [Int.reduceEq, if_true, if_false]
    rw [callL_code g_snapshot_Step (by simp)]; simp -implicitDefEqProofs (maxSteps := 4000000) (disch := omega) only [c_snapshot_Step, r_snapshot_Step, go_sem, h2]
  by_cases c2 : ph = 2
  · subst c2; simp only [Int.reduceEq, if_true, if_false]
    by_cases c4 : a.epoch = ep
    · rw [if_pos c4]
      subst c4
      rw [callL_code g_snapshot_Step (by simp)]; simp -implicitDefEqProofs (maxSteps := 4000000) (disch := omega) only [c_snapshot_Step, r_snapshot_Step, go_sem, h1]
    · rw [if_neg c4]
      rw [callL_code g_snapshot_Step (by simp)]; simp -implicitDefEqProofs (maxSteps := 4000000) (disch := omega) only [c_snapshot_Step, r_snapshot_Step, go_sem, h1, c4]
  by_cases c3 : ph = 3
  · subst c3; simp only [Int.reduceEq, if_true, if_false, zSnapshot]
    rw [callL_code g_snapshot_Step (by simp)]; simp -implicitDefEqProofs (maxSteps := 4000000) (disch := omega) only [c_snapshot_Step, r_snapshot_Step, go_sem, h1]
  rw [if_neg c0, if_neg c1, if_neg c2, if_neg c3]
  simp only [zSnapshot]
  rw [callL_code g_snapshot_Step (by simp)]; simp -implicitDefEqProofs (maxSteps := 4000000) (disch := omega) only [c_snapshot_Step, r_snapshot_Step, go_sem, c0, c1, c2, c3]
theorem snapNew_ok : callL G N_snapshot_New [] [] = some (.d (eSnapshot zSnapshot), []) := by
  simp only [eSnapshot, zSnapshot]
  rw [callL_code g_snapshot_New (by simp)]; simp -implicitDefEqProofs (maxSteps := 4000000) (disch := omega) only [c_snapshot_New, r_snapshot_New, go_sem, Nat.zero_add]
def setup1 : Setup := ⟨1, 1, 1, 1, 1, 0, 1, 0⟩
def setup2 : Setup := ⟨1, 1, 1, 1, 1, 9, 1, 2⟩
theorem awake14_ok : callL G N_law14_awake [] [] = some (.d (.bool true), []) := by
  have ha := arenaNew_ok setup2
  have e : arenaNew setup2 = (arenaN setup2, 0) := by decide
  rw [e] at ha
  obtain ⟨a, hA⟩ : ∃ a, a = arenaN setup2 := ⟨_, rfl⟩
  have he : a.epoch = 2 := by rw [hA]; rfl
  have hc : a.clock = 9 := by rw [hA]; rfl
  rw [← hA] at ha
  have s1 := snapStep_ok a zSnapshot 1
  have s2 := snapStep_ok a ⟨1, 2, 0, 0⟩ 2
  have s3 := snapStep_ok a ⟨2, 2, 9, 2⟩ 3
  have hn := snapNew_ok
  simp only [snapStep, zSnapshot, he, hc, Int.reduceEq, if_true, if_false, eSnapshot, eArena] at s1 s2 s3 hn
  simp only [eSetup, setup2, eArena, he, hc] at ha
  rw [callL_code g_law14_awake (by simp)]; simp -implicitDefEqProofs (maxSteps := 4000000) (disch := omega) only [c_law14_awake, r_law14_awake, go_sem, ha, hn, s1, s2, s3]
theorem arena1 : ∃ a, a = arenaN setup1 ∧ arenaNew setup1 = (a, 0) ∧ a.epoch = 0 ∧ a.clock = 0 := ⟨_, rfl, by decide, rfl, rfl⟩
def setE (a : Arena) (e : Int) : Arena := { a with epoch := e }
def ssS (a : Arena) (p : Nat) (t : Nat) (e : Int) (x : Snapshot) : St := ⟨[(3, .ref 3 0 0), (5, .d (.int .i64 p)), (6, .ref 6 0 0), (7, .d (.int .i64 t))], [(3, .row [.d (eArena (setE a e))]), (6, .row [.d (eSnapshot x)])]⟩
structure SI where
  t : Nat
  e : Int
  x : Snapshot
def sInv (p : Nat) (s : SI) : Prop :=
  (s.t = 0 ∧ s.x.phase = 0 ∧ s.e = 0) ∨ (∃ j : Nat, j ≤ p ∧ s.t = 2 * j + 1 ∧ s.x.phase = 1 ∧ s.x.epoch = j ∧ s.e = if j < p then (j : Int) + 1 else p) ∨
  (∃ j : Nat, j ≤ p ∧ s.t = 2 * j + 2 ∧ s.x.phase = 2 ∧ s.x.epoch = j ∧ s.e = if j < p then (j : Int) + 1 else p) ∨ (s.t = 2 * p + 3 ∧ s.x.phase = 3)
end Go.Proofs.Ytamiielalcnakaa

namespace Go.Proofs.Ytamiielalcnakaa
open Go Go.Sim
set_option linter.unusedSimpArgs false
set_option linter.unusedVariables false
set_option maxHeartbeats 10000000
set_option maxRecDepth 40000
theorem atStore_ok (x y : Int) : callL G N_sync_atomic_Int64_Store [.ref 1000000 0 0, .d (.int .i64 y)] [(1000000, .row [.d (.agg [.int .i64 x])])] = some (.d (.tup []), [(1000000, .row [.d (.int .i64 y)])]) := by
  rw [callL_code g_sync_atomic_Int64_Store (by simp)]; simp -implicitDefEqProofs (maxSteps := 4000000) (disch := omega) only [c_sync_atomic_Int64_Store, r_sync_atomic_Int64_Store, getDT, go_sem, *]; (try simp only [pA, pB, pC, pD, pE, pF, pG, pH, pI, pJ, pK, pL, pM, pN, pO, pP, if_true, if_false]); repeat' (first | done | rfl | ((first | refine iteC (fun hq => ?_) (fun hq => ?_) | refine iteP (fun hq => ?_) (fun hq => ?_)) <;> (try (first | (exfalso; omega) | contradiction)) <;> (try simp -implicitDefEqProofs (maxSteps := 4000000) (disch := omega) only [getDT, go_sem, *]) <;> (try simp only [pA, pB, pC, pD, pE, pF, pG, pH, pI, pJ, pK, pL, pM, pN, pO, pP, if_true, if_false]))); (all_goals try rfl); (all_goals try (repeat' (first | done | rfl | (exfalso; omega) | contradiction | (refine iteR (fun hq => ?_) (fun hq => ?_)))))
theorem atLoad_ok (x : Int) : callL G N_sync_atomic_Int64_Load [.ref 1000000 0 0] [(1000000, .row [.d (.int .i64 x)])] = some (.d (.int .i64 x), [(1000000, .row [.d (.int .i64 x)])]) := by
  rw [callL_code g_sync_atomic_Int64_Load (by simp)]; simp -implicitDefEqProofs (maxSteps := 4000000) (disch := omega) only [c_sync_atomic_Int64_Load, r_sync_atomic_Int64_Load, getDT, go_sem, *]; (try simp only [pA, pB, pC, pD, pE, pF, pG, pH, pI, pJ, pK, pL, pM, pN, pO, pP, if_true, if_false]); repeat' (first | done | rfl | ((first | refine iteC (fun hq => ?_) (fun hq => ?_) | refine iteP (fun hq => ?_) (fun hq => ?_)) <;> (try (first | (exfalso; omega) | contradiction)) <;> (try simp -implicitDefEqProofs (maxSteps := 4000000) (disch := omega) only [getDT, go_sem, *]) <;> (try simp only [pA, pB, pC, pD, pE, pF, pG, pH, pI, pJ, pK, pL, pM, pN, pO, pP, if_true, if_false]))); (all_goals try rfl); (all_goals try (repeat' (first | done | rfl | (exfalso; omega) | contradiction | (refine iteR (fun hq => ?_) (fun hq => ?_)))))
theorem atCas_ok (x y z : Int) : callL G N_sync_atomic_Int64_CompareAndSwap [.ref 1000000 0 0, .d (.int .i64 y), .d (.int .i64 z)] [(1000000, .row [.d (.int .i64 x)])] = some (.d (.bool (decide (x = y))), [(1000000, .row [.d (.int .i64 (if x = y then z else x))])]) := by
  by_cases h : x = y
  · simp only [h, decide_true, if_true]
    rw [callL_code g_sync_atomic_Int64_CompareAndSwap (by simp)]; simp -implicitDefEqProofs (maxSteps := 4000000) (disch := omega) only [c_sync_atomic_Int64_CompareAndSwap, r_sync_atomic_Int64_CompareAndSwap, getDT, go_sem, *]; (try simp only [pA, pB, pC, pD, pE, pF, pG, pH, pI, pJ, pK, pL, pM, pN, pO, pP, if_true, if_false]); repeat' (first | done | rfl | ((first | refine iteC (fun hq => ?_) (fun hq => ?_) | refine iteP (fun hq => ?_) (fun hq => ?_)) <;> (try (first | (exfalso; omega) | contradiction)) <;> (try simp -implicitDefEqProofs (maxSteps := 4000000) (disch := omega) only [getDT, go_sem, *]) <;> (try simp only [pA, pB, pC, pD, pE, pF, pG, pH, pI, pJ, pK, pL, pM, pN, pO, pP, if_true, if_false]))); (all_goals try rfl); (all_goals try (repeat' (first | done | rfl | (exfalso; omega) | contradiction | (refine iteR (fun hq => ?_) (fun hq => ?_)))))
  · simp only [h, decide_false, if_false]
    rw [callL_code g_sync_atomic_Int64_CompareAndSwap (by simp)]; simp -implicitDefEqProofs (maxSteps := 4000000) (disch := omega) only [c_sync_atomic_Int64_CompareAndSwap, r_sync_atomic_Int64_CompareAndSwap, getDT, go_sem, *]; (try simp only [pA, pB, pC, pD, pE, pF, pG, pH, pI, pJ, pK, pL, pM, pN, pO, pP, if_true, if_false]); repeat' (first | done | rfl | ((first | refine iteC (fun hq => ?_) (fun hq => ?_) | refine iteP (fun hq => ?_) (fun hq => ?_)) <;> (try (first | (exfalso; omega) | contradiction)) <;> (try simp -implicitDefEqProofs (maxSteps := 4000000) (disch := omega) only [getDT, go_sem, *]) <;> (try simp only [pA, pB, pC, pD, pE, pF, pG, pH, pI, pJ, pK, pL, pM, pN, pO, pP, if_true, if_false]))); (all_goals try rfl); (all_goals try (repeat' (first | done | rfl | (exfalso; omega) | contradiction | (refine iteR (fun hq => ?_) (fun hq => ?_)))))
def casD (a : Arena) (w old next : Int) : Arena × Bool × Int :=
  if w = 1 then (if inB next 0 65536 = true then (if a.epoch = old then ({ a with epoch := next }, true, 0) else (a, false, 0)) else (zArena, false, 1))
  else if w = 3 then (if inB next 1 1073741824 = true then (if a.nextID = old then ({ a with nextID := next }, true, 0) else (a, false, 0)) else (zArena, false, 1))
  else (zArena, false, 9)
theorem acas_ok (a : Arena) (w old next : Int) : callL G N_arena_CAS [.d (eArena a), .d (.int .i64 w), .d (.int .i64 old), .d (.int .i64 next)] [] = some (.d (.tup [eArena (casD a w old next).1, .bool (casD a w old next).2.1, .int .i64 (casD a w old next).2.2]), []) := by
  have h0 := fun n => ain_ok n 0 65536
  have h1 := fun n => ain_ok n 1 1073741824
  have hs := atStore_ok 0
  have hl := atLoad_ok
  have hc := atCas_ok
  unfold casD
  by_cases h1 : w = 1
  · subst h1
    by_cases h2 : inB next 0 65536 = true
    · by_cases h3 : a.epoch = old
      · simp only [h2, h3, if_true]
        rw [callL_code g_arena_CAS (by simp)]; simp -implicitDefEqProofs (maxSteps := 4000000) (disch := omega) only [c_arena_CAS, r_arena_CAS, getDT, go_sem, *]; (try simp only [pA, pB, pC, pD, pE, pF, pG, pH, pI, pJ, pK, pL, pM, pN, pO, pP, if_true, if_false]); repeat' (first | done | rfl | ((first | refine iteC (fun hq => ?_) (fun hq => ?_) | refine iteP (fun hq => ?_) (fun hq => ?_)) <;> (try (first | (exfalso; omega) | contradiction)) <;> (try simp -implicitDefEqProofs (maxSteps := 4000000) (disch := omega) only [getDT, go_sem, *]) <;> (try simp only [pA, pB, pC, pD, pE, pF, pG, pH, pI, pJ, pK, pL, pM, pN, pO, pP, if_true, if_false]))); (all_goals try rfl); (all_goals try (repeat' (first | done | rfl | (exfalso; omega) | contradiction | (refine iteR (fun hq => ?_) (fun hq => ?_)))))
      · simp only [h2, h3, if_true, if_false]
        rw [callL_code g_arena_CAS (by simp)]; simp -implicitDefEqProofs (maxSteps := 4000000) (disch := omega) only [c_arena_CAS, r_arena_CAS, getDT, go_sem, *]; (try simp only [pA, pB, pC, pD, pE, pF, pG, pH, pI, pJ, pK, pL, pM, pN, pO, pP, if_true, if_false]); repeat' (first | done | rfl | ((first | refine iteC (fun hq => ?_) (fun hq => ?_) | refine iteP (fun hq => ?_) (fun hq => ?_)) <;> (try (first | (exfalso; omega) | contradiction)) <;> (try simp -implicitDefEqProofs (maxSteps := 4000000) (disch := omega) only [getDT, go_sem, *]) <;> (try simp only [pA, pB, pC, pD, pE, pF, pG, pH, pI, pJ, pK, pL, pM, pN, pO, pP, if_true, if_false]))); (all_goals try rfl); (all_goals try (repeat' (first | done | rfl | (exfalso; omega) | contradiction | (refine iteR (fun hq => ?_) (fun hq => ?_)))))
    · simp only [h2, if_true, if_false]
      rw [callL_code g_arena_CAS (by simp)]; simp -implicitDefEqProofs (maxSteps := 4000000) (disch := omega) only [c_arena_CAS, r_arena_CAS, getDT, go_sem, *]; (try simp only [pA, pB, pC, pD, pE, pF, pG, pH, pI, pJ, pK, pL, pM, pN, pO, pP, if_true, if_false]); repeat' (first | done | rfl | ((first | refine iteC (fun hq => ?_) (fun hq => ?_) | refine iteP (fun hq => ?_) (fun hq => ?_)) <;> (try (first | (exfalso; omega) | contradiction)) <;> (try simp -implicitDefEqProofs (maxSteps := 4000000) (disch := omega) only [getDT, go_sem, *]) <;> (try simp only [pA, pB, pC, pD, pE, pF, pG, pH, pI, pJ, pK, pL, pM, pN, pO, pP, if_true, if_false]))); (all_goals try rfl); (all_goals try (repeat' (first | done | rfl | (exfalso; omega) | contradiction | (refine iteR (fun hq => ?_) (fun hq => ?_)))))
  · by_cases h1' : w = 3
    · subst h1'
      by_cases h2 : inB next 1 1073741824 = true
      · by_cases h3 : a.nextID = old
        · simp only [h2, h3, if_true, if_false]
          rw [callL_code g_arena_CAS (by simp)]; simp -implicitDefEqProofs (maxSteps := 4000000) (disch := omega) only [c_arena_CAS, r_arena_CAS, getDT, go_sem, *]; (try simp only [pA, pB, pC, pD, pE, pF, pG, pH, pI, pJ, pK, pL, pM, pN, pO, pP, if_true, if_false]); repeat' (first | done | rfl | ((first | refine iteC (fun hq => ?_) (fun hq => ?_) | refine iteP (fun hq => ?_) (fun hq => ?_)) <;> (try (first | (exfalso; omega) | contradiction)) <;> (try simp -implicitDefEqProofs (maxSteps := 4000000) (disch := omega) only [getDT, go_sem, *]) <;> (try simp only [pA, pB, pC, pD, pE, pF, pG, pH, pI, pJ, pK, pL, pM, pN, pO, pP, if_true, if_false]))); (all_goals try rfl); (all_goals try (repeat' (first | done | rfl | (exfalso; omega) | contradiction | (refine iteR (fun hq => ?_) (fun hq => ?_)))))
        · simp only [h2, h3, if_true, if_false]
          rw [callL_code g_arena_CAS (by simp)]; simp -implicitDefEqProofs (maxSteps := 4000000) (disch := omega) only [c_arena_CAS, r_arena_CAS, getDT, go_sem, *]; (try simp only [pA, pB, pC, pD, pE, pF, pG, pH, pI, pJ, pK, pL, pM, pN, pO, pP, if_true, if_false]); repeat' (first | done | rfl | ((first | refine iteC (fun hq => ?_) (fun hq => ?_) | refine iteP (fun hq => ?_) (fun hq => ?_)) <;> (try (first | (exfalso; omega) | contradiction)) <;> (try simp -implicitDefEqProofs (maxSteps := 4000000) (disch := omega) only [getDT, go_sem, *]) <;> (try simp only [pA, pB, pC, pD, pE, pF, pG, pH, pI, pJ, pK, pL, pM, pN, pO, pP, if_true, if_false]))); (all_goals try rfl); (all_goals try (repeat' (first | done | rfl | (exfalso; omega) | contradiction | (refine iteR (fun hq => ?_) (fun hq => ?_)))))
      · simp only [h2, if_true, if_false]
        rw [callL_code g_arena_CAS (by simp)]; simp -implicitDefEqProofs (maxSteps := 4000000) (disch := omega) only [c_arena_CAS, r_arena_CAS, getDT, go_sem, *]; (try simp only [pA, pB, pC, pD, pE, pF, pG, pH, pI, pJ, pK, pL, pM, pN, pO, pP, if_true, if_false]); repeat' (first | done | rfl | ((first | refine iteC (fun hq => ?_) (fun hq => ?_) | refine iteP (fun hq => ?_) (fun hq => ?_)) <;> (try (first | (exfalso; omega) | contradiction)) <;> (try simp -implicitDefEqProofs (maxSteps := 4000000) (disch := omega) only [getDT, go_sem, *]) <;> (try simp only [pA, pB, pC, pD, pE, pF, pG, pH, pI, pJ, pK, pL, pM, pN, pO, pP, if_true, if_false]))); (all_goals try rfl); (all_goals try (repeat' (first | done | rfl | (exfalso; omega) | contradiction | (refine iteR (fun hq => ?_) (fun hq => ?_)))))
    · simp only [h1, h1', if_false]
      rw [callL_code g_arena_CAS (by simp)]; simp -implicitDefEqProofs (maxSteps := 4000000) (disch := omega) only [c_arena_CAS, r_arena_CAS, getDT, go_sem, *]; (try simp only [pA, pB, pC, pD, pE, pF, pG, pH, pI, pJ, pK, pL, pM, pN, pO, pP, if_true, if_false]); repeat' (first | done | rfl | ((first | refine iteC (fun hq => ?_) (fun hq => ?_) | refine iteP (fun hq => ?_) (fun hq => ?_)) <;> (try (first | (exfalso; omega) | contradiction)) <;> (try simp -implicitDefEqProofs (maxSteps := 4000000) (disch := omega) only [getDT, go_sem, *]) <;> (try simp only [pA, pB, pC, pD, pE, pF, pG, pH, pI, pJ, pK, pL, pM, pN, pO, pP, if_true, if_false]))); (all_goals try rfl); (all_goals try (repeat' (first | done | rfl | (exfalso; omega) | contradiction | (refine iteR (fun hq => ?_) (fun hq => ?_)))))
def tickD (a : Arena) (b : Int) : Arena × Int := if inB b 0 1099511627776 = false then (zArena, 1) else if IntKind.i64.wrap (1073741824 - a.clock) < b then (zArena, 6) else ({ a with clock := IntKind.i64.wrap (a.clock + b) }, 0)
theorem atick_ok (a : Arena) (b : Int) : callL G N_arena_Tick [.d (eArena a), .d (.int .i64 b)] [] = some (.d (.tup [eArena (tickD a b).1, .int .i64 (tickD a b).2]), []) := by
  have h0 := ain_ok b 0 1099511627776
  unfold tickD
  by_cases h1 : inB b 0 1099511627776 = true
  · by_cases h2 : IntKind.i64.wrap (1073741824 - a.clock) < b
    · simp only [h1, h2, if_true, if_false]
      rw [callL_code g_arena_Tick (by simp)]; simp -implicitDefEqProofs (maxSteps := 4000000) (disch := omega) only [c_arena_Tick, r_arena_Tick, getDT, go_sem, *]; (try simp only [pA, pB, pC, pD, pE, pF, pG, pH, pI, pJ, pK, pL, pM, pN, pO, pP, if_true, if_false]); repeat' (first | done | rfl | ((first | refine iteC (fun hq => ?_) (fun hq => ?_) | refine iteP (fun hq => ?_) (fun hq => ?_)) <;> (try (first | (exfalso; omega) | contradiction)) <;> (try simp -implicitDefEqProofs (maxSteps := 4000000) (disch := omega) only [getDT, go_sem, *]) <;> (try simp only [pA, pB, pC, pD, pE, pF, pG, pH, pI, pJ, pK, pL, pM, pN, pO, pP, if_true, if_false]))); (all_goals try rfl); (all_goals try (repeat' (first | done | rfl | (exfalso; omega) | contradiction | (refine iteR (fun hq => ?_) (fun hq => ?_)))))
    · simp only [h1, h2, if_true, if_false]
      rw [callL_code g_arena_Tick (by simp)]; simp -implicitDefEqProofs (maxSteps := 4000000) (disch := omega) only [c_arena_Tick, r_arena_Tick, getDT, go_sem, *]; (try simp only [pA, pB, pC, pD, pE, pF, pG, pH, pI, pJ, pK, pL, pM, pN, pO, pP, if_true, if_false]); repeat' (first | done | rfl | ((first | refine iteC (fun hq => ?_) (fun hq => ?_) | refine iteP (fun hq => ?_) (fun hq => ?_)) <;> (try (first | (exfalso; omega) | contradiction)) <;> (try simp -implicitDefEqProofs (maxSteps := 4000000) (disch := omega) only [getDT, go_sem, *]) <;> (try simp only [pA, pB, pC, pD, pE, pF, pG, pH, pI, pJ, pK, pL, pM, pN, pO, pP, if_true, if_false]))); (all_goals try rfl); (all_goals try (repeat' (first | done | rfl | (exfalso; omega) | contradiction | (refine iteR (fun hq => ?_) (fun hq => ?_)))))
  · simp only [h1, if_true, if_false]
    rw [callL_code g_arena_Tick (by simp)]; simp -implicitDefEqProofs (maxSteps := 4000000) (disch := omega) only [c_arena_Tick, r_arena_Tick, getDT, go_sem, *]; (try simp only [pA, pB, pC, pD, pE, pF, pG, pH, pI, pJ, pK, pL, pM, pN, pO, pP, if_true, if_false]); repeat' (first | done | rfl | ((first | refine iteC (fun hq => ?_) (fun hq => ?_) | refine iteP (fun hq => ?_) (fun hq => ?_)) <;> (try (first | (exfalso; omega) | contradiction)) <;> (try simp -implicitDefEqProofs (maxSteps := 4000000) (disch := omega) only [getDT, go_sem, *]) <;> (try simp only [pA, pB, pC, pD, pE, pF, pG, pH, pI, pJ, pK, pL, pM, pN, pO, pP, if_true, if_false]))); (all_goals try rfl); (all_goals try (repeat' (first | done | rfl | (exfalso; omega) | contradiction | (refine iteR (fun hq => ?_) (fun hq => ?_)))))
end Go.Proofs.Ytamiielalcnakaa

namespace Go.Proofs.Ytamiielalcnakaa
open Go Go.Sim
set_option linter.unusedSimpArgs false
set_option linter.unusedVariables false
set_option maxHeartbeats 10000000
set_option maxRecDepth 40000
theorem wrapN {x : Int} (h0 : -4294967296 ≤ x) (h1 : x ≤ 4294967296) : IntKind.i64.wrap x = x := wr (by omega)

/-- The reader: what it has, where it is. -/
abbrev srcO (l : List Int) (a : Nat) : Go.Sim.Obj := .row [.d (.agg [.sl (ints l), .int .i64 a])]
theorem new_ok (l : List Int) (hL : l.length ≤ LIM) : callL G N_base_New [.d (.sl (ints l))] [] = some (.ref 0 0 0, [(0, srcO (l.take 4000) 0)]) := by
  have hs := allSize_ints l
  by_cases h : 4000 < l.length
  · have e : ints (l.take 4000) = (ints l).take 4000 := by simp [ints, List.map_take]
    simp only [srcO, e]
    rw [callL_code g_base_New (by simp)]; simp -implicitDefEqProofs (maxSteps := 4000000) (disch := omega) only [c_base_New, r_base_New, getDT, go_sem, *]; (try simp only [pA, pB, pC, pD, pE, pF, pG, pH, pI, pJ, pK, pL, pM, pN, pO, pP, if_true, if_false]); repeat' (first | done | rfl | (refine iteC (fun hq => ?_) (fun hq => ?_) <;> (try (first | (exfalso; omega) | contradiction)) <;> (try simp -implicitDefEqProofs (maxSteps := 4000000) (disch := omega) only [getDT, go_sem, *]) <;> (try simp only [pA, pB, pC, pD, pE, pF, pG, pH, pI, pJ, pK, pL, pM, pN, pO, pP, if_true, if_false]))); (all_goals try rfl); (all_goals try (repeat' (first | done | rfl | (exfalso; omega) | contradiction | (refine iteR (fun hq => ?_) (fun hq => ?_)))))
  · have e : l.take 4000 = l := List.take_of_length_le (by omega)
    simp only [srcO, e]
    rw [callL_code g_base_New (by simp)]; simp -implicitDefEqProofs (maxSteps := 4000000) (disch := omega) only [c_base_New, r_base_New, getDT, go_sem, *]; (try simp only [pA, pB, pC, pD, pE, pF, pG, pH, pI, pJ, pK, pL, pM, pN, pO, pP, if_true, if_false]); repeat' (first | done | rfl | (refine iteC (fun hq => ?_) (fun hq => ?_) <;> (try (first | (exfalso; omega) | contradiction)) <;> (try simp -implicitDefEqProofs (maxSteps := 4000000) (disch := omega) only [getDT, go_sem, *]) <;> (try simp only [pA, pB, pC, pD, pE, pF, pG, pH, pI, pJ, pK, pL, pM, pN, pO, pP, if_true, if_false]))); (all_goals try rfl); (all_goals try (repeat' (first | done | rfl | (exfalso; omega) | contradiction | (refine iteR (fun hq => ?_) (fun hq => ?_)))))
def rawD (l : List Int) (a : Nat) : Int × Nat := if a < l.length then (l.getD a 0, a + 1) else (0, a)
theorem raw_ok (l : List Int) (a : Nat) (hL : l.length ≤ 4000) : callL G N_base_Src_Raw [.ref 1000000 0 0] [(1000000, srcO l a)] = some (.d (.int .i64 (rawD l a).1), [(1000000, srcO l (rawD l a).2)]) := by
  unfold rawD
  have e : ((a : Int) + 1 - 1).toNat = a := by omega
  by_cases h : a < l.length
  · simp only [h, if_true]
    rw [callL_code g_base_Src_Raw (by simp)]; simp -implicitDefEqProofs (maxSteps := 4000000) (disch := omega) only [c_base_Src_Raw, r_base_Src_Raw, e, getDT, go_sem, *]; (try simp only [pA, pB, pC, pD, pE, pF, pG, pH, pI, pJ, pK, pL, pM, pN, pO, pP, if_true, if_false]); repeat' (first | done | rfl | (refine iteC (fun hq => ?_) (fun hq => ?_) <;> (try (first | (exfalso; omega) | contradiction)) <;> (try simp -implicitDefEqProofs (maxSteps := 4000000) (disch := omega) only [e, getDT, go_sem, *]) <;> (try simp only [pA, pB, pC, pD, pE, pF, pG, pH, pI, pJ, pK, pL, pM, pN, pO, pP, if_true, if_false]))); (all_goals try rfl); (all_goals try (repeat' (first | done | rfl | (exfalso; omega) | contradiction | (refine iteR (fun hq => ?_) (fun hq => ?_)))))
  · simp only [h, if_false]
    rw [callL_code g_base_Src_Raw (by simp)]; simp -implicitDefEqProofs (maxSteps := 4000000) (disch := omega) only [c_base_Src_Raw, r_base_Src_Raw, getDT, go_sem, *]; (try simp only [pA, pB, pC, pD, pE, pF, pG, pH, pI, pJ, pK, pL, pM, pN, pO, pP, if_true, if_false]); repeat' (first | done | rfl | (refine iteC (fun hq => ?_) (fun hq => ?_) <;> (try (first | (exfalso; omega) | contradiction)) <;> (try simp -implicitDefEqProofs (maxSteps := 4000000) (disch := omega) only [getDT, go_sem, *]) <;> (try simp only [pA, pB, pC, pD, pE, pF, pG, pH, pI, pJ, pK, pL, pM, pN, pO, pP, if_true, if_false]))); (all_goals try rfl); (all_goals try (repeat' (first | done | rfl | (exfalso; omega) | contradiction | (refine iteR (fun hq => ?_) (fun hq => ?_)))))

theorem raw_le (l : List Int) (a : Nat) (h : a ≤ l.length) : (rawD l a).2 ≤ l.length := by unfold rawD; split <;> simp <;> omega
def nD (l : List Int) (a : Nat) (n : Int) : Int := if (rawD l a).1.tmod n < 0 then (rawD l a).1.tmod n + n else (rawD l a).1.tmod n
theorem nD_in (l : List Int) (a : Nat) {n : Int} (h : 1 ≤ n) : 0 ≤ nD l a n ∧ nD l a n < n := by
  unfold nD
  have h1 := Int.tmod_lt_of_pos (rawD l a).1 (show 0 < n by omega)
  have h2 := Int.lt_tmod_of_pos (rawD l a).1 (show 0 < n by omega)
  split <;> omega
theorem n_ok (l : List Int) (a : Nat) (n : Int) (hL : l.length ≤ 4000) (h1 : 1 ≤ n) (h2 : n ≤ 4294967296) : callL G N_base_Src_N [.ref 1000000 0 0, .d (.int .i64 n)] [(1000000, srcO l a)] = some (.d (.int .i64 (nD l a n)), [(1000000, srcO l (rawD l a).2)]) := by
  have hr := raw_ok l a hL
  have h3 := Int.tmod_lt_of_pos (rawD l a).1 (show 0 < n by omega)
  have h4 := Int.lt_tmod_of_pos (rawD l a).1 (show 0 < n by omega)
  unfold nD
  by_cases h : (rawD l a).1.tmod n < 0
  · simp only [h, if_true]
    rw [callL_code g_base_Src_N (by simp)]; simp -implicitDefEqProofs (maxSteps := 4000000) (disch := omega) only [c_base_Src_N, r_base_Src_N, getDT, go_sem, *]; (try simp only [pA, pB, pC, pD, pE, pF, pG, pH, pI, pJ, pK, pL, pM, pN, pO, pP, if_true, if_false]); repeat' (first | done | rfl | (refine iteC (fun hq => ?_) (fun hq => ?_) <;> (try (first | (exfalso; omega) | contradiction)) <;> (try simp -implicitDefEqProofs (maxSteps := 4000000) (disch := omega) only [getDT, go_sem, *]) <;> (try simp only [pA, pB, pC, pD, pE, pF, pG, pH, pI, pJ, pK, pL, pM, pN, pO, pP, if_true, if_false]))); (all_goals try rfl); (all_goals try (repeat' (first | done | rfl | (exfalso; omega) | contradiction | (refine iteR (fun hq => ?_) (fun hq => ?_)))))
  · simp only [h, if_false]
    rw [callL_code g_base_Src_N (by simp)]; simp -implicitDefEqProofs (maxSteps := 4000000) (disch := omega) only [c_base_Src_N, r_base_Src_N, getDT, go_sem, *]; (try simp only [pA, pB, pC, pD, pE, pF, pG, pH, pI, pJ, pK, pL, pM, pN, pO, pP, if_true, if_false]); repeat' (first | done | rfl | (refine iteC (fun hq => ?_) (fun hq => ?_) <;> (try (first | (exfalso; omega) | contradiction)) <;> (try simp -implicitDefEqProofs (maxSteps := 4000000) (disch := omega) only [getDT, go_sem, *]) <;> (try simp only [pA, pB, pC, pD, pE, pF, pG, pH, pI, pJ, pK, pL, pM, pN, pO, pP, if_true, if_false]))); (all_goals try rfl); (all_goals try (repeat' (first | done | rfl | (exfalso; omega) | contradiction | (refine iteR (fun hq => ?_) (fun hq => ?_)))))
theorem range_ok (l : List Int) (a : Nat) (lo hi : Int) (hL : l.length ≤ 4000) (h0 : -4294967296 ≤ lo) (h1 : lo ≤ hi) (h2 : hi ≤ 4294967296) (h3 : hi - lo < 4294967296) : callL G N_base_Src_Range [.ref 1000000 0 0, .d (.int .i64 lo), .d (.int .i64 hi)] [(1000000, srcO l a)] = some (.d (.int .i64 (lo + nD l a (hi - lo + 1))), [(1000000, srcO l (rawD l a).2)]) := by
  have hr := n_ok l a (hi - lo + 1) hL (by omega) (by omega)
  have hn := nD_in l a (show 1 ≤ hi - lo + 1 by omega)
  rw [callL_code g_base_Src_Range (by simp)]; simp -implicitDefEqProofs (maxSteps := 4000000) (disch := omega) only [c_base_Src_Range, r_base_Src_Range, getDT, go_sem, *]; (try simp only [pA, pB, pC, pD, pE, pF, pG, pH, pI, pJ, pK, pL, pM, pN, pO, pP, if_true, if_false]); repeat' (first | done | rfl | (refine iteC (fun hq => ?_) (fun hq => ?_) <;> (try (first | (exfalso; omega) | contradiction)) <;> (try simp -implicitDefEqProofs (maxSteps := 4000000) (disch := omega) only [getDT, go_sem, *]) <;> (try simp only [pA, pB, pC, pD, pE, pF, pG, pH, pI, pJ, pK, pL, pM, pN, pO, pP, if_true, if_false]))); (all_goals try rfl); (all_goals try (repeat' (first | done | rfl | (exfalso; omega) | contradiction | (refine iteR (fun hq => ?_) (fun hq => ?_)))))
end Go.Proofs.Ytamiielalcnakaa
