/-
  Directories: the first one.
  Rings, shards, stores and arenas: the first ones.
  Arenas: New.
  Batches: what the functions of package batch compute.
  The reader of numbers.
-/
import Derived.Test.YtadnfmkdmknmhaaB02b607f
set_option linter.unusedSimpArgs false
set_option linter.unusedVariables false
namespace Go.Proofs.Ytadnfmkdmknmhaa
open Go Go.Sim
set_option linter.unusedSimpArgs false
set_option linter.unusedVariables false
set_option maxHeartbeats 10000000
set_option maxRecDepth 40000
def spanI (live : Int) (i : Nat) : Span := ⟨(i : Int) * 65536 / live, ((i : Int) + 1) * 65536 / live - 1, i⟩
def spansN (live : Int) (k : Nat) : List Span := (List.range k).map (spanI live)
theorem spansN_len (live : Int) (k : Nat) : (spansN live k).length = k := by simp [spansN]
theorem spansN_succ (live : Int) (k : Nat) : spansN live (k + 1) = spansN live k ++ [spanI live k] := by simp [spansN, List.range_succ]
def dirN (slots live : Nat) : Directory := ⟨1, spansN live live, List.replicate slots (-1)⟩
def newD (slots live : Int) : Directory × Int := if live < 1 ∨ slots < live ∨ 6 < slots then (zDirectory, 1) else (dirN slots.toNat live.toNat, 0)
def ob4 : Nat × Go.Sim.Obj := (4, .row [.agg [.d (.int .i64 0), .xsl [], .xsl []]])
theorem dnew_loop0 (slots live : Nat) (h1 : 1 ≤ live) (h2 : live ≤ slots) (h3 : slots ≤ 6) : ∀ k, 1 ≤ k ∧ k ≤ live → loopL G [] l_directory_New_0 ⟨[(0, .d (.int .i64 slots)), (1, .d (.int .i64 live)), (4, .ref 4 0 0), (6, .ref 6 0 0), (21, .d (.int .i64 live)), (22, .d (.int .i64 k))], [ob4, (6, .row [.agg [.d (.int .i64 1), .acc 500040 ((spansN live k).map eSpan), .xsl []]]), (500040, .acc k)]⟩ = some (.exit 0, ⟨[(0, .d (.int .i64 slots)), (4, .ref 4 0 0), (6, .ref 6 0 0)], [ob4, (6, .row [.agg [.d (.int .i64 1), .acc 500040 ((spansN live live).map eSpan), .xsl []]]), (500040, .acc live)]⟩) := by
  refine loop_ind (fun k => live - k) _ _ _ fun k ⟨hk, hk2⟩ L ih => ?_
  simp only [ob4] at ih ⊢
  simp only [l_directory_New_0]
  by_cases h0 : k < live
  · have := ih (k + 1) ⟨by omega, by omega⟩ (by omega)
    rw [spansN_succ] at this
    have hq1 : 0 ≤ (k : Int) * 65536 / (live : Int) ∧ (k : Int) * 65536 / (live : Int) ≤ 1000000 := by
      refine ⟨Int.ediv_nonneg (by omega) (by omega), Int.le_trans (Int.ediv_le_self _ (by omega)) (by omega)⟩
    have hq2 : 0 ≤ ((k : Int) + 1) * 65536 / (live : Int) ∧ ((k : Int) + 1) * 65536 / (live : Int) ≤ 1000000 := by
      refine ⟨Int.ediv_nonneg (by omega) (by omega), Int.le_trans (Int.ediv_le_self _ (by omega)) (by omega)⟩
    obtain ⟨es, hes⟩ : ∃ es, es = spansN live k := ⟨_, rfl⟩
    have hesl : es.length = k := by rw [hes, spansN_len]
    rw [← hes] at this ⊢
    simp only [spanI, eSpan, List.map_append, List.map_cons, List.map_nil, Int.natCast_add, Int.natCast_one] at this
    simp -implicitDefEqProofs (maxSteps := 4000000) (disch := omega) only [go_sem, tdivE, hesl, allSize_Span, this]
  · have : k = live := by omega
    subst this
    simp -implicitDefEqProofs (maxSteps := 4000000) (disch := omega) only [go_sem, Nat.zero_add]
theorem dnew_first0 (slots live : Nat) (h1 : 1 ≤ live) (h2 : live ≤ slots) (h3 : slots ≤ 6) : loopL G [] l_directory_New_0 ⟨[(0, .d (.int .i64 slots)), (1, .d (.int .i64 live)), (4, .ref 4 0 0), (6, .ref 6 0 0), (21, .d (.int .i64 live)), (22, .d (.int .i64 0))], [ob4, (6, .row [.agg [.d (.int .i64 1), .xsl [], .xsl []]])]⟩ = some (.exit 0, ⟨[(0, .d (.int .i64 slots)), (4, .ref 4 0 0), (6, .ref 6 0 0)], [ob4, (6, .row [.agg [.d (.int .i64 1), .acc 500040 ((spansN live live).map eSpan), .xsl []]]), (500040, .acc live)]⟩) := by
  have h := dnew_loop0 slots live h1 h2 h3 1 ⟨by omega, h1⟩
  simp only [spansN, spanI, eSpan, ob4, List.range_one, List.map_cons, List.map_nil] at h
  simp only [Int.natCast_add, Int.natCast_one, Int.natCast_zero, Int.natCast_mul, Int.cast_ofNat_Int, List.length_append, List.length_map, List.map_nil, List.length_nil, List.map_append, List.map_cons, List.length_cons, Nat.zero_add, srcO, mapSet] at h
  rw [loopL_eq]
  have hq2 : 0 ≤ (65536 : Int) / (live : Int) ∧ (65536 : Int) / (live : Int) ≤ 65536 := by
    refine ⟨Int.ediv_nonneg (by omega) (by omega), Int.ediv_le_self _ (by omega)⟩
  generalize hF : loopL G [] l_directory_New_0 = F at h ⊢
  simp only [l_directory_New_0, ob4]
  simp only [Int.zero_mul, Int.zero_ediv, Int.zero_add, Int.one_mul] at h
  simp -implicitDefEqProofs (maxSteps := 4000000) (disch := omega) only [go_sem, tdivE, Int.zero_mul, Int.zero_ediv, Int.zero_add, Int.one_mul]
  rw [h]
  simp only [spansN, spanI, eSpan]
theorem dnew_loop1 (slots : Nat) (h3 : slots ≤ 6) (es : List D) (m : Nat) : ∀ k, 1 ≤ k ∧ k ≤ slots → loopL G [] l_directory_New_1 ⟨[(4, .ref 4 0 0), (6, .ref 6 0 0), (43, .d (.int .i64 slots)), (44, .d (.int .i64 k))], [ob4, (6, .row [.agg [.d (.int .i64 1), .acc 500040 es, .acc 49 (ints (List.replicate k (-1)))]]), (49, .acc k), (500040, .acc m)]⟩ = some (.exit 2, ⟨[(4, .ref 4 0 0), (6, .ref 6 0 0)], [ob4, (6, .row [.agg [.d (.int .i64 1), .acc 500040 es, .acc 49 (ints (List.replicate slots (-1)))]]), (49, .acc slots), (500040, .acc m)]⟩) := by
  refine loop_ind (fun k => slots - k) _ _ _ fun k ⟨hk, hk2⟩ L ih => ?_
  simp only [ob4] at ih ⊢
  simp only [l_directory_New_1]
  by_cases h0 : k < slots
  · have := ih (k + 1) ⟨by omega, by omega⟩ (by omega)
    rw [List.replicate_succ'] at this
    obtain ⟨fs, hfs⟩ : ∃ fs, fs = List.replicate k (-1 : Int) := ⟨_, rfl⟩
    have hl : fs.length = k := by rw [hfs, List.length_replicate]
    rw [← hfs] at this ⊢
    simp only [ints] at this ⊢
    simp only [Int.natCast_add, Int.natCast_one, Int.natCast_zero, Int.natCast_mul, Int.cast_ofNat_Int, List.length_append, List.length_map, List.map_nil, List.length_nil, List.map_append, List.map_cons, List.length_cons, Nat.zero_add, srcO, mapSet] at this
    simp -implicitDefEqProofs (maxSteps := 4000000) (disch := omega) only [go_sem, hl, allSize_ints, this]
  · have : k = slots := by omega
    subst this
    simp -implicitDefEqProofs (maxSteps := 4000000) (disch := omega) only [go_sem, Nat.zero_add]
theorem dnew_first1 (slots : Nat) (h1 : 1 ≤ slots) (h3 : slots ≤ 6) (es : List D) (m : Nat) : loopL G [] l_directory_New_1 ⟨[(4, .ref 4 0 0), (6, .ref 6 0 0), (43, .d (.int .i64 slots)), (44, .d (.int .i64 0))], [ob4, (6, .row [.agg [.d (.int .i64 1), .acc 500040 es, .xsl []]]), (500040, .acc m)]⟩ = some (.exit 2, ⟨[(4, .ref 4 0 0), (6, .ref 6 0 0)], [ob4, (6, .row [.agg [.d (.int .i64 1), .acc 500040 es, .acc 49 (ints (List.replicate slots (-1)))]]), (49, .acc slots), (500040, .acc m)]⟩) := by
  have h := dnew_loop1 slots h3 es m 1 ⟨by omega, h1⟩
  simp only [List.replicate_one, ob4] at h
  simp only [Int.natCast_add, Int.natCast_one, Int.natCast_zero, Int.natCast_mul, Int.cast_ofNat_Int, List.length_append, List.length_map, List.map_nil, List.length_nil, List.map_append, List.map_cons, List.length_cons, Nat.zero_add, srcO, mapSet] at h
  rw [loopL_eq]
  generalize hF : loopL G [] l_directory_New_1 = F at h ⊢
  simp only [l_directory_New_1, ob4]
  simp -implicitDefEqProofs (maxSteps := 4000000) (disch := omega) only [go_sem, h]
theorem dnew_ok (slots live : Int) : callL G N_directory_New [.d (.int .i64 slots), .d (.int .i64 live)] [] = some (.d (.tup [eDirectory (newD slots live).1, .int .i64 (newD slots live).2]), []) := by
  unfold newD
  by_cases c1 : live < 1
  · rw [if_pos (Or.inl c1)]
    simp only [eDirectory, zDirectory]
    rw [callL_code g_directory_New (by simp)]; simp -implicitDefEqProofs (maxSteps := 4000000) (disch := omega) only [c_directory_New, r_directory_New, go_sem, Nat.zero_add]
  by_cases c2 : slots < live
  · rw [if_pos (Or.inr (Or.inl c2))]
    simp only [eDirectory, zDirectory]
    rw [callL_code g_directory_New (by simp)]; simp -implicitDefEqProofs (maxSteps := 4000000) (disch := omega) only [c_directory_New, r_directory_New, go_sem, Nat.zero_add]
  by_cases c3 : 6 < slots
  · rw [if_pos (Or.inr (Or.inr c3))]
    simp only [eDirectory, zDirectory]
    rw [callL_code g_directory_New (by simp)]; simp -implicitDefEqProofs (maxSteps := 4000000) (disch := omega) only [c_directory_New, r_directory_New, go_sem, Nat.zero_add]
  rw [if_neg (by omega)]
  obtain ⟨s, hs⟩ : ∃ s, s = slots.toNat := ⟨_, rfl⟩
  obtain ⟨l, hl⟩ : ∃ l, l = live.toNat := ⟨_, rfl⟩
  rw [← hs, ← hl, show slots = (s : Int) by omega, show live = (l : Int) by omega] 
  have h0 := dnew_first0 s l (by omega) (by omega) (by omega)
  have h1 := dnew_first1 s (by omega) (by omega) ((spansN l l).map eSpan) l
  simp only [ob4] at h0 h1
  simp only [eDirectory, dirN]
  rw [callL_code g_directory_New (by simp)]; simp -implicitDefEqProofs (maxSteps := 4000000) (disch := omega) only [c_directory_New, r_directory_New, go_sem, h0, h1]
theorem newD_ok {s l : Nat} (h1 : 1 ≤ l) (h2 : l ≤ s) (h3 : s ≤ 6) : newD s l = (dirN s l, 0) := by
  unfold newD
  rw [if_neg (by omega)]
  rfl
theorem dirN_valid : ∀ s l : Nat, 1 ≤ l → l ≤ s → s ≤ 6 → dirV (dirN s l) = 0 ∧ (∀ i, i < s → findS (dirN s l).l i = if i < l then (i : Int) else -1) := by
  have key : ∀ s, s < 7 → ∀ l, l < 7 → 1 ≤ l → l ≤ s → dirV (dirN s l) = 0 ∧ (∀ i, i < s → findS (dirN s l).l i = if i < l then (i : Int) else -1) := by decide
  intro s l h1 h2 h3
  exact key s (by omega) l (by omega) h1 h2
end Go.Proofs.Ytadnfmkdmknmhaa

namespace Go.Proofs.Ytadnfmkdmknmhaa
open Go Go.Sim
set_option linter.unusedSimpArgs false
set_option linter.unusedVariables false
set_option maxHeartbeats 10000000
set_option maxRecDepth 40000
def ringN (cap : Int) : Ring := ⟨List.replicate cap.toNat zMessage, 0, 0⟩
def ringNew (cap : Int) : Ring × Int := if cap < 1 ∨ 12 < cap then (zRing, 1) else (ringN cap, 0)
theorem ringNew_ok (cap : Int) : callL G N_ring_New [.d (.int .i64 cap)] [] = some (.d (.tup [eRing (ringNew cap).1, .int .i64 (ringNew cap).2]), []) := by
  unfold ringNew
  by_cases c1 : cap < 1
  · rw [if_pos (Or.inl c1)]
    simp only [eRing, zRing]
    rw [callL_code g_ring_New (by simp)]; simp -implicitDefEqProofs (maxSteps := 4000000) (disch := omega) only [c_ring_New, r_ring_New, go_sem, Nat.zero_add]
  by_cases c2 : 12 < cap
  · rw [if_pos (Or.inr c2)]
    simp only [eRing, zRing]
    rw [callL_code g_ring_New (by simp)]; simp -implicitDefEqProofs (maxSteps := 4000000) (disch := omega) only [c_ring_New, r_ring_New, go_sem, Nat.zero_add]
  rw [if_neg (by omega)]
  obtain ⟨n, hn⟩ : ∃ n, n = cap.toNat := ⟨_, rfl⟩
  have hz : ∀ n, List.replicate n (AV.d (.agg [.int .i64 0, .int .i64 0, .int .i64 0, .int .i64 0, .int .i64 0, .int .i64 0, .str []])) = ((List.replicate n zMessage).map eMessage).map .d := by
    intro n
    rw [List.map_replicate, List.map_replicate]; rfl
  have hl : ∀ n, List.take n (((List.replicate n zMessage).map eMessage).map AV.d) = ((List.replicate n zMessage).map eMessage).map AV.d := fun n => List.take_of_length_le (by simp)
  simp only [eRing, ringN]
  rw [← hn, show cap = (n : Int) by omega]
  rw [callL_code g_ring_New (by simp)]; simp -implicitDefEqProofs (maxSteps := 4000000) (disch := omega) only [c_ring_New, r_ring_New, go_sem, hz, hl, List.length_replicate]
def shardFree (cap : Int) : Shard × Int := if cap < 1 ∨ 12 < cap then (zShard, 1) else (⟨false, 0, 0, ringN cap, ⟨[], []⟩⟩, 0)
theorem shardFree_ok (cap : Int) : callL G N_shard_Free [.d (.int .i64 cap)] [] = some (.d (.tup [eShard (shardFree cap).1, .int .i64 (shardFree cap).2]), []) := by
  have hr := ringNew_ok cap
  unfold ringNew at hr
  unfold shardFree
  by_cases c1 : cap < 1 ∨ 12 < cap
  · rw [if_pos c1] at hr ⊢
    simp only [eRing, zRing, eShard, zShard] at hr ⊢
    simp only [Int.natCast_add, Int.natCast_one, Int.natCast_zero, Int.natCast_mul, Int.cast_ofNat_Int, List.length_append, List.length_map, List.map_nil, List.length_nil, List.map_append, List.map_cons, List.length_cons, Nat.zero_add, srcO, mapSet] at hr
    rw [callL_code g_shard_Free (by simp)]; simp -implicitDefEqProofs (maxSteps := 4000000) (disch := omega) only [c_shard_Free, r_shard_Free, go_sem, hr]
  · rw [if_neg c1] at hr ⊢
    simp only [eRing, eShard] at hr ⊢
    rw [callL_code g_shard_Free (by simp)]; simp -implicitDefEqProofs (maxSteps := 4000000) (disch := omega) only [c_shard_Free, r_shard_Free, go_sem, hr]
def spansB (lo hi : Int) : Bool := decide (0 ≤ lo) && (decide (lo ≤ hi) && decide (hi < 65536))
theorem spans_ok (lo hi : Int) : callL G N_shard_spans [.d (.int .i64 lo), .d (.int .i64 hi)] [] = some (.d (.bool (spansB lo hi)), []) := by
  unfold spansB
  rw [callL_code g_shard_spans (by simp)]; simp -implicitDefEqProofs (maxSteps := 4000000) (disch := omega) only [c_shard_spans, r_shard_spans, go_sem, Nat.zero_add]
def shardNew (cap lo hi : Int) : Shard × Int := if cap < 1 ∨ 12 < cap then (zShard, 1) else if spansB lo hi = false then (zShard, 1) else (⟨true, lo, hi, ringN cap, ⟨[], []⟩⟩, 0)
theorem shardNew_ok (cap lo hi : Int) : callL G N_shard_New [.d (.int .i64 cap), .d (.int .i64 lo), .d (.int .i64 hi)] [] = some (.d (.tup [eShard (shardNew cap lo hi).1, .int .i64 (shardNew cap lo hi).2]), []) := by
  have hr := ringNew_ok cap
  have hs := spans_ok lo hi
  unfold ringNew at hr
  unfold shardNew
  by_cases c1 : cap < 1 ∨ 12 < cap
  · rw [if_pos c1] at hr ⊢
    simp only [eRing, zRing, eShard, zShard] at hr ⊢
    simp only [Int.natCast_add, Int.natCast_one, Int.natCast_zero, Int.natCast_mul, Int.cast_ofNat_Int, List.length_append, List.length_map, List.map_nil, List.length_nil, List.map_append, List.map_cons, List.length_cons, Nat.zero_add, srcO, mapSet] at hr
    rw [callL_code g_shard_New (by simp)]; simp -implicitDefEqProofs (maxSteps := 4000000) (disch := omega) only [c_shard_New, r_shard_New, go_sem, hr]
  · rw [if_neg c1] at hr ⊢
    simp only [eRing, eShard] at hr ⊢
    cases c2 : spansB lo hi
    · rw [c2] at hs
      simp only [if_true, zShard]
      rw [callL_code g_shard_New (by simp)]; simp -implicitDefEqProofs (maxSteps := 4000000) (disch := omega) only [c_shard_New, r_shard_New, go_sem, hr, hs]
    · rw [c2] at hs
      simp only [Bool.true_eq_false, if_false]
      rw [callL_code g_shard_New (by simp)]; simp -implicitDefEqProofs (maxSteps := 4000000) (disch := omega) only [c_shard_New, r_shard_New, go_sem, hr, hs]
def deadNew (cap : Int) : Dead × Int := if cap < 1 ∨ 24 < cap then (zDead, 1) else (⟨cap, []⟩, 0)
theorem deadNew_ok (cap : Int) : callL G N_dead_New [.d (.int .i64 cap)] [] = some (.d (.tup [eDead (deadNew cap).1, .int .i64 (deadNew cap).2]), []) := by
  unfold deadNew
  by_cases c1 : cap < 1
  · rw [if_pos (Or.inl c1)]
    simp only [eDead, zDead]
    rw [callL_code g_dead_New (by simp)]; simp -implicitDefEqProofs (maxSteps := 4000000) (disch := omega) only [c_dead_New, r_dead_New, go_sem, Nat.zero_add]
  by_cases c2 : 24 < cap
  · rw [if_pos (Or.inr c2)]
    simp only [eDead, zDead]
    rw [callL_code g_dead_New (by simp)]; simp -implicitDefEqProofs (maxSteps := 4000000) (disch := omega) only [c_dead_New, r_dead_New, go_sem, Nat.zero_add]
  rw [if_neg (by omega)]
  simp only [eDead]
  rw [callL_code g_dead_New (by simp)]; simp -implicitDefEqProofs (maxSteps := 4000000) (disch := omega) only [c_dead_New, r_dead_New, go_sem, Nat.zero_add]
def inB (n lo hi : Int) : Bool := decide (lo ≤ n) && decide (n ≤ hi)
theorem ain_ok (n lo hi : Int) : callL G N_arena_in [.d (.int .i64 n), .d (.int .i64 lo), .d (.int .i64 hi)] [] = some (.d (.bool (inB n lo hi)), []) := by
  unfold inB
  rw [callL_code g_arena_in (by simp)]; simp -implicitDefEqProofs (maxSteps := 4000000) (disch := omega) only [c_arena_in, r_arena_in, go_sem, Nat.zero_add]
def okSetup (s : Setup) : Bool := inB s.slots 1 6 && (inB s.live 1 s.slots && (inB s.capacity 1 12 && (inB s.dead 1 24 && (inB s.limit 1 8 && (inB s.clock 0 1073741824 && (inB s.nextID 1 1073741824 && inB s.epoch 0 65536))))))
def slotI (s : Setup) (i : Nat) : Slot := ⟨0, if i < s.live.toNat then ⟨true, (spanI s.live i).low, (spanI s.live i).high, ringN s.capacity, ⟨[], []⟩⟩ else ⟨false, 0, 0, ringN s.capacity, ⟨[], []⟩⟩⟩
def slotsN (s : Setup) (k : Nat) : List Slot := (List.range k).map (slotI s)
def stripesN (s : Setup) (k : Nat) : List Stripe := List.replicate k ⟨0, s.epoch, 0, 0⟩
def arenaN (s : Setup) : Arena := ⟨slotsN s s.slots.toNat, stripesN s s.slots.toNat, ⟨0, ⟨s.dead, []⟩⟩, dirN s.slots.toNat s.live.toNat, s.epoch, s.clock, s.nextID⟩
def arenaNew (s : Setup) : Arena × Int := if okSetup s = true then (arenaN s, 0) else (zArena, 1)
theorem arenaNew_bad (s : Setup) (h : okSetup s = false) : callL G N_arena_New [.d (eSetup s)] [] = some (.d (.tup [eArena (arenaNew s).1, .int .i64 (arenaNew s).2]), []) := by
  unfold arenaNew
  rw [if_neg (by simp [h])]
  unfold okSetup at h
  simp only [eSetup, eArena, zArena]
  cases c1 : inB s.slots 1 6
  · rw [callL_code g_arena_New (by simp)]; simp -implicitDefEqProofs (maxSteps := 4000000) (disch := omega) only [c_arena_New, r_arena_New, go_sem, ain_ok, c1]
  cases c2 : inB s.live 1 s.slots
  · rw [callL_code g_arena_New (by simp)]; simp -implicitDefEqProofs (maxSteps := 4000000) (disch := omega) only [c_arena_New, r_arena_New, go_sem, ain_ok, c1, c2]
  cases c3 : inB s.capacity 1 12
  · rw [callL_code g_arena_New (by simp)]; simp -implicitDefEqProofs (maxSteps := 4000000) (disch := omega) only [c_arena_New, r_arena_New, go_sem, ain_ok, c1, c2, c3]
  cases c4 : inB s.dead 1 24
  · rw [callL_code g_arena_New (by simp)]; simp -implicitDefEqProofs (maxSteps := 4000000) (disch := omega) only [c_arena_New, r_arena_New, go_sem, ain_ok, c1, c2, c3, c4]
  cases c5 : inB s.limit 1 8
  · rw [callL_code g_arena_New (by simp)]; simp -implicitDefEqProofs (maxSteps := 4000000) (disch := omega) only [c_arena_New, r_arena_New, go_sem, ain_ok, c1, c2, c3, c4, c5]
  cases c6 : inB s.clock 0 1073741824
  · rw [callL_code g_arena_New (by simp)]; simp -implicitDefEqProofs (maxSteps := 4000000) (disch := omega) only [c_arena_New, r_arena_New, go_sem, ain_ok, c1, c2, c3, c4, c5, c6]
  cases c7 : inB s.nextID 1 1073741824
  · rw [callL_code g_arena_New (by simp)]; simp -implicitDefEqProofs (maxSteps := 4000000) (disch := omega) only [c_arena_New, r_arena_New, go_sem, ain_ok, c1, c2, c3, c4, c5, c6, c7]
  cases c8 : inB s.epoch 0 65536
  · rw [callL_code g_arena_New (by simp)]; simp -implicitDefEqProofs (maxSteps := 4000000) (disch := omega) only [c_arena_New, r_arena_New, go_sem, ain_ok, c1, c2, c3, c4, c5, c6, c7, c8]
  rw [c1, c2, c3, c4, c5, c6, c7, c8] at h
  cases h
end Go.Proofs.Ytadnfmkdmknmhaa

namespace Go.Proofs.Ytadnfmkdmknmhaa
open Go Go.Sim
set_option linter.unusedSimpArgs false
set_option linter.unusedVariables false
set_option maxHeartbeats 10000000
set_option maxRecDepth 40000
structure SetupOk (s : Setup) (n l : Nat) : Prop where
  ns : s.slots = n
  nl : s.live = l
  h1 : 1 ≤ l
  h2 : l ≤ n
  h3 : n ≤ 6
  c1 : 1 ≤ s.capacity
  c2 : s.capacity ≤ 12
  d1 : 1 ≤ s.dead
  d2 : s.dead ≤ 24
theorem setupOk_of {s : Setup} (h : okSetup s = true) : ∃ n l, SetupOk s n l ∧ inB s.limit 1 8 = true ∧ inB s.clock 0 1073741824 = true ∧ inB s.nextID 1 1073741824 = true ∧ inB s.epoch 0 65536 = true := by
  unfold okSetup at h
  simp only [Bool.and_eq_true] at h
  obtain ⟨h1, h2, h3, h4, h5, h6, h7, h8⟩ := h
  simp only [inB, Bool.and_eq_true, decide_eq_true_eq] at h1 h2 h3 h4
  exact ⟨s.slots.toNat, s.live.toNat, ⟨by omega, by omega, by omega, by omega, by omega, h3.1, h3.2, h4.1, h4.2⟩, h5, h6, h7, h8⟩
theorem spanI_in {l i : Nat} (h1 : 1 ≤ l) (h2 : i < l) (h3 : l ≤ 6) : spansB (spanI l i).low (spanI l i).high = true := by
  have key : ∀ l : Nat, l < 7 → ∀ i : Nat, i < 7 → 1 ≤ l → i < l → spansB (spanI l i).low (spanI l i).high = true := by decide
  exact key l (by omega) i (by omega) h1 h2
theorem slotsN_succ (s : Setup) (k : Nat) : slotsN s (k + 1) = slotsN s k ++ [slotI s k] := by simp [slotsN, List.range_succ]
theorem slotsN_len (s : Setup) (k : Nat) : (slotsN s k).length = k := by simp [slotsN]
theorem stripesN_succ (s : Setup) (k : Nat) : stripesN s (k + 1) = stripesN s k ++ [⟨0, s.epoch, 0, 0⟩] := by simp [stripesN, List.replicate_succ']
theorem stripesN_len (s : Setup) (k : Nat) : (stripesN s k).length = k := by simp [stripesN]
def ar2 : Nat × Go.Sim.Obj := (2, .row [.agg [.xsl [], .xsl [], .d (.int .i64 0), .d (.int .i64 0), .xsl [], .d (.int .i64 0), .xsl [], .xsl [], .d (.int .i64 0), .d (.int .i64 0), .d (.int .i64 0)]])
def arO (s : Setup) (d : Directory) (a b : Go.Sim.AV) : Nat × Go.Sim.Obj := (4, .row [.agg [a, b, .d (.int .i64 0), .d (.int .i64 s.dead), .d (.sl []), .d (.int .i64 d.version), .d (.sl (d.l.map eSpan)), .d (.sl (ints d.forward)), .d (.int .i64 s.epoch), .d (.int .i64 s.clock), .d (.int .i64 s.nextID)]])
def arS (s : Setup) (n k : Nat) (d : Directory) (a b : Go.Sim.AV) (hp : Heap) : St :=
  ⟨[(1, .ref 1 0 0), (2, .ref 2 0 0), (4, .ref 4 0 0), (84, .d (.int .i64 n)), (85, .d (.int .i64 k))], (1, .row [.d (eSetup s)]) :: ar2 :: arO s d a b :: hp⟩
theorem arena_loop (s : Setup) (n l : Nat) (ok : SetupOk s n l) (d : Directory) (hd : d = dirN n l) : ∀ k, 1 ≤ k ∧ k ≤ n → loopL G [] l_arena_New_0 (arS s n k d (.acc 117 ((slotsN s k).map eSlot)) (.acc 125 ((stripesN s k).map eStripe)) [(117, .acc k), (125, .acc k)]) = some (.exit 0, ⟨[(2, .ref 2 0 0), (4, .ref 4 0 0)], [ar2, arO s d (.acc 117 ((slotsN s n).map eSlot)) (.acc 125 ((stripesN s n).map eStripe)), (117, .acc n), (125, .acc n)]⟩) := by
  obtain ⟨o1, o2, o3, o4, o5, o6, o7, _, _⟩ := ok
  refine loop_ind (fun k => n - k) _ _ _ fun k ⟨hk1, hk2⟩ L ih => ?_
  simp only [l_arena_New_0, arS, arO, ar2, eSetup] at ih ⊢
  by_cases hk : k < n
  · have hv := dirN_valid n l o3 o4 o5
    have hfree := shardFree_ok s.capacity
    have hsp := dSpan_ok d k (by rw [hd]; simp [dirN, spansN]; omega) (by rw [hd]; simp [dirN]; omega)
    have hfs := hv.2 k hk
    rw [← hd] at hv hfs
    unfold spanD at hsp
    rw [hfs] at hsp
    have hc : ¬ (s.capacity < 1 ∨ 12 < s.capacity) := by omega
    unfold shardFree at hfree
    rw [if_neg hc] at hfree
    simp only [eShard, List.map_nil] at hfree
    have := ih (k + 1) ⟨by omega, by omega⟩ (by omega)
    rw [slotsN_succ, stripesN_succ] at this
    obtain ⟨es, hes⟩ : ∃ es, es = slotsN s k := ⟨_, rfl⟩
    obtain ⟨fs, hfs2⟩ : ∃ fs, fs = stripesN s k := ⟨_, rfl⟩
    have hel : es.length = k := by rw [hes, slotsN_len]
    have hfl : fs.length = k := by rw [hfs2, stripesN_len]
    rw [← hes, ← hfs2] at this ⊢
    by_cases h0 : k < l
    · have hnew := shardNew_ok s.capacity (spanI l k).low (spanI l k).high
      unfold shardNew at hnew
      rw [if_neg hc, if_neg (by rw [spanI_in o3 h0 (by omega)]; decide)] at hnew
      have e1 : (d.l.getD k zSpan) = spanI l k := by rw [hd]; simp [dirN, spansN, h0]
      rw [if_pos h0, if_pos ⟨hv.1, by omega⟩, show ((k : Int).toNat) = k by omega, e1] at hsp
      have e2 : slotI s k = ⟨0, ⟨true, (spanI l k).low, (spanI l k).high, ringN s.capacity, ⟨[], []⟩⟩⟩ := by
        unfold slotI; rw [if_pos (by omega), o2]
      rw [e2] at this
      simp only [eDirectory, eSpan] at hsp
      simp only [eShard, List.map_nil] at hnew
      simp only [eSlot, eStripe, List.map_append, List.map_cons, List.map_nil] at this
      simp only [Int.natCast_add, Int.natCast_one, Int.natCast_zero, Int.natCast_mul, Int.cast_ofNat_Int, List.length_append, List.length_map, List.map_nil, List.length_nil, List.map_append, List.map_cons, List.length_cons, Nat.zero_add, srcO, mapSet] at this
      simp -implicitDefEqProofs (maxSteps := 4000000) (disch := omega) only [go_sem, hfree, hsp, hnew, hel, hfl, allSize_Slot, allSize_Stripe, this]
    · rw [if_neg h0, if_neg (by omega)] at hsp
      have e2 : slotI s k = ⟨0, ⟨false, 0, 0, ringN s.capacity, ⟨[], []⟩⟩⟩ := by
        unfold slotI; rw [if_neg (by omega)]
      rw [e2] at this
      simp only [eDirectory, eSpan, zSpan] at hsp
      simp only [eSlot, eStripe, List.map_append, List.map_cons, List.map_nil] at this
      simp only [Int.natCast_add, Int.natCast_one, Int.natCast_zero, Int.natCast_mul, Int.cast_ofNat_Int, List.length_append, List.length_map, List.map_nil, List.length_nil, List.map_append, List.map_cons, List.length_cons, Nat.zero_add, srcO, mapSet] at this
      simp -implicitDefEqProofs (maxSteps := 4000000) (disch := omega) only [go_sem, hfree, hsp, hel, hfl, allSize_Slot, allSize_Stripe, this]
  · have : k = n := by omega
    subst this
    simp -implicitDefEqProofs (maxSteps := 4000000) (disch := omega) only [go_sem, Nat.zero_add]
theorem arena_first (s : Setup) (n l : Nat) (ok : SetupOk s n l) (d : Directory) (hd : d = dirN n l) : loopL G [] l_arena_New_0 (arS s n 0 d (.xsl []) (.xsl []) []) = some (.exit 0, ⟨[(2, .ref 2 0 0), (4, .ref 4 0 0)], [ar2, arO s d (.acc 117 ((slotsN s n).map eSlot)) (.acc 125 ((stripesN s n).map eStripe)), (117, .acc n), (125, .acc n)]⟩) := by
  have h := arena_loop s n l ok d hd 1 ⟨by omega, by have := ok.h1; have := ok.h2; omega⟩
  obtain ⟨o1, o2, o3, o4, o5, o6, o7, _, _⟩ := ok
  have hv := dirN_valid n l o3 o4 o5
  have hfree := shardFree_ok s.capacity
  have hsp := dSpan_ok d 0 (by rw [hd]; simp [dirN, spansN]; omega) (by rw [hd]; simp [dirN]; omega)
  have hfs := hv.2 0 (by omega)
  rw [← hd] at hv hfs
  simp only [Int.natCast_zero] at hfs
  rw [if_pos (by omega)] at hfs
  unfold spanD at hsp
  rw [hfs] at hsp
  have hc : ¬ (s.capacity < 1 ∨ 12 < s.capacity) := by omega
  unfold shardFree at hfree
  rw [if_neg hc] at hfree
  simp only [eShard, List.map_nil] at hfree
  have hnew := shardNew_ok s.capacity (spanI l 0).low (spanI l 0).high
  unfold shardNew at hnew
  rw [if_neg hc, if_neg (by rw [spanI_in o3 (by omega) (by omega)]; decide)] at hnew
  have e1 : (d.l.getD 0 zSpan) = spanI l 0 := by rw [hd]; simp [dirN, spansN, show 0 < l by omega]
  rw [if_pos ⟨hv.1, by omega⟩, show ((0 : Int).toNat) = 0 by rfl, e1] at hsp
  have e2 : slotI s 0 = ⟨0, ⟨true, (spanI l 0).low, (spanI l 0).high, ringN s.capacity, ⟨[], []⟩⟩⟩ := by
    unfold slotI; rw [if_pos (by omega), o2]
  have e3 : slotsN s 1 = [slotI s 0] := rfl
  have e4 : stripesN s 1 = [⟨0, s.epoch, 0, 0⟩] := rfl
  rw [e3, e4, e2] at h
  simp only [eDirectory, eSpan] at hsp
  simp only [eShard, List.map_nil] at hnew
  simp only [eSlot, eStripe, List.map_append, List.map_cons, List.map_nil, arS, ar2, arO, eSetup] at h
  simp only [Int.natCast_add, Int.natCast_one, Int.natCast_zero, Int.natCast_mul, Int.cast_ofNat_Int, List.length_append, List.length_map, List.map_nil, List.length_nil, List.map_append, List.map_cons, List.length_cons, Nat.zero_add, srcO, mapSet] at h
  rw [loopL_eq]
  generalize hF : loopL G [] l_arena_New_0 = F at h ⊢
  simp only [l_arena_New_0, arS, ar2, arO, eSetup]
  simp -implicitDefEqProofs (maxSteps := 4000000) (disch := omega) only [go_sem, hfree, hsp, hnew, h]
theorem arenaNew_ok (s : Setup) : callL G N_arena_New [.d (eSetup s)] [] = some (.d (.tup [eArena (arenaNew s).1, .int .i64 (arenaNew s).2]), []) := by
  by_cases h : okSetup s = true
  · obtain ⟨n, l, ok, i5, i6, i7, i8⟩ := setupOk_of h
    have hl := arena_first s n l ok (dirN n l) rfl
    have hh := h
    unfold okSetup at hh
    simp only [Bool.and_eq_true] at hh
    obtain ⟨i1, i2, i3, i4, _⟩ := hh
    unfold arenaNew
    rw [if_pos h]
    obtain ⟨o1, o2, o3, o4, o5, o6, o7, o8, o9⟩ := ok
    have hn := dnew_ok s.slots s.live
    rw [o1, o2, newD_ok o3 o4 o5] at hn
    have hd := deadNew_ok s.dead
    unfold deadNew at hd
    rw [if_neg (by omega)] at hd
    have e1 : s.slots.toNat = n := by omega
    have e2 : s.live.toNat = l := by omega
    simp only [eArena, arenaN, e1, e2]
    rw [o1] at i1
    rw [o1, o2] at i2
    simp only [arS, ar2, arO, eSetup, o1, o2] at hl
    simp only [eDirectory, eDead, List.map_nil] at hn hd
    simp only [Int.natCast_add, Int.natCast_one, Int.natCast_zero, Int.natCast_mul, Int.cast_ofNat_Int, List.length_append, List.length_map, List.map_nil, List.length_nil, List.map_append, List.map_cons, List.length_cons, Nat.zero_add, srcO, mapSet] at hl
    simp only [eSetup, o1, o2]
    rw [callL_code g_arena_New (by simp)]; simp -implicitDefEqProofs (maxSteps := 4000000) (disch := omega) only [c_arena_New, r_arena_New, go_sem, ain_ok, i1, i2, i3, i4, i5, i6, i7, i8, hn, hd, hl]
  · exact arenaNew_bad s (by simpa using h)
end Go.Proofs.Ytadnfmkdmknmhaa

namespace Go.Proofs.Ytadnfmkdmknmhaa
open Go Go.Sim
set_option linter.unusedSimpArgs false
set_option linter.unusedVariables false
set_option maxHeartbeats 10000000
set_option maxRecDepth 40000
theorem bin_ok (n lo hi : Int) : callL G N_batch_in [.d (.int .i64 n), .d (.int .i64 lo), .d (.int .i64 hi)] [] = some (.d (.bool (inB n lo hi)), []) := by
  unfold inB
  rw [callL_code g_batch_in (by simp)]; simp -implicitDefEqProofs (maxSteps := 4000000) (disch := omega) only [c_batch_in, r_batch_in, go_sem, Nat.zero_add]
theorem idx_string (l : List (List UInt8)) (g : Nat) (cs : List D) (p : (List UInt8) → Bool) (hL : l.length ≤ 4294967296) (hp : ∀ a ∈ l, callL G g (.d (D.str a) :: cs.map .d) [] = some (.d (.bool (p a)), [])) : callL G N_slices_IndexFunc_string [.d (.sl (l.map D.str)), .d (.fn g cs)] [] = some (.d (.int .i64 (idxI p l)), []) := by
  have := loop_find (G := G) (x := l_slices_IndexFunc_string_0) (ks := []) l.length (atB l p) (fun k => ⟨[(0, .d (.sl (l.map D.str))), (1, .d (.fn g cs)), (7, .d (.int .i64 l.length)), (8, .d (.int .i64 k))], []⟩) (fun k => (.ret, ⟨[(4, .d (.int .i64 k))], []⟩)) (.exit 0, ⟨[], []⟩) (fun k hk L => by
    simp only [l_slices_IndexFunc_string_0]
    by_cases h0 : k < l.length
    · have h1 := hp l[k] (List.getElem_mem h0)
      simp only [atB_at h0]
      cases h2 : p l[k]
      · rw [h2] at h1
        simp -implicitDefEqProofs (maxSteps := 4000000) (disch := omega) only [go_sem, h1, size_str]
      · rw [h2] at h1
        simp -implicitDefEqProofs (maxSteps := 4000000) (disch := omega) only [go_sem, h1, size_str]
    · simp -implicitDefEqProofs (maxSteps := 4000000) (disch := omega) only [go_sem, Nat.zero_add])
  rw [findR_idx] at this
  simp only [Int.natCast_add, Int.natCast_one, Int.natCast_zero, Int.natCast_mul, Int.cast_ofNat_Int, List.length_append, List.length_map, List.map_nil, List.length_nil, List.map_append, List.map_cons, List.length_cons, Nat.zero_add, srcO, mapSet] at this
  unfold idxI
  cases h : l.findIdx? p with
  | none => rw [h] at this; rw [callL_code g_slices_IndexFunc_string (by simp)]; simp -implicitDefEqProofs (maxSteps := 4000000) (disch := omega) only [c_slices_IndexFunc_string, r_slices_IndexFunc_string, go_sem, this]
  | some i => rw [h] at this; rw [callL_code g_slices_IndexFunc_string (by simp)]; simp -implicitDefEqProofs (maxSteps := 4000000) (disch := omega) only [c_slices_IndexFunc_string, r_slices_IndexFunc_string, go_sem, this]
theorem contains_string (l : List (List UInt8)) (g : Nat) (cs : List D) (p : (List UInt8) → Bool) (hL : l.length ≤ 4294967296) (hp : ∀ a ∈ l, callL G g (.d (D.str a) :: cs.map .d) [] = some (.d (.bool (p a)), [])) : callL G N_slices_ContainsFunc_string [.d (.sl (l.map D.str)), .d (.fn g cs)] [] = some (.d (.bool (l.any p)), []) := by
  rw [callL_code g_slices_ContainsFunc_string (by simp)]; simp -implicitDefEqProofs (maxSteps := 4000000) (disch := omega) only [c_slices_ContainsFunc_string, r_slices_ContainsFunc_string, go_sem, idx_string l g cs p hL hp, idxI_any]
def slotB (s : Setup) (n : Int) : Bool := inB n 0 (IntKind.i64.wrap (s.slots - 1))
def longB (b : List UInt8) : Bool := decide (16 < (b.length : Int))
theorem bVal1_ok (s : Setup) (n : Int) : callL G N_batch_Validate_1 [.d (.int .i64 n), .d (.pd (eSetup s))] [] = some (.d (.bool (slotB s n)), []) := by
  unfold slotB
  simp only [eSetup]
  rw [callL_code g_batch_Validate_1 (by simp)]; simp -implicitDefEqProofs (maxSteps := 4000000) (disch := omega) only [c_batch_Validate_1, r_batch_Validate_1, go_sem, bin_ok]
theorem bVal2_ok (b : List UInt8) : callL G N_batch_Validate_2 [.d (.str b)] [] = some (.d (.bool (longB b)), []) := by
  unfold longB
  rw [callL_code g_batch_Validate_2 (by simp)]; simp -implicitDefEqProofs (maxSteps := 4000000) (disch := omega) only [c_batch_Validate_2, r_batch_Validate_2, go_sem, Nat.zero_add]
def okE (b : Bool) : Int := if b = true then 0 else 1
def visB (i : Invocation) : Bool := inB i.visibility 0 1000
def mostB (i : Invocation) : Bool := inB i.max 1 6
def batchV (i : Invocation) (s : Setup) : Int :=
  if i.kind = 1 then (if inB i.bodies.length 1 6 = true ∧ i.bodies.any longB = false then 0 else 2)
  else if i.kind = 2 then okE (slotB s i.home && (mostB i && visB i))
  else if i.kind = 3 ∨ i.kind = 4 then (if inB i.tokens.length 1 6 = true then 0 else 2)
  else if i.kind = 5 then (if inB i.tokens.length 1 6 = true then okE (visB i) else 2)
  else if i.kind = 6 ∨ i.kind = 7 then 0
  else if i.kind = 8 then okE (slotB s i.home && mostB i)
  else if i.kind = 9 ∨ i.kind = 10 ∨ i.kind = 11 then okE (slotB s i.from_ && (slotB s i.to && !decide (i.from_ = i.to)))
  else if i.kind = 12 ∨ i.kind = 14 then okE (slotB s i.from_)
  else if i.kind = 13 then okE (inB i.from_ 0 s.slots)
  else 9
theorem bVal_ok (i : Invocation) (s : Setup) (hb : i.bodies.length ≤ 4294967296) (ht : i.tokens.length ≤ 4294967296) : callL G N_batch_Validate [.d (eInvocation i), .d (eSetup s)] [] = some (.d (.int .i64 (batchV i s)), []) := by
  have h1 := fun n => bVal1_ok s n
  have h2 := contains_string i.bodies N_batch_Validate_2 [] longB hb (fun a _ => bVal2_ok a)
  have e1 : ∀ n, inB n 0 (IntKind.i64.wrap (s.slots - 1)) = slotB s n := fun _ => rfl
  have e2 : inB i.visibility 0 1000 = visB i := rfl
  have e3 : inB i.max 1 6 = mostB i := rfl
  obtain ⟨kd, hm, mx, vs, fr, tt, bs, ts⟩ := i
  simp only at *
  simp only [eSetup] at h1
  simp only [eInvocation, eSetup]
  unfold batchV
  by_cases k1 : kd = 1
  · subst k1
    simp only [if_true]
    cases c1 : inB bs.length 1 6
    · simp only [Bool.false_eq_true, false_and, if_false]
      rw [callL_code g_batch_Validate (by simp)]; simp -implicitDefEqProofs (maxSteps := 4000000) (disch := omega) only [c_batch_Validate, r_batch_Validate, go_sem, bin_ok, e2, e3, c1]
    · cases c2 : bs.any longB
      · rw [c2] at h2
        simp only [and_self, if_true]
        rw [callL_code g_batch_Validate (by simp)]; simp -implicitDefEqProofs (maxSteps := 4000000) (disch := omega) only [c_batch_Validate, r_batch_Validate, go_sem, bin_ok, e2, e3, c1, h2]
      · rw [c2] at h2
        simp only [Bool.true_eq_false, and_false, if_false]
        rw [callL_code g_batch_Validate (by simp)]; simp -implicitDefEqProofs (maxSteps := 4000000) (disch := omega) only [c_batch_Validate, r_batch_Validate, go_sem, bin_ok, e2, e3, c1, h2]
  by_cases k2 : kd = 2
  · subst k2
    simp only [Int.reduceEq, if_true, if_false]
    cases c1 : slotB s hm
    · rw [callL_code g_batch_Validate (by simp)]; simp -implicitDefEqProofs (maxSteps := 4000000) (disch := omega) only [c_batch_Validate, r_batch_Validate, go_sem, bin_ok, e2, e3, h1, c1, okE]
    · cases c2 : mostB ⟨2, hm, mx, vs, fr, tt, bs, ts⟩
      · rw [callL_code g_batch_Validate (by simp)]; simp -implicitDefEqProofs (maxSteps := 4000000) (disch := omega) only [c_batch_Validate, r_batch_Validate, go_sem, bin_ok, e2, e3, h1, c1, c2, okE]
      · cases c3 : visB ⟨2, hm, mx, vs, fr, tt, bs, ts⟩
        · rw [callL_code g_batch_Validate (by simp)]; simp -implicitDefEqProofs (maxSteps := 4000000) (disch := omega) only [c_batch_Validate, r_batch_Validate, go_sem, bin_ok, e2, e3, h1, c1, c2, c3, okE]
        · rw [callL_code g_batch_Validate (by simp)]; simp -implicitDefEqProofs (maxSteps := 4000000) (disch := omega) only [c_batch_Validate, r_batch_Validate, go_sem, bin_ok, e2, e3, h1, c1, c2, c3, okE]
  by_cases k3 : kd = 3
  · subst k3
    simp only [Int.reduceEq, if_true, if_false, true_or]
    cases c1 : inB ts.length 1 6
    · rw [callL_code g_batch_Validate (by simp)]; simp -implicitDefEqProofs (maxSteps := 4000000) (disch := omega) only [c_batch_Validate, r_batch_Validate, go_sem, bin_ok, e2, e3, c1]
    · rw [callL_code g_batch_Validate (by simp)]; simp -implicitDefEqProofs (maxSteps := 4000000) (disch := omega) only [c_batch_Validate, r_batch_Validate, go_sem, bin_ok, e2, e3, c1]
  by_cases k4 : kd = 4
  · subst k4
    simp only [Int.reduceEq, if_true, if_false, or_true]
    cases c1 : inB ts.length 1 6
    · rw [callL_code g_batch_Validate (by simp)]; simp -implicitDefEqProofs (maxSteps := 4000000) (disch := omega) only [c_batch_Validate, r_batch_Validate, go_sem, bin_ok, e2, e3, c1]
    · rw [callL_code g_batch_Validate (by simp)]; simp -implicitDefEqProofs (maxSteps := 4000000) (disch := omega) only [c_batch_Validate, r_batch_Validate, go_sem, bin_ok, e2, e3, c1]
  by_cases k5 : kd = 5
  · subst k5
    simp only [Int.reduceEq, if_true, if_false, or_self]
    cases c1 : inB ts.length 1 6
    · rw [callL_code g_batch_Validate (by simp)]; simp -implicitDefEqProofs (maxSteps := 4000000) (disch := omega) only [c_batch_Validate, r_batch_Validate, go_sem, bin_ok, e2, e3, c1]
    · cases c3 : visB ⟨5, hm, mx, vs, fr, tt, bs, ts⟩
      · rw [callL_code g_batch_Validate (by simp)]; simp -implicitDefEqProofs (maxSteps := 4000000) (disch := omega) only [c_batch_Validate, r_batch_Validate, go_sem, bin_ok, e2, e3, c1, c3, okE]
      · rw [callL_code g_batch_Validate (by simp)]; simp -implicitDefEqProofs (maxSteps := 4000000) (disch := omega) only [c_batch_Validate, r_batch_Validate, go_sem, bin_ok, e2, e3, c1, c3, okE]
  by_cases k6 : kd = 6
  · subst k6
    simp only [Int.reduceEq, if_true, if_false, or_self, true_or]
    rw [callL_code g_batch_Validate (by simp)]; simp -implicitDefEqProofs (maxSteps := 4000000) (disch := omega) only [c_batch_Validate, r_batch_Validate, go_sem, bin_ok, e2, e3]
  by_cases k7 : kd = 7
  · subst k7
    simp only [Int.reduceEq, if_true, if_false, or_self, or_true]
    rw [callL_code g_batch_Validate (by simp)]; simp -implicitDefEqProofs (maxSteps := 4000000) (disch := omega) only [c_batch_Validate, r_batch_Validate, go_sem, bin_ok, e2, e3]
  by_cases k8 : kd = 8
  · subst k8
    simp only [Int.reduceEq, if_true, if_false, or_self]
    cases c1 : slotB s hm
    · rw [callL_code g_batch_Validate (by simp)]; simp -implicitDefEqProofs (maxSteps := 4000000) (disch := omega) only [c_batch_Validate, r_batch_Validate, go_sem, bin_ok, e2, e3, h1, c1, okE]
    · cases c2 : mostB ⟨8, hm, mx, vs, fr, tt, bs, ts⟩
      · rw [callL_code g_batch_Validate (by simp)]; simp -implicitDefEqProofs (maxSteps := 4000000) (disch := omega) only [c_batch_Validate, r_batch_Validate, go_sem, bin_ok, e2, e3, h1, c1, c2, okE]
      · rw [callL_code g_batch_Validate (by simp)]; simp -implicitDefEqProofs (maxSteps := 4000000) (disch := omega) only [c_batch_Validate, r_batch_Validate, go_sem, bin_ok, e2, e3, h1, c1, c2, okE]
  by_cases k9 : kd = 9 ∨ kd = 10 ∨ kd = 11
  · simp only [k1, k2, k3, k4, k5, k6, k7, k8, k9, or_self, if_true, if_false]
    cases c1 : slotB s fr
    · rcases k9 with k9 | k9 | k9 <;> subst k9
      all_goals rw [callL_code g_batch_Validate (by simp)]; simp -implicitDefEqProofs (maxSteps := 4000000) (disch := omega) only [c_batch_Validate, r_batch_Validate, go_sem, bin_ok, e2, e3, h1, c1, okE]
    · cases c2 : slotB s tt
      · rcases k9 with k9 | k9 | k9 <;> subst k9
        all_goals rw [callL_code g_batch_Validate (by simp)]; simp -implicitDefEqProofs (maxSteps := 4000000) (disch := omega) only [c_batch_Validate, r_batch_Validate, go_sem, bin_ok, e2, e3, h1, c1, c2, okE]
      · by_cases c3 : fr = tt
        · subst c3
          rcases k9 with k9 | k9 | k9 <;> subst k9
          all_goals rw [callL_code g_batch_Validate (by simp)]; simp -implicitDefEqProofs (maxSteps := 4000000) (disch := omega) only [c_batch_Validate, r_batch_Validate, go_sem, bin_ok, e2, e3, h1, c1, c2, okE]
        · rcases k9 with k9 | k9 | k9 <;> subst k9
          all_goals rw [callL_code g_batch_Validate (by simp)]; simp -implicitDefEqProofs (maxSteps := 4000000) (disch := omega) only [c_batch_Validate, r_batch_Validate, go_sem, bin_ok, e2, e3, h1, c1, c2, c3, okE]
  by_cases k10 : kd = 12 ∨ kd = 14
  · simp only [k1, k2, k3, k4, k5, k6, k7, k8, k9, k10, or_self, if_true, if_false]
    cases c1 : slotB s fr
    · rcases k10 with k10 | k10 <;> subst k10
      all_goals rw [callL_code g_batch_Validate (by simp)]; simp -implicitDefEqProofs (maxSteps := 4000000) (disch := omega) only [c_batch_Validate, r_batch_Validate, go_sem, bin_ok, e2, e3, h1, c1, okE]
    · rcases k10 with k10 | k10 <;> subst k10
      all_goals rw [callL_code g_batch_Validate (by simp)]; simp -implicitDefEqProofs (maxSteps := 4000000) (disch := omega) only [c_batch_Validate, r_batch_Validate, go_sem, bin_ok, e2, e3, h1, c1, okE]
  by_cases k11 : kd = 13
  · simp only [k1, k2, k3, k4, k5, k6, k7, k8, k9, k10, k11, or_self, if_true, if_false]
    subst k11
    cases c1 : inB fr 0 s.slots
    · rw [callL_code g_batch_Validate (by simp)]; simp -implicitDefEqProofs (maxSteps := 4000000) (disch := omega) only [c_batch_Validate, r_batch_Validate, go_sem, bin_ok, e2, e3, c1, okE]
    · rw [callL_code g_batch_Validate (by simp)]; simp -implicitDefEqProofs (maxSteps := 4000000) (disch := omega) only [c_batch_Validate, r_batch_Validate, go_sem, bin_ok, e2, e3, c1, okE]
  simp only [k1, k2, k3, k4, k5, k6, k7, k8, k9, k10, k11, or_self, if_false]
  have q : ¬ kd = 9 ∧ ¬ kd = 10 ∧ ¬ kd = 11 ∧ ¬ kd = 12 ∧ ¬ kd = 14 := by omega
  rw [callL_code g_batch_Validate (by simp)]; simp -implicitDefEqProofs (maxSteps := 4000000) (disch := omega) only [c_batch_Validate, r_batch_Validate, go_sem, bin_ok, e2, e3, k1, k2, k3, k4, k5, k6, k7, k8, q.1, q.2.1, q.2.2.1, q.2.2.2.1, q.2.2.2.2, k11]
end Go.Proofs.Ytadnfmkdmknmhaa

namespace Go.Proofs.Ytadnfmkdmknmhaa
open Go Go.Sim
set_option linter.unusedSimpArgs false
set_option linter.unusedVariables false
set_option maxHeartbeats 10000000
set_option maxRecDepth 40000
abbrev srcO (l : List Int) (a : Nat) : Go.Sim.Obj := .row [.d (.agg [.sl (ints l), .int .i64 a])]
theorem new_ok (l : List Int) (hL : l.length ≤ LIM) : callL G N_base_New [.d (.sl (ints l))] [] = some (.ref 0 0 0, [(0, srcO (l.take 4000) 0)]) := by
  have hs := allSize_ints l
  by_cases h : 4000 < l.length
  · have e : ints (l.take 4000) = (ints l).take 4000 := by simp [ints, List.map_take]
    simp only [srcO, e]
    rw [callL_code g_base_New (by simp)]; simp -implicitDefEqProofs (maxSteps := 4000000) (disch := omega) only [c_base_New, r_base_New, getDT, go_sem, *]; (try simp only [pA, pB, pC, pD, pE, pF, pG, pH, pI, pJ, pK, pL, pM, pN, pO, pP, if_true, if_false]); repeat' (first | done | rfl | ((first | refine iteC (fun hq => ?_) (fun hq => ?_) | refine iteP (fun hq => ?_) (fun hq => ?_)) <;> (try (first | (exfalso; omega) | contradiction)) <;> (try simp -implicitDefEqProofs (maxSteps := 4000000) (disch := omega) only [getDT, go_sem, *]) <;> (try simp only [pA, pB, pC, pD, pE, pF, pG, pH, pI, pJ, pK, pL, pM, pN, pO, pP, if_true, if_false]))); (all_goals try rfl); (all_goals try (repeat' (first | done | rfl | (exfalso; omega) | contradiction | (refine iteR (fun hq => ?_) (fun hq => ?_)))))
  · have e : l.take 4000 = l := List.take_of_length_le (by omega)
    simp only [srcO, e]
    rw [callL_code g_base_New (by simp)]; simp -implicitDefEqProofs (maxSteps := 4000000) (disch := omega) only [c_base_New, r_base_New, getDT, go_sem, *]; (try simp only [pA, pB, pC, pD, pE, pF, pG, pH, pI, pJ, pK, pL, pM, pN, pO, pP, if_true, if_false]); repeat' (first | done | rfl | ((first | refine iteC (fun hq => ?_) (fun hq => ?_) | refine iteP (fun hq => ?_) (fun hq => ?_)) <;> (try (first | (exfalso; omega) | contradiction)) <;> (try simp -implicitDefEqProofs (maxSteps := 4000000) (disch := omega) only [getDT, go_sem, *]) <;> (try simp only [pA, pB, pC, pD, pE, pF, pG, pH, pI, pJ, pK, pL, pM, pN, pO, pP, if_true, if_false]))); (all_goals try rfl); (all_goals try (repeat' (first | done | rfl | (exfalso; omega) | contradiction | (refine iteR (fun hq => ?_) (fun hq => ?_)))))
def rawD (l : List Int) (a : Nat) : Int × Nat := if a < l.length then (l.getD a 0, a + 1) else (0, a)
theorem raw_ok (l : List Int) (a : Nat) (hL : l.length ≤ 4000) : callL G N_base_Src_Raw [.ref 1000000 0 0] [(1000000, srcO l a)] = some (.d (.int .i64 (rawD l a).1), [(1000000, srcO l (rawD l a).2)]) := by
  unfold rawD
  have e : ((a : Int) + 1 - 1).toNat = a := by omega
  by_cases h : a < l.length
  · simp only [h, if_true]
    rw [callL_code g_base_Src_Raw (by simp)]; simp -implicitDefEqProofs (maxSteps := 4000000) (disch := omega) only [c_base_Src_Raw, r_base_Src_Raw, e, getDT, go_sem, *]; (try simp only [pA, pB, pC, pD, pE, pF, pG, pH, pI, pJ, pK, pL, pM, pN, pO, pP, if_true, if_false]); repeat' (first | done | rfl | ((first | refine iteC (fun hq => ?_) (fun hq => ?_) | refine iteP (fun hq => ?_) (fun hq => ?_)) <;> (try (first | (exfalso; omega) | contradiction)) <;> (try simp -implicitDefEqProofs (maxSteps := 4000000) (disch := omega) only [e, getDT, go_sem, *]) <;> (try simp only [pA, pB, pC, pD, pE, pF, pG, pH, pI, pJ, pK, pL, pM, pN, pO, pP, if_true, if_false]))); (all_goals try rfl); (all_goals try (repeat' (first | done | rfl | (exfalso; omega) | contradiction | (refine iteR (fun hq => ?_) (fun hq => ?_)))))
  · simp only [h, if_false]
    rw [callL_code g_base_Src_Raw (by simp)]; simp -implicitDefEqProofs (maxSteps := 4000000) (disch := omega) only [c_base_Src_Raw, r_base_Src_Raw, getDT, go_sem, *]; (try simp only [pA, pB, pC, pD, pE, pF, pG, pH, pI, pJ, pK, pL, pM, pN, pO, pP, if_true, if_false]); repeat' (first | done | rfl | ((first | refine iteC (fun hq => ?_) (fun hq => ?_) | refine iteP (fun hq => ?_) (fun hq => ?_)) <;> (try (first | (exfalso; omega) | contradiction)) <;> (try simp -implicitDefEqProofs (maxSteps := 4000000) (disch := omega) only [getDT, go_sem, *]) <;> (try simp only [pA, pB, pC, pD, pE, pF, pG, pH, pI, pJ, pK, pL, pM, pN, pO, pP, if_true, if_false]))); (all_goals try rfl); (all_goals try (repeat' (first | done | rfl | (exfalso; omega) | contradiction | (refine iteR (fun hq => ?_) (fun hq => ?_)))))
def nD (l : List Int) (a : Nat) (n : Int) : Int := if (rawD l a).1.tmod n < 0 then (rawD l a).1.tmod n + n else (rawD l a).1.tmod n
theorem nD_in (l : List Int) (a : Nat) {n : Int} (h : 1 ≤ n) : 0 ≤ nD l a n ∧ nD l a n < n := by
  unfold nD
  have h1 := Int.tmod_lt_of_pos (rawD l a).1 (show 0 < n by omega)
  have h2 := Int.lt_tmod_of_pos (rawD l a).1 (show 0 < n by omega)
  split <;> omega
theorem n_ok (l : List Int) (a : Nat) (n : Int) (hL : l.length ≤ 4000) (h1 : 1 ≤ n) (h2 : n ≤ 4294967296) : callL G N_base_Src_N [.ref 1000000 0 0, .d (.int .i64 n)] [(1000000, srcO l a)] = some (.d (.int .i64 (nD l a n)), [(1000000, srcO l (rawD l a).2)]) := by
  have hr := raw_ok l a hL
  have h3 := Int.tmod_lt_of_pos (rawD l a).1 (show 0 < n by omega)
  have h4 := Int.lt_tmod_of_pos (rawD l a).1 (show 0 < n by omega)
  unfold nD
  by_cases h : (rawD l a).1.tmod n < 0
  · simp only [h, if_true]
    rw [callL_code g_base_Src_N (by simp)]; simp -implicitDefEqProofs (maxSteps := 4000000) (disch := omega) only [c_base_Src_N, r_base_Src_N, getDT, go_sem, *]; (try simp only [pA, pB, pC, pD, pE, pF, pG, pH, pI, pJ, pK, pL, pM, pN, pO, pP, if_true, if_false]); repeat' (first | done | rfl | ((first | refine iteC (fun hq => ?_) (fun hq => ?_) | refine iteP (fun hq => ?_) (fun hq => ?_)) <;> (try (first | (exfalso; omega) | contradiction)) <;> (try simp -implicitDefEqProofs (maxSteps := 4000000) (disch := omega) only [getDT, go_sem, *]) <;> (try simp only [pA, pB, pC, pD, pE, pF, pG, pH, pI, pJ, pK, pL, pM, pN, pO, pP, if_true, if_false]))); (all_goals try rfl); (all_goals try (repeat' (first | done | rfl | (exfalso; omega) | contradiction | (refine iteR (fun hq => ?_) (fun hq => ?_)))))
  · simp only [h, if_false]
    rw [callL_code g_base_Src_N (by simp)]; simp -implicitDefEqProofs (maxSteps := 4000000) (disch := omega) only [c_base_Src_N, r_base_Src_N, getDT, go_sem, *]; (try simp only [pA, pB, pC, pD, pE, pF, pG, pH, pI, pJ, pK, pL, pM, pN, pO, pP, if_true, if_false]); repeat' (first | done | rfl | ((first | refine iteC (fun hq => ?_) (fun hq => ?_) | refine iteP (fun hq => ?_) (fun hq => ?_)) <;> (try (first | (exfalso; omega) | contradiction)) <;> (try simp -implicitDefEqProofs (maxSteps := 4000000) (disch := omega) only [getDT, go_sem, *]) <;> (try simp only [pA, pB, pC, pD, pE, pF, pG, pH, pI, pJ, pK, pL, pM, pN, pO, pP, if_true, if_false]))); (all_goals try rfl); (all_goals try (repeat' (first | done | rfl | (exfalso; omega) | contradiction | (refine iteR (fun hq => ?_) (fun hq => ?_)))))
theorem range_ok (l : List Int) (a : Nat) (lo hi : Int) (hL : l.length ≤ 4000) (h0 : -4294967296 ≤ lo) (h1 : lo ≤ hi) (h2 : hi ≤ 4294967296) (h3 : hi - lo < 4294967296) : callL G N_base_Src_Range [.ref 1000000 0 0, .d (.int .i64 lo), .d (.int .i64 hi)] [(1000000, srcO l a)] = some (.d (.int .i64 (lo + nD l a (hi - lo + 1))), [(1000000, srcO l (rawD l a).2)]) := by
  have hr := n_ok l a (hi - lo + 1) hL (by omega) (by omega)
  have hn := nD_in l a (show 1 ≤ hi - lo + 1 by omega)
  rw [callL_code g_base_Src_Range (by simp)]; simp -implicitDefEqProofs (maxSteps := 4000000) (disch := omega) only [c_base_Src_Range, r_base_Src_Range, getDT, go_sem, *]; (try simp only [pA, pB, pC, pD, pE, pF, pG, pH, pI, pJ, pK, pL, pM, pN, pO, pP, if_true, if_false]); repeat' (first | done | rfl | ((first | refine iteC (fun hq => ?_) (fun hq => ?_) | refine iteP (fun hq => ?_) (fun hq => ?_)) <;> (try (first | (exfalso; omega) | contradiction)) <;> (try simp -implicitDefEqProofs (maxSteps := 4000000) (disch := omega) only [getDT, go_sem, *]) <;> (try simp only [pA, pB, pC, pD, pE, pF, pG, pH, pI, pJ, pK, pL, pM, pN, pO, pP, if_true, if_false]))); (all_goals try rfl); (all_goals try (repeat' (first | done | rfl | (exfalso; omega) | contradiction | (refine iteR (fun hq => ?_) (fun hq => ?_)))))
end Go.Proofs.Ytadnfmkdmknmhaa
