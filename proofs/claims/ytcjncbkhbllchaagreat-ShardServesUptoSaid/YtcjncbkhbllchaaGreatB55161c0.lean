/-
  Part of the calculus in which the claim is proved: Shards of the reference: Ack, Nack, Change
-/
import Derived.Test.YtcjncbkhbllchaaGreatBb3af376
import Derived.Test.YtcjncbkhbllchaaGreatBf795ed0
import Derived.Test.YtcjncbkhbllchaaGreatB597af17
import Derived.Test.YtcjncbkhbllchaaGreatB70c8139
import Derived.Test.YtcjncbkhbllchaaGreatB67c0517
set_option linter.unusedSimpArgs false
set_option linter.unusedVariables false
set_option maxHeartbeats 10000000
set_option maxRecDepth 100000
namespace Go.Proofs.YtcjncbkhbllchaaGreat
open Go Go.Sim
def mQ (ep : Int) (m : Message) : Bool := decide (¬ m.epoch < ep)
theorem zur (ep : Int) (l : List Lease) (i : Nat) : cntN (mQ ep) (l.map (·.msg)) i = cntN (lsQ ep) l i := by
 unfold cntN
 rw [← List.map_take, List.filter_map, List.length_map]; rfl
theorem zl1 (n : Int) : callL G z0Z [.d (.int .i64 n)] [] = some (.d (.bool (decide (0 ≤ n ∧ n ≤ 65536))), []) := by
 have h := sin_ok n 0 65536
 rw [zjI z8F (by simp)]; simp -implicitDefEqProofs (disch := omega) only [z72, getDT, go_sem, *]
theorem zwY (n : Int) : callL G z10 [.d (.int .i64 n)] [] = some (.d (.bool (decide (1 ≤ n ∧ n ≤ 8))), []) := by
 have h := sin_ok n 1 8
 rw [zjI z8G (by simp)]; simp -implicitDefEqProofs (disch := omega) only [z73, getDT, go_sem, *]
theorem ep7_ok (n : Int) : callL G zK [.d (.int .i64 n)] [] = some (.d (.bool (decide (0 ≤ n ∧ n ≤ 65536))), []) := by
 by_cases h : 0 ≤ n ∧ n ≤ 65536
 · rw [decide_eq_true h]
   rw [zjI zbN (by simp)]; simp -implicitDefEqProofs (disch := omega) only [z6S, getDT, go_sem, *]
 · rw [decide_eq_false h]
   have e : (decide (0 ≤ n) && decide (n ≤ 65536)) = false := by simp; omega
   rw [zjI zbN (by simp)]; simp -implicitDefEqProofs (disch := omega) only [z6S, e, getDT, go_sem, *]
theorem zrK (n : Int) : callL G zM [.d (.int .i64 n)] [] = some (.d (.bool (decide (1 ≤ n ∧ n ≤ 8))), []) := by
 by_cases h : 1 ≤ n ∧ n ≤ 8
 · rw [decide_eq_true h]
   rw [zjI zbO (by simp)]; simp -implicitDefEqProofs (disch := omega) only [z6T, getDT, go_sem, *]
 · rw [decide_eq_false h]
   have e : (decide (1 ≤ n) && decide (n ≤ 8)) = false := by simp; omega
   rw [zjI zbO (by simp)]; simp -implicitDefEqProofs (disch := omega) only [z6T, e, getDT, go_sem, *]
def k0S (l w : List Message) (ep lim : Int) (i : Nat) : St := ⟨[(1, .d (.int .i64 ep)), (2, .d (.int .i64 lim)), (8, .d (.int .i64 (cntN (rdQ ep lim) l i))), (9, .d (.int .i64 0)), (10, .d (.sl (l.map eMessage))), (11, .d (.sl (w.map eMessage))), (12, .d (.int .i64 i))], []⟩
theorem zxe (l w : List Message) (ep lim : Int) (h1 : l.length ≤ 24) : ∀ i, i ≤ l.length → loopL G [] l_ref07_Counts_0 (k0S l w ep lim i) = some (.exit 0, ⟨[(1, .d (.int .i64 ep)), (8, .d (.int .i64 (cntN (rdQ ep lim) l l.length))), (9, .d (.int .i64 0)), (11, .d (.sl (w.map eMessage)))], []⟩) := by
 refine zjM (fun i => l.length - i) (fun i => i ≤ l.length) (k0S l w ep lim) _ fun i hi L ih => ?_
 by_cases h0 : i < l.length
 · have i1 := ih (i + 1) (by omega) (by omega)
   clear ih
   have hp := zpR l[i] ep
   have hs := zqe l[i] lim
   have hle := zor (rdQ ep lim) l i
   generalize cntN (rdQ ep lim) l l.length = z at *
   rw [k0S, zos _ h0] at i1
   simp only [k0S, l_ref07_Counts_0]
   generalize cntN (rdQ ep lim) l i = n at *
   generalize w.map eMessage = ww at *
   simp only [eMessage] at hp hs
   unfold rdQ at i1
   by_cases c1 : l[i].epoch < ep
   · simp only [c1, not_true_eq_false, decide_true, decide_false, Bool.false_and, Bool.false_eq_true, if_false, Nat.add_zero] at i1 hp
     simp only [Int.natCast_add, Int.natCast_one, Int.natCast_zero, Int.natCast_mul, Int.cast_ofNat_Int, List.length_append, List.length_map, List.map_nil, List.length_nil, List.map_append, List.map_cons, List.length_cons, Nat.zero_add, srcO, mapSet] at i1
     simp -implicitDefEqProofs (disch := omega) only [eMessage, getDT, go_sem, *]
   · by_cases c2 : lim ≤ l[i].count
     · simp only [c1, c2, not_true_eq_false, not_false_eq_true, decide_true, decide_false, Bool.and_false, Bool.false_eq_true, if_false, Nat.add_zero] at i1 hp hs
       simp only [Int.natCast_add, Int.natCast_one, Int.natCast_zero, Int.natCast_mul, Int.cast_ofNat_Int, List.length_append, List.length_map, List.map_nil, List.length_nil, List.map_append, List.map_cons, List.length_cons, Nat.zero_add, srcO, mapSet] at i1
       simp -implicitDefEqProofs (disch := omega) only [eMessage, getDT, go_sem, *]
     · simp only [c1, c2, not_false_eq_true, decide_true, decide_false, Bool.and_self, if_true] at i1 hp hs
       simp only [Int.natCast_add, Int.natCast_one, Int.natCast_zero, Int.natCast_mul, Int.cast_ofNat_Int, List.length_append, List.length_map, List.map_nil, List.length_nil, List.map_append, List.map_cons, List.length_cons, Nat.zero_add, srcO, mapSet] at i1
       simp -implicitDefEqProofs (disch := omega) only [eMessage, getDT, go_sem, *]
 · clear ih
   have : i = l.length := by omega
   subst this
   simp only [k0S, l_ref07_Counts_0]
   simp -implicitDefEqProofs (disch := omega) only [getDT, go_sem, *]
def k1S (w : List Message) (ep n : Int) (i : Nat) : St := ⟨[(1, .d (.int .i64 ep)), (8, .d (.int .i64 n)), (9, .d (.int .i64 (cntN (mQ ep) w i))), (11, .d (.sl (w.map eMessage))), (13, .d (.int .i64 i))], []⟩
theorem zxf (w : List Message) (ep n : Int) (h1 : w.length ≤ 24) : ∀ i, i ≤ w.length → loopL G [] l_ref07_Counts_1 (k1S w ep n i) = some (.exit 2, ⟨[(8, .d (.int .i64 n)), (9, .d (.int .i64 (cntN (mQ ep) w w.length)))], []⟩) := by
 refine zjM (fun i => w.length - i) (fun i => i ≤ w.length) (k1S w ep n) _ fun i hi L ih => ?_
 by_cases h0 : i < w.length
 · have i1 := ih (i + 1) (by omega) (by omega)
   clear ih
   have hp := zpR w[i] ep
   have hle := zor (mQ ep) w i
   generalize cntN (mQ ep) w w.length = z at *
   rw [k1S, zos _ h0] at i1
   simp only [k1S, l_ref07_Counts_1]
   generalize cntN (mQ ep) w i = q at *
   simp only [eMessage] at hp
   unfold mQ at i1
   by_cases c1 : w[i].epoch < ep
   · simp only [c1, not_true_eq_false, decide_true, decide_false, Bool.false_eq_true, if_false, Nat.add_zero] at i1 hp
     simp only [Int.natCast_add, Int.natCast_one, Int.natCast_zero, Int.natCast_mul, Int.cast_ofNat_Int, List.length_append, List.length_map, List.map_nil, List.length_nil, List.map_append, List.map_cons, List.length_cons, Nat.zero_add, srcO, mapSet] at i1
     simp -implicitDefEqProofs (disch := omega) only [eMessage, getDT, go_sem, *]
   · simp only [c1, not_false_eq_true, decide_true, decide_false, if_true] at i1 hp
     simp only [Int.natCast_add, Int.natCast_one, Int.natCast_zero, Int.natCast_mul, Int.cast_ofNat_Int, List.length_append, List.length_map, List.map_nil, List.length_nil, List.map_append, List.map_cons, List.length_cons, Nat.zero_add, srcO, mapSet] at i1
     simp -implicitDefEqProofs (disch := omega) only [eMessage, getDT, go_sem, *]
 · clear ih
   have : i = w.length := by omega
   subst this
   simp only [k1S, l_ref07_Counts_1]
   simp -implicitDefEqProofs (disch := omega) only [getDT, go_sem, *]
def cntD (s : Shard) (ep lim : Int) : Int × Int :=
 if liveV s = 0 ∧ (0 ≤ ep ∧ ep ≤ 65536) ∧ 1 ≤ lim ∧ lim ≤ 8 then ((cntN (rdQ ep lim) (ordD s.ready) (ordD s.ready).length : Nat), (cntN (lsQ ep) s.leases.l s.leases.l.length : Nat)) else (0, 0)
theorem zrO {s : Shard} (h : liveV s = 0) : ringV s.ready = 0 ∧ tabV s.leases = 0 := by
 have h0 : shardV s = 0 := Classical.byContradiction fun hc => by unfold liveV at h; rw [if_pos hc] at h; exact hc h
 by_cases e1 : ringV s.ready = 0
 · refine ⟨e1, Classical.byContradiction fun e2 => ?_⟩
   unfold shardV at h0
   rw [if_neg (fun hc => hc e1), if_pos e2] at h0
   exact e2 h0
 · unfold shardV at h0
   rw [if_pos e1] at h0
   exact absurd h0 e1
theorem zuI (s : Shard) (ep lim : Int) (h1 : s.ready.cells.length ≤ 4294967296) (h2 : s.leases.l.length ≤ 4294967296) (h3 : s.leases.heap.length ≤ 4294967296) : callL G z0j [.d (eShard s), .d (.int .i64 ep), .d (.int .i64 lim)] [] = some (.d (.tup [.int .i64 (cntD s ep lim).1, .int .i64 (cntD s ep lim).2]), []) := by
 have he := zl1 ep
 have hli := zwY lim
 have hu := zAX s (decide (0 ≤ ep ∧ ep ≤ 65536)) (decide (1 ≤ lim ∧ lim ≤ 8)) h1 h2 h3
 by_cases c : liveV s = 0 ∧ (0 ≤ ep ∧ ep ≤ 65536) ∧ 1 ≤ lim ∧ lim ≤ 8
 · unfold cntD
   rw [if_pos c]
   obtain ⟨c0, c1, c2⟩ := c
   rw [decide_eq_true c1] at he hu
   rw [decide_eq_true c2] at hli hu
   rw [if_neg (fun hc => hc c0)] at hu
   simp only [Bool.and_self, if_true] at hu
   obtain ⟨e1, e2⟩ := zrO c0
   have hl := tl_len e2
   have hb : (ordD s.ready).length ≤ 24 := by
    rw [zke]
    obtain ⟨a1, a2, a3, a4, a5, a6⟩ := zjR e1
    omega
   have hr := zq7 e1
   have hl0 := zu4 s (ordD s.ready) ep lim hb 0 (by omega)
   generalize hn : cntN (rdQ ep lim) (ordD s.ready) (ordD s.ready).length = n at *
   have hl1 := zu5 s.leases.l ep n (by omega) 0 (by omega)
   simp only [c0S, cntN, List.take_zero, List.filter_nil, List.length_nil] at hl0
   simp only [c1S, cntN, List.take_zero, List.filter_nil, List.length_nil] at hl1
   clear hn c0 e1 e2
   generalize ordD s.ready = w at *
   simp only [cntN]
   obtain ⟨lv, lo, hi, ⟨cs, h, z⟩, ⟨tl, th⟩⟩ := s
   simp only [eShard, eRing] at hu hr hl0 hl1 hl h1 h2 h3 ⊢
   simp only [Int.natCast_add, Int.natCast_one, Int.natCast_zero, Int.natCast_mul, Int.cast_ofNat_Int, List.length_append, List.length_map, List.map_nil, List.length_nil, List.map_append, List.map_cons, List.length_cons, Nat.zero_add, srcO, mapSet] at hl0 hl1
   rw [zjI zbX (by simp)]; simp -implicitDefEqProofs (disch := omega) only [z6X, getDT, go_sem, *]
 · unfold cntD
   rw [if_neg c]
   have hz : ¬ (if liveV s ≠ 0 then liveV s else if (decide (0 ≤ ep ∧ ep ≤ 65536) && decide (1 ≤ lim ∧ lim ≤ 8)) = true then 0 else 1) = 0 := by
    intro hc
    split at hc
    · rename_i hh; exact hh hc
    · rename_i hh
      split at hc
      · rename_i h5
        simp only [Bool.and_eq_true, decide_eq_true_eq] at h5
        exact c ⟨Classical.not_not.1 hh, h5.1, h5.2⟩
      · cases hc
   generalize (if liveV s ≠ 0 then liveV s else if (decide (0 ≤ ep ∧ ep ≤ 65536) && decide (1 ≤ lim ∧ lim ≤ 8)) = true then 0 else 1) = q at *
   generalize decide (0 ≤ ep ∧ ep ≤ 65536) = b1 at *
   generalize decide (1 ≤ lim ∧ lim ≤ 8) = b2 at *
   clear c
   simp only [eShard] at hu ⊢
   rw [zjI zbX (by simp)]; simp -implicitDefEqProofs (disch := omega) only [z6X, getDT, go_sem, *]
theorem zuH (s : Shard) (ep lim : Int) (h1 : s.ready.cells.length ≤ 4294967296) (h2 : s.leases.l.length ≤ 4294967296) (h3 : s.leases.heap.length ≤ 4294967296) : callL G z0a [.d (eShard s), .d (.int .i64 ep), .d (.int .i64 lim)] [] = some (.d (.tup [.int .i64 (cntD s ep lim).1, .int .i64 (cntD s ep lim).2]), []) := by
 have he := ep7_ok ep
 have hli := zrK lim
 have hu := zng s h1 h2 h3
 by_cases c : liveV s = 0 ∧ (0 ≤ ep ∧ ep ≤ 65536) ∧ 1 ≤ lim ∧ lim ≤ 8
 · unfold cntD
   rw [if_pos c]
   obtain ⟨c0, c1, c2⟩ := c
   rw [decide_eq_true c1] at he
   rw [decide_eq_true c2] at hli
   rw [c0] at hu
   obtain ⟨e1, e2⟩ := zrO c0
   have hl := tl_len e2
   have hb : (ordD s.ready).length ≤ 24 := by
    rw [zke]
    obtain ⟨a1, a2, a3, a4, a5, a6⟩ := zjR e1
    omega
   have hr := zpV e1
   have hle := zrI hl
   have hl0 := zxe (ordD s.ready) (s.leases.l.map (·.msg)) ep lim hb 0 (by omega)
   generalize hn : cntN (rdQ ep lim) (ordD s.ready) (ordD s.ready).length = n at *
   have hl1 := zxf (s.leases.l.map (·.msg)) ep n (by simp; omega) 0 (by omega)
   rw [zur ep s.leases.l, List.length_map] at hl1
   simp only [k0S, cntN, List.take_zero, List.filter_nil, List.length_nil] at hl0
   simp only [k1S, cntN, List.take_zero, List.filter_nil, List.length_nil] at hl1
   clear hn c0 e1 e2
   generalize ordD s.ready = w at *
   generalize s.leases.l.map (·.msg) = w2 at *
   simp only [cntN]
   obtain ⟨lv, lo, hi, ⟨cs, h, z⟩, ⟨tl, th⟩⟩ := s
   simp only [eShard] at hu hr hle hl0 hl1 hl h1 h2 h3 ⊢
   simp only [Int.natCast_add, Int.natCast_one, Int.natCast_zero, Int.natCast_mul, Int.cast_ofNat_Int, List.length_append, List.length_map, List.map_nil, List.length_nil, List.map_append, List.map_cons, List.length_cons, Nat.zero_add, srcO, mapSet] at hl0 hl1
   rw [zjI z6b (by simp)]; simp -implicitDefEqProofs (disch := omega) only [z3d, getDT, go_sem, *]
 · unfold cntD
   rw [if_neg c]
   by_cases c0 : liveV s = 0
   · rw [c0] at hu
     by_cases c1 : 0 ≤ ep ∧ ep ≤ 65536
     · rw [decide_eq_true c1] at he
       rw [decide_eq_false (fun hc => c ⟨c0, c1, hc⟩)] at hli
       clear c c0
       simp only [eShard] at hu ⊢
       rw [zjI z6b (by simp)]; simp -implicitDefEqProofs (disch := omega) only [z3d, getDT, go_sem, *]
     · rw [decide_eq_false c1] at he
       clear c c0
       simp only [eShard] at hu ⊢
       rw [zjI z6b (by simp)]; simp -implicitDefEqProofs (disch := omega) only [z3d, getDT, go_sem, *]
   · clear c
     generalize liveV s = v at *
     simp only [eShard] at hu ⊢
     rw [zjI z6b (by simp)]; simp -implicitDefEqProofs (disch := omega) only [z3d, getDT, go_sem, *]
end Go.Proofs.YtcjncbkhbllchaaGreat

namespace Go.Proofs.YtcjncbkhbllchaaGreat.L
open Go Go.Sim Go.Proofs.YtcjncbkhbllchaaGreat
def bigS (s : Shard) : Prop := s.ready.cells.length ≤ 4294967296 ∧ s.leases.l.length ≤ 4294967296 ∧ s.leases.heap.length ≤ 4294967296
theorem ti7_ok (n : Int) : callL G z2w [.d (.int .i64 n)] [] = some (.d (.bool (tiQ n)), []) := by
 unfold tiQ
 by_cases h : 0 ≤ n ∧ n ≤ 1073741824
 · rw [decide_eq_true h]; obtain ⟨h1, h2⟩ := h; rw [zjI z6e (by simp)]; simp -implicitDefEqProofs (disch := omega) only [z3V, getDT, go_sem, *]
 · rw [decide_eq_false h]
   by_cases h1 : 0 ≤ n
   · have h2 : ¬ n ≤ 1073741824 := by omega
     clear h; rw [zjI z6e (by simp)]; simp -implicitDefEqProofs (disch := omega) only [z3V, getDT, go_sem, *]
   · clear h; rw [zjI z6e (by simp)]; simp -implicitDefEqProofs (disch := omega) only [z3V, getDT, go_sem, *]
theorem vi7_ok (n : Int) : callL G z2x [.d (.int .i64 n)] [] = some (.d (.bool (viQ n)), []) := by
 unfold viQ
 by_cases h : 0 ≤ n ∧ n ≤ 1000
 · rw [decide_eq_true h]; obtain ⟨h1, h2⟩ := h; rw [zjI z6f (by simp)]; simp -implicitDefEqProofs (disch := omega) only [z3W, getDT, go_sem, *]
 · rw [decide_eq_false h]
   by_cases h1 : 0 ≤ n
   · have h2 : ¬ n ≤ 1000 := by omega
     clear h; rw [zjI z6f (by simp)]; simp -implicitDefEqProofs (disch := omega) only [z3W, getDT, go_sem, *]
   · clear h; rw [zjI z6f (by simp)]; simp -implicitDefEqProofs (disch := omega) only [z3W, getDT, go_sem, *]
theorem e7_ok (n : Int) : callL Go.Proofs.YtcjncbkhbllchaaGreat.G zK [.d (.int .i64 n)] [] = some (.d (.bool (epQ n)), []) := ep7_ok n
theorem l7_ok (n : Int) : callL Go.Proofs.YtcjncbkhbllchaaGreat.G zM [.d (.int .i64 n)] [] = some (.d (.bool (liQ n)), []) := zrK n
theorem zuR {s : Shard} (h : shardV s = 0) (hl : s.live = false) : s.ready.size = 0 ∧ s.leases.l = [] := by
 have h1 : ringV s.ready = 0 := by
  unfold shardV at h
  split at h
  · rename_i c; exact absurd h c
  · rename_i c; exact Classical.not_not.1 c
 have hz := (zjR h1)
 have h2 : tabV s.leases = 0 := by
  have q := h
  unfold shardV at q
  rw [if_neg (fun c => c h1)] at q
  split at q
  · rename_i c; exact absurd q c
  · rename_i c; exact Classical.not_not.1 c
 rw [znJ h1 h2, if_pos hl] at h
 split at h
 · cases h
 · rename_i c
   have h3 : s.ready.size + (s.leases.l.length : Int) ≤ 0 := by
    refine Classical.byContradiction fun q => c ?_
    omega
   have h5 := hz.2.2.2.2.1
   exact ⟨by omega, List.eq_nil_of_length_eq_zero (by omega)⟩
theorem ztc (s : Shard) (q : bigS s) : callL G z2s [.d (eShard s)] [] = some (.d (.int .i64 (storD s)), []) := by
 obtain ⟨h1, h2, h3⟩ := q
 have h := zng s h1 h2 h3
 unfold storD
 by_cases c : shardV s = 0
 · rw [if_pos c]
   cases hl : s.live with
   | false =>
    obtain ⟨d1, d2⟩ := zuR c hl
    have hv : liveV s = 7 := by unfold liveV; rw [if_neg (fun q => q c), hl]; rfl
    rw [hv] at h
    rw [d1, d2]
    clear c hv d1 d2
    simp only [eShard, hl] at *
    rw [zjI z6d (by simp)]; simp -implicitDefEqProofs (disch := omega) only [z3U, getDT, go_sem, *]
   | true =>
    have hv : liveV s = 0 := by unfold liveV; rw [if_neg (fun q => q c), hl]; rfl
    have hb : 0 ≤ s.ready.size ∧ s.ready.size ≤ 12 ∧ s.leases.l.length ≤ 12 := by
     have hu : usE s true = 0 := by unfold usE; rw [if_neg (fun q => q hv)]; rfl
     obtain ⟨d1, d2, d3, d4⟩ := zkv hu
     have hz := zjR (znL hu)
     exact ⟨hz.2.2.2.2.1, by have := hz.2.2.2.2.2; omega, d3⟩
    rw [hv] at h
    clear c hv
    obtain ⟨b1, b2, b3⟩ := hb
    simp only [eShard, hl] at *
    rw [zjI z6d (by simp)]; simp -implicitDefEqProofs (disch := omega) only [z3U, getDT, go_sem, *]
 · rw [if_neg c]
   have hv : liveV s ≠ 0 := by unfold liveV; rw [if_pos c]; exact c
   clear c
   generalize liveV s = v at *
   simp only [eShard] at *
   rw [zjI z6d (by simp)]; simp -implicitDefEqProofs (disch := omega) only [z3U, getDT, go_sem, *]
def ownsB (s : Shard) (r : Int) : Bool := decide (liveV s = 0) && decide (s.low ≤ r ∧ r ≤ s.high)
theorem zyQ (s : Shard) (r : Int) (q : bigS s) : callL G z2q [.d (eShard s), .d (.int .i64 r)] [] = some (.d (.bool (ownsB s r)), []) := by
 obtain ⟨h1, h2, h3⟩ := q
 have h := zng s h1 h2 h3
 unfold ownsB
 generalize liveV s = v at *
 by_cases c : v = 0
 · subst c
   rw [decide_eq_true rfl, Bool.true_and]
   by_cases c1 : s.low ≤ r
   · by_cases c2 : r ≤ s.high
     · rw [decide_eq_true ⟨c1, c2⟩]
       simp only [eShard] at *
       rw [zjI z3t (by simp)]; simp -implicitDefEqProofs (disch := omega) only [z3e, getDT, go_sem, *]
     · rw [decide_eq_false (by omega)]
       simp only [eShard] at *
       rw [zjI z3t (by simp)]; simp -implicitDefEqProofs (disch := omega) only [z3e, getDT, go_sem, *]
   · rw [decide_eq_false (by omega)]
     simp only [eShard] at *
     rw [zjI z3t (by simp)]; simp -implicitDefEqProofs (disch := omega) only [z3e, getDT, go_sem, *]
 · rw [decide_eq_false c, Bool.false_and]
   simp only [eShard] at *
   rw [zjI z3t (by simp)]; simp -implicitDefEqProofs (disch := omega) only [z3e, getDT, go_sem, *]
theorem zyR (s : Shard) (r : Int) (q : bigS s) : callL G z2I [.d (eShard s), .d (.int .i64 r)] [] = some (.d (.bool (ownsB s r)), []) := by
 obtain ⟨h1, h2, h3⟩ := q
 have h := zo5 s h1 h2 h3
 have hi := sin_ok r s.low s.high
 unfold ownsB
 generalize liveV s = v at *
 generalize decide (s.low ≤ r ∧ r ≤ s.high) = b at *
 by_cases c : v = 0
 · subst c
   rw [decide_eq_true rfl, Bool.true_and]
   simp only [eShard] at *
   rw [zjI z8B (by simp)]; simp -implicitDefEqProofs (disch := omega) only [z6Z, getDT, go_sem, *]
 · rw [decide_eq_false c, Bool.false_and]
   simp only [eShard] at *
   rw [zjI z8B (by simp)]; simp -implicitDefEqProofs (disch := omega) only [z6Z, getDT, go_sem, *]
theorem zrr (s : Shard) (h : Handle) (now ep : Int) (q : bigS s) : callL G z2n [.d (eShard s), .d (eHandle h), .d (.int .i64 now), .d (.int .i64 ep)] [] = some (.d (.bool (hB s h now ep)), []) := by
 obtain ⟨h1, h2, h3⟩ := q
 have hl := zng s h1 h2 h3
 have e1 := e7_ok ep
 have e2 := ti7_ok now
 have hf := zzc s.leases h.id h2 h3
 have hp := zpR (findT s.leases h.id).1.msg ep
 unfold hB usE holdsB
 generalize liveV s = v at *
 generalize epQ ep = b1 at *
 generalize tiQ now = b2 at *
 generalize findT s.leases h.id = f at *
 obtain ⟨x, b⟩ := f
 by_cases c : v = 0
 · subst c
   cases b1
   · cases b2
     · simp only [eShard, eHandle] at *
       rw [zjI z0F (by simp)]; simp -implicitDefEqProofs (disch := omega) only [z0w, getDT, go_sem, *]
     · simp only [eShard, eHandle] at *
       rw [zjI z0F (by simp)]; simp -implicitDefEqProofs (disch := omega) only [z0w, getDT, go_sem, *]
   · cases b2
     · simp only [eShard, eHandle] at *
       rw [zjI z0F (by simp)]; simp -implicitDefEqProofs (disch := omega) only [z0w, getDT, go_sem, *]
     · simp only [eShard, eHandle, eTable, eLease, eMessage, ne_eq, not_true_eq_false, if_false, if_true, Bool.and_self, decide_true, Bool.true_and] at *
       cases b
       · rw [zjI z0F (by simp)]; simp -implicitDefEqProofs (disch := omega) only [z0w, getDT, go_sem, *]
       · rw [zjI z0F (by simp)]; simp -implicitDefEqProofs (disch := omega) only [z0w, getDT, go_sem, *]
 · have e3 : decide ((if v ≠ 0 then v else if (b2 && b1) = true then 0 else 1) = 0) = false := by rw [if_pos c, decide_eq_false c]
   rw [e3, Bool.false_and]
   clear e3
   simp only [eShard, eHandle] at *
   rw [zjI z0F (by simp)]; simp -implicitDefEqProofs (disch := omega) only [z0w, getDT, go_sem, *]
structure SLP where
 x : Shard
 y : Shard
 mx : Int
 now : Int
 vis : Int
 ep : Int
 lim : Int
 o : List Lease
theorem Holds_ok' (s : Shard) (h : Handle) (now ep : Int) (q : lens12 s) : callL G z0V [.d (eShard s), .d (eHandle h), .d (.int .i64 now), .d (.int .i64 ep)] [] = some (.d (.bool (hB s h now ep)), []) :=
 ztt s h now ep (by have := q.1; omega) q.2.1 q.2.2
theorem zAH (mx d ep lim : Int) : ∀ (l : List Message) (s : Shard) (out : List Lease), (tkF mx d ep lim l s out).2.1.length ≤ out.length + l.length := by
 intro l
 induction l with
 | nil => intro s out; exact Nat.le_refl _
 | cons m l ih =>
  intro s out
  rw [tkF]
  split
  · have := ih s out; simp only [List.length_cons]; omega
  · split
    · exact Nat.zero_le _
    · have := ih (dlvD s m d).1 (out ++ [(dlvD s m d).2.1])
      simp only [List.length_append, List.length_cons, List.length_nil] at this ⊢
      omega
end Go.Proofs.YtcjncbkhbllchaaGreat.L

namespace Go.Proofs.YtcjncbkhbllchaaGreat
open Go Go.Sim
theorem zt9 (s : Shard) (h1 : s.leases.l.length ≤ 12) (h2 : 0 ≤ s.ready.size) (h3 : s.ready.size ≤ 12) (h4 : s.ready.cells.length ≤ 12) : callL G z0p [.d (eShard s)] [] = some (.d (.int .i64 (s.ready.cells.length - (s.ready.size + s.leases.l.length))), []) := by
 have h := zqg s h1 h2 h3
 simp only [eShard] at h ⊢
 rw [zjI zfh (by simp)]; simp -implicitDefEqProofs (disch := omega) only [zaS, getDT, go_sem, *]
theorem hcl_ok (m : Message) (id : Int) : callL G z0Y [.d (eMessage m), .d (.pd (.int .i64 id))] [] = some (.d (.bool (decide (m.id = id))), []) := by
 simp only [eMessage]
 rw [zjI zbZ (by simp)]; simp -implicitDefEqProofs (disch := omega) only [zaO, getDT, go_sem, *]
theorem has_ok (s : Shard) (id : Int) (hr : ringV s.ready = 0) (h1 : s.leases.l.length ≤ 12) : callL G z0l [.d (eShard s), .d (.int .i64 id)] [] = some (.d (.bool ((shMsgs s).any fun m => decide (m.id = id))), []) := by
 have hm := zs4 hr h1
 have hl := zp3 hr h1
 have hc := zuE (shMsgs s) z0Y [.pd (.int .i64 id)] (fun m => decide (m.id = id)) (by omega) (fun a _ => hcl_ok a id)
 generalize ((shMsgs s).any fun m => decide (m.id = id)) = q at *
 generalize shMsgs s = w at *
 clear hr h1
 simp only [eShard] at hm ⊢
 rw [zjI zff (by simp)]; simp -implicitDefEqProofs (disch := omega) only [zaN, getDT, go_sem, *]
end Go.Proofs.YtcjncbkhbllchaaGreat

namespace Go.Proofs.YtcjncbkhbllchaaGreat.L
open Go Go.Sim Go.Proofs.YtcjncbkhbllchaaGreat
theorem zz5 (lo hi : Int) (r : Ring) (m : Message) (hm : msgV m = 0) (hr : lo ≤ m.route ∧ m.route ≤ hi) (hv : ringV r = 0) (hs : r.size < r.cells.length) (hn : ((shMsgs ⟨true, lo, hi, r, zTable⟩).any fun x => decide (x.id = m.id)) = false) (hp : pushR r m = 0) :
    callL G z0o [.d (eShard ⟨true, lo, hi, r, zTable⟩), .d (eMessage m)] [] = some (.d (.tup [eShard ⟨true, lo, hi, (pbD r m).1, zTable⟩, .int .i64 0]), []) := by
 obtain ⟨b1, b2, b3, b4, b5, b6⟩ := zjR hv
 have hv2 := z9C.trans (znk m)
 have hi1 := z9K.trans (sin_ok m.route lo hi)
 have hro := z9M.trans (zt9 ⟨true, lo, hi, r, zTable⟩ (by simp [zTable]) b5 (by simp only; omega) b2)
 have hh := z9J.trans (has_ok ⟨true, lo, hi, r, zTable⟩ m.id hv (by simp [zTable]))
 have hpb := z9I.trans (zp2 r m (by omega))
 have he : (pbD r m).2 = 0 := by unfold pbD; rw [if_pos hp]
 rw [hn] at hh
 rw [hm] at hv2
 rw [decide_eq_true hr] at hi1
 rw [he] at hpb
 have ho := znK ⟨true, lo, hi, r, zTable⟩ b1 b2 (by simp [zTable]) (by simp [zTable])
 generalize (pbD r m).1 = r2 at *
 clear hr hn hp he hv
 obtain ⟨c, h, z⟩ := r
 obtain ⟨c2, h2, z2⟩ := r2
 simp only [eShard, eMessage, eRing, zTable, List.map_nil, List.length_nil, Int.natCast_zero, Int.add_zero] at *
 rw [zjI z0H (by simp)]; simp -implicitDefEqProofs (disch := omega) only [z0z, getDT, go_sem, *]
theorem zAr (s s2 : Shard) (m : Message) (e : Int) (h1 : s.ready.cells.length ≤ 4294967296) (h2 : s.leases.l.length ≤ 4294967296) (h3 : s.leases.heap.length ≤ 4294967296) (hl : liveV s = 0) (hp : callL G z0o [.d (eShard s), .d (eMessage m)] [] = some (.d (.tup [eShard s2, .int .i64 e]), [])) : callL G z0X [.d (eShard s), .d (eMessage m)] [] = some (.d (.tup [eShard s2, .int .i64 e]), []) := by
 have hv := z9L.trans (zo5 s h1 h2 h3)
 rw [hl] at hv
 clear hl
 simp only [eShard, eMessage] at *
 rw [zjI z6i (by simp)]; simp -implicitDefEqProofs (disch := omega) only [z40, getDT, go_sem, *]
theorem zzL (k : Nat) (h1 : 1 ≤ k) (h2 : k ≤ 12) : callL G z2y [.d (.int .i64 k)] [] = some (.d (.tup [eRing ⟨List.replicate k zMessage, 0, 0⟩, .int .i64 0]), []) := by
 have e : List.replicate k (Go.Sim.AV.d (eMessage zMessage)) = (List.replicate k (eMessage zMessage)).map Go.Sim.AV.d := by rw [List.map_replicate]
 simp only [eRing, List.map_replicate]
 simp only [eMessage, zMessage] at e ⊢
 rw [zjI zbP (by simp)]; simp -implicitDefEqProofs (disch := omega) only [zaF, List.length_replicate, Nat.min_self, List.take_replicate, getDT, go_sem, *]
theorem zAm (k : Nat) (h1 : 1 ≤ k) (h2 : k ≤ 12) : callL G z0W [.d (.int .i64 k), .d (.int .i64 0), .d (.int .i64 65535)] [] = some (.d (.tup [eShard ⟨true, 0, 65535, ⟨List.replicate k zMessage, 0, 0⟩, zTable⟩, .int .i64 0]), []) := by
 have hr := zzL k h1 h2
 have hs := zeT.trans (zt5 0 65535)
 simp only [show (decide ((0 : Int) ≤ 0 ∧ (0 : Int) ≤ 65535 ∧ (65535 : Int) < 65536)) = true from by decide] at hs
 simp only [eShard, eRing, zTable, List.map_nil] at *
 generalize (List.replicate k zMessage).map eMessage = c at *
 rw [zjI zbY (by simp)]; simp -implicitDefEqProofs (disch := omega) only [zaM, getDT, go_sem, *]
def putD (s : Shard) (m : Message) : Shard × Int :=
 if liveV s ≠ 0 then (zShard, liveV s) else if msgV m ≠ 0 then (zShard, msgV m) else if ¬ (s.low ≤ m.route ∧ m.route ≤ s.high) then (zShard, 12)
 else if s.ready.size + s.leases.l.length = s.ready.cells.length then (zShard, 3) else if ((shMsgs s).any fun x => decide (x.id = m.id)) = true then (zShard, 10) else ({ s with ready := (pbD s.ready m).1 }, 0)
theorem ztG (l : List Message) (id : Int) : (l.any fun m => decide (m.id = id)) = decide (0 ≤ fstI l id) := by
 by_cases h : ∃ m ∈ l, m.id = id
 · rw [decide_eq_true (zrh h)]
   obtain ⟨m, hm, e⟩ := h
   exact List.any_eq_true.2 ⟨m, hm, by simp [e]⟩
 · have : fstI l id < 0 := by
    unfold fstI
    rw [znv]
    intro m hm
    have : ¬ m.id = id := fun e => h ⟨m, hm, e⟩
    simp [this]
   rw [decide_eq_false (by omega)]
   refine Bool.eq_false_iff.2 fun q => h ?_
   obtain ⟨m, hm, e⟩ := List.any_eq_true.1 q
   exact ⟨m, hm, of_decide_eq_true e⟩
theorem zpE {s : Shard} (h : liveV s = 0) : usE s true = 0 := by unfold usE; rw [if_neg (fun q => q h)]; rfl
theorem zz6 {s : Shard} {m : Message} (hl : liveV s = 0) (hm : msgV m = 0) (hr : s.low ≤ m.route ∧ m.route ≤ s.high) (hz : ¬ s.ready.size + s.leases.l.length = s.ready.cells.length) (hn : ((shMsgs s).any fun x => decide (x.id = m.id)) = false) : (pbD s.ready m).2 = 0 := by
 obtain ⟨hv, hlv⟩ := zkf (zpE hl)
 obtain ⟨n, h, e, v⟩ := vs_of hv hlv
 have hlen := v.2.2.2.1
 have hsz : s.ready.size = ((ordD s.ready).length : Int) := congrArg (fun x : Shard => x.ready.size) e
 have hcl : s.ready.cells.length = n := by rw [e]; exact zog _ _ _
 have hid : m.id ∉ idsS (ordD s.ready) s.leases := by
  intro q
  have q2 : m.id ∈ allIds s := by rw [e, v.AI]; exact q
  obtain ⟨x, hx, ex⟩ := List.mem_map.1 q2
  have := List.any_eq_false.1 hn x hx
  simp [ex] at this
 generalize ordD s.ready = L at *
 generalize s.leases = t at *
 generalize s.low = lo at *
 generalize s.high = hi at *
 obtain ⟨h', L', q1, _⟩ := v.back hm hr (by omega) hid m.count
 rw [← zyT] at q1
 rw [e, q1]
theorem put_ok (s : Shard) (m : Message) (q : bigS s) : callL G z0X [.d (eShard s), .d (eMessage m)] [] = some (.d (.tup [eShard (putD s m).1, .int .i64 (putD s m).2]), []) := by
 have hlv := z9L.trans (zo5 s q.1 q.2.1 q.2.2)
 by_cases c0 : liveV s = 0
 · have hu := zpE c0
   obtain ⟨d1, d2, d3, d4⟩ := zkv hu
   have hring := znL hu
   have hz := zjR hring
   have hroom := z9M.trans (zt9 s d3 hz.2.2.2.2.1 (by have := hz.2.2.2.2.2; omega) d2)
   have hhas := z9J.trans (has_ok s m.id hring d3)
   have hv2 := z9C.trans (znk m)
   have hin := z9K.trans (sin_ok m.route s.low s.high)
   have hown := znK s d1 d2 d3 d4
   have hpb := z9I.trans (zp2 s.ready m (by omega))
   have hpe := zz6 (s := s) (m := m) c0
   have hsz : s.ready.size ≤ 12 ∧ 0 ≤ s.ready.size := ⟨by have := hz.2.2.2.2.2; omega, hz.2.2.2.2.1⟩
   have hput : callL G z0o [.d (eShard s), .d (eMessage m)] [] = some (.d (.tup [eShard (putD s m).1, .int .i64 (putD s m).2]), []) := by
    unfold putD
    rw [if_neg (fun q => q c0)]
    clear hlv hu hring hz q c0
    by_cases c1 : msgV m = 0
    · rw [if_neg (fun q => q c1)]
      rw [c1] at hv2
      by_cases c2 : s.low ≤ m.route ∧ m.route ≤ s.high
      · rw [if_neg (fun q => q c2)]
        rw [decide_eq_true c2] at hin
        by_cases c3 : s.ready.size + s.leases.l.length = s.ready.cells.length
        · rw [if_pos c3]
          have c4 : (s.ready.cells.length : Int) - (s.ready.size + s.leases.l.length) = 0 := by omega
          rw [c4] at hroom
          clear hpe hpb hown hhas c1 c2 c3 c4
          obtain ⟨lv, lo, hi, ⟨c, h, z⟩, ⟨tl, th⟩⟩ := s
          simp only [eShard, eMessage, zShard, List.map_nil] at *
          rw [zjI z0H (by simp)]; simp -implicitDefEqProofs (disch := omega) only [z0z, getDT, go_sem, *]
        · rw [if_neg c3]
          have c4 : (s.ready.cells.length : Int) - (s.ready.size + s.leases.l.length) ≠ 0 := by omega
          have hpe := hpe c1 c2 c3
          generalize (s.ready.cells.length : Int) - (s.ready.size + s.leases.l.length) = rm at *
          cases c5 : ((shMsgs s).any fun x => decide (x.id = m.id)) with
          | true =>
           rw [if_pos rfl]
           rw [c5] at hhas
           clear hpe hpb hown c1 c2 c3 c5
           obtain ⟨lv, lo, hi, ⟨c, h, z⟩, ⟨tl, th⟩⟩ := s
           simp only [eShard, eMessage, zShard, List.map_nil] at *
           rw [zjI z0H (by simp)]; simp -implicitDefEqProofs (disch := omega) only [z0z, getDT, go_sem, *]
          | false =>
           rw [if_neg (by simp)]
           rw [c5] at hhas
           rw [hpe c5] at hpb
           clear hpe c1 c2 c3 c5
           generalize (pbD s.ready m).1 = r2 at *
           obtain ⟨lv, lo, hi, ⟨c, h, z⟩, ⟨tl, th⟩⟩ := s
           obtain ⟨c2, h2, z2⟩ := r2
           simp only [eShard, eMessage, eRing, zShard, List.map_nil] at *
           rw [zjI z0H (by simp)]; simp -implicitDefEqProofs (disch := omega) only [z0z, getDT, go_sem, *]
      · rw [if_pos c2]
        rw [decide_eq_false c2] at hin
        clear hpe hpb hown hhas hroom c1 c2
        obtain ⟨lv, lo, hi, ⟨c, h, z⟩, ⟨tl, th⟩⟩ := s
        simp only [eShard, eMessage, zShard, List.map_nil] at *
        rw [zjI z0H (by simp)]; simp -implicitDefEqProofs (disch := omega) only [z0z, getDT, go_sem, *]
    · rw [if_pos c1]
      clear hpe hpb hown hhas hroom hin
      generalize msgV m = mv at *
      obtain ⟨lv, lo, hi, ⟨c, h, z⟩, ⟨tl, th⟩⟩ := s
      simp only [eShard, eMessage, zShard, List.map_nil] at *
      rw [zjI z0H (by simp)]; simp -implicitDefEqProofs (disch := omega) only [z0z, getDT, go_sem, *]
   rw [c0] at hlv
   clear hroom hhas hv2 hin hown hpb hpe hsz hz hring hu c0 q
   generalize putD s m = p at *
   obtain ⟨s2, e⟩ := p
   simp only [eShard, eMessage] at *
   rw [zjI z6i (by simp)]; simp -implicitDefEqProofs (disch := omega) only [z40, getDT, go_sem, *]
 · have e : putD s m = (zShard, liveV s) := by unfold putD; rw [if_pos c0]
   rw [e]
   clear e
   generalize liveV s = v at *
   simp only [eShard, eMessage, zShard, List.map_nil] at *
   rw [zjI z6i (by simp)]; simp -implicitDefEqProofs (disch := omega) only [z40, getDT, go_sem, *]
theorem zz4 (s : Shard) (m : Message) (q : bigS s) : callL G z2r [.d (eShard s), .d (eMessage m)] [] = some (.d (.tup [eShard (putD s m).1, .int .i64 (putD s m).2]), []) := by
 have hlv := z6z.trans (zng s q.1 q.2.1 q.2.2)
 unfold putD
 by_cases c0 : liveV s = 0
 · rw [if_neg (fun q => q c0)]
   have hu := zpE c0
   obtain ⟨d1, d2, d3, d4⟩ := zkv hu
   have hring := znL hu
   have hz := zjR hring
   have hv2 := z9E.trans (znG m)
   have hst := ztc s q
   have hsv : storD s = s.ready.size + s.leases.l.length := by unfold storD; rw [if_pos (zkf hu).1]
   rw [hsv] at hst
   have hall := zeM.trans (zqy hring d3)
   have hlm := zp3 hring d3
   have hix := zeH.trans (zo1 (shMsgs s) m.id (by omega))
   have haf := ztG (shMsgs s) m.id
   have hpb := z9F.trans (zsy s.ready m (by omega))
   have hsz : s.ready.size ≤ 12 ∧ 0 ≤ s.ready.size := ⟨by have := hz.2.2.2.2.2; omega, hz.2.2.2.2.1⟩
   rw [c0] at hlv
   rw [haf]
   clear hu hring hz hsv haf c0 q
   by_cases c1 : msgV m = 0
   · rw [if_neg (fun q => q c1)]
     rw [c1] at hv2
     by_cases c2 : s.low ≤ m.route ∧ m.route ≤ s.high
     · rw [if_neg (fun q => q c2)]
       obtain ⟨c21, c22⟩ := c2
       by_cases c3 : s.ready.size + s.leases.l.length = s.ready.cells.length
       · rw [if_pos c3]
         rw [c3] at hst
         clear hpb hix hall c1 c3
         obtain ⟨lv, lo, hi, ⟨c, h, z⟩, ⟨tl, th⟩⟩ := s
         simp only [eShard, eMessage, zShard, List.map_nil] at *
         rw [zjI zR (by simp)]; simp -implicitDefEqProofs (disch := omega) only [zO, getDT, go_sem, *]
       · rw [if_neg c3]
         generalize fstI (shMsgs s) m.id = fi at *
         generalize shMsgs s = w at *
         obtain ⟨sz, esz⟩ : ∃ sz, s.ready.size + s.leases.l.length = sz := ⟨_, rfl⟩
         rw [esz] at hst c3
         clear esz
         by_cases c5 : 0 ≤ fi
         · rw [decide_eq_true c5, if_pos rfl]
           clear hpb c1
           obtain ⟨lv, lo, hi, ⟨c, h, z⟩, ⟨tl, th⟩⟩ := s
           simp only [eShard, eMessage, zShard, List.map_nil] at *
           rw [zjI zR (by simp)]; simp -implicitDefEqProofs (disch := omega) only [zO, getDT, go_sem, *]
         · rw [decide_eq_false c5, if_neg (by simp)]
           clear c1
           generalize pbD s.ready m = p at *
           obtain ⟨r2, e2⟩ := p
           obtain ⟨lv, lo, hi, ⟨c, h, z⟩, ⟨tl, th⟩⟩ := s
           obtain ⟨c2, h2, z2⟩ := r2
           simp only [eShard, eMessage, eRing, zShard, List.map_nil] at *
           rw [zjI zR (by simp)]; simp -implicitDefEqProofs (disch := omega) only [zO, getDT, go_sem, *]
     · rw [if_pos c2]
       clear hpb hix hall hst c1
       obtain ⟨lv, lo, hi, ⟨c, h, z⟩, ⟨tl, th⟩⟩ := s
       simp only [eShard, eMessage, zShard, List.map_nil] at *
       by_cases c3 : m.route < lo
       · rw [zjI zR (by simp)]; simp -implicitDefEqProofs (disch := omega) only [zO, getDT, go_sem, *]
       · have c4 : hi < m.route := by omega
         clear c2
         rw [zjI zR (by simp)]; simp -implicitDefEqProofs (disch := omega) only [zO, getDT, go_sem, *]
   · rw [if_pos c1]
     clear hpb hix hall hst
     generalize msgV m = mv at *
     obtain ⟨lv, lo, hi, ⟨c, h, z⟩, ⟨tl, th⟩⟩ := s
     simp only [eShard, eMessage, zShard, List.map_nil] at *
     rw [zjI zR (by simp)]; simp -implicitDefEqProofs (disch := omega) only [zO, getDT, go_sem, *]
 · rw [if_pos c0]
   generalize liveV s = v at *
   simp only [eShard, eMessage, zShard, List.map_nil] at *
   rw [zjI zR (by simp)]; simp -implicitDefEqProofs (disch := omega) only [zO, getDT, go_sem, *]
def hldE (s : Shard) (h : Handle) (now ep : Int) (b : Bool) : Int := if usE s (tiQ now && (epQ ep && b)) ≠ 0 then usE s (tiQ now && (epQ ep && b)) else if holdsB s h now ep = true then 0 else 5
theorem zpx (s : Shard) (h : Handle) (now ep : Int) (b : Bool) (q : bigS s) : callL G z2u [.d (eShard s), .d (eHandle h), .d (.int .i64 now), .d (.int .i64 ep), .d (.bool b)] [] = some (.d (.int .i64 (hldE s h now ep b)), []) := by
 have hl := z6z.trans (zng s q.1 q.2.1 q.2.2)
 have e1 := z9G.trans (e7_ok ep)
 have e2 := ti7_ok now
 have hh := zrr s h now ep q
 unfold hldE usE
 unfold hB usE at hh
 generalize liveV s = v at *
 generalize epQ ep = b1 at *
 generalize tiQ now = b2 at *
 generalize holdsB s h now ep = hb at *
 by_cases c : v = 0
 · subst c
   cases b1
   · cases b2 <;> cases b
     all_goals
      simp only [Bool.and_false, Bool.false_and, Bool.and_self, Bool.false_eq_true, ne_eq, not_true_eq_false, if_false, not_false_eq_true, if_true] at *
      clear hh
      simp only [eShard, eHandle] at *
     all_goals (rw [zjI z0G (by simp)]; simp -implicitDefEqProofs (disch := omega) only [z0x, getDT, go_sem, *])
   · cases b2
     · cases b
       all_goals
        simp only [Bool.and_false, Bool.false_and, Bool.and_self, Bool.false_eq_true, ne_eq, not_true_eq_false, if_false, not_false_eq_true, if_true] at *
        clear hh
        simp only [eShard, eHandle] at *
       all_goals (rw [zjI z0G (by simp)]; simp -implicitDefEqProofs (disch := omega) only [z0x, getDT, go_sem, *])
     · cases b
       · clear hh
         simp only [eShard, eHandle] at *
         rw [zjI z0G (by simp)]; simp -implicitDefEqProofs (disch := omega) only [z0x, getDT, go_sem, *]
       · simp only [Bool.and_self, ne_eq, not_true_eq_false, if_false, if_true, decide_true, Bool.true_and] at *
         simp only [eShard, eHandle] at *
         cases hb
         · rw [zjI z0G (by simp)]; simp -implicitDefEqProofs (disch := omega) only [z0x, getDT, go_sem, *]
         · rw [zjI z0G (by simp)]; simp -implicitDefEqProofs (disch := omega) only [z0x, getDT, go_sem, *]
 · clear hh
   rw [if_pos c, if_pos c]
   simp only [eShard, eHandle] at *
   rw [zjI z0G (by simp)]; simp -implicitDefEqProofs (disch := omega) only [z0x, getDT, go_sem, *]
theorem hld_ok {s : Shard} {h : Handle} {now ep : Int} {b : Bool} (c : usE s (tiQ now && (epQ ep && b)) = 0) : hldE s h now ep b = if holdsB s h now ep = true then 0 else 5 := by
 unfold hldE
 rw [if_neg (fun q => q c)]
theorem zpy {s : Shard} {h : Handle} {now ep : Int} {b : Bool} (c : usE s (tiQ now && (epQ ep && b)) ≠ 0) : hldE s h now ep b = usE s (tiQ now && (epQ ep && b)) := by
 unfold hldE
 rw [if_pos c]
theorem znY {s : Shard} {h : Handle} {now ep : Int} {b : Bool} (q : hldE s h now ep b = 0) : usE s (tiQ now && (epQ ep && b)) = 0 ∧ holdsB s h now ep = true := by
 unfold hldE at q
 split at q
 · rename_i c; exact absurd q c
 · rename_i c
   split at q
   · rename_i c2; exact ⟨Classical.not_not.1 c, c2⟩
   · cases q
theorem zoD {s : Shard} {h : Handle} {now ep : Int} {b : Bool} (q : hldE s h now ep b = 0) : (relD s.leases h.id).2.2 = 0 ∧ lens12 s := by
 obtain ⟨q1, q2⟩ := znY q
 have hv := (zkf q1).1
 have ht : tabV s.leases = 0 := by
  obtain ⟨n, h', e, v⟩ := vs_of hv (zkf q1).2
  exact v.2.2.2.2.2.2.2.2.1
 obtain ⟨d1, d2, d3, d4⟩ := zkv q1
 obtain ⟨y, hy, e⟩ := znZ q2
 exact ⟨(zq3 ht).2 ((zl0 (l := s.leases.l) h.id).2 ⟨y, hy, e⟩), d2, d3, d4⟩
theorem zqv (s : Shard) (h : Handle) (now ep : Int) : ackD s h now ep = if hldE s h now ep true = 0 then ((relS s h.id).1, (relS s h.id).2.2) else (zShard, hldE s h now ep true) := by
 by_cases c : usE s (tiQ now && (epQ ep && true)) = 0
 · rw [hld_ok c]
   rw [Bool.and_true] at c
   unfold ackD
   rw [if_neg (fun q => q c)]
   cases holdsB s h now ep
   · rfl
   · rfl
 · rw [zpy c, if_neg c]
   rw [Bool.and_true] at c ⊢
   unfold ackD
   rw [if_pos c]
theorem ztD (s : Shard) (h : Handle) (now ep : Int) (q : bigS s) : callL G z2k [.d (eShard s), .d (eHandle h), .d (.int .i64 now), .d (.int .i64 ep)] [] = some (.d (.tup [eShard (ackD s h now ep).1, .int .i64 (ackD s h now ep).2]), []) := by
 have hh := zpx s h now ep true q
 rw [zqv]
 by_cases c : hldE s h now ep true = 0
 · obtain ⟨r1, r2⟩ := zoD c
   have hr := zsA s.leases h.id q.2.1 q.2.2
   rw [if_pos c]
   rw [c] at hh
   unfold relS
   rw [if_pos r1]
   rw [r1] at hr
   clear c r1
   generalize relD s.leases h.id = r at *
   obtain ⟨t, m, e⟩ := r
   obtain ⟨lv, lo, hi, ⟨c, h', z⟩, ⟨tl, th⟩⟩ := s
   simp only [eShard, eHandle, eTable, eMessage] at *
   rw [zjI z8w (by simp)]; simp -implicitDefEqProofs (disch := omega) only [z6R, getDT, go_sem, *]
 · rw [if_neg c]
   generalize hldE s h now ep true = v at *
   simp only [eShard, eHandle, zShard, List.map_nil] at *
   rw [zjI z8w (by simp)]; simp -implicitDefEqProofs (disch := omega) only [z6R, getDT, go_sem, *]
theorem zsd {s : Shard} {h : Handle} {now ep lim : Int} (q : hldE s h now ep (liQ lim) = 0) : (backD { s with leases := (relD s.leases h.id).1 } (relD s.leases h.id).2.1 lim).2 = 0 := by
 obtain ⟨q1, q2⟩ := znY q
 obtain ⟨r0, _⟩ := zoD q
 obtain ⟨hv, hl⟩ := zkf q1
 obtain ⟨y, hy, ey⟩ := znZ q2
 obtain ⟨n, h', e, v⟩ := vs_of hv hl
 rw [← ey] at r0 ⊢
 clear q q1 q2
 generalize ordD s.ready = L at *
 generalize s.leases = t at *
 generalize s.low = lo at *
 generalize s.high = hi at *
 obtain ⟨t', r1, r2, r3⟩ := v.rel hy
 have hlen := r3.length_eq
 simp only [List.length_cons] at hlen
 have hmv : msgV y.msg = 0 := ((zkj t.l).1 (zk6 v.2.2.2.2.2.2.2.2.1).2.1).2 y hy |>.1
 obtain ⟨h2, L', k1, k2, k3, k4⟩ := r2.back hmv (v.2.2.2.2.2.2.2.2.2.1 y hy) (by have := v.2.2.2.1; omega) (v.gone r3) lim
 have e1 : ({ mkS n h' L t lo hi with leases := (relD t y.msg.id).1 }, (relD t y.msg.id).2.1) = (mkS n h' L t' lo hi, y.msg) := by
  unfold relS at r1
  rw [if_pos (show (relD (mkS n h' L t lo hi).leases y.msg.id).2.2 = 0 from r0)] at r1
  have a1 := congrArg Prod.fst r1
  have a2 := congrArg (fun p => p.2.1) r1
  exact Prod.ext a1 a2
 have e2 := congrArg (fun p : Shard × Message => p.1.leases) e1
 have e3 := congrArg Prod.snd e1
 have er : s.ready = rg n h' L := by rw [e]; rfl
 show (backD ⟨s.live, lo, hi, s.ready, (relD t y.msg.id).1⟩ (relD t y.msg.id).2.1 lim).2 = 0
 change (relD t y.msg.id).1 = t' at e2
 change (relD t y.msg.id).2.1 = y.msg at e3
 rw [hl, er, e2, e3]
 exact congrArg Prod.snd k1
theorem zsc (s : Shard) (h : Handle) (now ep lim : Int) : nackD s h now ep lim = if hldE s h now ep (liQ lim) = 0 then ({ s with leases := (relD s.leases h.id).1, ready := (backD { s with leases := (relD s.leases h.id).1 } (relD s.leases h.id).2.1 lim).1 }, 0) else (zShard, hldE s h now ep (liQ lim)) := by
 by_cases c : hldE s h now ep (liQ lim) = 0
 · rw [if_pos c]
   have hb := zsd c
   obtain ⟨q1, q2⟩ := znY c
   obtain ⟨r0, _⟩ := zoD c
   unfold nackD relS
   rw [if_neg (fun q => q q1), if_pos q2, if_pos r0]
   simp only [ne_eq, not_true_eq_false, if_false, hb]
 · rw [if_neg c]
   by_cases c1 : usE s (tiQ now && (epQ ep && liQ lim)) = 0
   · rw [hld_ok c1] at c ⊢
     unfold nackD
     rw [if_neg (fun q => q c1)]
     cases hb : holdsB s h now ep with
     | true => rw [hb] at c; exact absurd rfl c
     | false => rfl
   · rw [zpy c1]
     unfold nackD
     rw [if_pos c1]
theorem zyd (s : Shard) (h : Handle) (now ep lim : Int) (q : bigS s) : callL G z2p [.d (eShard s), .d (eHandle h), .d (.int .i64 now), .d (.int .i64 ep), .d (.int .i64 lim)] [] = some (.d (.tup [eShard (nackD s h now ep lim).1, .int .i64 (nackD s h now ep lim).2]), []) := by
 have hh := zpx s h now ep (liQ lim) q
 have hli := z9H.trans (l7_ok lim)
 rw [zsc]
 by_cases c : hldE s h now ep (liQ lim) = 0
 · obtain ⟨r1, r2⟩ := zoD c
   have hr := zsA s.leases h.id q.2.1 q.2.2
   rw [if_pos c]
   rw [c] at hh
   rw [r1] at hr
   have hp1 := z9F.trans (zsy s.ready (relD s.leases h.id).2.1 q.1)
   have hp2 := zeJ.trans (zza s.ready (relD s.leases h.id).2.1 q.1)
   have hsp := z9D.trans (zqe (relD s.leases h.id).2.1 lim)
   have hbe := zsd c
   unfold backD at hbe ⊢
   clear c r1
   generalize liQ lim = bl at *
   by_cases c2 : lim ≤ (relD s.leases h.id).2.1.count
   · rw [if_pos c2] at hbe ⊢
     rw [decide_eq_true c2] at hsp
     simp only at hbe
     rw [hbe] at hp1
     clear hp2 hbe c2
     simp only
     generalize (pbD s.ready (relD s.leases h.id).2.1).1 = p at *
     generalize relD s.leases h.id = r at *
     obtain ⟨t, m, e⟩ := r
     obtain ⟨pc, ph, pz⟩ := p
     obtain ⟨lv, lo, hi, ⟨c, h', z⟩, ⟨tl, th⟩⟩ := s
     simp only [eShard, eHandle, eTable, eMessage, eRing] at *
     rw [zjI z6c (by simp)]; simp -implicitDefEqProofs (disch := omega) only [z3T, getDT, go_sem, *]
   · rw [if_neg c2] at hbe ⊢
     rw [decide_eq_false c2] at hsp
     simp only at hbe
     rw [hbe] at hp2
     clear hp1 hbe c2
     simp only
     generalize (pfD s.ready (relD s.leases h.id).2.1).1 = p at *
     generalize relD s.leases h.id = r at *
     obtain ⟨t, m, e⟩ := r
     obtain ⟨pc, ph, pz⟩ := p
     obtain ⟨lv, lo, hi, ⟨c, h', z⟩, ⟨tl, th⟩⟩ := s
     simp only [eShard, eHandle, eTable, eMessage, eRing] at *
     rw [zjI z6c (by simp)]; simp -implicitDefEqProofs (disch := omega) only [z3T, getDT, go_sem, *]
 · rw [if_neg c]
   generalize hldE s h now ep (liQ lim) = v at *
   generalize liQ lim = bl at *
   simp only [eShard, eHandle, zShard, List.map_nil] at *
   rw [zjI z6c (by simp)]; simp -implicitDefEqProofs (disch := omega) only [z3T, getDT, go_sem, *]
theorem zqW (s : Shard) (h : Handle) (now ep vis : Int) : chgD s h now ep vis = if hldE s h now ep (viQ vis) = 0 then (if 1073741824 < now + vis then (zShard, 6) else ({ s with leases := (extD s.leases h.id (now + vis)).1 }, 0)) else (zShard, hldE s h now ep (viQ vis)) := by
 by_cases c : hldE s h now ep (viQ vis) = 0
 · rw [if_pos c]
   obtain ⟨q1, q2⟩ := znY c
   unfold chgD
   rw [if_neg (fun q => q q1), if_pos q2]
   by_cases c2 : 1073741824 < now + vis
   · rw [if_pos c2, if_pos c2]
   · rw [if_neg c2, if_neg c2]
     have hn := us_num q1
     simp only [Bool.and_eq_true, tiQ, viQ, decide_eq_true_eq] at hn
     have ht : tabV s.leases = 0 := by
      obtain ⟨n, h', e, v⟩ := vs_of (zkf q1).1 (zkf q1).2
      exact v.2.2.2.2.2.2.2.2.1
     obtain ⟨y, hy, e⟩ := znZ q2
     have he : (extD s.leases h.id (now + vis)).2 = 0 := (zpp ht).2 ⟨(zl0 (l := s.leases.l) h.id).2 ⟨y, hy, e⟩, by omega, by omega⟩
     rw [he]; rfl
 · rw [if_neg c]
   by_cases c1 : usE s (tiQ now && (epQ ep && viQ vis)) = 0
   · rw [hld_ok c1] at c ⊢
     unfold chgD
     rw [if_neg (fun q => q c1)]
     cases hb : holdsB s h now ep with
     | true => rw [hb] at c; exact absurd rfl c
     | false => rfl
   · rw [zpy c1]
     unfold chgD
     rw [if_pos c1]
theorem zum (s : Shard) (h : Handle) (now ep vis : Int) (q : bigS s) : callL G z2l [.d (eShard s), .d (eHandle h), .d (.int .i64 now), .d (.int .i64 ep), .d (.int .i64 vis)] [] = some (.d (.tup [eShard (chgD s h now ep vis).1, .int .i64 (chgD s h now ep vis).2]), []) := by
 have hh := zpx s h now ep (viQ vis) q
 have hvi := vi7_ok vis
 rw [zqW]
 by_cases c : hldE s h now ep (viQ vis) = 0
 · have hr := zze s.leases h.id (now + vis) q.2.1 q.2.2
   have hn := us_num (znY c).1
   simp only [Bool.and_eq_true, tiQ, viQ, decide_eq_true_eq] at hn
   obtain ⟨n1, n2, n3⟩ := hn
   clear n2
   rw [if_pos c]
   rw [c] at hh
   clear c
   generalize viQ vis = bl at *
   by_cases c2 : 1073741824 < now + vis
   · rw [if_pos c2]
     clear hr
     simp only [eShard, eHandle, zShard, List.map_nil] at *
     rw [zjI z6a (by simp)]; simp -implicitDefEqProofs (disch := omega) only [z3R, getDT, go_sem, *]
   · rw [if_neg c2]
     generalize extD s.leases h.id (now + vis) = r at *
     obtain ⟨t, e⟩ := r
     obtain ⟨lv, lo, hi, ⟨c, h', z⟩, ⟨tl, th⟩⟩ := s
     simp only [eShard, eHandle, eTable] at *
     rw [zjI z6a (by simp)]; simp -implicitDefEqProofs (disch := omega) only [z3R, getDT, go_sem, *]
 · rw [if_neg c]
   generalize hldE s h now ep (viQ vis) = v at *
   generalize viQ vis = bl at *
   simp only [eShard, eHandle, zShard, List.map_nil] at *
   rw [zjI z6a (by simp)]; simp -implicitDefEqProofs (disch := omega) only [z3R, getDT, go_sem, *]
end Go.Proofs.YtcjncbkhbllchaaGreat.L
