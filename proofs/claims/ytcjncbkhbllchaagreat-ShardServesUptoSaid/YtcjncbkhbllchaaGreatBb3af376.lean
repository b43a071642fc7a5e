/-
  Part of the calculus in which the claim is proved: lease
-/
import Derived.Test.YtcjncbkhbllchaaGreatB597af17
import Derived.Test.YtcjncbkhbllchaaGreatBf955c6f
import Derived.Test.YtcjncbkhbllchaaGreatB70c8139
import Derived.Test.YtcjncbkhbllchaaGreatB67c0517
import Derived.Test.YtcjncbkhbllchaaGreatB8368d65
set_option linter.unusedSimpArgs false
set_option linter.unusedVariables false
set_option maxHeartbeats 10000000
set_option maxRecDepth 100000
namespace Go.Proofs.YtcjncbkhbllchaaGreat
open Go Go.Sim
def m7S (s : Shard) (l : List Message) (i : Nat) : St := ⟨[(1, .ref 1 0 0), (6, .d (.sl (l.map eMessage))), (7, .d (.int .i64 i))], [(1, .row [.d (eShard s)])]⟩
def m7R (s : Shard) (l : List Message) (i : Nat) : AExit × St := if movE s.low s.high (l.drop i) = true then (.ret, ⟨[(2, .d (.int .i64 12))], []⟩) else (.exit 0, ⟨[(6, .d (.sl (l.map eMessage)))], []⟩)
theorem zxL (s : Shard) (l : List Message) (h1 : l.length ≤ 24) : ∀ i, i ≤ l.length → loopL G [] l_ref07_Validate_0 (m7S s l i) = some (m7R s l i) := by
 refine zjM (fun i => l.length - i) (fun i => i ≤ l.length) (m7S s l) (fun i => some (m7R s l i)) fun i hi L ih => ?_
 by_cases h0 : i < l.length
 · have i1 := ih (i + 1) (by omega) (by omega)
   clear ih
   unfold m7R at i1 ⊢
   rw [zs7 _ _ h0]
   unfold m7S at i1
   generalize movE s.low s.high (l.drop (i + 1)) = fe at *
   simp only [m7S, eShard, l_ref07_Validate_0] at i1 ⊢
   simp only [Int.natCast_add, Int.natCast_one, Int.natCast_zero, Int.natCast_mul, Int.cast_ofNat_Int, List.length_append, List.length_map, List.map_nil, List.length_nil, List.map_append, List.map_cons, List.length_cons, Nat.zero_add, srcO, mapSet] at i1
   by_cases hv : s.low ≤ l[i].route ∧ l[i].route ≤ s.high
   · simp only [hv, not_true_eq_false, and_self, decide_false, Bool.false_or]
     simp -implicitDefEqProofs (disch := omega) only [eMessage, getDT, go_sem, *]
   · simp only [hv, not_false_eq_true, decide_true, Bool.true_or, if_true]
     clear i1
     (try simp -implicitDefEqProofs (disch := omega) only [eMessage, getDT, go_sem, *]); (try simp only [pA, pB, pC, pD, pE, pF, pG, pH, pI, pJ, pK, pL, pM, pN, pO, pP, if_true, if_false]); repeat' (first | done | rfl | ((first | refine iteC (fun hq => ?_) (fun hq => ?_) | refine iteP (fun hq => ?_) (fun hq => ?_)) <;> (try (first | (exfalso; omega) | contradiction)) <;> (try simp -implicitDefEqProofs (disch := omega) only [eMessage, getDT, go_sem, *]) <;> (try simp only [pA, pB, pC, pD, pE, pF, pG, pH, pI, pJ, pK, pL, pM, pN, pO, pP, if_true, if_false]))); (all_goals try rfl); (all_goals try (repeat' (first | done | rfl | (exfalso; omega) | contradiction | (refine iteR (fun hq => ?_) (fun hq => ?_)))))
 · clear ih
   have : i = l.length := by omega
   subst this
   unfold m7R
   rw [List.drop_length]
   simp only [m7S, movE, List.any_nil, Bool.false_eq_true, if_false, l_ref07_Validate_0, eShard]
   simp -implicitDefEqProofs (disch := omega) only [getDT, go_sem, *]
def d7S (l : List Message) (i : Nat) : St := ⟨[(6, .d (.sl (l.map eMessage))), (8, .d (.int .i64 i))], []⟩
def d7R (l : List Message) (i : Nat) : AExit × St := if lateF l i = true then (.ret, ⟨[(2, .d (.int .i64 10))], []⟩) else (.exit 2, ⟨[], []⟩)
theorem zve (l : List Message) (h1 : l.length ≤ 24) : ∀ i, i ≤ l.length → loopL G [] l_ref07_Validate_1 (d7S l i) = some (d7R l i) := by
 refine zjM (fun i => l.length - i) (fun i => i ≤ l.length) (d7S l) (fun i => some (d7R l i)) fun i hi L ih => ?_
 by_cases h0 : i < l.length
 · have i1 := ih (i + 1) (by omega) (by omega)
   clear ih
   have hx := zo1 l l[i].id (by omega)
   unfold d7R at i1 ⊢
   rw [zrC _ h0]
   unfold d7S at i1
   generalize lateF l (i + 1) = fe at *
   simp only [d7S, l_ref07_Validate_1]
   simp only [Int.natCast_add, Int.natCast_one, Int.natCast_zero, Int.natCast_mul, Int.cast_ofNat_Int, List.length_append, List.length_map, List.map_nil, List.length_nil, List.map_append, List.map_cons, List.length_cons, Nat.zero_add, srcO, mapSet] at i1
   generalize fstI l l[i].id = q at *
   by_cases hv : q = i
   · subst hv
     simp only [ne_eq, not_true_eq_false, decide_false, Bool.false_or]
     simp -implicitDefEqProofs (disch := omega) only [eMessage, getDT, go_sem, *]
   · simp only [ne_eq, hv, not_false_eq_true, decide_true, Bool.true_or, if_true]
     clear i1
     simp -implicitDefEqProofs (disch := omega) only [eMessage, getDT, go_sem, *]
 · clear ih
   unfold d7R
   rw [zrB _ h0]
   simp only [d7S, l_ref07_Validate_1, Bool.false_eq_true, if_false]
   simp -implicitDefEqProofs (disch := omega) only [getDT, go_sem, *]
theorem zsB (s : Shard) (h1 : s.ready.cells.length ≤ 4294967296) (h2 : s.leases.l.length ≤ 4294967296) (h3 : s.leases.heap.length ≤ 4294967296) : callL G z0e [.d (eShard s)] [] = some (.d (.int .i64 (shardV s)), []) := by
 have hv := zoS s.ready h1
 have ht := zod s.leases h2 h3
 rw [zoi] at ht
 by_cases e1 : ringV s.ready = 0
 · by_cases e2 : tabV s.leases = 0
   · rw [znJ e1 e2]
     rw [e1] at hv
     rw [e2] at ht
     have hl := tl_len e2
     obtain ⟨a1, a2, a3, a4, a5, a6⟩ := zjR e1
     have hsp := zAp s.low s.high
     have hm := zqy e1 hl
     have hml := zp3 e1 hl
     have hlp := zxL s (shMsgs s) hml 0 (by omega)
     have hdp := zve (shMsgs s) hml 0 (by omega)
     unfold m7R at hlp
     unfold d7R at hdp
     rw [zrA] at hdp
     simp only [m7S, List.drop_zero] at hlp
     simp only [d7S] at hdp
     generalize movE s.low s.high (shMsgs s) = b1 at *
     generalize dupI ((shMsgs s).map (·.id)) = b2 at *
     generalize shMsgs s = w at *
     clear e1 e2
     obtain ⟨lv, lo, hi, ⟨c, h, z⟩, ⟨tl, th⟩⟩ := s
     simp only [eShard, eRing, eTable] at hv ht hsp hm hlp a1 a2 a3 a4 a5 a6 hl h1 h2 h3 ⊢
     simp only [Int.natCast_add, Int.natCast_one, Int.natCast_zero, Int.natCast_mul, Int.cast_ofNat_Int, List.length_append, List.length_map, List.map_nil, List.length_nil, List.map_append, List.map_cons, List.length_cons, Nat.zero_add, srcO, mapSet] at hlp hdp
     cases lv with
     | false =>
      simp only [if_true]
      by_cases c1 : lo ≠ 0 ∨ hi ≠ 0 ∨ 0 < z + tl.length
      · rw [if_pos c1]
        rw [zjI zy (by simp)]; simp -implicitDefEqProofs (disch := omega) only [zh, getDT, go_sem, *]; (try simp only [pA, pB, pC, pD, pE, pF, pG, pH, pI, pJ, pK, pL, pM, pN, pO, pP, if_true, if_false]); repeat' (first | done | rfl | ((first | refine iteC (fun hq => ?_) (fun hq => ?_) | refine iteP (fun hq => ?_) (fun hq => ?_)) <;> (try (first | (exfalso; omega) | contradiction)) <;> (try simp -implicitDefEqProofs (disch := omega) only [getDT, go_sem, *]) <;> (try simp only [pA, pB, pC, pD, pE, pF, pG, pH, pI, pJ, pK, pL, pM, pN, pO, pP, if_true, if_false]))); (all_goals try rfl); (all_goals try (repeat' (first | done | rfl | (exfalso; omega) | contradiction | (refine iteR (fun hq => ?_) (fun hq => ?_)))))
      · rw [if_neg c1]
        rw [zjI zy (by simp)]; simp -implicitDefEqProofs (disch := omega) only [zh, getDT, go_sem, *]
     | true =>
      simp only [Bool.true_eq_false, if_false]
      by_cases c1 : 0 ≤ lo ∧ lo ≤ hi ∧ hi < 65536
      · rw [decide_eq_true c1] at hsp
        rw [if_neg (fun hc => hc c1)]
        by_cases c2 : (c.length : Int) < z + tl.length
        · rw [if_pos c2]
          rw [zjI zy (by simp)]; simp -implicitDefEqProofs (disch := omega) only [zh, getDT, go_sem, *]
        · rw [if_neg c2]
          cases b1
          · cases b2
            · simp only [Bool.false_eq_true, if_false] at hlp hdp ⊢
              rw [zjI zy (by simp)]; simp -implicitDefEqProofs (disch := omega) only [zh, getDT, go_sem, *]
            · simp only [Bool.false_eq_true, if_false, if_true] at hlp hdp ⊢
              rw [zjI zy (by simp)]; simp -implicitDefEqProofs (disch := omega) only [zh, getDT, go_sem, *]
          · simp only [if_true] at hlp ⊢
            rw [zjI zy (by simp)]; simp -implicitDefEqProofs (disch := omega) only [zh, getDT, go_sem, *]
      · rw [decide_eq_false c1] at hsp
        rw [if_pos c1]
        rw [zjI zy (by simp)]; simp -implicitDefEqProofs (disch := omega) only [zh, getDT, go_sem, *]
   · unfold shardV
     rw [if_neg (fun hc => hc e1), if_pos e2]
     rw [e1] at hv
     generalize tabV s.leases = v at *
     obtain ⟨lv, lo, hi, ⟨c, h, z⟩, ⟨tl, th⟩⟩ := s
     simp only [eShard, eRing, eTable] at hv ht h1 h2 h3 ⊢
     rw [zjI zy (by simp)]; simp -implicitDefEqProofs (disch := omega) only [zh, getDT, go_sem, *]
 · unfold shardV
   rw [if_pos e1]
   clear ht
   generalize ringV s.ready = v at *
   obtain ⟨lv, lo, hi, ⟨c, h, z⟩, ⟨tl, th⟩⟩ := s
   simp only [eShard, eRing] at hv h1 h2 h3 ⊢
   rw [zjI zy (by simp)]; simp -implicitDefEqProofs (disch := omega) only [zh, getDT, go_sem, *]
def cntN {α : Type} (p : α → Bool) (l : List α) (i : Nat) : Nat := ((l.take i).filter p).length
theorem zos {α : Type} (p : α → Bool) {l : List α} {i : Nat} (h : i < l.length) : cntN p l (i + 1) = cntN p l i + (if p l[i] = true then 1 else 0) := by
 unfold cntN
 rw [List.take_add_one, List.getElem?_eq_getElem h, List.filter_append, List.length_append]
 congr 1
 simp only [Option.toList, List.filter_cons]
 split <;> rfl
theorem zor {α : Type} (p : α → Bool) (l : List α) (i : Nat) : cntN p l i ≤ i := Nat.le_trans (List.length_filter_le _ _) (by simp; omega)
def rdQ (ep lim : Int) (m : Message) : Bool := decide (¬ m.epoch < ep) && decide (¬ lim ≤ m.count)
def lsQ (ep : Int) (x : Lease) : Bool := decide (¬ x.msg.epoch < ep)
theorem zwJ (b1 b2 : Bool) : callL G z14 [.d (.sl [.bool b1, .bool b2]), .d (.bool false)] [] = some (.d (.int .i64 (if b1 = true then (if b2 = true then -1 else 1) else 0)), []) := by
 cases b1
 · cases b2
   · rw [zjI z0I (by simp)]; simp -implicitDefEqProofs (disch := omega) only [z0D, zk0, l_slices_Index_bool_0, getDT, go_sem, *]
   · rw [zjI z0I (by simp)]; simp -implicitDefEqProofs (disch := omega) only [z0D, zk0, l_slices_Index_bool_0, getDT, go_sem, *]
 · cases b2
   · rw [zjI z0I (by simp)]; simp -implicitDefEqProofs (disch := omega) only [z0D, zk0, l_slices_Index_bool_0, getDT, go_sem, *]
   · rw [zjI z0I (by simp)]; simp -implicitDefEqProofs (disch := omega) only [z0D, zk0, l_slices_Index_bool_0, getDT, go_sem, *]
theorem zuG (b1 b2 : Bool) : callL G z12 [.d (.sl [.bool b1, .bool b2]), .d (.bool false)] [] = some (.d (.bool (!(b1 && b2))), []) := by
 have h := zwJ b1 b2
 cases b1
 · cases b2
   · simp only [Bool.false_eq_true, if_false] at h
     rw [zjI z1n (by simp)]; simp -implicitDefEqProofs (disch := omega) only [z1g, getDT, go_sem, *]
   · simp only [Bool.false_eq_true, if_false] at h
     rw [zjI z1n (by simp)]; simp -implicitDefEqProofs (disch := omega) only [z1g, getDT, go_sem, *]
 · cases b2
   · simp only [Bool.false_eq_true, if_false, if_true] at h
     rw [zjI z1n (by simp)]; simp -implicitDefEqProofs (disch := omega) only [z1g, getDT, go_sem, *]
   · simp only [if_true] at h
     rw [zjI z1n (by simp)]; simp -implicitDefEqProofs (disch := omega) only [z1g, getDT, go_sem, *]
def liveV (s : Shard) : Int := if shardV s ≠ 0 then shardV s else if s.live = true then 0 else 7
theorem zo5 (s : Shard) (h1 : s.ready.cells.length ≤ 4294967296) (h2 : s.leases.l.length ≤ 4294967296) (h3 : s.leases.heap.length ≤ 4294967296) : callL G z0n [.d (eShard s)] [] = some (.d (.int .i64 (liveV s)), []) := by
 have hv := zqa s h1 h2 h3
 unfold liveV
 generalize shardV s = v at *
 obtain ⟨lv, lo, hi, ⟨c, h, z⟩, ⟨tl, th⟩⟩ := s
 simp only [eShard] at hv ⊢
 by_cases e : v = 0
 · subst e
   cases lv
   · rw [zjI z8H (by simp)]; simp -implicitDefEqProofs (disch := omega) only [z42, getDT, go_sem, *]
   · rw [zjI z8H (by simp)]; simp -implicitDefEqProofs (disch := omega) only [z42, getDT, go_sem, *]
 · rw [if_pos e]
   rw [zjI z8H (by simp)]; simp -implicitDefEqProofs (disch := omega) only [z42, getDT, go_sem, *]
theorem zng (s : Shard) (h1 : s.ready.cells.length ≤ 4294967296) (h2 : s.leases.l.length ≤ 4294967296) (h3 : s.leases.heap.length ≤ 4294967296) : callL G z0b [.d (eShard s)] [] = some (.d (.int .i64 (liveV s)), []) := by
 have hv := zsB s h1 h2 h3
 unfold liveV
 generalize shardV s = v at *
 obtain ⟨lv, lo, hi, ⟨c, h, z⟩, ⟨tl, th⟩⟩ := s
 simp only [eShard] at hv ⊢
 by_cases e : v = 0
 · subst e
   cases lv
   · rw [zjI z8x (by simp)]; simp -implicitDefEqProofs (disch := omega) only [z3S, getDT, go_sem, *]
   · rw [zjI z8x (by simp)]; simp -implicitDefEqProofs (disch := omega) only [z3S, getDT, go_sem, *]
 · rw [if_pos e]
   rw [zjI z8x (by simp)]; simp -implicitDefEqProofs (disch := omega) only [z3S, getDT, go_sem, *]
theorem zAX (s : Shard) (b1 b2 : Bool) (h1 : s.ready.cells.length ≤ 4294967296) (h2 : s.leases.l.length ≤ 4294967296) (h3 : s.leases.heap.length ≤ 4294967296) : callL G zN [.d (eShard s), .d (.sl [.bool b1, .bool b2])] [] = some (.d (.int .i64 (if liveV s ≠ 0 then liveV s else if (b1 && b2) = true then 0 else 1)), []) := by
 have hv := zo5 s h1 h2 h3
 have hc := zuG b1 b2
 generalize liveV s = v at *
 simp only [eShard] at hv ⊢
 generalize (b1 && b2) = b at *
 by_cases e : v = 0
 · subst e
   cases b
   · rw [zjI z1m (by simp)]; simp -implicitDefEqProofs (disch := omega) only [z0A, getDT, go_sem, *]
   · rw [zjI z1m (by simp)]; simp -implicitDefEqProofs (disch := omega) only [z0A, getDT, go_sem, *]
 · rw [if_pos e]
   clear hc
   rw [zjI z1m (by simp)]; simp -implicitDefEqProofs (disch := omega) only [z0A, getDT, go_sem, *]
def c0S (s : Shard) (l : List Message) (ep lim : Int) (i : Nat) : St := ⟨[(1, .d (.int .i64 ep)), (2, .d (.int .i64 lim)), (3, .ref 3 0 0), (6, .d (.int .i64 (cntN (rdQ ep lim) l i))), (7, .d (.int .i64 0)), (22, .acc 22 (l.map eMessage)), (23, .d (.int .i64 l.length)), (24, .d (.int .i64 i))], [(3, .row [.d (eShard s)]), (22, .acc l.length)]⟩
theorem zpS (m : Message) (ep : Int) : callL G zp [.d (eMessage m), .d (.int .i64 ep)] [] = some (.d (.bool (decide (m.epoch < ep))), []) := by
 simp only [eMessage]
 rw [zjI zbt (by simp)]; simp -implicitDefEqProofs (disch := omega) only [z6L, getDT, go_sem, *]
theorem zt6 (m : Message) (lim : Int) : callL G zE [.d (eMessage m), .d (.int .i64 lim)] [] = some (.d (.bool (decide (lim ≤ m.count))), []) := by
 simp only [eMessage]
 rw [zjI zf5 (by simp)]; simp -implicitDefEqProofs (disch := omega) only [zai, getDT, go_sem, *]
theorem zpR (m : Message) (ep : Int) : callL G zI [.d (eMessage m), .d (.int .i64 ep)] [] = some (.d (.bool (decide (m.epoch < ep))), []) := by
 simp only [eMessage]
 rw [zjI zby (by simp)]; simp -implicitDefEqProofs (disch := omega) only [z6N, getDT, go_sem, *]
theorem zqe (m : Message) (lim : Int) : callL G z02 [.d (eMessage m), .d (.int .i64 lim)] [] = some (.d (.bool (decide (lim ≤ m.count))), []) := by
 simp only [eMessage]
 rw [zjI zf6 (by simp)]; simp -implicitDefEqProofs (disch := omega) only [zam, getDT, go_sem, *]
theorem zu4 (s : Shard) (l : List Message) (ep lim : Int) (h1 : l.length ≤ 24) : ∀ i, i ≤ l.length → loopL G [] l_shard_Counts_0 (c0S s l ep lim i) = some (.exit 0, ⟨[(1, .d (.int .i64 ep)), (3, .ref 3 0 0), (6, .d (.int .i64 (cntN (rdQ ep lim) l l.length))), (7, .d (.int .i64 0))], [(3, .row [.d (eShard s)])]⟩) := by
 refine zjM (fun i => l.length - i) (fun i => i ≤ l.length) (c0S s l ep lim) _ fun i hi L ih => ?_
 by_cases h0 : i < l.length
 · have i1 := ih (i + 1) (by omega) (by omega)
   clear ih
   have hp := zpS l[i] ep
   have hs := zt6 l[i] lim
   have hle := zor (rdQ ep lim) l i
   generalize cntN (rdQ ep lim) l l.length = z at *
   rw [c0S, zos _ h0] at i1
   simp only [c0S, l_shard_Counts_0]
   generalize cntN (rdQ ep lim) l i = w at *
   simp only [eMessage, eShard] at i1 hp hs ⊢
   unfold rdQ at i1
   by_cases c1 : l[i].epoch < ep
   · simp only [c1, not_true_eq_false, decide_true, decide_false, Bool.false_and, Bool.false_eq_true, if_false, Nat.add_zero] at i1 hp
     simp only [Int.natCast_add, Int.natCast_one, Int.natCast_zero, Int.natCast_mul, Int.cast_ofNat_Int, List.length_append, List.length_map, List.map_nil, List.length_nil, List.map_append, List.map_cons, List.length_cons, Nat.zero_add, srcO, mapSet] at i1
     simp -implicitDefEqProofs (disch := omega) only [eMessage, getDT, go_sem, *]
   · by_cases c2 : lim ≤ l[i].count
     · simp only [c1, c2, not_true_eq_false, not_false_eq_true, decide_true, decide_false, Bool.and_false, Bool.false_eq_true, if_false, Nat.add_zero] at i1 hp hs
       simp only [Int.natCast_add, Int.natCast_one, Int.natCast_zero, Int.natCast_mul, Int.cast_ofNat_Int, List.length_append, List.length_map, List.map_nil, List.length_nil, List.map_append, List.map_cons, List.length_cons, Nat.zero_add, srcO, mapSet] at i1
       simp -implicitDefEqProofs (disch := omega) only [eMessage, getDT, go_sem, *]
     · simp only [c1, c2, not_false_eq_true, decide_true, decide_false, Bool.and_self, if_true] at i1 hp hs
       simp only [Int.natCast_add, Int.natCast_one, Int.natCast_zero, Int.natCast_mul, Int.cast_ofNat_Int, List.length_append, List.length_map, List.map_nil, List.length_nil, List.map_append, List.map_cons, List.length_cons, Nat.zero_add, srcO, mapSet] at i1
       simp -implicitDefEqProofs (disch := omega) only [eMessage, getDT, go_sem, *]
 · clear ih
   have : i = l.length := by omega
   subst this
   simp only [c0S, eShard, l_shard_Counts_0]
   simp -implicitDefEqProofs (disch := omega) only [getDT, go_sem, *]
def c1S (l : List Lease) (ep n : Int) (i : Nat) : St := ⟨[(1, .d (.int .i64 ep)), (6, .d (.int .i64 n)), (7, .d (.int .i64 (cntN (lsQ ep) l i))), (43, .d (.sl (l.map eLease))), (44, .d (.int .i64 l.length)), (45, .d (.int .i64 i))], []⟩
theorem zu5 (l : List Lease) (ep n : Int) (h1 : l.length ≤ 24) : ∀ i, i ≤ l.length → loopL G [] l_shard_Counts_1 (c1S l ep n i) = some (.exit 2, ⟨[(6, .d (.int .i64 n)), (7, .d (.int .i64 (cntN (lsQ ep) l l.length)))], []⟩) := by
 refine zjM (fun i => l.length - i) (fun i => i ≤ l.length) (c1S l ep n) _ fun i hi L ih => ?_
 by_cases h0 : i < l.length
 · have i1 := ih (i + 1) (by omega) (by omega)
   clear ih
   have hp := zpS l[i].msg ep
   have hle := zor (lsQ ep) l i
   generalize cntN (lsQ ep) l l.length = z at *
   rw [c1S, zos _ h0] at i1
   simp only [c1S, l_shard_Counts_1]
   generalize cntN (lsQ ep) l i = w at *
   simp only [eMessage] at hp
   unfold lsQ at i1
   by_cases c1 : l[i].msg.epoch < ep
   · simp only [c1, not_true_eq_false, decide_true, decide_false, Bool.false_eq_true, if_false, Nat.add_zero] at i1 hp
     simp only [Int.natCast_add, Int.natCast_one, Int.natCast_zero, Int.natCast_mul, Int.cast_ofNat_Int, List.length_append, List.length_map, List.map_nil, List.length_nil, List.map_append, List.map_cons, List.length_cons, Nat.zero_add, srcO, mapSet] at i1
     simp -implicitDefEqProofs (disch := omega) only [eLease, getDT, go_sem, *]
   · simp only [c1, not_false_eq_true, decide_true, decide_false, if_true] at i1 hp
     simp only [Int.natCast_add, Int.natCast_one, Int.natCast_zero, Int.natCast_mul, Int.cast_ofNat_Int, List.length_append, List.length_map, List.map_nil, List.length_nil, List.map_append, List.map_cons, List.length_cons, Nat.zero_add, srcO, mapSet] at i1
     simp -implicitDefEqProofs (disch := omega) only [eLease, getDT, go_sem, *]
 · clear ih
   have : i = l.length := by omega
   subst this
   simp only [c1S, l_shard_Counts_1]
   simp -implicitDefEqProofs (disch := omega) only [getDT, go_sem, *]
def rowsL : List Nat := [zt, zn]
def doneL : List Nat := [z1x, zX, zY, z00, z01, zF, zp, zJ, zI, z2a, z27, z28, z29, z2i, z2j, z2h, z08, zT, zm, zU, z1r, z6A, zB, z1U, z0P, zW, z2z, z0f, z0i, z0g, z0h, z0S, z0k, z0n, zN, z0r, z0p, z0l, z2P, z0m, z0q, zE, zV, zd, ze, z0e, z0d, z09, z0a, z0b, z0c, zK, zM, zq, zr, z03, z21, zG, z02, z06, z05, z07, z04, zl, zC, zo, z6B, z0j]
namespace L
noncomputable def G : FuncId → Option AFn := layer Go.Proofs.YtcjncbkhbllchaaGreat.G rowsL doneL
theorem z61 : G z1t = some z4b := tk
theorem zb4 : G z1o = some z47 := tk
theorem zb6 : G z1p = some z48 := tk
theorem z3h : G z1q = some z49 := tk
theorem zbL : G z2m = some z55 := tk
theorem zbA : G z22 = some z4Q := tk
theorem z8i : G z1s = some z4a := tk
theorem zbv : G z1T = some z4J := tk
theorem zbw : G z1V = some z4K := tk
theorem z1i : G z25 = some z4U := tk
theorem z1h : G z24 = some z4S := tk
theorem zbD : G z0Q = some z4T := tk
theorem z69 : G z20 = some z4P := tk
theorem zbE : G z26 = some z4V := tk
theorem z8j : G z1u = some z4c := tk
theorem zbH : G z2e = some z50 := tk
theorem zbG : G z2d = some z4Z := tk
theorem zbF : G z2b = some z4W := tk
theorem zbJ : G z2g = some z52 := tk
theorem zbI : G z2f = some z51 := tk
theorem z3v : G z2K = some z5x := tk
theorem z8F : G z0Z = some z5B := tk
theorem z8G : G z10 = some z5C := tk
theorem zc0 : G z2N = some z5D := tk
theorem zc1 : G z2O = some z5E := tk
theorem zbU : G z0U = some z5k := tk
theorem z66 : G z1S = some z4H := tk
theorem zc4 : G z2T = some z5L := tk
theorem zc8 : G z2W = some z5R := tk
theorem zbd : G z0J = some z4f := tk
theorem zbk : G z1C = some z4n := tk
theorem zbh : G z1A = some z4k := tk
theorem zbi : G z0M = some z4l := tk
theorem zbe : G z1y = some z4g := tk
theorem zbf : G z0K = some z4h := tk
theorem zbb : G z1w = some z4e := tk
theorem zba : G z1v = some z4d := tk
theorem z65 : G z1M = some z4B := tk
theorem zc6 : G z2V = some z5N := tk
theorem z8M : G z2Z = some z5U := tk
theorem z1n : G z12 = some z5O := tk
theorem z0I : G z14 = some z5V := tk
theorem z8I : G z2Q = some z5F := tk
theorem z3y : G z11 = some z5K := tk
theorem z3x : G z0s = some z5J := tk
theorem zbu : G z1R = some z4G := tk
theorem z3w : G z2L = some z5y := tk
theorem zbS : G z2A = some z5i := tk
theorem zbT : G z0T = some z5j := tk
theorem z8K : G z2X = some z5S := tk
theorem zbW : G z2D = some z5n := tk
theorem zbV : G z2B = some z5l := tk
theorem z3n : G z1Q = some z4F := tk
theorem zj : G z1I = some z4v := tk
theorem zbp : G z1L = some z4z := tk
theorem z6j : G z2S = some z5I := tk
theorem zbq : G zD = some z4A := tk
theorem zbj : G z1B = some z4m := tk
theorem z8N : G z30 = some z5W := tk
theorem zbl : G z1E = some z4p := tk
theorem zbY : G z0W = some z5t := tk
theorem zbP : G z2y = some z5h := tk
theorem z6i : G z0X = some z5v := tk
theorem z0H : G z0o = some z5G := tk
theorem zbZ : G z0Y = some z5z := tk
theorem zc5 : G z2U = some z5M := tk
theorem z1k : G z2C = some z5m := tk
theorem z6h : G z2G = some z5q := tk
theorem z64 : G z1J = some z4w := tk
theorem z8O : G z15 = some z5X := tk
theorem zbs : G z1O = some z4D := tk
theorem zb : G z1P = some z4E := tk
theorem z8Q : G z17 = some z5Z := tk
theorem z8P : G z16 = some z5Y := tk
theorem zbo : G zZ = some z4x := tk
theorem z6k : G z13 = some z5P := tk
theorem z8L : G z2Y = some z5T := tk
theorem z8J : G z2R = some z5H := tk
theorem z3l : G z1K = some z4y := tk
theorem z62 : G z0L = some z4j := tk
theorem zbg : G z1z = some z4i := tk
theorem zbr : G z1N = some z4C := tk
theorem zc7 : G z3A = some z5Q := tk
theorem z8A : G z0V = some z5r := tk
theorem z8D : G z2M = some z5A := tk
theorem z63 : G z1H = some z4u := tk
theorem z6g : G z2E = some z5o := tk
theorem zS : G z2H = some z5s := tk
theorem z8C : G z2J = some z5w := tk
theorem zbM : G z2o = some z57 := tk
theorem z1l : G z2F = some z5p := tk
theorem z0E : G z1G = some z4t := tk
theorem z8y : G z2v = some z5e := tk
theorem zx : G z1D = some z4o := tk
theorem z3k : G z0O = some z4s := tk
theorem z6d : G z2s = some z5b := tk
theorem z8B : G z2I = some z5u := tk
theorem z3t : G z2q = some z59 := tk
theorem z0F : G z2n = some z56 := tk
theorem z6e : G z2w = some z5f := tk
theorem zbn : G z0N = some z4r := tk
theorem zR : G z2r = some z5a := tk
theorem zbm : G z1F = some z4q := tk
theorem zbC : G z23 = some z4R := tk
theorem z68 : G z1Y = some z4N := tk
theorem zk : G z2t = some z5c := tk
theorem z6f : G z2x = some z5g := tk
theorem zbz : G z1X = some z4M := tk
theorem z3o : G z1W = some z4L := tk
theorem z3p : G z1Z = some z4O := tk
theorem z8w : G z2k = some z53 := tk
theorem z0G : G z2u = some z5d := tk
theorem z3r : G z0R = some z4X := tk
theorem z8s : G z2c = some z4Y := tk
theorem z6c : G z2p = some z58 := tk
theorem z6a : G z2l = some z54 := tk
variable {args : List Go.Sim.AV} {os : Heap}
theorem zjt : callL G zX args os = callL Go.Proofs.YtcjncbkhbllchaaGreat.G zX args os := zjK (by kernel_rfl)
theorem zju : callL G zY args os = callL Go.Proofs.YtcjncbkhbllchaaGreat.G zY args os := zjK (by kernel_rfl)
theorem zjw : callL G z00 args os = callL Go.Proofs.YtcjncbkhbllchaaGreat.G z00 args os := zjK (by kernel_rfl)
theorem zjx : callL G z01 args os = callL Go.Proofs.YtcjncbkhbllchaaGreat.G z01 args os := zjK (by kernel_rfl)
theorem z9C : callL G zF args os = callL Go.Proofs.YtcjncbkhbllchaaGreat.G zF args os := zjK (by kernel_rfl)
theorem zeD : callL G zp args os = callL Go.Proofs.YtcjncbkhbllchaaGreat.G zp args os := zjK (by kernel_rfl)
theorem z9E : callL G zJ args os = callL Go.Proofs.YtcjncbkhbllchaaGreat.G zJ args os := zjK (by kernel_rfl)
theorem zeI : callL G zI args os = callL Go.Proofs.YtcjncbkhbllchaaGreat.G zI args os := zjK (by kernel_rfl)
theorem zeL : callL G z08 args os = callL Go.Proofs.YtcjncbkhbllchaaGreat.G z08 args os := zjK (by kernel_rfl)
theorem zjl : callL G zT args os = callL Go.Proofs.YtcjncbkhbllchaaGreat.G zT args os := zjK (by kernel_rfl)
theorem zjo : callL G zm args os = callL Go.Proofs.YtcjncbkhbllchaaGreat.G zm args os := zjK (by kernel_rfl)
theorem zjq : callL G zU args os = callL Go.Proofs.YtcjncbkhbllchaaGreat.G zU args os := zjK (by kernel_rfl)
theorem zjs : callL G zW args os = callL Go.Proofs.YtcjncbkhbllchaaGreat.G zW args os := zjK (by kernel_rfl)
theorem zjD : callL G z0f args os = callL Go.Proofs.YtcjncbkhbllchaaGreat.G z0f args os := zjK (by kernel_rfl)
theorem zjF : callL G z0i args os = callL Go.Proofs.YtcjncbkhbllchaaGreat.G z0i args os := zjK (by kernel_rfl)
theorem z9I : callL G z0g args os = callL Go.Proofs.YtcjncbkhbllchaaGreat.G z0g args os := zjK (by kernel_rfl)
theorem zjE : callL G z0h args os = callL Go.Proofs.YtcjncbkhbllchaaGreat.G z0h args os := zjK (by kernel_rfl)
theorem zeS : callL G z0k args os = callL Go.Proofs.YtcjncbkhbllchaaGreat.G z0k args os := zjK (by kernel_rfl)
theorem z9L : callL G z0n args os = callL Go.Proofs.YtcjncbkhbllchaaGreat.G z0n args os := zjK (by kernel_rfl)
theorem zjH : callL G zN args os = callL Go.Proofs.YtcjncbkhbllchaaGreat.G zN args os := zjK (by kernel_rfl)
theorem zjG : callL G z0r args os = callL Go.Proofs.YtcjncbkhbllchaaGreat.G z0r args os := zjK (by kernel_rfl)
theorem z9M : callL G z0p args os = callL Go.Proofs.YtcjncbkhbllchaaGreat.G z0p args os := zjK (by kernel_rfl)
theorem z9J : callL G z0l args os = callL Go.Proofs.YtcjncbkhbllchaaGreat.G z0l args os := zjK (by kernel_rfl)
theorem z9K : callL G z0m args os = callL Go.Proofs.YtcjncbkhbllchaaGreat.G z0m args os := zjK (by kernel_rfl)
theorem zeT : callL G z0q args os = callL Go.Proofs.YtcjncbkhbllchaaGreat.G z0q args os := zjK (by kernel_rfl)
theorem zeE : callL G zE args os = callL Go.Proofs.YtcjncbkhbllchaaGreat.G zE args os := zjK (by kernel_rfl)
theorem zjr : callL G zV args os = callL Go.Proofs.YtcjncbkhbllchaaGreat.G zV args os := zjK (by kernel_rfl)
theorem zjn : callL G ze args os = callL Go.Proofs.YtcjncbkhbllchaaGreat.G ze args os := zjK (by kernel_rfl)
theorem zeQ : callL G z0e args os = callL Go.Proofs.YtcjncbkhbllchaaGreat.G z0e args os := zjK (by kernel_rfl)
theorem zeP : callL G z0d args os = callL Go.Proofs.YtcjncbkhbllchaaGreat.G z0d args os := zjK (by kernel_rfl)
theorem zeM : callL G z09 args os = callL Go.Proofs.YtcjncbkhbllchaaGreat.G z09 args os := zjK (by kernel_rfl)
theorem zeN : callL G z0a args os = callL Go.Proofs.YtcjncbkhbllchaaGreat.G z0a args os := zjK (by kernel_rfl)
theorem z6z : callL G z0b args os = callL Go.Proofs.YtcjncbkhbllchaaGreat.G z0b args os := zjK (by kernel_rfl)
theorem zeO : callL G z0c args os = callL Go.Proofs.YtcjncbkhbllchaaGreat.G z0c args os := zjK (by kernel_rfl)
theorem z9G : callL G zK args os = callL Go.Proofs.YtcjncbkhbllchaaGreat.G zK args os := zjK (by kernel_rfl)
theorem z9H : callL G zM args os = callL Go.Proofs.YtcjncbkhbllchaaGreat.G zM args os := zjK (by kernel_rfl)
theorem z9F : callL G zq args os = callL Go.Proofs.YtcjncbkhbllchaaGreat.G zq args os := zjK (by kernel_rfl)
theorem zeJ : callL G zr args os = callL Go.Proofs.YtcjncbkhbllchaaGreat.G zr args os := zjK (by kernel_rfl)
theorem zeK : callL G z03 args os = callL Go.Proofs.YtcjncbkhbllchaaGreat.G z03 args os := zjK (by kernel_rfl)
theorem zeH : callL G zG args os = callL Go.Proofs.YtcjncbkhbllchaaGreat.G zG args os := zjK (by kernel_rfl)
theorem z9D : callL G z02 args os = callL Go.Proofs.YtcjncbkhbllchaaGreat.G z02 args os := zjK (by kernel_rfl)
theorem zjB : callL G z06 args os = callL Go.Proofs.YtcjncbkhbllchaaGreat.G z06 args os := zjK (by kernel_rfl)
theorem zjA : callL G z05 args os = callL Go.Proofs.YtcjncbkhbllchaaGreat.G z05 args os := zjK (by kernel_rfl)
theorem zjC : callL G z07 args os = callL Go.Proofs.YtcjncbkhbllchaaGreat.G z07 args os := zjK (by kernel_rfl)
theorem zjz : callL G z04 args os = callL Go.Proofs.YtcjncbkhbllchaaGreat.G z04 args os := zjK (by kernel_rfl)
theorem zjm : callL G zl args os = callL Go.Proofs.YtcjncbkhbllchaaGreat.G zl args os := zjK (by kernel_rfl)
theorem zjp : callL G zC args os = callL Go.Proofs.YtcjncbkhbllchaaGreat.G zC args os := zjK (by kernel_rfl)
theorem zjv : callL G zo args os = callL Go.Proofs.YtcjncbkhbllchaaGreat.G zo args os := zjK (by kernel_rfl)
theorem zeR : callL G z0j args os = callL Go.Proofs.YtcjncbkhbllchaaGreat.G z0j args os := zjK (by kernel_rfl)
theorem zeB : G zt = some (.ext (rowF (callL Go.Proofs.YtcjncbkhbllchaaGreat.G) zt)) := by kernel_rfl
theorem zeA : G zn = some (.ext (rowF (callL Go.Proofs.YtcjncbkhbllchaaGreat.G) zn)) := by kernel_rfl
attribute [go_sem] zjt zju zjw zjx z9C zeD z9E zeI zeL zjl zjo zjq zjs zjD zjF z9I zjE zeS z9L zjH zjG z9M z9J z9K zeT zeE zjr zjn zeQ zeP zeM zeN z6z zeO z9G z9H z9F zeJ zeK zeH z9D zjB zjA zjC zjz zjm zjp zjv zeR
end L
end Go.Proofs.YtcjncbkhbllchaaGreat

namespace Go.Proofs.YtcjncbkhbllchaaGreat
open Go Go.Sim
theorem zzc (t : Table) (id : Int) (hL : t.l.length ≤ 4294967296) (hH : t.heap.length ≤ 4294967296) : callL G z05 [.d (eTable t), .d (.int .i64 id)] [] = some (.d (.tup [eLease (findT t id).1, .bool (findT t id).2]), []) := by
 have hv := zod t hL hH
 rw [zoi] at hv
 have hf := zoc t id hL
 have hlt := zoC t.l id
 unfold findT
 by_cases h1 : tabV t = 0
 · by_cases h6 : 0 ≤ findL t.l id
   · obtain ⟨k, hk⟩ : ∃ k : Nat, findL t.l id = k := ⟨(findL t.l id).toNat, by omega⟩
     have hkl : k < t.l.length := by omega
     simp only [h1, h6, and_self, if_true]
     rw [hk, Int.toNat_natCast, getDT hkl]
     rw [hk] at hf
     simp only [eTable, eLease] at hv hf ⊢
     rw [h1] at hv
     clear hk h6
     rw [zjI z8t (by simp)]; simp -implicitDefEqProofs (disch := omega) only [z3P, eLease, getDT, go_sem, *]
   · simp only [h1, h6, and_false, if_false]
     simp only [eTable, eLease, zLease, zMessage] at hv hf ⊢
     rw [h1] at hv
     rw [zjI z8t (by simp)]; simp -implicitDefEqProofs (disch := omega) only [z3P, getDT, go_sem, *]
 · simp only [h1, false_and, if_false]
   simp only [eTable, eLease, zLease, zMessage] at hv hf ⊢
   rw [zjI z8t (by simp)]; simp -implicitDefEqProofs (disch := omega) only [z3P, getDT, go_sem, *]
theorem zsA (t : Table) (id : Int) (hL : t.l.length ≤ 4294967296) (hH : t.heap.length ≤ 4294967296) : callL G z07 [.d (eTable t), .d (.int .i64 id)] [] = some (.d (.tup [eTable (relD t id).1, eMessage (relD t id).2.1, .int .i64 (relD t id).2.2]), []) := by
 have hv := zod t hL hH
 rw [zoi] at hv
 have hf := zoc t id hL
 have hr := zsF t.heap id hH
 have hlt := zoC t.l id
 simp only [eDE] at hr
 by_cases h1 : tabV t = 0
 · by_cases h6 : 0 ≤ findL t.l id
   · obtain ⟨k, hk, e1, e2, e3, e4, e5⟩ := znI h1 h6
     have h12 := ((zk1 t).1 h1).1
     have e : relD t id = (⟨dropI t.l k, (removeD t.heap id).1⟩, t.l[k].msg, 0) := by
      have : relE t id = 0 := by unfold relE; rw [if_neg (by simpa using h1), if_neg (by omega), e3]
      unfold relD
      rw [if_pos this, e1, Int.toNat_natCast, getDT hk]
     rw [e]
     rw [e1] at hf
     rw [e3] at hr
     have hz1 := zk7 (t.l.take k)
     have hz2 := zk7 (t.l.drop (k + 1))
     simp only [eTable, eMessage, dropI, List.map_append] at hv hf ⊢
     rw [h1] at hv
     clear e e1 e2 e3 e5 h6
     rw [zjI z8u (by simp)]; simp -implicitDefEqProofs (disch := omega) only [z3Q, eLease, getDT, go_sem, *]
   · have e : relD t id = (zTable, zMessage, 4) := by simp [relD, relE, h1, h6]
     rw [e]
     simp only [eTable, eMessage, zTable, zMessage] at hv hf ⊢
     rw [h1] at hv
     rw [zjI z8u (by simp)]; simp -implicitDefEqProofs (disch := omega) only [z3Q, getDT, go_sem, *]
 · have e : relD t id = (zTable, zMessage, tabV t) := by simp [relD, relE, h1]
   rw [e]
   simp only [eTable, eMessage, zTable, zMessage] at hv hf ⊢
   rw [zjI z8u (by simp)]; simp -implicitDefEqProofs (disch := omega) only [z3Q, getDT, go_sem, *]
theorem zze (t : Table) (id d : Int) (hL : t.l.length ≤ 4294967296) (hH : t.heap.length ≤ 4294967296) : callL G z04 [.d (eTable t), .d (.int .i64 id), .d (.int .i64 d)] [] = some (.d (.tup [eTable (extD t id d).1, .int .i64 (extD t id d).2]), []) := by
 have hv := zod t hL hH
 rw [zoi] at hv
 have hf := zoc t id hL
 have hr := zsF t.heap id hH
 have hlt := zoC t.l id
 simp only [eDE] at hr
 by_cases h1 : tabV t = 0
 · by_cases h6 : 0 ≤ findL t.l id
   · by_cases h4 : 0 ≤ d ∧ d ≤ 1073741824
     · obtain ⟨k, hk, e1, e2, e3, e4, e5⟩ := znI h1 h6
       have h12 := ((zk1 t).1 h1).1
       have hs := (zpp (id := id) (d := d) h1).2 ⟨h6, h4.1, h4.2⟩
       have hE : extE t id d = 0 := by
        unfold extD at hs
        split at hs
        · assumption
        · rename_i hc; exact absurd hs hc
       have hp0 : (pushD (removeD t.heap id).1 (d, id)).2 = 0 := by
        unfold extE at hE
        rwa [if_neg (by simpa using h1), if_neg (by omega), if_neg (by omega), if_neg (by simpa using e3)] at hE
       have e : extD t id d = (⟨t.l.set k ⟨t.l[k].msg, d⟩, (pushD (removeD t.heap id).1 (d, id)).1⟩, 0) := by
        unfold extD
        rw [if_pos hE, e1, Int.toNat_natCast, zt1 hk]
       have hp := zsE (removeD t.heap id).1 (d, id) (zsN _ _ hH)
       simp only [eDE, eD] at hp
       rw [e]
       rw [e1] at hf
       rw [e3] at hr
       rw [hp0] at hp
       have hz := zk7 t.l
       simp only [eTable, List.map_set] at hv hf ⊢
       rw [h1] at hv
       clear e e1 e2 e3 e5 h6 hs hE hp0
       rw [zjI z3s (by simp)]; simp -implicitDefEqProofs (disch := omega) only [z1d, eLease, getDT, go_sem, *]; (try simp only [pA, pB, pC, pD, pE, pF, pG, pH, pI, pJ, pK, pL, pM, pN, pO, pP, if_true, if_false]); repeat' (first | done | rfl | ((first | refine iteC (fun hq => ?_) (fun hq => ?_) | refine iteP (fun hq => ?_) (fun hq => ?_)) <;> (try (first | (exfalso; omega) | contradiction)) <;> (try simp -implicitDefEqProofs (disch := omega) only [eLease, getDT, go_sem, *]) <;> (try simp only [pA, pB, pC, pD, pE, pF, pG, pH, pI, pJ, pK, pL, pM, pN, pO, pP, if_true, if_false]))); (all_goals try rfl); (all_goals try (repeat' (first | done | rfl | (exfalso; omega) | contradiction | (refine iteR (fun hq => ?_) (fun hq => ?_)))))
     · have e : extD t id d = (zTable, 1) := by simp [extD, extE, h1, h6, h4]
       rw [e]
       simp only [eTable, zTable] at hv hf ⊢
       rw [h1] at hv
       by_cases h5 : d < 0
       · rw [zjI z3s (by simp)]; simp -implicitDefEqProofs (disch := omega) only [z1d, getDT, go_sem, *]
       · have h7 : 1073741824 < d := by omega
         rw [zjI z3s (by simp)]; simp -implicitDefEqProofs (disch := omega) only [z1d, getDT, go_sem, *]
   · have e : extD t id d = (zTable, 4) := by simp [extD, extE, h1, h6]
     rw [e]
     simp only [eTable, zTable] at hv hf ⊢
     rw [h1] at hv
     rw [zjI z3s (by simp)]; simp -implicitDefEqProofs (disch := omega) only [z1d, getDT, go_sem, *]
 · have e : extD t id d = (zTable, tabV t) := by simp [extD, extE, h1]
   rw [e]
   simp only [eTable, zTable] at hv hf ⊢
   rw [zjI z3s (by simp)]; simp -implicitDefEqProofs (disch := omega) only [z1d, getDT, go_sem, *]
end Go.Proofs.YtcjncbkhbllchaaGreat

namespace Go.Proofs.YtcjncbkhbllchaaGreat.L
open Go Go.Sim Go.Proofs.YtcjncbkhbllchaaGreat
theorem zr6 (x : Lease) (id : Int) : callL G zD [.d (eLease x), .d (.int .i64 id)] [] = some (.d (.int .i64 (cmpI x.msg.id id)), []) := by
 have h := zr0 x.msg.id id
 rw [zjI zbq (by simp)]; simp -implicitDefEqProofs (disch := omega) only [zad, getDT, go_sem, *]
def bsS (l : List Lease) (id : Int) (p : Nat × Nat) : St := ⟨[(0, .d (.sl (l.map eLease))), (1, .d (.int .i64 id)), (2, .d (.fn zD [])), (8, .d (.int .i64 l.length)), (9, .d (.int .i64 p.1)), (10, .d (.int .i64 p.2))], []⟩
theorem zu1 (l : List Lease) (id : Int) (hL : l.length ≤ 1000) (h : l.Pairwise fun x y => x.msg.id < y.msg.id) : ∀ p : Nat × Nat, p.1 ≤ posL l id ∧ posL l id ≤ p.2 ∧ p.2 ≤ l.length → loopL G [] l_slices_BinarySearchFunc_api_Lease_0 (bsS l id p) = some (.exit 0, ⟨[(0, .d (.sl (l.map eLease))), (1, .d (.int .i64 id)), (2, .d (.fn zD [])), (8, .d (.int .i64 l.length)), (9, .d (.int .i64 (posL l id)))], []⟩) := by
 refine zjM (fun p : Nat × Nat => p.2 - p.1) (fun p : Nat × Nat => p.1 ≤ posL l id ∧ posL l id ≤ p.2 ∧ p.2 ≤ l.length) (bsS l id) _ fun ⟨i, j⟩ ⟨h1, h2, h3⟩ L ih => ?_
 simp only at h1 h2 h3
 simp only [bsS] at ih ⊢
 simp only [l_slices_BinarySearchFunc_api_Lease_0]
 by_cases hij : i < j
 · obtain ⟨m, hm⟩ : ∃ m, m = (i + j) / 2 := ⟨_, rfl⟩
   have hml : m < l.length := by omega
   have e1 : Int.fdiv ((i : Int) + j) (2 ^ (min 1 64 : Nat)) = (m : Int) := by show Int.fdiv ((i : Int) + j) 2 = m; rw [Int.fdiv_eq_ediv_of_nonneg _ (by omega)]; omega
   have hf := zr6 (l[m]) id
   have hp := pos_lt h (id := id) hml
   by_cases hc : l[m].msg.id < id
   · have i1 := ih (m + 1, j) ⟨by simp only; omega, h2, h3⟩ (by simp only; omega)
     have hc2 := (zqZ (l[m].msg.id) id).2 hc
     clear ih hm
     simp only [Int.natCast_add, Int.natCast_one, Int.natCast_zero, Int.natCast_mul, Int.cast_ofNat_Int, List.length_append, List.length_map, List.map_nil, List.length_nil, List.map_append, List.map_cons, List.length_cons, Nat.zero_add, srcO, mapSet] at i1
     simp -implicitDefEqProofs (disch := omega) only [getDT, go_sem, *]
   · have i2 := ih (i, m) ⟨h1, by simp only; omega, by simp only; omega⟩ (by simp only; omega)
     have hc2 : ¬ cmpI (l[m].msg.id) id < 0 := fun h => hc ((zqZ _ _).1 h)
     clear ih hm
     simp -implicitDefEqProofs (disch := omega) only [getDT, go_sem, *]
 · have : i = posL l id := by omega
   subst this
   clear ih
   simp -implicitDefEqProofs (disch := omega) only [getDT, go_sem, *]
theorem bs_ok (l : List Lease) (id : Int) (hL : l.length ≤ 1000) (h : l.Pairwise fun x y => x.msg.id < y.msg.id) : callL G z2S [.d (.sl (l.map eLease)), .d (.int .i64 id), .d (.fn zD [])] [] = some (.d (.tup [.int .i64 (posL l id), .bool (decide (0 ≤ findL l id))]), []) := by
 have hl := zu1 l id hL h (0, l.length) ⟨by simp, zoQ l id, Nat.le_refl _⟩
 simp only [bsS] at hl
 simp only [Int.natCast_add, Int.natCast_one, Int.natCast_zero, Int.natCast_mul, Int.cast_ofNat_Int, List.length_append, List.length_map, List.map_nil, List.length_nil, List.map_append, List.map_cons, List.length_cons, Nat.zero_add, srcO, mapSet] at hl
 have hp := znc h id
 by_cases hpl : posL l id < l.length
 · have hf := zr6 l[posL l id] id
   by_cases he : l[posL l id].msg.id = id
   · have h0 : 0 ≤ findL l id := hp.2 ⟨hpl, he⟩
     have e0 : cmpI l[posL l id].msg.id id = 0 := (zqY _ _).2 he
     rw [e0] at hf
     simp only [h0, decide_true]
     clear he e0
     rw [zjI z6j (by simp)]; simp -implicitDefEqProofs (disch := omega) only [z43, getDT, go_sem, *]
   · have h0 : ¬ 0 ≤ findL l id := fun h0 => he (hp.1 h0).2
     have e0 : ¬ cmpI l[posL l id].msg.id id = 0 := fun e => he ((zqY _ _).1 e)
     simp only [h0, decide_false]
     rw [zjI z6j (by simp)]; simp -implicitDefEqProofs (disch := omega) only [z43, getDT, go_sem, *]
 · have h0 : ¬ 0 ≤ findL l id := fun h0 => hpl (hp.1 h0).1
   simp only [h0, decide_false]
   rw [zjI z6j (by simp)]; simp -implicitDefEqProofs (disch := omega) only [z43, getDT, go_sem, *]
theorem zo4 (t : Table) (id : Int) (hL : t.l.length ≤ 1000) (h : t.l.Pairwise fun x y => x.msg.id < y.msg.id) : callL G z1L [.d (eTable t), .d (.int .i64 id)] [] = some (.d (.tup [.int .i64 (posL t.l id), .bool (decide (0 ≤ findL t.l id))]), []) := by
 have hb := bs_ok t.l id hL h
 simp only [eTable]
 rw [zjI zbp (by simp)]; simp -implicitDefEqProofs (disch := omega) only [zac, getDT, go_sem, *]
theorem crow (l : List Lease) (h : l ≠ []) (hL : l.length ≤ 1000) : callL G zt [.d (.sl (l.map eLease))] [] = some (.osl 0 0 l.length, [(0, .row ((l.map eLease).map .d))]) := by
 have := zrF zeB (by simpa using h) (zqX (l.map eLease) (zk7 l) (by simp; omega))
 rw [List.length_map] at this
 exact this
theorem crow0 : callL G zt [.d (.sl [])] [] = some (.xsl [], []) := zrG zeB (zqX [] rfl (by simp))
theorem zwy (t : Table) (m : Message) (d : Int) (hL : t.l.length ≤ 4294967296) (hH : t.heap.length ≤ 4294967296) : callL G z1I [.d (eTable t), .d (eMessage m), .d (.int .i64 d)] [] = some (.d (.tup [eTable (grantD t m d).1, .int .i64 (grantD t m d).2]), []) := by
 have hv := znz t hL hH
 have hm := znk m
 have ht := zpH d
 simp only [eTable, eMessage] at hv hm ⊢
 unfold grantD grantE
 by_cases h1 : tabV t = 0
 · obtain ⟨h12, hE, hD, hM⟩ := zk6 h1
   have ha := zk8 hE
   have hf := zo4 t m.id (by omega) ha
   have hp := zsx t.heap (d, m.id) hH
   have hpl := zoQ t.l m.id
   simp only [eTable, eD, eDE] at hf hp
   simp only [h1, ne_eq, not_true_eq_false, if_false]
   by_cases h2 : msgV m = 0
   · simp only [h2, not_true_eq_false, if_false]
     by_cases h3 : m.gen = 0
     · simp only [h3, if_true] at hm ⊢
       rw [zjI zj (by simp)]; simp -implicitDefEqProofs (disch := omega) only [zf, getDT, go_sem, *]; (try simp only [pA, pB, pC, pD, pE, pF, pG, pH, pI, pJ, pK, pL, pM, pN, pO, pP, if_true, if_false]); repeat' (first | done | rfl | ((first | refine iteC (fun hq => ?_) (fun hq => ?_) | refine iteP (fun hq => ?_) (fun hq => ?_)) <;> (try (first | (exfalso; omega) | contradiction)) <;> (try simp -implicitDefEqProofs (disch := omega) only [getDT, go_sem, *]) <;> (try simp only [pA, pB, pC, pD, pE, pF, pG, pH, pI, pJ, pK, pL, pM, pN, pO, pP, if_true, if_false]))); (all_goals try rfl); (all_goals try (repeat' (first | done | rfl | (exfalso; omega) | contradiction | (refine iteR (fun hq => ?_) (fun hq => ?_)))))
     · simp only [h3, if_false]
       by_cases h4 : 0 ≤ d ∧ d ≤ 1073741824
       · simp only [h4, and_self, not_true_eq_false, if_false, decide_true] at ht ⊢
         by_cases h5 : t.l.length = 12
         · simp only [h5, if_true]
           rw [zjI zj (by simp)]; simp -implicitDefEqProofs (disch := omega) only [zf, getDT, go_sem, *]; (try simp only [pA, pB, pC, pD, pE, pF, pG, pH, pI, pJ, pK, pL, pM, pN, pO, pP, if_true, if_false]); repeat' (first | done | rfl | ((first | refine iteC (fun hq => ?_) (fun hq => ?_) | refine iteP (fun hq => ?_) (fun hq => ?_)) <;> (try (first | (exfalso; omega) | contradiction)) <;> (try simp -implicitDefEqProofs (disch := omega) only [getDT, go_sem, *]) <;> (try simp only [pA, pB, pC, pD, pE, pF, pG, pH, pI, pJ, pK, pL, pM, pN, pO, pP, if_true, if_false]))); (all_goals try rfl); (all_goals try (repeat' (first | done | rfl | (exfalso; omega) | contradiction | (refine iteR (fun hq => ?_) (fun hq => ?_)))))
         · simp only [h5, if_false]
           by_cases h6 : 0 ≤ findL t.l m.id
           · simp only [h6, if_true, decide_true] at hf ⊢
             rw [zjI zj (by simp)]; simp -implicitDefEqProofs (disch := omega) only [zf, getDT, go_sem, *]; (try simp only [pA, pB, pC, pD, pE, pF, pG, pH, pI, pJ, pK, pL, pM, pN, pO, pP, if_true, if_false]); repeat' (first | done | rfl | ((first | refine iteC (fun hq => ?_) (fun hq => ?_) | refine iteP (fun hq => ?_) (fun hq => ?_)) <;> (try (first | (exfalso; omega) | contradiction)) <;> (try simp -implicitDefEqProofs (disch := omega) only [getDT, go_sem, *]) <;> (try simp only [pA, pB, pC, pD, pE, pF, pG, pH, pI, pJ, pK, pL, pM, pN, pO, pP, if_true, if_false]))); (all_goals try rfl); (all_goals try (repeat' (first | done | rfl | (exfalso; omega) | contradiction | (refine iteR (fun hq => ?_) (fun hq => ?_)))))
           · simp only [h6, if_false, decide_false] at hf ⊢
             by_cases h7 : (pushD t.heap (d, m.id)).2 = 0
             · simp only [h7, if_true]
               have hi := zwM t.l m d
               rw [h7] at hp
               simp only [hi, eLease]
               by_cases h8 : t.l = []
               · have hc := crow0
                 have hpz : posL t.l m.id = 0 := by rw [h8]; rfl
                 have hin : callL G z30 [.xsl [], .d (.int .i64 0), .d (.sl [.agg [.int .i64 m.id, .int .i64 m.route, .int .i64 m.epoch, .int .i64 m.count, .int .i64 m.gen, .int .i64 m.sent, .str m.body, .int .i64 d]])] [] = some (.d (.sl [.agg [.int .i64 m.id, .int .i64 m.route, .int .i64 m.epoch, .int .i64 m.count, .int .i64 m.gen, .int .i64 m.sent, .str m.body, .int .i64 d]]), []) := zwT z8N _ rfl
                 simp only [hpz, h8, List.map_nil, List.take_nil, List.drop_nil] at *
                 rw [zjI zj (by simp)]; simp -implicitDefEqProofs (disch := omega) only [zf, getDT, go_sem, *]
               · have hc := crow t.l h8 (by omega)
                 have hne : t.l.map eLease ≠ [] := by simpa using h8
                 have hin := zwS z8N (t.l.map eLease) (eLease ⟨m, d⟩) (posL t.l m.id) hne (by simpa using hpl) (fun e he => by rcases List.mem_cons.1 he with rfl | he; rfl; obtain ⟨x, _, rfl⟩ := List.mem_map.1 he; rfl) (by simp; omega)
                 rw [List.length_map] at hin
                 simp only [eLease] at hin
                 rw [zjI zj (by simp)]; simp -implicitDefEqProofs (disch := omega) only [zf, getDT, go_sem, *]
             · simp only [h7, if_false]
               rw [zjI zj (by simp)]; simp -implicitDefEqProofs (disch := omega) only [zf, getDT, go_sem, *]; (try simp only [pA, pB, pC, pD, pE, pF, pG, pH, pI, pJ, pK, pL, pM, pN, pO, pP, if_true, if_false]); repeat' (first | done | rfl | ((first | refine iteC (fun hq => ?_) (fun hq => ?_) | refine iteP (fun hq => ?_) (fun hq => ?_)) <;> (try (first | (exfalso; omega) | contradiction)) <;> (try simp -implicitDefEqProofs (disch := omega) only [getDT, go_sem, *]) <;> (try simp only [pA, pB, pC, pD, pE, pF, pG, pH, pI, pJ, pK, pL, pM, pN, pO, pP, if_true, if_false]))); (all_goals try rfl); (all_goals try (repeat' (first | done | rfl | (exfalso; omega) | contradiction | (refine iteR (fun hq => ?_) (fun hq => ?_)))))
       · simp only [h4, not_false_eq_true, if_true, decide_false] at ht ⊢
         rw [zjI zj (by simp)]; simp -implicitDefEqProofs (disch := omega) only [zf, getDT, go_sem, *]; (try simp only [pA, pB, pC, pD, pE, pF, pG, pH, pI, pJ, pK, pL, pM, pN, pO, pP, if_true, if_false]); repeat' (first | done | rfl | ((first | refine iteC (fun hq => ?_) (fun hq => ?_) | refine iteP (fun hq => ?_) (fun hq => ?_)) <;> (try (first | (exfalso; omega) | contradiction)) <;> (try simp -implicitDefEqProofs (disch := omega) only [getDT, go_sem, *]) <;> (try simp only [pA, pB, pC, pD, pE, pF, pG, pH, pI, pJ, pK, pL, pM, pN, pO, pP, if_true, if_false]))); (all_goals try rfl); (all_goals try (repeat' (first | done | rfl | (exfalso; omega) | contradiction | (refine iteR (fun hq => ?_) (fun hq => ?_)))))
   · simp only [h2, not_false_eq_true, if_true, if_false]
     rw [zjI zj (by simp)]; simp -implicitDefEqProofs (disch := omega) only [zf, getDT, go_sem, *]; (try simp only [pA, pB, pC, pD, pE, pF, pG, pH, pI, pJ, pK, pL, pM, pN, pO, pP, if_true, if_false]); repeat' (first | done | rfl | ((first | refine iteC (fun hq => ?_) (fun hq => ?_) | refine iteP (fun hq => ?_) (fun hq => ?_)) <;> (try (first | (exfalso; omega) | contradiction)) <;> (try simp -implicitDefEqProofs (disch := omega) only [getDT, go_sem, *]) <;> (try simp only [pA, pB, pC, pD, pE, pF, pG, pH, pI, pJ, pK, pL, pM, pN, pO, pP, if_true, if_false]))); (all_goals try rfl); (all_goals try (repeat' (first | done | rfl | (exfalso; omega) | contradiction | (refine iteR (fun hq => ?_) (fun hq => ?_)))))
 · simp only [h1, ne_eq, not_false_eq_true, if_true, if_false]
   rw [zjI zj (by simp)]; simp -implicitDefEqProofs (disch := omega) only [zf, getDT, go_sem, *]; (try simp only [pA, pB, pC, pD, pE, pF, pG, pH, pI, pJ, pK, pL, pM, pN, pO, pP, if_true, if_false]); repeat' (first | done | rfl | ((first | refine iteC (fun hq => ?_) (fun hq => ?_) | refine iteP (fun hq => ?_) (fun hq => ?_)) <;> (try (first | (exfalso; omega) | contradiction)) <;> (try simp -implicitDefEqProofs (disch := omega) only [getDT, go_sem, *]) <;> (try simp only [pA, pB, pC, pD, pE, pF, pG, pH, pI, pJ, pK, pL, pM, pN, pO, pP, if_true, if_false]))); (all_goals try rfl); (all_goals try (repeat' (first | done | rfl | (exfalso; omega) | contradiction | (refine iteR (fun hq => ?_) (fun hq => ?_)))))
theorem find_ok (t : Table) (id : Int) (hL : t.l.length ≤ 4294967296) (hH : t.heap.length ≤ 4294967296) : callL G z1H [.d (eTable t), .d (.int .i64 id)] [] = some (.d (.tup [eLease (findT t id).1, .bool (findT t id).2]), []) := by
 have hv := znz t hL hH
 unfold findT
 by_cases h1 : tabV t = 0
 · obtain ⟨h12, hE, hD, hM⟩ := zk6 h1
   have ha := zk8 hE
   have hf := zo4 t id (by omega) ha
   by_cases h6 : 0 ≤ findL t.l id
   · obtain ⟨hp, e⟩ := (znc ha id).1 h6
     have e2 := znV ha h6
     simp only [h1, h6, and_self, if_true, decide_true] at hf ⊢
     rw [e2, Int.toNat_natCast, getDT hp]
     simp only [eTable, eLease] at hv hf ⊢
     rw [h1] at hv
     clear e e2 h6
     rw [zjI z63 (by simp)]; simp -implicitDefEqProofs (disch := omega) only [z3D, eLease, getDT, go_sem, *]
   · simp only [h1, h6, and_false, if_false, decide_false] at hf ⊢
     simp only [eTable, eLease, zLease, zMessage] at hv hf ⊢
     rw [h1] at hv
     rw [zjI z63 (by simp)]; simp -implicitDefEqProofs (disch := omega) only [z3D, getDT, go_sem, *]
 · simp only [h1, false_and, if_false]
   simp only [eTable, eLease, zLease, zMessage] at hv ⊢
   rw [zjI z63 (by simp)]; simp -implicitDefEqProofs (disch := omega) only [z3D, getDT, go_sem, *]
theorem zB4 (l : List Lease) (i : Nat) (hi : i < l.length) (hL : l.length ≤ 1000) : callL G z1N [.d (.sl (l.map eLease)), .d (.int .i64 i)] [] = some (.d (.sl ((dropI l i).map eLease)), []) := by
 have hne : l ≠ [] := by rintro rfl; simp at hi
 have hc := crow l hne hL
 have hd := zuW zc7 (l.map eLease) i (i + 1) (by omega) (by simp; omega) (fun e he => by obtain ⟨x, _, rfl⟩ := List.mem_map.1 he; rfl) (by simp; omega)
 rw [List.length_map] at hd
 simp only [Int.natCast_add, Int.natCast_one] at hd
 simp only [dropI, List.map_append, List.map_take, List.map_drop]
 rw [zjI zbr (by simp)]; simp -implicitDefEqProofs (disch := omega) only [zae, getDT, go_sem, *]
theorem rel_ok (t : Table) (id : Int) (hL : t.l.length ≤ 4294967296) (hH : t.heap.length ≤ 4294967296) : callL G z1K [.d (eTable t), .d (.int .i64 id)] [] = some (.d (.tup [eTable (relD t id).1, eMessage (relD t id).2.1, .int .i64 (relD t id).2.2]), []) := by
 have hv := znz t hL hH
 have hr := zsO t.heap id hH
 unfold relD relE
 simp only [eDE] at hr
 by_cases h1 : tabV t = 0
 · obtain ⟨h12, hE, hD, hM⟩ := zk6 h1
   have ha := zk8 hE
   have hf := zo4 t id (by omega) ha
   simp only [h1, ne_eq, not_true_eq_false, if_false]
   by_cases h6 : 0 ≤ findL t.l id
   · obtain ⟨hp, e⟩ := (znc ha id).1 h6
     have e2 := znV ha h6
     have hw := zB4 t.l (posL t.l id) hp (by omega)
     simp only [h6, not_true_eq_false, if_false, decide_true] at hf ⊢
     by_cases h7 : (removeD t.heap id).2 = 0
     · simp only [h7, if_true]
       rw [e2, Int.toNat_natCast, getDT hp]
       simp only [eTable, eMessage] at hv hf ⊢
       rw [h1] at hv
       rw [h7] at hr
       clear e e2 h6
       rw [zjI z3l (by simp)]; simp -implicitDefEqProofs (disch := omega) only [z34, eLease, getDT, go_sem, *]
     · simp only [h7, if_false]
       simp only [eTable, eMessage, zTable, zMessage] at hv hf ⊢
       rw [h1] at hv
       rw [zjI z3l (by simp)]; simp -implicitDefEqProofs (disch := omega) only [z34, getDT, go_sem, *]
   · simp only [h6, not_false_eq_true, if_true, decide_false] at hf ⊢
     simp only [eTable, eMessage, zTable, zMessage] at hv hf ⊢
     rw [h1] at hv
     rw [zjI z3l (by simp)]; simp -implicitDefEqProofs (disch := omega) only [z34, getDT, go_sem, *]
 · simp only [h1, ne_eq, not_false_eq_true, if_true, if_false]
   simp only [eTable, eMessage, zTable, zMessage] at hv ⊢
   rw [zjI z3l (by simp)]; simp -implicitDefEqProofs (disch := omega) only [z34, getDT, go_sem, *]
theorem ext_ok (t : Table) (id d : Int) (hL : t.l.length ≤ 4294967296) (hH : t.heap.length ≤ 4294967296) : callL G z1G [.d (eTable t), .d (.int .i64 id), .d (.int .i64 d)] [] = some (.d (.tup [eTable (extD t id d).1, .int .i64 (extD t id d).2]), []) := by
 have hv := znz t hL hH
 have hr := zsO t.heap id hH
 have ht := zpH d
 unfold extD extE
 simp only [eDE] at hr
 by_cases h1 : tabV t = 0
 · obtain ⟨h12, hE, hD, hM⟩ := zk6 h1
   have ha := zk8 hE
   have hf := zo4 t id (by omega) ha
   simp only [h1, ne_eq, not_true_eq_false, if_false]
   by_cases h6 : 0 ≤ findL t.l id
   · obtain ⟨hp, e⟩ := (znc ha id).1 h6
     have e2 := znV ha h6
     simp only [h6, not_true_eq_false, if_false, decide_true] at hf ⊢
     by_cases h4 : 0 ≤ d ∧ d ≤ 1073741824
     · simp only [h4, and_self, not_true_eq_false, if_false, decide_true] at ht ⊢
       by_cases h7 : (removeD t.heap id).2 = 0
       · have hrl : (removeD t.heap id).1.length ≤ 4294967296 := zsN t.heap id hH
         have hp2 := zsx (removeD t.heap id).1 (d, id) hrl
         simp only [eDE, eD] at hp2
         simp only [h7, not_true_eq_false, if_false]
         by_cases h8 : (pushD (removeD t.heap id).1 (d, id)).2 = 0
         · simp only [h8, if_true]
           have hne : t.l ≠ [] := by rintro h; rw [h] at hp; simp at hp
           have hc := crow t.l hne (by omega)
           have hst : (setD t.l (posL t.l id) d).map eLease = (t.l.map eLease).set (posL t.l id) (eLease { t.l[posL t.l id] with deadline := d }) := by
            simp only [setD, List.map_set, getDT hp]
           rw [e2, Int.toNat_natCast]
           rw [h7] at hr
           rw [h8] at hp2
           simp only [eTable, hst] at hv hf ⊢
           rw [h1] at hv
           simp only [eLease]
           clear e e2 h6
           rw [zjI z0E (by simp)]; simp -implicitDefEqProofs (disch := omega) only [z0t, eLease, getDT, go_sem, *]
         · simp only [h8, if_false]
           rw [h7] at hr
           simp only [eTable, zTable] at hv hf ⊢
           rw [h1] at hv
           rw [zjI z0E (by simp)]; simp -implicitDefEqProofs (disch := omega) only [z0t, getDT, go_sem, *]
       · simp only [h7, not_false_eq_true, if_true, if_false]
         simp only [eTable, zTable] at hv hf ⊢
         rw [h1] at hv
         rw [zjI z0E (by simp)]; simp -implicitDefEqProofs (disch := omega) only [z0t, getDT, go_sem, *]
     · simp only [h4, not_false_eq_true, if_true, decide_false] at ht ⊢
       simp only [eTable, zTable] at hv hf ⊢
       rw [h1] at hv
       rw [zjI z0E (by simp)]; simp -implicitDefEqProofs (disch := omega) only [z0t, getDT, go_sem, *]
   · simp only [h6, not_false_eq_true, if_true, decide_false] at hf ⊢
     simp only [eTable, zTable] at hv hf ⊢
     rw [h1] at hv
     rw [zjI z0E (by simp)]; simp -implicitDefEqProofs (disch := omega) only [z0t, getDT, go_sem, *]
 · simp only [h1, ne_eq, not_false_eq_true, if_true, if_false]
   simp only [eTable, zTable] at hv ⊢
   rw [zjI z0E (by simp)]; simp -implicitDefEqProofs (disch := omega) only [z0t, getDT, go_sem, *]
end Go.Proofs.YtcjncbkhbllchaaGreat.L
