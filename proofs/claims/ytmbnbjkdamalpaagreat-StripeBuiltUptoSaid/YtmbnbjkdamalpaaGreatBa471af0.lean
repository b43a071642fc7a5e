/-
  Shards: parts of Counts.
  Shards: Counts.
  Stripes: Begin, End; IndexFunc.
  Stripes: Sum, Quiet.
-/
import Derived.Test.YtmbnbjkdamalpaaGreatB4907353
set_option linter.unusedSimpArgs false
set_option linter.unusedVariables false
namespace Go.Proofs.YtmbnbjkdamalpaaGreat
open Go Go.Sim
set_option linter.unusedSimpArgs false
set_option linter.unusedVariables false
set_option maxHeartbeats 10000000
set_option maxRecDepth 40000
def cntN {α : Type} (p : α → Bool) (l : List α) (i : Nat) : Nat := ((l.take i).filter p).length
theorem cntN_succ {α : Type} (p : α → Bool) {l : List α} {i : Nat} (h : i < l.length) : cntN p l (i + 1) = cntN p l i + (if p l[i] = true then 1 else 0) := by
  unfold cntN
  rw [List.take_add_one, List.getElem?_eq_getElem h, List.filter_append, List.length_append]
  congr 1
  simp only [Option.toList, List.filter_cons]
  split <;> rfl
theorem cntN_le {α : Type} (p : α → Bool) (l : List α) (i : Nat) : cntN p l i ≤ i := Nat.le_trans (List.length_filter_le _ _) (by simp; omega)
def rdQ (ep lim : Int) (m : Message) : Bool := decide (¬ m.epoch < ep) && decide (¬ lim ≤ m.count)
def lsQ (ep : Int) (x : Lease) : Bool := decide (¬ x.msg.epoch < ep)
theorem idxb_ok (b1 b2 : Bool) : callL G N_slices_Index_bool [.d (.sl [.bool b1, .bool b2]), .d (.bool false)] [] = some (.d (.int .i64 (if b1 = true then (if b2 = true then -1 else 1) else 0)), []) := by
  cases b1
  · cases b2
    · rw [callL_code g_slices_Index_bool (by simp)]; simp -implicitDefEqProofs (maxSteps := 4000000) (disch := omega) only [c_slices_Index_bool, r_slices_Index_bool, loopL_eq, l_slices_Index_bool_0, getDT, go_sem, *] /-A0-/
    · rw [callL_code g_slices_Index_bool (by simp)]; simp -implicitDefEqProofs (maxSteps := 4000000) (disch := omega) only [c_slices_Index_bool, r_slices_Index_bool, loopL_eq, l_slices_Index_bool_0, getDT, go_sem, *] /-A1-/
  · cases b2
    · rw [callL_code g_slices_Index_bool (by simp)]; simp -implicitDefEqProofs (maxSteps := 4000000) (disch := omega) only [c_slices_Index_bool, r_slices_Index_bool, loopL_eq, l_slices_Index_bool_0, getDT, go_sem, *] /-A2-/
    · rw [callL_code g_slices_Index_bool (by simp)]; simp -implicitDefEqProofs (maxSteps := 4000000) (disch := omega) only [c_slices_Index_bool, r_slices_Index_bool, loopL_eq, l_slices_Index_bool_0, getDT, go_sem, *] /-A3-/
theorem contb_ok (b1 b2 : Bool) : callL G N_slices_Contains_bool [.d (.sl [.bool b1, .bool b2]), .d (.bool false)] [] = some (.d (.bool (!(b1 && b2))), []) := by
  have h := idxb_ok b1 b2
  cases b1
  · cases b2
    · simp only [Bool.false_eq_true, if_false] at h
      rw [callL_code g_slices_Contains_bool (by simp)]; simp -implicitDefEqProofs (maxSteps := 4000000) (disch := omega) only [c_slices_Contains_bool, r_slices_Contains_bool, getDT, go_sem, *] /-A4-/
    · simp only [Bool.false_eq_true, if_false] at h
      rw [callL_code g_slices_Contains_bool (by simp)]; simp -implicitDefEqProofs (maxSteps := 4000000) (disch := omega) only [c_slices_Contains_bool, r_slices_Contains_bool, getDT, go_sem, *] /-A5-/
  · cases b2
    · simp only [Bool.false_eq_true, if_false, if_true] at h
      rw [callL_code g_slices_Contains_bool (by simp)]; simp -implicitDefEqProofs (maxSteps := 4000000) (disch := omega) only [c_slices_Contains_bool, r_slices_Contains_bool, getDT, go_sem, *] /-A6-/
    · simp only [if_true] at h
      rw [callL_code g_slices_Contains_bool (by simp)]; simp -implicitDefEqProofs (maxSteps := 4000000) (disch := omega) only [c_slices_Contains_bool, r_slices_Contains_bool, getDT, go_sem, *] /-A7-/
def liveV (s : Shard) : Int := if shardV s ≠ 0 then shardV s else if s.live = true then 0 else 7
theorem live_ok (s : Shard) (h1 : s.ready.cells.length ≤ 4294967296) (h2 : s.leases.l.length ≤ 4294967296) (h3 : s.leases.heap.length ≤ 4294967296) : callL G N_shard_live [.d (eShard s)] [] = some (.d (.int .i64 (liveV s)), []) := by
  have hv := shval_ok s h1 h2 h3
  unfold liveV
  generalize shardV s = v at *
  obtain ⟨lv, lo, hi, ⟨c, h, z⟩, ⟨tl, th⟩⟩ := s
  simp only [eShard] at hv ⊢
  by_cases e : v = 0
  · subst e
    cases lv
    · rw [callL_code g_shard_live (by simp)]; simp -implicitDefEqProofs (maxSteps := 4000000) (disch := omega) only [c_shard_live, r_shard_live, getDT, go_sem, *] /-A8-/
    · rw [callL_code g_shard_live (by simp)]; simp -implicitDefEqProofs (maxSteps := 4000000) (disch := omega) only [c_shard_live, r_shard_live, getDT, go_sem, *] /-A9-/
  · rw [if_pos e]
    rw [callL_code g_shard_live (by simp)]; simp -implicitDefEqProofs (maxSteps := 4000000) (disch := omega) only [c_shard_live, r_shard_live, getDT, go_sem, *] /-A10-/
theorem live7_ok (s : Shard) (h1 : s.ready.cells.length ≤ 4294967296) (h2 : s.leases.l.length ≤ 4294967296) (h3 : s.leases.heap.length ≤ 4294967296) : callL G N_ref07_Live [.d (eShard s)] [] = some (.d (.int .i64 (liveV s)), []) := by
  have hv := r07val_ok s h1 h2 h3
  unfold liveV
  generalize shardV s = v at *
  obtain ⟨lv, lo, hi, ⟨c, h, z⟩, ⟨tl, th⟩⟩ := s
  simp only [eShard] at hv ⊢
  by_cases e : v = 0
  · subst e
    cases lv
    · rw [callL_code g_ref07_Live (by simp)]; simp -implicitDefEqProofs (maxSteps := 4000000) (disch := omega) only [c_ref07_Live, r_ref07_Live, getDT, go_sem, *] /-A11-/
    · rw [callL_code g_ref07_Live (by simp)]; simp -implicitDefEqProofs (maxSteps := 4000000) (disch := omega) only [c_ref07_Live, r_ref07_Live, getDT, go_sem, *] /-A12-/
  · rw [if_pos e]
    rw [callL_code g_ref07_Live (by simp)]; simp -implicitDefEqProofs (maxSteps := 4000000) (disch := omega) only [c_ref07_Live, r_ref07_Live, getDT, go_sem, *] /-A13-/
theorem usable_ok (s : Shard) (b1 b2 : Bool) (h1 : s.ready.cells.length ≤ 4294967296) (h2 : s.leases.l.length ≤ 4294967296) (h3 : s.leases.heap.length ≤ 4294967296) : callL G N_shard_usable [.d (eShard s), .d (.sl [.bool b1, .bool b2])] [] = some (.d (.int .i64 (if liveV s ≠ 0 then liveV s else if (b1 && b2) = true then 0 else 1)), []) := by
  have hv := live_ok s h1 h2 h3
  have hc := contb_ok b1 b2
  generalize liveV s = v at *
  simp only [eShard] at hv ⊢
  generalize (b1 && b2) = b at *
  by_cases e : v = 0
  · subst e
    cases b
    · rw [callL_code g_shard_usable (by simp)]; simp -implicitDefEqProofs (maxSteps := 4000000) (disch := omega) only [c_shard_usable, r_shard_usable, getDT, go_sem, *] /-A14-/
    · rw [callL_code g_shard_usable (by simp)]; simp -implicitDefEqProofs (maxSteps := 4000000) (disch := omega) only [c_shard_usable, r_shard_usable, getDT, go_sem, *] /-A15-/
  · rw [if_pos e]
    clear hc
    rw [callL_code g_shard_usable (by simp)]; simp -implicitDefEqProofs (maxSteps := 4000000) (disch := omega) only [c_shard_usable, r_shard_usable, getDT, go_sem, *] /-A16-/
def c0S (s : Shard) (l : List Message) (ep lim : Int) (i : Nat) : St := ⟨[(1, .d (.int .i64 ep)), (2, .d (.int .i64 lim)), (3, .ref 3 0 0), (6, .d (.int .i64 (cntN (rdQ ep lim) l i))), (7, .d (.int .i64 0)), (22, .acc 22 (l.map eMessage)), (23, .d (.int .i64 l.length)), (24, .d (.int .i64 i))], [(3, .row [.d (eShard s)]), (22, .acc l.length)]⟩
theorem purged_ok (m : Message) (ep : Int) : callL G N_message_Purged [.d (eMessage m), .d (.int .i64 ep)] [] = some (.d (.bool (decide (m.epoch < ep))), []) := by
  simp only [eMessage]
  rw [callL_code g_message_Purged (by simp)]; simp -implicitDefEqProofs (maxSteps := 4000000) (disch := omega) only [c_message_Purged, r_message_Purged, getDT, go_sem, *] /-A17-/
theorem spent_ok (m : Message) (lim : Int) : callL G N_message_Spent [.d (eMessage m), .d (.int .i64 lim)] [] = some (.d (.bool (decide (lim ≤ m.count))), []) := by
  simp only [eMessage]
  rw [callL_code g_message_Spent (by simp)]; simp -implicitDefEqProofs (maxSteps := 4000000) (disch := omega) only [c_message_Spent, r_message_Spent, getDT, go_sem, *] /-A18-/
theorem purged3_ok (m : Message) (ep : Int) : callL G N_ref03_Purged [.d (eMessage m), .d (.int .i64 ep)] [] = some (.d (.bool (decide (m.epoch < ep))), []) := by
  simp only [eMessage]
  rw [callL_code g_ref03_Purged (by simp)]; simp -implicitDefEqProofs (maxSteps := 4000000) (disch := omega) only [c_ref03_Purged, r_ref03_Purged, getDT, go_sem, *] /-A19-/
theorem spent3_ok (m : Message) (lim : Int) : callL G N_ref03_Spent [.d (eMessage m), .d (.int .i64 lim)] [] = some (.d (.bool (decide (lim ≤ m.count))), []) := by
  simp only [eMessage]
  rw [callL_code g_ref03_Spent (by simp)]; simp -implicitDefEqProofs (maxSteps := 4000000) (disch := omega) only [c_ref03_Spent, r_ref03_Spent, getDT, go_sem, *] /-A20-/
theorem c0_loop (s : Shard) (l : List Message) (ep lim : Int) (h1 : l.length ≤ 24) : ∀ i, i ≤ l.length → loopL G [] l_shard_Counts_0 (c0S s l ep lim i) = some (.exit 0, ⟨[(1, .d (.int .i64 ep)), (3, .ref 3 0 0), (6, .d (.int .i64 (cntN (rdQ ep lim) l l.length))), (7, .d (.int .i64 0))], [(3, .row [.d (eShard s)])]⟩) := by
  refine loop_ind (fun i => l.length - i) (fun i => i ≤ l.length) (c0S s l ep lim) _ fun i hi L ih => ?_
  by_cases h0 : i < l.length
  · have i1 := ih (i + 1) (by omega) (by omega)
    clear ih
    have hp := purged_ok l[i] ep
    have hs := spent_ok l[i] lim
    have hle := cntN_le (rdQ ep lim) l i
    generalize cntN (rdQ ep lim) l l.length = z at *
    rw [c0S, cntN_succ _ h0] at i1
    simp only [c0S, l_shard_Counts_0]
    generalize cntN (rdQ ep lim) l i = w at *
    simp only [eMessage, eShard] at i1 hp hs ⊢
    unfold rdQ at i1
    by_cases c1 : l[i].epoch < ep
    · simp only [c1, not_true_eq_false, decide_true, decide_false, Bool.false_and, Bool.false_eq_true, if_false, Nat.add_zero] at i1 hp
      simp only [Int.natCast_add, Int.natCast_one, Int.natCast_zero, Int.natCast_mul, Int.cast_ofNat_Int, List.length_append, List.length_map, List.map_nil, List.length_nil, List.map_append, List.map_cons, List.length_cons, Nat.zero_add, srcO, mapSet] at i1
      simp -implicitDefEqProofs (maxSteps := 4000000) (disch := omega) only [eMessage, getDT, go_sem, *] /-A21-/
    · by_cases c2 : lim ≤ l[i].count
      · simp only [c1, c2, not_true_eq_false, not_false_eq_true, decide_true, decide_false, Bool.and_false, Bool.false_eq_true, if_false, Nat.add_zero] at i1 hp hs
        simp only [Int.natCast_add, Int.natCast_one, Int.natCast_zero, Int.natCast_mul, Int.cast_ofNat_Int, List.length_append, List.length_map, List.map_nil, List.length_nil, List.map_append, List.map_cons, List.length_cons, Nat.zero_add, srcO, mapSet] at i1
        simp -implicitDefEqProofs (maxSteps := 4000000) (disch := omega) only [eMessage, getDT, go_sem, *] /-A22-/
      · simp only [c1, c2, not_false_eq_true, decide_true, decide_false, Bool.and_self, if_true] at i1 hp hs
        simp only [Int.natCast_add, Int.natCast_one, Int.natCast_zero, Int.natCast_mul, Int.cast_ofNat_Int, List.length_append, List.length_map, List.map_nil, List.length_nil, List.map_append, List.map_cons, List.length_cons, Nat.zero_add, srcO, mapSet] at i1
        simp -implicitDefEqProofs (maxSteps := 4000000) (disch := omega) only [eMessage, getDT, go_sem, *] /-A23-/
  · clear ih
    have : i = l.length := by omega
    subst this
    simp only [c0S, eShard, l_shard_Counts_0]
    simp -implicitDefEqProofs (maxSteps := 4000000) (disch := omega) only [getDT, go_sem, *] /-A24-/
def c1S (l : List Lease) (ep n : Int) (i : Nat) : St := ⟨[(1, .d (.int .i64 ep)), (6, .d (.int .i64 n)), (7, .d (.int .i64 (cntN (lsQ ep) l i))), (43, .d (.sl (l.map eLease))), (44, .d (.int .i64 l.length)), (45, .d (.int .i64 i))], []⟩
theorem c1_loop (l : List Lease) (ep n : Int) (h1 : l.length ≤ 24) : ∀ i, i ≤ l.length → loopL G [] l_shard_Counts_1 (c1S l ep n i) = some (.exit 2, ⟨[(6, .d (.int .i64 n)), (7, .d (.int .i64 (cntN (lsQ ep) l l.length)))], []⟩) := by
  refine loop_ind (fun i => l.length - i) (fun i => i ≤ l.length) (c1S l ep n) _ fun i hi L ih => ?_
  by_cases h0 : i < l.length
  · have i1 := ih (i + 1) (by omega) (by omega)
    clear ih
    have hp := purged_ok l[i].msg ep
    have hle := cntN_le (lsQ ep) l i
    generalize cntN (lsQ ep) l l.length = z at *
    rw [c1S, cntN_succ _ h0] at i1
    simp only [c1S, l_shard_Counts_1]
    generalize cntN (lsQ ep) l i = w at *
    simp only [eMessage] at hp
    unfold lsQ at i1
    by_cases c1 : l[i].msg.epoch < ep
    · simp only [c1, not_true_eq_false, decide_true, decide_false, Bool.false_eq_true, if_false, Nat.add_zero] at i1 hp
      simp only [Int.natCast_add, Int.natCast_one, Int.natCast_zero, Int.natCast_mul, Int.cast_ofNat_Int, List.length_append, List.length_map, List.map_nil, List.length_nil, List.map_append, List.map_cons, List.length_cons, Nat.zero_add, srcO, mapSet] at i1
      simp -implicitDefEqProofs (maxSteps := 4000000) (disch := omega) only [eLease, getDT, go_sem, *] /-A25-/
    · simp only [c1, not_false_eq_true, decide_true, decide_false, if_true] at i1 hp
      simp only [Int.natCast_add, Int.natCast_one, Int.natCast_zero, Int.natCast_mul, Int.cast_ofNat_Int, List.length_append, List.length_map, List.map_nil, List.length_nil, List.map_append, List.map_cons, List.length_cons, Nat.zero_add, srcO, mapSet] at i1
      simp -implicitDefEqProofs (maxSteps := 4000000) (disch := omega) only [eLease, getDT, go_sem, *] /-A26-/
  · clear ih
    have : i = l.length := by omega
    subst this
    simp only [c1S, l_shard_Counts_1]
    simp -implicitDefEqProofs (maxSteps := 4000000) (disch := omega) only [getDT, go_sem, *] /-A27-/
end Go.Proofs.YtmbnbjkdamalpaaGreat

namespace Go.Proofs.YtmbnbjkdamalpaaGreat
open Go Go.Sim
set_option linter.unusedSimpArgs false
set_option linter.unusedVariables false
set_option maxHeartbeats 10000000
set_option maxRecDepth 40000
def mQ (ep : Int) (m : Message) : Bool := decide (¬ m.epoch < ep)
theorem cntN_msg (ep : Int) (l : List Lease) (i : Nat) : cntN (mQ ep) (l.map (·.msg)) i = cntN (lsQ ep) l i := by
  unfold cntN
  rw [← List.map_take, List.filter_map, List.length_map]; rfl
theorem isEp_ok (n : Int) : callL G N_shard_isEpoch [.d (.int .i64 n)] [] = some (.d (.bool (decide (0 ≤ n ∧ n ≤ 65536))), []) := by
  have h := sin_ok n 0 65536
  rw [callL_code g_shard_isEpoch (by simp)]; simp -implicitDefEqProofs (maxSteps := 4000000) (disch := omega) only [c_shard_isEpoch, r_shard_isEpoch, getDT, go_sem, *] /-A0-/
theorem isLim_ok (n : Int) : callL G N_shard_isLimit [.d (.int .i64 n)] [] = some (.d (.bool (decide (1 ≤ n ∧ n ≤ 8))), []) := by
  have h := sin_ok n 1 8
  rw [callL_code g_shard_isLimit (by simp)]; simp -implicitDefEqProofs (maxSteps := 4000000) (disch := omega) only [c_shard_isLimit, r_shard_isLimit, getDT, go_sem, *] /-A1-/
theorem ep7_ok (n : Int) : callL G N_ref07_epochs [.d (.int .i64 n)] [] = some (.d (.bool (decide (0 ≤ n ∧ n ≤ 65536))), []) := by
  by_cases h : 0 ≤ n ∧ n ≤ 65536
  · rw [decide_eq_true h]
    rw [callL_code g_ref07_epochs (by simp)]; simp -implicitDefEqProofs (maxSteps := 4000000) (disch := omega) only [c_ref07_epochs, r_ref07_epochs, getDT, go_sem, *] /-A2-/
  · rw [decide_eq_false h]
    have e : (decide (0 ≤ n) && decide (n ≤ 65536)) = false := by simp; omega
    rw [callL_code g_ref07_epochs (by simp)]; simp -implicitDefEqProofs (maxSteps := 4000000) (disch := omega) only [c_ref07_epochs, r_ref07_epochs, e, getDT, go_sem, *] /-A3-/
theorem lim7_ok (n : Int) : callL G N_ref07_limits [.d (.int .i64 n)] [] = some (.d (.bool (decide (1 ≤ n ∧ n ≤ 8))), []) := by
  by_cases h : 1 ≤ n ∧ n ≤ 8
  · rw [decide_eq_true h]
    rw [callL_code g_ref07_limits (by simp)]; simp -implicitDefEqProofs (maxSteps := 4000000) (disch := omega) only [c_ref07_limits, r_ref07_limits, getDT, go_sem, *] /-A4-/
  · rw [decide_eq_false h]
    have e : (decide (1 ≤ n) && decide (n ≤ 8)) = false := by simp; omega
    rw [callL_code g_ref07_limits (by simp)]; simp -implicitDefEqProofs (maxSteps := 4000000) (disch := omega) only [c_ref07_limits, r_ref07_limits, e, getDT, go_sem, *] /-A5-/
def k0S (l w : List Message) (ep lim : Int) (i : Nat) : St := ⟨[(1, .d (.int .i64 ep)), (2, .d (.int .i64 lim)), (8, .d (.int .i64 (cntN (rdQ ep lim) l i))), (9, .d (.int .i64 0)), (10, .d (.sl (l.map eMessage))), (11, .d (.sl (w.map eMessage))), (12, .d (.int .i64 i))], []⟩
theorem k0_loop (l w : List Message) (ep lim : Int) (h1 : l.length ≤ 24) : ∀ i, i ≤ l.length → loopL G [] l_ref07_Counts_0 (k0S l w ep lim i) = some (.exit 0, ⟨[(1, .d (.int .i64 ep)), (8, .d (.int .i64 (cntN (rdQ ep lim) l l.length))), (9, .d (.int .i64 0)), (11, .d (.sl (w.map eMessage)))], []⟩) := by
  refine loop_ind (fun i => l.length - i) (fun i => i ≤ l.length) (k0S l w ep lim) _ fun i hi L ih => ?_
  by_cases h0 : i < l.length
  · have i1 := ih (i + 1) (by omega) (by omega)
    clear ih
    have hp := purged3_ok l[i] ep
    have hs := spent3_ok l[i] lim
    have hle := cntN_le (rdQ ep lim) l i
    generalize cntN (rdQ ep lim) l l.length = z at *
    rw [k0S, cntN_succ _ h0] at i1
    simp only [k0S, l_ref07_Counts_0]
    generalize cntN (rdQ ep lim) l i = n at *
    generalize w.map eMessage = ww at *
    simp only [eMessage] at hp hs
    unfold rdQ at i1
    by_cases c1 : l[i].epoch < ep
    · simp only [c1, not_true_eq_false, decide_true, decide_false, Bool.false_and, Bool.false_eq_true, if_false, Nat.add_zero] at i1 hp
      simp only [Int.natCast_add, Int.natCast_one, Int.natCast_zero, Int.natCast_mul, Int.cast_ofNat_Int, List.length_append, List.length_map, List.map_nil, List.length_nil, List.map_append, List.map_cons, List.length_cons, Nat.zero_add, srcO, mapSet] at i1
      simp -implicitDefEqProofs (maxSteps := 4000000) (disch := omega) only [eMessage, getDT, go_sem, *] /-A6-/
    · by_cases c2 : lim ≤ l[i].count
      · simp only [c1, c2, not_true_eq_false, not_false_eq_true, decide_true, decide_false, Bool.and_false, Bool.false_eq_true, if_false, Nat.add_zero] at i1 hp hs
        simp only [Int.natCast_add, Int.natCast_one, Int.natCast_zero, Int.natCast_mul, Int.cast_ofNat_Int, List.length_append, List.length_map, List.map_nil, List.length_nil, List.map_append, List.map_cons, List.length_cons, Nat.zero_add, srcO, mapSet] at i1
        simp -implicitDefEqProofs (maxSteps := 4000000) (disch := omega) only [eMessage, getDT, go_sem, *] /-A7-/
      · simp only [c1, c2, not_false_eq_true, decide_true, decide_false, Bool.and_self, if_true] at i1 hp hs
        simp only [Int.natCast_add, Int.natCast_one, Int.natCast_zero, Int.natCast_mul, Int.cast_ofNat_Int, List.length_append, List.length_map, List.map_nil, List.length_nil, List.map_append, List.map_cons, List.length_cons, Nat.zero_add, srcO, mapSet] at i1
        simp -implicitDefEqProofs (maxSteps := 4000000) (disch := omega) only [eMessage, getDT, go_sem, *] /-A8-/
  · clear ih
    have : i = l.length := by omega
    subst this
    simp only [k0S, l_ref07_Counts_0]
    simp -implicitDefEqProofs (maxSteps := 4000000) (disch := omega) only [getDT, go_sem, *] /-A9-/
def k1S (w : List Message) (ep n : Int) (i : Nat) : St := ⟨[(1, .d (.int .i64 ep)), (8, .d (.int .i64 n)), (9, .d (.int .i64 (cntN (mQ ep) w i))), (11, .d (.sl (w.map eMessage))), (13, .d (.int .i64 i))], []⟩
theorem k1_loop (w : List Message) (ep n : Int) (h1 : w.length ≤ 24) : ∀ i, i ≤ w.length → loopL G [] l_ref07_Counts_1 (k1S w ep n i) = some (.exit 2, ⟨[(8, .d (.int .i64 n)), (9, .d (.int .i64 (cntN (mQ ep) w w.length)))], []⟩) := by
  refine loop_ind (fun i => w.length - i) (fun i => i ≤ w.length) (k1S w ep n) _ fun i hi L ih => ?_
  by_cases h0 : i < w.length
  · have i1 := ih (i + 1) (by omega) (by omega)
    clear ih
    have hp := purged3_ok w[i] ep
    have hle := cntN_le (mQ ep) w i
    generalize cntN (mQ ep) w w.length = z at *
    rw [k1S, cntN_succ _ h0] at i1
    simp only [k1S, l_ref07_Counts_1]
    generalize cntN (mQ ep) w i = q at *
    simp only [eMessage] at hp
    unfold mQ at i1
    by_cases c1 : w[i].epoch < ep
    · simp only [c1, not_true_eq_false, decide_true, decide_false, Bool.false_eq_true, if_false, Nat.add_zero] at i1 hp
      simp only [Int.natCast_add, Int.natCast_one, Int.natCast_zero, Int.natCast_mul, Int.cast_ofNat_Int, List.length_append, List.length_map, List.map_nil, List.length_nil, List.map_append, List.map_cons, List.length_cons, Nat.zero_add, srcO, mapSet] at i1
      simp -implicitDefEqProofs (maxSteps := 4000000) (disch := omega) only [eMessage, getDT, go_sem, *] /-A10-/
    · simp only [c1, not_false_eq_true, decide_true, decide_false, if_true] at i1 hp
      simp only [Int.natCast_add, Int.natCast_one, Int.natCast_zero, Int.natCast_mul, Int.cast_ofNat_Int, List.length_append, List.length_map, List.map_nil, List.length_nil, List.map_append, List.map_cons, List.length_cons, Nat.zero_add, srcO, mapSet] at i1
      simp -implicitDefEqProofs (maxSteps := 4000000) (disch := omega) only [eMessage, getDT, go_sem, *] /-A11-/
  · clear ih
    have : i = w.length := by omega
    subst this
    simp only [k1S, l_ref07_Counts_1]
    simp -implicitDefEqProofs (maxSteps := 4000000) (disch := omega) only [getDT, go_sem, *] /-A12-/
def cntD (s : Shard) (ep lim : Int) : Int × Int :=
  if liveV s = 0 ∧ (0 ≤ ep ∧ ep ≤ 65536) ∧ 1 ≤ lim ∧ lim ≤ 8 then ((cntN (rdQ ep lim) (ordD s.ready) (ordD s.ready).length : Nat), (cntN (lsQ ep) s.leases.l s.leases.l.length : Nat)) else (0, 0)
theorem liveV_zero {s : Shard} (h : liveV s = 0) : ringV s.ready = 0 ∧ tabV s.leases = 0 := by
  have h0 : shardV s = 0 := Classical.byContradiction fun hc => by unfold liveV at h; rw [if_pos hc] at h; exact hc h
  by_cases e1 : ringV s.ready = 0
  · refine ⟨e1, Classical.byContradiction fun e2 => ?_⟩
    unfold shardV at h0
    rw [if_neg (fun hc => hc e1), if_pos e2] at h0
    exact e2 h0
  · unfold shardV at h0
    rw [if_pos e1] at h0
    exact absurd h0 e1
theorem counts_ok (s : Shard) (ep lim : Int) (h1 : s.ready.cells.length ≤ 4294967296) (h2 : s.leases.l.length ≤ 4294967296) (h3 : s.leases.heap.length ≤ 4294967296) : callL G N_shard_Counts [.d (eShard s), .d (.int .i64 ep), .d (.int .i64 lim)] [] = some (.d (.tup [.int .i64 (cntD s ep lim).1, .int .i64 (cntD s ep lim).2]), []) := by
  have he := isEp_ok ep
  have hli := isLim_ok lim
  have hu := usable_ok s (decide (0 ≤ ep ∧ ep ≤ 65536)) (decide (1 ≤ lim ∧ lim ≤ 8)) h1 h2 h3
  by_cases c : liveV s = 0 ∧ (0 ≤ ep ∧ ep ≤ 65536) ∧ 1 ≤ lim ∧ lim ≤ 8
  · unfold cntD
    rw [if_pos c]
    obtain ⟨c0, c1, c2⟩ := c
    rw [decide_eq_true c1] at he hu
    rw [decide_eq_true c2] at hli hu
    rw [if_neg (fun hc => hc c0)] at hu
    simp only [Bool.and_self, if_true] at hu
    obtain ⟨e1, e2⟩ := liveV_zero c0
    have hl := tl_len e2
    have hb : (ordD s.ready).length ≤ 24 := by
      rw [ordD_len]
      obtain ⟨a1, a2, a3, a4, a5, a6⟩ := ringV_zero e1
      omega
    have hr := ringlist_ok e1
    have hl0 := c0_loop s (ordD s.ready) ep lim hb 0 (by omega)
    generalize hn : cntN (rdQ ep lim) (ordD s.ready) (ordD s.ready).length = n at *
    have hl1 := c1_loop s.leases.l ep n (by omega) 0 (by omega)
    simp only [c0S, cntN, List.take_zero, List.filter_nil, List.length_nil] at hl0
    simp only [c1S, cntN, List.take_zero, List.filter_nil, List.length_nil] at hl1
    clear hn c0 e1 e2
    generalize ordD s.ready = w at *
    simp only [cntN]
    obtain ⟨lv, lo, hi, ⟨cs, h, z⟩, ⟨tl, th⟩⟩ := s
    simp only [eShard, eRing] at hu hr hl0 hl1 hl h1 h2 h3 ⊢
    simp only [Int.natCast_add, Int.natCast_one, Int.natCast_zero, Int.natCast_mul, Int.cast_ofNat_Int, List.length_append, List.length_map, List.map_nil, List.length_nil, List.map_append, List.map_cons, List.length_cons, Nat.zero_add, srcO, mapSet] at hl0 hl1
    rw [callL_code g_shard_Counts (by simp)]; simp -implicitDefEqProofs (maxSteps := 4000000) (disch := omega) only [c_shard_Counts, r_shard_Counts, getDT, go_sem, *] /-A13-/
  · unfold cntD
    rw [if_neg c]
    have hz : ¬ (if liveV s ≠ 0 then liveV s else if (decide (0 ≤ ep ∧ ep ≤ 65536) && decide (1 ≤ lim ∧ lim ≤ 8)) = true then 0 else 1) = 0 := by
      intro hc
      split at hc
      · rename_i hh; exact hh hc
      · rename_i hh
        split at hc
        · rename_i h5
          simp only [Bool.and_eq_true, decide_eq_true_eq] at h5
          exact c ⟨Classical.not_not.1 hh, h5.1, h5.2⟩
        · cases hc
    generalize (if liveV s ≠ 0 then liveV s else if (decide (0 ≤ ep ∧ ep ≤ 65536) && decide (1 ≤ lim ∧ lim ≤ 8)) = true then 0 else 1) = q at *
    generalize decide (0 ≤ ep ∧ ep ≤ 65536) = b1 at *
    generalize decide (1 ≤ lim ∧ lim ≤ 8) = b2 at *
    clear c
    simp only [eShard] at hu ⊢
    rw [callL_code g_shard_Counts (by simp)]; simp -implicitDefEqProofs (maxSteps := 4000000) (disch := omega) only [c_shard_Counts, r_shard_Counts, getDT, go_sem, *] /-A14-/
theorem counts7_ok (s : Shard) (ep lim : Int) (h1 : s.ready.cells.length ≤ 4294967296) (h2 : s.leases.l.length ≤ 4294967296) (h3 : s.leases.heap.length ≤ 4294967296) : callL G N_ref07_Counts [.d (eShard s), .d (.int .i64 ep), .d (.int .i64 lim)] [] = some (.d (.tup [.int .i64 (cntD s ep lim).1, .int .i64 (cntD s ep lim).2]), []) := by
  have he := ep7_ok ep
  have hli := lim7_ok lim
  have hu := live7_ok s h1 h2 h3
  by_cases c : liveV s = 0 ∧ (0 ≤ ep ∧ ep ≤ 65536) ∧ 1 ≤ lim ∧ lim ≤ 8
  · unfold cntD
    rw [if_pos c]
    obtain ⟨c0, c1, c2⟩ := c
    rw [decide_eq_true c1] at he
    rw [decide_eq_true c2] at hli
    rw [c0] at hu
    obtain ⟨e1, e2⟩ := liveV_zero c0
    have hl := tl_len e2
    have hb : (ordD s.ready).length ≤ 24 := by
      rw [ordD_len]
      obtain ⟨a1, a2, a3, a4, a5, a6⟩ := ringV_zero e1
      omega
    have hr := ready7_ok e1
    have hle := leased7_ok hl
    have hl0 := k0_loop (ordD s.ready) (s.leases.l.map (·.msg)) ep lim hb 0 (by omega)
    generalize hn : cntN (rdQ ep lim) (ordD s.ready) (ordD s.ready).length = n at *
    have hl1 := k1_loop (s.leases.l.map (·.msg)) ep n (by simp; omega) 0 (by omega)
    rw [cntN_msg ep s.leases.l, List.length_map] at hl1
    simp only [k0S, cntN, List.take_zero, List.filter_nil, List.length_nil] at hl0
    simp only [k1S, cntN, List.take_zero, List.filter_nil, List.length_nil] at hl1
    clear hn c0 e1 e2
    generalize ordD s.ready = w at *
    generalize s.leases.l.map (·.msg) = w2 at *
    simp only [cntN]
    obtain ⟨lv, lo, hi, ⟨cs, h, z⟩, ⟨tl, th⟩⟩ := s
    simp only [eShard] at hu hr hle hl0 hl1 hl h1 h2 h3 ⊢
    simp only [Int.natCast_add, Int.natCast_one, Int.natCast_zero, Int.natCast_mul, Int.cast_ofNat_Int, List.length_append, List.length_map, List.map_nil, List.length_nil, List.map_append, List.map_cons, List.length_cons, Nat.zero_add, srcO, mapSet] at hl0 hl1
    rw [callL_code g_ref07_Counts (by simp)]; simp -implicitDefEqProofs (maxSteps := 4000000) (disch := omega) only [c_ref07_Counts, r_ref07_Counts, getDT, go_sem, *] /-A15-/
  · unfold cntD
    rw [if_neg c]
    by_cases c0 : liveV s = 0
    · rw [c0] at hu
      by_cases c1 : 0 ≤ ep ∧ ep ≤ 65536
      · rw [decide_eq_true c1] at he
        rw [decide_eq_false (fun hc => c ⟨c0, c1, hc⟩)] at hli
        clear c c0
        simp only [eShard] at hu ⊢
        rw [callL_code g_ref07_Counts (by simp)]; simp -implicitDefEqProofs (maxSteps := 4000000) (disch := omega) only [c_ref07_Counts, r_ref07_Counts, getDT, go_sem, *] /-A16-/
      · rw [decide_eq_false c1] at he
        clear c c0
        simp only [eShard] at hu ⊢
        rw [callL_code g_ref07_Counts (by simp)]; simp -implicitDefEqProofs (maxSteps := 4000000) (disch := omega) only [c_ref07_Counts, r_ref07_Counts, getDT, go_sem, *] /-A17-/
    · clear c
      generalize liveV s = v at *
      simp only [eShard] at hu ⊢
      rw [callL_code g_ref07_Counts (by simp)]; simp -implicitDefEqProofs (maxSteps := 4000000) (disch := omega) only [c_ref07_Counts, r_ref07_Counts, getDT, go_sem, *] /-A18-/
end Go.Proofs.YtmbnbjkdamalpaaGreat

namespace Go.Proofs.YtmbnbjkdamalpaaGreat
open Go Go.Sim
set_option linter.unusedSimpArgs false
set_option linter.unusedVariables false
set_option maxHeartbeats 10000000
set_option maxRecDepth 40000
def numQ (n : Int) : Prop := 0 ≤ n ∧ n ≤ 1099511627776
instance (n : Int) : Decidable (numQ n) := by unfold numQ; exact inferInstance
theorem number_ok (n : Int) : callL G N_stripe_number [.d (.int .i64 n)] [] = some (.d (.bool (decide (numQ n))), []) := by
  by_cases h : numQ n
  · rw [decide_eq_true h]
    unfold numQ at h
    rw [callL_code g_stripe_number (by simp)]; simp -implicitDefEqProofs (maxSteps := 4000000) (disch := omega) only [c_stripe_number, r_stripe_number, getDT, go_sem, *] /-A0-/
  · rw [decide_eq_false h]
    unfold numQ at h
    have e : (decide (0 ≤ n) && decide (n ≤ 1099511627776)) = false := by simp; omega
    rw [callL_code g_stripe_number (by simp)]; simp -implicitDefEqProofs (maxSteps := 4000000) (disch := omega) only [c_stripe_number, r_stripe_number, e, getDT, go_sem, *] /-A1-/
theorem counted_ok (n : Int) : callL G N_ref11_counted [.d (.int .i64 n)] [] = some (.d (.bool (decide (numQ n))), []) := by
  by_cases h : numQ n
  · rw [decide_eq_true h]
    unfold numQ at h
    rw [callL_code g_ref11_counted (by simp)]; simp -implicitDefEqProofs (maxSteps := 4000000) (disch := omega) only [c_ref11_counted, r_ref11_counted, getDT, go_sem, *] /-A2-/
  · rw [decide_eq_false h]
    unfold numQ at h
    have e : (decide (0 ≤ n) && decide (n ≤ 1099511627776)) = false := by simp; omega
    rw [callL_code g_ref11_counted (by simp)]; simp -implicitDefEqProofs (maxSteps := 4000000) (disch := omega) only [c_ref11_counted, r_ref11_counted, e, getDT, go_sem, *] /-A3-/
def beginD (s : Stripe) : Stripe × Int := if ¬ numQ s.seq then (zStripe, 1) else if s.seq.tmod 2 = 1 then (zStripe, 7) else if 1099511627774 < s.seq then (zStripe, 6) else (⟨s.seq + 1, s.epoch, s.ready, s.leased⟩, 0)
theorem begin_ok (s : Stripe) : callL G N_stripe_Begin [.d (eStripe s)] [] = some (.d (.tup [eStripe (beginD s).1, .int .i64 (beginD s).2]), []) := by
  have hn := number_ok s.seq
  unfold beginD
  by_cases h : numQ s.seq
  · rw [decide_eq_true h] at hn
    rw [if_neg (fun hc => hc h)]
    unfold numQ at h
    by_cases h1 : s.seq.tmod 2 = 1
    · simp only [h1, if_true, eStripe, zStripe]
      rw [callL_code g_stripe_Begin (by simp)]; simp -implicitDefEqProofs (maxSteps := 4000000) (disch := omega) only [c_stripe_Begin, r_stripe_Begin, getDT, go_sem, *] /-A4-/
    · simp only [h1, if_false]
      by_cases h2 : 1099511627774 < s.seq
      · simp only [h2, if_true, eStripe, zStripe]
        rw [callL_code g_stripe_Begin (by simp)]; simp -implicitDefEqProofs (maxSteps := 4000000) (disch := omega) only [c_stripe_Begin, r_stripe_Begin, getDT, go_sem, *] /-A5-/
      · simp only [h2, if_false, eStripe]
        rw [callL_code g_stripe_Begin (by simp)]; simp -implicitDefEqProofs (maxSteps := 4000000) (disch := omega) only [c_stripe_Begin, r_stripe_Begin, getDT, go_sem, *] /-A6-/
  · rw [decide_eq_false h] at hn
    rw [if_pos h]
    simp only [eStripe, zStripe]
    rw [callL_code g_stripe_Begin (by simp)]; simp -implicitDefEqProofs (maxSteps := 4000000) (disch := omega) only [c_stripe_Begin, r_stripe_Begin, getDT, go_sem, *] /-A7-/
theorem begin11_ok (s : Stripe) : callL G N_ref11_Begin [.d (eStripe s)] [] = some (.d (.tup [eStripe (beginD s).1, .int .i64 (beginD s).2]), []) := by
  unfold beginD
  by_cases h : numQ s.seq
  · rw [if_neg (fun hc => hc h)]
    unfold numQ at h
    by_cases h1 : s.seq.tmod 2 = 1
    · simp only [h1, if_true, eStripe, zStripe]
      rw [callL_code g_ref11_Begin (by simp)]; simp -implicitDefEqProofs (maxSteps := 4000000) (disch := omega) only [c_ref11_Begin, r_ref11_Begin, getDT, go_sem, *]; (try simp only [pA, pB, pC, pD, pE, pF, pG, pH, pI, pJ, pK, pL, pM, pN, pO, pP, if_true, if_false]); repeat' (first | done | rfl | ((first | refine iteC (fun hq => ?_) (fun hq => ?_) | refine iteP (fun hq => ?_) (fun hq => ?_)) <;> (try (first | (exfalso; omega) | contradiction)) <;> (try simp -implicitDefEqProofs (maxSteps := 4000000) (disch := omega) only [getDT, go_sem, *]) <;> (try simp only [pA, pB, pC, pD, pE, pF, pG, pH, pI, pJ, pK, pL, pM, pN, pO, pP, if_true, if_false]))); (all_goals try rfl); (all_goals try (repeat' (first | done | rfl | (exfalso; omega) | contradiction | (refine iteR (fun hq => ?_) (fun hq => ?_))))) /-A8-/
    · simp only [h1, if_false]
      by_cases h2 : 1099511627774 < s.seq
      · simp only [h2, if_true, eStripe, zStripe]
        rw [callL_code g_ref11_Begin (by simp)]; simp -implicitDefEqProofs (maxSteps := 4000000) (disch := omega) only [c_ref11_Begin, r_ref11_Begin, getDT, go_sem, *] /-A9-/
      · simp only [h2, if_false, eStripe]
        rw [callL_code g_ref11_Begin (by simp)]; simp -implicitDefEqProofs (maxSteps := 4000000) (disch := omega) only [c_ref11_Begin, r_ref11_Begin, getDT, go_sem, *] /-A10-/
  · rw [if_pos h]
    unfold numQ at h
    simp only [eStripe, zStripe]
    rw [callL_code g_ref11_Begin (by simp)]; simp -implicitDefEqProofs (maxSteps := 4000000) (disch := omega) only [c_ref11_Begin, r_ref11_Begin, getDT, go_sem, *]; (try simp only [pA, pB, pC, pD, pE, pF, pG, pH, pI, pJ, pK, pL, pM, pN, pO, pP, if_true, if_false]); repeat' (first | done | rfl | ((first | refine iteC (fun hq => ?_) (fun hq => ?_) | refine iteP (fun hq => ?_) (fun hq => ?_)) <;> (try (first | (exfalso; omega) | contradiction)) <;> (try simp -implicitDefEqProofs (maxSteps := 4000000) (disch := omega) only [getDT, go_sem, *]) <;> (try simp only [pA, pB, pC, pD, pE, pF, pG, pH, pI, pJ, pK, pL, pM, pN, pO, pP, if_true, if_false]))); (all_goals try rfl); (all_goals try (repeat' (first | done | rfl | (exfalso; omega) | contradiction | (refine iteR (fun hq => ?_) (fun hq => ?_))))) /-A11-/
def endD (s : Stripe) (x : Shard) (ep lim : Int) : Stripe × Int := if ¬ numQ s.seq then (zStripe, 1) else if s.seq.tmod 2 = 0 then (zStripe, 7) else if shardV x ≠ 0 then (zStripe, shardV x) else if ¬ (0 ≤ ep ∧ ep ≤ 65536 ∧ 1 ≤ lim ∧ lim ≤ 8) then (zStripe, 1) else (⟨s.seq + 1, ep, (cntD x ep lim).1, (cntD x ep lim).2⟩, 0)
theorem end_ok (s : Stripe) (x : Shard) (ep lim : Int) (h1 : x.ready.cells.length ≤ 4294967296) (h2 : x.leases.l.length ≤ 4294967296) (h3 : x.leases.heap.length ≤ 4294967296) : callL G N_stripe_End [.d (eStripe s), .d (eShard x), .d (.int .i64 ep), .d (.int .i64 lim)] [] = some (.d (.tup [eStripe (endD s x ep lim).1, .int .i64 (endD s x ep lim).2]), []) := by
  have hn := number_ok s.seq
  have hv := shval_ok x h1 h2 h3
  have hc := counts_ok x ep lim h1 h2 h3
  unfold endD
  generalize cntD x ep lim = cc at *
  obtain ⟨cc1, cc2⟩ := cc
  generalize shardV x = v at *
  by_cases h : numQ s.seq
  · rw [decide_eq_true h] at hn
    rw [if_neg (fun hc => hc h)]
    unfold numQ at h
    by_cases e1 : s.seq.tmod 2 = 0
    · simp only [e1, if_true, eStripe, zStripe, eShard]
      rw [callL_code g_stripe_End (by simp)]; simp -implicitDefEqProofs (maxSteps := 4000000) (disch := omega) only [c_stripe_End, r_stripe_End, getDT, go_sem, *] /-A12-/
    · simp only [e1, if_false]
      by_cases e2 : v = 0
      · subst e2
        simp only [ne_eq, not_true_eq_false, if_false]
        by_cases e3 : 0 ≤ ep ∧ ep ≤ 65536 ∧ 1 ≤ lim ∧ lim ≤ 8
        · rw [if_neg (fun hc => hc e3)]
          simp only [eStripe, eShard] at hv hc ⊢
          rw [callL_code g_stripe_End (by simp)]; simp -implicitDefEqProofs (maxSteps := 4000000) (disch := omega) only [c_stripe_End, r_stripe_End, getDT, go_sem, *] /-A13-/
        · rw [if_pos e3]
          simp only [eStripe, zStripe, eShard] at hv ⊢
          clear hc
          rw [callL_code g_stripe_End (by simp)]; simp -implicitDefEqProofs (maxSteps := 4000000) (disch := omega) only [c_stripe_End, r_stripe_End, getDT, go_sem, *]; (try simp only [pA, pB, pC, pD, pE, pF, pG, pH, pI, pJ, pK, pL, pM, pN, pO, pP, if_true, if_false]); repeat' (first | done | rfl | ((first | refine iteC (fun hq => ?_) (fun hq => ?_) | refine iteP (fun hq => ?_) (fun hq => ?_)) <;> (try (first | (exfalso; omega) | contradiction)) <;> (try simp -implicitDefEqProofs (maxSteps := 4000000) (disch := omega) only [getDT, go_sem, *]) <;> (try simp only [pA, pB, pC, pD, pE, pF, pG, pH, pI, pJ, pK, pL, pM, pN, pO, pP, if_true, if_false]))); (all_goals try rfl); (all_goals try (repeat' (first | done | rfl | (exfalso; omega) | contradiction | (refine iteR (fun hq => ?_) (fun hq => ?_))))) /-A14-/
      · simp only [ne_eq, e2, not_false_eq_true, if_true, eStripe, zStripe, eShard] at hv ⊢
        clear hc
        rw [callL_code g_stripe_End (by simp)]; simp -implicitDefEqProofs (maxSteps := 4000000) (disch := omega) only [c_stripe_End, r_stripe_End, getDT, go_sem, *] /-A15-/
  · rw [decide_eq_false h] at hn
    rw [if_pos h]
    clear hc hv
    simp only [eStripe, zStripe, eShard]
    rw [callL_code g_stripe_End (by simp)]; simp -implicitDefEqProofs (maxSteps := 4000000) (disch := omega) only [c_stripe_End, r_stripe_End, getDT, go_sem, *] /-A16-/
theorem end11_ok (s : Stripe) (x : Shard) (ep lim : Int) (h1 : x.ready.cells.length ≤ 4294967296) (h2 : x.leases.l.length ≤ 4294967296) (h3 : x.leases.heap.length ≤ 4294967296) : callL G N_ref11_End [.d (eStripe s), .d (eShard x), .d (.int .i64 ep), .d (.int .i64 lim)] [] = some (.d (.tup [eStripe (endD s x ep lim).1, .int .i64 (endD s x ep lim).2]), []) := by
  have hv := r07val_ok x h1 h2 h3
  have hc := counts7_ok x ep lim h1 h2 h3
  unfold endD
  generalize cntD x ep lim = cc at *
  obtain ⟨cc1, cc2⟩ := cc
  generalize shardV x = v at *
  by_cases h : numQ s.seq
  · rw [if_neg (fun hc => hc h)]
    unfold numQ at h
    by_cases e1 : s.seq.tmod 2 = 0
    · simp only [e1, if_true, eStripe, zStripe, eShard]
      rw [callL_code g_ref11_End (by simp)]; simp -implicitDefEqProofs (maxSteps := 4000000) (disch := omega) only [c_ref11_End, r_ref11_End, getDT, go_sem, *] /-A17-/
    · simp only [e1, if_false]
      by_cases e2 : v = 0
      · subst e2
        simp only [ne_eq, not_true_eq_false, if_false]
        by_cases e3 : 0 ≤ ep ∧ ep ≤ 65536 ∧ 1 ≤ lim ∧ lim ≤ 8
        · rw [if_neg (fun hc => hc e3)]
          simp only [eStripe, eShard] at hv hc ⊢
          rw [callL_code g_ref11_End (by simp)]; simp -implicitDefEqProofs (maxSteps := 4000000) (disch := omega) only [c_ref11_End, r_ref11_End, getDT, go_sem, *] /-A18-/
        · rw [if_pos e3]
          simp only [eStripe, zStripe, eShard] at hv ⊢
          clear hc
          rw [callL_code g_ref11_End (by simp)]; simp -implicitDefEqProofs (maxSteps := 4000000) (disch := omega) only [c_ref11_End, r_ref11_End, getDT, go_sem, *]; (try simp only [pA, pB, pC, pD, pE, pF, pG, pH, pI, pJ, pK, pL, pM, pN, pO, pP, if_true, if_false]); repeat' (first | done | rfl | ((first | refine iteC (fun hq => ?_) (fun hq => ?_) | refine iteP (fun hq => ?_) (fun hq => ?_)) <;> (try (first | (exfalso; omega) | contradiction)) <;> (try simp -implicitDefEqProofs (maxSteps := 4000000) (disch := omega) only [getDT, go_sem, *]) <;> (try simp only [pA, pB, pC, pD, pE, pF, pG, pH, pI, pJ, pK, pL, pM, pN, pO, pP, if_true, if_false]))); (all_goals try rfl); (all_goals try (repeat' (first | done | rfl | (exfalso; omega) | contradiction | (refine iteR (fun hq => ?_) (fun hq => ?_))))) /-A19-/
      · simp only [ne_eq, e2, not_false_eq_true, if_true, eStripe, zStripe, eShard] at hv ⊢
        clear hc
        rw [callL_code g_ref11_End (by simp)]; simp -implicitDefEqProofs (maxSteps := 4000000) (disch := omega) only [c_ref11_End, r_ref11_End, getDT, go_sem, *] /-A20-/
  · rw [if_pos h]
    unfold numQ at h
    clear hc hv
    simp only [eStripe, zStripe, eShard]
    rw [callL_code g_ref11_End (by simp)]; simp -implicitDefEqProofs (maxSteps := 4000000) (disch := omega) only [c_ref11_End, r_ref11_End, getDT, go_sem, *]; (try simp only [pA, pB, pC, pD, pE, pF, pG, pH, pI, pJ, pK, pL, pM, pN, pO, pP, if_true, if_false]); repeat' (first | done | rfl | ((first | refine iteC (fun hq => ?_) (fun hq => ?_) | refine iteP (fun hq => ?_) (fun hq => ?_)) <;> (try (first | (exfalso; omega) | contradiction)) <;> (try simp -implicitDefEqProofs (maxSteps := 4000000) (disch := omega) only [getDT, go_sem, *]) <;> (try simp only [pA, pB, pC, pD, pE, pF, pG, pH, pI, pJ, pK, pL, pM, pN, pO, pP, if_true, if_false]))); (all_goals try rfl); (all_goals try (repeat' (first | done | rfl | (exfalso; omega) | contradiction | (refine iteR (fun hq => ?_) (fun hq => ?_))))) /-A21-/
theorem idx_api_Stripe (l : List Stripe) (g : Nat) (cs : List D) (p : Stripe → Bool) (hL : l.length ≤ 4294967296) (hp : ∀ a ∈ l, callL G g (.d (eStripe a) :: cs.map .d) [] = some (.d (.bool (p a)), [])) : callL G N_slices_IndexFunc_api_Stripe [.d (.sl (l.map eStripe)), .d (.fn g cs)] [] = some (.d (.int .i64 (idxI p l)), []) := by
  have := loop_find (G := G) (x := l_slices_IndexFunc_api_Stripe_0) (ks := []) l.length (atB l p) (fun k => ⟨[(0, .d (.sl (l.map eStripe))), (1, .d (.fn g cs)), (7, .d (.int .i64 l.length)), (8, .d (.int .i64 k))], []⟩) (fun k => (.ret, ⟨[(4, .d (.int .i64 k))], []⟩)) (.exit 0, ⟨[], []⟩) (fun k hk L => by
    simp only [l_slices_IndexFunc_api_Stripe_0]
    by_cases h0 : k < l.length
    · have h1 := hp l[k] (List.getElem_mem h0)
      simp only [atB_at h0]
      cases h2 : p l[k]
      · rw [h2] at h1
        simp -implicitDefEqProofs (maxSteps := 4000000) (disch := omega) only [go_sem, h1, eStripe_asAgg]
      · rw [h2] at h1
        simp -implicitDefEqProofs (maxSteps := 4000000) (disch := omega) only [go_sem, h1, eStripe_asAgg]
    · simp -implicitDefEqProofs (maxSteps := 4000000) (disch := omega) only [go_sem, Nat.zero_add])
  rw [findR_idx] at this
  simp only [Int.natCast_add, Int.natCast_one, Int.natCast_zero, Int.natCast_mul, Int.cast_ofNat_Int, List.length_append, List.length_map, List.map_nil, List.length_nil, List.map_append, List.map_cons, List.length_cons, Nat.zero_add, srcO, mapSet] at this
  unfold idxI
  cases h : l.findIdx? p with
  | none => rw [h] at this; rw [callL_code g_slices_IndexFunc_api_Stripe (by simp)]; simp -implicitDefEqProofs (maxSteps := 4000000) (disch := omega) only [c_slices_IndexFunc_api_Stripe, r_slices_IndexFunc_api_Stripe, go_sem, this]
  | some i => rw [h] at this; rw [callL_code g_slices_IndexFunc_api_Stripe (by simp)]; simp -implicitDefEqProofs (maxSteps := 4000000) (disch := omega) only [c_slices_IndexFunc_api_Stripe, r_slices_IndexFunc_api_Stripe, go_sem, this]
theorem contains_api_Stripe (l : List Stripe) (g : Nat) (cs : List D) (p : Stripe → Bool) (hL : l.length ≤ 4294967296) (hp : ∀ a ∈ l, callL G g (.d (eStripe a) :: cs.map .d) [] = some (.d (.bool (p a)), [])) : callL G N_slices_ContainsFunc_api_Stripe [.d (.sl (l.map eStripe)), .d (.fn g cs)] [] = some (.d (.bool (l.any p)), []) := by
  rw [callL_code g_slices_ContainsFunc_api_Stripe (by simp)]; simp -implicitDefEqProofs (maxSteps := 4000000) (disch := omega) only [c_slices_ContainsFunc_api_Stripe, r_slices_ContainsFunc_api_Stripe, go_sem, idx_api_Stripe l g cs p hL hp, idxI_any]
end Go.Proofs.YtmbnbjkdamalpaaGreat

namespace Go.Proofs.YtmbnbjkdamalpaaGreat
open Go Go.Sim
set_option linter.unusedSimpArgs false
set_option linter.unusedVariables false
set_option maxHeartbeats 10000000
set_option maxRecDepth 40000
def stepQ (ep : Int) (p : Int × Int) (s : Stripe) : Int × Int := if s.epoch = ep ∧ numQ s.seq ∧ numQ s.ready ∧ numQ s.leased then (IntKind.i64.wrap (p.1 + s.ready), IntKind.i64.wrap (p.2 + s.leased)) else p
def sumN (l : List Stripe) (ep : Int) (i : Nat) : Int × Int := (l.take i).foldl (stepQ ep) (0, 0)
theorem sumN_succ {l : List Stripe} (ep : Int) {i : Nat} (h : i < l.length) : sumN l ep (i + 1) = stepQ ep (sumN l ep i) l[i] := by
  unfold sumN; rw [List.take_add_one, List.getElem?_eq_getElem h, List.foldl_append]; rfl
def suS (l : List Stripe) (ep : Int) (i : Nat) : St := ⟨[(1, .d (.int .i64 ep)), (4, .d (.int .i64 (sumN l ep i).1)), (5, .d (.int .i64 (sumN l ep i).2)), (8, .d (.sl (l.map eStripe))), (9, .d (.int .i64 l.length)), (10, .d (.int .i64 i))], []⟩
theorem su_loop (l : List Stripe) (ep : Int) (h1 : l.length ≤ 4294967296) : ∀ i, i ≤ l.length → loopL G [] l_stripe_Sum_0 (suS l ep i) = some (.exit 0, ⟨[(4, .d (.int .i64 (sumN l ep l.length).1)), (5, .d (.int .i64 (sumN l ep l.length).2))], []⟩) := by
  refine loop_ind (fun i => l.length - i) (fun i => i ≤ l.length) (suS l ep) _ fun i hi L ih => ?_
  by_cases h0 : i < l.length
  · have i1 := ih (i + 1) (by omega) (by omega)
    clear ih
    have n1 := number_ok l[i].seq
    have n2 := number_ok l[i].ready
    have n3 := number_ok l[i].leased
    generalize sumN l ep l.length = z at *
    rw [suS, sumN_succ ep h0] at i1
    simp only [suS, l_stripe_Sum_0]
    generalize sumN l ep i = q at *
    obtain ⟨q1, q2⟩ := q
    unfold stepQ at i1
    by_cases c1 : l[i].epoch = ep
    · by_cases c2 : numQ l[i].seq
      · by_cases c3 : numQ l[i].ready
        · by_cases c4 : numQ l[i].leased
          · simp only [c1, c2, c3, c4, and_self, if_true, decide_true] at i1 n1 n2 n3
            simp only [Int.natCast_add, Int.natCast_one, Int.natCast_zero, Int.natCast_mul, Int.cast_ofNat_Int, List.length_append, List.length_map, List.map_nil, List.length_nil, List.map_append, List.map_cons, List.length_cons, Nat.zero_add, srcO, mapSet] at i1
            simp -implicitDefEqProofs (maxSteps := 4000000) (disch := omega) only [eStripe, c1, getDT, go_sem, *] /-A0-/
          · simp only [c1, c2, c3, c4, and_false, and_self, if_false, decide_true, decide_false] at i1 n1 n2 n3
            simp only [Int.natCast_add, Int.natCast_one, Int.natCast_zero, Int.natCast_mul, Int.cast_ofNat_Int, List.length_append, List.length_map, List.map_nil, List.length_nil, List.map_append, List.map_cons, List.length_cons, Nat.zero_add, srcO, mapSet] at i1
            simp -implicitDefEqProofs (maxSteps := 4000000) (disch := omega) only [eStripe, c1, getDT, go_sem, *] /-A1-/
        · simp only [c1, c2, c3, and_false, false_and, and_self, if_false, decide_true, decide_false] at i1 n1 n2
          simp only [Int.natCast_add, Int.natCast_one, Int.natCast_zero, Int.natCast_mul, Int.cast_ofNat_Int, List.length_append, List.length_map, List.map_nil, List.length_nil, List.map_append, List.map_cons, List.length_cons, Nat.zero_add, srcO, mapSet] at i1
          simp -implicitDefEqProofs (maxSteps := 4000000) (disch := omega) only [eStripe, c1, getDT, go_sem, *] /-A2-/
      · simp only [c1, c2, and_false, false_and, and_self, if_false, decide_true, decide_false] at i1 n1
        simp only [Int.natCast_add, Int.natCast_one, Int.natCast_zero, Int.natCast_mul, Int.cast_ofNat_Int, List.length_append, List.length_map, List.map_nil, List.length_nil, List.map_append, List.map_cons, List.length_cons, Nat.zero_add, srcO, mapSet] at i1
        simp -implicitDefEqProofs (maxSteps := 4000000) (disch := omega) only [eStripe, c1, getDT, go_sem, *] /-A3-/
    · simp only [c1, false_and, if_false] at i1
      simp only [Int.natCast_add, Int.natCast_one, Int.natCast_zero, Int.natCast_mul, Int.cast_ofNat_Int, List.length_append, List.length_map, List.map_nil, List.length_nil, List.map_append, List.map_cons, List.length_cons, Nat.zero_add, srcO, mapSet] at i1
      simp -implicitDefEqProofs (maxSteps := 4000000) (disch := omega) only [eStripe, getDT, go_sem, *] /-A4-/
  · clear ih
    have : i = l.length := by omega
    subst this
    simp only [suS, l_stripe_Sum_0]
    simp -implicitDefEqProofs (maxSteps := 4000000) (disch := omega) only [getDT, go_sem, *] /-A5-/
theorem sum_ok (l : List Stripe) (ep : Int) (h1 : l.length ≤ 4294967296) : callL G N_stripe_Sum [.d (.sl (l.map eStripe)), .d (.int .i64 ep)] [] = some (.d (.tup [.int .i64 (sumN l ep l.length).1, .int .i64 (sumN l ep l.length).2]), []) := by
  have hl := su_loop l ep h1 0 (by omega)
  generalize sumN l ep l.length = z at *
  simp only [suS, sumN, List.take_zero, List.foldl_nil, Int.natCast_zero] at hl
  rw [callL_code g_stripe_Sum (by simp)]; simp -implicitDefEqProofs (maxSteps := 4000000) (disch := omega) only [c_stripe_Sum, r_stripe_Sum, getDT, go_sem, *] /-A6-/
def s11S (l : List Stripe) (ep : Int) (i : Nat) : St := ⟨[(0, .d (.sl (l.map eStripe))), (1, .d (.int .i64 ep)), (6, .d (.int .i64 (sumN l ep i).1)), (7, .d (.int .i64 (sumN l ep i).2)), (8, .d (.int .i64 i))], []⟩
theorem s11_loop (l : List Stripe) (ep : Int) (h1 : l.length ≤ 4294967296) : ∀ i, i ≤ l.length → loopL G [] l_ref11_Sum_0 (s11S l ep i) = some (.exit 0, ⟨[(6, .d (.int .i64 (sumN l ep l.length).1)), (7, .d (.int .i64 (sumN l ep l.length).2))], []⟩) := by
  refine loop_ind (fun i => l.length - i) (fun i => i ≤ l.length) (s11S l ep) _ fun i hi L ih => ?_
  by_cases h0 : i < l.length
  · have i1 := ih (i + 1) (by omega) (by omega)
    clear ih
    have n1 := counted_ok l[i].seq
    have n2 := counted_ok l[i].ready
    have n3 := counted_ok l[i].leased
    generalize sumN l ep l.length = z at *
    rw [s11S, sumN_succ ep h0] at i1
    simp only [s11S, l_ref11_Sum_0]
    generalize sumN l ep i = q at *
    obtain ⟨q1, q2⟩ := q
    unfold stepQ at i1
    by_cases c1 : l[i].epoch = ep
    · by_cases c2 : numQ l[i].seq
      · by_cases c3 : numQ l[i].ready
        · by_cases c4 : numQ l[i].leased
          · simp only [c1, c2, c3, c4, and_self, if_true, decide_true] at i1 n1 n2 n3
            simp only [Int.natCast_add, Int.natCast_one, Int.natCast_zero, Int.natCast_mul, Int.cast_ofNat_Int, List.length_append, List.length_map, List.map_nil, List.length_nil, List.map_append, List.map_cons, List.length_cons, Nat.zero_add, srcO, mapSet] at i1
            simp -implicitDefEqProofs (maxSteps := 4000000) (disch := omega) only [eStripe, c1, getDT, go_sem, *] /-A7-/
          · simp only [c1, c2, c3, c4, and_false, and_self, if_false, decide_true, decide_false] at i1 n1 n2 n3
            simp only [Int.natCast_add, Int.natCast_one, Int.natCast_zero, Int.natCast_mul, Int.cast_ofNat_Int, List.length_append, List.length_map, List.map_nil, List.length_nil, List.map_append, List.map_cons, List.length_cons, Nat.zero_add, srcO, mapSet] at i1
            simp -implicitDefEqProofs (maxSteps := 4000000) (disch := omega) only [eStripe, c1, getDT, go_sem, *] /-A8-/
        · simp only [c1, c2, c3, and_false, false_and, and_self, if_false, decide_true, decide_false] at i1 n1 n2
          simp only [Int.natCast_add, Int.natCast_one, Int.natCast_zero, Int.natCast_mul, Int.cast_ofNat_Int, List.length_append, List.length_map, List.map_nil, List.length_nil, List.map_append, List.map_cons, List.length_cons, Nat.zero_add, srcO, mapSet] at i1
          simp -implicitDefEqProofs (maxSteps := 4000000) (disch := omega) only [eStripe, c1, getDT, go_sem, *] /-A9-/
      · simp only [c1, c2, and_false, false_and, and_self, if_false, decide_true, decide_false] at i1 n1
        simp only [Int.natCast_add, Int.natCast_one, Int.natCast_zero, Int.natCast_mul, Int.cast_ofNat_Int, List.length_append, List.length_map, List.map_nil, List.length_nil, List.map_append, List.map_cons, List.length_cons, Nat.zero_add, srcO, mapSet] at i1
        simp -implicitDefEqProofs (maxSteps := 4000000) (disch := omega) only [eStripe, c1, getDT, go_sem, *] /-A10-/
    · simp only [c1, false_and, if_false] at i1
      simp only [Int.natCast_add, Int.natCast_one, Int.natCast_zero, Int.natCast_mul, Int.cast_ofNat_Int, List.length_append, List.length_map, List.map_nil, List.length_nil, List.map_append, List.map_cons, List.length_cons, Nat.zero_add, srcO, mapSet] at i1
      simp -implicitDefEqProofs (maxSteps := 4000000) (disch := omega) only [eStripe, getDT, go_sem, *] /-A11-/
  · clear ih
    have : i = l.length := by omega
    subst this
    simp only [s11S, l_ref11_Sum_0]
    simp -implicitDefEqProofs (maxSteps := 4000000) (disch := omega) only [getDT, go_sem, *] /-A12-/
theorem sum11_ok (l : List Stripe) (ep : Int) (h1 : l.length ≤ 4294967296) : callL G N_ref11_Sum [.d (.sl (l.map eStripe)), .d (.int .i64 ep)] [] = some (.d (.tup [.int .i64 (sumN l ep l.length).1, .int .i64 (sumN l ep l.length).2]), []) := by
  have hl := s11_loop l ep h1 0 (by omega)
  generalize sumN l ep l.length = z at *
  simp only [s11S, sumN, List.take_zero, List.foldl_nil, Int.natCast_zero] at hl
  rw [callL_code g_ref11_Sum (by simp)]; simp -implicitDefEqProofs (maxSteps := 4000000) (disch := omega) only [c_ref11_Sum, r_ref11_Sum, getDT, go_sem, *] /-A13-/
def oddQ (s : Stripe) : Bool := decide (¬ s.seq.tmod 2 = 0)
theorem q1_ok (s : Stripe) : callL G N_stripe_Quiet_1 [.d (eStripe s)] [] = some (.d (.bool (oddQ s)), []) := by
  unfold oddQ
  simp only [eStripe]
  by_cases h : s.seq.tmod 2 = 0
  · simp only [h, not_true_eq_false, decide_false]
    rw [callL_code g_stripe_Quiet_1 (by simp)]; simp -implicitDefEqProofs (maxSteps := 4000000) (disch := omega) only [c_stripe_Quiet_1, r_stripe_Quiet_1, getDT, go_sem, *] /-A14-/
  · simp only [h, not_false_eq_true, decide_true]
    rw [callL_code g_stripe_Quiet_1 (by simp)]; simp -implicitDefEqProofs (maxSteps := 4000000) (disch := omega) only [c_stripe_Quiet_1, r_stripe_Quiet_1, getDT, go_sem, *] /-A15-/
theorem quiet_ok (l : List Stripe) (h1 : l.length ≤ 4294967296) : callL G N_stripe_Quiet [.d (.sl (l.map eStripe))] [] = some (.d (.bool (!l.any oddQ)), []) := by
  have h := contains_api_Stripe l N_stripe_Quiet_1 [] oddQ h1 (fun a _ => q1_ok a)
  rw [callL_code g_stripe_Quiet (by simp)]; simp -implicitDefEqProofs (maxSteps := 4000000) (disch := omega) only [c_stripe_Quiet, r_stripe_Quiet, getDT, go_sem, *] /-A16-/
theorem quiet11_ok (l : List Stripe) (h1 : l.length ≤ 4294967296) : callL G N_ref11_Quiet [.d (.sl (l.map eStripe))] [] = some (.d (.bool (!l.any oddQ)), []) := by
  have := loop_find (G := G) (x := l_ref11_Quiet_0) (ks := []) l.length (atB l oddQ) (fun k => ⟨[(0, .d (.sl (l.map eStripe))), (3, .d (.int .i64 k))], []⟩) (fun k => (.ret, ⟨[(2, .d (.bool false))], []⟩)) (.exit 0, ⟨[], []⟩) (fun k hk L => by
    simp only [l_ref11_Quiet_0]
    by_cases h0 : k < l.length
    · rw [if_pos h0]
      simp only [atB_at h0]
      unfold oddQ
      by_cases h1 : l[k].seq.tmod 2 = 0
      · simp only [h1, not_true_eq_false, decide_false, Bool.false_eq_true, if_false]
        simp -implicitDefEqProofs (maxSteps := 4000000) (disch := omega) only [eStripe, h1, getDT, go_sem, *] /-A17-/
      · simp only [h1, not_false_eq_true, decide_true, if_true]
        simp -implicitDefEqProofs (maxSteps := 4000000) (disch := omega) only [eStripe, getDT, go_sem, *] /-A18-/
    · rw [if_neg h0]
      simp -implicitDefEqProofs (maxSteps := 4000000) (disch := omega) only [getDT, go_sem, *] /-A19-/)
  rw [findR_idx] at this
  simp only [Int.natCast_add, Int.natCast_one, Int.natCast_zero, Int.natCast_mul, Int.cast_ofNat_Int, List.length_append, List.length_map, List.map_nil, List.length_nil, List.map_append, List.map_cons, List.length_cons, Nat.zero_add, srcO, mapSet] at this
  cases h : l.findIdx? oddQ with
  | none =>
    have e : l.any oddQ = false := List.any_eq_false.2 fun x hx => by simpa using List.findIdx?_eq_none_iff.1 h x hx
    rw [h] at this; rw [e]
    rw [callL_code g_ref11_Quiet (by simp)]; simp -implicitDefEqProofs (maxSteps := 4000000) (disch := omega) only [c_ref11_Quiet, r_ref11_Quiet, getDT, go_sem, *] /-A20-/
  | some i =>
    obtain ⟨hi, e, _⟩ := List.findIdx?_eq_some_iff_getElem.1 h
    have e : l.any oddQ = true := List.any_eq_true.2 ⟨_, List.getElem_mem hi, e⟩
    rw [h] at this; rw [e]
    rw [callL_code g_ref11_Quiet (by simp)]; simp -implicitDefEqProofs (maxSteps := 4000000) (disch := omega) only [c_ref11_Quiet, r_ref11_Quiet, getDT, go_sem, *] /-A21-/
end Go.Proofs.YtmbnbjkdamalpaaGreat
