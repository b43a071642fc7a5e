/-
  Arenas: New.
  The reader of numbers.
  Arenas: locks.
  Equality of structs and of lists.
  Locks of the reference; lockers of both.
  Lockers of both.
  Lockers of both: steps.
  The laws of lockers: the cells that are drawn; the first law.
-/
import Derived.Test.YtkdjbfjohbiemaaBeee4b7c
set_option linter.unusedSimpArgs false
set_option linter.unusedVariables false
namespace Go.Proofs.Ytkdjbfjohbiemaa
open Go Go.Sim
set_option linter.unusedSimpArgs false
set_option linter.unusedVariables false
set_option maxHeartbeats 10000000
set_option maxRecDepth 40000
structure SetupOk (s : Setup) (n l : Nat) : Prop where
  ns : s.slots = n
  nl : s.live = l
  h1 : 1 ≤ l
  h2 : l ≤ n
  h3 : n ≤ 6
  c1 : 1 ≤ s.capacity
  c2 : s.capacity ≤ 12
  d1 : 1 ≤ s.dead
  d2 : s.dead ≤ 24
theorem setupOk_of {s : Setup} (h : okSetup s = true) : ∃ n l, SetupOk s n l ∧ inB s.limit 1 8 = true ∧ inB s.clock 0 1073741824 = true ∧ inB s.nextID 1 1073741824 = true ∧ inB s.epoch 0 65536 = true := by
  unfold okSetup at h
  simp only [Bool.and_eq_true] at h
  obtain ⟨h1, h2, h3, h4, h5, h6, h7, h8⟩ := h
  simp only [inB, Bool.and_eq_true, decide_eq_true_eq] at h1 h2 h3 h4
  exact ⟨s.slots.toNat, s.live.toNat, ⟨by omega, by omega, by omega, by omega, by omega, h3.1, h3.2, h4.1, h4.2⟩, h5, h6, h7, h8⟩
theorem spanI_in {l i : Nat} (h1 : 1 ≤ l) (h2 : i < l) (h3 : l ≤ 6) : spansB (spanI l i).low (spanI l i).high = true := by
  have key : ∀ l : Nat, l < 7 → ∀ i : Nat, i < 7 → 1 ≤ l → i < l → spansB (spanI l i).low (spanI l i).high = true := by decide
  exact key l (by omega) i (by omega) h1 h2
theorem slotsN_succ (s : Setup) (k : Nat) : slotsN s (k + 1) = slotsN s k ++ [slotI s k] := by simp [slotsN, List.range_succ]
theorem slotsN_len (s : Setup) (k : Nat) : (slotsN s k).length = k := by simp [slotsN]
theorem stripesN_succ (s : Setup) (k : Nat) : stripesN s (k + 1) = stripesN s k ++ [⟨0, s.epoch, 0, 0⟩] := by simp [stripesN, List.replicate_succ']
theorem stripesN_len (s : Setup) (k : Nat) : (stripesN s k).length = k := by simp [stripesN]
def ar2 : Nat × Go.Sim.Obj := (2, .row [.agg [.xsl [], .xsl [], .d (.int .i64 0), .d (.int .i64 0), .xsl [], .d (.int .i64 0), .xsl [], .xsl [], .d (.int .i64 0), .d (.int .i64 0), .d (.int .i64 0)]])
def arO (s : Setup) (d : Directory) (a b : Go.Sim.AV) : Nat × Go.Sim.Obj := (4, .row [.agg [a, b, .d (.int .i64 0), .d (.int .i64 s.dead), .d (.sl []), .d (.int .i64 d.version), .d (.sl (d.l.map eSpan)), .d (.sl (ints d.forward)), .d (.int .i64 s.epoch), .d (.int .i64 s.clock), .d (.int .i64 s.nextID)]])
def arS (s : Setup) (n k : Nat) (d : Directory) (a b : Go.Sim.AV) (hp : Heap) : St :=
  ⟨[(1, .ref 1 0 0), (2, .ref 2 0 0), (4, .ref 4 0 0), (84, .d (.int .i64 n)), (85, .d (.int .i64 k))], (1, .row [.d (eSetup s)]) :: ar2 :: arO s d a b :: hp⟩
theorem arena_loop (s : Setup) (n l : Nat) (ok : SetupOk s n l) (d : Directory) (hd : d = dirN n l) : ∀ k, 1 ≤ k ∧ k ≤ n → loopL G [] l_arena_New_0 (arS s n k d (.acc 117 ((slotsN s k).map eSlot)) (.acc 125 ((stripesN s k).map eStripe)) [(117, .acc k), (125, .acc k)]) = some (.exit 0, ⟨[(2, .ref 2 0 0), (4, .ref 4 0 0)], [ar2, arO s d (.acc 117 ((slotsN s n).map eSlot)) (.acc 125 ((stripesN s n).map eStripe)), (117, .acc n), (125, .acc n)]⟩) := by
  obtain ⟨o1, o2, o3, o4, o5, o6, o7, _, _⟩ := ok
  refine loop_ind (fun k => n - k) _ _ _ fun k ⟨hk1, hk2⟩ L ih => ?_
  simp only [l_arena_New_0, arS, arO, ar2, eSetup] at ih ⊢
  by_cases hk : k < n
  · have hv := dirN_valid n l o3 o4 o5
    have hfree := shardFree_ok s.capacity
    have hsp := dSpan_ok d k (by rw [hd]; simp [dirN, spansN]; omega) (by rw [hd]; simp [dirN]; omega)
    have hfs := hv.2 k hk
    rw [← hd] at hv hfs
    unfold spanD at hsp
    rw [hfs] at hsp
    have hc : ¬ (s.capacity < 1 ∨ 12 < s.capacity) := by omega
    unfold shardFree at hfree
    rw [if_neg hc] at hfree
    simp only [eShard, List.map_nil] at hfree
    have := ih (k + 1) ⟨by omega, by omega⟩ (by omega)
    rw [slotsN_succ, stripesN_succ] at this
    obtain ⟨es, hes⟩ : ∃ es, es = slotsN s k := ⟨_, rfl⟩
    obtain ⟨fs, hfs2⟩ : ∃ fs, fs = stripesN s k := ⟨_, rfl⟩
    have hel : es.length = k := by rw [hes, slotsN_len]
    have hfl : fs.length = k := by rw [hfs2, stripesN_len]
    rw [← hes, ← hfs2] at this ⊢
    by_cases h0 : k < l
    · have hnew := shardNew_ok s.capacity (spanI l k).low (spanI l k).high
      unfold shardNew at hnew
      rw [if_neg hc, if_neg (by rw [spanI_in o3 h0 (by omega)]; decide)] at hnew
      have e1 : (d.l.getD k zSpan) = spanI l k := by rw [hd]; simp [dirN, spansN, h0]
      rw [if_pos h0, if_pos ⟨hv.1, by omega⟩, show ((k : Int).toNat) = k by omega, e1] at hsp
      have e2 : slotI s k = ⟨0, ⟨true, (spanI l k).low, (spanI l k).high, ringN s.capacity, ⟨[], []⟩⟩⟩ := by
        unfold slotI; rw [if_pos (by omega), o2]
      rw [e2] at this
      simp only [eDirectory, eSpan] at hsp
      simp only [eShard, List.map_nil] at hnew
      simp only [eSlot, eStripe, List.map_append, List.map_cons, List.map_nil] at this
      simp only [Int.natCast_add, Int.natCast_one, Int.natCast_zero, Int.natCast_mul, Int.cast_ofNat_Int, List.length_append, List.length_map, List.map_nil, List.length_nil, List.map_append, List.map_cons, List.length_cons, Nat.zero_add, srcO] at this
      simp -implicitDefEqProofs (disch := omega) only [go_sem, hfree, hsp, hnew, hel, hfl, allSize_Slot, allSize_Stripe, this]
    · rw [if_neg h0, if_neg (by omega)] at hsp
      have e2 : slotI s k = ⟨0, ⟨false, 0, 0, ringN s.capacity, ⟨[], []⟩⟩⟩ := by
        unfold slotI; rw [if_neg (by omega)]
      rw [e2] at this
      simp only [eDirectory, eSpan, zSpan] at hsp
      simp only [eSlot, eStripe, List.map_append, List.map_cons, List.map_nil] at this
      simp only [Int.natCast_add, Int.natCast_one, Int.natCast_zero, Int.natCast_mul, Int.cast_ofNat_Int, List.length_append, List.length_map, List.map_nil, List.length_nil, List.map_append, List.map_cons, List.length_cons, Nat.zero_add, srcO] at this
      simp -implicitDefEqProofs (disch := omega) only [go_sem, hfree, hsp, hel, hfl, allSize_Slot, allSize_Stripe, this]
  · have : k = n := by omega
    subst this
    simp -implicitDefEqProofs (disch := omega) only [go_sem, Nat.zero_add]
theorem arena_first (s : Setup) (n l : Nat) (ok : SetupOk s n l) (d : Directory) (hd : d = dirN n l) : loopL G [] l_arena_New_0 (arS s n 0 d (.xsl []) (.xsl []) []) = some (.exit 0, ⟨[(2, .ref 2 0 0), (4, .ref 4 0 0)], [ar2, arO s d (.acc 117 ((slotsN s n).map eSlot)) (.acc 125 ((stripesN s n).map eStripe)), (117, .acc n), (125, .acc n)]⟩) := by
  have h := arena_loop s n l ok d hd 1 ⟨by omega, by have := ok.h1; have := ok.h2; omega⟩
  obtain ⟨o1, o2, o3, o4, o5, o6, o7, _, _⟩ := ok
  have hv := dirN_valid n l o3 o4 o5
  have hfree := shardFree_ok s.capacity
  have hsp := dSpan_ok d 0 (by rw [hd]; simp [dirN, spansN]; omega) (by rw [hd]; simp [dirN]; omega)
  have hfs := hv.2 0 (by omega)
  rw [← hd] at hv hfs
  simp only [Int.natCast_zero] at hfs
  rw [if_pos (by omega)] at hfs
  unfold spanD at hsp
  rw [hfs] at hsp
  have hc : ¬ (s.capacity < 1 ∨ 12 < s.capacity) := by omega
  unfold shardFree at hfree
  rw [if_neg hc] at hfree
  simp only [eShard, List.map_nil] at hfree
  have hnew := shardNew_ok s.capacity (spanI l 0).low (spanI l 0).high
  unfold shardNew at hnew
  rw [if_neg hc, if_neg (by rw [spanI_in o3 (by omega) (by omega)]; decide)] at hnew
  have e1 : (d.l.getD 0 zSpan) = spanI l 0 := by rw [hd]; simp [dirN, spansN, show 0 < l by omega]
  rw [if_pos ⟨hv.1, by omega⟩, show ((0 : Int).toNat) = 0 by rfl, e1] at hsp
  have e2 : slotI s 0 = ⟨0, ⟨true, (spanI l 0).low, (spanI l 0).high, ringN s.capacity, ⟨[], []⟩⟩⟩ := by
    unfold slotI; rw [if_pos (by omega), o2]
  have e3 : slotsN s 1 = [slotI s 0] := rfl
  have e4 : stripesN s 1 = [⟨0, s.epoch, 0, 0⟩] := rfl
  rw [e3, e4, e2] at h
  simp only [eDirectory, eSpan] at hsp
  simp only [eShard, List.map_nil] at hnew
  simp only [eSlot, eStripe, List.map_append, List.map_cons, List.map_nil, arS, ar2, arO, eSetup] at h
  simp only [Int.natCast_add, Int.natCast_one, Int.natCast_zero, Int.natCast_mul, Int.cast_ofNat_Int, List.length_append, List.length_map, List.map_nil, List.length_nil, List.map_append, List.map_cons, List.length_cons, Nat.zero_add, srcO] at h
  rw [loopL_eq]
  generalize hF : loopL G [] l_arena_New_0 = F at h ⊢
  simp only [l_arena_New_0, arS, ar2, arO, eSetup]
  simp -implicitDefEqProofs (disch := omega) only [go_sem, hfree, hsp, hnew, h]
theorem arenaNew_ok (s : Setup) : callL G N_arena_New [.d (eSetup s)] [] = some (.d (.tup [eArena (arenaNew s).1, .int .i64 (arenaNew s).2]), []) := by
  by_cases h : okSetup s = true
  · obtain ⟨n, l, ok, i5, i6, i7, i8⟩ := setupOk_of h
    have hl := arena_first s n l ok (dirN n l) rfl
    have hh := h
    unfold okSetup at hh
    simp only [Bool.and_eq_true] at hh
    obtain ⟨i1, i2, i3, i4, _⟩ := hh
    unfold arenaNew
    rw [if_pos h]
    obtain ⟨o1, o2, o3, o4, o5, o6, o7, o8, o9⟩ := ok
    have hn := dnew_ok s.slots s.live
    rw [o1, o2, newD_ok o3 o4 o5] at hn
    have hd := deadNew_ok s.dead
    unfold deadNew at hd
    rw [if_neg (by omega)] at hd
    have e1 : s.slots.toNat = n := by omega
    have e2 : s.live.toNat = l := by omega
    simp only [eArena, arenaN, e1, e2]
    rw [o1] at i1
    rw [o1, o2] at i2
    simp only [arS, ar2, arO, eSetup, o1, o2] at hl
    simp only [eDirectory, eDead, List.map_nil] at hn hd
    simp only [Int.natCast_add, Int.natCast_one, Int.natCast_zero, Int.natCast_mul, Int.cast_ofNat_Int, List.length_append, List.length_map, List.map_nil, List.length_nil, List.map_append, List.map_cons, List.length_cons, Nat.zero_add, srcO] at hl
    simp only [eSetup, o1, o2]
    rw [callL_code g_arena_New (by simp)]; simp -implicitDefEqProofs (disch := omega) only [c_arena_New, r_arena_New, go_sem, ain_ok, i1, i2, i3, i4, i5, i6, i7, i8, hn, hd, hl]
  · exact arenaNew_bad s (by simpa using h)
end Go.Proofs.Ytkdjbfjohbiemaa

namespace Go.Proofs.Ytkdjbfjohbiemaa
open Go Go.Sim
set_option linter.unusedSimpArgs false
set_option linter.unusedVariables false
set_option maxHeartbeats 10000000
set_option maxRecDepth 40000
theorem wrapN {x : Int} (h0 : -4294967296 ≤ x) (h1 : x ≤ 4294967296) : IntKind.i64.wrap x = x := wr (by omega)

/-- The reader: what it has, where it is. -/
abbrev srcO (l : List Int) (a : Nat) : Go.Sim.Obj := .row [.d (.agg [.sl (ints l), .int .i64 a])]
theorem new_ok (l : List Int) (hL : l.length ≤ LIM) : callL G N_base_New [.d (.sl (ints l))] [] = some (.ref 0 0 0, [(0, srcO (l.take 4000) 0)]) := by
  have hs := allSize_ints l
  by_cases h : 4000 < l.length
  · have e : ints (l.take 4000) = (ints l).take 4000 := by simp [ints, List.map_take]
    simp only [srcO, e]
    rw [callL_code g_base_New (by simp)]; simp -implicitDefEqProofs (disch := omega) only [c_base_New, r_base_New, getDT, go_sem, *]; (try simp only [pA, pB, pC, pD, pE, pF, pG, pH, pI, pJ, pK, pL, pM, pN, pO, if_true, if_false]); repeat' (first | done | rfl | (refine iteC (fun hq => ?_) (fun hq => ?_) <;> (try (exfalso; omega)) <;> (try simp -implicitDefEqProofs (disch := omega) only [getDT, go_sem, *]) <;> (try simp only [pA, pB, pC, pD, pE, pF, pG, pH, pI, pJ, pK, pL, pM, pN, pO, if_true, if_false]))); (all_goals try rfl); (all_goals try (repeat' (first | done | rfl | (exfalso; omega) | (refine iteR (fun hq => ?_) (fun hq => ?_)))))
  · have e : l.take 4000 = l := List.take_of_length_le (by omega)
    simp only [srcO, e]
    rw [callL_code g_base_New (by simp)]; simp -implicitDefEqProofs (disch := omega) only [c_base_New, r_base_New, getDT, go_sem, *]; (try simp only [pA, pB, pC, pD, pE, pF, pG, pH, pI, pJ, pK, pL, pM, pN, pO, if_true, if_false]); repeat' (first | done | rfl | (refine iteC (fun hq => ?_) (fun hq => ?_) <;> (try (exfalso; omega)) <;> (try simp -implicitDefEqProofs (disch := omega) only [getDT, go_sem, *]) <;> (try simp only [pA, pB, pC, pD, pE, pF, pG, pH, pI, pJ, pK, pL, pM, pN, pO, if_true, if_false]))); (all_goals try rfl); (all_goals try (repeat' (first | done | rfl | (exfalso; omega) | (refine iteR (fun hq => ?_) (fun hq => ?_)))))
def rawD (l : List Int) (a : Nat) : Int × Nat := if a < l.length then (l.getD a 0, a + 1) else (0, a)
theorem raw_ok (l : List Int) (a : Nat) (hL : l.length ≤ 4000) : callL G N_base_Src_Raw [.ref 1000000 0 0] [(1000000, srcO l a)] = some (.d (.int .i64 (rawD l a).1), [(1000000, srcO l (rawD l a).2)]) := by
  unfold rawD
  have e : ((a : Int) + 1 - 1).toNat = a := by omega
  by_cases h : a < l.length
  · simp only [h, if_true]
    rw [callL_code g_base_Src_Raw (by simp)]; simp -implicitDefEqProofs (disch := omega) only [c_base_Src_Raw, r_base_Src_Raw, e, getDT, go_sem, *]; (try simp only [pA, pB, pC, pD, pE, pF, pG, pH, pI, pJ, pK, pL, pM, pN, pO, if_true, if_false]); repeat' (first | done | rfl | (refine iteC (fun hq => ?_) (fun hq => ?_) <;> (try (exfalso; omega)) <;> (try simp -implicitDefEqProofs (disch := omega) only [e, getDT, go_sem, *]) <;> (try simp only [pA, pB, pC, pD, pE, pF, pG, pH, pI, pJ, pK, pL, pM, pN, pO, if_true, if_false]))); (all_goals try rfl); (all_goals try (repeat' (first | done | rfl | (exfalso; omega) | (refine iteR (fun hq => ?_) (fun hq => ?_)))))
  · simp only [h, if_false]
    rw [callL_code g_base_Src_Raw (by simp)]; simp -implicitDefEqProofs (disch := omega) only [c_base_Src_Raw, r_base_Src_Raw, getDT, go_sem, *]; (try simp only [pA, pB, pC, pD, pE, pF, pG, pH, pI, pJ, pK, pL, pM, pN, pO, if_true, if_false]); repeat' (first | done | rfl | (refine iteC (fun hq => ?_) (fun hq => ?_) <;> (try (exfalso; omega)) <;> (try simp -implicitDefEqProofs (disch := omega) only [getDT, go_sem, *]) <;> (try simp only [pA, pB, pC, pD, pE, pF, pG, pH, pI, pJ, pK, pL, pM, pN, pO, if_true, if_false]))); (all_goals try rfl); (all_goals try (repeat' (first | done | rfl | (exfalso; omega) | (refine iteR (fun hq => ?_) (fun hq => ?_)))))

theorem raw_le (l : List Int) (a : Nat) (h : a ≤ l.length) : (rawD l a).2 ≤ l.length := by unfold rawD; split <;> simp <;> omega
def nD (l : List Int) (a : Nat) (n : Int) : Int := if (rawD l a).1.tmod n < 0 then (rawD l a).1.tmod n + n else (rawD l a).1.tmod n
theorem nD_in (l : List Int) (a : Nat) {n : Int} (h : 1 ≤ n) : 0 ≤ nD l a n ∧ nD l a n < n := by
  unfold nD
  have h1 := Int.tmod_lt_of_pos (rawD l a).1 (show 0 < n by omega)
  have h2 := Int.lt_tmod_of_pos (rawD l a).1 (show 0 < n by omega)
  split <;> omega
theorem n_ok (l : List Int) (a : Nat) (n : Int) (hL : l.length ≤ 4000) (h1 : 1 ≤ n) (h2 : n ≤ 4294967296) : callL G N_base_Src_N [.ref 1000000 0 0, .d (.int .i64 n)] [(1000000, srcO l a)] = some (.d (.int .i64 (nD l a n)), [(1000000, srcO l (rawD l a).2)]) := by
  have hr := raw_ok l a hL
  have h3 := Int.tmod_lt_of_pos (rawD l a).1 (show 0 < n by omega)
  have h4 := Int.lt_tmod_of_pos (rawD l a).1 (show 0 < n by omega)
  unfold nD
  by_cases h : (rawD l a).1.tmod n < 0
  · simp only [h, if_true]
    rw [callL_code g_base_Src_N (by simp)]; simp -implicitDefEqProofs (disch := omega) only [c_base_Src_N, r_base_Src_N, getDT, go_sem, *]; (try simp only [pA, pB, pC, pD, pE, pF, pG, pH, pI, pJ, pK, pL, pM, pN, pO, if_true, if_false]); repeat' (first | done | rfl | (refine iteC (fun hq => ?_) (fun hq => ?_) <;> (try (exfalso; omega)) <;> (try simp -implicitDefEqProofs (disch := omega) only [getDT, go_sem, *]) <;> (try simp only [pA, pB, pC, pD, pE, pF, pG, pH, pI, pJ, pK, pL, pM, pN, pO, if_true, if_false]))); (all_goals try rfl); (all_goals try (repeat' (first | done | rfl | (exfalso; omega) | (refine iteR (fun hq => ?_) (fun hq => ?_)))))
  · simp only [h, if_false]
    rw [callL_code g_base_Src_N (by simp)]; simp -implicitDefEqProofs (disch := omega) only [c_base_Src_N, r_base_Src_N, getDT, go_sem, *]; (try simp only [pA, pB, pC, pD, pE, pF, pG, pH, pI, pJ, pK, pL, pM, pN, pO, if_true, if_false]); repeat' (first | done | rfl | (refine iteC (fun hq => ?_) (fun hq => ?_) <;> (try (exfalso; omega)) <;> (try simp -implicitDefEqProofs (disch := omega) only [getDT, go_sem, *]) <;> (try simp only [pA, pB, pC, pD, pE, pF, pG, pH, pI, pJ, pK, pL, pM, pN, pO, if_true, if_false]))); (all_goals try rfl); (all_goals try (repeat' (first | done | rfl | (exfalso; omega) | (refine iteR (fun hq => ?_) (fun hq => ?_)))))
theorem range_ok (l : List Int) (a : Nat) (lo hi : Int) (hL : l.length ≤ 4000) (h0 : -4294967296 ≤ lo) (h1 : lo ≤ hi) (h2 : hi ≤ 4294967296) (h3 : hi - lo < 4294967296) : callL G N_base_Src_Range [.ref 1000000 0 0, .d (.int .i64 lo), .d (.int .i64 hi)] [(1000000, srcO l a)] = some (.d (.int .i64 (lo + nD l a (hi - lo + 1))), [(1000000, srcO l (rawD l a).2)]) := by
  have hr := n_ok l a (hi - lo + 1) hL (by omega) (by omega)
  have hn := nD_in l a (show 1 ≤ hi - lo + 1 by omega)
  rw [callL_code g_base_Src_Range (by simp)]; simp -implicitDefEqProofs (disch := omega) only [c_base_Src_Range, r_base_Src_Range, getDT, go_sem, *]; (try simp only [pA, pB, pC, pD, pE, pF, pG, pH, pI, pJ, pK, pL, pM, pN, pO, if_true, if_false]); repeat' (first | done | rfl | (refine iteC (fun hq => ?_) (fun hq => ?_) <;> (try (exfalso; omega)) <;> (try simp -implicitDefEqProofs (disch := omega) only [getDT, go_sem, *]) <;> (try simp only [pA, pB, pC, pD, pE, pF, pG, pH, pI, pJ, pK, pL, pM, pN, pO, if_true, if_false]))); (all_goals try rfl); (all_goals try (repeat' (first | done | rfl | (exfalso; omega) | (refine iteR (fun hq => ?_) (fun hq => ?_)))))
end Go.Proofs.Ytkdjbfjohbiemaa

namespace Go.Proofs.Ytkdjbfjohbiemaa
open Go Go.Sim
set_option linter.unusedSimpArgs false
set_option linter.unusedVariables false
set_option maxHeartbeats 10000000
set_option maxRecDepth 40000
theorem clone_api_Slot (es : List D) (hs : allSize 9 es = true) (hL : es.length ≤ 4294967296) : callL G N_slices_Clone_api_Slot [.d (.sl es)] [] = some (.acc 0 es, [(0, .acc es.length)]) := by
  cases es with
  | nil =>
    refine callL_nils0 g_slices_Clone_api_Slot (by decide) ?_ ?_
    · simp -implicitDefEqProofs only [c_slices_Clone_api_Slot, r_slices_Clone_api_Slot, go_sem]
    · simp -implicitDefEqProofs only [c_slices_Clone_api_Slot, r_slices_Clone_api_Slot, Nat.zero_le, go_sem]
  | cons e es =>
    rw [callL_nils g_slices_Clone_api_Slot (by simp) (by decide)]
    simp only [allSize_cons] at hs
    simp only [List.length_cons] at hL
    simp -implicitDefEqProofs (disch := omega) only [c_slices_Clone_api_Slot, r_slices_Clone_api_Slot, go_sem, *]
def owners (a : Arena) (c : Int) : Int := if c = a.slots.length then a.dead.owner else (a.slots.getD c.toNat zSlot).owner
def aOwner (a : Arena) (c : Int) : Int × Bool := if c < 0 ∨ (a.slots.length : Int) < c then (0, false) else (owners a c, true)
theorem aowner_ok (a : Arena) (c : Int) (hL : a.slots.length ≤ 4294967296) : callL G N_arena_owner [.d (eArena a), .d (.int .i64 c)] [] = some (.d (.tup [.int .i64 (aOwner a c).1, .bool (aOwner a c).2]), []) := by
  simp only [eArena, aOwner, owners]
  rw [callL_code g_arena_owner (by simp)]; simp -implicitDefEqProofs (disch := omega) only [c_arena_owner, r_arena_owner, eSlot, getDT, go_sem, *]; (try simp only [pA, pB, pC, pD, pE, pF, pG, pH, pI, pJ, pK, pL, pM, pN, pO, if_true, if_false]); repeat' (first | done | rfl | (refine iteC (fun hq => ?_) (fun hq => ?_) <;> (try (exfalso; omega)) <;> (try simp -implicitDefEqProofs (disch := omega) only [eSlot, getDT, go_sem, *]) <;> (try simp only [pA, pB, pC, pD, pE, pF, pG, pH, pI, pJ, pK, pL, pM, pN, pO, if_true, if_false]))); (all_goals try rfl); (all_goals try (repeat' (first | done | rfl | (exfalso; omega) | (refine iteR (fun hq => ?_) (fun hq => ?_)))))
def taskB (k : Int) : Bool := inB k 1 200
theorem isTask_ok (k : Int) : callL G N_arena_isTask [.d (.int .i64 k)] [] = some (.d (.bool (taskB k)), []) := by
  unfold taskB
  rw [callL_code g_arena_isTask (by simp)]; simp -implicitDefEqProofs (disch := omega) only [c_arena_isTask, r_arena_isTask, ain_ok, getDT, go_sem, *]; (try simp only [pA, pB, pC, pD, pE, pF, pG, pH, pI, pJ, pK, pL, pM, pN, pO, if_true, if_false]); repeat' (first | done | rfl | (refine iteC (fun hq => ?_) (fun hq => ?_) <;> (try (exfalso; omega)) <;> (try simp -implicitDefEqProofs (disch := omega) only [ain_ok, getDT, go_sem, *]) <;> (try simp only [pA, pB, pC, pD, pE, pF, pG, pH, pI, pJ, pK, pL, pM, pN, pO, if_true, if_false]))); (all_goals try rfl); (all_goals try (repeat' (first | done | rfl | (exfalso; omega) | (refine iteR (fun hq => ?_) (fun hq => ?_)))))
def setOwner (a : Arena) (c k : Int) : Arena := if c = a.slots.length then { a with dead := { a.dead with owner := k } } else { a with slots := a.slots.set c.toNat { a.slots.getD c.toNat zSlot with owner := k } }
theorem give_ok (a : Arena) (c k : Int) (hL : a.slots.length ≤ 1000) (h0 : 0 ≤ c) (h1 : c ≤ a.slots.length) : callL G N_arena_give [.d (eArena a), .d (.int .i64 c), .d (.int .i64 k)] [] = some (.d (eArena (setOwner a c k)), []) := by
  unfold setOwner
  by_cases h : c = a.slots.length
  · simp only [eArena, h, if_true]
    rw [callL_code g_arena_give (by simp)]; simp -implicitDefEqProofs (disch := omega) only [c_arena_give, r_arena_give, getDT, go_sem, *]; (try simp only [pA, pB, pC, pD, pE, pF, pG, pH, pI, pJ, pK, pL, pM, pN, pO, if_true, if_false]); repeat' (first | done | rfl | (refine iteC (fun hq => ?_) (fun hq => ?_) <;> (try (exfalso; omega)) <;> (try simp -implicitDefEqProofs (disch := omega) only [getDT, go_sem, *]) <;> (try simp only [pA, pB, pC, pD, pE, pF, pG, pH, pI, pJ, pK, pL, pM, pN, pO, if_true, if_false]))); (all_goals try rfl); (all_goals try (repeat' (first | done | rfl | (exfalso; omega) | (refine iteR (fun hq => ?_) (fun hq => ?_)))))
  · have hc := clone_api_Slot (a.slots.map eSlot) (allSize_Slot _) (by simp only [List.length_map]; omega)
    have hne : ¬ a.slots.length = 0 := by omega
    simp only [eArena, h, if_false]
    rw [callL_code g_arena_give (by simp)]; simp -implicitDefEqProofs (disch := omega) only [c_arena_give, r_arena_give, getDT, go_sem, *]; (try simp only [pA, pB, pC, pD, pE, pF, pG, pH, pI, pJ, pK, pL, pM, pN, pO, if_true, if_false]); repeat' (first | done | rfl | (refine iteC (fun hq => ?_) (fun hq => ?_) <;> (try (exfalso; omega)) <;> (try simp -implicitDefEqProofs (disch := omega) only [getDT, go_sem, *]) <;> (try simp only [pA, pB, pC, pD, pE, pF, pG, pH, pI, pJ, pK, pL, pM, pN, pO, if_true, if_false]))); (all_goals try rfl); (all_goals try (repeat' (first | done | rfl | (exfalso; omega) | (refine iteR (fun hq => ?_) (fun hq => ?_)))))
def aTry (a : Arena) (c k : Int) : Arena × Bool × Int := if c < 0 ∨ (a.slots.length : Int) < c ∨ taskB k = false then (zArena, false, 1) else if owners a c = 0 then (setOwner a c k, true, 0) else (a, false, 0)
theorem atry_ok (a : Arena) (c k : Int) (hL : a.slots.length ≤ 1000) : callL G N_arena_TryLock [.d (eArena a), .d (.int .i64 c), .d (.int .i64 k)] [] = some (.d (.tup [eArena (aTry a c k).1, .bool (aTry a c k).2.1, .int .i64 (aTry a c k).2.2]), []) := by
  have h1 := aowner_ok a c (by omega)
  have h2 := isTask_ok k
  have h3 := give_ok a c k hL
  unfold aTry
  unfold aOwner at h1
  by_cases c1 : c < 0 ∨ (a.slots.length : Int) < c
  · rw [if_pos c1] at h1
    rw [if_pos (by omega)]
    rw [callL_code g_arena_TryLock (by simp)]; simp -implicitDefEqProofs (disch := omega) only [c_arena_TryLock, r_arena_TryLock, getDT, go_sem, *]; (try simp only [pA, pB, pC, pD, pE, pF, pG, pH, pI, pJ, pK, pL, pM, pN, pO, if_true, if_false]); repeat' (first | done | rfl | (refine iteC (fun hq => ?_) (fun hq => ?_) <;> (try (exfalso; omega)) <;> (try simp -implicitDefEqProofs (disch := omega) only [getDT, go_sem, *]) <;> (try simp only [pA, pB, pC, pD, pE, pF, pG, pH, pI, pJ, pK, pL, pM, pN, pO, if_true, if_false]))); (all_goals try rfl); (all_goals try (repeat' (first | done | rfl | (exfalso; omega) | (refine iteR (fun hq => ?_) (fun hq => ?_)))))
  · rw [if_neg c1] at h1
    have h3 := h3 (by omega) (by omega)
    cases c2 : taskB k
    · rw [if_pos (by simp)]
      rw [callL_code g_arena_TryLock (by simp)]; simp -implicitDefEqProofs (disch := omega) only [c_arena_TryLock, r_arena_TryLock, getDT, go_sem, *]; (try simp only [pA, pB, pC, pD, pE, pF, pG, pH, pI, pJ, pK, pL, pM, pN, pO, if_true, if_false]); repeat' (first | done | rfl | (refine iteC (fun hq => ?_) (fun hq => ?_) <;> (try (exfalso; omega)) <;> (try simp -implicitDefEqProofs (disch := omega) only [getDT, go_sem, *]) <;> (try simp only [pA, pB, pC, pD, pE, pF, pG, pH, pI, pJ, pK, pL, pM, pN, pO, if_true, if_false]))); (all_goals try rfl); (all_goals try (repeat' (first | done | rfl | (exfalso; omega) | (refine iteR (fun hq => ?_) (fun hq => ?_)))))
    · rw [if_neg (by simp; omega)]
      rw [callL_code g_arena_TryLock (by simp)]; simp -implicitDefEqProofs (disch := omega) only [c_arena_TryLock, r_arena_TryLock, getDT, go_sem, *]; (try simp only [pA, pB, pC, pD, pE, pF, pG, pH, pI, pJ, pK, pL, pM, pN, pO, if_true, if_false]); repeat' (first | done | rfl | (refine iteC (fun hq => ?_) (fun hq => ?_) <;> (try (exfalso; omega)) <;> (try simp -implicitDefEqProofs (disch := omega) only [getDT, go_sem, *]) <;> (try simp only [pA, pB, pC, pD, pE, pF, pG, pH, pI, pJ, pK, pL, pM, pN, pO, if_true, if_false]))); (all_goals try rfl); (all_goals try (repeat' (first | done | rfl | (exfalso; omega) | (refine iteR (fun hq => ?_) (fun hq => ?_)))))
end Go.Proofs.Ytkdjbfjohbiemaa

namespace Go.Proofs.Ytkdjbfjohbiemaa
open Go Go.Sim
set_option linter.unusedSimpArgs false
set_option linter.unusedVariables false
set_option maxHeartbeats 10000000
set_option maxRecDepth 40000
theorem same_ref03_Same (a b : List Message) (hL : a.length ≤ 4294967296) : callL G N_ref03_Same [.d (.sl (a.map eMessage)), .d (.sl (b.map eMessage))] [] = some (.d (.bool (decide (a = b))), []) := by
  by_cases hab : a.length = b.length
  · have := loop_all (G := G) (x := l_ref03_Same_0) (ks := []) a.length (fun k => decide (a[k]? = b[k]?)) (fun k => ⟨[(0, .d (.sl (a.map eMessage))), (1, .d (.sl (b.map eMessage))), (5, .d (.int .i64 k))], []⟩) (.ret, ⟨[(4, .d (.bool false))], []⟩) (.exit 0, ⟨[], []⟩) (fun k hk L => by
      simp only [l_ref03_Same_0]
      by_cases h0 : k < a.length
      · have hk2 : k < b.length := by omega
        simp only [get_eq h0 hk2]
        by_cases hc : a[k] = b[k]
        · simp -implicitDefEqProofs (disch := omega) only [go_sem, hc, allSize_ints, allSize_bytes, allSize_strs, eD_cells, eD_size, eD_asAgg, eD_isT, allSize_eD, eSpan_cells, eSpan_size, eSpan_asAgg, eSpan_isT, allSize_Span, eDirectory_cells, eDirectory_size, eDirectory_asAgg, eDirectory_isT, allSize_Directory, eEdit_cells, eEdit_size, eEdit_asAgg, eEdit_isT, allSize_Edit, eSetup_cells, eSetup_size, eSetup_asAgg, eSetup_isT, allSize_Setup, eMessage_cells, eMessage_size, eMessage_asAgg, eMessage_isT, allSize_Message, eRing_cells, eRing_size, eRing_asAgg, eRing_isT, allSize_Ring, eLease_cells, eLease_size, eLease_asAgg, eLease_isT, allSize_Lease, eTable_cells, eTable_size, eTable_asAgg, eTable_isT, allSize_Table, eShard_cells, eShard_size, eShard_asAgg, eShard_isT, allSize_Shard, eSlot_cells, eSlot_size, eSlot_asAgg, eSlot_isT, allSize_Slot, eStripe_cells, eStripe_size, eStripe_asAgg, eStripe_isT, allSize_Stripe, eDead_cells, eDead_size, eDead_asAgg, eDead_isT, allSize_Dead, eDeadCell_cells, eDeadCell_size, eDeadCell_asAgg, eDeadCell_isT, allSize_DeadCell, eArena_cells, eArena_size, eArena_asAgg, eArena_isT, allSize_Arena, eSnapshot_cells, eSnapshot_size, eSnapshot_asAgg, eSnapshot_isT, allSize_Snapshot, eInvocation_cells, eInvocation_size, eInvocation_asAgg, eInvocation_isT, allSize_Invocation, eResult_cells, eResult_size, eResult_asAgg, eResult_isT, allSize_Result, eLocker_cells, eLocker_size, eLocker_asAgg, eLocker_isT, allSize_Locker, eOutcome_cells, eOutcome_size, eOutcome_asAgg, eOutcome_isT, allSize_Outcome, eSection_cells, eSection_size, eSection_asAgg, eSection_isT, allSize_Section, eWalk_cells, eWalk_size, eWalk_asAgg, eWalk_isT, allSize_Walk, eHandle_cells, eHandle_size, eHandle_asAgg, eHandle_isT, allSize_Handle, eTask_cells, eTask_size, eTask_asAgg, eTask_isT, allSize_Task, eItem_cells, eItem_size, eItem_asAgg, eItem_isT, allSize_Item, eBag_cells, eBag_size, eBag_asAgg, eBag_isT, allSize_Bag, eGrant_cells, eGrant_size, eGrant_asAgg, eGrant_isT, allSize_Grant, eEvent_cells, eEvent_size, eEvent_asAgg, eEvent_isT, allSize_Event, eWorld_cells, eWorld_size, eWorld_asAgg, eWorld_isT, allSize_World, eRef_cells, eRef_size, eRef_asAgg, eRef_isT, allSize_Ref, eCommand_cells, eCommand_size, eCommand_asAgg, eCommand_isT, allSize_Command]
        · simp -implicitDefEqProofs (disch := omega) only [go_sem, hc, allSize_ints, allSize_bytes, allSize_strs, eD_cells, eD_size, eD_asAgg, eD_isT, allSize_eD, eSpan_cells, eSpan_size, eSpan_asAgg, eSpan_isT, allSize_Span, eDirectory_cells, eDirectory_size, eDirectory_asAgg, eDirectory_isT, allSize_Directory, eEdit_cells, eEdit_size, eEdit_asAgg, eEdit_isT, allSize_Edit, eSetup_cells, eSetup_size, eSetup_asAgg, eSetup_isT, allSize_Setup, eMessage_cells, eMessage_size, eMessage_asAgg, eMessage_isT, allSize_Message, eRing_cells, eRing_size, eRing_asAgg, eRing_isT, allSize_Ring, eLease_cells, eLease_size, eLease_asAgg, eLease_isT, allSize_Lease, eTable_cells, eTable_size, eTable_asAgg, eTable_isT, allSize_Table, eShard_cells, eShard_size, eShard_asAgg, eShard_isT, allSize_Shard, eSlot_cells, eSlot_size, eSlot_asAgg, eSlot_isT, allSize_Slot, eStripe_cells, eStripe_size, eStripe_asAgg, eStripe_isT, allSize_Stripe, eDead_cells, eDead_size, eDead_asAgg, eDead_isT, allSize_Dead, eDeadCell_cells, eDeadCell_size, eDeadCell_asAgg, eDeadCell_isT, allSize_DeadCell, eArena_cells, eArena_size, eArena_asAgg, eArena_isT, allSize_Arena, eSnapshot_cells, eSnapshot_size, eSnapshot_asAgg, eSnapshot_isT, allSize_Snapshot, eInvocation_cells, eInvocation_size, eInvocation_asAgg, eInvocation_isT, allSize_Invocation, eResult_cells, eResult_size, eResult_asAgg, eResult_isT, allSize_Result, eLocker_cells, eLocker_size, eLocker_asAgg, eLocker_isT, allSize_Locker, eOutcome_cells, eOutcome_size, eOutcome_asAgg, eOutcome_isT, allSize_Outcome, eSection_cells, eSection_size, eSection_asAgg, eSection_isT, allSize_Section, eWalk_cells, eWalk_size, eWalk_asAgg, eWalk_isT, allSize_Walk, eHandle_cells, eHandle_size, eHandle_asAgg, eHandle_isT, allSize_Handle, eTask_cells, eTask_size, eTask_asAgg, eTask_isT, allSize_Task, eItem_cells, eItem_size, eItem_asAgg, eItem_isT, allSize_Item, eBag_cells, eBag_size, eBag_asAgg, eBag_isT, allSize_Bag, eGrant_cells, eGrant_size, eGrant_asAgg, eGrant_isT, allSize_Grant, eEvent_cells, eEvent_size, eEvent_asAgg, eEvent_isT, allSize_Event, eWorld_cells, eWorld_size, eWorld_asAgg, eWorld_isT, allSize_World, eRef_cells, eRef_size, eRef_asAgg, eRef_isT, allSize_Ref, eCommand_cells, eCommand_size, eCommand_asAgg, eCommand_isT, allSize_Command]
      · simp -implicitDefEqProofs (disch := omega) only [go_sem, Nat.zero_add])
    simp only [all_eq hab, Int.natCast_zero] at this
    by_cases e : a = b
    · subst e
      simp only [decide_true, if_true] at this
      rw [callL_code g_ref03_Same (by simp)]; simp -implicitDefEqProofs (disch := omega) only [c_ref03_Same, r_ref03_Same, go_sem, this]
    · simp only [e, decide_false, Bool.false_eq_true, if_false] at this
      rw [callL_code g_ref03_Same (by simp)]; simp -implicitDefEqProofs (disch := omega) only [c_ref03_Same, r_ref03_Same, go_sem, hab, this, e]
  · have e : a ≠ b := fun e => hab (by rw [e])
    rw [callL_code g_ref03_Same (by simp)]; simp -implicitDefEqProofs (disch := omega) only [c_ref03_Same, r_ref03_Same, go_sem, e]
theorem same_ref11_Same (a b : List Stripe) (hL : a.length ≤ 4294967296) : callL G N_ref11_Same [.d (.sl (a.map eStripe)), .d (.sl (b.map eStripe))] [] = some (.d (.bool (decide (a = b))), []) := by
  by_cases hab : a.length = b.length
  · have := loop_all (G := G) (x := l_ref11_Same_0) (ks := []) a.length (fun k => decide (a[k]? = b[k]?)) (fun k => ⟨[(0, .d (.sl (a.map eStripe))), (1, .d (.sl (b.map eStripe))), (5, .d (.int .i64 k))], []⟩) (.ret, ⟨[(4, .d (.bool false))], []⟩) (.exit 0, ⟨[], []⟩) (fun k hk L => by
      simp only [l_ref11_Same_0]
      by_cases h0 : k < a.length
      · have hk2 : k < b.length := by omega
        simp only [get_eq h0 hk2]
        by_cases hc : a[k] = b[k]
        · simp -implicitDefEqProofs (disch := omega) only [go_sem, hc, allSize_ints, allSize_bytes, allSize_strs, eD_cells, eD_size, eD_asAgg, eD_isT, allSize_eD, eSpan_cells, eSpan_size, eSpan_asAgg, eSpan_isT, allSize_Span, eDirectory_cells, eDirectory_size, eDirectory_asAgg, eDirectory_isT, allSize_Directory, eEdit_cells, eEdit_size, eEdit_asAgg, eEdit_isT, allSize_Edit, eSetup_cells, eSetup_size, eSetup_asAgg, eSetup_isT, allSize_Setup, eMessage_cells, eMessage_size, eMessage_asAgg, eMessage_isT, allSize_Message, eRing_cells, eRing_size, eRing_asAgg, eRing_isT, allSize_Ring, eLease_cells, eLease_size, eLease_asAgg, eLease_isT, allSize_Lease, eTable_cells, eTable_size, eTable_asAgg, eTable_isT, allSize_Table, eShard_cells, eShard_size, eShard_asAgg, eShard_isT, allSize_Shard, eSlot_cells, eSlot_size, eSlot_asAgg, eSlot_isT, allSize_Slot, eStripe_cells, eStripe_size, eStripe_asAgg, eStripe_isT, allSize_Stripe, eDead_cells, eDead_size, eDead_asAgg, eDead_isT, allSize_Dead, eDeadCell_cells, eDeadCell_size, eDeadCell_asAgg, eDeadCell_isT, allSize_DeadCell, eArena_cells, eArena_size, eArena_asAgg, eArena_isT, allSize_Arena, eSnapshot_cells, eSnapshot_size, eSnapshot_asAgg, eSnapshot_isT, allSize_Snapshot, eInvocation_cells, eInvocation_size, eInvocation_asAgg, eInvocation_isT, allSize_Invocation, eResult_cells, eResult_size, eResult_asAgg, eResult_isT, allSize_Result, eLocker_cells, eLocker_size, eLocker_asAgg, eLocker_isT, allSize_Locker, eOutcome_cells, eOutcome_size, eOutcome_asAgg, eOutcome_isT, allSize_Outcome, eSection_cells, eSection_size, eSection_asAgg, eSection_isT, allSize_Section, eWalk_cells, eWalk_size, eWalk_asAgg, eWalk_isT, allSize_Walk, eHandle_cells, eHandle_size, eHandle_asAgg, eHandle_isT, allSize_Handle, eTask_cells, eTask_size, eTask_asAgg, eTask_isT, allSize_Task, eItem_cells, eItem_size, eItem_asAgg, eItem_isT, allSize_Item, eBag_cells, eBag_size, eBag_asAgg, eBag_isT, allSize_Bag, eGrant_cells, eGrant_size, eGrant_asAgg, eGrant_isT, allSize_Grant, eEvent_cells, eEvent_size, eEvent_asAgg, eEvent_isT, allSize_Event, eWorld_cells, eWorld_size, eWorld_asAgg, eWorld_isT, allSize_World, eRef_cells, eRef_size, eRef_asAgg, eRef_isT, allSize_Ref, eCommand_cells, eCommand_size, eCommand_asAgg, eCommand_isT, allSize_Command]
        · simp -implicitDefEqProofs (disch := omega) only [go_sem, hc, allSize_ints, allSize_bytes, allSize_strs, eD_cells, eD_size, eD_asAgg, eD_isT, allSize_eD, eSpan_cells, eSpan_size, eSpan_asAgg, eSpan_isT, allSize_Span, eDirectory_cells, eDirectory_size, eDirectory_asAgg, eDirectory_isT, allSize_Directory, eEdit_cells, eEdit_size, eEdit_asAgg, eEdit_isT, allSize_Edit, eSetup_cells, eSetup_size, eSetup_asAgg, eSetup_isT, allSize_Setup, eMessage_cells, eMessage_size, eMessage_asAgg, eMessage_isT, allSize_Message, eRing_cells, eRing_size, eRing_asAgg, eRing_isT, allSize_Ring, eLease_cells, eLease_size, eLease_asAgg, eLease_isT, allSize_Lease, eTable_cells, eTable_size, eTable_asAgg, eTable_isT, allSize_Table, eShard_cells, eShard_size, eShard_asAgg, eShard_isT, allSize_Shard, eSlot_cells, eSlot_size, eSlot_asAgg, eSlot_isT, allSize_Slot, eStripe_cells, eStripe_size, eStripe_asAgg, eStripe_isT, allSize_Stripe, eDead_cells, eDead_size, eDead_asAgg, eDead_isT, allSize_Dead, eDeadCell_cells, eDeadCell_size, eDeadCell_asAgg, eDeadCell_isT, allSize_DeadCell, eArena_cells, eArena_size, eArena_asAgg, eArena_isT, allSize_Arena, eSnapshot_cells, eSnapshot_size, eSnapshot_asAgg, eSnapshot_isT, allSize_Snapshot, eInvocation_cells, eInvocation_size, eInvocation_asAgg, eInvocation_isT, allSize_Invocation, eResult_cells, eResult_size, eResult_asAgg, eResult_isT, allSize_Result, eLocker_cells, eLocker_size, eLocker_asAgg, eLocker_isT, allSize_Locker, eOutcome_cells, eOutcome_size, eOutcome_asAgg, eOutcome_isT, allSize_Outcome, eSection_cells, eSection_size, eSection_asAgg, eSection_isT, allSize_Section, eWalk_cells, eWalk_size, eWalk_asAgg, eWalk_isT, allSize_Walk, eHandle_cells, eHandle_size, eHandle_asAgg, eHandle_isT, allSize_Handle, eTask_cells, eTask_size, eTask_asAgg, eTask_isT, allSize_Task, eItem_cells, eItem_size, eItem_asAgg, eItem_isT, allSize_Item, eBag_cells, eBag_size, eBag_asAgg, eBag_isT, allSize_Bag, eGrant_cells, eGrant_size, eGrant_asAgg, eGrant_isT, allSize_Grant, eEvent_cells, eEvent_size, eEvent_asAgg, eEvent_isT, allSize_Event, eWorld_cells, eWorld_size, eWorld_asAgg, eWorld_isT, allSize_World, eRef_cells, eRef_size, eRef_asAgg, eRef_isT, allSize_Ref, eCommand_cells, eCommand_size, eCommand_asAgg, eCommand_isT, allSize_Command]
      · simp -implicitDefEqProofs (disch := omega) only [go_sem, Nat.zero_add])
    simp only [all_eq hab, Int.natCast_zero] at this
    by_cases e : a = b
    · subst e
      simp only [decide_true, if_true] at this
      rw [callL_code g_ref11_Same (by simp)]; simp -implicitDefEqProofs (disch := omega) only [c_ref11_Same, r_ref11_Same, go_sem, this]
    · simp only [e, decide_false, Bool.false_eq_true, if_false] at this
      rw [callL_code g_ref11_Same (by simp)]; simp -implicitDefEqProofs (disch := omega) only [c_ref11_Same, r_ref11_Same, go_sem, hab, this, e]
  · have e : a ≠ b := fun e => hab (by rw [e])
    rw [callL_code g_ref11_Same (by simp)]; simp -implicitDefEqProofs (disch := omega) only [c_ref11_Same, r_ref11_Same, go_sem, e]
theorem same_ref06_SameLeases (a b : List Lease) (hL : a.length ≤ 4294967296) : callL G N_ref06_SameLeases [.d (.sl (a.map eLease)), .d (.sl (b.map eLease))] [] = some (.d (.bool (decide (a = b))), []) := by
  by_cases hab : a.length = b.length
  · have := loop_all (G := G) (x := l_ref06_SameLeases_0) (ks := []) a.length (fun k => decide (a[k]? = b[k]?)) (fun k => ⟨[(0, .d (.sl (a.map eLease))), (1, .d (.sl (b.map eLease))), (5, .d (.int .i64 k))], []⟩) (.ret, ⟨[(4, .d (.bool false))], []⟩) (.exit 0, ⟨[], []⟩) (fun k hk L => by
      simp only [l_ref06_SameLeases_0]
      by_cases h0 : k < a.length
      · have hk2 : k < b.length := by omega
        simp only [get_eq h0 hk2]
        by_cases hc : a[k] = b[k]
        · simp -implicitDefEqProofs (disch := omega) only [go_sem, hc, allSize_ints, allSize_bytes, allSize_strs, eD_cells, eD_size, eD_asAgg, eD_isT, allSize_eD, eSpan_cells, eSpan_size, eSpan_asAgg, eSpan_isT, allSize_Span, eDirectory_cells, eDirectory_size, eDirectory_asAgg, eDirectory_isT, allSize_Directory, eEdit_cells, eEdit_size, eEdit_asAgg, eEdit_isT, allSize_Edit, eSetup_cells, eSetup_size, eSetup_asAgg, eSetup_isT, allSize_Setup, eMessage_cells, eMessage_size, eMessage_asAgg, eMessage_isT, allSize_Message, eRing_cells, eRing_size, eRing_asAgg, eRing_isT, allSize_Ring, eLease_cells, eLease_size, eLease_asAgg, eLease_isT, allSize_Lease, eTable_cells, eTable_size, eTable_asAgg, eTable_isT, allSize_Table, eShard_cells, eShard_size, eShard_asAgg, eShard_isT, allSize_Shard, eSlot_cells, eSlot_size, eSlot_asAgg, eSlot_isT, allSize_Slot, eStripe_cells, eStripe_size, eStripe_asAgg, eStripe_isT, allSize_Stripe, eDead_cells, eDead_size, eDead_asAgg, eDead_isT, allSize_Dead, eDeadCell_cells, eDeadCell_size, eDeadCell_asAgg, eDeadCell_isT, allSize_DeadCell, eArena_cells, eArena_size, eArena_asAgg, eArena_isT, allSize_Arena, eSnapshot_cells, eSnapshot_size, eSnapshot_asAgg, eSnapshot_isT, allSize_Snapshot, eInvocation_cells, eInvocation_size, eInvocation_asAgg, eInvocation_isT, allSize_Invocation, eResult_cells, eResult_size, eResult_asAgg, eResult_isT, allSize_Result, eLocker_cells, eLocker_size, eLocker_asAgg, eLocker_isT, allSize_Locker, eOutcome_cells, eOutcome_size, eOutcome_asAgg, eOutcome_isT, allSize_Outcome, eSection_cells, eSection_size, eSection_asAgg, eSection_isT, allSize_Section, eWalk_cells, eWalk_size, eWalk_asAgg, eWalk_isT, allSize_Walk, eHandle_cells, eHandle_size, eHandle_asAgg, eHandle_isT, allSize_Handle, eTask_cells, eTask_size, eTask_asAgg, eTask_isT, allSize_Task, eItem_cells, eItem_size, eItem_asAgg, eItem_isT, allSize_Item, eBag_cells, eBag_size, eBag_asAgg, eBag_isT, allSize_Bag, eGrant_cells, eGrant_size, eGrant_asAgg, eGrant_isT, allSize_Grant, eEvent_cells, eEvent_size, eEvent_asAgg, eEvent_isT, allSize_Event, eWorld_cells, eWorld_size, eWorld_asAgg, eWorld_isT, allSize_World, eRef_cells, eRef_size, eRef_asAgg, eRef_isT, allSize_Ref, eCommand_cells, eCommand_size, eCommand_asAgg, eCommand_isT, allSize_Command]
        · simp -implicitDefEqProofs (disch := omega) only [go_sem, hc, allSize_ints, allSize_bytes, allSize_strs, eD_cells, eD_size, eD_asAgg, eD_isT, allSize_eD, eSpan_cells, eSpan_size, eSpan_asAgg, eSpan_isT, allSize_Span, eDirectory_cells, eDirectory_size, eDirectory_asAgg, eDirectory_isT, allSize_Directory, eEdit_cells, eEdit_size, eEdit_asAgg, eEdit_isT, allSize_Edit, eSetup_cells, eSetup_size, eSetup_asAgg, eSetup_isT, allSize_Setup, eMessage_cells, eMessage_size, eMessage_asAgg, eMessage_isT, allSize_Message, eRing_cells, eRing_size, eRing_asAgg, eRing_isT, allSize_Ring, eLease_cells, eLease_size, eLease_asAgg, eLease_isT, allSize_Lease, eTable_cells, eTable_size, eTable_asAgg, eTable_isT, allSize_Table, eShard_cells, eShard_size, eShard_asAgg, eShard_isT, allSize_Shard, eSlot_cells, eSlot_size, eSlot_asAgg, eSlot_isT, allSize_Slot, eStripe_cells, eStripe_size, eStripe_asAgg, eStripe_isT, allSize_Stripe, eDead_cells, eDead_size, eDead_asAgg, eDead_isT, allSize_Dead, eDeadCell_cells, eDeadCell_size, eDeadCell_asAgg, eDeadCell_isT, allSize_DeadCell, eArena_cells, eArena_size, eArena_asAgg, eArena_isT, allSize_Arena, eSnapshot_cells, eSnapshot_size, eSnapshot_asAgg, eSnapshot_isT, allSize_Snapshot, eInvocation_cells, eInvocation_size, eInvocation_asAgg, eInvocation_isT, allSize_Invocation, eResult_cells, eResult_size, eResult_asAgg, eResult_isT, allSize_Result, eLocker_cells, eLocker_size, eLocker_asAgg, eLocker_isT, allSize_Locker, eOutcome_cells, eOutcome_size, eOutcome_asAgg, eOutcome_isT, allSize_Outcome, eSection_cells, eSection_size, eSection_asAgg, eSection_isT, allSize_Section, eWalk_cells, eWalk_size, eWalk_asAgg, eWalk_isT, allSize_Walk, eHandle_cells, eHandle_size, eHandle_asAgg, eHandle_isT, allSize_Handle, eTask_cells, eTask_size, eTask_asAgg, eTask_isT, allSize_Task, eItem_cells, eItem_size, eItem_asAgg, eItem_isT, allSize_Item, eBag_cells, eBag_size, eBag_asAgg, eBag_isT, allSize_Bag, eGrant_cells, eGrant_size, eGrant_asAgg, eGrant_isT, allSize_Grant, eEvent_cells, eEvent_size, eEvent_asAgg, eEvent_isT, allSize_Event, eWorld_cells, eWorld_size, eWorld_asAgg, eWorld_isT, allSize_World, eRef_cells, eRef_size, eRef_asAgg, eRef_isT, allSize_Ref, eCommand_cells, eCommand_size, eCommand_asAgg, eCommand_isT, allSize_Command]
      · simp -implicitDefEqProofs (disch := omega) only [go_sem, Nat.zero_add])
    simp only [all_eq hab, Int.natCast_zero] at this
    by_cases e : a = b
    · subst e
      simp only [decide_true, if_true] at this
      rw [callL_code g_ref06_SameLeases (by simp)]; simp -implicitDefEqProofs (disch := omega) only [c_ref06_SameLeases, r_ref06_SameLeases, go_sem, this]
    · simp only [e, decide_false, Bool.false_eq_true, if_false] at this
      rw [callL_code g_ref06_SameLeases (by simp)]; simp -implicitDefEqProofs (disch := omega) only [c_ref06_SameLeases, r_ref06_SameLeases, go_sem, hab, this, e]
  · have e : a ≠ b := fun e => hab (by rw [e])
    rw [callL_code g_ref06_SameLeases (by simp)]; simp -implicitDefEqProofs (disch := omega) only [c_ref06_SameLeases, r_ref06_SameLeases, go_sem, e]
theorem same_ref05_Same (a b : List Due) (hL : a.length ≤ 4294967296) : callL G N_ref05_Same [.d (.sl (a.map eD)), .d (.sl (b.map eD))] [] = some (.d (.bool (decide (a = b))), []) := by
  by_cases hab : a.length = b.length
  · have := loop_all (G := G) (x := l_ref05_Same_0) (ks := []) a.length (fun k => decide (a[k]? = b[k]?)) (fun k => ⟨[(0, .d (.sl (a.map eD))), (1, .d (.sl (b.map eD))), (5, .d (.int .i64 k))], []⟩) (.ret, ⟨[(4, .d (.bool false))], []⟩) (.exit 0, ⟨[], []⟩) (fun k hk L => by
      simp only [l_ref05_Same_0]
      by_cases h0 : k < a.length
      · have hk2 : k < b.length := by omega
        simp only [get_eq h0 hk2]
        by_cases hc : a[k] = b[k]
        · simp -implicitDefEqProofs (disch := omega) only [go_sem, hc, allSize_ints, allSize_bytes, allSize_strs, eD_cells, eD_size, eD_asAgg, eD_isT, allSize_eD, eSpan_cells, eSpan_size, eSpan_asAgg, eSpan_isT, allSize_Span, eDirectory_cells, eDirectory_size, eDirectory_asAgg, eDirectory_isT, allSize_Directory, eEdit_cells, eEdit_size, eEdit_asAgg, eEdit_isT, allSize_Edit, eSetup_cells, eSetup_size, eSetup_asAgg, eSetup_isT, allSize_Setup, eMessage_cells, eMessage_size, eMessage_asAgg, eMessage_isT, allSize_Message, eRing_cells, eRing_size, eRing_asAgg, eRing_isT, allSize_Ring, eLease_cells, eLease_size, eLease_asAgg, eLease_isT, allSize_Lease, eTable_cells, eTable_size, eTable_asAgg, eTable_isT, allSize_Table, eShard_cells, eShard_size, eShard_asAgg, eShard_isT, allSize_Shard, eSlot_cells, eSlot_size, eSlot_asAgg, eSlot_isT, allSize_Slot, eStripe_cells, eStripe_size, eStripe_asAgg, eStripe_isT, allSize_Stripe, eDead_cells, eDead_size, eDead_asAgg, eDead_isT, allSize_Dead, eDeadCell_cells, eDeadCell_size, eDeadCell_asAgg, eDeadCell_isT, allSize_DeadCell, eArena_cells, eArena_size, eArena_asAgg, eArena_isT, allSize_Arena, eSnapshot_cells, eSnapshot_size, eSnapshot_asAgg, eSnapshot_isT, allSize_Snapshot, eInvocation_cells, eInvocation_size, eInvocation_asAgg, eInvocation_isT, allSize_Invocation, eResult_cells, eResult_size, eResult_asAgg, eResult_isT, allSize_Result, eLocker_cells, eLocker_size, eLocker_asAgg, eLocker_isT, allSize_Locker, eOutcome_cells, eOutcome_size, eOutcome_asAgg, eOutcome_isT, allSize_Outcome, eSection_cells, eSection_size, eSection_asAgg, eSection_isT, allSize_Section, eWalk_cells, eWalk_size, eWalk_asAgg, eWalk_isT, allSize_Walk, eHandle_cells, eHandle_size, eHandle_asAgg, eHandle_isT, allSize_Handle, eTask_cells, eTask_size, eTask_asAgg, eTask_isT, allSize_Task, eItem_cells, eItem_size, eItem_asAgg, eItem_isT, allSize_Item, eBag_cells, eBag_size, eBag_asAgg, eBag_isT, allSize_Bag, eGrant_cells, eGrant_size, eGrant_asAgg, eGrant_isT, allSize_Grant, eEvent_cells, eEvent_size, eEvent_asAgg, eEvent_isT, allSize_Event, eWorld_cells, eWorld_size, eWorld_asAgg, eWorld_isT, allSize_World, eRef_cells, eRef_size, eRef_asAgg, eRef_isT, allSize_Ref, eCommand_cells, eCommand_size, eCommand_asAgg, eCommand_isT, allSize_Command]
        · simp -implicitDefEqProofs (disch := omega) only [go_sem, hc, allSize_ints, allSize_bytes, allSize_strs, eD_cells, eD_size, eD_asAgg, eD_isT, allSize_eD, eSpan_cells, eSpan_size, eSpan_asAgg, eSpan_isT, allSize_Span, eDirectory_cells, eDirectory_size, eDirectory_asAgg, eDirectory_isT, allSize_Directory, eEdit_cells, eEdit_size, eEdit_asAgg, eEdit_isT, allSize_Edit, eSetup_cells, eSetup_size, eSetup_asAgg, eSetup_isT, allSize_Setup, eMessage_cells, eMessage_size, eMessage_asAgg, eMessage_isT, allSize_Message, eRing_cells, eRing_size, eRing_asAgg, eRing_isT, allSize_Ring, eLease_cells, eLease_size, eLease_asAgg, eLease_isT, allSize_Lease, eTable_cells, eTable_size, eTable_asAgg, eTable_isT, allSize_Table, eShard_cells, eShard_size, eShard_asAgg, eShard_isT, allSize_Shard, eSlot_cells, eSlot_size, eSlot_asAgg, eSlot_isT, allSize_Slot, eStripe_cells, eStripe_size, eStripe_asAgg, eStripe_isT, allSize_Stripe, eDead_cells, eDead_size, eDead_asAgg, eDead_isT, allSize_Dead, eDeadCell_cells, eDeadCell_size, eDeadCell_asAgg, eDeadCell_isT, allSize_DeadCell, eArena_cells, eArena_size, eArena_asAgg, eArena_isT, allSize_Arena, eSnapshot_cells, eSnapshot_size, eSnapshot_asAgg, eSnapshot_isT, allSize_Snapshot, eInvocation_cells, eInvocation_size, eInvocation_asAgg, eInvocation_isT, allSize_Invocation, eResult_cells, eResult_size, eResult_asAgg, eResult_isT, allSize_Result, eLocker_cells, eLocker_size, eLocker_asAgg, eLocker_isT, allSize_Locker, eOutcome_cells, eOutcome_size, eOutcome_asAgg, eOutcome_isT, allSize_Outcome, eSection_cells, eSection_size, eSection_asAgg, eSection_isT, allSize_Section, eWalk_cells, eWalk_size, eWalk_asAgg, eWalk_isT, allSize_Walk, eHandle_cells, eHandle_size, eHandle_asAgg, eHandle_isT, allSize_Handle, eTask_cells, eTask_size, eTask_asAgg, eTask_isT, allSize_Task, eItem_cells, eItem_size, eItem_asAgg, eItem_isT, allSize_Item, eBag_cells, eBag_size, eBag_asAgg, eBag_isT, allSize_Bag, eGrant_cells, eGrant_size, eGrant_asAgg, eGrant_isT, allSize_Grant, eEvent_cells, eEvent_size, eEvent_asAgg, eEvent_isT, allSize_Event, eWorld_cells, eWorld_size, eWorld_asAgg, eWorld_isT, allSize_World, eRef_cells, eRef_size, eRef_asAgg, eRef_isT, allSize_Ref, eCommand_cells, eCommand_size, eCommand_asAgg, eCommand_isT, allSize_Command]
      · simp -implicitDefEqProofs (disch := omega) only [go_sem, Nat.zero_add])
    simp only [all_eq hab, Int.natCast_zero] at this
    by_cases e : a = b
    · subst e
      simp only [decide_true, if_true] at this
      rw [callL_code g_ref05_Same (by simp)]; simp -implicitDefEqProofs (disch := omega) only [c_ref05_Same, r_ref05_Same, go_sem, this]
    · simp only [e, decide_false, Bool.false_eq_true, if_false] at this
      rw [callL_code g_ref05_Same (by simp)]; simp -implicitDefEqProofs (disch := omega) only [c_ref05_Same, r_ref05_Same, go_sem, hab, this, e]
  · have e : a ≠ b := fun e => hab (by rw [e])
    rw [callL_code g_ref05_Same (by simp)]; simp -implicitDefEqProofs (disch := omega) only [c_ref05_Same, r_ref05_Same, go_sem, e]
theorem same_ref13_SameInts (a b : List Int) (hL : a.length ≤ 4294967296) : callL G N_ref13_SameInts [.d (.sl (a.map (D.int .i64))), .d (.sl (b.map (D.int .i64)))] [] = some (.d (.bool (decide (a = b))), []) := by
  by_cases hab : a.length = b.length
  · have := loop_all (G := G) (x := l_ref13_SameInts_0) (ks := []) a.length (fun k => decide (a[k]? = b[k]?)) (fun k => ⟨[(0, .d (.sl (a.map (D.int .i64)))), (1, .d (.sl (b.map (D.int .i64)))), (5, .d (.int .i64 k))], []⟩) (.ret, ⟨[(4, .d (.bool false))], []⟩) (.exit 0, ⟨[], []⟩) (fun k hk L => by
      simp only [l_ref13_SameInts_0]
      by_cases h0 : k < a.length
      · have hk2 : k < b.length := by omega
        simp only [get_eq h0 hk2]
        by_cases hc : a[k] = b[k]
        · simp -implicitDefEqProofs (disch := omega) only [go_sem, hc, allSize_ints, allSize_bytes, allSize_strs, eD_cells, eD_size, eD_asAgg, eD_isT, allSize_eD, eSpan_cells, eSpan_size, eSpan_asAgg, eSpan_isT, allSize_Span, eDirectory_cells, eDirectory_size, eDirectory_asAgg, eDirectory_isT, allSize_Directory, eEdit_cells, eEdit_size, eEdit_asAgg, eEdit_isT, allSize_Edit, eSetup_cells, eSetup_size, eSetup_asAgg, eSetup_isT, allSize_Setup, eMessage_cells, eMessage_size, eMessage_asAgg, eMessage_isT, allSize_Message, eRing_cells, eRing_size, eRing_asAgg, eRing_isT, allSize_Ring, eLease_cells, eLease_size, eLease_asAgg, eLease_isT, allSize_Lease, eTable_cells, eTable_size, eTable_asAgg, eTable_isT, allSize_Table, eShard_cells, eShard_size, eShard_asAgg, eShard_isT, allSize_Shard, eSlot_cells, eSlot_size, eSlot_asAgg, eSlot_isT, allSize_Slot, eStripe_cells, eStripe_size, eStripe_asAgg, eStripe_isT, allSize_Stripe, eDead_cells, eDead_size, eDead_asAgg, eDead_isT, allSize_Dead, eDeadCell_cells, eDeadCell_size, eDeadCell_asAgg, eDeadCell_isT, allSize_DeadCell, eArena_cells, eArena_size, eArena_asAgg, eArena_isT, allSize_Arena, eSnapshot_cells, eSnapshot_size, eSnapshot_asAgg, eSnapshot_isT, allSize_Snapshot, eInvocation_cells, eInvocation_size, eInvocation_asAgg, eInvocation_isT, allSize_Invocation, eResult_cells, eResult_size, eResult_asAgg, eResult_isT, allSize_Result, eLocker_cells, eLocker_size, eLocker_asAgg, eLocker_isT, allSize_Locker, eOutcome_cells, eOutcome_size, eOutcome_asAgg, eOutcome_isT, allSize_Outcome, eSection_cells, eSection_size, eSection_asAgg, eSection_isT, allSize_Section, eWalk_cells, eWalk_size, eWalk_asAgg, eWalk_isT, allSize_Walk, eHandle_cells, eHandle_size, eHandle_asAgg, eHandle_isT, allSize_Handle, eTask_cells, eTask_size, eTask_asAgg, eTask_isT, allSize_Task, eItem_cells, eItem_size, eItem_asAgg, eItem_isT, allSize_Item, eBag_cells, eBag_size, eBag_asAgg, eBag_isT, allSize_Bag, eGrant_cells, eGrant_size, eGrant_asAgg, eGrant_isT, allSize_Grant, eEvent_cells, eEvent_size, eEvent_asAgg, eEvent_isT, allSize_Event, eWorld_cells, eWorld_size, eWorld_asAgg, eWorld_isT, allSize_World, eRef_cells, eRef_size, eRef_asAgg, eRef_isT, allSize_Ref, eCommand_cells, eCommand_size, eCommand_asAgg, eCommand_isT, allSize_Command]
        · simp -implicitDefEqProofs (disch := omega) only [go_sem, hc, allSize_ints, allSize_bytes, allSize_strs, eD_cells, eD_size, eD_asAgg, eD_isT, allSize_eD, eSpan_cells, eSpan_size, eSpan_asAgg, eSpan_isT, allSize_Span, eDirectory_cells, eDirectory_size, eDirectory_asAgg, eDirectory_isT, allSize_Directory, eEdit_cells, eEdit_size, eEdit_asAgg, eEdit_isT, allSize_Edit, eSetup_cells, eSetup_size, eSetup_asAgg, eSetup_isT, allSize_Setup, eMessage_cells, eMessage_size, eMessage_asAgg, eMessage_isT, allSize_Message, eRing_cells, eRing_size, eRing_asAgg, eRing_isT, allSize_Ring, eLease_cells, eLease_size, eLease_asAgg, eLease_isT, allSize_Lease, eTable_cells, eTable_size, eTable_asAgg, eTable_isT, allSize_Table, eShard_cells, eShard_size, eShard_asAgg, eShard_isT, allSize_Shard, eSlot_cells, eSlot_size, eSlot_asAgg, eSlot_isT, allSize_Slot, eStripe_cells, eStripe_size, eStripe_asAgg, eStripe_isT, allSize_Stripe, eDead_cells, eDead_size, eDead_asAgg, eDead_isT, allSize_Dead, eDeadCell_cells, eDeadCell_size, eDeadCell_asAgg, eDeadCell_isT, allSize_DeadCell, eArena_cells, eArena_size, eArena_asAgg, eArena_isT, allSize_Arena, eSnapshot_cells, eSnapshot_size, eSnapshot_asAgg, eSnapshot_isT, allSize_Snapshot, eInvocation_cells, eInvocation_size, eInvocation_asAgg, eInvocation_isT, allSize_Invocation, eResult_cells, eResult_size, eResult_asAgg, eResult_isT, allSize_Result, eLocker_cells, eLocker_size, eLocker_asAgg, eLocker_isT, allSize_Locker, eOutcome_cells, eOutcome_size, eOutcome_asAgg, eOutcome_isT, allSize_Outcome, eSection_cells, eSection_size, eSection_asAgg, eSection_isT, allSize_Section, eWalk_cells, eWalk_size, eWalk_asAgg, eWalk_isT, allSize_Walk, eHandle_cells, eHandle_size, eHandle_asAgg, eHandle_isT, allSize_Handle, eTask_cells, eTask_size, eTask_asAgg, eTask_isT, allSize_Task, eItem_cells, eItem_size, eItem_asAgg, eItem_isT, allSize_Item, eBag_cells, eBag_size, eBag_asAgg, eBag_isT, allSize_Bag, eGrant_cells, eGrant_size, eGrant_asAgg, eGrant_isT, allSize_Grant, eEvent_cells, eEvent_size, eEvent_asAgg, eEvent_isT, allSize_Event, eWorld_cells, eWorld_size, eWorld_asAgg, eWorld_isT, allSize_World, eRef_cells, eRef_size, eRef_asAgg, eRef_isT, allSize_Ref, eCommand_cells, eCommand_size, eCommand_asAgg, eCommand_isT, allSize_Command]
      · simp -implicitDefEqProofs (disch := omega) only [go_sem, Nat.zero_add])
    simp only [all_eq hab, Int.natCast_zero] at this
    by_cases e : a = b
    · subst e
      simp only [decide_true, if_true] at this
      rw [callL_code g_ref13_SameInts (by simp)]; simp -implicitDefEqProofs (disch := omega) only [c_ref13_SameInts, r_ref13_SameInts, go_sem, this]
    · simp only [e, decide_false, Bool.false_eq_true, if_false] at this
      rw [callL_code g_ref13_SameInts (by simp)]; simp -implicitDefEqProofs (disch := omega) only [c_ref13_SameInts, r_ref13_SameInts, go_sem, hab, this, e]
  · have e : a ≠ b := fun e => hab (by rw [e])
    rw [callL_code g_ref13_SameInts (by simp)]; simp -implicitDefEqProofs (disch := omega) only [c_ref13_SameInts, r_ref13_SameInts, go_sem, e]
end Go.Proofs.Ytkdjbfjohbiemaa

namespace Go.Proofs.Ytkdjbfjohbiemaa
open Go Go.Sim
set_option linter.unusedSimpArgs false
set_option linter.unusedVariables false
set_option maxHeartbeats 10000000
set_option maxRecDepth 40000
def aUnlock (a : Arena) (c k : Int) : Arena × Int := if c < 0 ∨ (a.slots.length : Int) < c ∨ taskB k = false then (zArena, 1) else if owners a c = k then (setOwner a c 0, 0) else (zArena, 13)
theorem aunlock_ok (a : Arena) (c k : Int) (hL : a.slots.length ≤ 1000) : callL G N_arena_Unlock [.d (eArena a), .d (.int .i64 c), .d (.int .i64 k)] [] = some (.d (.tup [eArena (aUnlock a c k).1, .int .i64 (aUnlock a c k).2]), []) := by
  have h1 := aowner_ok a c (by omega)
  have h2 := isTask_ok k
  have h3 := give_ok a c 0 hL
  unfold aUnlock
  unfold aOwner at h1
  by_cases c1 : c < 0 ∨ (a.slots.length : Int) < c
  · rw [if_pos c1] at h1
    rw [if_pos (by omega)]
    rw [callL_code g_arena_Unlock (by simp)]; simp -implicitDefEqProofs (disch := omega) only [c_arena_Unlock, r_arena_Unlock, getDT, go_sem, *]; (try simp only [pA, pB, pC, pD, pE, pF, pG, pH, pI, pJ, pK, pL, pM, pN, pO, if_true, if_false]); repeat' (first | done | rfl | (refine iteC (fun hq => ?_) (fun hq => ?_) <;> (try (exfalso; omega)) <;> (try simp -implicitDefEqProofs (disch := omega) only [getDT, go_sem, *]) <;> (try simp only [pA, pB, pC, pD, pE, pF, pG, pH, pI, pJ, pK, pL, pM, pN, pO, if_true, if_false]))); (all_goals try rfl); (all_goals try (repeat' (first | done | rfl | (exfalso; omega) | (refine iteR (fun hq => ?_) (fun hq => ?_)))))
  · rw [if_neg c1] at h1
    have h3 := h3 (by omega) (by omega)
    cases c2 : taskB k
    · rw [if_pos (by simp)]
      rw [callL_code g_arena_Unlock (by simp)]; simp -implicitDefEqProofs (disch := omega) only [c_arena_Unlock, r_arena_Unlock, getDT, go_sem, *]; (try simp only [pA, pB, pC, pD, pE, pF, pG, pH, pI, pJ, pK, pL, pM, pN, pO, if_true, if_false]); repeat' (first | done | rfl | (refine iteC (fun hq => ?_) (fun hq => ?_) <;> (try (exfalso; omega)) <;> (try simp -implicitDefEqProofs (disch := omega) only [getDT, go_sem, *]) <;> (try simp only [pA, pB, pC, pD, pE, pF, pG, pH, pI, pJ, pK, pL, pM, pN, pO, if_true, if_false]))); (all_goals try rfl); (all_goals try (repeat' (first | done | rfl | (exfalso; omega) | (refine iteR (fun hq => ?_) (fun hq => ?_)))))
    · rw [if_neg (by simp; omega)]
      rw [callL_code g_arena_Unlock (by simp)]; simp -implicitDefEqProofs (disch := omega) only [c_arena_Unlock, r_arena_Unlock, getDT, go_sem, *]; (try simp only [pA, pB, pC, pD, pE, pF, pG, pH, pI, pJ, pK, pL, pM, pN, pO, if_true, if_false]); repeat' (first | done | rfl | (refine iteC (fun hq => ?_) (fun hq => ?_) <;> (try (exfalso; omega)) <;> (try simp -implicitDefEqProofs (disch := omega) only [getDT, go_sem, *]) <;> (try simp only [pA, pB, pC, pD, pE, pF, pG, pH, pI, pJ, pK, pL, pM, pN, pO, if_true, if_false]))); (all_goals try rfl); (all_goals try (repeat' (first | done | rfl | (exfalso; omega) | (refine iteR (fun hq => ?_) (fun hq => ?_)))))
theorem task12_ok (k : Int) : callL G N_ref12_task [.d (.int .i64 k)] [] = some (.d (.bool (taskB k)), []) := by
  unfold taskB inB
  rw [callL_code g_ref12_task (by simp)]; simp -implicitDefEqProofs (disch := omega) only [c_ref12_task, r_ref12_task, getDT, go_sem, *]; (try simp only [pA, pB, pC, pD, pE, pF, pG, pH, pI, pJ, pK, pL, pM, pN, pO, if_true, if_false]); repeat' (first | done | rfl | (refine iteC (fun hq => ?_) (fun hq => ?_) <;> (try (exfalso; omega)) <;> (try simp -implicitDefEqProofs (disch := omega) only [getDT, go_sem, *]) <;> (try simp only [pA, pB, pC, pD, pE, pF, pG, pH, pI, pJ, pK, pL, pM, pN, pO, if_true, if_false]))); (all_goals try rfl); (all_goals try (repeat' (first | done | rfl | (exfalso; omega) | (refine iteR (fun hq => ?_) (fun hq => ?_)))))
theorem owner12_ok (a : Arena) (c : Int) (hL : a.slots.length ≤ 1000) (h0 : 0 ≤ c) (h1 : c ≤ a.slots.length) : callL G N_ref12_Owner [.d (eArena a), .d (.int .i64 c)] [] = some (.d (.int .i64 (owners a c)), []) := by
  unfold owners
  rw [callL_code g_ref12_Owner (by simp)]; simp -implicitDefEqProofs (disch := omega) only [c_ref12_Owner, r_ref12_Owner, getDT, go_sem, *]; (try simp only [pA, pB, pC, pD, pE, pF, pG, pH, pI, pJ, pK, pL, pM, pN, pO, if_true, if_false]); repeat' (first | done | rfl | (refine iteC (fun hq => ?_) (fun hq => ?_) <;> (try (exfalso; omega)) <;> (try simp -implicitDefEqProofs (disch := omega) only [getDT, go_sem, *]) <;> (try simp only [pA, pB, pC, pD, pE, pF, pG, pH, pI, pJ, pK, pL, pM, pN, pO, if_true, if_false]))); (all_goals try rfl); (all_goals try (repeat' (first | done | rfl | (exfalso; omega) | (refine iteR (fun hq => ?_) (fun hq => ?_)))))
theorem own12_ok (a : Arena) (c k : Int) (hL : a.slots.length ≤ 1000) (h0 : 0 ≤ c) (h1 : c ≤ a.slots.length) : callL G N_ref12_own [.d (eArena a), .d (.int .i64 c), .d (.int .i64 k)] [] = some (.d (eArena (setOwner a c k)), []) := by
  unfold setOwner
  by_cases h : c = a.slots.length
  · simp only [eArena, h, if_true]
    rw [callL_code g_ref12_own (by simp)]; simp -implicitDefEqProofs (disch := omega) only [c_ref12_own, r_ref12_own, getDT, go_sem, *]; (try simp only [pA, pB, pC, pD, pE, pF, pG, pH, pI, pJ, pK, pL, pM, pN, pO, if_true, if_false]); repeat' (first | done | rfl | (refine iteC (fun hq => ?_) (fun hq => ?_) <;> (try (exfalso; omega)) <;> (try simp -implicitDefEqProofs (disch := omega) only [getDT, go_sem, *]) <;> (try simp only [pA, pB, pC, pD, pE, pF, pG, pH, pI, pJ, pK, pL, pM, pN, pO, if_true, if_false]))); (all_goals try rfl); (all_goals try (repeat' (first | done | rfl | (exfalso; omega) | (refine iteR (fun hq => ?_) (fun hq => ?_)))))
  · have hne : ¬ a.slots.length = 0 := by omega
    simp only [eArena, h, if_false]
    rw [callL_code g_ref12_own (by simp)]; simp -implicitDefEqProofs (disch := omega) only [c_ref12_own, r_ref12_own, getDT, go_sem, *]; (try simp only [pA, pB, pC, pD, pE, pF, pG, pH, pI, pJ, pK, pL, pM, pN, pO, if_true, if_false]); repeat' (first | done | rfl | (refine iteC (fun hq => ?_) (fun hq => ?_) <;> (try (exfalso; omega)) <;> (try simp -implicitDefEqProofs (disch := omega) only [getDT, go_sem, *]) <;> (try simp only [pA, pB, pC, pD, pE, pF, pG, pH, pI, pJ, pK, pL, pM, pN, pO, if_true, if_false]))); (all_goals try rfl); (all_goals try (repeat' (first | done | rfl | (exfalso; omega) | (refine iteR (fun hq => ?_) (fun hq => ?_)))))
theorem try12_ok (a : Arena) (c k : Int) (hL : a.slots.length ≤ 1000) : callL G N_ref12_TryLock [.d (eArena a), .d (.int .i64 c), .d (.int .i64 k)] [] = some (.d (.tup [eArena (aTry a c k).1, .bool (aTry a c k).2.1, .int .i64 (aTry a c k).2.2]), []) := by
  have h2 := task12_ok k
  unfold aTry
  by_cases c1 : c < 0 ∨ (a.slots.length : Int) < c
  · rw [if_pos (by omega)]
    rw [callL_code g_ref12_TryLock (by simp)]; simp -implicitDefEqProofs (disch := omega) only [c_ref12_TryLock, r_ref12_TryLock, getDT, go_sem, *]; (try simp only [pA, pB, pC, pD, pE, pF, pG, pH, pI, pJ, pK, pL, pM, pN, pO, if_true, if_false]); repeat' (first | done | rfl | (refine iteC (fun hq => ?_) (fun hq => ?_) <;> (try (exfalso; omega)) <;> (try simp -implicitDefEqProofs (disch := omega) only [getDT, go_sem, *]) <;> (try simp only [pA, pB, pC, pD, pE, pF, pG, pH, pI, pJ, pK, pL, pM, pN, pO, if_true, if_false]))); (all_goals try rfl); (all_goals try (repeat' (first | done | rfl | (exfalso; omega) | (refine iteR (fun hq => ?_) (fun hq => ?_)))))
  · have h1 := owner12_ok a c hL (by omega) (by omega)
    have h3 := own12_ok a c k hL (by omega) (by omega)
    cases c2 : taskB k
    · rw [if_pos (by simp)]
      rw [callL_code g_ref12_TryLock (by simp)]; simp -implicitDefEqProofs (disch := omega) only [c_ref12_TryLock, r_ref12_TryLock, getDT, go_sem, *]; (try simp only [pA, pB, pC, pD, pE, pF, pG, pH, pI, pJ, pK, pL, pM, pN, pO, if_true, if_false]); repeat' (first | done | rfl | (refine iteC (fun hq => ?_) (fun hq => ?_) <;> (try (exfalso; omega)) <;> (try simp -implicitDefEqProofs (disch := omega) only [getDT, go_sem, *]) <;> (try simp only [pA, pB, pC, pD, pE, pF, pG, pH, pI, pJ, pK, pL, pM, pN, pO, if_true, if_false]))); (all_goals try rfl); (all_goals try (repeat' (first | done | rfl | (exfalso; omega) | (refine iteR (fun hq => ?_) (fun hq => ?_)))))
    · rw [if_neg (by simp; omega)]
      rw [callL_code g_ref12_TryLock (by simp)]; simp -implicitDefEqProofs (disch := omega) only [c_ref12_TryLock, r_ref12_TryLock, getDT, go_sem, *]; (try simp only [pA, pB, pC, pD, pE, pF, pG, pH, pI, pJ, pK, pL, pM, pN, pO, if_true, if_false]); repeat' (first | done | rfl | (refine iteC (fun hq => ?_) (fun hq => ?_) <;> (try (exfalso; omega)) <;> (try simp -implicitDefEqProofs (disch := omega) only [getDT, go_sem, *]) <;> (try simp only [pA, pB, pC, pD, pE, pF, pG, pH, pI, pJ, pK, pL, pM, pN, pO, if_true, if_false]))); (all_goals try rfl); (all_goals try (repeat' (first | done | rfl | (exfalso; omega) | (refine iteR (fun hq => ?_) (fun hq => ?_)))))
theorem unlock12_ok (a : Arena) (c k : Int) (hL : a.slots.length ≤ 1000) : callL G N_ref12_Unlock [.d (eArena a), .d (.int .i64 c), .d (.int .i64 k)] [] = some (.d (.tup [eArena (aUnlock a c k).1, .int .i64 (aUnlock a c k).2]), []) := by
  have h2 := task12_ok k
  unfold aUnlock
  by_cases c1 : c < 0 ∨ (a.slots.length : Int) < c
  · rw [if_pos (by omega)]
    rw [callL_code g_ref12_Unlock (by simp)]; simp -implicitDefEqProofs (disch := omega) only [c_ref12_Unlock, r_ref12_Unlock, getDT, go_sem, *]; (try simp only [pA, pB, pC, pD, pE, pF, pG, pH, pI, pJ, pK, pL, pM, pN, pO, if_true, if_false]); repeat' (first | done | rfl | (refine iteC (fun hq => ?_) (fun hq => ?_) <;> (try (exfalso; omega)) <;> (try simp -implicitDefEqProofs (disch := omega) only [getDT, go_sem, *]) <;> (try simp only [pA, pB, pC, pD, pE, pF, pG, pH, pI, pJ, pK, pL, pM, pN, pO, if_true, if_false]))); (all_goals try rfl); (all_goals try (repeat' (first | done | rfl | (exfalso; omega) | (refine iteR (fun hq => ?_) (fun hq => ?_)))))
  · have h1 := owner12_ok a c hL (by omega) (by omega)
    have h3 := own12_ok a c 0 hL (by omega) (by omega)
    cases c2 : taskB k
    · rw [if_pos (by simp)]
      rw [callL_code g_ref12_Unlock (by simp)]; simp -implicitDefEqProofs (disch := omega) only [c_ref12_Unlock, r_ref12_Unlock, getDT, go_sem, *]; (try simp only [pA, pB, pC, pD, pE, pF, pG, pH, pI, pJ, pK, pL, pM, pN, pO, if_true, if_false]); repeat' (first | done | rfl | (refine iteC (fun hq => ?_) (fun hq => ?_) <;> (try (exfalso; omega)) <;> (try simp -implicitDefEqProofs (disch := omega) only [getDT, go_sem, *]) <;> (try simp only [pA, pB, pC, pD, pE, pF, pG, pH, pI, pJ, pK, pL, pM, pN, pO, if_true, if_false]))); (all_goals try rfl); (all_goals try (repeat' (first | done | rfl | (exfalso; omega) | (refine iteR (fun hq => ?_) (fun hq => ?_)))))
    · rw [if_neg (by simp; omega)]
      rw [callL_code g_ref12_Unlock (by simp)]; simp -implicitDefEqProofs (disch := omega) only [c_ref12_Unlock, r_ref12_Unlock, getDT, go_sem, *]; (try simp only [pA, pB, pC, pD, pE, pF, pG, pH, pI, pJ, pK, pL, pM, pN, pO, if_true, if_false]); repeat' (first | done | rfl | (refine iteC (fun hq => ?_) (fun hq => ?_) <;> (try (exfalso; omega)) <;> (try simp -implicitDefEqProofs (disch := omega) only [getDT, go_sem, *]) <;> (try simp only [pA, pB, pC, pD, pE, pF, pG, pH, pI, pJ, pK, pL, pM, pN, pO, if_true, if_false]))); (all_goals try rfl); (all_goals try (repeat' (first | done | rfl | (exfalso; omega) | (refine iteR (fun hq => ?_) (fun hq => ?_)))))
end Go.Proofs.Ytkdjbfjohbiemaa

namespace Go.Proofs.Ytkdjbfjohbiemaa
open Go Go.Sim
set_option linter.unusedSimpArgs false
set_option linter.unusedVariables false
set_option maxHeartbeats 10000000
set_option maxRecDepth 40000
theorem clone_int (es : List D) (hs : allSize 1 es = true) (hL : es.length ≤ 4294967296) : callL G N_slices_Clone_int [.d (.sl es)] [] = some (.acc 0 es, [(0, .acc es.length)]) := by
  cases es with
  | nil =>
    refine callL_nils0 g_slices_Clone_int (by decide) ?_ ?_
    · simp -implicitDefEqProofs only [c_slices_Clone_int, r_slices_Clone_int, go_sem]
    · simp -implicitDefEqProofs only [c_slices_Clone_int, r_slices_Clone_int, Nat.zero_le, go_sem]
  | cons e es =>
    rw [callL_nils g_slices_Clone_int (by simp) (by decide)]
    simp only [allSize_cons] at hs
    simp only [List.length_cons] at hL
    simp -implicitDefEqProofs (disch := omega) only [c_slices_Clone_int, r_slices_Clone_int, go_sem, *]
/-- A cell that a locker may have at place k. -/
def lockAt (cells : List Int) (k : Nat) : Bool := decide (0 ≤ cells.getD k 0 ∧ cells.getD k 0 ≤ 6 ∧ (k = 0 ∨ cells.getD (k - 1) 0 < cells.getD k 0))
def lockNew (cells : List Int) : Locker × Int :=
  if cells.length = 0 ∨ 3 < cells.length then (zLocker, 2) else if (List.range cells.length).all (lockAt cells) = true then (⟨cells, 0, 0, 0, 0⟩, 0) else (zLocker, 1)
def zL : Nat × Go.Sim.Obj := (2, .row [.agg [.xsl [], .d (.int .i64 0), .d (.int .i64 0), .d (.int .i64 0), .d (.int .i64 0)]])
theorem prev {k : Nat} (h : 0 < k) : ((k : Int) - 1).toNat = k - 1 := by omega
theorem lnew_loop (cells : List Int) (hL : cells.length ≤ 3) : loopL G [] l_locker_New_0 ⟨[(0, .d (.sl (ints cells))), (2, .ref 2 0 0), (15, .d (.sl (ints cells))), (16, .d (.int .i64 cells.length)), (17, .d (.int .i64 0))], [zL]⟩ = some (if (List.range cells.length).all (lockAt cells) = true then (.exit 0, ⟨[(0, .d (.sl (ints cells))), (2, .ref 2 0 0)], [zL]⟩) else (.ret, ⟨[(2, .ref 2 0 0), (3, .d (.int .i64 1))], [zL]⟩)) := by
  refine loop_all (G := G) cells.length (lockAt cells) (fun k => ⟨[(0, .d (.sl (ints cells))), (2, .ref 2 0 0), (15, .d (.sl (ints cells))), (16, .d (.int .i64 cells.length)), (17, .d (.int .i64 k))], [zL]⟩) _ _ fun k hk L => ?_
  simp only [l_locker_New_0, zL, lockAt]
  by_cases h0 : k < cells.length
  · simp only [h0, if_true]
    (try simp -implicitDefEqProofs (disch := omega) only [prev, getDT, go_sem, *]); (try simp only [pA, pB, pC, pD, pE, pF, pG, pH, pI, pJ, pK, pL, pM, pN, pO, if_true, if_false]); repeat' (first | done | rfl | (refine iteC (fun hq => ?_) (fun hq => ?_) <;> (try (exfalso; omega)) <;> (try simp -implicitDefEqProofs (disch := omega) only [prev, getDT, go_sem, *]) <;> (try simp only [pA, pB, pC, pD, pE, pF, pG, pH, pI, pJ, pK, pL, pM, pN, pO, if_true, if_false]))); (all_goals try rfl); (all_goals try (repeat' (first | done | rfl | (exfalso; omega) | (refine iteR (fun hq => ?_) (fun hq => ?_)))))
  · simp -implicitDefEqProofs (disch := omega) only [go_sem, Nat.zero_add]
theorem lnew_ok (cells : List Int) (hL : cells.length ≤ 4294967296) : callL G N_locker_New [.d (.sl (ints cells))] [] = some (.d (.tup [eLocker (lockNew cells).1, .int .i64 (lockNew cells).2]), []) := by
  unfold lockNew
  by_cases c1 : cells.length = 0 ∨ 3 < cells.length
  · rw [if_pos c1]
    rw [callL_code g_locker_New (by simp)]; simp -implicitDefEqProofs (disch := omega) only [c_locker_New, r_locker_New, getDT, go_sem, *]; (try simp only [pA, pB, pC, pD, pE, pF, pG, pH, pI, pJ, pK, pL, pM, pN, pO, if_true, if_false]); repeat' (first | done | rfl | (refine iteC (fun hq => ?_) (fun hq => ?_) <;> (try (exfalso; omega)) <;> (try simp -implicitDefEqProofs (disch := omega) only [getDT, go_sem, *]) <;> (try simp only [pA, pB, pC, pD, pE, pF, pG, pH, pI, pJ, pK, pL, pM, pN, pO, if_true, if_false]))); (all_goals try rfl); (all_goals try (repeat' (first | done | rfl | (exfalso; omega) | (refine iteR (fun hq => ?_) (fun hq => ?_)))))
  · rw [if_neg c1]
    have hl := lnew_loop cells (by omega)
    have hc := clone_int (ints cells) (allSize_ints _) (by simp only [List.length_map]; omega)
    simp only [zL] at hl
    have h0 : ¬ ints cells = [] := by
      intro e
      have h : cells = [] := by simpa using e
      exact c1 (Or.inl (by rw [h]; rfl))
    by_cases c2 : (List.range cells.length).all (lockAt cells) = true
    · simp only [c2, if_true] at hl ⊢
      rw [callL_code g_locker_New (by simp)]; simp -implicitDefEqProofs (disch := omega) only [c_locker_New, r_locker_New, ints, getDT, go_sem, *]; (try simp only [pA, pB, pC, pD, pE, pF, pG, pH, pI, pJ, pK, pL, pM, pN, pO, if_true, if_false]); repeat' (first | done | rfl | (refine iteC (fun hq => ?_) (fun hq => ?_) <;> (try (exfalso; omega)) <;> (try simp -implicitDefEqProofs (disch := omega) only [ints, getDT, go_sem, *]) <;> (try simp only [pA, pB, pC, pD, pE, pF, pG, pH, pI, pJ, pK, pL, pM, pN, pO, if_true, if_false]))); (all_goals try rfl); (all_goals try (repeat' (first | done | rfl | (exfalso; omega) | (refine iteR (fun hq => ?_) (fun hq => ?_)))))
    · simp only [c2, if_false] at hl ⊢
      rw [callL_code g_locker_New (by simp)]; simp -implicitDefEqProofs (disch := omega) only [c_locker_New, r_locker_New, ints, getDT, go_sem, *]; (try simp only [pA, pB, pC, pD, pE, pF, pG, pH, pI, pJ, pK, pL, pM, pN, pO, if_true, if_false]); repeat' (first | done | rfl | (refine iteC (fun hq => ?_) (fun hq => ?_) <;> (try (exfalso; omega)) <;> (try simp -implicitDefEqProofs (disch := omega) only [ints, getDT, go_sem, *]) <;> (try simp only [pA, pB, pC, pD, pE, pF, pG, pH, pI, pJ, pK, pL, pM, pN, pO, if_true, if_false]))); (all_goals try rfl); (all_goals try (repeat' (first | done | rfl | (exfalso; omega) | (refine iteR (fun hq => ?_) (fun hq => ?_)))))
theorem l13new_loop (cells : List Int) (hL : cells.length ≤ 3) : loopL G [] l_ref13_New_0 ⟨[(0, .d (.sl (ints cells))), (2, .ref 2 0 0), (4, .d (.int .i64 0))], [zL]⟩ = some (if (List.range cells.length).all (lockAt cells) = true then (.exit 0, ⟨[(0, .d (.sl (ints cells))), (2, .ref 2 0 0)], [zL]⟩) else (.ret, ⟨[(2, .ref 2 0 0), (3, .d (.int .i64 1))], [zL]⟩)) := by
  refine loop_all (G := G) cells.length (lockAt cells) (fun k => ⟨[(0, .d (.sl (ints cells))), (2, .ref 2 0 0), (4, .d (.int .i64 k))], [zL]⟩) _ _ fun k hk L => ?_
  simp only [l_ref13_New_0, zL, lockAt]
  by_cases h0 : k < cells.length
  · simp only [h0, if_true]
    (try simp -implicitDefEqProofs (disch := omega) only [prev, getDT, go_sem, *]); (try simp only [pA, pB, pC, pD, pE, pF, pG, pH, pI, pJ, pK, pL, pM, pN, pO, if_true, if_false]); repeat' (first | done | rfl | (refine iteC (fun hq => ?_) (fun hq => ?_) <;> (try (exfalso; omega)) <;> (try simp -implicitDefEqProofs (disch := omega) only [prev, getDT, go_sem, *]) <;> (try simp only [pA, pB, pC, pD, pE, pF, pG, pH, pI, pJ, pK, pL, pM, pN, pO, if_true, if_false]))); (all_goals try rfl); (all_goals try (repeat' (first | done | rfl | (exfalso; omega) | (refine iteR (fun hq => ?_) (fun hq => ?_)))))
  · simp -implicitDefEqProofs (disch := omega) only [go_sem, Nat.zero_add]
theorem l13new_ok (cells : List Int) (hL : cells.length ≤ 4294967296) : callL G N_ref13_New [.d (.sl (ints cells))] [] = some (.d (.tup [eLocker (lockNew cells).1, .int .i64 (lockNew cells).2]), []) := by
  unfold lockNew
  by_cases c1 : cells.length = 0 ∨ 3 < cells.length
  · rw [if_pos c1]
    rw [callL_code g_ref13_New (by simp)]; simp -implicitDefEqProofs (disch := omega) only [c_ref13_New, r_ref13_New, getDT, go_sem, *]; (try simp only [pA, pB, pC, pD, pE, pF, pG, pH, pI, pJ, pK, pL, pM, pN, pO, if_true, if_false]); repeat' (first | done | rfl | (refine iteC (fun hq => ?_) (fun hq => ?_) <;> (try (exfalso; omega)) <;> (try simp -implicitDefEqProofs (disch := omega) only [getDT, go_sem, *]) <;> (try simp only [pA, pB, pC, pD, pE, pF, pG, pH, pI, pJ, pK, pL, pM, pN, pO, if_true, if_false]))); (all_goals try rfl); (all_goals try (repeat' (first | done | rfl | (exfalso; omega) | (refine iteR (fun hq => ?_) (fun hq => ?_)))))
  · rw [if_neg c1]
    have hl := l13new_loop cells (by omega)
    simp only [zL] at hl
    by_cases c2 : (List.range cells.length).all (lockAt cells) = true
    · simp only [c2, if_true] at hl ⊢
      rw [callL_code g_ref13_New (by simp)]; simp -implicitDefEqProofs (disch := omega) only [c_ref13_New, r_ref13_New, ints, getDT, go_sem, *]; (try simp only [pA, pB, pC, pD, pE, pF, pG, pH, pI, pJ, pK, pL, pM, pN, pO, if_true, if_false]); repeat' (first | done | rfl | (refine iteC (fun hq => ?_) (fun hq => ?_) <;> (try (exfalso; omega)) <;> (try simp -implicitDefEqProofs (disch := omega) only [ints, getDT, go_sem, *]) <;> (try simp only [pA, pB, pC, pD, pE, pF, pG, pH, pI, pJ, pK, pL, pM, pN, pO, if_true, if_false]))); (all_goals try rfl); (all_goals try (repeat' (first | done | rfl | (exfalso; omega) | (refine iteR (fun hq => ?_) (fun hq => ?_)))))
    · simp only [c2, if_false] at hl ⊢
      rw [callL_code g_ref13_New (by simp)]; simp -implicitDefEqProofs (disch := omega) only [c_ref13_New, r_ref13_New, ints, getDT, go_sem, *]; (try simp only [pA, pB, pC, pD, pE, pF, pG, pH, pI, pJ, pK, pL, pM, pN, pO, if_true, if_false]); repeat' (first | done | rfl | (refine iteC (fun hq => ?_) (fun hq => ?_) <;> (try (exfalso; omega)) <;> (try simp -implicitDefEqProofs (disch := omega) only [ints, getDT, go_sem, *]) <;> (try simp only [pA, pB, pC, pD, pE, pF, pG, pH, pI, pJ, pK, pL, pM, pN, pO, if_true, if_false]))); (all_goals try rfl); (all_goals try (repeat' (first | done | rfl | (exfalso; omega) | (refine iteR (fun hq => ?_) (fun hq => ?_)))))
theorem same_Locker (a b : Locker) (hL : a.cells.length ≤ 4294967296) : callL G N_ref13_Same [.d (eLocker a), .d (eLocker b)] [] = some (.d (.bool (decide (a = b))), []) := by
  have h1 := same_ref13_SameInts a.cells b.cells hL
  have e : decide (a = b) = (decide (a.cells = b.cells) && (decide (a.phase = b.phase) && (decide (a.have_ = b.have_) && (decide (a.tries = b.tries) && decide (a.wait = b.wait))))) := by
    cases a; cases b
    apply Bool.eq_iff_iff.2
    simp [and_assoc]
  rw [e]
  rw [callL_code g_ref13_Same (by simp)]; simp -implicitDefEqProofs (disch := omega) only [c_ref13_Same, r_ref13_Same, getDT, go_sem, *]; (try simp only [pA, pB, pC, pD, pE, pF, pG, pH, pI, pJ, pK, pL, pM, pN, pO, if_true, if_false])
def lockFree (l : Locker) : Locker × Int := if l.phase = 3 then ({ l with phase := 4 }, 0) else (zLocker, 7)
theorem lfree_ok (l : Locker) : callL G N_locker_Free [.d (eLocker l)] [] = some (.d (.tup [eLocker (lockFree l).1, .int .i64 (lockFree l).2]), []) := by
  unfold lockFree
  rw [callL_code g_locker_Free (by simp)]; simp -implicitDefEqProofs (disch := omega) only [c_locker_Free, r_locker_Free, getDT, go_sem, *]; (try simp only [pA, pB, pC, pD, pE, pF, pG, pH, pI, pJ, pK, pL, pM, pN, pO, if_true, if_false]); repeat' (first | done | rfl | (refine iteC (fun hq => ?_) (fun hq => ?_) <;> (try (exfalso; omega)) <;> (try simp -implicitDefEqProofs (disch := omega) only [getDT, go_sem, *]) <;> (try simp only [pA, pB, pC, pD, pE, pF, pG, pH, pI, pJ, pK, pL, pM, pN, pO, if_true, if_false]))); (all_goals try rfl); (all_goals try (repeat' (first | done | rfl | (exfalso; omega) | (refine iteR (fun hq => ?_) (fun hq => ?_)))))
theorem l13free_ok (l : Locker) : callL G N_ref13_Free [.d (eLocker l)] [] = some (.d (.tup [eLocker (lockFree l).1, .int .i64 (lockFree l).2]), []) := by
  unfold lockFree
  rw [callL_code g_ref13_Free (by simp)]; simp -implicitDefEqProofs (disch := omega) only [c_ref13_Free, r_ref13_Free, getDT, go_sem, *]; (try simp only [pA, pB, pC, pD, pE, pF, pG, pH, pI, pJ, pK, pL, pM, pN, pO, if_true, if_false]); repeat' (first | done | rfl | (refine iteC (fun hq => ?_) (fun hq => ?_) <;> (try (exfalso; omega)) <;> (try simp -implicitDefEqProofs (disch := omega) only [getDT, go_sem, *]) <;> (try simp only [pA, pB, pC, pD, pE, pF, pG, pH, pI, pJ, pK, pL, pM, pN, pO, if_true, if_false]))); (all_goals try rfl); (all_goals try (repeat' (first | done | rfl | (exfalso; omega) | (refine iteR (fun hq => ?_) (fun hq => ?_)))))
end Go.Proofs.Ytkdjbfjohbiemaa

namespace Go.Proofs.Ytkdjbfjohbiemaa
open Go Go.Sim
set_option linter.unusedSimpArgs false
set_option linter.unusedVariables false
set_option maxHeartbeats 10000000
set_option maxRecDepth 40000
/-- What every locker keeps to. -/
structure LWF (B : Int) (l : Locker) : Prop where
  c1 : 1 ≤ l.cells.length
  c2 : l.cells.length ≤ 3
  h0 : 0 ≤ l.have_
  h1 : l.have_ ≤ l.cells.length
  t0 : l.phase = 0 → l.have_ < l.cells.length
  t1 : l.phase = 1 → 1 ≤ l.have_
  t2 : l.phase = 2 → l.have_ = 0 ∧ 1 ≤ l.wait ∧ l.wait ≤ 3
  t3 : l.phase = 3 → l.have_ = l.cells.length
  t4 : l.phase = 4 → 1 ≤ l.have_
  t5 : 0 ≤ l.phase ∧ l.phase ≤ 5
  t6 : l.phase = 5 → l.have_ = 0
  b0 : 0 ≤ l.tries
  b1 : l.tries ≤ B
def lockTry (a : Arena) (l : Locker) (k : Int) : Arena × Locker × Int :=
  if (aTry a (l.cells.getD l.have_.toNat 0) k).2.2 = 0 then
    (if (aTry a (l.cells.getD l.have_.toNat 0) k).2.1 = true then ((aTry a (l.cells.getD l.have_.toNat 0) k).1, { l with have_ := l.have_ + 1, phase := if l.have_ + 1 = l.cells.length then 3 else l.phase }, 0)
      else ((aTry a (l.cells.getD l.have_.toNat 0) k).1, { l with phase := if 0 < l.have_ then 1 else l.phase }, 0))
  else (zArena, zLocker, (aTry a (l.cells.getD l.have_.toNat 0) k).2.2)
def leaveL (l : Locker) : Locker :=
  if 0 < l.have_ - 1 then { l with have_ := l.have_ - 1 } else if l.phase = 4 then { l with have_ := l.have_ - 1, phase := 5 } else { l with have_ := l.have_ - 1, tries := l.tries + 1, wait := if 3 < l.tries + 1 then 3 else l.tries + 1, phase := 2 }
def lockLeave (a : Arena) (l : Locker) (k : Int) : Arena × Locker × Int :=
  if (aUnlock a (l.cells.getD (l.have_ - 1).toNat 0) k).2 = 0 then ((aUnlock a (l.cells.getD (l.have_ - 1).toNat 0) k).1, leaveL l, 0) else (zArena, zLocker, (aUnlock a (l.cells.getD (l.have_ - 1).toNat 0) k).2)
theorem ltry_ok (a : Arena) (l : Locker) (k : Int) (hL : a.slots.length ≤ 1000) (h0 : 0 ≤ l.have_) (h1 : l.have_ < l.cells.length) (h2 : l.cells.length ≤ 3) : callL G N_locker_try [.d (eArena a), .d (eLocker l), .d (.int .i64 k)] [] = some (.d (.tup [eArena (lockTry a l k).1, eLocker (lockTry a l k).2.1, .int .i64 (lockTry a l k).2.2]), []) := by
  have ht := atry_ok a (l.cells.getD l.have_.toNat 0) k hL
  unfold lockTry
  generalize aTry a (l.cells.getD l.have_.toNat 0) k = r at ht ⊢
  obtain ⟨r1, r2, r3⟩ := r
  obtain ⟨l1, l2, l3, l4, l5⟩ := l
  simp only at *
  rw [getDT (by omega)] at ht
  by_cases c1 : r3 = 0
  · rw [if_pos c1]
    subst c1
    cases r2
    · simp only [Bool.false_eq_true, if_false]
      rw [callL_code g_locker_try (by simp)]; simp -implicitDefEqProofs (disch := omega) only [c_locker_try, r_locker_try, getDT, go_sem, *]; (try simp only [pA, pB, pC, pD, pE, pF, pG, pH, pI, pJ, pK, pL, pM, pN, pO, if_true, if_false]); repeat' (first | done | rfl | (refine iteC (fun hq => ?_) (fun hq => ?_) <;> (try (exfalso; omega)) <;> (try simp -implicitDefEqProofs (disch := omega) only [getDT, go_sem, *]) <;> (try simp only [pA, pB, pC, pD, pE, pF, pG, pH, pI, pJ, pK, pL, pM, pN, pO, if_true, if_false]))); (all_goals try rfl); (all_goals try (repeat' (first | done | rfl | (exfalso; omega) | (refine iteR (fun hq => ?_) (fun hq => ?_)))))
    · simp only [if_true]
      rw [callL_code g_locker_try (by simp)]; simp -implicitDefEqProofs (disch := omega) only [c_locker_try, r_locker_try, getDT, go_sem, *]; (try simp only [pA, pB, pC, pD, pE, pF, pG, pH, pI, pJ, pK, pL, pM, pN, pO, if_true, if_false]); repeat' (first | done | rfl | (refine iteC (fun hq => ?_) (fun hq => ?_) <;> (try (exfalso; omega)) <;> (try simp -implicitDefEqProofs (disch := omega) only [getDT, go_sem, *]) <;> (try simp only [pA, pB, pC, pD, pE, pF, pG, pH, pI, pJ, pK, pL, pM, pN, pO, if_true, if_false]))); (all_goals try rfl); (all_goals try (repeat' (first | done | rfl | (exfalso; omega) | (refine iteR (fun hq => ?_) (fun hq => ?_)))))
  · rw [if_neg c1]
    rw [callL_code g_locker_try (by simp)]; simp -implicitDefEqProofs (disch := omega) only [c_locker_try, r_locker_try, getDT, go_sem, *]; (try simp only [pA, pB, pC, pD, pE, pF, pG, pH, pI, pJ, pK, pL, pM, pN, pO, if_true, if_false]); repeat' (first | done | rfl | (refine iteC (fun hq => ?_) (fun hq => ?_) <;> (try (exfalso; omega)) <;> (try simp -implicitDefEqProofs (disch := omega) only [getDT, go_sem, *]) <;> (try simp only [pA, pB, pC, pD, pE, pF, pG, pH, pI, pJ, pK, pL, pM, pN, pO, if_true, if_false]))); (all_goals try rfl); (all_goals try (repeat' (first | done | rfl | (exfalso; omega) | (refine iteR (fun hq => ?_) (fun hq => ?_)))))
theorem lleave_ok (a : Arena) (l : Locker) (k : Int) (hL : a.slots.length ≤ 1000) (h0 : 1 ≤ l.have_) (h1 : l.have_ ≤ l.cells.length) (h2 : l.cells.length ≤ 3) (h3 : 0 ≤ l.tries) (h4 : l.tries ≤ 1000000) : callL G N_locker_leave [.d (eArena a), .d (eLocker l), .d (.int .i64 k)] [] = some (.d (.tup [eArena (lockLeave a l k).1, eLocker (lockLeave a l k).2.1, .int .i64 (lockLeave a l k).2.2]), []) := by
  have ht := aunlock_ok a (l.cells.getD (l.have_ - 1).toNat 0) k hL
  unfold lockLeave leaveL
  generalize aUnlock a (l.cells.getD (l.have_ - 1).toNat 0) k = r at ht ⊢
  obtain ⟨r1, r3⟩ := r
  obtain ⟨l1, l2, l3, l4, l5⟩ := l
  simp only at *
  rw [getDT (by omega)] at ht
  by_cases c1 : r3 = 0
  · rw [if_pos c1]
    subst c1
    by_cases c2 : 3 < l4 + 1
    · simp only [c2, if_true]
      rw [callL_code g_locker_leave (by simp)]; simp -implicitDefEqProofs (disch := omega) only [c_locker_leave, r_locker_leave, getDT, go_sem, *]; (try simp only [pA, pB, pC, pD, pE, pF, pG, pH, pI, pJ, pK, pL, pM, pN, pO, if_true, if_false]); repeat' (first | done | rfl | (refine iteC (fun hq => ?_) (fun hq => ?_) <;> (try (exfalso; omega)) <;> (try simp -implicitDefEqProofs (disch := omega) only [getDT, go_sem, *]) <;> (try simp only [pA, pB, pC, pD, pE, pF, pG, pH, pI, pJ, pK, pL, pM, pN, pO, if_true, if_false]))); (all_goals try rfl); (all_goals try (repeat' (first | done | rfl | (exfalso; omega) | (refine iteR (fun hq => ?_) (fun hq => ?_)))))
    · simp only [c2, if_false]
      rw [callL_code g_locker_leave (by simp)]; simp -implicitDefEqProofs (disch := omega) only [c_locker_leave, r_locker_leave, getDT, go_sem, *]; (try simp only [pA, pB, pC, pD, pE, pF, pG, pH, pI, pJ, pK, pL, pM, pN, pO, if_true, if_false]); repeat' (first | done | rfl | (refine iteC (fun hq => ?_) (fun hq => ?_) <;> (try (exfalso; omega)) <;> (try simp -implicitDefEqProofs (disch := omega) only [getDT, go_sem, *]) <;> (try simp only [pA, pB, pC, pD, pE, pF, pG, pH, pI, pJ, pK, pL, pM, pN, pO, if_true, if_false]))); (all_goals try rfl); (all_goals try (repeat' (first | done | rfl | (exfalso; omega) | (refine iteR (fun hq => ?_) (fun hq => ?_)))))
  · rw [if_neg c1]
    rw [callL_code g_locker_leave (by simp)]; simp -implicitDefEqProofs (disch := omega) only [c_locker_leave, r_locker_leave, getDT, go_sem, *]; (try simp only [pA, pB, pC, pD, pE, pF, pG, pH, pI, pJ, pK, pL, pM, pN, pO, if_true, if_false]); repeat' (first | done | rfl | (refine iteC (fun hq => ?_) (fun hq => ?_) <;> (try (exfalso; omega)) <;> (try simp -implicitDefEqProofs (disch := omega) only [getDT, go_sem, *]) <;> (try simp only [pA, pB, pC, pD, pE, pF, pG, pH, pI, pJ, pK, pL, pM, pN, pO, if_true, if_false]))); (all_goals try rfl); (all_goals try (repeat' (first | done | rfl | (exfalso; omega) | (refine iteR (fun hq => ?_) (fun hq => ?_)))))
def lockStep (a : Arena) (l : Locker) (k : Int) : Arena × Locker × Int :=
  if l.phase = 0 then lockTry a l k else if l.phase = 1 ∨ l.phase = 4 then lockLeave a l k else if l.phase = 2 then (a, { l with wait := l.wait - 1, phase := if l.wait - 1 = 0 then 0 else 2 }, 0) else (zArena, zLocker, 7)
theorem lstep_ok (a : Arena) (l : Locker) (k : Int) (hL : a.slots.length ≤ 1000) (hw : LWF 1000000 l) : callL G N_locker_Step [.d (eArena a), .d (eLocker l), .d (.int .i64 k)] [] = some (.d (.tup [eArena (lockStep a l k).1, eLocker (lockStep a l k).2.1, .int .i64 (lockStep a l k).2.2]), []) := by
  obtain ⟨w1, w2, w3, w4, w5, w6, w7, w8, w9, w10, w11, w12, w13⟩ := hw
  unfold lockStep
  by_cases c0 : l.phase = 0
  · have ht := ltry_ok a l k hL w3 (w5 c0) w2
    rw [if_pos c0]
    rw [callL_code g_locker_Step (by simp)]; simp -implicitDefEqProofs (disch := omega) only [c_locker_Step, r_locker_Step, getDT, go_sem, *]; (try simp only [pA, pB, pC, pD, pE, pF, pG, pH, pI, pJ, pK, pL, pM, pN, pO, if_true, if_false]); repeat' (first | done | rfl | (refine iteC (fun hq => ?_) (fun hq => ?_) <;> (try (exfalso; omega)) <;> (try simp -implicitDefEqProofs (disch := omega) only [getDT, go_sem, *]) <;> (try simp only [pA, pB, pC, pD, pE, pF, pG, pH, pI, pJ, pK, pL, pM, pN, pO, if_true, if_false]))); (all_goals try rfl); (all_goals try (repeat' (first | done | rfl | (exfalso; omega) | (refine iteR (fun hq => ?_) (fun hq => ?_)))))
  rw [if_neg c0]
  by_cases c1 : l.phase = 1
  · have ht := lleave_ok a l k hL (w6 c1) w4 w2 w12 w13
    rw [if_pos (Or.inl c1)]
    rw [callL_code g_locker_Step (by simp)]; simp -implicitDefEqProofs (disch := omega) only [c_locker_Step, r_locker_Step, getDT, go_sem, *]; (try simp only [pA, pB, pC, pD, pE, pF, pG, pH, pI, pJ, pK, pL, pM, pN, pO, if_true, if_false]); repeat' (first | done | rfl | (refine iteC (fun hq => ?_) (fun hq => ?_) <;> (try (exfalso; omega)) <;> (try simp -implicitDefEqProofs (disch := omega) only [getDT, go_sem, *]) <;> (try simp only [pA, pB, pC, pD, pE, pF, pG, pH, pI, pJ, pK, pL, pM, pN, pO, if_true, if_false]))); (all_goals try rfl); (all_goals try (repeat' (first | done | rfl | (exfalso; omega) | (refine iteR (fun hq => ?_) (fun hq => ?_)))))
  by_cases c4 : l.phase = 4
  · have ht := lleave_ok a l k hL (w9 c4) w4 w2 w12 w13
    rw [if_pos (Or.inr c4)]
    rw [callL_code g_locker_Step (by simp)]; simp -implicitDefEqProofs (disch := omega) only [c_locker_Step, r_locker_Step, getDT, go_sem, *]; (try simp only [pA, pB, pC, pD, pE, pF, pG, pH, pI, pJ, pK, pL, pM, pN, pO, if_true, if_false]); repeat' (first | done | rfl | (refine iteC (fun hq => ?_) (fun hq => ?_) <;> (try (exfalso; omega)) <;> (try simp -implicitDefEqProofs (disch := omega) only [getDT, go_sem, *]) <;> (try simp only [pA, pB, pC, pD, pE, pF, pG, pH, pI, pJ, pK, pL, pM, pN, pO, if_true, if_false]))); (all_goals try rfl); (all_goals try (repeat' (first | done | rfl | (exfalso; omega) | (refine iteR (fun hq => ?_) (fun hq => ?_)))))
  rw [if_neg (by omega)]
  by_cases c2 : l.phase = 2
  · have := w7 c2
    rw [if_pos c2]
    rw [callL_code g_locker_Step (by simp)]; simp -implicitDefEqProofs (disch := omega) only [c_locker_Step, r_locker_Step, getDT, go_sem, *]; (try simp only [pA, pB, pC, pD, pE, pF, pG, pH, pI, pJ, pK, pL, pM, pN, pO, if_true, if_false]); repeat' (first | done | rfl | (refine iteC (fun hq => ?_) (fun hq => ?_) <;> (try (exfalso; omega)) <;> (try simp -implicitDefEqProofs (disch := omega) only [getDT, go_sem, *]) <;> (try simp only [pA, pB, pC, pD, pE, pF, pG, pH, pI, pJ, pK, pL, pM, pN, pO, if_true, if_false]))); (all_goals try rfl); (all_goals try (repeat' (first | done | rfl | (exfalso; omega) | (refine iteR (fun hq => ?_) (fun hq => ?_)))))
  · rw [if_neg c2]
    rw [callL_code g_locker_Step (by simp)]; simp -implicitDefEqProofs (disch := omega) only [c_locker_Step, r_locker_Step, getDT, go_sem, *]; (try simp only [pA, pB, pC, pD, pE, pF, pG, pH, pI, pJ, pK, pL, pM, pN, pO, if_true, if_false]); repeat' (first | done | rfl | (refine iteC (fun hq => ?_) (fun hq => ?_) <;> (try (exfalso; omega)) <;> (try simp -implicitDefEqProofs (disch := omega) only [getDT, go_sem, *]) <;> (try simp only [pA, pB, pC, pD, pE, pF, pG, pH, pI, pJ, pK, pL, pM, pN, pO, if_true, if_false]))); (all_goals try rfl); (all_goals try (repeat' (first | done | rfl | (exfalso; omega) | (refine iteR (fun hq => ?_) (fun hq => ?_)))))
theorem l13step_ok (a : Arena) (l : Locker) (k : Int) (hL : a.slots.length ≤ 1000) (hw : LWF 1000000 l) : callL G N_ref13_Step [.d (eArena a), .d (eLocker l), .d (.int .i64 k)] [] = some (.d (.tup [eArena (lockStep a l k).1, eLocker (lockStep a l k).2.1, .int .i64 (lockStep a l k).2.2]), []) := by
  obtain ⟨w1, w2, w3, w4, w5, w6, w7, w8, w9, w10, w11, w12, w13⟩ := hw
  unfold lockStep lockTry lockLeave leaveL
  by_cases c0 : l.phase = 0
  · have ht := try12_ok a (l.cells.getD l.have_.toNat 0) k hL
    have hh := w5 c0
    rw [if_pos c0]
    generalize aTry a (l.cells.getD l.have_.toNat 0) k = r at ht ⊢
    obtain ⟨r1, r2, r3⟩ := r
    obtain ⟨l1, l2, l3, l4, l5⟩ := l
    simp only at *
    rw [getDT (by omega)] at ht
    by_cases c1 : r3 = 0
    · rw [if_pos c1]
      subst c1
      cases r2
      · simp only [Bool.false_eq_true, if_false]
        rw [callL_code g_ref13_Step (by simp)]; simp -implicitDefEqProofs (disch := omega) only [c_ref13_Step, r_ref13_Step, getDT, go_sem, *]; (try simp only [pA, pB, pC, pD, pE, pF, pG, pH, pI, pJ, pK, pL, pM, pN, pO, if_true, if_false]); repeat' (first | done | rfl | (refine iteC (fun hq => ?_) (fun hq => ?_) <;> (try (exfalso; omega)) <;> (try simp -implicitDefEqProofs (disch := omega) only [getDT, go_sem, *]) <;> (try simp only [pA, pB, pC, pD, pE, pF, pG, pH, pI, pJ, pK, pL, pM, pN, pO, if_true, if_false]))); (all_goals try rfl); (all_goals try (repeat' (first | done | rfl | (exfalso; omega) | (refine iteR (fun hq => ?_) (fun hq => ?_)))))
      · simp only [if_true]
        rw [callL_code g_ref13_Step (by simp)]; simp -implicitDefEqProofs (disch := omega) only [c_ref13_Step, r_ref13_Step, getDT, go_sem, *]; (try simp only [pA, pB, pC, pD, pE, pF, pG, pH, pI, pJ, pK, pL, pM, pN, pO, if_true, if_false]); repeat' (first | done | rfl | (refine iteC (fun hq => ?_) (fun hq => ?_) <;> (try (exfalso; omega)) <;> (try simp -implicitDefEqProofs (disch := omega) only [getDT, go_sem, *]) <;> (try simp only [pA, pB, pC, pD, pE, pF, pG, pH, pI, pJ, pK, pL, pM, pN, pO, if_true, if_false]))); (all_goals try rfl); (all_goals try (repeat' (first | done | rfl | (exfalso; omega) | (refine iteR (fun hq => ?_) (fun hq => ?_)))))
    · rw [if_neg c1]
      rw [callL_code g_ref13_Step (by simp)]; simp -implicitDefEqProofs (disch := omega) only [c_ref13_Step, r_ref13_Step, getDT, go_sem, *]; (try simp only [pA, pB, pC, pD, pE, pF, pG, pH, pI, pJ, pK, pL, pM, pN, pO, if_true, if_false]); repeat' (first | done | rfl | (refine iteC (fun hq => ?_) (fun hq => ?_) <;> (try (exfalso; omega)) <;> (try simp -implicitDefEqProofs (disch := omega) only [getDT, go_sem, *]) <;> (try simp only [pA, pB, pC, pD, pE, pF, pG, pH, pI, pJ, pK, pL, pM, pN, pO, if_true, if_false]))); (all_goals try rfl); (all_goals try (repeat' (first | done | rfl | (exfalso; omega) | (refine iteR (fun hq => ?_) (fun hq => ?_)))))
  rw [if_neg c0]
  by_cases c14 : l.phase = 1 ∨ l.phase = 4
  · have ht := unlock12_ok a (l.cells.getD (l.have_ - 1).toNat 0) k hL
    have hh : 1 ≤ l.have_ := by rcases c14 with h | h; exact w6 h; exact w9 h
    rw [if_pos c14]
    generalize aUnlock a (l.cells.getD (l.have_ - 1).toNat 0) k = r at ht ⊢
    obtain ⟨r1, r3⟩ := r
    obtain ⟨l1, l2, l3, l4, l5⟩ := l
    simp only at *
    rw [getDT (by omega)] at ht
    by_cases c1 : r3 = 0
    · rw [if_pos c1]
      subst c1
      by_cases c2 : 3 < l4 + 1
      · simp only [c2, if_true]
        rcases c14 with c5 | c5
        · rw [callL_code g_ref13_Step (by simp)]; simp -implicitDefEqProofs (disch := omega) only [c_ref13_Step, r_ref13_Step, getDT, go_sem, *]; (try simp only [pA, pB, pC, pD, pE, pF, pG, pH, pI, pJ, pK, pL, pM, pN, pO, if_true, if_false]); repeat' (first | done | rfl | (refine iteC (fun hq => ?_) (fun hq => ?_) <;> (try (exfalso; omega)) <;> (try simp -implicitDefEqProofs (disch := omega) only [getDT, go_sem, *]) <;> (try simp only [pA, pB, pC, pD, pE, pF, pG, pH, pI, pJ, pK, pL, pM, pN, pO, if_true, if_false]))); (all_goals try rfl); (all_goals try (repeat' (first | done | rfl | (exfalso; omega) | (refine iteR (fun hq => ?_) (fun hq => ?_)))))
        · rw [callL_code g_ref13_Step (by simp)]; simp -implicitDefEqProofs (disch := omega) only [c_ref13_Step, r_ref13_Step, getDT, go_sem, *]; (try simp only [pA, pB, pC, pD, pE, pF, pG, pH, pI, pJ, pK, pL, pM, pN, pO, if_true, if_false]); repeat' (first | done | rfl | (refine iteC (fun hq => ?_) (fun hq => ?_) <;> (try (exfalso; omega)) <;> (try simp -implicitDefEqProofs (disch := omega) only [getDT, go_sem, *]) <;> (try simp only [pA, pB, pC, pD, pE, pF, pG, pH, pI, pJ, pK, pL, pM, pN, pO, if_true, if_false]))); (all_goals try rfl); (all_goals try (repeat' (first | done | rfl | (exfalso; omega) | (refine iteR (fun hq => ?_) (fun hq => ?_)))))
      · simp only [c2, if_false]
        rcases c14 with c5 | c5
        · rw [callL_code g_ref13_Step (by simp)]; simp -implicitDefEqProofs (disch := omega) only [c_ref13_Step, r_ref13_Step, getDT, go_sem, *]; (try simp only [pA, pB, pC, pD, pE, pF, pG, pH, pI, pJ, pK, pL, pM, pN, pO, if_true, if_false]); repeat' (first | done | rfl | (refine iteC (fun hq => ?_) (fun hq => ?_) <;> (try (exfalso; omega)) <;> (try simp -implicitDefEqProofs (disch := omega) only [getDT, go_sem, *]) <;> (try simp only [pA, pB, pC, pD, pE, pF, pG, pH, pI, pJ, pK, pL, pM, pN, pO, if_true, if_false]))); (all_goals try rfl); (all_goals try (repeat' (first | done | rfl | (exfalso; omega) | (refine iteR (fun hq => ?_) (fun hq => ?_)))))
        · rw [callL_code g_ref13_Step (by simp)]; simp -implicitDefEqProofs (disch := omega) only [c_ref13_Step, r_ref13_Step, getDT, go_sem, *]; (try simp only [pA, pB, pC, pD, pE, pF, pG, pH, pI, pJ, pK, pL, pM, pN, pO, if_true, if_false]); repeat' (first | done | rfl | (refine iteC (fun hq => ?_) (fun hq => ?_) <;> (try (exfalso; omega)) <;> (try simp -implicitDefEqProofs (disch := omega) only [getDT, go_sem, *]) <;> (try simp only [pA, pB, pC, pD, pE, pF, pG, pH, pI, pJ, pK, pL, pM, pN, pO, if_true, if_false]))); (all_goals try rfl); (all_goals try (repeat' (first | done | rfl | (exfalso; omega) | (refine iteR (fun hq => ?_) (fun hq => ?_)))))
    · rw [if_neg c1]
      rcases c14 with c5 | c5
      · rw [callL_code g_ref13_Step (by simp)]; simp -implicitDefEqProofs (disch := omega) only [c_ref13_Step, r_ref13_Step, getDT, go_sem, *]; (try simp only [pA, pB, pC, pD, pE, pF, pG, pH, pI, pJ, pK, pL, pM, pN, pO, if_true, if_false]); repeat' (first | done | rfl | (refine iteC (fun hq => ?_) (fun hq => ?_) <;> (try (exfalso; omega)) <;> (try simp -implicitDefEqProofs (disch := omega) only [getDT, go_sem, *]) <;> (try simp only [pA, pB, pC, pD, pE, pF, pG, pH, pI, pJ, pK, pL, pM, pN, pO, if_true, if_false]))); (all_goals try rfl); (all_goals try (repeat' (first | done | rfl | (exfalso; omega) | (refine iteR (fun hq => ?_) (fun hq => ?_)))))
      · rw [callL_code g_ref13_Step (by simp)]; simp -implicitDefEqProofs (disch := omega) only [c_ref13_Step, r_ref13_Step, getDT, go_sem, *]; (try simp only [pA, pB, pC, pD, pE, pF, pG, pH, pI, pJ, pK, pL, pM, pN, pO, if_true, if_false]); repeat' (first | done | rfl | (refine iteC (fun hq => ?_) (fun hq => ?_) <;> (try (exfalso; omega)) <;> (try simp -implicitDefEqProofs (disch := omega) only [getDT, go_sem, *]) <;> (try simp only [pA, pB, pC, pD, pE, pF, pG, pH, pI, pJ, pK, pL, pM, pN, pO, if_true, if_false]))); (all_goals try rfl); (all_goals try (repeat' (first | done | rfl | (exfalso; omega) | (refine iteR (fun hq => ?_) (fun hq => ?_)))))
  rw [if_neg c14]
  by_cases c2 : l.phase = 2
  · have := w7 c2
    rw [if_pos c2]
    rw [callL_code g_ref13_Step (by simp)]; simp -implicitDefEqProofs (disch := omega) only [c_ref13_Step, r_ref13_Step, getDT, go_sem, *]; (try simp only [pA, pB, pC, pD, pE, pF, pG, pH, pI, pJ, pK, pL, pM, pN, pO, if_true, if_false]); repeat' (first | done | rfl | (refine iteC (fun hq => ?_) (fun hq => ?_) <;> (try (exfalso; omega)) <;> (try simp -implicitDefEqProofs (disch := omega) only [getDT, go_sem, *]) <;> (try simp only [pA, pB, pC, pD, pE, pF, pG, pH, pI, pJ, pK, pL, pM, pN, pO, if_true, if_false]))); (all_goals try rfl); (all_goals try (repeat' (first | done | rfl | (exfalso; omega) | (refine iteR (fun hq => ?_) (fun hq => ?_)))))
  · have q : ¬ l.phase = 1 ∧ ¬ l.phase = 4 := by omega
    obtain ⟨q1, q2⟩ := q
    rw [if_neg c2]
    rw [callL_code g_ref13_Step (by simp)]; simp -implicitDefEqProofs (disch := omega) only [c_ref13_Step, r_ref13_Step, getDT, go_sem, *]; (try simp only [pA, pB, pC, pD, pE, pF, pG, pH, pI, pJ, pK, pL, pM, pN, pO, if_true, if_false]); repeat' (first | done | rfl | (refine iteC (fun hq => ?_) (fun hq => ?_) <;> (try (exfalso; omega)) <;> (try simp -implicitDefEqProofs (disch := omega) only [getDT, go_sem, *]) <;> (try simp only [pA, pB, pC, pD, pE, pF, pG, pH, pI, pJ, pK, pL, pM, pN, pO, if_true, if_false]))); (all_goals try rfl); (all_goals try (repeat' (first | done | rfl | (exfalso; omega) | (refine iteR (fun hq => ?_) (fun hq => ?_)))))
end Go.Proofs.Ytkdjbfjohbiemaa

namespace Go.Proofs.Ytkdjbfjohbiemaa
open Go Go.Sim
set_option linter.unusedSimpArgs false
set_option linter.unusedVariables false
set_option maxHeartbeats 10000000
set_option maxRecDepth 40000
structure Asc (cs : List Int) (n : Int) : Prop where
  p : cs.Pairwise (· < ·)
  b : ∀ c ∈ cs, 0 ≤ c ∧ c ≤ n
  l : cs.length ≤ 3
theorem Asc.at {cs : List Int} {n : Int} (h : Asc cs n) (hn : n ≤ 6) : (List.range cs.length).all (lockAt cs) = true := by
  rw [List.all_eq_true]
  intro k hk
  have hk := List.mem_range.1 hk
  unfold lockAt
  have h1 := h.b cs[k] (List.getElem_mem hk)
  rw [getDT hk]
  refine decide_eq_true ⟨h1.1, by omega, ?_⟩
  by_cases h0 : k = 0
  · exact .inl h0
  · right
    rw [getDT (by omega)]
    exact List.pairwise_iff_getElem.1 h.p (k - 1) k (by omega) hk (by omega)
theorem lockNew_asc {cs : List Int} {n : Int} (h : Asc cs n) (hn : n ≤ 6) (h0 : 1 ≤ cs.length) : lockNew cs = (⟨cs, 0, 0, 0, 0⟩, 0) := by
  unfold lockNew
  have := h.l
  rw [if_neg (by omega), if_pos (h.at hn)]
theorem asc_append {cs : List Int} {n i : Int} (h : Asc cs n) (hi : ∀ c ∈ cs, c < i) (h0 : 0 ≤ i) (h1 : i ≤ n) (hl : cs.length < 3) : Asc (cs ++ [i]) n := by
  refine ⟨List.pairwise_append.2 ⟨h.p, by simp, fun a ha b hb => ?_⟩, fun c hc => ?_, by simp; omega⟩
  · simp at hb; rw [hb]; exact hi a ha
  · rcases List.mem_append.1 hc with hc | hc
    · exact h.b c hc
    · simp at hc; omega
theorem some_loop (l : List Int) (n : Nat) (hL : l.length ≤ 4000) (hn : n ≤ 6) : ∀ p : Nat × Nat × List Int, (p.1 ≤ n + 1 ∧ Asc p.2.2 n ∧ ∀ c ∈ p.2.2, c < p.1) → ∃ a' cs, Asc cs n ∧ loopL G [] l_law13_some_0 ⟨[(0, .ref 1000000 0 0), (1, .d (.int .i64 n)), (5, .acc 5 (ints p.2.2)), (6, .d (.int .i64 p.1)), (1000000, .ref 1000000 1 0)], [(5, .acc p.2.2.length), (1000000, srcO l p.2.1)]⟩ = some (.exit 0, ⟨[(0, .ref 1000000 0 0), (1, .d (.int .i64 n)), (5, .acc 5 (ints cs)), (1000000, .ref 1000000 1 0)], [(5, .acc cs.length), (1000000, srcO l a')]⟩) := by
  refine loop_indP (fun p : Nat × Nat × List Int => n + 1 - p.1) _ (fun p : Nat × Nat × List Int => ⟨[(0, .ref 1000000 0 0), (1, .d (.int .i64 n)), (5, .acc 5 (ints p.2.2)), (6, .d (.int .i64 p.1)), (1000000, .ref 1000000 1 0)], [(5, .acc p.2.2.length), (1000000, srcO l p.2.1)]⟩) (fun p r => ∃ a' cs, Asc cs n ∧ r = some (.exit 0, ⟨[(0, .ref 1000000 0 0), (1, .d (.int .i64 n)), (5, .acc 5 (ints cs)), (1000000, .ref 1000000 1 0)], [(5, .acc cs.length), (1000000, srcO l a')]⟩)) fun ⟨k, a, cs⟩ ⟨hk, hA, hlt⟩ L ih => ?_
  simp only at ih hk hA hlt
  have hl3 := hA.l
  have hn := n_ok l a 2 hL (by omega) (by omega)
  simp only [l_law13_some_0]
  by_cases h0 : k ≤ n ∧ cs.length < 3
  · by_cases c1 : nD l a 2 = 0
    · obtain ⟨a', cs', h1, h2⟩ := ih (k + 1, (rawD l a).2, cs ++ [(k : Int)]) ⟨by simp only; omega, asc_append hA hlt (by omega) (by omega) (by omega), fun c hc => by
        simp only at hc ⊢
        rcases List.mem_append.1 hc with hc | hc
        · have := hlt c hc; omega
        · simp at hc; omega⟩ (by simp only; omega)
      refine ⟨a', cs', h1, ?_⟩
      simp only [ints] at h2
      simp only [Int.natCast_add, Int.natCast_one, Int.natCast_zero, Int.natCast_mul, Int.cast_ofNat_Int, List.length_append, List.length_map, List.map_nil, List.length_nil, List.map_append, List.map_cons, List.length_cons, Nat.zero_add, srcO] at h2
      rw [← h2]
      (try simp -implicitDefEqProofs (disch := omega) only [c1, getDT, go_sem, *]); (try simp only [pA, pB, pC, pD, pE, pF, pG, pH, pI, pJ, pK, pL, pM, pN, pO, if_true, if_false]); repeat' (first | done | rfl | (refine iteC (fun hq => ?_) (fun hq => ?_) <;> (try (exfalso; omega)) <;> (try simp -implicitDefEqProofs (disch := omega) only [c1, getDT, go_sem, *]) <;> (try simp only [pA, pB, pC, pD, pE, pF, pG, pH, pI, pJ, pK, pL, pM, pN, pO, if_true, if_false]))); (all_goals try rfl); (all_goals try (repeat' (first | done | rfl | (exfalso; omega) | (refine iteR (fun hq => ?_) (fun hq => ?_)))))
    · obtain ⟨a', cs', h1, h2⟩ := ih (k + 1, (rawD l a).2, cs) ⟨by simp only; omega, hA, fun c hc => by have := hlt c hc; simp only; omega⟩ (by simp only; omega)
      refine ⟨a', cs', h1, ?_⟩
      simp only [Int.natCast_add, Int.natCast_one, Int.natCast_zero, Int.natCast_mul, Int.cast_ofNat_Int, List.length_append, List.length_map, List.map_nil, List.length_nil, List.map_append, List.map_cons, List.length_cons, Nat.zero_add, srcO] at h2
      rw [← h2]
      (try simp -implicitDefEqProofs (disch := omega) only [c1, getDT, go_sem, *]); (try simp only [pA, pB, pC, pD, pE, pF, pG, pH, pI, pJ, pK, pL, pM, pN, pO, if_true, if_false]); repeat' (first | done | rfl | (refine iteC (fun hq => ?_) (fun hq => ?_) <;> (try (exfalso; omega)) <;> (try simp -implicitDefEqProofs (disch := omega) only [c1, getDT, go_sem, *]) <;> (try simp only [pA, pB, pC, pD, pE, pF, pG, pH, pI, pJ, pK, pL, pM, pN, pO, if_true, if_false]))); (all_goals try rfl); (all_goals try (repeat' (first | done | rfl | (exfalso; omega) | (refine iteR (fun hq => ?_) (fun hq => ?_)))))
  · refine ⟨a, cs, hA, ?_⟩
    by_cases h1 : k ≤ n
    · (try simp -implicitDefEqProofs (disch := omega) only [h1, getDT, go_sem, *]); (try simp only [pA, pB, pC, pD, pE, pF, pG, pH, pI, pJ, pK, pL, pM, pN, pO, if_true, if_false]); repeat' (first | done | rfl | (refine iteC (fun hq => ?_) (fun hq => ?_) <;> (try (exfalso; omega)) <;> (try simp -implicitDefEqProofs (disch := omega) only [h1, getDT, go_sem, *]) <;> (try simp only [pA, pB, pC, pD, pE, pF, pG, pH, pI, pJ, pK, pL, pM, pN, pO, if_true, if_false]))); (all_goals try rfl); (all_goals try (repeat' (first | done | rfl | (exfalso; omega) | (refine iteR (fun hq => ?_) (fun hq => ?_)))))
    · (try simp -implicitDefEqProofs (disch := omega) only [h1, getDT, go_sem, *]); (try simp only [pA, pB, pC, pD, pE, pF, pG, pH, pI, pJ, pK, pL, pM, pN, pO, if_true, if_false]); repeat' (first | done | rfl | (refine iteC (fun hq => ?_) (fun hq => ?_) <;> (try (exfalso; omega)) <;> (try simp -implicitDefEqProofs (disch := omega) only [h1, getDT, go_sem, *]) <;> (try simp only [pA, pB, pC, pD, pE, pF, pG, pH, pI, pJ, pK, pL, pM, pN, pO, if_true, if_false]))); (all_goals try rfl); (all_goals try (repeat' (first | done | rfl | (exfalso; omega) | (refine iteR (fun hq => ?_) (fun hq => ?_)))))
theorem some_ok (l : List Int) (a : Nat) (n : Nat) (hL : l.length ≤ 4000) (hn : n ≤ 6) : ∃ cs a', Asc cs n ∧ 1 ≤ cs.length ∧ callL G N_law13_some [.ref 1000000 0 0, .d (.int .i64 n)] [(1000000, srcO l a)] = some (.d (.sl (ints cs)), [(1000000, srcO l a')]) := by
  obtain ⟨a1, cs, h1, h2⟩ := some_loop l n hL hn (0, a, []) ⟨by simp, ⟨List.Pairwise.nil, by simp, by simp⟩, by simp⟩
  have hn := n_ok l a1 (n + 1) hL (by omega) (by omega)
  have hni := nD_in l a1 (n := n + 1) (by omega)
  simp only [ints] at h2
  simp only [Int.natCast_add, Int.natCast_one, Int.natCast_zero, Int.natCast_mul, Int.cast_ofNat_Int, List.length_append, List.length_map, List.map_nil, List.length_nil, List.map_append, List.map_cons, List.length_cons, Nat.zero_add, srcO] at h2
  by_cases c1 : cs.length = 0
  · have : cs = [] := List.length_eq_zero_iff.1 c1
    subst this
    refine ⟨[nD l a1 (n + 1)], (rawD l a1).2, ⟨by simp, by simp; omega, by simp⟩, by simp, ?_⟩
    simp only [List.map_nil, List.length_nil, List.map_cons] at h2 ⊢
    rw [callL_code g_law13_some (by simp)]; simp -implicitDefEqProofs (disch := omega) only [c_law13_some, r_law13_some, getDT, go_sem, *]; (try simp only [pA, pB, pC, pD, pE, pF, pG, pH, pI, pJ, pK, pL, pM, pN, pO, if_true, if_false]); repeat' (first | done | rfl | (refine iteC (fun hq => ?_) (fun hq => ?_) <;> (try (exfalso; omega)) <;> (try simp -implicitDefEqProofs (disch := omega) only [getDT, go_sem, *]) <;> (try simp only [pA, pB, pC, pD, pE, pF, pG, pH, pI, pJ, pK, pL, pM, pN, pO, if_true, if_false]))); (all_goals try rfl); (all_goals try (repeat' (first | done | rfl | (exfalso; omega) | (refine iteR (fun hq => ?_) (fun hq => ?_)))))
  · refine ⟨cs, a1, h1, by omega, ?_⟩
    rw [callL_code g_law13_some (by simp)]; simp -implicitDefEqProofs (disch := omega) only [c_law13_some, r_law13_some, getDT, go_sem, *]; (try simp only [pA, pB, pC, pD, pE, pF, pG, pH, pI, pJ, pK, pL, pM, pN, pO, if_true, if_false]); repeat' (first | done | rfl | (refine iteC (fun hq => ?_) (fun hq => ?_) <;> (try (exfalso; omega)) <;> (try simp -implicitDefEqProofs (disch := omega) only [getDT, go_sem, *]) <;> (try simp only [pA, pB, pC, pD, pE, pF, pG, pH, pI, pJ, pK, pL, pM, pN, pO, if_true, if_false]))); (all_goals try rfl); (all_goals try (repeat' (first | done | rfl | (exfalso; omega) | (refine iteR (fun hq => ?_) (fun hq => ?_)))))
end Go.Proofs.Ytkdjbfjohbiemaa
