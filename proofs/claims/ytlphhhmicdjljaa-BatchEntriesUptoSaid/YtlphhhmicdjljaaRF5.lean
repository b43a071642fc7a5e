/-
  Arenas: New.
-/
import Derived.Test.YtlphhhmicdjljaaRF4
namespace Go.Proofs.Ytlphhhmicdjljaa
open Go Go.Sim
set_option linter.unusedSimpArgs false
set_option linter.unusedVariables false
set_option maxHeartbeats 10000000
set_option maxRecDepth 40000
structure SetupOk (s : Setup) (n l : Nat) : Prop where
  ns : s.slots = n
  nl : s.live = l
  h1 : 1 ≤ l
  h2 : l ≤ n
  h3 : n ≤ 6
  c1 : 1 ≤ s.capacity
  c2 : s.capacity ≤ 12
  d1 : 1 ≤ s.dead
  d2 : s.dead ≤ 24
theorem setupOk_of {s : Setup} (h : okSetup s = true) : ∃ n l, SetupOk s n l ∧ inB s.limit 1 8 = true ∧ inB s.clock 0 1073741824 = true ∧ inB s.nextID 1 1073741824 = true ∧ inB s.epoch 0 65536 = true := by
  unfold okSetup at h
  simp only [Bool.and_eq_true] at h
  obtain ⟨h1, h2, h3, h4, h5, h6, h7, h8⟩ := h
  simp only [inB, Bool.and_eq_true, decide_eq_true_eq] at h1 h2 h3 h4
  exact ⟨s.slots.toNat, s.live.toNat, ⟨by omega, by omega, by omega, by omega, by omega, h3.1, h3.2, h4.1, h4.2⟩, h5, h6, h7, h8⟩
theorem spanI_in {l i : Nat} (h1 : 1 ≤ l) (h2 : i < l) (h3 : l ≤ 6) : spansB (spanI l i).low (spanI l i).high = true := by
  have key : ∀ l : Nat, l < 7 → ∀ i : Nat, i < 7 → 1 ≤ l → i < l → spansB (spanI l i).low (spanI l i).high = true := by decide
  exact key l (by omega) i (by omega) h1 h2
theorem slotsN_succ (s : Setup) (k : Nat) : slotsN s (k + 1) = slotsN s k ++ [slotI s k] := by simp [slotsN, List.range_succ]
theorem slotsN_len (s : Setup) (k : Nat) : (slotsN s k).length = k := by simp [slotsN]
theorem stripesN_succ (s : Setup) (k : Nat) : stripesN s (k + 1) = stripesN s k ++ [⟨0, s.epoch, 0, 0⟩] := by simp [stripesN, List.replicate_succ']
theorem stripesN_len (s : Setup) (k : Nat) : (stripesN s k).length = k := by simp [stripesN]
def ar2 : Nat × Go.Sim.Obj := (2, .row [.agg [.xsl [], .xsl [], .d (.int .i64 0), .d (.int .i64 0), .xsl [], .d (.int .i64 0), .xsl [], .xsl [], .d (.int .i64 0), .d (.int .i64 0), .d (.int .i64 0)]])
def arO (s : Setup) (d : Directory) (a b : Go.Sim.AV) : Nat × Go.Sim.Obj := (4, .row [.agg [a, b, .d (.int .i64 0), .d (.int .i64 s.dead), .d (.sl []), .d (.int .i64 d.version), .d (.sl (d.l.map eSpan)), .d (.sl (ints d.forward)), .d (.int .i64 s.epoch), .d (.int .i64 s.clock), .d (.int .i64 s.nextID)]])
def arS (s : Setup) (n k : Nat) (d : Directory) (a b : Go.Sim.AV) (hp : Heap) : St :=
  ⟨[(1, .ref 1 0 0), (2, .ref 2 0 0), (4, .ref 4 0 0), (84, .d (.int .i64 n)), (85, .d (.int .i64 k))], (1, .row [.d (eSetup s)]) :: ar2 :: arO s d a b :: hp⟩
theorem arena_loop (s : Setup) (n l : Nat) (ok : SetupOk s n l) (d : Directory) (hd : d = dirN n l) : ∀ k, 1 ≤ k ∧ k ≤ n → loopL G [] l_arena_New_0 (arS s n k d (.acc 117 ((slotsN s k).map eSlot)) (.acc 125 ((stripesN s k).map eStripe)) [(117, .acc k), (125, .acc k)]) = some (.exit 0, ⟨[(2, .ref 2 0 0), (4, .ref 4 0 0)], [ar2, arO s d (.acc 117 ((slotsN s n).map eSlot)) (.acc 125 ((stripesN s n).map eStripe)), (117, .acc n), (125, .acc n)]⟩) := by
  obtain ⟨o1, o2, o3, o4, o5, o6, o7, _, _⟩ := ok
  refine loop_ind (fun k => n - k) _ _ _ fun k ⟨hk1, hk2⟩ L ih => ?_
  simp only [l_arena_New_0, arS, arO, ar2, eSetup] at ih ⊢
  by_cases hk : k < n
  · have hv := dirN_valid n l o3 o4 o5
    have hfree := shardFree_ok s.capacity
    have hsp := dSpan_ok d k (by rw [hd]; simp [dirN, spansN]; omega) (by rw [hd]; simp [dirN]; omega)
    have hfs := hv.2 k hk
    rw [← hd] at hv hfs
    unfold spanD at hsp
    rw [hfs] at hsp
    have hc : ¬ (s.capacity < 1 ∨ 12 < s.capacity) := by omega
    unfold shardFree at hfree
    rw [if_neg hc] at hfree
    simp only [eShard, List.map_nil] at hfree
    have := ih (k + 1) ⟨by omega, by omega⟩ (by omega)
    rw [slotsN_succ, stripesN_succ] at this
    obtain ⟨es, hes⟩ : ∃ es, es = slotsN s k := ⟨_, rfl⟩
    obtain ⟨fs, hfs2⟩ : ∃ fs, fs = stripesN s k := ⟨_, rfl⟩
    have hel : es.length = k := by rw [hes, slotsN_len]
    have hfl : fs.length = k := by rw [hfs2, stripesN_len]
    rw [← hes, ← hfs2] at this ⊢
    by_cases h0 : k < l
    · have hnew := shardNew_ok s.capacity (spanI l k).low (spanI l k).high
      unfold shardNew at hnew
      rw [if_neg hc, if_neg (by rw [spanI_in o3 h0 (by omega)]; decide)] at hnew
      have e1 : (d.l.getD k zSpan) = spanI l k := by rw [hd]; simp [dirN, spansN, h0]
      rw [if_pos h0, if_pos ⟨hv.1, by omega⟩, show ((k : Int).toNat) = k by omega, e1] at hsp
      have e2 : slotI s k = ⟨0, ⟨true, (spanI l k).low, (spanI l k).high, ringN s.capacity, ⟨[], []⟩⟩⟩ := by
        unfold slotI; rw [if_pos (by omega), o2]
      rw [e2] at this
      simp only [eDirectory, eSpan] at hsp
      simp only [eShard, List.map_nil] at hnew
      simp only [eSlot, eStripe, List.map_append, List.map_cons, List.map_nil] at this
      simp only [Int.natCast_add, Int.natCast_one, Int.natCast_zero, Int.natCast_mul, Int.cast_ofNat_Int, List.length_append, List.length_map, List.map_nil, List.length_nil, List.map_append, List.map_cons, List.length_cons, Nat.zero_add, srcO] at this
      simp -implicitDefEqProofs (disch := omega) only [wr, Int.natCast_mul, Int.cast_ofNat_Int, Int.natCast_zero, List.length_append, lim_eq, wu64, wu32, wu8, Bool.true_beq, Bool.false_beq, beqT, beqF, Int.natCast_add, Int.natCast_one, ltT, ltF, leT, leF, eqT, eqF, lenLtT, lenLtF, lenLeT, addLeT, lenEqT, mapGet, Int.toNat_natCast, Int.natCast_nonneg, List.length_map, go_sem, ↓reduceIte, reduceCtorEq, Nat.reduceEqDiff, Nat.reduceAdd, Nat.reduceBEq, Nat.reduceMul, Nat.reduceLeDiff, Nat.reduceSub, Nat.reduceLT, Nat.reduceDiv, Nat.reduceMod, List.reduceReplicate, Int.reduceEq, Int.reduceLT, Int.reduceLE, Int.reduceAdd, Int.reduceSub, Int.reduceMul, Int.reduceNeg, Int.reduceToNat, hfree, hsp, hnew, hel, hfl, allSize_Slot, allSize_Stripe, this]
    · rw [if_neg h0, if_neg (by omega)] at hsp
      have e2 : slotI s k = ⟨0, ⟨false, 0, 0, ringN s.capacity, ⟨[], []⟩⟩⟩ := by
        unfold slotI; rw [if_neg (by omega)]
      rw [e2] at this
      simp only [eDirectory, eSpan, zSpan] at hsp
      simp only [eSlot, eStripe, List.map_append, List.map_cons, List.map_nil] at this
      simp only [Int.natCast_add, Int.natCast_one, Int.natCast_zero, Int.natCast_mul, Int.cast_ofNat_Int, List.length_append, List.length_map, List.map_nil, List.length_nil, List.map_append, List.map_cons, List.length_cons, Nat.zero_add, srcO] at this
      simp -implicitDefEqProofs (disch := omega) only [wr, Int.natCast_mul, Int.cast_ofNat_Int, Int.natCast_zero, List.length_append, lim_eq, wu64, wu32, wu8, Bool.true_beq, Bool.false_beq, beqT, beqF, Int.natCast_add, Int.natCast_one, ltT, ltF, leT, leF, eqT, eqF, lenLtT, lenLtF, lenLeT, addLeT, lenEqT, mapGet, Int.toNat_natCast, Int.natCast_nonneg, List.length_map, go_sem, ↓reduceIte, reduceCtorEq, Nat.reduceEqDiff, Nat.reduceAdd, Nat.reduceBEq, Nat.reduceMul, Nat.reduceLeDiff, Nat.reduceSub, Nat.reduceLT, Nat.reduceDiv, Nat.reduceMod, List.reduceReplicate, Int.reduceEq, Int.reduceLT, Int.reduceLE, Int.reduceAdd, Int.reduceSub, Int.reduceMul, Int.reduceNeg, Int.reduceToNat, hfree, hsp, hel, hfl, allSize_Slot, allSize_Stripe, this]
  · have : k = n := by omega
    subst this
    simp -implicitDefEqProofs (disch := omega) only [wr, Int.natCast_mul, Int.cast_ofNat_Int, Int.natCast_zero, List.length_append, lim_eq, wu64, wu32, wu8, Bool.true_beq, Bool.false_beq, beqT, beqF, Int.natCast_add, Int.natCast_one, ltT, ltF, leT, leF, eqT, eqF, lenLtT, lenLtF, lenLeT, addLeT, lenEqT, mapGet, Int.toNat_natCast, Int.natCast_nonneg, List.length_map, go_sem, ↓reduceIte, reduceCtorEq, Nat.reduceEqDiff, Nat.reduceAdd, Nat.reduceBEq, Nat.reduceMul, Nat.reduceLeDiff, Nat.reduceSub, Nat.reduceLT, Nat.reduceDiv, Nat.reduceMod, List.reduceReplicate, Int.reduceEq, Int.reduceLT, Int.reduceLE, Int.reduceAdd, Int.reduceSub, Int.reduceMul, Int.reduceNeg, Int.reduceToNat, Nat.zero_add]
theorem arena_first (s : Setup) (n l : Nat) (ok : SetupOk s n l) (d : Directory) (hd : d = dirN n l) : loopL G [] l_arena_New_0 (arS s n 0 d (.xsl []) (.xsl []) []) = some (.exit 0, ⟨[(2, .ref 2 0 0), (4, .ref 4 0 0)], [ar2, arO s d (.acc 117 ((slotsN s n).map eSlot)) (.acc 125 ((stripesN s n).map eStripe)), (117, .acc n), (125, .acc n)]⟩) := by
  have h := arena_loop s n l ok d hd 1 ⟨by omega, by have := ok.h1; have := ok.h2; omega⟩
  obtain ⟨o1, o2, o3, o4, o5, o6, o7, _, _⟩ := ok
  have hv := dirN_valid n l o3 o4 o5
  have hfree := shardFree_ok s.capacity
  have hsp := dSpan_ok d 0 (by rw [hd]; simp [dirN, spansN]; omega) (by rw [hd]; simp [dirN]; omega)
  have hfs := hv.2 0 (by omega)
  rw [← hd] at hv hfs
  simp only [Int.natCast_zero] at hfs
  rw [if_pos (by omega)] at hfs
  unfold spanD at hsp
  rw [hfs] at hsp
  have hc : ¬ (s.capacity < 1 ∨ 12 < s.capacity) := by omega
  unfold shardFree at hfree
  rw [if_neg hc] at hfree
  simp only [eShard, List.map_nil] at hfree
  have hnew := shardNew_ok s.capacity (spanI l 0).low (spanI l 0).high
  unfold shardNew at hnew
  rw [if_neg hc, if_neg (by rw [spanI_in o3 (by omega) (by omega)]; decide)] at hnew
  have e1 : (d.l.getD 0 zSpan) = spanI l 0 := by rw [hd]; simp [dirN, spansN, show 0 < l by omega]
  rw [if_pos ⟨hv.1, by omega⟩, show ((0 : Int).toNat) = 0 by rfl, e1] at hsp
  have e2 : slotI s 0 = ⟨0, ⟨true, (spanI l 0).low, (spanI l 0).high, ringN s.capacity, ⟨[], []⟩⟩⟩ := by
    unfold slotI; rw [if_pos (by omega), o2]
  have e3 : slotsN s 1 = [slotI s 0] := rfl
  have e4 : stripesN s 1 = [⟨0, s.epoch, 0, 0⟩] := rfl
  rw [e3, e4, e2] at h
  simp only [eDirectory, eSpan] at hsp
  simp only [eShard, List.map_nil] at hnew
  simp only [eSlot, eStripe, List.map_append, List.map_cons, List.map_nil, arS, ar2, arO, eSetup] at h
  simp only [Int.natCast_add, Int.natCast_one, Int.natCast_zero, Int.natCast_mul, Int.cast_ofNat_Int, List.length_append, List.length_map, List.map_nil, List.length_nil, List.map_append, List.map_cons, List.length_cons, Nat.zero_add, srcO] at h
  rw [loopL_eq]
  generalize hF : loopL G [] l_arena_New_0 = F at h ⊢
  simp only [l_arena_New_0, arS, ar2, arO, eSetup]
  simp -implicitDefEqProofs (disch := omega) only [wr, Int.natCast_mul, Int.cast_ofNat_Int, Int.natCast_zero, List.length_append, lim_eq, wu64, wu32, wu8, Bool.true_beq, Bool.false_beq, beqT, beqF, Int.natCast_add, Int.natCast_one, ltT, ltF, leT, leF, eqT, eqF, lenLtT, lenLtF, lenLeT, addLeT, lenEqT, mapGet, Int.toNat_natCast, Int.natCast_nonneg, List.length_map, go_sem, ↓reduceIte, reduceCtorEq, Nat.reduceEqDiff, Nat.reduceAdd, Nat.reduceBEq, Nat.reduceMul, Nat.reduceLeDiff, Nat.reduceSub, Nat.reduceLT, Nat.reduceDiv, Nat.reduceMod, List.reduceReplicate, Int.reduceEq, Int.reduceLT, Int.reduceLE, Int.reduceAdd, Int.reduceSub, Int.reduceMul, Int.reduceNeg, Int.reduceToNat, hfree, hsp, hnew, h]
theorem arenaNew_ok (s : Setup) : callL G N_arena_New [.d (eSetup s)] [] = some (.d (.tup [eArena (arenaNew s).1, .int .i64 (arenaNew s).2]), []) := by
  by_cases h : okSetup s = true
  · obtain ⟨n, l, ok, i5, i6, i7, i8⟩ := setupOk_of h
    have hl := arena_first s n l ok (dirN n l) rfl
    have hh := h
    unfold okSetup at hh
    simp only [Bool.and_eq_true] at hh
    obtain ⟨i1, i2, i3, i4, _⟩ := hh
    unfold arenaNew
    rw [if_pos h]
    obtain ⟨o1, o2, o3, o4, o5, o6, o7, o8, o9⟩ := ok
    have hn := dnew_ok s.slots s.live
    rw [o1, o2, newD_ok o3 o4 o5] at hn
    have hd := deadNew_ok s.dead
    unfold deadNew at hd
    rw [if_neg (by omega)] at hd
    have e1 : s.slots.toNat = n := by omega
    have e2 : s.live.toNat = l := by omega
    simp only [eArena, arenaN, e1, e2]
    rw [o1] at i1
    rw [o1, o2] at i2
    simp only [arS, ar2, arO, eSetup, o1, o2] at hl
    simp only [eDirectory, eDead, List.map_nil] at hn hd
    simp only [Int.natCast_add, Int.natCast_one, Int.natCast_zero, Int.natCast_mul, Int.cast_ofNat_Int, List.length_append, List.length_map, List.map_nil, List.length_nil, List.map_append, List.map_cons, List.length_cons, Nat.zero_add, srcO] at hl
    simp only [eSetup, o1, o2]
    rw [callL_code g_arena_New (by simp)]; simp -implicitDefEqProofs (disch := omega) only [c_arena_New, r_arena_New, wr, Int.natCast_mul, Int.cast_ofNat_Int, Int.natCast_zero, List.length_append, lim_eq, wu64, wu32, wu8, Bool.true_beq, Bool.false_beq, beqT, beqF, Int.natCast_add, Int.natCast_one, ltT, ltF, leT, leF, eqT, eqF, lenLtT, lenLtF, lenLeT, addLeT, lenEqT, mapGet, Int.toNat_natCast, Int.natCast_nonneg, List.length_map, go_sem, ↓reduceIte, reduceCtorEq, Nat.reduceEqDiff, Nat.reduceAdd, Nat.reduceBEq, Nat.reduceMul, Nat.reduceLeDiff, Nat.reduceSub, Nat.reduceLT, Nat.reduceDiv, Nat.reduceMod, List.reduceReplicate, Int.reduceEq, Int.reduceLT, Int.reduceLE, Int.reduceAdd, Int.reduceSub, Int.reduceMul, Int.reduceNeg, Int.reduceToNat, ain_ok, i1, i2, i3, i4, i5, i6, i7, i8, hn, hd, hl]
  · exact arenaNew_bad s (by simpa using h)
end Go.Proofs.Ytlphhhmicdjljaa
