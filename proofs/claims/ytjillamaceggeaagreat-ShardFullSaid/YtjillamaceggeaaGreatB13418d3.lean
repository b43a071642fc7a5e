/-
  Shards without leases: put, Put, Stored, New.
-/
import Derived.Test.YtjillamaceggeaaGreatB7348c60
set_option linter.unusedSimpArgs false
set_option linter.unusedVariables false
namespace Go.Proofs.YtjillamaceggeaaGreat
open Go Go.Sim
set_option linter.unusedSimpArgs false
set_option linter.unusedVariables false
set_option maxHeartbeats 10000000
set_option maxRecDepth 40000
theorem cl {f : FuncId} {args : List AV} {os : Heap} {p : AV × Heap} (h : callF G 60 f args os = some p) : callL G f args os = some p := callL_iff.2 ⟨60, h⟩
theorem sroom_ok (s : Shard) (h1 : s.leases.l.length ≤ 12) (h2 : 0 ≤ s.ready.size) (h3 : s.ready.size ≤ 12) (h4 : s.ready.cells.length ≤ 12) : callL G N_shard_room [.d (eShard s)] [] = some (.d (.int .i64 (s.ready.cells.length - (s.ready.size + s.leases.l.length))), []) := by
  have h := stored_ok s h1 h2 h3
  simp only [eShard] at h ⊢
  rw [callL_code g_shard_room (by simp)]; simp -implicitDefEqProofs (maxSteps := 4000000) (disch := omega) only [c_shard_room, r_shard_room, getDT, go_sem, *]; (try simp only [pA, pB, pC, pD, pE, pF, pG, pH, pI, pJ, pK, pL, pM, pN, pO, pP, if_true, if_false]); repeat' (first | done | rfl | ((first | refine iteC (fun hq => ?_) (fun hq => ?_) | refine iteP (fun hq => ?_) (fun hq => ?_)) <;> (try (first | (exfalso; omega) | contradiction)) <;> (try simp -implicitDefEqProofs (maxSteps := 4000000) (disch := omega) only [getDT, go_sem, *]) <;> (try simp only [pA, pB, pC, pD, pE, pF, pG, pH, pI, pJ, pK, pL, pM, pN, pO, pP, if_true, if_false]))); (all_goals try rfl); (all_goals try (repeat' (first | done | rfl | (exfalso; omega) | contradiction | (refine iteR (fun hq => ?_) (fun hq => ?_)))))
theorem hcl_ok (m : Message) (id : Int) : callL G N_shard_has_1 [.d (eMessage m), .d (.pd (.int .i64 id))] [] = some (.d (.bool (decide (m.id = id))), []) := by
  simp only [eMessage]
  rw [callL_code g_shard_has_1 (by simp)]; simp -implicitDefEqProofs (maxSteps := 4000000) (disch := omega) only [c_shard_has_1, r_shard_has_1, getDT, go_sem, *]; (try simp only [pA, pB, pC, pD, pE, pF, pG, pH, pI, pJ, pK, pL, pM, pN, pO, pP, if_true, if_false]); repeat' (first | done | rfl | ((first | refine iteC (fun hq => ?_) (fun hq => ?_) | refine iteP (fun hq => ?_) (fun hq => ?_)) <;> (try (first | (exfalso; omega) | contradiction)) <;> (try simp -implicitDefEqProofs (maxSteps := 4000000) (disch := omega) only [getDT, go_sem, *]) <;> (try simp only [pA, pB, pC, pD, pE, pF, pG, pH, pI, pJ, pK, pL, pM, pN, pO, pP, if_true, if_false]))); (all_goals try rfl); (all_goals try (repeat' (first | done | rfl | (exfalso; omega) | contradiction | (refine iteR (fun hq => ?_) (fun hq => ?_)))))
theorem has_ok (s : Shard) (id : Int) (hr : ringV s.ready = 0) (h1 : s.leases.l.length ≤ 12) : callL G N_shard_has [.d (eShard s), .d (.int .i64 id)] [] = some (.d (.bool ((shMsgs s).any fun m => decide (m.id = id))), []) := by
  have hm := messages_ok hr h1
  have hl := shMsgs_len hr h1
  have hc := contains_api_Message (shMsgs s) N_shard_has_1 [.pd (.int .i64 id)] (fun m => decide (m.id = id)) (by omega) (fun a _ => hcl_ok a id)
  generalize ((shMsgs s).any fun m => decide (m.id = id)) = q at *
  generalize shMsgs s = w at *
  clear hr h1
  simp only [eShard] at hm ⊢
  rw [callL_code g_shard_has (by simp)]; simp -implicitDefEqProofs (maxSteps := 4000000) (disch := omega) only [c_shard_has, r_shard_has, getDT, go_sem, *]; (try simp only [pA, pB, pC, pD, pE, pF, pG, pH, pI, pJ, pK, pL, pM, pN, pO, pP, if_true, if_false]); repeat' (first | done | rfl | ((first | refine iteC (fun hq => ?_) (fun hq => ?_) | refine iteP (fun hq => ?_) (fun hq => ?_)) <;> (try (first | (exfalso; omega) | contradiction)) <;> (try simp -implicitDefEqProofs (maxSteps := 4000000) (disch := omega) only [getDT, go_sem, *]) <;> (try simp only [pA, pB, pC, pD, pE, pF, pG, pH, pI, pJ, pK, pL, pM, pN, pO, pP, if_true, if_false]))); (all_goals try rfl); (all_goals try (repeat' (first | done | rfl | (exfalso; omega) | contradiction | (refine iteR (fun hq => ?_) (fun hq => ?_)))))
theorem cl0_c : callF G 60 N_slices_Clone_api_Lease [.d (.sl [])] [] = some (.xsl [], []) := by kernel_rfl
theorem cd0_c : callF G 60 N_slices_Clone_api_Due [.d (.sl [])] [] = some (.acc 0 [], [(0, .acc 0)]) := by kernel_rfl
theorem sown_ok (lo hi h z : Int) (c : List Message) (h0 : 1 ≤ c.length) (h1 : c.length ≤ 12) : callL G N_shard_own [.d (eShard ⟨true, lo, hi, ⟨c, h, z⟩, zTable⟩)] [] = some (.d (eShard ⟨true, lo, hi, ⟨c, h, z⟩, zTable⟩), []) := by
  have hc := clone_api_Message (c.map eMessage) (allSize_Message c) (by simp; omega)
  have h2 := cl cl0_c
  have h3 := cl cd0_c
  simp only [eShard, zTable, List.map_nil]
  simp only [Int.natCast_add, Int.natCast_one, Int.natCast_zero, Int.natCast_mul, Int.cast_ofNat_Int, List.length_append, List.length_map, List.map_nil, List.length_nil, List.map_append, List.map_cons, List.length_cons, Nat.zero_add, srcO, mapSet] at hc
  rw [callL_code g_shard_own (by simp)]; simp -implicitDefEqProofs (maxSteps := 4000000) (disch := omega) only [c_shard_own, r_shard_own, getDT, go_sem, *]; (try simp only [pA, pB, pC, pD, pE, pF, pG, pH, pI, pJ, pK, pL, pM, pN, pO, pP, if_true, if_false]); repeat' (first | done | rfl | ((first | refine iteC (fun hq => ?_) (fun hq => ?_) | refine iteP (fun hq => ?_) (fun hq => ?_)) <;> (try (first | (exfalso; omega) | contradiction)) <;> (try simp -implicitDefEqProofs (maxSteps := 4000000) (disch := omega) only [getDT, go_sem, *]) <;> (try simp only [pA, pB, pC, pD, pE, pF, pG, pH, pI, pJ, pK, pL, pM, pN, pO, pP, if_true, if_false]))); (all_goals try rfl); (all_goals try (repeat' (first | done | rfl | (exfalso; omega) | contradiction | (refine iteR (fun hq => ?_) (fun hq => ?_)))))
theorem put_full (lo hi h z : Int) (c : List Message) (m : Message) (hm : msgV m = 0) (hr : lo ≤ m.route ∧ m.route ≤ hi) (h0 : 0 ≤ z) (h1 : c.length ≤ 12) (h2 : z = c.length) : callL G N_shard_put [.d (eShard ⟨true, lo, hi, ⟨c, h, z⟩, zTable⟩), .d (eMessage m)] [] = some (.d (.tup [eShard zShard, .int .i64 3]), []) := by
  have hv := mval_ok m
  have hi1 := sin_ok m.route lo hi
  have hro := sroom_ok ⟨true, lo, hi, ⟨c, h, z⟩, zTable⟩ (by simp [zTable]) h0 (by simp only; omega) h1
  rw [hm] at hv
  rw [decide_eq_true hr] at hi1
  clear hr
  simp only [eShard, eMessage, zShard, zTable, List.map_nil, List.length_nil, Int.natCast_zero, Int.add_zero] at *
  subst h2
  rw [callL_code g_shard_put (by simp)]; simp -implicitDefEqProofs (maxSteps := 4000000) (disch := omega) only [c_shard_put, r_shard_put, getDT, go_sem, *]; (try simp only [pA, pB, pC, pD, pE, pF, pG, pH, pI, pJ, pK, pL, pM, pN, pO, pP, if_true, if_false]); repeat' (first | done | rfl | ((first | refine iteC (fun hq => ?_) (fun hq => ?_) | refine iteP (fun hq => ?_) (fun hq => ?_)) <;> (try (first | (exfalso; omega) | contradiction)) <;> (try simp -implicitDefEqProofs (maxSteps := 4000000) (disch := omega) only [getDT, go_sem, *]) <;> (try simp only [pA, pB, pC, pD, pE, pF, pG, pH, pI, pJ, pK, pL, pM, pN, pO, pP, if_true, if_false]))); (all_goals try rfl); (all_goals try (repeat' (first | done | rfl | (exfalso; omega) | contradiction | (refine iteR (fun hq => ?_) (fun hq => ?_)))))
theorem put_new (lo hi : Int) (r : Ring) (m : Message) (hm : msgV m = 0) (hr : lo ≤ m.route ∧ m.route ≤ hi) (hv : ringV r = 0) (hs : r.size < r.cells.length) (hn : ((shMsgs ⟨true, lo, hi, r, zTable⟩).any fun x => decide (x.id = m.id)) = false) (hp : pushR r m = 0) :
    callL G N_shard_put [.d (eShard ⟨true, lo, hi, r, zTable⟩), .d (eMessage m)] [] = some (.d (.tup [eShard ⟨true, lo, hi, (pbD r m).1, zTable⟩, .int .i64 0]), []) := by
  obtain ⟨b1, b2, b3, b4, b5, b6⟩ := ringV_zero hv
  have hv2 := mval_ok m
  have hi1 := sin_ok m.route lo hi
  have hro := sroom_ok ⟨true, lo, hi, r, zTable⟩ (by simp [zTable]) b5 (by simp only; omega) b2
  have hh := has_ok ⟨true, lo, hi, r, zTable⟩ m.id hv (by simp [zTable])
  have hpb := pushback_ok r m (by omega)
  have he : (pbD r m).2 = 0 := by unfold pbD; rw [if_pos hp]
  rw [hn] at hh
  rw [hm] at hv2
  rw [decide_eq_true hr] at hi1
  rw [he] at hpb
  have ho := sown_ok lo hi r.head r.size r.cells b1 b2
  generalize (pbD r m).1 = r2 at *
  clear hr hn hp he hv
  obtain ⟨c, h, z⟩ := r
  obtain ⟨c2, h2, z2⟩ := r2
  simp only [eShard, eMessage, eRing, zTable, List.map_nil, List.length_nil, Int.natCast_zero, Int.add_zero] at *
  rw [callL_code g_shard_put (by simp)]; simp -implicitDefEqProofs (maxSteps := 4000000) (disch := omega) only [c_shard_put, r_shard_put, getDT, go_sem, *]; (try simp only [pA, pB, pC, pD, pE, pF, pG, pH, pI, pJ, pK, pL, pM, pN, pO, pP, if_true, if_false]); repeat' (first | done | rfl | ((first | refine iteC (fun hq => ?_) (fun hq => ?_) | refine iteP (fun hq => ?_) (fun hq => ?_)) <;> (try (first | (exfalso; omega) | contradiction)) <;> (try simp -implicitDefEqProofs (maxSteps := 4000000) (disch := omega) only [getDT, go_sem, *]) <;> (try simp only [pA, pB, pC, pD, pE, pF, pG, pH, pI, pJ, pK, pL, pM, pN, pO, pP, if_true, if_false]))); (all_goals try rfl); (all_goals try (repeat' (first | done | rfl | (exfalso; omega) | contradiction | (refine iteR (fun hq => ?_) (fun hq => ?_)))))
theorem sput_ok (s s2 : Shard) (m : Message) (e : Int) (h1 : s.ready.cells.length ≤ 4294967296) (h2 : s.leases.l.length ≤ 4294967296) (h3 : s.leases.heap.length ≤ 4294967296) (hl : liveV s = 0) (hp : callL G N_shard_put [.d (eShard s), .d (eMessage m)] [] = some (.d (.tup [eShard s2, .int .i64 e]), [])) : callL G N_shard_Put [.d (eShard s), .d (eMessage m)] [] = some (.d (.tup [eShard s2, .int .i64 e]), []) := by
  have hv := live_ok s h1 h2 h3
  rw [hl] at hv
  clear hl
  simp only [eShard, eMessage] at *
  rw [callL_code g_shard_Put (by simp)]; simp -implicitDefEqProofs (maxSteps := 4000000) (disch := omega) only [c_shard_Put, r_shard_Put, getDT, go_sem, *]; (try simp only [pA, pB, pC, pD, pE, pF, pG, pH, pI, pJ, pK, pL, pM, pN, pO, pP, if_true, if_false]); repeat' (first | done | rfl | ((first | refine iteC (fun hq => ?_) (fun hq => ?_) | refine iteP (fun hq => ?_) (fun hq => ?_)) <;> (try (first | (exfalso; omega) | contradiction)) <;> (try simp -implicitDefEqProofs (maxSteps := 4000000) (disch := omega) only [getDT, go_sem, *]) <;> (try simp only [pA, pB, pC, pD, pE, pF, pG, pH, pI, pJ, pK, pL, pM, pN, pO, pP, if_true, if_false]))); (all_goals try rfl); (all_goals try (repeat' (first | done | rfl | (exfalso; omega) | contradiction | (refine iteR (fun hq => ?_) (fun hq => ?_)))))
theorem sstored_ok (s : Shard) (hv : shardV s = 0) (h1 : s.ready.cells.length ≤ 12) (h2 : s.leases.l.length ≤ 12) (h3 : s.leases.heap.length ≤ 12) (h4 : 0 ≤ s.ready.size) (h5 : s.ready.size ≤ 12) : callL G N_shard_Stored [.d (eShard s)] [] = some (.d (.int .i64 (s.ready.size + s.leases.l.length)), []) := by
  have h := shval_ok s (by omega) (by omega) (by omega)
  have hs := stored_ok s h2 h4 h5
  rw [hv] at h
  clear hv
  simp only [eShard] at *
  rw [callL_code g_shard_Stored (by simp)]; simp -implicitDefEqProofs (maxSteps := 4000000) (disch := omega) only [c_shard_Stored, r_shard_Stored, getDT, go_sem, *]; (try simp only [pA, pB, pC, pD, pE, pF, pG, pH, pI, pJ, pK, pL, pM, pN, pO, pP, if_true, if_false]); repeat' (first | done | rfl | ((first | refine iteC (fun hq => ?_) (fun hq => ?_) | refine iteP (fun hq => ?_) (fun hq => ?_)) <;> (try (first | (exfalso; omega) | contradiction)) <;> (try simp -implicitDefEqProofs (maxSteps := 4000000) (disch := omega) only [getDT, go_sem, *]) <;> (try simp only [pA, pB, pC, pD, pE, pF, pG, pH, pI, pJ, pK, pL, pM, pN, pO, pP, if_true, if_false]))); (all_goals try rfl); (all_goals try (repeat' (first | done | rfl | (exfalso; omega) | contradiction | (refine iteR (fun hq => ?_) (fun hq => ?_)))))
theorem rnew_ok (k : Nat) (h1 : 1 ≤ k) (h2 : k ≤ 12) : callL G N_ring_New [.d (.int .i64 k)] [] = some (.d (.tup [eRing ⟨List.replicate k zMessage, 0, 0⟩, .int .i64 0]), []) := by
  have e : List.replicate k (Go.Sim.AV.d (eMessage zMessage)) = (List.replicate k (eMessage zMessage)).map Go.Sim.AV.d := by rw [List.map_replicate]
  simp only [eRing, List.map_replicate]
  simp only [eMessage, zMessage] at e ⊢
  rw [callL_code g_ring_New (by simp)]; simp -implicitDefEqProofs (maxSteps := 4000000) (disch := omega) only [c_ring_New, r_ring_New, List.length_replicate, Nat.min_self, List.take_replicate, getDT, go_sem, *]; (try simp only [pA, pB, pC, pD, pE, pF, pG, pH, pI, pJ, pK, pL, pM, pN, pO, pP, if_true, if_false]); repeat' (first | done | rfl | ((first | refine iteC (fun hq => ?_) (fun hq => ?_) | refine iteP (fun hq => ?_) (fun hq => ?_)) <;> (try (first | (exfalso; omega) | contradiction)) <;> (try simp -implicitDefEqProofs (maxSteps := 4000000) (disch := omega) only [List.length_replicate, Nat.min_self, List.take_replicate, getDT, go_sem, *]) <;> (try simp only [pA, pB, pC, pD, pE, pF, pG, pH, pI, pJ, pK, pL, pM, pN, pO, pP, if_true, if_false]))); (all_goals try rfl); (all_goals try (repeat' (first | done | rfl | (exfalso; omega) | contradiction | (refine iteR (fun hq => ?_) (fun hq => ?_)))))
theorem snew_ok (k : Nat) (h1 : 1 ≤ k) (h2 : k ≤ 12) : callL G N_shard_New [.d (.int .i64 k), .d (.int .i64 0), .d (.int .i64 65535)] [] = some (.d (.tup [eShard ⟨true, 0, 65535, ⟨List.replicate k zMessage, 0, 0⟩, zTable⟩, .int .i64 0]), []) := by
  have hr := rnew_ok k h1 h2
  have hs := spans_ok 0 65535
  simp only [show (decide ((0 : Int) ≤ 0 ∧ (0 : Int) ≤ 65535 ∧ (65535 : Int) < 65536)) = true from by decide] at hs
  simp only [eShard, eRing, zTable, List.map_nil] at *
  generalize (List.replicate k zMessage).map eMessage = c at *
  rw [callL_code g_shard_New (by simp)]; simp -implicitDefEqProofs (maxSteps := 4000000) (disch := omega) only [c_shard_New, r_shard_New, getDT, go_sem, *]; (try simp only [pA, pB, pC, pD, pE, pF, pG, pH, pI, pJ, pK, pL, pM, pN, pO, pP, if_true, if_false]); repeat' (first | done | rfl | ((first | refine iteC (fun hq => ?_) (fun hq => ?_) | refine iteP (fun hq => ?_) (fun hq => ?_)) <;> (try (first | (exfalso; omega) | contradiction)) <;> (try simp -implicitDefEqProofs (maxSteps := 4000000) (disch := omega) only [getDT, go_sem, *]) <;> (try simp only [pA, pB, pC, pD, pE, pF, pG, pH, pI, pJ, pK, pL, pM, pN, pO, pP, if_true, if_false]))); (all_goals try rfl); (all_goals try (repeat' (first | done | rfl | (exfalso; omega) | contradiction | (refine iteR (fun hq => ?_) (fun hq => ?_)))))
end Go.Proofs.YtjillamaceggeaaGreat
