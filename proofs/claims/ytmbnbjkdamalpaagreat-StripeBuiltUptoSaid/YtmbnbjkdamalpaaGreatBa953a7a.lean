/-
  Messages: both validate alike.
  Tables of leases: what is wrong with them.
  Tables of leases: what they find.
  Tables of leases: Validate of both.
  Tables of leases: both ways to validate agree.
  The reader: bodies.
  Copies of lists of leases and of items.
-/
import Derived.Test.YtmbnbjkdamalpaaGreatB0db0c98
import Derived.Test.YtmbnbjkdamalpaaGreatB38d6295
set_option linter.unusedSimpArgs false
set_option linter.unusedVariables false
namespace Go.Proofs.YtmbnbjkdamalpaaGreat
open Go Go.Sim
set_option linter.unusedSimpArgs false
set_option linter.unusedVariables false
set_option maxHeartbeats 10000000
set_option maxRecDepth 40000
theorem min_ok (n lo hi : Int) : callL G N_message_in [.d (.int .i64 n), .d (.int .i64 lo), .d (.int .i64 hi)] [] = some (.d (.bool (decide (lo ≤ n ∧ n ≤ hi))), []) := by
  by_cases h : lo ≤ n
  · by_cases h2 : n ≤ hi
    · rw [decide_eq_true ⟨h, h2⟩]
      rw [callL_code g_message_in (by simp)]; simp -implicitDefEqProofs (maxSteps := 4000000) (disch := omega) only [c_message_in, r_message_in, getDT, go_sem, *] /-A0-/
    · rw [decide_eq_false (by omega)]
      rw [callL_code g_message_in (by simp)]; simp -implicitDefEqProofs (maxSteps := 4000000) (disch := omega) only [c_message_in, r_message_in, getDT, go_sem, *] /-A1-/
  · rw [decide_eq_false (by omega)]
    rw [callL_code g_message_in (by simp)]; simp -implicitDefEqProofs (maxSteps := 4000000) (disch := omega) only [c_message_in, r_message_in, getDT, go_sem, *] /-A2-/
theorem r03in_ok (n lo hi : Int) : callL G N_ref03_in [.d (.int .i64 n), .d (.int .i64 lo), .d (.int .i64 hi)] [] = some (.d (.bool (decide (lo ≤ n ∧ n ≤ hi))), []) := by
  by_cases h : lo ≤ n
  · by_cases h2 : n ≤ hi
    · rw [decide_eq_true ⟨h, h2⟩]
      rw [callL_code g_ref03_in (by simp)]; simp -implicitDefEqProofs (maxSteps := 4000000) (disch := omega) only [c_ref03_in, r_ref03_in, getDT, go_sem, *] /-A3-/
    · rw [decide_eq_false (by omega)]
      rw [callL_code g_ref03_in (by simp)]; simp -implicitDefEqProofs (maxSteps := 4000000) (disch := omega) only [c_ref03_in, r_ref03_in, getDT, go_sem, *] /-A4-/
  · rw [decide_eq_false (by omega)]
    rw [callL_code g_ref03_in (by simp)]; simp -implicitDefEqProofs (maxSteps := 4000000) (disch := omega) only [c_ref03_in, r_ref03_in, getDT, go_sem, *] /-A5-/
theorem mpurged_ok (m : Message) (e : Int) : callL G N_message_Purged [.d (eMessage m), .d (.int .i64 e)] [] = some (.d (.bool (decide (m.epoch < e))), []) := by
  rw [callL_code g_message_Purged (by simp)]; simp -implicitDefEqProofs (maxSteps := 4000000) (disch := omega) only [c_message_Purged, r_message_Purged, getDT, go_sem, *] /-A6-/
theorem r03purged_ok (m : Message) (e : Int) : callL G N_ref03_Purged [.d (eMessage m), .d (.int .i64 e)] [] = some (.d (.bool (decide (m.epoch < e))), []) := by
  rw [callL_code g_ref03_Purged (by simp)]; simp -implicitDefEqProofs (maxSteps := 4000000) (disch := omega) only [c_ref03_Purged, r_ref03_Purged, getDT, go_sem, *] /-A7-/
def msgV (m : Message) : Int :=
  if 1 ≤ m.id ∧ m.id ≤ 1073741824 ∧ 0 ≤ m.route ∧ m.route ≤ 65535 ∧ 0 ≤ m.epoch ∧ m.epoch ≤ 65536 ∧ 0 ≤ m.count ∧ m.count ≤ 8 ∧ m.count ≤ m.gen ∧ m.gen ≤ 65536 ∧ 0 ≤ m.sent ∧ m.sent ≤ 1073741824 then (if 16 < m.body.length then 2 else 0) else 1
theorem mval_ok (m : Message) : callL G N_message_Validate [.d (eMessage m)] [] = some (.d (.int .i64 (msgV m)), []) := by
  have i1 := min_ok m.id 1 1073741824
  have i2 := min_ok m.route 0 65535
  have i3 := min_ok m.epoch 0 65536
  have i4 := min_ok m.count 0 8
  have i5 := min_ok m.gen m.count 65536
  have i6 := min_ok m.sent 0 1073741824
  unfold msgV
  split
  · split
    · rw [callL_code g_message_Validate (by simp)]; simp -implicitDefEqProofs (maxSteps := 4000000) (disch := omega) only [c_message_Validate, r_message_Validate, getDT, go_sem, *] /-A8-/
    · rw [callL_code g_message_Validate (by simp)]; simp -implicitDefEqProofs (maxSteps := 4000000) (disch := omega) only [c_message_Validate, r_message_Validate, getDT, go_sem, *] /-A9-/
  · rw [callL_code g_message_Validate (by simp)]; simp -implicitDefEqProofs (maxSteps := 4000000) (disch := omega) only [c_message_Validate, r_message_Validate, getDT, go_sem, *]; (try simp only [pA, pB, pC, pD, pE, pF, pG, pH, pI, pJ, pK, pL, pM, pN, pO, pP, if_true, if_false]); repeat' (first | done | rfl | ((first | refine iteC (fun hq => ?_) (fun hq => ?_) | refine iteP (fun hq => ?_) (fun hq => ?_)) <;> (try (first | (exfalso; omega) | contradiction)) <;> (try simp -implicitDefEqProofs (maxSteps := 4000000) (disch := omega) only [getDT, go_sem, *]) <;> (try simp only [pA, pB, pC, pD, pE, pF, pG, pH, pI, pJ, pK, pL, pM, pN, pO, pP, if_true, if_false]))); (all_goals try rfl); (all_goals try (repeat' (first | done | rfl | (exfalso; omega) | contradiction | (refine iteR (fun hq => ?_) (fun hq => ?_))))) /-A10-/
theorem r03val_ok (m : Message) : callL G N_ref03_Validate [.d (eMessage m)] [] = some (.d (.int .i64 (msgV m)), []) := by
  have i1 := r03in_ok m.id 1 1073741824
  have i2 := r03in_ok m.route 0 65535
  have i3 := r03in_ok m.epoch 0 65536
  have i4 := r03in_ok m.count 0 8
  have i5 := r03in_ok m.gen m.count 65536
  have i6 := r03in_ok m.sent 0 1073741824
  unfold msgV
  split
  · split
    · rw [callL_code g_ref03_Validate (by simp)]; simp -implicitDefEqProofs (maxSteps := 4000000) (disch := omega) only [c_ref03_Validate, r_ref03_Validate, getDT, go_sem, *] /-A11-/
    · rw [callL_code g_ref03_Validate (by simp)]; simp -implicitDefEqProofs (maxSteps := 4000000) (disch := omega) only [c_ref03_Validate, r_ref03_Validate, getDT, go_sem, *] /-A12-/
  · rw [callL_code g_ref03_Validate (by simp)]; simp -implicitDefEqProofs (maxSteps := 4000000) (disch := omega) only [c_ref03_Validate, r_ref03_Validate, getDT, go_sem, *]; (try simp only [pA, pB, pC, pD, pE, pF, pG, pH, pI, pJ, pK, pL, pM, pN, pO, pP, if_true, if_false]); repeat' (first | done | rfl | ((first | refine iteC (fun hq => ?_) (fun hq => ?_) | refine iteP (fun hq => ?_) (fun hq => ?_)) <;> (try (first | (exfalso; omega) | contradiction)) <;> (try simp -implicitDefEqProofs (maxSteps := 4000000) (disch := omega) only [getDT, go_sem, *]) <;> (try simp only [pA, pB, pC, pD, pE, pF, pG, pH, pI, pJ, pK, pL, pM, pN, pO, pP, if_true, if_false]))); (all_goals try rfl); (all_goals try (repeat' (first | done | rfl | (exfalso; omega) | contradiction | (refine iteR (fun hq => ?_) (fun hq => ?_))))) /-A13-/
end Go.Proofs.YtmbnbjkdamalpaaGreat

namespace Go.Proofs.YtmbnbjkdamalpaaGreat
open Go Go.Sim
set_option linter.unusedSimpArgs false
set_option linter.unusedVariables false
set_option maxHeartbeats 10000000
set_option maxRecDepth 40000
theorem ltime_ok (n : Int) : callL G N_lease_time [.d (.int .i64 n)] [] = some (.d (.bool (decide (0 ≤ n ∧ n ≤ 1073741824))), []) := by
  by_cases h : 0 ≤ n
  · by_cases h2 : n ≤ 1073741824
    · rw [decide_eq_true ⟨h, h2⟩]
      rw [callL_code g_lease_time (by simp)]; simp -implicitDefEqProofs (maxSteps := 4000000) (disch := omega) only [c_lease_time, r_lease_time, getDT, go_sem, *] /-A0-/
    · rw [decide_eq_false (by omega)]
      rw [callL_code g_lease_time (by simp)]; simp -implicitDefEqProofs (maxSteps := 4000000) (disch := omega) only [c_lease_time, r_lease_time, getDT, go_sem, *] /-A1-/
  · rw [decide_eq_false (by omega)]
    rw [callL_code g_lease_time (by simp)]; simp -implicitDefEqProofs (maxSteps := 4000000) (disch := omega) only [c_lease_time, r_lease_time, getDT, go_sem, *] /-A2-/
def leaseE (l : List Lease) (i : Nat) : Int :=
  if msgV (l.getD i zLease).msg ≠ 0 then msgV (l.getD i zLease).msg
  else if (l.getD i zLease).msg.gen = 0 then 7
  else if (l.getD i zLease).deadline < 0 ∨ 1073741824 < (l.getD i zLease).deadline then 1
  else if 0 < i ∧ (l.getD i zLease).msg.id ≤ (l.getD (i - 1) zLease).msg.id then 11 else 0
def leaseB (l : List Lease) (i : Nat) : Bool := decide (leaseE l i ≠ 0)
def obT (o : Nat) (t : Table) : Nat × Go.Sim.Obj := (o, .row [.d (eTable t)])
theorem eLease_msg (x : Lease) : partD true 0 7 (eLease x) = some (eMessage x.msg) := rfl
theorem lval_loop (t : Table) (hL : t.l.length ≤ 12) : loopL G [] l_lease_Validate_0 ⟨[(1, .ref 1 0 0), (12, .d (.sl (t.l.map eLease))), (13, .d (.int .i64 t.l.length)), (14, .d (.int .i64 0))], [obT 1 t]⟩ = some (findR t.l.length (leaseB t.l) (fun k => (.ret, ⟨[(2, .d (.int .i64 (leaseE t.l k)))], []⟩)) (.exit 0, ⟨[(1, .ref 1 0 0)], [obT 1 t]⟩)) := by
  refine loop_find (G := G) t.l.length (leaseB t.l) (fun k => ⟨[(1, .ref 1 0 0), (12, .d (.sl (t.l.map eLease))), (13, .d (.int .i64 t.l.length)), (14, .d (.int .i64 k))], [obT 1 t]⟩) _ _ fun k hk L => ?_
  simp only [l_lease_Validate_0, obT]
  by_cases h0 : k < t.l.length
  · rw [if_pos h0]
    have hm := mval_ok t.l[k].msg
    have ht := ltime_ok t.l[k].deadline
    simp only [eMessage] at hm
    unfold leaseB leaseE
    rw [getDT h0]
    by_cases c1 : msgV t.l[k].msg = 0
    · rw [c1] at hm
      simp only [c1, ne_eq, not_true_eq_false, if_false]
      by_cases c2 : t.l[k].msg.gen = 0
      · simp only [c2, if_true, show ((7 : Int) = 0) = False by simp, not_false_eq_true, decide_true]
        clear ht
        rw [c2] at hm
        simp -implicitDefEqProofs (maxSteps := 4000000) (disch := omega) only [getDT, go_sem, *] /-A3-/
      · simp only [c2, if_false]
        by_cases c3 : t.l[k].deadline < 0 ∨ 1073741824 < t.l[k].deadline
        · rw [decide_eq_false (by omega)] at ht
          simp only [c3, if_true, show ((1 : Int) = 0) = False by simp, not_false_eq_true, decide_true]
          simp -implicitDefEqProofs (maxSteps := 4000000) (disch := omega) only [getDT, go_sem, *] /-A4-/
        · rw [decide_eq_true (by omega)] at ht
          simp only [c3, if_false]
          by_cases c4 : 0 < k
          · have hk1 : k - 1 < t.l.length := by omega
            have e1 : (k : Int) - 1 = ((k - 1 : Nat) : Int) := by omega
            rw [getDT hk1]
            by_cases c5 : t.l[k].msg.id ≤ t.l[k - 1].msg.id
            · simp only [c4, c5, and_self, if_true, show ((11 : Int) = 0) = False by simp, not_false_eq_true, decide_true]
              simp -implicitDefEqProofs (maxSteps := 4000000) (disch := omega) only [getDT, go_sem, *] /-A5-/
            · simp only [c4, c5, and_false, if_false, not_true_eq_false, decide_false, Bool.false_eq_true]
              simp -implicitDefEqProofs (maxSteps := 4000000) (disch := omega) only [getDT, go_sem, *] /-A6-/
          · simp only [c4, false_and, if_false, not_true_eq_false, decide_false, Bool.false_eq_true]
            simp -implicitDefEqProofs (maxSteps := 4000000) (disch := omega) only [getDT, go_sem, *] /-A7-/
    · simp only [c1, ne_eq, not_false_eq_true, if_true, decide_true]
      clear ht
      simp -implicitDefEqProofs (maxSteps := 4000000) (disch := omega) only [getDT, go_sem, *] /-A8-/
  · rw [if_neg h0]
    simp -implicitDefEqProofs (maxSteps := 4000000) (disch := omega) only [getDT, go_sem, *] /-A9-/
theorem r06val_loop (t : Table) (hL : t.l.length ≤ 12) : loopL G [] l_ref06_Validate_0 ⟨[(1, .ref 1 0 0), (3, .d (.int .i64 0))], [obT 1 t]⟩ = some (findR t.l.length (leaseB t.l) (fun k => (.ret, ⟨[(2, .d (.int .i64 (leaseE t.l k)))], []⟩)) (.exit 0, ⟨[(1, .ref 1 0 0)], [obT 1 t]⟩)) := by
  refine loop_find (G := G) t.l.length (leaseB t.l) (fun k => ⟨[(1, .ref 1 0 0), (3, .d (.int .i64 k))], [obT 1 t]⟩) _ _ fun k hk L => ?_
  simp only [l_ref06_Validate_0, obT]
  by_cases h0 : k < t.l.length
  · rw [if_pos h0]
    have hm := r03val_ok t.l[k].msg
    simp only [eMessage] at hm
    unfold leaseB leaseE
    rw [getDT h0]
    by_cases c1 : msgV t.l[k].msg = 0
    · rw [c1] at hm
      simp only [c1, ne_eq, not_true_eq_false, if_false]
      by_cases c2 : t.l[k].msg.gen = 0
      · simp only [c2, if_true, show ((7 : Int) = 0) = False by simp, not_false_eq_true, decide_true]
        rw [c2] at hm
        simp -implicitDefEqProofs (maxSteps := 4000000) (disch := omega) only [getDT, go_sem, *] /-A10-/
      · simp only [c2, if_false]
        by_cases c3 : t.l[k].deadline < 0 ∨ 1073741824 < t.l[k].deadline
        · skip
          simp only [c3, if_true, show ((1 : Int) = 0) = False by simp, not_false_eq_true, decide_true]
          (try simp -implicitDefEqProofs (maxSteps := 4000000) (disch := omega) only [getDT, go_sem, *]); (try simp only [pA, pB, pC, pD, pE, pF, pG, pH, pI, pJ, pK, pL, pM, pN, pO, pP, if_true, if_false]); repeat' (first | done | rfl | ((first | refine iteC (fun hq => ?_) (fun hq => ?_) | refine iteP (fun hq => ?_) (fun hq => ?_)) <;> (try (first | (exfalso; omega) | contradiction)) <;> (try simp -implicitDefEqProofs (maxSteps := 4000000) (disch := omega) only [getDT, go_sem, *]) <;> (try simp only [pA, pB, pC, pD, pE, pF, pG, pH, pI, pJ, pK, pL, pM, pN, pO, pP, if_true, if_false]))); (all_goals try rfl); (all_goals try (repeat' (first | done | rfl | (exfalso; omega) | contradiction | (refine iteR (fun hq => ?_) (fun hq => ?_))))) /-A11-/
        · skip
          simp only [c3, if_false]
          by_cases c4 : 0 < k
          · have hk1 : k - 1 < t.l.length := by omega
            have e1 : (k : Int) - 1 = ((k - 1 : Nat) : Int) := by omega
            rw [getDT hk1]
            by_cases c5 : t.l[k].msg.id ≤ t.l[k - 1].msg.id
            · simp only [c4, c5, and_self, if_true, show ((11 : Int) = 0) = False by simp, not_false_eq_true, decide_true]
              simp -implicitDefEqProofs (maxSteps := 4000000) (disch := omega) only [getDT, go_sem, *] /-A12-/
            · simp only [c4, c5, and_false, if_false, not_true_eq_false, decide_false, Bool.false_eq_true]
              simp -implicitDefEqProofs (maxSteps := 4000000) (disch := omega) only [getDT, go_sem, *] /-A13-/
          · simp only [c4, false_and, if_false, not_true_eq_false, decide_false, Bool.false_eq_true]
            simp -implicitDefEqProofs (maxSteps := 4000000) (disch := omega) only [getDT, go_sem, *] /-A14-/
    · simp only [c1, ne_eq, not_false_eq_true, if_true, decide_true]
      simp -implicitDefEqProofs (maxSteps := 4000000) (disch := omega) only [getDT, go_sem, *] /-A15-/
  · rw [if_neg h0]
    simp -implicitDefEqProofs (maxSteps := 4000000) (disch := omega) only [getDT, go_sem, *] /-A16-/
end Go.Proofs.YtmbnbjkdamalpaaGreat

namespace Go.Proofs.YtmbnbjkdamalpaaGreat
open Go Go.Sim
set_option linter.unusedSimpArgs false
set_option linter.unusedVariables false
set_option maxHeartbeats 10000000
set_option maxRecDepth 40000
theorem sidx_ok (h : List Due) (d : Due) (hL : h.length ≤ 4294967296) : callL G N_slices_Index_api_Due [.d (.sl (h.map eD)), .d (eD d)] [] = some (.d (.int .i64 (idxI (fun x => decide (x = d)) h)), []) := by
  have hl := loop_find (G := G) (x := l_slices_Index_api_Due_0) (ks := []) h.length (atB h fun x => decide (x = d)) (fun k => ⟨[(0, .d (.sl (h.map eD))), (3, .ref 3 0 0), (7, .d (.int .i64 h.length)), (8, .d (.int .i64 k))], [(3, .row [.d (eD d)])]⟩) (fun k => (.ret, ⟨[(4, .d (.int .i64 k))], []⟩)) (.exit 0, ⟨[], []⟩) (fun k hk L => by
    simp only [l_slices_Index_api_Due_0]
    by_cases h0 : k < h.length
    · simp only [h0, if_true, atB_at h0]
      have e : decide (h[k] = d) = (decide (h[k].1 = d.1) && decide (h[k].2 = d.2)) := by
        rw [← Bool.decide_and]
        congr 1
        exact propext ⟨fun e => by rw [e]; exact ⟨rfl, rfl⟩, fun ⟨a, b⟩ => Prod.ext a b⟩
      rw [e]
      clear e
      by_cases q1 : h[k].1 = d.1
      · by_cases q2 : h[k].2 = d.2
        · simp only [q1, q2, decide_true, Bool.and_self, if_true]
          simp only [eD]
          simp -implicitDefEqProofs (maxSteps := 4000000) (disch := omega) only [eD, getDT, go_sem, *] /-A0-/
        · simp only [q1, q2, decide_true, decide_false, Bool.and_false, Bool.false_eq_true, if_false]
          simp only [eD]
          simp -implicitDefEqProofs (maxSteps := 4000000) (disch := omega) only [eD, getDT, go_sem, *] /-A1-/
      · simp only [q1, decide_false, Bool.false_and, Bool.false_eq_true, if_false]
        simp only [eD]
        simp -implicitDefEqProofs (maxSteps := 4000000) (disch := omega) only [eD, getDT, go_sem, *] /-A2-/
    · simp -implicitDefEqProofs (maxSteps := 4000000) (disch := omega) only [getDT, go_sem, *] /-A3-/)
  rw [findR_idx] at hl
  simp only [Int.natCast_add, Int.natCast_one, Int.natCast_zero, Int.natCast_mul, Int.cast_ofNat_Int, List.length_append, List.length_map, List.map_nil, List.length_nil, List.map_append, List.map_cons, List.length_cons, Nat.zero_add, srcO, mapSet] at hl
  unfold idxI
  cases hf : h.findIdx? (fun x => decide (x = d)) with
  | none => rw [hf] at hl; clear hf; rw [callL_code g_slices_Index_api_Due (by simp)]; simp -implicitDefEqProofs (maxSteps := 4000000) (disch := omega) only [c_slices_Index_api_Due, r_slices_Index_api_Due, getDT, go_sem, *] /-A4-/
  | some i => rw [hf] at hl; clear hf; rw [callL_code g_slices_Index_api_Due (by simp)]; simp -implicitDefEqProofs (maxSteps := 4000000) (disch := omega) only [c_slices_Index_api_Due, r_slices_Index_api_Due, getDT, go_sem, *] /-A5-/
theorem scont_ok (h : List Due) (d : Due) (hL : h.length ≤ 4294967296) : callL G N_slices_Contains_api_Due [.d (.sl (h.map eD)), .d (eD d)] [] = some (.d (.bool (h.any fun x => decide (x = d))), []) := by
  have hi := sidx_ok h d hL
  rw [← idxI_any]
  rw [callL_code g_slices_Contains_api_Due (by simp)]; simp -implicitDefEqProofs (maxSteps := 4000000) (disch := omega) only [c_slices_Contains_api_Due, r_slices_Contains_api_Due, getDT, go_sem, *] /-A6-/
def findL (l : List Lease) (id : Int) : Int := idxI (fun x => decide (x.msg.id = id)) l
theorem r06find_ok (t : Table) (id : Int) (hL : t.l.length ≤ 4294967296) : callL G N_ref06_find [.d (eTable t), .d (.int .i64 id)] [] = some (.d (.int .i64 (findL t.l id)), []) := by
  have hl := loop_find (G := G) (x := l_ref06_find_0) (ks := []) t.l.length (atB t.l fun x => decide (x.msg.id = id)) (fun k => ⟨[(1, .d (.int .i64 id)), (2, .ref 2 0 0), (5, .d (.int .i64 k))], [obT 2 t]⟩) (fun k => (.ret, ⟨[(4, .d (.int .i64 k))], []⟩)) (.exit 0, ⟨[], []⟩) (fun k hk L => by
    simp only [l_ref06_find_0, obT]
    by_cases h0 : k < t.l.length
    · simp only [h0, if_true, atB_at h0]
      simp -implicitDefEqProofs (maxSteps := 4000000) (disch := omega) only [getDT, go_sem, *] /-A7-/
    · simp -implicitDefEqProofs (maxSteps := 4000000) (disch := omega) only [getDT, go_sem, *] /-A8-/)
  rw [findR_idx] at hl
  simp only [obT] at hl
  simp only [Int.natCast_add, Int.natCast_one, Int.natCast_zero, Int.natCast_mul, Int.cast_ofNat_Int, List.length_append, List.length_map, List.map_nil, List.length_nil, List.map_append, List.map_cons, List.length_cons, Nat.zero_add, srcO, mapSet] at hl
  unfold findL idxI
  cases hf : t.l.findIdx? (fun x => decide (x.msg.id = id)) with
  | none => rw [hf] at hl; clear hf; rw [callL_code g_ref06_find (by simp)]; simp -implicitDefEqProofs (maxSteps := 4000000) (disch := omega) only [c_ref06_find, r_ref06_find, getDT, go_sem, *] /-A9-/
  | some i => rw [hf] at hl; clear hf; rw [callL_code g_ref06_find (by simp)]; simp -implicitDefEqProofs (maxSteps := 4000000) (disch := omega) only [c_ref06_find, r_ref06_find, getDT, go_sem, *] /-A10-/
def matchP (t : Table) : Bool := decide (t.heap.length = t.l.length) && t.l.all fun x => t.heap.any fun d => decide (d = (x.deadline, x.msg.id))
theorem matches_ok (t : Table) (hL : t.l.length ≤ 4294967296) (hH : t.heap.length ≤ 4294967296) : callL G N_lease_matches [.d (eTable t)] [] = some (.d (.bool (matchP t)), []) := by
  unfold matchP
  by_cases c : t.heap.length = t.l.length
  · rw [decide_eq_true c]
    have hl := loop_all (G := G) (x := l_lease_matches_0) (ks := []) t.l.length (atB t.l fun x => t.heap.any fun d => decide (d = (x.deadline, x.msg.id))) (fun k => ⟨[(1, .ref 1 0 0), (13, .d (.sl (t.l.map eLease))), (14, .d (.int .i64 t.l.length)), (15, .d (.int .i64 k))], [obT 1 t]⟩) (.ret, ⟨[(2, .d (.bool false))], []⟩) (.exit 0, ⟨[], []⟩) (fun k hk L => by
      simp only [l_lease_matches_0, obT]
      by_cases h0 : k < t.l.length
      · simp only [h0, if_true, atB_at h0]
        have hc := scont_ok t.heap (t.l[k].deadline, t.l[k].msg.id) hH
        simp only [eD] at hc
        generalize (t.heap.any fun d => decide (d = (t.l[k].deadline, t.l[k].msg.id))) = z at *
        cases z
        · simp -implicitDefEqProofs (maxSteps := 4000000) (disch := omega) only [getDT, go_sem, *] /-A11-/
        · simp -implicitDefEqProofs (maxSteps := 4000000) (disch := omega) only [getDT, go_sem, *] /-A12-/
      · simp -implicitDefEqProofs (maxSteps := 4000000) (disch := omega) only [getDT, go_sem, *] /-A13-/)
    have e : (List.range t.l.length).all (atB t.l fun x => t.heap.any fun d => decide (d = (x.deadline, x.msg.id))) = t.l.all fun x => t.heap.any fun d => decide (d = (x.deadline, x.msg.id)) := by
      rw [Bool.eq_iff_iff, List.all_eq_true, List.all_eq_true]
      constructor
      · intro h x hx
        obtain ⟨i, hi, rfl⟩ := List.getElem_of_mem hx
        have := h i (List.mem_range.2 hi)
        rwa [atB_at hi] at this
      · intro h i hi
        rw [atB_at (List.mem_range.1 hi)]
        exact h _ (List.getElem_mem _)
    rw [e] at hl
    simp only [obT] at hl
    simp only [Int.natCast_add, Int.natCast_one, Int.natCast_zero, Int.natCast_mul, Int.cast_ofNat_Int, List.length_append, List.length_map, List.map_nil, List.length_nil, List.map_append, List.map_cons, List.length_cons, Nat.zero_add, srcO, mapSet] at hl
    generalize (t.l.all fun x => t.heap.any fun d => decide (d = (x.deadline, x.msg.id))) = z at *
    cases z
    · simp only [Bool.false_eq_true, if_false] at hl
      rw [callL_code g_lease_matches (by simp)]; simp -implicitDefEqProofs (maxSteps := 4000000) (disch := omega) only [c_lease_matches, r_lease_matches, getDT, go_sem, *] /-A14-/
    · simp only [if_true] at hl
      rw [callL_code g_lease_matches (by simp)]; simp -implicitDefEqProofs (maxSteps := 4000000) (disch := omega) only [c_lease_matches, r_lease_matches, getDT, go_sem, *] /-A15-/
  · rw [decide_eq_false c]
    rw [callL_code g_lease_matches (by simp)]; simp -implicitDefEqProofs (maxSteps := 4000000) (disch := omega) only [c_lease_matches, r_lease_matches, getDT, go_sem, *] /-A16-/
end Go.Proofs.YtmbnbjkdamalpaaGreat

namespace Go.Proofs.YtmbnbjkdamalpaaGreat
open Go Go.Sim
set_option linter.unusedSimpArgs false
set_option linter.unusedVariables false
set_option maxHeartbeats 10000000
set_option maxRecDepth 40000
def leasesE (l : List Lease) : Int := findR l.length (leaseB l) (leaseE l) 0
def tabV (t : Table) : Int :=
  if 12 < t.l.length then 2 else if leasesE t.l ≠ 0 then leasesE t.l else if validateD t.heap ≠ 0 then validateD t.heap else if matchP t = true then 0 else 7
theorem leasesE_cases (l : List Lease) : (∃ k, (List.range l.length).find? (leaseB l) = some k ∧ leaseE l k ≠ 0 ∧ leasesE l = leaseE l k) ∨ ((List.range l.length).find? (leaseB l) = none ∧ leasesE l = 0) := by
  unfold leasesE findR
  cases h : (List.range l.length).find? (leaseB l) with
  | none => exact .inr ⟨rfl, rfl⟩
  | some k =>
    refine .inl ⟨k, rfl, ?_, rfl⟩
    have := List.find?_some h
    unfold leaseB at this
    simpa using this
theorem lval_ok (t : Table) (hL : t.l.length ≤ 4294967296) (hH : t.heap.length ≤ 4294967296) : callL G N_lease_Validate [.d (eTable t)] [] = some (.d (.int .i64 (tabV t)), []) := by
  unfold tabV
  by_cases c0 : 12 < t.l.length
  · rw [if_pos c0]
    rw [callL_code g_lease_Validate (by simp)]; simp -implicitDefEqProofs (maxSteps := 4000000) (disch := omega) only [c_lease_Validate, r_lease_Validate, getDT, go_sem, *] /-A0-/
  · rw [if_neg c0]
    have hl := lval_loop t (by omega)
    have hv := validate_ok t.heap hH
    have hm := matches_ok t hL hH
    simp only [obT] at hl
    unfold findR at hl
    rcases leasesE_cases t.l with ⟨k, h1, h2, h3⟩ | ⟨h1, h3⟩
    · rw [h1] at hl
      simp only at hl
      rw [h3, if_pos h2]
      generalize leaseE t.l k = z at *
      clear h1 h3 hv hm
      rw [callL_code g_lease_Validate (by simp)]; simp -implicitDefEqProofs (maxSteps := 4000000) (disch := omega) only [c_lease_Validate, r_lease_Validate, getDT, go_sem, *] /-A1-/
    · rw [h1] at hl
      rw [h3, if_neg (by simp)]
      clear h1 h3
      generalize validateD t.heap = z at *
      by_cases c1 : z = 0
      · subst c1
        rw [if_neg (by simp)]
        cases h : matchP t
        · rw [h] at hm
          simp only [Bool.false_eq_true, if_false]
          clear h
          rw [callL_code g_lease_Validate (by simp)]; simp -implicitDefEqProofs (maxSteps := 4000000) (disch := omega) only [c_lease_Validate, r_lease_Validate, getDT, go_sem, *] /-A2-/
        · rw [h] at hm
          simp only [if_true]
          clear h
          rw [callL_code g_lease_Validate (by simp)]; simp -implicitDefEqProofs (maxSteps := 4000000) (disch := omega) only [c_lease_Validate, r_lease_Validate, getDT, go_sem, *] /-A3-/
      · rw [if_pos c1]
        clear hm
        rw [callL_code g_lease_Validate (by simp)]; simp -implicitDefEqProofs (maxSteps := 4000000) (disch := omega) only [c_lease_Validate, r_lease_Validate, getDT, go_sem, *] /-A4-/
def matchR (t : Table) : Bool := decide (t.heap.length = t.l.length) && t.heap.all fun d => decide (0 ≤ findL t.l d.2) && decide ((t.l.getD (findL t.l d.2).toNat zLease).deadline = d.1)
def tabR (t : Table) : Int :=
  if 12 < t.l.length then 2 else if leasesE t.l ≠ 0 then leasesE t.l else if validateD t.heap ≠ 0 then validateD t.heap else if matchR t = true then 0 else 7
theorem findL_lt (l : List Lease) (id : Int) : -1 ≤ findL l id ∧ findL l id < l.length := idxI_lt _ _
theorem r06_loop1 (t : Table) (hL : t.l.length ≤ 4294967296) (hH : t.heap.length ≤ 4294967296) : loopL G [] l_ref06_Validate_1 ⟨[(1, .ref 1 0 0), (7, .d (.int .i64 0))], [obT 1 t]⟩ = some (if (t.heap.all fun d => decide (0 ≤ findL t.l d.2) && decide ((t.l.getD (findL t.l d.2).toNat zLease).deadline = d.1)) = true then (.exit 3, ⟨[], []⟩) else (.ret, ⟨[(2, .d (.int .i64 7))], []⟩)) := by
  have hl := loop_all (G := G) (x := l_ref06_Validate_1) (ks := []) t.heap.length (atB t.heap fun d => decide (0 ≤ findL t.l d.2) && decide ((t.l.getD (findL t.l d.2).toNat zLease).deadline = d.1)) (fun k => ⟨[(1, .ref 1 0 0), (7, .d (.int .i64 k))], [obT 1 t]⟩) (.ret, ⟨[(2, .d (.int .i64 7))], []⟩) (.exit 3, ⟨[], []⟩) (fun k hk L => by
    simp only [l_ref06_Validate_1, obT]
    by_cases h0 : k < t.heap.length
    · simp only [h0, if_true, atB_at h0]
      have hf := r06find_ok t t.heap[k].2 hL
      have hb := findL_lt t.l t.heap[k].2
      generalize findL t.l t.heap[k].2 = i at *
      by_cases c1 : 0 ≤ i
      · obtain ⟨n, rfl⟩ : ∃ n : Nat, i = n := ⟨i.toNat, by omega⟩
        have hn : n < t.l.length := by omega
        rw [Int.toNat_natCast, getDT hn, decide_eq_true c1, Bool.true_and]
        by_cases c2 : t.l[n].deadline = t.heap[k].1
        · rw [decide_eq_true c2]
          simp only [if_true]
          simp -implicitDefEqProofs (maxSteps := 4000000) (disch := omega) only [getDT, go_sem, *] /-A5-/
        · rw [decide_eq_false c2]
          simp only [Bool.false_eq_true, if_false]
          simp -implicitDefEqProofs (maxSteps := 4000000) (disch := omega) only [getDT, go_sem, *] /-A6-/
      · rw [decide_eq_false c1]
        simp only [Bool.false_and, Bool.false_eq_true, if_false]
        simp -implicitDefEqProofs (maxSteps := 4000000) (disch := omega) only [getDT, go_sem, *] /-A7-/
    · simp -implicitDefEqProofs (maxSteps := 4000000) (disch := omega) only [getDT, go_sem, *] /-A8-/)
  have e : (List.range t.heap.length).all (atB t.heap fun d => decide (0 ≤ findL t.l d.2) && decide ((t.l.getD (findL t.l d.2).toNat zLease).deadline = d.1)) = t.heap.all fun d => decide (0 ≤ findL t.l d.2) && decide ((t.l.getD (findL t.l d.2).toNat zLease).deadline = d.1) := by
    rw [Bool.eq_iff_iff, List.all_eq_true, List.all_eq_true]
    constructor
    · intro h x hx
      obtain ⟨i, hi, rfl⟩ := List.getElem_of_mem hx
      have := h i (List.mem_range.2 hi)
      rwa [atB_at hi] at this
    · intro h i hi
      rw [atB_at (List.mem_range.1 hi)]
      exact h _ (List.getElem_mem _)
  rw [e] at hl
  exact hl
theorem r06val_ok (t : Table) (hL : t.l.length ≤ 4294967296) (hH : t.heap.length ≤ 4294967296) : callL G N_ref06_Validate [.d (eTable t)] [] = some (.d (.int .i64 (tabR t)), []) := by
  unfold tabR
  by_cases c0 : 12 < t.l.length
  · rw [if_pos c0]
    rw [callL_code g_ref06_Validate (by simp)]; simp -implicitDefEqProofs (maxSteps := 4000000) (disch := omega) only [c_ref06_Validate, r_ref06_Validate, getDT, go_sem, *] /-A9-/
  · rw [if_neg c0]
    have hl := r06val_loop t (by omega)
    have hv := refValidate_ok t.heap hH
    have hm := r06_loop1 t hL hH
    simp only [obT] at hl hm
    unfold findR at hl
    rcases leasesE_cases t.l with ⟨k, h1, h2, h3⟩ | ⟨h1, h3⟩
    · rw [h1] at hl
      simp only at hl
      rw [h3, if_pos h2]
      generalize leaseE t.l k = z at *
      clear h1 h3 hv hm
      rw [callL_code g_ref06_Validate (by simp)]; simp -implicitDefEqProofs (maxSteps := 4000000) (disch := omega) only [c_ref06_Validate, r_ref06_Validate, getDT, go_sem, *] /-A10-/
    · rw [h1] at hl
      rw [h3, if_neg (by simp)]
      clear h1 h3
      generalize validateD t.heap = z at *
      by_cases c1 : z = 0
      · subst c1
        rw [if_neg (by simp)]
        unfold matchR
        by_cases c2 : t.heap.length = t.l.length
        · rw [decide_eq_true c2, Bool.true_and]
          generalize (t.heap.all fun d => decide (0 ≤ findL t.l d.2) && decide ((t.l.getD (findL t.l d.2).toNat zLease).deadline = d.1)) = q at *
          cases q
          · simp only [Bool.false_eq_true, if_false] at hm ⊢
            rw [callL_code g_ref06_Validate (by simp)]; simp -implicitDefEqProofs (maxSteps := 4000000) (disch := omega) only [c_ref06_Validate, r_ref06_Validate, getDT, go_sem, *] /-A11-/
          · simp only [if_true] at hm ⊢
            rw [callL_code g_ref06_Validate (by simp)]; simp -implicitDefEqProofs (maxSteps := 4000000) (disch := omega) only [c_ref06_Validate, r_ref06_Validate, getDT, go_sem, *] /-A12-/
        · rw [decide_eq_false c2, Bool.false_and]
          simp only [Bool.false_eq_true, if_false]
          clear hm
          rw [callL_code g_ref06_Validate (by simp)]; simp -implicitDefEqProofs (maxSteps := 4000000) (disch := omega) only [c_ref06_Validate, r_ref06_Validate, getDT, go_sem, *] /-A13-/
      · rw [if_pos c1]
        clear hm
        rw [callL_code g_ref06_Validate (by simp)]; simp -implicitDefEqProofs (maxSteps := 4000000) (disch := omega) only [c_ref06_Validate, r_ref06_Validate, getDT, go_sem, *] /-A14-/
theorem nodup_le {α : Type} [DecidableEq α] : ∀ (A B : List α), A.Nodup → (∀ a ∈ A, a ∈ B) → A.length ≤ B.length
  | [], _, _, _ => Nat.zero_le _
  | a :: A, B, h, hs => by
    have ha := hs a (by simp)
    rw [List.nodup_cons] at h
    have := nodup_le A (B.erase a) h.2 fun x hx => (List.mem_erase_of_ne (by rintro rfl; exact h.1 hx)).2 (hs x (by simp [hx]))
    rw [List.length_erase_of_mem ha] at this
    have hp := List.length_pos_of_mem ha
    simp only [List.length_cons]; omega
theorem nodup_all {α : Type} [DecidableEq α] {A B : List α} (h : A.Nodup) (hs : ∀ a ∈ A, a ∈ B) (hl : B.length ≤ A.length) : ∀ b ∈ B, b ∈ A := by
  intro b hb
  by_cases c : b ∈ A
  · exact c
  · have := nodup_le A (B.erase b) h fun x hx => (List.mem_erase_of_ne (by rintro rfl; exact c hx)).2 (hs x hx)
    rw [List.length_erase_of_mem hb] at this
    have hp := List.length_pos_of_mem hb
    omega
theorem leases_asc {l : List Lease} (h : leasesE l = 0) : l.Pairwise fun x y => x.msg.id < y.msg.id := by
  have h0 : ∀ i, i < l.length → leaseE l i = 0 := by
    rcases leasesE_cases l with ⟨k, _, h2, h3⟩ | ⟨h1, _⟩
    · omega
    · intro i hi
      have := List.find?_eq_none.1 h1 i (List.mem_range.2 hi)
      unfold leaseB at this
      simpa using this
  have step : ∀ i (hi : i + 1 < l.length), l[i].msg.id < l[i + 1].msg.id := fun i hi => by
    have := h0 (i + 1) hi
    unfold leaseE at this
    rw [getDT hi, Nat.add_sub_cancel, getDT (show i < l.length by omega)] at this
    split at this
    · omega
    split at this
    · omega
    split at this
    · omega
    split at this
    · cases this
    · omega
  refine List.pairwise_iff_getElem.2 fun i j hi hj hij => ?_
  obtain ⟨m, rfl⟩ : ∃ m, j = i + 1 + m := ⟨j - (i + 1), by omega⟩
  induction m with
  | zero => exact step i hj
  | succ m ih => exact Int.lt_trans (ih (by omega) (by omega)) (step (i + 1 + m) (by omega))
end Go.Proofs.YtmbnbjkdamalpaaGreat

namespace Go.Proofs.YtmbnbjkdamalpaaGreat
open Go Go.Sim
set_option linter.unusedSimpArgs false
set_option linter.unusedVariables false
set_option maxHeartbeats 10000000
set_option maxRecDepth 40000
def dueOf (x : Lease) : Due := (x.deadline, x.msg.id)
theorem findL_some {l : List Lease} {id : Int} (h : 0 ≤ findL l id) : ∃ k, ∃ hk : k < l.length, findL l id = k ∧ l[k].msg.id = id := by
  unfold findL idxI at h ⊢
  cases hf : l.findIdx? (fun x => decide (x.msg.id = id)) with
  | none => rw [hf] at h; exact absurd h (by simp)
  | some i =>
    obtain ⟨hi, hp, _⟩ := List.findIdx?_eq_some_iff_getElem.1 hf
    exact ⟨i, hi, rfl, by simpa using hp⟩
theorem findL_none {l : List Lease} {id : Int} (h : findL l id < 0) : ∀ x ∈ l, x.msg.id ≠ id := by
  unfold findL idxI at h
  cases hf : l.findIdx? (fun x => decide (x.msg.id = id)) with
  | none => intro x hx; have := List.findIdx?_eq_none_iff.1 hf x hx; simpa using this
  | some i => rw [hf] at h; simp only at h; omega
theorem asc_inj {l : List Lease} (h : l.Pairwise fun x y => x.msg.id < y.msg.id) {i j : Nat} (hi : i < l.length) (hj : j < l.length) (e : l[i].msg.id = l[j].msg.id) : i = j := by
  rw [List.pairwise_iff_getElem] at h
  rcases Nat.lt_trichotomy i j with q | q | q
  · have := h i j hi hj q; omega
  · exact q
  · have := h j i hj hi q; omega
theorem findL_at {l : List Lease} (h : l.Pairwise fun x y => x.msg.id < y.msg.id) {k : Nat} (hk : k < l.length) : findL l l[k].msg.id = k := by
  by_cases c : 0 ≤ findL l l[k].msg.id
  · obtain ⟨j, hj, e, q⟩ := findL_some c
    rw [e, asc_inj h hj hk q]
  · exact absurd rfl (findL_none (by omega) l[k] (List.getElem_mem _))
theorem asc_nodup {l : List Lease} (h : l.Pairwise fun x y => x.msg.id < y.msg.id) : (l.map dueOf).Nodup := by
  refine List.Pairwise.map _ ?_ h
  intro a b hab e
  have := congrArg Prod.snd e
  simp only [dueOf] at this
  omega
theorem matchR_mem {t : Table} (h : t.l.Pairwise fun x y => x.msg.id < y.msg.id) : matchR t = true ↔ t.heap.length = t.l.length ∧ ∀ d ∈ t.heap, d ∈ t.l.map dueOf := by
  unfold matchR
  rw [Bool.and_eq_true, decide_eq_true_eq, List.all_eq_true]
  refine and_congr_right fun _ => forall_congr' fun d => forall_congr' fun hd => ?_
  rw [Bool.and_eq_true, decide_eq_true_eq, decide_eq_true_eq, List.mem_map]
  constructor
  · rintro ⟨h0, h1⟩
    obtain ⟨k, hk, e, q⟩ := findL_some h0
    rw [e, Int.toNat_natCast, getDT hk] at h1
    exact ⟨t.l[k], List.getElem_mem _, Prod.ext h1 q⟩
  · rintro ⟨x, hx, rfl⟩
    obtain ⟨k, hk, rfl⟩ := List.getElem_of_mem hx
    simp only [dueOf, findL_at h hk]
    rw [Int.toNat_natCast, getDT hk]
    exact ⟨by omega, rfl⟩
theorem matchP_mem {t : Table} : matchP t = true ↔ t.heap.length = t.l.length ∧ ∀ d ∈ t.l.map dueOf, d ∈ t.heap := by
  unfold matchP
  rw [Bool.and_eq_true, decide_eq_true_eq, List.all_eq_true]
  refine and_congr_right fun _ => ?_
  constructor
  · intro h d hd
    obtain ⟨x, hx, rfl⟩ := List.mem_map.1 hd
    obtain ⟨y, hy, e⟩ := List.any_eq_true.1 (h x hx)
    rw [decide_eq_true_eq] at e
    rw [show dueOf x = y from e.symm]; exact hy
  · intro h x hx
    exact List.any_eq_true.2 ⟨_, h _ (List.mem_map.2 ⟨x, hx, rfl⟩), by simp [dueOf]⟩
theorem match_same {t : Table} (h : leasesE t.l = 0) (hv : validateD t.heap = 0) : matchP t = matchR t := by
  have ha := leases_asc h
  have hn := ((validate_iff _).1 hv).ids
  have hh : t.heap.Nodup := List.Pairwise.of_map (fun d : Due => d.2) (fun a b h e => h (by rw [e])) hn
  rw [Bool.eq_iff_iff, matchR_mem ha, matchP_mem]
  refine and_congr_right fun e => ⟨fun q => ?_, fun q => ?_⟩
  · exact nodup_all (asc_nodup ha) q (by simp [e])
  · exact nodup_all hh q (by simp [e])
theorem tab_same (t : Table) : tabR t = tabV t := by
  unfold tabR tabV
  by_cases h : leasesE t.l = 0
  · by_cases hv : validateD t.heap = 0
    · rw [match_same h hv]
    · simp only [hv, ne_eq, not_false_eq_true, if_true]
  · simp only [h, ne_eq, not_false_eq_true, if_true]
end Go.Proofs.YtmbnbjkdamalpaaGreat

namespace Go.Proofs.YtmbnbjkdamalpaaGreat
open Go Go.Sim
set_option linter.unusedSimpArgs false
set_option linter.unusedVariables false
set_option maxHeartbeats 10000000
set_option maxRecDepth 40000
theorem bytesD_ok (s : List UInt8) : bytesD (byD s) = some s := by
  unfold byD
  induction s with
  | nil => rfl
  | cons b s ih =>
    simp only [List.map_cons, bytesD, ih, Option.map_some, Int.toNat_natCast]
    simp
theorem body_loop (l : List Int) (hL : l.length ≤ 4000) (n : Nat) (hn : n ≤ 3) : ∀ p : Nat × Nat × List UInt8, p.1 ≤ n ∧ p.2.2.length = n → ∃ a' bs, bs.length = n ∧ loopL G [] l_base_Src_Body_0 ⟨[(0, .ref 1000000 0 0), (3, .osl 7 0 n), (4, .d (.int .i64 p.1)), (1000000, .ref 1000000 1 0)], [(7, .row ((byD p.2.2).map .d)), (1000000, srcO l p.2.1)]⟩ = some (.exit 0, ⟨[(3, .osl 7 0 n), (1000000, .ref 1000000 1 0)], [(7, .row ((byD bs).map .d)), (1000000, srcO l a')]⟩) := by
  refine loop_indP (fun p : Nat × Nat × List UInt8 => n - p.1) (fun p : Nat × Nat × List UInt8 => p.1 ≤ n ∧ p.2.2.length = n) (fun p : Nat × Nat × List UInt8 => ⟨[(0, .ref 1000000 0 0), (3, .osl 7 0 n), (4, .d (.int .i64 p.1)), (1000000, .ref 1000000 1 0)], [(7, .row ((byD p.2.2).map .d)), (1000000, srcO l p.2.1)]⟩) (fun p r => ∃ a' bs, bs.length = n ∧ r = some (.exit 0, ⟨[(3, .osl 7 0 n), (1000000, .ref 1000000 1 0)], [(7, .row ((byD bs).map .d)), (1000000, srcO l a')]⟩)) fun ⟨k, a, bs⟩ ⟨hk, hb⟩ L ih => ?_
  simp only at ih hk hb
  simp only [l_base_Src_Body_0]
  by_cases h0 : k < n
  · have n1 := nD_in l a (n := 3) (by omega)
    obtain ⟨c, hc⟩ : ∃ c : UInt8, (c.toNat : Int) = 97 + nD l a 3 := ⟨UInt8.ofNat (97 + nD l a 3).toNat, by rw [UInt8.toNat_ofNat']; omega⟩
    have hg : ((byD bs).map AV.d)[k]? = some (.d (.int .u8 (bs.getD k 0).toNat)) := by
      unfold byD
      simp [List.getElem?_eq_getElem (show k < bs.length by omega), show k < bs.length by omega]
    have hs : ((byD bs).map AV.d).set k (.d (.int .u8 (97 + nD l a 3))) = (byD (bs.set k c)).map AV.d := by
      unfold byD
      rw [← hc, List.map_set, List.map_set]
    obtain ⟨a', bs', h1, h2⟩ := ih (k + 1, (rawD l a).2, bs.set k c) ⟨by simp only; omega, by simp only [List.length_set]; exact hb⟩ (by simp only; omega)
    refine ⟨a', bs', h1, ?_⟩
    simp only [Int.natCast_add, Int.natCast_one, Int.natCast_zero, Int.natCast_mul, Int.cast_ofNat_Int, List.length_append, List.length_map, List.map_nil, List.length_nil, List.map_append, List.map_cons, List.length_cons, Nat.zero_add, srcO, mapSet] at h2
    simp -implicitDefEqProofs (maxSteps := 4000000) (disch := omega) only [go_sem, n_ok, hg, hs, h0]
    exact h2
  · refine ⟨a, bs, hb, ?_⟩
    simp -implicitDefEqProofs (maxSteps := 4000000) (disch := omega) only [go_sem, h0]
theorem body_ok (l : List Int) (a : Nat) (hL : l.length ≤ 4000) : ∃ s a', s.length ≤ 3 ∧ callL G N_base_Src_Body [.ref 1000000 0 0] [(1000000, srcO l a)] = some (.d (.str s), [(1000000, srcO l a')]) := by
  have n1 := nD_in l a (n := 4) (by omega)
  obtain ⟨n, hn⟩ : ∃ n, n = (nD l a 4).toNat := ⟨_, rfl⟩
  have e : nD l a 4 = (n : Int) := by omega
  obtain ⟨a', bs, h1, h2⟩ := body_loop l hL n (by omega) (0, (rawD l a).2, List.replicate n 0) ⟨by omega, by simp⟩
  have hz : List.replicate n (AV.d (.int .u8 0)) = (byD (List.replicate n 0)).map AV.d := by unfold byD; simp
  refine ⟨bs, a', by omega, ?_⟩
  have hl : (byD bs).length = n := by unfold byD; simpa using h1
  have ht : List.take n ((byD bs).map AV.d) = (byD bs).map AV.d := List.take_of_length_le (by simp [hl])
  simp only [Int.natCast_add, Int.natCast_one, Int.natCast_zero, Int.natCast_mul, Int.cast_ofNat_Int, List.length_append, List.length_map, List.map_nil, List.length_nil, List.map_append, List.map_cons, List.length_cons, Nat.zero_add, srcO, mapSet] at h2
  by_cases h0 : n = 0
  · subst h0
    have : bs = [] := List.length_eq_zero_iff.1 h1
    subst this
    simp only [List.replicate_zero, show byD [] = [] from rfl, List.map_nil] at h2
    rw [callL_code g_base_Src_Body (by simp)]; simp -implicitDefEqProofs (maxSteps := 4000000) (disch := omega) only [c_base_Src_Body, r_base_Src_Body, go_sem, n_ok, e, List.replicate_zero, h2]
  · have hne : ¬ (List.map AV.d (byD bs) = []) := by
      intro e2
      have := congrArg List.length e2
      simp [hl] at this
      exact h0 this
    rw [callL_code g_base_Src_Body (by simp)]; simp -implicitDefEqProofs (maxSteps := 4000000) (disch := omega) only [c_base_Src_Body, r_base_Src_Body, go_sem, n_ok, e, hz, h2, hl, ht, bytesD_ok, hne]
theorem body_ex : ∃ f : List Int → Nat → List UInt8 × Nat, ∀ l a, l.length ≤ 4000 → (f l a).1.length ≤ 3 ∧ callL G N_base_Src_Body [.ref 1000000 0 0] [(1000000, srcO l a)] = some (.d (.str (f l a).1), [(1000000, srcO l (f l a).2)]) := by
  refine ⟨fun l a => if h : l.length ≤ 4000 then (Classical.choose (body_ok l a h), Classical.choose (Classical.choose_spec (body_ok l a h))) else ([], 0), fun l a h => ?_⟩
  simp only [h, dif_pos]
  exact Classical.choose_spec (Classical.choose_spec (body_ok l a h))
noncomputable def bodyF : List Int → Nat → List UInt8 × Nat := Classical.choose body_ex
theorem bodyF_ok (l : List Int) (a : Nat) (hL : l.length ≤ 4000) : (bodyF l a).1.length ≤ 3 ∧ callL G N_base_Src_Body [.ref 1000000 0 0] [(1000000, srcO l a)] = some (.d (.str (bodyF l a).1), [(1000000, srcO l (bodyF l a).2)]) := Classical.choose_spec body_ex l a hL
end Go.Proofs.YtmbnbjkdamalpaaGreat

namespace Go.Proofs.YtmbnbjkdamalpaaGreat
open Go Go.Sim
set_option linter.unusedSimpArgs false
set_option linter.unusedVariables false
set_option maxHeartbeats 10000000
set_option maxRecDepth 40000
end Go.Proofs.YtmbnbjkdamalpaaGreat
