/-
  Batches: Start, Next, Entries, equality; setups as the reader builds them.
  Batches: the sanity check, and the law of limits.
-/
import Derived.Test.YtadnfmkdmknmhaaB0181414
set_option linter.unusedSimpArgs false
set_option linter.unusedVariables false
namespace Go.Proofs.Ytadnfmkdmknmhaa
open Go Go.Sim
set_option linter.unusedSimpArgs false
set_option linter.unusedVariables false
set_option maxHeartbeats 10000000
set_option maxRecDepth 40000
def startT (number : Int) (i : Invocation) (s : Setup) (n : Int) : Task := { zTask with number := number, inv := i, setup := s, invoked := n }
def batchStart (number : Int) (i : Invocation) (s : Setup) (n : Int) : Task × Int :=
  if inB number 1 200 = false then (zTask, 1) else if n < 0 then (zTask, 1) else if okSetup s = false then (zTask, 1) else if batchV i s ≠ 0 then (zTask, batchV i s) else (startT number i s n, 0)
theorem bStart_ok (number : Int) (i : Invocation) (s : Setup) (n : Int) (hb : i.bodies.length ≤ 4294967296) (ht : i.tokens.length ≤ 4294967296) : callL G N_batch_Start [.d (.int .i64 number), .d (eInvocation i), .d (eSetup s), .d (.int .i64 n)] [] = some (.d (.tup [eTask (batchStart number i s n).1, .int .i64 (batchStart number i s n).2]), []) := by
  have ha := arenaNew_ok s
  have hv := bVal_ok i s hb ht
  unfold batchStart
  unfold arenaNew at ha
  simp only [eInvocation, eSetup] at hv ha ⊢
  cases c1 : inB number 1 200
  · simp only [if_true, zTask, eTask, List.map_nil]
    rw [callL_code g_batch_Start (by simp)]; simp -implicitDefEqProofs (maxSteps := 4000000) (disch := omega) only [c_batch_Start, r_batch_Start, go_sem, bin_ok, c1]
  by_cases c2 : n < 0
  · simp only [c2, Bool.true_eq_false, if_false, if_true, zTask, eTask, List.map_nil]
    rw [callL_code g_batch_Start (by simp)]; simp -implicitDefEqProofs (maxSteps := 4000000) (disch := omega) only [c_batch_Start, r_batch_Start, go_sem, bin_ok, c1]
  cases c3 : okSetup s
  · rw [if_neg (by rw [c3]; decide)] at ha
    simp only [c2, Bool.true_eq_false, if_false, if_true, zTask, eTask, List.map_nil]
    simp only [zArena, eArena, List.map_nil] at ha
    rw [callL_code g_batch_Start (by simp)]; simp -implicitDefEqProofs (maxSteps := 4000000) (disch := omega) only [c_batch_Start, r_batch_Start, go_sem, bin_ok, c1, ha]
  rw [if_pos c3] at ha
  simp only [eArena] at ha
  by_cases c4 : batchV i s = 0
  · simp only [c2, c4, Bool.true_eq_false, if_false, ne_eq, not_true_eq_false, startT, zTask, eTask, List.map_nil]
    rw [callL_code g_batch_Start (by simp)]; simp -implicitDefEqProofs (maxSteps := 4000000) (disch := omega) only [c_batch_Start, r_batch_Start, go_sem, bin_ok, c1, ha, hv, c4]
  · simp only [c2, c4, Bool.true_eq_false, if_false, ne_eq, not_false_eq_true, if_true, zTask, eTask, List.map_nil]
    rw [callL_code g_batch_Start (by simp)]; simp -implicitDefEqProofs (maxSteps := 4000000) (disch := omega) only [c_batch_Start, r_batch_Start, go_sem, bin_ok, c1, ha, hv, c4]
def entriesI (i : Invocation) : Int := if i.kind = 1 then i.bodies.length else if i.kind = 3 ∨ i.kind = 4 ∨ i.kind = 5 then i.tokens.length else 1
theorem entries_ok (i : Invocation) : callL G N_batch_Entries [.d (eInvocation i)] [] = some (.d (.int .i64 (entriesI i)), []) := by
  unfold entriesI
  obtain ⟨kd, hm, mx, vs, fr, tt, bs, ts⟩ := i
  simp only [eInvocation]
  by_cases k1 : kd = 1
  · subst k1; simp only [if_true]
    rw [callL_code g_batch_Entries (by simp)]; simp -implicitDefEqProofs (maxSteps := 4000000) (disch := omega) only [c_batch_Entries, r_batch_Entries, go_sem, Nat.zero_add]
  by_cases k3 : kd = 3
  · subst k3; simp only [Int.reduceEq, if_true, if_false, true_or]
    rw [callL_code g_batch_Entries (by simp)]; simp -implicitDefEqProofs (maxSteps := 4000000) (disch := omega) only [c_batch_Entries, r_batch_Entries, go_sem, Nat.zero_add]
  by_cases k4 : kd = 4
  · subst k4; simp only [Int.reduceEq, if_true, if_false, true_or, or_true]
    rw [callL_code g_batch_Entries (by simp)]; simp -implicitDefEqProofs (maxSteps := 4000000) (disch := omega) only [c_batch_Entries, r_batch_Entries, go_sem, Nat.zero_add]
  by_cases k5 : kd = 5
  · subst k5; simp only [Int.reduceEq, if_true, if_false, or_true]
    rw [callL_code g_batch_Entries (by simp)]; simp -implicitDefEqProofs (maxSteps := 4000000) (disch := omega) only [c_batch_Entries, r_batch_Entries, go_sem, Nat.zero_add]
  simp only [k1, k3, k4, k5, or_self, if_false]
  rw [callL_code g_batch_Entries (by simp)]; simp -implicitDefEqProofs (maxSteps := 4000000) (disch := omega) only [c_batch_Entries, r_batch_Entries, go_sem, k1, k3, k4, k5]
theorem refEntries_ok (i : Invocation) : callL G N_ref17_Entries [.d (eInvocation i)] [] = some (.d (.int .i64 (entriesI i)), []) := by
  unfold entriesI
  obtain ⟨kd, hm, mx, vs, fr, tt, bs, ts⟩ := i
  simp only [eInvocation]
  by_cases k1 : kd = 1
  · subst k1; simp only [if_true]
    rw [callL_code g_ref17_Entries (by simp)]; simp -implicitDefEqProofs (maxSteps := 4000000) (disch := omega) only [c_ref17_Entries, r_ref17_Entries, go_sem, Nat.zero_add]
  by_cases k3 : kd = 3
  · subst k3; simp only [Int.reduceEq, if_true, if_false, true_or]
    rw [callL_code g_ref17_Entries (by simp)]; simp -implicitDefEqProofs (maxSteps := 4000000) (disch := omega) only [c_ref17_Entries, r_ref17_Entries, go_sem, Nat.zero_add]
  by_cases k4 : kd = 4
  · subst k4; simp only [Int.reduceEq, if_true, if_false, true_or, or_true]
    rw [callL_code g_ref17_Entries (by simp)]; simp -implicitDefEqProofs (maxSteps := 4000000) (disch := omega) only [c_ref17_Entries, r_ref17_Entries, go_sem, Nat.zero_add]
  by_cases k5 : kd = 5
  · subst k5; simp only [Int.reduceEq, if_true, if_false, or_true]
    rw [callL_code g_ref17_Entries (by simp)]; simp -implicitDefEqProofs (maxSteps := 4000000) (disch := omega) only [c_ref17_Entries, r_ref17_Entries, go_sem, Nat.zero_add]
  simp only [k1, k3, k4, k5, or_self, if_false]
  rw [callL_code g_ref17_Entries (by simp)]; simp -implicitDefEqProofs (maxSteps := 4000000) (disch := omega) only [c_ref17_Entries, r_ref17_Entries, go_sem, k1, k3, k4, k5]
theorem clip_ok (l : List Result) (hL : l.length ≤ 4294967296) : callL G N_slices_Clip_api_Result [.d (.sl (l.map eResult))] [] = some (.xsl (l.map eResult), []) := by
  have e : List.take l.length (l.map eResult) = l.map eResult := List.take_of_length_le (by simp)
  rw [callL_code g_slices_Clip_api_Result (by simp)]; simp -implicitDefEqProofs (maxSteps := 4000000) (disch := omega) only [c_slices_Clip_api_Result, r_slices_Clip_api_Result, go_sem, allSize_Result, e]
def nextT (t : Task) (r : Result) (n : Int) : Task :=
  { zTask with number := t.number, inv := t.inv, setup := t.setup, invoked := t.invoked, entry := t.entry + 1, results := t.results ++ [r], done := if t.entry + 1 = entriesI t.inv then true else t.done, ended := if t.entry + 1 = entriesI t.inv then n else t.ended }
theorem bNext_ok (t : Task) (r : Result) (n : Int) (he : 0 ≤ t.entry ∧ t.entry ≤ 1000) (hl : t.results.length ≤ 1000) : callL G N_batch_Next [.d (eTask t), .d (eResult r), .d (.int .i64 n)] [] = some (.d (eTask (nextT t r n)), []) := by
  have hc := clip_ok t.results (by omega)
  have hn := entries_ok t.inv
  have hcase : t.results.map eResult ≠ [] ∨ t.results = [] := by cases t.results <;> simp
  simp only [eInvocation] at hn
  unfold nextT
  simp only [zTask, eTask, List.map_append, List.map_cons, List.map_nil]
  by_cases c1 : t.entry + 1 = entriesI t.inv
  · simp only [c1, if_true]
    simp only [eResult] at hc ⊢
    rw [callL_code g_batch_Next (by simp)]; simp -implicitDefEqProofs (maxSteps := 4000000) (disch := omega) only [c_batch_Next, r_batch_Next, go_sem, hc, hn, c1, allSize_Result]
  · simp only [c1, if_false]
    simp only [eResult] at hc ⊢
    rw [callL_code g_batch_Next (by simp)]; simp -implicitDefEqProofs (maxSteps := 4000000) (disch := omega) only [c_batch_Next, r_batch_Next, go_sem, hc, hn, c1, allSize_Result]
theorem sameTexts_ok (a b : List (List UInt8)) (hL : a.length ≤ 4294967296) : callL G N_ref17_SameTexts [.d (.sl (a.map D.str)), .d (.sl (b.map D.str))] [] = some (.d (.bool (decide (a = b))), []) := by
  by_cases hab : a.length = b.length
  · have := loop_all (G := G) (x := l_ref17_SameTexts_0) (ks := []) a.length (fun k => decide (a[k]? = b[k]?)) (fun k => ⟨[(0, .d (.sl (a.map D.str))), (1, .d (.sl (b.map D.str))), (5, .d (.int .i64 k))], []⟩) (.ret, ⟨[(4, .d (.bool false))], []⟩) (.exit 0, ⟨[], []⟩) (fun k hk L => by
      simp only [l_ref17_SameTexts_0]
      by_cases h0 : k < a.length
      · have hk2 : k < b.length := by omega
        simp only [get_eq h0 hk2]
        by_cases hc : a[k] = b[k]
        · simp -implicitDefEqProofs (maxSteps := 4000000) (disch := omega) only [go_sem, hc]
        · simp -implicitDefEqProofs (maxSteps := 4000000) (disch := omega) only [go_sem, hc]
      · simp -implicitDefEqProofs (maxSteps := 4000000) (disch := omega) only [go_sem, Nat.zero_add])
    simp only [all_eq hab, Int.natCast_zero] at this
    by_cases e : a = b
    · subst e
      simp only [decide_true, if_true] at this
      rw [callL_code g_ref17_SameTexts (by simp)]; simp -implicitDefEqProofs (maxSteps := 4000000) (disch := omega) only [c_ref17_SameTexts, r_ref17_SameTexts, go_sem, this]
    · simp only [e, decide_false, Bool.false_eq_true, if_false] at this
      rw [callL_code g_ref17_SameTexts (by simp)]; simp -implicitDefEqProofs (maxSteps := 4000000) (disch := omega) only [c_ref17_SameTexts, r_ref17_SameTexts, go_sem, hab, this, e]
  · have e : a ≠ b := fun e => hab (by rw [e])
    rw [callL_code g_ref17_SameTexts (by simp)]; simp -implicitDefEqProofs (maxSteps := 4000000) (disch := omega) only [c_ref17_SameTexts, r_ref17_SameTexts, go_sem, e]
theorem bytesD_ok (s : List UInt8) : bytesD (byD s) = some s := by
  unfold byD
  induction s with
  | nil => rfl
  | cons b s ih =>
    simp only [List.map_cons, bytesD, ih, Option.map_some, Int.toNat_natCast]
    simp
theorem sameTokens_ok (a b : List (List UInt8)) (hL : a.length ≤ 4294967296) : callL G N_ref17_SameTokens [.d (.sl (a.map eBytes)), .d (.sl (b.map eBytes))] [] = some (.d (.bool (decide (a = b))), []) := by
  by_cases hab : a.length = b.length
  · have := loop_all (G := G) (x := l_ref17_SameTokens_0) (ks := []) a.length (fun k => decide (a[k]? = b[k]?)) (fun k => ⟨[(0, .d (.sl (a.map eBytes))), (1, .d (.sl (b.map eBytes))), (5, .d (.int .i64 k))], []⟩) (.ret, ⟨[(4, .d (.bool false))], []⟩) (.exit 0, ⟨[], []⟩) (fun k hk L => by
      simp only [l_ref17_SameTokens_0]
      by_cases h0 : k < a.length
      · have hk2 : k < b.length := by omega
        simp only [get_eq h0 hk2]
        by_cases hc : a[k] = b[k]
        · simp -implicitDefEqProofs (maxSteps := 4000000) (disch := omega) only [go_sem, eBytes, bytesD_ok, hc]
        · simp -implicitDefEqProofs (maxSteps := 4000000) (disch := omega) only [go_sem, eBytes, bytesD_ok, hc]
      · simp -implicitDefEqProofs (maxSteps := 4000000) (disch := omega) only [go_sem, Nat.zero_add])
    simp only [all_eq hab, Int.natCast_zero] at this
    by_cases e : a = b
    · subst e
      simp only [decide_true, if_true] at this
      rw [callL_code g_ref17_SameTokens (by simp)]; simp -implicitDefEqProofs (maxSteps := 4000000) (disch := omega) only [c_ref17_SameTokens, r_ref17_SameTokens, go_sem, this]
    · simp only [e, decide_false, Bool.false_eq_true, if_false] at this
      rw [callL_code g_ref17_SameTokens (by simp)]; simp -implicitDefEqProofs (maxSteps := 4000000) (disch := omega) only [c_ref17_SameTokens, r_ref17_SameTokens, go_sem, hab, this, e]
  · have e : a ≠ b := fun e => hab (by rw [e])
    rw [callL_code g_ref17_SameTokens (by simp)]; simp -implicitDefEqProofs (maxSteps := 4000000) (disch := omega) only [c_ref17_SameTokens, r_ref17_SameTokens, go_sem, e]
theorem sameInv_self (i : Invocation) (hb : i.bodies.length ≤ 4294967296) (ht : i.tokens.length ≤ 4294967296) : callL G N_ref17_SameInvocation [.d (eInvocation i), .d (eInvocation i)] [] = some (.d (.bool true), []) := by
  have h1 := sameTexts_ok i.bodies i.bodies hb
  have h2 := sameTokens_ok i.tokens i.tokens ht
  simp only [decide_true] at h1 h2
  simp only [eInvocation]
  rw [callL_code g_ref17_SameInvocation (by simp)]; simp -implicitDefEqProofs (maxSteps := 4000000) (disch := omega) only [c_ref17_SameInvocation, r_ref17_SameInvocation, go_sem, h1, h2]
theorem body_loop (l : List Int) (hL : l.length ≤ 4000) (n : Nat) (hn : n ≤ 3) : ∀ p : Nat × Nat × List UInt8, p.1 ≤ n ∧ p.2.2.length = n → ∃ a' bs, bs.length = n ∧ loopL G [] l_base_Src_Body_0 ⟨[(0, .ref 1000000 0 0), (3, .osl 7 0 n), (4, .d (.int .i64 p.1)), (1000000, .ref 1000000 1 0)], [(7, .row ((byD p.2.2).map .d)), (1000000, srcO l p.2.1)]⟩ = some (.exit 0, ⟨[(3, .osl 7 0 n), (1000000, .ref 1000000 1 0)], [(7, .row ((byD bs).map .d)), (1000000, srcO l a')]⟩) := by
  refine loop_indP (fun p : Nat × Nat × List UInt8 => n - p.1) (fun p : Nat × Nat × List UInt8 => p.1 ≤ n ∧ p.2.2.length = n) (fun p : Nat × Nat × List UInt8 => ⟨[(0, .ref 1000000 0 0), (3, .osl 7 0 n), (4, .d (.int .i64 p.1)), (1000000, .ref 1000000 1 0)], [(7, .row ((byD p.2.2).map .d)), (1000000, srcO l p.2.1)]⟩) (fun p r => ∃ a' bs, bs.length = n ∧ r = some (.exit 0, ⟨[(3, .osl 7 0 n), (1000000, .ref 1000000 1 0)], [(7, .row ((byD bs).map .d)), (1000000, srcO l a')]⟩)) fun ⟨k, a, bs⟩ ⟨hk, hb⟩ L ih => ?_
  simp only at ih hk hb
  simp only [l_base_Src_Body_0]
  by_cases h0 : k < n
  · have n1 := nD_in l a (n := 3) (by omega)
    obtain ⟨c, hc⟩ : ∃ c : UInt8, (c.toNat : Int) = 97 + nD l a 3 := ⟨UInt8.ofNat (97 + nD l a 3).toNat, by rw [UInt8.toNat_ofNat']; omega⟩
    have hg : ((byD bs).map AV.d)[k]? = some (.d (.int .u8 (bs.getD k 0).toNat)) := by
      unfold byD
      simp [List.getElem?_eq_getElem (show k < bs.length by omega), show k < bs.length by omega]
    have hs : ((byD bs).map AV.d).set k (.d (.int .u8 (97 + nD l a 3))) = (byD (bs.set k c)).map AV.d := by
      unfold byD
      rw [← hc, List.map_set, List.map_set]
    obtain ⟨a', bs', h1, h2⟩ := ih (k + 1, (rawD l a).2, bs.set k c) ⟨by simp only; omega, by simp only [List.length_set]; exact hb⟩ (by simp only; omega)
    refine ⟨a', bs', h1, ?_⟩
    simp only [Int.natCast_add, Int.natCast_one, Int.natCast_zero, Int.natCast_mul, Int.cast_ofNat_Int, List.length_append, List.length_map, List.map_nil, List.length_nil, List.map_append, List.map_cons, List.length_cons, Nat.zero_add, srcO, mapSet] at h2
    simp -implicitDefEqProofs (maxSteps := 4000000) (disch := omega) only [go_sem, n_ok, hg, hs, h0]
    exact h2
  · refine ⟨a, bs, hb, ?_⟩
    simp -implicitDefEqProofs (maxSteps := 4000000) (disch := omega) only [go_sem, h0]
theorem body_ok (l : List Int) (a : Nat) (hL : l.length ≤ 4000) : ∃ s a', s.length ≤ 3 ∧ callL G N_base_Src_Body [.ref 1000000 0 0] [(1000000, srcO l a)] = some (.d (.str s), [(1000000, srcO l a')]) := by
  have n1 := nD_in l a (n := 4) (by omega)
  obtain ⟨n, hn⟩ : ∃ n, n = (nD l a 4).toNat := ⟨_, rfl⟩
  have e : nD l a 4 = (n : Int) := by omega
  obtain ⟨a', bs, h1, h2⟩ := body_loop l hL n (by omega) (0, (rawD l a).2, List.replicate n 0) ⟨by omega, by simp⟩
  have hz : List.replicate n (AV.d (.int .u8 0)) = (byD (List.replicate n 0)).map AV.d := by unfold byD; simp
  refine ⟨bs, a', by omega, ?_⟩
  have hl : (byD bs).length = n := by unfold byD; simpa using h1
  have ht : List.take n ((byD bs).map AV.d) = (byD bs).map AV.d := List.take_of_length_le (by simp [hl])
  simp only [Int.natCast_add, Int.natCast_one, Int.natCast_zero, Int.natCast_mul, Int.cast_ofNat_Int, List.length_append, List.length_map, List.map_nil, List.length_nil, List.map_append, List.map_cons, List.length_cons, Nat.zero_add, srcO, mapSet] at h2
  by_cases h0 : n = 0
  · subst h0
    have : bs = [] := List.length_eq_zero_iff.1 h1
    subst this
    simp only [List.replicate_zero, show byD [] = [] from rfl, List.map_nil] at h2
    rw [callL_code g_base_Src_Body (by simp)]; simp -implicitDefEqProofs (maxSteps := 4000000) (disch := omega) only [c_base_Src_Body, r_base_Src_Body, go_sem, n_ok, e, List.replicate_zero, h2]
  · have hne : ¬ (List.map AV.d (byD bs) = []) := by
      intro e2
      have := congrArg List.length e2
      simp [hl] at this
      exact h0 this
    rw [callL_code g_base_Src_Body (by simp)]; simp -implicitDefEqProofs (maxSteps := 4000000) (disch := omega) only [c_base_Src_Body, r_base_Src_Body, go_sem, n_ok, e, hz, h2, hl, ht, bytesD_ok, hne]
theorem setup_ok (l : List Int) (a : Nat) (hL : l.length ≤ 4000) : ∃ x a', okSetup x = true ∧ x.slots ≤ 4 ∧ callL G N_base_Src_Setup [.ref 1000000 0 0] [(1000000, srcO l a)] = some (.d (eSetup x), [(1000000, srcO l a')]) := by
  obtain ⟨a1, q1⟩ : ∃ a1, a1 = (rawD l a).2 := ⟨_, rfl⟩
  obtain ⟨a2, q2⟩ : ∃ a2, a2 = (rawD l a1).2 := ⟨_, rfl⟩
  obtain ⟨a3, q3⟩ : ∃ a3, a3 = (rawD l a2).2 := ⟨_, rfl⟩
  obtain ⟨a4, q4⟩ : ∃ a4, a4 = (rawD l a3).2 := ⟨_, rfl⟩
  obtain ⟨a5, q5⟩ : ∃ a5, a5 = (rawD l a4).2 := ⟨_, rfl⟩
  obtain ⟨a6, q6⟩ : ∃ a6, a6 = (rawD l a5).2 := ⟨_, rfl⟩
  have n1 := nD_in l a (n := 4) (by omega)
  have n2 := nD_in l a1 (n := 5) (by omega)
  have n3 := nD_in l a2 (n := 4) (by omega)
  have n4 := nD_in l a3 (n := 3) (by omega)
  have n5 := nD_in l a4 (n := 1 + nD l a 4 - 1 + 1) (by omega)
  have n6 := nD_in l a5 (n := 12) (by omega)
  have n7 := nD_in l a6 (n := 200) (by omega)
  have n8 := nD_in l a6 (n := 4) (by omega)
  have n9 := nD_in l a6 (n := 3) (by omega)
  by_cases c1 : nD l a5 12 = 9
  · refine ⟨⟨1 + nD l a 4, 1 + nD l a4 (1 + nD l a 4 - 1 + 1), 1 + nD l a1 5, 1 + nD l a2 4, 1 + nD l a3 3, 1073741824 - nD l a6 200, 1, 0⟩, (rawD l a6).2, ?_, by simp only; omega, ?_⟩
    · simp only [okSetup, inB, Bool.and_eq_true, decide_eq_true_eq]; omega
    · simp only [eSetup]
      rw [callL_code g_base_Src_Setup (by simp)]; simp -implicitDefEqProofs (maxSteps := 4000000) (disch := omega) only [c_base_Src_Setup, r_base_Src_Setup, go_sem, n_ok, range_ok, ← q1, ← q2, ← q3, ← q4, ← q5, ← q6, c1]
  by_cases c2 : nD l a5 12 = 10
  · refine ⟨⟨1 + nD l a 4, 1 + nD l a4 (1 + nD l a 4 - 1 + 1), 1 + nD l a1 5, 1 + nD l a2 4, 1 + nD l a3 3, 0, 1073741824 - nD l a6 4, 0⟩, (rawD l a6).2, ?_, by simp only; omega, ?_⟩
    · simp only [okSetup, inB, Bool.and_eq_true, decide_eq_true_eq]; omega
    · simp only [eSetup]
      rw [callL_code g_base_Src_Setup (by simp)]; simp -implicitDefEqProofs (maxSteps := 4000000) (disch := omega) only [c_base_Src_Setup, r_base_Src_Setup, go_sem, n_ok, range_ok, ← q1, ← q2, ← q3, ← q4, ← q5, ← q6, c1, c2]
  by_cases c3 : nD l a5 12 = 11
  · refine ⟨⟨1 + nD l a 4, 1 + nD l a4 (1 + nD l a 4 - 1 + 1), 1 + nD l a1 5, 1 + nD l a2 4, 1 + nD l a3 3, 0, 1, 65536 - nD l a6 3⟩, (rawD l a6).2, ?_, by simp only; omega, ?_⟩
    · simp only [okSetup, inB, Bool.and_eq_true, decide_eq_true_eq]; omega
    · simp only [eSetup]
      rw [callL_code g_base_Src_Setup (by simp)]; simp -implicitDefEqProofs (maxSteps := 4000000) (disch := omega) only [c_base_Src_Setup, r_base_Src_Setup, go_sem, n_ok, range_ok, ← q1, ← q2, ← q3, ← q4, ← q5, ← q6, c1, c2, c3]
  · refine ⟨⟨1 + nD l a 4, 1 + nD l a4 (1 + nD l a 4 - 1 + 1), 1 + nD l a1 5, 1 + nD l a2 4, 1 + nD l a3 3, 0, 1, 0⟩, a6, ?_, by simp only; omega, ?_⟩
    · simp only [okSetup, inB, Bool.and_eq_true, decide_eq_true_eq]; omega
    · simp only [eSetup]
      rw [callL_code g_base_Src_Setup (by simp)]; simp -implicitDefEqProofs (maxSteps := 4000000) (disch := omega) only [c_base_Src_Setup, r_base_Src_Setup, go_sem, n_ok, range_ok, ← q1, ← q2, ← q3, ← q4, ← q5, ← q6, c1, c2, c3]
end Go.Proofs.Ytadnfmkdmknmhaa

namespace Go.Proofs.Ytadnfmkdmknmhaa
open Go Go.Sim
set_option linter.unusedSimpArgs false
set_option linter.unusedVariables false
set_option maxHeartbeats 10000000
set_option maxRecDepth 40000
def invS : Invocation := ⟨1, 0, 0, 0, 0, 0, [[97], [98]], []⟩
def setupA : Setup := ⟨1, 1, 1, 1, 1, 0, 1, 0⟩
theorem awake17_ok : callL G N_law17_awake [] [] = some (.d (.bool true), []) := by
  have h1 := bStart_ok 1 invS setupA 0 (by decide) (by decide)
  have e : batchStart 1 invS setupA 0 = (startT 1 invS setupA 0, 0) := by decide
  rw [e] at h1
  have h2 := bNext_ok (startT 1 invS setupA 0) ⟨0, 1, [], [], 0, 0, 0⟩ 5 (by decide) (by decide)
  have h3 := entries_ok invS
  have e2 : entriesI invS = 2 := by decide
  rw [e2] at h3
  simp only [nextT, startT, zTask, eTask, eInvocation, eSetup, eResult, invS, setupA, List.map_cons, List.map_nil, entriesI, List.length_cons, List.length_nil, if_true, if_false, Int.reduceEq, Int.reduceAdd, Nat.reduceAdd, List.nil_append, Int.cast_ofNat_Int, Nat.zero_add] at h1 h2 h3
  rw [callL_code g_law17_awake (by simp)]; simp -implicitDefEqProofs (maxSteps := 4000000) (disch := omega) only [c_law17_awake, r_law17_awake, go_sem, h1, h2, h3]
def two (live cap lim : Int) : Setup := ⟨2, live, cap, 3, lim, 0, 1, 0⟩
end Go.Proofs.Ytadnfmkdmknmhaa
