/-
  Batches: the law of entries.
-/
import Derived.Test.YtlphhhmicdjljaaRF9
namespace Go.Proofs.Ytlphhhmicdjljaa
open Go Go.Sim
set_option linter.unusedSimpArgs false
set_option linter.unusedVariables false
set_option maxHeartbeats 10000000
set_option maxRecDepth 40000
def beS (l : List Int) (p : List (List UInt8) × Nat × Nat) : St := ⟨[(3, .ref 12 0 0), (4, .ref 4 0 0), (5, .d (.int .i64 p.2.2))], [(4, .row [.agg [.d (.int .i64 1), .d (.int .i64 0), .d (.int .i64 0), .d (.int .i64 0), .d (.int .i64 0), .d (.int .i64 0), .acc 500025 (p.1.map D.str), .xsl []]]), (12, srcO l p.2.1), (500025, .acc p.1.length)]⟩
theorem be_loop (l : List Int) (hL : l.length ≤ 4000) : ∀ p : List (List UInt8) × Nat × Nat, p.1.length + p.2.2 ≤ 6 ∧ (∀ b ∈ p.1, b.length ≤ 3) → ∃ (bs : List (List UInt8)) (a' : Nat), bs.length = p.1.length + p.2.2 ∧ (∀ b ∈ bs, b.length ≤ 3) ∧ loopL G [] l_law17_BatchEntries_0 (beS l p) = some (.exit 0, ⟨[(3, .ref 12 0 0), (4, .ref 4 0 0)], [(4, .row [.agg [.d (.int .i64 1), .d (.int .i64 0), .d (.int .i64 0), .d (.int .i64 0), .d (.int .i64 0), .d (.int .i64 0), .acc 500025 (bs.map D.str), .xsl []]]), (12, srcO l a'), (500025, .acc bs.length)]⟩) := by
  refine loop_indP (fun p : List (List UInt8) × Nat × Nat => p.2.2) (fun p : List (List UInt8) × Nat × Nat => p.1.length + p.2.2 ≤ 6 ∧ (∀ b ∈ p.1, b.length ≤ 3)) (beS l) (fun p r => ∃ (bs : List (List UInt8)) (a' : Nat), bs.length = p.1.length + p.2.2 ∧ (∀ b ∈ bs, b.length ≤ 3) ∧ r = some (.exit 0, ⟨[(3, .ref 12 0 0), (4, .ref 4 0 0)], [(4, .row [.agg [.d (.int .i64 1), .d (.int .i64 0), .d (.int .i64 0), .d (.int .i64 0), .d (.int .i64 0), .d (.int .i64 0), .acc 500025 (bs.map D.str), .xsl []]]), (12, srcO l a'), (500025, .acc bs.length)]⟩)) fun ⟨bs, a, k⟩ ⟨hk, hbs⟩ L ih => ?_
  simp only [beS] at ih hk hbs ⊢
  simp only [l_law17_BatchEntries_0]
  by_cases h0 : 0 < k
  · obtain ⟨s, a1, hs, hb⟩ := body_ok l a hL
    obtain ⟨bs2, a2, h1, h3, h2⟩ := ih (bs ++ [s], a1, k - 1) ⟨by simp only [List.length_append, List.length_singleton]; omega, fun b hb => (List.mem_append.1 hb).elim (fun h => hbs b h) (fun h => by rw [List.mem_singleton.1 h]; exact hs)⟩ (by simp only; omega)
    simp only [List.length_append, List.length_singleton] at h1
    refine ⟨bs2, a2, by omega, h3, ?_⟩
    have e : ((k - 1 : Nat) : Int) = (k : Int) - 1 := by omega
    rw [e] at h2
    simp only [Int.natCast_add, Int.natCast_one, Int.natCast_zero, Int.natCast_mul, Int.cast_ofNat_Int, List.length_append, List.length_map, List.map_nil, List.length_nil, List.map_append, List.map_cons, List.length_cons, Nat.zero_add, srcO] at h2 hb
    simp -implicitDefEqProofs (disch := omega) only [wr, or_self, or_false, false_or, true_or, or_true, false_and, and_false, Int.natCast_mul, Int.cast_ofNat_Int, Int.natCast_zero, List.length_append, lim_eq, wu64, wu32, wu8, Bool.true_beq, Bool.false_beq, beqT, beqF, Int.natCast_add, Int.natCast_one, ltT, ltF, leT, leF, eqT, eqF, lenLtT, lenLtF, lenLeT, addLeT, lenEqT, mapGet, Int.toNat_natCast, Int.natCast_nonneg, List.length_map, go_sem, ↓reduceIte, reduceCtorEq, Nat.reduceEqDiff, Nat.reduceAdd, Nat.reduceBEq, Nat.reduceMul, Nat.reduceLeDiff, Nat.reduceSub, Nat.reduceLT, Nat.reduceDiv, Nat.reduceMod, List.reduceReplicate, Int.reduceEq, Int.reduceLT, Int.reduceLE, Int.reduceAdd, Int.reduceSub, Int.reduceMul, Int.reduceNeg, Int.reduceToNat, hb, allSize_strs]
    exact h2
  · refine ⟨bs, a, by omega, hbs, ?_⟩
    simp -implicitDefEqProofs (disch := omega) only [wr, or_self, or_false, false_or, true_or, or_true, false_and, and_false, Int.natCast_mul, Int.cast_ofNat_Int, Int.natCast_zero, List.length_append, lim_eq, wu64, wu32, wu8, Bool.true_beq, Bool.false_beq, beqT, beqF, Int.natCast_add, Int.natCast_one, ltT, ltF, leT, leF, eqT, eqF, lenLtT, lenLtF, lenLeT, addLeT, lenEqT, mapGet, Int.toNat_natCast, Int.natCast_nonneg, List.length_map, go_sem, ↓reduceIte, reduceCtorEq, Nat.reduceEqDiff, Nat.reduceAdd, Nat.reduceBEq, Nat.reduceMul, Nat.reduceLeDiff, Nat.reduceSub, Nat.reduceLT, Nat.reduceDiv, Nat.reduceMod, List.reduceReplicate, Int.reduceEq, Int.reduceLT, Int.reduceLE, Int.reduceAdd, Int.reduceSub, Int.reduceMul, Int.reduceNeg, Int.reduceToNat, Nat.zero_add]
theorem be_first (l : List Int) (hL : l.length ≤ 4000) (a : Nat) (k : Nat) (h1 : 1 ≤ k) (h2 : k ≤ 6) : ∃ (bs : List (List UInt8)) (a' : Nat), bs.length = k ∧ (∀ b ∈ bs, b.length ≤ 3) ∧ loopL G [] l_law17_BatchEntries_0 ⟨[(3, .ref 12 0 0), (4, .ref 4 0 0), (5, .d (.int .i64 k))], [(4, .row [.agg [.d (.int .i64 1), .d (.int .i64 0), .d (.int .i64 0), .d (.int .i64 0), .d (.int .i64 0), .d (.int .i64 0), .xsl [], .xsl []]]), (12, srcO l a)]⟩ = some (.exit 0, ⟨[(3, .ref 12 0 0), (4, .ref 4 0 0)], [(4, .row [.agg [.d (.int .i64 1), .d (.int .i64 0), .d (.int .i64 0), .d (.int .i64 0), .d (.int .i64 0), .d (.int .i64 0), .acc 500025 (bs.map D.str), .xsl []]]), (12, srcO l a'), (500025, .acc bs.length)]⟩) := by
  obtain ⟨s, a1, hs, hb⟩ := body_ok l a hL
  obtain ⟨bs2, a2, h3, h5, h4⟩ := be_loop l hL ([s], a1, k - 1) ⟨by simp only [List.length_singleton]; omega, fun b hb => by rw [List.mem_singleton.1 hb]; exact hs⟩
  simp only [List.length_singleton] at h3
  refine ⟨bs2, a2, by omega, h5, ?_⟩
  have e : ((k - 1 : Nat) : Int) = (k : Int) - 1 := by omega
  simp only [beS, e] at h4
  simp only [Int.natCast_add, Int.natCast_one, Int.natCast_zero, Int.natCast_mul, Int.cast_ofNat_Int, List.length_append, List.length_map, List.map_nil, List.length_nil, List.map_append, List.map_cons, List.length_cons, Nat.zero_add, srcO] at h4 hb
  rw [loopL_eq]
  generalize hF : loopL G [] l_law17_BatchEntries_0 = F at h4 ⊢
  simp only [l_law17_BatchEntries_0]
  simp -implicitDefEqProofs (disch := omega) only [wr, or_self, or_false, false_or, true_or, or_true, false_and, and_false, Int.natCast_mul, Int.cast_ofNat_Int, Int.natCast_zero, List.length_append, lim_eq, wu64, wu32, wu8, Bool.true_beq, Bool.false_beq, beqT, beqF, Int.natCast_add, Int.natCast_one, ltT, ltF, leT, leF, eqT, eqF, lenLtT, lenLtF, lenLeT, addLeT, lenEqT, mapGet, Int.toNat_natCast, Int.natCast_nonneg, List.length_map, go_sem, ↓reduceIte, reduceCtorEq, Nat.reduceEqDiff, Nat.reduceAdd, Nat.reduceBEq, Nat.reduceMul, Nat.reduceLeDiff, Nat.reduceSub, Nat.reduceLT, Nat.reduceDiv, Nat.reduceMod, List.reduceReplicate, Int.reduceEq, Int.reduceLT, Int.reduceLE, Int.reduceAdd, Int.reduceSub, Int.reduceMul, Int.reduceNeg, Int.reduceToNat, hb, allSize_strs]
  exact h4
/-- What the loop over the entries meets. -/
def beT (i : Invocation) (s : Setup) (rs : List Result) (done : Bool) (e : Int) : Task := { startT 3 i s 7 with entry := rs.length, results := rs, done := done, ended := e }
structure BE where
  rs : List Result
  a : Nat
  done : Bool
  e : Int

theorem be_entriesA (l : List Int) (hL : l.length ≤ 4000) (s : Setup) (bs : List (List UInt8)) (h1 : 1 ≤ bs.length) (h2 : bs.length ≤ 6)  : ∀ p : BE, (p.rs.length ≤ bs.length) ∧ p.done = decide (p.rs.length = bs.length) → loopL G [] l_law17_BatchEntries_1 ⟨[(3, .ref 12 0 0), (4, .ref 4 0 0), (6, .ref 6 0 0), (8, .d (.int .i64 bs.length)), (9, .d (.int .i64 (((p.rs.length + 1 : Nat) : Int))))], [(4, .row [.agg [.d (.int .i64 1), .d (.int .i64 0), .d (.int .i64 0), .d (.int .i64 0), .d (.int .i64 0), .d (.int .i64 0), .acc 500025 (bs.map D.str), .xsl []]]), (6, .row [.d (eTask (beT (invB bs [] 1) s p.rs p.done p.e))]), (12, srcO l p.a), (500025, .frz (some bs.length))]⟩ = some (.exit 2, ⟨[], [(500025, .frz (some bs.length))]⟩) := by
  refine loop_ind (fun p : BE => bs.length - p.rs.length) (fun p : BE => (p.rs.length ≤ bs.length) ∧ p.done = decide (p.rs.length = bs.length)) (fun p : BE => ⟨[(3, .ref 12 0 0), (4, .ref 4 0 0), (6, .ref 6 0 0), (8, .d (.int .i64 bs.length)), (9, .d (.int .i64 (((p.rs.length + 1 : Nat) : Int))))], [(4, .row [.agg [.d (.int .i64 1), .d (.int .i64 0), .d (.int .i64 0), .d (.int .i64 0), .d (.int .i64 0), .d (.int .i64 0), .acc 500025 (bs.map D.str), .xsl []]]), (6, .row [.d (eTask (beT (invB bs [] 1) s p.rs p.done p.e))]), (12, srcO l p.a), (500025, .frz (some bs.length))]⟩) _ fun ⟨rs, a, dn, e⟩ ⟨hk, hdn⟩ L ih => ?_
  simp only at hk hdn ih
  have hd0 : rs.length < bs.length → dn = false := fun h => by rw [hdn]; exact decide_eq_false (by omega)
  simp only [l_law17_BatchEntries_1]
  by_cases h0 : rs.length < bs.length
  · obtain rfl := hd0 h0
    have n1 := nD_in l a (n := 5) (by omega)
    have hne : ¬ rs.length = bs.length := by omega
    have hn := bNext_ok { beT (invB bs [] 1) s rs false e with pc := 5, loaded := 6, id := 7, slot := 8 } ⟨0, (rs.length : Int) + 1, [], [], 0, 0, nD l a 5⟩ (10 * ((rs.length : Int) + 1)) (by simp only [beT, startT]; omega) (by simp only [beT, startT]; omega)
    have hs := sameInv_self (invB bs [] 1) (by simp only [invB]; omega) (by simp [invB])
    have ht : entriesI (invB bs [] 1) = ((bs.length : Nat) : Int) := (by simp [entriesI, invB])
    have hi := ih ⟨rs ++ [⟨0, (rs.length : Int) + 1, [], [], 0, 0, nD l a 5⟩], (rawD l a).2, decide (rs.length + 1 = bs.length), if rs.length + 1 = bs.length then 10 * ((rs.length : Int) + 1) else e⟩ ⟨by simp only [List.length_append, List.length_singleton]; omega, by simp only [List.length_append, List.length_singleton]⟩ (by simp only [List.length_append, List.length_singleton]; omega)
    simp only [nextT, beT, startT, zTask, ht] at hn
    simp only [beT, startT, zTask] at hi ⊢
    simp only [eTask, eResult, eInvocation, invB, List.map_nil, List.map_append, List.map_cons] at hn hs hi ⊢
    have hg : (rs.map eResult ++ [D.agg [.int .i64 0, .int .i64 ((rs.length : Int) + 1), .sl [], .sl [], .int .i64 0, .int .i64 0, .int .i64 (nD l a 5)]])[rs.length]? = some (D.agg [.int .i64 0, .int .i64 ((rs.length : Int) + 1), .sl [], .sl [], .int .i64 0, .int .i64 0, .int .i64 (nD l a 5)]) := by
      rw [List.getElem?_append_right (by simp)]; simp
    have e7 : ((rs.length : Int) + 1 - 1).toNat = rs.length := by omega
    by_cases hd : rs.length + 1 = bs.length
    · have hd2 : ((rs.length : Int) + 1 = ((bs.length : Nat) : Int)) := by omega
      simp only [hd, hd2, if_true, decide_true] at hn hi
      simp only [Int.natCast_add, Int.natCast_one, Int.natCast_zero, Int.natCast_mul, Int.cast_ofNat_Int, List.length_append, List.length_map, List.map_nil, List.length_nil, List.map_append, List.map_cons, List.length_cons, Nat.zero_add, srcO] at hi hn
      have e8 : (((bs.length : Nat) : Int) - 1).toNat = rs.length := by omega
      simp only [hd2, Int.reduceMul, Int.reduceAdd] at hg hi hn
      have hgj : ∀ (x : D) (j : Nat), j = rs.length → (rs.map eResult ++ [x])[j]? = some x := fun x j hj => by rw [hj, List.getElem?_append_right (by simp)]; simp
      simp -implicitDefEqProofs (disch := omega) only [wr, or_self, or_false, false_or, true_or, or_true, false_and, and_false, Int.natCast_mul, Int.cast_ofNat_Int, Int.natCast_zero, List.length_append, lim_eq, wu64, wu32, wu8, Bool.true_beq, Bool.false_beq, beqT, beqF, Int.natCast_add, Int.natCast_one, ltT, ltF, leT, leF, eqT, eqF, lenLtT, lenLtF, lenLeT, addLeT, lenEqT, mapGet, Int.toNat_natCast, Int.natCast_nonneg, List.length_map, go_sem, ↓reduceIte, reduceCtorEq, Nat.reduceEqDiff, Nat.reduceAdd, Nat.reduceBEq, Nat.reduceMul, Nat.reduceLeDiff, Nat.reduceSub, Nat.reduceLT, Nat.reduceDiv, Nat.reduceMod, List.reduceReplicate, Int.reduceEq, Int.reduceLT, Int.reduceLE, Int.reduceAdd, Int.reduceSub, Int.reduceMul, Int.reduceNeg, Int.reduceToNat, n_ok, hn, hs, hg, hgj, e8, hne, hd, hd2, hi]
    · have hd2 : ¬ ((rs.length : Int) + 1 = ((bs.length : Nat) : Int)) := by omega
      simp only [hd, hd2, if_false, decide_false] at hn hi
      simp only [Int.natCast_add, Int.natCast_one, Int.natCast_zero, Int.natCast_mul, Int.cast_ofNat_Int, List.length_append, List.length_map, List.map_nil, List.length_nil, List.map_append, List.map_cons, List.length_cons, Nat.zero_add, srcO] at hi hn
      simp -implicitDefEqProofs (disch := omega) only [wr, or_self, or_false, false_or, true_or, or_true, false_and, and_false, Int.natCast_mul, Int.cast_ofNat_Int, Int.natCast_zero, List.length_append, lim_eq, wu64, wu32, wu8, Bool.true_beq, Bool.false_beq, beqT, beqF, Int.natCast_add, Int.natCast_one, ltT, ltF, leT, leF, eqT, eqF, lenLtT, lenLtF, lenLeT, addLeT, lenEqT, mapGet, Int.toNat_natCast, Int.natCast_nonneg, List.length_map, go_sem, ↓reduceIte, reduceCtorEq, Nat.reduceEqDiff, Nat.reduceAdd, Nat.reduceBEq, Nat.reduceMul, Nat.reduceLeDiff, Nat.reduceSub, Nat.reduceLT, Nat.reduceDiv, Nat.reduceMod, List.reduceReplicate, Int.reduceEq, Int.reduceLT, Int.reduceLE, Int.reduceAdd, Int.reduceSub, Int.reduceMul, Int.reduceNeg, Int.reduceToNat, n_ok, hn, hs, hg, e7, hne, hd, hd2, hi]
  · simp -implicitDefEqProofs (disch := omega) only [wr, or_self, or_false, false_or, true_or, or_true, false_and, and_false, Int.natCast_mul, Int.cast_ofNat_Int, Int.natCast_zero, List.length_append, lim_eq, wu64, wu32, wu8, Bool.true_beq, Bool.false_beq, beqT, beqF, Int.natCast_add, Int.natCast_one, ltT, ltF, leT, leF, eqT, eqF, lenLtT, lenLtF, lenLeT, addLeT, lenEqT, mapGet, Int.toNat_natCast, Int.natCast_nonneg, List.length_map, go_sem, ↓reduceIte, reduceCtorEq, Nat.reduceEqDiff, Nat.reduceAdd, Nat.reduceBEq, Nat.reduceMul, Nat.reduceLeDiff, Nat.reduceSub, Nat.reduceLT, Nat.reduceDiv, Nat.reduceMod, List.reduceReplicate, Int.reduceEq, Int.reduceLT, Int.reduceLE, Int.reduceAdd, Int.reduceSub, Int.reduceMul, Int.reduceNeg, Int.reduceToNat, Nat.zero_add]

theorem be_entriesB (l : List Int) (hL : l.length ≤ 4000) (s : Setup) (kd : Int) (h1 : 3 ≤ kd) (h2 : kd ≤ 5)  : ∀ p : BE, (p.rs.length ≤ 2) ∧ p.done = decide (p.rs.length = 2) → loopL G [] l_law17_BatchEntries_1 ⟨[(3, .ref 12 0 0), (4, .ref 4 0 0), (6, .ref 6 0 0), (8, .d (.int .i64 2)), (9, .d (.int .i64 (((p.rs.length + 1 : Nat) : Int))))], [(4, .row [.agg [.d (.int .i64 kd), .d (.int .i64 0), .d (.int .i64 0), .d (.int .i64 0), .d (.int .i64 0), .d (.int .i64 0), .xsl [], .xsl [eBytes [1], eBytes [2]]]]), (6, .row [.d (eTask (beT (invB [] [[1], [2]] kd) s p.rs p.done p.e))]), (12, srcO l p.a)]⟩ = some (.exit 2, ⟨[], []⟩) := by
  refine loop_ind (fun p : BE => 2 - p.rs.length) (fun p : BE => (p.rs.length ≤ 2) ∧ p.done = decide (p.rs.length = 2)) (fun p : BE => ⟨[(3, .ref 12 0 0), (4, .ref 4 0 0), (6, .ref 6 0 0), (8, .d (.int .i64 2)), (9, .d (.int .i64 (((p.rs.length + 1 : Nat) : Int))))], [(4, .row [.agg [.d (.int .i64 kd), .d (.int .i64 0), .d (.int .i64 0), .d (.int .i64 0), .d (.int .i64 0), .d (.int .i64 0), .xsl [], .xsl [eBytes [1], eBytes [2]]]]), (6, .row [.d (eTask (beT (invB [] [[1], [2]] kd) s p.rs p.done p.e))]), (12, srcO l p.a)]⟩) _ fun ⟨rs, a, dn, e⟩ ⟨hk, hdn⟩ L ih => ?_
  simp only at hk hdn ih
  have hd0 : rs.length < 2 → dn = false := fun h => by rw [hdn]; exact decide_eq_false (by omega)
  simp only [l_law17_BatchEntries_1]
  by_cases h0 : rs.length < 2
  · obtain rfl := hd0 h0
    have n1 := nD_in l a (n := 5) (by omega)
    have hne : ¬ rs.length = 2 := by omega
    have hn := bNext_ok { beT (invB [] [[1], [2]] kd) s rs false e with pc := 5, loaded := 6, id := 7, slot := 8 } ⟨0, (rs.length : Int) + 1, [], [], 0, 0, nD l a 5⟩ (10 * ((rs.length : Int) + 1)) (by simp only [beT, startT]; omega) (by simp only [beT, startT]; omega)
    have hs := sameInv_self (invB [] [[1], [2]] kd) (by simp [invB]) (by simp [invB])
    have ht : entriesI (invB [] [[1], [2]] kd) = (2 : Int) := (have q1 : ¬ kd = 1 := (by omega); have q3 : kd = 3 ∨ kd = 4 ∨ kd = 5 := (by omega); by simp [entriesI, invB, q1, q3])
    have hi := ih ⟨rs ++ [⟨0, (rs.length : Int) + 1, [], [], 0, 0, nD l a 5⟩], (rawD l a).2, decide (rs.length + 1 = 2), if rs.length + 1 = 2 then 10 * ((rs.length : Int) + 1) else e⟩ ⟨by simp only [List.length_append, List.length_singleton]; omega, by simp only [List.length_append, List.length_singleton]⟩ (by simp only [List.length_append, List.length_singleton]; omega)
    simp only [nextT, beT, startT, zTask, ht] at hn
    simp only [beT, startT, zTask] at hi ⊢
    simp only [eTask, eResult, eInvocation, invB, List.map_nil, List.map_append, List.map_cons] at hn hs hi ⊢
    have hg : (rs.map eResult ++ [D.agg [.int .i64 0, .int .i64 ((rs.length : Int) + 1), .sl [], .sl [], .int .i64 0, .int .i64 0, .int .i64 (nD l a 5)]])[rs.length]? = some (D.agg [.int .i64 0, .int .i64 ((rs.length : Int) + 1), .sl [], .sl [], .int .i64 0, .int .i64 0, .int .i64 (nD l a 5)]) := by
      rw [List.getElem?_append_right (by simp)]; simp
    have e7 : ((rs.length : Int) + 1 - 1).toNat = rs.length := by omega
    by_cases hd : rs.length + 1 = 2
    · have hd2 : ((rs.length : Int) + 1 = (2 : Int)) := by omega
      simp only [hd, hd2, if_true, decide_true] at hn hi
      simp only [Int.natCast_add, Int.natCast_one, Int.natCast_zero, Int.natCast_mul, Int.cast_ofNat_Int, List.length_append, List.length_map, List.map_nil, List.length_nil, List.map_append, List.map_cons, List.length_cons, Nat.zero_add, srcO] at hi hn
      have e8 : ((2 : Int) - 1).toNat = rs.length := by omega
      simp only [hd2, Int.reduceMul, Int.reduceAdd] at hg hi hn
      have hgj : ∀ (x : D) (j : Nat), j = rs.length → (rs.map eResult ++ [x])[j]? = some x := fun x j hj => by rw [hj, List.getElem?_append_right (by simp)]; simp
      simp -implicitDefEqProofs (disch := omega) only [wr, or_self, or_false, false_or, true_or, or_true, false_and, and_false, Int.natCast_mul, Int.cast_ofNat_Int, Int.natCast_zero, List.length_append, lim_eq, wu64, wu32, wu8, Bool.true_beq, Bool.false_beq, beqT, beqF, Int.natCast_add, Int.natCast_one, ltT, ltF, leT, leF, eqT, eqF, lenLtT, lenLtF, lenLeT, addLeT, lenEqT, mapGet, Int.toNat_natCast, Int.natCast_nonneg, List.length_map, go_sem, ↓reduceIte, reduceCtorEq, Nat.reduceEqDiff, Nat.reduceAdd, Nat.reduceBEq, Nat.reduceMul, Nat.reduceLeDiff, Nat.reduceSub, Nat.reduceLT, Nat.reduceDiv, Nat.reduceMod, List.reduceReplicate, Int.reduceEq, Int.reduceLT, Int.reduceLE, Int.reduceAdd, Int.reduceSub, Int.reduceMul, Int.reduceNeg, Int.reduceToNat, n_ok, hn, hs, hg, hgj, e8, hne, hd, hd2, hi]
    · have hd2 : ¬ ((rs.length : Int) + 1 = (2 : Int)) := by omega
      simp only [hd, hd2, if_false, decide_false] at hn hi
      simp only [Int.natCast_add, Int.natCast_one, Int.natCast_zero, Int.natCast_mul, Int.cast_ofNat_Int, List.length_append, List.length_map, List.map_nil, List.length_nil, List.map_append, List.map_cons, List.length_cons, Nat.zero_add, srcO] at hi hn
      simp -implicitDefEqProofs (disch := omega) only [wr, or_self, or_false, false_or, true_or, or_true, false_and, and_false, Int.natCast_mul, Int.cast_ofNat_Int, Int.natCast_zero, List.length_append, lim_eq, wu64, wu32, wu8, Bool.true_beq, Bool.false_beq, beqT, beqF, Int.natCast_add, Int.natCast_one, ltT, ltF, leT, leF, eqT, eqF, lenLtT, lenLtF, lenLeT, addLeT, lenEqT, mapGet, Int.toNat_natCast, Int.natCast_nonneg, List.length_map, go_sem, ↓reduceIte, reduceCtorEq, Nat.reduceEqDiff, Nat.reduceAdd, Nat.reduceBEq, Nat.reduceMul, Nat.reduceLeDiff, Nat.reduceSub, Nat.reduceLT, Nat.reduceDiv, Nat.reduceMod, List.reduceReplicate, Int.reduceEq, Int.reduceLT, Int.reduceLE, Int.reduceAdd, Int.reduceSub, Int.reduceMul, Int.reduceNeg, Int.reduceToNat, n_ok, hn, hs, hg, e7, hne, hd, hd2, hi]
  · simp -implicitDefEqProofs (disch := omega) only [wr, or_self, or_false, false_or, true_or, or_true, false_and, and_false, Int.natCast_mul, Int.cast_ofNat_Int, Int.natCast_zero, List.length_append, lim_eq, wu64, wu32, wu8, Bool.true_beq, Bool.false_beq, beqT, beqF, Int.natCast_add, Int.natCast_one, ltT, ltF, leT, leF, eqT, eqF, lenLtT, lenLtF, lenLeT, addLeT, lenEqT, mapGet, Int.toNat_natCast, Int.natCast_nonneg, List.length_map, go_sem, ↓reduceIte, reduceCtorEq, Nat.reduceEqDiff, Nat.reduceAdd, Nat.reduceBEq, Nat.reduceMul, Nat.reduceLeDiff, Nat.reduceSub, Nat.reduceLT, Nat.reduceDiv, Nat.reduceMod, List.reduceReplicate, Int.reduceEq, Int.reduceLT, Int.reduceLE, Int.reduceAdd, Int.reduceSub, Int.reduceMul, Int.reduceNeg, Int.reduceToNat, Nat.zero_add]

theorem entriesLaw_ok (l : List Int) (hL : l.length ≤ LIM) : callL G N_law17_BatchEntries [.d (.sl (ints l))] [] = some (.d (.bool true), []) := by
  have hl4 : (l.take 4000).length ≤ 4000 := by simp; omega
  obtain ⟨t, ht⟩ : ∃ t, t = l.take 4000 := ⟨_, rfl⟩
  have hnew := new_ok l hL
  rw [← ht] at hl4 hnew
  have n1 := nD_in t 0 (n := 6 - 1 + 1) (by omega)
  obtain ⟨k, hk⟩ : ∃ k : Nat, 1 + nD t 0 (6 - 1 + 1) = k := ⟨(1 + nD t 0 (6 - 1 + 1)).toNat, by omega⟩
  obtain ⟨bs, a1, hbl, hbs, hf⟩ := be_first t hl4 (rawD t 0).2 k (by omega) (by omega)
  have n2 := nD_in t a1 (n := 2) (by omega)
  have r0 := range_ok t 0 1 6 hl4 (by omega) (by omega) (by omega) (by omega)
  simp only [Int.reduceSub, Int.reduceAdd] at hk r0 n1
  rw [hk] at r0
  simp only [Int.natCast_add, Int.natCast_one, Int.natCast_zero, Int.natCast_mul, Int.cast_ofNat_Int, List.length_append, List.length_map, List.map_nil, List.length_nil, List.map_append, List.map_cons, List.length_cons, Nat.zero_add, srcO] at r0
  by_cases c1 : nD t a1 2 = 0
  · have n3 := nD_in t (rawD t a1).2 (n := 5 - 3 + 1) (by omega)
    obtain ⟨kd, hkd⟩ : ∃ kd, kd = 3 + nD t (rawD t a1).2 (5 - 3 + 1) := ⟨_, rfl⟩
    obtain ⟨s, a2, hs, hs4, hsu⟩ := setup_ok t (rawD t (rawD t a1).2).2 hl4
    have hst := bStart_ok 3 (invB [] [[1], [2]] kd) s 7 (by simp [invB]) (by simp [invB])
    have hv : batchV (invB [] [[1], [2]] kd) s = 0 := by
      have : kd = 3 ∨ kd = 4 ∨ kd = 5 := by omega
      rcases this with e | e | e <;> rw [e] <;> rfl
    have hb : batchStart 3 (invB [] [[1], [2]] kd) s 7 = (startT 3 (invB [] [[1], [2]] kd) s 7, 0) := by
      unfold batchStart
      rw [hv, hs]
      rfl
    rw [hb] at hst
    have he := refEntries_ok (invB [] [[1], [2]] kd)
    have he2 : entriesI (invB [] [[1], [2]] kd) = 2 := (have q1 : ¬ kd = 1 := (by omega); have q3 : kd = 3 ∨ kd = 4 ∨ kd = 5 := (by omega); by simp [entriesI, invB, q1, q3])
    rw [he2] at he
    have hlp := be_entriesB t hl4 s kd (by omega) (by omega) ⟨[], a2, false, 0⟩ ⟨by simp, by simp⟩
    simp only [beT, startT, zTask, eTask, eInvocation, eSetup, invB, List.map_nil, List.map_cons, List.length_nil, Int.reduceSub, Int.reduceAdd] at hst he hlp hsu hkd
    simp only [show eBytes [1] = D.sl [.int .u8 1] from rfl, show eBytes [2] = D.sl [.int .u8 2] from rfl] at hst he hlp
    simp only [Int.natCast_add, Int.natCast_one, Int.natCast_zero, Int.natCast_mul, Int.cast_ofNat_Int, List.length_append, List.length_map, List.map_nil, List.length_nil, List.map_append, List.map_cons, List.length_cons, Nat.zero_add, srcO] at hlp hf hnew hsu hst he
    rw [callL_code g_law17_BatchEntries (by simp)]; simp -implicitDefEqProofs (disch := omega) only [c_law17_BatchEntries, r_law17_BatchEntries, wr, or_self, or_false, false_or, true_or, or_true, false_and, and_false, Int.natCast_mul, Int.cast_ofNat_Int, Int.natCast_zero, List.length_append, lim_eq, wu64, wu32, wu8, Bool.true_beq, Bool.false_beq, beqT, beqF, Int.natCast_add, Int.natCast_one, ltT, ltF, leT, leF, eqT, eqF, lenLtT, lenLtF, lenLeT, addLeT, lenEqT, mapGet, Int.toNat_natCast, Int.natCast_nonneg, List.length_map, go_sem, ↓reduceIte, reduceCtorEq, Nat.reduceEqDiff, Nat.reduceAdd, Nat.reduceBEq, Nat.reduceMul, Nat.reduceLeDiff, Nat.reduceSub, Nat.reduceLT, Nat.reduceDiv, Nat.reduceMod, List.reduceReplicate, Int.reduceEq, Int.reduceLT, Int.reduceLE, Int.reduceAdd, Int.reduceSub, Int.reduceMul, Int.reduceNeg, Int.reduceToNat, hnew, r0, range_ok, n_ok, hk, hf, c1, ← hkd, hsu, hst, he, hlp, awake17_ok]
  · obtain ⟨s, a2, hs, hs4, hsu⟩ := setup_ok t (rawD t a1).2 hl4
    have hst := bStart_ok 3 (invB bs [] 1) s 7 (by simp only [invB]; omega) (by simp [invB])
    have hb : batchStart 3 (invB bs [] 1) s 7 = (startT 3 (invB bs [] 1) s 7, 0) := by
      have hv : batchV (invB bs [] 1) s = 0 := by
        have q1 : inB bs.length 1 6 = true := by simp only [inB, Bool.and_eq_true, decide_eq_true_eq]; omega
        have q2 : bs.any longB = false := List.any_eq_false.2 (fun b hb => by have := hbs b hb; simp only [longB, decide_eq_true_eq]; omega)
        unfold batchV
        rw [if_pos (show (invB bs [] 1).kind = 1 from rfl)]
        exact if_pos ⟨q1, q2⟩
      unfold batchStart
      rw [hv, hs]
      rfl
    rw [hb] at hst
    have he := refEntries_ok (invB bs [] 1)
    have he2 : entriesI (invB bs [] 1) = bs.length := by simp [entriesI, invB]
    rw [he2] at he
    have hlp := be_entriesA t hl4 s bs (by omega) (by omega) ⟨[], a2, false, 0⟩ ⟨by simp, by simp only [List.length_nil]; exact (decide_eq_false (by omega)).symm⟩
    simp only [beT, startT, zTask, eTask, eInvocation, eSetup, invB, List.map_nil, List.map_cons, List.length_nil, Int.reduceSub, Int.reduceAdd] at hst he hlp hsu
    simp only [Int.natCast_add, Int.natCast_one, Int.natCast_zero, Int.natCast_mul, Int.cast_ofNat_Int, List.length_append, List.length_map, List.map_nil, List.length_nil, List.map_append, List.map_cons, List.length_cons, Nat.zero_add, srcO] at hlp hf hnew hsu hst he
    rw [callL_code g_law17_BatchEntries (by simp)]; simp -implicitDefEqProofs (disch := omega) only [c_law17_BatchEntries, r_law17_BatchEntries, wr, or_self, or_false, false_or, true_or, or_true, false_and, and_false, Int.natCast_mul, Int.cast_ofNat_Int, Int.natCast_zero, List.length_append, lim_eq, wu64, wu32, wu8, Bool.true_beq, Bool.false_beq, beqT, beqF, Int.natCast_add, Int.natCast_one, ltT, ltF, leT, leF, eqT, eqF, lenLtT, lenLtF, lenLeT, addLeT, lenEqT, mapGet, Int.toNat_natCast, Int.natCast_nonneg, List.length_map, go_sem, ↓reduceIte, reduceCtorEq, Nat.reduceEqDiff, Nat.reduceAdd, Nat.reduceBEq, Nat.reduceMul, Nat.reduceLeDiff, Nat.reduceSub, Nat.reduceLT, Nat.reduceDiv, Nat.reduceMod, List.reduceReplicate, Int.reduceEq, Int.reduceLT, Int.reduceLE, Int.reduceAdd, Int.reduceSub, Int.reduceMul, Int.reduceNeg, Int.reduceToNat, hnew, r0, range_ok, n_ok, hf, c1, hsu, hst, he, hlp, awake17_ok]
end Go.Proofs.Ytlphhhmicdjljaa
