/-
  Batches: the sanity check, and the law of limits.
-/
import Derived.Test.YtlphhhmicdjljaaRF8
namespace Go.Proofs.Ytlphhhmicdjljaa
open Go Go.Sim
set_option linter.unusedSimpArgs false
set_option linter.unusedVariables false
set_option maxHeartbeats 10000000
set_option maxRecDepth 40000
def invS : Invocation := ⟨1, 0, 0, 0, 0, 0, [[97], [98]], []⟩
def setupA : Setup := ⟨1, 1, 1, 1, 1, 0, 1, 0⟩
theorem awake17_ok : callL G N_law17_awake [] [] = some (.d (.bool true), []) := by
  have h1 := bStart_ok 1 invS setupA 0 (by decide) (by decide)
  have e : batchStart 1 invS setupA 0 = (startT 1 invS setupA 0, 0) := by decide
  rw [e] at h1
  have h2 := bNext_ok (startT 1 invS setupA 0) ⟨0, 1, [], [], 0, 0, 0⟩ 5 (by decide) (by decide)
  have h3 := entries_ok invS
  have e2 : entriesI invS = 2 := by decide
  rw [e2] at h3
  simp only [nextT, startT, zTask, eTask, eInvocation, eSetup, eResult, invS, setupA, List.map_cons, List.map_nil, entriesI, List.length_cons, List.length_nil, if_true, if_false, Int.reduceEq, Int.reduceAdd, Nat.reduceAdd, List.nil_append, Int.cast_ofNat_Int, Nat.zero_add] at h1 h2 h3
  rw [callL_code g_law17_awake (by simp)]; simp -implicitDefEqProofs (disch := omega) only [c_law17_awake, r_law17_awake, wr, or_self, or_false, false_or, true_or, or_true, false_and, and_false, Int.natCast_mul, Int.cast_ofNat_Int, Int.natCast_zero, List.length_append, lim_eq, wu64, wu32, wu8, Bool.true_beq, Bool.false_beq, beqT, beqF, Int.natCast_add, Int.natCast_one, ltT, ltF, leT, leF, eqT, eqF, lenLtT, lenLtF, lenLeT, addLeT, lenEqT, mapGet, Int.toNat_natCast, Int.natCast_nonneg, List.length_map, go_sem, ↓reduceIte, reduceCtorEq, Nat.reduceEqDiff, Nat.reduceAdd, Nat.reduceBEq, Nat.reduceMul, Nat.reduceLeDiff, Nat.reduceSub, Nat.reduceLT, Nat.reduceDiv, Nat.reduceMod, List.reduceReplicate, Int.reduceEq, Int.reduceLT, Int.reduceLE, Int.reduceAdd, Int.reduceSub, Int.reduceMul, Int.reduceNeg, Int.reduceToNat, h1, h2, h3]
def two (live cap lim : Int) : Setup := ⟨2, live, cap, 3, lim, 0, 1, 0⟩
theorem two_ok (live cap lim : Int) : callL G N_base_Two [.d (.int .i64 live), .d (.int .i64 cap), .d (.int .i64 lim)] [] = some (.d (eSetup (two live cap lim)), []) := by
  simp only [eSetup, two]
  rw [callL_code g_base_Two (by simp)]; simp -implicitDefEqProofs (disch := omega) only [c_base_Two, r_base_Two, wr, or_self, or_false, false_or, true_or, or_true, false_and, and_false, Int.natCast_mul, Int.cast_ofNat_Int, Int.natCast_zero, List.length_append, lim_eq, wu64, wu32, wu8, Bool.true_beq, Bool.false_beq, beqT, beqF, Int.natCast_add, Int.natCast_one, ltT, ltF, leT, leF, eqT, eqF, lenLtT, lenLtF, lenLeT, addLeT, lenEqT, mapGet, Int.toNat_natCast, Int.natCast_nonneg, List.length_map, go_sem, ↓reduceIte, reduceCtorEq, Nat.reduceEqDiff, Nat.reduceAdd, Nat.reduceBEq, Nat.reduceMul, Nat.reduceLeDiff, Nat.reduceSub, Nat.reduceLT, Nat.reduceDiv, Nat.reduceMod, List.reduceReplicate, Int.reduceEq, Int.reduceLT, Int.reduceLE, Int.reduceAdd, Int.reduceSub, Int.reduceMul, Int.reduceNeg, Int.reduceToNat, Nat.zero_add]
def limS (u : Go.Sim.Obj) (m : Int) (k : Nat) : St := ⟨[(3, .ref 3 0 0), (4, .d (.int .i64 m)), (5, .acc 5 ((List.replicate k [98]).map D.str)), (6, .acc 6 ((List.replicate k [1]).map eBytes)), (7, .d (.int .i64 k))], [(3, u), (5, .acc k), (6, .acc k)]⟩
theorem lim_loop (n : Nat) (hn : n ≤ 8) (m : Int) (hm : 6 + m = n) (x : D) : ∀ k, k ≤ n → loopL G [] l_law17_BatchLimits_0 (limS (.row [.d x]) m k) = some (.exit 0, ⟨[(3, .ref 3 0 0), (4, .d (.int .i64 m)), (5, .acc 5 ((List.replicate n [98]).map D.str)), (6, .acc 6 ((List.replicate n [1]).map eBytes))], [(3, .row [.d x]), (5, .acc n), (6, .acc n)]⟩) := by
  refine loop_ind (fun k => n - k) (fun k => k ≤ n) (limS (.row [.d x]) m) _ fun k hk L ih => ?_
  simp only [limS] at ih ⊢
  simp only [l_law17_BatchLimits_0]
  by_cases h0 : k < n
  · have := ih (k + 1) (by omega) (by omega)
    rw [List.replicate_succ', List.replicate_succ'] at this
    obtain ⟨bs, hbs⟩ : ∃ bs, bs = List.replicate k ([98] : List UInt8) := ⟨_, rfl⟩
    obtain ⟨ts, hts⟩ : ∃ ts, ts = List.replicate k ([1] : List UInt8) := ⟨_, rfl⟩
    have hbl : bs.length = k := by rw [hbs, List.length_replicate]
    have htl : ts.length = k := by rw [hts, List.length_replicate]
    rw [← hbs, ← hts] at this ⊢
    simp only [List.map_append, List.map_cons, List.map_nil, show eBytes [1] = D.sl [.int .u8 1] from rfl] at this
    simp only [Int.natCast_add, Int.natCast_one, Int.natCast_zero, Int.natCast_mul, Int.cast_ofNat_Int, List.length_append, List.length_map, List.map_nil, List.length_nil, List.map_append, List.map_cons, List.length_cons, Nat.zero_add, srcO] at this
    simp -implicitDefEqProofs (disch := omega) only [wr, or_self, or_false, false_or, true_or, or_true, false_and, and_false, Int.natCast_mul, Int.cast_ofNat_Int, Int.natCast_zero, List.length_append, lim_eq, wu64, wu32, wu8, Bool.true_beq, Bool.false_beq, beqT, beqF, Int.natCast_add, Int.natCast_one, ltT, ltF, leT, leF, eqT, eqF, lenLtT, lenLtF, lenLeT, addLeT, lenEqT, mapGet, Int.toNat_natCast, Int.natCast_nonneg, List.length_map, go_sem, ↓reduceIte, reduceCtorEq, Nat.reduceEqDiff, Nat.reduceAdd, Nat.reduceBEq, Nat.reduceMul, Nat.reduceLeDiff, Nat.reduceSub, Nat.reduceLT, Nat.reduceDiv, Nat.reduceMod, List.reduceReplicate, Int.reduceEq, Int.reduceLT, Int.reduceLE, Int.reduceAdd, Int.reduceSub, Int.reduceMul, Int.reduceNeg, Int.reduceToNat, hbl, htl, allSize_strs, allSize_bytes, this]
  · have : k = n := by omega
    subst this
    simp -implicitDefEqProofs (disch := omega) only [wr, or_self, or_false, false_or, true_or, or_true, false_and, and_false, Int.natCast_mul, Int.cast_ofNat_Int, Int.natCast_zero, List.length_append, lim_eq, wu64, wu32, wu8, Bool.true_beq, Bool.false_beq, beqT, beqF, Int.natCast_add, Int.natCast_one, ltT, ltF, leT, leF, eqT, eqF, lenLtT, lenLtF, lenLeT, addLeT, lenEqT, mapGet, Int.toNat_natCast, Int.natCast_nonneg, List.length_map, go_sem, ↓reduceIte, reduceCtorEq, Nat.reduceEqDiff, Nat.reduceAdd, Nat.reduceBEq, Nat.reduceMul, Nat.reduceLeDiff, Nat.reduceSub, Nat.reduceLT, Nat.reduceDiv, Nat.reduceMod, List.reduceReplicate, Int.reduceEq, Int.reduceLT, Int.reduceLE, Int.reduceAdd, Int.reduceSub, Int.reduceMul, Int.reduceNeg, Int.reduceToNat, Nat.zero_add]
def invB (bs ts : List (List UInt8)) (kd : Int) : Invocation := ⟨kd, 0, 0, 0, 0, 0, bs, ts⟩
def longS : List UInt8 := [48, 49, 50, 51, 52, 53, 54, 55, 56, 57, 97, 98, 99, 100, 101, 102, 48]
theorem limits_ok (n : Nat) (hn : n < 256) : callL G N_law17_BatchLimits [.d (.int .u8 n)] [] = some (.d (.bool true), []) := by
  have hu := two_ok 1 2 1
  have e0 : ((n : Int).tmod 3) = ((n % 3 : Nat) : Int) := by rw [tmodE (by omega)]; omega
  have hc : n % 3 = 0 ∨ n % 3 = 1 ∨ n % 3 = 2 := by omega
  have w8 : ∀ k : Nat, k < 3 → IntKind.i64.wrap (k : Int) = k := fun k hk => wr (by omega)
  rcases hc with hc | hc | hc
  · have hl := lim_loop 5 (by omega) (-1) (by omega) (eSetup (two 1 2 1)) 0 (by omega)
    have v1 := bVal_ok (invB (List.replicate 5 [98]) [] 1) (two 1 2 1) (by decide) (by decide)
    have v2 := bVal_ok (invB [] (List.replicate 5 [1]) 4) (two 1 2 1) (by decide) (by decide)
    have v3 := bVal_ok (invB [longS.take 15] [] 1) (two 1 2 1) (by decide) (by decide)
    have v4 := bStart_ok 199 (invB [] [] 6) (two 1 2 1) 0 (by decide) (by decide)
    rw [show batchV (invB (List.replicate 5 [98]) [] 1) (two 1 2 1) = 0 by decide] at v1
    rw [show batchV (invB [] (List.replicate 5 [1]) 4) (two 1 2 1) = 0 by decide] at v2
    rw [show batchV (invB [longS.take 15] [] 1) (two 1 2 1) = 0 by decide] at v3
    rw [show batchStart 199 (invB [] [] 6) (two 1 2 1) 0 = (startT 199 (invB [] [] 6) (two 1 2 1) 0, 0) by decide] at v4
    simp only [invB, eInvocation, eSetup, two, startT, zTask, eTask, List.reduceReplicate, List.map_nil, List.map_cons, limS, List.replicate_zero, longS, List.take_succ_cons, List.take_zero] at hl v1 v2 v3 v4 hu
    simp only [Int.natCast_add, Int.natCast_one, Int.natCast_zero, Int.natCast_mul, Int.cast_ofNat_Int, List.length_append, List.length_map, List.map_nil, List.length_nil, List.map_append, List.map_cons, List.length_cons, Nat.zero_add, srcO] at hl
    rw [hc] at e0
    rw [callL_code g_law17_BatchLimits (by simp)]; simp -implicitDefEqProofs (disch := omega) only [c_law17_BatchLimits, r_law17_BatchLimits, wr, or_self, or_false, false_or, true_or, or_true, false_and, and_false, Int.natCast_mul, Int.cast_ofNat_Int, Int.natCast_zero, List.length_append, lim_eq, wu64, wu32, wu8, Bool.true_beq, Bool.false_beq, beqT, beqF, Int.natCast_add, Int.natCast_one, ltT, ltF, leT, leF, eqT, eqF, lenLtT, lenLtF, lenLeT, addLeT, lenEqT, mapGet, Int.toNat_natCast, Int.natCast_nonneg, List.length_map, go_sem, ↓reduceIte, reduceCtorEq, Nat.reduceEqDiff, Nat.reduceAdd, Nat.reduceBEq, Nat.reduceMul, Nat.reduceLeDiff, Nat.reduceSub, Nat.reduceLT, Nat.reduceDiv, Nat.reduceMod, List.reduceReplicate, Int.reduceEq, Int.reduceLT, Int.reduceLE, Int.reduceAdd, Int.reduceSub, Int.reduceMul, Int.reduceNeg, Int.reduceToNat, hu, e0, hl, v1, v2, v3, v4, awake17_ok]
  · have hl := lim_loop 6 (by omega) (0) (by omega) (eSetup (two 1 2 1)) 0 (by omega)
    have v1 := bVal_ok (invB (List.replicate 6 [98]) [] 1) (two 1 2 1) (by decide) (by decide)
    have v2 := bVal_ok (invB [] (List.replicate 6 [1]) 4) (two 1 2 1) (by decide) (by decide)
    have v3 := bVal_ok (invB [longS.take 16] [] 1) (two 1 2 1) (by decide) (by decide)
    have v4 := bStart_ok 200 (invB [] [] 6) (two 1 2 1) 0 (by decide) (by decide)
    rw [show batchV (invB (List.replicate 6 [98]) [] 1) (two 1 2 1) = 0 by decide] at v1
    rw [show batchV (invB [] (List.replicate 6 [1]) 4) (two 1 2 1) = 0 by decide] at v2
    rw [show batchV (invB [longS.take 16] [] 1) (two 1 2 1) = 0 by decide] at v3
    rw [show batchStart 200 (invB [] [] 6) (two 1 2 1) 0 = (startT 200 (invB [] [] 6) (two 1 2 1) 0, 0) by decide] at v4
    simp only [invB, eInvocation, eSetup, two, startT, zTask, eTask, List.reduceReplicate, List.map_nil, List.map_cons, limS, List.replicate_zero, longS, List.take_succ_cons, List.take_zero] at hl v1 v2 v3 v4 hu
    simp only [Int.natCast_add, Int.natCast_one, Int.natCast_zero, Int.natCast_mul, Int.cast_ofNat_Int, List.length_append, List.length_map, List.map_nil, List.length_nil, List.map_append, List.map_cons, List.length_cons, Nat.zero_add, srcO] at hl
    rw [hc] at e0
    rw [callL_code g_law17_BatchLimits (by simp)]; simp -implicitDefEqProofs (disch := omega) only [c_law17_BatchLimits, r_law17_BatchLimits, wr, or_self, or_false, false_or, true_or, or_true, false_and, and_false, Int.natCast_mul, Int.cast_ofNat_Int, Int.natCast_zero, List.length_append, lim_eq, wu64, wu32, wu8, Bool.true_beq, Bool.false_beq, beqT, beqF, Int.natCast_add, Int.natCast_one, ltT, ltF, leT, leF, eqT, eqF, lenLtT, lenLtF, lenLeT, addLeT, lenEqT, mapGet, Int.toNat_natCast, Int.natCast_nonneg, List.length_map, go_sem, ↓reduceIte, reduceCtorEq, Nat.reduceEqDiff, Nat.reduceAdd, Nat.reduceBEq, Nat.reduceMul, Nat.reduceLeDiff, Nat.reduceSub, Nat.reduceLT, Nat.reduceDiv, Nat.reduceMod, List.reduceReplicate, Int.reduceEq, Int.reduceLT, Int.reduceLE, Int.reduceAdd, Int.reduceSub, Int.reduceMul, Int.reduceNeg, Int.reduceToNat, hu, e0, hl, v1, v2, v3, v4, awake17_ok]
  · have hl := lim_loop 7 (by omega) (1) (by omega) (eSetup (two 1 2 1)) 0 (by omega)
    have v1 := bVal_ok (invB (List.replicate 7 [98]) [] 1) (two 1 2 1) (by decide) (by decide)
    have v2 := bVal_ok (invB [] (List.replicate 7 [1]) 4) (two 1 2 1) (by decide) (by decide)
    have v3 := bVal_ok (invB [longS.take 17] [] 1) (two 1 2 1) (by decide) (by decide)
    have v4 := bStart_ok 201 (invB [] [] 6) (two 1 2 1) 0 (by decide) (by decide)
    rw [show batchV (invB (List.replicate 7 [98]) [] 1) (two 1 2 1) = 2 by decide] at v1
    rw [show batchV (invB [] (List.replicate 7 [1]) 4) (two 1 2 1) = 2 by decide] at v2
    rw [show batchV (invB [longS.take 17] [] 1) (two 1 2 1) = 2 by decide] at v3
    rw [show batchStart 201 (invB [] [] 6) (two 1 2 1) 0 = (zTask, 1) by decide] at v4
    simp only [invB, eInvocation, eSetup, two, startT, zTask, eTask, List.reduceReplicate, List.map_nil, List.map_cons, limS, List.replicate_zero, longS, List.take_succ_cons, List.take_zero] at hl v1 v2 v3 v4 hu
    simp only [Int.natCast_add, Int.natCast_one, Int.natCast_zero, Int.natCast_mul, Int.cast_ofNat_Int, List.length_append, List.length_map, List.map_nil, List.length_nil, List.map_append, List.map_cons, List.length_cons, Nat.zero_add, srcO] at hl
    rw [hc] at e0
    rw [callL_code g_law17_BatchLimits (by simp)]; simp -implicitDefEqProofs (disch := omega) only [c_law17_BatchLimits, r_law17_BatchLimits, wr, or_self, or_false, false_or, true_or, or_true, false_and, and_false, Int.natCast_mul, Int.cast_ofNat_Int, Int.natCast_zero, List.length_append, lim_eq, wu64, wu32, wu8, Bool.true_beq, Bool.false_beq, beqT, beqF, Int.natCast_add, Int.natCast_one, ltT, ltF, leT, leF, eqT, eqF, lenLtT, lenLtF, lenLeT, addLeT, lenEqT, mapGet, Int.toNat_natCast, Int.natCast_nonneg, List.length_map, go_sem, ↓reduceIte, reduceCtorEq, Nat.reduceEqDiff, Nat.reduceAdd, Nat.reduceBEq, Nat.reduceMul, Nat.reduceLeDiff, Nat.reduceSub, Nat.reduceLT, Nat.reduceDiv, Nat.reduceMod, List.reduceReplicate, Int.reduceEq, Int.reduceLT, Int.reduceLE, Int.reduceAdd, Int.reduceSub, Int.reduceMul, Int.reduceNeg, Int.reduceToNat, hu, e0, hl, v1, v2, v3, v4, awake17_ok]
end Go.Proofs.Ytlphhhmicdjljaa
