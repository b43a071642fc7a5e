/-
  Directories: Validate, Span, New.
-/
import Derived.Test.YtlphhhmicdjljaaRF1
namespace Go.Proofs.Ytlphhhmicdjljaa
open Go Go.Sim
set_option linter.unusedSimpArgs false
set_option linter.unusedVariables false
set_option maxHeartbeats 10000000
set_option maxRecDepth 40000
theorem fwdAt_in {d : Directory} (h : (List.range d.forward.length).all (fwdAt d) = true) : ∀ a ∈ d.forward, -1 ≤ a ∧ a < d.forward.length := by
  intro a ha
  obtain ⟨i, hi, rfl⟩ := List.mem_iff_getElem.1 ha
  have := List.all_eq_true.1 h i (List.mem_range.2 hi)
  unfold fwdAt at this
  have e : d.forward.getD i 0 = d.forward[i] := by simp [hi]
  rw [e] at this
  simp only [Bool.not_eq_true', Bool.or_eq_false_iff, decide_eq_false_iff_not] at this
  omega
theorem fwd_loop2 (d : Directory) (hF : d.forward.length ≤ 6) (hv : ∀ a ∈ d.forward, -1 ≤ a ∧ a < d.forward.length) : loopL G [] l_directory_forwards_2 ⟨[(1, .ref 1 0 0), (40, .d (.int .i64 d.forward.length)), (41, .d (.int .i64 0))], [obD 1 d]⟩ = some (if ((List.range d.forward.length).all fun i => decide (chase d.forward d.forward.length i < 0)) = true then (.exit 2, ⟨[], []⟩) else (.ret, ⟨[(2, .d (.bool false))], []⟩)) := by
  have := loop_all (G := G) (x := l_directory_forwards_2) (ks := []) d.forward.length (fun i => decide (chase d.forward d.forward.length i < 0)) (fun k => ⟨[(1, .ref 1 0 0), (40, .d (.int .i64 d.forward.length)), (41, .d (.int .i64 k))], [obD 1 d]⟩) (.ret, ⟨[(2, .d (.bool false))], []⟩) (.exit 2, ⟨[], []⟩) (fun k hk L => by
    simp only [l_directory_forwards_2]
    by_cases h0 : k < d.forward.length
    · have hc := chase_loop d k hF hv (0, (k : Int)) ⟨by omega, by simp only; omega, by simp only; omega⟩
      simp only [obD, eDirectory, Nat.sub_zero] at hc ⊢
      simp only [Int.natCast_add, Int.natCast_one, Int.natCast_zero, Int.natCast_mul, Int.cast_ofNat_Int, List.length_append, List.length_map, List.map_nil, List.length_nil, List.map_append, List.map_cons, List.length_cons, Nat.zero_add, srcO] at hc
      by_cases c1 : chase d.forward d.forward.length k < 0
      · simp -implicitDefEqProofs (disch := omega) only [wr, Int.natCast_mul, Int.cast_ofNat_Int, Int.natCast_zero, List.length_append, lim_eq, wu64, wu32, wu8, Bool.true_beq, Bool.false_beq, beqT, beqF, Int.natCast_add, Int.natCast_one, ltT, ltF, leT, leF, eqT, eqF, lenLtT, lenLtF, lenLeT, addLeT, lenEqT, mapGet, Int.toNat_natCast, Int.natCast_nonneg, List.length_map, go_sem, ↓reduceIte, reduceCtorEq, Nat.reduceEqDiff, Nat.reduceAdd, Nat.reduceBEq, Nat.reduceMul, Nat.reduceLeDiff, Nat.reduceSub, Nat.reduceLT, Nat.reduceDiv, Nat.reduceMod, List.reduceReplicate, Int.reduceEq, Int.reduceLT, Int.reduceLE, Int.reduceAdd, Int.reduceSub, Int.reduceMul, Int.reduceNeg, Int.reduceToNat, hc, c1]
      · simp -implicitDefEqProofs (disch := omega) only [wr, Int.natCast_mul, Int.cast_ofNat_Int, Int.natCast_zero, List.length_append, lim_eq, wu64, wu32, wu8, Bool.true_beq, Bool.false_beq, beqT, beqF, Int.natCast_add, Int.natCast_one, ltT, ltF, leT, leF, eqT, eqF, lenLtT, lenLtF, lenLeT, addLeT, lenEqT, mapGet, Int.toNat_natCast, Int.natCast_nonneg, List.length_map, go_sem, ↓reduceIte, reduceCtorEq, Nat.reduceEqDiff, Nat.reduceAdd, Nat.reduceBEq, Nat.reduceMul, Nat.reduceLeDiff, Nat.reduceSub, Nat.reduceLT, Nat.reduceDiv, Nat.reduceMod, List.reduceReplicate, Int.reduceEq, Int.reduceLT, Int.reduceLE, Int.reduceAdd, Int.reduceSub, Int.reduceMul, Int.reduceNeg, Int.reduceToNat, hc, c1]
    · simp only [obD, eDirectory]
      simp -implicitDefEqProofs (disch := omega) only [wr, Int.natCast_mul, Int.cast_ofNat_Int, Int.natCast_zero, List.length_append, lim_eq, wu64, wu32, wu8, Bool.true_beq, Bool.false_beq, beqT, beqF, Int.natCast_add, Int.natCast_one, ltT, ltF, leT, leF, eqT, eqF, lenLtT, lenLtF, lenLeT, addLeT, lenEqT, mapGet, Int.toNat_natCast, Int.natCast_nonneg, List.length_map, go_sem, ↓reduceIte, reduceCtorEq, Nat.reduceEqDiff, Nat.reduceAdd, Nat.reduceBEq, Nat.reduceMul, Nat.reduceLeDiff, Nat.reduceSub, Nat.reduceLT, Nat.reduceDiv, Nat.reduceMod, List.reduceReplicate, Int.reduceEq, Int.reduceLT, Int.reduceLE, Int.reduceAdd, Int.reduceSub, Int.reduceMul, Int.reduceNeg, Int.reduceToNat, Nat.zero_add])
  simp only [Int.natCast_add, Int.natCast_one, Int.natCast_zero, Int.natCast_mul, Int.cast_ofNat_Int, List.length_append, List.length_map, List.map_nil, List.length_nil, List.map_append, List.map_cons, List.length_cons, Nat.zero_add, srcO] at this
  exact this
theorem forwards_ok (d : Directory) (hL : d.l.length ≤ 4294967296) (hF : d.forward.length ≤ 6) : callL G N_directory_forwards [.d (eDirectory d)] [] = some (.d (.bool (fwdOk d)), []) := by
  have h1 := fwd_loop0 d hL hF
  simp only [obD, eDirectory] at h1 ⊢
  unfold fwdOk
  cases c1 : (List.range d.forward.length).all (fwdAt d)
  · rw [c1] at h1
    simp only [Bool.false_eq_true, if_false] at h1
    rw [callL_code g_directory_forwards (by simp)]; simp -implicitDefEqProofs (disch := omega) only [c_directory_forwards, r_directory_forwards, wr, Int.natCast_mul, Int.cast_ofNat_Int, Int.natCast_zero, List.length_append, lim_eq, wu64, wu32, wu8, Bool.true_beq, Bool.false_beq, beqT, beqF, Int.natCast_add, Int.natCast_one, ltT, ltF, leT, leF, eqT, eqF, lenLtT, lenLtF, lenLeT, addLeT, lenEqT, mapGet, Int.toNat_natCast, Int.natCast_nonneg, List.length_map, go_sem, ↓reduceIte, reduceCtorEq, Nat.reduceEqDiff, Nat.reduceAdd, Nat.reduceBEq, Nat.reduceMul, Nat.reduceLeDiff, Nat.reduceSub, Nat.reduceLT, Nat.reduceDiv, Nat.reduceMod, List.reduceReplicate, Int.reduceEq, Int.reduceLT, Int.reduceLE, Int.reduceAdd, Int.reduceSub, Int.reduceMul, Int.reduceNeg, Int.reduceToNat, h1]
  · rw [c1] at h1
    simp only [if_true] at h1
    have h2 := fwd_loop2 d hF (fwdAt_in c1)
    simp only [obD, eDirectory] at h2
    cases c2 : ((List.range d.forward.length).all fun i => decide (chase d.forward d.forward.length i < 0))
    · rw [c2] at h2
      simp only [Bool.false_eq_true, if_false] at h2
      rw [callL_code g_directory_forwards (by simp)]; simp -implicitDefEqProofs (disch := omega) only [c_directory_forwards, r_directory_forwards, wr, Int.natCast_mul, Int.cast_ofNat_Int, Int.natCast_zero, List.length_append, lim_eq, wu64, wu32, wu8, Bool.true_beq, Bool.false_beq, beqT, beqF, Int.natCast_add, Int.natCast_one, ltT, ltF, leT, leF, eqT, eqF, lenLtT, lenLtF, lenLeT, addLeT, lenEqT, mapGet, Int.toNat_natCast, Int.natCast_nonneg, List.length_map, go_sem, ↓reduceIte, reduceCtorEq, Nat.reduceEqDiff, Nat.reduceAdd, Nat.reduceBEq, Nat.reduceMul, Nat.reduceLeDiff, Nat.reduceSub, Nat.reduceLT, Nat.reduceDiv, Nat.reduceMod, List.reduceReplicate, Int.reduceEq, Int.reduceLT, Int.reduceLE, Int.reduceAdd, Int.reduceSub, Int.reduceMul, Int.reduceNeg, Int.reduceToNat, h1, h2]
    · rw [c2] at h2
      simp only [if_true] at h2
      rw [callL_code g_directory_forwards (by simp)]; simp -implicitDefEqProofs (disch := omega) only [c_directory_forwards, r_directory_forwards, wr, Int.natCast_mul, Int.cast_ofNat_Int, Int.natCast_zero, List.length_append, lim_eq, wu64, wu32, wu8, Bool.true_beq, Bool.false_beq, beqT, beqF, Int.natCast_add, Int.natCast_one, ltT, ltF, leT, leF, eqT, eqF, lenLtT, lenLtF, lenLeT, addLeT, lenEqT, mapGet, Int.toNat_natCast, Int.natCast_nonneg, List.length_map, go_sem, ↓reduceIte, reduceCtorEq, Nat.reduceEqDiff, Nat.reduceAdd, Nat.reduceBEq, Nat.reduceMul, Nat.reduceLeDiff, Nat.reduceSub, Nat.reduceLT, Nat.reduceDiv, Nat.reduceMod, List.reduceReplicate, Int.reduceEq, Int.reduceLT, Int.reduceLE, Int.reduceAdd, Int.reduceSub, Int.reduceMul, Int.reduceNeg, Int.reduceToNat, h1, h2]
theorem dVal1_ok (n : Nat) (x : Span) : callL G N_directory_Validate_1 [.d (eSpan x), .d (.pd (.int .i64 n))] [] = some (.d (.bool (missB n x)), []) := by
  simp only [eSpan]
  unfold missB
  rw [callL_code g_directory_Validate_1 (by simp)]; simp -implicitDefEqProofs (disch := omega) only [c_directory_Validate_1, r_directory_Validate_1, wr, Int.natCast_mul, Int.cast_ofNat_Int, Int.natCast_zero, List.length_append, lim_eq, wu64, wu32, wu8, Bool.true_beq, Bool.false_beq, beqT, beqF, Int.natCast_add, Int.natCast_one, ltT, ltF, leT, leF, eqT, eqF, lenLtT, lenLtF, lenLeT, addLeT, lenEqT, mapGet, Int.toNat_natCast, Int.natCast_nonneg, List.length_map, go_sem, ↓reduceIte, reduceCtorEq, Nat.reduceEqDiff, Nat.reduceAdd, Nat.reduceBEq, Nat.reduceMul, Nat.reduceLeDiff, Nat.reduceSub, Nat.reduceLT, Nat.reduceDiv, Nat.reduceMod, List.reduceReplicate, Int.reduceEq, Int.reduceLT, Int.reduceLE, Int.reduceAdd, Int.reduceSub, Int.reduceMul, Int.reduceNeg, Int.reduceToNat, Nat.zero_add]
theorem dVal_loop (d : Directory) (hL : d.l.length ≤ 4294967296) : loopL G [] l_directory_Validate_0 ⟨[(1, .ref 1 0 0), (37, .d (.sl (d.l.map eSpan))), (38, .d (.int .i64 d.l.length)), (39, .d (.int .i64 0))], [obD 1 d]⟩ = some (if (List.range d.l.length).all (dupS d.l) = true then (.exit 1, ⟨[(1, .ref 1 0 0)], [obD 1 d]⟩) else (.ret, ⟨[(2, .d (.int .i64 10))], []⟩)) := by
  have := loop_all (G := G) (x := l_directory_Validate_0) (ks := []) d.l.length (dupS d.l) (fun k => ⟨[(1, .ref 1 0 0), (37, .d (.sl (d.l.map eSpan))), (38, .d (.int .i64 d.l.length)), (39, .d (.int .i64 k))], [obD 1 d]⟩) (.ret, ⟨[(2, .d (.int .i64 10))], []⟩) (.exit 1, ⟨[(1, .ref 1 0 0)], [obD 1 d]⟩) (fun k hk L => by
    simp only [l_directory_Validate_0, obD, eDirectory]
    by_cases h0 : k < d.l.length
    · have hg : d.l.getD k zSpan = d.l[k] := by simp [h0]
      unfold dupS
      rw [hg]
      by_cases c1 : findS d.l d.l[k].shard = k
      · simp -implicitDefEqProofs (disch := omega) only [wr, Int.natCast_mul, Int.cast_ofNat_Int, Int.natCast_zero, List.length_append, lim_eq, wu64, wu32, wu8, Bool.true_beq, Bool.false_beq, beqT, beqF, Int.natCast_add, Int.natCast_one, ltT, ltF, leT, leF, eqT, eqF, lenLtT, lenLtF, lenLeT, addLeT, lenEqT, mapGet, Int.toNat_natCast, Int.natCast_nonneg, List.length_map, go_sem, ↓reduceIte, reduceCtorEq, Nat.reduceEqDiff, Nat.reduceAdd, Nat.reduceBEq, Nat.reduceMul, Nat.reduceLeDiff, Nat.reduceSub, Nat.reduceLT, Nat.reduceDiv, Nat.reduceMod, List.reduceReplicate, Int.reduceEq, Int.reduceLT, Int.reduceLE, Int.reduceAdd, Int.reduceSub, Int.reduceMul, Int.reduceNeg, Int.reduceToNat, eSpan, dfind_ok, c1]
      · simp -implicitDefEqProofs (disch := omega) only [wr, Int.natCast_mul, Int.cast_ofNat_Int, Int.natCast_zero, List.length_append, lim_eq, wu64, wu32, wu8, Bool.true_beq, Bool.false_beq, beqT, beqF, Int.natCast_add, Int.natCast_one, ltT, ltF, leT, leF, eqT, eqF, lenLtT, lenLtF, lenLeT, addLeT, lenEqT, mapGet, Int.toNat_natCast, Int.natCast_nonneg, List.length_map, go_sem, ↓reduceIte, reduceCtorEq, Nat.reduceEqDiff, Nat.reduceAdd, Nat.reduceBEq, Nat.reduceMul, Nat.reduceLeDiff, Nat.reduceSub, Nat.reduceLT, Nat.reduceDiv, Nat.reduceMod, List.reduceReplicate, Int.reduceEq, Int.reduceLT, Int.reduceLE, Int.reduceAdd, Int.reduceSub, Int.reduceMul, Int.reduceNeg, Int.reduceToNat, eSpan, dfind_ok, c1]
    · simp -implicitDefEqProofs (disch := omega) only [wr, Int.natCast_mul, Int.cast_ofNat_Int, Int.natCast_zero, List.length_append, lim_eq, wu64, wu32, wu8, Bool.true_beq, Bool.false_beq, beqT, beqF, Int.natCast_add, Int.natCast_one, ltT, ltF, leT, leF, eqT, eqF, lenLtT, lenLtF, lenLeT, addLeT, lenEqT, mapGet, Int.toNat_natCast, Int.natCast_nonneg, List.length_map, go_sem, ↓reduceIte, reduceCtorEq, Nat.reduceEqDiff, Nat.reduceAdd, Nat.reduceBEq, Nat.reduceMul, Nat.reduceLeDiff, Nat.reduceSub, Nat.reduceLT, Nat.reduceDiv, Nat.reduceMod, List.reduceReplicate, Int.reduceEq, Int.reduceLT, Int.reduceLE, Int.reduceAdd, Int.reduceSub, Int.reduceMul, Int.reduceNeg, Int.reduceToNat, Nat.zero_add])
  simp only [Int.natCast_add, Int.natCast_one, Int.natCast_zero, Int.natCast_mul, Int.cast_ofNat_Int, List.length_append, List.length_map, List.map_nil, List.length_nil, List.map_append, List.map_cons, List.length_cons, Nat.zero_add, srcO] at this
  exact this
theorem dValidate_ok (d : Directory) (hL : d.l.length ≤ 4294967296) (hF : d.forward.length ≤ 4294967296) : callL G N_directory_Validate [.d (eDirectory d)] [] = some (.d (.int .i64 (dirV d)), []) := by
  unfold dirV
  by_cases c1 : d.version < 1
  · rw [if_pos (Or.inl c1)]
    simp only [eDirectory]
    rw [callL_code g_directory_Validate (by simp)]; simp -implicitDefEqProofs (disch := omega) only [c_directory_Validate, r_directory_Validate, wr, Int.natCast_mul, Int.cast_ofNat_Int, Int.natCast_zero, List.length_append, lim_eq, wu64, wu32, wu8, Bool.true_beq, Bool.false_beq, beqT, beqF, Int.natCast_add, Int.natCast_one, ltT, ltF, leT, leF, eqT, eqF, lenLtT, lenLtF, lenLeT, addLeT, lenEqT, mapGet, Int.toNat_natCast, Int.natCast_nonneg, List.length_map, go_sem, ↓reduceIte, reduceCtorEq, Nat.reduceEqDiff, Nat.reduceAdd, Nat.reduceBEq, Nat.reduceMul, Nat.reduceLeDiff, Nat.reduceSub, Nat.reduceLT, Nat.reduceDiv, Nat.reduceMod, List.reduceReplicate, Int.reduceEq, Int.reduceLT, Int.reduceLE, Int.reduceAdd, Int.reduceSub, Int.reduceMul, Int.reduceNeg, Int.reduceToNat, Nat.zero_add]
  by_cases c2 : 1099511627776 < d.version
  · rw [if_pos (Or.inr (Or.inl c2))]
    simp only [eDirectory]
    rw [callL_code g_directory_Validate (by simp)]; simp -implicitDefEqProofs (disch := omega) only [c_directory_Validate, r_directory_Validate, wr, Int.natCast_mul, Int.cast_ofNat_Int, Int.natCast_zero, List.length_append, lim_eq, wu64, wu32, wu8, Bool.true_beq, Bool.false_beq, beqT, beqF, Int.natCast_add, Int.natCast_one, ltT, ltF, leT, leF, eqT, eqF, lenLtT, lenLtF, lenLeT, addLeT, lenEqT, mapGet, Int.toNat_natCast, Int.natCast_nonneg, List.length_map, go_sem, ↓reduceIte, reduceCtorEq, Nat.reduceEqDiff, Nat.reduceAdd, Nat.reduceBEq, Nat.reduceMul, Nat.reduceLeDiff, Nat.reduceSub, Nat.reduceLT, Nat.reduceDiv, Nat.reduceMod, List.reduceReplicate, Int.reduceEq, Int.reduceLT, Int.reduceLE, Int.reduceAdd, Int.reduceSub, Int.reduceMul, Int.reduceNeg, Int.reduceToNat, Nat.zero_add]
  by_cases c3 : d.forward.length < 1
  · rw [if_pos (Or.inr (Or.inr (Or.inl c3)))]
    simp only [eDirectory]
    rw [callL_code g_directory_Validate (by simp)]; simp -implicitDefEqProofs (disch := omega) only [c_directory_Validate, r_directory_Validate, wr, Int.natCast_mul, Int.cast_ofNat_Int, Int.natCast_zero, List.length_append, lim_eq, wu64, wu32, wu8, Bool.true_beq, Bool.false_beq, beqT, beqF, Int.natCast_add, Int.natCast_one, ltT, ltF, leT, leF, eqT, eqF, lenLtT, lenLtF, lenLeT, addLeT, lenEqT, mapGet, Int.toNat_natCast, Int.natCast_nonneg, List.length_map, go_sem, ↓reduceIte, reduceCtorEq, Nat.reduceEqDiff, Nat.reduceAdd, Nat.reduceBEq, Nat.reduceMul, Nat.reduceLeDiff, Nat.reduceSub, Nat.reduceLT, Nat.reduceDiv, Nat.reduceMod, List.reduceReplicate, Int.reduceEq, Int.reduceLT, Int.reduceLE, Int.reduceAdd, Int.reduceSub, Int.reduceMul, Int.reduceNeg, Int.reduceToNat, Nat.zero_add]
  by_cases c4 : 6 < d.forward.length
  · rw [if_pos (Or.inr (Or.inr (Or.inr c4)))]
    simp only [eDirectory]
    rw [callL_code g_directory_Validate (by simp)]; simp -implicitDefEqProofs (disch := omega) only [c_directory_Validate, r_directory_Validate, wr, Int.natCast_mul, Int.cast_ofNat_Int, Int.natCast_zero, List.length_append, lim_eq, wu64, wu32, wu8, Bool.true_beq, Bool.false_beq, beqT, beqF, Int.natCast_add, Int.natCast_one, ltT, ltF, leT, leF, eqT, eqF, lenLtT, lenLtF, lenLeT, addLeT, lenEqT, mapGet, Int.toNat_natCast, Int.natCast_nonneg, List.length_map, go_sem, ↓reduceIte, reduceCtorEq, Nat.reduceEqDiff, Nat.reduceAdd, Nat.reduceBEq, Nat.reduceMul, Nat.reduceLeDiff, Nat.reduceSub, Nat.reduceLT, Nat.reduceDiv, Nat.reduceMod, List.reduceReplicate, Int.reduceEq, Int.reduceLT, Int.reduceLE, Int.reduceAdd, Int.reduceSub, Int.reduceMul, Int.reduceNeg, Int.reduceToNat, Nat.zero_add]
  rw [if_neg (by omega)]
  have ht := tiles_ok d.l hL
  have hm := contains_api_Span d.l N_directory_Validate_1 [.pd (.int .i64 d.forward.length)] (missB d.forward.length) hL (fun a _ => dVal1_ok _ a)
  have hd := dVal_loop d hL
  have hf := forwards_ok d hL (by omega)
  simp only [eDirectory, obD] at hd hf ⊢
  by_cases c5 : tileN 0 d.l = some 65536
  · simp only [c5, decide_true] at ht
    simp only [c5, ne_eq, not_true_eq_false, if_false]
    cases c6 : d.l.any (missB d.forward.length)
    · rw [c6] at hm
      cases c7 : (List.range d.l.length).all (dupS d.l)
      · rw [c7] at hd
        simp only [Bool.false_eq_true, if_false] at hd
        rw [callL_code g_directory_Validate (by simp)]; simp -implicitDefEqProofs (disch := omega) only [c_directory_Validate, r_directory_Validate, wr, Int.natCast_mul, Int.cast_ofNat_Int, Int.natCast_zero, List.length_append, lim_eq, wu64, wu32, wu8, Bool.true_beq, Bool.false_beq, beqT, beqF, Int.natCast_add, Int.natCast_one, ltT, ltF, leT, leF, eqT, eqF, lenLtT, lenLtF, lenLeT, addLeT, lenEqT, mapGet, Int.toNat_natCast, Int.natCast_nonneg, List.length_map, go_sem, ↓reduceIte, reduceCtorEq, Nat.reduceEqDiff, Nat.reduceAdd, Nat.reduceBEq, Nat.reduceMul, Nat.reduceLeDiff, Nat.reduceSub, Nat.reduceLT, Nat.reduceDiv, Nat.reduceMod, List.reduceReplicate, Int.reduceEq, Int.reduceLT, Int.reduceLE, Int.reduceAdd, Int.reduceSub, Int.reduceMul, Int.reduceNeg, Int.reduceToNat, ht, hm, hd]
      · rw [c7] at hd
        simp only [if_true] at hd
        cases c8 : fwdOk d
        · rw [c8] at hf
          rw [callL_code g_directory_Validate (by simp)]; simp -implicitDefEqProofs (disch := omega) only [c_directory_Validate, r_directory_Validate, wr, Int.natCast_mul, Int.cast_ofNat_Int, Int.natCast_zero, List.length_append, lim_eq, wu64, wu32, wu8, Bool.true_beq, Bool.false_beq, beqT, beqF, Int.natCast_add, Int.natCast_one, ltT, ltF, leT, leF, eqT, eqF, lenLtT, lenLtF, lenLeT, addLeT, lenEqT, mapGet, Int.toNat_natCast, Int.natCast_nonneg, List.length_map, go_sem, ↓reduceIte, reduceCtorEq, Nat.reduceEqDiff, Nat.reduceAdd, Nat.reduceBEq, Nat.reduceMul, Nat.reduceLeDiff, Nat.reduceSub, Nat.reduceLT, Nat.reduceDiv, Nat.reduceMod, List.reduceReplicate, Int.reduceEq, Int.reduceLT, Int.reduceLE, Int.reduceAdd, Int.reduceSub, Int.reduceMul, Int.reduceNeg, Int.reduceToNat, ht, hm, hd, hf]
        · rw [c8] at hf
          rw [callL_code g_directory_Validate (by simp)]; simp -implicitDefEqProofs (disch := omega) only [c_directory_Validate, r_directory_Validate, wr, Int.natCast_mul, Int.cast_ofNat_Int, Int.natCast_zero, List.length_append, lim_eq, wu64, wu32, wu8, Bool.true_beq, Bool.false_beq, beqT, beqF, Int.natCast_add, Int.natCast_one, ltT, ltF, leT, leF, eqT, eqF, lenLtT, lenLtF, lenLeT, addLeT, lenEqT, mapGet, Int.toNat_natCast, Int.natCast_nonneg, List.length_map, go_sem, ↓reduceIte, reduceCtorEq, Nat.reduceEqDiff, Nat.reduceAdd, Nat.reduceBEq, Nat.reduceMul, Nat.reduceLeDiff, Nat.reduceSub, Nat.reduceLT, Nat.reduceDiv, Nat.reduceMod, List.reduceReplicate, Int.reduceEq, Int.reduceLT, Int.reduceLE, Int.reduceAdd, Int.reduceSub, Int.reduceMul, Int.reduceNeg, Int.reduceToNat, ht, hm, hd, hf]
    · rw [c6] at hm
      rw [callL_code g_directory_Validate (by simp)]; simp -implicitDefEqProofs (disch := omega) only [c_directory_Validate, r_directory_Validate, wr, Int.natCast_mul, Int.cast_ofNat_Int, Int.natCast_zero, List.length_append, lim_eq, wu64, wu32, wu8, Bool.true_beq, Bool.false_beq, beqT, beqF, Int.natCast_add, Int.natCast_one, ltT, ltF, leT, leF, eqT, eqF, lenLtT, lenLtF, lenLeT, addLeT, lenEqT, mapGet, Int.toNat_natCast, Int.natCast_nonneg, List.length_map, go_sem, ↓reduceIte, reduceCtorEq, Nat.reduceEqDiff, Nat.reduceAdd, Nat.reduceBEq, Nat.reduceMul, Nat.reduceLeDiff, Nat.reduceSub, Nat.reduceLT, Nat.reduceDiv, Nat.reduceMod, List.reduceReplicate, Int.reduceEq, Int.reduceLT, Int.reduceLE, Int.reduceAdd, Int.reduceSub, Int.reduceMul, Int.reduceNeg, Int.reduceToNat, ht, hm]
  · simp only [c5, decide_false] at ht
    simp only [c5, ne_eq, not_false_eq_true, if_true]
    rw [callL_code g_directory_Validate (by simp)]; simp -implicitDefEqProofs (disch := omega) only [c_directory_Validate, r_directory_Validate, wr, Int.natCast_mul, Int.cast_ofNat_Int, Int.natCast_zero, List.length_append, lim_eq, wu64, wu32, wu8, Bool.true_beq, Bool.false_beq, beqT, beqF, Int.natCast_add, Int.natCast_one, ltT, ltF, leT, leF, eqT, eqF, lenLtT, lenLtF, lenLeT, addLeT, lenEqT, mapGet, Int.toNat_natCast, Int.natCast_nonneg, List.length_map, go_sem, ↓reduceIte, reduceCtorEq, Nat.reduceEqDiff, Nat.reduceAdd, Nat.reduceBEq, Nat.reduceMul, Nat.reduceLeDiff, Nat.reduceSub, Nat.reduceLT, Nat.reduceDiv, Nat.reduceMod, List.reduceReplicate, Int.reduceEq, Int.reduceLT, Int.reduceLE, Int.reduceAdd, Int.reduceSub, Int.reduceMul, Int.reduceNeg, Int.reduceToNat, ht]
def spanD (d : Directory) (slot : Int) : Span × Bool := if dirV d = 0 ∧ 0 ≤ findS d.l slot then (d.l.getD (findS d.l slot).toNat zSpan, true) else (zSpan, false)
theorem findS_lt (l : List Span) (j : Int) : -1 ≤ findS l j ∧ findS l j < l.length := idxI_lt _ _
theorem dSpan_ok (d : Directory) (slot : Int) (hL : d.l.length ≤ 4294967296) (hF : d.forward.length ≤ 4294967296) : callL G N_directory_Span [.d (eDirectory d), .d (.int .i64 slot)] [] = some (.d (.tup [eSpan (spanD d slot).1, .bool (spanD d slot).2]), []) := by
  have hv := dValidate_ok d hL hF
  have hf := dfind_ok d.l slot hL
  have hlt := findS_lt d.l slot
  unfold spanD
  simp only [eDirectory] at hv ⊢
  by_cases c1 : dirV d = 0
  · by_cases c2 : 0 ≤ findS d.l slot
    · rw [if_pos ⟨c1, c2⟩]
      have hl2 : (findS d.l slot).toNat < d.l.length := by omega
      have hg : (d.l.map eSpan)[(findS d.l slot).toNat]? = some (eSpan (d.l.getD (findS d.l slot).toNat zSpan)) := by simp [List.getElem?_eq_getElem hl2, hl2]
      simp only
      generalize d.l.getD (findS d.l slot).toNat zSpan = x at *
      simp only [eSpan] at hg ⊢
      rw [callL_code g_directory_Span (by simp)]; simp -implicitDefEqProofs (disch := omega) only [c_directory_Span, r_directory_Span, wr, Int.natCast_mul, Int.cast_ofNat_Int, Int.natCast_zero, List.length_append, lim_eq, wu64, wu32, wu8, Bool.true_beq, Bool.false_beq, beqT, beqF, Int.natCast_add, Int.natCast_one, ltT, ltF, leT, leF, eqT, eqF, lenLtT, lenLtF, lenLeT, addLeT, lenEqT, mapGet, Int.toNat_natCast, Int.natCast_nonneg, List.length_map, go_sem, ↓reduceIte, reduceCtorEq, Nat.reduceEqDiff, Nat.reduceAdd, Nat.reduceBEq, Nat.reduceMul, Nat.reduceLeDiff, Nat.reduceSub, Nat.reduceLT, Nat.reduceDiv, Nat.reduceMod, List.reduceReplicate, Int.reduceEq, Int.reduceLT, Int.reduceLE, Int.reduceAdd, Int.reduceSub, Int.reduceMul, Int.reduceNeg, Int.reduceToNat, hv, hf, hg, c1]
    · rw [if_neg (fun h => c2 h.2)]
      simp only [eSpan, zSpan]
      rw [callL_code g_directory_Span (by simp)]; simp -implicitDefEqProofs (disch := omega) only [c_directory_Span, r_directory_Span, wr, Int.natCast_mul, Int.cast_ofNat_Int, Int.natCast_zero, List.length_append, lim_eq, wu64, wu32, wu8, Bool.true_beq, Bool.false_beq, beqT, beqF, Int.natCast_add, Int.natCast_one, ltT, ltF, leT, leF, eqT, eqF, lenLtT, lenLtF, lenLeT, addLeT, lenEqT, mapGet, Int.toNat_natCast, Int.natCast_nonneg, List.length_map, go_sem, ↓reduceIte, reduceCtorEq, Nat.reduceEqDiff, Nat.reduceAdd, Nat.reduceBEq, Nat.reduceMul, Nat.reduceLeDiff, Nat.reduceSub, Nat.reduceLT, Nat.reduceDiv, Nat.reduceMod, List.reduceReplicate, Int.reduceEq, Int.reduceLT, Int.reduceLE, Int.reduceAdd, Int.reduceSub, Int.reduceMul, Int.reduceNeg, Int.reduceToNat, hv, hf, c1]
  · rw [if_neg (fun h => c1 h.1)]
    simp only [eSpan, zSpan]
    rw [callL_code g_directory_Span (by simp)]; simp -implicitDefEqProofs (disch := omega) only [c_directory_Span, r_directory_Span, wr, Int.natCast_mul, Int.cast_ofNat_Int, Int.natCast_zero, List.length_append, lim_eq, wu64, wu32, wu8, Bool.true_beq, Bool.false_beq, beqT, beqF, Int.natCast_add, Int.natCast_one, ltT, ltF, leT, leF, eqT, eqF, lenLtT, lenLtF, lenLeT, addLeT, lenEqT, mapGet, Int.toNat_natCast, Int.natCast_nonneg, List.length_map, go_sem, ↓reduceIte, reduceCtorEq, Nat.reduceEqDiff, Nat.reduceAdd, Nat.reduceBEq, Nat.reduceMul, Nat.reduceLeDiff, Nat.reduceSub, Nat.reduceLT, Nat.reduceDiv, Nat.reduceMod, List.reduceReplicate, Int.reduceEq, Int.reduceLT, Int.reduceLE, Int.reduceAdd, Int.reduceSub, Int.reduceMul, Int.reduceNeg, Int.reduceToNat, hv, c1]
end Go.Proofs.Ytlphhhmicdjljaa
