/-
  Directories: the first one.
-/
import Derived.Test.YtlphhhmicdjljaaRF2
namespace Go.Proofs.Ytlphhhmicdjljaa
open Go Go.Sim
set_option linter.unusedSimpArgs false
set_option linter.unusedVariables false
set_option maxHeartbeats 10000000
set_option maxRecDepth 40000
def spanI (live : Int) (i : Nat) : Span := ⟨(i : Int) * 65536 / live, ((i : Int) + 1) * 65536 / live - 1, i⟩
def spansN (live : Int) (k : Nat) : List Span := (List.range k).map (spanI live)
theorem spansN_len (live : Int) (k : Nat) : (spansN live k).length = k := by simp [spansN]
theorem spansN_succ (live : Int) (k : Nat) : spansN live (k + 1) = spansN live k ++ [spanI live k] := by simp [spansN, List.range_succ]
def dirN (slots live : Nat) : Directory := ⟨1, spansN live live, List.replicate slots (-1)⟩
def newD (slots live : Int) : Directory × Int := if live < 1 ∨ slots < live ∨ 6 < slots then (zDirectory, 1) else (dirN slots.toNat live.toNat, 0)
def ob4 : Nat × Go.Sim.Obj := (4, .row [.agg [.d (.int .i64 0), .xsl [], .xsl []]])
theorem dnew_loop0 (slots live : Nat) (h1 : 1 ≤ live) (h2 : live ≤ slots) (h3 : slots ≤ 6) : ∀ k, 1 ≤ k ∧ k ≤ live → loopL G [] l_directory_New_0 ⟨[(0, .d (.int .i64 slots)), (1, .d (.int .i64 live)), (4, .ref 4 0 0), (6, .ref 6 0 0), (21, .d (.int .i64 live)), (22, .d (.int .i64 k))], [ob4, (6, .row [.agg [.d (.int .i64 1), .acc 500040 ((spansN live k).map eSpan), .xsl []]]), (500040, .acc k)]⟩ = some (.exit 0, ⟨[(0, .d (.int .i64 slots)), (4, .ref 4 0 0), (6, .ref 6 0 0)], [ob4, (6, .row [.agg [.d (.int .i64 1), .acc 500040 ((spansN live live).map eSpan), .xsl []]]), (500040, .acc live)]⟩) := by
  refine loop_ind (fun k => live - k) _ _ _ fun k ⟨hk, hk2⟩ L ih => ?_
  simp only [ob4] at ih ⊢
  simp only [l_directory_New_0]
  by_cases h0 : k < live
  · have := ih (k + 1) ⟨by omega, by omega⟩ (by omega)
    rw [spansN_succ] at this
    have hq1 : 0 ≤ (k : Int) * 65536 / (live : Int) ∧ (k : Int) * 65536 / (live : Int) ≤ 1000000 := by
      refine ⟨Int.ediv_nonneg (by omega) (by omega), Int.le_trans (Int.ediv_le_self _ (by omega)) (by omega)⟩
    have hq2 : 0 ≤ ((k : Int) + 1) * 65536 / (live : Int) ∧ ((k : Int) + 1) * 65536 / (live : Int) ≤ 1000000 := by
      refine ⟨Int.ediv_nonneg (by omega) (by omega), Int.le_trans (Int.ediv_le_self _ (by omega)) (by omega)⟩
    obtain ⟨es, hes⟩ : ∃ es, es = spansN live k := ⟨_, rfl⟩
    have hesl : es.length = k := by rw [hes, spansN_len]
    rw [← hes] at this ⊢
    simp only [spanI, eSpan, List.map_append, List.map_cons, List.map_nil, Int.natCast_add, Int.natCast_one] at this
    simp -implicitDefEqProofs (disch := omega) only [wr, Int.natCast_mul, Int.cast_ofNat_Int, Int.natCast_zero, List.length_append, lim_eq, wu64, wu32, wu8, Bool.true_beq, Bool.false_beq, beqT, beqF, Int.natCast_add, Int.natCast_one, ltT, ltF, leT, leF, eqT, eqF, lenLtT, lenLtF, lenLeT, addLeT, lenEqT, mapGet, Int.toNat_natCast, Int.natCast_nonneg, List.length_map, go_sem, ↓reduceIte, reduceCtorEq, Nat.reduceEqDiff, Nat.reduceAdd, Nat.reduceBEq, Nat.reduceMul, Nat.reduceLeDiff, Nat.reduceSub, Nat.reduceLT, Nat.reduceDiv, Nat.reduceMod, List.reduceReplicate, Int.reduceEq, Int.reduceLT, Int.reduceLE, Int.reduceAdd, Int.reduceSub, Int.reduceMul, Int.reduceNeg, Int.reduceToNat, tdivE, hesl, allSize_Span, this]
  · have : k = live := by omega
    subst this
    simp -implicitDefEqProofs (disch := omega) only [wr, Int.natCast_mul, Int.cast_ofNat_Int, Int.natCast_zero, List.length_append, lim_eq, wu64, wu32, wu8, Bool.true_beq, Bool.false_beq, beqT, beqF, Int.natCast_add, Int.natCast_one, ltT, ltF, leT, leF, eqT, eqF, lenLtT, lenLtF, lenLeT, addLeT, lenEqT, mapGet, Int.toNat_natCast, Int.natCast_nonneg, List.length_map, go_sem, ↓reduceIte, reduceCtorEq, Nat.reduceEqDiff, Nat.reduceAdd, Nat.reduceBEq, Nat.reduceMul, Nat.reduceLeDiff, Nat.reduceSub, Nat.reduceLT, Nat.reduceDiv, Nat.reduceMod, List.reduceReplicate, Int.reduceEq, Int.reduceLT, Int.reduceLE, Int.reduceAdd, Int.reduceSub, Int.reduceMul, Int.reduceNeg, Int.reduceToNat, Nat.zero_add]
theorem dnew_first0 (slots live : Nat) (h1 : 1 ≤ live) (h2 : live ≤ slots) (h3 : slots ≤ 6) : loopL G [] l_directory_New_0 ⟨[(0, .d (.int .i64 slots)), (1, .d (.int .i64 live)), (4, .ref 4 0 0), (6, .ref 6 0 0), (21, .d (.int .i64 live)), (22, .d (.int .i64 0))], [ob4, (6, .row [.agg [.d (.int .i64 1), .xsl [], .xsl []]])]⟩ = some (.exit 0, ⟨[(0, .d (.int .i64 slots)), (4, .ref 4 0 0), (6, .ref 6 0 0)], [ob4, (6, .row [.agg [.d (.int .i64 1), .acc 500040 ((spansN live live).map eSpan), .xsl []]]), (500040, .acc live)]⟩) := by
  have h := dnew_loop0 slots live h1 h2 h3 1 ⟨by omega, h1⟩
  simp only [spansN, spanI, eSpan, ob4, List.range_one, List.map_cons, List.map_nil] at h
  simp only [Int.natCast_add, Int.natCast_one, Int.natCast_zero, Int.natCast_mul, Int.cast_ofNat_Int, List.length_append, List.length_map, List.map_nil, List.length_nil, List.map_append, List.map_cons, List.length_cons, Nat.zero_add, srcO] at h
  rw [loopL_eq]
  have hq2 : 0 ≤ (65536 : Int) / (live : Int) ∧ (65536 : Int) / (live : Int) ≤ 65536 := by
    refine ⟨Int.ediv_nonneg (by omega) (by omega), Int.ediv_le_self _ (by omega)⟩
  generalize hF : loopL G [] l_directory_New_0 = F at h ⊢
  simp only [l_directory_New_0, ob4]
  simp only [Int.zero_mul, Int.zero_ediv, Int.zero_add, Int.one_mul] at h
  simp -implicitDefEqProofs (disch := omega) only [wr, Int.natCast_mul, Int.cast_ofNat_Int, Int.natCast_zero, List.length_append, lim_eq, wu64, wu32, wu8, Bool.true_beq, Bool.false_beq, beqT, beqF, Int.natCast_add, Int.natCast_one, ltT, ltF, leT, leF, eqT, eqF, lenLtT, lenLtF, lenLeT, addLeT, lenEqT, mapGet, Int.toNat_natCast, Int.natCast_nonneg, List.length_map, go_sem, ↓reduceIte, reduceCtorEq, Nat.reduceEqDiff, Nat.reduceAdd, Nat.reduceBEq, Nat.reduceMul, Nat.reduceLeDiff, Nat.reduceSub, Nat.reduceLT, Nat.reduceDiv, Nat.reduceMod, List.reduceReplicate, Int.reduceEq, Int.reduceLT, Int.reduceLE, Int.reduceAdd, Int.reduceSub, Int.reduceMul, Int.reduceNeg, Int.reduceToNat, tdivE, Int.zero_mul, Int.zero_ediv, Int.zero_add, Int.one_mul]
  rw [h]
  simp only [spansN, spanI, eSpan]
theorem dnew_loop1 (slots : Nat) (h3 : slots ≤ 6) (es : List D) (m : Nat) : ∀ k, 1 ≤ k ∧ k ≤ slots → loopL G [] l_directory_New_1 ⟨[(4, .ref 4 0 0), (6, .ref 6 0 0), (43, .d (.int .i64 slots)), (44, .d (.int .i64 k))], [ob4, (6, .row [.agg [.d (.int .i64 1), .acc 500040 es, .acc 49 (ints (List.replicate k (-1)))]]), (49, .acc k), (500040, .acc m)]⟩ = some (.exit 2, ⟨[(4, .ref 4 0 0), (6, .ref 6 0 0)], [ob4, (6, .row [.agg [.d (.int .i64 1), .acc 500040 es, .acc 49 (ints (List.replicate slots (-1)))]]), (49, .acc slots), (500040, .acc m)]⟩) := by
  refine loop_ind (fun k => slots - k) _ _ _ fun k ⟨hk, hk2⟩ L ih => ?_
  simp only [ob4] at ih ⊢
  simp only [l_directory_New_1]
  by_cases h0 : k < slots
  · have := ih (k + 1) ⟨by omega, by omega⟩ (by omega)
    rw [List.replicate_succ'] at this
    obtain ⟨fs, hfs⟩ : ∃ fs, fs = List.replicate k (-1 : Int) := ⟨_, rfl⟩
    have hl : fs.length = k := by rw [hfs, List.length_replicate]
    rw [← hfs] at this ⊢
    simp only [ints] at this ⊢
    simp only [Int.natCast_add, Int.natCast_one, Int.natCast_zero, Int.natCast_mul, Int.cast_ofNat_Int, List.length_append, List.length_map, List.map_nil, List.length_nil, List.map_append, List.map_cons, List.length_cons, Nat.zero_add, srcO] at this
    simp -implicitDefEqProofs (disch := omega) only [wr, Int.natCast_mul, Int.cast_ofNat_Int, Int.natCast_zero, List.length_append, lim_eq, wu64, wu32, wu8, Bool.true_beq, Bool.false_beq, beqT, beqF, Int.natCast_add, Int.natCast_one, ltT, ltF, leT, leF, eqT, eqF, lenLtT, lenLtF, lenLeT, addLeT, lenEqT, mapGet, Int.toNat_natCast, Int.natCast_nonneg, List.length_map, go_sem, ↓reduceIte, reduceCtorEq, Nat.reduceEqDiff, Nat.reduceAdd, Nat.reduceBEq, Nat.reduceMul, Nat.reduceLeDiff, Nat.reduceSub, Nat.reduceLT, Nat.reduceDiv, Nat.reduceMod, List.reduceReplicate, Int.reduceEq, Int.reduceLT, Int.reduceLE, Int.reduceAdd, Int.reduceSub, Int.reduceMul, Int.reduceNeg, Int.reduceToNat, hl, allSize_ints, this]
  · have : k = slots := by omega
    subst this
    simp -implicitDefEqProofs (disch := omega) only [wr, Int.natCast_mul, Int.cast_ofNat_Int, Int.natCast_zero, List.length_append, lim_eq, wu64, wu32, wu8, Bool.true_beq, Bool.false_beq, beqT, beqF, Int.natCast_add, Int.natCast_one, ltT, ltF, leT, leF, eqT, eqF, lenLtT, lenLtF, lenLeT, addLeT, lenEqT, mapGet, Int.toNat_natCast, Int.natCast_nonneg, List.length_map, go_sem, ↓reduceIte, reduceCtorEq, Nat.reduceEqDiff, Nat.reduceAdd, Nat.reduceBEq, Nat.reduceMul, Nat.reduceLeDiff, Nat.reduceSub, Nat.reduceLT, Nat.reduceDiv, Nat.reduceMod, List.reduceReplicate, Int.reduceEq, Int.reduceLT, Int.reduceLE, Int.reduceAdd, Int.reduceSub, Int.reduceMul, Int.reduceNeg, Int.reduceToNat, Nat.zero_add]
theorem dnew_first1 (slots : Nat) (h1 : 1 ≤ slots) (h3 : slots ≤ 6) (es : List D) (m : Nat) : loopL G [] l_directory_New_1 ⟨[(4, .ref 4 0 0), (6, .ref 6 0 0), (43, .d (.int .i64 slots)), (44, .d (.int .i64 0))], [ob4, (6, .row [.agg [.d (.int .i64 1), .acc 500040 es, .xsl []]]), (500040, .acc m)]⟩ = some (.exit 2, ⟨[(4, .ref 4 0 0), (6, .ref 6 0 0)], [ob4, (6, .row [.agg [.d (.int .i64 1), .acc 500040 es, .acc 49 (ints (List.replicate slots (-1)))]]), (49, .acc slots), (500040, .acc m)]⟩) := by
  have h := dnew_loop1 slots h3 es m 1 ⟨by omega, h1⟩
  simp only [List.replicate_one, ob4] at h
  simp only [Int.natCast_add, Int.natCast_one, Int.natCast_zero, Int.natCast_mul, Int.cast_ofNat_Int, List.length_append, List.length_map, List.map_nil, List.length_nil, List.map_append, List.map_cons, List.length_cons, Nat.zero_add, srcO] at h
  rw [loopL_eq]
  generalize hF : loopL G [] l_directory_New_1 = F at h ⊢
  simp only [l_directory_New_1, ob4]
  simp -implicitDefEqProofs (disch := omega) only [wr, Int.natCast_mul, Int.cast_ofNat_Int, Int.natCast_zero, List.length_append, lim_eq, wu64, wu32, wu8, Bool.true_beq, Bool.false_beq, beqT, beqF, Int.natCast_add, Int.natCast_one, ltT, ltF, leT, leF, eqT, eqF, lenLtT, lenLtF, lenLeT, addLeT, lenEqT, mapGet, Int.toNat_natCast, Int.natCast_nonneg, List.length_map, go_sem, ↓reduceIte, reduceCtorEq, Nat.reduceEqDiff, Nat.reduceAdd, Nat.reduceBEq, Nat.reduceMul, Nat.reduceLeDiff, Nat.reduceSub, Nat.reduceLT, Nat.reduceDiv, Nat.reduceMod, List.reduceReplicate, Int.reduceEq, Int.reduceLT, Int.reduceLE, Int.reduceAdd, Int.reduceSub, Int.reduceMul, Int.reduceNeg, Int.reduceToNat, h]
theorem dnew_ok (slots live : Int) : callL G N_directory_New [.d (.int .i64 slots), .d (.int .i64 live)] [] = some (.d (.tup [eDirectory (newD slots live).1, .int .i64 (newD slots live).2]), []) := by
  unfold newD
  by_cases c1 : live < 1
  · rw [if_pos (Or.inl c1)]
    simp only [eDirectory, zDirectory]
    rw [callL_code g_directory_New (by simp)]; simp -implicitDefEqProofs (disch := omega) only [c_directory_New, r_directory_New, wr, Int.natCast_mul, Int.cast_ofNat_Int, Int.natCast_zero, List.length_append, lim_eq, wu64, wu32, wu8, Bool.true_beq, Bool.false_beq, beqT, beqF, Int.natCast_add, Int.natCast_one, ltT, ltF, leT, leF, eqT, eqF, lenLtT, lenLtF, lenLeT, addLeT, lenEqT, mapGet, Int.toNat_natCast, Int.natCast_nonneg, List.length_map, go_sem, ↓reduceIte, reduceCtorEq, Nat.reduceEqDiff, Nat.reduceAdd, Nat.reduceBEq, Nat.reduceMul, Nat.reduceLeDiff, Nat.reduceSub, Nat.reduceLT, Nat.reduceDiv, Nat.reduceMod, List.reduceReplicate, Int.reduceEq, Int.reduceLT, Int.reduceLE, Int.reduceAdd, Int.reduceSub, Int.reduceMul, Int.reduceNeg, Int.reduceToNat, Nat.zero_add]
  by_cases c2 : slots < live
  · rw [if_pos (Or.inr (Or.inl c2))]
    simp only [eDirectory, zDirectory]
    rw [callL_code g_directory_New (by simp)]; simp -implicitDefEqProofs (disch := omega) only [c_directory_New, r_directory_New, wr, Int.natCast_mul, Int.cast_ofNat_Int, Int.natCast_zero, List.length_append, lim_eq, wu64, wu32, wu8, Bool.true_beq, Bool.false_beq, beqT, beqF, Int.natCast_add, Int.natCast_one, ltT, ltF, leT, leF, eqT, eqF, lenLtT, lenLtF, lenLeT, addLeT, lenEqT, mapGet, Int.toNat_natCast, Int.natCast_nonneg, List.length_map, go_sem, ↓reduceIte, reduceCtorEq, Nat.reduceEqDiff, Nat.reduceAdd, Nat.reduceBEq, Nat.reduceMul, Nat.reduceLeDiff, Nat.reduceSub, Nat.reduceLT, Nat.reduceDiv, Nat.reduceMod, List.reduceReplicate, Int.reduceEq, Int.reduceLT, Int.reduceLE, Int.reduceAdd, Int.reduceSub, Int.reduceMul, Int.reduceNeg, Int.reduceToNat, Nat.zero_add]
  by_cases c3 : 6 < slots
  · rw [if_pos (Or.inr (Or.inr c3))]
    simp only [eDirectory, zDirectory]
    rw [callL_code g_directory_New (by simp)]; simp -implicitDefEqProofs (disch := omega) only [c_directory_New, r_directory_New, wr, Int.natCast_mul, Int.cast_ofNat_Int, Int.natCast_zero, List.length_append, lim_eq, wu64, wu32, wu8, Bool.true_beq, Bool.false_beq, beqT, beqF, Int.natCast_add, Int.natCast_one, ltT, ltF, leT, leF, eqT, eqF, lenLtT, lenLtF, lenLeT, addLeT, lenEqT, mapGet, Int.toNat_natCast, Int.natCast_nonneg, List.length_map, go_sem, ↓reduceIte, reduceCtorEq, Nat.reduceEqDiff, Nat.reduceAdd, Nat.reduceBEq, Nat.reduceMul, Nat.reduceLeDiff, Nat.reduceSub, Nat.reduceLT, Nat.reduceDiv, Nat.reduceMod, List.reduceReplicate, Int.reduceEq, Int.reduceLT, Int.reduceLE, Int.reduceAdd, Int.reduceSub, Int.reduceMul, Int.reduceNeg, Int.reduceToNat, Nat.zero_add]
  rw [if_neg (by omega)]
  obtain ⟨s, hs⟩ : ∃ s, s = slots.toNat := ⟨_, rfl⟩
  obtain ⟨l, hl⟩ : ∃ l, l = live.toNat := ⟨_, rfl⟩
  rw [← hs, ← hl, show slots = (s : Int) by omega, show live = (l : Int) by omega] 
  have h0 := dnew_first0 s l (by omega) (by omega) (by omega)
  have h1 := dnew_first1 s (by omega) (by omega) ((spansN l l).map eSpan) l
  simp only [ob4] at h0 h1
  simp only [eDirectory, dirN]
  rw [callL_code g_directory_New (by simp)]; simp -implicitDefEqProofs (disch := omega) only [c_directory_New, r_directory_New, wr, Int.natCast_mul, Int.cast_ofNat_Int, Int.natCast_zero, List.length_append, lim_eq, wu64, wu32, wu8, Bool.true_beq, Bool.false_beq, beqT, beqF, Int.natCast_add, Int.natCast_one, ltT, ltF, leT, leF, eqT, eqF, lenLtT, lenLtF, lenLeT, addLeT, lenEqT, mapGet, Int.toNat_natCast, Int.natCast_nonneg, List.length_map, go_sem, ↓reduceIte, reduceCtorEq, Nat.reduceEqDiff, Nat.reduceAdd, Nat.reduceBEq, Nat.reduceMul, Nat.reduceLeDiff, Nat.reduceSub, Nat.reduceLT, Nat.reduceDiv, Nat.reduceMod, List.reduceReplicate, Int.reduceEq, Int.reduceLT, Int.reduceLE, Int.reduceAdd, Int.reduceSub, Int.reduceMul, Int.reduceNeg, Int.reduceToNat, h0, h1]
theorem newD_ok {s l : Nat} (h1 : 1 ≤ l) (h2 : l ≤ s) (h3 : s ≤ 6) : newD s l = (dirN s l, 0) := by
  unfold newD
  rw [if_neg (by omega)]
  rfl
theorem dirN_valid : ∀ s l : Nat, 1 ≤ l → l ≤ s → s ≤ 6 → dirV (dirN s l) = 0 ∧ (∀ i, i < s → findS (dirN s l).l i = if i < l then (i : Int) else -1) := by
  have key : ∀ s, s < 7 → ∀ l, l < 7 → 1 ≤ l → l ≤ s → dirV (dirN s l) = 0 ∧ (∀ i, i < s → findS (dirN s l).l i = if i < l then (i : Int) else -1) := by decide
  intro s l h1 h2 h3
  exact key s (by omega) l (by omega) h1 h2
end Go.Proofs.Ytlphhhmicdjljaa
