/-
  The law of built batches: bodies and tokens that are added.
  The law of built batches: tokens that are added.
  The law of built batches: what the functions of both sides give.
  The law of built batches: one round of its loop.
-/
import Derived.Test.YtadnfmkdmknmhaaBdb5d998
import Derived.Test.YtadnfmkdmknmhaaB8171a1c
import Derived.Test.YtadnfmkdmknmhaaB28b2012
set_option linter.unusedSimpArgs false
set_option linter.unusedVariables false
namespace Go.Proofs.Ytadnfmkdmknmhaa
open Go Go.Sim
set_option linter.unusedSimpArgs false
set_option linter.unusedVariables false
set_option maxHeartbeats 10000000
set_option maxRecDepth 40000
def pre14 : List UInt8 := [48, 49, 50, 51, 52, 53, 54, 55, 56, 57, 97, 98, 99, 100]
def iA (ik ih im iv i5 i6 : Int) (B T : Go.Sim.AV) : Go.Sim.AV := .agg [.d (.int .i64 ik), .d (.int .i64 ih), .d (.int .i64 im), .d (.int .i64 iv), .d (.int .i64 i5), .d (.int .i64 i6), B, T]
def e1S (k j : Int) : Env := [(3, .ref 16 0 0), (4, .ref 4 0 0), (5, .d (.int .i64 k)), (6, .ref 6 0 0), (8, .d (.int .i64 j))]
def e1R (k : Int) : Env := [(3, .ref 16 0 0), (4, .ref 4 0 0), (5, .d (.int .i64 k)), (6, .ref 6 0 0)]
def b1H (l : List Int) (x : Setup) (ik ih im iv i5 i6 : Int) (p : List (List UInt8) × Nat × Nat) : Heap := [(4, .row [.d (eSetup x)]), (6, .row [iA ik ih im iv i5 i6 (.acc 500090 (p.1.map D.str)) (.xsl [])]), (16, srcO l p.2.1), (500090, .acc p.1.length)]
theorem bb_bodies (l : List Int) (hL : l.length ≤ 4000) (x : Setup) (k ik ih im iv i5 i6 : Int) : ∀ p : List (List UInt8) × Nat × Nat, p.1.length + p.2.2 ≤ 20 → ∃ (bs : List (List UInt8)) (a' : Nat), bs.length = p.1.length + p.2.2 ∧ loopL G [] l_law17_BatchBuilt_1 ⟨e1S k p.2.2, b1H l x ik ih im iv i5 i6 p⟩ = some (.exit 5, ⟨e1R k, b1H l x ik ih im iv i5 i6 (bs, a', 0)⟩) := by
  refine loop_indP (fun p : List (List UInt8) × Nat × Nat => p.2.2) (fun p : List (List UInt8) × Nat × Nat => p.1.length + p.2.2 ≤ 20) (fun p => ⟨e1S k p.2.2, b1H l x ik ih im iv i5 i6 p⟩) (fun p r => ∃ (bs : List (List UInt8)) (a' : Nat), bs.length = p.1.length + p.2.2 ∧ r = some (.exit 5, ⟨e1R k, b1H l x ik ih im iv i5 i6 (bs, a', 0)⟩)) fun ⟨bs, a, j⟩ hk L ih => ?_
  simp only at hk
  by_cases h0 : 0 < j
  · obtain ⟨s, a1, hs, hb⟩ := body_ok l a hL
    obtain ⟨bs2, a2, h1, h2⟩ := ih (bs ++ [pre14 ++ s], a1, j - 1) (by simp only [List.length_append, List.length_singleton]; omega) (by simp only; omega)
    simp only [List.length_append, List.length_singleton] at h1
    refine ⟨bs2, a2, by simp only; omega, ?_⟩
    have e : ((j - 1 : Nat) : Int) = (j : Int) - 1 := by omega
    clear ih
    simp only [e1S, e1R, b1H, iA, pre14, srcO, e, List.cons_append, List.nil_append] at h2 hb
    simp only [Int.natCast_add, Int.natCast_one, Int.natCast_zero, Int.natCast_mul, Int.cast_ofNat_Int, List.length_append, List.length_map, List.map_nil, List.length_nil, List.map_append, List.map_cons, List.length_cons, Nat.zero_add, srcO, mapSet] at h2
    try simp only [List.cons_append, List.nil_append] at h2
    simp only [l_law17_BatchBuilt_1, e1S, e1R, b1H, iA, srcO]
    (try simp -implicitDefEqProofs (maxSteps := 4000000) (disch := omega) only [getDT, go_sem, *]); (try simp only [pA, pB, pC, pD, pE, pF, pG, pH, pI, pJ, pK, pL, pM, pN, pO, pP, if_true, if_false]); repeat' (first | done | rfl | ((first | refine iteC (fun hq => ?_) (fun hq => ?_) | refine iteP (fun hq => ?_) (fun hq => ?_)) <;> (try (first | (exfalso; omega) | contradiction)) <;> (try simp -implicitDefEqProofs (maxSteps := 4000000) (disch := omega) only [getDT, go_sem, *]) <;> (try simp only [pA, pB, pC, pD, pE, pF, pG, pH, pI, pJ, pK, pL, pM, pN, pO, pP, if_true, if_false]))); (all_goals try rfl); (all_goals try (repeat' (first | done | rfl | (exfalso; omega) | contradiction | (refine iteR (fun hq => ?_) (fun hq => ?_)))))
  · refine ⟨bs, a, by simp only; omega, ?_⟩
    have : j = 0 := by omega
    subst this
    clear ih
    simp only [l_law17_BatchBuilt_1, e1S, e1R, b1H, iA]
    (try simp -implicitDefEqProofs (maxSteps := 4000000) (disch := omega) only [getDT, go_sem, *]); (try simp only [pA, pB, pC, pD, pE, pF, pG, pH, pI, pJ, pK, pL, pM, pN, pO, pP, if_true, if_false]); repeat' (first | done | rfl | ((first | refine iteC (fun hq => ?_) (fun hq => ?_) | refine iteP (fun hq => ?_) (fun hq => ?_)) <;> (try (first | (exfalso; omega) | contradiction)) <;> (try simp -implicitDefEqProofs (maxSteps := 4000000) (disch := omega) only [getDT, go_sem, *]) <;> (try simp only [pA, pB, pC, pD, pE, pF, pG, pH, pI, pJ, pK, pL, pM, pN, pO, pP, if_true, if_false]))); (all_goals try rfl); (all_goals try (repeat' (first | done | rfl | (exfalso; omega) | contradiction | (refine iteR (fun hq => ?_) (fun hq => ?_)))))
def b2H (l : List Int) (x : Setup) (ik ih im iv i5 i6 : Int) (p : List (List UInt8) × Nat × Nat) : Heap := [(4, .row [.d (eSetup x)]), (6, .row [iA ik ih im iv i5 i6 (.acc 24 (p.1.map D.str)) (.xsl [])]), (16, srcO l p.2.1), (24, .acc p.1.length)]
theorem bb_bodiesA (l : List Int) (hL : l.length ≤ 4000) (x : Setup) (k ik ih im iv i5 i6 : Int) : ∀ p : List (List UInt8) × Nat × Nat, p.1.length + p.2.2 ≤ 20 → ∃ (bs : List (List UInt8)) (a' : Nat), bs.length = p.1.length + p.2.2 ∧ loopL G [] l_law17_BatchBuilt_1 ⟨e1S k p.2.2, b2H l x ik ih im iv i5 i6 p⟩ = some (.exit 5, ⟨e1R k, b2H l x ik ih im iv i5 i6 (bs, a', 0)⟩) := by
  refine loop_indP (fun p : List (List UInt8) × Nat × Nat => p.2.2) (fun p : List (List UInt8) × Nat × Nat => p.1.length + p.2.2 ≤ 20) (fun p => ⟨e1S k p.2.2, b2H l x ik ih im iv i5 i6 p⟩) (fun p r => ∃ (bs : List (List UInt8)) (a' : Nat), bs.length = p.1.length + p.2.2 ∧ r = some (.exit 5, ⟨e1R k, b2H l x ik ih im iv i5 i6 (bs, a', 0)⟩)) fun ⟨bs, a, j⟩ hk L ih => ?_
  simp only at hk
  by_cases h0 : 0 < j
  · obtain ⟨s, a1, hs, hb⟩ := body_ok l a hL
    obtain ⟨bs2, a2, h1, h2⟩ := ih (bs ++ [pre14 ++ s], a1, j - 1) (by simp only [List.length_append, List.length_singleton]; omega) (by simp only; omega)
    simp only [List.length_append, List.length_singleton] at h1
    refine ⟨bs2, a2, by simp only; omega, ?_⟩
    have e : ((j - 1 : Nat) : Int) = (j : Int) - 1 := by omega
    clear ih
    simp only [e1S, e1R, b2H, iA, pre14, srcO, e, List.cons_append, List.nil_append] at h2 hb
    simp only [Int.natCast_add, Int.natCast_one, Int.natCast_zero, Int.natCast_mul, Int.cast_ofNat_Int, List.length_append, List.length_map, List.map_nil, List.length_nil, List.map_append, List.map_cons, List.length_cons, Nat.zero_add, srcO, mapSet] at h2
    try simp only [List.cons_append, List.nil_append] at h2
    simp only [l_law17_BatchBuilt_1, e1S, e1R, b2H, iA, srcO]
    (try simp -implicitDefEqProofs (maxSteps := 4000000) (disch := omega) only [getDT, go_sem, *]); (try simp only [pA, pB, pC, pD, pE, pF, pG, pH, pI, pJ, pK, pL, pM, pN, pO, pP, if_true, if_false]); repeat' (first | done | rfl | ((first | refine iteC (fun hq => ?_) (fun hq => ?_) | refine iteP (fun hq => ?_) (fun hq => ?_)) <;> (try (first | (exfalso; omega) | contradiction)) <;> (try simp -implicitDefEqProofs (maxSteps := 4000000) (disch := omega) only [getDT, go_sem, *]) <;> (try simp only [pA, pB, pC, pD, pE, pF, pG, pH, pI, pJ, pK, pL, pM, pN, pO, pP, if_true, if_false]))); (all_goals try rfl); (all_goals try (repeat' (first | done | rfl | (exfalso; omega) | contradiction | (refine iteR (fun hq => ?_) (fun hq => ?_)))))
  · refine ⟨bs, a, by simp only; omega, ?_⟩
    have : j = 0 := by omega
    subst this
    clear ih
    simp only [l_law17_BatchBuilt_1, e1S, e1R, b2H, iA]
    (try simp -implicitDefEqProofs (maxSteps := 4000000) (disch := omega) only [getDT, go_sem, *]); (try simp only [pA, pB, pC, pD, pE, pF, pG, pH, pI, pJ, pK, pL, pM, pN, pO, pP, if_true, if_false]); repeat' (first | done | rfl | ((first | refine iteC (fun hq => ?_) (fun hq => ?_) | refine iteP (fun hq => ?_) (fun hq => ?_)) <;> (try (first | (exfalso; omega) | contradiction)) <;> (try simp -implicitDefEqProofs (maxSteps := 4000000) (disch := omega) only [getDT, go_sem, *]) <;> (try simp only [pA, pB, pC, pD, pE, pF, pG, pH, pI, pJ, pK, pL, pM, pN, pO, pP, if_true, if_false]))); (all_goals try rfl); (all_goals try (repeat' (first | done | rfl | (exfalso; omega) | contradiction | (refine iteR (fun hq => ?_) (fun hq => ?_)))))
theorem bb_firstN (l : List Int) (hL : l.length ≤ 4000) (x : Setup) (k ik ih im iv i5 i6 : Int) (a : Nat) (j : Nat) (h0 : 0 < j) (hj : j ≤ 8) : ∃ (bs2 : List (List UInt8)) (a' : Nat), bs2.length ≤ 20 ∧ loopL G [] l_law17_BatchBuilt_1 ⟨e1S k j, [(4, .row [.d (eSetup x)]), (6, .row [iA ik ih im iv i5 i6 (.xsl []) (.xsl [])]), (16, srcO l a)]⟩ = some (.exit 5, ⟨e1R k, b1H l x ik ih im iv i5 i6 (bs2, a', 0)⟩) := by
  obtain ⟨s, a1, hs, hb⟩ := body_ok l a hL
  obtain ⟨bs2, a2, h1, h2⟩ := bb_bodies l hL x k ik ih im iv i5 i6 ( [pre14 ++ s], a1, j - 1) (by simp only [List.length_append, List.length_cons, List.length_nil]; omega)
  simp only [List.length_append, List.length_cons, List.length_nil] at h1
  refine ⟨bs2, a2, by omega, ?_⟩
  have e : ((j - 1 : Nat) : Int) = (j : Int) - 1 := by omega
  simp only [e1S, e1R, b1H, iA, pre14, srcO, e, List.cons_append, List.nil_append] at h2 hb
  simp only [Int.natCast_add, Int.natCast_one, Int.natCast_zero, Int.natCast_mul, Int.cast_ofNat_Int, List.length_append, List.length_map, List.map_nil, List.length_nil, List.map_append, List.map_cons, List.length_cons, Nat.zero_add, srcO, mapSet] at h2
  try simp only [List.cons_append, List.nil_append] at h2
  rw [loopL_eq]
  generalize loopL G [] l_law17_BatchBuilt_1 = F at *
  simp only [l_law17_BatchBuilt_1, e1S, e1R, b1H, iA, srcO]
  (try simp -implicitDefEqProofs (maxSteps := 4000000) (disch := omega) only [getDT, go_sem, *]); (try simp only [pA, pB, pC, pD, pE, pF, pG, pH, pI, pJ, pK, pL, pM, pN, pO, pP, if_true, if_false]); repeat' (first | done | rfl | ((first | refine iteC (fun hq => ?_) (fun hq => ?_) | refine iteP (fun hq => ?_) (fun hq => ?_)) <;> (try (first | (exfalso; omega) | contradiction)) <;> (try simp -implicitDefEqProofs (maxSteps := 4000000) (disch := omega) only [getDT, go_sem, *]) <;> (try simp only [pA, pB, pC, pD, pE, pF, pG, pH, pI, pJ, pK, pL, pM, pN, pO, pP, if_true, if_false]))); (all_goals try rfl); (all_goals try (repeat' (first | done | rfl | (exfalso; omega) | contradiction | (refine iteR (fun hq => ?_) (fun hq => ?_)))))
theorem bb_firstN_z (l : List Int) (hL : l.length ≤ 4000) (x : Setup) (k ik ih im iv i5 i6 : Int) (a : Nat) : loopL G [] l_law17_BatchBuilt_1 ⟨e1S k 0, [(4, .row [.d (eSetup x)]), (6, .row [iA ik ih im iv i5 i6 (.xsl []) (.xsl [])]), (16, srcO l a)]⟩ = some (.exit 5, ⟨e1R k, [(4, .row [.d (eSetup x)]), (6, .row [iA ik ih im iv i5 i6 (.xsl []) (.xsl [])]), (16, srcO l a)]⟩) := by
  rw [loopL_eq]
  simp only [l_law17_BatchBuilt_1, e1S, e1R, iA]
  (try simp -implicitDefEqProofs (maxSteps := 4000000) (disch := omega) only [getDT, go_sem, *]); (try simp only [pA, pB, pC, pD, pE, pF, pG, pH, pI, pJ, pK, pL, pM, pN, pO, pP, if_true, if_false]); repeat' (first | done | rfl | ((first | refine iteC (fun hq => ?_) (fun hq => ?_) | refine iteP (fun hq => ?_) (fun hq => ?_)) <;> (try (first | (exfalso; omega) | contradiction)) <;> (try simp -implicitDefEqProofs (maxSteps := 4000000) (disch := omega) only [getDT, go_sem, *]) <;> (try simp only [pA, pB, pC, pD, pE, pF, pG, pH, pI, pJ, pK, pL, pM, pN, pO, pP, if_true, if_false]))); (all_goals try rfl); (all_goals try (repeat' (first | done | rfl | (exfalso; omega) | contradiction | (refine iteR (fun hq => ?_) (fun hq => ?_)))))
end Go.Proofs.Ytadnfmkdmknmhaa

namespace Go.Proofs.Ytadnfmkdmknmhaa
open Go Go.Sim
set_option linter.unusedSimpArgs false
set_option linter.unusedVariables false
set_option maxHeartbeats 10000000
set_option maxRecDepth 40000
def e0S (k j : Int) : Env := [(3, .ref 16 0 0), (4, .ref 4 0 0), (5, .d (.int .i64 k)), (6, .ref 6 0 0), (7, .d (.int .i64 j))]
def t0H (l : List Int) (x : Setup) (ik ih im iv i5 i6 : Int) (a : Nat) (ts : List (List UInt8)) : Heap := [(4, .row [.d (eSetup x)]), (6, .row [iA ik ih im iv i5 i6 (.xsl []) (.acc 500073 (ts.map eBytes))]), (16, srcO l a), (500073, .acc ts.length)]
theorem bt_N (l : List Int) (x : Setup) (k ik ih im iv i5 i6 : Int) (a : Nat) : ∀ p : List (List UInt8) × Nat, p.1.length + p.2 ≤ 20 ∧ p.2 ≤ 8 → ∃ ts : List (List UInt8), ts.length = p.1.length + p.2 ∧ loopL G [] l_law17_BatchBuilt_0 ⟨e0S k p.2, t0H l x ik ih im iv i5 i6 a p.1⟩ = some (.exit 3, ⟨e1R k, t0H l x ik ih im iv i5 i6 a ts⟩) := by
  refine loop_indP (fun p : List (List UInt8) × Nat => p.2) (fun p : List (List UInt8) × Nat => p.1.length + p.2 ≤ 20 ∧ p.2 ≤ 8) (fun p => ⟨e0S k p.2, t0H l x ik ih im iv i5 i6 a p.1⟩) (fun p r => ∃ ts : List (List UInt8), ts.length = p.1.length + p.2 ∧ r = some (.exit 3, ⟨e1R k, t0H l x ik ih im iv i5 i6 a ts⟩)) fun ⟨ts, j⟩ hk L ih => ?_
  simp only at hk
  by_cases h0 : 0 < j
  · obtain ⟨ts2, h1, h2⟩ := ih (ts ++ [[UInt8.ofNat j]], j - 1) (by simp only [List.length_append, List.length_singleton]; omega) (by simp only; omega)
    simp only [List.length_append, List.length_singleton] at h1
    refine ⟨ts2, by simp only; omega, ?_⟩
    have e : ((j - 1 : Nat) : Int) = (j : Int) - 1 := by omega
    have e8 : ((UInt8.ofNat j).toNat : Int) = j := by rw [UInt8.toNat_ofNat']; omega
    have ew : IntKind.u8.wrap (j : Int) = j := wu8 (by omega)
    clear ih
    simp only [e0S, e1R, t0H, iA, srcO, e] at h2
    simp only [Int.natCast_add, Int.natCast_one, Int.natCast_zero, Int.natCast_mul, Int.cast_ofNat_Int, List.length_append, List.length_map, List.map_nil, List.length_nil, List.map_append, List.map_cons, List.length_cons, Nat.zero_add, srcO, mapSet] at h2
    simp only [eBytes, List.map_cons, List.map_nil, byD, e8] at h2
    simp only [l_law17_BatchBuilt_0, e0S, e1R, t0H, iA, srcO]
    (try simp -implicitDefEqProofs (maxSteps := 4000000) (disch := omega) only [eBytes, byD, getDT, go_sem, *]); (try simp only [pA, pB, pC, pD, pE, pF, pG, pH, pI, pJ, pK, pL, pM, pN, pO, pP, if_true, if_false]); repeat' (first | done | rfl | ((first | refine iteC (fun hq => ?_) (fun hq => ?_) | refine iteP (fun hq => ?_) (fun hq => ?_)) <;> (try (first | (exfalso; omega) | contradiction)) <;> (try simp -implicitDefEqProofs (maxSteps := 4000000) (disch := omega) only [eBytes, byD, getDT, go_sem, *]) <;> (try simp only [pA, pB, pC, pD, pE, pF, pG, pH, pI, pJ, pK, pL, pM, pN, pO, pP, if_true, if_false]))); (all_goals try rfl); (all_goals try (repeat' (first | done | rfl | (exfalso; omega) | contradiction | (refine iteR (fun hq => ?_) (fun hq => ?_)))))
  · refine ⟨ts, by simp only; omega, ?_⟩
    have : j = 0 := by omega
    subst this
    clear ih
    simp only [l_law17_BatchBuilt_0, e0S, e1R, t0H, iA]
    (try simp -implicitDefEqProofs (maxSteps := 4000000) (disch := omega) only [getDT, go_sem, *]); (try simp only [pA, pB, pC, pD, pE, pF, pG, pH, pI, pJ, pK, pL, pM, pN, pO, pP, if_true, if_false]); repeat' (first | done | rfl | ((first | refine iteC (fun hq => ?_) (fun hq => ?_) | refine iteP (fun hq => ?_) (fun hq => ?_)) <;> (try (first | (exfalso; omega) | contradiction)) <;> (try simp -implicitDefEqProofs (maxSteps := 4000000) (disch := omega) only [getDT, go_sem, *]) <;> (try simp only [pA, pB, pC, pD, pE, pF, pG, pH, pI, pJ, pK, pL, pM, pN, pO, pP, if_true, if_false]))); (all_goals try rfl); (all_goals try (repeat' (first | done | rfl | (exfalso; omega) | contradiction | (refine iteR (fun hq => ?_) (fun hq => ?_)))))
theorem bt_N1 (l : List Int) (x : Setup) (k ik ih im iv i5 i6 : Int) (a : Nat) (j : Nat) (h0 : 0 < j) (hj : j ≤ 8) : ∃ ts : List (List UInt8), ts.length ≤ 20 ∧ loopL G [] l_law17_BatchBuilt_0 ⟨e0S k j, [(4, .row [.d (eSetup x)]), (6, .row [iA ik ih im iv i5 i6 (.xsl []) (.xsl [])]), (16, srcO l a)]⟩ = some (.exit 3, ⟨e1R k, t0H l x ik ih im iv i5 i6 a ts⟩) := by
  obtain ⟨ts2, h1, h2⟩ := bt_N l x k ik ih im iv i5 i6 a ([[UInt8.ofNat j]], j - 1) ⟨by simp only [List.length_singleton]; omega, by simp only; omega⟩
  simp only [List.length_singleton] at h1
  refine ⟨ts2, by omega, ?_⟩
  have e : ((j - 1 : Nat) : Int) = (j : Int) - 1 := by omega
  have e8 : ((UInt8.ofNat j).toNat : Int) = j := by rw [UInt8.toNat_ofNat']; omega
  have ew : IntKind.u8.wrap (j : Int) = j := wu8 (by omega)
  simp only [e0S, e1R, t0H, iA, srcO, e] at h2
  simp only [Int.natCast_add, Int.natCast_one, Int.natCast_zero, Int.natCast_mul, Int.cast_ofNat_Int, List.length_append, List.length_map, List.map_nil, List.length_nil, List.map_append, List.map_cons, List.length_cons, Nat.zero_add, srcO, mapSet] at h2
  simp only [eBytes, List.map_cons, List.map_nil, byD, e8] at h2
  rw [loopL_eq]
  generalize loopL G [] l_law17_BatchBuilt_0 = F at *
  simp only [l_law17_BatchBuilt_0, e0S, e1R, t0H, iA, srcO]
  (try simp -implicitDefEqProofs (maxSteps := 4000000) (disch := omega) only [eBytes, byD, getDT, go_sem, *]); (try simp only [pA, pB, pC, pD, pE, pF, pG, pH, pI, pJ, pK, pL, pM, pN, pO, pP, if_true, if_false]); repeat' (first | done | rfl | ((first | refine iteC (fun hq => ?_) (fun hq => ?_) | refine iteP (fun hq => ?_) (fun hq => ?_)) <;> (try (first | (exfalso; omega) | contradiction)) <;> (try simp -implicitDefEqProofs (maxSteps := 4000000) (disch := omega) only [eBytes, byD, getDT, go_sem, *]) <;> (try simp only [pA, pB, pC, pD, pE, pF, pG, pH, pI, pJ, pK, pL, pM, pN, pO, pP, if_true, if_false]))); (all_goals try rfl); (all_goals try (repeat' (first | done | rfl | (exfalso; omega) | contradiction | (refine iteR (fun hq => ?_) (fun hq => ?_)))))
theorem bt_N_z (l : List Int) (x : Setup) (k ik ih im iv i5 i6 : Int) (a : Nat) : loopL G [] l_law17_BatchBuilt_0 ⟨e0S k 0, [(4, .row [.d (eSetup x)]), (6, .row [iA ik ih im iv i5 i6 (.xsl []) (.xsl [])]), (16, srcO l a)]⟩ = some (.exit 3, ⟨e1R k, [(4, .row [.d (eSetup x)]), (6, .row [iA ik ih im iv i5 i6 (.xsl []) (.xsl [])]), (16, srcO l a)]⟩) := by
  rw [loopL_eq]
  simp only [l_law17_BatchBuilt_0, e0S, e1R, iA]
  (try simp -implicitDefEqProofs (maxSteps := 4000000) (disch := omega) only [getDT, go_sem, *]); (try simp only [pA, pB, pC, pD, pE, pF, pG, pH, pI, pJ, pK, pL, pM, pN, pO, pP, if_true, if_false]); repeat' (first | done | rfl | ((first | refine iteC (fun hq => ?_) (fun hq => ?_) | refine iteP (fun hq => ?_) (fun hq => ?_)) <;> (try (first | (exfalso; omega) | contradiction)) <;> (try simp -implicitDefEqProofs (maxSteps := 4000000) (disch := omega) only [getDT, go_sem, *]) <;> (try simp only [pA, pB, pC, pD, pE, pF, pG, pH, pI, pJ, pK, pL, pM, pN, pO, pP, if_true, if_false]))); (all_goals try rfl); (all_goals try (repeat' (first | done | rfl | (exfalso; omega) | contradiction | (refine iteR (fun hq => ?_) (fun hq => ?_)))))
def t1H (l : List Int) (x : Setup) (ik ih im iv i5 i6 : Int) (a : Nat) (b : List UInt8) (bs : List (List UInt8)) (ts : List (List UInt8)) : Heap := [(4, .row [.d (eSetup x)]), (6, .row [iA ik ih im iv i5 i6 (.osl 24 0 (bs.length + 1)) (.acc 500073 (ts.map eBytes))]), (16, srcO l a), (24, .row (AV.d (D.str b) :: (bs.map D.str).map .d)), (500073, .acc ts.length)]
theorem bt_B (l : List Int) (x : Setup) (k ik ih im iv i5 i6 : Int) (a : Nat) (b : List UInt8) (bs : List (List UInt8)) : ∀ p : List (List UInt8) × Nat, p.1.length + p.2 ≤ 20 ∧ p.2 ≤ 8 → ∃ ts : List (List UInt8), ts.length = p.1.length + p.2 ∧ loopL G [] l_law17_BatchBuilt_0 ⟨e0S k p.2, t1H l x ik ih im iv i5 i6 a b bs p.1⟩ = some (.exit 3, ⟨e1R k, t1H l x ik ih im iv i5 i6 a b bs ts⟩) := by
  refine loop_indP (fun p : List (List UInt8) × Nat => p.2) (fun p : List (List UInt8) × Nat => p.1.length + p.2 ≤ 20 ∧ p.2 ≤ 8) (fun p => ⟨e0S k p.2, t1H l x ik ih im iv i5 i6 a b bs p.1⟩) (fun p r => ∃ ts : List (List UInt8), ts.length = p.1.length + p.2 ∧ r = some (.exit 3, ⟨e1R k, t1H l x ik ih im iv i5 i6 a b bs ts⟩)) fun ⟨ts, j⟩ hk L ih => ?_
  simp only at hk
  by_cases h0 : 0 < j
  · obtain ⟨ts2, h1, h2⟩ := ih (ts ++ [[UInt8.ofNat j]], j - 1) (by simp only [List.length_append, List.length_singleton]; omega) (by simp only; omega)
    simp only [List.length_append, List.length_singleton] at h1
    refine ⟨ts2, by simp only; omega, ?_⟩
    have e : ((j - 1 : Nat) : Int) = (j : Int) - 1 := by omega
    have e8 : ((UInt8.ofNat j).toNat : Int) = j := by rw [UInt8.toNat_ofNat']; omega
    have ew : IntKind.u8.wrap (j : Int) = j := wu8 (by omega)
    clear ih
    simp only [e0S, e1R, t1H, iA, srcO, e] at h2
    simp only [Int.natCast_add, Int.natCast_one, Int.natCast_zero, Int.natCast_mul, Int.cast_ofNat_Int, List.length_append, List.length_map, List.map_nil, List.length_nil, List.map_append, List.map_cons, List.length_cons, Nat.zero_add, srcO, mapSet] at h2
    simp only [eBytes, List.map_cons, List.map_nil, byD, e8] at h2
    simp only [l_law17_BatchBuilt_0, e0S, e1R, t1H, iA, srcO]
    (try simp -implicitDefEqProofs (maxSteps := 4000000) (disch := omega) only [eBytes, byD, getDT, go_sem, *]); (try simp only [pA, pB, pC, pD, pE, pF, pG, pH, pI, pJ, pK, pL, pM, pN, pO, pP, if_true, if_false]); repeat' (first | done | rfl | ((first | refine iteC (fun hq => ?_) (fun hq => ?_) | refine iteP (fun hq => ?_) (fun hq => ?_)) <;> (try (first | (exfalso; omega) | contradiction)) <;> (try simp -implicitDefEqProofs (maxSteps := 4000000) (disch := omega) only [eBytes, byD, getDT, go_sem, *]) <;> (try simp only [pA, pB, pC, pD, pE, pF, pG, pH, pI, pJ, pK, pL, pM, pN, pO, pP, if_true, if_false]))); (all_goals try rfl); (all_goals try (repeat' (first | done | rfl | (exfalso; omega) | contradiction | (refine iteR (fun hq => ?_) (fun hq => ?_)))))
  · refine ⟨ts, by simp only; omega, ?_⟩
    have : j = 0 := by omega
    subst this
    clear ih
    simp only [l_law17_BatchBuilt_0, e0S, e1R, t1H, iA]
    (try simp -implicitDefEqProofs (maxSteps := 4000000) (disch := omega) only [getDT, go_sem, *]); (try simp only [pA, pB, pC, pD, pE, pF, pG, pH, pI, pJ, pK, pL, pM, pN, pO, pP, if_true, if_false]); repeat' (first | done | rfl | ((first | refine iteC (fun hq => ?_) (fun hq => ?_) | refine iteP (fun hq => ?_) (fun hq => ?_)) <;> (try (first | (exfalso; omega) | contradiction)) <;> (try simp -implicitDefEqProofs (maxSteps := 4000000) (disch := omega) only [getDT, go_sem, *]) <;> (try simp only [pA, pB, pC, pD, pE, pF, pG, pH, pI, pJ, pK, pL, pM, pN, pO, pP, if_true, if_false]))); (all_goals try rfl); (all_goals try (repeat' (first | done | rfl | (exfalso; omega) | contradiction | (refine iteR (fun hq => ?_) (fun hq => ?_)))))
theorem bt_B1 (l : List Int) (x : Setup) (k ik ih im iv i5 i6 : Int) (a : Nat) (b : List UInt8) (bs : List (List UInt8)) (j : Nat) (h0 : 0 < j) (hj : j ≤ 8) : ∃ ts : List (List UInt8), ts.length ≤ 20 ∧ loopL G [] l_law17_BatchBuilt_0 ⟨e0S k j, [(4, .row [.d (eSetup x)]), (6, .row [iA ik ih im iv i5 i6 (.osl 24 0 (bs.length + 1)) (.xsl [])]), (16, srcO l a), (24, .row (AV.d (D.str b) :: (bs.map D.str).map .d))]⟩ = some (.exit 3, ⟨e1R k, t1H l x ik ih im iv i5 i6 a b bs ts⟩) := by
  obtain ⟨ts2, h1, h2⟩ := bt_B l x k ik ih im iv i5 i6 a b bs ([[UInt8.ofNat j]], j - 1) ⟨by simp only [List.length_singleton]; omega, by simp only; omega⟩
  simp only [List.length_singleton] at h1
  refine ⟨ts2, by omega, ?_⟩
  have e : ((j - 1 : Nat) : Int) = (j : Int) - 1 := by omega
  have e8 : ((UInt8.ofNat j).toNat : Int) = j := by rw [UInt8.toNat_ofNat']; omega
  have ew : IntKind.u8.wrap (j : Int) = j := wu8 (by omega)
  simp only [e0S, e1R, t1H, iA, srcO, e] at h2
  simp only [Int.natCast_add, Int.natCast_one, Int.natCast_zero, Int.natCast_mul, Int.cast_ofNat_Int, List.length_append, List.length_map, List.map_nil, List.length_nil, List.map_append, List.map_cons, List.length_cons, Nat.zero_add, srcO, mapSet] at h2
  simp only [eBytes, List.map_cons, List.map_nil, byD, e8] at h2
  rw [loopL_eq]
  generalize loopL G [] l_law17_BatchBuilt_0 = F at *
  simp only [l_law17_BatchBuilt_0, e0S, e1R, t1H, iA, srcO]
  (try simp -implicitDefEqProofs (maxSteps := 4000000) (disch := omega) only [eBytes, byD, getDT, go_sem, *]); (try simp only [pA, pB, pC, pD, pE, pF, pG, pH, pI, pJ, pK, pL, pM, pN, pO, pP, if_true, if_false]); repeat' (first | done | rfl | ((first | refine iteC (fun hq => ?_) (fun hq => ?_) | refine iteP (fun hq => ?_) (fun hq => ?_)) <;> (try (first | (exfalso; omega) | contradiction)) <;> (try simp -implicitDefEqProofs (maxSteps := 4000000) (disch := omega) only [eBytes, byD, getDT, go_sem, *]) <;> (try simp only [pA, pB, pC, pD, pE, pF, pG, pH, pI, pJ, pK, pL, pM, pN, pO, pP, if_true, if_false]))); (all_goals try rfl); (all_goals try (repeat' (first | done | rfl | (exfalso; omega) | contradiction | (refine iteR (fun hq => ?_) (fun hq => ?_)))))
theorem bt_B_z (l : List Int) (x : Setup) (k ik ih im iv i5 i6 : Int) (a : Nat) (b : List UInt8) (bs : List (List UInt8)) : loopL G [] l_law17_BatchBuilt_0 ⟨e0S k 0, [(4, .row [.d (eSetup x)]), (6, .row [iA ik ih im iv i5 i6 (.osl 24 0 (bs.length + 1)) (.xsl [])]), (16, srcO l a), (24, .row (AV.d (D.str b) :: (bs.map D.str).map .d))]⟩ = some (.exit 3, ⟨e1R k, [(4, .row [.d (eSetup x)]), (6, .row [iA ik ih im iv i5 i6 (.osl 24 0 (bs.length + 1)) (.xsl [])]), (16, srcO l a), (24, .row (AV.d (D.str b) :: (bs.map D.str).map .d))]⟩) := by
  rw [loopL_eq]
  simp only [l_law17_BatchBuilt_0, e0S, e1R, iA]
  (try simp -implicitDefEqProofs (maxSteps := 4000000) (disch := omega) only [getDT, go_sem, *]); (try simp only [pA, pB, pC, pD, pE, pF, pG, pH, pI, pJ, pK, pL, pM, pN, pO, pP, if_true, if_false]); repeat' (first | done | rfl | ((first | refine iteC (fun hq => ?_) (fun hq => ?_) | refine iteP (fun hq => ?_) (fun hq => ?_)) <;> (try (first | (exfalso; omega) | contradiction)) <;> (try simp -implicitDefEqProofs (maxSteps := 4000000) (disch := omega) only [getDT, go_sem, *]) <;> (try simp only [pA, pB, pC, pD, pE, pF, pG, pH, pI, pJ, pK, pL, pM, pN, pO, pP, if_true, if_false]))); (all_goals try rfl); (all_goals try (repeat' (first | done | rfl | (exfalso; omega) | contradiction | (refine iteR (fun hq => ?_) (fun hq => ?_)))))
end Go.Proofs.Ytadnfmkdmknmhaa

namespace Go.Proofs.Ytadnfmkdmknmhaa
open Go Go.Sim
set_option linter.unusedSimpArgs false
set_option linter.unusedVariables false
set_option maxHeartbeats 10000000
set_option maxRecDepth 40000
def iD (k h m v f t : Int) (B T : List D) : D := .agg [.int .i64 k, .int .i64 h, .int .i64 m, .int .i64 v, .int .i64 f, .int .i64 t, .sl B, .sl T]
theorem inv_facts (x : Setup) (hx : okSetup x = true) (hs : 1 ≤ x.slots ∧ x.slots ≤ 6) (bs ts : List (List UInt8)) (hB : bs.length ≤ 1000) (hT : ts.length ≤ 1000) : ∃ (Rf : Int → Int → Int → Int → Int → Int → Int → Int → D) (Ef : Int → Int → Int → Int → Int → Int → Int → Int → Int) (Vf Nf : Int → Int → Int → Int → Int → Int → Int),
    (∀ k h m v f t a b, (Rf k h m v f t a b).size = 63) ∧ (∀ k h m v f t a b, (Rf k h m v f t a b).isT = false) ∧ (∀ k h m v f t a b, (Rf k h m v f t a b).asAgg = Rf k h m v f t a b) ∧
    (∀ k h m v f t a b, callL G N_batch_Start [.d (.int .i64 a), .d (iD k h m v f t (bs.map .str) (ts.map eBytes)), .d (eSetup x), .d (.int .i64 b)] [] = some (.d (.tup [Rf k h m v f t a b, .int .i64 (Ef k h m v f t a b)]), [])) ∧
    (∀ k h m v f t a b, callL G N_ref17_Start [.d (.int .i64 a), .d (iD k h m v f t (bs.map .str) (ts.map eBytes)), .d (eSetup x), .d (.int .i64 b)] [] = some (.d (.tup [Rf k h m v f t a b, .int .i64 (Ef k h m v f t a b)]), [])) ∧
    (∀ k h m v f t a b, callL G N_law17_same [.d (Rf k h m v f t a b), .d (Rf k h m v f t a b)] [] = some (.d (.bool true), [])) ∧
    (∀ k h m v f t, callL G N_batch_Validate [.d (iD k h m v f t (bs.map .str) (ts.map eBytes)), .d (eSetup x)] [] = some (.d (.int .i64 (Vf k h m v f t)), [])) ∧
    (∀ k h m v f t, callL G N_ref17_Validate [.d (iD k h m v f t (bs.map .str) (ts.map eBytes)), .d (eSetup x)] [] = some (.d (.int .i64 (Vf k h m v f t)), [])) ∧
    (∀ k h m v f t, callL G N_batch_Entries [.d (iD k h m v f t (bs.map .str) (ts.map eBytes))] [] = some (.d (.int .i64 (Nf k h m v f t)), [])) ∧
    (∀ k h m v f t, callL G N_ref17_Entries [.d (iD k h m v f t (bs.map .str) (ts.map eBytes))] [] = some (.d (.int .i64 (Nf k h m v f t)), [])) := by
  have hB' : bs.length ≤ 4294967296 := by omega
  have hT' : ts.length ≤ 4294967296 := by omega
  refine ⟨fun k h m v f t a b => eTask (batchStart a ⟨k, h, m, v, f, t, bs, ts⟩ x b).1, fun k h m v f t a b => (batchStart a ⟨k, h, m, v, f, t, bs, ts⟩ x b).2, fun k h m v f t => batchV ⟨k, h, m, v, f, t, bs, ts⟩ x, fun k h m v f t => entriesI ⟨k, h, m, v, f, t, bs, ts⟩, fun _ _ _ _ _ _ _ _ => eTask_size _, fun _ _ _ _ _ _ _ _ => eTask_isT _, fun _ _ _ _ _ _ _ _ => eTask_asAgg _, ?_, ?_, ?_, ?_, ?_, ?_, ?_⟩
  · exact fun k h m v f t a b => bStart_ok a ⟨k, h, m, v, f, t, bs, ts⟩ x b hB' hT'
  · exact fun k h m v f t a b => r17start_ok a b (i := ⟨k, h, m, v, f, t, bs, ts⟩) hx hs hT' hB'
  · intro k h m v f t a b
    have h0 := same17_ok 0 0 (i := zInvocation) (s := zSetup) (by simp [zInvocation]) (by simp [zInvocation])
    have h1 := same17_ok a b (i := ⟨k, h, m, v, f, t, bs, ts⟩) (s := x) hT' hB'
    have e : startT 0 zInvocation zSetup 0 = zTask := rfl
    rw [e] at h0
    simp only
    unfold batchStart
    split
    · exact h0
    split
    · exact h0
    split
    · exact h0
    split
    · exact h0
    · exact h1
  · exact fun k h m v f t => bVal_ok ⟨k, h, m, v, f, t, bs, ts⟩ x hB' hT'
  · intro k h m v f t
    have := val17_ok (i := ⟨k, h, m, v, f, t, bs, ts⟩) hs hT' hB'
    rw [invV_batchV hs] at this
    exact this
  · exact fun k h m v f t => entries_ok ⟨k, h, m, v, f, t, bs, ts⟩
  · exact fun k h m v f t => refEntries_ok ⟨k, h, m, v, f, t, bs, ts⟩
end Go.Proofs.Ytadnfmkdmknmhaa

namespace Go.Proofs.Ytadnfmkdmknmhaa
open Go Go.Sim
set_option linter.unusedSimpArgs false
set_option linter.unusedVariables false
set_option maxHeartbeats 10000000
set_option maxRecDepth 40000
def bbS (l : List Int) (x : Setup) (p : Nat × Nat) : St := ⟨[(3, .ref 16 0 0), (4, .ref 4 0 0), (5, .d (.int .i64 p.1))], [(4, .row [.d (eSetup x)]), (16, srcO l p.2)]⟩
theorem bb_roundN (l : List Int) (hL : l.length ≤ 4000) (x : Setup) (hx : okSetup x = true) (hs : 1 ≤ x.slots ∧ x.slots ≤ 6) (k a a1 : Nat) (hk : k < 6) (ck cp cb ik i2 im iv i5 i6 : Int) (L : St → Option (AExit × St)) (ih : ∀ a', L (bbS l x (k + 1, a')) = some (.exit 0, ⟨[], []⟩)) (hcmd : callL G N_base_Src_Command [.ref 1000000 0 0] [(1000000, srcO l a)] = some (.agg [.d (.int .i64 ck), .d (.int .i64 cp), .d (.int .i64 cb), .d (.int .i64 ik), .d (.int .i64 i2), .d (.int .i64 im), .d (.int .i64 iv), .d (.int .i64 i5), .d (.int .i64 i6), .xsl [], .xsl [], .xsl []], (1000000, srcO l a1) :: [])) : (exL G l_law17_BatchBuilt_2 (bbS l x (k, a))).bind (loopF [] L) = some (.exit 0, ⟨[], []⟩) := by
  have hn := fun at1 m => n_ok l at1 m hL
  have hr16 := fun at1 => range_ok l at1 0 15 hL (by omega) (by omega) (by omega) (by omega)
  have hr7 := fun at1 => range_ok l at1 (-1) 5 hL (by omega) (by omega) (by omega) (by omega)
  have hr11 := fun at1 => range_ok l at1 (-1) 9 hL (by omega) (by omega) (by omega) (by omega)
  simp only [Int.zero_add, Int.sub_zero, Int.reduceAdd, Int.reduceSub, Int.reduceNeg] at hr16 hr7 hr11
  have p1 := fun at1 => pickF_ok l at1 [0, 6, 7] hL (by simp) (by simp)
  have p2 := fun at1 => pickF_ok l at1 [-1, 1000, 1001] hL (by simp) (by simp)
  have p5 := fun at1 => pickF_ok l at1 [1, 5, 200, 0, 201] hL (by simp) (by simp)
  simp only [ints, List.map_cons, List.map_nil] at p1 p2 p5
  have ss := eSetup_size x
  have si := eSetup_isT x
  have sa := eSetup_asAgg x
  obtain ⟨Rf, Ef, Vf, Nf, f1, f2, f3, f4, f5, f6, f7, f8, f9, f10⟩ := inv_facts x hx hs [] [] (by simp) (by simp)
  simp only [iD, List.map_nil, List.map_cons] at f4 f5 f6 f7 f8 f9 f10
  simp only [bbS, srcO, List.append_nil, List.nil_append] at hcmd ih ⊢
  simp only [Int.natCast_add, Int.natCast_one, Int.natCast_zero, Int.natCast_mul, Int.cast_ofNat_Int, List.length_append, List.length_map, List.map_nil, List.length_nil, List.map_append, List.map_cons, List.length_cons, Nat.zero_add, srcO, mapSet] at ih
  obtain ⟨a2, q2⟩ : ∃ a2, (rawD l a1).2 = a2 := ⟨_, rfl⟩
  by_cases n1 : nD l a1 3 = 0
  · obtain ⟨a3, q3⟩ : ∃ a3, (rawD l a2).2 = a3 := ⟨_, rfl⟩
    have n8 := nD_in l a3 (n := 8) (by omega)
    obtain ⟨a5, q5⟩ : ∃ a5, (rawD l a3).2 = a5 := ⟨_, rfl⟩
    obtain ⟨a6, q6⟩ : ∃ a6, (rawD l a5).2 = a6 := ⟨_, rfl⟩
    have n9 := nD_in l a5 (n := 9) (by omega)
    by_cases w4 : nD l a3 8 = 4
    · obtain ⟨j, hj⟩ : ∃ j : Nat, nD l a5 9 = j := ⟨(nD l a5 9).toNat, by omega⟩
      by_cases j0 : j = 0
      · subst j0
        have hl := bt_N_z l x k (nD l a2 16) i2 im iv i5 i6 a6
        clear p1 p2 hr7 n9
        simp only [l_law17_BatchBuilt_2]
        generalize hF : loopL G [] l_law17_BatchBuilt_0 = F at *
        simp only [e0S, e1R, iA, srcO, Int.natCast_zero] at hl hj
        (try simp -implicitDefEqProofs (maxSteps := 4000000) (disch := omega) only [getDT, go_sem, *]); (try simp only [pA, pB, pC, pD, pE, pF, pG, pH, pI, pJ, pK, pL, pM, pN, pO, pP, if_true, if_false]); repeat' (first | done | rfl | ((first | refine iteC (fun hq => ?_) (fun hq => ?_) | refine iteP (fun hq => ?_) (fun hq => ?_)) <;> (try (first | (exfalso; omega) | contradiction)) <;> (try simp -implicitDefEqProofs (maxSteps := 4000000) (disch := omega) only [getDT, go_sem, *]) <;> (try simp only [pA, pB, pC, pD, pE, pF, pG, pH, pI, pJ, pK, pL, pM, pN, pO, pP, if_true, if_false]))); (all_goals try rfl); (all_goals try (repeat' (first | done | rfl | (exfalso; omega) | contradiction | (refine iteR (fun hq => ?_) (fun hq => ?_)))))
      · obtain ⟨ts, hts, hl⟩ := bt_N1 l x k (nD l a2 16) i2 im iv i5 i6 a6 j (by omega) (by omega)
        clear f1 f2 f3 f4 f5 f6 f7 f8 f9 f10
        clear Rf Ef Vf Nf
        obtain ⟨Rf, Ef, Vf, Nf, f1, f2, f3, f4, f5, f6, f7, f8, f9, f10⟩ := inv_facts x hx hs [] ts (by simp) (by omega)
        simp only [iD, List.map_nil, List.map_cons] at f4 f5 f6 f7 f8 f9 f10
        clear p1 p2 hr7 n9 j0 hts
        simp only [l_law17_BatchBuilt_2]
        generalize hF : loopL G [] l_law17_BatchBuilt_0 = F at *
        simp only [e0S, e1R, iA, t0H, srcO] at hl
        (try simp -implicitDefEqProofs (maxSteps := 4000000) (disch := omega) only [getDT, go_sem, *]); (try simp only [pA, pB, pC, pD, pE, pF, pG, pH, pI, pJ, pK, pL, pM, pN, pO, pP, if_true, if_false]); repeat' (first | done | rfl | ((first | refine iteC (fun hq => ?_) (fun hq => ?_) | refine iteP (fun hq => ?_) (fun hq => ?_)) <;> (try (first | (exfalso; omega) | contradiction)) <;> (try simp -implicitDefEqProofs (maxSteps := 4000000) (disch := omega) only [getDT, go_sem, *]) <;> (try simp only [pA, pB, pC, pD, pE, pF, pG, pH, pI, pJ, pK, pL, pM, pN, pO, pP, if_true, if_false]))); (all_goals try rfl); (all_goals try (repeat' (first | done | rfl | (exfalso; omega) | contradiction | (refine iteR (fun hq => ?_) (fun hq => ?_)))))
    by_cases w5 : nD l a3 8 = 5
    · obtain ⟨j, hj⟩ : ∃ j : Nat, nD l a5 9 = j := ⟨(nD l a5 9).toNat, by omega⟩
      by_cases j0 : j = 0
      · subst j0
        have hl := bb_firstN_z l hL x k (nD l a2 16) i2 im iv i5 i6 a6
        clear p1 p2 hr7 n9
        simp only [l_law17_BatchBuilt_2]
        generalize hF : loopL G [] l_law17_BatchBuilt_1 = F at *
        simp only [e1S, e1R, iA, srcO, Int.natCast_zero] at hl hj
        (try simp -implicitDefEqProofs (maxSteps := 4000000) (disch := omega) only [getDT, go_sem, *]); (try simp only [pA, pB, pC, pD, pE, pF, pG, pH, pI, pJ, pK, pL, pM, pN, pO, pP, if_true, if_false]); repeat' (first | done | rfl | ((first | refine iteC (fun hq => ?_) (fun hq => ?_) | refine iteP (fun hq => ?_) (fun hq => ?_)) <;> (try (first | (exfalso; omega) | contradiction)) <;> (try simp -implicitDefEqProofs (maxSteps := 4000000) (disch := omega) only [getDT, go_sem, *]) <;> (try simp only [pA, pB, pC, pD, pE, pF, pG, pH, pI, pJ, pK, pL, pM, pN, pO, pP, if_true, if_false]))); (all_goals try rfl); (all_goals try (repeat' (first | done | rfl | (exfalso; omega) | contradiction | (refine iteR (fun hq => ?_) (fun hq => ?_)))))
      · obtain ⟨bs2, a7, hbs2, hl⟩ := bb_firstN l hL x k (nD l a2 16) i2 im iv i5 i6 a6 j (by omega) (by omega)
        clear f1 f2 f3 f4 f5 f6 f7 f8 f9 f10
        clear Rf Ef Vf Nf
        obtain ⟨Rf, Ef, Vf, Nf, f1, f2, f3, f4, f5, f6, f7, f8, f9, f10⟩ := inv_facts x hx hs bs2 [] (by omega) (by simp)
        simp only [iD, List.map_nil, List.map_cons] at f4 f5 f6 f7 f8 f9 f10
        clear p1 p2 hr7 n9 hbs2 j0
        simp only [l_law17_BatchBuilt_2]
        generalize hF : loopL G [] l_law17_BatchBuilt_1 = F at *
        simp only [e1S, e1R, iA, b1H, srcO] at hl
        (try simp -implicitDefEqProofs (maxSteps := 4000000) (disch := omega) only [getDT, go_sem, *]); (try simp only [pA, pB, pC, pD, pE, pF, pG, pH, pI, pJ, pK, pL, pM, pN, pO, pP, if_true, if_false]); repeat' (first | done | rfl | ((first | refine iteC (fun hq => ?_) (fun hq => ?_) | refine iteP (fun hq => ?_) (fun hq => ?_)) <;> (try (first | (exfalso; omega) | contradiction)) <;> (try simp -implicitDefEqProofs (maxSteps := 4000000) (disch := omega) only [getDT, go_sem, *]) <;> (try simp only [pA, pB, pC, pD, pE, pF, pG, pH, pI, pJ, pK, pL, pM, pN, pO, pP, if_true, if_false]))); (all_goals try rfl); (all_goals try (repeat' (first | done | rfl | (exfalso; omega) | contradiction | (refine iteR (fun hq => ?_) (fun hq => ?_)))))
    clear n9 q6 q5
    simp only [l_law17_BatchBuilt_2]
    have w : nD l a3 8 = 0 ∨ nD l a3 8 = 1 ∨ nD l a3 8 = 2 ∨ nD l a3 8 = 3 ∨ nD l a3 8 = 6 ∨ nD l a3 8 = 7 := by omega
    clear w4 w5 n8
    rcases w with w | w | w | w | w | w
    · (try simp -implicitDefEqProofs (maxSteps := 4000000) (disch := omega) only [getDT, go_sem, *]); (try simp only [pA, pB, pC, pD, pE, pF, pG, pH, pI, pJ, pK, pL, pM, pN, pO, pP, if_true, if_false]); repeat' (first | done | rfl | ((first | refine iteC (fun hq => ?_) (fun hq => ?_) | refine iteP (fun hq => ?_) (fun hq => ?_)) <;> (try (first | (exfalso; omega) | contradiction)) <;> (try simp -implicitDefEqProofs (maxSteps := 4000000) (disch := omega) only [getDT, go_sem, *]) <;> (try simp only [pA, pB, pC, pD, pE, pF, pG, pH, pI, pJ, pK, pL, pM, pN, pO, pP, if_true, if_false]))); (all_goals try rfl); (all_goals try (repeat' (first | done | rfl | (exfalso; omega) | contradiction | (refine iteR (fun hq => ?_) (fun hq => ?_)))))
    · (try simp -implicitDefEqProofs (maxSteps := 4000000) (disch := omega) only [getDT, go_sem, *]); (try simp only [pA, pB, pC, pD, pE, pF, pG, pH, pI, pJ, pK, pL, pM, pN, pO, pP, if_true, if_false]); repeat' (first | done | rfl | ((first | refine iteC (fun hq => ?_) (fun hq => ?_) | refine iteP (fun hq => ?_) (fun hq => ?_)) <;> (try (first | (exfalso; omega) | contradiction)) <;> (try simp -implicitDefEqProofs (maxSteps := 4000000) (disch := omega) only [getDT, go_sem, *]) <;> (try simp only [pA, pB, pC, pD, pE, pF, pG, pH, pI, pJ, pK, pL, pM, pN, pO, pP, if_true, if_false]))); (all_goals try rfl); (all_goals try (repeat' (first | done | rfl | (exfalso; omega) | contradiction | (refine iteR (fun hq => ?_) (fun hq => ?_)))))
    · (try simp -implicitDefEqProofs (maxSteps := 4000000) (disch := omega) only [getDT, go_sem, *]); (try simp only [pA, pB, pC, pD, pE, pF, pG, pH, pI, pJ, pK, pL, pM, pN, pO, pP, if_true, if_false]); repeat' (first | done | rfl | ((first | refine iteC (fun hq => ?_) (fun hq => ?_) | refine iteP (fun hq => ?_) (fun hq => ?_)) <;> (try (first | (exfalso; omega) | contradiction)) <;> (try simp -implicitDefEqProofs (maxSteps := 4000000) (disch := omega) only [getDT, go_sem, *]) <;> (try simp only [pA, pB, pC, pD, pE, pF, pG, pH, pI, pJ, pK, pL, pM, pN, pO, pP, if_true, if_false]))); (all_goals try rfl); (all_goals try (repeat' (first | done | rfl | (exfalso; omega) | contradiction | (refine iteR (fun hq => ?_) (fun hq => ?_)))))
    · (try simp -implicitDefEqProofs (maxSteps := 4000000) (disch := omega) only [getDT, go_sem, *]); (try simp only [pA, pB, pC, pD, pE, pF, pG, pH, pI, pJ, pK, pL, pM, pN, pO, pP, if_true, if_false]); repeat' (first | done | rfl | ((first | refine iteC (fun hq => ?_) (fun hq => ?_) | refine iteP (fun hq => ?_) (fun hq => ?_)) <;> (try (first | (exfalso; omega) | contradiction)) <;> (try simp -implicitDefEqProofs (maxSteps := 4000000) (disch := omega) only [getDT, go_sem, *]) <;> (try simp only [pA, pB, pC, pD, pE, pF, pG, pH, pI, pJ, pK, pL, pM, pN, pO, pP, if_true, if_false]))); (all_goals try rfl); (all_goals try (repeat' (first | done | rfl | (exfalso; omega) | contradiction | (refine iteR (fun hq => ?_) (fun hq => ?_)))))
    · (try simp -implicitDefEqProofs (maxSteps := 4000000) (disch := omega) only [getDT, go_sem, *]); (try simp only [pA, pB, pC, pD, pE, pF, pG, pH, pI, pJ, pK, pL, pM, pN, pO, pP, if_true, if_false]); repeat' (first | done | rfl | ((first | refine iteC (fun hq => ?_) (fun hq => ?_) | refine iteP (fun hq => ?_) (fun hq => ?_)) <;> (try (first | (exfalso; omega) | contradiction)) <;> (try simp -implicitDefEqProofs (maxSteps := 4000000) (disch := omega) only [getDT, go_sem, *]) <;> (try simp only [pA, pB, pC, pD, pE, pF, pG, pH, pI, pJ, pK, pL, pM, pN, pO, pP, if_true, if_false]))); (all_goals try rfl); (all_goals try (repeat' (first | done | rfl | (exfalso; omega) | contradiction | (refine iteR (fun hq => ?_) (fun hq => ?_)))))
    · (try simp -implicitDefEqProofs (maxSteps := 4000000) (disch := omega) only [getDT, go_sem, *]); (try simp only [pA, pB, pC, pD, pE, pF, pG, pH, pI, pJ, pK, pL, pM, pN, pO, pP, if_true, if_false]); repeat' (first | done | rfl | ((first | refine iteC (fun hq => ?_) (fun hq => ?_) | refine iteP (fun hq => ?_) (fun hq => ?_)) <;> (try (first | (exfalso; omega) | contradiction)) <;> (try simp -implicitDefEqProofs (maxSteps := 4000000) (disch := omega) only [getDT, go_sem, *]) <;> (try simp only [pA, pB, pC, pD, pE, pF, pG, pH, pI, pJ, pK, pL, pM, pN, pO, pP, if_true, if_false]))); (all_goals try rfl); (all_goals try (repeat' (first | done | rfl | (exfalso; omega) | contradiction | (refine iteR (fun hq => ?_) (fun hq => ?_)))))
  · have a3 := 0
    have n8 := nD_in l a2 (n := 8) (by omega)
    obtain ⟨a5, q5⟩ : ∃ a5, (rawD l a2).2 = a5 := ⟨_, rfl⟩
    obtain ⟨a6, q6⟩ : ∃ a6, (rawD l a5).2 = a6 := ⟨_, rfl⟩
    have n9 := nD_in l a5 (n := 9) (by omega)
    by_cases w4 : nD l a2 8 = 4
    · obtain ⟨j, hj⟩ : ∃ j : Nat, nD l a5 9 = j := ⟨(nD l a5 9).toNat, by omega⟩
      by_cases j0 : j = 0
      · subst j0
        have hl := bt_N_z l x k ik i2 im iv i5 i6 a6
        clear p1 p2 hr7 n9
        simp only [l_law17_BatchBuilt_2]
        generalize hF : loopL G [] l_law17_BatchBuilt_0 = F at *
        simp only [e0S, e1R, iA, srcO, Int.natCast_zero] at hl hj
        (try simp -implicitDefEqProofs (maxSteps := 4000000) (disch := omega) only [getDT, go_sem, *]); (try simp only [pA, pB, pC, pD, pE, pF, pG, pH, pI, pJ, pK, pL, pM, pN, pO, pP, if_true, if_false]); repeat' (first | done | rfl | ((first | refine iteC (fun hq => ?_) (fun hq => ?_) | refine iteP (fun hq => ?_) (fun hq => ?_)) <;> (try (first | (exfalso; omega) | contradiction)) <;> (try simp -implicitDefEqProofs (maxSteps := 4000000) (disch := omega) only [getDT, go_sem, *]) <;> (try simp only [pA, pB, pC, pD, pE, pF, pG, pH, pI, pJ, pK, pL, pM, pN, pO, pP, if_true, if_false]))); (all_goals try rfl); (all_goals try (repeat' (first | done | rfl | (exfalso; omega) | contradiction | (refine iteR (fun hq => ?_) (fun hq => ?_)))))
      · obtain ⟨ts, hts, hl⟩ := bt_N1 l x k ik i2 im iv i5 i6 a6 j (by omega) (by omega)
        clear f1 f2 f3 f4 f5 f6 f7 f8 f9 f10
        clear Rf Ef Vf Nf
        obtain ⟨Rf, Ef, Vf, Nf, f1, f2, f3, f4, f5, f6, f7, f8, f9, f10⟩ := inv_facts x hx hs [] ts (by simp) (by omega)
        simp only [iD, List.map_nil, List.map_cons] at f4 f5 f6 f7 f8 f9 f10
        clear p1 p2 hr7 n9 j0 hts
        simp only [l_law17_BatchBuilt_2]
        generalize hF : loopL G [] l_law17_BatchBuilt_0 = F at *
        simp only [e0S, e1R, iA, t0H, srcO] at hl
        (try simp -implicitDefEqProofs (maxSteps := 4000000) (disch := omega) only [getDT, go_sem, *]); (try simp only [pA, pB, pC, pD, pE, pF, pG, pH, pI, pJ, pK, pL, pM, pN, pO, pP, if_true, if_false]); repeat' (first | done | rfl | ((first | refine iteC (fun hq => ?_) (fun hq => ?_) | refine iteP (fun hq => ?_) (fun hq => ?_)) <;> (try (first | (exfalso; omega) | contradiction)) <;> (try simp -implicitDefEqProofs (maxSteps := 4000000) (disch := omega) only [getDT, go_sem, *]) <;> (try simp only [pA, pB, pC, pD, pE, pF, pG, pH, pI, pJ, pK, pL, pM, pN, pO, pP, if_true, if_false]))); (all_goals try rfl); (all_goals try (repeat' (first | done | rfl | (exfalso; omega) | contradiction | (refine iteR (fun hq => ?_) (fun hq => ?_)))))
    by_cases w5 : nD l a2 8 = 5
    · obtain ⟨j, hj⟩ : ∃ j : Nat, nD l a5 9 = j := ⟨(nD l a5 9).toNat, by omega⟩
      by_cases j0 : j = 0
      · subst j0
        have hl := bb_firstN_z l hL x k ik i2 im iv i5 i6 a6
        clear p1 p2 hr7 n9
        simp only [l_law17_BatchBuilt_2]
        generalize hF : loopL G [] l_law17_BatchBuilt_1 = F at *
        simp only [e1S, e1R, iA, srcO, Int.natCast_zero] at hl hj
        (try simp -implicitDefEqProofs (maxSteps := 4000000) (disch := omega) only [getDT, go_sem, *]); (try simp only [pA, pB, pC, pD, pE, pF, pG, pH, pI, pJ, pK, pL, pM, pN, pO, pP, if_true, if_false]); repeat' (first | done | rfl | ((first | refine iteC (fun hq => ?_) (fun hq => ?_) | refine iteP (fun hq => ?_) (fun hq => ?_)) <;> (try (first | (exfalso; omega) | contradiction)) <;> (try simp -implicitDefEqProofs (maxSteps := 4000000) (disch := omega) only [getDT, go_sem, *]) <;> (try simp only [pA, pB, pC, pD, pE, pF, pG, pH, pI, pJ, pK, pL, pM, pN, pO, pP, if_true, if_false]))); (all_goals try rfl); (all_goals try (repeat' (first | done | rfl | (exfalso; omega) | contradiction | (refine iteR (fun hq => ?_) (fun hq => ?_)))))
      · obtain ⟨bs2, a7, hbs2, hl⟩ := bb_firstN l hL x k ik i2 im iv i5 i6 a6 j (by omega) (by omega)
        clear f1 f2 f3 f4 f5 f6 f7 f8 f9 f10
        clear Rf Ef Vf Nf
        obtain ⟨Rf, Ef, Vf, Nf, f1, f2, f3, f4, f5, f6, f7, f8, f9, f10⟩ := inv_facts x hx hs bs2 [] (by omega) (by simp)
        simp only [iD, List.map_nil, List.map_cons] at f4 f5 f6 f7 f8 f9 f10
        clear p1 p2 hr7 n9 hbs2 j0
        simp only [l_law17_BatchBuilt_2]
        generalize hF : loopL G [] l_law17_BatchBuilt_1 = F at *
        simp only [e1S, e1R, iA, b1H, srcO] at hl
        (try simp -implicitDefEqProofs (maxSteps := 4000000) (disch := omega) only [getDT, go_sem, *]); (try simp only [pA, pB, pC, pD, pE, pF, pG, pH, pI, pJ, pK, pL, pM, pN, pO, pP, if_true, if_false]); repeat' (first | done | rfl | ((first | refine iteC (fun hq => ?_) (fun hq => ?_) | refine iteP (fun hq => ?_) (fun hq => ?_)) <;> (try (first | (exfalso; omega) | contradiction)) <;> (try simp -implicitDefEqProofs (maxSteps := 4000000) (disch := omega) only [getDT, go_sem, *]) <;> (try simp only [pA, pB, pC, pD, pE, pF, pG, pH, pI, pJ, pK, pL, pM, pN, pO, pP, if_true, if_false]))); (all_goals try rfl); (all_goals try (repeat' (first | done | rfl | (exfalso; omega) | contradiction | (refine iteR (fun hq => ?_) (fun hq => ?_)))))
    clear n9 q6 q5
    simp only [l_law17_BatchBuilt_2]
    have w : nD l a2 8 = 0 ∨ nD l a2 8 = 1 ∨ nD l a2 8 = 2 ∨ nD l a2 8 = 3 ∨ nD l a2 8 = 6 ∨ nD l a2 8 = 7 := by omega
    clear w4 w5 n8
    rcases w with w | w | w | w | w | w
    · (try simp -implicitDefEqProofs (maxSteps := 4000000) (disch := omega) only [getDT, go_sem, *]); (try simp only [pA, pB, pC, pD, pE, pF, pG, pH, pI, pJ, pK, pL, pM, pN, pO, pP, if_true, if_false]); repeat' (first | done | rfl | ((first | refine iteC (fun hq => ?_) (fun hq => ?_) | refine iteP (fun hq => ?_) (fun hq => ?_)) <;> (try (first | (exfalso; omega) | contradiction)) <;> (try simp -implicitDefEqProofs (maxSteps := 4000000) (disch := omega) only [getDT, go_sem, *]) <;> (try simp only [pA, pB, pC, pD, pE, pF, pG, pH, pI, pJ, pK, pL, pM, pN, pO, pP, if_true, if_false]))); (all_goals try rfl); (all_goals try (repeat' (first | done | rfl | (exfalso; omega) | contradiction | (refine iteR (fun hq => ?_) (fun hq => ?_)))))
    · (try simp -implicitDefEqProofs (maxSteps := 4000000) (disch := omega) only [getDT, go_sem, *]); (try simp only [pA, pB, pC, pD, pE, pF, pG, pH, pI, pJ, pK, pL, pM, pN, pO, pP, if_true, if_false]); repeat' (first | done | rfl | ((first | refine iteC (fun hq => ?_) (fun hq => ?_) | refine iteP (fun hq => ?_) (fun hq => ?_)) <;> (try (first | (exfalso; omega) | contradiction)) <;> (try simp -implicitDefEqProofs (maxSteps := 4000000) (disch := omega) only [getDT, go_sem, *]) <;> (try simp only [pA, pB, pC, pD, pE, pF, pG, pH, pI, pJ, pK, pL, pM, pN, pO, pP, if_true, if_false]))); (all_goals try rfl); (all_goals try (repeat' (first | done | rfl | (exfalso; omega) | contradiction | (refine iteR (fun hq => ?_) (fun hq => ?_)))))
    · (try simp -implicitDefEqProofs (maxSteps := 4000000) (disch := omega) only [getDT, go_sem, *]); (try simp only [pA, pB, pC, pD, pE, pF, pG, pH, pI, pJ, pK, pL, pM, pN, pO, pP, if_true, if_false]); repeat' (first | done | rfl | ((first | refine iteC (fun hq => ?_) (fun hq => ?_) | refine iteP (fun hq => ?_) (fun hq => ?_)) <;> (try (first | (exfalso; omega) | contradiction)) <;> (try simp -implicitDefEqProofs (maxSteps := 4000000) (disch := omega) only [getDT, go_sem, *]) <;> (try simp only [pA, pB, pC, pD, pE, pF, pG, pH, pI, pJ, pK, pL, pM, pN, pO, pP, if_true, if_false]))); (all_goals try rfl); (all_goals try (repeat' (first | done | rfl | (exfalso; omega) | contradiction | (refine iteR (fun hq => ?_) (fun hq => ?_)))))
    · (try simp -implicitDefEqProofs (maxSteps := 4000000) (disch := omega) only [getDT, go_sem, *]); (try simp only [pA, pB, pC, pD, pE, pF, pG, pH, pI, pJ, pK, pL, pM, pN, pO, pP, if_true, if_false]); repeat' (first | done | rfl | ((first | refine iteC (fun hq => ?_) (fun hq => ?_) | refine iteP (fun hq => ?_) (fun hq => ?_)) <;> (try (first | (exfalso; omega) | contradiction)) <;> (try simp -implicitDefEqProofs (maxSteps := 4000000) (disch := omega) only [getDT, go_sem, *]) <;> (try simp only [pA, pB, pC, pD, pE, pF, pG, pH, pI, pJ, pK, pL, pM, pN, pO, pP, if_true, if_false]))); (all_goals try rfl); (all_goals try (repeat' (first | done | rfl | (exfalso; omega) | contradiction | (refine iteR (fun hq => ?_) (fun hq => ?_)))))
    · (try simp -implicitDefEqProofs (maxSteps := 4000000) (disch := omega) only [getDT, go_sem, *]); (try simp only [pA, pB, pC, pD, pE, pF, pG, pH, pI, pJ, pK, pL, pM, pN, pO, pP, if_true, if_false]); repeat' (first | done | rfl | ((first | refine iteC (fun hq => ?_) (fun hq => ?_) | refine iteP (fun hq => ?_) (fun hq => ?_)) <;> (try (first | (exfalso; omega) | contradiction)) <;> (try simp -implicitDefEqProofs (maxSteps := 4000000) (disch := omega) only [getDT, go_sem, *]) <;> (try simp only [pA, pB, pC, pD, pE, pF, pG, pH, pI, pJ, pK, pL, pM, pN, pO, pP, if_true, if_false]))); (all_goals try rfl); (all_goals try (repeat' (first | done | rfl | (exfalso; omega) | contradiction | (refine iteR (fun hq => ?_) (fun hq => ?_)))))
    · (try simp -implicitDefEqProofs (maxSteps := 4000000) (disch := omega) only [getDT, go_sem, *]); (try simp only [pA, pB, pC, pD, pE, pF, pG, pH, pI, pJ, pK, pL, pM, pN, pO, pP, if_true, if_false]); repeat' (first | done | rfl | ((first | refine iteC (fun hq => ?_) (fun hq => ?_) | refine iteP (fun hq => ?_) (fun hq => ?_)) <;> (try (first | (exfalso; omega) | contradiction)) <;> (try simp -implicitDefEqProofs (maxSteps := 4000000) (disch := omega) only [getDT, go_sem, *]) <;> (try simp only [pA, pB, pC, pD, pE, pF, pG, pH, pI, pJ, pK, pL, pM, pN, pO, pP, if_true, if_false]))); (all_goals try rfl); (all_goals try (repeat' (first | done | rfl | (exfalso; omega) | contradiction | (refine iteR (fun hq => ?_) (fun hq => ?_)))))
end Go.Proofs.Ytadnfmkdmknmhaa
