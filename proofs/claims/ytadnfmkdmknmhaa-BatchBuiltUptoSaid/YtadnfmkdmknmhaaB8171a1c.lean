/-
  Arenas of the reference: New; the law of New.
  Arenas of the reference: New; the law of New.
  The reference's batches: Start; tasks that have begun are the same.
-/
import Derived.Test.YtadnfmkdmknmhaaB0181414
import Derived.Test.YtadnfmkdmknmhaaB02b607f
import Derived.Test.YtadnfmkdmknmhaaBdb5d998
import Derived.Test.YtadnfmkdmknmhaaBfddc40c
set_option linter.unusedSimpArgs false
set_option linter.unusedVariables false
namespace Go.Proofs.Ytadnfmkdmknmhaa
open Go Go.Sim
set_option linter.unusedSimpArgs false
set_option linter.unusedVariables false
set_option maxHeartbeats 10000000
set_option maxRecDepth 40000
theorem r04new_ok (cap : Int) : callL G N_ref04_New [.d (.int .i64 cap)] [] = some (.d (.tup [eRing (ringNew cap).1, .int .i64 (ringNew cap).2]), []) := by
  unfold ringNew
  by_cases c1 : cap < 1 ∨ 12 < cap
  · rw [if_pos c1]
    rw [callL_code g_ref04_New (by simp)]; simp -implicitDefEqProofs (maxSteps := 4000000) (disch := omega) only [c_ref04_New, r_ref04_New, getDT, go_sem, *]; (try simp only [pA, pB, pC, pD, pE, pF, pG, pH, pI, pJ, pK, pL, pM, pN, pO, pP, if_true, if_false]); repeat' (first | done | rfl | ((first | refine iteC (fun hq => ?_) (fun hq => ?_) | refine iteP (fun hq => ?_) (fun hq => ?_)) <;> (try (first | (exfalso; omega) | contradiction)) <;> (try simp -implicitDefEqProofs (maxSteps := 4000000) (disch := omega) only [getDT, go_sem, *]) <;> (try simp only [pA, pB, pC, pD, pE, pF, pG, pH, pI, pJ, pK, pL, pM, pN, pO, pP, if_true, if_false]))); (all_goals try rfl); (all_goals try (repeat' (first | done | rfl | (exfalso; omega) | contradiction | (refine iteR (fun hq => ?_) (fun hq => ?_)))))
  rw [if_neg c1]
  obtain ⟨n, hn⟩ : ∃ n : Nat, cap = n := ⟨cap.toNat, by omega⟩
  subst hn
  have hz : ∀ n, List.replicate n (AV.d (.agg [.int .i64 0, .int .i64 0, .int .i64 0, .int .i64 0, .int .i64 0, .int .i64 0, .str []])) = ((List.replicate n zMessage).map eMessage).map .d := by
    intro n
    rw [List.map_replicate, List.map_replicate]; rfl
  have hrl : (List.replicate n zMessage).length = n := List.length_replicate
  simp only [ringN, Int.toNat_natCast]
  rw [callL_code g_ref04_New (by simp)]; simp -implicitDefEqProofs (maxSteps := 4000000) (disch := omega) only [c_ref04_New, r_ref04_New, hz, getDT, go_sem, *]; (try simp only [pA, pB, pC, pD, pE, pF, pG, pH, pI, pJ, pK, pL, pM, pN, pO, pP, if_true, if_false]); repeat' (first | done | rfl | ((first | refine iteC (fun hq => ?_) (fun hq => ?_) | refine iteP (fun hq => ?_) (fun hq => ?_)) <;> (try (first | (exfalso; omega) | contradiction)) <;> (try simp -implicitDefEqProofs (maxSteps := 4000000) (disch := omega) only [hz, getDT, go_sem, *]) <;> (try simp only [pA, pB, pC, pD, pE, pF, pG, pH, pI, pJ, pK, pL, pM, pN, pO, pP, if_true, if_false]))); (all_goals try rfl); (all_goals try (repeat' (first | done | rfl | (exfalso; omega) | contradiction | (refine iteR (fun hq => ?_) (fun hq => ?_)))))
theorem r07free_ok (cap : Int) : callL G N_ref07_Free [.d (.int .i64 cap)] [] = some (.d (.tup [eShard (shardFree cap).1, .int .i64 (shardFree cap).2]), []) := by
  have hr := r04new_ok cap
  unfold ringNew at hr
  unfold shardFree
  by_cases c1 : cap < 1 ∨ 12 < cap
  · rw [if_pos c1] at hr ⊢
    rw [callL_code g_ref07_Free (by simp)]; simp -implicitDefEqProofs (maxSteps := 4000000) (disch := omega) only [c_ref07_Free, r_ref07_Free, getDT, go_sem, *]; (try simp only [pA, pB, pC, pD, pE, pF, pG, pH, pI, pJ, pK, pL, pM, pN, pO, pP, if_true, if_false]); repeat' (first | done | rfl | ((first | refine iteC (fun hq => ?_) (fun hq => ?_) | refine iteP (fun hq => ?_) (fun hq => ?_)) <;> (try (first | (exfalso; omega) | contradiction)) <;> (try simp -implicitDefEqProofs (maxSteps := 4000000) (disch := omega) only [getDT, go_sem, *]) <;> (try simp only [pA, pB, pC, pD, pE, pF, pG, pH, pI, pJ, pK, pL, pM, pN, pO, pP, if_true, if_false]))); (all_goals try rfl); (all_goals try (repeat' (first | done | rfl | (exfalso; omega) | contradiction | (refine iteR (fun hq => ?_) (fun hq => ?_)))))
  · rw [if_neg c1] at hr ⊢
    rw [callL_code g_ref07_Free (by simp)]; simp -implicitDefEqProofs (maxSteps := 4000000) (disch := omega) only [c_ref07_Free, r_ref07_Free, getDT, go_sem, *]; (try simp only [pA, pB, pC, pD, pE, pF, pG, pH, pI, pJ, pK, pL, pM, pN, pO, pP, if_true, if_false]); repeat' (first | done | rfl | ((first | refine iteC (fun hq => ?_) (fun hq => ?_) | refine iteP (fun hq => ?_) (fun hq => ?_)) <;> (try (first | (exfalso; omega) | contradiction)) <;> (try simp -implicitDefEqProofs (maxSteps := 4000000) (disch := omega) only [getDT, go_sem, *]) <;> (try simp only [pA, pB, pC, pD, pE, pF, pG, pH, pI, pJ, pK, pL, pM, pN, pO, pP, if_true, if_false]))); (all_goals try rfl); (all_goals try (repeat' (first | done | rfl | (exfalso; omega) | contradiction | (refine iteR (fun hq => ?_) (fun hq => ?_)))))
theorem span07_ok (lo hi : Int) : callL G N_ref07_span [.d (.int .i64 lo), .d (.int .i64 hi)] [] = some (.d (.bool (spansB lo hi)), []) := by
  unfold spansB
  rw [callL_code g_ref07_span (by simp)]; simp -implicitDefEqProofs (maxSteps := 4000000) (disch := omega) only [c_ref07_span, r_ref07_span, getDT, go_sem, *]; (try simp only [pA, pB, pC, pD, pE, pF, pG, pH, pI, pJ, pK, pL, pM, pN, pO, pP, if_true, if_false]); repeat' (first | done | rfl | ((first | refine iteC (fun hq => ?_) (fun hq => ?_) | refine iteP (fun hq => ?_) (fun hq => ?_)) <;> (try (first | (exfalso; omega) | contradiction)) <;> (try simp -implicitDefEqProofs (maxSteps := 4000000) (disch := omega) only [getDT, go_sem, *]) <;> (try simp only [pA, pB, pC, pD, pE, pF, pG, pH, pI, pJ, pK, pL, pM, pN, pO, pP, if_true, if_false]))); (all_goals try rfl); (all_goals try (repeat' (first | done | rfl | (exfalso; omega) | contradiction | (refine iteR (fun hq => ?_) (fun hq => ?_)))))
theorem r07new_ok (cap lo hi : Int) : callL G N_ref07_New [.d (.int .i64 cap), .d (.int .i64 lo), .d (.int .i64 hi)] [] = some (.d (.tup [eShard (shardNew cap lo hi).1, .int .i64 (shardNew cap lo hi).2]), []) := by
  have hr := r04new_ok cap
  have hs := span07_ok lo hi
  unfold ringNew at hr
  unfold shardNew
  by_cases c1 : cap < 1 ∨ 12 < cap
  · rw [if_pos c1] at hr ⊢
    rw [callL_code g_ref07_New (by simp)]; simp -implicitDefEqProofs (maxSteps := 4000000) (disch := omega) only [c_ref07_New, r_ref07_New, getDT, go_sem, *]; (try simp only [pA, pB, pC, pD, pE, pF, pG, pH, pI, pJ, pK, pL, pM, pN, pO, pP, if_true, if_false]); repeat' (first | done | rfl | ((first | refine iteC (fun hq => ?_) (fun hq => ?_) | refine iteP (fun hq => ?_) (fun hq => ?_)) <;> (try (first | (exfalso; omega) | contradiction)) <;> (try simp -implicitDefEqProofs (maxSteps := 4000000) (disch := omega) only [getDT, go_sem, *]) <;> (try simp only [pA, pB, pC, pD, pE, pF, pG, pH, pI, pJ, pK, pL, pM, pN, pO, pP, if_true, if_false]))); (all_goals try rfl); (all_goals try (repeat' (first | done | rfl | (exfalso; omega) | contradiction | (refine iteR (fun hq => ?_) (fun hq => ?_)))))
  · rw [if_neg c1] at hr ⊢
    cases c2 : spansB lo hi
    · rw [c2] at hs
      rw [if_pos rfl]
      rw [callL_code g_ref07_New (by simp)]; simp -implicitDefEqProofs (maxSteps := 4000000) (disch := omega) only [c_ref07_New, r_ref07_New, getDT, go_sem, *]; (try simp only [pA, pB, pC, pD, pE, pF, pG, pH, pI, pJ, pK, pL, pM, pN, pO, pP, if_true, if_false]); repeat' (first | done | rfl | ((first | refine iteC (fun hq => ?_) (fun hq => ?_) | refine iteP (fun hq => ?_) (fun hq => ?_)) <;> (try (first | (exfalso; omega) | contradiction)) <;> (try simp -implicitDefEqProofs (maxSteps := 4000000) (disch := omega) only [getDT, go_sem, *]) <;> (try simp only [pA, pB, pC, pD, pE, pF, pG, pH, pI, pJ, pK, pL, pM, pN, pO, pP, if_true, if_false]))); (all_goals try rfl); (all_goals try (repeat' (first | done | rfl | (exfalso; omega) | contradiction | (refine iteR (fun hq => ?_) (fun hq => ?_)))))
    · rw [c2] at hs
      rw [if_neg (by simp)]
      rw [callL_code g_ref07_New (by simp)]; simp -implicitDefEqProofs (maxSteps := 4000000) (disch := omega) only [c_ref07_New, r_ref07_New, getDT, go_sem, *]; (try simp only [pA, pB, pC, pD, pE, pF, pG, pH, pI, pJ, pK, pL, pM, pN, pO, pP, if_true, if_false]); repeat' (first | done | rfl | ((first | refine iteC (fun hq => ?_) (fun hq => ?_) | refine iteP (fun hq => ?_) (fun hq => ?_)) <;> (try (first | (exfalso; omega) | contradiction)) <;> (try simp -implicitDefEqProofs (maxSteps := 4000000) (disch := omega) only [getDT, go_sem, *]) <;> (try simp only [pA, pB, pC, pD, pE, pF, pG, pH, pI, pJ, pK, pL, pM, pN, pO, pP, if_true, if_false]))); (all_goals try rfl); (all_goals try (repeat' (first | done | rfl | (exfalso; omega) | contradiction | (refine iteR (fun hq => ?_) (fun hq => ?_)))))
theorem r08new_ok (cap : Int) : callL G N_ref08_New [.d (.int .i64 cap)] [] = some (.d (.tup [eDead (deadNew cap).1, .int .i64 (deadNew cap).2]), []) := by
  unfold deadNew
  by_cases c1 : cap < 1 ∨ 24 < cap
  · rw [if_pos c1]
    rw [callL_code g_ref08_New (by simp)]; simp -implicitDefEqProofs (maxSteps := 4000000) (disch := omega) only [c_ref08_New, r_ref08_New, getDT, go_sem, *]; (try simp only [pA, pB, pC, pD, pE, pF, pG, pH, pI, pJ, pK, pL, pM, pN, pO, pP, if_true, if_false]); repeat' (first | done | rfl | ((first | refine iteC (fun hq => ?_) (fun hq => ?_) | refine iteP (fun hq => ?_) (fun hq => ?_)) <;> (try (first | (exfalso; omega) | contradiction)) <;> (try simp -implicitDefEqProofs (maxSteps := 4000000) (disch := omega) only [getDT, go_sem, *]) <;> (try simp only [pA, pB, pC, pD, pE, pF, pG, pH, pI, pJ, pK, pL, pM, pN, pO, pP, if_true, if_false]))); (all_goals try rfl); (all_goals try (repeat' (first | done | rfl | (exfalso; omega) | contradiction | (refine iteR (fun hq => ?_) (fun hq => ?_)))))
  · rw [if_neg c1]
    rw [callL_code g_ref08_New (by simp)]; simp -implicitDefEqProofs (maxSteps := 4000000) (disch := omega) only [c_ref08_New, r_ref08_New, getDT, go_sem, *]; (try simp only [pA, pB, pC, pD, pE, pF, pG, pH, pI, pJ, pK, pL, pM, pN, pO, pP, if_true, if_false]); repeat' (first | done | rfl | ((first | refine iteC (fun hq => ?_) (fun hq => ?_) | refine iteP (fun hq => ?_) (fun hq => ?_)) <;> (try (first | (exfalso; omega) | contradiction)) <;> (try simp -implicitDefEqProofs (maxSteps := 4000000) (disch := omega) only [getDT, go_sem, *]) <;> (try simp only [pA, pB, pC, pD, pE, pF, pG, pH, pI, pJ, pK, pL, pM, pN, pO, pP, if_true, if_false]))); (all_goals try rfl); (all_goals try (repeat' (first | done | rfl | (exfalso; omega) | contradiction | (refine iteR (fun hq => ?_) (fun hq => ?_)))))
theorem in12_ok (n lo hi : Int) : callL G N_ref12_in [.d (.int .i64 n), .d (.int .i64 lo), .d (.int .i64 hi)] [] = some (.d (.bool (inB n lo hi)), []) := by
  have e : inB n lo hi = (decide (lo ≤ n) && decide (n ≤ hi)) := rfl
  rw [e]
  rw [callL_code g_ref12_in (by simp)]; simp -implicitDefEqProofs (maxSteps := 4000000) (disch := omega) only [c_ref12_in, r_ref12_in, getDT, go_sem, *]; (try simp only [pA, pB, pC, pD, pE, pF, pG, pH, pI, pJ, pK, pL, pM, pN, pO, pP, if_true, if_false]); repeat' (first | done | rfl | ((first | refine iteC (fun hq => ?_) (fun hq => ?_) | refine iteP (fun hq => ?_) (fun hq => ?_)) <;> (try (first | (exfalso; omega) | contradiction)) <;> (try simp -implicitDefEqProofs (maxSteps := 4000000) (disch := omega) only [getDT, go_sem, *]) <;> (try simp only [pA, pB, pC, pD, pE, pF, pG, pH, pI, pJ, pK, pL, pM, pN, pO, pP, if_true, if_false]))); (all_goals try rfl); (all_goals try (repeat' (first | done | rfl | (exfalso; omega) | contradiction | (refine iteR (fun hq => ?_) (fun hq => ?_)))))
def d0S (slots live : Nat) : Nat → St
  | 0 => ⟨[(0, .d (.int .i64 slots)), (1, .d (.int .i64 live)), (4, .ref 4 0 0), (6, .ref 6 0 0), (7, .d (.int .i64 0))], [ob4, (6, .row [.agg [.d (.int .i64 1), .xsl [], .xsl []]])]⟩
  | k + 1 => ⟨[(0, .d (.int .i64 slots)), (1, .d (.int .i64 live)), (4, .ref 4 0 0), (6, .ref 6 0 0), (7, .d (.int .i64 ((k : Int) + 1)))], [ob4, (6, .row [.agg [.d (.int .i64 1), .acc 500042 ((spansN live (k + 1)).map eSpan), .xsl []]]), (500042, .acc (k + 1))]⟩
theorem r10_loop0 (slots live : Nat) (h1 : 1 ≤ live) (h2 : live ≤ slots) (h3 : slots ≤ 6) : ∀ k, k ≤ live → loopL G [] l_ref10_New_0 (d0S slots live k) = some (.exit 0, ⟨[(0, .d (.int .i64 slots)), (4, .ref 4 0 0), (6, .ref 6 0 0)], [ob4, (6, .row [.agg [.d (.int .i64 1), .acc 500042 ((spansN live live).map eSpan), .xsl []]]), (500042, .acc live)]⟩) := by
  refine loop_ind (fun k => live - k) _ _ _ fun k hk L ih => ?_
  simp only [l_ref10_New_0]
  by_cases h0 : k < live
  · have i1 := ih (k + 1) (by omega) (by omega)
    clear ih
    have hq1 : 0 ≤ (k : Int) * 65536 / (live : Int) ∧ (k : Int) * 65536 / (live : Int) ≤ 1000000 := by
      refine ⟨Int.ediv_nonneg (by omega) (by omega), Int.le_trans (Int.ediv_le_self _ (by omega)) (by omega)⟩
    have hq2 : 0 ≤ ((k : Int) + 1) * 65536 / (live : Int) ∧ ((k : Int) + 1) * 65536 / (live : Int) ≤ 1000000 := by
      refine ⟨Int.ediv_nonneg (by omega) (by omega), Int.le_trans (Int.ediv_le_self _ (by omega)) (by omega)⟩
    rcases k with _ | k
    · simp only [d0S] at i1
      rw [spansN_succ] at i1
      simp only [spanI, eSpan, ob4, spansN, List.range_zero, List.map_append, List.map_cons, List.map_nil, List.nil_append, Int.natCast_zero, Int.zero_mul, Int.zero_ediv, Int.zero_add, Int.one_mul, Nat.zero_add] at i1 hq1 hq2 ⊢
      simp only [d0S, ob4]
      (try simp -implicitDefEqProofs (maxSteps := 4000000) (disch := omega) only [tdivE, Int.zero_ediv, Int.zero_mul, Int.zero_add, Int.one_mul, getDT, go_sem, *]); (try simp only [pA, pB, pC, pD, pE, pF, pG, pH, pI, pJ, pK, pL, pM, pN, pO, pP, if_true, if_false]); repeat' (first | done | rfl | ((first | refine iteC (fun hq => ?_) (fun hq => ?_) | refine iteP (fun hq => ?_) (fun hq => ?_)) <;> (try (first | (exfalso; omega) | contradiction)) <;> (try simp -implicitDefEqProofs (maxSteps := 4000000) (disch := omega) only [tdivE, Int.zero_ediv, Int.zero_mul, Int.zero_add, Int.one_mul, getDT, go_sem, *]) <;> (try simp only [pA, pB, pC, pD, pE, pF, pG, pH, pI, pJ, pK, pL, pM, pN, pO, pP, if_true, if_false]))); (all_goals try rfl); (all_goals try (repeat' (first | done | rfl | (exfalso; omega) | contradiction | (refine iteR (fun hq => ?_) (fun hq => ?_)))))
    · simp only [d0S] at i1 ⊢
      rw [spansN_succ] at i1
      obtain ⟨es, hes⟩ : ∃ es, es = spansN live (k + 1) := ⟨_, rfl⟩
      have hesl : es.length = k + 1 := by rw [hes, spansN_len]
      rw [← hes] at i1 ⊢
      clear hes
      simp only [spanI, eSpan, ob4, List.map_append, List.map_cons, List.map_nil, Int.natCast_add, Int.natCast_one] at i1 hq1 hq2 ⊢
      (try simp -implicitDefEqProofs (maxSteps := 4000000) (disch := omega) only [tdivE, getDT, go_sem, *]); (try simp only [pA, pB, pC, pD, pE, pF, pG, pH, pI, pJ, pK, pL, pM, pN, pO, pP, if_true, if_false]); repeat' (first | done | rfl | ((first | refine iteC (fun hq => ?_) (fun hq => ?_) | refine iteP (fun hq => ?_) (fun hq => ?_)) <;> (try (first | (exfalso; omega) | contradiction)) <;> (try simp -implicitDefEqProofs (maxSteps := 4000000) (disch := omega) only [tdivE, getDT, go_sem, *]) <;> (try simp only [pA, pB, pC, pD, pE, pF, pG, pH, pI, pJ, pK, pL, pM, pN, pO, pP, if_true, if_false]))); (all_goals try rfl); (all_goals try (repeat' (first | done | rfl | (exfalso; omega) | contradiction | (refine iteR (fun hq => ?_) (fun hq => ?_)))))
  · have : k = live := by omega
    subst this
    clear ih
    rcases k with _ | k
    · omega
    · simp only [d0S, ob4]
      (try simp -implicitDefEqProofs (maxSteps := 4000000) (disch := omega) only [getDT, go_sem, *]); (try simp only [pA, pB, pC, pD, pE, pF, pG, pH, pI, pJ, pK, pL, pM, pN, pO, pP, if_true, if_false]); repeat' (first | done | rfl | ((first | refine iteC (fun hq => ?_) (fun hq => ?_) | refine iteP (fun hq => ?_) (fun hq => ?_)) <;> (try (first | (exfalso; omega) | contradiction)) <;> (try simp -implicitDefEqProofs (maxSteps := 4000000) (disch := omega) only [getDT, go_sem, *]) <;> (try simp only [pA, pB, pC, pD, pE, pF, pG, pH, pI, pJ, pK, pL, pM, pN, pO, pP, if_true, if_false]))); (all_goals try rfl); (all_goals try (repeat' (first | done | rfl | (exfalso; omega) | contradiction | (refine iteR (fun hq => ?_) (fun hq => ?_)))))
def d1S (slots : Nat) (es : List D) (m : Nat) : Nat → St
  | 0 => ⟨[(0, .d (.int .i64 slots)), (4, .ref 4 0 0), (6, .ref 6 0 0), (8, .d (.int .i64 0))], [ob4, (6, .row [.agg [.d (.int .i64 1), .acc 500042 es, .xsl []]]), (500042, .acc m)]⟩
  | k + 1 => ⟨[(0, .d (.int .i64 slots)), (4, .ref 4 0 0), (6, .ref 6 0 0), (8, .d (.int .i64 ((k : Int) + 1)))], [ob4, (6, .row [.agg [.d (.int .i64 1), .acc 500042 es, .acc 52 (ints (List.replicate (k + 1) (-1)))]]), (52, .acc (k + 1)), (500042, .acc m)]⟩
theorem r10_loop1 (slots : Nat) (h1 : 1 ≤ slots) (h3 : slots ≤ 6) (es : List D) (m : Nat) : ∀ k, k ≤ slots → loopL G [] l_ref10_New_1 (d1S slots es m k) = some (.exit 2, ⟨[(4, .ref 4 0 0), (6, .ref 6 0 0)], [ob4, (6, .row [.agg [.d (.int .i64 1), .acc 500042 es, .acc 52 (ints (List.replicate slots (-1)))]]), (52, .acc slots), (500042, .acc m)]⟩) := by
  refine loop_ind (fun k => slots - k) _ _ _ fun k hk L ih => ?_
  simp only [l_ref10_New_1]
  by_cases h0 : k < slots
  · have i1 := ih (k + 1) (by omega) (by omega)
    clear ih
    rcases k with _ | k
    · simp only [d1S, ob4, List.replicate_one, ints, List.map_cons, List.map_nil, Nat.zero_add, Int.natCast_zero, Int.zero_add] at i1 ⊢
      (try simp -implicitDefEqProofs (maxSteps := 4000000) (disch := omega) only [getDT, go_sem, *]); (try simp only [pA, pB, pC, pD, pE, pF, pG, pH, pI, pJ, pK, pL, pM, pN, pO, pP, if_true, if_false]); repeat' (first | done | rfl | ((first | refine iteC (fun hq => ?_) (fun hq => ?_) | refine iteP (fun hq => ?_) (fun hq => ?_)) <;> (try (first | (exfalso; omega) | contradiction)) <;> (try simp -implicitDefEqProofs (maxSteps := 4000000) (disch := omega) only [getDT, go_sem, *]) <;> (try simp only [pA, pB, pC, pD, pE, pF, pG, pH, pI, pJ, pK, pL, pM, pN, pO, pP, if_true, if_false]))); (all_goals try rfl); (all_goals try (repeat' (first | done | rfl | (exfalso; omega) | contradiction | (refine iteR (fun hq => ?_) (fun hq => ?_)))))
    · simp only [d1S, ob4] at i1 ⊢
      rw [List.replicate_succ'] at i1
      obtain ⟨fs, hfs⟩ : ∃ fs, fs = List.replicate (k + 1) (-1 : Int) := ⟨_, rfl⟩
      have hl : fs.length = k + 1 := by rw [hfs, List.length_replicate]
      rw [← hfs] at i1 ⊢
      clear hfs
      simp only [ints] at i1 ⊢
      simp only [Int.natCast_add, Int.natCast_one, Int.natCast_zero, Int.natCast_mul, Int.cast_ofNat_Int, List.length_append, List.length_map, List.map_nil, List.length_nil, List.map_append, List.map_cons, List.length_cons, Nat.zero_add, srcO, mapSet] at i1
      (try simp -implicitDefEqProofs (maxSteps := 4000000) (disch := omega) only [getDT, go_sem, *]); (try simp only [pA, pB, pC, pD, pE, pF, pG, pH, pI, pJ, pK, pL, pM, pN, pO, pP, if_true, if_false]); repeat' (first | done | rfl | ((first | refine iteC (fun hq => ?_) (fun hq => ?_) | refine iteP (fun hq => ?_) (fun hq => ?_)) <;> (try (first | (exfalso; omega) | contradiction)) <;> (try simp -implicitDefEqProofs (maxSteps := 4000000) (disch := omega) only [getDT, go_sem, *]) <;> (try simp only [pA, pB, pC, pD, pE, pF, pG, pH, pI, pJ, pK, pL, pM, pN, pO, pP, if_true, if_false]))); (all_goals try rfl); (all_goals try (repeat' (first | done | rfl | (exfalso; omega) | contradiction | (refine iteR (fun hq => ?_) (fun hq => ?_)))))
  · have : k = slots := by omega
    subst this
    clear ih
    rcases k with _ | k
    · omega
    · simp only [d1S, ob4]
      (try simp -implicitDefEqProofs (maxSteps := 4000000) (disch := omega) only [getDT, go_sem, *]); (try simp only [pA, pB, pC, pD, pE, pF, pG, pH, pI, pJ, pK, pL, pM, pN, pO, pP, if_true, if_false]); repeat' (first | done | rfl | ((first | refine iteC (fun hq => ?_) (fun hq => ?_) | refine iteP (fun hq => ?_) (fun hq => ?_)) <;> (try (first | (exfalso; omega) | contradiction)) <;> (try simp -implicitDefEqProofs (maxSteps := 4000000) (disch := omega) only [getDT, go_sem, *]) <;> (try simp only [pA, pB, pC, pD, pE, pF, pG, pH, pI, pJ, pK, pL, pM, pN, pO, pP, if_true, if_false]))); (all_goals try rfl); (all_goals try (repeat' (first | done | rfl | (exfalso; omega) | contradiction | (refine iteR (fun hq => ?_) (fun hq => ?_)))))
theorem r10new_ok (slots live : Int) : callL G N_ref10_New [.d (.int .i64 slots), .d (.int .i64 live)] [] = some (.d (.tup [eDirectory (newD slots live).1, .int .i64 (newD slots live).2]), []) := by
  unfold newD
  by_cases c1 : live < 1 ∨ slots < live ∨ 6 < slots
  · rw [if_pos c1]
    rw [callL_code g_ref10_New (by simp)]; simp -implicitDefEqProofs (maxSteps := 4000000) (disch := omega) only [c_ref10_New, r_ref10_New, getDT, go_sem, *]; (try simp only [pA, pB, pC, pD, pE, pF, pG, pH, pI, pJ, pK, pL, pM, pN, pO, pP, if_true, if_false]); repeat' (first | done | rfl | ((first | refine iteC (fun hq => ?_) (fun hq => ?_) | refine iteP (fun hq => ?_) (fun hq => ?_)) <;> (try (first | (exfalso; omega) | contradiction)) <;> (try simp -implicitDefEqProofs (maxSteps := 4000000) (disch := omega) only [getDT, go_sem, *]) <;> (try simp only [pA, pB, pC, pD, pE, pF, pG, pH, pI, pJ, pK, pL, pM, pN, pO, pP, if_true, if_false]))); (all_goals try rfl); (all_goals try (repeat' (first | done | rfl | (exfalso; omega) | contradiction | (refine iteR (fun hq => ?_) (fun hq => ?_)))))
  rw [if_neg c1]
  obtain ⟨s, hs⟩ : ∃ s : Nat, slots = s := ⟨slots.toNat, by omega⟩
  obtain ⟨l, hl⟩ : ∃ l : Nat, live = l := ⟨live.toNat, by omega⟩
  subst hs hl
  have h0 := r10_loop0 s l (by omega) (by omega) (by omega) 0 (by omega)
  have h1 := r10_loop1 s (by omega) (by omega) ((spansN l l).map eSpan) l 0 (by omega)
  simp only [ob4, d0S, d1S] at h0 h1
  simp only [Int.toNat_natCast, dirN]
  rw [callL_code g_ref10_New (by simp)]; simp -implicitDefEqProofs (maxSteps := 4000000) (disch := omega) only [c_ref10_New, r_ref10_New, getDT, go_sem, *]; (try simp only [pA, pB, pC, pD, pE, pF, pG, pH, pI, pJ, pK, pL, pM, pN, pO, pP, if_true, if_false]); repeat' (first | done | rfl | ((first | refine iteC (fun hq => ?_) (fun hq => ?_) | refine iteP (fun hq => ?_) (fun hq => ?_)) <;> (try (first | (exfalso; omega) | contradiction)) <;> (try simp -implicitDefEqProofs (maxSteps := 4000000) (disch := omega) only [getDT, go_sem, *]) <;> (try simp only [pA, pB, pC, pD, pE, pF, pG, pH, pI, pJ, pK, pL, pM, pN, pO, pP, if_true, if_false]))); (all_goals try rfl); (all_goals try (repeat' (first | done | rfl | (exfalso; omega) | contradiction | (refine iteR (fun hq => ?_) (fun hq => ?_)))))
end Go.Proofs.Ytadnfmkdmknmhaa

namespace Go.Proofs.Ytadnfmkdmknmhaa
open Go Go.Sim
set_option linter.unusedSimpArgs false
set_option linter.unusedVariables false
set_option maxHeartbeats 10000000
set_option maxRecDepth 40000
def n0T (s : Setup) (d : Directory) (a b : Go.Sim.AV) (i : Int) (hp : Heap) : St :=
  ⟨[(1, .ref 1 0 0), (2, .ref 2 0 0), (4, .ref 4 0 0), (6, .ref 6 0 0), (7, .d (.int .i64 i))], (1, .row [.d (eSetup s)]) :: ar2 :: (4, .row [.d (eDirectory d)]) :: (6, .row [.agg [a, b, .d (.int .i64 0), .d (.int .i64 0), .xsl [], .d (.int .i64 d.version), .d (.sl (d.l.map eSpan)), .d (.sl (ints d.forward)), .d (.int .i64 s.epoch), .d (.int .i64 s.clock), .d (.int .i64 s.nextID)]]) :: hp⟩
def n0S (s : Setup) (d : Directory) : Nat → St
  | 0 => n0T s d (.xsl []) (.xsl []) 0 []
  | k + 1 => n0T s d (.acc 114 ((slotsN s (k + 1)).map eSlot)) (.acc 122 ((stripesN s (k + 1)).map eStripe)) ((k : Int) + 1) [(114, .acc (k + 1)), (122, .acc (k + 1))]
theorem r12_loop (s : Setup) (n l : Nat) (ok : SetupOk s n l) (d : Directory) (hd : d = dirN n l) : ∀ k, k ≤ n → loopL G [] l_ref12_New_0 (n0S s d k) = some (.exit 0, ⟨[(1, .ref 1 0 0), (2, .ref 2 0 0), (6, .ref 6 0 0)], (1, .row [.d (eSetup s)]) :: ar2 :: (6, .row [.agg [.acc 114 ((slotsN s n).map eSlot), .acc 122 ((stripesN s n).map eStripe), .d (.int .i64 0), .d (.int .i64 0), .xsl [], .d (.int .i64 d.version), .d (.sl (d.l.map eSpan)), .d (.sl (ints d.forward)), .d (.int .i64 s.epoch), .d (.int .i64 s.clock), .d (.int .i64 s.nextID)]]) :: [(114, .acc n), (122, .acc n)]⟩) := by
  obtain ⟨o1, o2, o3, o4, o5, o6, o7, _, _⟩ := ok
  refine loop_ind (fun k => n - k) _ _ _ fun k hk L ih => ?_
  simp only [l_ref12_New_0]
  by_cases h0 : k < n
  · have i1 := ih (k + 1) (by omega) (by omega)
    clear ih
    have hc : ¬ (s.capacity < 1 ∨ 12 < s.capacity) := by omega
    have hfree := r07free_ok s.capacity
    unfold shardFree at hfree
    rw [if_neg hc] at hfree
    simp only [n0S] at i1
    rw [slotsN_succ, stripesN_succ] at i1
    have hcase : ∃ x : Shard, slotI s k = ⟨0, x⟩ ∧ (k < l → d.l[k]? = some (spanI l k) ∧ callL G N_ref07_New [.d (.int .i64 s.capacity), .d (.int .i64 (spanI l k).low), .d (.int .i64 (spanI l k).high)] [] = some (.d (.tup [eShard x, .int .i64 0]), [])) ∧ (¬ k < l → x = ⟨false, 0, 0, ringN s.capacity, ⟨[], []⟩⟩) := by
      by_cases h1 : k < l
      · have hnew := r07new_ok s.capacity (spanI l k).low (spanI l k).high
        unfold shardNew at hnew
        rw [if_neg hc, if_neg (by rw [spanI_in o3 h1 (by omega)]; decide)] at hnew
        refine ⟨⟨true, (spanI l k).low, (spanI l k).high, ringN s.capacity, ⟨[], []⟩⟩, by unfold slotI; rw [if_pos (by omega), o2], fun _ => ⟨by rw [hd]; simp [dirN, spansN, h1], hnew⟩, fun h => absurd h1 h⟩
      · exact ⟨_, by unfold slotI; rw [if_neg (by omega)], fun h => absurd h h1, fun _ => rfl⟩
    obtain ⟨x, hx1, hx2, hx3⟩ := hcase
    rw [hx1] at i1
    have hdl : d.l.length = l := by rw [hd]; simp [dirN, spansN]
    clear hd
    by_cases h1 : k < l
    · obtain ⟨hx2, hnew⟩ := hx2 h1
      clear hx1 hx3
      have hg : d.l[k] = spanI l k := by rw [List.getElem?_eq_getElem (by omega)] at hx2; exact Option.some.inj hx2
      clear hx2
      generalize spanI l k = sp at *
      rcases k with _ | k
      · simp only [n0S, n0T, ar2, slotsN, stripesN, List.range_zero, List.replicate_zero, List.map_append, List.map_cons, List.map_nil, List.nil_append, Nat.zero_add, Int.natCast_zero, Int.zero_add] at i1 ⊢
        simp only [eSlot, eStripe] at i1
        (try simp -implicitDefEqProofs (maxSteps := 4000000) (disch := omega) only [getDT, go_sem, *]); (try simp only [pA, pB, pC, pD, pE, pF, pG, pH, pI, pJ, pK, pL, pM, pN, pO, pP, if_true, if_false]); repeat' (first | done | rfl | ((first | refine iteC (fun hq => ?_) (fun hq => ?_) | refine iteP (fun hq => ?_) (fun hq => ?_)) <;> (try (first | (exfalso; omega) | contradiction)) <;> (try simp -implicitDefEqProofs (maxSteps := 4000000) (disch := omega) only [getDT, go_sem, *]) <;> (try simp only [pA, pB, pC, pD, pE, pF, pG, pH, pI, pJ, pK, pL, pM, pN, pO, pP, if_true, if_false]))); (all_goals try rfl); (all_goals try (repeat' (first | done | rfl | (exfalso; omega) | contradiction | (refine iteR (fun hq => ?_) (fun hq => ?_)))))
      · simp only [n0S, n0T] at i1 ⊢
        obtain ⟨es, hes⟩ : ∃ es, es = slotsN s (k + 1) := ⟨_, rfl⟩
        obtain ⟨fs, hfs2⟩ : ∃ fs, fs = stripesN s (k + 1) := ⟨_, rfl⟩
        have hel : es.length = k + 1 := by rw [hes, slotsN_len]
        have hfl : fs.length = k + 1 := by rw [hfs2, stripesN_len]
        rw [← hes, ← hfs2] at i1 ⊢
        clear hes hfs2
        simp only [eSlot, eStripe, ar2, List.map_append, List.map_cons, List.map_nil] at i1 ⊢
        simp only [Int.natCast_add, Int.natCast_one, Int.natCast_zero, Int.natCast_mul, Int.cast_ofNat_Int, List.length_append, List.length_map, List.map_nil, List.length_nil, List.map_append, List.map_cons, List.length_cons, Nat.zero_add, srcO, mapSet] at i1
        (try simp -implicitDefEqProofs (maxSteps := 4000000) (disch := omega) only [getDT, go_sem, *]); (try simp only [pA, pB, pC, pD, pE, pF, pG, pH, pI, pJ, pK, pL, pM, pN, pO, pP, if_true, if_false]); repeat' (first | done | rfl | ((first | refine iteC (fun hq => ?_) (fun hq => ?_) | refine iteP (fun hq => ?_) (fun hq => ?_)) <;> (try (first | (exfalso; omega) | contradiction)) <;> (try simp -implicitDefEqProofs (maxSteps := 4000000) (disch := omega) only [getDT, go_sem, *]) <;> (try simp only [pA, pB, pC, pD, pE, pF, pG, pH, pI, pJ, pK, pL, pM, pN, pO, pP, if_true, if_false]))); (all_goals try rfl); (all_goals try (repeat' (first | done | rfl | (exfalso; omega) | contradiction | (refine iteR (fun hq => ?_) (fun hq => ?_)))))
    · have hx3 := hx3 h1
      subst hx3
      clear hx1 hx2
      rcases k with _ | k
      · omega
      · simp only [n0S, n0T] at i1 ⊢
        obtain ⟨es, hes⟩ : ∃ es, es = slotsN s (k + 1) := ⟨_, rfl⟩
        obtain ⟨fs, hfs2⟩ : ∃ fs, fs = stripesN s (k + 1) := ⟨_, rfl⟩
        have hel : es.length = k + 1 := by rw [hes, slotsN_len]
        have hfl : fs.length = k + 1 := by rw [hfs2, stripesN_len]
        rw [← hes, ← hfs2] at i1 ⊢
        clear hes hfs2
        simp only [eSlot, eStripe, ar2, List.map_append, List.map_cons, List.map_nil] at i1 ⊢
        simp only [Int.natCast_add, Int.natCast_one, Int.natCast_zero, Int.natCast_mul, Int.cast_ofNat_Int, List.length_append, List.length_map, List.map_nil, List.length_nil, List.map_append, List.map_cons, List.length_cons, Nat.zero_add, srcO, mapSet] at i1
        (try simp -implicitDefEqProofs (maxSteps := 4000000) (disch := omega) only [getDT, go_sem, *]); (try simp only [pA, pB, pC, pD, pE, pF, pG, pH, pI, pJ, pK, pL, pM, pN, pO, pP, if_true, if_false]); repeat' (first | done | rfl | ((first | refine iteC (fun hq => ?_) (fun hq => ?_) | refine iteP (fun hq => ?_) (fun hq => ?_)) <;> (try (first | (exfalso; omega) | contradiction)) <;> (try simp -implicitDefEqProofs (maxSteps := 4000000) (disch := omega) only [getDT, go_sem, *]) <;> (try simp only [pA, pB, pC, pD, pE, pF, pG, pH, pI, pJ, pK, pL, pM, pN, pO, pP, if_true, if_false]))); (all_goals try rfl); (all_goals try (repeat' (first | done | rfl | (exfalso; omega) | contradiction | (refine iteR (fun hq => ?_) (fun hq => ?_)))))
  · have : k = n := by omega
    subst this
    clear ih
    rcases k with _ | k
    · omega
    · simp only [n0S, n0T, ar2]
      (try simp -implicitDefEqProofs (maxSteps := 4000000) (disch := omega) only [getDT, go_sem, *]); (try simp only [pA, pB, pC, pD, pE, pF, pG, pH, pI, pJ, pK, pL, pM, pN, pO, pP, if_true, if_false]); repeat' (first | done | rfl | ((first | refine iteC (fun hq => ?_) (fun hq => ?_) | refine iteP (fun hq => ?_) (fun hq => ?_)) <;> (try (first | (exfalso; omega) | contradiction)) <;> (try simp -implicitDefEqProofs (maxSteps := 4000000) (disch := omega) only [getDT, go_sem, *]) <;> (try simp only [pA, pB, pC, pD, pE, pF, pG, pH, pI, pJ, pK, pL, pM, pN, pO, pP, if_true, if_false]))); (all_goals try rfl); (all_goals try (repeat' (first | done | rfl | (exfalso; omega) | contradiction | (refine iteR (fun hq => ?_) (fun hq => ?_)))))
theorem r12new_ok (s : Setup) : callL G N_ref12_New [.d (eSetup s)] [] = some (.d (.tup [eArena (arenaNew s).1, .int .i64 (arenaNew s).2]), []) := by
  unfold arenaNew
  by_cases h : okSetup s = true
  · obtain ⟨n, l, ok, _⟩ := setupOk_of h
    have hl := r12_loop s n l ok (dirN n l) rfl 0 (by omega)
    obtain ⟨o1, o2, o3, o4, o5, o6, o7, o8, o9⟩ := ok
    have hn := r10new_ok s.slots s.live
    rw [o1, o2, newD_ok o3 o4 o5] at hn
    have hd := r08new_ok s.dead
    unfold deadNew at hd
    rw [if_neg (by omega)] at hd
    rw [if_pos h]
    unfold okSetup at h
    simp only [Bool.and_eq_true] at h
    obtain ⟨i1, i2, i3, i4, i5, i6, i7, i8⟩ := h
    rw [o1] at i1
    rw [o1, o2] at i2
    have e1 : s.slots.toNat = n := by omega
    have e2 : s.live.toNat = l := by omega
    have q1 := slotsN_len s n
    have q2 := stripesN_len s n
    simp only [arenaN, e1, e2]
    simp only [n0S, n0T, ar2] at hl
    generalize slotsN s n = es at *
    generalize stripesN s n = fs at *
    generalize dirN n l = d at *
    have h0 : ¬ n = 0 := by omega
    rw [callL_code g_ref12_New (by simp)]; simp -implicitDefEqProofs (maxSteps := 4000000) (disch := omega) only [c_ref12_New, r_ref12_New, in12_ok, getDT, go_sem, *]; (try simp only [pA, pB, pC, pD, pE, pF, pG, pH, pI, pJ, pK, pL, pM, pN, pO, pP, if_true, if_false]); repeat' (first | done | rfl | ((first | refine iteC (fun hq => ?_) (fun hq => ?_) | refine iteP (fun hq => ?_) (fun hq => ?_)) <;> (try (first | (exfalso; omega) | contradiction)) <;> (try simp -implicitDefEqProofs (maxSteps := 4000000) (disch := omega) only [in12_ok, getDT, go_sem, *]) <;> (try simp only [pA, pB, pC, pD, pE, pF, pG, pH, pI, pJ, pK, pL, pM, pN, pO, pP, if_true, if_false]))); (all_goals try rfl); (all_goals try (repeat' (first | done | rfl | (exfalso; omega) | contradiction | (refine iteR (fun hq => ?_) (fun hq => ?_)))))
  · rw [if_neg h]
    unfold okSetup at h
    cases c1 : inB s.slots 1 6
    · clear h; rw [callL_code g_ref12_New (by simp)]; simp -implicitDefEqProofs (maxSteps := 4000000) (disch := omega) only [c_ref12_New, r_ref12_New, in12_ok, getDT, go_sem, *]; (try simp only [pA, pB, pC, pD, pE, pF, pG, pH, pI, pJ, pK, pL, pM, pN, pO, pP, if_true, if_false]); repeat' (first | done | rfl | ((first | refine iteC (fun hq => ?_) (fun hq => ?_) | refine iteP (fun hq => ?_) (fun hq => ?_)) <;> (try (first | (exfalso; omega) | contradiction)) <;> (try simp -implicitDefEqProofs (maxSteps := 4000000) (disch := omega) only [in12_ok, getDT, go_sem, *]) <;> (try simp only [pA, pB, pC, pD, pE, pF, pG, pH, pI, pJ, pK, pL, pM, pN, pO, pP, if_true, if_false]))); (all_goals try rfl); (all_goals try (repeat' (first | done | rfl | (exfalso; omega) | contradiction | (refine iteR (fun hq => ?_) (fun hq => ?_)))))
    cases c2 : inB s.live 1 s.slots
    · clear h; rw [callL_code g_ref12_New (by simp)]; simp -implicitDefEqProofs (maxSteps := 4000000) (disch := omega) only [c_ref12_New, r_ref12_New, in12_ok, getDT, go_sem, *]; (try simp only [pA, pB, pC, pD, pE, pF, pG, pH, pI, pJ, pK, pL, pM, pN, pO, pP, if_true, if_false]); repeat' (first | done | rfl | ((first | refine iteC (fun hq => ?_) (fun hq => ?_) | refine iteP (fun hq => ?_) (fun hq => ?_)) <;> (try (first | (exfalso; omega) | contradiction)) <;> (try simp -implicitDefEqProofs (maxSteps := 4000000) (disch := omega) only [in12_ok, getDT, go_sem, *]) <;> (try simp only [pA, pB, pC, pD, pE, pF, pG, pH, pI, pJ, pK, pL, pM, pN, pO, pP, if_true, if_false]))); (all_goals try rfl); (all_goals try (repeat' (first | done | rfl | (exfalso; omega) | contradiction | (refine iteR (fun hq => ?_) (fun hq => ?_)))))
    cases c3 : inB s.capacity 1 12
    · clear h; rw [callL_code g_ref12_New (by simp)]; simp -implicitDefEqProofs (maxSteps := 4000000) (disch := omega) only [c_ref12_New, r_ref12_New, in12_ok, getDT, go_sem, *]; (try simp only [pA, pB, pC, pD, pE, pF, pG, pH, pI, pJ, pK, pL, pM, pN, pO, pP, if_true, if_false]); repeat' (first | done | rfl | ((first | refine iteC (fun hq => ?_) (fun hq => ?_) | refine iteP (fun hq => ?_) (fun hq => ?_)) <;> (try (first | (exfalso; omega) | contradiction)) <;> (try simp -implicitDefEqProofs (maxSteps := 4000000) (disch := omega) only [in12_ok, getDT, go_sem, *]) <;> (try simp only [pA, pB, pC, pD, pE, pF, pG, pH, pI, pJ, pK, pL, pM, pN, pO, pP, if_true, if_false]))); (all_goals try rfl); (all_goals try (repeat' (first | done | rfl | (exfalso; omega) | contradiction | (refine iteR (fun hq => ?_) (fun hq => ?_)))))
    cases c4 : inB s.dead 1 24
    · clear h; rw [callL_code g_ref12_New (by simp)]; simp -implicitDefEqProofs (maxSteps := 4000000) (disch := omega) only [c_ref12_New, r_ref12_New, in12_ok, getDT, go_sem, *]; (try simp only [pA, pB, pC, pD, pE, pF, pG, pH, pI, pJ, pK, pL, pM, pN, pO, pP, if_true, if_false]); repeat' (first | done | rfl | ((first | refine iteC (fun hq => ?_) (fun hq => ?_) | refine iteP (fun hq => ?_) (fun hq => ?_)) <;> (try (first | (exfalso; omega) | contradiction)) <;> (try simp -implicitDefEqProofs (maxSteps := 4000000) (disch := omega) only [in12_ok, getDT, go_sem, *]) <;> (try simp only [pA, pB, pC, pD, pE, pF, pG, pH, pI, pJ, pK, pL, pM, pN, pO, pP, if_true, if_false]))); (all_goals try rfl); (all_goals try (repeat' (first | done | rfl | (exfalso; omega) | contradiction | (refine iteR (fun hq => ?_) (fun hq => ?_)))))
    cases c5 : inB s.limit 1 8
    · clear h; rw [callL_code g_ref12_New (by simp)]; simp -implicitDefEqProofs (maxSteps := 4000000) (disch := omega) only [c_ref12_New, r_ref12_New, in12_ok, getDT, go_sem, *]; (try simp only [pA, pB, pC, pD, pE, pF, pG, pH, pI, pJ, pK, pL, pM, pN, pO, pP, if_true, if_false]); repeat' (first | done | rfl | ((first | refine iteC (fun hq => ?_) (fun hq => ?_) | refine iteP (fun hq => ?_) (fun hq => ?_)) <;> (try (first | (exfalso; omega) | contradiction)) <;> (try simp -implicitDefEqProofs (maxSteps := 4000000) (disch := omega) only [in12_ok, getDT, go_sem, *]) <;> (try simp only [pA, pB, pC, pD, pE, pF, pG, pH, pI, pJ, pK, pL, pM, pN, pO, pP, if_true, if_false]))); (all_goals try rfl); (all_goals try (repeat' (first | done | rfl | (exfalso; omega) | contradiction | (refine iteR (fun hq => ?_) (fun hq => ?_)))))
    cases c6 : inB s.clock 0 1073741824
    · clear h; rw [callL_code g_ref12_New (by simp)]; simp -implicitDefEqProofs (maxSteps := 4000000) (disch := omega) only [c_ref12_New, r_ref12_New, in12_ok, getDT, go_sem, *]; (try simp only [pA, pB, pC, pD, pE, pF, pG, pH, pI, pJ, pK, pL, pM, pN, pO, pP, if_true, if_false]); repeat' (first | done | rfl | ((first | refine iteC (fun hq => ?_) (fun hq => ?_) | refine iteP (fun hq => ?_) (fun hq => ?_)) <;> (try (first | (exfalso; omega) | contradiction)) <;> (try simp -implicitDefEqProofs (maxSteps := 4000000) (disch := omega) only [in12_ok, getDT, go_sem, *]) <;> (try simp only [pA, pB, pC, pD, pE, pF, pG, pH, pI, pJ, pK, pL, pM, pN, pO, pP, if_true, if_false]))); (all_goals try rfl); (all_goals try (repeat' (first | done | rfl | (exfalso; omega) | contradiction | (refine iteR (fun hq => ?_) (fun hq => ?_)))))
    cases c7 : inB s.nextID 1 1073741824
    · clear h; rw [callL_code g_ref12_New (by simp)]; simp -implicitDefEqProofs (maxSteps := 4000000) (disch := omega) only [c_ref12_New, r_ref12_New, in12_ok, getDT, go_sem, *]; (try simp only [pA, pB, pC, pD, pE, pF, pG, pH, pI, pJ, pK, pL, pM, pN, pO, pP, if_true, if_false]); repeat' (first | done | rfl | ((first | refine iteC (fun hq => ?_) (fun hq => ?_) | refine iteP (fun hq => ?_) (fun hq => ?_)) <;> (try (first | (exfalso; omega) | contradiction)) <;> (try simp -implicitDefEqProofs (maxSteps := 4000000) (disch := omega) only [in12_ok, getDT, go_sem, *]) <;> (try simp only [pA, pB, pC, pD, pE, pF, pG, pH, pI, pJ, pK, pL, pM, pN, pO, pP, if_true, if_false]))); (all_goals try rfl); (all_goals try (repeat' (first | done | rfl | (exfalso; omega) | contradiction | (refine iteR (fun hq => ?_) (fun hq => ?_)))))
    cases c8 : inB s.epoch 0 65536
    · clear h; rw [callL_code g_ref12_New (by simp)]; simp -implicitDefEqProofs (maxSteps := 4000000) (disch := omega) only [c_ref12_New, r_ref12_New, in12_ok, getDT, go_sem, *]; (try simp only [pA, pB, pC, pD, pE, pF, pG, pH, pI, pJ, pK, pL, pM, pN, pO, pP, if_true, if_false]); repeat' (first | done | rfl | ((first | refine iteC (fun hq => ?_) (fun hq => ?_) | refine iteP (fun hq => ?_) (fun hq => ?_)) <;> (try (first | (exfalso; omega) | contradiction)) <;> (try simp -implicitDefEqProofs (maxSteps := 4000000) (disch := omega) only [in12_ok, getDT, go_sem, *]) <;> (try simp only [pA, pB, pC, pD, pE, pF, pG, pH, pI, pJ, pK, pL, pM, pN, pO, pP, if_true, if_false]))); (all_goals try rfl); (all_goals try (repeat' (first | done | rfl | (exfalso; omega) | contradiction | (refine iteR (fun hq => ?_) (fun hq => ?_)))))
    rw [c1, c2, c3, c4, c5, c6, c7, c8] at h
    exact absurd rfl h
end Go.Proofs.Ytadnfmkdmknmhaa

namespace Go.Proofs.Ytadnfmkdmknmhaa
open Go Go.Sim
set_option linter.unusedSimpArgs false
set_option linter.unusedVariables false
set_option maxHeartbeats 10000000
set_option maxRecDepth 40000
theorem inI_inB (n lo hi : Int) : inI n lo hi = inB n lo hi := by
  unfold inI inB
  rw [Bool.decide_and]
theorem invV_batchV {i : Invocation} {s : Setup} (hs : 1 ≤ s.slots ∧ s.slots ≤ 6) : invV i s = batchV i s := by
  have w : IntKind.i64.wrap (s.slots - 1) = s.slots - 1 := wr (by omega)
  obtain ⟨k, v2, v3, v4, v5, v6, v7, v8⟩ := i
  unfold invV batchV slotB mostB visB okE
  rw [w]
  simp only [inI_inB]
  have hl : ∀ n : Nat, inB (n : Int) 1 6 = !decide (n = 0 ∨ 6 < n) := fun n => by
    unfold inB
    by_cases c : n = 0 ∨ 6 < n
    · simp only [c, decide_true, Bool.not_true]
      rw [← Bool.decide_and]
      exact decide_eq_false (by omega)
    · simp only [c, decide_false, Bool.not_false]
      rw [← Bool.decide_and]
      exact decide_eq_true (by omega)
  have ea : v7.any longB = v7.any fun b => decide (16 < b.length) := by
    congr 1
    funext b
    unfold longB
    exact decide_eq_decide.2 (by omega)
  rw [hl, hl, ea]
  have h13 : inB v5 0 s.slots = !decide (v5 < 0 ∨ s.slots < v5) := by
    unfold inB
    by_cases c : v5 < 0 ∨ s.slots < v5
    · simp only [c, decide_true, Bool.not_true]
      rw [← Bool.decide_and]
      exact decide_eq_false (by omega)
    · simp only [c, decide_false, Bool.not_false]
      rw [← Bool.decide_and]
      exact decide_eq_true (by omega)
  rw [h13]
  generalize inB v2 0 (s.slots - 1) = b1
  generalize inB v3 1 6 = b2
  generalize inB v4 0 1000 = b3
  generalize inB v5 0 (s.slots - 1) = b4
  generalize inB v6 0 (s.slots - 1) = b5
  generalize (v7.any fun b => decide (16 < b.length)) = b6
  clear hl ea h13 w hs
  by_cases q : k < 1 ∨ 14 < k
  · rw [if_neg (by omega), if_neg (by omega), if_neg (by omega), if_neg (by omega), if_neg (by omega), if_neg (by omega), if_neg (by omega), if_neg (by omega), if_neg (by omega), if_neg (by omega), if_neg (by omega), if_neg (by omega), if_neg (by omega), if_neg (by omega), if_neg (by omega), if_neg (by omega)]
  have h : k = 1 ∨ k = 2 ∨ k = 3 ∨ k = 4 ∨ k = 5 ∨ k = 6 ∨ k = 7 ∨ k = 8 ∨ k = 9 ∨ k = 10 ∨ k = 11 ∨ k = 12 ∨ k = 13 ∨ k = 14 := by omega
  clear q
  rcases h with rfl | rfl | rfl | rfl | rfl | rfl | rfl | rfl | rfl | rfl | rfl | rfl | rfl | rfl
  · by_cases c : v7.length = 0 ∨ 6 < v7.length <;> cases b6 <;> simp only [c, decide_true, decide_false, Bool.not_true, Bool.not_false, if_true, if_false] <;> simp
  · cases b1 <;> cases b2 <;> cases b3 <;> simp
  · by_cases c : v8.length = 0 ∨ 6 < v8.length <;> simp only [c, decide_true, decide_false, Bool.not_true, Bool.not_false, if_true, if_false] <;> simp
  · by_cases c : v8.length = 0 ∨ 6 < v8.length <;> simp only [c, decide_true, decide_false, Bool.not_true, Bool.not_false, if_true, if_false] <;> simp
  · by_cases c : v8.length = 0 ∨ 6 < v8.length <;> cases b3 <;> simp only [c, decide_true, decide_false, Bool.not_true, Bool.not_false, if_true, if_false] <;> simp
  · simp
  · simp
  · cases b1 <;> cases b2 <;> simp
  · by_cases c : v5 = v6 <;> cases b4 <;> cases b5 <;> simp [c]
  · by_cases c : v5 = v6 <;> cases b4 <;> cases b5 <;> simp [c]
  · by_cases c : v5 = v6 <;> cases b4 <;> cases b5 <;> simp [c]
  · cases b4 <;> simp
  · by_cases c : v5 < 0 ∨ s.slots < v5 <;> simp only [c, decide_true, decide_false, Bool.not_true, Bool.not_false, if_true, if_false] <;> simp
  · cases b4 <;> simp
theorem r17start_ok (number n : Int) {i : Invocation} {s : Setup} (hs : okSetup s = true) (hs1 : 1 ≤ s.slots ∧ s.slots ≤ 6) (hT : i.tokens.length ≤ 4294967296) (hB : i.bodies.length ≤ 4294967296) : callL G N_ref17_Start [.d (.int .i64 number), .d (eInvocation i), .d (eSetup s), .d (.int .i64 n)] [] = some (.d (.tup [eTask (batchStart number i s n).1, .int .i64 (batchStart number i s n).2]), []) := by
  have hn := r12new_ok s
  have hv := val17_ok hs1 hT hB
  rw [invV_batchV hs1] at hv
  unfold batchStart
  have e1 : (arenaNew s).2 = 0 := by unfold arenaNew; rw [if_pos hs]
  rw [e1] at hn
  clear e1
  generalize arenaNew s = r at *
  obtain ⟨r, re⟩ := r
  simp only at hn
  have sz_r := eArena_size r; have it_r := eArena_isT r; have ag_r := eArena_asAgg r; generalize eArena r = D_r at *
  have e2 : inB number 1 200 = (decide (1 ≤ number) && decide (number ≤ 200)) := rfl
  rw [e2, hs]
  by_cases c0 : number < 1
  · rw [if_pos (by simp; omega)]
    simp only [eTask, zTask, eInvocation, zInvocation, zSetup, eSetup, zSection, eSection, eLocker, zLocker, eSnapshot, zSnapshot, eOutcome, zOutcome, eDirectory, zDirectory, eWalk, zWalk, eHandle, zHandle, eDead, zDead, ints, List.map_nil]
    rw [callL_code g_ref17_Start (by simp)]; simp -implicitDefEqProofs (maxSteps := 4000000) (disch := omega) only [c_ref17_Start, r_ref17_Start, getDT, go_sem, *]; (try simp only [pA, pB, pC, pD, pE, pF, pG, pH, pI, pJ, pK, pL, pM, pN, pO, pP, if_true, if_false]); repeat' (first | done | rfl | ((first | refine iteC (fun hq => ?_) (fun hq => ?_) | refine iteP (fun hq => ?_) (fun hq => ?_)) <;> (try (first | (exfalso; omega) | contradiction)) <;> (try simp -implicitDefEqProofs (maxSteps := 4000000) (disch := omega) only [getDT, go_sem, *]) <;> (try simp only [pA, pB, pC, pD, pE, pF, pG, pH, pI, pJ, pK, pL, pM, pN, pO, pP, if_true, if_false]))); (all_goals try rfl); (all_goals try (repeat' (first | done | rfl | (exfalso; omega) | contradiction | (refine iteR (fun hq => ?_) (fun hq => ?_)))))
  by_cases c1 : 200 < number
  · rw [if_pos (by simp; omega)]
    simp only [eTask, zTask, eInvocation, zInvocation, zSetup, eSetup, zSection, eSection, eLocker, zLocker, eSnapshot, zSnapshot, eOutcome, zOutcome, eDirectory, zDirectory, eWalk, zWalk, eHandle, zHandle, eDead, zDead, ints, List.map_nil]
    rw [callL_code g_ref17_Start (by simp)]; simp -implicitDefEqProofs (maxSteps := 4000000) (disch := omega) only [c_ref17_Start, r_ref17_Start, getDT, go_sem, *]; (try simp only [pA, pB, pC, pD, pE, pF, pG, pH, pI, pJ, pK, pL, pM, pN, pO, pP, if_true, if_false]); repeat' (first | done | rfl | ((first | refine iteC (fun hq => ?_) (fun hq => ?_) | refine iteP (fun hq => ?_) (fun hq => ?_)) <;> (try (first | (exfalso; omega) | contradiction)) <;> (try simp -implicitDefEqProofs (maxSteps := 4000000) (disch := omega) only [getDT, go_sem, *]) <;> (try simp only [pA, pB, pC, pD, pE, pF, pG, pH, pI, pJ, pK, pL, pM, pN, pO, pP, if_true, if_false]))); (all_goals try rfl); (all_goals try (repeat' (first | done | rfl | (exfalso; omega) | contradiction | (refine iteR (fun hq => ?_) (fun hq => ?_)))))
  rw [if_neg (by simp; omega)]
  by_cases c2 : n < 0
  · rw [if_pos c2]
    simp only [eTask, zTask, eInvocation, zInvocation, zSetup, eSetup, zSection, eSection, eLocker, zLocker, eSnapshot, zSnapshot, eOutcome, zOutcome, eDirectory, zDirectory, eWalk, zWalk, eHandle, zHandle, eDead, zDead, ints, List.map_nil]
    rw [callL_code g_ref17_Start (by simp)]; simp -implicitDefEqProofs (maxSteps := 4000000) (disch := omega) only [c_ref17_Start, r_ref17_Start, getDT, go_sem, *]; (try simp only [pA, pB, pC, pD, pE, pF, pG, pH, pI, pJ, pK, pL, pM, pN, pO, pP, if_true, if_false]); repeat' (first | done | rfl | ((first | refine iteC (fun hq => ?_) (fun hq => ?_) | refine iteP (fun hq => ?_) (fun hq => ?_)) <;> (try (first | (exfalso; omega) | contradiction)) <;> (try simp -implicitDefEqProofs (maxSteps := 4000000) (disch := omega) only [getDT, go_sem, *]) <;> (try simp only [pA, pB, pC, pD, pE, pF, pG, pH, pI, pJ, pK, pL, pM, pN, pO, pP, if_true, if_false]))); (all_goals try rfl); (all_goals try (repeat' (first | done | rfl | (exfalso; omega) | contradiction | (refine iteR (fun hq => ?_) (fun hq => ?_)))))
  rw [if_neg c2, if_neg (by simp)]
  clear e2 hs hs1
  generalize batchV i s = w at *
  by_cases c3 : w = 0
  · subst c3
    rw [if_neg (by simp)]
    clear hT hB
    simp only [startT, eTask, zTask, eInvocation, zInvocation, zSetup, eSetup, zSection, eSection, eLocker, zLocker, eSnapshot, zSnapshot, eOutcome, zOutcome, eDirectory, zDirectory, eWalk, zWalk, eHandle, zHandle, eDead, zDead, ints, List.map_nil] at *
    rw [callL_code g_ref17_Start (by simp)]; simp -implicitDefEqProofs (maxSteps := 4000000) (disch := omega) only [c_ref17_Start, r_ref17_Start, getDT, go_sem, *]; (try simp only [pA, pB, pC, pD, pE, pF, pG, pH, pI, pJ, pK, pL, pM, pN, pO, pP, if_true, if_false]); repeat' (first | done | rfl | ((first | refine iteC (fun hq => ?_) (fun hq => ?_) | refine iteP (fun hq => ?_) (fun hq => ?_)) <;> (try (first | (exfalso; omega) | contradiction)) <;> (try simp -implicitDefEqProofs (maxSteps := 4000000) (disch := omega) only [getDT, go_sem, *]) <;> (try simp only [pA, pB, pC, pD, pE, pF, pG, pH, pI, pJ, pK, pL, pM, pN, pO, pP, if_true, if_false]))); (all_goals try rfl); (all_goals try (repeat' (first | done | rfl | (exfalso; omega) | contradiction | (refine iteR (fun hq => ?_) (fun hq => ?_)))))
  · rw [if_pos c3]
    replace c3 := eq_false c3
    clear hT hB
    simp only [eTask, zTask, eInvocation, zInvocation, zSetup, eSetup, zSection, eSection, eLocker, zLocker, eSnapshot, zSnapshot, eOutcome, zOutcome, eDirectory, zDirectory, eWalk, zWalk, eHandle, zHandle, eDead, zDead, ints, List.map_nil] at *
    rw [callL_code g_ref17_Start (by simp)]; simp -implicitDefEqProofs (maxSteps := 4000000) (disch := omega) only [c_ref17_Start, r_ref17_Start, getDT, go_sem, *]; (try simp only [pA, pB, pC, pD, pE, pF, pG, pH, pI, pJ, pK, pL, pM, pN, pO, pP, if_true, if_false]); repeat' (first | done | rfl | ((first | refine iteC (fun hq => ?_) (fun hq => ?_) | refine iteP (fun hq => ?_) (fun hq => ?_)) <;> (try (first | (exfalso; omega) | contradiction)) <;> (try simp -implicitDefEqProofs (maxSteps := 4000000) (disch := omega) only [getDT, go_sem, *]) <;> (try simp only [pA, pB, pC, pD, pE, pF, pG, pH, pI, pJ, pK, pL, pM, pN, pO, pP, if_true, if_false]))); (all_goals try rfl); (all_goals try (repeat' (first | done | rfl | (exfalso; omega) | contradiction | (refine iteR (fun hq => ?_) (fun hq => ?_)))))
theorem r15same_z : callL G N_ref15_Same [.d (eSection zSection), .d (eSection zSection)] [] = some (.d (.bool true), []) := by
  refine callL_iff.2 ⟨60, ?_⟩
  kernel_rfl
theorem sameRes_z : callL G N_ref17_SameResults [.d (.sl []), .d (.sl [])] [] = some (.d (.bool true), []) := by
  rw [callL_code g_ref17_SameResults (by simp)]; simp -implicitDefEqProofs (maxSteps := 4000000) (disch := omega) only [c_ref17_SameResults, r_ref17_SameResults, loopL_eq, l_ref17_SameResults_0, getDT, go_sem, *]; (try simp only [pA, pB, pC, pD, pE, pF, pG, pH, pI, pJ, pK, pL, pM, pN, pO, pP, if_true, if_false]); repeat' (first | done | rfl | ((first | refine iteC (fun hq => ?_) (fun hq => ?_) | refine iteP (fun hq => ?_) (fun hq => ?_)) <;> (try (first | (exfalso; omega) | contradiction)) <;> (try simp -implicitDefEqProofs (maxSteps := 4000000) (disch := omega) only [loopL_eq, l_ref17_SameResults_0, getDT, go_sem, *]) <;> (try simp only [pA, pB, pC, pD, pE, pF, pG, pH, pI, pJ, pK, pL, pM, pN, pO, pP, if_true, if_false]))); (all_goals try rfl); (all_goals try (repeat' (first | done | rfl | (exfalso; omega) | contradiction | (refine iteR (fun hq => ?_) (fun hq => ?_)))))
theorem same17_ok (number n : Int) {i : Invocation} {s : Setup} (hT : i.tokens.length ≤ 4294967296) (hB : i.bodies.length ≤ 4294967296) : callL G N_law17_same [.d (eTask (startT number i s n)), .d (eTask (startT number i s n))] [] = some (.d (.bool true), []) := by
  have h1 := sameInv_self i hB hT
  have h2 := r15same_z
  have h3 := sameRes_z
  simp only [startT, eTask, zTask, eInvocation, zInvocation, zSetup, eSetup, zSection, eSection, eLocker, zLocker, eSnapshot, zSnapshot, eOutcome, zOutcome, eDirectory, zDirectory, eWalk, zWalk, eHandle, zHandle, eDead, zDead, ints, List.map_nil] at *
  rw [callL_code g_law17_same (by simp)]; simp -implicitDefEqProofs (maxSteps := 4000000) (disch := omega) only [c_law17_same, r_law17_same, getDT, go_sem, *]; (try simp only [pA, pB, pC, pD, pE, pF, pG, pH, pI, pJ, pK, pL, pM, pN, pO, pP, if_true, if_false]); repeat' (first | done | rfl | ((first | refine iteC (fun hq => ?_) (fun hq => ?_) | refine iteP (fun hq => ?_) (fun hq => ?_)) <;> (try (first | (exfalso; omega) | contradiction)) <;> (try simp -implicitDefEqProofs (maxSteps := 4000000) (disch := omega) only [getDT, go_sem, *]) <;> (try simp only [pA, pB, pC, pD, pE, pF, pG, pH, pI, pJ, pK, pL, pM, pN, pO, pP, if_true, if_false]))); (all_goals try rfl); (all_goals try (repeat' (first | done | rfl | (exfalso; omega) | contradiction | (refine iteR (fun hq => ?_) (fun hq => ?_)))))
end Go.Proofs.Ytadnfmkdmknmhaa
