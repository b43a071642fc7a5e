/-
  Arenas of the reference: New; the law of New.
  Arenas of the reference: New; the law of New.
  The law of new arenas.
  Arenas: loads and stores.
  Lockers of both.
  Lockers of both: steps.
-/
import Derived.Test.YtkdjbfjohbiemaaB46a48c6
set_option linter.unusedSimpArgs false
set_option linter.unusedVariables false
namespace Go.Proofs.Ytkdjbfjohbiemaa
open Go Go.Sim
set_option linter.unusedSimpArgs false
set_option linter.unusedVariables false
set_option maxHeartbeats 10000000
set_option maxRecDepth 40000
theorem r04new_ok (cap : Int) : callL G N_ref04_New [.d (.int .i64 cap)] [] = some (.d (.tup [eRing (ringNew cap).1, .int .i64 (ringNew cap).2]), []) := by
  unfold ringNew
  by_cases c1 : cap < 1 ∨ 12 < cap
  · rw [if_pos c1]
    rw [callL_code g_ref04_New (by simp)]; simp -implicitDefEqProofs (maxSteps := 4000000) (disch := omega) only [c_ref04_New, r_ref04_New, getDT, go_sem, *]; (try simp only [pA, pB, pC, pD, pE, pF, pG, pH, pI, pJ, pK, pL, pM, pN, pO, pP, if_true, if_false]); repeat' (first | done | rfl | (refine iteC (fun hq => ?_) (fun hq => ?_) <;> (try (first | (exfalso; omega) | contradiction)) <;> (try simp -implicitDefEqProofs (maxSteps := 4000000) (disch := omega) only [getDT, go_sem, *]) <;> (try simp only [pA, pB, pC, pD, pE, pF, pG, pH, pI, pJ, pK, pL, pM, pN, pO, pP, if_true, if_false]))); (all_goals try rfl); (all_goals try (repeat' (first | done | rfl | (exfalso; omega) | contradiction | (refine iteR (fun hq => ?_) (fun hq => ?_)))))
  rw [if_neg c1]
  obtain ⟨n, hn⟩ : ∃ n : Nat, cap = n := ⟨cap.toNat, by omega⟩
  subst hn
  have hz : ∀ n, List.replicate n (AV.d (.agg [.int .i64 0, .int .i64 0, .int .i64 0, .int .i64 0, .int .i64 0, .int .i64 0, .str []])) = ((List.replicate n zMessage).map eMessage).map .d := by
    intro n
    rw [List.map_replicate, List.map_replicate]; rfl
  have hrl : (List.replicate n zMessage).length = n := List.length_replicate
  simp only [ringN, Int.toNat_natCast]
  rw [callL_code g_ref04_New (by simp)]; simp -implicitDefEqProofs (maxSteps := 4000000) (disch := omega) only [c_ref04_New, r_ref04_New, hz, getDT, go_sem, *]; (try simp only [pA, pB, pC, pD, pE, pF, pG, pH, pI, pJ, pK, pL, pM, pN, pO, pP, if_true, if_false]); repeat' (first | done | rfl | (refine iteC (fun hq => ?_) (fun hq => ?_) <;> (try (first | (exfalso; omega) | contradiction)) <;> (try simp -implicitDefEqProofs (maxSteps := 4000000) (disch := omega) only [hz, getDT, go_sem, *]) <;> (try simp only [pA, pB, pC, pD, pE, pF, pG, pH, pI, pJ, pK, pL, pM, pN, pO, pP, if_true, if_false]))); (all_goals try rfl); (all_goals try (repeat' (first | done | rfl | (exfalso; omega) | contradiction | (refine iteR (fun hq => ?_) (fun hq => ?_)))))
theorem r07free_ok (cap : Int) : callL G N_ref07_Free [.d (.int .i64 cap)] [] = some (.d (.tup [eShard (shardFree cap).1, .int .i64 (shardFree cap).2]), []) := by
  have hr := r04new_ok cap
  unfold ringNew at hr
  unfold shardFree
  by_cases c1 : cap < 1 ∨ 12 < cap
  · rw [if_pos c1] at hr ⊢
    rw [callL_code g_ref07_Free (by simp)]; simp -implicitDefEqProofs (maxSteps := 4000000) (disch := omega) only [c_ref07_Free, r_ref07_Free, getDT, go_sem, *]; (try simp only [pA, pB, pC, pD, pE, pF, pG, pH, pI, pJ, pK, pL, pM, pN, pO, pP, if_true, if_false]); repeat' (first | done | rfl | (refine iteC (fun hq => ?_) (fun hq => ?_) <;> (try (first | (exfalso; omega) | contradiction)) <;> (try simp -implicitDefEqProofs (maxSteps := 4000000) (disch := omega) only [getDT, go_sem, *]) <;> (try simp only [pA, pB, pC, pD, pE, pF, pG, pH, pI, pJ, pK, pL, pM, pN, pO, pP, if_true, if_false]))); (all_goals try rfl); (all_goals try (repeat' (first | done | rfl | (exfalso; omega) | contradiction | (refine iteR (fun hq => ?_) (fun hq => ?_)))))
  · rw [if_neg c1] at hr ⊢
    rw [callL_code g_ref07_Free (by simp)]; simp -implicitDefEqProofs (maxSteps := 4000000) (disch := omega) only [c_ref07_Free, r_ref07_Free, getDT, go_sem, *]; (try simp only [pA, pB, pC, pD, pE, pF, pG, pH, pI, pJ, pK, pL, pM, pN, pO, pP, if_true, if_false]); repeat' (first | done | rfl | (refine iteC (fun hq => ?_) (fun hq => ?_) <;> (try (first | (exfalso; omega) | contradiction)) <;> (try simp -implicitDefEqProofs (maxSteps := 4000000) (disch := omega) only [getDT, go_sem, *]) <;> (try simp only [pA, pB, pC, pD, pE, pF, pG, pH, pI, pJ, pK, pL, pM, pN, pO, pP, if_true, if_false]))); (all_goals try rfl); (all_goals try (repeat' (first | done | rfl | (exfalso; omega) | contradiction | (refine iteR (fun hq => ?_) (fun hq => ?_)))))
theorem span07_ok (lo hi : Int) : callL G N_ref07_span [.d (.int .i64 lo), .d (.int .i64 hi)] [] = some (.d (.bool (spansB lo hi)), []) := by
  unfold spansB
  rw [callL_code g_ref07_span (by simp)]; simp -implicitDefEqProofs (maxSteps := 4000000) (disch := omega) only [c_ref07_span, r_ref07_span, getDT, go_sem, *]; (try simp only [pA, pB, pC, pD, pE, pF, pG, pH, pI, pJ, pK, pL, pM, pN, pO, pP, if_true, if_false]); repeat' (first | done | rfl | (refine iteC (fun hq => ?_) (fun hq => ?_) <;> (try (first | (exfalso; omega) | contradiction)) <;> (try simp -implicitDefEqProofs (maxSteps := 4000000) (disch := omega) only [getDT, go_sem, *]) <;> (try simp only [pA, pB, pC, pD, pE, pF, pG, pH, pI, pJ, pK, pL, pM, pN, pO, pP, if_true, if_false]))); (all_goals try rfl); (all_goals try (repeat' (first | done | rfl | (exfalso; omega) | contradiction | (refine iteR (fun hq => ?_) (fun hq => ?_)))))
theorem r07new_ok (cap lo hi : Int) : callL G N_ref07_New [.d (.int .i64 cap), .d (.int .i64 lo), .d (.int .i64 hi)] [] = some (.d (.tup [eShard (shardNew cap lo hi).1, .int .i64 (shardNew cap lo hi).2]), []) := by
  have hr := r04new_ok cap
  have hs := span07_ok lo hi
  unfold ringNew at hr
  unfold shardNew
  by_cases c1 : cap < 1 ∨ 12 < cap
  · rw [if_pos c1] at hr ⊢
    rw [callL_code g_ref07_New (by simp)]; simp -implicitDefEqProofs (maxSteps := 4000000) (disch := omega) only [c_ref07_New, r_ref07_New, getDT, go_sem, *]; (try simp only [pA, pB, pC, pD, pE, pF, pG, pH, pI, pJ, pK, pL, pM, pN, pO, pP, if_true, if_false]); repeat' (first | done | rfl | (refine iteC (fun hq => ?_) (fun hq => ?_) <;> (try (first | (exfalso; omega) | contradiction)) <;> (try simp -implicitDefEqProofs (maxSteps := 4000000) (disch := omega) only [getDT, go_sem, *]) <;> (try simp only [pA, pB, pC, pD, pE, pF, pG, pH, pI, pJ, pK, pL, pM, pN, pO, pP, if_true, if_false]))); (all_goals try rfl); (all_goals try (repeat' (first | done | rfl | (exfalso; omega) | contradiction | (refine iteR (fun hq => ?_) (fun hq => ?_)))))
  · rw [if_neg c1] at hr ⊢
    cases c2 : spansB lo hi
    · rw [c2] at hs
      rw [if_pos rfl]
      rw [callL_code g_ref07_New (by simp)]; simp -implicitDefEqProofs (maxSteps := 4000000) (disch := omega) only [c_ref07_New, r_ref07_New, getDT, go_sem, *]; (try simp only [pA, pB, pC, pD, pE, pF, pG, pH, pI, pJ, pK, pL, pM, pN, pO, pP, if_true, if_false]); repeat' (first | done | rfl | (refine iteC (fun hq => ?_) (fun hq => ?_) <;> (try (first | (exfalso; omega) | contradiction)) <;> (try simp -implicitDefEqProofs (maxSteps := 4000000) (disch := omega) only [getDT, go_sem, *]) <;> (try simp only [pA, pB, pC, pD, pE, pF, pG, pH, pI, pJ, pK, pL, pM, pN, pO, pP, if_true, if_false]))); (all_goals try rfl); (all_goals try (repeat' (first | done | rfl | (exfalso; omega) | contradiction | (refine iteR (fun hq => ?_) (fun hq => ?_)))))
    · rw [c2] at hs
      rw [if_neg (by simp)]
      rw [callL_code g_ref07_New (by simp)]; simp -implicitDefEqProofs (maxSteps := 4000000) (disch := omega) only [c_ref07_New, r_ref07_New, getDT, go_sem, *]; (try simp only [pA, pB, pC, pD, pE, pF, pG, pH, pI, pJ, pK, pL, pM, pN, pO, pP, if_true, if_false]); repeat' (first | done | rfl | (refine iteC (fun hq => ?_) (fun hq => ?_) <;> (try (first | (exfalso; omega) | contradiction)) <;> (try simp -implicitDefEqProofs (maxSteps := 4000000) (disch := omega) only [getDT, go_sem, *]) <;> (try simp only [pA, pB, pC, pD, pE, pF, pG, pH, pI, pJ, pK, pL, pM, pN, pO, pP, if_true, if_false]))); (all_goals try rfl); (all_goals try (repeat' (first | done | rfl | (exfalso; omega) | contradiction | (refine iteR (fun hq => ?_) (fun hq => ?_)))))
theorem r08new_ok (cap : Int) : callL G N_ref08_New [.d (.int .i64 cap)] [] = some (.d (.tup [eDead (deadNew cap).1, .int .i64 (deadNew cap).2]), []) := by
  unfold deadNew
  by_cases c1 : cap < 1 ∨ 24 < cap
  · rw [if_pos c1]
    rw [callL_code g_ref08_New (by simp)]; simp -implicitDefEqProofs (maxSteps := 4000000) (disch := omega) only [c_ref08_New, r_ref08_New, getDT, go_sem, *]; (try simp only [pA, pB, pC, pD, pE, pF, pG, pH, pI, pJ, pK, pL, pM, pN, pO, pP, if_true, if_false]); repeat' (first | done | rfl | (refine iteC (fun hq => ?_) (fun hq => ?_) <;> (try (first | (exfalso; omega) | contradiction)) <;> (try simp -implicitDefEqProofs (maxSteps := 4000000) (disch := omega) only [getDT, go_sem, *]) <;> (try simp only [pA, pB, pC, pD, pE, pF, pG, pH, pI, pJ, pK, pL, pM, pN, pO, pP, if_true, if_false]))); (all_goals try rfl); (all_goals try (repeat' (first | done | rfl | (exfalso; omega) | contradiction | (refine iteR (fun hq => ?_) (fun hq => ?_)))))
  · rw [if_neg c1]
    rw [callL_code g_ref08_New (by simp)]; simp -implicitDefEqProofs (maxSteps := 4000000) (disch := omega) only [c_ref08_New, r_ref08_New, getDT, go_sem, *]; (try simp only [pA, pB, pC, pD, pE, pF, pG, pH, pI, pJ, pK, pL, pM, pN, pO, pP, if_true, if_false]); repeat' (first | done | rfl | (refine iteC (fun hq => ?_) (fun hq => ?_) <;> (try (first | (exfalso; omega) | contradiction)) <;> (try simp -implicitDefEqProofs (maxSteps := 4000000) (disch := omega) only [getDT, go_sem, *]) <;> (try simp only [pA, pB, pC, pD, pE, pF, pG, pH, pI, pJ, pK, pL, pM, pN, pO, pP, if_true, if_false]))); (all_goals try rfl); (all_goals try (repeat' (first | done | rfl | (exfalso; omega) | contradiction | (refine iteR (fun hq => ?_) (fun hq => ?_)))))
theorem in12_ok (n lo hi : Int) : callL G N_ref12_in [.d (.int .i64 n), .d (.int .i64 lo), .d (.int .i64 hi)] [] = some (.d (.bool (inB n lo hi)), []) := by
  have e : inB n lo hi = (decide (lo ≤ n) && decide (n ≤ hi)) := rfl
  rw [e]
  rw [callL_code g_ref12_in (by simp)]; simp -implicitDefEqProofs (maxSteps := 4000000) (disch := omega) only [c_ref12_in, r_ref12_in, getDT, go_sem, *]; (try simp only [pA, pB, pC, pD, pE, pF, pG, pH, pI, pJ, pK, pL, pM, pN, pO, pP, if_true, if_false]); repeat' (first | done | rfl | (refine iteC (fun hq => ?_) (fun hq => ?_) <;> (try (first | (exfalso; omega) | contradiction)) <;> (try simp -implicitDefEqProofs (maxSteps := 4000000) (disch := omega) only [getDT, go_sem, *]) <;> (try simp only [pA, pB, pC, pD, pE, pF, pG, pH, pI, pJ, pK, pL, pM, pN, pO, pP, if_true, if_false]))); (all_goals try rfl); (all_goals try (repeat' (first | done | rfl | (exfalso; omega) | contradiction | (refine iteR (fun hq => ?_) (fun hq => ?_)))))
def d0S (slots live : Nat) : Nat → St
  | 0 => ⟨[(0, .d (.int .i64 slots)), (1, .d (.int .i64 live)), (4, .ref 4 0 0), (6, .ref 6 0 0), (7, .d (.int .i64 0))], [ob4, (6, .row [.agg [.d (.int .i64 1), .xsl [], .xsl []]])]⟩
  | k + 1 => ⟨[(0, .d (.int .i64 slots)), (1, .d (.int .i64 live)), (4, .ref 4 0 0), (6, .ref 6 0 0), (7, .d (.int .i64 ((k : Int) + 1)))], [ob4, (6, .row [.agg [.d (.int .i64 1), .acc 500042 ((spansN live (k + 1)).map eSpan), .xsl []]]), (500042, .acc (k + 1))]⟩
theorem r10_loop0 (slots live : Nat) (h1 : 1 ≤ live) (h2 : live ≤ slots) (h3 : slots ≤ 6) : ∀ k, k ≤ live → loopL G [] l_ref10_New_0 (d0S slots live k) = some (.exit 0, ⟨[(0, .d (.int .i64 slots)), (4, .ref 4 0 0), (6, .ref 6 0 0)], [ob4, (6, .row [.agg [.d (.int .i64 1), .acc 500042 ((spansN live live).map eSpan), .xsl []]]), (500042, .acc live)]⟩) := by
  refine loop_ind (fun k => live - k) _ _ _ fun k hk L ih => ?_
  simp only [l_ref10_New_0]
  by_cases h0 : k < live
  · have i1 := ih (k + 1) (by omega) (by omega)
    clear ih
    have hq1 : 0 ≤ (k : Int) * 65536 / (live : Int) ∧ (k : Int) * 65536 / (live : Int) ≤ 1000000 := by
      refine ⟨Int.ediv_nonneg (by omega) (by omega), Int.le_trans (Int.ediv_le_self _ (by omega)) (by omega)⟩
    have hq2 : 0 ≤ ((k : Int) + 1) * 65536 / (live : Int) ∧ ((k : Int) + 1) * 65536 / (live : Int) ≤ 1000000 := by
      refine ⟨Int.ediv_nonneg (by omega) (by omega), Int.le_trans (Int.ediv_le_self _ (by omega)) (by omega)⟩
    rcases k with _ | k
    · simp only [d0S] at i1
      rw [spansN_succ] at i1
      simp only [spanI, eSpan, ob4, spansN, List.range_zero, List.map_append, List.map_cons, List.map_nil, List.nil_append, Int.natCast_zero, Int.zero_mul, Int.zero_ediv, Int.zero_add, Int.one_mul, Nat.zero_add] at i1 hq1 hq2 ⊢
      simp only [d0S, ob4]
      (try simp -implicitDefEqProofs (maxSteps := 4000000) (disch := omega) only [tdivE, Int.zero_ediv, Int.zero_mul, Int.zero_add, Int.one_mul, getDT, go_sem, *]); (try simp only [pA, pB, pC, pD, pE, pF, pG, pH, pI, pJ, pK, pL, pM, pN, pO, pP, if_true, if_false]); repeat' (first | done | rfl | (refine iteC (fun hq => ?_) (fun hq => ?_) <;> (try (first | (exfalso; omega) | contradiction)) <;> (try simp -implicitDefEqProofs (maxSteps := 4000000) (disch := omega) only [tdivE, Int.zero_ediv, Int.zero_mul, Int.zero_add, Int.one_mul, getDT, go_sem, *]) <;> (try simp only [pA, pB, pC, pD, pE, pF, pG, pH, pI, pJ, pK, pL, pM, pN, pO, pP, if_true, if_false]))); (all_goals try rfl); (all_goals try (repeat' (first | done | rfl | (exfalso; omega) | contradiction | (refine iteR (fun hq => ?_) (fun hq => ?_)))))
    · simp only [d0S] at i1 ⊢
      rw [spansN_succ] at i1
      obtain ⟨es, hes⟩ : ∃ es, es = spansN live (k + 1) := ⟨_, rfl⟩
      have hesl : es.length = k + 1 := by rw [hes, spansN_len]
      rw [← hes] at i1 ⊢
      clear hes
      simp only [spanI, eSpan, ob4, List.map_append, List.map_cons, List.map_nil, Int.natCast_add, Int.natCast_one] at i1 hq1 hq2 ⊢
      (try simp -implicitDefEqProofs (maxSteps := 4000000) (disch := omega) only [tdivE, getDT, go_sem, *]); (try simp only [pA, pB, pC, pD, pE, pF, pG, pH, pI, pJ, pK, pL, pM, pN, pO, pP, if_true, if_false]); repeat' (first | done | rfl | (refine iteC (fun hq => ?_) (fun hq => ?_) <;> (try (first | (exfalso; omega) | contradiction)) <;> (try simp -implicitDefEqProofs (maxSteps := 4000000) (disch := omega) only [tdivE, getDT, go_sem, *]) <;> (try simp only [pA, pB, pC, pD, pE, pF, pG, pH, pI, pJ, pK, pL, pM, pN, pO, pP, if_true, if_false]))); (all_goals try rfl); (all_goals try (repeat' (first | done | rfl | (exfalso; omega) | contradiction | (refine iteR (fun hq => ?_) (fun hq => ?_)))))
  · have : k = live := by omega
    subst this
    clear ih
    rcases k with _ | k
    · omega
    · simp only [d0S, ob4]
      (try simp -implicitDefEqProofs (maxSteps := 4000000) (disch := omega) only [getDT, go_sem, *]); (try simp only [pA, pB, pC, pD, pE, pF, pG, pH, pI, pJ, pK, pL, pM, pN, pO, pP, if_true, if_false]); repeat' (first | done | rfl | (refine iteC (fun hq => ?_) (fun hq => ?_) <;> (try (first | (exfalso; omega) | contradiction)) <;> (try simp -implicitDefEqProofs (maxSteps := 4000000) (disch := omega) only [getDT, go_sem, *]) <;> (try simp only [pA, pB, pC, pD, pE, pF, pG, pH, pI, pJ, pK, pL, pM, pN, pO, pP, if_true, if_false]))); (all_goals try rfl); (all_goals try (repeat' (first | done | rfl | (exfalso; omega) | contradiction | (refine iteR (fun hq => ?_) (fun hq => ?_)))))
def d1S (slots : Nat) (es : List D) (m : Nat) : Nat → St
  | 0 => ⟨[(0, .d (.int .i64 slots)), (4, .ref 4 0 0), (6, .ref 6 0 0), (8, .d (.int .i64 0))], [ob4, (6, .row [.agg [.d (.int .i64 1), .acc 500042 es, .xsl []]]), (500042, .acc m)]⟩
  | k + 1 => ⟨[(0, .d (.int .i64 slots)), (4, .ref 4 0 0), (6, .ref 6 0 0), (8, .d (.int .i64 ((k : Int) + 1)))], [ob4, (6, .row [.agg [.d (.int .i64 1), .acc 500042 es, .acc 52 (ints (List.replicate (k + 1) (-1)))]]), (52, .acc (k + 1)), (500042, .acc m)]⟩
theorem r10_loop1 (slots : Nat) (h1 : 1 ≤ slots) (h3 : slots ≤ 6) (es : List D) (m : Nat) : ∀ k, k ≤ slots → loopL G [] l_ref10_New_1 (d1S slots es m k) = some (.exit 2, ⟨[(4, .ref 4 0 0), (6, .ref 6 0 0)], [ob4, (6, .row [.agg [.d (.int .i64 1), .acc 500042 es, .acc 52 (ints (List.replicate slots (-1)))]]), (52, .acc slots), (500042, .acc m)]⟩) := by
  refine loop_ind (fun k => slots - k) _ _ _ fun k hk L ih => ?_
  simp only [l_ref10_New_1]
  by_cases h0 : k < slots
  · have i1 := ih (k + 1) (by omega) (by omega)
    clear ih
    rcases k with _ | k
    · simp only [d1S, ob4, List.replicate_one, ints, List.map_cons, List.map_nil, Nat.zero_add, Int.natCast_zero, Int.zero_add] at i1 ⊢
      (try simp -implicitDefEqProofs (maxSteps := 4000000) (disch := omega) only [getDT, go_sem, *]); (try simp only [pA, pB, pC, pD, pE, pF, pG, pH, pI, pJ, pK, pL, pM, pN, pO, pP, if_true, if_false]); repeat' (first | done | rfl | (refine iteC (fun hq => ?_) (fun hq => ?_) <;> (try (first | (exfalso; omega) | contradiction)) <;> (try simp -implicitDefEqProofs (maxSteps := 4000000) (disch := omega) only [getDT, go_sem, *]) <;> (try simp only [pA, pB, pC, pD, pE, pF, pG, pH, pI, pJ, pK, pL, pM, pN, pO, pP, if_true, if_false]))); (all_goals try rfl); (all_goals try (repeat' (first | done | rfl | (exfalso; omega) | contradiction | (refine iteR (fun hq => ?_) (fun hq => ?_)))))
    · simp only [d1S, ob4] at i1 ⊢
      rw [List.replicate_succ'] at i1
      obtain ⟨fs, hfs⟩ : ∃ fs, fs = List.replicate (k + 1) (-1 : Int) := ⟨_, rfl⟩
      have hl : fs.length = k + 1 := by rw [hfs, List.length_replicate]
      rw [← hfs] at i1 ⊢
      clear hfs
      simp only [ints] at i1 ⊢
      simp only [Int.natCast_add, Int.natCast_one, Int.natCast_zero, Int.natCast_mul, Int.cast_ofNat_Int, List.length_append, List.length_map, List.map_nil, List.length_nil, List.map_append, List.map_cons, List.length_cons, Nat.zero_add, srcO, mapSet] at i1
      (try simp -implicitDefEqProofs (maxSteps := 4000000) (disch := omega) only [getDT, go_sem, *]); (try simp only [pA, pB, pC, pD, pE, pF, pG, pH, pI, pJ, pK, pL, pM, pN, pO, pP, if_true, if_false]); repeat' (first | done | rfl | (refine iteC (fun hq => ?_) (fun hq => ?_) <;> (try (first | (exfalso; omega) | contradiction)) <;> (try simp -implicitDefEqProofs (maxSteps := 4000000) (disch := omega) only [getDT, go_sem, *]) <;> (try simp only [pA, pB, pC, pD, pE, pF, pG, pH, pI, pJ, pK, pL, pM, pN, pO, pP, if_true, if_false]))); (all_goals try rfl); (all_goals try (repeat' (first | done | rfl | (exfalso; omega) | contradiction | (refine iteR (fun hq => ?_) (fun hq => ?_)))))
  · have : k = slots := by omega
    subst this
    clear ih
    rcases k with _ | k
    · omega
    · simp only [d1S, ob4]
      (try simp -implicitDefEqProofs (maxSteps := 4000000) (disch := omega) only [getDT, go_sem, *]); (try simp only [pA, pB, pC, pD, pE, pF, pG, pH, pI, pJ, pK, pL, pM, pN, pO, pP, if_true, if_false]); repeat' (first | done | rfl | (refine iteC (fun hq => ?_) (fun hq => ?_) <;> (try (first | (exfalso; omega) | contradiction)) <;> (try simp -implicitDefEqProofs (maxSteps := 4000000) (disch := omega) only [getDT, go_sem, *]) <;> (try simp only [pA, pB, pC, pD, pE, pF, pG, pH, pI, pJ, pK, pL, pM, pN, pO, pP, if_true, if_false]))); (all_goals try rfl); (all_goals try (repeat' (first | done | rfl | (exfalso; omega) | contradiction | (refine iteR (fun hq => ?_) (fun hq => ?_)))))
theorem r10new_ok (slots live : Int) : callL G N_ref10_New [.d (.int .i64 slots), .d (.int .i64 live)] [] = some (.d (.tup [eDirectory (newD slots live).1, .int .i64 (newD slots live).2]), []) := by
  unfold newD
  by_cases c1 : live < 1 ∨ slots < live ∨ 6 < slots
  · rw [if_pos c1]
    rw [callL_code g_ref10_New (by simp)]; simp -implicitDefEqProofs (maxSteps := 4000000) (disch := omega) only [c_ref10_New, r_ref10_New, getDT, go_sem, *]; (try simp only [pA, pB, pC, pD, pE, pF, pG, pH, pI, pJ, pK, pL, pM, pN, pO, pP, if_true, if_false]); repeat' (first | done | rfl | (refine iteC (fun hq => ?_) (fun hq => ?_) <;> (try (first | (exfalso; omega) | contradiction)) <;> (try simp -implicitDefEqProofs (maxSteps := 4000000) (disch := omega) only [getDT, go_sem, *]) <;> (try simp only [pA, pB, pC, pD, pE, pF, pG, pH, pI, pJ, pK, pL, pM, pN, pO, pP, if_true, if_false]))); (all_goals try rfl); (all_goals try (repeat' (first | done | rfl | (exfalso; omega) | contradiction | (refine iteR (fun hq => ?_) (fun hq => ?_)))))
  rw [if_neg c1]
  obtain ⟨s, hs⟩ : ∃ s : Nat, slots = s := ⟨slots.toNat, by omega⟩
  obtain ⟨l, hl⟩ : ∃ l : Nat, live = l := ⟨live.toNat, by omega⟩
  subst hs hl
  have h0 := r10_loop0 s l (by omega) (by omega) (by omega) 0 (by omega)
  have h1 := r10_loop1 s (by omega) (by omega) ((spansN l l).map eSpan) l 0 (by omega)
  simp only [ob4, d0S, d1S] at h0 h1
  simp only [Int.toNat_natCast, dirN]
  rw [callL_code g_ref10_New (by simp)]; simp -implicitDefEqProofs (maxSteps := 4000000) (disch := omega) only [c_ref10_New, r_ref10_New, getDT, go_sem, *]; (try simp only [pA, pB, pC, pD, pE, pF, pG, pH, pI, pJ, pK, pL, pM, pN, pO, pP, if_true, if_false]); repeat' (first | done | rfl | (refine iteC (fun hq => ?_) (fun hq => ?_) <;> (try (first | (exfalso; omega) | contradiction)) <;> (try simp -implicitDefEqProofs (maxSteps := 4000000) (disch := omega) only [getDT, go_sem, *]) <;> (try simp only [pA, pB, pC, pD, pE, pF, pG, pH, pI, pJ, pK, pL, pM, pN, pO, pP, if_true, if_false]))); (all_goals try rfl); (all_goals try (repeat' (first | done | rfl | (exfalso; omega) | contradiction | (refine iteR (fun hq => ?_) (fun hq => ?_)))))
end Go.Proofs.Ytkdjbfjohbiemaa

namespace Go.Proofs.Ytkdjbfjohbiemaa
open Go Go.Sim
set_option linter.unusedSimpArgs false
set_option linter.unusedVariables false
set_option maxHeartbeats 10000000
set_option maxRecDepth 40000
def n0T (s : Setup) (d : Directory) (a b : Go.Sim.AV) (i : Int) (hp : Heap) : St :=
  ⟨[(1, .ref 1 0 0), (2, .ref 2 0 0), (4, .ref 4 0 0), (6, .ref 6 0 0), (7, .d (.int .i64 i))], (1, .row [.d (eSetup s)]) :: ar2 :: (4, .row [.d (eDirectory d)]) :: (6, .row [.agg [a, b, .d (.int .i64 0), .d (.int .i64 0), .xsl [], .d (.int .i64 d.version), .d (.sl (d.l.map eSpan)), .d (.sl (ints d.forward)), .d (.int .i64 s.epoch), .d (.int .i64 s.clock), .d (.int .i64 s.nextID)]]) :: hp⟩
def n0S (s : Setup) (d : Directory) : Nat → St
  | 0 => n0T s d (.xsl []) (.xsl []) 0 []
  | k + 1 => n0T s d (.acc 114 ((slotsN s (k + 1)).map eSlot)) (.acc 122 ((stripesN s (k + 1)).map eStripe)) ((k : Int) + 1) [(114, .acc (k + 1)), (122, .acc (k + 1))]
theorem r12_loop (s : Setup) (n l : Nat) (ok : SetupOk s n l) (d : Directory) (hd : d = dirN n l) : ∀ k, k ≤ n → loopL G [] l_ref12_New_0 (n0S s d k) = some (.exit 0, ⟨[(1, .ref 1 0 0), (2, .ref 2 0 0), (6, .ref 6 0 0)], (1, .row [.d (eSetup s)]) :: ar2 :: (6, .row [.agg [.acc 114 ((slotsN s n).map eSlot), .acc 122 ((stripesN s n).map eStripe), .d (.int .i64 0), .d (.int .i64 0), .xsl [], .d (.int .i64 d.version), .d (.sl (d.l.map eSpan)), .d (.sl (ints d.forward)), .d (.int .i64 s.epoch), .d (.int .i64 s.clock), .d (.int .i64 s.nextID)]]) :: [(114, .acc n), (122, .acc n)]⟩) := by
  obtain ⟨o1, o2, o3, o4, o5, o6, o7, _, _⟩ := ok
  refine loop_ind (fun k => n - k) _ _ _ fun k hk L ih => ?_
  simp only [l_ref12_New_0]
  by_cases h0 : k < n
  · have i1 := ih (k + 1) (by omega) (by omega)
    clear ih
    have hc : ¬ (s.capacity < 1 ∨ 12 < s.capacity) := by omega
    have hfree := r07free_ok s.capacity
    unfold shardFree at hfree
    rw [if_neg hc] at hfree
    simp only [n0S] at i1
    rw [slotsN_succ, stripesN_succ] at i1
    have hcase : ∃ x : Shard, slotI s k = ⟨0, x⟩ ∧ (k < l → d.l[k]? = some (spanI l k) ∧ callL G N_ref07_New [.d (.int .i64 s.capacity), .d (.int .i64 (spanI l k).low), .d (.int .i64 (spanI l k).high)] [] = some (.d (.tup [eShard x, .int .i64 0]), [])) ∧ (¬ k < l → x = ⟨false, 0, 0, ringN s.capacity, ⟨[], []⟩⟩) := by
      by_cases h1 : k < l
      · have hnew := r07new_ok s.capacity (spanI l k).low (spanI l k).high
        unfold shardNew at hnew
        rw [if_neg hc, if_neg (by rw [spanI_in o3 h1 (by omega)]; decide)] at hnew
        refine ⟨⟨true, (spanI l k).low, (spanI l k).high, ringN s.capacity, ⟨[], []⟩⟩, by unfold slotI; rw [if_pos (by omega), o2], fun _ => ⟨by rw [hd]; simp [dirN, spansN, h1], hnew⟩, fun h => absurd h1 h⟩
      · exact ⟨_, by unfold slotI; rw [if_neg (by omega)], fun h => absurd h h1, fun _ => rfl⟩
    obtain ⟨x, hx1, hx2, hx3⟩ := hcase
    rw [hx1] at i1
    have hdl : d.l.length = l := by rw [hd]; simp [dirN, spansN]
    clear hd
    by_cases h1 : k < l
    · obtain ⟨hx2, hnew⟩ := hx2 h1
      clear hx1 hx3
      have hg : d.l[k] = spanI l k := by rw [List.getElem?_eq_getElem (by omega)] at hx2; exact Option.some.inj hx2
      clear hx2
      generalize spanI l k = sp at *
      rcases k with _ | k
      · simp only [n0S, n0T, ar2, slotsN, stripesN, List.range_zero, List.replicate_zero, List.map_append, List.map_cons, List.map_nil, List.nil_append, Nat.zero_add, Int.natCast_zero, Int.zero_add] at i1 ⊢
        simp only [eSlot, eStripe] at i1
        (try simp -implicitDefEqProofs (maxSteps := 4000000) (disch := omega) only [getDT, go_sem, *]); (try simp only [pA, pB, pC, pD, pE, pF, pG, pH, pI, pJ, pK, pL, pM, pN, pO, pP, if_true, if_false]); repeat' (first | done | rfl | (refine iteC (fun hq => ?_) (fun hq => ?_) <;> (try (first | (exfalso; omega) | contradiction)) <;> (try simp -implicitDefEqProofs (maxSteps := 4000000) (disch := omega) only [getDT, go_sem, *]) <;> (try simp only [pA, pB, pC, pD, pE, pF, pG, pH, pI, pJ, pK, pL, pM, pN, pO, pP, if_true, if_false]))); (all_goals try rfl); (all_goals try (repeat' (first | done | rfl | (exfalso; omega) | contradiction | (refine iteR (fun hq => ?_) (fun hq => ?_)))))
      · simp only [n0S, n0T] at i1 ⊢
        obtain ⟨es, hes⟩ : ∃ es, es = slotsN s (k + 1) := ⟨_, rfl⟩
        obtain ⟨fs, hfs2⟩ : ∃ fs, fs = stripesN s (k + 1) := ⟨_, rfl⟩
        have hel : es.length = k + 1 := by rw [hes, slotsN_len]
        have hfl : fs.length = k + 1 := by rw [hfs2, stripesN_len]
        rw [← hes, ← hfs2] at i1 ⊢
        clear hes hfs2
        simp only [eSlot, eStripe, ar2, List.map_append, List.map_cons, List.map_nil] at i1 ⊢
        simp only [Int.natCast_add, Int.natCast_one, Int.natCast_zero, Int.natCast_mul, Int.cast_ofNat_Int, List.length_append, List.length_map, List.map_nil, List.length_nil, List.map_append, List.map_cons, List.length_cons, Nat.zero_add, srcO, mapSet] at i1
        (try simp -implicitDefEqProofs (maxSteps := 4000000) (disch := omega) only [getDT, go_sem, *]); (try simp only [pA, pB, pC, pD, pE, pF, pG, pH, pI, pJ, pK, pL, pM, pN, pO, pP, if_true, if_false]); repeat' (first | done | rfl | (refine iteC (fun hq => ?_) (fun hq => ?_) <;> (try (first | (exfalso; omega) | contradiction)) <;> (try simp -implicitDefEqProofs (maxSteps := 4000000) (disch := omega) only [getDT, go_sem, *]) <;> (try simp only [pA, pB, pC, pD, pE, pF, pG, pH, pI, pJ, pK, pL, pM, pN, pO, pP, if_true, if_false]))); (all_goals try rfl); (all_goals try (repeat' (first | done | rfl | (exfalso; omega) | contradiction | (refine iteR (fun hq => ?_) (fun hq => ?_)))))
    · have hx3 := hx3 h1
      subst hx3
      clear hx1 hx2
      rcases k with _ | k
      · omega
      · simp only [n0S, n0T] at i1 ⊢
        obtain ⟨es, hes⟩ : ∃ es, es = slotsN s (k + 1) := ⟨_, rfl⟩
        obtain ⟨fs, hfs2⟩ : ∃ fs, fs = stripesN s (k + 1) := ⟨_, rfl⟩
        have hel : es.length = k + 1 := by rw [hes, slotsN_len]
        have hfl : fs.length = k + 1 := by rw [hfs2, stripesN_len]
        rw [← hes, ← hfs2] at i1 ⊢
        clear hes hfs2
        simp only [eSlot, eStripe, ar2, List.map_append, List.map_cons, List.map_nil] at i1 ⊢
        simp only [Int.natCast_add, Int.natCast_one, Int.natCast_zero, Int.natCast_mul, Int.cast_ofNat_Int, List.length_append, List.length_map, List.map_nil, List.length_nil, List.map_append, List.map_cons, List.length_cons, Nat.zero_add, srcO, mapSet] at i1
        (try simp -implicitDefEqProofs (maxSteps := 4000000) (disch := omega) only [getDT, go_sem, *]); (try simp only [pA, pB, pC, pD, pE, pF, pG, pH, pI, pJ, pK, pL, pM, pN, pO, pP, if_true, if_false]); repeat' (first | done | rfl | (refine iteC (fun hq => ?_) (fun hq => ?_) <;> (try (first | (exfalso; omega) | contradiction)) <;> (try simp -implicitDefEqProofs (maxSteps := 4000000) (disch := omega) only [getDT, go_sem, *]) <;> (try simp only [pA, pB, pC, pD, pE, pF, pG, pH, pI, pJ, pK, pL, pM, pN, pO, pP, if_true, if_false]))); (all_goals try rfl); (all_goals try (repeat' (first | done | rfl | (exfalso; omega) | contradiction | (refine iteR (fun hq => ?_) (fun hq => ?_)))))
  · have : k = n := by omega
    subst this
    clear ih
    rcases k with _ | k
    · omega
    · simp only [n0S, n0T, ar2]
      (try simp -implicitDefEqProofs (maxSteps := 4000000) (disch := omega) only [getDT, go_sem, *]); (try simp only [pA, pB, pC, pD, pE, pF, pG, pH, pI, pJ, pK, pL, pM, pN, pO, pP, if_true, if_false]); repeat' (first | done | rfl | (refine iteC (fun hq => ?_) (fun hq => ?_) <;> (try (first | (exfalso; omega) | contradiction)) <;> (try simp -implicitDefEqProofs (maxSteps := 4000000) (disch := omega) only [getDT, go_sem, *]) <;> (try simp only [pA, pB, pC, pD, pE, pF, pG, pH, pI, pJ, pK, pL, pM, pN, pO, pP, if_true, if_false]))); (all_goals try rfl); (all_goals try (repeat' (first | done | rfl | (exfalso; omega) | contradiction | (refine iteR (fun hq => ?_) (fun hq => ?_)))))
theorem r12new_ok (s : Setup) : callL G N_ref12_New [.d (eSetup s)] [] = some (.d (.tup [eArena (arenaNew s).1, .int .i64 (arenaNew s).2]), []) := by
  unfold arenaNew
  by_cases h : okSetup s = true
  · obtain ⟨n, l, ok, _⟩ := setupOk_of h
    have hl := r12_loop s n l ok (dirN n l) rfl 0 (by omega)
    obtain ⟨o1, o2, o3, o4, o5, o6, o7, o8, o9⟩ := ok
    have hn := r10new_ok s.slots s.live
    rw [o1, o2, newD_ok o3 o4 o5] at hn
    have hd := r08new_ok s.dead
    unfold deadNew at hd
    rw [if_neg (by omega)] at hd
    rw [if_pos h]
    unfold okSetup at h
    simp only [Bool.and_eq_true] at h
    obtain ⟨i1, i2, i3, i4, i5, i6, i7, i8⟩ := h
    rw [o1] at i1
    rw [o1, o2] at i2
    have e1 : s.slots.toNat = n := by omega
    have e2 : s.live.toNat = l := by omega
    have q1 := slotsN_len s n
    have q2 := stripesN_len s n
    simp only [arenaN, e1, e2]
    simp only [n0S, n0T, ar2] at hl
    generalize slotsN s n = es at *
    generalize stripesN s n = fs at *
    generalize dirN n l = d at *
    have h0 : ¬ n = 0 := by omega
    rw [callL_code g_ref12_New (by simp)]; simp -implicitDefEqProofs (maxSteps := 4000000) (disch := omega) only [c_ref12_New, r_ref12_New, in12_ok, getDT, go_sem, *]; (try simp only [pA, pB, pC, pD, pE, pF, pG, pH, pI, pJ, pK, pL, pM, pN, pO, pP, if_true, if_false]); repeat' (first | done | rfl | (refine iteC (fun hq => ?_) (fun hq => ?_) <;> (try (first | (exfalso; omega) | contradiction)) <;> (try simp -implicitDefEqProofs (maxSteps := 4000000) (disch := omega) only [in12_ok, getDT, go_sem, *]) <;> (try simp only [pA, pB, pC, pD, pE, pF, pG, pH, pI, pJ, pK, pL, pM, pN, pO, pP, if_true, if_false]))); (all_goals try rfl); (all_goals try (repeat' (first | done | rfl | (exfalso; omega) | contradiction | (refine iteR (fun hq => ?_) (fun hq => ?_)))))
  · rw [if_neg h]
    unfold okSetup at h
    cases c1 : inB s.slots 1 6
    · clear h; rw [callL_code g_ref12_New (by simp)]; simp -implicitDefEqProofs (maxSteps := 4000000) (disch := omega) only [c_ref12_New, r_ref12_New, in12_ok, getDT, go_sem, *]; (try simp only [pA, pB, pC, pD, pE, pF, pG, pH, pI, pJ, pK, pL, pM, pN, pO, pP, if_true, if_false]); repeat' (first | done | rfl | (refine iteC (fun hq => ?_) (fun hq => ?_) <;> (try (first | (exfalso; omega) | contradiction)) <;> (try simp -implicitDefEqProofs (maxSteps := 4000000) (disch := omega) only [in12_ok, getDT, go_sem, *]) <;> (try simp only [pA, pB, pC, pD, pE, pF, pG, pH, pI, pJ, pK, pL, pM, pN, pO, pP, if_true, if_false]))); (all_goals try rfl); (all_goals try (repeat' (first | done | rfl | (exfalso; omega) | contradiction | (refine iteR (fun hq => ?_) (fun hq => ?_)))))
    cases c2 : inB s.live 1 s.slots
    · clear h; rw [callL_code g_ref12_New (by simp)]; simp -implicitDefEqProofs (maxSteps := 4000000) (disch := omega) only [c_ref12_New, r_ref12_New, in12_ok, getDT, go_sem, *]; (try simp only [pA, pB, pC, pD, pE, pF, pG, pH, pI, pJ, pK, pL, pM, pN, pO, pP, if_true, if_false]); repeat' (first | done | rfl | (refine iteC (fun hq => ?_) (fun hq => ?_) <;> (try (first | (exfalso; omega) | contradiction)) <;> (try simp -implicitDefEqProofs (maxSteps := 4000000) (disch := omega) only [in12_ok, getDT, go_sem, *]) <;> (try simp only [pA, pB, pC, pD, pE, pF, pG, pH, pI, pJ, pK, pL, pM, pN, pO, pP, if_true, if_false]))); (all_goals try rfl); (all_goals try (repeat' (first | done | rfl | (exfalso; omega) | contradiction | (refine iteR (fun hq => ?_) (fun hq => ?_)))))
    cases c3 : inB s.capacity 1 12
    · clear h; rw [callL_code g_ref12_New (by simp)]; simp -implicitDefEqProofs (maxSteps := 4000000) (disch := omega) only [c_ref12_New, r_ref12_New, in12_ok, getDT, go_sem, *]; (try simp only [pA, pB, pC, pD, pE, pF, pG, pH, pI, pJ, pK, pL, pM, pN, pO, pP, if_true, if_false]); repeat' (first | done | rfl | (refine iteC (fun hq => ?_) (fun hq => ?_) <;> (try (first | (exfalso; omega) | contradiction)) <;> (try simp -implicitDefEqProofs (maxSteps := 4000000) (disch := omega) only [in12_ok, getDT, go_sem, *]) <;> (try simp only [pA, pB, pC, pD, pE, pF, pG, pH, pI, pJ, pK, pL, pM, pN, pO, pP, if_true, if_false]))); (all_goals try rfl); (all_goals try (repeat' (first | done | rfl | (exfalso; omega) | contradiction | (refine iteR (fun hq => ?_) (fun hq => ?_)))))
    cases c4 : inB s.dead 1 24
    · clear h; rw [callL_code g_ref12_New (by simp)]; simp -implicitDefEqProofs (maxSteps := 4000000) (disch := omega) only [c_ref12_New, r_ref12_New, in12_ok, getDT, go_sem, *]; (try simp only [pA, pB, pC, pD, pE, pF, pG, pH, pI, pJ, pK, pL, pM, pN, pO, pP, if_true, if_false]); repeat' (first | done | rfl | (refine iteC (fun hq => ?_) (fun hq => ?_) <;> (try (first | (exfalso; omega) | contradiction)) <;> (try simp -implicitDefEqProofs (maxSteps := 4000000) (disch := omega) only [in12_ok, getDT, go_sem, *]) <;> (try simp only [pA, pB, pC, pD, pE, pF, pG, pH, pI, pJ, pK, pL, pM, pN, pO, pP, if_true, if_false]))); (all_goals try rfl); (all_goals try (repeat' (first | done | rfl | (exfalso; omega) | contradiction | (refine iteR (fun hq => ?_) (fun hq => ?_)))))
    cases c5 : inB s.limit 1 8
    · clear h; rw [callL_code g_ref12_New (by simp)]; simp -implicitDefEqProofs (maxSteps := 4000000) (disch := omega) only [c_ref12_New, r_ref12_New, in12_ok, getDT, go_sem, *]; (try simp only [pA, pB, pC, pD, pE, pF, pG, pH, pI, pJ, pK, pL, pM, pN, pO, pP, if_true, if_false]); repeat' (first | done | rfl | (refine iteC (fun hq => ?_) (fun hq => ?_) <;> (try (first | (exfalso; omega) | contradiction)) <;> (try simp -implicitDefEqProofs (maxSteps := 4000000) (disch := omega) only [in12_ok, getDT, go_sem, *]) <;> (try simp only [pA, pB, pC, pD, pE, pF, pG, pH, pI, pJ, pK, pL, pM, pN, pO, pP, if_true, if_false]))); (all_goals try rfl); (all_goals try (repeat' (first | done | rfl | (exfalso; omega) | contradiction | (refine iteR (fun hq => ?_) (fun hq => ?_)))))
    cases c6 : inB s.clock 0 1073741824
    · clear h; rw [callL_code g_ref12_New (by simp)]; simp -implicitDefEqProofs (maxSteps := 4000000) (disch := omega) only [c_ref12_New, r_ref12_New, in12_ok, getDT, go_sem, *]; (try simp only [pA, pB, pC, pD, pE, pF, pG, pH, pI, pJ, pK, pL, pM, pN, pO, pP, if_true, if_false]); repeat' (first | done | rfl | (refine iteC (fun hq => ?_) (fun hq => ?_) <;> (try (first | (exfalso; omega) | contradiction)) <;> (try simp -implicitDefEqProofs (maxSteps := 4000000) (disch := omega) only [in12_ok, getDT, go_sem, *]) <;> (try simp only [pA, pB, pC, pD, pE, pF, pG, pH, pI, pJ, pK, pL, pM, pN, pO, pP, if_true, if_false]))); (all_goals try rfl); (all_goals try (repeat' (first | done | rfl | (exfalso; omega) | contradiction | (refine iteR (fun hq => ?_) (fun hq => ?_)))))
    cases c7 : inB s.nextID 1 1073741824
    · clear h; rw [callL_code g_ref12_New (by simp)]; simp -implicitDefEqProofs (maxSteps := 4000000) (disch := omega) only [c_ref12_New, r_ref12_New, in12_ok, getDT, go_sem, *]; (try simp only [pA, pB, pC, pD, pE, pF, pG, pH, pI, pJ, pK, pL, pM, pN, pO, pP, if_true, if_false]); repeat' (first | done | rfl | (refine iteC (fun hq => ?_) (fun hq => ?_) <;> (try (first | (exfalso; omega) | contradiction)) <;> (try simp -implicitDefEqProofs (maxSteps := 4000000) (disch := omega) only [in12_ok, getDT, go_sem, *]) <;> (try simp only [pA, pB, pC, pD, pE, pF, pG, pH, pI, pJ, pK, pL, pM, pN, pO, pP, if_true, if_false]))); (all_goals try rfl); (all_goals try (repeat' (first | done | rfl | (exfalso; omega) | contradiction | (refine iteR (fun hq => ?_) (fun hq => ?_)))))
    cases c8 : inB s.epoch 0 65536
    · clear h; rw [callL_code g_ref12_New (by simp)]; simp -implicitDefEqProofs (maxSteps := 4000000) (disch := omega) only [c_ref12_New, r_ref12_New, in12_ok, getDT, go_sem, *]; (try simp only [pA, pB, pC, pD, pE, pF, pG, pH, pI, pJ, pK, pL, pM, pN, pO, pP, if_true, if_false]); repeat' (first | done | rfl | (refine iteC (fun hq => ?_) (fun hq => ?_) <;> (try (first | (exfalso; omega) | contradiction)) <;> (try simp -implicitDefEqProofs (maxSteps := 4000000) (disch := omega) only [in12_ok, getDT, go_sem, *]) <;> (try simp only [pA, pB, pC, pD, pE, pF, pG, pH, pI, pJ, pK, pL, pM, pN, pO, pP, if_true, if_false]))); (all_goals try rfl); (all_goals try (repeat' (first | done | rfl | (exfalso; omega) | contradiction | (refine iteR (fun hq => ?_) (fun hq => ?_)))))
    rw [c1, c2, c3, c4, c5, c6, c7, c8] at h
    exact absurd rfl h
end Go.Proofs.Ytkdjbfjohbiemaa

namespace Go.Proofs.Ytkdjbfjohbiemaa
open Go Go.Sim
set_option linter.unusedSimpArgs false
set_option linter.unusedVariables false
set_option maxHeartbeats 10000000
set_option maxRecDepth 40000
def pk3 (x y z i : Int) : Int := if i = 0 then x else if i = 1 then y else z
theorem pick3_ok (l : List Int) (a : Nat) (x y z : Int) (hL : l.length ≤ 4000) : callL G N_base_Src_Pick [.ref 1000000 0 0, .d (.sl [.int .i64 x, .int .i64 y, .int .i64 z])] [(1000000, srcO l a)] = some (.d (.int .i64 (pk3 x y z (nD l a 3))), [(1000000, srcO l (rawD l a).2)]) := by
  have hn := n_ok l a 3 hL (by omega) (by omega)
  have hb := nD_in l a (n := 3) (by omega)
  unfold pk3
  by_cases c0 : nD l a 3 = 0
  · rw [c0] at hn; rw [if_pos c0]
    clear hb c0
    rw [callL_code g_base_Src_Pick (by simp)]; simp -implicitDefEqProofs (maxSteps := 4000000) (disch := omega) only [c_base_Src_Pick, r_base_Src_Pick, getDT, go_sem, *]; (try simp only [pA, pB, pC, pD, pE, pF, pG, pH, pI, pJ, pK, pL, pM, pN, pO, pP, if_true, if_false]); repeat' (first | done | rfl | (refine iteC (fun hq => ?_) (fun hq => ?_) <;> (try (first | (exfalso; omega) | contradiction)) <;> (try simp -implicitDefEqProofs (maxSteps := 4000000) (disch := omega) only [getDT, go_sem, *]) <;> (try simp only [pA, pB, pC, pD, pE, pF, pG, pH, pI, pJ, pK, pL, pM, pN, pO, pP, if_true, if_false]))); (all_goals try rfl); (all_goals try (repeat' (first | done | rfl | (exfalso; omega) | contradiction | (refine iteR (fun hq => ?_) (fun hq => ?_)))))
  by_cases c1 : nD l a 3 = 1
  · rw [c1] at hn; rw [if_neg c0, if_pos c1]
    clear hb c0 c1
    rw [callL_code g_base_Src_Pick (by simp)]; simp -implicitDefEqProofs (maxSteps := 4000000) (disch := omega) only [c_base_Src_Pick, r_base_Src_Pick, getDT, go_sem, *]; (try simp only [pA, pB, pC, pD, pE, pF, pG, pH, pI, pJ, pK, pL, pM, pN, pO, pP, if_true, if_false]); repeat' (first | done | rfl | (refine iteC (fun hq => ?_) (fun hq => ?_) <;> (try (first | (exfalso; omega) | contradiction)) <;> (try simp -implicitDefEqProofs (maxSteps := 4000000) (disch := omega) only [getDT, go_sem, *]) <;> (try simp only [pA, pB, pC, pD, pE, pF, pG, pH, pI, pJ, pK, pL, pM, pN, pO, pP, if_true, if_false]))); (all_goals try rfl); (all_goals try (repeat' (first | done | rfl | (exfalso; omega) | contradiction | (refine iteR (fun hq => ?_) (fun hq => ?_)))))
  · have c2 : nD l a 3 = 2 := by omega
    rw [c2] at hn; rw [if_neg c0, if_neg c1]
    clear hb c0 c1 c2
    rw [callL_code g_base_Src_Pick (by simp)]; simp -implicitDefEqProofs (maxSteps := 4000000) (disch := omega) only [c_base_Src_Pick, r_base_Src_Pick, getDT, go_sem, *]; (try simp only [pA, pB, pC, pD, pE, pF, pG, pH, pI, pJ, pK, pL, pM, pN, pO, pP, if_true, if_false]); repeat' (first | done | rfl | (refine iteC (fun hq => ?_) (fun hq => ?_) <;> (try (first | (exfalso; omega) | contradiction)) <;> (try simp -implicitDefEqProofs (maxSteps := 4000000) (disch := omega) only [getDT, go_sem, *]) <;> (try simp only [pA, pB, pC, pD, pE, pF, pG, pH, pI, pJ, pK, pL, pM, pN, pO, pP, if_true, if_false]))); (all_goals try rfl); (all_goals try (repeat' (first | done | rfl | (exfalso; omega) | contradiction | (refine iteR (fun hq => ?_) (fun hq => ?_)))))
theorem fit_new (s : Setup) : FitA (arenaNew s).1 := by
  unfold arenaNew
  split
  · rename_i ho
    obtain ⟨n, l, ok, _⟩ := setupOk_of ho
    obtain ⟨o1, o2, o3, o4, o5, o6, o7, o8, o9⟩ := ok
    refine ⟨by simp [arenaN, slotsN]; omega, fun i hi => ?_, ?_, ?_, ?_, ?_⟩
    · simp only [arenaN, slotsN, List.getElem_map, List.getElem_range, slotI]
      split <;> exact ⟨by simp [ringN]; omega, by simp, by simp⟩
    · simp [arenaN, stripesN]; omega
    · simp [arenaN]
    · simp [arenaN, dirN, spansN]; omega
    · simp [arenaN, dirN]; omega
  · exact ⟨by decide, fun i h => by simp [zArena] at h, by decide, by decide, by decide, by decide⟩
def setup4 : Setup := ⟨2, 1, 3, 1, 1, 0, 1, 0⟩
theorem awake12_ok : callL G N_law12_awake [] [] = some (.d (.bool true), []) := by
  obtain ⟨a, b, ha, h1, h2, f1, f2, f3⟩ : ∃ a b : Arena, arenaNew setup4 = (a, 0) ∧ aTry a 0 1 = (b, true, 0) ∧ aTry b 0 2 = (b, false, 0) ∧ a.slots.length = 2 ∧ b.slots.length = 2 ∧ (b.slots.getD 0 zSlot).owner = 1 :=
    ⟨(arenaNew setup4).1, _, by decide, by rfl, by rfl, by decide, by decide, by decide⟩
  have e0 := arenaNew_ok setup4
  rw [ha] at e0
  have e1 := atry_ok a 0 1 (by omega)
  rw [h1] at e1
  have e2 := atry_ok b 0 2 (by omega)
  rw [h2] at e2
  rw [getDT (by omega)] at f3
  clear ha h1 h2
  simp only [eSetup, setup4] at e0
  rw [callL_code g_law12_awake (by simp)]; simp -implicitDefEqProofs (maxSteps := 4000000) (disch := omega) only [c_law12_awake, r_law12_awake, getDT, go_sem, *]; (try simp only [pA, pB, pC, pD, pE, pF, pG, pH, pI, pJ, pK, pL, pM, pN, pO, pP, if_true, if_false]); repeat' (first | done | rfl | (refine iteC (fun hq => ?_) (fun hq => ?_) <;> (try (first | (exfalso; omega) | contradiction)) <;> (try simp -implicitDefEqProofs (maxSteps := 4000000) (disch := omega) only [getDT, go_sem, *]) <;> (try simp only [pA, pB, pC, pD, pE, pF, pG, pH, pI, pJ, pK, pL, pM, pN, pO, pP, if_true, if_false]))); (all_goals try rfl); (all_goals try (repeat' (first | done | rfl | (exfalso; omega) | contradiction | (refine iteR (fun hq => ?_) (fun hq => ?_)))))
theorem arenaNew_law (x : Setup) (l : List Int) (hL : l.length ≤ LIM) : callL G N_law12_ArenaNew [.d (eSetup x), .d (.sl (ints l))] [] = some (.d (.bool true), []) := by
  obtain ⟨t, ht, hnew⟩ := new_ok2 l hL
  obtain ⟨s, a1, hs, hs1⟩ := setup_ok0 t ht
  have hn := n_ok t a1 9 ht (by omega) (by omega)
  have hp := fun x y z => pick3_ok t (rawD t a1).2 x y z ht
  have hr := range_ok t (rawD t a1).2 0 7 ht (by omega) (by omega) (by omega) (by omega)
  have hw := awake12_ok
  have hA : ∀ s : Setup, ∃ a e, callL G N_arena_New [.d (eSetup s)] [] = some (.d (.tup [eArena a, .int .i64 e]), []) ∧ callL G N_ref12_New [.d (eSetup s)] [] = some (.d (.tup [eArena a, .int .i64 e]), []) ∧ callL G N_ref12_Same [.d (eArena a), .d (eArena a)] [] = some (.d (.bool true), []) := fun s =>
    ⟨_, _, arenaNew_ok s, r12new_ok s, by have := same_Arena (arenaNew s).1 (arenaNew s).1 (fit_new s); simpa using this⟩
  clear hs
  obtain ⟨ax, ex, x1, x2, x3⟩ := hA x
  generalize hz : nD t a1 9 = z at *
  have fin : ∀ y : Setup, ∃ a e, callL G N_arena_New [.d (.agg [.int .i64 y.slots, .int .i64 y.live, .int .i64 y.capacity, .int .i64 y.dead, .int .i64 y.limit, .int .i64 y.clock, .int .i64 y.nextID, .int .i64 y.epoch])] [] = some (.d (.tup [eArena a, .int .i64 e]), []) ∧ callL G N_ref12_New [.d (.agg [.int .i64 y.slots, .int .i64 y.live, .int .i64 y.capacity, .int .i64 y.dead, .int .i64 y.limit, .int .i64 y.clock, .int .i64 y.nextID, .int .i64 y.epoch])] [] = some (.d (.tup [eArena a, .int .i64 e]), []) ∧ callL G N_ref12_Same [.d (eArena a), .d (eArena a)] [] = some (.d (.bool true), []) := hA
  clear hz
  by_cases c0 : z = 0
  · subst c0
    obtain ⟨ay, ey, y1, y2, y3⟩ := fin { s with slots := pk3 0 6 7 (nD t (rawD t a1).2 3) }
    clear hA fin
    rw [callL_code g_law12_ArenaNew (by simp)]; simp -implicitDefEqProofs (maxSteps := 4000000) (disch := omega) only [c_law12_ArenaNew, r_law12_ArenaNew, getDT, go_sem, *]; (try simp only [pA, pB, pC, pD, pE, pF, pG, pH, pI, pJ, pK, pL, pM, pN, pO, pP, if_true, if_false]); repeat' (first | done | rfl | (refine iteC (fun hq => ?_) (fun hq => ?_) <;> (try (first | (exfalso; omega) | contradiction)) <;> (try simp -implicitDefEqProofs (maxSteps := 4000000) (disch := omega) only [getDT, go_sem, *]) <;> (try simp only [pA, pB, pC, pD, pE, pF, pG, pH, pI, pJ, pK, pL, pM, pN, pO, pP, if_true, if_false]))); (all_goals try rfl); (all_goals try (repeat' (first | done | rfl | (exfalso; omega) | contradiction | (refine iteR (fun hq => ?_) (fun hq => ?_)))))
  by_cases c1 : z = 1
  · subst c1
    obtain ⟨ay, ey, y1, y2, y3⟩ := fin { s with live := 0 + nD t (rawD t a1).2 8 }
    clear hA fin
    rw [callL_code g_law12_ArenaNew (by simp)]; simp -implicitDefEqProofs (maxSteps := 4000000) (disch := omega) only [c_law12_ArenaNew, r_law12_ArenaNew, getDT, go_sem, *]; (try simp only [pA, pB, pC, pD, pE, pF, pG, pH, pI, pJ, pK, pL, pM, pN, pO, pP, if_true, if_false]); repeat' (first | done | rfl | (refine iteC (fun hq => ?_) (fun hq => ?_) <;> (try (first | (exfalso; omega) | contradiction)) <;> (try simp -implicitDefEqProofs (maxSteps := 4000000) (disch := omega) only [getDT, go_sem, *]) <;> (try simp only [pA, pB, pC, pD, pE, pF, pG, pH, pI, pJ, pK, pL, pM, pN, pO, pP, if_true, if_false]))); (all_goals try rfl); (all_goals try (repeat' (first | done | rfl | (exfalso; omega) | contradiction | (refine iteR (fun hq => ?_) (fun hq => ?_)))))
  by_cases c2 : z = 2
  · subst c2
    obtain ⟨ay, ey, y1, y2, y3⟩ := fin { s with capacity := pk3 0 12 13 (nD t (rawD t a1).2 3) }
    clear hA fin
    rw [callL_code g_law12_ArenaNew (by simp)]; simp -implicitDefEqProofs (maxSteps := 4000000) (disch := omega) only [c_law12_ArenaNew, r_law12_ArenaNew, getDT, go_sem, *]; (try simp only [pA, pB, pC, pD, pE, pF, pG, pH, pI, pJ, pK, pL, pM, pN, pO, pP, if_true, if_false]); repeat' (first | done | rfl | (refine iteC (fun hq => ?_) (fun hq => ?_) <;> (try (first | (exfalso; omega) | contradiction)) <;> (try simp -implicitDefEqProofs (maxSteps := 4000000) (disch := omega) only [getDT, go_sem, *]) <;> (try simp only [pA, pB, pC, pD, pE, pF, pG, pH, pI, pJ, pK, pL, pM, pN, pO, pP, if_true, if_false]))); (all_goals try rfl); (all_goals try (repeat' (first | done | rfl | (exfalso; omega) | contradiction | (refine iteR (fun hq => ?_) (fun hq => ?_)))))
  by_cases c3 : z = 3
  · subst c3
    obtain ⟨ay, ey, y1, y2, y3⟩ := fin { s with dead := pk3 0 24 25 (nD t (rawD t a1).2 3) }
    clear hA fin
    rw [callL_code g_law12_ArenaNew (by simp)]; simp -implicitDefEqProofs (maxSteps := 4000000) (disch := omega) only [c_law12_ArenaNew, r_law12_ArenaNew, getDT, go_sem, *]; (try simp only [pA, pB, pC, pD, pE, pF, pG, pH, pI, pJ, pK, pL, pM, pN, pO, pP, if_true, if_false]); repeat' (first | done | rfl | (refine iteC (fun hq => ?_) (fun hq => ?_) <;> (try (first | (exfalso; omega) | contradiction)) <;> (try simp -implicitDefEqProofs (maxSteps := 4000000) (disch := omega) only [getDT, go_sem, *]) <;> (try simp only [pA, pB, pC, pD, pE, pF, pG, pH, pI, pJ, pK, pL, pM, pN, pO, pP, if_true, if_false]))); (all_goals try rfl); (all_goals try (repeat' (first | done | rfl | (exfalso; omega) | contradiction | (refine iteR (fun hq => ?_) (fun hq => ?_)))))
  by_cases c4 : z = 4
  · subst c4
    obtain ⟨ay, ey, y1, y2, y3⟩ := fin { s with limit := pk3 0 8 9 (nD t (rawD t a1).2 3) }
    clear hA fin
    rw [callL_code g_law12_ArenaNew (by simp)]; simp -implicitDefEqProofs (maxSteps := 4000000) (disch := omega) only [c_law12_ArenaNew, r_law12_ArenaNew, getDT, go_sem, *]; (try simp only [pA, pB, pC, pD, pE, pF, pG, pH, pI, pJ, pK, pL, pM, pN, pO, pP, if_true, if_false]); repeat' (first | done | rfl | (refine iteC (fun hq => ?_) (fun hq => ?_) <;> (try (first | (exfalso; omega) | contradiction)) <;> (try simp -implicitDefEqProofs (maxSteps := 4000000) (disch := omega) only [getDT, go_sem, *]) <;> (try simp only [pA, pB, pC, pD, pE, pF, pG, pH, pI, pJ, pK, pL, pM, pN, pO, pP, if_true, if_false]))); (all_goals try rfl); (all_goals try (repeat' (first | done | rfl | (exfalso; omega) | contradiction | (refine iteR (fun hq => ?_) (fun hq => ?_)))))
  by_cases c5 : z = 5
  · subst c5
    obtain ⟨ay, ey, y1, y2, y3⟩ := fin { s with clock := pk3 (-1) 1073741824 1073741825 (nD t (rawD t a1).2 3) }
    clear hA fin
    rw [callL_code g_law12_ArenaNew (by simp)]; simp -implicitDefEqProofs (maxSteps := 4000000) (disch := omega) only [c_law12_ArenaNew, r_law12_ArenaNew, getDT, go_sem, *]; (try simp only [pA, pB, pC, pD, pE, pF, pG, pH, pI, pJ, pK, pL, pM, pN, pO, pP, if_true, if_false]); repeat' (first | done | rfl | (refine iteC (fun hq => ?_) (fun hq => ?_) <;> (try (first | (exfalso; omega) | contradiction)) <;> (try simp -implicitDefEqProofs (maxSteps := 4000000) (disch := omega) only [getDT, go_sem, *]) <;> (try simp only [pA, pB, pC, pD, pE, pF, pG, pH, pI, pJ, pK, pL, pM, pN, pO, pP, if_true, if_false]))); (all_goals try rfl); (all_goals try (repeat' (first | done | rfl | (exfalso; omega) | contradiction | (refine iteR (fun hq => ?_) (fun hq => ?_)))))
  by_cases c6 : z = 6
  · subst c6
    obtain ⟨ay, ey, y1, y2, y3⟩ := fin { s with nextID := pk3 0 1073741824 1073741825 (nD t (rawD t a1).2 3) }
    clear hA fin
    rw [callL_code g_law12_ArenaNew (by simp)]; simp -implicitDefEqProofs (maxSteps := 4000000) (disch := omega) only [c_law12_ArenaNew, r_law12_ArenaNew, getDT, go_sem, *]; (try simp only [pA, pB, pC, pD, pE, pF, pG, pH, pI, pJ, pK, pL, pM, pN, pO, pP, if_true, if_false]); repeat' (first | done | rfl | (refine iteC (fun hq => ?_) (fun hq => ?_) <;> (try (first | (exfalso; omega) | contradiction)) <;> (try simp -implicitDefEqProofs (maxSteps := 4000000) (disch := omega) only [getDT, go_sem, *]) <;> (try simp only [pA, pB, pC, pD, pE, pF, pG, pH, pI, pJ, pK, pL, pM, pN, pO, pP, if_true, if_false]))); (all_goals try rfl); (all_goals try (repeat' (first | done | rfl | (exfalso; omega) | contradiction | (refine iteR (fun hq => ?_) (fun hq => ?_)))))
  by_cases c7 : z = 7
  · subst c7
    obtain ⟨ay, ey, y1, y2, y3⟩ := fin { s with epoch := pk3 (-1) 65536 65537 (nD t (rawD t a1).2 3) }
    clear hA fin
    rw [callL_code g_law12_ArenaNew (by simp)]; simp -implicitDefEqProofs (maxSteps := 4000000) (disch := omega) only [c_law12_ArenaNew, r_law12_ArenaNew, getDT, go_sem, *]; (try simp only [pA, pB, pC, pD, pE, pF, pG, pH, pI, pJ, pK, pL, pM, pN, pO, pP, if_true, if_false]); repeat' (first | done | rfl | (refine iteC (fun hq => ?_) (fun hq => ?_) <;> (try (first | (exfalso; omega) | contradiction)) <;> (try simp -implicitDefEqProofs (maxSteps := 4000000) (disch := omega) only [getDT, go_sem, *]) <;> (try simp only [pA, pB, pC, pD, pE, pF, pG, pH, pI, pJ, pK, pL, pM, pN, pO, pP, if_true, if_false]))); (all_goals try rfl); (all_goals try (repeat' (first | done | rfl | (exfalso; omega) | contradiction | (refine iteR (fun hq => ?_) (fun hq => ?_)))))
  · obtain ⟨ay, ey, y1, y2, y3⟩ := hA s
    clear hA fin
    rw [callL_code g_law12_ArenaNew (by simp)]; simp -implicitDefEqProofs (maxSteps := 4000000) (disch := omega) only [c_law12_ArenaNew, r_law12_ArenaNew, getDT, go_sem, *]; (try simp only [pA, pB, pC, pD, pE, pF, pG, pH, pI, pJ, pK, pL, pM, pN, pO, pP, if_true, if_false]); repeat' (first | done | rfl | (refine iteC (fun hq => ?_) (fun hq => ?_) <;> (try (first | (exfalso; omega) | contradiction)) <;> (try simp -implicitDefEqProofs (maxSteps := 4000000) (disch := omega) only [getDT, go_sem, *]) <;> (try simp only [pA, pB, pC, pD, pE, pF, pG, pH, pI, pJ, pK, pL, pM, pN, pO, pP, if_true, if_false]))); (all_goals try rfl); (all_goals try (repeat' (first | done | rfl | (exfalso; omega) | contradiction | (refine iteR (fun hq => ?_) (fun hq => ?_)))))
end Go.Proofs.Ytkdjbfjohbiemaa

namespace Go.Proofs.Ytkdjbfjohbiemaa
open Go Go.Sim
set_option linter.unusedSimpArgs false
set_option linter.unusedVariables false
set_option maxHeartbeats 10000000
set_option maxRecDepth 40000
theorem clone_api_Stripe (es : List D) (hs : allSize 4 es = true) (hL : es.length ≤ 4294967296) : callL G N_slices_Clone_api_Stripe [.d (.sl es)] [] = some (.acc 0 es, [(0, .acc es.length)]) := by
  cases es with
  | nil =>
    refine callL_nils0 g_slices_Clone_api_Stripe (by decide) ?_ ?_
    · simp -implicitDefEqProofs only [c_slices_Clone_api_Stripe, r_slices_Clone_api_Stripe, go_sem]
    · simp -implicitDefEqProofs only [c_slices_Clone_api_Stripe, r_slices_Clone_api_Stripe, Nat.zero_le, go_sem]
  | cons e es =>
    rw [callL_nils g_slices_Clone_api_Stripe (by simp) (by decide)]
    simp only [allSize_cons] at hs
    simp only [List.length_cons] at hL
    simp -implicitDefEqProofs (maxSteps := 4000000) (disch := omega) only [c_slices_Clone_api_Stripe, r_slices_Clone_api_Stripe, go_sem, *]
def slotB (a : Arena) (n : Int) : Bool := decide (0 ≤ n) && decide (n < a.slots.length)
theorem slot_ok (a : Arena) (n : Int) (hL : a.slots.length ≤ 4294967296) : callL G N_arena_slot [.d (eArena a), .d (.int .i64 n)] [] = some (.d (.bool (slotB a n)), []) := by
  unfold slotB
  rw [callL_code g_arena_slot (by simp)]; simp -implicitDefEqProofs (maxSteps := 4000000) (disch := omega) only [c_arena_slot, r_arena_slot, getDT, go_sem, *]; (try simp only [pA, pB, pC, pD, pE, pF, pG, pH, pI, pJ, pK, pL, pM, pN, pO, pP, if_true, if_false]); repeat' (first | done | rfl | (refine iteC (fun hq => ?_) (fun hq => ?_) <;> (try (first | (exfalso; omega) | contradiction)) <;> (try simp -implicitDefEqProofs (maxSteps := 4000000) (disch := omega) only [getDT, go_sem, *]) <;> (try simp only [pA, pB, pC, pD, pE, pF, pG, pH, pI, pJ, pK, pL, pM, pN, pO, pP, if_true, if_false]))); (all_goals try rfl); (all_goals try (repeat' (first | done | rfl | (exfalso; omega) | contradiction | (refine iteR (fun hq => ?_) (fun hq => ?_)))))
def loadSlot (a : Arena) (n : Int) : Shard × Int := if slotB a n = true then ((a.slots.getD n.toNat zSlot).shard, 0) else (zShard, 1)
theorem loadSlot_ok (a : Arena) (n : Int) (hL : a.slots.length ≤ 4294967296) : callL G N_arena_LoadSlot [.d (eArena a), .d (.int .i64 n)] [] = some (.d (.tup [eShard (loadSlot a n).1, .int .i64 (loadSlot a n).2]), []) := by
  have hs := slot_ok a n hL
  unfold loadSlot
  by_cases c : slotB a n = true
  · rw [c] at hs
    rw [if_pos c]
    unfold slotB at c
    simp only [Bool.and_eq_true, decide_eq_true_eq] at c
    rw [callL_code g_arena_LoadSlot (by simp)]; simp -implicitDefEqProofs (maxSteps := 4000000) (disch := omega) only [c_arena_LoadSlot, r_arena_LoadSlot, getDT, go_sem, *]; (try simp only [pA, pB, pC, pD, pE, pF, pG, pH, pI, pJ, pK, pL, pM, pN, pO, pP, if_true, if_false]); repeat' (first | done | rfl | (refine iteC (fun hq => ?_) (fun hq => ?_) <;> (try (first | (exfalso; omega) | contradiction)) <;> (try simp -implicitDefEqProofs (maxSteps := 4000000) (disch := omega) only [getDT, go_sem, *]) <;> (try simp only [pA, pB, pC, pD, pE, pF, pG, pH, pI, pJ, pK, pL, pM, pN, pO, pP, if_true, if_false]))); (all_goals try rfl); (all_goals try (repeat' (first | done | rfl | (exfalso; omega) | contradiction | (refine iteR (fun hq => ?_) (fun hq => ?_)))))
  · rw [if_neg c]
    simp only [Bool.not_eq_true] at c
    rw [c] at hs
    rw [callL_code g_arena_LoadSlot (by simp)]; simp -implicitDefEqProofs (maxSteps := 4000000) (disch := omega) only [c_arena_LoadSlot, r_arena_LoadSlot, getDT, go_sem, *]; (try simp only [pA, pB, pC, pD, pE, pF, pG, pH, pI, pJ, pK, pL, pM, pN, pO, pP, if_true, if_false]); repeat' (first | done | rfl | (refine iteC (fun hq => ?_) (fun hq => ?_) <;> (try (first | (exfalso; omega) | contradiction)) <;> (try simp -implicitDefEqProofs (maxSteps := 4000000) (disch := omega) only [getDT, go_sem, *]) <;> (try simp only [pA, pB, pC, pD, pE, pF, pG, pH, pI, pJ, pK, pL, pM, pN, pO, pP, if_true, if_false]))); (all_goals try rfl); (all_goals try (repeat' (first | done | rfl | (exfalso; omega) | contradiction | (refine iteR (fun hq => ?_) (fun hq => ?_)))))
def mineE (a : Arena) (n k : Int) : Int := if slotB a n = false ∨ taskB k = false then 1 else if (a.slots.getD n.toNat zSlot).owner = k then 0 else 13
theorem mine_ok (a : Arena) (n k : Int) (hL : a.slots.length ≤ 4294967296) : callL G N_arena_mine [.d (eArena a), .d (.int .i64 n), .d (.int .i64 k)] [] = some (.d (.int .i64 (mineE a n k)), []) := by
  have hs := slot_ok a n hL
  have ht := isTask_ok k
  unfold mineE
  cases c : slotB a n
  · rw [c] at hs
    rw [if_pos (.inl rfl)]
    rw [callL_code g_arena_mine (by simp)]; simp -implicitDefEqProofs (maxSteps := 4000000) (disch := omega) only [c_arena_mine, r_arena_mine, getDT, go_sem, *]; (try simp only [pA, pB, pC, pD, pE, pF, pG, pH, pI, pJ, pK, pL, pM, pN, pO, pP, if_true, if_false]); repeat' (first | done | rfl | (refine iteC (fun hq => ?_) (fun hq => ?_) <;> (try (first | (exfalso; omega) | contradiction)) <;> (try simp -implicitDefEqProofs (maxSteps := 4000000) (disch := omega) only [getDT, go_sem, *]) <;> (try simp only [pA, pB, pC, pD, pE, pF, pG, pH, pI, pJ, pK, pL, pM, pN, pO, pP, if_true, if_false]))); (all_goals try rfl); (all_goals try (repeat' (first | done | rfl | (exfalso; omega) | contradiction | (refine iteR (fun hq => ?_) (fun hq => ?_)))))
  · rw [c] at hs
    have c2 := c
    unfold slotB at c2
    simp only [Bool.and_eq_true, decide_eq_true_eq] at c2
    clear c
    cases d : taskB k
    · rw [d] at ht
      rw [if_pos (.inr rfl)]
      rw [callL_code g_arena_mine (by simp)]; simp -implicitDefEqProofs (maxSteps := 4000000) (disch := omega) only [c_arena_mine, r_arena_mine, getDT, go_sem, *]; (try simp only [pA, pB, pC, pD, pE, pF, pG, pH, pI, pJ, pK, pL, pM, pN, pO, pP, if_true, if_false]); repeat' (first | done | rfl | (refine iteC (fun hq => ?_) (fun hq => ?_) <;> (try (first | (exfalso; omega) | contradiction)) <;> (try simp -implicitDefEqProofs (maxSteps := 4000000) (disch := omega) only [getDT, go_sem, *]) <;> (try simp only [pA, pB, pC, pD, pE, pF, pG, pH, pI, pJ, pK, pL, pM, pN, pO, pP, if_true, if_false]))); (all_goals try rfl); (all_goals try (repeat' (first | done | rfl | (exfalso; omega) | contradiction | (refine iteR (fun hq => ?_) (fun hq => ?_)))))
    · rw [d] at ht
      rw [if_neg (by simp)]
      rw [callL_code g_arena_mine (by simp)]; simp -implicitDefEqProofs (maxSteps := 4000000) (disch := omega) only [c_arena_mine, r_arena_mine, getDT, go_sem, *]; (try simp only [pA, pB, pC, pD, pE, pF, pG, pH, pI, pJ, pK, pL, pM, pN, pO, pP, if_true, if_false]); repeat' (first | done | rfl | (refine iteC (fun hq => ?_) (fun hq => ?_) <;> (try (first | (exfalso; omega) | contradiction)) <;> (try simp -implicitDefEqProofs (maxSteps := 4000000) (disch := omega) only [getDT, go_sem, *]) <;> (try simp only [pA, pB, pC, pD, pE, pF, pG, pH, pI, pJ, pK, pL, pM, pN, pO, pP, if_true, if_false]))); (all_goals try rfl); (all_goals try (repeat' (first | done | rfl | (exfalso; omega) | contradiction | (refine iteR (fun hq => ?_) (fun hq => ?_)))))
theorem storeSlot_bad (a : Arena) (n k : Int) (s : Shard) (hL : a.slots.length ≤ 4294967296) (h : ¬ mineE a n k = 0) : callL G N_arena_StoreSlot [.d (eArena a), .d (.int .i64 n), .d (.int .i64 k), .d (eShard s)] [] = some (.d (.tup [eArena zArena, .int .i64 (mineE a n k)]), []) := by
  have hm := mine_ok a n k hL
  rw [callL_code g_arena_StoreSlot (by simp)]; simp -implicitDefEqProofs (maxSteps := 4000000) (disch := omega) only [c_arena_StoreSlot, r_arena_StoreSlot, getDT, go_sem, *]; (try simp only [pA, pB, pC, pD, pE, pF, pG, pH, pI, pJ, pK, pL, pM, pN, pO, pP, if_true, if_false]); repeat' (first | done | rfl | (refine iteC (fun hq => ?_) (fun hq => ?_) <;> (try (first | (exfalso; omega) | contradiction)) <;> (try simp -implicitDefEqProofs (maxSteps := 4000000) (disch := omega) only [getDT, go_sem, *]) <;> (try simp only [pA, pB, pC, pD, pE, pF, pG, pH, pI, pJ, pK, pL, pM, pN, pO, pP, if_true, if_false]))); (all_goals try rfl); (all_goals try (repeat' (first | done | rfl | (exfalso; omega) | contradiction | (refine iteR (fun hq => ?_) (fun hq => ?_)))))
def okStripe (s : Stripe) : Bool := inB s.seq 0 1099511627776 && (inB s.epoch 0 1099511627776 && (inB s.ready 0 1099511627776 && inB s.leased 0 1099511627776))
def setStripe (a : Arena) (n : Int) (s : Stripe) : Arena := { a with stripes := a.stripes.set n.toNat s }
def storeStripe (a : Arena) (n k : Int) (s : Stripe) : Arena × Int := if mineE a n k = 0 then (if okStripe s = true ∧ n < a.stripes.length then (setStripe a n s, 0) else (zArena, 1)) else (zArena, mineE a n k)
theorem storeStripe_ok (a : Arena) (n k : Int) (s : Stripe) (hL : a.slots.length ≤ 4294967296) (hS : a.stripes.length ≤ 4294967296) : callL G N_arena_StoreStripe [.d (eArena a), .d (.int .i64 n), .d (.int .i64 k), .d (eStripe s)] [] = some (.d (.tup [eArena (storeStripe a n k s).1, .int .i64 (storeStripe a n k s).2]), []) := by
  have hm := mine_ok a n k hL
  unfold storeStripe
  by_cases c : mineE a n k = 0
  · rw [c] at hm
    rw [if_pos c]
    have h0 : 0 ≤ n := by
      unfold mineE at c
      split at c
      · cases c
      · rename_i q
        cases d : slotB a n
        · exact absurd (.inl d) q
        · unfold slotB at d; simp only [Bool.and_eq_true, decide_eq_true_eq] at d; omega
    clear c
    unfold okStripe
    cases c1 : inB s.seq 0 1099511627776
    · rw [if_neg (by simp)]
      rw [callL_code g_arena_StoreStripe (by simp)]; simp -implicitDefEqProofs (maxSteps := 4000000) (disch := omega) only [c_arena_StoreStripe, r_arena_StoreStripe, ain_ok, loopL_eq, l_arena_StoreStripe_0, getDT, go_sem, *]; (try simp only [pA, pB, pC, pD, pE, pF, pG, pH, pI, pJ, pK, pL, pM, pN, pO, pP, if_true, if_false]); repeat' (first | done | rfl | (refine iteC (fun hq => ?_) (fun hq => ?_) <;> (try (first | (exfalso; omega) | contradiction)) <;> (try simp -implicitDefEqProofs (maxSteps := 4000000) (disch := omega) only [ain_ok, loopL_eq, l_arena_StoreStripe_0, getDT, go_sem, *]) <;> (try simp only [pA, pB, pC, pD, pE, pF, pG, pH, pI, pJ, pK, pL, pM, pN, pO, pP, if_true, if_false]))); (all_goals try rfl); (all_goals try (repeat' (first | done | rfl | (exfalso; omega) | contradiction | (refine iteR (fun hq => ?_) (fun hq => ?_)))))
    cases c2 : inB s.epoch 0 1099511627776
    · rw [if_neg (by simp)]
      rw [callL_code g_arena_StoreStripe (by simp)]; simp -implicitDefEqProofs (maxSteps := 4000000) (disch := omega) only [c_arena_StoreStripe, r_arena_StoreStripe, ain_ok, loopL_eq, l_arena_StoreStripe_0, getDT, go_sem, *]; (try simp only [pA, pB, pC, pD, pE, pF, pG, pH, pI, pJ, pK, pL, pM, pN, pO, pP, if_true, if_false]); repeat' (first | done | rfl | (refine iteC (fun hq => ?_) (fun hq => ?_) <;> (try (first | (exfalso; omega) | contradiction)) <;> (try simp -implicitDefEqProofs (maxSteps := 4000000) (disch := omega) only [ain_ok, loopL_eq, l_arena_StoreStripe_0, getDT, go_sem, *]) <;> (try simp only [pA, pB, pC, pD, pE, pF, pG, pH, pI, pJ, pK, pL, pM, pN, pO, pP, if_true, if_false]))); (all_goals try rfl); (all_goals try (repeat' (first | done | rfl | (exfalso; omega) | contradiction | (refine iteR (fun hq => ?_) (fun hq => ?_)))))
    cases c3 : inB s.ready 0 1099511627776
    · rw [if_neg (by simp)]
      rw [callL_code g_arena_StoreStripe (by simp)]; simp -implicitDefEqProofs (maxSteps := 4000000) (disch := omega) only [c_arena_StoreStripe, r_arena_StoreStripe, ain_ok, loopL_eq, l_arena_StoreStripe_0, getDT, go_sem, *]; (try simp only [pA, pB, pC, pD, pE, pF, pG, pH, pI, pJ, pK, pL, pM, pN, pO, pP, if_true, if_false]); repeat' (first | done | rfl | (refine iteC (fun hq => ?_) (fun hq => ?_) <;> (try (first | (exfalso; omega) | contradiction)) <;> (try simp -implicitDefEqProofs (maxSteps := 4000000) (disch := omega) only [ain_ok, loopL_eq, l_arena_StoreStripe_0, getDT, go_sem, *]) <;> (try simp only [pA, pB, pC, pD, pE, pF, pG, pH, pI, pJ, pK, pL, pM, pN, pO, pP, if_true, if_false]))); (all_goals try rfl); (all_goals try (repeat' (first | done | rfl | (exfalso; omega) | contradiction | (refine iteR (fun hq => ?_) (fun hq => ?_)))))
    cases c4 : inB s.leased 0 1099511627776
    · rw [if_neg (by simp)]
      rw [callL_code g_arena_StoreStripe (by simp)]; simp -implicitDefEqProofs (maxSteps := 4000000) (disch := omega) only [c_arena_StoreStripe, r_arena_StoreStripe, ain_ok, loopL_eq, l_arena_StoreStripe_0, getDT, go_sem, *]; (try simp only [pA, pB, pC, pD, pE, pF, pG, pH, pI, pJ, pK, pL, pM, pN, pO, pP, if_true, if_false]); repeat' (first | done | rfl | (refine iteC (fun hq => ?_) (fun hq => ?_) <;> (try (first | (exfalso; omega) | contradiction)) <;> (try simp -implicitDefEqProofs (maxSteps := 4000000) (disch := omega) only [ain_ok, loopL_eq, l_arena_StoreStripe_0, getDT, go_sem, *]) <;> (try simp only [pA, pB, pC, pD, pE, pF, pG, pH, pI, pJ, pK, pL, pM, pN, pO, pP, if_true, if_false]))); (all_goals try rfl); (all_goals try (repeat' (first | done | rfl | (exfalso; omega) | contradiction | (refine iteR (fun hq => ?_) (fun hq => ?_)))))
    by_cases c5 : n < a.stripes.length
    · rw [if_pos (by simp; exact c5)]
      have hne : ¬ a.stripes.length = 0 := by omega
      have hc := clone_api_Stripe (a.stripes.map eStripe) (allSize_Stripe _) (by simp only [List.length_map]; omega)
      unfold setStripe
      rw [callL_code g_arena_StoreStripe (by simp)]; simp -implicitDefEqProofs (maxSteps := 4000000) (disch := omega) only [c_arena_StoreStripe, r_arena_StoreStripe, ain_ok, loopL_eq, l_arena_StoreStripe_0, getDT, go_sem, *]; (try simp only [pA, pB, pC, pD, pE, pF, pG, pH, pI, pJ, pK, pL, pM, pN, pO, pP, if_true, if_false]); repeat' (first | done | rfl | (refine iteC (fun hq => ?_) (fun hq => ?_) <;> (try (first | (exfalso; omega) | contradiction)) <;> (try simp -implicitDefEqProofs (maxSteps := 4000000) (disch := omega) only [ain_ok, loopL_eq, l_arena_StoreStripe_0, getDT, go_sem, *]) <;> (try simp only [pA, pB, pC, pD, pE, pF, pG, pH, pI, pJ, pK, pL, pM, pN, pO, pP, if_true, if_false]))); (all_goals try rfl); (all_goals try (repeat' (first | done | rfl | (exfalso; omega) | contradiction | (refine iteR (fun hq => ?_) (fun hq => ?_)))))
      simp only [eArena, mapSet]
    · rw [if_neg (fun h => c5 h.2)]
      rw [callL_code g_arena_StoreStripe (by simp)]; simp -implicitDefEqProofs (maxSteps := 4000000) (disch := omega) only [c_arena_StoreStripe, r_arena_StoreStripe, ain_ok, loopL_eq, l_arena_StoreStripe_0, getDT, go_sem, *]; (try simp only [pA, pB, pC, pD, pE, pF, pG, pH, pI, pJ, pK, pL, pM, pN, pO, pP, if_true, if_false]); repeat' (first | done | rfl | (refine iteC (fun hq => ?_) (fun hq => ?_) <;> (try (first | (exfalso; omega) | contradiction)) <;> (try simp -implicitDefEqProofs (maxSteps := 4000000) (disch := omega) only [ain_ok, loopL_eq, l_arena_StoreStripe_0, getDT, go_sem, *]) <;> (try simp only [pA, pB, pC, pD, pE, pF, pG, pH, pI, pJ, pK, pL, pM, pN, pO, pP, if_true, if_false]))); (all_goals try rfl); (all_goals try (repeat' (first | done | rfl | (exfalso; omega) | contradiction | (refine iteR (fun hq => ?_) (fun hq => ?_)))))
  · rw [if_neg c]
    rw [callL_code g_arena_StoreStripe (by simp)]; simp -implicitDefEqProofs (maxSteps := 4000000) (disch := omega) only [c_arena_StoreStripe, r_arena_StoreStripe, getDT, go_sem, *]; (try simp only [pA, pB, pC, pD, pE, pF, pG, pH, pI, pJ, pK, pL, pM, pN, pO, pP, if_true, if_false]); repeat' (first | done | rfl | (refine iteC (fun hq => ?_) (fun hq => ?_) <;> (try (first | (exfalso; omega) | contradiction)) <;> (try simp -implicitDefEqProofs (maxSteps := 4000000) (disch := omega) only [getDT, go_sem, *]) <;> (try simp only [pA, pB, pC, pD, pE, pF, pG, pH, pI, pJ, pK, pL, pM, pN, pO, pP, if_true, if_false]))); (all_goals try rfl); (all_goals try (repeat' (first | done | rfl | (exfalso; omega) | contradiction | (refine iteR (fun hq => ?_) (fun hq => ?_)))))
end Go.Proofs.Ytkdjbfjohbiemaa

namespace Go.Proofs.Ytkdjbfjohbiemaa
open Go Go.Sim
set_option linter.unusedSimpArgs false
set_option linter.unusedVariables false
set_option maxHeartbeats 10000000
set_option maxRecDepth 40000
theorem clone_int (es : List D) (hs : allSize 1 es = true) (hL : es.length ≤ 4294967296) : callL G N_slices_Clone_int [.d (.sl es)] [] = some (.acc 0 es, [(0, .acc es.length)]) := by
  cases es with
  | nil =>
    refine callL_nils0 g_slices_Clone_int (by decide) ?_ ?_
    · simp -implicitDefEqProofs only [c_slices_Clone_int, r_slices_Clone_int, go_sem]
    · simp -implicitDefEqProofs only [c_slices_Clone_int, r_slices_Clone_int, Nat.zero_le, go_sem]
  | cons e es =>
    rw [callL_nils g_slices_Clone_int (by simp) (by decide)]
    simp only [allSize_cons] at hs
    simp only [List.length_cons] at hL
    simp -implicitDefEqProofs (disch := omega) only [c_slices_Clone_int, r_slices_Clone_int, go_sem, *]
def lockAt (cells : List Int) (k : Nat) : Bool := decide (0 ≤ cells.getD k 0 ∧ cells.getD k 0 ≤ 6 ∧ (k = 0 ∨ cells.getD (k - 1) 0 < cells.getD k 0))
def lockNew (cells : List Int) : Locker × Int :=
  if cells.length = 0 ∨ 3 < cells.length then (zLocker, 2) else if (List.range cells.length).all (lockAt cells) = true then (⟨cells, 0, 0, 0, 0⟩, 0) else (zLocker, 1)
def zL : Nat × Go.Sim.Obj := (2, .row [.agg [.xsl [], .d (.int .i64 0), .d (.int .i64 0), .d (.int .i64 0), .d (.int .i64 0)]])
theorem prev {k : Nat} (h : 0 < k) : ((k : Int) - 1).toNat = k - 1 := by omega
theorem lnew_loop (cells : List Int) (hL : cells.length ≤ 3) : loopL G [] l_locker_New_0 ⟨[(0, .d (.sl (ints cells))), (2, .ref 2 0 0), (15, .d (.sl (ints cells))), (16, .d (.int .i64 cells.length)), (17, .d (.int .i64 0))], [zL]⟩ = some (if (List.range cells.length).all (lockAt cells) = true then (.exit 0, ⟨[(0, .d (.sl (ints cells))), (2, .ref 2 0 0)], [zL]⟩) else (.ret, ⟨[(2, .ref 2 0 0), (3, .d (.int .i64 1))], [zL]⟩)) := by
  refine loop_all (G := G) cells.length (lockAt cells) (fun k => ⟨[(0, .d (.sl (ints cells))), (2, .ref 2 0 0), (15, .d (.sl (ints cells))), (16, .d (.int .i64 cells.length)), (17, .d (.int .i64 k))], [zL]⟩) _ _ fun k hk L => ?_
  simp only [l_locker_New_0, zL, lockAt]
  by_cases h0 : k < cells.length
  · simp only [h0, if_true]
    (try simp -implicitDefEqProofs (disch := omega) only [prev, getDT, go_sem, *]); (try simp only [pA, pB, pC, pD, pE, pF, pG, pH, pI, pJ, pK, pL, pM, pN, pO, if_true, if_false]); repeat' (first | done | rfl | (refine iteC (fun hq => ?_) (fun hq => ?_) <;> (try (exfalso; omega)) <;> (try simp -implicitDefEqProofs (disch := omega) only [prev, getDT, go_sem, *]) <;> (try simp only [pA, pB, pC, pD, pE, pF, pG, pH, pI, pJ, pK, pL, pM, pN, pO, if_true, if_false]))); (all_goals try rfl); (all_goals try (repeat' (first | done | rfl | (exfalso; omega) | (refine iteR (fun hq => ?_) (fun hq => ?_)))))
  · simp -implicitDefEqProofs (disch := omega) only [go_sem, Nat.zero_add]
theorem lnew_ok (cells : List Int) (hL : cells.length ≤ 4294967296) : callL G N_locker_New [.d (.sl (ints cells))] [] = some (.d (.tup [eLocker (lockNew cells).1, .int .i64 (lockNew cells).2]), []) := by
  unfold lockNew
  by_cases c1 : cells.length = 0 ∨ 3 < cells.length
  · rw [if_pos c1]
    rw [callL_code g_locker_New (by simp)]; simp -implicitDefEqProofs (disch := omega) only [c_locker_New, r_locker_New, getDT, go_sem, *]; (try simp only [pA, pB, pC, pD, pE, pF, pG, pH, pI, pJ, pK, pL, pM, pN, pO, if_true, if_false]); repeat' (first | done | rfl | (refine iteC (fun hq => ?_) (fun hq => ?_) <;> (try (exfalso; omega)) <;> (try simp -implicitDefEqProofs (disch := omega) only [getDT, go_sem, *]) <;> (try simp only [pA, pB, pC, pD, pE, pF, pG, pH, pI, pJ, pK, pL, pM, pN, pO, if_true, if_false]))); (all_goals try rfl); (all_goals try (repeat' (first | done | rfl | (exfalso; omega) | (refine iteR (fun hq => ?_) (fun hq => ?_)))))
  · rw [if_neg c1]
    have hl := lnew_loop cells (by omega)
    have hc := clone_int (ints cells) (allSize_ints _) (by simp only [List.length_map]; omega)
    simp only [zL] at hl
    have h0 : ¬ ints cells = [] := by
      intro e
      have h : cells = [] := by simpa using e
      exact c1 (Or.inl (by rw [h]; rfl))
    by_cases c2 : (List.range cells.length).all (lockAt cells) = true
    · simp only [c2, if_true] at hl ⊢
      rw [callL_code g_locker_New (by simp)]; simp -implicitDefEqProofs (disch := omega) only [c_locker_New, r_locker_New, ints, getDT, go_sem, *]; (try simp only [pA, pB, pC, pD, pE, pF, pG, pH, pI, pJ, pK, pL, pM, pN, pO, if_true, if_false]); repeat' (first | done | rfl | (refine iteC (fun hq => ?_) (fun hq => ?_) <;> (try (exfalso; omega)) <;> (try simp -implicitDefEqProofs (disch := omega) only [ints, getDT, go_sem, *]) <;> (try simp only [pA, pB, pC, pD, pE, pF, pG, pH, pI, pJ, pK, pL, pM, pN, pO, if_true, if_false]))); (all_goals try rfl); (all_goals try (repeat' (first | done | rfl | (exfalso; omega) | (refine iteR (fun hq => ?_) (fun hq => ?_)))))
    · simp only [c2, if_false] at hl ⊢
      rw [callL_code g_locker_New (by simp)]; simp -implicitDefEqProofs (disch := omega) only [c_locker_New, r_locker_New, ints, getDT, go_sem, *]; (try simp only [pA, pB, pC, pD, pE, pF, pG, pH, pI, pJ, pK, pL, pM, pN, pO, if_true, if_false]); repeat' (first | done | rfl | (refine iteC (fun hq => ?_) (fun hq => ?_) <;> (try (exfalso; omega)) <;> (try simp -implicitDefEqProofs (disch := omega) only [ints, getDT, go_sem, *]) <;> (try simp only [pA, pB, pC, pD, pE, pF, pG, pH, pI, pJ, pK, pL, pM, pN, pO, if_true, if_false]))); (all_goals try rfl); (all_goals try (repeat' (first | done | rfl | (exfalso; omega) | (refine iteR (fun hq => ?_) (fun hq => ?_)))))
theorem l13new_loop (cells : List Int) (hL : cells.length ≤ 3) : loopL G [] l_ref13_New_0 ⟨[(0, .d (.sl (ints cells))), (2, .ref 2 0 0), (4, .d (.int .i64 0))], [zL]⟩ = some (if (List.range cells.length).all (lockAt cells) = true then (.exit 0, ⟨[(0, .d (.sl (ints cells))), (2, .ref 2 0 0)], [zL]⟩) else (.ret, ⟨[(2, .ref 2 0 0), (3, .d (.int .i64 1))], [zL]⟩)) := by
  refine loop_all (G := G) cells.length (lockAt cells) (fun k => ⟨[(0, .d (.sl (ints cells))), (2, .ref 2 0 0), (4, .d (.int .i64 k))], [zL]⟩) _ _ fun k hk L => ?_
  simp only [l_ref13_New_0, zL, lockAt]
  by_cases h0 : k < cells.length
  · simp only [h0, if_true]
    (try simp -implicitDefEqProofs (disch := omega) only [prev, getDT, go_sem, *]); (try simp only [pA, pB, pC, pD, pE, pF, pG, pH, pI, pJ, pK, pL, pM, pN, pO, if_true, if_false]); repeat' (first | done | rfl | (refine iteC (fun hq => ?_) (fun hq => ?_) <;> (try (exfalso; omega)) <;> (try simp -implicitDefEqProofs (disch := omega) only [prev, getDT, go_sem, *]) <;> (try simp only [pA, pB, pC, pD, pE, pF, pG, pH, pI, pJ, pK, pL, pM, pN, pO, if_true, if_false]))); (all_goals try rfl); (all_goals try (repeat' (first | done | rfl | (exfalso; omega) | (refine iteR (fun hq => ?_) (fun hq => ?_)))))
  · simp -implicitDefEqProofs (disch := omega) only [go_sem, Nat.zero_add]
theorem l13new_ok (cells : List Int) (hL : cells.length ≤ 4294967296) : callL G N_ref13_New [.d (.sl (ints cells))] [] = some (.d (.tup [eLocker (lockNew cells).1, .int .i64 (lockNew cells).2]), []) := by
  unfold lockNew
  by_cases c1 : cells.length = 0 ∨ 3 < cells.length
  · rw [if_pos c1]
    rw [callL_code g_ref13_New (by simp)]; simp -implicitDefEqProofs (disch := omega) only [c_ref13_New, r_ref13_New, getDT, go_sem, *]; (try simp only [pA, pB, pC, pD, pE, pF, pG, pH, pI, pJ, pK, pL, pM, pN, pO, if_true, if_false]); repeat' (first | done | rfl | (refine iteC (fun hq => ?_) (fun hq => ?_) <;> (try (exfalso; omega)) <;> (try simp -implicitDefEqProofs (disch := omega) only [getDT, go_sem, *]) <;> (try simp only [pA, pB, pC, pD, pE, pF, pG, pH, pI, pJ, pK, pL, pM, pN, pO, if_true, if_false]))); (all_goals try rfl); (all_goals try (repeat' (first | done | rfl | (exfalso; omega) | (refine iteR (fun hq => ?_) (fun hq => ?_)))))
  · rw [if_neg c1]
    have hl := l13new_loop cells (by omega)
    simp only [zL] at hl
    by_cases c2 : (List.range cells.length).all (lockAt cells) = true
    · simp only [c2, if_true] at hl ⊢
      rw [callL_code g_ref13_New (by simp)]; simp -implicitDefEqProofs (disch := omega) only [c_ref13_New, r_ref13_New, ints, getDT, go_sem, *]; (try simp only [pA, pB, pC, pD, pE, pF, pG, pH, pI, pJ, pK, pL, pM, pN, pO, if_true, if_false]); repeat' (first | done | rfl | (refine iteC (fun hq => ?_) (fun hq => ?_) <;> (try (exfalso; omega)) <;> (try simp -implicitDefEqProofs (disch := omega) only [ints, getDT, go_sem, *]) <;> (try simp only [pA, pB, pC, pD, pE, pF, pG, pH, pI, pJ, pK, pL, pM, pN, pO, if_true, if_false]))); (all_goals try rfl); (all_goals try (repeat' (first | done | rfl | (exfalso; omega) | (refine iteR (fun hq => ?_) (fun hq => ?_)))))
    · simp only [c2, if_false] at hl ⊢
      rw [callL_code g_ref13_New (by simp)]; simp -implicitDefEqProofs (disch := omega) only [c_ref13_New, r_ref13_New, ints, getDT, go_sem, *]; (try simp only [pA, pB, pC, pD, pE, pF, pG, pH, pI, pJ, pK, pL, pM, pN, pO, if_true, if_false]); repeat' (first | done | rfl | (refine iteC (fun hq => ?_) (fun hq => ?_) <;> (try (exfalso; omega)) <;> (try simp -implicitDefEqProofs (disch := omega) only [ints, getDT, go_sem, *]) <;> (try simp only [pA, pB, pC, pD, pE, pF, pG, pH, pI, pJ, pK, pL, pM, pN, pO, if_true, if_false]))); (all_goals try rfl); (all_goals try (repeat' (first | done | rfl | (exfalso; omega) | (refine iteR (fun hq => ?_) (fun hq => ?_)))))
theorem same_Locker (a b : Locker) (hL : a.cells.length ≤ 4294967296) : callL G N_ref13_Same [.d (eLocker a), .d (eLocker b)] [] = some (.d (.bool (decide (a = b))), []) := by
  have h1 := same_ref13_SameInts a.cells b.cells hL
  have e : decide (a = b) = (decide (a.cells = b.cells) && (decide (a.phase = b.phase) && (decide (a.have_ = b.have_) && (decide (a.tries = b.tries) && decide (a.wait = b.wait))))) := by
    cases a; cases b
    apply Bool.eq_iff_iff.2
    simp [and_assoc]
  rw [e]
  rw [callL_code g_ref13_Same (by simp)]; simp -implicitDefEqProofs (disch := omega) only [c_ref13_Same, r_ref13_Same, getDT, go_sem, *]; (try simp only [pA, pB, pC, pD, pE, pF, pG, pH, pI, pJ, pK, pL, pM, pN, pO, if_true, if_false])
def lockFree (l : Locker) : Locker × Int := if l.phase = 3 then ({ l with phase := 4 }, 0) else (zLocker, 7)
theorem lfree_ok (l : Locker) : callL G N_locker_Free [.d (eLocker l)] [] = some (.d (.tup [eLocker (lockFree l).1, .int .i64 (lockFree l).2]), []) := by
  unfold lockFree
  rw [callL_code g_locker_Free (by simp)]; simp -implicitDefEqProofs (disch := omega) only [c_locker_Free, r_locker_Free, getDT, go_sem, *]; (try simp only [pA, pB, pC, pD, pE, pF, pG, pH, pI, pJ, pK, pL, pM, pN, pO, if_true, if_false]); repeat' (first | done | rfl | (refine iteC (fun hq => ?_) (fun hq => ?_) <;> (try (exfalso; omega)) <;> (try simp -implicitDefEqProofs (disch := omega) only [getDT, go_sem, *]) <;> (try simp only [pA, pB, pC, pD, pE, pF, pG, pH, pI, pJ, pK, pL, pM, pN, pO, if_true, if_false]))); (all_goals try rfl); (all_goals try (repeat' (first | done | rfl | (exfalso; omega) | (refine iteR (fun hq => ?_) (fun hq => ?_)))))
theorem l13free_ok (l : Locker) : callL G N_ref13_Free [.d (eLocker l)] [] = some (.d (.tup [eLocker (lockFree l).1, .int .i64 (lockFree l).2]), []) := by
  unfold lockFree
  rw [callL_code g_ref13_Free (by simp)]; simp -implicitDefEqProofs (disch := omega) only [c_ref13_Free, r_ref13_Free, getDT, go_sem, *]; (try simp only [pA, pB, pC, pD, pE, pF, pG, pH, pI, pJ, pK, pL, pM, pN, pO, if_true, if_false]); repeat' (first | done | rfl | (refine iteC (fun hq => ?_) (fun hq => ?_) <;> (try (exfalso; omega)) <;> (try simp -implicitDefEqProofs (disch := omega) only [getDT, go_sem, *]) <;> (try simp only [pA, pB, pC, pD, pE, pF, pG, pH, pI, pJ, pK, pL, pM, pN, pO, if_true, if_false]))); (all_goals try rfl); (all_goals try (repeat' (first | done | rfl | (exfalso; omega) | (refine iteR (fun hq => ?_) (fun hq => ?_)))))
end Go.Proofs.Ytkdjbfjohbiemaa

namespace Go.Proofs.Ytkdjbfjohbiemaa
open Go Go.Sim
set_option linter.unusedSimpArgs false
set_option linter.unusedVariables false
set_option maxHeartbeats 10000000
set_option maxRecDepth 40000
structure LWF (B : Int) (l : Locker) : Prop where
  c1 : 1 ≤ l.cells.length
  c2 : l.cells.length ≤ 3
  h0 : 0 ≤ l.have_
  h1 : l.have_ ≤ l.cells.length
  t0 : l.phase = 0 → l.have_ < l.cells.length
  t1 : l.phase = 1 → 1 ≤ l.have_
  t2 : l.phase = 2 → l.have_ = 0 ∧ 1 ≤ l.wait ∧ l.wait ≤ 3
  t3 : l.phase = 3 → l.have_ = l.cells.length
  t4 : l.phase = 4 → 1 ≤ l.have_
  t5 : 0 ≤ l.phase ∧ l.phase ≤ 5
  t6 : l.phase = 5 → l.have_ = 0
  b0 : 0 ≤ l.tries
  b1 : l.tries ≤ B
def lockTry (a : Arena) (l : Locker) (k : Int) : Arena × Locker × Int :=
  if (aTry a (l.cells.getD l.have_.toNat 0) k).2.2 = 0 then
    (if (aTry a (l.cells.getD l.have_.toNat 0) k).2.1 = true then ((aTry a (l.cells.getD l.have_.toNat 0) k).1, { l with have_ := l.have_ + 1, phase := if l.have_ + 1 = l.cells.length then 3 else l.phase }, 0)
      else ((aTry a (l.cells.getD l.have_.toNat 0) k).1, { l with phase := if 0 < l.have_ then 1 else l.phase }, 0))
  else (zArena, zLocker, (aTry a (l.cells.getD l.have_.toNat 0) k).2.2)
def leaveL (l : Locker) : Locker :=
  if 0 < l.have_ - 1 then { l with have_ := l.have_ - 1 } else if l.phase = 4 then { l with have_ := l.have_ - 1, phase := 5 } else { l with have_ := l.have_ - 1, tries := l.tries + 1, wait := if 3 < l.tries + 1 then 3 else l.tries + 1, phase := 2 }
def lockLeave (a : Arena) (l : Locker) (k : Int) : Arena × Locker × Int :=
  if (aUnlock a (l.cells.getD (l.have_ - 1).toNat 0) k).2 = 0 then ((aUnlock a (l.cells.getD (l.have_ - 1).toNat 0) k).1, leaveL l, 0) else (zArena, zLocker, (aUnlock a (l.cells.getD (l.have_ - 1).toNat 0) k).2)
theorem ltry_ok (a : Arena) (l : Locker) (k : Int) (hL : a.slots.length ≤ 1000) (h0 : 0 ≤ l.have_) (h1 : l.have_ < l.cells.length) (h2 : l.cells.length ≤ 3) : callL G N_locker_try [.d (eArena a), .d (eLocker l), .d (.int .i64 k)] [] = some (.d (.tup [eArena (lockTry a l k).1, eLocker (lockTry a l k).2.1, .int .i64 (lockTry a l k).2.2]), []) := by
  have ht := atry_ok a (l.cells.getD l.have_.toNat 0) k hL
  unfold lockTry
  generalize aTry a (l.cells.getD l.have_.toNat 0) k = r at ht ⊢
  obtain ⟨r1, r2, r3⟩ := r
  obtain ⟨l1, l2, l3, l4, l5⟩ := l
  simp only at *
  rw [getDT (by omega)] at ht
  by_cases c1 : r3 = 0
  · rw [if_pos c1]
    subst c1
    cases r2
    · simp only [Bool.false_eq_true, if_false]
      rw [callL_code g_locker_try (by simp)]; simp -implicitDefEqProofs (disch := omega) only [c_locker_try, r_locker_try, getDT, go_sem, *]; (try simp only [pA, pB, pC, pD, pE, pF, pG, pH, pI, pJ, pK, pL, pM, pN, pO, if_true, if_false]); repeat' (first | done | rfl | (refine iteC (fun hq => ?_) (fun hq => ?_) <;> (try (exfalso; omega)) <;> (try simp -implicitDefEqProofs (disch := omega) only [getDT, go_sem, *]) <;> (try simp only [pA, pB, pC, pD, pE, pF, pG, pH, pI, pJ, pK, pL, pM, pN, pO, if_true, if_false]))); (all_goals try rfl); (all_goals try (repeat' (first | done | rfl | (exfalso; omega) | (refine iteR (fun hq => ?_) (fun hq => ?_)))))
    · simp only [if_true]
      rw [callL_code g_locker_try (by simp)]; simp -implicitDefEqProofs (disch := omega) only [c_locker_try, r_locker_try, getDT, go_sem, *]; (try simp only [pA, pB, pC, pD, pE, pF, pG, pH, pI, pJ, pK, pL, pM, pN, pO, if_true, if_false]); repeat' (first | done | rfl | (refine iteC (fun hq => ?_) (fun hq => ?_) <;> (try (exfalso; omega)) <;> (try simp -implicitDefEqProofs (disch := omega) only [getDT, go_sem, *]) <;> (try simp only [pA, pB, pC, pD, pE, pF, pG, pH, pI, pJ, pK, pL, pM, pN, pO, if_true, if_false]))); (all_goals try rfl); (all_goals try (repeat' (first | done | rfl | (exfalso; omega) | (refine iteR (fun hq => ?_) (fun hq => ?_)))))
  · rw [if_neg c1]
    rw [callL_code g_locker_try (by simp)]; simp -implicitDefEqProofs (disch := omega) only [c_locker_try, r_locker_try, getDT, go_sem, *]; (try simp only [pA, pB, pC, pD, pE, pF, pG, pH, pI, pJ, pK, pL, pM, pN, pO, if_true, if_false]); repeat' (first | done | rfl | (refine iteC (fun hq => ?_) (fun hq => ?_) <;> (try (exfalso; omega)) <;> (try simp -implicitDefEqProofs (disch := omega) only [getDT, go_sem, *]) <;> (try simp only [pA, pB, pC, pD, pE, pF, pG, pH, pI, pJ, pK, pL, pM, pN, pO, if_true, if_false]))); (all_goals try rfl); (all_goals try (repeat' (first | done | rfl | (exfalso; omega) | (refine iteR (fun hq => ?_) (fun hq => ?_)))))
theorem lleave_ok (a : Arena) (l : Locker) (k : Int) (hL : a.slots.length ≤ 1000) (h0 : 1 ≤ l.have_) (h1 : l.have_ ≤ l.cells.length) (h2 : l.cells.length ≤ 3) (h3 : 0 ≤ l.tries) (h4 : l.tries ≤ 1000000) : callL G N_locker_leave [.d (eArena a), .d (eLocker l), .d (.int .i64 k)] [] = some (.d (.tup [eArena (lockLeave a l k).1, eLocker (lockLeave a l k).2.1, .int .i64 (lockLeave a l k).2.2]), []) := by
  have ht := aunlock_ok a (l.cells.getD (l.have_ - 1).toNat 0) k hL
  unfold lockLeave leaveL
  generalize aUnlock a (l.cells.getD (l.have_ - 1).toNat 0) k = r at ht ⊢
  obtain ⟨r1, r3⟩ := r
  obtain ⟨l1, l2, l3, l4, l5⟩ := l
  simp only at *
  rw [getDT (by omega)] at ht
  by_cases c1 : r3 = 0
  · rw [if_pos c1]
    subst c1
    by_cases c2 : 3 < l4 + 1
    · simp only [c2, if_true]
      rw [callL_code g_locker_leave (by simp)]; simp -implicitDefEqProofs (disch := omega) only [c_locker_leave, r_locker_leave, getDT, go_sem, *]; (try simp only [pA, pB, pC, pD, pE, pF, pG, pH, pI, pJ, pK, pL, pM, pN, pO, if_true, if_false]); repeat' (first | done | rfl | (refine iteC (fun hq => ?_) (fun hq => ?_) <;> (try (exfalso; omega)) <;> (try simp -implicitDefEqProofs (disch := omega) only [getDT, go_sem, *]) <;> (try simp only [pA, pB, pC, pD, pE, pF, pG, pH, pI, pJ, pK, pL, pM, pN, pO, if_true, if_false]))); (all_goals try rfl); (all_goals try (repeat' (first | done | rfl | (exfalso; omega) | (refine iteR (fun hq => ?_) (fun hq => ?_)))))
    · simp only [c2, if_false]
      rw [callL_code g_locker_leave (by simp)]; simp -implicitDefEqProofs (disch := omega) only [c_locker_leave, r_locker_leave, getDT, go_sem, *]; (try simp only [pA, pB, pC, pD, pE, pF, pG, pH, pI, pJ, pK, pL, pM, pN, pO, if_true, if_false]); repeat' (first | done | rfl | (refine iteC (fun hq => ?_) (fun hq => ?_) <;> (try (exfalso; omega)) <;> (try simp -implicitDefEqProofs (disch := omega) only [getDT, go_sem, *]) <;> (try simp only [pA, pB, pC, pD, pE, pF, pG, pH, pI, pJ, pK, pL, pM, pN, pO, if_true, if_false]))); (all_goals try rfl); (all_goals try (repeat' (first | done | rfl | (exfalso; omega) | (refine iteR (fun hq => ?_) (fun hq => ?_)))))
  · rw [if_neg c1]
    rw [callL_code g_locker_leave (by simp)]; simp -implicitDefEqProofs (disch := omega) only [c_locker_leave, r_locker_leave, getDT, go_sem, *]; (try simp only [pA, pB, pC, pD, pE, pF, pG, pH, pI, pJ, pK, pL, pM, pN, pO, if_true, if_false]); repeat' (first | done | rfl | (refine iteC (fun hq => ?_) (fun hq => ?_) <;> (try (exfalso; omega)) <;> (try simp -implicitDefEqProofs (disch := omega) only [getDT, go_sem, *]) <;> (try simp only [pA, pB, pC, pD, pE, pF, pG, pH, pI, pJ, pK, pL, pM, pN, pO, if_true, if_false]))); (all_goals try rfl); (all_goals try (repeat' (first | done | rfl | (exfalso; omega) | (refine iteR (fun hq => ?_) (fun hq => ?_)))))
def lockStep (a : Arena) (l : Locker) (k : Int) : Arena × Locker × Int :=
  if l.phase = 0 then lockTry a l k else if l.phase = 1 ∨ l.phase = 4 then lockLeave a l k else if l.phase = 2 then (a, { l with wait := l.wait - 1, phase := if l.wait - 1 = 0 then 0 else 2 }, 0) else (zArena, zLocker, 7)
theorem lstep_ok (a : Arena) (l : Locker) (k : Int) (hL : a.slots.length ≤ 1000) (hw : LWF 1000000 l) : callL G N_locker_Step [.d (eArena a), .d (eLocker l), .d (.int .i64 k)] [] = some (.d (.tup [eArena (lockStep a l k).1, eLocker (lockStep a l k).2.1, .int .i64 (lockStep a l k).2.2]), []) := by
  obtain ⟨w1, w2, w3, w4, w5, w6, w7, w8, w9, w10, w11, w12, w13⟩ := hw
  unfold lockStep
  by_cases c0 : l.phase = 0
  · have ht := ltry_ok a l k hL w3 (w5 c0) w2
    rw [if_pos c0]
    rw [callL_code g_locker_Step (by simp)]; simp -implicitDefEqProofs (disch := omega) only [c_locker_Step, r_locker_Step, getDT, go_sem, *]; (try simp only [pA, pB, pC, pD, pE, pF, pG, pH, pI, pJ, pK, pL, pM, pN, pO, if_true, if_false]); repeat' (first | done | rfl | (refine iteC (fun hq => ?_) (fun hq => ?_) <;> (try (exfalso; omega)) <;> (try simp -implicitDefEqProofs (disch := omega) only [getDT, go_sem, *]) <;> (try simp only [pA, pB, pC, pD, pE, pF, pG, pH, pI, pJ, pK, pL, pM, pN, pO, if_true, if_false]))); (all_goals try rfl); (all_goals try (repeat' (first | done | rfl | (exfalso; omega) | (refine iteR (fun hq => ?_) (fun hq => ?_)))))
  rw [if_neg c0]
  by_cases c1 : l.phase = 1
  · have ht := lleave_ok a l k hL (w6 c1) w4 w2 w12 w13
    rw [if_pos (Or.inl c1)]
    rw [callL_code g_locker_Step (by simp)]; simp -implicitDefEqProofs (disch := omega) only [c_locker_Step, r_locker_Step, getDT, go_sem, *]; (try simp only [pA, pB, pC, pD, pE, pF, pG, pH, pI, pJ, pK, pL, pM, pN, pO, if_true, if_false]); repeat' (first | done | rfl | (refine iteC (fun hq => ?_) (fun hq => ?_) <;> (try (exfalso; omega)) <;> (try simp -implicitDefEqProofs (disch := omega) only [getDT, go_sem, *]) <;> (try simp only [pA, pB, pC, pD, pE, pF, pG, pH, pI, pJ, pK, pL, pM, pN, pO, if_true, if_false]))); (all_goals try rfl); (all_goals try (repeat' (first | done | rfl | (exfalso; omega) | (refine iteR (fun hq => ?_) (fun hq => ?_)))))
  by_cases c4 : l.phase = 4
  · have ht := lleave_ok a l k hL (w9 c4) w4 w2 w12 w13
    rw [if_pos (Or.inr c4)]
    rw [callL_code g_locker_Step (by simp)]; simp -implicitDefEqProofs (disch := omega) only [c_locker_Step, r_locker_Step, getDT, go_sem, *]; (try simp only [pA, pB, pC, pD, pE, pF, pG, pH, pI, pJ, pK, pL, pM, pN, pO, if_true, if_false]); repeat' (first | done | rfl | (refine iteC (fun hq => ?_) (fun hq => ?_) <;> (try (exfalso; omega)) <;> (try simp -implicitDefEqProofs (disch := omega) only [getDT, go_sem, *]) <;> (try simp only [pA, pB, pC, pD, pE, pF, pG, pH, pI, pJ, pK, pL, pM, pN, pO, if_true, if_false]))); (all_goals try rfl); (all_goals try (repeat' (first | done | rfl | (exfalso; omega) | (refine iteR (fun hq => ?_) (fun hq => ?_)))))
  rw [if_neg (by omega)]
  by_cases c2 : l.phase = 2
  · have := w7 c2
    rw [if_pos c2]
    rw [callL_code g_locker_Step (by simp)]; simp -implicitDefEqProofs (disch := omega) only [c_locker_Step, r_locker_Step, getDT, go_sem, *]; (try simp only [pA, pB, pC, pD, pE, pF, pG, pH, pI, pJ, pK, pL, pM, pN, pO, if_true, if_false]); repeat' (first | done | rfl | (refine iteC (fun hq => ?_) (fun hq => ?_) <;> (try (exfalso; omega)) <;> (try simp -implicitDefEqProofs (disch := omega) only [getDT, go_sem, *]) <;> (try simp only [pA, pB, pC, pD, pE, pF, pG, pH, pI, pJ, pK, pL, pM, pN, pO, if_true, if_false]))); (all_goals try rfl); (all_goals try (repeat' (first | done | rfl | (exfalso; omega) | (refine iteR (fun hq => ?_) (fun hq => ?_)))))
  · rw [if_neg c2]
    rw [callL_code g_locker_Step (by simp)]; simp -implicitDefEqProofs (disch := omega) only [c_locker_Step, r_locker_Step, getDT, go_sem, *]; (try simp only [pA, pB, pC, pD, pE, pF, pG, pH, pI, pJ, pK, pL, pM, pN, pO, if_true, if_false]); repeat' (first | done | rfl | (refine iteC (fun hq => ?_) (fun hq => ?_) <;> (try (exfalso; omega)) <;> (try simp -implicitDefEqProofs (disch := omega) only [getDT, go_sem, *]) <;> (try simp only [pA, pB, pC, pD, pE, pF, pG, pH, pI, pJ, pK, pL, pM, pN, pO, if_true, if_false]))); (all_goals try rfl); (all_goals try (repeat' (first | done | rfl | (exfalso; omega) | (refine iteR (fun hq => ?_) (fun hq => ?_)))))
theorem l13step_ok (a : Arena) (l : Locker) (k : Int) (hL : a.slots.length ≤ 1000) (hw : LWF 1000000 l) : callL G N_ref13_Step [.d (eArena a), .d (eLocker l), .d (.int .i64 k)] [] = some (.d (.tup [eArena (lockStep a l k).1, eLocker (lockStep a l k).2.1, .int .i64 (lockStep a l k).2.2]), []) := by
  obtain ⟨w1, w2, w3, w4, w5, w6, w7, w8, w9, w10, w11, w12, w13⟩ := hw
  unfold lockStep lockTry lockLeave leaveL
  by_cases c0 : l.phase = 0
  · have ht := try12_ok a (l.cells.getD l.have_.toNat 0) k hL
    have hh := w5 c0
    rw [if_pos c0]
    generalize aTry a (l.cells.getD l.have_.toNat 0) k = r at ht ⊢
    obtain ⟨r1, r2, r3⟩ := r
    obtain ⟨l1, l2, l3, l4, l5⟩ := l
    simp only at *
    rw [getDT (by omega)] at ht
    by_cases c1 : r3 = 0
    · rw [if_pos c1]
      subst c1
      cases r2
      · simp only [Bool.false_eq_true, if_false]
        rw [callL_code g_ref13_Step (by simp)]; simp -implicitDefEqProofs (disch := omega) only [c_ref13_Step, r_ref13_Step, getDT, go_sem, *]; (try simp only [pA, pB, pC, pD, pE, pF, pG, pH, pI, pJ, pK, pL, pM, pN, pO, if_true, if_false]); repeat' (first | done | rfl | (refine iteC (fun hq => ?_) (fun hq => ?_) <;> (try (exfalso; omega)) <;> (try simp -implicitDefEqProofs (disch := omega) only [getDT, go_sem, *]) <;> (try simp only [pA, pB, pC, pD, pE, pF, pG, pH, pI, pJ, pK, pL, pM, pN, pO, if_true, if_false]))); (all_goals try rfl); (all_goals try (repeat' (first | done | rfl | (exfalso; omega) | (refine iteR (fun hq => ?_) (fun hq => ?_)))))
      · simp only [if_true]
        rw [callL_code g_ref13_Step (by simp)]; simp -implicitDefEqProofs (disch := omega) only [c_ref13_Step, r_ref13_Step, getDT, go_sem, *]; (try simp only [pA, pB, pC, pD, pE, pF, pG, pH, pI, pJ, pK, pL, pM, pN, pO, if_true, if_false]); repeat' (first | done | rfl | (refine iteC (fun hq => ?_) (fun hq => ?_) <;> (try (exfalso; omega)) <;> (try simp -implicitDefEqProofs (disch := omega) only [getDT, go_sem, *]) <;> (try simp only [pA, pB, pC, pD, pE, pF, pG, pH, pI, pJ, pK, pL, pM, pN, pO, if_true, if_false]))); (all_goals try rfl); (all_goals try (repeat' (first | done | rfl | (exfalso; omega) | (refine iteR (fun hq => ?_) (fun hq => ?_)))))
    · rw [if_neg c1]
      rw [callL_code g_ref13_Step (by simp)]; simp -implicitDefEqProofs (disch := omega) only [c_ref13_Step, r_ref13_Step, getDT, go_sem, *]; (try simp only [pA, pB, pC, pD, pE, pF, pG, pH, pI, pJ, pK, pL, pM, pN, pO, if_true, if_false]); repeat' (first | done | rfl | (refine iteC (fun hq => ?_) (fun hq => ?_) <;> (try (exfalso; omega)) <;> (try simp -implicitDefEqProofs (disch := omega) only [getDT, go_sem, *]) <;> (try simp only [pA, pB, pC, pD, pE, pF, pG, pH, pI, pJ, pK, pL, pM, pN, pO, if_true, if_false]))); (all_goals try rfl); (all_goals try (repeat' (first | done | rfl | (exfalso; omega) | (refine iteR (fun hq => ?_) (fun hq => ?_)))))
  rw [if_neg c0]
  by_cases c14 : l.phase = 1 ∨ l.phase = 4
  · have ht := unlock12_ok a (l.cells.getD (l.have_ - 1).toNat 0) k hL
    have hh : 1 ≤ l.have_ := by rcases c14 with h | h; exact w6 h; exact w9 h
    rw [if_pos c14]
    generalize aUnlock a (l.cells.getD (l.have_ - 1).toNat 0) k = r at ht ⊢
    obtain ⟨r1, r3⟩ := r
    obtain ⟨l1, l2, l3, l4, l5⟩ := l
    simp only at *
    rw [getDT (by omega)] at ht
    by_cases c1 : r3 = 0
    · rw [if_pos c1]
      subst c1
      by_cases c2 : 3 < l4 + 1
      · simp only [c2, if_true]
        rcases c14 with c5 | c5
        · rw [callL_code g_ref13_Step (by simp)]; simp -implicitDefEqProofs (disch := omega) only [c_ref13_Step, r_ref13_Step, getDT, go_sem, *]; (try simp only [pA, pB, pC, pD, pE, pF, pG, pH, pI, pJ, pK, pL, pM, pN, pO, if_true, if_false]); repeat' (first | done | rfl | (refine iteC (fun hq => ?_) (fun hq => ?_) <;> (try (exfalso; omega)) <;> (try simp -implicitDefEqProofs (disch := omega) only [getDT, go_sem, *]) <;> (try simp only [pA, pB, pC, pD, pE, pF, pG, pH, pI, pJ, pK, pL, pM, pN, pO, if_true, if_false]))); (all_goals try rfl); (all_goals try (repeat' (first | done | rfl | (exfalso; omega) | (refine iteR (fun hq => ?_) (fun hq => ?_)))))
        · rw [callL_code g_ref13_Step (by simp)]; simp -implicitDefEqProofs (disch := omega) only [c_ref13_Step, r_ref13_Step, getDT, go_sem, *]; (try simp only [pA, pB, pC, pD, pE, pF, pG, pH, pI, pJ, pK, pL, pM, pN, pO, if_true, if_false]); repeat' (first | done | rfl | (refine iteC (fun hq => ?_) (fun hq => ?_) <;> (try (exfalso; omega)) <;> (try simp -implicitDefEqProofs (disch := omega) only [getDT, go_sem, *]) <;> (try simp only [pA, pB, pC, pD, pE, pF, pG, pH, pI, pJ, pK, pL, pM, pN, pO, if_true, if_false]))); (all_goals try rfl); (all_goals try (repeat' (first | done | rfl | (exfalso; omega) | (refine iteR (fun hq => ?_) (fun hq => ?_)))))
      · simp only [c2, if_false]
        rcases c14 with c5 | c5
        · rw [callL_code g_ref13_Step (by simp)]; simp -implicitDefEqProofs (disch := omega) only [c_ref13_Step, r_ref13_Step, getDT, go_sem, *]; (try simp only [pA, pB, pC, pD, pE, pF, pG, pH, pI, pJ, pK, pL, pM, pN, pO, if_true, if_false]); repeat' (first | done | rfl | (refine iteC (fun hq => ?_) (fun hq => ?_) <;> (try (exfalso; omega)) <;> (try simp -implicitDefEqProofs (disch := omega) only [getDT, go_sem, *]) <;> (try simp only [pA, pB, pC, pD, pE, pF, pG, pH, pI, pJ, pK, pL, pM, pN, pO, if_true, if_false]))); (all_goals try rfl); (all_goals try (repeat' (first | done | rfl | (exfalso; omega) | (refine iteR (fun hq => ?_) (fun hq => ?_)))))
        · rw [callL_code g_ref13_Step (by simp)]; simp -implicitDefEqProofs (disch := omega) only [c_ref13_Step, r_ref13_Step, getDT, go_sem, *]; (try simp only [pA, pB, pC, pD, pE, pF, pG, pH, pI, pJ, pK, pL, pM, pN, pO, if_true, if_false]); repeat' (first | done | rfl | (refine iteC (fun hq => ?_) (fun hq => ?_) <;> (try (exfalso; omega)) <;> (try simp -implicitDefEqProofs (disch := omega) only [getDT, go_sem, *]) <;> (try simp only [pA, pB, pC, pD, pE, pF, pG, pH, pI, pJ, pK, pL, pM, pN, pO, if_true, if_false]))); (all_goals try rfl); (all_goals try (repeat' (first | done | rfl | (exfalso; omega) | (refine iteR (fun hq => ?_) (fun hq => ?_)))))
    · rw [if_neg c1]
      rcases c14 with c5 | c5
      · rw [callL_code g_ref13_Step (by simp)]; simp -implicitDefEqProofs (disch := omega) only [c_ref13_Step, r_ref13_Step, getDT, go_sem, *]; (try simp only [pA, pB, pC, pD, pE, pF, pG, pH, pI, pJ, pK, pL, pM, pN, pO, if_true, if_false]); repeat' (first | done | rfl | (refine iteC (fun hq => ?_) (fun hq => ?_) <;> (try (exfalso; omega)) <;> (try simp -implicitDefEqProofs (disch := omega) only [getDT, go_sem, *]) <;> (try simp only [pA, pB, pC, pD, pE, pF, pG, pH, pI, pJ, pK, pL, pM, pN, pO, if_true, if_false]))); (all_goals try rfl); (all_goals try (repeat' (first | done | rfl | (exfalso; omega) | (refine iteR (fun hq => ?_) (fun hq => ?_)))))
      · rw [callL_code g_ref13_Step (by simp)]; simp -implicitDefEqProofs (disch := omega) only [c_ref13_Step, r_ref13_Step, getDT, go_sem, *]; (try simp only [pA, pB, pC, pD, pE, pF, pG, pH, pI, pJ, pK, pL, pM, pN, pO, if_true, if_false]); repeat' (first | done | rfl | (refine iteC (fun hq => ?_) (fun hq => ?_) <;> (try (exfalso; omega)) <;> (try simp -implicitDefEqProofs (disch := omega) only [getDT, go_sem, *]) <;> (try simp only [pA, pB, pC, pD, pE, pF, pG, pH, pI, pJ, pK, pL, pM, pN, pO, if_true, if_false]))); (all_goals try rfl); (all_goals try (repeat' (first | done | rfl | (exfalso; omega) | (refine iteR (fun hq => ?_) (fun hq => ?_)))))
  rw [if_neg c14]
  by_cases c2 : l.phase = 2
  · have := w7 c2
    rw [if_pos c2]
    rw [callL_code g_ref13_Step (by simp)]; simp -implicitDefEqProofs (disch := omega) only [c_ref13_Step, r_ref13_Step, getDT, go_sem, *]; (try simp only [pA, pB, pC, pD, pE, pF, pG, pH, pI, pJ, pK, pL, pM, pN, pO, if_true, if_false]); repeat' (first | done | rfl | (refine iteC (fun hq => ?_) (fun hq => ?_) <;> (try (exfalso; omega)) <;> (try simp -implicitDefEqProofs (disch := omega) only [getDT, go_sem, *]) <;> (try simp only [pA, pB, pC, pD, pE, pF, pG, pH, pI, pJ, pK, pL, pM, pN, pO, if_true, if_false]))); (all_goals try rfl); (all_goals try (repeat' (first | done | rfl | (exfalso; omega) | (refine iteR (fun hq => ?_) (fun hq => ?_)))))
  · have q : ¬ l.phase = 1 ∧ ¬ l.phase = 4 := by omega
    obtain ⟨q1, q2⟩ := q
    rw [if_neg c2]
    rw [callL_code g_ref13_Step (by simp)]; simp -implicitDefEqProofs (disch := omega) only [c_ref13_Step, r_ref13_Step, getDT, go_sem, *]; (try simp only [pA, pB, pC, pD, pE, pF, pG, pH, pI, pJ, pK, pL, pM, pN, pO, if_true, if_false]); repeat' (first | done | rfl | (refine iteC (fun hq => ?_) (fun hq => ?_) <;> (try (exfalso; omega)) <;> (try simp -implicitDefEqProofs (disch := omega) only [getDT, go_sem, *]) <;> (try simp only [pA, pB, pC, pD, pE, pF, pG, pH, pI, pJ, pK, pL, pM, pN, pO, if_true, if_false]))); (all_goals try rfl); (all_goals try (repeat' (first | done | rfl | (exfalso; omega) | (refine iteR (fun hq => ?_) (fun hq => ?_)))))
end Go.Proofs.Ytkdjbfjohbiemaa
