/-
  Stripes: Sum, Quiet.
  Stripes: Same; the law Raw.
-/
import Derived.Test.YtmbnbjkdamalpaaBb240bda
set_option linter.unusedSimpArgs false
set_option linter.unusedVariables false
namespace Go.Proofs.Ytmbnbjkdamalpaa
open Go Go.Sim
set_option linter.unusedSimpArgs false
set_option linter.unusedVariables false
set_option maxHeartbeats 10000000
set_option maxRecDepth 40000
def stepQ (ep : Int) (p : Int × Int) (s : Stripe) : Int × Int := if s.epoch = ep ∧ numQ s.seq ∧ numQ s.ready ∧ numQ s.leased then (IntKind.i64.wrap (p.1 + s.ready), IntKind.i64.wrap (p.2 + s.leased)) else p
def sumN (l : List Stripe) (ep : Int) (i : Nat) : Int × Int := (l.take i).foldl (stepQ ep) (0, 0)
theorem sumN_succ {l : List Stripe} (ep : Int) {i : Nat} (h : i < l.length) : sumN l ep (i + 1) = stepQ ep (sumN l ep i) l[i] := by
  unfold sumN; rw [List.take_add_one, List.getElem?_eq_getElem h, List.foldl_append]; rfl
def suS (l : List Stripe) (ep : Int) (i : Nat) : St := ⟨[(1, .d (.int .i64 ep)), (4, .d (.int .i64 (sumN l ep i).1)), (5, .d (.int .i64 (sumN l ep i).2)), (8, .d (.sl (l.map eStripe))), (9, .d (.int .i64 l.length)), (10, .d (.int .i64 i))], []⟩
theorem su_loop (l : List Stripe) (ep : Int) (h1 : l.length ≤ 4294967296) : ∀ i, i ≤ l.length → loopL G [] l_stripe_Sum_0 (suS l ep i) = some (.exit 0, ⟨[(4, .d (.int .i64 (sumN l ep l.length).1)), (5, .d (.int .i64 (sumN l ep l.length).2))], []⟩) := by
  refine loop_ind (fun i => l.length - i) (fun i => i ≤ l.length) (suS l ep) _ fun i hi L ih => ?_
  by_cases h0 : i < l.length
  · have i1 := ih (i + 1) (by omega) (by omega)
    clear ih
    have n1 := number_ok l[i].seq
    have n2 := number_ok l[i].ready
    have n3 := number_ok l[i].leased
    generalize sumN l ep l.length = z at *
    rw [suS, sumN_succ ep h0] at i1
    simp only [suS, l_stripe_Sum_0]
    generalize sumN l ep i = q at *
    obtain ⟨q1, q2⟩ := q
    unfold stepQ at i1
    by_cases c1 : l[i].epoch = ep
    · by_cases c2 : numQ l[i].seq
      · by_cases c3 : numQ l[i].ready
        · by_cases c4 : numQ l[i].leased
          · simp only [c1, c2, c3, c4, and_self, if_true, decide_true] at i1 n1 n2 n3
            simp only [Int.natCast_add, Int.natCast_one, Int.natCast_zero, Int.natCast_mul, Int.cast_ofNat_Int, List.length_append, List.length_map, List.map_nil, List.length_nil, List.map_append, List.map_cons, List.length_cons, Nat.zero_add, srcO, mapSet] at i1
            (try simp -implicitDefEqProofs (maxSteps := 4000000) (disch := omega) only [eStripe, c1, getDT, go_sem, *]); (try simp only [pA, pB, pC, pD, pE, pF, pG, pH, pI, pJ, pK, pL, pM, pN, pO, pP, if_true, if_false]); repeat' (first | done | rfl | ((first | refine iteC (fun hq => ?_) (fun hq => ?_) | refine iteP (fun hq => ?_) (fun hq => ?_)) <;> (try (first | (exfalso; omega) | contradiction)) <;> (try simp -implicitDefEqProofs (maxSteps := 4000000) (disch := omega) only [eStripe, c1, getDT, go_sem, *]) <;> (try simp only [pA, pB, pC, pD, pE, pF, pG, pH, pI, pJ, pK, pL, pM, pN, pO, pP, if_true, if_false]))); (all_goals try rfl); (all_goals try (repeat' (first | done | rfl | (exfalso; omega) | contradiction | (refine iteR (fun hq => ?_) (fun hq => ?_)))))
          · simp only [c1, c2, c3, c4, and_false, and_self, if_false, decide_true, decide_false] at i1 n1 n2 n3
            simp only [Int.natCast_add, Int.natCast_one, Int.natCast_zero, Int.natCast_mul, Int.cast_ofNat_Int, List.length_append, List.length_map, List.map_nil, List.length_nil, List.map_append, List.map_cons, List.length_cons, Nat.zero_add, srcO, mapSet] at i1
            (try simp -implicitDefEqProofs (maxSteps := 4000000) (disch := omega) only [eStripe, c1, getDT, go_sem, *]); (try simp only [pA, pB, pC, pD, pE, pF, pG, pH, pI, pJ, pK, pL, pM, pN, pO, pP, if_true, if_false]); repeat' (first | done | rfl | ((first | refine iteC (fun hq => ?_) (fun hq => ?_) | refine iteP (fun hq => ?_) (fun hq => ?_)) <;> (try (first | (exfalso; omega) | contradiction)) <;> (try simp -implicitDefEqProofs (maxSteps := 4000000) (disch := omega) only [eStripe, c1, getDT, go_sem, *]) <;> (try simp only [pA, pB, pC, pD, pE, pF, pG, pH, pI, pJ, pK, pL, pM, pN, pO, pP, if_true, if_false]))); (all_goals try rfl); (all_goals try (repeat' (first | done | rfl | (exfalso; omega) | contradiction | (refine iteR (fun hq => ?_) (fun hq => ?_)))))
        · simp only [c1, c2, c3, and_false, false_and, and_self, if_false, decide_true, decide_false] at i1 n1 n2
          simp only [Int.natCast_add, Int.natCast_one, Int.natCast_zero, Int.natCast_mul, Int.cast_ofNat_Int, List.length_append, List.length_map, List.map_nil, List.length_nil, List.map_append, List.map_cons, List.length_cons, Nat.zero_add, srcO, mapSet] at i1
          (try simp -implicitDefEqProofs (maxSteps := 4000000) (disch := omega) only [eStripe, c1, getDT, go_sem, *]); (try simp only [pA, pB, pC, pD, pE, pF, pG, pH, pI, pJ, pK, pL, pM, pN, pO, pP, if_true, if_false]); repeat' (first | done | rfl | ((first | refine iteC (fun hq => ?_) (fun hq => ?_) | refine iteP (fun hq => ?_) (fun hq => ?_)) <;> (try (first | (exfalso; omega) | contradiction)) <;> (try simp -implicitDefEqProofs (maxSteps := 4000000) (disch := omega) only [eStripe, c1, getDT, go_sem, *]) <;> (try simp only [pA, pB, pC, pD, pE, pF, pG, pH, pI, pJ, pK, pL, pM, pN, pO, pP, if_true, if_false]))); (all_goals try rfl); (all_goals try (repeat' (first | done | rfl | (exfalso; omega) | contradiction | (refine iteR (fun hq => ?_) (fun hq => ?_)))))
      · simp only [c1, c2, and_false, false_and, and_self, if_false, decide_true, decide_false] at i1 n1
        simp only [Int.natCast_add, Int.natCast_one, Int.natCast_zero, Int.natCast_mul, Int.cast_ofNat_Int, List.length_append, List.length_map, List.map_nil, List.length_nil, List.map_append, List.map_cons, List.length_cons, Nat.zero_add, srcO, mapSet] at i1
        (try simp -implicitDefEqProofs (maxSteps := 4000000) (disch := omega) only [eStripe, c1, getDT, go_sem, *]); (try simp only [pA, pB, pC, pD, pE, pF, pG, pH, pI, pJ, pK, pL, pM, pN, pO, pP, if_true, if_false]); repeat' (first | done | rfl | ((first | refine iteC (fun hq => ?_) (fun hq => ?_) | refine iteP (fun hq => ?_) (fun hq => ?_)) <;> (try (first | (exfalso; omega) | contradiction)) <;> (try simp -implicitDefEqProofs (maxSteps := 4000000) (disch := omega) only [eStripe, c1, getDT, go_sem, *]) <;> (try simp only [pA, pB, pC, pD, pE, pF, pG, pH, pI, pJ, pK, pL, pM, pN, pO, pP, if_true, if_false]))); (all_goals try rfl); (all_goals try (repeat' (first | done | rfl | (exfalso; omega) | contradiction | (refine iteR (fun hq => ?_) (fun hq => ?_)))))
    · simp only [c1, false_and, if_false] at i1
      simp only [Int.natCast_add, Int.natCast_one, Int.natCast_zero, Int.natCast_mul, Int.cast_ofNat_Int, List.length_append, List.length_map, List.map_nil, List.length_nil, List.map_append, List.map_cons, List.length_cons, Nat.zero_add, srcO, mapSet] at i1
      (try simp -implicitDefEqProofs (maxSteps := 4000000) (disch := omega) only [eStripe, getDT, go_sem, *]); (try simp only [pA, pB, pC, pD, pE, pF, pG, pH, pI, pJ, pK, pL, pM, pN, pO, pP, if_true, if_false]); repeat' (first | done | rfl | ((first | refine iteC (fun hq => ?_) (fun hq => ?_) | refine iteP (fun hq => ?_) (fun hq => ?_)) <;> (try (first | (exfalso; omega) | contradiction)) <;> (try simp -implicitDefEqProofs (maxSteps := 4000000) (disch := omega) only [eStripe, getDT, go_sem, *]) <;> (try simp only [pA, pB, pC, pD, pE, pF, pG, pH, pI, pJ, pK, pL, pM, pN, pO, pP, if_true, if_false]))); (all_goals try rfl); (all_goals try (repeat' (first | done | rfl | (exfalso; omega) | contradiction | (refine iteR (fun hq => ?_) (fun hq => ?_)))))
  · clear ih
    have : i = l.length := by omega
    subst this
    simp only [suS, l_stripe_Sum_0]
    (try simp -implicitDefEqProofs (maxSteps := 4000000) (disch := omega) only [getDT, go_sem, *]); (try simp only [pA, pB, pC, pD, pE, pF, pG, pH, pI, pJ, pK, pL, pM, pN, pO, pP, if_true, if_false]); repeat' (first | done | rfl | ((first | refine iteC (fun hq => ?_) (fun hq => ?_) | refine iteP (fun hq => ?_) (fun hq => ?_)) <;> (try (first | (exfalso; omega) | contradiction)) <;> (try simp -implicitDefEqProofs (maxSteps := 4000000) (disch := omega) only [getDT, go_sem, *]) <;> (try simp only [pA, pB, pC, pD, pE, pF, pG, pH, pI, pJ, pK, pL, pM, pN, pO, pP, if_true, if_false]))); (all_goals try rfl); (all_goals try (repeat' (first | done | rfl | (exfalso; omega) | contradiction | (refine iteR (fun hq => ?_) (fun hq => ?_)))))
theorem sum_ok (l : List Stripe) (ep : Int) (h1 : l.length ≤ 4294967296) : callL G N_stripe_Sum [.d (.sl (l.map eStripe)), .d (.int .i64 ep)] [] = some (.d (.tup [.int .i64 (sumN l ep l.length).1, .int .i64 (sumN l ep l.length).2]), []) := by
  have hl := su_loop l ep h1 0 (by omega)
  generalize sumN l ep l.length = z at *
  simp only [suS, sumN, List.take_zero, List.foldl_nil, Int.natCast_zero] at hl
  rw [callL_code g_stripe_Sum (by simp)]; simp -implicitDefEqProofs (maxSteps := 4000000) (disch := omega) only [c_stripe_Sum, r_stripe_Sum, getDT, go_sem, *]; (try simp only [pA, pB, pC, pD, pE, pF, pG, pH, pI, pJ, pK, pL, pM, pN, pO, pP, if_true, if_false]); repeat' (first | done | rfl | ((first | refine iteC (fun hq => ?_) (fun hq => ?_) | refine iteP (fun hq => ?_) (fun hq => ?_)) <;> (try (first | (exfalso; omega) | contradiction)) <;> (try simp -implicitDefEqProofs (maxSteps := 4000000) (disch := omega) only [getDT, go_sem, *]) <;> (try simp only [pA, pB, pC, pD, pE, pF, pG, pH, pI, pJ, pK, pL, pM, pN, pO, pP, if_true, if_false]))); (all_goals try rfl); (all_goals try (repeat' (first | done | rfl | (exfalso; omega) | contradiction | (refine iteR (fun hq => ?_) (fun hq => ?_)))))
def s11S (l : List Stripe) (ep : Int) (i : Nat) : St := ⟨[(0, .d (.sl (l.map eStripe))), (1, .d (.int .i64 ep)), (6, .d (.int .i64 (sumN l ep i).1)), (7, .d (.int .i64 (sumN l ep i).2)), (8, .d (.int .i64 i))], []⟩
theorem s11_loop (l : List Stripe) (ep : Int) (h1 : l.length ≤ 4294967296) : ∀ i, i ≤ l.length → loopL G [] l_ref11_Sum_0 (s11S l ep i) = some (.exit 0, ⟨[(6, .d (.int .i64 (sumN l ep l.length).1)), (7, .d (.int .i64 (sumN l ep l.length).2))], []⟩) := by
  refine loop_ind (fun i => l.length - i) (fun i => i ≤ l.length) (s11S l ep) _ fun i hi L ih => ?_
  by_cases h0 : i < l.length
  · have i1 := ih (i + 1) (by omega) (by omega)
    clear ih
    have n1 := counted_ok l[i].seq
    have n2 := counted_ok l[i].ready
    have n3 := counted_ok l[i].leased
    generalize sumN l ep l.length = z at *
    rw [s11S, sumN_succ ep h0] at i1
    simp only [s11S, l_ref11_Sum_0]
    generalize sumN l ep i = q at *
    obtain ⟨q1, q2⟩ := q
    unfold stepQ at i1
    by_cases c1 : l[i].epoch = ep
    · by_cases c2 : numQ l[i].seq
      · by_cases c3 : numQ l[i].ready
        · by_cases c4 : numQ l[i].leased
          · simp only [c1, c2, c3, c4, and_self, if_true, decide_true] at i1 n1 n2 n3
            simp only [Int.natCast_add, Int.natCast_one, Int.natCast_zero, Int.natCast_mul, Int.cast_ofNat_Int, List.length_append, List.length_map, List.map_nil, List.length_nil, List.map_append, List.map_cons, List.length_cons, Nat.zero_add, srcO, mapSet] at i1
            (try simp -implicitDefEqProofs (maxSteps := 4000000) (disch := omega) only [eStripe, c1, getDT, go_sem, *]); (try simp only [pA, pB, pC, pD, pE, pF, pG, pH, pI, pJ, pK, pL, pM, pN, pO, pP, if_true, if_false]); repeat' (first | done | rfl | ((first | refine iteC (fun hq => ?_) (fun hq => ?_) | refine iteP (fun hq => ?_) (fun hq => ?_)) <;> (try (first | (exfalso; omega) | contradiction)) <;> (try simp -implicitDefEqProofs (maxSteps := 4000000) (disch := omega) only [eStripe, c1, getDT, go_sem, *]) <;> (try simp only [pA, pB, pC, pD, pE, pF, pG, pH, pI, pJ, pK, pL, pM, pN, pO, pP, if_true, if_false]))); (all_goals try rfl); (all_goals try (repeat' (first | done | rfl | (exfalso; omega) | contradiction | (refine iteR (fun hq => ?_) (fun hq => ?_)))))
          · simp only [c1, c2, c3, c4, and_false, and_self, if_false, decide_true, decide_false] at i1 n1 n2 n3
            simp only [Int.natCast_add, Int.natCast_one, Int.natCast_zero, Int.natCast_mul, Int.cast_ofNat_Int, List.length_append, List.length_map, List.map_nil, List.length_nil, List.map_append, List.map_cons, List.length_cons, Nat.zero_add, srcO, mapSet] at i1
            (try simp -implicitDefEqProofs (maxSteps := 4000000) (disch := omega) only [eStripe, c1, getDT, go_sem, *]); (try simp only [pA, pB, pC, pD, pE, pF, pG, pH, pI, pJ, pK, pL, pM, pN, pO, pP, if_true, if_false]); repeat' (first | done | rfl | ((first | refine iteC (fun hq => ?_) (fun hq => ?_) | refine iteP (fun hq => ?_) (fun hq => ?_)) <;> (try (first | (exfalso; omega) | contradiction)) <;> (try simp -implicitDefEqProofs (maxSteps := 4000000) (disch := omega) only [eStripe, c1, getDT, go_sem, *]) <;> (try simp only [pA, pB, pC, pD, pE, pF, pG, pH, pI, pJ, pK, pL, pM, pN, pO, pP, if_true, if_false]))); (all_goals try rfl); (all_goals try (repeat' (first | done | rfl | (exfalso; omega) | contradiction | (refine iteR (fun hq => ?_) (fun hq => ?_)))))
        · simp only [c1, c2, c3, and_false, false_and, and_self, if_false, decide_true, decide_false] at i1 n1 n2
          simp only [Int.natCast_add, Int.natCast_one, Int.natCast_zero, Int.natCast_mul, Int.cast_ofNat_Int, List.length_append, List.length_map, List.map_nil, List.length_nil, List.map_append, List.map_cons, List.length_cons, Nat.zero_add, srcO, mapSet] at i1
          (try simp -implicitDefEqProofs (maxSteps := 4000000) (disch := omega) only [eStripe, c1, getDT, go_sem, *]); (try simp only [pA, pB, pC, pD, pE, pF, pG, pH, pI, pJ, pK, pL, pM, pN, pO, pP, if_true, if_false]); repeat' (first | done | rfl | ((first | refine iteC (fun hq => ?_) (fun hq => ?_) | refine iteP (fun hq => ?_) (fun hq => ?_)) <;> (try (first | (exfalso; omega) | contradiction)) <;> (try simp -implicitDefEqProofs (maxSteps := 4000000) (disch := omega) only [eStripe, c1, getDT, go_sem, *]) <;> (try simp only [pA, pB, pC, pD, pE, pF, pG, pH, pI, pJ, pK, pL, pM, pN, pO, pP, if_true, if_false]))); (all_goals try rfl); (all_goals try (repeat' (first | done | rfl | (exfalso; omega) | contradiction | (refine iteR (fun hq => ?_) (fun hq => ?_)))))
      · simp only [c1, c2, and_false, false_and, and_self, if_false, decide_true, decide_false] at i1 n1
        simp only [Int.natCast_add, Int.natCast_one, Int.natCast_zero, Int.natCast_mul, Int.cast_ofNat_Int, List.length_append, List.length_map, List.map_nil, List.length_nil, List.map_append, List.map_cons, List.length_cons, Nat.zero_add, srcO, mapSet] at i1
        (try simp -implicitDefEqProofs (maxSteps := 4000000) (disch := omega) only [eStripe, c1, getDT, go_sem, *]); (try simp only [pA, pB, pC, pD, pE, pF, pG, pH, pI, pJ, pK, pL, pM, pN, pO, pP, if_true, if_false]); repeat' (first | done | rfl | ((first | refine iteC (fun hq => ?_) (fun hq => ?_) | refine iteP (fun hq => ?_) (fun hq => ?_)) <;> (try (first | (exfalso; omega) | contradiction)) <;> (try simp -implicitDefEqProofs (maxSteps := 4000000) (disch := omega) only [eStripe, c1, getDT, go_sem, *]) <;> (try simp only [pA, pB, pC, pD, pE, pF, pG, pH, pI, pJ, pK, pL, pM, pN, pO, pP, if_true, if_false]))); (all_goals try rfl); (all_goals try (repeat' (first | done | rfl | (exfalso; omega) | contradiction | (refine iteR (fun hq => ?_) (fun hq => ?_)))))
    · simp only [c1, false_and, if_false] at i1
      simp only [Int.natCast_add, Int.natCast_one, Int.natCast_zero, Int.natCast_mul, Int.cast_ofNat_Int, List.length_append, List.length_map, List.map_nil, List.length_nil, List.map_append, List.map_cons, List.length_cons, Nat.zero_add, srcO, mapSet] at i1
      (try simp -implicitDefEqProofs (maxSteps := 4000000) (disch := omega) only [eStripe, getDT, go_sem, *]); (try simp only [pA, pB, pC, pD, pE, pF, pG, pH, pI, pJ, pK, pL, pM, pN, pO, pP, if_true, if_false]); repeat' (first | done | rfl | ((first | refine iteC (fun hq => ?_) (fun hq => ?_) | refine iteP (fun hq => ?_) (fun hq => ?_)) <;> (try (first | (exfalso; omega) | contradiction)) <;> (try simp -implicitDefEqProofs (maxSteps := 4000000) (disch := omega) only [eStripe, getDT, go_sem, *]) <;> (try simp only [pA, pB, pC, pD, pE, pF, pG, pH, pI, pJ, pK, pL, pM, pN, pO, pP, if_true, if_false]))); (all_goals try rfl); (all_goals try (repeat' (first | done | rfl | (exfalso; omega) | contradiction | (refine iteR (fun hq => ?_) (fun hq => ?_)))))
  · clear ih
    have : i = l.length := by omega
    subst this
    simp only [s11S, l_ref11_Sum_0]
    (try simp -implicitDefEqProofs (maxSteps := 4000000) (disch := omega) only [getDT, go_sem, *]); (try simp only [pA, pB, pC, pD, pE, pF, pG, pH, pI, pJ, pK, pL, pM, pN, pO, pP, if_true, if_false]); repeat' (first | done | rfl | ((first | refine iteC (fun hq => ?_) (fun hq => ?_) | refine iteP (fun hq => ?_) (fun hq => ?_)) <;> (try (first | (exfalso; omega) | contradiction)) <;> (try simp -implicitDefEqProofs (maxSteps := 4000000) (disch := omega) only [getDT, go_sem, *]) <;> (try simp only [pA, pB, pC, pD, pE, pF, pG, pH, pI, pJ, pK, pL, pM, pN, pO, pP, if_true, if_false]))); (all_goals try rfl); (all_goals try (repeat' (first | done | rfl | (exfalso; omega) | contradiction | (refine iteR (fun hq => ?_) (fun hq => ?_)))))
theorem sum11_ok (l : List Stripe) (ep : Int) (h1 : l.length ≤ 4294967296) : callL G N_ref11_Sum [.d (.sl (l.map eStripe)), .d (.int .i64 ep)] [] = some (.d (.tup [.int .i64 (sumN l ep l.length).1, .int .i64 (sumN l ep l.length).2]), []) := by
  have hl := s11_loop l ep h1 0 (by omega)
  generalize sumN l ep l.length = z at *
  simp only [s11S, sumN, List.take_zero, List.foldl_nil, Int.natCast_zero] at hl
  rw [callL_code g_ref11_Sum (by simp)]; simp -implicitDefEqProofs (maxSteps := 4000000) (disch := omega) only [c_ref11_Sum, r_ref11_Sum, getDT, go_sem, *]; (try simp only [pA, pB, pC, pD, pE, pF, pG, pH, pI, pJ, pK, pL, pM, pN, pO, pP, if_true, if_false]); repeat' (first | done | rfl | ((first | refine iteC (fun hq => ?_) (fun hq => ?_) | refine iteP (fun hq => ?_) (fun hq => ?_)) <;> (try (first | (exfalso; omega) | contradiction)) <;> (try simp -implicitDefEqProofs (maxSteps := 4000000) (disch := omega) only [getDT, go_sem, *]) <;> (try simp only [pA, pB, pC, pD, pE, pF, pG, pH, pI, pJ, pK, pL, pM, pN, pO, pP, if_true, if_false]))); (all_goals try rfl); (all_goals try (repeat' (first | done | rfl | (exfalso; omega) | contradiction | (refine iteR (fun hq => ?_) (fun hq => ?_)))))
def oddQ (s : Stripe) : Bool := decide (¬ s.seq.tmod 2 = 0)
theorem q1_ok (s : Stripe) : callL G N_stripe_Quiet_1 [.d (eStripe s)] [] = some (.d (.bool (oddQ s)), []) := by
  unfold oddQ
  simp only [eStripe]
  by_cases h : s.seq.tmod 2 = 0
  · simp only [h, not_true_eq_false, decide_false]
    rw [callL_code g_stripe_Quiet_1 (by simp)]; simp -implicitDefEqProofs (maxSteps := 4000000) (disch := omega) only [c_stripe_Quiet_1, r_stripe_Quiet_1, getDT, go_sem, *]; (try simp only [pA, pB, pC, pD, pE, pF, pG, pH, pI, pJ, pK, pL, pM, pN, pO, pP, if_true, if_false]); repeat' (first | done | rfl | ((first | refine iteC (fun hq => ?_) (fun hq => ?_) | refine iteP (fun hq => ?_) (fun hq => ?_)) <;> (try (first | (exfalso; omega) | contradiction)) <;> (try simp -implicitDefEqProofs (maxSteps := 4000000) (disch := omega) only [getDT, go_sem, *]) <;> (try simp only [pA, pB, pC, pD, pE, pF, pG, pH, pI, pJ, pK, pL, pM, pN, pO, pP, if_true, if_false]))); (all_goals try rfl); (all_goals try (repeat' (first | done | rfl | (exfalso; omega) | contradiction | (refine iteR (fun hq => ?_) (fun hq => ?_)))))
  · simp only [h, not_false_eq_true, decide_true]
    rw [callL_code g_stripe_Quiet_1 (by simp)]; simp -implicitDefEqProofs (maxSteps := 4000000) (disch := omega) only [c_stripe_Quiet_1, r_stripe_Quiet_1, getDT, go_sem, *]; (try simp only [pA, pB, pC, pD, pE, pF, pG, pH, pI, pJ, pK, pL, pM, pN, pO, pP, if_true, if_false]); repeat' (first | done | rfl | ((first | refine iteC (fun hq => ?_) (fun hq => ?_) | refine iteP (fun hq => ?_) (fun hq => ?_)) <;> (try (first | (exfalso; omega) | contradiction)) <;> (try simp -implicitDefEqProofs (maxSteps := 4000000) (disch := omega) only [getDT, go_sem, *]) <;> (try simp only [pA, pB, pC, pD, pE, pF, pG, pH, pI, pJ, pK, pL, pM, pN, pO, pP, if_true, if_false]))); (all_goals try rfl); (all_goals try (repeat' (first | done | rfl | (exfalso; omega) | contradiction | (refine iteR (fun hq => ?_) (fun hq => ?_)))))
theorem quiet_ok (l : List Stripe) (h1 : l.length ≤ 4294967296) : callL G N_stripe_Quiet [.d (.sl (l.map eStripe))] [] = some (.d (.bool (!l.any oddQ)), []) := by
  have h := contains_api_Stripe l N_stripe_Quiet_1 [] oddQ h1 (fun a _ => q1_ok a)
  rw [callL_code g_stripe_Quiet (by simp)]; simp -implicitDefEqProofs (maxSteps := 4000000) (disch := omega) only [c_stripe_Quiet, r_stripe_Quiet, getDT, go_sem, *]; (try simp only [pA, pB, pC, pD, pE, pF, pG, pH, pI, pJ, pK, pL, pM, pN, pO, pP, if_true, if_false]); repeat' (first | done | rfl | ((first | refine iteC (fun hq => ?_) (fun hq => ?_) | refine iteP (fun hq => ?_) (fun hq => ?_)) <;> (try (first | (exfalso; omega) | contradiction)) <;> (try simp -implicitDefEqProofs (maxSteps := 4000000) (disch := omega) only [getDT, go_sem, *]) <;> (try simp only [pA, pB, pC, pD, pE, pF, pG, pH, pI, pJ, pK, pL, pM, pN, pO, pP, if_true, if_false]))); (all_goals try rfl); (all_goals try (repeat' (first | done | rfl | (exfalso; omega) | contradiction | (refine iteR (fun hq => ?_) (fun hq => ?_)))))
theorem quiet11_ok (l : List Stripe) (h1 : l.length ≤ 4294967296) : callL G N_ref11_Quiet [.d (.sl (l.map eStripe))] [] = some (.d (.bool (!l.any oddQ)), []) := by
  have := loop_find (G := G) (x := l_ref11_Quiet_0) (ks := []) l.length (atB l oddQ) (fun k => ⟨[(0, .d (.sl (l.map eStripe))), (3, .d (.int .i64 k))], []⟩) (fun k => (.ret, ⟨[(2, .d (.bool false))], []⟩)) (.exit 0, ⟨[], []⟩) (fun k hk L => by
    simp only [l_ref11_Quiet_0]
    by_cases h0 : k < l.length
    · rw [if_pos h0]
      simp only [atB_at h0]
      unfold oddQ
      by_cases h1 : l[k].seq.tmod 2 = 0
      · simp only [h1, not_true_eq_false, decide_false, Bool.false_eq_true, if_false]
        (try simp -implicitDefEqProofs (maxSteps := 4000000) (disch := omega) only [eStripe, h1, getDT, go_sem, *]); (try simp only [pA, pB, pC, pD, pE, pF, pG, pH, pI, pJ, pK, pL, pM, pN, pO, pP, if_true, if_false]); repeat' (first | done | rfl | ((first | refine iteC (fun hq => ?_) (fun hq => ?_) | refine iteP (fun hq => ?_) (fun hq => ?_)) <;> (try (first | (exfalso; omega) | contradiction)) <;> (try simp -implicitDefEqProofs (maxSteps := 4000000) (disch := omega) only [eStripe, h1, getDT, go_sem, *]) <;> (try simp only [pA, pB, pC, pD, pE, pF, pG, pH, pI, pJ, pK, pL, pM, pN, pO, pP, if_true, if_false]))); (all_goals try rfl); (all_goals try (repeat' (first | done | rfl | (exfalso; omega) | contradiction | (refine iteR (fun hq => ?_) (fun hq => ?_)))))
      · simp only [h1, not_false_eq_true, decide_true, if_true]
        (try simp -implicitDefEqProofs (maxSteps := 4000000) (disch := omega) only [eStripe, getDT, go_sem, *]); (try simp only [pA, pB, pC, pD, pE, pF, pG, pH, pI, pJ, pK, pL, pM, pN, pO, pP, if_true, if_false]); repeat' (first | done | rfl | ((first | refine iteC (fun hq => ?_) (fun hq => ?_) | refine iteP (fun hq => ?_) (fun hq => ?_)) <;> (try (first | (exfalso; omega) | contradiction)) <;> (try simp -implicitDefEqProofs (maxSteps := 4000000) (disch := omega) only [eStripe, getDT, go_sem, *]) <;> (try simp only [pA, pB, pC, pD, pE, pF, pG, pH, pI, pJ, pK, pL, pM, pN, pO, pP, if_true, if_false]))); (all_goals try rfl); (all_goals try (repeat' (first | done | rfl | (exfalso; omega) | contradiction | (refine iteR (fun hq => ?_) (fun hq => ?_)))))
    · rw [if_neg h0]
      (try simp -implicitDefEqProofs (maxSteps := 4000000) (disch := omega) only [getDT, go_sem, *]); (try simp only [pA, pB, pC, pD, pE, pF, pG, pH, pI, pJ, pK, pL, pM, pN, pO, pP, if_true, if_false]); repeat' (first | done | rfl | ((first | refine iteC (fun hq => ?_) (fun hq => ?_) | refine iteP (fun hq => ?_) (fun hq => ?_)) <;> (try (first | (exfalso; omega) | contradiction)) <;> (try simp -implicitDefEqProofs (maxSteps := 4000000) (disch := omega) only [getDT, go_sem, *]) <;> (try simp only [pA, pB, pC, pD, pE, pF, pG, pH, pI, pJ, pK, pL, pM, pN, pO, pP, if_true, if_false]))); (all_goals try rfl); (all_goals try (repeat' (first | done | rfl | (exfalso; omega) | contradiction | (refine iteR (fun hq => ?_) (fun hq => ?_))))))
  rw [findR_idx] at this
  simp only [Int.natCast_add, Int.natCast_one, Int.natCast_zero, Int.natCast_mul, Int.cast_ofNat_Int, List.length_append, List.length_map, List.map_nil, List.length_nil, List.map_append, List.map_cons, List.length_cons, Nat.zero_add, srcO, mapSet] at this
  cases h : l.findIdx? oddQ with
  | none =>
    have e : l.any oddQ = false := List.any_eq_false.2 fun x hx => by simpa using List.findIdx?_eq_none_iff.1 h x hx
    rw [h] at this; rw [e]
    rw [callL_code g_ref11_Quiet (by simp)]; simp -implicitDefEqProofs (maxSteps := 4000000) (disch := omega) only [c_ref11_Quiet, r_ref11_Quiet, getDT, go_sem, *]; (try simp only [pA, pB, pC, pD, pE, pF, pG, pH, pI, pJ, pK, pL, pM, pN, pO, pP, if_true, if_false]); repeat' (first | done | rfl | ((first | refine iteC (fun hq => ?_) (fun hq => ?_) | refine iteP (fun hq => ?_) (fun hq => ?_)) <;> (try (first | (exfalso; omega) | contradiction)) <;> (try simp -implicitDefEqProofs (maxSteps := 4000000) (disch := omega) only [getDT, go_sem, *]) <;> (try simp only [pA, pB, pC, pD, pE, pF, pG, pH, pI, pJ, pK, pL, pM, pN, pO, pP, if_true, if_false]))); (all_goals try rfl); (all_goals try (repeat' (first | done | rfl | (exfalso; omega) | contradiction | (refine iteR (fun hq => ?_) (fun hq => ?_)))))
  | some i =>
    obtain ⟨hi, e, _⟩ := List.findIdx?_eq_some_iff_getElem.1 h
    have e : l.any oddQ = true := List.any_eq_true.2 ⟨_, List.getElem_mem hi, e⟩
    rw [h] at this; rw [e]
    rw [callL_code g_ref11_Quiet (by simp)]; simp -implicitDefEqProofs (maxSteps := 4000000) (disch := omega) only [c_ref11_Quiet, r_ref11_Quiet, getDT, go_sem, *]; (try simp only [pA, pB, pC, pD, pE, pF, pG, pH, pI, pJ, pK, pL, pM, pN, pO, pP, if_true, if_false]); repeat' (first | done | rfl | ((first | refine iteC (fun hq => ?_) (fun hq => ?_) | refine iteP (fun hq => ?_) (fun hq => ?_)) <;> (try (first | (exfalso; omega) | contradiction)) <;> (try simp -implicitDefEqProofs (maxSteps := 4000000) (disch := omega) only [getDT, go_sem, *]) <;> (try simp only [pA, pB, pC, pD, pE, pF, pG, pH, pI, pJ, pK, pL, pM, pN, pO, pP, if_true, if_false]))); (all_goals try rfl); (all_goals try (repeat' (first | done | rfl | (exfalso; omega) | contradiction | (refine iteR (fun hq => ?_) (fun hq => ?_)))))
end Go.Proofs.Ytmbnbjkdamalpaa

namespace Go.Proofs.Ytmbnbjkdamalpaa
open Go Go.Sim
set_option linter.unusedSimpArgs false
set_option linter.unusedVariables false
set_option maxHeartbeats 10000000
set_option maxRecDepth 40000
theorem st_of {a b : Stripe} (h : ¬(¬a.seq = b.seq ∨ ¬a.epoch = b.epoch ∨ ¬a.ready = b.ready ∨ ¬a.leased = b.leased)) : a = b := by
  simp only [not_or, Classical.not_not] at h
  obtain ⟨h1, h2, h3, h4⟩ := h
  cases a; cases b
  simp only at h1 h2 h3 h4
  subst h1 h2 h3 h4
  rfl
def eqS (a b : List Stripe) (i : Nat) : St := ⟨[(0, .d (.sl (a.map eStripe))), (1, .d (.sl (b.map eStripe))), (12, .d (.int .i64 a.length)), (13, .d (.int .i64 i))], []⟩
def sameF (a b : List Stripe) (i : Nat) : Bool := decide (a.drop i = b.drop i)
theorem sameF_step {a b : List Stripe} {i : Nat} (h0 : i < a.length) (h3 : i < b.length) : sameF a b i = (decide (a[i] = b[i]) && sameF a b (i + 1)) := by
  unfold sameF
  apply Bool.eq_iff_iff.2
  simp only [Bool.and_eq_true, decide_eq_true_eq]
  rw [List.drop_eq_getElem_cons h0, List.drop_eq_getElem_cons h3, List.cons.injEq]
theorem sameF_end {a b : List Stripe} {i : Nat} (h0 : a.length ≤ i) (h3 : b.length ≤ i) : sameF a b i = true := by
  unfold sameF
  rw [List.drop_eq_nil_of_le h0, List.drop_eq_nil_of_le h3]; rfl
def eqR (a b : List Stripe) (i : Nat) : AExit × St := if sameF a b i = true then (.exit 0, ⟨[], []⟩) else (.ret, ⟨[(4, .d (.bool false))], []⟩)
theorem eq_loop (a b : List Stripe) (h1 : a.length ≤ 4294967296) (h2 : b.length = a.length) : ∀ i, i ≤ a.length → loopL G [] l_slices_Equal_api_Stripe_0 (eqS a b i) = some (eqR a b i) := by
  refine loop_ind (fun i => a.length - i) (fun i => i ≤ a.length) (eqS a b) (fun i => some (eqR a b i)) fun i hi L ih => ?_
  by_cases h0 : i < a.length
  · have i1 := ih (i + 1) (by omega) (by omega)
    clear ih
    have h3 : i < b.length := by omega
    unfold eqR at i1 ⊢
    rw [sameF_step h0 h3]
    generalize sameF a b (i + 1) = bd at *
    simp only [eqS] at i1
    simp only [Int.natCast_add, Int.natCast_one, Int.natCast_zero, Int.natCast_mul, Int.cast_ofNat_Int, List.length_append, List.length_map, List.map_nil, List.length_nil, List.map_append, List.map_cons, List.length_cons, Nat.zero_add, srcO, mapSet] at i1
    simp only [eqS, l_slices_Equal_api_Stripe_0]
    by_cases hm : a[i] = b[i]
    · simp only [hm, decide_true, Bool.true_and]
      (try simp -implicitDefEqProofs (maxSteps := 4000000) (disch := omega) only [hm, eStripe, getDT, go_sem, *]); (try simp only [pA, pB, pC, pD, pE, pF, pG, pH, pI, pJ, pK, pL, pM, pN, pO, pP, if_true, if_false]); repeat' (first | done | rfl | ((first | refine iteC (fun hq => ?_) (fun hq => ?_) | refine iteP (fun hq => ?_) (fun hq => ?_)) <;> (try (first | (exfalso; omega) | contradiction)) <;> (try simp -implicitDefEqProofs (maxSteps := 4000000) (disch := omega) only [hm, eStripe, getDT, go_sem, *]) <;> (try simp only [pA, pB, pC, pD, pE, pF, pG, pH, pI, pJ, pK, pL, pM, pN, pO, pP, if_true, if_false]))); (all_goals try rfl); (all_goals try (repeat' (first | done | rfl | (exfalso; omega) | contradiction | (refine iteR (fun hq => ?_) (fun hq => ?_)))))
    · simp only [hm, decide_false, Bool.false_and, Bool.false_eq_true, if_false]
      (try simp -implicitDefEqProofs (maxSteps := 4000000) (disch := omega) only [eStripe, getDT, go_sem, *]); (try simp only [pA, pB, pC, pD, pE, pF, pG, pH, pI, pJ, pK, pL, pM, pN, pO, pP, if_true, if_false]); repeat' (first | done | rfl | ((first | refine iteC (fun hq => ?_) (fun hq => ?_) | refine iteP (fun hq => ?_) (fun hq => ?_)) <;> (try (first | (exfalso; omega) | contradiction)) <;> (try simp -implicitDefEqProofs (maxSteps := 4000000) (disch := omega) only [eStripe, getDT, go_sem, *]) <;> (try simp only [pA, pB, pC, pD, pE, pF, pG, pH, pI, pJ, pK, pL, pM, pN, pO, pP, if_true, if_false]))); (all_goals try rfl); (all_goals try (repeat' (first | done | rfl | (exfalso; omega) | contradiction | (refine iteR (fun hq => ?_) (fun hq => ?_)))))
      exact absurd (st_of (by assumption)) hm
  · clear ih
    unfold eqR
    rw [sameF_end (by omega) (by omega)]
    simp only [eqS, l_slices_Equal_api_Stripe_0, if_true]
    (try simp -implicitDefEqProofs (maxSteps := 4000000) (disch := omega) only [getDT, go_sem, *]); (try simp only [pA, pB, pC, pD, pE, pF, pG, pH, pI, pJ, pK, pL, pM, pN, pO, pP, if_true, if_false]); repeat' (first | done | rfl | ((first | refine iteC (fun hq => ?_) (fun hq => ?_) | refine iteP (fun hq => ?_) (fun hq => ?_)) <;> (try (first | (exfalso; omega) | contradiction)) <;> (try simp -implicitDefEqProofs (maxSteps := 4000000) (disch := omega) only [getDT, go_sem, *]) <;> (try simp only [pA, pB, pC, pD, pE, pF, pG, pH, pI, pJ, pK, pL, pM, pN, pO, pP, if_true, if_false]))); (all_goals try rfl); (all_goals try (repeat' (first | done | rfl | (exfalso; omega) | contradiction | (refine iteR (fun hq => ?_) (fun hq => ?_)))))
theorem equal_ok (a b : List Stripe) (h1 : a.length ≤ 4294967296) (h2 : b.length ≤ 4294967296) : callL G N_slices_Equal_api_Stripe [.d (.sl (a.map eStripe)), .d (.sl (b.map eStripe))] [] = some (.d (.bool (decide (a = b))), []) := by
  by_cases h : b.length = a.length
  · have hl := eq_loop a b h1 h 0 (by omega)
    unfold eqR at hl
    simp only [eqS, Int.natCast_zero] at hl
    simp only [sameF, List.drop_zero] at hl
    generalize decide (a = b) = q at *
    cases q
    · simp only [Bool.false_eq_true, if_false] at hl
      rw [callL_code g_slices_Equal_api_Stripe (by simp)]; simp -implicitDefEqProofs (maxSteps := 4000000) (disch := omega) only [c_slices_Equal_api_Stripe, r_slices_Equal_api_Stripe, getDT, go_sem, *]; (try simp only [pA, pB, pC, pD, pE, pF, pG, pH, pI, pJ, pK, pL, pM, pN, pO, pP, if_true, if_false]); repeat' (first | done | rfl | ((first | refine iteC (fun hq => ?_) (fun hq => ?_) | refine iteP (fun hq => ?_) (fun hq => ?_)) <;> (try (first | (exfalso; omega) | contradiction)) <;> (try simp -implicitDefEqProofs (maxSteps := 4000000) (disch := omega) only [getDT, go_sem, *]) <;> (try simp only [pA, pB, pC, pD, pE, pF, pG, pH, pI, pJ, pK, pL, pM, pN, pO, pP, if_true, if_false]))); (all_goals try rfl); (all_goals try (repeat' (first | done | rfl | (exfalso; omega) | contradiction | (refine iteR (fun hq => ?_) (fun hq => ?_)))))
    · simp only [if_true] at hl
      rw [callL_code g_slices_Equal_api_Stripe (by simp)]; simp -implicitDefEqProofs (maxSteps := 4000000) (disch := omega) only [c_slices_Equal_api_Stripe, r_slices_Equal_api_Stripe, getDT, go_sem, *]; (try simp only [pA, pB, pC, pD, pE, pF, pG, pH, pI, pJ, pK, pL, pM, pN, pO, pP, if_true, if_false]); repeat' (first | done | rfl | ((first | refine iteC (fun hq => ?_) (fun hq => ?_) | refine iteP (fun hq => ?_) (fun hq => ?_)) <;> (try (first | (exfalso; omega) | contradiction)) <;> (try simp -implicitDefEqProofs (maxSteps := 4000000) (disch := omega) only [getDT, go_sem, *]) <;> (try simp only [pA, pB, pC, pD, pE, pF, pG, pH, pI, pJ, pK, pL, pM, pN, pO, pP, if_true, if_false]))); (all_goals try rfl); (all_goals try (repeat' (first | done | rfl | (exfalso; omega) | contradiction | (refine iteR (fun hq => ?_) (fun hq => ?_)))))
  · rw [decide_eq_false (fun e => h (by rw [e]))]
    rw [callL_code g_slices_Equal_api_Stripe (by simp)]; simp -implicitDefEqProofs (maxSteps := 4000000) (disch := omega) only [c_slices_Equal_api_Stripe, r_slices_Equal_api_Stripe, getDT, go_sem, *]; (try simp only [pA, pB, pC, pD, pE, pF, pG, pH, pI, pJ, pK, pL, pM, pN, pO, pP, if_true, if_false]); repeat' (first | done | rfl | ((first | refine iteC (fun hq => ?_) (fun hq => ?_) | refine iteP (fun hq => ?_) (fun hq => ?_)) <;> (try (first | (exfalso; omega) | contradiction)) <;> (try simp -implicitDefEqProofs (maxSteps := 4000000) (disch := omega) only [getDT, go_sem, *]) <;> (try simp only [pA, pB, pC, pD, pE, pF, pG, pH, pI, pJ, pK, pL, pM, pN, pO, pP, if_true, if_false]))); (all_goals try rfl); (all_goals try (repeat' (first | done | rfl | (exfalso; omega) | contradiction | (refine iteR (fun hq => ?_) (fun hq => ?_)))))
theorem same_st_ok (a b : List Stripe) (h1 : a.length ≤ 4294967296) (h2 : b.length ≤ 4294967296) : callL G N_stripe_Same [.d (.sl (a.map eStripe)), .d (.sl (b.map eStripe))] [] = some (.d (.bool (decide (a = b))), []) := by
  have h := equal_ok a b h1 h2
  generalize decide (a = b) = q at *
  rw [callL_code g_stripe_Same (by simp)]; simp -implicitDefEqProofs (maxSteps := 4000000) (disch := omega) only [c_stripe_Same, r_stripe_Same, getDT, go_sem, *]; (try simp only [pA, pB, pC, pD, pE, pF, pG, pH, pI, pJ, pK, pL, pM, pN, pO, pP, if_true, if_false]); repeat' (first | done | rfl | ((first | refine iteC (fun hq => ?_) (fun hq => ?_) | refine iteP (fun hq => ?_) (fun hq => ?_)) <;> (try (first | (exfalso; omega) | contradiction)) <;> (try simp -implicitDefEqProofs (maxSteps := 4000000) (disch := omega) only [getDT, go_sem, *]) <;> (try simp only [pA, pB, pC, pD, pE, pF, pG, pH, pI, pJ, pK, pL, pM, pN, pO, pP, if_true, if_false]))); (all_goals try rfl); (all_goals try (repeat' (first | done | rfl | (exfalso; omega) | contradiction | (refine iteR (fun hq => ?_) (fun hq => ?_)))))
def sqS (a b : List Stripe) (i : Nat) : St := ⟨[(0, .d (.sl (a.map eStripe))), (1, .d (.sl (b.map eStripe))), (5, .d (.int .i64 i))], []⟩
theorem sq_loop (a b : List Stripe) (h1 : a.length ≤ 4294967296) (h2 : b.length = a.length) : ∀ i, i ≤ a.length → loopL G [] l_ref11_Same_0 (sqS a b i) = some (eqR a b i) := by
  refine loop_ind (fun i => a.length - i) (fun i => i ≤ a.length) (sqS a b) (fun i => some (eqR a b i)) fun i hi L ih => ?_
  by_cases h0 : i < a.length
  · have i1 := ih (i + 1) (by omega) (by omega)
    clear ih
    have h3 : i < b.length := by omega
    unfold eqR at i1 ⊢
    rw [sameF_step h0 h3]
    generalize sameF a b (i + 1) = bd at *
    simp only [sqS] at i1
    simp only [Int.natCast_add, Int.natCast_one, Int.natCast_zero, Int.natCast_mul, Int.cast_ofNat_Int, List.length_append, List.length_map, List.map_nil, List.length_nil, List.map_append, List.map_cons, List.length_cons, Nat.zero_add, srcO, mapSet] at i1
    simp only [sqS, l_ref11_Same_0]
    by_cases hm : a[i] = b[i]
    · simp only [hm, decide_true, Bool.true_and]
      (try simp -implicitDefEqProofs (maxSteps := 4000000) (disch := omega) only [hm, eStripe, getDT, go_sem, *]); (try simp only [pA, pB, pC, pD, pE, pF, pG, pH, pI, pJ, pK, pL, pM, pN, pO, pP, if_true, if_false]); repeat' (first | done | rfl | ((first | refine iteC (fun hq => ?_) (fun hq => ?_) | refine iteP (fun hq => ?_) (fun hq => ?_)) <;> (try (first | (exfalso; omega) | contradiction)) <;> (try simp -implicitDefEqProofs (maxSteps := 4000000) (disch := omega) only [hm, eStripe, getDT, go_sem, *]) <;> (try simp only [pA, pB, pC, pD, pE, pF, pG, pH, pI, pJ, pK, pL, pM, pN, pO, pP, if_true, if_false]))); (all_goals try rfl); (all_goals try (repeat' (first | done | rfl | (exfalso; omega) | contradiction | (refine iteR (fun hq => ?_) (fun hq => ?_)))))
    · simp only [hm, decide_false, Bool.false_and, Bool.false_eq_true, if_false]
      (try simp -implicitDefEqProofs (maxSteps := 4000000) (disch := omega) only [eStripe, getDT, go_sem, *]); (try simp only [pA, pB, pC, pD, pE, pF, pG, pH, pI, pJ, pK, pL, pM, pN, pO, pP, if_true, if_false]); repeat' (first | done | rfl | ((first | refine iteC (fun hq => ?_) (fun hq => ?_) | refine iteP (fun hq => ?_) (fun hq => ?_)) <;> (try (first | (exfalso; omega) | contradiction)) <;> (try simp -implicitDefEqProofs (maxSteps := 4000000) (disch := omega) only [eStripe, getDT, go_sem, *]) <;> (try simp only [pA, pB, pC, pD, pE, pF, pG, pH, pI, pJ, pK, pL, pM, pN, pO, pP, if_true, if_false]))); (all_goals try rfl); (all_goals try (repeat' (first | done | rfl | (exfalso; omega) | contradiction | (refine iteR (fun hq => ?_) (fun hq => ?_)))))
      exact absurd (st_of (by assumption)) hm
  · clear ih
    unfold eqR
    rw [sameF_end (by omega) (by omega)]
    simp only [sqS, l_ref11_Same_0, if_true]
    (try simp -implicitDefEqProofs (maxSteps := 4000000) (disch := omega) only [getDT, go_sem, *]); (try simp only [pA, pB, pC, pD, pE, pF, pG, pH, pI, pJ, pK, pL, pM, pN, pO, pP, if_true, if_false]); repeat' (first | done | rfl | ((first | refine iteC (fun hq => ?_) (fun hq => ?_) | refine iteP (fun hq => ?_) (fun hq => ?_)) <;> (try (first | (exfalso; omega) | contradiction)) <;> (try simp -implicitDefEqProofs (maxSteps := 4000000) (disch := omega) only [getDT, go_sem, *]) <;> (try simp only [pA, pB, pC, pD, pE, pF, pG, pH, pI, pJ, pK, pL, pM, pN, pO, pP, if_true, if_false]))); (all_goals try rfl); (all_goals try (repeat' (first | done | rfl | (exfalso; omega) | contradiction | (refine iteR (fun hq => ?_) (fun hq => ?_)))))
theorem same11_ok (a b : List Stripe) (h1 : a.length ≤ 4294967296) (h2 : b.length ≤ 4294967296) : callL G N_ref11_Same [.d (.sl (a.map eStripe)), .d (.sl (b.map eStripe))] [] = some (.d (.bool (decide (a = b))), []) := by
  by_cases h : b.length = a.length
  · have hl := sq_loop a b h1 h 0 (by omega)
    unfold eqR at hl
    simp only [sqS, Int.natCast_zero] at hl
    simp only [sameF, List.drop_zero] at hl
    generalize decide (a = b) = q at *
    cases q
    · simp only [Bool.false_eq_true, if_false] at hl
      rw [callL_code g_ref11_Same (by simp)]; simp -implicitDefEqProofs (maxSteps := 4000000) (disch := omega) only [c_ref11_Same, r_ref11_Same, getDT, go_sem, *]; (try simp only [pA, pB, pC, pD, pE, pF, pG, pH, pI, pJ, pK, pL, pM, pN, pO, pP, if_true, if_false]); repeat' (first | done | rfl | ((first | refine iteC (fun hq => ?_) (fun hq => ?_) | refine iteP (fun hq => ?_) (fun hq => ?_)) <;> (try (first | (exfalso; omega) | contradiction)) <;> (try simp -implicitDefEqProofs (maxSteps := 4000000) (disch := omega) only [getDT, go_sem, *]) <;> (try simp only [pA, pB, pC, pD, pE, pF, pG, pH, pI, pJ, pK, pL, pM, pN, pO, pP, if_true, if_false]))); (all_goals try rfl); (all_goals try (repeat' (first | done | rfl | (exfalso; omega) | contradiction | (refine iteR (fun hq => ?_) (fun hq => ?_)))))
    · simp only [if_true] at hl
      rw [callL_code g_ref11_Same (by simp)]; simp -implicitDefEqProofs (maxSteps := 4000000) (disch := omega) only [c_ref11_Same, r_ref11_Same, getDT, go_sem, *]; (try simp only [pA, pB, pC, pD, pE, pF, pG, pH, pI, pJ, pK, pL, pM, pN, pO, pP, if_true, if_false]); repeat' (first | done | rfl | ((first | refine iteC (fun hq => ?_) (fun hq => ?_) | refine iteP (fun hq => ?_) (fun hq => ?_)) <;> (try (first | (exfalso; omega) | contradiction)) <;> (try simp -implicitDefEqProofs (maxSteps := 4000000) (disch := omega) only [getDT, go_sem, *]) <;> (try simp only [pA, pB, pC, pD, pE, pF, pG, pH, pI, pJ, pK, pL, pM, pN, pO, pP, if_true, if_false]))); (all_goals try rfl); (all_goals try (repeat' (first | done | rfl | (exfalso; omega) | contradiction | (refine iteR (fun hq => ?_) (fun hq => ?_)))))
  · rw [decide_eq_false (fun e => h (by rw [e]))]
    rw [callL_code g_ref11_Same (by simp)]; simp -implicitDefEqProofs (maxSteps := 4000000) (disch := omega) only [c_ref11_Same, r_ref11_Same, getDT, go_sem, *]; (try simp only [pA, pB, pC, pD, pE, pF, pG, pH, pI, pJ, pK, pL, pM, pN, pO, pP, if_true, if_false]); repeat' (first | done | rfl | ((first | refine iteC (fun hq => ?_) (fun hq => ?_) | refine iteP (fun hq => ?_) (fun hq => ?_)) <;> (try (first | (exfalso; omega) | contradiction)) <;> (try simp -implicitDefEqProofs (maxSteps := 4000000) (disch := omega) only [getDT, go_sem, *]) <;> (try simp only [pA, pB, pC, pD, pE, pF, pG, pH, pI, pJ, pK, pL, pM, pN, pO, pP, if_true, if_false]))); (all_goals try rfl); (all_goals try (repeat' (first | done | rfl | (exfalso; omega) | contradiction | (refine iteR (fun hq => ?_) (fun hq => ?_)))))
theorem aw11a : sumN [⟨2, 1, 3, 4⟩, ⟨0, 0, 5, 6⟩] 1 2 = (3, 4) := by decide +kernel
theorem aw11b : beginD ⟨4, 0, 0, 0⟩ = (⟨5, 0, 0, 0⟩, 0) := by decide +kernel
theorem awake11_ok : callL G N_law11_awake [] [] = some (.d (.bool true), []) := by
  have h1 := sum_ok [⟨2, 1, 3, 4⟩, ⟨0, 0, 5, 6⟩] 1 (by simp)
  have h2 := begin_ok ⟨4, 0, 0, 0⟩
  simp only [List.length_cons, List.length_nil, Nat.zero_add, aw11a] at h1
  rw [aw11b] at h2
  simp only [eStripe, List.map_cons, List.map_nil] at h1 h2
  rw [callL_code g_law11_awake (by simp)]; simp -implicitDefEqProofs (maxSteps := 4000000) (disch := omega) only [c_law11_awake, r_law11_awake, getDT, go_sem, *]; (try simp only [pA, pB, pC, pD, pE, pF, pG, pH, pI, pJ, pK, pL, pM, pN, pO, pP, if_true, if_false]); repeat' (first | done | rfl | ((first | refine iteC (fun hq => ?_) (fun hq => ?_) | refine iteP (fun hq => ?_) (fun hq => ?_)) <;> (try (first | (exfalso; omega) | contradiction)) <;> (try simp -implicitDefEqProofs (maxSteps := 4000000) (disch := omega) only [getDT, go_sem, *]) <;> (try simp only [pA, pB, pC, pD, pE, pF, pG, pH, pI, pJ, pK, pL, pM, pN, pO, pP, if_true, if_false]))); (all_goals try rfl); (all_goals try (repeat' (first | done | rfl | (exfalso; omega) | contradiction | (refine iteR (fun hq => ?_) (fun hq => ?_)))))
theorem straw_ok (s : Stripe) (x : Shard) (ep lim : Int) (a b : List Stripe) (h1 : x.ready.cells.length ≤ 4294967296) (h2 : x.leases.l.length ≤ 4294967296) (h3 : x.leases.heap.length ≤ 4294967296) (h4 : a.length ≤ 4294967296) (h5 : b.length ≤ 4294967296) : callL G N_law11_StripeRaw [.d (eStripe s), .d (eShard x), .d (.int .i64 ep), .d (.int .i64 lim), .d (.sl (a.map eStripe)), .d (.sl (b.map eStripe))] [] = some (.d (.bool true), []) := by
  have b1 := begin_ok s
  have b2 := begin11_ok s
  have e1 := end_ok s x ep lim h1 h2 h3
  have e2 := end11_ok s x ep lim h1 h2 h3
  have s1 := sum_ok a ep h4
  have s2 := sum11_ok a ep h4
  have q1 := quiet_ok a h4
  have q2 := quiet11_ok a h4
  have m1 := same_st_ok a b h4 h5
  have m2 := same11_ok a b h4 h5
  have m3 := same_st_ok a a h4 h4
  have hw := awake11_ok
  rw [decide_eq_true rfl] at m3
  generalize beginD s = bd at *
  generalize endD s x ep lim = en at *
  generalize sumN a ep a.length = sm at *
  generalize (!a.any oddQ) = qq at *
  generalize decide (a = b) = mm at *
  obtain ⟨bd, be⟩ := bd
  obtain ⟨en, ee⟩ := en
  obtain ⟨sm1, sm2⟩ := sm
  simp only [eStripe, eShard] at b1 b2 e1 e2 ⊢
  rw [callL_code g_law11_StripeRaw (by simp)]; simp -implicitDefEqProofs (maxSteps := 4000000) (disch := omega) only [c_law11_StripeRaw, r_law11_StripeRaw, eStripe, getDT, go_sem, *]; (try simp only [pA, pB, pC, pD, pE, pF, pG, pH, pI, pJ, pK, pL, pM, pN, pO, pP, if_true, if_false]); repeat' (first | done | rfl | ((first | refine iteC (fun hq => ?_) (fun hq => ?_) | refine iteP (fun hq => ?_) (fun hq => ?_)) <;> (try (first | (exfalso; omega) | contradiction)) <;> (try simp -implicitDefEqProofs (maxSteps := 4000000) (disch := omega) only [eStripe, getDT, go_sem, *]) <;> (try simp only [pA, pB, pC, pD, pE, pF, pG, pH, pI, pJ, pK, pL, pM, pN, pO, pP, if_true, if_false]))); (all_goals try rfl); (all_goals try (repeat' (first | done | rfl | (exfalso; omega) | contradiction | (refine iteR (fun hq => ?_) (fun hq => ?_)))))
end Go.Proofs.Ytmbnbjkdamalpaa
