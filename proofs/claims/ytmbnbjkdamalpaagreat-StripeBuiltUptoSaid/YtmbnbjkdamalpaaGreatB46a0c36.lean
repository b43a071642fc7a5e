/-
  Stripes: Same; the law Raw.
  The law Built of stripes.
-/
import Derived.Test.YtmbnbjkdamalpaaGreatBa471af0
import Derived.Test.YtmbnbjkdamalpaaGreatB4907353
set_option linter.unusedSimpArgs false
set_option linter.unusedVariables false
namespace Go.Proofs.YtmbnbjkdamalpaaGreat
open Go Go.Sim
set_option linter.unusedSimpArgs false
set_option linter.unusedVariables false
set_option maxHeartbeats 10000000
set_option maxRecDepth 40000
theorem st_of {a b : Stripe} (h : ¬(¬a.seq = b.seq ∨ ¬a.epoch = b.epoch ∨ ¬a.ready = b.ready ∨ ¬a.leased = b.leased)) : a = b := by
  simp only [not_or, Classical.not_not] at h
  obtain ⟨h1, h2, h3, h4⟩ := h
  cases a; cases b
  simp only at h1 h2 h3 h4
  subst h1 h2 h3 h4
  rfl
def eqS (a b : List Stripe) (i : Nat) : St := ⟨[(0, .d (.sl (a.map eStripe))), (1, .d (.sl (b.map eStripe))), (12, .d (.int .i64 a.length)), (13, .d (.int .i64 i))], []⟩
def sameF (a b : List Stripe) (i : Nat) : Bool := decide (a.drop i = b.drop i)
theorem sameF_step {a b : List Stripe} {i : Nat} (h0 : i < a.length) (h3 : i < b.length) : sameF a b i = (decide (a[i] = b[i]) && sameF a b (i + 1)) := by
  unfold sameF
  apply Bool.eq_iff_iff.2
  simp only [Bool.and_eq_true, decide_eq_true_eq]
  rw [List.drop_eq_getElem_cons h0, List.drop_eq_getElem_cons h3, List.cons.injEq]
theorem sameF_end {a b : List Stripe} {i : Nat} (h0 : a.length ≤ i) (h3 : b.length ≤ i) : sameF a b i = true := by
  unfold sameF
  rw [List.drop_eq_nil_of_le h0, List.drop_eq_nil_of_le h3]; rfl
def eqR (a b : List Stripe) (i : Nat) : AExit × St := if sameF a b i = true then (.exit 0, ⟨[], []⟩) else (.ret, ⟨[(4, .d (.bool false))], []⟩)
theorem eq_loop (a b : List Stripe) (h1 : a.length ≤ 4294967296) (h2 : b.length = a.length) : ∀ i, i ≤ a.length → loopL G [] l_slices_Equal_api_Stripe_0 (eqS a b i) = some (eqR a b i) := by
  refine loop_ind (fun i => a.length - i) (fun i => i ≤ a.length) (eqS a b) (fun i => some (eqR a b i)) fun i hi L ih => ?_
  by_cases h0 : i < a.length
  · have i1 := ih (i + 1) (by omega) (by omega)
    clear ih
    have h3 : i < b.length := by omega
    unfold eqR at i1 ⊢
    rw [sameF_step h0 h3]
    generalize sameF a b (i + 1) = bd at *
    simp only [eqS] at i1
    simp only [Int.natCast_add, Int.natCast_one, Int.natCast_zero, Int.natCast_mul, Int.cast_ofNat_Int, List.length_append, List.length_map, List.map_nil, List.length_nil, List.map_append, List.map_cons, List.length_cons, Nat.zero_add, srcO, mapSet] at i1
    simp only [eqS, l_slices_Equal_api_Stripe_0]
    by_cases hm : a[i] = b[i]
    · simp only [hm, decide_true, Bool.true_and]
      simp -implicitDefEqProofs (maxSteps := 4000000) (disch := omega) only [hm, eStripe, getDT, go_sem, *] /-A0-/
    · simp only [hm, decide_false, Bool.false_and, Bool.false_eq_true, if_false]
      (try simp -implicitDefEqProofs (maxSteps := 4000000) (disch := omega) only [eStripe, getDT, go_sem, *]); (try simp only [pA, pB, pC, pD, pE, pF, pG, pH, pI, pJ, pK, pL, pM, pN, pO, pP, if_true, if_false]); repeat' (first | done | rfl | ((first | refine iteC (fun hq => ?_) (fun hq => ?_) | refine iteP (fun hq => ?_) (fun hq => ?_)) <;> (try (first | (exfalso; omega) | contradiction)) <;> (try simp -implicitDefEqProofs (maxSteps := 4000000) (disch := omega) only [eStripe, getDT, go_sem, *]) <;> (try simp only [pA, pB, pC, pD, pE, pF, pG, pH, pI, pJ, pK, pL, pM, pN, pO, pP, if_true, if_false]))); (all_goals try rfl); (all_goals try (repeat' (first | done | rfl | (exfalso; omega) | contradiction | (refine iteR (fun hq => ?_) (fun hq => ?_))))) /-A1-/
      exact absurd (st_of (by assumption)) hm
  · clear ih
    unfold eqR
    rw [sameF_end (by omega) (by omega)]
    simp only [eqS, l_slices_Equal_api_Stripe_0, if_true]
    simp -implicitDefEqProofs (maxSteps := 4000000) (disch := omega) only [getDT, go_sem, *] /-A2-/
theorem equal_ok (a b : List Stripe) (h1 : a.length ≤ 4294967296) (h2 : b.length ≤ 4294967296) : callL G N_slices_Equal_api_Stripe [.d (.sl (a.map eStripe)), .d (.sl (b.map eStripe))] [] = some (.d (.bool (decide (a = b))), []) := by
  by_cases h : b.length = a.length
  · have hl := eq_loop a b h1 h 0 (by omega)
    unfold eqR at hl
    simp only [eqS, Int.natCast_zero] at hl
    simp only [sameF, List.drop_zero] at hl
    generalize decide (a = b) = q at *
    cases q
    · simp only [Bool.false_eq_true, if_false] at hl
      rw [callL_code g_slices_Equal_api_Stripe (by simp)]; simp -implicitDefEqProofs (maxSteps := 4000000) (disch := omega) only [c_slices_Equal_api_Stripe, r_slices_Equal_api_Stripe, getDT, go_sem, *] /-A3-/
    · simp only [if_true] at hl
      rw [callL_code g_slices_Equal_api_Stripe (by simp)]; simp -implicitDefEqProofs (maxSteps := 4000000) (disch := omega) only [c_slices_Equal_api_Stripe, r_slices_Equal_api_Stripe, getDT, go_sem, *] /-A4-/
  · rw [decide_eq_false (fun e => h (by rw [e]))]
    rw [callL_code g_slices_Equal_api_Stripe (by simp)]; simp -implicitDefEqProofs (maxSteps := 4000000) (disch := omega) only [c_slices_Equal_api_Stripe, r_slices_Equal_api_Stripe, getDT, go_sem, *] /-A5-/
theorem same_st_ok (a b : List Stripe) (h1 : a.length ≤ 4294967296) (h2 : b.length ≤ 4294967296) : callL G N_stripe_Same [.d (.sl (a.map eStripe)), .d (.sl (b.map eStripe))] [] = some (.d (.bool (decide (a = b))), []) := by
  have h := equal_ok a b h1 h2
  generalize decide (a = b) = q at *
  rw [callL_code g_stripe_Same (by simp)]; simp -implicitDefEqProofs (maxSteps := 4000000) (disch := omega) only [c_stripe_Same, r_stripe_Same, getDT, go_sem, *] /-A6-/
def sqS (a b : List Stripe) (i : Nat) : St := ⟨[(0, .d (.sl (a.map eStripe))), (1, .d (.sl (b.map eStripe))), (5, .d (.int .i64 i))], []⟩
theorem sq_loop (a b : List Stripe) (h1 : a.length ≤ 4294967296) (h2 : b.length = a.length) : ∀ i, i ≤ a.length → loopL G [] l_ref11_Same_0 (sqS a b i) = some (eqR a b i) := by
  refine loop_ind (fun i => a.length - i) (fun i => i ≤ a.length) (sqS a b) (fun i => some (eqR a b i)) fun i hi L ih => ?_
  by_cases h0 : i < a.length
  · have i1 := ih (i + 1) (by omega) (by omega)
    clear ih
    have h3 : i < b.length := by omega
    unfold eqR at i1 ⊢
    rw [sameF_step h0 h3]
    generalize sameF a b (i + 1) = bd at *
    simp only [sqS] at i1
    simp only [Int.natCast_add, Int.natCast_one, Int.natCast_zero, Int.natCast_mul, Int.cast_ofNat_Int, List.length_append, List.length_map, List.map_nil, List.length_nil, List.map_append, List.map_cons, List.length_cons, Nat.zero_add, srcO, mapSet] at i1
    simp only [sqS, l_ref11_Same_0]
    by_cases hm : a[i] = b[i]
    · simp only [hm, decide_true, Bool.true_and]
      (try simp -implicitDefEqProofs (maxSteps := 4000000) (disch := omega) only [hm, eStripe, getDT, go_sem, *]); (try simp only [pA, pB, pC, pD, pE, pF, pG, pH, pI, pJ, pK, pL, pM, pN, pO, pP, if_true, if_false]); repeat' (first | done | rfl | ((first | refine iteC (fun hq => ?_) (fun hq => ?_) | refine iteP (fun hq => ?_) (fun hq => ?_)) <;> (try (first | (exfalso; omega) | contradiction)) <;> (try simp -implicitDefEqProofs (maxSteps := 4000000) (disch := omega) only [hm, eStripe, getDT, go_sem, *]) <;> (try simp only [pA, pB, pC, pD, pE, pF, pG, pH, pI, pJ, pK, pL, pM, pN, pO, pP, if_true, if_false]))); (all_goals try rfl); (all_goals try (repeat' (first | done | rfl | (exfalso; omega) | contradiction | (refine iteR (fun hq => ?_) (fun hq => ?_))))) /-A7-/
    · simp only [hm, decide_false, Bool.false_and, Bool.false_eq_true, if_false]
      (try simp -implicitDefEqProofs (maxSteps := 4000000) (disch := omega) only [eStripe, getDT, go_sem, *]); (try simp only [pA, pB, pC, pD, pE, pF, pG, pH, pI, pJ, pK, pL, pM, pN, pO, pP, if_true, if_false]); repeat' (first | done | rfl | ((first | refine iteC (fun hq => ?_) (fun hq => ?_) | refine iteP (fun hq => ?_) (fun hq => ?_)) <;> (try (first | (exfalso; omega) | contradiction)) <;> (try simp -implicitDefEqProofs (maxSteps := 4000000) (disch := omega) only [eStripe, getDT, go_sem, *]) <;> (try simp only [pA, pB, pC, pD, pE, pF, pG, pH, pI, pJ, pK, pL, pM, pN, pO, pP, if_true, if_false]))); (all_goals try rfl); (all_goals try (repeat' (first | done | rfl | (exfalso; omega) | contradiction | (refine iteR (fun hq => ?_) (fun hq => ?_))))) /-A8-/
      exact absurd (st_of (by assumption)) hm
  · clear ih
    unfold eqR
    rw [sameF_end (by omega) (by omega)]
    simp only [sqS, l_ref11_Same_0, if_true]
    simp -implicitDefEqProofs (maxSteps := 4000000) (disch := omega) only [getDT, go_sem, *] /-A9-/
theorem same11_ok (a b : List Stripe) (h1 : a.length ≤ 4294967296) (h2 : b.length ≤ 4294967296) : callL G N_ref11_Same [.d (.sl (a.map eStripe)), .d (.sl (b.map eStripe))] [] = some (.d (.bool (decide (a = b))), []) := by
  by_cases h : b.length = a.length
  · have hl := sq_loop a b h1 h 0 (by omega)
    unfold eqR at hl
    simp only [sqS, Int.natCast_zero] at hl
    simp only [sameF, List.drop_zero] at hl
    generalize decide (a = b) = q at *
    cases q
    · simp only [Bool.false_eq_true, if_false] at hl
      rw [callL_code g_ref11_Same (by simp)]; simp -implicitDefEqProofs (maxSteps := 4000000) (disch := omega) only [c_ref11_Same, r_ref11_Same, getDT, go_sem, *] /-A10-/
    · simp only [if_true] at hl
      rw [callL_code g_ref11_Same (by simp)]; simp -implicitDefEqProofs (maxSteps := 4000000) (disch := omega) only [c_ref11_Same, r_ref11_Same, getDT, go_sem, *] /-A11-/
  · rw [decide_eq_false (fun e => h (by rw [e]))]
    rw [callL_code g_ref11_Same (by simp)]; simp -implicitDefEqProofs (maxSteps := 4000000) (disch := omega) only [c_ref11_Same, r_ref11_Same, getDT, go_sem, *] /-A12-/
theorem aw11a : sumN [⟨2, 1, 3, 4⟩, ⟨0, 0, 5, 6⟩] 1 2 = (3, 4) := by decide +kernel
theorem aw11b : beginD ⟨4, 0, 0, 0⟩ = (⟨5, 0, 0, 0⟩, 0) := by decide +kernel
theorem awake11_ok : callL G N_law11_awake [] [] = some (.d (.bool true), []) := by
  have h1 := sum_ok [⟨2, 1, 3, 4⟩, ⟨0, 0, 5, 6⟩] 1 (by simp)
  have h2 := begin_ok ⟨4, 0, 0, 0⟩
  simp only [List.length_cons, List.length_nil, Nat.zero_add, aw11a] at h1
  rw [aw11b] at h2
  simp only [eStripe, List.map_cons, List.map_nil] at h1 h2
  rw [callL_code g_law11_awake (by simp)]; simp -implicitDefEqProofs (maxSteps := 4000000) (disch := omega) only [c_law11_awake, r_law11_awake, getDT, go_sem, *]; (try simp only [pA, pB, pC, pD, pE, pF, pG, pH, pI, pJ, pK, pL, pM, pN, pO, pP, if_true, if_false]); repeat' (first | done | rfl | ((first | refine iteC (fun hq => ?_) (fun hq => ?_) | refine iteP (fun hq => ?_) (fun hq => ?_)) <;> (try (first | (exfalso; omega) | contradiction)) <;> (try simp -implicitDefEqProofs (maxSteps := 4000000) (disch := omega) only [getDT, go_sem, *]) <;> (try simp only [pA, pB, pC, pD, pE, pF, pG, pH, pI, pJ, pK, pL, pM, pN, pO, pP, if_true, if_false]))); (all_goals try rfl); (all_goals try (repeat' (first | done | rfl | (exfalso; omega) | contradiction | (refine iteR (fun hq => ?_) (fun hq => ?_))))) /-A13-/
end Go.Proofs.YtmbnbjkdamalpaaGreat

namespace Go.Proofs.YtmbnbjkdamalpaaGreat
open Go Go.Sim
set_option linter.unusedSimpArgs false
set_option linter.unusedVariables false
set_option maxHeartbeats 10000000
set_option maxRecDepth 40000
theorem SG_len {x : Shard} (h : SG x) : x.ready.cells.length ≤ 12 ∧ x.leases.l.length ≤ 12 ∧ x.leases.heap.length ≤ 12 := by
  have h := h.1
  unfold shardV at h
  split at h
  · rename_i hc; exact absurd h hc
  · rename_i h1
    split at h
    · rename_i hc; exact absurd h hc
    · rename_i h2
      have h1 := ringV_zero (Classical.not_not.1 h1)
      have h2 := tab_len (Classical.not_not.1 h2)
      exact ⟨h1.2.1, h2⟩
theorem nb_ex (l : List Int) (a : Nat) (n : Int) (hL : l.length ≤ 4000) (h1 : 1 ≤ n) (h2 : n ≤ 4294967296) : ∃ y a', callL G N_base_Src_N [.ref 1000000 0 0, .d (.int .i64 n)] [(1000000, srcO l a)] = some (.d (.int .i64 y), [(1000000, srcO l a')]) ∧ 0 ≤ y ∧ y < n := ⟨_, _, n_ok l a n hL h1 h2, nD_in l a h1⟩
structure SL where
  S : List Stripe
  a : Nat
  i : Nat
def slS (l : List Int) (s : SL) : St := ⟨[(0, .ref 1000000 0 0), (3, .acc 3 (s.S.map eStripe)), (4, .d (.int .i64 s.i)), (1000000, .ref 1000000 1 0)], [(3, .acc s.S.length), (1000000, srcO l s.a)]⟩
def slPhi (l : List Int) (r : Option (AExit × St)) : Prop := ∃ (S : List Stripe) (a' : Nat), S.length ≤ 4 ∧ r = some (.exit 0, ⟨[(3, .acc 3 (S.map eStripe)), (1000000, .ref 1000000 1 0)], [(3, .acc S.length), (1000000, srcO l a')]⟩)
theorem sl_loop (l : List Int) (hL : l.length ≤ 4000) : ∀ s : SL, s.S.length + s.i ≤ 4 → slPhi l (loopL G [] l_base_Src_Stripes_0 (slS l s)) := by
  refine loop_indP (fun s : SL => s.i) (fun s => s.S.length + s.i ≤ 4) (slS l) (fun _ => Post (slPhi l)) fun ⟨S, a, i⟩ h2 L ih => ?_
  simp only at h2
  by_cases h0 : 0 < i
  · obtain ⟨y1, a1, q1, _, _⟩ := nb_ex l a 6 hL (by omega) (by omega)
    obtain ⟨y2, a2, q2, _, _⟩ := nb_ex l a1 3 hL (by omega) (by omega)
    obtain ⟨y3, a3, q3, _, _⟩ := nb_ex l a2 5 hL (by omega) (by omega)
    obtain ⟨y4, a4, q4, _, _⟩ := nb_ex l a3 5 hL (by omega) (by omega)
    have i1 := ih ⟨S ++ [⟨y1, y2, y3, y4⟩], a4, i - 1⟩ (by simp only [List.length_append, List.length_singleton]; omega) (by simp only; omega)
    have e : ((i - 1 : Nat) : Int) = (i : Int) - 1 := by omega
    clear ih
    simp only [slS, e, List.map_append, List.map_cons, List.map_nil, List.length_append, List.length_singleton] at i1
    simp only [slS, l_base_Src_Stripes_0]
    have hall : allSize 4 (S.map eStripe) = true := allSize_Stripe _
    simp only [eStripe] at i1 ⊢
    simp -implicitDefEqProofs (maxSteps := 4000000) (disch := omega) only [getDT, go_sem, *] /-A0-/
  · clear ih
    obtain rfl : i = 0 := by omega
    simp only [slS, l_base_Src_Stripes_0]
    simp -implicitDefEqProofs (maxSteps := 4000000) (disch := omega) only [getDT, go_sem, *] /-A1-/
    exact ⟨S, a, by omega, rfl⟩
theorem stripes_ex (l : List Int) (a : Nat) (hL : l.length ≤ 4000) : ∃ (S : List Stripe) (a' : Nat), S.length ≤ 4 ∧ callL G N_base_Src_Stripes [.ref 1000000 0 0] [(1000000, srcO l a)] = some (.d (.sl (S.map eStripe)), [(1000000, srcO l a')]) := by
  have q1 := n_ok l a 5 hL (by omega) (by omega)
  have b1 := nD_in l a (n := 5) (by omega)
  obtain ⟨k, hk⟩ : ∃ k : Nat, nD l a 5 = k := ⟨(nD l a 5).toNat, by omega⟩
  rw [hk] at q1 b1
  clear hk
  generalize (rawD l a).2 = a1 at *
  obtain ⟨S, a', g, hl⟩ := sl_loop l hL ⟨[], a1, k⟩ (by simp only [List.length_nil]; omega)
  refine ⟨S, a', g, ?_⟩
  simp only [slS, List.map_nil, List.length_nil] at hl
  rw [callL_code g_base_Src_Stripes (by simp)]; simp -implicitDefEqProofs (maxSteps := 4000000) (disch := omega) only [c_base_Src_Stripes, r_base_Src_Stripes, getDT, go_sem, *] /-A2-/
structure SB where
  a : Nat
  i : Nat
def sbT (l : List Int) (s : SB) : St := ⟨[(3, .ref 24 0 0), (4, .d (.int .i64 s.i))], [(24, srcO l s.a)]⟩
def sbPhi (l : List Int) (r : Option (AExit × St)) : Prop := ∃ a', r = some (.exit 0, ⟨[(3, .ref 24 0 0)], [(24, srcO l a')]⟩)
theorem sb_loop (l : List Int) (hL : l.length ≤ 4000) : ∀ s : SB, s.i ≤ 4 → sbPhi l (loopL G [] l_law11_StripeBuilt_0 (sbT l s)) := by
  refine loop_indP (fun s : SB => 4 - s.i) (fun s => s.i ≤ 4) (sbT l) (fun _ => Post (sbPhi l)) fun ⟨a, i⟩ hi L ih => ?_
  simp only at hi
  by_cases h0 : i < 4
  · obtain ⟨j1, hj1, a1, q1⟩ := pickI_ok l a [0, 1, 2, 7, -1, -2, 1099511627776, 1099511627775, 1099511627774, 1099511627773, 1099511627777] hL (by simp) (by simp)
    obtain ⟨y1, hy1⟩ : ∃ y1, [0, 1, 2, 7, -1, -2, 1099511627776, 1099511627775, 1099511627774, 1099511627773, 1099511627777][j1] = y1 := ⟨_, rfl⟩
    rw [hy1] at q1
    clear hy1 hj1
    obtain ⟨y2, a2, q2, _, _⟩ := nb_ex l a1 3 hL (by omega) (by omega)
    obtain ⟨x, a3, hx, q3⟩ := shard_ex l a2 hL
    obtain ⟨x1, x2, x3⟩ := SG_len hx
    obtain ⟨j2, hj2, a4, q4⟩ := pickI_ok l a3 [0, 1, 2, -1, 65536, 65537] hL (by simp) (by simp)
    obtain ⟨y3, hy3⟩ : ∃ y3, [0, 1, 2, -1, 65536, 65537][j2] = y3 := ⟨_, rfl⟩
    rw [hy3] at q4
    clear hy3 hj2 hx
    have q5 := range_ok l a4 0 9 hL (by omega) (by omega) (by omega) (by omega)
    generalize 0 + nD l a4 (9 - 0 + 1) = y4 at *
    generalize (rawD l a4).2 = a5 at *
    have b1 := begin_ok ⟨y1, y2, 0, 0⟩
    have b2 := begin11_ok ⟨y1, y2, 0, 0⟩
    generalize beginD ⟨y1, y2, 0, 0⟩ = bd at *
    have e1 := end_ok ⟨y1, y2, 0, 0⟩ x y3 y4 (by omega) (by omega) (by omega)
    have e2 := end11_ok ⟨y1, y2, 0, 0⟩ x y3 y4 (by omega) (by omega) (by omega)
    generalize endD ⟨y1, y2, 0, 0⟩ x y3 y4 = ed at *
    obtain ⟨bs, be⟩ := bd
    obtain ⟨es, ee⟩ := ed
    have i1 := ih ⟨a5, i + 1⟩ (by simp only; omega) (by simp only; omega)
    clear ih
    simp only [ints, List.map_cons, List.map_nil] at q1 q4
    simp only [sbT] at i1
    simp only [sbT, l_law11_StripeBuilt_0]
    simp only [Int.natCast_add, Int.natCast_one, Int.natCast_zero, Int.natCast_mul, Int.cast_ofNat_Int, List.length_append, List.length_map, List.map_nil, List.length_nil, List.map_append, List.map_cons, List.length_cons, Nat.zero_add, srcO, mapSet] at i1
    simp only [eStripe, eShard] at b1 b2 e1 e2 q3
    simp -implicitDefEqProofs (maxSteps := 4000000) (disch := omega) only [getDT, go_sem, *] /-A3-/
  · clear ih
    simp only [sbT, l_law11_StripeBuilt_0]
    simp -implicitDefEqProofs (maxSteps := 4000000) (disch := omega) only [getDT, go_sem, *] /-A4-/
    exact ⟨a, rfl⟩
theorem sbuilt_ok (l : List Int) (h : l.length ≤ LIM) : callL G N_law11_StripeBuilt [.d (.sl (ints l))] [] = some (.d (.bool true), []) := by
  have h1 := new_ok l h
  have ht : (l.take 4000).length ≤ 4000 := by simp; omega
  generalize l.take 4000 = t at *
  obtain ⟨a1, hl⟩ := sb_loop t ht ⟨0, 0⟩ (by simp)
  obtain ⟨S1, a2, g1, q1⟩ := stripes_ex t a1 ht
  obtain ⟨S2, a3, g2, q2⟩ := stripes_ex t a2 ht
  have k1 := sum_ok S1 1 (by omega)
  have k2 := sum11_ok S1 1 (by omega)
  generalize sumN S1 1 S1.length = sm at *
  have k3 := quiet_ok S1 (by omega)
  have k4 := quiet11_ok S1 (by omega)
  generalize (!S1.any oddQ) = qq at *
  have k5 := same_st_ok S1 S2 (by omega) (by omega)
  have k6 := same11_ok S1 S2 (by omega) (by omega)
  generalize decide (S1 = S2) = ss at *
  have ha := awake11_ok
  simp only [sbT] at hl
  simp only [srcO, Int.natCast_zero] at h1 hl
  rw [callL_code g_law11_StripeBuilt (by simp)]; simp -implicitDefEqProofs (maxSteps := 4000000) (disch := omega) only [c_law11_StripeBuilt, r_law11_StripeBuilt, getDT, go_sem, *] /-A5-/
end Go.Proofs.YtmbnbjkdamalpaaGreat
