/-
  The law Script.
-/
import Derived.Test.YtibkpphblgfmbaaB1964e9b
set_option linter.unusedSimpArgs false
set_option linter.unusedVariables false
namespace Go.Proofs.Ytibkpphblgfmbaa.L
open Go Go.Sim Go.Proofs.Ytibkpphblgfmbaa
set_option linter.unusedSimpArgs false
set_option linter.unusedVariables false
set_option maxHeartbeats 10000000
set_option maxRecDepth 40000
structure SC where
  t : Table
  b : Bool
  H : List Int
  at0 : Nat
  i : Nat
def scT (l : List Int) (s : SC) : St := ⟨[(3, .ref 16 0 0), (4, .ref 4 0 0), (5, .ref 5 0 0), (6, .d (.int .i64 s.i))], [(4, .row [tabA s.t s.b]), (5, .row [.d (.agg (ints s.H))]), (16, srcO l s.at0)]⟩
def scInv (s : SC) : Prop := tabV s.t = 0 ∧ HInv s.t s.H ∧ s.i ≤ 40 ∧ (s.b = true → s.t = zTable)
theorem sc_loop1 (l : List Int) (hL : l.length ≤ 4000) : ∀ s : SC, scInv s → loopL G [] l_law06_LeaseScript_1 (scT l s) = some (.exit 0, ⟨[], []⟩) := by
  refine loop_ind (fun s : SC => 40 - s.i) scInv (scT l) _ fun ⟨t, b, H, a, i⟩ ⟨h1, hH, hi, hb⟩ L ih => ?_
  simp only at h1 hH hi hb
  have hmo := more_ok l a hL
  obtain ⟨t1, t2⟩ := tab_len h1
  have hlen := hH.len
  by_cases h0 : i < 40 ∧ (i < 4 ∨ (a : Int) < l.length)
  · have q0 := nD_in l a (n := 20) (by omega)
    have hr0 := range_ok l a 1 20 hL (by omega) (by omega) (by omega) (by omega)
    obtain ⟨id, hid⟩ : ∃ id : Nat, (id : Int) = 1 + nD l a (20 - 1 + 1) := ⟨(1 + nD l a (20 - 1 + 1)).toNat, by simp only [show (20 : Int) - 1 + 1 = 20 by omega]; omega⟩
    rw [← hid] at hr0
    replace hid : 1 ≤ id ∧ id ≤ 20 := by simp only [show (20 : Int) - 1 + 1 = 20 by omega] at hid; omega
    generalize (rawD l a).2 = a1 at *
    have q1 := nD_in l a1 (n := 30) (by omega)
    have hn1 := n_ok l a1 30 hL (by omega) (by omega)
    generalize nD l a1 30 = e1 at *
    generalize (rawD l a1).2 = a2 at *
    have q2 := nD_in l a2 (n := 4) (by omega)
    have hn2 := n_ok l a2 4 hL (by omega) (by omega)
    generalize nD l a2 4 = cc at *
    generalize (rawD l a2).2 = a3 at *
    clear q0
    have hg : H.getD id 0 = H[id]'(by omega) := getDT (by omega)
    have hfind := hH.find (id := id) (by omega) (by omega)
    rw [hg] at hfind
    by_cases c1 : cc < 2
    · obtain ⟨m, a4, hm, hmc⟩ := message_ex l a3 id 0 9 hL (by omega) (by omega) (by omega)
      obtain ⟨m2, hm2⟩ : ∃ m2, m2 = { m with gen := if m.gen < 1 then 1 else m.gen } := ⟨_, rfl⟩
      have hgr := grant_ok t m2 (1 + e1) (by omega) (by omega)
      have hin := fun hg => hH.grant (m := m2) (d := 1 + e1) (id := id) (by omega) (by omega) (by omega) (by rw [hm2]; exact hm.1) hg
      have hv := grantD_valid t m2 (1 + e1)
      by_cases c2 : (grantD t m2 (1 + e1)).2 = 0
      · have hin := hin c2
        rw [c2] at hgr
        generalize (grantD t m2 (1 + e1)).1 = t' at *
        obtain ⟨t1', t2'⟩ := tab_len hv
        have i1 := ih ⟨t', false, H.set id (1 + e1), a4, i + 1⟩ ⟨hv, hin, by simp only; omega, fun h => by cases h⟩ (by simp only; omega)
        clear ih
        have hval := lval_ok t' (by omega) (by omega)
        have hval2 := validate_ok t'.heap (by simp only [LIM]; omega)
        have hl0 := sc_loop0 l t' false (fun h => by cases h) (H.set id (1 + e1)) hv hin a4 i 1 (by omega)
        rw [hv] at hval
        rw [(tabV_zero hv).2.2.1] at hval2
        clear hm hv hin hH hfind hg
        subst hm2
        cases b with
        | true =>
          obtain rfl := hb rfl
          simp only [zTable, eTable, eMessage, List.map_nil] at hgr hval hval2 hmc
          simp only [scT, scS, tabA, if_true, zTable, eTable, List.map_nil, Bool.false_eq_true, if_false] at i1 hl0
          simp only [scT, tabA, if_true, l_law06_LeaseScript_1]
          simp only [Int.natCast_add, Int.natCast_one, Int.natCast_zero, Int.natCast_mul, Int.cast_ofNat_Int, List.length_append, List.length_map, List.map_nil, List.length_nil, List.map_append, List.map_cons, List.length_cons, Nat.zero_add, srcO, mapSet] at i1 hl0
          by_cases hgen : m.gen < 1
          · simp only [hgen, if_true] at hgr
            (try simp -implicitDefEqProofs (maxSteps := 4000000) (disch := omega) only [ite_self, getDT, go_sem, *]); (try simp only [pA, pB, pC, pD, pE, pF, pG, pH, pI, pJ, pK, pL, pM, pN, pO, pP, if_true, if_false]); repeat' (first | done | rfl | ((first | refine iteC (fun hq => ?_) (fun hq => ?_) | refine iteP (fun hq => ?_) (fun hq => ?_)) <;> (try (first | (exfalso; omega) | contradiction)) <;> (try simp -implicitDefEqProofs (maxSteps := 4000000) (disch := omega) only [ite_self, getDT, go_sem, *]) <;> (try simp only [pA, pB, pC, pD, pE, pF, pG, pH, pI, pJ, pK, pL, pM, pN, pO, pP, if_true, if_false]))); (all_goals try rfl); (all_goals try (repeat' (first | done | rfl | (exfalso; omega) | contradiction | (refine iteR (fun hq => ?_) (fun hq => ?_))))) /-A0-/
          · simp only [hgen, if_false] at hgr
            (try simp -implicitDefEqProofs (maxSteps := 4000000) (disch := omega) only [ite_self, getDT, go_sem, *]); (try simp only [pA, pB, pC, pD, pE, pF, pG, pH, pI, pJ, pK, pL, pM, pN, pO, pP, if_true, if_false]); repeat' (first | done | rfl | ((first | refine iteC (fun hq => ?_) (fun hq => ?_) | refine iteP (fun hq => ?_) (fun hq => ?_)) <;> (try (first | (exfalso; omega) | contradiction)) <;> (try simp -implicitDefEqProofs (maxSteps := 4000000) (disch := omega) only [ite_self, getDT, go_sem, *]) <;> (try simp only [pA, pB, pC, pD, pE, pF, pG, pH, pI, pJ, pK, pL, pM, pN, pO, pP, if_true, if_false]))); (all_goals try rfl); (all_goals try (repeat' (first | done | rfl | (exfalso; omega) | contradiction | (refine iteR (fun hq => ?_) (fun hq => ?_))))) /-A1-/
        | false =>
          simp only [eTable, eMessage] at hgr hval hval2 hmc
          simp only [scT, scS, tabA, eTable, Bool.false_eq_true, if_false] at i1 hl0
          simp only [scT, tabA, eTable, Bool.false_eq_true, if_false, l_law06_LeaseScript_1]
          simp only [Int.natCast_add, Int.natCast_one, Int.natCast_zero, Int.natCast_mul, Int.cast_ofNat_Int, List.length_append, List.length_map, List.map_nil, List.length_nil, List.map_append, List.map_cons, List.length_cons, Nat.zero_add, srcO, mapSet] at i1 hl0
          by_cases hgen : m.gen < 1
          · simp only [hgen, if_true] at hgr
            (try simp -implicitDefEqProofs (maxSteps := 4000000) (disch := omega) only [ite_self, getDT, go_sem, *]); (try simp only [pA, pB, pC, pD, pE, pF, pG, pH, pI, pJ, pK, pL, pM, pN, pO, pP, if_true, if_false]); repeat' (first | done | rfl | ((first | refine iteC (fun hq => ?_) (fun hq => ?_) | refine iteP (fun hq => ?_) (fun hq => ?_)) <;> (try (first | (exfalso; omega) | contradiction)) <;> (try simp -implicitDefEqProofs (maxSteps := 4000000) (disch := omega) only [ite_self, getDT, go_sem, *]) <;> (try simp only [pA, pB, pC, pD, pE, pF, pG, pH, pI, pJ, pK, pL, pM, pN, pO, pP, if_true, if_false]))); (all_goals try rfl); (all_goals try (repeat' (first | done | rfl | (exfalso; omega) | contradiction | (refine iteR (fun hq => ?_) (fun hq => ?_))))) /-A2-/
          · simp only [hgen, if_false] at hgr
            (try simp -implicitDefEqProofs (maxSteps := 4000000) (disch := omega) only [ite_self, getDT, go_sem, *]); (try simp only [pA, pB, pC, pD, pE, pF, pG, pH, pI, pJ, pK, pL, pM, pN, pO, pP, if_true, if_false]); repeat' (first | done | rfl | ((first | refine iteC (fun hq => ?_) (fun hq => ?_) | refine iteP (fun hq => ?_) (fun hq => ?_)) <;> (try (first | (exfalso; omega) | contradiction)) <;> (try simp -implicitDefEqProofs (maxSteps := 4000000) (disch := omega) only [ite_self, getDT, go_sem, *]) <;> (try simp only [pA, pB, pC, pD, pE, pF, pG, pH, pI, pJ, pK, pL, pM, pN, pO, pP, if_true, if_false]))); (all_goals try rfl); (all_goals try (repeat' (first | done | rfl | (exfalso; omega) | contradiction | (refine iteR (fun hq => ?_) (fun hq => ?_))))) /-A3-/
      · clear hin hv
        have hin := hH
        generalize (grantD t m2 (1 + e1)).2 = cd at *
        generalize (grantD t m2 (1 + e1)).1 = t' at *
        have i1 := ih ⟨t, b, H, a4, i + 1⟩ ⟨h1, hin, by simp only; omega, hb⟩ (by simp only; omega)
        clear ih
        have hval := lval_ok t (by omega) (by omega)
        have hval2 := validate_ok t.heap (by simp only [LIM]; omega)
        have hl0 := sc_loop0 l t b hb (H) h1 hin a4 i 1 (by omega)
        rw [h1] at hval
        rw [(tabV_zero h1).2.2.1] at hval2
        clear hm hin hH hfind hg
        subst hm2
        cases b with
        | true =>
          obtain rfl := hb rfl
          simp only [zTable, eTable, eMessage, List.map_nil] at hgr hval hval2 hmc
          simp only [scT, scS, tabA, if_true, zTable, eTable, List.map_nil, Bool.false_eq_true, if_false] at i1 hl0
          simp only [scT, tabA, if_true, l_law06_LeaseScript_1]
          simp only [Int.natCast_add, Int.natCast_one, Int.natCast_zero, Int.natCast_mul, Int.cast_ofNat_Int, List.length_append, List.length_map, List.map_nil, List.length_nil, List.map_append, List.map_cons, List.length_cons, Nat.zero_add, srcO, mapSet] at i1 hl0
          by_cases hgen : m.gen < 1
          · simp only [hgen, if_true] at hgr
            (try simp -implicitDefEqProofs (maxSteps := 4000000) (disch := omega) only [ite_self, getDT, go_sem, *]); (try simp only [pA, pB, pC, pD, pE, pF, pG, pH, pI, pJ, pK, pL, pM, pN, pO, pP, if_true, if_false]); repeat' (first | done | rfl | ((first | refine iteC (fun hq => ?_) (fun hq => ?_) | refine iteP (fun hq => ?_) (fun hq => ?_)) <;> (try (first | (exfalso; omega) | contradiction)) <;> (try simp -implicitDefEqProofs (maxSteps := 4000000) (disch := omega) only [ite_self, getDT, go_sem, *]) <;> (try simp only [pA, pB, pC, pD, pE, pF, pG, pH, pI, pJ, pK, pL, pM, pN, pO, pP, if_true, if_false]))); (all_goals try rfl); (all_goals try (repeat' (first | done | rfl | (exfalso; omega) | contradiction | (refine iteR (fun hq => ?_) (fun hq => ?_))))) /-A4-/
          · simp only [hgen, if_false] at hgr
            (try simp -implicitDefEqProofs (maxSteps := 4000000) (disch := omega) only [ite_self, getDT, go_sem, *]); (try simp only [pA, pB, pC, pD, pE, pF, pG, pH, pI, pJ, pK, pL, pM, pN, pO, pP, if_true, if_false]); repeat' (first | done | rfl | ((first | refine iteC (fun hq => ?_) (fun hq => ?_) | refine iteP (fun hq => ?_) (fun hq => ?_)) <;> (try (first | (exfalso; omega) | contradiction)) <;> (try simp -implicitDefEqProofs (maxSteps := 4000000) (disch := omega) only [ite_self, getDT, go_sem, *]) <;> (try simp only [pA, pB, pC, pD, pE, pF, pG, pH, pI, pJ, pK, pL, pM, pN, pO, pP, if_true, if_false]))); (all_goals try rfl); (all_goals try (repeat' (first | done | rfl | (exfalso; omega) | contradiction | (refine iteR (fun hq => ?_) (fun hq => ?_))))) /-A5-/
        | false =>
          simp only [eTable, eMessage] at hgr hval hval2 hmc
          simp only [scT, scS, tabA, eTable, Bool.false_eq_true, if_false] at i1 hl0
          simp only [scT, tabA, eTable, Bool.false_eq_true, if_false, l_law06_LeaseScript_1]
          simp only [Int.natCast_add, Int.natCast_one, Int.natCast_zero, Int.natCast_mul, Int.cast_ofNat_Int, List.length_append, List.length_map, List.map_nil, List.length_nil, List.map_append, List.map_cons, List.length_cons, Nat.zero_add, srcO, mapSet] at i1 hl0
          by_cases hgen : m.gen < 1
          · simp only [hgen, if_true] at hgr
            (try simp -implicitDefEqProofs (maxSteps := 4000000) (disch := omega) only [ite_self, getDT, go_sem, *]); (try simp only [pA, pB, pC, pD, pE, pF, pG, pH, pI, pJ, pK, pL, pM, pN, pO, pP, if_true, if_false]); repeat' (first | done | rfl | ((first | refine iteC (fun hq => ?_) (fun hq => ?_) | refine iteP (fun hq => ?_) (fun hq => ?_)) <;> (try (first | (exfalso; omega) | contradiction)) <;> (try simp -implicitDefEqProofs (maxSteps := 4000000) (disch := omega) only [ite_self, getDT, go_sem, *]) <;> (try simp only [pA, pB, pC, pD, pE, pF, pG, pH, pI, pJ, pK, pL, pM, pN, pO, pP, if_true, if_false]))); (all_goals try rfl); (all_goals try (repeat' (first | done | rfl | (exfalso; omega) | contradiction | (refine iteR (fun hq => ?_) (fun hq => ?_))))) /-A6-/
          · simp only [hgen, if_false] at hgr
            (try simp -implicitDefEqProofs (maxSteps := 4000000) (disch := omega) only [ite_self, getDT, go_sem, *]); (try simp only [pA, pB, pC, pD, pE, pF, pG, pH, pI, pJ, pK, pL, pM, pN, pO, pP, if_true, if_false]); repeat' (first | done | rfl | ((first | refine iteC (fun hq => ?_) (fun hq => ?_) | refine iteP (fun hq => ?_) (fun hq => ?_)) <;> (try (first | (exfalso; omega) | contradiction)) <;> (try simp -implicitDefEqProofs (maxSteps := 4000000) (disch := omega) only [ite_self, getDT, go_sem, *]) <;> (try simp only [pA, pB, pC, pD, pE, pF, pG, pH, pI, pJ, pK, pL, pM, pN, pO, pP, if_true, if_false]))); (all_goals try rfl); (all_goals try (repeat' (first | done | rfl | (exfalso; omega) | contradiction | (refine iteR (fun hq => ?_) (fun hq => ?_))))) /-A7-/
    · by_cases c1' : cc = 2
      · have hrl := rel_ok t id (by omega) (by omega)
        have hri := rel_iff (id := id) h1
        by_cases c2 : 0 ≤ findL t.l id
        · have c3 := hri.2 c2
          have hin := hH.rel (id := id) (by omega) (by omega) c3
          have hv := (rel_valid c3).1
          have c4 := hfind.2 c2
          rw [c3] at hrl
          generalize (relD t id).1 = t' at *
          generalize (relD t id).2.1 = m at *
          obtain ⟨t1', t2'⟩ := tab_len hv
          have i1 := ih ⟨t', false, H.set id 0, a3, i + 1⟩ ⟨hv, hin, by simp only; omega, fun h => by cases h⟩ (by simp only; omega)
          clear ih
          have hval := lval_ok t' (by omega) (by omega)
          have hval2 := validate_ok t'.heap (by simp only [LIM]; omega)
          have hl0 := sc_loop0 l t' false (fun h => by cases h) (H.set id 0) hv hin a3 i 1 (by omega)
          rw [hv] at hval
          rw [(tabV_zero hv).2.2.1] at hval2
          clear hv hin hH hfind hg hri c2 c3
          cases b with
          | true =>
            obtain rfl := hb rfl
            simp only [zTable, eTable, eMessage, List.map_nil] at hrl hval hval2
            simp only [scT, scS, tabA, if_true, zTable, eTable, List.map_nil, Bool.false_eq_true, if_false] at i1 hl0
            simp only [scT, tabA, if_true, l_law06_LeaseScript_1]
            simp only [Int.natCast_add, Int.natCast_one, Int.natCast_zero, Int.natCast_mul, Int.cast_ofNat_Int, List.length_append, List.length_map, List.map_nil, List.length_nil, List.map_append, List.map_cons, List.length_cons, Nat.zero_add, srcO, mapSet] at i1 hl0
            simp -implicitDefEqProofs (maxSteps := 4000000) (disch := omega) only [ite_self, getDT, go_sem, *] /-A8-/
          | false =>
            simp only [eTable, eMessage] at hrl hval hval2
            simp only [scT, scS, tabA, eTable, Bool.false_eq_true, if_false] at i1 hl0
            simp only [scT, tabA, eTable, Bool.false_eq_true, if_false, l_law06_LeaseScript_1]
            simp only [Int.natCast_add, Int.natCast_one, Int.natCast_zero, Int.natCast_mul, Int.cast_ofNat_Int, List.length_append, List.length_map, List.map_nil, List.length_nil, List.map_append, List.map_cons, List.length_cons, Nat.zero_add, srcO, mapSet] at i1 hl0
            simp -implicitDefEqProofs (maxSteps := 4000000) (disch := omega) only [ite_self, getDT, go_sem, *] /-A9-/
        · have c3 : ¬ (relD t id).2.2 = 0 := fun h => c2 (hri.1 h)
          have hin := hH.not (id := id) (by omega) (by omega) c2
          have c4 : ¬ 0 < H[id]'(by omega) := fun h => c2 (hfind.1 h)
          generalize (relD t id).2.2 = cd at *
          generalize (relD t id).2.1 = m at *
          generalize (relD t id).1 = t' at *
          have i1 := ih ⟨t, b, H.set id 0, a3, i + 1⟩ ⟨h1, hin, by simp only; omega, hb⟩ (by simp only; omega)
          clear ih
          have hval := lval_ok t (by omega) (by omega)
          have hval2 := validate_ok t.heap (by simp only [LIM]; omega)
          have hl0 := sc_loop0 l t b hb (H.set id 0) h1 hin a3 i 1 (by omega)
          rw [h1] at hval
          rw [(tabV_zero h1).2.2.1] at hval2
          clear hin hH hfind hg hri c2
          cases b with
          | true =>
            obtain rfl := hb rfl
            simp only [zTable, eTable, eMessage, List.map_nil] at hrl hval hval2
            simp only [scT, scS, tabA, if_true, zTable, eTable, List.map_nil, Bool.false_eq_true, if_false] at i1 hl0
            simp only [scT, tabA, if_true, l_law06_LeaseScript_1]
            simp only [Int.natCast_add, Int.natCast_one, Int.natCast_zero, Int.natCast_mul, Int.cast_ofNat_Int, List.length_append, List.length_map, List.map_nil, List.length_nil, List.map_append, List.map_cons, List.length_cons, Nat.zero_add, srcO, mapSet] at i1 hl0
            simp -implicitDefEqProofs (maxSteps := 4000000) (disch := omega) only [ite_self, getDT, go_sem, *] /-A10-/
          | false =>
            simp only [eTable, eMessage] at hrl hval hval2
            simp only [scT, scS, tabA, eTable, Bool.false_eq_true, if_false] at i1 hl0
            simp only [scT, tabA, eTable, Bool.false_eq_true, if_false, l_law06_LeaseScript_1]
            simp only [Int.natCast_add, Int.natCast_one, Int.natCast_zero, Int.natCast_mul, Int.cast_ofNat_Int, List.length_append, List.length_map, List.map_nil, List.length_nil, List.map_append, List.map_cons, List.length_cons, Nat.zero_add, srcO, mapSet] at i1 hl0
            simp -implicitDefEqProofs (maxSteps := 4000000) (disch := omega) only [ite_self, getDT, go_sem, *] /-A11-/
      · have hrl := ext_ok t id (1 + e1) (by omega) (by omega)
        have hri := ext_iff (id := id) (d := 1 + e1) h1
        by_cases c2 : 0 ≤ findL t.l id
        · have c3 := hri.2 ⟨c2, by omega, by omega⟩
          have hin := hH.ext (id := id) (by omega) (by omega) (by omega) c3
          have hv := (ext_valid c3).1
          have c4 := hfind.2 c2
          rw [c3] at hrl
          generalize (extD t id (1 + e1)).1 = t' at *
          obtain ⟨t1', t2'⟩ := tab_len hv
          have i1 := ih ⟨t', false, H.set id (1 + e1), a3, i + 1⟩ ⟨hv, hin, by simp only; omega, fun h => by cases h⟩ (by simp only; omega)
          clear ih
          have hval := lval_ok t' (by omega) (by omega)
          have hval2 := validate_ok t'.heap (by simp only [LIM]; omega)
          have hl0 := sc_loop0 l t' false (fun h => by cases h) (H.set id (1 + e1)) hv hin a3 i 1 (by omega)
          rw [hv] at hval
          rw [(tabV_zero hv).2.2.1] at hval2
          clear hv hin hH hfind hg hri c2 c3
          cases b with
          | true =>
            obtain rfl := hb rfl
            simp only [zTable, eTable, eMessage, List.map_nil] at hrl hval hval2
            simp only [scT, scS, tabA, if_true, zTable, eTable, List.map_nil, Bool.false_eq_true, if_false] at i1 hl0
            simp only [scT, tabA, if_true, l_law06_LeaseScript_1]
            simp only [Int.natCast_add, Int.natCast_one, Int.natCast_zero, Int.natCast_mul, Int.cast_ofNat_Int, List.length_append, List.length_map, List.map_nil, List.length_nil, List.map_append, List.map_cons, List.length_cons, Nat.zero_add, srcO, mapSet] at i1 hl0
            simp -implicitDefEqProofs (maxSteps := 4000000) (disch := omega) only [ite_self, getDT, go_sem, *] /-A12-/
          | false =>
            simp only [eTable, eMessage] at hrl hval hval2
            simp only [scT, scS, tabA, eTable, Bool.false_eq_true, if_false] at i1 hl0
            simp only [scT, tabA, eTable, Bool.false_eq_true, if_false, l_law06_LeaseScript_1]
            simp only [Int.natCast_add, Int.natCast_one, Int.natCast_zero, Int.natCast_mul, Int.cast_ofNat_Int, List.length_append, List.length_map, List.map_nil, List.length_nil, List.map_append, List.map_cons, List.length_cons, Nat.zero_add, srcO, mapSet] at i1 hl0
            simp -implicitDefEqProofs (maxSteps := 4000000) (disch := omega) only [ite_self, getDT, go_sem, *] /-A13-/
        · have c3 : ¬ (extD t id (1 + e1)).2 = 0 := fun h => c2 (hri.1 h).1
          have hin := hH
          have c4 : ¬ 0 < H[id]'(by omega) := fun h => c2 (hfind.1 h)
          generalize (extD t id (1 + e1)).2 = cd at *
          generalize (extD t id (1 + e1)).1 = t' at *
          have i1 := ih ⟨t, b, H, a3, i + 1⟩ ⟨h1, hin, by simp only; omega, hb⟩ (by simp only; omega)
          clear ih
          have hval := lval_ok t (by omega) (by omega)
          have hval2 := validate_ok t.heap (by simp only [LIM]; omega)
          have hl0 := sc_loop0 l t b hb (H) h1 hin a3 i 1 (by omega)
          rw [h1] at hval
          rw [(tabV_zero h1).2.2.1] at hval2
          clear hin hH hfind hg hri c2
          cases b with
          | true =>
            obtain rfl := hb rfl
            simp only [zTable, eTable, eMessage, List.map_nil] at hrl hval hval2
            simp only [scT, scS, tabA, if_true, zTable, eTable, List.map_nil, Bool.false_eq_true, if_false] at i1 hl0
            simp only [scT, tabA, if_true, l_law06_LeaseScript_1]
            simp only [Int.natCast_add, Int.natCast_one, Int.natCast_zero, Int.natCast_mul, Int.cast_ofNat_Int, List.length_append, List.length_map, List.map_nil, List.length_nil, List.map_append, List.map_cons, List.length_cons, Nat.zero_add, srcO, mapSet] at i1 hl0
            simp -implicitDefEqProofs (maxSteps := 4000000) (disch := omega) only [ite_self, getDT, go_sem, *] /-A14-/
          | false =>
            simp only [eTable, eMessage] at hrl hval hval2
            simp only [scT, scS, tabA, eTable, Bool.false_eq_true, if_false] at i1 hl0
            simp only [scT, tabA, eTable, Bool.false_eq_true, if_false, l_law06_LeaseScript_1]
            simp only [Int.natCast_add, Int.natCast_one, Int.natCast_zero, Int.natCast_mul, Int.cast_ofNat_Int, List.length_append, List.length_map, List.map_nil, List.length_nil, List.map_append, List.map_cons, List.length_cons, Nat.zero_add, srcO, mapSet] at i1 hl0
            simp -implicitDefEqProofs (maxSteps := 4000000) (disch := omega) only [ite_self, getDT, go_sem, *] /-A15-/
  · clear ih
    simp only [scT, l_law06_LeaseScript_1]
    cases b with
    | true =>
      simp only [tabA, if_true]
      (try simp -implicitDefEqProofs (maxSteps := 4000000) (disch := omega) only [getDT, go_sem, *]); (try simp only [pA, pB, pC, pD, pE, pF, pG, pH, pI, pJ, pK, pL, pM, pN, pO, pP, if_true, if_false]); repeat' (first | done | rfl | ((first | refine iteC (fun hq => ?_) (fun hq => ?_) | refine iteP (fun hq => ?_) (fun hq => ?_)) <;> (try (first | (exfalso; omega) | contradiction)) <;> (try simp -implicitDefEqProofs (maxSteps := 4000000) (disch := omega) only [getDT, go_sem, *]) <;> (try simp only [pA, pB, pC, pD, pE, pF, pG, pH, pI, pJ, pK, pL, pM, pN, pO, pP, if_true, if_false]))); (all_goals try rfl); (all_goals try (repeat' (first | done | rfl | (exfalso; omega) | contradiction | (refine iteR (fun hq => ?_) (fun hq => ?_))))) /-A16-/
    | false =>
      simp only [tabA, Bool.false_eq_true, if_false, eTable]
      (try simp -implicitDefEqProofs (maxSteps := 4000000) (disch := omega) only [getDT, go_sem, *]); (try simp only [pA, pB, pC, pD, pE, pF, pG, pH, pI, pJ, pK, pL, pM, pN, pO, pP, if_true, if_false]); repeat' (first | done | rfl | ((first | refine iteC (fun hq => ?_) (fun hq => ?_) | refine iteP (fun hq => ?_) (fun hq => ?_)) <;> (try (first | (exfalso; omega) | contradiction)) <;> (try simp -implicitDefEqProofs (maxSteps := 4000000) (disch := omega) only [getDT, go_sem, *]) <;> (try simp only [pA, pB, pC, pD, pE, pF, pG, pH, pI, pJ, pK, pL, pM, pN, pO, pP, if_true, if_false]))); (all_goals try rfl); (all_goals try (repeat' (first | done | rfl | (exfalso; omega) | contradiction | (refine iteR (fun hq => ?_) (fun hq => ?_))))) /-A17-/
theorem HInv.zero : HInv zTable (List.replicate 30 0) where
  len := rfl
  pos k h1 h2 := ⟨fun h => absurd h (by rw [show (List.replicate 30 (0 : Int)).getD k 0 = 0 by rw [List.getD_eq_getElem?_getD, List.getElem?_replicate]; split <;> rfl]; omega), fun ⟨x, hx, _⟩ => by cases hx⟩
  dl k h1 h2 x hx := by cases hx
theorem script_ok (l : List Int) (hL : l.length ≤ LIM) : callL G N_law06_LeaseScript [.d (.sl (ints l))] [] = some (.d (.bool true), []) := by
  have hnew := new_ok l hL
  have hl := sc_loop1 (l.take 4000) (by simp; omega) ⟨zTable, true, List.replicate 30 0, 0, 0⟩ ⟨by show tabV zTable = 0; decide, HInv.zero, by simp, fun _ => rfl⟩
  have haw := awake_ok
  simp only [scT, tabA, if_true, ints, List.map_replicate, srcO] at hl hnew
  simp only [List.replicate] at hl
  simp only [Int.natCast_add, Int.natCast_one, Int.natCast_zero, Int.natCast_mul, Int.cast_ofNat_Int, List.length_append, List.length_map, List.map_nil, List.length_nil, List.map_append, List.map_cons, List.length_cons, Nat.zero_add, srcO, mapSet] at hl
  simp only [Int.natCast_zero] at hl hnew
  rw [callL_code g_law06_LeaseScript (by simp)]; simp -implicitDefEqProofs (maxSteps := 4000000) (disch := omega) only [c_law06_LeaseScript, r_law06_LeaseScript, getDT, go_sem, *] /-A18-/
end Go.Proofs.Ytibkpphblgfmbaa.L
