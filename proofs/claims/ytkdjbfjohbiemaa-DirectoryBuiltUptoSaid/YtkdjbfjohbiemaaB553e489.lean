/-
  The law of built directories.
-/
import Derived.Test.YtkdjbfjohbiemaaBcffed20
set_option linter.unusedSimpArgs false
set_option linter.unusedVariables false
namespace Go.Proofs.Ytkdjbfjohbiemaa
open Go Go.Sim
set_option linter.unusedSimpArgs false
set_option linter.unusedVariables false
set_option maxHeartbeats 10000000
set_option maxRecDepth 40000
def bltS (l : List Int) (d : Directory) (p : Nat × Nat) : St := ⟨[(3, .ref 8 0 0), (4, .ref 4 0 0), (5, .d (.int .i64 p.1))], [(4, .row [.d (eDirectory d)]), (8, srcO l p.2)]⟩
theorem blt_loop (l : List Int) (d : Directory) (hL : l.length ≤ 4000) (hv : Val d) (hl : d.l.length ≤ 20) : ∀ p : Nat × Nat, p.1 ≤ 6 → ∃ a', loopL G [] l_law10_DirectoryBuilt_0 (bltS l d p) = some (.exit 0, ⟨[(3, .ref 8 0 0), (4, .ref 4 0 0)], [(4, .row [.d (eDirectory d)]), (8, srcO l a')]⟩) := by
  refine loop_indP (fun p : Nat × Nat => 6 - p.1) (fun p : Nat × Nat => p.1 ≤ 6) (bltS l d) (fun _ r => ∃ a', r = some (.exit 0, ⟨[(3, .ref 8 0 0), (4, .ref 4 0 0)], [(4, .row [.d (eDirectory d)]), (8, srcO l a')]⟩)) fun ⟨k, a⟩ hk L ih => ?_
  have n1 := hv.n1
  have n2 := hv.n2
  simp only [bltS] at ih hk ⊢
  simp only [l_law10_DirectoryBuilt_0]
  by_cases h0 : k < 6
  · obtain ⟨e, a1, he, hc⟩ := edit_ok l a (d.forward.length + 1) hL (by omega) (by omega)
    have hn := n_ok l a1 65536 hL (by omega) (by omega)
    obtain ⟨a2, q2⟩ : ∃ a2, a2 = (rawD l a1).2 := ⟨_, rfl⟩
    have hr := range_ok l a2 (-1) 6 hL (by omega) (by omega) (by omega) (by omega)
    obtain ⟨a3, q3⟩ : ∃ a3, a3 = (rawD l a2).2 := ⟨_, rfl⟩
    have hg := agrees_ok d e (nD l a1 65536) (-1 + nD l a2 (6 - -1 + 1)) (by omega) (by omega)
    rw [← q2] at hn
    rw [← q3] at hr
    obtain ⟨a', i1⟩ := ih (k + 1, a3) (by simp only; omega) (by simp only; omega)
    refine ⟨a', ?_⟩
    generalize nD l a1 65536 = x at *
    generalize -1 + nD l a2 (6 - -1 + 1) = y at *
    clear ih q2 q3 he hv
    simp only [Int.natCast_add, Int.natCast_one, Int.natCast_zero, Int.natCast_mul, Int.cast_ofNat_Int, List.length_append, List.length_map, List.map_nil, List.length_nil, List.map_append, List.map_cons, List.length_cons, Nat.zero_add, srcO, mapSet] at i1
    (try simp -implicitDefEqProofs (maxSteps := 4000000) (disch := omega) only [getDT, go_sem, *]); (try simp only [pA, pB, pC, pD, pE, pF, pG, pH, pI, pJ, pK, pL, pM, pN, pO, pP, if_true, if_false]); repeat' (first | done | rfl | (refine iteC (fun hq => ?_) (fun hq => ?_) <;> (try (first | (exfalso; omega) | contradiction)) <;> (try simp -implicitDefEqProofs (maxSteps := 4000000) (disch := omega) only [getDT, go_sem, *]) <;> (try simp only [pA, pB, pC, pD, pE, pF, pG, pH, pI, pJ, pK, pL, pM, pN, pO, pP, if_true, if_false]))); (all_goals try rfl); (all_goals try (repeat' (first | done | rfl | (exfalso; omega) | contradiction | (refine iteR (fun hq => ?_) (fun hq => ?_)))))
  · refine ⟨a, ?_⟩
    clear ih hv
    (try simp -implicitDefEqProofs (maxSteps := 4000000) (disch := omega) only [getDT, go_sem, *]); (try simp only [pA, pB, pC, pD, pE, pF, pG, pH, pI, pJ, pK, pL, pM, pN, pO, pP, if_true, if_false]); repeat' (first | done | rfl | (refine iteC (fun hq => ?_) (fun hq => ?_) <;> (try (first | (exfalso; omega) | contradiction)) <;> (try simp -implicitDefEqProofs (maxSteps := 4000000) (disch := omega) only [getDT, go_sem, *]) <;> (try simp only [pA, pB, pC, pD, pE, pF, pG, pH, pI, pJ, pK, pL, pM, pN, pO, pP, if_true, if_false]))); (all_goals try rfl); (all_goals try (repeat' (first | done | rfl | (exfalso; omega) | contradiction | (refine iteR (fun hq => ?_) (fun hq => ?_)))))
theorem blt_law (l : List Int) (hL : l.length ≤ LIM) : callL G N_law10_DirectoryBuilt [.d (.sl (ints l))] [] = some (.d (.bool true), []) := by
  obtain ⟨t, ht, hnew⟩ := new_ok2 l hL
  obtain ⟨d, a1, hv, hdl, hd⟩ := directory_ok t 0 ht
  obtain ⟨a2, hl⟩ := blt_loop t d ht hv hdl (0, a1) (by simp)
  have n1 := hv.n1
  have n2 := hv.n2
  have n3 : 0 < d.l.length := by
    rcases Nat.eq_zero_or_pos d.l.length with h | h
    · have := hv.til
      rw [List.length_eq_zero_iff.1 h, tileN] at this; cases this
    · exact h
  simp only [bltS] at hl
  have hn := n_ok t a2 5 ht (by omega) (by omega)
  have hb := nD_in t a2 (n := 5) (by omega)
  obtain ⟨a3, q3⟩ : ∃ a3, a3 = (rawD t a2).2 := ⟨_, rfl⟩
  rw [← q3] at hn
  have hw := awake10_ok
  generalize nD t a2 5 = z at *
  have hval := hv
  clear q3 hv
  have fin : ∀ (d' : Directory) (a : Nat), d'.l.length ≤ 20 → d'.forward.length = d.forward.length → ∃ (e : Edit) (x y : Int) (b1 b2 b3 : Nat), callL G N_base_Src_Edit [.ref 1000000 0 0, .d (.int .i64 d.forward.length)] [(1000000, srcO t a)] = some (.d (eEdit e), [(1000000, srcO t b1)]) ∧
      callL G N_base_Src_N [.ref 1000000 0 0, .d (.int .i64 65536)] [(1000000, srcO t b1)] = some (.d (.int .i64 x), [(1000000, srcO t b2)]) ∧ callL G N_base_Src_Range [.ref 1000000 0 0, .d (.int .i64 0), .d (.int .i64 5)] [(1000000, srcO t b2)] = some (.d (.int .i64 y), [(1000000, srcO t b3)]) ∧
      callL G N_law10_agrees [.d (.agg [.int .i64 d'.version, .sl (d'.l.map eSpan), .sl (ints d'.forward)]), .d (eEdit e), .d (.int .i64 x), .d (.int .i64 y)] [] = some (.d (.bool true), []) := fun d' a h1 h2 => by
    obtain ⟨e, b1, _, he⟩ := edit_ok t a d.forward.length ht (by omega) (by omega)
    exact ⟨e, _, _, b1, _, _, he, n_ok t b1 65536 ht (by omega) (by omega), range_ok t _ 0 5 ht (by omega) (by omega) (by omega) (by omega), agrees_ok d' e _ _ (by omega) (by omega)⟩
  by_cases c0 : z = 0
  · subst c0
    obtain ⟨i, hi, e4⟩ := pick_ok t a3 [0, 1, 1099511627776, 1099511627777] ht (by simp) (by simp)
    obtain ⟨e, x, y, b1, b2, b3, f1, f2, f3, f4⟩ := fin { d with version := [0, 1, 1099511627776, 1099511627777].getD i 0 } (rawD t a3).2 hdl rfl
    generalize [0, 1, 1099511627776, 1099511627777].getD i (0 : Int) = m at *
    simp only [ints, List.map_cons, List.map_nil] at e4
    clear fin hval
    simp only [Int.natCast_add, Int.natCast_one, Int.natCast_zero, Int.natCast_mul, Int.cast_ofNat_Int, List.length_append, List.length_map, List.map_nil, List.length_nil, List.map_append, List.map_cons, List.length_cons, Nat.zero_add, srcO, mapSet] at hd hl hn f1 f2 f3 f4 e4
    rw [callL_code g_law10_DirectoryBuilt (by simp)]; simp -implicitDefEqProofs (maxSteps := 4000000) (disch := omega) only [c_law10_DirectoryBuilt, r_law10_DirectoryBuilt, getDT, go_sem, *]; (try simp only [pA, pB, pC, pD, pE, pF, pG, pH, pI, pJ, pK, pL, pM, pN, pO, pP, if_true, if_false]); repeat' (first | done | rfl | (refine iteC (fun hq => ?_) (fun hq => ?_) <;> (try (first | (exfalso; omega) | contradiction)) <;> (try simp -implicitDefEqProofs (maxSteps := 4000000) (disch := omega) only [getDT, go_sem, *]) <;> (try simp only [pA, pB, pC, pD, pE, pF, pG, pH, pI, pJ, pK, pL, pM, pN, pO, pP, if_true, if_false]))); (all_goals try rfl); (all_goals try (repeat' (first | done | rfl | (exfalso; omega) | contradiction | (refine iteR (fun hq => ?_) (fun hq => ?_)))))
  by_cases c1 : z = 1
  · subst c1
    obtain ⟨i, hi⟩ : ∃ i : Nat, nD t a3 d.forward.length = i := ⟨(nD t a3 d.forward.length).toNat, by have := nD_in t a3 (n := d.forward.length) (by omega); omega⟩
    have hib := nD_in t a3 (n := d.forward.length) (by omega)
    have g1 := n_ok t a3 d.forward.length ht (by omega) (by omega)
    rw [hi] at g1 hib
    have hlt : i < d.forward.length := by omega
    obtain ⟨a4, q4⟩ : ∃ a4, a4 = (rawD t a3).2 := ⟨_, rfl⟩
    rw [← q4] at g1
    have g2 := range_ok t a4 (-2) 6 ht (by omega) (by omega) (by omega) (by omega)
    have g2b := nD_in t a4 (n := 6 - (-2) + 1) (by omega)
    obtain ⟨v, hv⟩ : ∃ v, v = (-2) + nD t a4 (6 - (-2) + 1) := ⟨_, rfl⟩
    rw [← hv] at g2
    have hvb : -2 ≤ v ∧ v ≤ 10 := by omega
    obtain ⟨e, x, y, b1, b2, b3, f1, f2, f3, f4⟩ := fin { d with forward := d.forward.set i v } (rawD t a4).2 (by simp only [List.length_set]; exact hdl) (by simp only [List.length_set])
    clear fin q4 hv hi g2b hib hval
    simp only [Int.natCast_add, Int.natCast_one, Int.natCast_zero, Int.natCast_mul, Int.cast_ofNat_Int, List.length_append, List.length_map, List.map_nil, List.length_nil, List.map_append, List.map_cons, List.length_cons, Nat.zero_add, srcO, mapSet] at hd hl hn f1 f2 f3 f4 g1 g2
    try simp only [eSpan] at f4
    rw [callL_code g_law10_DirectoryBuilt (by simp)]; simp -implicitDefEqProofs (maxSteps := 4000000) (disch := omega) only [c_law10_DirectoryBuilt, r_law10_DirectoryBuilt, getDT, go_sem, *]; (try simp only [pA, pB, pC, pD, pE, pF, pG, pH, pI, pJ, pK, pL, pM, pN, pO, pP, if_true, if_false]); repeat' (first | done | rfl | (refine iteC (fun hq => ?_) (fun hq => ?_) <;> (try (first | (exfalso; omega) | contradiction)) <;> (try simp -implicitDefEqProofs (maxSteps := 4000000) (disch := omega) only [getDT, go_sem, *]) <;> (try simp only [pA, pB, pC, pD, pE, pF, pG, pH, pI, pJ, pK, pL, pM, pN, pO, pP, if_true, if_false]))); (all_goals try rfl); (all_goals try (repeat' (first | done | rfl | (exfalso; omega) | contradiction | (refine iteR (fun hq => ?_) (fun hq => ?_)))))
  by_cases c2 : z = 2
  · subst c2
    obtain ⟨i, hi⟩ : ∃ i : Nat, nD t a3 d.l.length = i := ⟨(nD t a3 d.l.length).toNat, by have := nD_in t a3 (n := d.l.length) (by omega); omega⟩
    have hib := nD_in t a3 (n := d.l.length) (by omega)
    have g1 := n_ok t a3 d.l.length ht (by omega) (by omega)
    rw [hi] at g1 hib
    have hlt : i < d.l.length := by omega
    obtain ⟨a4, q4⟩ : ∃ a4, a4 = (rawD t a3).2 := ⟨_, rfl⟩
    rw [← q4] at g1
    have g2 := range_ok t a4 (-1) 6 ht (by omega) (by omega) (by omega) (by omega)
    have g2b := nD_in t a4 (n := 6 - (-1) + 1) (by omega)
    obtain ⟨v, hv⟩ : ∃ v, v = (-1) + nD t a4 (6 - (-1) + 1) := ⟨_, rfl⟩
    rw [← hv] at g2
    have hvb : -2 ≤ v ∧ v ≤ 10 := by omega
    obtain ⟨e, x, y, b1, b2, b3, f1, f2, f3, f4⟩ := fin { d with l := d.l.set i ⟨d.l[i].low, d.l[i].high, v⟩ } (rawD t a4).2 (by simp only [List.length_set]; exact hdl) (by simp only [List.length_set])
    clear fin q4 hv hi g2b hib hval
    simp only [Int.natCast_add, Int.natCast_one, Int.natCast_zero, Int.natCast_mul, Int.cast_ofNat_Int, List.length_append, List.length_map, List.map_nil, List.length_nil, List.map_append, List.map_cons, List.length_cons, Nat.zero_add, srcO, mapSet] at hd hl hn f1 f2 f3 f4 g1 g2
    try simp only [eSpan] at f4
    rw [callL_code g_law10_DirectoryBuilt (by simp)]; simp -implicitDefEqProofs (maxSteps := 4000000) (disch := omega) only [c_law10_DirectoryBuilt, r_law10_DirectoryBuilt, getDT, go_sem, *]; (try simp only [pA, pB, pC, pD, pE, pF, pG, pH, pI, pJ, pK, pL, pM, pN, pO, pP, if_true, if_false]); repeat' (first | done | rfl | (refine iteC (fun hq => ?_) (fun hq => ?_) <;> (try (first | (exfalso; omega) | contradiction)) <;> (try simp -implicitDefEqProofs (maxSteps := 4000000) (disch := omega) only [getDT, go_sem, *]) <;> (try simp only [pA, pB, pC, pD, pE, pF, pG, pH, pI, pJ, pK, pL, pM, pN, pO, pP, if_true, if_false]))); (all_goals try rfl); (all_goals try (repeat' (first | done | rfl | (exfalso; omega) | contradiction | (refine iteR (fun hq => ?_) (fun hq => ?_)))))
  by_cases c3 : z = 3
  · subst c3
    obtain ⟨i, hi⟩ : ∃ i : Nat, nD t a3 d.l.length = i := ⟨(nD t a3 d.l.length).toNat, by have := nD_in t a3 (n := d.l.length) (by omega); omega⟩
    have hib := nD_in t a3 (n := d.l.length) (by omega)
    have g1 := n_ok t a3 d.l.length ht (by omega) (by omega)
    rw [hi] at g1 hib
    have hlt : i < d.l.length := by omega
    obtain ⟨a4, q4⟩ : ∃ a4, a4 = (rawD t a3).2 := ⟨_, rfl⟩
    rw [← q4] at g1
    have g2 := range_ok t a4 (-1) 1 ht (by omega) (by omega) (by omega) (by omega)
    have g2b := nD_in t a4 (n := 1 - (-1) + 1) (by omega)
    obtain ⟨v, hv⟩ : ∃ v, v = (-1) + nD t a4 (1 - (-1) + 1) := ⟨_, rfl⟩
    rw [← hv] at g2
    have hvb : -2 ≤ v ∧ v ≤ 10 := by omega
    obtain ⟨e, x, y, b1, b2, b3, f1, f2, f3, f4⟩ := fin { d with l := d.l.set i ⟨d.l[i].low, d.l[i].high + v, d.l[i].shard⟩ } (rawD t a4).2 (by simp only [List.length_set]; exact hdl) (by simp only [List.length_set])
    clear fin q4 hv hi g2b hib
    have hti := tile_in d.l 0 65536 (by omega) hval.til d.l[i] (List.getElem_mem _)
    clear hval
    simp only [Int.natCast_add, Int.natCast_one, Int.natCast_zero, Int.natCast_mul, Int.cast_ofNat_Int, List.length_append, List.length_map, List.map_nil, List.length_nil, List.map_append, List.map_cons, List.length_cons, Nat.zero_add, srcO, mapSet] at hd hl hn f1 f2 f3 f4 g1 g2
    try simp only [eSpan] at f4
    rw [callL_code g_law10_DirectoryBuilt (by simp)]; simp -implicitDefEqProofs (maxSteps := 4000000) (disch := omega) only [c_law10_DirectoryBuilt, r_law10_DirectoryBuilt, getDT, go_sem, *]; (try simp only [pA, pB, pC, pD, pE, pF, pG, pH, pI, pJ, pK, pL, pM, pN, pO, pP, if_true, if_false]); repeat' (first | done | rfl | (refine iteC (fun hq => ?_) (fun hq => ?_) <;> (try (first | (exfalso; omega) | contradiction)) <;> (try simp -implicitDefEqProofs (maxSteps := 4000000) (disch := omega) only [getDT, go_sem, *]) <;> (try simp only [pA, pB, pC, pD, pE, pF, pG, pH, pI, pJ, pK, pL, pM, pN, pO, pP, if_true, if_false]))); (all_goals try rfl); (all_goals try (repeat' (first | done | rfl | (exfalso; omega) | contradiction | (refine iteR (fun hq => ?_) (fun hq => ?_)))))
  · have z4 : z = 4 := by omega
    subst z4
    obtain ⟨i, hi⟩ : ∃ i : Nat, nD t a3 d.l.length = i := ⟨(nD t a3 d.l.length).toNat, by have := nD_in t a3 (n := d.l.length) (by omega); omega⟩
    have hib := nD_in t a3 (n := d.l.length) (by omega)
    have g1 := n_ok t a3 d.l.length ht (by omega) (by omega)
    rw [hi] at g1 hib
    have hlt : i < d.l.length := by omega
    obtain ⟨a4, q4⟩ : ∃ a4, a4 = (rawD t a3).2 := ⟨_, rfl⟩
    rw [← q4] at g1
    have g2 := range_ok t a4 (-1) 1 ht (by omega) (by omega) (by omega) (by omega)
    have g2b := nD_in t a4 (n := 1 - (-1) + 1) (by omega)
    obtain ⟨v, hv⟩ : ∃ v, v = (-1) + nD t a4 (1 - (-1) + 1) := ⟨_, rfl⟩
    rw [← hv] at g2
    have hvb : -2 ≤ v ∧ v ≤ 10 := by omega
    obtain ⟨e, x, y, b1, b2, b3, f1, f2, f3, f4⟩ := fin { d with l := d.l.set i ⟨d.l[i].low + v, d.l[i].high, d.l[i].shard⟩ } (rawD t a4).2 (by simp only [List.length_set]; exact hdl) (by simp only [List.length_set])
    clear fin q4 hv hi g2b hib
    have hti := tile_in d.l 0 65536 (by omega) hval.til d.l[i] (List.getElem_mem _)
    clear hval
    simp only [Int.natCast_add, Int.natCast_one, Int.natCast_zero, Int.natCast_mul, Int.cast_ofNat_Int, List.length_append, List.length_map, List.map_nil, List.length_nil, List.map_append, List.map_cons, List.length_cons, Nat.zero_add, srcO, mapSet] at hd hl hn f1 f2 f3 f4 g1 g2
    try simp only [eSpan] at f4
    rw [callL_code g_law10_DirectoryBuilt (by simp)]; simp -implicitDefEqProofs (maxSteps := 4000000) (disch := omega) only [c_law10_DirectoryBuilt, r_law10_DirectoryBuilt, getDT, go_sem, *]; (try simp only [pA, pB, pC, pD, pE, pF, pG, pH, pI, pJ, pK, pL, pM, pN, pO, pP, if_true, if_false]); repeat' (first | done | rfl | (refine iteC (fun hq => ?_) (fun hq => ?_) <;> (try (first | (exfalso; omega) | contradiction)) <;> (try simp -implicitDefEqProofs (maxSteps := 4000000) (disch := omega) only [getDT, go_sem, *]) <;> (try simp only [pA, pB, pC, pD, pE, pF, pG, pH, pI, pJ, pK, pL, pM, pN, pO, pP, if_true, if_false]))); (all_goals try rfl); (all_goals try (repeat' (first | done | rfl | (exfalso; omega) | contradiction | (refine iteR (fun hq => ?_) (fun hq => ?_)))))
end Go.Proofs.Ytkdjbfjohbiemaa
