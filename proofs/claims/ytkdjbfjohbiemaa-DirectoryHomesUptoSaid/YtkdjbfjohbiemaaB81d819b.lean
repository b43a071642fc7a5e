/-
  Directories of the reference.
  Directories of the reference: owners, spans, homes, changes.
  Directories: the first one.
  The reader of numbers.
  Directories: the first one of the reference; equality; the reader.
-/
import Derived.Test.YtkdjbfjohbiemaaBdb5de4e
set_option linter.unusedSimpArgs false
set_option linter.unusedVariables false
namespace Go.Proofs.Ytkdjbfjohbiemaa
open Go Go.Sim
set_option linter.unusedSimpArgs false
set_option linter.unusedVariables false
set_option maxHeartbeats 10000000
set_option maxRecDepth 40000
def rD (d : Directory) (o : Nat) : Nat × Go.Sim.Obj := (o, .row [.d (eDirectory d)])
theorem r10index_ok (d : Directory) (j : Int) (hL : d.l.length ≤ 4294967296) : callL G N_ref10_index [.d (eDirectory d), .d (.int .i64 j)] [] = some (.d (.int .i64 (findS d.l j)), []) := by
  have := loop_find (G := G) (x := l_ref10_index_0) (ks := []) d.l.length (atB d.l fun x => decide (x.shard = j)) (fun k => ⟨[(1, .d (.int .i64 j)), (2, .ref 2 0 0), (5, .d (.int .i64 k))], [(2, .row [.d (eDirectory d)])]⟩) (fun k => (.ret, ⟨[(4, .d (.int .i64 k))], []⟩)) (.exit 0, ⟨[], []⟩) (fun k hk L => by
    simp only [l_ref10_index_0]
    by_cases h0 : k < d.l.length
    · simp only [h0, if_true, atB_at h0]
      (try simp -implicitDefEqProofs (maxSteps := 4000000) (disch := omega) only [getDT, go_sem, *]); (try simp only [pA, pB, pC, pD, pE, pF, pG, pH, pI, pJ, pK, pL, pM, pN, pO, pP, if_true, if_false]); repeat' (first | done | rfl | (refine iteC (fun hq => ?_) (fun hq => ?_) <;> (try (first | (exfalso; omega) | contradiction)) <;> (try simp -implicitDefEqProofs (maxSteps := 4000000) (disch := omega) only [getDT, go_sem, *]) <;> (try simp only [pA, pB, pC, pD, pE, pF, pG, pH, pI, pJ, pK, pL, pM, pN, pO, pP, if_true, if_false]))); (all_goals try rfl); (all_goals try (repeat' (first | done | rfl | (exfalso; omega) | contradiction | (refine iteR (fun hq => ?_) (fun hq => ?_)))))
    · (try simp -implicitDefEqProofs (maxSteps := 4000000) (disch := omega) only [getDT, go_sem, *]); (try simp only [pA, pB, pC, pD, pE, pF, pG, pH, pI, pJ, pK, pL, pM, pN, pO, pP, if_true, if_false]); repeat' (first | done | rfl | (refine iteC (fun hq => ?_) (fun hq => ?_) <;> (try (first | (exfalso; omega) | contradiction)) <;> (try simp -implicitDefEqProofs (maxSteps := 4000000) (disch := omega) only [getDT, go_sem, *]) <;> (try simp only [pA, pB, pC, pD, pE, pF, pG, pH, pI, pJ, pK, pL, pM, pN, pO, pP, if_true, if_false]))); (all_goals try rfl); (all_goals try (repeat' (first | done | rfl | (exfalso; omega) | contradiction | (refine iteR (fun hq => ?_) (fun hq => ?_))))))
  rw [findR_idx] at this
  simp only [Int.natCast_add, Int.natCast_one, Int.natCast_zero, Int.natCast_mul, Int.cast_ofNat_Int, List.length_append, List.length_map, List.map_nil, List.length_nil, List.map_append, List.map_cons, List.length_cons, Nat.zero_add, srcO, mapSet] at this
  unfold findS idxI
  cases h : d.l.findIdx? (fun x => decide (x.shard = j)) with
  | none => rw [h] at this; clear h; rw [callL_code g_ref10_index (by simp)]; simp -implicitDefEqProofs (maxSteps := 4000000) (disch := omega) only [c_ref10_index, r_ref10_index, getDT, go_sem, *]; (try simp only [pA, pB, pC, pD, pE, pF, pG, pH, pI, pJ, pK, pL, pM, pN, pO, pP, if_true, if_false]); repeat' (first | done | rfl | (refine iteC (fun hq => ?_) (fun hq => ?_) <;> (try (first | (exfalso; omega) | contradiction)) <;> (try simp -implicitDefEqProofs (maxSteps := 4000000) (disch := omega) only [getDT, go_sem, *]) <;> (try simp only [pA, pB, pC, pD, pE, pF, pG, pH, pI, pJ, pK, pL, pM, pN, pO, pP, if_true, if_false]))); (all_goals try rfl); (all_goals try (repeat' (first | done | rfl | (exfalso; omega) | contradiction | (refine iteR (fun hq => ?_) (fun hq => ?_)))))
  | some i => rw [h] at this; clear h; rw [callL_code g_ref10_index (by simp)]; simp -implicitDefEqProofs (maxSteps := 4000000) (disch := omega) only [c_ref10_index, r_ref10_index, getDT, go_sem, *]; (try simp only [pA, pB, pC, pD, pE, pF, pG, pH, pI, pJ, pK, pL, pM, pN, pO, pP, if_true, if_false]); repeat' (first | done | rfl | (refine iteC (fun hq => ?_) (fun hq => ?_) <;> (try (first | (exfalso; omega) | contradiction)) <;> (try simp -implicitDefEqProofs (maxSteps := 4000000) (disch := omega) only [getDT, go_sem, *]) <;> (try simp only [pA, pB, pC, pD, pE, pF, pG, pH, pI, pJ, pK, pL, pM, pN, pO, pP, if_true, if_false]))); (all_goals try rfl); (all_goals try (repeat' (first | done | rfl | (exfalso; omega) | contradiction | (refine iteR (fun hq => ?_) (fun hq => ?_)))))
theorem r10v_loop0 (d : Directory) (n : Int) (hL : d.l.length ≤ 4294967296) : ∀ p : Nat × Int, p.1 ≤ d.l.length ∧ 0 ≤ p.2 ∧ p.2 ≤ 65536 → loopL G [] l_ref10_Validate_0 ⟨[(1, .ref 1 0 0), (3, .d (.int .i64 n)), (4, .d (.int .i64 p.2)), (5, .d (.int .i64 p.1))], [rD d 1]⟩ = some (match tileN p.2 (d.l.drop p.1) with | some m => (.exit 0, ⟨[(1, .ref 1 0 0), (3, .d (.int .i64 n)), (4, .d (.int .i64 m))], [rD d 1]⟩) | none => (.ret, ⟨[(2, .d (.int .i64 7))], []⟩)) := by
  refine loop_ind (fun p : Nat × Int => d.l.length - p.1) _ (fun p : Nat × Int => ⟨[(1, .ref 1 0 0), (3, .d (.int .i64 n)), (4, .d (.int .i64 p.2)), (5, .d (.int .i64 p.1))], [rD d 1]⟩) _ fun ⟨k, m⟩ ⟨hk, h1, h2⟩ L ih => ?_
  simp only at ih hk h1 h2 ⊢
  simp only [l_ref10_Validate_0, rD] at ih ⊢
  by_cases h0 : k < d.l.length
  · rw [List.drop_eq_getElem_cons h0, tileN]
    by_cases c : d.l[k].low = m ∧ d.l[k].low ≤ d.l[k].high ∧ d.l[k].high < 65536
    · have i1 := ih (k + 1, d.l[k].high + 1) ⟨by simp only; omega, by simp only; omega, by simp only; omega⟩ (by simp only; omega)
      simp only at i1
      rw [if_pos c]
      clear ih
      generalize tileN (d.l[k].high + 1) (d.l.drop (k + 1)) = z at *
      simp only [Int.natCast_add, Int.natCast_one, Int.natCast_zero, Int.natCast_mul, Int.cast_ofNat_Int, List.length_append, List.length_map, List.map_nil, List.length_nil, List.map_append, List.map_cons, List.length_cons, Nat.zero_add, srcO, mapSet] at i1
      cases z with
      | none => (try simp -implicitDefEqProofs (maxSteps := 4000000) (disch := omega) only [getDT, go_sem, *]); (try simp only [pA, pB, pC, pD, pE, pF, pG, pH, pI, pJ, pK, pL, pM, pN, pO, pP, if_true, if_false]); repeat' (first | done | rfl | (refine iteC (fun hq => ?_) (fun hq => ?_) <;> (try (first | (exfalso; omega) | contradiction)) <;> (try simp -implicitDefEqProofs (maxSteps := 4000000) (disch := omega) only [getDT, go_sem, *]) <;> (try simp only [pA, pB, pC, pD, pE, pF, pG, pH, pI, pJ, pK, pL, pM, pN, pO, pP, if_true, if_false]))); (all_goals try rfl); (all_goals try (repeat' (first | done | rfl | (exfalso; omega) | contradiction | (refine iteR (fun hq => ?_) (fun hq => ?_)))))
      | some z => (try simp -implicitDefEqProofs (maxSteps := 4000000) (disch := omega) only [getDT, go_sem, *]); (try simp only [pA, pB, pC, pD, pE, pF, pG, pH, pI, pJ, pK, pL, pM, pN, pO, pP, if_true, if_false]); repeat' (first | done | rfl | (refine iteC (fun hq => ?_) (fun hq => ?_) <;> (try (first | (exfalso; omega) | contradiction)) <;> (try simp -implicitDefEqProofs (maxSteps := 4000000) (disch := omega) only [getDT, go_sem, *]) <;> (try simp only [pA, pB, pC, pD, pE, pF, pG, pH, pI, pJ, pK, pL, pM, pN, pO, pP, if_true, if_false]))); (all_goals try rfl); (all_goals try (repeat' (first | done | rfl | (exfalso; omega) | contradiction | (refine iteR (fun hq => ?_) (fun hq => ?_)))))
    · rw [if_neg c]
      clear ih
      (try simp -implicitDefEqProofs (maxSteps := 4000000) (disch := omega) only [getDT, go_sem, *]); (try simp only [pA, pB, pC, pD, pE, pF, pG, pH, pI, pJ, pK, pL, pM, pN, pO, pP, if_true, if_false]); repeat' (first | done | rfl | (refine iteC (fun hq => ?_) (fun hq => ?_) <;> (try (first | (exfalso; omega) | contradiction)) <;> (try simp -implicitDefEqProofs (maxSteps := 4000000) (disch := omega) only [getDT, go_sem, *]) <;> (try simp only [pA, pB, pC, pD, pE, pF, pG, pH, pI, pJ, pK, pL, pM, pN, pO, pP, if_true, if_false]))); (all_goals try rfl); (all_goals try (repeat' (first | done | rfl | (exfalso; omega) | contradiction | (refine iteR (fun hq => ?_) (fun hq => ?_)))))
  · rw [List.drop_of_length_le (by omega), tileN]
    clear ih
    (try simp -implicitDefEqProofs (maxSteps := 4000000) (disch := omega) only [getDT, go_sem, *]); (try simp only [pA, pB, pC, pD, pE, pF, pG, pH, pI, pJ, pK, pL, pM, pN, pO, pP, if_true, if_false]); repeat' (first | done | rfl | (refine iteC (fun hq => ?_) (fun hq => ?_) <;> (try (first | (exfalso; omega) | contradiction)) <;> (try simp -implicitDefEqProofs (maxSteps := 4000000) (disch := omega) only [getDT, go_sem, *]) <;> (try simp only [pA, pB, pC, pD, pE, pF, pG, pH, pI, pJ, pK, pL, pM, pN, pO, pP, if_true, if_false]))); (all_goals try rfl); (all_goals try (repeat' (first | done | rfl | (exfalso; omega) | contradiction | (refine iteR (fun hq => ?_) (fun hq => ?_)))))
theorem r10v_loop1 (d : Directory) (n : Nat) (hL : d.l.length ≤ 4294967296) (hn : n ≤ 6) : loopL G [] l_ref10_Validate_1 ⟨[(1, .ref 1 0 0), (3, .d (.int .i64 n)), (7, .d (.int .i64 0))], [rD d 1]⟩ = some (if d.l.any (missB n) = true then (.ret, ⟨[(2, .d (.int .i64 4))], []⟩) else (.exit 2, ⟨[(1, .ref 1 0 0), (3, .d (.int .i64 n))], [rD d 1]⟩)) := by
  have := loop_find (G := G) (x := l_ref10_Validate_1) (ks := []) d.l.length (atB d.l (missB n)) (fun k => ⟨[(1, .ref 1 0 0), (3, .d (.int .i64 n)), (7, .d (.int .i64 k))], [rD d 1]⟩) (fun k => (.ret, ⟨[(2, .d (.int .i64 4))], []⟩)) (.exit 2, ⟨[(1, .ref 1 0 0), (3, .d (.int .i64 n))], [rD d 1]⟩) (fun k hk L => by
    simp only [l_ref10_Validate_1, rD]
    by_cases h0 : k < d.l.length
    · simp only [h0, if_true, atB_at h0]
      unfold missB
      (try simp -implicitDefEqProofs (maxSteps := 4000000) (disch := omega) only [getDT, go_sem, *]); (try simp only [pA, pB, pC, pD, pE, pF, pG, pH, pI, pJ, pK, pL, pM, pN, pO, pP, if_true, if_false]); repeat' (first | done | rfl | (refine iteC (fun hq => ?_) (fun hq => ?_) <;> (try (first | (exfalso; omega) | contradiction)) <;> (try simp -implicitDefEqProofs (maxSteps := 4000000) (disch := omega) only [getDT, go_sem, *]) <;> (try simp only [pA, pB, pC, pD, pE, pF, pG, pH, pI, pJ, pK, pL, pM, pN, pO, pP, if_true, if_false]))); (all_goals try rfl); (all_goals try (repeat' (first | done | rfl | (exfalso; omega) | contradiction | (refine iteR (fun hq => ?_) (fun hq => ?_)))))
    · (try simp -implicitDefEqProofs (maxSteps := 4000000) (disch := omega) only [getDT, go_sem, *]); (try simp only [pA, pB, pC, pD, pE, pF, pG, pH, pI, pJ, pK, pL, pM, pN, pO, pP, if_true, if_false]); repeat' (first | done | rfl | (refine iteC (fun hq => ?_) (fun hq => ?_) <;> (try (first | (exfalso; omega) | contradiction)) <;> (try simp -implicitDefEqProofs (maxSteps := 4000000) (disch := omega) only [getDT, go_sem, *]) <;> (try simp only [pA, pB, pC, pD, pE, pF, pG, pH, pI, pJ, pK, pL, pM, pN, pO, pP, if_true, if_false]))); (all_goals try rfl); (all_goals try (repeat' (first | done | rfl | (exfalso; omega) | contradiction | (refine iteR (fun hq => ?_) (fun hq => ?_))))))
  rw [findR_idx] at this
  simp only [Int.natCast_add, Int.natCast_one, Int.natCast_zero, Int.natCast_mul, Int.cast_ofNat_Int, List.length_append, List.length_map, List.map_nil, List.length_nil, List.map_append, List.map_cons, List.length_cons, Nat.zero_add, srcO, mapSet] at this
  rw [this]
  congr 1
  have e := idxI_any d.l (missB n)
  unfold idxI at e
  cases h : d.l.findIdx? (missB n) with
  | none => rw [h] at e; rw [← e]; rfl
  | some i => rw [h] at e; rw [← e]; simp
theorem r10v_loop2 (d : Directory) (n : Nat) (hL : d.l.length ≤ 4294967296) : loopL G [] l_ref10_Validate_2 ⟨[(1, .ref 1 0 0), (3, .d (.int .i64 n)), (8, .d (.int .i64 0))], [rD d 1]⟩ = some (if (List.range d.l.length).all (dupS d.l) = true then (.exit 4, ⟨[(1, .ref 1 0 0), (3, .d (.int .i64 n))], [rD d 1]⟩) else (.ret, ⟨[(2, .d (.int .i64 10))], []⟩)) := by
  refine loop_all (G := G) d.l.length (dupS d.l) (fun k => ⟨[(1, .ref 1 0 0), (3, .d (.int .i64 n)), (8, .d (.int .i64 k))], [rD d 1]⟩) _ _ fun k hk L => ?_
  simp only [l_ref10_Validate_2, rD]
  by_cases h0 : k < d.l.length
  · have hi := r10index_ok d (d.l[k]).shard hL
    simp only [h0, if_true]
    unfold dupS
    rw [getDT h0]
    (try simp -implicitDefEqProofs (maxSteps := 4000000) (disch := omega) only [getDT, go_sem, *]); (try simp only [pA, pB, pC, pD, pE, pF, pG, pH, pI, pJ, pK, pL, pM, pN, pO, pP, if_true, if_false]); repeat' (first | done | rfl | (refine iteC (fun hq => ?_) (fun hq => ?_) <;> (try (first | (exfalso; omega) | contradiction)) <;> (try simp -implicitDefEqProofs (maxSteps := 4000000) (disch := omega) only [getDT, go_sem, *]) <;> (try simp only [pA, pB, pC, pD, pE, pF, pG, pH, pI, pJ, pK, pL, pM, pN, pO, pP, if_true, if_false]))); (all_goals try rfl); (all_goals try (repeat' (first | done | rfl | (exfalso; omega) | contradiction | (refine iteR (fun hq => ?_) (fun hq => ?_)))))
  · (try simp -implicitDefEqProofs (maxSteps := 4000000) (disch := omega) only [getDT, go_sem, *]); (try simp only [pA, pB, pC, pD, pE, pF, pG, pH, pI, pJ, pK, pL, pM, pN, pO, pP, if_true, if_false]); repeat' (first | done | rfl | (refine iteC (fun hq => ?_) (fun hq => ?_) <;> (try (first | (exfalso; omega) | contradiction)) <;> (try simp -implicitDefEqProofs (maxSteps := 4000000) (disch := omega) only [getDT, go_sem, *]) <;> (try simp only [pA, pB, pC, pD, pE, pF, pG, pH, pI, pJ, pK, pL, pM, pN, pO, pP, if_true, if_false]))); (all_goals try rfl); (all_goals try (repeat' (first | done | rfl | (exfalso; omega) | contradiction | (refine iteR (fun hq => ?_) (fun hq => ?_)))))
theorem r10v_loop3 (d : Directory) (hL : d.l.length ≤ 4294967296) (hF : d.forward.length ≤ 6) : loopL G [] l_ref10_Validate_3 ⟨[(1, .ref 1 0 0), (3, .d (.int .i64 d.forward.length)), (9, .d (.int .i64 0))], [rD d 1]⟩ = some (if (List.range d.forward.length).all (fwdAt d) = true then (.exit 6, ⟨[(1, .ref 1 0 0), (3, .d (.int .i64 d.forward.length))], [rD d 1]⟩) else (.ret, ⟨[(2, .d (.int .i64 7))], []⟩)) := by
  refine loop_all (G := G) d.forward.length (fwdAt d) (fun k => ⟨[(1, .ref 1 0 0), (3, .d (.int .i64 d.forward.length)), (9, .d (.int .i64 k))], [rD d 1]⟩) _ _ fun k hk L => ?_
  simp only [l_ref10_Validate_3, rD]
  by_cases h0 : k < d.forward.length
  · have hi := r10index_ok d k hL
    simp only [h0, if_true]
    unfold fwdAt
    rw [getDT h0]
    (try simp -implicitDefEqProofs (maxSteps := 4000000) (disch := omega) only [getDT, go_sem, *]); (try simp only [pA, pB, pC, pD, pE, pF, pG, pH, pI, pJ, pK, pL, pM, pN, pO, pP, if_true, if_false]); repeat' (first | done | rfl | (refine iteC (fun hq => ?_) (fun hq => ?_) <;> (try (first | (exfalso; omega) | contradiction)) <;> (try simp -implicitDefEqProofs (maxSteps := 4000000) (disch := omega) only [getDT, go_sem, *]) <;> (try simp only [pA, pB, pC, pD, pE, pF, pG, pH, pI, pJ, pK, pL, pM, pN, pO, pP, if_true, if_false]))); (all_goals try rfl); (all_goals try (repeat' (first | done | rfl | (exfalso; omega) | contradiction | (refine iteR (fun hq => ?_) (fun hq => ?_)))))
  · (try simp -implicitDefEqProofs (maxSteps := 4000000) (disch := omega) only [getDT, go_sem, *]); (try simp only [pA, pB, pC, pD, pE, pF, pG, pH, pI, pJ, pK, pL, pM, pN, pO, pP, if_true, if_false]); repeat' (first | done | rfl | (refine iteC (fun hq => ?_) (fun hq => ?_) <;> (try (first | (exfalso; omega) | contradiction)) <;> (try simp -implicitDefEqProofs (maxSteps := 4000000) (disch := omega) only [getDT, go_sem, *]) <;> (try simp only [pA, pB, pC, pD, pE, pF, pG, pH, pI, pJ, pK, pL, pM, pN, pO, pP, if_true, if_false]))); (all_goals try rfl); (all_goals try (repeat' (first | done | rfl | (exfalso; omega) | contradiction | (refine iteR (fun hq => ?_) (fun hq => ?_)))))
theorem chase_neg (F : List Int) : ∀ (m : Nat) (a : Int), a < 0 → chase F m a = a
  | 0, a, _ => rfl
  | m + 1, a, h => by rw [chase, if_neg (by omega), chase_neg F m a h]
theorem r10v_loop4 (d : Directory) (i : Nat) (hF : d.forward.length ≤ 6) (hv : ∀ a ∈ d.forward, -1 ≤ a ∧ a < d.forward.length) : ∀ p : Nat × Int, p.1 ≤ d.forward.length ∧ -1 ≤ p.2 ∧ p.2 < d.forward.length → loopL G [] l_ref10_Validate_4 ⟨[(1, .ref 1 0 0), (3, .d (.int .i64 d.forward.length)), (10, .d (.int .i64 i)), (11, .d (.int .i64 p.2)), (12, .d (.int .i64 p.1))], [rD d 1]⟩ = some (.exit 10, ⟨[(1, .ref 1 0 0), (3, .d (.int .i64 d.forward.length)), (10, .d (.int .i64 i)), (11, .d (.int .i64 (chase d.forward (d.forward.length - p.1) p.2)))], [rD d 1]⟩) := by
  refine loop_ind (fun p : Nat × Int => d.forward.length - p.1) _ (fun p : Nat × Int => ⟨[(1, .ref 1 0 0), (3, .d (.int .i64 d.forward.length)), (10, .d (.int .i64 i)), (11, .d (.int .i64 p.2)), (12, .d (.int .i64 p.1))], [rD d 1]⟩) _ fun ⟨k, a⟩ ⟨hk, h1, h2⟩ L ih => ?_
  simp only [rD] at ih hk h1 h2 ⊢
  simp only [l_ref10_Validate_4]
  by_cases h0 : k < d.forward.length
  · by_cases c1 : 0 ≤ a
    · have hlt : a.toNat < d.forward.length := by omega
      have hm := hv (d.forward[a.toNat]) (List.getElem_mem _)
      have i1 := ih (k + 1, d.forward[a.toNat]) ⟨by simp only; omega, by simp only; omega, by simp only; omega⟩ (by simp only; omega)
      rw [show d.forward.length - k = (d.forward.length - (k + 1)) + 1 by omega, chase, if_pos c1, getDT hlt]
      simp only at i1
      generalize chase d.forward (d.forward.length - (k + 1)) d.forward[a.toNat] = z at *
      clear ih hv
      simp only [Int.natCast_add, Int.natCast_one, Int.natCast_zero, Int.natCast_mul, Int.cast_ofNat_Int, List.length_append, List.length_map, List.map_nil, List.length_nil, List.map_append, List.map_cons, List.length_cons, Nat.zero_add, srcO, mapSet] at i1
      (try simp -implicitDefEqProofs (maxSteps := 4000000) (disch := omega) only [getDT, go_sem, *]); (try simp only [pA, pB, pC, pD, pE, pF, pG, pH, pI, pJ, pK, pL, pM, pN, pO, pP, if_true, if_false]); repeat' (first | done | rfl | (refine iteC (fun hq => ?_) (fun hq => ?_) <;> (try (first | (exfalso; omega) | contradiction)) <;> (try simp -implicitDefEqProofs (maxSteps := 4000000) (disch := omega) only [getDT, go_sem, *]) <;> (try simp only [pA, pB, pC, pD, pE, pF, pG, pH, pI, pJ, pK, pL, pM, pN, pO, pP, if_true, if_false]))); (all_goals try rfl); (all_goals try (repeat' (first | done | rfl | (exfalso; omega) | contradiction | (refine iteR (fun hq => ?_) (fun hq => ?_)))))
    · rw [chase_neg _ _ _ (by omega)]
      clear ih hv
      (try simp -implicitDefEqProofs (maxSteps := 4000000) (disch := omega) only [getDT, go_sem, *]); (try simp only [pA, pB, pC, pD, pE, pF, pG, pH, pI, pJ, pK, pL, pM, pN, pO, pP, if_true, if_false]); repeat' (first | done | rfl | (refine iteC (fun hq => ?_) (fun hq => ?_) <;> (try (first | (exfalso; omega) | contradiction)) <;> (try simp -implicitDefEqProofs (maxSteps := 4000000) (disch := omega) only [getDT, go_sem, *]) <;> (try simp only [pA, pB, pC, pD, pE, pF, pG, pH, pI, pJ, pK, pL, pM, pN, pO, pP, if_true, if_false]))); (all_goals try rfl); (all_goals try (repeat' (first | done | rfl | (exfalso; omega) | contradiction | (refine iteR (fun hq => ?_) (fun hq => ?_)))))
  · rw [show d.forward.length - k = 0 by omega, chase]
    clear ih hv
    (try simp -implicitDefEqProofs (maxSteps := 4000000) (disch := omega) only [getDT, go_sem, *]); (try simp only [pA, pB, pC, pD, pE, pF, pG, pH, pI, pJ, pK, pL, pM, pN, pO, pP, if_true, if_false]); repeat' (first | done | rfl | (refine iteC (fun hq => ?_) (fun hq => ?_) <;> (try (first | (exfalso; omega) | contradiction)) <;> (try simp -implicitDefEqProofs (maxSteps := 4000000) (disch := omega) only [getDT, go_sem, *]) <;> (try simp only [pA, pB, pC, pD, pE, pF, pG, pH, pI, pJ, pK, pL, pM, pN, pO, pP, if_true, if_false]))); (all_goals try rfl); (all_goals try (repeat' (first | done | rfl | (exfalso; omega) | contradiction | (refine iteR (fun hq => ?_) (fun hq => ?_)))))
theorem r10v_loop5 (d : Directory) (hF : d.forward.length ≤ 6) (hv : ∀ a ∈ d.forward, -1 ≤ a ∧ a < d.forward.length) : loopL G [] l_ref10_Validate_5 ⟨[(1, .ref 1 0 0), (3, .d (.int .i64 d.forward.length)), (10, .d (.int .i64 0))], [rD d 1]⟩ = some (if ((List.range d.forward.length).all fun i => decide (chase d.forward d.forward.length i < 0)) = true then (.exit 8, ⟨[], []⟩) else (.ret, ⟨[(2, .d (.int .i64 7))], []⟩)) := by
  refine loop_all (G := G) d.forward.length (fun i => decide (chase d.forward d.forward.length i < 0)) (fun k => ⟨[(1, .ref 1 0 0), (3, .d (.int .i64 d.forward.length)), (10, .d (.int .i64 k))], [rD d 1]⟩) _ _ fun k hk L => ?_
  by_cases h0 : k < d.forward.length
  · have hl := r10v_loop4 d k hF hv (0, k) ⟨by omega, by omega, by omega⟩
    simp only [Nat.sub_zero, rD] at hl
    simp only [l_ref10_Validate_5, rD, h0, if_true]
    generalize chase d.forward d.forward.length k = z at *
    clear hv
    simp only [Int.natCast_add, Int.natCast_one, Int.natCast_zero, Int.natCast_mul, Int.cast_ofNat_Int, List.length_append, List.length_map, List.map_nil, List.length_nil, List.map_append, List.map_cons, List.length_cons, Nat.zero_add, srcO, mapSet] at hl
    (try simp -implicitDefEqProofs (maxSteps := 4000000) (disch := omega) only [getDT, go_sem, *]); (try simp only [pA, pB, pC, pD, pE, pF, pG, pH, pI, pJ, pK, pL, pM, pN, pO, pP, if_true, if_false]); repeat' (first | done | rfl | (refine iteC (fun hq => ?_) (fun hq => ?_) <;> (try (first | (exfalso; omega) | contradiction)) <;> (try simp -implicitDefEqProofs (maxSteps := 4000000) (disch := omega) only [getDT, go_sem, *]) <;> (try simp only [pA, pB, pC, pD, pE, pF, pG, pH, pI, pJ, pK, pL, pM, pN, pO, pP, if_true, if_false]))); (all_goals try rfl); (all_goals try (repeat' (first | done | rfl | (exfalso; omega) | contradiction | (refine iteR (fun hq => ?_) (fun hq => ?_)))))
  · clear hv
    simp only [l_ref10_Validate_5, rD]
    (try simp -implicitDefEqProofs (maxSteps := 4000000) (disch := omega) only [getDT, go_sem, *]); (try simp only [pA, pB, pC, pD, pE, pF, pG, pH, pI, pJ, pK, pL, pM, pN, pO, pP, if_true, if_false]); repeat' (first | done | rfl | (refine iteC (fun hq => ?_) (fun hq => ?_) <;> (try (first | (exfalso; omega) | contradiction)) <;> (try simp -implicitDefEqProofs (maxSteps := 4000000) (disch := omega) only [getDT, go_sem, *]) <;> (try simp only [pA, pB, pC, pD, pE, pF, pG, pH, pI, pJ, pK, pL, pM, pN, pO, pP, if_true, if_false]))); (all_goals try rfl); (all_goals try (repeat' (first | done | rfl | (exfalso; omega) | contradiction | (refine iteR (fun hq => ?_) (fun hq => ?_)))))
theorem r10val_ok (d : Directory) (hL : d.l.length ≤ 4294967296) : callL G N_ref10_Validate [.d (eDirectory d)] [] = some (.d (.int .i64 (dirV d)), []) := by
  have l0 := fun n => r10v_loop0 d n hL (0, 0) ⟨by omega, by omega, by omega⟩
  simp only [List.drop_zero, rD, Int.natCast_zero] at l0
  unfold dirV
  by_cases c1 : d.version < 1 ∨ 1099511627776 < d.version ∨ d.forward.length < 1 ∨ 6 < d.forward.length
  · rw [if_pos c1]
    clear l0
    rw [callL_code g_ref10_Validate (by simp)]; simp -implicitDefEqProofs (maxSteps := 4000000) (disch := omega) only [c_ref10_Validate, r_ref10_Validate, getDT, go_sem, *]; (try simp only [pA, pB, pC, pD, pE, pF, pG, pH, pI, pJ, pK, pL, pM, pN, pO, pP, if_true, if_false]); repeat' (first | done | rfl | (refine iteC (fun hq => ?_) (fun hq => ?_) <;> (try (first | (exfalso; omega) | contradiction)) <;> (try simp -implicitDefEqProofs (maxSteps := 4000000) (disch := omega) only [getDT, go_sem, *]) <;> (try simp only [pA, pB, pC, pD, pE, pF, pG, pH, pI, pJ, pK, pL, pM, pN, pO, pP, if_true, if_false]))); (all_goals try rfl); (all_goals try (repeat' (first | done | rfl | (exfalso; omega) | contradiction | (refine iteR (fun hq => ?_) (fun hq => ?_)))))
  rw [if_neg c1]
  have l1 := r10v_loop1 d d.forward.length hL (by omega)
  have l2 := r10v_loop2 d d.forward.length hL
  have l3 := r10v_loop3 d hL (by omega)
  simp only [rD] at l1 l2 l3
  replace l0 := l0 d.forward.length
  by_cases c2 : tileN 0 d.l = some 65536
  · rw [if_neg (by simp [c2])]
    rw [c2] at l0
    simp only at l0
    cases c3 : d.l.any (missB d.forward.length)
    · rw [c3, if_neg (by simp)] at l1
      rw [if_neg (by simp)]
      cases c4 : (List.range d.l.length).all (dupS d.l)
      · rw [c4, if_neg (by simp)] at l2
        rw [if_pos rfl]
        clear c2 c3 c4 l3
        rw [callL_code g_ref10_Validate (by simp)]; simp -implicitDefEqProofs (maxSteps := 4000000) (disch := omega) only [c_ref10_Validate, r_ref10_Validate, getDT, go_sem, *]; (try simp only [pA, pB, pC, pD, pE, pF, pG, pH, pI, pJ, pK, pL, pM, pN, pO, pP, if_true, if_false]); repeat' (first | done | rfl | (refine iteC (fun hq => ?_) (fun hq => ?_) <;> (try (first | (exfalso; omega) | contradiction)) <;> (try simp -implicitDefEqProofs (maxSteps := 4000000) (disch := omega) only [getDT, go_sem, *]) <;> (try simp only [pA, pB, pC, pD, pE, pF, pG, pH, pI, pJ, pK, pL, pM, pN, pO, pP, if_true, if_false]))); (all_goals try rfl); (all_goals try (repeat' (first | done | rfl | (exfalso; omega) | contradiction | (refine iteR (fun hq => ?_) (fun hq => ?_)))))
      · rw [c4, if_pos rfl] at l2
        rw [if_neg (by simp)]
        unfold fwdOk
        cases c5 : (List.range d.forward.length).all (fwdAt d)
        · rw [c5, if_neg (by simp)] at l3
          rw [Bool.false_and, if_pos rfl]
          clear c2 c3 c4 c5
          rw [callL_code g_ref10_Validate (by simp)]; simp -implicitDefEqProofs (maxSteps := 4000000) (disch := omega) only [c_ref10_Validate, r_ref10_Validate, getDT, go_sem, *]; (try simp only [pA, pB, pC, pD, pE, pF, pG, pH, pI, pJ, pK, pL, pM, pN, pO, pP, if_true, if_false]); repeat' (first | done | rfl | (refine iteC (fun hq => ?_) (fun hq => ?_) <;> (try (first | (exfalso; omega) | contradiction)) <;> (try simp -implicitDefEqProofs (maxSteps := 4000000) (disch := omega) only [getDT, go_sem, *]) <;> (try simp only [pA, pB, pC, pD, pE, pF, pG, pH, pI, pJ, pK, pL, pM, pN, pO, pP, if_true, if_false]))); (all_goals try rfl); (all_goals try (repeat' (first | done | rfl | (exfalso; omega) | contradiction | (refine iteR (fun hq => ?_) (fun hq => ?_)))))
        · rw [c5, if_pos rfl] at l3
          rw [Bool.true_and]
          have l5 := r10v_loop5 d (by omega) (by
            intro a ha
            obtain ⟨i, hi, e⟩ := List.getElem_of_mem ha
            have := (List.all_eq_true.1 c5) i (List.mem_range.2 hi)
            unfold fwdAt at this
            rw [getDT hi, e] at this
            simp only [Bool.not_eq_true', Bool.or_eq_false_iff, decide_eq_false_iff_not] at this
            omega)
          simp only [rD] at l5
          cases c6 : (List.range d.forward.length).all fun i => decide (chase d.forward d.forward.length i < 0)
          · rw [c6, if_neg (by simp)] at l5
            rw [if_pos rfl]
            clear c2 c3 c4 c5 c6
            rw [callL_code g_ref10_Validate (by simp)]; simp -implicitDefEqProofs (maxSteps := 4000000) (disch := omega) only [c_ref10_Validate, r_ref10_Validate, getDT, go_sem, *]; (try simp only [pA, pB, pC, pD, pE, pF, pG, pH, pI, pJ, pK, pL, pM, pN, pO, pP, if_true, if_false]); repeat' (first | done | rfl | (refine iteC (fun hq => ?_) (fun hq => ?_) <;> (try (first | (exfalso; omega) | contradiction)) <;> (try simp -implicitDefEqProofs (maxSteps := 4000000) (disch := omega) only [getDT, go_sem, *]) <;> (try simp only [pA, pB, pC, pD, pE, pF, pG, pH, pI, pJ, pK, pL, pM, pN, pO, pP, if_true, if_false]))); (all_goals try rfl); (all_goals try (repeat' (first | done | rfl | (exfalso; omega) | contradiction | (refine iteR (fun hq => ?_) (fun hq => ?_)))))
          · rw [c6, if_pos rfl] at l5
            rw [if_neg (by simp)]
            clear c2 c3 c4 c5 c6
            rw [callL_code g_ref10_Validate (by simp)]; simp -implicitDefEqProofs (maxSteps := 4000000) (disch := omega) only [c_ref10_Validate, r_ref10_Validate, getDT, go_sem, *]; (try simp only [pA, pB, pC, pD, pE, pF, pG, pH, pI, pJ, pK, pL, pM, pN, pO, pP, if_true, if_false]); repeat' (first | done | rfl | (refine iteC (fun hq => ?_) (fun hq => ?_) <;> (try (first | (exfalso; omega) | contradiction)) <;> (try simp -implicitDefEqProofs (maxSteps := 4000000) (disch := omega) only [getDT, go_sem, *]) <;> (try simp only [pA, pB, pC, pD, pE, pF, pG, pH, pI, pJ, pK, pL, pM, pN, pO, pP, if_true, if_false]))); (all_goals try rfl); (all_goals try (repeat' (first | done | rfl | (exfalso; omega) | contradiction | (refine iteR (fun hq => ?_) (fun hq => ?_)))))
    · rw [c3, if_pos rfl] at l1
      rw [if_pos rfl]
      clear c2 c3 l2 l3
      rw [callL_code g_ref10_Validate (by simp)]; simp -implicitDefEqProofs (maxSteps := 4000000) (disch := omega) only [c_ref10_Validate, r_ref10_Validate, getDT, go_sem, *]; (try simp only [pA, pB, pC, pD, pE, pF, pG, pH, pI, pJ, pK, pL, pM, pN, pO, pP, if_true, if_false]); repeat' (first | done | rfl | (refine iteC (fun hq => ?_) (fun hq => ?_) <;> (try (first | (exfalso; omega) | contradiction)) <;> (try simp -implicitDefEqProofs (maxSteps := 4000000) (disch := omega) only [getDT, go_sem, *]) <;> (try simp only [pA, pB, pC, pD, pE, pF, pG, pH, pI, pJ, pK, pL, pM, pN, pO, pP, if_true, if_false]))); (all_goals try rfl); (all_goals try (repeat' (first | done | rfl | (exfalso; omega) | contradiction | (refine iteR (fun hq => ?_) (fun hq => ?_)))))
  · rw [if_pos c2]
    cases c3 : tileN 0 d.l with
    | none =>
      rw [c3] at l0
      simp only at l0
      clear c2 c3 l1 l2 l3
      rw [callL_code g_ref10_Validate (by simp)]; simp -implicitDefEqProofs (maxSteps := 4000000) (disch := omega) only [c_ref10_Validate, r_ref10_Validate, getDT, go_sem, *]; (try simp only [pA, pB, pC, pD, pE, pF, pG, pH, pI, pJ, pK, pL, pM, pN, pO, pP, if_true, if_false]); repeat' (first | done | rfl | (refine iteC (fun hq => ?_) (fun hq => ?_) <;> (try (first | (exfalso; omega) | contradiction)) <;> (try simp -implicitDefEqProofs (maxSteps := 4000000) (disch := omega) only [getDT, go_sem, *]) <;> (try simp only [pA, pB, pC, pD, pE, pF, pG, pH, pI, pJ, pK, pL, pM, pN, pO, pP, if_true, if_false]))); (all_goals try rfl); (all_goals try (repeat' (first | done | rfl | (exfalso; omega) | contradiction | (refine iteR (fun hq => ?_) (fun hq => ?_)))))
    | some m =>
      rw [c3] at l0
      simp only at l0
      have hm : ¬ m = 65536 := fun e => c2 (by rw [c3, e])
      clear c2 c3 l1 l2 l3
      rw [callL_code g_ref10_Validate (by simp)]; simp -implicitDefEqProofs (maxSteps := 4000000) (disch := omega) only [c_ref10_Validate, r_ref10_Validate, getDT, go_sem, *]; (try simp only [pA, pB, pC, pD, pE, pF, pG, pH, pI, pJ, pK, pL, pM, pN, pO, pP, if_true, if_false]); repeat' (first | done | rfl | (refine iteC (fun hq => ?_) (fun hq => ?_) <;> (try (first | (exfalso; omega) | contradiction)) <;> (try simp -implicitDefEqProofs (maxSteps := 4000000) (disch := omega) only [getDT, go_sem, *]) <;> (try simp only [pA, pB, pC, pD, pE, pF, pG, pH, pI, pJ, pK, pL, pM, pN, pO, pP, if_true, if_false]))); (all_goals try rfl); (all_goals try (repeat' (first | done | rfl | (exfalso; omega) | contradiction | (refine iteR (fun hq => ?_) (fun hq => ?_)))))
end Go.Proofs.Ytkdjbfjohbiemaa

namespace Go.Proofs.Ytkdjbfjohbiemaa
open Go Go.Sim
set_option linter.unusedSimpArgs false
set_option linter.unusedVariables false
set_option maxHeartbeats 10000000
set_option maxRecDepth 40000
def inS (r : Int) (x : Span) : Bool := decide (x.low ≤ r) && decide (r ≤ x.high)
def ownerD (d : Directory) (r : Int) : Int := if dirV d = 0 then (match d.l.findIdx? (inS r) with | some i => (d.l.getD i zSpan).shard | none => -1) else -1
theorem r10owner_loop (d : Directory) (r : Int) (hL : d.l.length ≤ 4294967296) (hv : dirV d = 0) : loopL G [] l_ref10_Owner_0 ⟨[(1, .d (.int .i64 r)), (2, .ref 2 0 0), (5, .d (.int .i64 0))], [rD d 2]⟩ = some (findR d.l.length (atB d.l (inS r)) (fun k => (.ret, ⟨[(4, .d (.int .i64 (d.l.getD k zSpan).shard))], []⟩)) (.exit 0, ⟨[], []⟩)) := by
  have hval := r10val_ok d hL
  rw [hv] at hval
  refine loop_find (G := G) d.l.length (atB d.l (inS r)) (fun k => ⟨[(1, .d (.int .i64 r)), (2, .ref 2 0 0), (5, .d (.int .i64 k))], [rD d 2]⟩) _ _ fun k hk L => ?_
  clear hv
  simp only [l_ref10_Owner_0, rD]
  by_cases h0 : k < d.l.length
  · simp only [h0, if_true, atB_at h0]
    unfold inS
    (try simp -implicitDefEqProofs (maxSteps := 4000000) (disch := omega) only [getDT, go_sem, *]); (try simp only [pA, pB, pC, pD, pE, pF, pG, pH, pI, pJ, pK, pL, pM, pN, pO, pP, if_true, if_false]); repeat' (first | done | rfl | (refine iteC (fun hq => ?_) (fun hq => ?_) <;> (try (first | (exfalso; omega) | contradiction)) <;> (try simp -implicitDefEqProofs (maxSteps := 4000000) (disch := omega) only [getDT, go_sem, *]) <;> (try simp only [pA, pB, pC, pD, pE, pF, pG, pH, pI, pJ, pK, pL, pM, pN, pO, pP, if_true, if_false]))); (all_goals try rfl); (all_goals try (repeat' (first | done | rfl | (exfalso; omega) | contradiction | (refine iteR (fun hq => ?_) (fun hq => ?_)))))
  · (try simp -implicitDefEqProofs (maxSteps := 4000000) (disch := omega) only [getDT, go_sem, *]); (try simp only [pA, pB, pC, pD, pE, pF, pG, pH, pI, pJ, pK, pL, pM, pN, pO, pP, if_true, if_false]); repeat' (first | done | rfl | (refine iteC (fun hq => ?_) (fun hq => ?_) <;> (try (first | (exfalso; omega) | contradiction)) <;> (try simp -implicitDefEqProofs (maxSteps := 4000000) (disch := omega) only [getDT, go_sem, *]) <;> (try simp only [pA, pB, pC, pD, pE, pF, pG, pH, pI, pJ, pK, pL, pM, pN, pO, pP, if_true, if_false]))); (all_goals try rfl); (all_goals try (repeat' (first | done | rfl | (exfalso; omega) | contradiction | (refine iteR (fun hq => ?_) (fun hq => ?_)))))
theorem r10owner_ok (d : Directory) (r : Int) (hL : d.l.length ≤ 4294967296) : callL G N_ref10_Owner [.d (eDirectory d), .d (.int .i64 r)] [] = some (.d (.int .i64 (ownerD d r)), []) := by
  unfold ownerD
  by_cases c : dirV d = 0
  · have hl := r10owner_loop d r hL c
    rw [findR_idx] at hl
    rw [if_pos c]
    simp only [rD] at hl
    cases h : d.l.findIdx? (inS r) with
    | none => rw [h] at hl; clear h c; rw [callL_code g_ref10_Owner (by simp)]; simp -implicitDefEqProofs (maxSteps := 4000000) (disch := omega) only [c_ref10_Owner, r_ref10_Owner, getDT, go_sem, *]; (try simp only [pA, pB, pC, pD, pE, pF, pG, pH, pI, pJ, pK, pL, pM, pN, pO, pP, if_true, if_false]); repeat' (first | done | rfl | (refine iteC (fun hq => ?_) (fun hq => ?_) <;> (try (first | (exfalso; omega) | contradiction)) <;> (try simp -implicitDefEqProofs (maxSteps := 4000000) (disch := omega) only [getDT, go_sem, *]) <;> (try simp only [pA, pB, pC, pD, pE, pF, pG, pH, pI, pJ, pK, pL, pM, pN, pO, pP, if_true, if_false]))); (all_goals try rfl); (all_goals try (repeat' (first | done | rfl | (exfalso; omega) | contradiction | (refine iteR (fun hq => ?_) (fun hq => ?_)))))
    | some i => rw [h] at hl; clear h c; rw [callL_code g_ref10_Owner (by simp)]; simp -implicitDefEqProofs (maxSteps := 4000000) (disch := omega) only [c_ref10_Owner, r_ref10_Owner, getDT, go_sem, *]; (try simp only [pA, pB, pC, pD, pE, pF, pG, pH, pI, pJ, pK, pL, pM, pN, pO, pP, if_true, if_false]); repeat' (first | done | rfl | (refine iteC (fun hq => ?_) (fun hq => ?_) <;> (try (first | (exfalso; omega) | contradiction)) <;> (try simp -implicitDefEqProofs (maxSteps := 4000000) (disch := omega) only [getDT, go_sem, *]) <;> (try simp only [pA, pB, pC, pD, pE, pF, pG, pH, pI, pJ, pK, pL, pM, pN, pO, pP, if_true, if_false]))); (all_goals try rfl); (all_goals try (repeat' (first | done | rfl | (exfalso; omega) | contradiction | (refine iteR (fun hq => ?_) (fun hq => ?_)))))
  · rw [if_neg c]
    have hval := r10val_ok d hL
    by_cases h0 : 0 < d.l.length
    · rw [callL_code g_ref10_Owner (by simp)]; simp -implicitDefEqProofs (maxSteps := 4000000) (disch := omega) only [c_ref10_Owner, r_ref10_Owner, loopL_eq, l_ref10_Owner_0, getDT, go_sem, *]; (try simp only [pA, pB, pC, pD, pE, pF, pG, pH, pI, pJ, pK, pL, pM, pN, pO, pP, if_true, if_false]); repeat' (first | done | rfl | (refine iteC (fun hq => ?_) (fun hq => ?_) <;> (try (first | (exfalso; omega) | contradiction)) <;> (try simp -implicitDefEqProofs (maxSteps := 4000000) (disch := omega) only [loopL_eq, l_ref10_Owner_0, getDT, go_sem, *]) <;> (try simp only [pA, pB, pC, pD, pE, pF, pG, pH, pI, pJ, pK, pL, pM, pN, pO, pP, if_true, if_false]))); (all_goals try rfl); (all_goals try (repeat' (first | done | rfl | (exfalso; omega) | contradiction | (refine iteR (fun hq => ?_) (fun hq => ?_)))))
    · rw [callL_code g_ref10_Owner (by simp)]; simp -implicitDefEqProofs (maxSteps := 4000000) (disch := omega) only [c_ref10_Owner, r_ref10_Owner, loopL_eq, l_ref10_Owner_0, getDT, go_sem, *]; (try simp only [pA, pB, pC, pD, pE, pF, pG, pH, pI, pJ, pK, pL, pM, pN, pO, pP, if_true, if_false]); repeat' (first | done | rfl | (refine iteC (fun hq => ?_) (fun hq => ?_) <;> (try (first | (exfalso; omega) | contradiction)) <;> (try simp -implicitDefEqProofs (maxSteps := 4000000) (disch := omega) only [loopL_eq, l_ref10_Owner_0, getDT, go_sem, *]) <;> (try simp only [pA, pB, pC, pD, pE, pF, pG, pH, pI, pJ, pK, pL, pM, pN, pO, pP, if_true, if_false]))); (all_goals try rfl); (all_goals try (repeat' (first | done | rfl | (exfalso; omega) | contradiction | (refine iteR (fun hq => ?_) (fun hq => ?_)))))
theorem r10span_ok (d : Directory) (j : Int) (hL : d.l.length ≤ 4294967296) : callL G N_ref10_Span [.d (eDirectory d), .d (.int .i64 j)] [] = some (.d (.tup [eSpan (spanD d j).1, .bool (spanD d j).2]), []) := by
  have hval := r10val_ok d hL
  have hi := r10index_ok d j hL
  have hb := idxI_lt d.l (fun x => decide (x.shard = j))
  change -1 ≤ findS d.l j ∧ findS d.l j < d.l.length at hb
  unfold spanD
  by_cases c : dirV d = 0 ∧ 0 ≤ findS d.l j
  · obtain ⟨c1, c2⟩ := c
    rw [c1] at hval
    rw [if_pos ⟨c1, c2⟩]
    clear c1
    rw [callL_code g_ref10_Span (by simp)]; simp -implicitDefEqProofs (maxSteps := 4000000) (disch := omega) only [c_ref10_Span, r_ref10_Span, getDT, go_sem, *]; (try simp only [pA, pB, pC, pD, pE, pF, pG, pH, pI, pJ, pK, pL, pM, pN, pO, pP, if_true, if_false]); repeat' (first | done | rfl | (refine iteC (fun hq => ?_) (fun hq => ?_) <;> (try (first | (exfalso; omega) | contradiction)) <;> (try simp -implicitDefEqProofs (maxSteps := 4000000) (disch := omega) only [getDT, go_sem, *]) <;> (try simp only [pA, pB, pC, pD, pE, pF, pG, pH, pI, pJ, pK, pL, pM, pN, pO, pP, if_true, if_false]))); (all_goals try rfl); (all_goals try (repeat' (first | done | rfl | (exfalso; omega) | contradiction | (refine iteR (fun hq => ?_) (fun hq => ?_)))))
  · rw [if_neg c]
    by_cases c1 : dirV d = 0
    · have c2 : ¬ 0 ≤ findS d.l j := fun h => c ⟨c1, h⟩
      rw [c1] at hval
      clear c c1
      rw [callL_code g_ref10_Span (by simp)]; simp -implicitDefEqProofs (maxSteps := 4000000) (disch := omega) only [c_ref10_Span, r_ref10_Span, getDT, go_sem, *]; (try simp only [pA, pB, pC, pD, pE, pF, pG, pH, pI, pJ, pK, pL, pM, pN, pO, pP, if_true, if_false]); repeat' (first | done | rfl | (refine iteC (fun hq => ?_) (fun hq => ?_) <;> (try (first | (exfalso; omega) | contradiction)) <;> (try simp -implicitDefEqProofs (maxSteps := 4000000) (disch := omega) only [getDT, go_sem, *]) <;> (try simp only [pA, pB, pC, pD, pE, pF, pG, pH, pI, pJ, pK, pL, pM, pN, pO, pP, if_true, if_false]))); (all_goals try rfl); (all_goals try (repeat' (first | done | rfl | (exfalso; omega) | contradiction | (refine iteR (fun hq => ?_) (fun hq => ?_)))))
    · clear c
      rw [callL_code g_ref10_Span (by simp)]; simp -implicitDefEqProofs (maxSteps := 4000000) (disch := omega) only [c_ref10_Span, r_ref10_Span, getDT, go_sem, *]; (try simp only [pA, pB, pC, pD, pE, pF, pG, pH, pI, pJ, pK, pL, pM, pN, pO, pP, if_true, if_false]); repeat' (first | done | rfl | (refine iteC (fun hq => ?_) (fun hq => ?_) <;> (try (first | (exfalso; omega) | contradiction)) <;> (try simp -implicitDefEqProofs (maxSteps := 4000000) (disch := omega) only [getDT, go_sem, *]) <;> (try simp only [pA, pB, pC, pD, pE, pF, pG, pH, pI, pJ, pK, pL, pM, pN, pO, pP, if_true, if_false]))); (all_goals try rfl); (all_goals try (repeat' (first | done | rfl | (exfalso; omega) | contradiction | (refine iteR (fun hq => ?_) (fun hq => ?_)))))
def homeF (d : Directory) : Nat → Int → Int
  | 0, a => a
  | m + 1, a => if 0 ≤ a ∧ findS d.l a < 0 then homeF d m (d.forward.getD a.toNat 0) else a
def homeD (d : Directory) (a : Int) : Int := if dirV d ≠ 0 ∨ a < 0 ∨ (d.forward.length : Int) ≤ a then -1 else homeF d d.forward.length a
theorem fwd_in {d : Directory} (h : dirV d = 0) : d.forward.length ≤ 6 ∧ d.l.length ≤ 4294967296 → (∀ a ∈ d.forward, -1 ≤ a ∧ a < d.forward.length) ∧ ∀ i : Nat, i < d.forward.length → chase d.forward d.forward.length i < 0 := by
  intro _
  unfold dirV at h
  split at h
  · cases h
  split at h
  · cases h
  split at h
  · cases h
  split at h
  · cases h
  split at h
  · cases h
  rename_i h5
  simp only [Bool.not_eq_false] at h5
  unfold fwdOk at h5
  rw [Bool.and_eq_true] at h5
  refine ⟨fun a ha => ?_, fun i hi => by simpa using (List.all_eq_true.1 h5.2) i (List.mem_range.2 hi)⟩
  obtain ⟨i, hi, e⟩ := List.getElem_of_mem ha
  have := (List.all_eq_true.1 h5.1) i (List.mem_range.2 hi)
  unfold fwdAt at this
  rw [getDT hi, e] at this
  simp only [Bool.not_eq_true', Bool.or_eq_false_iff, decide_eq_false_iff_not] at this
  omega
theorem dirV_len {d : Directory} (h : dirV d = 0) : 1 ≤ d.forward.length ∧ d.forward.length ≤ 6 ∧ 1 ≤ d.version ∧ d.version ≤ 1099511627776 := by
  unfold dirV at h
  split at h
  · cases h
  · omega
theorem r10home_loop (d : Directory) (hL : d.l.length ≤ 4294967296) (hv : ∀ a ∈ d.forward, -1 ≤ a ∧ a < d.forward.length) (hF : d.forward.length ≤ 6) : ∀ p : Nat × Int, chase d.forward p.1 p.2 < 0 ∧ -1 ≤ p.2 ∧ p.2 < d.forward.length → loopL G [18] l_ref10_Home_0 ⟨[(1, .d (.int .i64 p.2)), (2, .ref 2 0 0)], [rD d 2]⟩ = some (.exit 0, ⟨[(1, .d (.int .i64 (homeF d p.1 p.2)))], []⟩) := by
  refine loop_ind (fun p : Nat × Int => p.1) _ (fun p : Nat × Int => ⟨[(1, .d (.int .i64 p.2)), (2, .ref 2 0 0)], [rD d 2]⟩) _ fun ⟨m, a⟩ ⟨hc, h1, h2⟩ L ih => ?_
  simp only [rD] at ih hc h1 h2 ⊢
  simp only [l_ref10_Home_0]
  have hi := r10index_ok d a hL
  by_cases c : 0 ≤ a ∧ findS d.l a < 0
  · obtain ⟨c1, c2⟩ := c
    rcases m with _ | m
    · simp only [chase] at hc; omega
    have hlt : a.toNat < d.forward.length := by omega
    have hm := hv (d.forward[a.toNat]) (List.getElem_mem _)
    rw [chase, if_pos c1, getDT hlt] at hc
    have i1 := ih (m, d.forward[a.toNat]) ⟨hc, hm.1, hm.2⟩ (by simp only; omega)
    rw [homeF, if_pos ⟨c1, c2⟩, getDT hlt]
    simp only at i1
    generalize homeF d m d.forward[a.toNat] = z at *
    clear ih hv hc
    (try simp -implicitDefEqProofs (maxSteps := 4000000) (disch := omega) only [getDT, go_sem, *]); (try simp only [pA, pB, pC, pD, pE, pF, pG, pH, pI, pJ, pK, pL, pM, pN, pO, pP, if_true, if_false]); repeat' (first | done | rfl | (refine iteC (fun hq => ?_) (fun hq => ?_) <;> (try (first | (exfalso; omega) | contradiction)) <;> (try simp -implicitDefEqProofs (maxSteps := 4000000) (disch := omega) only [getDT, go_sem, *]) <;> (try simp only [pA, pB, pC, pD, pE, pF, pG, pH, pI, pJ, pK, pL, pM, pN, pO, pP, if_true, if_false]))); (all_goals try rfl); (all_goals try (repeat' (first | done | rfl | (exfalso; omega) | contradiction | (refine iteR (fun hq => ?_) (fun hq => ?_)))))
  · have e : homeF d m a = a := by
      rcases m with _ | m
      · rfl
      · rw [homeF, if_neg c]
    rw [e]
    clear ih hv hc e
    by_cases c1 : 0 ≤ a
    · have c2 : ¬ findS d.l a < 0 := fun h => c ⟨c1, h⟩
      clear c
      (try simp -implicitDefEqProofs (maxSteps := 4000000) (disch := omega) only [getDT, go_sem, *]); (try simp only [pA, pB, pC, pD, pE, pF, pG, pH, pI, pJ, pK, pL, pM, pN, pO, pP, if_true, if_false]); repeat' (first | done | rfl | (refine iteC (fun hq => ?_) (fun hq => ?_) <;> (try (first | (exfalso; omega) | contradiction)) <;> (try simp -implicitDefEqProofs (maxSteps := 4000000) (disch := omega) only [getDT, go_sem, *]) <;> (try simp only [pA, pB, pC, pD, pE, pF, pG, pH, pI, pJ, pK, pL, pM, pN, pO, pP, if_true, if_false]))); (all_goals try rfl); (all_goals try (repeat' (first | done | rfl | (exfalso; omega) | contradiction | (refine iteR (fun hq => ?_) (fun hq => ?_)))))
    · clear c
      (try simp -implicitDefEqProofs (maxSteps := 4000000) (disch := omega) only [getDT, go_sem, *]); (try simp only [pA, pB, pC, pD, pE, pF, pG, pH, pI, pJ, pK, pL, pM, pN, pO, pP, if_true, if_false]); repeat' (first | done | rfl | (refine iteC (fun hq => ?_) (fun hq => ?_) <;> (try (first | (exfalso; omega) | contradiction)) <;> (try simp -implicitDefEqProofs (maxSteps := 4000000) (disch := omega) only [getDT, go_sem, *]) <;> (try simp only [pA, pB, pC, pD, pE, pF, pG, pH, pI, pJ, pK, pL, pM, pN, pO, pP, if_true, if_false]))); (all_goals try rfl); (all_goals try (repeat' (first | done | rfl | (exfalso; omega) | contradiction | (refine iteR (fun hq => ?_) (fun hq => ?_)))))
theorem r10home_ok (d : Directory) (a : Int) (hL : d.l.length ≤ 4294967296) : callL G N_ref10_Home [.d (eDirectory d), .d (.int .i64 a)] [] = some (.d (.int .i64 (homeD d a)), []) := by
  have hval := r10val_ok d hL
  unfold homeD
  by_cases c0 : dirV d = 0
  · have hl := dirV_len c0
    have hv := fwd_in c0 ⟨hl.2.1, hL⟩
    rw [c0] at hval
    by_cases c : a < 0 ∨ (d.forward.length : Int) ≤ a
    · rw [if_pos (.inr c)]
      clear hv c0
      rw [callL_code g_ref10_Home (by simp)]; simp -implicitDefEqProofs (maxSteps := 4000000) (disch := omega) only [c_ref10_Home, r_ref10_Home, getDT, go_sem, *]; (try simp only [pA, pB, pC, pD, pE, pF, pG, pH, pI, pJ, pK, pL, pM, pN, pO, pP, if_true, if_false]); repeat' (first | done | rfl | (refine iteC (fun hq => ?_) (fun hq => ?_) <;> (try (first | (exfalso; omega) | contradiction)) <;> (try simp -implicitDefEqProofs (maxSteps := 4000000) (disch := omega) only [getDT, go_sem, *]) <;> (try simp only [pA, pB, pC, pD, pE, pF, pG, pH, pI, pJ, pK, pL, pM, pN, pO, pP, if_true, if_false]))); (all_goals try rfl); (all_goals try (repeat' (first | done | rfl | (exfalso; omega) | contradiction | (refine iteR (fun hq => ?_) (fun hq => ?_)))))
    · rw [if_neg (by rw [c0]; simp; omega)]
      have hc := hv.2 a.toNat (by omega)
      rw [show ((a.toNat : Nat) : Int) = a by omega] at hc
      have hlp := r10home_loop d hL hv.1 hl.2.1 (d.forward.length, a) ⟨hc, by simp only; omega, by simp only; omega⟩
      simp only [rD] at hlp
      clear hv c0 hc
      rw [callL_code g_ref10_Home (by simp)]; simp -implicitDefEqProofs (maxSteps := 4000000) (disch := omega) only [c_ref10_Home, r_ref10_Home, getDT, go_sem, *]; (try simp only [pA, pB, pC, pD, pE, pF, pG, pH, pI, pJ, pK, pL, pM, pN, pO, pP, if_true, if_false]); repeat' (first | done | rfl | (refine iteC (fun hq => ?_) (fun hq => ?_) <;> (try (first | (exfalso; omega) | contradiction)) <;> (try simp -implicitDefEqProofs (maxSteps := 4000000) (disch := omega) only [getDT, go_sem, *]) <;> (try simp only [pA, pB, pC, pD, pE, pF, pG, pH, pI, pJ, pK, pL, pM, pN, pO, pP, if_true, if_false]))); (all_goals try rfl); (all_goals try (repeat' (first | done | rfl | (exfalso; omega) | contradiction | (refine iteR (fun hq => ?_) (fun hq => ?_)))))
  · rw [if_pos (.inl c0)]
    rw [callL_code g_ref10_Home (by simp)]; simp -implicitDefEqProofs (maxSteps := 4000000) (disch := omega) only [c_ref10_Home, r_ref10_Home, getDT, go_sem, *]; (try simp only [pA, pB, pC, pD, pE, pF, pG, pH, pI, pJ, pK, pL, pM, pN, pO, pP, if_true, if_false]); repeat' (first | done | rfl | (refine iteC (fun hq => ?_) (fun hq => ?_) <;> (try (first | (exfalso; omega) | contradiction)) <;> (try simp -implicitDefEqProofs (maxSteps := 4000000) (disch := omega) only [getDT, go_sem, *]) <;> (try simp only [pA, pB, pC, pD, pE, pF, pG, pH, pI, pJ, pK, pL, pM, pN, pO, pP, if_true, if_false]))); (all_goals try rfl); (all_goals try (repeat' (first | done | rfl | (exfalso; omega) | contradiction | (refine iteR (fun hq => ?_) (fun hq => ?_)))))
end Go.Proofs.Ytkdjbfjohbiemaa

namespace Go.Proofs.Ytkdjbfjohbiemaa
open Go Go.Sim
set_option linter.unusedSimpArgs false
set_option linter.unusedVariables false
set_option maxHeartbeats 10000000
set_option maxRecDepth 40000
def spanI (live : Int) (i : Nat) : Span := ⟨(i : Int) * 65536 / live, ((i : Int) + 1) * 65536 / live - 1, i⟩
def spansN (live : Int) (k : Nat) : List Span := (List.range k).map (spanI live)
theorem spansN_len (live : Int) (k : Nat) : (spansN live k).length = k := by simp [spansN]
theorem spansN_succ (live : Int) (k : Nat) : spansN live (k + 1) = spansN live k ++ [spanI live k] := by simp [spansN, List.range_succ]
def dirN (slots live : Nat) : Directory := ⟨1, spansN live live, List.replicate slots (-1)⟩
def newD (slots live : Int) : Directory × Int := if live < 1 ∨ slots < live ∨ 6 < slots then (zDirectory, 1) else (dirN slots.toNat live.toNat, 0)
def ob4 : Nat × Go.Sim.Obj := (4, .row [.agg [.d (.int .i64 0), .xsl [], .xsl []]])
theorem dnew_loop0 (slots live : Nat) (h1 : 1 ≤ live) (h2 : live ≤ slots) (h3 : slots ≤ 6) : ∀ k, 1 ≤ k ∧ k ≤ live → loopL G [] l_directory_New_0 ⟨[(0, .d (.int .i64 slots)), (1, .d (.int .i64 live)), (4, .ref 4 0 0), (6, .ref 6 0 0), (21, .d (.int .i64 live)), (22, .d (.int .i64 k))], [ob4, (6, .row [.agg [.d (.int .i64 1), .acc 500040 ((spansN live k).map eSpan), .xsl []]]), (500040, .acc k)]⟩ = some (.exit 0, ⟨[(0, .d (.int .i64 slots)), (4, .ref 4 0 0), (6, .ref 6 0 0)], [ob4, (6, .row [.agg [.d (.int .i64 1), .acc 500040 ((spansN live live).map eSpan), .xsl []]]), (500040, .acc live)]⟩) := by
  refine loop_ind (fun k => live - k) _ _ _ fun k ⟨hk, hk2⟩ L ih => ?_
  simp only [ob4] at ih ⊢
  simp only [l_directory_New_0]
  by_cases h0 : k < live
  · have := ih (k + 1) ⟨by omega, by omega⟩ (by omega)
    rw [spansN_succ] at this
    have hq1 : 0 ≤ (k : Int) * 65536 / (live : Int) ∧ (k : Int) * 65536 / (live : Int) ≤ 1000000 := by
      refine ⟨Int.ediv_nonneg (by omega) (by omega), Int.le_trans (Int.ediv_le_self _ (by omega)) (by omega)⟩
    have hq2 : 0 ≤ ((k : Int) + 1) * 65536 / (live : Int) ∧ ((k : Int) + 1) * 65536 / (live : Int) ≤ 1000000 := by
      refine ⟨Int.ediv_nonneg (by omega) (by omega), Int.le_trans (Int.ediv_le_self _ (by omega)) (by omega)⟩
    obtain ⟨es, hes⟩ : ∃ es, es = spansN live k := ⟨_, rfl⟩
    have hesl : es.length = k := by rw [hes, spansN_len]
    rw [← hes] at this ⊢
    simp only [spanI, eSpan, List.map_append, List.map_cons, List.map_nil, Int.natCast_add, Int.natCast_one] at this
    simp -implicitDefEqProofs (maxSteps := 4000000) (disch := omega) only [go_sem, tdivE, hesl, allSize_Span, this]
  · have : k = live := by omega
    subst this
    simp -implicitDefEqProofs (maxSteps := 4000000) (disch := omega) only [go_sem, Nat.zero_add]
theorem dnew_first0 (slots live : Nat) (h1 : 1 ≤ live) (h2 : live ≤ slots) (h3 : slots ≤ 6) : loopL G [] l_directory_New_0 ⟨[(0, .d (.int .i64 slots)), (1, .d (.int .i64 live)), (4, .ref 4 0 0), (6, .ref 6 0 0), (21, .d (.int .i64 live)), (22, .d (.int .i64 0))], [ob4, (6, .row [.agg [.d (.int .i64 1), .xsl [], .xsl []]])]⟩ = some (.exit 0, ⟨[(0, .d (.int .i64 slots)), (4, .ref 4 0 0), (6, .ref 6 0 0)], [ob4, (6, .row [.agg [.d (.int .i64 1), .acc 500040 ((spansN live live).map eSpan), .xsl []]]), (500040, .acc live)]⟩) := by
  have h := dnew_loop0 slots live h1 h2 h3 1 ⟨by omega, h1⟩
  simp only [spansN, spanI, eSpan, ob4, List.range_one, List.map_cons, List.map_nil] at h
  simp only [Int.natCast_add, Int.natCast_one, Int.natCast_zero, Int.natCast_mul, Int.cast_ofNat_Int, List.length_append, List.length_map, List.map_nil, List.length_nil, List.map_append, List.map_cons, List.length_cons, Nat.zero_add, srcO, mapSet] at h
  rw [loopL_eq]
  have hq2 : 0 ≤ (65536 : Int) / (live : Int) ∧ (65536 : Int) / (live : Int) ≤ 65536 := by
    refine ⟨Int.ediv_nonneg (by omega) (by omega), Int.ediv_le_self _ (by omega)⟩
  generalize hF : loopL G [] l_directory_New_0 = F at h ⊢
  simp only [l_directory_New_0, ob4]
  simp only [Int.zero_mul, Int.zero_ediv, Int.zero_add, Int.one_mul] at h
  simp -implicitDefEqProofs (maxSteps := 4000000) (disch := omega) only [go_sem, tdivE, Int.zero_mul, Int.zero_ediv, Int.zero_add, Int.one_mul]
  rw [h]
  simp only [spansN, spanI, eSpan]
theorem dnew_loop1 (slots : Nat) (h3 : slots ≤ 6) (es : List D) (m : Nat) : ∀ k, 1 ≤ k ∧ k ≤ slots → loopL G [] l_directory_New_1 ⟨[(4, .ref 4 0 0), (6, .ref 6 0 0), (43, .d (.int .i64 slots)), (44, .d (.int .i64 k))], [ob4, (6, .row [.agg [.d (.int .i64 1), .acc 500040 es, .acc 49 (ints (List.replicate k (-1)))]]), (49, .acc k), (500040, .acc m)]⟩ = some (.exit 2, ⟨[(4, .ref 4 0 0), (6, .ref 6 0 0)], [ob4, (6, .row [.agg [.d (.int .i64 1), .acc 500040 es, .acc 49 (ints (List.replicate slots (-1)))]]), (49, .acc slots), (500040, .acc m)]⟩) := by
  refine loop_ind (fun k => slots - k) _ _ _ fun k ⟨hk, hk2⟩ L ih => ?_
  simp only [ob4] at ih ⊢
  simp only [l_directory_New_1]
  by_cases h0 : k < slots
  · have := ih (k + 1) ⟨by omega, by omega⟩ (by omega)
    rw [List.replicate_succ'] at this
    obtain ⟨fs, hfs⟩ : ∃ fs, fs = List.replicate k (-1 : Int) := ⟨_, rfl⟩
    have hl : fs.length = k := by rw [hfs, List.length_replicate]
    rw [← hfs] at this ⊢
    simp only [ints] at this ⊢
    simp only [Int.natCast_add, Int.natCast_one, Int.natCast_zero, Int.natCast_mul, Int.cast_ofNat_Int, List.length_append, List.length_map, List.map_nil, List.length_nil, List.map_append, List.map_cons, List.length_cons, Nat.zero_add, srcO, mapSet] at this
    simp -implicitDefEqProofs (maxSteps := 4000000) (disch := omega) only [go_sem, hl, allSize_ints, this]
  · have : k = slots := by omega
    subst this
    simp -implicitDefEqProofs (maxSteps := 4000000) (disch := omega) only [go_sem, Nat.zero_add]
theorem dnew_first1 (slots : Nat) (h1 : 1 ≤ slots) (h3 : slots ≤ 6) (es : List D) (m : Nat) : loopL G [] l_directory_New_1 ⟨[(4, .ref 4 0 0), (6, .ref 6 0 0), (43, .d (.int .i64 slots)), (44, .d (.int .i64 0))], [ob4, (6, .row [.agg [.d (.int .i64 1), .acc 500040 es, .xsl []]]), (500040, .acc m)]⟩ = some (.exit 2, ⟨[(4, .ref 4 0 0), (6, .ref 6 0 0)], [ob4, (6, .row [.agg [.d (.int .i64 1), .acc 500040 es, .acc 49 (ints (List.replicate slots (-1)))]]), (49, .acc slots), (500040, .acc m)]⟩) := by
  have h := dnew_loop1 slots h3 es m 1 ⟨by omega, h1⟩
  simp only [List.replicate_one, ob4] at h
  simp only [Int.natCast_add, Int.natCast_one, Int.natCast_zero, Int.natCast_mul, Int.cast_ofNat_Int, List.length_append, List.length_map, List.map_nil, List.length_nil, List.map_append, List.map_cons, List.length_cons, Nat.zero_add, srcO, mapSet] at h
  rw [loopL_eq]
  generalize hF : loopL G [] l_directory_New_1 = F at h ⊢
  simp only [l_directory_New_1, ob4]
  simp -implicitDefEqProofs (maxSteps := 4000000) (disch := omega) only [go_sem, h]
theorem dnew_ok (slots live : Int) : callL G N_directory_New [.d (.int .i64 slots), .d (.int .i64 live)] [] = some (.d (.tup [eDirectory (newD slots live).1, .int .i64 (newD slots live).2]), []) := by
  unfold newD
  by_cases c1 : live < 1
  · rw [if_pos (Or.inl c1)]
    simp only [eDirectory, zDirectory]
    rw [callL_code g_directory_New (by simp)]; simp -implicitDefEqProofs (maxSteps := 4000000) (disch := omega) only [c_directory_New, r_directory_New, go_sem, Nat.zero_add]
  by_cases c2 : slots < live
  · rw [if_pos (Or.inr (Or.inl c2))]
    simp only [eDirectory, zDirectory]
    rw [callL_code g_directory_New (by simp)]; simp -implicitDefEqProofs (maxSteps := 4000000) (disch := omega) only [c_directory_New, r_directory_New, go_sem, Nat.zero_add]
  by_cases c3 : 6 < slots
  · rw [if_pos (Or.inr (Or.inr c3))]
    simp only [eDirectory, zDirectory]
    rw [callL_code g_directory_New (by simp)]; simp -implicitDefEqProofs (maxSteps := 4000000) (disch := omega) only [c_directory_New, r_directory_New, go_sem, Nat.zero_add]
  rw [if_neg (by omega)]
  obtain ⟨s, hs⟩ : ∃ s, s = slots.toNat := ⟨_, rfl⟩
  obtain ⟨l, hl⟩ : ∃ l, l = live.toNat := ⟨_, rfl⟩
  rw [← hs, ← hl, show slots = (s : Int) by omega, show live = (l : Int) by omega] 
  have h0 := dnew_first0 s l (by omega) (by omega) (by omega)
  have h1 := dnew_first1 s (by omega) (by omega) ((spansN l l).map eSpan) l
  simp only [ob4] at h0 h1
  simp only [eDirectory, dirN]
  rw [callL_code g_directory_New (by simp)]; simp -implicitDefEqProofs (maxSteps := 4000000) (disch := omega) only [c_directory_New, r_directory_New, go_sem, h0, h1]
theorem newD_ok {s l : Nat} (h1 : 1 ≤ l) (h2 : l ≤ s) (h3 : s ≤ 6) : newD s l = (dirN s l, 0) := by
  unfold newD
  rw [if_neg (by omega)]
  rfl
theorem dirN_valid : ∀ s l : Nat, 1 ≤ l → l ≤ s → s ≤ 6 → dirV (dirN s l) = 0 ∧ (∀ i, i < s → findS (dirN s l).l i = if i < l then (i : Int) else -1) := by
  have key : ∀ s, s < 7 → ∀ l, l < 7 → 1 ≤ l → l ≤ s → dirV (dirN s l) = 0 ∧ (∀ i, i < s → findS (dirN s l).l i = if i < l then (i : Int) else -1) := by decide
  intro s l h1 h2 h3
  exact key s (by omega) l (by omega) h1 h2
end Go.Proofs.Ytkdjbfjohbiemaa

namespace Go.Proofs.Ytkdjbfjohbiemaa
open Go Go.Sim
set_option linter.unusedSimpArgs false
set_option linter.unusedVariables false
set_option maxHeartbeats 10000000
set_option maxRecDepth 40000
theorem wrapN {x : Int} (h0 : -4294967296 ≤ x) (h1 : x ≤ 4294967296) : IntKind.i64.wrap x = x := wr (by omega)

/-- The reader: what it has, where it is. -/
abbrev srcO (l : List Int) (a : Nat) : Go.Sim.Obj := .row [.d (.agg [.sl (ints l), .int .i64 a])]
theorem new_ok (l : List Int) (hL : l.length ≤ LIM) : callL G N_base_New [.d (.sl (ints l))] [] = some (.ref 0 0 0, [(0, srcO (l.take 4000) 0)]) := by
  have hs := allSize_ints l
  by_cases h : 4000 < l.length
  · have e : ints (l.take 4000) = (ints l).take 4000 := by simp [ints, List.map_take]
    simp only [srcO, e]
    rw [callL_code g_base_New (by simp)]; simp -implicitDefEqProofs (maxSteps := 4000000) (disch := omega) only [c_base_New, r_base_New, getDT, go_sem, *]; (try simp only [pA, pB, pC, pD, pE, pF, pG, pH, pI, pJ, pK, pL, pM, pN, pO, pP, if_true, if_false]); repeat' (first | done | rfl | (refine iteC (fun hq => ?_) (fun hq => ?_) <;> (try (first | (exfalso; omega) | contradiction)) <;> (try simp -implicitDefEqProofs (maxSteps := 4000000) (disch := omega) only [getDT, go_sem, *]) <;> (try simp only [pA, pB, pC, pD, pE, pF, pG, pH, pI, pJ, pK, pL, pM, pN, pO, pP, if_true, if_false]))); (all_goals try rfl); (all_goals try (repeat' (first | done | rfl | (exfalso; omega) | contradiction | (refine iteR (fun hq => ?_) (fun hq => ?_)))))
  · have e : l.take 4000 = l := List.take_of_length_le (by omega)
    simp only [srcO, e]
    rw [callL_code g_base_New (by simp)]; simp -implicitDefEqProofs (maxSteps := 4000000) (disch := omega) only [c_base_New, r_base_New, getDT, go_sem, *]; (try simp only [pA, pB, pC, pD, pE, pF, pG, pH, pI, pJ, pK, pL, pM, pN, pO, pP, if_true, if_false]); repeat' (first | done | rfl | (refine iteC (fun hq => ?_) (fun hq => ?_) <;> (try (first | (exfalso; omega) | contradiction)) <;> (try simp -implicitDefEqProofs (maxSteps := 4000000) (disch := omega) only [getDT, go_sem, *]) <;> (try simp only [pA, pB, pC, pD, pE, pF, pG, pH, pI, pJ, pK, pL, pM, pN, pO, pP, if_true, if_false]))); (all_goals try rfl); (all_goals try (repeat' (first | done | rfl | (exfalso; omega) | contradiction | (refine iteR (fun hq => ?_) (fun hq => ?_)))))
def rawD (l : List Int) (a : Nat) : Int × Nat := if a < l.length then (l.getD a 0, a + 1) else (0, a)
theorem raw_ok (l : List Int) (a : Nat) (hL : l.length ≤ 4000) : callL G N_base_Src_Raw [.ref 1000000 0 0] [(1000000, srcO l a)] = some (.d (.int .i64 (rawD l a).1), [(1000000, srcO l (rawD l a).2)]) := by
  unfold rawD
  have e : ((a : Int) + 1 - 1).toNat = a := by omega
  by_cases h : a < l.length
  · simp only [h, if_true]
    rw [callL_code g_base_Src_Raw (by simp)]; simp -implicitDefEqProofs (maxSteps := 4000000) (disch := omega) only [c_base_Src_Raw, r_base_Src_Raw, e, getDT, go_sem, *]; (try simp only [pA, pB, pC, pD, pE, pF, pG, pH, pI, pJ, pK, pL, pM, pN, pO, pP, if_true, if_false]); repeat' (first | done | rfl | (refine iteC (fun hq => ?_) (fun hq => ?_) <;> (try (first | (exfalso; omega) | contradiction)) <;> (try simp -implicitDefEqProofs (maxSteps := 4000000) (disch := omega) only [e, getDT, go_sem, *]) <;> (try simp only [pA, pB, pC, pD, pE, pF, pG, pH, pI, pJ, pK, pL, pM, pN, pO, pP, if_true, if_false]))); (all_goals try rfl); (all_goals try (repeat' (first | done | rfl | (exfalso; omega) | contradiction | (refine iteR (fun hq => ?_) (fun hq => ?_)))))
  · simp only [h, if_false]
    rw [callL_code g_base_Src_Raw (by simp)]; simp -implicitDefEqProofs (maxSteps := 4000000) (disch := omega) only [c_base_Src_Raw, r_base_Src_Raw, getDT, go_sem, *]; (try simp only [pA, pB, pC, pD, pE, pF, pG, pH, pI, pJ, pK, pL, pM, pN, pO, pP, if_true, if_false]); repeat' (first | done | rfl | (refine iteC (fun hq => ?_) (fun hq => ?_) <;> (try (first | (exfalso; omega) | contradiction)) <;> (try simp -implicitDefEqProofs (maxSteps := 4000000) (disch := omega) only [getDT, go_sem, *]) <;> (try simp only [pA, pB, pC, pD, pE, pF, pG, pH, pI, pJ, pK, pL, pM, pN, pO, pP, if_true, if_false]))); (all_goals try rfl); (all_goals try (repeat' (first | done | rfl | (exfalso; omega) | contradiction | (refine iteR (fun hq => ?_) (fun hq => ?_)))))

theorem raw_le (l : List Int) (a : Nat) (h : a ≤ l.length) : (rawD l a).2 ≤ l.length := by unfold rawD; split <;> simp <;> omega
def nD (l : List Int) (a : Nat) (n : Int) : Int := if (rawD l a).1.tmod n < 0 then (rawD l a).1.tmod n + n else (rawD l a).1.tmod n
theorem nD_in (l : List Int) (a : Nat) {n : Int} (h : 1 ≤ n) : 0 ≤ nD l a n ∧ nD l a n < n := by
  unfold nD
  have h1 := Int.tmod_lt_of_pos (rawD l a).1 (show 0 < n by omega)
  have h2 := Int.lt_tmod_of_pos (rawD l a).1 (show 0 < n by omega)
  split <;> omega
theorem n_ok (l : List Int) (a : Nat) (n : Int) (hL : l.length ≤ 4000) (h1 : 1 ≤ n) (h2 : n ≤ 4294967296) : callL G N_base_Src_N [.ref 1000000 0 0, .d (.int .i64 n)] [(1000000, srcO l a)] = some (.d (.int .i64 (nD l a n)), [(1000000, srcO l (rawD l a).2)]) := by
  have hr := raw_ok l a hL
  have h3 := Int.tmod_lt_of_pos (rawD l a).1 (show 0 < n by omega)
  have h4 := Int.lt_tmod_of_pos (rawD l a).1 (show 0 < n by omega)
  unfold nD
  by_cases h : (rawD l a).1.tmod n < 0
  · simp only [h, if_true]
    rw [callL_code g_base_Src_N (by simp)]; simp -implicitDefEqProofs (maxSteps := 4000000) (disch := omega) only [c_base_Src_N, r_base_Src_N, getDT, go_sem, *]; (try simp only [pA, pB, pC, pD, pE, pF, pG, pH, pI, pJ, pK, pL, pM, pN, pO, pP, if_true, if_false]); repeat' (first | done | rfl | (refine iteC (fun hq => ?_) (fun hq => ?_) <;> (try (first | (exfalso; omega) | contradiction)) <;> (try simp -implicitDefEqProofs (maxSteps := 4000000) (disch := omega) only [getDT, go_sem, *]) <;> (try simp only [pA, pB, pC, pD, pE, pF, pG, pH, pI, pJ, pK, pL, pM, pN, pO, pP, if_true, if_false]))); (all_goals try rfl); (all_goals try (repeat' (first | done | rfl | (exfalso; omega) | contradiction | (refine iteR (fun hq => ?_) (fun hq => ?_)))))
  · simp only [h, if_false]
    rw [callL_code g_base_Src_N (by simp)]; simp -implicitDefEqProofs (maxSteps := 4000000) (disch := omega) only [c_base_Src_N, r_base_Src_N, getDT, go_sem, *]; (try simp only [pA, pB, pC, pD, pE, pF, pG, pH, pI, pJ, pK, pL, pM, pN, pO, pP, if_true, if_false]); repeat' (first | done | rfl | (refine iteC (fun hq => ?_) (fun hq => ?_) <;> (try (first | (exfalso; omega) | contradiction)) <;> (try simp -implicitDefEqProofs (maxSteps := 4000000) (disch := omega) only [getDT, go_sem, *]) <;> (try simp only [pA, pB, pC, pD, pE, pF, pG, pH, pI, pJ, pK, pL, pM, pN, pO, pP, if_true, if_false]))); (all_goals try rfl); (all_goals try (repeat' (first | done | rfl | (exfalso; omega) | contradiction | (refine iteR (fun hq => ?_) (fun hq => ?_)))))
theorem range_ok (l : List Int) (a : Nat) (lo hi : Int) (hL : l.length ≤ 4000) (h0 : -4294967296 ≤ lo) (h1 : lo ≤ hi) (h2 : hi ≤ 4294967296) (h3 : hi - lo < 4294967296) : callL G N_base_Src_Range [.ref 1000000 0 0, .d (.int .i64 lo), .d (.int .i64 hi)] [(1000000, srcO l a)] = some (.d (.int .i64 (lo + nD l a (hi - lo + 1))), [(1000000, srcO l (rawD l a).2)]) := by
  have hr := n_ok l a (hi - lo + 1) hL (by omega) (by omega)
  have hn := nD_in l a (show 1 ≤ hi - lo + 1 by omega)
  rw [callL_code g_base_Src_Range (by simp)]; simp -implicitDefEqProofs (maxSteps := 4000000) (disch := omega) only [c_base_Src_Range, r_base_Src_Range, getDT, go_sem, *]; (try simp only [pA, pB, pC, pD, pE, pF, pG, pH, pI, pJ, pK, pL, pM, pN, pO, pP, if_true, if_false]); repeat' (first | done | rfl | (refine iteC (fun hq => ?_) (fun hq => ?_) <;> (try (first | (exfalso; omega) | contradiction)) <;> (try simp -implicitDefEqProofs (maxSteps := 4000000) (disch := omega) only [getDT, go_sem, *]) <;> (try simp only [pA, pB, pC, pD, pE, pF, pG, pH, pI, pJ, pK, pL, pM, pN, pO, pP, if_true, if_false]))); (all_goals try rfl); (all_goals try (repeat' (first | done | rfl | (exfalso; omega) | contradiction | (refine iteR (fun hq => ?_) (fun hq => ?_)))))
end Go.Proofs.Ytkdjbfjohbiemaa

namespace Go.Proofs.Ytkdjbfjohbiemaa
open Go Go.Sim
set_option linter.unusedSimpArgs false
set_option linter.unusedVariables false
set_option maxHeartbeats 10000000
set_option maxRecDepth 40000
theorem new_ok2 (l : List Int) (hL : l.length ≤ LIM) : ∃ t : List Int, t.length ≤ 4000 ∧ callL G N_base_New [.d (.sl (ints l))] [] = some (.ref 0 0 0, [(0, .row [.d (.agg [.sl (ints t), .int .i64 0])])]) := ⟨l.take 4000, by simp; omega, new_ok l hL⟩
theorem n_ok0 (l : List Int) (n : Int) (hL : l.length ≤ 4000) (h1 : 1 ≤ n) (h2 : n ≤ 4294967296) : callL G N_base_Src_N [.ref 1000000 0 0, .d (.int .i64 n)] [(1000000, .row [.d (.agg [.sl (ints l), .int .i64 0])])] = some (.d (.int .i64 (nD l 0 n)), [(1000000, srcO l (rawD l 0).2)]) := n_ok l 0 n hL h1 h2
theorem range_ok0 (l : List Int) (lo hi : Int) (hL : l.length ≤ 4000) (h0 : -4294967296 ≤ lo) (h1 : lo ≤ hi) (h2 : hi ≤ 4294967296) (h3 : hi - lo < 4294967296) : callL G N_base_Src_Range [.ref 1000000 0 0, .d (.int .i64 lo), .d (.int .i64 hi)] [(1000000, .row [.d (.agg [.sl (ints l), .int .i64 0])])] = some (.d (.int .i64 (lo + nD l 0 (hi - lo + 1))), [(1000000, srcO l (rawD l 0).2)]) := range_ok l 0 lo hi hL h0 h1 h2 h3
theorem sd_loop0 (a b : Directory) (hL : a.l.length ≤ 4294967296) (hab : a.l.length = b.l.length) : loopL G [] l_ref10_Same_0 ⟨[(2, .ref 2 0 0), (3, .ref 3 0 0), (5, .d (.int .i64 0))], [(2, .row [.d (eDirectory a)]), (3, .row [.d (eDirectory b)])]⟩ = some (if a.l = b.l then (.exit 0, ⟨[(2, .ref 2 0 0), (3, .ref 3 0 0)], [(2, .row [.d (eDirectory a)]), (3, .row [.d (eDirectory b)])]⟩) else (.ret, ⟨[(4, .d (.bool false))], []⟩)) := by
  have := loop_all (G := G) (x := l_ref10_Same_0) (ks := []) a.l.length (fun k => decide (a.l[k]? = b.l[k]?)) (fun k => ⟨[(2, .ref 2 0 0), (3, .ref 3 0 0), (5, .d (.int .i64 k))], [(2, .row [.d (eDirectory a)]), (3, .row [.d (eDirectory b)])]⟩) (.ret, ⟨[(4, .d (.bool false))], []⟩) (.exit 0, ⟨[(2, .ref 2 0 0), (3, .ref 3 0 0)], [(2, .row [.d (eDirectory a)]), (3, .row [.d (eDirectory b)])]⟩) (fun k hk L => by
    simp only [l_ref10_Same_0]
    by_cases h0 : k < a.l.length
    · have hk2 : k < b.l.length := by omega
      simp only [get_eq h0 hk2, h0, if_true]
      (try simp -implicitDefEqProofs (maxSteps := 4000000) (disch := omega) only [getDT, go_sem, *]); (try simp only [pA, pB, pC, pD, pE, pF, pG, pH, pI, pJ, pK, pL, pM, pN, pO, pP, if_true, if_false]); repeat' (first | done | rfl | (refine iteC (fun hq => ?_) (fun hq => ?_) <;> (try (first | (exfalso; omega) | contradiction)) <;> (try simp -implicitDefEqProofs (maxSteps := 4000000) (disch := omega) only [getDT, go_sem, *]) <;> (try simp only [pA, pB, pC, pD, pE, pF, pG, pH, pI, pJ, pK, pL, pM, pN, pO, pP, if_true, if_false]))); (all_goals try rfl); (all_goals try (repeat' (first | done | rfl | (exfalso; omega) | contradiction | (refine iteR (fun hq => ?_) (fun hq => ?_)))))
    · (try simp -implicitDefEqProofs (maxSteps := 4000000) (disch := omega) only [getDT, go_sem, *]); (try simp only [pA, pB, pC, pD, pE, pF, pG, pH, pI, pJ, pK, pL, pM, pN, pO, pP, if_true, if_false]); repeat' (first | done | rfl | (refine iteC (fun hq => ?_) (fun hq => ?_) <;> (try (first | (exfalso; omega) | contradiction)) <;> (try simp -implicitDefEqProofs (maxSteps := 4000000) (disch := omega) only [getDT, go_sem, *]) <;> (try simp only [pA, pB, pC, pD, pE, pF, pG, pH, pI, pJ, pK, pL, pM, pN, pO, pP, if_true, if_false]))); (all_goals try rfl); (all_goals try (repeat' (first | done | rfl | (exfalso; omega) | contradiction | (refine iteR (fun hq => ?_) (fun hq => ?_))))))
  simp only [all_eq hab, Int.natCast_zero, decide_eq_true_eq] at this
  exact this
theorem sd_loop1 (a b : Directory) (hL : a.forward.length ≤ 4294967296) (hab : a.forward.length = b.forward.length) : loopL G [] l_ref10_Same_1 ⟨[(2, .ref 2 0 0), (3, .ref 3 0 0), (6, .d (.int .i64 0))], [(2, .row [.d (eDirectory a)]), (3, .row [.d (eDirectory b)])]⟩ = some (if a.forward = b.forward then (.exit 2, ⟨[], []⟩) else (.ret, ⟨[(4, .d (.bool false))], []⟩)) := by
  have := loop_all (G := G) (x := l_ref10_Same_1) (ks := []) a.forward.length (fun k => decide (a.forward[k]? = b.forward[k]?)) (fun k => ⟨[(2, .ref 2 0 0), (3, .ref 3 0 0), (6, .d (.int .i64 k))], [(2, .row [.d (eDirectory a)]), (3, .row [.d (eDirectory b)])]⟩) (.ret, ⟨[(4, .d (.bool false))], []⟩) (.exit 2, ⟨[], []⟩) (fun k hk L => by
    simp only [l_ref10_Same_1]
    by_cases h0 : k < a.forward.length
    · have hk2 : k < b.forward.length := by omega
      simp only [get_eq h0 hk2, h0, if_true]
      (try simp -implicitDefEqProofs (maxSteps := 4000000) (disch := omega) only [getDT, go_sem, *]); (try simp only [pA, pB, pC, pD, pE, pF, pG, pH, pI, pJ, pK, pL, pM, pN, pO, pP, if_true, if_false]); repeat' (first | done | rfl | (refine iteC (fun hq => ?_) (fun hq => ?_) <;> (try (first | (exfalso; omega) | contradiction)) <;> (try simp -implicitDefEqProofs (maxSteps := 4000000) (disch := omega) only [getDT, go_sem, *]) <;> (try simp only [pA, pB, pC, pD, pE, pF, pG, pH, pI, pJ, pK, pL, pM, pN, pO, pP, if_true, if_false]))); (all_goals try rfl); (all_goals try (repeat' (first | done | rfl | (exfalso; omega) | contradiction | (refine iteR (fun hq => ?_) (fun hq => ?_)))))
    · (try simp -implicitDefEqProofs (maxSteps := 4000000) (disch := omega) only [getDT, go_sem, *]); (try simp only [pA, pB, pC, pD, pE, pF, pG, pH, pI, pJ, pK, pL, pM, pN, pO, pP, if_true, if_false]); repeat' (first | done | rfl | (refine iteC (fun hq => ?_) (fun hq => ?_) <;> (try (first | (exfalso; omega) | contradiction)) <;> (try simp -implicitDefEqProofs (maxSteps := 4000000) (disch := omega) only [getDT, go_sem, *]) <;> (try simp only [pA, pB, pC, pD, pE, pF, pG, pH, pI, pJ, pK, pL, pM, pN, pO, pP, if_true, if_false]))); (all_goals try rfl); (all_goals try (repeat' (first | done | rfl | (exfalso; omega) | contradiction | (refine iteR (fun hq => ?_) (fun hq => ?_))))))
  simp only [all_eq hab, Int.natCast_zero, decide_eq_true_eq] at this
  exact this
theorem same_Directory (a b : Directory) (hL : a.l.length ≤ 4294967296) (hF : a.forward.length ≤ 4294967296) : callL G N_ref10_Same [.d (eDirectory a), .d (eDirectory b)] [] = some (.d (.bool (decide (a = b))), []) := by
  by_cases c0 : a.version = b.version ∧ a.l.length = b.l.length ∧ a.forward.length = b.forward.length
  · obtain ⟨c1, c2, c3⟩ := c0
    have h0 := sd_loop0 a b hL c2
    have h1 := sd_loop1 a b hF c3
    by_cases c4 : a.l = b.l
    · by_cases c5 : a.forward = b.forward
      · have e : a = b := by cases a; cases b; simp_all
        subst e
        simp only [if_true] at h0 h1
        simp only [decide_true]
        clear c1 c2 c3 c4 c5
        rw [callL_code g_ref10_Same (by simp)]; simp -implicitDefEqProofs (maxSteps := 4000000) (disch := omega) only [c_ref10_Same, r_ref10_Same, getDT, go_sem, *]; (try simp only [pA, pB, pC, pD, pE, pF, pG, pH, pI, pJ, pK, pL, pM, pN, pO, pP, if_true, if_false]); repeat' (first | done | rfl | (refine iteC (fun hq => ?_) (fun hq => ?_) <;> (try (first | (exfalso; omega) | contradiction)) <;> (try simp -implicitDefEqProofs (maxSteps := 4000000) (disch := omega) only [getDT, go_sem, *]) <;> (try simp only [pA, pB, pC, pD, pE, pF, pG, pH, pI, pJ, pK, pL, pM, pN, pO, pP, if_true, if_false]))); (all_goals try rfl); (all_goals try (repeat' (first | done | rfl | (exfalso; omega) | contradiction | (refine iteR (fun hq => ?_) (fun hq => ?_)))))
      · have e : ¬ a = b := fun e => c5 (by rw [e])
        rw [decide_eq_false e]
        rw [if_pos c4] at h0
        rw [if_neg c5] at h1
        clear c4
        rw [callL_code g_ref10_Same (by simp)]; simp -implicitDefEqProofs (maxSteps := 4000000) (disch := omega) only [c_ref10_Same, r_ref10_Same, getDT, go_sem, *]; (try simp only [pA, pB, pC, pD, pE, pF, pG, pH, pI, pJ, pK, pL, pM, pN, pO, pP, if_true, if_false]); repeat' (first | done | rfl | (refine iteC (fun hq => ?_) (fun hq => ?_) <;> (try (first | (exfalso; omega) | contradiction)) <;> (try simp -implicitDefEqProofs (maxSteps := 4000000) (disch := omega) only [getDT, go_sem, *]) <;> (try simp only [pA, pB, pC, pD, pE, pF, pG, pH, pI, pJ, pK, pL, pM, pN, pO, pP, if_true, if_false]))); (all_goals try rfl); (all_goals try (repeat' (first | done | rfl | (exfalso; omega) | contradiction | (refine iteR (fun hq => ?_) (fun hq => ?_)))))
    · have e : ¬ a = b := fun e => c4 (by rw [e])
      rw [decide_eq_false e]
      rw [if_neg c4] at h0
      clear h1
      rw [callL_code g_ref10_Same (by simp)]; simp -implicitDefEqProofs (maxSteps := 4000000) (disch := omega) only [c_ref10_Same, r_ref10_Same, getDT, go_sem, *]; (try simp only [pA, pB, pC, pD, pE, pF, pG, pH, pI, pJ, pK, pL, pM, pN, pO, pP, if_true, if_false]); repeat' (first | done | rfl | (refine iteC (fun hq => ?_) (fun hq => ?_) <;> (try (first | (exfalso; omega) | contradiction)) <;> (try simp -implicitDefEqProofs (maxSteps := 4000000) (disch := omega) only [getDT, go_sem, *]) <;> (try simp only [pA, pB, pC, pD, pE, pF, pG, pH, pI, pJ, pK, pL, pM, pN, pO, pP, if_true, if_false]))); (all_goals try rfl); (all_goals try (repeat' (first | done | rfl | (exfalso; omega) | contradiction | (refine iteR (fun hq => ?_) (fun hq => ?_)))))
  · have e : ¬ a = b := fun e => c0 (by rw [e]; exact ⟨rfl, rfl, rfl⟩)
    rw [decide_eq_false e]
    by_cases c1 : a.version = b.version
    · by_cases c2 : a.l.length = b.l.length
      · have c3 : ¬ a.forward.length = b.forward.length := fun c3 => c0 ⟨c1, c2, c3⟩
        rw [callL_code g_ref10_Same (by simp)]; simp -implicitDefEqProofs (maxSteps := 4000000) (disch := omega) only [c_ref10_Same, r_ref10_Same, getDT, go_sem, *]; (try simp only [pA, pB, pC, pD, pE, pF, pG, pH, pI, pJ, pK, pL, pM, pN, pO, pP, if_true, if_false]); repeat' (first | done | rfl | (refine iteC (fun hq => ?_) (fun hq => ?_) <;> (try (first | (exfalso; omega) | contradiction)) <;> (try simp -implicitDefEqProofs (maxSteps := 4000000) (disch := omega) only [getDT, go_sem, *]) <;> (try simp only [pA, pB, pC, pD, pE, pF, pG, pH, pI, pJ, pK, pL, pM, pN, pO, pP, if_true, if_false]))); (all_goals try rfl); (all_goals try (repeat' (first | done | rfl | (exfalso; omega) | contradiction | (refine iteR (fun hq => ?_) (fun hq => ?_)))))
      · rw [callL_code g_ref10_Same (by simp)]; simp -implicitDefEqProofs (maxSteps := 4000000) (disch := omega) only [c_ref10_Same, r_ref10_Same, getDT, go_sem, *]; (try simp only [pA, pB, pC, pD, pE, pF, pG, pH, pI, pJ, pK, pL, pM, pN, pO, pP, if_true, if_false]); repeat' (first | done | rfl | (refine iteC (fun hq => ?_) (fun hq => ?_) <;> (try (first | (exfalso; omega) | contradiction)) <;> (try simp -implicitDefEqProofs (maxSteps := 4000000) (disch := omega) only [getDT, go_sem, *]) <;> (try simp only [pA, pB, pC, pD, pE, pF, pG, pH, pI, pJ, pK, pL, pM, pN, pO, pP, if_true, if_false]))); (all_goals try rfl); (all_goals try (repeat' (first | done | rfl | (exfalso; omega) | contradiction | (refine iteR (fun hq => ?_) (fun hq => ?_)))))
    · rw [callL_code g_ref10_Same (by simp)]; simp -implicitDefEqProofs (maxSteps := 4000000) (disch := omega) only [c_ref10_Same, r_ref10_Same, getDT, go_sem, *]; (try simp only [pA, pB, pC, pD, pE, pF, pG, pH, pI, pJ, pK, pL, pM, pN, pO, pP, if_true, if_false]); repeat' (first | done | rfl | (refine iteC (fun hq => ?_) (fun hq => ?_) <;> (try (first | (exfalso; omega) | contradiction)) <;> (try simp -implicitDefEqProofs (maxSteps := 4000000) (disch := omega) only [getDT, go_sem, *]) <;> (try simp only [pA, pB, pC, pD, pE, pF, pG, pH, pI, pJ, pK, pL, pM, pN, pO, pP, if_true, if_false]))); (all_goals try rfl); (all_goals try (repeat' (first | done | rfl | (exfalso; omega) | contradiction | (refine iteR (fun hq => ?_) (fun hq => ?_)))))
def d0S (slots live : Nat) : Nat → St
  | 0 => ⟨[(0, .d (.int .i64 slots)), (1, .d (.int .i64 live)), (4, .ref 4 0 0), (6, .ref 6 0 0), (7, .d (.int .i64 0))], [ob4, (6, .row [.agg [.d (.int .i64 1), .xsl [], .xsl []]])]⟩
  | k + 1 => ⟨[(0, .d (.int .i64 slots)), (1, .d (.int .i64 live)), (4, .ref 4 0 0), (6, .ref 6 0 0), (7, .d (.int .i64 ((k : Int) + 1)))], [ob4, (6, .row [.agg [.d (.int .i64 1), .acc 500042 ((spansN live (k + 1)).map eSpan), .xsl []]]), (500042, .acc (k + 1))]⟩
theorem r10_loop0 (slots live : Nat) (h1 : 1 ≤ live) (h2 : live ≤ slots) (h3 : slots ≤ 6) : ∀ k, k ≤ live → loopL G [] l_ref10_New_0 (d0S slots live k) = some (.exit 0, ⟨[(0, .d (.int .i64 slots)), (4, .ref 4 0 0), (6, .ref 6 0 0)], [ob4, (6, .row [.agg [.d (.int .i64 1), .acc 500042 ((spansN live live).map eSpan), .xsl []]]), (500042, .acc live)]⟩) := by
  refine loop_ind (fun k => live - k) _ _ _ fun k hk L ih => ?_
  simp only [l_ref10_New_0]
  by_cases h0 : k < live
  · have i1 := ih (k + 1) (by omega) (by omega)
    clear ih
    have hq1 : 0 ≤ (k : Int) * 65536 / (live : Int) ∧ (k : Int) * 65536 / (live : Int) ≤ 1000000 := by
      refine ⟨Int.ediv_nonneg (by omega) (by omega), Int.le_trans (Int.ediv_le_self _ (by omega)) (by omega)⟩
    have hq2 : 0 ≤ ((k : Int) + 1) * 65536 / (live : Int) ∧ ((k : Int) + 1) * 65536 / (live : Int) ≤ 1000000 := by
      refine ⟨Int.ediv_nonneg (by omega) (by omega), Int.le_trans (Int.ediv_le_self _ (by omega)) (by omega)⟩
    rcases k with _ | k
    · simp only [d0S] at i1
      rw [spansN_succ] at i1
      simp only [spanI, eSpan, ob4, spansN, List.range_zero, List.map_append, List.map_cons, List.map_nil, List.nil_append, Int.natCast_zero, Int.zero_mul, Int.zero_ediv, Int.zero_add, Int.one_mul, Nat.zero_add] at i1 hq1 hq2 ⊢
      simp only [d0S, ob4]
      (try simp -implicitDefEqProofs (maxSteps := 4000000) (disch := omega) only [tdivE, Int.zero_ediv, Int.zero_mul, Int.zero_add, Int.one_mul, getDT, go_sem, *]); (try simp only [pA, pB, pC, pD, pE, pF, pG, pH, pI, pJ, pK, pL, pM, pN, pO, pP, if_true, if_false]); repeat' (first | done | rfl | (refine iteC (fun hq => ?_) (fun hq => ?_) <;> (try (first | (exfalso; omega) | contradiction)) <;> (try simp -implicitDefEqProofs (maxSteps := 4000000) (disch := omega) only [tdivE, Int.zero_ediv, Int.zero_mul, Int.zero_add, Int.one_mul, getDT, go_sem, *]) <;> (try simp only [pA, pB, pC, pD, pE, pF, pG, pH, pI, pJ, pK, pL, pM, pN, pO, pP, if_true, if_false]))); (all_goals try rfl); (all_goals try (repeat' (first | done | rfl | (exfalso; omega) | contradiction | (refine iteR (fun hq => ?_) (fun hq => ?_)))))
    · simp only [d0S] at i1 ⊢
      rw [spansN_succ] at i1
      obtain ⟨es, hes⟩ : ∃ es, es = spansN live (k + 1) := ⟨_, rfl⟩
      have hesl : es.length = k + 1 := by rw [hes, spansN_len]
      rw [← hes] at i1 ⊢
      clear hes
      simp only [spanI, eSpan, ob4, List.map_append, List.map_cons, List.map_nil, Int.natCast_add, Int.natCast_one] at i1 hq1 hq2 ⊢
      (try simp -implicitDefEqProofs (maxSteps := 4000000) (disch := omega) only [tdivE, getDT, go_sem, *]); (try simp only [pA, pB, pC, pD, pE, pF, pG, pH, pI, pJ, pK, pL, pM, pN, pO, pP, if_true, if_false]); repeat' (first | done | rfl | (refine iteC (fun hq => ?_) (fun hq => ?_) <;> (try (first | (exfalso; omega) | contradiction)) <;> (try simp -implicitDefEqProofs (maxSteps := 4000000) (disch := omega) only [tdivE, getDT, go_sem, *]) <;> (try simp only [pA, pB, pC, pD, pE, pF, pG, pH, pI, pJ, pK, pL, pM, pN, pO, pP, if_true, if_false]))); (all_goals try rfl); (all_goals try (repeat' (first | done | rfl | (exfalso; omega) | contradiction | (refine iteR (fun hq => ?_) (fun hq => ?_)))))
  · have : k = live := by omega
    subst this
    clear ih
    rcases k with _ | k
    · omega
    · simp only [d0S, ob4]
      (try simp -implicitDefEqProofs (maxSteps := 4000000) (disch := omega) only [getDT, go_sem, *]); (try simp only [pA, pB, pC, pD, pE, pF, pG, pH, pI, pJ, pK, pL, pM, pN, pO, pP, if_true, if_false]); repeat' (first | done | rfl | (refine iteC (fun hq => ?_) (fun hq => ?_) <;> (try (first | (exfalso; omega) | contradiction)) <;> (try simp -implicitDefEqProofs (maxSteps := 4000000) (disch := omega) only [getDT, go_sem, *]) <;> (try simp only [pA, pB, pC, pD, pE, pF, pG, pH, pI, pJ, pK, pL, pM, pN, pO, pP, if_true, if_false]))); (all_goals try rfl); (all_goals try (repeat' (first | done | rfl | (exfalso; omega) | contradiction | (refine iteR (fun hq => ?_) (fun hq => ?_)))))
def d1S (slots : Nat) (es : List D) (m : Nat) : Nat → St
  | 0 => ⟨[(0, .d (.int .i64 slots)), (4, .ref 4 0 0), (6, .ref 6 0 0), (8, .d (.int .i64 0))], [ob4, (6, .row [.agg [.d (.int .i64 1), .acc 500042 es, .xsl []]]), (500042, .acc m)]⟩
  | k + 1 => ⟨[(0, .d (.int .i64 slots)), (4, .ref 4 0 0), (6, .ref 6 0 0), (8, .d (.int .i64 ((k : Int) + 1)))], [ob4, (6, .row [.agg [.d (.int .i64 1), .acc 500042 es, .acc 52 (ints (List.replicate (k + 1) (-1)))]]), (52, .acc (k + 1)), (500042, .acc m)]⟩
theorem r10_loop1 (slots : Nat) (h1 : 1 ≤ slots) (h3 : slots ≤ 6) (es : List D) (m : Nat) : ∀ k, k ≤ slots → loopL G [] l_ref10_New_1 (d1S slots es m k) = some (.exit 2, ⟨[(4, .ref 4 0 0), (6, .ref 6 0 0)], [ob4, (6, .row [.agg [.d (.int .i64 1), .acc 500042 es, .acc 52 (ints (List.replicate slots (-1)))]]), (52, .acc slots), (500042, .acc m)]⟩) := by
  refine loop_ind (fun k => slots - k) _ _ _ fun k hk L ih => ?_
  simp only [l_ref10_New_1]
  by_cases h0 : k < slots
  · have i1 := ih (k + 1) (by omega) (by omega)
    clear ih
    rcases k with _ | k
    · simp only [d1S, ob4, List.replicate_one, ints, List.map_cons, List.map_nil, Nat.zero_add, Int.natCast_zero, Int.zero_add] at i1 ⊢
      (try simp -implicitDefEqProofs (maxSteps := 4000000) (disch := omega) only [getDT, go_sem, *]); (try simp only [pA, pB, pC, pD, pE, pF, pG, pH, pI, pJ, pK, pL, pM, pN, pO, pP, if_true, if_false]); repeat' (first | done | rfl | (refine iteC (fun hq => ?_) (fun hq => ?_) <;> (try (first | (exfalso; omega) | contradiction)) <;> (try simp -implicitDefEqProofs (maxSteps := 4000000) (disch := omega) only [getDT, go_sem, *]) <;> (try simp only [pA, pB, pC, pD, pE, pF, pG, pH, pI, pJ, pK, pL, pM, pN, pO, pP, if_true, if_false]))); (all_goals try rfl); (all_goals try (repeat' (first | done | rfl | (exfalso; omega) | contradiction | (refine iteR (fun hq => ?_) (fun hq => ?_)))))
    · simp only [d1S, ob4] at i1 ⊢
      rw [List.replicate_succ'] at i1
      obtain ⟨fs, hfs⟩ : ∃ fs, fs = List.replicate (k + 1) (-1 : Int) := ⟨_, rfl⟩
      have hl : fs.length = k + 1 := by rw [hfs, List.length_replicate]
      rw [← hfs] at i1 ⊢
      clear hfs
      simp only [ints] at i1 ⊢
      simp only [Int.natCast_add, Int.natCast_one, Int.natCast_zero, Int.natCast_mul, Int.cast_ofNat_Int, List.length_append, List.length_map, List.map_nil, List.length_nil, List.map_append, List.map_cons, List.length_cons, Nat.zero_add, srcO, mapSet] at i1
      (try simp -implicitDefEqProofs (maxSteps := 4000000) (disch := omega) only [getDT, go_sem, *]); (try simp only [pA, pB, pC, pD, pE, pF, pG, pH, pI, pJ, pK, pL, pM, pN, pO, pP, if_true, if_false]); repeat' (first | done | rfl | (refine iteC (fun hq => ?_) (fun hq => ?_) <;> (try (first | (exfalso; omega) | contradiction)) <;> (try simp -implicitDefEqProofs (maxSteps := 4000000) (disch := omega) only [getDT, go_sem, *]) <;> (try simp only [pA, pB, pC, pD, pE, pF, pG, pH, pI, pJ, pK, pL, pM, pN, pO, pP, if_true, if_false]))); (all_goals try rfl); (all_goals try (repeat' (first | done | rfl | (exfalso; omega) | contradiction | (refine iteR (fun hq => ?_) (fun hq => ?_)))))
  · have : k = slots := by omega
    subst this
    clear ih
    rcases k with _ | k
    · omega
    · simp only [d1S, ob4]
      (try simp -implicitDefEqProofs (maxSteps := 4000000) (disch := omega) only [getDT, go_sem, *]); (try simp only [pA, pB, pC, pD, pE, pF, pG, pH, pI, pJ, pK, pL, pM, pN, pO, pP, if_true, if_false]); repeat' (first | done | rfl | (refine iteC (fun hq => ?_) (fun hq => ?_) <;> (try (first | (exfalso; omega) | contradiction)) <;> (try simp -implicitDefEqProofs (maxSteps := 4000000) (disch := omega) only [getDT, go_sem, *]) <;> (try simp only [pA, pB, pC, pD, pE, pF, pG, pH, pI, pJ, pK, pL, pM, pN, pO, pP, if_true, if_false]))); (all_goals try rfl); (all_goals try (repeat' (first | done | rfl | (exfalso; omega) | contradiction | (refine iteR (fun hq => ?_) (fun hq => ?_)))))
theorem r10new_ok (slots live : Int) : callL G N_ref10_New [.d (.int .i64 slots), .d (.int .i64 live)] [] = some (.d (.tup [eDirectory (newD slots live).1, .int .i64 (newD slots live).2]), []) := by
  unfold newD
  by_cases c1 : live < 1 ∨ slots < live ∨ 6 < slots
  · rw [if_pos c1]
    rw [callL_code g_ref10_New (by simp)]; simp -implicitDefEqProofs (maxSteps := 4000000) (disch := omega) only [c_ref10_New, r_ref10_New, getDT, go_sem, *]; (try simp only [pA, pB, pC, pD, pE, pF, pG, pH, pI, pJ, pK, pL, pM, pN, pO, pP, if_true, if_false]); repeat' (first | done | rfl | (refine iteC (fun hq => ?_) (fun hq => ?_) <;> (try (first | (exfalso; omega) | contradiction)) <;> (try simp -implicitDefEqProofs (maxSteps := 4000000) (disch := omega) only [getDT, go_sem, *]) <;> (try simp only [pA, pB, pC, pD, pE, pF, pG, pH, pI, pJ, pK, pL, pM, pN, pO, pP, if_true, if_false]))); (all_goals try rfl); (all_goals try (repeat' (first | done | rfl | (exfalso; omega) | contradiction | (refine iteR (fun hq => ?_) (fun hq => ?_)))))
  rw [if_neg c1]
  obtain ⟨s, hs⟩ : ∃ s : Nat, slots = s := ⟨slots.toNat, by omega⟩
  obtain ⟨l, hl⟩ : ∃ l : Nat, live = l := ⟨live.toNat, by omega⟩
  subst hs hl
  have h0 := r10_loop0 s l (by omega) (by omega) (by omega) 0 (by omega)
  have h1 := r10_loop1 s (by omega) (by omega) ((spansN l l).map eSpan) l 0 (by omega)
  simp only [ob4, d0S, d1S] at h0 h1
  simp only [Int.toNat_natCast, dirN]
  rw [callL_code g_ref10_New (by simp)]; simp -implicitDefEqProofs (maxSteps := 4000000) (disch := omega) only [c_ref10_New, r_ref10_New, getDT, go_sem, *]; (try simp only [pA, pB, pC, pD, pE, pF, pG, pH, pI, pJ, pK, pL, pM, pN, pO, pP, if_true, if_false]); repeat' (first | done | rfl | (refine iteC (fun hq => ?_) (fun hq => ?_) <;> (try (first | (exfalso; omega) | contradiction)) <;> (try simp -implicitDefEqProofs (maxSteps := 4000000) (disch := omega) only [getDT, go_sem, *]) <;> (try simp only [pA, pB, pC, pD, pE, pF, pG, pH, pI, pJ, pK, pL, pM, pN, pO, pP, if_true, if_false]))); (all_goals try rfl); (all_goals try (repeat' (first | done | rfl | (exfalso; omega) | contradiction | (refine iteR (fun hq => ?_) (fun hq => ?_)))))
end Go.Proofs.Ytkdjbfjohbiemaa
