/-
  Walks towards a predicate of the result; arrays of numbers that are written at any place.
  SnapshotHolds: whatever purges and ticks come between.
-/
import Derived.Test.YtamiielalcnakaaB8dc9f31
import Derived.Test.YtamiielalcnakaaB47ac5cc
set_option linter.unusedSimpArgs false
set_option linter.unusedVariables false
namespace Go.Sim
def Post {α : Type} (φ : α → Prop) (r : α) : Prop := φ r
theorem iteP {α : Type} {φ : α → Prop} {c : Prop} [Decidable c] {A B : α} (h1 : c → Post φ A) (h2 : ¬ c → Post φ B) : Post φ (if c then A else B) := by split <;> simp_all
theorem Post.some {α : Type} {φ : Option α → Prop} {r : Option α} {a : α} (h : φ (some a)) (e : r = some a) : Post φ r := by rw [e]; exact h
theorem over_agg {cs : List D} {k : Nat} {k' : IntKind} {v : Int} (h : k < cs.length) (h1 : cs.length ≠ 1) : over (.d (.agg cs)) k (.d (.int k' v)) = some (.d (.agg (cs.set k (.int k' v)))) := by
  unfold over
  rw [if_neg (by simp [AV.size, D.size, D.cells]; omega), if_pos (by simp [AV.size, D.size, D.cells]; omega)]
  have : splice (AV.cells (.d (.agg cs))) k (AV.cells (.d (.int k' v))) = (cs.set k (.int k' v)).map .d := by
    simp only [AV.cells, D.cells, List.map_cons, List.map_nil]
    rw [splice, List.map_set, List.set_eq_take_append_cons_drop, if_pos (by simpa using h)]
    simp
  rw [this, AV.mkAgg, allD_map]
theorem over_ints {E : List Int} {k : Nat} {k' : IntKind} {v : Int} (h : k < E.length) (h1 : E.length ≠ 1) : over (.d (.agg (E.map (D.int k')))) k (.d (.int k' v)) = some (.d (.agg ((E.set k v).map (D.int k')))) := by
  rw [over_agg (by simpa using h) (by simpa using h1), List.map_set]
attribute [go_sem high] over_ints
attribute [go_sem] Nat.mul_one
end Go.Sim

namespace Go.Proofs.Ytamiielalcnakaa
open Go Go.Sim
set_option linter.unusedSimpArgs false
set_option linter.unusedVariables false
set_option maxHeartbeats 10000000
set_option maxRecDepth 40000
def aEC (a : Arena) (e c : Int) : Arena := { a with epoch := e, clock := c }
structure SH where
  n : Nat
  at0 : Nat
  e : Int
  c : Int
  x : Snapshot
  E : List Int
  C : List Int
def shS (l : List Int) (a : Arena) (s : SH) : St := ⟨[(3, .ref 13 0 0), (4, .ref 4 0 0), (6, .ref 6 0 0), (7, .ref 7 0 0), (8, .ref 8 0 0), (9, .d (.int .i64 s.n))], [(4, .row [.d (eArena (aEC a s.e s.c))]), (6, .row [.d (eSnapshot s.x)]), (7, .row [.d (.agg (ints s.E))]), (8, .row [.d (.agg (ints s.C))]), (13, srcO l s.at0)]⟩
def shG (x : Snapshot) (E C : List Int) : Prop := E.length = 41 ∧ C.length = 41 ∧ ((0 ≤ x.phase ∧ x.phase < 3) ∨ (x.phase = 3 ∧ ∃ k : Nat, x.stamp = k ∧ 1 ≤ k ∧ k ≤ 40 ∧ E.getD k 0 = x.epoch ∧ C.getD k 0 = x.clock))
def shPhi (r : Option (AExit × St)) : Prop := ∃ x E C, shG x E C ∧ r = some (.exit 0, ⟨[(6, .ref 6 0 0), (7, .ref 7 0 0), (8, .ref 8 0 0)], [(6, .row [.d (eSnapshot x)]), (7, .row [.d (.agg (ints E))]), (8, .row [.d (.agg (ints C))])]⟩)
def shInv (s : SH) : Prop := 1 ≤ s.n ∧ s.n ≤ 41 ∧ 0 ≤ s.e ∧ s.e < s.n ∧ 0 ≤ s.c ∧ s.c ≤ 4 * ((s.n : Int) - 1) ∧ s.E.length = 41 ∧ s.C.length = 41 ∧
  (s.x.phase = 0 ∨ (s.x.phase = 1 ∧ s.x.epoch ≤ s.e) ∨ (s.x.phase = 2 ∧ s.x.epoch ≤ s.e ∧ ∃ k : Nat, s.x.stamp = k ∧ 1 ≤ k ∧ k < s.n ∧ s.x.epoch ≤ s.E.getD k 0 ∧ s.E.getD k 0 ≤ s.e ∧ s.C.getD k 0 = s.x.clock) ∨
    (s.x.phase = 3 ∧ ∃ k : Nat, s.x.stamp = k ∧ 1 ≤ k ∧ k < s.n ∧ s.E.getD k 0 = s.x.epoch ∧ s.C.getD k 0 = s.x.clock))
theorem getD_set_ne {l : List Int} {i j : Nat} {v : Int} (h : i ≠ j) : (l.set i v).getD j 0 = l.getD j 0 := by simp [List.getD_eq_getElem?_getD, List.getElem?_set_ne h]
theorem getD_set_eq {l : List Int} {i : Nat} {v : Int} (h : i < l.length) : (l.set i v).getD i 0 = v := by simp [List.getD_eq_getElem?_getD, h]
theorem mapSetI (E : List Int) (n : Nat) (v : Int) : (List.map (D.int .i64) E).set n (D.int .i64 v) = List.map (D.int .i64) (E.set n v) := by rw [List.map_set]
theorem sh_loop (l : List Int) (hL : l.length ≤ 4000) (a : Arena) : ∀ s : SH, shInv s → shPhi (loopL G [] l_law14_SnapshotHolds_0 (shS l a s)) := by
  refine loop_indP (fun s : SH => 42 - s.n) shInv (shS l a) (fun _ => Post shPhi) fun ⟨n, at0, e, c, x, E, C⟩ hinv L ih => ?_
  obtain ⟨h1, h2, h3, h3', h4, h4', h5, h6, hx⟩ := hinv
  obtain ⟨ph, ep, ck, sp⟩ := x
  simp only at h1 h2 h3 h3' h4 h4' h5 h6 hx
  have hn := fun at1 m => n_ok l at1 m hL
  have hi2 := fun at1 => nD_in l at1 (n := 5) (by omega)
  have hst := snapStep_ok (aEC a e c) ⟨ph, ep, ck, sp⟩ n
  have hcas := acas_ok (aEC a e c) 1 e (e + 1)
  have htk := fun e' at1 => atick_ok (aEC a e' c) (nD l at1 5)
  have c1 : casD (aEC a e c) 1 e (e + 1) = (aEC a (e + 1) c, true, 0) := by
    have : inB (e + 1) 0 65536 = true := by simp [inB]; omega
    simp [casD, this, aEC]
  have c2 : ∀ e' at1, tickD (aEC a e' c) (nD l at1 5) = (aEC a e' (c + nD l at1 5), 0) := fun e' at1 => by
    have := hi2 at1
    have h1 : inB (nD l at1 5) 0 1099511627776 = true := by simp [inB]; omega
    have h2 : ¬ 1073741824 - c < nD l at1 5 := by omega
    simp [tickD, h1, aEC, wr (x := 1073741824 - c) (by omega), wr (x := c + nD l at1 5) (by omega), h2]
  rw [c1] at hcas
  simp only [c2] at htk
  clear c1 c2
  have fin : ∀ x' : Snapshot, (x'.phase = 1 ∧ x'.epoch ≤ e ∨ (x'.phase = 2 ∧ x'.epoch ≤ e ∧ ∃ k : Nat, x'.stamp = k ∧ 1 ≤ k ∧ k < n + 1 ∧ x'.epoch ≤ (E.set n e).getD k 0 ∧ (E.set n e).getD k 0 ≤ e ∧ (C.set n c).getD k 0 = x'.clock) ∨
      (x'.phase = 3 ∧ ∃ k : Nat, x'.stamp = k ∧ 1 ≤ k ∧ k < n + 1 ∧ (E.set n e).getD k 0 = x'.epoch ∧ (C.set n c).getD k 0 = x'.clock)) →
      ∀ at1 e' c', 0 ≤ e' → e ≤ e' → e' ≤ e + 1 → 0 ≤ c' → c' ≤ c + 4 → n ≤ 40 → Post shPhi (L (shS l a ⟨n + 1, at1, e', c', x', E.set n e, C.set n c⟩)) := by
    intro x' hx' at1 e' c' g1 g2 g3 g4 g5 g6
    refine ih _ ⟨by simp, by simp only; omega, g1, by simp only; omega, g4, by simp only; omega, by simp [h5], by simp [h6], ?_⟩ (by simp only; omega)
    rcases hx' with ⟨q1, q2⟩ | ⟨q1, q2, k, q3, q4, q5, q6, q7, q8⟩ | h
    · exact .inr (.inl ⟨q1, by simp only; omega⟩)
    · exact .inr (.inr (.inl ⟨q1, by simp only; omega, k, q3, q4, q5, q6, by simp only; omega, q8⟩))
    · exact .inr (.inr (.inr h))
  by_cases hn40 : n ≤ 40
  · rcases hx with rfl | ⟨rfl, hx⟩ | ⟨rfl, hx, k, rfl, k1, k2, k3, k4, k5⟩ | ⟨rfl, k, rfl, k1, k2, k3, k4⟩
    · simp only [l_law14_SnapshotHolds_0, shS, eArena, eSnapshot, aEC, snapStep, if_true] at hst hcas htk fin ⊢
      (try simp -implicitDefEqProofs (maxSteps := 4000000) (disch := omega) only [getDT, go_sem, *]); (try simp only [pA, pB, pC, pD, pE, pF, pG, pH, pI, pJ, pK, pL, pM, pN, pO, pP, if_true, if_false]); repeat' (first | done | rfl | ((first | refine iteC (fun hq => ?_) (fun hq => ?_) | refine iteP (fun hq => ?_) (fun hq => ?_)) <;> (try (first | (exfalso; omega) | contradiction)) <;> (try simp -implicitDefEqProofs (maxSteps := 4000000) (disch := omega) only [getDT, go_sem, *]) <;> (try simp only [pA, pB, pC, pD, pE, pF, pG, pH, pI, pJ, pK, pL, pM, pN, pO, pP, if_true, if_false]))); (all_goals try rfl); (all_goals try (repeat' (first | done | rfl | (exfalso; omega) | contradiction | (refine iteR (fun hq => ?_) (fun hq => ?_)))))
      all_goals simp only [mapSetI]
      all_goals refine fin ⟨1, e, ck, sp⟩ (.inl ⟨rfl, Int.le_refl _⟩) _ _ _ ?_ ?_ ?_ ?_ ?_ hn40
      all_goals (first | omega | (have := hi2 (rawD l (rawD l at0).2).2; omega))
    · simp only [l_law14_SnapshotHolds_0, shS, eArena, eSnapshot, aEC, snapStep, Int.reduceEq, if_true, if_false] at hst hcas htk fin ⊢
      (try simp -implicitDefEqProofs (maxSteps := 4000000) (disch := omega) only [getDT, go_sem, *]); (try simp only [pA, pB, pC, pD, pE, pF, pG, pH, pI, pJ, pK, pL, pM, pN, pO, pP, if_true, if_false]); repeat' (first | done | rfl | ((first | refine iteC (fun hq => ?_) (fun hq => ?_) | refine iteP (fun hq => ?_) (fun hq => ?_)) <;> (try (first | (exfalso; omega) | contradiction)) <;> (try simp -implicitDefEqProofs (maxSteps := 4000000) (disch := omega) only [getDT, go_sem, *]) <;> (try simp only [pA, pB, pC, pD, pE, pF, pG, pH, pI, pJ, pK, pL, pM, pN, pO, pP, if_true, if_false]))); (all_goals try rfl); (all_goals try (repeat' (first | done | rfl | (exfalso; omega) | contradiction | (refine iteR (fun hq => ?_) (fun hq => ?_)))))
      all_goals simp only [mapSetI]
      all_goals refine fin ⟨2, ep, c, n⟩ (.inr (.inl ⟨rfl, hx, n, rfl, h1, by omega, by rw [getD_set_eq (by omega)]; exact hx, by rw [getD_set_eq (by omega)]; omega, getD_set_eq (by omega)⟩)) _ _ _ ?_ ?_ ?_ ?_ ?_ hn40
      all_goals (first | omega | (have := hi2 (rawD l (rawD l at0).2).2; omega))
    · by_cases he : e = ep
      · subst he
        simp only [l_law14_SnapshotHolds_0, shS, eArena, eSnapshot, aEC, snapStep, Int.reduceEq, if_true, if_false] at hst hcas htk fin ⊢
        (try simp -implicitDefEqProofs (maxSteps := 4000000) (disch := omega) only [getDT, go_sem, *]); (try simp only [pA, pB, pC, pD, pE, pF, pG, pH, pI, pJ, pK, pL, pM, pN, pO, pP, if_true, if_false]); repeat' (first | done | rfl | ((first | refine iteC (fun hq => ?_) (fun hq => ?_) | refine iteP (fun hq => ?_) (fun hq => ?_)) <;> (try (first | (exfalso; omega) | contradiction)) <;> (try simp -implicitDefEqProofs (maxSteps := 4000000) (disch := omega) only [getDT, go_sem, *]) <;> (try simp only [pA, pB, pC, pD, pE, pF, pG, pH, pI, pJ, pK, pL, pM, pN, pO, pP, if_true, if_false]))); (all_goals try rfl); (all_goals try (repeat' (first | done | rfl | (exfalso; omega) | contradiction | (refine iteR (fun hq => ?_) (fun hq => ?_)))))
        all_goals simp only [mapSetI]
        all_goals refine fin ⟨3, e, ck, k⟩ (.inr (.inr ⟨rfl, k, rfl, k1, by omega, by rw [getD_set_ne (by omega)]; simp only; omega, by rw [getD_set_ne (by omega)]; exact k5⟩)) _ _ _ ?_ ?_ ?_ ?_ ?_ hn40
        all_goals (first | omega | (have := hi2 (rawD l (rawD l at0).2).2; omega))
      · simp only [l_law14_SnapshotHolds_0, shS, eArena, eSnapshot, aEC, snapStep, Int.reduceEq, he, if_true, if_false] at hst hcas htk fin ⊢
        (try simp -implicitDefEqProofs (maxSteps := 4000000) (disch := omega) only [getDT, go_sem, *]); (try simp only [pA, pB, pC, pD, pE, pF, pG, pH, pI, pJ, pK, pL, pM, pN, pO, pP, if_true, if_false]); repeat' (first | done | rfl | ((first | refine iteC (fun hq => ?_) (fun hq => ?_) | refine iteP (fun hq => ?_) (fun hq => ?_)) <;> (try (first | (exfalso; omega) | contradiction)) <;> (try simp -implicitDefEqProofs (maxSteps := 4000000) (disch := omega) only [getDT, go_sem, *]) <;> (try simp only [pA, pB, pC, pD, pE, pF, pG, pH, pI, pJ, pK, pL, pM, pN, pO, pP, if_true, if_false]))); (all_goals try rfl); (all_goals try (repeat' (first | done | rfl | (exfalso; omega) | contradiction | (refine iteR (fun hq => ?_) (fun hq => ?_)))))
        all_goals simp only [mapSetI]
        all_goals refine fin ⟨1, e, ck, k⟩ (.inl ⟨rfl, Int.le_refl _⟩) _ _ _ ?_ ?_ ?_ ?_ ?_ hn40
        all_goals (first | omega | (have := hi2 (rawD l (rawD l at0).2).2; omega))
    · clear ih fin
      simp only [l_law14_SnapshotHolds_0, shS, eArena, eSnapshot, aEC]
      (try simp -implicitDefEqProofs (maxSteps := 4000000) (disch := omega) only [getDT, go_sem, *]); (try simp only [pA, pB, pC, pD, pE, pF, pG, pH, pI, pJ, pK, pL, pM, pN, pO, pP, if_true, if_false]); repeat' (first | done | rfl | ((first | refine iteC (fun hq => ?_) (fun hq => ?_) | refine iteP (fun hq => ?_) (fun hq => ?_)) <;> (try (first | (exfalso; omega) | contradiction)) <;> (try simp -implicitDefEqProofs (maxSteps := 4000000) (disch := omega) only [getDT, go_sem, *]) <;> (try simp only [pA, pB, pC, pD, pE, pF, pG, pH, pI, pJ, pK, pL, pM, pN, pO, pP, if_true, if_false]))); (all_goals try rfl); (all_goals try (repeat' (first | done | rfl | (exfalso; omega) | contradiction | (refine iteR (fun hq => ?_) (fun hq => ?_)))))
      refine ⟨⟨3, ep, ck, k⟩, E, C, ⟨h5, h6, .inr ⟨rfl, k, rfl, k1, by omega, k3, k4⟩⟩, ?_⟩
      rfl
  · clear ih fin
    simp only [l_law14_SnapshotHolds_0, shS, eArena, eSnapshot, aEC]
    (try simp -implicitDefEqProofs (maxSteps := 4000000) (disch := omega) only [getDT, go_sem, *]); (try simp only [pA, pB, pC, pD, pE, pF, pG, pH, pI, pJ, pK, pL, pM, pN, pO, pP, if_true, if_false]); repeat' (first | done | rfl | ((first | refine iteC (fun hq => ?_) (fun hq => ?_) | refine iteP (fun hq => ?_) (fun hq => ?_)) <;> (try (first | (exfalso; omega) | contradiction)) <;> (try simp -implicitDefEqProofs (maxSteps := 4000000) (disch := omega) only [getDT, go_sem, *]) <;> (try simp only [pA, pB, pC, pD, pE, pF, pG, pH, pI, pJ, pK, pL, pM, pN, pO, pP, if_true, if_false]))); (all_goals try rfl); (all_goals try (repeat' (first | done | rfl | (exfalso; omega) | contradiction | (refine iteR (fun hq => ?_) (fun hq => ?_)))))
    refine ⟨⟨ph, ep, ck, sp⟩, E, C, ⟨h5, h6, ?_⟩, rfl⟩
    rcases hx with rfl | ⟨rfl, hx⟩ | ⟨rfl, hx, k, rfl, k1, k2, k3, k4, k5⟩ | ⟨rfl, k, rfl, k1, k2, k3, k4⟩
    · exact .inl ⟨by simp, by simp⟩
    · exact .inl ⟨by simp, by simp⟩
    · exact .inl ⟨by simp, by simp⟩
    · exact .inr ⟨rfl, k, rfl, k1, by omega, k3, k4⟩
theorem holds_ok (l : List Int) (hL : l.length ≤ LIM) : callL G N_law14_SnapshotHolds [.d (.sl (ints l))] [] = some (.d (.bool true), []) := by
  have hnew := new_ok l hL
  obtain ⟨a, hA, ha, he, hc⟩ := arena1
  have hb := arenaNew_ok setup1
  rw [ha] at hb
  have hsn := snapNew_ok
  have haw := awake14_ok
  obtain ⟨x, E, C, ⟨g1, g2, g3⟩, hl⟩ := sh_loop (l.take 4000) (by simp; omega) a ⟨1, 0, 0, 0, zSnapshot, List.replicate 41 0, List.replicate 41 0⟩ ⟨by decide, by decide, by decide, by decide, by decide, by decide, by simp, by simp, .inl rfl⟩
  obtain ⟨ph, ep, ck, sp⟩ := x
  have e0 : aEC a 0 0 = a := by unfold aEC; rw [← he]; cases a; simp_all
  simp only [shS, e0] at hl
  simp only [srcO, eSetup, setup1, eArena, eSnapshot, zSnapshot] at hnew hb hsn hl
  simp only at g3
  simp only [ints, List.map_replicate, List.reduceReplicate] at hl
  simp only [Int.natCast_add, Int.natCast_one, Int.natCast_zero, Int.natCast_mul, Int.cast_ofNat_Int, List.length_append, List.length_map, List.map_nil, List.length_nil, List.map_append, List.map_cons, List.length_cons, Nat.zero_add, srcO, mapSet] at hl
  clear hA ha e0
  simp only [he, hc] at hl
  rcases g3 with ⟨g3, g4⟩ | ⟨rfl, k, rfl, k1, k2, k3, k4⟩
  · rw [callL_code g_law14_SnapshotHolds (by simp)]; simp -implicitDefEqProofs (maxSteps := 4000000) (disch := omega) only [c_law14_SnapshotHolds, r_law14_SnapshotHolds, getDT, go_sem, *]; (try simp only [pA, pB, pC, pD, pE, pF, pG, pH, pI, pJ, pK, pL, pM, pN, pO, pP, if_true, if_false]); repeat' (first | done | rfl | ((first | refine iteC (fun hq => ?_) (fun hq => ?_) | refine iteP (fun hq => ?_) (fun hq => ?_)) <;> (try (first | (exfalso; omega) | contradiction)) <;> (try simp -implicitDefEqProofs (maxSteps := 4000000) (disch := omega) only [getDT, go_sem, *]) <;> (try simp only [pA, pB, pC, pD, pE, pF, pG, pH, pI, pJ, pK, pL, pM, pN, pO, pP, if_true, if_false]))); (all_goals try rfl); (all_goals try (repeat' (first | done | rfl | (exfalso; omega) | contradiction | (refine iteR (fun hq => ?_) (fun hq => ?_)))))
  · have q3 : ep = E[k]'(by omega) := by rw [← k3]; simp [List.getD_eq_getElem?_getD, List.getElem?_eq_getElem (show k < E.length by omega)]
    have q4 : ck = C[k]'(by omega) := by rw [← k4]; simp [List.getD_eq_getElem?_getD, List.getElem?_eq_getElem (show k < C.length by omega)]
    rw [callL_code g_law14_SnapshotHolds (by simp)]; simp -implicitDefEqProofs (maxSteps := 4000000) (disch := omega) only [c_law14_SnapshotHolds, r_law14_SnapshotHolds, getDT, go_sem, *]; (try simp only [pA, pB, pC, pD, pE, pF, pG, pH, pI, pJ, pK, pL, pM, pN, pO, pP, if_true, if_false]); repeat' (first | done | rfl | ((first | refine iteC (fun hq => ?_) (fun hq => ?_) | refine iteP (fun hq => ?_) (fun hq => ?_)) <;> (try (first | (exfalso; omega) | contradiction)) <;> (try simp -implicitDefEqProofs (maxSteps := 4000000) (disch := omega) only [getDT, go_sem, *]) <;> (try simp only [pA, pB, pC, pD, pE, pF, pG, pH, pI, pJ, pK, pL, pM, pN, pO, pP, if_true, if_false]))); (all_goals try rfl); (all_goals try (repeat' (first | done | rfl | (exfalso; omega) | contradiction | (refine iteR (fun hq => ?_) (fun hq => ?_)))))
end Go.Proofs.Ytamiielalcnakaa
