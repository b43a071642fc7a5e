/-
  Until, as the reference has it.
-/
import Derived.Test.YtlphhhmicdjljabQD11
namespace Go.Proofs.Ytlphhhmicdjljab
open Go Go.Sim
set_option linter.unusedSimpArgs false
set_option linter.unusedVariables false
set_option maxHeartbeats 2000000
set_option maxRecDepth 40000

/-! ### The reference's Until -/
theorem asc_uniq : ∀ (a b : List Due), a.Perm b → a.Pairwise (fun x y => lt y x = false) → b.Pairwise (fun x y => lt y x = false) → a.Nodup → a = b := by
  intro a
  induction a with
  | nil => intro b hp _ _ _; exact (List.Perm.nil_eq hp)
  | cons x a ih =>
    intro b hp ha hb hn
    cases b with
    | nil => exact absurd hp.symm.nil_eq (by simp)
    | cons y b =>
      have hxy : x = y := by
        by_cases e : x = y
        · exact e
        · have h1 : y ∈ a := by
            have := hp.symm.subset (List.mem_cons_self (a := y) (l := b))
            rcases List.mem_cons.1 this with h | h
            · exact absurd h.symm e
            · exact h
          have h2 : x ∈ b := by
            have := hp.subset (List.mem_cons_self (a := x) (l := a))
            rcases List.mem_cons.1 this with h | h
            · exact absurd h e
            · exact h
          have h3 := (List.pairwise_cons.1 ha).1 y h1
          have h4 := (List.pairwise_cons.1 hb).1 x h2
          rw [lt_ff] at h3 h4
          exact Prod.ext (by omega) (by omega)
      subst hxy
      rw [ih b ((List.perm_cons _).1 hp) (List.pairwise_cons.1 ha).2 (List.pairwise_cons.1 hb).2 (List.nodup_cons.1 hn).2]
theorem asc_pw {l : List Due} (h : Asc l l.length) : l.Pairwise (fun x y => lt y x = false) := by
  rw [List.pairwise_iff_getElem]
  intro i j hi hj hij
  have := h i j hij hj
  simpa [hi, hj] using this
theorem sort_pop1 {h : List Due} (o : Ok h) (hne : h ≠ []) : sortG h 1 = h.getD 0 dz :: sortG (dropL h 0) 1 := by
  have hd := drop_ok' o 0 (List.length_pos_iff.2 hne)
  have s1 := sortG_spec h 1 (fun p q hp hq => by omega)
  have s2 := sortG_spec (dropL h 0) 1 (fun p q hp hq => by omega)
  have hl1 := s1.2.length_eq
  have hl2 := s2.2.length_eq
  rw [← hl1] at s1
  rw [← hl2] at s2
  have hnd : h.Nodup := List.Pairwise.of_map (fun d : Due => d.2) (fun a b hh e => hh (by rw [e])) o.ids
  refine asc_uniq _ _ (s1.2.trans (hd.2.symm.trans (s2.2.symm.cons _))) (asc_pw s1.1) (List.pairwise_cons.2 ⟨fun d hm => ?_, asc_pw s2.1⟩) (s1.2.nodup_iff.2 hnd)
  exact top_min' o.ord d (hd.2.subset (List.mem_cons_of_mem _ (s2.2.subset hm)))
theorem untilD_step {h : List Due} {now : Int} (o : Ok h) (hne : h ≠ []) : untilD h now = if (h.getD 0 dz).1 ≤ now then (h.getD 0 dz).2 :: untilD (dropL h 0) now else [] := by
  have hd := drop_ok' o 0 (List.length_pos_iff.2 hne)
  unfold untilD
  rw [if_pos ((validate_iff h).2 o), if_pos ((validate_iff _).2 hd.1), sort_pop1 o hne]
  unfold dueIds
  by_cases hc : (h.getD 0 dz).1 ≤ now
  · rw [if_pos hc, List.filter_cons_of_pos (by simpa using hc), List.map_cons]
  · rw [if_neg hc, List.filter_cons_of_neg (by simpa using hc)]
    have : ∀ d ∈ sortG (dropL h 0) 1, ¬ d.1 ≤ now := by
      intro d hm
      have s2 := sortG_spec (dropL h 0) 1 (fun p q hp hq => by omega)
      have := top_min' o.ord d (hd.2.subset (List.mem_cons_of_mem _ (s2.2.subset hm)))
      rw [lt_ff] at this
      omega
    rw [List.filter_eq_nil_iff.2 (by simpa using this)]
    rfl
def rUS (now : Int) (p : List Due × List Int) : St := ⟨[(0, .d (.sl (p.1.map eD))), (1, .d (.int .i64 now)), (5, .acc 5 (ints p.2))], [(5, .acc p.2.length)]⟩
theorem refUntil_loop (now : Int) : ∀ p : List Due × List Int, p.1.length ≤ LIM ∧ (validateD p.1 = 0 → p.1.length + p.2.length ≤ 1000) → loopL G [] l_ref05_Until_0 (rUS now p) = some (.exit 0, ⟨[(5, .acc 5 (ints (p.2 ++ untilD p.1 now)))], [(5, .acc (p.2 ++ untilD p.1 now).length)]⟩) := by
  refine loop_ind (fun p : List Due × List Int => p.1.length) _ (rUS now) _ fun ⟨h, out⟩ ⟨hL, hL2⟩ L ih => ?_
  simp only [rUS] at ih hL hL2 ⊢
  have hv := refValidate_ok h hL
  by_cases h0 : validateD h = 0
  · have hl3 := hL2 h0
    have o := (validate_iff h).1 h0
    by_cases he : h = []
    · subst he
      have e : untilD [] now = [] := by unfold untilD; rw [if_pos h0]; unfold sortG; simp [dueIds]
      rw [e, List.append_nil]
      simp only [l_ref05_Until_0, List.map_nil] at hv ⊢
      simp -implicitDefEqProofs (disch := omega) only [wr, Int.cast_ofNat_Int, Int.natCast_zero, List.length_append, lim_eq, wu64, wu32, wu8, Bool.true_beq, Bool.false_beq, beqT, beqF, Int.natCast_add, Int.natCast_one, ltT, ltF, leT, leF, eqT, eqF, nltT, nltF, nleT, nleF, neqT, neqF, mapGet, Int.toNat_natCast, Int.natCast_nonneg, List.length_map, go_sem, ↓reduceIte, reduceCtorEq, Nat.reduceEqDiff, Nat.reduceAdd, Nat.reduceBEq, Nat.reduceMul, Nat.reduceLeDiff, Nat.reduceSub, Nat.reduceLT, Nat.reduceDiv, Nat.reduceMod, List.reduceReplicate, Int.reduceEq, Int.reduceLT, Int.reduceLE, Int.reduceAdd, Int.reduceSub, Int.reduceMul, Int.reduceNeg, Int.reduceToNat, hv, h0]
    · have hpos := List.length_pos_iff.2 he
      have hd := drop_ok' o 0 hpos
      have hl1 : (dropL h 0).length + 1 = h.length := by simpa using hd.2.length_eq
      have hg : (h.map eD)[0]? = some (eD (h.getD 0 dz)) := by simp [List.getElem?_map, List.getElem?_eq_getElem hpos, hpos]
      have hc := refCut_ok h 0 hpos (by omega)
      simp only [Int.natCast_zero] at hc
      rw [untilD_step o he]
      have := ih (dropL h 0, out ++ [(h.getD 0 dz).2]) ⟨by simp only; omega, fun _ => by simp only [List.length_append, List.length_singleton]; omega⟩ (by simp only; omega)
      simp only [l_ref05_Until_0]
      by_cases hcc : (h.getD 0 dz).1 ≤ now
      · rw [if_pos hcc]
        simp only [List.append_assoc, List.cons_append, List.nil_append] at this
        simp only [ints, List.map_append, List.map_cons, List.map_nil, List.length_append, List.length_cons, List.length_nil, Int.natCast_add, Int.natCast_one, Nat.zero_add] at this
        simp -implicitDefEqProofs (disch := omega) only [wr, Int.cast_ofNat_Int, Int.natCast_zero, List.length_append, lim_eq, wu64, wu32, wu8, Bool.true_beq, Bool.false_beq, beqT, beqF, Int.natCast_add, Int.natCast_one, ltT, ltF, leT, leF, eqT, eqF, nltT, nltF, nleT, nleF, neqT, neqF, mapGet, Int.toNat_natCast, Int.natCast_nonneg, List.length_map, go_sem, ↓reduceIte, reduceCtorEq, Nat.reduceEqDiff, Nat.reduceAdd, Nat.reduceBEq, Nat.reduceMul, Nat.reduceLeDiff, Nat.reduceSub, Nat.reduceLT, Nat.reduceDiv, Nat.reduceMod, List.reduceReplicate, Int.reduceEq, Int.reduceLT, Int.reduceLE, Int.reduceAdd, Int.reduceSub, Int.reduceMul, Int.reduceNeg, Int.reduceToNat, hv, h0, hg, eD, hcc, hc, allSize_ints]
        exact this
      · rw [if_neg hcc, List.append_nil]
        simp -implicitDefEqProofs (disch := omega) only [wr, Int.cast_ofNat_Int, Int.natCast_zero, List.length_append, lim_eq, wu64, wu32, wu8, Bool.true_beq, Bool.false_beq, beqT, beqF, Int.natCast_add, Int.natCast_one, ltT, ltF, leT, leF, eqT, eqF, nltT, nltF, nleT, nleF, neqT, neqF, mapGet, Int.toNat_natCast, Int.natCast_nonneg, List.length_map, go_sem, ↓reduceIte, reduceCtorEq, Nat.reduceEqDiff, Nat.reduceAdd, Nat.reduceBEq, Nat.reduceMul, Nat.reduceLeDiff, Nat.reduceSub, Nat.reduceLT, Nat.reduceDiv, Nat.reduceMod, List.reduceReplicate, Int.reduceEq, Int.reduceLT, Int.reduceLE, Int.reduceAdd, Int.reduceSub, Int.reduceMul, Int.reduceNeg, Int.reduceToNat, hv, h0, hg, eD, hcc]
  · have e : untilD h now = [] := by unfold untilD; rw [if_neg h0]
    rw [e, List.append_nil]
    simp only [l_ref05_Until_0]
    simp -implicitDefEqProofs (disch := omega) only [wr, Int.cast_ofNat_Int, Int.natCast_zero, List.length_append, lim_eq, wu64, wu32, wu8, Bool.true_beq, Bool.false_beq, beqT, beqF, Int.natCast_add, Int.natCast_one, ltT, ltF, leT, leF, eqT, eqF, nltT, nltF, nleT, nleF, neqT, neqF, mapGet, Int.toNat_natCast, Int.natCast_nonneg, List.length_map, go_sem, ↓reduceIte, reduceCtorEq, Nat.reduceEqDiff, Nat.reduceAdd, Nat.reduceBEq, Nat.reduceMul, Nat.reduceLeDiff, Nat.reduceSub, Nat.reduceLT, Nat.reduceDiv, Nat.reduceMod, List.reduceReplicate, Int.reduceEq, Int.reduceLT, Int.reduceLE, Int.reduceAdd, Int.reduceSub, Int.reduceMul, Int.reduceNeg, Int.reduceToNat, hv, h0]
theorem refUntil_ok (h : List Due) (now : Int) (hL : h.length ≤ LIM) : callL G N_ref05_Until [.d (.sl (h.map eD)), .d (.int .i64 now)] [] = some (.d (.sl (ints (untilD h now))), []) := by
  have hl := refUntil_loop now (h, []) ⟨hL, fun h0 => by have := validateD_le h0; simp only [List.length_nil] at this ⊢; omega⟩
  simp only [rUS, List.map_nil, List.length_nil, List.nil_append, ints] at hl
  rw [callL_code g_ref05_Until (by simp)]; simp -implicitDefEqProofs (disch := omega) only [c_ref05_Until, r_ref05_Until, wr, Int.cast_ofNat_Int, Int.natCast_zero, List.length_append, lim_eq, wu64, wu32, wu8, Bool.true_beq, Bool.false_beq, beqT, beqF, Int.natCast_add, Int.natCast_one, ltT, ltF, leT, leF, eqT, eqF, nltT, nltF, nleT, nleF, neqT, neqF, mapGet, Int.toNat_natCast, Int.natCast_nonneg, List.length_map, go_sem, ↓reduceIte, reduceCtorEq, Nat.reduceEqDiff, Nat.reduceAdd, Nat.reduceBEq, Nat.reduceMul, Nat.reduceLeDiff, Nat.reduceSub, Nat.reduceLT, Nat.reduceDiv, Nat.reduceMod, List.reduceReplicate, Int.reduceEq, Int.reduceLT, Int.reduceLE, Int.reduceAdd, Int.reduceSub, Int.reduceMul, Int.reduceNeg, Int.reduceToNat, hl]
theorem sameInts_ok (a b : List Int) (hL : a.length ≤ 1000) : callL G N_ref05_SameInts [.d (.sl (ints a)), .d (.sl (ints b))] [] = some (.d (.bool (decide (a = b))), []) := by
  by_cases hab : a.length = b.length
  · have := loop_all (G := G) (x := l_ref05_SameInts_0) (ks := []) a.length (fun k => decide (a[k]? = b[k]?)) (fun k => ⟨[(0, .d (.sl (ints a))), (1, .d (.sl (ints b))), (5, .d (.int .i64 k))], []⟩) (.ret, ⟨[(4, .d (.bool false))], []⟩) (.exit 0, ⟨[], []⟩) (fun k hk L => by
      simp only [l_ref05_SameInts_0]
      by_cases h0 : k < a.length
      · have hk2 : k < b.length := by omega
        simp only [get_eq h0 hk2]
        by_cases hc : a[k] = b[k]
        · simp -implicitDefEqProofs (disch := omega) only [wr, Int.cast_ofNat_Int, Int.natCast_zero, List.length_append, lim_eq, wu64, wu32, wu8, Bool.true_beq, Bool.false_beq, beqT, beqF, Int.natCast_add, Int.natCast_one, ltT, ltF, leT, leF, eqT, eqF, nltT, nltF, nleT, nleF, neqT, neqF, mapGet, Int.toNat_natCast, Int.natCast_nonneg, List.length_map, go_sem, ↓reduceIte, reduceCtorEq, Nat.reduceEqDiff, Nat.reduceAdd, Nat.reduceBEq, Nat.reduceMul, Nat.reduceLeDiff, Nat.reduceSub, Nat.reduceLT, Nat.reduceDiv, Nat.reduceMod, List.reduceReplicate, Int.reduceEq, Int.reduceLT, Int.reduceLE, Int.reduceAdd, Int.reduceSub, Int.reduceMul, Int.reduceNeg, Int.reduceToNat, hc]
        · simp -implicitDefEqProofs (disch := omega) only [wr, Int.cast_ofNat_Int, Int.natCast_zero, List.length_append, lim_eq, wu64, wu32, wu8, Bool.true_beq, Bool.false_beq, beqT, beqF, Int.natCast_add, Int.natCast_one, ltT, ltF, leT, leF, eqT, eqF, nltT, nltF, nleT, nleF, neqT, neqF, mapGet, Int.toNat_natCast, Int.natCast_nonneg, List.length_map, go_sem, ↓reduceIte, reduceCtorEq, Nat.reduceEqDiff, Nat.reduceAdd, Nat.reduceBEq, Nat.reduceMul, Nat.reduceLeDiff, Nat.reduceSub, Nat.reduceLT, Nat.reduceDiv, Nat.reduceMod, List.reduceReplicate, Int.reduceEq, Int.reduceLT, Int.reduceLE, Int.reduceAdd, Int.reduceSub, Int.reduceMul, Int.reduceNeg, Int.reduceToNat, hc]
      · simp -implicitDefEqProofs (disch := omega) only [wr, Int.cast_ofNat_Int, Int.natCast_zero, List.length_append, lim_eq, wu64, wu32, wu8, Bool.true_beq, Bool.false_beq, beqT, beqF, Int.natCast_add, Int.natCast_one, ltT, ltF, leT, leF, eqT, eqF, nltT, nltF, nleT, nleF, neqT, neqF, mapGet, Int.toNat_natCast, Int.natCast_nonneg, List.length_map, go_sem, ↓reduceIte, reduceCtorEq, Nat.reduceEqDiff, Nat.reduceAdd, Nat.reduceBEq, Nat.reduceMul, Nat.reduceLeDiff, Nat.reduceSub, Nat.reduceLT, Nat.reduceDiv, Nat.reduceMod, List.reduceReplicate, Int.reduceEq, Int.reduceLT, Int.reduceLE, Int.reduceAdd, Int.reduceSub, Int.reduceMul, Int.reduceNeg, Int.reduceToNat, Nat.zero_add])
    simp only [all_eq hab, Int.natCast_zero] at this
    by_cases e : a = b
    · subst e
      simp only [decide_true, if_true] at this
      rw [callL_code g_ref05_SameInts (by simp)]; simp -implicitDefEqProofs (disch := omega) only [c_ref05_SameInts, r_ref05_SameInts, wr, Int.cast_ofNat_Int, Int.natCast_zero, List.length_append, lim_eq, wu64, wu32, wu8, Bool.true_beq, Bool.false_beq, beqT, beqF, Int.natCast_add, Int.natCast_one, ltT, ltF, leT, leF, eqT, eqF, nltT, nltF, nleT, nleF, neqT, neqF, mapGet, Int.toNat_natCast, Int.natCast_nonneg, List.length_map, go_sem, ↓reduceIte, reduceCtorEq, Nat.reduceEqDiff, Nat.reduceAdd, Nat.reduceBEq, Nat.reduceMul, Nat.reduceLeDiff, Nat.reduceSub, Nat.reduceLT, Nat.reduceDiv, Nat.reduceMod, List.reduceReplicate, Int.reduceEq, Int.reduceLT, Int.reduceLE, Int.reduceAdd, Int.reduceSub, Int.reduceMul, Int.reduceNeg, Int.reduceToNat, this]
    · simp only [e, decide_false, Bool.false_eq_true, if_false] at this
      rw [callL_code g_ref05_SameInts (by simp)]; simp -implicitDefEqProofs (disch := omega) only [c_ref05_SameInts, r_ref05_SameInts, wr, Int.cast_ofNat_Int, Int.natCast_zero, List.length_append, lim_eq, wu64, wu32, wu8, Bool.true_beq, Bool.false_beq, beqT, beqF, Int.natCast_add, Int.natCast_one, ltT, ltF, leT, leF, eqT, eqF, nltT, nltF, nleT, nleF, neqT, neqF, mapGet, Int.toNat_natCast, Int.natCast_nonneg, List.length_map, go_sem, ↓reduceIte, reduceCtorEq, Nat.reduceEqDiff, Nat.reduceAdd, Nat.reduceBEq, Nat.reduceMul, Nat.reduceLeDiff, Nat.reduceSub, Nat.reduceLT, Nat.reduceDiv, Nat.reduceMod, List.reduceReplicate, Int.reduceEq, Int.reduceLT, Int.reduceLE, Int.reduceAdd, Int.reduceSub, Int.reduceMul, Int.reduceNeg, Int.reduceToNat, hab, this, e]
  · have e : a ≠ b := fun e => hab (by rw [e])
    rw [callL_code g_ref05_SameInts (by simp)]; simp -implicitDefEqProofs (disch := omega) only [c_ref05_SameInts, r_ref05_SameInts, wr, Int.cast_ofNat_Int, Int.natCast_zero, List.length_append, lim_eq, wu64, wu32, wu8, Bool.true_beq, Bool.false_beq, beqT, beqF, Int.natCast_add, Int.natCast_one, ltT, ltF, leT, leF, eqT, eqF, nltT, nltF, nleT, nleF, neqT, neqF, mapGet, Int.toNat_natCast, Int.natCast_nonneg, List.length_map, go_sem, ↓reduceIte, reduceCtorEq, Nat.reduceEqDiff, Nat.reduceAdd, Nat.reduceBEq, Nat.reduceMul, Nat.reduceLeDiff, Nat.reduceSub, Nat.reduceLT, Nat.reduceDiv, Nat.reduceMod, List.reduceReplicate, Int.reduceEq, Int.reduceLT, Int.reduceLE, Int.reduceAdd, Int.reduceSub, Int.reduceMul, Int.reduceNeg, Int.reduceToNat, e]
theorem same_ok (a b : List Due) (hL : a.length ≤ 1000) : callL G N_ref05_Same [.d (.sl (a.map eD)), .d (.sl (b.map eD))] [] = some (.d (.bool (decide (a = b))), []) := by
  by_cases hab : a.length = b.length
  · have := loop_all (G := G) (x := l_ref05_Same_0) (ks := []) a.length (fun k => decide (a[k]? = b[k]?)) (fun k => ⟨[(0, .d (.sl (a.map eD))), (1, .d (.sl (b.map eD))), (5, .d (.int .i64 k))], []⟩) (.ret, ⟨[(4, .d (.bool false))], []⟩) (.exit 0, ⟨[], []⟩) (fun k hk L => by
      simp only [l_ref05_Same_0]
      by_cases h0 : k < a.length
      · have hk2 : k < b.length := by omega
        simp only [get_eq h0 hk2, Prod.ext_iff]
        by_cases hc1 : a[k].1 = b[k].1
        · by_cases hc2 : a[k].2 = b[k].2
          · simp -implicitDefEqProofs (disch := omega) only [wr, Int.cast_ofNat_Int, Int.natCast_zero, List.length_append, lim_eq, wu64, wu32, wu8, Bool.true_beq, Bool.false_beq, beqT, beqF, Int.natCast_add, Int.natCast_one, ltT, ltF, leT, leF, eqT, eqF, nltT, nltF, nleT, nleF, neqT, neqF, mapGet, Int.toNat_natCast, Int.natCast_nonneg, List.length_map, go_sem, ↓reduceIte, reduceCtorEq, Nat.reduceEqDiff, Nat.reduceAdd, Nat.reduceBEq, Nat.reduceMul, Nat.reduceLeDiff, Nat.reduceSub, Nat.reduceLT, Nat.reduceDiv, Nat.reduceMod, List.reduceReplicate, Int.reduceEq, Int.reduceLT, Int.reduceLE, Int.reduceAdd, Int.reduceSub, Int.reduceMul, Int.reduceNeg, Int.reduceToNat, eD, hc1, hc2]
          · simp -implicitDefEqProofs (disch := omega) only [wr, Int.cast_ofNat_Int, Int.natCast_zero, List.length_append, lim_eq, wu64, wu32, wu8, Bool.true_beq, Bool.false_beq, beqT, beqF, Int.natCast_add, Int.natCast_one, ltT, ltF, leT, leF, eqT, eqF, nltT, nltF, nleT, nleF, neqT, neqF, mapGet, Int.toNat_natCast, Int.natCast_nonneg, List.length_map, go_sem, ↓reduceIte, reduceCtorEq, Nat.reduceEqDiff, Nat.reduceAdd, Nat.reduceBEq, Nat.reduceMul, Nat.reduceLeDiff, Nat.reduceSub, Nat.reduceLT, Nat.reduceDiv, Nat.reduceMod, List.reduceReplicate, Int.reduceEq, Int.reduceLT, Int.reduceLE, Int.reduceAdd, Int.reduceSub, Int.reduceMul, Int.reduceNeg, Int.reduceToNat, eD, hc1, hc2]
        · simp -implicitDefEqProofs (disch := omega) only [wr, Int.cast_ofNat_Int, Int.natCast_zero, List.length_append, lim_eq, wu64, wu32, wu8, Bool.true_beq, Bool.false_beq, beqT, beqF, Int.natCast_add, Int.natCast_one, ltT, ltF, leT, leF, eqT, eqF, nltT, nltF, nleT, nleF, neqT, neqF, mapGet, Int.toNat_natCast, Int.natCast_nonneg, List.length_map, go_sem, ↓reduceIte, reduceCtorEq, Nat.reduceEqDiff, Nat.reduceAdd, Nat.reduceBEq, Nat.reduceMul, Nat.reduceLeDiff, Nat.reduceSub, Nat.reduceLT, Nat.reduceDiv, Nat.reduceMod, List.reduceReplicate, Int.reduceEq, Int.reduceLT, Int.reduceLE, Int.reduceAdd, Int.reduceSub, Int.reduceMul, Int.reduceNeg, Int.reduceToNat, eD, hc1, false_and]
      · simp -implicitDefEqProofs (disch := omega) only [wr, Int.cast_ofNat_Int, Int.natCast_zero, List.length_append, lim_eq, wu64, wu32, wu8, Bool.true_beq, Bool.false_beq, beqT, beqF, Int.natCast_add, Int.natCast_one, ltT, ltF, leT, leF, eqT, eqF, nltT, nltF, nleT, nleF, neqT, neqF, mapGet, Int.toNat_natCast, Int.natCast_nonneg, List.length_map, go_sem, ↓reduceIte, reduceCtorEq, Nat.reduceEqDiff, Nat.reduceAdd, Nat.reduceBEq, Nat.reduceMul, Nat.reduceLeDiff, Nat.reduceSub, Nat.reduceLT, Nat.reduceDiv, Nat.reduceMod, List.reduceReplicate, Int.reduceEq, Int.reduceLT, Int.reduceLE, Int.reduceAdd, Int.reduceSub, Int.reduceMul, Int.reduceNeg, Int.reduceToNat, Nat.zero_add])
    simp only [all_eq hab, Int.natCast_zero] at this
    by_cases e : a = b
    · subst e
      simp only [decide_true, if_true] at this
      rw [callL_code g_ref05_Same (by simp)]; simp -implicitDefEqProofs (disch := omega) only [c_ref05_Same, r_ref05_Same, wr, Int.cast_ofNat_Int, Int.natCast_zero, List.length_append, lim_eq, wu64, wu32, wu8, Bool.true_beq, Bool.false_beq, beqT, beqF, Int.natCast_add, Int.natCast_one, ltT, ltF, leT, leF, eqT, eqF, nltT, nltF, nleT, nleF, neqT, neqF, mapGet, Int.toNat_natCast, Int.natCast_nonneg, List.length_map, go_sem, ↓reduceIte, reduceCtorEq, Nat.reduceEqDiff, Nat.reduceAdd, Nat.reduceBEq, Nat.reduceMul, Nat.reduceLeDiff, Nat.reduceSub, Nat.reduceLT, Nat.reduceDiv, Nat.reduceMod, List.reduceReplicate, Int.reduceEq, Int.reduceLT, Int.reduceLE, Int.reduceAdd, Int.reduceSub, Int.reduceMul, Int.reduceNeg, Int.reduceToNat, this]
    · simp only [e, decide_false, Bool.false_eq_true, if_false] at this
      rw [callL_code g_ref05_Same (by simp)]; simp -implicitDefEqProofs (disch := omega) only [c_ref05_Same, r_ref05_Same, wr, Int.cast_ofNat_Int, Int.natCast_zero, List.length_append, lim_eq, wu64, wu32, wu8, Bool.true_beq, Bool.false_beq, beqT, beqF, Int.natCast_add, Int.natCast_one, ltT, ltF, leT, leF, eqT, eqF, nltT, nltF, nleT, nleF, neqT, neqF, mapGet, Int.toNat_natCast, Int.natCast_nonneg, List.length_map, go_sem, ↓reduceIte, reduceCtorEq, Nat.reduceEqDiff, Nat.reduceAdd, Nat.reduceBEq, Nat.reduceMul, Nat.reduceLeDiff, Nat.reduceSub, Nat.reduceLT, Nat.reduceDiv, Nat.reduceMod, List.reduceReplicate, Int.reduceEq, Int.reduceLT, Int.reduceLE, Int.reduceAdd, Int.reduceSub, Int.reduceMul, Int.reduceNeg, Int.reduceToNat, hab, this, e]
  · have e : a ≠ b := fun e => hab (by rw [e])
    rw [callL_code g_ref05_Same (by simp)]; simp -implicitDefEqProofs (disch := omega) only [c_ref05_Same, r_ref05_Same, wr, Int.cast_ofNat_Int, Int.natCast_zero, List.length_append, lim_eq, wu64, wu32, wu8, Bool.true_beq, Bool.false_beq, beqT, beqF, Int.natCast_add, Int.natCast_one, ltT, ltF, leT, leF, eqT, eqF, nltT, nltF, nleT, nleF, neqT, neqF, mapGet, Int.toNat_natCast, Int.natCast_nonneg, List.length_map, go_sem, ↓reduceIte, reduceCtorEq, Nat.reduceEqDiff, Nat.reduceAdd, Nat.reduceBEq, Nat.reduceMul, Nat.reduceLeDiff, Nat.reduceSub, Nat.reduceLT, Nat.reduceDiv, Nat.reduceMod, List.reduceReplicate, Int.reduceEq, Int.reduceLT, Int.reduceLE, Int.reduceAdd, Int.reduceSub, Int.reduceMul, Int.reduceNeg, Int.reduceToNat, e]
end Go.Proofs.Ytlphhhmicdjljab
