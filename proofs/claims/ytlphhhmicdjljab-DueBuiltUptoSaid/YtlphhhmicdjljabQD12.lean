/-
  The laws about the functions of package due: they agree with the reference.
-/
import Derived.Test.YtlphhhmicdjljabQD11b
namespace Go.Proofs.Ytlphhhmicdjljab
open Go Go.Sim
set_option linter.unusedSimpArgs false
set_option linter.unusedVariables false
set_option maxHeartbeats 2000000
set_option maxRecDepth 40000

theorem untilD_len (h : List Due) (now : Int) : (untilD h now).length ≤ 12 := by
  unfold untilD
  split
  · rename_i h0
    have h1 := validateD_le h0
    have s1 := (sortG_spec h 1 (fun p q hp hq => by omega)).2.length_eq
    have := List.length_filter_le (fun d : Due => decide (d.1 ≤ now)) (sortG h 1)
    unfold dueIds
    rw [List.length_map]
    omega
  · simp
theorem pushD_len (h : List Due) (d : Due) : (pushD h d).1.length ≤ 13 := by
  unfold pushD
  simp only
  split
  · rename_i h0
    have : validateD h = 0 := by
      unfold pushE at h0
      split at h0
      · rename_i h1; exact absurd h0 h1
      · rename_i h1; simpa using h1
    have := validateD_le this
    unfold pushL
    rw [upL_length]; simp; omega
  · simp
theorem dropL_len (h : List Due) (i : Nat) : (dropL h i).length ≤ h.length := by
  unfold dropL
  split
  · simp
  · simp only
    split
    · rw [downL_length, upL_length]; simp
    · rw [upL_length]; simp
theorem popD_len (h : List Due) : (popD h).1.length ≤ 12 := by
  unfold popD
  split
  · simp
  · rename_i h0
    have := validateD_le (h := h) (by simpa using h0)
    split
    · simp
    · have := dropL_len h 0; simp only; omega
theorem removeD_len (h : List Due) (id : Int) : (removeD h id).1.length ≤ 12 := by
  unfold removeD
  split
  · simp
  · rename_i h0
    have := validateD_le (h := h) (by simpa using h0)
    split
    · simp
    · have := dropL_len h (findD h id).toNat; simp only; omega
theorem agrees_ok (h : List Due) (d : Due) (id now : Int) (hL : h.length ≤ LIM) : callL G N_law05_agrees [.d (.sl (h.map eD)), .d (eD d), .d (.int .i64 id), .d (.int .i64 now)] [] = some (.d (.bool true), []) := by
  have h1 := validate_ok h hL
  have h2 := refValidate_ok h hL
  have h3 := until_ok h now hL
  have h4 := refUntil_ok h now hL
  have h5 := sameInts_ok (untilD h now) (untilD h now) (by have := untilD_len h now; omega)
  have h6 := push_ok h d hL
  have h7 := refPush_ok h d hL
  have h8 := same_ok (pushD h d).1 (pushD h d).1 (by have := pushD_len h d; omega)
  have h9 := pop_ok h hL
  have h10 := refPop_ok h hL
  have h11 := same_ok (popD h).1 (popD h).1 (by have := popD_len h; omega)
  have h12 := remove_ok h id hL
  have h13 := refRemove_ok h id hL
  have h14 := same_ok (removeD h id).1 (removeD h id).1 (by have := removeD_len h id; omega)
  simp only [eD, eDE, decide_true] at h5 h6 h7 h8 h9 h10 h11 h12 h13 h14
  simp only [eD] at h1 h2 h3 h4 ⊢
  rw [callL_code g_law05_agrees (by simp)]; simp -implicitDefEqProofs (disch := omega) only [c_law05_agrees, r_law05_agrees, wr, Int.cast_ofNat_Int, Int.natCast_zero, List.length_append, lim_eq, wu64, wu32, wu8, Bool.true_beq, Bool.false_beq, beqT, beqF, Int.natCast_add, Int.natCast_one, ltT, ltF, leT, leF, eqT, eqF, nltT, nltF, nleT, nleF, neqT, neqF, mapGet, Int.toNat_natCast, Int.natCast_nonneg, List.length_map, go_sem, ↓reduceIte, reduceCtorEq, Nat.reduceEqDiff, Nat.reduceAdd, Nat.reduceBEq, Nat.reduceMul, Nat.reduceLeDiff, Nat.reduceSub, Nat.reduceLT, Nat.reduceDiv, Nat.reduceMod, List.reduceReplicate, Int.reduceEq, Int.reduceLT, Int.reduceLE, Int.reduceAdd, Int.reduceSub, Int.reduceMul, Int.reduceNeg, Int.reduceToNat, h1, h2, h3, h4, h5, h6, h7, h8, h9, h10, h11, h12, h13, h14]
theorem dueRaw_ok (h : List Due) (d : Due) (id now : Int) (hL : h.length ≤ LIM) : callL G N_law05_DueRaw [.d (.sl (h.map eD)), .d (eD d), .d (.int .i64 id), .d (.int .i64 now)] [] = some (.d (.bool true), []) := by
  have ha := agrees_ok h d id now hL
  simp only [eD] at ha ⊢
  by_cases h30 : 30 < h.length
  · rw [callL_code g_law05_DueRaw (by simp)]; simp -implicitDefEqProofs (disch := omega) only [c_law05_DueRaw, r_law05_DueRaw, wr, Int.cast_ofNat_Int, Int.natCast_zero, List.length_append, lim_eq, wu64, wu32, wu8, Bool.true_beq, Bool.false_beq, beqT, beqF, Int.natCast_add, Int.natCast_one, ltT, ltF, leT, leF, eqT, eqF, nltT, nltF, nleT, nleF, neqT, neqF, mapGet, Int.toNat_natCast, Int.natCast_nonneg, List.length_map, go_sem, ↓reduceIte, reduceCtorEq, Nat.reduceEqDiff, Nat.reduceAdd, Nat.reduceBEq, Nat.reduceMul, Nat.reduceLeDiff, Nat.reduceSub, Nat.reduceLT, Nat.reduceDiv, Nat.reduceMod, List.reduceReplicate, Int.reduceEq, Int.reduceLT, Int.reduceLE, Int.reduceAdd, Int.reduceSub, Int.reduceMul, Int.reduceNeg, Int.reduceToNat, Nat.zero_add]
  · rw [callL_code g_law05_DueRaw (by simp)]; simp -implicitDefEqProofs (disch := omega) only [c_law05_DueRaw, r_law05_DueRaw, wr, Int.cast_ofNat_Int, Int.natCast_zero, List.length_append, lim_eq, wu64, wu32, wu8, Bool.true_beq, Bool.false_beq, beqT, beqF, Int.natCast_add, Int.natCast_one, ltT, ltF, leT, leF, eqT, eqF, nltT, nltF, nleT, nleF, neqT, neqF, mapGet, Int.toNat_natCast, Int.natCast_nonneg, List.length_map, go_sem, ↓reduceIte, reduceCtorEq, Nat.reduceEqDiff, Nat.reduceAdd, Nat.reduceBEq, Nat.reduceMul, Nat.reduceLeDiff, Nat.reduceSub, Nat.reduceLT, Nat.reduceDiv, Nat.reduceMod, List.reduceReplicate, Int.reduceEq, Int.reduceLT, Int.reduceLE, Int.reduceAdd, Int.reduceSub, Int.reduceMul, Int.reduceNeg, Int.reduceToNat, ha, awake_ok]
theorem built_loop (l : List Int) (hl : l.length ≤ 4000) (h : List Due) (hL : h.length ≤ LIM) : ∀ p : Nat × Nat, p.1 ≤ 4 → ∃ a', loopL G [] l_law05_DueBuilt_0 ⟨[(3, .ref 7 0 0), (4, .d (.sl (h.map eD))), (5, .d (.int .i64 p.1))], [(7, srcO l p.2)]⟩ = some (.exit 0, ⟨[(3, .ref 7 0 0), (4, .d (.sl (h.map eD)))], [(7, srcO l a')]⟩) := by
  refine loop_indP (fun p : Nat × Nat => 4 - p.1) (fun p : Nat × Nat => p.1 ≤ 4) (fun p : Nat × Nat => ⟨[(3, .ref 7 0 0), (4, .d (.sl (h.map eD))), (5, .d (.int .i64 p.1))], [(7, srcO l p.2)]⟩) (fun p r => ∃ a', r = some (.exit 0, ⟨[(3, .ref 7 0 0), (4, .d (.sl (h.map eD)))], [(7, srcO l a')]⟩)) fun ⟨k, a⟩ hk L ih => ?_
  simp only at ih hk
  simp only [l_law05_DueBuilt_0]
  by_cases h0 : k < 4
  · have n1 := nD_in l a (n := 12 - -1 + 1) (by omega)
    have n2 := nD_in l (rawD l a).2 (n := 25 - 0 + 1) (by omega)
    have n3 := nD_in l (rawD l (rawD l a).2).2 (n := 22 - 0 + 1) (by omega)
    have n4 := nD_in l (rawD l (rawD l (rawD l a).2).2).2 (n := 13 - -1 + 1) (by omega)
    have ha := fun x y z w : Int => agrees_ok h (x, y) z w hL
    simp only [eD] at ha
    obtain ⟨a', hh⟩ := ih (k + 1, (rawD l (rawD l (rawD l (rawD l a).2).2).2).2) (by simp only; omega) (by simp only; omega)
    refine ⟨a', ?_⟩
    simp only [Int.natCast_add, Int.natCast_one] at hh
    simp -implicitDefEqProofs (disch := omega) only [wr, Int.cast_ofNat_Int, Int.natCast_zero, List.length_append, lim_eq, wu64, wu32, wu8, Bool.true_beq, Bool.false_beq, beqT, beqF, Int.natCast_add, Int.natCast_one, ltT, ltF, leT, leF, eqT, eqF, nltT, nltF, nleT, nleF, neqT, neqF, mapGet, Int.toNat_natCast, Int.natCast_nonneg, List.length_map, go_sem, ↓reduceIte, reduceCtorEq, Nat.reduceEqDiff, Nat.reduceAdd, Nat.reduceBEq, Nat.reduceMul, Nat.reduceLeDiff, Nat.reduceSub, Nat.reduceLT, Nat.reduceDiv, Nat.reduceMod, List.reduceReplicate, Int.reduceEq, Int.reduceLT, Int.reduceLE, Int.reduceAdd, Int.reduceSub, Int.reduceMul, Int.reduceNeg, Int.reduceToNat, range_ok, ha, hh]
  · simp -implicitDefEqProofs (disch := omega) only [wr, Int.cast_ofNat_Int, Int.natCast_zero, List.length_append, lim_eq, wu64, wu32, wu8, Bool.true_beq, Bool.false_beq, beqT, beqF, Int.natCast_add, Int.natCast_one, ltT, ltF, leT, leF, eqT, eqF, nltT, nltF, nleT, nleF, neqT, neqF, mapGet, Int.toNat_natCast, Int.natCast_nonneg, List.length_map, go_sem, ↓reduceIte, reduceCtorEq, Nat.reduceEqDiff, Nat.reduceAdd, Nat.reduceBEq, Nat.reduceMul, Nat.reduceLeDiff, Nat.reduceSub, Nat.reduceLT, Nat.reduceDiv, Nat.reduceMod, List.reduceReplicate, Int.reduceEq, Int.reduceLT, Int.reduceLE, Int.reduceAdd, Int.reduceSub, Int.reduceMul, Int.reduceNeg, Int.reduceToNat, Nat.zero_add]
    exact ⟨a, rfl⟩
theorem dueBuilt_ok (l : List Int) (hL : l.length ≤ LIM) : callL G N_law05_DueBuilt [.d (.sl (ints l))] [] = some (.d (.bool true), []) := by
  have hl4 : (l.take 4000).length ≤ 4000 := by simp; omega
  obtain ⟨h, a, o, hh⟩ := heap_ok (l.take 4000) 0 hl4
  obtain ⟨t, ht⟩ : ∃ t, t = l.take 4000 := ⟨_, rfl⟩
  have hnew := new_ok l hL
  rw [← ht] at hl4 hh hnew
  have o12 := o.len
  obtain ⟨b, hlp⟩ := built_loop t hl4 h (by simp only [lim_eq]; omega) (0, a) (by simp only; omega)
  have n1 := nD_in t b (n := 20 - 1 + 1) (by omega)
  simp only [Int.natCast_add, Int.natCast_one, Int.natCast_zero, Int.natCast_mul, Int.cast_ofNat_Int, List.length_append, List.length_map, List.map_nil, List.length_nil, List.map_append, List.map_cons, List.length_cons, Nat.zero_add, srcO] at hlp hh hnew
  have ha := fun (h : List Due) (hL : h.length ≤ LIM) (x y z w : Int) => agrees_ok h (x, y) z w hL
  simp only [eD, lim_eq] at ha
  by_cases h0 : 0 < h.length
  · have hne : h.length ≠ 0 := by omega
    have n2 := nD_in t b (n := h.length) (by omega)
    have n3 := nD_in t (rawD t b).2 (n := 12 - 0 + 1) (by omega)
    have n4 := nD_in t (rawD t (rawD t b).2).2 (n := 20 - 1 + 1) (by omega)
    have n5 := nD_in t (rawD t (rawD t (rawD t b).2).2).2 (n := 20 - 1 + 1) (by omega)
    have hg := rowGet h (nD t b h.length).toNat (by omega)
    have hset : ∀ (j : Nat) (p q : Int), (List.map AV.d (List.map eD h)).set j (.d (.agg [.int .i64 p, .int .i64 q])) = List.map AV.d (List.map eD (h.set j (p, q))) := fun j p q => rowSet h j (p, q)
    have htk : ∀ (j : Nat) (x : Due), List.take h.length (List.map AV.d (List.map eD (h.set j x))) = List.map AV.d (List.map eD (h.set j x)) := fun j x => by
      have := rowAll (h.set j x)
      rwa [List.length_set] at this
    have hb := fun (j : Nat) (x : Due) => ha (h.set j x) (by rw [List.length_set]; omega)
    rw [callL_code g_law05_DueBuilt (by simp)]; simp -implicitDefEqProofs (disch := omega) only [c_law05_DueBuilt, r_law05_DueBuilt, wr, Int.cast_ofNat_Int, Int.natCast_zero, List.length_append, lim_eq, wu64, wu32, wu8, Bool.true_beq, Bool.false_beq, beqT, beqF, Int.natCast_add, Int.natCast_one, ltT, ltF, leT, leF, eqT, eqF, nltT, nltF, nleT, nleF, neqT, neqF, mapGet, Int.toNat_natCast, Int.natCast_nonneg, List.length_map, go_sem, ↓reduceIte, reduceCtorEq, Nat.reduceEqDiff, Nat.reduceAdd, Nat.reduceBEq, Nat.reduceMul, Nat.reduceLeDiff, Nat.reduceSub, Nat.reduceLT, Nat.reduceDiv, Nat.reduceMod, List.reduceReplicate, Int.reduceEq, Int.reduceLT, Int.reduceLE, Int.reduceAdd, Int.reduceSub, Int.reduceMul, Int.reduceNeg, Int.reduceToNat, hnew, hh, hlp, n_ok, range_ok, allSize_eD, hne, hg, hset, htk, hb, List.length_set, eD_size, eD_asAgg, awake_ok]
  · have e : h = [] := List.length_eq_zero_iff.1 (by omega)
    subst e
    simp only [List.map_nil] at hh hlp
    have hb := ha [] (by simp) 4 30
    simp only [List.map_nil] at hb
    rw [callL_code g_law05_DueBuilt (by simp)]; simp -implicitDefEqProofs (disch := omega) only [c_law05_DueBuilt, r_law05_DueBuilt, wr, Int.cast_ofNat_Int, Int.natCast_zero, List.length_append, lim_eq, wu64, wu32, wu8, Bool.true_beq, Bool.false_beq, beqT, beqF, Int.natCast_add, Int.natCast_one, ltT, ltF, leT, leF, eqT, eqF, nltT, nltF, nleT, nleF, neqT, neqF, mapGet, Int.toNat_natCast, Int.natCast_nonneg, List.length_map, go_sem, ↓reduceIte, reduceCtorEq, Nat.reduceEqDiff, Nat.reduceAdd, Nat.reduceBEq, Nat.reduceMul, Nat.reduceLeDiff, Nat.reduceSub, Nat.reduceLT, Nat.reduceDiv, Nat.reduceMod, List.reduceReplicate, Int.reduceEq, Int.reduceLT, Int.reduceLE, Int.reduceAdd, Int.reduceSub, Int.reduceMul, Int.reduceNeg, Int.reduceToNat, hnew, hh, hlp, range_ok, hb, awake_ok]

theorem dueIds_mem {h : List Due} (o : Ok h) (m : Int) (d : Due) (hd : d ∈ h) : d.2 ∈ dueIds m (sortG h 1) ↔ d.1 ≤ m := by
  have s1 := (sortG_spec h 1 (fun p q hp hq => by omega)).2
  unfold dueIds
  constructor
  · intro hm
    obtain ⟨e, he, h2⟩ := List.mem_map.1 hm
    obtain ⟨he1, he2⟩ := List.mem_filter.1 he
    have : e = d := by
      have hh := s1.subset he1
      have hp := o.ids
      by_cases hc : e = d
      · exact hc
      · exfalso
        obtain ⟨i, hi, rfl⟩ := List.mem_iff_getElem.1 hh
        obtain ⟨j, hj, rfl⟩ := List.mem_iff_getElem.1 hd
        have hij : i ≠ j := fun e => hc (by subst e; rfl)
        have hp2 := List.pairwise_iff_getElem.1 hp
        rcases Nat.lt_or_gt_of_ne hij with h | h
        · exact hp2 i j (by simpa using hi) (by simpa using hj) h (by simpa using h2)
        · exact hp2 j i (by simpa using hj) (by simpa using hi) h (by simpa using h2.symm)
    subst this
    simpa using he2
  · intro hm
    exact List.mem_map.2 ⟨d, List.mem_filter.2 ⟨s1.symm.subset hd, by simpa using hm⟩, rfl⟩
def unS (h : List Due) (u : List Int) (m : Int) (n i : Nat) (j : Nat) (f : Bool) : St := ⟨[(1, .d (.int .i64 m)), (5, .d (.sl (h.map eD))), (6, .d (.sl (ints u))), (7, .d (.int .i64 n)), (8, .d (.int .i64 i)), (9, .d (.bool f)), (10, .d (.int .i64 j))], []⟩
def unE (h : List Due) (u : List Int) (m : Int) (n i : Nat) (f : Bool) : St := ⟨[(1, .d (.int .i64 m)), (5, .d (.sl (h.map eD))), (6, .d (.sl (ints u))), (7, .d (.int .i64 n)), (8, .d (.int .i64 i)), (9, .d (.bool f))], []⟩
theorem un_loop0 (h : List Due) (u : List Int) (m : Int) (n i : Nat) (hu : u.length ≤ 12) (hi : i < h.length) (hl : h.length ≤ 12) : ∀ (p : Nat × Bool), p.1 ≤ u.length → loopL G [] l_law05_DueUntil_0 (unS h u m n i p.1 p.2) = some (.exit 2, unE h u m n i (p.2 || decide (h[i].2 ∈ u.drop p.1))) := by
  refine loop_ind (fun p : Nat × Bool => u.length - p.1) _ (fun p => unS h u m n i p.1 p.2) _ fun ⟨j, f⟩ hj L ih => ?_
  simp only [unS, unE] at ih hj ⊢
  simp only [l_law05_DueUntil_0]
  by_cases h0 : j < u.length
  · have e : decide (h[i].2 ∈ u.drop j) = (decide (u[j] = h[i].2) || decide (h[i].2 ∈ u.drop (j + 1))) := by
      rw [List.drop_eq_getElem_cons h0]
      simp only [List.mem_cons, Bool.decide_or, eq_comm]
    rw [e, ← Bool.or_assoc]
    have := ih (j + 1, f || decide (u[j] = h[i].2)) (by simp only; omega) (by simp only; omega)
    simp only [Int.natCast_add, Int.natCast_one, Int.natCast_zero, Int.natCast_mul, Int.cast_ofNat_Int, List.length_append, List.length_map, List.map_nil, List.length_nil, List.map_append, List.map_cons, List.length_cons, Nat.zero_add, srcO] at this
    cases f
    · simp only [Bool.false_or] at this ⊢
      simp -implicitDefEqProofs (disch := omega) only [wr, Int.cast_ofNat_Int, Int.natCast_zero, List.length_append, lim_eq, wu64, wu32, wu8, Bool.true_beq, Bool.false_beq, beqT, beqF, Int.natCast_add, Int.natCast_one, ltT, ltF, leT, leF, eqT, eqF, nltT, nltF, nleT, nleF, neqT, neqF, mapGet, Int.toNat_natCast, Int.natCast_nonneg, List.length_map, go_sem, ↓reduceIte, reduceCtorEq, Nat.reduceEqDiff, Nat.reduceAdd, Nat.reduceBEq, Nat.reduceMul, Nat.reduceLeDiff, Nat.reduceSub, Nat.reduceLT, Nat.reduceDiv, Nat.reduceMod, List.reduceReplicate, Int.reduceEq, Int.reduceLT, Int.reduceLE, Int.reduceAdd, Int.reduceSub, Int.reduceMul, Int.reduceNeg, Int.reduceToNat, eD, this]
    · simp only [Bool.true_or] at this ⊢
      simp -implicitDefEqProofs (disch := omega) only [wr, Int.cast_ofNat_Int, Int.natCast_zero, List.length_append, lim_eq, wu64, wu32, wu8, Bool.true_beq, Bool.false_beq, beqT, beqF, Int.natCast_add, Int.natCast_one, ltT, ltF, leT, leF, eqT, eqF, nltT, nltF, nleT, nleF, neqT, neqF, mapGet, Int.toNat_natCast, Int.natCast_nonneg, List.length_map, go_sem, ↓reduceIte, reduceCtorEq, Nat.reduceEqDiff, Nat.reduceAdd, Nat.reduceBEq, Nat.reduceMul, Nat.reduceLeDiff, Nat.reduceSub, Nat.reduceLT, Nat.reduceDiv, Nat.reduceMod, List.reduceReplicate, Int.reduceEq, Int.reduceLT, Int.reduceLE, Int.reduceAdd, Int.reduceSub, Int.reduceMul, Int.reduceNeg, Int.reduceToNat, this]
  · rw [List.drop_of_length_le (by omega)]
    simp -implicitDefEqProofs (disch := omega) only [wr, Int.cast_ofNat_Int, Int.natCast_zero, List.length_append, lim_eq, wu64, wu32, wu8, Bool.true_beq, Bool.false_beq, beqT, beqF, Int.natCast_add, Int.natCast_one, ltT, ltF, leT, leF, eqT, eqF, nltT, nltF, nleT, nleF, neqT, neqF, mapGet, Int.toNat_natCast, Int.natCast_nonneg, List.length_map, go_sem, ↓reduceIte, reduceCtorEq, Nat.reduceEqDiff, Nat.reduceAdd, Nat.reduceBEq, Nat.reduceMul, Nat.reduceLeDiff, Nat.reduceSub, Nat.reduceLT, Nat.reduceDiv, Nat.reduceMod, List.reduceReplicate, Int.reduceEq, Int.reduceLT, Int.reduceLE, Int.reduceAdd, Int.reduceSub, Int.reduceMul, Int.reduceNeg, Int.reduceToNat, Nat.zero_add]
    simp
def cnt (m : Int) (l : List Due) : Nat := (l.filter fun d => decide (d.1 ≤ m)).length
theorem un_loop1 (h : List Due) (o : Ok h) (m : Int) : ∀ i, i ≤ h.length → loopL G [] l_law05_DueUntil_1 ⟨[(1, .d (.int .i64 m)), (5, .d (.sl (h.map eD))), (6, .d (.sl (ints (dueIds m (sortG h 1))))), (7, .d (.int .i64 (cnt m (h.take i)))), (8, .d (.int .i64 i))], []⟩ = some (.exit 0, ⟨[(6, .d (.sl (ints (dueIds m (sortG h 1))))), (7, .d (.int .i64 (cnt m h)))], []⟩) := by
  refine loop_ind (fun i => h.length - i) (fun i => i ≤ h.length) _ _ fun i hi L ih => ?_
  simp only [l_law05_DueUntil_1]
  have ol := o.len
  obtain ⟨u, hu⟩ : ∃ u, u = dueIds m (sortG h 1) := ⟨_, rfl⟩
  have hul : u.length ≤ 12 := by
    have := untilD_len h m
    unfold untilD at this
    rw [if_pos ((validate_iff h).2 o), ← hu] at this
    exact this
  rw [← hu] at ih ⊢
  by_cases h0 : i < h.length
  · have hm := dueIds_mem o m h[i] (List.getElem_mem h0)
    rw [← hu] at hm
    have hc : cnt m (h.take (i + 1)) = cnt m (h.take i) + if h[i].1 ≤ m then 1 else 0 := by
      unfold cnt
      rw [List.take_succ_eq_append_getElem h0, List.filter_append, List.length_append]
      by_cases hc : h[i].1 ≤ m <;> simp [hc]
    have hcl : cnt m (h.take i) ≤ 12 := by
      unfold cnt
      have := List.length_filter_le (fun d : Due => decide (d.1 ≤ m)) (h.take i)
      rw [List.length_take] at this; omega
    have h1 := un_loop0 h u m (cnt m (h.take i)) i hul h0 ol (0, false) (by simp only; omega)
    simp only [unS, unE, List.drop_zero, Bool.false_or] at h1
    have := ih (i + 1) (by omega) (by omega)
    rw [hc] at this
    by_cases hcc : h[i].1 ≤ m
    · rw [decide_eq_true (hm.2 hcc)] at h1
      rw [if_pos hcc] at this
      simp only [Int.natCast_add, Int.natCast_one, Int.natCast_zero, Int.natCast_mul, Int.cast_ofNat_Int, List.length_append, List.length_map, List.map_nil, List.length_nil, List.map_append, List.map_cons, List.length_cons, Nat.zero_add, srcO] at this h1
      simp -implicitDefEqProofs (disch := omega) only [wr, Int.cast_ofNat_Int, Int.natCast_zero, List.length_append, lim_eq, wu64, wu32, wu8, Bool.true_beq, Bool.false_beq, beqT, beqF, Int.natCast_add, Int.natCast_one, ltT, ltF, leT, leF, eqT, eqF, nltT, nltF, nleT, nleF, neqT, neqF, mapGet, Int.toNat_natCast, Int.natCast_nonneg, List.length_map, go_sem, ↓reduceIte, reduceCtorEq, Nat.reduceEqDiff, Nat.reduceAdd, Nat.reduceBEq, Nat.reduceMul, Nat.reduceLeDiff, Nat.reduceSub, Nat.reduceLT, Nat.reduceDiv, Nat.reduceMod, List.reduceReplicate, Int.reduceEq, Int.reduceLT, Int.reduceLE, Int.reduceAdd, Int.reduceSub, Int.reduceMul, Int.reduceNeg, Int.reduceToNat, h1, eD, hcc, this]
    · rw [decide_eq_false (fun e => hcc (hm.1 e))] at h1
      rw [if_neg hcc] at this
      simp only [Int.natCast_add, Int.natCast_one, Int.natCast_zero, Int.natCast_mul, Int.cast_ofNat_Int, List.length_append, List.length_map, List.map_nil, List.length_nil, List.map_append, List.map_cons, List.length_cons, Nat.zero_add, srcO] at this h1
      simp only [Int.add_zero] at this
      simp -implicitDefEqProofs (disch := omega) only [wr, Int.cast_ofNat_Int, Int.natCast_zero, List.length_append, lim_eq, wu64, wu32, wu8, Bool.true_beq, Bool.false_beq, beqT, beqF, Int.natCast_add, Int.natCast_one, ltT, ltF, leT, leF, eqT, eqF, nltT, nltF, nleT, nleF, neqT, neqF, mapGet, Int.toNat_natCast, Int.natCast_nonneg, List.length_map, go_sem, ↓reduceIte, reduceCtorEq, Nat.reduceEqDiff, Nat.reduceAdd, Nat.reduceBEq, Nat.reduceMul, Nat.reduceLeDiff, Nat.reduceSub, Nat.reduceLT, Nat.reduceDiv, Nat.reduceMod, List.reduceReplicate, Int.reduceEq, Int.reduceLT, Int.reduceLE, Int.reduceAdd, Int.reduceSub, Int.reduceMul, Int.reduceNeg, Int.reduceToNat, h1, eD, hcc, this]
  · have : i = h.length := by omega
    subst this
    simp -implicitDefEqProofs (disch := omega) only [wr, Int.cast_ofNat_Int, Int.natCast_zero, List.length_append, lim_eq, wu64, wu32, wu8, Bool.true_beq, Bool.false_beq, beqT, beqF, Int.natCast_add, Int.natCast_one, ltT, ltF, leT, leF, eqT, eqF, nltT, nltF, nleT, nleF, neqT, neqF, mapGet, Int.toNat_natCast, Int.natCast_nonneg, List.length_map, go_sem, ↓reduceIte, reduceCtorEq, Nat.reduceEqDiff, Nat.reduceAdd, Nat.reduceBEq, Nat.reduceMul, Nat.reduceLeDiff, Nat.reduceSub, Nat.reduceLT, Nat.reduceDiv, Nat.reduceMod, List.reduceReplicate, Int.reduceEq, Int.reduceLT, Int.reduceLE, Int.reduceAdd, Int.reduceSub, Int.reduceMul, Int.reduceNeg, Int.reduceToNat, List.take_length]
theorem dueUntil_ok (l : List Int) (now : Int) (hL : l.length ≤ LIM) : callL G N_law05_DueUntil [.d (.sl (ints l)), .d (.int .i64 now)] [] = some (.d (.bool true), []) := by
  have hl4 : (l.take 4000).length ≤ 4000 := by simp; omega
  obtain ⟨h, a, o, hh⟩ := heap_ok (l.take 4000) 0 hl4
  have hnew := new_ok l hL
  have hu := until_ok h (andI .i64 now 15) (by have := o.len; simp [LIM]; omega)
  have hlp := un_loop1 h o (andI .i64 now 15) 0 (by omega)
  have e : untilD h (andI .i64 now 15) = dueIds (andI .i64 now 15) (sortG h 1) := by unfold untilD; rw [if_pos ((validate_iff h).2 o)]
  rw [e] at hu
  have e2 : cnt (andI .i64 now 15) (h.take 0) = 0 := rfl
  rw [e2] at hlp
  have e3 : (dueIds (andI .i64 now 15) (sortG h 1)).length = cnt (andI .i64 now 15) h := by
    unfold dueIds cnt
    rw [List.length_map]
    exact ((sortG_spec h 1 (fun p q hp hq => by omega)).2.filter _).length_eq
  simp only [Int.natCast_add, Int.natCast_one, Int.natCast_zero, Int.natCast_mul, Int.cast_ofNat_Int, List.length_append, List.length_map, List.map_nil, List.length_nil, List.map_append, List.map_cons, List.length_cons, Nat.zero_add, srcO] at hlp hh hnew hu
  rw [callL_code g_law05_DueUntil (by simp)]; simp -implicitDefEqProofs (disch := omega) only [c_law05_DueUntil, r_law05_DueUntil, wr, Int.cast_ofNat_Int, Int.natCast_zero, List.length_append, lim_eq, wu64, wu32, wu8, Bool.true_beq, Bool.false_beq, beqT, beqF, Int.natCast_add, Int.natCast_one, ltT, ltF, leT, leF, eqT, eqF, nltT, nltF, nleT, nleF, neqT, neqF, mapGet, Int.toNat_natCast, Int.natCast_nonneg, List.length_map, go_sem, ↓reduceIte, reduceCtorEq, Nat.reduceEqDiff, Nat.reduceAdd, Nat.reduceBEq, Nat.reduceMul, Nat.reduceLeDiff, Nat.reduceSub, Nat.reduceLT, Nat.reduceDiv, Nat.reduceMod, List.reduceReplicate, Int.reduceEq, Int.reduceLT, Int.reduceLE, Int.reduceAdd, Int.reduceSub, Int.reduceMul, Int.reduceNeg, Int.reduceToNat, hnew, hh, hu, hlp, e3, awake_ok]
end Go.Proofs.Ytlphhhmicdjljab
