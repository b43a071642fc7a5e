/-
  Removing an element of a heap.
-/
import Derived.Test.YtlphhhmicdjljaaD8
import Derived.Test.YtlphhhmicdjljaaXO
namespace Go.Proofs.Ytlphhhmicdjljaa
open Go Go.Sim
set_option linter.unusedSimpArgs false
set_option linter.unusedVariables false
set_option maxRecDepth 40000
theorem pushD_of0 {h : List Due} {d : Due} (h0 : (pushD h d).2 = 0) : Ok (pushD h d).1 := by
  have he : pushE h d = 0 := h0
  have h1 := he
  unfold pushE at h1
  split at h1
  · rename_i hv; exact absurd h1 hv
  · rename_i hv
    have o := (validate_iff h).1 (by simpa using hv)
    split at h1
    · cases h1
    · rename_i hd
      split at h1
      · cases h1
      · rename_i hl
        split at h1
        · cases h1
        · rename_i hf
          have := push_ok' o (by simpa using hd) (by have := o.len; omega) ((findD_neg h d.2).1 (by omega))
          rw [this.1]; exact this.2.1
def heapS (l : List Int) (p : List Due × Nat × Nat) : St := ⟨[(0, .ref 1000000 0 0), (3, .d (.sl (p.1.map eD))), (4, .d (.int .i64 p.2.2)), (1000000, .ref 1000000 1 0)], [(1000000, srcO l p.2.1)]⟩
theorem heap_loop (l : List Int) (hL : l.length ≤ 4000) : ∀ p : List Due × Nat × Nat, Ok p.1 ∧ p.2.2 ≤ 100 → ∃ h' a', Ok h' ∧ loopL G [] l_base_Src_Heap_0 (heapS l p) = some (.exit 0, ⟨[(3, .d (.sl (h'.map eD))), (1000000, .ref 1000000 1 0)], [(1000000, srcO l a')]⟩) := by
  refine loop_indP (fun p : List Due × Nat × Nat => p.2.2) (fun p : List Due × Nat × Nat => Ok p.1 ∧ p.2.2 ≤ 100) (heapS l) (fun p r => ∃ h' a', Ok h' ∧ r = some (.exit 0, ⟨[(3, .d (.sl (h'.map eD))), (1000000, .ref 1000000 1 0)], [(1000000, srcO l a')]⟩)) fun ⟨h, a, k⟩ ⟨o, hk⟩ L ih => ?_
  simp only [heapS] at ih o hk ⊢
  simp only [l_base_Src_Heap_0]
  have n1 := nD_in l a (n := 12) (by omega)
  have n2 := nD_in l (rawD l a).2 (n := 20) (by omega)
  by_cases h0 : 0 < k
  · have hp := refPush_ok h (nD l a 12, 1 + nD l (rawD l a).2 20) (by have := o.len; simp [LIM]; omega)
    simp only [eD, eDE] at hp
    simp -implicitDefEqProofs (disch := omega) only [wr, Bool.true_beq, Bool.false_beq, beqT, beqF, Int.natCast_add, Int.natCast_one, ltT, ltF, leT, leF, eqT, eqF, nltT, nltF, nleT, nleF, neqT, neqF, mapGet, Int.toNat_natCast, Int.natCast_nonneg, List.length_map, go_sem, ↓reduceIte, reduceCtorEq, Nat.reduceEqDiff, Nat.reduceAdd, Nat.reduceBEq, Nat.reduceMul, Nat.reduceLeDiff, Nat.reduceSub, Nat.reduceLT, Nat.reduceDiv, Nat.reduceMod, List.reduceReplicate, Int.reduceEq, Int.reduceLT, Int.reduceLE, Int.reduceAdd, Int.reduceSub, Int.reduceMul, Int.reduceNeg, Int.reduceToNat, n_ok, range_ok, hp]
    split
    · rename_i h1
      have := ih (_, (rawD l (rawD l a).2).2, k - 1) ⟨pushD_of0 (by simpa using h1), by simp only; omega⟩ (by simp only; omega)
      simp only [show (((k - 1 : Nat)) : Int) = (k : Int) - 1 by omega] at this
      exact this
    · have := ih (h, (rawD l (rawD l a).2).2, k - 1) ⟨o, by simp only; omega⟩ (by simp only; omega)
      simp only [show (((k - 1 : Nat)) : Int) = (k : Int) - 1 by omega] at this
      exact this
  · simp -implicitDefEqProofs (disch := omega) only [wr, Bool.true_beq, Bool.false_beq, beqT, beqF, Int.natCast_add, Int.natCast_one, ltT, ltF, leT, leF, eqT, eqF, nltT, nltF, nleT, nleF, neqT, neqF, mapGet, Int.toNat_natCast, Int.natCast_nonneg, List.length_map, go_sem, ↓reduceIte, reduceCtorEq, Nat.reduceEqDiff, Nat.reduceAdd, Nat.reduceBEq, Nat.reduceMul, Nat.reduceLeDiff, Nat.reduceSub, Nat.reduceLT, Nat.reduceDiv, Nat.reduceMod, List.reduceReplicate, Int.reduceEq, Int.reduceLT, Int.reduceLE, Int.reduceAdd, Int.reduceSub, Int.reduceMul, Int.reduceNeg, Int.reduceToNat, Nat.zero_add]
    exact ⟨h, a, o, rfl⟩
theorem heap_ok (l : List Int) (a : Nat) (hL : l.length ≤ 4000) : ∃ h' a', Ok h' ∧ callL G N_base_Src_Heap [.ref 1000000 0 0] [(1000000, srcO l a)] = some (.d (.sl (h'.map eD)), [(1000000, srcO l a')]) := by
  have n1 := nD_in l a (n := 13) (by omega)
  obtain ⟨h', a', o, hh⟩ := heap_loop l hL ([], (rawD l a).2, (nD l a 13).toNat) ⟨ok_nil, by simp only; omega⟩
  refine ⟨h', a', o, ?_⟩
  simp only [heapS, List.map_nil, show ((nD l a 13).toNat : Int) = nD l a 13 by omega] at hh
  rw [callL_code g_base_Src_Heap (by simp)]; simp -implicitDefEqProofs (disch := omega) only [c_base_Src_Heap, r_base_Src_Heap, wr, Bool.true_beq, Bool.false_beq, beqT, beqF, Int.natCast_add, Int.natCast_one, ltT, ltF, leT, leF, eqT, eqF, nltT, nltF, nleT, nleF, neqT, neqF, mapGet, Int.toNat_natCast, Int.natCast_nonneg, List.length_map, go_sem, ↓reduceIte, reduceCtorEq, Nat.reduceEqDiff, Nat.reduceAdd, Nat.reduceBEq, Nat.reduceMul, Nat.reduceLeDiff, Nat.reduceSub, Nat.reduceLT, Nat.reduceDiv, Nat.reduceMod, List.reduceReplicate, Int.reduceEq, Int.reduceLT, Int.reduceLE, Int.reduceAdd, Int.reduceSub, Int.reduceMul, Int.reduceNeg, Int.reduceToNat, n_ok, hh]

def remS0 (h x : List Due) (i k : Nat) (j : Nat) (f : Bool) : St := ⟨[(3, .d (.sl (h.map eD))), (4, .d (.int .i64 i)), (5, .d (.sl (x.map eD))), (7, .d (.int .i64 k)), (8, .d (.bool f)), (9, .d (.int .i64 j))], []⟩
def remE0 (h x : List Due) (i k : Nat) (f : Bool) : St := ⟨[(3, .d (.sl (h.map eD))), (4, .d (.int .i64 i)), (5, .d (.sl (x.map eD))), (7, .d (.int .i64 k)), (8, .d (.bool f))], []⟩
theorem due_eq (a b : Due) : (decide (a.1 = b.1) && decide (a.2 = b.2)) = decide (a = b) := by
  obtain ⟨x, y⟩ := a
  obtain ⟨z, w⟩ := b
  simp [Prod.ext_iff]
theorem rem_loop0 (h x : List Due) (i k : Nat) (hh : h.length ≤ 12) (hx : x.length ≤ 12) (hk : k < h.length) (f0 : Bool) : loopL G [] l_law05_DueRemoves_0 (remS0 h x i k 0 f0) = some (itR (fun j f => .inr (f || decide (x.getD j dz = h[k]))) (fun f => (.exit 4, remE0 h x i k f)) 0 x.length f0) := by
  refine loop_it x.length (remS0 h x i k) (fun _ _ => True) _ _ (fun j f hj _ L => ?_) (fun _ _ _ _ _ _ => trivial) 0 f0 (by omega) trivial
  simp only [l_law05_DueRemoves_0, remS0]
  by_cases hlt : j < x.length
  · have hg : x.getD j dz = x[j] := by simp [hlt]
    rw [hg]
    cases f
    · simp -implicitDefEqProofs (disch := omega) only [wr, Bool.true_beq, Bool.false_beq, beqT, beqF, Int.natCast_add, Int.natCast_one, ltT, ltF, leT, leF, eqT, eqF, nltT, nltF, nleT, nleF, neqT, neqF, mapGet, Int.toNat_natCast, Int.natCast_nonneg, List.length_map, go_sem, ↓reduceIte, reduceCtorEq, Nat.reduceEqDiff, Nat.reduceAdd, Nat.reduceBEq, Nat.reduceMul, Nat.reduceLeDiff, Nat.reduceSub, Nat.reduceLT, Nat.reduceDiv, Nat.reduceMod, List.reduceReplicate, Int.reduceEq, Int.reduceLT, Int.reduceLE, Int.reduceAdd, Int.reduceSub, Int.reduceMul, Int.reduceNeg, Int.reduceToNat, eD, due_eq]
    · simp -implicitDefEqProofs (disch := omega) only [wr, Bool.true_beq, Bool.false_beq, beqT, beqF, Int.natCast_add, Int.natCast_one, ltT, ltF, leT, leF, eqT, eqF, nltT, nltF, nleT, nleF, neqT, neqF, mapGet, Int.toNat_natCast, Int.natCast_nonneg, List.length_map, go_sem, ↓reduceIte, reduceCtorEq, Nat.reduceEqDiff, Nat.reduceAdd, Nat.reduceBEq, Nat.reduceMul, Nat.reduceLeDiff, Nat.reduceSub, Nat.reduceLT, Nat.reduceDiv, Nat.reduceMod, List.reduceReplicate, Int.reduceEq, Int.reduceLT, Int.reduceLE, Int.reduceAdd, Int.reduceSub, Int.reduceMul, Int.reduceNeg, Int.reduceToNat, hlt]
  · simp -implicitDefEqProofs (disch := omega) only [wr, Bool.true_beq, Bool.false_beq, beqT, beqF, Int.natCast_add, Int.natCast_one, ltT, ltF, leT, leF, eqT, eqF, nltT, nltF, nleT, nleF, neqT, neqF, mapGet, Int.toNat_natCast, Int.natCast_nonneg, List.length_map, go_sem, ↓reduceIte, reduceCtorEq, Nat.reduceEqDiff, Nat.reduceAdd, Nat.reduceBEq, Nat.reduceMul, Nat.reduceLeDiff, Nat.reduceSub, Nat.reduceLT, Nat.reduceDiv, Nat.reduceMod, List.reduceReplicate, Int.reduceEq, Int.reduceLT, Int.reduceLE, Int.reduceAdd, Int.reduceSub, Int.reduceMul, Int.reduceNeg, Int.reduceToNat, hlt]
    rfl
theorem itR_any {E : List Due → Bool → AExit × St} (x l : List Due) (d : Due) : ∀ (m k : Nat) (f : Bool), k + m = x.length → itR (σ := Bool) (fun j f => .inr (f || decide (x.getD j dz = d))) (E l) k m f = E l (f || decide (d ∈ x.drop k)) := by
  intro m
  induction m with
  | zero => intro k f h; rw [List.drop_of_length_le (by omega)]; simp [itR]
  | succ m ih =>
    intro k f h
    simp only [itR]
    have this : x.getD k dz = x[k]'(by omega) := by simp [show k < x.length by omega]
    have e : decide (d ∈ x.drop k) = (decide (x[k]'(by omega) = d) || decide (d ∈ x.drop (k + 1))) := by
      rw [List.drop_eq_getElem_cons (show k < x.length by omega)]
      simp only [List.mem_cons, Bool.decide_or, eq_comm]
    rw [ih (k + 1) _ (by omega), this, e, Bool.or_assoc]
theorem rem_found (h x : List Due) (i k : Nat) (hh : h.length ≤ 12) (hx : x.length ≤ 12) (hk : k < h.length) : loopL G [] l_law05_DueRemoves_0 (remS0 h x i k 0 false) = some (.exit 4, remE0 h x i k (decide (h[k] ∈ x))) := by
  rw [rem_loop0 h x i k hh hx hk, itR_any (E := fun _ f => (.exit 4, remE0 h x i k f)) x [] h[k] x.length 0 false (by omega)]
  simp
def remS1 (h x : List Due) (i k : Nat) : St := ⟨[(3, .d (.sl (h.map eD))), (4, .d (.int .i64 i)), (5, .d (.sl (x.map eD))), (7, .d (.int .i64 k))], []⟩
theorem rem_loop1 (h x : List Due) (i : Nat) (hh : h.length ≤ 12) (hx : x.length ≤ 12) (hi : i < h.length) (hn : h.Nodup) (hp : (h[i] :: x).Perm h) : ∀ k, k ≤ h.length → loopL G [] l_law05_DueRemoves_1 (remS1 h x i k) = some (.exit 2, ⟨[(3, .d (.sl (h.map eD))), (4, .d (.int .i64 i))], []⟩) := by
  refine loop_ind (fun k => h.length - k) (fun k => k ≤ h.length) _ _ fun k hk L ih => ?_
  simp only [l_law05_DueRemoves_1, remS1]
  by_cases hlt : k < h.length
  · have hf := rem_found h x i k hh hx hlt
    simp only [remS0, remE0, Int.natCast_zero] at hf
    have hin : decide (h[k] ∈ x) = !decide ((k : Int) = (i : Int)) := by
      have hx2 : (h[i] :: x).Nodup := hp.nodup_iff.2 hn
      by_cases hki : k = i
      · subst hki
        simp [(List.nodup_cons.1 hx2).1]
      · have h1 : h[k] ∈ h[i] :: x := hp.mem_iff.2 (List.getElem_mem hlt)
        have h2 : h[k] ≠ h[i] := fun e => by
          have := List.pairwise_iff_getElem.1 hn
          rcases Nat.lt_or_gt_of_ne hki with hc | hc
          · exact this k i hlt hi hc e
          · exact this i k hi hlt hc e.symm
        have : h[k] ∈ x := by simpa [h2] using h1
        simp [this, show ¬ (k : Int) = (i : Int) by omega]
    rw [hin] at hf
    have := ih (k + 1) (by omega) (by omega)
    simp only [remS1, Int.natCast_add, Int.natCast_one] at this
    by_cases hki : k = i
    · subst hki
      simp -implicitDefEqProofs (disch := omega) only [wr, Bool.true_beq, Bool.false_beq, beqT, beqF, Int.natCast_add, Int.natCast_one, ltT, ltF, leT, leF, eqT, eqF, nltT, nltF, nleT, nleF, neqT, neqF, mapGet, Int.toNat_natCast, Int.natCast_nonneg, List.length_map, go_sem, ↓reduceIte, reduceCtorEq, Nat.reduceEqDiff, Nat.reduceAdd, Nat.reduceBEq, Nat.reduceMul, Nat.reduceLeDiff, Nat.reduceSub, Nat.reduceLT, Nat.reduceDiv, Nat.reduceMod, List.reduceReplicate, Int.reduceEq, Int.reduceLT, Int.reduceLE, Int.reduceAdd, Int.reduceSub, Int.reduceMul, Int.reduceNeg, Int.reduceToNat, hf, this]
    · simp -implicitDefEqProofs (disch := omega) only [wr, Bool.true_beq, Bool.false_beq, beqT, beqF, Int.natCast_add, Int.natCast_one, ltT, ltF, leT, leF, eqT, eqF, nltT, nltF, nleT, nleF, neqT, neqF, mapGet, Int.toNat_natCast, Int.natCast_nonneg, List.length_map, go_sem, ↓reduceIte, reduceCtorEq, Nat.reduceEqDiff, Nat.reduceAdd, Nat.reduceBEq, Nat.reduceMul, Nat.reduceLeDiff, Nat.reduceSub, Nat.reduceLT, Nat.reduceDiv, Nat.reduceMod, List.reduceReplicate, Int.reduceEq, Int.reduceLT, Int.reduceLE, Int.reduceAdd, Int.reduceSub, Int.reduceMul, Int.reduceNeg, Int.reduceToNat, hf, this]
  · simp -implicitDefEqProofs (disch := omega) only [wr, Bool.true_beq, Bool.false_beq, beqT, beqF, Int.natCast_add, Int.natCast_one, ltT, ltF, leT, leF, eqT, eqF, nltT, nltF, nleT, nleF, neqT, neqF, mapGet, Int.toNat_natCast, Int.natCast_nonneg, List.length_map, go_sem, ↓reduceIte, reduceCtorEq, Nat.reduceEqDiff, Nat.reduceAdd, Nat.reduceBEq, Nat.reduceMul, Nat.reduceLeDiff, Nat.reduceSub, Nat.reduceLT, Nat.reduceDiv, Nat.reduceMod, List.reduceReplicate, Int.reduceEq, Int.reduceLT, Int.reduceLE, Int.reduceAdd, Int.reduceSub, Int.reduceMul, Int.reduceNeg, Int.reduceToNat, Nat.zero_add]
theorem ok_nodup {h : List Due} (o : Ok h) : h.Nodup := List.Pairwise.of_map (fun d : Due => d.2) (fun a b h e => h (by rw [e])) o.ids
theorem rem_loop2 (h : List Due) (o : Ok h) : ∀ i, i ≤ h.length → loopL G [] l_law05_DueRemoves_2 ⟨[(3, .d (.sl (h.map eD))), (4, .d (.int .i64 i))], []⟩ = some (.exit 0, ⟨[], []⟩) := by
  refine loop_ind (fun k => h.length - k) (fun k => k ≤ h.length) _ _ fun i hk L ih => ?_
  simp only [l_law05_DueRemoves_2]
  have ol := o.len
  by_cases hlt : i < h.length
  · have hfd := findD_idx h i hlt o.ids
    have hg : h.getD i dz = h[i] := by simp [hlt]
    rw [hg] at hfd
    have hr := remove_ok h h[i].2 (by simp [LIM]; omega)
    have hd := drop_ok' o i hlt
    rw [hg] at hd
    have e1 : removeD h h[i].2 = (dropL h i, 0) := by
      unfold removeD
      rw [(validate_iff h).2 o, hfd]
      simp
    rw [e1] at hr
    have hv := validate_ok (dropL h i) (by have := hd.1.len; simp [LIM]; omega)
    rw [(validate_iff _).2 hd.1] at hv
    have hl : (dropL h i).length + 1 = h.length := by have := hd.2.length_eq; simpa using this
    have hl1 := rem_loop1 h (dropL h i) i (by omega) (by omega) hlt (ok_nodup o) hd.2 0 (by omega)
    simp only [remS1, Int.natCast_zero] at hl1
    simp only [eDE] at hr
    have := ih (i + 1) (by omega) (by omega)
    simp only [Int.natCast_add, Int.natCast_one] at this
    simp -implicitDefEqProofs (disch := omega) only [wr, Bool.true_beq, Bool.false_beq, beqT, beqF, Int.natCast_add, Int.natCast_one, ltT, ltF, leT, leF, eqT, eqF, nltT, nltF, nleT, nleF, neqT, neqF, mapGet, Int.toNat_natCast, Int.natCast_nonneg, List.length_map, go_sem, ↓reduceIte, reduceCtorEq, Nat.reduceEqDiff, Nat.reduceAdd, Nat.reduceBEq, Nat.reduceMul, Nat.reduceLeDiff, Nat.reduceSub, Nat.reduceLT, Nat.reduceDiv, Nat.reduceMod, List.reduceReplicate, Int.reduceEq, Int.reduceLT, Int.reduceLE, Int.reduceAdd, Int.reduceSub, Int.reduceMul, Int.reduceNeg, Int.reduceToNat, hr, hv, eD, hl1, this]
  · simp -implicitDefEqProofs (disch := omega) only [wr, Bool.true_beq, Bool.false_beq, beqT, beqF, Int.natCast_add, Int.natCast_one, ltT, ltF, leT, leF, eqT, eqF, nltT, nltF, nleT, nleF, neqT, neqF, mapGet, Int.toNat_natCast, Int.natCast_nonneg, List.length_map, go_sem, ↓reduceIte, reduceCtorEq, Nat.reduceEqDiff, Nat.reduceAdd, Nat.reduceBEq, Nat.reduceMul, Nat.reduceLeDiff, Nat.reduceSub, Nat.reduceLT, Nat.reduceDiv, Nat.reduceMod, List.reduceReplicate, Int.reduceEq, Int.reduceLT, Int.reduceLE, Int.reduceAdd, Int.reduceSub, Int.reduceMul, Int.reduceNeg, Int.reduceToNat, Nat.zero_add]
theorem dueRemoves_ok (l : List Int) (hL : l.length ≤ LIM) : callL G N_law05_DueRemoves [.d (.sl (ints l))] [] = some (.d (.bool true), []) := by
  obtain ⟨h, a, o, hh⟩ := heap_ok (l.take 4000) 0 (by simp; omega)
  have hl := rem_loop2 h o 0 (by omega)
  simp only [Int.natCast_zero] at hl hh
  rw [callL_code g_law05_DueRemoves (by simp)]; simp -implicitDefEqProofs (disch := omega) only [c_law05_DueRemoves, r_law05_DueRemoves, wr, Bool.true_beq, Bool.false_beq, beqT, beqF, Int.natCast_add, Int.natCast_one, ltT, ltF, leT, leF, eqT, eqF, nltT, nltF, nleT, nleF, neqT, neqF, mapGet, Int.toNat_natCast, Int.natCast_nonneg, List.length_map, go_sem, ↓reduceIte, reduceCtorEq, Nat.reduceEqDiff, Nat.reduceAdd, Nat.reduceBEq, Nat.reduceMul, Nat.reduceLeDiff, Nat.reduceSub, Nat.reduceLT, Nat.reduceDiv, Nat.reduceMod, List.reduceReplicate, Int.reduceEq, Int.reduceLT, Int.reduceLE, Int.reduceAdd, Int.reduceSub, Int.reduceMul, Int.reduceNeg, Int.reduceToNat, new_ok l hL, hh, hl, awake_ok]
end Go.Proofs.Ytlphhhmicdjljaa
