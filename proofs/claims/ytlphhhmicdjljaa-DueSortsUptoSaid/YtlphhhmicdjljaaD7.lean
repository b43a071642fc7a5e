/-
  Heaps of deadlines: the law of sorting.
-/
import Derived.Test.YtlphhhmicdjljaaD6
namespace Go.Proofs.Ytlphhhmicdjljaa
open Go Go.Sim
set_option linter.unusedSimpArgs false
set_option linter.unusedVariables false
set_option maxRecDepth 40000

def low4 (x : Int) : Int := andI .i64 x 15
theorem low4_in (x : Int) : 0 ≤ low4 x ∧ low4 x ≤ 15 := by
  have h : (BitVec.ofInt IntKind.i64.bits x &&& BitVec.ofInt IntKind.i64.bits 15).toNat ≤ 15 := by
    rw [BitVec.toNat_and]
    exact Nat.and_le_right
  unfold low4 andI
  rw [wrapN (by omega) (by omega)]
  omega
def el (l : List Int) (j : Nat) : Due := (low4 (l.getD j 0), ((j + 1 : Nat) : Int))
structure SortH (l : List Int) (h : List Due) : Prop where
  ok : Ok h
  els : ∀ d ∈ h, ∃ j, j < l.length ∧ d = el l j
theorem el_valid (l : List Int) (j : Nat) (hj : j < 12) : validD (el l j) = true := by
  have h := low4_in (l.getD j 0)
  unfold validD el
  generalize low4 (l.getD j 0) = x at h
  simp
  omega
theorem sort_push {l : List Int} {h : List Due} {i : Nat} (hl : l.length ≤ 12) (hi : i < l.length) (o : SortH l h) (hlen : h.length = i) (hlow : ∀ d ∈ h, d.2 ≤ i) :
    ∃ h', pushD h (el l i) = (h', 0) ∧ SortH l h' ∧ h'.length = i + 1 ∧ ∀ d ∈ h', d.2 ≤ ((i + 1 : Nat) : Int) := by
  have hn : (el l i).2 ∉ h.map (·.2) := fun hm => by
    obtain ⟨d, hd, he⟩ := List.mem_map.1 hm
    have := hlow d hd
    simp only [el] at he
    omega
  obtain ⟨h1, h2, h3⟩ := push_ok' o.ok (el_valid l i (by omega)) (by omega) hn
  refine ⟨_, h1, ⟨h2, fun d hd => ?_⟩, by rw [h3.length_eq, List.length_cons, hlen], fun d hd => ?_⟩
  · rcases List.mem_cons.1 (h3.mem_iff.1 hd) with rfl | hd
    · exact ⟨i, hi, rfl⟩
    · exact o.els d hd
  · rcases List.mem_cons.1 (h3.mem_iff.1 hd) with rfl | hd
    · simp [el]
    · have := hlow d hd; omega
theorem sort_pop {l : List Int} {h : List Due} (o : SortH l h) (hne : h ≠ []) : ∃ h' j, popD h = (h', el l j, 0) ∧ SortH l h' ∧ j < l.length ∧ el l j ∈ h ∧ h'.length + 1 = h.length ∧ (∀ d ∈ h', d ∈ h) ∧ ∀ d ∈ h', lt (el l j) d = true := by
  have h0 : 0 < h.length := List.length_pos_iff.2 hne
  obtain ⟨h1, h2⟩ := drop_ok' o.ok 0 h0
  have hm : h.getD 0 dz ∈ h := h2.mem_iff.1 (by simp)
  obtain ⟨j, hj, he⟩ := o.els _ hm
  refine ⟨dropL h 0, j, ?_, ⟨h1, fun d hd => o.els d (h2.mem_iff.1 (by simp [hd]))⟩, hj, by rw [← he]; exact hm, by have := h2.length_eq; simpa using this, fun d hd => h2.mem_iff.1 (by simp [hd]), fun d hd => ?_⟩
  · unfold popD
    rw [(validate_iff h).2 o.ok, if_neg (by simp), if_neg hne, ← he]
  · have hdh : d ∈ h := h2.mem_iff.1 (by simp [hd])
    have hmin := top_min' o.ok.ord d hdh
    have hnd := ((h2.map (·.2)).nodup_iff).2 o.ok.ids
    rw [List.map_cons, List.nodup_cons] at hnd
    have hne2 : (h.getD 0 dz).2 ≠ d.2 := fun e => hnd.1 (List.mem_map.2 ⟨d, hd, e.symm⟩)
    rw [← he]
    rw [lt_ff] at hmin
    rw [lt_iff]
    omega

abbrev ints (l : List Int) : List D := l.map (.int .i64)
def sortS (l : List Int) (p : List Due × Nat) : St := ⟨[(0, .d (.sl (ints l))), (3, .d (.sl (p.1.map eD))), (4, .d (.int .i64 p.2))], []⟩
theorem sort_loop0 (l : List Int) (hl : l.length ≤ 12) : ∀ p : List Due × Nat, (SortH l p.1 ∧ p.1.length = p.2 ∧ p.2 ≤ l.length ∧ ∀ d ∈ p.1, d.2 ≤ p.2) →
    ∃ h', loopL G [] l_law05_DueSorts_0 (sortS l p) = some (.exit 0, ⟨[(0, .d (.sl (ints l))), (3, .d (.sl (h'.map eD)))], []⟩) ∧ SortH l h' ∧ h'.length = l.length := by
  refine loop_indP (fun p : List Due × Nat => l.length - p.2) (fun p : List Due × Nat => SortH l p.1 ∧ p.1.length = p.2 ∧ p.2 ≤ l.length ∧ ∀ d ∈ p.1, d.2 ≤ p.2) (sortS l)
    (fun _ x => ∃ h' : List Due, x = some (.exit 0, ⟨[(0, .d (.sl (ints l))), (3, .d (.sl (h'.map eD)))], []⟩) ∧ SortH l h' ∧ h'.length = l.length) fun ⟨h, i⟩ ⟨o, hlen, hi, hlow⟩ L ih => ?_
  simp only [sortS] at o hlen hi hlow ih ⊢
  simp -implicitDefEqProofs only [l_law05_DueSorts_0, go_sem, ↓reduceIte, reduceCtorEq, Nat.reduceEqDiff, Nat.reduceAdd, Nat.reduceBEq, Nat.reduceMul, Nat.reduceLeDiff, Nat.reduceSub, Nat.reduceLT, Nat.reduceDiv, Nat.reduceMod, List.reduceReplicate, Int.reduceEq, Int.reduceLT, Int.reduceLE, Int.reduceAdd, Int.reduceSub, Int.reduceMul, Int.reduceNeg, Int.reduceToNat]
  by_cases hc : i < l.length
  · obtain ⟨h', e1, o1, e2, e3⟩ := sort_push hl hc o hlen hlow
    have hp := push_ok h (el l i) (by simp [LIM]; omega)
    have hv := validate_ok h' (by simp [LIM]; omega)
    rw [(validate_iff h').2 o1.ok] at hv
    rw [e1] at hp
    simp only [eD, eDE, el] at hp
    have hw3 : IntKind.i64.wrap ((i : Int) + 1) = ((i + 1 : Nat) : Int) := by rw [wrapN (by omega) (by omega)]; omega
    have hg : (ints l)[i]? = some (.int .i64 (l.getD i 0)) := by simp [List.getElem?_map, List.getElem?_eq_getElem hc, hc]
    have hlo : andI .i64 (l.getD i 0) 15 = low4 (l.getD i 0) := rfl
    simp -implicitDefEqProofs only [List.length_map, show (i : Int) < (l.length : Int) by omega, Int.natCast_nonneg, Int.toNat_natCast, hg, hlo, hw3, hp, hv, go_sem, ↓reduceIte, reduceCtorEq, Nat.reduceEqDiff, Nat.reduceAdd, Nat.reduceBEq, Nat.reduceMul, Nat.reduceLeDiff, Nat.reduceSub, Nat.reduceLT, Nat.reduceDiv, Nat.reduceMod, List.reduceReplicate, Int.reduceEq, Int.reduceLT, Int.reduceLE, Int.reduceAdd, Int.reduceSub, Int.reduceMul, Int.reduceNeg, Int.reduceToNat]
    exact ih (h', i + 1) ⟨o1, e2, by omega, e3⟩ (by simp only; omega)
  · simp -implicitDefEqProofs only [List.length_map, show ¬ (i : Int) < (l.length : Int) by omega, go_sem, ↓reduceIte, reduceCtorEq, Nat.reduceEqDiff, Nat.reduceAdd, Nat.reduceBEq, Nat.reduceMul, Nat.reduceLeDiff, Nat.reduceSub, Nat.reduceLT, Nat.reduceDiv, Nat.reduceMod, List.reduceReplicate, Int.reduceEq, Int.reduceLT, Int.reduceLE, Int.reduceAdd, Int.reduceSub, Int.reduceMul, Int.reduceNeg, Int.reduceToNat]
    exact ⟨h, rfl, o, by omega⟩

def sortT (l : List Int) (p : List Due × Nat × Due) : St := ⟨[(0, .d (.sl (ints l))), (3, .d (.sl (p.1.map eD))), (7, .ref 7 0 0), (8, .d (.int .i64 p.2.1))], [(7, .row [.d (.agg [.int .i64 p.2.2.1, .int .i64 p.2.2.2])])]⟩
set_option maxHeartbeats 4000000 in
theorem sort_loop1 (l : List Int) (hl : l.length ≤ 12) : ∀ p : List Due × Nat × Due, (SortH l p.1 ∧ p.1.length + p.2.1 = l.length ∧ ∀ d ∈ p.1, lt p.2.2 d = true) →
    loopL G [] l_law05_DueSorts_1 (sortT l p) = some (.exit 2, ⟨[(3, .d (.sl []))], []⟩) := by
  refine loop_ind (fun p : List Due × Nat × Due => l.length - p.2.1) (fun p : List Due × Nat × Due => SortH l p.1 ∧ p.1.length + p.2.1 = l.length ∧ ∀ d ∈ p.1, lt p.2.2 d = true) (sortT l) _ fun ⟨h, i, a, b⟩ ⟨o, hlen, hlow⟩ L ih => ?_
  simp only [sortT] at o hlen hlow ih ⊢
  simp -implicitDefEqProofs only [l_law05_DueSorts_1, go_sem, ↓reduceIte, reduceCtorEq, Nat.reduceEqDiff, Nat.reduceAdd, Nat.reduceBEq, Nat.reduceMul, Nat.reduceLeDiff, Nat.reduceSub, Nat.reduceLT, Nat.reduceDiv, Nat.reduceMod, List.reduceReplicate, Int.reduceEq, Int.reduceLT, Int.reduceLE, Int.reduceAdd, Int.reduceSub, Int.reduceMul, Int.reduceNeg, Int.reduceToNat]
  by_cases hc : i < l.length
  · obtain ⟨h', j, e1, o1, hj, hm, e2, e3, e4⟩ := sort_pop o (by intro hn; subst hn; simp at hlen; omega)
    have hp := pop_ok h (by simp [LIM]; omega)
    have hv := validate_ok h' (by simp [LIM]; omega)
    rw [(validate_iff h').2 o1.ok] at hv
    rw [e1] at hp
    have hlt := hlow _ hm
    simp only [el] at hp hlt e4
    simp only [eD] at hp
    rw [lt_iff] at hlt
    simp only at hlt
    have hw3 : IntKind.i64.wrap ((i : Int) + 1) = ((i + 1 : Nat) : Int) := by rw [wrapN (by omega) (by omega)]; omega
    have hw4 : IntKind.i64.wrap (((j + 1 : Nat) : Int) - 1) = (j : Int) := by rw [wrapN (by omega) (by omega)]; omega
    have hg : (ints l)[j]? = some (.int .i64 (l.getD j 0)) := by simp [List.getElem?_map, List.getElem?_eq_getElem hj, hj]
    have hlo : andI .i64 (l.getD j 0) 15 = low4 (l.getD j 0) := rfl
    generalize low4 (l.getD j 0) = x at hp hlt e4 hlo
    have c1 : ¬ x < a := by omega
    have c3 : ¬ ((j + 1 : Nat) : Int) < 1 := by omega
    have c4 : ¬ (l.length : Int) < ((j + 1 : Nat) : Int) := by omega
    have fin : L ⟨[(0, .d (.sl (ints l))), (3, .d (.sl (h'.map eD))), (7, .ref 7 0 0), (8, .d (.int .i64 ((i + 1 : Nat) : Int)))], [(7, .row [.d (.agg [.int .i64 x, .int .i64 ((j + 1 : Nat) : Int)])])]⟩ = some (.exit 2, ⟨[(3, .d (.sl []))], []⟩) :=
      ih (h', i + 1, x, ((j + 1 : Nat) : Int)) ⟨o1, by simp only; omega, e4⟩ (by simp only; omega)
    by_cases c2 : x = a
    · have c5 : ¬ ((j + 1 : Nat) : Int) ≤ b := by omega
      subst c2
      simp -implicitDefEqProofs only [List.length_map, show (i : Int) < (l.length : Int) by omega, Int.natCast_nonneg, Int.toNat_natCast, hp, hv, c1, c3, c4, c5, hw3, hw4, hg, hlo, show (j : Int) < (l.length : Int) by omega, fin, go_sem, ↓reduceIte, reduceCtorEq, Nat.reduceEqDiff, Nat.reduceAdd, Nat.reduceBEq, Nat.reduceMul, Nat.reduceLeDiff, Nat.reduceSub, Nat.reduceLT, Nat.reduceDiv, Nat.reduceMod, List.reduceReplicate, Int.reduceEq, Int.reduceLT, Int.reduceLE, Int.reduceAdd, Int.reduceSub, Int.reduceMul, Int.reduceNeg, Int.reduceToNat]
    · simp -implicitDefEqProofs only [List.length_map, show (i : Int) < (l.length : Int) by omega, Int.natCast_nonneg, Int.toNat_natCast, hp, hv, c1, c2, c3, c4, hw3, hw4, hg, hlo, show (j : Int) < (l.length : Int) by omega, fin, go_sem, ↓reduceIte, reduceCtorEq, Nat.reduceEqDiff, Nat.reduceAdd, Nat.reduceBEq, Nat.reduceMul, Nat.reduceLeDiff, Nat.reduceSub, Nat.reduceLT, Nat.reduceDiv, Nat.reduceMod, List.reduceReplicate, Int.reduceEq, Int.reduceLT, Int.reduceLE, Int.reduceAdd, Int.reduceSub, Int.reduceMul, Int.reduceNeg, Int.reduceToNat]
  · have : h = [] := by have : h.length = 0 := by omega
                        simpa using this
    subst this
    simp -implicitDefEqProofs only [List.length_map, show ¬ (i : Int) < (l.length : Int) by omega, List.map_nil, go_sem, ↓reduceIte, reduceCtorEq, Nat.reduceEqDiff, Nat.reduceAdd, Nat.reduceBEq, Nat.reduceMul, Nat.reduceLeDiff, Nat.reduceSub, Nat.reduceLT, Nat.reduceDiv, Nat.reduceMod, List.reduceReplicate, Int.reduceEq, Int.reduceLT, Int.reduceLE, Int.reduceAdd, Int.reduceSub, Int.reduceMul, Int.reduceNeg, Int.reduceToNat]

theorem dueSorts_ok (l : List Int) : callL G N_law05_DueSorts [.d (.sl (ints l))] [] = some (.d (.bool true), []) := by
  rw [callL_code g_law05_DueSorts (by simp)]; simp -implicitDefEqProofs only [c_law05_DueSorts, r_law05_DueSorts, go_sem, ↓reduceIte, reduceCtorEq, Nat.reduceEqDiff, Nat.reduceAdd, Nat.reduceBEq, Nat.reduceMul, Nat.reduceLeDiff, Nat.reduceSub, Nat.reduceLT, Nat.reduceDiv, Nat.reduceMod, List.reduceReplicate, Int.reduceEq, Int.reduceLT, Int.reduceLE, Int.reduceAdd, Int.reduceSub, Int.reduceMul, Int.reduceNeg, Int.reduceToNat]
  by_cases hl : l.length ≤ 12
  · obtain ⟨h', e1, o1, e2⟩ := sort_loop0 l hl ([], 0) ⟨⟨ok_nil, by simp⟩, rfl, by simp, by simp⟩
    have e3 := sort_loop1 l hl (h', 0, (-1, 0)) ⟨o1, by simp only; omega, fun d hd => by
      obtain ⟨j, hj, rfl⟩ := o1.els d hd
      have := low4_in (l.getD j 0)
      rw [lt_iff]; simp only [el]; omega⟩
    simp only [sortS, List.map_nil, Int.natCast_zero] at e1
    simp only [sortT, Int.natCast_zero] at e3
    simp -implicitDefEqProofs only [List.length_map, show ¬ 12 < (l.length : Int) by omega, e1, e3, awake_ok, Int.natCast_zero, go_sem, ↓reduceIte, reduceCtorEq, Nat.reduceEqDiff, Nat.reduceAdd, Nat.reduceBEq, Nat.reduceMul, Nat.reduceLeDiff, Nat.reduceSub, Nat.reduceLT, Nat.reduceDiv, Nat.reduceMod, List.reduceReplicate, Int.reduceEq, Int.reduceLT, Int.reduceLE, Int.reduceAdd, Int.reduceSub, Int.reduceMul, Int.reduceNeg, Int.reduceToNat]
  · simp -implicitDefEqProofs only [List.length_map, show 12 < (l.length : Int) by omega, go_sem, ↓reduceIte, reduceCtorEq, Nat.reduceEqDiff, Nat.reduceAdd, Nat.reduceBEq, Nat.reduceMul, Nat.reduceLeDiff, Nat.reduceSub, Nat.reduceLT, Nat.reduceDiv, Nat.reduceMod, List.reduceReplicate, Int.reduceEq, Int.reduceLT, Int.reduceLE, Int.reduceAdd, Int.reduceSub, Int.reduceMul, Int.reduceNeg, Int.reduceToNat]
end Go.Proofs.Ytlphhhmicdjljaa
