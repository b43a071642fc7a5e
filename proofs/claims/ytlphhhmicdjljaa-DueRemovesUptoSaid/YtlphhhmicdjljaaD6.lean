/-
  Heaps of deadlines: awake, and the law of full heaps.
-/
import Derived.Test.YtlphhhmicdjljaaH2
import Derived.Test.YtlphhhmicdjljaaXM
namespace Go.Proofs.Ytlphhhmicdjljaa
open Go Go.Sim
set_option linter.unusedSimpArgs false
set_option linter.unusedVariables false
set_option maxRecDepth 40000

theorem pushD_nil (d : Due) (hd : validD d = true) : pushD [] d = ([d], 0) := by
  rw [(push_ok' ok_nil hd (by simp) (by simp)).1]
  simp [pushL, upL]
theorem awake_ok : callL G N_law05_awake [] [] = some (.d (.bool true), []) := by
  have e1 : pushD [] (5, 1) = ([(5, 1)], 0) := pushD_nil _ (by decide)
  have o1 : Ok [(5, 1)] := ⟨by simp, by decide, by simp, fun k ha hb => by simp at hb; omega⟩
  have e2 : pushD [(5, 1)] (3, 2) = ([(3, 2), (5, 1)], 0) := by
    rw [(push_ok' o1 (by decide) (by simp) (by simp)).1]
    have : lt (3, 2) (5, 1) = true := by decide
    simp [pushL, upL, swp, this]
  have h1 := push_ok [] (5, 1) (by simp)
  have h2 := push_ok [(5, 1)] (3, 2) (by simp [LIM])
  rw [e1] at h1
  rw [e2] at h2
  simp only [eD, eDE, List.map_cons, List.map_nil] at h1 h2
  rw [callL_code g_law05_awake (by simp)]; simp -implicitDefEqProofs only [c_law05_awake, r_law05_awake, go_sem, ↓reduceIte, reduceCtorEq, Nat.reduceEqDiff, Nat.reduceAdd, Nat.reduceBEq, Nat.reduceMul, Nat.reduceLeDiff, Nat.reduceSub, Nat.reduceLT, Nat.reduceDiv, Nat.reduceMod, List.reduceReplicate, Int.reduceEq, Int.reduceLT, Int.reduceLE, Int.reduceAdd, Int.reduceSub, Int.reduceMul, Int.reduceNeg, Int.reduceToNat]
  simp -implicitDefEqProofs only [h1, h2, Int.cast_ofNat_Int, go_sem, ↓reduceIte, reduceCtorEq, Nat.reduceEqDiff, Nat.reduceAdd, Nat.reduceBEq, Nat.reduceMul, Nat.reduceLeDiff, Nat.reduceSub, Nat.reduceLT, Nat.reduceDiv, Nat.reduceMod, List.reduceReplicate, Int.reduceEq, Int.reduceLT, Int.reduceLE, Int.reduceAdd, Int.reduceSub, Int.reduceMul, Int.reduceNeg, Int.reduceToNat]

/-- The heap with the identities 1073741823 downto 1073741824 - i. -/
structure FullH (h : List Due) (i : Nat) : Prop where
  ok : Ok h
  len : h.length = i
  low : ∀ d ∈ h, 1073741824 - (i : Int) ≤ d.2
theorem full_push {h : List Due} {i : Nat} (o : FullH h i) (hi : i < 12) : ∃ h', pushD h (1073741824, 1073741824 - ((i + 1 : Nat) : Int)) = (h', 0) ∧ FullH h' (i + 1) := by
  have hn : (1073741824 - ((i + 1 : Nat) : Int)) ∉ h.map (·.2) := fun hm => by
    obtain ⟨d, hd, he⟩ := List.mem_map.1 hm
    have := o.low d hd
    omega
  have hv : validD (1073741824, 1073741824 - ((i + 1 : Nat) : Int)) = true := by
    simp [validD]; omega
  obtain ⟨h1, h2, h3⟩ := push_ok' o.ok hv (by rw [o.len]; exact hi) hn
  refine ⟨_, h1, h2, by rw [h3.length_eq, List.length_cons, o.len], fun d hd => ?_⟩
  rcases List.mem_cons.1 (h3.mem_iff.1 hd) with rfl | hd
  · simp
  · have := o.low d hd
    omega
theorem full_over {h : List Due} (o : FullH h 12) (d : Due) (hd : validD d = true) : pushD h d = ([], 3) := by
  have : pushE h d = 3 := by
    unfold pushE
    rw [(validate_iff h).2 o.ok, hd, if_neg (by simp), if_neg (by simp), if_pos o.len]
  unfold pushD
  rw [this, if_neg (by decide)]
def fullS (n : Nat) (p : List Due × Nat) : St := ⟨[(0, .d (.int .u8 n)), (3, .d (.sl (p.1.map eD))), (4, .d (.int .i64 ((p.2 + 1 : Nat) : Int)))], []⟩
theorem full_loop (n : Nat) (hn : n < 256) : ∀ p : List Due × Nat, FullH p.1 (min p.2 12) ∧ p.2 ≤ 12 + n % 3 → ∃ h', loopL G [] l_law05_DueFull_0 (fullS n p) = some (.exit 0, ⟨[(3, .d (.sl (h'.map eD)))], []⟩) ∧ FullH h' 12 := by
  refine loop_indP (fun p : List Due × Nat => 14 - p.2) (fun p : List Due × Nat => FullH p.1 (min p.2 12) ∧ p.2 ≤ 12 + n % 3) (fullS n) (fun _ x => ∃ h' : List Due, x = some (.exit 0, ⟨[(3, .d (.sl (h'.map eD)))], []⟩) ∧ FullH h' 12) fun ⟨h, i⟩ ⟨hk, hi⟩ L ih => ?_
  simp only [fullS] at hk hi ih ⊢
  have hw : IntKind.i64.wrap (12 + IntKind.i64.wrap ((n : Int).tmod 3)) = ((12 + n % 3 : Nat) : Int) := by
    have : (n : Int).tmod 3 = ((n % 3 : Nat) : Int) := by rw [Int.tmod_eq_emod_of_nonneg (by omega)]; omega
    rw [this, wrapN (x := ((n % 3 : Nat) : Int)) (by omega) (by omega), wrapN (by omega) (by omega)]; omega
  have hw2 : IntKind.i64.wrap (1073741824 - ((i + 1 : Nat) : Int)) = 1073741824 - ((i + 1 : Nat) : Int) := wrapN (by omega) (by omega)
  simp -implicitDefEqProofs only [l_law05_DueFull_0, hw, go_sem, ↓reduceIte, reduceCtorEq, Nat.reduceEqDiff, Nat.reduceAdd, Nat.reduceBEq, Nat.reduceMul, Nat.reduceLeDiff, Nat.reduceSub, Nat.reduceLT, Nat.reduceDiv, Nat.reduceMod, List.reduceReplicate, Int.reduceEq, Int.reduceLT, Int.reduceLE, Int.reduceAdd, Int.reduceSub, Int.reduceMul, Int.reduceNeg, Int.reduceToNat]
  by_cases hc : i + 1 ≤ 12 + n % 3
  · have hL := hk.ok.len
    have hp := push_ok h (1073741824, 1073741824 - ((i + 1 : Nat) : Int)) (by simp [LIM]; omega)
    simp only [eD, eDE] at hp
    have hw3 : IntKind.i64.wrap (((i + 1 : Nat) : Int) + 1) = ((i + 1 + 1 : Nat) : Int) := by rw [wrapN (by omega) (by omega)]; omega
    by_cases hi2 : i < 12
    · rw [Nat.min_eq_left (by omega)] at hk
      obtain ⟨h', e1, o1⟩ := full_push hk hi2
      rw [e1] at hp
      simp -implicitDefEqProofs only [show ((i + 1 : Nat) : Int) ≤ ((12 + n % 3 : Nat) : Int) by omega, hw2, hp, show ((i + 1 : Nat) : Int) ≤ 12 by omega, hw3, go_sem, ↓reduceIte, reduceCtorEq, Nat.reduceEqDiff, Nat.reduceAdd, Nat.reduceBEq, Nat.reduceMul, Nat.reduceLeDiff, Nat.reduceSub, Nat.reduceLT, Nat.reduceDiv, Nat.reduceMod, List.reduceReplicate, Int.reduceEq, Int.reduceLT, Int.reduceLE, Int.reduceAdd, Int.reduceSub, Int.reduceMul, Int.reduceNeg, Int.reduceToNat]
      exact ih (h', i + 1) ⟨by rw [Nat.min_eq_left (by omega)]; exact o1, by omega⟩ (by simp only; omega)
    · rw [Nat.min_eq_right (by omega)] at hk
      have e1 := full_over hk (1073741824, 1073741824 - ((i + 1 : Nat) : Int)) (by simp [validD]; omega)
      rw [e1] at hp
      simp -implicitDefEqProofs only [show ((i + 1 : Nat) : Int) ≤ ((12 + n % 3 : Nat) : Int) by omega, hw2, hp, show ¬ ((i + 1 : Nat) : Int) ≤ 12 by omega, hw3, List.map_nil, go_sem, ↓reduceIte, reduceCtorEq, Nat.reduceEqDiff, Nat.reduceAdd, Nat.reduceBEq, Nat.reduceMul, Nat.reduceLeDiff, Nat.reduceSub, Nat.reduceLT, Nat.reduceDiv, Nat.reduceMod, List.reduceReplicate, Int.reduceEq, Int.reduceLT, Int.reduceLE, Int.reduceAdd, Int.reduceSub, Int.reduceMul, Int.reduceNeg, Int.reduceToNat]
      exact ih (h, i + 1) ⟨by rw [Nat.min_eq_right (by omega)]; exact hk, by omega⟩ (by simp only; omega)
  · rw [Nat.min_eq_right (by omega)] at hk
    simp -implicitDefEqProofs only [show ¬ ((i + 1 : Nat) : Int) ≤ ((12 + n % 3 : Nat) : Int) by omega, go_sem, ↓reduceIte, reduceCtorEq, Nat.reduceEqDiff, Nat.reduceAdd, Nat.reduceBEq, Nat.reduceMul, Nat.reduceLeDiff, Nat.reduceSub, Nat.reduceLT, Nat.reduceDiv, Nat.reduceMod, List.reduceReplicate, Int.reduceEq, Int.reduceLT, Int.reduceLE, Int.reduceAdd, Int.reduceSub, Int.reduceMul, Int.reduceNeg, Int.reduceToNat]
    exact ⟨h, rfl, hk⟩
theorem fullH0 : FullH [] 0 := ⟨ok_nil, rfl, by simp⟩
theorem dueFull_ok (n : Nat) (hn : n < 256) : callL G N_law05_DueFull [.d (.int .u8 n)] [] = some (.d (.bool true), []) := by
  obtain ⟨h', e1, o1⟩ := full_loop n hn ([], 0) ⟨by simpa using fullH0, by omega⟩
  simp only [fullS, List.map_nil, Nat.zero_add, Int.natCast_one] at e1
  have p1 := push_ok [] (1073741825, 1) (by simp)
  have p2 := push_ok [] (0, 1073741825) (by simp)
  have p3 := push_ok [] (0, 1073741824) (by simp)
  rw [show pushD [] (1073741825, 1) = ([], 1) from by decide] at p1
  rw [show pushD [] (0, 1073741825) = ([], 1) from by decide] at p2
  rw [pushD_nil _ (by decide)] at p3
  simp only [eD, eDE, List.map_cons, List.map_nil] at p1 p2 p3
  rw [callL_code g_law05_DueFull (by simp)]; simp -implicitDefEqProofs only [c_law05_DueFull, r_law05_DueFull, go_sem, ↓reduceIte, reduceCtorEq, Nat.reduceEqDiff, Nat.reduceAdd, Nat.reduceBEq, Nat.reduceMul, Nat.reduceLeDiff, Nat.reduceSub, Nat.reduceLT, Nat.reduceDiv, Nat.reduceMod, List.reduceReplicate, Int.reduceEq, Int.reduceLT, Int.reduceLE, Int.reduceAdd, Int.reduceSub, Int.reduceMul, Int.reduceNeg, Int.reduceToNat]
  simp -implicitDefEqProofs only [e1, p1, p2, p3, o1.len, awake_ok, List.length_map, Int.cast_ofNat_Int, Int.natCast_one, go_sem, ↓reduceIte, reduceCtorEq, Nat.reduceEqDiff, Nat.reduceAdd, Nat.reduceBEq, Nat.reduceMul, Nat.reduceLeDiff, Nat.reduceSub, Nat.reduceLT, Nat.reduceDiv, Nat.reduceMod, List.reduceReplicate, Int.reduceEq, Int.reduceLT, Int.reduceLE, Int.reduceAdd, Int.reduceSub, Int.reduceMul, Int.reduceNeg, Int.reduceToNat]
end Go.Proofs.Ytlphhhmicdjljaa
