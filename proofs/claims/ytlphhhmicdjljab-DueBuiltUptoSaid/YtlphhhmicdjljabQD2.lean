/-
  Heaps of deadlines: what the functions of package due compute, part 2.
-/
import Derived.Test.YtlphhhmicdjljabQD1
namespace Go.Proofs.Ytlphhhmicdjljab
open Go Go.Sim
set_option linter.unusedSimpArgs false
set_option linter.unusedVariables false
set_option maxRecDepth 4000

theorem clone_ok (es : List D) (hs : allSize 2 es = true) (hL : es.length ≤ LIM) : callL G N_slices_Clone_api_Due [.d (.sl es)] [] = some (.acc 0 es, [(0, .acc es.length)]) := by
  cases es with
  | nil =>
    refine callL_nils0 g_slices_Clone_api_Due (by decide) ?_ ?_
    · simp -implicitDefEqProofs only [c_slices_Clone_api_Due, r_slices_Clone_api_Due, go_sem, ↓reduceIte, reduceCtorEq, Nat.reduceEqDiff, Nat.reduceAdd, Nat.reduceBEq, Nat.reduceMul, Nat.reduceLeDiff, Nat.reduceSub, Nat.reduceLT, Nat.reduceDiv, Nat.reduceMod, List.reduceReplicate, Int.reduceEq, Int.reduceLT, Int.reduceLE, Int.reduceAdd, Int.reduceSub, Int.reduceMul, Int.reduceNeg, Int.reduceToNat]
    · simp -implicitDefEqProofs only [c_slices_Clone_api_Due, r_slices_Clone_api_Due, Nat.zero_le, go_sem, ↓reduceIte, reduceCtorEq, Nat.reduceEqDiff, Nat.reduceAdd, Nat.reduceBEq, Nat.reduceMul, Nat.reduceLeDiff, Nat.reduceSub, Nat.reduceLT, Nat.reduceDiv, Nat.reduceMod, List.reduceReplicate, Int.reduceEq, Int.reduceLT, Int.reduceLE, Int.reduceAdd, Int.reduceSub, Int.reduceMul, Int.reduceNeg, Int.reduceToNat]
  | cons e es =>
    rw [callL_nils g_slices_Clone_api_Due (by simp) (by decide)]
    simp only [allSize_cons] at hs
    simp only [List.length_cons] at hL
    simp -implicitDefEqProofs only [c_slices_Clone_api_Due, r_slices_Clone_api_Due, hs, hL, go_sem, ↓reduceIte, reduceCtorEq, Nat.reduceEqDiff, Nat.reduceAdd, Nat.reduceBEq, Nat.reduceMul, Nat.reduceLeDiff, Nat.reduceSub, Nat.reduceLT, Nat.reduceDiv, Nat.reduceMod, List.reduceReplicate, Int.reduceEq, Int.reduceLT, Int.reduceLE, Int.reduceAdd, Int.reduceSub, Int.reduceMul, Int.reduceNeg, Int.reduceToNat]

def invalidB : D → Bool
  | .agg [.int _ t, .int _ i] => !validD (t, i)
  | _ => false
def dupAt (h : List Due) (i : Nat) : Bool := decide (findD h (h.getD i (0, 0)).2 ≠ i)
def ordAt (h : List Due) (i : Nat) : Bool := lt (h.getD i (0, 0)) (h.getD ((i - 1) / 2) (0, 0))
def validateD (h : List Due) : Int := if 12 < h.length then 2 else if h.any (fun d => !validD d) then 1 else if (List.range' 0 h.length).any (dupAt h) then 10 else if (List.range' 1 (h.length - 1)).any (ordAt h) then 11 else 0

theorem wrapS {k : Nat} {j : Int} (h0 : 0 ≤ (k : Int) - j) (h1 : (k : Int) - j ≤ 4294967296) : IntKind.i64.wrap ((k : Int) - j) = (k : Int) - j := by
  rw [Go.IntWalk.i64_in _ (by omega)]
theorem wrapN {x : Int} (h0 : -4294967296 ≤ x) (h1 : x ≤ 4294967296) : IntKind.i64.wrap x = x := by
  rw [Go.IntWalk.i64_in _ (by omega)]

def val0R (h : List Due) (k : Nat) : AExit × St :=
  if (List.range' k (h.length - k)).any (dupAt h) then (.ret, ⟨[(2, .d (.int .i64 10))], []⟩)
  else (.exit 0, ⟨[(0, .d (.sl (h.map eD)))], []⟩)
theorem val0_loop (h : List Due) (hL : h.length ≤ 12) : ∀ k, k ≤ h.length → loopL G [] l_due_Validate_0 ⟨[(0, .d (.sl (h.map eD))), (11, .d (.sl (h.map eD))), (12, .d (.int .i64 h.length)), (13, .d (.int .i64 k))], []⟩ = some (val0R h k) := by
  refine loop_ind (fun k => h.length - k) (fun k => k ≤ h.length) _ _ fun k hk L ih => ?_
  simp -implicitDefEqProofs only [l_due_Validate_0, go_sem, ↓reduceIte, reduceCtorEq, Nat.reduceEqDiff, Nat.reduceAdd, Nat.reduceBEq, Nat.reduceMul, Nat.reduceLeDiff, Nat.reduceSub, Nat.reduceLT, Nat.reduceDiv, Nat.reduceMod, List.reduceReplicate, Int.reduceEq, Int.reduceLT, Int.reduceLE, Int.reduceAdd, Int.reduceSub, Int.reduceMul, Int.reduceNeg, Int.reduceToNat]
  by_cases hlt : k < h.length
  · have hf := find_ok h h[k].2 (by simp [LIM]; omega)
    simp -implicitDefEqProofs only [show ((k : Int) < (h.length : Int)) by omega, show (0 : Int) ≤ (k : Int) by omega, Int.toNat_natCast, List.getElem?_map, List.getElem?_eq_getElem hlt, eD_size, eD_asAgg, eD, hf, wrap1 hlt (show h.length ≤ LIM by simp [LIM]; omega), go_sem, ↓reduceIte, reduceCtorEq, Nat.reduceEqDiff, Nat.reduceAdd, Nat.reduceBEq, Nat.reduceMul, Nat.reduceLeDiff, Nat.reduceSub, Nat.reduceLT, Nat.reduceDiv, Nat.reduceMod, List.reduceReplicate, Int.reduceEq, Int.reduceLT, Int.reduceLE, Int.reduceAdd, Int.reduceSub, Int.reduceMul, Int.reduceNeg, Int.reduceToNat]
    rw [ih (k + 1) (by omega) (by omega)]
    unfold val0R
    rw [show h.length - k = (h.length - (k + 1)) + 1 by omega, List.range'_succ, List.any_cons]
    have hd : dupAt h k = !decide (findD h h[k].2 = k) := by simp [dupAt, hlt]
    rw [hd]
    cases decide (findD h h[k].2 = k)
    · simp -implicitDefEqProofs only [go_sem, ↓reduceIte, reduceCtorEq, Nat.reduceEqDiff, Nat.reduceAdd, Nat.reduceBEq, Nat.reduceMul, Nat.reduceLeDiff, Nat.reduceSub, Nat.reduceLT, Nat.reduceDiv, Nat.reduceMod, List.reduceReplicate, Int.reduceEq, Int.reduceLT, Int.reduceLE, Int.reduceAdd, Int.reduceSub, Int.reduceMul, Int.reduceNeg, Int.reduceToNat]
    · simp -implicitDefEqProofs only [go_sem, ↓reduceIte, reduceCtorEq, Nat.reduceEqDiff, Nat.reduceAdd, Nat.reduceBEq, Nat.reduceMul, Nat.reduceLeDiff, Nat.reduceSub, Nat.reduceLT, Nat.reduceDiv, Nat.reduceMod, List.reduceReplicate, Int.reduceEq, Int.reduceLT, Int.reduceLE, Int.reduceAdd, Int.reduceSub, Int.reduceMul, Int.reduceNeg, Int.reduceToNat]
  · have : k = h.length := by omega
    subst this
    simp [val0R]

def val1R (h : List Due) (k : Nat) : AExit × St :=
  if (List.range' k (h.length - k)).any (ordAt h) then (.ret, ⟨[(2, .d (.int .i64 11))], []⟩)
  else (.exit 2, ⟨[], []⟩)
theorem val1_loop (h : List Due) (hL : h.length ≤ 12) : ∀ k : Nat, 1 ≤ k → loopL G [] l_due_Validate_1 ⟨[(0, .d (.sl (h.map eD))), (5, .d (.int .i64 k))], []⟩ = some (val1R h k) := by
  refine loop_ind (fun k => h.length - k) (fun k => 1 ≤ k) _ _ fun k hk L ih => ?_
  simp -implicitDefEqProofs only [l_due_Validate_1, List.length_map, go_sem, ↓reduceIte, reduceCtorEq, Nat.reduceEqDiff, Nat.reduceAdd, Nat.reduceBEq, Nat.reduceMul, Nat.reduceLeDiff, Nat.reduceSub, Nat.reduceLT, Nat.reduceDiv, Nat.reduceMod, List.reduceReplicate, Int.reduceEq, Int.reduceLT, Int.reduceLE, Int.reduceAdd, Int.reduceSub, Int.reduceMul, Int.reduceNeg, Int.reduceToNat]
  by_cases hlt : k < h.length
  · have hb := before_ok h k ((k - 1) / 2) hlt (by omega)
    have hq : IntKind.i64.wrap (((k : Int) - 1).tdiv 2) = (((k - 1) / 2 : Nat) : Int) := by
      rw [wrapN (by rw [Int.tdiv_eq_ediv_of_nonneg (by omega)]; omega) (by rw [Int.tdiv_eq_ediv_of_nonneg (by omega)]; omega), Int.tdiv_eq_ediv_of_nonneg (by omega)]; omega
    simp -implicitDefEqProofs only [show ((k : Int) < (h.length : Int)) by omega, wrapN (show -4294967296 ≤ (k : Int) - 1 by omega) (by omega), hq, hb, wrap1 hlt (show h.length ≤ LIM by simp [LIM]; omega), show ¬ ((2 : Int) = 0) by decide, go_sem, ↓reduceIte, reduceCtorEq, Nat.reduceEqDiff, Nat.reduceAdd, Nat.reduceBEq, Nat.reduceMul, Nat.reduceLeDiff, Nat.reduceSub, Nat.reduceLT, Nat.reduceDiv, Nat.reduceMod, List.reduceReplicate, Int.reduceEq, Int.reduceLT, Int.reduceLE, Int.reduceAdd, Int.reduceSub, Int.reduceMul, Int.reduceNeg, Int.reduceToNat]
    rw [ih (k + 1) (by omega) (by omega)]
    unfold val1R
    rw [show h.length - k = (h.length - (k + 1)) + 1 by omega, List.range'_succ, List.any_cons]
    have hd : ordAt h k = lt h[k] h[(k - 1) / 2] := by simp [ordAt, hlt, show (k - 1) / 2 < h.length by omega]
    rw [hd]
    cases lt h[k] h[(k - 1) / 2]
    · simp -implicitDefEqProofs only [go_sem, ↓reduceIte, reduceCtorEq, Nat.reduceEqDiff, Nat.reduceAdd, Nat.reduceBEq, Nat.reduceMul, Nat.reduceLeDiff, Nat.reduceSub, Nat.reduceLT, Nat.reduceDiv, Nat.reduceMod, List.reduceReplicate, Int.reduceEq, Int.reduceLT, Int.reduceLE, Int.reduceAdd, Int.reduceSub, Int.reduceMul, Int.reduceNeg, Int.reduceToNat]
    · simp -implicitDefEqProofs only [go_sem, ↓reduceIte, reduceCtorEq, Nat.reduceEqDiff, Nat.reduceAdd, Nat.reduceBEq, Nat.reduceMul, Nat.reduceLeDiff, Nat.reduceSub, Nat.reduceLT, Nat.reduceDiv, Nat.reduceMod, List.reduceReplicate, Int.reduceEq, Int.reduceLT, Int.reduceLE, Int.reduceAdd, Int.reduceSub, Int.reduceMul, Int.reduceNeg, Int.reduceToNat]
  · simp -implicitDefEqProofs only [show ¬ ((k : Int) < (h.length : Int)) by omega, go_sem, ↓reduceIte, reduceCtorEq, Nat.reduceEqDiff, Nat.reduceAdd, Nat.reduceBEq, Nat.reduceMul, Nat.reduceLeDiff, Nat.reduceSub, Nat.reduceLT, Nat.reduceDiv, Nat.reduceMod, List.reduceReplicate, Int.reduceEq, Int.reduceLT, Int.reduceLE, Int.reduceAdd, Int.reduceSub, Int.reduceMul, Int.reduceNeg, Int.reduceToNat]
    simp [val1R, show h.length - k = 0 by omega]

theorem validate_ok (h : List Due) (hL : h.length ≤ LIM) : callL G N_due_Validate [.d (.sl (h.map eD))] [] = some (.d (.int .i64 (validateD h)), []) := by
  have h1 := contains_ok (h.map eD) N_due_Validate_1 [] invalidB (by simpa using hL) (fun e he => by obtain ⟨d, _, rfl⟩ := List.mem_map.1 he; rfl) (fun e he => by
    obtain ⟨d, _, rfl⟩ := List.mem_map.1 he
    exact Validate1_ok d)
  have h2 : (h.map eD).any invalidB = h.any (fun d => !validD d) := by rw [List.any_map]; rfl
  rw [h2] at h1
  rw [callL_code g_due_Validate (by simp)]; simp -implicitDefEqProofs only [c_due_Validate, r_due_Validate, go_sem, ↓reduceIte, reduceCtorEq, Nat.reduceEqDiff, Nat.reduceAdd, Nat.reduceBEq, Nat.reduceMul, Nat.reduceLeDiff, Nat.reduceSub, Nat.reduceLT, Nat.reduceDiv, Nat.reduceMod, List.reduceReplicate, Int.reduceEq, Int.reduceLT, Int.reduceLE, Int.reduceAdd, Int.reduceSub, Int.reduceMul, Int.reduceNeg, Int.reduceToNat]
  simp -implicitDefEqProofs only [h1, List.length_map, go_sem, ↓reduceIte, reduceCtorEq, Nat.reduceEqDiff, Nat.reduceAdd, Nat.reduceBEq, Nat.reduceMul, Nat.reduceLeDiff, Nat.reduceSub, Nat.reduceLT, Nat.reduceDiv, Nat.reduceMod, List.reduceReplicate, Int.reduceEq, Int.reduceLT, Int.reduceLE, Int.reduceAdd, Int.reduceSub, Int.reduceMul, Int.reduceNeg, Int.reduceToNat]
  unfold validateD
  by_cases h12 : 12 < h.length
  · simp -implicitDefEqProofs only [h12, show (12 < (h.length : Int)) by omega, go_sem, ↓reduceIte, reduceCtorEq, Nat.reduceEqDiff, Nat.reduceAdd, Nat.reduceBEq, Nat.reduceMul, Nat.reduceLeDiff, Nat.reduceSub, Nat.reduceLT, Nat.reduceDiv, Nat.reduceMod, List.reduceReplicate, Int.reduceEq, Int.reduceLT, Int.reduceLE, Int.reduceAdd, Int.reduceSub, Int.reduceMul, Int.reduceNeg, Int.reduceToNat]
  · have e0 := val0_loop h (by omega) 0 (by omega)
    have e1 := val1_loop h (by omega) 1 (by omega)
    simp only [Int.natCast_zero] at e0
    simp only [Int.natCast_one] at e1
    cases hA : h.any (fun d => !validD d)
    · simp -implicitDefEqProofs only [hA, h12, show ¬ (12 < (h.length : Int)) by omega, e0, val0R, Nat.sub_zero, go_sem, ↓reduceIte, reduceCtorEq, Nat.reduceEqDiff, Nat.reduceAdd, Nat.reduceBEq, Nat.reduceMul, Nat.reduceLeDiff, Nat.reduceSub, Nat.reduceLT, Nat.reduceDiv, Nat.reduceMod, List.reduceReplicate, Int.reduceEq, Int.reduceLT, Int.reduceLE, Int.reduceAdd, Int.reduceSub, Int.reduceMul, Int.reduceNeg, Int.reduceToNat]
      cases hB : (List.range' 0 h.length).any (dupAt h)
      · simp -implicitDefEqProofs only [hB, e1, val1R, go_sem, ↓reduceIte, reduceCtorEq, Nat.reduceEqDiff, Nat.reduceAdd, Nat.reduceBEq, Nat.reduceMul, Nat.reduceLeDiff, Nat.reduceSub, Nat.reduceLT, Nat.reduceDiv, Nat.reduceMod, List.reduceReplicate, Int.reduceEq, Int.reduceLT, Int.reduceLE, Int.reduceAdd, Int.reduceSub, Int.reduceMul, Int.reduceNeg, Int.reduceToNat]
        cases hC : (List.range' 1 (h.length - 1)).any (ordAt h) <;> simp -implicitDefEqProofs only [hC, go_sem, ↓reduceIte, reduceCtorEq, Nat.reduceEqDiff, Nat.reduceAdd, Nat.reduceBEq, Nat.reduceMul, Nat.reduceLeDiff, Nat.reduceSub, Nat.reduceLT, Nat.reduceDiv, Nat.reduceMod, List.reduceReplicate, Int.reduceEq, Int.reduceLT, Int.reduceLE, Int.reduceAdd, Int.reduceSub, Int.reduceMul, Int.reduceNeg, Int.reduceToNat]
      · simp -implicitDefEqProofs only [hB, go_sem, ↓reduceIte, reduceCtorEq, Nat.reduceEqDiff, Nat.reduceAdd, Nat.reduceBEq, Nat.reduceMul, Nat.reduceLeDiff, Nat.reduceSub, Nat.reduceLT, Nat.reduceDiv, Nat.reduceMod, List.reduceReplicate, Int.reduceEq, Int.reduceLT, Int.reduceLE, Int.reduceAdd, Int.reduceSub, Int.reduceMul, Int.reduceNeg, Int.reduceToNat]
    · simp -implicitDefEqProofs only [hA, h12, show ¬ (12 < (h.length : Int)) by omega, go_sem, ↓reduceIte, reduceCtorEq, Nat.reduceEqDiff, Nat.reduceAdd, Nat.reduceBEq, Nat.reduceMul, Nat.reduceLeDiff, Nat.reduceSub, Nat.reduceLT, Nat.reduceDiv, Nat.reduceMod, List.reduceReplicate, Int.reduceEq, Int.reduceLT, Int.reduceLE, Int.reduceAdd, Int.reduceSub, Int.reduceMul, Int.reduceNeg, Int.reduceToNat]
end Go.Proofs.Ytlphhhmicdjljab
