/-
  Heaps of deadlines: what the functions of package due compute, part 1.
-/
import Derived.Test.YtlphhhmicdjljabQPG
import Derived.IntWalk
namespace Go.Proofs.Ytlphhhmicdjljab
open Go Go.Sim
set_option linter.unusedSimpArgs false
set_option linter.unusedVariables false
set_option maxRecDepth 4000

theorem wrap1 {k n : Nat} (h : k < n) (hn : n ≤ LIM) : IntKind.i64.wrap ((k : Int) + 1) = ((k + 1 : Nat) : Int) := by
  unfold LIM at hn; rw [Go.IntWalk.i64_in _ (by omega)]; simp

theorem isNaN_ok (n : Int) : callL G N_cmp_isNaN_int [.d (.int .i64 n)] [] = some (.d (.bool false), []) := by
  rw [callL_code g_cmp_isNaN_int (by simp)]; simp -implicitDefEqProofs only [c_cmp_isNaN_int, r_cmp_isNaN_int, go_sem, ↓reduceIte, reduceCtorEq, Nat.reduceEqDiff, Nat.reduceAdd, Nat.reduceBEq, Nat.reduceMul, Nat.reduceLeDiff, Nat.reduceSub, Nat.reduceLT, Nat.reduceDiv, Nat.reduceMod, List.reduceReplicate, Int.reduceEq, Int.reduceLT, Int.reduceLE, Int.reduceAdd, Int.reduceSub, Int.reduceMul, Int.reduceNeg, Int.reduceToNat]

def cmpI (a b : Int) : Int := if a < b then -1 else if b < a then 1 else 0
theorem compare_ok (a b : Int) : callL G N_cmp_Compare_int [.d (.int .i64 a), .d (.int .i64 b)] [] = some (.d (.int .i64 (cmpI a b)), []) := by
  rw [callL_code g_cmp_Compare_int (by simp)]; simp -implicitDefEqProofs only [c_cmp_Compare_int, r_cmp_Compare_int, go_sem, ↓reduceIte, reduceCtorEq, Nat.reduceEqDiff, Nat.reduceAdd, Nat.reduceBEq, Nat.reduceMul, Nat.reduceLeDiff, Nat.reduceSub, Nat.reduceLT, Nat.reduceDiv, Nat.reduceMod, List.reduceReplicate, Int.reduceEq, Int.reduceLT, Int.reduceLE, Int.reduceAdd, Int.reduceSub, Int.reduceMul, Int.reduceNeg, Int.reduceToNat]
  simp -implicitDefEqProofs only [isNaN_ok, cmpI, go_sem, ↓reduceIte, reduceCtorEq, Nat.reduceEqDiff, Nat.reduceAdd, Nat.reduceBEq, Nat.reduceMul, Nat.reduceLeDiff, Nat.reduceSub, Nat.reduceLT, Nat.reduceDiv, Nat.reduceMod, List.reduceReplicate, Int.reduceEq, Int.reduceLT, Int.reduceLE, Int.reduceAdd, Int.reduceSub, Int.reduceMul, Int.reduceNeg, Int.reduceToNat]
  repeat' split
  all_goals simp_all

def firstNZ : List Int → Int
  | [] => 0
  | x :: l => if x = 0 then firstNZ l else x
def orR (l : List Int) (k : Nat) : AExit × St :=
  if firstNZ (l.drop k) = 0 then (.exit 0, ⟨[(3, .d (.int .i64 0))], []⟩)
  else (.ret, ⟨[(2, .d (.int .i64 (firstNZ (l.drop k))))], []⟩)
theorem or_loop (l : List Int) (hL : l.length ≤ LIM) : ∀ k, k ≤ l.length → loopL G [] l_cmp_Or_int_0 ⟨[(3, .d (.int .i64 0)), (6, .d (.sl (l.map (.int .i64)))), (7, .d (.int .i64 l.length)), (8, .d (.int .i64 k))], []⟩ = some (orR l k) := by
  refine loop_ind (fun k => l.length - k) (fun k => k ≤ l.length) _ _ fun k hk L ih => ?_
  simp -implicitDefEqProofs only [l_cmp_Or_int_0, go_sem, ↓reduceIte, reduceCtorEq, Nat.reduceEqDiff, Nat.reduceAdd, Nat.reduceBEq, Nat.reduceMul, Nat.reduceLeDiff, Nat.reduceSub, Nat.reduceLT, Nat.reduceDiv, Nat.reduceMod, List.reduceReplicate, Int.reduceEq, Int.reduceLT, Int.reduceLE, Int.reduceAdd, Int.reduceSub, Int.reduceMul, Int.reduceNeg, Int.reduceToNat]
  by_cases hlt : k < l.length
  · simp -implicitDefEqProofs only [show ((k : Int) < (l.length : Int)) by omega, show (0 : Int) ≤ (k : Int) by omega, Int.toNat_natCast, List.getElem?_map, List.getElem?_eq_getElem hlt, wrap1 hlt hL, go_sem, ↓reduceIte, reduceCtorEq, Nat.reduceEqDiff, Nat.reduceAdd, Nat.reduceBEq, Nat.reduceMul, Nat.reduceLeDiff, Nat.reduceSub, Nat.reduceLT, Nat.reduceDiv, Nat.reduceMod, List.reduceReplicate, Int.reduceEq, Int.reduceLT, Int.reduceLE, Int.reduceAdd, Int.reduceSub, Int.reduceMul, Int.reduceNeg, Int.reduceToNat]
    rw [ih (k + 1) (by omega) (by omega)]
    unfold orR
    rw [List.drop_eq_getElem_cons hlt, firstNZ]
    by_cases h : l[k] = 0 <;> simp [h]
  · have : k = l.length := by omega
    subst this
    simp [orR, firstNZ]
theorem or_ok (l : List Int) (hL : l.length ≤ LIM) : callL G N_cmp_Or_int [.d (.sl (l.map (.int .i64)))] [] = some (.d (.int .i64 (firstNZ l)), []) := by
  rw [callL_code g_cmp_Or_int (by simp)]; simp -implicitDefEqProofs only [c_cmp_Or_int, r_cmp_Or_int, go_sem, ↓reduceIte, reduceCtorEq, Nat.reduceEqDiff, Nat.reduceAdd, Nat.reduceBEq, Nat.reduceMul, Nat.reduceLeDiff, Nat.reduceSub, Nat.reduceLT, Nat.reduceDiv, Nat.reduceMod, List.reduceReplicate, Int.reduceEq, Int.reduceLT, Int.reduceLE, Int.reduceAdd, Int.reduceSub, Int.reduceMul, Int.reduceNeg, Int.reduceToNat]
  rw [List.length_map]
  have := or_loop l hL 0 (by omega)
  simp only [Int.natCast_zero] at this
  rw [this]
  unfold orR
  simp only [List.drop_zero]
  by_cases h : firstNZ l = 0 <;> simp -implicitDefEqProofs only [h, go_sem, ↓reduceIte, reduceCtorEq, Nat.reduceEqDiff, Nat.reduceAdd, Nat.reduceBEq, Nat.reduceMul, Nat.reduceLeDiff, Nat.reduceSub, Nat.reduceLT, Nat.reduceDiv, Nat.reduceMod, List.reduceReplicate, Int.reduceEq, Int.reduceLT, Int.reduceLE, Int.reduceAdd, Int.reduceSub, Int.reduceMul, Int.reduceNeg, Int.reduceToNat]

abbrev Due := Int × Int
def eD (d : Due) : D := .agg [.int .i64 d.1, .int .i64 d.2]
theorem eD_size (d : Due) : (eD d).size = 2 := rfl
theorem eD_asAgg (d : Due) : (eD d).asAgg = eD d := rfl
def cmpD (a b : Due) : Int := if cmpI a.1 b.1 = 0 then cmpI a.2 b.2 else cmpI a.1 b.1
def lt (a b : Due) : Bool := decide (cmpD a b < 0)
theorem due_compare_ok (a b : Due) : callL G N_due_compare [.d (eD a), .d (eD b)] [] = some (.d (.int .i64 (cmpD a b)), []) := by
  have h := or_ok [cmpI a.1 b.1, cmpI a.2 b.2] (by simp [LIM])
  simp only [List.map_cons, List.map_nil] at h
  rw [callL_code g_due_compare (by simp)]; simp -implicitDefEqProofs only [c_due_compare, r_due_compare, go_sem, ↓reduceIte, reduceCtorEq, Nat.reduceEqDiff, Nat.reduceAdd, Nat.reduceBEq, Nat.reduceMul, Nat.reduceLeDiff, Nat.reduceSub, Nat.reduceLT, Nat.reduceDiv, Nat.reduceMod, List.reduceReplicate, Int.reduceEq, Int.reduceLT, Int.reduceLE, Int.reduceAdd, Int.reduceSub, Int.reduceMul, Int.reduceNeg, Int.reduceToNat]
  simp -implicitDefEqProofs only [eD, compare_ok, h, go_sem, ↓reduceIte, reduceCtorEq, Nat.reduceEqDiff, Nat.reduceAdd, Nat.reduceBEq, Nat.reduceMul, Nat.reduceLeDiff, Nat.reduceSub, Nat.reduceLT, Nat.reduceDiv, Nat.reduceMod, List.reduceReplicate, Int.reduceEq, Int.reduceLT, Int.reduceLE, Int.reduceAdd, Int.reduceSub, Int.reduceMul, Int.reduceNeg, Int.reduceToNat]
  simp only [firstNZ, cmpD]
  by_cases h1 : cmpI a.1 b.1 = 0 <;> by_cases h2 : cmpI a.2 b.2 = 0 <;> simp [h1, h2]

theorem before_ok (h : List Due) (i j : Nat) (hi : i < h.length) (hj : j < h.length) : callL G N_due_before [.d (.sl (h.map eD)), .d (.int .i64 i), .d (.int .i64 j)] [] = some (.d (.bool (lt h[i] h[j])), []) := by
  rw [callL_code g_due_before (by simp)]; simp -implicitDefEqProofs only [c_due_before, r_due_before, go_sem, ↓reduceIte, reduceCtorEq, Nat.reduceEqDiff, Nat.reduceAdd, Nat.reduceBEq, Nat.reduceMul, Nat.reduceLeDiff, Nat.reduceSub, Nat.reduceLT, Nat.reduceDiv, Nat.reduceMod, List.reduceReplicate, Int.reduceEq, Int.reduceLT, Int.reduceLE, Int.reduceAdd, Int.reduceSub, Int.reduceMul, Int.reduceNeg, Int.reduceToNat]
  simp -implicitDefEqProofs only [show (0 : Int) ≤ (i : Int) by omega, show (0 : Int) ≤ (j : Int) by omega, Int.toNat_natCast, List.getElem?_map, List.getElem?_eq_getElem hi, List.getElem?_eq_getElem hj, eD_size, eD_asAgg, due_compare_ok, go_sem, ↓reduceIte, reduceCtorEq, Nat.reduceEqDiff, Nat.reduceAdd, Nat.reduceBEq, Nat.reduceMul, Nat.reduceLeDiff, Nat.reduceSub, Nat.reduceLT, Nat.reduceDiv, Nat.reduceMod, List.reduceReplicate, Int.reduceEq, Int.reduceLT, Int.reduceLE, Int.reduceAdd, Int.reduceSub, Int.reduceMul, Int.reduceNeg, Int.reduceToNat]
  rfl

def validD (d : Due) : Bool := decide (0 ≤ d.1) && (decide (d.1 ≤ 1073741824) && (decide (1 ≤ d.2) && decide (d.2 ≤ 1073741824)))
theorem valid_ok (d : Due) : callL G N_due_valid [.d (eD d)] [] = some (.d (.bool (validD d)), []) := by
  simp only [eD]
  rw [callL_code g_due_valid (by simp)]; simp -implicitDefEqProofs only [c_due_valid, r_due_valid, go_sem, ↓reduceIte, reduceCtorEq, Nat.reduceEqDiff, Nat.reduceAdd, Nat.reduceBEq, Nat.reduceMul, Nat.reduceLeDiff, Nat.reduceSub, Nat.reduceLT, Nat.reduceDiv, Nat.reduceMod, List.reduceReplicate, Int.reduceEq, Int.reduceLT, Int.reduceLE, Int.reduceAdd, Int.reduceSub, Int.reduceMul, Int.reduceNeg, Int.reduceToNat]
  rfl

theorem find1_ok (d : Due) (j : Int) : callL G N_due_find_1 [.d (eD d), .d (.pd (.int .i64 j))] [] = some (.d (.bool (decide (d.2 = j))), []) := by
  simp only [eD]
  rw [callL_code g_due_find_1 (by simp)]; simp -implicitDefEqProofs only [c_due_find_1, r_due_find_1, go_sem, ↓reduceIte, reduceCtorEq, Nat.reduceEqDiff, Nat.reduceAdd, Nat.reduceBEq, Nat.reduceMul, Nat.reduceLeDiff, Nat.reduceSub, Nat.reduceLT, Nat.reduceDiv, Nat.reduceMod, List.reduceReplicate, Int.reduceEq, Int.reduceLT, Int.reduceLE, Int.reduceAdd, Int.reduceSub, Int.reduceMul, Int.reduceNeg, Int.reduceToNat]

def idxI {α : Type} (p : α → Bool) (es : List α) : Int := match es.findIdx? p with | some i => i | none => -1
theorem idxI_map {α β : Type} (p : β → Bool) (f : α → β) (es : List α) : idxI p (es.map f) = idxI (fun x => p (f x)) es := by
  unfold idxI; rw [List.findIdx?_map]; rfl
def idxR (es : List D) (g : Nat) (cs : List D) (p : D → Bool) (k : Nat) : AExit × St := match (es.drop k).findIdx? p with | some i => (.ret, ⟨[(4, .d (.int .i64 ((k + i : Nat) : Int)))], []⟩) | none => (.exit 0, ⟨[], []⟩)
theorem idx_loop (es : List D) (g : Nat) (cs : List D) (p : D → Bool) (hL : es.length ≤ LIM) (hs : ∀ e ∈ es, e.size = 2) (hp : ∀ e ∈ es, callL G g (.d e.asAgg :: cs.map .d) [] = some (.d (.bool (p e)), [])) : ∀ k, k ≤ es.length →
    loopL G [] l_slices_IndexFunc_api_Due_0 ⟨[(0, .d (.sl es)), (1, .d (.fn g cs)), (7, .d (.int .i64 es.length)), (8, .d (.int .i64 k))], []⟩ = some (idxR es g cs p k) := by
  refine loop_ind (fun k => es.length - k) (fun k => k ≤ es.length) _ _ fun k hk L ih => ?_
  simp -implicitDefEqProofs only [l_slices_IndexFunc_api_Due_0, go_sem, ↓reduceIte, reduceCtorEq, Nat.reduceEqDiff, Nat.reduceAdd, Nat.reduceBEq, Nat.reduceMul, Nat.reduceLeDiff, Nat.reduceSub, Nat.reduceLT, Nat.reduceDiv, Nat.reduceMod, List.reduceReplicate, Int.reduceEq, Int.reduceLT, Int.reduceLE, Int.reduceAdd, Int.reduceSub, Int.reduceMul, Int.reduceNeg, Int.reduceToNat]
  by_cases hlt : k < es.length
  · have h1 := hp es[k] (by simp)
    have h2 := hs es[k] (by simp)
    simp -implicitDefEqProofs only [show ((k : Int) < (es.length : Int)) by omega, show (0 : Int) ≤ (k : Int) by omega, Int.toNat_natCast, List.getElem?_eq_getElem hlt, h1, h2, wrap1 hlt hL, go_sem, ↓reduceIte, reduceCtorEq, Nat.reduceEqDiff, Nat.reduceAdd, Nat.reduceBEq, Nat.reduceMul, Nat.reduceLeDiff, Nat.reduceSub, Nat.reduceLT, Nat.reduceDiv, Nat.reduceMod, List.reduceReplicate, Int.reduceEq, Int.reduceLT, Int.reduceLE, Int.reduceAdd, Int.reduceSub, Int.reduceMul, Int.reduceNeg, Int.reduceToNat]
    rw [ih (k + 1) (by omega) (by omega)]
    unfold idxR
    rw [List.drop_eq_getElem_cons hlt, List.findIdx?_cons]
    cases p es[k] with
    | true => simp
    | false =>
      cases (es.drop (k + 1)).findIdx? p with
      | none => simp
      | some i => simp; omega
  · have : k = es.length := by omega
    subst this
    simp [idxR]
theorem idx_ok (es : List D) (g : Nat) (cs : List D) (p : D → Bool) (hL : es.length ≤ LIM) (hs : ∀ e ∈ es, e.size = 2) (hp : ∀ e ∈ es, callL G g (.d e.asAgg :: cs.map .d) [] = some (.d (.bool (p e)), [])) : callL G N_slices_IndexFunc_api_Due [.d (.sl es), .d (.fn g cs)] [] = some (.d (.int .i64 (idxI p es)), []) := by
  rw [callL_code g_slices_IndexFunc_api_Due (by simp)]; simp -implicitDefEqProofs only [c_slices_IndexFunc_api_Due, r_slices_IndexFunc_api_Due, go_sem, ↓reduceIte, reduceCtorEq, Nat.reduceEqDiff, Nat.reduceAdd, Nat.reduceBEq, Nat.reduceMul, Nat.reduceLeDiff, Nat.reduceSub, Nat.reduceLT, Nat.reduceDiv, Nat.reduceMod, List.reduceReplicate, Int.reduceEq, Int.reduceLT, Int.reduceLE, Int.reduceAdd, Int.reduceSub, Int.reduceMul, Int.reduceNeg, Int.reduceToNat]
  have := idx_loop es g cs p hL hs hp 0 (by omega)
  simp only [Int.natCast_zero] at this
  rw [this]
  unfold idxR idxI
  simp only [List.drop_zero, Nat.zero_add]
  cases es.findIdx? p <;> simp -implicitDefEqProofs only [go_sem, ↓reduceIte, reduceCtorEq, Nat.reduceEqDiff, Nat.reduceAdd, Nat.reduceBEq, Nat.reduceMul, Nat.reduceLeDiff, Nat.reduceSub, Nat.reduceLT, Nat.reduceDiv, Nat.reduceMod, List.reduceReplicate, Int.reduceEq, Int.reduceLT, Int.reduceLE, Int.reduceAdd, Int.reduceSub, Int.reduceMul, Int.reduceNeg, Int.reduceToNat]
theorem contains_ok (es : List D) (g : Nat) (cs : List D) (p : D → Bool) (hL : es.length ≤ LIM) (hs : ∀ e ∈ es, e.size = 2) (hp : ∀ e ∈ es, callL G g (.d e.asAgg :: cs.map .d) [] = some (.d (.bool (p e)), [])) : callL G N_slices_ContainsFunc_api_Due [.d (.sl es), .d (.fn g cs)] [] = some (.d (.bool (es.any p)), []) := by
  rw [callL_code g_slices_ContainsFunc_api_Due (by simp)]; simp -implicitDefEqProofs only [c_slices_ContainsFunc_api_Due, r_slices_ContainsFunc_api_Due, go_sem, ↓reduceIte, reduceCtorEq, Nat.reduceEqDiff, Nat.reduceAdd, Nat.reduceBEq, Nat.reduceMul, Nat.reduceLeDiff, Nat.reduceSub, Nat.reduceLT, Nat.reduceDiv, Nat.reduceMod, List.reduceReplicate, Int.reduceEq, Int.reduceLT, Int.reduceLE, Int.reduceAdd, Int.reduceSub, Int.reduceMul, Int.reduceNeg, Int.reduceToNat]
  simp -implicitDefEqProofs only [idx_ok es g cs p hL hs hp, go_sem, ↓reduceIte, reduceCtorEq, Nat.reduceEqDiff, Nat.reduceAdd, Nat.reduceBEq, Nat.reduceMul, Nat.reduceLeDiff, Nat.reduceSub, Nat.reduceLT, Nat.reduceDiv, Nat.reduceMod, List.reduceReplicate, Int.reduceEq, Int.reduceLT, Int.reduceLE, Int.reduceAdd, Int.reduceSub, Int.reduceMul, Int.reduceNeg, Int.reduceToNat]
  unfold idxI
  cases h : es.findIdx? p with
  | none => simp at h; simpa using h
  | some i =>
    have := List.findIdx?_eq_some_iff_getElem.1 h
    simp
    exact ⟨_, List.getElem_mem this.1, this.2.1⟩

def secondIs (j : Int) : D → Bool
  | .agg [_, .int _ n] => decide (n = j)
  | _ => false
def findD (h : List Due) (j : Int) : Int := idxI (fun d => decide (d.2 = j)) h
theorem find_ok (h : List Due) (j : Int) (hL : h.length ≤ LIM) : callL G N_due_find [.d (.sl (h.map eD)), .d (.int .i64 j)] [] = some (.d (.int .i64 (findD h j)), []) := by
  have hk := idx_ok (h.map eD) N_due_find_1 [.pd (.int .i64 j)] (secondIs j) (by simpa using hL) (fun e he => by obtain ⟨d, _, rfl⟩ := List.mem_map.1 he; rfl) (fun e he => by
    obtain ⟨d, _, rfl⟩ := List.mem_map.1 he
    exact find1_ok d j)
  rw [idxI_map] at hk
  rw [callL_code g_due_find (by simp)]; simp -implicitDefEqProofs only [c_due_find, r_due_find, go_sem, ↓reduceIte, reduceCtorEq, Nat.reduceEqDiff, Nat.reduceAdd, Nat.reduceBEq, Nat.reduceMul, Nat.reduceLeDiff, Nat.reduceSub, Nat.reduceLT, Nat.reduceDiv, Nat.reduceMod, List.reduceReplicate, Int.reduceEq, Int.reduceLT, Int.reduceLE, Int.reduceAdd, Int.reduceSub, Int.reduceMul, Int.reduceNeg, Int.reduceToNat]
  simp -implicitDefEqProofs only [hk, go_sem, ↓reduceIte, reduceCtorEq, Nat.reduceEqDiff, Nat.reduceAdd, Nat.reduceBEq, Nat.reduceMul, Nat.reduceLeDiff, Nat.reduceSub, Nat.reduceLT, Nat.reduceDiv, Nat.reduceMod, List.reduceReplicate, Int.reduceEq, Int.reduceLT, Int.reduceLE, Int.reduceAdd, Int.reduceSub, Int.reduceMul, Int.reduceNeg, Int.reduceToNat]
  rfl

theorem Validate1_ok (d : Due) : callL G N_due_Validate_1 [.d (eD d)] [] = some (.d (.bool (!validD d)), []) := by
  have h := valid_ok d
  simp only [eD] at h ⊢
  rw [callL_code g_due_Validate_1 (by simp)]; simp -implicitDefEqProofs only [c_due_Validate_1, r_due_Validate_1, go_sem, ↓reduceIte, reduceCtorEq, Nat.reduceEqDiff, Nat.reduceAdd, Nat.reduceBEq, Nat.reduceMul, Nat.reduceLeDiff, Nat.reduceSub, Nat.reduceLT, Nat.reduceDiv, Nat.reduceMod, List.reduceReplicate, Int.reduceEq, Int.reduceLT, Int.reduceLE, Int.reduceAdd, Int.reduceSub, Int.reduceMul, Int.reduceNeg, Int.reduceToNat]
  simp -implicitDefEqProofs only [h, go_sem, ↓reduceIte, reduceCtorEq, Nat.reduceEqDiff, Nat.reduceAdd, Nat.reduceBEq, Nat.reduceMul, Nat.reduceLeDiff, Nat.reduceSub, Nat.reduceLT, Nat.reduceDiv, Nat.reduceMod, List.reduceReplicate, Int.reduceEq, Int.reduceLT, Int.reduceLE, Int.reduceAdd, Int.reduceSub, Int.reduceMul, Int.reduceNeg, Int.reduceToNat]
end Go.Proofs.Ytlphhhmicdjljab
