/-
  Directories: what the functions of package directory compute.
-/
import Derived.Test.YtlphhhmicdjljaaRG1
namespace Go.Proofs.Ytlphhhmicdjljaa
open Go Go.Sim
set_option linter.unusedSimpArgs false
set_option linter.unusedVariables false
set_option maxHeartbeats 2000000
set_option maxRecDepth 40000

theorem idx_api_Span (l : List Span) (g : Nat) (cs : List D) (p : Span → Bool) (hL : l.length ≤ 4294967296) (hp : ∀ a ∈ l, callL G g (.d (eSpan a) :: cs.map .d) [] = some (.d (.bool (p a)), [])) : callL G N_slices_IndexFunc_api_Span [.d (.sl (l.map eSpan)), .d (.fn g cs)] [] = some (.d (.int .i64 (idxI p l)), []) := by
  have := loop_find (G := G) (x := l_slices_IndexFunc_api_Span_0) (ks := []) l.length (atB l p) (fun k => ⟨[(0, .d (.sl (l.map eSpan))), (1, .d (.fn g cs)), (7, .d (.int .i64 l.length)), (8, .d (.int .i64 k))], []⟩) (fun k => (.ret, ⟨[(4, .d (.int .i64 k))], []⟩)) (.exit 0, ⟨[], []⟩) (fun k hk L => by
    simp only [l_slices_IndexFunc_api_Span_0]
    by_cases h0 : k < l.length
    · have h1 := hp l[k] (List.getElem_mem h0)
      simp only [atB_at h0]
      cases h2 : p l[k]
      · rw [h2] at h1
        simp -implicitDefEqProofs (disch := omega) only [wr, Int.cast_ofNat_Int, Int.natCast_zero, List.length_append, lim_eq, wu64, wu32, wu8, Bool.true_beq, Bool.false_beq, beqT, beqF, Int.natCast_add, Int.natCast_one, ltT, ltF, leT, leF, eqT, eqF, nltT, nltF, nleT, nleF, neqT, neqF, mapGet, Int.toNat_natCast, Int.natCast_nonneg, List.length_map, go_sem, ↓reduceIte, reduceCtorEq, Nat.reduceEqDiff, Nat.reduceAdd, Nat.reduceBEq, Nat.reduceMul, Nat.reduceLeDiff, Nat.reduceSub, Nat.reduceLT, Nat.reduceDiv, Nat.reduceMod, List.reduceReplicate, Int.reduceEq, Int.reduceLT, Int.reduceLE, Int.reduceAdd, Int.reduceSub, Int.reduceMul, Int.reduceNeg, Int.reduceToNat, h1, eSpan_size, eSpan_asAgg]
      · rw [h2] at h1
        simp -implicitDefEqProofs (disch := omega) only [wr, Int.cast_ofNat_Int, Int.natCast_zero, List.length_append, lim_eq, wu64, wu32, wu8, Bool.true_beq, Bool.false_beq, beqT, beqF, Int.natCast_add, Int.natCast_one, ltT, ltF, leT, leF, eqT, eqF, nltT, nltF, nleT, nleF, neqT, neqF, mapGet, Int.toNat_natCast, Int.natCast_nonneg, List.length_map, go_sem, ↓reduceIte, reduceCtorEq, Nat.reduceEqDiff, Nat.reduceAdd, Nat.reduceBEq, Nat.reduceMul, Nat.reduceLeDiff, Nat.reduceSub, Nat.reduceLT, Nat.reduceDiv, Nat.reduceMod, List.reduceReplicate, Int.reduceEq, Int.reduceLT, Int.reduceLE, Int.reduceAdd, Int.reduceSub, Int.reduceMul, Int.reduceNeg, Int.reduceToNat, h1, eSpan_size, eSpan_asAgg]
    · simp -implicitDefEqProofs (disch := omega) only [wr, Int.cast_ofNat_Int, Int.natCast_zero, List.length_append, lim_eq, wu64, wu32, wu8, Bool.true_beq, Bool.false_beq, beqT, beqF, Int.natCast_add, Int.natCast_one, ltT, ltF, leT, leF, eqT, eqF, nltT, nltF, nleT, nleF, neqT, neqF, mapGet, Int.toNat_natCast, Int.natCast_nonneg, List.length_map, go_sem, ↓reduceIte, reduceCtorEq, Nat.reduceEqDiff, Nat.reduceAdd, Nat.reduceBEq, Nat.reduceMul, Nat.reduceLeDiff, Nat.reduceSub, Nat.reduceLT, Nat.reduceDiv, Nat.reduceMod, List.reduceReplicate, Int.reduceEq, Int.reduceLT, Int.reduceLE, Int.reduceAdd, Int.reduceSub, Int.reduceMul, Int.reduceNeg, Int.reduceToNat, Nat.zero_add])
  rw [findR_idx] at this
  simp only [Int.natCast_add, Int.natCast_one, Int.natCast_zero, Int.natCast_mul, Int.cast_ofNat_Int, List.length_append, List.length_map, List.map_nil, List.length_nil, List.map_append, List.map_cons, List.length_cons, Nat.zero_add, srcO] at this
  unfold idxI
  cases h : l.findIdx? p with
  | none => rw [h] at this; rw [callL_code g_slices_IndexFunc_api_Span (by simp)]; simp -implicitDefEqProofs (disch := omega) only [c_slices_IndexFunc_api_Span, r_slices_IndexFunc_api_Span, wr, Int.cast_ofNat_Int, Int.natCast_zero, List.length_append, lim_eq, wu64, wu32, wu8, Bool.true_beq, Bool.false_beq, beqT, beqF, Int.natCast_add, Int.natCast_one, ltT, ltF, leT, leF, eqT, eqF, nltT, nltF, nleT, nleF, neqT, neqF, mapGet, Int.toNat_natCast, Int.natCast_nonneg, List.length_map, go_sem, ↓reduceIte, reduceCtorEq, Nat.reduceEqDiff, Nat.reduceAdd, Nat.reduceBEq, Nat.reduceMul, Nat.reduceLeDiff, Nat.reduceSub, Nat.reduceLT, Nat.reduceDiv, Nat.reduceMod, List.reduceReplicate, Int.reduceEq, Int.reduceLT, Int.reduceLE, Int.reduceAdd, Int.reduceSub, Int.reduceMul, Int.reduceNeg, Int.reduceToNat, this]
  | some i => rw [h] at this; rw [callL_code g_slices_IndexFunc_api_Span (by simp)]; simp -implicitDefEqProofs (disch := omega) only [c_slices_IndexFunc_api_Span, r_slices_IndexFunc_api_Span, wr, Int.cast_ofNat_Int, Int.natCast_zero, List.length_append, lim_eq, wu64, wu32, wu8, Bool.true_beq, Bool.false_beq, beqT, beqF, Int.natCast_add, Int.natCast_one, ltT, ltF, leT, leF, eqT, eqF, nltT, nltF, nleT, nleF, neqT, neqF, mapGet, Int.toNat_natCast, Int.natCast_nonneg, List.length_map, go_sem, ↓reduceIte, reduceCtorEq, Nat.reduceEqDiff, Nat.reduceAdd, Nat.reduceBEq, Nat.reduceMul, Nat.reduceLeDiff, Nat.reduceSub, Nat.reduceLT, Nat.reduceDiv, Nat.reduceMod, List.reduceReplicate, Int.reduceEq, Int.reduceLT, Int.reduceLE, Int.reduceAdd, Int.reduceSub, Int.reduceMul, Int.reduceNeg, Int.reduceToNat, this]
theorem contains_api_Span (l : List Span) (g : Nat) (cs : List D) (p : Span → Bool) (hL : l.length ≤ 4294967296) (hp : ∀ a ∈ l, callL G g (.d (eSpan a) :: cs.map .d) [] = some (.d (.bool (p a)), [])) : callL G N_slices_ContainsFunc_api_Span [.d (.sl (l.map eSpan)), .d (.fn g cs)] [] = some (.d (.bool (l.any p)), []) := by
  rw [callL_code g_slices_ContainsFunc_api_Span (by simp)]; simp -implicitDefEqProofs (disch := omega) only [c_slices_ContainsFunc_api_Span, r_slices_ContainsFunc_api_Span, wr, Int.cast_ofNat_Int, Int.natCast_zero, List.length_append, lim_eq, wu64, wu32, wu8, Bool.true_beq, Bool.false_beq, beqT, beqF, Int.natCast_add, Int.natCast_one, ltT, ltF, leT, leF, eqT, eqF, nltT, nltF, nleT, nleF, neqT, neqF, mapGet, Int.toNat_natCast, Int.natCast_nonneg, List.length_map, go_sem, ↓reduceIte, reduceCtorEq, Nat.reduceEqDiff, Nat.reduceAdd, Nat.reduceBEq, Nat.reduceMul, Nat.reduceLeDiff, Nat.reduceSub, Nat.reduceLT, Nat.reduceDiv, Nat.reduceMod, List.reduceReplicate, Int.reduceEq, Int.reduceLT, Int.reduceLE, Int.reduceAdd, Int.reduceSub, Int.reduceMul, Int.reduceNeg, Int.reduceToNat, idx_api_Span l g cs p hL hp, idxI_any]

/-! ### The meaning -/
def findS (l : List Span) (slot : Int) : Int := idxI (fun x => decide (x.shard = slot)) l
def tileN : Int → List Span → Option Int
  | n, [] => some n
  | n, x :: l => if x.low = n ∧ x.low ≤ x.high ∧ x.high < 65536 then tileN (x.high + 1) l else none
def chase (F : List Int) : Nat → Int → Int
  | 0, a => a
  | m + 1, a => chase F m (if 0 ≤ a then F.getD a.toNat 0 else a)
def fwdAt (d : Directory) (i : Nat) : Bool := !((decide (0 ≤ findS d.l i) && !decide (d.forward.getD i 0 = -1)) || decide (d.forward.getD i 0 < -1) || decide ((d.forward.length : Int) ≤ d.forward.getD i 0))
def fwdOk (d : Directory) : Bool := ((List.range d.forward.length).all (fwdAt d)) && (List.range d.forward.length).all fun i => decide (chase d.forward d.forward.length i < 0)
def missB (n : Nat) (x : Span) : Bool := decide (x.shard < 0) || decide ((n : Int) ≤ x.shard)
def dupS (l : List Span) (i : Nat) : Bool := decide (findS l (l.getD i zSpan).shard = i)
def dirV (d : Directory) : Int :=
  if d.version < 1 ∨ 1099511627776 < d.version ∨ d.forward.length < 1 ∨ 6 < d.forward.length then 1
  else if tileN 0 d.l ≠ some 65536 then 7
  else if d.l.any (missB d.forward.length) = true then 4
  else if (List.range d.l.length).all (dupS d.l) = false then 10
  else if fwdOk d = false then 7 else 0

/-! ### The walk -/
theorem dfind1_ok (x : Span) (j : Int) : callL G N_directory_find_1 [.d (eSpan x), .d (.pd (.int .i64 j))] [] = some (.d (.bool (decide (x.shard = j))), []) := by
  simp only [eSpan]
  rw [callL_code g_directory_find_1 (by simp)]; simp -implicitDefEqProofs (disch := omega) only [c_directory_find_1, r_directory_find_1, wr, Int.cast_ofNat_Int, Int.natCast_zero, List.length_append, lim_eq, wu64, wu32, wu8, Bool.true_beq, Bool.false_beq, beqT, beqF, Int.natCast_add, Int.natCast_one, ltT, ltF, leT, leF, eqT, eqF, nltT, nltF, nleT, nleF, neqT, neqF, mapGet, Int.toNat_natCast, Int.natCast_nonneg, List.length_map, go_sem, ↓reduceIte, reduceCtorEq, Nat.reduceEqDiff, Nat.reduceAdd, Nat.reduceBEq, Nat.reduceMul, Nat.reduceLeDiff, Nat.reduceSub, Nat.reduceLT, Nat.reduceDiv, Nat.reduceMod, List.reduceReplicate, Int.reduceEq, Int.reduceLT, Int.reduceLE, Int.reduceAdd, Int.reduceSub, Int.reduceMul, Int.reduceNeg, Int.reduceToNat, Nat.zero_add]
theorem dfind_ok (l : List Span) (j : Int) (hL : l.length ≤ 4294967296) : callL G N_directory_find [.d (.sl (l.map eSpan)), .d (.int .i64 j)] [] = some (.d (.int .i64 (findS l j)), []) := by
  have := idx_api_Span l N_directory_find_1 [.pd (.int .i64 j)] (fun x => decide (x.shard = j)) hL (fun a _ => dfind1_ok a j)
  rw [callL_code g_directory_find (by simp)]; simp -implicitDefEqProofs (disch := omega) only [c_directory_find, r_directory_find, wr, Int.cast_ofNat_Int, Int.natCast_zero, List.length_append, lim_eq, wu64, wu32, wu8, Bool.true_beq, Bool.false_beq, beqT, beqF, Int.natCast_add, Int.natCast_one, ltT, ltF, leT, leF, eqT, eqF, nltT, nltF, nleT, nleF, neqT, neqF, mapGet, Int.toNat_natCast, Int.natCast_nonneg, List.length_map, go_sem, ↓reduceIte, reduceCtorEq, Nat.reduceEqDiff, Nat.reduceAdd, Nat.reduceBEq, Nat.reduceMul, Nat.reduceLeDiff, Nat.reduceSub, Nat.reduceLT, Nat.reduceDiv, Nat.reduceMod, List.reduceReplicate, Int.reduceEq, Int.reduceLT, Int.reduceLE, Int.reduceAdd, Int.reduceSub, Int.reduceMul, Int.reduceNeg, Int.reduceToNat, this]
  rfl
def tileR (l : List Span) (k : Nat) (n : Int) : AExit × St := match tileN n (l.drop k) with | some m => (.exit 0, ⟨[(3, .d (.int .i64 m))], []⟩) | none => (.ret, ⟨[(2, .d (.bool false))], []⟩)
theorem tile_loop (l : List Span) (hL : l.length ≤ 4294967296) : ∀ p : Nat × Int, p.1 ≤ l.length ∧ 0 ≤ p.2 ∧ p.2 ≤ 65536 → loopL G [] l_directory_tiles_0 ⟨[(3, .d (.int .i64 p.2)), (6, .d (.sl (l.map eSpan))), (7, .d (.int .i64 l.length)), (8, .d (.int .i64 p.1))], []⟩ = some (tileR l p.1 p.2) := by
  refine loop_ind (fun p : Nat × Int => l.length - p.1) _ (fun p : Nat × Int => ⟨[(3, .d (.int .i64 p.2)), (6, .d (.sl (l.map eSpan))), (7, .d (.int .i64 l.length)), (8, .d (.int .i64 p.1))], []⟩) _ fun ⟨k, n⟩ ⟨hk, h1, h2⟩ L ih => ?_
  simp only at ih hk h1 h2 ⊢
  simp only [l_directory_tiles_0]
  unfold tileR
  by_cases h0 : k < l.length
  · rw [List.drop_eq_getElem_cons h0, tileN]
    by_cases c1 : l[k].low = n
    · by_cases c2 : l[k].low ≤ l[k].high
      · by_cases c3 : l[k].high < 65536
        · have := ih (k + 1, l[k].high + 1) ⟨by simp only; omega, by simp only; omega, by simp only; omega⟩ (by simp only; omega)
          simp only [Int.natCast_add, Int.natCast_one, Int.natCast_zero, Int.natCast_mul, Int.cast_ofNat_Int, List.length_append, List.length_map, List.map_nil, List.length_nil, List.map_append, List.map_cons, List.length_cons, Nat.zero_add, srcO] at this
          rw [if_pos ⟨c1, c2, c3⟩]
          simp -implicitDefEqProofs (disch := omega) only [wr, Int.cast_ofNat_Int, Int.natCast_zero, List.length_append, lim_eq, wu64, wu32, wu8, Bool.true_beq, Bool.false_beq, beqT, beqF, Int.natCast_add, Int.natCast_one, ltT, ltF, leT, leF, eqT, eqF, nltT, nltF, nleT, nleF, neqT, neqF, mapGet, Int.toNat_natCast, Int.natCast_nonneg, List.length_map, go_sem, ↓reduceIte, reduceCtorEq, Nat.reduceEqDiff, Nat.reduceAdd, Nat.reduceBEq, Nat.reduceMul, Nat.reduceLeDiff, Nat.reduceSub, Nat.reduceLT, Nat.reduceDiv, Nat.reduceMod, List.reduceReplicate, Int.reduceEq, Int.reduceLT, Int.reduceLE, Int.reduceAdd, Int.reduceSub, Int.reduceMul, Int.reduceNeg, Int.reduceToNat, eSpan, this]
          rfl
        · rw [if_neg (fun h => c3 h.2.2)]
          simp -implicitDefEqProofs (disch := omega) only [wr, Int.cast_ofNat_Int, Int.natCast_zero, List.length_append, lim_eq, wu64, wu32, wu8, Bool.true_beq, Bool.false_beq, beqT, beqF, Int.natCast_add, Int.natCast_one, ltT, ltF, leT, leF, eqT, eqF, nltT, nltF, nleT, nleF, neqT, neqF, mapGet, Int.toNat_natCast, Int.natCast_nonneg, List.length_map, go_sem, ↓reduceIte, reduceCtorEq, Nat.reduceEqDiff, Nat.reduceAdd, Nat.reduceBEq, Nat.reduceMul, Nat.reduceLeDiff, Nat.reduceSub, Nat.reduceLT, Nat.reduceDiv, Nat.reduceMod, List.reduceReplicate, Int.reduceEq, Int.reduceLT, Int.reduceLE, Int.reduceAdd, Int.reduceSub, Int.reduceMul, Int.reduceNeg, Int.reduceToNat, eSpan]
      · rw [if_neg (fun h => c2 h.2.1)]
        simp -implicitDefEqProofs (disch := omega) only [wr, Int.cast_ofNat_Int, Int.natCast_zero, List.length_append, lim_eq, wu64, wu32, wu8, Bool.true_beq, Bool.false_beq, beqT, beqF, Int.natCast_add, Int.natCast_one, ltT, ltF, leT, leF, eqT, eqF, nltT, nltF, nleT, nleF, neqT, neqF, mapGet, Int.toNat_natCast, Int.natCast_nonneg, List.length_map, go_sem, ↓reduceIte, reduceCtorEq, Nat.reduceEqDiff, Nat.reduceAdd, Nat.reduceBEq, Nat.reduceMul, Nat.reduceLeDiff, Nat.reduceSub, Nat.reduceLT, Nat.reduceDiv, Nat.reduceMod, List.reduceReplicate, Int.reduceEq, Int.reduceLT, Int.reduceLE, Int.reduceAdd, Int.reduceSub, Int.reduceMul, Int.reduceNeg, Int.reduceToNat, eSpan]
    · rw [if_neg (fun h => c1 h.1)]
      simp -implicitDefEqProofs (disch := omega) only [wr, Int.cast_ofNat_Int, Int.natCast_zero, List.length_append, lim_eq, wu64, wu32, wu8, Bool.true_beq, Bool.false_beq, beqT, beqF, Int.natCast_add, Int.natCast_one, ltT, ltF, leT, leF, eqT, eqF, nltT, nltF, nleT, nleF, neqT, neqF, mapGet, Int.toNat_natCast, Int.natCast_nonneg, List.length_map, go_sem, ↓reduceIte, reduceCtorEq, Nat.reduceEqDiff, Nat.reduceAdd, Nat.reduceBEq, Nat.reduceMul, Nat.reduceLeDiff, Nat.reduceSub, Nat.reduceLT, Nat.reduceDiv, Nat.reduceMod, List.reduceReplicate, Int.reduceEq, Int.reduceLT, Int.reduceLE, Int.reduceAdd, Int.reduceSub, Int.reduceMul, Int.reduceNeg, Int.reduceToNat, eSpan, c1]
  · rw [List.drop_of_length_le (by omega), tileN]
    simp -implicitDefEqProofs (disch := omega) only [wr, Int.cast_ofNat_Int, Int.natCast_zero, List.length_append, lim_eq, wu64, wu32, wu8, Bool.true_beq, Bool.false_beq, beqT, beqF, Int.natCast_add, Int.natCast_one, ltT, ltF, leT, leF, eqT, eqF, nltT, nltF, nleT, nleF, neqT, neqF, mapGet, Int.toNat_natCast, Int.natCast_nonneg, List.length_map, go_sem, ↓reduceIte, reduceCtorEq, Nat.reduceEqDiff, Nat.reduceAdd, Nat.reduceBEq, Nat.reduceMul, Nat.reduceLeDiff, Nat.reduceSub, Nat.reduceLT, Nat.reduceDiv, Nat.reduceMod, List.reduceReplicate, Int.reduceEq, Int.reduceLT, Int.reduceLE, Int.reduceAdd, Int.reduceSub, Int.reduceMul, Int.reduceNeg, Int.reduceToNat, Nat.zero_add]
theorem tiles_ok (l : List Span) (hL : l.length ≤ 4294967296) : callL G N_directory_tiles [.d (.sl (l.map eSpan))] [] = some (.d (.bool (decide (tileN 0 l = some 65536))), []) := by
  have := tile_loop l hL (0, 0) ⟨by omega, by omega, by omega⟩
  simp only [tileR, List.drop_zero] at this
  simp only [Int.natCast_add, Int.natCast_one, Int.natCast_zero, Int.natCast_mul, Int.cast_ofNat_Int, List.length_append, List.length_map, List.map_nil, List.length_nil, List.map_append, List.map_cons, List.length_cons, Nat.zero_add, srcO] at this
  cases h : tileN 0 l with
  | none => rw [h] at this; rw [callL_code g_directory_tiles (by simp)]; simp -implicitDefEqProofs (disch := omega) only [c_directory_tiles, r_directory_tiles, wr, Int.cast_ofNat_Int, Int.natCast_zero, List.length_append, lim_eq, wu64, wu32, wu8, Bool.true_beq, Bool.false_beq, beqT, beqF, Int.natCast_add, Int.natCast_one, ltT, ltF, leT, leF, eqT, eqF, nltT, nltF, nleT, nleF, neqT, neqF, mapGet, Int.toNat_natCast, Int.natCast_nonneg, List.length_map, go_sem, ↓reduceIte, reduceCtorEq, Nat.reduceEqDiff, Nat.reduceAdd, Nat.reduceBEq, Nat.reduceMul, Nat.reduceLeDiff, Nat.reduceSub, Nat.reduceLT, Nat.reduceDiv, Nat.reduceMod, List.reduceReplicate, Int.reduceEq, Int.reduceLT, Int.reduceLE, Int.reduceAdd, Int.reduceSub, Int.reduceMul, Int.reduceNeg, Int.reduceToNat, this]
  | some m =>
    rw [h] at this
    rw [callL_code g_directory_tiles (by simp)]; simp -implicitDefEqProofs (disch := omega) only [c_directory_tiles, r_directory_tiles, wr, Int.cast_ofNat_Int, Int.natCast_zero, List.length_append, lim_eq, wu64, wu32, wu8, Bool.true_beq, Bool.false_beq, beqT, beqF, Int.natCast_add, Int.natCast_one, ltT, ltF, leT, leF, eqT, eqF, nltT, nltF, nleT, nleF, neqT, neqF, mapGet, Int.toNat_natCast, Int.natCast_nonneg, List.length_map, go_sem, ↓reduceIte, reduceCtorEq, Nat.reduceEqDiff, Nat.reduceAdd, Nat.reduceBEq, Nat.reduceMul, Nat.reduceLeDiff, Nat.reduceSub, Nat.reduceLT, Nat.reduceDiv, Nat.reduceMod, List.reduceReplicate, Int.reduceEq, Int.reduceLT, Int.reduceLE, Int.reduceAdd, Int.reduceSub, Int.reduceMul, Int.reduceNeg, Int.reduceToNat, this]
    simp
def obD (o : Nat) (d : Directory) : Nat × Go.Sim.Obj := (o, .row [.d (eDirectory d)])
theorem fwd_loop0 (d : Directory) (hL : d.l.length ≤ 4294967296) (hF : d.forward.length ≤ 6) : loopL G [] l_directory_forwards_0 ⟨[(1, .ref 1 0 0), (9, .d (.sl (ints d.forward))), (10, .d (.int .i64 d.forward.length)), (11, .d (.int .i64 0))], [obD 1 d]⟩ = some (if (List.range d.forward.length).all (fwdAt d) = true then (.exit 0, ⟨[(1, .ref 1 0 0)], [obD 1 d]⟩) else (.ret, ⟨[(2, .d (.bool false))], []⟩)) := by
  have := loop_all (G := G) (x := l_directory_forwards_0) (ks := []) d.forward.length (fwdAt d) (fun k => ⟨[(1, .ref 1 0 0), (9, .d (.sl (ints d.forward))), (10, .d (.int .i64 d.forward.length)), (11, .d (.int .i64 k))], [obD 1 d]⟩) (.ret, ⟨[(2, .d (.bool false))], []⟩) (.exit 0, ⟨[(1, .ref 1 0 0)], [obD 1 d]⟩) (fun k hk L => by
    simp only [l_directory_forwards_0, obD, eDirectory]
    by_cases h0 : k < d.forward.length
    · have hg : (d.forward.map (D.int .i64))[k]? = some (.int .i64 (d.forward.getD k 0)) := by simp [List.getElem?_eq_getElem h0, h0]
      unfold fwdAt
      generalize d.forward.getD k 0 = t at *
      by_cases c1 : 0 ≤ findS d.l k
      · by_cases c2 : t = -1
        · simp -implicitDefEqProofs (disch := omega) only [wr, Int.cast_ofNat_Int, Int.natCast_zero, List.length_append, lim_eq, wu64, wu32, wu8, Bool.true_beq, Bool.false_beq, beqT, beqF, Int.natCast_add, Int.natCast_one, ltT, ltF, leT, leF, eqT, eqF, nltT, nltF, nleT, nleF, neqT, neqF, mapGet, Int.toNat_natCast, Int.natCast_nonneg, List.length_map, go_sem, ↓reduceIte, reduceCtorEq, Nat.reduceEqDiff, Nat.reduceAdd, Nat.reduceBEq, Nat.reduceMul, Nat.reduceLeDiff, Nat.reduceSub, Nat.reduceLT, Nat.reduceDiv, Nat.reduceMod, List.reduceReplicate, Int.reduceEq, Int.reduceLT, Int.reduceLE, Int.reduceAdd, Int.reduceSub, Int.reduceMul, Int.reduceNeg, Int.reduceToNat, hg, dfind_ok, c1, c2]
        · simp -implicitDefEqProofs (disch := omega) only [wr, Int.cast_ofNat_Int, Int.natCast_zero, List.length_append, lim_eq, wu64, wu32, wu8, Bool.true_beq, Bool.false_beq, beqT, beqF, Int.natCast_add, Int.natCast_one, ltT, ltF, leT, leF, eqT, eqF, nltT, nltF, nleT, nleF, neqT, neqF, mapGet, Int.toNat_natCast, Int.natCast_nonneg, List.length_map, go_sem, ↓reduceIte, reduceCtorEq, Nat.reduceEqDiff, Nat.reduceAdd, Nat.reduceBEq, Nat.reduceMul, Nat.reduceLeDiff, Nat.reduceSub, Nat.reduceLT, Nat.reduceDiv, Nat.reduceMod, List.reduceReplicate, Int.reduceEq, Int.reduceLT, Int.reduceLE, Int.reduceAdd, Int.reduceSub, Int.reduceMul, Int.reduceNeg, Int.reduceToNat, hg, dfind_ok, c1, c2]
      · by_cases c3 : t < -1
        · simp -implicitDefEqProofs (disch := omega) only [wr, Int.cast_ofNat_Int, Int.natCast_zero, List.length_append, lim_eq, wu64, wu32, wu8, Bool.true_beq, Bool.false_beq, beqT, beqF, Int.natCast_add, Int.natCast_one, ltT, ltF, leT, leF, eqT, eqF, nltT, nltF, nleT, nleF, neqT, neqF, mapGet, Int.toNat_natCast, Int.natCast_nonneg, List.length_map, go_sem, ↓reduceIte, reduceCtorEq, Nat.reduceEqDiff, Nat.reduceAdd, Nat.reduceBEq, Nat.reduceMul, Nat.reduceLeDiff, Nat.reduceSub, Nat.reduceLT, Nat.reduceDiv, Nat.reduceMod, List.reduceReplicate, Int.reduceEq, Int.reduceLT, Int.reduceLE, Int.reduceAdd, Int.reduceSub, Int.reduceMul, Int.reduceNeg, Int.reduceToNat, hg, dfind_ok, c1, c3]
        · by_cases c4 : (d.forward.length : Int) ≤ t
          · simp -implicitDefEqProofs (disch := omega) only [wr, Int.cast_ofNat_Int, Int.natCast_zero, List.length_append, lim_eq, wu64, wu32, wu8, Bool.true_beq, Bool.false_beq, beqT, beqF, Int.natCast_add, Int.natCast_one, ltT, ltF, leT, leF, eqT, eqF, nltT, nltF, nleT, nleF, neqT, neqF, mapGet, Int.toNat_natCast, Int.natCast_nonneg, List.length_map, go_sem, ↓reduceIte, reduceCtorEq, Nat.reduceEqDiff, Nat.reduceAdd, Nat.reduceBEq, Nat.reduceMul, Nat.reduceLeDiff, Nat.reduceSub, Nat.reduceLT, Nat.reduceDiv, Nat.reduceMod, List.reduceReplicate, Int.reduceEq, Int.reduceLT, Int.reduceLE, Int.reduceAdd, Int.reduceSub, Int.reduceMul, Int.reduceNeg, Int.reduceToNat, hg, dfind_ok, c1, c3, c4]
          · simp -implicitDefEqProofs (disch := omega) only [wr, Int.cast_ofNat_Int, Int.natCast_zero, List.length_append, lim_eq, wu64, wu32, wu8, Bool.true_beq, Bool.false_beq, beqT, beqF, Int.natCast_add, Int.natCast_one, ltT, ltF, leT, leF, eqT, eqF, nltT, nltF, nleT, nleF, neqT, neqF, mapGet, Int.toNat_natCast, Int.natCast_nonneg, List.length_map, go_sem, ↓reduceIte, reduceCtorEq, Nat.reduceEqDiff, Nat.reduceAdd, Nat.reduceBEq, Nat.reduceMul, Nat.reduceLeDiff, Nat.reduceSub, Nat.reduceLT, Nat.reduceDiv, Nat.reduceMod, List.reduceReplicate, Int.reduceEq, Int.reduceLT, Int.reduceLE, Int.reduceAdd, Int.reduceSub, Int.reduceMul, Int.reduceNeg, Int.reduceToNat, hg, dfind_ok, c1, c3, c4]
    · simp -implicitDefEqProofs (disch := omega) only [wr, Int.cast_ofNat_Int, Int.natCast_zero, List.length_append, lim_eq, wu64, wu32, wu8, Bool.true_beq, Bool.false_beq, beqT, beqF, Int.natCast_add, Int.natCast_one, ltT, ltF, leT, leF, eqT, eqF, nltT, nltF, nleT, nleF, neqT, neqF, mapGet, Int.toNat_natCast, Int.natCast_nonneg, List.length_map, go_sem, ↓reduceIte, reduceCtorEq, Nat.reduceEqDiff, Nat.reduceAdd, Nat.reduceBEq, Nat.reduceMul, Nat.reduceLeDiff, Nat.reduceSub, Nat.reduceLT, Nat.reduceDiv, Nat.reduceMod, List.reduceReplicate, Int.reduceEq, Int.reduceLT, Int.reduceLE, Int.reduceAdd, Int.reduceSub, Int.reduceMul, Int.reduceNeg, Int.reduceToNat, Nat.zero_add])
  simp only [Int.natCast_add, Int.natCast_one, Int.natCast_zero, Int.natCast_mul, Int.cast_ofNat_Int, List.length_append, List.length_map, List.map_nil, List.length_nil, List.map_append, List.map_cons, List.length_cons, Nat.zero_add, srcO] at this
  exact this
theorem chase_loop (d : Directory) (i : Nat) (hF : d.forward.length ≤ 6) (hv : ∀ a ∈ d.forward, -1 ≤ a ∧ a < d.forward.length) : ∀ p : Nat × Int, p.1 ≤ d.forward.length ∧ -1 ≤ p.2 ∧ p.2 < d.forward.length → loopL G [] l_directory_forwards_1 ⟨[(1, .ref 1 0 0), (7, .d (.int .i64 p.2)), (40, .d (.int .i64 d.forward.length)), (41, .d (.int .i64 i)), (47, .d (.int .i64 d.forward.length)), (48, .d (.int .i64 p.1))], [obD 1 d]⟩ = some (.exit 4, ⟨[(1, .ref 1 0 0), (7, .d (.int .i64 (chase d.forward (d.forward.length - p.1) p.2))), (40, .d (.int .i64 d.forward.length)), (41, .d (.int .i64 i))], [obD 1 d]⟩) := by
  refine loop_ind (fun p : Nat × Int => d.forward.length - p.1) _ (fun p : Nat × Int => ⟨[(1, .ref 1 0 0), (7, .d (.int .i64 p.2)), (40, .d (.int .i64 d.forward.length)), (41, .d (.int .i64 i)), (47, .d (.int .i64 d.forward.length)), (48, .d (.int .i64 p.1))], [obD 1 d]⟩) _ fun ⟨k, a⟩ ⟨hk, h1, h2⟩ L ih => ?_
  simp only [obD, eDirectory] at ih hk h1 h2 ⊢
  simp only [l_directory_forwards_1]
  by_cases h0 : k < d.forward.length
  · rw [show d.forward.length - k = (d.forward.length - (k + 1)) + 1 by omega, chase]
    by_cases c1 : 0 ≤ a
    · have hlt : a.toNat < d.forward.length := by omega
      have hg : (d.forward.map (D.int .i64))[a.toNat]? = some (.int .i64 (d.forward.getD a.toNat 0)) := by simp [List.getElem?_eq_getElem hlt, hlt]
      have hm := hv (d.forward.getD a.toNat 0) (by simp [hlt])
      have := ih (k + 1, d.forward.getD a.toNat 0) ⟨by simp only; omega, hm.1, hm.2⟩ (by simp only; omega)
      rw [if_pos c1]
      simp only [Int.natCast_add, Int.natCast_one, Int.natCast_zero, Int.natCast_mul, Int.cast_ofNat_Int, List.length_append, List.length_map, List.map_nil, List.length_nil, List.map_append, List.map_cons, List.length_cons, Nat.zero_add, srcO] at this
      simp -implicitDefEqProofs (disch := omega) only [wr, Int.cast_ofNat_Int, Int.natCast_zero, List.length_append, lim_eq, wu64, wu32, wu8, Bool.true_beq, Bool.false_beq, beqT, beqF, Int.natCast_add, Int.natCast_one, ltT, ltF, leT, leF, eqT, eqF, nltT, nltF, nleT, nleF, neqT, neqF, mapGet, Int.toNat_natCast, Int.natCast_nonneg, List.length_map, go_sem, ↓reduceIte, reduceCtorEq, Nat.reduceEqDiff, Nat.reduceAdd, Nat.reduceBEq, Nat.reduceMul, Nat.reduceLeDiff, Nat.reduceSub, Nat.reduceLT, Nat.reduceDiv, Nat.reduceMod, List.reduceReplicate, Int.reduceEq, Int.reduceLT, Int.reduceLE, Int.reduceAdd, Int.reduceSub, Int.reduceMul, Int.reduceNeg, Int.reduceToNat, hg, this]
    · have := ih (k + 1, a) ⟨by simp only; omega, h1, h2⟩ (by simp only; omega)
      rw [if_neg c1]
      simp only [Int.natCast_add, Int.natCast_one, Int.natCast_zero, Int.natCast_mul, Int.cast_ofNat_Int, List.length_append, List.length_map, List.map_nil, List.length_nil, List.map_append, List.map_cons, List.length_cons, Nat.zero_add, srcO] at this
      simp -implicitDefEqProofs (disch := omega) only [wr, Int.cast_ofNat_Int, Int.natCast_zero, List.length_append, lim_eq, wu64, wu32, wu8, Bool.true_beq, Bool.false_beq, beqT, beqF, Int.natCast_add, Int.natCast_one, ltT, ltF, leT, leF, eqT, eqF, nltT, nltF, nleT, nleF, neqT, neqF, mapGet, Int.toNat_natCast, Int.natCast_nonneg, List.length_map, go_sem, ↓reduceIte, reduceCtorEq, Nat.reduceEqDiff, Nat.reduceAdd, Nat.reduceBEq, Nat.reduceMul, Nat.reduceLeDiff, Nat.reduceSub, Nat.reduceLT, Nat.reduceDiv, Nat.reduceMod, List.reduceReplicate, Int.reduceEq, Int.reduceLT, Int.reduceLE, Int.reduceAdd, Int.reduceSub, Int.reduceMul, Int.reduceNeg, Int.reduceToNat, this]
  · rw [show d.forward.length - k = 0 by omega, chase]
    simp -implicitDefEqProofs (disch := omega) only [wr, Int.cast_ofNat_Int, Int.natCast_zero, List.length_append, lim_eq, wu64, wu32, wu8, Bool.true_beq, Bool.false_beq, beqT, beqF, Int.natCast_add, Int.natCast_one, ltT, ltF, leT, leF, eqT, eqF, nltT, nltF, nleT, nleF, neqT, neqF, mapGet, Int.toNat_natCast, Int.natCast_nonneg, List.length_map, go_sem, ↓reduceIte, reduceCtorEq, Nat.reduceEqDiff, Nat.reduceAdd, Nat.reduceBEq, Nat.reduceMul, Nat.reduceLeDiff, Nat.reduceSub, Nat.reduceLT, Nat.reduceDiv, Nat.reduceMod, List.reduceReplicate, Int.reduceEq, Int.reduceLT, Int.reduceLE, Int.reduceAdd, Int.reduceSub, Int.reduceMul, Int.reduceNeg, Int.reduceToNat, Nat.zero_add]
end Go.Proofs.Ytlphhhmicdjljaa
