/-
  Walks towards a predicate of the result; arrays of numbers that are written at any place.
  Bags: what is found in them.
  Bags: New, Counts, Same.
  Bags: tick, purge, send, settle.
  Bags: settle.
  Bags: send.
  Bags: each; receive, redrive, expire.
  Bags: receive, expire.
  Bags: redrive; empty bags.
  Bags: carry, Step.
-/
import Derived.Test.YtbkhijigkmhhkaaB2c7cdb4
import Derived.Test.YtbkhijigkmhhkaaB4fee695
set_option linter.unusedSimpArgs false
set_option linter.unusedVariables false
namespace Go.Sim
def Post {α : Type} (φ : α → Prop) (r : α) : Prop := φ r
theorem iteP {α : Type} {φ : α → Prop} {c : Prop} [Decidable c] {A B : α} (h1 : c → Post φ A) (h2 : ¬ c → Post φ B) : Post φ (if c then A else B) := by split <;> simp_all
theorem Post.some {α : Type} {φ : Option α → Prop} {r : Option α} {a : α} (h : φ (some a)) (e : r = some a) : Post φ r := by rw [e]; exact h
theorem over_agg {cs : List D} {k : Nat} {k' : IntKind} {v : Int} (h : k < cs.length) (h1 : cs.length ≠ 1) : over (.d (.agg cs)) k (.d (.int k' v)) = some (.d (.agg (cs.set k (.int k' v)))) := by
  unfold over
  rw [if_neg (by simp [AV.size, D.size, D.cells]; omega), if_pos (by simp [AV.size, D.size, D.cells]; omega)]
  have : splice (AV.cells (.d (.agg cs))) k (AV.cells (.d (.int k' v))) = (cs.set k (.int k' v)).map .d := by
    simp only [AV.cells, D.cells, List.map_cons, List.map_nil]
    rw [splice, List.map_set, List.set_eq_take_append_cons_drop, if_pos (by simpa using h)]
    simp
  rw [this, AV.mkAgg, allD_map]
theorem over_ints {E : List Int} {k : Nat} {k' : IntKind} {v : Int} (h : k < E.length) (h1 : E.length ≠ 1) : over (.d (.agg (E.map (D.int k')))) k (.d (.int k' v)) = some (.d (.agg ((E.set k v).map (D.int k')))) := by
  rw [over_agg (by simpa using h) (by simpa using h1), List.map_set]
attribute [go_sem high] over_ints
attribute [go_sem] Nat.mul_one
end Go.Sim

namespace Go.Proofs.Ytbkhijigkmhhkaa
open Go Go.Sim
set_option linter.unusedSimpArgs false
set_option linter.unusedVariables false
set_option maxHeartbeats 10000000
set_option maxRecDepth 40000
def bIx (l : List Item) (id : Int) : Int := idxI (fun x => decide (x.id = id)) l
def bF (l : List Item) (id : Int) : Option Item := l.find? (fun x => decide (x.id = id))
theorem bF_ix {l : List Item} {id : Int} {i : Nat} (h : bIx l id = i) : ∃ hi : i < l.length, bF l id = some l[i] := by
  obtain ⟨hi, h1, h2⟩ := idxI_some h
  refine ⟨hi, ?_⟩
  unfold bF
  rw [List.find?_eq_some_iff_getElem]
  exact ⟨h1, i, hi, rfl, fun j hj => by simpa using h2 j hj⟩
theorem bF_none {l : List Item} {id : Int} (h : bIx l id < 0) : bF l id = none := by
  unfold bF
  rw [List.find?_eq_none]
  intro x hx
  have := (idxI_neg l _).1 h x hx
  simpa using this
theorem bIx_cases (l : List Item) (id : Int) : (bIx l id = -1 ∧ bF l id = none) ∨ ∃ i : Nat, ∃ hi : i < l.length, bIx l id = i ∧ bF l id = some l[i] := by
  by_cases h : bIx l id < 0
  · exact .inl ⟨(idxI_m1 l _).1 h, bF_none h⟩
  · obtain ⟨i, hi⟩ : ∃ i : Nat, bIx l id = i := ⟨(bIx l id).toNat, by omega⟩
    obtain ⟨h1, h2⟩ := bF_ix hi
    exact .inr ⟨i, h1, hi, h2⟩
theorem idx_api_Item (l : List Item) (g : Nat) (cs : List D) (p : Item → Bool) (hL : l.length ≤ 4294967296) (hp : ∀ a ∈ l, callL G g (.d (eItem a) :: cs.map .d) [] = some (.d (.bool (p a)), [])) : callL G N_slices_IndexFunc_api_Item [.d (.sl (l.map eItem)), .d (.fn g cs)] [] = some (.d (.int .i64 (idxI p l)), []) := by
  have := loop_find (G := G) (x := l_slices_IndexFunc_api_Item_0) (ks := []) l.length (atB l p) (fun k => ⟨[(0, .d (.sl (l.map eItem))), (1, .d (.fn g cs)), (7, .d (.int .i64 l.length)), (8, .d (.int .i64 k))], []⟩) (fun k => (.ret, ⟨[(4, .d (.int .i64 k))], []⟩)) (.exit 0, ⟨[], []⟩) (fun k hk L => by
    simp only [l_slices_IndexFunc_api_Item_0]
    by_cases h0 : k < l.length
    · have h1 := hp l[k] (List.getElem_mem h0)
      simp only [atB_at h0]
      cases h2 : p l[k]
      · rw [h2] at h1
        simp -implicitDefEqProofs (maxSteps := 4000000) (disch := omega) only [go_sem, h1, eItem_asAgg]
      · rw [h2] at h1
        simp -implicitDefEqProofs (maxSteps := 4000000) (disch := omega) only [go_sem, h1, eItem_asAgg]
    · simp -implicitDefEqProofs (maxSteps := 4000000) (disch := omega) only [go_sem, Nat.zero_add])
  rw [findR_idx] at this
  simp only [Int.natCast_add, Int.natCast_one, Int.natCast_zero, Int.natCast_mul, Int.cast_ofNat_Int, List.length_append, List.length_map, List.map_nil, List.length_nil, List.map_append, List.map_cons, List.length_cons, Nat.zero_add, srcO, mapSet] at this
  unfold idxI
  cases h : l.findIdx? p with
  | none => rw [h] at this; rw [callL_code g_slices_IndexFunc_api_Item (by simp)]; simp -implicitDefEqProofs (maxSteps := 4000000) (disch := omega) only [c_slices_IndexFunc_api_Item, r_slices_IndexFunc_api_Item, go_sem, this]
  | some i => rw [h] at this; rw [callL_code g_slices_IndexFunc_api_Item (by simp)]; simp -implicitDefEqProofs (maxSteps := 4000000) (disch := omega) only [c_slices_IndexFunc_api_Item, r_slices_IndexFunc_api_Item, go_sem, this]
theorem bag_index1_ok (x : Item) (id : Int) : callL G N_bag_index_1 [.d (eItem x), .d (.pd (.int .i64 id))] [] = some (.d (.bool (decide (x.id = id))), []) := by
  simp only [eItem]
  rw [callL_code g_bag_index_1 (by simp)]; simp -implicitDefEqProofs (maxSteps := 4000000) (disch := omega) only [c_bag_index_1, r_bag_index_1, getDT, go_sem, *] /-A0-/
theorem bindex_ok (b : Bag) (id : Int) (hL : b.l.length ≤ 4294967296) : callL G N_bag_index [.d (eBag b), .d (.int .i64 id)] [] = some (.d (.int .i64 (bIx b.l id)), []) := by
  have hi := idx_api_Item b.l N_bag_index_1 [.pd (.int .i64 id)] (fun x => decide (x.id = id)) hL (fun a _ => bag_index1_ok a id)
  unfold bIx
  simp only [eBag]
  rw [callL_code g_bag_index (by simp)]; simp -implicitDefEqProofs (maxSteps := 4000000) (disch := omega) only [c_bag_index, r_bag_index, getDT, go_sem, *] /-A1-/
theorem r31index_ok (b : Bag) (id : Int) (hL : b.l.length ≤ 4294967296) : callL G N_ref31_index [.d (eBag b), .d (.int .i64 id)] [] = some (.d (.int .i64 (bIx b.l id)), []) := by
  have hl := loop_find (G := G) (x := l_ref31_index_0) (ks := []) b.l.length (atB b.l fun x => decide (x.id = id)) (fun k => ⟨[(1, .d (.int .i64 id)), (2, .ref 2 0 0), (5, .d (.int .i64 k))], [(2, .row [.d (eBag b)])]⟩) (fun k => (.ret, ⟨[(4, .d (.int .i64 k))], []⟩)) (.exit 0, ⟨[], []⟩) (fun k hk L => by
    simp only [l_ref31_index_0]
    by_cases h0 : k < b.l.length
    · simp only [h0, if_true, atB_at h0]
      simp -implicitDefEqProofs (maxSteps := 4000000) (disch := omega) only [getDT, go_sem, *] /-A2-/
    · simp -implicitDefEqProofs (maxSteps := 4000000) (disch := omega) only [getDT, go_sem, *] /-A3-/)
  rw [findR_idx] at hl
  simp only [Int.natCast_add, Int.natCast_one, Int.natCast_zero, Int.natCast_mul, Int.cast_ofNat_Int, List.length_append, List.length_map, List.map_nil, List.length_nil, List.map_append, List.map_cons, List.length_cons, Nat.zero_add, srcO, mapSet] at hl
  unfold bIx idxI
  cases hf : b.l.findIdx? (fun x => decide (x.id = id)) with
  | none => rw [hf] at hl; clear hf; rw [callL_code g_ref31_index (by simp)]; simp -implicitDefEqProofs (maxSteps := 4000000) (disch := omega) only [c_ref31_index, r_ref31_index, getDT, go_sem, *] /-A4-/
  | some i => rw [hf] at hl; clear hf; rw [callL_code g_ref31_index (by simp)]; simp -implicitDefEqProofs (maxSteps := 4000000) (disch := omega) only [c_ref31_index, r_ref31_index, getDT, go_sem, *] /-A5-/
def bFD (b : Bag) (id : Int) : D := match bF b.l id with | some x => .tup [eItem x, .bool true] | none => .tup [eItem zItem, .bool false]
theorem bfind_ok (b : Bag) (id : Int) (hL : b.l.length ≤ 4294967296) : callL G N_bag_Find [.d (eBag b), .d (.int .i64 id)] [] = some (.d (bFD b id), []) := by
  have hi := bindex_ok b id hL
  unfold bFD
  rcases bIx_cases b.l id with ⟨h1, h2⟩ | ⟨i, h0, h1, h2⟩
  · rw [h1] at hi
    rw [h2]
    clear h1 h2
    simp only [eBag, eItem, zItem] at hi ⊢
    rw [callL_code g_bag_Find (by simp)]; simp -implicitDefEqProofs (maxSteps := 4000000) (disch := omega) only [c_bag_Find, r_bag_Find, getDT, go_sem, *] /-A6-/
  · rw [h1] at hi
    rw [h2]
    clear h1 h2
    simp only [eBag] at hi ⊢
    rw [callL_code g_bag_Find (by simp)]; simp -implicitDefEqProofs (maxSteps := 4000000) (disch := omega) only [c_bag_Find, r_bag_Find, eItem_asAgg, getDT, go_sem, *] /-A7-/
theorem r31find_ok (b : Bag) (id : Int) (hL : b.l.length ≤ 4294967296) : callL G N_ref31_Find [.d (eBag b), .d (.int .i64 id)] [] = some (.d (bFD b id), []) := by
  have hi := r31index_ok b id hL
  unfold bFD
  rcases bIx_cases b.l id with ⟨h1, h2⟩ | ⟨i, h0, h1, h2⟩
  · rw [h1] at hi
    rw [h2]
    clear h1 h2
    simp only [eBag, eItem, zItem] at hi ⊢
    rw [callL_code g_ref31_Find (by simp)]; simp -implicitDefEqProofs (maxSteps := 4000000) (disch := omega) only [c_ref31_Find, r_ref31_Find, getDT, go_sem, *] /-A8-/
  · rw [h1] at hi
    rw [h2]
    clear h1 h2
    simp only [eBag] at hi ⊢
    rw [callL_code g_ref31_Find (by simp)]; simp -implicitDefEqProofs (maxSteps := 4000000) (disch := omega) only [c_ref31_Find, r_ref31_Find, eItem_asAgg, getDT, go_sem, *] /-A9-/
def bVal (b : Bag) (g : Grant) : Bool := match bF b.l g.id with | some x => decide (x.state = 2) && (decide (x.gen = g.gen) && (decide (x.route = g.route) && decide (b.now < x.deadline))) | none => false
theorem bvalid_ok (b : Bag) (g : Grant) (hL : b.l.length ≤ 4294967296) : callL G N_bag_Valid [.d (eBag b), .d (eGrant g)] [] = some (.d (.bool (bVal b g)), []) := by
  have hf := bfind_ok b g.id hL
  unfold bFD at hf
  unfold bVal
  cases h : bF b.l g.id with
  | none =>
    rw [h] at hf
    clear h
    simp only [eBag, eGrant, eItem, zItem] at hf ⊢
    rw [callL_code g_bag_Valid (by simp)]; simp -implicitDefEqProofs (maxSteps := 4000000) (disch := omega) only [c_bag_Valid, r_bag_Valid, getDT, go_sem, *] /-A10-/
  | some x =>
    rw [h] at hf
    clear h
    simp only [eBag, eGrant, eItem] at hf ⊢
    rw [callL_code g_bag_Valid (by simp)]; simp -implicitDefEqProofs (maxSteps := 4000000) (disch := omega) only [c_bag_Valid, r_bag_Valid, getDT, go_sem, *] /-A11-/
theorem r31valid_ok (b : Bag) (g : Grant) (hL : b.l.length ≤ 4294967296) : callL G N_ref31_Valid [.d (eBag b), .d (eGrant g)] [] = some (.d (.bool (bVal b g)), []) := by
  have hf := r31find_ok b g.id hL
  unfold bFD at hf
  unfold bVal
  cases h : bF b.l g.id with
  | none =>
    rw [h] at hf
    clear h
    simp only [eBag, eGrant, eItem, zItem] at hf ⊢
    rw [callL_code g_ref31_Valid (by simp)]; simp -implicitDefEqProofs (maxSteps := 4000000) (disch := omega) only [c_ref31_Valid, r_ref31_Valid, getDT, go_sem, *] /-A12-/
  | some x =>
    rw [h] at hf
    clear h
    simp only [eBag, eGrant, eItem] at hf ⊢
    rw [callL_code g_ref31_Valid (by simp)]; simp -implicitDefEqProofs (maxSteps := 4000000) (disch := omega) only [c_ref31_Valid, r_ref31_Valid, getDT, go_sem, *] /-A13-/
end Go.Proofs.Ytbkhijigkmhhkaa

namespace Go.Proofs.Ytbkhijigkmhhkaa
open Go Go.Sim
set_option linter.unusedSimpArgs false
set_option linter.unusedVariables false
set_option maxHeartbeats 10000000
set_option maxRecDepth 40000
def cntS (s : Int) (l : List Item) : Nat := (l.filter fun x => decide (x.state = s)).length
theorem cntS_succ (s : Int) (l : List Item) {i : Nat} (h : i < l.length) : cntS s (l.take (i + 1)) = cntS s (l.take i) + if l[i].state = s then 1 else 0 := by
  unfold cntS
  rw [List.take_succ_eq_append_getElem h, List.filter_append, List.length_append]
  by_cases e : l[i].state = s <;> simp [e]
theorem cntS_le (s : Int) (l : List Item) (i : Nat) : cntS s (l.take i) ≤ i := by
  unfold cntS
  refine Nat.le_trans (List.length_filter_le _ _) ?_
  rw [List.length_take]; omega
theorem cntS_all (s : Int) (l : List Item) : cntS s (l.take l.length) = cntS s l := by rw [List.take_length]
def bcS (l : List Item) (i : Nat) : St := ⟨[(2, .d (.int .i64 (cntS 1 (l.take i)))), (3, .d (.int .i64 (cntS 2 (l.take i)))), (7, .d (.sl (l.map eItem))), (8, .d (.int .i64 l.length)), (9, .d (.int .i64 i))], []⟩
theorem bc_loop (l : List Item) (hL : l.length ≤ 4294967296) : ∀ i, i ≤ l.length → loopL G [] l_bag_Counts_0 (bcS l i) = some (.exit 0, ⟨[(2, .d (.int .i64 (cntS 1 l))), (3, .d (.int .i64 (cntS 2 l)))], []⟩) := by
  rw [← cntS_all 1 l, ← cntS_all 2 l]
  refine loop_ind (fun i => l.length - i) (fun i => i ≤ l.length) (bcS l) _ fun i hi L ih => ?_
  by_cases h0 : i < l.length
  · have i1 := ih (i + 1) (by omega) (by omega)
    clear ih
    have k1 := cntS_le 1 l i
    have k2 := cntS_le 2 l i
    rw [bcS, cntS_succ 1 l h0, cntS_succ 2 l h0] at i1
    simp only [bcS, l_bag_Counts_0]
    generalize cntS 1 (l.take i) = a at *
    generalize cntS 2 (l.take i) = c at *
    generalize cntS 1 (l.take l.length) = a1 at *
    generalize cntS 2 (l.take l.length) = c1 at *
    by_cases e1 : l[i].state = 1
    · have e2 : ¬ l[i].state = 2 := by omega
      simp only [e1, e2, if_true, if_false, show ¬ ((1 : Int) = 2) by decide, Nat.add_zero] at i1
      simp only [Int.natCast_add, Int.natCast_one, Int.natCast_zero, Int.natCast_mul, Int.cast_ofNat_Int, List.length_append, List.length_map, List.map_nil, List.length_nil, List.map_append, List.map_cons, List.length_cons, Nat.zero_add, srcO, mapSet] at i1
      simp -implicitDefEqProofs (maxSteps := 4000000) (disch := omega) only [getDT, go_sem, *] /-A0-/
    · by_cases e2 : l[i].state = 2
      · simp only [e2, if_true, if_false, show ¬ ((2 : Int) = 1) by decide, Nat.add_zero] at i1
        simp only [Int.natCast_add, Int.natCast_one, Int.natCast_zero, Int.natCast_mul, Int.cast_ofNat_Int, List.length_append, List.length_map, List.map_nil, List.length_nil, List.map_append, List.map_cons, List.length_cons, Nat.zero_add, srcO, mapSet] at i1
        simp -implicitDefEqProofs (maxSteps := 4000000) (disch := omega) only [getDT, go_sem, *] /-A1-/
      · simp only [e1, e2, if_false, Nat.add_zero] at i1
        simp only [Int.natCast_add, Int.natCast_one, Int.natCast_zero, Int.natCast_mul, Int.cast_ofNat_Int, List.length_append, List.length_map, List.map_nil, List.length_nil, List.map_append, List.map_cons, List.length_cons, Nat.zero_add, srcO, mapSet] at i1
        simp -implicitDefEqProofs (maxSteps := 4000000) (disch := omega) only [getDT, go_sem, *] /-A2-/
  · clear ih
    have : i = l.length := by omega
    subst this
    simp only [bcS, l_bag_Counts_0]
    simp -implicitDefEqProofs (maxSteps := 4000000) (disch := omega) only [getDT, go_sem, *] /-A3-/
theorem bcounts_ok (b : Bag) (hL : b.l.length ≤ 4294967296) : callL G N_bag_Counts [.d (eBag b)] [] = some (.d (.tup [.int .i64 (cntS 1 b.l), .int .i64 (cntS 2 b.l)]), []) := by
  have hl := bc_loop b.l hL 0 (by omega)
  simp only [bcS, List.take_zero] at hl
  simp only [show ∀ s, cntS s [] = 0 from fun s => rfl, Int.natCast_zero] at hl
  simp only [eBag]
  rw [callL_code g_bag_Counts (by simp)]; simp -implicitDefEqProofs (maxSteps := 4000000) (disch := omega) only [c_bag_Counts, r_bag_Counts, getDT, go_sem, *] /-A4-/
def rcS (b : Bag) (i : Nat) : St := ⟨[(1, .ref 1 0 0), (4, .d (.int .i64 (cntS 1 (b.l.take i)))), (5, .d (.int .i64 (cntS 2 (b.l.take i)))), (6, .d (.int .i64 i))], [(1, .row [.d (eBag b)])]⟩
theorem rc_loop (b : Bag) (hL : b.l.length ≤ 4294967296) : ∀ i, i ≤ b.l.length → loopL G [] l_ref31_Counts_0 (rcS b i) = some (.exit 0, ⟨[(4, .d (.int .i64 (cntS 1 b.l))), (5, .d (.int .i64 (cntS 2 b.l)))], []⟩) := by
  rw [← cntS_all 1 b.l, ← cntS_all 2 b.l]
  refine loop_ind (fun i => b.l.length - i) (fun i => i ≤ b.l.length) (rcS b) _ fun i hi L ih => ?_
  by_cases h0 : i < b.l.length
  · have i1 := ih (i + 1) (by omega) (by omega)
    clear ih
    have k1 := cntS_le 1 b.l i
    have k2 := cntS_le 2 b.l i
    rw [rcS, cntS_succ 1 b.l h0, cntS_succ 2 b.l h0] at i1
    simp only [rcS, l_ref31_Counts_0]
    generalize cntS 1 (b.l.take i) = a at *
    generalize cntS 2 (b.l.take i) = c at *
    generalize cntS 1 (b.l.take b.l.length) = a1 at *
    generalize cntS 2 (b.l.take b.l.length) = c1 at *
    by_cases e1 : b.l[i].state = 1
    · have e2 : ¬ b.l[i].state = 2 := by omega
      simp only [e1, e2, if_true, if_false, show ¬ ((1 : Int) = 2) by decide, Nat.add_zero] at i1
      simp only [Int.natCast_add, Int.natCast_one, Int.natCast_zero, Int.natCast_mul, Int.cast_ofNat_Int, List.length_append, List.length_map, List.map_nil, List.length_nil, List.map_append, List.map_cons, List.length_cons, Nat.zero_add, srcO, mapSet] at i1
      simp -implicitDefEqProofs (maxSteps := 4000000) (disch := omega) only [getDT, go_sem, *] /-A5-/
    · by_cases e2 : b.l[i].state = 2
      · simp only [e2, if_true, if_false, show ¬ ((2 : Int) = 1) by decide, Nat.add_zero] at i1
        simp only [Int.natCast_add, Int.natCast_one, Int.natCast_zero, Int.natCast_mul, Int.cast_ofNat_Int, List.length_append, List.length_map, List.map_nil, List.length_nil, List.map_append, List.map_cons, List.length_cons, Nat.zero_add, srcO, mapSet] at i1
        simp -implicitDefEqProofs (maxSteps := 4000000) (disch := omega) only [getDT, go_sem, *] /-A6-/
      · simp only [e1, e2, if_false, Nat.add_zero] at i1
        simp only [Int.natCast_add, Int.natCast_one, Int.natCast_zero, Int.natCast_mul, Int.cast_ofNat_Int, List.length_append, List.length_map, List.map_nil, List.length_nil, List.map_append, List.map_cons, List.length_cons, Nat.zero_add, srcO, mapSet] at i1
        simp -implicitDefEqProofs (maxSteps := 4000000) (disch := omega) only [getDT, go_sem, *] /-A7-/
  · clear ih
    have : i = b.l.length := by omega
    simp only [rcS, this, l_ref31_Counts_0]
    simp -implicitDefEqProofs (maxSteps := 4000000) (disch := omega) only [getDT, go_sem, *] /-A8-/
theorem r31counts_ok (b : Bag) (hL : b.l.length ≤ 4294967296) : callL G N_ref31_Counts [.d (eBag b)] [] = some (.d (.tup [.int .i64 (cntS 1 b.l), .int .i64 (cntS 2 b.l)]), []) := by
  have hl := rc_loop b hL 0 (by omega)
  simp only [rcS, List.take_zero] at hl
  simp only [show ∀ s, cntS s [] = 0 from fun s => rfl, Int.natCast_zero] at hl
  generalize cntS 1 b.l = a1 at *
  generalize cntS 2 b.l = c1 at *
  simp only [eBag] at hl ⊢
  rw [callL_code g_ref31_Counts (by simp)]; simp -implicitDefEqProofs (maxSteps := 4000000) (disch := omega) only [c_ref31_Counts, r_ref31_Counts, getDT, go_sem, *] /-A9-/
theorem bag_in_ok (n lo hi : Int) : callL G N_bag_in [.d (.int .i64 n), .d (.int .i64 lo), .d (.int .i64 hi)] [] = some (.d (.bool (decide (lo ≤ n) && decide (n ≤ hi))), []) := by
  rw [callL_code g_bag_in (by simp)]; simp -implicitDefEqProofs (maxSteps := 4000000) (disch := omega) only [c_bag_in, r_bag_in, getDT, go_sem, *] /-A10-/
theorem bag_new_ok (l n e : Int) (h1 : 1 ≤ l) (h2 : l ≤ 8) (h3 : 0 ≤ n) (h4 : n ≤ 1000) (h5 : 0 ≤ e) (h6 : e ≤ 1000) : callL G N_bag_New [.d (.int .i64 l), .d (.int .i64 n), .d (.int .i64 e)] [] = some (.d (.tup [eBag ⟨l, n, e, []⟩, .int .i64 0]), []) := by
  have a1 := bag_in_ok l 1 8
  have a2 := bag_in_ok n 0 1073741824
  have a3 := bag_in_ok e 0 65536
  rw [show (decide (1 ≤ l) && decide (l ≤ 8)) = true by simp; omega] at a1
  rw [show (decide (0 ≤ n) && decide (n ≤ 1073741824)) = true by simp; omega] at a2
  rw [show (decide (0 ≤ e) && decide (e ≤ 65536)) = true by simp; omega] at a3
  simp only [eBag, List.map_nil]
  rw [callL_code g_bag_New (by simp)]; simp -implicitDefEqProofs (maxSteps := 4000000) (disch := omega) only [c_bag_New, r_bag_New, getDT, go_sem, *] /-A11-/
theorem r31same_ok (b : Bag) (hL : b.l.length ≤ 4294967296) : callL G N_ref31_Same [.d (eBag b), .d (eBag b)] [] = some (.d (.bool true), []) := by
  have hl := loop_all (G := G) (x := l_ref31_Same_0) (ks := []) b.l.length (fun _ => true) (fun k => ⟨[(2, .ref 2 0 0), (3, .ref 3 0 0), (5, .d (.int .i64 k))], [(2, .row [.d (eBag b)]), (3, .row [.d (eBag b)])]⟩) (.ret, ⟨[(4, .d (.bool false))], []⟩) (.exit 0, ⟨[], []⟩) (fun k hk L => by
    simp only [l_ref31_Same_0]
    by_cases h0 : k < b.l.length
    · simp only [h0, if_true]
      simp -implicitDefEqProofs (maxSteps := 4000000) (disch := omega) only [eItem, getDT, go_sem, *] /-A12-/
    · simp -implicitDefEqProofs (maxSteps := 4000000) (disch := omega) only [getDT, go_sem, *] /-A13-/)
  rw [if_pos (by simp)] at hl
  simp only [eBag] at hl ⊢
  simp only [Int.natCast_add, Int.natCast_one, Int.natCast_zero, Int.natCast_mul, Int.cast_ofNat_Int, List.length_append, List.length_map, List.map_nil, List.length_nil, List.map_append, List.map_cons, List.length_cons, Nat.zero_add, srcO, mapSet] at hl
  rw [callL_code g_ref31_Same (by simp)]; simp -implicitDefEqProofs (maxSteps := 4000000) (disch := omega) only [c_ref31_Same, r_ref31_Same, getDT, go_sem, *] /-A14-/
end Go.Proofs.Ytbkhijigkmhhkaa

namespace Go.Proofs.Ytbkhijigkmhhkaa
open Go Go.Sim
set_option linter.unusedSimpArgs false
set_option linter.unusedVariables false
set_option maxHeartbeats 10000000
set_option maxRecDepth 40000
def bN (n a e : Int) (l : List Item) : Heap := [(1000000, .row [.agg [.d (.int .i64 n), .d (.int .i64 a), .d (.int .i64 e), .osl 1000001 0 l.length]]), (1000001, .row ((l.map eItem).map .d))]
def bZ (n a e : Int) : Heap := [(1000000, .row [.agg [.d (.int .i64 n), .d (.int .i64 a), .d (.int .i64 e), .xsl []]])]
theorem tick_ok (n a e : Int) (l : List Item) (v : Event) (h : ¬ (v.err ≠ 0 ∨ v.now < a)) : callL G N_bag_tick [.ref 1000000 0 0, .d (eEvent v)] (bN n a e l) = some (.d (.bool true), bN n v.now e l) := by
  simp only [not_or, Classical.not_not] at h
  obtain ⟨h1, h2⟩ := h
  simp only [bN, eEvent]
  rw [callL_code g_bag_tick (by simp)]; simp -implicitDefEqProofs (maxSteps := 4000000) (disch := omega) only [c_bag_tick, r_bag_tick, getDT, go_sem, *] /-A0-/
theorem tick_no (n a e : Int) (l : List Item) (v : Event) (h : v.err ≠ 0 ∨ v.now < a) : callL G N_bag_tick [.ref 1000000 0 0, .d (eEvent v)] (bN n a e l) = some (.d (.bool false), bN n a e l) := by
  simp only [bN, eEvent]
  by_cases h1 : v.err = 0
  · have h2 : v.now < a := by rcases h with h | h; exact absurd h1 h; exact h
    clear h
    rw [callL_code g_bag_tick (by simp)]; simp -implicitDefEqProofs (maxSteps := 4000000) (disch := omega) only [c_bag_tick, r_bag_tick, getDT, go_sem, *] /-A1-/
  · clear h
    rw [callL_code g_bag_tick (by simp)]; simp -implicitDefEqProofs (maxSteps := 4000000) (disch := omega) only [c_bag_tick, r_bag_tick, getDT, go_sem, *] /-A2-/
theorem tickZ_ok (n a e : Int) (v : Event) (h : ¬ (v.err ≠ 0 ∨ v.now < a)) : callL G N_bag_tick [.ref 1000000 0 0, .d (eEvent v)] (bZ n a e) = some (.d (.bool true), bZ n v.now e) := by
  simp only [not_or, Classical.not_not] at h
  obtain ⟨h1, h2⟩ := h
  simp only [bZ, eEvent]
  rw [callL_code g_bag_tick (by simp)]; simp -implicitDefEqProofs (maxSteps := 4000000) (disch := omega) only [c_bag_tick, r_bag_tick, getDT, go_sem, *] /-A3-/
theorem tickZ_no (n a e : Int) (v : Event) (h : v.err ≠ 0 ∨ v.now < a) : callL G N_bag_tick [.ref 1000000 0 0, .d (eEvent v)] (bZ n a e) = some (.d (.bool false), bZ n a e) := by
  simp only [bZ, eEvent]
  by_cases h1 : v.err = 0
  · have h2 : v.now < a := by rcases h with h | h; exact absurd h1 h; exact h
    clear h
    rw [callL_code g_bag_tick (by simp)]; simp -implicitDefEqProofs (maxSteps := 4000000) (disch := omega) only [c_bag_tick, r_bag_tick, getDT, go_sem, *] /-A4-/
  · clear h
    rw [callL_code g_bag_tick (by simp)]; simp -implicitDefEqProofs (maxSteps := 4000000) (disch := omega) only [c_bag_tick, r_bag_tick, getDT, go_sem, *] /-A5-/
def goneI (x : Item) : Item := ⟨x.id, 4, x.count, x.gen, x.route, 0⟩
def goneN (l : List Item) (k : Nat) : List Item := (l.take k).map goneI ++ l.drop k
theorem goneN_len (l : List Item) (k : Nat) : (goneN l k).length = l.length := by simp [goneN]; omega
theorem goneN_succ (l : List Item) {k : Nat} (h : k < l.length) : goneN l (k + 1) = (goneN l k).set k (goneI l[k]) := by
  apply List.ext_getElem
  · simp [goneN]; omega
  · intro i h1 h2
    simp only [goneN, List.getElem_append, List.getElem_set, List.length_map, List.length_take, List.getElem_map, List.getElem_take, List.getElem_drop] at *
    by_cases e : k = i
    · subst e
      simp only [if_true]
      rw [dif_pos (by omega)]
    · by_cases e2 : i < k
      · rw [dif_pos (by omega), if_neg e, dif_pos (by omega)]
      · rw [dif_neg (by omega), if_neg e, dif_neg (by omega)]
        congr 1; omega
theorem goneN_at (l : List Item) {k : Nat} (h : k < l.length) : ∃ h2 : k < (goneN l k).length, (goneN l k)[k] = l[k] := by
  refine ⟨by rw [goneN_len]; exact h, ?_⟩
  simp only [goneN, List.getElem_append, List.length_map, List.length_take, List.getElem_drop]
  rw [dif_neg (by omega)]
  congr 1; omega
theorem follows_ok (a b : Int) (h1 : -4294967296 ≤ a) (h2 : a ≤ 4294967296) (h3 : -4294967296 ≤ b) (h4 : b ≤ 4294967296) : callL G N_bag_follows [.d (.int .i64 a), .d (.int .i64 b)] [] = some (.d (.bool (decide (b = a + 1))), []) := by
  by_cases h : b = a + 1
  · subst h
    rw [decide_eq_true rfl]
    rw [callL_code g_bag_follows (by simp)]; simp -implicitDefEqProofs (maxSteps := 4000000) (disch := omega) only [c_bag_follows, r_bag_follows, getDT, go_sem, *] /-A6-/
  · rw [decide_eq_false h]
    rw [callL_code g_bag_follows (by simp)]; simp -implicitDefEqProofs (maxSteps := 4000000) (disch := omega) only [c_bag_follows, r_bag_follows, getDT, go_sem, *] /-A7-/
def puS (n a e : Int) (l : List Item) (k : Nat) : St := ⟨[(0, .ref 1000000 0 0), (29, .d (.int .i64 l.length)), (30, .d (.int .i64 k)), (1000000, .ref 1000000 1 0), (1000001, .ref 1000001 1 0)], bN n a e (goneN l k)⟩
theorem pu_loop (n a e : Int) (l : List Item) (hL : l.length ≤ 4294967296) : ∀ i, i ≤ l.length → loopL G [] l_bag_purge_0 (puS n a e l i) = some (.exit 0, ⟨[(1000000, .ref 1000000 1 0), (1000001, .ref 1000001 1 0)], bN n a e (goneN l l.length)⟩) := by
  refine loop_ind (fun i => l.length - i) (fun i => i ≤ l.length) (puS n a e l) _ fun i hi L ih => ?_
  have hl := goneN_len l i
  by_cases h0 : i < l.length
  · have i1 := ih (i + 1) (by omega) (by omega)
    clear ih
    obtain ⟨h2, h3⟩ := goneN_at l h0
    rw [puS, bN, goneN_succ l h0, List.length_set, List.map_set] at i1
    simp only [puS, bN, l_bag_purge_0]
    rw [← h3] at i1
    generalize goneN l i = w at *
    generalize goneN l l.length = z at *
    have hs : ∀ X, (((w.map eItem).set i X).map AV.d)[i]? = some (.d X) := by intro X; rw [List.getElem?_map, List.getElem?_set_self (by rw [List.length_map]; exact h2)]; rfl
    rw [h3, hl] at i1
    simp only [goneI] at i1
    simp only [eItem, bN] at i1
    simp only [Int.natCast_add, Int.natCast_one, Int.natCast_zero, Int.natCast_mul, Int.cast_ofNat_Int, List.length_append, List.length_map, List.map_nil, List.length_nil, List.map_append, List.map_cons, List.length_cons, Nat.zero_add, srcO, mapSet] at i1
    simp -implicitDefEqProofs (maxSteps := 4000000) (disch := omega) only [hs, List.set_set, getDT, go_sem, *] /-A8-/
  · clear ih
    have : i = l.length := by omega
    subst this
    simp only [puS, bN, l_bag_purge_0]
    generalize goneN l l.length = z at *
    simp -implicitDefEqProofs (maxSteps := 4000000) (disch := omega) only [getDT, go_sem, *] /-A9-/
theorem purge_ok (n a e : Int) (l : List Item) (v : Event) (hL : l.length ≤ 4294967296) (h : v.err = 0) (h2 : v.epoch = e + 1) (h3 : 0 ≤ e) (h4 : e ≤ 4294967000) : callL G N_bag_purge [.ref 1000000 0 0, .d (eEvent v)] (bN n a e l) = some (.d (.bool true), bN n a v.epoch (l.map goneI)) := by
  have hl := pu_loop n a v.epoch l hL 0 (by omega)
  rw [show goneN l l.length = l.map goneI by simp [goneN]] at hl
  have hf := follows_ok e v.epoch (by omega) (by omega) (by omega) (by omega)
  rw [decide_eq_true h2, h2] at hf
  rw [h2] at hl
  simp only [puS, show goneN l 0 = l by simp [goneN]] at hl
  simp only [bN, eEvent, List.length_map] at hl ⊢
  simp only [Int.natCast_add, Int.natCast_one, Int.natCast_zero, Int.natCast_mul, Int.cast_ofNat_Int, List.length_append, List.length_map, List.map_nil, List.length_nil, List.map_append, List.map_cons, List.length_cons, Nat.zero_add, srcO, mapSet] at hl
  generalize l.map goneI = z at *
  rw [callL_code g_bag_purge (by simp)]; simp -implicitDefEqProofs (maxSteps := 4000000) (disch := omega) only [c_bag_purge, r_bag_purge, getDT, go_sem, *] /-A10-/
theorem purge_no (n a e : Int) (l : List Item) (v : Event) (h : ¬ (v.err = 0 ∧ v.epoch = e + 1)) (h3 : 0 ≤ e) (h4 : e ≤ 4294967000) (h5 : -4294967296 ≤ v.epoch) (h6 : v.epoch ≤ 4294967296) : callL G N_bag_purge [.ref 1000000 0 0, .d (eEvent v)] (bN n a e l) = some (.d (.bool (decide (v.err = 6))), bN n a e l) := by
  have hf := follows_ok e v.epoch (by omega) (by omega) (by omega) (by omega)
  simp only [bN, eEvent]
  by_cases h1 : v.err = 0
  · have h2 : ¬ v.epoch = e + 1 := fun h2 => h ⟨h1, h2⟩
    rw [decide_eq_false h2] at hf
    clear h
    rw [decide_eq_false (show ¬ v.err = 6 by omega)]
    rw [callL_code g_bag_purge (by simp)]; simp -implicitDefEqProofs (maxSteps := 4000000) (disch := omega) only [c_bag_purge, r_bag_purge, getDT, go_sem, *] /-A11-/
  · clear h hf
    rw [callL_code g_bag_purge (by simp)]; simp -implicitDefEqProofs (maxSteps := 4000000) (disch := omega) only [c_bag_purge, r_bag_purge, getDT, go_sem, *] /-A12-/
theorem purgeZ_ok (n a e : Int) (v : Event) (h : v.err = 0) (h2 : v.epoch = e + 1) (h3 : 0 ≤ e) (h4 : e ≤ 4294967000) : callL G N_bag_purge [.ref 1000000 0 0, .d (eEvent v)] (bZ n a e) = some (.d (.bool true), bZ n a v.epoch) := by
  have hf := follows_ok e v.epoch (by omega) (by omega) (by omega) (by omega)
  rw [decide_eq_true h2, h2] at hf
  simp only [bZ, eEvent]
  rw [callL_code g_bag_purge (by simp)]; simp -implicitDefEqProofs (maxSteps := 4000000) (disch := omega) only [c_bag_purge, r_bag_purge, loopL_eq, l_bag_purge_0, getDT, go_sem, *] /-A13-/
theorem purgeZ_no (n a e : Int) (v : Event) (h : ¬ (v.err = 0 ∧ v.epoch = e + 1)) (h3 : 0 ≤ e) (h4 : e ≤ 4294967000) (h5 : -4294967296 ≤ v.epoch) (h6 : v.epoch ≤ 4294967296) : callL G N_bag_purge [.ref 1000000 0 0, .d (eEvent v)] (bZ n a e) = some (.d (.bool (decide (v.err = 6))), bZ n a e) := by
  have hf := follows_ok e v.epoch (by omega) (by omega) (by omega) (by omega)
  simp only [bZ, eEvent]
  by_cases h1 : v.err = 0
  · have h2 : ¬ v.epoch = e + 1 := fun h2 => h ⟨h1, h2⟩
    rw [decide_eq_false h2] at hf
    clear h
    rw [decide_eq_false (show ¬ v.err = 6 by omega)]
    rw [callL_code g_bag_purge (by simp)]; simp -implicitDefEqProofs (maxSteps := 4000000) (disch := omega) only [c_bag_purge, r_bag_purge, getDT, go_sem, *] /-A14-/
  · clear h hf
    rw [callL_code g_bag_purge (by simp)]; simp -implicitDefEqProofs (maxSteps := 4000000) (disch := omega) only [c_bag_purge, r_bag_purge, getDT, go_sem, *] /-A15-/
theorem back_at (l : List Item) (n a e lim : Int) (i : Nat) (h : i < l.length) : callL G N_bag_back [.ref 1000000 i 0, .d (.int .i64 lim)] [(1000000, .row ((l.map eItem).map .d))] = some (.d (.tup []), [(1000000, .row (((l.set i ⟨l[i].id, if l[i].count ≥ lim then 3 else 1, l[i].count, l[i].gen, l[i].route, 0⟩).map eItem).map .d))]) := by
  have hs : ∀ X, (((l.map eItem).set i X).map AV.d)[i]? = some (.d X) := by intro X; rw [List.getElem?_map, List.getElem?_set_self (by rw [List.length_map]; exact h)]; rfl
  rw [List.map_set]
  by_cases hc : l[i].count ≥ lim
  · simp only [hc, if_true]
    simp only [eItem]
    rw [callL_code g_bag_back (by simp)]; simp -implicitDefEqProofs (maxSteps := 4000000) (disch := omega) only [c_bag_back, r_bag_back, hs, List.set_set, getDT, go_sem, *] /-A16-/
  · simp only [hc, if_false]
    simp only [eItem]
    rw [callL_code g_bag_back (by simp)]; simp -implicitDefEqProofs (maxSteps := 4000000) (disch := omega) only [c_bag_back, r_bag_back, hs, List.set_set, getDT, go_sem, *] /-A17-/
end Go.Proofs.Ytbkhijigkmhhkaa

namespace Go.Proofs.Ytbkhijigkmhhkaa
open Go Go.Sim
set_option linter.unusedSimpArgs false
set_option linter.unusedVariables false
set_option maxHeartbeats 10000000
set_option maxRecDepth 40000
theorem set_none (n a e : Int) (l : List Item) (v : Event) (hL : l.length ≤ 4294967296) (hv : v.l = []) : callL G N_bag_settle [.ref 1000000 0 0, .d (eEvent v)] (bN n a e l) = some (.d (.bool (decide (v.err = 5))), bN n a e l) := by
  simp only [bN, eEvent, hv]
  by_cases h : v.err = 5
  · simp only [h, decide_true]
    rw [callL_code g_bag_settle (by simp)]; simp -implicitDefEqProofs (maxSteps := 4000000) (disch := omega) only [c_bag_settle, r_bag_settle, getDT, go_sem, *] /-A0-/
  · simp only [h, decide_false]
    rw [callL_code g_bag_settle (by simp)]; simp -implicitDefEqProofs (maxSteps := 4000000) (disch := omega) only [c_bag_settle, r_bag_settle, getDT, go_sem, *] /-A1-/
theorem set_many (n a e : Int) (l : List Item) (v : Event) (g h : Grant) (r : List Grant) (hL : l.length ≤ 4294967296) (hv : v.l = g :: h :: r) : callL G N_bag_settle [.ref 1000000 0 0, .d (eEvent v)] (bN n a e l) = some (.d (.bool false), bN n a e l) := by
  simp only [bN, eEvent, hv]
  by_cases h : v.err = 5
  · simp only [h]
    rw [callL_code g_bag_settle (by simp)]; simp -implicitDefEqProofs (maxSteps := 4000000) (disch := omega) only [c_bag_settle, r_bag_settle, getDT, go_sem, *] /-A2-/
  · rw [callL_code g_bag_settle (by simp)]; simp -implicitDefEqProofs (maxSteps := 4000000) (disch := omega) only [c_bag_settle, r_bag_settle, getDT, go_sem, *] /-A3-/
theorem set_inv (n a e : Int) (l : List Item) (v : Event) (g : Grant) (hL : l.length ≤ 4294967296) (hv : v.l = [g]) (hg : bVal ⟨n, a, e, l⟩ g = false) : callL G N_bag_settle [.ref 1000000 0 0, .d (eEvent v)] (bN n a e l) = some (.d (.bool (decide (v.err = 5))), bN n a e l) := by
  have hb := bvalid_ok ⟨n, a, e, l⟩ g hL
  rw [hg] at hb
  clear hg
  simp only [bN, eEvent, hv, eBag, eGrant, List.map_cons, List.map_nil] at hb ⊢
  by_cases h : v.err = 5
  · simp only [h, decide_true]
    rw [callL_code g_bag_settle (by simp)]; simp -implicitDefEqProofs (maxSteps := 4000000) (disch := omega) only [c_bag_settle, r_bag_settle, getDT, go_sem, *] /-A4-/
  · simp only [h, decide_false]
    rw [callL_code g_bag_settle (by simp)]; simp -implicitDefEqProofs (maxSteps := 4000000) (disch := omega) only [c_bag_settle, r_bag_settle, getDT, go_sem, *] /-A5-/
theorem set_err (n a e : Int) (l : List Item) (v : Event) (g : Grant) (hL : l.length ≤ 4294967296) (hv : v.l = [g]) (hg : bVal ⟨n, a, e, l⟩ g = true) (he : v.err ≠ 0) : callL G N_bag_settle [.ref 1000000 0 0, .d (eEvent v)] (bN n a e l) = some (.d (.bool (decide (v.err = 6) && decide (v.kind = 6))), bN n a e l) := by
  have hb := bvalid_ok ⟨n, a, e, l⟩ g hL
  rw [hg] at hb
  clear hg
  simp only [bN, eEvent, hv, eBag, eGrant, List.map_cons, List.map_nil] at hb ⊢
  by_cases h : v.err = 5
  · simp only [h, show ¬ ((5 : Int) = 6) by decide, decide_false, Bool.false_and]
    rw [callL_code g_bag_settle (by simp)]; simp -implicitDefEqProofs (maxSteps := 4000000) (disch := omega) only [c_bag_settle, r_bag_settle, getDT, go_sem, *] /-A6-/
  · by_cases h6 : v.err = 6
    · simp only [h6, decide_true, Bool.true_and]
      rw [callL_code g_bag_settle (by simp)]; simp -implicitDefEqProofs (maxSteps := 4000000) (disch := omega) only [c_bag_settle, r_bag_settle, getDT, go_sem, *] /-A7-/
    · simp only [h6, decide_false, Bool.false_and]
      rw [callL_code g_bag_settle (by simp)]; simp -implicitDefEqProofs (maxSteps := 4000000) (disch := omega) only [c_bag_settle, r_bag_settle, getDT, go_sem, *] /-A8-/
def relI (lim : Int) (x : Item) : Item := ⟨x.id, if x.count ≥ lim then 3 else 1, x.count, x.gen, x.route, 0⟩
def dlI (d : Int) (x : Item) : Item := ⟨x.id, x.state, x.count, x.gen, x.route, d⟩
theorem set_ack (n a e : Int) (l : List Item) (v : Event) (g : Grant) (i : Nat) (hi : i < l.length) (hL : l.length ≤ 4294967296) (hv : v.l = [g]) (hg : bVal ⟨n, a, e, l⟩ g = true) (he : v.err = 0) (hx : bIx l g.id = i) (hk : v.kind = 4) : callL G N_bag_settle [.ref 1000000 0 0, .d (eEvent v)] (bN n a e l) = some (.d (.bool true), bN n a e (l.set i (goneI l[i]))) := by
  have hb := bvalid_ok ⟨n, a, e, l⟩ g hL
  rw [hg] at hb
  have hd := bindex_ok ⟨n, a, e, l⟩ g.id hL
  simp only [hx] at hd
  clear hg hx
  have hs : ∀ X, (((l.map eItem).set i X).map AV.d)[i]? = some (.d X) := by intro X; rw [List.getElem?_map, List.getElem?_set_self (by rw [List.length_map]; exact hi)]; rfl
  simp only [bN, eEvent, hv, eBag, eGrant, List.map_cons, List.map_nil, List.length_set, List.map_set] at hb hd ⊢
  simp only [eItem, goneI]
  rw [callL_code g_bag_settle (by simp)]; simp -implicitDefEqProofs (maxSteps := 4000000) (disch := omega) only [c_bag_settle, r_bag_settle, hs, List.set_set, getDT, go_sem, *] /-A9-/
theorem set_nack (n a e : Int) (l : List Item) (v : Event) (g : Grant) (i : Nat) (hi : i < l.length) (hL : l.length ≤ 4294967296) (hv : v.l = [g]) (hg : bVal ⟨n, a, e, l⟩ g = true) (he : v.err = 0) (hx : bIx l g.id = i) (hk : v.kind = 5) : callL G N_bag_settle [.ref 1000000 0 0, .d (eEvent v)] (bN n a e l) = some (.d (.bool true), bN n a e (l.set i (relI n l[i]))) := by
  have hb := bvalid_ok ⟨n, a, e, l⟩ g hL
  rw [hg] at hb
  have hd := bindex_ok ⟨n, a, e, l⟩ g.id hL
  simp only [hx] at hd
  have hk2 := back_at l n a e n i hi
  unfold relI
  clear hg hx
  generalize hz : (⟨l[i].id, if l[i].count ≥ n then 3 else 1, l[i].count, l[i].gen, l[i].route, 0⟩ : Item) = z at *
  clear hz
  simp only [bN, eEvent, hv, eBag, eGrant, List.map_cons, List.map_nil, List.length_set, List.map_set] at hb hd hk2 ⊢
  rw [callL_code g_bag_settle (by simp)]; simp -implicitDefEqProofs (maxSteps := 4000000) (disch := omega) only [c_bag_settle, r_bag_settle, getDT, go_sem, *] /-A10-/
theorem set_chg (n a e : Int) (l : List Item) (v : Event) (g : Grant) (i : Nat) (hi : i < l.length) (hL : l.length ≤ 4294967296) (hv : v.l = [g]) (hg : bVal ⟨n, a, e, l⟩ g = true) (he : v.err = 0) (hx : bIx l g.id = i) (hk : v.kind = 6) (hd : a ≤ g.deadline) : callL G N_bag_settle [.ref 1000000 0 0, .d (eEvent v)] (bN n a e l) = some (.d (.bool true), bN n a e (l.set i (dlI g.deadline l[i]))) := by
  have hb := bvalid_ok ⟨n, a, e, l⟩ g hL
  rw [hg] at hb
  have hd := bindex_ok ⟨n, a, e, l⟩ g.id hL
  simp only [hx] at hd
  clear hg hx
  simp only [bN, eEvent, hv, eBag, eGrant, List.map_cons, List.map_nil, List.length_set, List.map_set] at hb hd ⊢
  simp only [eItem, dlI]
  rw [callL_code g_bag_settle (by simp)]; simp -implicitDefEqProofs (maxSteps := 4000000) (disch := omega) only [c_bag_settle, r_bag_settle, getDT, go_sem, *] /-A11-/
theorem set_chg_no (n a e : Int) (l : List Item) (v : Event) (g : Grant) (i : Nat) (hi : i < l.length) (hL : l.length ≤ 4294967296) (hv : v.l = [g]) (hg : bVal ⟨n, a, e, l⟩ g = true) (he : v.err = 0) (hx : bIx l g.id = i) (hk : v.kind = 6) (hd : ¬ a ≤ g.deadline) : callL G N_bag_settle [.ref 1000000 0 0, .d (eEvent v)] (bN n a e l) = some (.d (.bool false), bN n a e l) := by
  have hb := bvalid_ok ⟨n, a, e, l⟩ g hL
  rw [hg] at hb
  have hd := bindex_ok ⟨n, a, e, l⟩ g.id hL
  simp only [hx] at hd
  clear hg hx
  simp only [bN, eEvent, hv, eBag, eGrant, List.map_cons, List.map_nil, List.length_set, List.map_set] at hb hd ⊢
  rw [callL_code g_bag_settle (by simp)]; simp -implicitDefEqProofs (maxSteps := 4000000) (disch := omega) only [c_bag_settle, r_bag_settle, getDT, go_sem, *] /-A12-/
theorem setZ (n a e : Int) (v : Event) : callL G N_bag_settle [.ref 1000000 0 0, .d (eEvent v)] (bZ n a e) = some (.d (.bool (decide (v.err = 5) && decide (v.l.length ≤ 1))), bZ n a e) := by
  have hcase : v.l = [] ∨ (∃ g, v.l = [g]) ∨ ∃ g h r, v.l = g :: h :: r := by
    rcases v.l with _ | ⟨g, _ | ⟨h, r⟩⟩ <;> simp
  rcases hcase with hv | ⟨g, hv⟩ | ⟨g, h, r, hv⟩
  · simp only [bZ, eEvent, hv, List.length_nil, Nat.zero_le, decide_true, Bool.and_true]
    by_cases h : v.err = 5
    · simp only [h, decide_true]
      rw [callL_code g_bag_settle (by simp)]; simp -implicitDefEqProofs (maxSteps := 4000000) (disch := omega) only [c_bag_settle, r_bag_settle, getDT, go_sem, *] /-A13-/
    · simp only [h, decide_false]
      rw [callL_code g_bag_settle (by simp)]; simp -implicitDefEqProofs (maxSteps := 4000000) (disch := omega) only [c_bag_settle, r_bag_settle, getDT, go_sem, *] /-A14-/
  · have hb := bvalid_ok ⟨n, a, e, []⟩ g (by simp)
    rw [show bVal ⟨n, a, e, []⟩ g = false from rfl] at hb
    simp only [bZ, eEvent, hv, List.length_cons, List.length_nil, Nat.zero_add, Nat.le_refl, decide_true, Bool.and_true, eBag, eGrant, List.map_cons, List.map_nil] at hb ⊢
    by_cases h : v.err = 5
    · simp only [h, decide_true]
      rw [callL_code g_bag_settle (by simp)]; simp -implicitDefEqProofs (maxSteps := 4000000) (disch := omega) only [c_bag_settle, r_bag_settle, getDT, go_sem, *] /-A15-/
    · simp only [h, decide_false]
      rw [callL_code g_bag_settle (by simp)]; simp -implicitDefEqProofs (maxSteps := 4000000) (disch := omega) only [c_bag_settle, r_bag_settle, getDT, go_sem, *] /-A16-/
  · have hl : ¬ (g :: h :: r).length ≤ 1 := by simp
    simp only [bZ, eEvent, hv, hl, decide_false, Bool.and_false]
    by_cases h : v.err = 5
    · simp only [h]
      rw [callL_code g_bag_settle (by simp)]; simp -implicitDefEqProofs (maxSteps := 4000000) (disch := omega) only [c_bag_settle, r_bag_settle, getDT, go_sem, *] /-A17-/
    · rw [callL_code g_bag_settle (by simp)]; simp -implicitDefEqProofs (maxSteps := 4000000) (disch := omega) only [c_bag_settle, r_bag_settle, getDT, go_sem, *] /-A18-/
end Go.Proofs.Ytbkhijigkmhhkaa

namespace Go.Proofs.Ytbkhijigkmhhkaa
open Go Go.Sim
set_option linter.unusedSimpArgs false
set_option linter.unusedVariables false
set_option maxHeartbeats 10000000
set_option maxRecDepth 40000
theorem send_t (n a e : Int) (l : List Item) (v : Event) (h : v.err = 3 ∨ v.err = 6) : callL G N_bag_send [.ref 1000000 0 0, .d (eEvent v)] (bN n a e l) = some (.d (.bool true), bN n a e l) := by
  simp only [bN, eEvent]
  rcases h with h | h
  · rw [callL_code g_bag_send (by simp)]; simp -implicitDefEqProofs (maxSteps := 4000000) (disch := omega) only [c_bag_send, r_bag_send, getDT, go_sem, *] /-A0-/
  · rw [callL_code g_bag_send (by simp)]; simp -implicitDefEqProofs (maxSteps := 4000000) (disch := omega) only [c_bag_send, r_bag_send, getDT, go_sem, *] /-A1-/
theorem sendZ_t (n a e : Int) (v : Event) (h : v.err = 3 ∨ v.err = 6) : callL G N_bag_send [.ref 1000000 0 0, .d (eEvent v)] (bZ n a e) = some (.d (.bool true), bZ n a e) := by
  simp only [bZ, eEvent]
  rcases h with h | h
  · rw [callL_code g_bag_send (by simp)]; simp -implicitDefEqProofs (maxSteps := 4000000) (disch := omega) only [c_bag_send, r_bag_send, getDT, go_sem, *] /-A2-/
  · rw [callL_code g_bag_send (by simp)]; simp -implicitDefEqProofs (maxSteps := 4000000) (disch := omega) only [c_bag_send, r_bag_send, getDT, go_sem, *] /-A3-/
def badS (v : Event) : Prop := v.err ≠ 0 ∨ ¬ ∃ g, v.l = [g] ∧ g.gen = 0
theorem badS_cases {v : Event} (h : badS v) : v.err ≠ 0 ∨ (v.err = 0 ∧ v.l = []) ∨ (v.err = 0 ∧ ∃ g, v.l = [g] ∧ g.gen ≠ 0) ∨ (v.err = 0 ∧ ∃ g h r, v.l = g :: h :: r) := by
  unfold badS at h
  by_cases he : v.err = 0
  · rcases h with h | h
    · exact absurd he h
    · rcases hv : v.l with _ | ⟨g, _ | ⟨h', r⟩⟩
      · exact .inr (.inl ⟨he, rfl⟩)
      · exact .inr (.inr (.inl ⟨he, g, rfl, fun hg => h ⟨g, hv, hg⟩⟩))
      · exact .inr (.inr (.inr ⟨he, g, h', r, rfl⟩))
  · exact .inl he
theorem send_f (n a e : Int) (l : List Item) (v : Event) (h : ¬ (v.err = 3 ∨ v.err = 6)) (hb : badS v) : callL G N_bag_send [.ref 1000000 0 0, .d (eEvent v)] (bN n a e l) = some (.d (.bool false), bN n a e l) := by
  simp only [not_or] at h
  obtain ⟨h3, h6⟩ := h
  simp only [bN, eEvent]
  rcases badS_cases hb with he | ⟨he, hv⟩ | ⟨he, g, hv, hg⟩ | ⟨he, g, h, r, hv⟩
  · clear hb
    rw [callL_code g_bag_send (by simp)]; simp -implicitDefEqProofs (maxSteps := 4000000) (disch := omega) only [c_bag_send, r_bag_send, getDT, go_sem, *] /-A4-/
  · clear hb
    simp only [hv, List.map_nil]
    rw [callL_code g_bag_send (by simp)]; simp -implicitDefEqProofs (maxSteps := 4000000) (disch := omega) only [c_bag_send, r_bag_send, getDT, go_sem, *] /-A5-/
  · clear hb
    simp only [hv, List.map_cons, List.map_nil, eGrant]
    rw [callL_code g_bag_send (by simp)]; simp -implicitDefEqProofs (maxSteps := 4000000) (disch := omega) only [c_bag_send, r_bag_send, getDT, go_sem, *] /-A6-/
  · clear hb
    simp only [hv, List.map_cons]
    rw [callL_code g_bag_send (by simp)]; simp -implicitDefEqProofs (maxSteps := 4000000) (disch := omega) only [c_bag_send, r_bag_send, getDT, go_sem, *] /-A7-/
theorem sendZ_f (n a e : Int) (v : Event) (h : ¬ (v.err = 3 ∨ v.err = 6)) (hb : badS v) : callL G N_bag_send [.ref 1000000 0 0, .d (eEvent v)] (bZ n a e) = some (.d (.bool false), bZ n a e) := by
  simp only [not_or] at h
  obtain ⟨h3, h6⟩ := h
  simp only [bZ, eEvent]
  rcases badS_cases hb with he | ⟨he, hv⟩ | ⟨he, g, hv, hg⟩ | ⟨he, g, h, r, hv⟩
  · clear hb
    rw [callL_code g_bag_send (by simp)]; simp -implicitDefEqProofs (maxSteps := 4000000) (disch := omega) only [c_bag_send, r_bag_send, getDT, go_sem, *] /-A8-/
  · clear hb
    simp only [hv, List.map_nil]
    rw [callL_code g_bag_send (by simp)]; simp -implicitDefEqProofs (maxSteps := 4000000) (disch := omega) only [c_bag_send, r_bag_send, getDT, go_sem, *] /-A9-/
  · clear hb
    simp only [hv, List.map_cons, List.map_nil, eGrant]
    rw [callL_code g_bag_send (by simp)]; simp -implicitDefEqProofs (maxSteps := 4000000) (disch := omega) only [c_bag_send, r_bag_send, getDT, go_sem, *] /-A10-/
  · clear hb
    simp only [hv, List.map_cons]
    rw [callL_code g_bag_send (by simp)]; simp -implicitDefEqProofs (maxSteps := 4000000) (disch := omega) only [c_bag_send, r_bag_send, getDT, go_sem, *] /-A11-/
theorem send_dup (n a e : Int) (l : List Item) (v : Event) (g : Grant) (hL : l.length ≤ 4294967296) (he : v.err = 0) (hv : v.l = [g]) (hg : g.gen = 0) (i : Nat) (hx : bIx l g.id = i) : callL G N_bag_send [.ref 1000000 0 0, .d (eEvent v)] (bN n a e l) = some (.d (.bool false), bN n a e l) := by
  have hd := bindex_ok ⟨n, a, e, l⟩ g.id hL
  simp only [hx] at hd
  clear hx
  simp only [bN, eEvent, hv, eBag, eGrant, List.map_cons, List.map_nil] at hd ⊢
  rw [callL_code g_bag_send (by simp)]; simp -implicitDefEqProofs (maxSteps := 4000000) (disch := omega) only [c_bag_send, r_bag_send, getDT, go_sem, *] /-A12-/
theorem send1_ok (x : Item) (id : Int) : callL G N_bag_send_1 [.d (eItem x), .d (.pd (.int .i64 id))] [] = some (.d (.bool (decide (id < x.id))), []) := by
  simp only [eItem]
  rw [callL_code g_bag_send_1 (by simp)]; simp -implicitDefEqProofs (maxSteps := 4000000) (disch := omega) only [c_bag_send_1, r_bag_send_1, getDT, go_sem, *] /-A13-/
def posI (l : List Item) (id : Int) : Nat := if idxI (fun x => decide (id < x.id)) l < 0 then l.length else (idxI (fun x => decide (id < x.id)) l).toNat
theorem posI_le (l : List Item) (id : Int) : posI l id ≤ l.length := by
  have := idxI_lt l fun x => decide (id < x.id)
  unfold posI; split <;> omega
def insB (l : List Item) (g : Grant) : List Item := l.take (posI l g.id) ++ [⟨g.id, 1, 0, 0, g.route, 0⟩] ++ l.drop (posI l g.id)
theorem send_ok (n a e : Int) (l : List Item) (v : Event) (g : Grant) (h0 : l ≠ []) (hL : l.length + 1 ≤ 4294967296) (he : v.err = 0) (hv : v.l = [g]) (hg : g.gen = 0) (hx : bIx l g.id = -1) : callL G N_bag_send [.ref 1000000 0 0, .d (eEvent v)] (bN n a e l) = some (.d (.bool true), [(1000000, .row [.d (eBag ⟨n, a, e, insB l g⟩)]), (1000001, .frz none)]) := by
  have hd := bindex_ok ⟨n, a, e, l⟩ g.id (by simp only; omega)
  simp only [hx] at hd
  have hi := idx_api_Item l N_bag_send_1 [.pd (.int .i64 g.id)] (fun x => decide (g.id < x.id)) (by omega) (fun a _ => send1_ok a g.id)
  have hp := posI_le l g.id
  have hc := ins_call g_slices_Insert_api_Item (l.map eItem) (eItem ⟨g.id, 1, 0, 0, g.route, 0⟩) (posI l g.id) (by simpa using h0) (by simpa using hp) (by
    intro x hx
    simp only [List.mem_cons, List.mem_map] at hx
    rcases hx with rfl | ⟨y, _, rfl⟩ <;> rfl) (by rw [List.length_map]; omega)
  rw [← List.map_take, ← List.map_drop, show [eItem (⟨g.id, 1, 0, 0, g.route, 0⟩ : Item)] = [(⟨g.id, 1, 0, 0, g.route, 0⟩ : Item)].map eItem from rfl, ← List.map_append, ← List.map_append] at hc
  unfold posI at hc
  unfold insB posI
  have hq := idxI_lt l fun x => decide (g.id < x.id)
  clear hx hp
  generalize idxI (fun x => decide (g.id < x.id)) l = q at *
  by_cases hq0 : q < 0
  · rw [if_pos hq0] at hc ⊢
    generalize (l.take l.length ++ [(⟨g.id, 1, 0, 0, g.route, 0⟩ : Item)] ++ l.drop l.length) = z at *
    simp only [bN, eEvent, hv, eBag, eGrant, List.map_cons, List.map_nil, List.length_map, eItem] at hd hc hi ⊢
    rw [callL_code g_bag_send (by simp)]; simp -implicitDefEqProofs (maxSteps := 4000000) (disch := omega) only [c_bag_send, r_bag_send, eItem, getDT, go_sem, *] /-A14-/
  · rw [if_neg hq0] at hc ⊢
    obtain ⟨k, rfl⟩ : ∃ k : Nat, q = k := ⟨q.toNat, by omega⟩
    rw [Int.toNat_natCast] at hc ⊢
    generalize (l.take k ++ [(⟨g.id, 1, 0, 0, g.route, 0⟩ : Item)] ++ l.drop k) = z at *
    simp only [bN, eEvent, hv, eBag, eGrant, List.map_cons, List.map_nil, List.length_map, eItem] at hd hc hi ⊢
    rw [callL_code g_bag_send (by simp)]; simp -implicitDefEqProofs (maxSteps := 4000000) (disch := omega) only [c_bag_send, r_bag_send, eItem, getDT, go_sem, *] /-A15-/
theorem sendZ_ok (n a e : Int) (v : Event) (g : Grant) (he : v.err = 0) (hv : v.l = [g]) (hg : g.gen = 0) : callL G N_bag_send [.ref 1000000 0 0, .d (eEvent v)] (bZ n a e) = some (.d (.bool true), [(1000000, .row [.d (eBag ⟨n, a, e, insB [] g⟩)])]) := by
  have hd := bindex_ok ⟨n, a, e, []⟩ g.id (by simp)
  simp only [show bIx [] g.id = -1 from rfl] at hd
  have hi := idx_api_Item [] N_bag_send_1 [.pd (.int .i64 g.id)] (fun x => decide (g.id < x.id)) (by simp) (fun a _ => send1_ok a g.id)
  simp only [show idxI (fun x : Item => decide (g.id < x.id)) [] = -1 from rfl] at hi
  have hc := ins_call0 g_slices_Insert_api_Item (eItem ⟨g.id, 1, 0, 0, g.route, 0⟩) rfl
  rw [show insB [] g = [(⟨g.id, 1, 0, 0, g.route, 0⟩ : Item)] from rfl]
  simp only [bZ, eEvent, hv, eBag, eGrant, List.map_cons, List.map_nil, eItem] at hd hc hi ⊢
  rw [callL_code g_bag_send (by simp)]; simp -implicitDefEqProofs (maxSteps := 4000000) (disch := omega) only [c_bag_send, r_bag_send, getDT, go_sem, *] /-A16-/
end Go.Proofs.Ytbkhijigkmhhkaa

namespace Go.Proofs.Ytbkhijigkmhhkaa
open Go Go.Sim
set_option linter.unusedSimpArgs false
set_option linter.unusedVariables false
set_option maxHeartbeats 10000000
set_option maxRecDepth 40000
def eachF (chg : Item → Grant → Option Item) : List Int → List Grant → List Item → Nat × List Item
  | _, [], l => (2, l)
  | seen, g :: gs, l =>
    if h : 0 ≤ bIx l g.id ∧ g.id ∉ seen then
      match chg (l.getD (bIx l g.id).toNat zItem) g with
      | none => (1, l)
      | some y => eachF chg (seen ++ [g.id]) gs (l.set (bIx l g.id).toNat y)
    else (0, l)
def cloC (n a e : Int) (l : List Item) : Heap := [(1000000, .row ((l.map eItem).map .d)), (1000001, .row [.ref 1000002 0 0]), (1000002, .row [.agg [.d (.int .i64 n), .d (.int .i64 a), .d (.int .i64 e), .osl 1000000 0 l.length]])]
def pI (x : Item) : Prop := -4294967296 ≤ x.gen ∧ x.gen ≤ 4294967296 ∧ -4294967296 ≤ x.count ∧ x.count ≤ 4294967296
def pG (g : Grant) : Prop := -4294967296 ≤ g.gen ∧ g.gen ≤ 4294967296
def KeepP (chg : Item → Grant → Option Item) : Prop := ∀ x g y, pI x → pG g → chg x g = some y → pI y
def CloOK (f : Nat) (n a e : Int) (chg : Item → Grant → Option Item) : Prop := ∀ (l : List Item) (i : Nat) (hi : i < l.length) (g : Grant), pI l[i] → pG g → callL G f [.ref 1000000 i 0, .d (eGrant g), .ref 1000001 0 0] (cloC n a e l) = some (.d (.bool (chg l[i] g).isSome), cloC n a e (l.set i ((chg l[i] g).getD l[i])))
def esS (f : Nat) (n a e : Int) (gs : List Grant) (t : Nat × List Item × List Int) : St := ⟨[(0, .ref 1000000 0 0), (2, .fn f [.ref 1000001 0 0]), (7, .mpr 11), (12, .d (.sl (gs.map eGrant))), (13, .d (.int .i64 gs.length)), (14, .d (.int .i64 t.1)), (1000000, .ref 1000000 1 0), (1000001, .ref 1000001 1 0), (1000002, .ref 1000002 1 0)],
  [(11, .mp (seenM t.2.2)), (1000000, .row [.agg [.d (.int .i64 n), .d (.int .i64 a), .d (.int .i64 e), .osl 1000002 0 t.2.1.length]]), (1000001, .row [.ref 1000000 0 0]), (1000002, .row ((t.2.1.map eItem).map .d))]⟩
def eachH (n a e : Int) (l : List Item) : Heap := [(1000000, .row [.agg [.d (.int .i64 n), .d (.int .i64 a), .d (.int .i64 e), .osl 1000002 0 l.length]]), (1000001, .row [.ref 1000000 0 0]), (1000002, .row ((l.map eItem).map .d))]
def gE : Env := [(1000000, .ref 1000000 1 0), (1000001, .ref 1000001 1 0), (1000002, .ref 1000002 1 0)]
def eachR (n a e : Int) (r : Nat × List Item) : AExit × St := if r.1 = 2 then (.exit 0, ⟨gE, eachH n a e r.2⟩) else (.ret, ⟨(6, .d (.bool false)) :: gE, if r.1 = 1 then (eachH n a e r.2).reverse else eachH n a e r.2⟩)
theorem each_loop (f : Nat) (n a e : Int) (chg : Item → Grant → Option Item) (hf : CloOK f n a e chg) (hk0 : KeepP chg) (gs : List Grant) (hG : gs.length ≤ 4294967296) (hgs : ∀ g ∈ gs, pG g) : ∀ t : Nat × List Item × List Int, t.1 ≤ gs.length ∧ t.2.1.length ≤ 4294967296 ∧ (∀ x ∈ t.2.1, pI x) → loopL G [] l_bag_each_0 (esS f n a e gs t) = some (eachR n a e (eachF chg t.2.2 (gs.drop t.1) t.2.1)) := by
  refine loop_ind (fun t => gs.length - t.1) (fun t => t.1 ≤ gs.length ∧ t.2.1.length ≤ 4294967296 ∧ (∀ x ∈ t.2.1, pI x)) (esS f n a e gs) (fun t => some (eachR n a e (eachF chg t.2.2 (gs.drop t.1) t.2.1))) ?_
  rintro ⟨k, l, seen⟩ ⟨hk, hL, hP⟩ L ih
  simp only at hk hL hP ⊢
  by_cases h0 : k < gs.length
  · have hd := bindex_ok ⟨n, a, e, l⟩ gs[k].id hL
    rw [List.drop_eq_getElem_cons h0]
    unfold eachF
    have hm := mget_seen gs[k].id seen
    by_cases h1 : 0 ≤ bIx l gs[k].id ∧ gs[k].id ∉ seen
    · rw [dif_pos h1]
      obtain ⟨h1, h2⟩ := h1
      obtain ⟨i, hi⟩ : ∃ i : Nat, bIx l gs[k].id = i := ⟨(bIx l gs[k].id).toNat, by omega⟩
      obtain ⟨h3, -⟩ := bF_ix hi
      rw [hi] at hd ⊢
      have hgd : l.getD i zItem = l[i] := by simp [List.getD_eq_getElem?_getD, h3]
      rw [Int.toNat_natCast, hgd]
      clear hgd
      rw [if_neg h2] at hm
      have hpx := hP _ (List.getElem_mem h3)
      have hpg := hgs _ (List.getElem_mem h0)
      have hc := hf l i h3 gs[k] hpx hpg
      cases hy : chg l[i] gs[k] with
      | none =>
        rw [hy] at hc
        simp only [Option.isSome_none, Option.getD_none, List.set_getElem_self] at hc
        clear ih hf hi hy h1 h2 hpx hpg hP hgs hk0
        simp only [esS, eachR, eachH, gE, l_bag_each_0, cloC, eBag, if_false, if_true, show ¬ ((1 : Nat) = 2) by decide, List.reverse_cons, List.reverse_nil, List.nil_append, List.cons_append] at hc hd ⊢
        simp -implicitDefEqProofs (maxSteps := 4000000) (disch := omega) only [getDT, go_sem, *] /-A0-/
      | some y =>
        rw [hy] at hc
        simp only [Option.isSome_some, Option.getD_some] at hc
        have i1 := ih (k + 1, l.set i y, seen ++ [gs[k].id]) ⟨by simp only; omega, by simp only [List.length_set]; exact hL, fun x hx => by rcases List.mem_or_eq_of_mem_set hx with hx | rfl; exact hP x hx; exact hk0 _ _ _ hpx hpg hy⟩ (by simp only; omega)
        rw [esS, seenM_snoc] at i1
        clear ih hf hi hy h1 h2 hpx hpg hP hgs hk0
        simp only at i1 ⊢
        generalize eachR n a e _ = w at *
        simp only [esS, l_bag_each_0, cloC, eBag, List.length_set] at i1 hc hd ⊢
        simp only [Int.natCast_add, Int.natCast_one, Int.natCast_zero, Int.natCast_mul, Int.cast_ofNat_Int, List.length_append, List.length_map, List.map_nil, List.length_nil, List.map_append, List.map_cons, List.length_cons, Nat.zero_add, srcO, mapSet] at i1
        simp -implicitDefEqProofs (maxSteps := 4000000) (disch := omega) only [getDT, go_sem, *] /-A1-/
    · rw [dif_neg h1]
      clear ih hf hP hgs hk0
      by_cases h2 : 0 ≤ bIx l gs[k].id
      · have h3 : gs[k].id ∈ seen := Classical.byContradiction fun h => h1 ⟨h2, h⟩
        rw [if_pos h3] at hm
        clear h1 h3
        generalize bIx l gs[k].id = q at *
        simp only [esS, eachR, eachH, gE, l_bag_each_0, eBag, if_false, show ¬ ((0 : Nat) = 2) by decide, show ¬ ((0 : Nat) = 1) by decide] at hd ⊢
        simp -implicitDefEqProofs (maxSteps := 4000000) (disch := omega) only [eGrant, getDT, go_sem, *] /-A2-/
      · clear h1 hm
        generalize bIx l gs[k].id = q at *
        simp only [esS, eachR, eachH, gE, l_bag_each_0, eBag, if_false, show ¬ ((0 : Nat) = 2) by decide, show ¬ ((0 : Nat) = 1) by decide] at hd ⊢
        simp -implicitDefEqProofs (maxSteps := 4000000) (disch := omega) only [eGrant, getDT, go_sem, *] /-A3-/
  · clear ih
    rw [List.drop_eq_nil_of_le (by omega)]
    unfold eachF
    simp only [esS, eachR, eachH, gE, l_bag_each_0, if_true]
    simp -implicitDefEqProofs (maxSteps := 4000000) (disch := omega) only [getDT, go_sem, *] /-A4-/
theorem each_ok (f : Nat) (n a e : Int) (chg : Item → Grant → Option Item) (hf : CloOK f n a e chg) (hk0 : KeepP chg) (gs : List Grant) (l : List Item) (hG : gs.length ≤ 4294967296) (hgs : ∀ g ∈ gs, pG g) (hL : l.length ≤ 4294967296) (hP : ∀ x ∈ l, pI x) :
    callL G N_bag_each [.ref 1000000 0 0, .d (.sl (gs.map eGrant)), .fn f [.ref 1000001 0 0]] (eachH n a e l) = some (.d (.bool (decide ((eachF chg [] gs l).1 = 2))), eachH n a e (eachF chg [] gs l).2) := by
  have hl := each_loop f n a e chg hf hk0 gs hG hgs (0, l, []) ⟨Nat.zero_le _, hL, hP⟩
  simp only [List.drop_zero] at hl
  generalize eachF chg [] gs l = r at *
  obtain ⟨b, z⟩ := r
  clear hf hk0 hgs hP
  simp only at hl ⊢
  by_cases hb : b = 2
  · subst hb
    simp only [esS, eachR, eachH, gE, seenM, List.foldl_nil, if_true, Int.natCast_zero] at hl ⊢
    simp only [decide_true]
    rw [callL_code g_bag_each (by simp)]; simp -implicitDefEqProofs (maxSteps := 4000000) (disch := omega) only [c_bag_each, r_bag_each, getDT, go_sem, *] /-A5-/
  · by_cases hb1 : b = 1
    · subst hb1
      simp only [esS, eachR, eachH, gE, seenM, List.foldl_nil, if_true, if_false, Int.natCast_zero, show ¬ ((1 : Nat) = 2) by decide, List.reverse_cons, List.reverse_nil, List.nil_append, List.cons_append, decide_false] at hl ⊢
      rw [callL_code g_bag_each (by simp)]; simp -implicitDefEqProofs (maxSteps := 4000000) (disch := omega) only [c_bag_each, r_bag_each, getDT, go_sem, *] /-A6-/
    · simp only [esS, eachR, eachH, gE, seenM, List.foldl_nil, hb, hb1, if_false, Int.natCast_zero, decide_false] at hl ⊢
      rw [callL_code g_bag_each (by simp)]; simp -implicitDefEqProofs (maxSteps := 4000000) (disch := omega) only [c_bag_each, r_bag_each, getDT, go_sem, *] /-A7-/
end Go.Proofs.Ytbkhijigkmhhkaa

namespace Go.Proofs.Ytbkhijigkmhhkaa
open Go Go.Sim
set_option linter.unusedSimpArgs false
set_option linter.unusedVariables false
set_option maxHeartbeats 10000000
set_option maxRecDepth 40000
def recvC (n a : Int) (x : Item) (g : Grant) : Option Item := if x.state ≠ 1 ∨ n ≤ x.count ∨ g.gen ≠ x.gen + 1 ∨ g.deadline < a then none else some ⟨x.id, 2, x.count + 1, g.gen, g.route, g.deadline⟩
def exprC (n a : Int) (x : Item) (_ : Grant) : Option Item := if x.state ≠ 2 ∨ a < x.deadline then none else some (relI n x)
theorem recv_keep {n a : Int} (hn : n ≤ 1000) : KeepP (recvC n a) := by
  intro x g y hx hg h
  unfold recvC at h
  split at h
  · cases h
  · rename_i hc
    cases h
    simp only [not_or] at hc
    obtain ⟨h1, h2, h3, h4⟩ := hx
    exact ⟨hg.1, hg.2, by simp only; omega, by simp only; omega⟩
theorem expr_keep {n a : Int} : KeepP (exprC n a) := by
  intro x g y hx hg h
  unfold exprC at h
  split at h
  · cases h
  · cases h; exact hx
theorem recv_clo (n a e : Int) (hn : n ≤ 1000) : CloOK N_bag_receive_1 n a e (recvC n a) := by
  intro l i hi g hx hg
  obtain ⟨h1, h2, h3, h4⟩ := hx
  obtain ⟨h5, h6⟩ := hg
  have hf := follows_ok l[i].gen g.gen h1 h2 h5 h6
  unfold recvC
  by_cases c1 : l[i].state = 1
  · by_cases c2 : n ≤ l[i].count
    · simp only [c1, c2, ne_eq, not_true_eq_false, false_or, true_or, if_true, Option.isSome_none, Option.getD_none, List.set_getElem_self]
      clear hf
      simp only [cloC, eGrant]
      rw [callL_code g_bag_receive_1 (by simp)]; simp -implicitDefEqProofs (maxSteps := 4000000) (disch := omega) only [c_bag_receive_1, r_bag_receive_1, eItem, getDT, go_sem, *] /-A0-/
    · by_cases c3 : g.gen = l[i].gen + 1
      · rw [decide_eq_true c3] at hf
        by_cases c4 : g.deadline < a
        · simp only [c1, c2, c3, c4, ne_eq, not_true_eq_false, false_or, true_or, or_true, if_true, Option.isSome_none, Option.getD_none, List.set_getElem_self]
          simp only [c3] at hf
          simp only [cloC, eGrant]
          rw [callL_code g_bag_receive_1 (by simp)]; simp -implicitDefEqProofs (maxSteps := 4000000) (disch := omega) only [c_bag_receive_1, r_bag_receive_1, eItem, getDT, go_sem, *] /-A1-/
        · simp only [c1, c2, c3, c4, ne_eq, not_true_eq_false, or_self, if_false, Option.isSome_some, Option.getD_some]
          simp only [c3] at hf
          simp only [cloC, eGrant, List.map_set, List.length_set]
          rw [callL_code g_bag_receive_1 (by simp)]; simp -implicitDefEqProofs (maxSteps := 4000000) (disch := omega) only [c_bag_receive_1, r_bag_receive_1, eItem, getDT, go_sem, *] /-A2-/
      · rw [decide_eq_false c3] at hf
        simp only [c1, c2, c3, ne_eq, not_true_eq_false, not_false_eq_true, false_or, true_or, if_true, Option.isSome_none, Option.getD_none, List.set_getElem_self]
        simp only [cloC, eGrant]
        rw [callL_code g_bag_receive_1 (by simp)]; simp -implicitDefEqProofs (maxSteps := 4000000) (disch := omega) only [c_bag_receive_1, r_bag_receive_1, eItem, getDT, go_sem, *] /-A3-/
  · simp only [c1, ne_eq, not_false_eq_true, true_or, if_true, Option.isSome_none, Option.getD_none, List.set_getElem_self]
    clear hf
    simp only [cloC, eGrant]
    rw [callL_code g_bag_receive_1 (by simp)]; simp -implicitDefEqProofs (maxSteps := 4000000) (disch := omega) only [c_bag_receive_1, r_bag_receive_1, eItem, getDT, go_sem, *] /-A4-/
theorem expr_clo (n a e : Int) : CloOK N_bag_expire_1 n a e (exprC n a) := by
  intro l i hi g hx hg
  have hk2 := back_at l n a e n i hi
  unfold exprC relI
  by_cases c1 : l[i].state = 2
  · by_cases c2 : a < l[i].deadline
    · simp only [c1, c2, ne_eq, not_true_eq_false, false_or, if_true, Option.isSome_none, Option.getD_none, List.set_getElem_self]
      clear hk2
      simp only [cloC, eGrant]
      rw [callL_code g_bag_expire_1 (by simp)]; simp -implicitDefEqProofs (maxSteps := 4000000) (disch := omega) only [c_bag_expire_1, r_bag_expire_1, eItem, getDT, go_sem, *] /-A5-/
    · simp only [c1, c2, ne_eq, not_true_eq_false, or_self, if_false, Option.isSome_some, Option.getD_some]
      generalize hz : (⟨l[i].id, if l[i].count ≥ n then 3 else 1, l[i].count, l[i].gen, l[i].route, 0⟩ : Item) = z at *
      clear hz
      simp only [cloC, eGrant, List.map_set, List.length_set] at hk2 ⊢
      rw [callL_code g_bag_expire_1 (by simp)]; simp -implicitDefEqProofs (maxSteps := 4000000) (disch := omega) only [c_bag_expire_1, r_bag_expire_1, eItem, getDT, go_sem, *] /-A6-/
  · simp only [c1, ne_eq, not_false_eq_true, true_or, if_true, Option.isSome_none, Option.getD_none, List.set_getElem_self]
    clear hk2
    simp only [cloC, eGrant]
    rw [callL_code g_bag_expire_1 (by simp)]; simp -implicitDefEqProofs (maxSteps := 4000000) (disch := omega) only [c_bag_expire_1, r_bag_expire_1, eItem, getDT, go_sem, *] /-A7-/
theorem receive_ok (n a e : Int) (l : List Item) (v : Event) (hn : n ≤ 1000) (hG : v.l.length ≤ 4294967296) (hgs : ∀ g ∈ v.l, pG g) (hL : l.length ≤ 4294967296) (hP : ∀ x ∈ l, pI x) (he : v.err = 0) :
    callL G N_bag_receive [.ref 1000000 0 0, .d (eEvent v)] (bN n a e l) = some (.d (.bool (decide ((eachF (recvC n a) [] v.l l).1 = 2))), bN n a e (eachF (recvC n a) [] v.l l).2) := by
  have h := each_ok N_bag_receive_1 n a e (recvC n a) (recv_clo n a e hn) (recv_keep hn) v.l l hG hgs hL hP
  generalize eachF (recvC n a) [] v.l l = r at *
  generalize decide (r.1 = 2) = q at *
  clear hgs hP
  simp only [bN, eachH, eEvent] at h ⊢
  rw [callL_code g_bag_receive (by simp)]; simp -implicitDefEqProofs (maxSteps := 4000000) (disch := omega) only [c_bag_receive, r_bag_receive, getDT, go_sem, *] /-A8-/
theorem receive_no (n a e : Int) (l : List Item) (v : Event) (he : v.err ≠ 0) :
    callL G N_bag_receive [.ref 1000000 0 0, .d (eEvent v)] (bN n a e l) = some (.d (.bool (decide (v.err = 6))), bN n a e l) := by
  simp only [bN, eEvent]
  rw [callL_code g_bag_receive (by simp)]; simp -implicitDefEqProofs (maxSteps := 4000000) (disch := omega) only [c_bag_receive, r_bag_receive, getDT, go_sem, *] /-A9-/
theorem expire_ok (n a e : Int) (l : List Item) (v : Event) (hG : v.l.length ≤ 4294967296) (hgs : ∀ g ∈ v.l, pG g) (hL : l.length ≤ 4294967296) (hP : ∀ x ∈ l, pI x) (he : v.err = 0) :
    callL G N_bag_expire [.ref 1000000 0 0, .d (eEvent v)] (bN n a e l) = some (.d (.bool (decide ((eachF (exprC n a) [] v.l l).1 = 2))), bN n a e (eachF (exprC n a) [] v.l l).2) := by
  have h := each_ok N_bag_expire_1 n a e (exprC n a) (expr_clo n a e) expr_keep v.l l hG hgs hL hP
  generalize eachF (exprC n a) [] v.l l = r at *
  generalize decide (r.1 = 2) = q at *
  clear hgs hP
  simp only [bN, eachH, eEvent] at h ⊢
  rw [callL_code g_bag_expire (by simp)]; simp -implicitDefEqProofs (maxSteps := 4000000) (disch := omega) only [c_bag_expire, r_bag_expire, getDT, go_sem, *] /-A10-/
theorem expire_no (n a e : Int) (l : List Item) (v : Event) (he : v.err ≠ 0) :
    callL G N_bag_expire [.ref 1000000 0 0, .d (eEvent v)] (bN n a e l) = some (.d (.bool false), bN n a e l) := by
  simp only [bN, eEvent]
  rw [callL_code g_bag_expire (by simp)]; simp -implicitDefEqProofs (maxSteps := 4000000) (disch := omega) only [c_bag_expire, r_bag_expire, getDT, go_sem, *] /-A11-/
end Go.Proofs.Ytbkhijigkmhhkaa

namespace Go.Proofs.Ytbkhijigkmhhkaa
open Go Go.Sim
set_option linter.unusedSimpArgs false
set_option linter.unusedVariables false
set_option maxHeartbeats 10000000
set_option maxRecDepth 40000
def redrC (x : Item) (g : Grant) : Option Item := if x.state ≠ 3 ∨ x.gen ≠ g.gen then none else some ⟨x.id, 1, 0, x.gen, g.route, x.deadline⟩
theorem redr_keep : KeepP redrC := by
  intro x g y hx hg h
  unfold redrC at h
  split at h
  · cases h
  · cases h
    exact ⟨hx.1, hx.2.1, by simp only; omega, by simp only; omega⟩
theorem redr_clo (l : List Item) (i : Nat) (hi : i < l.length) (g : Grant) : callL G N_bag_redrive_1 [.ref 1000000 i 0, .d (eGrant g)] [(1000000, .row ((l.map eItem).map .d))] = some (.d (.bool (redrC l[i] g).isSome), [(1000000, .row (((l.set i ((redrC l[i] g).getD l[i])).map eItem).map .d))]) := by
  have hs : ∀ X, (((l.map eItem).set i X).map AV.d)[i]? = some (.d X) := by intro X; rw [List.getElem?_map, List.getElem?_set_self (by rw [List.length_map]; exact hi)]; rfl
  unfold redrC
  by_cases c1 : l[i].state = 3
  · by_cases c2 : l[i].gen = g.gen
    · simp only [c1, c2, ne_eq, not_true_eq_false, or_self, if_false, Option.isSome_some, Option.getD_some]
      simp only [eGrant, List.map_set]
      rw [callL_code g_bag_redrive_1 (by simp)]; simp -implicitDefEqProofs (maxSteps := 4000000) (disch := omega) only [c_bag_redrive_1, r_bag_redrive_1, eItem, hs, List.set_set, getDT, go_sem, *] /-A0-/
    · simp only [c1, c2, ne_eq, not_true_eq_false, not_false_eq_true, false_or, if_true, Option.isSome_none, Option.getD_none, List.set_getElem_self]
      simp only [eGrant]
      rw [callL_code g_bag_redrive_1 (by simp)]; simp -implicitDefEqProofs (maxSteps := 4000000) (disch := omega) only [c_bag_redrive_1, r_bag_redrive_1, eItem, getDT, go_sem, *] /-A1-/
  · simp only [c1, ne_eq, not_false_eq_true, true_or, if_true, Option.isSome_none, Option.getD_none, List.set_getElem_self]
    simp only [eGrant]
    rw [callL_code g_bag_redrive_1 (by simp)]; simp -implicitDefEqProofs (maxSteps := 4000000) (disch := omega) only [c_bag_redrive_1, r_bag_redrive_1, eItem, getDT, go_sem, *] /-A2-/
def edS (n a e : Int) (gs : List Grant) (t : Nat × List Item × List Int) : St := ⟨[(0, .ref 1000000 0 0), (2, .d (.fn N_bag_redrive_1 [])), (7, .mpr 11), (12, .d (.sl (gs.map eGrant))), (13, .d (.int .i64 gs.length)), (14, .d (.int .i64 t.1)), (1000000, .ref 1000000 1 0), (1000001, .ref 1000001 1 0)],
  (11, .mp (seenM t.2.2)) :: bN n a e t.2.1⟩
def edR (n a e : Int) (r : Nat × List Item) : AExit × St := if r.1 = 2 then (.exit 0, ⟨[(1000000, .ref 1000000 1 0), (1000001, .ref 1000001 1 0)], bN n a e r.2⟩) else (.ret, ⟨[(6, .d (.bool false)), (1000000, .ref 1000000 1 0), (1000001, .ref 1000001 1 0)], if r.1 = 1 then (bN n a e r.2).reverse else bN n a e r.2⟩)
theorem ed_loop (n a e : Int) (gs : List Grant) (hG : gs.length ≤ 4294967296) : ∀ t : Nat × List Item × List Int, t.1 ≤ gs.length ∧ t.2.1.length ≤ 4294967296 → loopL G [] l_bag_each_0 (edS n a e gs t) = some (edR n a e (eachF redrC t.2.2 (gs.drop t.1) t.2.1)) := by
  refine loop_ind (fun t => gs.length - t.1) (fun t => t.1 ≤ gs.length ∧ t.2.1.length ≤ 4294967296) (edS n a e gs) (fun t => some (edR n a e (eachF redrC t.2.2 (gs.drop t.1) t.2.1))) ?_
  rintro ⟨k, l, seen⟩ ⟨hk, hL⟩ L ih
  simp only at hk hL ⊢
  by_cases h0 : k < gs.length
  · have hd := bindex_ok ⟨n, a, e, l⟩ gs[k].id hL
    rw [List.drop_eq_getElem_cons h0]
    unfold eachF
    have hm := mget_seen gs[k].id seen
    by_cases h1 : 0 ≤ bIx l gs[k].id ∧ gs[k].id ∉ seen
    · rw [dif_pos h1]
      obtain ⟨h1, h2⟩ := h1
      obtain ⟨i, hi⟩ : ∃ i : Nat, bIx l gs[k].id = i := ⟨(bIx l gs[k].id).toNat, by omega⟩
      obtain ⟨h3, -⟩ := bF_ix hi
      rw [hi] at hd ⊢
      have hgd : l.getD i zItem = l[i] := by simp [List.getD_eq_getElem?_getD, h3]
      rw [Int.toNat_natCast, hgd]
      clear hgd
      rw [if_neg h2] at hm
      have hc := redr_clo l i h3 gs[k]
      cases hy : redrC l[i] gs[k] with
      | none =>
        rw [hy] at hc
        simp only [Option.isSome_none, Option.getD_none, List.set_getElem_self] at hc
        clear ih hi hy h1 h2
        simp only [edS, edR, bN, l_bag_each_0, eBag, if_false, if_true, show ¬ ((1 : Nat) = 2) by decide, List.reverse_cons, List.reverse_nil, List.nil_append, List.cons_append] at hc hd ⊢
        simp -implicitDefEqProofs (maxSteps := 4000000) (disch := omega) only [getDT, go_sem, *] /-A3-/
      | some y =>
        rw [hy] at hc
        simp only [Option.isSome_some, Option.getD_some] at hc
        have i1 := ih (k + 1, l.set i y, seen ++ [gs[k].id]) ⟨by simp only; omega, by simp only [List.length_set]; exact hL⟩ (by simp only; omega)
        rw [edS, seenM_snoc] at i1
        clear ih hi hy h1 h2
        simp only at i1 ⊢
        generalize edR n a e _ = w at *
        simp only [edS, bN, l_bag_each_0, eBag, List.length_set] at i1 hc hd ⊢
        simp only [Int.natCast_add, Int.natCast_one, Int.natCast_zero, Int.natCast_mul, Int.cast_ofNat_Int, List.length_append, List.length_map, List.map_nil, List.length_nil, List.map_append, List.map_cons, List.length_cons, Nat.zero_add, srcO, mapSet] at i1
        simp -implicitDefEqProofs (maxSteps := 4000000) (disch := omega) only [getDT, go_sem, *] /-A4-/
    · rw [dif_neg h1]
      clear ih
      by_cases h2 : 0 ≤ bIx l gs[k].id
      · have h3 : gs[k].id ∈ seen := Classical.byContradiction fun h => h1 ⟨h2, h⟩
        rw [if_pos h3] at hm
        clear h1 h3
        generalize bIx l gs[k].id = q at *
        simp only [edS, edR, bN, l_bag_each_0, eBag, if_false, show ¬ ((0 : Nat) = 2) by decide, show ¬ ((0 : Nat) = 1) by decide] at hd ⊢
        simp -implicitDefEqProofs (maxSteps := 4000000) (disch := omega) only [eGrant, getDT, go_sem, *] /-A5-/
      · clear h1 hm
        generalize bIx l gs[k].id = q at *
        simp only [edS, edR, bN, l_bag_each_0, eBag, if_false, show ¬ ((0 : Nat) = 2) by decide, show ¬ ((0 : Nat) = 1) by decide] at hd ⊢
        simp -implicitDefEqProofs (maxSteps := 4000000) (disch := omega) only [eGrant, getDT, go_sem, *] /-A6-/
  · clear ih
    rw [List.drop_eq_nil_of_le (by omega)]
    unfold eachF
    simp only [edS, edR, bN, l_bag_each_0, if_true]
    simp -implicitDefEqProofs (maxSteps := 4000000) (disch := omega) only [getDT, go_sem, *] /-A7-/
theorem eachD_ok (n a e : Int) (gs : List Grant) (l : List Item) (hG : gs.length ≤ 4294967296) (hL : l.length ≤ 4294967296) :
    callL G N_bag_each [.ref 1000000 0 0, .d (.sl (gs.map eGrant)), .d (.fn N_bag_redrive_1 [])] (bN n a e l) = some (.d (.bool (decide ((eachF redrC [] gs l).1 = 2))), bN n a e (eachF redrC [] gs l).2) := by
  have hl := ed_loop n a e gs hG (0, l, []) ⟨Nat.zero_le _, hL⟩
  simp only [List.drop_zero] at hl
  generalize eachF redrC [] gs l = r at *
  obtain ⟨b, z⟩ := r
  simp only at hl ⊢
  by_cases hb : b = 2
  · subst hb
    simp only [edS, edR, bN, seenM, List.foldl_nil, if_true, Int.natCast_zero] at hl ⊢
    simp only [decide_true]
    rw [callL_code g_bag_each (by simp)]; simp -implicitDefEqProofs (maxSteps := 4000000) (disch := omega) only [c_bag_each, r_bag_each, getDT, go_sem, *] /-A8-/
  · by_cases hb1 : b = 1
    · subst hb1
      simp only [edS, edR, bN, seenM, List.foldl_nil, if_true, if_false, Int.natCast_zero, show ¬ ((1 : Nat) = 2) by decide, List.reverse_cons, List.reverse_nil, List.nil_append, List.cons_append, decide_false] at hl ⊢
      rw [callL_code g_bag_each (by simp)]; simp -implicitDefEqProofs (maxSteps := 4000000) (disch := omega) only [c_bag_each, r_bag_each, getDT, go_sem, *] /-A9-/
    · simp only [edS, edR, bN, seenM, List.foldl_nil, hb, hb1, if_false, Int.natCast_zero, decide_false] at hl ⊢
      rw [callL_code g_bag_each (by simp)]; simp -implicitDefEqProofs (maxSteps := 4000000) (disch := omega) only [c_bag_each, r_bag_each, getDT, go_sem, *] /-A10-/
theorem redrive_ok (n a e : Int) (l : List Item) (v : Event) (hG : v.l.length ≤ 4294967296) (hL : l.length ≤ 4294967296) (he : v.err = 0) :
    callL G N_bag_redrive [.ref 1000000 0 0, .d (eEvent v)] (bN n a e l) = some (.d (.bool (decide ((eachF redrC [] v.l l).1 = 2))), bN n a e (eachF redrC [] v.l l).2) := by
  have h := eachD_ok n a e v.l l hG hL
  generalize eachF redrC [] v.l l = r at *
  generalize decide (r.1 = 2) = q at *
  simp only [bN, eEvent] at h ⊢
  rw [callL_code g_bag_redrive (by simp)]; simp -implicitDefEqProofs (maxSteps := 4000000) (disch := omega) only [c_bag_redrive, r_bag_redrive, getDT, go_sem, *] /-A11-/
theorem redrive_no (n a e : Int) (l : List Item) (v : Event) (he : v.err ≠ 0) :
    callL G N_bag_redrive [.ref 1000000 0 0, .d (eEvent v)] (bN n a e l) = some (.d (.bool (decide (v.err = 3))), bN n a e l) := by
  simp only [bN, eEvent]
  rw [callL_code g_bag_redrive (by simp)]; simp -implicitDefEqProofs (maxSteps := 4000000) (disch := omega) only [c_bag_redrive, r_bag_redrive, getDT, go_sem, *] /-A12-/
def eachZ (n a e : Int) : Heap := [(1000000, .row [.agg [.d (.int .i64 n), .d (.int .i64 a), .d (.int .i64 e), .xsl []]]), (1000001, .row [.ref 1000000 0 0])]
theorem eachZ_ok (f : Nat) (n a e : Int) (gs : List Grant) (hG : gs.length ≤ 4294967296) :
    callL G N_bag_each [.ref 1000000 0 0, .d (.sl (gs.map eGrant)), .fn f [.ref 1000001 0 0]] (eachZ n a e) = some (.d (.bool gs.isEmpty), eachZ n a e) := by
  cases gs with
  | nil =>
    simp only [eachZ, List.isEmpty_nil, List.map_nil]
    rw [callL_code g_bag_each (by simp)]; simp -implicitDefEqProofs (maxSteps := 4000000) (disch := omega) only [c_bag_each, r_bag_each, loopL_eq, l_bag_each_0, getDT, go_sem, *] /-A13-/
  | cons g r =>
    have hd := bindex_ok ⟨n, a, e, []⟩ g.id (by simp)
    simp only [show bIx [] g.id = -1 from rfl] at hd
    simp only [List.length_cons] at hG
    simp only [eachZ, List.isEmpty_cons, List.map_cons, eBag, List.map_nil] at hd ⊢
    rw [callL_code g_bag_each (by simp)]; simp -implicitDefEqProofs (maxSteps := 4000000) (disch := omega) only [c_bag_each, r_bag_each, loopL_eq, l_bag_each_0, eGrant, getDT, go_sem, *] /-A14-/
theorem eachDZ_ok (n a e : Int) (gs : List Grant) (hG : gs.length ≤ 4294967296) :
    callL G N_bag_each [.ref 1000000 0 0, .d (.sl (gs.map eGrant)), .d (.fn N_bag_redrive_1 [])] (bZ n a e) = some (.d (.bool gs.isEmpty), bZ n a e) := by
  cases gs with
  | nil =>
    simp only [bZ, List.isEmpty_nil, List.map_nil]
    rw [callL_code g_bag_each (by simp)]; simp -implicitDefEqProofs (maxSteps := 4000000) (disch := omega) only [c_bag_each, r_bag_each, loopL_eq, l_bag_each_0, getDT, go_sem, *] /-A15-/
  | cons g r =>
    have hd := bindex_ok ⟨n, a, e, []⟩ g.id (by simp)
    simp only [show bIx [] g.id = -1 from rfl] at hd
    simp only [List.length_cons] at hG
    simp only [bZ, List.isEmpty_cons, List.map_cons, eBag, List.map_nil] at hd ⊢
    rw [callL_code g_bag_each (by simp)]; simp -implicitDefEqProofs (maxSteps := 4000000) (disch := omega) only [c_bag_each, r_bag_each, loopL_eq, l_bag_each_0, eGrant, getDT, go_sem, *] /-A16-/
theorem receiveZ (n a e : Int) (v : Event) (hG : v.l.length ≤ 4294967296) : callL G N_bag_receive [.ref 1000000 0 0, .d (eEvent v)] (bZ n a e) = some (.d (.bool (if v.err = 0 then v.l.isEmpty else decide (v.err = 6))), bZ n a e) := by
  have h := eachZ_ok N_bag_receive_1 n a e v.l hG
  generalize v.l.isEmpty = q at *
  simp only [bZ, eachZ, eEvent] at h ⊢
  by_cases he : v.err = 0
  · simp only [he, if_true]
    rw [callL_code g_bag_receive (by simp)]; simp -implicitDefEqProofs (maxSteps := 4000000) (disch := omega) only [c_bag_receive, r_bag_receive, getDT, go_sem, *] /-A17-/
  · simp only [he, if_false]
    rw [callL_code g_bag_receive (by simp)]; simp -implicitDefEqProofs (maxSteps := 4000000) (disch := omega) only [c_bag_receive, r_bag_receive, getDT, go_sem, *] /-A18-/
theorem expireZ (n a e : Int) (v : Event) (hG : v.l.length ≤ 4294967296) : callL G N_bag_expire [.ref 1000000 0 0, .d (eEvent v)] (bZ n a e) = some (.d (.bool (if v.err = 0 then v.l.isEmpty else false)), bZ n a e) := by
  have h := eachZ_ok N_bag_expire_1 n a e v.l hG
  generalize v.l.isEmpty = q at *
  simp only [bZ, eachZ, eEvent] at h ⊢
  by_cases he : v.err = 0
  · simp only [he, if_true]
    rw [callL_code g_bag_expire (by simp)]; simp -implicitDefEqProofs (maxSteps := 4000000) (disch := omega) only [c_bag_expire, r_bag_expire, getDT, go_sem, *] /-A19-/
  · simp only [he, if_false]
    rw [callL_code g_bag_expire (by simp)]; simp -implicitDefEqProofs (maxSteps := 4000000) (disch := omega) only [c_bag_expire, r_bag_expire, getDT, go_sem, *] /-A20-/
theorem redriveZ (n a e : Int) (v : Event) (hG : v.l.length ≤ 4294967296) : callL G N_bag_redrive [.ref 1000000 0 0, .d (eEvent v)] (bZ n a e) = some (.d (.bool (if v.err = 0 then v.l.isEmpty else decide (v.err = 3))), bZ n a e) := by
  have h := eachDZ_ok n a e v.l hG
  generalize v.l.isEmpty = q at *
  simp only [bZ, eEvent] at h ⊢
  by_cases he : v.err = 0
  · simp only [he, if_true]
    rw [callL_code g_bag_redrive (by simp)]; simp -implicitDefEqProofs (maxSteps := 4000000) (disch := omega) only [c_bag_redrive, r_bag_redrive, getDT, go_sem, *] /-A21-/
  · simp only [he, if_false]
    rw [callL_code g_bag_redrive (by simp)]; simp -implicitDefEqProofs (maxSteps := 4000000) (disch := omega) only [c_bag_redrive, r_bag_redrive, getDT, go_sem, *] /-A22-/
end Go.Proofs.Ytbkhijigkmhhkaa

namespace Go.Proofs.Ytbkhijigkmhhkaa
open Go Go.Sim
set_option linter.unusedSimpArgs false
set_option linter.unusedVariables false
set_option maxHeartbeats 10000000
set_option maxRecDepth 40000
theorem clone_api_Item (es : List D) (hs : allSize 6 es = true) (hL : es.length ≤ 4294967296) : callL G N_slices_Clone_api_Item [.d (.sl es)] [] = some (.acc 0 es, [(0, .acc es.length)]) := by
  cases es with
  | nil =>
    refine callL_nils0 g_slices_Clone_api_Item (by decide) ?_ ?_
    · simp -implicitDefEqProofs only [c_slices_Clone_api_Item, r_slices_Clone_api_Item, go_sem]
    · simp -implicitDefEqProofs only [c_slices_Clone_api_Item, r_slices_Clone_api_Item, Nat.zero_le, go_sem]
  | cons e es =>
    rw [callL_nils g_slices_Clone_api_Item (by simp) (by decide)]
    simp only [allSize_cons] at hs
    simp only [List.length_cons] at hL
    simp -implicitDefEqProofs (maxSteps := 4000000) (disch := omega) only [c_slices_Clone_api_Item, r_slices_Clone_api_Item, go_sem, *]
def cfn (k : Int) : Nat := if k = 1 then N_bag_tick else if k = 2 then N_bag_send else if k = 3 then N_bag_receive else if k = 4 ∨ k = 5 ∨ k = 6 then N_bag_settle else if k = 7 then N_bag_purge else if k = 9 then N_bag_redrive else N_bag_expire
theorem carry_n (n a e n' a' e' : Int) (l l' : List Item) (v : Event) (r : Bool) (h8 : v.kind ≠ 8) (h : callL G (cfn v.kind) [.ref 1000000 0 0, .d (eEvent v)] (bN n a e l) = some (.d (.bool r), bN n' a' e' l')) : callL G N_bag_carry [.ref 1000000 0 0, .d (eEvent v)] (bN n a e l) = some (.d (.bool r), bN n' a' e' l') := by
  by_cases h1 : v.kind = 1
  · simp only [cfn, h1, if_true, bN, eEvent] at h ⊢
    rw [callL_code g_bag_carry (by simp)]; simp -implicitDefEqProofs (maxSteps := 4000000) (disch := omega) only [c_bag_carry, r_bag_carry, getDT, go_sem, *] /-A0-/
  by_cases h2 : v.kind = 2
  · simp only [cfn, h2, if_true, if_false, bN, eEvent, show ¬ ((2 : Int) = 1) by decide] at h ⊢
    rw [callL_code g_bag_carry (by simp)]; simp -implicitDefEqProofs (maxSteps := 4000000) (disch := omega) only [c_bag_carry, r_bag_carry, getDT, go_sem, *] /-A1-/
  by_cases h3 : v.kind = 3
  · simp only [cfn, h3, if_true, if_false, bN, eEvent, show ¬ ((3 : Int) = 1) by decide, show ¬ ((3 : Int) = 2) by decide] at h ⊢
    rw [callL_code g_bag_carry (by simp)]; simp -implicitDefEqProofs (maxSteps := 4000000) (disch := omega) only [c_bag_carry, r_bag_carry, getDT, go_sem, *] /-A2-/
  by_cases h4 : v.kind = 4 ∨ v.kind = 5 ∨ v.kind = 6
  · rw [cfn, if_neg h1, if_neg h2, if_neg h3, if_pos h4] at h
    simp only [bN, eEvent] at h ⊢
    rcases h4 with h4 | h4 | h4
    · simp only [h4] at h ⊢
      rw [callL_code g_bag_carry (by simp)]; simp -implicitDefEqProofs (maxSteps := 4000000) (disch := omega) only [c_bag_carry, r_bag_carry, getDT, go_sem, *] /-A3-/
    · simp only [h4] at h ⊢
      rw [callL_code g_bag_carry (by simp)]; simp -implicitDefEqProofs (maxSteps := 4000000) (disch := omega) only [c_bag_carry, r_bag_carry, getDT, go_sem, *] /-A4-/
    · simp only [h4] at h ⊢
      rw [callL_code g_bag_carry (by simp)]; simp -implicitDefEqProofs (maxSteps := 4000000) (disch := omega) only [c_bag_carry, r_bag_carry, getDT, go_sem, *] /-A5-/
  by_cases h7 : v.kind = 7
  · rw [cfn, if_neg h1, if_neg h2, if_neg h3, if_neg h4, if_pos h7] at h
    simp only [bN, eEvent, h7] at h ⊢
    rw [callL_code g_bag_carry (by simp)]; simp -implicitDefEqProofs (maxSteps := 4000000) (disch := omega) only [c_bag_carry, r_bag_carry, getDT, go_sem, *] /-A6-/
  by_cases h9 : v.kind = 9
  · rw [cfn, if_neg h1, if_neg h2, if_neg h3, if_neg h4, if_neg h7, if_pos h9] at h
    simp only [bN, eEvent, h9] at h ⊢
    rw [callL_code g_bag_carry (by simp)]; simp -implicitDefEqProofs (maxSteps := 4000000) (disch := omega) only [c_bag_carry, r_bag_carry, getDT, go_sem, *] /-A7-/
  rw [cfn, if_neg h1, if_neg h2, if_neg h3, if_neg h4, if_neg h7, if_neg h9] at h
  simp only [not_or] at h4
  obtain ⟨h4, h5, h6⟩ := h4
  simp only [bN, eEvent] at h ⊢
  rw [callL_code g_bag_carry (by simp)]; simp -implicitDefEqProofs (maxSteps := 4000000) (disch := omega) only [c_bag_carry, r_bag_carry, getDT, go_sem, *] /-A8-/
theorem carry_s (n a e : Int) (l z : List Item) (v : Event) (h2 : v.kind = 2) (h : callL G N_bag_send [.ref 1000000 0 0, .d (eEvent v)] (bN n a e l) = some (.d (.bool true), [(1000000, .row [.d (eBag ⟨n, a, e, z⟩)]), (1000001, .frz none)])) : callL G N_bag_carry [.ref 1000000 0 0, .d (eEvent v)] (bN n a e l) = some (.d (.bool true), [(1000000, .row [.d (eBag ⟨n, a, e, z⟩)]), (1000001, .frz none)]) := by
  simp only [bN, eEvent, h2] at h ⊢
  rw [callL_code g_bag_carry (by simp)]; simp -implicitDefEqProofs (maxSteps := 4000000) (disch := omega) only [c_bag_carry, r_bag_carry, getDT, go_sem, *] /-A9-/
theorem carry_c (n a e : Int) (l : List Item) (v : Event) (h8 : v.kind = 8) (hL : l.length ≤ 4294967296) : callL G N_bag_carry [.ref 1000000 0 0, .d (eEvent v)] (bN n a e l) = some (.d (.bool (decide (v.err = 0 ∧ v.ready = cntS 1 l ∧ v.leased = cntS 2 l))), bN n a e l) := by
  have hc := bcounts_ok ⟨n, a, e, l⟩ hL
  generalize cntS 1 l = c1 at *
  generalize cntS 2 l = c2 at *
  simp only [bN, eEvent, h8, eBag] at hc ⊢
  by_cases h1 : v.err = 0
  · by_cases h2 : v.ready = c1
    · by_cases h3 : v.leased = c2
      · rw [decide_eq_true ⟨h1, h2, h3⟩]
        rw [callL_code g_bag_carry (by simp)]; simp -implicitDefEqProofs (maxSteps := 4000000) (disch := omega) only [c_bag_carry, r_bag_carry, getDT, go_sem, *] /-A10-/
      · rw [decide_eq_false fun h => h3 h.2.2]
        rw [callL_code g_bag_carry (by simp)]; simp -implicitDefEqProofs (maxSteps := 4000000) (disch := omega) only [c_bag_carry, r_bag_carry, getDT, go_sem, *] /-A11-/
    · rw [decide_eq_false fun h => h2 h.2.1]
      rw [callL_code g_bag_carry (by simp)]; simp -implicitDefEqProofs (maxSteps := 4000000) (disch := omega) only [c_bag_carry, r_bag_carry, getDT, go_sem, *] /-A12-/
  · rw [decide_eq_false fun h => h1 h.1]
    rw [callL_code g_bag_carry (by simp)]; simp -implicitDefEqProofs (maxSteps := 4000000) (disch := omega) only [c_bag_carry, r_bag_carry, getDT, go_sem, *] /-A13-/
theorem carryZ_n (n a e n' a' e' : Int) (v : Event) (r : Bool) (h8 : v.kind ≠ 8) (h : callL G (cfn v.kind) [.ref 1000000 0 0, .d (eEvent v)] (bZ n a e) = some (.d (.bool r), bZ n' a' e')) : callL G N_bag_carry [.ref 1000000 0 0, .d (eEvent v)] (bZ n a e) = some (.d (.bool r), bZ n' a' e') := by
  by_cases h1 : v.kind = 1
  · simp only [cfn, h1, if_true, bZ, eEvent] at h ⊢
    rw [callL_code g_bag_carry (by simp)]; simp -implicitDefEqProofs (maxSteps := 4000000) (disch := omega) only [c_bag_carry, r_bag_carry, getDT, go_sem, *] /-A14-/
  by_cases h2 : v.kind = 2
  · simp only [cfn, h2, if_true, if_false, bZ, eEvent, show ¬ ((2 : Int) = 1) by decide] at h ⊢
    rw [callL_code g_bag_carry (by simp)]; simp -implicitDefEqProofs (maxSteps := 4000000) (disch := omega) only [c_bag_carry, r_bag_carry, getDT, go_sem, *] /-A15-/
  by_cases h3 : v.kind = 3
  · simp only [cfn, h3, if_true, if_false, bZ, eEvent, show ¬ ((3 : Int) = 1) by decide, show ¬ ((3 : Int) = 2) by decide] at h ⊢
    rw [callL_code g_bag_carry (by simp)]; simp -implicitDefEqProofs (maxSteps := 4000000) (disch := omega) only [c_bag_carry, r_bag_carry, getDT, go_sem, *] /-A16-/
  by_cases h4 : v.kind = 4 ∨ v.kind = 5 ∨ v.kind = 6
  · rw [cfn, if_neg h1, if_neg h2, if_neg h3, if_pos h4] at h
    simp only [bZ, eEvent] at h ⊢
    rcases h4 with h4 | h4 | h4
    · simp only [h4] at h ⊢
      rw [callL_code g_bag_carry (by simp)]; simp -implicitDefEqProofs (maxSteps := 4000000) (disch := omega) only [c_bag_carry, r_bag_carry, getDT, go_sem, *] /-A17-/
    · simp only [h4] at h ⊢
      rw [callL_code g_bag_carry (by simp)]; simp -implicitDefEqProofs (maxSteps := 4000000) (disch := omega) only [c_bag_carry, r_bag_carry, getDT, go_sem, *] /-A18-/
    · simp only [h4] at h ⊢
      rw [callL_code g_bag_carry (by simp)]; simp -implicitDefEqProofs (maxSteps := 4000000) (disch := omega) only [c_bag_carry, r_bag_carry, getDT, go_sem, *] /-A19-/
  by_cases h7 : v.kind = 7
  · rw [cfn, if_neg h1, if_neg h2, if_neg h3, if_neg h4, if_pos h7] at h
    simp only [bZ, eEvent, h7] at h ⊢
    rw [callL_code g_bag_carry (by simp)]; simp -implicitDefEqProofs (maxSteps := 4000000) (disch := omega) only [c_bag_carry, r_bag_carry, getDT, go_sem, *] /-A20-/
  by_cases h9 : v.kind = 9
  · rw [cfn, if_neg h1, if_neg h2, if_neg h3, if_neg h4, if_neg h7, if_pos h9] at h
    simp only [bZ, eEvent, h9] at h ⊢
    rw [callL_code g_bag_carry (by simp)]; simp -implicitDefEqProofs (maxSteps := 4000000) (disch := omega) only [c_bag_carry, r_bag_carry, getDT, go_sem, *] /-A21-/
  rw [cfn, if_neg h1, if_neg h2, if_neg h3, if_neg h4, if_neg h7, if_neg h9] at h
  simp only [not_or] at h4
  obtain ⟨h4, h5, h6⟩ := h4
  simp only [bZ, eEvent] at h ⊢
  rw [callL_code g_bag_carry (by simp)]; simp -implicitDefEqProofs (maxSteps := 4000000) (disch := omega) only [c_bag_carry, r_bag_carry, getDT, go_sem, *] /-A22-/
theorem carryZ_s (n a e : Int) (z : List Item) (v : Event) (h2 : v.kind = 2) (h : callL G N_bag_send [.ref 1000000 0 0, .d (eEvent v)] (bZ n a e) = some (.d (.bool true), [(1000000, .row [.d (eBag ⟨n, a, e, z⟩)])])) : callL G N_bag_carry [.ref 1000000 0 0, .d (eEvent v)] (bZ n a e) = some (.d (.bool true), [(1000000, .row [.d (eBag ⟨n, a, e, z⟩)])]) := by
  simp only [bZ, eEvent, h2] at h ⊢
  rw [callL_code g_bag_carry (by simp)]; simp -implicitDefEqProofs (maxSteps := 4000000) (disch := omega) only [c_bag_carry, r_bag_carry, getDT, go_sem, *] /-A23-/
theorem carryZ_c (n a e : Int) (v : Event) (h8 : v.kind = 8) : callL G N_bag_carry [.ref 1000000 0 0, .d (eEvent v)] (bZ n a e) = some (.d (.bool (decide (v.err = 0 ∧ v.ready = 0 ∧ v.leased = 0))), bZ n a e) := by
  have hc := bcounts_ok ⟨n, a, e, []⟩ (by simp)
  simp only [show ∀ s, cntS s [] = 0 from fun s => rfl, Int.natCast_zero] at hc
  simp only [bZ, eEvent, h8, eBag, List.map_nil] at hc ⊢
  by_cases h1 : v.err = 0
  · by_cases h2 : v.ready = 0
    · by_cases h3 : v.leased = 0
      · rw [decide_eq_true ⟨h1, h2, h3⟩]
        rw [callL_code g_bag_carry (by simp)]; simp -implicitDefEqProofs (maxSteps := 4000000) (disch := omega) only [c_bag_carry, r_bag_carry, getDT, go_sem, *] /-A24-/
      · rw [decide_eq_false fun h => h3 h.2.2]
        rw [callL_code g_bag_carry (by simp)]; simp -implicitDefEqProofs (maxSteps := 4000000) (disch := omega) only [c_bag_carry, r_bag_carry, getDT, go_sem, *] /-A25-/
    · rw [decide_eq_false fun h => h2 h.2.1]
      rw [callL_code g_bag_carry (by simp)]; simp -implicitDefEqProofs (maxSteps := 4000000) (disch := omega) only [c_bag_carry, r_bag_carry, getDT, go_sem, *] /-A26-/
  · rw [decide_eq_false fun h => h1 h.1]
    rw [callL_code g_bag_carry (by simp)]; simp -implicitDefEqProofs (maxSteps := 4000000) (disch := omega) only [c_bag_carry, r_bag_carry, getDT, go_sem, *] /-A27-/
end Go.Proofs.Ytbkhijigkmhhkaa
