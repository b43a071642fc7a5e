/-
  Walks towards a predicate of the result; arrays of numbers that are written at any place.
  Rings and shards: what is wrong with them.
  The messages of a ring.
  Rings: the loops.
  Rings: Validate.
  Rings of the reference: New, pushable.
  Rings of the reference: with.
  Rings of the reference: PushBack, PushFront.
  The reader: messages.
  Rings that hold a list: in plain Lean.
  Rings: what is written into the cells around.
-/
import Derived.Test.YtjillamaceggeaaGreatB2c7cdb4
import Derived.Test.YtjillamaceggeaaGreatB5596da9
set_option linter.unusedSimpArgs false
set_option linter.unusedVariables false
namespace Go.Sim
def Post {α : Type} (φ : α → Prop) (r : α) : Prop := φ r
theorem iteP {α : Type} {φ : α → Prop} {c : Prop} [Decidable c] {A B : α} (h1 : c → Post φ A) (h2 : ¬ c → Post φ B) : Post φ (if c then A else B) := by split <;> simp_all
theorem Post.some {α : Type} {φ : Option α → Prop} {r : Option α} {a : α} (h : φ (some a)) (e : r = some a) : Post φ r := by rw [e]; exact h
theorem over_agg {cs : List D} {k : Nat} {k' : IntKind} {v : Int} (h : k < cs.length) (h1 : cs.length ≠ 1) : over (.d (.agg cs)) k (.d (.int k' v)) = some (.d (.agg (cs.set k (.int k' v)))) := by
  unfold over
  rw [if_neg (by simp [AV.size, D.size, D.cells]; omega), if_pos (by simp [AV.size, D.size, D.cells]; omega)]
  have : splice (AV.cells (.d (.agg cs))) k (AV.cells (.d (.int k' v))) = (cs.set k (.int k' v)).map .d := by
    simp only [AV.cells, D.cells, List.map_cons, List.map_nil]
    rw [splice, List.map_set, List.set_eq_take_append_cons_drop, if_pos (by simpa using h)]
    simp
  rw [this, AV.mkAgg, allD_map]
theorem over_ints {E : List Int} {k : Nat} {k' : IntKind} {v : Int} (h : k < E.length) (h1 : E.length ≠ 1) : over (.d (.agg (E.map (D.int k')))) k (.d (.int k' v)) = some (.d (.agg ((E.set k v).map (D.int k')))) := by
  rw [over_agg (by simpa using h) (by simpa using h1), List.map_set]
attribute [go_sem high] over_ints
attribute [go_sem] Nat.mul_one
end Go.Sim

namespace Go.Proofs.YtjillamaceggeaaGreat
open Go Go.Sim
set_option linter.unusedSimpArgs false
set_option linter.unusedVariables false
set_option maxHeartbeats 10000000
set_option maxRecDepth 40000
theorem mget_mset (n k : Int) (x : D) (es : List (Int × D)) : mget n (mset k x es) = if k = n then some x else mget n es := by
  induction es with
  | nil => simp only [mset, mget]
  | cons p es ih =>
    obtain ⟨j, y⟩ := p
    simp only [mset]
    by_cases h : j = k
    · subst h
      simp only [if_true, mget]
      by_cases h2 : j = n
      · simp only [h2, if_true]
      · simp only [h2, if_false]
    · simp only [h, if_false, mget, ih]
      by_cases h2 : j = n
      · subst h2; simp only [if_true, show ¬ k = j from fun e => h e.symm, if_false]
      · simp only [h2, if_false]
def seenM (ids : List Int) : List (Int × D) := ids.foldl (fun es n => mset n (.bool true) es) []
theorem seenM_snoc (ids : List Int) (n : Int) : seenM (ids ++ [n]) = mset n (.bool true) (seenM ids) := by simp [seenM, List.foldl_append]
theorem mget_fold (n : Int) (ids : List Int) (es : List (Int × D)) : mget n (ids.foldl (fun es n => mset n (.bool true) es) es) = if n ∈ ids then some (.bool true) else mget n es := by
  induction ids generalizing es with
  | nil => simp
  | cons a ids ih =>
    rw [List.foldl_cons, ih, mget_mset]
    by_cases h : n ∈ ids
    · simp [h]
    · by_cases h2 : a = n
      · simp [h2]
      · simp [h, h2, show ¬ n = a from fun e => h2 e.symm]
theorem mget_seen (n : Int) (ids : List Int) : mget n (seenM ids) = if n ∈ ids then some (.bool true) else none := by
  unfold seenM; rw [mget_fold]; rfl
def dupI (ids : List Int) : Bool := decide (¬ ids.Nodup)
theorem dupI_snoc (ids : List Int) (n : Int) : dupI (ids ++ [n]) = (dupI ids || decide (n ∈ ids)) := by
  unfold dupI
  apply Bool.eq_iff_iff.2
  simp only [Bool.or_eq_true, decide_eq_true_eq, List.nodup_append, List.nodup_cons, List.not_mem_nil, not_false_eq_true, List.nodup_nil, and_self, true_and, List.mem_singleton, forall_eq]
  constructor
  · intro h
    by_cases h1 : ids.Nodup
    · right
      refine Classical.byContradiction fun h2 => h ⟨h1, fun a ha e => h2 (e ▸ ha)⟩
    · exact .inl h1
  · rintro (h | h) ⟨h1, h2⟩
    · exact h h1
    · exact h2 n h rfl
def firstE (l : List Message) : Int := match l with
  | [] => 0
  | m :: l => if msgV m ≠ 0 then msgV m else firstE l
def ordD (r : Ring) : List Message := (List.range r.size.toNat).map fun i => r.cells.getD ((r.head.toNat + i) % r.cells.length) zMessage
def ringOK (r : Ring) : Prop := 1 ≤ r.cells.length ∧ r.cells.length ≤ 12 ∧ 0 ≤ r.head ∧ r.head < r.cells.length ∧ 0 ≤ r.size ∧ r.size ≤ r.cells.length
instance (r : Ring) : Decidable (ringOK r) := by unfold ringOK; exact inferInstance
def restF (r : Ring) (i n : Nat) : Bool := (List.range' i (n - i)).any fun j => decide (r.cells.getD ((r.head.toNat + j) % r.cells.length) zMessage ≠ zMessage)
def ringV (r : Ring) : Int := if ¬ ringOK r then 1 else if restF r r.size.toNat r.cells.length = true then 7 else if firstE (ordD r) ≠ 0 then firstE (ordD r) else if dupI ((ordD r).map (·.id)) = true then 10 else 0
theorem restF_step (r : Ring) {i n : Nat} (h : i < n) : restF r i n = (decide (r.cells.getD ((r.head.toNat + i) % r.cells.length) zMessage ≠ zMessage) || restF r (i + 1) n) := by
  unfold restF
  rw [show n - i = (n - (i + 1)) + 1 by omega, List.range'_succ, List.any_cons]
theorem restF_end (r : Ring) {i n : Nat} (h : ¬ i < n) : restF r i n = false := by
  unfold restF
  rw [show n - i = 0 by omega]; rfl
theorem firstE_drop {l : List Message} {k : Nat} (h : k < l.length) : firstE (l.drop k) = if msgV l[k] ≠ 0 then msgV l[k] else firstE (l.drop (k + 1)) := by
  rw [List.drop_eq_getElem_cons h]; rfl
def fstI (l : List Message) (id : Int) : Int := idxI (fun m : Message => decide (m.id = id)) l
theorem fst_at {l : List Message} {k : Nat} (h : k < l.length) : fstI l l[k].id = k ↔ ∀ j (hj : j < k), l[j].id ≠ l[k].id := by
  unfold fstI idxI
  cases hf : l.findIdx? (fun m : Message => decide (m.id = l[k].id)) with
  | none =>
    have := List.findIdx?_eq_none_iff.1 hf l[k] (List.getElem_mem h)
    simp at this
  | some i =>
    obtain ⟨hi, e, hn⟩ := List.findIdx?_eq_some_iff_getElem.1 hf
    simp only [decide_eq_true_eq] at e hn
    constructor
    · intro e2 j hj
      have : i = k := by simp at e2; omega
      subst this
      exact hn j hj
    · intro ha
      by_cases h1 : i < k
      · exact absurd e (ha i h1)
      · by_cases h2 : k < i
        · exact absurd rfl (hn k h2)
        · simp; omega
def lateF (l : List Message) (k : Nat) : Bool := (List.range' k (l.length - k)).any fun i => decide (fstI l (l.getD i zMessage).id ≠ i)
theorem lateF_step (l : List Message) {k : Nat} (h : k < l.length) : lateF l k = (decide (fstI l l[k].id ≠ k) || lateF l (k + 1)) := by
  unfold lateF
  rw [show l.length - k = (l.length - (k + 1)) + 1 by omega, List.range'_succ, List.any_cons, getDT h]
theorem lateF_end (l : List Message) {k : Nat} (h : ¬ k < l.length) : lateF l k = false := by
  unfold lateF
  rw [show l.length - k = 0 by omega]; rfl
theorem lateF_dup (l : List Message) : lateF l 0 = dupI (l.map (·.id)) := by
  apply Bool.eq_iff_iff.2
  unfold lateF dupI
  simp only [Nat.sub_zero, List.any_eq_true, List.mem_range'_1, decide_eq_true_eq, List.nodup_iff_pairwise_ne, List.pairwise_iff_getElem, List.length_map, List.getElem_map]
  constructor
  · rintro ⟨i, ⟨_, hi⟩, hne⟩ hall
    simp only [Nat.zero_add] at hi
    rw [getDT hi] at hne
    exact hne ((fst_at hi).2 fun j hj => hall j i (by omega) hi hj)
  · intro hn
    refine Classical.byContradiction fun hc => hn fun i j hi hj hij => ?_
    have : fstI l l[j].id = j := Classical.byContradiction fun hc2 => hc ⟨j, ⟨by omega, by omega⟩, by rw [getDT hj]; exact hc2⟩
    exact (fst_at hj).1 this i hij
def shMsgs (s : Shard) : List Message := ordD s.ready ++ s.leases.l.map (·.msg)
def movedF (s : Shard) (l : List Message) : Bool := l.any fun m => decide (¬ (s.low ≤ m.route ∧ m.route ≤ s.high))
def storedD (s : Shard) : Int := s.ready.size + s.leases.l.length
def shardV (s : Shard) : Int :=
  if ringV s.ready ≠ 0 then ringV s.ready
  else if tabV s.leases ≠ 0 then tabV s.leases
  else if s.live = false then (if s.low ≠ 0 ∨ s.high ≠ 0 ∨ 0 < storedD s then 7 else 0)
  else if ¬ (0 ≤ s.low ∧ s.low ≤ s.high ∧ s.high < 65536) then 1
  else if s.ready.cells.length < storedD s then 3
  else if movedF s (shMsgs s) = true then 12
  else if dupI ((shMsgs s).map (·.id)) = true then 10 else 0
def readyN (l : List Message) (ep lim : Int) : Int := ((l.filter fun m => decide (¬ m.epoch < ep) && decide (¬ lim ≤ m.count)).length : Int)
def leasedN (l : List Message) (ep : Int) : Int := ((l.filter fun m => decide (¬ m.epoch < ep)).length : Int)
def countsD (s : Shard) (ep lim : Int) : Int × Int :=
  if shardV s = 0 ∧ s.live = true ∧ 0 ≤ ep ∧ ep ≤ 65536 ∧ 1 ≤ lim ∧ lim ≤ 8 then (readyN (ordD s.ready) ep lim, leasedN (s.leases.l.map (·.msg)) ep) else (0, 0)
theorem ordD_len (r : Ring) : (ordD r).length = r.size.toNat := by simp [ordD]
theorem ringV_zero {r : Ring} (h : ringV r = 0) : ringOK r := by
  unfold ringV at h
  split at h
  · exact absurd h (by decide)
  · rename_i hc; exact Classical.not_not.1 hc
end Go.Proofs.YtjillamaceggeaaGreat

namespace Go.Proofs.YtjillamaceggeaaGreat
open Go Go.Sim
set_option linter.unusedSimpArgs false
set_option linter.unusedVariables false
set_option maxHeartbeats 10000000
set_option maxRecDepth 40000
def ordN (c : List Message) (h k : Nat) : List Message := (List.range k).map fun i => c.getD ((h + i) % c.length) zMessage
theorem ordN_succ (c : List Message) (h k : Nat) : ordN c h (k + 1) = ordN c h k ++ [c.getD ((h + k) % c.length) zMessage] := by
  simp [ordN, List.range_succ]
theorem ordN_len (c : List Message) (h k : Nat) : (ordN c h k).length = k := by simp [ordN]
theorem cell_ok (c : List Message) (h z i : Nat) (h0 : 0 < c.length) (h1 : c.length ≤ 12) (h2 : h ≤ 12) (h3 : i ≤ 12) : callL G N_ring_cell [.d (.agg [.sl (c.map eMessage), .int .i64 h, .int .i64 z]), .d (.int .i64 i)] [] = some (.d (.int .i64 ((h + i) % c.length : Nat)), []) := by
  have e : ((h : Int) + i).tmod c.length = (((h + i) % c.length : Nat) : Int) := by rw [← Int.natCast_add, ← Int.ofNat_tmod]
  rw [callL_code g_ring_cell (by simp)]; simp -implicitDefEqProofs (maxSteps := 4000000) (disch := omega) only [c_ring_cell, r_ring_cell, getDT, go_sem, *] /-A0-/
def listS (c : List Message) (h z i : Nat) : St := ⟨[(1, .ref 1 0 0), (3, .acc 3 ((ordN c h i).map eMessage)), (6, .d (.int .i64 z)), (7, .d (.int .i64 i))], [(1, .row [.d (.agg [.sl (c.map eMessage), .int .i64 h, .int .i64 z])]), (3, .acc (ordN c h i).length)]⟩
theorem list_loop (c : List Message) (h z : Nat) (h1 : c.length ≤ 12) (h2 : h < c.length) (h3 : z ≤ c.length) : ∀ i, i ≤ z → loopL G [] l_ring_list_0 (listS c h z i) = some (.exit 0, ⟨[(3, .acc 3 ((ordN c h z).map eMessage))], [(3, .acc (ordN c h z).length)]⟩) := by
  refine loop_ind (fun i => z - i) (fun i => i ≤ z) (listS c h z) _ fun i hi L ih => ?_
  by_cases h0 : i < z
  · have i1 := ih (i + 1) (by omega) (by omega)
    clear ih
    have hc := cell_ok c h z i (by omega) h1 (by omega) (by omega)
    have hj : (h + i) % c.length < c.length := Nat.mod_lt _ (by omega)
    have hl := ordN_len c h i
    rw [listS, ordN_succ] at i1
    generalize (h + i) % c.length = j at *
    rw [getDT hj] at i1
    simp only [List.map_append, List.map_cons, List.map_nil, List.length_append, List.length_singleton, hl] at i1
    simp only [listS, hl, l_ring_list_0]
    generalize ordN c h i = w at *
    simp only [Int.natCast_add, Int.natCast_one, Int.natCast_zero, Int.natCast_mul, Int.cast_ofNat_Int, List.length_append, List.length_map, List.map_nil, List.length_nil, List.map_append, List.map_cons, List.length_cons, Nat.zero_add, srcO, mapSet] at i1
    simp -implicitDefEqProofs (maxSteps := 4000000) (disch := omega) only [getDT, go_sem, *] /-A1-/
  · clear ih
    have : i = z := by omega
    subst this
    simp only [listS, l_ring_list_0]
    simp -implicitDefEqProofs (maxSteps := 4000000) (disch := omega) only [getDT, go_sem, *] /-A2-/
theorem list_ok (c : List Message) (h z : Nat) (h1 : c.length ≤ 12) (h2 : h < c.length) (h3 : z ≤ c.length) : callL G N_ring_list [.d (.agg [.sl (c.map eMessage), .int .i64 h, .int .i64 z])] [] = some (.acc 0 ((ordN c h z).map eMessage), [(0, .acc (ordN c h z).length)]) := by
  have hl := list_loop c h z h1 h2 h3 0 (by omega)
  simp only [listS, ordN, List.range_zero, List.map_nil, List.length_nil] at hl
  simp only [Int.natCast_add, Int.natCast_one, Int.natCast_zero, Int.natCast_mul, Int.cast_ofNat_Int, List.length_append, List.length_map, List.map_nil, List.length_nil, List.map_append, List.map_cons, List.length_cons, Nat.zero_add, srcO, mapSet] at hl
  rw [callL_code g_ring_list (by simp)]; simp -implicitDefEqProofs (maxSteps := 4000000) (disch := omega) only [c_ring_list, r_ring_list, ordN, getDT, go_sem, *] /-A3-/
def orderS (c : List Message) (h z i : Nat) : St := ⟨[(1, .ref 1 0 0), (3, .acc 3 ((ordN c h i).map eMessage)), (4, .d (.int .i64 i))], [(1, .row [.d (.agg [.sl (c.map eMessage), .int .i64 h, .int .i64 z])]), (3, .acc (ordN c h i).length)]⟩
end Go.Proofs.YtjillamaceggeaaGreat

namespace Go.Proofs.YtjillamaceggeaaGreat
open Go Go.Sim
set_option linter.unusedSimpArgs false
set_option linter.unusedVariables false
set_option maxHeartbeats 10000000
set_option maxRecDepth 40000
theorem zm_of {m : Message} (h : ¬(¬m.id = 0 ∨ ¬m.route = 0 ∨ ¬m.epoch = 0 ∨ ¬m.count = 0 ∨ ¬m.gen = 0 ∨ ¬m.sent = 0 ∨ ¬m.body = [])) : m = zMessage := by
  simp only [not_or, Classical.not_not] at h
  obtain ⟨a, b, c, d, e, f, g⟩ := h
  cases m
  simp only at a b c d e f g
  subst a b c d e f g
  rfl
theorem restF_step' (c : List Message) (h : Nat) (z : Int) {i n : Nat} (h0 : i < n) : restF ⟨c, h, z⟩ i n = (decide (c.getD ((h + i) % c.length) zMessage ≠ zMessage) || restF ⟨c, h, z⟩ (i + 1) n) := restF_step ⟨c, h, z⟩ h0
def rgS (c : List Message) (h z i : Nat) : St := ⟨[(1, .ref 1 0 0), (3, .d (.int .i64 c.length)), (4, .d (.int .i64 i))], [(1, .row [.d (.agg [.sl (c.map eMessage), .int .i64 h, .int .i64 z])])]⟩
def rgR (c : List Message) (h z i : Nat) : AExit × St := if restF ⟨c, h, z⟩ i c.length = true then (.ret, ⟨[(2, .d (.int .i64 7))], []⟩) else (.exit 0, ⟨[(1, .ref 1 0 0)], [(1, .row [.d (.agg [.sl (c.map eMessage), .int .i64 h, .int .i64 z])])]⟩)
theorem rest_loop (c : List Message) (h z : Nat) (h1 : c.length ≤ 12) (h2 : h < c.length) : ∀ i, i ≤ c.length → loopL G [] l_ring_Validate_0 (rgS c h z i) = some (rgR c h z i) := by
  refine loop_ind (fun i => c.length - i) (fun i => i ≤ c.length) (rgS c h z) (fun i => some (rgR c h z i)) fun i hi L ih => ?_
  by_cases h0 : i < c.length
  · have i1 := ih (i + 1) (by omega) (by omega)
    clear ih
    have hc := cell_ok c h z i (by omega) h1 (by omega) (by omega)
    have hj : (h + i) % c.length < c.length := Nat.mod_lt _ (by omega)
    unfold rgR at i1 ⊢
    rw [restF_step' _ _ _ h0]
    generalize (h + i) % c.length = j at *
    rw [getDT hj]
    generalize restF ⟨c, h, z⟩ (i + 1) c.length = bb at *
    simp only [rgS] at i1
    simp only [Int.natCast_add, Int.natCast_one, Int.natCast_zero, Int.natCast_mul, Int.cast_ofNat_Int, List.length_append, List.length_map, List.map_nil, List.length_nil, List.map_append, List.map_cons, List.length_cons, Nat.zero_add, srcO, mapSet] at i1
    simp only [rgS, l_ring_Validate_0]
    by_cases hm : c[j] = zMessage
    · rw [hm]
      simp only [ne_eq, not_true_eq_false, decide_false, Bool.false_or]
      simp -implicitDefEqProofs (maxSteps := 4000000) (disch := omega) only [hm, zMessage, eMessage, getDT, go_sem, *] /-A0-/
    · simp only [ne_eq, hm, not_false_eq_true, decide_true, Bool.true_or, if_true]
      (try simp -implicitDefEqProofs (maxSteps := 4000000) (disch := omega) only [eMessage, getDT, go_sem, *]); (try simp only [pA, pB, pC, pD, pE, pF, pG, pH, pI, pJ, pK, pL, pM, pN, pO, pP, if_true, if_false]); repeat' (first | done | rfl | ((first | refine iteC (fun hq => ?_) (fun hq => ?_) | refine iteP (fun hq => ?_) (fun hq => ?_)) <;> (try (first | (exfalso; omega) | contradiction)) <;> (try simp -implicitDefEqProofs (maxSteps := 4000000) (disch := omega) only [eMessage, getDT, go_sem, *]) <;> (try simp only [pA, pB, pC, pD, pE, pF, pG, pH, pI, pJ, pK, pL, pM, pN, pO, pP, if_true, if_false]))); (all_goals try rfl); (all_goals try (repeat' (first | done | rfl | (exfalso; omega) | contradiction | (refine iteR (fun hq => ?_) (fun hq => ?_))))) /-A1-/
      exact absurd (zm_of (by assumption)) hm
  · clear ih
    unfold rgR
    rw [restF_end _ h0]
    simp only [rgS, l_ring_Validate_0, Bool.false_eq_true, if_false]
    simp -implicitDefEqProofs (maxSteps := 4000000) (disch := omega) only [getDT, go_sem, *] /-A2-/
def idsN (l : List Message) (i : Nat) : List Int := (l.take i).map (·.id)
theorem idsN_succ {l : List Message} {i : Nat} (h : i < l.length) : idsN l (i + 1) = idsN l i ++ [l[i].id] := by
  unfold idsN; rw [List.take_add_one, List.getElem?_eq_getElem h, List.map_append]; rfl
def rvS (l : List Message) (i : Nat) : St := ⟨[(5, .mpr 57), (6, .d (.bool (dupI (idsN l i)))), (59, .acc 59 (l.map eMessage)), (60, .d (.int .i64 l.length)), (61, .d (.int .i64 i))], [(57, .mp (seenM (idsN l i))), (59, .acc l.length)]⟩
def rvR (l : List Message) (i : Nat) : AExit × St := if firstE (l.drop i) ≠ 0 then (.ret, ⟨[(2, .d (.int .i64 (firstE (l.drop i))))], []⟩) else (.exit 2, ⟨[(6, .d (.bool (dupI (l.map (·.id)))))], []⟩)
theorem rv_loop (l : List Message) (h1 : l.length ≤ 12) : ∀ i, i ≤ l.length → loopL G [] l_ring_Validate_1 (rvS l i) = some (rvR l i) := by
  refine loop_ind (fun i => l.length - i) (fun i => i ≤ l.length) (rvS l) (fun i => some (rvR l i)) fun i hi L ih => ?_
  by_cases h0 : i < l.length
  · have i1 := ih (i + 1) (by omega) (by omega)
    clear ih
    have hm := mval_ok l[i]
    unfold rvR at i1 ⊢
    rw [firstE_drop h0]
    unfold rvS at i1
    rw [idsN_succ h0, seenM_snoc, dupI_snoc] at i1
    have hg := mget_seen l[i].id (idsN l i)
    generalize firstE (l.drop (i + 1)) = fe at *
    generalize dupI (l.map (·.id)) = dd at *
    simp only [rvS, l_ring_Validate_1]
    generalize seenM (idsN l i) = sm at *
    simp only [eMessage] at hm
    by_cases hv : msgV l[i] = 0
    · rw [hv] at hm
      simp only [hv, ne_eq, not_true_eq_false, if_false]
      by_cases hmem : l[i].id ∈ idsN l i
      · simp only [hmem, if_true, decide_true, Bool.or_true] at hg i1
        generalize dupI (idsN l i) = d0 at *
        generalize idsN l i = w at *
        simp only [Int.natCast_add, Int.natCast_one, Int.natCast_zero, Int.natCast_mul, Int.cast_ofNat_Int, List.length_append, List.length_map, List.map_nil, List.length_nil, List.map_append, List.map_cons, List.length_cons, Nat.zero_add, srcO, mapSet] at i1
        cases d0
        · simp -implicitDefEqProofs (maxSteps := 4000000) (disch := omega) only [eMessage, getDT, go_sem, *] /-A3-/
        · simp -implicitDefEqProofs (maxSteps := 4000000) (disch := omega) only [eMessage, getDT, go_sem, *] /-A4-/
      · simp only [hmem, if_false, decide_false, Bool.or_false] at hg i1
        generalize dupI (idsN l i) = d0 at *
        generalize idsN l i = w at *
        simp only [Int.natCast_add, Int.natCast_one, Int.natCast_zero, Int.natCast_mul, Int.cast_ofNat_Int, List.length_append, List.length_map, List.map_nil, List.length_nil, List.map_append, List.map_cons, List.length_cons, Nat.zero_add, srcO, mapSet] at i1
        cases d0
        · simp -implicitDefEqProofs (maxSteps := 4000000) (disch := omega) only [eMessage, getDT, go_sem, *] /-A5-/
        · simp -implicitDefEqProofs (maxSteps := 4000000) (disch := omega) only [eMessage, getDT, go_sem, *] /-A6-/
    · simp only [ne_eq, hv, not_false_eq_true, if_true]
      clear i1 hg
      simp -implicitDefEqProofs (maxSteps := 4000000) (disch := omega) only [eMessage, getDT, go_sem, *] /-A7-/
  · clear ih
    have : i = l.length := by omega
    subst this
    unfold rvR
    rw [List.drop_length]
    simp only [rvS, idsN, List.take_length, firstE, ne_eq, not_true_eq_false, if_false, l_ring_Validate_1]
    simp -implicitDefEqProofs (maxSteps := 4000000) (disch := omega) only [eMessage, getDT, go_sem, *] /-A8-/
end Go.Proofs.YtjillamaceggeaaGreat

namespace Go.Proofs.YtjillamaceggeaaGreat
open Go Go.Sim
set_option linter.unusedSimpArgs false
set_option linter.unusedVariables false
set_option maxHeartbeats 10000000
set_option maxRecDepth 40000
theorem ordD_eq (c : List Message) (h z : Nat) : ordD ⟨c, h, z⟩ = ordN c h z := rfl
theorem ringOK_nat {r : Ring} (hr : ringOK r) : ∃ (c : List Message) (h z : Nat), r = ⟨c, h, z⟩ ∧ 1 ≤ c.length ∧ c.length ≤ 12 ∧ h < c.length ∧ z ≤ c.length := by
  obtain ⟨c, h, z⟩ := r
  obtain ⟨h1, h2, h3, h4, h5, h6⟩ := hr
  simp only at h1 h2 h3 h4 h5 h6
  exact ⟨c, h.toNat, z.toNat, by rw [Int.toNat_of_nonneg h3, Int.toNat_of_nonneg h5], h1, h2, by omega, by omega⟩
theorem ringV_nat {c : List Message} {h z : Nat} (hok : ringOK ⟨c, h, z⟩) : ringV ⟨c, h, z⟩ = if restF ⟨c, h, z⟩ z c.length = true then 7 else if firstE (ordN c h z) ≠ 0 then firstE (ordN c h z) else if dupI ((ordN c h z).map (·.id)) = true then 10 else 0 := by
  unfold ringV; rw [if_neg (fun hc => hc hok)]; rfl
theorem ringval_ok (r : Ring) (hL : r.cells.length ≤ 4294967296) : callL G N_ring_Validate [.d (eRing r)] [] = some (.d (.int .i64 (ringV r)), []) := by
  by_cases hok : ringOK r
  · obtain ⟨c, h, z, rfl, h1, h2, h3, h4⟩ := ringOK_nat hok
    have hr := rest_loop c h z h2 h3 z h4
    have hl := list_ok c h z h2 h3 h4
    have hv := rv_loop (ordN c h z) (by rw [ordN_len]; omega) 0 (by omega)
    have hn := ordN_len c h z
    rw [ringV_nat hok]
    unfold rgR at hr
    unfold rvR at hv
    simp only [List.drop_zero] at hv
    simp only [rgS] at hr
    simp only [rvS, idsN, List.take_zero, List.map_nil, seenM, List.foldl_nil, show dupI [] = false by decide, hn] at hv
    rw [hn] at hl
    simp only [eRing]
    generalize restF ⟨c, h, z⟩ z c.length = b1 at *
    generalize firstE (ordN c h z) = fe at *
    generalize dupI ((ordN c h z).map (·.id)) = dd at *
    generalize ordN c h z = w at *
    clear hok
    simp only [Int.natCast_add, Int.natCast_one, Int.natCast_zero, Int.natCast_mul, Int.cast_ofNat_Int, List.length_append, List.length_map, List.map_nil, List.length_nil, List.map_append, List.map_cons, List.length_cons, Nat.zero_add, srcO, mapSet] at hv
    cases b1 with
    | true =>
      simp only [if_true] at hr ⊢
      rw [callL_code g_ring_Validate (by simp)]; simp -implicitDefEqProofs (maxSteps := 4000000) (disch := omega) only [c_ring_Validate, r_ring_Validate, getDT, go_sem, *] /-A0-/
    | false =>
      simp only [Bool.false_eq_true, if_false] at hr ⊢
      by_cases e : fe = 0
      · subst e
        simp only [ne_eq, not_true_eq_false, if_false] at hv ⊢
        cases dd
        · rw [callL_code g_ring_Validate (by simp)]; simp -implicitDefEqProofs (maxSteps := 4000000) (disch := omega) only [c_ring_Validate, r_ring_Validate, getDT, go_sem, *] /-A1-/
        · rw [callL_code g_ring_Validate (by simp)]; simp -implicitDefEqProofs (maxSteps := 4000000) (disch := omega) only [c_ring_Validate, r_ring_Validate, getDT, go_sem, *] /-A2-/
      · simp only [ne_eq, e, not_false_eq_true, if_true] at hv ⊢
        rw [callL_code g_ring_Validate (by simp)]; simp -implicitDefEqProofs (maxSteps := 4000000) (disch := omega) only [c_ring_Validate, r_ring_Validate, getDT, go_sem, *] /-A3-/
  · unfold ringV
    rw [if_pos hok]
    obtain ⟨c, h, z⟩ := r
    simp only [ringOK] at hok hL
    simp only [eRing]
    rw [callL_code g_ring_Validate (by simp)]; simp -implicitDefEqProofs (maxSteps := 4000000) (disch := omega) only [c_ring_Validate, r_ring_Validate, getDT, go_sem, *]; (try simp only [pA, pB, pC, pD, pE, pF, pG, pH, pI, pJ, pK, pL, pM, pN, pO, pP, if_true, if_false]); repeat' (first | done | rfl | ((first | refine iteC (fun hq => ?_) (fun hq => ?_) | refine iteP (fun hq => ?_) (fun hq => ?_)) <;> (try (first | (exfalso; omega) | contradiction)) <;> (try simp -implicitDefEqProofs (maxSteps := 4000000) (disch := omega) only [getDT, go_sem, *]) <;> (try simp only [pA, pB, pC, pD, pE, pF, pG, pH, pI, pJ, pK, pL, pM, pN, pO, pP, if_true, if_false]))); (all_goals try rfl); (all_goals try (repeat' (first | done | rfl | (exfalso; omega) | contradiction | (refine iteR (fun hq => ?_) (fun hq => ?_))))) /-A4-/
def r4S (c : List Message) (h z i : Nat) : St := ⟨[(1, .ref 1 0 0), (3, .d (.int .i64 c.length)), (4, .d (.int .i64 i))], [(1, .row [.d (.agg [.sl (c.map eMessage), .int .i64 h, .int .i64 z])])]⟩
def f4S (l : List Message) (i : Nat) : St := ⟨[(5, .acc 60 (l.map eMessage)), (6, .d (.int .i64 i))], [(60, .acc l.length)]⟩
def f4R (l : List Message) (i : Nat) : AExit × St := if firstE (l.drop i) ≠ 0 then (.ret, ⟨[(2, .d (.int .i64 (firstE (l.drop i))))], []⟩) else (.exit 2, ⟨[(5, .acc 60 (l.map eMessage))], [(60, .acc l.length)]⟩)
def d4S (l : List Message) (i : Nat) : St := ⟨[(5, .acc 60 (l.map eMessage)), (8, .d (.int .i64 i))], [(60, .acc l.length)]⟩
def d4R (l : List Message) (i : Nat) : AExit × St := if lateF l i = true then (.ret, ⟨[(2, .d (.int .i64 10))], []⟩) else (.exit 4, ⟨[], []⟩)
end Go.Proofs.YtjillamaceggeaaGreat

namespace Go.Proofs.YtjillamaceggeaaGreat
open Go Go.Sim
set_option linter.unusedSimpArgs false
set_option linter.unusedVariables false
set_option maxHeartbeats 10000000
set_option maxRecDepth 40000
def pushR (r : Ring) (m : Message) : Int := if ringV r ≠ 0 then ringV r else if msgV m ≠ 0 then msgV m else if r.size = r.cells.length then 3 else if 0 ≤ fstI (ordD r) m.id then 10 else 0
end Go.Proofs.YtjillamaceggeaaGreat

namespace Go.Proofs.YtjillamaceggeaaGreat
open Go Go.Sim
set_option linter.unusedSimpArgs false
set_option linter.unusedVariables false
set_option maxHeartbeats 10000000
set_option maxRecDepth 40000
def wN (n h : Nat) (l : List Message) (i : Nat) : List Message := (List.range i).foldl (fun cs j => cs.set ((h + j) % n) (l.getD j zMessage)) (List.replicate n zMessage)
theorem wN_succ (n h : Nat) (l : List Message) (i : Nat) : wN n h l (i + 1) = (wN n h l i).set ((h + i) % n) (l.getD i zMessage) := by
  unfold wN; rw [List.range_succ, List.foldl_append]; rfl
theorem wN_len (n h : Nat) (l : List Message) (i : Nat) : (wN n h l i).length = n := by
  induction i with
  | zero => simp [wN]
  | succ i ih => rw [wN_succ, List.length_set, ih]
def wiS (n h : Nat) (l : List Message) (i : Nat) : St := ⟨[(1, .d (.int .i64 h)), (2, .d (.sl (l.map eMessage))), (6, .ref 6 0 0), (7, .ref 7 0 0), (8, .d (.int .i64 i))], [(6, .row [.agg [.xsl [], .d (.int .i64 0), .d (.int .i64 0)]]), (7, .row [.agg [.osl 12 0 n, .d (.int .i64 h), .d (.int .i64 l.length)]]), (12, .row (((wN n h l i).map eMessage).map .d))]⟩
end Go.Proofs.YtjillamaceggeaaGreat

namespace Go.Proofs.YtjillamaceggeaaGreat
open Go Go.Sim
set_option linter.unusedSimpArgs false
set_option linter.unusedVariables false
set_option maxHeartbeats 10000000
set_option maxRecDepth 40000
theorem pushR_zero {r : Ring} {m : Message} (h : pushR r m = 0) : ringV r = 0 ∧ msgV m = 0 ∧ r.size ≠ r.cells.length ∧ fstI (ordD r) m.id < 0 := by
  unfold pushR at h
  by_cases e1 : ringV r = 0
  · rw [if_neg (fun hc => hc e1)] at h
    by_cases e2 : msgV m = 0
    · rw [if_neg (fun hc => hc e2)] at h
      by_cases e3 : r.size = r.cells.length
      · rw [if_pos e3] at h; exact absurd h (by decide)
      · rw [if_neg e3] at h
        by_cases e4 : 0 ≤ fstI (ordD r) m.id
        · rw [if_pos e4] at h; exact absurd h (by decide)
        · exact ⟨e1, e2, e3, by omega⟩
    · rw [if_pos e2] at h; exact absurd h e2
  · rw [if_pos e1] at h; exact absurd h e1
end Go.Proofs.YtjillamaceggeaaGreat

namespace Go.Proofs.YtjillamaceggeaaGreat
open Go Go.Sim
set_option linter.unusedSimpArgs false
set_option linter.unusedVariables false
set_option maxHeartbeats 10000000
set_option maxRecDepth 40000
theorem and_in (a : Int) (m : Int) (h0 : 0 ≤ m) (h1 : m ≤ 4294967295) : 0 ≤ andI .i64 a m ∧ andI .i64 a m ≤ m := by
  unfold andI
  have e : (BitVec.ofInt IntKind.i64.bits m).toNat = m.toNat := by
    show (BitVec.ofInt 64 m).toNat = m.toNat
    rw [BitVec.toNat_ofInt]; omega
  have h2 : (BitVec.ofInt IntKind.i64.bits a &&& BitVec.ofInt IntKind.i64.bits m).toNat ≤ m.toNat := by
    rw [BitVec.toNat_and, e]; exact Nat.and_le_right
  rw [wr (by omega)]
  omega
theorem xor_in (a b : Int) (ha : 0 ≤ a ∧ a < 65536) (hb : 0 ≤ b ∧ b < 65536) : 0 ≤ xorI .i64 a b ∧ xorI .i64 a b < 65536 := by
  unfold xorI
  have e : ∀ m : Int, 0 ≤ m → m < 65536 → (BitVec.ofInt IntKind.i64.bits m).toNat = m.toNat := fun m h0 h1 => by
    show (BitVec.ofInt 64 m).toNat = m.toNat
    rw [BitVec.toNat_ofInt]; omega
  have h2 : (BitVec.ofInt IntKind.i64.bits a ^^^ BitVec.ofInt IntKind.i64.bits b).toNat < 65536 := by
    rw [BitVec.toNat_xor, e a ha.1 ha.2, e b hb.1 hb.2]; exact Nat.xor_lt_two_pow (n := 16) (by omega) (by omega)
  rw [wr (by omega)]
  omega
def sumS (b : List UInt8) (p : Nat × Int) : St := ⟨[(0, .d (.sl (byD b))), (3, .d (.int .i64 p.2)), (4, .d (.int .i64 p.1))], []⟩
def sumPhi (r : Option (AExit × St)) : Prop := ∃ h : Int, 0 ≤ h ∧ h ≤ 4294967295 ∧ r = some (.exit 0, ⟨[(3, .d (.int .i64 h))], []⟩)
theorem u8_of (x : Int) : ∃ c : UInt8, IntKind.u8.wrap x = c.toNat := by
  have h := has_wrap .u8 x
  simp only [IntKind.has, IntKind.min, IntKind.max, IntKind.bits, IntKind.signed] at h
  simp at h
  exact ⟨UInt8.ofNat (IntKind.u8.wrap x).toNat, by rw [UInt8.toNat_ofNat']; omega⟩
def intoD (r lo hi : Int) : Int := if lo ≤ r ∧ r ≤ hi then r else lo + r.tmod (hi - lo + 1)
theorem into_in {r lo hi : Int} (h0 : 0 ≤ r) (h3 : lo ≤ hi) : lo ≤ intoD r lo hi ∧ intoD r lo hi ≤ hi := by
  unfold intoD
  have hm := Int.tmod_lt_of_pos r (show 0 < hi - lo + 1 by omega)
  have hm2 := Int.tmod_nonneg (hi - lo + 1) h0
  split <;> omega
def msgGood (m : Message) (id lo hi : Int) : Prop := m.id = id ∧ lo ≤ m.route ∧ m.route ≤ hi ∧ 0 ≤ m.epoch ∧ m.epoch ≤ 2 ∧ 0 ≤ m.count ∧ m.count ≤ 3 ∧ 0 ≤ m.sent ∧ m.sent ≤ 49 ∧ m.body.length ≤ 3 ∧ m.count ≤ m.gen ∧ m.gen ≤ 65536
end Go.Proofs.YtjillamaceggeaaGreat

namespace Go.Proofs.YtjillamaceggeaaGreat
open Go Go.Sim
set_option linter.unusedSimpArgs false
set_option linter.unusedVariables false
set_option maxHeartbeats 10000000
set_option maxRecDepth 40000
theorem getD_set {α : Type} (l : List α) (i j : Nat) (x d : α) (hi : i < l.length) : (l.set i x).getD j d = if i = j then x else l.getD j d := by
  rw [List.getD_eq_getElem?_getD, List.getD_eq_getElem?_getD, List.getElem?_set]
  split
  · rename_i e; subst e; simp
  · rfl
theorem modInj {n h i j : Nat} (hi : i < n) (hj : j < n) (e : (h + i) % n = (h + j) % n) : i = j := by
  have h1 := Nat.mod_lt h (show 0 < n by omega)
  rw [Nat.add_mod h i, Nat.add_mod h j, Nat.mod_eq_of_lt hi, Nat.mod_eq_of_lt hj] at e
  generalize h % n = a at *
  by_cases c1 : a + i < n
  · rw [Nat.mod_eq_of_lt c1] at e
    by_cases c2 : a + j < n
    · rw [Nat.mod_eq_of_lt c2] at e; omega
    · rw [show a + j = (a + j - n) + n by omega, Nat.add_mod_right, Nat.mod_eq_of_lt (by omega)] at e; omega
  · rw [show a + i = (a + i - n) + n by omega, Nat.add_mod_right, Nat.mod_eq_of_lt (by omega)] at e
    by_cases c2 : a + j < n
    · rw [Nat.mod_eq_of_lt c2] at e; omega
    · rw [show a + j = (a + j - n) + n by omega, Nat.add_mod_right, Nat.mod_eq_of_lt (by omega)] at e; omega
theorem wN_at {n h : Nat} {l : List Message} (hn : 1 ≤ n) : ∀ {i : Nat}, i ≤ n → ∀ {j : Nat}, j < n → (wN n h l i).getD ((h + j) % n) zMessage = if j < i then l.getD j zMessage else zMessage := by
  intro i
  induction i with
  | zero =>
    intro _ j hj
    rw [if_neg (by omega)]
    have : (h + j) % n < n := Nat.mod_lt _ (by omega)
    simp [wN, List.getD_eq_getElem?_getD, List.getElem?_replicate, this]
  | succ i ih =>
    intro hi j hj
    have hm : (h + i) % n < n := Nat.mod_lt _ (by omega)
    rw [wN_succ, getD_set _ _ _ _ _ (by rw [wN_len]; exact hm), ih (by omega) hj]
    by_cases e : (h + i) % n = (h + j) % n
    · obtain rfl := modInj (by omega) hj e
      rw [if_pos rfl, if_pos (by omega)]
    · rw [if_neg e]
      by_cases c : j < i
      · rw [if_pos c, if_pos (by omega)]
      · rw [if_neg c, if_neg]
        intro h2
        obtain rfl : j = i := by omega
        exact e rfl
def rg (n h : Nat) (l : List Message) : Ring := ⟨wN n h l l.length, h, l.length⟩
theorem ordN_rg {n h : Nat} {l : List Message} (hn : 1 ≤ n) (hl : l.length ≤ n) : ordN (wN n h l l.length) h l.length = l := by
  unfold ordN
  rw [wN_len]
  refine List.ext_getElem (by simp) fun j h1 h2 => ?_
  simp only [List.getElem_map, List.getElem_range]
  rw [wN_at hn hl (by omega), if_pos h2, getDT h2]
theorem firstE_zero {l : List Message} (h : ∀ m ∈ l, msgV m = 0) : firstE l = 0 := by
  induction l with
  | nil => rfl
  | cons m l ih =>
    unfold firstE
    rw [if_neg (by simpa using h m (by simp))]
    exact ih fun x hx => h x (by simp [hx])
theorem ringV_rg {n h : Nat} {l : List Message} (hn : 1 ≤ n) (hn2 : n ≤ 12) (hh : h < n) (hl : l.length ≤ n) (hm : ∀ m ∈ l, msgV m = 0) (hd : (l.map (·.id)).Nodup) : ringV (rg n h l) = 0 := by
  have ho : ordD (rg n h l) = l := by rw [rg, ordD_eq, ordN_rg hn hl]
  unfold ringV
  rw [ho]
  have hlen : (rg n h l).cells.length = n := wN_len _ _ _ _
  rw [if_neg (by rw [Classical.not_not]; exact ⟨by rw [hlen]; omega, by rw [hlen]; omega, by simp [rg], by rw [hlen]; simp [rg]; omega, by simp [rg], by rw [hlen]; simp [rg]; omega⟩)]
  rw [if_neg, if_neg (by rw [firstE_zero hm]; simp), if_neg (by unfold dupI; simpa using hd)]
  unfold restF
  rw [hlen]
  rw [List.any_eq_true]
  rintro ⟨j, h1, h2⟩
  rw [List.mem_range'_1] at h1
  have hz : (rg n h l).size.toNat = l.length := by simp [rg]
  have e := wN_at (h := h) (l := l) hn hl (show j < n by omega)
  rw [if_neg (by omega)] at e
  exact of_decide_eq_true h2 e
theorem pushR_rg {n h : Nat} {l : List Message} {m : Message} (hn : 1 ≤ n) (hn2 : n ≤ 12) (hh : h < n) (hl : l.length < n) (hm : ∀ m ∈ l, msgV m = 0) (hd : (l.map (·.id)).Nodup) (hv : msgV m = 0) (hi : ∀ x ∈ l, x.id ≠ m.id) : pushR (rg n h l) m = 0 := by
  unfold pushR
  rw [if_neg (by rw [ringV_rg hn hn2 hh (by omega) hm hd]; simp), if_neg (by rw [hv]; simp), if_neg (by simp [rg, wN_len]; omega), if_neg]
  rw [rg, ordD_eq, ordN_rg hn (by omega)]
  have : fstI l m.id < 0 := by
    unfold fstI
    rw [idxI_neg]
    intro x hx
    simpa using hi x hx
  omega
theorem good_val {m : Message} {id lo hi : Int} (h : msgGood m id lo hi) (h1 : 1 ≤ id) (h2 : id ≤ 1000) (h3 : 0 ≤ lo) (h4 : hi < 65536) : msgV m = 0 := by
  obtain ⟨g1, g2, g3, g4, g5, g6, g7, g8, g9, g10, g11, g12⟩ := h
  unfold msgV
  rw [if_pos ⟨by omega, by omega, by omega, by omega, by omega, by omega, by omega, by omega, by omega, by omega, by omega, by omega⟩, if_neg (by omega)]
end Go.Proofs.YtjillamaceggeaaGreat

namespace Go.Proofs.YtjillamaceggeaaGreat
open Go Go.Sim
set_option linter.unusedSimpArgs false
set_option linter.unusedVariables false
set_option maxHeartbeats 10000000
set_option maxRecDepth 40000
theorem rot_surj {n h p : Nat} (hn : 1 ≤ n) (hp : p < n) : ∃ j, j < n ∧ (h + j) % n = p := by
  have hh : h % n < n := Nat.mod_lt _ (by omega)
  by_cases c : h % n ≤ p
  · refine ⟨p - h % n, by omega, ?_⟩
    rw [← Nat.mod_add_mod, show h % n + (p - h % n) = p by omega, Nat.mod_eq_of_lt hp]
  · refine ⟨p + n - h % n, by omega, ?_⟩
    rw [← Nat.mod_add_mod, show h % n + (p + n - h % n) = p + n by omega, Nat.add_mod_right, Nat.mod_eq_of_lt hp]
theorem cyc_ext {n h : Nat} {a b : List Message} (hn : 1 ≤ n) (ha : a.length = n) (hb : b.length = n) (H : ∀ j, j < n → a.getD ((h + j) % n) zMessage = b.getD ((h + j) % n) zMessage) : a = b := by
  refine List.ext_getElem (by omega) fun p h1 h2 => ?_
  obtain ⟨j, hj, e⟩ := rot_surj (h := h) hn (show p < n by omega)
  have := H j hj
  rw [e] at this
  simpa [List.getD_eq_getElem?_getD, h1, h2] using this
theorem mod_lt' {n i : Nat} (hn : 1 ≤ n) : i % n < n := Nat.mod_lt _ (by omega)
theorem wN_snoc {n h : Nat} {L : List Message} {m : Message} (hl : L.length < n) : wN n h (L ++ [m]) (L.length + 1) = (wN n h L L.length).set ((h + L.length) % n) m := by
  refine cyc_ext (n := n) (h := h) (by omega) (wN_len _ _ _ _) (by rw [List.length_set, wN_len]) fun j hj => ?_
  rw [wN_at (by omega) (by omega) hj, getD_set _ _ _ _ _ (by rw [wN_len]; exact mod_lt' (by omega))]
  by_cases c : j = L.length
  · subst c
    simp
  · have : ¬ (h + L.length) % n = (h + j) % n := fun e => c (modInj hl hj e).symm
    rw [if_neg this, wN_at (by omega) (by omega) hj]
    by_cases c2 : j < L.length
    · rw [if_pos (by omega), if_pos c2]
      simp [List.getD_eq_getElem?_getD, List.getElem?_append_left c2]
    · rw [if_neg (by omega), if_neg c2]
theorem wN_cons {n h : Nat} {L : List Message} {m : Message} (hl : L.length < n) (hh : h < n) : wN n ((h + n - 1) % n) (m :: L) (L.length + 1) = (wN n h L L.length).set ((h + n - 1) % n) m := by
  have hb : (h + n - 1) % n < n := mod_lt' (by omega)
  refine cyc_ext (n := n) (h := (h + n - 1) % n) (by omega) (wN_len _ _ _ _) (by rw [List.length_set, wN_len]) fun j hj => ?_
  rw [wN_at (by omega) (by omega) hj, getD_set _ _ _ _ _ (by rw [wN_len]; exact hb)]
  have e0 : ((h + n - 1) % n + 0) % n = (h + n - 1) % n := by rw [Nat.add_zero, Nat.mod_eq_of_lt hb]
  cases j with
  | zero => rw [e0, if_pos rfl, if_pos (by omega)]; rfl
  | succ k =>
    have : ¬ (h + n - 1) % n = ((h + n - 1) % n + (k + 1)) % n := fun e => by
      have := modInj (h := (h + n - 1) % n) (i := 0) (j := k + 1) (by omega) hj (by rw [e0]; exact e)
      omega
    rw [if_neg this, Nat.mod_add_mod, show h + n - 1 + (k + 1) = h + k + n by omega, Nat.add_mod_right, wN_at (by omega) (by omega) (by omega)]
    by_cases c2 : k < L.length
    · rw [if_pos (by omega), if_pos c2]
      simp [List.getD_eq_getElem?_getD]
    · rw [if_neg (by omega), if_neg c2]
theorem wN_upd {n h i z : Nat} {M : List Message} {m : Message} (hz : z ≤ n) (hm : M.length = z) (hi : i < z) : wN n h (M.set i m) z = (wN n h M z).set ((h + i) % n) m := by
  refine cyc_ext (n := n) (h := h) (by omega) (wN_len _ _ _ _) (by rw [List.length_set, wN_len]) fun j hj => ?_
  have q1 := getD_set (wN n h M z) ((h + i) % n) ((h + j) % n) m zMessage (by rw [wN_len]; exact mod_lt' (by omega))
  have q2 := getD_set M i j m zMessage (by omega)
  rw [wN_at (by omega) hz hj, q1, q2, wN_at (by omega) hz hj]
  by_cases c : i = j
  · subst c
    simp [hi]
  · have : ¬ (h + i) % n = (h + j) % n := fun e => c (modInj (by omega) hj e)
    rw [if_neg this, if_neg c]
theorem wN_pop {n h z : Nat} {M : List Message} (hz : z < n) (hm : M.length = z + 1) : wN n h (M.take z) z = (wN n h M (z + 1)).set ((h + z) % n) zMessage := by
  refine cyc_ext (n := n) (h := h) (by omega) (wN_len _ _ _ _) (by rw [List.length_set, wN_len]) fun j hj => ?_
  rw [wN_at (by omega) (by omega) hj, getD_set _ _ _ _ _ (by rw [wN_len]; exact mod_lt' (by omega)), wN_at (by omega) (by omega) hj]
  by_cases c : z = j
  · subst c
    simp
  · have : ¬ (h + z) % n = (h + j) % n := fun e => c (modInj (by omega) hj e)
    rw [if_neg this]
    by_cases c2 : j < z
    · rw [if_pos c2, if_pos (by omega)]
      simp [List.getD_eq_getElem?_getD, List.getElem?_take, c2]
    · rw [if_neg c2, if_neg (by omega)]
theorem getD_at {l : List Message} {j : Nat} (h : j < l.length) : l[j] = l.getD j zMessage := by
  rw [List.getD_eq_getElem?_getD, List.getElem?_eq_getElem h]; rfl
def mvN (L : List Message) (k i : Nat) : List Message := (List.range L.length).map fun j => L.getD (if k ≤ j ∧ j < i then j + 1 else j) zMessage
theorem mvN_len (L : List Message) (k i : Nat) : (mvN L k i).length = L.length := by simp [mvN]
theorem mvN_at {L : List Message} {k i j : Nat} (hj : j < L.length) : (mvN L k i).getD j zMessage = L.getD (if k ≤ j ∧ j < i then j + 1 else j) zMessage := by
  simp [mvN, List.getD_eq_getElem?_getD, hj]
theorem mvN_zero (L : List Message) (k : Nat) : mvN L k k = L := by
  refine List.ext_getElem (mvN_len _ _ _) fun j h1 h2 => ?_
  have := mvN_at (k := k) (i := k) h2
  rw [if_neg (by omega)] at this
  simpa [List.getD_eq_getElem?_getD, h1, h2] using this
theorem mvN_step {L : List Message} {k i : Nat} (hk : k ≤ i) (hi : i + 1 < L.length) : (mvN L k i).set i (L.getD (i + 1) zMessage) = mvN L k (i + 1) := by
  refine List.ext_getElem (by rw [List.length_set, mvN_len, mvN_len]) fun j h1 h2 => ?_
  have hj : j < L.length := by rw [mvN_len] at h2; exact h2
  have a1 := getD_set (mvN L k i) i j (L.getD (i + 1) zMessage) zMessage (by rw [mvN_len]; omega)
  have a2 := mvN_at (k := k) (i := i) hj
  have a3 := mvN_at (k := k) (i := i + 1) hj
  have b1 := getD_at h1
  have b2 := getD_at h2
  rw [b1, b2, a1, a2, a3]
  by_cases c : i = j
  · subst c
    rw [if_pos rfl, if_pos (by omega)]
  · rw [if_neg c]
    by_cases c2 : k ≤ j ∧ j < i
    · rw [if_pos c2, if_pos (by omega)]
    · rw [if_neg c2, if_neg (by omega)]
theorem mvN_end {L : List Message} {k : Nat} (hk : k < L.length) : (mvN L k (L.length - 1)).take (L.length - 1) = L.eraseIdx k := by
  refine List.ext_getElem (by rw [List.length_take, mvN_len, List.length_eraseIdx, if_pos hk]; omega) fun j h1 h2 => ?_
  have hj : j < L.length - 1 := by rw [List.length_take, mvN_len] at h1; omega
  rw [List.getElem_take, List.getElem_eraseIdx]
  have a2 := mvN_at (L := L) (k := k) (i := L.length - 1) (j := j) (by omega)
  have b2 : (mvN L k (L.length - 1))[j]'(by rw [mvN_len]; omega) = (mvN L k (L.length - 1)).getD j zMessage := by
    rw [List.getD_eq_getElem?_getD, List.getElem?_eq_getElem (by rw [mvN_len]; omega)]; rfl
  rw [b2, a2]
  by_cases c : j < k
  · rw [if_neg (by omega), dif_pos c, List.getD_eq_getElem?_getD, List.getElem?_eq_getElem (by omega)]; rfl
  · rw [if_pos (by omega), dif_neg c, List.getD_eq_getElem?_getD, List.getElem?_eq_getElem (by omega)]; rfl
theorem firstE_all : ∀ {l : List Message}, firstE l = 0 → ∀ m ∈ l, msgV m = 0 := by
  intro l
  induction l with
  | nil => intro _ m hm; cases hm
  | cons x l ih =>
    intro h m hm
    unfold firstE at h
    split at h
    · rename_i q; exact absurd h q
    · rename_i q
      cases hm with
      | head => simpa using q
      | tail _ hm => exact ih h m hm
theorem rg_of {r : Ring} (hr : ringV r = 0) : ∃ n h : Nat, r = rg n h (ordD r) ∧ 1 ≤ n ∧ n ≤ 12 ∧ h < n ∧ (ordD r).length ≤ n ∧ (∀ m ∈ ordD r, msgV m = 0) ∧ ((ordD r).map (·.id)).Nodup := by
  have hok := ringV_zero hr
  obtain ⟨c, h, z, rfl, h1, h2, h3, h4⟩ := ringOK_nat hok
  rw [ringV_nat hok] at hr
  have ho : ordD ⟨c, h, z⟩ = ordN c h z := ordD_eq c h z
  rw [ho]
  have hl : (ordN c h z).length = z := ordN_len c h z
  split at hr
  · cases hr
  rename_i hrest
  split at hr
  · rename_i q; exact absurd hr q
  rename_i hfirst
  split at hr
  · cases hr
  rename_i hdup
  refine ⟨c.length, h, ?_, h1, h2, h3, by omega, ?_, ?_⟩
  · unfold rg
    rw [hl]
    congr 1
    refine cyc_ext (n := c.length) (h := h) h1 rfl (wN_len _ _ _ _) fun j hj => ?_
    rw [wN_at h1 h4 hj]
    by_cases cj : j < z
    · rw [if_pos cj]
      simp [ordN, List.getD_eq_getElem?_getD, cj]
    · rw [if_neg cj]
      have hr2 : restF ⟨c, h, z⟩ z c.length = false := by simpa using hrest
      unfold restF at hr2
      rw [List.any_eq_false] at hr2
      have := hr2 j (List.mem_range'_1.2 ⟨by omega, by omega⟩)
      simpa using this
  · have hf : firstE (ordN c h z) = 0 := by simpa using hfirst
    generalize ordN c h z = w at *
    clear hl ho hdup hrest
    intro m hm
    have := firstE_all hf m hm
    exact this
  · have : dupI ((ordN c h z).map (·.id)) = false := by simpa using hdup
    unfold dupI at this
    simpa using this
end Go.Proofs.YtjillamaceggeaaGreat
