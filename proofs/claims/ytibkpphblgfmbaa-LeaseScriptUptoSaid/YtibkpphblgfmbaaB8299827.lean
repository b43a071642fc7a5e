/-
  Heaps of deadlines: what the functions of package due compute, part 5.
  Heaps of deadlines, in plain terms: sifting keeps the elements and mends the order.
  Heaps of deadlines, in plain terms: what a valid heap is, and what Push, Pop and Remove make of it.
  Heaps as the reference builds them.
  Heaps as the reader of numbers builds them.
  The reference of heaps: sifting down, cutting, Pop, Remove, equality.
  The reference of heaps: cutting, Pop, Remove.
  Sorting by insertion, and Until.
  Until, as the reference has it.
  Messages: both validate alike.
  Tables of leases: what is wrong with them.
  Tables of leases: what they find.
  Tables of leases: Validate of both.
  Tables of leases: both ways to validate agree.
  Copies of lists of leases and of items.
  Equality of structs and of lists.
  Equality of rings, tables, shards, stores, directories and arenas.
  The reader: bodies.
  A list that was just made, handed back as a row that can be written.
  Whether the reader has more.
-/
import Derived.Test.YtibkpphblgfmbaaB99de6c5
import Derived.Test.YtibkpphblgfmbaaB46aaa12
set_option linter.unusedSimpArgs false
set_option linter.unusedVariables false
namespace Go.Proofs.Ytibkpphblgfmbaa
open Go Go.Sim
set_option linter.unusedSimpArgs false
set_option linter.unusedVariables false
set_option maxHeartbeats 10000000
set_option maxRecDepth 40000
theorem downL_length (l : List Due) (i : Nat) : (downL l i).length = l.length := by
  fun_induction downL l i with
  | case1 l i h k h1 ih => rw [ih, swp_length]
  | case2 => rfl
  | case3 => rfl
def dropL (h : List Due) (i : Nat) : List Due :=
  if i = h.length - 1 then h.take (h.length - 1) else
  let l := (h.take (h.length - 1)).set i (h.getD (h.length - 1) (0, 0))
  if (upL l i).2 = i then downL (upL l i).1 i else (upL l i).1
theorem drop_ok (h : List Due) (i : Nat) (hi : i < h.length) (hL : h.length ≤ 1000) : callL G N_due_drop [.d (.sl (h.map eD)), .d (.int .i64 i)] [] = some (.d (.sl ((dropL h i).map eD)), []) := by
  have hc := clone_ok ((h.take (h.length - 1)).map eD) (allSize_eD _) (by simp [LIM]; omega)
  obtain ⟨m, hm⟩ : ∃ m, m = h.length - 1 := ⟨_, rfl⟩
  have hm2 : h.length = m + 1 := by omega
  obtain ⟨t, ht⟩ : ∃ t, t = h.take m := ⟨_, rfl⟩
  have htl : t.length = m := by simp [ht]; omega
  rw [← hm] at hc
  rw [← ht] at hc
  have e1 : List.take m (h.map eD) = t.map eD := by rw [ht, List.map_take]
  have e0 : (m : Int) + 1 - 1 = m := by omega
  have hs := allSize_eD h
  have hs2 := allSize_eD t
  unfold dropL
  rw [← hm, ← ht]
  clear hm ht
  by_cases hi2 : i = m
  · subst hi2
    rw [if_pos rfl]
    rw [callL_code g_due_drop (by simp)]; simp -implicitDefEqProofs (maxSteps := 4000000) (disch := omega) only [c_due_drop, r_due_drop, getDT, go_sem, *] /-A0-/
  · have hi3 : i < m := by omega
    rw [if_neg hi2]
    obtain ⟨l, hl⟩ : ∃ l, l = t.set i (h.getD m (0, 0)) := ⟨_, rfl⟩
    have hll : l.length = m := by rw [hl, List.length_set, htl]
    have hu := up_ok l i (by omega) (by omega)
    simp only [rowL, hll] at hu
    rw [← hl]
    show callL G N_due_drop _ _ = some (.d (.sl ((if (upL l i).2 = i then downL (upL l i).1 i else (upL l i).1).map eD)), [])
    have hu2 : (upL l i).1.length = m := by rw [upL_length, hll]
    have hd := down_ok (upL l i).1 i (by omega) (by omega)
    have hd2 : (downL (upL l i).1 i).length = m := by rw [downL_length, hu2]
    simp only [rowL, hu2] at hd
    have e5 : (t.map eD).set i (eD h[m]) = l.map eD := by rw [hl, getDT (by omega), List.map_set]
    generalize downL (upL l i).1 i = r2 at *
    generalize upL l i = r at *
    clear hl hi2
    by_cases h4 : r.2 = i
    · rw [if_pos h4]
      rw [h4] at hu
      rw [callL_code g_due_drop (by simp)]; simp -implicitDefEqProofs (maxSteps := 4000000) (disch := omega) only [c_due_drop, r_due_drop, getDT, go_sem, *]; (try simp only [pA, pB, pC, pD, pE, pF, pG, pH, pI, pJ, pK, pL, pM, pN, pO, pP, if_true, if_false]); repeat' (first | done | rfl | ((first | refine iteC (fun hq => ?_) (fun hq => ?_) | refine iteP (fun hq => ?_) (fun hq => ?_)) <;> (try (first | (exfalso; omega) | contradiction)) <;> (try simp -implicitDefEqProofs (maxSteps := 4000000) (disch := omega) only [getDT, go_sem, *]) <;> (try simp only [pA, pB, pC, pD, pE, pF, pG, pH, pI, pJ, pK, pL, pM, pN, pO, pP, if_true, if_false]))); (all_goals try rfl); (all_goals try (repeat' (first | done | rfl | (exfalso; omega) | contradiction | (refine iteR (fun hq => ?_) (fun hq => ?_))))) /-A1-/
    · rw [if_neg h4]
      clear hd hd2
      rw [callL_code g_due_drop (by simp)]; simp -implicitDefEqProofs (maxSteps := 4000000) (disch := omega) only [c_due_drop, r_due_drop, getDT, go_sem, *]; (try simp only [pA, pB, pC, pD, pE, pF, pG, pH, pI, pJ, pK, pL, pM, pN, pO, pP, if_true, if_false]); repeat' (first | done | rfl | ((first | refine iteC (fun hq => ?_) (fun hq => ?_) | refine iteP (fun hq => ?_) (fun hq => ?_)) <;> (try (first | (exfalso; omega) | contradiction)) <;> (try simp -implicitDefEqProofs (maxSteps := 4000000) (disch := omega) only [getDT, go_sem, *]) <;> (try simp only [pA, pB, pC, pD, pE, pF, pG, pH, pI, pJ, pK, pL, pM, pN, pO, pP, if_true, if_false]))); (all_goals try rfl); (all_goals try (repeat' (first | done | rfl | (exfalso; omega) | contradiction | (refine iteR (fun hq => ?_) (fun hq => ?_))))) /-A2-/
def errD (h : List Due) (e : Int) : Int := if validateD h ≠ 0 then validateD h else if e ≠ 0 then e else 0
def popD (h : List Due) : List Due × Due × Int :=
  if validateD h ≠ 0 then ([], (0, 0), validateD h) else if h = [] then ([], (0, 0), 4) else (dropL h 0, h.getD 0 (0, 0), 0)
def removeD (h : List Due) (id : Int) : List Due × Int :=
  if validateD h ≠ 0 then ([], validateD h) else if findD h id < 0 then ([], 4) else (dropL h (findD h id).toNat, 0)
theorem find_lt (h : List Due) (id : Int) : findD h id < h.length := by
  unfold findD idxI
  cases e : List.findIdx? (fun d : Due => decide (d.2 = id)) h with
  | none => simp only; omega
  | some i => have := (List.findIdx?_eq_some_iff_getElem.1 e).1; simp only; omega
theorem remove_ok (h : List Due) (id : Int) (hL : h.length ≤ LIM) : callL G N_due_Remove [.d (.sl (h.map eD)), .d (.int .i64 id)] [] = some (.d (eDE (removeD h id)), []) := by
  have hv := validate_ok h hL
  have hf := find_ok h id hL
  have hs := allSize_eD h
  unfold removeD eDE
  rw [callL_code g_due_Remove (by simp)]; simp -implicitDefEqProofs (maxSteps := 4000000) (disch := omega) only [c_due_Remove, r_due_Remove, go_sem, Nat.zero_add]
  by_cases h0 : validateD h = 0
  · have h12 := validateD_le h0
    by_cases hn : findD h id < 0
    · simp -implicitDefEqProofs (maxSteps := 4000000) (disch := omega) only [hv, h0, hf, hn, go_sem]
    · have hd := drop_ok h (findD h id).toNat (by have := find_lt h id; omega) (by omega)
      rw [show (((findD h id).toNat : Nat) : Int) = findD h id by omega] at hd
      simp -implicitDefEqProofs (maxSteps := 4000000) (disch := omega) only [hv, h0, hf, hn, hd, go_sem]
  · simp -implicitDefEqProofs (maxSteps := 4000000) (disch := omega) only [hv, h0, go_sem]
end Go.Proofs.Ytibkpphblgfmbaa

namespace Go.Proofs.Ytibkpphblgfmbaa
open Go Go.Sim
set_option linter.unusedSimpArgs false
set_option linter.unusedVariables false
set_option maxHeartbeats 10000000
abbrev dz : Due := (0, 0)
theorem lt_iff (a b : Due) : lt a b = true ↔ a.1 < b.1 ∨ (a.1 = b.1 ∧ a.2 < b.2) := by
  unfold lt cmpD cmpI
  rw [decide_eq_true_iff]
  repeat' split
  all_goals omega
theorem lt_ff (a b : Due) : lt a b = false ↔ b.1 < a.1 ∨ (b.1 = a.1 ∧ b.2 ≤ a.2) := by
  rw [← Bool.not_eq_true, lt_iff]; omega
theorem lt_asymm {a b : Due} (h : lt a b = true) : lt b a = false := by rw [lt_iff] at h; rw [lt_ff]; omega
theorem le_trans' {a b c : Due} (h1 : lt b a = false) (h2 : lt c b = false) : lt c a = false := by rw [lt_ff] at *; omega
def HeapO (l : List Due) : Prop := ∀ k, 1 ≤ k → k < l.length → lt (l.getD k dz) (l.getD ((k - 1) / 2) dz) = false
theorem swp_get (l : List Due) (i j k : Nat) (hi : i < l.length) (hj : j < l.length) : (swp l i j).getD k dz = if k = j then l.getD i dz else if k = i then l.getD j dz else l.getD k dz := by
  unfold swp
  simp only [List.getD_eq_getElem?_getD, List.getElem?_set, List.length_set]
  by_cases h1 : j = k
  · subst h1; simp [hj]
  · rw [if_neg h1, if_neg (Ne.symm h1)]
    by_cases h2 : i = k
    · subst h2; simp [hi]
    · rw [if_neg h2, if_neg (Ne.symm h2)]
theorem swp_perm (l : List Due) (i j : Nat) (hi : i < l.length) (hj : j < l.length) : (swp l i j).Perm l := by
  unfold swp
  have := List.set_set_perm hi hj
  simpa [hi, hj] using this
theorem up_perm (l : List Due) (i : Nat) (hi : i < l.length) : (upL l i).1.Perm l := by
  fun_induction upL l i with
  | case1 l i h0 h1 ih => exact (ih (by rw [swp_length]; omega)).trans (swp_perm l _ _ hi (by omega))
  | case2 => exact .refl _
  | case3 => exact .refl _
theorem up_heap (l : List Due) (i : Nat) (hi : i < l.length) (h1 : ∀ k, 1 ≤ k → k < l.length → k ≠ i → lt (l.getD k dz) (l.getD ((k - 1) / 2) dz) = false)
    (h2 : ∀ k, 1 ≤ k → k < l.length → (k - 1) / 2 = i → 1 ≤ i → lt (l.getD k dz) (l.getD ((i - 1) / 2) dz) = false) : HeapO (upL l i).1 := by
  fun_induction upL l i with
  | case1 l i h0 hlt ih =>
    have hp : (i - 1) / 2 < l.length := by omega
    have e := fun k => swp_get l i ((i - 1) / 2) k hi hp
    refine ih (by rw [swp_length]; omega) (fun k ha hb hc => ?_) (fun k ha hb hc hd => ?_)
    · rw [swp_length] at hb
      rw [e, e]
      by_cases hk : k = i
      · subst hk
        rw [if_neg (by omega), if_pos rfl, if_pos rfl]
        exact lt_asymm hlt
      · rw [if_neg hc, if_neg hk]
        by_cases hq : (k - 1) / 2 = (i - 1) / 2
        · rw [if_pos hq]
          have := h1 k ha hb hk
          rw [hq] at this
          exact le_trans' (lt_asymm hlt) this
        · rw [if_neg hq]
          by_cases hr : (k - 1) / 2 = i
          · rw [if_pos hr]; exact h2 k ha hb hr (by omega)
          · rw [if_neg hr]; exact h1 k ha hb hk
    · rw [swp_length] at hb
      rw [e, e, if_neg (show k ≠ (i - 1) / 2 by omega), if_neg (show ((i - 1) / 2 - 1) / 2 ≠ (i - 1) / 2 by omega), if_neg (show ((i - 1) / 2 - 1) / 2 ≠ i by omega)]
      have hpp := h1 ((i - 1) / 2) hd hp (by omega)
      by_cases hk : k = i
      · rw [if_pos hk]; exact hpp
      · rw [if_neg hk]
        have := h1 k ha hb hk
        rw [hc] at this
        exact le_trans' hpp this
  | case2 l i h0 hlt =>
    intro k ha hb
    by_cases hk : k = i
    · subst hk; simpa using hlt
    · exact h1 k ha hb hk
  | case3 l i h0 =>
    intro k ha hb
    exact h1 k ha hb (by omega)
theorem down_perm (l : List Due) (i : Nat) (hi : i < l.length) : (downL l i).Perm l := by
  fun_induction downL l i with
  | case1 l i h k h1 ih =>
    have hk : k < l.length := by simp only [k]; split <;> omega
    exact (ih (by rw [swp_length]; exact hk)).trans (swp_perm l _ _ hi hk)
  | case2 => exact .refl _
  | case3 => exact .refl _
theorem down_heap (l : List Due) (i : Nat) (hi : i < l.length) (h1 : ∀ k, 1 ≤ k → k < l.length → (k - 1) / 2 ≠ i → lt (l.getD k dz) (l.getD ((k - 1) / 2) dz) = false)
    (h2 : ∀ k, 1 ≤ k → k < l.length → (k - 1) / 2 = i → 1 ≤ i → lt (l.getD k dz) (l.getD ((i - 1) / 2) dz) = false) : HeapO (downL l i) := by
  fun_induction downL l i with
  | case1 l i h k hlt ih =>
    have hk : k < l.length ∧ i < k ∧ (k - 1) / 2 = i ∧ ∀ q, 1 ≤ q → q < l.length → (q - 1) / 2 = i → lt (l.getD q dz) (l.getD k dz) = false := by
      simp only [k]
      split
      · rename_i hc
        refine ⟨by omega, by omega, by omega, fun q ha hb hq => ?_⟩
        have : q = 2 * i + 1 ∨ q = 2 * i + 1 + 1 := by omega
        rcases this with rfl | rfl
        · exact lt_asymm hc.2
        · rw [lt_ff]; omega
      · rename_i hc
        refine ⟨by omega, by omega, by omega, fun q ha hb hq => ?_⟩
        have : q = 2 * i + 1 ∨ q = 2 * i + 1 + 1 := by omega
        rcases this with rfl | rfl
        · rw [lt_ff]; omega
        · simp only [hb, true_and, Bool.not_eq_true] at hc; exact hc
    obtain ⟨hk1, hk2, hk3, hk4⟩ := hk
    clear_value k
    have e := fun q => swp_get l i k q hi hk1
    refine ih (by rw [swp_length]; exact hk1) (fun q ha hb hc => ?_) (fun q ha hb hc hd => ?_)
    · rw [swp_length] at hb
      rw [e, e]
      by_cases hq : q = k
      · subst hq
        rw [if_pos rfl, hk3, if_neg (by omega), if_pos rfl]
        exact lt_asymm hlt
      · rw [if_neg hq, if_neg hc]
        by_cases hr : q = i
        · subst hr
          rw [if_pos rfl, if_neg (by omega)]
          exact h2 k (by omega) hk1 hk3 ha
        · rw [if_neg hr]
          by_cases hs : (q - 1) / 2 = i
          · rw [if_pos hs]; exact hk4 q ha hb hs
          · rw [if_neg hs]; exact h1 q ha hb hs
    · rw [swp_length] at hb
      rw [e, e, if_neg (show q ≠ k by omega), if_neg (show q ≠ i by omega), hk3, if_neg (by omega), if_pos rfl]
      have := h1 q ha hb (by omega)
      rw [hc] at this; exact this
  | case2 l i h k hlt =>
    intro q ha hb
    by_cases hq : (q - 1) / 2 = i
    · have hlt : lt (l.getD k dz) (l.getD i dz) = false := by simpa using hlt
      rw [hq]
      refine le_trans' hlt ?_
      simp only [k]
      have : q = 2 * i + 1 ∨ q = 2 * i + 1 + 1 := by omega
      split
      · rename_i hc
        rcases this with rfl | rfl
        · exact lt_asymm hc.2
        · rw [lt_ff]; omega
      · rename_i hc
        rcases this with rfl | rfl
        · rw [lt_ff]; omega
        · simp only [hb, true_and, Bool.not_eq_true] at hc; exact hc
    · exact h1 q ha hb hq
  | case3 l i h =>
    intro q ha hb
    exact h1 q ha hb (by omega)
end Go.Proofs.Ytibkpphblgfmbaa

namespace Go.Proofs.Ytibkpphblgfmbaa
open Go Go.Sim
set_option linter.unusedSimpArgs false
set_option linter.unusedVariables false
set_option maxHeartbeats 10000000
theorem findD_lt (h : List Due) (j : Int) : findD h j < h.length := by
  unfold findD idxI
  cases e : List.findIdx? (fun d : Due => decide (d.2 = j)) h with
  | none => simp only; omega
  | some i => have := (List.findIdx?_eq_some_iff_getElem.1 e).1; simp only; omega
theorem findD_at (h : List Due) (j : Int) (h0 : 0 ≤ findD h j) : (h.getD (findD h j).toNat dz).2 = j := by
  revert h0
  unfold findD idxI
  cases e : List.findIdx? (fun d : Due => decide (d.2 = j)) h with
  | none => simp
  | some i =>
    obtain ⟨h1, h2, _⟩ := List.findIdx?_eq_some_iff_getElem.1 e
    simp only [Int.toNat_natCast]
    intro _
    simpa [h1] using h2
theorem findD_neg (h : List Due) (j : Int) : findD h j < 0 ↔ j ∉ h.map (·.2) := by
  unfold findD idxI
  cases e : List.findIdx? (fun d : Due => decide (d.2 = j)) h with
  | none =>
    simp only [List.findIdx?_eq_none_iff, decide_eq_false_iff_not] at e
    simp only [show ((-1 : Int) < 0) by omega, true_iff, List.mem_map, not_exists, not_and]
    exact fun d hd => e d hd
  | some i =>
    obtain ⟨h1, h2, _⟩ := List.findIdx?_eq_some_iff_getElem.1 e
    simp only [decide_eq_true_eq] at h2
    refine ⟨fun h => by simp only at h; omega, fun hn => absurd (List.mem_map.2 ⟨_, List.getElem_mem h1, h2⟩) hn⟩
theorem findD_idx (h : List Due) (i : Nat) (hi : i < h.length) (hd : (h.map (·.2)).Nodup) : findD h (h.getD i dz).2 = i := by
  unfold findD idxI
  have : List.findIdx? (fun d : Due => decide (d.2 = (h.getD i dz).2)) h = some i := by
    refine List.findIdx?_eq_some_iff_getElem.2 ⟨hi, by simp [hi], fun j hj => ?_⟩
    have := (List.pairwise_iff_getElem.1 hd) j i (by simp; omega) (by simpa using hi) hj
    simpa [hi] using this
  rw [this]
theorem nodup_of (h : List Due) (hf : ∀ i, i < h.length → findD h (h.getD i dz).2 = i) : (h.map (·.2)).Nodup := by
  refine List.pairwise_iff_getElem.2 fun i j hi hj hij => ?_
  simp only [List.length_map] at hi hj
  simp only [List.getElem_map]
  intro he
  have h1 := hf i hi
  have h2 := hf j hj
  simp only [List.getD_eq_getElem?_getD, List.getElem?_eq_getElem hi, List.getElem?_eq_getElem hj, Option.getD_some] at h1 h2
  rw [he] at h1
  omega
structure Ok (h : List Due) : Prop where
  len : h.length ≤ 12
  val : ∀ d ∈ h, validD d = true
  ids : (h.map (·.2)).Nodup
  ord : HeapO h
theorem validate_iff (h : List Due) : validateD h = 0 ↔ Ok h := by
  unfold validateD
  by_cases h1 : 12 < h.length
  · rw [if_pos h1]; exact ⟨fun h => by omega, fun o => absurd o.len (by omega)⟩
  rw [if_neg h1]
  by_cases h2 : h.any (fun d => !validD d) = true
  · rw [if_pos h2]
    refine ⟨fun h => by omega, fun o => ?_⟩
    obtain ⟨d, hd, h3⟩ := List.any_eq_true.1 h2
    simp [o.val d hd] at h3
  rw [if_neg h2]
  have h2 : ∀ d ∈ h, validD d = true := by simpa using h2
  by_cases h3 : (List.range' 0 h.length).any (dupAt h) = true
  · rw [if_pos h3]
    refine ⟨fun h => by omega, fun o => ?_⟩
    obtain ⟨i, hi, h4⟩ := List.any_eq_true.1 h3
    simp only [List.mem_range'_1, Nat.zero_add] at hi
    simp [dupAt, findD_idx h i hi.2 o.ids] at h4
    exact absurd (findD_idx h i hi.2 o.ids) (by simpa [dz] using h4)
  rw [if_neg h3]
  have h3 : ∀ i, i < h.length → findD h (h.getD i dz).2 = i := by
    intro i hi
    simp only [List.any_eq_true, not_exists, not_and, List.mem_range'_1] at h3
    have := h3 i ⟨by omega, by omega⟩
    simpa [dupAt] using this
  by_cases h4 : (List.range' 1 (h.length - 1)).any (ordAt h) = true
  · rw [if_pos h4]
    refine ⟨fun h => by omega, fun o => ?_⟩
    obtain ⟨i, hi, h5⟩ := List.any_eq_true.1 h4
    simp only [List.mem_range'_1] at hi
    have := o.ord i hi.1 (by omega)
    unfold ordAt at h5
    rw [h5] at this; cases this
  rw [if_neg h4]
  refine ⟨fun _ => ⟨by omega, h2, nodup_of h h3, fun k ha hb => ?_⟩, fun _ => rfl⟩
  simp only [List.any_eq_true, not_exists, not_and, List.mem_range'_1] at h4
  have := h4 k ⟨by omega, by omega⟩
  simpa [ordAt] using this
theorem Ok.of_perm {h l : List Due} (hp : l.Perm h) (hl : h.length ≤ 12) (hv : ∀ d ∈ h, validD d = true) (hi : (h.map (·.2)).Nodup) (ho : HeapO l) : Ok l :=
  ⟨by rw [hp.length_eq]; exact hl, fun d hd => hv d (hp.mem_iff.1 hd), (hp.map _).nodup_iff.2 hi, ho⟩
theorem ok_nil : Ok [] := ⟨by simp, by simp, by simp, fun k _ h => by simp at h⟩
theorem getD_app (h : List Due) (d : Due) (k : Nat) : (h ++ [d]).getD k dz = if k < h.length then h.getD k dz else if k = h.length then d else dz := by
  simp only [List.getD_eq_getElem?_getD, List.getElem?_append]
  split
  · rfl
  · rename_i hk
    by_cases hk2 : k = h.length
    · subst hk2; simp
    · rw [if_neg hk2, List.getElem?_eq_none (by simp; omega)]; rfl
theorem push_ok' {h : List Due} {d : Due} (o : Ok h) (hd : validD d = true) (hl : h.length < 12) (hn : d.2 ∉ h.map (·.2)) : pushD h d = (pushL h d, 0) ∧ Ok (pushL h d) ∧ (pushL h d).Perm (d :: h) := by
  have hp : (pushL h d).Perm (d :: h) := (up_perm (h ++ [d]) h.length (by simp)).trans (List.perm_append_comm (l₂ := [d]))
  have he : pushE h d = 0 := by
    unfold pushE
    rw [(validate_iff h).2 o, hd, if_neg (by simp), if_neg (by simp), if_neg (by omega), if_neg]
    have := (findD_neg h d.2).2 hn; omega
  refine ⟨by unfold pushD; rw [he, if_pos rfl], .of_perm hp (by simp; omega) (fun x hx => by rcases List.mem_cons.1 hx with rfl | hx; exact hd; exact o.val x hx) (by simpa using ⟨by simpa using hn, o.ids⟩) ?_, hp⟩
  refine up_heap _ _ (by simp) (fun k ha hb hc => ?_) (fun k ha hb hc => ?_)
  · simp only [List.length_append, List.length_cons, List.length_nil] at hb
    rw [getD_app, getD_app, if_pos (by omega), if_pos (by omega)]
    exact o.ord k ha (by omega)
  · simp only [List.length_append, List.length_cons, List.length_nil] at hb
    omega
theorem set_perm' : ∀ (l : List Due) (i : Nat) (b : Due), i < l.length → (l.getD i dz :: l.set i b).Perm (b :: l) := by
  intro l
  induction l with
  | nil => intro i b h; simp at h
  | cons x xs ih =>
    intro i b h
    cases i with
    | zero => exact .swap _ _ _
    | succ i =>
      simp only [List.length_cons, Nat.add_lt_add_iff_right] at h
      simp only [List.getD_cons_succ, List.set_cons_succ]
      exact (List.Perm.swap _ _ _).trans (((ih i b h).cons x).trans (.swap _ _ _))
theorem take_last (h : List Due) (h0 : 0 < h.length) : h = h.take (h.length - 1) ++ [h.getD (h.length - 1) dz] := by
  have := List.take_append_getLast h (by intro hn; simp [hn] at h0)
  rw [List.getLast_eq_getElem] at this
  simpa [show h.length - 1 < h.length by omega] using this.symm
theorem upL_at {l : List Due} {i : Nat} : (upL l i).2 ≤ i ∧ ((0 < i ∧ lt (l.getD i dz) (l.getD ((i - 1) / 2) dz) = true ∧ (upL l i).2 < i) ∨ (¬ (0 < i ∧ lt (l.getD i dz) (l.getD ((i - 1) / 2) dz) = true) ∧ upL l i = (l, i))) := by
  fun_induction upL l i with
  | case1 l i h0 hlt ih => exact ⟨by omega, .inl ⟨h0, hlt, by omega⟩⟩
  | case2 l i h0 hlt => exact ⟨by simp, .inr ⟨fun h => hlt h.2, rfl⟩⟩
  | case3 l i h0 => exact ⟨by simp, .inr ⟨fun h => h0 h.1, rfl⟩⟩
theorem drop_ok' {h : List Due} (o : Ok h) (i : Nat) (hi : i < h.length) : Ok (dropL h i) ∧ (h.getD i dz :: dropL h i).Perm h := by
  have hlast := take_last h (by omega)
  obtain ⟨m, hm⟩ : ∃ m, m = h.length - 1 := ⟨_, rfl⟩
  obtain ⟨t, ht⟩ : ∃ t, t = h.take m := ⟨_, rfl⟩
  have htl : t.length = m := by simp [ht]; omega
  have hg : ∀ k, k < m → t.getD k dz = h.getD k dz := fun k hk => by simp [ht, List.getElem?_take, hk]
  rw [← hm, ← ht] at hlast
  unfold dropL
  rw [← hm, ← ht]
  have key : ∀ l : List Due, (h.getD i dz :: l).Perm h → HeapO l → Ok l ∧ (h.getD i dz :: l).Perm h := fun l hp ho => by
    refine ⟨⟨?_, fun d hd => o.val d (hp.mem_iff.1 (by simp [hd])), ?_, ho⟩, hp⟩
    · have := hp.length_eq; simp at this; have := o.len; omega
    · have := ((hp.map (·.2)).nodup_iff).2 o.ids
      rw [List.map_cons, List.nodup_cons] at this
      exact this.2
  by_cases h1 : i = m
  · rw [if_pos h1]
    refine key t ?_ fun k ha hb => ?_
    · subst h1
      conv => rhs; rw [hlast]
      exact (List.perm_append_comm (l₁ := [_]))
    · rw [htl] at hb
      rw [hg _ hb, hg _ (by omega)]
      exact o.ord k ha (by omega)
  · rw [if_neg h1]
    have him : i < m := by omega
    simp only
    obtain ⟨x, hx⟩ : ∃ x, x = h.getD m dz := ⟨_, rfl⟩
    obtain ⟨l, hl⟩ : ∃ l, l = t.set i x := ⟨_, rfl⟩
    have hll : l.length = m := by rw [hl, List.length_set, htl]
    have hlg : ∀ k, k < m → l.getD k dz = if k = i then x else h.getD k dz := fun k hk => by
      rw [← hg k hk, hl]
      simp only [List.getD_eq_getElem?_getD, List.getElem?_set, htl]
      by_cases hki : k = i
      · subst hki; simp [hk]
      · rw [if_neg (Ne.symm hki), if_neg hki]
    have hp : (h.getD i dz :: l).Perm h := by
      rw [← hg i him, hl]
      refine (set_perm' t i x (by omega)).trans ?_
      rw [hlast, hx]
      conv => rhs; rw [← hlast]
      conv => rhs; rw [hlast]
      exact List.perm_append_comm (l₁ := [_])
    rw [← hx, ← hl]
    have ord := o.ord
    have hch : ∀ k, 1 ≤ k → k < l.length → (k - 1) / 2 = i → 1 ≤ i → lt (l.getD k dz) (l.getD ((i - 1) / 2) dz) = false := fun k ha hb hc hd => by
      rw [hlg k (by omega), hlg _ (by omega), if_neg (by omega), if_neg (by omega)]
      have a := ord k ha (by omega)
      have b := ord i hd (by omega)
      rw [hc] at a
      exact le_trans' b a
    rcases (upL_at (l := l) (i := i)).2 with ⟨h0, hlt, hmv⟩ | ⟨hno, heq⟩
    · rw [if_neg (by omega)]
      refine key _ (((up_perm l i (by omega)).cons _).trans hp) (up_heap l i (by omega) (fun k ha hb hc => ?_) hch)
      by_cases hq : (k - 1) / 2 = i
      · have a := hch k ha hb hq (by omega)
        rw [hq]
        exact le_trans' (lt_asymm hlt) a
      · rw [hlg k (by omega), hlg _ (by omega), if_neg hc, if_neg hq]
        exact ord k ha (by omega)
    · rw [heq, if_pos rfl]
      refine key _ (((down_perm l i (by omega)).cons _).trans hp) (down_heap l i (by omega) (fun k ha hb hc => ?_) hch)
      by_cases hk : k = i
      · subst hk
        rw [← Bool.not_eq_true]
        exact fun h => hno ⟨by omega, h⟩
      · rw [hlg k (by omega), hlg _ (by omega), if_neg hk, if_neg hc]
        exact ord k ha (by omega)
theorem top_min {h : List Due} (o : HeapO h) : ∀ k, k < h.length → lt (h.getD k dz) (h.getD 0 dz) = false := by
  intro k
  induction k using Nat.strongRecOn with
  | ind k ih =>
    intro hk
    by_cases h0 : k = 0
    · subst h0; rw [lt_ff]; omega
    · exact le_trans' (ih ((k - 1) / 2) (by omega) (by omega)) (o k (by omega) hk)
theorem top_min' {h : List Due} (o : HeapO h) (d : Due) (hd : d ∈ h) : lt d (h.getD 0 dz) = false := by
  obtain ⟨k, hk, rfl⟩ := List.mem_iff_getElem.1 hd
  have := top_min o k hk
  simpa [hk] using this
end Go.Proofs.Ytibkpphblgfmbaa

namespace Go.Proofs.Ytibkpphblgfmbaa
open Go Go.Sim
set_option linter.unusedSimpArgs false
set_option linter.unusedVariables false
set_option maxHeartbeats 10000000
set_option maxRecDepth 40000
def refIdxR (h : List Due) (j : Int) (k : Nat) : AExit × St := match (h.drop k).findIdx? (fun d => decide (d.2 = j)) with | some i => (.ret, ⟨[(4, .d (.int .i64 ((k + i : Nat) : Int)))], []⟩) | none => (.exit 0, ⟨[], []⟩)
def refV0 (h : List Due) (k : Nat) : AExit × St := if (h.drop k).any (fun d => !validD d) then (.ret, ⟨[(2, .d (.int .i64 1))], []⟩) else (.exit 0, ⟨[(0, .d (.sl (h.map eD)))], []⟩)
def refV1 (h : List Due) (k : Nat) : AExit × St := if (List.range' k (h.length - k)).any (dupAt h) then (.ret, ⟨[(2, .d (.int .i64 10))], []⟩) else (.exit 2, ⟨[(0, .d (.sl (h.map eD)))], []⟩)
def refV2 (h : List Due) (k : Nat) : AExit × St := if (List.range' k (h.length - k)).any (ordAt h) then (.ret, ⟨[(2, .d (.int .i64 11))], []⟩) else (.exit 4, ⟨[], []⟩)
theorem setSame {h : List Due} {i j : Nat} (hi : i < h.length) (hj : j < h.length) : (((h.map eD).set i (eD h[j])).map AV.d)[j]? = some (.d (eD h[j])) := by
  rw [List.getElem?_map, List.getElem?_set]
  by_cases e : i = j
  · rw [if_pos e, if_pos (by simpa using hi)]; rfl
  · rw [if_neg e, List.getElem?_map, List.getElem?_eq_getElem hj]; rfl
def refUpS (p : List Due × Nat) : St := ⟨[(0, .d (.sl (p.1.map eD))), (1, .d (.int .i64 p.2))], []⟩
end Go.Proofs.Ytibkpphblgfmbaa

namespace Go.Proofs.Ytibkpphblgfmbaa
open Go Go.Sim
set_option linter.unusedSimpArgs false
set_option linter.unusedVariables false
set_option maxHeartbeats 10000000
set_option maxRecDepth 40000
theorem pushD_of0 {h : List Due} {d : Due} (h0 : (pushD h d).2 = 0) : Ok (pushD h d).1 := by
  have he : pushE h d = 0 := h0
  have h1 := he
  unfold pushE at h1
  split at h1
  · rename_i hv; exact absurd h1 hv
  · rename_i hv
    have o := (validate_iff h).1 (by simpa using hv)
    split at h1
    · cases h1
    · rename_i hd
      split at h1
      · cases h1
      · rename_i hl
        split at h1
        · cases h1
        · rename_i hf
          have := push_ok' o (by simpa using hd) (by have := o.len; omega) ((findD_neg h d.2).1 (by omega))
          rw [this.1]; exact this.2.1
def heapS (l : List Int) (p : List Due × Nat × Nat) : St := ⟨[(0, .ref 1000000 0 0), (3, .d (.sl (p.1.map eD))), (4, .d (.int .i64 p.2.2)), (1000000, .ref 1000000 1 0)], [(1000000, srcO l p.2.1)]⟩
end Go.Proofs.Ytibkpphblgfmbaa

namespace Go.Proofs.Ytibkpphblgfmbaa
open Go Go.Sim
set_option linter.unusedSimpArgs false
set_option linter.unusedVariables false
set_option maxHeartbeats 10000000
set_option maxRecDepth 40000
def refDownS (p : List Due × Nat) : St := ⟨[(0, .d (.sl (p.1.map eD))), (1, .d (.int .i64 p.2))], []⟩
end Go.Proofs.Ytibkpphblgfmbaa

namespace Go.Proofs.Ytibkpphblgfmbaa
open Go Go.Sim
set_option linter.unusedSimpArgs false
set_option linter.unusedVariables false
set_option maxHeartbeats 10000000
set_option maxRecDepth 40000
end Go.Proofs.Ytibkpphblgfmbaa

namespace Go.Proofs.Ytibkpphblgfmbaa
open Go Go.Sim
set_option linter.unusedSimpArgs false
set_option linter.unusedVariables false
set_option maxHeartbeats 10000000
set_option maxRecDepth 40000
def Asc (l : List Due) (n : Nat) : Prop := ∀ p q, p < q → q < n → lt (l.getD q dz) (l.getD p dz) = false
def insL (l : List Due) (j : Nat) : List Due :=
  if 0 < j then (if lt (l.getD j dz) (l.getD (j - 1) dz) then insL (swp l j (j - 1)) (j - 1) else l) else l
termination_by j
theorem insL_length (l : List Due) (j : Nat) : (insL l j).length = l.length := by
  fun_induction insL l j with
  | case1 l j h0 h1 ih => rw [ih, swp_length]
  | case2 => rfl
  | case3 => rfl
theorem ins_asc (l : List Due) (j i : Nat) (hi : i < l.length) (hj : j ≤ i) (h1 : ∀ p q, p < q → q ≤ i → p ≠ j → q ≠ j → lt (l.getD q dz) (l.getD p dz) = false) (h2 : ∀ q, j < q → q ≤ i → lt (l.getD q dz) (l.getD j dz) = false) : Asc (insL l j) (i + 1) ∧ (insL l j).Perm l := by
  fun_induction insL l j with
  | case1 l j h0 hlt ih =>
    have hs : ∀ k, (swp l j (j - 1)).getD k dz = if k = j - 1 then l.getD j dz else if k = j then l.getD (j - 1) dz else l.getD k dz := fun k => swp_get l j (j - 1) k (by omega) (by omega)
    have ih' := ih (by rw [swp_length]; exact hi) (by omega) (fun p q hpq hq hp hq2 => by
        rw [hs, hs]
        by_cases e1 : q = j
        · subst e1
          rw [if_neg (by omega), if_pos rfl, if_neg (by omega), if_neg (by omega)]
          exact h1 p (q - 1) (by omega) (by omega) (by omega) (by omega)
        · by_cases e2 : p = j
          · subst e2
            rw [if_neg (by omega), if_neg (by omega), if_neg (by omega), if_pos rfl]
            exact h1 (p - 1) q (by omega) hq (by omega) (by omega)
          · rw [if_neg (by omega), if_neg e1, if_neg (by omega), if_neg e2]
            exact h1 p q hpq hq e2 e1) (fun q hq1 hq2 => by
        rw [hs, hs, if_neg (by omega), if_pos rfl]
        by_cases e1 : q = j
        · rw [if_pos e1]; exact lt_asymm hlt
        · rw [if_neg e1]; exact h2 q (by omega) hq2)
    exact ⟨ih'.1, ih'.2.trans (swp_perm l j (j - 1) (by omega) (by omega))⟩
  | case2 l j h0 hlt =>
    refine ⟨fun p q hpq hq => ?_, .refl _⟩
    have hjj : lt (l.getD j dz) (l.getD (j - 1) dz) = false := by simpa using hlt
    by_cases e1 : p = j
    · subst e1; exact h2 q hpq (by omega)
    · by_cases e2 : q = j
      · subst e2
        by_cases e3 : p = q - 1
        · subst e3; exact hjj
        · exact le_trans' (h1 p (q - 1) (by omega) (by omega) e1 (by omega)) hjj
      · exact h1 p q hpq (by omega) e1 e2
  | case3 l j h0 =>
    refine ⟨fun p q hpq hq => ?_, .refl _⟩
    by_cases e1 : p = j
    · subst e1; exact h2 q hpq (by omega)
    · exact h1 p q hpq (by omega) e1 (by omega)
def sortG (l : List Due) (i : Nat) : List Due := if i < l.length then sortG (insL l i) (i + 1) else l
termination_by l.length - i
decreasing_by rw [insL_length]; omega
theorem sortG_spec (l : List Due) (i : Nat) (h : Asc l i) : Asc (sortG l i) l.length ∧ (sortG l i).Perm l := by
  fun_induction sortG l i with
  | case1 l i hi ih =>
    have := ins_asc l i i hi (by omega) (fun p q hpq hq _ hq2 => h p q hpq (by omega)) (fun q h1 h2 => by omega)
    have ih' := ih this.1
    rw [insL_length] at ih'
    exact ⟨ih'.1, ih'.2.trans this.2⟩
  | case2 l i hi => exact ⟨fun p q hpq hq => h p q hpq (by omega), .refl _⟩
abbrev fcmp : AV := .d (.fn N_due_compare [])
def insS (l : List Due) (i : Nat) (j : Nat) : St := ⟨[(0, .osl 1000000 0 l.length), (1, .d (.int .i64 0)), (2, .d (.int .i64 l.length)), (3, fcmp), (8, .d (.int .i64 i)), (9, .d (.int .i64 j)), (1000000, .ref 1000000 1 0)], [(1000000, rowL l)]⟩
theorem ins_loop (i : Nat) : ∀ p : List Due × Nat, p.2 < p.1.length ∧ p.1.length ≤ 1000 → loopL G [] l_slices_insertionSortCmpFunc_api_Due_0 (insS p.1 i p.2) = some (.exit 2, ⟨[(0, .osl 1000000 0 p.1.length), (1, .d (.int .i64 0)), (2, .d (.int .i64 p.1.length)), (3, fcmp), (8, .d (.int .i64 i)), (1000000, .ref 1000000 1 0)], [(1000000, rowL (insL p.1 p.2))]⟩) := by
  refine loop_ind (fun p : List Due × Nat => p.2) (fun p : List Due × Nat => p.2 < p.1.length ∧ p.1.length ≤ 1000) (fun p => insS p.1 i p.2) _ fun ⟨l, j⟩ ⟨hj, hL⟩ L ih => ?_
  simp only [insS, rowL, fcmp] at hj hL ih ⊢
  simp only [l_slices_insertionSortCmpFunc_api_Due_0]
  rw [insL]
  by_cases h0 : 0 < j
  · have hj1 : j - 1 < l.length := by omega
    have t1 : ((j : Int) - 1) = ((j - 1 : Nat) : Int) := by omega
    have s1 := setSame hj hj1
    have hc := due_compare_ok l[j] l[j - 1]
    have hlt : lt (l.getD j (0, 0)) (l.getD (j - 1) (0, 0)) = decide (cmpD l[j] l[j - 1] < 0) := by rw [getDT hj, getDT hj1]; rfl
    have i1 := ih (swp l j (j - 1), j - 1) ⟨by simp only [swp_length]; omega, by simp only [swp_length]; omega⟩ (by simp only; omega)
    rw [if_pos h0]
    simp only [dz, hlt]
    simp only [swp_length] at i1
    have hil : (insL (swp l j (j - 1)) (j - 1)).length = l.length := by rw [insL_length, swp_length]
    generalize insL (swp l j (j - 1)) (j - 1) = r at *
    unfold swp at i1
    rw [getDT hj, getDT hj1] at i1
    simp only [Int.natCast_add, Int.natCast_one, Int.natCast_zero, Int.natCast_mul, Int.cast_ofNat_Int, List.length_append, List.length_map, List.map_nil, List.length_nil, List.map_append, List.map_cons, List.length_cons, Nat.zero_add, srcO, mapSet] at i1
    clear ih hlt hil
    by_cases hcc : cmpD l[j] l[j - 1] < 0
    · rw [decide_eq_true hcc]
      simp only [if_true]
      simp -implicitDefEqProofs (maxSteps := 4000000) (disch := omega) only [getDT, go_sem, *] /-A0-/
    · rw [decide_eq_false hcc]
      simp only [if_false, Bool.false_eq_true]
      clear i1
      simp -implicitDefEqProofs (maxSteps := 4000000) (disch := omega) only [getDT, go_sem, *] /-A1-/
  · rw [if_neg h0]
    clear ih
    simp -implicitDefEqProofs (maxSteps := 4000000) (disch := omega) only [getDT, go_sem, *] /-A2-/
def isS (l : List Due) (i : Nat) : St := ⟨[(0, .osl 1000000 0 l.length), (1, .d (.int .i64 0)), (2, .d (.int .i64 l.length)), (3, fcmp), (8, .d (.int .i64 i)), (1000000, .ref 1000000 1 0)], [(1000000, rowL l)]⟩
theorem is_loop : ∀ p : List Due × Nat, p.2 ≤ p.1.length ∧ p.1.length ≤ 1000 → loopL G [] l_slices_insertionSortCmpFunc_api_Due_1 (isS p.1 p.2) = some (.exit 0, ⟨[(1000000, .ref 1000000 1 0)], [(1000000, rowL (sortG p.1 p.2))]⟩) := by
  refine loop_ind (fun p : List Due × Nat => p.1.length - p.2) (fun p : List Due × Nat => p.2 ≤ p.1.length ∧ p.1.length ≤ 1000) (fun p => isS p.1 p.2) _ fun ⟨l, i⟩ ⟨hj, hL⟩ L ih => ?_
  simp only at hj hL
  simp only [l_slices_insertionSortCmpFunc_api_Due_1, isS]
  rw [sortG]
  by_cases h0 : i < l.length
  · have h1 := ins_loop i (l, i) ⟨h0, hL⟩
    simp only [insS, rowL, fcmp] at h1
    have := ih (insL l i, i + 1) ⟨by simp only [insL_length]; omega, by simp only [insL_length]; omega⟩ (by simp only [insL_length]; omega)
    simp only [isS, rowL, insL_length, fcmp, Int.natCast_add, Int.natCast_one] at this
    simp -implicitDefEqProofs (maxSteps := 4000000) (disch := omega) only [go_sem, h1, this, h0, rowL]
  · simp -implicitDefEqProofs (maxSteps := 4000000) (disch := omega) only [go_sem, h0, rowL]
theorem isort_ok (l : List Due) (h0 : 0 < l.length) (hL : l.length ≤ 1000) : callL G N_slices_insertionSortCmpFunc_api_Due [.osl 1000000 0 l.length, .d (.int .i64 0), .d (.int .i64 l.length), fcmp] [(1000000, rowL l)] = some (.d (.tup []), [(1000000, rowL (sortG l 1))]) := by
  have := is_loop (l, 1) ⟨h0, hL⟩
  simp only [isS, rowL, fcmp, Int.natCast_one] at this
  rw [callL_code g_slices_insertionSortCmpFunc_api_Due (by simp)]; simp -implicitDefEqProofs (maxSteps := 4000000) (disch := omega) only [c_slices_insertionSortCmpFunc_api_Due, r_slices_insertionSortCmpFunc_api_Due, go_sem, rowL, this]
theorem isort0_ok : callL G N_slices_insertionSortCmpFunc_api_Due [.d (.sl []), .d (.int .i64 0), .d (.int .i64 0), fcmp] [] = some (.d (.tup []), []) := by
  rw [callL_code g_slices_insertionSortCmpFunc_api_Due (by simp)]; simp -implicitDefEqProofs (maxSteps := 4000000) (disch := omega) only [c_slices_insertionSortCmpFunc_api_Due, r_slices_insertionSortCmpFunc_api_Due, go_sem, fcmp]
  rw [loopL_eq]
  simp only [l_slices_insertionSortCmpFunc_api_Due_1]
  simp -implicitDefEqProofs (maxSteps := 4000000) (disch := omega) only [go_sem, fcmp]
theorem len64_ok (n : Nat) (h : n ≤ 12) : ∃ b : Int, callL G N_math_bits_Len64 [.d (.int .u64 n)] [] = some (.d (.int .i64 b), []) := by
  obtain rfl | rfl | rfl | rfl | rfl | rfl | rfl | rfl | rfl | rfl | rfl | rfl | rfl : n = 0 ∨ n = 1 ∨ n = 2 ∨ n = 3 ∨ n = 4 ∨ n = 5 ∨ n = 6 ∨ n = 7 ∨ n = 8 ∨ n = 9 ∨ n = 10 ∨ n = 11 ∨ n = 12 := by omega
  · exact ⟨0, by simp only [Int.natCast_zero, Int.natCast_one, Int.cast_ofNat_Int]; rw [callL_code g_math_bits_Len64 (by simp)]; simp -implicitDefEqProofs (maxSteps := 4000000) (disch := omega) only [c_math_bits_Len64, r_math_bits_Len64, go_sem, UInt8.toNat_ofNat, Nat.reducePow]⟩
  · exact ⟨1, by simp only [Int.natCast_zero, Int.natCast_one, Int.cast_ofNat_Int]; rw [callL_code g_math_bits_Len64 (by simp)]; simp -implicitDefEqProofs (maxSteps := 4000000) (disch := omega) only [c_math_bits_Len64, r_math_bits_Len64, go_sem, UInt8.toNat_ofNat, Nat.reducePow]⟩
  · exact ⟨2, by simp only [Int.natCast_zero, Int.natCast_one, Int.cast_ofNat_Int]; rw [callL_code g_math_bits_Len64 (by simp)]; simp -implicitDefEqProofs (maxSteps := 4000000) (disch := omega) only [c_math_bits_Len64, r_math_bits_Len64, go_sem, UInt8.toNat_ofNat, Nat.reducePow]⟩
  · exact ⟨2, by simp only [Int.natCast_zero, Int.natCast_one, Int.cast_ofNat_Int]; rw [callL_code g_math_bits_Len64 (by simp)]; simp -implicitDefEqProofs (maxSteps := 4000000) (disch := omega) only [c_math_bits_Len64, r_math_bits_Len64, go_sem, UInt8.toNat_ofNat, Nat.reducePow]⟩
  · exact ⟨3, by simp only [Int.natCast_zero, Int.natCast_one, Int.cast_ofNat_Int]; rw [callL_code g_math_bits_Len64 (by simp)]; simp -implicitDefEqProofs (maxSteps := 4000000) (disch := omega) only [c_math_bits_Len64, r_math_bits_Len64, go_sem, UInt8.toNat_ofNat, Nat.reducePow]⟩
  · exact ⟨3, by simp only [Int.natCast_zero, Int.natCast_one, Int.cast_ofNat_Int]; rw [callL_code g_math_bits_Len64 (by simp)]; simp -implicitDefEqProofs (maxSteps := 4000000) (disch := omega) only [c_math_bits_Len64, r_math_bits_Len64, go_sem, UInt8.toNat_ofNat, Nat.reducePow]⟩
  · exact ⟨3, by simp only [Int.natCast_zero, Int.natCast_one, Int.cast_ofNat_Int]; rw [callL_code g_math_bits_Len64 (by simp)]; simp -implicitDefEqProofs (maxSteps := 4000000) (disch := omega) only [c_math_bits_Len64, r_math_bits_Len64, go_sem, UInt8.toNat_ofNat, Nat.reducePow]⟩
  · exact ⟨3, by simp only [Int.natCast_zero, Int.natCast_one, Int.cast_ofNat_Int]; rw [callL_code g_math_bits_Len64 (by simp)]; simp -implicitDefEqProofs (maxSteps := 4000000) (disch := omega) only [c_math_bits_Len64, r_math_bits_Len64, go_sem, UInt8.toNat_ofNat, Nat.reducePow]⟩
  · exact ⟨4, by simp only [Int.natCast_zero, Int.natCast_one, Int.cast_ofNat_Int]; rw [callL_code g_math_bits_Len64 (by simp)]; simp -implicitDefEqProofs (maxSteps := 4000000) (disch := omega) only [c_math_bits_Len64, r_math_bits_Len64, go_sem, UInt8.toNat_ofNat, Nat.reducePow]⟩
  · exact ⟨4, by simp only [Int.natCast_zero, Int.natCast_one, Int.cast_ofNat_Int]; rw [callL_code g_math_bits_Len64 (by simp)]; simp -implicitDefEqProofs (maxSteps := 4000000) (disch := omega) only [c_math_bits_Len64, r_math_bits_Len64, go_sem, UInt8.toNat_ofNat, Nat.reducePow]⟩
  · exact ⟨4, by simp only [Int.natCast_zero, Int.natCast_one, Int.cast_ofNat_Int]; rw [callL_code g_math_bits_Len64 (by simp)]; simp -implicitDefEqProofs (maxSteps := 4000000) (disch := omega) only [c_math_bits_Len64, r_math_bits_Len64, go_sem, UInt8.toNat_ofNat, Nat.reducePow]⟩
  · exact ⟨4, by simp only [Int.natCast_zero, Int.natCast_one, Int.cast_ofNat_Int]; rw [callL_code g_math_bits_Len64 (by simp)]; simp -implicitDefEqProofs (maxSteps := 4000000) (disch := omega) only [c_math_bits_Len64, r_math_bits_Len64, go_sem, UInt8.toNat_ofNat, Nat.reducePow]⟩
  · exact ⟨4, by simp only [Int.natCast_zero, Int.natCast_one, Int.cast_ofNat_Int]; rw [callL_code g_math_bits_Len64 (by simp)]; simp -implicitDefEqProofs (maxSteps := 4000000) (disch := omega) only [c_math_bits_Len64, r_math_bits_Len64, go_sem, UInt8.toNat_ofNat, Nat.reducePow]⟩
theorem len_ok (n : Nat) (h : n ≤ 12) : ∃ b : Int, callL G N_math_bits_Len [.d (.int .u64 n)] [] = some (.d (.int .i64 b), []) := by
  obtain ⟨b, hb⟩ := len64_ok n h
  refine ⟨b, ?_⟩
  rw [callL_code g_math_bits_Len (by simp)]; simp -implicitDefEqProofs (maxSteps := 4000000) (disch := omega) only [c_math_bits_Len, r_math_bits_Len, go_sem, hb]
theorem pdq_ok (l : List Due) (b : Int) (h0 : 0 < l.length) (hL : l.length ≤ 12) : callL G N_slices_pdqsortCmpFunc_api_Due [.osl 1000000 0 l.length, .d (.int .i64 0), .d (.int .i64 l.length), .d (.int .i64 b), fcmp] [(1000000, rowL l)] = some (.d (.tup []), [(1000000, rowL (sortG l 1))]) := by
  have := isort_ok l h0 (by omega)
  simp only [rowL, fcmp] at this
  rw [callL_code g_slices_pdqsortCmpFunc_api_Due (by simp)]; simp -implicitDefEqProofs (maxSteps := 4000000) (disch := omega) only [c_slices_pdqsortCmpFunc_api_Due, r_slices_pdqsortCmpFunc_api_Due, go_sem, this, rowL, fcmp]
  rw [loopL_eq]
  simp only [l_slices_pdqsortCmpFunc_api_Due_0]
  simp -implicitDefEqProofs (maxSteps := 4000000) (disch := omega) only [go_sem, this, rowL, fcmp]
theorem pdq0_ok (b : Int) : callL G N_slices_pdqsortCmpFunc_api_Due [.d (.sl []), .d (.int .i64 0), .d (.int .i64 0), .d (.int .i64 b), fcmp] [] = some (.d (.tup []), []) := by
  have := isort0_ok
  simp only [fcmp] at this
  rw [callL_code g_slices_pdqsortCmpFunc_api_Due (by simp)]; simp -implicitDefEqProofs (maxSteps := 4000000) (disch := omega) only [c_slices_pdqsortCmpFunc_api_Due, r_slices_pdqsortCmpFunc_api_Due, go_sem, this, fcmp]
  rw [loopL_eq]
  simp only [l_slices_pdqsortCmpFunc_api_Due_0]
  simp -implicitDefEqProofs (maxSteps := 4000000) (disch := omega) only [go_sem, this, fcmp]
theorem sortFunc_ok (l : List Due) (h0 : 0 < l.length) (hL : l.length ≤ 12) : callL G N_slices_SortFunc_api_Due [.osl 1000000 0 l.length, fcmp] [(1000000, rowL l)] = some (.d (.tup []), [(1000000, rowL (sortG l 1))]) := by
  obtain ⟨b, hb⟩ := len_ok l.length hL
  have := pdq_ok l b h0 hL
  simp only [rowL, fcmp] at this
  rw [callL_code g_slices_SortFunc_api_Due (by simp)]; simp -implicitDefEqProofs (maxSteps := 4000000) (disch := omega) only [c_slices_SortFunc_api_Due, r_slices_SortFunc_api_Due, go_sem, hb, this, rowL, fcmp]
theorem sortFunc0_ok : callL G N_slices_SortFunc_api_Due [.d (.sl []), fcmp] [] = some (.d (.tup []), []) := by
  obtain ⟨b, hb⟩ := len_ok 0 (by omega)
  have := pdq0_ok b
  simp only [Int.natCast_zero, fcmp] at this hb
  rw [callL_code g_slices_SortFunc_api_Due (by simp)]; simp -implicitDefEqProofs (maxSteps := 4000000) (disch := omega) only [c_slices_SortFunc_api_Due, r_slices_SortFunc_api_Due, go_sem, hb, this, fcmp]
def dueIds (now : Int) (l : List Due) : List Int := (l.filter fun d => decide (d.1 ≤ now)).map (·.2)
def untilD (h : List Due) (now : Int) : List Int := if validateD h = 0 then dueIds now (sortG h 1) else []
abbrev accI (o : Nat) (l : List Int) : AV := .acc o (ints l)
theorem ints_append (a b : List Int) : ints a ++ ints b = ints (a ++ b) := by simp [ints]
def untilS (l : List Due) (now : Int) (k : Nat) (out : List Int) : St := ⟨[(1, .d (.int .i64 now)), (6, .acc 6 (ints out)), (16, .osl 13 0 l.length), (17, .d (.int .i64 l.length)), (18, .d (.int .i64 k))], [(6, .acc out.length), (13, rowL l)]⟩
theorem until_loop (l : List Due) (now : Int) (hL : l.length ≤ 12) : ∀ k, k ≤ l.length → loopL G [] l_due_Until_0 (untilS l now k (dueIds now (l.take k))) = some (.exit 0, ⟨[(6, .acc 6 (ints (dueIds now l)))], [(6, .acc (dueIds now l).length)]⟩) := by
  refine loop_ind (fun k => l.length - k) (fun k => k ≤ l.length) (fun k => untilS l now k (dueIds now (l.take k))) _ fun k hk L ih => ?_
  simp only [l_due_Until_0, untilS, rowL] at ih ⊢
  by_cases h0 : k < l.length
  · have hg := rowGet l k h0
    have hlen : (dueIds now (l.take k)).length ≤ 12 := by
      have := List.length_filter_le (fun d : Due => decide (d.1 ≤ now)) (l.take k)
      simp only [dueIds, List.length_map]; rw [List.length_take] at this; omega
    have e1 : dueIds now (l.take (k + 1)) = if l[k].1 ≤ now then dueIds now (l.take k) ++ [l[k].2] else dueIds now (l.take k) := by
      rw [List.take_succ_eq_append_getElem h0]
      unfold dueIds
      rw [List.filter_append, List.map_append]
      by_cases hc : l[k].1 ≤ now <;> simp [hc]
    have := ih (k + 1) (by omega) (by omega)
    rw [e1] at this
    have e2 : l.getD k (0, 0) = l[k] := by simp [h0]
    rw [e2] at hg
    obtain ⟨ds, hds⟩ : ∃ ds, ds = dueIds now (l.take k) := ⟨_, rfl⟩
    rw [← hds] at this hlen ⊢
    by_cases hc : l[k].1 ≤ now
    · rw [if_pos hc] at this
      simp only [ints, List.map_append, List.map_cons, List.map_nil, List.length_append, List.length_cons, List.length_nil, Int.natCast_add, Int.natCast_one, Nat.zero_add] at this
      simp -implicitDefEqProofs (maxSteps := 4000000) (disch := omega) only [go_sem, hg, eD, hc, allSize_ints, this]
    · rw [if_neg hc] at this
      simp only [Int.natCast_add, Int.natCast_one] at this
      simp -implicitDefEqProofs (maxSteps := 4000000) (disch := omega) only [go_sem, hg, eD, hc, allSize_ints, this]
  · have : k = l.length := by omega
    subst this
    simp -implicitDefEqProofs (maxSteps := 4000000) (disch := omega) only [go_sem, List.take_length]
theorem until_fr (h : List Due) (now : Int) (hL : h.length ≤ LIM) (h0 : validateD h = 0) : callL G N_due_Until [.d (.sl (h.map eD)), .d (.int .i64 now)] [] = some (.acc 0 (ints (untilD h now)), [(0, .acc (untilD h now).length)]) := by
  have hv := validate_ok h hL
  unfold untilD
  rw [if_pos h0]
  have h12 := validateD_le h0
  have hc := clone_ok (h.map eD) (allSize_eD h) (by simpa using hL)
  have hsl := (sortG_spec h 1 (fun p q hp hq => by omega)).2.length_eq
  have hl := until_loop (sortG h 1) now (by omega) 0 (by omega)
  simp only [untilS, dueIds, List.take_zero, List.filter_nil, List.map_nil, List.length_nil, rowL, hsl, ints, Int.natCast_zero] at hl
  by_cases he : h = []
  · subst he
    have hs := sortFunc0_ok
    have e0 : sortG [] 1 = [] := by rw [sortG]; simp
    simp only [fcmp] at hs
    simp only [List.map_nil] at hv hc ⊢
    rw [e0]
    rw [callL_code g_due_Until (by simp)]; simp -implicitDefEqProofs (maxSteps := 4000000) (disch := omega) only [c_due_Until, r_due_Until, go_sem, hv, hc, hs, h0, fcmp]
    rw [loopL_eq]
    simp only [l_due_Until_0]
    simp -implicitDefEqProofs (maxSteps := 4000000) (disch := omega) only [go_sem, Nat.zero_add]
    rfl
  · have hs := sortFunc_ok h (List.length_pos_iff.2 he) h12
    simp only [rowL, fcmp] at hs
    have hne : h.length ≠ 0 := by simpa using he
    have e4 : List.take h.length (List.map AV.d (List.map eD h)) = List.map AV.d (List.map eD h) := rowAll h
    rw [callL_code g_due_Until (by simp)]; simp -implicitDefEqProofs (maxSteps := 4000000) (disch := omega) only [c_due_Until, r_due_Until, go_sem, hv, hc, hs, h0, hl, e4, hne]
    simp only [ints, dueIds, List.length_map]
end Go.Proofs.Ytibkpphblgfmbaa

namespace Go.Proofs.Ytibkpphblgfmbaa
open Go Go.Sim
set_option linter.unusedSimpArgs false
set_option linter.unusedVariables false
set_option maxHeartbeats 10000000
set_option maxRecDepth 40000
theorem asc_uniq : ∀ (a b : List Due), a.Perm b → a.Pairwise (fun x y => lt y x = false) → b.Pairwise (fun x y => lt y x = false) → a.Nodup → a = b := by
  intro a
  induction a with
  | nil => intro b hp _ _ _; exact (List.Perm.nil_eq hp)
  | cons x a ih =>
    intro b hp ha hb hn
    cases b with
    | nil => exact absurd hp.symm.nil_eq (by simp)
    | cons y b =>
      have hxy : x = y := by
        by_cases e : x = y
        · exact e
        · have h1 : y ∈ a := by
            have := hp.symm.subset (List.mem_cons_self (a := y) (l := b))
            rcases List.mem_cons.1 this with h | h
            · exact absurd h.symm e
            · exact h
          have h2 : x ∈ b := by
            have := hp.subset (List.mem_cons_self (a := x) (l := a))
            rcases List.mem_cons.1 this with h | h
            · exact absurd h e
            · exact h
          have h3 := (List.pairwise_cons.1 ha).1 y h1
          have h4 := (List.pairwise_cons.1 hb).1 x h2
          rw [lt_ff] at h3 h4
          exact Prod.ext (by omega) (by omega)
      subst hxy
      rw [ih b ((List.perm_cons _).1 hp) (List.pairwise_cons.1 ha).2 (List.pairwise_cons.1 hb).2 (List.nodup_cons.1 hn).2]
theorem asc_pw {l : List Due} (h : Asc l l.length) : l.Pairwise (fun x y => lt y x = false) := by
  rw [List.pairwise_iff_getElem]
  intro i j hi hj hij
  have := h i j hij hj
  simpa [hi, hj] using this
theorem sort_pop1 {h : List Due} (o : Ok h) (hne : h ≠ []) : sortG h 1 = h.getD 0 dz :: sortG (dropL h 0) 1 := by
  have hd := drop_ok' o 0 (List.length_pos_iff.2 hne)
  have s1 := sortG_spec h 1 (fun p q hp hq => by omega)
  have s2 := sortG_spec (dropL h 0) 1 (fun p q hp hq => by omega)
  have hl1 := s1.2.length_eq
  have hl2 := s2.2.length_eq
  rw [← hl1] at s1
  rw [← hl2] at s2
  have hnd : h.Nodup := List.Pairwise.of_map (fun d : Due => d.2) (fun a b hh e => hh (by rw [e])) o.ids
  refine asc_uniq _ _ (s1.2.trans (hd.2.symm.trans (s2.2.symm.cons _))) (asc_pw s1.1) (List.pairwise_cons.2 ⟨fun d hm => ?_, asc_pw s2.1⟩) (s1.2.nodup_iff.2 hnd)
  exact top_min' o.ord d (hd.2.subset (List.mem_cons_of_mem _ (s2.2.subset hm)))
theorem untilD_step {h : List Due} {now : Int} (o : Ok h) (hne : h ≠ []) : untilD h now = if (h.getD 0 dz).1 ≤ now then (h.getD 0 dz).2 :: untilD (dropL h 0) now else [] := by
  have hd := drop_ok' o 0 (List.length_pos_iff.2 hne)
  unfold untilD
  rw [if_pos ((validate_iff h).2 o), if_pos ((validate_iff _).2 hd.1), sort_pop1 o hne]
  unfold dueIds
  by_cases hc : (h.getD 0 dz).1 ≤ now
  · rw [if_pos hc, List.filter_cons_of_pos (by simpa using hc), List.map_cons]
  · rw [if_neg hc, List.filter_cons_of_neg (by simpa using hc)]
    have : ∀ d ∈ sortG (dropL h 0) 1, ¬ d.1 ≤ now := by
      intro d hm
      have s2 := sortG_spec (dropL h 0) 1 (fun p q hp hq => by omega)
      have := top_min' o.ord d (hd.2.subset (List.mem_cons_of_mem _ (s2.2.subset hm)))
      rw [lt_ff] at this
      omega
    rw [List.filter_eq_nil_iff.2 (by simpa using this)]
    rfl
def rUS (now : Int) (p : List Due × List Int) : St := ⟨[(0, .d (.sl (p.1.map eD))), (1, .d (.int .i64 now)), (5, .acc 5 (ints p.2))], [(5, .acc p.2.length)]⟩
theorem sameInts_ok (a b : List Int) (hL : a.length ≤ 1000) : callL G N_ref05_SameInts [.d (.sl (ints a)), .d (.sl (ints b))] [] = some (.d (.bool (decide (a = b))), []) := by
  by_cases hab : a.length = b.length
  · have := loop_all (G := G) (x := l_ref05_SameInts_0) (ks := []) a.length (fun k => decide (a[k]? = b[k]?)) (fun k => ⟨[(0, .d (.sl (ints a))), (1, .d (.sl (ints b))), (5, .d (.int .i64 k))], []⟩) (.ret, ⟨[(4, .d (.bool false))], []⟩) (.exit 0, ⟨[], []⟩) (fun k hk L => by
      simp only [l_ref05_SameInts_0]
      by_cases h0 : k < a.length
      · have hk2 : k < b.length := by omega
        simp only [get_eq h0 hk2]
        by_cases hc : a[k] = b[k]
        · simp -implicitDefEqProofs (maxSteps := 4000000) (disch := omega) only [go_sem, hc]
        · simp -implicitDefEqProofs (maxSteps := 4000000) (disch := omega) only [go_sem, hc]
      · simp -implicitDefEqProofs (maxSteps := 4000000) (disch := omega) only [go_sem, Nat.zero_add])
    simp only [all_eq hab, Int.natCast_zero] at this
    by_cases e : a = b
    · subst e
      simp only [decide_true, if_true] at this
      rw [callL_code g_ref05_SameInts (by simp)]; simp -implicitDefEqProofs (maxSteps := 4000000) (disch := omega) only [c_ref05_SameInts, r_ref05_SameInts, go_sem, this]
    · simp only [e, decide_false, Bool.false_eq_true, if_false] at this
      rw [callL_code g_ref05_SameInts (by simp)]; simp -implicitDefEqProofs (maxSteps := 4000000) (disch := omega) only [c_ref05_SameInts, r_ref05_SameInts, go_sem, hab, this, e]
  · have e : a ≠ b := fun e => hab (by rw [e])
    rw [callL_code g_ref05_SameInts (by simp)]; simp -implicitDefEqProofs (maxSteps := 4000000) (disch := omega) only [c_ref05_SameInts, r_ref05_SameInts, go_sem, e]
end Go.Proofs.Ytibkpphblgfmbaa

namespace Go.Proofs.Ytibkpphblgfmbaa
open Go Go.Sim
set_option linter.unusedSimpArgs false
set_option linter.unusedVariables false
set_option maxHeartbeats 10000000
set_option maxRecDepth 40000
theorem min_ok (n lo hi : Int) : callL G N_message_in [.d (.int .i64 n), .d (.int .i64 lo), .d (.int .i64 hi)] [] = some (.d (.bool (decide (lo ≤ n ∧ n ≤ hi))), []) := by
  by_cases h : lo ≤ n
  · by_cases h2 : n ≤ hi
    · rw [decide_eq_true ⟨h, h2⟩]
      rw [callL_code g_message_in (by simp)]; simp -implicitDefEqProofs (maxSteps := 4000000) (disch := omega) only [c_message_in, r_message_in, getDT, go_sem, *] /-A0-/
    · rw [decide_eq_false (by omega)]
      rw [callL_code g_message_in (by simp)]; simp -implicitDefEqProofs (maxSteps := 4000000) (disch := omega) only [c_message_in, r_message_in, getDT, go_sem, *] /-A1-/
  · rw [decide_eq_false (by omega)]
    rw [callL_code g_message_in (by simp)]; simp -implicitDefEqProofs (maxSteps := 4000000) (disch := omega) only [c_message_in, r_message_in, getDT, go_sem, *] /-A2-/
theorem mpurged_ok (m : Message) (e : Int) : callL G N_message_Purged [.d (eMessage m), .d (.int .i64 e)] [] = some (.d (.bool (decide (m.epoch < e))), []) := by
  rw [callL_code g_message_Purged (by simp)]; simp -implicitDefEqProofs (maxSteps := 4000000) (disch := omega) only [c_message_Purged, r_message_Purged, getDT, go_sem, *] /-A3-/
def msgV (m : Message) : Int :=
  if 1 ≤ m.id ∧ m.id ≤ 1073741824 ∧ 0 ≤ m.route ∧ m.route ≤ 65535 ∧ 0 ≤ m.epoch ∧ m.epoch ≤ 65536 ∧ 0 ≤ m.count ∧ m.count ≤ 8 ∧ m.count ≤ m.gen ∧ m.gen ≤ 65536 ∧ 0 ≤ m.sent ∧ m.sent ≤ 1073741824 then (if 16 < m.body.length then 2 else 0) else 1
theorem mval_ok (m : Message) : callL G N_message_Validate [.d (eMessage m)] [] = some (.d (.int .i64 (msgV m)), []) := by
  have i1 := min_ok m.id 1 1073741824
  have i2 := min_ok m.route 0 65535
  have i3 := min_ok m.epoch 0 65536
  have i4 := min_ok m.count 0 8
  have i5 := min_ok m.gen m.count 65536
  have i6 := min_ok m.sent 0 1073741824
  unfold msgV
  split
  · split
    · rw [callL_code g_message_Validate (by simp)]; simp -implicitDefEqProofs (maxSteps := 4000000) (disch := omega) only [c_message_Validate, r_message_Validate, getDT, go_sem, *] /-A4-/
    · rw [callL_code g_message_Validate (by simp)]; simp -implicitDefEqProofs (maxSteps := 4000000) (disch := omega) only [c_message_Validate, r_message_Validate, getDT, go_sem, *] /-A5-/
  · rw [callL_code g_message_Validate (by simp)]; simp -implicitDefEqProofs (maxSteps := 4000000) (disch := omega) only [c_message_Validate, r_message_Validate, getDT, go_sem, *]; (try simp only [pA, pB, pC, pD, pE, pF, pG, pH, pI, pJ, pK, pL, pM, pN, pO, pP, if_true, if_false]); repeat' (first | done | rfl | ((first | refine iteC (fun hq => ?_) (fun hq => ?_) | refine iteP (fun hq => ?_) (fun hq => ?_)) <;> (try (first | (exfalso; omega) | contradiction)) <;> (try simp -implicitDefEqProofs (maxSteps := 4000000) (disch := omega) only [getDT, go_sem, *]) <;> (try simp only [pA, pB, pC, pD, pE, pF, pG, pH, pI, pJ, pK, pL, pM, pN, pO, pP, if_true, if_false]))); (all_goals try rfl); (all_goals try (repeat' (first | done | rfl | (exfalso; omega) | contradiction | (refine iteR (fun hq => ?_) (fun hq => ?_))))) /-A6-/
end Go.Proofs.Ytibkpphblgfmbaa

namespace Go.Proofs.Ytibkpphblgfmbaa
open Go Go.Sim
set_option linter.unusedSimpArgs false
set_option linter.unusedVariables false
set_option maxHeartbeats 10000000
set_option maxRecDepth 40000
theorem ltime_ok (n : Int) : callL G N_lease_time [.d (.int .i64 n)] [] = some (.d (.bool (decide (0 ≤ n ∧ n ≤ 1073741824))), []) := by
  by_cases h : 0 ≤ n
  · by_cases h2 : n ≤ 1073741824
    · rw [decide_eq_true ⟨h, h2⟩]
      rw [callL_code g_lease_time (by simp)]; simp -implicitDefEqProofs (maxSteps := 4000000) (disch := omega) only [c_lease_time, r_lease_time, getDT, go_sem, *] /-A0-/
    · rw [decide_eq_false (by omega)]
      rw [callL_code g_lease_time (by simp)]; simp -implicitDefEqProofs (maxSteps := 4000000) (disch := omega) only [c_lease_time, r_lease_time, getDT, go_sem, *] /-A1-/
  · rw [decide_eq_false (by omega)]
    rw [callL_code g_lease_time (by simp)]; simp -implicitDefEqProofs (maxSteps := 4000000) (disch := omega) only [c_lease_time, r_lease_time, getDT, go_sem, *] /-A2-/
def leaseE (l : List Lease) (i : Nat) : Int :=
  if msgV (l.getD i zLease).msg ≠ 0 then msgV (l.getD i zLease).msg
  else if (l.getD i zLease).msg.gen = 0 then 7
  else if (l.getD i zLease).deadline < 0 ∨ 1073741824 < (l.getD i zLease).deadline then 1
  else if 0 < i ∧ (l.getD i zLease).msg.id ≤ (l.getD (i - 1) zLease).msg.id then 11 else 0
def leaseB (l : List Lease) (i : Nat) : Bool := decide (leaseE l i ≠ 0)
def obT (o : Nat) (t : Table) : Nat × Go.Sim.Obj := (o, .row [.d (eTable t)])
theorem eLease_msg (x : Lease) : partD true 0 7 (eLease x) = some (eMessage x.msg) := rfl
theorem lval_loop (t : Table) (hL : t.l.length ≤ 12) : loopL G [] l_lease_Validate_0 ⟨[(1, .ref 1 0 0), (12, .d (.sl (t.l.map eLease))), (13, .d (.int .i64 t.l.length)), (14, .d (.int .i64 0))], [obT 1 t]⟩ = some (findR t.l.length (leaseB t.l) (fun k => (.ret, ⟨[(2, .d (.int .i64 (leaseE t.l k)))], []⟩)) (.exit 0, ⟨[(1, .ref 1 0 0)], [obT 1 t]⟩)) := by
  refine loop_find (G := G) t.l.length (leaseB t.l) (fun k => ⟨[(1, .ref 1 0 0), (12, .d (.sl (t.l.map eLease))), (13, .d (.int .i64 t.l.length)), (14, .d (.int .i64 k))], [obT 1 t]⟩) _ _ fun k hk L => ?_
  simp only [l_lease_Validate_0, obT]
  by_cases h0 : k < t.l.length
  · rw [if_pos h0]
    have hm := mval_ok t.l[k].msg
    have ht := ltime_ok t.l[k].deadline
    simp only [eMessage] at hm
    unfold leaseB leaseE
    rw [getDT h0]
    by_cases c1 : msgV t.l[k].msg = 0
    · rw [c1] at hm
      simp only [c1, ne_eq, not_true_eq_false, if_false]
      by_cases c2 : t.l[k].msg.gen = 0
      · simp only [c2, if_true, show ((7 : Int) = 0) = False by simp, not_false_eq_true, decide_true]
        clear ht
        rw [c2] at hm
        simp -implicitDefEqProofs (maxSteps := 4000000) (disch := omega) only [getDT, go_sem, *] /-A3-/
      · simp only [c2, if_false]
        by_cases c3 : t.l[k].deadline < 0 ∨ 1073741824 < t.l[k].deadline
        · rw [decide_eq_false (by omega)] at ht
          simp only [c3, if_true, show ((1 : Int) = 0) = False by simp, not_false_eq_true, decide_true]
          simp -implicitDefEqProofs (maxSteps := 4000000) (disch := omega) only [getDT, go_sem, *] /-A4-/
        · rw [decide_eq_true (by omega)] at ht
          simp only [c3, if_false]
          by_cases c4 : 0 < k
          · have hk1 : k - 1 < t.l.length := by omega
            have e1 : (k : Int) - 1 = ((k - 1 : Nat) : Int) := by omega
            rw [getDT hk1]
            by_cases c5 : t.l[k].msg.id ≤ t.l[k - 1].msg.id
            · simp only [c4, c5, and_self, if_true, show ((11 : Int) = 0) = False by simp, not_false_eq_true, decide_true]
              simp -implicitDefEqProofs (maxSteps := 4000000) (disch := omega) only [getDT, go_sem, *] /-A5-/
            · simp only [c4, c5, and_false, if_false, not_true_eq_false, decide_false, Bool.false_eq_true]
              simp -implicitDefEqProofs (maxSteps := 4000000) (disch := omega) only [getDT, go_sem, *] /-A6-/
          · simp only [c4, false_and, if_false, not_true_eq_false, decide_false, Bool.false_eq_true]
            simp -implicitDefEqProofs (maxSteps := 4000000) (disch := omega) only [getDT, go_sem, *] /-A7-/
    · simp only [c1, ne_eq, not_false_eq_true, if_true, decide_true]
      clear ht
      simp -implicitDefEqProofs (maxSteps := 4000000) (disch := omega) only [getDT, go_sem, *] /-A8-/
  · rw [if_neg h0]
    simp -implicitDefEqProofs (maxSteps := 4000000) (disch := omega) only [getDT, go_sem, *] /-A9-/
end Go.Proofs.Ytibkpphblgfmbaa

namespace Go.Proofs.Ytibkpphblgfmbaa
open Go Go.Sim
set_option linter.unusedSimpArgs false
set_option linter.unusedVariables false
set_option maxHeartbeats 10000000
set_option maxRecDepth 40000
theorem sidx_ok (h : List Due) (d : Due) (hL : h.length ≤ 4294967296) : callL G N_slices_Index_api_Due [.d (.sl (h.map eD)), .d (eD d)] [] = some (.d (.int .i64 (idxI (fun x => decide (x = d)) h)), []) := by
  have hl := loop_find (G := G) (x := l_slices_Index_api_Due_0) (ks := []) h.length (atB h fun x => decide (x = d)) (fun k => ⟨[(0, .d (.sl (h.map eD))), (3, .ref 3 0 0), (7, .d (.int .i64 h.length)), (8, .d (.int .i64 k))], [(3, .row [.d (eD d)])]⟩) (fun k => (.ret, ⟨[(4, .d (.int .i64 k))], []⟩)) (.exit 0, ⟨[], []⟩) (fun k hk L => by
    simp only [l_slices_Index_api_Due_0]
    by_cases h0 : k < h.length
    · simp only [h0, if_true, atB_at h0]
      have e : decide (h[k] = d) = (decide (h[k].1 = d.1) && decide (h[k].2 = d.2)) := by
        rw [← Bool.decide_and]
        congr 1
        exact propext ⟨fun e => by rw [e]; exact ⟨rfl, rfl⟩, fun ⟨a, b⟩ => Prod.ext a b⟩
      rw [e]
      clear e
      by_cases q1 : h[k].1 = d.1
      · by_cases q2 : h[k].2 = d.2
        · simp only [q1, q2, decide_true, Bool.and_self, if_true]
          simp only [eD]
          simp -implicitDefEqProofs (maxSteps := 4000000) (disch := omega) only [eD, getDT, go_sem, *] /-A0-/
        · simp only [q1, q2, decide_true, decide_false, Bool.and_false, Bool.false_eq_true, if_false]
          simp only [eD]
          simp -implicitDefEqProofs (maxSteps := 4000000) (disch := omega) only [eD, getDT, go_sem, *] /-A1-/
      · simp only [q1, decide_false, Bool.false_and, Bool.false_eq_true, if_false]
        simp only [eD]
        simp -implicitDefEqProofs (maxSteps := 4000000) (disch := omega) only [eD, getDT, go_sem, *] /-A2-/
    · simp -implicitDefEqProofs (maxSteps := 4000000) (disch := omega) only [getDT, go_sem, *] /-A3-/)
  rw [findR_idx] at hl
  simp only [Int.natCast_add, Int.natCast_one, Int.natCast_zero, Int.natCast_mul, Int.cast_ofNat_Int, List.length_append, List.length_map, List.map_nil, List.length_nil, List.map_append, List.map_cons, List.length_cons, Nat.zero_add, srcO, mapSet] at hl
  unfold idxI
  cases hf : h.findIdx? (fun x => decide (x = d)) with
  | none => rw [hf] at hl; clear hf; rw [callL_code g_slices_Index_api_Due (by simp)]; simp -implicitDefEqProofs (maxSteps := 4000000) (disch := omega) only [c_slices_Index_api_Due, r_slices_Index_api_Due, getDT, go_sem, *] /-A4-/
  | some i => rw [hf] at hl; clear hf; rw [callL_code g_slices_Index_api_Due (by simp)]; simp -implicitDefEqProofs (maxSteps := 4000000) (disch := omega) only [c_slices_Index_api_Due, r_slices_Index_api_Due, getDT, go_sem, *] /-A5-/
theorem scont_ok (h : List Due) (d : Due) (hL : h.length ≤ 4294967296) : callL G N_slices_Contains_api_Due [.d (.sl (h.map eD)), .d (eD d)] [] = some (.d (.bool (h.any fun x => decide (x = d))), []) := by
  have hi := sidx_ok h d hL
  rw [← idxI_any]
  rw [callL_code g_slices_Contains_api_Due (by simp)]; simp -implicitDefEqProofs (maxSteps := 4000000) (disch := omega) only [c_slices_Contains_api_Due, r_slices_Contains_api_Due, getDT, go_sem, *] /-A6-/
def findL (l : List Lease) (id : Int) : Int := idxI (fun x => decide (x.msg.id = id)) l
def matchP (t : Table) : Bool := decide (t.heap.length = t.l.length) && t.l.all fun x => t.heap.any fun d => decide (d = (x.deadline, x.msg.id))
theorem matches_ok (t : Table) (hL : t.l.length ≤ 4294967296) (hH : t.heap.length ≤ 4294967296) : callL G N_lease_matches [.d (eTable t)] [] = some (.d (.bool (matchP t)), []) := by
  unfold matchP
  by_cases c : t.heap.length = t.l.length
  · rw [decide_eq_true c]
    have hl := loop_all (G := G) (x := l_lease_matches_0) (ks := []) t.l.length (atB t.l fun x => t.heap.any fun d => decide (d = (x.deadline, x.msg.id))) (fun k => ⟨[(1, .ref 1 0 0), (13, .d (.sl (t.l.map eLease))), (14, .d (.int .i64 t.l.length)), (15, .d (.int .i64 k))], [obT 1 t]⟩) (.ret, ⟨[(2, .d (.bool false))], []⟩) (.exit 0, ⟨[], []⟩) (fun k hk L => by
      simp only [l_lease_matches_0, obT]
      by_cases h0 : k < t.l.length
      · simp only [h0, if_true, atB_at h0]
        have hc := scont_ok t.heap (t.l[k].deadline, t.l[k].msg.id) hH
        simp only [eD] at hc
        generalize (t.heap.any fun d => decide (d = (t.l[k].deadline, t.l[k].msg.id))) = z at *
        cases z
        · simp -implicitDefEqProofs (maxSteps := 4000000) (disch := omega) only [getDT, go_sem, *] /-A7-/
        · simp -implicitDefEqProofs (maxSteps := 4000000) (disch := omega) only [getDT, go_sem, *] /-A8-/
      · simp -implicitDefEqProofs (maxSteps := 4000000) (disch := omega) only [getDT, go_sem, *] /-A9-/)
    have e : (List.range t.l.length).all (atB t.l fun x => t.heap.any fun d => decide (d = (x.deadline, x.msg.id))) = t.l.all fun x => t.heap.any fun d => decide (d = (x.deadline, x.msg.id)) := by
      rw [Bool.eq_iff_iff, List.all_eq_true, List.all_eq_true]
      constructor
      · intro h x hx
        obtain ⟨i, hi, rfl⟩ := List.getElem_of_mem hx
        have := h i (List.mem_range.2 hi)
        rwa [atB_at hi] at this
      · intro h i hi
        rw [atB_at (List.mem_range.1 hi)]
        exact h _ (List.getElem_mem _)
    rw [e] at hl
    simp only [obT] at hl
    simp only [Int.natCast_add, Int.natCast_one, Int.natCast_zero, Int.natCast_mul, Int.cast_ofNat_Int, List.length_append, List.length_map, List.map_nil, List.length_nil, List.map_append, List.map_cons, List.length_cons, Nat.zero_add, srcO, mapSet] at hl
    generalize (t.l.all fun x => t.heap.any fun d => decide (d = (x.deadline, x.msg.id))) = z at *
    cases z
    · simp only [Bool.false_eq_true, if_false] at hl
      rw [callL_code g_lease_matches (by simp)]; simp -implicitDefEqProofs (maxSteps := 4000000) (disch := omega) only [c_lease_matches, r_lease_matches, getDT, go_sem, *] /-A10-/
    · simp only [if_true] at hl
      rw [callL_code g_lease_matches (by simp)]; simp -implicitDefEqProofs (maxSteps := 4000000) (disch := omega) only [c_lease_matches, r_lease_matches, getDT, go_sem, *] /-A11-/
  · rw [decide_eq_false c]
    rw [callL_code g_lease_matches (by simp)]; simp -implicitDefEqProofs (maxSteps := 4000000) (disch := omega) only [c_lease_matches, r_lease_matches, getDT, go_sem, *] /-A12-/
end Go.Proofs.Ytibkpphblgfmbaa

namespace Go.Proofs.Ytibkpphblgfmbaa
open Go Go.Sim
set_option linter.unusedSimpArgs false
set_option linter.unusedVariables false
set_option maxHeartbeats 10000000
set_option maxRecDepth 40000
def leasesE (l : List Lease) : Int := findR l.length (leaseB l) (leaseE l) 0
def tabV (t : Table) : Int :=
  if 12 < t.l.length then 2 else if leasesE t.l ≠ 0 then leasesE t.l else if validateD t.heap ≠ 0 then validateD t.heap else if matchP t = true then 0 else 7
theorem leasesE_cases (l : List Lease) : (∃ k, (List.range l.length).find? (leaseB l) = some k ∧ leaseE l k ≠ 0 ∧ leasesE l = leaseE l k) ∨ ((List.range l.length).find? (leaseB l) = none ∧ leasesE l = 0) := by
  unfold leasesE findR
  cases h : (List.range l.length).find? (leaseB l) with
  | none => exact .inr ⟨rfl, rfl⟩
  | some k =>
    refine .inl ⟨k, rfl, ?_, rfl⟩
    have := List.find?_some h
    unfold leaseB at this
    simpa using this
theorem lval_ok (t : Table) (hL : t.l.length ≤ 4294967296) (hH : t.heap.length ≤ 4294967296) : callL G N_lease_Validate [.d (eTable t)] [] = some (.d (.int .i64 (tabV t)), []) := by
  unfold tabV
  by_cases c0 : 12 < t.l.length
  · rw [if_pos c0]
    rw [callL_code g_lease_Validate (by simp)]; simp -implicitDefEqProofs (maxSteps := 4000000) (disch := omega) only [c_lease_Validate, r_lease_Validate, getDT, go_sem, *] /-A0-/
  · rw [if_neg c0]
    have hl := lval_loop t (by omega)
    have hv := validate_ok t.heap hH
    have hm := matches_ok t hL hH
    simp only [obT] at hl
    unfold findR at hl
    rcases leasesE_cases t.l with ⟨k, h1, h2, h3⟩ | ⟨h1, h3⟩
    · rw [h1] at hl
      simp only at hl
      rw [h3, if_pos h2]
      generalize leaseE t.l k = z at *
      clear h1 h3 hv hm
      rw [callL_code g_lease_Validate (by simp)]; simp -implicitDefEqProofs (maxSteps := 4000000) (disch := omega) only [c_lease_Validate, r_lease_Validate, getDT, go_sem, *] /-A1-/
    · rw [h1] at hl
      rw [h3, if_neg (by simp)]
      clear h1 h3
      generalize validateD t.heap = z at *
      by_cases c1 : z = 0
      · subst c1
        rw [if_neg (by simp)]
        cases h : matchP t
        · rw [h] at hm
          simp only [Bool.false_eq_true, if_false]
          clear h
          rw [callL_code g_lease_Validate (by simp)]; simp -implicitDefEqProofs (maxSteps := 4000000) (disch := omega) only [c_lease_Validate, r_lease_Validate, getDT, go_sem, *] /-A2-/
        · rw [h] at hm
          simp only [if_true]
          clear h
          rw [callL_code g_lease_Validate (by simp)]; simp -implicitDefEqProofs (maxSteps := 4000000) (disch := omega) only [c_lease_Validate, r_lease_Validate, getDT, go_sem, *] /-A3-/
      · rw [if_pos c1]
        clear hm
        rw [callL_code g_lease_Validate (by simp)]; simp -implicitDefEqProofs (maxSteps := 4000000) (disch := omega) only [c_lease_Validate, r_lease_Validate, getDT, go_sem, *] /-A4-/
def matchR (t : Table) : Bool := decide (t.heap.length = t.l.length) && t.heap.all fun d => decide (0 ≤ findL t.l d.2) && decide ((t.l.getD (findL t.l d.2).toNat zLease).deadline = d.1)
def tabR (t : Table) : Int :=
  if 12 < t.l.length then 2 else if leasesE t.l ≠ 0 then leasesE t.l else if validateD t.heap ≠ 0 then validateD t.heap else if matchR t = true then 0 else 7
theorem findL_lt (l : List Lease) (id : Int) : -1 ≤ findL l id ∧ findL l id < l.length := idxI_lt _ _
theorem nodup_le {α : Type} [DecidableEq α] : ∀ (A B : List α), A.Nodup → (∀ a ∈ A, a ∈ B) → A.length ≤ B.length
  | [], _, _, _ => Nat.zero_le _
  | a :: A, B, h, hs => by
    have ha := hs a (by simp)
    rw [List.nodup_cons] at h
    have := nodup_le A (B.erase a) h.2 fun x hx => (List.mem_erase_of_ne (by rintro rfl; exact h.1 hx)).2 (hs x (by simp [hx]))
    rw [List.length_erase_of_mem ha] at this
    have hp := List.length_pos_of_mem ha
    simp only [List.length_cons]; omega
theorem nodup_all {α : Type} [DecidableEq α] {A B : List α} (h : A.Nodup) (hs : ∀ a ∈ A, a ∈ B) (hl : B.length ≤ A.length) : ∀ b ∈ B, b ∈ A := by
  intro b hb
  by_cases c : b ∈ A
  · exact c
  · have := nodup_le A (B.erase b) h fun x hx => (List.mem_erase_of_ne (by rintro rfl; exact c hx)).2 (hs x hx)
    rw [List.length_erase_of_mem hb] at this
    have hp := List.length_pos_of_mem hb
    omega
theorem leases_asc {l : List Lease} (h : leasesE l = 0) : l.Pairwise fun x y => x.msg.id < y.msg.id := by
  have h0 : ∀ i, i < l.length → leaseE l i = 0 := by
    rcases leasesE_cases l with ⟨k, _, h2, h3⟩ | ⟨h1, _⟩
    · omega
    · intro i hi
      have := List.find?_eq_none.1 h1 i (List.mem_range.2 hi)
      unfold leaseB at this
      simpa using this
  have step : ∀ i (hi : i + 1 < l.length), l[i].msg.id < l[i + 1].msg.id := fun i hi => by
    have := h0 (i + 1) hi
    unfold leaseE at this
    rw [getDT hi, Nat.add_sub_cancel, getDT (show i < l.length by omega)] at this
    split at this
    · omega
    split at this
    · omega
    split at this
    · omega
    split at this
    · cases this
    · omega
  refine List.pairwise_iff_getElem.2 fun i j hi hj hij => ?_
  obtain ⟨m, rfl⟩ : ∃ m, j = i + 1 + m := ⟨j - (i + 1), by omega⟩
  induction m with
  | zero => exact step i hj
  | succ m ih => exact Int.lt_trans (ih (by omega) (by omega)) (step (i + 1 + m) (by omega))
end Go.Proofs.Ytibkpphblgfmbaa

namespace Go.Proofs.Ytibkpphblgfmbaa
open Go Go.Sim
set_option linter.unusedSimpArgs false
set_option linter.unusedVariables false
set_option maxHeartbeats 10000000
set_option maxRecDepth 40000
def dueOf (x : Lease) : Due := (x.deadline, x.msg.id)
theorem findL_some {l : List Lease} {id : Int} (h : 0 ≤ findL l id) : ∃ k, ∃ hk : k < l.length, findL l id = k ∧ l[k].msg.id = id := by
  unfold findL idxI at h ⊢
  cases hf : l.findIdx? (fun x => decide (x.msg.id = id)) with
  | none => rw [hf] at h; exact absurd h (by simp)
  | some i =>
    obtain ⟨hi, hp, _⟩ := List.findIdx?_eq_some_iff_getElem.1 hf
    exact ⟨i, hi, rfl, by simpa using hp⟩
theorem findL_none {l : List Lease} {id : Int} (h : findL l id < 0) : ∀ x ∈ l, x.msg.id ≠ id := by
  unfold findL idxI at h
  cases hf : l.findIdx? (fun x => decide (x.msg.id = id)) with
  | none => intro x hx; have := List.findIdx?_eq_none_iff.1 hf x hx; simpa using this
  | some i => rw [hf] at h; simp only at h; omega
theorem asc_inj {l : List Lease} (h : l.Pairwise fun x y => x.msg.id < y.msg.id) {i j : Nat} (hi : i < l.length) (hj : j < l.length) (e : l[i].msg.id = l[j].msg.id) : i = j := by
  rw [List.pairwise_iff_getElem] at h
  rcases Nat.lt_trichotomy i j with q | q | q
  · have := h i j hi hj q; omega
  · exact q
  · have := h j i hj hi q; omega
theorem findL_at {l : List Lease} (h : l.Pairwise fun x y => x.msg.id < y.msg.id) {k : Nat} (hk : k < l.length) : findL l l[k].msg.id = k := by
  by_cases c : 0 ≤ findL l l[k].msg.id
  · obtain ⟨j, hj, e, q⟩ := findL_some c
    rw [e, asc_inj h hj hk q]
  · exact absurd rfl (findL_none (by omega) l[k] (List.getElem_mem _))
theorem asc_nodup {l : List Lease} (h : l.Pairwise fun x y => x.msg.id < y.msg.id) : (l.map dueOf).Nodup := by
  refine List.Pairwise.map _ ?_ h
  intro a b hab e
  have := congrArg Prod.snd e
  simp only [dueOf] at this
  omega
theorem matchR_mem {t : Table} (h : t.l.Pairwise fun x y => x.msg.id < y.msg.id) : matchR t = true ↔ t.heap.length = t.l.length ∧ ∀ d ∈ t.heap, d ∈ t.l.map dueOf := by
  unfold matchR
  rw [Bool.and_eq_true, decide_eq_true_eq, List.all_eq_true]
  refine and_congr_right fun _ => forall_congr' fun d => forall_congr' fun hd => ?_
  rw [Bool.and_eq_true, decide_eq_true_eq, decide_eq_true_eq, List.mem_map]
  constructor
  · rintro ⟨h0, h1⟩
    obtain ⟨k, hk, e, q⟩ := findL_some h0
    rw [e, Int.toNat_natCast, getDT hk] at h1
    exact ⟨t.l[k], List.getElem_mem _, Prod.ext h1 q⟩
  · rintro ⟨x, hx, rfl⟩
    obtain ⟨k, hk, rfl⟩ := List.getElem_of_mem hx
    simp only [dueOf, findL_at h hk]
    rw [Int.toNat_natCast, getDT hk]
    exact ⟨by omega, rfl⟩
theorem matchP_mem {t : Table} : matchP t = true ↔ t.heap.length = t.l.length ∧ ∀ d ∈ t.l.map dueOf, d ∈ t.heap := by
  unfold matchP
  rw [Bool.and_eq_true, decide_eq_true_eq, List.all_eq_true]
  refine and_congr_right fun _ => ?_
  constructor
  · intro h d hd
    obtain ⟨x, hx, rfl⟩ := List.mem_map.1 hd
    obtain ⟨y, hy, e⟩ := List.any_eq_true.1 (h x hx)
    rw [decide_eq_true_eq] at e
    rw [show dueOf x = y from e.symm]; exact hy
  · intro h x hx
    exact List.any_eq_true.2 ⟨_, h _ (List.mem_map.2 ⟨x, hx, rfl⟩), by simp [dueOf]⟩
theorem match_same {t : Table} (h : leasesE t.l = 0) (hv : validateD t.heap = 0) : matchP t = matchR t := by
  have ha := leases_asc h
  have hn := ((validate_iff _).1 hv).ids
  have hh : t.heap.Nodup := List.Pairwise.of_map (fun d : Due => d.2) (fun a b h e => h (by rw [e])) hn
  rw [Bool.eq_iff_iff, matchR_mem ha, matchP_mem]
  refine and_congr_right fun e => ⟨fun q => ?_, fun q => ?_⟩
  · exact nodup_all (asc_nodup ha) q (by simp [e])
  · exact nodup_all hh q (by simp [e])
theorem tab_same (t : Table) : tabR t = tabV t := by
  unfold tabR tabV
  by_cases h : leasesE t.l = 0
  · by_cases hv : validateD t.heap = 0
    · rw [match_same h hv]
    · simp only [hv, ne_eq, not_false_eq_true, if_true]
  · simp only [h, ne_eq, not_false_eq_true, if_true]
end Go.Proofs.Ytibkpphblgfmbaa

namespace Go.Proofs.Ytibkpphblgfmbaa
open Go Go.Sim
set_option linter.unusedSimpArgs false
set_option linter.unusedVariables false
set_option maxHeartbeats 10000000
set_option maxRecDepth 40000
theorem clone_api_Lease (es : List D) (hs : allSize 8 es = true) (hL : es.length ≤ 4294967296) : callL G N_slices_Clone_api_Lease [.d (.sl es)] [] = some (.acc 0 es, [(0, .acc es.length)]) := by
  cases es with
  | nil =>
    refine callL_nils0 g_slices_Clone_api_Lease (by decide) ?_ ?_
    · simp -implicitDefEqProofs only [c_slices_Clone_api_Lease, r_slices_Clone_api_Lease, go_sem]
    · simp -implicitDefEqProofs only [c_slices_Clone_api_Lease, r_slices_Clone_api_Lease, Nat.zero_le, go_sem]
  | cons e es =>
    rw [callL_nils g_slices_Clone_api_Lease (by simp) (by decide)]
    simp only [allSize_cons] at hs
    simp only [List.length_cons] at hL
    simp -implicitDefEqProofs (maxSteps := 4000000) (disch := omega) only [c_slices_Clone_api_Lease, r_slices_Clone_api_Lease, go_sem, *]
end Go.Proofs.Ytibkpphblgfmbaa

namespace Go.Proofs.Ytibkpphblgfmbaa
open Go Go.Sim
set_option linter.unusedSimpArgs false
set_option linter.unusedVariables false
set_option maxHeartbeats 10000000
set_option maxRecDepth 40000
end Go.Proofs.Ytibkpphblgfmbaa

namespace Go.Proofs.Ytibkpphblgfmbaa
open Go Go.Sim
set_option linter.unusedSimpArgs false
set_option linter.unusedVariables false
set_option maxHeartbeats 10000000
set_option maxRecDepth 40000
structure FitS (s : Shard) : Prop where
  a : s.ready.cells.length ≤ 4294967296
  b : s.leases.l.length ≤ 4294967296
  c : s.leases.heap.length ≤ 4294967296
structure FitA (a : Arena) : Prop where
  sl : a.slots.length ≤ 1000
  sh : ∀ i (h : i < a.slots.length), FitS (a.slots[i]).shard
  st : a.stripes.length ≤ 4294967296
  de : a.dead.dead.l.length ≤ 4294967296
  dl : a.dir.l.length ≤ 4294967296
  df : a.dir.forward.length ≤ 4294967296
end Go.Proofs.Ytibkpphblgfmbaa

namespace Go.Proofs.Ytibkpphblgfmbaa
open Go Go.Sim
set_option linter.unusedSimpArgs false
set_option linter.unusedVariables false
set_option maxHeartbeats 10000000
set_option maxRecDepth 40000
theorem bytesD_ok (s : List UInt8) : bytesD (byD s) = some s := by
  unfold byD
  induction s with
  | nil => rfl
  | cons b s ih =>
    simp only [List.map_cons, bytesD, ih, Option.map_some, Int.toNat_natCast]
    simp
theorem body_loop (l : List Int) (hL : l.length ≤ 4000) (n : Nat) (hn : n ≤ 3) : ∀ p : Nat × Nat × List UInt8, p.1 ≤ n ∧ p.2.2.length = n → ∃ a' bs, bs.length = n ∧ loopL G [] l_base_Src_Body_0 ⟨[(0, .ref 1000000 0 0), (3, .osl 7 0 n), (4, .d (.int .i64 p.1)), (1000000, .ref 1000000 1 0)], [(7, .row ((byD p.2.2).map .d)), (1000000, srcO l p.2.1)]⟩ = some (.exit 0, ⟨[(3, .osl 7 0 n), (1000000, .ref 1000000 1 0)], [(7, .row ((byD bs).map .d)), (1000000, srcO l a')]⟩) := by
  refine loop_indP (fun p : Nat × Nat × List UInt8 => n - p.1) (fun p : Nat × Nat × List UInt8 => p.1 ≤ n ∧ p.2.2.length = n) (fun p : Nat × Nat × List UInt8 => ⟨[(0, .ref 1000000 0 0), (3, .osl 7 0 n), (4, .d (.int .i64 p.1)), (1000000, .ref 1000000 1 0)], [(7, .row ((byD p.2.2).map .d)), (1000000, srcO l p.2.1)]⟩) (fun p r => ∃ a' bs, bs.length = n ∧ r = some (.exit 0, ⟨[(3, .osl 7 0 n), (1000000, .ref 1000000 1 0)], [(7, .row ((byD bs).map .d)), (1000000, srcO l a')]⟩)) fun ⟨k, a, bs⟩ ⟨hk, hb⟩ L ih => ?_
  simp only at ih hk hb
  simp only [l_base_Src_Body_0]
  by_cases h0 : k < n
  · have n1 := nD_in l a (n := 3) (by omega)
    obtain ⟨c, hc⟩ : ∃ c : UInt8, (c.toNat : Int) = 97 + nD l a 3 := ⟨UInt8.ofNat (97 + nD l a 3).toNat, by rw [UInt8.toNat_ofNat']; omega⟩
    have hg : ((byD bs).map AV.d)[k]? = some (.d (.int .u8 (bs.getD k 0).toNat)) := by
      unfold byD
      simp [List.getElem?_eq_getElem (show k < bs.length by omega), show k < bs.length by omega]
    have hs : ((byD bs).map AV.d).set k (.d (.int .u8 (97 + nD l a 3))) = (byD (bs.set k c)).map AV.d := by
      unfold byD
      rw [← hc, List.map_set, List.map_set]
    obtain ⟨a', bs', h1, h2⟩ := ih (k + 1, (rawD l a).2, bs.set k c) ⟨by simp only; omega, by simp only [List.length_set]; exact hb⟩ (by simp only; omega)
    refine ⟨a', bs', h1, ?_⟩
    simp only [Int.natCast_add, Int.natCast_one, Int.natCast_zero, Int.natCast_mul, Int.cast_ofNat_Int, List.length_append, List.length_map, List.map_nil, List.length_nil, List.map_append, List.map_cons, List.length_cons, Nat.zero_add, srcO, mapSet] at h2
    simp -implicitDefEqProofs (maxSteps := 4000000) (disch := omega) only [go_sem, n_ok, hg, hs, h0]
    exact h2
  · refine ⟨a, bs, hb, ?_⟩
    simp -implicitDefEqProofs (maxSteps := 4000000) (disch := omega) only [go_sem, h0]
theorem body_ok (l : List Int) (a : Nat) (hL : l.length ≤ 4000) : ∃ s a', s.length ≤ 3 ∧ callL G N_base_Src_Body [.ref 1000000 0 0] [(1000000, srcO l a)] = some (.d (.str s), [(1000000, srcO l a')]) := by
  have n1 := nD_in l a (n := 4) (by omega)
  obtain ⟨n, hn⟩ : ∃ n, n = (nD l a 4).toNat := ⟨_, rfl⟩
  have e : nD l a 4 = (n : Int) := by omega
  obtain ⟨a', bs, h1, h2⟩ := body_loop l hL n (by omega) (0, (rawD l a).2, List.replicate n 0) ⟨by omega, by simp⟩
  have hz : List.replicate n (AV.d (.int .u8 0)) = (byD (List.replicate n 0)).map AV.d := by unfold byD; simp
  refine ⟨bs, a', by omega, ?_⟩
  have hl : (byD bs).length = n := by unfold byD; simpa using h1
  have ht : List.take n ((byD bs).map AV.d) = (byD bs).map AV.d := List.take_of_length_le (by simp [hl])
  simp only [Int.natCast_add, Int.natCast_one, Int.natCast_zero, Int.natCast_mul, Int.cast_ofNat_Int, List.length_append, List.length_map, List.map_nil, List.length_nil, List.map_append, List.map_cons, List.length_cons, Nat.zero_add, srcO, mapSet] at h2
  by_cases h0 : n = 0
  · subst h0
    have : bs = [] := List.length_eq_zero_iff.1 h1
    subst this
    simp only [List.replicate_zero, show byD [] = [] from rfl, List.map_nil] at h2
    rw [callL_code g_base_Src_Body (by simp)]; simp -implicitDefEqProofs (maxSteps := 4000000) (disch := omega) only [c_base_Src_Body, r_base_Src_Body, go_sem, n_ok, e, List.replicate_zero, h2]
  · have hne : ¬ (List.map AV.d (byD bs) = []) := by
      intro e2
      have := congrArg List.length e2
      simp [hl] at this
      exact h0 this
    rw [callL_code g_base_Src_Body (by simp)]; simp -implicitDefEqProofs (maxSteps := 4000000) (disch := omega) only [c_base_Src_Body, r_base_Src_Body, go_sem, n_ok, e, hz, h2, hl, ht, bytesD_ok, hne]
theorem body_ex : ∃ f : List Int → Nat → List UInt8 × Nat, ∀ l a, l.length ≤ 4000 → (f l a).1.length ≤ 3 ∧ callL G N_base_Src_Body [.ref 1000000 0 0] [(1000000, srcO l a)] = some (.d (.str (f l a).1), [(1000000, srcO l (f l a).2)]) := by
  refine ⟨fun l a => if h : l.length ≤ 4000 then (Classical.choose (body_ok l a h), Classical.choose (Classical.choose_spec (body_ok l a h))) else ([], 0), fun l a h => ?_⟩
  simp only [h, dif_pos]
  exact Classical.choose_spec (Classical.choose_spec (body_ok l a h))
noncomputable def bodyF : List Int → Nat → List UInt8 × Nat := Classical.choose body_ex
theorem bodyF_ok (l : List Int) (a : Nat) (hL : l.length ≤ 4000) : (bodyF l a).1.length ≤ 3 ∧ callL G N_base_Src_Body [.ref 1000000 0 0] [(1000000, srcO l a)] = some (.d (.str (bodyF l a).1), [(1000000, srcO l (bodyF l a).2)]) := Classical.choose_spec body_ex l a hL
end Go.Proofs.Ytibkpphblgfmbaa

namespace Go.Sim
open Go (World Value Addr TypeId Act Ending Program)
variable {P : Program}
def accRow : AV × Heap → Option (AV × Heap)
  | (.acc 0 [], [(0, .acc 0)]) => some (.xsl [], [])
  | (.acc 0 (e :: es), [(0, .acc n)]) => if n = (e :: es).length then some (.osl 0 0 n, [(0, .row ((e :: es).map .d))]) else none
  | _ => none
def rowed (G0 : FuncId → Option AFn) (k : Nat) (f : FuncId) (args : List AV) (os : Heap) : Option (AV × Heap) :=
  if os.isEmpty = true then (callF G0 k f args os).bind accRow else none
theorem gf_row {f : FuncId} {args : List AV} {os : Heap} {es : List D} (h0 : es ≠ []) (h : GF P f args os (.acc 0 es) [(0, .acc es.length)]) : GF P f args os (.osl 0 0 es.length) [(0, .row (es.map .d))] := by
  intro w R ι us hR hι hinj hob hv
  refine (h w R ι us hR hι hinj hob hv).mono fun e w' => ?_
  rintro ⟨u, ι', R', rfl, p1, p2, p3, p4, p5, p6, p7, p8, p9, p10, p11, p12, p13⟩
  have hob := p12 _ _ (.head _)
  have hm0 : es.length ≠ 0 := fun e => h0 (List.length_eq_zero_iff.1 e)
  have hmk : mark [(0, Obj.acc es.length)] 0 = some es.length := by simp [mark, look]
  have hmk' : mark [(0, Obj.row (es.map .d))] 0 = none := by simp [mark, look]
  have key : OB w' R' ι' (mark [(0, .row (es.map .d))]) 0 (.row (es.map .d)) ∧ VA w' R' ι' (mark [(0, .row (es.map .d))]) (.osl 0 0 es.length) u := by
    generalize hme : mark [(0, Obj.acc es.length)] = me at *
    generalize hde : es = ds at p13
    cases p13 with
    | accR _ _ _ _ _ _ hlt => have := hlt _ hmk; rw [hde] at this; omega
    | acc0 => exact absurd hde h0
    | @accC _ b s m' cap _ c T hι2 hmk2 _ hL hcap hsz hb hc hel =>
      subst hde
      cases hob with
      | accN hι' => rw [hι2] at hι'; cases hι'
      | acc _ hι' hR2 hb' hs0 _ =>
        rw [hι2] at hι'; cases hι'
        refine ⟨.row hι2 hR2 hb hs0 (fun e he => ?_) ?_ fun i e hi j x hj => ?_, ?_⟩
        · obtain ⟨d, hd, rfl⟩ := List.mem_map.1 he; exact hsz d hd
        · rw [List.length_map]; exact Nat.le_trans (Nat.mul_le_mul_right _ hcap) hc
        · rw [List.getElem?_map] at hi
          obtain ⟨d, hd, rfl⟩ := Option.map_eq_some_iff.1 hi
          simp only [AV.cells, List.getElem?_map] at hj
          obtain ⟨cd, hcd, rfl⟩ := Option.map_eq_some_iff.1 hj
          obtain ⟨k1, q, k2, k3⟩ := (hel i d hd).v_of_cells j cd hcd
          exact ⟨k1, q, by rw [cell_of hb] at k2; exact k2, .d k3⟩
        · have := VA.osl (w := w') (R := R') (mk := mark [(0, Obj.row (es.map .d))]) (off := 0) (len := es.length) (cap := cap) hι2 hmk' hb hcap (by simpa using hc) hL
          simpa only [Nat.zero_mul] using this
  refine ⟨u, ι', R', rfl, p1, p2, p3, p4, p5, p6, p7, fun b hb => ?_, p9, p10, p11, fun o ob hm => ?_, key.2⟩
  · obtain ⟨q1, q2⟩ := p8 b hb
    refine ⟨q1, ?_⟩
    rcases q2 with q | q | ⟨o, s, qa, qb⟩
    · exact .inl q
    · exact .inr (.inl q)
    · exfalso
      simp only [look] at qb
      split at qb
      · cases qb
      · cases qb
  · simp only [List.mem_singleton, Prod.mk.injEq] at hm
    obtain ⟨rfl, rfl⟩ := hm
    exact key.1
theorem gf_none {f : FuncId} {args : List AV} {os : Heap} (h : GF P f args os (.acc 0 []) [(0, .acc 0)]) : GF P f args os (.xsl []) [] := by
  intro w R ι us hR hι hinj hob hv
  refine (h w R ι us hR hι hinj hob hv).mono fun e w' => ?_
  rintro ⟨u, ι', R', rfl, p1, p2, p3, p4, p5, p6, p7, p8, p9, p10, p11, p12, p13⟩
  have hmk : mark [(0, Obj.acc 0)] 0 = some 0 := by simp [mark, look]
  have hob := p12 _ _ (.head _)
  have key : ∃ a, u = .slice a 0 0 := by
    generalize hme : mark [(0, Obj.acc 0)] = me at *
    generalize hde : ([] : List D) = ds at p13
    cases p13 with
    | accR _ _ _ _ _ _ hlt => have := hlt _ hmk; omega
    | acc0 => exact ⟨_, rfl⟩
    | @accC _ b s m' cap _ c T hι2 hmk2 _ hL hcap hsz hb hc hel =>
      cases hob with
      | accN hι' => rw [hι2] at hι'; cases hι'
      | acc hpos _ _ _ _ _ => omega
  obtain ⟨a, rfl⟩ := key
  refine ⟨_, ι', R', rfl, p1, p2, p3, p4, p5, p6, p7, fun b hb => ?_, p9, p10, p11, fun o ob hm => (by simp at hm), .xsl .sl0⟩
  obtain ⟨q1, q2⟩ := p8 b hb
  refine ⟨q1, ?_⟩
  rcases q2 with q | q | ⟨o, s, qa, qb⟩
  · exact .inl q
  · exact .inr (.inl q)
  · exfalso
    simp only [look] at qb
    split at qb
    · cases qb
    · cases qb
theorem rowed_ok {G0 : FuncId → Option AFn} (hG : GOK P G0) (k : Nat) (f : FuncId) : FnOK P f (.ext (rowed G0 k f)) := by
  intro args os r os' h h1 h2
  unfold rowed at h
  split at h
  · rename_i hos
    have hos : os = [] := List.isEmpty_iff.1 hos
    subst hos
    obtain ⟨p, hp, hr⟩ := Option.bind_eq_some_iff.1 h
    obtain ⟨p1, p2⟩ := p
    obtain ⟨q1, q2, q3⟩ := callF_ok hG k f args [] p1 p2 hp h1 h2
    refine ⟨q1, ?_⟩
    unfold accRow at hr
    split at hr
    · cases hr
      rename_i he
      cases he
      exact ⟨gf_none q2, ⟨fun n hn => by simp [look] at hn, fun i hi => absurd hi (by simp), fun q hq => by simp [AV.refs] at hq, fun n ob h => by simp at h⟩⟩
    · rename_i e es n he
      cases he
      split at hr
      · rename_i hn
        cases hr
        subst hn
        refine ⟨gf_row (by simp) q2, ⟨fun n hn => ?_, fun i hi => absurd hi (by simp), fun q hq => ?_, fun n ob hm q hq => ?_⟩⟩
        · simp only [look] at hn
          split at hn
          · omega
          · cases hn
        · have : q = 0 := by
            simp only [AV.refs] at hq
            first | exact of_decide_eq_true hq | exact (of_decide_eq_true hq).symm | exact (beq_iff_eq.1 hq) | exact (beq_iff_eq.1 hq).symm
          subst this; simp [look]
        · simp only [List.mem_singleton, Prod.mk.injEq] at hm
          obtain ⟨rfl, rfl⟩ := hm
          exfalso
          simp only [Obj.refs] at hq
          generalize (e :: es) = l at hq
          induction l with
          | nil => simp [AV.refsL] at hq
          | cons x l ih => simp only [List.map_cons, AV.refsL, AV.refs, Bool.false_or] at hq; exact ih hq
      · cases hr
    · cases hr
  · cases h
def updR (G : FuncId → Option AFn) (k : Nat) (fs : List FuncId) (f : FuncId) : Option AFn := if fs.contains f then some (.ext (rowed G k f)) else G f
theorem updR_ok {G : FuncId → Option AFn} (hG : GOK P G) (k : Nat) (fs : List FuncId) : GOK P (updR G k fs) := by
  intro f fn h
  unfold updR at h
  split at h
  · cases h; exact rowed_ok hG k f
  · exact hG f fn h
def rowF (F : Sem1) (f : FuncId) (args : List AV) (os : Heap) : Option (AV × Heap) :=
  if os.isEmpty = true then (F f args os).bind accRow else none
theorem rowF_ok {F : Sem1} (hF : FOK P F) (f : FuncId) : FnOK P f (.ext (rowF F f)) := by
  intro args os r os' h h1 h2
  unfold rowF at h
  split at h
  · rename_i hos
    have hos : os = [] := List.isEmpty_iff.1 hos
    subst hos
    obtain ⟨p, hp, hr⟩ := Option.bind_eq_some_iff.1 h
    obtain ⟨p1, p2⟩ := p
    obtain ⟨q1, q2, q3⟩ := hF f args [] p1 p2 hp h1 h2
    refine ⟨q1, ?_⟩
    unfold accRow at hr
    split at hr
    · cases hr
      rename_i he
      cases he
      exact ⟨gf_none q2, ⟨fun n hn => by simp [look] at hn, fun i hi => absurd hi (by simp), fun q hq => by simp [AV.refs] at hq, fun n ob h => by simp at h⟩⟩
    · rename_i e es n he
      cases he
      split at hr
      · rename_i hn
        cases hr
        subst hn
        refine ⟨gf_row (by simp) q2, ⟨fun n hn => ?_, fun i hi => absurd hi (by simp), fun q hq => ?_, fun n ob hm q hq => ?_⟩⟩
        · simp only [look] at hn
          split at hn
          · omega
          · cases hn
        · have : q = 0 := by
            simp only [AV.refs] at hq
            first | exact of_decide_eq_true hq | exact (of_decide_eq_true hq).symm | exact (beq_iff_eq.1 hq) | exact (beq_iff_eq.1 hq).symm
          subst this; simp [look]
        · simp only [List.mem_singleton, Prod.mk.injEq] at hm
          obtain ⟨rfl, rfl⟩ := hm
          exfalso
          simp only [Obj.refs] at hq
          generalize (e :: es) = l at hq
          induction l with
          | nil => simp [AV.refsL] at hq
          | cons x l ih => simp only [List.map_cons, AV.refsL, AV.refs, Bool.false_or] at hq; exact ih hq
      · cases hr
    · cases hr
  · cases h
noncomputable def layer (G : FuncId → Option AFn) (rows done : List FuncId) (f : FuncId) : Option AFn :=
  if rows.contains f then some (.ext (rowF (callL G) f)) else if done.contains f then some (.ext (callL G f)) else G f
theorem layer_ok {G : FuncId → Option AFn} (hG : GOK P G) (rows done : List FuncId) : GOK P (layer G rows done) := by
  intro f fn h
  unfold layer at h
  split at h
  · cases h; exact rowF_ok (callL_ok hG) f
  · split at h
    · cases h; exact fun args os r os' h1 h2 h3 => callL_ok hG f args os r os' h1 h2 h3
    · exact hG f fn h
theorem layer_up {G : FuncId → Option AFn} {rows done : List FuncId} {f : FuncId} {args : List AV} {os : Heap} (h : layer G rows done f = some (.ext (callL G f))) : callL (layer G rows done) f args os = callL G f args os := by
  rw [callL_ext h]
theorem layer_row {G : FuncId → Option AFn} {rows done : List FuncId} {f : FuncId} {args : List AV} {es : List D} (h : layer G rows done f = some (.ext (rowF (callL G) f))) (h0 : es ≠ []) (hc : callL G f args [] = some (.acc 0 es, [(0, .acc es.length)])) :
    callL (layer G rows done) f args [] = some (.osl 0 0 es.length, [(0, .row (es.map .d))]) := by
  rw [callL_ext h]
  unfold rowF
  rw [if_pos (by rfl), hc]
  cases es with
  | nil => exact absurd rfl h0
  | cons e es => simp [accRow]
theorem layer_row0 {G : FuncId → Option AFn} {rows done : List FuncId} {f : FuncId} {args : List AV} (h : layer G rows done f = some (.ext (rowF (callL G) f))) (hc : callL G f args [] = some (.acc 0 [], [(0, .acc 0)])) :
    callL (layer G rows done) f args [] = some (.xsl [], []) := by
  rw [callL_ext h]
  unfold rowF
  rw [if_pos (by rfl), hc]
  simp [accRow]
end Go.Sim

namespace Go.Proofs.Ytibkpphblgfmbaa
open Go Go.Sim
set_option linter.unusedSimpArgs false
set_option linter.unusedVariables false
set_option maxHeartbeats 10000000
set_option maxRecDepth 40000
theorem more_ok (l : List Int) (a : Nat) (hL : l.length ≤ 4000) : callL G N_base_Src_More [.d (.pd (.agg [.sl (ints l), .int .i64 a]))] [] = some (.d (.bool (decide ((a : Int) < l.length))), []) := by
  rw [callL_code g_base_Src_More (by simp)]; simp -implicitDefEqProofs (maxSteps := 4000000) (disch := omega) only [c_base_Src_More, r_base_Src_More, getDT, go_sem, *] /-A0-/
end Go.Proofs.Ytibkpphblgfmbaa
