/-
  Heaps of deadlines: what the functions of package due compute, part 2.
  Heaps of deadlines: what the functions of package due compute, part 3.
  Heaps of deadlines: what the functions of package due compute, part 4.
  Heaps of deadlines: what the functions of package due compute, part 5.
  Heaps of deadlines, in plain terms: sifting keeps the elements and mends the order.
  Heaps of deadlines, in plain terms: what a valid heap is, and what Push, Pop and Remove make of it.
  Heaps as the reference builds them.
  Heaps as the reader of numbers builds them.
  The reference of heaps: sifting down, cutting, Pop, Remove, equality.
  The reference of heaps: cutting, Pop, Remove.
  Sorting by insertion, and Until.
  Until, as the reference has it.
-/
import Derived.Test.YtmbnbjkdamalpaaGreatB38d6295
import Derived.Test.YtmbnbjkdamalpaaGreatBb2b84c3
set_option linter.unusedSimpArgs false
set_option linter.unusedVariables false
namespace Go.Proofs.YtmbnbjkdamalpaaGreat
open Go Go.Sim
set_option linter.unusedSimpArgs false
set_option linter.unusedVariables false
set_option maxHeartbeats 10000000
set_option maxRecDepth 4000
def invalidB : D → Bool
  | .agg [.int _ t, .int _ i] => !validD (t, i)
  | _ => false
def dupAt (h : List Due) (i : Nat) : Bool := decide (findD h (h.getD i (0, 0)).2 ≠ i)
def ordAt (h : List Due) (i : Nat) : Bool := lt (h.getD i (0, 0)) (h.getD ((i - 1) / 2) (0, 0))
def validateD (h : List Due) : Int := if 12 < h.length then 2 else if h.any (fun d => !validD d) then 1 else if (List.range' 0 h.length).any (dupAt h) then 10 else if (List.range' 1 (h.length - 1)).any (ordAt h) then 11 else 0
theorem wrapS {k : Nat} {j : Int} (h0 : 0 ≤ (k : Int) - j) (h1 : (k : Int) - j ≤ 4294967296) : IntKind.i64.wrap ((k : Int) - j) = (k : Int) - j := by
  rw [Go.IntWalk.i64_in _ (by omega)]
def val0R (h : List Due) (k : Nat) : AExit × St :=
  if (List.range' k (h.length - k)).any (dupAt h) then (.ret, ⟨[(2, .d (.int .i64 10))], []⟩)
  else (.exit 0, ⟨[(0, .d (.sl (h.map eD)))], []⟩)
theorem val0_loop (h : List Due) (hL : h.length ≤ 12) : ∀ k, k ≤ h.length → loopL G [] l_due_Validate_0 ⟨[(0, .d (.sl (h.map eD))), (11, .d (.sl (h.map eD))), (12, .d (.int .i64 h.length)), (13, .d (.int .i64 k))], []⟩ = some (val0R h k) := by
  refine loop_ind (fun k => h.length - k) (fun k => k ≤ h.length) _ _ fun k hk L ih => ?_
  simp only [l_due_Validate_0]
  by_cases hlt : k < h.length
  · have hf := find_ok h h[k].2 (by simp [LIM]; omega)
    have i1 := ih (k + 1) (by omega) (by omega)
    unfold val0R at i1 ⊢
    rw [show h.length - k = (h.length - (k + 1)) + 1 by omega, List.range'_succ, List.any_cons]
    have hd : dupAt h k = !decide (findD h h[k].2 = k) := by simp [dupAt, hlt]
    rw [hd]
    clear ih hd
    simp only [Int.natCast_add, Int.natCast_one, Int.natCast_zero, Int.natCast_mul, Int.cast_ofNat_Int, List.length_append, List.length_map, List.map_nil, List.length_nil, List.map_append, List.map_cons, List.length_cons, Nat.zero_add, srcO, mapSet] at i1
    generalize (List.range' (k + 1) (h.length - (k + 1))).any (dupAt h) = z at *
    by_cases hc : findD h h[k].2 = k
    · rw [decide_eq_true hc]
      rw [hc] at hf
      simp only [Bool.not_true, Bool.false_or]
      cases z
      · simp only [if_false, Bool.false_eq_true] at i1 ⊢
        simp -implicitDefEqProofs (maxSteps := 4000000) (disch := omega) only [getDT, go_sem, *] /-A0-/
      · simp only [if_true] at i1 ⊢
        simp -implicitDefEqProofs (maxSteps := 4000000) (disch := omega) only [getDT, go_sem, *] /-A1-/
    · rw [decide_eq_false hc]
      simp only [Bool.not_false, Bool.true_or, if_true]
      clear i1
      simp -implicitDefEqProofs (maxSteps := 4000000) (disch := omega) only [getDT, go_sem, *] /-A2-/
  · have : k = h.length := by omega
    subst this
    clear ih
    simp only [val0R, Nat.sub_self, List.range'_zero, List.any_nil, if_false, Bool.false_eq_true]
    simp -implicitDefEqProofs (maxSteps := 4000000) (disch := omega) only [getDT, go_sem, *] /-A3-/
def val1R (h : List Due) (k : Nat) : AExit × St :=
  if (List.range' k (h.length - k)).any (ordAt h) then (.ret, ⟨[(2, .d (.int .i64 11))], []⟩)
  else (.exit 2, ⟨[], []⟩)
theorem val1_loop (h : List Due) (hL : h.length ≤ 12) : ∀ k : Nat, 1 ≤ k → loopL G [] l_due_Validate_1 ⟨[(0, .d (.sl (h.map eD))), (5, .d (.int .i64 k))], []⟩ = some (val1R h k) := by
  refine loop_ind (fun k => h.length - k) (fun k => 1 ≤ k) _ _ fun k hk L ih => ?_
  simp -implicitDefEqProofs only [l_due_Validate_1, List.length_map, go_sem]
  by_cases hlt : k < h.length
  · have hb := before_ok h k ((k - 1) / 2) hlt (by omega)
    have hq : IntKind.i64.wrap (((k : Int) - 1).tdiv 2) = (((k - 1) / 2 : Nat) : Int) := by
      rw [wrapN (by rw [Int.tdiv_eq_ediv_of_nonneg (by omega)]; omega) (by rw [Int.tdiv_eq_ediv_of_nonneg (by omega)]; omega), Int.tdiv_eq_ediv_of_nonneg (by omega)]; omega
    simp -implicitDefEqProofs only [show ((k : Int) < (h.length : Int)) by omega, wrapN (show -4294967296 ≤ (k : Int) - 1 by omega) (by omega), hq, hb, wrap1 hlt (show h.length ≤ LIM by simp [LIM]; omega), show ¬ ((2 : Int) = 0) by decide, go_sem]
    have i1 := ih (k + 1) (by omega) (by omega)
    simp only [Int.natCast_add, Int.natCast_one] at i1
    rw [i1]
    unfold val1R
    rw [show h.length - k = (h.length - (k + 1)) + 1 by omega, List.range'_succ, List.any_cons]
    have hd : ordAt h k = lt h[k] h[(k - 1) / 2] := by simp [ordAt, hlt, show (k - 1) / 2 < h.length by omega]
    rw [hd]
    cases lt h[k] h[(k - 1) / 2]
    · simp -implicitDefEqProofs only [go_sem]
    · simp -implicitDefEqProofs only [go_sem]
  · simp -implicitDefEqProofs only [show ¬ ((k : Int) < (h.length : Int)) by omega, go_sem]
    simp [val1R, show h.length - k = 0 by omega]
theorem validate_ok (h : List Due) (hL : h.length ≤ LIM) : callL G N_due_Validate [.d (.sl (h.map eD))] [] = some (.d (.int .i64 (validateD h)), []) := by
  have h1 := contains_ok (h.map eD) N_due_Validate_1 [] invalidB (by simpa using hL) (fun e he => by obtain ⟨d, _, rfl⟩ := List.mem_map.1 he; rfl) (fun e he => by
    obtain ⟨d, _, rfl⟩ := List.mem_map.1 he
    exact Validate1_ok d)
  have h2 : (h.map eD).any invalidB = h.any (fun d => !validD d) := by rw [List.any_map]; rfl
  rw [h2] at h1
  rw [callL_code g_due_Validate (by simp)]; simp -implicitDefEqProofs only [c_due_Validate, r_due_Validate, go_sem]
  simp -implicitDefEqProofs only [h1, List.length_map, go_sem]
  unfold validateD
  by_cases h12 : 12 < h.length
  · simp -implicitDefEqProofs only [h12, show (12 < (h.length : Int)) by omega, go_sem]
  · have e0 := val0_loop h (by omega) 0 (by omega)
    have e1 := val1_loop h (by omega) 1 (by omega)
    simp only [Int.natCast_zero] at e0
    simp only [Int.natCast_one] at e1
    cases hA : h.any (fun d => !validD d)
    · simp -implicitDefEqProofs only [hA, h12, show ¬ (12 < (h.length : Int)) by omega, e0, val0R, Nat.sub_zero, go_sem]
      cases hB : (List.range' 0 h.length).any (dupAt h)
      · simp -implicitDefEqProofs only [hB, e1, val1R, go_sem]
        cases hC : (List.range' 1 (h.length - 1)).any (ordAt h) <;> simp -implicitDefEqProofs only [hC, go_sem]
      · simp -implicitDefEqProofs only [hB, go_sem]
    · simp -implicitDefEqProofs only [hA, h12, show ¬ (12 < (h.length : Int)) by omega, go_sem]
end Go.Proofs.YtmbnbjkdamalpaaGreat

namespace Go.Proofs.YtmbnbjkdamalpaaGreat
open Go Go.Sim
set_option linter.unusedSimpArgs false
set_option linter.unusedVariables false
set_option maxHeartbeats 10000000
set_option maxRecDepth 4000
abbrev rowL (h : List Due) : Go.Sim.Obj := .row ((h.map eD).map .d)
def swp (l : List Due) (i j : Nat) : List Due := (l.set i (l.getD j (0, 0))).set j (l.getD i (0, 0))
theorem swp_length (l : List Due) (i j : Nat) : (swp l i j).length = l.length := by simp [swp]
def upL (l : List Due) (i : Nat) : List Due × Nat :=
  if 0 < i then
    if lt (l.getD i (0, 0)) (l.getD ((i - 1) / 2) (0, 0)) then upL (swp l i ((i - 1) / 2)) ((i - 1) / 2) else (l, i)
  else (l, i)
termination_by i
decreasing_by omega
theorem rowGet (l : List Due) (i : Nat) (h : i < l.length) : (List.map AV.d (List.map eD l))[i]? = some (.d (eD (l.getD i (0, 0)))) := by
  simp [List.getElem?_map, List.getElem?_eq_getElem h, h]
theorem rowSet (l : List Due) (i : Nat) (x : Due) : (List.map AV.d (List.map eD l)).set i (.d (eD x)) = List.map AV.d (List.map eD (l.set i x)) := by
  rw [List.map_set, List.map_set]
theorem rowAll (l : List Due) : List.take l.length (List.map AV.d (List.map eD l)) = List.map AV.d (List.map eD l) := by
  rw [List.take_of_length_le]; simp
theorem rowLen (l : List Due) : (List.map eD l).length = l.length := by simp
theorem before_ok' (h : List Due) (i j : Nat) (hi : i < h.length) (hj : j < h.length) : callL G N_due_before [.d (.sl (h.map eD)), .d (.int .i64 i), .d (.int .i64 j)] [] = some (.d (.bool (lt (h.getD i (0, 0)) (h.getD j (0, 0)))), []) := by
  rw [before_ok h i j hi hj]; simp [hi, hj]
def upS (l : List Due) (i : Nat) : St := ⟨[(0, .osl 1000000 0 l.length), (1, .d (.int .i64 i)), (1000000, .ref 1000000 1 0)], [(1000000, rowL l)]⟩
def upE (l : List Due) (i : Nat) : St := ⟨[(1, .d (.int .i64 i)), (1000000, .ref 1000000 1 0)], [(1000000, rowL l)]⟩
theorem upL_length (l : List Due) (i : Nat) : (upL l i).1.length = l.length := by
  fun_induction upL l i with
  | case1 l i h0 h1 ih => rw [ih, swp_length]
  | case2 => rfl
  | case3 => rfl
def downL (l : List Due) (i : Nat) : List Due :=
  if _h : 2 * i + 1 < l.length then
    let k := if 2 * i + 1 + 1 < l.length ∧ lt (l.getD (2 * i + 1 + 1) (0, 0)) (l.getD (2 * i + 1) (0, 0)) then 2 * i + 1 + 1 else 2 * i + 1
    if lt (l.getD k (0, 0)) (l.getD i (0, 0)) then downL (swp l i k) k else l
  else l
termination_by l.length - i
decreasing_by simp only [swp_length]; split <;> omega
end Go.Proofs.YtmbnbjkdamalpaaGreat

namespace Go.Proofs.YtmbnbjkdamalpaaGreat
open Go Go.Sim
set_option linter.unusedSimpArgs false
set_option linter.unusedVariables false
set_option maxHeartbeats 10000000
set_option maxRecDepth 40000
def pushL (h : List Due) (d : Due) : List Due := (upL (h ++ [d]) h.length).1
def pushE (h : List Due) (d : Due) : Int := if validateD h ≠ 0 then validateD h else if validD d = false then 1 else if h.length = 12 then 3 else if 0 ≤ findD h d.2 then 10 else 0
def pushD (h : List Due) (d : Due) : List Due × Int := (if pushE h d = 0 then pushL h d else [], pushE h d)
def eDE (r : List Due × Int) : D := .tup [.sl (r.1.map eD), .int .i64 r.2]
theorem validateD_le {h : List Due} (h0 : validateD h = 0) : h.length ≤ 12 := by
  unfold validateD at h0
  split at h0
  · cases h0
  · omega
end Go.Proofs.YtmbnbjkdamalpaaGreat

namespace Go.Proofs.YtmbnbjkdamalpaaGreat
open Go Go.Sim
set_option linter.unusedSimpArgs false
set_option linter.unusedVariables false
set_option maxHeartbeats 10000000
set_option maxRecDepth 40000
theorem downL_length (l : List Due) (i : Nat) : (downL l i).length = l.length := by
  fun_induction downL l i with
  | case1 l i h k h1 ih => rw [ih, swp_length]
  | case2 => rfl
  | case3 => rfl
def dropL (h : List Due) (i : Nat) : List Due :=
  if i = h.length - 1 then h.take (h.length - 1) else
  let l := (h.take (h.length - 1)).set i (h.getD (h.length - 1) (0, 0))
  if (upL l i).2 = i then downL (upL l i).1 i else (upL l i).1
def errD (h : List Due) (e : Int) : Int := if validateD h ≠ 0 then validateD h else if e ≠ 0 then e else 0
def popD (h : List Due) : List Due × Due × Int :=
  if validateD h ≠ 0 then ([], (0, 0), validateD h) else if h = [] then ([], (0, 0), 4) else (dropL h 0, h.getD 0 (0, 0), 0)
def removeD (h : List Due) (id : Int) : List Due × Int :=
  if validateD h ≠ 0 then ([], validateD h) else if findD h id < 0 then ([], 4) else (dropL h (findD h id).toNat, 0)
theorem find_lt (h : List Due) (id : Int) : findD h id < h.length := by
  unfold findD idxI
  cases e : List.findIdx? (fun d : Due => decide (d.2 = id)) h with
  | none => simp only; omega
  | some i => have := (List.findIdx?_eq_some_iff_getElem.1 e).1; simp only; omega
end Go.Proofs.YtmbnbjkdamalpaaGreat

namespace Go.Proofs.YtmbnbjkdamalpaaGreat
open Go Go.Sim
set_option linter.unusedSimpArgs false
set_option linter.unusedVariables false
set_option maxHeartbeats 10000000
abbrev dz : Due := (0, 0)
theorem lt_iff (a b : Due) : lt a b = true ↔ a.1 < b.1 ∨ (a.1 = b.1 ∧ a.2 < b.2) := by
  unfold lt cmpD cmpI
  rw [decide_eq_true_iff]
  repeat' split
  all_goals omega
theorem lt_ff (a b : Due) : lt a b = false ↔ b.1 < a.1 ∨ (b.1 = a.1 ∧ b.2 ≤ a.2) := by
  rw [← Bool.not_eq_true, lt_iff]; omega
theorem lt_asymm {a b : Due} (h : lt a b = true) : lt b a = false := by rw [lt_iff] at h; rw [lt_ff]; omega
theorem le_trans' {a b c : Due} (h1 : lt b a = false) (h2 : lt c b = false) : lt c a = false := by rw [lt_ff] at *; omega
def HeapO (l : List Due) : Prop := ∀ k, 1 ≤ k → k < l.length → lt (l.getD k dz) (l.getD ((k - 1) / 2) dz) = false
theorem swp_get (l : List Due) (i j k : Nat) (hi : i < l.length) (hj : j < l.length) : (swp l i j).getD k dz = if k = j then l.getD i dz else if k = i then l.getD j dz else l.getD k dz := by
  unfold swp
  simp only [List.getD_eq_getElem?_getD, List.getElem?_set, List.length_set]
  by_cases h1 : j = k
  · subst h1; simp [hj]
  · rw [if_neg h1, if_neg (Ne.symm h1)]
    by_cases h2 : i = k
    · subst h2; simp [hi]
    · rw [if_neg h2, if_neg (Ne.symm h2)]
theorem swp_perm (l : List Due) (i j : Nat) (hi : i < l.length) (hj : j < l.length) : (swp l i j).Perm l := by
  unfold swp
  have := List.set_set_perm hi hj
  simpa [hi, hj] using this
theorem up_perm (l : List Due) (i : Nat) (hi : i < l.length) : (upL l i).1.Perm l := by
  fun_induction upL l i with
  | case1 l i h0 h1 ih => exact (ih (by rw [swp_length]; omega)).trans (swp_perm l _ _ hi (by omega))
  | case2 => exact .refl _
  | case3 => exact .refl _
theorem up_heap (l : List Due) (i : Nat) (hi : i < l.length) (h1 : ∀ k, 1 ≤ k → k < l.length → k ≠ i → lt (l.getD k dz) (l.getD ((k - 1) / 2) dz) = false)
    (h2 : ∀ k, 1 ≤ k → k < l.length → (k - 1) / 2 = i → 1 ≤ i → lt (l.getD k dz) (l.getD ((i - 1) / 2) dz) = false) : HeapO (upL l i).1 := by
  fun_induction upL l i with
  | case1 l i h0 hlt ih =>
    have hp : (i - 1) / 2 < l.length := by omega
    have e := fun k => swp_get l i ((i - 1) / 2) k hi hp
    refine ih (by rw [swp_length]; omega) (fun k ha hb hc => ?_) (fun k ha hb hc hd => ?_)
    · rw [swp_length] at hb
      rw [e, e]
      by_cases hk : k = i
      · subst hk
        rw [if_neg (by omega), if_pos rfl, if_pos rfl]
        exact lt_asymm hlt
      · rw [if_neg hc, if_neg hk]
        by_cases hq : (k - 1) / 2 = (i - 1) / 2
        · rw [if_pos hq]
          have := h1 k ha hb hk
          rw [hq] at this
          exact le_trans' (lt_asymm hlt) this
        · rw [if_neg hq]
          by_cases hr : (k - 1) / 2 = i
          · rw [if_pos hr]; exact h2 k ha hb hr (by omega)
          · rw [if_neg hr]; exact h1 k ha hb hk
    · rw [swp_length] at hb
      rw [e, e, if_neg (show k ≠ (i - 1) / 2 by omega), if_neg (show ((i - 1) / 2 - 1) / 2 ≠ (i - 1) / 2 by omega), if_neg (show ((i - 1) / 2 - 1) / 2 ≠ i by omega)]
      have hpp := h1 ((i - 1) / 2) hd hp (by omega)
      by_cases hk : k = i
      · rw [if_pos hk]; exact hpp
      · rw [if_neg hk]
        have := h1 k ha hb hk
        rw [hc] at this
        exact le_trans' hpp this
  | case2 l i h0 hlt =>
    intro k ha hb
    by_cases hk : k = i
    · subst hk; simpa using hlt
    · exact h1 k ha hb hk
  | case3 l i h0 =>
    intro k ha hb
    exact h1 k ha hb (by omega)
theorem down_perm (l : List Due) (i : Nat) (hi : i < l.length) : (downL l i).Perm l := by
  fun_induction downL l i with
  | case1 l i h k h1 ih =>
    have hk : k < l.length := by simp only [k]; split <;> omega
    exact (ih (by rw [swp_length]; exact hk)).trans (swp_perm l _ _ hi hk)
  | case2 => exact .refl _
  | case3 => exact .refl _
theorem down_heap (l : List Due) (i : Nat) (hi : i < l.length) (h1 : ∀ k, 1 ≤ k → k < l.length → (k - 1) / 2 ≠ i → lt (l.getD k dz) (l.getD ((k - 1) / 2) dz) = false)
    (h2 : ∀ k, 1 ≤ k → k < l.length → (k - 1) / 2 = i → 1 ≤ i → lt (l.getD k dz) (l.getD ((i - 1) / 2) dz) = false) : HeapO (downL l i) := by
  fun_induction downL l i with
  | case1 l i h k hlt ih =>
    have hk : k < l.length ∧ i < k ∧ (k - 1) / 2 = i ∧ ∀ q, 1 ≤ q → q < l.length → (q - 1) / 2 = i → lt (l.getD q dz) (l.getD k dz) = false := by
      simp only [k]
      split
      · rename_i hc
        refine ⟨by omega, by omega, by omega, fun q ha hb hq => ?_⟩
        have : q = 2 * i + 1 ∨ q = 2 * i + 1 + 1 := by omega
        rcases this with rfl | rfl
        · exact lt_asymm hc.2
        · rw [lt_ff]; omega
      · rename_i hc
        refine ⟨by omega, by omega, by omega, fun q ha hb hq => ?_⟩
        have : q = 2 * i + 1 ∨ q = 2 * i + 1 + 1 := by omega
        rcases this with rfl | rfl
        · rw [lt_ff]; omega
        · simp only [hb, true_and, Bool.not_eq_true] at hc; exact hc
    obtain ⟨hk1, hk2, hk3, hk4⟩ := hk
    clear_value k
    have e := fun q => swp_get l i k q hi hk1
    refine ih (by rw [swp_length]; exact hk1) (fun q ha hb hc => ?_) (fun q ha hb hc hd => ?_)
    · rw [swp_length] at hb
      rw [e, e]
      by_cases hq : q = k
      · subst hq
        rw [if_pos rfl, hk3, if_neg (by omega), if_pos rfl]
        exact lt_asymm hlt
      · rw [if_neg hq, if_neg hc]
        by_cases hr : q = i
        · subst hr
          rw [if_pos rfl, if_neg (by omega)]
          exact h2 k (by omega) hk1 hk3 ha
        · rw [if_neg hr]
          by_cases hs : (q - 1) / 2 = i
          · rw [if_pos hs]; exact hk4 q ha hb hs
          · rw [if_neg hs]; exact h1 q ha hb hs
    · rw [swp_length] at hb
      rw [e, e, if_neg (show q ≠ k by omega), if_neg (show q ≠ i by omega), hk3, if_neg (by omega), if_pos rfl]
      have := h1 q ha hb (by omega)
      rw [hc] at this; exact this
  | case2 l i h k hlt =>
    intro q ha hb
    by_cases hq : (q - 1) / 2 = i
    · have hlt : lt (l.getD k dz) (l.getD i dz) = false := by simpa using hlt
      rw [hq]
      refine le_trans' hlt ?_
      simp only [k]
      have : q = 2 * i + 1 ∨ q = 2 * i + 1 + 1 := by omega
      split
      · rename_i hc
        rcases this with rfl | rfl
        · exact lt_asymm hc.2
        · rw [lt_ff]; omega
      · rename_i hc
        rcases this with rfl | rfl
        · rw [lt_ff]; omega
        · simp only [hb, true_and, Bool.not_eq_true] at hc; exact hc
    · exact h1 q ha hb hq
  | case3 l i h =>
    intro q ha hb
    exact h1 q ha hb (by omega)
end Go.Proofs.YtmbnbjkdamalpaaGreat

namespace Go.Proofs.YtmbnbjkdamalpaaGreat
open Go Go.Sim
set_option linter.unusedSimpArgs false
set_option linter.unusedVariables false
set_option maxHeartbeats 10000000
theorem findD_lt (h : List Due) (j : Int) : findD h j < h.length := by
  unfold findD idxI
  cases e : List.findIdx? (fun d : Due => decide (d.2 = j)) h with
  | none => simp only; omega
  | some i => have := (List.findIdx?_eq_some_iff_getElem.1 e).1; simp only; omega
theorem findD_at (h : List Due) (j : Int) (h0 : 0 ≤ findD h j) : (h.getD (findD h j).toNat dz).2 = j := by
  revert h0
  unfold findD idxI
  cases e : List.findIdx? (fun d : Due => decide (d.2 = j)) h with
  | none => simp
  | some i =>
    obtain ⟨h1, h2, _⟩ := List.findIdx?_eq_some_iff_getElem.1 e
    simp only [Int.toNat_natCast]
    intro _
    simpa [h1] using h2
theorem findD_neg (h : List Due) (j : Int) : findD h j < 0 ↔ j ∉ h.map (·.2) := by
  unfold findD idxI
  cases e : List.findIdx? (fun d : Due => decide (d.2 = j)) h with
  | none =>
    simp only [List.findIdx?_eq_none_iff, decide_eq_false_iff_not] at e
    simp only [show ((-1 : Int) < 0) by omega, true_iff, List.mem_map, not_exists, not_and]
    exact fun d hd => e d hd
  | some i =>
    obtain ⟨h1, h2, _⟩ := List.findIdx?_eq_some_iff_getElem.1 e
    simp only [decide_eq_true_eq] at h2
    refine ⟨fun h => by simp only at h; omega, fun hn => absurd (List.mem_map.2 ⟨_, List.getElem_mem h1, h2⟩) hn⟩
theorem findD_idx (h : List Due) (i : Nat) (hi : i < h.length) (hd : (h.map (·.2)).Nodup) : findD h (h.getD i dz).2 = i := by
  unfold findD idxI
  have : List.findIdx? (fun d : Due => decide (d.2 = (h.getD i dz).2)) h = some i := by
    refine List.findIdx?_eq_some_iff_getElem.2 ⟨hi, by simp [hi], fun j hj => ?_⟩
    have := (List.pairwise_iff_getElem.1 hd) j i (by simp; omega) (by simpa using hi) hj
    simpa [hi] using this
  rw [this]
theorem nodup_of (h : List Due) (hf : ∀ i, i < h.length → findD h (h.getD i dz).2 = i) : (h.map (·.2)).Nodup := by
  refine List.pairwise_iff_getElem.2 fun i j hi hj hij => ?_
  simp only [List.length_map] at hi hj
  simp only [List.getElem_map]
  intro he
  have h1 := hf i hi
  have h2 := hf j hj
  simp only [List.getD_eq_getElem?_getD, List.getElem?_eq_getElem hi, List.getElem?_eq_getElem hj, Option.getD_some] at h1 h2
  rw [he] at h1
  omega
structure Ok (h : List Due) : Prop where
  len : h.length ≤ 12
  val : ∀ d ∈ h, validD d = true
  ids : (h.map (·.2)).Nodup
  ord : HeapO h
theorem validate_iff (h : List Due) : validateD h = 0 ↔ Ok h := by
  unfold validateD
  by_cases h1 : 12 < h.length
  · rw [if_pos h1]; exact ⟨fun h => by omega, fun o => absurd o.len (by omega)⟩
  rw [if_neg h1]
  by_cases h2 : h.any (fun d => !validD d) = true
  · rw [if_pos h2]
    refine ⟨fun h => by omega, fun o => ?_⟩
    obtain ⟨d, hd, h3⟩ := List.any_eq_true.1 h2
    simp [o.val d hd] at h3
  rw [if_neg h2]
  have h2 : ∀ d ∈ h, validD d = true := by simpa using h2
  by_cases h3 : (List.range' 0 h.length).any (dupAt h) = true
  · rw [if_pos h3]
    refine ⟨fun h => by omega, fun o => ?_⟩
    obtain ⟨i, hi, h4⟩ := List.any_eq_true.1 h3
    simp only [List.mem_range'_1, Nat.zero_add] at hi
    simp [dupAt, findD_idx h i hi.2 o.ids] at h4
    exact absurd (findD_idx h i hi.2 o.ids) (by simpa [dz] using h4)
  rw [if_neg h3]
  have h3 : ∀ i, i < h.length → findD h (h.getD i dz).2 = i := by
    intro i hi
    simp only [List.any_eq_true, not_exists, not_and, List.mem_range'_1] at h3
    have := h3 i ⟨by omega, by omega⟩
    simpa [dupAt] using this
  by_cases h4 : (List.range' 1 (h.length - 1)).any (ordAt h) = true
  · rw [if_pos h4]
    refine ⟨fun h => by omega, fun o => ?_⟩
    obtain ⟨i, hi, h5⟩ := List.any_eq_true.1 h4
    simp only [List.mem_range'_1] at hi
    have := o.ord i hi.1 (by omega)
    unfold ordAt at h5
    rw [h5] at this; cases this
  rw [if_neg h4]
  refine ⟨fun _ => ⟨by omega, h2, nodup_of h h3, fun k ha hb => ?_⟩, fun _ => rfl⟩
  simp only [List.any_eq_true, not_exists, not_and, List.mem_range'_1] at h4
  have := h4 k ⟨by omega, by omega⟩
  simpa [ordAt] using this
theorem Ok.of_perm {h l : List Due} (hp : l.Perm h) (hl : h.length ≤ 12) (hv : ∀ d ∈ h, validD d = true) (hi : (h.map (·.2)).Nodup) (ho : HeapO l) : Ok l :=
  ⟨by rw [hp.length_eq]; exact hl, fun d hd => hv d (hp.mem_iff.1 hd), (hp.map _).nodup_iff.2 hi, ho⟩
theorem ok_nil : Ok [] := ⟨by simp, by simp, by simp, fun k _ h => by simp at h⟩
theorem getD_app (h : List Due) (d : Due) (k : Nat) : (h ++ [d]).getD k dz = if k < h.length then h.getD k dz else if k = h.length then d else dz := by
  simp only [List.getD_eq_getElem?_getD, List.getElem?_append]
  split
  · rfl
  · rename_i hk
    by_cases hk2 : k = h.length
    · subst hk2; simp
    · rw [if_neg hk2, List.getElem?_eq_none (by simp; omega)]; rfl
theorem push_ok' {h : List Due} {d : Due} (o : Ok h) (hd : validD d = true) (hl : h.length < 12) (hn : d.2 ∉ h.map (·.2)) : pushD h d = (pushL h d, 0) ∧ Ok (pushL h d) ∧ (pushL h d).Perm (d :: h) := by
  have hp : (pushL h d).Perm (d :: h) := (up_perm (h ++ [d]) h.length (by simp)).trans (List.perm_append_comm (l₂ := [d]))
  have he : pushE h d = 0 := by
    unfold pushE
    rw [(validate_iff h).2 o, hd, if_neg (by simp), if_neg (by simp), if_neg (by omega), if_neg]
    have := (findD_neg h d.2).2 hn; omega
  refine ⟨by unfold pushD; rw [he, if_pos rfl], .of_perm hp (by simp; omega) (fun x hx => by rcases List.mem_cons.1 hx with rfl | hx; exact hd; exact o.val x hx) (by simpa using ⟨by simpa using hn, o.ids⟩) ?_, hp⟩
  refine up_heap _ _ (by simp) (fun k ha hb hc => ?_) (fun k ha hb hc => ?_)
  · simp only [List.length_append, List.length_cons, List.length_nil] at hb
    rw [getD_app, getD_app, if_pos (by omega), if_pos (by omega)]
    exact o.ord k ha (by omega)
  · simp only [List.length_append, List.length_cons, List.length_nil] at hb
    omega
theorem set_perm' : ∀ (l : List Due) (i : Nat) (b : Due), i < l.length → (l.getD i dz :: l.set i b).Perm (b :: l) := by
  intro l
  induction l with
  | nil => intro i b h; simp at h
  | cons x xs ih =>
    intro i b h
    cases i with
    | zero => exact .swap _ _ _
    | succ i =>
      simp only [List.length_cons, Nat.add_lt_add_iff_right] at h
      simp only [List.getD_cons_succ, List.set_cons_succ]
      exact (List.Perm.swap _ _ _).trans (((ih i b h).cons x).trans (.swap _ _ _))
theorem take_last (h : List Due) (h0 : 0 < h.length) : h = h.take (h.length - 1) ++ [h.getD (h.length - 1) dz] := by
  have := List.take_append_getLast h (by intro hn; simp [hn] at h0)
  rw [List.getLast_eq_getElem] at this
  simpa [show h.length - 1 < h.length by omega] using this.symm
theorem upL_at {l : List Due} {i : Nat} : (upL l i).2 ≤ i ∧ ((0 < i ∧ lt (l.getD i dz) (l.getD ((i - 1) / 2) dz) = true ∧ (upL l i).2 < i) ∨ (¬ (0 < i ∧ lt (l.getD i dz) (l.getD ((i - 1) / 2) dz) = true) ∧ upL l i = (l, i))) := by
  fun_induction upL l i with
  | case1 l i h0 hlt ih => exact ⟨by omega, .inl ⟨h0, hlt, by omega⟩⟩
  | case2 l i h0 hlt => exact ⟨by simp, .inr ⟨fun h => hlt h.2, rfl⟩⟩
  | case3 l i h0 => exact ⟨by simp, .inr ⟨fun h => h0 h.1, rfl⟩⟩
theorem drop_ok' {h : List Due} (o : Ok h) (i : Nat) (hi : i < h.length) : Ok (dropL h i) ∧ (h.getD i dz :: dropL h i).Perm h := by
  have hlast := take_last h (by omega)
  obtain ⟨m, hm⟩ : ∃ m, m = h.length - 1 := ⟨_, rfl⟩
  obtain ⟨t, ht⟩ : ∃ t, t = h.take m := ⟨_, rfl⟩
  have htl : t.length = m := by simp [ht]; omega
  have hg : ∀ k, k < m → t.getD k dz = h.getD k dz := fun k hk => by simp [ht, List.getElem?_take, hk]
  rw [← hm, ← ht] at hlast
  unfold dropL
  rw [← hm, ← ht]
  have key : ∀ l : List Due, (h.getD i dz :: l).Perm h → HeapO l → Ok l ∧ (h.getD i dz :: l).Perm h := fun l hp ho => by
    refine ⟨⟨?_, fun d hd => o.val d (hp.mem_iff.1 (by simp [hd])), ?_, ho⟩, hp⟩
    · have := hp.length_eq; simp at this; have := o.len; omega
    · have := ((hp.map (·.2)).nodup_iff).2 o.ids
      rw [List.map_cons, List.nodup_cons] at this
      exact this.2
  by_cases h1 : i = m
  · rw [if_pos h1]
    refine key t ?_ fun k ha hb => ?_
    · subst h1
      conv => rhs; rw [hlast]
      exact (List.perm_append_comm (l₁ := [_]))
    · rw [htl] at hb
      rw [hg _ hb, hg _ (by omega)]
      exact o.ord k ha (by omega)
  · rw [if_neg h1]
    have him : i < m := by omega
    simp only
    obtain ⟨x, hx⟩ : ∃ x, x = h.getD m dz := ⟨_, rfl⟩
    obtain ⟨l, hl⟩ : ∃ l, l = t.set i x := ⟨_, rfl⟩
    have hll : l.length = m := by rw [hl, List.length_set, htl]
    have hlg : ∀ k, k < m → l.getD k dz = if k = i then x else h.getD k dz := fun k hk => by
      rw [← hg k hk, hl]
      simp only [List.getD_eq_getElem?_getD, List.getElem?_set, htl]
      by_cases hki : k = i
      · subst hki; simp [hk]
      · rw [if_neg (Ne.symm hki), if_neg hki]
    have hp : (h.getD i dz :: l).Perm h := by
      rw [← hg i him, hl]
      refine (set_perm' t i x (by omega)).trans ?_
      rw [hlast, hx]
      conv => rhs; rw [← hlast]
      conv => rhs; rw [hlast]
      exact List.perm_append_comm (l₁ := [_])
    rw [← hx, ← hl]
    have ord := o.ord
    have hch : ∀ k, 1 ≤ k → k < l.length → (k - 1) / 2 = i → 1 ≤ i → lt (l.getD k dz) (l.getD ((i - 1) / 2) dz) = false := fun k ha hb hc hd => by
      rw [hlg k (by omega), hlg _ (by omega), if_neg (by omega), if_neg (by omega)]
      have a := ord k ha (by omega)
      have b := ord i hd (by omega)
      rw [hc] at a
      exact le_trans' b a
    rcases (upL_at (l := l) (i := i)).2 with ⟨h0, hlt, hmv⟩ | ⟨hno, heq⟩
    · rw [if_neg (by omega)]
      refine key _ (((up_perm l i (by omega)).cons _).trans hp) (up_heap l i (by omega) (fun k ha hb hc => ?_) hch)
      by_cases hq : (k - 1) / 2 = i
      · have a := hch k ha hb hq (by omega)
        rw [hq]
        exact le_trans' (lt_asymm hlt) a
      · rw [hlg k (by omega), hlg _ (by omega), if_neg hc, if_neg hq]
        exact ord k ha (by omega)
    · rw [heq, if_pos rfl]
      refine key _ (((down_perm l i (by omega)).cons _).trans hp) (down_heap l i (by omega) (fun k ha hb hc => ?_) hch)
      by_cases hk : k = i
      · subst hk
        rw [← Bool.not_eq_true]
        exact fun h => hno ⟨by omega, h⟩
      · rw [hlg k (by omega), hlg _ (by omega), if_neg hk, if_neg hc]
        exact ord k ha (by omega)
theorem top_min {h : List Due} (o : HeapO h) : ∀ k, k < h.length → lt (h.getD k dz) (h.getD 0 dz) = false := by
  intro k
  induction k using Nat.strongRecOn with
  | ind k ih =>
    intro hk
    by_cases h0 : k = 0
    · subst h0; rw [lt_ff]; omega
    · exact le_trans' (ih ((k - 1) / 2) (by omega) (by omega)) (o k (by omega) hk)
theorem top_min' {h : List Due} (o : HeapO h) (d : Due) (hd : d ∈ h) : lt d (h.getD 0 dz) = false := by
  obtain ⟨k, hk, rfl⟩ := List.mem_iff_getElem.1 hd
  have := top_min o k hk
  simpa [hk] using this
end Go.Proofs.YtmbnbjkdamalpaaGreat

namespace Go.Proofs.YtmbnbjkdamalpaaGreat
open Go Go.Sim
set_option linter.unusedSimpArgs false
set_option linter.unusedVariables false
set_option maxHeartbeats 10000000
set_option maxRecDepth 40000
theorem refBefore_ok (a b : Due) : callL G N_ref05_before [.d (eD a), .d (eD b)] [] = some (.d (.bool (lt a b)), []) := by
  have key : lt a b = (decide (a.1 < b.1) || (decide (a.1 = b.1) && decide (a.2 < b.2))) := by
    have := lt_iff a b
    cases h : lt a b
    · rw [h] at this; simp at this; simp; omega
    · rw [h] at this; simp at this; simp; omega
  rw [key]
  simp only [eD]
  clear key
  rw [callL_code g_ref05_before (by simp)]; simp -implicitDefEqProofs (maxSteps := 4000000) (disch := omega) only [c_ref05_before, r_ref05_before, getDT, go_sem, *] /-A0-/
theorem refSound_ok (d : Due) : callL G N_ref05_sound [.d (eD d)] [] = some (.d (.bool (validD d)), []) := by
  unfold validD
  simp only [eD]
  rw [callL_code g_ref05_sound (by simp)]; simp -implicitDefEqProofs (maxSteps := 4000000) (disch := omega) only [c_ref05_sound, r_ref05_sound, getDT, go_sem, *] /-A1-/
def refIdxR (h : List Due) (j : Int) (k : Nat) : AExit × St := match (h.drop k).findIdx? (fun d => decide (d.2 = j)) with | some i => (.ret, ⟨[(4, .d (.int .i64 ((k + i : Nat) : Int)))], []⟩) | none => (.exit 0, ⟨[], []⟩)
theorem refIdx_loop (h : List Due) (j : Int) (hL : h.length ≤ LIM) : ∀ k, k ≤ h.length → loopL G [] l_ref05_index_0 ⟨[(0, .d (.sl (h.map eD))), (1, .d (.int .i64 j)), (5, .d (.int .i64 k))], []⟩ = some (refIdxR h j k) := by
  refine loop_ind (fun k => h.length - k) (fun k => k ≤ h.length) _ _ fun k hk L ih => ?_
  simp -implicitDefEqProofs (maxSteps := 4000000) (disch := omega) only [l_ref05_index_0, go_sem]
  by_cases hlt : k < h.length
  · simp -implicitDefEqProofs (maxSteps := 4000000) (disch := omega) only [List.length_map, show ((k : Int) < (h.length : Int)) by omega, show (0 : Int) ≤ (k : Int) by omega, Int.toNat_natCast, List.getElem?_map, List.getElem?_eq_getElem hlt, eD_size, eD_asAgg, eD, wrap1 hlt hL, go_sem]
    unfold refIdxR
    rw [List.drop_eq_getElem_cons hlt, List.findIdx?_cons]
    by_cases he : h[k].2 = j
    · simp [he]
    · simp only [he, decide_false, Bool.false_eq_true, if_false]
      have i1 := ih (k + 1) (by omega) (by omega)
      simp only [Int.natCast_add, Int.natCast_one] at i1
      rw [i1]
      unfold refIdxR
      cases (h.drop (k + 1)).findIdx? (fun d => decide (d.2 = j)) with
      | none => rfl
      | some i => simp; omega
  · have : k = h.length := by omega
    subst this
    simp -implicitDefEqProofs (maxSteps := 4000000) (disch := omega) only [List.length_map, show ¬ ((h.length : Int) < (h.length : Int)) by omega, go_sem]
    simp [refIdxR]
theorem refIndex_ok (h : List Due) (j : Int) (hL : h.length ≤ LIM) : callL G N_ref05_index [.d (.sl (h.map eD)), .d (.int .i64 j)] [] = some (.d (.int .i64 (findD h j)), []) := by
  have := refIdx_loop h j hL 0 (by omega)
  simp only [Int.natCast_zero] at this
  rw [callL_code g_ref05_index (by simp)]; simp -implicitDefEqProofs (maxSteps := 4000000) (disch := omega) only [c_ref05_index, r_ref05_index, go_sem, Nat.zero_add]
  simp only [this]
  unfold refIdxR findD idxI
  simp only [List.drop_zero, Nat.zero_add]
  cases h.findIdx? (fun d => decide (d.2 = j)) <;> simp -implicitDefEqProofs (maxSteps := 4000000) (disch := omega) only [go_sem]
def refV0 (h : List Due) (k : Nat) : AExit × St := if (h.drop k).any (fun d => !validD d) then (.ret, ⟨[(2, .d (.int .i64 1))], []⟩) else (.exit 0, ⟨[(0, .d (.sl (h.map eD)))], []⟩)
theorem refV0_loop (h : List Due) (hL : h.length ≤ 12) : ∀ k, k ≤ h.length → loopL G [] l_ref05_Validate_0 ⟨[(0, .d (.sl (h.map eD))), (3, .d (.int .i64 k))], []⟩ = some (refV0 h k) := by
  refine loop_ind (fun k => h.length - k) (fun k => k ≤ h.length) _ _ fun k hk L ih => ?_
  simp -implicitDefEqProofs (maxSteps := 4000000) (disch := omega) only [l_ref05_Validate_0, go_sem]
  by_cases hlt : k < h.length
  · have hs := refSound_ok h[k]
    simp -implicitDefEqProofs (maxSteps := 4000000) (disch := omega) only [List.length_map, show ((k : Int) < (h.length : Int)) by omega, show (0 : Int) ≤ (k : Int) by omega, Int.toNat_natCast, List.getElem?_map, List.getElem?_eq_getElem hlt, eD_size, eD_asAgg, hs, wrap1 hlt (show h.length ≤ LIM by simp [LIM]; omega), go_sem]
    have i1 := ih (k + 1) (by omega) (by omega)
    simp only [Int.natCast_add, Int.natCast_one] at i1
    rw [i1]
    unfold refV0
    rw [List.drop_eq_getElem_cons hlt, List.any_cons]
    cases validD h[k] <;> rfl
  · have : k = h.length := by omega
    subst this
    simp -implicitDefEqProofs (maxSteps := 4000000) (disch := omega) only [List.length_map, show ¬ ((h.length : Int) < (h.length : Int)) by omega, go_sem]
    simp [refV0]
def refV1 (h : List Due) (k : Nat) : AExit × St := if (List.range' k (h.length - k)).any (dupAt h) then (.ret, ⟨[(2, .d (.int .i64 10))], []⟩) else (.exit 2, ⟨[(0, .d (.sl (h.map eD)))], []⟩)
theorem refV1_loop (h : List Due) (hL : h.length ≤ 12) : ∀ k, k ≤ h.length → loopL G [] l_ref05_Validate_1 ⟨[(0, .d (.sl (h.map eD))), (4, .d (.int .i64 k))], []⟩ = some (refV1 h k) := by
  refine loop_ind (fun k => h.length - k) (fun k => k ≤ h.length) _ _ fun k hk L ih => ?_
  simp -implicitDefEqProofs (maxSteps := 4000000) (disch := omega) only [l_ref05_Validate_1, go_sem]
  by_cases hlt : k < h.length
  · have hf := refIndex_ok h h[k].2 (by simp [LIM]; omega)
    simp -implicitDefEqProofs (maxSteps := 4000000) (disch := omega) only [List.length_map, show ((k : Int) < (h.length : Int)) by omega, show (0 : Int) ≤ (k : Int) by omega, Int.toNat_natCast, List.getElem?_map, List.getElem?_eq_getElem hlt, eD_size, eD_asAgg, eD, hf, wrap1 hlt (show h.length ≤ LIM by simp [LIM]; omega), go_sem]
    have i1 := ih (k + 1) (by omega) (by omega)
    simp only [Int.natCast_add, Int.natCast_one] at i1
    rw [i1]
    unfold refV1
    rw [show h.length - k = (h.length - (k + 1)) + 1 by omega, List.range'_succ, List.any_cons]
    have hd : dupAt h k = !decide (findD h h[k].2 = k) := by simp [dupAt, hlt]
    rw [hd]
    cases decide (findD h h[k].2 = k) <;> rfl
  · have : k = h.length := by omega
    subst this
    simp -implicitDefEqProofs (maxSteps := 4000000) (disch := omega) only [List.length_map, show ¬ ((h.length : Int) < (h.length : Int)) by omega, go_sem]
    simp [refV1]
def refV2 (h : List Due) (k : Nat) : AExit × St := if (List.range' k (h.length - k)).any (ordAt h) then (.ret, ⟨[(2, .d (.int .i64 11))], []⟩) else (.exit 4, ⟨[], []⟩)
theorem refV2_loop (h : List Due) (hL : h.length ≤ 12) : ∀ k : Nat, 1 ≤ k → loopL G [] l_ref05_Validate_2 ⟨[(0, .d (.sl (h.map eD))), (5, .d (.int .i64 k))], []⟩ = some (refV2 h k) := by
  refine loop_ind (fun k => h.length - k) (fun k => 1 ≤ k) _ _ fun k hk L ih => ?_
  simp -implicitDefEqProofs (maxSteps := 4000000) (disch := omega) only [l_ref05_Validate_2, go_sem]
  by_cases hlt : k < h.length
  · have hq : IntKind.i64.wrap (((k : Int) - 1).tdiv 2) = (((k - 1) / 2 : Nat) : Int) := by
      rw [wrapN (by rw [Int.tdiv_eq_ediv_of_nonneg (by omega)]; omega) (by rw [Int.tdiv_eq_ediv_of_nonneg (by omega)]; omega), Int.tdiv_eq_ediv_of_nonneg (by omega)]; omega
    have hlt2 : (k - 1) / 2 < h.length := by omega
    have hb := refBefore_ok h[k] h[(k - 1) / 2]
    simp -implicitDefEqProofs (maxSteps := 4000000) (disch := omega) only [List.length_map, show ((k : Int) < (h.length : Int)) by omega, show (((k - 1) / 2 : Nat) : Int) < (h.length : Int) by omega, wrapN (show -4294967296 ≤ (k : Int) - 1 by omega) (by omega), hq, hb, Int.natCast_nonneg, Int.toNat_natCast, List.getElem?_map, List.getElem?_eq_getElem hlt, List.getElem?_eq_getElem hlt2, eD_size, eD_asAgg, wrap1 hlt (show h.length ≤ LIM by simp [LIM]; omega), go_sem]
    have i1 := ih (k + 1) (by omega) (by omega)
    simp only [Int.natCast_add, Int.natCast_one] at i1
    rw [i1]
    unfold refV2
    rw [show h.length - k = (h.length - (k + 1)) + 1 by omega, List.range'_succ, List.any_cons]
    have hd : ordAt h k = lt h[k] h[(k - 1) / 2] := by simp [ordAt, hlt, hlt2]
    rw [hd]
    cases lt h[k] h[(k - 1) / 2] <;> rfl
  · simp -implicitDefEqProofs (maxSteps := 4000000) (disch := omega) only [List.length_map, show ¬ ((k : Int) < (h.length : Int)) by omega, go_sem]
    simp [refV2, show h.length - k = 0 by omega]
theorem refValidate_ok (h : List Due) (hL : h.length ≤ LIM) : callL G N_ref05_Validate [.d (.sl (h.map eD))] [] = some (.d (.int .i64 (validateD h)), []) := by
  rw [callL_code g_ref05_Validate (by simp)]; simp -implicitDefEqProofs (maxSteps := 4000000) (disch := omega) only [c_ref05_Validate, r_ref05_Validate, go_sem, Nat.zero_add]
  unfold validateD
  by_cases h12 : 12 < h.length
  · simp -implicitDefEqProofs (maxSteps := 4000000) (disch := omega) only [h12, List.length_map, show (12 < (h.length : Int)) by omega, go_sem]
  · have e0 := refV0_loop h (by omega) 0 (by omega)
    have e1 := refV1_loop h (by omega) 0 (by omega)
    have e2 := refV2_loop h (by omega) 1 (by omega)
    simp only [Int.natCast_zero] at e0 e1
    simp only [Int.natCast_one] at e2
    have hlen : ¬ (12 < (h.length : Int)) := by omega
    cases hA : h.any (fun d => !validD d)
    · cases hB : (List.range' 0 h.length).any (dupAt h)
      · cases hC : (List.range' 1 (h.length - 1)).any (ordAt h) <;>
          simp -implicitDefEqProofs (maxSteps := 4000000) (disch := omega) only [h12, List.length_map, hlen, e0, e1, e2, refV0, refV1, refV2, List.drop_zero, Nat.sub_zero, hA, hB, hC, go_sem]
      · simp -implicitDefEqProofs (maxSteps := 4000000) (disch := omega) only [h12, List.length_map, hlen, e0, e1, refV0, refV1, List.drop_zero, Nat.sub_zero, hA, hB, go_sem]
    · simp -implicitDefEqProofs (maxSteps := 4000000) (disch := omega) only [h12, List.length_map, hlen, e0, refV0, List.drop_zero, hA, go_sem]
theorem setSame {h : List Due} {i j : Nat} (hi : i < h.length) (hj : j < h.length) : (((h.map eD).set i (eD h[j])).map AV.d)[j]? = some (.d (eD h[j])) := by
  rw [List.getElem?_map, List.getElem?_set]
  by_cases e : i = j
  · rw [if_pos e, if_pos (by simpa using hi)]; rfl
  · rw [if_neg e, List.getElem?_map, List.getElem?_eq_getElem hj]; rfl
theorem refSwap_ok (h : List Due) (i j : Nat) (hi : i < h.length) (hj : j < h.length) (hL : h.length ≤ 1000) : callL G N_ref05_swap [.d (.sl (h.map eD)), .d (.int .i64 i), .d (.int .i64 j)] [] = some (.d (.sl ((swp h i j).map eD)), []) := by
  have hs := allSize_eD h
  have h2 := setSame hi hj
  have hz : ¬ h.length = 0 := by omega
  unfold swp
  rw [getDT hi, getDT hj]
  have hl : (((h.map eD).set i (eD h[j])).set j (eD h[i])).length = h.length := by simp
  have ht : List.take h.length (((h.map eD).set i (eD h[j])).set j (eD h[i])) = ((h.map eD).set i (eD h[j])).set j (eD h[i]) := List.take_of_length_le (by rw [hl]; exact Nat.le_refl _)
  rw [callL_code g_ref05_swap (by simp)]; simp -implicitDefEqProofs (maxSteps := 4000000) (disch := omega) only [c_ref05_swap, r_ref05_swap, getDT, go_sem, *] /-A2-/
def refUpS (p : List Due × Nat) : St := ⟨[(0, .d (.sl (p.1.map eD))), (1, .d (.int .i64 p.2))], []⟩
theorem refUp_loop : ∀ p : List Due × Nat, p.2 < p.1.length ∧ p.1.length ≤ 1000 → loopL G [] l_ref05_up_0 (refUpS p) = some (.exit 0, ⟨[(0, .d (.sl ((upL p.1 p.2).1.map eD)))], []⟩) := by
  refine loop_ind (fun p : List Due × Nat => p.2) (fun p : List Due × Nat => p.2 < p.1.length ∧ p.1.length ≤ 1000) refUpS _ fun ⟨l, i⟩ ⟨hi, hL⟩ L ih => ?_
  simp only [refUpS] at hi hL ih ⊢
  simp only [l_ref05_up_0]
  rw [upL]
  by_cases h0 : 0 < i
  · have hq : ((i : Int) - 1).tdiv 2 = (((i - 1) / 2 : Nat) : Int) := by rw [Int.tdiv_eq_ediv_of_nonneg (by omega)]; omega
    have hj : (i - 1) / 2 < l.length := by omega
    have hb := refBefore_ok l[i] l[(i - 1) / 2]
    have hsw := refSwap_ok l i ((i - 1) / 2) hi hj hL
    have fin := ih (swp l i ((i - 1) / 2), (i - 1) / 2) ⟨by simp only [swp_length]; omega, by simp only [swp_length]; omega⟩ (by simp only; omega)
    simp only at fin
    rw [if_pos h0, getDT hi, getDT hj]
    have hsl := swp_length l i ((i - 1) / 2)
    generalize upL (swp l i ((i - 1) / 2)) ((i - 1) / 2) = r at *
    generalize swp l i ((i - 1) / 2) = sw at *
    clear ih
    cases hlt : lt l[i] l[(i - 1) / 2]
    · rw [hlt] at hb
      simp only [if_false, Bool.false_eq_true]
      clear hlt fin hsw
      simp -implicitDefEqProofs (maxSteps := 4000000) (disch := omega) only [getDT, go_sem, *] /-A3-/
    · rw [hlt] at hb
      simp only [if_true]
      clear hlt
      simp -implicitDefEqProofs (maxSteps := 4000000) (disch := omega) only [getDT, go_sem, *] /-A4-/
  · rw [if_neg h0]
    clear ih
    simp -implicitDefEqProofs (maxSteps := 4000000) (disch := omega) only [getDT, go_sem, *] /-A5-/
theorem refUp_ok (h : List Due) (i : Nat) (hi : i < h.length) (hL : h.length ≤ 1000) : callL G N_ref05_up [.d (.sl (h.map eD)), .d (.int .i64 i)] [] = some (.d (.sl ((upL h i).1.map eD)), []) := by
  have := refUp_loop (h, i) ⟨hi, hL⟩
  simp only [refUpS] at this
  rw [callL_code g_ref05_up (by simp)]; simp -implicitDefEqProofs (maxSteps := 4000000) (disch := omega) only [c_ref05_up, r_ref05_up, go_sem, Nat.zero_add]
  simp -implicitDefEqProofs (maxSteps := 4000000) (disch := omega) only [this, go_sem]
theorem refPush_ok (h : List Due) (d : Due) (hL : h.length ≤ LIM) : callL G N_ref05_Push [.d (.sl (h.map eD)), .d (eD d)] [] = some (.d (eDE (pushD h d)), []) := by
  have hv := refValidate_ok h hL
  have hf := refIndex_ok h d.2 hL
  have hd := refSound_ok d
  have hs := allSize_eD h
  have hL2 : h.length ≤ 4294967296 := hL
  unfold pushD pushE eDE
  by_cases h0 : validateD h = 0
  · have h12 := validateD_le h0
    rw [h0] at hv
    simp only [h0, ne_eq, not_true_eq_false, if_false]
    clear h0
    cases h1 : validD d
    · rw [h1] at hd
      simp only [if_true, List.map_nil, show ((1 : Int) = 0) = False by simp, if_false]
      clear h1 hf
      rw [callL_code g_ref05_Push (by simp)]; simp -implicitDefEqProofs (maxSteps := 4000000) (disch := omega) only [c_ref05_Push, r_ref05_Push, getDT, go_sem, *] /-A6-/
    · rw [h1] at hd
      simp only [Bool.true_eq_false, if_false]
      clear h1
      by_cases h2 : h.length = 12
      · simp only [h2, if_true, List.map_nil, show ((3 : Int) = 0) = False by simp, if_false]
        clear hf
        rw [callL_code g_ref05_Push (by simp)]; simp -implicitDefEqProofs (maxSteps := 4000000) (disch := omega) only [c_ref05_Push, r_ref05_Push, getDT, go_sem, *] /-A7-/
      · simp only [h2, if_false]
        by_cases h3 : 0 ≤ findD h d.2
        · simp only [h3, if_true, List.map_nil, show ((10 : Int) = 0) = False by simp, if_false]
          rw [callL_code g_ref05_Push (by simp)]; simp -implicitDefEqProofs (maxSteps := 4000000) (disch := omega) only [c_ref05_Push, r_ref05_Push, getDT, go_sem, *] /-A8-/
        · simp only [h3, if_false, if_true]
          obtain ⟨l, hl⟩ : ∃ l, l = h ++ [d] := ⟨_, rfl⟩
          have e1 : h.map eD ++ [D.agg [.int .i64 d.1, .int .i64 d.2]] = l.map eD := by simp [eD, hl]
          have e2 : l.length = h.length + 1 := by simp [hl]
          have hu := refUp_ok l h.length (by omega) (by omega)
          unfold pushL
          rw [← hl]
          have hul := upL_length l h.length
          have hsl := allSize_eD l
          generalize upL l h.length = r at *
          simp only [eD] at hd ⊢
          clear hl
          rw [callL_code g_ref05_Push (by simp)]; simp -implicitDefEqProofs (maxSteps := 4000000) (disch := omega) only [c_ref05_Push, r_ref05_Push, getDT, go_sem, *] /-A9-/
  · simp only [h0, ne_eq, not_false_eq_true, if_true, if_false, List.map_nil]
    clear hf hd
    rw [callL_code g_ref05_Push (by simp)]; simp -implicitDefEqProofs (maxSteps := 4000000) (disch := omega) only [c_ref05_Push, r_ref05_Push, getDT, go_sem, *] /-A10-/
end Go.Proofs.YtmbnbjkdamalpaaGreat

namespace Go.Proofs.YtmbnbjkdamalpaaGreat
open Go Go.Sim
set_option linter.unusedSimpArgs false
set_option linter.unusedVariables false
set_option maxHeartbeats 10000000
set_option maxRecDepth 40000
theorem pushD_of0 {h : List Due} {d : Due} (h0 : (pushD h d).2 = 0) : Ok (pushD h d).1 := by
  have he : pushE h d = 0 := h0
  have h1 := he
  unfold pushE at h1
  split at h1
  · rename_i hv; exact absurd h1 hv
  · rename_i hv
    have o := (validate_iff h).1 (by simpa using hv)
    split at h1
    · cases h1
    · rename_i hd
      split at h1
      · cases h1
      · rename_i hl
        split at h1
        · cases h1
        · rename_i hf
          have := push_ok' o (by simpa using hd) (by have := o.len; omega) ((findD_neg h d.2).1 (by omega))
          rw [this.1]; exact this.2.1
def heapS (l : List Int) (p : List Due × Nat × Nat) : St := ⟨[(0, .ref 1000000 0 0), (3, .d (.sl (p.1.map eD))), (4, .d (.int .i64 p.2.2)), (1000000, .ref 1000000 1 0)], [(1000000, srcO l p.2.1)]⟩
end Go.Proofs.YtmbnbjkdamalpaaGreat

namespace Go.Proofs.YtmbnbjkdamalpaaGreat
open Go Go.Sim
set_option linter.unusedSimpArgs false
set_option linter.unusedVariables false
set_option maxHeartbeats 10000000
set_option maxRecDepth 40000
def refDownS (p : List Due × Nat) : St := ⟨[(0, .d (.sl (p.1.map eD))), (1, .d (.int .i64 p.2))], []⟩
end Go.Proofs.YtmbnbjkdamalpaaGreat

namespace Go.Proofs.YtmbnbjkdamalpaaGreat
open Go Go.Sim
set_option linter.unusedSimpArgs false
set_option linter.unusedVariables false
set_option maxHeartbeats 10000000
set_option maxRecDepth 40000
end Go.Proofs.YtmbnbjkdamalpaaGreat

namespace Go.Proofs.YtmbnbjkdamalpaaGreat
open Go Go.Sim
set_option linter.unusedSimpArgs false
set_option linter.unusedVariables false
set_option maxHeartbeats 10000000
set_option maxRecDepth 40000
def Asc (l : List Due) (n : Nat) : Prop := ∀ p q, p < q → q < n → lt (l.getD q dz) (l.getD p dz) = false
def insL (l : List Due) (j : Nat) : List Due :=
  if 0 < j then (if lt (l.getD j dz) (l.getD (j - 1) dz) then insL (swp l j (j - 1)) (j - 1) else l) else l
termination_by j
theorem insL_length (l : List Due) (j : Nat) : (insL l j).length = l.length := by
  fun_induction insL l j with
  | case1 l j h0 h1 ih => rw [ih, swp_length]
  | case2 => rfl
  | case3 => rfl
theorem ins_asc (l : List Due) (j i : Nat) (hi : i < l.length) (hj : j ≤ i) (h1 : ∀ p q, p < q → q ≤ i → p ≠ j → q ≠ j → lt (l.getD q dz) (l.getD p dz) = false) (h2 : ∀ q, j < q → q ≤ i → lt (l.getD q dz) (l.getD j dz) = false) : Asc (insL l j) (i + 1) ∧ (insL l j).Perm l := by
  fun_induction insL l j with
  | case1 l j h0 hlt ih =>
    have hs : ∀ k, (swp l j (j - 1)).getD k dz = if k = j - 1 then l.getD j dz else if k = j then l.getD (j - 1) dz else l.getD k dz := fun k => swp_get l j (j - 1) k (by omega) (by omega)
    have ih' := ih (by rw [swp_length]; exact hi) (by omega) (fun p q hpq hq hp hq2 => by
        rw [hs, hs]
        by_cases e1 : q = j
        · subst e1
          rw [if_neg (by omega), if_pos rfl, if_neg (by omega), if_neg (by omega)]
          exact h1 p (q - 1) (by omega) (by omega) (by omega) (by omega)
        · by_cases e2 : p = j
          · subst e2
            rw [if_neg (by omega), if_neg (by omega), if_neg (by omega), if_pos rfl]
            exact h1 (p - 1) q (by omega) hq (by omega) (by omega)
          · rw [if_neg (by omega), if_neg e1, if_neg (by omega), if_neg e2]
            exact h1 p q hpq hq e2 e1) (fun q hq1 hq2 => by
        rw [hs, hs, if_neg (by omega), if_pos rfl]
        by_cases e1 : q = j
        · rw [if_pos e1]; exact lt_asymm hlt
        · rw [if_neg e1]; exact h2 q (by omega) hq2)
    exact ⟨ih'.1, ih'.2.trans (swp_perm l j (j - 1) (by omega) (by omega))⟩
  | case2 l j h0 hlt =>
    refine ⟨fun p q hpq hq => ?_, .refl _⟩
    have hjj : lt (l.getD j dz) (l.getD (j - 1) dz) = false := by simpa using hlt
    by_cases e1 : p = j
    · subst e1; exact h2 q hpq (by omega)
    · by_cases e2 : q = j
      · subst e2
        by_cases e3 : p = q - 1
        · subst e3; exact hjj
        · exact le_trans' (h1 p (q - 1) (by omega) (by omega) e1 (by omega)) hjj
      · exact h1 p q hpq (by omega) e1 e2
  | case3 l j h0 =>
    refine ⟨fun p q hpq hq => ?_, .refl _⟩
    by_cases e1 : p = j
    · subst e1; exact h2 q hpq (by omega)
    · exact h1 p q hpq (by omega) e1 (by omega)
def sortG (l : List Due) (i : Nat) : List Due := if i < l.length then sortG (insL l i) (i + 1) else l
termination_by l.length - i
decreasing_by rw [insL_length]; omega
theorem sortG_spec (l : List Due) (i : Nat) (h : Asc l i) : Asc (sortG l i) l.length ∧ (sortG l i).Perm l := by
  fun_induction sortG l i with
  | case1 l i hi ih =>
    have := ins_asc l i i hi (by omega) (fun p q hpq hq _ hq2 => h p q hpq (by omega)) (fun q h1 h2 => by omega)
    have ih' := ih this.1
    rw [insL_length] at ih'
    exact ⟨ih'.1, ih'.2.trans this.2⟩
  | case2 l i hi => exact ⟨fun p q hpq hq => h p q hpq (by omega), .refl _⟩
abbrev fcmp : AV := .d (.fn N_due_compare [])
def insS (l : List Due) (i : Nat) (j : Nat) : St := ⟨[(0, .osl 1000000 0 l.length), (1, .d (.int .i64 0)), (2, .d (.int .i64 l.length)), (3, fcmp), (8, .d (.int .i64 i)), (9, .d (.int .i64 j)), (1000000, .ref 1000000 1 0)], [(1000000, rowL l)]⟩
def isS (l : List Due) (i : Nat) : St := ⟨[(0, .osl 1000000 0 l.length), (1, .d (.int .i64 0)), (2, .d (.int .i64 l.length)), (3, fcmp), (8, .d (.int .i64 i)), (1000000, .ref 1000000 1 0)], [(1000000, rowL l)]⟩
def dueIds (now : Int) (l : List Due) : List Int := (l.filter fun d => decide (d.1 ≤ now)).map (·.2)
def untilD (h : List Due) (now : Int) : List Int := if validateD h = 0 then dueIds now (sortG h 1) else []
abbrev accI (o : Nat) (l : List Int) : AV := .acc o (ints l)
theorem ints_append (a b : List Int) : ints a ++ ints b = ints (a ++ b) := by simp [ints]
def untilS (l : List Due) (now : Int) (k : Nat) (out : List Int) : St := ⟨[(1, .d (.int .i64 now)), (6, .acc 6 (ints out)), (16, .osl 13 0 l.length), (17, .d (.int .i64 l.length)), (18, .d (.int .i64 k))], [(6, .acc out.length), (13, rowL l)]⟩
end Go.Proofs.YtmbnbjkdamalpaaGreat

namespace Go.Proofs.YtmbnbjkdamalpaaGreat
open Go Go.Sim
set_option linter.unusedSimpArgs false
set_option linter.unusedVariables false
set_option maxHeartbeats 10000000
set_option maxRecDepth 40000
theorem asc_uniq : ∀ (a b : List Due), a.Perm b → a.Pairwise (fun x y => lt y x = false) → b.Pairwise (fun x y => lt y x = false) → a.Nodup → a = b := by
  intro a
  induction a with
  | nil => intro b hp _ _ _; exact (List.Perm.nil_eq hp)
  | cons x a ih =>
    intro b hp ha hb hn
    cases b with
    | nil => exact absurd hp.symm.nil_eq (by simp)
    | cons y b =>
      have hxy : x = y := by
        by_cases e : x = y
        · exact e
        · have h1 : y ∈ a := by
            have := hp.symm.subset (List.mem_cons_self (a := y) (l := b))
            rcases List.mem_cons.1 this with h | h
            · exact absurd h.symm e
            · exact h
          have h2 : x ∈ b := by
            have := hp.subset (List.mem_cons_self (a := x) (l := a))
            rcases List.mem_cons.1 this with h | h
            · exact absurd h e
            · exact h
          have h3 := (List.pairwise_cons.1 ha).1 y h1
          have h4 := (List.pairwise_cons.1 hb).1 x h2
          rw [lt_ff] at h3 h4
          exact Prod.ext (by omega) (by omega)
      subst hxy
      rw [ih b ((List.perm_cons _).1 hp) (List.pairwise_cons.1 ha).2 (List.pairwise_cons.1 hb).2 (List.nodup_cons.1 hn).2]
theorem asc_pw {l : List Due} (h : Asc l l.length) : l.Pairwise (fun x y => lt y x = false) := by
  rw [List.pairwise_iff_getElem]
  intro i j hi hj hij
  have := h i j hij hj
  simpa [hi, hj] using this
theorem sort_pop1 {h : List Due} (o : Ok h) (hne : h ≠ []) : sortG h 1 = h.getD 0 dz :: sortG (dropL h 0) 1 := by
  have hd := drop_ok' o 0 (List.length_pos_iff.2 hne)
  have s1 := sortG_spec h 1 (fun p q hp hq => by omega)
  have s2 := sortG_spec (dropL h 0) 1 (fun p q hp hq => by omega)
  have hl1 := s1.2.length_eq
  have hl2 := s2.2.length_eq
  rw [← hl1] at s1
  rw [← hl2] at s2
  have hnd : h.Nodup := List.Pairwise.of_map (fun d : Due => d.2) (fun a b hh e => hh (by rw [e])) o.ids
  refine asc_uniq _ _ (s1.2.trans (hd.2.symm.trans (s2.2.symm.cons _))) (asc_pw s1.1) (List.pairwise_cons.2 ⟨fun d hm => ?_, asc_pw s2.1⟩) (s1.2.nodup_iff.2 hnd)
  exact top_min' o.ord d (hd.2.subset (List.mem_cons_of_mem _ (s2.2.subset hm)))
theorem untilD_step {h : List Due} {now : Int} (o : Ok h) (hne : h ≠ []) : untilD h now = if (h.getD 0 dz).1 ≤ now then (h.getD 0 dz).2 :: untilD (dropL h 0) now else [] := by
  have hd := drop_ok' o 0 (List.length_pos_iff.2 hne)
  unfold untilD
  rw [if_pos ((validate_iff h).2 o), if_pos ((validate_iff _).2 hd.1), sort_pop1 o hne]
  unfold dueIds
  by_cases hc : (h.getD 0 dz).1 ≤ now
  · rw [if_pos hc, List.filter_cons_of_pos (by simpa using hc), List.map_cons]
  · rw [if_neg hc, List.filter_cons_of_neg (by simpa using hc)]
    have : ∀ d ∈ sortG (dropL h 0) 1, ¬ d.1 ≤ now := by
      intro d hm
      have s2 := sortG_spec (dropL h 0) 1 (fun p q hp hq => by omega)
      have := top_min' o.ord d (hd.2.subset (List.mem_cons_of_mem _ (s2.2.subset hm)))
      rw [lt_ff] at this
      omega
    rw [List.filter_eq_nil_iff.2 (by simpa using this)]
    rfl
def rUS (now : Int) (p : List Due × List Int) : St := ⟨[(0, .d (.sl (p.1.map eD))), (1, .d (.int .i64 now)), (5, .acc 5 (ints p.2))], [(5, .acc p.2.length)]⟩
end Go.Proofs.YtmbnbjkdamalpaaGreat
