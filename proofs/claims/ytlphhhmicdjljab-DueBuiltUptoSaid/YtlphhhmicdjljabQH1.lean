/-
  Heaps of deadlines, in plain terms: sifting keeps the elements and mends the order.
-/
import Derived.Test.YtlphhhmicdjljabQD5
namespace Go.Proofs.Ytlphhhmicdjljab
open Go Go.Sim
set_option linter.unusedSimpArgs false
set_option linter.unusedVariables false

abbrev dz : Due := (0, 0)
theorem lt_iff (a b : Due) : lt a b = true ↔ a.1 < b.1 ∨ (a.1 = b.1 ∧ a.2 < b.2) := by
  unfold lt cmpD cmpI
  rw [decide_eq_true_iff]
  repeat' split
  all_goals omega
theorem lt_ff (a b : Due) : lt a b = false ↔ b.1 < a.1 ∨ (b.1 = a.1 ∧ b.2 ≤ a.2) := by
  rw [← Bool.not_eq_true, lt_iff]; omega
theorem lt_asymm {a b : Due} (h : lt a b = true) : lt b a = false := by rw [lt_iff] at h; rw [lt_ff]; omega
theorem le_trans' {a b c : Due} (h1 : lt b a = false) (h2 : lt c b = false) : lt c a = false := by rw [lt_ff] at *; omega

def HeapO (l : List Due) : Prop := ∀ k, 1 ≤ k → k < l.length → lt (l.getD k dz) (l.getD ((k - 1) / 2) dz) = false

theorem swp_get (l : List Due) (i j k : Nat) (hi : i < l.length) (hj : j < l.length) : (swp l i j).getD k dz = if k = j then l.getD i dz else if k = i then l.getD j dz else l.getD k dz := by
  unfold swp
  simp only [List.getD_eq_getElem?_getD, List.getElem?_set, List.length_set]
  by_cases h1 : j = k
  · subst h1; simp [hj]
  · rw [if_neg h1, if_neg (Ne.symm h1)]
    by_cases h2 : i = k
    · subst h2; simp [hi]
    · rw [if_neg h2, if_neg (Ne.symm h2)]
theorem swp_perm (l : List Due) (i j : Nat) (hi : i < l.length) (hj : j < l.length) : (swp l i j).Perm l := by
  unfold swp
  have := List.set_set_perm hi hj
  simpa [hi, hj] using this

theorem up_perm (l : List Due) (i : Nat) (hi : i < l.length) : (upL l i).1.Perm l := by
  fun_induction upL l i with
  | case1 l i h0 h1 ih => exact (ih (by rw [swp_length]; omega)).trans (swp_perm l _ _ hi (by omega))
  | case2 => exact .refl _
  | case3 => exact .refl _
theorem up_heap (l : List Due) (i : Nat) (hi : i < l.length) (h1 : ∀ k, 1 ≤ k → k < l.length → k ≠ i → lt (l.getD k dz) (l.getD ((k - 1) / 2) dz) = false)
    (h2 : ∀ k, 1 ≤ k → k < l.length → (k - 1) / 2 = i → 1 ≤ i → lt (l.getD k dz) (l.getD ((i - 1) / 2) dz) = false) : HeapO (upL l i).1 := by
  fun_induction upL l i with
  | case1 l i h0 hlt ih =>
    have hp : (i - 1) / 2 < l.length := by omega
    have e := fun k => swp_get l i ((i - 1) / 2) k hi hp
    refine ih (by rw [swp_length]; omega) (fun k ha hb hc => ?_) (fun k ha hb hc hd => ?_)
    · rw [swp_length] at hb
      rw [e, e]
      by_cases hk : k = i
      · subst hk
        rw [if_neg (by omega), if_pos rfl, if_pos rfl]
        exact lt_asymm hlt
      · rw [if_neg hc, if_neg hk]
        by_cases hq : (k - 1) / 2 = (i - 1) / 2
        · rw [if_pos hq]
          have := h1 k ha hb hk
          rw [hq] at this
          exact le_trans' (lt_asymm hlt) this
        · rw [if_neg hq]
          by_cases hr : (k - 1) / 2 = i
          · rw [if_pos hr]; exact h2 k ha hb hr (by omega)
          · rw [if_neg hr]; exact h1 k ha hb hk
    · rw [swp_length] at hb
      rw [e, e, if_neg (show k ≠ (i - 1) / 2 by omega), if_neg (show ((i - 1) / 2 - 1) / 2 ≠ (i - 1) / 2 by omega), if_neg (show ((i - 1) / 2 - 1) / 2 ≠ i by omega)]
      have hpp := h1 ((i - 1) / 2) hd hp (by omega)
      by_cases hk : k = i
      · rw [if_pos hk]; exact hpp
      · rw [if_neg hk]
        have := h1 k ha hb hk
        rw [hc] at this
        exact le_trans' hpp this
  | case2 l i h0 hlt =>
    intro k ha hb
    by_cases hk : k = i
    · subst hk; simpa using hlt
    · exact h1 k ha hb hk
  | case3 l i h0 =>
    intro k ha hb
    exact h1 k ha hb (by omega)

theorem down_perm (l : List Due) (i : Nat) (hi : i < l.length) : (downL l i).Perm l := by
  fun_induction downL l i with
  | case1 l i h k h1 ih =>
    have hk : k < l.length := by simp only [k]; split <;> omega
    exact (ih (by rw [swp_length]; exact hk)).trans (swp_perm l _ _ hi hk)
  | case2 => exact .refl _
  | case3 => exact .refl _
theorem down_heap (l : List Due) (i : Nat) (hi : i < l.length) (h1 : ∀ k, 1 ≤ k → k < l.length → (k - 1) / 2 ≠ i → lt (l.getD k dz) (l.getD ((k - 1) / 2) dz) = false)
    (h2 : ∀ k, 1 ≤ k → k < l.length → (k - 1) / 2 = i → 1 ≤ i → lt (l.getD k dz) (l.getD ((i - 1) / 2) dz) = false) : HeapO (downL l i) := by
  fun_induction downL l i with
  | case1 l i h k hlt ih =>
    have hk : k < l.length ∧ i < k ∧ (k - 1) / 2 = i ∧ ∀ q, 1 ≤ q → q < l.length → (q - 1) / 2 = i → lt (l.getD q dz) (l.getD k dz) = false := by
      simp only [k]
      split
      · rename_i hc
        refine ⟨by omega, by omega, by omega, fun q ha hb hq => ?_⟩
        have : q = 2 * i + 1 ∨ q = 2 * i + 1 + 1 := by omega
        rcases this with rfl | rfl
        · exact lt_asymm hc.2
        · rw [lt_ff]; omega
      · rename_i hc
        refine ⟨by omega, by omega, by omega, fun q ha hb hq => ?_⟩
        have : q = 2 * i + 1 ∨ q = 2 * i + 1 + 1 := by omega
        rcases this with rfl | rfl
        · rw [lt_ff]; omega
        · simp only [hb, true_and, Bool.not_eq_true] at hc; exact hc
    obtain ⟨hk1, hk2, hk3, hk4⟩ := hk
    clear_value k
    have e := fun q => swp_get l i k q hi hk1
    refine ih (by rw [swp_length]; exact hk1) (fun q ha hb hc => ?_) (fun q ha hb hc hd => ?_)
    · rw [swp_length] at hb
      rw [e, e]
      by_cases hq : q = k
      · subst hq
        rw [if_pos rfl, hk3, if_neg (by omega), if_pos rfl]
        exact lt_asymm hlt
      · rw [if_neg hq, if_neg hc]
        by_cases hr : q = i
        · subst hr
          rw [if_pos rfl, if_neg (by omega)]
          exact h2 k (by omega) hk1 hk3 ha
        · rw [if_neg hr]
          by_cases hs : (q - 1) / 2 = i
          · rw [if_pos hs]; exact hk4 q ha hb hs
          · rw [if_neg hs]; exact h1 q ha hb hs
    · rw [swp_length] at hb
      rw [e, e, if_neg (show q ≠ k by omega), if_neg (show q ≠ i by omega), hk3, if_neg (by omega), if_pos rfl]
      have := h1 q ha hb (by omega)
      rw [hc] at this; exact this
  | case2 l i h k hlt =>
    intro q ha hb
    by_cases hq : (q - 1) / 2 = i
    · have hlt : lt (l.getD k dz) (l.getD i dz) = false := by simpa using hlt
      rw [hq]
      refine le_trans' hlt ?_
      simp only [k]
      have : q = 2 * i + 1 ∨ q = 2 * i + 1 + 1 := by omega
      split
      · rename_i hc
        rcases this with rfl | rfl
        · exact lt_asymm hc.2
        · rw [lt_ff]; omega
      · rename_i hc
        rcases this with rfl | rfl
        · rw [lt_ff]; omega
        · simp only [hb, true_and, Bool.not_eq_true] at hc; exact hc
    · exact h1 q ha hb hq
  | case3 l i h =>
    intro q ha hb
    exact h1 q ha hb (by omega)
end Go.Proofs.Ytlphhhmicdjljab
