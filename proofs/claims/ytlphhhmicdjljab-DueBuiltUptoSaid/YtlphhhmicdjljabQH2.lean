/-
  Heaps of deadlines, in plain terms: what a valid heap is, and what Push, Pop and Remove make of it.
-/
import Derived.Test.YtlphhhmicdjljabQH1
namespace Go.Proofs.Ytlphhhmicdjljab
open Go Go.Sim
set_option linter.unusedSimpArgs false
set_option linter.unusedVariables false

theorem findD_lt (h : List Due) (j : Int) : findD h j < h.length := by
  unfold findD idxI
  cases e : List.findIdx? (fun d : Due => decide (d.2 = j)) h with
  | none => simp only; omega
  | some i => have := (List.findIdx?_eq_some_iff_getElem.1 e).1; simp only; omega
theorem findD_at (h : List Due) (j : Int) (h0 : 0 ≤ findD h j) : (h.getD (findD h j).toNat dz).2 = j := by
  revert h0
  unfold findD idxI
  cases e : List.findIdx? (fun d : Due => decide (d.2 = j)) h with
  | none => simp
  | some i =>
    obtain ⟨h1, h2, _⟩ := List.findIdx?_eq_some_iff_getElem.1 e
    simp only [Int.toNat_natCast]
    intro _
    simpa [h1] using h2
theorem findD_neg (h : List Due) (j : Int) : findD h j < 0 ↔ j ∉ h.map (·.2) := by
  unfold findD idxI
  cases e : List.findIdx? (fun d : Due => decide (d.2 = j)) h with
  | none =>
    simp only [List.findIdx?_eq_none_iff, decide_eq_false_iff_not] at e
    simp only [show ((-1 : Int) < 0) by omega, true_iff, List.mem_map, not_exists, not_and]
    exact fun d hd => e d hd
  | some i =>
    obtain ⟨h1, h2, _⟩ := List.findIdx?_eq_some_iff_getElem.1 e
    simp only [decide_eq_true_eq] at h2
    refine ⟨fun h => by simp only at h; omega, fun hn => absurd (List.mem_map.2 ⟨_, List.getElem_mem h1, h2⟩) hn⟩
theorem findD_idx (h : List Due) (i : Nat) (hi : i < h.length) (hd : (h.map (·.2)).Nodup) : findD h (h.getD i dz).2 = i := by
  unfold findD idxI
  have : List.findIdx? (fun d : Due => decide (d.2 = (h.getD i dz).2)) h = some i := by
    refine List.findIdx?_eq_some_iff_getElem.2 ⟨hi, by simp [hi], fun j hj => ?_⟩
    have := (List.pairwise_iff_getElem.1 hd) j i (by simp; omega) (by simpa using hi) hj
    simpa [hi] using this
  rw [this]
theorem nodup_of (h : List Due) (hf : ∀ i, i < h.length → findD h (h.getD i dz).2 = i) : (h.map (·.2)).Nodup := by
  refine List.pairwise_iff_getElem.2 fun i j hi hj hij => ?_
  simp only [List.length_map] at hi hj
  simp only [List.getElem_map]
  intro he
  have h1 := hf i hi
  have h2 := hf j hj
  simp only [List.getD_eq_getElem?_getD, List.getElem?_eq_getElem hi, List.getElem?_eq_getElem hj, Option.getD_some] at h1 h2
  rw [he] at h1
  omega

structure Ok (h : List Due) : Prop where
  len : h.length ≤ 12
  val : ∀ d ∈ h, validD d = true
  ids : (h.map (·.2)).Nodup
  ord : HeapO h
theorem validate_iff (h : List Due) : validateD h = 0 ↔ Ok h := by
  unfold validateD
  by_cases h1 : 12 < h.length
  · rw [if_pos h1]; exact ⟨fun h => by omega, fun o => absurd o.len (by omega)⟩
  rw [if_neg h1]
  by_cases h2 : h.any (fun d => !validD d) = true
  · rw [if_pos h2]
    refine ⟨fun h => by omega, fun o => ?_⟩
    obtain ⟨d, hd, h3⟩ := List.any_eq_true.1 h2
    simp [o.val d hd] at h3
  rw [if_neg h2]
  have h2 : ∀ d ∈ h, validD d = true := by simpa using h2
  by_cases h3 : (List.range' 0 h.length).any (dupAt h) = true
  · rw [if_pos h3]
    refine ⟨fun h => by omega, fun o => ?_⟩
    obtain ⟨i, hi, h4⟩ := List.any_eq_true.1 h3
    simp only [List.mem_range'_1, Nat.zero_add] at hi
    simp [dupAt, findD_idx h i hi.2 o.ids] at h4
    exact absurd (findD_idx h i hi.2 o.ids) (by simpa [dz] using h4)
  rw [if_neg h3]
  have h3 : ∀ i, i < h.length → findD h (h.getD i dz).2 = i := by
    intro i hi
    simp only [List.any_eq_true, not_exists, not_and, List.mem_range'_1] at h3
    have := h3 i ⟨by omega, by omega⟩
    simpa [dupAt] using this
  by_cases h4 : (List.range' 1 (h.length - 1)).any (ordAt h) = true
  · rw [if_pos h4]
    refine ⟨fun h => by omega, fun o => ?_⟩
    obtain ⟨i, hi, h5⟩ := List.any_eq_true.1 h4
    simp only [List.mem_range'_1] at hi
    have := o.ord i hi.1 (by omega)
    unfold ordAt at h5
    rw [h5] at this; cases this
  rw [if_neg h4]
  refine ⟨fun _ => ⟨by omega, h2, nodup_of h h3, fun k ha hb => ?_⟩, fun _ => rfl⟩
  simp only [List.any_eq_true, not_exists, not_and, List.mem_range'_1] at h4
  have := h4 k ⟨by omega, by omega⟩
  simpa [ordAt] using this

theorem Ok.of_perm {h l : List Due} (hp : l.Perm h) (hl : h.length ≤ 12) (hv : ∀ d ∈ h, validD d = true) (hi : (h.map (·.2)).Nodup) (ho : HeapO l) : Ok l :=
  ⟨by rw [hp.length_eq]; exact hl, fun d hd => hv d (hp.mem_iff.1 hd), (hp.map _).nodup_iff.2 hi, ho⟩
theorem ok_nil : Ok [] := ⟨by simp, by simp, by simp, fun k _ h => by simp at h⟩

theorem getD_app (h : List Due) (d : Due) (k : Nat) : (h ++ [d]).getD k dz = if k < h.length then h.getD k dz else if k = h.length then d else dz := by
  simp only [List.getD_eq_getElem?_getD, List.getElem?_append]
  split
  · rfl
  · rename_i hk
    by_cases hk2 : k = h.length
    · subst hk2; simp
    · rw [if_neg hk2, List.getElem?_eq_none (by simp; omega)]; rfl
theorem push_ok' {h : List Due} {d : Due} (o : Ok h) (hd : validD d = true) (hl : h.length < 12) (hn : d.2 ∉ h.map (·.2)) : pushD h d = (pushL h d, 0) ∧ Ok (pushL h d) ∧ (pushL h d).Perm (d :: h) := by
  have hp : (pushL h d).Perm (d :: h) := (up_perm (h ++ [d]) h.length (by simp)).trans (List.perm_append_comm (l₂ := [d]))
  have he : pushE h d = 0 := by
    unfold pushE
    rw [(validate_iff h).2 o, hd, if_neg (by simp), if_neg (by simp), if_neg (by omega), if_neg]
    have := (findD_neg h d.2).2 hn; omega
  refine ⟨by unfold pushD; rw [he, if_pos rfl], .of_perm hp (by simp; omega) (fun x hx => by rcases List.mem_cons.1 hx with rfl | hx; exact hd; exact o.val x hx) (by simpa using ⟨by simpa using hn, o.ids⟩) ?_, hp⟩
  refine up_heap _ _ (by simp) (fun k ha hb hc => ?_) (fun k ha hb hc => ?_)
  · simp only [List.length_append, List.length_cons, List.length_nil] at hb
    rw [getD_app, getD_app, if_pos (by omega), if_pos (by omega)]
    exact o.ord k ha (by omega)
  · simp only [List.length_append, List.length_cons, List.length_nil] at hb
    omega

theorem set_perm' : ∀ (l : List Due) (i : Nat) (b : Due), i < l.length → (l.getD i dz :: l.set i b).Perm (b :: l) := by
  intro l
  induction l with
  | nil => intro i b h; simp at h
  | cons x xs ih =>
    intro i b h
    cases i with
    | zero => exact .swap _ _ _
    | succ i =>
      simp only [List.length_cons, Nat.add_lt_add_iff_right] at h
      simp only [List.getD_cons_succ, List.set_cons_succ]
      exact (List.Perm.swap _ _ _).trans (((ih i b h).cons x).trans (.swap _ _ _))
theorem take_last (h : List Due) (h0 : 0 < h.length) : h = h.take (h.length - 1) ++ [h.getD (h.length - 1) dz] := by
  have := List.take_append_getLast h (by intro hn; simp [hn] at h0)
  rw [List.getLast_eq_getElem] at this
  simpa [show h.length - 1 < h.length by omega] using this.symm
theorem upL_at {l : List Due} {i : Nat} : (upL l i).2 ≤ i ∧ ((0 < i ∧ lt (l.getD i dz) (l.getD ((i - 1) / 2) dz) = true ∧ (upL l i).2 < i) ∨ (¬ (0 < i ∧ lt (l.getD i dz) (l.getD ((i - 1) / 2) dz) = true) ∧ upL l i = (l, i))) := by
  fun_induction upL l i with
  | case1 l i h0 hlt ih => exact ⟨by omega, .inl ⟨h0, hlt, by omega⟩⟩
  | case2 l i h0 hlt => exact ⟨by simp, .inr ⟨fun h => hlt h.2, rfl⟩⟩
  | case3 l i h0 => exact ⟨by simp, .inr ⟨fun h => h0 h.1, rfl⟩⟩
theorem drop_ok' {h : List Due} (o : Ok h) (i : Nat) (hi : i < h.length) : Ok (dropL h i) ∧ (h.getD i dz :: dropL h i).Perm h := by
  have hlast := take_last h (by omega)
  obtain ⟨m, hm⟩ : ∃ m, m = h.length - 1 := ⟨_, rfl⟩
  obtain ⟨t, ht⟩ : ∃ t, t = h.take m := ⟨_, rfl⟩
  have htl : t.length = m := by simp [ht]; omega
  have hg : ∀ k, k < m → t.getD k dz = h.getD k dz := fun k hk => by simp [ht, List.getElem?_take, hk]
  rw [← hm, ← ht] at hlast
  unfold dropL
  rw [← hm, ← ht]
  have key : ∀ l : List Due, (h.getD i dz :: l).Perm h → HeapO l → Ok l ∧ (h.getD i dz :: l).Perm h := fun l hp ho => by
    refine ⟨⟨?_, fun d hd => o.val d (hp.mem_iff.1 (by simp [hd])), ?_, ho⟩, hp⟩
    · have := hp.length_eq; simp at this; have := o.len; omega
    · have := ((hp.map (·.2)).nodup_iff).2 o.ids
      rw [List.map_cons, List.nodup_cons] at this
      exact this.2
  by_cases h1 : i = m
  · rw [if_pos h1]
    refine key t ?_ fun k ha hb => ?_
    · subst h1
      conv => rhs; rw [hlast]
      exact (List.perm_append_comm (l₁ := [_]))
    · rw [htl] at hb
      rw [hg _ hb, hg _ (by omega)]
      exact o.ord k ha (by omega)
  · rw [if_neg h1]
    have him : i < m := by omega
    simp only
    obtain ⟨x, hx⟩ : ∃ x, x = h.getD m dz := ⟨_, rfl⟩
    obtain ⟨l, hl⟩ : ∃ l, l = t.set i x := ⟨_, rfl⟩
    have hll : l.length = m := by rw [hl, List.length_set, htl]
    have hlg : ∀ k, k < m → l.getD k dz = if k = i then x else h.getD k dz := fun k hk => by
      rw [← hg k hk, hl]
      simp only [List.getD_eq_getElem?_getD, List.getElem?_set, htl]
      by_cases hki : k = i
      · subst hki; simp [hk]
      · rw [if_neg (Ne.symm hki), if_neg hki]
    have hp : (h.getD i dz :: l).Perm h := by
      rw [← hg i him, hl]
      refine (set_perm' t i x (by omega)).trans ?_
      rw [hlast, hx]
      conv => rhs; rw [← hlast]
      conv => rhs; rw [hlast]
      exact List.perm_append_comm (l₁ := [_])
    rw [← hx, ← hl]
    have ord := o.ord
    have hch : ∀ k, 1 ≤ k → k < l.length → (k - 1) / 2 = i → 1 ≤ i → lt (l.getD k dz) (l.getD ((i - 1) / 2) dz) = false := fun k ha hb hc hd => by
      rw [hlg k (by omega), hlg _ (by omega), if_neg (by omega), if_neg (by omega)]
      have a := ord k ha (by omega)
      have b := ord i hd (by omega)
      rw [hc] at a
      exact le_trans' b a
    rcases (upL_at (l := l) (i := i)).2 with ⟨h0, hlt, hmv⟩ | ⟨hno, heq⟩
    · rw [if_neg (by omega)]
      refine key _ (((up_perm l i (by omega)).cons _).trans hp) (up_heap l i (by omega) (fun k ha hb hc => ?_) hch)
      by_cases hq : (k - 1) / 2 = i
      · have a := hch k ha hb hq (by omega)
        rw [hq]
        exact le_trans' (lt_asymm hlt) a
      · rw [hlg k (by omega), hlg _ (by omega), if_neg hc, if_neg hq]
        exact ord k ha (by omega)
    · rw [heq, if_pos rfl]
      refine key _ (((down_perm l i (by omega)).cons _).trans hp) (down_heap l i (by omega) (fun k ha hb hc => ?_) hch)
      by_cases hk : k = i
      · subst hk
        rw [← Bool.not_eq_true]
        exact fun h => hno ⟨by omega, h⟩
      · rw [hlg k (by omega), hlg _ (by omega), if_neg hk, if_neg hc]
        exact ord k ha (by omega)
theorem top_min {h : List Due} (o : HeapO h) : ∀ k, k < h.length → lt (h.getD k dz) (h.getD 0 dz) = false := by
  intro k
  induction k using Nat.strongRecOn with
  | ind k ih =>
    intro hk
    by_cases h0 : k = 0
    · subst h0; rw [lt_ff]; omega
    · exact le_trans' (ih ((k - 1) / 2) (by omega) (by omega)) (o k (by omega) hk)
theorem top_min' {h : List Due} (o : HeapO h) (d : Due) (hd : d ∈ h) : lt d (h.getD 0 dz) = false := by
  obtain ⟨k, hk, rfl⟩ := List.mem_iff_getElem.1 hd
  have := top_min o k hk
  simpa [hk] using this
end Go.Proofs.Ytlphhhmicdjljab
