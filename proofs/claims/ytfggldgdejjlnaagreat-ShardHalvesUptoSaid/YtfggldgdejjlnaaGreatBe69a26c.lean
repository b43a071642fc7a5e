/-
  Messages.
-/
import Derived.Test.YtfggldgdejjlnaaGreatB82acc28
set_option linter.unusedSimpArgs false
set_option linter.unusedVariables false
set_option maxHeartbeats 10000000
set_option maxRecDepth 100000
namespace Go.Proofs.YtfggldgdejjlnaaGreat
open Go Go.Sim
theorem zD6 (l : List Due) (i : Nat) : (zbh l i).length = l.length := by
 fun_induction zbh l i with
 | case1 l i h k h1 ih => rw [ih, zaO]
 | case2 => rfl
 | case3 => rfl
def zey (h : List Due) (i : Nat) : List Due :=
 if i = h.length - 1 then h.take (h.length - 1) else
 let l := (h.take (h.length - 1)).set i (h.getD (h.length - 1) (0, 0))
 if (upL l i).2 = i then zbh (upL l i).1 i else (upL l i).1
theorem zEf (h : List Due) (i : Nat) (hi : i < h.length) (hL : h.length <= 1000) : zd G zf0 [.d (.sl (h.map eD)), .d (.int .i64 i)] [] = some (.d (.sl ((zey h i).map eD)), []) := by
 have hc := zp2 ((h.take (h.length - 1)).map eD) (zc2 _) (by simp [LIM]; omega);obtain ⟨m, hm⟩ : ∃ m, m = h.length - 1 := ⟨_, rfl⟩;have hm2 : h.length = m + 1 := by omega
 obtain ⟨t, ht⟩ : ∃ t, t = h.take m := ⟨_, rfl⟩;have htl : t.length = m := by simp [ht]; omega
 rw [<- hm] at hc;rw [<- ht] at hc;have e1 : List.take m (h.map eD) = t.map eD := by rw [ht, zRY]
 have e0 : (m : Int) + 1 - 1 = m := by omega
 have hs := zc2 h;have hs2 := zc2 t;unfold zey;rw [<- hm, <- ht];clear hm ht
 by_cases hi2 : i = m
 · subst hi2;rw [zQO rfl];rw [ze znd (by simp)]; simp -implicitDefEqProofs (disch := omega) only [zkX, za, go_sem, *]
 · have hi3 : i < m := by omega
   rw [zQN hi2];obtain ⟨l, hl⟩ : ∃ l, l = t.set i (h.getD m (0, 0)) := ⟨_, rfl⟩;have hll : l.length = m := by rw [hl, zRS, htl]
   have hu := zBO l i (by omega) (by omega);simp only [zah, hll] at hu;rw [<- hl];show zd G zf0 _ _ = some (.d (.sl ((if (upL l i).2 = i then zbh (upL l i).1 i else (upL l i).1).map eD)), []);have hu2 : (upL l i).1.length = m := by rw [ztY, hll]
   have hd := zD9 (upL l i).1 i (by omega) (by omega);have hd2 : (zbh (upL l i).1 i).length = m := by rw [zD6, hu2]
   simp only [zah, hu2] at hd;have e5 : (t.map eD).set i (eD h[m]) = l.map eD := by rw [hl, za (by omega), zRN]
   generalize zbh (upL l i).1 i = r2 at *;generalize upL l i = r at *;clear hl hi2
   by_cases h4 : r.2 = i
   · rw [zQO h4];rw [h4] at hu;rw [ze znd (by simp)]; simp -implicitDefEqProofs (disch := omega) only [zkX, za, go_sem, *]; (try simp only [pA, pB, pC, pD, pE, pF, pG, pH, pI, pJ, pK, pL, pM, pN, pO, pP, if_true, if_false]); repeat' (first | done | rfl | ((first | refine zK (fun hq => ?_) (fun hq => ?_) | refine zM (fun hq => ?_) (fun hq => ?_)) <;> (try (first | (exfalso; omega) | contradiction)) <;> (try simp -implicitDefEqProofs (disch := omega) only [za, go_sem, *]) <;> (try simp only [pA, pB, pC, pD, pE, pF, pG, pH, pI, pJ, pK, pL, pM, pN, pO, pP, if_true, if_false]))); (all_goals try rfl); (all_goals try (repeat' (first | done | rfl | (exfalso; omega) | contradiction | (refine zN (fun hq => ?_) (fun hq => ?_)))))
   · rw [zQN h4];clear hd hd2;rw [ze znd (by simp)]; simp -implicitDefEqProofs (disch := omega) only [zkX, za, go_sem, *]; (try simp only [pA, pB, pC, pD, pE, pF, pG, pH, pI, pJ, pK, pL, pM, pN, pO, pP, if_true, if_false]); repeat' (first | done | rfl | ((first | refine zK (fun hq => ?_) (fun hq => ?_) | refine zM (fun hq => ?_) (fun hq => ?_)) <;> (try (first | (exfalso; omega) | contradiction)) <;> (try simp -implicitDefEqProofs (disch := omega) only [za, go_sem, *]) <;> (try simp only [pA, pB, pC, pD, pE, pF, pG, pH, pI, pJ, pK, pL, pM, pN, pO, pP, if_true, if_false]))); (all_goals try rfl); (all_goals try (repeat' (first | done | rfl | (exfalso; omega) | contradiction | (refine zN (fun hq => ?_) (fun hq => ?_)))))
def za9 (h : List Due) (id : Int) : List Due × Int :=
 if zaH h ≠ 0 then ([], zaH h) else if zaj h id < 0 then ([], 4) else (zey h (zaj h id).toNat, 0)
theorem zFq (h : List Due) (id : Int) : zaj h id < h.length := by
 unfold zaj zU
 cases e : List.findIdx? (fun d : Due => decide (d.2 = id)) h with
 | none => simp only; omega
 | some i => have := (zRR.1 e).1; simp only; omega
theorem zNp (h : List Due) (id : Int) (hL : h.length <= LIM) : zd G ze3 [.d (.sl (h.map eD)), .d (.int .i64 id)] [] = some (.d (eDE (za9 h id)), []) := by
 have hv := zoS h hL;have hf := find_ok h id hL;have hs := zc2 h;unfold za9 eDE;rw [ze zF3 (by simp)]; simp -implicitDefEqProofs (disch := omega) only [zuJ, go_sem, zQU]
 by_cases h0 : zaH h = 0
 · have h12 := zoR h0
   by_cases hn : zaj h id < 0
   · simp -implicitDefEqProofs (disch := omega) only [hv, h0, hf, hn, go_sem]
   · have hd := zEf h (zaj h id).toNat (by have := zFq h id; omega) (by omega);rw [show (((zaj h id).toNat : Nat) : Int) = zaj h id by omega] at hd;simp -implicitDefEqProofs (disch := omega) only [hv, h0, hf, hn, hd, go_sem]
 · simp -implicitDefEqProofs (disch := omega) only [hv, h0, go_sem]
abbrev dz : Due := (0, 0)
theorem zsY (a b : Due) : lt a b = true ↔ a.1 < b.1 \/ (a.1 = b.1 /\ a.2 < b.2) := by
 unfold lt zgC za1;rw [decide_eq_true_iff]
 repeat' split
 all_goals omega
theorem zha (a b : Due) : lt a b = false ↔ b.1 < a.1 \/ (b.1 = a.1 /\ b.2 <= a.2) := by
 rw [<- zSu, zsY]; omega
theorem zfH {a b : Due} (h : lt a b = true) : lt b a = false := by rw [zsY] at h; rw [zha]; omega
theorem zg5 {a b c : Due} (h1 : lt b a = false) (h2 : lt c b = false) : lt c a = false := by rw [zha] at *; omega
def zhE (l : List Due) : Prop := ∀ k, 1 <= k -> k < l.length -> lt (l.getD k dz) (l.getD ((k - 1) / 2) dz) = false
theorem ztJ (l : List Due) (i j k : Nat) (hi : i < l.length) (hj : j < l.length) : (swp l i j).getD k dz = if k = j then l.getD i dz else if k = i then l.getD j dz else l.getD k dz := by
 unfold swp;simp only [zRl, zSC, zRS]
 by_cases h1 : j = k
 · subst h1; simp [hj]
 · rw [zQN h1, zQN (Ne.symm h1)]
   by_cases h2 : i = k
   · subst h2; simp [hi]
   · rw [zQN h2, zQN (Ne.symm h2)]
theorem ztK (l : List Due) (i j : Nat) (hi : i < l.length) (hj : j < l.length) : (swp l i j).Perm l := by
 unfold swp;have := List.set_set_perm hi hj;simpa [hi, hj] using this
theorem zBP (l : List Due) (i : Nat) (hi : i < l.length) : (upL l i).1.Perm l := by
 fun_induction upL l i with
 | case1 l i h0 h1 ih => exact (ih (by rw [zaO]; omega)).trans (ztK l _ _ hi (by omega))
 | case2 => exact .refl _
 | case3 => exact .refl _
theorem zBJ (l : List Due) (i : Nat) (hi : i < l.length) (h1 : ∀ k, 1 <= k -> k < l.length -> k ≠ i -> lt (l.getD k dz) (l.getD ((k - 1) / 2) dz) = false)
    (h2 : ∀ k, 1 <= k -> k < l.length -> (k - 1) / 2 = i -> 1 <= i -> lt (l.getD k dz) (l.getD ((i - 1) / 2) dz) = false) : zhE (upL l i).1 := by
 fun_induction upL l i with
 | case1 l i h0 hlt ih =>
  have hp : (i - 1) / 2 < l.length := by omega
  have e := fun k => ztJ l i ((i - 1) / 2) k hi hp;refine ih (by rw [zaO]; omega) (fun k ha hb hc => ?_) (fun k ha hb hc hd => ?_)
  · rw [zaO] at hb;rw [e, e]
    by_cases hk : k = i
    · subst hk;rw [zQN (by omega), zQO rfl, zQO rfl];exact zfH hlt
    · rw [zQN hc, zQN hk]
      by_cases hq : (k - 1) / 2 = (i - 1) / 2
      · rw [zQO hq];have := h1 k ha hb hk;rw [hq] at this;exact zg5 (zfH hlt) this
      · rw [zQN hq]
        by_cases hr : (k - 1) / 2 = i
        · rw [zQO hr]; exact h2 k ha hb hr (by omega)
        · rw [zQN hr]; exact h1 k ha hb hk
  · rw [zaO] at hb;rw [e, e, zQN (show k ≠ (i - 1) / 2 by omega), zQN (show ((i - 1) / 2 - 1) / 2 ≠ (i - 1) / 2 by omega), zQN (show ((i - 1) / 2 - 1) / 2 ≠ i by omega)];have hpp := h1 ((i - 1) / 2) hd hp (by omega)
    by_cases hk : k = i
    · rw [zQO hk]; exact hpp
    · rw [zQN hk];have := h1 k ha hb hk;rw [hc] at this;exact zg5 hpp this
 | case2 l i h0 hlt =>
  intro k ha hb
  by_cases hk : k = i
  · subst hk; simpa using hlt
  · exact h1 k ha hb hk
 | case3 l i h0 =>
  intro k ha hb;exact h1 k ha hb (by omega)
theorem zEa (l : List Due) (i : Nat) (hi : i < l.length) : (zbh l i).Perm l := by
 fun_induction zbh l i with
 | case1 l i h k h1 ih =>
  have hk : k < l.length := by simp only [k]; split <;> omega
  exact (ih (by rw [zaO]; exact hk)).trans (ztK l _ _ hi hk)
 | case2 => exact .refl _
 | case3 => exact .refl _
theorem zD7 (l : List Due) (i : Nat) (hi : i < l.length) (h1 : ∀ k, 1 <= k -> k < l.length -> (k - 1) / 2 ≠ i -> lt (l.getD k dz) (l.getD ((k - 1) / 2) dz) = false)
    (h2 : ∀ k, 1 <= k -> k < l.length -> (k - 1) / 2 = i -> 1 <= i -> lt (l.getD k dz) (l.getD ((i - 1) / 2) dz) = false) : zhE (zbh l i) := by
 fun_induction zbh l i with
 | case1 l i h k hlt ih =>
  have hk : k < l.length /\ i < k /\ (k - 1) / 2 = i /\ ∀ q, 1 <= q -> q < l.length -> (q - 1) / 2 = i -> lt (l.getD q dz) (l.getD k dz) = false := by
   simp only [k]
   split
   · rename_i hc;refine ⟨by omega, by omega, by omega, fun q ha hb hq => ?_⟩;have : q = 2 * i + 1 \/ q = 2 * i + 1 + 1 := by omega
     rcases this with rfl | rfl
     · exact zfH hc.2
     · rw [zha]; omega
   · rename_i hc;refine ⟨by omega, by omega, by omega, fun q ha hb hq => ?_⟩;have : q = 2 * i + 1 \/ q = 2 * i + 1 + 1 := by omega
     rcases this with rfl | rfl
     · rw [zha]; omega
     · simp only [hb, zS6, zSu] at hc; exact hc
  obtain ⟨hk1, hk2, hk3, hk4⟩ := hk
  clear_value k
  have e := fun q => ztJ l i k q hi hk1;refine ih (by rw [zaO]; exact hk1) (fun q ha hb hc => ?_) (fun q ha hb hc hd => ?_)
  · rw [zaO] at hb;rw [e, e]
    by_cases hq : q = k
    · subst hq;rw [zQO rfl, hk3, zQN (by omega), zQO rfl];exact zfH hlt
    · rw [zQN hq, zQN hc]
      by_cases hr : q = i
      · subst hr;rw [zQO rfl, zQN (by omega)];exact h2 k (by omega) hk1 hk3 ha
      · rw [zQN hr]
        by_cases hs : (q - 1) / 2 = i
        · rw [zQO hs]; exact hk4 q ha hb hs
        · rw [zQN hs]; exact h1 q ha hb hs
  · rw [zaO] at hb;rw [e, e, zQN (show q ≠ k by omega), zQN (show q ≠ i by omega), hk3, zQN (by omega), zQO rfl];have := h1 q ha hb (by omega);rw [hc] at this; exact this
 | case2 l i h k hlt =>
  intro q ha hb
  by_cases hq : (q - 1) / 2 = i
  · have hlt : lt (l.getD k dz) (l.getD i dz) = false := by simpa using hlt
    rw [hq];refine zg5 hlt ?_;simp only [k];have : q = 2 * i + 1 \/ q = 2 * i + 1 + 1 := by omega
    split
    · rename_i hc
      rcases this with rfl | rfl
      · exact zfH hc.2
      · rw [zha]; omega
    · rename_i hc
      rcases this with rfl | rfl
      · rw [zha]; omega
      · simp only [hb, zS6, zSu] at hc; exact hc
  · exact h1 q ha hb hq
 | case3 l i h =>
  intro q ha hb;exact h1 q ha hb (by omega)
theorem zwn (h : List Due) (j : Int) : zaj h j < h.length := by
 unfold zaj zU
 cases e : List.findIdx? (fun d : Due => decide (d.2 = j)) h with
 | none => simp only; omega
 | some i => have := (zRR.1 e).1; simp only; omega
theorem zwl (h : List Due) (j : Int) (h0 : 0 <= zaj h j) : (h.getD (zaj h j).toNat dz).2 = j := by
 revert h0;unfold zaj zU
 cases e : List.findIdx? (fun d : Due => decide (d.2 = j)) h with
 | none => simp
 | some i =>
  obtain ⟨h1, h2, _⟩ := zRR.1 e;simp only [zRo];intro _;simpa [h1] using h2
theorem zqk (h : List Due) (j : Int) : zaj h j < 0 ↔ j ∉ h.map (·.2) := by
 unfold zaj zU
 cases e : List.findIdx? (fun d : Due => decide (d.2 = j)) h with
 | none =>
  simp only [zTl, decide_eq_false_iff_not] at e;simp only [show ((-1 : Int) < 0) by omega, true_iff, zQ3, not_exists, not_and];exact fun d hd => e d hd
 | some i =>
  obtain ⟨h1, h2, _⟩ := zRR.1 e;simp only [decide_eq_true_eq] at h2;refine ⟨fun h => by simp only at h; omega, fun hn => absurd (zQ3.2 ⟨_, zRe h1, h2⟩) hn⟩
theorem zwm (h : List Due) (i : Nat) (hi : i < h.length) (hd : (h.map (·.2)).Nodup) : zaj h (h.getD i dz).2 = i := by
 unfold zaj zU;have : List.findIdx? (fun d : Due => decide (d.2 = (h.getD i dz).2)) h = some i := by
  refine zRR.2 ⟨hi, by simp [hi], fun j hj => ?_⟩;have := (zRV.1 hd) j i (by simp; omega) (by simpa using hi) hj;simpa [hi] using this
 rw [this]
theorem zIZ (h : List Due) (hf : ∀ i, i < h.length -> zaj h (h.getD i dz).2 = i) : (h.map (·.2)).Nodup := by
 refine zRV.2 fun i j hi hj hij => ?_;simp only [zQV] at hi hj;simp only [zTO];intro he;have h1 := hf i hi;have h2 := hf j hj;simp only [zRl, zQ4 hi, zQ4 hj, zSk] at h1 h2;rw [he] at h1;omega
structure Ok (h : List Due) : Prop where
 len : h.length <= 12
 val : ∀ d ∈ h, zaY d = true
 ids : (h.map (·.2)).Nodup
 ord : zhE h
theorem zdR (h : List Due) : zaH h = 0 ↔ Ok h := by
 unfold zaH
 by_cases h1 : 12 < h.length
 · rw [zQO h1]; exact ⟨fun h => by omega, fun o => absurd o.len (by omega)⟩
 rw [zQN h1]
 by_cases h2 : h.any (fun d => !zaY d) = true
 · rw [zQO h2];refine ⟨fun h => by omega, fun o => ?_⟩;obtain ⟨d, hd, h3⟩ := zR9.1 h2;simp [o.val d hd] at h3
 rw [zQN h2];have h2 : ∀ d ∈ h, zaY d = true := by simpa using h2
 by_cases h3 : (List.range' 0 h.length).any (zco h) = true
 · rw [zQO h3];refine ⟨fun h => by omega, fun o => ?_⟩;obtain ⟨i, hi, h4⟩ := zR9.1 h3;simp only [zSD, zQU] at hi;simp [zco, zwm h i hi.2 o.ids] at h4;exact absurd (zwm h i hi.2 o.ids) (by simpa [dz] using h4)
 rw [zQN h3];have h3 : ∀ i, i < h.length -> zaj h (h.getD i dz).2 = i := by
  intro i hi;simp only [zR9, not_exists, not_and, zSD] at h3;have := h3 i ⟨by omega, by omega⟩;simpa [zco] using this
 by_cases h4 : (List.range' 1 (h.length - 1)).any (zcO h) = true
 · rw [zQO h4];refine ⟨fun h => by omega, fun o => ?_⟩;obtain ⟨i, hi, h5⟩ := zR9.1 h4;simp only [zSD] at hi;have := o.ord i hi.1 (by omega);unfold zcO at h5;rw [h5] at this; cases this
 rw [zQN h4];refine ⟨fun _ => ⟨by omega, h2, zIZ h h3, fun k ha hb => ?_⟩, fun _ => rfl⟩;simp only [zR9, not_exists, not_and, zSD] at h4;have := h4 k ⟨by omega, by omega⟩;simpa [zcO] using this
theorem Ok.of_perm {h l : List Due} (hp : l.Perm h) (hl : h.length <= 12) (hv : ∀ d ∈ h, zaY d = true) (hi : (h.map (·.2)).Nodup) (ho : zhE l) : Ok l :=
 ⟨by rw [hp.length_eq]; exact hl, fun d hd => hv d (hp.mem_iff.1 hd), (hp.map _).nodup_iff.2 hi, ho⟩
theorem zxB (h : List Due) (d : Due) (k : Nat) : (h ++ [d]).getD k dz = if k < h.length then h.getD k dz else if k = h.length then d else dz := by
 simp only [zRl, List.getElem?_append]
 split
 · rfl
 · rename_i hk
   by_cases hk2 : k = h.length
   · subst hk2; simp
   · rw [zQN hk2, zSE (by simp; omega)]; rfl
theorem zAw {h : List Due} {d : Due} (o : Ok h) (hd : zaY d = true) (hl : h.length < 12) (hn : d.2 ∉ h.map (·.2)) : zcd h d = (zb0 h d, 0) /\ Ok (zb0 h d) /\ (zb0 h d).Perm (d :: h) := by
 have hp : (zb0 h d).Perm (d :: h) := (zBP (h ++ [d]) h.length (by simp)).trans (zTi (l₂ := [d]));have he : zho h d = 0 := by
  unfold zho;rw [(zdR h).2 o, hd, zQN (by simp), zQN (by simp), zQN (by omega), zQN];have := (zqk h d.2).2 hn; omega
 refine ⟨by unfold zcd; rw [he, zQO rfl], .of_perm hp (by simp; omega) (fun x hx => by rcases zRs.1 hx with rfl | hx; exact hd; exact o.val x hx) (by simpa using ⟨by simpa using hn, o.ids⟩) ?_, hp⟩;refine zBJ _ _ (by simp) (fun k ha hb hc => ?_) (fun k ha hb hc => ?_)
 · simp only [zQT, zQX, zQ1] at hb;rw [zxB, zxB, zQO (by omega), zQO (by omega)];exact o.ord k ha (by omega)
 · simp only [zQT, zQX, zQ1] at hb;omega
theorem zOC : ∀ (l : List Due) (i : Nat) (b : Due), i < l.length -> (l.getD i dz :: l.set i b).Perm (b :: l) := by
 intro l
 induction l with
 | nil => intro i b h; simp at h
 | cons x xs ih =>
  intro i b h
  cases i with
  | zero => exact .swap _ _ _
  | succ i =>
   simp only [zQX, Nat.add_lt_add_iff_right] at h;simp only [List.getD_cons_succ, List.set_cons_succ];exact (List.Perm.swap _ _ _).trans (((ih i b h).cons x).trans (.swap _ _ _))
theorem zPi (h : List Due) (h0 : 0 < h.length) : h = h.take (h.length - 1) ++ [h.getD (h.length - 1) dz] := by
 have := List.take_append_getLast h (by intro hn; simp [hn] at h0);rw [List.getLast_eq_getElem] at this;simpa [show h.length - 1 < h.length by omega] using this.symm
theorem zPJ {l : List Due} {i : Nat} : (upL l i).2 <= i /\ ((0 < i /\ lt (l.getD i dz) (l.getD ((i - 1) / 2) dz) = true /\ (upL l i).2 < i) \/ (¬ (0 < i /\ lt (l.getD i dz) (l.getD ((i - 1) / 2) dz) = true) /\ upL l i = (l, i))) := by
 fun_induction upL l i with
 | case1 l i h0 hlt ih => exact ⟨by omega, .inl ⟨h0, hlt, by omega⟩⟩
 | case2 l i h0 hlt => exact ⟨by simp, .inr ⟨fun h => hlt h.2, rfl⟩⟩
 | case3 l i h0 => exact ⟨by simp, .inr ⟨fun h => h0 h.1, rfl⟩⟩
theorem zwb {h : List Due} (o : Ok h) (i : Nat) (hi : i < h.length) : Ok (zey h i) /\ (h.getD i dz :: zey h i).Perm h := by
 have hlast := zPi h (by omega);obtain ⟨m, hm⟩ : ∃ m, m = h.length - 1 := ⟨_, rfl⟩;obtain ⟨t, ht⟩ : ∃ t, t = h.take m := ⟨_, rfl⟩;have htl : t.length = m := by simp [ht]; omega
 have hg : ∀ k, k < m -> t.getD k dz = h.getD k dz := fun k hk => by simp [ht, zSe, hk]
 rw [<- hm, <- ht] at hlast;unfold zey;rw [<- hm, <- ht];have key : ∀ l : List Due, (h.getD i dz :: l).Perm h -> zhE l -> Ok l /\ (h.getD i dz :: l).Perm h := fun l hp ho => by
  refine ⟨⟨?_, fun d hd => o.val d (hp.mem_iff.1 (by simp [hd])), ?_, ho⟩, hp⟩
  · have := hp.length_eq; simp at this; have := o.len; omega
  · have := ((hp.map (·.2)).nodup_iff).2 o.ids;rw [zQS, zSj] at this;exact this.2
 by_cases h1 : i = m
 · rw [zQO h1];refine key t ?_ fun k ha hb => ?_
   · subst h1
     conv => rhs; rw [hlast]
     exact (zTi (l₁ := [_]))
   · rw [htl] at hb;rw [hg _ hb, hg _ (by omega)];exact o.ord k ha (by omega)
 · rw [zQN h1];have him : i < m := by omega
   simp only;obtain ⟨x, hx⟩ : ∃ x, x = h.getD m dz := ⟨_, rfl⟩;obtain ⟨l, hl⟩ : ∃ l, l = t.set i x := ⟨_, rfl⟩;have hll : l.length = m := by rw [hl, zRS, htl]
   have hlg : ∀ k, k < m -> l.getD k dz = if k = i then x else h.getD k dz := fun k hk => by
    rw [<- hg k hk, hl];simp only [zRl, zSC, htl]
    by_cases hki : k = i
    · subst hki; simp [hk]
    · rw [zQN (Ne.symm hki), zQN hki]
   have hp : (h.getD i dz :: l).Perm h := by
    rw [<- hg i him, hl];refine (zOC t i x (by omega)).trans ?_;rw [hlast, hx]
    conv => rhs; rw [<- hlast]
    conv => rhs; rw [hlast]
    exact zTi (l₁ := [_])
   rw [<- hx, <- hl];have ord := o.ord;have hch : ∀ k, 1 <= k -> k < l.length -> (k - 1) / 2 = i -> 1 <= i -> lt (l.getD k dz) (l.getD ((i - 1) / 2) dz) = false := fun k ha hb hc hd => by
    rw [hlg k (by omega), hlg _ (by omega), zQN (by omega), zQN (by omega)];have a := ord k ha (by omega);have b := ord i hd (by omega);rw [hc] at a;exact zg5 b a
   rcases (zPJ (l := l) (i := i)).2 with ⟨h0, hlt, hmv⟩ | ⟨hno, heq⟩
   · rw [zQN (by omega)];refine key _ (((zBP l i (by omega)).cons _).trans hp) (zBJ l i (by omega) (fun k ha hb hc => ?_) hch)
     by_cases hq : (k - 1) / 2 = i
     · have a := hch k ha hb hq (by omega);rw [hq];exact zg5 (zfH hlt) a
     · rw [hlg k (by omega), hlg _ (by omega), zQN hc, zQN hq];exact ord k ha (by omega)
   · rw [heq, zQO rfl];refine key _ (((zEa l i (by omega)).cons _).trans hp) (zD7 l i (by omega) (fun k ha hb hc => ?_) hch)
     by_cases hk : k = i
     · subst hk;rw [<- zSu];exact fun h => hno ⟨by omega, h⟩
     · rw [hlg k (by omega), hlg _ (by omega), zQN hk, zQN hc];exact ord k ha (by omega)
theorem zAS (a b : Due) : zd G zil [.d (eD a), .d (eD b)] [] = some (.d (.bool (lt a b)), []) := by
 have key : lt a b = (decide (a.1 < b.1) || (decide (a.1 = b.1) && decide (a.2 < b.2))) := by
  have := zsY a b
  cases h : lt a b
  · rw [h] at this; simp at this; simp; omega
  · rw [h] at this; simp at this; simp; omega
 rw [key];simp only [eD];clear key;rw [ze zw8 (by simp)]; simp -implicitDefEqProofs (disch := omega) only [zva, za, go_sem, *]
theorem zAU (d : Due) : zd G zin [.d (eD d)] [] = some (.d (.bool (zaY d)), []) := by
 unfold zaY;simp only [eD];rw [ze zxa (by simp)]; simp -implicitDefEqProofs (disch := omega) only [zvc, za, go_sem, *]
def zkq (h : List Due) (j : Int) (k : Nat) : zJ × St := match (h.drop k).findIdx? (fun d => decide (d.2 = j)) with | some i => (.ret, ⟨[(4, .d (.int .i64 ((k + i : Nat) : Int)))], []⟩) | none => (.exit 0, ⟨[], []⟩)
theorem zNb (h : List Due) (j : Int) (hL : h.length <= LIM) : ∀ k, k <= h.length -> zT G [] zsC ⟨[(0, .d (.sl (h.map eD))), (1, .d (.int .i64 j)), (5, .d (.int .i64 k))], []⟩ = some (zkq h j k) := by
 refine zap (fun k => h.length - k) (fun k => k <= h.length) _ _ fun k hk L ih => ?_;simp -implicitDefEqProofs (disch := omega) only [zsC, go_sem]
 by_cases hlt : k < h.length
 · simp -implicitDefEqProofs (disch := omega) only [zQV, show ((k : Int) < (h.length : Int)) by omega, show (0 : Int) <= (k : Int) by omega, zRo, zQ7, zQ4 hlt, zft, zgI, eD, zkF hlt hL, go_sem];unfold zkq;rw [zRH hlt, zTN]
   by_cases he : h[k].2 = j
   · simp [he]
   · simp only [he, decide_false, zRa, if_false];have i1 := ih (k + 1) (by omega) (by omega);simp only [zQ2, zQZ] at i1;rw [i1];unfold zkq
     cases (h.drop (k + 1)).findIdx? (fun d => decide (d.2 = j)) with
     | none => rfl
     | some i => simp; omega
 · have : k = h.length := by omega
   subst this;simp -implicitDefEqProofs (disch := omega) only [zQV, show ¬ ((h.length : Int) < (h.length : Int)) by omega, go_sem];simp [zkq]
theorem zAT (h : List Due) (j : Int) (hL : h.length <= LIM) : zd G zim [.d (.sl (h.map eD)), .d (.int .i64 j)] [] = some (.d (.int .i64 (zaj h j)), []) := by
 have := zNb h j hL 0 (by omega);simp only [zQW] at this;rw [ze zw9 (by simp)]; simp -implicitDefEqProofs (disch := omega) only [zvb, go_sem, zQU];simp only [this];unfold zkq zaj zU;simp only [zRB, zQU]
 cases h.findIdx? (fun d => decide (d.2 = j)) <;> simp -implicitDefEqProofs (disch := omega) only [go_sem]
def zhr (h : List Due) (k : Nat) : zJ × St := if (h.drop k).any (fun d => !zaY d) then (.ret, ⟨[(2, .d (.int .i64 1))], []⟩) else (.exit 0, ⟨[(0, .d (.sl (h.map eD)))], []⟩)
theorem zNg (h : List Due) (hL : h.length <= 12) : ∀ k, k <= h.length -> zT G [] zsz ⟨[(0, .d (.sl (h.map eD))), (3, .d (.int .i64 k))], []⟩ = some (zhr h k) := by
 refine zap (fun k => h.length - k) (fun k => k <= h.length) _ _ fun k hk L ih => ?_;simp -implicitDefEqProofs (disch := omega) only [zsz, go_sem]
 by_cases hlt : k < h.length
 · have hs := zAU h[k];simp -implicitDefEqProofs (disch := omega) only [zQV, show ((k : Int) < (h.length : Int)) by omega, show (0 : Int) <= (k : Int) by omega, zRo, zQ7, zQ4 hlt, zft, zgI, hs, zkF hlt (show h.length <= LIM by simp [LIM]; omega), go_sem];have i1 := ih (k + 1) (by omega) (by omega);simp only [zQ2, zQZ] at i1;rw [i1];unfold zhr;rw [zRH hlt, zSl]
   cases zaY h[k] <;> rfl
 · have : k = h.length := by omega
   subst this;simp -implicitDefEqProofs (disch := omega) only [zQV, show ¬ ((h.length : Int) < (h.length : Int)) by omega, go_sem];simp [zhr]
def zkr (h : List Due) (k : Nat) : zJ × St := if (List.range' k (h.length - k)).any (zco h) then (.ret, ⟨[(2, .d (.int .i64 10))], []⟩) else (.exit 2, ⟨[(0, .d (.sl (h.map eD)))], []⟩)
theorem zNh (h : List Due) (hL : h.length <= 12) : ∀ k, k <= h.length -> zT G [] zsA ⟨[(0, .d (.sl (h.map eD))), (4, .d (.int .i64 k))], []⟩ = some (zkr h k) := by
 refine zap (fun k => h.length - k) (fun k => k <= h.length) _ _ fun k hk L ih => ?_;simp -implicitDefEqProofs (disch := omega) only [zsA, go_sem]
 by_cases hlt : k < h.length
 · have hf := zAT h h[k].2 (by simp [LIM]; omega);simp -implicitDefEqProofs (disch := omega) only [zQV, show ((k : Int) < (h.length : Int)) by omega, show (0 : Int) <= (k : Int) by omega, zRo, zQ7, zQ4 hlt, zft, zgI, eD, hf, zkF hlt (show h.length <= LIM by simp [LIM]; omega), go_sem];have i1 := ih (k + 1) (by omega) (by omega);simp only [zQ2, zQZ] at i1;rw [i1];unfold zkr;rw [show h.length - k = (h.length - (k + 1)) + 1 by omega, zR4, zSl];have hd : zco h k = !decide (zaj h h[k].2 = k) := by simp [zco, hlt]
   rw [hd]
   cases decide (zaj h h[k].2 = k) <;> rfl
 · have : k = h.length := by omega
   subst this;simp -implicitDefEqProofs (disch := omega) only [zQV, show ¬ ((h.length : Int) < (h.length : Int)) by omega, go_sem];simp [zkr]
def zok (h : List Due) (k : Nat) : zJ × St := if (List.range' k (h.length - k)).any (zcO h) then (.ret, ⟨[(2, .d (.int .i64 11))], []⟩) else (.exit 4, ⟨[], []⟩)
theorem zNi (h : List Due) (hL : h.length <= 12) : ∀ k : Nat, 1 <= k -> zT G [] zsB ⟨[(0, .d (.sl (h.map eD))), (5, .d (.int .i64 k))], []⟩ = some (zok h k) := by
 refine zap (fun k => h.length - k) (fun k => 1 <= k) _ _ fun k hk L ih => ?_;simp -implicitDefEqProofs (disch := omega) only [zsB, go_sem]
 by_cases hlt : k < h.length
 · have hq : IntKind.i64.wrap (((k : Int) - 1).tdiv 2) = (((k - 1) / 2 : Nat) : Int) := by
    rw [zoT (by rw [zSv (by omega)]; omega) (by rw [zSv (by omega)]; omega), zSv (by omega)]; omega
   have hlt2 : (k - 1) / 2 < h.length := by omega
   have hb := zAS h[k] h[(k - 1) / 2];simp -implicitDefEqProofs (disch := omega) only [zQV, show ((k : Int) < (h.length : Int)) by omega, show (((k - 1) / 2 : Nat) : Int) < (h.length : Int) by omega, zoT (show -4294967296 <= (k : Int) - 1 by omega) (by omega), hq, hb, Int.natCast_nonneg, zRo, zQ7, zQ4 hlt, zQ4 hlt2, zft, zgI, zkF hlt (show h.length <= LIM by simp [LIM]; omega), go_sem];have i1 := ih (k + 1) (by omega) (by omega);simp only [zQ2, zQZ] at i1;rw [i1];unfold zok;rw [show h.length - k = (h.length - (k + 1)) + 1 by omega, zR4, zSl];have hd : zcO h k = lt h[k] h[(k - 1) / 2] := by simp [zcO, hlt, hlt2]
   rw [hd]
   cases lt h[k] h[(k - 1) / 2] <;> rfl
 · simp -implicitDefEqProofs (disch := omega) only [zQV, show ¬ ((k : Int) < (h.length : Int)) by omega, go_sem];simp [zok, show h.length - k = 0 by omega]
theorem zAV (h : List Due) (hL : h.length <= LIM) : zd G zik [.d (.sl (h.map eD))] [] = some (.d (.int .i64 (zaH h)), []) := by
 rw [ze zF8 (by simp)]; simp -implicitDefEqProofs (disch := omega) only [zu9, go_sem, zQU];unfold zaH
 by_cases h12 : 12 < h.length
 · simp -implicitDefEqProofs (disch := omega) only [h12, zQV, show (12 < (h.length : Int)) by omega, go_sem]
 · have e0 := zNg h (by omega) 0 (by omega);have e1 := zNh h (by omega) 0 (by omega);have e2 := zNi h (by omega) 1 (by omega);simp only [zQW] at e0 e1;simp only [zQZ] at e2;have hlen : ¬ (12 < (h.length : Int)) := by omega
   cases hA : h.any (fun d => !zaY d)
   · cases hB : (List.range' 0 h.length).any (zco h)
     · cases hC : (List.range' 1 (h.length - 1)).any (zcO h) <;>
        simp -implicitDefEqProofs (disch := omega) only [h12, zQV, hlen, e0, e1, e2, zhr, zkr, zok, zRB, zR5, hA, hB, hC, go_sem]
     · simp -implicitDefEqProofs (disch := omega) only [h12, zQV, hlen, e0, e1, zhr, zkr, zRB, zR5, hA, hB, go_sem]
   · simp -implicitDefEqProofs (disch := omega) only [h12, zQV, hlen, e0, zhr, zRB, hA, go_sem]
theorem zBl {h : List Due} {i j : Nat} (hi : i < h.length) (hj : j < h.length) : (((h.map eD).set i (eD h[j])).map AV.d)[j]? = some (.d (eD h[j])) := by
 rw [zQ7, zSC]
 by_cases e : i = j
 · rw [zQO e, zQO (by simpa using hi)]; rfl
 · rw [zQN e, zQ7, zQ4 hj]; rfl
theorem zNd (h : List Due) (i j : Nat) (hi : i < h.length) (hj : j < h.length) (hL : h.length <= 1000) : zd G zio [.d (.sl (h.map eD)), .d (.int .i64 i), .d (.int .i64 j)] [] = some (.d (.sl ((swp h i j).map eD)), []) := by
 have hs := zc2 h;have h2 := zBl hi hj;have hz : ¬ h.length = 0 := by omega
 unfold swp;rw [za hi, za hj];have hl : (((h.map eD).set i (eD h[j])).set j (eD h[i])).length = h.length := by simp
 have ht : List.take h.length (((h.map eD).set i (eD h[j])).set j (eD h[i])) = ((h.map eD).set i (eD h[j])).set j (eD h[i]) := zRy (by rw [hl]; exact zRd _);rw [ze zxb (by simp)]; simp -implicitDefEqProofs (disch := omega) only [zvd, za, go_sem, *]
def zoj (p : List Due × Nat) : St := ⟨[(0, .d (.sl (p.1.map eD))), (1, .d (.int .i64 p.2))], []⟩
theorem zNe : ∀ p : List Due × Nat, p.2 < p.1.length /\ p.1.length <= 1000 -> zT G [] zsD (zoj p) = some (.exit 0, ⟨[(0, .d (.sl ((upL p.1 p.2).1.map eD)))], []⟩) := by
 refine zap (fun p : List Due × Nat => p.2) (fun p : List Due × Nat => p.2 < p.1.length /\ p.1.length <= 1000) zoj _ fun ⟨l, i⟩ ⟨hi, hL⟩ L ih => ?_;simp only [zoj] at hi hL ih ⊢;simp only [zsD];rw [upL]
 by_cases h0 : 0 < i
 · have hq : ((i : Int) - 1).tdiv 2 = (((i - 1) / 2 : Nat) : Int) := by rw [zSv (by omega)]; omega
   have hj : (i - 1) / 2 < l.length := by omega
   have hb := zAS l[i] l[(i - 1) / 2];have hsw := zNd l i ((i - 1) / 2) hi hj hL;have fin := ih (swp l i ((i - 1) / 2), (i - 1) / 2) ⟨by simp only [zaO]; omega, by simp only [zaO]; omega⟩ (by simp only; omega);simp only at fin;rw [zQO h0, za hi, za hj];have hsl := zaO l i ((i - 1) / 2);generalize upL (swp l i ((i - 1) / 2)) ((i - 1) / 2) = r at *;generalize swp l i ((i - 1) / 2) = sw at *;clear ih
   cases hlt : lt l[i] l[(i - 1) / 2]
   · rw [hlt] at hb;simp only [if_false, zRa];clear hlt fin hsw;simp -implicitDefEqProofs (disch := omega) only [za, go_sem, *]
   · rw [hlt] at hb;simp only [if_true];clear hlt;simp -implicitDefEqProofs (disch := omega) only [za, go_sem, *]
 · rw [zQN h0];clear ih;simp -implicitDefEqProofs (disch := omega) only [za, go_sem, *]
theorem zNf (h : List Due) (i : Nat) (hi : i < h.length) (hL : h.length <= 1000) : zd G ziq [.d (.sl (h.map eD)), .d (.int .i64 i)] [] = some (.d (.sl ((upL h i).1.map eD)), []) := by
 have := zNe (h, i) ⟨hi, hL⟩;simp only [zoj] at this;rw [ze zxc (by simp)]; simp -implicitDefEqProofs (disch := omega) only [zve, go_sem, zQU];simp -implicitDefEqProofs (disch := omega) only [this, go_sem]
theorem zNc (h : List Due) (d : Due) (hL : h.length <= LIM) : zd G zij [.d (.sl (h.map eD)), .d (eD d)] [] = some (.d (eDE (zcd h d)), []) := by
 have hv := zAV h hL;have hf := zAT h d.2 hL;have hd := zAU d;have hs := zc2 h;have hL2 : h.length <= 4294967296 := hL;unfold zcd zho eDE
 by_cases h0 : zaH h = 0
 · have h12 := zoR h0;rw [h0] at hv;simp only [h0, ne_eq, zRf, if_false];clear h0
   cases h1 : zaY d
   · rw [h1] at hd;simp only [if_true, zQR, show ((1 : Int) = 0) = False by simp, if_false];clear h1 hf;rw [ze zjI (by simp)]; simp -implicitDefEqProofs (disch := omega) only [zgw, za, go_sem, *]
   · rw [h1] at hd;simp only [zTo, if_false];clear h1
     by_cases h2 : h.length = 12
     · simp only [h2, if_true, zQR, show ((3 : Int) = 0) = False by simp, if_false];clear hf;rw [ze zjI (by simp)]; simp -implicitDefEqProofs (disch := omega) only [zgw, za, go_sem, *]
     · simp only [h2, if_false]
       by_cases h3 : 0 <= zaj h d.2
       · simp only [h3, if_true, zQR, show ((10 : Int) = 0) = False by simp, if_false];rw [ze zjI (by simp)]; simp -implicitDefEqProofs (disch := omega) only [zgw, za, go_sem, *]
       · simp only [h3, if_false, if_true];obtain ⟨l, hl⟩ : ∃ l, l = h ++ [d] := ⟨_, rfl⟩;have e1 : h.map eD ++ [D.agg [.int .i64 d.1, .int .i64 d.2]] = l.map eD := by simp [eD, hl]
         have e2 : l.length = h.length + 1 := by simp [hl]
         have hu := zNf l h.length (by omega) (by omega);unfold zb0;rw [<- hl];have hul := ztY l h.length;have hsl := zc2 l;generalize upL l h.length = r at *;simp only [eD] at hd ⊢;clear hl;rw [ze zjI (by simp)]; simp -implicitDefEqProofs (disch := omega) only [zgw, za, go_sem, *]
 · simp only [h0, ne_eq, zRh, if_true, if_false, zQR];clear hf hd;rw [ze zjI (by simp)]; simp -implicitDefEqProofs (disch := omega) only [zgw, za, go_sem, *]
def Asc (l : List Due) (n : Nat) : Prop := ∀ p q, p < q -> q < n -> lt (l.getD q dz) (l.getD p dz) = false
def zaM (l : List Due) (j : Nat) : List Due :=
 if 0 < j then (if lt (l.getD j dz) (l.getD (j - 1) dz) then zaM (swp l j (j - 1)) (j - 1) else l) else l
termination_by j
theorem zfA (l : List Due) (j : Nat) : (zaM l j).length = l.length := by
 fun_induction zaM l j with
 | case1 l j h0 h1 ih => rw [ih, zaO]
 | case2 => rfl
 | case3 => rfl
theorem zHa (l : List Due) (j i : Nat) (hi : i < l.length) (hj : j <= i) (h1 : ∀ p q, p < q -> q <= i -> p ≠ j -> q ≠ j -> lt (l.getD q dz) (l.getD p dz) = false) (h2 : ∀ q, j < q -> q <= i -> lt (l.getD q dz) (l.getD j dz) = false) : Asc (zaM l j) (i + 1) /\ (zaM l j).Perm l := by
 fun_induction zaM l j with
 | case1 l j h0 hlt ih =>
  have hs : ∀ k, (swp l j (j - 1)).getD k dz = if k = j - 1 then l.getD j dz else if k = j then l.getD (j - 1) dz else l.getD k dz := fun k => ztJ l j (j - 1) k (by omega) (by omega)
  have ih' := ih (by rw [zaO]; exact hi) (by omega) (fun p q hpq hq hp hq2 => by
      rw [hs, hs]
      by_cases e1 : q = j
      · subst e1;rw [zQN (by omega), zQO rfl, zQN (by omega), zQN (by omega)];exact h1 p (q - 1) (by omega) (by omega) (by omega) (by omega)
      · by_cases e2 : p = j
        · subst e2;rw [zQN (by omega), zQN (by omega), zQN (by omega), zQO rfl];exact h1 (p - 1) q (by omega) hq (by omega) (by omega)
        · rw [zQN (by omega), zQN e1, zQN (by omega), zQN e2];exact h1 p q hpq hq e2 e1) (fun q hq1 hq2 => by
      rw [hs, hs, zQN (by omega), zQO rfl]
      by_cases e1 : q = j
      · rw [zQO e1]; exact zfH hlt
      · rw [zQN e1]; exact h2 q (by omega) hq2)
  exact ⟨ih'.1, ih'.2.trans (ztK l j (j - 1) (by omega) (by omega))⟩
 | case2 l j h0 hlt =>
  refine ⟨fun p q hpq hq => ?_, .refl _⟩;have hjj : lt (l.getD j dz) (l.getD (j - 1) dz) = false := by simpa using hlt
  by_cases e1 : p = j
  · subst e1; exact h2 q hpq (by omega)
  · by_cases e2 : q = j
    · subst e2
      by_cases e3 : p = q - 1
      · subst e3; exact hjj
      · exact zg5 (h1 p (q - 1) (by omega) (by omega) e1 (by omega)) hjj
    · exact h1 p q hpq (by omega) e1 e2
 | case3 l j h0 =>
  refine ⟨fun p q hpq hq => ?_, .refl _⟩
  by_cases e1 : p = j
  · subst e1; exact h2 q hpq (by omega)
  · exact h1 p q hpq (by omega) e1 (by omega)
def zct (l : List Due) (i : Nat) : List Due := if i < l.length then zct (zaM l i) (i + 1) else l
termination_by l.length - i
decreasing_by rw [zfA]; omega
theorem ztF (l : List Due) (i : Nat) (h : Asc l i) : Asc (zct l i) l.length /\ (zct l i).Perm l := by
 fun_induction zct l i with
 | case1 l i hi ih =>
  have := zHa l i i hi (by omega) (fun p q hpq hq _ hq2 => h p q hpq (by omega)) (fun q h1 h2 => by omega);have ih' := ih this.1;rw [zfA] at ih';exact ⟨ih'.1, ih'.2.trans this.2⟩
 | case2 l i hi => exact ⟨fun p q hpq hq => h p q hpq (by omega), .refl _⟩
abbrev zaK : AV := .d (.fn zfZ [])
def znD (l : List Due) (i : Nat) (j : Nat) : St := ⟨[(0, .osl 1000000 0 l.length), (1, .d (.int .i64 0)), (2, .d (.int .i64 l.length)), (3, zaK), (8, .d (.int .i64 i)), (9, .d (.int .i64 j)), (1000000, .ref 1000000 1 0)], [(1000000, zah l)]⟩
theorem zHe (i : Nat) : ∀ p : List Due × Nat, p.2 < p.1.length /\ p.1.length <= 1000 -> zT G [] znW (znD p.1 i p.2) = some (.exit 2, ⟨[(0, .osl 1000000 0 p.1.length), (1, .d (.int .i64 0)), (2, .d (.int .i64 p.1.length)), (3, zaK), (8, .d (.int .i64 i)), (1000000, .ref 1000000 1 0)], [(1000000, zah (zaM p.1 p.2))]⟩) := by
 refine zap (fun p : List Due × Nat => p.2) (fun p : List Due × Nat => p.2 < p.1.length /\ p.1.length <= 1000) (fun p => znD p.1 i p.2) _ fun ⟨l, j⟩ ⟨hj, hL⟩ L ih => ?_;simp only [znD, zah, zaK] at hj hL ih ⊢;simp only [znW];rw [zaM]
 by_cases h0 : 0 < j
 · have hj1 : j - 1 < l.length := by omega
   have t1 : ((j : Int) - 1) = ((j - 1 : Nat) : Int) := by omega
   have s1 := zBl hj hj1;have hc := zwc l[j] l[j - 1];have hlt : lt (l.getD j (0, 0)) (l.getD (j - 1) (0, 0)) = decide (zgC l[j] l[j - 1] < 0) := by rw [za hj, za hj1]; rfl
   have i1 := ih (swp l j (j - 1), j - 1) ⟨by simp only [zaO]; omega, by simp only [zaO]; omega⟩ (by simp only; omega);rw [zQO h0];simp only [dz, hlt];simp only [zaO] at i1;have hil : (zaM (swp l j (j - 1)) (j - 1)).length = l.length := by rw [zfA, zaO]
   generalize zaM (swp l j (j - 1)) (j - 1) = r at *;unfold swp at i1;rw [za hj, za hj1] at i1;simp only [zQ2, zQZ, zQW, zQ5, zQ0, zQT, zQV, zQR, zQ1, zQY, zQS, zQX, zQU, zo, zC] at i1;clear ih hlt hil
   by_cases hcc : zgC l[j] l[j - 1] < 0
   · rw [zRA hcc];simp only [if_true];simp -implicitDefEqProofs (disch := omega) only [za, go_sem, *]
   · rw [zRw hcc];simp only [if_false, zRa];clear i1;simp -implicitDefEqProofs (disch := omega) only [za, go_sem, *]
 · rw [zQN h0];clear ih;simp -implicitDefEqProofs (disch := omega) only [za, go_sem, *]
def isS (l : List Due) (i : Nat) : St := ⟨[(0, .osl 1000000 0 l.length), (1, .d (.int .i64 0)), (2, .d (.int .i64 l.length)), (3, zaK), (8, .d (.int .i64 i)), (1000000, .ref 1000000 1 0)], [(1000000, zah l)]⟩
theorem zHw : ∀ p : List Due × Nat, p.2 <= p.1.length /\ p.1.length <= 1000 -> zT G [] znX (isS p.1 p.2) = some (.exit 0, ⟨[(1000000, .ref 1000000 1 0)], [(1000000, zah (zct p.1 p.2))]⟩) := by
 refine zap (fun p : List Due × Nat => p.1.length - p.2) (fun p : List Due × Nat => p.2 <= p.1.length /\ p.1.length <= 1000) (fun p => isS p.1 p.2) _ fun ⟨l, i⟩ ⟨hj, hL⟩ L ih => ?_;simp only at hj hL;simp only [znX, isS];rw [zct]
 by_cases h0 : i < l.length
 · have h1 := zHe i (l, i) ⟨h0, hL⟩;simp only [znD, zah, zaK] at h1;have := ih (zaM l i, i + 1) ⟨by simp only [zfA]; omega, by simp only [zfA]; omega⟩ (by simp only [zfA]; omega);simp only [isS, zah, zfA, zaK, zQ2, zQZ] at this;simp -implicitDefEqProofs (disch := omega) only [go_sem, h1, this, h0, zah]
 · simp -implicitDefEqProofs (disch := omega) only [go_sem, h0, zah]
theorem zHy (l : List Due) (h0 : 0 < l.length) (hL : l.length <= 1000) : zd G zgi [.osl 1000000 0 l.length, .d (.int .i64 0), .d (.int .i64 l.length), zaK] [(1000000, zah l)] = some (.d (.tup []), [(1000000, zah (zct l 1))]) := by
 have := zHw (l, 1) ⟨h0, hL⟩;simp only [isS, zah, zaK, zQZ] at this;rw [ze zrC (by simp)]; simp -implicitDefEqProofs (disch := omega) only [zpU, go_sem, zah, this]
theorem zHx : zd G zgi [.d (.sl []), .d (.int .i64 0), .d (.int .i64 0), zaK] [] = some (.d (.tup []), []) := by
 rw [ze zrC (by simp)]; simp -implicitDefEqProofs (disch := omega) only [zpU, go_sem, zaK];rw [zbj];simp only [znX];simp -implicitDefEqProofs (disch := omega) only [go_sem, zaK]
theorem zHP (n : Nat) (h : n <= 12) : ∃ b : Int, zd G zh5 [.d (.int .u64 n)] [] = some (.d (.int .i64 b), []) := by
 obtain rfl | rfl | rfl | rfl | rfl | rfl | rfl | rfl | rfl | rfl | rfl | rfl | rfl : n = 0 \/ n = 1 \/ n = 2 \/ n = 3 \/ n = 4 \/ n = 5 \/ n = 6 \/ n = 7 \/ n = 8 \/ n = 9 \/ n = 10 \/ n = 11 \/ n = 12 := by omega
 · exact ⟨0, by simp only [zQW, zQZ, zQ0]; rw [ze zb7 (by simp)]; simp -implicitDefEqProofs (disch := omega) only [zbP, go_sem, UInt8.toNat_ofNat, Nat.reducePow]⟩
 · exact ⟨1, by simp only [zQW, zQZ, zQ0]; rw [ze zb7 (by simp)]; simp -implicitDefEqProofs (disch := omega) only [zbP, go_sem, UInt8.toNat_ofNat, Nat.reducePow]⟩
 · exact ⟨2, by simp only [zQW, zQZ, zQ0]; rw [ze zb7 (by simp)]; simp -implicitDefEqProofs (disch := omega) only [zbP, go_sem, UInt8.toNat_ofNat, Nat.reducePow]⟩
 · exact ⟨2, by simp only [zQW, zQZ, zQ0]; rw [ze zb7 (by simp)]; simp -implicitDefEqProofs (disch := omega) only [zbP, go_sem, UInt8.toNat_ofNat, Nat.reducePow]⟩
 · exact ⟨3, by simp only [zQW, zQZ, zQ0]; rw [ze zb7 (by simp)]; simp -implicitDefEqProofs (disch := omega) only [zbP, go_sem, UInt8.toNat_ofNat, Nat.reducePow]⟩
 · exact ⟨3, by simp only [zQW, zQZ, zQ0]; rw [ze zb7 (by simp)]; simp -implicitDefEqProofs (disch := omega) only [zbP, go_sem, UInt8.toNat_ofNat, Nat.reducePow]⟩
 · exact ⟨3, by simp only [zQW, zQZ, zQ0]; rw [ze zb7 (by simp)]; simp -implicitDefEqProofs (disch := omega) only [zbP, go_sem, UInt8.toNat_ofNat, Nat.reducePow]⟩
 · exact ⟨3, by simp only [zQW, zQZ, zQ0]; rw [ze zb7 (by simp)]; simp -implicitDefEqProofs (disch := omega) only [zbP, go_sem, UInt8.toNat_ofNat, Nat.reducePow]⟩
 · exact ⟨4, by simp only [zQW, zQZ, zQ0]; rw [ze zb7 (by simp)]; simp -implicitDefEqProofs (disch := omega) only [zbP, go_sem, UInt8.toNat_ofNat, Nat.reducePow]⟩
 · exact ⟨4, by simp only [zQW, zQZ, zQ0]; rw [ze zb7 (by simp)]; simp -implicitDefEqProofs (disch := omega) only [zbP, go_sem, UInt8.toNat_ofNat, Nat.reducePow]⟩
 · exact ⟨4, by simp only [zQW, zQZ, zQ0]; rw [ze zb7 (by simp)]; simp -implicitDefEqProofs (disch := omega) only [zbP, go_sem, UInt8.toNat_ofNat, Nat.reducePow]⟩
 · exact ⟨4, by simp only [zQW, zQZ, zQ0]; rw [ze zb7 (by simp)]; simp -implicitDefEqProofs (disch := omega) only [zbP, go_sem, UInt8.toNat_ofNat, Nat.reducePow]⟩
 · exact ⟨4, by simp only [zQW, zQZ, zQ0]; rw [ze zb7 (by simp)]; simp -implicitDefEqProofs (disch := omega) only [zbP, go_sem, UInt8.toNat_ofNat, Nat.reducePow]⟩
theorem zzA (n : Nat) (h : n <= 12) : ∃ b : Int, zd G zh4 [.d (.int .u64 n)] [] = some (.d (.int .i64 b), []) := by
 obtain ⟨b, hb⟩ := zHP n h;refine ⟨b, ?_⟩;rw [ze zwY (by simp)]; simp -implicitDefEqProofs (disch := omega) only [zuY, go_sem, hb]
theorem zMl (l : List Due) (b : Int) (h0 : 0 < l.length) (hL : l.length <= 12) : zd G zgj [.osl 1000000 0 l.length, .d (.int .i64 0), .d (.int .i64 l.length), .d (.int .i64 b), zaK] [(1000000, zah l)] = some (.d (.tup []), [(1000000, zah (zct l 1))]) := by
 have := zHy l h0 (by omega);simp only [zah, zaK] at this;rw [ze zrD (by simp)]; simp -implicitDefEqProofs (disch := omega) only [zpV, go_sem, this, zah, zaK];rw [zbj];simp only [zsN];simp -implicitDefEqProofs (disch := omega) only [go_sem, this, zah, zaK]
theorem zMk (b : Int) : zd G zgj [.xsl [], .d (.int .i64 0), .d (.int .i64 0), .d (.int .i64 b), zaK] [] = some (.d (.tup []), []) := by
 have := zHx;simp only [zaK] at this;rw [ze zrD (by simp)]; simp -implicitDefEqProofs (disch := omega) only [zpV, go_sem, this, zaK];rw [zbj];simp only [zsN];simp -implicitDefEqProofs (disch := omega) only [go_sem, this, zaK]
theorem zOV (l : List Due) (h0 : 0 < l.length) (hL : l.length <= 12) : zd G zgh [.osl 1000000 0 l.length, zaK] [(1000000, zah l)] = some (.d (.tup []), [(1000000, zah (zct l 1))]) := by
 obtain ⟨b, hb⟩ := zzA l.length hL;have := zMl l b h0 hL;simp only [zah, zaK] at this;rw [ze zrB (by simp)]; simp -implicitDefEqProofs (disch := omega) only [zpT, go_sem, hb, this, zah, zaK]
theorem zOU : zd G zgh [.xsl [], zaK] [] = some (.d (.tup []), []) := by
 obtain ⟨b, hb⟩ := zzA 0 (by omega);have := zMk b;simp only [zQW, zaK] at this hb;rw [ze zrB (by simp)]; simp -implicitDefEqProofs (disch := omega) only [zpT, go_sem, hb, this, zaK]
def zbH (now : Int) (l : List Due) : List Int := (l.filter fun d => decide (d.1 <= now)).map (·.2)
def zaC (h : List Due) (now : Int) : List Int := if zaH h = 0 then zbH now (zct h 1) else []
def zoN (l : List Due) (now : Int) (k : Nat) (out : List Int) : St := ⟨[(1, .d (.int .i64 now)), (6, .acc 6 (zy out)), (16, .osl 13 0 l.length), (17, .d (.int .i64 l.length)), (18, .d (.int .i64 k))], [(6, .acc out.length), (13, zah l)]⟩
theorem zPH (l : List Due) (now : Int) (hL : l.length <= 12) : ∀ k, k <= l.length -> zT G [] znH (zoN l now k (zbH now (l.take k))) = some (.exit 0, ⟨[(6, .acc 6 (zy (zbH now l)))], [(6, .acc (zbH now l).length)]⟩) := by
 refine zap (fun k => l.length - k) (fun k => k <= l.length) (fun k => zoN l now k (zbH now (l.take k))) _ fun k hk L ih => ?_;simp only [znH, zoN, zah] at ih ⊢
 by_cases h0 : k < l.length
 · have hg := zNU l k h0;have hlen : (zbH now (l.take k)).length <= 12 := by
    have := zSg (fun d : Due => decide (d.1 <= now)) (l.take k);simp only [zbH, zQV]; rw [zRx] at this; omega
   have e1 : zbH now (l.take (k + 1)) = if l[k].1 <= now then zbH now (l.take k) ++ [l[k].2] else zbH now (l.take k) := by
    rw [List.take_succ_eq_append_getElem h0];unfold zbH;rw [zSh, zQY]
    by_cases hc : l[k].1 <= now <;> simp [hc]
   have := ih (k + 1) (by omega) (by omega);rw [e1] at this;have e2 : l.getD k (0, 0) = l[k] := by simp [h0]
   rw [e2] at hg;obtain ⟨ds, hds⟩ : ∃ ds, ds = zbH now (l.take k) := ⟨_, rfl⟩;rw [<- hds] at this hlen ⊢
   by_cases hc : l[k].1 <= now
   · rw [zQO hc] at this;simp only [zy, zQY, zQS, zQR, zQT, zQX, zQ1, zQ2, zQZ, zQU] at this;simp -implicitDefEqProofs (disch := omega) only [go_sem, hg, eD, hc, zkS, this]
   · rw [zQN hc] at this;simp only [zQ2, zQZ] at this;simp -implicitDefEqProofs (disch := omega) only [go_sem, hg, eD, hc, zkS, this]
 · have : k = l.length := by omega
   subst this;simp -implicitDefEqProofs (disch := omega) only [go_sem, zSy]
theorem zBH (h : List Due) (now : Int) (hL : h.length <= LIM) (h0 : zaH h = 0) : zd G zdT [.d (.sl (h.map eD)), .d (.int .i64 now)] [] = some (.acc 0 (zy (zaC h now)), [(0, .acc (zaC h now).length)]) := by
 have hv := zoS h hL;unfold zaC;rw [zQO h0];have h12 := zoR h0;have hc := zp2 (h.map eD) (zc2 h) (by simpa using hL);have hsl := (ztF h 1 (fun p q hp hq => by omega)).2.length_eq;have hl := zPH (zct h 1) now (by omega) 0 (by omega);simp only [zoN, zbH, zRW, zSJ, zQR, zQ1, zah, hsl, zy, zQW] at hl
 by_cases he : h = []
 · subst he;have hs := zOU;have e0 : zct [] 1 = [] := by rw [zct]; simp
   simp only [zaK] at hs;simp only [zQR] at hv hc ⊢;rw [e0];rw [ze zwJ (by simp)]; simp -implicitDefEqProofs (disch := omega) only [zpA, go_sem, hv, hc, hs, h0, zaK];rw [zbj];simp only [znH];simp -implicitDefEqProofs (disch := omega) only [go_sem, zQU];rfl
 · have hs := zOV h (zSB.2 he) h12;simp only [zah, zaK] at hs;have hne : h.length ≠ 0 := by simpa using he
   have e4 : List.take h.length (List.map AV.d (List.map eD h)) = List.map AV.d (List.map eD h) := zNM h;rw [ze zwJ (by simp)]; simp -implicitDefEqProofs (disch := omega) only [zpA, go_sem, hv, hc, hs, h0, hl, e4, hne];simp only [zy, zbH, zQV]
theorem zOw (a b : List Int) (hL : a.length <= 1000) : zd G zcY [.d (.sl (zy a)), .d (.sl (zy b))] [] = some (.d (.bool (decide (a = b))), []) := by
 by_cases hab : a.length = b.length
 · have := zsX (G := G) (x := zsy) (ks := []) a.length (fun k => decide (a[k]? = b[k]?)) (fun k => ⟨[(0, .d (.sl (zy a))), (1, .d (.sl (zy b))), (5, .d (.int .i64 k))], []⟩) (.ret, ⟨[(4, .d (.bool false))], []⟩) (.exit 0, ⟨[], []⟩) (fun k hk L => by
    simp only [zsy]
    by_cases h0 : k < a.length
    · have hk2 : k < b.length := by omega
      simp only [zGj h0 hk2]
      by_cases hc : a[k] = b[k]
      · simp -implicitDefEqProofs (disch := omega) only [go_sem, hc]
      · simp -implicitDefEqProofs (disch := omega) only [go_sem, hc]
    · simp -implicitDefEqProofs (disch := omega) only [go_sem, zQU])
   simp only [zCn hab, zQW] at this
   by_cases e : a = b
   · subst e;simp only [decide_true, if_true] at this;rw [ze zri (by simp)]; simp -implicitDefEqProofs (disch := omega) only [zk8, go_sem, this]
   · simp only [e, decide_false, zRa, if_false] at this;rw [ze zri (by simp)]; simp -implicitDefEqProofs (disch := omega) only [zk8, go_sem, hab, this, e]
 · have e : a ≠ b := fun e => hab (by rw [e]);rw [ze zri (by simp)]; simp -implicitDefEqProofs (disch := omega) only [zk8, go_sem, e]
theorem zhc (n lo hi : Int) : zd G zh8 [.d (.int .i64 n), .d (.int .i64 lo), .d (.int .i64 hi)] [] = some (.d (.bool (decide (lo <= n /\ n <= hi))), []) := by
 by_cases h : lo <= n
 · by_cases h2 : n <= hi
   · rw [zRA ⟨h, h2⟩];rw [ze znh (by simp)]; simp -implicitDefEqProofs (disch := omega) only [zk3, za, go_sem, *]
   · rw [zRw (by omega)];rw [ze znh (by simp)]; simp -implicitDefEqProofs (disch := omega) only [zk3, za, go_sem, *]
 · rw [zRw (by omega)];rw [ze znh (by simp)]; simp -implicitDefEqProofs (disch := omega) only [zk3, za, go_sem, *]
theorem zhq (n lo hi : Int) : zd G zid [.d (.int .i64 n), .d (.int .i64 lo), .d (.int .i64 hi)] [] = some (.d (.bool (decide (lo <= n /\ n <= hi))), []) := by
 by_cases h : lo <= n
 · by_cases h2 : n <= hi
   · rw [zRA ⟨h, h2⟩];rw [ze zni (by simp)]; simp -implicitDefEqProofs (disch := omega) only [zk7, za, go_sem, *]
   · rw [zRw (by omega)];rw [ze zni (by simp)]; simp -implicitDefEqProofs (disch := omega) only [zk7, za, go_sem, *]
 · rw [zRw (by omega)];rw [ze zni (by simp)]; simp -implicitDefEqProofs (disch := omega) only [zk7, za, go_sem, *]
theorem zIH (m : Message) (e : Int) : zd G zdU [.d (zg m), .d (.int .i64 e)] [] = some (.d (.bool (decide (m.epoch < e))), []) := by
 rw [ze zwZ (by simp)]; simp -implicitDefEqProofs (disch := omega) only [zpC, za, go_sem, *]
def zD (m : Message) : Int :=
 if 1 <= m.id /\ m.id <= 1073741824 /\ 0 <= m.route /\ m.route <= 65535 /\ 0 <= m.epoch /\ m.epoch <= 65536 /\ 0 <= m.count /\ m.count <= 8 /\ m.count <= m.gen /\ m.gen <= 65536 /\ 0 <= m.sent /\ m.sent <= 1073741824 then (if 16 < m.body.length then 2 else 0) else 1
theorem zhd (m : Message) : zd G zek [.d (zg m)] [] = some (.d (.int .i64 (zD m)), []) := by
 have i1 := zhc m.id 1 1073741824;have i2 := zhc m.route 0 65535;have i3 := zhc m.epoch 0 65536;have i4 := zhc m.count 0 8;have i5 := zhc m.gen m.count 65536;have i6 := zhc m.sent 0 1073741824;unfold zD
 split
 · split
   · rw [ze zre (by simp)]; simp -implicitDefEqProofs (disch := omega) only [zk2, za, go_sem, *]
   · rw [ze zre (by simp)]; simp -implicitDefEqProofs (disch := omega) only [zk2, za, go_sem, *]
 · rw [ze zre (by simp)]; simp -implicitDefEqProofs (disch := omega) only [zk2, za, go_sem, *]; (try simp only [pA, pB, pC, pD, pE, pF, pG, pH, pI, pJ, pK, pL, pM, pN, pO, pP, if_true, if_false]); repeat' (first | done | rfl | ((first | refine zK (fun hq => ?_) (fun hq => ?_) | refine zM (fun hq => ?_) (fun hq => ?_)) <;> (try (first | (exfalso; omega) | contradiction)) <;> (try simp -implicitDefEqProofs (disch := omega) only [za, go_sem, *]) <;> (try simp only [pA, pB, pC, pD, pE, pF, pG, pH, pI, pJ, pK, pL, pM, pN, pO, pP, if_true, if_false]))); (all_goals try rfl); (all_goals try (repeat' (first | done | rfl | (exfalso; omega) | contradiction | (refine zN (fun hq => ?_) (fun hq => ?_)))))
theorem zoh (m : Message) : zd G zf3 [.d (zg m)] [] = some (.d (.int .i64 (zD m)), []) := by
 have i1 := zhq m.id 1 1073741824;have i2 := zhq m.route 0 65535;have i3 := zhq m.epoch 0 65536;have i4 := zhq m.count 0 8;have i5 := zhq m.gen m.count 65536;have i6 := zhq m.sent 0 1073741824;unfold zD
 split
 · split
   · rw [ze zrh (by simp)]; simp -implicitDefEqProofs (disch := omega) only [zk6, za, go_sem, *]
   · rw [ze zrh (by simp)]; simp -implicitDefEqProofs (disch := omega) only [zk6, za, go_sem, *]
 · rw [ze zrh (by simp)]; simp -implicitDefEqProofs (disch := omega) only [zk6, za, go_sem, *]; (try simp only [pA, pB, pC, pD, pE, pF, pG, pH, pI, pJ, pK, pL, pM, pN, pO, pP, if_true, if_false]); repeat' (first | done | rfl | ((first | refine zK (fun hq => ?_) (fun hq => ?_) | refine zM (fun hq => ?_) (fun hq => ?_)) <;> (try (first | (exfalso; omega) | contradiction)) <;> (try simp -implicitDefEqProofs (disch := omega) only [za, go_sem, *]) <;> (try simp only [pA, pB, pC, pD, pE, pF, pG, pH, pI, pJ, pK, pL, pM, pN, pO, pP, if_true, if_false]))); (all_goals try rfl); (all_goals try (repeat' (first | done | rfl | (exfalso; omega) | contradiction | (refine zN (fun hq => ?_) (fun hq => ?_)))))
end Go.Proofs.YtfggldgdejjlnaaGreat
