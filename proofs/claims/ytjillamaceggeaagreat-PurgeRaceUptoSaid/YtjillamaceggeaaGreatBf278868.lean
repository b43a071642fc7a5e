/-
  A race of purges: the loops.
  A race of purges: awake.
  A race of purges: the law.
  Data of a form, as lists and numbers.
-/
import Derived.Test.YtjillamaceggeaaGreatB5dd12ae
import Derived.Test.YtjillamaceggeaaGreatB53b90d6
import Derived.Test.YtjillamaceggeaaGreatBab75085
import Derived.Test.YtjillamaceggeaaGreatB035ba30
import Derived.Test.YtjillamaceggeaaGreatBcc52375
set_option linter.unusedSimpArgs false
set_option linter.unusedVariables false
namespace Go.Proofs.YtjillamaceggeaaGreat
open Go Go.Sim
set_option linter.unusedSimpArgs false
set_option linter.unusedVariables false
set_option maxHeartbeats 10000000
set_option maxRecDepth 100000
def doneN (ts : List TK) : Nat := (ts.filter fun t => t.dn).length
def metC (e : Nat) : List Int := (List.range 6).map fun i => if 1 ≤ i ∧ i ≤ e then 1 else 0
structure RS where
  ts : List TK
  e : Nat
  a : Nat
  n : Nat
def tkOK (e : Int) (j : Nat) (t : TK) : Prop := t.k = (j : Int) + 1 ∧ (t.dn = true ∨ (∃ x, t = ⟨(j : Int) + 1, false, 0, 0, 0, x⟩) ∨ ∃ x, 0 ≤ x ∧ x ≤ e ∧ t = ⟨(j : Int) + 1, false, 0, 1, 0, x⟩)
def rsS (l : List Int) (s : RS) : St := ⟨[(3, .ref 20 0 0), (5, .ref 5 0 0), (6, .ref 6 0 0), (8, .ref 8 0 0), (9, .d (.int .i64 s.n))], [(5, .row [.d (arenaD s.e)]), (6, .row [.d (.agg (arrC s.ts))]), (8, .row [.d (.agg (ints (metC s.e)))]), (20, srcO l s.a)]⟩
def rsInv (s : RS) : Prop := s.ts.length = 4 ∧ (∀ j (hj : j < s.ts.length), tkOK s.e j s.ts[j]) ∧ doneN s.ts = s.e ∧ s.e ≤ 4 ∧ 1 ≤ s.n ∧ s.n ≤ 61
def rsPhi (r : Option (AExit × St)) : Prop := ∃ ts e, ts.length = 4 ∧ doneN ts = e ∧ e ≤ 4 ∧ r = some (.exit 2, ⟨[(5, .ref 5 0 0), (6, .ref 6 0 0), (8, .ref 8 0 0)], [(5, .row [.d (arenaD (e : Nat))]), (6, .row [.d (.agg (arrC ts))]), (8, .row [.d (.agg (ints (metC e)))])]⟩)
theorem doneN_set {ts : List TK} {k : Nat} (hk : k < ts.length) (h : ts[k].dn = false) (t : TK) : doneN (ts.set k t) = doneN ts + (if t.dn = true then 1 else 0) := by
  induction ts generalizing k with
  | nil => simp at hk
  | cons x ts ih =>
    cases k with
    | zero =>
      simp only [List.getElem_cons_zero] at h
      simp only [List.set_cons_zero, doneN, List.filter_cons, h]
      cases t.dn <;> simp
    | succ k =>
      have := ih (k := k) (by simpa using hk) (by simpa using h)
      simp only [List.set_cons_succ, doneN, List.filter_cons] at this ⊢
      cases x.dn <;> simp_all <;> omega
theorem doneN_lt {ts : List TK} {k : Nat} (hk : k < ts.length) (h : ts[k].dn = false) : doneN ts < ts.length := by
  have h1 := doneN_set hk h ⟨0, true, 0, 0, 0, 0⟩
  have h2 : doneN (ts.set k ⟨0, true, 0, 0, 0, 0⟩) ≤ (ts.set k ⟨0, true, 0, 0, 0, 0⟩).length := List.length_filter_le _ _
  rw [List.length_set] at h2
  simp only [if_true] at h1
  omega
theorem inv_set {ts : List TK} {e e' : Int} {k : Nat} {t : TK} (h : ∀ j (hj : j < ts.length), tkOK e j ts[j]) (he : e ≤ e') (ht : tkOK e' k t) : ∀ j (hj : j < (ts.set k t).length), tkOK e' j (ts.set k t)[j] := by
  intro j hj
  rw [List.getElem_set]
  split
  · rename_i q; subst q; exact ht
  · obtain ⟨h1, h2⟩ := h j (by simpa using hj)
    refine ⟨h1, ?_⟩
    rcases h2 with h2 | h2 | ⟨x, a, b, c⟩
    · exact .inl h2
    · exact .inr (.inl h2)
    · exact .inr (.inr ⟨x, a, by omega, c⟩)
theorem rs_loop (l : List Int) (hL : l.length ≤ 4000) : ∀ s : RS, rsInv s → rsPhi (loopL G [] l_law21_PurgeRace_1 (rsS l s)) := by
  refine loop_indP (fun s : RS => 61 - s.n) rsInv (rsS l) (fun _ => Post rsPhi) fun ⟨ts, e, a, n⟩ ⟨h4, ht, hd, he, hn1, hn2⟩ L ih => ?_
  simp only at h4 ht hd he hn1 hn2
  by_cases h0 : n ≤ 60
  · have hn := n_ok l a 4 hL (by omega) (by omega)
    have hb := nD_in l a (n := 4) (by omega)
    obtain ⟨k, hk, hkm⟩ : ∃ k : Nat, k < 4 ∧ ((n : Int) + nD l a 4).tmod 4 = k := by
      refine ⟨((n : Int) + nD l a 4).toNat % 4, Nat.mod_lt _ (by omega), ?_⟩
      rw [Int.tmod_eq_emod_of_nonneg (by omega)]
      omega
    have hk2 : k < ts.length := by omega
    obtain ⟨hk3, hc⟩ := ht k hk2
    generalize nD l a 4 = c at *
    have gg : ∀ (ts' : List TK) (e' : Nat), ts'.length = 4 → (∀ j (hj : j < ts'.length), tkOK e' j ts'[j]) → doneN ts' = e' → e' ≤ 4 → Post rsPhi (L (rsS l ⟨ts', e', (rawD l a).2, n + 1⟩)) := fun ts' e' g1 g2 g3 g4 => ih ⟨ts', e', (rawD l a).2, n + 1⟩ ⟨g1, g2, g3, g4, by simp only; omega, by simp only; omega⟩ (by simp only; omega)
    clear ih
    generalize (rawD l a).2 = a' at *
    rcases hc with hc | ⟨x, hc⟩ | ⟨x, hx0, hx1, hc⟩
    · have i1 := gg ts e h4 ht hd he
      clear gg ht hd hk3
      simp only [rsS, l_law21_PurgeRace_1] at i1 ⊢
      generalize arenaD e = A at *
      simp only [Int.natCast_add, Int.natCast_one, Int.natCast_zero, Int.natCast_mul, Int.cast_ofNat_Int, List.length_append, List.length_map, List.map_nil, List.length_nil, List.map_append, List.map_cons, List.length_cons, Nat.zero_add, srcO, mapSet] at i1
      (try simp -implicitDefEqProofs (maxSteps := 4000000) (disch := omega) only [getDT, go_sem, *]); (try simp only [pA, pB, pC, pD, pE, pF, pG, pH, pI, pJ, pK, pL, pM, pN, pO, pP, if_true, if_false]); repeat' (first | done | rfl | ((first | refine iteC (fun hq => ?_) (fun hq => ?_) | refine iteP (fun hq => ?_) (fun hq => ?_)) <;> (try (first | (exfalso; omega) | contradiction)) <;> (try simp -implicitDefEqProofs (maxSteps := 4000000) (disch := omega) only [getDT, go_sem, *]) <;> (try simp only [pA, pB, pC, pD, pE, pF, pG, pH, pI, pJ, pK, pL, pM, pN, pO, pP, if_true, if_false]))); (all_goals try rfl); (all_goals try (repeat' (first | done | rfl | (exfalso; omega) | contradiction | (refine iteR (fun hq => ?_) (fun hq => ?_)))))
    · have i1 := gg (ts.set k ⟨(k : Int) + 1, false, 0, 1, 0, e⟩) e (by rw [List.length_set]; exact h4) (inv_set ht (Int.le_refl _) ⟨rfl, .inr (.inr ⟨e, by omega, by omega, rfl⟩)⟩) (by rw [doneN_set hk2 (by rw [hc])]; simpa using hd) he
      have hs := step0_ok e ((k : Int) + 1) x n (by omega) (by omega)
      rw [tk_task, tk_task] at hs
      clear gg ht hd hk3
      simp only [rsS, l_law21_PurgeRace_1, arenaD] at i1 hs ⊢
      generalize slotsD = A, stripesD = B, dirD1 = C, dirD2 = D' at *
      simp only [Int.natCast_add, Int.natCast_one, Int.natCast_zero, Int.natCast_mul, Int.cast_ofNat_Int, List.length_append, List.length_map, List.map_nil, List.length_nil, List.map_append, List.map_cons, List.length_cons, Nat.zero_add, srcO, mapSet] at i1
      (try simp -implicitDefEqProofs (maxSteps := 4000000) (disch := omega) only [getDT, go_sem, *]); (try simp only [pA, pB, pC, pD, pE, pF, pG, pH, pI, pJ, pK, pL, pM, pN, pO, pP, if_true, if_false]); repeat' (first | done | rfl | ((first | refine iteC (fun hq => ?_) (fun hq => ?_) | refine iteP (fun hq => ?_) (fun hq => ?_)) <;> (try (first | (exfalso; omega) | contradiction)) <;> (try simp -implicitDefEqProofs (maxSteps := 4000000) (disch := omega) only [getDT, go_sem, *]) <;> (try simp only [pA, pB, pC, pD, pE, pF, pG, pH, pI, pJ, pK, pL, pM, pN, pO, pP, if_true, if_false]))); (all_goals try rfl); (all_goals try (repeat' (first | done | rfl | (exfalso; omega) | contradiction | (refine iteR (fun hq => ?_) (fun hq => ?_)))))
    · by_cases hxe : (e : Int) = x
      · have hlt := doneN_lt hk2 (by rw [hc])
        have i1 := gg (ts.set k ⟨(k : Int) + 1, true, n, 0, 1, 0⟩) (e + 1) (by rw [List.length_set]; exact h4) (inv_set ht (by omega) ⟨rfl, .inl rfl⟩) (by rw [doneN_set hk2 (by rw [hc])]; simp; omega) (by omega)
        have hs := step1_ok e ((k : Int) + 1) x n (by omega) (by omega) (by omega) (by omega) hxe
        rw [tk_task, tk_done] at hs
        obtain he3 : e = 0 ∨ e = 1 ∨ e = 2 ∨ e = 3 := by omega
        clear gg ht hd hk3 hlt
        subst hxe
        simp only [rsS, l_law21_PurgeRace_1, arenaD, evD] at i1 hs ⊢
        generalize slotsD = A, stripesD = B, dirD1 = C, dirD2 = D' at *
        rcases he3 with rfl | rfl | rfl | rfl
        all_goals
          simp only [metC, show List.range 6 = [0, 1, 2, 3, 4, 5] from rfl, ints, List.map_cons, List.map_nil, Nat.reduceAdd, Nat.reduceLeDiff, and_self, and_true, true_and, and_false, false_and, if_true, if_false, Int.cast_ofNat_Int, Int.reduceAdd, Int.natCast_zero, Int.natCast_one] at i1 hs ⊢
          simp only [Int.natCast_add, Int.natCast_one, Int.natCast_zero, Int.natCast_mul, Int.cast_ofNat_Int, List.length_append, List.length_map, List.map_nil, List.length_nil, List.map_append, List.map_cons, List.length_cons, Nat.zero_add, srcO, mapSet] at i1
          (try simp -implicitDefEqProofs (maxSteps := 4000000) (disch := omega) only [getDT, go_sem, *]); (try simp only [pA, pB, pC, pD, pE, pF, pG, pH, pI, pJ, pK, pL, pM, pN, pO, pP, if_true, if_false]); repeat' (first | done | rfl | ((first | refine iteC (fun hq => ?_) (fun hq => ?_) | refine iteP (fun hq => ?_) (fun hq => ?_)) <;> (try (first | (exfalso; omega) | contradiction)) <;> (try simp -implicitDefEqProofs (maxSteps := 4000000) (disch := omega) only [getDT, go_sem, *]) <;> (try simp only [pA, pB, pC, pD, pE, pF, pG, pH, pI, pJ, pK, pL, pM, pN, pO, pP, if_true, if_false]))); (all_goals try rfl); (all_goals try (repeat' (first | done | rfl | (exfalso; omega) | contradiction | (refine iteR (fun hq => ?_) (fun hq => ?_)))))
      · have i1 := gg (ts.set k ⟨(k : Int) + 1, false, 0, 0, 0, x⟩) e (by rw [List.length_set]; exact h4) (inv_set ht (Int.le_refl _) ⟨rfl, .inr (.inl ⟨x, rfl⟩)⟩) (by rw [doneN_set hk2 (by rw [hc])]; simpa using hd) he
        have hs := step2_ok e ((k : Int) + 1) x n (by omega) (by omega) (by omega) (by omega) hxe
        rw [tk_task, tk_task] at hs
        clear gg ht hd hk3
        simp only [rsS, l_law21_PurgeRace_1, arenaD] at i1 hs ⊢
        generalize slotsD = A, stripesD = B, dirD1 = C, dirD2 = D' at *
        simp only [Int.natCast_add, Int.natCast_one, Int.natCast_zero, Int.natCast_mul, Int.cast_ofNat_Int, List.length_append, List.length_map, List.map_nil, List.length_nil, List.map_append, List.map_cons, List.length_cons, Nat.zero_add, srcO, mapSet] at i1
        (try simp -implicitDefEqProofs (maxSteps := 4000000) (disch := omega) only [getDT, go_sem, *]); (try simp only [pA, pB, pC, pD, pE, pF, pG, pH, pI, pJ, pK, pL, pM, pN, pO, pP, if_true, if_false]); repeat' (first | done | rfl | ((first | refine iteC (fun hq => ?_) (fun hq => ?_) | refine iteP (fun hq => ?_) (fun hq => ?_)) <;> (try (first | (exfalso; omega) | contradiction)) <;> (try simp -implicitDefEqProofs (maxSteps := 4000000) (disch := omega) only [getDT, go_sem, *]) <;> (try simp only [pA, pB, pC, pD, pE, pF, pG, pH, pI, pJ, pK, pL, pM, pN, pO, pP, if_true, if_false]))); (all_goals try rfl); (all_goals try (repeat' (first | done | rfl | (exfalso; omega) | contradiction | (refine iteR (fun hq => ?_) (fun hq => ?_)))))
  · clear ih
    obtain rfl : n = 61 := by omega
    simp only [rsS, l_law21_PurgeRace_1]
    (try simp -implicitDefEqProofs (maxSteps := 4000000) (disch := omega) only [getDT, go_sem, *]); (try simp only [pA, pB, pC, pD, pE, pF, pG, pH, pI, pJ, pK, pL, pM, pN, pO, pP, if_true, if_false]); repeat' (first | done | rfl | ((first | refine iteC (fun hq => ?_) (fun hq => ?_) | refine iteP (fun hq => ?_) (fun hq => ?_)) <;> (try (first | (exfalso; omega) | contradiction)) <;> (try simp -implicitDefEqProofs (maxSteps := 4000000) (disch := omega) only [getDT, go_sem, *]) <;> (try simp only [pA, pB, pC, pD, pE, pF, pG, pH, pI, pJ, pK, pL, pM, pN, pO, pP, if_true, if_false]))); (all_goals try rfl); (all_goals try (repeat' (first | done | rfl | (exfalso; omega) | contradiction | (refine iteR (fun hq => ?_) (fun hq => ?_)))))
    exact ⟨ts, e, h4, hd, he, rfl⟩
end Go.Proofs.YtjillamaceggeaaGreat

namespace Go.Proofs.YtjillamaceggeaaGreat
open Go Go.Sim
set_option maxRecDepth 100000
theorem awake_c : callF G 60 N_law21_awake [] [] = some (.d (.bool true), []) := by kernel_rfl
end Go.Proofs.YtjillamaceggeaaGreat

namespace Go.Proofs.YtjillamaceggeaaGreat
open Go Go.Sim
set_option linter.unusedSimpArgs false
set_option linter.unusedVariables false
set_option maxHeartbeats 10000000
set_option maxRecDepth 100000
def cnS (ts : List TK) (A M : D) (k : Nat) : St := ⟨[(5, .ref 5 0 0), (6, .ref 6 0 0), (8, .ref 8 0 0), (15, .d (.int .i64 (doneN (ts.take k)))), (16, .d (.int .i64 k))], [(5, .row [.d A]), (6, .row [.d (.agg (arrC ts))]), (8, .row [.d M])]⟩
theorem doneN_take {ts : List TK} {k : Nat} (hk : k < ts.length) : doneN (ts.take (k + 1)) = doneN (ts.take k) + (if ts[k].dn = true then 1 else 0) := by
  rw [List.take_succ_eq_append_getElem hk]
  simp only [doneN, List.filter_append, List.length_append, List.filter_cons, List.filter_nil]
  cases ts[k].dn <;> simp
theorem doneN_le (ts : List TK) (k : Nat) : doneN (ts.take k) ≤ k := Nat.le_trans (List.length_filter_le _ _) (by simp; omega)
theorem cn_loop (ts : List TK) (A M : D) (h4 : ts.length = 4) : ∀ k, k ≤ 4 → loopL G [] l_law21_PurgeRace_2 (cnS ts A M k) = some (.exit 4, ⟨[(5, .ref 5 0 0), (8, .ref 8 0 0), (15, .d (.int .i64 (doneN ts)))], [(5, .row [.d A]), (8, .row [.d M])]⟩) := by
  refine loop_ind (fun k => 4 - k) (fun k => k ≤ 4) (cnS ts A M) _ fun k hk L ih => ?_
  by_cases h0 : k < 4
  · have i1 := ih (k + 1) (by omega) (by omega)
    clear ih
    have hk2 : k < ts.length := by omega
    have hle := doneN_le ts k
    rw [cnS, doneN_take hk2] at i1
    simp only [cnS, l_law21_PurgeRace_2]
    generalize doneN (ts.take k) = w at *
    generalize doneN ts = w2 at *
    cases hd : ts[k].dn
    · simp only [hd, Bool.false_eq_true, if_false, Nat.add_zero] at i1
      simp only [Int.natCast_add, Int.natCast_one, Int.natCast_zero, Int.natCast_mul, Int.cast_ofNat_Int, List.length_append, List.length_map, List.map_nil, List.length_nil, List.map_append, List.map_cons, List.length_cons, Nat.zero_add, srcO, mapSet] at i1
      (try simp -implicitDefEqProofs (maxSteps := 4000000) (disch := omega) only [getDT, go_sem, *]); (try simp only [pA, pB, pC, pD, pE, pF, pG, pH, pI, pJ, pK, pL, pM, pN, pO, pP, if_true, if_false]); repeat' (first | done | rfl | ((first | refine iteC (fun hq => ?_) (fun hq => ?_) | refine iteP (fun hq => ?_) (fun hq => ?_)) <;> (try (first | (exfalso; omega) | contradiction)) <;> (try simp -implicitDefEqProofs (maxSteps := 4000000) (disch := omega) only [getDT, go_sem, *]) <;> (try simp only [pA, pB, pC, pD, pE, pF, pG, pH, pI, pJ, pK, pL, pM, pN, pO, pP, if_true, if_false]))); (all_goals try rfl); (all_goals try (repeat' (first | done | rfl | (exfalso; omega) | contradiction | (refine iteR (fun hq => ?_) (fun hq => ?_)))))
    · simp only [hd, if_true] at i1
      simp only [Int.natCast_add, Int.natCast_one, Int.natCast_zero, Int.natCast_mul, Int.cast_ofNat_Int, List.length_append, List.length_map, List.map_nil, List.length_nil, List.map_append, List.map_cons, List.length_cons, Nat.zero_add, srcO, mapSet] at i1
      (try simp -implicitDefEqProofs (maxSteps := 4000000) (disch := omega) only [getDT, go_sem, *]); (try simp only [pA, pB, pC, pD, pE, pF, pG, pH, pI, pJ, pK, pL, pM, pN, pO, pP, if_true, if_false]); repeat' (first | done | rfl | ((first | refine iteC (fun hq => ?_) (fun hq => ?_) | refine iteP (fun hq => ?_) (fun hq => ?_)) <;> (try (first | (exfalso; omega) | contradiction)) <;> (try simp -implicitDefEqProofs (maxSteps := 4000000) (disch := omega) only [getDT, go_sem, *]) <;> (try simp only [pA, pB, pC, pD, pE, pF, pG, pH, pI, pJ, pK, pL, pM, pN, pO, pP, if_true, if_false]))); (all_goals try rfl); (all_goals try (repeat' (first | done | rfl | (exfalso; omega) | contradiction | (refine iteR (fun hq => ?_) (fun hq => ?_)))))
  · clear ih
    obtain rfl : k = 4 := by omega
    rw [cnS, List.take_of_length_le (by omega)]
    simp only [l_law21_PurgeRace_2]
    (try simp -implicitDefEqProofs (maxSteps := 4000000) (disch := omega) only [getDT, go_sem, *]); (try simp only [pA, pB, pC, pD, pE, pF, pG, pH, pI, pJ, pK, pL, pM, pN, pO, pP, if_true, if_false]); repeat' (first | done | rfl | ((first | refine iteC (fun hq => ?_) (fun hq => ?_) | refine iteP (fun hq => ?_) (fun hq => ?_)) <;> (try (first | (exfalso; omega) | contradiction)) <;> (try simp -implicitDefEqProofs (maxSteps := 4000000) (disch := omega) only [getDT, go_sem, *]) <;> (try simp only [pA, pB, pC, pD, pE, pF, pG, pH, pI, pJ, pK, pL, pM, pN, pO, pP, if_true, if_false]))); (all_goals try rfl); (all_goals try (repeat' (first | done | rfl | (exfalso; omega) | contradiction | (refine iteR (fun hq => ?_) (fun hq => ?_)))))
theorem chk_loop (A : D) (e : Nat) (he : e ≤ 4) : loopL G [] l_law21_PurgeRace_3 ⟨[(5, .ref 5 0 0), (8, .ref 8 0 0), (15, .d (.int .i64 e)), (17, .d (.int .i64 1))], [(5, .row [.d A]), (8, .row [.d (.agg (ints (metC e)))])]⟩ = some (.exit 6, ⟨[(5, .ref 5 0 0), (15, .d (.int .i64 e))], [(5, .row [.d A])]⟩) := by
  obtain he3 : e = 0 ∨ e = 1 ∨ e = 2 ∨ e = 3 ∨ e = 4 := by omega
  rcases he3 with rfl | rfl | rfl | rfl | rfl
  all_goals
    simp only [metC, show List.range 6 = [0, 1, 2, 3, 4, 5] from rfl, ints, List.map_cons, List.map_nil, Nat.reduceLeDiff, and_self, and_true, true_and, and_false, false_and, if_true, if_false, Int.cast_ofNat_Int, Int.natCast_zero, Int.natCast_one]
    (try simp -implicitDefEqProofs (maxSteps := 4000000) (disch := omega) only [loopL_eq, l_law21_PurgeRace_3, getDT, go_sem, *]); (try simp only [pA, pB, pC, pD, pE, pF, pG, pH, pI, pJ, pK, pL, pM, pN, pO, pP, if_true, if_false]); repeat' (first | done | rfl | ((first | refine iteC (fun hq => ?_) (fun hq => ?_) | refine iteP (fun hq => ?_) (fun hq => ?_)) <;> (try (first | (exfalso; omega) | contradiction)) <;> (try simp -implicitDefEqProofs (maxSteps := 4000000) (disch := omega) only [loopL_eq, l_law21_PurgeRace_3, getDT, go_sem, *]) <;> (try simp only [pA, pB, pC, pD, pE, pF, pG, pH, pI, pJ, pK, pL, pM, pN, pO, pP, if_true, if_false]))); (all_goals try rfl); (all_goals try (repeat' (first | done | rfl | (exfalso; omega) | contradiction | (refine iteR (fun hq => ?_) (fun hq => ?_)))))
theorem cl {f : FuncId} {args : List AV} {os : Heap} {p : AV × Heap} (h : callF G 60 f args os = some p) : callL G f args os = some p := callL_iff.2 ⟨60, h⟩
theorem race_ok (l : List Int) (h : l.length ≤ LIM) : callL G N_law21_PurgeRace [.d (.sl (ints l))] [] = some (.d (.bool true), []) := by
  have a1 := cl awake_c
  have a2 := cl two_c
  have a3 := cl loaded_c
  have hn := new_ok l h
  have ht : (l.take 4000).length ≤ 4000 := by simp; omega
  generalize l.take 4000 = t at *
  have b0 := l0_c t
  obtain ⟨ts, e, h4, hd, he, b1⟩ := rs_loop t ht ⟨[⟨1, false, 0, 0, 0, 0⟩, ⟨2, false, 0, 0, 0, 0⟩, ⟨3, false, 0, 0, 0, 0⟩, ⟨4, false, 0, 0, 0, 0⟩], 0, 0, 1⟩ ⟨rfl, fun j hj => by
    match j, hj with
    | 0, _ => exact ⟨rfl, .inr (.inl ⟨0, rfl⟩)⟩
    | 1, _ => exact ⟨rfl, .inr (.inl ⟨0, rfl⟩)⟩
    | 2, _ => exact ⟨rfl, .inr (.inl ⟨0, rfl⟩)⟩
    | 3, _ => exact ⟨rfl, .inr (.inl ⟨0, rfl⟩)⟩
    | j + 4, hj => simp at hj; omega, rfl, by simp, by simp, by simp⟩
  have b2 := cn_loop ts (arenaD e) (.agg (ints (metC e))) h4 0 (by omega)
  have b3 := chk_loop (arenaD e) e he
  subst hd
  have hm : ints (metC 0) = [.int .i64 0, .int .i64 0, .int .i64 0, .int .i64 0, .int .i64 0, .int .i64 0] := rfl
  simp only [rsS, hm, Int.natCast_zero, Int.natCast_one] at b1
  simp only [cnS, List.take_zero, show doneN [] = 0 from rfl, Int.natCast_zero] at b2
  simp only [setD, arenaD] at *
  generalize ints (metC (doneN ts)) = M at *
  generalize doneN ts = w at *
  generalize slotsD = A, stripesD = B, dirD1 = C, dirD2 = D' at *
  simp only [Int.natCast_add, Int.natCast_one, Int.natCast_zero, Int.natCast_mul, Int.cast_ofNat_Int, List.length_append, List.length_map, List.map_nil, List.length_nil, List.map_append, List.map_cons, List.length_cons, Nat.zero_add, srcO, mapSet] at hn b0 b1 b2 b3
  rw [callL_code g_law21_PurgeRace (by simp)]; simp -implicitDefEqProofs (maxSteps := 4000000) (disch := omega) only [c_law21_PurgeRace, r_law21_PurgeRace, getDT, go_sem, *]; (try simp only [pA, pB, pC, pD, pE, pF, pG, pH, pI, pJ, pK, pL, pM, pN, pO, pP, if_true, if_false]); repeat' (first | done | rfl | ((first | refine iteC (fun hq => ?_) (fun hq => ?_) | refine iteP (fun hq => ?_) (fun hq => ?_)) <;> (try (first | (exfalso; omega) | contradiction)) <;> (try simp -implicitDefEqProofs (maxSteps := 4000000) (disch := omega) only [getDT, go_sem, *]) <;> (try simp only [pA, pB, pC, pD, pE, pF, pG, pH, pI, pJ, pK, pL, pM, pN, pO, pP, if_true, if_false]))); (all_goals try rfl); (all_goals try (repeat' (first | done | rfl | (exfalso; omega) | contradiction | (refine iteR (fun hq => ?_) (fun hq => ?_)))))
end Go.Proofs.YtjillamaceggeaaGreat

namespace Go.Proofs.YtjillamaceggeaaGreat
open Go Go.Sim
set_option linter.unusedSimpArgs false
set_option linter.unusedVariables false
set_option maxHeartbeats 10000000
theorem ex_list {α : Type} {f : α → D} {s : Sh} {x : D} (h : Sh.has (.sl s) x) (hs : ∀ e, Sh.has s e → ∃ a, e = f a) : ∃ l : List α, x = .sl (l.map f) ∧ l.length ≤ BIG := by
  cases x <;> simp only [Sh.has] at h
  rename_i es
  obtain ⟨h1, h2⟩ := h
  have : ∃ l : List α, es = l.map f := by
    clear h1
    induction es with
    | nil => exact ⟨[], rfl⟩
    | cons e es ih =>
      obtain ⟨a, rfl⟩ := hs e (h2 e (by simp))
      obtain ⟨l, rfl⟩ := ih fun e he => h2 e (by simp [he])
      exact ⟨a :: l, rfl⟩
  obtain ⟨l, rfl⟩ := this
  exact ⟨l, rfl, by simpa using h1⟩
theorem ex_int {k : IntKind} {x : D} (h : Sh.has (.int k) x) : ∃ n : Int, x = .int k n ∧ k.has n := by
  cases x <;> simp only [Sh.has] at h
  obtain ⟨rfl, h⟩ := h
  exact ⟨_, rfl, h⟩
theorem ex_ints {x : D} (h : Sh.has (.sl (.int .i64)) x) : ∃ l : List Int, x = .sl (ints l) ∧ l.length ≤ BIG := ex_list h fun e he => by obtain ⟨n, rfl, _⟩ := ex_int he; exact ⟨n, rfl⟩
theorem ex_cells {k : IntKind} {s : List Sh} {cs : List D} (h : Sh.hasL (.int k :: s) cs) : ∃ (n : Int) (r : List D), cs = .int k n :: r ∧ k.has n ∧ Sh.hasL s r := by
  simp only [Sh.hasL] at h
  obtain ⟨x, r, h1, rfl, h2⟩ := h
  obtain ⟨n, rfl, hn⟩ := ex_int h1
  exact ⟨n, r, rfl, hn, h2⟩
theorem ex_setup {x : D} (h : Sh.has (.agg [.int .i64, .int .i64, .int .i64, .int .i64, .int .i64, .int .i64, .int .i64, .int .i64]) x) : ∃ s : Setup, x = eSetup s := by
  cases x <;> simp only [Sh.has] at h
  obtain ⟨a1, r1, rfl, _, h⟩ := ex_cells h
  obtain ⟨a2, r2, rfl, _, h⟩ := ex_cells h
  obtain ⟨a3, r3, rfl, _, h⟩ := ex_cells h
  obtain ⟨a4, r4, rfl, _, h⟩ := ex_cells h
  obtain ⟨a5, r5, rfl, _, h⟩ := ex_cells h
  obtain ⟨a6, r6, rfl, _, h⟩ := ex_cells h
  obtain ⟨a7, r7, rfl, _, h⟩ := ex_cells h
  obtain ⟨a8, r8, rfl, _, h⟩ := ex_cells h
  simp only [Sh.hasL] at h
  subst h
  exact ⟨⟨a1, a2, a3, a4, a5, a6, a7, a8⟩, rfl⟩
end Go.Proofs.YtjillamaceggeaaGreat
