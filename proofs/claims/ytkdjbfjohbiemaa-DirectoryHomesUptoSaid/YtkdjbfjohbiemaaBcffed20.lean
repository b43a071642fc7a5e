/-
  Parts of lists, in the forms that walks take.
  Directories of the reference: changes.
  Directories: owners and homes.
  Directories: changes.
  Directories: a change, as the reference has it.
  Valid directories, and what changes leave of them.
  Valid directories stay valid through changes.
  The laws of directories: agreement with the reference.
  Changes that are accepted; the first directory.
  Directories and changes that the reader draws.
-/
import Derived.Test.YtkdjbfjohbiemaaBdb5de4e
import Derived.Test.YtkdjbfjohbiemaaB81d819b
set_option linter.unusedSimpArgs false
set_option linter.unusedVariables false
namespace Go.Sim
theorem takeMapF {α : Type} {f : α → D} {l : List α} {n : Nat} : (l.map f).take n = (l.take n).map f := by rw [List.map_take]
theorem dropMapF {α : Type} {f : α → D} {l : List α} {n : Nat} : (l.map f).drop n = (l.drop n).map f := by rw [List.map_drop]
theorem takeAll {α : Type} {l : List α} {n : Nat} (h : l.length ≤ n) : l.take n = l := List.take_of_length_le h
theorem dropAll {α : Type} {l : List α} {n : Nat} (h : l.length ≤ n) : l.drop n = [] := List.drop_of_length_le h
theorem takeGet {α : Type} {l : List α} {n k : Nat} (h : k < (l.take n).length) : (l.take n)[k]'h = l[k]'(by simp at h; omega) := by simp
theorem dropGet {α : Type} {l : List α} {n k : Nat} (h : k < (l.drop n).length) : (l.drop n)[k]'h = l[n + k]'(by simp at h; omega) := by simp
theorem neNilT {α : Type} {f : α → D} {l : List α} (h : ¬ l.length = 0) : (l.map f = []) = False := by
  apply eq_false
  intro e
  have := congrArg List.length e
  simp at this
  exact h (by rw [this]; rfl)
theorem minLeT {a b c : Nat} (h : min a b ≤ c) : (min a b ≤ c) = True := eq_true h
theorem minEqF {a b c : Nat} (h : ¬ min a b = c) : (min a b = c) = False := eq_false h
theorem addMinLeT {a b c d : Nat} (h : min a b + d ≤ c) : (min a b + d ≤ c) = True := eq_true h
attribute [go_sem] minLeT minEqF addMinLeT Option.toList_none Option.toList_some takeMapF dropMapF takeAll dropAll takeGet dropGet List.length_take List.length_drop neNilT List.map_eq_nil_iff
end Go.Sim

namespace Go.Proofs.Ytkdjbfjohbiemaa
open Go Go.Sim
set_option linter.unusedSimpArgs false
set_option linter.unusedVariables false
set_option maxHeartbeats 10000000
set_option maxRecDepth 40000
theorem tile_in : ∀ (l : List Span) (n m : Int), 0 ≤ n → tileN n l = some m → ∀ x ∈ l, 0 ≤ x.low ∧ x.low ≤ x.high ∧ x.high < 65536
  | [], _, _, _, _, x, hx => by cases hx
  | y :: l, n, m, h0, h, x, hx => by
    rw [tileN] at h
    split at h
    · rename_i hc
      cases hx with
      | head => omega
      | tail _ hx => exact tile_in l _ m (by omega) h x hx
    · cases h
theorem dirV_tile {d : Directory} (h : dirV d = 0) : tileN 0 d.l = some 65536 := by
  unfold dirV at h
  split at h
  · cases h
  split at h
  · cases h
  rename_i hc
  simpa using hc
def splitD (d : Directory) (e : Edit) : Directory × Int :=
  if findS d.l e.from_ < 0 ∨ 0 ≤ findS d.l e.to then (zDirectory, 7)
  else if e.mid < (d.l.getD (findS d.l e.from_).toNat zSpan).low ∨ (d.l.getD (findS d.l e.from_).toNat zSpan).high ≤ e.mid then (zDirectory, 1)
  else (⟨d.version + 1, d.l.take (findS d.l e.from_).toNat ++ [⟨(d.l.getD (findS d.l e.from_).toNat zSpan).low, e.mid, e.from_⟩, ⟨e.mid + 1, (d.l.getD (findS d.l e.from_).toNat zSpan).high, e.to⟩] ++ d.l.drop ((findS d.l e.from_).toNat + 1), d.forward.set e.to.toNat (-1)⟩, 0)
def mergeD (d : Directory) (e : Edit) : Directory × Int :=
  if findS d.l e.from_ < 0 ∨ findS d.l e.to < 0 ∨ (¬ findS d.l e.from_ - findS d.l e.to = 1 ∧ ¬ findS d.l e.to - findS d.l e.from_ = 1) then (zDirectory, 7)
  else (⟨d.version + 1, d.l.take (min (findS d.l e.from_) (findS d.l e.to)).toNat ++ [⟨(d.l.getD (min (findS d.l e.from_) (findS d.l e.to)).toNat zSpan).low, (d.l.getD ((min (findS d.l e.from_) (findS d.l e.to)).toNat + 1) zSpan).high, e.to⟩] ++ d.l.drop ((min (findS d.l e.from_) (findS d.l e.to)).toNat + 2), d.forward.set e.from_.toNat e.to⟩, 0)
def applyD (d : Directory) (e : Edit) : Directory × Int :=
  if dirV d ≠ 0 then (zDirectory, dirV d)
  else if d.version = 1099511627776 then (zDirectory, 6)
  else if ¬ e.kind = 1 ∧ ¬ e.kind = 2 then (zDirectory, 9)
  else if e.from_ < 0 ∨ (d.forward.length : Int) ≤ e.from_ ∨ e.to < 0 ∨ (d.forward.length : Int) ≤ e.to then (zDirectory, 4)
  else if e.kind = 1 then splitD d e else mergeD d e
theorem r10apply_ok (d : Directory) (e : Edit) (hL : d.l.length ≤ 1000000) : callL G N_ref10_Apply [.d (eDirectory d), .d (eEdit e)] [] = some (.d (.tup [eDirectory (applyD d e).1, .int .i64 (applyD d e).2]), []) := by
  have hval := r10val_ok d (by omega)
  have i1 := r10index_ok d e.from_ (by omega)
  have i2 := r10index_ok d e.to (by omega)
  have b1 := idxI_lt d.l (fun x => decide (x.shard = e.from_))
  have b2 := idxI_lt d.l (fun x => decide (x.shard = e.to))
  change -1 ≤ findS d.l e.from_ ∧ findS d.l e.from_ < d.l.length at b1
  change -1 ≤ findS d.l e.to ∧ findS d.l e.to < d.l.length at b2
  unfold applyD
  by_cases c0 : dirV d = 0
  · have hl := dirV_len c0
    rw [c0] at hval
    rw [if_neg (by rw [c0]; simp)]
    have htl := tile_in d.l 0 65536 (by omega) (dirV_tile c0)
    clear c0
    by_cases c1 : d.version = 1099511627776
    · rw [if_pos c1]
      rw [callL_code g_ref10_Apply (by simp)]; simp -implicitDefEqProofs (maxSteps := 4000000) (disch := omega) only [c_ref10_Apply, r_ref10_Apply, getDT, go_sem, *]; (try simp only [pA, pB, pC, pD, pE, pF, pG, pH, pI, pJ, pK, pL, pM, pN, pO, pP, if_true, if_false]); repeat' (first | done | rfl | (refine iteC (fun hq => ?_) (fun hq => ?_) <;> (try (first | (exfalso; omega) | contradiction)) <;> (try simp -implicitDefEqProofs (maxSteps := 4000000) (disch := omega) only [getDT, go_sem, *]) <;> (try simp only [pA, pB, pC, pD, pE, pF, pG, pH, pI, pJ, pK, pL, pM, pN, pO, pP, if_true, if_false]))); (all_goals try rfl); (all_goals try (repeat' (first | done | rfl | (exfalso; omega) | contradiction | (refine iteR (fun hq => ?_) (fun hq => ?_)))))
    rw [if_neg c1]
    by_cases c2 : ¬ e.kind = 1 ∧ ¬ e.kind = 2
    · rw [if_pos c2]
      obtain ⟨c2, c3⟩ := c2
      rw [callL_code g_ref10_Apply (by simp)]; simp -implicitDefEqProofs (maxSteps := 4000000) (disch := omega) only [c_ref10_Apply, r_ref10_Apply, getDT, go_sem, *]; (try simp only [pA, pB, pC, pD, pE, pF, pG, pH, pI, pJ, pK, pL, pM, pN, pO, pP, if_true, if_false]); repeat' (first | done | rfl | (refine iteC (fun hq => ?_) (fun hq => ?_) <;> (try (first | (exfalso; omega) | contradiction)) <;> (try simp -implicitDefEqProofs (maxSteps := 4000000) (disch := omega) only [getDT, go_sem, *]) <;> (try simp only [pA, pB, pC, pD, pE, pF, pG, pH, pI, pJ, pK, pL, pM, pN, pO, pP, if_true, if_false]))); (all_goals try rfl); (all_goals try (repeat' (first | done | rfl | (exfalso; omega) | contradiction | (refine iteR (fun hq => ?_) (fun hq => ?_)))))
    rw [if_neg c2]
    by_cases c3 : e.from_ < 0 ∨ (d.forward.length : Int) ≤ e.from_ ∨ e.to < 0 ∨ (d.forward.length : Int) ≤ e.to
    · rw [if_pos c3]
      have c4 : e.kind = 1 ∨ e.kind = 2 := by omega
      clear c2
      rcases c4 with c4 | c4
      · rw [callL_code g_ref10_Apply (by simp)]; simp -implicitDefEqProofs (maxSteps := 4000000) (disch := omega) only [c_ref10_Apply, r_ref10_Apply, getDT, go_sem, *]; (try simp only [pA, pB, pC, pD, pE, pF, pG, pH, pI, pJ, pK, pL, pM, pN, pO, pP, if_true, if_false]); repeat' (first | done | rfl | (refine iteC (fun hq => ?_) (fun hq => ?_) <;> (try (first | (exfalso; omega) | contradiction)) <;> (try simp -implicitDefEqProofs (maxSteps := 4000000) (disch := omega) only [getDT, go_sem, *]) <;> (try simp only [pA, pB, pC, pD, pE, pF, pG, pH, pI, pJ, pK, pL, pM, pN, pO, pP, if_true, if_false]))); (all_goals try rfl); (all_goals try (repeat' (first | done | rfl | (exfalso; omega) | contradiction | (refine iteR (fun hq => ?_) (fun hq => ?_)))))
      · rw [callL_code g_ref10_Apply (by simp)]; simp -implicitDefEqProofs (maxSteps := 4000000) (disch := omega) only [c_ref10_Apply, r_ref10_Apply, getDT, go_sem, *]; (try simp only [pA, pB, pC, pD, pE, pF, pG, pH, pI, pJ, pK, pL, pM, pN, pO, pP, if_true, if_false]); repeat' (first | done | rfl | (refine iteC (fun hq => ?_) (fun hq => ?_) <;> (try (first | (exfalso; omega) | contradiction)) <;> (try simp -implicitDefEqProofs (maxSteps := 4000000) (disch := omega) only [getDT, go_sem, *]) <;> (try simp only [pA, pB, pC, pD, pE, pF, pG, pH, pI, pJ, pK, pL, pM, pN, pO, pP, if_true, if_false]))); (all_goals try rfl); (all_goals try (repeat' (first | done | rfl | (exfalso; omega) | contradiction | (refine iteR (fun hq => ?_) (fun hq => ?_)))))
    rw [if_neg c3]
    unfold splitD mergeD
    generalize findS d.l e.from_ = i at *
    generalize findS d.l e.to = k at *
    by_cases c4 : e.kind = 1
    · rw [if_pos c4]
      clear c2
      by_cases c5 : i < 0 ∨ 0 ≤ k
      · rw [if_pos c5]
        rw [callL_code g_ref10_Apply (by simp)]; simp -implicitDefEqProofs (maxSteps := 4000000) (disch := omega) only [c_ref10_Apply, r_ref10_Apply, getDT, go_sem, *]; (try simp only [pA, pB, pC, pD, pE, pF, pG, pH, pI, pJ, pK, pL, pM, pN, pO, pP, if_true, if_false]); repeat' (first | done | rfl | (refine iteC (fun hq => ?_) (fun hq => ?_) <;> (try (first | (exfalso; omega) | contradiction)) <;> (try simp -implicitDefEqProofs (maxSteps := 4000000) (disch := omega) only [getDT, go_sem, *]) <;> (try simp only [pA, pB, pC, pD, pE, pF, pG, pH, pI, pJ, pK, pL, pM, pN, pO, pP, if_true, if_false]))); (all_goals try rfl); (all_goals try (repeat' (first | done | rfl | (exfalso; omega) | contradiction | (refine iteR (fun hq => ?_) (fun hq => ?_)))))
      rw [if_neg c5]
      have hlt : i.toNat < d.l.length := by omega
      obtain ⟨iN, hiN⟩ : ∃ n : Nat, i = n := ⟨i.toNat, by omega⟩
      subst hiN
      simp only [Int.toNat_natCast] at hlt ⊢
      rw [getDT hlt]
      by_cases c6 : e.mid < d.l[iN].low ∨ d.l[iN].high ≤ e.mid
      · rw [if_pos c6]
        rw [callL_code g_ref10_Apply (by simp)]; simp -implicitDefEqProofs (maxSteps := 4000000) (disch := omega) only [c_ref10_Apply, r_ref10_Apply, getDT, go_sem, *]; (try simp only [pA, pB, pC, pD, pE, pF, pG, pH, pI, pJ, pK, pL, pM, pN, pO, pP, if_true, if_false]); repeat' (first | done | rfl | (refine iteC (fun hq => ?_) (fun hq => ?_) <;> (try (first | (exfalso; omega) | contradiction)) <;> (try simp -implicitDefEqProofs (maxSteps := 4000000) (disch := omega) only [getDT, go_sem, *]) <;> (try simp only [pA, pB, pC, pD, pE, pF, pG, pH, pI, pJ, pK, pL, pM, pN, pO, pP, if_true, if_false]))); (all_goals try rfl); (all_goals try (repeat' (first | done | rfl | (exfalso; omega) | contradiction | (refine iteR (fun hq => ?_) (fun hq => ?_)))))
      rw [if_neg c6]
      have hti := htl d.l[iN] (List.getElem_mem _)
      clear htl
      by_cases c7 : iN = 0
      · subst c7
        rw [callL_code g_ref10_Apply (by simp)]; simp -implicitDefEqProofs (maxSteps := 4000000) (disch := omega) only [c_ref10_Apply, r_ref10_Apply, getDT, go_sem, *]; (try simp only [pA, pB, pC, pD, pE, pF, pG, pH, pI, pJ, pK, pL, pM, pN, pO, pP, if_true, if_false]); repeat' (first | done | rfl | (refine iteC (fun hq => ?_) (fun hq => ?_) <;> (try (first | (exfalso; omega) | contradiction)) <;> (try simp -implicitDefEqProofs (maxSteps := 4000000) (disch := omega) only [getDT, go_sem, *]) <;> (try simp only [pA, pB, pC, pD, pE, pF, pG, pH, pI, pJ, pK, pL, pM, pN, pO, pP, if_true, if_false]))); (all_goals try rfl); (all_goals try (repeat' (first | done | rfl | (exfalso; omega) | contradiction | (refine iteR (fun hq => ?_) (fun hq => ?_)))))
        all_goals simp only [eDirectory, eSpan, mapSet, List.map_cons, List.map_append, List.map_nil, List.nil_append, List.take_zero, List.cons_append]
      · rw [callL_code g_ref10_Apply (by simp)]; simp -implicitDefEqProofs (maxSteps := 4000000) (disch := omega) only [c_ref10_Apply, r_ref10_Apply, getDT, go_sem, *]; (try simp only [pA, pB, pC, pD, pE, pF, pG, pH, pI, pJ, pK, pL, pM, pN, pO, pP, if_true, if_false]); repeat' (first | done | rfl | (refine iteC (fun hq => ?_) (fun hq => ?_) <;> (try (first | (exfalso; omega) | contradiction)) <;> (try simp -implicitDefEqProofs (maxSteps := 4000000) (disch := omega) only [getDT, go_sem, *]) <;> (try simp only [pA, pB, pC, pD, pE, pF, pG, pH, pI, pJ, pK, pL, pM, pN, pO, pP, if_true, if_false]))); (all_goals try rfl); (all_goals try (repeat' (first | done | rfl | (exfalso; omega) | contradiction | (refine iteR (fun hq => ?_) (fun hq => ?_)))))
        all_goals simp only [eDirectory, eSpan, mapSet, List.map_cons, List.map_append, List.map_nil, List.nil_append, List.take_zero, List.cons_append, List.append_assoc]
    · rw [if_neg c4]
      have hk2 : e.kind = 2 := by omega
      clear c2
      by_cases c5 : i < 0 ∨ k < 0 ∨ ¬ i - k = 1 ∧ ¬ k - i = 1
      · rw [if_pos c5]
        rw [callL_code g_ref10_Apply (by simp)]; simp -implicitDefEqProofs (maxSteps := 4000000) (disch := omega) only [c_ref10_Apply, r_ref10_Apply, getDT, go_sem, *]; (try simp only [pA, pB, pC, pD, pE, pF, pG, pH, pI, pJ, pK, pL, pM, pN, pO, pP, if_true, if_false]); repeat' (first | done | rfl | (refine iteC (fun hq => ?_) (fun hq => ?_) <;> (try (first | (exfalso; omega) | contradiction)) <;> (try simp -implicitDefEqProofs (maxSteps := 4000000) (disch := omega) only [getDT, go_sem, *]) <;> (try simp only [pA, pB, pC, pD, pE, pF, pG, pH, pI, pJ, pK, pL, pM, pN, pO, pP, if_true, if_false]))); (all_goals try rfl); (all_goals try (repeat' (first | done | rfl | (exfalso; omega) | contradiction | (refine iteR (fun hq => ?_) (fun hq => ?_)))))
      rw [if_neg c5]
      obtain ⟨iN, hiN⟩ : ∃ n : Nat, i = n := ⟨i.toNat, by omega⟩
      obtain ⟨kN, hkN⟩ : ∃ n : Nat, k = n := ⟨k.toNat, by omega⟩
      subst hiN hkN
      obtain ⟨f, hf⟩ : ∃ f : Nat, min (iN : Int) (kN : Int) = f := ⟨(min (iN : Int) (kN : Int)).toNat, by omega⟩
      have hlt : f + 1 < d.l.length := by omega
      have hti := htl d.l[f] (List.getElem_mem _)
      have hti2 := htl d.l[f + 1] (List.getElem_mem _)
      clear htl
      rw [hf, Int.toNat_natCast, getDT (show f < d.l.length by omega), getDT hlt]
      have hcase : (iN = f ∧ kN = f + 1) ∨ (iN = f + 1 ∧ kN = f) := by omega
      have e2 : ((f : Int) + 1).toNat = f + 1 := by omega
      have e3 : ((f : Int) + 2).toNat = f + 2 := by omega
      clear hf
      rcases hcase with ⟨q1, q2⟩ | ⟨q1, q2⟩
      · subst q1 q2
        by_cases c7 : iN = 0
        · subst c7
          rw [callL_code g_ref10_Apply (by simp)]; simp -implicitDefEqProofs (maxSteps := 4000000) (disch := omega) only [c_ref10_Apply, r_ref10_Apply, e2, e3, getDT, go_sem, *]; (try simp only [pA, pB, pC, pD, pE, pF, pG, pH, pI, pJ, pK, pL, pM, pN, pO, pP, if_true, if_false]); repeat' (first | done | rfl | (refine iteC (fun hq => ?_) (fun hq => ?_) <;> (try (first | (exfalso; omega) | contradiction)) <;> (try simp -implicitDefEqProofs (maxSteps := 4000000) (disch := omega) only [e2, e3, getDT, go_sem, *]) <;> (try simp only [pA, pB, pC, pD, pE, pF, pG, pH, pI, pJ, pK, pL, pM, pN, pO, pP, if_true, if_false]))); (all_goals try rfl); (all_goals try (repeat' (first | done | rfl | (exfalso; omega) | contradiction | (refine iteR (fun hq => ?_) (fun hq => ?_)))))
          all_goals simp only [eDirectory, eSpan, mapSet, List.map_cons, List.map_append, List.map_nil, List.nil_append, List.take_zero, List.cons_append]
        · rw [callL_code g_ref10_Apply (by simp)]; simp -implicitDefEqProofs (maxSteps := 4000000) (disch := omega) only [c_ref10_Apply, r_ref10_Apply, e2, e3, getDT, go_sem, *]; (try simp only [pA, pB, pC, pD, pE, pF, pG, pH, pI, pJ, pK, pL, pM, pN, pO, pP, if_true, if_false]); repeat' (first | done | rfl | (refine iteC (fun hq => ?_) (fun hq => ?_) <;> (try (first | (exfalso; omega) | contradiction)) <;> (try simp -implicitDefEqProofs (maxSteps := 4000000) (disch := omega) only [e2, e3, getDT, go_sem, *]) <;> (try simp only [pA, pB, pC, pD, pE, pF, pG, pH, pI, pJ, pK, pL, pM, pN, pO, pP, if_true, if_false]))); (all_goals try rfl); (all_goals try (repeat' (first | done | rfl | (exfalso; omega) | contradiction | (refine iteR (fun hq => ?_) (fun hq => ?_)))))
          all_goals simp only [eDirectory, eSpan, mapSet, List.map_cons, List.map_append, List.map_nil, List.nil_append, List.take_zero, List.cons_append, List.append_assoc]
      · subst q1 q2
        by_cases c7 : kN = 0
        · subst c7
          rw [callL_code g_ref10_Apply (by simp)]; simp -implicitDefEqProofs (maxSteps := 4000000) (disch := omega) only [c_ref10_Apply, r_ref10_Apply, e2, e3, getDT, go_sem, *]; (try simp only [pA, pB, pC, pD, pE, pF, pG, pH, pI, pJ, pK, pL, pM, pN, pO, pP, if_true, if_false]); repeat' (first | done | rfl | (refine iteC (fun hq => ?_) (fun hq => ?_) <;> (try (first | (exfalso; omega) | contradiction)) <;> (try simp -implicitDefEqProofs (maxSteps := 4000000) (disch := omega) only [e2, e3, getDT, go_sem, *]) <;> (try simp only [pA, pB, pC, pD, pE, pF, pG, pH, pI, pJ, pK, pL, pM, pN, pO, pP, if_true, if_false]))); (all_goals try rfl); (all_goals try (repeat' (first | done | rfl | (exfalso; omega) | contradiction | (refine iteR (fun hq => ?_) (fun hq => ?_)))))
          all_goals simp only [eDirectory, eSpan, mapSet, List.map_cons, List.map_append, List.map_nil, List.nil_append, List.take_zero, List.cons_append]
        · rw [callL_code g_ref10_Apply (by simp)]; simp -implicitDefEqProofs (maxSteps := 4000000) (disch := omega) only [c_ref10_Apply, r_ref10_Apply, e2, e3, getDT, go_sem, *]; (try simp only [pA, pB, pC, pD, pE, pF, pG, pH, pI, pJ, pK, pL, pM, pN, pO, pP, if_true, if_false]); repeat' (first | done | rfl | (refine iteC (fun hq => ?_) (fun hq => ?_) <;> (try (first | (exfalso; omega) | contradiction)) <;> (try simp -implicitDefEqProofs (maxSteps := 4000000) (disch := omega) only [e2, e3, getDT, go_sem, *]) <;> (try simp only [pA, pB, pC, pD, pE, pF, pG, pH, pI, pJ, pK, pL, pM, pN, pO, pP, if_true, if_false]))); (all_goals try rfl); (all_goals try (repeat' (first | done | rfl | (exfalso; omega) | contradiction | (refine iteR (fun hq => ?_) (fun hq => ?_)))))
          all_goals simp only [eDirectory, eSpan, mapSet, List.map_cons, List.map_append, List.map_nil, List.nil_append, List.take_zero, List.cons_append, List.append_assoc]
  · rw [if_pos c0]
    rw [callL_code g_ref10_Apply (by simp)]; simp -implicitDefEqProofs (maxSteps := 4000000) (disch := omega) only [c_ref10_Apply, r_ref10_Apply, getDT, go_sem, *]; (try simp only [pA, pB, pC, pD, pE, pF, pG, pH, pI, pJ, pK, pL, pM, pN, pO, pP, if_true, if_false]); repeat' (first | done | rfl | (refine iteC (fun hq => ?_) (fun hq => ?_) <;> (try (first | (exfalso; omega) | contradiction)) <;> (try simp -implicitDefEqProofs (maxSteps := 4000000) (disch := omega) only [getDT, go_sem, *]) <;> (try simp only [pA, pB, pC, pD, pE, pF, pG, pH, pI, pJ, pK, pL, pM, pN, pO, pP, if_true, if_false]))); (all_goals try rfl); (all_goals try (repeat' (first | done | rfl | (exfalso; omega) | contradiction | (refine iteR (fun hq => ?_) (fun hq => ?_)))))
end Go.Proofs.Ytkdjbfjohbiemaa

namespace Go.Proofs.Ytkdjbfjohbiemaa
open Go Go.Sim
set_option linter.unusedSimpArgs false
set_option linter.unusedVariables false
set_option maxHeartbeats 10000000
set_option maxRecDepth 40000
theorem downer_ok (d : Directory) (r : Int) (hL : d.l.length ≤ 4294967296) (hF : d.forward.length ≤ 4294967296) : callL G N_directory_Owner [.d (eDirectory d), .d (.int .i64 r)] [] = some (.d (.int .i64 (ownerD d r)), []) := by
  have hval := dValidate_ok d hL hF
  unfold ownerD
  by_cases c : dirV d = 0
  · have hl := loop_find (G := G) (x := l_directory_Owner_0) (ks := []) d.l.length (atB d.l (inS r)) (fun k => ⟨[(1, .d (.int .i64 r)), (11, .d (.sl (d.l.map eSpan))), (12, .d (.int .i64 d.l.length)), (13, .d (.int .i64 k))], []⟩) (fun k => (.ret, ⟨[(4, .d (.int .i64 (d.l.getD k zSpan).shard))], []⟩)) (.exit 0, ⟨[], []⟩) (fun k hk L => by
      simp only [l_directory_Owner_0]
      by_cases h0 : k < d.l.length
      · simp only [h0, if_true, atB_at h0]
        unfold inS
        clear hval c
        (try simp -implicitDefEqProofs (maxSteps := 4000000) (disch := omega) only [getDT, go_sem, *]); (try simp only [pA, pB, pC, pD, pE, pF, pG, pH, pI, pJ, pK, pL, pM, pN, pO, pP, if_true, if_false]); repeat' (first | done | rfl | (refine iteC (fun hq => ?_) (fun hq => ?_) <;> (try (first | (exfalso; omega) | contradiction)) <;> (try simp -implicitDefEqProofs (maxSteps := 4000000) (disch := omega) only [getDT, go_sem, *]) <;> (try simp only [pA, pB, pC, pD, pE, pF, pG, pH, pI, pJ, pK, pL, pM, pN, pO, pP, if_true, if_false]))); (all_goals try rfl); (all_goals try (repeat' (first | done | rfl | (exfalso; omega) | contradiction | (refine iteR (fun hq => ?_) (fun hq => ?_)))))
      · clear hval c
        (try simp -implicitDefEqProofs (maxSteps := 4000000) (disch := omega) only [getDT, go_sem, *]); (try simp only [pA, pB, pC, pD, pE, pF, pG, pH, pI, pJ, pK, pL, pM, pN, pO, pP, if_true, if_false]); repeat' (first | done | rfl | (refine iteC (fun hq => ?_) (fun hq => ?_) <;> (try (first | (exfalso; omega) | contradiction)) <;> (try simp -implicitDefEqProofs (maxSteps := 4000000) (disch := omega) only [getDT, go_sem, *]) <;> (try simp only [pA, pB, pC, pD, pE, pF, pG, pH, pI, pJ, pK, pL, pM, pN, pO, pP, if_true, if_false]))); (all_goals try rfl); (all_goals try (repeat' (first | done | rfl | (exfalso; omega) | contradiction | (refine iteR (fun hq => ?_) (fun hq => ?_))))))
    rw [findR_idx] at hl
    rw [c] at hval
    rw [if_pos c]
    simp only [Int.natCast_add, Int.natCast_one, Int.natCast_zero, Int.natCast_mul, Int.cast_ofNat_Int, List.length_append, List.length_map, List.map_nil, List.length_nil, List.map_append, List.map_cons, List.length_cons, Nat.zero_add, srcO, mapSet] at hl
    cases h : d.l.findIdx? (inS r) with
    | none => rw [h] at hl; clear h c; rw [callL_code g_directory_Owner (by simp)]; simp -implicitDefEqProofs (maxSteps := 4000000) (disch := omega) only [c_directory_Owner, r_directory_Owner, getDT, go_sem, *]; (try simp only [pA, pB, pC, pD, pE, pF, pG, pH, pI, pJ, pK, pL, pM, pN, pO, pP, if_true, if_false]); repeat' (first | done | rfl | (refine iteC (fun hq => ?_) (fun hq => ?_) <;> (try (first | (exfalso; omega) | contradiction)) <;> (try simp -implicitDefEqProofs (maxSteps := 4000000) (disch := omega) only [getDT, go_sem, *]) <;> (try simp only [pA, pB, pC, pD, pE, pF, pG, pH, pI, pJ, pK, pL, pM, pN, pO, pP, if_true, if_false]))); (all_goals try rfl); (all_goals try (repeat' (first | done | rfl | (exfalso; omega) | contradiction | (refine iteR (fun hq => ?_) (fun hq => ?_)))))
    | some i => rw [h] at hl; clear h c; rw [callL_code g_directory_Owner (by simp)]; simp -implicitDefEqProofs (maxSteps := 4000000) (disch := omega) only [c_directory_Owner, r_directory_Owner, getDT, go_sem, *]; (try simp only [pA, pB, pC, pD, pE, pF, pG, pH, pI, pJ, pK, pL, pM, pN, pO, pP, if_true, if_false]); repeat' (first | done | rfl | (refine iteC (fun hq => ?_) (fun hq => ?_) <;> (try (first | (exfalso; omega) | contradiction)) <;> (try simp -implicitDefEqProofs (maxSteps := 4000000) (disch := omega) only [getDT, go_sem, *]) <;> (try simp only [pA, pB, pC, pD, pE, pF, pG, pH, pI, pJ, pK, pL, pM, pN, pO, pP, if_true, if_false]))); (all_goals try rfl); (all_goals try (repeat' (first | done | rfl | (exfalso; omega) | contradiction | (refine iteR (fun hq => ?_) (fun hq => ?_)))))
  · rw [if_neg c]
    rw [callL_code g_directory_Owner (by simp)]; simp -implicitDefEqProofs (maxSteps := 4000000) (disch := omega) only [c_directory_Owner, r_directory_Owner, getDT, go_sem, *]; (try simp only [pA, pB, pC, pD, pE, pF, pG, pH, pI, pJ, pK, pL, pM, pN, pO, pP, if_true, if_false]); repeat' (first | done | rfl | (refine iteC (fun hq => ?_) (fun hq => ?_) <;> (try (first | (exfalso; omega) | contradiction)) <;> (try simp -implicitDefEqProofs (maxSteps := 4000000) (disch := omega) only [getDT, go_sem, *]) <;> (try simp only [pA, pB, pC, pD, pE, pF, pG, pH, pI, pJ, pK, pL, pM, pN, pO, pP, if_true, if_false]))); (all_goals try rfl); (all_goals try (repeat' (first | done | rfl | (exfalso; omega) | contradiction | (refine iteR (fun hq => ?_) (fun hq => ?_)))))
theorem dhome_loop (d : Directory) (hL : d.l.length ≤ 4294967296) (hv : ∀ a ∈ d.forward, -1 ≤ a ∧ a < d.forward.length) (hF : d.forward.length ≤ 6) : ∀ p : Nat × Int, chase d.forward p.1 p.2 < 0 ∧ -1 ≤ p.2 ∧ p.2 < d.forward.length → loopL G [18] l_directory_Home_0 ⟨[(1, .d (.int .i64 p.2)), (2, .ref 2 0 0)], [rD d 2]⟩ = some (.exit 0, ⟨[(1, .d (.int .i64 (homeF d p.1 p.2)))], []⟩) := by
  refine loop_ind (fun p : Nat × Int => p.1) _ (fun p : Nat × Int => ⟨[(1, .d (.int .i64 p.2)), (2, .ref 2 0 0)], [rD d 2]⟩) _ fun ⟨m, a⟩ ⟨hc, h1, h2⟩ L ih => ?_
  simp only [rD] at ih hc h1 h2 ⊢
  simp only [l_directory_Home_0]
  have hi := dfind_ok d.l a hL
  by_cases c : 0 ≤ a ∧ findS d.l a < 0
  · obtain ⟨c1, c2⟩ := c
    rcases m with _ | m
    · simp only [chase] at hc; omega
    have hlt : a.toNat < d.forward.length := by omega
    have hm := hv (d.forward[a.toNat]) (List.getElem_mem _)
    rw [chase, if_pos c1, getDT hlt] at hc
    have i1 := ih (m, d.forward[a.toNat]) ⟨hc, hm.1, hm.2⟩ (by simp only; omega)
    rw [homeF, if_pos ⟨c1, c2⟩, getDT hlt]
    simp only at i1
    generalize homeF d m d.forward[a.toNat] = z at *
    clear ih hv hc
    (try simp -implicitDefEqProofs (maxSteps := 4000000) (disch := omega) only [getDT, go_sem, *]); (try simp only [pA, pB, pC, pD, pE, pF, pG, pH, pI, pJ, pK, pL, pM, pN, pO, pP, if_true, if_false]); repeat' (first | done | rfl | (refine iteC (fun hq => ?_) (fun hq => ?_) <;> (try (first | (exfalso; omega) | contradiction)) <;> (try simp -implicitDefEqProofs (maxSteps := 4000000) (disch := omega) only [getDT, go_sem, *]) <;> (try simp only [pA, pB, pC, pD, pE, pF, pG, pH, pI, pJ, pK, pL, pM, pN, pO, pP, if_true, if_false]))); (all_goals try rfl); (all_goals try (repeat' (first | done | rfl | (exfalso; omega) | contradiction | (refine iteR (fun hq => ?_) (fun hq => ?_)))))
  · have e : homeF d m a = a := by
      rcases m with _ | m
      · rfl
      · rw [homeF, if_neg c]
    rw [e]
    clear ih hv hc e
    by_cases c1 : 0 ≤ a
    · have c2 : ¬ findS d.l a < 0 := fun h => c ⟨c1, h⟩
      clear c
      (try simp -implicitDefEqProofs (maxSteps := 4000000) (disch := omega) only [getDT, go_sem, *]); (try simp only [pA, pB, pC, pD, pE, pF, pG, pH, pI, pJ, pK, pL, pM, pN, pO, pP, if_true, if_false]); repeat' (first | done | rfl | (refine iteC (fun hq => ?_) (fun hq => ?_) <;> (try (first | (exfalso; omega) | contradiction)) <;> (try simp -implicitDefEqProofs (maxSteps := 4000000) (disch := omega) only [getDT, go_sem, *]) <;> (try simp only [pA, pB, pC, pD, pE, pF, pG, pH, pI, pJ, pK, pL, pM, pN, pO, pP, if_true, if_false]))); (all_goals try rfl); (all_goals try (repeat' (first | done | rfl | (exfalso; omega) | contradiction | (refine iteR (fun hq => ?_) (fun hq => ?_)))))
    · clear c
      (try simp -implicitDefEqProofs (maxSteps := 4000000) (disch := omega) only [getDT, go_sem, *]); (try simp only [pA, pB, pC, pD, pE, pF, pG, pH, pI, pJ, pK, pL, pM, pN, pO, pP, if_true, if_false]); repeat' (first | done | rfl | (refine iteC (fun hq => ?_) (fun hq => ?_) <;> (try (first | (exfalso; omega) | contradiction)) <;> (try simp -implicitDefEqProofs (maxSteps := 4000000) (disch := omega) only [getDT, go_sem, *]) <;> (try simp only [pA, pB, pC, pD, pE, pF, pG, pH, pI, pJ, pK, pL, pM, pN, pO, pP, if_true, if_false]))); (all_goals try rfl); (all_goals try (repeat' (first | done | rfl | (exfalso; omega) | contradiction | (refine iteR (fun hq => ?_) (fun hq => ?_)))))
theorem dhome_ok (d : Directory) (a : Int) (hL : d.l.length ≤ 4294967296) (hF : d.forward.length ≤ 4294967296) : callL G N_directory_Home [.d (eDirectory d), .d (.int .i64 a)] [] = some (.d (.int .i64 (homeD d a)), []) := by
  have hval := dValidate_ok d hL hF
  unfold homeD
  by_cases c0 : dirV d = 0
  · have hl := dirV_len c0
    have hv := fwd_in c0 ⟨hl.2.1, hL⟩
    rw [c0] at hval
    by_cases c : a < 0 ∨ (d.forward.length : Int) ≤ a
    · rw [if_pos (.inr c)]
      clear hv c0
      rw [callL_code g_directory_Home (by simp)]; simp -implicitDefEqProofs (maxSteps := 4000000) (disch := omega) only [c_directory_Home, r_directory_Home, getDT, go_sem, *]; (try simp only [pA, pB, pC, pD, pE, pF, pG, pH, pI, pJ, pK, pL, pM, pN, pO, pP, if_true, if_false]); repeat' (first | done | rfl | (refine iteC (fun hq => ?_) (fun hq => ?_) <;> (try (first | (exfalso; omega) | contradiction)) <;> (try simp -implicitDefEqProofs (maxSteps := 4000000) (disch := omega) only [getDT, go_sem, *]) <;> (try simp only [pA, pB, pC, pD, pE, pF, pG, pH, pI, pJ, pK, pL, pM, pN, pO, pP, if_true, if_false]))); (all_goals try rfl); (all_goals try (repeat' (first | done | rfl | (exfalso; omega) | contradiction | (refine iteR (fun hq => ?_) (fun hq => ?_)))))
    · rw [if_neg (by rw [c0]; simp; omega)]
      have hc := hv.2 a.toNat (by omega)
      rw [show ((a.toNat : Nat) : Int) = a by omega] at hc
      have hlp := dhome_loop d hL hv.1 hl.2.1 (d.forward.length, a) ⟨hc, by simp only; omega, by simp only; omega⟩
      simp only [rD] at hlp
      clear hv c0 hc
      rw [callL_code g_directory_Home (by simp)]; simp -implicitDefEqProofs (maxSteps := 4000000) (disch := omega) only [c_directory_Home, r_directory_Home, getDT, go_sem, *]; (try simp only [pA, pB, pC, pD, pE, pF, pG, pH, pI, pJ, pK, pL, pM, pN, pO, pP, if_true, if_false]); repeat' (first | done | rfl | (refine iteC (fun hq => ?_) (fun hq => ?_) <;> (try (first | (exfalso; omega) | contradiction)) <;> (try simp -implicitDefEqProofs (maxSteps := 4000000) (disch := omega) only [getDT, go_sem, *]) <;> (try simp only [pA, pB, pC, pD, pE, pF, pG, pH, pI, pJ, pK, pL, pM, pN, pO, pP, if_true, if_false]))); (all_goals try rfl); (all_goals try (repeat' (first | done | rfl | (exfalso; omega) | contradiction | (refine iteR (fun hq => ?_) (fun hq => ?_)))))
  · rw [if_pos (.inl c0)]
    rw [callL_code g_directory_Home (by simp)]; simp -implicitDefEqProofs (maxSteps := 4000000) (disch := omega) only [c_directory_Home, r_directory_Home, getDT, go_sem, *]; (try simp only [pA, pB, pC, pD, pE, pF, pG, pH, pI, pJ, pK, pL, pM, pN, pO, pP, if_true, if_false]); repeat' (first | done | rfl | (refine iteC (fun hq => ?_) (fun hq => ?_) <;> (try (first | (exfalso; omega) | contradiction)) <;> (try simp -implicitDefEqProofs (maxSteps := 4000000) (disch := omega) only [getDT, go_sem, *]) <;> (try simp only [pA, pB, pC, pD, pE, pF, pG, pH, pI, pJ, pK, pL, pM, pN, pO, pP, if_true, if_false]))); (all_goals try rfl); (all_goals try (repeat' (first | done | rfl | (exfalso; omega) | contradiction | (refine iteR (fun hq => ?_) (fun hq => ?_)))))
end Go.Proofs.Ytkdjbfjohbiemaa

namespace Go.Proofs.Ytkdjbfjohbiemaa
open Go Go.Sim
set_option linter.unusedSimpArgs false
set_option linter.unusedVariables false
set_option maxHeartbeats 10000000
set_option maxRecDepth 40000
theorem clone_api_Span (es : List D) (hs : allSize 3 es = true) (hL : es.length ≤ 4294967296) : callL G N_slices_Clone_api_Span [.d (.sl es)] [] = some (.acc 0 es, [(0, .acc es.length)]) := by
  cases es with
  | nil =>
    refine callL_nils0 g_slices_Clone_api_Span (by decide) ?_ ?_
    · simp -implicitDefEqProofs only [c_slices_Clone_api_Span, r_slices_Clone_api_Span, go_sem]
    · simp -implicitDefEqProofs only [c_slices_Clone_api_Span, r_slices_Clone_api_Span, Nat.zero_le, go_sem]
  | cons e es =>
    rw [callL_nils g_slices_Clone_api_Span (by simp) (by decide)]
    simp only [allSize_cons] at hs
    simp only [List.length_cons] at hL
    simp -implicitDefEqProofs (maxSteps := 4000000) (disch := omega) only [c_slices_Clone_api_Span, r_slices_Clone_api_Span, go_sem, *]
theorem clone_int (es : List D) (hs : allSize 1 es = true) (hL : es.length ≤ 4294967296) : callL G N_slices_Clone_int [.d (.sl es)] [] = some (.acc 0 es, [(0, .acc es.length)]) := by
  cases es with
  | nil =>
    refine callL_nils0 g_slices_Clone_int (by decide) ?_ ?_
    · simp -implicitDefEqProofs only [c_slices_Clone_int, r_slices_Clone_int, go_sem]
    · simp -implicitDefEqProofs only [c_slices_Clone_int, r_slices_Clone_int, Nat.zero_le, go_sem]
  | cons e es =>
    rw [callL_nils g_slices_Clone_int (by simp) (by decide)]
    simp only [allSize_cons] at hs
    simp only [List.length_cons] at hL
    simp -implicitDefEqProofs (maxSteps := 4000000) (disch := omega) only [c_slices_Clone_int, r_slices_Clone_int, go_sem, *]
def wD (v : Int) (L F : Nat) : AV := .agg [.d (.int .i64 v), .osl 1000000 0 L, .osl 1000001 0 F]
def wH (l : List Span) (f : List Int) : Heap := [(1000000, .row ((l.map eSpan).map .d)), (1000001, .row ((ints f).map .d))]
def zDW (n : Int) : AV := .tup [.agg [.d (.int .i64 0), .xsl [], .xsl []], .d (.int .i64 n)]
theorem dsplit_state (v : Int) (l : List Span) (f : List Int) (e : Edit) (hL : l.length ≤ 1000000) (hF : f.length ≤ 6) (hc : findS l e.from_ < 0 ∨ 0 ≤ findS l e.to) :
    callL G N_directory_split [wD v l.length f.length, .d (eEdit e)] (wH l f) = some (zDW 7, wH l f) := by
  have i1 := dfind_ok l e.from_ (by omega)
  have i2 := dfind_ok l e.to (by omega)
  unfold wD wH zDW
  rw [callL_code g_directory_split (by simp)]; simp -implicitDefEqProofs (maxSteps := 4000000) (disch := omega) only [c_directory_split, r_directory_split, getDT, go_sem, *]; (try simp only [pA, pB, pC, pD, pE, pF, pG, pH, pI, pJ, pK, pL, pM, pN, pO, pP, if_true, if_false]); repeat' (first | done | rfl | (refine iteC (fun hq => ?_) (fun hq => ?_) <;> (try (first | (exfalso; omega) | contradiction)) <;> (try simp -implicitDefEqProofs (maxSteps := 4000000) (disch := omega) only [getDT, go_sem, *]) <;> (try simp only [pA, pB, pC, pD, pE, pF, pG, pH, pI, pJ, pK, pL, pM, pN, pO, pP, if_true, if_false]))); (all_goals try rfl); (all_goals try (repeat' (first | done | rfl | (exfalso; omega) | contradiction | (refine iteR (fun hq => ?_) (fun hq => ?_)))))
theorem dsplit_range (v : Int) (l : List Span) (f : List Int) (e : Edit) (hL : l.length ≤ 1000000) (hF : f.length ≤ 6) (i : Nat) (hi : i < l.length) (hc : findS l e.from_ = i ∧ findS l e.to < 0) (hm : e.mid < l[i].low ∨ l[i].high ≤ e.mid) :
    callL G N_directory_split [wD v l.length f.length, .d (eEdit e)] (wH l f) = some (zDW 1, wH l f) := by
  have i1 := dfind_ok l e.from_ (by omega)
  have i2 := dfind_ok l e.to (by omega)
  obtain ⟨h1, h2⟩ := hc
  rw [h1] at i1
  clear h1
  unfold wD wH zDW
  rw [callL_code g_directory_split (by simp)]; simp -implicitDefEqProofs (maxSteps := 4000000) (disch := omega) only [c_directory_split, r_directory_split, getDT, go_sem, *]; (try simp only [pA, pB, pC, pD, pE, pF, pG, pH, pI, pJ, pK, pL, pM, pN, pO, pP, if_true, if_false]); repeat' (first | done | rfl | (refine iteC (fun hq => ?_) (fun hq => ?_) <;> (try (first | (exfalso; omega) | contradiction)) <;> (try simp -implicitDefEqProofs (maxSteps := 4000000) (disch := omega) only [getDT, go_sem, *]) <;> (try simp only [pA, pB, pC, pD, pE, pF, pG, pH, pI, pJ, pK, pL, pM, pN, pO, pP, if_true, if_false]))); (all_goals try rfl); (all_goals try (repeat' (first | done | rfl | (exfalso; omega) | contradiction | (refine iteR (fun hq => ?_) (fun hq => ?_)))))
theorem set_parts {α : Type} {xs : List α} {i : Nat} (a : α) (h : i < xs.length) : (xs.set i a).take (i + 1) = xs.take i ++ [a] ∧ (xs.set i a).drop (i + 1) = xs.drop (i + 1) := by
  constructor
  · rw [List.take_set, List.take_add_one, List.getElem?_eq_getElem h, List.set_append_right _ _ (by rw [List.length_take]; omega), List.length_take, Nat.min_eq_left (by omega), Nat.sub_self]; rfl
  · rw [List.drop_set, if_pos (by omega)]
theorem dsplit_ok (v : Int) (l q : List Span) (f : List Int) (e : Edit) (hL : l.length ≤ 1000000) (hF : f.length ≤ 6) (i t : Nat) (hi : i < l.length) (ht : t < f.length) (hc : findS l e.from_ = i ∧ findS l e.to < 0) (het : e.to = t) (hm : l[i].low ≤ e.mid ∧ e.mid < l[i].high) (hr : 0 ≤ l[i].low ∧ l[i].high < 65536)
    (hq : q = l.take i ++ [⟨l[i].low, e.mid, l[i].shard⟩, ⟨e.mid + 1, l[i].high, e.to⟩] ++ l.drop (i + 1)) :
    callL G N_directory_split [wD v l.length f.length, .d (eEdit e)] (wH l f) = some (.tup [.agg [.d (.int .i64 v), .d (.sl (q.map eSpan)), .osl 1000001 0 f.length], .d (.int .i64 0)],
      [(1000000, .frz none), (1000001, .row ((ints (f.set t (-1))).map .d))]) := by
  have i1 := dfind_ok l e.from_ (by omega)
  have i2 := dfind_ok l e.to (by omega)
  obtain ⟨h1, h2⟩ := hc
  have hins := ins_call (G := G) g_slices_Insert_api_Span ((l.map eSpan).set i (.agg [.int .i64 l[i].low, .int .i64 e.mid, .int .i64 l[i].shard])) (.agg [.int .i64 (e.mid + 1), .int .i64 l[i].high, .int .i64 t]) (i + 1) (by intro h; have := congrArg List.length h; rw [List.length_set, List.length_map, List.length_nil] at this; omega) (by simp; omega) (by
    intro x hx
    rcases List.mem_cons.1 hx with rfl | hx
    · rfl
    · rcases List.mem_or_eq_of_mem_set hx with hx | rfl
      · obtain ⟨y, _, rfl⟩ := List.mem_map.1 hx; rfl
      · rfl) (by simp; omega)
  have hp := set_parts (xs := l.map eSpan) (i := i) (.agg [.int .i64 l[i].low, .int .i64 e.mid, .int .i64 l[i].shard]) (by simp; omega)
  have hl : (l.map eSpan).take i ++ [D.agg [.int .i64 l[i].low, .int .i64 e.mid, .int .i64 l[i].shard]] ++ [.agg [.int .i64 (e.mid + 1), .int .i64 l[i].high, .int .i64 t]] ++ (l.map eSpan).drop (i + 1) = q.map eSpan := by
    rw [hq, het]
    simp [eSpan, List.map_take, List.map_drop]
  rw [hp.1, hp.2, hl, List.length_set, List.length_map] at hins
  clear hp hl hq
  rw [h1] at i1
  clear h1
  rw [het] at i2 h2
  unfold wD wH
  simp only [Int.natCast_add, Int.natCast_one, Int.natCast_zero, Int.natCast_mul, Int.cast_ofNat_Int, List.length_append, List.length_map, List.map_nil, List.length_nil, List.map_append, List.map_cons, List.length_cons, Nat.zero_add, srcO, mapSet] at hins
  rw [callL_code g_directory_split (by simp)]; simp -implicitDefEqProofs (maxSteps := 4000000) (disch := omega) only [c_directory_split, r_directory_split, getDT, go_sem, *]; (try simp only [pA, pB, pC, pD, pE, pF, pG, pH, pI, pJ, pK, pL, pM, pN, pO, pP, if_true, if_false]); repeat' (first | done | rfl | (refine iteC (fun hq => ?_) (fun hq => ?_) <;> (try (first | (exfalso; omega) | contradiction)) <;> (try simp -implicitDefEqProofs (maxSteps := 4000000) (disch := omega) only [getDT, go_sem, *]) <;> (try simp only [pA, pB, pC, pD, pE, pF, pG, pH, pI, pJ, pK, pL, pM, pN, pO, pP, if_true, if_false]))); (all_goals try rfl); (all_goals try (repeat' (first | done | rfl | (exfalso; omega) | contradiction | (refine iteR (fun hq => ?_) (fun hq => ?_)))))
theorem dmerge_state (v : Int) (l : List Span) (f : List Int) (e : Edit) (hL : l.length ≤ 1000000) (hF : f.length ≤ 6) (hc : findS l e.from_ < 0 ∨ findS l e.to < 0 ∨ ¬ findS l e.from_ - findS l e.to = 1 ∧ ¬ findS l e.to - findS l e.from_ = 1) :
    callL G N_directory_merge [wD v l.length f.length, .d (eEdit e)] (wH l f) = some (zDW 7, wH l f) := by
  have i1 := dfind_ok l e.from_ (by omega)
  have i2 := dfind_ok l e.to (by omega)
  have b1 := idxI_lt l (fun x => decide (x.shard = e.from_))
  have b2 := idxI_lt l (fun x => decide (x.shard = e.to))
  change -1 ≤ findS l e.from_ ∧ findS l e.from_ < l.length at b1
  change -1 ≤ findS l e.to ∧ findS l e.to < l.length at b2
  generalize findS l e.from_ = i at *
  generalize findS l e.to = k at *
  unfold wD wH zDW
  rw [callL_code g_directory_merge (by simp)]; simp -implicitDefEqProofs (maxSteps := 4000000) (disch := omega) only [c_directory_merge, r_directory_merge, getDT, go_sem, *]; (try simp only [pA, pB, pC, pD, pE, pF, pG, pH, pI, pJ, pK, pL, pM, pN, pO, pP, if_true, if_false]); repeat' (first | done | rfl | (refine iteC (fun hq => ?_) (fun hq => ?_) <;> (try (first | (exfalso; omega) | contradiction)) <;> (try simp -implicitDefEqProofs (maxSteps := 4000000) (disch := omega) only [getDT, go_sem, *]) <;> (try simp only [pA, pB, pC, pD, pE, pF, pG, pH, pI, pJ, pK, pL, pM, pN, pO, pP, if_true, if_false]))); (all_goals try rfl); (all_goals try (repeat' (first | done | rfl | (exfalso; omega) | contradiction | (refine iteR (fun hq => ?_) (fun hq => ?_)))))
theorem dmerge_ok (v : Int) (l q : List Span) (f : List Int) (e : Edit) (hL : l.length ≤ 1000000) (hF : f.length ≤ 6) (i k t : Nat) (hi : i < l.length) (hk : k < l.length) (ht : t < f.length) (hc : findS l e.from_ = i ∧ findS l e.to = k) (hik : i = k + 1 ∨ k = i + 1) (het : e.from_ = t)
    (hq : q = (l.set k ⟨if l[k].low < l[i].low then l[k].low else l[i].low, if l[i].high < l[k].high then l[k].high else l[i].high, l[k].shard⟩).take i ++ (l.set k ⟨if l[k].low < l[i].low then l[k].low else l[i].low, if l[i].high < l[k].high then l[k].high else l[i].high, l[k].shard⟩).drop (i + 1)) :
    callL G N_directory_merge [wD v l.length f.length, .d (eEdit e)] (wH l f) = some (.tup [.agg [.d (.int .i64 v), .d (.sl (q.map eSpan)), .osl 1000001 0 f.length], .d (.int .i64 0)],
      [(1000000, .frz none), (1000001, .row ((ints (f.set t e.to)).map .d))]) := by
  have i1 := dfind_ok l e.from_ (by omega)
  have i2 := dfind_ok l e.to (by omega)
  obtain ⟨h1, h2⟩ := hc
  have hdel := del_call (G := G) g_slices_Delete_api_Span ((l.map eSpan).set k (.agg [.int .i64 (if l[k].low < l[i].low then l[k].low else l[i].low), .int .i64 (if l[i].high < l[k].high then l[k].high else l[i].high), .int .i64 l[k].shard])) i (i + 1) (by omega) (by simp; omega) (by
    intro x hx
    rcases List.mem_or_eq_of_mem_set hx with hx | rfl
    · obtain ⟨y, _, rfl⟩ := List.mem_map.1 hx; rfl
    · rfl) (by simp; omega)
  have hl : ((l.map eSpan).set k (.agg [.int .i64 (if l[k].low < l[i].low then l[k].low else l[i].low), .int .i64 (if l[i].high < l[k].high then l[k].high else l[i].high), .int .i64 l[k].shard])).take i ++ ((l.map eSpan).set k (.agg [.int .i64 (if l[k].low < l[i].low then l[k].low else l[i].low), .int .i64 (if l[i].high < l[k].high then l[k].high else l[i].high), .int .i64 l[k].shard])).drop (i + 1) = q.map eSpan := by
    rw [hq]
    simp [eSpan, List.map_take, List.map_drop, List.map_set]
  rw [hl, List.length_set, List.length_map] at hdel
  clear hl hq
  rw [h1] at i1
  rw [h2] at i2
  clear h1 h2
  rw [het] at i1
  unfold wD wH
  simp only [Int.natCast_add, Int.natCast_one, Int.natCast_zero, Int.natCast_mul, Int.cast_ofNat_Int, List.length_append, List.length_map, List.map_nil, List.length_nil, List.map_append, List.map_cons, List.length_cons, Nat.zero_add, srcO, mapSet] at hdel
  have hs : ∀ X : D, (((l.map eSpan).set k X).map AV.d)[k]? = some (.d X) := fun X => by rw [List.getElem?_map, List.getElem?_set_self (by simp; omega)]; rfl
  rw [callL_code g_directory_merge (by simp)]; simp -implicitDefEqProofs (maxSteps := 4000000) (disch := omega) only [c_directory_merge, r_directory_merge, List.set_set, getDT, go_sem, *]; (try simp only [pA, pB, pC, pD, pE, pF, pG, pH, pI, pJ, pK, pL, pM, pN, pO, pP, if_true, if_false]); repeat' (first | done | rfl | (refine iteC (fun hq => ?_) (fun hq => ?_) <;> (try (first | (exfalso; omega) | contradiction)) <;> (try simp -implicitDefEqProofs (maxSteps := 4000000) (disch := omega) only [List.set_set, getDT, go_sem, *]) <;> (try simp only [pA, pB, pC, pD, pE, pF, pG, pH, pI, pJ, pK, pL, pM, pN, pO, pP, if_true, if_false]))); (all_goals try rfl); (all_goals try (repeat' (first | done | rfl | (exfalso; omega) | contradiction | (refine iteR (fun hq => ?_) (fun hq => ?_)))))
end Go.Proofs.Ytkdjbfjohbiemaa

namespace Go.Proofs.Ytkdjbfjohbiemaa
open Go Go.Sim
set_option linter.unusedSimpArgs false
set_option linter.unusedVariables false
set_option maxHeartbeats 10000000
set_option maxRecDepth 40000
theorem findS_get {l : List Span} {j : Int} {i : Nat} (h : findS l j = i) : ∃ hi : i < l.length, l[i].shard = j := by
  obtain ⟨h1, h2, _⟩ := idxI_some h
  exact ⟨h1, by simpa using h2⟩
theorem tile_next : ∀ (l : List Span) (n m : Int), tileN n l = some m → ∀ i (h : i + 1 < l.length), l[i + 1].low = l[i].high + 1
  | [], _, _, _, i, h => by simp at h
  | y :: l, n, m, ht, i, h => by
    rw [tileN] at ht
    split at ht
    · cases i with
      | succ i => exact tile_next l _ m ht i (by simpa using h)
      | zero =>
        cases l with
        | nil => simp at h
        | cons z l =>
          rw [tileN] at ht
          split at ht
          · rename_i hc; simpa using hc.1
          · cases ht
    · cases ht
theorem dslot_ok (d : Directory) (n : Int) (hF : d.forward.length ≤ 1000000) : callL G N_directory_Apply_1 [.d (.int .i64 n), .d (.pd (eDirectory d))] [] = some (.d (.bool (decide (0 ≤ n ∧ n < d.forward.length))), []) := by
  by_cases h1 : 0 ≤ n
  · by_cases h2 : n < d.forward.length
    · rw [decide_eq_true ⟨h1, h2⟩]
      rw [callL_code g_directory_Apply_1 (by simp)]; simp -implicitDefEqProofs (maxSteps := 4000000) (disch := omega) only [c_directory_Apply_1, r_directory_Apply_1, getDT, go_sem, *]; (try simp only [pA, pB, pC, pD, pE, pF, pG, pH, pI, pJ, pK, pL, pM, pN, pO, pP, if_true, if_false]); repeat' (first | done | rfl | (refine iteC (fun hq => ?_) (fun hq => ?_) <;> (try (first | (exfalso; omega) | contradiction)) <;> (try simp -implicitDefEqProofs (maxSteps := 4000000) (disch := omega) only [getDT, go_sem, *]) <;> (try simp only [pA, pB, pC, pD, pE, pF, pG, pH, pI, pJ, pK, pL, pM, pN, pO, pP, if_true, if_false]))); (all_goals try rfl); (all_goals try (repeat' (first | done | rfl | (exfalso; omega) | contradiction | (refine iteR (fun hq => ?_) (fun hq => ?_)))))
    · rw [decide_eq_false (by omega)]
      rw [callL_code g_directory_Apply_1 (by simp)]; simp -implicitDefEqProofs (maxSteps := 4000000) (disch := omega) only [c_directory_Apply_1, r_directory_Apply_1, getDT, go_sem, *]; (try simp only [pA, pB, pC, pD, pE, pF, pG, pH, pI, pJ, pK, pL, pM, pN, pO, pP, if_true, if_false]); repeat' (first | done | rfl | (refine iteC (fun hq => ?_) (fun hq => ?_) <;> (try (first | (exfalso; omega) | contradiction)) <;> (try simp -implicitDefEqProofs (maxSteps := 4000000) (disch := omega) only [getDT, go_sem, *]) <;> (try simp only [pA, pB, pC, pD, pE, pF, pG, pH, pI, pJ, pK, pL, pM, pN, pO, pP, if_true, if_false]))); (all_goals try rfl); (all_goals try (repeat' (first | done | rfl | (exfalso; omega) | contradiction | (refine iteR (fun hq => ?_) (fun hq => ?_)))))
  · rw [decide_eq_false (by omega)]
    rw [callL_code g_directory_Apply_1 (by simp)]; simp -implicitDefEqProofs (maxSteps := 4000000) (disch := omega) only [c_directory_Apply_1, r_directory_Apply_1, getDT, go_sem, *]; (try simp only [pA, pB, pC, pD, pE, pF, pG, pH, pI, pJ, pK, pL, pM, pN, pO, pP, if_true, if_false]); repeat' (first | done | rfl | (refine iteC (fun hq => ?_) (fun hq => ?_) <;> (try (first | (exfalso; omega) | contradiction)) <;> (try simp -implicitDefEqProofs (maxSteps := 4000000) (disch := omega) only [getDT, go_sem, *]) <;> (try simp only [pA, pB, pC, pD, pE, pF, pG, pH, pI, pJ, pK, pL, pM, pN, pO, pP, if_true, if_false]))); (all_goals try rfl); (all_goals try (repeat' (first | done | rfl | (exfalso; omega) | contradiction | (refine iteR (fun hq => ?_) (fun hq => ?_)))))
theorem dapply_ok (d : Directory) (e : Edit) (hL : d.l.length ≤ 1000000) (hF0 : d.forward.length ≤ 1000000) : callL G N_directory_Apply [.d (eDirectory d), .d (eEdit e)] [] = some (.d (.tup [eDirectory (applyD d e).1, .int .i64 (applyD d e).2]), []) := by
  have hval := dValidate_ok d (by omega) (by omega)
  have b1 := findS_lt d.l e.from_
  have b2 := findS_lt d.l e.to
  unfold applyD
  by_cases c0 : dirV d = 0
  · have hl := dirV_len c0
    rw [c0] at hval
    rw [if_neg (by rw [c0]; simp)]
    have hti := dirV_tile c0
    have htl := tile_in d.l 0 65536 (by omega) hti
    have htn := tile_next d.l 0 65536 hti
    have h0 : 0 < d.l.length := by
      rcases Nat.eq_zero_or_pos d.l.length with h | h
      · rw [List.length_eq_zero_iff.1 h, tileN] at hti; cases hti
      · exact h
    have hcl := clone_api_Span (d.l.map eSpan) (allSize_Span _) (by simp only [List.length_map]; omega)
    have hcf := clone_int (ints d.forward) (allSize_ints _) (by simp only [List.length_map]; omega)
    clear c0 hti
    by_cases c1 : d.version = 1099511627776
    · rw [if_pos c1]
      rw [callL_code g_directory_Apply (by simp)]; simp -implicitDefEqProofs (maxSteps := 4000000) (disch := omega) only [c_directory_Apply, r_directory_Apply, getDT, go_sem, *]; (try simp only [pA, pB, pC, pD, pE, pF, pG, pH, pI, pJ, pK, pL, pM, pN, pO, pP, if_true, if_false]); repeat' (first | done | rfl | (refine iteC (fun hq => ?_) (fun hq => ?_) <;> (try (first | (exfalso; omega) | contradiction)) <;> (try simp -implicitDefEqProofs (maxSteps := 4000000) (disch := omega) only [getDT, go_sem, *]) <;> (try simp only [pA, pB, pC, pD, pE, pF, pG, pH, pI, pJ, pK, pL, pM, pN, pO, pP, if_true, if_false]))); (all_goals try rfl); (all_goals try (repeat' (first | done | rfl | (exfalso; omega) | contradiction | (refine iteR (fun hq => ?_) (fun hq => ?_)))))
    rw [if_neg c1]
    by_cases c2 : ¬ e.kind = 1 ∧ ¬ e.kind = 2
    · rw [if_pos c2]
      obtain ⟨c2, c3⟩ := c2
      rw [callL_code g_directory_Apply (by simp)]; simp -implicitDefEqProofs (maxSteps := 4000000) (disch := omega) only [c_directory_Apply, r_directory_Apply, getDT, go_sem, *]; (try simp only [pA, pB, pC, pD, pE, pF, pG, pH, pI, pJ, pK, pL, pM, pN, pO, pP, if_true, if_false]); repeat' (first | done | rfl | (refine iteC (fun hq => ?_) (fun hq => ?_) <;> (try (first | (exfalso; omega) | contradiction)) <;> (try simp -implicitDefEqProofs (maxSteps := 4000000) (disch := omega) only [getDT, go_sem, *]) <;> (try simp only [pA, pB, pC, pD, pE, pF, pG, pH, pI, pJ, pK, pL, pM, pN, pO, pP, if_true, if_false]))); (all_goals try rfl); (all_goals try (repeat' (first | done | rfl | (exfalso; omega) | contradiction | (refine iteR (fun hq => ?_) (fun hq => ?_)))))
    rw [if_neg c2]
    have hs1 := dslot_ok d e.from_ hF0
    have hs2 := dslot_ok d e.to hF0
    by_cases c3 : e.from_ < 0 ∨ (d.forward.length : Int) ≤ e.from_ ∨ e.to < 0 ∨ (d.forward.length : Int) ≤ e.to
    · rw [if_pos c3]
      have c4 : e.kind = 1 ∨ e.kind = 2 := by omega
      clear c2
      by_cases c5 : 0 ≤ e.from_ ∧ e.from_ < d.forward.length
      · rw [decide_eq_true c5] at hs1
        rw [decide_eq_false (by omega)] at hs2
        rcases c4 with c4 | c4
        · rw [callL_code g_directory_Apply (by simp)]; simp -implicitDefEqProofs (maxSteps := 4000000) (disch := omega) only [c_directory_Apply, r_directory_Apply, getDT, go_sem, *]; (try simp only [pA, pB, pC, pD, pE, pF, pG, pH, pI, pJ, pK, pL, pM, pN, pO, pP, if_true, if_false]); repeat' (first | done | rfl | (refine iteC (fun hq => ?_) (fun hq => ?_) <;> (try (first | (exfalso; omega) | contradiction)) <;> (try simp -implicitDefEqProofs (maxSteps := 4000000) (disch := omega) only [getDT, go_sem, *]) <;> (try simp only [pA, pB, pC, pD, pE, pF, pG, pH, pI, pJ, pK, pL, pM, pN, pO, pP, if_true, if_false]))); (all_goals try rfl); (all_goals try (repeat' (first | done | rfl | (exfalso; omega) | contradiction | (refine iteR (fun hq => ?_) (fun hq => ?_)))))
        · rw [callL_code g_directory_Apply (by simp)]; simp -implicitDefEqProofs (maxSteps := 4000000) (disch := omega) only [c_directory_Apply, r_directory_Apply, getDT, go_sem, *]; (try simp only [pA, pB, pC, pD, pE, pF, pG, pH, pI, pJ, pK, pL, pM, pN, pO, pP, if_true, if_false]); repeat' (first | done | rfl | (refine iteC (fun hq => ?_) (fun hq => ?_) <;> (try (first | (exfalso; omega) | contradiction)) <;> (try simp -implicitDefEqProofs (maxSteps := 4000000) (disch := omega) only [getDT, go_sem, *]) <;> (try simp only [pA, pB, pC, pD, pE, pF, pG, pH, pI, pJ, pK, pL, pM, pN, pO, pP, if_true, if_false]))); (all_goals try rfl); (all_goals try (repeat' (first | done | rfl | (exfalso; omega) | contradiction | (refine iteR (fun hq => ?_) (fun hq => ?_)))))
      · rw [decide_eq_false c5] at hs1
        rcases c4 with c4 | c4
        · rw [callL_code g_directory_Apply (by simp)]; simp -implicitDefEqProofs (maxSteps := 4000000) (disch := omega) only [c_directory_Apply, r_directory_Apply, getDT, go_sem, *]; (try simp only [pA, pB, pC, pD, pE, pF, pG, pH, pI, pJ, pK, pL, pM, pN, pO, pP, if_true, if_false]); repeat' (first | done | rfl | (refine iteC (fun hq => ?_) (fun hq => ?_) <;> (try (first | (exfalso; omega) | contradiction)) <;> (try simp -implicitDefEqProofs (maxSteps := 4000000) (disch := omega) only [getDT, go_sem, *]) <;> (try simp only [pA, pB, pC, pD, pE, pF, pG, pH, pI, pJ, pK, pL, pM, pN, pO, pP, if_true, if_false]))); (all_goals try rfl); (all_goals try (repeat' (first | done | rfl | (exfalso; omega) | contradiction | (refine iteR (fun hq => ?_) (fun hq => ?_)))))
        · rw [callL_code g_directory_Apply (by simp)]; simp -implicitDefEqProofs (maxSteps := 4000000) (disch := omega) only [c_directory_Apply, r_directory_Apply, getDT, go_sem, *]; (try simp only [pA, pB, pC, pD, pE, pF, pG, pH, pI, pJ, pK, pL, pM, pN, pO, pP, if_true, if_false]); repeat' (first | done | rfl | (refine iteC (fun hq => ?_) (fun hq => ?_) <;> (try (first | (exfalso; omega) | contradiction)) <;> (try simp -implicitDefEqProofs (maxSteps := 4000000) (disch := omega) only [getDT, go_sem, *]) <;> (try simp only [pA, pB, pC, pD, pE, pF, pG, pH, pI, pJ, pK, pL, pM, pN, pO, pP, if_true, if_false]))); (all_goals try rfl); (all_goals try (repeat' (first | done | rfl | (exfalso; omega) | contradiction | (refine iteR (fun hq => ?_) (fun hq => ?_)))))
    rw [if_neg c3]
    rw [decide_eq_true (by omega)] at hs1 hs2
    by_cases c4 : e.kind = 1
    · rw [if_pos c4]
      clear c2
      unfold splitD
      by_cases c5 : findS d.l e.from_ < 0 ∨ 0 ≤ findS d.l e.to
      · rw [if_pos c5]
        have hs := dsplit_state (d.version + 1) d.l d.forward e hL hl.2.1 c5
        unfold wD wH zDW at hs
        clear c5 htl htn b1 b2
        rw [callL_code g_directory_Apply (by simp)]; simp -implicitDefEqProofs (maxSteps := 4000000) (disch := omega) only [c_directory_Apply, r_directory_Apply, getDT, go_sem, *]; (try simp only [pA, pB, pC, pD, pE, pF, pG, pH, pI, pJ, pK, pL, pM, pN, pO, pP, if_true, if_false]); repeat' (first | done | rfl | (refine iteC (fun hq => ?_) (fun hq => ?_) <;> (try (first | (exfalso; omega) | contradiction)) <;> (try simp -implicitDefEqProofs (maxSteps := 4000000) (disch := omega) only [getDT, go_sem, *]) <;> (try simp only [pA, pB, pC, pD, pE, pF, pG, pH, pI, pJ, pK, pL, pM, pN, pO, pP, if_true, if_false]))); (all_goals try rfl); (all_goals try (repeat' (first | done | rfl | (exfalso; omega) | contradiction | (refine iteR (fun hq => ?_) (fun hq => ?_)))))
      rw [if_neg c5]
      obtain ⟨i, hi0⟩ : ∃ n : Nat, findS d.l e.from_ = n := ⟨(findS d.l e.from_).toNat, by omega⟩
      obtain ⟨hi, hsh⟩ := findS_get hi0
      rw [hi0, Int.toNat_natCast, getDT hi]
      by_cases c6 : e.mid < d.l[i].low ∨ d.l[i].high ≤ e.mid
      · rw [if_pos c6]
        have hs := dsplit_range (d.version + 1) d.l d.forward e hL hl.2.1 i hi ⟨hi0, by omega⟩ c6
        unfold wD wH zDW at hs
        clear c5 c6 htl htn b1 b2 hi0 hsh
        rw [callL_code g_directory_Apply (by simp)]; simp -implicitDefEqProofs (maxSteps := 4000000) (disch := omega) only [c_directory_Apply, r_directory_Apply, getDT, go_sem, *]; (try simp only [pA, pB, pC, pD, pE, pF, pG, pH, pI, pJ, pK, pL, pM, pN, pO, pP, if_true, if_false]); repeat' (first | done | rfl | (refine iteC (fun hq => ?_) (fun hq => ?_) <;> (try (first | (exfalso; omega) | contradiction)) <;> (try simp -implicitDefEqProofs (maxSteps := 4000000) (disch := omega) only [getDT, go_sem, *]) <;> (try simp only [pA, pB, pC, pD, pE, pF, pG, pH, pI, pJ, pK, pL, pM, pN, pO, pP, if_true, if_false]))); (all_goals try rfl); (all_goals try (repeat' (first | done | rfl | (exfalso; omega) | contradiction | (refine iteR (fun hq => ?_) (fun hq => ?_)))))
      · rw [if_neg c6]
        obtain ⟨t, ht⟩ : ∃ n : Nat, e.to = n := ⟨e.to.toNat, by omega⟩
        have hti := htl d.l[i] (List.getElem_mem _)
        have hs := dsplit_ok (d.version + 1) d.l _ d.forward e hL hl.2.1 i t hi (by omega) ⟨hi0, by omega⟩ ht (by omega) ⟨hti.1, hti.2.2⟩ rfl
        rw [hsh] at hs
        rw [ht, Int.toNat_natCast]
        rw [ht] at hs hs2
        unfold wD wH at hs
        generalize d.l.take i ++ [Span.mk d.l[i].low e.mid e.from_, ⟨e.mid + 1, d.l[i].high, t⟩] ++ d.l.drop (i + 1) = q at *
        generalize hfs : d.forward.set t (-1) = F at *
        have hFl : F.length = d.forward.length := by rw [← hfs, List.length_set]
        clear c5 c6 htl htn b1 b2 hi0 hsh hti hfs
        rw [callL_code g_directory_Apply (by simp)]; simp -implicitDefEqProofs (maxSteps := 4000000) (disch := omega) only [c_directory_Apply, r_directory_Apply, getDT, go_sem, *]; (try simp only [pA, pB, pC, pD, pE, pF, pG, pH, pI, pJ, pK, pL, pM, pN, pO, pP, if_true, if_false]); repeat' (first | done | rfl | (refine iteC (fun hq => ?_) (fun hq => ?_) <;> (try (first | (exfalso; omega) | contradiction)) <;> (try simp -implicitDefEqProofs (maxSteps := 4000000) (disch := omega) only [getDT, go_sem, *]) <;> (try simp only [pA, pB, pC, pD, pE, pF, pG, pH, pI, pJ, pK, pL, pM, pN, pO, pP, if_true, if_false]))); (all_goals try rfl); (all_goals try (repeat' (first | done | rfl | (exfalso; omega) | contradiction | (refine iteR (fun hq => ?_) (fun hq => ?_)))))
        all_goals simp only [eDirectory]
    · rw [if_neg c4]
      have hk2 : e.kind = 2 := by omega
      clear c2
      unfold mergeD
      by_cases c5 : findS d.l e.from_ < 0 ∨ findS d.l e.to < 0 ∨ ¬ findS d.l e.from_ - findS d.l e.to = 1 ∧ ¬ findS d.l e.to - findS d.l e.from_ = 1
      · rw [if_pos c5]
        have hs := dmerge_state (d.version + 1) d.l d.forward e hL hl.2.1 c5
        unfold wD wH zDW at hs
        clear c5 htl htn b1 b2
        rw [callL_code g_directory_Apply (by simp)]; simp -implicitDefEqProofs (maxSteps := 4000000) (disch := omega) only [c_directory_Apply, r_directory_Apply, getDT, go_sem, *]; (try simp only [pA, pB, pC, pD, pE, pF, pG, pH, pI, pJ, pK, pL, pM, pN, pO, pP, if_true, if_false]); repeat' (first | done | rfl | (refine iteC (fun hq => ?_) (fun hq => ?_) <;> (try (first | (exfalso; omega) | contradiction)) <;> (try simp -implicitDefEqProofs (maxSteps := 4000000) (disch := omega) only [getDT, go_sem, *]) <;> (try simp only [pA, pB, pC, pD, pE, pF, pG, pH, pI, pJ, pK, pL, pM, pN, pO, pP, if_true, if_false]))); (all_goals try rfl); (all_goals try (repeat' (first | done | rfl | (exfalso; omega) | contradiction | (refine iteR (fun hq => ?_) (fun hq => ?_)))))
      rw [if_neg c5]
      obtain ⟨i, hi0⟩ : ∃ n : Nat, findS d.l e.from_ = n := ⟨(findS d.l e.from_).toNat, by omega⟩
      obtain ⟨k, hk0⟩ : ∃ n : Nat, findS d.l e.to = n := ⟨(findS d.l e.to).toNat, by omega⟩
      obtain ⟨hi, hsi⟩ := findS_get hi0
      obtain ⟨hk, hsk⟩ := findS_get hk0
      obtain ⟨t, ht⟩ : ∃ n : Nat, e.from_ = n := ⟨e.from_.toNat, by omega⟩
      obtain ⟨f, hf⟩ : ∃ f : Nat, min (findS d.l e.from_) (findS d.l e.to) = f := ⟨(min (findS d.l e.from_) (findS d.l e.to)).toNat, by omega⟩
      have hf1 : f + 1 < d.l.length := by omega
      have hs := dmerge_ok (d.version + 1) d.l _ d.forward e hL hl.2.1 i k t hi hk (by omega) ⟨hi0, hk0⟩ (by omega) ht rfl
      rw [hf, Int.toNat_natCast, getDT (show f < d.l.length by omega), getDT hf1, ht, Int.toNat_natCast]
      have hq : (d.l.set k ⟨if d.l[k].low < d.l[i].low then d.l[k].low else d.l[i].low, if d.l[i].high < d.l[k].high then d.l[k].high else d.l[i].high, d.l[k].shard⟩).take i ++ (d.l.set k ⟨if d.l[k].low < d.l[i].low then d.l[k].low else d.l[i].low, if d.l[i].high < d.l[k].high then d.l[k].high else d.l[i].high, d.l[k].shard⟩).drop (i + 1) = d.l.take f ++ [⟨d.l[f].low, d.l[f + 1].high, e.to⟩] ++ d.l.drop (f + 2) := by
        have hn := htn f hf1
        have hx := htl d.l[f] (List.getElem_mem _)
        have hy := htl d.l[f + 1] (List.getElem_mem _)
        have hcase : (i = f ∧ k = f + 1) ∨ (i = f + 1 ∧ k = f) := by omega
        rcases hcase with ⟨q1, q2⟩ | ⟨q1, q2⟩
        · subst q1 q2
          rw [if_neg (by omega), if_pos (by omega), hsk, List.take_set_of_le (by omega), List.drop_set, if_neg (by omega), Nat.sub_self, List.append_assoc]
          rw [List.drop_eq_getElem_cons hf1]; rfl
        · subst q1 q2
          rw [if_pos (by omega), if_neg (by omega), hsk, (set_parts _ hk).1, List.drop_set, if_pos (by omega)]
      rw [hq] at hs
      rw [ht] at hs1
      unfold wD wH at hs
      generalize d.l.take f ++ [Span.mk d.l[f].low d.l[f + 1].high e.to] ++ d.l.drop (f + 2) = q at *
      generalize hfs : d.forward.set t e.to = F at *
      have hFl : F.length = d.forward.length := by rw [← hfs, List.length_set]
      clear c5 htl htn b1 b2 hi0 hk0 hsi hsk hf hq hfs
      rw [callL_code g_directory_Apply (by simp)]; simp -implicitDefEqProofs (maxSteps := 4000000) (disch := omega) only [c_directory_Apply, r_directory_Apply, getDT, go_sem, *]; (try simp only [pA, pB, pC, pD, pE, pF, pG, pH, pI, pJ, pK, pL, pM, pN, pO, pP, if_true, if_false]); repeat' (first | done | rfl | (refine iteC (fun hq => ?_) (fun hq => ?_) <;> (try (first | (exfalso; omega) | contradiction)) <;> (try simp -implicitDefEqProofs (maxSteps := 4000000) (disch := omega) only [getDT, go_sem, *]) <;> (try simp only [pA, pB, pC, pD, pE, pF, pG, pH, pI, pJ, pK, pL, pM, pN, pO, pP, if_true, if_false]))); (all_goals try rfl); (all_goals try (repeat' (first | done | rfl | (exfalso; omega) | contradiction | (refine iteR (fun hq => ?_) (fun hq => ?_)))))
      all_goals simp only [eDirectory]
  · rw [if_pos c0]
    rw [callL_code g_directory_Apply (by simp)]; simp -implicitDefEqProofs (maxSteps := 4000000) (disch := omega) only [c_directory_Apply, r_directory_Apply, getDT, go_sem, *]; (try simp only [pA, pB, pC, pD, pE, pF, pG, pH, pI, pJ, pK, pL, pM, pN, pO, pP, if_true, if_false]); repeat' (first | done | rfl | (refine iteC (fun hq => ?_) (fun hq => ?_) <;> (try (first | (exfalso; omega) | contradiction)) <;> (try simp -implicitDefEqProofs (maxSteps := 4000000) (disch := omega) only [getDT, go_sem, *]) <;> (try simp only [pA, pB, pC, pD, pE, pF, pG, pH, pI, pJ, pK, pL, pM, pN, pO, pP, if_true, if_false]))); (all_goals try rfl); (all_goals try (repeat' (first | done | rfl | (exfalso; omega) | contradiction | (refine iteR (fun hq => ?_) (fun hq => ?_)))))
end Go.Proofs.Ytkdjbfjohbiemaa

namespace Go.Proofs.Ytkdjbfjohbiemaa
open Go Go.Sim
set_option linter.unusedSimpArgs false
set_option linter.unusedVariables false
set_option maxHeartbeats 10000000
set_option maxRecDepth 40000
structure Val (d : Directory) : Prop where
  v1 : 1 ≤ d.version
  v2 : d.version ≤ 1099511627776
  n1 : 1 ≤ d.forward.length
  n2 : d.forward.length ≤ 6
  til : tileN 0 d.l = some 65536
  sh : ∀ x ∈ d.l, 0 ≤ x.shard ∧ x.shard < d.forward.length
  nd : (d.l.map Span.shard).Nodup
  rng : ∀ a ∈ d.forward, -1 ≤ a ∧ a < d.forward.length
  liv : ∀ x ∈ d.l, d.forward.getD x.shard.toNat 0 = -1
  ch : ∀ i : Nat, i < d.forward.length → chase d.forward d.forward.length i < 0
theorem live_iff (l : List Span) (s : Int) : 0 ≤ findS l s ↔ ∃ x ∈ l, x.shard = s := by
  have := idxI_any l (fun x => decide (x.shard = s))
  unfold findS
  constructor
  · intro h
    rw [decide_eq_true h] at this
    obtain ⟨x, h1, h2⟩ := List.any_eq_true.1 this.symm
    exact ⟨x, h1, by simpa using h2⟩
  · rintro ⟨x, h1, h2⟩
    have : l.any (fun x => decide (x.shard = s)) = true := List.any_eq_true.2 ⟨x, h1, by simpa using h2⟩
    rw [← idxI_any] at this
    simpa using this
theorem findS_nat {l : List Span} {s : Int} (h : 0 ≤ findS l s) : ∃ (i : Nat) (hi : i < l.length), findS l s = i ∧ l[i].shard = s := by
  obtain ⟨i, hi⟩ : ∃ n : Nat, findS l s = n := ⟨(findS l s).toNat, by omega⟩
  obtain ⟨h1, h2⟩ := findS_get hi
  exact ⟨i, h1, hi, h2⟩
theorem nd_inj {l : List Span} (h : (l.map Span.shard).Nodup) {i j : Nat} (hi : i < l.length) (hj : j < l.length) (e : l[i].shard = l[j].shard) : i = j := by
  have hi' : i < (l.map Span.shard).length := by simpa using hi
  have hj' : j < (l.map Span.shard).length := by simpa using hj
  exact (List.getElem_inj (h₀ := hi') (h₁ := hj') h).1 (by simpa using e)
theorem findS_at {l : List Span} (h : (l.map Span.shard).Nodup) {i : Nat} (hi : i < l.length) : findS l l[i].shard = i := by
  obtain ⟨k, hk, e, hs⟩ := findS_nat ((live_iff l l[i].shard).2 ⟨l[i], List.getElem_mem _, rfl⟩)
  rw [e, nd_inj h hk hi hs]
theorem val_of {d : Directory} (h : dirV d = 0) : Val d := by
  have hl := dirV_len h
  have ht := dirV_tile h
  unfold dirV at h
  rw [if_neg (by omega), if_neg (by simp [ht])] at h
  split at h
  · cases h
  rename_i h3
  split at h
  · cases h
  rename_i h4
  split at h
  · cases h
  rename_i h5
  simp only [Bool.not_eq_true, Bool.not_eq_false] at h3 h4 h5
  unfold fwdOk at h5
  rw [Bool.and_eq_true] at h5
  have hf : ∀ i (hi : i < d.forward.length), (0 ≤ findS d.l i → d.forward[i] = -1) ∧ -1 ≤ d.forward[i] ∧ d.forward[i] < d.forward.length := fun i hi => by
    have := (List.all_eq_true.1 h5.1) i (List.mem_range.2 hi)
    unfold fwdAt at this
    rw [getDT hi] at this
    simp only [Bool.not_eq_true', Bool.or_eq_false_iff, decide_eq_false_iff_not, Bool.and_eq_false_iff, Bool.not_eq_false', decide_eq_true_eq] at this
    omega
  have hsh : ∀ x ∈ d.l, 0 ≤ x.shard ∧ x.shard < d.forward.length := fun x hx => by
    have := List.any_eq_false.1 h3 x hx
    unfold missB at this
    simp only [Bool.or_eq_true, decide_eq_true_eq, not_or] at this
    omega
  refine ⟨hl.2.2.1, hl.2.2.2, hl.1, hl.2.1, ht, hsh, ?_, fun a ha => ?_, fun x hx => ?_, fun i hi => by simpa using (List.all_eq_true.1 h5.2) i (List.mem_range.2 hi)⟩
  · refine List.pairwise_iff_getElem.2 fun i j hi hj hij e => ?_
    simp only [List.length_map] at hi hj
    simp only [List.getElem_map] at e
    have a1 := (List.all_eq_true.1 h4) i (List.mem_range.2 hi)
    have a2 := (List.all_eq_true.1 h4) j (List.mem_range.2 hj)
    unfold dupS at a1 a2
    rw [getDT hi] at a1
    rw [getDT hj] at a2
    simp only [decide_eq_true_eq] at a1 a2
    rw [e] at a1
    omega
  · obtain ⟨i, hi, rfl⟩ := List.getElem_of_mem ha
    exact (hf i hi).2
  · have hs := hsh x hx
    have hlt : x.shard.toNat < d.forward.length := by omega
    rw [getDT hlt]
    refine (hf _ hlt).1 ?_
    rw [show ((x.shard.toNat : Nat) : Int) = x.shard by omega]
    exact (live_iff _ _).2 ⟨x, hx, rfl⟩
theorem of_val {d : Directory} (h : Val d) : dirV d = 0 := by
  obtain ⟨v1, v2, n1, n2, til, sh, nd, rng, liv, ch⟩ := h
  unfold dirV
  rw [if_neg (by omega), if_neg (by simp [til]), if_neg, if_neg, if_neg]
  · simp only [Bool.not_eq_false]
    unfold fwdOk
    rw [Bool.and_eq_true]
    refine ⟨List.all_eq_true.2 fun i hi => ?_, List.all_eq_true.2 fun i hi => by simpa using ch i (List.mem_range.1 hi)⟩
    have hi := List.mem_range.1 hi
    unfold fwdAt
    rw [getDT hi]
    have r := rng d.forward[i] (List.getElem_mem _)
    simp only [Bool.not_eq_true', Bool.or_eq_false_iff, decide_eq_false_iff_not, Bool.and_eq_false_iff, Bool.not_eq_false', decide_eq_true_eq]
    refine ⟨⟨?_, by omega⟩, by omega⟩
    by_cases c : 0 ≤ findS d.l i
    · obtain ⟨x, hx, e⟩ := (live_iff _ _).1 c
      have := liv x hx
      rw [e, Int.toNat_natCast, getDT hi] at this
      exact .inr this
    · exact .inl c
  · simp only [Bool.not_eq_false]
    refine List.all_eq_true.2 fun i hi => ?_
    have hi := List.mem_range.1 hi
    unfold dupS
    rw [getDT hi, findS_at nd hi]; simp
  · simp only [Bool.not_eq_true]
    refine List.any_eq_false.2 fun x hx => ?_
    have := sh x hx
    unfold missB
    simp only [Bool.or_eq_true, decide_eq_true_eq, not_or]
    omega
end Go.Proofs.Ytkdjbfjohbiemaa

namespace Go.Proofs.Ytkdjbfjohbiemaa
open Go Go.Sim
set_option linter.unusedSimpArgs false
set_option linter.unusedVariables false
set_option maxHeartbeats 10000000
set_option maxRecDepth 40000
theorem tile_app : ∀ (xs ys : List Span) (n : Int), tileN n (xs ++ ys) = (tileN n xs).bind fun m => tileN m ys
  | [], ys, n => by simp [tileN]
  | x :: xs, ys, n => by
    rw [List.cons_append, tileN, tileN]
    split
    · exact tile_app xs ys _
    · rfl
theorem chase_set (F : List Int) (t : Nat) : ∀ (m : Nat) (a : Int), a < F.length → chase F m a < 0 → (∀ b ∈ F, b < F.length) → chase (F.set t (-1)) m a < 0
  | 0, a, _, h, _ => h
  | m + 1, a, hl, h, hr => by
    rw [chase] at h ⊢
    by_cases h0 : 0 ≤ a
    · rw [if_pos h0] at h ⊢
      have hlt : a.toNat < F.length := by omega
      rw [getDT hlt] at h
      rw [List.getD_eq_getElem?_getD, List.getElem?_set]
      by_cases e : t = a.toNat
      · rw [if_pos e, if_pos (by omega)]
        simp only [Option.getD_some]
        rw [chase_neg _ _ _ (by omega)]; omega
      · rw [if_neg e, List.getElem?_eq_getElem hlt]
        exact chase_set F t m _ (hr _ (List.getElem_mem _)) h hr
    · rw [if_neg h0] at h ⊢
      rw [chase_neg _ _ _ (by omega)]; omega
theorem chase_add (F : List Int) : ∀ (i k : Nat) (a : Int), chase F (i + k) a = chase F k (chase F i a)
  | 0, k, a => by rw [Nat.zero_add, chase]
  | i + 1, k, a => by rw [show i + 1 + k = (i + k) + 1 by omega, chase, chase, chase_add F i k]
theorem chase_stay (F : List Int) {i : Nat} {a : Int} (h : chase F i a < 0) (k : Nat) : chase F (i + k) a < 0 := by
  rw [chase_add, chase_neg _ _ _ h]; exact h
theorem pigeon : ∀ (n : Nat) (f : Nat → Nat), (∀ i, i ≤ n → f i < n) → ∃ i j, i < j ∧ j ≤ n ∧ f i = f j
  | 0, f, h => by have := h 0 (Nat.le_refl _); omega
  | n + 1, f, h => by
    by_cases c : ∃ i, i ≤ n ∧ f i = f (n + 1)
    · obtain ⟨i, hi, e⟩ := c
      exact ⟨i, n + 1, by omega, Nat.le_refl _, e⟩
    · have hc : ∀ i, i ≤ n → f i ≠ f (n + 1) := fun i hi e => c ⟨i, hi, e⟩
      obtain ⟨i, j, h1, h2, h3⟩ := pigeon n (fun i => if f (n + 1) < f i then f i - 1 else f i) (fun i hi => by
        have := h i (by omega)
        have := hc i hi
        have := h (n + 1) (Nat.le_refl _)
        split <;> omega)
      refine ⟨i, j, h1, by omega, ?_⟩
      have a1 := hc i (by omega)
      have a2 := hc j (by omega)
      split at h3 <;> split at h3 <;> omega
/-- A way that comes to an end does so within as many steps as there are places. -/
theorem chase_short (F : List Int) (hr : ∀ b ∈ F, -1 ≤ b ∧ b < F.length) (m : Nat) (a : Int) (ha : a < F.length) (h : chase F m a < 0) : chase F F.length a < 0 := by
  by_cases c : chase F F.length a < 0
  · exact c
  · exfalso
    have hin : ∀ i (b : Int), b < F.length → chase F i b < F.length := by
      intro i
      induction i with
      | zero => intro b hb; exact hb
      | succ i ih =>
        intro b hb
        rw [chase]
        refine ih _ ?_
        split
        · rw [getDT (by omega)]; exact (hr _ (List.getElem_mem _)).2
        · exact hb
    have hpos : ∀ i, i ≤ F.length → 0 ≤ chase F i a := fun i hi => by
      rcases Int.lt_or_le (chase F i a) 0 with h1 | h1
      · exact absurd (by have := chase_stay F h1 (F.length - i); rwa [show i + (F.length - i) = F.length by omega] at this) c
      · exact h1
    obtain ⟨i, j, hij, hj, e⟩ := pigeon F.length (fun i => (chase F i a).toNat) (fun i hi => by have := hin i a ha; have := hpos i hi; omega)
    have p1 := hpos i (by omega)
    have p2 := hpos j hj
    have e' : chase F i a = chase F j a := by omega
    have loop : ∀ t, chase F (i + t * (j - i)) a = chase F i a := by
      intro t
      induction t with
      | zero => simp
      | succ t ih =>
        rw [show i + (t + 1) * (j - i) = (i + t * (j - i)) + (j - i) by rw [Nat.add_mul]; omega, chase_add, ih, e', ← e', ← chase_add, show i + (j - i) = j by omega, e']
    have hbig : m ≤ i + m * (j - i) := by
      have : m * 1 ≤ m * (j - i) := Nat.mul_le_mul_left _ (by omega)
      omega
    have := chase_stay F h (i + m * (j - i) - m)
    rw [show m + (i + m * (j - i) - m) = i + m * (j - i) by omega, loop] at this
    omega
theorem chase_set2 (F : List Int) (f : Nat) (t : Int) (ht : 0 ≤ t) (htl : t < F.length) (hft : f ≠ t.toNat) (hF : F.getD t.toNat 0 = -1) (hr : ∀ b ∈ F, b < F.length) : ∀ (m : Nat) (a : Int), a < F.length → chase F m a < 0 → chase (F.set f t) (m + 2) a < 0
  | 0, a, _, h => by
    have h : a < 0 := h
    rw [chase_neg _ _ _ h]; exact h
  | m + 1, a, hl, h => by
    rw [chase] at h
    rw [show m + 1 + 2 = (m + 2) + 1 by omega, chase]
    by_cases h0 : 0 ≤ a
    · rw [if_pos h0] at h ⊢
      have hlt : a.toNat < F.length := by omega
      rw [getDT hlt] at h
      rw [List.getD_eq_getElem?_getD, List.getElem?_set]
      by_cases e : f = a.toNat
      · rw [if_pos e, if_pos (by omega)]
        simp only [Option.getD_some]
        rw [chase, if_pos ht, List.getD_eq_getElem?_getD, List.getElem?_set, if_neg hft, ← List.getD_eq_getElem?_getD, hF, chase_neg _ _ _ (by omega)]; omega
      · rw [if_neg e, List.getElem?_eq_getElem hlt]
        exact chase_set2 F f t ht htl hft hF hr m _ (hr _ (List.getElem_mem _)) h
    · rw [if_neg h0] at h ⊢
      rw [chase_neg _ _ _ (by omega)]; omega
theorem val_split {d : Directory} (h : Val d) {pre post : List Span} {x : Span} (hd : d.l = pre ++ x :: post) {mid t : Int} (hm : x.low ≤ mid ∧ mid < x.high) (ht : 0 ≤ t ∧ t < d.forward.length) (hn : ∀ y ∈ d.l, y.shard ≠ t) (hv : d.version ≠ 1099511627776) :
    Val ⟨d.version + 1, pre ++ [⟨x.low, mid, x.shard⟩, ⟨mid + 1, x.high, t⟩] ++ post, d.forward.set t.toNat (-1)⟩ := by
  obtain ⟨v1, v2, n1, n2, til, sh, nd, rng, liv, ch⟩ := h
  have hmem : ∀ y : Span, y ∈ pre ++ [⟨x.low, mid, x.shard⟩, ⟨mid + 1, x.high, t⟩] ++ post → y.shard = t ∨ ∃ z ∈ d.l, z.shard = y.shard := by
    intro y hy
    simp only [List.mem_append, List.mem_cons, List.not_mem_nil, or_false] at hy
    rcases hy with (hy | rfl | rfl) | hy
    · exact .inr ⟨y, by rw [hd]; simp [hy], rfl⟩
    · exact .inr ⟨x, by rw [hd]; simp, rfl⟩
    · exact .inl rfl
    · exact .inr ⟨y, by rw [hd]; simp [hy], rfl⟩
  refine ⟨by simp only; omega, by simp only; omega, by simpa using n1, by simpa using n2, ?_, fun y hy => ?_, ?_, fun a ha => ?_, fun y hy => ?_, fun i hi => ?_⟩
  · rw [hd, tile_app] at til
    rw [List.append_assoc, tile_app]
    cases hp : tileN 0 pre with
    | none => rw [hp] at til; cases til
    | some m =>
      rw [hp] at til
      simp only [Option.bind_some, tileN, List.cons_append, List.nil_append] at til ⊢
      split at til
      · rename_i hc
        have c1 : x.low = m ∧ x.low ≤ mid ∧ mid < 65536 := by omega
        have c2 : True ∧ mid + 1 ≤ x.high ∧ x.high < 65536 := ⟨trivial, by omega, by omega⟩
        have c3 : m ≤ mid := by omega
        simp only [c1, c2, c3, and_self, if_true]; exact til
      · cases til
  · simp only [List.length_set]
    rcases hmem y hy with e | ⟨z, hz, e⟩
    · omega
    · have := sh z hz; omega
  · rw [hd] at nd hn
    simp only [List.map_append, List.map_cons, List.map_nil, List.nodup_append, List.nodup_cons, List.mem_map, List.mem_cons, List.mem_append] at nd ⊢
    simp only [List.mem_append, List.mem_cons] at hn
    grind
  · rcases List.mem_or_eq_of_mem_set ha with ha | rfl
    · simpa using rng a ha
    · simp only [List.length_set]; omega
  · rcases hmem y hy with e | ⟨z, hz, e⟩
    · rw [e, List.getD_eq_getElem?_getD, List.getElem?_set, if_pos rfl, if_pos (by omega)]; rfl
    · have h1 := liv z hz
      have h2 := hn z hz
      have h3 := sh z hz
      rw [← e, List.getD_eq_getElem?_getD, List.getElem?_set, if_neg (by omega), ← List.getD_eq_getElem?_getD]; exact h1
  · simp only [List.length_set] at hi ⊢
    exact chase_set _ _ _ _ (by omega) (ch i hi) fun b hb => (rng b hb).2
theorem val_merge {d : Directory} (h : Val d) {pre post : List Span} {x y : Span} (hd : d.l = pre ++ x :: y :: post) {f t : Int} (hft : (x.shard = f ∧ y.shard = t) ∨ (x.shard = t ∧ y.shard = f)) (hv : d.version ≠ 1099511627776) :
    Val ⟨d.version + 1, pre ++ [⟨x.low, y.high, t⟩] ++ post, d.forward.set f.toNat t⟩ := by
  obtain ⟨v1, v2, n1, n2, til, sh, nd, rng, liv, ch⟩ := h
  have hx : x ∈ d.l := by rw [hd]; simp
  have hy : y ∈ d.l := by rw [hd]; simp
  have s1 := sh x hx
  have s2 := sh y hy
  have hne : x.shard ≠ y.shard := by
    rw [hd] at nd
    simp only [List.map_append, List.map_cons, List.nodup_append, List.nodup_cons, List.mem_cons] at nd
    exact fun e => nd.2.1.1 (.inl e)
  have hmem : ∀ z : Span, z ∈ pre ++ [⟨x.low, y.high, t⟩] ++ post → z.shard ≠ f ∧ ∃ q ∈ d.l, q.shard = z.shard := by
    intro z hz
    rw [hd] at nd
    simp only [List.map_append, List.map_cons, List.nodup_append, List.nodup_cons, List.mem_map, List.mem_cons] at nd
    simp only [List.mem_append, List.mem_cons, List.not_mem_nil, or_false] at hz
    rcases hz with (hz | rfl) | hz
    · refine ⟨?_, z, by rw [hd]; simp [hz], rfl⟩
      grind
    · refine ⟨by simp only; omega, ?_⟩
      rcases hft with ⟨_, e⟩ | ⟨e, _⟩
      · exact ⟨y, hy, e⟩
      · exact ⟨x, hx, e⟩
    · refine ⟨?_, z, by rw [hd]; simp [hz], rfl⟩
      grind
  have hlt : d.forward.getD t.toNat 0 = -1 := by
    rcases hft with ⟨_, e⟩ | ⟨e, _⟩
    · rw [← e]; exact liv y hy
    · rw [← e]; exact liv x hx
  have hrng : ∀ a ∈ d.forward.set f.toNat t, -1 ≤ a ∧ a < d.forward.length := fun a ha => by
    rcases List.mem_or_eq_of_mem_set ha with ha | rfl
    · exact rng a ha
    · omega
  refine ⟨by simp only; omega, by simp only; omega, by simpa using n1, by simpa using n2, ?_, fun z hz => ?_, ?_, fun a ha => ?_, fun z hz => ?_, fun i hi => ?_⟩
  · rw [hd, tile_app] at til
    rw [List.append_assoc, tile_app]
    cases hp : tileN 0 pre with
    | none => rw [hp] at til; cases til
    | some m =>
      rw [hp] at til
      simp only [Option.bind_some, tileN, List.cons_append, List.nil_append] at til ⊢
      split at til
      · rename_i hc
        split at til
        · rename_i hc2
          rw [if_pos (by omega)]; exact til
        · cases til
      · cases til
  · simp only [List.length_set]
    obtain ⟨_, q, hq, e⟩ := hmem z hz
    have := sh q hq; omega
  · rw [hd] at nd
    simp only [List.map_append, List.map_cons, List.map_nil, List.nodup_append, List.nodup_cons, List.mem_map, List.mem_cons, List.mem_append] at nd ⊢
    grind
  · simpa using hrng a ha
  · obtain ⟨h1, q, hq, e⟩ := hmem z hz
    have h3 := sh q hq
    have h4 := liv q hq
    rw [← e, List.getD_eq_getElem?_getD, List.getElem?_set, if_neg (by omega), ← List.getD_eq_getElem?_getD]; exact h4
  · simp only [List.length_set] at hi ⊢
    have := chase_set2 d.forward f.toNat t (by omega) (by omega) (by omega) hlt (fun b hb => (rng b hb).2) d.forward.length i (by omega) (ch i hi)
    have := chase_short (d.forward.set f.toNat t) (by rw [List.length_set]; exact hrng) _ i (by rw [List.length_set]; omega) this
    rwa [List.length_set] at this
end Go.Proofs.Ytkdjbfjohbiemaa

namespace Go.Proofs.Ytkdjbfjohbiemaa
open Go Go.Sim
set_option linter.unusedSimpArgs false
set_option linter.unusedVariables false
set_option maxHeartbeats 10000000
set_option maxRecDepth 40000
theorem awake10_ok : callL G N_law10_awake [] [] = some (.d (.bool true), []) := by
  obtain ⟨d, hd, h1, h2, h3, h4, h5⟩ : ∃ d : Directory, newD 3 2 = (d, 0) ∧ d.l.length = 2 ∧ d.forward.length = 3 ∧ ownerD d 32767 = 0 ∧ ownerD d 32768 = 1 ∧ homeD d 2 = -1 := ⟨_, rfl, by decide, by decide, by decide, by decide, by decide⟩
  have e0 := dnew_ok 3 2
  rw [hd] at e0
  have e1 := downer_ok d 32767 (by omega) (by omega)
  have e2 := downer_ok d 32768 (by omega) (by omega)
  have e3 := dhome_ok d 2 (by omega) (by omega)
  rw [h3] at e1
  rw [h4] at e2
  rw [h5] at e3
  clear hd h3 h4 h5
  rw [callL_code g_law10_awake (by simp)]; simp -implicitDefEqProofs (maxSteps := 4000000) (disch := omega) only [c_law10_awake, r_law10_awake, getDT, go_sem, *]; (try simp only [pA, pB, pC, pD, pE, pF, pG, pH, pI, pJ, pK, pL, pM, pN, pO, pP, if_true, if_false]); repeat' (first | done | rfl | (refine iteC (fun hq => ?_) (fun hq => ?_) <;> (try (first | (exfalso; omega) | contradiction)) <;> (try simp -implicitDefEqProofs (maxSteps := 4000000) (disch := omega) only [getDT, go_sem, *]) <;> (try simp only [pA, pB, pC, pD, pE, pF, pG, pH, pI, pJ, pK, pL, pM, pN, pO, pP, if_true, if_false]))); (all_goals try rfl); (all_goals try (repeat' (first | done | rfl | (exfalso; omega) | contradiction | (refine iteR (fun hq => ?_) (fun hq => ?_)))))
theorem applyD_len (d : Directory) (e : Edit) (hL : d.l.length ≤ 1000000) (hF : d.forward.length ≤ 1000000) : (applyD d e).1.l.length ≤ 1000002 ∧ (applyD d e).1.forward.length ≤ 1000000 := by
  unfold applyD
  split
  · simp [zDirectory]
  split
  · simp [zDirectory]
  split
  · simp [zDirectory]
  split
  · simp [zDirectory]
  split
  · unfold splitD
    split
    · simp [zDirectory]
    split
    · simp [zDirectory]
    · simp; omega
  · unfold mergeD
    split
    · simp [zDirectory]
    · simp; omega
theorem agrees_ok (d : Directory) (e : Edit) (r s : Int) (hL : d.l.length ≤ 1000000) (hF : d.forward.length ≤ 1000000) : callL G N_law10_agrees [.d (eDirectory d), .d (eEdit e), .d (.int .i64 r), .d (.int .i64 s)] [] = some (.d (.bool true), []) := by
  have e1 := dapply_ok d e hL hF
  have e2 := r10apply_ok d e hL
  have e3 := dSpan_ok d s (by omega) (by omega)
  have e4 := r10span_ok d s (by omega)
  have e5 := same_Directory (applyD d e).1 (applyD d e).1 (by have := applyD_len d e hL hF; omega) (by have := applyD_len d e hL hF; omega)
  have e6 := dValidate_ok d (by omega) (by omega)
  have e7 := r10val_ok d (by omega)
  have e8 := downer_ok d r (by omega) (by omega)
  have e9 := r10owner_ok d r (by omega)
  have e10 := dhome_ok d s (by omega) (by omega)
  have e11 := r10home_ok d s (by omega)
  rw [decide_eq_true rfl] at e5
  generalize applyD d e = x at *
  generalize spanD d s = y at *
  generalize dirV d = z at *
  obtain ⟨y1, y2⟩ := y
  obtain ⟨x1, x2⟩ := x
  rw [callL_code g_law10_agrees (by simp)]; simp -implicitDefEqProofs (maxSteps := 4000000) (disch := omega) only [c_law10_agrees, r_law10_agrees, getDT, go_sem, *]; (try simp only [pA, pB, pC, pD, pE, pF, pG, pH, pI, pJ, pK, pL, pM, pN, pO, pP, if_true, if_false]); repeat' (first | done | rfl | (refine iteC (fun hq => ?_) (fun hq => ?_) <;> (try (first | (exfalso; omega) | contradiction)) <;> (try simp -implicitDefEqProofs (maxSteps := 4000000) (disch := omega) only [getDT, go_sem, *]) <;> (try simp only [pA, pB, pC, pD, pE, pF, pG, pH, pI, pJ, pK, pL, pM, pN, pO, pP, if_true, if_false]))); (all_goals try rfl); (all_goals try (repeat' (first | done | rfl | (exfalso; omega) | contradiction | (refine iteR (fun hq => ?_) (fun hq => ?_)))))
end Go.Proofs.Ytkdjbfjohbiemaa

namespace Go.Proofs.Ytkdjbfjohbiemaa
open Go Go.Sim
set_option linter.unusedSimpArgs false
set_option linter.unusedVariables false
set_option maxHeartbeats 10000000
set_option maxRecDepth 40000
/-- What a change that is accepted does. -/
inductive Chg (d : Directory) (e : Edit) : Directory → Prop
  | split {pre post : List Span} {x : Span} (hk : e.kind = 1) (hd : d.l = pre ++ x :: post) (hf : x.shard = e.from_) (hm : x.low ≤ e.mid ∧ e.mid < x.high) (ht : 0 ≤ e.to ∧ e.to < d.forward.length) (hn : ∀ y ∈ d.l, y.shard ≠ e.to) (hv : d.version ≠ 1099511627776) :
      Chg d e ⟨d.version + 1, pre ++ [⟨x.low, e.mid, x.shard⟩, ⟨e.mid + 1, x.high, e.to⟩] ++ post, d.forward.set e.to.toNat (-1)⟩
  | merge {pre post : List Span} {x y : Span} (hk : e.kind = 2) (hd : d.l = pre ++ x :: y :: post) (hf : (x.shard = e.from_ ∧ y.shard = e.to) ∨ (x.shard = e.to ∧ y.shard = e.from_)) (hv : d.version ≠ 1099511627776) :
      Chg d e ⟨d.version + 1, pre ++ [⟨x.low, y.high, e.to⟩] ++ post, d.forward.set e.from_.toNat e.to⟩
theorem chg_of {d : Directory} {e : Edit} (h : Val d) (h0 : (applyD d e).2 = 0) : Chg d e (applyD d e).1 := by
  have hv := of_val h
  unfold applyD at h0 ⊢
  rw [if_neg (by rw [hv]; simp)] at h0 ⊢
  split at h0
  · cases h0
  rename_i c1
  rw [if_neg c1]
  split at h0
  · cases h0
  rename_i c2
  rw [if_neg c2]
  split at h0
  · cases h0
  rename_i c3
  rw [if_neg c3]
  split at h0
  · rename_i c4
    rw [if_pos c4]
    unfold splitD at h0 ⊢
    split at h0
    · cases h0
    rename_i c5
    rw [if_neg c5]
    split at h0
    · cases h0
    rename_i c6
    rw [if_neg c6]
    obtain ⟨i, hi, e1, hs⟩ := findS_nat (l := d.l) (s := e.from_) (by omega)
    rw [e1, Int.toNat_natCast, getDT hi] at c6 ⊢
    have := Chg.split (d := d) (e := e) (pre := d.l.take i) (post := d.l.drop (i + 1)) (x := d.l[i]) c4 (by rw [List.getElem_cons_drop, List.take_append_drop]) hs (by omega) (by omega) (fun y hy e2 => by
      have := (live_iff d.l e.to).2 ⟨y, hy, e2⟩
      omega) c1
    rw [hs] at this
    exact this
  · rename_i c4
    rw [if_neg c4]
    have hk : e.kind = 2 := by omega
    unfold mergeD at h0 ⊢
    split at h0
    · cases h0
    rename_i c5
    rw [if_neg c5]
    obtain ⟨i, hi, e1, hs1⟩ := findS_nat (l := d.l) (s := e.from_) (by omega)
    obtain ⟨k, hk2, e2, hs2⟩ := findS_nat (l := d.l) (s := e.to) (by omega)
    obtain ⟨f, hf⟩ : ∃ f : Nat, min (findS d.l e.from_) (findS d.l e.to) = f := ⟨(min (findS d.l e.from_) (findS d.l e.to)).toNat, by omega⟩
    have hf1 : f + 1 < d.l.length := by omega
    rw [hf, Int.toNat_natCast, getDT (show f < d.l.length by omega), getDT hf1]
    refine Chg.merge (d := d) (e := e) (pre := d.l.take f) (post := d.l.drop (f + 2)) (x := d.l[f]) (y := d.l[f + 1]) hk (by rw [List.getElem_cons_drop, List.getElem_cons_drop, List.take_append_drop]) ?_ c1
    have hcase : (i = f ∧ k = f + 1) ∨ (i = f + 1 ∧ k = f) := by omega
    rcases hcase with ⟨q1, q2⟩ | ⟨q1, q2⟩
    · subst q1 q2; exact .inl ⟨hs1, hs2⟩
    · subst q1 q2; exact .inr ⟨hs2, hs1⟩
theorem Chg.val {d x : Directory} {e : Edit} (h : Val d) (hc : Chg d e x) : Val x := by
  cases hc with
  | split hk hd hf hm ht hn hv => exact val_split h hd hm ht hn hv
  | merge hk hd hf hv => exact val_merge h hd hf hv
theorem Chg.same {d x : Directory} {e : Edit} (hc : Chg d e x) : x.version = d.version + 1 ∧ x.forward.length = d.forward.length := by
  cases hc <;> simp
theorem Chg.len {d x : Directory} {e : Edit} (hc : Chg d e x) : 1 ≤ x.l.length ∧ x.l.length ≤ d.l.length + 1 := by
  cases hc with
  | split hk hd => rw [hd]; simp; omega
  | merge hk hd => rw [hd]; simp; omega
theorem spansN_tile (live : Nat) (h1 : 1 ≤ live) (h2 : live ≤ 6) : tileN 0 (spansN live live) = some 65536 := by
  have : live = 1 ∨ live = 2 ∨ live = 3 ∨ live = 4 ∨ live = 5 ∨ live = 6 := by omega
  rcases this with rfl | rfl | rfl | rfl | rfl | rfl <;> decide
theorem val_new {slots live : Nat} (h1 : 1 ≤ live) (h2 : live ≤ slots) (h3 : slots ≤ 6) : Val (dirN slots live) := by
  unfold dirN
  refine ⟨by simp, by simp, by simp; omega, by simp; omega, spansN_tile live h1 (by omega), fun x hx => ?_, ?_, fun a ha => ?_, fun x hx => ?_, fun i hi => ?_⟩
  · simp only [spansN, List.mem_map, List.mem_range] at hx
    obtain ⟨k, hk, rfl⟩ := hx
    simp only [spanI, List.length_replicate]; omega
  · have : (spansN live live).map Span.shard = (List.range live).map (fun k : Nat => (k : Int)) := by
      unfold spansN; rw [List.map_map]; rfl
    rw [this]
    exact List.pairwise_map.2 (List.nodup_range.imp fun {a b} hab e => hab (Int.ofNat.inj e))
  · have := List.eq_of_mem_replicate ha
    simp only [List.length_replicate]; omega
  · simp only [spansN, List.mem_map, List.mem_range] at hx
    obtain ⟨k, hk, rfl⟩ := hx
    simp only [spanI]
    rw [Int.toNat_natCast, List.getD_eq_getElem?_getD, List.getElem?_replicate, if_pos (by omega)]; rfl
  · simp only [List.length_replicate] at hi ⊢
    obtain ⟨n, rfl⟩ : ∃ n, slots = n + 1 := ⟨slots - 1, by omega⟩
    rw [chase, if_pos (by omega), Int.toNat_natCast, List.getD_eq_getElem?_getD, List.getElem?_replicate, if_pos hi]
    simp only [Option.getD_some]
    rw [chase_neg _ _ _ (by omega)]; omega
theorem newD_val {slots live : Int} (h1 : 1 ≤ live) (h2 : live ≤ slots) (h3 : slots ≤ 6) : (newD slots live).2 = 0 ∧ Val (newD slots live).1 ∧ (newD slots live).1.forward.length = slots.toNat ∧ (newD slots live).1 = dirN slots.toNat live.toNat := by
  unfold newD
  rw [if_neg (by omega)]
  exact ⟨rfl, val_new (by omega) (by omega) (by omega), by simp [dirN], rfl⟩
end Go.Proofs.Ytkdjbfjohbiemaa

namespace Go.Proofs.Ytkdjbfjohbiemaa
open Go Go.Sim
set_option linter.unusedSimpArgs false
set_option linter.unusedVariables false
set_option maxHeartbeats 10000000
set_option maxRecDepth 40000
theorem pick_ok (l : List Int) (a : Nat) (xs : List Int) (hL : l.length ≤ 4000) (h1 : 1 ≤ xs.length) (h2 : xs.length ≤ 1000) : ∃ i : Nat, i < xs.length ∧ callL G N_base_Src_Pick [.ref 1000000 0 0, .d (.sl (ints xs))] [(1000000, srcO l a)] = some (.d (.int .i64 (xs.getD i 0)), [(1000000, srcO l (rawD l a).2)]) := by
  have hn := n_ok l a xs.length hL (by omega) (by omega)
  have hb := nD_in l a (n := xs.length) (by omega)
  obtain ⟨i, hi⟩ : ∃ i : Nat, nD l a xs.length = i := ⟨(nD l a xs.length).toNat, by omega⟩
  rw [hi] at hn hb
  have hlt : i < xs.length := by omega
  refine ⟨i, hlt, ?_⟩
  rw [getDT hlt]
  clear hb hi
  rw [callL_code g_base_Src_Pick (by simp)]; simp -implicitDefEqProofs (maxSteps := 4000000) (disch := omega) only [c_base_Src_Pick, r_base_Src_Pick, getDT, go_sem, *]; (try simp only [pA, pB, pC, pD, pE, pF, pG, pH, pI, pJ, pK, pL, pM, pN, pO, pP, if_true, if_false]); repeat' (first | done | rfl | (refine iteC (fun hq => ?_) (fun hq => ?_) <;> (try (first | (exfalso; omega) | contradiction)) <;> (try simp -implicitDefEqProofs (maxSteps := 4000000) (disch := omega) only [getDT, go_sem, *]) <;> (try simp only [pA, pB, pC, pD, pE, pF, pG, pH, pI, pJ, pK, pL, pM, pN, pO, pP, if_true, if_false]))); (all_goals try rfl); (all_goals try (repeat' (first | done | rfl | (exfalso; omega) | contradiction | (refine iteR (fun hq => ?_) (fun hq => ?_)))))
def okE (slots : Int) (e : Edit) : Prop := (e.kind = 1 ∨ e.kind = 2) ∧ 0 ≤ e.from_ ∧ e.from_ < slots ∧ 0 ≤ e.to ∧ e.to < slots ∧ 0 ≤ e.mid ∧ e.mid ≤ 65534
theorem edit_ok (l : List Int) (a : Nat) (slots : Int) (hL : l.length ≤ 4000) (h1 : 1 ≤ slots) (h2 : slots ≤ 100) : ∃ e a', okE slots e ∧ callL G N_base_Src_Edit [.ref 1000000 0 0, .d (.int .i64 slots)] [(1000000, srcO l a)] = some (.d (eEdit e), [(1000000, srcO l a')]) := by
  have e1 := range_ok l a 1 2 hL (by omega) (by omega) (by omega) (by omega)
  obtain ⟨a1, q1⟩ : ∃ a1, a1 = (rawD l a).2 := ⟨_, rfl⟩
  have b1 := nD_in l a (n := 2 - 1 + 1) (by omega)
  have e2 := n_ok l a1 slots hL (by omega) (by omega)
  obtain ⟨a2, q2⟩ : ∃ a2, a2 = (rawD l a1).2 := ⟨_, rfl⟩
  have b2 := nD_in l a1 (n := slots) (by omega)
  have e3 := n_ok l a2 slots hL (by omega) (by omega)
  obtain ⟨a3, q3⟩ : ∃ a3, a3 = (rawD l a2).2 := ⟨_, rfl⟩
  have b3 := nD_in l a2 (n := slots) (by omega)
  obtain ⟨i, hi, e4⟩ := pick_ok l a3 [0, 10000, 20000, 32767, 32768, 40000, 50000, 65534] hL (by simp) (by simp)
  have b4 : 0 ≤ [0, 10000, 20000, 32767, 32768, 40000, 50000, 65534].getD i (0 : Int) ∧ [0, 10000, 20000, 32767, 32768, 40000, 50000, 65534].getD i (0 : Int) ≤ 65534 := by
    have : ∀ x ∈ ([0, 10000, 20000, 32767, 32768, 40000, 50000, 65534] : List Int), 0 ≤ x ∧ x ≤ 65534 := by decide
    rw [getDT hi]; exact this _ (List.getElem_mem _)
  generalize [0, 10000, 20000, 32767, 32768, 40000, 50000, 65534].getD i (0 : Int) = m at *
  rw [← q1] at e1
  rw [← q2] at e2
  rw [← q3] at e3
  simp only [ints, List.map_cons, List.map_nil] at e4
  generalize nD l a (2 - 1 + 1) = k at *
  generalize nD l a1 slots = f at *
  generalize nD l a2 slots = t at *
  clear q1 q2 q3 hi
  by_cases c : 1 + k = 1
  · refine ⟨⟨1 + k, f, t, m⟩, (rawD l a3).2, by unfold okE; simp only; omega, ?_⟩
    simp only [eEdit]
    rw [callL_code g_base_Src_Edit (by simp)]; simp -implicitDefEqProofs (maxSteps := 4000000) (disch := omega) only [c_base_Src_Edit, r_base_Src_Edit, getDT, go_sem, *]; (try simp only [pA, pB, pC, pD, pE, pF, pG, pH, pI, pJ, pK, pL, pM, pN, pO, pP, if_true, if_false]); repeat' (first | done | rfl | (refine iteC (fun hq => ?_) (fun hq => ?_) <;> (try (first | (exfalso; omega) | contradiction)) <;> (try simp -implicitDefEqProofs (maxSteps := 4000000) (disch := omega) only [getDT, go_sem, *]) <;> (try simp only [pA, pB, pC, pD, pE, pF, pG, pH, pI, pJ, pK, pL, pM, pN, pO, pP, if_true, if_false]))); (all_goals try rfl); (all_goals try (repeat' (first | done | rfl | (exfalso; omega) | contradiction | (refine iteR (fun hq => ?_) (fun hq => ?_)))))
  · refine ⟨⟨1 + k, f, t, 0⟩, a3, by unfold okE; simp only; omega, ?_⟩
    simp only [eEdit]
    clear e4
    rw [callL_code g_base_Src_Edit (by simp)]; simp -implicitDefEqProofs (maxSteps := 4000000) (disch := omega) only [c_base_Src_Edit, r_base_Src_Edit, getDT, go_sem, *]; (try simp only [pA, pB, pC, pD, pE, pF, pG, pH, pI, pJ, pK, pL, pM, pN, pO, pP, if_true, if_false]); repeat' (first | done | rfl | (refine iteC (fun hq => ?_) (fun hq => ?_) <;> (try (first | (exfalso; omega) | contradiction)) <;> (try simp -implicitDefEqProofs (maxSteps := 4000000) (disch := omega) only [getDT, go_sem, *]) <;> (try simp only [pA, pB, pC, pD, pE, pF, pG, pH, pI, pJ, pK, pL, pM, pN, pO, pP, if_true, if_false]))); (all_goals try rfl); (all_goals try (repeat' (first | done | rfl | (exfalso; omega) | contradiction | (refine iteR (fun hq => ?_) (fun hq => ?_)))))
def dirS (l : List Int) (n : Int) (p : Directory × Nat × Nat) : St := ⟨[(0, .ref 1000000 0 0), (2, .ref 2 0 0), (3, .d (.int .i64 n)), (4, .ref 4 0 0), (6, .d (.int .i64 p.2.2)), (1000000, .ref 1000000 1 0)], [(2, .row [.agg [.d (.int .i64 0), .xsl [], .xsl []]]), (4, .row [.d (eDirectory p.1)]), (1000000, srcO l p.2.1)]⟩
theorem dir_loop (l : List Int) (n : Nat) (hL : l.length ≤ 4000) (h1 : 1 ≤ n) (h2 : n ≤ 6) : ∀ p : Directory × Nat × Nat, (Val p.1 ∧ p.1.forward.length = n ∧ p.1.l.length + p.2.2 ≤ 20) → ∃ d' a', Val d' ∧ d'.forward.length = n ∧ d'.l.length ≤ 20 ∧ loopL G [] l_base_Src_Directory_0 (dirS l n p) = some (.exit 0, ⟨[(2, .ref 2 0 0), (4, .ref 4 0 0), (1000000, .ref 1000000 1 0)], [(2, .row [.agg [.d (.int .i64 0), .xsl [], .xsl []]]), (4, .row [.d (eDirectory d')]), (1000000, srcO l a')]⟩) := by
  refine loop_indP (fun p : Directory × Nat × Nat => p.2.2) (fun p : Directory × Nat × Nat => Val p.1 ∧ p.1.forward.length = n ∧ p.1.l.length + p.2.2 ≤ 20) (dirS l n) (fun _ r => ∃ d' a', Val d' ∧ d'.forward.length = n ∧ d'.l.length ≤ 20 ∧ r = some (.exit 0, ⟨[(2, .ref 2 0 0), (4, .ref 4 0 0), (1000000, .ref 1000000 1 0)], [(2, .row [.agg [.d (.int .i64 0), .xsl [], .xsl []]]), (4, .row [.d (eDirectory d')]), (1000000, srcO l a')]⟩)) fun ⟨d, a, k⟩ ⟨hv, hf, hk⟩ L ih => ?_
  simp only [dirS] at ih hv hf hk ⊢
  simp only [l_base_Src_Directory_0]
  by_cases h0 : 0 < k
  · obtain ⟨e, a1, he, hc⟩ := edit_ok l a n hL (by omega) (by omega)
    have hp := r10apply_ok d e (by omega)
    have hx := fun h => (chg_of (e := e) hv h)
    generalize applyD d e = x at *
    obtain ⟨x1, x2⟩ := x
    simp only at hp hx
    by_cases c : x2 = 0
    · have hg := hx c
      have i1 := ih (x1, a1, k - 1) ⟨hg.val hv, hg.same.2.trans hf, by have := hg.len; simp only; omega⟩ (by simp only; omega)
      simp only [show (((k - 1 : Nat)) : Int) = (k : Int) - 1 by omega] at i1
      obtain ⟨d', a', w1, w2, w3, i1⟩ := i1
      refine ⟨d', a', w1, w2, w3, ?_⟩
      subst c
      have hk' : k ≤ 20 := by omega
      simp only [Int.natCast_add, Int.natCast_one, Int.natCast_zero, Int.natCast_mul, Int.cast_ofNat_Int, List.length_append, List.length_map, List.map_nil, List.length_nil, List.map_append, List.map_cons, List.length_cons, Nat.zero_add, srcO, mapSet] at i1
      clear ih hx hg hv he hf hk
      (try simp -implicitDefEqProofs (maxSteps := 4000000) (disch := omega) only [getDT, go_sem, *]); (try simp only [pA, pB, pC, pD, pE, pF, pG, pH, pI, pJ, pK, pL, pM, pN, pO, pP, if_true, if_false]); repeat' (first | done | rfl | (refine iteC (fun hq => ?_) (fun hq => ?_) <;> (try (first | (exfalso; omega) | contradiction)) <;> (try simp -implicitDefEqProofs (maxSteps := 4000000) (disch := omega) only [getDT, go_sem, *]) <;> (try simp only [pA, pB, pC, pD, pE, pF, pG, pH, pI, pJ, pK, pL, pM, pN, pO, pP, if_true, if_false]))); (all_goals try rfl); (all_goals try (repeat' (first | done | rfl | (exfalso; omega) | contradiction | (refine iteR (fun hq => ?_) (fun hq => ?_)))))
    · have i1 := ih (d, a1, k - 1) ⟨hv, hf, by simp only; omega⟩ (by simp only; omega)
      simp only [show (((k - 1 : Nat)) : Int) = (k : Int) - 1 by omega] at i1
      obtain ⟨d', a', w1, w2, w3, i1⟩ := i1
      refine ⟨d', a', w1, w2, w3, ?_⟩
      have hk' : k ≤ 20 := by omega
      simp only [Int.natCast_add, Int.natCast_one, Int.natCast_zero, Int.natCast_mul, Int.cast_ofNat_Int, List.length_append, List.length_map, List.map_nil, List.length_nil, List.map_append, List.map_cons, List.length_cons, Nat.zero_add, srcO, mapSet] at i1
      clear ih hx hv he hf hk
      (try simp -implicitDefEqProofs (maxSteps := 4000000) (disch := omega) only [getDT, go_sem, *]); (try simp only [pA, pB, pC, pD, pE, pF, pG, pH, pI, pJ, pK, pL, pM, pN, pO, pP, if_true, if_false]); repeat' (first | done | rfl | (refine iteC (fun hq => ?_) (fun hq => ?_) <;> (try (first | (exfalso; omega) | contradiction)) <;> (try simp -implicitDefEqProofs (maxSteps := 4000000) (disch := omega) only [getDT, go_sem, *]) <;> (try simp only [pA, pB, pC, pD, pE, pF, pG, pH, pI, pJ, pK, pL, pM, pN, pO, pP, if_true, if_false]))); (all_goals try rfl); (all_goals try (repeat' (first | done | rfl | (exfalso; omega) | contradiction | (refine iteR (fun hq => ?_) (fun hq => ?_)))))
  · refine ⟨d, a, hv, hf, by omega, ?_⟩
    clear ih hv hf hk
    (try simp -implicitDefEqProofs (maxSteps := 4000000) (disch := omega) only [getDT, go_sem, *]); (try simp only [pA, pB, pC, pD, pE, pF, pG, pH, pI, pJ, pK, pL, pM, pN, pO, pP, if_true, if_false]); repeat' (first | done | rfl | (refine iteC (fun hq => ?_) (fun hq => ?_) <;> (try (first | (exfalso; omega) | contradiction)) <;> (try simp -implicitDefEqProofs (maxSteps := 4000000) (disch := omega) only [getDT, go_sem, *]) <;> (try simp only [pA, pB, pC, pD, pE, pF, pG, pH, pI, pJ, pK, pL, pM, pN, pO, pP, if_true, if_false]))); (all_goals try rfl); (all_goals try (repeat' (first | done | rfl | (exfalso; omega) | contradiction | (refine iteR (fun hq => ?_) (fun hq => ?_)))))
theorem directory_ok (l : List Int) (a : Nat) (hL : l.length ≤ 4000) : ∃ d a', Val d ∧ d.l.length ≤ 20 ∧ callL G N_base_Src_Directory [.ref 1000000 0 0] [(1000000, srcO l a)] = some (.d (eDirectory d), [(1000000, srcO l a')]) := by
  have e1 := range_ok l a 1 6 hL (by omega) (by omega) (by omega) (by omega)
  have b1 := nD_in l a (n := 6 - 1 + 1) (by omega)
  obtain ⟨a1, q1⟩ : ∃ a1, a1 = (rawD l a).2 := ⟨_, rfl⟩
  obtain ⟨n, hn⟩ : ∃ n : Nat, 1 + nD l a (6 - 1 + 1) = n := ⟨(1 + nD l a (6 - 1 + 1)).toNat, by omega⟩
  have e2 := range_ok l a1 1 n hL (by omega) (by omega) (by omega) (by omega)
  have b2 := nD_in l a1 (n := n - 1 + 1) (by omega)
  obtain ⟨a2, q2⟩ : ∃ a2, a2 = (rawD l a1).2 := ⟨_, rfl⟩
  have e3 := r10new_ok n (1 + nD l a1 (n - 1 + 1))
  obtain ⟨v1, v2, v3, v4⟩ := newD_val (slots := n) (live := 1 + nD l a1 (n - 1 + 1)) (by omega) (by omega) (by omega)
  have e4 := n_ok l a2 8 hL (by omega) (by omega)
  have b4 := nD_in l a2 (n := 8) (by omega)
  obtain ⟨a3, q3⟩ : ∃ a3, a3 = (rawD l a2).2 := ⟨_, rfl⟩
  obtain ⟨k, hk⟩ : ∃ k : Nat, nD l a2 8 = k := ⟨(nD l a2 8).toNat, by omega⟩
  have vl : (newD n (1 + nD l a1 (n - 1 + 1))).1.l.length ≤ 6 := by rw [v4]; simp only [dirN, spansN_len]; omega
  clear v4
  rw [v1] at e3
  rw [← q1, hn] at e1
  rw [← q2] at e2
  rw [← q3, hk] at e4
  rw [hk] at b4
  generalize (newD n (1 + nD l a1 (n - 1 + 1))).1 = d at *
  generalize nD l a1 (n - 1 + 1) = m at *
  obtain ⟨d', a', w1, w2, w3, i1⟩ := dir_loop l n hL (by omega) (by omega) (d, a3, k) ⟨v2, by simpa using v3, by simp only; omega⟩
  simp only [dirS] at i1
  refine ⟨d', a', w1, w3, ?_⟩
  clear q1 q2 q3 hn hk b1 v1 v2 v3 w1 w2
  rw [callL_code g_base_Src_Directory (by simp)]; simp -implicitDefEqProofs (maxSteps := 4000000) (disch := omega) only [c_base_Src_Directory, r_base_Src_Directory, getDT, go_sem, *]; (try simp only [pA, pB, pC, pD, pE, pF, pG, pH, pI, pJ, pK, pL, pM, pN, pO, pP, if_true, if_false]); repeat' (first | done | rfl | (refine iteC (fun hq => ?_) (fun hq => ?_) <;> (try (first | (exfalso; omega) | contradiction)) <;> (try simp -implicitDefEqProofs (maxSteps := 4000000) (disch := omega) only [getDT, go_sem, *]) <;> (try simp only [pA, pB, pC, pD, pE, pF, pG, pH, pI, pJ, pK, pL, pM, pN, pO, pP, if_true, if_false]))); (all_goals try rfl); (all_goals try (repeat' (first | done | rfl | (exfalso; omega) | contradiction | (refine iteR (fun hq => ?_) (fun hq => ?_)))))
end Go.Proofs.Ytkdjbfjohbiemaa
