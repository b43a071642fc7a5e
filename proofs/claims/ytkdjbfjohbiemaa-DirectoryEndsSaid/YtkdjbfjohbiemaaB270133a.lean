/-
  Parts of lists, in the forms that walks take.
  Directories of the reference: changes.
  Directories: owners and homes.
  Directories: changes.
  Directories: a change, as the reference has it.
  The laws of directories: agreement with the reference.
  The law of the last version of directories.
-/
import Derived.Test.YtkdjbfjohbiemaaBdb5de4e
import Derived.Test.YtkdjbfjohbiemaaB81d819b
set_option linter.unusedSimpArgs false
set_option linter.unusedVariables false
namespace Go.Sim
theorem takeMapF {α : Type} {f : α → D} {l : List α} {n : Nat} : (l.map f).take n = (l.take n).map f := by rw [List.map_take]
theorem dropMapF {α : Type} {f : α → D} {l : List α} {n : Nat} : (l.map f).drop n = (l.drop n).map f := by rw [List.map_drop]
theorem takeAll {α : Type} {l : List α} {n : Nat} (h : l.length ≤ n) : l.take n = l := List.take_of_length_le h
theorem dropAll {α : Type} {l : List α} {n : Nat} (h : l.length ≤ n) : l.drop n = [] := List.drop_of_length_le h
theorem takeGet {α : Type} {l : List α} {n k : Nat} (h : k < (l.take n).length) : (l.take n)[k]'h = l[k]'(by simp at h; omega) := by simp
theorem dropGet {α : Type} {l : List α} {n k : Nat} (h : k < (l.drop n).length) : (l.drop n)[k]'h = l[n + k]'(by simp at h; omega) := by simp
theorem neNilT {α : Type} {f : α → D} {l : List α} (h : ¬ l.length = 0) : (l.map f = []) = False := by
  apply eq_false
  intro e
  have := congrArg List.length e
  simp at this
  exact h (by rw [this]; rfl)
theorem minLeT {a b c : Nat} (h : min a b ≤ c) : (min a b ≤ c) = True := eq_true h
theorem minEqF {a b c : Nat} (h : ¬ min a b = c) : (min a b = c) = False := eq_false h
theorem addMinLeT {a b c d : Nat} (h : min a b + d ≤ c) : (min a b + d ≤ c) = True := eq_true h
attribute [go_sem] minLeT minEqF addMinLeT Option.toList_none Option.toList_some takeMapF dropMapF takeAll dropAll takeGet dropGet List.length_take List.length_drop neNilT List.map_eq_nil_iff
end Go.Sim

namespace Go.Proofs.Ytkdjbfjohbiemaa
open Go Go.Sim
set_option linter.unusedSimpArgs false
set_option linter.unusedVariables false
set_option maxHeartbeats 10000000
set_option maxRecDepth 40000
theorem tile_in : ∀ (l : List Span) (n m : Int), 0 ≤ n → tileN n l = some m → ∀ x ∈ l, 0 ≤ x.low ∧ x.low ≤ x.high ∧ x.high < 65536
  | [], _, _, _, _, x, hx => by cases hx
  | y :: l, n, m, h0, h, x, hx => by
    rw [tileN] at h
    split at h
    · rename_i hc
      cases hx with
      | head => omega
      | tail _ hx => exact tile_in l _ m (by omega) h x hx
    · cases h
theorem dirV_tile {d : Directory} (h : dirV d = 0) : tileN 0 d.l = some 65536 := by
  unfold dirV at h
  split at h
  · cases h
  split at h
  · cases h
  rename_i hc
  simpa using hc
def splitD (d : Directory) (e : Edit) : Directory × Int :=
  if findS d.l e.from_ < 0 ∨ 0 ≤ findS d.l e.to then (zDirectory, 7)
  else if e.mid < (d.l.getD (findS d.l e.from_).toNat zSpan).low ∨ (d.l.getD (findS d.l e.from_).toNat zSpan).high ≤ e.mid then (zDirectory, 1)
  else (⟨d.version + 1, d.l.take (findS d.l e.from_).toNat ++ [⟨(d.l.getD (findS d.l e.from_).toNat zSpan).low, e.mid, e.from_⟩, ⟨e.mid + 1, (d.l.getD (findS d.l e.from_).toNat zSpan).high, e.to⟩] ++ d.l.drop ((findS d.l e.from_).toNat + 1), d.forward.set e.to.toNat (-1)⟩, 0)
def mergeD (d : Directory) (e : Edit) : Directory × Int :=
  if findS d.l e.from_ < 0 ∨ findS d.l e.to < 0 ∨ (¬ findS d.l e.from_ - findS d.l e.to = 1 ∧ ¬ findS d.l e.to - findS d.l e.from_ = 1) then (zDirectory, 7)
  else (⟨d.version + 1, d.l.take (min (findS d.l e.from_) (findS d.l e.to)).toNat ++ [⟨(d.l.getD (min (findS d.l e.from_) (findS d.l e.to)).toNat zSpan).low, (d.l.getD ((min (findS d.l e.from_) (findS d.l e.to)).toNat + 1) zSpan).high, e.to⟩] ++ d.l.drop ((min (findS d.l e.from_) (findS d.l e.to)).toNat + 2), d.forward.set e.from_.toNat e.to⟩, 0)
def applyD (d : Directory) (e : Edit) : Directory × Int :=
  if dirV d ≠ 0 then (zDirectory, dirV d)
  else if d.version = 1099511627776 then (zDirectory, 6)
  else if ¬ e.kind = 1 ∧ ¬ e.kind = 2 then (zDirectory, 9)
  else if e.from_ < 0 ∨ (d.forward.length : Int) ≤ e.from_ ∨ e.to < 0 ∨ (d.forward.length : Int) ≤ e.to then (zDirectory, 4)
  else if e.kind = 1 then splitD d e else mergeD d e
theorem r10apply_ok (d : Directory) (e : Edit) (hL : d.l.length ≤ 1000000) : callL G N_ref10_Apply [.d (eDirectory d), .d (eEdit e)] [] = some (.d (.tup [eDirectory (applyD d e).1, .int .i64 (applyD d e).2]), []) := by
  have hval := r10val_ok d (by omega)
  have i1 := r10index_ok d e.from_ (by omega)
  have i2 := r10index_ok d e.to (by omega)
  have b1 := idxI_lt d.l (fun x => decide (x.shard = e.from_))
  have b2 := idxI_lt d.l (fun x => decide (x.shard = e.to))
  change -1 ≤ findS d.l e.from_ ∧ findS d.l e.from_ < d.l.length at b1
  change -1 ≤ findS d.l e.to ∧ findS d.l e.to < d.l.length at b2
  unfold applyD
  by_cases c0 : dirV d = 0
  · have hl := dirV_len c0
    rw [c0] at hval
    rw [if_neg (by rw [c0]; simp)]
    have htl := tile_in d.l 0 65536 (by omega) (dirV_tile c0)
    clear c0
    by_cases c1 : d.version = 1099511627776
    · rw [if_pos c1]
      rw [callL_code g_ref10_Apply (by simp)]; simp -implicitDefEqProofs (maxSteps := 4000000) (disch := omega) only [c_ref10_Apply, r_ref10_Apply, getDT, go_sem, *]; (try simp only [pA, pB, pC, pD, pE, pF, pG, pH, pI, pJ, pK, pL, pM, pN, pO, pP, if_true, if_false]); repeat' (first | done | rfl | (refine iteC (fun hq => ?_) (fun hq => ?_) <;> (try (first | (exfalso; omega) | contradiction)) <;> (try simp -implicitDefEqProofs (maxSteps := 4000000) (disch := omega) only [getDT, go_sem, *]) <;> (try simp only [pA, pB, pC, pD, pE, pF, pG, pH, pI, pJ, pK, pL, pM, pN, pO, pP, if_true, if_false]))); (all_goals try rfl); (all_goals try (repeat' (first | done | rfl | (exfalso; omega) | contradiction | (refine iteR (fun hq => ?_) (fun hq => ?_)))))
    rw [if_neg c1]
    by_cases c2 : ¬ e.kind = 1 ∧ ¬ e.kind = 2
    · rw [if_pos c2]
      obtain ⟨c2, c3⟩ := c2
      rw [callL_code g_ref10_Apply (by simp)]; simp -implicitDefEqProofs (maxSteps := 4000000) (disch := omega) only [c_ref10_Apply, r_ref10_Apply, getDT, go_sem, *]; (try simp only [pA, pB, pC, pD, pE, pF, pG, pH, pI, pJ, pK, pL, pM, pN, pO, pP, if_true, if_false]); repeat' (first | done | rfl | (refine iteC (fun hq => ?_) (fun hq => ?_) <;> (try (first | (exfalso; omega) | contradiction)) <;> (try simp -implicitDefEqProofs (maxSteps := 4000000) (disch := omega) only [getDT, go_sem, *]) <;> (try simp only [pA, pB, pC, pD, pE, pF, pG, pH, pI, pJ, pK, pL, pM, pN, pO, pP, if_true, if_false]))); (all_goals try rfl); (all_goals try (repeat' (first | done | rfl | (exfalso; omega) | contradiction | (refine iteR (fun hq => ?_) (fun hq => ?_)))))
    rw [if_neg c2]
    by_cases c3 : e.from_ < 0 ∨ (d.forward.length : Int) ≤ e.from_ ∨ e.to < 0 ∨ (d.forward.length : Int) ≤ e.to
    · rw [if_pos c3]
      have c4 : e.kind = 1 ∨ e.kind = 2 := by omega
      clear c2
      rcases c4 with c4 | c4
      · rw [callL_code g_ref10_Apply (by simp)]; simp -implicitDefEqProofs (maxSteps := 4000000) (disch := omega) only [c_ref10_Apply, r_ref10_Apply, getDT, go_sem, *]; (try simp only [pA, pB, pC, pD, pE, pF, pG, pH, pI, pJ, pK, pL, pM, pN, pO, pP, if_true, if_false]); repeat' (first | done | rfl | (refine iteC (fun hq => ?_) (fun hq => ?_) <;> (try (first | (exfalso; omega) | contradiction)) <;> (try simp -implicitDefEqProofs (maxSteps := 4000000) (disch := omega) only [getDT, go_sem, *]) <;> (try simp only [pA, pB, pC, pD, pE, pF, pG, pH, pI, pJ, pK, pL, pM, pN, pO, pP, if_true, if_false]))); (all_goals try rfl); (all_goals try (repeat' (first | done | rfl | (exfalso; omega) | contradiction | (refine iteR (fun hq => ?_) (fun hq => ?_)))))
      · rw [callL_code g_ref10_Apply (by simp)]; simp -implicitDefEqProofs (maxSteps := 4000000) (disch := omega) only [c_ref10_Apply, r_ref10_Apply, getDT, go_sem, *]; (try simp only [pA, pB, pC, pD, pE, pF, pG, pH, pI, pJ, pK, pL, pM, pN, pO, pP, if_true, if_false]); repeat' (first | done | rfl | (refine iteC (fun hq => ?_) (fun hq => ?_) <;> (try (first | (exfalso; omega) | contradiction)) <;> (try simp -implicitDefEqProofs (maxSteps := 4000000) (disch := omega) only [getDT, go_sem, *]) <;> (try simp only [pA, pB, pC, pD, pE, pF, pG, pH, pI, pJ, pK, pL, pM, pN, pO, pP, if_true, if_false]))); (all_goals try rfl); (all_goals try (repeat' (first | done | rfl | (exfalso; omega) | contradiction | (refine iteR (fun hq => ?_) (fun hq => ?_)))))
    rw [if_neg c3]
    unfold splitD mergeD
    generalize findS d.l e.from_ = i at *
    generalize findS d.l e.to = k at *
    by_cases c4 : e.kind = 1
    · rw [if_pos c4]
      clear c2
      by_cases c5 : i < 0 ∨ 0 ≤ k
      · rw [if_pos c5]
        rw [callL_code g_ref10_Apply (by simp)]; simp -implicitDefEqProofs (maxSteps := 4000000) (disch := omega) only [c_ref10_Apply, r_ref10_Apply, getDT, go_sem, *]; (try simp only [pA, pB, pC, pD, pE, pF, pG, pH, pI, pJ, pK, pL, pM, pN, pO, pP, if_true, if_false]); repeat' (first | done | rfl | (refine iteC (fun hq => ?_) (fun hq => ?_) <;> (try (first | (exfalso; omega) | contradiction)) <;> (try simp -implicitDefEqProofs (maxSteps := 4000000) (disch := omega) only [getDT, go_sem, *]) <;> (try simp only [pA, pB, pC, pD, pE, pF, pG, pH, pI, pJ, pK, pL, pM, pN, pO, pP, if_true, if_false]))); (all_goals try rfl); (all_goals try (repeat' (first | done | rfl | (exfalso; omega) | contradiction | (refine iteR (fun hq => ?_) (fun hq => ?_)))))
      rw [if_neg c5]
      have hlt : i.toNat < d.l.length := by omega
      obtain ⟨iN, hiN⟩ : ∃ n : Nat, i = n := ⟨i.toNat, by omega⟩
      subst hiN
      simp only [Int.toNat_natCast] at hlt ⊢
      rw [getDT hlt]
      by_cases c6 : e.mid < d.l[iN].low ∨ d.l[iN].high ≤ e.mid
      · rw [if_pos c6]
        rw [callL_code g_ref10_Apply (by simp)]; simp -implicitDefEqProofs (maxSteps := 4000000) (disch := omega) only [c_ref10_Apply, r_ref10_Apply, getDT, go_sem, *]; (try simp only [pA, pB, pC, pD, pE, pF, pG, pH, pI, pJ, pK, pL, pM, pN, pO, pP, if_true, if_false]); repeat' (first | done | rfl | (refine iteC (fun hq => ?_) (fun hq => ?_) <;> (try (first | (exfalso; omega) | contradiction)) <;> (try simp -implicitDefEqProofs (maxSteps := 4000000) (disch := omega) only [getDT, go_sem, *]) <;> (try simp only [pA, pB, pC, pD, pE, pF, pG, pH, pI, pJ, pK, pL, pM, pN, pO, pP, if_true, if_false]))); (all_goals try rfl); (all_goals try (repeat' (first | done | rfl | (exfalso; omega) | contradiction | (refine iteR (fun hq => ?_) (fun hq => ?_)))))
      rw [if_neg c6]
      have hti := htl d.l[iN] (List.getElem_mem _)
      clear htl
      by_cases c7 : iN = 0
      · subst c7
        rw [callL_code g_ref10_Apply (by simp)]; simp -implicitDefEqProofs (maxSteps := 4000000) (disch := omega) only [c_ref10_Apply, r_ref10_Apply, getDT, go_sem, *]; (try simp only [pA, pB, pC, pD, pE, pF, pG, pH, pI, pJ, pK, pL, pM, pN, pO, pP, if_true, if_false]); repeat' (first | done | rfl | (refine iteC (fun hq => ?_) (fun hq => ?_) <;> (try (first | (exfalso; omega) | contradiction)) <;> (try simp -implicitDefEqProofs (maxSteps := 4000000) (disch := omega) only [getDT, go_sem, *]) <;> (try simp only [pA, pB, pC, pD, pE, pF, pG, pH, pI, pJ, pK, pL, pM, pN, pO, pP, if_true, if_false]))); (all_goals try rfl); (all_goals try (repeat' (first | done | rfl | (exfalso; omega) | contradiction | (refine iteR (fun hq => ?_) (fun hq => ?_)))))
        all_goals simp only [eDirectory, eSpan, mapSet, List.map_cons, List.map_append, List.map_nil, List.nil_append, List.take_zero, List.cons_append]
      · rw [callL_code g_ref10_Apply (by simp)]; simp -implicitDefEqProofs (maxSteps := 4000000) (disch := omega) only [c_ref10_Apply, r_ref10_Apply, getDT, go_sem, *]; (try simp only [pA, pB, pC, pD, pE, pF, pG, pH, pI, pJ, pK, pL, pM, pN, pO, pP, if_true, if_false]); repeat' (first | done | rfl | (refine iteC (fun hq => ?_) (fun hq => ?_) <;> (try (first | (exfalso; omega) | contradiction)) <;> (try simp -implicitDefEqProofs (maxSteps := 4000000) (disch := omega) only [getDT, go_sem, *]) <;> (try simp only [pA, pB, pC, pD, pE, pF, pG, pH, pI, pJ, pK, pL, pM, pN, pO, pP, if_true, if_false]))); (all_goals try rfl); (all_goals try (repeat' (first | done | rfl | (exfalso; omega) | contradiction | (refine iteR (fun hq => ?_) (fun hq => ?_)))))
        all_goals simp only [eDirectory, eSpan, mapSet, List.map_cons, List.map_append, List.map_nil, List.nil_append, List.take_zero, List.cons_append, List.append_assoc]
    · rw [if_neg c4]
      have hk2 : e.kind = 2 := by omega
      clear c2
      by_cases c5 : i < 0 ∨ k < 0 ∨ ¬ i - k = 1 ∧ ¬ k - i = 1
      · rw [if_pos c5]
        rw [callL_code g_ref10_Apply (by simp)]; simp -implicitDefEqProofs (maxSteps := 4000000) (disch := omega) only [c_ref10_Apply, r_ref10_Apply, getDT, go_sem, *]; (try simp only [pA, pB, pC, pD, pE, pF, pG, pH, pI, pJ, pK, pL, pM, pN, pO, pP, if_true, if_false]); repeat' (first | done | rfl | (refine iteC (fun hq => ?_) (fun hq => ?_) <;> (try (first | (exfalso; omega) | contradiction)) <;> (try simp -implicitDefEqProofs (maxSteps := 4000000) (disch := omega) only [getDT, go_sem, *]) <;> (try simp only [pA, pB, pC, pD, pE, pF, pG, pH, pI, pJ, pK, pL, pM, pN, pO, pP, if_true, if_false]))); (all_goals try rfl); (all_goals try (repeat' (first | done | rfl | (exfalso; omega) | contradiction | (refine iteR (fun hq => ?_) (fun hq => ?_)))))
      rw [if_neg c5]
      obtain ⟨iN, hiN⟩ : ∃ n : Nat, i = n := ⟨i.toNat, by omega⟩
      obtain ⟨kN, hkN⟩ : ∃ n : Nat, k = n := ⟨k.toNat, by omega⟩
      subst hiN hkN
      obtain ⟨f, hf⟩ : ∃ f : Nat, min (iN : Int) (kN : Int) = f := ⟨(min (iN : Int) (kN : Int)).toNat, by omega⟩
      have hlt : f + 1 < d.l.length := by omega
      have hti := htl d.l[f] (List.getElem_mem _)
      have hti2 := htl d.l[f + 1] (List.getElem_mem _)
      clear htl
      rw [hf, Int.toNat_natCast, getDT (show f < d.l.length by omega), getDT hlt]
      have hcase : (iN = f ∧ kN = f + 1) ∨ (iN = f + 1 ∧ kN = f) := by omega
      have e2 : ((f : Int) + 1).toNat = f + 1 := by omega
      have e3 : ((f : Int) + 2).toNat = f + 2 := by omega
      clear hf
      rcases hcase with ⟨q1, q2⟩ | ⟨q1, q2⟩
      · subst q1 q2
        by_cases c7 : iN = 0
        · subst c7
          rw [callL_code g_ref10_Apply (by simp)]; simp -implicitDefEqProofs (maxSteps := 4000000) (disch := omega) only [c_ref10_Apply, r_ref10_Apply, e2, e3, getDT, go_sem, *]; (try simp only [pA, pB, pC, pD, pE, pF, pG, pH, pI, pJ, pK, pL, pM, pN, pO, pP, if_true, if_false]); repeat' (first | done | rfl | (refine iteC (fun hq => ?_) (fun hq => ?_) <;> (try (first | (exfalso; omega) | contradiction)) <;> (try simp -implicitDefEqProofs (maxSteps := 4000000) (disch := omega) only [e2, e3, getDT, go_sem, *]) <;> (try simp only [pA, pB, pC, pD, pE, pF, pG, pH, pI, pJ, pK, pL, pM, pN, pO, pP, if_true, if_false]))); (all_goals try rfl); (all_goals try (repeat' (first | done | rfl | (exfalso; omega) | contradiction | (refine iteR (fun hq => ?_) (fun hq => ?_)))))
          all_goals simp only [eDirectory, eSpan, mapSet, List.map_cons, List.map_append, List.map_nil, List.nil_append, List.take_zero, List.cons_append]
        · rw [callL_code g_ref10_Apply (by simp)]; simp -implicitDefEqProofs (maxSteps := 4000000) (disch := omega) only [c_ref10_Apply, r_ref10_Apply, e2, e3, getDT, go_sem, *]; (try simp only [pA, pB, pC, pD, pE, pF, pG, pH, pI, pJ, pK, pL, pM, pN, pO, pP, if_true, if_false]); repeat' (first | done | rfl | (refine iteC (fun hq => ?_) (fun hq => ?_) <;> (try (first | (exfalso; omega) | contradiction)) <;> (try simp -implicitDefEqProofs (maxSteps := 4000000) (disch := omega) only [e2, e3, getDT, go_sem, *]) <;> (try simp only [pA, pB, pC, pD, pE, pF, pG, pH, pI, pJ, pK, pL, pM, pN, pO, pP, if_true, if_false]))); (all_goals try rfl); (all_goals try (repeat' (first | done | rfl | (exfalso; omega) | contradiction | (refine iteR (fun hq => ?_) (fun hq => ?_)))))
          all_goals simp only [eDirectory, eSpan, mapSet, List.map_cons, List.map_append, List.map_nil, List.nil_append, List.take_zero, List.cons_append, List.append_assoc]
      · subst q1 q2
        by_cases c7 : kN = 0
        · subst c7
          rw [callL_code g_ref10_Apply (by simp)]; simp -implicitDefEqProofs (maxSteps := 4000000) (disch := omega) only [c_ref10_Apply, r_ref10_Apply, e2, e3, getDT, go_sem, *]; (try simp only [pA, pB, pC, pD, pE, pF, pG, pH, pI, pJ, pK, pL, pM, pN, pO, pP, if_true, if_false]); repeat' (first | done | rfl | (refine iteC (fun hq => ?_) (fun hq => ?_) <;> (try (first | (exfalso; omega) | contradiction)) <;> (try simp -implicitDefEqProofs (maxSteps := 4000000) (disch := omega) only [e2, e3, getDT, go_sem, *]) <;> (try simp only [pA, pB, pC, pD, pE, pF, pG, pH, pI, pJ, pK, pL, pM, pN, pO, pP, if_true, if_false]))); (all_goals try rfl); (all_goals try (repeat' (first | done | rfl | (exfalso; omega) | contradiction | (refine iteR (fun hq => ?_) (fun hq => ?_)))))
          all_goals simp only [eDirectory, eSpan, mapSet, List.map_cons, List.map_append, List.map_nil, List.nil_append, List.take_zero, List.cons_append]
        · rw [callL_code g_ref10_Apply (by simp)]; simp -implicitDefEqProofs (maxSteps := 4000000) (disch := omega) only [c_ref10_Apply, r_ref10_Apply, e2, e3, getDT, go_sem, *]; (try simp only [pA, pB, pC, pD, pE, pF, pG, pH, pI, pJ, pK, pL, pM, pN, pO, pP, if_true, if_false]); repeat' (first | done | rfl | (refine iteC (fun hq => ?_) (fun hq => ?_) <;> (try (first | (exfalso; omega) | contradiction)) <;> (try simp -implicitDefEqProofs (maxSteps := 4000000) (disch := omega) only [e2, e3, getDT, go_sem, *]) <;> (try simp only [pA, pB, pC, pD, pE, pF, pG, pH, pI, pJ, pK, pL, pM, pN, pO, pP, if_true, if_false]))); (all_goals try rfl); (all_goals try (repeat' (first | done | rfl | (exfalso; omega) | contradiction | (refine iteR (fun hq => ?_) (fun hq => ?_)))))
          all_goals simp only [eDirectory, eSpan, mapSet, List.map_cons, List.map_append, List.map_nil, List.nil_append, List.take_zero, List.cons_append, List.append_assoc]
  · rw [if_pos c0]
    rw [callL_code g_ref10_Apply (by simp)]; simp -implicitDefEqProofs (maxSteps := 4000000) (disch := omega) only [c_ref10_Apply, r_ref10_Apply, getDT, go_sem, *]; (try simp only [pA, pB, pC, pD, pE, pF, pG, pH, pI, pJ, pK, pL, pM, pN, pO, pP, if_true, if_false]); repeat' (first | done | rfl | (refine iteC (fun hq => ?_) (fun hq => ?_) <;> (try (first | (exfalso; omega) | contradiction)) <;> (try simp -implicitDefEqProofs (maxSteps := 4000000) (disch := omega) only [getDT, go_sem, *]) <;> (try simp only [pA, pB, pC, pD, pE, pF, pG, pH, pI, pJ, pK, pL, pM, pN, pO, pP, if_true, if_false]))); (all_goals try rfl); (all_goals try (repeat' (first | done | rfl | (exfalso; omega) | contradiction | (refine iteR (fun hq => ?_) (fun hq => ?_)))))
end Go.Proofs.Ytkdjbfjohbiemaa

namespace Go.Proofs.Ytkdjbfjohbiemaa
open Go Go.Sim
set_option linter.unusedSimpArgs false
set_option linter.unusedVariables false
set_option maxHeartbeats 10000000
set_option maxRecDepth 40000
theorem downer_ok (d : Directory) (r : Int) (hL : d.l.length ≤ 4294967296) (hF : d.forward.length ≤ 4294967296) : callL G N_directory_Owner [.d (eDirectory d), .d (.int .i64 r)] [] = some (.d (.int .i64 (ownerD d r)), []) := by
  have hval := dValidate_ok d hL hF
  unfold ownerD
  by_cases c : dirV d = 0
  · have hl := loop_find (G := G) (x := l_directory_Owner_0) (ks := []) d.l.length (atB d.l (inS r)) (fun k => ⟨[(1, .d (.int .i64 r)), (11, .d (.sl (d.l.map eSpan))), (12, .d (.int .i64 d.l.length)), (13, .d (.int .i64 k))], []⟩) (fun k => (.ret, ⟨[(4, .d (.int .i64 (d.l.getD k zSpan).shard))], []⟩)) (.exit 0, ⟨[], []⟩) (fun k hk L => by
      simp only [l_directory_Owner_0]
      by_cases h0 : k < d.l.length
      · simp only [h0, if_true, atB_at h0]
        unfold inS
        clear hval c
        (try simp -implicitDefEqProofs (maxSteps := 4000000) (disch := omega) only [getDT, go_sem, *]); (try simp only [pA, pB, pC, pD, pE, pF, pG, pH, pI, pJ, pK, pL, pM, pN, pO, pP, if_true, if_false]); repeat' (first | done | rfl | (refine iteC (fun hq => ?_) (fun hq => ?_) <;> (try (first | (exfalso; omega) | contradiction)) <;> (try simp -implicitDefEqProofs (maxSteps := 4000000) (disch := omega) only [getDT, go_sem, *]) <;> (try simp only [pA, pB, pC, pD, pE, pF, pG, pH, pI, pJ, pK, pL, pM, pN, pO, pP, if_true, if_false]))); (all_goals try rfl); (all_goals try (repeat' (first | done | rfl | (exfalso; omega) | contradiction | (refine iteR (fun hq => ?_) (fun hq => ?_)))))
      · clear hval c
        (try simp -implicitDefEqProofs (maxSteps := 4000000) (disch := omega) only [getDT, go_sem, *]); (try simp only [pA, pB, pC, pD, pE, pF, pG, pH, pI, pJ, pK, pL, pM, pN, pO, pP, if_true, if_false]); repeat' (first | done | rfl | (refine iteC (fun hq => ?_) (fun hq => ?_) <;> (try (first | (exfalso; omega) | contradiction)) <;> (try simp -implicitDefEqProofs (maxSteps := 4000000) (disch := omega) only [getDT, go_sem, *]) <;> (try simp only [pA, pB, pC, pD, pE, pF, pG, pH, pI, pJ, pK, pL, pM, pN, pO, pP, if_true, if_false]))); (all_goals try rfl); (all_goals try (repeat' (first | done | rfl | (exfalso; omega) | contradiction | (refine iteR (fun hq => ?_) (fun hq => ?_))))))
    rw [findR_idx] at hl
    rw [c] at hval
    rw [if_pos c]
    simp only [Int.natCast_add, Int.natCast_one, Int.natCast_zero, Int.natCast_mul, Int.cast_ofNat_Int, List.length_append, List.length_map, List.map_nil, List.length_nil, List.map_append, List.map_cons, List.length_cons, Nat.zero_add, srcO, mapSet] at hl
    cases h : d.l.findIdx? (inS r) with
    | none => rw [h] at hl; clear h c; rw [callL_code g_directory_Owner (by simp)]; simp -implicitDefEqProofs (maxSteps := 4000000) (disch := omega) only [c_directory_Owner, r_directory_Owner, getDT, go_sem, *]; (try simp only [pA, pB, pC, pD, pE, pF, pG, pH, pI, pJ, pK, pL, pM, pN, pO, pP, if_true, if_false]); repeat' (first | done | rfl | (refine iteC (fun hq => ?_) (fun hq => ?_) <;> (try (first | (exfalso; omega) | contradiction)) <;> (try simp -implicitDefEqProofs (maxSteps := 4000000) (disch := omega) only [getDT, go_sem, *]) <;> (try simp only [pA, pB, pC, pD, pE, pF, pG, pH, pI, pJ, pK, pL, pM, pN, pO, pP, if_true, if_false]))); (all_goals try rfl); (all_goals try (repeat' (first | done | rfl | (exfalso; omega) | contradiction | (refine iteR (fun hq => ?_) (fun hq => ?_)))))
    | some i => rw [h] at hl; clear h c; rw [callL_code g_directory_Owner (by simp)]; simp -implicitDefEqProofs (maxSteps := 4000000) (disch := omega) only [c_directory_Owner, r_directory_Owner, getDT, go_sem, *]; (try simp only [pA, pB, pC, pD, pE, pF, pG, pH, pI, pJ, pK, pL, pM, pN, pO, pP, if_true, if_false]); repeat' (first | done | rfl | (refine iteC (fun hq => ?_) (fun hq => ?_) <;> (try (first | (exfalso; omega) | contradiction)) <;> (try simp -implicitDefEqProofs (maxSteps := 4000000) (disch := omega) only [getDT, go_sem, *]) <;> (try simp only [pA, pB, pC, pD, pE, pF, pG, pH, pI, pJ, pK, pL, pM, pN, pO, pP, if_true, if_false]))); (all_goals try rfl); (all_goals try (repeat' (first | done | rfl | (exfalso; omega) | contradiction | (refine iteR (fun hq => ?_) (fun hq => ?_)))))
  · rw [if_neg c]
    rw [callL_code g_directory_Owner (by simp)]; simp -implicitDefEqProofs (maxSteps := 4000000) (disch := omega) only [c_directory_Owner, r_directory_Owner, getDT, go_sem, *]; (try simp only [pA, pB, pC, pD, pE, pF, pG, pH, pI, pJ, pK, pL, pM, pN, pO, pP, if_true, if_false]); repeat' (first | done | rfl | (refine iteC (fun hq => ?_) (fun hq => ?_) <;> (try (first | (exfalso; omega) | contradiction)) <;> (try simp -implicitDefEqProofs (maxSteps := 4000000) (disch := omega) only [getDT, go_sem, *]) <;> (try simp only [pA, pB, pC, pD, pE, pF, pG, pH, pI, pJ, pK, pL, pM, pN, pO, pP, if_true, if_false]))); (all_goals try rfl); (all_goals try (repeat' (first | done | rfl | (exfalso; omega) | contradiction | (refine iteR (fun hq => ?_) (fun hq => ?_)))))
theorem dhome_loop (d : Directory) (hL : d.l.length ≤ 4294967296) (hv : ∀ a ∈ d.forward, -1 ≤ a ∧ a < d.forward.length) (hF : d.forward.length ≤ 6) : ∀ p : Nat × Int, chase d.forward p.1 p.2 < 0 ∧ -1 ≤ p.2 ∧ p.2 < d.forward.length → loopL G [18] l_directory_Home_0 ⟨[(1, .d (.int .i64 p.2)), (2, .ref 2 0 0)], [rD d 2]⟩ = some (.exit 0, ⟨[(1, .d (.int .i64 (homeF d p.1 p.2)))], []⟩) := by
  refine loop_ind (fun p : Nat × Int => p.1) _ (fun p : Nat × Int => ⟨[(1, .d (.int .i64 p.2)), (2, .ref 2 0 0)], [rD d 2]⟩) _ fun ⟨m, a⟩ ⟨hc, h1, h2⟩ L ih => ?_
  simp only [rD] at ih hc h1 h2 ⊢
  simp only [l_directory_Home_0]
  have hi := dfind_ok d.l a hL
  by_cases c : 0 ≤ a ∧ findS d.l a < 0
  · obtain ⟨c1, c2⟩ := c
    rcases m with _ | m
    · simp only [chase] at hc; omega
    have hlt : a.toNat < d.forward.length := by omega
    have hm := hv (d.forward[a.toNat]) (List.getElem_mem _)
    rw [chase, if_pos c1, getDT hlt] at hc
    have i1 := ih (m, d.forward[a.toNat]) ⟨hc, hm.1, hm.2⟩ (by simp only; omega)
    rw [homeF, if_pos ⟨c1, c2⟩, getDT hlt]
    simp only at i1
    generalize homeF d m d.forward[a.toNat] = z at *
    clear ih hv hc
    (try simp -implicitDefEqProofs (maxSteps := 4000000) (disch := omega) only [getDT, go_sem, *]); (try simp only [pA, pB, pC, pD, pE, pF, pG, pH, pI, pJ, pK, pL, pM, pN, pO, pP, if_true, if_false]); repeat' (first | done | rfl | (refine iteC (fun hq => ?_) (fun hq => ?_) <;> (try (first | (exfalso; omega) | contradiction)) <;> (try simp -implicitDefEqProofs (maxSteps := 4000000) (disch := omega) only [getDT, go_sem, *]) <;> (try simp only [pA, pB, pC, pD, pE, pF, pG, pH, pI, pJ, pK, pL, pM, pN, pO, pP, if_true, if_false]))); (all_goals try rfl); (all_goals try (repeat' (first | done | rfl | (exfalso; omega) | contradiction | (refine iteR (fun hq => ?_) (fun hq => ?_)))))
  · have e : homeF d m a = a := by
      rcases m with _ | m
      · rfl
      · rw [homeF, if_neg c]
    rw [e]
    clear ih hv hc e
    by_cases c1 : 0 ≤ a
    · have c2 : ¬ findS d.l a < 0 := fun h => c ⟨c1, h⟩
      clear c
      (try simp -implicitDefEqProofs (maxSteps := 4000000) (disch := omega) only [getDT, go_sem, *]); (try simp only [pA, pB, pC, pD, pE, pF, pG, pH, pI, pJ, pK, pL, pM, pN, pO, pP, if_true, if_false]); repeat' (first | done | rfl | (refine iteC (fun hq => ?_) (fun hq => ?_) <;> (try (first | (exfalso; omega) | contradiction)) <;> (try simp -implicitDefEqProofs (maxSteps := 4000000) (disch := omega) only [getDT, go_sem, *]) <;> (try simp only [pA, pB, pC, pD, pE, pF, pG, pH, pI, pJ, pK, pL, pM, pN, pO, pP, if_true, if_false]))); (all_goals try rfl); (all_goals try (repeat' (first | done | rfl | (exfalso; omega) | contradiction | (refine iteR (fun hq => ?_) (fun hq => ?_)))))
    · clear c
      (try simp -implicitDefEqProofs (maxSteps := 4000000) (disch := omega) only [getDT, go_sem, *]); (try simp only [pA, pB, pC, pD, pE, pF, pG, pH, pI, pJ, pK, pL, pM, pN, pO, pP, if_true, if_false]); repeat' (first | done | rfl | (refine iteC (fun hq => ?_) (fun hq => ?_) <;> (try (first | (exfalso; omega) | contradiction)) <;> (try simp -implicitDefEqProofs (maxSteps := 4000000) (disch := omega) only [getDT, go_sem, *]) <;> (try simp only [pA, pB, pC, pD, pE, pF, pG, pH, pI, pJ, pK, pL, pM, pN, pO, pP, if_true, if_false]))); (all_goals try rfl); (all_goals try (repeat' (first | done | rfl | (exfalso; omega) | contradiction | (refine iteR (fun hq => ?_) (fun hq => ?_)))))
theorem dhome_ok (d : Directory) (a : Int) (hL : d.l.length ≤ 4294967296) (hF : d.forward.length ≤ 4294967296) : callL G N_directory_Home [.d (eDirectory d), .d (.int .i64 a)] [] = some (.d (.int .i64 (homeD d a)), []) := by
  have hval := dValidate_ok d hL hF
  unfold homeD
  by_cases c0 : dirV d = 0
  · have hl := dirV_len c0
    have hv := fwd_in c0 ⟨hl.2.1, hL⟩
    rw [c0] at hval
    by_cases c : a < 0 ∨ (d.forward.length : Int) ≤ a
    · rw [if_pos (.inr c)]
      clear hv c0
      rw [callL_code g_directory_Home (by simp)]; simp -implicitDefEqProofs (maxSteps := 4000000) (disch := omega) only [c_directory_Home, r_directory_Home, getDT, go_sem, *]; (try simp only [pA, pB, pC, pD, pE, pF, pG, pH, pI, pJ, pK, pL, pM, pN, pO, pP, if_true, if_false]); repeat' (first | done | rfl | (refine iteC (fun hq => ?_) (fun hq => ?_) <;> (try (first | (exfalso; omega) | contradiction)) <;> (try simp -implicitDefEqProofs (maxSteps := 4000000) (disch := omega) only [getDT, go_sem, *]) <;> (try simp only [pA, pB, pC, pD, pE, pF, pG, pH, pI, pJ, pK, pL, pM, pN, pO, pP, if_true, if_false]))); (all_goals try rfl); (all_goals try (repeat' (first | done | rfl | (exfalso; omega) | contradiction | (refine iteR (fun hq => ?_) (fun hq => ?_)))))
    · rw [if_neg (by rw [c0]; simp; omega)]
      have hc := hv.2 a.toNat (by omega)
      rw [show ((a.toNat : Nat) : Int) = a by omega] at hc
      have hlp := dhome_loop d hL hv.1 hl.2.1 (d.forward.length, a) ⟨hc, by simp only; omega, by simp only; omega⟩
      simp only [rD] at hlp
      clear hv c0 hc
      rw [callL_code g_directory_Home (by simp)]; simp -implicitDefEqProofs (maxSteps := 4000000) (disch := omega) only [c_directory_Home, r_directory_Home, getDT, go_sem, *]; (try simp only [pA, pB, pC, pD, pE, pF, pG, pH, pI, pJ, pK, pL, pM, pN, pO, pP, if_true, if_false]); repeat' (first | done | rfl | (refine iteC (fun hq => ?_) (fun hq => ?_) <;> (try (first | (exfalso; omega) | contradiction)) <;> (try simp -implicitDefEqProofs (maxSteps := 4000000) (disch := omega) only [getDT, go_sem, *]) <;> (try simp only [pA, pB, pC, pD, pE, pF, pG, pH, pI, pJ, pK, pL, pM, pN, pO, pP, if_true, if_false]))); (all_goals try rfl); (all_goals try (repeat' (first | done | rfl | (exfalso; omega) | contradiction | (refine iteR (fun hq => ?_) (fun hq => ?_)))))
  · rw [if_pos (.inl c0)]
    rw [callL_code g_directory_Home (by simp)]; simp -implicitDefEqProofs (maxSteps := 4000000) (disch := omega) only [c_directory_Home, r_directory_Home, getDT, go_sem, *]; (try simp only [pA, pB, pC, pD, pE, pF, pG, pH, pI, pJ, pK, pL, pM, pN, pO, pP, if_true, if_false]); repeat' (first | done | rfl | (refine iteC (fun hq => ?_) (fun hq => ?_) <;> (try (first | (exfalso; omega) | contradiction)) <;> (try simp -implicitDefEqProofs (maxSteps := 4000000) (disch := omega) only [getDT, go_sem, *]) <;> (try simp only [pA, pB, pC, pD, pE, pF, pG, pH, pI, pJ, pK, pL, pM, pN, pO, pP, if_true, if_false]))); (all_goals try rfl); (all_goals try (repeat' (first | done | rfl | (exfalso; omega) | contradiction | (refine iteR (fun hq => ?_) (fun hq => ?_)))))
end Go.Proofs.Ytkdjbfjohbiemaa

namespace Go.Proofs.Ytkdjbfjohbiemaa
open Go Go.Sim
set_option linter.unusedSimpArgs false
set_option linter.unusedVariables false
set_option maxHeartbeats 10000000
set_option maxRecDepth 40000
theorem clone_api_Span (es : List D) (hs : allSize 3 es = true) (hL : es.length ≤ 4294967296) : callL G N_slices_Clone_api_Span [.d (.sl es)] [] = some (.acc 0 es, [(0, .acc es.length)]) := by
  cases es with
  | nil =>
    refine callL_nils0 g_slices_Clone_api_Span (by decide) ?_ ?_
    · simp -implicitDefEqProofs only [c_slices_Clone_api_Span, r_slices_Clone_api_Span, go_sem]
    · simp -implicitDefEqProofs only [c_slices_Clone_api_Span, r_slices_Clone_api_Span, Nat.zero_le, go_sem]
  | cons e es =>
    rw [callL_nils g_slices_Clone_api_Span (by simp) (by decide)]
    simp only [allSize_cons] at hs
    simp only [List.length_cons] at hL
    simp -implicitDefEqProofs (maxSteps := 4000000) (disch := omega) only [c_slices_Clone_api_Span, r_slices_Clone_api_Span, go_sem, *]
theorem clone_int (es : List D) (hs : allSize 1 es = true) (hL : es.length ≤ 4294967296) : callL G N_slices_Clone_int [.d (.sl es)] [] = some (.acc 0 es, [(0, .acc es.length)]) := by
  cases es with
  | nil =>
    refine callL_nils0 g_slices_Clone_int (by decide) ?_ ?_
    · simp -implicitDefEqProofs only [c_slices_Clone_int, r_slices_Clone_int, go_sem]
    · simp -implicitDefEqProofs only [c_slices_Clone_int, r_slices_Clone_int, Nat.zero_le, go_sem]
  | cons e es =>
    rw [callL_nils g_slices_Clone_int (by simp) (by decide)]
    simp only [allSize_cons] at hs
    simp only [List.length_cons] at hL
    simp -implicitDefEqProofs (maxSteps := 4000000) (disch := omega) only [c_slices_Clone_int, r_slices_Clone_int, go_sem, *]
def wD (v : Int) (L F : Nat) : AV := .agg [.d (.int .i64 v), .osl 1000000 0 L, .osl 1000001 0 F]
def wH (l : List Span) (f : List Int) : Heap := [(1000000, .row ((l.map eSpan).map .d)), (1000001, .row ((ints f).map .d))]
def zDW (n : Int) : AV := .tup [.agg [.d (.int .i64 0), .xsl [], .xsl []], .d (.int .i64 n)]
theorem dsplit_state (v : Int) (l : List Span) (f : List Int) (e : Edit) (hL : l.length ≤ 1000000) (hF : f.length ≤ 6) (hc : findS l e.from_ < 0 ∨ 0 ≤ findS l e.to) :
    callL G N_directory_split [wD v l.length f.length, .d (eEdit e)] (wH l f) = some (zDW 7, wH l f) := by
  have i1 := dfind_ok l e.from_ (by omega)
  have i2 := dfind_ok l e.to (by omega)
  unfold wD wH zDW
  rw [callL_code g_directory_split (by simp)]; simp -implicitDefEqProofs (maxSteps := 4000000) (disch := omega) only [c_directory_split, r_directory_split, getDT, go_sem, *]; (try simp only [pA, pB, pC, pD, pE, pF, pG, pH, pI, pJ, pK, pL, pM, pN, pO, pP, if_true, if_false]); repeat' (first | done | rfl | (refine iteC (fun hq => ?_) (fun hq => ?_) <;> (try (first | (exfalso; omega) | contradiction)) <;> (try simp -implicitDefEqProofs (maxSteps := 4000000) (disch := omega) only [getDT, go_sem, *]) <;> (try simp only [pA, pB, pC, pD, pE, pF, pG, pH, pI, pJ, pK, pL, pM, pN, pO, pP, if_true, if_false]))); (all_goals try rfl); (all_goals try (repeat' (first | done | rfl | (exfalso; omega) | contradiction | (refine iteR (fun hq => ?_) (fun hq => ?_)))))
theorem dsplit_range (v : Int) (l : List Span) (f : List Int) (e : Edit) (hL : l.length ≤ 1000000) (hF : f.length ≤ 6) (i : Nat) (hi : i < l.length) (hc : findS l e.from_ = i ∧ findS l e.to < 0) (hm : e.mid < l[i].low ∨ l[i].high ≤ e.mid) :
    callL G N_directory_split [wD v l.length f.length, .d (eEdit e)] (wH l f) = some (zDW 1, wH l f) := by
  have i1 := dfind_ok l e.from_ (by omega)
  have i2 := dfind_ok l e.to (by omega)
  obtain ⟨h1, h2⟩ := hc
  rw [h1] at i1
  clear h1
  unfold wD wH zDW
  rw [callL_code g_directory_split (by simp)]; simp -implicitDefEqProofs (maxSteps := 4000000) (disch := omega) only [c_directory_split, r_directory_split, getDT, go_sem, *]; (try simp only [pA, pB, pC, pD, pE, pF, pG, pH, pI, pJ, pK, pL, pM, pN, pO, pP, if_true, if_false]); repeat' (first | done | rfl | (refine iteC (fun hq => ?_) (fun hq => ?_) <;> (try (first | (exfalso; omega) | contradiction)) <;> (try simp -implicitDefEqProofs (maxSteps := 4000000) (disch := omega) only [getDT, go_sem, *]) <;> (try simp only [pA, pB, pC, pD, pE, pF, pG, pH, pI, pJ, pK, pL, pM, pN, pO, pP, if_true, if_false]))); (all_goals try rfl); (all_goals try (repeat' (first | done | rfl | (exfalso; omega) | contradiction | (refine iteR (fun hq => ?_) (fun hq => ?_)))))
theorem set_parts {α : Type} {xs : List α} {i : Nat} (a : α) (h : i < xs.length) : (xs.set i a).take (i + 1) = xs.take i ++ [a] ∧ (xs.set i a).drop (i + 1) = xs.drop (i + 1) := by
  constructor
  · rw [List.take_set, List.take_add_one, List.getElem?_eq_getElem h, List.set_append_right _ _ (by rw [List.length_take]; omega), List.length_take, Nat.min_eq_left (by omega), Nat.sub_self]; rfl
  · rw [List.drop_set, if_pos (by omega)]
theorem dsplit_ok (v : Int) (l q : List Span) (f : List Int) (e : Edit) (hL : l.length ≤ 1000000) (hF : f.length ≤ 6) (i t : Nat) (hi : i < l.length) (ht : t < f.length) (hc : findS l e.from_ = i ∧ findS l e.to < 0) (het : e.to = t) (hm : l[i].low ≤ e.mid ∧ e.mid < l[i].high) (hr : 0 ≤ l[i].low ∧ l[i].high < 65536)
    (hq : q = l.take i ++ [⟨l[i].low, e.mid, l[i].shard⟩, ⟨e.mid + 1, l[i].high, e.to⟩] ++ l.drop (i + 1)) :
    callL G N_directory_split [wD v l.length f.length, .d (eEdit e)] (wH l f) = some (.tup [.agg [.d (.int .i64 v), .d (.sl (q.map eSpan)), .osl 1000001 0 f.length], .d (.int .i64 0)],
      [(1000000, .frz none), (1000001, .row ((ints (f.set t (-1))).map .d))]) := by
  have i1 := dfind_ok l e.from_ (by omega)
  have i2 := dfind_ok l e.to (by omega)
  obtain ⟨h1, h2⟩ := hc
  have hins := ins_call (G := G) g_slices_Insert_api_Span ((l.map eSpan).set i (.agg [.int .i64 l[i].low, .int .i64 e.mid, .int .i64 l[i].shard])) (.agg [.int .i64 (e.mid + 1), .int .i64 l[i].high, .int .i64 t]) (i + 1) (by intro h; have := congrArg List.length h; rw [List.length_set, List.length_map, List.length_nil] at this; omega) (by simp; omega) (by
    intro x hx
    rcases List.mem_cons.1 hx with rfl | hx
    · rfl
    · rcases List.mem_or_eq_of_mem_set hx with hx | rfl
      · obtain ⟨y, _, rfl⟩ := List.mem_map.1 hx; rfl
      · rfl) (by simp; omega)
  have hp := set_parts (xs := l.map eSpan) (i := i) (.agg [.int .i64 l[i].low, .int .i64 e.mid, .int .i64 l[i].shard]) (by simp; omega)
  have hl : (l.map eSpan).take i ++ [D.agg [.int .i64 l[i].low, .int .i64 e.mid, .int .i64 l[i].shard]] ++ [.agg [.int .i64 (e.mid + 1), .int .i64 l[i].high, .int .i64 t]] ++ (l.map eSpan).drop (i + 1) = q.map eSpan := by
    rw [hq, het]
    simp [eSpan, List.map_take, List.map_drop]
  rw [hp.1, hp.2, hl, List.length_set, List.length_map] at hins
  clear hp hl hq
  rw [h1] at i1
  clear h1
  rw [het] at i2 h2
  unfold wD wH
  simp only [Int.natCast_add, Int.natCast_one, Int.natCast_zero, Int.natCast_mul, Int.cast_ofNat_Int, List.length_append, List.length_map, List.map_nil, List.length_nil, List.map_append, List.map_cons, List.length_cons, Nat.zero_add, srcO, mapSet] at hins
  rw [callL_code g_directory_split (by simp)]; simp -implicitDefEqProofs (maxSteps := 4000000) (disch := omega) only [c_directory_split, r_directory_split, getDT, go_sem, *]; (try simp only [pA, pB, pC, pD, pE, pF, pG, pH, pI, pJ, pK, pL, pM, pN, pO, pP, if_true, if_false]); repeat' (first | done | rfl | (refine iteC (fun hq => ?_) (fun hq => ?_) <;> (try (first | (exfalso; omega) | contradiction)) <;> (try simp -implicitDefEqProofs (maxSteps := 4000000) (disch := omega) only [getDT, go_sem, *]) <;> (try simp only [pA, pB, pC, pD, pE, pF, pG, pH, pI, pJ, pK, pL, pM, pN, pO, pP, if_true, if_false]))); (all_goals try rfl); (all_goals try (repeat' (first | done | rfl | (exfalso; omega) | contradiction | (refine iteR (fun hq => ?_) (fun hq => ?_)))))
theorem dmerge_state (v : Int) (l : List Span) (f : List Int) (e : Edit) (hL : l.length ≤ 1000000) (hF : f.length ≤ 6) (hc : findS l e.from_ < 0 ∨ findS l e.to < 0 ∨ ¬ findS l e.from_ - findS l e.to = 1 ∧ ¬ findS l e.to - findS l e.from_ = 1) :
    callL G N_directory_merge [wD v l.length f.length, .d (eEdit e)] (wH l f) = some (zDW 7, wH l f) := by
  have i1 := dfind_ok l e.from_ (by omega)
  have i2 := dfind_ok l e.to (by omega)
  have b1 := idxI_lt l (fun x => decide (x.shard = e.from_))
  have b2 := idxI_lt l (fun x => decide (x.shard = e.to))
  change -1 ≤ findS l e.from_ ∧ findS l e.from_ < l.length at b1
  change -1 ≤ findS l e.to ∧ findS l e.to < l.length at b2
  generalize findS l e.from_ = i at *
  generalize findS l e.to = k at *
  unfold wD wH zDW
  rw [callL_code g_directory_merge (by simp)]; simp -implicitDefEqProofs (maxSteps := 4000000) (disch := omega) only [c_directory_merge, r_directory_merge, getDT, go_sem, *]; (try simp only [pA, pB, pC, pD, pE, pF, pG, pH, pI, pJ, pK, pL, pM, pN, pO, pP, if_true, if_false]); repeat' (first | done | rfl | (refine iteC (fun hq => ?_) (fun hq => ?_) <;> (try (first | (exfalso; omega) | contradiction)) <;> (try simp -implicitDefEqProofs (maxSteps := 4000000) (disch := omega) only [getDT, go_sem, *]) <;> (try simp only [pA, pB, pC, pD, pE, pF, pG, pH, pI, pJ, pK, pL, pM, pN, pO, pP, if_true, if_false]))); (all_goals try rfl); (all_goals try (repeat' (first | done | rfl | (exfalso; omega) | contradiction | (refine iteR (fun hq => ?_) (fun hq => ?_)))))
theorem dmerge_ok (v : Int) (l q : List Span) (f : List Int) (e : Edit) (hL : l.length ≤ 1000000) (hF : f.length ≤ 6) (i k t : Nat) (hi : i < l.length) (hk : k < l.length) (ht : t < f.length) (hc : findS l e.from_ = i ∧ findS l e.to = k) (hik : i = k + 1 ∨ k = i + 1) (het : e.from_ = t)
    (hq : q = (l.set k ⟨if l[k].low < l[i].low then l[k].low else l[i].low, if l[i].high < l[k].high then l[k].high else l[i].high, l[k].shard⟩).take i ++ (l.set k ⟨if l[k].low < l[i].low then l[k].low else l[i].low, if l[i].high < l[k].high then l[k].high else l[i].high, l[k].shard⟩).drop (i + 1)) :
    callL G N_directory_merge [wD v l.length f.length, .d (eEdit e)] (wH l f) = some (.tup [.agg [.d (.int .i64 v), .d (.sl (q.map eSpan)), .osl 1000001 0 f.length], .d (.int .i64 0)],
      [(1000000, .frz none), (1000001, .row ((ints (f.set t e.to)).map .d))]) := by
  have i1 := dfind_ok l e.from_ (by omega)
  have i2 := dfind_ok l e.to (by omega)
  obtain ⟨h1, h2⟩ := hc
  have hdel := del_call (G := G) g_slices_Delete_api_Span ((l.map eSpan).set k (.agg [.int .i64 (if l[k].low < l[i].low then l[k].low else l[i].low), .int .i64 (if l[i].high < l[k].high then l[k].high else l[i].high), .int .i64 l[k].shard])) i (i + 1) (by omega) (by simp; omega) (by
    intro x hx
    rcases List.mem_or_eq_of_mem_set hx with hx | rfl
    · obtain ⟨y, _, rfl⟩ := List.mem_map.1 hx; rfl
    · rfl) (by simp; omega)
  have hl : ((l.map eSpan).set k (.agg [.int .i64 (if l[k].low < l[i].low then l[k].low else l[i].low), .int .i64 (if l[i].high < l[k].high then l[k].high else l[i].high), .int .i64 l[k].shard])).take i ++ ((l.map eSpan).set k (.agg [.int .i64 (if l[k].low < l[i].low then l[k].low else l[i].low), .int .i64 (if l[i].high < l[k].high then l[k].high else l[i].high), .int .i64 l[k].shard])).drop (i + 1) = q.map eSpan := by
    rw [hq]
    simp [eSpan, List.map_take, List.map_drop, List.map_set]
  rw [hl, List.length_set, List.length_map] at hdel
  clear hl hq
  rw [h1] at i1
  rw [h2] at i2
  clear h1 h2
  rw [het] at i1
  unfold wD wH
  simp only [Int.natCast_add, Int.natCast_one, Int.natCast_zero, Int.natCast_mul, Int.cast_ofNat_Int, List.length_append, List.length_map, List.map_nil, List.length_nil, List.map_append, List.map_cons, List.length_cons, Nat.zero_add, srcO, mapSet] at hdel
  have hs : ∀ X : D, (((l.map eSpan).set k X).map AV.d)[k]? = some (.d X) := fun X => by rw [List.getElem?_map, List.getElem?_set_self (by simp; omega)]; rfl
  rw [callL_code g_directory_merge (by simp)]; simp -implicitDefEqProofs (maxSteps := 4000000) (disch := omega) only [c_directory_merge, r_directory_merge, List.set_set, getDT, go_sem, *]; (try simp only [pA, pB, pC, pD, pE, pF, pG, pH, pI, pJ, pK, pL, pM, pN, pO, pP, if_true, if_false]); repeat' (first | done | rfl | (refine iteC (fun hq => ?_) (fun hq => ?_) <;> (try (first | (exfalso; omega) | contradiction)) <;> (try simp -implicitDefEqProofs (maxSteps := 4000000) (disch := omega) only [List.set_set, getDT, go_sem, *]) <;> (try simp only [pA, pB, pC, pD, pE, pF, pG, pH, pI, pJ, pK, pL, pM, pN, pO, pP, if_true, if_false]))); (all_goals try rfl); (all_goals try (repeat' (first | done | rfl | (exfalso; omega) | contradiction | (refine iteR (fun hq => ?_) (fun hq => ?_)))))
end Go.Proofs.Ytkdjbfjohbiemaa

namespace Go.Proofs.Ytkdjbfjohbiemaa
open Go Go.Sim
set_option linter.unusedSimpArgs false
set_option linter.unusedVariables false
set_option maxHeartbeats 10000000
set_option maxRecDepth 40000
theorem findS_get {l : List Span} {j : Int} {i : Nat} (h : findS l j = i) : ∃ hi : i < l.length, l[i].shard = j := by
  obtain ⟨h1, h2, _⟩ := idxI_some h
  exact ⟨h1, by simpa using h2⟩
theorem tile_next : ∀ (l : List Span) (n m : Int), tileN n l = some m → ∀ i (h : i + 1 < l.length), l[i + 1].low = l[i].high + 1
  | [], _, _, _, i, h => by simp at h
  | y :: l, n, m, ht, i, h => by
    rw [tileN] at ht
    split at ht
    · cases i with
      | succ i => exact tile_next l _ m ht i (by simpa using h)
      | zero =>
        cases l with
        | nil => simp at h
        | cons z l =>
          rw [tileN] at ht
          split at ht
          · rename_i hc; simpa using hc.1
          · cases ht
    · cases ht
theorem dslot_ok (d : Directory) (n : Int) (hF : d.forward.length ≤ 1000000) : callL G N_directory_Apply_1 [.d (.int .i64 n), .d (.pd (eDirectory d))] [] = some (.d (.bool (decide (0 ≤ n ∧ n < d.forward.length))), []) := by
  by_cases h1 : 0 ≤ n
  · by_cases h2 : n < d.forward.length
    · rw [decide_eq_true ⟨h1, h2⟩]
      rw [callL_code g_directory_Apply_1 (by simp)]; simp -implicitDefEqProofs (maxSteps := 4000000) (disch := omega) only [c_directory_Apply_1, r_directory_Apply_1, getDT, go_sem, *]; (try simp only [pA, pB, pC, pD, pE, pF, pG, pH, pI, pJ, pK, pL, pM, pN, pO, pP, if_true, if_false]); repeat' (first | done | rfl | (refine iteC (fun hq => ?_) (fun hq => ?_) <;> (try (first | (exfalso; omega) | contradiction)) <;> (try simp -implicitDefEqProofs (maxSteps := 4000000) (disch := omega) only [getDT, go_sem, *]) <;> (try simp only [pA, pB, pC, pD, pE, pF, pG, pH, pI, pJ, pK, pL, pM, pN, pO, pP, if_true, if_false]))); (all_goals try rfl); (all_goals try (repeat' (first | done | rfl | (exfalso; omega) | contradiction | (refine iteR (fun hq => ?_) (fun hq => ?_)))))
    · rw [decide_eq_false (by omega)]
      rw [callL_code g_directory_Apply_1 (by simp)]; simp -implicitDefEqProofs (maxSteps := 4000000) (disch := omega) only [c_directory_Apply_1, r_directory_Apply_1, getDT, go_sem, *]; (try simp only [pA, pB, pC, pD, pE, pF, pG, pH, pI, pJ, pK, pL, pM, pN, pO, pP, if_true, if_false]); repeat' (first | done | rfl | (refine iteC (fun hq => ?_) (fun hq => ?_) <;> (try (first | (exfalso; omega) | contradiction)) <;> (try simp -implicitDefEqProofs (maxSteps := 4000000) (disch := omega) only [getDT, go_sem, *]) <;> (try simp only [pA, pB, pC, pD, pE, pF, pG, pH, pI, pJ, pK, pL, pM, pN, pO, pP, if_true, if_false]))); (all_goals try rfl); (all_goals try (repeat' (first | done | rfl | (exfalso; omega) | contradiction | (refine iteR (fun hq => ?_) (fun hq => ?_)))))
  · rw [decide_eq_false (by omega)]
    rw [callL_code g_directory_Apply_1 (by simp)]; simp -implicitDefEqProofs (maxSteps := 4000000) (disch := omega) only [c_directory_Apply_1, r_directory_Apply_1, getDT, go_sem, *]; (try simp only [pA, pB, pC, pD, pE, pF, pG, pH, pI, pJ, pK, pL, pM, pN, pO, pP, if_true, if_false]); repeat' (first | done | rfl | (refine iteC (fun hq => ?_) (fun hq => ?_) <;> (try (first | (exfalso; omega) | contradiction)) <;> (try simp -implicitDefEqProofs (maxSteps := 4000000) (disch := omega) only [getDT, go_sem, *]) <;> (try simp only [pA, pB, pC, pD, pE, pF, pG, pH, pI, pJ, pK, pL, pM, pN, pO, pP, if_true, if_false]))); (all_goals try rfl); (all_goals try (repeat' (first | done | rfl | (exfalso; omega) | contradiction | (refine iteR (fun hq => ?_) (fun hq => ?_)))))
theorem dapply_ok (d : Directory) (e : Edit) (hL : d.l.length ≤ 1000000) (hF0 : d.forward.length ≤ 1000000) : callL G N_directory_Apply [.d (eDirectory d), .d (eEdit e)] [] = some (.d (.tup [eDirectory (applyD d e).1, .int .i64 (applyD d e).2]), []) := by
  have hval := dValidate_ok d (by omega) (by omega)
  have b1 := findS_lt d.l e.from_
  have b2 := findS_lt d.l e.to
  unfold applyD
  by_cases c0 : dirV d = 0
  · have hl := dirV_len c0
    rw [c0] at hval
    rw [if_neg (by rw [c0]; simp)]
    have hti := dirV_tile c0
    have htl := tile_in d.l 0 65536 (by omega) hti
    have htn := tile_next d.l 0 65536 hti
    have h0 : 0 < d.l.length := by
      rcases Nat.eq_zero_or_pos d.l.length with h | h
      · rw [List.length_eq_zero_iff.1 h, tileN] at hti; cases hti
      · exact h
    have hcl := clone_api_Span (d.l.map eSpan) (allSize_Span _) (by simp only [List.length_map]; omega)
    have hcf := clone_int (ints d.forward) (allSize_ints _) (by simp only [List.length_map]; omega)
    clear c0 hti
    by_cases c1 : d.version = 1099511627776
    · rw [if_pos c1]
      rw [callL_code g_directory_Apply (by simp)]; simp -implicitDefEqProofs (maxSteps := 4000000) (disch := omega) only [c_directory_Apply, r_directory_Apply, getDT, go_sem, *]; (try simp only [pA, pB, pC, pD, pE, pF, pG, pH, pI, pJ, pK, pL, pM, pN, pO, pP, if_true, if_false]); repeat' (first | done | rfl | (refine iteC (fun hq => ?_) (fun hq => ?_) <;> (try (first | (exfalso; omega) | contradiction)) <;> (try simp -implicitDefEqProofs (maxSteps := 4000000) (disch := omega) only [getDT, go_sem, *]) <;> (try simp only [pA, pB, pC, pD, pE, pF, pG, pH, pI, pJ, pK, pL, pM, pN, pO, pP, if_true, if_false]))); (all_goals try rfl); (all_goals try (repeat' (first | done | rfl | (exfalso; omega) | contradiction | (refine iteR (fun hq => ?_) (fun hq => ?_)))))
    rw [if_neg c1]
    by_cases c2 : ¬ e.kind = 1 ∧ ¬ e.kind = 2
    · rw [if_pos c2]
      obtain ⟨c2, c3⟩ := c2
      rw [callL_code g_directory_Apply (by simp)]; simp -implicitDefEqProofs (maxSteps := 4000000) (disch := omega) only [c_directory_Apply, r_directory_Apply, getDT, go_sem, *]; (try simp only [pA, pB, pC, pD, pE, pF, pG, pH, pI, pJ, pK, pL, pM, pN, pO, pP, if_true, if_false]); repeat' (first | done | rfl | (refine iteC (fun hq => ?_) (fun hq => ?_) <;> (try (first | (exfalso; omega) | contradiction)) <;> (try simp -implicitDefEqProofs (maxSteps := 4000000) (disch := omega) only [getDT, go_sem, *]) <;> (try simp only [pA, pB, pC, pD, pE, pF, pG, pH, pI, pJ, pK, pL, pM, pN, pO, pP, if_true, if_false]))); (all_goals try rfl); (all_goals try (repeat' (first | done | rfl | (exfalso; omega) | contradiction | (refine iteR (fun hq => ?_) (fun hq => ?_)))))
    rw [if_neg c2]
    have hs1 := dslot_ok d e.from_ hF0
    have hs2 := dslot_ok d e.to hF0
    by_cases c3 : e.from_ < 0 ∨ (d.forward.length : Int) ≤ e.from_ ∨ e.to < 0 ∨ (d.forward.length : Int) ≤ e.to
    · rw [if_pos c3]
      have c4 : e.kind = 1 ∨ e.kind = 2 := by omega
      clear c2
      by_cases c5 : 0 ≤ e.from_ ∧ e.from_ < d.forward.length
      · rw [decide_eq_true c5] at hs1
        rw [decide_eq_false (by omega)] at hs2
        rcases c4 with c4 | c4
        · rw [callL_code g_directory_Apply (by simp)]; simp -implicitDefEqProofs (maxSteps := 4000000) (disch := omega) only [c_directory_Apply, r_directory_Apply, getDT, go_sem, *]; (try simp only [pA, pB, pC, pD, pE, pF, pG, pH, pI, pJ, pK, pL, pM, pN, pO, pP, if_true, if_false]); repeat' (first | done | rfl | (refine iteC (fun hq => ?_) (fun hq => ?_) <;> (try (first | (exfalso; omega) | contradiction)) <;> (try simp -implicitDefEqProofs (maxSteps := 4000000) (disch := omega) only [getDT, go_sem, *]) <;> (try simp only [pA, pB, pC, pD, pE, pF, pG, pH, pI, pJ, pK, pL, pM, pN, pO, pP, if_true, if_false]))); (all_goals try rfl); (all_goals try (repeat' (first | done | rfl | (exfalso; omega) | contradiction | (refine iteR (fun hq => ?_) (fun hq => ?_)))))
        · rw [callL_code g_directory_Apply (by simp)]; simp -implicitDefEqProofs (maxSteps := 4000000) (disch := omega) only [c_directory_Apply, r_directory_Apply, getDT, go_sem, *]; (try simp only [pA, pB, pC, pD, pE, pF, pG, pH, pI, pJ, pK, pL, pM, pN, pO, pP, if_true, if_false]); repeat' (first | done | rfl | (refine iteC (fun hq => ?_) (fun hq => ?_) <;> (try (first | (exfalso; omega) | contradiction)) <;> (try simp -implicitDefEqProofs (maxSteps := 4000000) (disch := omega) only [getDT, go_sem, *]) <;> (try simp only [pA, pB, pC, pD, pE, pF, pG, pH, pI, pJ, pK, pL, pM, pN, pO, pP, if_true, if_false]))); (all_goals try rfl); (all_goals try (repeat' (first | done | rfl | (exfalso; omega) | contradiction | (refine iteR (fun hq => ?_) (fun hq => ?_)))))
      · rw [decide_eq_false c5] at hs1
        rcases c4 with c4 | c4
        · rw [callL_code g_directory_Apply (by simp)]; simp -implicitDefEqProofs (maxSteps := 4000000) (disch := omega) only [c_directory_Apply, r_directory_Apply, getDT, go_sem, *]; (try simp only [pA, pB, pC, pD, pE, pF, pG, pH, pI, pJ, pK, pL, pM, pN, pO, pP, if_true, if_false]); repeat' (first | done | rfl | (refine iteC (fun hq => ?_) (fun hq => ?_) <;> (try (first | (exfalso; omega) | contradiction)) <;> (try simp -implicitDefEqProofs (maxSteps := 4000000) (disch := omega) only [getDT, go_sem, *]) <;> (try simp only [pA, pB, pC, pD, pE, pF, pG, pH, pI, pJ, pK, pL, pM, pN, pO, pP, if_true, if_false]))); (all_goals try rfl); (all_goals try (repeat' (first | done | rfl | (exfalso; omega) | contradiction | (refine iteR (fun hq => ?_) (fun hq => ?_)))))
        · rw [callL_code g_directory_Apply (by simp)]; simp -implicitDefEqProofs (maxSteps := 4000000) (disch := omega) only [c_directory_Apply, r_directory_Apply, getDT, go_sem, *]; (try simp only [pA, pB, pC, pD, pE, pF, pG, pH, pI, pJ, pK, pL, pM, pN, pO, pP, if_true, if_false]); repeat' (first | done | rfl | (refine iteC (fun hq => ?_) (fun hq => ?_) <;> (try (first | (exfalso; omega) | contradiction)) <;> (try simp -implicitDefEqProofs (maxSteps := 4000000) (disch := omega) only [getDT, go_sem, *]) <;> (try simp only [pA, pB, pC, pD, pE, pF, pG, pH, pI, pJ, pK, pL, pM, pN, pO, pP, if_true, if_false]))); (all_goals try rfl); (all_goals try (repeat' (first | done | rfl | (exfalso; omega) | contradiction | (refine iteR (fun hq => ?_) (fun hq => ?_)))))
    rw [if_neg c3]
    rw [decide_eq_true (by omega)] at hs1 hs2
    by_cases c4 : e.kind = 1
    · rw [if_pos c4]
      clear c2
      unfold splitD
      by_cases c5 : findS d.l e.from_ < 0 ∨ 0 ≤ findS d.l e.to
      · rw [if_pos c5]
        have hs := dsplit_state (d.version + 1) d.l d.forward e hL hl.2.1 c5
        unfold wD wH zDW at hs
        clear c5 htl htn b1 b2
        rw [callL_code g_directory_Apply (by simp)]; simp -implicitDefEqProofs (maxSteps := 4000000) (disch := omega) only [c_directory_Apply, r_directory_Apply, getDT, go_sem, *]; (try simp only [pA, pB, pC, pD, pE, pF, pG, pH, pI, pJ, pK, pL, pM, pN, pO, pP, if_true, if_false]); repeat' (first | done | rfl | (refine iteC (fun hq => ?_) (fun hq => ?_) <;> (try (first | (exfalso; omega) | contradiction)) <;> (try simp -implicitDefEqProofs (maxSteps := 4000000) (disch := omega) only [getDT, go_sem, *]) <;> (try simp only [pA, pB, pC, pD, pE, pF, pG, pH, pI, pJ, pK, pL, pM, pN, pO, pP, if_true, if_false]))); (all_goals try rfl); (all_goals try (repeat' (first | done | rfl | (exfalso; omega) | contradiction | (refine iteR (fun hq => ?_) (fun hq => ?_)))))
      rw [if_neg c5]
      obtain ⟨i, hi0⟩ : ∃ n : Nat, findS d.l e.from_ = n := ⟨(findS d.l e.from_).toNat, by omega⟩
      obtain ⟨hi, hsh⟩ := findS_get hi0
      rw [hi0, Int.toNat_natCast, getDT hi]
      by_cases c6 : e.mid < d.l[i].low ∨ d.l[i].high ≤ e.mid
      · rw [if_pos c6]
        have hs := dsplit_range (d.version + 1) d.l d.forward e hL hl.2.1 i hi ⟨hi0, by omega⟩ c6
        unfold wD wH zDW at hs
        clear c5 c6 htl htn b1 b2 hi0 hsh
        rw [callL_code g_directory_Apply (by simp)]; simp -implicitDefEqProofs (maxSteps := 4000000) (disch := omega) only [c_directory_Apply, r_directory_Apply, getDT, go_sem, *]; (try simp only [pA, pB, pC, pD, pE, pF, pG, pH, pI, pJ, pK, pL, pM, pN, pO, pP, if_true, if_false]); repeat' (first | done | rfl | (refine iteC (fun hq => ?_) (fun hq => ?_) <;> (try (first | (exfalso; omega) | contradiction)) <;> (try simp -implicitDefEqProofs (maxSteps := 4000000) (disch := omega) only [getDT, go_sem, *]) <;> (try simp only [pA, pB, pC, pD, pE, pF, pG, pH, pI, pJ, pK, pL, pM, pN, pO, pP, if_true, if_false]))); (all_goals try rfl); (all_goals try (repeat' (first | done | rfl | (exfalso; omega) | contradiction | (refine iteR (fun hq => ?_) (fun hq => ?_)))))
      · rw [if_neg c6]
        obtain ⟨t, ht⟩ : ∃ n : Nat, e.to = n := ⟨e.to.toNat, by omega⟩
        have hti := htl d.l[i] (List.getElem_mem _)
        have hs := dsplit_ok (d.version + 1) d.l _ d.forward e hL hl.2.1 i t hi (by omega) ⟨hi0, by omega⟩ ht (by omega) ⟨hti.1, hti.2.2⟩ rfl
        rw [hsh] at hs
        rw [ht, Int.toNat_natCast]
        rw [ht] at hs hs2
        unfold wD wH at hs
        generalize d.l.take i ++ [Span.mk d.l[i].low e.mid e.from_, ⟨e.mid + 1, d.l[i].high, t⟩] ++ d.l.drop (i + 1) = q at *
        generalize hfs : d.forward.set t (-1) = F at *
        have hFl : F.length = d.forward.length := by rw [← hfs, List.length_set]
        clear c5 c6 htl htn b1 b2 hi0 hsh hti hfs
        rw [callL_code g_directory_Apply (by simp)]; simp -implicitDefEqProofs (maxSteps := 4000000) (disch := omega) only [c_directory_Apply, r_directory_Apply, getDT, go_sem, *]; (try simp only [pA, pB, pC, pD, pE, pF, pG, pH, pI, pJ, pK, pL, pM, pN, pO, pP, if_true, if_false]); repeat' (first | done | rfl | (refine iteC (fun hq => ?_) (fun hq => ?_) <;> (try (first | (exfalso; omega) | contradiction)) <;> (try simp -implicitDefEqProofs (maxSteps := 4000000) (disch := omega) only [getDT, go_sem, *]) <;> (try simp only [pA, pB, pC, pD, pE, pF, pG, pH, pI, pJ, pK, pL, pM, pN, pO, pP, if_true, if_false]))); (all_goals try rfl); (all_goals try (repeat' (first | done | rfl | (exfalso; omega) | contradiction | (refine iteR (fun hq => ?_) (fun hq => ?_)))))
        all_goals simp only [eDirectory]
    · rw [if_neg c4]
      have hk2 : e.kind = 2 := by omega
      clear c2
      unfold mergeD
      by_cases c5 : findS d.l e.from_ < 0 ∨ findS d.l e.to < 0 ∨ ¬ findS d.l e.from_ - findS d.l e.to = 1 ∧ ¬ findS d.l e.to - findS d.l e.from_ = 1
      · rw [if_pos c5]
        have hs := dmerge_state (d.version + 1) d.l d.forward e hL hl.2.1 c5
        unfold wD wH zDW at hs
        clear c5 htl htn b1 b2
        rw [callL_code g_directory_Apply (by simp)]; simp -implicitDefEqProofs (maxSteps := 4000000) (disch := omega) only [c_directory_Apply, r_directory_Apply, getDT, go_sem, *]; (try simp only [pA, pB, pC, pD, pE, pF, pG, pH, pI, pJ, pK, pL, pM, pN, pO, pP, if_true, if_false]); repeat' (first | done | rfl | (refine iteC (fun hq => ?_) (fun hq => ?_) <;> (try (first | (exfalso; omega) | contradiction)) <;> (try simp -implicitDefEqProofs (maxSteps := 4000000) (disch := omega) only [getDT, go_sem, *]) <;> (try simp only [pA, pB, pC, pD, pE, pF, pG, pH, pI, pJ, pK, pL, pM, pN, pO, pP, if_true, if_false]))); (all_goals try rfl); (all_goals try (repeat' (first | done | rfl | (exfalso; omega) | contradiction | (refine iteR (fun hq => ?_) (fun hq => ?_)))))
      rw [if_neg c5]
      obtain ⟨i, hi0⟩ : ∃ n : Nat, findS d.l e.from_ = n := ⟨(findS d.l e.from_).toNat, by omega⟩
      obtain ⟨k, hk0⟩ : ∃ n : Nat, findS d.l e.to = n := ⟨(findS d.l e.to).toNat, by omega⟩
      obtain ⟨hi, hsi⟩ := findS_get hi0
      obtain ⟨hk, hsk⟩ := findS_get hk0
      obtain ⟨t, ht⟩ : ∃ n : Nat, e.from_ = n := ⟨e.from_.toNat, by omega⟩
      obtain ⟨f, hf⟩ : ∃ f : Nat, min (findS d.l e.from_) (findS d.l e.to) = f := ⟨(min (findS d.l e.from_) (findS d.l e.to)).toNat, by omega⟩
      have hf1 : f + 1 < d.l.length := by omega
      have hs := dmerge_ok (d.version + 1) d.l _ d.forward e hL hl.2.1 i k t hi hk (by omega) ⟨hi0, hk0⟩ (by omega) ht rfl
      rw [hf, Int.toNat_natCast, getDT (show f < d.l.length by omega), getDT hf1, ht, Int.toNat_natCast]
      have hq : (d.l.set k ⟨if d.l[k].low < d.l[i].low then d.l[k].low else d.l[i].low, if d.l[i].high < d.l[k].high then d.l[k].high else d.l[i].high, d.l[k].shard⟩).take i ++ (d.l.set k ⟨if d.l[k].low < d.l[i].low then d.l[k].low else d.l[i].low, if d.l[i].high < d.l[k].high then d.l[k].high else d.l[i].high, d.l[k].shard⟩).drop (i + 1) = d.l.take f ++ [⟨d.l[f].low, d.l[f + 1].high, e.to⟩] ++ d.l.drop (f + 2) := by
        have hn := htn f hf1
        have hx := htl d.l[f] (List.getElem_mem _)
        have hy := htl d.l[f + 1] (List.getElem_mem _)
        have hcase : (i = f ∧ k = f + 1) ∨ (i = f + 1 ∧ k = f) := by omega
        rcases hcase with ⟨q1, q2⟩ | ⟨q1, q2⟩
        · subst q1 q2
          rw [if_neg (by omega), if_pos (by omega), hsk, List.take_set_of_le (by omega), List.drop_set, if_neg (by omega), Nat.sub_self, List.append_assoc]
          rw [List.drop_eq_getElem_cons hf1]; rfl
        · subst q1 q2
          rw [if_pos (by omega), if_neg (by omega), hsk, (set_parts _ hk).1, List.drop_set, if_pos (by omega)]
      rw [hq] at hs
      rw [ht] at hs1
      unfold wD wH at hs
      generalize d.l.take f ++ [Span.mk d.l[f].low d.l[f + 1].high e.to] ++ d.l.drop (f + 2) = q at *
      generalize hfs : d.forward.set t e.to = F at *
      have hFl : F.length = d.forward.length := by rw [← hfs, List.length_set]
      clear c5 htl htn b1 b2 hi0 hk0 hsi hsk hf hq hfs
      rw [callL_code g_directory_Apply (by simp)]; simp -implicitDefEqProofs (maxSteps := 4000000) (disch := omega) only [c_directory_Apply, r_directory_Apply, getDT, go_sem, *]; (try simp only [pA, pB, pC, pD, pE, pF, pG, pH, pI, pJ, pK, pL, pM, pN, pO, pP, if_true, if_false]); repeat' (first | done | rfl | (refine iteC (fun hq => ?_) (fun hq => ?_) <;> (try (first | (exfalso; omega) | contradiction)) <;> (try simp -implicitDefEqProofs (maxSteps := 4000000) (disch := omega) only [getDT, go_sem, *]) <;> (try simp only [pA, pB, pC, pD, pE, pF, pG, pH, pI, pJ, pK, pL, pM, pN, pO, pP, if_true, if_false]))); (all_goals try rfl); (all_goals try (repeat' (first | done | rfl | (exfalso; omega) | contradiction | (refine iteR (fun hq => ?_) (fun hq => ?_)))))
      all_goals simp only [eDirectory]
  · rw [if_pos c0]
    rw [callL_code g_directory_Apply (by simp)]; simp -implicitDefEqProofs (maxSteps := 4000000) (disch := omega) only [c_directory_Apply, r_directory_Apply, getDT, go_sem, *]; (try simp only [pA, pB, pC, pD, pE, pF, pG, pH, pI, pJ, pK, pL, pM, pN, pO, pP, if_true, if_false]); repeat' (first | done | rfl | (refine iteC (fun hq => ?_) (fun hq => ?_) <;> (try (first | (exfalso; omega) | contradiction)) <;> (try simp -implicitDefEqProofs (maxSteps := 4000000) (disch := omega) only [getDT, go_sem, *]) <;> (try simp only [pA, pB, pC, pD, pE, pF, pG, pH, pI, pJ, pK, pL, pM, pN, pO, pP, if_true, if_false]))); (all_goals try rfl); (all_goals try (repeat' (first | done | rfl | (exfalso; omega) | contradiction | (refine iteR (fun hq => ?_) (fun hq => ?_)))))
end Go.Proofs.Ytkdjbfjohbiemaa

namespace Go.Proofs.Ytkdjbfjohbiemaa
open Go Go.Sim
set_option linter.unusedSimpArgs false
set_option linter.unusedVariables false
set_option maxHeartbeats 10000000
set_option maxRecDepth 40000
theorem awake10_ok : callL G N_law10_awake [] [] = some (.d (.bool true), []) := by
  obtain ⟨d, hd, h1, h2, h3, h4, h5⟩ : ∃ d : Directory, newD 3 2 = (d, 0) ∧ d.l.length = 2 ∧ d.forward.length = 3 ∧ ownerD d 32767 = 0 ∧ ownerD d 32768 = 1 ∧ homeD d 2 = -1 := ⟨_, rfl, by decide, by decide, by decide, by decide, by decide⟩
  have e0 := dnew_ok 3 2
  rw [hd] at e0
  have e1 := downer_ok d 32767 (by omega) (by omega)
  have e2 := downer_ok d 32768 (by omega) (by omega)
  have e3 := dhome_ok d 2 (by omega) (by omega)
  rw [h3] at e1
  rw [h4] at e2
  rw [h5] at e3
  clear hd h3 h4 h5
  rw [callL_code g_law10_awake (by simp)]; simp -implicitDefEqProofs (maxSteps := 4000000) (disch := omega) only [c_law10_awake, r_law10_awake, getDT, go_sem, *]; (try simp only [pA, pB, pC, pD, pE, pF, pG, pH, pI, pJ, pK, pL, pM, pN, pO, pP, if_true, if_false]); repeat' (first | done | rfl | (refine iteC (fun hq => ?_) (fun hq => ?_) <;> (try (first | (exfalso; omega) | contradiction)) <;> (try simp -implicitDefEqProofs (maxSteps := 4000000) (disch := omega) only [getDT, go_sem, *]) <;> (try simp only [pA, pB, pC, pD, pE, pF, pG, pH, pI, pJ, pK, pL, pM, pN, pO, pP, if_true, if_false]))); (all_goals try rfl); (all_goals try (repeat' (first | done | rfl | (exfalso; omega) | contradiction | (refine iteR (fun hq => ?_) (fun hq => ?_)))))
theorem applyD_len (d : Directory) (e : Edit) (hL : d.l.length ≤ 1000000) (hF : d.forward.length ≤ 1000000) : (applyD d e).1.l.length ≤ 1000002 ∧ (applyD d e).1.forward.length ≤ 1000000 := by
  unfold applyD
  split
  · simp [zDirectory]
  split
  · simp [zDirectory]
  split
  · simp [zDirectory]
  split
  · simp [zDirectory]
  split
  · unfold splitD
    split
    · simp [zDirectory]
    split
    · simp [zDirectory]
    · simp; omega
  · unfold mergeD
    split
    · simp [zDirectory]
    · simp; omega
theorem agrees_ok (d : Directory) (e : Edit) (r s : Int) (hL : d.l.length ≤ 1000000) (hF : d.forward.length ≤ 1000000) : callL G N_law10_agrees [.d (eDirectory d), .d (eEdit e), .d (.int .i64 r), .d (.int .i64 s)] [] = some (.d (.bool true), []) := by
  have e1 := dapply_ok d e hL hF
  have e2 := r10apply_ok d e hL
  have e3 := dSpan_ok d s (by omega) (by omega)
  have e4 := r10span_ok d s (by omega)
  have e5 := same_Directory (applyD d e).1 (applyD d e).1 (by have := applyD_len d e hL hF; omega) (by have := applyD_len d e hL hF; omega)
  have e6 := dValidate_ok d (by omega) (by omega)
  have e7 := r10val_ok d (by omega)
  have e8 := downer_ok d r (by omega) (by omega)
  have e9 := r10owner_ok d r (by omega)
  have e10 := dhome_ok d s (by omega) (by omega)
  have e11 := r10home_ok d s (by omega)
  rw [decide_eq_true rfl] at e5
  generalize applyD d e = x at *
  generalize spanD d s = y at *
  generalize dirV d = z at *
  obtain ⟨y1, y2⟩ := y
  obtain ⟨x1, x2⟩ := x
  rw [callL_code g_law10_agrees (by simp)]; simp -implicitDefEqProofs (maxSteps := 4000000) (disch := omega) only [c_law10_agrees, r_law10_agrees, getDT, go_sem, *]; (try simp only [pA, pB, pC, pD, pE, pF, pG, pH, pI, pJ, pK, pL, pM, pN, pO, pP, if_true, if_false]); repeat' (first | done | rfl | (refine iteC (fun hq => ?_) (fun hq => ?_) <;> (try (first | (exfalso; omega) | contradiction)) <;> (try simp -implicitDefEqProofs (maxSteps := 4000000) (disch := omega) only [getDT, go_sem, *]) <;> (try simp only [pA, pB, pC, pD, pE, pF, pG, pH, pI, pJ, pK, pL, pM, pN, pO, pP, if_true, if_false]))); (all_goals try rfl); (all_goals try (repeat' (first | done | rfl | (exfalso; omega) | contradiction | (refine iteR (fun hq => ?_) (fun hq => ?_)))))
end Go.Proofs.Ytkdjbfjohbiemaa

namespace Go.Proofs.Ytkdjbfjohbiemaa
open Go Go.Sim
set_option linter.unusedSimpArgs false
set_option linter.unusedVariables false
set_option maxHeartbeats 10000000
set_option maxRecDepth 40000
theorem ends_law (n : Nat) (hn : n < 256) : callL G N_law10_DirectoryEnds [.d (.int .u8 n)] [] = some (.d (.bool true), []) := by
  have e0 := dnew_ok 2 1
  rw [show newD 2 1 = (⟨1, [⟨0, 65535, 0⟩], [-1, -1]⟩, 0) from by decide] at e0
  have hw := awake10_ok
  simp only [eDirectory, eSpan, ints, List.map_cons, List.map_nil] at e0
  have h4 : n % 4 = 0 ∨ n % 4 = 1 ∨ n % 4 = 2 ∨ n % 4 = 3 := by omega
  have hb : 0 ≤ (n : Int).tmod 4 ∧ (n : Int).tmod 4 ≤ 3 := by rw [Int.tmod_eq_emod_of_nonneg (by omega)]; omega
  rcases h4 with h | h | h | h
  · have hm : (n : Int).tmod 4 = 0 := by rw [Int.tmod_eq_emod_of_nonneg (by omega)]; omega
    clear h hb
    have a0 := dapply_ok ⟨1099511627776, [⟨0, 65535, 0⟩], [-1, -1]⟩ ⟨1, 0, 1, 100⟩ (by simp) (by simp)
    rw [show applyD ⟨1099511627776, [⟨0, 65535, 0⟩], [-1, -1]⟩ ⟨1, 0, 1, 100⟩ = (zDirectory, 6) from by decide] at a0
    have a1 := dapply_ok ⟨1099511627776, [⟨0, 65535, 0⟩], [-1, -1]⟩ ⟨2, 1, 0, 0⟩ (by simp) (by simp)
    rw [show applyD ⟨1099511627776, [⟨0, 65535, 0⟩], [-1, -1]⟩ ⟨2, 1, 0, 0⟩ = (zDirectory, 6) from by decide] at a1
    simp only [eDirectory, eSpan, eEdit, ints, zDirectory, List.map_cons, List.map_nil] at a0 a1
    rw [callL_code g_law10_DirectoryEnds (by simp)]; simp -implicitDefEqProofs (maxSteps := 4000000) (disch := omega) only [c_law10_DirectoryEnds, r_law10_DirectoryEnds, loopL_eq, l_law10_DirectoryEnds_0, getDT, go_sem, *]; (try simp only [pA, pB, pC, pD, pE, pF, pG, pH, pI, pJ, pK, pL, pM, pN, pO, pP, if_true, if_false]); repeat' (first | done | rfl | (refine iteC (fun hq => ?_) (fun hq => ?_) <;> (try (first | (exfalso; omega) | contradiction)) <;> (try simp -implicitDefEqProofs (maxSteps := 4000000) (disch := omega) only [loopL_eq, l_law10_DirectoryEnds_0, getDT, go_sem, *]) <;> (try simp only [pA, pB, pC, pD, pE, pF, pG, pH, pI, pJ, pK, pL, pM, pN, pO, pP, if_true, if_false]))); (all_goals try rfl); (all_goals try (repeat' (first | done | rfl | (exfalso; omega) | contradiction | (refine iteR (fun hq => ?_) (fun hq => ?_)))))
  · have hm : (n : Int).tmod 4 = 1 := by rw [Int.tmod_eq_emod_of_nonneg (by omega)]; omega
    clear h hb
    have a0 := dapply_ok ⟨1099511627775, [⟨0, 65535, 0⟩], [-1, -1]⟩ ⟨1, 0, 1, 100⟩ (by simp) (by simp)
    rw [show applyD ⟨1099511627775, [⟨0, 65535, 0⟩], [-1, -1]⟩ ⟨1, 0, 1, 100⟩ = (⟨1099511627776, [⟨0, 100, 0⟩, ⟨101, 65535, 1⟩], [-1, -1]⟩, 0) from by decide] at a0
    have a1 := dapply_ok ⟨1099511627776, [⟨0, 100, 0⟩, ⟨101, 65535, 1⟩], [-1, -1]⟩ ⟨2, 1, 0, 0⟩ (by simp) (by simp)
    rw [show applyD ⟨1099511627776, [⟨0, 100, 0⟩, ⟨101, 65535, 1⟩], [-1, -1]⟩ ⟨2, 1, 0, 0⟩ = (zDirectory, 6) from by decide] at a1
    have a2 := dapply_ok ⟨1099511627776, [⟨0, 100, 0⟩, ⟨101, 65535, 1⟩], [-1, -1]⟩ ⟨1, 0, 1, 100⟩ (by simp) (by simp)
    rw [show applyD ⟨1099511627776, [⟨0, 100, 0⟩, ⟨101, 65535, 1⟩], [-1, -1]⟩ ⟨1, 0, 1, 100⟩ = (zDirectory, 6) from by decide] at a2
    simp only [eDirectory, eSpan, eEdit, ints, zDirectory, List.map_cons, List.map_nil] at a0 a1 a2
    rw [callL_code g_law10_DirectoryEnds (by simp)]; simp -implicitDefEqProofs (maxSteps := 4000000) (disch := omega) only [c_law10_DirectoryEnds, r_law10_DirectoryEnds, loopL_eq, l_law10_DirectoryEnds_0, getDT, go_sem, *]; (try simp only [pA, pB, pC, pD, pE, pF, pG, pH, pI, pJ, pK, pL, pM, pN, pO, pP, if_true, if_false]); repeat' (first | done | rfl | (refine iteC (fun hq => ?_) (fun hq => ?_) <;> (try (first | (exfalso; omega) | contradiction)) <;> (try simp -implicitDefEqProofs (maxSteps := 4000000) (disch := omega) only [loopL_eq, l_law10_DirectoryEnds_0, getDT, go_sem, *]) <;> (try simp only [pA, pB, pC, pD, pE, pF, pG, pH, pI, pJ, pK, pL, pM, pN, pO, pP, if_true, if_false]))); (all_goals try rfl); (all_goals try (repeat' (first | done | rfl | (exfalso; omega) | contradiction | (refine iteR (fun hq => ?_) (fun hq => ?_)))))
  · have hm : (n : Int).tmod 4 = 2 := by rw [Int.tmod_eq_emod_of_nonneg (by omega)]; omega
    clear h hb
    have a0 := dapply_ok ⟨1099511627774, [⟨0, 65535, 0⟩], [-1, -1]⟩ ⟨1, 0, 1, 100⟩ (by simp) (by simp)
    rw [show applyD ⟨1099511627774, [⟨0, 65535, 0⟩], [-1, -1]⟩ ⟨1, 0, 1, 100⟩ = (⟨1099511627775, [⟨0, 100, 0⟩, ⟨101, 65535, 1⟩], [-1, -1]⟩, 0) from by decide] at a0
    have a1 := dapply_ok ⟨1099511627775, [⟨0, 100, 0⟩, ⟨101, 65535, 1⟩], [-1, -1]⟩ ⟨2, 1, 0, 0⟩ (by simp) (by simp)
    rw [show applyD ⟨1099511627775, [⟨0, 100, 0⟩, ⟨101, 65535, 1⟩], [-1, -1]⟩ ⟨2, 1, 0, 0⟩ = (⟨1099511627776, [⟨0, 65535, 0⟩], [-1, 0]⟩, 0) from by decide] at a1
    have a2 := dapply_ok ⟨1099511627776, [⟨0, 65535, 0⟩], [-1, 0]⟩ ⟨1, 0, 1, 100⟩ (by simp) (by simp)
    rw [show applyD ⟨1099511627776, [⟨0, 65535, 0⟩], [-1, 0]⟩ ⟨1, 0, 1, 100⟩ = (zDirectory, 6) from by decide] at a2
    have a3 := dapply_ok ⟨1099511627776, [⟨0, 65535, 0⟩], [-1, 0]⟩ ⟨2, 1, 0, 0⟩ (by simp) (by simp)
    rw [show applyD ⟨1099511627776, [⟨0, 65535, 0⟩], [-1, 0]⟩ ⟨2, 1, 0, 0⟩ = (zDirectory, 6) from by decide] at a3
    simp only [eDirectory, eSpan, eEdit, ints, zDirectory, List.map_cons, List.map_nil] at a0 a1 a2 a3
    rw [callL_code g_law10_DirectoryEnds (by simp)]; simp -implicitDefEqProofs (maxSteps := 4000000) (disch := omega) only [c_law10_DirectoryEnds, r_law10_DirectoryEnds, loopL_eq, l_law10_DirectoryEnds_0, getDT, go_sem, *]; (try simp only [pA, pB, pC, pD, pE, pF, pG, pH, pI, pJ, pK, pL, pM, pN, pO, pP, if_true, if_false]); repeat' (first | done | rfl | (refine iteC (fun hq => ?_) (fun hq => ?_) <;> (try (first | (exfalso; omega) | contradiction)) <;> (try simp -implicitDefEqProofs (maxSteps := 4000000) (disch := omega) only [loopL_eq, l_law10_DirectoryEnds_0, getDT, go_sem, *]) <;> (try simp only [pA, pB, pC, pD, pE, pF, pG, pH, pI, pJ, pK, pL, pM, pN, pO, pP, if_true, if_false]))); (all_goals try rfl); (all_goals try (repeat' (first | done | rfl | (exfalso; omega) | contradiction | (refine iteR (fun hq => ?_) (fun hq => ?_)))))
  · have hm : (n : Int).tmod 4 = 3 := by rw [Int.tmod_eq_emod_of_nonneg (by omega)]; omega
    clear h hb
    have a0 := dapply_ok ⟨1099511627773, [⟨0, 65535, 0⟩], [-1, -1]⟩ ⟨1, 0, 1, 100⟩ (by simp) (by simp)
    rw [show applyD ⟨1099511627773, [⟨0, 65535, 0⟩], [-1, -1]⟩ ⟨1, 0, 1, 100⟩ = (⟨1099511627774, [⟨0, 100, 0⟩, ⟨101, 65535, 1⟩], [-1, -1]⟩, 0) from by decide] at a0
    have a1 := dapply_ok ⟨1099511627774, [⟨0, 100, 0⟩, ⟨101, 65535, 1⟩], [-1, -1]⟩ ⟨2, 1, 0, 0⟩ (by simp) (by simp)
    rw [show applyD ⟨1099511627774, [⟨0, 100, 0⟩, ⟨101, 65535, 1⟩], [-1, -1]⟩ ⟨2, 1, 0, 0⟩ = (⟨1099511627775, [⟨0, 65535, 0⟩], [-1, 0]⟩, 0) from by decide] at a1
    have a2 := dapply_ok ⟨1099511627775, [⟨0, 65535, 0⟩], [-1, 0]⟩ ⟨1, 0, 1, 100⟩ (by simp) (by simp)
    rw [show applyD ⟨1099511627775, [⟨0, 65535, 0⟩], [-1, 0]⟩ ⟨1, 0, 1, 100⟩ = (⟨1099511627776, [⟨0, 100, 0⟩, ⟨101, 65535, 1⟩], [-1, -1]⟩, 0) from by decide] at a2
    have a3 := dapply_ok ⟨1099511627776, [⟨0, 100, 0⟩, ⟨101, 65535, 1⟩], [-1, -1]⟩ ⟨2, 1, 0, 0⟩ (by simp) (by simp)
    rw [show applyD ⟨1099511627776, [⟨0, 100, 0⟩, ⟨101, 65535, 1⟩], [-1, -1]⟩ ⟨2, 1, 0, 0⟩ = (zDirectory, 6) from by decide] at a3
    have a4 := dapply_ok ⟨1099511627776, [⟨0, 100, 0⟩, ⟨101, 65535, 1⟩], [-1, -1]⟩ ⟨1, 0, 1, 100⟩ (by simp) (by simp)
    rw [show applyD ⟨1099511627776, [⟨0, 100, 0⟩, ⟨101, 65535, 1⟩], [-1, -1]⟩ ⟨1, 0, 1, 100⟩ = (zDirectory, 6) from by decide] at a4
    simp only [eDirectory, eSpan, eEdit, ints, zDirectory, List.map_cons, List.map_nil] at a0 a1 a2 a3 a4
    rw [callL_code g_law10_DirectoryEnds (by simp)]; simp -implicitDefEqProofs (maxSteps := 4000000) (disch := omega) only [c_law10_DirectoryEnds, r_law10_DirectoryEnds, loopL_eq, l_law10_DirectoryEnds_0, getDT, go_sem, *]; (try simp only [pA, pB, pC, pD, pE, pF, pG, pH, pI, pJ, pK, pL, pM, pN, pO, pP, if_true, if_false]); repeat' (first | done | rfl | (refine iteC (fun hq => ?_) (fun hq => ?_) <;> (try (first | (exfalso; omega) | contradiction)) <;> (try simp -implicitDefEqProofs (maxSteps := 4000000) (disch := omega) only [loopL_eq, l_law10_DirectoryEnds_0, getDT, go_sem, *]) <;> (try simp only [pA, pB, pC, pD, pE, pF, pG, pH, pI, pJ, pK, pL, pM, pN, pO, pP, if_true, if_false]))); (all_goals try rfl); (all_goals try (repeat' (first | done | rfl | (exfalso; omega) | contradiction | (refine iteR (fun hq => ?_) (fun hq => ?_)))))
end Go.Proofs.Ytkdjbfjohbiemaa
