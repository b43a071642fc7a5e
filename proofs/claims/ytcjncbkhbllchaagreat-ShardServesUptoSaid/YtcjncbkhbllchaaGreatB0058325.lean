/-
  Part of the calculus in which the claim is proved: Tables of leases: what is wrong with them
-/
import Derived.Test.YtcjncbkhbllchaaGreatB0d8e8c9
import Derived.Test.YtcjncbkhbllchaaGreatB8368d65
set_option linter.unusedSimpArgs false
set_option linter.unusedVariables false
set_option maxHeartbeats 10000000
set_option maxRecDepth 100000
namespace Go.Proofs.YtcjncbkhbllchaaGreat
open Go Go.Sim
theorem zks (a b : Due) : callL G z2b [.d (eD a), .d (eD b)] [] = some (.d (.bool (lt a b)), []) := by
 have key : lt a b = (decide (a.1 < b.1) || (decide (a.1 = b.1) && decide (a.2 < b.2))) := by
  have := lt_iff a b
  cases h : lt a b
  · rw [h] at this; simp at this; simp; omega
  · rw [h] at this; simp at this; simp; omega
 rw [key]
 simp only [eD]
 clear key
 rw [zjI zbF (by simp)]; simp -implicitDefEqProofs (disch := omega) only [zat, getDT, go_sem, *]
theorem zsG (d : Due) : callL G z2e [.d (eD d)] [] = some (.d (.bool (validD d)), []) := by
 unfold validD
 simp only [eD]
 rw [zjI zbH (by simp)]; simp -implicitDefEqProofs (disch := omega) only [zav, getDT, go_sem, *]
def refIdxR (h : List Due) (j : Int) (k : Nat) : AExit × St := match (h.drop k).findIdx? (fun d => decide (d.2 = j)) with | some i => (.ret, ⟨[(4, .d (.int .i64 ((k + i : Nat) : Int)))], []⟩) | none => (.exit 0, ⟨[], []⟩)
theorem zzn (h : List Due) (j : Int) (hL : h.length ≤ LIM) : ∀ k, k ≤ h.length → loopL G [] l_ref05_index_0 ⟨[(0, .d (.sl (h.map eD))), (1, .d (.int .i64 j)), (5, .d (.int .i64 k))], []⟩ = some (refIdxR h j k) := by
 refine zjM (fun k => h.length - k) (fun k => k ≤ h.length) _ _ fun k hk L ih => ?_
 simp -implicitDefEqProofs (disch := omega) only [l_ref05_index_0, go_sem]
 by_cases hlt : k < h.length
 · simp -implicitDefEqProofs (disch := omega) only [List.length_map, show ((k : Int) < (h.length : Int)) by omega, show (0 : Int) ≤ (k : Int) by omega, Int.toNat_natCast, List.getElem?_map, List.getElem?_eq_getElem hlt, zjU, zjV, eD, wrap1 hlt hL, go_sem]
   unfold refIdxR
   rw [List.drop_eq_getElem_cons hlt, List.findIdx?_cons]
   by_cases he : h[k].2 = j
   · simp [he]
   · simp only [he, decide_false, Bool.false_eq_true, if_false]
     have i1 := ih (k + 1) (by omega) (by omega)
     simp only [Int.natCast_add, Int.natCast_one] at i1
     rw [i1]
     unfold refIdxR
     cases (h.drop (k + 1)).findIdx? (fun d => decide (d.2 = j)) with
     | none => rfl
     | some i => simp; omega
 · have : k = h.length := by omega
   subst this
   simp -implicitDefEqProofs (disch := omega) only [List.length_map, show ¬ ((h.length : Int) < (h.length : Int)) by omega, go_sem]
   simp [refIdxR]
theorem zpW (h : List Due) (j : Int) (hL : h.length ≤ LIM) : callL G z2d [.d (.sl (h.map eD)), .d (.int .i64 j)] [] = some (.d (.int .i64 (findD h j)), []) := by
 have := zzn h j hL 0 (by omega)
 simp only [Int.natCast_zero] at this
 rw [zjI zbG (by simp)]; simp -implicitDefEqProofs (disch := omega) only [zau, go_sem, Nat.zero_add]
 simp only [this]
 unfold refIdxR findD idxI
 simp only [List.drop_zero, Nat.zero_add]
 cases h.findIdx? (fun d => decide (d.2 = j)) <;> simp -implicitDefEqProofs (disch := omega) only [go_sem]
def refV0 (h : List Due) (k : Nat) : AExit × St := if (h.drop k).any (fun d => !validD d) then (.ret, ⟨[(2, .d (.int .i64 1))], []⟩) else (.exit 0, ⟨[(0, .d (.sl (h.map eD)))], []⟩)
theorem zzp (h : List Due) (hL : h.length ≤ 12) : ∀ k, k ≤ h.length → loopL G [] l_ref05_Validate_0 ⟨[(0, .d (.sl (h.map eD))), (3, .d (.int .i64 k))], []⟩ = some (refV0 h k) := by
 refine zjM (fun k => h.length - k) (fun k => k ≤ h.length) _ _ fun k hk L ih => ?_
 simp -implicitDefEqProofs (disch := omega) only [l_ref05_Validate_0, go_sem]
 by_cases hlt : k < h.length
 · have hs := zsG h[k]
   simp -implicitDefEqProofs (disch := omega) only [List.length_map, show ((k : Int) < (h.length : Int)) by omega, show (0 : Int) ≤ (k : Int) by omega, Int.toNat_natCast, List.getElem?_map, List.getElem?_eq_getElem hlt, zjU, zjV, hs, wrap1 hlt (show h.length ≤ LIM by simp [LIM]; omega), go_sem]
   have i1 := ih (k + 1) (by omega) (by omega)
   simp only [Int.natCast_add, Int.natCast_one] at i1
   rw [i1]
   unfold refV0
   rw [List.drop_eq_getElem_cons hlt, List.any_cons]
   cases validD h[k] <;> rfl
 · have : k = h.length := by omega
   subst this
   simp -implicitDefEqProofs (disch := omega) only [List.length_map, show ¬ ((h.length : Int) < (h.length : Int)) by omega, go_sem]
   simp [refV0]
def refV1 (h : List Due) (k : Nat) : AExit × St := if (List.range' k (h.length - k)).any (dupAt h) then (.ret, ⟨[(2, .d (.int .i64 10))], []⟩) else (.exit 2, ⟨[(0, .d (.sl (h.map eD)))], []⟩)
theorem zzq (h : List Due) (hL : h.length ≤ 12) : ∀ k, k ≤ h.length → loopL G [] l_ref05_Validate_1 ⟨[(0, .d (.sl (h.map eD))), (4, .d (.int .i64 k))], []⟩ = some (refV1 h k) := by
 refine zjM (fun k => h.length - k) (fun k => k ≤ h.length) _ _ fun k hk L ih => ?_
 simp -implicitDefEqProofs (disch := omega) only [l_ref05_Validate_1, go_sem]
 by_cases hlt : k < h.length
 · have hf := zpW h h[k].2 (by simp [LIM]; omega)
   simp -implicitDefEqProofs (disch := omega) only [List.length_map, show ((k : Int) < (h.length : Int)) by omega, show (0 : Int) ≤ (k : Int) by omega, Int.toNat_natCast, List.getElem?_map, List.getElem?_eq_getElem hlt, zjU, zjV, eD, hf, wrap1 hlt (show h.length ≤ LIM by simp [LIM]; omega), go_sem]
   have i1 := ih (k + 1) (by omega) (by omega)
   simp only [Int.natCast_add, Int.natCast_one] at i1
   rw [i1]
   unfold refV1
   rw [show h.length - k = (h.length - (k + 1)) + 1 by omega, List.range'_succ, List.any_cons]
   have hd : dupAt h k = !decide (findD h h[k].2 = k) := by simp [dupAt, hlt]
   rw [hd]
   cases decide (findD h h[k].2 = k) <;> rfl
 · have : k = h.length := by omega
   subst this
   simp -implicitDefEqProofs (disch := omega) only [List.length_map, show ¬ ((h.length : Int) < (h.length : Int)) by omega, go_sem]
   simp [refV1]
def refV2 (h : List Due) (k : Nat) : AExit × St := if (List.range' k (h.length - k)).any (ordAt h) then (.ret, ⟨[(2, .d (.int .i64 11))], []⟩) else (.exit 4, ⟨[], []⟩)
theorem zzr (h : List Due) (hL : h.length ≤ 12) : ∀ k : Nat, 1 ≤ k → loopL G [] l_ref05_Validate_2 ⟨[(0, .d (.sl (h.map eD))), (5, .d (.int .i64 k))], []⟩ = some (refV2 h k) := by
 refine zjM (fun k => h.length - k) (fun k => 1 ≤ k) _ _ fun k hk L ih => ?_
 simp -implicitDefEqProofs (disch := omega) only [l_ref05_Validate_2, go_sem]
 by_cases hlt : k < h.length
 · have hq : IntKind.i64.wrap (((k : Int) - 1).tdiv 2) = (((k - 1) / 2 : Nat) : Int) := by
    rw [wrapN (by rw [Int.tdiv_eq_ediv_of_nonneg (by omega)]; omega) (by rw [Int.tdiv_eq_ediv_of_nonneg (by omega)]; omega), Int.tdiv_eq_ediv_of_nonneg (by omega)]; omega
   have hlt2 : (k - 1) / 2 < h.length := by omega
   have hb := zks h[k] h[(k - 1) / 2]
   simp -implicitDefEqProofs (disch := omega) only [List.length_map, show ((k : Int) < (h.length : Int)) by omega, show (((k - 1) / 2 : Nat) : Int) < (h.length : Int) by omega, wrapN (show -4294967296 ≤ (k : Int) - 1 by omega) (by omega), hq, hb, Int.natCast_nonneg, Int.toNat_natCast, List.getElem?_map, List.getElem?_eq_getElem hlt, List.getElem?_eq_getElem hlt2, zjU, zjV, wrap1 hlt (show h.length ≤ LIM by simp [LIM]; omega), go_sem]
   have i1 := ih (k + 1) (by omega) (by omega)
   simp only [Int.natCast_add, Int.natCast_one] at i1
   rw [i1]
   unfold refV2
   rw [show h.length - k = (h.length - (k + 1)) + 1 by omega, List.range'_succ, List.any_cons]
   have hd : ordAt h k = lt h[k] h[(k - 1) / 2] := by simp [ordAt, hlt, hlt2]
   rw [hd]
   cases lt h[k] h[(k - 1) / 2] <;> rfl
 · simp -implicitDefEqProofs (disch := omega) only [List.length_map, show ¬ ((k : Int) < (h.length : Int)) by omega, go_sem]
   simp [refV2, show h.length - k = 0 by omega]
theorem zpY (h : List Due) (hL : h.length ≤ LIM) : callL G z2a [.d (.sl (h.map eD))] [] = some (.d (.int .i64 (validateD h)), []) := by
 rw [zjI zf8 (by simp)]; simp -implicitDefEqProofs (disch := omega) only [zas, go_sem, Nat.zero_add]
 unfold validateD
 by_cases h12 : 12 < h.length
 · simp -implicitDefEqProofs (disch := omega) only [h12, List.length_map, show (12 < (h.length : Int)) by omega, go_sem]
 · have e0 := zzp h (by omega) 0 (by omega)
   have e1 := zzq h (by omega) 0 (by omega)
   have e2 := zzr h (by omega) 1 (by omega)
   simp only [Int.natCast_zero] at e0 e1
   simp only [Int.natCast_one] at e2
   have hlen : ¬ (12 < (h.length : Int)) := by omega
   cases hA : h.any (fun d => !validD d)
   · cases hB : (List.range' 0 h.length).any (dupAt h)
     · cases hC : (List.range' 1 (h.length - 1)).any (ordAt h) <;>
        simp -implicitDefEqProofs (disch := omega) only [h12, List.length_map, hlen, e0, e1, e2, refV0, refV1, refV2, List.drop_zero, Nat.sub_zero, hA, hB, hC, go_sem]
     · simp -implicitDefEqProofs (disch := omega) only [h12, List.length_map, hlen, e0, e1, refV0, refV1, List.drop_zero, Nat.sub_zero, hA, hB, go_sem]
   · simp -implicitDefEqProofs (disch := omega) only [h12, List.length_map, hlen, e0, refV0, List.drop_zero, hA, go_sem]
theorem setSame {h : List Due} {i j : Nat} (hi : i < h.length) (hj : j < h.length) : (((h.map eD).set i (eD h[j])).map AV.d)[j]? = some (.d (eD h[j])) := by
 rw [List.getElem?_map, List.getElem?_set]
 by_cases e : i = j
 · rw [if_pos e, if_pos (by simpa using hi)]; rfl
 · rw [if_neg e, List.getElem?_map, List.getElem?_eq_getElem hj]; rfl
theorem zpX (h : List Due) (i j : Nat) (hi : i < h.length) (hj : j < h.length) (hL : h.length ≤ 1000) : callL G z2f [.d (.sl (h.map eD)), .d (.int .i64 i), .d (.int .i64 j)] [] = some (.d (.sl ((swp h i j).map eD)), []) := by
 have hs := zjT h
 have h2 := setSame hi hj
 have hz : ¬ h.length = 0 := by omega
 unfold swp
 rw [getDT hi, getDT hj]
 have hl : (((h.map eD).set i (eD h[j])).set j (eD h[i])).length = h.length := by simp
 have ht : List.take h.length (((h.map eD).set i (eD h[j])).set j (eD h[i])) = ((h.map eD).set i (eD h[j])).set j (eD h[i]) := List.take_of_length_le (by rw [hl]; exact Nat.le_refl _)
 rw [zjI zbI (by simp)]; simp -implicitDefEqProofs (disch := omega) only [zaw, getDT, go_sem, *]
def refUpS (p : List Due × Nat) : St := ⟨[(0, .d (.sl (p.1.map eD))), (1, .d (.int .i64 p.2))], []⟩
theorem zzo : ∀ p : List Due × Nat, p.2 < p.1.length ∧ p.1.length ≤ 1000 → loopL G [] l_ref05_up_0 (refUpS p) = some (.exit 0, ⟨[(0, .d (.sl ((upL p.1 p.2).1.map eD)))], []⟩) := by
 refine zjM (fun p : List Due × Nat => p.2) (fun p : List Due × Nat => p.2 < p.1.length ∧ p.1.length ≤ 1000) refUpS _ fun ⟨l, i⟩ ⟨hi, hL⟩ L ih => ?_
 simp only [refUpS] at hi hL ih ⊢
 simp only [l_ref05_up_0]
 rw [upL]
 by_cases h0 : 0 < i
 · have hq : ((i : Int) - 1).tdiv 2 = (((i - 1) / 2 : Nat) : Int) := by rw [Int.tdiv_eq_ediv_of_nonneg (by omega)]; omega
   have hj : (i - 1) / 2 < l.length := by omega
   have hb := zks l[i] l[(i - 1) / 2]
   have hsw := zpX l i ((i - 1) / 2) hi hj hL
   have fin := ih (swp l i ((i - 1) / 2), (i - 1) / 2) ⟨by simp only [zjP]; omega, by simp only [zjP]; omega⟩ (by simp only; omega)
   simp only at fin
   rw [if_pos h0, getDT hi, getDT hj]
   have hsl := zjP l i ((i - 1) / 2)
   generalize upL (swp l i ((i - 1) / 2)) ((i - 1) / 2) = r at *
   generalize swp l i ((i - 1) / 2) = sw at *
   clear ih
   cases hlt : lt l[i] l[(i - 1) / 2]
   · rw [hlt] at hb
     simp only [if_false, Bool.false_eq_true]
     clear hlt fin hsw
     simp -implicitDefEqProofs (disch := omega) only [getDT, go_sem, *]
   · rw [hlt] at hb
     simp only [if_true]
     clear hlt
     simp -implicitDefEqProofs (disch := omega) only [getDT, go_sem, *]
 · rw [if_neg h0]
   clear ih
   simp -implicitDefEqProofs (disch := omega) only [getDT, go_sem, *]
theorem zsH (h : List Due) (i : Nat) (hi : i < h.length) (hL : h.length ≤ 1000) : callL G z2g [.d (.sl (h.map eD)), .d (.int .i64 i)] [] = some (.d (.sl ((upL h i).1.map eD)), []) := by
 have := zzo (h, i) ⟨hi, hL⟩
 simp only [refUpS] at this
 rw [zjI zbJ (by simp)]; simp -implicitDefEqProofs (disch := omega) only [zax, go_sem, Nat.zero_add]
 simp -implicitDefEqProofs (disch := omega) only [this, go_sem]
theorem zsE (h : List Due) (d : Due) (hL : h.length ≤ LIM) : callL G z27 [.d (.sl (h.map eD)), .d (eD d)] [] = some (.d (eDE (pushD h d)), []) := by
 have hv := zpY h hL
 have hf := zpW h d.2 hL
 have hd := zsG d
 have hs := zjT h
 have hL2 : h.length ≤ 4294967296 := hL
 unfold pushD pushE eDE
 by_cases h0 : validateD h = 0
 · have h12 := zok h0
   rw [h0] at hv
   simp only [h0, ne_eq, not_true_eq_false, if_false]
   clear h0
   cases h1 : validD d
   · rw [h1] at hd
     simp only [if_true, List.map_nil, show ((1 : Int) = 0) = False by simp, if_false]
     clear h1 hf
     rw [zjI z3q (by simp)]; simp -implicitDefEqProofs (disch := omega) only [z1c, getDT, go_sem, *]
   · rw [h1] at hd
     simp only [Bool.true_eq_false, if_false]
     clear h1
     by_cases h2 : h.length = 12
     · simp only [h2, if_true, List.map_nil, show ((3 : Int) = 0) = False by simp, if_false]
       clear hf
       rw [zjI z3q (by simp)]; simp -implicitDefEqProofs (disch := omega) only [z1c, getDT, go_sem, *]
     · simp only [h2, if_false]
       by_cases h3 : 0 ≤ findD h d.2
       · simp only [h3, if_true, List.map_nil, show ((10 : Int) = 0) = False by simp, if_false]
         rw [zjI z3q (by simp)]; simp -implicitDefEqProofs (disch := omega) only [z1c, getDT, go_sem, *]
       · simp only [h3, if_false, if_true]
         obtain ⟨l, hl⟩ : ∃ l, l = h ++ [d] := ⟨_, rfl⟩
         have e1 : h.map eD ++ [D.agg [.int .i64 d.1, .int .i64 d.2]] = l.map eD := by simp [eD, hl]
         have e2 : l.length = h.length + 1 := by simp [hl]
         have hu := zsH l h.length (by omega) (by omega)
         unfold pushL
         rw [← hl]
         have hul := zqo l h.length
         have hsl := zjT l
         generalize upL l h.length = r at *
         simp only [eD] at hd ⊢
         clear hl
         rw [zjI z3q (by simp)]; simp -implicitDefEqProofs (disch := omega) only [z1c, getDT, go_sem, *]
 · simp only [h0, ne_eq, not_false_eq_true, if_true, if_false, List.map_nil]
   clear hf hd
   rw [zjI z3q (by simp)]; simp -implicitDefEqProofs (disch := omega) only [z1c, getDT, go_sem, *]
def refDownS (p : List Due × Nat) : St := ⟨[(0, .d (.sl (p.1.map eD))), (1, .d (.int .i64 p.2))], []⟩
theorem zzl : ∀ p : List Due × Nat, p.2 < p.1.length ∧ p.1.length ≤ 1000 → ∃ e : AExit, (e = .exit 0 ∧ loopL G [] l_ref05_down_0 (refDownS p) = some (.exit 0, ⟨[(0, .d (.sl ((downL p.1 p.2).map eD)))], []⟩)) ∨ (e = .ret ∧ loopL G [] l_ref05_down_0 (refDownS p) = some (.ret, ⟨[(4, .d (.sl ((downL p.1 p.2).map eD)))], []⟩)) := by
 refine znh (fun p : List Due × Nat => p.1.length - p.2) (fun p : List Due × Nat => p.2 < p.1.length ∧ p.1.length ≤ 1000) refDownS (fun p r => ∃ e : AExit, (e = .exit 0 ∧ r = some (.exit 0, ⟨[(0, .d (.sl ((downL p.1 p.2).map eD)))], []⟩)) ∨ (e = .ret ∧ r = some (.ret, ⟨[(4, .d (.sl ((downL p.1 p.2).map eD)))], []⟩))) fun ⟨l, i⟩ ⟨hi, hL⟩ L ih => ?_
 simp only [refDownS] at hi hL ih ⊢
 simp only [l_ref05_down_0]
 by_cases h1 : 2 * i + 1 < l.length
 · have fin : ∀ k : Nat, i < k → k < l.length → ∃ e : AExit, (e = .exit 0 ∧ L ⟨[(0, .d (.sl ((swp l i k).map eD))), (1, .d (.int .i64 k))], []⟩ = some (.exit 0, ⟨[(0, .d (.sl ((downL (swp l i k) k).map eD)))], []⟩)) ∨ (e = .ret ∧ L ⟨[(0, .d (.sl ((swp l i k).map eD))), (1, .d (.int .i64 k))], []⟩ = some (.ret, ⟨[(4, .d (.sl ((downL (swp l i k) k).map eD)))], []⟩)) := fun k h1 h2 =>
    ih (swp l i k, k) ⟨by simp only [zjP]; omega, by simp only [zjP]; omega⟩ (by simp only [zjP]; omega)
   have hg : ∀ k : Nat, k < l.length → (List.map eD l)[k]? = some (eD (l.getD k (0, 0))) := fun k hk => by simp [List.getElem?_map, List.getElem?_eq_getElem hk, hk]
   have g0 := hg i hi
   have g1 := hg _ h1
   have s1 := zpX l i (2 * i + 1) hi h1 hL
   have f1 := fin (2 * i + 1) (by omega) h1
   simp only [Int.natCast_add, Int.natCast_mul, Int.natCast_one, Int.cast_ofNat_Int] at s1 f1
   have t1 : ((2 : Int) * (i : Int) + 1).toNat = 2 * i + 1 := by omega
   have t2 : ((2 : Int) * (i : Int) + 1 + 1).toNat = 2 * i + 1 + 1 := by omega
   by_cases h2 : 2 * i + 1 + 1 < l.length
   · have g2 := hg _ h2
     have s2 := zpX l i (2 * i + 1 + 1) hi h2 hL
     have f2 := fin (2 * i + 1 + 1) (by omega) h2
     simp only [Int.natCast_add, Int.natCast_mul, Int.natCast_one, Int.cast_ofNat_Int] at s2 f2
     cases hlt : lt (l.getD (2 * i + 1 + 1) (0, 0)) (l.getD (2 * i + 1) (0, 0))
     · cases hlt2 : lt (l.getD (2 * i + 1) (0, 0)) (l.getD i (0, 0))
       · simp -implicitDefEqProofs (disch := omega) only [go_sem, g0, g1, g2, t1, t2, zks, hlt, hlt2, zjU, zjV]
         have e : downL l i = l := by rw [downL]; simp only [h1, h2, hlt, hlt2, dite_true, dite_false, true_and, and_true, false_and, if_true, if_false, Bool.false_eq_true, reduceCtorEq]
         exact ⟨.ret, .inr ⟨rfl, by rw [e]⟩⟩
       · simp -implicitDefEqProofs (disch := omega) only [go_sem, g0, g1, g2, t1, t2, zks, hlt, hlt2, s1, zjU, zjV]
         have e : downL l i = downL (swp l i (2 * i + 1)) (2 * i + 1) := by rw [downL]; simp only [h1, h2, hlt, hlt2, dite_true, dite_false, true_and, and_true, false_and, if_true, if_false, Bool.false_eq_true, reduceCtorEq]
         rw [e]; exact f1
     · cases hlt2 : lt (l.getD (2 * i + 1 + 1) (0, 0)) (l.getD i (0, 0))
       · simp -implicitDefEqProofs (disch := omega) only [go_sem, g0, g1, g2, t1, t2, zks, hlt, hlt2, zjU, zjV]
         have e : downL l i = l := by rw [downL]; simp only [h1, h2, hlt, hlt2, dite_true, dite_false, true_and, and_true, false_and, if_true, if_false, Bool.false_eq_true, reduceCtorEq]
         exact ⟨.ret, .inr ⟨rfl, by rw [e]⟩⟩
       · simp -implicitDefEqProofs (disch := omega) only [go_sem, g0, g1, g2, t1, t2, zks, hlt, hlt2, s2, zjU, zjV]
         have e : downL l i = downL (swp l i (2 * i + 1 + 1)) (2 * i + 1 + 1) := by rw [downL]; simp only [h1, h2, hlt, hlt2, dite_true, dite_false, true_and, and_true, false_and, if_true, if_false, Bool.false_eq_true, reduceCtorEq]
         rw [e]; exact f2
   · cases hlt2 : lt (l.getD (2 * i + 1) (0, 0)) (l.getD i (0, 0))
     · simp -implicitDefEqProofs (disch := omega) only [go_sem, g0, g1, t1, t2, zks, hlt2, zjU, zjV]
       have e : downL l i = l := by rw [downL]; simp only [h1, h2, hlt2, dite_true, dite_false, true_and, and_true, false_and, if_true, if_false, Bool.false_eq_true, reduceCtorEq]
       exact ⟨.ret, .inr ⟨rfl, by rw [e]⟩⟩
     · simp -implicitDefEqProofs (disch := omega) only [go_sem, g0, g1, t1, t2, zks, hlt2, s1, zjU, zjV]
       have e : downL l i = downL (swp l i (2 * i + 1)) (2 * i + 1) := by rw [downL]; simp only [h1, h2, hlt2, dite_true, dite_false, true_and, and_true, false_and, if_true, if_false, Bool.false_eq_true, reduceCtorEq]
       rw [e]; exact f1
 · simp -implicitDefEqProofs (disch := omega) only [go_sem, Nat.zero_add]
   have e : downL l i = l := by rw [downL]; simp only [h1, dite_false]
   exact ⟨.exit 0, .inl ⟨rfl, by rw [e]⟩⟩
theorem zzm (h : List Due) (i : Nat) (hi : i < h.length) (hL : h.length ≤ 1000) : callL G z2c [.d (.sl (h.map eD)), .d (.int .i64 i)] [] = some (.d (.sl ((downL h i).map eD)), []) := by
 obtain ⟨e, h1 | h1⟩ := zzl (h, i) ⟨hi, hL⟩
 · have := h1.2
   simp only [refDownS] at this
   rw [zjI z8s (by simp)]; simp -implicitDefEqProofs (disch := omega) only [z6P, go_sem, this]
 · have := h1.2
   simp only [refDownS] at this
   rw [zjI z8s (by simp)]; simp -implicitDefEqProofs (disch := omega) only [z6P, go_sem, this]
theorem zzk (h : List Due) (i : Nat) (hi : i < h.length) (hL : h.length ≤ 1000) : callL G z0R [.d (.sl (h.map eD)), .d (.int .i64 i)] [] = some (.d (.sl ((dropL h i).map eD)), []) := by
 obtain ⟨m, hm⟩ : ∃ m, m = h.length - 1 := ⟨_, rfl⟩
 obtain ⟨t, ht⟩ : ∃ t, t = h.take m := ⟨_, rfl⟩
 have htl : t.length = m := by simp [ht]; omega
 have e1 : List.take m (h.map eD) = t.map eD := by rw [ht, List.map_take]
 have w1 : ((h.length : Int) - 1) = (m : Int) := by omega
 have hmlt : m < h.length := by omega
 have him : i ≤ m ∧ m ≤ 1000 := by omega
 have him2 : m ≤ 4294967296 := by omega
 have hs := zjT h
 have hs2 := zjT t
 unfold dropL
 rw [← hm, ← ht]
 by_cases hi2 : i = m
 · subst hi2
   rw [if_pos rfl]
   clear hm ht
   rw [zjI z3r (by simp)]; simp -implicitDefEqProofs (disch := omega) only [z3b, getDT, go_sem, *]
 · have hi3 : i < m := by omega
   rw [if_neg hi2]
   obtain ⟨l, hl⟩ : ∃ l, l = t.set i (h.getD m (0, 0)) := ⟨_, rfl⟩
   have hll : l.length = m := by rw [hl, List.length_set, htl]
   have e5 : (t.map eD).set i (eD (h[m]'hmlt)) = l.map eD := by rw [hl, getDT hmlt, List.map_set]
   have hu := zsH l i (by omega) (by omega)
   have hd := zzm l i (by omega) (by omega)
   rw [← hl]
   show callL G z0R _ _ = some (.d (.sl ((if (upL l i).2 = i then downL (upL l i).1 i else (upL l i).1).map eD)), [])
   have hat := @upL_at l i
   have hup : (¬ 0 < i ∨ lt (l.getD i (0, 0)) (l.getD ((i - 1) / 2) (0, 0)) = false) → upL l i = (l, i) := fun hc => by
    rw [upL]
    rcases hc with hc | hc
    · rw [if_neg hc]
    · split
      · rw [if_neg (by rw [hc]; decide)]
      · rfl
   have hm4 : m ≤ 1000 := by omega
   clear hl hm ht
   by_cases h0 : 0 < i
   · have hq : ((i : Int) - 1).tdiv 2 = (((i - 1) / 2 : Nat) : Int) := by rw [Int.tdiv_eq_ediv_of_nonneg (by omega)]; omega
     have hj : (i - 1) / 2 < l.length := by omega
     have hil : i < l.length := by omega
     have hbf := zks l[i] l[(i - 1) / 2]
     cases hlt : lt l[i] l[(i - 1) / 2]
     · rw [hup (.inr (by rw [getDT hil, getDT hj]; exact hlt))] at hu ⊢
       rw [if_pos rfl]
       rw [hlt] at hbf
       clear hlt hup hat hu
       rw [zjI z3r (by simp)]; simp -implicitDefEqProofs (disch := omega) only [z3b, getDT, go_sem, *]; (try simp only [pA, pB, pC, pD, pE, pF, pG, pH, pI, pJ, pK, pL, pM, pN, pO, pP, if_true, if_false]); repeat' (first | done | rfl | ((first | refine iteC (fun hq => ?_) (fun hq => ?_) | refine iteP (fun hq => ?_) (fun hq => ?_)) <;> (try (first | (exfalso; omega) | contradiction)) <;> (try simp -implicitDefEqProofs (disch := omega) only [getDT, go_sem, *]) <;> (try simp only [pA, pB, pC, pD, pE, pF, pG, pH, pI, pJ, pK, pL, pM, pN, pO, pP, if_true, if_false]))); (all_goals try rfl); (all_goals try (repeat' (first | done | rfl | (exfalso; omega) | contradiction | (refine iteR (fun hq => ?_) (fun hq => ?_)))))
     · have : ¬ (upL l i).2 = i := by
        rcases hat.2 with hc | hc
        · omega
        · exact absurd ⟨h0, by rw [getDT hil, getDT hj]; exact hlt⟩ hc.1
       rw [if_neg this]
       rw [hlt] at hbf
       generalize upL l i = r at *
       clear hlt hup hat hd this
       rw [zjI z3r (by simp)]; simp -implicitDefEqProofs (disch := omega) only [z3b, getDT, go_sem, *]; (try simp only [pA, pB, pC, pD, pE, pF, pG, pH, pI, pJ, pK, pL, pM, pN, pO, pP, if_true, if_false]); repeat' (first | done | rfl | ((first | refine iteC (fun hq => ?_) (fun hq => ?_) | refine iteP (fun hq => ?_) (fun hq => ?_)) <;> (try (first | (exfalso; omega) | contradiction)) <;> (try simp -implicitDefEqProofs (disch := omega) only [getDT, go_sem, *]) <;> (try simp only [pA, pB, pC, pD, pE, pF, pG, pH, pI, pJ, pK, pL, pM, pN, pO, pP, if_true, if_false]))); (all_goals try rfl); (all_goals try (repeat' (first | done | rfl | (exfalso; omega) | contradiction | (refine iteR (fun hq => ?_) (fun hq => ?_)))))
   · rw [hup (.inl h0)]
     rw [if_pos rfl]
     clear hup hat hu
     rw [zjI z3r (by simp)]; simp -implicitDefEqProofs (disch := omega) only [z3b, getDT, go_sem, *]; (try simp only [pA, pB, pC, pD, pE, pF, pG, pH, pI, pJ, pK, pL, pM, pN, pO, pP, if_true, if_false]); repeat' (first | done | rfl | ((first | refine iteC (fun hq => ?_) (fun hq => ?_) | refine iteP (fun hq => ?_) (fun hq => ?_)) <;> (try (first | (exfalso; omega) | contradiction)) <;> (try simp -implicitDefEqProofs (disch := omega) only [getDT, go_sem, *]) <;> (try simp only [pA, pB, pC, pD, pE, pF, pG, pH, pI, pJ, pK, pL, pM, pN, pO, pP, if_true, if_false]))); (all_goals try rfl); (all_goals try (repeat' (first | done | rfl | (exfalso; omega) | contradiction | (refine iteR (fun hq => ?_) (fun hq => ?_)))))
theorem zsF (h : List Due) (id : Int) (hL : h.length ≤ LIM) : callL G z28 [.d (.sl (h.map eD)), .d (.int .i64 id)] [] = some (.d (eDE (removeD h id)), []) := by
 have hv := zpY h hL
 have hf := zpW h id hL
 unfold removeD eDE
 by_cases h0 : validateD h = 0
 · have h12 := zok h0
   by_cases hn : findD h id < 0
   · rw [zjI z8q (by simp)]; simp -implicitDefEqProofs (disch := omega) only [z3O, go_sem, hv, h0, hf, hn, List.map_nil]
   · have hd := zzk h (findD h id).toNat (by have := zrb h id; omega) (by omega)
     rw [show (((findD h id).toNat : Nat) : Int) = findD h id by omega] at hd
     rw [zjI z8q (by simp)]; simp -implicitDefEqProofs (disch := omega) only [z3O, go_sem, hv, h0, hf, hn, hd]
 · rw [zjI z8q (by simp)]; simp -implicitDefEqProofs (disch := omega) only [z3O, go_sem, hv, h0]
def Asc (l : List Due) (n : Nat) : Prop := ∀ p q, p < q → q < n → lt (l.getD q dz) (l.getD p dz) = false
def insL (l : List Due) (j : Nat) : List Due :=
 if 0 < j then (if lt (l.getD j dz) (l.getD (j - 1) dz) then insL (swp l j (j - 1)) (j - 1) else l) else l
termination_by j
theorem zne (l : List Due) (j : Nat) : (insL l j).length = l.length := by
 fun_induction insL l j with
 | case1 l j h0 h1 ih => rw [ih, zjP]
 | case2 => rfl
 | case3 => rfl
theorem zwR (l : List Due) (j i : Nat) (hi : i < l.length) (hj : j ≤ i) (h1 : ∀ p q, p < q → q ≤ i → p ≠ j → q ≠ j → lt (l.getD q dz) (l.getD p dz) = false) (h2 : ∀ q, j < q → q ≤ i → lt (l.getD q dz) (l.getD j dz) = false) : Asc (insL l j) (i + 1) ∧ (insL l j).Perm l := by
 fun_induction insL l j with
 | case1 l j h0 hlt ih =>
  have hs : ∀ k, (swp l j (j - 1)).getD k dz = if k = j - 1 then l.getD j dz else if k = j then l.getD (j - 1) dz else l.getD k dz := fun k => zqj l j (j - 1) k (by omega) (by omega)
  have ih' := ih (by rw [zjP]; exact hi) (by omega) (fun p q hpq hq hp hq2 => by
      rw [hs, hs]
      by_cases e1 : q = j
      · subst e1
        rw [if_neg (by omega), if_pos rfl, if_neg (by omega), if_neg (by omega)]
        exact h1 p (q - 1) (by omega) (by omega) (by omega) (by omega)
      · by_cases e2 : p = j
        · subst e2
          rw [if_neg (by omega), if_neg (by omega), if_neg (by omega), if_pos rfl]
          exact h1 (p - 1) q (by omega) hq (by omega) (by omega)
        · rw [if_neg (by omega), if_neg e1, if_neg (by omega), if_neg e2]
          exact h1 p q hpq hq e2 e1) (fun q hq1 hq2 => by
      rw [hs, hs, if_neg (by omega), if_pos rfl]
      by_cases e1 : q = j
      · rw [if_pos e1]; exact zni hlt
      · rw [if_neg e1]; exact h2 q (by omega) hq2)
  exact ⟨ih'.1, ih'.2.trans (zqk l j (j - 1) (by omega) (by omega))⟩
 | case2 l j h0 hlt =>
  refine ⟨fun p q hpq hq => ?_, .refl _⟩
  have hjj : lt (l.getD j dz) (l.getD (j - 1) dz) = false := by simpa using hlt
  by_cases e1 : p = j
  · subst e1; exact h2 q hpq (by omega)
  · by_cases e2 : q = j
    · subst e2
      by_cases e3 : p = q - 1
      · subst e3; exact hjj
      · exact le_trans' (h1 p (q - 1) (by omega) (by omega) e1 (by omega)) hjj
    · exact h1 p q hpq (by omega) e1 e2
 | case3 l j h0 =>
  refine ⟨fun p q hpq hq => ?_, .refl _⟩
  by_cases e1 : p = j
  · subst e1; exact h2 q hpq (by omega)
  · exact h1 p q hpq (by omega) e1 (by omega)
def sortG (l : List Due) (i : Nat) : List Due := if i < l.length then sortG (insL l i) (i + 1) else l
termination_by l.length - i
decreasing_by rw [zne]; omega
theorem zqd (l : List Due) (i : Nat) (h : Asc l i) : Asc (sortG l i) l.length ∧ (sortG l i).Perm l := by
 fun_induction sortG l i with
 | case1 l i hi ih =>
  have := zwR l i i hi (by omega) (fun p q hpq hq _ hq2 => h p q hpq (by omega)) (fun q h1 h2 => by omega)
  have ih' := ih this.1
  rw [zne] at ih'
  exact ⟨ih'.1, ih'.2.trans this.2⟩
 | case2 l i hi => exact ⟨fun p q hpq hq => h p q hpq (by omega), .refl _⟩
abbrev fcmp : AV := .d (.fn z0K [])
def insS (l : List Due) (i : Nat) (j : Nat) : St := ⟨[(0, .osl 1000000 0 l.length), (1, .d (.int .i64 0)), (2, .d (.int .i64 l.length)), (3, fcmp), (8, .d (.int .i64 i)), (9, .d (.int .i64 j)), (1000000, .ref 1000000 1 0)], [(1000000, rowL l)]⟩
theorem zwU (i : Nat) : ∀ p : List Due × Nat, p.2 < p.1.length ∧ p.1.length ≤ 1000 → loopL G [] l_slices_insertionSortCmpFunc_api_Due_0 (insS p.1 i p.2) = some (.exit 2, ⟨[(0, .osl 1000000 0 p.1.length), (1, .d (.int .i64 0)), (2, .d (.int .i64 p.1.length)), (3, fcmp), (8, .d (.int .i64 i)), (1000000, .ref 1000000 1 0)], [(1000000, rowL (insL p.1 p.2))]⟩) := by
 refine zjM (fun p : List Due × Nat => p.2) (fun p : List Due × Nat => p.2 < p.1.length ∧ p.1.length ≤ 1000) (fun p => insS p.1 i p.2) _ fun ⟨l, j⟩ ⟨hj, hL⟩ L ih => ?_
 simp only [insS, rowL, fcmp] at hj hL ih ⊢
 simp only [l_slices_insertionSortCmpFunc_api_Due_0]
 rw [insL]
 by_cases h0 : 0 < j
 · have hj1 : j - 1 < l.length := by omega
   have t1 : ((j : Int) - 1) = ((j - 1 : Nat) : Int) := by omega
   have s1 := setSame hj hj1
   have hc := zr3 l[j] l[j - 1]
   have hlt : lt (l.getD j (0, 0)) (l.getD (j - 1) (0, 0)) = decide (cmpD l[j] l[j - 1] < 0) := by rw [getDT hj, getDT hj1]; rfl
   have i1 := ih (swp l j (j - 1), j - 1) ⟨by simp only [zjP]; omega, by simp only [zjP]; omega⟩ (by simp only; omega)
   rw [if_pos h0]
   simp only [dz, hlt]
   simp only [zjP] at i1
   have hil : (insL (swp l j (j - 1)) (j - 1)).length = l.length := by rw [zne, zjP]
   generalize insL (swp l j (j - 1)) (j - 1) = r at *
   unfold swp at i1
   rw [getDT hj, getDT hj1] at i1
   simp only [Int.natCast_add, Int.natCast_one, Int.natCast_zero, Int.natCast_mul, Int.cast_ofNat_Int, List.length_append, List.length_map, List.map_nil, List.length_nil, List.map_append, List.map_cons, List.length_cons, Nat.zero_add, srcO, mapSet] at i1
   clear ih hlt hil
   by_cases hcc : cmpD l[j] l[j - 1] < 0
   · rw [decide_eq_true hcc]
     simp only [if_true]
     simp -implicitDefEqProofs (disch := omega) only [getDT, go_sem, *]
   · rw [decide_eq_false hcc]
     simp only [if_false, Bool.false_eq_true]
     clear i1
     simp -implicitDefEqProofs (disch := omega) only [getDT, go_sem, *]
 · rw [if_neg h0]
   clear ih
   simp -implicitDefEqProofs (disch := omega) only [getDT, go_sem, *]
def isS (l : List Due) (i : Nat) : St := ⟨[(0, .osl 1000000 0 l.length), (1, .d (.int .i64 0)), (2, .d (.int .i64 l.length)), (3, fcmp), (8, .d (.int .i64 i)), (1000000, .ref 1000000 1 0)], [(1000000, rowL l)]⟩
theorem zxa : ∀ p : List Due × Nat, p.2 ≤ p.1.length ∧ p.1.length ≤ 1000 → loopL G [] l_slices_insertionSortCmpFunc_api_Due_1 (isS p.1 p.2) = some (.exit 0, ⟨[(1000000, .ref 1000000 1 0)], [(1000000, rowL (sortG p.1 p.2))]⟩) := by
 refine zjM (fun p : List Due × Nat => p.1.length - p.2) (fun p : List Due × Nat => p.2 ≤ p.1.length ∧ p.1.length ≤ 1000) (fun p => isS p.1 p.2) _ fun ⟨l, i⟩ ⟨hj, hL⟩ L ih => ?_
 simp only at hj hL
 simp only [l_slices_insertionSortCmpFunc_api_Due_1, isS]
 rw [sortG]
 by_cases h0 : i < l.length
 · have h1 := zwU i (l, i) ⟨h0, hL⟩
   simp only [insS, rowL, fcmp] at h1
   have := ih (insL l i, i + 1) ⟨by simp only [zne]; omega, by simp only [zne]; omega⟩ (by simp only [zne]; omega)
   simp only [isS, rowL, zne, fcmp, Int.natCast_add, Int.natCast_one] at this
   simp -implicitDefEqProofs (disch := omega) only [go_sem, h1, this, h0, rowL]
 · simp -implicitDefEqProofs (disch := omega) only [go_sem, h0, rowL]
theorem zxc (l : List Due) (h0 : 0 < l.length) (hL : l.length ≤ 1000) : callL G z16 [.osl 1000000 0 l.length, .d (.int .i64 0), .d (.int .i64 l.length), fcmp] [(1000000, rowL l)] = some (.d (.tup []), [(1000000, rowL (sortG l 1))]) := by
 have := zxa (l, 1) ⟨h0, hL⟩
 simp only [isS, rowL, fcmp, Int.natCast_one] at this
 rw [zjI z8P (by simp)]; simp -implicitDefEqProofs (disch := omega) only [z7a, go_sem, rowL, this]
theorem zxb : callL G z16 [.d (.sl []), .d (.int .i64 0), .d (.int .i64 0), fcmp] [] = some (.d (.tup []), []) := by
 rw [zjI z8P (by simp)]; simp -implicitDefEqProofs (disch := omega) only [z7a, go_sem, fcmp]
 rw [zk0]
 simp only [l_slices_insertionSortCmpFunc_api_Due_1]
 simp -implicitDefEqProofs (disch := omega) only [go_sem, fcmp]
theorem zxq (n : Nat) (h : n ≤ 12) : ∃ b : Int, callL G z1P [.d (.int .u64 n)] [] = some (.d (.int .i64 b), []) := by
 obtain rfl | rfl | rfl | rfl | rfl | rfl | rfl | rfl | rfl | rfl | rfl | rfl | rfl : n = 0 ∨ n = 1 ∨ n = 2 ∨ n = 3 ∨ n = 4 ∨ n = 5 ∨ n = 6 ∨ n = 7 ∨ n = 8 ∨ n = 9 ∨ n = 10 ∨ n = 11 ∨ n = 12 := by omega
 · exact ⟨0, by simp only [Int.natCast_zero, Int.natCast_one, Int.cast_ofNat_Int]; rw [zjI zb (by simp)]; simp -implicitDefEqProofs (disch := omega) only [za, go_sem, UInt8.toNat_ofNat, Nat.reducePow]⟩
 · exact ⟨1, by simp only [Int.natCast_zero, Int.natCast_one, Int.cast_ofNat_Int]; rw [zjI zb (by simp)]; simp -implicitDefEqProofs (disch := omega) only [za, go_sem, UInt8.toNat_ofNat, Nat.reducePow]⟩
 · exact ⟨2, by simp only [Int.natCast_zero, Int.natCast_one, Int.cast_ofNat_Int]; rw [zjI zb (by simp)]; simp -implicitDefEqProofs (disch := omega) only [za, go_sem, UInt8.toNat_ofNat, Nat.reducePow]⟩
 · exact ⟨2, by simp only [Int.natCast_zero, Int.natCast_one, Int.cast_ofNat_Int]; rw [zjI zb (by simp)]; simp -implicitDefEqProofs (disch := omega) only [za, go_sem, UInt8.toNat_ofNat, Nat.reducePow]⟩
 · exact ⟨3, by simp only [Int.natCast_zero, Int.natCast_one, Int.cast_ofNat_Int]; rw [zjI zb (by simp)]; simp -implicitDefEqProofs (disch := omega) only [za, go_sem, UInt8.toNat_ofNat, Nat.reducePow]⟩
 · exact ⟨3, by simp only [Int.natCast_zero, Int.natCast_one, Int.cast_ofNat_Int]; rw [zjI zb (by simp)]; simp -implicitDefEqProofs (disch := omega) only [za, go_sem, UInt8.toNat_ofNat, Nat.reducePow]⟩
 · exact ⟨3, by simp only [Int.natCast_zero, Int.natCast_one, Int.cast_ofNat_Int]; rw [zjI zb (by simp)]; simp -implicitDefEqProofs (disch := omega) only [za, go_sem, UInt8.toNat_ofNat, Nat.reducePow]⟩
 · exact ⟨3, by simp only [Int.natCast_zero, Int.natCast_one, Int.cast_ofNat_Int]; rw [zjI zb (by simp)]; simp -implicitDefEqProofs (disch := omega) only [za, go_sem, UInt8.toNat_ofNat, Nat.reducePow]⟩
 · exact ⟨4, by simp only [Int.natCast_zero, Int.natCast_one, Int.cast_ofNat_Int]; rw [zjI zb (by simp)]; simp -implicitDefEqProofs (disch := omega) only [za, go_sem, UInt8.toNat_ofNat, Nat.reducePow]⟩
 · exact ⟨4, by simp only [Int.natCast_zero, Int.natCast_one, Int.cast_ofNat_Int]; rw [zjI zb (by simp)]; simp -implicitDefEqProofs (disch := omega) only [za, go_sem, UInt8.toNat_ofNat, Nat.reducePow]⟩
 · exact ⟨4, by simp only [Int.natCast_zero, Int.natCast_one, Int.cast_ofNat_Int]; rw [zjI zb (by simp)]; simp -implicitDefEqProofs (disch := omega) only [za, go_sem, UInt8.toNat_ofNat, Nat.reducePow]⟩
 · exact ⟨4, by simp only [Int.natCast_zero, Int.natCast_one, Int.cast_ofNat_Int]; rw [zjI zb (by simp)]; simp -implicitDefEqProofs (disch := omega) only [za, go_sem, UInt8.toNat_ofNat, Nat.reducePow]⟩
 · exact ⟨4, by simp only [Int.natCast_zero, Int.natCast_one, Int.cast_ofNat_Int]; rw [zjI zb (by simp)]; simp -implicitDefEqProofs (disch := omega) only [za, go_sem, UInt8.toNat_ofNat, Nat.reducePow]⟩
theorem len_ok (n : Nat) (h : n ≤ 12) : ∃ b : Int, callL G z1O [.d (.int .u64 n)] [] = some (.d (.int .i64 b), []) := by
 obtain ⟨b, hb⟩ := zxq n h
 refine ⟨b, ?_⟩
 rw [zjI zbs (by simp)]; simp -implicitDefEqProofs (disch := omega) only [zaf, go_sem, hb]
theorem pdq_ok (l : List Due) (b : Int) (h0 : 0 < l.length) (hL : l.length ≤ 12) : callL G z17 [.osl 1000000 0 l.length, .d (.int .i64 0), .d (.int .i64 l.length), .d (.int .i64 b), fcmp] [(1000000, rowL l)] = some (.d (.tup []), [(1000000, rowL (sortG l 1))]) := by
 have := zxc l h0 (by omega)
 simp only [rowL, fcmp] at this
 rw [zjI z8Q (by simp)]; simp -implicitDefEqProofs (disch := omega) only [z7b, go_sem, this, rowL, fcmp]
 rw [zk0]
 simp only [l_slices_pdqsortCmpFunc_api_Due_0]
 simp -implicitDefEqProofs (disch := omega) only [go_sem, this, rowL, fcmp]
theorem zyV (b : Int) : callL G z17 [.d (.sl []), .d (.int .i64 0), .d (.int .i64 0), .d (.int .i64 b), fcmp] [] = some (.d (.tup []), []) := by
 have := zxb
 simp only [fcmp] at this
 rw [zjI z8Q (by simp)]; simp -implicitDefEqProofs (disch := omega) only [z7b, go_sem, this, fcmp]
 rw [zk0]
 simp only [l_slices_pdqsortCmpFunc_api_Due_0]
 simp -implicitDefEqProofs (disch := omega) only [go_sem, this, fcmp]
theorem zAo (l : List Due) (h0 : 0 < l.length) (hL : l.length ≤ 12) : callL G z15 [.osl 1000000 0 l.length, fcmp] [(1000000, rowL l)] = some (.d (.tup []), [(1000000, rowL (sortG l 1))]) := by
 obtain ⟨b, hb⟩ := len_ok l.length hL
 have := pdq_ok l b h0 hL
 simp only [rowL, fcmp] at this
 rw [zjI z8O (by simp)]; simp -implicitDefEqProofs (disch := omega) only [z79, go_sem, hb, this, rowL, fcmp]
theorem zAn : callL G z15 [.d (.sl []), fcmp] [] = some (.d (.tup []), []) := by
 obtain ⟨b, hb⟩ := len_ok 0 (by omega)
 have := zyV b
 simp only [Int.natCast_zero, fcmp] at this hb
 rw [zjI z8O (by simp)]; simp -implicitDefEqProofs (disch := omega) only [z79, go_sem, hb, this, fcmp]
def dueIds (now : Int) (l : List Due) : List Int := (l.filter fun d => decide (d.1 ≤ now)).map (·.2)
def untilD (h : List Due) (now : Int) : List Int := if validateD h = 0 then dueIds now (sortG h 1) else []
def untilS (l : List Due) (now : Int) (k : Nat) (out : List Int) : St := ⟨[(1, .d (.int .i64 now)), (6, .acc 6 (ints out)), (16, .osl 13 0 l.length), (17, .d (.int .i64 l.length)), (18, .d (.int .i64 k))], [(6, .acc out.length), (13, rowL l)]⟩
theorem zAV (l : List Due) (now : Int) (hL : l.length ≤ 12) : ∀ k, k ≤ l.length → loopL G [] l_due_Until_0 (untilS l now k (dueIds now (l.take k))) = some (.exit 0, ⟨[(6, .acc 6 (ints (dueIds now l)))], [(6, .acc (dueIds now l).length)]⟩) := by
 refine zjM (fun k => l.length - k) (fun k => k ≤ l.length) (fun k => untilS l now k (dueIds now (l.take k))) _ fun k hk L ih => ?_
 simp only [l_due_Until_0, untilS, rowL] at ih ⊢
 by_cases h0 : k < l.length
 · have hg := rowGet l k h0
   have hlen : (dueIds now (l.take k)).length ≤ 12 := by
    have := List.length_filter_le (fun d : Due => decide (d.1 ≤ now)) (l.take k)
    simp only [dueIds, List.length_map]; rw [List.length_take] at this; omega
   have e1 : dueIds now (l.take (k + 1)) = if l[k].1 ≤ now then dueIds now (l.take k) ++ [l[k].2] else dueIds now (l.take k) := by
    rw [List.take_succ_eq_append_getElem h0]
    unfold dueIds
    rw [List.filter_append, List.map_append]
    by_cases hc : l[k].1 ≤ now <;> simp [hc]
   have := ih (k + 1) (by omega) (by omega)
   rw [e1] at this
   have e2 : l.getD k (0, 0) = l[k] := by simp [h0]
   rw [e2] at hg
   obtain ⟨ds, hds⟩ : ∃ ds, ds = dueIds now (l.take k) := ⟨_, rfl⟩
   rw [← hds] at this hlen ⊢
   by_cases hc : l[k].1 ≤ now
   · rw [if_pos hc] at this
     simp only [ints, List.map_append, List.map_cons, List.map_nil, List.length_append, List.length_cons, List.length_nil, Int.natCast_add, Int.natCast_one, Nat.zero_add] at this
     simp -implicitDefEqProofs (disch := omega) only [go_sem, hg, eD, hc, zkl, this]
   · rw [if_neg hc] at this
     simp only [Int.natCast_add, Int.natCast_one] at this
     simp -implicitDefEqProofs (disch := omega) only [go_sem, hg, eD, hc, zkl, this]
 · have : k = l.length := by omega
   subst this
   simp -implicitDefEqProofs (disch := omega) only [go_sem, List.take_length]
theorem ztl (h : List Due) (now : Int) (hL : h.length ≤ LIM) (h0 : validateD h = 0) : callL G zn [.d (.sl (h.map eD)), .d (.int .i64 now)] [] = some (.acc 0 (ints (untilD h now)), [(0, .acc (untilD h now).length)]) := by
 have hv := zpa h hL
 unfold untilD
 rw [if_pos h0]
 have h12 := zok h0
 have hc := zpl (h.map eD) (zjT h) (by simpa using hL)
 have hsl := (zqd h 1 (fun p q hp hq => by omega)).2.length_eq
 have hl := zAV (sortG h 1) now (by omega) 0 (by omega)
 simp only [untilS, dueIds, List.take_zero, List.filter_nil, List.map_nil, List.length_nil, rowL, hsl, ints, Int.natCast_zero] at hl
 by_cases he : h = []
 · subst he
   have hs := zAn
   have e0 : sortG [] 1 = [] := by rw [sortG]; simp
   simp only [fcmp] at hs
   simp only [List.map_nil] at hv hc ⊢
   rw [e0]
   rw [zjI zbc (by simp)]; simp -implicitDefEqProofs (disch := omega) only [z6K, go_sem, hv, hc, hs, h0, fcmp]
   rw [zk0]
   simp only [l_due_Until_0]
   simp -implicitDefEqProofs (disch := omega) only [go_sem, Nat.zero_add]
   rfl
 · have hs := zAo h (List.length_pos_iff.2 he) h12
   simp only [rowL, fcmp] at hs
   have hne : h.length ≠ 0 := by simpa using he
   have e4 : List.take h.length (List.map AV.d (List.map eD h)) = List.map AV.d (List.map eD h) := rowAll h
   rw [zjI zbc (by simp)]; simp -implicitDefEqProofs (disch := omega) only [z6K, go_sem, hv, hc, hs, h0, hl, e4, hne]
   simp only [ints, dueIds, List.length_map]
theorem min_ok (n lo hi : Int) : callL G z1S [.d (.int .i64 n), .d (.int .i64 lo), .d (.int .i64 hi)] [] = some (.d (.bool (decide (lo ≤ n ∧ n ≤ hi))), []) := by
 by_cases h : lo ≤ n
 · by_cases h2 : n ≤ hi
   · rw [decide_eq_true ⟨h, h2⟩]
     rw [zjI z66 (by simp)]; simp -implicitDefEqProofs (disch := omega) only [z3I, getDT, go_sem, *]
   · rw [decide_eq_false (by omega)]
     rw [zjI z66 (by simp)]; simp -implicitDefEqProofs (disch := omega) only [z3I, getDT, go_sem, *]
 · rw [decide_eq_false (by omega)]
   rw [zjI z66 (by simp)]; simp -implicitDefEqProofs (disch := omega) only [z3I, getDT, go_sem, *]
theorem znF (n lo hi : Int) : callL G z20 [.d (.int .i64 n), .d (.int .i64 lo), .d (.int .i64 hi)] [] = some (.d (.bool (decide (lo ≤ n ∧ n ≤ hi))), []) := by
 by_cases h : lo ≤ n
 · by_cases h2 : n ≤ hi
   · rw [decide_eq_true ⟨h, h2⟩]
     rw [zjI z69 (by simp)]; simp -implicitDefEqProofs (disch := omega) only [z3L, getDT, go_sem, *]
   · rw [decide_eq_false (by omega)]
     rw [zjI z69 (by simp)]; simp -implicitDefEqProofs (disch := omega) only [z3L, getDT, go_sem, *]
 · rw [decide_eq_false (by omega)]
   rw [zjI z69 (by simp)]; simp -implicitDefEqProofs (disch := omega) only [z3L, getDT, go_sem, *]
theorem zy8 (m : Message) (e : Int) : callL G zp [.d (eMessage m), .d (.int .i64 e)] [] = some (.d (.bool (decide (m.epoch < e))), []) := by
 rw [zjI zbt (by simp)]; simp -implicitDefEqProofs (disch := omega) only [z6L, getDT, go_sem, *]
theorem zz8 (m : Message) (e : Int) : callL G zI [.d (eMessage m), .d (.int .i64 e)] [] = some (.d (.bool (decide (m.epoch < e))), []) := by
 rw [zjI zby (by simp)]; simp -implicitDefEqProofs (disch := omega) only [z6N, getDT, go_sem, *]
def msgV (m : Message) : Int :=
 if 1 ≤ m.id ∧ m.id ≤ 1073741824 ∧ 0 ≤ m.route ∧ m.route ≤ 65535 ∧ 0 ≤ m.epoch ∧ m.epoch ≤ 65536 ∧ 0 ≤ m.count ∧ m.count ≤ 8 ∧ m.count ≤ m.gen ∧ m.gen ≤ 65536 ∧ 0 ≤ m.sent ∧ m.sent ≤ 1073741824 then (if 16 < m.body.length then 2 else 0) else 1
theorem znk (m : Message) : callL G zF [.d (eMessage m)] [] = some (.d (.int .i64 (msgV m)), []) := by
 have i1 := min_ok m.id 1 1073741824
 have i2 := min_ok m.route 0 65535
 have i3 := min_ok m.epoch 0 65536
 have i4 := min_ok m.count 0 8
 have i5 := min_ok m.gen m.count 65536
 have i6 := min_ok m.sent 0 1073741824
 unfold msgV
 split
 · split
   · rw [zjI z8l (by simp)]; simp -implicitDefEqProofs (disch := omega) only [z3H, getDT, go_sem, *]
   · rw [zjI z8l (by simp)]; simp -implicitDefEqProofs (disch := omega) only [z3H, getDT, go_sem, *]
 · rw [zjI z8l (by simp)]; simp -implicitDefEqProofs (disch := omega) only [z3H, getDT, go_sem, *]; (try simp only [pA, pB, pC, pD, pE, pF, pG, pH, pI, pJ, pK, pL, pM, pN, pO, pP, if_true, if_false]); repeat' (first | done | rfl | ((first | refine iteC (fun hq => ?_) (fun hq => ?_) | refine iteP (fun hq => ?_) (fun hq => ?_)) <;> (try (first | (exfalso; omega) | contradiction)) <;> (try simp -implicitDefEqProofs (disch := omega) only [getDT, go_sem, *]) <;> (try simp only [pA, pB, pC, pD, pE, pF, pG, pH, pI, pJ, pK, pL, pM, pN, pO, pP, if_true, if_false]))); (all_goals try rfl); (all_goals try (repeat' (first | done | rfl | (exfalso; omega) | contradiction | (refine iteR (fun hq => ?_) (fun hq => ?_)))))
theorem znG (m : Message) : callL G zJ [.d (eMessage m)] [] = some (.d (.int .i64 (msgV m)), []) := by
 have i1 := znF m.id 1 1073741824
 have i2 := znF m.route 0 65535
 have i3 := znF m.epoch 0 65536
 have i4 := znF m.count 0 8
 have i5 := znF m.gen m.count 65536
 have i6 := znF m.sent 0 1073741824
 unfold msgV
 split
 · split
   · rw [zjI z8n (by simp)]; simp -implicitDefEqProofs (disch := omega) only [z3K, getDT, go_sem, *]
   · rw [zjI z8n (by simp)]; simp -implicitDefEqProofs (disch := omega) only [z3K, getDT, go_sem, *]
 · rw [zjI z8n (by simp)]; simp -implicitDefEqProofs (disch := omega) only [z3K, getDT, go_sem, *]; (try simp only [pA, pB, pC, pD, pE, pF, pG, pH, pI, pJ, pK, pL, pM, pN, pO, pP, if_true, if_false]); repeat' (first | done | rfl | ((first | refine iteC (fun hq => ?_) (fun hq => ?_) | refine iteP (fun hq => ?_) (fun hq => ?_)) <;> (try (first | (exfalso; omega) | contradiction)) <;> (try simp -implicitDefEqProofs (disch := omega) only [getDT, go_sem, *]) <;> (try simp only [pA, pB, pC, pD, pE, pF, pG, pH, pI, pJ, pK, pL, pM, pN, pO, pP, if_true, if_false]))); (all_goals try rfl); (all_goals try (repeat' (first | done | rfl | (exfalso; omega) | contradiction | (refine iteR (fun hq => ?_) (fun hq => ?_)))))
theorem zpH (n : Int) : callL G z01 [.d (.int .i64 n)] [] = some (.d (.bool (decide (0 ≤ n ∧ n ≤ 1073741824))), []) := by
 by_cases h : 0 ≤ n
 · by_cases h2 : n ≤ 1073741824
   · rw [decide_eq_true ⟨h, h2⟩]
     rw [zjI z8k (by simp)]; simp -implicitDefEqProofs (disch := omega) only [z3G, getDT, go_sem, *]
   · rw [decide_eq_false (by omega)]
     rw [zjI z8k (by simp)]; simp -implicitDefEqProofs (disch := omega) only [z3G, getDT, go_sem, *]
 · rw [decide_eq_false (by omega)]
   rw [zjI z8k (by simp)]; simp -implicitDefEqProofs (disch := omega) only [z3G, getDT, go_sem, *]
def leaseE (l : List Lease) (i : Nat) : Int :=
 if msgV (l.getD i zLease).msg ≠ 0 then msgV (l.getD i zLease).msg
 else if (l.getD i zLease).msg.gen = 0 then 7
 else if (l.getD i zLease).deadline < 0 ∨ 1073741824 < (l.getD i zLease).deadline then 1
 else if 0 < i ∧ (l.getD i zLease).msg.id ≤ (l.getD (i - 1) zLease).msg.id then 11 else 0
def leaseB (l : List Lease) (i : Nat) : Bool := decide (leaseE l i ≠ 0)
def obT (o : Nat) (t : Table) : Nat × Go.Sim.Obj := (o, .row [.d (eTable t)])
theorem zxK (t : Table) (hL : t.l.length ≤ 12) : loopL G [] l_lease_Validate_0 ⟨[(1, .ref 1 0 0), (12, .d (.sl (t.l.map eLease))), (13, .d (.int .i64 t.l.length)), (14, .d (.int .i64 0))], [obT 1 t]⟩ = some (findR t.l.length (leaseB t.l) (fun k => (.ret, ⟨[(2, .d (.int .i64 (leaseE t.l k)))], []⟩)) (.exit 0, ⟨[(1, .ref 1 0 0)], [obT 1 t]⟩)) := by
 refine zl3 (G := G) t.l.length (leaseB t.l) (fun k => ⟨[(1, .ref 1 0 0), (12, .d (.sl (t.l.map eLease))), (13, .d (.int .i64 t.l.length)), (14, .d (.int .i64 k))], [obT 1 t]⟩) _ _ fun k hk L => ?_
 simp only [l_lease_Validate_0, obT]
 by_cases h0 : k < t.l.length
 · rw [if_pos h0]
   have hm := znk t.l[k].msg
   have ht := zpH t.l[k].deadline
   simp only [eMessage] at hm
   unfold leaseB leaseE
   rw [getDT h0]
   by_cases c1 : msgV t.l[k].msg = 0
   · rw [c1] at hm
     simp only [c1, ne_eq, not_true_eq_false, if_false]
     by_cases c2 : t.l[k].msg.gen = 0
     · simp only [c2, if_true, show ((7 : Int) = 0) = False by simp, not_false_eq_true, decide_true]
       clear ht
       rw [c2] at hm
       simp -implicitDefEqProofs (disch := omega) only [getDT, go_sem, *]
     · simp only [c2, if_false]
       by_cases c3 : t.l[k].deadline < 0 ∨ 1073741824 < t.l[k].deadline
       · rw [decide_eq_false (by omega)] at ht
         simp only [c3, if_true, show ((1 : Int) = 0) = False by simp, not_false_eq_true, decide_true]
         simp -implicitDefEqProofs (disch := omega) only [getDT, go_sem, *]
       · rw [decide_eq_true (by omega)] at ht
         simp only [c3, if_false]
         by_cases c4 : 0 < k
         · have hk1 : k - 1 < t.l.length := by omega
           have e1 : (k : Int) - 1 = ((k - 1 : Nat) : Int) := by omega
           rw [getDT hk1]
           by_cases c5 : t.l[k].msg.id ≤ t.l[k - 1].msg.id
           · simp only [c4, c5, and_self, if_true, show ((11 : Int) = 0) = False by simp, not_false_eq_true, decide_true]
             simp -implicitDefEqProofs (disch := omega) only [getDT, go_sem, *]
           · simp only [c4, c5, and_false, if_false, not_true_eq_false, decide_false, Bool.false_eq_true]
             simp -implicitDefEqProofs (disch := omega) only [getDT, go_sem, *]
         · simp only [c4, false_and, if_false, not_true_eq_false, decide_false, Bool.false_eq_true]
           simp -implicitDefEqProofs (disch := omega) only [getDT, go_sem, *]
   · simp only [c1, ne_eq, not_false_eq_true, if_true, decide_true]
     clear ht
     simp -implicitDefEqProofs (disch := omega) only [getDT, go_sem, *]
 · rw [if_neg h0]
   simp -implicitDefEqProofs (disch := omega) only [getDT, go_sem, *]
theorem zzg (t : Table) (hL : t.l.length ≤ 12) : loopL G [] l_ref06_Validate_0 ⟨[(1, .ref 1 0 0), (3, .d (.int .i64 0))], [obT 1 t]⟩ = some (findR t.l.length (leaseB t.l) (fun k => (.ret, ⟨[(2, .d (.int .i64 (leaseE t.l k)))], []⟩)) (.exit 0, ⟨[(1, .ref 1 0 0)], [obT 1 t]⟩)) := by
 refine zl3 (G := G) t.l.length (leaseB t.l) (fun k => ⟨[(1, .ref 1 0 0), (3, .d (.int .i64 k))], [obT 1 t]⟩) _ _ fun k hk L => ?_
 simp only [l_ref06_Validate_0, obT]
 by_cases h0 : k < t.l.length
 · rw [if_pos h0]
   have hm := znG t.l[k].msg
   simp only [eMessage] at hm
   unfold leaseB leaseE
   rw [getDT h0]
   by_cases c1 : msgV t.l[k].msg = 0
   · rw [c1] at hm
     simp only [c1, ne_eq, not_true_eq_false, if_false]
     by_cases c2 : t.l[k].msg.gen = 0
     · simp only [c2, if_true, show ((7 : Int) = 0) = False by simp, not_false_eq_true, decide_true]
       rw [c2] at hm
       simp -implicitDefEqProofs (disch := omega) only [getDT, go_sem, *]
     · simp only [c2, if_false]
       by_cases c3 : t.l[k].deadline < 0 ∨ 1073741824 < t.l[k].deadline
       · skip
         simp only [c3, if_true, show ((1 : Int) = 0) = False by simp, not_false_eq_true, decide_true]
         (try simp -implicitDefEqProofs (disch := omega) only [getDT, go_sem, *]); (try simp only [pA, pB, pC, pD, pE, pF, pG, pH, pI, pJ, pK, pL, pM, pN, pO, pP, if_true, if_false]); repeat' (first | done | rfl | ((first | refine iteC (fun hq => ?_) (fun hq => ?_) | refine iteP (fun hq => ?_) (fun hq => ?_)) <;> (try (first | (exfalso; omega) | contradiction)) <;> (try simp -implicitDefEqProofs (disch := omega) only [getDT, go_sem, *]) <;> (try simp only [pA, pB, pC, pD, pE, pF, pG, pH, pI, pJ, pK, pL, pM, pN, pO, pP, if_true, if_false]))); (all_goals try rfl); (all_goals try (repeat' (first | done | rfl | (exfalso; omega) | contradiction | (refine iteR (fun hq => ?_) (fun hq => ?_)))))
       · skip
         simp only [c3, if_false]
         by_cases c4 : 0 < k
         · have hk1 : k - 1 < t.l.length := by omega
           have e1 : (k : Int) - 1 = ((k - 1 : Nat) : Int) := by omega
           rw [getDT hk1]
           by_cases c5 : t.l[k].msg.id ≤ t.l[k - 1].msg.id
           · simp only [c4, c5, and_self, if_true, show ((11 : Int) = 0) = False by simp, not_false_eq_true, decide_true]
             simp -implicitDefEqProofs (disch := omega) only [getDT, go_sem, *]
           · simp only [c4, c5, and_false, if_false, not_true_eq_false, decide_false, Bool.false_eq_true]
             simp -implicitDefEqProofs (disch := omega) only [getDT, go_sem, *]
         · simp only [c4, false_and, if_false, not_true_eq_false, decide_false, Bool.false_eq_true]
           simp -implicitDefEqProofs (disch := omega) only [getDT, go_sem, *]
   · simp only [c1, ne_eq, not_false_eq_true, if_true, decide_true]
     simp -implicitDefEqProofs (disch := omega) only [getDT, go_sem, *]
 · rw [if_neg h0]
   simp -implicitDefEqProofs (disch := omega) only [getDT, go_sem, *]
end Go.Proofs.YtcjncbkhbllchaaGreat
