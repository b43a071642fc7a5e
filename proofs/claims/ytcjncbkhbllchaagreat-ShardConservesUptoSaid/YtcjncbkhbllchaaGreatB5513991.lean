/-
  Heaps of deadlines: what the functions of package due compute, part 3.
  Heaps of deadlines: what the functions of package due compute, part 4.
  Heaps of deadlines: what the functions of package due compute, part 5.
  Heaps of deadlines, in plain terms: sifting keeps the elements and mends the order.
  Heaps of deadlines, in plain terms: what a valid heap is, and what Push, Pop and Remove make of it.
  Heaps as the reference builds them.
  Heaps as the reader of numbers builds them.
  The reference of heaps: sifting down, cutting, Pop, Remove, equality.
  The reference of heaps: cutting, Pop, Remove.
-/
import Derived.Test.YtcjncbkhbllchaaGreatB90128e6
set_option linter.unusedSimpArgs false
set_option linter.unusedVariables false
namespace Go.Proofs.YtcjncbkhbllchaaGreat
open Go Go.Sim
set_option linter.unusedSimpArgs false
set_option linter.unusedVariables false
set_option maxHeartbeats 10000000
set_option maxRecDepth 4000
abbrev rowL (h : List Due) : Go.Sim.Obj := .row ((h.map eD).map .d)
def swp (l : List Due) (i j : Nat) : List Due := (l.set i (l.getD j (0, 0))).set j (l.getD i (0, 0))
theorem zik (l : List Due) (i j : Nat) : (swp l i j).length = l.length := by simp [swp]
def upL (l : List Due) (i : Nat) : List Due × Nat :=
 if 0 < i then
   if lt (l.getD i (0, 0)) (l.getD ((i - 1) / 2) (0, 0)) then upL (swp l i ((i - 1) / 2)) ((i - 1) / 2) else (l, i)
 else (l, i)
termination_by i
decreasing_by omega
theorem rowGet (l : List Due) (i : Nat) (h : i < l.length) : (List.map AV.d (List.map eD l))[i]? = some (.d (eD (l.getD i (0, 0)))) := by
 simp [List.getElem?_map, List.getElem?_eq_getElem h, h]
theorem rowAll (l : List Due) : List.take l.length (List.map AV.d (List.map eD l)) = List.map AV.d (List.map eD l) := by
 rw [List.take_of_length_le]; simp
def upS (l : List Due) (i : Nat) : St := ⟨[(0, .osl 1000000 0 l.length), (1, .d (.int .i64 i)), (1000000, .ref 1000000 1 0)], [(1000000, rowL l)]⟩
def upE (l : List Due) (i : Nat) : St := ⟨[(1, .d (.int .i64 i)), (1000000, .ref 1000000 1 0)], [(1000000, rowL l)]⟩
theorem zi8 : ∀ p : List Due × Nat, p.2 < p.1.length ∧ p.1.length ≤ 1000 → loopL G [] z5t (upS p.1 p.2) = some (.exit 0, upE (upL p.1 p.2).1 (upL p.1 p.2).2) := by
 refine zii (fun p : List Due × Nat => p.2) (fun p : List Due × Nat => p.2 < p.1.length ∧ p.1.length ≤ 1000) (fun p : List Due × Nat => upS p.1 p.2) _ fun ⟨l, i⟩ ⟨hi, hL⟩ L ih => ?_
 simp only [upS, upE, rowL] at hi hL ih ⊢
 simp only [z5t]
 rw [upL]
 by_cases h0 : 0 < i
 · have hj : (i - 1) / 2 < l.length := by omega
   have hb := zjN l i ((i - 1) / 2) hi hj
   have hq : ((i : Int) - 1).tdiv 2 = (((i - 1) / 2 : Nat) : Int) := by rw [Int.tdiv_eq_ediv_of_nonneg (by omega)]; omega
   have i1 := ih (swp l i ((i - 1) / 2), (i - 1) / 2) ⟨by simp only [zik]; omega, by simp only [zik]; omega⟩ (by simp only; omega)
   rw [if_pos h0, getDT hi, getDT hj]
   clear ih
   simp only [zik] at i1
   generalize hr : upL (swp l i ((i - 1) / 2)) ((i - 1) / 2) = r at *
   clear hr
   cases hlt : lt l[i] l[(i - 1) / 2]
   · rw [hlt] at hb
     simp only [if_false, Bool.false_eq_true]
     clear i1 hlt
     simp -implicitDefEqProofs (maxSteps := 4000000) (disch := omega) only [getDT, go_sem, *] /-A0-/
   · rw [hlt] at hb
     simp only [if_true]
     unfold swp at i1
     rw [getDT hi, getDT hj] at i1
     simp only [Int.natCast_add, Int.natCast_one, Int.natCast_zero, Int.natCast_mul, Int.cast_ofNat_Int, List.length_append, List.length_map, List.map_nil, List.length_nil, List.map_append, List.map_cons, List.length_cons, Nat.zero_add, srcO, mapSet] at i1
     have hs2 : (((l.map eD).set i (eD l[(i - 1) / 2])).map AV.d)[(i - 1) / 2]? = some (.d (eD l[(i - 1) / 2])) := by
       rw [List.getElem?_map, List.getElem?_set_ne (by omega), List.getElem?_map, List.getElem?_eq_getElem hj]; rfl
     clear hlt
     simp -implicitDefEqProofs (maxSteps := 4000000) (disch := omega) only [getDT, go_sem, *] /-A1-/
 · rw [if_neg h0]
   clear ih
   simp -implicitDefEqProofs (maxSteps := 4000000) (disch := omega) only [getDT, go_sem, *] /-A2-/
theorem zmf (l : List Due) (i : Nat) : (upL l i).1.length = l.length := by
 fun_induction upL l i with
 | case1 l i h0 h1 ih => rw [ih, zik]
 | case2 => rfl
 | case3 => rfl
theorem zek (h : List Due) (i : Nat) (hi : i < h.length) (hL : h.length ≤ 1000) : callL G z1j [.osl 1000000 0 h.length, .d (.int .i64 i)] [(1000000, rowL h)] = some (.d (.int .i64 (upL h i).2), [(1000000, rowL (upL h i).1)]) := by
 have := zi8 (h, i) ⟨hi, hL⟩
 simp only [upS, upE, rowL] at this
 rw [zie zao (by simp)]; simp -implicitDefEqProofs (maxSteps := 4000000) (disch := omega) only [z9d, zdm, go_sem, Nat.zero_add]
 simp -implicitDefEqProofs (maxSteps := 4000000) (disch := omega) only [rowL, this, go_sem]
def downL (l : List Due) (i : Nat) : List Due :=
 if _h : 2 * i + 1 < l.length then
   let k := if 2 * i + 1 + 1 < l.length ∧ lt (l.getD (2 * i + 1 + 1) (0, 0)) (l.getD (2 * i + 1) (0, 0)) then 2 * i + 1 + 1 else 2 * i + 1
   if lt (l.getD k (0, 0)) (l.getD i (0, 0)) then downL (swp l i k) k else l
 else l
termination_by l.length - i
decreasing_by simp only [zik]; split <;> omega
theorem zqZ : ∀ p : List Due × Nat, p.2 < p.1.length ∧ p.1.length ≤ 1000 → loopL G [] z5s (upS p.1 p.2) = some (.ret, ⟨[(1000000, .ref 1000000 1 0)], [(1000000, rowL (downL p.1 p.2))]⟩) := by
 refine zii (fun p : List Due × Nat => p.1.length - p.2) (fun p : List Due × Nat => p.2 < p.1.length ∧ p.1.length ≤ 1000) (fun p : List Due × Nat => upS p.1 p.2) _ fun ⟨l, i⟩ ⟨hi, hL⟩ L ih => ?_
 simp only [upS, rowL] at hi hL ih ⊢
 simp only [z5s]
 rw [downL]
 have hjc : 2 * (i : Int) + 1 = ((2 * i + 1 : Nat) : Int) := by omega
 have hij : i < 2 * i + 1 ∧ 2 * i + 1 ≤ 2 * l.length := by omega
 generalize 2 * i + 1 = j at *
 by_cases h1 : j < l.length
 · have fin : ∀ k : Nat, i < k → (hk : k < l.length) → L ⟨[(0, .osl 1000000 0 l.length), (1, .d (.int .i64 k)), (1000000, .ref 1000000 1 0)], [(1000000, .row ((((l.map eD).set i (eD l[k])).set k (eD l[i])).map .d))]⟩ = some (.ret, ⟨[(1000000, .ref 1000000 1 0)], [(1000000, .row (List.map .d (List.map eD (downL (swp l i k) k))))]⟩) ∧
       (((l.map eD).set i (eD l[k])).map AV.d)[k]? = some (.d (eD l[k])) := by
     intro k h1 h2
     have i1 := ih (swp l i k, k) ⟨by simp only [zik]; omega, by simp only [zik]; omega⟩ (by simp only [zik]; omega)
     simp only [zik] at i1
     generalize downL (swp l i k) k = r at *
     unfold swp at i1
     rw [getDT hi, getDT h2] at i1
     simp only [Int.natCast_add, Int.natCast_one, Int.natCast_zero, Int.natCast_mul, Int.cast_ofNat_Int, List.length_append, List.length_map, List.map_nil, List.length_nil, List.map_append, List.map_cons, List.length_cons, Nat.zero_add, srcO, mapSet] at i1
     refine ⟨i1, ?_⟩
     rw [List.getElem?_map, List.getElem?_set_ne (by omega), List.getElem?_map, List.getElem?_eq_getElem h2]; rfl
   have hd := zjN l j i h1 hi
   obtain ⟨f1, s1⟩ := fin j hij.1 h1
   rw [dif_pos h1]
   rw [getDT hi, getDT h1]
   by_cases h2 : j + 1 < l.length
   · have hb := zjN l (j + 1) j h2 h1
     have hc := zjN l (j + 1) i h2 hi
     obtain ⟨f2, s2⟩ := fin (j + 1) (by omega) h2
     rw [getDT h2]
     clear ih fin
     cases hlt : lt l[j + 1] l[j]
     · rw [hlt] at hb
       simp only [Bool.false_eq_true, and_false, if_false]
       rw [getDT h1]
       generalize downL (swp l i j) j = r1 at *
       clear f2 s2 hc
       cases hlt2 : lt l[j] l[i]
       · rw [hlt2] at hd
         simp only [Bool.false_eq_true, if_false]
         clear f1 s1
         simp only [Int.natCast_add, Int.natCast_one, Int.natCast_zero, Int.natCast_mul, Int.cast_ofNat_Int, List.length_append, List.length_map, List.map_nil, List.length_nil, List.map_append, List.map_cons, List.length_cons, Nat.zero_add, srcO, mapSet] at hb hd
         simp -implicitDefEqProofs (maxSteps := 4000000) (disch := omega) only [getDT, go_sem, *] /-A3-/
       · rw [hlt2] at hd
         simp only [if_true]
         simp only [Int.natCast_add, Int.natCast_one, Int.natCast_zero, Int.natCast_mul, Int.cast_ofNat_Int, List.length_append, List.length_map, List.map_nil, List.length_nil, List.map_append, List.map_cons, List.length_cons, Nat.zero_add, srcO, mapSet] at hb hd f1
         simp -implicitDefEqProofs (maxSteps := 4000000) (disch := omega) only [getDT, go_sem, *] /-A4-/
     · rw [hlt] at hb
       simp only [h2, and_self, if_true]
       rw [getDT h2]
       generalize downL (swp l i (j + 1)) (j + 1) = r2 at *
       clear f1 s1 hd
       cases hlt2 : lt l[j + 1] l[i]
       · rw [hlt2] at hc
         simp only [Bool.false_eq_true, if_false]
         clear f2 s2
         simp only [Int.natCast_add, Int.natCast_one, Int.natCast_zero, Int.natCast_mul, Int.cast_ofNat_Int, List.length_append, List.length_map, List.map_nil, List.length_nil, List.map_append, List.map_cons, List.length_cons, Nat.zero_add, srcO, mapSet] at hb hc
         simp -implicitDefEqProofs (maxSteps := 4000000) (disch := omega) only [getDT, go_sem, *] /-A5-/
       · rw [hlt2] at hc
         simp only [if_true]
         simp only [Int.natCast_add, Int.natCast_one, Int.natCast_zero, Int.natCast_mul, Int.cast_ofNat_Int, List.length_append, List.length_map, List.map_nil, List.length_nil, List.map_append, List.map_cons, List.length_cons, Nat.zero_add, srcO, mapSet] at hb hc f2
         simp -implicitDefEqProofs (maxSteps := 4000000) (disch := omega) only [getDT, go_sem, *] /-A6-/
   · simp only [h2, false_and, if_false]
     rw [getDT h1]
     generalize downL (swp l i j) j = r1 at *
     clear ih fin
     cases hlt2 : lt l[j] l[i]
     · rw [hlt2] at hd
       (try simp only [Bool.false_eq_true, if_false])
       clear f1 s1
       (try (simp only [Int.natCast_add, Int.natCast_one, Int.natCast_zero, Int.natCast_mul, Int.cast_ofNat_Int, List.length_append, List.length_map, List.map_nil, List.length_nil, List.map_append, List.map_cons, List.length_cons, Nat.zero_add, srcO, mapSet] at hd))
       simp -implicitDefEqProofs (maxSteps := 4000000) (disch := omega) only [getDT, go_sem, *] /-A7-/
     · rw [hlt2] at hd
       (try simp only [if_true])
       (try (simp only [Int.natCast_add, Int.natCast_one, Int.natCast_zero, Int.natCast_mul, Int.cast_ofNat_Int, List.length_append, List.length_map, List.map_nil, List.length_nil, List.map_append, List.map_cons, List.length_cons, Nat.zero_add, srcO, mapSet] at hd))
       (try (simp only [Int.natCast_add, Int.natCast_one, Int.natCast_zero, Int.natCast_mul, Int.cast_ofNat_Int, List.length_append, List.length_map, List.map_nil, List.length_nil, List.map_append, List.map_cons, List.length_cons, Nat.zero_add, srcO, mapSet] at f1))
       simp -implicitDefEqProofs (maxSteps := 4000000) (disch := omega) only [getDT, go_sem, *] /-A8-/
 · rw [dif_neg h1]
   clear ih
   simp -implicitDefEqProofs (maxSteps := 4000000) (disch := omega) only [getDT, go_sem, *] /-A9-/
theorem zr0 (h : List Due) (i : Nat) (hi : i < h.length) (hL : h.length ≤ 1000) : callL G z1h [.osl 1000000 0 h.length, .d (.int .i64 i)] [(1000000, rowL h)] = some (.d (.tup []), [(1000000, rowL (downL h i))]) := by
 have := zqZ (h, i) ⟨hi, hL⟩
 simp only [upS, rowL] at this
 rw [zie zal (by simp)]; simp -implicitDefEqProofs (maxSteps := 4000000) (disch := omega) only [z9a, zdj, go_sem, Nat.zero_add]
 simp -implicitDefEqProofs (maxSteps := 4000000) (disch := omega) only [rowL, this, go_sem]
end Go.Proofs.YtcjncbkhbllchaaGreat

namespace Go.Proofs.YtcjncbkhbllchaaGreat
open Go Go.Sim
set_option linter.unusedSimpArgs false
set_option linter.unusedVariables false
set_option maxHeartbeats 10000000
set_option maxRecDepth 40000
def pushL (h : List Due) (d : Due) : List Due := (upL (h ++ [d]) h.length).1
def pushE (h : List Due) (d : Due) : Int := if validateD h ≠ 0 then validateD h else if validD d = false then 1 else if h.length = 12 then 3 else if 0 ≤ findD h d.2 then 10 else 0
def pushD (h : List Due) (d : Due) : List Due × Int := (if pushE h d = 0 then pushL h d else [], pushE h d)
def eDE (r : List Due × Int) : D := .tup [.sl (r.1.map eD), .int .i64 r.2]
theorem zl6 {h : List Due} (h0 : validateD h = 0) : h.length ≤ 12 := by
 unfold validateD at h0
 split at h0
 · cases h0
 · omega
theorem zoi (h : List Due) (d : Due) (hL : h.length ≤ LIM) : callL G zT [.d (.sl (h.map eD)), .d (eD d)] [] = some (.d (eDE (pushD h d)), []) := by
 have hv := zl7 h hL
 have hf := find_ok h d.2 hL
 have hd := zp0 d
 have hc := zlm (h.map eD) (ziK h) (by simpa using hL)
 have hL2 : h.length ≤ 4294967296 := hL
 unfold pushD pushE eDE
 by_cases h0 : validateD h = 0
 · have h12 := zl6 h0
   rw [h0] at hv
   simp only [h0, ne_eq, not_true_eq_false, if_false]
   clear h0
   cases h1 : validD d
   · rw [h1] at hd
     simp only [if_true, List.map_nil, show ((1 : Int) = 0) = False by simp, if_false]
     clear h1 hf
     rw [zie z2E (by simp)]; simp -implicitDefEqProofs (maxSteps := 4000000) (disch := omega) only [z0I, z0W, getDT, go_sem, *] /-A0-/
   · rw [h1] at hd
     simp only [Bool.true_eq_false, if_false]
     clear h1
     by_cases h2 : h.length = 12
     · simp only [h2, if_true, List.map_nil, show ((3 : Int) = 0) = False by simp, if_false]
       clear hf
       rw [zie z2E (by simp)]; simp -implicitDefEqProofs (maxSteps := 4000000) (disch := omega) only [z0I, z0W, getDT, go_sem, *] /-A1-/
     · simp only [h2, if_false]
       by_cases h3 : 0 ≤ findD h d.2
       · simp only [h3, if_true, List.map_nil, show ((10 : Int) = 0) = False by simp, if_false]
         rw [zie z2E (by simp)]; simp -implicitDefEqProofs (maxSteps := 4000000) (disch := omega) only [z0I, z0W, getDT, go_sem, *] /-A2-/
       · simp only [h3, if_false, if_true]
         obtain ⟨l, hl⟩ : ∃ l, l = h ++ [d] := ⟨_, rfl⟩
         have e1 : h.map eD ++ [D.agg [.int .i64 d.1, .int .i64 d.2]] = l.map eD := by simp [eD, hl]
         have e2 : l.length = h.length + 1 := by simp [hl]
         have hu := zek l h.length (by omega) (by omega)
         unfold pushL
         rw [← hl]
         have hul := zmf l h.length
         generalize upL l h.length = r at *
         simp only [rowL, e2] at hu hul
         have e3 : (h.length : Int) + 1 - 1 = h.length := by omega
         simp only [eD] at hd ⊢
         clear hl
         rw [zie z2E (by simp)]; simp -implicitDefEqProofs (maxSteps := 4000000) (disch := omega) only [z0I, z0W, getDT, go_sem, *] /-A3-/
 · simp only [h0, ne_eq, not_false_eq_true, if_true, if_false, List.map_nil]
   clear hf hc hd
   rw [zie z2E (by simp)]; simp -implicitDefEqProofs (maxSteps := 4000000) (disch := omega) only [z0I, z0W, getDT, go_sem, *] /-A4-/
end Go.Proofs.YtcjncbkhbllchaaGreat

namespace Go.Proofs.YtcjncbkhbllchaaGreat
open Go Go.Sim
set_option linter.unusedSimpArgs false
set_option linter.unusedVariables false
set_option maxHeartbeats 10000000
set_option maxRecDepth 40000
theorem zqX (l : List Due) (i : Nat) : (downL l i).length = l.length := by
 fun_induction downL l i with
 | case1 l i h k h1 ih => rw [ih, zik]
 | case2 => rfl
 | case3 => rfl
def dropL (h : List Due) (i : Nat) : List Due :=
 if i = h.length - 1 then h.take (h.length - 1) else
 let l := (h.take (h.length - 1)).set i (h.getD (h.length - 1) (0, 0))
 if (upL l i).2 = i then downL (upL l i).1 i else (upL l i).1
theorem zr3 (h : List Due) (i : Nat) (hi : i < h.length) (hL : h.length ≤ 1000) : callL G z0o [.d (.sl (h.map eD)), .d (.int .i64 i)] [] = some (.d (.sl ((dropL h i).map eD)), []) := by
 have hc := zlm ((h.take (h.length - 1)).map eD) (ziK _) (by simp [LIM]; omega)
 obtain ⟨m, hm⟩ : ∃ m, m = h.length - 1 := ⟨_, rfl⟩
 have hm2 : h.length = m + 1 := by omega
 obtain ⟨t, ht⟩ : ∃ t, t = h.take m := ⟨_, rfl⟩
 have htl : t.length = m := by simp [ht]; omega
 rw [← hm] at hc
 rw [← ht] at hc
 have e1 : List.take m (h.map eD) = t.map eD := by rw [ht, List.map_take]
 have e0 : (m : Int) + 1 - 1 = m := by omega
 have hs := ziK h
 have hs2 := ziK t
 unfold dropL
 rw [← hm, ← ht]
 clear hm ht
 by_cases hi2 : i = m
 · subst hi2
   rw [if_pos rfl]
   rw [zie z58 (by simp)]; simp -implicitDefEqProofs (maxSteps := 4000000) (disch := omega) only [z3a, z5U, getDT, go_sem, *] /-A0-/
 · have hi3 : i < m := by omega
   rw [if_neg hi2]
   obtain ⟨l, hl⟩ : ∃ l, l = t.set i (h.getD m (0, 0)) := ⟨_, rfl⟩
   have hll : l.length = m := by rw [hl, List.length_set, htl]
   have hu := zek l i (by omega) (by omega)
   simp only [rowL, hll] at hu
   rw [← hl]
   show callL G z0o _ _ = some (.d (.sl ((if (upL l i).2 = i then downL (upL l i).1 i else (upL l i).1).map eD)), [])
   have hu2 : (upL l i).1.length = m := by rw [zmf, hll]
   have hd := zr0 (upL l i).1 i (by omega) (by omega)
   have hd2 : (downL (upL l i).1 i).length = m := by rw [zqX, hu2]
   simp only [rowL, hu2] at hd
   have e5 : (t.map eD).set i (eD h[m]) = l.map eD := by rw [hl, getDT (by omega), List.map_set]
   generalize downL (upL l i).1 i = r2 at *
   generalize upL l i = r at *
   clear hl hi2
   by_cases h4 : r.2 = i
   · rw [if_pos h4]
     rw [h4] at hu
     rw [zie z58 (by simp)]; simp -implicitDefEqProofs (maxSteps := 4000000) (disch := omega) only [z3a, z5U, getDT, go_sem, *]; (try simp only [pA, pB, pC, pD, pE, pF, pG, pH, pI, pJ, pK, pL, pM, pN, pO, pP, if_true, if_false]); repeat' (first | done | rfl | ((first | refine iteC (fun hq => ?_) (fun hq => ?_) | refine iteP (fun hq => ?_) (fun hq => ?_)) <;> (try (first | (exfalso; omega) | contradiction)) <;> (try simp -implicitDefEqProofs (maxSteps := 4000000) (disch := omega) only [getDT, go_sem, *]) <;> (try simp only [pA, pB, pC, pD, pE, pF, pG, pH, pI, pJ, pK, pL, pM, pN, pO, pP, if_true, if_false]))); (all_goals try rfl); (all_goals try (repeat' (first | done | rfl | (exfalso; omega) | contradiction | (refine iteR (fun hq => ?_) (fun hq => ?_))))) /-A1-/
   · rw [if_neg h4]
     clear hd hd2
     rw [zie z58 (by simp)]; simp -implicitDefEqProofs (maxSteps := 4000000) (disch := omega) only [z3a, z5U, getDT, go_sem, *]; (try simp only [pA, pB, pC, pD, pE, pF, pG, pH, pI, pJ, pK, pL, pM, pN, pO, pP, if_true, if_false]); repeat' (first | done | rfl | ((first | refine iteC (fun hq => ?_) (fun hq => ?_) | refine iteP (fun hq => ?_) (fun hq => ?_)) <;> (try (first | (exfalso; omega) | contradiction)) <;> (try simp -implicitDefEqProofs (maxSteps := 4000000) (disch := omega) only [getDT, go_sem, *]) <;> (try simp only [pA, pB, pC, pD, pE, pF, pG, pH, pI, pJ, pK, pL, pM, pN, pO, pP, if_true, if_false]))); (all_goals try rfl); (all_goals try (repeat' (first | done | rfl | (exfalso; omega) | contradiction | (refine iteR (fun hq => ?_) (fun hq => ?_))))) /-A2-/
def removeD (h : List Due) (id : Int) : List Due × Int :=
 if validateD h ≠ 0 then ([], validateD h) else if findD h id < 0 then ([], 4) else (dropL h (findD h id).toNat, 0)
theorem zrU (h : List Due) (id : Int) : findD h id < h.length := by
 unfold findD idxI
 cases e : List.findIdx? (fun d : Due => decide (d.2 = id)) h with
 | none => simp only; omega
 | some i => have := (List.findIdx?_eq_some_iff_getElem.1 e).1; simp only; omega
theorem zow (h : List Due) (id : Int) (hL : h.length ≤ LIM) : callL G zU [.d (.sl (h.map eD)), .d (.int .i64 id)] [] = some (.d (eDE (removeD h id)), []) := by
 have hv := zl7 h hL
 have hf := find_ok h id hL
 have hs := ziK h
 unfold removeD eDE
 rw [zie zew (by simp)]; simp -implicitDefEqProofs (maxSteps := 4000000) (disch := omega) only [z95, zde, go_sem, Nat.zero_add]
 by_cases h0 : validateD h = 0
 · have h12 := zl6 h0
   by_cases hn : findD h id < 0
   · simp -implicitDefEqProofs (maxSteps := 4000000) (disch := omega) only [hv, h0, hf, hn, go_sem]
   · have hd := zr3 h (findD h id).toNat (by have := zrU h id; omega) (by omega)
     rw [show (((findD h id).toNat : Nat) : Int) = findD h id by omega] at hd
     simp -implicitDefEqProofs (maxSteps := 4000000) (disch := omega) only [hv, h0, hf, hn, hd, go_sem]
 · simp -implicitDefEqProofs (maxSteps := 4000000) (disch := omega) only [hv, h0, go_sem]
end Go.Proofs.YtcjncbkhbllchaaGreat

namespace Go.Proofs.YtcjncbkhbllchaaGreat
open Go Go.Sim
set_option linter.unusedSimpArgs false
set_option linter.unusedVariables false
set_option maxHeartbeats 10000000
abbrev dz : Due := (0, 0)
theorem lt_iff (a b : Due) : lt a b = true ↔ a.1 < b.1 ∨ (a.1 = b.1 ∧ a.2 < b.2) := by
 unfold lt cmpD cmpI
 rw [decide_eq_true_iff]
 repeat' split
 all_goals omega
theorem lt_ff (a b : Due) : lt a b = false ↔ b.1 < a.1 ∨ (b.1 = a.1 ∧ b.2 ≤ a.2) := by
 rw [← Bool.not_eq_true, lt_iff]; omega
theorem zjf {a b : Due} (h : lt a b = true) : lt b a = false := by rw [lt_iff] at h; rw [lt_ff]; omega
theorem le_trans' {a b c : Due} (h1 : lt b a = false) (h2 : lt c b = false) : lt c a = false := by rw [lt_ff] at *; omega
def HeapO (l : List Due) : Prop := ∀ k, 1 ≤ k → k < l.length → lt (l.getD k dz) (l.getD ((k - 1) / 2) dz) = false
theorem zma (l : List Due) (i j k : Nat) (hi : i < l.length) (hj : j < l.length) : (swp l i j).getD k dz = if k = j then l.getD i dz else if k = i then l.getD j dz else l.getD k dz := by
 unfold swp
 simp only [List.getD_eq_getElem?_getD, List.getElem?_set, List.length_set]
 by_cases h1 : j = k
 · subst h1; simp [hj]
 · rw [if_neg h1, if_neg (Ne.symm h1)]
   by_cases h2 : i = k
   · subst h2; simp [hi]
   · rw [if_neg h2, if_neg (Ne.symm h2)]
theorem zmb (l : List Due) (i j : Nat) (hi : i < l.length) (hj : j < l.length) : (swp l i j).Perm l := by
 unfold swp
 have := List.set_set_perm hi hj
 simpa [hi, hj] using this
theorem zel (l : List Due) (i : Nat) (hi : i < l.length) : (upL l i).1.Perm l := by
 fun_induction upL l i with
 | case1 l i h0 h1 ih => exact (ih (by rw [zik]; omega)).trans (zmb l _ _ hi (by omega))
 | case2 => exact .refl _
 | case3 => exact .refl _
theorem zeg (l : List Due) (i : Nat) (hi : i < l.length) (h1 : ∀ k, 1 ≤ k → k < l.length → k ≠ i → lt (l.getD k dz) (l.getD ((k - 1) / 2) dz) = false)
   (h2 : ∀ k, 1 ≤ k → k < l.length → (k - 1) / 2 = i → 1 ≤ i → lt (l.getD k dz) (l.getD ((i - 1) / 2) dz) = false) : HeapO (upL l i).1 := by
 fun_induction upL l i with
 | case1 l i h0 hlt ih =>
   have hp : (i - 1) / 2 < l.length := by omega
   have e := fun k => zma l i ((i - 1) / 2) k hi hp
   refine ih (by rw [zik]; omega) (fun k ha hb hc => ?_) (fun k ha hb hc hd => ?_)
   · rw [zik] at hb
     rw [e, e]
     by_cases hk : k = i
     · subst hk
       rw [if_neg (by omega), if_pos rfl, if_pos rfl]
       exact zjf hlt
     · rw [if_neg hc, if_neg hk]
       by_cases hq : (k - 1) / 2 = (i - 1) / 2
       · rw [if_pos hq]
         have := h1 k ha hb hk
         rw [hq] at this
         exact le_trans' (zjf hlt) this
       · rw [if_neg hq]
         by_cases hr : (k - 1) / 2 = i
         · rw [if_pos hr]; exact h2 k ha hb hr (by omega)
         · rw [if_neg hr]; exact h1 k ha hb hk
   · rw [zik] at hb
     rw [e, e, if_neg (show k ≠ (i - 1) / 2 by omega), if_neg (show ((i - 1) / 2 - 1) / 2 ≠ (i - 1) / 2 by omega), if_neg (show ((i - 1) / 2 - 1) / 2 ≠ i by omega)]
     have hpp := h1 ((i - 1) / 2) hd hp (by omega)
     by_cases hk : k = i
     · rw [if_pos hk]; exact hpp
     · rw [if_neg hk]
       have := h1 k ha hb hk
       rw [hc] at this
       exact le_trans' hpp this
 | case2 l i h0 hlt =>
   intro k ha hb
   by_cases hk : k = i
   · subst hk; simpa using hlt
   · exact h1 k ha hb hk
 | case3 l i h0 =>
   intro k ha hb
   exact h1 k ha hb (by omega)
theorem zr1 (l : List Due) (i : Nat) (hi : i < l.length) : (downL l i).Perm l := by
 fun_induction downL l i with
 | case1 l i h k h1 ih =>
   have hk : k < l.length := by simp only [k]; split <;> omega
   exact (ih (by rw [zik]; exact hk)).trans (zmb l _ _ hi hk)
 | case2 => exact .refl _
 | case3 => exact .refl _
theorem zqY (l : List Due) (i : Nat) (hi : i < l.length) (h1 : ∀ k, 1 ≤ k → k < l.length → (k - 1) / 2 ≠ i → lt (l.getD k dz) (l.getD ((k - 1) / 2) dz) = false)
   (h2 : ∀ k, 1 ≤ k → k < l.length → (k - 1) / 2 = i → 1 ≤ i → lt (l.getD k dz) (l.getD ((i - 1) / 2) dz) = false) : HeapO (downL l i) := by
 fun_induction downL l i with
 | case1 l i h k hlt ih =>
   have hk : k < l.length ∧ i < k ∧ (k - 1) / 2 = i ∧ ∀ q, 1 ≤ q → q < l.length → (q - 1) / 2 = i → lt (l.getD q dz) (l.getD k dz) = false := by
     simp only [k]
     split
     · rename_i hc
       refine ⟨by omega, by omega, by omega, fun q ha hb hq => ?_⟩
       have : q = 2 * i + 1 ∨ q = 2 * i + 1 + 1 := by omega
       rcases this with rfl | rfl
       · exact zjf hc.2
       · rw [lt_ff]; omega
     · rename_i hc
       refine ⟨by omega, by omega, by omega, fun q ha hb hq => ?_⟩
       have : q = 2 * i + 1 ∨ q = 2 * i + 1 + 1 := by omega
       rcases this with rfl | rfl
       · rw [lt_ff]; omega
       · simp only [hb, true_and, Bool.not_eq_true] at hc; exact hc
   obtain ⟨hk1, hk2, hk3, hk4⟩ := hk
   clear_value k
   have e := fun q => zma l i k q hi hk1
   refine ih (by rw [zik]; exact hk1) (fun q ha hb hc => ?_) (fun q ha hb hc hd => ?_)
   · rw [zik] at hb
     rw [e, e]
     by_cases hq : q = k
     · subst hq
       rw [if_pos rfl, hk3, if_neg (by omega), if_pos rfl]
       exact zjf hlt
     · rw [if_neg hq, if_neg hc]
       by_cases hr : q = i
       · subst hr
         rw [if_pos rfl, if_neg (by omega)]
         exact h2 k (by omega) hk1 hk3 ha
       · rw [if_neg hr]
         by_cases hs : (q - 1) / 2 = i
         · rw [if_pos hs]; exact hk4 q ha hb hs
         · rw [if_neg hs]; exact h1 q ha hb hs
   · rw [zik] at hb
     rw [e, e, if_neg (show q ≠ k by omega), if_neg (show q ≠ i by omega), hk3, if_neg (by omega), if_pos rfl]
     have := h1 q ha hb (by omega)
     rw [hc] at this; exact this
 | case2 l i h k hlt =>
   intro q ha hb
   by_cases hq : (q - 1) / 2 = i
   · have hlt : lt (l.getD k dz) (l.getD i dz) = false := by simpa using hlt
     rw [hq]
     refine le_trans' hlt ?_
     simp only [k]
     have : q = 2 * i + 1 ∨ q = 2 * i + 1 + 1 := by omega
     split
     · rename_i hc
       rcases this with rfl | rfl
       · exact zjf hc.2
       · rw [lt_ff]; omega
     · rename_i hc
       rcases this with rfl | rfl
       · rw [lt_ff]; omega
       · simp only [hb, true_and, Bool.not_eq_true] at hc; exact hc
   · exact h1 q ha hb hq
 | case3 l i h =>
   intro q ha hb
   exact h1 q ha hb (by omega)
end Go.Proofs.YtcjncbkhbllchaaGreat

namespace Go.Proofs.YtcjncbkhbllchaaGreat
open Go Go.Sim
set_option linter.unusedSimpArgs false
set_option linter.unusedVariables false
set_option maxHeartbeats 10000000
theorem zkA (h : List Due) (j : Int) : findD h j < h.length := by
 unfold findD idxI
 cases e : List.findIdx? (fun d : Due => decide (d.2 = j)) h with
 | none => simp only; omega
 | some i => have := (List.findIdx?_eq_some_iff_getElem.1 e).1; simp only; omega
theorem zmZ (h : List Due) (j : Int) (h0 : 0 ≤ findD h j) : (h.getD (findD h j).toNat dz).2 = j := by
 revert h0
 unfold findD idxI
 cases e : List.findIdx? (fun d : Due => decide (d.2 = j)) h with
 | none => simp
 | some i =>
   obtain ⟨h1, h2, _⟩ := List.findIdx?_eq_some_iff_getElem.1 e
   simp only [Int.toNat_natCast]
   intro _
   simpa [h1] using h2
theorem zlt (h : List Due) (j : Int) : findD h j < 0 ↔ j ∉ h.map (·.2) := by
 unfold findD idxI
 cases e : List.findIdx? (fun d : Due => decide (d.2 = j)) h with
 | none =>
   simp only [List.findIdx?_eq_none_iff, decide_eq_false_iff_not] at e
   simp only [show ((-1 : Int) < 0) by omega, true_iff, List.mem_map, not_exists, not_and]
   exact fun d hd => e d hd
 | some i =>
   obtain ⟨h1, h2, _⟩ := List.findIdx?_eq_some_iff_getElem.1 e
   simp only [decide_eq_true_eq] at h2
   refine ⟨fun h => by simp only at h; omega, fun hn => absurd (List.mem_map.2 ⟨_, List.getElem_mem h1, h2⟩) hn⟩
theorem zn0 (h : List Due) (i : Nat) (hi : i < h.length) (hd : (h.map (·.2)).Nodup) : findD h (h.getD i dz).2 = i := by
 unfold findD idxI
 have : List.findIdx? (fun d : Due => decide (d.2 = (h.getD i dz).2)) h = some i := by
   refine List.findIdx?_eq_some_iff_getElem.2 ⟨hi, by simp [hi], fun j hj => ?_⟩
   have := (List.pairwise_iff_getElem.1 hd) j i (by simp; omega) (by simpa using hi) hj
   simpa [hi] using this
 rw [this]
theorem zuu (h : List Due) (hf : ∀ i, i < h.length → findD h (h.getD i dz).2 = i) : (h.map (·.2)).Nodup := by
 refine List.pairwise_iff_getElem.2 fun i j hi hj hij => ?_
 simp only [List.length_map] at hi hj
 simp only [List.getElem_map]
 intro he
 have h1 := hf i hi
 have h2 := hf j hj
 simp only [List.getD_eq_getElem?_getD, List.getElem?_eq_getElem hi, List.getElem?_eq_getElem hj, Option.getD_some] at h1 h2
 rw [he] at h1
 omega
structure Ok (h : List Due) : Prop where
 len : h.length ≤ 12
 val : ∀ d ∈ h, validD d = true
 ids : (h.map (·.2)).Nodup
 ord : HeapO h
theorem ziI (h : List Due) : validateD h = 0 ↔ Ok h := by
 unfold validateD
 by_cases h1 : 12 < h.length
 · rw [if_pos h1]; exact ⟨fun h => by omega, fun o => absurd o.len (by omega)⟩
 rw [if_neg h1]
 by_cases h2 : h.any (fun d => !validD d) = true
 · rw [if_pos h2]
   refine ⟨fun h => by omega, fun o => ?_⟩
   obtain ⟨d, hd, h3⟩ := List.any_eq_true.1 h2
   simp [o.val d hd] at h3
 rw [if_neg h2]
 have h2 : ∀ d ∈ h, validD d = true := by simpa using h2
 by_cases h3 : (List.range' 0 h.length).any (dupAt h) = true
 · rw [if_pos h3]
   refine ⟨fun h => by omega, fun o => ?_⟩
   obtain ⟨i, hi, h4⟩ := List.any_eq_true.1 h3
   simp only [List.mem_range'_1, Nat.zero_add] at hi
   simp [dupAt, zn0 h i hi.2 o.ids] at h4
   exact absurd (zn0 h i hi.2 o.ids) (by simpa [dz] using h4)
 rw [if_neg h3]
 have h3 : ∀ i, i < h.length → findD h (h.getD i dz).2 = i := by
   intro i hi
   simp only [List.any_eq_true, not_exists, not_and, List.mem_range'_1] at h3
   have := h3 i ⟨by omega, by omega⟩
   simpa [dupAt] using this
 by_cases h4 : (List.range' 1 (h.length - 1)).any (ordAt h) = true
 · rw [if_pos h4]
   refine ⟨fun h => by omega, fun o => ?_⟩
   obtain ⟨i, hi, h5⟩ := List.any_eq_true.1 h4
   simp only [List.mem_range'_1] at hi
   have := o.ord i hi.1 (by omega)
   unfold ordAt at h5
   rw [h5] at this; cases this
 rw [if_neg h4]
 refine ⟨fun _ => ⟨by omega, h2, zuu h h3, fun k ha hb => ?_⟩, fun _ => rfl⟩
 simp only [List.any_eq_true, not_exists, not_and, List.mem_range'_1] at h4
 have := h4 k ⟨by omega, by omega⟩
 simpa [ordAt] using this
theorem Ok.of_perm {h l : List Due} (hp : l.Perm h) (hl : h.length ≤ 12) (hv : ∀ d ∈ h, validD d = true) (hi : (h.map (·.2)).Nodup) (ho : HeapO l) : Ok l :=
 ⟨by rw [hp.length_eq]; exact hl, fun d hd => hv d (hp.mem_iff.1 hd), (hp.map _).nodup_iff.2 hi, ho⟩
theorem zn8 (h : List Due) (d : Due) (k : Nat) : (h ++ [d]).getD k dz = if k < h.length then h.getD k dz else if k = h.length then d else dz := by
 simp only [List.getD_eq_getElem?_getD, List.getElem?_append]
 split
 · rfl
 · rename_i hk
   by_cases hk2 : k = h.length
   · subst hk2; simp
   · rw [if_neg hk2, List.getElem?_eq_none (by simp; omega)]; rfl
theorem push_ok' {h : List Due} {d : Due} (o : Ok h) (hd : validD d = true) (hl : h.length < 12) (hn : d.2 ∉ h.map (·.2)) : pushD h d = (pushL h d, 0) ∧ Ok (pushL h d) ∧ (pushL h d).Perm (d :: h) := by
 have hp : (pushL h d).Perm (d :: h) := (zel (h ++ [d]) h.length (by simp)).trans (List.perm_append_comm (l₂ := [d]))
 have he : pushE h d = 0 := by
   unfold pushE
   rw [(ziI h).2 o, hd, if_neg (by simp), if_neg (by simp), if_neg (by omega), if_neg]
   have := (zlt h d.2).2 hn; omega
 refine ⟨by unfold pushD; rw [he, if_pos rfl], .of_perm hp (by simp; omega) (fun x hx => by rcases List.mem_cons.1 hx with rfl | hx; exact hd; exact o.val x hx) (by simpa using ⟨by simpa using hn, o.ids⟩) ?_, hp⟩
 refine zeg _ _ (by simp) (fun k ha hb hc => ?_) (fun k ha hb hc => ?_)
 · simp only [List.length_append, List.length_cons, List.length_nil] at hb
   rw [zn8, zn8, if_pos (by omega), if_pos (by omega)]
   exact o.ord k ha (by omega)
 · simp only [List.length_append, List.length_cons, List.length_nil] at hb
   omega
theorem set_perm' : ∀ (l : List Due) (i : Nat) (b : Due), i < l.length → (l.getD i dz :: l.set i b).Perm (b :: l) := by
 intro l
 induction l with
 | nil => intro i b h; simp at h
 | cons x xs ih =>
   intro i b h
   cases i with
   | zero => exact .swap _ _ _
   | succ i =>
     simp only [List.length_cons, Nat.add_lt_add_iff_right] at h
     simp only [List.getD_cons_succ, List.set_cons_succ]
     exact (List.Perm.swap _ _ _).trans (((ih i b h).cons x).trans (.swap _ _ _))
theorem zwF (h : List Due) (h0 : 0 < h.length) : h = h.take (h.length - 1) ++ [h.getD (h.length - 1) dz] := by
 have := List.take_append_getLast h (by intro hn; simp [hn] at h0)
 rw [List.getLast_eq_getElem] at this
 simpa [show h.length - 1 < h.length by omega] using this.symm
theorem upL_at {l : List Due} {i : Nat} : (upL l i).2 ≤ i ∧ ((0 < i ∧ lt (l.getD i dz) (l.getD ((i - 1) / 2) dz) = true ∧ (upL l i).2 < i) ∨ (¬ (0 < i ∧ lt (l.getD i dz) (l.getD ((i - 1) / 2) dz) = true) ∧ upL l i = (l, i))) := by
 fun_induction upL l i with
 | case1 l i h0 hlt ih => exact ⟨by omega, .inl ⟨h0, hlt, by omega⟩⟩
 | case2 l i h0 hlt => exact ⟨by simp, .inr ⟨fun h => hlt h.2, rfl⟩⟩
 | case3 l i h0 => exact ⟨by simp, .inr ⟨fun h => h0 h.1, rfl⟩⟩
theorem drop_ok' {h : List Due} (o : Ok h) (i : Nat) (hi : i < h.length) : Ok (dropL h i) ∧ (h.getD i dz :: dropL h i).Perm h := by
 have hlast := zwF h (by omega)
 obtain ⟨m, hm⟩ : ∃ m, m = h.length - 1 := ⟨_, rfl⟩
 obtain ⟨t, ht⟩ : ∃ t, t = h.take m := ⟨_, rfl⟩
 have htl : t.length = m := by simp [ht]; omega
 have hg : ∀ k, k < m → t.getD k dz = h.getD k dz := fun k hk => by simp [ht, List.getElem?_take, hk]
 rw [← hm, ← ht] at hlast
 unfold dropL
 rw [← hm, ← ht]
 have key : ∀ l : List Due, (h.getD i dz :: l).Perm h → HeapO l → Ok l ∧ (h.getD i dz :: l).Perm h := fun l hp ho => by
   refine ⟨⟨?_, fun d hd => o.val d (hp.mem_iff.1 (by simp [hd])), ?_, ho⟩, hp⟩
   · have := hp.length_eq; simp at this; have := o.len; omega
   · have := ((hp.map (·.2)).nodup_iff).2 o.ids
     rw [List.map_cons, List.nodup_cons] at this
     exact this.2
 by_cases h1 : i = m
 · rw [if_pos h1]
   refine key t ?_ fun k ha hb => ?_
   · subst h1
     conv => rhs; rw [hlast]
     exact (List.perm_append_comm (l₁ := [_]))
   · rw [htl] at hb
     rw [hg _ hb, hg _ (by omega)]
     exact o.ord k ha (by omega)
 · rw [if_neg h1]
   have him : i < m := by omega
   simp only
   obtain ⟨x, hx⟩ : ∃ x, x = h.getD m dz := ⟨_, rfl⟩
   obtain ⟨l, hl⟩ : ∃ l, l = t.set i x := ⟨_, rfl⟩
   have hll : l.length = m := by rw [hl, List.length_set, htl]
   have hlg : ∀ k, k < m → l.getD k dz = if k = i then x else h.getD k dz := fun k hk => by
     rw [← hg k hk, hl]
     simp only [List.getD_eq_getElem?_getD, List.getElem?_set, htl]
     by_cases hki : k = i
     · subst hki; simp [hk]
     · rw [if_neg (Ne.symm hki), if_neg hki]
   have hp : (h.getD i dz :: l).Perm h := by
     rw [← hg i him, hl]
     refine (set_perm' t i x (by omega)).trans ?_
     rw [hlast, hx]
     conv => rhs; rw [← hlast]
     conv => rhs; rw [hlast]
     exact List.perm_append_comm (l₁ := [_])
   rw [← hx, ← hl]
   have ord := o.ord
   have hch : ∀ k, 1 ≤ k → k < l.length → (k - 1) / 2 = i → 1 ≤ i → lt (l.getD k dz) (l.getD ((i - 1) / 2) dz) = false := fun k ha hb hc hd => by
     rw [hlg k (by omega), hlg _ (by omega), if_neg (by omega), if_neg (by omega)]
     have a := ord k ha (by omega)
     have b := ord i hd (by omega)
     rw [hc] at a
     exact le_trans' b a
   rcases (upL_at (l := l) (i := i)).2 with ⟨h0, hlt, hmv⟩ | ⟨hno, heq⟩
   · rw [if_neg (by omega)]
     refine key _ (((zel l i (by omega)).cons _).trans hp) (zeg l i (by omega) (fun k ha hb hc => ?_) hch)
     by_cases hq : (k - 1) / 2 = i
     · have a := hch k ha hb hq (by omega)
       rw [hq]
       exact le_trans' (zjf hlt) a
     · rw [hlg k (by omega), hlg _ (by omega), if_neg hc, if_neg hq]
       exact ord k ha (by omega)
   · rw [heq, if_pos rfl]
     refine key _ (((zr1 l i (by omega)).cons _).trans hp) (zqY l i (by omega) (fun k ha hb hc => ?_) hch)
     by_cases hk : k = i
     · subst hk
       rw [← Bool.not_eq_true]
       exact fun h => hno ⟨by omega, h⟩
     · rw [hlg k (by omega), hlg _ (by omega), if_neg hk, if_neg hc]
       exact ord k ha (by omega)
end Go.Proofs.YtcjncbkhbllchaaGreat

namespace Go.Proofs.YtcjncbkhbllchaaGreat
open Go Go.Sim
set_option linter.unusedSimpArgs false
set_option linter.unusedVariables false
set_option maxHeartbeats 10000000
set_option maxRecDepth 40000
theorem zon (a b : Due) : callL G z1M [.d (eD a), .d (eD b)] [] = some (.d (.bool (lt a b)), []) := by
 have key : lt a b = (decide (a.1 < b.1) || (decide (a.1 = b.1) && decide (a.2 < b.2))) := by
   have := lt_iff a b
   cases h : lt a b
   · rw [h] at this; simp at this; simp; omega
   · rw [h] at this; simp at this; simp; omega
 rw [key]
 simp only [eD]
 clear key
 rw [zie zaH (by simp)]; simp -implicitDefEqProofs (maxSteps := 4000000) (disch := omega) only [z9y, zdG, getDT, go_sem, *] /-A0-/
theorem zop (d : Due) : callL G z1O [.d (eD d)] [] = some (.d (.bool (validD d)), []) := by
 unfold validD
 simp only [eD]
 rw [zie zaJ (by simp)]; simp -implicitDefEqProofs (maxSteps := 4000000) (disch := omega) only [z9A, zdI, getDT, go_sem, *] /-A1-/
def refIdxR (h : List Due) (j : Int) (k : Nat) : AExit × St := match (h.drop k).findIdx? (fun d => decide (d.2 = j)) with | some i => (.ret, ⟨[(4, .d (.int .i64 ((k + i : Nat) : Int)))], []⟩) | none => (.exit 0, ⟨[], []⟩)
theorem zvk (h : List Due) (j : Int) (hL : h.length ≤ LIM) : ∀ k, k ≤ h.length → loopL G [] z5F ⟨[(0, .d (.sl (h.map eD))), (1, .d (.int .i64 j)), (5, .d (.int .i64 k))], []⟩ = some (refIdxR h j k) := by
 refine zii (fun k => h.length - k) (fun k => k ≤ h.length) _ _ fun k hk L ih => ?_
 simp -implicitDefEqProofs (maxSteps := 4000000) (disch := omega) only [z5F, go_sem]
 by_cases hlt : k < h.length
 · simp -implicitDefEqProofs (maxSteps := 4000000) (disch := omega) only [List.length_map, show ((k : Int) < (h.length : Int)) by omega, show (0 : Int) ≤ (k : Int) by omega, Int.toNat_natCast, List.getElem?_map, List.getElem?_eq_getElem hlt, zja, zjt, eD, wrap1 hlt hL, go_sem]
   unfold refIdxR
   rw [List.drop_eq_getElem_cons hlt, List.findIdx?_cons]
   by_cases he : h[k].2 = j
   · simp [he]
   · simp only [he, decide_false, Bool.false_eq_true, if_false]
     have i1 := ih (k + 1) (by omega) (by omega)
     simp only [Int.natCast_add, Int.natCast_one] at i1
     rw [i1]
     unfold refIdxR
     cases (h.drop (k + 1)).findIdx? (fun d => decide (d.2 = j)) with
     | none => rfl
     | some i => simp; omega
 · have : k = h.length := by omega
   subst this
   simp -implicitDefEqProofs (maxSteps := 4000000) (disch := omega) only [List.length_map, show ¬ ((h.length : Int) < (h.length : Int)) by omega, go_sem]
   simp [refIdxR]
theorem zoo (h : List Due) (j : Int) (hL : h.length ≤ LIM) : callL G z1N [.d (.sl (h.map eD)), .d (.int .i64 j)] [] = some (.d (.int .i64 (findD h j)), []) := by
 have := zvk h j hL 0 (by omega)
 simp only [Int.natCast_zero] at this
 rw [zie zaI (by simp)]; simp -implicitDefEqProofs (maxSteps := 4000000) (disch := omega) only [z9z, zdH, go_sem, Nat.zero_add]
 simp only [this]
 unfold refIdxR findD idxI
 simp only [List.drop_zero, Nat.zero_add]
 cases h.findIdx? (fun d => decide (d.2 = j)) <;> simp -implicitDefEqProofs (maxSteps := 4000000) (disch := omega) only [go_sem]
def refV0 (h : List Due) (k : Nat) : AExit × St := if (h.drop k).any (fun d => !validD d) then (.ret, ⟨[(2, .d (.int .i64 1))], []⟩) else (.exit 0, ⟨[(0, .d (.sl (h.map eD)))], []⟩)
theorem zvp (h : List Due) (hL : h.length ≤ 12) : ∀ k, k ≤ h.length → loopL G [] z5C ⟨[(0, .d (.sl (h.map eD))), (3, .d (.int .i64 k))], []⟩ = some (refV0 h k) := by
 refine zii (fun k => h.length - k) (fun k => k ≤ h.length) _ _ fun k hk L ih => ?_
 simp -implicitDefEqProofs (maxSteps := 4000000) (disch := omega) only [z5C, go_sem]
 by_cases hlt : k < h.length
 · have hs := zop h[k]
   simp -implicitDefEqProofs (maxSteps := 4000000) (disch := omega) only [List.length_map, show ((k : Int) < (h.length : Int)) by omega, show (0 : Int) ≤ (k : Int) by omega, Int.toNat_natCast, List.getElem?_map, List.getElem?_eq_getElem hlt, zja, zjt, hs, wrap1 hlt (show h.length ≤ LIM by simp [LIM]; omega), go_sem]
   have i1 := ih (k + 1) (by omega) (by omega)
   simp only [Int.natCast_add, Int.natCast_one] at i1
   rw [i1]
   unfold refV0
   rw [List.drop_eq_getElem_cons hlt, List.any_cons]
   cases validD h[k] <;> rfl
 · have : k = h.length := by omega
   subst this
   simp -implicitDefEqProofs (maxSteps := 4000000) (disch := omega) only [List.length_map, show ¬ ((h.length : Int) < (h.length : Int)) by omega, go_sem]
   simp [refV0]
def refV1 (h : List Due) (k : Nat) : AExit × St := if (List.range' k (h.length - k)).any (dupAt h) then (.ret, ⟨[(2, .d (.int .i64 10))], []⟩) else (.exit 2, ⟨[(0, .d (.sl (h.map eD)))], []⟩)
theorem zvq (h : List Due) (hL : h.length ≤ 12) : ∀ k, k ≤ h.length → loopL G [] z5D ⟨[(0, .d (.sl (h.map eD))), (4, .d (.int .i64 k))], []⟩ = some (refV1 h k) := by
 refine zii (fun k => h.length - k) (fun k => k ≤ h.length) _ _ fun k hk L ih => ?_
 simp -implicitDefEqProofs (maxSteps := 4000000) (disch := omega) only [z5D, go_sem]
 by_cases hlt : k < h.length
 · have hf := zoo h h[k].2 (by simp [LIM]; omega)
   simp -implicitDefEqProofs (maxSteps := 4000000) (disch := omega) only [List.length_map, show ((k : Int) < (h.length : Int)) by omega, show (0 : Int) ≤ (k : Int) by omega, Int.toNat_natCast, List.getElem?_map, List.getElem?_eq_getElem hlt, zja, zjt, eD, hf, wrap1 hlt (show h.length ≤ LIM by simp [LIM]; omega), go_sem]
   have i1 := ih (k + 1) (by omega) (by omega)
   simp only [Int.natCast_add, Int.natCast_one] at i1
   rw [i1]
   unfold refV1
   rw [show h.length - k = (h.length - (k + 1)) + 1 by omega, List.range'_succ, List.any_cons]
   have hd : dupAt h k = !decide (findD h h[k].2 = k) := by simp [dupAt, hlt]
   rw [hd]
   cases decide (findD h h[k].2 = k) <;> rfl
 · have : k = h.length := by omega
   subst this
   simp -implicitDefEqProofs (maxSteps := 4000000) (disch := omega) only [List.length_map, show ¬ ((h.length : Int) < (h.length : Int)) by omega, go_sem]
   simp [refV1]
def refV2 (h : List Due) (k : Nat) : AExit × St := if (List.range' k (h.length - k)).any (ordAt h) then (.ret, ⟨[(2, .d (.int .i64 11))], []⟩) else (.exit 4, ⟨[], []⟩)
theorem zvr (h : List Due) (hL : h.length ≤ 12) : ∀ k : Nat, 1 ≤ k → loopL G [] z5E ⟨[(0, .d (.sl (h.map eD))), (5, .d (.int .i64 k))], []⟩ = some (refV2 h k) := by
 refine zii (fun k => h.length - k) (fun k => 1 ≤ k) _ _ fun k hk L ih => ?_
 simp -implicitDefEqProofs (maxSteps := 4000000) (disch := omega) only [z5E, go_sem]
 by_cases hlt : k < h.length
 · have hq : IntKind.i64.wrap (((k : Int) - 1).tdiv 2) = (((k - 1) / 2 : Nat) : Int) := by
     rw [wrapN (by rw [Int.tdiv_eq_ediv_of_nonneg (by omega)]; omega) (by rw [Int.tdiv_eq_ediv_of_nonneg (by omega)]; omega), Int.tdiv_eq_ediv_of_nonneg (by omega)]; omega
   have hlt2 : (k - 1) / 2 < h.length := by omega
   have hb := zon h[k] h[(k - 1) / 2]
   simp -implicitDefEqProofs (maxSteps := 4000000) (disch := omega) only [List.length_map, show ((k : Int) < (h.length : Int)) by omega, show (((k - 1) / 2 : Nat) : Int) < (h.length : Int) by omega, wrapN (show -4294967296 ≤ (k : Int) - 1 by omega) (by omega), hq, hb, Int.natCast_nonneg, Int.toNat_natCast, List.getElem?_map, List.getElem?_eq_getElem hlt, List.getElem?_eq_getElem hlt2, zja, zjt, wrap1 hlt (show h.length ≤ LIM by simp [LIM]; omega), go_sem]
   have i1 := ih (k + 1) (by omega) (by omega)
   simp only [Int.natCast_add, Int.natCast_one] at i1
   rw [i1]
   unfold refV2
   rw [show h.length - k = (h.length - (k + 1)) + 1 by omega, List.range'_succ, List.any_cons]
   have hd : ordAt h k = lt h[k] h[(k - 1) / 2] := by simp [ordAt, hlt, hlt2]
   rw [hd]
   cases lt h[k] h[(k - 1) / 2] <;> rfl
 · simp -implicitDefEqProofs (maxSteps := 4000000) (disch := omega) only [List.length_map, show ¬ ((k : Int) < (h.length : Int)) by omega, go_sem]
   simp [refV2, show h.length - k = 0 by omega]
theorem zoq (h : List Due) (hL : h.length ≤ LIM) : callL G z1L [.d (.sl (h.map eD))] [] = some (.d (.int .i64 (validateD h)), []) := by
 rw [zie zeA (by simp)]; simp -implicitDefEqProofs (maxSteps := 4000000) (disch := omega) only [z9x, zdF, go_sem, Nat.zero_add]
 unfold validateD
 by_cases h12 : 12 < h.length
 · simp -implicitDefEqProofs (maxSteps := 4000000) (disch := omega) only [h12, List.length_map, show (12 < (h.length : Int)) by omega, go_sem]
 · have e0 := zvp h (by omega) 0 (by omega)
   have e1 := zvq h (by omega) 0 (by omega)
   have e2 := zvr h (by omega) 1 (by omega)
   simp only [Int.natCast_zero] at e0 e1
   simp only [Int.natCast_one] at e2
   have hlen : ¬ (12 < (h.length : Int)) := by omega
   cases hA : h.any (fun d => !validD d)
   · cases hB : (List.range' 0 h.length).any (dupAt h)
     · cases hC : (List.range' 1 (h.length - 1)).any (ordAt h) <;>
         simp -implicitDefEqProofs (maxSteps := 4000000) (disch := omega) only [h12, List.length_map, hlen, e0, e1, e2, refV0, refV1, refV2, List.drop_zero, Nat.sub_zero, hA, hB, hC, go_sem]
     · simp -implicitDefEqProofs (maxSteps := 4000000) (disch := omega) only [h12, List.length_map, hlen, e0, e1, refV0, refV1, List.drop_zero, Nat.sub_zero, hA, hB, go_sem]
   · simp -implicitDefEqProofs (maxSteps := 4000000) (disch := omega) only [h12, List.length_map, hlen, e0, refV0, List.drop_zero, hA, go_sem]
theorem setSame {h : List Due} {i j : Nat} (hi : i < h.length) (hj : j < h.length) : (((h.map eD).set i (eD h[j])).map AV.d)[j]? = some (.d (eD h[j])) := by
 rw [List.getElem?_map, List.getElem?_set]
 by_cases e : i = j
 · rw [if_pos e, if_pos (by simpa using hi)]; rfl
 · rw [if_neg e, List.getElem?_map, List.getElem?_eq_getElem hj]; rfl
theorem zvm (h : List Due) (i j : Nat) (hi : i < h.length) (hj : j < h.length) (hL : h.length ≤ 1000) : callL G z1P [.d (.sl (h.map eD)), .d (.int .i64 i), .d (.int .i64 j)] [] = some (.d (.sl ((swp h i j).map eD)), []) := by
 have hs := ziK h
 have h2 := setSame hi hj
 have hz : ¬ h.length = 0 := by omega
 unfold swp
 rw [getDT hi, getDT hj]
 have hl : (((h.map eD).set i (eD h[j])).set j (eD h[i])).length = h.length := by simp
 have ht : List.take h.length (((h.map eD).set i (eD h[j])).set j (eD h[i])) = ((h.map eD).set i (eD h[j])).set j (eD h[i]) := List.take_of_length_le (by rw [hl]; exact Nat.le_refl _)
 rw [zie zaK (by simp)]; simp -implicitDefEqProofs (maxSteps := 4000000) (disch := omega) only [z9B, zdJ, getDT, go_sem, *] /-A2-/
def refUpS (p : List Due × Nat) : St := ⟨[(0, .d (.sl (p.1.map eD))), (1, .d (.int .i64 p.2))], []⟩
theorem zvn : ∀ p : List Due × Nat, p.2 < p.1.length ∧ p.1.length ≤ 1000 → loopL G [] z5G (refUpS p) = some (.exit 0, ⟨[(0, .d (.sl ((upL p.1 p.2).1.map eD)))], []⟩) := by
 refine zii (fun p : List Due × Nat => p.2) (fun p : List Due × Nat => p.2 < p.1.length ∧ p.1.length ≤ 1000) refUpS _ fun ⟨l, i⟩ ⟨hi, hL⟩ L ih => ?_
 simp only [refUpS] at hi hL ih ⊢
 simp only [z5G]
 rw [upL]
 by_cases h0 : 0 < i
 · have hq : ((i : Int) - 1).tdiv 2 = (((i - 1) / 2 : Nat) : Int) := by rw [Int.tdiv_eq_ediv_of_nonneg (by omega)]; omega
   have hj : (i - 1) / 2 < l.length := by omega
   have hb := zon l[i] l[(i - 1) / 2]
   have hsw := zvm l i ((i - 1) / 2) hi hj hL
   have fin := ih (swp l i ((i - 1) / 2), (i - 1) / 2) ⟨by simp only [zik]; omega, by simp only [zik]; omega⟩ (by simp only; omega)
   simp only at fin
   rw [if_pos h0, getDT hi, getDT hj]
   have hsl := zik l i ((i - 1) / 2)
   generalize upL (swp l i ((i - 1) / 2)) ((i - 1) / 2) = r at *
   generalize swp l i ((i - 1) / 2) = sw at *
   clear ih
   cases hlt : lt l[i] l[(i - 1) / 2]
   · rw [hlt] at hb
     simp only [if_false, Bool.false_eq_true]
     clear hlt fin hsw
     simp -implicitDefEqProofs (maxSteps := 4000000) (disch := omega) only [getDT, go_sem, *] /-A3-/
   · rw [hlt] at hb
     simp only [if_true]
     clear hlt
     simp -implicitDefEqProofs (maxSteps := 4000000) (disch := omega) only [getDT, go_sem, *] /-A4-/
 · rw [if_neg h0]
   clear ih
   simp -implicitDefEqProofs (maxSteps := 4000000) (disch := omega) only [getDT, go_sem, *] /-A5-/
theorem zvo (h : List Due) (i : Nat) (hi : i < h.length) (hL : h.length ≤ 1000) : callL G z1Q [.d (.sl (h.map eD)), .d (.int .i64 i)] [] = some (.d (.sl ((upL h i).1.map eD)), []) := by
 have := zvn (h, i) ⟨hi, hL⟩
 simp only [refUpS] at this
 rw [zie zaL (by simp)]; simp -implicitDefEqProofs (maxSteps := 4000000) (disch := omega) only [z9C, zdK, go_sem, Nat.zero_add]
 simp -implicitDefEqProofs (maxSteps := 4000000) (disch := omega) only [this, go_sem]
theorem zvl (h : List Due) (d : Due) (hL : h.length ≤ LIM) : callL G z1K [.d (.sl (h.map eD)), .d (eD d)] [] = some (.d (eDE (pushD h d)), []) := by
 have hv := zoq h hL
 have hf := zoo h d.2 hL
 have hd := zop d
 have hs := ziK h
 have hL2 : h.length ≤ 4294967296 := hL
 unfold pushD pushE eDE
 by_cases h0 : validateD h = 0
 · have h12 := zl6 h0
   rw [h0] at hv
   simp only [h0, ne_eq, not_true_eq_false, if_false]
   clear h0
   cases h1 : validD d
   · rw [h1] at hd
     simp only [if_true, List.map_nil, show ((1 : Int) = 0) = False by simp, if_false]
     clear h1 hf
     rw [zie z2I (by simp)]; simp -implicitDefEqProofs (maxSteps := 4000000) (disch := omega) only [z0L, z10, getDT, go_sem, *] /-A6-/
   · rw [h1] at hd
     simp only [Bool.true_eq_false, if_false]
     clear h1
     by_cases h2 : h.length = 12
     · simp only [h2, if_true, List.map_nil, show ((3 : Int) = 0) = False by simp, if_false]
       clear hf
       rw [zie z2I (by simp)]; simp -implicitDefEqProofs (maxSteps := 4000000) (disch := omega) only [z0L, z10, getDT, go_sem, *] /-A7-/
     · simp only [h2, if_false]
       by_cases h3 : 0 ≤ findD h d.2
       · simp only [h3, if_true, List.map_nil, show ((10 : Int) = 0) = False by simp, if_false]
         rw [zie z2I (by simp)]; simp -implicitDefEqProofs (maxSteps := 4000000) (disch := omega) only [z0L, z10, getDT, go_sem, *] /-A8-/
       · simp only [h3, if_false, if_true]
         obtain ⟨l, hl⟩ : ∃ l, l = h ++ [d] := ⟨_, rfl⟩
         have e1 : h.map eD ++ [D.agg [.int .i64 d.1, .int .i64 d.2]] = l.map eD := by simp [eD, hl]
         have e2 : l.length = h.length + 1 := by simp [hl]
         have hu := zvo l h.length (by omega) (by omega)
         unfold pushL
         rw [← hl]
         have hul := zmf l h.length
         have hsl := ziK l
         generalize upL l h.length = r at *
         simp only [eD] at hd ⊢
         clear hl
         rw [zie z2I (by simp)]; simp -implicitDefEqProofs (maxSteps := 4000000) (disch := omega) only [z0L, z10, getDT, go_sem, *] /-A9-/
 · simp only [h0, ne_eq, not_false_eq_true, if_true, if_false, List.map_nil]
   clear hf hd
   rw [zie z2I (by simp)]; simp -implicitDefEqProofs (maxSteps := 4000000) (disch := omega) only [z0L, z10, getDT, go_sem, *] /-A10-/
end Go.Proofs.YtcjncbkhbllchaaGreat

namespace Go.Proofs.YtcjncbkhbllchaaGreat
open Go Go.Sim
set_option linter.unusedSimpArgs false
set_option linter.unusedVariables false
set_option maxHeartbeats 10000000
set_option maxRecDepth 40000
end Go.Proofs.YtcjncbkhbllchaaGreat

namespace Go.Proofs.YtcjncbkhbllchaaGreat
open Go Go.Sim
set_option linter.unusedSimpArgs false
set_option linter.unusedVariables false
set_option maxHeartbeats 10000000
set_option maxRecDepth 40000
end Go.Proofs.YtcjncbkhbllchaaGreat

namespace Go.Proofs.YtcjncbkhbllchaaGreat
open Go Go.Sim
set_option linter.unusedSimpArgs false
set_option linter.unusedVariables false
set_option maxHeartbeats 10000000
set_option maxRecDepth 40000
end Go.Proofs.YtcjncbkhbllchaaGreat
