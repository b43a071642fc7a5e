/-
  Sorting by insertion, and Until.
  Until, as the reference has it.
  Messages: both validate alike.
  Tables of leases: what is wrong with them.
  Tables of leases: what they find.
  Tables of leases: Validate of both.
  Tables of leases: both ways to validate agree.
  Copies of lists of leases and of items.
  Equality of structs and of lists.
  Equality of rings, tables, shards, stores, directories and arenas.
  The reader: bodies.
-/
import Derived.Test.YtcjncbkhbllchaaGreatB5513991
import Derived.Test.YtcjncbkhbllchaaGreatB90128e6
set_option linter.unusedSimpArgs false
set_option linter.unusedVariables false
namespace Go.Proofs.YtcjncbkhbllchaaGreat
open Go Go.Sim
set_option linter.unusedSimpArgs false
set_option linter.unusedVariables false
set_option maxHeartbeats 10000000
set_option maxRecDepth 40000
def Asc (l : List Due) (n : Nat) : Prop := ∀ p q, p < q → q < n → lt (l.getD q dz) (l.getD p dz) = false
def insL (l : List Due) (j : Nat) : List Due :=
 if 0 < j then (if lt (l.getD j dz) (l.getD (j - 1) dz) then insL (swp l j (j - 1)) (j - 1) else l) else l
termination_by j
theorem zjd (l : List Due) (j : Nat) : (insL l j).length = l.length := by
 fun_induction insL l j with
 | case1 l j h0 h1 ih => rw [ih, zik]
 | case2 => rfl
 | case3 => rfl
theorem zsU (l : List Due) (j i : Nat) (hi : i < l.length) (hj : j ≤ i) (h1 : ∀ p q, p < q → q ≤ i → p ≠ j → q ≠ j → lt (l.getD q dz) (l.getD p dz) = false) (h2 : ∀ q, j < q → q ≤ i → lt (l.getD q dz) (l.getD j dz) = false) : Asc (insL l j) (i + 1) ∧ (insL l j).Perm l := by
 fun_induction insL l j with
 | case1 l j h0 hlt ih =>
   have hs : ∀ k, (swp l j (j - 1)).getD k dz = if k = j - 1 then l.getD j dz else if k = j then l.getD (j - 1) dz else l.getD k dz := fun k => zma l j (j - 1) k (by omega) (by omega)
   have ih' := ih (by rw [zik]; exact hi) (by omega) (fun p q hpq hq hp hq2 => by
       rw [hs, hs]
       by_cases e1 : q = j
       · subst e1
         rw [if_neg (by omega), if_pos rfl, if_neg (by omega), if_neg (by omega)]
         exact h1 p (q - 1) (by omega) (by omega) (by omega) (by omega)
       · by_cases e2 : p = j
         · subst e2
           rw [if_neg (by omega), if_neg (by omega), if_neg (by omega), if_pos rfl]
           exact h1 (p - 1) q (by omega) hq (by omega) (by omega)
         · rw [if_neg (by omega), if_neg e1, if_neg (by omega), if_neg e2]
           exact h1 p q hpq hq e2 e1) (fun q hq1 hq2 => by
       rw [hs, hs, if_neg (by omega), if_pos rfl]
       by_cases e1 : q = j
       · rw [if_pos e1]; exact zjf hlt
       · rw [if_neg e1]; exact h2 q (by omega) hq2)
   exact ⟨ih'.1, ih'.2.trans (zmb l j (j - 1) (by omega) (by omega))⟩
 | case2 l j h0 hlt =>
   refine ⟨fun p q hpq hq => ?_, .refl _⟩
   have hjj : lt (l.getD j dz) (l.getD (j - 1) dz) = false := by simpa using hlt
   by_cases e1 : p = j
   · subst e1; exact h2 q hpq (by omega)
   · by_cases e2 : q = j
     · subst e2
       by_cases e3 : p = q - 1
       · subst e3; exact hjj
       · exact le_trans' (h1 p (q - 1) (by omega) (by omega) e1 (by omega)) hjj
     · exact h1 p q hpq (by omega) e1 e2
 | case3 l j h0 =>
   refine ⟨fun p q hpq hq => ?_, .refl _⟩
   by_cases e1 : p = j
   · subst e1; exact h2 q hpq (by omega)
   · exact h1 p q hpq (by omega) e1 (by omega)
def sortG (l : List Due) (i : Nat) : List Due := if i < l.length then sortG (insL l i) (i + 1) else l
termination_by l.length - i
decreasing_by rw [zjd]; omega
theorem zm7 (l : List Due) (i : Nat) (h : Asc l i) : Asc (sortG l i) l.length ∧ (sortG l i).Perm l := by
 fun_induction sortG l i with
 | case1 l i hi ih =>
   have := zsU l i i hi (by omega) (fun p q hpq hq _ hq2 => h p q hpq (by omega)) (fun q h1 h2 => by omega)
   have ih' := ih this.1
   rw [zjd] at ih'
   exact ⟨ih'.1, ih'.2.trans this.2⟩
 | case2 l i hi => exact ⟨fun p q hpq hq => h p q hpq (by omega), .refl _⟩
abbrev fcmp : AV := .d (.fn z0n [])
def insS (l : List Due) (i : Nat) (j : Nat) : St := ⟨[(0, .osl 1000000 0 l.length), (1, .d (.int .i64 0)), (2, .d (.int .i64 l.length)), (3, fcmp), (8, .d (.int .i64 i)), (9, .d (.int .i64 j)), (1000000, .ref 1000000 1 0)], [(1000000, rowL l)]⟩
theorem zsX (i : Nat) : ∀ p : List Due × Nat, p.2 < p.1.length ∧ p.1.length ≤ 1000 → loopL G [] z31 (insS p.1 i p.2) = some (.exit 2, ⟨[(0, .osl 1000000 0 p.1.length), (1, .d (.int .i64 0)), (2, .d (.int .i64 p.1.length)), (3, fcmp), (8, .d (.int .i64 i)), (1000000, .ref 1000000 1 0)], [(1000000, rowL (insL p.1 p.2))]⟩) := by
 refine zii (fun p : List Due × Nat => p.2) (fun p : List Due × Nat => p.2 < p.1.length ∧ p.1.length ≤ 1000) (fun p => insS p.1 i p.2) _ fun ⟨l, j⟩ ⟨hj, hL⟩ L ih => ?_
 simp only [insS, rowL, fcmp] at hj hL ih ⊢
 simp only [z31]
 rw [insL]
 by_cases h0 : 0 < j
 · have hj1 : j - 1 < l.length := by omega
   have t1 : ((j : Int) - 1) = ((j - 1 : Nat) : Int) := by omega
   have s1 := setSame hj hj1
   have hc := zmP l[j] l[j - 1]
   have hlt : lt (l.getD j (0, 0)) (l.getD (j - 1) (0, 0)) = decide (cmpD l[j] l[j - 1] < 0) := by rw [getDT hj, getDT hj1]; rfl
   have i1 := ih (swp l j (j - 1), j - 1) ⟨by simp only [zik]; omega, by simp only [zik]; omega⟩ (by simp only; omega)
   rw [if_pos h0]
   simp only [dz, hlt]
   simp only [zik] at i1
   have hil : (insL (swp l j (j - 1)) (j - 1)).length = l.length := by rw [zjd, zik]
   generalize insL (swp l j (j - 1)) (j - 1) = r at *
   unfold swp at i1
   rw [getDT hj, getDT hj1] at i1
   simp only [Int.natCast_add, Int.natCast_one, Int.natCast_zero, Int.natCast_mul, Int.cast_ofNat_Int, List.length_append, List.length_map, List.map_nil, List.length_nil, List.map_append, List.map_cons, List.length_cons, Nat.zero_add, srcO, mapSet] at i1
   clear ih hlt hil
   by_cases hcc : cmpD l[j] l[j - 1] < 0
   · rw [decide_eq_true hcc]
     simp only [if_true]
     simp -implicitDefEqProofs (maxSteps := 4000000) (disch := omega) only [getDT, go_sem, *] /-A0-/
   · rw [decide_eq_false hcc]
     simp only [if_false, Bool.false_eq_true]
     clear i1
     simp -implicitDefEqProofs (maxSteps := 4000000) (disch := omega) only [getDT, go_sem, *] /-A1-/
 · rw [if_neg h0]
   clear ih
   simp -implicitDefEqProofs (maxSteps := 4000000) (disch := omega) only [getDT, go_sem, *] /-A2-/
def isS (l : List Due) (i : Nat) : St := ⟨[(0, .osl 1000000 0 l.length), (1, .d (.int .i64 0)), (2, .d (.int .i64 l.length)), (3, fcmp), (8, .d (.int .i64 i)), (1000000, .ref 1000000 1 0)], [(1000000, rowL l)]⟩
theorem ztg : ∀ p : List Due × Nat, p.2 ≤ p.1.length ∧ p.1.length ≤ 1000 → loopL G [] z32 (isS p.1 p.2) = some (.exit 0, ⟨[(1000000, .ref 1000000 1 0)], [(1000000, rowL (sortG p.1 p.2))]⟩) := by
 refine zii (fun p : List Due × Nat => p.1.length - p.2) (fun p : List Due × Nat => p.2 ≤ p.1.length ∧ p.1.length ≤ 1000) (fun p => isS p.1 p.2) _ fun ⟨l, i⟩ ⟨hj, hL⟩ L ih => ?_
 simp only at hj hL
 simp only [z32, isS]
 rw [sortG]
 by_cases h0 : i < l.length
 · have h1 := zsX i (l, i) ⟨h0, hL⟩
   simp only [insS, rowL, fcmp] at h1
   have := ih (insL l i, i + 1) ⟨by simp only [zjd]; omega, by simp only [zjd]; omega⟩ (by simp only [zjd]; omega)
   simp only [isS, rowL, zjd, fcmp, Int.natCast_add, Int.natCast_one] at this
   simp -implicitDefEqProofs (maxSteps := 4000000) (disch := omega) only [go_sem, h1, this, h0, rowL]
 · simp -implicitDefEqProofs (maxSteps := 4000000) (disch := omega) only [go_sem, h0, rowL]
theorem zti (l : List Due) (h0 : 0 < l.length) (hL : l.length ≤ 1000) : callL G z0F [.osl 1000000 0 l.length, .d (.int .i64 0), .d (.int .i64 l.length), fcmp] [(1000000, rowL l)] = some (.d (.tup []), [(1000000, rowL (sortG l 1))]) := by
 have := ztg (l, 1) ⟨h0, hL⟩
 simp only [isS, rowL, fcmp, Int.natCast_one] at this
 rw [zie z7P (by simp)]; simp -implicitDefEqProofs (maxSteps := 4000000) (disch := omega) only [z6E, z8U, go_sem, rowL, this]
theorem zth : callL G z0F [.d (.sl []), .d (.int .i64 0), .d (.int .i64 0), fcmp] [] = some (.d (.tup []), []) := by
 rw [zie z7P (by simp)]; simp -implicitDefEqProofs (maxSteps := 4000000) (disch := omega) only [z6E, z8U, go_sem, fcmp]
 rw [ziy]
 simp only [z32]
 simp -implicitDefEqProofs (maxSteps := 4000000) (disch := omega) only [go_sem, fcmp]
theorem ztv (n : Nat) (h : n ≤ 12) : ∃ b : Int, callL G z1w [.d (.int .u64 n)] [] = some (.d (.int .i64 b), []) := by
 obtain rfl | rfl | rfl | rfl | rfl | rfl | rfl | rfl | rfl | rfl | rfl | rfl | rfl : n = 0 ∨ n = 1 ∨ n = 2 ∨ n = 3 ∨ n = 4 ∨ n = 5 ∨ n = 6 ∨ n = 7 ∨ n = 8 ∨ n = 9 ∨ n = 10 ∨ n = 11 ∨ n = 12 := by omega
 · exact ⟨0, by simp only [Int.natCast_zero, Int.natCast_one, Int.cast_ofNat_Int]; rw [zie zd (by simp)]; simp -implicitDefEqProofs (maxSteps := 4000000) (disch := omega) only [za, ze, go_sem, UInt8.toNat_ofNat, Nat.reducePow]⟩
 · exact ⟨1, by simp only [Int.natCast_zero, Int.natCast_one, Int.cast_ofNat_Int]; rw [zie zd (by simp)]; simp -implicitDefEqProofs (maxSteps := 4000000) (disch := omega) only [za, ze, go_sem, UInt8.toNat_ofNat, Nat.reducePow]⟩
 · exact ⟨2, by simp only [Int.natCast_zero, Int.natCast_one, Int.cast_ofNat_Int]; rw [zie zd (by simp)]; simp -implicitDefEqProofs (maxSteps := 4000000) (disch := omega) only [za, ze, go_sem, UInt8.toNat_ofNat, Nat.reducePow]⟩
 · exact ⟨2, by simp only [Int.natCast_zero, Int.natCast_one, Int.cast_ofNat_Int]; rw [zie zd (by simp)]; simp -implicitDefEqProofs (maxSteps := 4000000) (disch := omega) only [za, ze, go_sem, UInt8.toNat_ofNat, Nat.reducePow]⟩
 · exact ⟨3, by simp only [Int.natCast_zero, Int.natCast_one, Int.cast_ofNat_Int]; rw [zie zd (by simp)]; simp -implicitDefEqProofs (maxSteps := 4000000) (disch := omega) only [za, ze, go_sem, UInt8.toNat_ofNat, Nat.reducePow]⟩
 · exact ⟨3, by simp only [Int.natCast_zero, Int.natCast_one, Int.cast_ofNat_Int]; rw [zie zd (by simp)]; simp -implicitDefEqProofs (maxSteps := 4000000) (disch := omega) only [za, ze, go_sem, UInt8.toNat_ofNat, Nat.reducePow]⟩
 · exact ⟨3, by simp only [Int.natCast_zero, Int.natCast_one, Int.cast_ofNat_Int]; rw [zie zd (by simp)]; simp -implicitDefEqProofs (maxSteps := 4000000) (disch := omega) only [za, ze, go_sem, UInt8.toNat_ofNat, Nat.reducePow]⟩
 · exact ⟨3, by simp only [Int.natCast_zero, Int.natCast_one, Int.cast_ofNat_Int]; rw [zie zd (by simp)]; simp -implicitDefEqProofs (maxSteps := 4000000) (disch := omega) only [za, ze, go_sem, UInt8.toNat_ofNat, Nat.reducePow]⟩
 · exact ⟨4, by simp only [Int.natCast_zero, Int.natCast_one, Int.cast_ofNat_Int]; rw [zie zd (by simp)]; simp -implicitDefEqProofs (maxSteps := 4000000) (disch := omega) only [za, ze, go_sem, UInt8.toNat_ofNat, Nat.reducePow]⟩
 · exact ⟨4, by simp only [Int.natCast_zero, Int.natCast_one, Int.cast_ofNat_Int]; rw [zie zd (by simp)]; simp -implicitDefEqProofs (maxSteps := 4000000) (disch := omega) only [za, ze, go_sem, UInt8.toNat_ofNat, Nat.reducePow]⟩
 · exact ⟨4, by simp only [Int.natCast_zero, Int.natCast_one, Int.cast_ofNat_Int]; rw [zie zd (by simp)]; simp -implicitDefEqProofs (maxSteps := 4000000) (disch := omega) only [za, ze, go_sem, UInt8.toNat_ofNat, Nat.reducePow]⟩
 · exact ⟨4, by simp only [Int.natCast_zero, Int.natCast_one, Int.cast_ofNat_Int]; rw [zie zd (by simp)]; simp -implicitDefEqProofs (maxSteps := 4000000) (disch := omega) only [za, ze, go_sem, UInt8.toNat_ofNat, Nat.reducePow]⟩
 · exact ⟨4, by simp only [Int.natCast_zero, Int.natCast_one, Int.cast_ofNat_Int]; rw [zie zd (by simp)]; simp -implicitDefEqProofs (maxSteps := 4000000) (disch := omega) only [za, ze, go_sem, UInt8.toNat_ofNat, Nat.reducePow]⟩
theorem len_ok (n : Nat) (h : n ≤ 12) : ∃ b : Int, callL G z1v [.d (.int .u64 n)] [] = some (.d (.int .i64 b), []) := by
 obtain ⟨b, hb⟩ := ztv n h
 refine ⟨b, ?_⟩
 rw [zie zax (by simp)]; simp -implicitDefEqProofs (maxSteps := 4000000) (disch := omega) only [z9m, zdv, go_sem, hb]
theorem pdq_ok (l : List Due) (b : Int) (h0 : 0 < l.length) (hL : l.length ≤ 12) : callL G z0G [.osl 1000000 0 l.length, .d (.int .i64 0), .d (.int .i64 l.length), .d (.int .i64 b), fcmp] [(1000000, rowL l)] = some (.d (.tup []), [(1000000, rowL (sortG l 1))]) := by
 have := zti l h0 (by omega)
 simp only [rowL, fcmp] at this
 rw [zie z7Q (by simp)]; simp -implicitDefEqProofs (maxSteps := 4000000) (disch := omega) only [z6F, z8V, go_sem, this, rowL, fcmp]
 rw [ziy]
 simp only [z5R]
 simp -implicitDefEqProofs (maxSteps := 4000000) (disch := omega) only [go_sem, this, rowL, fcmp]
theorem zuY (b : Int) : callL G z0G [.d (.sl []), .d (.int .i64 0), .d (.int .i64 0), .d (.int .i64 b), fcmp] [] = some (.d (.tup []), []) := by
 have := zth
 simp only [fcmp] at this
 rw [zie z7Q (by simp)]; simp -implicitDefEqProofs (maxSteps := 4000000) (disch := omega) only [z6F, z8V, go_sem, this, fcmp]
 rw [ziy]
 simp only [z5R]
 simp -implicitDefEqProofs (maxSteps := 4000000) (disch := omega) only [go_sem, this, fcmp]
theorem zwp (l : List Due) (h0 : 0 < l.length) (hL : l.length ≤ 12) : callL G z0E [.osl 1000000 0 l.length, fcmp] [(1000000, rowL l)] = some (.d (.tup []), [(1000000, rowL (sortG l 1))]) := by
 obtain ⟨b, hb⟩ := len_ok l.length hL
 have := pdq_ok l b h0 hL
 simp only [rowL, fcmp] at this
 rw [zie z7O (by simp)]; simp -implicitDefEqProofs (maxSteps := 4000000) (disch := omega) only [z6D, z8T, go_sem, hb, this, rowL, fcmp]
theorem zwo : callL G z0E [.d (.sl []), fcmp] [] = some (.d (.tup []), []) := by
 obtain ⟨b, hb⟩ := len_ok 0 (by omega)
 have := zuY b
 simp only [Int.natCast_zero, fcmp] at this hb
 rw [zie z7O (by simp)]; simp -implicitDefEqProofs (maxSteps := 4000000) (disch := omega) only [z6D, z8T, go_sem, hb, this, fcmp]
def dueIds (now : Int) (l : List Due) : List Int := (l.filter fun d => decide (d.1 ≤ now)).map (·.2)
def untilD (h : List Due) (now : Int) : List Int := if validateD h = 0 then dueIds now (sortG h 1) else []
def untilS (l : List Due) (now : Int) (k : Nat) (out : List Int) : St := ⟨[(1, .d (.int .i64 now)), (6, .acc 6 (ints out)), (16, .osl 13 0 l.length), (17, .d (.int .i64 l.length)), (18, .d (.int .i64 k))], [(6, .acc out.length), (13, rowL l)]⟩
theorem zwV (l : List Due) (now : Int) (hL : l.length ≤ 12) : ∀ k, k ≤ l.length → loopL G [] z2Q (untilS l now k (dueIds now (l.take k))) = some (.exit 0, ⟨[(6, .acc 6 (ints (dueIds now l)))], [(6, .acc (dueIds now l).length)]⟩) := by
 refine zii (fun k => l.length - k) (fun k => k ≤ l.length) (fun k => untilS l now k (dueIds now (l.take k))) _ fun k hk L ih => ?_
 simp only [z2Q, untilS, rowL] at ih ⊢
 by_cases h0 : k < l.length
 · have hg := rowGet l k h0
   have hlen : (dueIds now (l.take k)).length ≤ 12 := by
     have := List.length_filter_le (fun d : Due => decide (d.1 ≤ now)) (l.take k)
     simp only [dueIds, List.length_map]; rw [List.length_take] at this; omega
   have e1 : dueIds now (l.take (k + 1)) = if l[k].1 ≤ now then dueIds now (l.take k) ++ [l[k].2] else dueIds now (l.take k) := by
     rw [List.take_succ_eq_append_getElem h0]
     unfold dueIds
     rw [List.filter_append, List.map_append]
     by_cases hc : l[k].1 ≤ now <;> simp [hc]
   have := ih (k + 1) (by omega) (by omega)
   rw [e1] at this
   have e2 : l.getD k (0, 0) = l[k] := by simp [h0]
   rw [e2] at hg
   obtain ⟨ds, hds⟩ : ∃ ds, ds = dueIds now (l.take k) := ⟨_, rfl⟩
   rw [← hds] at this hlen ⊢
   by_cases hc : l[k].1 ≤ now
   · rw [if_pos hc] at this
     simp only [ints, List.map_append, List.map_cons, List.map_nil, List.length_append, List.length_cons, List.length_nil, Int.natCast_add, Int.natCast_one, Nat.zero_add] at this
     simp -implicitDefEqProofs (maxSteps := 4000000) (disch := omega) only [go_sem, hg, eD, hc, zkl, this]
   · rw [if_neg hc] at this
     simp only [Int.natCast_add, Int.natCast_one] at this
     simp -implicitDefEqProofs (maxSteps := 4000000) (disch := omega) only [go_sem, hg, eD, hc, zkl, this]
 · have : k = l.length := by omega
   subst this
   simp -implicitDefEqProofs (maxSteps := 4000000) (disch := omega) only [go_sem, List.take_length]
theorem zoY (h : List Due) (now : Int) (hL : h.length ≤ LIM) (h0 : validateD h = 0) : callL G zo [.d (.sl (h.map eD)), .d (.int .i64 now)] [] = some (.acc 0 (ints (untilD h now)), [(0, .acc (untilD h now).length)]) := by
 have hv := zl7 h hL
 unfold untilD
 rw [if_pos h0]
 have h12 := zl6 h0
 have hc := zlm (h.map eD) (ziK h) (by simpa using hL)
 have hsl := (zm7 h 1 (fun p q hp hq => by omega)).2.length_eq
 have hl := zwV (sortG h 1) now (by omega) 0 (by omega)
 simp only [untilS, dueIds, List.take_zero, List.filter_nil, List.map_nil, List.length_nil, rowL, hsl, ints, Int.natCast_zero] at hl
 by_cases he : h = []
 · subst he
   have hs := zwo
   have e0 : sortG [] 1 = [] := by rw [sortG]; simp
   simp only [fcmp] at hs
   simp only [List.map_nil] at hv hc ⊢
   rw [e0]
   rw [zie zah (by simp)]; simp -implicitDefEqProofs (maxSteps := 4000000) (disch := omega) only [z6m, z8B, go_sem, hv, hc, hs, h0, fcmp]
   rw [ziy]
   simp only [z2Q]
   simp -implicitDefEqProofs (maxSteps := 4000000) (disch := omega) only [go_sem, Nat.zero_add]
   rfl
 · have hs := zwp h (List.length_pos_iff.2 he) h12
   simp only [rowL, fcmp] at hs
   have hne : h.length ≠ 0 := by simpa using he
   have e4 : List.take h.length (List.map AV.d (List.map eD h)) = List.map AV.d (List.map eD h) := rowAll h
   rw [zie zah (by simp)]; simp -implicitDefEqProofs (maxSteps := 4000000) (disch := omega) only [z6m, z8B, go_sem, hv, hc, hs, h0, hl, e4, hne]
   simp only [ints, dueIds, List.length_map]
end Go.Proofs.YtcjncbkhbllchaaGreat

namespace Go.Proofs.YtcjncbkhbllchaaGreat
open Go Go.Sim
set_option linter.unusedSimpArgs false
set_option linter.unusedVariables false
set_option maxHeartbeats 10000000
set_option maxRecDepth 40000
end Go.Proofs.YtcjncbkhbllchaaGreat

namespace Go.Proofs.YtcjncbkhbllchaaGreat
open Go Go.Sim
set_option linter.unusedSimpArgs false
set_option linter.unusedVariables false
set_option maxHeartbeats 10000000
set_option maxRecDepth 40000
theorem min_ok (n lo hi : Int) : callL G z1z [.d (.int .i64 n), .d (.int .i64 lo), .d (.int .i64 hi)] [] = some (.d (.bool (decide (lo ≤ n ∧ n ≤ hi))), []) := by
 by_cases h : lo ≤ n
 · by_cases h2 : n ≤ hi
   · rw [decide_eq_true ⟨h, h2⟩]
     rw [zie z5c (by simp)]; simp -implicitDefEqProofs (maxSteps := 4000000) (disch := omega) only [z3g, z60, getDT, go_sem, *] /-A0-/
   · rw [decide_eq_false (by omega)]
     rw [zie z5c (by simp)]; simp -implicitDefEqProofs (maxSteps := 4000000) (disch := omega) only [z3g, z60, getDT, go_sem, *] /-A1-/
 · rw [decide_eq_false (by omega)]
   rw [zie z5c (by simp)]; simp -implicitDefEqProofs (maxSteps := 4000000) (disch := omega) only [z3g, z60, getDT, go_sem, *] /-A2-/
theorem zjG (n lo hi : Int) : callL G z1E [.d (.int .i64 n), .d (.int .i64 lo), .d (.int .i64 hi)] [] = some (.d (.bool (decide (lo ≤ n ∧ n ≤ hi))), []) := by
 by_cases h : lo ≤ n
 · by_cases h2 : n ≤ hi
   · rw [decide_eq_true ⟨h, h2⟩]
     rw [zie z5d (by simp)]; simp -implicitDefEqProofs (maxSteps := 4000000) (disch := omega) only [z3k, z64, getDT, go_sem, *] /-A3-/
   · rw [decide_eq_false (by omega)]
     rw [zie z5d (by simp)]; simp -implicitDefEqProofs (maxSteps := 4000000) (disch := omega) only [z3k, z64, getDT, go_sem, *] /-A4-/
 · rw [decide_eq_false (by omega)]
   rw [zie z5d (by simp)]; simp -implicitDefEqProofs (maxSteps := 4000000) (disch := omega) only [z3k, z64, getDT, go_sem, *] /-A5-/
theorem zud (m : Message) (e : Int) : callL G zp [.d (eMessage m), .d (.int .i64 e)] [] = some (.d (.bool (decide (m.epoch < e))), []) := by
 rw [zie zay (by simp)]; simp -implicitDefEqProofs (maxSteps := 4000000) (disch := omega) only [z6o, z8D, getDT, go_sem, *] /-A6-/
def msgV (m : Message) : Int :=
 if 1 ≤ m.id ∧ m.id ≤ 1073741824 ∧ 0 ≤ m.route ∧ m.route ≤ 65535 ∧ 0 ≤ m.epoch ∧ m.epoch ≤ 65536 ∧ 0 ≤ m.count ∧ m.count ≤ 8 ∧ m.count ≤ m.gen ∧ m.gen ≤ 65536 ∧ 0 ≤ m.sent ∧ m.sent ≤ 1073741824 then (if 16 < m.body.length then 2 else 0) else 1
theorem zjC (m : Message) : callL G zE [.d (eMessage m)] [] = some (.d (.int .i64 (msgV m)), []) := by
 have i1 := min_ok m.id 1 1073741824
 have i2 := min_ok m.route 0 65535
 have i3 := min_ok m.epoch 0 65536
 have i4 := min_ok m.count 0 8
 have i5 := min_ok m.gen m.count 65536
 have i6 := min_ok m.sent 0 1073741824
 unfold msgV
 split
 · split
   · rw [zie z7u (by simp)]; simp -implicitDefEqProofs (maxSteps := 4000000) (disch := omega) only [z3f, z5Z, getDT, go_sem, *] /-A8-/
   · rw [zie z7u (by simp)]; simp -implicitDefEqProofs (maxSteps := 4000000) (disch := omega) only [z3f, z5Z, getDT, go_sem, *] /-A9-/
 · rw [zie z7u (by simp)]; simp -implicitDefEqProofs (maxSteps := 4000000) (disch := omega) only [z3f, z5Z, getDT, go_sem, *]; (try simp only [pA, pB, pC, pD, pE, pF, pG, pH, pI, pJ, pK, pL, pM, pN, pO, pP, if_true, if_false]); repeat' (first | done | rfl | ((first | refine iteC (fun hq => ?_) (fun hq => ?_) | refine iteP (fun hq => ?_) (fun hq => ?_)) <;> (try (first | (exfalso; omega) | contradiction)) <;> (try simp -implicitDefEqProofs (maxSteps := 4000000) (disch := omega) only [getDT, go_sem, *]) <;> (try simp only [pA, pB, pC, pD, pE, pF, pG, pH, pI, pJ, pK, pL, pM, pN, pO, pP, if_true, if_false]))); (all_goals try rfl); (all_goals try (repeat' (first | done | rfl | (exfalso; omega) | contradiction | (refine iteR (fun hq => ?_) (fun hq => ?_))))) /-A10-/
theorem zkN (m : Message) : callL G z0r [.d (eMessage m)] [] = some (.d (.int .i64 (msgV m)), []) := by
 have i1 := zjG m.id 1 1073741824
 have i2 := zjG m.route 0 65535
 have i3 := zjG m.epoch 0 65536
 have i4 := zjG m.count 0 8
 have i5 := zjG m.gen m.count 65536
 have i6 := zjG m.sent 0 1073741824
 unfold msgV
 split
 · split
   · rw [zie z7y (by simp)]; simp -implicitDefEqProofs (maxSteps := 4000000) (disch := omega) only [z3j, z63, getDT, go_sem, *] /-A11-/
   · rw [zie z7y (by simp)]; simp -implicitDefEqProofs (maxSteps := 4000000) (disch := omega) only [z3j, z63, getDT, go_sem, *] /-A12-/
 · rw [zie z7y (by simp)]; simp -implicitDefEqProofs (maxSteps := 4000000) (disch := omega) only [z3j, z63, getDT, go_sem, *]; (try simp only [pA, pB, pC, pD, pE, pF, pG, pH, pI, pJ, pK, pL, pM, pN, pO, pP, if_true, if_false]); repeat' (first | done | rfl | ((first | refine iteC (fun hq => ?_) (fun hq => ?_) | refine iteP (fun hq => ?_) (fun hq => ?_)) <;> (try (first | (exfalso; omega) | contradiction)) <;> (try simp -implicitDefEqProofs (maxSteps := 4000000) (disch := omega) only [getDT, go_sem, *]) <;> (try simp only [pA, pB, pC, pD, pE, pF, pG, pH, pI, pJ, pK, pL, pM, pN, pO, pP, if_true, if_false]))); (all_goals try rfl); (all_goals try (repeat' (first | done | rfl | (exfalso; omega) | contradiction | (refine iteR (fun hq => ?_) (fun hq => ?_))))) /-A13-/
end Go.Proofs.YtcjncbkhbllchaaGreat

namespace Go.Proofs.YtcjncbkhbllchaaGreat
open Go Go.Sim
set_option linter.unusedSimpArgs false
set_option linter.unusedVariables false
set_option maxHeartbeats 10000000
set_option maxRecDepth 40000
theorem zlG (n : Int) : callL G zY [.d (.int .i64 n)] [] = some (.d (.bool (decide (0 ≤ n ∧ n ≤ 1073741824))), []) := by
 by_cases h : 0 ≤ n
 · by_cases h2 : n ≤ 1073741824
   · rw [decide_eq_true ⟨h, h2⟩]
     rw [zie z7t (by simp)]; simp -implicitDefEqProofs (maxSteps := 4000000) (disch := omega) only [z3e, z5Y, getDT, go_sem, *] /-A0-/
   · rw [decide_eq_false (by omega)]
     rw [zie z7t (by simp)]; simp -implicitDefEqProofs (maxSteps := 4000000) (disch := omega) only [z3e, z5Y, getDT, go_sem, *] /-A1-/
 · rw [decide_eq_false (by omega)]
   rw [zie z7t (by simp)]; simp -implicitDefEqProofs (maxSteps := 4000000) (disch := omega) only [z3e, z5Y, getDT, go_sem, *] /-A2-/
def leaseE (l : List Lease) (i : Nat) : Int :=
 if msgV (l.getD i zLease).msg ≠ 0 then msgV (l.getD i zLease).msg
 else if (l.getD i zLease).msg.gen = 0 then 7
 else if (l.getD i zLease).deadline < 0 ∨ 1073741824 < (l.getD i zLease).deadline then 1
 else if 0 < i ∧ (l.getD i zLease).msg.id ≤ (l.getD (i - 1) zLease).msg.id then 11 else 0
def leaseB (l : List Lease) (i : Nat) : Bool := decide (leaseE l i ≠ 0)
def obT (o : Nat) (t : Table) : Nat × Go.Sim.Obj := (o, .row [.d (eTable t)])
theorem ztP (t : Table) (hL : t.l.length ≤ 12) : loopL G [] z5u ⟨[(1, .ref 1 0 0), (12, .d (.sl (t.l.map eLease))), (13, .d (.int .i64 t.l.length)), (14, .d (.int .i64 0))], [obT 1 t]⟩ = some (findR t.l.length (leaseB t.l) (fun k => (.ret, ⟨[(2, .d (.int .i64 (leaseE t.l k)))], []⟩)) (.exit 0, ⟨[(1, .ref 1 0 0)], [obT 1 t]⟩)) := by
 refine zj4 (G := G) t.l.length (leaseB t.l) (fun k => ⟨[(1, .ref 1 0 0), (12, .d (.sl (t.l.map eLease))), (13, .d (.int .i64 t.l.length)), (14, .d (.int .i64 k))], [obT 1 t]⟩) _ _ fun k hk L => ?_
 simp only [z5u, obT]
 by_cases h0 : k < t.l.length
 · rw [if_pos h0]
   have hm := zjC t.l[k].msg
   have ht := zlG t.l[k].deadline
   simp only [eMessage] at hm
   unfold leaseB leaseE
   rw [getDT h0]
   by_cases c1 : msgV t.l[k].msg = 0
   · rw [c1] at hm
     simp only [c1, ne_eq, not_true_eq_false, if_false]
     by_cases c2 : t.l[k].msg.gen = 0
     · simp only [c2, if_true, show ((7 : Int) = 0) = False by simp, not_false_eq_true, decide_true]
       clear ht
       rw [c2] at hm
       simp -implicitDefEqProofs (maxSteps := 4000000) (disch := omega) only [getDT, go_sem, *] /-A3-/
     · simp only [c2, if_false]
       by_cases c3 : t.l[k].deadline < 0 ∨ 1073741824 < t.l[k].deadline
       · rw [decide_eq_false (by omega)] at ht
         simp only [c3, if_true, show ((1 : Int) = 0) = False by simp, not_false_eq_true, decide_true]
         simp -implicitDefEqProofs (maxSteps := 4000000) (disch := omega) only [getDT, go_sem, *] /-A4-/
       · rw [decide_eq_true (by omega)] at ht
         simp only [c3, if_false]
         by_cases c4 : 0 < k
         · have hk1 : k - 1 < t.l.length := by omega
           have e1 : (k : Int) - 1 = ((k - 1 : Nat) : Int) := by omega
           rw [getDT hk1]
           by_cases c5 : t.l[k].msg.id ≤ t.l[k - 1].msg.id
           · simp only [c4, c5, and_self, if_true, show ((11 : Int) = 0) = False by simp, not_false_eq_true, decide_true]
             simp -implicitDefEqProofs (maxSteps := 4000000) (disch := omega) only [getDT, go_sem, *] /-A5-/
           · simp only [c4, c5, and_false, if_false, not_true_eq_false, decide_false, Bool.false_eq_true]
             simp -implicitDefEqProofs (maxSteps := 4000000) (disch := omega) only [getDT, go_sem, *] /-A6-/
         · simp only [c4, false_and, if_false, not_true_eq_false, decide_false, Bool.false_eq_true]
           simp -implicitDefEqProofs (maxSteps := 4000000) (disch := omega) only [getDT, go_sem, *] /-A7-/
   · simp only [c1, ne_eq, not_false_eq_true, if_true, decide_true]
     clear ht
     simp -implicitDefEqProofs (maxSteps := 4000000) (disch := omega) only [getDT, go_sem, *] /-A8-/
 · rw [if_neg h0]
   simp -implicitDefEqProofs (maxSteps := 4000000) (disch := omega) only [getDT, go_sem, *] /-A9-/
theorem zve (t : Table) (hL : t.l.length ≤ 12) : loopL G [] z5I ⟨[(1, .ref 1 0 0), (3, .d (.int .i64 0))], [obT 1 t]⟩ = some (findR t.l.length (leaseB t.l) (fun k => (.ret, ⟨[(2, .d (.int .i64 (leaseE t.l k)))], []⟩)) (.exit 0, ⟨[(1, .ref 1 0 0)], [obT 1 t]⟩)) := by
 refine zj4 (G := G) t.l.length (leaseB t.l) (fun k => ⟨[(1, .ref 1 0 0), (3, .d (.int .i64 k))], [obT 1 t]⟩) _ _ fun k hk L => ?_
 simp only [z5I, obT]
 by_cases h0 : k < t.l.length
 · rw [if_pos h0]
   have hm := zkN t.l[k].msg
   simp only [eMessage] at hm
   unfold leaseB leaseE
   rw [getDT h0]
   by_cases c1 : msgV t.l[k].msg = 0
   · rw [c1] at hm
     simp only [c1, ne_eq, not_true_eq_false, if_false]
     by_cases c2 : t.l[k].msg.gen = 0
     · simp only [c2, if_true, show ((7 : Int) = 0) = False by simp, not_false_eq_true, decide_true]
       rw [c2] at hm
       simp -implicitDefEqProofs (maxSteps := 4000000) (disch := omega) only [getDT, go_sem, *] /-A10-/
     · simp only [c2, if_false]
       by_cases c3 : t.l[k].deadline < 0 ∨ 1073741824 < t.l[k].deadline
       · skip
         simp only [c3, if_true, show ((1 : Int) = 0) = False by simp, not_false_eq_true, decide_true]
         (try simp -implicitDefEqProofs (maxSteps := 4000000) (disch := omega) only [getDT, go_sem, *]); (try simp only [pA, pB, pC, pD, pE, pF, pG, pH, pI, pJ, pK, pL, pM, pN, pO, pP, if_true, if_false]); repeat' (first | done | rfl | ((first | refine iteC (fun hq => ?_) (fun hq => ?_) | refine iteP (fun hq => ?_) (fun hq => ?_)) <;> (try (first | (exfalso; omega) | contradiction)) <;> (try simp -implicitDefEqProofs (maxSteps := 4000000) (disch := omega) only [getDT, go_sem, *]) <;> (try simp only [pA, pB, pC, pD, pE, pF, pG, pH, pI, pJ, pK, pL, pM, pN, pO, pP, if_true, if_false]))); (all_goals try rfl); (all_goals try (repeat' (first | done | rfl | (exfalso; omega) | contradiction | (refine iteR (fun hq => ?_) (fun hq => ?_))))) /-A11-/
       · skip
         simp only [c3, if_false]
         by_cases c4 : 0 < k
         · have hk1 : k - 1 < t.l.length := by omega
           have e1 : (k : Int) - 1 = ((k - 1 : Nat) : Int) := by omega
           rw [getDT hk1]
           by_cases c5 : t.l[k].msg.id ≤ t.l[k - 1].msg.id
           · simp only [c4, c5, and_self, if_true, show ((11 : Int) = 0) = False by simp, not_false_eq_true, decide_true]
             simp -implicitDefEqProofs (maxSteps := 4000000) (disch := omega) only [getDT, go_sem, *] /-A12-/
           · simp only [c4, c5, and_false, if_false, not_true_eq_false, decide_false, Bool.false_eq_true]
             simp -implicitDefEqProofs (maxSteps := 4000000) (disch := omega) only [getDT, go_sem, *] /-A13-/
         · simp only [c4, false_and, if_false, not_true_eq_false, decide_false, Bool.false_eq_true]
           simp -implicitDefEqProofs (maxSteps := 4000000) (disch := omega) only [getDT, go_sem, *] /-A14-/
   · simp only [c1, ne_eq, not_false_eq_true, if_true, decide_true]
     simp -implicitDefEqProofs (maxSteps := 4000000) (disch := omega) only [getDT, go_sem, *] /-A15-/
 · rw [if_neg h0]
   simp -implicitDefEqProofs (maxSteps := 4000000) (disch := omega) only [getDT, go_sem, *] /-A16-/
end Go.Proofs.YtcjncbkhbllchaaGreat

namespace Go.Proofs.YtcjncbkhbllchaaGreat
open Go Go.Sim
set_option linter.unusedSimpArgs false
set_option linter.unusedVariables false
set_option maxHeartbeats 10000000
set_option maxRecDepth 40000
theorem zwc (h : List Due) (d : Due) (hL : h.length ≤ 4294967296) : callL G z2u [.d (.sl (h.map eD)), .d (eD d)] [] = some (.d (.int .i64 (idxI (fun x => decide (x = d)) h)), []) := by
 have hl := zj4 (G := G) (x := z8n) (ks := []) h.length (atB h fun x => decide (x = d)) (fun k => ⟨[(0, .d (.sl (h.map eD))), (3, .ref 3 0 0), (7, .d (.int .i64 h.length)), (8, .d (.int .i64 k))], [(3, .row [.d (eD d)])]⟩) (fun k => (.ret, ⟨[(4, .d (.int .i64 k))], []⟩)) (.exit 0, ⟨[], []⟩) (fun k hk L => by
   simp only [z8n]
   by_cases h0 : k < h.length
   · simp only [h0, if_true, atB_at h0]
     have e : decide (h[k] = d) = (decide (h[k].1 = d.1) && decide (h[k].2 = d.2)) := by
       rw [← Bool.decide_and]
       congr 1
       exact propext ⟨fun e => by rw [e]; exact ⟨rfl, rfl⟩, fun ⟨a, b⟩ => Prod.ext a b⟩
     rw [e]
     clear e
     by_cases q1 : h[k].1 = d.1
     · by_cases q2 : h[k].2 = d.2
       · simp only [q1, q2, decide_true, Bool.and_self, if_true]
         simp only [eD]
         simp -implicitDefEqProofs (maxSteps := 4000000) (disch := omega) only [eD, getDT, go_sem, *] /-A0-/
       · simp only [q1, q2, decide_true, decide_false, Bool.and_false, Bool.false_eq_true, if_false]
         simp only [eD]
         simp -implicitDefEqProofs (maxSteps := 4000000) (disch := omega) only [eD, getDT, go_sem, *] /-A1-/
     · simp only [q1, decide_false, Bool.false_and, Bool.false_eq_true, if_false]
       simp only [eD]
       simp -implicitDefEqProofs (maxSteps := 4000000) (disch := omega) only [eD, getDT, go_sem, *] /-A2-/
   · simp -implicitDefEqProofs (maxSteps := 4000000) (disch := omega) only [getDT, go_sem, *] /-A3-/)
 rw [zjw] at hl
 simp only [Int.natCast_add, Int.natCast_one, Int.natCast_zero, Int.natCast_mul, Int.cast_ofNat_Int, List.length_append, List.length_map, List.map_nil, List.length_nil, List.map_append, List.map_cons, List.length_cons, Nat.zero_add, srcO, mapSet] at hl
 unfold idxI
 cases hf : h.findIdx? (fun x => decide (x = d)) with
 | none => rw [hf] at hl; clear hf; rw [zie z7L (by simp)]; simp -implicitDefEqProofs (maxSteps := 4000000) (disch := omega) only [z3u, z8R, getDT, go_sem, *] /-A4-/
 | some i => rw [hf] at hl; clear hf; rw [zie z7L (by simp)]; simp -implicitDefEqProofs (maxSteps := 4000000) (disch := omega) only [z3u, z8R, getDT, go_sem, *] /-A5-/
theorem zw4 (h : List Due) (d : Due) (hL : h.length ≤ 4294967296) : callL G z2p [.d (.sl (h.map eD)), .d (eD d)] [] = some (.d (.bool (h.any fun x => decide (x = d))), []) := by
 have hi := zwc h d hL
 rw [← zkD]
 rw [zie zba (by simp)]; simp -implicitDefEqProofs (maxSteps := 4000000) (disch := omega) only [za3, zeb, getDT, go_sem, *] /-A6-/
def findL (l : List Lease) (id : Int) : Int := idxI (fun x => decide (x.msg.id = id)) l
theorem zok (t : Table) (id : Int) (hL : t.l.length ≤ 4294967296) : callL G z1T [.d (eTable t), .d (.int .i64 id)] [] = some (.d (.int .i64 (findL t.l id)), []) := by
 have hl := zj4 (G := G) (x := z5J) (ks := []) t.l.length (atB t.l fun x => decide (x.msg.id = id)) (fun k => ⟨[(1, .d (.int .i64 id)), (2, .ref 2 0 0), (5, .d (.int .i64 k))], [obT 2 t]⟩) (fun k => (.ret, ⟨[(4, .d (.int .i64 k))], []⟩)) (.exit 0, ⟨[], []⟩) (fun k hk L => by
   simp only [z5J, obT]
   by_cases h0 : k < t.l.length
   · simp only [h0, if_true, atB_at h0]
     simp -implicitDefEqProofs (maxSteps := 4000000) (disch := omega) only [getDT, go_sem, *] /-A7-/
   · simp -implicitDefEqProofs (maxSteps := 4000000) (disch := omega) only [getDT, go_sem, *] /-A8-/)
 rw [zjw] at hl
 simp only [obT] at hl
 simp only [Int.natCast_add, Int.natCast_one, Int.natCast_zero, Int.natCast_mul, Int.cast_ofNat_Int, List.length_append, List.length_map, List.map_nil, List.length_nil, List.map_append, List.map_cons, List.length_cons, Nat.zero_add, srcO, mapSet] at hl
 unfold findL idxI
 cases hf : t.l.findIdx? (fun x => decide (x.msg.id = id)) with
 | none => rw [hf] at hl; clear hf; rw [zie zaM (by simp)]; simp -implicitDefEqProofs (maxSteps := 4000000) (disch := omega) only [z6r, z8G, getDT, go_sem, *] /-A9-/
 | some i => rw [hf] at hl; clear hf; rw [zie zaM (by simp)]; simp -implicitDefEqProofs (maxSteps := 4000000) (disch := omega) only [z6r, z8G, getDT, go_sem, *] /-A10-/
def matchP (t : Table) : Bool := decide (t.heap.length = t.l.length) && t.l.all fun x => t.heap.any fun d => decide (d = (x.deadline, x.msg.id))
theorem zu0 (t : Table) (hL : t.l.length ≤ 4294967296) (hH : t.heap.length ≤ 4294967296) : callL G z1t [.d (eTable t)] [] = some (.d (.bool (matchP t)), []) := by
 unfold matchP
 by_cases c : t.heap.length = t.l.length
 · rw [decide_eq_true c]
   have hl := znL (G := G) (x := z5v) (ks := []) t.l.length (atB t.l fun x => t.heap.any fun d => decide (d = (x.deadline, x.msg.id))) (fun k => ⟨[(1, .ref 1 0 0), (13, .d (.sl (t.l.map eLease))), (14, .d (.int .i64 t.l.length)), (15, .d (.int .i64 k))], [obT 1 t]⟩) (.ret, ⟨[(2, .d (.bool false))], []⟩) (.exit 0, ⟨[], []⟩) (fun k hk L => by
     simp only [z5v, obT]
     by_cases h0 : k < t.l.length
     · simp only [h0, if_true, atB_at h0]
       have hc := zw4 t.heap (t.l[k].deadline, t.l[k].msg.id) hH
       simp only [eD] at hc
       generalize (t.heap.any fun d => decide (d = (t.l[k].deadline, t.l[k].msg.id))) = z at *
       cases z
       · simp -implicitDefEqProofs (maxSteps := 4000000) (disch := omega) only [getDT, go_sem, *] /-A11-/
       · simp -implicitDefEqProofs (maxSteps := 4000000) (disch := omega) only [getDT, go_sem, *] /-A12-/
     · simp -implicitDefEqProofs (maxSteps := 4000000) (disch := omega) only [getDT, go_sem, *] /-A13-/)
   have e : (List.range t.l.length).all (atB t.l fun x => t.heap.any fun d => decide (d = (x.deadline, x.msg.id))) = t.l.all fun x => t.heap.any fun d => decide (d = (x.deadline, x.msg.id)) := by
     rw [Bool.eq_iff_iff, List.all_eq_true, List.all_eq_true]
     constructor
     · intro h x hx
       obtain ⟨i, hi, rfl⟩ := List.getElem_of_mem hx
       have := h i (List.mem_range.2 hi)
       rwa [atB_at hi] at this
     · intro h i hi
       rw [atB_at (List.mem_range.1 hi)]
       exact h _ (List.getElem_mem _)
   rw [e] at hl
   simp only [obT] at hl
   simp only [Int.natCast_add, Int.natCast_one, Int.natCast_zero, Int.natCast_mul, Int.cast_ofNat_Int, List.length_append, List.length_map, List.map_nil, List.length_nil, List.map_append, List.map_cons, List.length_cons, Nat.zero_add, srcO, mapSet] at hl
   generalize (t.l.all fun x => t.heap.any fun d => decide (d = (x.deadline, x.msg.id))) = z at *
   cases z
   · simp only [Bool.false_eq_true, if_false] at hl
     rw [zie z5b (by simp)]; simp -implicitDefEqProofs (maxSteps := 4000000) (disch := omega) only [z3d, z5X, getDT, go_sem, *] /-A14-/
   · simp only [if_true] at hl
     rw [zie z5b (by simp)]; simp -implicitDefEqProofs (maxSteps := 4000000) (disch := omega) only [z3d, z5X, getDT, go_sem, *] /-A15-/
 · rw [decide_eq_false c]
   rw [zie z5b (by simp)]; simp -implicitDefEqProofs (maxSteps := 4000000) (disch := omega) only [z3d, z5X, getDT, go_sem, *] /-A16-/
end Go.Proofs.YtcjncbkhbllchaaGreat

namespace Go.Proofs.YtcjncbkhbllchaaGreat
open Go Go.Sim
set_option linter.unusedSimpArgs false
set_option linter.unusedVariables false
set_option maxHeartbeats 10000000
set_option maxRecDepth 40000
def leasesE (l : List Lease) : Int := findR l.length (leaseB l) (leaseE l) 0
def tabV (t : Table) : Int :=
 if 12 < t.l.length then 2 else if leasesE t.l ≠ 0 then leasesE t.l else if validateD t.heap ≠ 0 then validateD t.heap else if matchP t = true then 0 else 7
theorem zk2 (l : List Lease) : (∃ k, (List.range l.length).find? (leaseB l) = some k ∧ leaseE l k ≠ 0 ∧ leasesE l = leaseE l k) ∨ ((List.range l.length).find? (leaseB l) = none ∧ leasesE l = 0) := by
 unfold leasesE findR
 cases h : (List.range l.length).find? (leaseB l) with
 | none => exact .inr ⟨rfl, rfl⟩
 | some k =>
   refine .inl ⟨k, rfl, ?_, rfl⟩
   have := List.find?_some h
   unfold leaseB at this
   simpa using this
theorem zjA (t : Table) (hL : t.l.length ≤ 4294967296) (hH : t.heap.length ≤ 4294967296) : callL G zX [.d (eTable t)] [] = some (.d (.int .i64 (tabV t)), []) := by
 unfold tabV
 by_cases c0 : 12 < t.l.length
 · rw [if_pos c0]
   rw [zie z2G (by simp)]; simp -implicitDefEqProofs (maxSteps := 4000000) (disch := omega) only [z0J, z0X, getDT, go_sem, *] /-A0-/
 · rw [if_neg c0]
   have hl := ztP t (by omega)
   have hv := zl7 t.heap hH
   have hm := zu0 t hL hH
   simp only [obT] at hl
   unfold findR at hl
   rcases zk2 t.l with ⟨k, h1, h2, h3⟩ | ⟨h1, h3⟩
   · rw [h1] at hl
     simp only at hl
     rw [h3, if_pos h2]
     generalize leaseE t.l k = z at *
     clear h1 h3 hv hm
     rw [zie z2G (by simp)]; simp -implicitDefEqProofs (maxSteps := 4000000) (disch := omega) only [z0J, z0X, getDT, go_sem, *] /-A1-/
   · rw [h1] at hl
     rw [h3, if_neg (by simp)]
     clear h1 h3
     generalize validateD t.heap = z at *
     by_cases c1 : z = 0
     · subst c1
       rw [if_neg (by simp)]
       cases h : matchP t
       · rw [h] at hm
         simp only [Bool.false_eq_true, if_false]
         clear h
         rw [zie z2G (by simp)]; simp -implicitDefEqProofs (maxSteps := 4000000) (disch := omega) only [z0J, z0X, getDT, go_sem, *] /-A2-/
       · rw [h] at hm
         simp only [if_true]
         clear h
         rw [zie z2G (by simp)]; simp -implicitDefEqProofs (maxSteps := 4000000) (disch := omega) only [z0J, z0X, getDT, go_sem, *] /-A3-/
     · rw [if_pos c1]
       clear hm
       rw [zie z2G (by simp)]; simp -implicitDefEqProofs (maxSteps := 4000000) (disch := omega) only [z0J, z0X, getDT, go_sem, *] /-A4-/
def matchR (t : Table) : Bool := decide (t.heap.length = t.l.length) && t.heap.all fun d => decide (0 ≤ findL t.l d.2) && decide ((t.l.getD (findL t.l d.2).toNat zLease).deadline = d.1)
def tabR (t : Table) : Int :=
 if 12 < t.l.length then 2 else if leasesE t.l ≠ 0 then leasesE t.l else if validateD t.heap ≠ 0 then validateD t.heap else if matchR t = true then 0 else 7
theorem zrQ (l : List Lease) (id : Int) : -1 ≤ findL l id ∧ findL l id < l.length := znj _ _
theorem zvb (t : Table) (hL : t.l.length ≤ 4294967296) (hH : t.heap.length ≤ 4294967296) : loopL G [] z2T ⟨[(1, .ref 1 0 0), (7, .d (.int .i64 0))], [obT 1 t]⟩ = some (if (t.heap.all fun d => decide (0 ≤ findL t.l d.2) && decide ((t.l.getD (findL t.l d.2).toNat zLease).deadline = d.1)) = true then (.exit 3, ⟨[], []⟩) else (.ret, ⟨[(2, .d (.int .i64 7))], []⟩)) := by
 have hl := znL (G := G) (x := z2T) (ks := []) t.heap.length (atB t.heap fun d => decide (0 ≤ findL t.l d.2) && decide ((t.l.getD (findL t.l d.2).toNat zLease).deadline = d.1)) (fun k => ⟨[(1, .ref 1 0 0), (7, .d (.int .i64 k))], [obT 1 t]⟩) (.ret, ⟨[(2, .d (.int .i64 7))], []⟩) (.exit 3, ⟨[], []⟩) (fun k hk L => by
   simp only [z2T, obT]
   by_cases h0 : k < t.heap.length
   · simp only [h0, if_true, atB_at h0]
     have hf := zok t t.heap[k].2 hL
     have hb := zrQ t.l t.heap[k].2
     generalize findL t.l t.heap[k].2 = i at *
     by_cases c1 : 0 ≤ i
     · obtain ⟨n, rfl⟩ : ∃ n : Nat, i = n := ⟨i.toNat, by omega⟩
       have hn : n < t.l.length := by omega
       rw [Int.toNat_natCast, getDT hn, decide_eq_true c1, Bool.true_and]
       by_cases c2 : t.l[n].deadline = t.heap[k].1
       · rw [decide_eq_true c2]
         simp only [if_true]
         simp -implicitDefEqProofs (maxSteps := 4000000) (disch := omega) only [getDT, go_sem, *] /-A5-/
       · rw [decide_eq_false c2]
         simp only [Bool.false_eq_true, if_false]
         simp -implicitDefEqProofs (maxSteps := 4000000) (disch := omega) only [getDT, go_sem, *] /-A6-/
     · rw [decide_eq_false c1]
       simp only [Bool.false_and, Bool.false_eq_true, if_false]
       simp -implicitDefEqProofs (maxSteps := 4000000) (disch := omega) only [getDT, go_sem, *] /-A7-/
   · simp -implicitDefEqProofs (maxSteps := 4000000) (disch := omega) only [getDT, go_sem, *] /-A8-/)
 have e : (List.range t.heap.length).all (atB t.heap fun d => decide (0 ≤ findL t.l d.2) && decide ((t.l.getD (findL t.l d.2).toNat zLease).deadline = d.1)) = t.heap.all fun d => decide (0 ≤ findL t.l d.2) && decide ((t.l.getD (findL t.l d.2).toNat zLease).deadline = d.1) := by
   rw [Bool.eq_iff_iff, List.all_eq_true, List.all_eq_true]
   constructor
   · intro h x hx
     obtain ⟨i, hi, rfl⟩ := List.getElem_of_mem hx
     have := h i (List.mem_range.2 hi)
     rwa [atB_at hi] at this
   · intro h i hi
     rw [atB_at (List.mem_range.1 hi)]
     exact h _ (List.getElem_mem _)
 rw [e] at hl
 exact hl
theorem zol (t : Table) (hL : t.l.length ≤ 4294967296) (hH : t.heap.length ≤ 4294967296) : callL G z1S [.d (eTable t)] [] = some (.d (.int .i64 (tabR t)), []) := by
 unfold tabR
 by_cases c0 : 12 < t.l.length
 · rw [if_pos c0]
   rw [zie z0Q (by simp)]; simp -implicitDefEqProofs (maxSteps := 4000000) (disch := omega) only [z0c, z0j, getDT, go_sem, *] /-A9-/
 · rw [if_neg c0]
   have hl := zve t (by omega)
   have hv := zoq t.heap hH
   have hm := zvb t hL hH
   simp only [obT] at hl hm
   unfold findR at hl
   rcases zk2 t.l with ⟨k, h1, h2, h3⟩ | ⟨h1, h3⟩
   · rw [h1] at hl
     simp only at hl
     rw [h3, if_pos h2]
     generalize leaseE t.l k = z at *
     clear h1 h3 hv hm
     rw [zie z0Q (by simp)]; simp -implicitDefEqProofs (maxSteps := 4000000) (disch := omega) only [z0c, z0j, getDT, go_sem, *] /-A10-/
   · rw [h1] at hl
     rw [h3, if_neg (by simp)]
     clear h1 h3
     generalize validateD t.heap = z at *
     by_cases c1 : z = 0
     · subst c1
       rw [if_neg (by simp)]
       unfold matchR
       by_cases c2 : t.heap.length = t.l.length
       · rw [decide_eq_true c2, Bool.true_and]
         generalize (t.heap.all fun d => decide (0 ≤ findL t.l d.2) && decide ((t.l.getD (findL t.l d.2).toNat zLease).deadline = d.1)) = q at *
         cases q
         · simp only [Bool.false_eq_true, if_false] at hm ⊢
           rw [zie z0Q (by simp)]; simp -implicitDefEqProofs (maxSteps := 4000000) (disch := omega) only [z0c, z0j, getDT, go_sem, *] /-A11-/
         · simp only [if_true] at hm ⊢
           rw [zie z0Q (by simp)]; simp -implicitDefEqProofs (maxSteps := 4000000) (disch := omega) only [z0c, z0j, getDT, go_sem, *] /-A12-/
       · rw [decide_eq_false c2, Bool.false_and]
         simp only [Bool.false_eq_true, if_false]
         clear hm
         rw [zie z0Q (by simp)]; simp -implicitDefEqProofs (maxSteps := 4000000) (disch := omega) only [z0c, z0j, getDT, go_sem, *] /-A13-/
     · rw [if_pos c1]
       clear hm
       rw [zie z0Q (by simp)]; simp -implicitDefEqProofs (maxSteps := 4000000) (disch := omega) only [z0c, z0j, getDT, go_sem, *] /-A14-/
theorem zo6 {α : Type} [DecidableEq α] : ∀ (A B : List α), A.Nodup → (∀ a ∈ A, a ∈ B) → A.length ≤ B.length
 | [], _, _, _ => Nat.zero_le _
 | a :: A, B, h, hs => by
   have ha := hs a (by simp)
   rw [List.nodup_cons] at h
   have := zo6 A (B.erase a) h.2 fun x hx => (List.mem_erase_of_ne (by rintro rfl; exact h.1 hx)).2 (hs x (by simp [hx]))
   rw [List.length_erase_of_mem ha] at this
   have hp := List.length_pos_of_mem ha
   simp only [List.length_cons]; omega
theorem zo5 {α : Type} [DecidableEq α] {A B : List α} (h : A.Nodup) (hs : ∀ a ∈ A, a ∈ B) (hl : B.length ≤ A.length) : ∀ b ∈ B, b ∈ A := by
 intro b hb
 by_cases c : b ∈ A
 · exact c
 · have := zo6 A (B.erase b) h fun x hx => (List.mem_erase_of_ne (by rintro rfl; exact c hx)).2 (hs x hx)
   rw [List.length_erase_of_mem hb] at this
   have hp := List.length_pos_of_mem hb
   omega
theorem ziu {l : List Lease} (h : leasesE l = 0) : l.Pairwise fun x y => x.msg.id < y.msg.id := by
 have h0 : ∀ i, i < l.length → leaseE l i = 0 := by
   rcases zk2 l with ⟨k, _, h2, h3⟩ | ⟨h1, _⟩
   · omega
   · intro i hi
     have := List.find?_eq_none.1 h1 i (List.mem_range.2 hi)
     unfold leaseB at this
     simpa using this
 have step : ∀ i (hi : i + 1 < l.length), l[i].msg.id < l[i + 1].msg.id := fun i hi => by
   have := h0 (i + 1) hi
   unfold leaseE at this
   rw [getDT hi, Nat.add_sub_cancel, getDT (show i < l.length by omega)] at this
   split at this
   · omega
   split at this
   · omega
   split at this
   · omega
   split at this
   · cases this
   · omega
 refine List.pairwise_iff_getElem.2 fun i j hi hj hij => ?_
 obtain ⟨m, rfl⟩ : ∃ m, j = i + 1 + m := ⟨j - (i + 1), by omega⟩
 induction m with
 | zero => exact step i hj
 | succ m ih => exact Int.lt_trans (ih (by omega) (by omega)) (step (i + 1 + m) (by omega))
end Go.Proofs.YtcjncbkhbllchaaGreat

namespace Go.Proofs.YtcjncbkhbllchaaGreat
open Go Go.Sim
set_option linter.unusedSimpArgs false
set_option linter.unusedVariables false
set_option maxHeartbeats 10000000
set_option maxRecDepth 40000
def dueOf (x : Lease) : Due := (x.deadline, x.msg.id)
theorem zj0 {l : List Lease} {id : Int} (h : 0 ≤ findL l id) : ∃ k, ∃ hk : k < l.length, findL l id = k ∧ l[k].msg.id = id := by
 unfold findL idxI at h ⊢
 cases hf : l.findIdx? (fun x => decide (x.msg.id = id)) with
 | none => rw [hf] at h; exact absurd h (by simp)
 | some i =>
   obtain ⟨hi, hp, _⟩ := List.findIdx?_eq_some_iff_getElem.1 hf
   exact ⟨i, hi, rfl, by simpa using hp⟩
theorem zjV {l : List Lease} {id : Int} (h : findL l id < 0) : ∀ x ∈ l, x.msg.id ≠ id := by
 unfold findL idxI at h
 cases hf : l.findIdx? (fun x => decide (x.msg.id = id)) with
 | none => intro x hx; have := List.findIdx?_eq_none_iff.1 hf x hx; simpa using this
 | some i => rw [hf] at h; simp only at h; omega
theorem zla {l : List Lease} (h : l.Pairwise fun x y => x.msg.id < y.msg.id) {i j : Nat} (hi : i < l.length) (hj : j < l.length) (e : l[i].msg.id = l[j].msg.id) : i = j := by
 rw [List.pairwise_iff_getElem] at h
 rcases Nat.lt_trichotomy i j with q | q | q
 · have := h i j hi hj q; omega
 · exact q
 · have := h j i hj hi q; omega
theorem zjU {l : List Lease} (h : l.Pairwise fun x y => x.msg.id < y.msg.id) {k : Nat} (hk : k < l.length) : findL l l[k].msg.id = k := by
 by_cases c : 0 ≤ findL l l[k].msg.id
 · obtain ⟨j, hj, e, q⟩ := zj0 c
   rw [e, zla h hj hk q]
 · exact absurd rfl (zjV (by omega) l[k] (List.getElem_mem _))
theorem zlb {l : List Lease} (h : l.Pairwise fun x y => x.msg.id < y.msg.id) : (l.map dueOf).Nodup := by
 refine List.Pairwise.map _ ?_ h
 intro a b hab e
 have := congrArg Prod.snd e
 simp only [dueOf] at this
 omega
theorem zlI {t : Table} (h : t.l.Pairwise fun x y => x.msg.id < y.msg.id) : matchR t = true ↔ t.heap.length = t.l.length ∧ ∀ d ∈ t.heap, d ∈ t.l.map dueOf := by
 unfold matchR
 rw [Bool.and_eq_true, decide_eq_true_eq, List.all_eq_true]
 refine and_congr_right fun _ => forall_congr' fun d => forall_congr' fun hd => ?_
 rw [Bool.and_eq_true, decide_eq_true_eq, decide_eq_true_eq, List.mem_map]
 constructor
 · rintro ⟨h0, h1⟩
   obtain ⟨k, hk, e, q⟩ := zj0 h0
   rw [e, Int.toNat_natCast, getDT hk] at h1
   exact ⟨t.l[k], List.getElem_mem _, Prod.ext h1 q⟩
 · rintro ⟨x, hx, rfl⟩
   obtain ⟨k, hk, rfl⟩ := List.getElem_of_mem hx
   simp only [dueOf, zjU h hk]
   rw [Int.toNat_natCast, getDT hk]
   exact ⟨by omega, rfl⟩
theorem zk6 {t : Table} : matchP t = true ↔ t.heap.length = t.l.length ∧ ∀ d ∈ t.l.map dueOf, d ∈ t.heap := by
 unfold matchP
 rw [Bool.and_eq_true, decide_eq_true_eq, List.all_eq_true]
 refine and_congr_right fun _ => ?_
 constructor
 · intro h d hd
   obtain ⟨x, hx, rfl⟩ := List.mem_map.1 hd
   obtain ⟨y, hy, e⟩ := List.any_eq_true.1 (h x hx)
   rw [decide_eq_true_eq] at e
   rw [show dueOf x = y from e.symm]; exact hy
 · intro h x hx
   exact List.any_eq_true.2 ⟨_, h _ (List.mem_map.2 ⟨x, hx, rfl⟩), by simp [dueOf]⟩
theorem zlJ {t : Table} (h : leasesE t.l = 0) (hv : validateD t.heap = 0) : matchP t = matchR t := by
 have ha := ziu h
 have hn := ((ziI _).1 hv).ids
 have hh : t.heap.Nodup := List.Pairwise.of_map (fun d : Due => d.2) (fun a b h e => h (by rw [e])) hn
 rw [Bool.eq_iff_iff, zlI ha, zk6]
 refine and_congr_right fun e => ⟨fun q => ?_, fun q => ?_⟩
 · exact zo5 (zlb ha) q (by simp [e])
 · exact zo5 hh q (by simp [e])
theorem zoR (t : Table) : tabR t = tabV t := by
 unfold tabR tabV
 by_cases h : leasesE t.l = 0
 · by_cases hv : validateD t.heap = 0
   · rw [zlJ h hv]
   · simp only [hv, ne_eq, not_false_eq_true, if_true]
 · simp only [h, ne_eq, not_false_eq_true, if_true]
end Go.Proofs.YtcjncbkhbllchaaGreat

namespace Go.Proofs.YtcjncbkhbllchaaGreat
open Go Go.Sim
set_option linter.unusedSimpArgs false
set_option linter.unusedVariables false
set_option maxHeartbeats 10000000
set_option maxRecDepth 40000
theorem zmM (es : List D) (hs : allSize 8 es = true) (hL : es.length ≤ 4294967296) : callL G zq [.d (.sl es)] [] = some (.acc 0 es, [(0, .acc es.length)]) := by
 cases es with
 | nil =>
   refine zjP zb7 (by decide) ?_ ?_
   · simp -implicitDefEqProofs only [z3s, z6c, go_sem]
   · simp -implicitDefEqProofs only [z3s, z6c, Nat.zero_le, go_sem]
 | cons e es =>
   rw [zjO zb7 (by simp) (by decide)]
   simp only [zjq] at hs
   simp only [List.length_cons] at hL
   simp -implicitDefEqProofs (maxSteps := 4000000) (disch := omega) only [z3s, z6c, go_sem, *]
end Go.Proofs.YtcjncbkhbllchaaGreat

namespace Go.Proofs.YtcjncbkhbllchaaGreat
open Go Go.Sim
set_option linter.unusedSimpArgs false
set_option linter.unusedVariables false
set_option maxHeartbeats 10000000
set_option maxRecDepth 40000
end Go.Proofs.YtcjncbkhbllchaaGreat

namespace Go.Proofs.YtcjncbkhbllchaaGreat
open Go Go.Sim
set_option linter.unusedSimpArgs false
set_option linter.unusedVariables false
set_option maxHeartbeats 10000000
set_option maxRecDepth 40000
structure FitS (s : Shard) : Prop where
 a : s.ready.cells.length ≤ 4294967296
 b : s.leases.l.length ≤ 4294967296
 c : s.leases.heap.length ≤ 4294967296
structure FitA (a : Arena) : Prop where
 sl : a.slots.length ≤ 1000
 sh : ∀ i (h : i < a.slots.length), FitS (a.slots[i]).shard
 st : a.stripes.length ≤ 4294967296
 de : a.dead.dead.l.length ≤ 4294967296
 dl : a.dir.l.length ≤ 4294967296
 df : a.dir.forward.length ≤ 4294967296
end Go.Proofs.YtcjncbkhbllchaaGreat

namespace Go.Proofs.YtcjncbkhbllchaaGreat
open Go Go.Sim
set_option linter.unusedSimpArgs false
set_option linter.unusedVariables false
set_option maxHeartbeats 10000000
set_option maxRecDepth 40000
theorem zlf (s : List UInt8) : bytesD (byD s) = some s := by
 unfold byD
 induction s with
 | nil => rfl
 | cons b s ih =>
   simp only [List.map_cons, bytesD, ih, Option.map_some, Int.toNat_natCast]
   simp
theorem zpP (l : List Int) (hL : l.length ≤ 4000) (n : Nat) (hn : n ≤ 3) : ∀ p : Nat × Nat × List UInt8, p.1 ≤ n ∧ p.2.2.length = n → ∃ a' bs, bs.length = n ∧ loopL G [] z5o ⟨[(0, .ref 1000000 0 0), (3, .osl 7 0 n), (4, .d (.int .i64 p.1)), (1000000, .ref 1000000 1 0)], [(7, .row ((byD p.2.2).map .d)), (1000000, srcO l p.2.1)]⟩ = some (.exit 0, ⟨[(3, .osl 7 0 n), (1000000, .ref 1000000 1 0)], [(7, .row ((byD bs).map .d)), (1000000, srcO l a')]⟩) := by
 refine zk4 (fun p : Nat × Nat × List UInt8 => n - p.1) (fun p : Nat × Nat × List UInt8 => p.1 ≤ n ∧ p.2.2.length = n) (fun p : Nat × Nat × List UInt8 => ⟨[(0, .ref 1000000 0 0), (3, .osl 7 0 n), (4, .d (.int .i64 p.1)), (1000000, .ref 1000000 1 0)], [(7, .row ((byD p.2.2).map .d)), (1000000, srcO l p.2.1)]⟩) (fun p r => ∃ a' bs, bs.length = n ∧ r = some (.exit 0, ⟨[(3, .osl 7 0 n), (1000000, .ref 1000000 1 0)], [(7, .row ((byD bs).map .d)), (1000000, srcO l a')]⟩)) fun ⟨k, a, bs⟩ ⟨hk, hb⟩ L ih => ?_
 simp only at ih hk hb
 simp only [z5o]
 by_cases h0 : k < n
 · have n1 := nD_in l a (n := 3) (by omega)
   obtain ⟨c, hc⟩ : ∃ c : UInt8, (c.toNat : Int) = 97 + nD l a 3 := ⟨UInt8.ofNat (97 + nD l a 3).toNat, by rw [UInt8.toNat_ofNat']; omega⟩
   have hg : ((byD bs).map AV.d)[k]? = some (.d (.int .u8 (bs.getD k 0).toNat)) := by
     unfold byD
     simp [List.getElem?_eq_getElem (show k < bs.length by omega), show k < bs.length by omega]
   have hs : ((byD bs).map AV.d).set k (.d (.int .u8 (97 + nD l a 3))) = (byD (bs.set k c)).map AV.d := by
     unfold byD
     rw [← hc, List.map_set, List.map_set]
   obtain ⟨a', bs', h1, h2⟩ := ih (k + 1, (rawD l a).2, bs.set k c) ⟨by simp only; omega, by simp only [List.length_set]; exact hb⟩ (by simp only; omega)
   refine ⟨a', bs', h1, ?_⟩
   simp only [Int.natCast_add, Int.natCast_one, Int.natCast_zero, Int.natCast_mul, Int.cast_ofNat_Int, List.length_append, List.length_map, List.map_nil, List.length_nil, List.map_append, List.map_cons, List.length_cons, Nat.zero_add, srcO, mapSet] at h2
   simp -implicitDefEqProofs (maxSteps := 4000000) (disch := omega) only [go_sem, n_ok, hg, hs, h0]
   exact h2
 · refine ⟨a, bs, hb, ?_⟩
   simp -implicitDefEqProofs (maxSteps := 4000000) (disch := omega) only [go_sem, h0]
theorem zle (l : List Int) (a : Nat) (hL : l.length ≤ 4000) : ∃ s a', s.length ≤ 3 ∧ callL G zN [.ref 1000000 0 0] [(1000000, srcO l a)] = some (.d (.str s), [(1000000, srcO l a')]) := by
 have n1 := nD_in l a (n := 4) (by omega)
 obtain ⟨n, hn⟩ : ∃ n, n = (nD l a 4).toNat := ⟨_, rfl⟩
 have e : nD l a 4 = (n : Int) := by omega
 obtain ⟨a', bs, h1, h2⟩ := zpP l hL n (by omega) (0, (rawD l a).2, List.replicate n 0) ⟨by omega, by simp⟩
 have hz : List.replicate n (AV.d (.int .u8 0)) = (byD (List.replicate n 0)).map AV.d := by unfold byD; simp
 refine ⟨bs, a', by omega, ?_⟩
 have hl : (byD bs).length = n := by unfold byD; simpa using h1
 have ht : List.take n ((byD bs).map AV.d) = (byD bs).map AV.d := List.take_of_length_le (by simp [hl])
 simp only [Int.natCast_add, Int.natCast_one, Int.natCast_zero, Int.natCast_mul, Int.cast_ofNat_Int, List.length_append, List.length_map, List.map_nil, List.length_nil, List.map_append, List.map_cons, List.length_cons, Nat.zero_add, srcO, mapSet] at h2
 by_cases h0 : n = 0
 · subst h0
   have : bs = [] := List.length_eq_zero_iff.1 h1
   subst this
   simp only [List.replicate_zero, show byD [] = [] from rfl, List.map_nil] at h2
   rw [zie za9 (by simp)]; simp -implicitDefEqProofs (maxSteps := 4000000) (disch := omega) only [z6f, z8u, go_sem, n_ok, e, List.replicate_zero, h2]
 · have hne : ¬ (List.map AV.d (byD bs) = []) := by
     intro e2
     have := congrArg List.length e2
     simp [hl] at this
     exact h0 this
   rw [zie za9 (by simp)]; simp -implicitDefEqProofs (maxSteps := 4000000) (disch := omega) only [z6f, z8u, go_sem, n_ok, e, hz, h2, hl, ht, zlf, hne]
theorem zmx : ∃ f : List Int → Nat → List UInt8 × Nat, ∀ l a, l.length ≤ 4000 → (f l a).1.length ≤ 3 ∧ callL G zN [.ref 1000000 0 0] [(1000000, srcO l a)] = some (.d (.str (f l a).1), [(1000000, srcO l (f l a).2)]) := by
 refine ⟨fun l a => if h : l.length ≤ 4000 then (Classical.choose (zle l a h), Classical.choose (Classical.choose_spec (zle l a h))) else ([], 0), fun l a h => ?_⟩
 simp only [h, dif_pos]
 exact Classical.choose_spec (Classical.choose_spec (zle l a h))
noncomputable def bodyF : List Int → Nat → List UInt8 × Nat := Classical.choose zmx
theorem zpO (l : List Int) (a : Nat) (hL : l.length ≤ 4000) : (bodyF l a).1.length ≤ 3 ∧ callL G zN [.ref 1000000 0 0] [(1000000, srcO l a)] = some (.d (.str (bodyF l a).1), [(1000000, srcO l (bodyF l a).2)]) := Classical.choose_spec zmx l a hL
end Go.Proofs.YtcjncbkhbllchaaGreat
