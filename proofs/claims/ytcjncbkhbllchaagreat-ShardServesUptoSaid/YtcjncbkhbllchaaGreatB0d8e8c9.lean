/-
  Part of the calculus in which the claim is proved: Heaps of deadlines, in plain terms: what a valid heap is, an
-/
import Derived.Test.YtcjncbkhbllchaaGreatB8368d65
set_option linter.unusedSimpArgs false
set_option linter.unusedVariables false
set_option maxHeartbeats 10000000
set_option maxRecDepth 100000
namespace Go.Proofs.YtcjncbkhbllchaaGreat
open Go Go.Sim
theorem wrap1 {k n : Nat} (h : k < n) (hn : n ≤ LIM) : IntKind.i64.wrap ((k : Int) + 1) = ((k + 1 : Nat) : Int) := by
 unfold LIM at hn; rw [Go.IntWalk.i64_in _ (by omega)]; simp
theorem zwZ (n : Int) : callL G z1w [.d (.int .i64 n)] [] = some (.d (.bool false), []) := by
 rw [zjI zbb (by simp)]; simp -implicitDefEqProofs only [z9W, go_sem]
def cmpI (a b : Int) : Int := if a < b then -1 else if b < a then 1 else 0
theorem zr0 (a b : Int) : callL G zW [.d (.int .i64 a), .d (.int .i64 b)] [] = some (.d (.int .i64 (cmpI a b)), []) := by
 rw [zjI zf1 (by simp)]; simp -implicitDefEqProofs only [z9U, go_sem]
 simp -implicitDefEqProofs only [zwZ, cmpI, go_sem]
 repeat' split
 all_goals simp_all
def firstNZ : List Int → Int
 | [] => 0
 | x :: l => if x = 0 then firstNZ l else x
def orR (l : List Int) (k : Nat) : AExit × St :=
 if firstNZ (l.drop k) = 0 then (.exit 0, ⟨[(3, .d (.int .i64 0))], []⟩)
 else (.ret, ⟨[(2, .d (.int .i64 (firstNZ (l.drop k))))], []⟩)
theorem zyK (l : List Int) (hL : l.length ≤ LIM) : ∀ k, k ≤ l.length → loopL G [] l_cmp_Or_int_0 ⟨[(3, .d (.int .i64 0)), (6, .d (.sl (l.map (.int .i64)))), (7, .d (.int .i64 l.length)), (8, .d (.int .i64 k))], []⟩ = some (orR l k) := by
 refine zjM (fun k => l.length - k) (fun k => k ≤ l.length) _ _ fun k hk L ih => ?_
 simp only [l_cmp_Or_int_0]
 by_cases hlt : k < l.length
 · have i1 := ih (k + 1) (by omega) (by omega)
   unfold orR at i1 ⊢
   rw [List.drop_eq_getElem_cons hlt, firstNZ]
   clear ih
   have hL2 : l.length ≤ 4294967296 := hL
   simp only [Int.natCast_add, Int.natCast_one, Int.natCast_zero, Int.natCast_mul, Int.cast_ofNat_Int, List.length_append, List.length_map, List.map_nil, List.length_nil, List.map_append, List.map_cons, List.length_cons, Nat.zero_add, srcO, mapSet] at i1
   generalize firstNZ (l.drop (k + 1)) = z at *
   by_cases h : l[k] = 0
   · by_cases hz : z = 0
     · rw [if_pos hz] at i1
       rw [if_pos (by rw [if_pos h]; exact hz)]
       simp -implicitDefEqProofs (disch := omega) only [getDT, go_sem, *]
     · rw [if_neg hz] at i1
       rw [if_neg (by rw [if_pos h]; exact hz), if_pos h]
       simp -implicitDefEqProofs (disch := omega) only [getDT, go_sem, *]
   · rw [if_neg (by rw [if_neg h]; exact h), if_neg h]
     simp -implicitDefEqProofs (disch := omega) only [getDT, go_sem, *]
 · have : k = l.length := by omega
   subst this
   clear ih
   simp only [orR, List.drop_length, firstNZ, if_true]
   simp -implicitDefEqProofs (disch := omega) only [getDT, go_sem, *]
theorem or_ok (l : List Int) (hL : l.length ≤ LIM) : callL G z1v [.d (.sl (l.map (.int .i64)))] [] = some (.d (.int .i64 (firstNZ l)), []) := by
 rw [zjI zba (by simp)]; simp -implicitDefEqProofs only [z9V, go_sem]
 try rw [List.length_map]
 have := zyK l hL 0 (by omega)
 simp only [Int.natCast_zero] at this
 rw [this]
 unfold orR
 simp only [List.drop_zero]
 by_cases h : firstNZ l = 0 <;> simp -implicitDefEqProofs only [h, go_sem]
def cmpD (a b : Due) : Int := if cmpI a.1 b.1 = 0 then cmpI a.2 b.2 else cmpI a.1 b.1
def lt (a b : Due) : Bool := decide (cmpD a b < 0)
theorem zr3 (a b : Due) : callL G z0K [.d (eD a), .d (eD b)] [] = some (.d (.int .i64 (cmpD a b)), []) := by
 have h := or_ok [cmpI a.1 b.1, cmpI a.2 b.2] (by simp [LIM])
 simp only [List.map_cons, List.map_nil] at h
 rw [zjI zbf (by simp)]; simp -implicitDefEqProofs only [za1, go_sem]
 simp -implicitDefEqProofs only [eD, zr0, h, go_sem]
 simp only [firstNZ, cmpD]
 by_cases h1 : cmpI a.1 b.1 = 0 <;> by_cases h2 : cmpI a.2 b.2 = 0 <;> simp [h1, h2]
theorem znO (h : List Due) (i j : Nat) (hi : i < h.length) (hj : j < h.length) : callL G z1y [.d (.sl (h.map eD)), .d (.int .i64 i), .d (.int .i64 j)] [] = some (.d (.bool (lt h[i] h[j])), []) := by
 rw [zjI zbe (by simp)]; simp -implicitDefEqProofs only [za0, go_sem]
 simp -implicitDefEqProofs only [show (0 : Int) ≤ (i : Int) by omega, show (0 : Int) ≤ (j : Int) by omega, Int.toNat_natCast, List.getElem?_map, List.getElem?_eq_getElem hi, List.getElem?_eq_getElem hj, zjU, zjV, zr3, go_sem]
 rfl
def validD (d : Due) : Bool := decide (0 ≤ d.1) && (decide (d.1 ≤ 1073741824) && (decide (1 ≤ d.2) && decide (d.2 ≤ 1073741824)))
theorem ztn (d : Due) : callL G z1C [.d (eD d)] [] = some (.d (.bool (validD d)), []) := by
 simp only [eD]
 rw [zjI zbk (by simp)]; simp -implicitDefEqProofs only [za6, go_sem]
 rfl
theorem zvS (d : Due) (j : Int) : callL G z0M [.d (eD d), .d (.pd (.int .i64 j))] [] = some (.d (.bool (decide (d.2 = j))), []) := by
 simp only [eD]
 rw [zjI zbi (by simp)]; simp -implicitDefEqProofs only [za4, go_sem]
theorem zwG {α β : Type} (p : β → Bool) (f : α → β) (es : List α) : idxI p (es.map f) = idxI (fun x => p (f x)) es := by
 unfold idxI; rw [List.findIdx?_map]; rfl
def idxR (es : List D) (g : Nat) (cs : List D) (p : D → Bool) (k : Nat) : AExit × St := match (es.drop k).findIdx? p with | some i => (.ret, ⟨[(4, .d (.int .i64 ((k + i : Nat) : Int)))], []⟩) | none => (.exit 0, ⟨[], []⟩)
theorem zwI (es : List D) (g : Nat) (cs : List D) (p : D → Bool) (hL : es.length ≤ LIM) (hs : ∀ e ∈ es, e.size = 2) (hp : ∀ e ∈ es, callL G g (.d e.asAgg :: cs.map .d) [] = some (.d (.bool (p e)), [])) : ∀ k, k ≤ es.length →
    loopL G [] l_slices_IndexFunc_api_Due_0 ⟨[(0, .d (.sl es)), (1, .d (.fn g cs)), (7, .d (.int .i64 es.length)), (8, .d (.int .i64 k))], []⟩ = some (idxR es g cs p k) := by
 refine zjM (fun k => es.length - k) (fun k => k ≤ es.length) _ _ fun k hk L ih => ?_
 simp only [l_slices_IndexFunc_api_Due_0]
 by_cases hlt : k < es.length
 · have h1 := hp es[k] (by simp)
   have h2 := hs es[k] (by simp)
   have i1 := ih (k + 1) (by omega) (by omega)
   have hL2 : es.length ≤ 4294967296 := hL
   have h3 : es[k]? = some es[k] := List.getElem?_eq_getElem hlt
   unfold idxR at i1 ⊢
   rw [List.drop_eq_getElem_cons hlt, List.findIdx?_cons]
   clear ih hp hs
   cases hpe : p es[k] with
   | true =>
    rw [hpe] at h1
    simp only [if_true]
    clear i1
    simp -implicitDefEqProofs (disch := omega) only [getDT, go_sem, *]
   | false =>
    rw [hpe] at h1
    cases hf : (es.drop (k + 1)).findIdx? p with
    | none =>
     rw [hf] at i1
     simp only [Int.natCast_add, Int.natCast_one, Int.natCast_zero, Int.natCast_mul, Int.cast_ofNat_Int, List.length_append, List.length_map, List.map_nil, List.length_nil, List.map_append, List.map_cons, List.length_cons, Nat.zero_add, srcO, mapSet] at i1
     simp only [Option.map_none, if_false, Bool.false_eq_true]
     simp -implicitDefEqProofs (disch := omega) only [getDT, go_sem, *]
    | some i =>
     rw [hf] at i1
     simp only [Int.natCast_add, Int.natCast_one, Int.natCast_zero, Int.natCast_mul, Int.cast_ofNat_Int, List.length_append, List.length_map, List.map_nil, List.length_nil, List.map_append, List.map_cons, List.length_cons, Nat.zero_add, srcO, mapSet] at i1
     simp only [Option.map_some, if_false, Bool.false_eq_true]
     rw [show ((k + (i + 1) : Nat) : Int) = (k : Int) + 1 + i by omega]
     simp -implicitDefEqProofs (disch := omega) only [getDT, go_sem, *]
 · have : k = es.length := by omega
   subst this
   clear ih
   simp only [idxR, List.drop_length, List.findIdx?_nil]
   simp -implicitDefEqProofs (disch := omega) only [getDT, go_sem, *]
theorem idx_ok (es : List D) (g : Nat) (cs : List D) (p : D → Bool) (hL : es.length ≤ LIM) (hs : ∀ e ∈ es, e.size = 2) (hp : ∀ e ∈ es, callL G g (.d e.asAgg :: cs.map .d) [] = some (.d (.bool (p e)), [])) : callL G z2W [.d (.sl es), .d (.fn g cs)] [] = some (.d (.int .i64 (idxI p es)), []) := by
 rw [zjI zc8 (by simp)]; simp -implicitDefEqProofs only [zaX, go_sem]
 have := zwI es g cs p hL hs hp 0 (by omega)
 simp only [Int.natCast_zero] at this
 rw [this]
 unfold idxR idxI
 simp only [List.drop_zero, Nat.zero_add]
 cases es.findIdx? p <;> simp -implicitDefEqProofs only [go_sem]
theorem zuF (es : List D) (g : Nat) (cs : List D) (p : D → Bool) (hL : es.length ≤ LIM) (hs : ∀ e ∈ es, e.size = 2) (hp : ∀ e ∈ es, callL G g (.d e.asAgg :: cs.map .d) [] = some (.d (.bool (p e)), [])) : callL G z2T [.d (.sl es), .d (.fn g cs)] [] = some (.d (.bool (es.any p)), []) := by
 rw [zjI zc4 (by simp)]; simp -implicitDefEqProofs only [zaU, go_sem]
 simp -implicitDefEqProofs only [idx_ok es g cs p hL hs hp, go_sem]
 unfold idxI
 cases h : es.findIdx? p with
 | none => simp at h; simpa using h
 | some i =>
  have := List.findIdx?_eq_some_iff_getElem.1 h
  simp
  exact ⟨_, List.getElem_mem this.1, this.2.1⟩
def secondIs (j : Int) : D → Bool
 | .agg [_, .int _ n] => decide (n = j)
 | _ => false
def findD (h : List Due) (j : Int) : Int := idxI (fun d => decide (d.2 = j)) h
theorem find_ok (h : List Due) (j : Int) (hL : h.length ≤ LIM) : callL G z1A [.d (.sl (h.map eD)), .d (.int .i64 j)] [] = some (.d (.int .i64 (findD h j)), []) := by
 have hk := idx_ok (h.map eD) z0M [.pd (.int .i64 j)] (secondIs j) (by simpa using hL) (fun e he => by obtain ⟨d, _, rfl⟩ := List.mem_map.1 he; rfl) (fun e he => by
  obtain ⟨d, _, rfl⟩ := List.mem_map.1 he
  exact zvS d j)
 rw [zwG] at hk
 rw [zjI zbh (by simp)]; simp -implicitDefEqProofs only [za3, go_sem]
 simp -implicitDefEqProofs only [hk, go_sem]
 rfl
theorem ztv (d : Due) : callL G z0J [.d (eD d)] [] = some (.d (.bool (!validD d)), []) := by
 have h := ztn d
 simp only [eD] at h ⊢
 rw [zjI zbd (by simp)]; simp -implicitDefEqProofs only [z9Z, go_sem]
 simp -implicitDefEqProofs only [h, go_sem]
theorem wrapN {x : Int} (h0 : -4294967296 ≤ x) (h1 : x ≤ 4294967296) : IntKind.i64.wrap x = x := wr (by omega)
abbrev srcO (l : List Int) (a : Nat) : Go.Sim.Obj := .row [.d (.agg [.sl (ints l), .int .i64 a])]
theorem new_ok (l : List Int) (hL : l.length ≤ LIM) : callL G zT [.d (.sl (ints l))] [] = some (.ref 0 0 0, [(0, srcO (l.take 4000) 0)]) := by
 have hs := zkl l
 by_cases h : 4000 < l.length
 · have e : ints (l.take 4000) = (ints l).take 4000 := by simp [ints, List.map_take]
   simp only [srcO, e]
   rw [zjI zb3 (by simp)]; simp -implicitDefEqProofs (disch := omega) only [z6C, getDT, go_sem, *]
 · have e : l.take 4000 = l := List.take_of_length_le (by omega)
   simp only [srcO, e]
   rw [zjI zb3 (by simp)]; simp -implicitDefEqProofs (disch := omega) only [z6C, getDT, go_sem, *]
def rawD (l : List Int) (a : Nat) : Int × Nat := if a < l.length then (l.getD a 0, a + 1) else (0, a)
theorem raw_ok (l : List Int) (a : Nat) (hL : l.length ≤ 4000) : callL G z1r [.ref 1000000 0 0] [(1000000, srcO l a)] = some (.d (.int .i64 (rawD l a).1), [(1000000, srcO l (rawD l a).2)]) := by
 unfold rawD
 have e : ((a : Int) + 1 - 1).toNat = a := by omega
 by_cases h : a < l.length
 · simp only [h, if_true]
   rw [zjI zb9 (by simp)]; simp -implicitDefEqProofs (disch := omega) only [z6H, e, getDT, go_sem, *]; (try simp only [pA, pB, pC, pD, pE, pF, pG, pH, pI, pJ, pK, pL, pM, pN, pO, pP, if_true, if_false]); repeat' (first | done | rfl | ((first | refine iteC (fun hq => ?_) (fun hq => ?_) | refine iteP (fun hq => ?_) (fun hq => ?_)) <;> (try (first | (exfalso; omega) | contradiction)) <;> (try simp -implicitDefEqProofs (disch := omega) only [e, getDT, go_sem, *]) <;> (try simp only [pA, pB, pC, pD, pE, pF, pG, pH, pI, pJ, pK, pL, pM, pN, pO, pP, if_true, if_false]))); (all_goals try rfl); (all_goals try (repeat' (first | done | rfl | (exfalso; omega) | contradiction | (refine iteR (fun hq => ?_) (fun hq => ?_)))))
 · simp only [h, if_false]
   rw [zjI zb9 (by simp)]; simp -implicitDefEqProofs (disch := omega) only [z6H, getDT, go_sem, *]
def nD (l : List Int) (a : Nat) (n : Int) : Int := if (rawD l a).1.tmod n < 0 then (rawD l a).1.tmod n + n else (rawD l a).1.tmod n
theorem nD_in (l : List Int) (a : Nat) {n : Int} (h : 1 ≤ n) : 0 ≤ nD l a n ∧ nD l a n < n := by
 unfold nD
 have h1 := Int.tmod_lt_of_pos (rawD l a).1 (show 0 < n by omega)
 have h2 := Int.lt_tmod_of_pos (rawD l a).1 (show 0 < n by omega)
 split <;> omega
theorem n_ok (l : List Int) (a : Nat) (n : Int) (hL : l.length ≤ 4000) (h1 : 1 ≤ n) (h2 : n ≤ 4294967296) : callL G zm [.ref 1000000 0 0, .d (.int .i64 n)] [(1000000, srcO l a)] = some (.d (.int .i64 (nD l a n)), [(1000000, srcO l (rawD l a).2)]) := by
 have hr := raw_ok l a hL
 have h3 := Int.tmod_lt_of_pos (rawD l a).1 (show 0 < n by omega)
 have h4 := Int.lt_tmod_of_pos (rawD l a).1 (show 0 < n by omega)
 unfold nD
 by_cases h : (rawD l a).1.tmod n < 0
 · simp only [h, if_true]
   rw [zjI zb7 (by simp)]; simp -implicitDefEqProofs (disch := omega) only [z6E, getDT, go_sem, *]
 · simp only [h, if_false]
   rw [zjI zb7 (by simp)]; simp -implicitDefEqProofs (disch := omega) only [z6E, getDT, go_sem, *]
theorem zl5 (l : List Int) (a : Nat) (lo hi : Int) (hL : l.length ≤ 4000) (h0 : -4294967296 ≤ lo) (h1 : lo ≤ hi) (h2 : hi ≤ 4294967296) (h3 : hi - lo < 4294967296) : callL G zU [.ref 1000000 0 0, .d (.int .i64 lo), .d (.int .i64 hi)] [(1000000, srcO l a)] = some (.d (.int .i64 (lo + nD l a (hi - lo + 1))), [(1000000, srcO l (rawD l a).2)]) := by
 have hr := n_ok l a (hi - lo + 1) hL (by omega) (by omega)
 have hn := nD_in l a (show 1 ≤ hi - lo + 1 by omega)
 rw [zjI zeZ (by simp)]; simp -implicitDefEqProofs (disch := omega) only [z9S, getDT, go_sem, *]
theorem zpj (es : List D) (hs : allSize 2 es = true) (hL : es.length ≤ 4294967296) : callL G z0s [.d (.sl es)] [] = some (.acc 0 es, [(0, .acc es.length)]) := by
 cases es with
 | nil =>
  refine znQ z3x (by decide) ?_ ?_
  · simp -implicitDefEqProofs only [z0B, go_sem]
  · simp -implicitDefEqProofs only [z0B, Nat.zero_le, go_sem]
 | cons e es =>
  rw [znP z3x (by simp) (by decide)]
  simp only [znq] at hs
  simp only [List.length_cons] at hL
  simp -implicitDefEqProofs (disch := omega) only [z0B, go_sem, *]
theorem zpl (es : List D) (hs : allSize 2 es = true) (hL : es.length ≤ LIM) : callL G z0s [.d (.sl es)] [] = some (.acc 0 es, [(0, .acc es.length)]) := zpj es hs hL
def invalidB : D → Bool
 | .agg [.int _ t, .int _ i] => !validD (t, i)
 | _ => false
def dupAt (h : List Due) (i : Nat) : Bool := decide (findD h (h.getD i (0, 0)).2 ≠ i)
def ordAt (h : List Due) (i : Nat) : Bool := lt (h.getD i (0, 0)) (h.getD ((i - 1) / 2) (0, 0))
def validateD (h : List Due) : Int := if 12 < h.length then 2 else if h.any (fun d => !validD d) then 1 else if (List.range' 0 h.length).any (dupAt h) then 10 else if (List.range' 1 (h.length - 1)).any (ordAt h) then 11 else 0
def val0R (h : List Due) (k : Nat) : AExit × St :=
 if (List.range' k (h.length - k)).any (dupAt h) then (.ret, ⟨[(2, .d (.int .i64 10))], []⟩)
 else (.exit 0, ⟨[(0, .d (.sl (h.map eD)))], []⟩)
theorem zAY (h : List Due) (hL : h.length ≤ 12) : ∀ k, k ≤ h.length → loopL G [] l_due_Validate_0 ⟨[(0, .d (.sl (h.map eD))), (11, .d (.sl (h.map eD))), (12, .d (.int .i64 h.length)), (13, .d (.int .i64 k))], []⟩ = some (val0R h k) := by
 refine zjM (fun k => h.length - k) (fun k => k ≤ h.length) _ _ fun k hk L ih => ?_
 simp only [l_due_Validate_0]
 by_cases hlt : k < h.length
 · have hf := find_ok h h[k].2 (by simp [LIM]; omega)
   have i1 := ih (k + 1) (by omega) (by omega)
   unfold val0R at i1 ⊢
   rw [show h.length - k = (h.length - (k + 1)) + 1 by omega, List.range'_succ, List.any_cons]
   have hd : dupAt h k = !decide (findD h h[k].2 = k) := by simp [dupAt, hlt]
   rw [hd]
   clear ih hd
   simp only [Int.natCast_add, Int.natCast_one, Int.natCast_zero, Int.natCast_mul, Int.cast_ofNat_Int, List.length_append, List.length_map, List.map_nil, List.length_nil, List.map_append, List.map_cons, List.length_cons, Nat.zero_add, srcO, mapSet] at i1
   generalize (List.range' (k + 1) (h.length - (k + 1))).any (dupAt h) = z at *
   by_cases hc : findD h h[k].2 = k
   · rw [decide_eq_true hc]
     rw [hc] at hf
     simp only [Bool.not_true, Bool.false_or]
     cases z
     · simp only [if_false, Bool.false_eq_true] at i1 ⊢
       simp -implicitDefEqProofs (disch := omega) only [getDT, go_sem, *]
     · simp only [if_true] at i1 ⊢
       simp -implicitDefEqProofs (disch := omega) only [getDT, go_sem, *]
   · rw [decide_eq_false hc]
     simp only [Bool.not_false, Bool.true_or, if_true]
     clear i1
     simp -implicitDefEqProofs (disch := omega) only [getDT, go_sem, *]
 · have : k = h.length := by omega
   subst this
   clear ih
   simp only [val0R, Nat.sub_self, List.range'_zero, List.any_nil, if_false, Bool.false_eq_true]
   simp -implicitDefEqProofs (disch := omega) only [getDT, go_sem, *]
def val1R (h : List Due) (k : Nat) : AExit × St :=
 if (List.range' k (h.length - k)).any (ordAt h) then (.ret, ⟨[(2, .d (.int .i64 11))], []⟩)
 else (.exit 2, ⟨[], []⟩)
theorem zAZ (h : List Due) (hL : h.length ≤ 12) : ∀ k : Nat, 1 ≤ k → loopL G [] l_due_Validate_1 ⟨[(0, .d (.sl (h.map eD))), (5, .d (.int .i64 k))], []⟩ = some (val1R h k) := by
 refine zjM (fun k => h.length - k) (fun k => 1 ≤ k) _ _ fun k hk L ih => ?_
 simp -implicitDefEqProofs only [l_due_Validate_1, List.length_map, go_sem]
 by_cases hlt : k < h.length
 · have hb := znO h k ((k - 1) / 2) hlt (by omega)
   have hq : IntKind.i64.wrap (((k : Int) - 1).tdiv 2) = (((k - 1) / 2 : Nat) : Int) := by
    rw [wrapN (by rw [Int.tdiv_eq_ediv_of_nonneg (by omega)]; omega) (by rw [Int.tdiv_eq_ediv_of_nonneg (by omega)]; omega), Int.tdiv_eq_ediv_of_nonneg (by omega)]; omega
   simp -implicitDefEqProofs only [show ((k : Int) < (h.length : Int)) by omega, wrapN (show -4294967296 ≤ (k : Int) - 1 by omega) (by omega), hq, hb, wrap1 hlt (show h.length ≤ LIM by simp [LIM]; omega), show ¬ ((2 : Int) = 0) by decide, go_sem]
   have i1 := ih (k + 1) (by omega) (by omega)
   simp only [Int.natCast_add, Int.natCast_one] at i1
   rw [i1]
   unfold val1R
   rw [show h.length - k = (h.length - (k + 1)) + 1 by omega, List.range'_succ, List.any_cons]
   have hd : ordAt h k = lt h[k] h[(k - 1) / 2] := by simp [ordAt, hlt, show (k - 1) / 2 < h.length by omega]
   rw [hd]
   cases lt h[k] h[(k - 1) / 2]
   · simp -implicitDefEqProofs only [go_sem]
   · simp -implicitDefEqProofs only [go_sem]
 · simp -implicitDefEqProofs only [show ¬ ((k : Int) < (h.length : Int)) by omega, go_sem]
   simp [val1R, show h.length - k = 0 by omega]
theorem zpa (h : List Due) (hL : h.length ≤ LIM) : callL G z1x [.d (.sl (h.map eD))] [] = some (.d (.int .i64 (validateD h)), []) := by
 have h1 := zuF (h.map eD) z0J [] invalidB (by simpa using hL) (fun e he => by obtain ⟨d, _, rfl⟩ := List.mem_map.1 he; rfl) (fun e he => by
  obtain ⟨d, _, rfl⟩ := List.mem_map.1 he
  exact ztv d)
 have h2 : (h.map eD).any invalidB = h.any (fun d => !validD d) := by rw [List.any_map]; rfl
 rw [h2] at h1
 rw [zjI zf3 (by simp)]; simp -implicitDefEqProofs only [z9Y, go_sem]
 simp -implicitDefEqProofs only [h1, List.length_map, go_sem]
 unfold validateD
 by_cases h12 : 12 < h.length
 · simp -implicitDefEqProofs only [h12, show (12 < (h.length : Int)) by omega, go_sem]
 · have e0 := zAY h (by omega) 0 (by omega)
   have e1 := zAZ h (by omega) 1 (by omega)
   simp only [Int.natCast_zero] at e0
   simp only [Int.natCast_one] at e1
   cases hA : h.any (fun d => !validD d)
   · simp -implicitDefEqProofs only [hA, h12, show ¬ (12 < (h.length : Int)) by omega, e0, val0R, Nat.sub_zero, go_sem]
     cases hB : (List.range' 0 h.length).any (dupAt h)
     · simp -implicitDefEqProofs only [hB, e1, val1R, go_sem]
       cases hC : (List.range' 1 (h.length - 1)).any (ordAt h) <;> simp -implicitDefEqProofs only [hC, go_sem]
     · simp -implicitDefEqProofs only [hB, go_sem]
   · simp -implicitDefEqProofs only [hA, h12, show ¬ (12 < (h.length : Int)) by omega, go_sem]
abbrev rowL (h : List Due) : Go.Sim.Obj := .row ((h.map eD).map .d)
def swp (l : List Due) (i j : Nat) : List Due := (l.set i (l.getD j (0, 0))).set j (l.getD i (0, 0))
theorem zjP (l : List Due) (i j : Nat) : (swp l i j).length = l.length := by simp [swp]
def upL (l : List Due) (i : Nat) : List Due × Nat :=
 if 0 < i then
  if lt (l.getD i (0, 0)) (l.getD ((i - 1) / 2) (0, 0)) then upL (swp l i ((i - 1) / 2)) ((i - 1) / 2) else (l, i)
 else (l, i)
termination_by i
decreasing_by omega
theorem rowGet (l : List Due) (i : Nat) (h : i < l.length) : (List.map AV.d (List.map eD l))[i]? = some (.d (eD (l.getD i (0, 0)))) := by
 simp [List.getElem?_map, List.getElem?_eq_getElem h, h]
theorem rowAll (l : List Due) : List.take l.length (List.map AV.d (List.map eD l)) = List.map AV.d (List.map eD l) := by
 rw [List.take_of_length_le]; simp
def upS (l : List Due) (i : Nat) : St := ⟨[(0, .osl 1000000 0 l.length), (1, .d (.int .i64 i)), (1000000, .ref 1000000 1 0)], [(1000000, rowL l)]⟩
def upE (l : List Due) (i : Nat) : St := ⟨[(1, .d (.int .i64 i)), (1000000, .ref 1000000 1 0)], [(1000000, rowL l)]⟩
theorem zjy : ∀ p : List Due × Nat, p.2 < p.1.length ∧ p.1.length ≤ 1000 → loopL G [] l_due_up_0 (upS p.1 p.2) = some (.exit 0, upE (upL p.1 p.2).1 (upL p.1 p.2).2) := by
 refine zjM (fun p : List Due × Nat => p.2) (fun p : List Due × Nat => p.2 < p.1.length ∧ p.1.length ≤ 1000) (fun p : List Due × Nat => upS p.1 p.2) _ fun ⟨l, i⟩ ⟨hi, hL⟩ L ih => ?_
 simp only [upS, upE, rowL] at hi hL ih ⊢
 simp only [l_due_up_0]
 rw [upL]
 by_cases h0 : 0 < i
 · have hj : (i - 1) / 2 < l.length := by omega
   have hb := znO l i ((i - 1) / 2) hi hj
   have hq : ((i : Int) - 1).tdiv 2 = (((i - 1) / 2 : Nat) : Int) := by rw [Int.tdiv_eq_ediv_of_nonneg (by omega)]; omega
   have i1 := ih (swp l i ((i - 1) / 2), (i - 1) / 2) ⟨by simp only [zjP]; omega, by simp only [zjP]; omega⟩ (by simp only; omega)
   rw [if_pos h0, getDT hi, getDT hj]
   clear ih
   simp only [zjP] at i1
   generalize hr : upL (swp l i ((i - 1) / 2)) ((i - 1) / 2) = r at *
   clear hr
   cases hlt : lt l[i] l[(i - 1) / 2]
   · rw [hlt] at hb
     simp only [if_false, Bool.false_eq_true]
     clear i1 hlt
     simp -implicitDefEqProofs (disch := omega) only [getDT, go_sem, *]
   · rw [hlt] at hb
     simp only [if_true]
     unfold swp at i1
     rw [getDT hi, getDT hj] at i1
     simp only [Int.natCast_add, Int.natCast_one, Int.natCast_zero, Int.natCast_mul, Int.cast_ofNat_Int, List.length_append, List.length_map, List.map_nil, List.length_nil, List.map_append, List.map_cons, List.length_cons, Nat.zero_add, srcO, mapSet] at i1
     have hs2 : (((l.map eD).set i (eD l[(i - 1) / 2])).map AV.d)[(i - 1) / 2]? = some (.d (eD l[(i - 1) / 2])) := by
      rw [List.getElem?_map, List.getElem?_set_ne (by omega), List.getElem?_map, List.getElem?_eq_getElem hj]; rfl
     clear hlt
     simp -implicitDefEqProofs (disch := omega) only [getDT, go_sem, *]
 · rw [if_neg h0]
   clear ih
   simp -implicitDefEqProofs (disch := omega) only [getDT, go_sem, *]
theorem zqo (l : List Due) (i : Nat) : (upL l i).1.length = l.length := by
 fun_induction upL l i with
 | case1 l i h0 h1 ih => rw [ih, zjP]
 | case2 => rfl
 | case3 => rfl
theorem zeF (h : List Due) (i : Nat) (hi : i < h.length) (hL : h.length ≤ 1000) : callL G z1B [.osl 1000000 0 h.length, .d (.int .i64 i)] [(1000000, rowL h)] = some (.d (.int .i64 (upL h i).2), [(1000000, rowL (upL h i).1)]) := by
 have := zjy (h, i) ⟨hi, hL⟩
 simp only [upS, upE, rowL] at this
 rw [zjI zbj (by simp)]; simp -implicitDefEqProofs (disch := omega) only [za5, go_sem, Nat.zero_add]
 simp -implicitDefEqProofs (disch := omega) only [rowL, this, go_sem]
def downL (l : List Due) (i : Nat) : List Due :=
 if _h : 2 * i + 1 < l.length then
  let k := if 2 * i + 1 + 1 < l.length ∧ lt (l.getD (2 * i + 1 + 1) (0, 0)) (l.getD (2 * i + 1) (0, 0)) then 2 * i + 1 + 1 else 2 * i + 1
  if lt (l.getD k (0, 0)) (l.getD i (0, 0)) then downL (swp l i k) k else l
 else l
termination_by l.length - i
decreasing_by simp only [zjP]; split <;> omega
theorem zv7 : ∀ p : List Due × Nat, p.2 < p.1.length ∧ p.1.length ≤ 1000 → loopL G [] l_due_down_0 (upS p.1 p.2) = some (.ret, ⟨[(1000000, .ref 1000000 1 0)], [(1000000, rowL (downL p.1 p.2))]⟩) := by
 refine zjM (fun p : List Due × Nat => p.1.length - p.2) (fun p : List Due × Nat => p.2 < p.1.length ∧ p.1.length ≤ 1000) (fun p : List Due × Nat => upS p.1 p.2) _ fun ⟨l, i⟩ ⟨hi, hL⟩ L ih => ?_
 simp only [upS, rowL] at hi hL ih ⊢
 simp only [l_due_down_0]
 rw [downL]
 have hjc : 2 * (i : Int) + 1 = ((2 * i + 1 : Nat) : Int) := by omega
 have hij : i < 2 * i + 1 ∧ 2 * i + 1 ≤ 2 * l.length := by omega
 generalize 2 * i + 1 = j at *
 by_cases h1 : j < l.length
 · have fin : ∀ k : Nat, i < k → (hk : k < l.length) → L ⟨[(0, .osl 1000000 0 l.length), (1, .d (.int .i64 k)), (1000000, .ref 1000000 1 0)], [(1000000, .row ((((l.map eD).set i (eD l[k])).set k (eD l[i])).map .d))]⟩ = some (.ret, ⟨[(1000000, .ref 1000000 1 0)], [(1000000, .row (List.map .d (List.map eD (downL (swp l i k) k))))]⟩) ∧
       (((l.map eD).set i (eD l[k])).map AV.d)[k]? = some (.d (eD l[k])) := by
    intro k h1 h2
    have i1 := ih (swp l i k, k) ⟨by simp only [zjP]; omega, by simp only [zjP]; omega⟩ (by simp only [zjP]; omega)
    simp only [zjP] at i1
    generalize downL (swp l i k) k = r at *
    unfold swp at i1
    rw [getDT hi, getDT h2] at i1
    simp only [Int.natCast_add, Int.natCast_one, Int.natCast_zero, Int.natCast_mul, Int.cast_ofNat_Int, List.length_append, List.length_map, List.map_nil, List.length_nil, List.map_append, List.map_cons, List.length_cons, Nat.zero_add, srcO, mapSet] at i1
    refine ⟨i1, ?_⟩
    rw [List.getElem?_map, List.getElem?_set_ne (by omega), List.getElem?_map, List.getElem?_eq_getElem h2]; rfl
   have hd := znO l j i h1 hi
   obtain ⟨f1, s1⟩ := fin j hij.1 h1
   rw [dif_pos h1]
   rw [getDT hi, getDT h1]
   by_cases h2 : j + 1 < l.length
   · have hb := znO l (j + 1) j h2 h1
     have hc := znO l (j + 1) i h2 hi
     obtain ⟨f2, s2⟩ := fin (j + 1) (by omega) h2
     rw [getDT h2]
     clear ih fin
     cases hlt : lt l[j + 1] l[j]
     · rw [hlt] at hb
       simp only [Bool.false_eq_true, and_false, if_false]
       rw [getDT h1]
       generalize downL (swp l i j) j = r1 at *
       clear f2 s2 hc
       cases hlt2 : lt l[j] l[i]
       · rw [hlt2] at hd
         simp only [Bool.false_eq_true, if_false]
         clear f1 s1
         simp only [Int.natCast_add, Int.natCast_one, Int.natCast_zero, Int.natCast_mul, Int.cast_ofNat_Int, List.length_append, List.length_map, List.map_nil, List.length_nil, List.map_append, List.map_cons, List.length_cons, Nat.zero_add, srcO, mapSet] at hb hd
         simp -implicitDefEqProofs (disch := omega) only [getDT, go_sem, *]
       · rw [hlt2] at hd
         simp only [if_true]
         simp only [Int.natCast_add, Int.natCast_one, Int.natCast_zero, Int.natCast_mul, Int.cast_ofNat_Int, List.length_append, List.length_map, List.map_nil, List.length_nil, List.map_append, List.map_cons, List.length_cons, Nat.zero_add, srcO, mapSet] at hb hd f1
         simp -implicitDefEqProofs (disch := omega) only [getDT, go_sem, *]
     · rw [hlt] at hb
       simp only [h2, and_self, if_true]
       rw [getDT h2]
       generalize downL (swp l i (j + 1)) (j + 1) = r2 at *
       clear f1 s1 hd
       cases hlt2 : lt l[j + 1] l[i]
       · rw [hlt2] at hc
         simp only [Bool.false_eq_true, if_false]
         clear f2 s2
         simp only [Int.natCast_add, Int.natCast_one, Int.natCast_zero, Int.natCast_mul, Int.cast_ofNat_Int, List.length_append, List.length_map, List.map_nil, List.length_nil, List.map_append, List.map_cons, List.length_cons, Nat.zero_add, srcO, mapSet] at hb hc
         simp -implicitDefEqProofs (disch := omega) only [getDT, go_sem, *]
       · rw [hlt2] at hc
         simp only [if_true]
         simp only [Int.natCast_add, Int.natCast_one, Int.natCast_zero, Int.natCast_mul, Int.cast_ofNat_Int, List.length_append, List.length_map, List.map_nil, List.length_nil, List.map_append, List.map_cons, List.length_cons, Nat.zero_add, srcO, mapSet] at hb hc f2
         simp -implicitDefEqProofs (disch := omega) only [getDT, go_sem, *]
   · simp only [h2, false_and, if_false]
     rw [getDT h1]
     generalize downL (swp l i j) j = r1 at *
     clear ih fin
     cases hlt2 : lt l[j] l[i]
     · rw [hlt2] at hd
       (try simp only [Bool.false_eq_true, if_false])
       clear f1 s1
       (try (simp only [Int.natCast_add, Int.natCast_one, Int.natCast_zero, Int.natCast_mul, Int.cast_ofNat_Int, List.length_append, List.length_map, List.map_nil, List.length_nil, List.map_append, List.map_cons, List.length_cons, Nat.zero_add, srcO, mapSet] at hd))
       simp -implicitDefEqProofs (disch := omega) only [getDT, go_sem, *]
     · rw [hlt2] at hd
       (try simp only [if_true])
       (try (simp only [Int.natCast_add, Int.natCast_one, Int.natCast_zero, Int.natCast_mul, Int.cast_ofNat_Int, List.length_append, List.length_map, List.map_nil, List.length_nil, List.map_append, List.map_cons, List.length_cons, Nat.zero_add, srcO, mapSet] at hd))
       (try (simp only [Int.natCast_add, Int.natCast_one, Int.natCast_zero, Int.natCast_mul, Int.cast_ofNat_Int, List.length_append, List.length_map, List.map_nil, List.length_nil, List.map_append, List.map_cons, List.length_cons, Nat.zero_add, srcO, mapSet] at f1))
       simp -implicitDefEqProofs (disch := omega) only [getDT, go_sem, *]
 · rw [dif_neg h1]
   clear ih
   simp -implicitDefEqProofs (disch := omega) only [getDT, go_sem, *]
theorem zv8 (h : List Due) (i : Nat) (hi : i < h.length) (hL : h.length ≤ 1000) : callL G z1z [.osl 1000000 0 h.length, .d (.int .i64 i)] [(1000000, rowL h)] = some (.d (.tup []), [(1000000, rowL (downL h i))]) := by
 have := zv7 (h, i) ⟨hi, hL⟩
 simp only [upS, rowL] at this
 rw [zjI zbg (by simp)]; simp -implicitDefEqProofs (disch := omega) only [za2, go_sem, Nat.zero_add]
 simp -implicitDefEqProofs (disch := omega) only [rowL, this, go_sem]
def pushL (h : List Due) (d : Due) : List Due := (upL (h ++ [d]) h.length).1
def pushE (h : List Due) (d : Due) : Int := if validateD h ≠ 0 then validateD h else if validD d = false then 1 else if h.length = 12 then 3 else if 0 ≤ findD h d.2 then 10 else 0
def pushD (h : List Due) (d : Due) : List Due × Int := (if pushE h d = 0 then pushL h d else [], pushE h d)
def eDE (r : List Due × Int) : D := .tup [.sl (r.1.map eD), .int .i64 r.2]
theorem zok {h : List Due} (h0 : validateD h = 0) : h.length ≤ 12 := by
 unfold validateD at h0
 split at h0
 · cases h0
 · omega
theorem zsx (h : List Due) (d : Due) (hL : h.length ≤ LIM) : callL G zX [.d (.sl (h.map eD)), .d (eD d)] [] = some (.d (eDE (pushD h d)), []) := by
 have hv := zpa h hL
 have hf := find_ok h d.2 hL
 have hd := ztn d
 have hc := zpl (h.map eD) (zjT h) (by simpa using hL)
 have hL2 : h.length ≤ 4294967296 := hL
 unfold pushD pushE eDE
 by_cases h0 : validateD h = 0
 · have h12 := zok h0
   rw [h0] at hv
   simp only [h0, ne_eq, not_true_eq_false, if_false]
   clear h0
   cases h1 : validD d
   · rw [h1] at hd
     simp only [if_true, List.map_nil, show ((1 : Int) = 0) = False by simp, if_false]
     clear h1 hf
     rw [zjI z3j (by simp)]; simp -implicitDefEqProofs (disch := omega) only [z19, getDT, go_sem, *]
   · rw [h1] at hd
     simp only [Bool.true_eq_false, if_false]
     clear h1
     by_cases h2 : h.length = 12
     · simp only [h2, if_true, List.map_nil, show ((3 : Int) = 0) = False by simp, if_false]
       clear hf
       rw [zjI z3j (by simp)]; simp -implicitDefEqProofs (disch := omega) only [z19, getDT, go_sem, *]
     · simp only [h2, if_false]
       by_cases h3 : 0 ≤ findD h d.2
       · simp only [h3, if_true, List.map_nil, show ((10 : Int) = 0) = False by simp, if_false]
         rw [zjI z3j (by simp)]; simp -implicitDefEqProofs (disch := omega) only [z19, getDT, go_sem, *]
       · simp only [h3, if_false, if_true]
         obtain ⟨l, hl⟩ : ∃ l, l = h ++ [d] := ⟨_, rfl⟩
         have e1 : h.map eD ++ [D.agg [.int .i64 d.1, .int .i64 d.2]] = l.map eD := by simp [eD, hl]
         have e2 : l.length = h.length + 1 := by simp [hl]
         have hu := zeF l h.length (by omega) (by omega)
         unfold pushL
         rw [← hl]
         have hul := zqo l h.length
         generalize upL l h.length = r at *
         simp only [rowL, e2] at hu hul
         have e3 : (h.length : Int) + 1 - 1 = h.length := by omega
         simp only [eD] at hd ⊢
         clear hl
         rw [zjI z3j (by simp)]; simp -implicitDefEqProofs (disch := omega) only [z19, getDT, go_sem, *]
 · simp only [h0, ne_eq, not_false_eq_true, if_true, if_false, List.map_nil]
   clear hf hc hd
   rw [zjI z3j (by simp)]; simp -implicitDefEqProofs (disch := omega) only [z19, getDT, go_sem, *]
theorem zv5 (l : List Due) (i : Nat) : (downL l i).length = l.length := by
 fun_induction downL l i with
 | case1 l i h k h1 ih => rw [ih, zjP]
 | case2 => rfl
 | case3 => rfl
def dropL (h : List Due) (i : Nat) : List Due :=
 if i = h.length - 1 then h.take (h.length - 1) else
 let l := (h.take (h.length - 1)).set i (h.getD (h.length - 1) (0, 0))
 if (upL l i).2 = i then downL (upL l i).1 i else (upL l i).1
theorem zvb (h : List Due) (i : Nat) (hi : i < h.length) (hL : h.length ≤ 1000) : callL G z0L [.d (.sl (h.map eD)), .d (.int .i64 i)] [] = some (.d (.sl ((dropL h i).map eD)), []) := by
 have hc := zpl ((h.take (h.length - 1)).map eD) (zjT _) (by simp [LIM]; omega)
 obtain ⟨m, hm⟩ : ∃ m, m = h.length - 1 := ⟨_, rfl⟩
 have hm2 : h.length = m + 1 := by omega
 obtain ⟨t, ht⟩ : ∃ t, t = h.take m := ⟨_, rfl⟩
 have htl : t.length = m := by simp [ht]; omega
 rw [← hm] at hc
 rw [← ht] at hc
 have e1 : List.take m (h.map eD) = t.map eD := by rw [ht, List.map_take]
 have e0 : (m : Int) + 1 - 1 = m := by omega
 have hs := zjT h
 have hs2 := zjT t
 unfold dropL
 rw [← hm, ← ht]
 clear hm ht
 by_cases hi2 : i = m
 · subst hi2
   rw [if_pos rfl]
   rw [zjI z62 (by simp)]; simp -implicitDefEqProofs (disch := omega) only [z3C, getDT, go_sem, *]
 · have hi3 : i < m := by omega
   rw [if_neg hi2]
   obtain ⟨l, hl⟩ : ∃ l, l = t.set i (h.getD m (0, 0)) := ⟨_, rfl⟩
   have hll : l.length = m := by rw [hl, List.length_set, htl]
   have hu := zeF l i (by omega) (by omega)
   simp only [rowL, hll] at hu
   rw [← hl]
   show callL G z0L _ _ = some (.d (.sl ((if (upL l i).2 = i then downL (upL l i).1 i else (upL l i).1).map eD)), [])
   have hu2 : (upL l i).1.length = m := by rw [zqo, hll]
   have hd := zv8 (upL l i).1 i (by omega) (by omega)
   have hd2 : (downL (upL l i).1 i).length = m := by rw [zv5, hu2]
   simp only [rowL, hu2] at hd
   have e5 : (t.map eD).set i (eD h[m]) = l.map eD := by rw [hl, getDT (by omega), List.map_set]
   generalize downL (upL l i).1 i = r2 at *
   generalize upL l i = r at *
   clear hl hi2
   by_cases h4 : r.2 = i
   · rw [if_pos h4]
     rw [h4] at hu
     rw [zjI z62 (by simp)]; simp -implicitDefEqProofs (disch := omega) only [z3C, getDT, go_sem, *]; (try simp only [pA, pB, pC, pD, pE, pF, pG, pH, pI, pJ, pK, pL, pM, pN, pO, pP, if_true, if_false]); repeat' (first | done | rfl | ((first | refine iteC (fun hq => ?_) (fun hq => ?_) | refine iteP (fun hq => ?_) (fun hq => ?_)) <;> (try (first | (exfalso; omega) | contradiction)) <;> (try simp -implicitDefEqProofs (disch := omega) only [getDT, go_sem, *]) <;> (try simp only [pA, pB, pC, pD, pE, pF, pG, pH, pI, pJ, pK, pL, pM, pN, pO, pP, if_true, if_false]))); (all_goals try rfl); (all_goals try (repeat' (first | done | rfl | (exfalso; omega) | contradiction | (refine iteR (fun hq => ?_) (fun hq => ?_)))))
   · rw [if_neg h4]
     clear hd hd2
     rw [zjI z62 (by simp)]; simp -implicitDefEqProofs (disch := omega) only [z3C, getDT, go_sem, *]; (try simp only [pA, pB, pC, pD, pE, pF, pG, pH, pI, pJ, pK, pL, pM, pN, pO, pP, if_true, if_false]); repeat' (first | done | rfl | ((first | refine iteC (fun hq => ?_) (fun hq => ?_) | refine iteP (fun hq => ?_) (fun hq => ?_)) <;> (try (first | (exfalso; omega) | contradiction)) <;> (try simp -implicitDefEqProofs (disch := omega) only [getDT, go_sem, *]) <;> (try simp only [pA, pB, pC, pD, pE, pF, pG, pH, pI, pJ, pK, pL, pM, pN, pO, pP, if_true, if_false]))); (all_goals try rfl); (all_goals try (repeat' (first | done | rfl | (exfalso; omega) | contradiction | (refine iteR (fun hq => ?_) (fun hq => ?_)))))
def removeD (h : List Due) (id : Int) : List Due × Int :=
 if validateD h ≠ 0 then ([], validateD h) else if findD h id < 0 then ([], 4) else (dropL h (findD h id).toNat, 0)
theorem zrb (h : List Due) (id : Int) : findD h id < h.length := by
 unfold findD idxI
 cases e : List.findIdx? (fun d : Due => decide (d.2 = id)) h with
 | none => simp only; omega
 | some i => have := (List.findIdx?_eq_some_iff_getElem.1 e).1; simp only; omega
theorem zsO (h : List Due) (id : Int) (hL : h.length ≤ LIM) : callL G zY [.d (.sl (h.map eD)), .d (.int .i64 id)] [] = some (.d (eDE (removeD h id)), []) := by
 have hv := zpa h hL
 have hf := find_ok h id hL
 have hs := zjT h
 unfold removeD eDE
 rw [zjI zf2 (by simp)]; simp -implicitDefEqProofs (disch := omega) only [z9X, go_sem, Nat.zero_add]
 by_cases h0 : validateD h = 0
 · have h12 := zok h0
   by_cases hn : findD h id < 0
   · simp -implicitDefEqProofs (disch := omega) only [hv, h0, hf, hn, go_sem]
   · have hd := zvb h (findD h id).toNat (by have := zrb h id; omega) (by omega)
     rw [show (((findD h id).toNat : Nat) : Int) = findD h id by omega] at hd
     simp -implicitDefEqProofs (disch := omega) only [hv, h0, hf, hn, hd, go_sem]
 · simp -implicitDefEqProofs (disch := omega) only [hv, h0, go_sem]
abbrev dz : Due := (0, 0)
theorem lt_iff (a b : Due) : lt a b = true ↔ a.1 < b.1 ∨ (a.1 = b.1 ∧ a.2 < b.2) := by
 unfold lt cmpD cmpI
 rw [decide_eq_true_iff]
 repeat' split
 all_goals omega
theorem lt_ff (a b : Due) : lt a b = false ↔ b.1 < a.1 ∨ (b.1 = a.1 ∧ b.2 ≤ a.2) := by
 rw [← Bool.not_eq_true, lt_iff]; omega
theorem zni {a b : Due} (h : lt a b = true) : lt b a = false := by rw [lt_iff] at h; rw [lt_ff]; omega
theorem le_trans' {a b c : Due} (h1 : lt b a = false) (h2 : lt c b = false) : lt c a = false := by rw [lt_ff] at *; omega
def HeapO (l : List Due) : Prop := ∀ k, 1 ≤ k → k < l.length → lt (l.getD k dz) (l.getD ((k - 1) / 2) dz) = false
theorem zqj (l : List Due) (i j k : Nat) (hi : i < l.length) (hj : j < l.length) : (swp l i j).getD k dz = if k = j then l.getD i dz else if k = i then l.getD j dz else l.getD k dz := by
 unfold swp
 simp only [List.getD_eq_getElem?_getD, List.getElem?_set, List.length_set]
 by_cases h1 : j = k
 · subst h1; simp [hj]
 · rw [if_neg h1, if_neg (Ne.symm h1)]
   by_cases h2 : i = k
   · subst h2; simp [hi]
   · rw [if_neg h2, if_neg (Ne.symm h2)]
theorem zqk (l : List Due) (i j : Nat) (hi : i < l.length) (hj : j < l.length) : (swp l i j).Perm l := by
 unfold swp
 have := List.set_set_perm hi hj
 simpa [hi, hj] using this
theorem zeG (l : List Due) (i : Nat) (hi : i < l.length) : (upL l i).1.Perm l := by
 fun_induction upL l i with
 | case1 l i h0 h1 ih => exact (ih (by rw [zjP]; omega)).trans (zqk l _ _ hi (by omega))
 | case2 => exact .refl _
 | case3 => exact .refl _
theorem zeC (l : List Due) (i : Nat) (hi : i < l.length) (h1 : ∀ k, 1 ≤ k → k < l.length → k ≠ i → lt (l.getD k dz) (l.getD ((k - 1) / 2) dz) = false)
    (h2 : ∀ k, 1 ≤ k → k < l.length → (k - 1) / 2 = i → 1 ≤ i → lt (l.getD k dz) (l.getD ((i - 1) / 2) dz) = false) : HeapO (upL l i).1 := by
 fun_induction upL l i with
 | case1 l i h0 hlt ih =>
  have hp : (i - 1) / 2 < l.length := by omega
  have e := fun k => zqj l i ((i - 1) / 2) k hi hp
  refine ih (by rw [zjP]; omega) (fun k ha hb hc => ?_) (fun k ha hb hc hd => ?_)
  · rw [zjP] at hb
    rw [e, e]
    by_cases hk : k = i
    · subst hk
      rw [if_neg (by omega), if_pos rfl, if_pos rfl]
      exact zni hlt
    · rw [if_neg hc, if_neg hk]
      by_cases hq : (k - 1) / 2 = (i - 1) / 2
      · rw [if_pos hq]
        have := h1 k ha hb hk
        rw [hq] at this
        exact le_trans' (zni hlt) this
      · rw [if_neg hq]
        by_cases hr : (k - 1) / 2 = i
        · rw [if_pos hr]; exact h2 k ha hb hr (by omega)
        · rw [if_neg hr]; exact h1 k ha hb hk
  · rw [zjP] at hb
    rw [e, e, if_neg (show k ≠ (i - 1) / 2 by omega), if_neg (show ((i - 1) / 2 - 1) / 2 ≠ (i - 1) / 2 by omega), if_neg (show ((i - 1) / 2 - 1) / 2 ≠ i by omega)]
    have hpp := h1 ((i - 1) / 2) hd hp (by omega)
    by_cases hk : k = i
    · rw [if_pos hk]; exact hpp
    · rw [if_neg hk]
      have := h1 k ha hb hk
      rw [hc] at this
      exact le_trans' hpp this
 | case2 l i h0 hlt =>
  intro k ha hb
  by_cases hk : k = i
  · subst hk; simpa using hlt
  · exact h1 k ha hb hk
 | case3 l i h0 =>
  intro k ha hb
  exact h1 k ha hb (by omega)
theorem zv9 (l : List Due) (i : Nat) (hi : i < l.length) : (downL l i).Perm l := by
 fun_induction downL l i with
 | case1 l i h k h1 ih =>
  have hk : k < l.length := by simp only [k]; split <;> omega
  exact (ih (by rw [zjP]; exact hk)).trans (zqk l _ _ hi hk)
 | case2 => exact .refl _
 | case3 => exact .refl _
theorem zv6 (l : List Due) (i : Nat) (hi : i < l.length) (h1 : ∀ k, 1 ≤ k → k < l.length → (k - 1) / 2 ≠ i → lt (l.getD k dz) (l.getD ((k - 1) / 2) dz) = false)
    (h2 : ∀ k, 1 ≤ k → k < l.length → (k - 1) / 2 = i → 1 ≤ i → lt (l.getD k dz) (l.getD ((i - 1) / 2) dz) = false) : HeapO (downL l i) := by
 fun_induction downL l i with
 | case1 l i h k hlt ih =>
  have hk : k < l.length ∧ i < k ∧ (k - 1) / 2 = i ∧ ∀ q, 1 ≤ q → q < l.length → (q - 1) / 2 = i → lt (l.getD q dz) (l.getD k dz) = false := by
   simp only [k]
   split
   · rename_i hc
     refine ⟨by omega, by omega, by omega, fun q ha hb hq => ?_⟩
     have : q = 2 * i + 1 ∨ q = 2 * i + 1 + 1 := by omega
     rcases this with rfl | rfl
     · exact zni hc.2
     · rw [lt_ff]; omega
   · rename_i hc
     refine ⟨by omega, by omega, by omega, fun q ha hb hq => ?_⟩
     have : q = 2 * i + 1 ∨ q = 2 * i + 1 + 1 := by omega
     rcases this with rfl | rfl
     · rw [lt_ff]; omega
     · simp only [hb, true_and, Bool.not_eq_true] at hc; exact hc
  obtain ⟨hk1, hk2, hk3, hk4⟩ := hk
  clear_value k
  have e := fun q => zqj l i k q hi hk1
  refine ih (by rw [zjP]; exact hk1) (fun q ha hb hc => ?_) (fun q ha hb hc hd => ?_)
  · rw [zjP] at hb
    rw [e, e]
    by_cases hq : q = k
    · subst hq
      rw [if_pos rfl, hk3, if_neg (by omega), if_pos rfl]
      exact zni hlt
    · rw [if_neg hq, if_neg hc]
      by_cases hr : q = i
      · subst hr
        rw [if_pos rfl, if_neg (by omega)]
        exact h2 k (by omega) hk1 hk3 ha
      · rw [if_neg hr]
        by_cases hs : (q - 1) / 2 = i
        · rw [if_pos hs]; exact hk4 q ha hb hs
        · rw [if_neg hs]; exact h1 q ha hb hs
  · rw [zjP] at hb
    rw [e, e, if_neg (show q ≠ k by omega), if_neg (show q ≠ i by omega), hk3, if_neg (by omega), if_pos rfl]
    have := h1 q ha hb (by omega)
    rw [hc] at this; exact this
 | case2 l i h k hlt =>
  intro q ha hb
  by_cases hq : (q - 1) / 2 = i
  · have hlt : lt (l.getD k dz) (l.getD i dz) = false := by simpa using hlt
    rw [hq]
    refine le_trans' hlt ?_
    simp only [k]
    have : q = 2 * i + 1 ∨ q = 2 * i + 1 + 1 := by omega
    split
    · rename_i hc
      rcases this with rfl | rfl
      · exact zni hc.2
      · rw [lt_ff]; omega
    · rename_i hc
      rcases this with rfl | rfl
      · rw [lt_ff]; omega
      · simp only [hb, true_and, Bool.not_eq_true] at hc; exact hc
  · exact h1 q ha hb hq
 | case3 l i h =>
  intro q ha hb
  exact h1 q ha hb (by omega)
theorem zr8 (h : List Due) (j : Int) : findD h j < h.length := by
 unfold findD idxI
 cases e : List.findIdx? (fun d : Due => decide (d.2 = j)) h with
 | none => simp only; omega
 | some i => have := (List.findIdx?_eq_some_iff_getElem.1 e).1; simp only; omega
theorem zvU (h : List Due) (j : Int) (h0 : 0 ≤ findD h j) : (h.getD (findD h j).toNat dz).2 = j := by
 revert h0
 unfold findD idxI
 cases e : List.findIdx? (fun d : Due => decide (d.2 = j)) h with
 | none => simp
 | some i =>
  obtain ⟨h1, h2, _⟩ := List.findIdx?_eq_some_iff_getElem.1 e
  simp only [Int.toNat_natCast]
  intro _
  simpa [h1] using h2
theorem zr9 (h : List Due) (j : Int) : findD h j < 0 ↔ j ∉ h.map (·.2) := by
 unfold findD idxI
 cases e : List.findIdx? (fun d : Due => decide (d.2 = j)) h with
 | none =>
  simp only [List.findIdx?_eq_none_iff, decide_eq_false_iff_not] at e
  simp only [show ((-1 : Int) < 0) by omega, true_iff, List.mem_map, not_exists, not_and]
  exact fun d hd => e d hd
 | some i =>
  obtain ⟨h1, h2, _⟩ := List.findIdx?_eq_some_iff_getElem.1 e
  simp only [decide_eq_true_eq] at h2
  refine ⟨fun h => by simp only at h; omega, fun hn => absurd (List.mem_map.2 ⟨_, List.getElem_mem h1, h2⟩) hn⟩
theorem zr7 (h : List Due) (i : Nat) (hi : i < h.length) (hd : (h.map (·.2)).Nodup) : findD h (h.getD i dz).2 = i := by
 unfold findD idxI
 have : List.findIdx? (fun d : Due => decide (d.2 = (h.getD i dz).2)) h = some i := by
  refine List.findIdx?_eq_some_iff_getElem.2 ⟨hi, by simp [hi], fun j hj => ?_⟩
  have := (List.pairwise_iff_getElem.1 hd) j i (by simp; omega) (by simpa using hi) hj
  simpa [hi] using this
 rw [this]
theorem zyq (h : List Due) (hf : ∀ i, i < h.length → findD h (h.getD i dz).2 = i) : (h.map (·.2)).Nodup := by
 refine List.pairwise_iff_getElem.2 fun i j hi hj hij => ?_
 simp only [List.length_map] at hi hj
 simp only [List.getElem_map]
 intro he
 have h1 := hf i hi
 have h2 := hf j hj
 simp only [List.getD_eq_getElem?_getD, List.getElem?_eq_getElem hi, List.getElem?_eq_getElem hj, Option.getD_some] at h1 h2
 rw [he] at h1
 omega
structure Ok (h : List Due) : Prop where
 len : h.length ≤ 12
 val : ∀ d ∈ h, validD d = true
 ids : (h.map (·.2)).Nodup
 ord : HeapO h
theorem zla (h : List Due) : validateD h = 0 ↔ Ok h := by
 unfold validateD
 by_cases h1 : 12 < h.length
 · rw [if_pos h1]; exact ⟨fun h => by omega, fun o => absurd o.len (by omega)⟩
 rw [if_neg h1]
 by_cases h2 : h.any (fun d => !validD d) = true
 · rw [if_pos h2]
   refine ⟨fun h => by omega, fun o => ?_⟩
   obtain ⟨d, hd, h3⟩ := List.any_eq_true.1 h2
   simp [o.val d hd] at h3
 rw [if_neg h2]
 have h2 : ∀ d ∈ h, validD d = true := by simpa using h2
 by_cases h3 : (List.range' 0 h.length).any (dupAt h) = true
 · rw [if_pos h3]
   refine ⟨fun h => by omega, fun o => ?_⟩
   obtain ⟨i, hi, h4⟩ := List.any_eq_true.1 h3
   simp only [List.mem_range'_1, Nat.zero_add] at hi
   simp [dupAt, zr7 h i hi.2 o.ids] at h4
   exact absurd (zr7 h i hi.2 o.ids) (by simpa [dz] using h4)
 rw [if_neg h3]
 have h3 : ∀ i, i < h.length → findD h (h.getD i dz).2 = i := by
  intro i hi
  simp only [List.any_eq_true, not_exists, not_and, List.mem_range'_1] at h3
  have := h3 i ⟨by omega, by omega⟩
  simpa [dupAt] using this
 by_cases h4 : (List.range' 1 (h.length - 1)).any (ordAt h) = true
 · rw [if_pos h4]
   refine ⟨fun h => by omega, fun o => ?_⟩
   obtain ⟨i, hi, h5⟩ := List.any_eq_true.1 h4
   simp only [List.mem_range'_1] at hi
   have := o.ord i hi.1 (by omega)
   unfold ordAt at h5
   rw [h5] at this; cases this
 rw [if_neg h4]
 refine ⟨fun _ => ⟨by omega, h2, zyq h h3, fun k ha hb => ?_⟩, fun _ => rfl⟩
 simp only [List.any_eq_true, not_exists, not_and, List.mem_range'_1] at h4
 have := h4 k ⟨by omega, by omega⟩
 simpa [ordAt] using this
theorem Ok.of_perm {h l : List Due} (hp : l.Perm h) (hl : h.length ≤ 12) (hv : ∀ d ∈ h, validD d = true) (hi : (h.map (·.2)).Nodup) (ho : HeapO l) : Ok l :=
 ⟨by rw [hp.length_eq]; exact hl, fun d hd => hv d (hp.mem_iff.1 hd), (hp.map _).nodup_iff.2 hi, ho⟩
theorem zri (h : List Due) (d : Due) (k : Nat) : (h ++ [d]).getD k dz = if k < h.length then h.getD k dz else if k = h.length then d else dz := by
 simp only [List.getD_eq_getElem?_getD, List.getElem?_append]
 split
 · rfl
 · rename_i hk
   by_cases hk2 : k = h.length
   · subst hk2; simp
   · rw [if_neg hk2, List.getElem?_eq_none (by simp; omega)]; rfl
theorem push_ok' {h : List Due} {d : Due} (o : Ok h) (hd : validD d = true) (hl : h.length < 12) (hn : d.2 ∉ h.map (·.2)) : pushD h d = (pushL h d, 0) ∧ Ok (pushL h d) ∧ (pushL h d).Perm (d :: h) := by
 have hp : (pushL h d).Perm (d :: h) := (zeG (h ++ [d]) h.length (by simp)).trans (List.perm_append_comm (l₂ := [d]))
 have he : pushE h d = 0 := by
  unfold pushE
  rw [(zla h).2 o, hd, if_neg (by simp), if_neg (by simp), if_neg (by omega), if_neg]
  have := (zr9 h d.2).2 hn; omega
 refine ⟨by unfold pushD; rw [he, if_pos rfl], .of_perm hp (by simp; omega) (fun x hx => by rcases List.mem_cons.1 hx with rfl | hx; exact hd; exact o.val x hx) (by simpa using ⟨by simpa using hn, o.ids⟩) ?_, hp⟩
 refine zeC _ _ (by simp) (fun k ha hb hc => ?_) (fun k ha hb hc => ?_)
 · simp only [List.length_append, List.length_cons, List.length_nil] at hb
   rw [zri, zri, if_pos (by omega), if_pos (by omega)]
   exact o.ord k ha (by omega)
 · simp only [List.length_append, List.length_cons, List.length_nil] at hb
   omega
theorem set_perm' : ∀ (l : List Due) (i : Nat) (b : Due), i < l.length → (l.getD i dz :: l.set i b).Perm (b :: l) := by
 intro l
 induction l with
 | nil => intro i b h; simp at h
 | cons x xs ih =>
  intro i b h
  cases i with
  | zero => exact .swap _ _ _
  | succ i =>
   simp only [List.length_cons, Nat.add_lt_add_iff_right] at h
   simp only [List.getD_cons_succ, List.set_cons_succ]
   exact (List.Perm.swap _ _ _).trans (((ih i b h).cons x).trans (.swap _ _ _))
theorem zAD (h : List Due) (h0 : 0 < h.length) : h = h.take (h.length - 1) ++ [h.getD (h.length - 1) dz] := by
 have := List.take_append_getLast h (by intro hn; simp [hn] at h0)
 rw [List.getLast_eq_getElem] at this
 simpa [show h.length - 1 < h.length by omega] using this.symm
theorem upL_at {l : List Due} {i : Nat} : (upL l i).2 ≤ i ∧ ((0 < i ∧ lt (l.getD i dz) (l.getD ((i - 1) / 2) dz) = true ∧ (upL l i).2 < i) ∨ (¬ (0 < i ∧ lt (l.getD i dz) (l.getD ((i - 1) / 2) dz) = true) ∧ upL l i = (l, i))) := by
 fun_induction upL l i with
 | case1 l i h0 hlt ih => exact ⟨by omega, .inl ⟨h0, hlt, by omega⟩⟩
 | case2 l i h0 hlt => exact ⟨by simp, .inr ⟨fun h => hlt h.2, rfl⟩⟩
 | case3 l i h0 => exact ⟨by simp, .inr ⟨fun h => h0 h.1, rfl⟩⟩
theorem drop_ok' {h : List Due} (o : Ok h) (i : Nat) (hi : i < h.length) : Ok (dropL h i) ∧ (h.getD i dz :: dropL h i).Perm h := by
 have hlast := zAD h (by omega)
 obtain ⟨m, hm⟩ : ∃ m, m = h.length - 1 := ⟨_, rfl⟩
 obtain ⟨t, ht⟩ : ∃ t, t = h.take m := ⟨_, rfl⟩
 have htl : t.length = m := by simp [ht]; omega
 have hg : ∀ k, k < m → t.getD k dz = h.getD k dz := fun k hk => by simp [ht, List.getElem?_take, hk]
 rw [← hm, ← ht] at hlast
 unfold dropL
 rw [← hm, ← ht]
 have key : ∀ l : List Due, (h.getD i dz :: l).Perm h → HeapO l → Ok l ∧ (h.getD i dz :: l).Perm h := fun l hp ho => by
  refine ⟨⟨?_, fun d hd => o.val d (hp.mem_iff.1 (by simp [hd])), ?_, ho⟩, hp⟩
  · have := hp.length_eq; simp at this; have := o.len; omega
  · have := ((hp.map (·.2)).nodup_iff).2 o.ids
    rw [List.map_cons, List.nodup_cons] at this
    exact this.2
 by_cases h1 : i = m
 · rw [if_pos h1]
   refine key t ?_ fun k ha hb => ?_
   · subst h1
     conv => rhs; rw [hlast]
     exact (List.perm_append_comm (l₁ := [_]))
   · rw [htl] at hb
     rw [hg _ hb, hg _ (by omega)]
     exact o.ord k ha (by omega)
 · rw [if_neg h1]
   have him : i < m := by omega
   simp only
   obtain ⟨x, hx⟩ : ∃ x, x = h.getD m dz := ⟨_, rfl⟩
   obtain ⟨l, hl⟩ : ∃ l, l = t.set i x := ⟨_, rfl⟩
   have hll : l.length = m := by rw [hl, List.length_set, htl]
   have hlg : ∀ k, k < m → l.getD k dz = if k = i then x else h.getD k dz := fun k hk => by
    rw [← hg k hk, hl]
    simp only [List.getD_eq_getElem?_getD, List.getElem?_set, htl]
    by_cases hki : k = i
    · subst hki; simp [hk]
    · rw [if_neg (Ne.symm hki), if_neg hki]
   have hp : (h.getD i dz :: l).Perm h := by
    rw [← hg i him, hl]
    refine (set_perm' t i x (by omega)).trans ?_
    rw [hlast, hx]
    conv => rhs; rw [← hlast]
    conv => rhs; rw [hlast]
    exact List.perm_append_comm (l₁ := [_])
   rw [← hx, ← hl]
   have ord := o.ord
   have hch : ∀ k, 1 ≤ k → k < l.length → (k - 1) / 2 = i → 1 ≤ i → lt (l.getD k dz) (l.getD ((i - 1) / 2) dz) = false := fun k ha hb hc hd => by
    rw [hlg k (by omega), hlg _ (by omega), if_neg (by omega), if_neg (by omega)]
    have a := ord k ha (by omega)
    have b := ord i hd (by omega)
    rw [hc] at a
    exact le_trans' b a
   rcases (upL_at (l := l) (i := i)).2 with ⟨h0, hlt, hmv⟩ | ⟨hno, heq⟩
   · rw [if_neg (by omega)]
     refine key _ (((zeG l i (by omega)).cons _).trans hp) (zeC l i (by omega) (fun k ha hb hc => ?_) hch)
     by_cases hq : (k - 1) / 2 = i
     · have a := hch k ha hb hq (by omega)
       rw [hq]
       exact le_trans' (zni hlt) a
     · rw [hlg k (by omega), hlg _ (by omega), if_neg hc, if_neg hq]
       exact ord k ha (by omega)
   · rw [heq, if_pos rfl]
     refine key _ (((zv9 l i (by omega)).cons _).trans hp) (zv6 l i (by omega) (fun k ha hb hc => ?_) hch)
     by_cases hk : k = i
     · subst hk
       rw [← Bool.not_eq_true]
       exact fun h => hno ⟨by omega, h⟩
     · rw [hlg k (by omega), hlg _ (by omega), if_neg hk, if_neg hc]
       exact ord k ha (by omega)
end Go.Proofs.YtcjncbkhbllchaaGreat
