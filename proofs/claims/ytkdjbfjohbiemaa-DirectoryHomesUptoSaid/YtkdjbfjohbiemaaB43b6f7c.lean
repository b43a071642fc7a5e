/-
  Owners of routes.
  Homes of slots.
  The walk of homes, inside.
  The law of homes.
-/
import Derived.Test.YtkdjbfjohbiemaaBcffed20
set_option linter.unusedSimpArgs false
set_option linter.unusedVariables false
namespace Go.Proofs.Ytkdjbfjohbiemaa
open Go Go.Sim
set_option linter.unusedSimpArgs false
set_option linter.unusedVariables false
set_option maxHeartbeats 10000000
set_option maxRecDepth 40000
theorem tile_ge : ∀ (l : List Span) (n m : Int), tileN n l = some m → ∀ x ∈ l, n ≤ x.low
  | [], _, _, _, x, hx => by cases hx
  | y :: l, n, m, h, x, hx => by
    rw [tileN] at h
    split at h
    · rename_i hc
      cases hx with
      | head => omega
      | tail _ hx => have := tile_ge l _ m h x hx; omega
    · cases h
theorem tile_pw : ∀ (l : List Span) (n m : Int), tileN n l = some m → l.Pairwise fun x y => x.high < y.low
  | [], _, _, _ => .nil
  | y :: l, n, m, h => by
    rw [tileN] at h
    split at h
    · exact .cons (fun x hx => by have := tile_ge l _ m h x hx; omega) (tile_pw l _ m h)
    · cases h
theorem tile_hit : ∀ (l : List Span) (n m r : Int), tileN n l = some m → n ≤ r → r < m → ∃ x ∈ l, inS r x = true
  | [], n, m, r, h, h1, h2 => by simp only [tileN, Option.some.injEq] at h; omega
  | y :: l, n, m, r, h, h1, h2 => by
    rw [tileN] at h
    split at h
    · rename_i hc
      by_cases c : r ≤ y.high
      · exact ⟨y, by simp, by unfold inS; simp only [Bool.and_eq_true, decide_eq_true_eq]; omega⟩
      · obtain ⟨x, hx, e⟩ := tile_hit l _ m r h (by omega) h2
        exact ⟨x, by simp [hx], e⟩
    · cases h
theorem tile_one {d : Directory} (h : Val d) {r : Int} {i j : Nat} (hi : i < d.l.length) (hj : j < d.l.length) (h1 : inS r d.l[i] = true) (h2 : inS r d.l[j] = true) : i = j := by
  have pw := List.pairwise_iff_getElem.1 (tile_pw d.l 0 65536 h.til)
  have htl := tile_in d.l 0 65536 (by omega) h.til
  unfold inS at h1 h2
  simp only [Bool.and_eq_true, decide_eq_true_eq] at h1 h2
  rcases Nat.lt_trichotomy i j with c | c | c
  · have := pw i j hi hj c; omega
  · exact c
  · have := pw j i hj hi c; omega
/-- The owner of a route: the shard of the one span that holds it. -/
theorem owner_spec {d : Directory} (h : Val d) {r : Int} (h0 : 0 ≤ r) (h1 : r < 65536) : ∃ (o : Nat) (ho : o < d.l.length), inS r d.l[o] = true ∧ ownerD d r = d.l[o].shard := by
  obtain ⟨x, hx, hin⟩ := tile_hit d.l 0 65536 r h.til h0 h1
  unfold ownerD
  rw [if_pos (of_val h)]
  cases hf : d.l.findIdx? (inS r) with
  | none =>
    have := List.findIdx?_eq_none_iff.1 hf x hx
    rw [hin] at this; cases this
  | some o =>
    obtain ⟨ho, h2, _⟩ := List.findIdx?_eq_some_iff_getElem.1 hf
    exact ⟨o, ho, h2, by simp only; rw [getDT ho]⟩
theorem owner_iff {d : Directory} (h : Val d) {r : Int} (h0 : 0 ≤ r) (h1 : r < 65536) (x : Span) (hx : x ∈ d.l) : inS r x = true ↔ x.shard = ownerD d r := by
  obtain ⟨o, ho, h2, e⟩ := owner_spec h h0 h1
  obtain ⟨i, hi, rfl⟩ := List.getElem_of_mem hx
  rw [e]
  constructor
  · intro h3
    have := tile_one h hi ho h3 h2
    subst this; rfl
  · intro h3
    have := nd_inj h.nd hi ho h3
    subst this; exact h2
theorem span_live {d : Directory} (h : Val d) (j : Int) : (0 ≤ findS d.l j ∧ ∃ x ∈ d.l, x.shard = j ∧ spanD d j = (x, true)) ∨ (findS d.l j < 0 ∧ spanD d j = (zSpan, false)) := by
  unfold spanD
  by_cases c : 0 ≤ findS d.l j
  · obtain ⟨i, hi, e, hs⟩ := findS_nat c
    refine .inl ⟨c, d.l[i], List.getElem_mem _, hs, ?_⟩
    rw [if_pos ⟨of_val h, c⟩, e, Int.toNat_natCast, getDT hi]
  · exact .inr ⟨by omega, by rw [if_neg (fun h => c h.2)]⟩
def ownS (l : List Int) (d : Directory) (r k : Int) (n i a : Nat) (p : Nat) : St := ⟨[(1, .d (.int .i64 r)), (5, .ref 18 0 0), (6, .d (.int .i64 n)), (7, .ref 7 0 0), (9, .d (.int .i64 i)), (12, .d (.int .i64 k)), (13, .d (.int .i64 (if k < p then 1 else 0))), (14, .d (.int .i64 p))], [(7, .row [.d (eDirectory d)]), (18, srcO l a)]⟩
theorem own_inner (l : List Int) (d : Directory) (hv : Val d) (hl : d.l.length ≤ 40) (r : Int) (hr : 0 ≤ r ∧ r < 65536) (n i a : Nat) (hn : d.forward.length = n) : ∀ p : Nat, p ≤ n → loopL G [] l_law10_DirectoryOwners_0 (ownS l d r (ownerD d r) n i a p) = some (.exit 2, ⟨[(1, .d (.int .i64 r)), (5, .ref 18 0 0), (6, .d (.int .i64 n)), (7, .ref 7 0 0), (9, .d (.int .i64 i)), (13, .d (.int .i64 1))], [(7, .row [.d (eDirectory d)]), (18, srcO l a)]⟩) := by
  refine loop_ind (fun p : Nat => n - p) (fun p : Nat => p ≤ n) (ownS l d r (ownerD d r) n i a) _ fun p hp L ih => ?_
  have n2 := hv.n2
  have hown := owner_iff hv hr.1 hr.2
  obtain ⟨hk, hlive⟩ : (0 ≤ ownerD d r ∧ ownerD d r < d.forward.length) ∧ 0 ≤ findS d.l (ownerD d r) := by
    obtain ⟨o, ho, _, hoe⟩ := owner_spec hv hr.1 hr.2
    rw [hoe]
    exact ⟨hv.sh d.l[o] (List.getElem_mem _), (live_iff _ _).2 ⟨d.l[o], List.getElem_mem _, rfl⟩⟩
  simp only [ownS] at ih hp ⊢
  simp only [l_law10_DirectoryOwners_0]
  by_cases h0 : p < n
  · have i1 := ih (p + 1) (by omega) (by omega)
    have hs := dSpan_ok d p (by omega) (by omega)
    have hsp := span_live hv p
    generalize ownerD d r = k at *
    rcases hsp with ⟨_, x, hx, hxs, e⟩ | ⟨_, e⟩
    · rw [e] at hs
      have hin := hown x hx
      unfold inS at hin
      simp only [Bool.and_eq_true, decide_eq_true_eq] at hin
      clear ih hown e hv
      by_cases c : k = p
      · rw [if_pos (by omega)] at i1
        rw [if_neg (by omega)]
        have hin2 := hin.2 (by omega)
        clear hin hlive
        subst c
        simp only [Int.natCast_add, Int.natCast_one, Int.natCast_zero, Int.natCast_mul, Int.cast_ofNat_Int, List.length_append, List.length_map, List.map_nil, List.length_nil, List.map_append, List.map_cons, List.length_cons, Nat.zero_add, srcO, mapSet] at i1
        (try simp -implicitDefEqProofs (maxSteps := 4000000) (disch := omega) only [getDT, go_sem, *]); (try simp only [pA, pB, pC, pD, pE, pF, pG, pH, pI, pJ, pK, pL, pM, pN, pO, pP, if_true, if_false]); repeat' (first | done | rfl | (refine iteC (fun hq => ?_) (fun hq => ?_) <;> (try (first | (exfalso; omega) | contradiction)) <;> (try simp -implicitDefEqProofs (maxSteps := 4000000) (disch := omega) only [getDT, go_sem, *]) <;> (try simp only [pA, pB, pC, pD, pE, pF, pG, pH, pI, pJ, pK, pL, pM, pN, pO, pP, if_true, if_false]))); (all_goals try rfl); (all_goals try (repeat' (first | done | rfl | (exfalso; omega) | contradiction | (refine iteR (fun hq => ?_) (fun hq => ?_)))))
      · rw [show (if k < ((p + 1 : Nat) : Int) then (1 : Int) else 0) = if k < (p : Int) then 1 else 0 by split <;> split <;> omega] at i1
        have hin2 := fun h => c ((hin.1 h).symm.trans hxs)
        generalize (if k < (p : Int) then (1 : Int) else 0) = z at *
        clear hin hlive
        simp only [Int.natCast_add, Int.natCast_one, Int.natCast_zero, Int.natCast_mul, Int.cast_ofNat_Int, List.length_append, List.length_map, List.map_nil, List.length_nil, List.map_append, List.map_cons, List.length_cons, Nat.zero_add, srcO, mapSet] at i1
        (try simp -implicitDefEqProofs (maxSteps := 4000000) (disch := omega) only [getDT, go_sem, *]); (try simp only [pA, pB, pC, pD, pE, pF, pG, pH, pI, pJ, pK, pL, pM, pN, pO, pP, if_true, if_false]); repeat' (first | done | rfl | (refine iteC (fun hq => ?_) (fun hq => ?_) <;> (try (first | (exfalso; omega) | contradiction)) <;> (try simp -implicitDefEqProofs (maxSteps := 4000000) (disch := omega) only [getDT, go_sem, *]) <;> (try simp only [pA, pB, pC, pD, pE, pF, pG, pH, pI, pJ, pK, pL, pM, pN, pO, pP, if_true, if_false]))); (all_goals try rfl); (all_goals try (repeat' (first | done | rfl | (exfalso; omega) | contradiction | (refine iteR (fun hq => ?_) (fun hq => ?_)))))
    · rw [e] at hs
      by_cases c : k = p
      · rw [c] at hlive; omega
      · rw [show (if k < ((p + 1 : Nat) : Int) then (1 : Int) else 0) = if k < (p : Int) then 1 else 0 by split <;> split <;> omega] at i1
        generalize (if k < (p : Int) then (1 : Int) else 0) = z at *
        clear ih hown e hv hlive
        simp only [Int.natCast_add, Int.natCast_one, Int.natCast_zero, Int.natCast_mul, Int.cast_ofNat_Int, List.length_append, List.length_map, List.map_nil, List.length_nil, List.map_append, List.map_cons, List.length_cons, Nat.zero_add, srcO, mapSet] at i1
        (try simp -implicitDefEqProofs (maxSteps := 4000000) (disch := omega) only [getDT, go_sem, *]); (try simp only [pA, pB, pC, pD, pE, pF, pG, pH, pI, pJ, pK, pL, pM, pN, pO, pP, if_true, if_false]); repeat' (first | done | rfl | (refine iteC (fun hq => ?_) (fun hq => ?_) <;> (try (first | (exfalso; omega) | contradiction)) <;> (try simp -implicitDefEqProofs (maxSteps := 4000000) (disch := omega) only [getDT, go_sem, *]) <;> (try simp only [pA, pB, pC, pD, pE, pF, pG, pH, pI, pJ, pK, pL, pM, pN, pO, pP, if_true, if_false]))); (all_goals try rfl); (all_goals try (repeat' (first | done | rfl | (exfalso; omega) | contradiction | (refine iteR (fun hq => ?_) (fun hq => ?_)))))
  · rw [if_pos (by omega)]
    clear ih hown hv hk hlive
    (try simp -implicitDefEqProofs (maxSteps := 4000000) (disch := omega) only [getDT, go_sem, *]); (try simp only [pA, pB, pC, pD, pE, pF, pG, pH, pI, pJ, pK, pL, pM, pN, pO, pP, if_true, if_false]); repeat' (first | done | rfl | (refine iteC (fun hq => ?_) (fun hq => ?_) <;> (try (first | (exfalso; omega) | contradiction)) <;> (try simp -implicitDefEqProofs (maxSteps := 4000000) (disch := omega) only [getDT, go_sem, *]) <;> (try simp only [pA, pB, pC, pD, pE, pF, pG, pH, pI, pJ, pK, pL, pM, pN, pO, pP, if_true, if_false]))); (all_goals try rfl); (all_goals try (repeat' (first | done | rfl | (exfalso; omega) | contradiction | (refine iteR (fun hq => ?_) (fun hq => ?_)))))
def own2S (l : List Int) (r : Int) (n : Nat) (p : Directory × Nat × Nat) : St := ⟨[(1, .d (.int .i64 r)), (5, .ref 18 0 0), (6, .d (.int .i64 n)), (7, .ref 7 0 0), (9, .d (.int .i64 p.2.2))], [(7, .row [.d (eDirectory p.1)]), (18, srcO l p.2.1)]⟩
theorem own_outer (l : List Int) (hL : l.length ≤ 4000) (r : Int) (hr : 0 ≤ r ∧ r < 65536) (n : Nat) (h1 : 1 ≤ n) (h2 : n ≤ 6) : ∀ p : Directory × Nat × Nat, (Val p.1 ∧ p.1.forward.length = n ∧ p.1.l.length ≤ 20 + p.2.2 ∧ p.2.2 ≤ 12) → loopL G [] l_law10_DirectoryOwners_1 (own2S l r n p) = some (.exit 0, ⟨[], []⟩) := by
  refine loop_ind (fun p : Directory × Nat × Nat => 12 - p.2.2) (fun p : Directory × Nat × Nat => Val p.1 ∧ p.1.forward.length = n ∧ p.1.l.length ≤ 20 + p.2.2 ∧ p.2.2 ≤ 12) (own2S l r n) _ fun ⟨d, a, i⟩ ⟨hv, hf, hk, hi⟩ L ih => ?_
  simp only [own2S] at ih hv hf hk hi ⊢
  simp only [l_law10_DirectoryOwners_1]
  by_cases h0 : i < 12
  · obtain ⟨e, a1, he, hc⟩ := edit_ok l a n hL (by omega) (by omega)
    have hp := dapply_ok d e (by omega) (by omega)
    have hx := fun h => (chg_of (e := e) hv h)
    generalize applyD d e = x at *
    obtain ⟨x1, x2⟩ := x
    simp only at hp hx
    have fin : ∀ y : Directory, Val y → y.forward.length = n → y.l.length ≤ 40 → callL G N_directory_Owner [.d (eDirectory y), .d (.int .i64 r)] [] = some (.d (.int .i64 (ownerD y r)), []) ∧ callL G N_directory_Validate [.d (eDirectory y)] [] = some (.d (.int .i64 0), []) ∧ loopL G [] l_law10_DirectoryOwners_0 (ownS l y r (ownerD y r) n i a1 0) = some (.exit 2, ⟨[(1, .d (.int .i64 r)), (5, .ref 18 0 0), (6, .d (.int .i64 n)), (7, .ref 7 0 0), (9, .d (.int .i64 i)), (13, .d (.int .i64 1))], [(7, .row [.d (eDirectory y)]), (18, srcO l a1)]⟩) := fun y hy h1 h2 =>
      ⟨downer_ok y r (by omega) (by have := hy.n2; omega), by have := dValidate_ok y (by omega) (by have := hy.n2; omega); rwa [of_val hy] at this, own_inner l y hy h2 r hr n i a1 h1 0 (by omega)⟩
    have hneg : ∀ y : Directory, Val y → (if ownerD y r < ((0 : Nat) : Int) then (1 : Int) else 0) = 0 := fun y hy => by
      obtain ⟨o, ho, _, hoe⟩ := owner_spec hy hr.1 hr.2
      have := hy.sh y.l[o] (List.getElem_mem _)
      rw [hoe, if_neg (by omega)]
    by_cases c : x2 = 0
    · have hg := hx c
      have hvx := hg.val hv
      obtain ⟨s1, s2⟩ := hg.same
      have i1 := ih (x1, a1, i + 1) ⟨hvx, s2.trans hf, by have := hg.len; simp only; omega, by simp only; omega⟩ (by simp only; omega)
      obtain ⟨f1, f2, f3⟩ := fin x1 hvx (s2.trans hf) (by have := hg.len; omega)
      simp only [ownS, hneg x1 hvx] at f3
      have v1 := hv.v1
      have v2 := hv.v2
      subst c
      generalize ownerD x1 r = k at *
      clear ih hx hg hv he hf hk fin hvx hneg
      simp only [Int.natCast_add, Int.natCast_one, Int.natCast_zero, Int.natCast_mul, Int.cast_ofNat_Int, List.length_append, List.length_map, List.map_nil, List.length_nil, List.map_append, List.map_cons, List.length_cons, Nat.zero_add, srcO, mapSet] at i1 f3
      (try simp -implicitDefEqProofs (maxSteps := 4000000) (disch := omega) only [getDT, go_sem, *]); (try simp only [pA, pB, pC, pD, pE, pF, pG, pH, pI, pJ, pK, pL, pM, pN, pO, pP, if_true, if_false]); repeat' (first | done | rfl | (refine iteC (fun hq => ?_) (fun hq => ?_) <;> (try (first | (exfalso; omega) | contradiction)) <;> (try simp -implicitDefEqProofs (maxSteps := 4000000) (disch := omega) only [getDT, go_sem, *]) <;> (try simp only [pA, pB, pC, pD, pE, pF, pG, pH, pI, pJ, pK, pL, pM, pN, pO, pP, if_true, if_false]))); (all_goals try rfl); (all_goals try (repeat' (first | done | rfl | (exfalso; omega) | contradiction | (refine iteR (fun hq => ?_) (fun hq => ?_)))))
    · have i1 := ih (d, a1, i + 1) ⟨hv, hf, by simp only; omega, by simp only; omega⟩ (by simp only; omega)
      obtain ⟨f1, f2, f3⟩ := fin d hv hf (by omega)
      simp only [ownS, hneg d hv] at f3
      generalize ownerD d r = k at *
      clear ih hx hv he hf hk fin hneg
      simp only [Int.natCast_add, Int.natCast_one, Int.natCast_zero, Int.natCast_mul, Int.cast_ofNat_Int, List.length_append, List.length_map, List.map_nil, List.length_nil, List.map_append, List.map_cons, List.length_cons, Nat.zero_add, srcO, mapSet] at i1 f3
      (try simp -implicitDefEqProofs (maxSteps := 4000000) (disch := omega) only [getDT, go_sem, *]); (try simp only [pA, pB, pC, pD, pE, pF, pG, pH, pI, pJ, pK, pL, pM, pN, pO, pP, if_true, if_false]); repeat' (first | done | rfl | (refine iteC (fun hq => ?_) (fun hq => ?_) <;> (try (first | (exfalso; omega) | contradiction)) <;> (try simp -implicitDefEqProofs (maxSteps := 4000000) (disch := omega) only [getDT, go_sem, *]) <;> (try simp only [pA, pB, pC, pD, pE, pF, pG, pH, pI, pJ, pK, pL, pM, pN, pO, pP, if_true, if_false]))); (all_goals try rfl); (all_goals try (repeat' (first | done | rfl | (exfalso; omega) | contradiction | (refine iteR (fun hq => ?_) (fun hq => ?_)))))
  · clear ih hv
    (try simp -implicitDefEqProofs (maxSteps := 4000000) (disch := omega) only [getDT, go_sem, *]); (try simp only [pA, pB, pC, pD, pE, pF, pG, pH, pI, pJ, pK, pL, pM, pN, pO, pP, if_true, if_false]); repeat' (first | done | rfl | (refine iteC (fun hq => ?_) (fun hq => ?_) <;> (try (first | (exfalso; omega) | contradiction)) <;> (try simp -implicitDefEqProofs (maxSteps := 4000000) (disch := omega) only [getDT, go_sem, *]) <;> (try simp only [pA, pB, pC, pD, pE, pF, pG, pH, pI, pJ, pK, pL, pM, pN, pO, pP, if_true, if_false]))); (all_goals try rfl); (all_goals try (repeat' (first | done | rfl | (exfalso; omega) | contradiction | (refine iteR (fun hq => ?_) (fun hq => ?_)))))
end Go.Proofs.Ytkdjbfjohbiemaa

namespace Go.Proofs.Ytkdjbfjohbiemaa
open Go Go.Sim
set_option linter.unusedSimpArgs false
set_option linter.unusedVariables false
set_option maxHeartbeats 10000000
set_option maxRecDepth 40000
theorem getD_set {F : List Int} {k j : Nat} {v : Int} (hk : k < F.length) : (F.set k v).getD j 0 = if j = k then v else F.getD j 0 := by
  rw [List.getD_eq_getElem?_getD, List.getElem?_set]
  by_cases c : k = j
  · rw [if_pos c, if_pos hk, if_pos c.symm]; rfl
  · rw [if_neg c, if_neg (fun e => c e.symm), List.getD_eq_getElem?_getD]
/-- What the law keeps account of: the slots that were ever live. -/
structure Ever (d : Directory) (E : Nat → Bool) : Prop where
  a : ∀ j, j < d.forward.length → (E j = true ↔ 0 ≤ findS d.l j ∨ 0 ≤ d.forward.getD j 0)
  b : ∀ j, j < d.forward.length → 0 ≤ d.forward.getD j 0 → E (d.forward.getD j 0).toNat = true
theorem homeF_end {d : Directory} : ∀ (m : Nat) (a : Int), chase d.forward m a < 0 → homeF d m a < 0 ∨ 0 ≤ findS d.l (homeF d m a)
  | 0, a, h => .inl h
  | m + 1, a, h => by
    rw [homeF]
    by_cases c : 0 ≤ a ∧ findS d.l a < 0
    · rw [if_pos c]
      rw [chase, if_pos c.1] at h
      exact homeF_end m _ h
    · rw [if_neg c]
      by_cases h0 : 0 ≤ a
      · exact .inr (by omega)
      · exact .inl (by omega)
theorem homeF_ever {d : Directory} {E : Nat → Bool} (hv : Val d) (he : Ever d E) : ∀ (m : Nat) (a : Int), 0 ≤ a → a < d.forward.length → chase d.forward m a < 0 → (0 ≤ homeF d m a ↔ E a.toNat = true)
  | 0, a, h0, _, h => by simp only [chase] at h; omega
  | m + 1, a, h0, h1, h => by
    have ha := he.a a.toNat (by omega)
    rw [show ((a.toNat : Nat) : Int) = a by omega] at ha
    rw [homeF]
    by_cases c : findS d.l a < 0
    · rw [if_pos ⟨h0, c⟩]
      rw [chase, if_pos h0] at h
      have hlt : a.toNat < d.forward.length := by omega
      have hr := hv.rng d.forward[a.toNat] (List.getElem_mem _)
      by_cases c2 : 0 ≤ d.forward.getD a.toNat 0
      · have hb := he.b a.toNat hlt c2
        have := homeF_ever hv he m _ c2 (by rw [getDT hlt]; exact hr.2) h
        rw [ha, this]
        exact ⟨fun _ => .inr c2, fun _ => hb⟩
      · have e : homeF d m (d.forward.getD a.toNat 0) = d.forward.getD a.toNat 0 := by
          cases m with
          | zero => rfl
          | succ m => rw [homeF, if_neg (by omega)]
        rw [e, ha]; omega
    · rw [if_neg (by omega), ha]
      exact ⟨fun _ => .inl (by omega), fun _ => h0⟩
theorem home_spec {d : Directory} {E : Nat → Bool} (hv : Val d) (he : Ever d E) {j : Nat} (hj : j < d.forward.length) : (0 ≤ homeD d j ↔ E j = true) ∧ (0 ≤ homeD d j → 0 ≤ findS d.l (homeD d j)) ∧ (0 ≤ findS d.l j → homeD d j = j) := by
  unfold homeD
  rw [if_neg (by rw [of_val hv]; simp; omega)]
  have hc := hv.ch j hj
  refine ⟨by simpa using homeF_ever hv he d.forward.length j (by omega) (by omega) hc, fun h => ?_, fun h => ?_⟩
  · rcases homeF_end d.forward.length j hc with h1 | h1
    · omega
    · exact h1
  · obtain ⟨n, hn⟩ : ∃ n, d.forward.length = n + 1 := ⟨d.forward.length - 1, by omega⟩
    rw [hn, homeF, if_neg (by omega)]
theorem ever_step {d x : Directory} {e : Edit} {E : Nat → Bool} (hv : Val d) (he : Ever d E) (hc : Chg d e x) (h0 : 0 ≤ e.to ∧ e.to < d.forward.length) (hf0 : 0 ≤ e.from_ ∧ e.from_ < d.forward.length) : Ever x (fun j => if j = e.to.toNat then true else E j) := by
  obtain ⟨a, b⟩ := he
  cases hc with
  | @split pre post x0 hk hd hf hm ht hn hvv =>
    have hlive : ∀ j : Int, j ≠ e.to → (0 ≤ findS (pre ++ [⟨x0.low, e.mid, x0.shard⟩, ⟨e.mid + 1, x0.high, e.to⟩] ++ post) j ↔ 0 ≤ findS d.l j) := fun j hj => by
      rw [live_iff, live_iff, hd]
      constructor
      · rintro ⟨y, hy, rfl⟩
        simp only [List.mem_append, List.mem_cons, List.not_mem_nil, or_false] at hy
        rcases hy with (hy | rfl | rfl) | hy
        · exact ⟨y, by simp [hy], rfl⟩
        · exact ⟨x0, by simp, rfl⟩
        · exact absurd rfl hj
        · exact ⟨y, by simp [hy], rfl⟩
      · rintro ⟨y, hy, rfl⟩
        simp only [List.mem_append, List.mem_cons] at hy
        rcases hy with hy | rfl | hy
        · exact ⟨y, by simp [hy], rfl⟩
        · exact ⟨⟨y.low, e.mid, y.shard⟩, by simp, rfl⟩
        · exact ⟨y, by simp [hy], rfl⟩
    constructor
    · intro j hj
      simp only [List.length_set] at hj
      by_cases c : j = e.to.toNat
      · rw [if_pos c]
        refine ⟨fun _ => .inl ((live_iff _ _).2 ⟨⟨e.mid + 1, x0.high, e.to⟩, by simp, by simp only; omega⟩), fun _ => rfl⟩
      · rw [if_neg c]
        have := a j hj
        rw [this, hlive j (by omega), getD_set (by omega), if_neg c]
    · intro j hj h
      simp only [List.length_set] at hj
      by_cases c : j = e.to.toNat
      · rw [getD_set (by omega), if_pos c] at h
        omega
      · rw [getD_set (by omega), if_neg c] at h
        rw [getD_set (by omega), if_neg c, b j hj h]
        exact ite_self _
  | @merge pre post x0 y0 hk hd hf hvv =>
    have hx0 : x0 ∈ d.l := by rw [hd]; simp
    have hy0 : y0 ∈ d.l := by rw [hd]; simp
    have hEf : E e.from_.toNat = true := by
      refine (a e.from_.toNat (by omega)).2 (.inl ((live_iff _ _).2 ?_))
      rcases hf with ⟨q, _⟩ | ⟨_, q⟩
      · exact ⟨x0, hx0, by omega⟩
      · exact ⟨y0, hy0, by omega⟩
    have hEt : 0 ≤ findS d.l e.to := by
      rw [live_iff]
      rcases hf with ⟨_, q⟩ | ⟨q, _⟩
      · exact ⟨y0, hy0, q⟩
      · exact ⟨x0, hx0, q⟩
    have hlive : ∀ j : Int, j ≠ e.from_ → (0 ≤ findS (pre ++ [⟨x0.low, y0.high, e.to⟩] ++ post) j ↔ 0 ≤ findS d.l j) := fun j hj => by
      rw [live_iff]
      constructor
      · rintro ⟨y, hy, rfl⟩
        simp only [List.mem_append, List.mem_cons, List.not_mem_nil, or_false] at hy
        rcases hy with (hy | rfl) | hy
        · exact (live_iff _ _).2 ⟨y, by rw [hd]; simp [hy], rfl⟩
        · exact hEt
        · exact (live_iff _ _).2 ⟨y, by rw [hd]; simp [hy], rfl⟩
      · intro h
        obtain ⟨y, hy, rfl⟩ := (live_iff _ _).1 h
        rw [hd] at hy
        simp only [List.mem_append, List.mem_cons] at hy
        rcases hy with hy | rfl | rfl | hy
        · exact ⟨y, by simp [hy], rfl⟩
        · exact ⟨⟨y.low, y0.high, e.to⟩, by simp, by rcases hf with ⟨q, _⟩ | ⟨q, _⟩ <;> simp only <;> omega⟩
        · exact ⟨⟨x0.low, y.high, e.to⟩, by simp, by rcases hf with ⟨_, q⟩ | ⟨_, q⟩ <;> simp only <;> omega⟩
        · exact ⟨y, by simp [hy], rfl⟩
    constructor
    · intro j hj
      simp only [List.length_set] at hj
      by_cases c : j = e.from_.toNat
      · rw [getD_set (by omega), if_pos c]
        refine ⟨fun _ => .inr h0.1, fun _ => ?_⟩
        rw [c, hEf]
        exact ite_self _
      · rw [hlive j (by omega), getD_set (by omega), if_neg c, ← a j hj]
        by_cases c2 : j = e.to.toNat
        · rw [if_pos c2]
          refine ⟨fun _ => (a j hj).2 (.inl (by rw [show (j : Int) = e.to by omega]; exact hEt)), fun _ => rfl⟩
        · rw [if_neg c2]
    · intro j hj h
      simp only [List.length_set] at hj
      by_cases c : j = e.from_.toNat
      · rw [getD_set (by omega), if_pos c, if_pos rfl]
      · rw [getD_set (by omega), if_neg c] at h
        rw [getD_set (by omega), if_neg c, b j hj h]
        exact ite_self _
theorem ever_new {slots live : Nat} (h1 : 1 ≤ live) (h2 : live ≤ slots) (h3 : slots ≤ 6) : Ever (dirN slots live) (fun j => decide (j < live)) := by
  have hF : ∀ j, j < slots → (List.replicate slots (-1 : Int)).getD j 0 = -1 := fun j hj => by
    rw [List.getD_eq_getElem?_getD, List.getElem?_replicate, if_pos hj]; rfl
  constructor
  · intro j hj
    simp only [dirN, List.length_replicate] at hj ⊢
    rw [hF j hj, live_iff, decide_eq_true_eq]
    constructor
    · intro h
      exact .inl ⟨spanI live j, List.mem_map.2 ⟨j, List.mem_range.2 h, rfl⟩, rfl⟩
    · rintro (⟨y, hy, e⟩ | h)
      · simp only [spansN, List.mem_map, List.mem_range] at hy
        obtain ⟨k, hk, rfl⟩ := hy
        simp only [spanI] at e
        omega
      · omega
  · intro j hj h
    simp only [dirN, List.length_replicate] at hj h
    rw [hF j hj] at h
    omega
end Go.Proofs.Ytkdjbfjohbiemaa

namespace Go.Proofs.Ytkdjbfjohbiemaa
open Go Go.Sim
set_option linter.unusedSimpArgs false
set_option linter.unusedVariables false
set_option maxHeartbeats 10000000
set_option maxRecDepth 40000
def evD (E : Nat → Bool) : D := .agg [.bool (E 0), .bool (E 1), .bool (E 2), .bool (E 3), .bool (E 4), .bool (E 5)]
def homS (l : List Int) (d : Directory) (E : Nat → Bool) (n i a : Nat) (j : Nat) : St := ⟨[(3, .ref 21 0 0), (4, .d (.int .i64 n)), (6, .ref 6 0 0), (8, .ref 8 0 0), (10, .d (.int .i64 i)), (14, .d (.int .i64 j))], [(6, .row [.d (eDirectory d)]), (8, .row [.d (evD E)]), (21, srcO l a)]⟩
theorem hom_inner (l : List Int) (d : Directory) (E : Nat → Bool) (hv : Val d) (he : Ever d E) (hl : d.l.length ≤ 40) (n i a : Nat) (hn : d.forward.length = n) : ∀ j : Nat, j ≤ n → loopL G [] l_law10_DirectoryHomes_1 (homS l d E n i a j) = some (.exit 4, ⟨[(3, .ref 21 0 0), (4, .d (.int .i64 n)), (6, .ref 6 0 0), (8, .ref 8 0 0), (10, .d (.int .i64 i))], [(6, .row [.d (eDirectory d)]), (8, .row [.d (evD E)]), (21, srcO l a)]⟩) := by
  refine loop_ind (fun j : Nat => n - j) (fun j : Nat => j ≤ n) (homS l d E n i a) _ fun j hj L ih => ?_
  have n2 := hv.n2
  simp only [homS] at ih hj ⊢
  simp only [l_law10_DirectoryHomes_1]
  by_cases h0 : j < n
  · have i1 := ih (j + 1) (by omega) (by omega)
    have hh := dhome_ok d j (by omega) (by omega)
    have hs := dSpan_ok d j (by omega) (by omega)
    obtain ⟨g1, g2, g3⟩ := home_spec hv he (show j < d.forward.length by omega)
    have hk := dSpan_ok d (homeD d j) (by omega) (by omega)
    have sk := span_live hv (homeD d j)
    have sj := span_live hv j
    generalize homeD d j = k at *
    have hj6 : j = 0 ∨ j = 1 ∨ j = 2 ∨ j = 3 ∨ j = 4 ∨ j = 5 := by omega
    have hE : E j = decide (0 ≤ k) := by
      by_cases c : 0 ≤ k
      · rw [decide_eq_true c]; exact g1.1 c
      · rw [decide_eq_false c]
        cases h : E j with
        | false => rfl
        | true => exact absurd (g1.2 h) c
    have his : (spanD d j).2 = true → k = j := by
      rcases sj with ⟨q, _, _, _, e⟩ | ⟨_, e⟩
      · exact fun _ => g3 q
      · rw [e]; exact fun h => by cases h
    have hok : 0 ≤ k → (spanD d k).2 = true := fun h => by
      rcases sk with ⟨_, _, _, _, e⟩ | ⟨q, _⟩
      · rw [e]
      · have := g2 h; omega
    clear sk sj g1 g2 g3 ih hv he
    generalize spanD d j = p at *
    generalize spanD d k = q at *
    obtain ⟨p1, p2⟩ := p
    obtain ⟨q1, q2⟩ := q
    simp only at hs hk his hok
    simp only [evD] at i1 ⊢
    have hcase : (0 ≤ k ∧ E j = true ∧ q2 = true) ∨ (¬ 0 ≤ k ∧ E j = false) := by
      by_cases c : 0 ≤ k
      · exact .inl ⟨c, by rw [hE, decide_eq_true c], hok c⟩
      · exact .inr ⟨c, by rw [hE, decide_eq_false c]⟩
    clear hok hE
    rcases hcase with ⟨c, hE, rfl⟩ | ⟨c, hE⟩
    · cases p2 with
      | false =>
        clear his
        rcases hj6 with rfl | rfl | rfl | rfl | rfl | rfl
        all_goals (rw [hE] at i1 ⊢; simp only [Int.natCast_add, Int.natCast_one, Int.natCast_zero, Int.natCast_mul, Int.cast_ofNat_Int, List.length_append, List.length_map, List.map_nil, List.length_nil, List.map_append, List.map_cons, List.length_cons, Nat.zero_add, srcO, mapSet] at i1 hh hs hk; (try simp only [Int.reduceAdd] at i1); (try simp -implicitDefEqProofs (maxSteps := 4000000) (disch := omega) only [getDT, go_sem, *]); (try simp only [pA, pB, pC, pD, pE, pF, pG, pH, pI, pJ, pK, pL, pM, pN, pO, pP, if_true, if_false]); repeat' (first | done | rfl | (refine iteC (fun hq => ?_) (fun hq => ?_) <;> (try (first | (exfalso; omega) | contradiction)) <;> (try simp -implicitDefEqProofs (maxSteps := 4000000) (disch := omega) only [getDT, go_sem, *]) <;> (try simp only [pA, pB, pC, pD, pE, pF, pG, pH, pI, pJ, pK, pL, pM, pN, pO, pP, if_true, if_false]))); (all_goals try rfl); (all_goals try (repeat' (first | done | rfl | (exfalso; omega) | contradiction | (refine iteR (fun hq => ?_) (fun hq => ?_))))))
      | true =>
        have hkj := his rfl
        clear his
        subst hkj
        clear hk
        rcases hj6 with rfl | rfl | rfl | rfl | rfl | rfl
        all_goals (rw [hE] at i1 ⊢; simp only [Int.natCast_add, Int.natCast_one, Int.natCast_zero, Int.natCast_mul, Int.cast_ofNat_Int, List.length_append, List.length_map, List.map_nil, List.length_nil, List.map_append, List.map_cons, List.length_cons, Nat.zero_add, srcO, mapSet] at i1 hh hs; (try simp only [Int.reduceAdd] at i1); (try simp -implicitDefEqProofs (maxSteps := 4000000) (disch := omega) only [getDT, go_sem, *]); (try simp only [pA, pB, pC, pD, pE, pF, pG, pH, pI, pJ, pK, pL, pM, pN, pO, pP, if_true, if_false]); repeat' (first | done | rfl | (refine iteC (fun hq => ?_) (fun hq => ?_) <;> (try (first | (exfalso; omega) | contradiction)) <;> (try simp -implicitDefEqProofs (maxSteps := 4000000) (disch := omega) only [getDT, go_sem, *]) <;> (try simp only [pA, pB, pC, pD, pE, pF, pG, pH, pI, pJ, pK, pL, pM, pN, pO, pP, if_true, if_false]))); (all_goals try rfl); (all_goals try (repeat' (first | done | rfl | (exfalso; omega) | contradiction | (refine iteR (fun hq => ?_) (fun hq => ?_))))))
    · cases p2 with
      | false =>
        clear his hk
        rcases hj6 with rfl | rfl | rfl | rfl | rfl | rfl
        all_goals (rw [hE] at i1 ⊢; simp only [Int.natCast_add, Int.natCast_one, Int.natCast_zero, Int.natCast_mul, Int.cast_ofNat_Int, List.length_append, List.length_map, List.map_nil, List.length_nil, List.map_append, List.map_cons, List.length_cons, Nat.zero_add, srcO, mapSet] at i1 hh hs; (try simp only [Int.reduceAdd] at i1); (try simp -implicitDefEqProofs (maxSteps := 4000000) (disch := omega) only [getDT, go_sem, *]); (try simp only [pA, pB, pC, pD, pE, pF, pG, pH, pI, pJ, pK, pL, pM, pN, pO, pP, if_true, if_false]); repeat' (first | done | rfl | (refine iteC (fun hq => ?_) (fun hq => ?_) <;> (try (first | (exfalso; omega) | contradiction)) <;> (try simp -implicitDefEqProofs (maxSteps := 4000000) (disch := omega) only [getDT, go_sem, *]) <;> (try simp only [pA, pB, pC, pD, pE, pF, pG, pH, pI, pJ, pK, pL, pM, pN, pO, pP, if_true, if_false]))); (all_goals try rfl); (all_goals try (repeat' (first | done | rfl | (exfalso; omega) | contradiction | (refine iteR (fun hq => ?_) (fun hq => ?_))))))
      | true =>
        have hkj := his rfl
        omega
  · clear ih hv he
    have : j = n := by omega
    (try simp -implicitDefEqProofs (maxSteps := 4000000) (disch := omega) only [getDT, go_sem, *]); (try simp only [pA, pB, pC, pD, pE, pF, pG, pH, pI, pJ, pK, pL, pM, pN, pO, pP, if_true, if_false]); repeat' (first | done | rfl | (refine iteC (fun hq => ?_) (fun hq => ?_) <;> (try (first | (exfalso; omega) | contradiction)) <;> (try simp -implicitDefEqProofs (maxSteps := 4000000) (disch := omega) only [getDT, go_sem, *]) <;> (try simp only [pA, pB, pC, pD, pE, pF, pG, pH, pI, pJ, pK, pL, pM, pN, pO, pP, if_true, if_false]))); (all_goals try rfl); (all_goals try (repeat' (first | done | rfl | (exfalso; omega) | contradiction | (refine iteR (fun hq => ?_) (fun hq => ?_)))))
end Go.Proofs.Ytkdjbfjohbiemaa

namespace Go.Proofs.Ytkdjbfjohbiemaa
open Go Go.Sim
set_option linter.unusedSimpArgs false
set_option linter.unusedVariables false
set_option maxHeartbeats 10000000
set_option maxRecDepth 40000
def hom0S (l : List Int) (d : Directory) (n v a : Nat) (i : Nat) : St := ⟨[(3, .ref 21 0 0), (4, .d (.int .i64 n)), (5, .d (.int .i64 v)), (6, .ref 6 0 0), (8, .ref 8 0 0), (9, .d (.int .i64 i))], [(6, .row [.d (eDirectory d)]), (8, .row [.d (evD fun j => decide (j < i))]), (21, srcO l a)]⟩
theorem hom_first (l : List Int) (d : Directory) (n v a : Nat) (hv : v ≤ 6) : ∀ i : Nat, i ≤ v → loopL G [] l_law10_DirectoryHomes_0 (hom0S l d n v a i) = some (.exit 0, ⟨[(3, .ref 21 0 0), (4, .d (.int .i64 n)), (6, .ref 6 0 0), (8, .ref 8 0 0)], [(6, .row [.d (eDirectory d)]), (8, .row [.d (evD fun j => decide (j < v))]), (21, srcO l a)]⟩) := by
  refine loop_ind (fun i : Nat => v - i) (fun i : Nat => i ≤ v) (hom0S l d n v a) _ fun i hi L ih => ?_
  simp only [hom0S] at ih hi ⊢
  simp only [l_law10_DirectoryHomes_0]
  by_cases h0 : i < v
  · have i1 := ih (i + 1) (by omega) (by omega)
    have hi6 : i = 0 ∨ i = 1 ∨ i = 2 ∨ i = 3 ∨ i = 4 ∨ i = 5 := by omega
    clear ih
    generalize (evD fun j => decide (j < v)) = fin at *
    rcases hi6 with rfl | rfl | rfl | rfl | rfl | rfl
    · rw [show (evD fun j => decide (j < 0)) = .agg [.bool false, .bool false, .bool false, .bool false, .bool false, .bool false] from rfl]
      rw [show (evD fun j => decide (j < 0 + 1)) = .agg [.bool true, .bool false, .bool false, .bool false, .bool false, .bool false] from rfl] at i1
      simp only [Int.natCast_add, Int.natCast_one, Int.natCast_zero, Int.natCast_mul, Int.cast_ofNat_Int, List.length_append, List.length_map, List.map_nil, List.length_nil, List.map_append, List.map_cons, List.length_cons, Nat.zero_add, srcO, mapSet] at i1
      (try simp -implicitDefEqProofs (maxSteps := 4000000) (disch := omega) only [getDT, go_sem, *]); (try simp only [pA, pB, pC, pD, pE, pF, pG, pH, pI, pJ, pK, pL, pM, pN, pO, pP, if_true, if_false]); repeat' (first | done | rfl | (refine iteC (fun hq => ?_) (fun hq => ?_) <;> (try (first | (exfalso; omega) | contradiction)) <;> (try simp -implicitDefEqProofs (maxSteps := 4000000) (disch := omega) only [getDT, go_sem, *]) <;> (try simp only [pA, pB, pC, pD, pE, pF, pG, pH, pI, pJ, pK, pL, pM, pN, pO, pP, if_true, if_false]))); (all_goals try rfl); (all_goals try (repeat' (first | done | rfl | (exfalso; omega) | contradiction | (refine iteR (fun hq => ?_) (fun hq => ?_)))))
    · rw [show (evD fun j => decide (j < 1)) = .agg [.bool true, .bool false, .bool false, .bool false, .bool false, .bool false] from rfl]
      rw [show (evD fun j => decide (j < 1 + 1)) = .agg [.bool true, .bool true, .bool false, .bool false, .bool false, .bool false] from rfl] at i1
      simp only [Int.natCast_add, Int.natCast_one, Int.natCast_zero, Int.natCast_mul, Int.cast_ofNat_Int, List.length_append, List.length_map, List.map_nil, List.length_nil, List.map_append, List.map_cons, List.length_cons, Nat.zero_add, srcO, mapSet] at i1
      (try simp only [Int.reduceAdd] at i1)
      (try simp -implicitDefEqProofs (maxSteps := 4000000) (disch := omega) only [getDT, go_sem, *]); (try simp only [pA, pB, pC, pD, pE, pF, pG, pH, pI, pJ, pK, pL, pM, pN, pO, pP, if_true, if_false]); repeat' (first | done | rfl | (refine iteC (fun hq => ?_) (fun hq => ?_) <;> (try (first | (exfalso; omega) | contradiction)) <;> (try simp -implicitDefEqProofs (maxSteps := 4000000) (disch := omega) only [getDT, go_sem, *]) <;> (try simp only [pA, pB, pC, pD, pE, pF, pG, pH, pI, pJ, pK, pL, pM, pN, pO, pP, if_true, if_false]))); (all_goals try rfl); (all_goals try (repeat' (first | done | rfl | (exfalso; omega) | contradiction | (refine iteR (fun hq => ?_) (fun hq => ?_)))))
    · rw [show (evD fun j => decide (j < 2)) = .agg [.bool true, .bool true, .bool false, .bool false, .bool false, .bool false] from rfl]
      rw [show (evD fun j => decide (j < 2 + 1)) = .agg [.bool true, .bool true, .bool true, .bool false, .bool false, .bool false] from rfl] at i1
      simp only [Int.natCast_add, Int.natCast_one, Int.natCast_zero, Int.natCast_mul, Int.cast_ofNat_Int, List.length_append, List.length_map, List.map_nil, List.length_nil, List.map_append, List.map_cons, List.length_cons, Nat.zero_add, srcO, mapSet] at i1
      (try simp only [Int.reduceAdd] at i1)
      (try simp -implicitDefEqProofs (maxSteps := 4000000) (disch := omega) only [getDT, go_sem, *]); (try simp only [pA, pB, pC, pD, pE, pF, pG, pH, pI, pJ, pK, pL, pM, pN, pO, pP, if_true, if_false]); repeat' (first | done | rfl | (refine iteC (fun hq => ?_) (fun hq => ?_) <;> (try (first | (exfalso; omega) | contradiction)) <;> (try simp -implicitDefEqProofs (maxSteps := 4000000) (disch := omega) only [getDT, go_sem, *]) <;> (try simp only [pA, pB, pC, pD, pE, pF, pG, pH, pI, pJ, pK, pL, pM, pN, pO, pP, if_true, if_false]))); (all_goals try rfl); (all_goals try (repeat' (first | done | rfl | (exfalso; omega) | contradiction | (refine iteR (fun hq => ?_) (fun hq => ?_)))))
    · rw [show (evD fun j => decide (j < 3)) = .agg [.bool true, .bool true, .bool true, .bool false, .bool false, .bool false] from rfl]
      rw [show (evD fun j => decide (j < 3 + 1)) = .agg [.bool true, .bool true, .bool true, .bool true, .bool false, .bool false] from rfl] at i1
      simp only [Int.natCast_add, Int.natCast_one, Int.natCast_zero, Int.natCast_mul, Int.cast_ofNat_Int, List.length_append, List.length_map, List.map_nil, List.length_nil, List.map_append, List.map_cons, List.length_cons, Nat.zero_add, srcO, mapSet] at i1
      (try simp only [Int.reduceAdd] at i1)
      (try simp -implicitDefEqProofs (maxSteps := 4000000) (disch := omega) only [getDT, go_sem, *]); (try simp only [pA, pB, pC, pD, pE, pF, pG, pH, pI, pJ, pK, pL, pM, pN, pO, pP, if_true, if_false]); repeat' (first | done | rfl | (refine iteC (fun hq => ?_) (fun hq => ?_) <;> (try (first | (exfalso; omega) | contradiction)) <;> (try simp -implicitDefEqProofs (maxSteps := 4000000) (disch := omega) only [getDT, go_sem, *]) <;> (try simp only [pA, pB, pC, pD, pE, pF, pG, pH, pI, pJ, pK, pL, pM, pN, pO, pP, if_true, if_false]))); (all_goals try rfl); (all_goals try (repeat' (first | done | rfl | (exfalso; omega) | contradiction | (refine iteR (fun hq => ?_) (fun hq => ?_)))))
    · rw [show (evD fun j => decide (j < 4)) = .agg [.bool true, .bool true, .bool true, .bool true, .bool false, .bool false] from rfl]
      rw [show (evD fun j => decide (j < 4 + 1)) = .agg [.bool true, .bool true, .bool true, .bool true, .bool true, .bool false] from rfl] at i1
      simp only [Int.natCast_add, Int.natCast_one, Int.natCast_zero, Int.natCast_mul, Int.cast_ofNat_Int, List.length_append, List.length_map, List.map_nil, List.length_nil, List.map_append, List.map_cons, List.length_cons, Nat.zero_add, srcO, mapSet] at i1
      (try simp only [Int.reduceAdd] at i1)
      (try simp -implicitDefEqProofs (maxSteps := 4000000) (disch := omega) only [getDT, go_sem, *]); (try simp only [pA, pB, pC, pD, pE, pF, pG, pH, pI, pJ, pK, pL, pM, pN, pO, pP, if_true, if_false]); repeat' (first | done | rfl | (refine iteC (fun hq => ?_) (fun hq => ?_) <;> (try (first | (exfalso; omega) | contradiction)) <;> (try simp -implicitDefEqProofs (maxSteps := 4000000) (disch := omega) only [getDT, go_sem, *]) <;> (try simp only [pA, pB, pC, pD, pE, pF, pG, pH, pI, pJ, pK, pL, pM, pN, pO, pP, if_true, if_false]))); (all_goals try rfl); (all_goals try (repeat' (first | done | rfl | (exfalso; omega) | contradiction | (refine iteR (fun hq => ?_) (fun hq => ?_)))))
    · rw [show (evD fun j => decide (j < 5)) = .agg [.bool true, .bool true, .bool true, .bool true, .bool true, .bool false] from rfl]
      rw [show (evD fun j => decide (j < 5 + 1)) = .agg [.bool true, .bool true, .bool true, .bool true, .bool true, .bool true] from rfl] at i1
      simp only [Int.natCast_add, Int.natCast_one, Int.natCast_zero, Int.natCast_mul, Int.cast_ofNat_Int, List.length_append, List.length_map, List.map_nil, List.length_nil, List.map_append, List.map_cons, List.length_cons, Nat.zero_add, srcO, mapSet] at i1
      (try simp only [Int.reduceAdd] at i1)
      (try simp -implicitDefEqProofs (maxSteps := 4000000) (disch := omega) only [getDT, go_sem, *]); (try simp only [pA, pB, pC, pD, pE, pF, pG, pH, pI, pJ, pK, pL, pM, pN, pO, pP, if_true, if_false]); repeat' (first | done | rfl | (refine iteC (fun hq => ?_) (fun hq => ?_) <;> (try (first | (exfalso; omega) | contradiction)) <;> (try simp -implicitDefEqProofs (maxSteps := 4000000) (disch := omega) only [getDT, go_sem, *]) <;> (try simp only [pA, pB, pC, pD, pE, pF, pG, pH, pI, pJ, pK, pL, pM, pN, pO, pP, if_true, if_false]))); (all_goals try rfl); (all_goals try (repeat' (first | done | rfl | (exfalso; omega) | contradiction | (refine iteR (fun hq => ?_) (fun hq => ?_)))))
  · have : i = v := by omega
    subst this
    clear ih
    (try simp -implicitDefEqProofs (maxSteps := 4000000) (disch := omega) only [getDT, go_sem, *]); (try simp only [pA, pB, pC, pD, pE, pF, pG, pH, pI, pJ, pK, pL, pM, pN, pO, pP, if_true, if_false]); repeat' (first | done | rfl | (refine iteC (fun hq => ?_) (fun hq => ?_) <;> (try (first | (exfalso; omega) | contradiction)) <;> (try simp -implicitDefEqProofs (maxSteps := 4000000) (disch := omega) only [getDT, go_sem, *]) <;> (try simp only [pA, pB, pC, pD, pE, pF, pG, pH, pI, pJ, pK, pL, pM, pN, pO, pP, if_true, if_false]))); (all_goals try rfl); (all_goals try (repeat' (first | done | rfl | (exfalso; omega) | contradiction | (refine iteR (fun hq => ?_) (fun hq => ?_)))))
def hom2S (l : List Int) (n : Nat) (p : Directory × (Nat → Bool) × Nat × Nat) : St := ⟨[(3, .ref 21 0 0), (4, .d (.int .i64 n)), (6, .ref 6 0 0), (8, .ref 8 0 0), (10, .d (.int .i64 p.2.2.2))], [(6, .row [.d (eDirectory p.1)]), (8, .row [.d (evD p.2.1)]), (21, srcO l p.2.2.1)]⟩
theorem hom_outer (l : List Int) (hL : l.length ≤ 4000) (n : Nat) (h1 : 1 ≤ n) (h2 : n ≤ 6) : ∀ p : Directory × (Nat → Bool) × Nat × Nat, (Val p.1 ∧ Ever p.1 p.2.1 ∧ p.1.forward.length = n ∧ p.1.l.length ≤ 20 + p.2.2.2 ∧ p.2.2.2 ≤ 12) → loopL G [] l_law10_DirectoryHomes_2 (hom2S l n p) = some (.exit 2, ⟨[], []⟩) := by
  refine loop_ind (fun p : Directory × (Nat → Bool) × Nat × Nat => 12 - p.2.2.2) (fun p : Directory × (Nat → Bool) × Nat × Nat => Val p.1 ∧ Ever p.1 p.2.1 ∧ p.1.forward.length = n ∧ p.1.l.length ≤ 20 + p.2.2.2 ∧ p.2.2.2 ≤ 12) (hom2S l n) _ fun ⟨d, E, a, i⟩ ⟨hv, hev, hf, hk, hi⟩ L ih => ?_
  simp only [hom2S] at ih hv hev hf hk hi ⊢
  simp only [l_law10_DirectoryHomes_2]
  by_cases h0 : i < 12
  · obtain ⟨e, a1, he, hc⟩ := edit_ok l a n hL (by omega) (by omega)
    have hp := dapply_ok d e (by omega) (by omega)
    have hx := fun h => (chg_of (e := e) hv h)
    generalize applyD d e = x at *
    obtain ⟨x1, x2⟩ := x
    simp only at hp hx
    obtain ⟨o1, o2, o3, o4, o5, o6, o7⟩ := he
    by_cases c : x2 = 0
    · have hg := hx c
      have hvx := hg.val hv
      have hex := ever_step hv hev hg (by omega) (by omega)
      obtain ⟨E', hE'⟩ : ∃ E', E' = fun j => if j = e.to.toNat then true else E j := ⟨_, rfl⟩
      rw [← hE'] at hex
      obtain ⟨s1, s2⟩ := hg.same
      have hlx := hg.len
      have i1 := ih (x1, E', a1, i + 1) ⟨hvx, hex, s2.trans hf, by simp only; omega, by simp only; omega⟩ (by simp only; omega)
      have f3 := hom_inner l x1 _ hvx hex (by omega) n i a1 (s2.trans hf) 0 (by omega)
      simp only [homS] at f3
      have ht6 : e.to = 0 ∨ e.to = 1 ∨ e.to = 2 ∨ e.to = 3 ∨ e.to = 4 ∨ e.to = 5 := by omega
      subst c
      clear ih hx hg hv hvx hex hev hf hk
      rcases ht6 with h | h | h | h | h | h
      · have hE : evD E' = .agg [.bool true, .bool (E 1), .bool (E 2), .bool (E 3), .bool (E 4), .bool (E 5)] := by rw [hE', h]; rfl
        rw [hE] at i1 f3
        rw [show evD E = .agg [.bool (E 0), .bool (E 1), .bool (E 2), .bool (E 3), .bool (E 4), .bool (E 5)] from rfl]
        clear hE' hE
        simp only [Int.natCast_add, Int.natCast_one, Int.natCast_zero, Int.natCast_mul, Int.cast_ofNat_Int, List.length_append, List.length_map, List.map_nil, List.length_nil, List.map_append, List.map_cons, List.length_cons, Nat.zero_add, srcO, mapSet] at i1 f3
        (try simp -implicitDefEqProofs (maxSteps := 4000000) (disch := omega) only [getDT, go_sem, *]); (try simp only [pA, pB, pC, pD, pE, pF, pG, pH, pI, pJ, pK, pL, pM, pN, pO, pP, if_true, if_false]); repeat' (first | done | rfl | (refine iteC (fun hq => ?_) (fun hq => ?_) <;> (try (first | (exfalso; omega) | contradiction)) <;> (try simp -implicitDefEqProofs (maxSteps := 4000000) (disch := omega) only [getDT, go_sem, *]) <;> (try simp only [pA, pB, pC, pD, pE, pF, pG, pH, pI, pJ, pK, pL, pM, pN, pO, pP, if_true, if_false]))); (all_goals try rfl); (all_goals try (repeat' (first | done | rfl | (exfalso; omega) | contradiction | (refine iteR (fun hq => ?_) (fun hq => ?_)))))
      · have hE : evD E' = .agg [.bool (E 0), .bool true, .bool (E 2), .bool (E 3), .bool (E 4), .bool (E 5)] := by rw [hE', h]; rfl
        rw [hE] at i1 f3
        rw [show evD E = .agg [.bool (E 0), .bool (E 1), .bool (E 2), .bool (E 3), .bool (E 4), .bool (E 5)] from rfl]
        clear hE' hE
        simp only [Int.natCast_add, Int.natCast_one, Int.natCast_zero, Int.natCast_mul, Int.cast_ofNat_Int, List.length_append, List.length_map, List.map_nil, List.length_nil, List.map_append, List.map_cons, List.length_cons, Nat.zero_add, srcO, mapSet] at i1 f3
        (try simp -implicitDefEqProofs (maxSteps := 4000000) (disch := omega) only [getDT, go_sem, *]); (try simp only [pA, pB, pC, pD, pE, pF, pG, pH, pI, pJ, pK, pL, pM, pN, pO, pP, if_true, if_false]); repeat' (first | done | rfl | (refine iteC (fun hq => ?_) (fun hq => ?_) <;> (try (first | (exfalso; omega) | contradiction)) <;> (try simp -implicitDefEqProofs (maxSteps := 4000000) (disch := omega) only [getDT, go_sem, *]) <;> (try simp only [pA, pB, pC, pD, pE, pF, pG, pH, pI, pJ, pK, pL, pM, pN, pO, pP, if_true, if_false]))); (all_goals try rfl); (all_goals try (repeat' (first | done | rfl | (exfalso; omega) | contradiction | (refine iteR (fun hq => ?_) (fun hq => ?_)))))
      · have hE : evD E' = .agg [.bool (E 0), .bool (E 1), .bool true, .bool (E 3), .bool (E 4), .bool (E 5)] := by rw [hE', h]; rfl
        rw [hE] at i1 f3
        rw [show evD E = .agg [.bool (E 0), .bool (E 1), .bool (E 2), .bool (E 3), .bool (E 4), .bool (E 5)] from rfl]
        clear hE' hE
        simp only [Int.natCast_add, Int.natCast_one, Int.natCast_zero, Int.natCast_mul, Int.cast_ofNat_Int, List.length_append, List.length_map, List.map_nil, List.length_nil, List.map_append, List.map_cons, List.length_cons, Nat.zero_add, srcO, mapSet] at i1 f3
        (try simp -implicitDefEqProofs (maxSteps := 4000000) (disch := omega) only [getDT, go_sem, *]); (try simp only [pA, pB, pC, pD, pE, pF, pG, pH, pI, pJ, pK, pL, pM, pN, pO, pP, if_true, if_false]); repeat' (first | done | rfl | (refine iteC (fun hq => ?_) (fun hq => ?_) <;> (try (first | (exfalso; omega) | contradiction)) <;> (try simp -implicitDefEqProofs (maxSteps := 4000000) (disch := omega) only [getDT, go_sem, *]) <;> (try simp only [pA, pB, pC, pD, pE, pF, pG, pH, pI, pJ, pK, pL, pM, pN, pO, pP, if_true, if_false]))); (all_goals try rfl); (all_goals try (repeat' (first | done | rfl | (exfalso; omega) | contradiction | (refine iteR (fun hq => ?_) (fun hq => ?_)))))
      · have hE : evD E' = .agg [.bool (E 0), .bool (E 1), .bool (E 2), .bool true, .bool (E 4), .bool (E 5)] := by rw [hE', h]; rfl
        rw [hE] at i1 f3
        rw [show evD E = .agg [.bool (E 0), .bool (E 1), .bool (E 2), .bool (E 3), .bool (E 4), .bool (E 5)] from rfl]
        clear hE' hE
        simp only [Int.natCast_add, Int.natCast_one, Int.natCast_zero, Int.natCast_mul, Int.cast_ofNat_Int, List.length_append, List.length_map, List.map_nil, List.length_nil, List.map_append, List.map_cons, List.length_cons, Nat.zero_add, srcO, mapSet] at i1 f3
        (try simp -implicitDefEqProofs (maxSteps := 4000000) (disch := omega) only [getDT, go_sem, *]); (try simp only [pA, pB, pC, pD, pE, pF, pG, pH, pI, pJ, pK, pL, pM, pN, pO, pP, if_true, if_false]); repeat' (first | done | rfl | (refine iteC (fun hq => ?_) (fun hq => ?_) <;> (try (first | (exfalso; omega) | contradiction)) <;> (try simp -implicitDefEqProofs (maxSteps := 4000000) (disch := omega) only [getDT, go_sem, *]) <;> (try simp only [pA, pB, pC, pD, pE, pF, pG, pH, pI, pJ, pK, pL, pM, pN, pO, pP, if_true, if_false]))); (all_goals try rfl); (all_goals try (repeat' (first | done | rfl | (exfalso; omega) | contradiction | (refine iteR (fun hq => ?_) (fun hq => ?_)))))
      · have hE : evD E' = .agg [.bool (E 0), .bool (E 1), .bool (E 2), .bool (E 3), .bool true, .bool (E 5)] := by rw [hE', h]; rfl
        rw [hE] at i1 f3
        rw [show evD E = .agg [.bool (E 0), .bool (E 1), .bool (E 2), .bool (E 3), .bool (E 4), .bool (E 5)] from rfl]
        clear hE' hE
        simp only [Int.natCast_add, Int.natCast_one, Int.natCast_zero, Int.natCast_mul, Int.cast_ofNat_Int, List.length_append, List.length_map, List.map_nil, List.length_nil, List.map_append, List.map_cons, List.length_cons, Nat.zero_add, srcO, mapSet] at i1 f3
        (try simp -implicitDefEqProofs (maxSteps := 4000000) (disch := omega) only [getDT, go_sem, *]); (try simp only [pA, pB, pC, pD, pE, pF, pG, pH, pI, pJ, pK, pL, pM, pN, pO, pP, if_true, if_false]); repeat' (first | done | rfl | (refine iteC (fun hq => ?_) (fun hq => ?_) <;> (try (first | (exfalso; omega) | contradiction)) <;> (try simp -implicitDefEqProofs (maxSteps := 4000000) (disch := omega) only [getDT, go_sem, *]) <;> (try simp only [pA, pB, pC, pD, pE, pF, pG, pH, pI, pJ, pK, pL, pM, pN, pO, pP, if_true, if_false]))); (all_goals try rfl); (all_goals try (repeat' (first | done | rfl | (exfalso; omega) | contradiction | (refine iteR (fun hq => ?_) (fun hq => ?_)))))
      · have hE : evD E' = .agg [.bool (E 0), .bool (E 1), .bool (E 2), .bool (E 3), .bool (E 4), .bool true] := by rw [hE', h]; rfl
        rw [hE] at i1 f3
        rw [show evD E = .agg [.bool (E 0), .bool (E 1), .bool (E 2), .bool (E 3), .bool (E 4), .bool (E 5)] from rfl]
        clear hE' hE
        simp only [Int.natCast_add, Int.natCast_one, Int.natCast_zero, Int.natCast_mul, Int.cast_ofNat_Int, List.length_append, List.length_map, List.map_nil, List.length_nil, List.map_append, List.map_cons, List.length_cons, Nat.zero_add, srcO, mapSet] at i1 f3
        (try simp -implicitDefEqProofs (maxSteps := 4000000) (disch := omega) only [getDT, go_sem, *]); (try simp only [pA, pB, pC, pD, pE, pF, pG, pH, pI, pJ, pK, pL, pM, pN, pO, pP, if_true, if_false]); repeat' (first | done | rfl | (refine iteC (fun hq => ?_) (fun hq => ?_) <;> (try (first | (exfalso; omega) | contradiction)) <;> (try simp -implicitDefEqProofs (maxSteps := 4000000) (disch := omega) only [getDT, go_sem, *]) <;> (try simp only [pA, pB, pC, pD, pE, pF, pG, pH, pI, pJ, pK, pL, pM, pN, pO, pP, if_true, if_false]))); (all_goals try rfl); (all_goals try (repeat' (first | done | rfl | (exfalso; omega) | contradiction | (refine iteR (fun hq => ?_) (fun hq => ?_)))))
    · have i1 := ih (d, E, a1, i + 1) ⟨hv, hev, hf, by simp only; omega, by simp only; omega⟩ (by simp only; omega)
      have f3 := hom_inner l d _ hv hev (by omega) n i a1 hf 0 (by omega)
      simp only [homS] at f3
      clear ih hx hv hev hf hk
      simp only [Int.natCast_add, Int.natCast_one, Int.natCast_zero, Int.natCast_mul, Int.cast_ofNat_Int, List.length_append, List.length_map, List.map_nil, List.length_nil, List.map_append, List.map_cons, List.length_cons, Nat.zero_add, srcO, mapSet] at i1 f3
      (try simp -implicitDefEqProofs (maxSteps := 4000000) (disch := omega) only [getDT, go_sem, *]); (try simp only [pA, pB, pC, pD, pE, pF, pG, pH, pI, pJ, pK, pL, pM, pN, pO, pP, if_true, if_false]); repeat' (first | done | rfl | (refine iteC (fun hq => ?_) (fun hq => ?_) <;> (try (first | (exfalso; omega) | contradiction)) <;> (try simp -implicitDefEqProofs (maxSteps := 4000000) (disch := omega) only [getDT, go_sem, *]) <;> (try simp only [pA, pB, pC, pD, pE, pF, pG, pH, pI, pJ, pK, pL, pM, pN, pO, pP, if_true, if_false]))); (all_goals try rfl); (all_goals try (repeat' (first | done | rfl | (exfalso; omega) | contradiction | (refine iteR (fun hq => ?_) (fun hq => ?_)))))
  · clear ih hv hev
    (try simp -implicitDefEqProofs (maxSteps := 4000000) (disch := omega) only [getDT, go_sem, *]); (try simp only [pA, pB, pC, pD, pE, pF, pG, pH, pI, pJ, pK, pL, pM, pN, pO, pP, if_true, if_false]); repeat' (first | done | rfl | (refine iteC (fun hq => ?_) (fun hq => ?_) <;> (try (first | (exfalso; omega) | contradiction)) <;> (try simp -implicitDefEqProofs (maxSteps := 4000000) (disch := omega) only [getDT, go_sem, *]) <;> (try simp only [pA, pB, pC, pD, pE, pF, pG, pH, pI, pJ, pK, pL, pM, pN, pO, pP, if_true, if_false]))); (all_goals try rfl); (all_goals try (repeat' (first | done | rfl | (exfalso; omega) | contradiction | (refine iteR (fun hq => ?_) (fun hq => ?_)))))
theorem hom_law (l : List Int) (hL : l.length ≤ LIM) : callL G N_law10_DirectoryHomes [.d (.sl (ints l))] [] = some (.d (.bool true), []) := by
  obtain ⟨t, ht, hnew⟩ := new_ok2 l hL
  have e1 := range_ok t 0 1 6 ht (by omega) (by omega) (by omega) (by omega)
  have b1 := nD_in t 0 (n := 6 - 1 + 1) (by omega)
  obtain ⟨a1, q1⟩ : ∃ a1, a1 = (rawD t 0).2 := ⟨_, rfl⟩
  obtain ⟨n, hn⟩ : ∃ n : Nat, 1 + nD t 0 (6 - 1 + 1) = n := ⟨(1 + nD t 0 (6 - 1 + 1)).toNat, by omega⟩
  have e2 := range_ok t a1 1 n ht (by omega) (by omega) (by omega) (by omega)
  have b2 := nD_in t a1 (n := n - 1 + 1) (by omega)
  obtain ⟨a2, q2⟩ : ∃ a2, a2 = (rawD t a1).2 := ⟨_, rfl⟩
  obtain ⟨v, hv⟩ : ∃ v : Nat, 1 + nD t a1 (n - 1 + 1) = v := ⟨(1 + nD t a1 (n - 1 + 1)).toNat, by omega⟩
  rw [← q1, hn] at e1
  rw [← q2, hv] at e2
  have e3 := dnew_ok n v
  obtain ⟨v1, v2, v3, v4⟩ := newD_val (slots := n) (live := v) (by omega) (by omega) (by omega)
  have hev := ever_new (slots := n) (live := v) (by omega) (by omega) (by omega)
  have vl : (newD n v).1.l.length ≤ 6 := by rw [v4]; simp only [dirN, spansN_len]; omega
  rw [Int.toNat_natCast, Int.toNat_natCast] at v4
  rw [← v4] at hev
  clear v4
  rw [v1] at e3
  generalize (newD n v).1 = d at *
  have h1 := hom_first t d n v a2 (by omega) 0 (by omega)
  have h2 := hom_outer t ht n (by omega) (by omega) (d, fun j => decide (j < v), a2, 0) ⟨v2, hev, by simpa using v3, by simp only; omega, by simp only; omega⟩
  simp only [hom0S] at h1
  simp only [hom2S] at h2
  rw [show (evD fun j => decide (j < 0)) = .agg [.bool false, .bool false, .bool false, .bool false, .bool false, .bool false] from rfl] at h1
  generalize (evD fun j => decide (j < v)) = fin at *
  have hw := awake10_ok
  have hvn : 1 ≤ v ∧ v ≤ 6 := by omega
  clear q1 q2 hn hv b1 b2 v1 v2 v3 hev
  simp only [Int.natCast_add, Int.natCast_one, Int.natCast_zero, Int.natCast_mul, Int.cast_ofNat_Int, List.length_append, List.length_map, List.map_nil, List.length_nil, List.map_append, List.map_cons, List.length_cons, Nat.zero_add, srcO, mapSet] at e1 e2 h1 h2
  rw [callL_code g_law10_DirectoryHomes (by simp)]; simp -implicitDefEqProofs (maxSteps := 4000000) (disch := omega) only [c_law10_DirectoryHomes, r_law10_DirectoryHomes, getDT, go_sem, *]; (try simp only [pA, pB, pC, pD, pE, pF, pG, pH, pI, pJ, pK, pL, pM, pN, pO, pP, if_true, if_false]); repeat' (first | done | rfl | (refine iteC (fun hq => ?_) (fun hq => ?_) <;> (try (first | (exfalso; omega) | contradiction)) <;> (try simp -implicitDefEqProofs (maxSteps := 4000000) (disch := omega) only [getDT, go_sem, *]) <;> (try simp only [pA, pB, pC, pD, pE, pF, pG, pH, pI, pJ, pK, pL, pM, pN, pO, pP, if_true, if_false]))); (all_goals try rfl); (all_goals try (repeat' (first | done | rfl | (exfalso; omega) | contradiction | (refine iteR (fun hq => ?_) (fun hq => ?_)))))
end Go.Proofs.Ytkdjbfjohbiemaa
