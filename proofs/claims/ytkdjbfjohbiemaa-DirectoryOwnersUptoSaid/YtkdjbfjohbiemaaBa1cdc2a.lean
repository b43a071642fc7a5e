/-
  Owners of routes.
  The law of owners.
-/
import Derived.Test.YtkdjbfjohbiemaaBcffed20
set_option linter.unusedSimpArgs false
set_option linter.unusedVariables false
namespace Go.Proofs.Ytkdjbfjohbiemaa
open Go Go.Sim
set_option linter.unusedSimpArgs false
set_option linter.unusedVariables false
set_option maxHeartbeats 10000000
set_option maxRecDepth 40000
theorem tile_ge : ∀ (l : List Span) (n m : Int), tileN n l = some m → ∀ x ∈ l, n ≤ x.low
  | [], _, _, _, x, hx => by cases hx
  | y :: l, n, m, h, x, hx => by
    rw [tileN] at h
    split at h
    · rename_i hc
      cases hx with
      | head => omega
      | tail _ hx => have := tile_ge l _ m h x hx; omega
    · cases h
theorem tile_pw : ∀ (l : List Span) (n m : Int), tileN n l = some m → l.Pairwise fun x y => x.high < y.low
  | [], _, _, _ => .nil
  | y :: l, n, m, h => by
    rw [tileN] at h
    split at h
    · exact .cons (fun x hx => by have := tile_ge l _ m h x hx; omega) (tile_pw l _ m h)
    · cases h
theorem tile_hit : ∀ (l : List Span) (n m r : Int), tileN n l = some m → n ≤ r → r < m → ∃ x ∈ l, inS r x = true
  | [], n, m, r, h, h1, h2 => by simp only [tileN, Option.some.injEq] at h; omega
  | y :: l, n, m, r, h, h1, h2 => by
    rw [tileN] at h
    split at h
    · rename_i hc
      by_cases c : r ≤ y.high
      · exact ⟨y, by simp, by unfold inS; simp only [Bool.and_eq_true, decide_eq_true_eq]; omega⟩
      · obtain ⟨x, hx, e⟩ := tile_hit l _ m r h (by omega) h2
        exact ⟨x, by simp [hx], e⟩
    · cases h
theorem tile_one {d : Directory} (h : Val d) {r : Int} {i j : Nat} (hi : i < d.l.length) (hj : j < d.l.length) (h1 : inS r d.l[i] = true) (h2 : inS r d.l[j] = true) : i = j := by
  have pw := List.pairwise_iff_getElem.1 (tile_pw d.l 0 65536 h.til)
  have htl := tile_in d.l 0 65536 (by omega) h.til
  unfold inS at h1 h2
  simp only [Bool.and_eq_true, decide_eq_true_eq] at h1 h2
  rcases Nat.lt_trichotomy i j with c | c | c
  · have := pw i j hi hj c; omega
  · exact c
  · have := pw j i hj hi c; omega
/-- The owner of a route: the shard of the one span that holds it. -/
theorem owner_spec {d : Directory} (h : Val d) {r : Int} (h0 : 0 ≤ r) (h1 : r < 65536) : ∃ (o : Nat) (ho : o < d.l.length), inS r d.l[o] = true ∧ ownerD d r = d.l[o].shard := by
  obtain ⟨x, hx, hin⟩ := tile_hit d.l 0 65536 r h.til h0 h1
  unfold ownerD
  rw [if_pos (of_val h)]
  cases hf : d.l.findIdx? (inS r) with
  | none =>
    have := List.findIdx?_eq_none_iff.1 hf x hx
    rw [hin] at this; cases this
  | some o =>
    obtain ⟨ho, h2, _⟩ := List.findIdx?_eq_some_iff_getElem.1 hf
    exact ⟨o, ho, h2, by simp only; rw [getDT ho]⟩
theorem owner_iff {d : Directory} (h : Val d) {r : Int} (h0 : 0 ≤ r) (h1 : r < 65536) (x : Span) (hx : x ∈ d.l) : inS r x = true ↔ x.shard = ownerD d r := by
  obtain ⟨o, ho, h2, e⟩ := owner_spec h h0 h1
  obtain ⟨i, hi, rfl⟩ := List.getElem_of_mem hx
  rw [e]
  constructor
  · intro h3
    have := tile_one h hi ho h3 h2
    subst this; rfl
  · intro h3
    have := nd_inj h.nd hi ho h3
    subst this; exact h2
theorem span_live {d : Directory} (h : Val d) (j : Int) : (0 ≤ findS d.l j ∧ ∃ x ∈ d.l, x.shard = j ∧ spanD d j = (x, true)) ∨ (findS d.l j < 0 ∧ spanD d j = (zSpan, false)) := by
  unfold spanD
  by_cases c : 0 ≤ findS d.l j
  · obtain ⟨i, hi, e, hs⟩ := findS_nat c
    refine .inl ⟨c, d.l[i], List.getElem_mem _, hs, ?_⟩
    rw [if_pos ⟨of_val h, c⟩, e, Int.toNat_natCast, getDT hi]
  · exact .inr ⟨by omega, by rw [if_neg (fun h => c h.2)]⟩
def ownS (l : List Int) (d : Directory) (r k : Int) (n i a : Nat) (p : Nat) : St := ⟨[(1, .d (.int .i64 r)), (5, .ref 18 0 0), (6, .d (.int .i64 n)), (7, .ref 7 0 0), (9, .d (.int .i64 i)), (12, .d (.int .i64 k)), (13, .d (.int .i64 (if k < p then 1 else 0))), (14, .d (.int .i64 p))], [(7, .row [.d (eDirectory d)]), (18, srcO l a)]⟩
theorem own_inner (l : List Int) (d : Directory) (hv : Val d) (hl : d.l.length ≤ 40) (r : Int) (hr : 0 ≤ r ∧ r < 65536) (n i a : Nat) (hn : d.forward.length = n) : ∀ p : Nat, p ≤ n → loopL G [] l_law10_DirectoryOwners_0 (ownS l d r (ownerD d r) n i a p) = some (.exit 2, ⟨[(1, .d (.int .i64 r)), (5, .ref 18 0 0), (6, .d (.int .i64 n)), (7, .ref 7 0 0), (9, .d (.int .i64 i)), (13, .d (.int .i64 1))], [(7, .row [.d (eDirectory d)]), (18, srcO l a)]⟩) := by
  refine loop_ind (fun p : Nat => n - p) (fun p : Nat => p ≤ n) (ownS l d r (ownerD d r) n i a) _ fun p hp L ih => ?_
  have n2 := hv.n2
  have hown := owner_iff hv hr.1 hr.2
  obtain ⟨hk, hlive⟩ : (0 ≤ ownerD d r ∧ ownerD d r < d.forward.length) ∧ 0 ≤ findS d.l (ownerD d r) := by
    obtain ⟨o, ho, _, hoe⟩ := owner_spec hv hr.1 hr.2
    rw [hoe]
    exact ⟨hv.sh d.l[o] (List.getElem_mem _), (live_iff _ _).2 ⟨d.l[o], List.getElem_mem _, rfl⟩⟩
  simp only [ownS] at ih hp ⊢
  simp only [l_law10_DirectoryOwners_0]
  by_cases h0 : p < n
  · have i1 := ih (p + 1) (by omega) (by omega)
    have hs := dSpan_ok d p (by omega) (by omega)
    have hsp := span_live hv p
    generalize ownerD d r = k at *
    rcases hsp with ⟨_, x, hx, hxs, e⟩ | ⟨_, e⟩
    · rw [e] at hs
      have hin := hown x hx
      unfold inS at hin
      simp only [Bool.and_eq_true, decide_eq_true_eq] at hin
      clear ih hown e hv
      by_cases c : k = p
      · rw [if_pos (by omega)] at i1
        rw [if_neg (by omega)]
        have hin2 := hin.2 (by omega)
        clear hin hlive
        subst c
        simp only [Int.natCast_add, Int.natCast_one, Int.natCast_zero, Int.natCast_mul, Int.cast_ofNat_Int, List.length_append, List.length_map, List.map_nil, List.length_nil, List.map_append, List.map_cons, List.length_cons, Nat.zero_add, srcO, mapSet] at i1
        (try simp -implicitDefEqProofs (maxSteps := 4000000) (disch := omega) only [getDT, go_sem, *]); (try simp only [pA, pB, pC, pD, pE, pF, pG, pH, pI, pJ, pK, pL, pM, pN, pO, pP, if_true, if_false]); repeat' (first | done | rfl | (refine iteC (fun hq => ?_) (fun hq => ?_) <;> (try (first | (exfalso; omega) | contradiction)) <;> (try simp -implicitDefEqProofs (maxSteps := 4000000) (disch := omega) only [getDT, go_sem, *]) <;> (try simp only [pA, pB, pC, pD, pE, pF, pG, pH, pI, pJ, pK, pL, pM, pN, pO, pP, if_true, if_false]))); (all_goals try rfl); (all_goals try (repeat' (first | done | rfl | (exfalso; omega) | contradiction | (refine iteR (fun hq => ?_) (fun hq => ?_)))))
      · rw [show (if k < ((p + 1 : Nat) : Int) then (1 : Int) else 0) = if k < (p : Int) then 1 else 0 by split <;> split <;> omega] at i1
        have hin2 := fun h => c ((hin.1 h).symm.trans hxs)
        generalize (if k < (p : Int) then (1 : Int) else 0) = z at *
        clear hin hlive
        simp only [Int.natCast_add, Int.natCast_one, Int.natCast_zero, Int.natCast_mul, Int.cast_ofNat_Int, List.length_append, List.length_map, List.map_nil, List.length_nil, List.map_append, List.map_cons, List.length_cons, Nat.zero_add, srcO, mapSet] at i1
        (try simp -implicitDefEqProofs (maxSteps := 4000000) (disch := omega) only [getDT, go_sem, *]); (try simp only [pA, pB, pC, pD, pE, pF, pG, pH, pI, pJ, pK, pL, pM, pN, pO, pP, if_true, if_false]); repeat' (first | done | rfl | (refine iteC (fun hq => ?_) (fun hq => ?_) <;> (try (first | (exfalso; omega) | contradiction)) <;> (try simp -implicitDefEqProofs (maxSteps := 4000000) (disch := omega) only [getDT, go_sem, *]) <;> (try simp only [pA, pB, pC, pD, pE, pF, pG, pH, pI, pJ, pK, pL, pM, pN, pO, pP, if_true, if_false]))); (all_goals try rfl); (all_goals try (repeat' (first | done | rfl | (exfalso; omega) | contradiction | (refine iteR (fun hq => ?_) (fun hq => ?_)))))
    · rw [e] at hs
      by_cases c : k = p
      · rw [c] at hlive; omega
      · rw [show (if k < ((p + 1 : Nat) : Int) then (1 : Int) else 0) = if k < (p : Int) then 1 else 0 by split <;> split <;> omega] at i1
        generalize (if k < (p : Int) then (1 : Int) else 0) = z at *
        clear ih hown e hv hlive
        simp only [Int.natCast_add, Int.natCast_one, Int.natCast_zero, Int.natCast_mul, Int.cast_ofNat_Int, List.length_append, List.length_map, List.map_nil, List.length_nil, List.map_append, List.map_cons, List.length_cons, Nat.zero_add, srcO, mapSet] at i1
        (try simp -implicitDefEqProofs (maxSteps := 4000000) (disch := omega) only [getDT, go_sem, *]); (try simp only [pA, pB, pC, pD, pE, pF, pG, pH, pI, pJ, pK, pL, pM, pN, pO, pP, if_true, if_false]); repeat' (first | done | rfl | (refine iteC (fun hq => ?_) (fun hq => ?_) <;> (try (first | (exfalso; omega) | contradiction)) <;> (try simp -implicitDefEqProofs (maxSteps := 4000000) (disch := omega) only [getDT, go_sem, *]) <;> (try simp only [pA, pB, pC, pD, pE, pF, pG, pH, pI, pJ, pK, pL, pM, pN, pO, pP, if_true, if_false]))); (all_goals try rfl); (all_goals try (repeat' (first | done | rfl | (exfalso; omega) | contradiction | (refine iteR (fun hq => ?_) (fun hq => ?_)))))
  · rw [if_pos (by omega)]
    clear ih hown hv hk hlive
    (try simp -implicitDefEqProofs (maxSteps := 4000000) (disch := omega) only [getDT, go_sem, *]); (try simp only [pA, pB, pC, pD, pE, pF, pG, pH, pI, pJ, pK, pL, pM, pN, pO, pP, if_true, if_false]); repeat' (first | done | rfl | (refine iteC (fun hq => ?_) (fun hq => ?_) <;> (try (first | (exfalso; omega) | contradiction)) <;> (try simp -implicitDefEqProofs (maxSteps := 4000000) (disch := omega) only [getDT, go_sem, *]) <;> (try simp only [pA, pB, pC, pD, pE, pF, pG, pH, pI, pJ, pK, pL, pM, pN, pO, pP, if_true, if_false]))); (all_goals try rfl); (all_goals try (repeat' (first | done | rfl | (exfalso; omega) | contradiction | (refine iteR (fun hq => ?_) (fun hq => ?_)))))
def own2S (l : List Int) (r : Int) (n : Nat) (p : Directory × Nat × Nat) : St := ⟨[(1, .d (.int .i64 r)), (5, .ref 18 0 0), (6, .d (.int .i64 n)), (7, .ref 7 0 0), (9, .d (.int .i64 p.2.2))], [(7, .row [.d (eDirectory p.1)]), (18, srcO l p.2.1)]⟩
theorem own_outer (l : List Int) (hL : l.length ≤ 4000) (r : Int) (hr : 0 ≤ r ∧ r < 65536) (n : Nat) (h1 : 1 ≤ n) (h2 : n ≤ 6) : ∀ p : Directory × Nat × Nat, (Val p.1 ∧ p.1.forward.length = n ∧ p.1.l.length ≤ 20 + p.2.2 ∧ p.2.2 ≤ 12) → loopL G [] l_law10_DirectoryOwners_1 (own2S l r n p) = some (.exit 0, ⟨[], []⟩) := by
  refine loop_ind (fun p : Directory × Nat × Nat => 12 - p.2.2) (fun p : Directory × Nat × Nat => Val p.1 ∧ p.1.forward.length = n ∧ p.1.l.length ≤ 20 + p.2.2 ∧ p.2.2 ≤ 12) (own2S l r n) _ fun ⟨d, a, i⟩ ⟨hv, hf, hk, hi⟩ L ih => ?_
  simp only [own2S] at ih hv hf hk hi ⊢
  simp only [l_law10_DirectoryOwners_1]
  by_cases h0 : i < 12
  · obtain ⟨e, a1, he, hc⟩ := edit_ok l a n hL (by omega) (by omega)
    have hp := dapply_ok d e (by omega) (by omega)
    have hx := fun h => (chg_of (e := e) hv h)
    generalize applyD d e = x at *
    obtain ⟨x1, x2⟩ := x
    simp only at hp hx
    have fin : ∀ y : Directory, Val y → y.forward.length = n → y.l.length ≤ 40 → callL G N_directory_Owner [.d (eDirectory y), .d (.int .i64 r)] [] = some (.d (.int .i64 (ownerD y r)), []) ∧ callL G N_directory_Validate [.d (eDirectory y)] [] = some (.d (.int .i64 0), []) ∧ loopL G [] l_law10_DirectoryOwners_0 (ownS l y r (ownerD y r) n i a1 0) = some (.exit 2, ⟨[(1, .d (.int .i64 r)), (5, .ref 18 0 0), (6, .d (.int .i64 n)), (7, .ref 7 0 0), (9, .d (.int .i64 i)), (13, .d (.int .i64 1))], [(7, .row [.d (eDirectory y)]), (18, srcO l a1)]⟩) := fun y hy h1 h2 =>
      ⟨downer_ok y r (by omega) (by have := hy.n2; omega), by have := dValidate_ok y (by omega) (by have := hy.n2; omega); rwa [of_val hy] at this, own_inner l y hy h2 r hr n i a1 h1 0 (by omega)⟩
    have hneg : ∀ y : Directory, Val y → (if ownerD y r < ((0 : Nat) : Int) then (1 : Int) else 0) = 0 := fun y hy => by
      obtain ⟨o, ho, _, hoe⟩ := owner_spec hy hr.1 hr.2
      have := hy.sh y.l[o] (List.getElem_mem _)
      rw [hoe, if_neg (by omega)]
    by_cases c : x2 = 0
    · have hg := hx c
      have hvx := hg.val hv
      obtain ⟨s1, s2⟩ := hg.same
      have i1 := ih (x1, a1, i + 1) ⟨hvx, s2.trans hf, by have := hg.len; simp only; omega, by simp only; omega⟩ (by simp only; omega)
      obtain ⟨f1, f2, f3⟩ := fin x1 hvx (s2.trans hf) (by have := hg.len; omega)
      simp only [ownS, hneg x1 hvx] at f3
      have v1 := hv.v1
      have v2 := hv.v2
      subst c
      generalize ownerD x1 r = k at *
      clear ih hx hg hv he hf hk fin hvx hneg
      simp only [Int.natCast_add, Int.natCast_one, Int.natCast_zero, Int.natCast_mul, Int.cast_ofNat_Int, List.length_append, List.length_map, List.map_nil, List.length_nil, List.map_append, List.map_cons, List.length_cons, Nat.zero_add, srcO, mapSet] at i1 f3
      (try simp -implicitDefEqProofs (maxSteps := 4000000) (disch := omega) only [getDT, go_sem, *]); (try simp only [pA, pB, pC, pD, pE, pF, pG, pH, pI, pJ, pK, pL, pM, pN, pO, pP, if_true, if_false]); repeat' (first | done | rfl | (refine iteC (fun hq => ?_) (fun hq => ?_) <;> (try (first | (exfalso; omega) | contradiction)) <;> (try simp -implicitDefEqProofs (maxSteps := 4000000) (disch := omega) only [getDT, go_sem, *]) <;> (try simp only [pA, pB, pC, pD, pE, pF, pG, pH, pI, pJ, pK, pL, pM, pN, pO, pP, if_true, if_false]))); (all_goals try rfl); (all_goals try (repeat' (first | done | rfl | (exfalso; omega) | contradiction | (refine iteR (fun hq => ?_) (fun hq => ?_)))))
    · have i1 := ih (d, a1, i + 1) ⟨hv, hf, by simp only; omega, by simp only; omega⟩ (by simp only; omega)
      obtain ⟨f1, f2, f3⟩ := fin d hv hf (by omega)
      simp only [ownS, hneg d hv] at f3
      generalize ownerD d r = k at *
      clear ih hx hv he hf hk fin hneg
      simp only [Int.natCast_add, Int.natCast_one, Int.natCast_zero, Int.natCast_mul, Int.cast_ofNat_Int, List.length_append, List.length_map, List.map_nil, List.length_nil, List.map_append, List.map_cons, List.length_cons, Nat.zero_add, srcO, mapSet] at i1 f3
      (try simp -implicitDefEqProofs (maxSteps := 4000000) (disch := omega) only [getDT, go_sem, *]); (try simp only [pA, pB, pC, pD, pE, pF, pG, pH, pI, pJ, pK, pL, pM, pN, pO, pP, if_true, if_false]); repeat' (first | done | rfl | (refine iteC (fun hq => ?_) (fun hq => ?_) <;> (try (first | (exfalso; omega) | contradiction)) <;> (try simp -implicitDefEqProofs (maxSteps := 4000000) (disch := omega) only [getDT, go_sem, *]) <;> (try simp only [pA, pB, pC, pD, pE, pF, pG, pH, pI, pJ, pK, pL, pM, pN, pO, pP, if_true, if_false]))); (all_goals try rfl); (all_goals try (repeat' (first | done | rfl | (exfalso; omega) | contradiction | (refine iteR (fun hq => ?_) (fun hq => ?_)))))
  · clear ih hv
    (try simp -implicitDefEqProofs (maxSteps := 4000000) (disch := omega) only [getDT, go_sem, *]); (try simp only [pA, pB, pC, pD, pE, pF, pG, pH, pI, pJ, pK, pL, pM, pN, pO, pP, if_true, if_false]); repeat' (first | done | rfl | (refine iteC (fun hq => ?_) (fun hq => ?_) <;> (try (first | (exfalso; omega) | contradiction)) <;> (try simp -implicitDefEqProofs (maxSteps := 4000000) (disch := omega) only [getDT, go_sem, *]) <;> (try simp only [pA, pB, pC, pD, pE, pF, pG, pH, pI, pJ, pK, pL, pM, pN, pO, pP, if_true, if_false]))); (all_goals try rfl); (all_goals try (repeat' (first | done | rfl | (exfalso; omega) | contradiction | (refine iteR (fun hq => ?_) (fun hq => ?_)))))
end Go.Proofs.Ytkdjbfjohbiemaa

namespace Go.Proofs.Ytkdjbfjohbiemaa
open Go Go.Sim
set_option linter.unusedSimpArgs false
set_option linter.unusedVariables false
set_option maxHeartbeats 10000000
set_option maxRecDepth 40000
theorem and_bound (a : Int) : 0 ≤ andI .i64 a 65535 ∧ andI .i64 a 65535 < 65536 := by
  have h : (BitVec.ofInt 64 a &&& BitVec.ofInt 64 65535).toNat ≤ 65535 := by
    rw [BitVec.toNat_and]
    exact Nat.le_trans Nat.and_le_right (by decide)
  have e : andI .i64 a 65535 = ((BitVec.ofInt 64 a &&& BitVec.ofInt 64 65535).toNat : Int) := by
    show IntKind.i64.wrap ((BitVec.ofInt 64 a &&& BitVec.ofInt 64 65535).toNat : Int) = _
    exact wr (by omega)
  omega
theorem own_law (l : List Int) (r : Int) (hL : l.length ≤ LIM) : callL G N_law10_DirectoryOwners [.d (.sl (ints l)), .d (.int .i64 r)] [] = some (.d (.bool true), []) := by
  obtain ⟨t, ht, hnew⟩ := new_ok2 l hL
  have e1 := range_ok t 0 1 6 ht (by omega) (by omega) (by omega) (by omega)
  have b1 := nD_in t 0 (n := 6 - 1 + 1) (by omega)
  obtain ⟨a1, q1⟩ : ∃ a1, a1 = (rawD t 0).2 := ⟨_, rfl⟩
  obtain ⟨n, hn⟩ : ∃ n : Nat, 1 + nD t 0 (6 - 1 + 1) = n := ⟨(1 + nD t 0 (6 - 1 + 1)).toNat, by omega⟩
  have e2 := range_ok t a1 1 n ht (by omega) (by omega) (by omega) (by omega)
  have b2 := nD_in t a1 (n := n - 1 + 1) (by omega)
  obtain ⟨a2, q2⟩ : ∃ a2, a2 = (rawD t a1).2 := ⟨_, rfl⟩
  have e3 := dnew_ok n (1 + nD t a1 (n - 1 + 1))
  obtain ⟨v1, v2, v3, v4⟩ := newD_val (slots := n) (live := 1 + nD t a1 (n - 1 + 1)) (by omega) (by omega) (by omega)
  have vl : (newD n (1 + nD t a1 (n - 1 + 1))).1.l.length ≤ 6 := by rw [v4]; simp only [dirN, spansN_len]; omega
  clear v4
  rw [v1] at e3
  rw [← q1, hn] at e1
  rw [← q2] at e2
  generalize (newD n (1 + nD t a1 (n - 1 + 1))).1 = d at *
  generalize nD t a1 (n - 1 + 1) = m at *
  have ho := own_outer t ht _ (and_bound r) n (by omega) (by omega) (d, a2, 0) ⟨v2, by simpa using v3, by simp only; omega, by simp only; omega⟩
  have hb := and_bound r
  generalize hq : andI .i64 r 65535 = q at *
  simp only [own2S] at ho
  have hw := awake10_ok
  clear q1 q2 hn b1 v1 v2 v3
  simp only [Int.natCast_add, Int.natCast_one, Int.natCast_zero, Int.natCast_mul, Int.cast_ofNat_Int, List.length_append, List.length_map, List.map_nil, List.length_nil, List.map_append, List.map_cons, List.length_cons, Nat.zero_add, srcO, mapSet] at ho e1 e2
  rw [callL_code g_law10_DirectoryOwners (by simp)]; simp -implicitDefEqProofs (maxSteps := 4000000) (disch := omega) only [c_law10_DirectoryOwners, r_law10_DirectoryOwners, getDT, go_sem, *]; (try simp only [pA, pB, pC, pD, pE, pF, pG, pH, pI, pJ, pK, pL, pM, pN, pO, pP, if_true, if_false]); repeat' (first | done | rfl | (refine iteC (fun hq => ?_) (fun hq => ?_) <;> (try (first | (exfalso; omega) | contradiction)) <;> (try simp -implicitDefEqProofs (maxSteps := 4000000) (disch := omega) only [getDT, go_sem, *]) <;> (try simp only [pA, pB, pC, pD, pE, pF, pG, pH, pI, pJ, pK, pL, pM, pN, pO, pP, if_true, if_false]))); (all_goals try rfl); (all_goals try (repeat' (first | done | rfl | (exfalso; omega) | contradiction | (refine iteR (fun hq => ?_) (fun hq => ?_)))))
end Go.Proofs.Ytkdjbfjohbiemaa
