/-
  Owners of routes.
  What a change moves.
  The walk of moves.
  The law of moves.
-/
import Derived.Test.YtkdjbfjohbiemaaBcffed20
set_option linter.unusedSimpArgs false
set_option linter.unusedVariables false
namespace Go.Proofs.Ytkdjbfjohbiemaa
open Go Go.Sim
set_option linter.unusedSimpArgs false
set_option linter.unusedVariables false
set_option maxHeartbeats 10000000
set_option maxRecDepth 40000
theorem tile_ge : ∀ (l : List Span) (n m : Int), tileN n l = some m → ∀ x ∈ l, n ≤ x.low
  | [], _, _, _, x, hx => by cases hx
  | y :: l, n, m, h, x, hx => by
    rw [tileN] at h
    split at h
    · rename_i hc
      cases hx with
      | head => omega
      | tail _ hx => have := tile_ge l _ m h x hx; omega
    · cases h
theorem tile_pw : ∀ (l : List Span) (n m : Int), tileN n l = some m → l.Pairwise fun x y => x.high < y.low
  | [], _, _, _ => .nil
  | y :: l, n, m, h => by
    rw [tileN] at h
    split at h
    · exact .cons (fun x hx => by have := tile_ge l _ m h x hx; omega) (tile_pw l _ m h)
    · cases h
theorem tile_hit : ∀ (l : List Span) (n m r : Int), tileN n l = some m → n ≤ r → r < m → ∃ x ∈ l, inS r x = true
  | [], n, m, r, h, h1, h2 => by simp only [tileN, Option.some.injEq] at h; omega
  | y :: l, n, m, r, h, h1, h2 => by
    rw [tileN] at h
    split at h
    · rename_i hc
      by_cases c : r ≤ y.high
      · exact ⟨y, by simp, by unfold inS; simp only [Bool.and_eq_true, decide_eq_true_eq]; omega⟩
      · obtain ⟨x, hx, e⟩ := tile_hit l _ m r h (by omega) h2
        exact ⟨x, by simp [hx], e⟩
    · cases h
theorem tile_one {d : Directory} (h : Val d) {r : Int} {i j : Nat} (hi : i < d.l.length) (hj : j < d.l.length) (h1 : inS r d.l[i] = true) (h2 : inS r d.l[j] = true) : i = j := by
  have pw := List.pairwise_iff_getElem.1 (tile_pw d.l 0 65536 h.til)
  have htl := tile_in d.l 0 65536 (by omega) h.til
  unfold inS at h1 h2
  simp only [Bool.and_eq_true, decide_eq_true_eq] at h1 h2
  rcases Nat.lt_trichotomy i j with c | c | c
  · have := pw i j hi hj c; omega
  · exact c
  · have := pw j i hj hi c; omega
/-- The owner of a route: the shard of the one span that holds it. -/
theorem owner_spec {d : Directory} (h : Val d) {r : Int} (h0 : 0 ≤ r) (h1 : r < 65536) : ∃ (o : Nat) (ho : o < d.l.length), inS r d.l[o] = true ∧ ownerD d r = d.l[o].shard := by
  obtain ⟨x, hx, hin⟩ := tile_hit d.l 0 65536 r h.til h0 h1
  unfold ownerD
  rw [if_pos (of_val h)]
  cases hf : d.l.findIdx? (inS r) with
  | none =>
    have := List.findIdx?_eq_none_iff.1 hf x hx
    rw [hin] at this; cases this
  | some o =>
    obtain ⟨ho, h2, _⟩ := List.findIdx?_eq_some_iff_getElem.1 hf
    exact ⟨o, ho, h2, by simp only; rw [getDT ho]⟩
theorem owner_iff {d : Directory} (h : Val d) {r : Int} (h0 : 0 ≤ r) (h1 : r < 65536) (x : Span) (hx : x ∈ d.l) : inS r x = true ↔ x.shard = ownerD d r := by
  obtain ⟨o, ho, h2, e⟩ := owner_spec h h0 h1
  obtain ⟨i, hi, rfl⟩ := List.getElem_of_mem hx
  rw [e]
  constructor
  · intro h3
    have := tile_one h hi ho h3 h2
    subst this; rfl
  · intro h3
    have := nd_inj h.nd hi ho h3
    subst this; exact h2
theorem span_live {d : Directory} (h : Val d) (j : Int) : (0 ≤ findS d.l j ∧ ∃ x ∈ d.l, x.shard = j ∧ spanD d j = (x, true)) ∨ (findS d.l j < 0 ∧ spanD d j = (zSpan, false)) := by
  unfold spanD
  by_cases c : 0 ≤ findS d.l j
  · obtain ⟨i, hi, e, hs⟩ := findS_nat c
    refine .inl ⟨c, d.l[i], List.getElem_mem _, hs, ?_⟩
    rw [if_pos ⟨of_val h, c⟩, e, Int.toNat_natCast, getDT hi]
  · exact .inr ⟨by omega, by rw [if_neg (fun h => c h.2)]⟩
def ownS (l : List Int) (d : Directory) (r k : Int) (n i a : Nat) (p : Nat) : St := ⟨[(1, .d (.int .i64 r)), (5, .ref 18 0 0), (6, .d (.int .i64 n)), (7, .ref 7 0 0), (9, .d (.int .i64 i)), (12, .d (.int .i64 k)), (13, .d (.int .i64 (if k < p then 1 else 0))), (14, .d (.int .i64 p))], [(7, .row [.d (eDirectory d)]), (18, srcO l a)]⟩
theorem own_inner (l : List Int) (d : Directory) (hv : Val d) (hl : d.l.length ≤ 40) (r : Int) (hr : 0 ≤ r ∧ r < 65536) (n i a : Nat) (hn : d.forward.length = n) : ∀ p : Nat, p ≤ n → loopL G [] l_law10_DirectoryOwners_0 (ownS l d r (ownerD d r) n i a p) = some (.exit 2, ⟨[(1, .d (.int .i64 r)), (5, .ref 18 0 0), (6, .d (.int .i64 n)), (7, .ref 7 0 0), (9, .d (.int .i64 i)), (13, .d (.int .i64 1))], [(7, .row [.d (eDirectory d)]), (18, srcO l a)]⟩) := by
  refine loop_ind (fun p : Nat => n - p) (fun p : Nat => p ≤ n) (ownS l d r (ownerD d r) n i a) _ fun p hp L ih => ?_
  have n2 := hv.n2
  have hown := owner_iff hv hr.1 hr.2
  obtain ⟨hk, hlive⟩ : (0 ≤ ownerD d r ∧ ownerD d r < d.forward.length) ∧ 0 ≤ findS d.l (ownerD d r) := by
    obtain ⟨o, ho, _, hoe⟩ := owner_spec hv hr.1 hr.2
    rw [hoe]
    exact ⟨hv.sh d.l[o] (List.getElem_mem _), (live_iff _ _).2 ⟨d.l[o], List.getElem_mem _, rfl⟩⟩
  simp only [ownS] at ih hp ⊢
  simp only [l_law10_DirectoryOwners_0]
  by_cases h0 : p < n
  · have i1 := ih (p + 1) (by omega) (by omega)
    have hs := dSpan_ok d p (by omega) (by omega)
    have hsp := span_live hv p
    generalize ownerD d r = k at *
    rcases hsp with ⟨_, x, hx, hxs, e⟩ | ⟨_, e⟩
    · rw [e] at hs
      have hin := hown x hx
      unfold inS at hin
      simp only [Bool.and_eq_true, decide_eq_true_eq] at hin
      clear ih hown e hv
      by_cases c : k = p
      · rw [if_pos (by omega)] at i1
        rw [if_neg (by omega)]
        have hin2 := hin.2 (by omega)
        clear hin hlive
        subst c
        simp only [Int.natCast_add, Int.natCast_one, Int.natCast_zero, Int.natCast_mul, Int.cast_ofNat_Int, List.length_append, List.length_map, List.map_nil, List.length_nil, List.map_append, List.map_cons, List.length_cons, Nat.zero_add, srcO, mapSet] at i1
        (try simp -implicitDefEqProofs (maxSteps := 4000000) (disch := omega) only [getDT, go_sem, *]); (try simp only [pA, pB, pC, pD, pE, pF, pG, pH, pI, pJ, pK, pL, pM, pN, pO, pP, if_true, if_false]); repeat' (first | done | rfl | (refine iteC (fun hq => ?_) (fun hq => ?_) <;> (try (first | (exfalso; omega) | contradiction)) <;> (try simp -implicitDefEqProofs (maxSteps := 4000000) (disch := omega) only [getDT, go_sem, *]) <;> (try simp only [pA, pB, pC, pD, pE, pF, pG, pH, pI, pJ, pK, pL, pM, pN, pO, pP, if_true, if_false]))); (all_goals try rfl); (all_goals try (repeat' (first | done | rfl | (exfalso; omega) | contradiction | (refine iteR (fun hq => ?_) (fun hq => ?_)))))
      · rw [show (if k < ((p + 1 : Nat) : Int) then (1 : Int) else 0) = if k < (p : Int) then 1 else 0 by split <;> split <;> omega] at i1
        have hin2 := fun h => c ((hin.1 h).symm.trans hxs)
        generalize (if k < (p : Int) then (1 : Int) else 0) = z at *
        clear hin hlive
        simp only [Int.natCast_add, Int.natCast_one, Int.natCast_zero, Int.natCast_mul, Int.cast_ofNat_Int, List.length_append, List.length_map, List.map_nil, List.length_nil, List.map_append, List.map_cons, List.length_cons, Nat.zero_add, srcO, mapSet] at i1
        (try simp -implicitDefEqProofs (maxSteps := 4000000) (disch := omega) only [getDT, go_sem, *]); (try simp only [pA, pB, pC, pD, pE, pF, pG, pH, pI, pJ, pK, pL, pM, pN, pO, pP, if_true, if_false]); repeat' (first | done | rfl | (refine iteC (fun hq => ?_) (fun hq => ?_) <;> (try (first | (exfalso; omega) | contradiction)) <;> (try simp -implicitDefEqProofs (maxSteps := 4000000) (disch := omega) only [getDT, go_sem, *]) <;> (try simp only [pA, pB, pC, pD, pE, pF, pG, pH, pI, pJ, pK, pL, pM, pN, pO, pP, if_true, if_false]))); (all_goals try rfl); (all_goals try (repeat' (first | done | rfl | (exfalso; omega) | contradiction | (refine iteR (fun hq => ?_) (fun hq => ?_)))))
    · rw [e] at hs
      by_cases c : k = p
      · rw [c] at hlive; omega
      · rw [show (if k < ((p + 1 : Nat) : Int) then (1 : Int) else 0) = if k < (p : Int) then 1 else 0 by split <;> split <;> omega] at i1
        generalize (if k < (p : Int) then (1 : Int) else 0) = z at *
        clear ih hown e hv hlive
        simp only [Int.natCast_add, Int.natCast_one, Int.natCast_zero, Int.natCast_mul, Int.cast_ofNat_Int, List.length_append, List.length_map, List.map_nil, List.length_nil, List.map_append, List.map_cons, List.length_cons, Nat.zero_add, srcO, mapSet] at i1
        (try simp -implicitDefEqProofs (maxSteps := 4000000) (disch := omega) only [getDT, go_sem, *]); (try simp only [pA, pB, pC, pD, pE, pF, pG, pH, pI, pJ, pK, pL, pM, pN, pO, pP, if_true, if_false]); repeat' (first | done | rfl | (refine iteC (fun hq => ?_) (fun hq => ?_) <;> (try (first | (exfalso; omega) | contradiction)) <;> (try simp -implicitDefEqProofs (maxSteps := 4000000) (disch := omega) only [getDT, go_sem, *]) <;> (try simp only [pA, pB, pC, pD, pE, pF, pG, pH, pI, pJ, pK, pL, pM, pN, pO, pP, if_true, if_false]))); (all_goals try rfl); (all_goals try (repeat' (first | done | rfl | (exfalso; omega) | contradiction | (refine iteR (fun hq => ?_) (fun hq => ?_)))))
  · rw [if_pos (by omega)]
    clear ih hown hv hk hlive
    (try simp -implicitDefEqProofs (maxSteps := 4000000) (disch := omega) only [getDT, go_sem, *]); (try simp only [pA, pB, pC, pD, pE, pF, pG, pH, pI, pJ, pK, pL, pM, pN, pO, pP, if_true, if_false]); repeat' (first | done | rfl | (refine iteC (fun hq => ?_) (fun hq => ?_) <;> (try (first | (exfalso; omega) | contradiction)) <;> (try simp -implicitDefEqProofs (maxSteps := 4000000) (disch := omega) only [getDT, go_sem, *]) <;> (try simp only [pA, pB, pC, pD, pE, pF, pG, pH, pI, pJ, pK, pL, pM, pN, pO, pP, if_true, if_false]))); (all_goals try rfl); (all_goals try (repeat' (first | done | rfl | (exfalso; omega) | contradiction | (refine iteR (fun hq => ?_) (fun hq => ?_)))))
def own2S (l : List Int) (r : Int) (n : Nat) (p : Directory × Nat × Nat) : St := ⟨[(1, .d (.int .i64 r)), (5, .ref 18 0 0), (6, .d (.int .i64 n)), (7, .ref 7 0 0), (9, .d (.int .i64 p.2.2))], [(7, .row [.d (eDirectory p.1)]), (18, srcO l p.2.1)]⟩
theorem own_outer (l : List Int) (hL : l.length ≤ 4000) (r : Int) (hr : 0 ≤ r ∧ r < 65536) (n : Nat) (h1 : 1 ≤ n) (h2 : n ≤ 6) : ∀ p : Directory × Nat × Nat, (Val p.1 ∧ p.1.forward.length = n ∧ p.1.l.length ≤ 20 + p.2.2 ∧ p.2.2 ≤ 12) → loopL G [] l_law10_DirectoryOwners_1 (own2S l r n p) = some (.exit 0, ⟨[], []⟩) := by
  refine loop_ind (fun p : Directory × Nat × Nat => 12 - p.2.2) (fun p : Directory × Nat × Nat => Val p.1 ∧ p.1.forward.length = n ∧ p.1.l.length ≤ 20 + p.2.2 ∧ p.2.2 ≤ 12) (own2S l r n) _ fun ⟨d, a, i⟩ ⟨hv, hf, hk, hi⟩ L ih => ?_
  simp only [own2S] at ih hv hf hk hi ⊢
  simp only [l_law10_DirectoryOwners_1]
  by_cases h0 : i < 12
  · obtain ⟨e, a1, he, hc⟩ := edit_ok l a n hL (by omega) (by omega)
    have hp := dapply_ok d e (by omega) (by omega)
    have hx := fun h => (chg_of (e := e) hv h)
    generalize applyD d e = x at *
    obtain ⟨x1, x2⟩ := x
    simp only at hp hx
    have fin : ∀ y : Directory, Val y → y.forward.length = n → y.l.length ≤ 40 → callL G N_directory_Owner [.d (eDirectory y), .d (.int .i64 r)] [] = some (.d (.int .i64 (ownerD y r)), []) ∧ callL G N_directory_Validate [.d (eDirectory y)] [] = some (.d (.int .i64 0), []) ∧ loopL G [] l_law10_DirectoryOwners_0 (ownS l y r (ownerD y r) n i a1 0) = some (.exit 2, ⟨[(1, .d (.int .i64 r)), (5, .ref 18 0 0), (6, .d (.int .i64 n)), (7, .ref 7 0 0), (9, .d (.int .i64 i)), (13, .d (.int .i64 1))], [(7, .row [.d (eDirectory y)]), (18, srcO l a1)]⟩) := fun y hy h1 h2 =>
      ⟨downer_ok y r (by omega) (by have := hy.n2; omega), by have := dValidate_ok y (by omega) (by have := hy.n2; omega); rwa [of_val hy] at this, own_inner l y hy h2 r hr n i a1 h1 0 (by omega)⟩
    have hneg : ∀ y : Directory, Val y → (if ownerD y r < ((0 : Nat) : Int) then (1 : Int) else 0) = 0 := fun y hy => by
      obtain ⟨o, ho, _, hoe⟩ := owner_spec hy hr.1 hr.2
      have := hy.sh y.l[o] (List.getElem_mem _)
      rw [hoe, if_neg (by omega)]
    by_cases c : x2 = 0
    · have hg := hx c
      have hvx := hg.val hv
      obtain ⟨s1, s2⟩ := hg.same
      have i1 := ih (x1, a1, i + 1) ⟨hvx, s2.trans hf, by have := hg.len; simp only; omega, by simp only; omega⟩ (by simp only; omega)
      obtain ⟨f1, f2, f3⟩ := fin x1 hvx (s2.trans hf) (by have := hg.len; omega)
      simp only [ownS, hneg x1 hvx] at f3
      have v1 := hv.v1
      have v2 := hv.v2
      subst c
      generalize ownerD x1 r = k at *
      clear ih hx hg hv he hf hk fin hvx hneg
      simp only [Int.natCast_add, Int.natCast_one, Int.natCast_zero, Int.natCast_mul, Int.cast_ofNat_Int, List.length_append, List.length_map, List.map_nil, List.length_nil, List.map_append, List.map_cons, List.length_cons, Nat.zero_add, srcO, mapSet] at i1 f3
      (try simp -implicitDefEqProofs (maxSteps := 4000000) (disch := omega) only [getDT, go_sem, *]); (try simp only [pA, pB, pC, pD, pE, pF, pG, pH, pI, pJ, pK, pL, pM, pN, pO, pP, if_true, if_false]); repeat' (first | done | rfl | (refine iteC (fun hq => ?_) (fun hq => ?_) <;> (try (first | (exfalso; omega) | contradiction)) <;> (try simp -implicitDefEqProofs (maxSteps := 4000000) (disch := omega) only [getDT, go_sem, *]) <;> (try simp only [pA, pB, pC, pD, pE, pF, pG, pH, pI, pJ, pK, pL, pM, pN, pO, pP, if_true, if_false]))); (all_goals try rfl); (all_goals try (repeat' (first | done | rfl | (exfalso; omega) | contradiction | (refine iteR (fun hq => ?_) (fun hq => ?_)))))
    · have i1 := ih (d, a1, i + 1) ⟨hv, hf, by simp only; omega, by simp only; omega⟩ (by simp only; omega)
      obtain ⟨f1, f2, f3⟩ := fin d hv hf (by omega)
      simp only [ownS, hneg d hv] at f3
      generalize ownerD d r = k at *
      clear ih hx hv he hf hk fin hneg
      simp only [Int.natCast_add, Int.natCast_one, Int.natCast_zero, Int.natCast_mul, Int.cast_ofNat_Int, List.length_append, List.length_map, List.map_nil, List.length_nil, List.map_append, List.map_cons, List.length_cons, Nat.zero_add, srcO, mapSet] at i1 f3
      (try simp -implicitDefEqProofs (maxSteps := 4000000) (disch := omega) only [getDT, go_sem, *]); (try simp only [pA, pB, pC, pD, pE, pF, pG, pH, pI, pJ, pK, pL, pM, pN, pO, pP, if_true, if_false]); repeat' (first | done | rfl | (refine iteC (fun hq => ?_) (fun hq => ?_) <;> (try (first | (exfalso; omega) | contradiction)) <;> (try simp -implicitDefEqProofs (maxSteps := 4000000) (disch := omega) only [getDT, go_sem, *]) <;> (try simp only [pA, pB, pC, pD, pE, pF, pG, pH, pI, pJ, pK, pL, pM, pN, pO, pP, if_true, if_false]))); (all_goals try rfl); (all_goals try (repeat' (first | done | rfl | (exfalso; omega) | contradiction | (refine iteR (fun hq => ?_) (fun hq => ?_)))))
  · clear ih hv
    (try simp -implicitDefEqProofs (maxSteps := 4000000) (disch := omega) only [getDT, go_sem, *]); (try simp only [pA, pB, pC, pD, pE, pF, pG, pH, pI, pJ, pK, pL, pM, pN, pO, pP, if_true, if_false]); repeat' (first | done | rfl | (refine iteC (fun hq => ?_) (fun hq => ?_) <;> (try (first | (exfalso; omega) | contradiction)) <;> (try simp -implicitDefEqProofs (maxSteps := 4000000) (disch := omega) only [getDT, go_sem, *]) <;> (try simp only [pA, pB, pC, pD, pE, pF, pG, pH, pI, pJ, pK, pL, pM, pN, pO, pP, if_true, if_false]))); (all_goals try rfl); (all_goals try (repeat' (first | done | rfl | (exfalso; omega) | contradiction | (refine iteR (fun hq => ?_) (fun hq => ?_)))))
end Go.Proofs.Ytkdjbfjohbiemaa

namespace Go.Proofs.Ytkdjbfjohbiemaa
open Go Go.Sim
set_option linter.unusedSimpArgs false
set_option linter.unusedVariables false
set_option maxHeartbeats 10000000
set_option maxRecDepth 40000
theorem owner_of {d : Directory} (h : Val d) {r : Int} (h0 : 0 ≤ r) (h1 : r < 65536) {x : Span} (hx : x ∈ d.l) (hin : inS r x = true) : ownerD d r = x.shard := ((owner_iff h h0 h1 x hx).1 hin).symm
/-- Who owns a route after a change. -/
theorem moves {d x : Directory} {e : Edit} (h : Val d) (hc : Chg d e x) {r : Int} (h0 : 0 ≤ r) (h1 : r < 65536) : ownerD x r = if ownerD d r = e.from_ ∧ (e.kind = 2 ∨ e.mid < r) then e.to else ownerD d r := by
  have hx := hc.val h
  obtain ⟨o, ho, hin, howe⟩ := owner_spec h h0 h1
  have hz := List.getElem_mem ho
  generalize d.l[o] = z at *
  cases hc with
  | @split pre post x0 hk hd hf hm ht hn hv =>
    have hx0 : x0 ∈ d.l := by rw [hd]; simp
    by_cases c : inS r x0 = true
    · have ow := owner_of h h0 h1 hx0 c
      rw [ow]
      unfold inS at c
      simp only [Bool.and_eq_true, decide_eq_true_eq] at c
      by_cases c2 : e.mid < r
      · rw [if_pos ⟨hf, .inr c2⟩]
        exact owner_of hx h0 h1 (x := ⟨e.mid + 1, x0.high, e.to⟩) (by simp) (by unfold inS; simp only [Bool.and_eq_true, decide_eq_true_eq]; omega)
      · rw [if_neg (by omega)]
        exact owner_of hx h0 h1 (x := ⟨x0.low, e.mid, x0.shard⟩) (by simp) (by unfold inS; simp only [Bool.and_eq_true, decide_eq_true_eq]; omega)
    · have hne : ownerD d r ≠ e.from_ := fun e2 => c ((owner_iff h h0 h1 x0 hx0).2 (hf.trans e2.symm))
      rw [if_neg (fun h => hne h.1), howe]
      refine owner_of hx h0 h1 ?_ hin
      rw [hd] at hz
      simp only [List.mem_append, List.mem_cons] at hz ⊢
      rcases hz with hz | rfl | hz
      · simp [hz]
      · exact absurd hin c
      · simp [hz]
  | @merge pre post x0 y0 hk hd hf hv =>
    have hx0 : x0 ∈ d.l := by rw [hd]; simp
    have hy0 : y0 ∈ d.l := by rw [hd]; simp
    have hadj : x0.high < y0.low := by
      have pw := tile_pw d.l 0 65536 h.til
      rw [hd] at pw
      have := (List.pairwise_append.1 pw).2.1
      exact (List.pairwise_cons.1 this).1 y0 (by simp)
    have t1 := tile_in d.l 0 65536 (by omega) h.til x0 hx0
    have t2 := tile_in d.l 0 65536 (by omega) h.til y0 hy0
    by_cases c : inS r x0 = true ∨ inS r y0 = true
    · have hnew : ownerD ⟨d.version + 1, pre ++ [⟨x0.low, y0.high, e.to⟩] ++ post, d.forward.set e.from_.toNat e.to⟩ r = e.to := by
        refine owner_of hx h0 h1 (x := ⟨x0.low, y0.high, e.to⟩) (by simp) ?_
        unfold inS at c ⊢
        simp only [Bool.and_eq_true, decide_eq_true_eq] at c ⊢
        omega
      rw [hnew]
      by_cases c2 : ownerD d r = e.from_
      · rw [if_pos ⟨c2, .inl hk⟩]
      · rw [if_neg (fun h => c2 h.1)]
        rcases c with c | c
        · have := owner_of h h0 h1 hx0 c
          omega
        · have := owner_of h h0 h1 hy0 c
          omega
    · have hne : ownerD d r ≠ e.from_ := fun e2 => by
        rcases hf with ⟨q, _⟩ | ⟨_, q⟩
        · exact c (.inl ((owner_iff h h0 h1 x0 hx0).2 (q.trans e2.symm)))
        · exact c (.inr ((owner_iff h h0 h1 y0 hy0).2 (q.trans e2.symm)))
      rw [if_neg (fun h => hne h.1), howe]
      refine owner_of hx h0 h1 ?_ hin
      rw [hd] at hz
      simp only [List.mem_append, List.mem_cons] at hz ⊢
      rcases hz with hz | rfl | rfl | hz
      · simp [hz]
      · exact absurd (.inl hin) c
      · exact absurd (.inr hin) c
      · simp [hz]
theorem chg_from {d x : Directory} {e : Edit} (h : Val d) (hc : Chg d e x) : 0 ≤ findS d.l e.from_ ∧ 0 ≤ findS x.l e.to := by
  rw [live_iff, live_iff]
  cases hc with
  | @split pre post x0 hk hd hf hm ht hn hv => exact ⟨⟨x0, by rw [hd]; simp, hf⟩, ⟨⟨e.mid + 1, x0.high, e.to⟩, by simp, rfl⟩⟩
  | @merge pre post x0 y0 hk hd hf hv =>
    refine ⟨?_, ⟨⟨x0.low, y0.high, e.to⟩, by simp, rfl⟩⟩
    rcases hf with ⟨q, _⟩ | ⟨_, q⟩
    · exact ⟨x0, by rw [hd]; simp, q⟩
    · exact ⟨y0, by rw [hd]; simp, q⟩
end Go.Proofs.Ytkdjbfjohbiemaa

namespace Go.Proofs.Ytkdjbfjohbiemaa
open Go Go.Sim
set_option linter.unusedSimpArgs false
set_option linter.unusedVariables false
set_option maxHeartbeats 10000000
set_option maxRecDepth 40000
def movS (d x : Directory) (e : Edit) (p : Span) (i : Nat) : St := ⟨[(4, .ref 4 0 0), (5, .ref 5 0 0), (6, .ref 6 0 0), (8, .ref 8 0 0), (10, .d (.int .i64 i))], [(4, .row [.d (eDirectory d)]), (5, .row [.d (eEdit e)]), (6, .row [.d (eSpan p)]), (8, .row [.d (eDirectory x)])]⟩
theorem mov_loop (d x : Directory) (e : Edit) (p : Span) (hv : Val d) (hc : Chg d e x) (hl : d.l.length ≤ 40) (he : okE d.forward.length e) (hp : 0 ≤ p.low ∧ p.low ≤ p.high ∧ p.high < 65536) : ∀ i : Nat, i ≤ 70 → loopL G [] l_law10_DirectoryMoves_0 (movS d x e p i) = some (.exit 0, ⟨[], []⟩) := by
  have hvx := hc.val hv
  have n2 := hv.n2
  have hlx := hc.len
  have hfx := hc.same.2
  have hmv : ∀ r, 0 ≤ r → r < 65536 → ∃ w z : Int, callL G N_directory_Owner [.d (eDirectory d), .d (.int .i64 r)] [] = some (.d (.int .i64 w), []) ∧ callL G N_directory_Owner [.d (eDirectory x), .d (.int .i64 r)] [] = some (.d (.int .i64 z), []) ∧ ((w = e.from_ ∧ (e.kind = 2 ∨ e.mid < r) ∧ z = e.to) ∨ ((¬ w = e.from_ ∨ ¬ e.kind = 2 ∧ r ≤ e.mid) ∧ z = w)) := fun r h0 h1 => by
    refine ⟨_, _, downer_ok d r (by omega) (by omega), downer_ok x r (by omega) (by omega), ?_⟩
    rw [moves hv hc h0 h1]
    split <;> omega
  obtain ⟨e1, e2, e3, e4, e5, e6, e7⟩ := he
  clear hv hc hvx hlx hfx hl
  refine loop_ind (fun i : Nat => 70 - i) (fun i : Nat => i ≤ 70) (movS d x e p) _ fun i hi L ih => ?_
  simp only [movS] at ih hi ⊢
  simp only [l_law10_DirectoryMoves_0]
  by_cases h0 : i < 70
  · have i1 := ih (i + 1) (by omega) (by omega)
    by_cases h1 : i ≤ 60
    · obtain ⟨w, z, f1, f2, f3⟩ := hmv (((i : Int) * 1000).tmod 65536) (by rw [Int.tmod_eq_emod_of_nonneg (by omega)]; omega) (by rw [Int.tmod_eq_emod_of_nonneg (by omega)]; omega)
      clear hmv ih
      simp only [Int.natCast_add, Int.natCast_one, Int.natCast_zero, Int.natCast_mul, Int.cast_ofNat_Int, List.length_append, List.length_map, List.map_nil, List.length_nil, List.map_append, List.map_cons, List.length_cons, Nat.zero_add, srcO, mapSet] at i1
      rcases f3 with ⟨g1, g2, g3⟩ | ⟨g1, g2⟩
      · subst g3
        rw [g1] at f1
        (try simp -implicitDefEqProofs (maxSteps := 4000000) (disch := omega) only [getDT, go_sem, *]); (try simp only [pA, pB, pC, pD, pE, pF, pG, pH, pI, pJ, pK, pL, pM, pN, pO, pP, if_true, if_false]); repeat' (first | done | rfl | (refine iteC (fun hq => ?_) (fun hq => ?_) <;> (try (first | (exfalso; omega) | contradiction)) <;> (try simp -implicitDefEqProofs (maxSteps := 4000000) (disch := omega) only [getDT, go_sem, *]) <;> (try simp only [pA, pB, pC, pD, pE, pF, pG, pH, pI, pJ, pK, pL, pM, pN, pO, pP, if_true, if_false]))); (all_goals try rfl); (all_goals try (repeat' (first | done | rfl | (exfalso; omega) | contradiction | (refine iteR (fun hq => ?_) (fun hq => ?_)))))
      · subst g2
        (try simp -implicitDefEqProofs (maxSteps := 4000000) (disch := omega) only [getDT, go_sem, *]); (try simp only [pA, pB, pC, pD, pE, pF, pG, pH, pI, pJ, pK, pL, pM, pN, pO, pP, if_true, if_false]); repeat' (first | done | rfl | (refine iteC (fun hq => ?_) (fun hq => ?_) <;> (try (first | (exfalso; omega) | contradiction)) <;> (try simp -implicitDefEqProofs (maxSteps := 4000000) (disch := omega) only [getDT, go_sem, *]) <;> (try simp only [pA, pB, pC, pD, pE, pF, pG, pH, pI, pJ, pK, pL, pM, pN, pO, pP, if_true, if_false]))); (all_goals try rfl); (all_goals try (repeat' (first | done | rfl | (exfalso; omega) | contradiction | (refine iteR (fun hq => ?_) (fun hq => ?_)))))
    · have hcs : i = 61 ∨ i = 62 ∨ i = 63 ∨ i = 64 ∨ i = 65 ∨ i = 66 ∨ i = 67 ∨ i = 68 ∨ i = 69 := by omega
      clear ih
      rcases hcs with h | h | h | h | h | h | h | h | h
      · subst h
        obtain ⟨w, z, f1, f2, f3⟩ := hmv p.low (by omega) (by omega)
        clear hmv
        simp only [Int.natCast_add, Int.natCast_one, Int.natCast_zero, Int.natCast_mul, Int.cast_ofNat_Int, List.length_append, List.length_map, List.map_nil, List.length_nil, List.map_append, List.map_cons, List.length_cons, Nat.zero_add, srcO, mapSet] at i1
        simp only [Int.reduceAdd] at i1
        rcases f3 with ⟨g1, g2, g3⟩ | ⟨g1, g2⟩
        · subst g3
          rw [g1] at f1
          (try simp -implicitDefEqProofs (maxSteps := 4000000) (disch := omega) only [getDT, go_sem, *]); (try simp only [pA, pB, pC, pD, pE, pF, pG, pH, pI, pJ, pK, pL, pM, pN, pO, pP, if_true, if_false]); repeat' (first | done | rfl | (refine iteC (fun hq => ?_) (fun hq => ?_) <;> (try (first | (exfalso; omega) | contradiction)) <;> (try simp -implicitDefEqProofs (maxSteps := 4000000) (disch := omega) only [getDT, go_sem, *]) <;> (try simp only [pA, pB, pC, pD, pE, pF, pG, pH, pI, pJ, pK, pL, pM, pN, pO, pP, if_true, if_false]))); (all_goals try rfl); (all_goals try (repeat' (first | done | rfl | (exfalso; omega) | contradiction | (refine iteR (fun hq => ?_) (fun hq => ?_)))))
        · subst g2
          (try simp -implicitDefEqProofs (maxSteps := 4000000) (disch := omega) only [getDT, go_sem, *]); (try simp only [pA, pB, pC, pD, pE, pF, pG, pH, pI, pJ, pK, pL, pM, pN, pO, pP, if_true, if_false]); repeat' (first | done | rfl | (refine iteC (fun hq => ?_) (fun hq => ?_) <;> (try (first | (exfalso; omega) | contradiction)) <;> (try simp -implicitDefEqProofs (maxSteps := 4000000) (disch := omega) only [getDT, go_sem, *]) <;> (try simp only [pA, pB, pC, pD, pE, pF, pG, pH, pI, pJ, pK, pL, pM, pN, pO, pP, if_true, if_false]))); (all_goals try rfl); (all_goals try (repeat' (first | done | rfl | (exfalso; omega) | contradiction | (refine iteR (fun hq => ?_) (fun hq => ?_)))))
      · subst h
        obtain ⟨w, z, f1, f2, f3⟩ := hmv p.high (by omega) (by omega)
        clear hmv
        simp only [Int.natCast_add, Int.natCast_one, Int.natCast_zero, Int.natCast_mul, Int.cast_ofNat_Int, List.length_append, List.length_map, List.map_nil, List.length_nil, List.map_append, List.map_cons, List.length_cons, Nat.zero_add, srcO, mapSet] at i1
        simp only [Int.reduceAdd] at i1
        rcases f3 with ⟨g1, g2, g3⟩ | ⟨g1, g2⟩
        · subst g3
          rw [g1] at f1
          (try simp -implicitDefEqProofs (maxSteps := 4000000) (disch := omega) only [getDT, go_sem, *]); (try simp only [pA, pB, pC, pD, pE, pF, pG, pH, pI, pJ, pK, pL, pM, pN, pO, pP, if_true, if_false]); repeat' (first | done | rfl | (refine iteC (fun hq => ?_) (fun hq => ?_) <;> (try (first | (exfalso; omega) | contradiction)) <;> (try simp -implicitDefEqProofs (maxSteps := 4000000) (disch := omega) only [getDT, go_sem, *]) <;> (try simp only [pA, pB, pC, pD, pE, pF, pG, pH, pI, pJ, pK, pL, pM, pN, pO, pP, if_true, if_false]))); (all_goals try rfl); (all_goals try (repeat' (first | done | rfl | (exfalso; omega) | contradiction | (refine iteR (fun hq => ?_) (fun hq => ?_)))))
        · subst g2
          (try simp -implicitDefEqProofs (maxSteps := 4000000) (disch := omega) only [getDT, go_sem, *]); (try simp only [pA, pB, pC, pD, pE, pF, pG, pH, pI, pJ, pK, pL, pM, pN, pO, pP, if_true, if_false]); repeat' (first | done | rfl | (refine iteC (fun hq => ?_) (fun hq => ?_) <;> (try (first | (exfalso; omega) | contradiction)) <;> (try simp -implicitDefEqProofs (maxSteps := 4000000) (disch := omega) only [getDT, go_sem, *]) <;> (try simp only [pA, pB, pC, pD, pE, pF, pG, pH, pI, pJ, pK, pL, pM, pN, pO, pP, if_true, if_false]))); (all_goals try rfl); (all_goals try (repeat' (first | done | rfl | (exfalso; omega) | contradiction | (refine iteR (fun hq => ?_) (fun hq => ?_)))))
      · subst h
        obtain ⟨w, z, f1, f2, f3⟩ := hmv e.mid (by omega) (by omega)
        clear hmv
        simp only [Int.natCast_add, Int.natCast_one, Int.natCast_zero, Int.natCast_mul, Int.cast_ofNat_Int, List.length_append, List.length_map, List.map_nil, List.length_nil, List.map_append, List.map_cons, List.length_cons, Nat.zero_add, srcO, mapSet] at i1
        simp only [Int.reduceAdd] at i1
        rcases f3 with ⟨g1, g2, g3⟩ | ⟨g1, g2⟩
        · subst g3
          rw [g1] at f1
          (try simp -implicitDefEqProofs (maxSteps := 4000000) (disch := omega) only [getDT, go_sem, *]); (try simp only [pA, pB, pC, pD, pE, pF, pG, pH, pI, pJ, pK, pL, pM, pN, pO, pP, if_true, if_false]); repeat' (first | done | rfl | (refine iteC (fun hq => ?_) (fun hq => ?_) <;> (try (first | (exfalso; omega) | contradiction)) <;> (try simp -implicitDefEqProofs (maxSteps := 4000000) (disch := omega) only [getDT, go_sem, *]) <;> (try simp only [pA, pB, pC, pD, pE, pF, pG, pH, pI, pJ, pK, pL, pM, pN, pO, pP, if_true, if_false]))); (all_goals try rfl); (all_goals try (repeat' (first | done | rfl | (exfalso; omega) | contradiction | (refine iteR (fun hq => ?_) (fun hq => ?_)))))
        · subst g2
          (try simp -implicitDefEqProofs (maxSteps := 4000000) (disch := omega) only [getDT, go_sem, *]); (try simp only [pA, pB, pC, pD, pE, pF, pG, pH, pI, pJ, pK, pL, pM, pN, pO, pP, if_true, if_false]); repeat' (first | done | rfl | (refine iteC (fun hq => ?_) (fun hq => ?_) <;> (try (first | (exfalso; omega) | contradiction)) <;> (try simp -implicitDefEqProofs (maxSteps := 4000000) (disch := omega) only [getDT, go_sem, *]) <;> (try simp only [pA, pB, pC, pD, pE, pF, pG, pH, pI, pJ, pK, pL, pM, pN, pO, pP, if_true, if_false]))); (all_goals try rfl); (all_goals try (repeat' (first | done | rfl | (exfalso; omega) | contradiction | (refine iteR (fun hq => ?_) (fun hq => ?_)))))
      · subst h
        obtain ⟨w, z, f1, f2, f3⟩ := hmv (e.mid + 1) (by omega) (by omega)
        clear hmv
        simp only [Int.natCast_add, Int.natCast_one, Int.natCast_zero, Int.natCast_mul, Int.cast_ofNat_Int, List.length_append, List.length_map, List.map_nil, List.length_nil, List.map_append, List.map_cons, List.length_cons, Nat.zero_add, srcO, mapSet] at i1
        simp only [Int.reduceAdd] at i1
        rcases f3 with ⟨g1, g2, g3⟩ | ⟨g1, g2⟩
        · subst g3
          rw [g1] at f1
          (try simp -implicitDefEqProofs (maxSteps := 4000000) (disch := omega) only [getDT, go_sem, *]); (try simp only [pA, pB, pC, pD, pE, pF, pG, pH, pI, pJ, pK, pL, pM, pN, pO, pP, if_true, if_false]); repeat' (first | done | rfl | (refine iteC (fun hq => ?_) (fun hq => ?_) <;> (try (first | (exfalso; omega) | contradiction)) <;> (try simp -implicitDefEqProofs (maxSteps := 4000000) (disch := omega) only [getDT, go_sem, *]) <;> (try simp only [pA, pB, pC, pD, pE, pF, pG, pH, pI, pJ, pK, pL, pM, pN, pO, pP, if_true, if_false]))); (all_goals try rfl); (all_goals try (repeat' (first | done | rfl | (exfalso; omega) | contradiction | (refine iteR (fun hq => ?_) (fun hq => ?_)))))
        · subst g2
          (try simp -implicitDefEqProofs (maxSteps := 4000000) (disch := omega) only [getDT, go_sem, *]); (try simp only [pA, pB, pC, pD, pE, pF, pG, pH, pI, pJ, pK, pL, pM, pN, pO, pP, if_true, if_false]); repeat' (first | done | rfl | (refine iteC (fun hq => ?_) (fun hq => ?_) <;> (try (first | (exfalso; omega) | contradiction)) <;> (try simp -implicitDefEqProofs (maxSteps := 4000000) (disch := omega) only [getDT, go_sem, *]) <;> (try simp only [pA, pB, pC, pD, pE, pF, pG, pH, pI, pJ, pK, pL, pM, pN, pO, pP, if_true, if_false]))); (all_goals try rfl); (all_goals try (repeat' (first | done | rfl | (exfalso; omega) | contradiction | (refine iteR (fun hq => ?_) (fun hq => ?_)))))
      · subst h
        obtain ⟨w, z, f1, f2, f3⟩ := hmv 0 (by omega) (by omega)
        clear hmv
        simp only [Int.natCast_add, Int.natCast_one, Int.natCast_zero, Int.natCast_mul, Int.cast_ofNat_Int, List.length_append, List.length_map, List.map_nil, List.length_nil, List.map_append, List.map_cons, List.length_cons, Nat.zero_add, srcO, mapSet] at i1
        simp only [Int.reduceAdd] at i1
        rcases f3 with ⟨g1, g2, g3⟩ | ⟨g1, g2⟩
        · subst g3
          rw [g1] at f1
          (try simp -implicitDefEqProofs (maxSteps := 4000000) (disch := omega) only [getDT, go_sem, *]); (try simp only [pA, pB, pC, pD, pE, pF, pG, pH, pI, pJ, pK, pL, pM, pN, pO, pP, if_true, if_false]); repeat' (first | done | rfl | (refine iteC (fun hq => ?_) (fun hq => ?_) <;> (try (first | (exfalso; omega) | contradiction)) <;> (try simp -implicitDefEqProofs (maxSteps := 4000000) (disch := omega) only [getDT, go_sem, *]) <;> (try simp only [pA, pB, pC, pD, pE, pF, pG, pH, pI, pJ, pK, pL, pM, pN, pO, pP, if_true, if_false]))); (all_goals try rfl); (all_goals try (repeat' (first | done | rfl | (exfalso; omega) | contradiction | (refine iteR (fun hq => ?_) (fun hq => ?_)))))
        · subst g2
          (try simp -implicitDefEqProofs (maxSteps := 4000000) (disch := omega) only [getDT, go_sem, *]); (try simp only [pA, pB, pC, pD, pE, pF, pG, pH, pI, pJ, pK, pL, pM, pN, pO, pP, if_true, if_false]); repeat' (first | done | rfl | (refine iteC (fun hq => ?_) (fun hq => ?_) <;> (try (first | (exfalso; omega) | contradiction)) <;> (try simp -implicitDefEqProofs (maxSteps := 4000000) (disch := omega) only [getDT, go_sem, *]) <;> (try simp only [pA, pB, pC, pD, pE, pF, pG, pH, pI, pJ, pK, pL, pM, pN, pO, pP, if_true, if_false]))); (all_goals try rfl); (all_goals try (repeat' (first | done | rfl | (exfalso; omega) | contradiction | (refine iteR (fun hq => ?_) (fun hq => ?_)))))
      · subst h
        obtain ⟨w, z, f1, f2, f3⟩ := hmv 65535 (by omega) (by omega)
        clear hmv
        simp only [Int.natCast_add, Int.natCast_one, Int.natCast_zero, Int.natCast_mul, Int.cast_ofNat_Int, List.length_append, List.length_map, List.map_nil, List.length_nil, List.map_append, List.map_cons, List.length_cons, Nat.zero_add, srcO, mapSet] at i1
        simp only [Int.reduceAdd] at i1
        rcases f3 with ⟨g1, g2, g3⟩ | ⟨g1, g2⟩
        · subst g3
          rw [g1] at f1
          (try simp -implicitDefEqProofs (maxSteps := 4000000) (disch := omega) only [getDT, go_sem, *]); (try simp only [pA, pB, pC, pD, pE, pF, pG, pH, pI, pJ, pK, pL, pM, pN, pO, pP, if_true, if_false]); repeat' (first | done | rfl | (refine iteC (fun hq => ?_) (fun hq => ?_) <;> (try (first | (exfalso; omega) | contradiction)) <;> (try simp -implicitDefEqProofs (maxSteps := 4000000) (disch := omega) only [getDT, go_sem, *]) <;> (try simp only [pA, pB, pC, pD, pE, pF, pG, pH, pI, pJ, pK, pL, pM, pN, pO, pP, if_true, if_false]))); (all_goals try rfl); (all_goals try (repeat' (first | done | rfl | (exfalso; omega) | contradiction | (refine iteR (fun hq => ?_) (fun hq => ?_)))))
        · subst g2
          (try simp -implicitDefEqProofs (maxSteps := 4000000) (disch := omega) only [getDT, go_sem, *]); (try simp only [pA, pB, pC, pD, pE, pF, pG, pH, pI, pJ, pK, pL, pM, pN, pO, pP, if_true, if_false]); repeat' (first | done | rfl | (refine iteC (fun hq => ?_) (fun hq => ?_) <;> (try (first | (exfalso; omega) | contradiction)) <;> (try simp -implicitDefEqProofs (maxSteps := 4000000) (disch := omega) only [getDT, go_sem, *]) <;> (try simp only [pA, pB, pC, pD, pE, pF, pG, pH, pI, pJ, pK, pL, pM, pN, pO, pP, if_true, if_false]))); (all_goals try rfl); (all_goals try (repeat' (first | done | rfl | (exfalso; omega) | contradiction | (refine iteR (fun hq => ?_) (fun hq => ?_)))))
      · subst h
        obtain ⟨w, z, f1, f2, f3⟩ := hmv (if p.low - 1 < 0 then 0 else p.low - 1) (by split <;> omega) (by split <;> omega)
        clear hmv
        simp only [Int.natCast_add, Int.natCast_one, Int.natCast_zero, Int.natCast_mul, Int.cast_ofNat_Int, List.length_append, List.length_map, List.map_nil, List.length_nil, List.map_append, List.map_cons, List.length_cons, Nat.zero_add, srcO, mapSet] at i1
        simp only [Int.reduceAdd] at i1
        rcases f3 with ⟨g1, g2, g3⟩ | ⟨g1, g2⟩
        · subst g3
          rw [g1] at f1
          (try simp -implicitDefEqProofs (maxSteps := 4000000) (disch := omega) only [getDT, go_sem, *]); (try simp only [pA, pB, pC, pD, pE, pF, pG, pH, pI, pJ, pK, pL, pM, pN, pO, pP, if_true, if_false]); repeat' (first | done | rfl | (refine iteC (fun hq => ?_) (fun hq => ?_) <;> (try (first | (exfalso; omega) | contradiction)) <;> (try simp -implicitDefEqProofs (maxSteps := 4000000) (disch := omega) only [getDT, go_sem, *]) <;> (try simp only [pA, pB, pC, pD, pE, pF, pG, pH, pI, pJ, pK, pL, pM, pN, pO, pP, if_true, if_false]))); (all_goals try rfl); (all_goals try (repeat' (first | done | rfl | (exfalso; omega) | contradiction | (refine iteR (fun hq => ?_) (fun hq => ?_)))))
        · subst g2
          (try simp -implicitDefEqProofs (maxSteps := 4000000) (disch := omega) only [getDT, go_sem, *]); (try simp only [pA, pB, pC, pD, pE, pF, pG, pH, pI, pJ, pK, pL, pM, pN, pO, pP, if_true, if_false]); repeat' (first | done | rfl | (refine iteC (fun hq => ?_) (fun hq => ?_) <;> (try (first | (exfalso; omega) | contradiction)) <;> (try simp -implicitDefEqProofs (maxSteps := 4000000) (disch := omega) only [getDT, go_sem, *]) <;> (try simp only [pA, pB, pC, pD, pE, pF, pG, pH, pI, pJ, pK, pL, pM, pN, pO, pP, if_true, if_false]))); (all_goals try rfl); (all_goals try (repeat' (first | done | rfl | (exfalso; omega) | contradiction | (refine iteR (fun hq => ?_) (fun hq => ?_)))))
      · subst h
        obtain ⟨w, z, f1, f2, f3⟩ := hmv (if 65535 < p.high + 1 then 65535 else p.high + 1) (by split <;> omega) (by split <;> omega)
        clear hmv
        simp only [Int.natCast_add, Int.natCast_one, Int.natCast_zero, Int.natCast_mul, Int.cast_ofNat_Int, List.length_append, List.length_map, List.map_nil, List.length_nil, List.map_append, List.map_cons, List.length_cons, Nat.zero_add, srcO, mapSet] at i1
        simp only [Int.reduceAdd] at i1
        rcases f3 with ⟨g1, g2, g3⟩ | ⟨g1, g2⟩
        · subst g3
          rw [g1] at f1
          (try simp -implicitDefEqProofs (maxSteps := 4000000) (disch := omega) only [getDT, go_sem, *]); (try simp only [pA, pB, pC, pD, pE, pF, pG, pH, pI, pJ, pK, pL, pM, pN, pO, pP, if_true, if_false]); repeat' (first | done | rfl | (refine iteC (fun hq => ?_) (fun hq => ?_) <;> (try (first | (exfalso; omega) | contradiction)) <;> (try simp -implicitDefEqProofs (maxSteps := 4000000) (disch := omega) only [getDT, go_sem, *]) <;> (try simp only [pA, pB, pC, pD, pE, pF, pG, pH, pI, pJ, pK, pL, pM, pN, pO, pP, if_true, if_false]))); (all_goals try rfl); (all_goals try (repeat' (first | done | rfl | (exfalso; omega) | contradiction | (refine iteR (fun hq => ?_) (fun hq => ?_)))))
        · subst g2
          (try simp -implicitDefEqProofs (maxSteps := 4000000) (disch := omega) only [getDT, go_sem, *]); (try simp only [pA, pB, pC, pD, pE, pF, pG, pH, pI, pJ, pK, pL, pM, pN, pO, pP, if_true, if_false]); repeat' (first | done | rfl | (refine iteC (fun hq => ?_) (fun hq => ?_) <;> (try (first | (exfalso; omega) | contradiction)) <;> (try simp -implicitDefEqProofs (maxSteps := 4000000) (disch := omega) only [getDT, go_sem, *]) <;> (try simp only [pA, pB, pC, pD, pE, pF, pG, pH, pI, pJ, pK, pL, pM, pN, pO, pP, if_true, if_false]))); (all_goals try rfl); (all_goals try (repeat' (first | done | rfl | (exfalso; omega) | contradiction | (refine iteR (fun hq => ?_) (fun hq => ?_)))))
      · subst h
        obtain ⟨w, z, f1, f2, f3⟩ := hmv 5 (by omega) (by omega)
        clear hmv
        simp only [Int.natCast_add, Int.natCast_one, Int.natCast_zero, Int.natCast_mul, Int.cast_ofNat_Int, List.length_append, List.length_map, List.map_nil, List.length_nil, List.map_append, List.map_cons, List.length_cons, Nat.zero_add, srcO, mapSet] at i1
        simp only [Int.reduceAdd] at i1
        rcases f3 with ⟨g1, g2, g3⟩ | ⟨g1, g2⟩
        · subst g3
          rw [g1] at f1
          (try simp -implicitDefEqProofs (maxSteps := 4000000) (disch := omega) only [getDT, go_sem, *]); (try simp only [pA, pB, pC, pD, pE, pF, pG, pH, pI, pJ, pK, pL, pM, pN, pO, pP, if_true, if_false]); repeat' (first | done | rfl | (refine iteC (fun hq => ?_) (fun hq => ?_) <;> (try (first | (exfalso; omega) | contradiction)) <;> (try simp -implicitDefEqProofs (maxSteps := 4000000) (disch := omega) only [getDT, go_sem, *]) <;> (try simp only [pA, pB, pC, pD, pE, pF, pG, pH, pI, pJ, pK, pL, pM, pN, pO, pP, if_true, if_false]))); (all_goals try rfl); (all_goals try (repeat' (first | done | rfl | (exfalso; omega) | contradiction | (refine iteR (fun hq => ?_) (fun hq => ?_)))))
        · subst g2
          (try simp -implicitDefEqProofs (maxSteps := 4000000) (disch := omega) only [getDT, go_sem, *]); (try simp only [pA, pB, pC, pD, pE, pF, pG, pH, pI, pJ, pK, pL, pM, pN, pO, pP, if_true, if_false]); repeat' (first | done | rfl | (refine iteC (fun hq => ?_) (fun hq => ?_) <;> (try (first | (exfalso; omega) | contradiction)) <;> (try simp -implicitDefEqProofs (maxSteps := 4000000) (disch := omega) only [getDT, go_sem, *]) <;> (try simp only [pA, pB, pC, pD, pE, pF, pG, pH, pI, pJ, pK, pL, pM, pN, pO, pP, if_true, if_false]))); (all_goals try rfl); (all_goals try (repeat' (first | done | rfl | (exfalso; omega) | contradiction | (refine iteR (fun hq => ?_) (fun hq => ?_)))))
  · clear hmv ih
    (try simp -implicitDefEqProofs (maxSteps := 4000000) (disch := omega) only [getDT, go_sem, *]); (try simp only [pA, pB, pC, pD, pE, pF, pG, pH, pI, pJ, pK, pL, pM, pN, pO, pP, if_true, if_false]); repeat' (first | done | rfl | (refine iteC (fun hq => ?_) (fun hq => ?_) <;> (try (first | (exfalso; omega) | contradiction)) <;> (try simp -implicitDefEqProofs (maxSteps := 4000000) (disch := omega) only [getDT, go_sem, *]) <;> (try simp only [pA, pB, pC, pD, pE, pF, pG, pH, pI, pJ, pK, pL, pM, pN, pO, pP, if_true, if_false]))); (all_goals try rfl); (all_goals try (repeat' (first | done | rfl | (exfalso; omega) | contradiction | (refine iteR (fun hq => ?_) (fun hq => ?_)))))
end Go.Proofs.Ytkdjbfjohbiemaa

namespace Go.Proofs.Ytkdjbfjohbiemaa
open Go Go.Sim
set_option linter.unusedSimpArgs false
set_option linter.unusedVariables false
set_option maxHeartbeats 10000000
set_option maxRecDepth 40000
theorem mov_law (l : List Int) (hL : l.length ≤ LIM) : callL G N_law10_DirectoryMoves [.d (.sl (ints l))] [] = some (.d (.bool true), []) := by
  obtain ⟨t, ht, hnew⟩ := new_ok2 l hL
  obtain ⟨d, a1, hv, hdl, hd⟩ := directory_ok t 0 ht
  have n1 := hv.n1
  have n2 := hv.n2
  obtain ⟨e, a2, he, hc⟩ := edit_ok t a1 d.forward.length ht (by omega) (by omega)
  have hs := dSpan_ok d e.from_ (by omega) (by omega)
  have hp := dapply_ok d e (by omega) (by omega)
  have hw := awake10_ok
  have hx := fun h => (chg_of (e := e) hv h)
  have hsp := span_live hv e.from_
  generalize applyD d e = x at *
  obtain ⟨x1, x2⟩ := x
  simp only at hp hx
  by_cases c : x2 = 0
  · have hg := hx c
    have hfr := chg_from hv hg
    rcases hsp with ⟨_, p, hpm, _, q⟩ | ⟨q, _⟩
    · rw [q] at hs
      have hlp := mov_loop d x1 e p hv hg (by omega) he (tile_in d.l 0 65536 (by omega) hv.til p hpm) 0 (by omega)
      simp only [movS] at hlp
      subst c
      clear hx hg hfr q hpm hv he
      simp only [Int.natCast_add, Int.natCast_one, Int.natCast_zero, Int.natCast_mul, Int.cast_ofNat_Int, List.length_append, List.length_map, List.map_nil, List.length_nil, List.map_append, List.map_cons, List.length_cons, Nat.zero_add, srcO, mapSet] at hd hc hlp
      rw [callL_code g_law10_DirectoryMoves (by simp)]; simp -implicitDefEqProofs (maxSteps := 4000000) (disch := omega) only [c_law10_DirectoryMoves, r_law10_DirectoryMoves, getDT, go_sem, *]; (try simp only [pA, pB, pC, pD, pE, pF, pG, pH, pI, pJ, pK, pL, pM, pN, pO, pP, if_true, if_false]); repeat' (first | done | rfl | (refine iteC (fun hq => ?_) (fun hq => ?_) <;> (try (first | (exfalso; omega) | contradiction)) <;> (try simp -implicitDefEqProofs (maxSteps := 4000000) (disch := omega) only [getDT, go_sem, *]) <;> (try simp only [pA, pB, pC, pD, pE, pF, pG, pH, pI, pJ, pK, pL, pM, pN, pO, pP, if_true, if_false]))); (all_goals try rfl); (all_goals try (repeat' (first | done | rfl | (exfalso; omega) | contradiction | (refine iteR (fun hq => ?_) (fun hq => ?_)))))
    · omega
  · clear hx hsp hv he
    simp only [Int.natCast_add, Int.natCast_one, Int.natCast_zero, Int.natCast_mul, Int.cast_ofNat_Int, List.length_append, List.length_map, List.map_nil, List.length_nil, List.map_append, List.map_cons, List.length_cons, Nat.zero_add, srcO, mapSet] at hd hc
    rw [callL_code g_law10_DirectoryMoves (by simp)]; simp -implicitDefEqProofs (maxSteps := 4000000) (disch := omega) only [c_law10_DirectoryMoves, r_law10_DirectoryMoves, getDT, go_sem, *]; (try simp only [pA, pB, pC, pD, pE, pF, pG, pH, pI, pJ, pK, pL, pM, pN, pO, pP, if_true, if_false]); repeat' (first | done | rfl | (refine iteC (fun hq => ?_) (fun hq => ?_) <;> (try (first | (exfalso; omega) | contradiction)) <;> (try simp -implicitDefEqProofs (maxSteps := 4000000) (disch := omega) only [getDT, go_sem, *]) <;> (try simp only [pA, pB, pC, pD, pE, pF, pG, pH, pI, pJ, pK, pL, pM, pN, pO, pP, if_true, if_false]))); (all_goals try rfl); (all_goals try (repeat' (first | done | rfl | (exfalso; omega) | contradiction | (refine iteR (fun hq => ?_) (fun hq => ?_)))))
end Go.Proofs.Ytkdjbfjohbiemaa
