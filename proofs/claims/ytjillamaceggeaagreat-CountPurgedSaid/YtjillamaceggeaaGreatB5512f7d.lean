/-
  Walks towards a predicate of the result; arrays of numbers that are written at any place.
  A world whose one open task is finished, step by step.
-/
import Derived.Test.YtjillamaceggeaaGreatB2c7cdb4
import Derived.Test.YtjillamaceggeaaGreatB255134b
set_option linter.unusedSimpArgs false
set_option linter.unusedVariables false
namespace Go.Sim
def Post {α : Type} (φ : α → Prop) (r : α) : Prop := φ r
theorem iteP {α : Type} {φ : α → Prop} {c : Prop} [Decidable c] {A B : α} (h1 : c → Post φ A) (h2 : ¬ c → Post φ B) : Post φ (if c then A else B) := by split <;> simp_all
theorem Post.some {α : Type} {φ : Option α → Prop} {r : Option α} {a : α} (h : φ (some a)) (e : r = some a) : Post φ r := by rw [e]; exact h
theorem over_agg {cs : List D} {k : Nat} {k' : IntKind} {v : Int} (h : k < cs.length) (h1 : cs.length ≠ 1) : over (.d (.agg cs)) k (.d (.int k' v)) = some (.d (.agg (cs.set k (.int k' v)))) := by
  unfold over
  rw [if_neg (by simp [AV.size, D.size, D.cells]; omega), if_pos (by simp [AV.size, D.size, D.cells]; omega)]
  have : splice (AV.cells (.d (.agg cs))) k (AV.cells (.d (.int k' v))) = (cs.set k (.int k' v)).map .d := by
    simp only [AV.cells, D.cells, List.map_cons, List.map_nil]
    rw [splice, List.map_set, List.set_eq_take_append_cons_drop, if_pos (by simpa using h)]
    simp
  rw [this, AV.mkAgg, allD_map]
theorem over_ints {E : List Int} {k : Nat} {k' : IntKind} {v : Int} (h : k < E.length) (h1 : E.length ≠ 1) : over (.d (.agg (E.map (D.int k')))) k (.d (.int k' v)) = some (.d (.agg ((E.set k v).map (D.int k')))) := by
  rw [over_agg (by simpa using h) (by simpa using h1), List.map_set]
attribute [go_sem high] over_ints
attribute [go_sem] Nat.mul_one
end Go.Sim

namespace Go.Proofs.YtjillamaceggeaaGreat
open Go Go.Sim
set_option linter.unusedSimpArgs false
set_option linter.unusedVariables false
set_option maxHeartbeats 10000000
set_option maxRecDepth 100000
def wZ : Go.Sim.AV := .agg [aI 0, aI 0, aI 0, aI 0, aI 0, aI 0, aI 0, aI 0, .xsl [], .xsl [], aI 0, aI 0, .xsl [], aI 0, .xsl [], .xsl [], aI 0, aI 0, aI 0, .xsl [], .xsl [], aI 0, .xsl []]
theorem asAgg_ag (l : List D) : (D.agg l).asAgg = .agg l := rfl
theorem part23 {l : List D} (h : l.length = 23) : partA true 0 23 (.d (.agg l)) = some (.d (.agg l)) := by
  show Option.map AV.d (if (0 : Nat) = 0 ∧ 23 = l.length then some (D.agg l).asAgg else _) = _
  rw [if_pos ⟨rfl, h.symm⟩]
  rfl
attribute [go_sem ↓] part23
theorem fin_in (w w' : List D) (k : Int) (b p : Nat) (hp : p < b) (hb : b ≤ 1000000) (h1 : w.length = 23) (h2 : w'.length = 23) (hs : callL G N_ref30_step [.d (.agg w), .d (.int .i64 k)] [] = some (.d (.tup [.agg w', .int .i64 0]), [])) :
    loopL G [] l_ref30_Finish_0 ⟨[(1, .ref 1 0 0), (2, .ref 2 0 0), (5, .d (.int .i64 b)), (6, .d (.int .i64 p)), (7, .d (.sl [.int .i64 k])), (8, .d (.int .i64 0))], [(1, .row [.d (.agg w)]), (2, .row [wZ])]⟩ = some (.exit 2, ⟨[(1, .ref 1 0 0), (2, .ref 2 0 0), (5, .d (.int .i64 b)), (6, .d (.int .i64 (p + 1)))], [(1, .row [.d (.agg w')]), (2, .row [wZ])]⟩) := by
  simp only [wZ]
  (try simp -implicitDefEqProofs (maxSteps := 4000000) (disch := omega) only [loopL_eq, l_ref30_Finish_0, getDT, go_sem, *]); (try simp only [pA, pB, pC, pD, pE, pF, pG, pH, pI, pJ, pK, pL, pM, pN, pO, pP, if_true, if_false]); repeat' (first | done | rfl | ((first | refine iteC (fun hq => ?_) (fun hq => ?_) | refine iteP (fun hq => ?_) (fun hq => ?_)) <;> (try (first | (exfalso; omega) | contradiction)) <;> (try simp -implicitDefEqProofs (maxSteps := 4000000) (disch := omega) only [loopL_eq, l_ref30_Finish_0, getDT, go_sem, *]) <;> (try simp only [pA, pB, pC, pD, pE, pF, pG, pH, pI, pJ, pK, pL, pM, pN, pO, pP, if_true, if_false]))); (all_goals try rfl); (all_goals try (repeat' (first | done | rfl | (exfalso; omega) | contradiction | (refine iteR (fun hq => ?_) (fun hq => ?_)))))
theorem fin_out (ws : Nat → List D) (k : Int) (n b : Nat) (hn : n ≤ b) (hb : b ≤ 1000000) (hl : ∀ i, i ≤ n → (ws i).length = 23)
    (ho : ∀ i, i < n → callL G N_ref30_Open [.d (.agg (ws i))] [] = some (.d (.sl [.int .i64 k]), [])) (he : callL G N_ref30_Open [.d (.agg (ws n))] [] = some (.d (.sl []), []))
    (hs : ∀ i, i < n → callL G N_ref30_step [.d (.agg (ws i)), .d (.int .i64 k)] [] = some (.d (.tup [.agg (ws (i + 1)), .int .i64 0]), [])) :
    ∀ p, p ≤ n → loopL G [7, 8, 32] l_ref30_Finish_1 ⟨[(1, .ref 1 0 0), (2, .ref 2 0 0), (5, .d (.int .i64 b)), (6, .d (.int .i64 (p : Nat)))], [(1, .row [.d (.agg (ws p))]), (2, .row [wZ])]⟩ = some (.exit 0, ⟨[(1, .ref 1 0 0), (2, .ref 2 0 0), (6, .d (.int .i64 n))], [(1, .row [.d (.agg (ws n))]), (2, .row [wZ])]⟩) := by
  refine loop_ind (fun p => n - p) (fun p => p ≤ n) (fun p : Nat => ⟨[(1, .ref 1 0 0), (2, .ref 2 0 0), (5, .d (.int .i64 b)), (6, .d (.int .i64 (p : Nat)))], [(1, .row [.d (.agg (ws p))]), (2, .row [wZ])]⟩) _ fun p hp L ih => ?_
  by_cases h0 : p < n
  · have i1 := ih (p + 1) (by omega) (by omega)
    clear ih he
    have o1 := ho p h0
    have g1 := hl p (by omega)
    have g2 := hl (p + 1) (by omega)
    have f1 := fin_in (ws p) (ws (p + 1)) k b p (by omega) hb g1 g2 (hs p h0)
    clear hs ho hl
    generalize ws p = w at *
    generalize ws (p + 1) = w' at *
    generalize ws n = wn at *
    simp only [wZ, l_ref30_Finish_1] at *
    simp only [Int.natCast_add, Int.natCast_one, Int.natCast_zero, Int.natCast_mul, Int.cast_ofNat_Int, List.length_append, List.length_map, List.map_nil, List.length_nil, List.map_append, List.map_cons, List.length_cons, Nat.zero_add, srcO, mapSet] at i1
    (try simp -implicitDefEqProofs (maxSteps := 4000000) (disch := omega) only [getDT, go_sem, *]); (try simp only [pA, pB, pC, pD, pE, pF, pG, pH, pI, pJ, pK, pL, pM, pN, pO, pP, if_true, if_false]); repeat' (first | done | rfl | ((first | refine iteC (fun hq => ?_) (fun hq => ?_) | refine iteP (fun hq => ?_) (fun hq => ?_)) <;> (try (first | (exfalso; omega) | contradiction)) <;> (try simp -implicitDefEqProofs (maxSteps := 4000000) (disch := omega) only [getDT, go_sem, *]) <;> (try simp only [pA, pB, pC, pD, pE, pF, pG, pH, pI, pJ, pK, pL, pM, pN, pO, pP, if_true, if_false]))); (all_goals try rfl); (all_goals try (repeat' (first | done | rfl | (exfalso; omega) | contradiction | (refine iteR (fun hq => ?_) (fun hq => ?_)))))
  · clear ih hs ho
    obtain rfl : p = n := by omega
    have g1 := hl p (by omega)
    clear hl
    generalize ws p = w at *
    simp only [wZ, l_ref30_Finish_1] at *
    (try simp -implicitDefEqProofs (maxSteps := 4000000) (disch := omega) only [getDT, go_sem, *]); (try simp only [pA, pB, pC, pD, pE, pF, pG, pH, pI, pJ, pK, pL, pM, pN, pO, pP, if_true, if_false]); repeat' (first | done | rfl | ((first | refine iteC (fun hq => ?_) (fun hq => ?_) | refine iteP (fun hq => ?_) (fun hq => ?_)) <;> (try (first | (exfalso; omega) | contradiction)) <;> (try simp -implicitDefEqProofs (maxSteps := 4000000) (disch := omega) only [getDT, go_sem, *]) <;> (try simp only [pA, pB, pC, pD, pE, pF, pG, pH, pI, pJ, pK, pL, pM, pN, pO, pP, if_true, if_false]))); (all_goals try rfl); (all_goals try (repeat' (first | done | rfl | (exfalso; omega) | contradiction | (refine iteR (fun hq => ?_) (fun hq => ?_)))))
theorem finish_ok (ws : Nat → List D) (k : Int) (n b : Nat) (hn : n ≤ b) (hb : b ≤ 1000000) (hl : ∀ i, i ≤ n → (ws i).length = 23) (hB : callL G N_ref30_Bound [.d (.agg (ws 0))] [] = some (.d (.int .i64 b), []))
    (ho : ∀ i, i < n → callL G N_ref30_Open [.d (.agg (ws i))] [] = some (.d (.sl [.int .i64 k]), [])) (he : callL G N_ref30_Open [.d (.agg (ws n))] [] = some (.d (.sl []), []))
    (hs : ∀ i, i < n → callL G N_ref30_step [.d (.agg (ws i)), .d (.int .i64 k)] [] = some (.d (.tup [.agg (ws (i + 1)), .int .i64 0]), [])) :
    callL G N_ref30_Finish [.d (.agg (ws 0))] [] = some (.d (.tup [.agg (ws n), .int .i64 n, .int .i64 0]), []) := by
  have f1 := fin_out ws k n b hn hb hl ho he hs 0 (by omega)
  have g1 := hl 0 (by omega)
  have g2 := hl n (by omega)
  clear hs ho hl he
  generalize ws 0 = w at *
  generalize ws n = w' at *
  simp only [wZ, Int.natCast_zero] at *
  rw [callL_code g_ref30_Finish (by simp)]; simp -implicitDefEqProofs (maxSteps := 4000000) (disch := omega) only [c_ref30_Finish, r_ref30_Finish, getDT, go_sem, *]; (try simp only [pA, pB, pC, pD, pE, pF, pG, pH, pI, pJ, pK, pL, pM, pN, pO, pP, if_true, if_false]); repeat' (first | done | rfl | ((first | refine iteC (fun hq => ?_) (fun hq => ?_) | refine iteP (fun hq => ?_) (fun hq => ?_)) <;> (try (first | (exfalso; omega) | contradiction)) <;> (try simp -implicitDefEqProofs (maxSteps := 4000000) (disch := omega) only [getDT, go_sem, *]) <;> (try simp only [pA, pB, pC, pD, pE, pF, pG, pH, pI, pJ, pK, pL, pM, pN, pO, pP, if_true, if_false]))); (all_goals try rfl); (all_goals try (repeat' (first | done | rfl | (exfalso; omega) | contradiction | (refine iteR (fun hq => ?_) (fun hq => ?_)))))
end Go.Proofs.YtjillamaceggeaaGreat
