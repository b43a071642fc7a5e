/-
  Walks towards a predicate of the result; arrays of numbers that are written at any place.
  The reader: a command whose lists are its own.
  The reader: a command whose lists are its own.
-/
import Derived.Test.YtadnfmkdmknmhaaB2c7cdb4
import Derived.Test.YtadnfmkdmknmhaaB28b2012
set_option linter.unusedSimpArgs false
set_option linter.unusedVariables false
namespace Go.Sim
def Post {α : Type} (φ : α → Prop) (r : α) : Prop := φ r
theorem iteP {α : Type} {φ : α → Prop} {c : Prop} [Decidable c] {A B : α} (h1 : c → Post φ A) (h2 : ¬ c → Post φ B) : Post φ (if c then A else B) := by split <;> simp_all
theorem Post.some {α : Type} {φ : Option α → Prop} {r : Option α} {a : α} (h : φ (some a)) (e : r = some a) : Post φ r := by rw [e]; exact h
theorem over_agg {cs : List D} {k : Nat} {k' : IntKind} {v : Int} (h : k < cs.length) (h1 : cs.length ≠ 1) : over (.d (.agg cs)) k (.d (.int k' v)) = some (.d (.agg (cs.set k (.int k' v)))) := by
  unfold over
  rw [if_neg (by simp [AV.size, D.size, D.cells]; omega), if_pos (by simp [AV.size, D.size, D.cells]; omega)]
  have : splice (AV.cells (.d (.agg cs))) k (AV.cells (.d (.int k' v))) = (cs.set k (.int k' v)).map .d := by
    simp only [AV.cells, D.cells, List.map_cons, List.map_nil]
    rw [splice, List.map_set, List.set_eq_take_append_cons_drop, if_pos (by simpa using h)]
    simp
  rw [this, AV.mkAgg, allD_map]
theorem over_ints {E : List Int} {k : Nat} {k' : IntKind} {v : Int} (h : k < E.length) (h1 : E.length ≠ 1) : over (.d (.agg (E.map (D.int k')))) k (.d (.int k' v)) = some (.d (.agg ((E.set k v).map (D.int k')))) := by
  rw [over_agg (by simpa using h) (by simpa using h1), List.map_set]
attribute [go_sem high] over_ints
attribute [go_sem] Nat.mul_one
end Go.Sim

namespace Go.Proofs.Ytadnfmkdmknmhaa
open Go Go.Sim
set_option linter.unusedSimpArgs false
set_option linter.unusedVariables false
set_option maxHeartbeats 10000000
set_option maxRecDepth 40000
theorem pickF_ok (l : List Int) (a : Nat) (xs : List Int) (hL : l.length ≤ 4000) (h1 : 1 ≤ xs.length) (h2 : xs.length ≤ 1000) : callL G N_base_Src_Pick [.ref 1000000 0 0, .d (.sl (ints xs))] [(1000000, srcO l a)] = some (.d (.int .i64 (xs.getD (nD l a xs.length).toNat 0)), [(1000000, srcO l (rawD l a).2)]) := by
  have hn := n_ok l a xs.length hL (by omega) (by omega)
  have hb := nD_in l a (n := xs.length) (by omega)
  obtain ⟨i, hi⟩ : ∃ i : Nat, nD l a xs.length = i := ⟨(nD l a xs.length).toNat, by omega⟩
  rw [hi] at hn hb ⊢
  have hlt : i < xs.length := by omega
  rw [show ((i : Int)).toNat = i by omega, getDT hlt]
  clear hb hi
  rw [callL_code g_base_Src_Pick (by simp)]; simp -implicitDefEqProofs (maxSteps := 4000000) (disch := omega) only [c_base_Src_Pick, r_base_Src_Pick, getDT, go_sem, *]; (try simp only [pA, pB, pC, pD, pE, pF, pG, pH, pI, pJ, pK, pL, pM, pN, pO, pP, if_true, if_false]); repeat' (first | done | rfl | ((first | refine iteC (fun hq => ?_) (fun hq => ?_) | refine iteP (fun hq => ?_) (fun hq => ?_)) <;> (try (first | (exfalso; omega) | contradiction)) <;> (try simp -implicitDefEqProofs (maxSteps := 4000000) (disch := omega) only [getDT, go_sem, *]) <;> (try simp only [pA, pB, pC, pD, pE, pF, pG, pH, pI, pJ, pK, pL, pM, pN, pO, pP, if_true, if_false]))); (all_goals try rfl); (all_goals try (repeat' (first | done | rfl | (exfalso; omega) | contradiction | (refine iteR (fun hq => ?_) (fun hq => ?_)))))
theorem pick_in {l : List Int} {a : Nat} {xs : List Int} {lo hi : Int} (h : ∀ x ∈ xs, lo ≤ x ∧ x ≤ hi) (h1 : 1 ≤ xs.length) (h2 : xs.length ≤ 1000) : lo ≤ xs.getD (nD l a xs.length).toNat 0 ∧ xs.getD (nD l a xs.length).toNat 0 ≤ hi := by
  have := nD_in l a (n := xs.length) (by omega)
  rw [getDT (show (nD l a xs.length).toNat < xs.length by omega)]
  exact h _ (List.getElem_mem _)
theorem body_ex : ∃ f : List Int → Nat → List UInt8 × Nat, ∀ l a, l.length ≤ 4000 → (f l a).1.length ≤ 3 ∧ callL G N_base_Src_Body [.ref 1000000 0 0] [(1000000, srcO l a)] = some (.d (.str (f l a).1), [(1000000, srcO l (f l a).2)]) := by
  refine ⟨fun l a => if h : l.length ≤ 4000 then (Classical.choose (body_ok l a h), Classical.choose (Classical.choose_spec (body_ok l a h))) else ([], 0), fun l a h => ?_⟩
  simp only [h, dif_pos]
  exact Classical.choose_spec (Classical.choose_spec (body_ok l a h))
noncomputable def bodyF : List Int → Nat → List UInt8 × Nat := Classical.choose body_ex
theorem bodyF_ok (l : List Int) (a : Nat) (hL : l.length ≤ 4000) : (bodyF l a).1.length ≤ 3 ∧ callL G N_base_Src_Body [.ref 1000000 0 0] [(1000000, srcO l a)] = some (.d (.str (bodyF l a).1), [(1000000, srcO l (bodyF l a).2)]) := Classical.choose_spec body_ex l a hL
def fz (k x : Int) : Int := if k = 7 ∨ k = 6 then 0 else x
theorem fit0_ok (k p b ik h m v f t : Int) : callL G N_base_fitted [.agg [.d (.int .i64 k), .d (.int .i64 p), .d (.int .i64 b), .d (.int .i64 ik), .d (.int .i64 h), .d (.int .i64 m), .d (.int .i64 v), .d (.int .i64 f), .d (.int .i64 t), .xsl [], .xsl [], .xsl []]] [] =
    some (.agg [.d (.int .i64 k), .d (.int .i64 p), .d (.int .i64 b), .d (.int .i64 ik), .d (.int .i64 (fz ik h)), .d (.int .i64 (fz ik m)), .d (.int .i64 v), .d (.int .i64 f), .d (.int .i64 t), .xsl [], .xsl [], .xsl []], []) := by
  unfold fz
  by_cases h1 : ik = 7
  · simp only [h1, true_or, if_true]
    rw [callL_code g_base_fitted (by simp)]; simp -implicitDefEqProofs (maxSteps := 4000000) (disch := omega) only [c_base_fitted, r_base_fitted, getDT, go_sem, *]; (try simp only [pA, pB, pC, pD, pE, pF, pG, pH, pI, pJ, pK, pL, pM, pN, pO, pP, if_true, if_false]); repeat' (first | done | rfl | ((first | refine iteC (fun hq => ?_) (fun hq => ?_) | refine iteP (fun hq => ?_) (fun hq => ?_)) <;> (try (first | (exfalso; omega) | contradiction)) <;> (try simp -implicitDefEqProofs (maxSteps := 4000000) (disch := omega) only [getDT, go_sem, *]) <;> (try simp only [pA, pB, pC, pD, pE, pF, pG, pH, pI, pJ, pK, pL, pM, pN, pO, pP, if_true, if_false]))); (all_goals try rfl); (all_goals try (repeat' (first | done | rfl | (exfalso; omega) | contradiction | (refine iteR (fun hq => ?_) (fun hq => ?_)))))
  · by_cases h2 : ik = 6
    · simp only [h1, h2, or_true, if_true]
      rw [callL_code g_base_fitted (by simp)]; simp -implicitDefEqProofs (maxSteps := 4000000) (disch := omega) only [c_base_fitted, r_base_fitted, getDT, go_sem, *]; (try simp only [pA, pB, pC, pD, pE, pF, pG, pH, pI, pJ, pK, pL, pM, pN, pO, pP, if_true, if_false]); repeat' (first | done | rfl | ((first | refine iteC (fun hq => ?_) (fun hq => ?_) | refine iteP (fun hq => ?_) (fun hq => ?_)) <;> (try (first | (exfalso; omega) | contradiction)) <;> (try simp -implicitDefEqProofs (maxSteps := 4000000) (disch := omega) only [getDT, go_sem, *]) <;> (try simp only [pA, pB, pC, pD, pE, pF, pG, pH, pI, pJ, pK, pL, pM, pN, pO, pP, if_true, if_false]))); (all_goals try rfl); (all_goals try (repeat' (first | done | rfl | (exfalso; omega) | contradiction | (refine iteR (fun hq => ?_) (fun hq => ?_)))))
    · simp only [h1, h2, or_false, if_false]
      rw [callL_code g_base_fitted (by simp)]; simp -implicitDefEqProofs (maxSteps := 4000000) (disch := omega) only [c_base_fitted, r_base_fitted, getDT, go_sem, *]; (try simp only [pA, pB, pC, pD, pE, pF, pG, pH, pI, pJ, pK, pL, pM, pN, pO, pP, if_true, if_false]); repeat' (first | done | rfl | ((first | refine iteC (fun hq => ?_) (fun hq => ?_) | refine iteP (fun hq => ?_) (fun hq => ?_)) <;> (try (first | (exfalso; omega) | contradiction)) <;> (try simp -implicitDefEqProofs (maxSteps := 4000000) (disch := omega) only [getDT, go_sem, *]) <;> (try simp only [pA, pB, pC, pD, pE, pF, pG, pH, pI, pJ, pK, pL, pM, pN, pO, pP, if_true, if_false]))); (all_goals try rfl); (all_goals try (repeat' (first | done | rfl | (exfalso; omega) | contradiction | (refine iteR (fun hq => ?_) (fun hq => ?_)))))
theorem fitB_ok (k p b ik h m v f t : Int) (n : Nat) (es : List D) : callL G N_base_fitted [.agg [.d (.int .i64 k), .d (.int .i64 p), .d (.int .i64 b), .d (.int .i64 ik), .d (.int .i64 h), .d (.int .i64 m), .d (.int .i64 v), .d (.int .i64 f), .d (.int .i64 t), .osl 1000000 0 n, .xsl [], .xsl []]] [(1000000, .row (es.map .d))] =
    some (.agg [.d (.int .i64 k), .d (.int .i64 p), .d (.int .i64 b), .d (.int .i64 ik), .d (.int .i64 (fz ik h)), .d (.int .i64 (fz ik m)), .d (.int .i64 v), .d (.int .i64 f), .d (.int .i64 t), .osl 1000000 0 n, .xsl [], .xsl []], [(1000000, .row (es.map .d))]) := by
  unfold fz
  by_cases h1 : ik = 7
  · simp only [h1, true_or, if_true]
    rw [callL_code g_base_fitted (by simp)]; simp -implicitDefEqProofs (maxSteps := 4000000) (disch := omega) only [c_base_fitted, r_base_fitted, getDT, go_sem, *]; (try simp only [pA, pB, pC, pD, pE, pF, pG, pH, pI, pJ, pK, pL, pM, pN, pO, pP, if_true, if_false]); repeat' (first | done | rfl | ((first | refine iteC (fun hq => ?_) (fun hq => ?_) | refine iteP (fun hq => ?_) (fun hq => ?_)) <;> (try (first | (exfalso; omega) | contradiction)) <;> (try simp -implicitDefEqProofs (maxSteps := 4000000) (disch := omega) only [getDT, go_sem, *]) <;> (try simp only [pA, pB, pC, pD, pE, pF, pG, pH, pI, pJ, pK, pL, pM, pN, pO, pP, if_true, if_false]))); (all_goals try rfl); (all_goals try (repeat' (first | done | rfl | (exfalso; omega) | contradiction | (refine iteR (fun hq => ?_) (fun hq => ?_)))))
  · by_cases h2 : ik = 6
    · simp only [h1, h2, or_true, if_true]
      rw [callL_code g_base_fitted (by simp)]; simp -implicitDefEqProofs (maxSteps := 4000000) (disch := omega) only [c_base_fitted, r_base_fitted, getDT, go_sem, *]; (try simp only [pA, pB, pC, pD, pE, pF, pG, pH, pI, pJ, pK, pL, pM, pN, pO, pP, if_true, if_false]); repeat' (first | done | rfl | ((first | refine iteC (fun hq => ?_) (fun hq => ?_) | refine iteP (fun hq => ?_) (fun hq => ?_)) <;> (try (first | (exfalso; omega) | contradiction)) <;> (try simp -implicitDefEqProofs (maxSteps := 4000000) (disch := omega) only [getDT, go_sem, *]) <;> (try simp only [pA, pB, pC, pD, pE, pF, pG, pH, pI, pJ, pK, pL, pM, pN, pO, pP, if_true, if_false]))); (all_goals try rfl); (all_goals try (repeat' (first | done | rfl | (exfalso; omega) | contradiction | (refine iteR (fun hq => ?_) (fun hq => ?_)))))
    · simp only [h1, h2, or_false, if_false]
      rw [callL_code g_base_fitted (by simp)]; simp -implicitDefEqProofs (maxSteps := 4000000) (disch := omega) only [c_base_fitted, r_base_fitted, getDT, go_sem, *]; (try simp only [pA, pB, pC, pD, pE, pF, pG, pH, pI, pJ, pK, pL, pM, pN, pO, pP, if_true, if_false]); repeat' (first | done | rfl | ((first | refine iteC (fun hq => ?_) (fun hq => ?_) | refine iteP (fun hq => ?_) (fun hq => ?_)) <;> (try (first | (exfalso; omega) | contradiction)) <;> (try simp -implicitDefEqProofs (maxSteps := 4000000) (disch := omega) only [getDT, go_sem, *]) <;> (try simp only [pA, pB, pC, pD, pE, pF, pG, pH, pI, pJ, pK, pL, pM, pN, pO, pP, if_true, if_false]))); (all_goals try rfl); (all_goals try (repeat' (first | done | rfl | (exfalso; omega) | contradiction | (refine iteR (fun hq => ?_) (fun hq => ?_)))))
theorem fitR_ok (k p b ik h m v f t : Int) (n : Nat) (es : List D) : callL G N_base_fitted [.agg [.d (.int .i64 k), .d (.int .i64 p), .d (.int .i64 b), .d (.int .i64 ik), .d (.int .i64 h), .d (.int .i64 m), .d (.int .i64 v), .d (.int .i64 f), .d (.int .i64 t), .xsl [], .xsl [], .osl 1000000 0 n]] [(1000000, .row (es.map .d))] =
    some (.agg [.d (.int .i64 k), .d (.int .i64 p), .d (.int .i64 b), .d (.int .i64 ik), .d (.int .i64 (fz ik h)), .d (.int .i64 (fz ik m)), .d (.int .i64 v), .d (.int .i64 f), .d (.int .i64 t), .xsl [], .xsl [], .osl 1000000 0 n], [(1000000, .row (es.map .d))]) := by
  unfold fz
  by_cases h1 : ik = 7
  · simp only [h1, true_or, if_true]
    rw [callL_code g_base_fitted (by simp)]; simp -implicitDefEqProofs (maxSteps := 4000000) (disch := omega) only [c_base_fitted, r_base_fitted, getDT, go_sem, *]; (try simp only [pA, pB, pC, pD, pE, pF, pG, pH, pI, pJ, pK, pL, pM, pN, pO, pP, if_true, if_false]); repeat' (first | done | rfl | ((first | refine iteC (fun hq => ?_) (fun hq => ?_) | refine iteP (fun hq => ?_) (fun hq => ?_)) <;> (try (first | (exfalso; omega) | contradiction)) <;> (try simp -implicitDefEqProofs (maxSteps := 4000000) (disch := omega) only [getDT, go_sem, *]) <;> (try simp only [pA, pB, pC, pD, pE, pF, pG, pH, pI, pJ, pK, pL, pM, pN, pO, pP, if_true, if_false]))); (all_goals try rfl); (all_goals try (repeat' (first | done | rfl | (exfalso; omega) | contradiction | (refine iteR (fun hq => ?_) (fun hq => ?_)))))
  · by_cases h2 : ik = 6
    · simp only [h1, h2, or_true, if_true]
      rw [callL_code g_base_fitted (by simp)]; simp -implicitDefEqProofs (maxSteps := 4000000) (disch := omega) only [c_base_fitted, r_base_fitted, getDT, go_sem, *]; (try simp only [pA, pB, pC, pD, pE, pF, pG, pH, pI, pJ, pK, pL, pM, pN, pO, pP, if_true, if_false]); repeat' (first | done | rfl | ((first | refine iteC (fun hq => ?_) (fun hq => ?_) | refine iteP (fun hq => ?_) (fun hq => ?_)) <;> (try (first | (exfalso; omega) | contradiction)) <;> (try simp -implicitDefEqProofs (maxSteps := 4000000) (disch := omega) only [getDT, go_sem, *]) <;> (try simp only [pA, pB, pC, pD, pE, pF, pG, pH, pI, pJ, pK, pL, pM, pN, pO, pP, if_true, if_false]))); (all_goals try rfl); (all_goals try (repeat' (first | done | rfl | (exfalso; omega) | contradiction | (refine iteR (fun hq => ?_) (fun hq => ?_)))))
    · simp only [h1, h2, or_false, if_false]
      rw [callL_code g_base_fitted (by simp)]; simp -implicitDefEqProofs (maxSteps := 4000000) (disch := omega) only [c_base_fitted, r_base_fitted, getDT, go_sem, *]; (try simp only [pA, pB, pC, pD, pE, pF, pG, pH, pI, pJ, pK, pL, pM, pN, pO, pP, if_true, if_false]); repeat' (first | done | rfl | ((first | refine iteC (fun hq => ?_) (fun hq => ?_) | refine iteP (fun hq => ?_) (fun hq => ?_)) <;> (try (first | (exfalso; omega) | contradiction)) <;> (try simp -implicitDefEqProofs (maxSteps := 4000000) (disch := omega) only [getDT, go_sem, *]) <;> (try simp only [pA, pB, pC, pD, pE, pF, pG, pH, pI, pJ, pK, pL, pM, pN, pO, pP, if_true, if_false]))); (all_goals try rfl); (all_goals try (repeat' (first | done | rfl | (exfalso; omega) | contradiction | (refine iteR (fun hq => ?_) (fun hq => ?_)))))
end Go.Proofs.Ytadnfmkdmknmhaa

namespace Go.Proofs.Ytadnfmkdmknmhaa
open Go Go.Sim
set_option linter.unusedSimpArgs false
set_option linter.unusedVariables false
set_option maxHeartbeats 10000000
set_option maxRecDepth 40000
def invGood (i : Invocation) : Prop := i.tokens = [] ∧ i.bodies.length ≤ 2 ∧ (∀ b ∈ i.bodies, b.length ≤ 3) ∧ 0 ≤ i.home ∧ i.home ≤ 3 ∧ 0 ≤ i.max ∧ i.max ≤ 3 ∧ 0 ≤ i.visibility ∧ i.visibility ≤ 100 ∧ 0 ≤ i.from_ ∧ i.from_ ≤ 4 ∧ 0 ≤ i.to ∧ i.to ≤ 3
def cmdGood (c : Command) : Prop := c.refs.length ≤ 2 ∧ (∀ r ∈ c.refs, 0 ≤ r.index ∧ r.index ≤ 5 ∧ r.raw.length = 1) ∧ invGood c.inv
def lsV (l : List D) : AV := match l with | [] => .xsl [] | _ :: l => .osl 0 0 (l.length + 1)
def lsH (l : List D) : Heap := match l with | [] => [] | x :: l => [(0, .row ((x :: l).map .d))]
def cmdV (c : Command) : AV := .agg [.d (.int .i64 c.kind), .d (.int .i64 c.pick), .d (.int .i64 c.by_), .d (.int .i64 c.inv.kind), .d (.int .i64 c.inv.home), .d (.int .i64 c.inv.max), .d (.int .i64 c.inv.visibility), .d (.int .i64 c.inv.from_), .d (.int .i64 c.inv.to), lsV (c.inv.bodies.map .str), .xsl [], lsV (c.refs.map eRef)]
def cmdH (c : Command) : Heap := lsH (c.inv.bodies.map .str) ++ lsH (c.refs.map eRef)
def cmdPhi (l : List Int) (r : Option (AV × Heap)) : Prop := ∃ c a', cmdGood c ∧ (c.inv.bodies = [] ∨ c.refs = []) ∧ r = some (cmdV c, (1000000, srcO l a') :: cmdH c)
theorem cmd_fin0 {l : List Int} {k p b ik h m v f t : Int} {a' : Nat} (h1 : 0 ≤ h) (h2 : h ≤ 3) (h3 : 0 ≤ m) (h4 : m ≤ 3) (h5 : 0 ≤ v) (h6 : v ≤ 100) (h7 : 0 ≤ f) (h8 : f ≤ 4) (h9 : 0 ≤ t) (h10 : t ≤ 3) : Post (cmdPhi l) (some (.agg [.d (.int .i64 k), .d (.int .i64 p), .d (.int .i64 b), .d (.int .i64 ik), .d (.int .i64 h), .d (.int .i64 m), .d (.int .i64 v), .d (.int .i64 f), .d (.int .i64 t), .xsl [], .xsl [], .xsl []], [(1000000, srcO l a')])) :=
  ⟨⟨k, p, b, ⟨ik, h, m, v, f, t, [], []⟩, []⟩, a', ⟨by simp, by simp, rfl, by simp, by simp, h1, h2, h3, h4, h5, h6, h7, h8, h9, h10⟩, .inl rfl, rfl⟩
theorem cmd_finB {l : List Int} (b0 : List UInt8) (bs : List (List UInt8)) {k p b ik : Int} {a' : Nat} (h1 : (b0 :: bs).length ≤ 2) (h2 : ∀ b ∈ b0 :: bs, b.length ≤ 3) : Post (cmdPhi l) (some (.agg [.d (.int .i64 k), .d (.int .i64 p), .d (.int .i64 b), .d (.int .i64 ik), .d (.int .i64 (fz 1 0)), .d (.int .i64 (fz 1 0)), .d (.int .i64 0), .d (.int .i64 0), .d (.int .i64 0), .osl 0 0 (bs.length + 1), .xsl [], .xsl []], [(1000000, srcO l a'), (0, .row (((b0 :: bs).map D.str).map .d))])) :=
  ⟨⟨k, p, b, ⟨ik, 0, 0, 0, 0, 0, b0 :: bs, []⟩, []⟩, a', ⟨by simp, by simp, rfl, h1, h2, by simp⟩, .inr rfl, by simp only [cmdV, cmdH, lsV, lsH, List.map_cons, List.length_map, List.map_nil, List.append_nil]; rfl⟩
theorem cmd_finR {l : List Int} (r0 : Ref) (rs : List Ref) {k p b ik x v : Int} {a' : Nat} (h1 : 0 ≤ v) (h2 : v ≤ 100) (h3 : (r0 :: rs).length ≤ 2) (h4 : ∀ r ∈ r0 :: rs, 0 ≤ r.index ∧ r.index ≤ 5 ∧ r.raw.length = 1) : Post (cmdPhi l) (some (.agg [.d (.int .i64 k), .d (.int .i64 p), .d (.int .i64 b), .d (.int .i64 ik), .d (.int .i64 (fz x 0)), .d (.int .i64 (fz x 0)), .d (.int .i64 v), .d (.int .i64 0), .d (.int .i64 0), .xsl [], .xsl [], .osl 0 0 (rs.length + 1)], [(1000000, srcO l a'), (0, .row (((r0 :: rs).map eRef).map .d))])) := by
  have e : fz x 0 = 0 := by unfold fz; split <;> rfl
  rw [e]
  exact ⟨⟨k, p, b, ⟨ik, 0, 0, v, 0, 0, [], []⟩, r0 :: rs⟩, a', ⟨h3, h4, rfl, by simp, by simp, by simp [h1, h2]⟩, .inl rfl, by simp only [cmdV, cmdH, lsV, lsH, List.map_cons, List.length_map, List.map_nil, List.nil_append]⟩
theorem cmd_ok (l : List Int) (a : Nat) (hL : l.length ≤ 4000) : Post (cmdPhi l) (callL G N_base_Src_Command [.ref 1000000 0 0] [(1000000, srcO l a)]) := by
  obtain ⟨a1, q1⟩ : ∃ a1, (rawD l a).2 = a1 := ⟨_, rfl⟩
  obtain ⟨a2, q2⟩ : ∃ a2, (rawD l a1).2 = a2 := ⟨_, rfl⟩
  obtain ⟨a3, q3⟩ : ∃ a3, (rawD l a2).2 = a3 := ⟨_, rfl⟩
  have n1 := nD_in l a (n := 20) (by omega)
  have n2 := nD_in l a1 (n := 4) (by omega)
  have n3 := nD_in l a2 (n := 2) (by omega)
  have hn := fun at1 m => n_ok l at1 m hL
  have hr := fun at1 lo hi => range_ok l at1 lo hi hL
  have hb := fun at1 => (bodyF_ok l at1 hL).2
  have hf := fit0_ok
  have hB1 := fun k p b ik h m v f t x => fitB_ok k p b ik h m v f t 1 [x]
  have hB2 := fun k p b ik h m v f t x y => fitB_ok k p b ik h m v f t 2 [x, y]
  have hR1 := fun k p b ik h m v f t x => fitR_ok k p b ik h m v f t 1 [x]
  have hR2 := fun k p b ik h m v f t x y => fitR_ok k p b ik h m v f t 2 [x, y]
  simp only [List.map_cons, List.map_nil] at hB1 hB2 hR1 hR2
  have hp := fun at1 xs => pickF_ok l at1 xs hL
  have p1 := fun at1 => hp at1 [1, 1, 2, 3, 5, 8, 14, 30] (by simp) (by simp)
  have p2 := fun at1 => hp at1 [0, 1, 3, 10, 40] (by simp) (by simp)
  have p3 := fun at1 => hp at1 [0, 1, 5, 20, 100] (by simp) (by simp)
  have p4 := fun at1 => hp at1 [0, 1, 10, 50] (by simp) (by simp)
  have p5 := fun at1 => hp at1 [7, 7, 6, 8] (by simp) (by simp)
  have p6 := fun at1 => hp at1 [0, 0, 0, 0, 2, 3, 4, 5, 7] (by simp) (by simp)
  simp only [ints, List.map_cons, List.map_nil] at p1 p2 p3 p4 p5 p6
  clear hp
  have b3 := fun at1 => (bodyF_ok l at1 hL).1
  have v3 : ∀ at1, 0 ≤ [0, 1, 5, 20, 100].getD (nD l at1 5).toNat (0 : Int) ∧ [0, 1, 5, 20, 100].getD (nD l at1 5).toNat (0 : Int) ≤ 100 := fun at1 => pick_in (xs := [0, 1, 5, 20, 100]) (by decide) (by simp) (by simp)
  have v4 : ∀ at1, 0 ≤ [0, 1, 10, 50].getD (nD l at1 4).toNat (0 : Int) ∧ [0, 1, 10, 50].getD (nD l at1 4).toNat (0 : Int) ≤ 100 := fun at1 => by
    have := pick_in (l := l) (a := at1) (xs := [0, 1, 10, 50]) (lo := 0) (hi := 50) (by decide) (by simp) (by simp)
    exact ⟨this.1, Int.le_trans this.2 (by decide)⟩
  have w3 := v3 a3
  have w4 := v4 a3
  have n4 := nD_in l a2 (n := 3) (by omega)
  have n5 := nD_in l a3 (n := 3) (by omega)
  have n6 := nD_in l a3 (n := 4) (by omega)
  have n7 := nD_in l a3 (n := 5) (by omega)
  have n8 := nD_in l a3 (n := 2) (by omega)
  obtain ⟨a4, q4⟩ : ∃ a4, (rawD l a3).2 = a4 := ⟨_, rfl⟩
  have n9 := nD_in l a4 (n := 2) (by omega)
  have n10 : ∀ at1, 0 ≤ nD l at1 6 ∧ nD l at1 6 < 6 := fun at1 => nD_in l at1 (n := 6) (by omega)
  clear v3 v4
  have u8 : ∀ at1, ∃ c : UInt8, nD l at1 256 = c.toNat := fun at1 => by
    have := nD_in l at1 (n := 256) (by omega)
    exact ⟨UInt8.ofNat (nD l at1 256).toNat, by rw [UInt8.toNat_ofNat']; omega⟩
  rcases (show nD l a 20 < 9 ∨ nD l a 20 = 9 ∨ (nD l a 20 = 10 ∨ nD l a 20 = 11 ∨ nD l a 20 = 12) ∨ (nD l a 20 = 13 ∨ nD l a 20 = 14) ∨ (nD l a 20 = 15 ∨ nD l a 20 = 16) ∨ nD l a 20 = 17 ∨ nD l a 20 = 18 ∨ nD l a 20 = 19 by omega) with c | c | c | c | c | c | c | c
  · rw [callL_code g_base_Src_Command (by simp)]; simp -implicitDefEqProofs (maxSteps := 4000000) (disch := omega) only [c_base_Src_Command, r_base_Src_Command, getDT, go_sem, *]; (try simp only [pA, pB, pC, pD, pE, pF, pG, pH, pI, pJ, pK, pL, pM, pN, pO, pP, if_true, if_false]); repeat' (first | done | rfl | ((first | refine iteC (fun hq => ?_) (fun hq => ?_) | refine iteP (fun hq => ?_) (fun hq => ?_)) <;> (try (first | (exfalso; omega) | contradiction)) <;> (try simp -implicitDefEqProofs (maxSteps := 4000000) (disch := omega) only [getDT, go_sem, *]) <;> (try simp only [pA, pB, pC, pD, pE, pF, pG, pH, pI, pJ, pK, pL, pM, pN, pO, pP, if_true, if_false]))); (all_goals try rfl); (all_goals try (repeat' (first | done | rfl | (exfalso; omega) | contradiction | (refine iteR (fun hq => ?_) (fun hq => ?_)))))
    all_goals (refine cmd_fin0 ?_ ?_ ?_ ?_ ?_ ?_ ?_ ?_ ?_ ?_ <;> omega)
  · rw [callL_code g_base_Src_Command (by simp)]; simp -implicitDefEqProofs (maxSteps := 4000000) (disch := omega) only [c_base_Src_Command, r_base_Src_Command, getDT, go_sem, *]; (try simp only [pA, pB, pC, pD, pE, pF, pG, pH, pI, pJ, pK, pL, pM, pN, pO, pP, if_true, if_false]); repeat' (first | done | rfl | ((first | refine iteC (fun hq => ?_) (fun hq => ?_) | refine iteP (fun hq => ?_) (fun hq => ?_)) <;> (try (first | (exfalso; omega) | contradiction)) <;> (try simp -implicitDefEqProofs (maxSteps := 4000000) (disch := omega) only [getDT, go_sem, *]) <;> (try simp only [pA, pB, pC, pD, pE, pF, pG, pH, pI, pJ, pK, pL, pM, pN, pO, pP, if_true, if_false]))); (all_goals try rfl); (all_goals try (repeat' (first | done | rfl | (exfalso; omega) | contradiction | (refine iteR (fun hq => ?_) (fun hq => ?_)))))
    all_goals (refine cmd_fin0 ?_ ?_ ?_ ?_ ?_ ?_ ?_ ?_ ?_ ?_ <;> omega)
  · rcases (show nD l a2 2 = 0 ∨ nD l a2 2 = 1 by omega) with m0 | m0
    · rcases c with c | c | c
      all_goals (rw [callL_code g_base_Src_Command (by simp)]; simp -implicitDefEqProofs (maxSteps := 4000000) (disch := omega) only [c_base_Src_Command, r_base_Src_Command, loopL_eq, l_base_Src_Command_0, getDT, go_sem, *]; (try simp only [pA, pB, pC, pD, pE, pF, pG, pH, pI, pJ, pK, pL, pM, pN, pO, pP, if_true, if_false]); repeat' (first | done | rfl | ((first | refine iteC (fun hq => ?_) (fun hq => ?_) | refine iteP (fun hq => ?_) (fun hq => ?_)) <;> (try (first | (exfalso; omega) | contradiction)) <;> (try simp -implicitDefEqProofs (maxSteps := 4000000) (disch := omega) only [loopL_eq, l_base_Src_Command_0, getDT, go_sem, *]) <;> (try simp only [pA, pB, pC, pD, pE, pF, pG, pH, pI, pJ, pK, pL, pM, pN, pO, pP, if_true, if_false]))); (all_goals try rfl); (all_goals try (repeat' (first | done | rfl | (exfalso; omega) | contradiction | (refine iteR (fun hq => ?_) (fun hq => ?_))))))
      all_goals exact cmd_finB _ [] (by simp) (by intro b hb; simp only [List.mem_singleton] at hb; subst hb; exact b3 _)
    · rcases c with c | c | c
      all_goals (rw [callL_code g_base_Src_Command (by simp)]; simp -implicitDefEqProofs (maxSteps := 4000000) (disch := omega) only [c_base_Src_Command, r_base_Src_Command, loopL_eq, l_base_Src_Command_0, getDT, go_sem, *]; (try simp only [pA, pB, pC, pD, pE, pF, pG, pH, pI, pJ, pK, pL, pM, pN, pO, pP, if_true, if_false]); repeat' (first | done | rfl | ((first | refine iteC (fun hq => ?_) (fun hq => ?_) | refine iteP (fun hq => ?_) (fun hq => ?_)) <;> (try (first | (exfalso; omega) | contradiction)) <;> (try simp -implicitDefEqProofs (maxSteps := 4000000) (disch := omega) only [loopL_eq, l_base_Src_Command_0, getDT, go_sem, *]) <;> (try simp only [pA, pB, pC, pD, pE, pF, pG, pH, pI, pJ, pK, pL, pM, pN, pO, pP, if_true, if_false]))); (all_goals try rfl); (all_goals try (repeat' (first | done | rfl | (exfalso; omega) | contradiction | (refine iteR (fun hq => ?_) (fun hq => ?_))))))
      all_goals exact cmd_finB _ [_] (by simp) (by intro b hb; simp only [List.mem_cons, List.not_mem_nil, or_false] at hb; rcases hb with rfl | rfl <;> exact b3 _)
  · rcases c with c | c
    all_goals (rw [callL_code g_base_Src_Command (by simp)]; simp -implicitDefEqProofs (maxSteps := 4000000) (disch := omega) only [c_base_Src_Command, r_base_Src_Command, getDT, go_sem, *]; (try simp only [pA, pB, pC, pD, pE, pF, pG, pH, pI, pJ, pK, pL, pM, pN, pO, pP, if_true, if_false]); repeat' (first | done | rfl | ((first | refine iteC (fun hq => ?_) (fun hq => ?_) | refine iteP (fun hq => ?_) (fun hq => ?_)) <;> (try (first | (exfalso; omega) | contradiction)) <;> (try simp -implicitDefEqProofs (maxSteps := 4000000) (disch := omega) only [getDT, go_sem, *]) <;> (try simp only [pA, pB, pC, pD, pE, pF, pG, pH, pI, pJ, pK, pL, pM, pN, pO, pP, if_true, if_false]))); (all_goals try rfl); (all_goals try (repeat' (first | done | rfl | (exfalso; omega) | contradiction | (refine iteR (fun hq => ?_) (fun hq => ?_))))))
    all_goals (refine cmd_fin0 ?_ ?_ ?_ ?_ ?_ ?_ ?_ ?_ ?_ ?_ <;> (try simp only [fz]) <;> (try split) <;> omega)
  · rcases (show nD l a2 3 = 2 ∨ ¬ nD l a2 3 = 2 by omega) with k5 | k5
    · obtain ⟨s1, t1⟩ : ∃ s1, (rawD l a4).2 = s1 := ⟨_, rfl⟩
      obtain ⟨s2, t2⟩ : ∃ s2, (rawD l s1).2 = s2 := ⟨_, rfl⟩
      obtain ⟨s3, t3⟩ : ∃ s3, (rawD l s2).2 = s3 := ⟨_, rfl⟩
      obtain ⟨s4, t4⟩ : ∃ s4, (rawD l s3).2 = s4 := ⟨_, rfl⟩
      obtain ⟨s5, t5⟩ : ∃ s5, (rawD l s4).2 = s5 := ⟨_, rfl⟩
      obtain ⟨s6, t6⟩ : ∃ s6, (rawD l s5).2 = s6 := ⟨_, rfl⟩
      obtain ⟨c1, d1⟩ := u8 s3
      obtain ⟨c2, d2⟩ := u8 s6
      have e1 := c1.toNat_lt
      have e2 := c2.toNat_lt
      have r1 := nD_in l s1 (n := 6) (by omega)
      have r2 := nD_in l s4 (n := 6) (by omega)
      rcases (show nD l a4 2 = 0 ∨ nD l a4 2 = 1 by omega) with m0 | m0
      · rcases c with c | c
        all_goals (rw [callL_code g_base_Src_Command (by simp)]; simp -implicitDefEqProofs (maxSteps := 4000000) (disch := omega) only [c_base_Src_Command, r_base_Src_Command, loopL_eq, l_base_Src_Command_1, getDT, go_sem, *]; (try simp only [pA, pB, pC, pD, pE, pF, pG, pH, pI, pJ, pK, pL, pM, pN, pO, pP, if_true, if_false]); repeat' (first | done | rfl | ((first | refine iteC (fun hq => ?_) (fun hq => ?_) | refine iteP (fun hq => ?_) (fun hq => ?_)) <;> (try (first | (exfalso; omega) | contradiction)) <;> (try simp -implicitDefEqProofs (maxSteps := 4000000) (disch := omega) only [loopL_eq, l_base_Src_Command_1, getDT, go_sem, *]) <;> (try simp only [pA, pB, pC, pD, pE, pF, pG, pH, pI, pJ, pK, pL, pM, pN, pO, pP, if_true, if_false]))); (all_goals try rfl); (all_goals try (repeat' (first | done | rfl | (exfalso; omega) | contradiction | (refine iteR (fun hq => ?_) (fun hq => ?_))))))
        all_goals (refine cmd_finR ⟨nD l s1 6, [0, 0, 0, 0, 2, 3, 4, 5, 7].getD (nD l s2 9).toNat 0, [c1]⟩ [] ?_ ?_ (by simp) ?_; (first | omega | exact Int.le_refl _); (first | omega | decide); intro r hr; simp only [List.mem_singleton] at hr; subst hr; exact ⟨r1.1, by simp only; omega, rfl⟩)
      · rcases c with c | c
        all_goals (rw [callL_code g_base_Src_Command (by simp)]; simp -implicitDefEqProofs (maxSteps := 4000000) (disch := omega) only [c_base_Src_Command, r_base_Src_Command, loopL_eq, l_base_Src_Command_1, getDT, go_sem, *]; (try simp only [pA, pB, pC, pD, pE, pF, pG, pH, pI, pJ, pK, pL, pM, pN, pO, pP, if_true, if_false]); repeat' (first | done | rfl | ((first | refine iteC (fun hq => ?_) (fun hq => ?_) | refine iteP (fun hq => ?_) (fun hq => ?_)) <;> (try (first | (exfalso; omega) | contradiction)) <;> (try simp -implicitDefEqProofs (maxSteps := 4000000) (disch := omega) only [loopL_eq, l_base_Src_Command_1, getDT, go_sem, *]) <;> (try simp only [pA, pB, pC, pD, pE, pF, pG, pH, pI, pJ, pK, pL, pM, pN, pO, pP, if_true, if_false]))); (all_goals try rfl); (all_goals try (repeat' (first | done | rfl | (exfalso; omega) | contradiction | (refine iteR (fun hq => ?_) (fun hq => ?_))))))
        all_goals (refine cmd_finR ⟨nD l s1 6, [0, 0, 0, 0, 2, 3, 4, 5, 7].getD (nD l s2 9).toNat 0, [c1]⟩ [⟨nD l s4 6, [0, 0, 0, 0, 2, 3, 4, 5, 7].getD (nD l s5 9).toNat 0, [c2]⟩] ?_ ?_ (by simp) ?_; (first | omega | exact Int.le_refl _); (first | omega | decide); intro r hr; simp only [List.mem_cons, List.not_mem_nil, or_false] at hr; rcases hr with rfl | rfl; exact ⟨r1.1, by simp only; omega, rfl⟩; exact ⟨r2.1, by simp only; omega, rfl⟩)
    · obtain ⟨s1, t1⟩ : ∃ s1, (rawD l a3).2 = s1 := ⟨_, rfl⟩
      obtain rfl : s1 = a4 := t1.symm.trans q4
      obtain ⟨s2, t2⟩ : ∃ s2, (rawD l s1).2 = s2 := ⟨_, rfl⟩
      obtain ⟨s3, t3⟩ : ∃ s3, (rawD l s2).2 = s3 := ⟨_, rfl⟩
      obtain ⟨s4, t4⟩ : ∃ s4, (rawD l s3).2 = s4 := ⟨_, rfl⟩
      obtain ⟨s5, t5⟩ : ∃ s5, (rawD l s4).2 = s5 := ⟨_, rfl⟩
      obtain ⟨s6, t6⟩ : ∃ s6, (rawD l s5).2 = s6 := ⟨_, rfl⟩
      obtain ⟨c1, d1⟩ := u8 s3
      obtain ⟨c2, d2⟩ := u8 s6
      have e1 := c1.toNat_lt
      have e2 := c2.toNat_lt
      have r1 := nD_in l s1 (n := 6) (by omega)
      have r2 := nD_in l s4 (n := 6) (by omega)
      rcases (show nD l a3 2 = 0 ∨ nD l a3 2 = 1 by omega) with m0 | m0
      · rcases c with c | c
        all_goals (rw [callL_code g_base_Src_Command (by simp)]; simp -implicitDefEqProofs (maxSteps := 4000000) (disch := omega) only [c_base_Src_Command, r_base_Src_Command, loopL_eq, l_base_Src_Command_1, getDT, go_sem, *]; (try simp only [pA, pB, pC, pD, pE, pF, pG, pH, pI, pJ, pK, pL, pM, pN, pO, pP, if_true, if_false]); repeat' (first | done | rfl | ((first | refine iteC (fun hq => ?_) (fun hq => ?_) | refine iteP (fun hq => ?_) (fun hq => ?_)) <;> (try (first | (exfalso; omega) | contradiction)) <;> (try simp -implicitDefEqProofs (maxSteps := 4000000) (disch := omega) only [loopL_eq, l_base_Src_Command_1, getDT, go_sem, *]) <;> (try simp only [pA, pB, pC, pD, pE, pF, pG, pH, pI, pJ, pK, pL, pM, pN, pO, pP, if_true, if_false]))); (all_goals try rfl); (all_goals try (repeat' (first | done | rfl | (exfalso; omega) | contradiction | (refine iteR (fun hq => ?_) (fun hq => ?_))))))
        all_goals (refine cmd_finR ⟨nD l s1 6, [0, 0, 0, 0, 2, 3, 4, 5, 7].getD (nD l s2 9).toNat 0, [c1]⟩ [] ?_ ?_ (by simp) ?_; (first | omega | exact Int.le_refl _); (first | omega | decide); intro r hr; simp only [List.mem_singleton] at hr; subst hr; exact ⟨r1.1, by simp only; omega, rfl⟩)
      · rcases c with c | c
        all_goals (rw [callL_code g_base_Src_Command (by simp)]; simp -implicitDefEqProofs (maxSteps := 4000000) (disch := omega) only [c_base_Src_Command, r_base_Src_Command, loopL_eq, l_base_Src_Command_1, getDT, go_sem, *]; (try simp only [pA, pB, pC, pD, pE, pF, pG, pH, pI, pJ, pK, pL, pM, pN, pO, pP, if_true, if_false]); repeat' (first | done | rfl | ((first | refine iteC (fun hq => ?_) (fun hq => ?_) | refine iteP (fun hq => ?_) (fun hq => ?_)) <;> (try (first | (exfalso; omega) | contradiction)) <;> (try simp -implicitDefEqProofs (maxSteps := 4000000) (disch := omega) only [loopL_eq, l_base_Src_Command_1, getDT, go_sem, *]) <;> (try simp only [pA, pB, pC, pD, pE, pF, pG, pH, pI, pJ, pK, pL, pM, pN, pO, pP, if_true, if_false]))); (all_goals try rfl); (all_goals try (repeat' (first | done | rfl | (exfalso; omega) | contradiction | (refine iteR (fun hq => ?_) (fun hq => ?_))))))
        all_goals (refine cmd_finR ⟨nD l s1 6, [0, 0, 0, 0, 2, 3, 4, 5, 7].getD (nD l s2 9).toNat 0, [c1]⟩ [⟨nD l s4 6, [0, 0, 0, 0, 2, 3, 4, 5, 7].getD (nD l s5 9).toNat 0, [c2]⟩] ?_ ?_ (by simp) ?_; (first | omega | exact Int.le_refl _); (first | omega | decide); intro r hr; simp only [List.mem_cons, List.not_mem_nil, or_false] at hr; rcases hr with rfl | rfl; exact ⟨r1.1, by simp only; omega, rfl⟩; exact ⟨r2.1, by simp only; omega, rfl⟩)
  · rw [callL_code g_base_Src_Command (by simp)]; simp -implicitDefEqProofs (maxSteps := 4000000) (disch := omega) only [c_base_Src_Command, r_base_Src_Command, getDT, go_sem, *]; (try simp only [pA, pB, pC, pD, pE, pF, pG, pH, pI, pJ, pK, pL, pM, pN, pO, pP, if_true, if_false]); repeat' (first | done | rfl | ((first | refine iteC (fun hq => ?_) (fun hq => ?_) | refine iteP (fun hq => ?_) (fun hq => ?_)) <;> (try (first | (exfalso; omega) | contradiction)) <;> (try simp -implicitDefEqProofs (maxSteps := 4000000) (disch := omega) only [getDT, go_sem, *]) <;> (try simp only [pA, pB, pC, pD, pE, pF, pG, pH, pI, pJ, pK, pL, pM, pN, pO, pP, if_true, if_false]))); (all_goals try rfl); (all_goals try (repeat' (first | done | rfl | (exfalso; omega) | contradiction | (refine iteR (fun hq => ?_) (fun hq => ?_)))))
    all_goals (refine cmd_fin0 ?_ ?_ ?_ ?_ ?_ ?_ ?_ ?_ ?_ ?_ <;> (try simp only [fz]) <;> (try split) <;> omega)
  · rw [callL_code g_base_Src_Command (by simp)]; simp -implicitDefEqProofs (maxSteps := 4000000) (disch := omega) only [c_base_Src_Command, r_base_Src_Command, getDT, go_sem, *]; (try simp only [pA, pB, pC, pD, pE, pF, pG, pH, pI, pJ, pK, pL, pM, pN, pO, pP, if_true, if_false]); repeat' (first | done | rfl | ((first | refine iteC (fun hq => ?_) (fun hq => ?_) | refine iteP (fun hq => ?_) (fun hq => ?_)) <;> (try (first | (exfalso; omega) | contradiction)) <;> (try simp -implicitDefEqProofs (maxSteps := 4000000) (disch := omega) only [getDT, go_sem, *]) <;> (try simp only [pA, pB, pC, pD, pE, pF, pG, pH, pI, pJ, pK, pL, pM, pN, pO, pP, if_true, if_false]))); (all_goals try rfl); (all_goals try (repeat' (first | done | rfl | (exfalso; omega) | contradiction | (refine iteR (fun hq => ?_) (fun hq => ?_)))))
    all_goals (refine cmd_fin0 ?_ ?_ ?_ ?_ ?_ ?_ ?_ ?_ ?_ ?_ <;> (try simp only [fz]) <;> (try split) <;> omega)
  · rw [callL_code g_base_Src_Command (by simp)]; simp -implicitDefEqProofs (maxSteps := 4000000) (disch := omega) only [c_base_Src_Command, r_base_Src_Command, getDT, go_sem, *]; (try simp only [pA, pB, pC, pD, pE, pF, pG, pH, pI, pJ, pK, pL, pM, pN, pO, pP, if_true, if_false]); repeat' (first | done | rfl | ((first | refine iteC (fun hq => ?_) (fun hq => ?_) | refine iteP (fun hq => ?_) (fun hq => ?_)) <;> (try (first | (exfalso; omega) | contradiction)) <;> (try simp -implicitDefEqProofs (maxSteps := 4000000) (disch := omega) only [getDT, go_sem, *]) <;> (try simp only [pA, pB, pC, pD, pE, pF, pG, pH, pI, pJ, pK, pL, pM, pN, pO, pP, if_true, if_false]))); (all_goals try rfl); (all_goals try (repeat' (first | done | rfl | (exfalso; omega) | contradiction | (refine iteR (fun hq => ?_) (fun hq => ?_)))))
    all_goals (refine cmd_fin0 ?_ ?_ ?_ ?_ ?_ ?_ ?_ ?_ ?_ ?_ <;> (try simp only [fz]) <;> (try split) <;> omega)
end Go.Proofs.Ytadnfmkdmknmhaa
