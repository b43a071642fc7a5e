/-
  Bags: Step.
  Bags: what Step does.
  Bags: Step of an empty bag; Step.
  Bags of the reference: set, send, settle.
  Bags of the reference: send, receive.
  Bags of the reference: lists of grants.
  Bags of the reference: the loops of step.
  Bags of the reference: step, Step.
  Bags: the reference's Step is the program's.
-/
import Derived.Test.YtbkhijigkmhhkaaB423511e
set_option linter.unusedSimpArgs false
set_option linter.unusedVariables false
namespace Go.Proofs.Ytbkhijigkmhhkaa
open Go Go.Sim
set_option linter.unusedSimpArgs false
set_option linter.unusedVariables false
set_option maxHeartbeats 10000000
set_option maxRecDepth 40000
def tmF (v : Event) : Bool × Bool :=
  if v.kind = 1 ∨ v.kind = 7 then (false, false)
  else if v.kind = 2 then (if v.err = 6 then (false, false) else (true, true))
  else if v.kind = 4 ∨ v.kind = 5 ∨ v.kind = 6 then (if v.l.length = 0 then (false, false) else (true, true))
  else (true, decide (v.kind ≠ 8))
theorem timed_ok (v : Event) (hL : v.l.length ≤ 4294967296) : callL G N_bag_timed [.d (eEvent v)] [] = some (.d (.tup [.bool (tmF v).1, .bool (tmF v).2]), []) := by
  unfold tmF
  by_cases h1 : v.kind = 1
  · simp only [h1, true_or, if_true]
    simp only [eEvent]
    rw [callL_code g_bag_timed (by simp)]; simp -implicitDefEqProofs (maxSteps := 4000000) (disch := omega) only [c_bag_timed, r_bag_timed, getDT, go_sem, *] /-A0-/
  by_cases h7 : v.kind = 7
  · simp only [h7, or_true, if_true]
    simp only [eEvent]
    rw [callL_code g_bag_timed (by simp)]; simp -implicitDefEqProofs (maxSteps := 4000000) (disch := omega) only [c_bag_timed, r_bag_timed, getDT, go_sem, *] /-A1-/
  rw [if_neg (by omega)]
  by_cases h2 : v.kind = 2
  · simp only [h2, if_true]
    simp only [eEvent]
    by_cases h6 : v.err = 6
    · simp only [h6, if_true]
      rw [callL_code g_bag_timed (by simp)]; simp -implicitDefEqProofs (maxSteps := 4000000) (disch := omega) only [c_bag_timed, r_bag_timed, getDT, go_sem, *] /-A2-/
    · simp only [h6, if_false]
      rw [callL_code g_bag_timed (by simp)]; simp -implicitDefEqProofs (maxSteps := 4000000) (disch := omega) only [c_bag_timed, r_bag_timed, getDT, go_sem, *] /-A3-/
  rw [if_neg h2]
  by_cases h4 : v.kind = 4 ∨ v.kind = 5 ∨ v.kind = 6
  · rw [if_pos h4]
    by_cases h0 : v.l.length = 0
    · rw [if_pos h0]
      have hnil := List.length_eq_zero_iff.1 h0
      simp only [eEvent, hnil, List.map_nil]
      rcases h4 with h4 | h4 | h4
      · rw [callL_code g_bag_timed (by simp)]; simp -implicitDefEqProofs (maxSteps := 4000000) (disch := omega) only [c_bag_timed, r_bag_timed, getDT, go_sem, *] /-A4-/
      · rw [callL_code g_bag_timed (by simp)]; simp -implicitDefEqProofs (maxSteps := 4000000) (disch := omega) only [c_bag_timed, r_bag_timed, getDT, go_sem, *] /-A5-/
      · rw [callL_code g_bag_timed (by simp)]; simp -implicitDefEqProofs (maxSteps := 4000000) (disch := omega) only [c_bag_timed, r_bag_timed, getDT, go_sem, *] /-A6-/
    · rw [if_neg h0]
      simp only [eEvent]
      rcases h4 with h4 | h4 | h4
      · rw [callL_code g_bag_timed (by simp)]; simp -implicitDefEqProofs (maxSteps := 4000000) (disch := omega) only [c_bag_timed, r_bag_timed, getDT, go_sem, *] /-A7-/
      · rw [callL_code g_bag_timed (by simp)]; simp -implicitDefEqProofs (maxSteps := 4000000) (disch := omega) only [c_bag_timed, r_bag_timed, getDT, go_sem, *] /-A8-/
      · rw [callL_code g_bag_timed (by simp)]; simp -implicitDefEqProofs (maxSteps := 4000000) (disch := omega) only [c_bag_timed, r_bag_timed, getDT, go_sem, *] /-A9-/
  · rw [if_neg h4]
    simp only [not_or] at h4
    obtain ⟨h4, h5, h6⟩ := h4
    by_cases h8 : v.kind = 8
    · simp only [h8, ne_eq, not_true_eq_false, decide_false]
      simp only [eEvent]
      rw [callL_code g_bag_timed (by simp)]; simp -implicitDefEqProofs (maxSteps := 4000000) (disch := omega) only [c_bag_timed, r_bag_timed, getDT, go_sem, *] /-A10-/
    · simp only [h8, ne_eq, not_false_eq_true, decide_true]
      simp only [eEvent]
      rw [callL_code g_bag_timed (by simp)]; simp -implicitDefEqProofs (maxSteps := 4000000) (disch := omega) only [c_bag_timed, r_bag_timed, getDT, go_sem, *] /-A11-/
def lateB (b : Bag) (v : Event) : Bool := (tmF v).1 && decide (v.epoch ≠ b.epoch) || (tmF v).2 && decide (v.now ≠ b.now)
theorem step_kind (b : Bag) (v : Event) (hk : ¬ (1 ≤ v.kind ∧ v.kind ≤ 10)) : callL G N_bag_Step [.d (eBag b), .d (eEvent v)] [] = some (.d (.tup [eBag zBag, .int .i64 9]), []) := by
  have hi := bag_in_ok v.kind 1 10
  rw [show (decide (1 ≤ v.kind) && decide (v.kind ≤ 10)) = false by simp; omega] at hi
  clear hk
  simp only [eBag, zBag, eEvent, List.map_nil]
  rw [callL_code g_bag_Step (by simp)]; simp -implicitDefEqProofs (maxSteps := 4000000) (disch := omega) only [c_bag_Step, r_bag_Step, getDT, go_sem, *] /-A12-/
theorem step_late (b : Bag) (v : Event) (hk : 1 ≤ v.kind ∧ v.kind ≤ 10) (hL : v.l.length ≤ 4294967296) (hl : lateB b v = true) : callL G N_bag_Step [.d (eBag b), .d (eEvent v)] [] = some (.d (.tup [eBag zBag, .int .i64 7]), []) := by
  have hi := bag_in_ok v.kind 1 10
  rw [show (decide (1 ≤ v.kind) && decide (v.kind ≤ 10)) = true by simp; omega] at hi
  have ht := timed_ok v hL
  unfold lateB at hl
  generalize (tmF v).1 = p at *
  generalize (tmF v).2 = q at *
  clear hk
  simp only [eBag, zBag, eEvent, List.map_nil] at ht ⊢
  by_cases c1 : v.epoch = b.epoch
  · replace c1 := eq_true c1
    by_cases c2 : v.now = b.now
    · exfalso
      simp only [ne_eq, c1, c2, not_true_eq_false, decide_false, Bool.and_false, Bool.or_self, Bool.false_eq_true] at hl
    · cases q
      · exfalso
        simp only [ne_eq, c1, not_true_eq_false, decide_false, Bool.and_false, Bool.false_and, Bool.or_self, Bool.false_eq_true] at hl
      · clear hl
        cases p
        · rw [callL_code g_bag_Step (by simp)]; simp -implicitDefEqProofs (maxSteps := 4000000) (disch := omega) only [c_bag_Step, r_bag_Step, getDT, go_sem, *] /-A13-/
        · rw [callL_code g_bag_Step (by simp)]; simp -implicitDefEqProofs (maxSteps := 4000000) (disch := omega) only [c_bag_Step, r_bag_Step, getDT, go_sem, *] /-A14-/
  · cases p
    · by_cases c2 : v.now = b.now
      · exfalso
        simp only [ne_eq, c1, c2, not_true_eq_false, decide_false, Bool.and_false, Bool.false_and, Bool.or_self, Bool.false_eq_true] at hl
      · cases q
        · exfalso
          simp only [ne_eq, Bool.false_and, Bool.or_self, Bool.false_eq_true] at hl
        · clear hl
          rw [callL_code g_bag_Step (by simp)]; simp -implicitDefEqProofs (maxSteps := 4000000) (disch := omega) only [c_bag_Step, r_bag_Step, getDT, go_sem, *] /-A15-/
    · clear hl
      rw [callL_code g_bag_Step (by simp)]; simp -implicitDefEqProofs (maxSteps := 4000000) (disch := omega) only [c_bag_Step, r_bag_Step, getDT, go_sem, *] /-A16-/
theorem not_late {b : Bag} {v : Event} (h : lateB b v = false) : ((tmF v).1 = false ∨ v.epoch = b.epoch) ∧ ((tmF v).2 = false ∨ v.now = b.now) := by
  unfold lateB at h
  simp only [Bool.or_eq_false_iff, Bool.and_eq_false_imp, decide_eq_false_iff_not, ne_eq, Classical.not_not] at h
  refine ⟨?_, ?_⟩
  · cases hp : (tmF v).1
    · exact .inl rfl
    · exact .inr (h.1 hp)
  · cases hp : (tmF v).2
    · exact .inl rfl
    · exact .inr (h.2 hp)
theorem stepN_no (b : Bag) (v : Event) (hk : 1 ≤ v.kind ∧ v.kind ≤ 10) (hL : v.l.length ≤ 4294967296) (hl : lateB b v = false) (h0 : b.l ≠ []) (hL2 : b.l.length ≤ 4294967296) (z : List Item) (h : callL G N_bag_carry [.ref 1000000 0 0, .d (eEvent v)] (bN b.limit b.now b.epoch b.l) = some (.d (.bool false), bN b.limit b.now b.epoch z)) : callL G N_bag_Step [.d (eBag b), .d (eEvent v)] [] = some (.d (.tup [eBag zBag, .int .i64 7]), []) := by
  have hi := bag_in_ok v.kind 1 10
  rw [show (decide (1 ≤ v.kind) && decide (v.kind ≤ 10)) = true by simp; omega] at hi
  have ht := timed_ok v hL
  obtain ⟨hp, hq⟩ := not_late hl
  have hc := clone_api_Item (b.l.map eItem) (allSize_Item _) (by rw [List.length_map]; exact hL2)
  have hne : ¬ b.l.length = 0 := by rw [List.length_eq_zero_iff]; exact h0
  generalize (tmF v).1 = p at *
  generalize (tmF v).2 = q at *
  clear hk hl h0
  simp only [eBag, zBag, eEvent, bN, List.map_nil, List.length_map, List.length_nil] at ht h hc ⊢
  rcases hp with rfl | hp
  · rcases hq with rfl | hq
    · rw [callL_code g_bag_Step (by simp)]; simp -implicitDefEqProofs (maxSteps := 4000000) (disch := omega) only [c_bag_Step, r_bag_Step, getDT, go_sem, *] /-A17-/
    · replace hq := eq_true hq
      cases q
      · rw [callL_code g_bag_Step (by simp)]; simp -implicitDefEqProofs (maxSteps := 4000000) (disch := omega) only [c_bag_Step, r_bag_Step, getDT, go_sem, *] /-A18-/
      · rw [callL_code g_bag_Step (by simp)]; simp -implicitDefEqProofs (maxSteps := 4000000) (disch := omega) only [c_bag_Step, r_bag_Step, getDT, go_sem, *] /-A19-/
  · replace hp := eq_true hp
    cases p
    · rcases hq with rfl | hq
      · rw [callL_code g_bag_Step (by simp)]; simp -implicitDefEqProofs (maxSteps := 4000000) (disch := omega) only [c_bag_Step, r_bag_Step, getDT, go_sem, *] /-A20-/
      · replace hq := eq_true hq
        cases q
        · rw [callL_code g_bag_Step (by simp)]; simp -implicitDefEqProofs (maxSteps := 4000000) (disch := omega) only [c_bag_Step, r_bag_Step, getDT, go_sem, *] /-A21-/
        · rw [callL_code g_bag_Step (by simp)]; simp -implicitDefEqProofs (maxSteps := 4000000) (disch := omega) only [c_bag_Step, r_bag_Step, getDT, go_sem, *] /-A22-/
    · rcases hq with rfl | hq
      · rw [callL_code g_bag_Step (by simp)]; simp -implicitDefEqProofs (maxSteps := 4000000) (disch := omega) only [c_bag_Step, r_bag_Step, getDT, go_sem, *] /-A23-/
      · replace hq := eq_true hq
        cases q
        · rw [callL_code g_bag_Step (by simp)]; simp -implicitDefEqProofs (maxSteps := 4000000) (disch := omega) only [c_bag_Step, r_bag_Step, getDT, go_sem, *] /-A24-/
        · rw [callL_code g_bag_Step (by simp)]; simp -implicitDefEqProofs (maxSteps := 4000000) (disch := omega) only [c_bag_Step, r_bag_Step, getDT, go_sem, *] /-A25-/
theorem stepN_yes (b : Bag) (v : Event) (hk : 1 ≤ v.kind ∧ v.kind ≤ 10) (hL : v.l.length ≤ 4294967296) (hl : lateB b v = false) (h0 : b.l ≠ []) (hL2 : b.l.length ≤ 4294967296) (a e : Int) (z : List Item) (h : callL G N_bag_carry [.ref 1000000 0 0, .d (eEvent v)] (bN b.limit b.now b.epoch b.l) = some (.d (.bool true), bN b.limit a e z)) : callL G N_bag_Step [.d (eBag b), .d (eEvent v)] [] = some (.d (.tup [eBag ⟨b.limit, a, e, z⟩, .int .i64 0]), []) := by
  have hi := bag_in_ok v.kind 1 10
  rw [show (decide (1 ≤ v.kind) && decide (v.kind ≤ 10)) = true by simp; omega] at hi
  have ht := timed_ok v hL
  obtain ⟨hp, hq⟩ := not_late hl
  have hc := clone_api_Item (b.l.map eItem) (allSize_Item _) (by rw [List.length_map]; exact hL2)
  have hne : ¬ b.l.length = 0 := by rw [List.length_eq_zero_iff]; exact h0
  generalize (tmF v).1 = p at *
  generalize (tmF v).2 = q at *
  clear hk hl h0
  simp only [eBag, zBag, eEvent, bN, List.map_nil, List.length_map, List.length_nil] at ht h hc ⊢
  rcases hp with rfl | hp
  · rcases hq with rfl | hq
    · rw [callL_code g_bag_Step (by simp)]; simp -implicitDefEqProofs (maxSteps := 4000000) (disch := omega) only [c_bag_Step, r_bag_Step, getDT, go_sem, *] /-A26-/
    · replace hq := eq_true hq
      cases q
      · rw [callL_code g_bag_Step (by simp)]; simp -implicitDefEqProofs (maxSteps := 4000000) (disch := omega) only [c_bag_Step, r_bag_Step, getDT, go_sem, *] /-A27-/
      · rw [callL_code g_bag_Step (by simp)]; simp -implicitDefEqProofs (maxSteps := 4000000) (disch := omega) only [c_bag_Step, r_bag_Step, getDT, go_sem, *] /-A28-/
  · replace hp := eq_true hp
    cases p
    · rcases hq with rfl | hq
      · rw [callL_code g_bag_Step (by simp)]; simp -implicitDefEqProofs (maxSteps := 4000000) (disch := omega) only [c_bag_Step, r_bag_Step, getDT, go_sem, *] /-A29-/
      · replace hq := eq_true hq
        cases q
        · rw [callL_code g_bag_Step (by simp)]; simp -implicitDefEqProofs (maxSteps := 4000000) (disch := omega) only [c_bag_Step, r_bag_Step, getDT, go_sem, *] /-A30-/
        · rw [callL_code g_bag_Step (by simp)]; simp -implicitDefEqProofs (maxSteps := 4000000) (disch := omega) only [c_bag_Step, r_bag_Step, getDT, go_sem, *] /-A31-/
    · rcases hq with rfl | hq
      · rw [callL_code g_bag_Step (by simp)]; simp -implicitDefEqProofs (maxSteps := 4000000) (disch := omega) only [c_bag_Step, r_bag_Step, getDT, go_sem, *] /-A32-/
      · replace hq := eq_true hq
        cases q
        · rw [callL_code g_bag_Step (by simp)]; simp -implicitDefEqProofs (maxSteps := 4000000) (disch := omega) only [c_bag_Step, r_bag_Step, getDT, go_sem, *] /-A33-/
        · rw [callL_code g_bag_Step (by simp)]; simp -implicitDefEqProofs (maxSteps := 4000000) (disch := omega) only [c_bag_Step, r_bag_Step, getDT, go_sem, *] /-A34-/
theorem stepN_send (b : Bag) (v : Event) (hk : 1 ≤ v.kind ∧ v.kind ≤ 10) (hL : v.l.length ≤ 4294967296) (hl : lateB b v = false) (h0 : b.l ≠ []) (hL2 : b.l.length ≤ 4294967296) (z : List Item) (h : callL G N_bag_carry [.ref 1000000 0 0, .d (eEvent v)] (bN b.limit b.now b.epoch b.l) = some (.d (.bool true), [(1000000, .row [.d (eBag ⟨b.limit, b.now, b.epoch, z⟩)]), (1000001, .frz none)])) : callL G N_bag_Step [.d (eBag b), .d (eEvent v)] [] = some (.d (.tup [eBag ⟨b.limit, b.now, b.epoch, z⟩, .int .i64 0]), []) := by
  have hi := bag_in_ok v.kind 1 10
  rw [show (decide (1 ≤ v.kind) && decide (v.kind ≤ 10)) = true by simp; omega] at hi
  have ht := timed_ok v hL
  obtain ⟨hp, hq⟩ := not_late hl
  have hc := clone_api_Item (b.l.map eItem) (allSize_Item _) (by rw [List.length_map]; exact hL2)
  have hne : ¬ b.l.length = 0 := by rw [List.length_eq_zero_iff]; exact h0
  generalize (tmF v).1 = p at *
  generalize (tmF v).2 = q at *
  clear hk hl h0
  simp only [eBag, zBag, eEvent, bN, List.map_nil, List.length_map, List.length_nil] at ht h hc ⊢
  rcases hp with rfl | hp
  · rcases hq with rfl | hq
    · rw [callL_code g_bag_Step (by simp)]; simp -implicitDefEqProofs (maxSteps := 4000000) (disch := omega) only [c_bag_Step, r_bag_Step, getDT, go_sem, *] /-A35-/
    · replace hq := eq_true hq
      cases q
      · rw [callL_code g_bag_Step (by simp)]; simp -implicitDefEqProofs (maxSteps := 4000000) (disch := omega) only [c_bag_Step, r_bag_Step, getDT, go_sem, *] /-A36-/
      · rw [callL_code g_bag_Step (by simp)]; simp -implicitDefEqProofs (maxSteps := 4000000) (disch := omega) only [c_bag_Step, r_bag_Step, getDT, go_sem, *] /-A37-/
  · replace hp := eq_true hp
    cases p
    · rcases hq with rfl | hq
      · rw [callL_code g_bag_Step (by simp)]; simp -implicitDefEqProofs (maxSteps := 4000000) (disch := omega) only [c_bag_Step, r_bag_Step, getDT, go_sem, *] /-A38-/
      · replace hq := eq_true hq
        cases q
        · rw [callL_code g_bag_Step (by simp)]; simp -implicitDefEqProofs (maxSteps := 4000000) (disch := omega) only [c_bag_Step, r_bag_Step, getDT, go_sem, *] /-A39-/
        · rw [callL_code g_bag_Step (by simp)]; simp -implicitDefEqProofs (maxSteps := 4000000) (disch := omega) only [c_bag_Step, r_bag_Step, getDT, go_sem, *] /-A40-/
    · rcases hq with rfl | hq
      · rw [callL_code g_bag_Step (by simp)]; simp -implicitDefEqProofs (maxSteps := 4000000) (disch := omega) only [c_bag_Step, r_bag_Step, getDT, go_sem, *] /-A41-/
      · replace hq := eq_true hq
        cases q
        · rw [callL_code g_bag_Step (by simp)]; simp -implicitDefEqProofs (maxSteps := 4000000) (disch := omega) only [c_bag_Step, r_bag_Step, getDT, go_sem, *] /-A42-/
        · rw [callL_code g_bag_Step (by simp)]; simp -implicitDefEqProofs (maxSteps := 4000000) (disch := omega) only [c_bag_Step, r_bag_Step, getDT, go_sem, *] /-A43-/
theorem stepZ_no (b : Bag) (v : Event) (hk : 1 ≤ v.kind ∧ v.kind ≤ 10) (hL : v.l.length ≤ 4294967296) (hl : lateB b v = false) (h0 : b.l = [])  (h : callL G N_bag_carry [.ref 1000000 0 0, .d (eEvent v)] (bZ b.limit b.now b.epoch) = some (.d (.bool false), bZ b.limit b.now b.epoch)) : callL G N_bag_Step [.d (eBag b), .d (eEvent v)] [] = some (.d (.tup [eBag zBag, .int .i64 7]), []) := by
  have hi := bag_in_ok v.kind 1 10
  rw [show (decide (1 ≤ v.kind) && decide (v.kind ≤ 10)) = true by simp; omega] at hi
  have ht := timed_ok v hL
  obtain ⟨hp, hq⟩ := not_late hl
  have hc := clone_api_Item [] rfl (by simp)
  generalize (tmF v).1 = p at *
  generalize (tmF v).2 = q at *
  clear hk hl
  simp only [eBag, zBag, eEvent, bZ, h0, List.map_nil, List.length_map, List.length_nil] at ht h hc ⊢
  clear h0
  rcases hp with rfl | hp
  · rcases hq with rfl | hq
    · rw [callL_code g_bag_Step (by simp)]; simp -implicitDefEqProofs (maxSteps := 4000000) (disch := omega) only [c_bag_Step, r_bag_Step, getDT, go_sem, *] /-A44-/
    · replace hq := eq_true hq
      cases q
      · rw [callL_code g_bag_Step (by simp)]; simp -implicitDefEqProofs (maxSteps := 4000000) (disch := omega) only [c_bag_Step, r_bag_Step, getDT, go_sem, *] /-A45-/
      · rw [callL_code g_bag_Step (by simp)]; simp -implicitDefEqProofs (maxSteps := 4000000) (disch := omega) only [c_bag_Step, r_bag_Step, getDT, go_sem, *] /-A46-/
  · replace hp := eq_true hp
    cases p
    · rcases hq with rfl | hq
      · rw [callL_code g_bag_Step (by simp)]; simp -implicitDefEqProofs (maxSteps := 4000000) (disch := omega) only [c_bag_Step, r_bag_Step, getDT, go_sem, *] /-A47-/
      · replace hq := eq_true hq
        cases q
        · rw [callL_code g_bag_Step (by simp)]; simp -implicitDefEqProofs (maxSteps := 4000000) (disch := omega) only [c_bag_Step, r_bag_Step, getDT, go_sem, *] /-A48-/
        · rw [callL_code g_bag_Step (by simp)]; simp -implicitDefEqProofs (maxSteps := 4000000) (disch := omega) only [c_bag_Step, r_bag_Step, getDT, go_sem, *] /-A49-/
    · rcases hq with rfl | hq
      · rw [callL_code g_bag_Step (by simp)]; simp -implicitDefEqProofs (maxSteps := 4000000) (disch := omega) only [c_bag_Step, r_bag_Step, getDT, go_sem, *] /-A50-/
      · replace hq := eq_true hq
        cases q
        · rw [callL_code g_bag_Step (by simp)]; simp -implicitDefEqProofs (maxSteps := 4000000) (disch := omega) only [c_bag_Step, r_bag_Step, getDT, go_sem, *] /-A51-/
        · rw [callL_code g_bag_Step (by simp)]; simp -implicitDefEqProofs (maxSteps := 4000000) (disch := omega) only [c_bag_Step, r_bag_Step, getDT, go_sem, *] /-A52-/
theorem stepZ_yes (b : Bag) (v : Event) (hk : 1 ≤ v.kind ∧ v.kind ≤ 10) (hL : v.l.length ≤ 4294967296) (hl : lateB b v = false) (h0 : b.l = []) (a e : Int) (h : callL G N_bag_carry [.ref 1000000 0 0, .d (eEvent v)] (bZ b.limit b.now b.epoch) = some (.d (.bool true), bZ b.limit a e)) : callL G N_bag_Step [.d (eBag b), .d (eEvent v)] [] = some (.d (.tup [eBag ⟨b.limit, a, e, []⟩, .int .i64 0]), []) := by
  have hi := bag_in_ok v.kind 1 10
  rw [show (decide (1 ≤ v.kind) && decide (v.kind ≤ 10)) = true by simp; omega] at hi
  have ht := timed_ok v hL
  obtain ⟨hp, hq⟩ := not_late hl
  have hc := clone_api_Item [] rfl (by simp)
  generalize (tmF v).1 = p at *
  generalize (tmF v).2 = q at *
  clear hk hl
  simp only [eBag, zBag, eEvent, bZ, h0, List.map_nil, List.length_map, List.length_nil] at ht h hc ⊢
  clear h0
  rcases hp with rfl | hp
  · rcases hq with rfl | hq
    · rw [callL_code g_bag_Step (by simp)]; simp -implicitDefEqProofs (maxSteps := 4000000) (disch := omega) only [c_bag_Step, r_bag_Step, getDT, go_sem, *] /-A53-/
    · replace hq := eq_true hq
      cases q
      · rw [callL_code g_bag_Step (by simp)]; simp -implicitDefEqProofs (maxSteps := 4000000) (disch := omega) only [c_bag_Step, r_bag_Step, getDT, go_sem, *] /-A54-/
      · rw [callL_code g_bag_Step (by simp)]; simp -implicitDefEqProofs (maxSteps := 4000000) (disch := omega) only [c_bag_Step, r_bag_Step, getDT, go_sem, *] /-A55-/
  · replace hp := eq_true hp
    cases p
    · rcases hq with rfl | hq
      · rw [callL_code g_bag_Step (by simp)]; simp -implicitDefEqProofs (maxSteps := 4000000) (disch := omega) only [c_bag_Step, r_bag_Step, getDT, go_sem, *] /-A56-/
      · replace hq := eq_true hq
        cases q
        · rw [callL_code g_bag_Step (by simp)]; simp -implicitDefEqProofs (maxSteps := 4000000) (disch := omega) only [c_bag_Step, r_bag_Step, getDT, go_sem, *] /-A57-/
        · rw [callL_code g_bag_Step (by simp)]; simp -implicitDefEqProofs (maxSteps := 4000000) (disch := omega) only [c_bag_Step, r_bag_Step, getDT, go_sem, *] /-A58-/
    · rcases hq with rfl | hq
      · rw [callL_code g_bag_Step (by simp)]; simp -implicitDefEqProofs (maxSteps := 4000000) (disch := omega) only [c_bag_Step, r_bag_Step, getDT, go_sem, *] /-A59-/
      · replace hq := eq_true hq
        cases q
        · rw [callL_code g_bag_Step (by simp)]; simp -implicitDefEqProofs (maxSteps := 4000000) (disch := omega) only [c_bag_Step, r_bag_Step, getDT, go_sem, *] /-A60-/
        · rw [callL_code g_bag_Step (by simp)]; simp -implicitDefEqProofs (maxSteps := 4000000) (disch := omega) only [c_bag_Step, r_bag_Step, getDT, go_sem, *] /-A61-/
theorem stepZ_send (b : Bag) (v : Event) (hk : 1 ≤ v.kind ∧ v.kind ≤ 10) (hL : v.l.length ≤ 4294967296) (hl : lateB b v = false) (h0 : b.l = []) (z : List Item) (h : callL G N_bag_carry [.ref 1000000 0 0, .d (eEvent v)] (bZ b.limit b.now b.epoch) = some (.d (.bool true), [(1000000, .row [.d (eBag ⟨b.limit, b.now, b.epoch, z⟩)])])) : callL G N_bag_Step [.d (eBag b), .d (eEvent v)] [] = some (.d (.tup [eBag ⟨b.limit, b.now, b.epoch, z⟩, .int .i64 0]), []) := by
  have hi := bag_in_ok v.kind 1 10
  rw [show (decide (1 ≤ v.kind) && decide (v.kind ≤ 10)) = true by simp; omega] at hi
  have ht := timed_ok v hL
  obtain ⟨hp, hq⟩ := not_late hl
  have hc := clone_api_Item [] rfl (by simp)
  generalize (tmF v).1 = p at *
  generalize (tmF v).2 = q at *
  clear hk hl
  simp only [eBag, zBag, eEvent, bZ, h0, List.map_nil, List.length_map, List.length_nil] at ht h hc ⊢
  clear h0
  rcases hp with rfl | hp
  · rcases hq with rfl | hq
    · rw [callL_code g_bag_Step (by simp)]; simp -implicitDefEqProofs (maxSteps := 4000000) (disch := omega) only [c_bag_Step, r_bag_Step, getDT, go_sem, *] /-A62-/
    · replace hq := eq_true hq
      cases q
      · rw [callL_code g_bag_Step (by simp)]; simp -implicitDefEqProofs (maxSteps := 4000000) (disch := omega) only [c_bag_Step, r_bag_Step, getDT, go_sem, *] /-A63-/
      · rw [callL_code g_bag_Step (by simp)]; simp -implicitDefEqProofs (maxSteps := 4000000) (disch := omega) only [c_bag_Step, r_bag_Step, getDT, go_sem, *] /-A64-/
  · replace hp := eq_true hp
    cases p
    · rcases hq with rfl | hq
      · rw [callL_code g_bag_Step (by simp)]; simp -implicitDefEqProofs (maxSteps := 4000000) (disch := omega) only [c_bag_Step, r_bag_Step, getDT, go_sem, *] /-A65-/
      · replace hq := eq_true hq
        cases q
        · rw [callL_code g_bag_Step (by simp)]; simp -implicitDefEqProofs (maxSteps := 4000000) (disch := omega) only [c_bag_Step, r_bag_Step, getDT, go_sem, *] /-A66-/
        · rw [callL_code g_bag_Step (by simp)]; simp -implicitDefEqProofs (maxSteps := 4000000) (disch := omega) only [c_bag_Step, r_bag_Step, getDT, go_sem, *] /-A67-/
    · rcases hq with rfl | hq
      · rw [callL_code g_bag_Step (by simp)]; simp -implicitDefEqProofs (maxSteps := 4000000) (disch := omega) only [c_bag_Step, r_bag_Step, getDT, go_sem, *] /-A68-/
      · replace hq := eq_true hq
        cases q
        · rw [callL_code g_bag_Step (by simp)]; simp -implicitDefEqProofs (maxSteps := 4000000) (disch := omega) only [c_bag_Step, r_bag_Step, getDT, go_sem, *] /-A69-/
        · rw [callL_code g_bag_Step (by simp)]; simp -implicitDefEqProofs (maxSteps := 4000000) (disch := omega) only [c_bag_Step, r_bag_Step, getDT, go_sem, *] /-A70-/
end Go.Proofs.Ytbkhijigkmhhkaa

namespace Go.Proofs.Ytbkhijigkmhhkaa
open Go Go.Sim
set_option linter.unusedSimpArgs false
set_option linter.unusedVariables false
set_option maxHeartbeats 10000000
set_option maxRecDepth 40000
def eachB (b : Bag) (chg : Item → Grant → Option Item) (gs : List Grant) : Option Bag := if (eachF chg [] gs b.l).1 = 2 then some ⟨b.limit, b.now, b.epoch, (eachF chg [] gs b.l).2⟩ else none
def sendK (b : Bag) (v : Event) : Option Bag :=
  if v.err = 3 ∨ v.err = 6 then some b else if v.err ≠ 0 then none else
  match v.l with
  | [g] => if g.gen ≠ 0 then none else if 0 ≤ bIx b.l g.id then none else some ⟨b.limit, b.now, b.epoch, insB b.l g⟩
  | _ => none
def setI (b : Bag) (g : Grant) (f : Item → Item) : Bag := ⟨b.limit, b.now, b.epoch, b.l.set (bIx b.l g.id).toNat (f (b.l.getD (bIx b.l g.id).toNat zItem))⟩
def settleK (b : Bag) (v : Event) : Option Bag :=
  match v.l with
  | [] => if v.err = 5 then some b else none
  | [g] =>
    if bVal b g = true then
      if v.err ≠ 0 then (if v.err = 6 ∧ v.kind = 6 then some b else none)
      else if v.kind = 4 then some (setI b g goneI)
      else if v.kind = 5 then some (setI b g (relI b.limit))
      else if b.now ≤ g.deadline then some (setI b g (dlI g.deadline)) else none
    else if v.err = 5 then some b else none
  | _ => none
def stepK (b : Bag) (v : Event) : Option Bag :=
  if v.kind = 1 then (if v.err ≠ 0 ∨ v.now < b.now then none else some ⟨b.limit, v.now, b.epoch, b.l⟩)
  else if v.kind = 2 then sendK b v
  else if v.kind = 3 then (if v.err = 0 then eachB b (recvC b.limit b.now) v.l else if v.err = 6 then some b else none)
  else if v.kind = 4 ∨ v.kind = 5 ∨ v.kind = 6 then settleK b v
  else if v.kind = 7 then (if v.err = 0 then (if v.epoch = b.epoch + 1 then some ⟨b.limit, b.now, v.epoch, b.l.map goneI⟩ else none) else if v.err = 6 then some b else none)
  else if v.kind = 8 then (if v.err = 0 ∧ v.ready = cntS 1 b.l ∧ v.leased = cntS 2 b.l then some b else none)
  else if v.kind = 9 then (if v.err = 0 then eachB b redrC v.l else if v.err = 3 then some b else none)
  else (if v.err = 0 then eachB b (exprC b.limit b.now) v.l else none)
def stepD (b : Bag) (v : Event) : Bag × Int :=
  if ¬ (1 ≤ v.kind ∧ v.kind ≤ 10) then (zBag, 9) else if lateB b v = true then (zBag, 7) else match stepK b v with | some c => (c, 0) | none => (zBag, 7)
structure pB (b : Bag) : Prop where
  lim : b.limit ≤ 1000
  ep0 : 0 ≤ b.epoch
  ep1 : b.epoch ≤ 4294967000
  len : b.l.length + 1 ≤ 4294967296
  its : ∀ x ∈ b.l, pI x
structure pV (v : Event) : Prop where
  len : v.l.length ≤ 4294967296
  gs : ∀ g ∈ v.l, pG g
  ep0 : -4294967296 ≤ v.epoch
  ep1 : v.epoch ≤ 4294967296
theorem bVal_ix {b : Bag} {g : Grant} (h : bVal b g = true) : ∃ i : Nat, ∃ hi : i < b.l.length, bIx b.l g.id = i ∧ b.l.getD (bIx b.l g.id).toNat zItem = b.l[i] := by
  unfold bVal at h
  rcases bIx_cases b.l g.id with ⟨_, h2⟩ | ⟨i, hi, h1, _⟩
  · rw [h2] at h; cases h
  · refine ⟨i, hi, h1, ?_⟩
    rw [h1, Int.toNat_natCast]; simp [List.getD_eq_getElem?_getD, hi]
theorem bstepN (b : Bag) (v : Event) (hk : 1 ≤ v.kind ∧ v.kind ≤ 10) (hl : lateB b v = false) (h0 : b.l ≠ []) (hb : pB b) (hv : pV v) : callL G N_bag_Step [.d (eBag b), .d (eEvent v)] [] = some (.d (match stepK b v with | some c => .tup [eBag c, .int .i64 0] | none => .tup [eBag zBag, .int .i64 7]), []) := by
  obtain ⟨n, a, e, l⟩ := b
  obtain ⟨b1, b2, b3, b4, b5⟩ := hb
  obtain ⟨v1, v2, v3, v4⟩ := hv
  simp only at b1 b2 b3 b4 b5 h0
  have hL : l.length ≤ 4294967296 := by omega
  have no := fun z h => stepN_no ⟨n, a, e, l⟩ v hk v1 hl h0 hL z h
  have yes := fun a' e' z h => stepN_yes ⟨n, a, e, l⟩ v hk v1 hl h0 hL a' e' z h
  have snd := fun z h => stepN_send ⟨n, a, e, l⟩ v hk v1 hl h0 hL z h
  simp only at no yes snd
  unfold stepK
  by_cases k1 : v.kind = 1
  · rw [if_pos k1]
    have hcf : cfn v.kind = N_bag_tick := by rw [k1]; rfl
    by_cases h : v.err ≠ 0 ∨ v.now < a
    · rw [if_pos h]
      exact no l (carry_n _ _ _ _ _ _ _ _ _ _ (by omega) (by rw [hcf]; exact tick_no n a e l v h))
    · rw [if_neg h]
      exact yes v.now e l (carry_n _ _ _ _ _ _ _ _ _ _ (by omega) (by rw [hcf]; exact tick_ok n a e l v h))
  rw [if_neg k1]
  by_cases k2 : v.kind = 2
  · rw [if_pos k2]
    have hcf : cfn v.kind = N_bag_send := by rw [k2]; rfl
    unfold sendK
    by_cases h : v.err = 3 ∨ v.err = 6
    · rw [if_pos h]
      exact yes a e l (carry_n _ _ _ _ _ _ _ _ _ _ (by omega) (by rw [hcf]; exact send_t n a e l v h))
    rw [if_neg h]
    have bad : badS v → callL G N_bag_Step [.d (eBag ⟨n, a, e, l⟩), .d (eEvent v)] [] = some (.d (.tup [eBag zBag, .int .i64 7]), []) := fun hbad => no l (carry_n _ _ _ _ _ _ _ _ _ _ (by omega) (by rw [hcf]; exact send_f n a e l v h hbad))
    by_cases he : v.err = 0
    · rw [if_neg (by simpa using he)]
      rcases hvl : v.l with _ | ⟨g, _ | ⟨g', r⟩⟩
      · exact bad (.inr (by rintro ⟨g, hg, _⟩; rw [hvl] at hg; cases hg))
      · simp only
        by_cases hg : g.gen = 0
        · rw [if_neg (by simpa using hg)]
          by_cases hx : 0 ≤ bIx l g.id
          · rw [if_pos hx]
            obtain ⟨i, hi⟩ : ∃ i : Nat, bIx l g.id = i := ⟨(bIx l g.id).toNat, by omega⟩
            exact no l (carry_n _ _ _ _ _ _ _ _ _ _ (by omega) (by rw [hcf]; exact send_dup n a e l v g hL he hvl hg i hi))
          · rw [if_neg hx]
            exact snd _ (carry_s n a e l _ v k2 (send_ok n a e l v g h0 b4 he hvl hg ((idxI_m1 l _).1 (by unfold bIx at hx; omega))))
        · rw [if_pos hg]
          exact bad (.inr (by rintro ⟨g', hg', h2⟩; rw [hvl] at hg'; cases hg'; exact hg h2))
      · exact bad (.inr (by rintro ⟨g, hg, _⟩; rw [hvl] at hg; cases hg))
    · rw [if_pos he]
      exact bad (.inl he)
  rw [if_neg k2]
  by_cases k3 : v.kind = 3
  · rw [if_pos k3]
    have hcf : cfn v.kind = N_bag_receive := by rw [k3]; rfl
    by_cases he : v.err = 0
    · rw [if_pos he]
      have h := receive_ok n a e l v b1 v1 v2 hL b5 he
      unfold eachB
      simp only
      by_cases hr : (eachF (recvC n a) [] v.l l).1 = 2
      · rw [if_pos hr]
        rw [decide_eq_true hr] at h
        exact yes a e _ (carry_n _ _ _ _ _ _ _ _ _ _ (by omega) (by rw [hcf]; exact h))
      · rw [if_neg hr]
        rw [decide_eq_false hr] at h
        exact no _ (carry_n _ _ _ _ _ _ _ _ _ _ (by omega) (by rw [hcf]; exact h))
    · rw [if_neg he]
      have h := receive_no n a e l v he
      by_cases h6 : v.err = 6
      · rw [if_pos h6]
        rw [decide_eq_true h6] at h
        exact yes a e l (carry_n _ _ _ _ _ _ _ _ _ _ (by omega) (by rw [hcf]; exact h))
      · rw [if_neg h6]
        rw [decide_eq_false h6] at h
        exact no l (carry_n _ _ _ _ _ _ _ _ _ _ (by omega) (by rw [hcf]; exact h))
  rw [if_neg k3]
  by_cases k4 : v.kind = 4 ∨ v.kind = 5 ∨ v.kind = 6
  · rw [if_pos k4]
    have hcf : cfn v.kind = N_bag_settle := by rcases k4 with k | k | k <;> rw [k] <;> rfl
    have go : ∀ (c : Prop) [Decidable c], callL G N_bag_settle [.ref 1000000 0 0, .d (eEvent v)] (bN n a e l) = some (.d (.bool (decide c)), bN n a e l) → callL G N_bag_Step [.d (eBag ⟨n, a, e, l⟩), .d (eEvent v)] [] = some (.d (match (if c then some ⟨n, a, e, l⟩ else none : Option Bag) with | some c => .tup [eBag c, .int .i64 0] | none => .tup [eBag zBag, .int .i64 7]), []) := by
      intro c _ h
      by_cases hc : c
      · rw [if_pos hc]
        rw [decide_eq_true hc] at h
        exact yes a e l (carry_n _ _ _ _ _ _ _ _ _ _ (by omega) (by rw [hcf]; exact h))
      · rw [if_neg hc]
        rw [decide_eq_false hc] at h
        exact no l (carry_n _ _ _ _ _ _ _ _ _ _ (by omega) (by rw [hcf]; exact h))
    unfold settleK
    rcases hvl : v.l with _ | ⟨g, _ | ⟨g', r⟩⟩
    · exact go _ (set_none n a e l v hL hvl)
    · simp only
      by_cases hg : bVal ⟨n, a, e, l⟩ g = true
      · rw [if_pos hg]
        obtain ⟨i, hi, hx, hgd⟩ := bVal_ix hg
        simp only at hi hx hgd
        by_cases he : v.err = 0
        · rw [if_neg (by simpa using he)]
          by_cases kk4 : v.kind = 4
          · rw [if_pos kk4]
            unfold setI
            simp only
            rw [hgd, hx, Int.toNat_natCast]
            exact yes a e _ (carry_n _ _ _ _ _ _ _ _ _ _ (by omega) (by rw [hcf]; exact set_ack n a e l v g i hi hL hvl hg he hx kk4))
          rw [if_neg kk4]
          by_cases kk5 : v.kind = 5
          · rw [if_pos kk5]
            unfold setI
            simp only
            rw [hgd, hx, Int.toNat_natCast]
            exact yes a e _ (carry_n _ _ _ _ _ _ _ _ _ _ (by omega) (by rw [hcf]; exact set_nack n a e l v g i hi hL hvl hg he hx kk5))
          rw [if_neg kk5]
          by_cases hd : a ≤ g.deadline
          · rw [if_pos hd]
            unfold setI
            simp only
            rw [hgd, hx, Int.toNat_natCast]
            exact yes a e _ (carry_n _ _ _ _ _ _ _ _ _ _ (by omega) (by rw [hcf]; exact set_chg n a e l v g i hi hL hvl hg he hx (by omega) hd))
          · rw [if_neg hd]
            exact no l (carry_n _ _ _ _ _ _ _ _ _ _ (by omega) (by rw [hcf]; exact set_chg_no n a e l v g i hi hL hvl hg he hx (by omega) hd))
        · rw [if_pos he]
          refine go _ ?_
          rw [Bool.decide_and]
          exact set_err n a e l v g hL hvl hg he
      · rw [if_neg hg]
        exact go _ (set_inv n a e l v g hL hvl (by simpa using hg))
    · exact no l (carry_n _ _ _ _ _ _ _ _ _ _ (by omega) (by rw [hcf]; exact set_many n a e l v g g' r hL hvl))
  rw [if_neg k4]
  by_cases k7 : v.kind = 7
  · rw [if_pos k7]
    have hcf : cfn v.kind = N_bag_purge := by rw [k7]; rfl
    by_cases he : v.err = 0
    · rw [if_pos he]
      by_cases hp : v.epoch = e + 1
      · rw [if_pos hp]
        exact yes a v.epoch _ (carry_n _ _ _ _ _ _ _ _ _ _ (by omega) (by rw [hcf]; exact purge_ok n a e l v hL he hp b2 b3))
      · rw [if_neg hp]
        have h := purge_no n a e l v (fun h => hp h.2) b2 b3 v3 v4
        rw [decide_eq_false (by omega)] at h
        exact no l (carry_n _ _ _ _ _ _ _ _ _ _ (by omega) (by rw [hcf]; exact h))
    · rw [if_neg he]
      have h := purge_no n a e l v (fun h => he h.1) b2 b3 v3 v4
      by_cases h6 : v.err = 6
      · rw [if_pos h6]
        rw [decide_eq_true h6] at h
        exact yes a e l (carry_n _ _ _ _ _ _ _ _ _ _ (by omega) (by rw [hcf]; exact h))
      · rw [if_neg h6]
        rw [decide_eq_false h6] at h
        exact no l (carry_n _ _ _ _ _ _ _ _ _ _ (by omega) (by rw [hcf]; exact h))
  rw [if_neg k7]
  by_cases k8 : v.kind = 8
  · rw [if_pos k8]
    have h := carry_c n a e l v k8 hL
    simp only
    by_cases hc : v.err = 0 ∧ v.ready = cntS 1 l ∧ v.leased = cntS 2 l
    · rw [if_pos hc]
      rw [decide_eq_true hc] at h
      exact yes a e l h
    · rw [if_neg hc]
      rw [decide_eq_false hc] at h
      exact no l h
  rw [if_neg k8]
  by_cases k9 : v.kind = 9
  · rw [if_pos k9]
    have hcf : cfn v.kind = N_bag_redrive := by rw [k9]; rfl
    by_cases he : v.err = 0
    · rw [if_pos he]
      have h := redrive_ok n a e l v v1 hL he
      unfold eachB
      simp only
      by_cases hr : (eachF redrC [] v.l l).1 = 2
      · rw [if_pos hr]
        rw [decide_eq_true hr] at h
        exact yes a e _ (carry_n _ _ _ _ _ _ _ _ _ _ (by omega) (by rw [hcf]; exact h))
      · rw [if_neg hr]
        rw [decide_eq_false hr] at h
        exact no _ (carry_n _ _ _ _ _ _ _ _ _ _ (by omega) (by rw [hcf]; exact h))
    · rw [if_neg he]
      have h := redrive_no n a e l v he
      by_cases h6 : v.err = 3
      · rw [if_pos h6]
        rw [decide_eq_true h6] at h
        exact yes a e l (carry_n _ _ _ _ _ _ _ _ _ _ (by omega) (by rw [hcf]; exact h))
      · rw [if_neg h6]
        rw [decide_eq_false h6] at h
        exact no l (carry_n _ _ _ _ _ _ _ _ _ _ (by omega) (by rw [hcf]; exact h))
  rw [if_neg k9]
  have hcf : cfn v.kind = N_bag_expire := by rw [show v.kind = 10 by omega]; rfl
  by_cases he : v.err = 0
  · rw [if_pos he]
    have h := expire_ok n a e l v v1 v2 hL b5 he
    unfold eachB
    simp only
    by_cases hr : (eachF (exprC n a) [] v.l l).1 = 2
    · rw [if_pos hr]
      rw [decide_eq_true hr] at h
      exact yes a e _ (carry_n _ _ _ _ _ _ _ _ _ _ (by omega) (by rw [hcf]; exact h))
    · rw [if_neg hr]
      rw [decide_eq_false hr] at h
      exact no _ (carry_n _ _ _ _ _ _ _ _ _ _ (by omega) (by rw [hcf]; exact h))
  · rw [if_neg he]
    have h := expire_no n a e l v he
    exact no l (carry_n _ _ _ _ _ _ _ _ _ _ (by omega) (by rw [hcf]; exact h))
end Go.Proofs.Ytbkhijigkmhhkaa

namespace Go.Proofs.Ytbkhijigkmhhkaa
open Go Go.Sim
set_option linter.unusedSimpArgs false
set_option linter.unusedVariables false
set_option maxHeartbeats 10000000
set_option maxRecDepth 40000
theorem eachF_nil (chg : Item → Grant → Option Item) (gs : List Grant) : eachF chg [] gs [] = (if gs.isEmpty then 2 else 0, []) := by
  cases gs with
  | nil => rfl
  | cons g gs =>
    unfold eachF
    rw [dif_neg (fun h => absurd h.1 (by show ¬ (0 : Int) ≤ -1; decide))]
    rfl
theorem bstepZ (b : Bag) (v : Event) (hk : 1 ≤ v.kind ∧ v.kind ≤ 10) (hl : lateB b v = false) (h0 : b.l = []) (hb : pB b) (hv : pV v) : callL G N_bag_Step [.d (eBag b), .d (eEvent v)] [] = some (.d (match stepK b v with | some c => .tup [eBag c, .int .i64 0] | none => .tup [eBag zBag, .int .i64 7]), []) := by
  obtain ⟨n, a, e, l⟩ := b
  simp only at h0
  subst h0
  obtain ⟨b1, b2, b3, b4, b5⟩ := hb
  obtain ⟨v1, v2, v3, v4⟩ := hv
  simp only at b1 b2 b3
  have no := fun h => stepZ_no ⟨n, a, e, []⟩ v hk v1 hl rfl h
  have yes := fun a' e' h => stepZ_yes ⟨n, a, e, []⟩ v hk v1 hl rfl a' e' h
  have snd := fun z h => stepZ_send ⟨n, a, e, []⟩ v hk v1 hl rfl z h
  simp only at no yes snd
  have go : v.kind ≠ 8 → ∀ (c : Prop) [Decidable c], callL G (cfn v.kind) [.ref 1000000 0 0, .d (eEvent v)] (bZ n a e) = some (.d (.bool (decide c)), bZ n a e) → callL G N_bag_Step [.d (eBag ⟨n, a, e, []⟩), .d (eEvent v)] [] = some (.d (match (if c then some ⟨n, a, e, []⟩ else none : Option Bag) with | some c => .tup [eBag c, .int .i64 0] | none => .tup [eBag zBag, .int .i64 7]), []) := by
    intro h8 c _ h
    by_cases hc : c
    · rw [if_pos hc]
      rw [decide_eq_true hc] at h
      exact yes a e (carryZ_n _ _ _ _ _ _ _ _ h8 h)
    · rw [if_neg hc]
      rw [decide_eq_false hc] at h
      exact no (carryZ_n _ _ _ _ _ _ _ _ h8 h)
  have hem : v.l.isEmpty = decide (v.l = []) := by cases v.l <;> simp
  have each : ∀ chg, eachB ⟨n, a, e, []⟩ chg v.l = if v.l = [] then some ⟨n, a, e, []⟩ else none := by
    intro chg
    unfold eachB
    simp only [eachF_nil]
    by_cases h : v.l = []
    · rw [if_pos h, h]; rfl
    · have : v.l.isEmpty = false := by rw [hem]; exact decide_eq_false h
      rw [if_neg h, this]; rfl
  unfold stepK
  by_cases k1 : v.kind = 1
  · rw [if_pos k1]
    have hcf : cfn v.kind = N_bag_tick := by rw [k1]; rfl
    by_cases h : v.err ≠ 0 ∨ v.now < a
    · rw [if_pos h]
      exact no (carryZ_n _ _ _ _ _ _ _ _ (by omega) (by rw [hcf]; exact tickZ_no n a e v h))
    · rw [if_neg h]
      exact yes v.now e (carryZ_n _ _ _ _ _ _ _ _ (by omega) (by rw [hcf]; exact tickZ_ok n a e v h))
  rw [if_neg k1]
  by_cases k2 : v.kind = 2
  · rw [if_pos k2]
    have hcf : cfn v.kind = N_bag_send := by rw [k2]; rfl
    unfold sendK
    by_cases h : v.err = 3 ∨ v.err = 6
    · rw [if_pos h]
      exact yes a e (carryZ_n _ _ _ _ _ _ _ _ (by omega) (by rw [hcf]; exact sendZ_t n a e v h))
    rw [if_neg h]
    have bad : badS v → callL G N_bag_Step [.d (eBag ⟨n, a, e, []⟩), .d (eEvent v)] [] = some (.d (.tup [eBag zBag, .int .i64 7]), []) := fun hbad => no (carryZ_n _ _ _ _ _ _ _ _ (by omega) (by rw [hcf]; exact sendZ_f n a e v h hbad))
    by_cases he : v.err = 0
    · rw [if_neg (by simpa using he)]
      rcases hvl : v.l with _ | ⟨g, _ | ⟨g', r⟩⟩
      · exact bad (.inr (by rintro ⟨g, hg, _⟩; rw [hvl] at hg; cases hg))
      · simp only
        by_cases hg : g.gen = 0
        · rw [if_neg (by simpa using hg), if_neg (show ¬ 0 ≤ bIx [] g.id from fun h => absurd h (by show ¬ (0 : Int) ≤ -1; decide))]
          exact snd _ (carryZ_s n a e _ v k2 (sendZ_ok n a e v g he hvl hg))
        · rw [if_pos hg]
          exact bad (.inr (by rintro ⟨g', hg', h2⟩; rw [hvl] at hg'; cases hg'; exact hg h2))
      · exact bad (.inr (by rintro ⟨g, hg, _⟩; rw [hvl] at hg; cases hg))
    · rw [if_pos he]
      exact bad (.inl he)
  rw [if_neg k2]
  by_cases k3 : v.kind = 3
  · rw [if_pos k3]
    have hcf : cfn v.kind = N_bag_receive := by rw [k3]; rfl
    have h := receiveZ n a e v v1
    rw [← hcf] at h
    by_cases he : v.err = 0
    · rw [if_pos he, each]
      rw [if_pos he, hem] at h
      exact go (by omega) _ h
    · rw [if_neg he] at h ⊢
      exact go (by omega) _ h
  rw [if_neg k3]
  by_cases k4 : v.kind = 4 ∨ v.kind = 5 ∨ v.kind = 6
  · rw [if_pos k4]
    have hcf : cfn v.kind = N_bag_settle := by rcases k4 with k | k | k <;> rw [k] <;> rfl
    have h := setZ n a e v
    rw [← hcf, ← Bool.decide_and] at h
    have h2 := go (by omega) _ h
    unfold settleK
    rcases hvl : v.l with _ | ⟨g, _ | ⟨g', r⟩⟩
    · rw [hvl] at h2; simpa using h2
    · simp only
      rw [if_neg (show ¬ bVal ⟨n, a, e, []⟩ g = true by rw [show bVal ⟨n, a, e, []⟩ g = false from rfl]; decide)]
      rw [hvl] at h2; simpa using h2
    · rw [hvl] at h2; simpa using h2
  rw [if_neg k4]
  by_cases k7 : v.kind = 7
  · rw [if_pos k7]
    have hcf : cfn v.kind = N_bag_purge := by rw [k7]; rfl
    by_cases he : v.err = 0
    · rw [if_pos he]
      by_cases hp : v.epoch = e + 1
      · rw [if_pos hp]
        exact yes a v.epoch (carryZ_n _ _ _ _ _ _ _ _ (by omega) (by rw [hcf]; exact purgeZ_ok n a e v he hp b2 b3))
      · rw [if_neg hp]
        have h := purgeZ_no n a e v (fun h => hp h.2) b2 b3 v3 v4
        rw [decide_eq_false (by omega)] at h
        exact no (carryZ_n _ _ _ _ _ _ _ _ (by omega) (by rw [hcf]; exact h))
    · rw [if_neg he]
      have h := purgeZ_no n a e v (fun h => he h.1) b2 b3 v3 v4
      rw [← hcf] at h
      exact go (by omega) _ h
  rw [if_neg k7]
  by_cases k8 : v.kind = 8
  · rw [if_pos k8]
    have h := carryZ_c n a e v k8
    simp only [show ∀ s, cntS s [] = 0 from fun s => rfl, Int.natCast_zero]
    by_cases hc : v.err = 0 ∧ v.ready = 0 ∧ v.leased = 0
    · rw [if_pos hc]
      rw [decide_eq_true hc] at h
      exact yes a e h
    · rw [if_neg hc]
      rw [decide_eq_false hc] at h
      exact no h
  rw [if_neg k8]
  by_cases k9 : v.kind = 9
  · rw [if_pos k9]
    have hcf : cfn v.kind = N_bag_redrive := by rw [k9]; rfl
    have h := redriveZ n a e v v1
    rw [← hcf] at h
    by_cases he : v.err = 0
    · rw [if_pos he, each]
      rw [if_pos he, hem] at h
      exact go (by omega) _ h
    · rw [if_neg he] at h ⊢
      exact go (by omega) _ h
  rw [if_neg k9]
  have hcf : cfn v.kind = N_bag_expire := by rw [show v.kind = 10 by omega]; rfl
  have h := expireZ n a e v v1
  rw [← hcf] at h
  by_cases he : v.err = 0
  · rw [if_pos he, each]
    rw [if_pos he, hem] at h
    exact go (by omega) _ h
  · rw [if_neg he] at h ⊢
    exact go (by omega) False (by simpa using h)
theorem bstep_ok (b : Bag) (v : Event) (hb : pB b) (hv : pV v) : callL G N_bag_Step [.d (eBag b), .d (eEvent v)] [] = some (.d (.tup [eBag (stepD b v).1, .int .i64 (stepD b v).2]), []) := by
  unfold stepD
  by_cases hk : 1 ≤ v.kind ∧ v.kind ≤ 10
  · rw [if_neg (by simpa using hk)]
    by_cases hl : lateB b v = true
    · rw [if_pos hl]; exact step_late b v hk hv.len hl
    · rw [if_neg hl]
      have h : callL G N_bag_Step [.d (eBag b), .d (eEvent v)] [] = some (.d (match stepK b v with | some c => .tup [eBag c, .int .i64 0] | none => .tup [eBag zBag, .int .i64 7]), []) := by
        by_cases h0 : b.l = []
        · exact bstepZ b v hk (by simpa using hl) h0 hb hv
        · exact bstepN b v hk (by simpa using hl) h0 hb hv
      rw [h]
      cases stepK b v <;> rfl
  · rw [if_pos hk]; exact step_kind b v hk
end Go.Proofs.Ytbkhijigkmhhkaa

namespace Go.Proofs.Ytbkhijigkmhhkaa
open Go Go.Sim
set_option linter.unusedSimpArgs false
set_option linter.unusedVariables false
set_option maxHeartbeats 10000000
set_option maxRecDepth 40000
theorem rset_ok (b : Bag) (x : Item) (i : Nat) (hi : i < b.l.length) (hx : bIx b.l x.id = i) (hL : b.l.length ≤ 4294967296) : callL G N_ref31_set [.d (eBag b), .d (eItem x)] [] = some (.d (eBag ⟨b.limit, b.now, b.epoch, b.l.set i x⟩), []) := by
  have hd := r31index_ok b x.id hL
  rw [hx] at hd
  clear hx
  have hne : ¬ b.l.length = 0 := by omega
  simp only [eBag, List.map_set] at hd ⊢
  rw [callL_code g_ref31_set (by simp)]; simp -implicitDefEqProofs (maxSteps := 4000000) (disch := omega) only [c_ref31_set, r_ref31_set, allSize_Item, eItem, getDT, go_sem, *] /-A0-/
theorem rrel_ok (b : Bag) (x : Item) : callL G N_ref31_released [.d (eBag b), .d (eItem x)] [] = some (.d (eItem (relI b.limit x)), []) := by
  unfold relI
  by_cases h : x.count ≥ b.limit
  · simp only [h, if_true]
    simp only [eBag, eItem]
    rw [callL_code g_ref31_released (by simp)]; simp -implicitDefEqProofs (maxSteps := 4000000) (disch := omega) only [c_ref31_released, r_ref31_released, getDT, go_sem, *] /-A1-/
  · simp only [h, if_false]
    simp only [eBag, eItem]
    rw [callL_code g_ref31_released (by simp)]; simp -implicitDefEqProofs (maxSteps := 4000000) (disch := omega) only [c_ref31_released, r_ref31_released, getDT, go_sem, *] /-A2-/
def settleR (b : Bag) (v : Event) : Bag × Bool := match settleK b v with | some c => (c, true) | none => (b, false)
theorem rsettle_none (b : Bag) (v : Event) (hv : v.l = []) : callL G N_ref31_settle [.d (eBag b), .d (eEvent v)] [] = some (.d (.tup [eBag b, .bool (decide (v.err = 5))]), []) := by
  simp only [eBag, eEvent, hv, List.map_nil]
  by_cases h : v.err = 5
  · simp only [h, decide_true]
    rw [callL_code g_ref31_settle (by simp)]; simp -implicitDefEqProofs (maxSteps := 4000000) (disch := omega) only [c_ref31_settle, r_ref31_settle, getDT, go_sem, *] /-A3-/
  · simp only [h, decide_false]
    rw [callL_code g_ref31_settle (by simp)]; simp -implicitDefEqProofs (maxSteps := 4000000) (disch := omega) only [c_ref31_settle, r_ref31_settle, getDT, go_sem, *] /-A4-/
theorem rsettle_many (b : Bag) (v : Event) (g h : Grant) (r : List Grant) (hv : v.l = g :: h :: r) : callL G N_ref31_settle [.d (eBag b), .d (eEvent v)] [] = some (.d (.tup [eBag b, .bool false]), []) := by
  simp only [eBag, eEvent, hv, List.map_cons]
  by_cases h : v.err = 5
  · simp only [h]
    rw [callL_code g_ref31_settle (by simp)]; simp -implicitDefEqProofs (maxSteps := 4000000) (disch := omega) only [c_ref31_settle, r_ref31_settle, getDT, go_sem, *] /-A5-/
  · rw [callL_code g_ref31_settle (by simp)]; simp -implicitDefEqProofs (maxSteps := 4000000) (disch := omega) only [c_ref31_settle, r_ref31_settle, getDT, go_sem, *] /-A6-/
theorem rsettle_inv (b : Bag) (v : Event) (g : Grant) (hL : b.l.length ≤ 4294967296) (hv : v.l = [g]) (hg : bVal b g = false) : callL G N_ref31_settle [.d (eBag b), .d (eEvent v)] [] = some (.d (.tup [eBag b, .bool (decide (v.err = 5))]), []) := by
  have hb := r31valid_ok b g hL
  rw [hg] at hb
  clear hg
  simp only [eBag, eEvent, eGrant, hv, List.map_cons, List.map_nil] at hb ⊢
  by_cases h : v.err = 5
  · simp only [h, decide_true]
    rw [callL_code g_ref31_settle (by simp)]; simp -implicitDefEqProofs (maxSteps := 4000000) (disch := omega) only [c_ref31_settle, r_ref31_settle, getDT, go_sem, *] /-A7-/
  · simp only [h, decide_false]
    rw [callL_code g_ref31_settle (by simp)]; simp -implicitDefEqProofs (maxSteps := 4000000) (disch := omega) only [c_ref31_settle, r_ref31_settle, getDT, go_sem, *] /-A8-/
theorem rsettle_err (b : Bag) (v : Event) (g : Grant) (hL : b.l.length ≤ 4294967296) (hv : v.l = [g]) (hg : bVal b g = true) (he : v.err ≠ 0) : callL G N_ref31_settle [.d (eBag b), .d (eEvent v)] [] = some (.d (.tup [eBag b, .bool (decide (v.err = 6) && decide (v.kind = 6))]), []) := by
  have hb := r31valid_ok b g hL
  rw [hg] at hb
  clear hg
  simp only [eBag, eEvent, eGrant, hv, List.map_cons, List.map_nil] at hb ⊢
  by_cases h : v.err = 5
  · simp only [h, show ¬ ((5 : Int) = 6) by decide, decide_false, Bool.false_and]
    rw [callL_code g_ref31_settle (by simp)]; simp -implicitDefEqProofs (maxSteps := 4000000) (disch := omega) only [c_ref31_settle, r_ref31_settle, getDT, go_sem, *] /-A9-/
  · by_cases h6 : v.err = 6
    · simp only [h6, decide_true, Bool.true_and]
      rw [callL_code g_ref31_settle (by simp)]; simp -implicitDefEqProofs (maxSteps := 4000000) (disch := omega) only [c_ref31_settle, r_ref31_settle, getDT, go_sem, *] /-A10-/
    · simp only [h6, decide_false, Bool.false_and]
      rw [callL_code g_ref31_settle (by simp)]; simp -implicitDefEqProofs (maxSteps := 4000000) (disch := omega) only [c_ref31_settle, r_ref31_settle, getDT, go_sem, *] /-A11-/
theorem bFD_ix {b : Bag} {id : Int} {i : Nat} (hi : i < b.l.length) (hx : bIx b.l id = i) : bFD b id = .tup [eItem b.l[i], .bool true] := by
  unfold bFD
  obtain ⟨h, h2⟩ := bF_ix hx
  rw [h2]
theorem ix_id {l : List Item} {id : Int} {i : Nat} (hi : i < l.length) (hx : bIx l id = i) : l[i].id = id := by
  obtain ⟨h, h1, _⟩ := idxI_some hx
  simpa using h1
theorem rsettle_ack (b : Bag) (v : Event) (g : Grant) (i : Nat) (hi : i < b.l.length) (hL : b.l.length ≤ 4294967296) (hv : v.l = [g]) (hg : bVal b g = true) (he : v.err = 0) (hx : bIx b.l g.id = i) (hk : v.kind = 4) : callL G N_ref31_settle [.d (eBag b), .d (eEvent v)] [] = some (.d (.tup [eBag ⟨b.limit, b.now, b.epoch, b.l.set i (goneI b.l[i])⟩, .bool true]), []) := by
  have hb := r31valid_ok b g hL
  rw [hg] at hb
  have hf := r31find_ok b g.id hL
  rw [bFD_ix hi hx] at hf
  have hs := rset_ok b (goneI b.l[i]) i hi (by rw [show (goneI b.l[i]).id = b.l[i].id from rfl, ix_id hi hx, hx]) hL
  clear hg hx
  simp only [eBag, eEvent, eGrant, hv, List.map_cons, List.map_nil, goneI, eItem] at hb hf hs ⊢
  rw [callL_code g_ref31_settle (by simp)]; simp -implicitDefEqProofs (maxSteps := 4000000) (disch := omega) only [c_ref31_settle, r_ref31_settle, getDT, go_sem, *] /-A12-/
theorem rsettle_nack (b : Bag) (v : Event) (g : Grant) (i : Nat) (hi : i < b.l.length) (hL : b.l.length ≤ 4294967296) (hv : v.l = [g]) (hg : bVal b g = true) (he : v.err = 0) (hx : bIx b.l g.id = i) (hk : v.kind = 5) : callL G N_ref31_settle [.d (eBag b), .d (eEvent v)] [] = some (.d (.tup [eBag ⟨b.limit, b.now, b.epoch, b.l.set i (relI b.limit b.l[i])⟩, .bool true]), []) := by
  have hb := r31valid_ok b g hL
  rw [hg] at hb
  have hf := r31find_ok b g.id hL
  rw [bFD_ix hi hx] at hf
  have hr := rrel_ok b b.l[i]
  have hs := rset_ok b (relI b.limit b.l[i]) i hi (by rw [show (relI b.limit b.l[i]).id = b.l[i].id from rfl, ix_id hi hx, hx]) hL
  clear hg hx
  generalize relI b.limit b.l[i] = y at *
  generalize b.l[i] = x at *
  simp only [eBag, eEvent, eGrant, hv, List.map_cons, List.map_nil, eItem] at hb hf hs hr ⊢
  rw [callL_code g_ref31_settle (by simp)]; simp -implicitDefEqProofs (maxSteps := 4000000) (disch := omega) only [c_ref31_settle, r_ref31_settle, getDT, go_sem, *] /-A13-/
theorem rsettle_chg (b : Bag) (v : Event) (g : Grant) (i : Nat) (hi : i < b.l.length) (hL : b.l.length ≤ 4294967296) (hv : v.l = [g]) (hg : bVal b g = true) (he : v.err = 0) (hx : bIx b.l g.id = i) (hk : v.kind = 6) (hd : b.now ≤ g.deadline) : callL G N_ref31_settle [.d (eBag b), .d (eEvent v)] [] = some (.d (.tup [eBag ⟨b.limit, b.now, b.epoch, b.l.set i (dlI g.deadline b.l[i])⟩, .bool true]), []) := by
  have hb := r31valid_ok b g hL
  rw [hg] at hb
  have hf := r31find_ok b g.id hL
  rw [bFD_ix hi hx] at hf
  have hs := rset_ok b (dlI g.deadline b.l[i]) i hi (by rw [show (dlI g.deadline b.l[i]).id = b.l[i].id from rfl, ix_id hi hx, hx]) hL
  clear hg hx
  simp only [eBag, eEvent, eGrant, hv, List.map_cons, List.map_nil, dlI, eItem] at hb hf hs ⊢
  rw [callL_code g_ref31_settle (by simp)]; simp -implicitDefEqProofs (maxSteps := 4000000) (disch := omega) only [c_ref31_settle, r_ref31_settle, getDT, go_sem, *] /-A14-/
theorem rsettle_chg_no (b : Bag) (v : Event) (g : Grant) (i : Nat) (hi : i < b.l.length) (hL : b.l.length ≤ 4294967296) (hv : v.l = [g]) (hg : bVal b g = true) (he : v.err = 0) (hx : bIx b.l g.id = i) (hk : v.kind = 6) (hd : ¬ b.now ≤ g.deadline) : callL G N_ref31_settle [.d (eBag b), .d (eEvent v)] [] = some (.d (.tup [eBag b, .bool false]), []) := by
  have hb := r31valid_ok b g hL
  rw [hg] at hb
  have hf := r31find_ok b g.id hL
  rw [bFD_ix hi hx] at hf
  clear hg hx
  simp only [eBag, eEvent, eGrant, hv, List.map_cons, List.map_nil, eItem] at hb hf ⊢
  rw [callL_code g_ref31_settle (by simp)]; simp -implicitDefEqProofs (maxSteps := 4000000) (disch := omega) only [c_ref31_settle, r_ref31_settle, getDT, go_sem, *] /-A15-/
end Go.Proofs.Ytbkhijigkmhhkaa

namespace Go.Proofs.Ytbkhijigkmhhkaa
open Go Go.Sim
set_option linter.unusedSimpArgs false
set_option linter.unusedVariables false
set_option maxHeartbeats 10000000
set_option maxRecDepth 40000
theorem bIx_map (l : List Item) (id : Int) : bIx l id = idxI (fun x => decide (x = id)) (l.map (·.id)) := by
  unfold bIx idxI
  rw [List.findIdx?_map]
  rfl
theorem bIx_set {l : List Item} {i : Nat} (hi : i < l.length) {y : Item} (hy : y.id = l[i].id) (id : Int) : bIx (l.set i y) id = bIx l id := by
  rw [bIx_map, bIx_map]
  congr 1
  refine List.ext_getElem (by simp) fun j h1 h2 => ?_
  simp only [List.getElem_map, List.getElem_set]
  split
  · rename_i e; subst e; exact hy
  · rfl
def zB (o : Nat) : Nat × Go.Sim.Obj := (o, .row [.agg [.d (.int .i64 0), .d (.int .i64 0), .d (.int .i64 0), .xsl []]])
def posR (l : List Item) (id : Int) : Nat := match l.findIdx? (fun x => decide (¬ x.id < id)) with | some i => i | none => l.length
theorem posR_le (l : List Item) (id : Int) : posR l id ≤ l.length := by
  unfold posR
  split
  · rename_i i h; have := (List.findIdx?_eq_some_iff_getElem.1 h).1; omega
  · exact Nat.le_refl _
theorem rsend_loop (b : Bag) (v : Event) (g : Grant) (hv : v.l = [g]) (hL : b.l.length ≤ 4294967296) : loopL G [] l_ref31_send_0 ⟨[(2, .ref 2 0 0), (3, .ref 3 0 0), (4, .ref 4 0 0), (6, .d (.int .i64 0))], [(2, .row [.d (eBag b)]), (3, .row [.d (eEvent v)]), zB 4]⟩ = some (.exit 0, ⟨[(2, .ref 2 0 0), (3, .ref 3 0 0), (4, .ref 4 0 0), (6, .d (.int .i64 (posR b.l g.id)))], [(2, .row [.d (eBag b)]), (3, .row [.d (eEvent v)]), zB 4]⟩) := by
  have hl := loop_find (G := G) (x := l_ref31_send_0) (ks := []) b.l.length (atB b.l fun x => decide (¬ x.id < g.id)) (fun k => ⟨[(2, .ref 2 0 0), (3, .ref 3 0 0), (4, .ref 4 0 0), (6, .d (.int .i64 k))], [(2, .row [.d (eBag b)]), (3, .row [.d (eEvent v)]), zB 4]⟩) (fun k => (.exit 0, ⟨[(2, .ref 2 0 0), (3, .ref 3 0 0), (4, .ref 4 0 0), (6, .d (.int .i64 k))], [(2, .row [.d (eBag b)]), (3, .row [.d (eEvent v)]), zB 4]⟩)) (.exit 0, ⟨[(2, .ref 2 0 0), (3, .ref 3 0 0), (4, .ref 4 0 0), (6, .d (.int .i64 b.l.length))], [(2, .row [.d (eBag b)]), (3, .row [.d (eEvent v)]), zB 4]⟩) (fun k hk L => by
    simp only [l_ref31_send_0]
    by_cases h0 : k < b.l.length
    · simp only [h0, if_true, atB_at h0]
      by_cases h1 : b.l[k].id < g.id
      · simp only [h1, not_true_eq_false, decide_false, Bool.false_eq_true, if_false]
        simp only [eBag, eEvent, hv, eGrant, List.map_cons, List.map_nil, zB]
        simp -implicitDefEqProofs (maxSteps := 4000000) (disch := omega) only [eItem, getDT, go_sem, *] /-A0-/
      · simp only [h1, not_false_eq_true, decide_true, if_true]
        simp only [eBag, eEvent, hv, eGrant, List.map_cons, List.map_nil, zB]
        simp -implicitDefEqProofs (maxSteps := 4000000) (disch := omega) only [eItem, getDT, go_sem, *] /-A1-/
    · have : k = b.l.length := by omega
      simp only [h0, if_false, this]
      simp only [eBag, eEvent, hv, eGrant, List.map_cons, List.map_nil, zB]
      simp -implicitDefEqProofs (maxSteps := 4000000) (disch := omega) only [getDT, go_sem, *] /-A2-/)
  rw [findR_idx] at hl
  unfold posR
  rw [Int.natCast_zero] at hl
  rw [hl]
  cases b.l.findIdx? (fun x => decide (¬ x.id < g.id)) <;> rfl
theorem rsend_no (b : Bag) (v : Event) (he : v.err ≠ 0) : callL G N_ref31_send [.d (eBag b), .d (eEvent v)] [] = some (.d (.tup [eBag b, .bool (decide (v.err = 3 ∨ v.err = 6))]), []) := by
  simp only [eBag, eEvent]
  by_cases h3 : v.err = 3
  · rw [decide_eq_true (.inl h3)]
    rw [callL_code g_ref31_send (by simp)]; simp -implicitDefEqProofs (maxSteps := 4000000) (disch := omega) only [c_ref31_send, r_ref31_send, getDT, go_sem, *] /-A3-/
  · by_cases h6 : v.err = 6
    · rw [decide_eq_true (.inr h6)]
      rw [callL_code g_ref31_send (by simp)]; simp -implicitDefEqProofs (maxSteps := 4000000) (disch := omega) only [c_ref31_send, r_ref31_send, getDT, go_sem, *] /-A4-/
    · rw [decide_eq_false (by omega)]
      rw [callL_code g_ref31_send (by simp)]; simp -implicitDefEqProofs (maxSteps := 4000000) (disch := omega) only [c_ref31_send, r_ref31_send, getDT, go_sem, *] /-A5-/
theorem rsend_bad (b : Bag) (v : Event) (he : v.err = 0) (hb : badS v) : callL G N_ref31_send [.d (eBag b), .d (eEvent v)] [] = some (.d (.tup [eBag b, .bool false]), []) := by
  simp only [eBag, eEvent]
  rcases badS_cases hb with h | ⟨_, hv⟩ | ⟨_, g, hv, hg⟩ | ⟨_, g, h, r, hv⟩
  · exact absurd he h
  · clear hb
    simp only [hv, List.map_nil]
    rw [callL_code g_ref31_send (by simp)]; simp -implicitDefEqProofs (maxSteps := 4000000) (disch := omega) only [c_ref31_send, r_ref31_send, getDT, go_sem, *] /-A6-/
  · clear hb
    simp only [hv, List.map_cons, List.map_nil, eGrant]
    rw [callL_code g_ref31_send (by simp)]; simp -implicitDefEqProofs (maxSteps := 4000000) (disch := omega) only [c_ref31_send, r_ref31_send, getDT, go_sem, *] /-A7-/
  · clear hb
    simp only [hv, List.map_cons]
    rw [callL_code g_ref31_send (by simp)]; simp -implicitDefEqProofs (maxSteps := 4000000) (disch := omega) only [c_ref31_send, r_ref31_send, getDT, go_sem, *] /-A8-/
theorem rsend_dup (b : Bag) (v : Event) (g : Grant) (hL : b.l.length ≤ 4294967296) (he : v.err = 0) (hv : v.l = [g]) (hg : g.gen = 0) (i : Nat) (hx : bIx b.l g.id = i) : callL G N_ref31_send [.d (eBag b), .d (eEvent v)] [] = some (.d (.tup [eBag b, .bool false]), []) := by
  have hd := r31index_ok b g.id hL
  simp only [hx] at hd
  clear hx
  simp only [eBag, eEvent, hv, eGrant, List.map_cons, List.map_nil] at hd ⊢
  rw [callL_code g_ref31_send (by simp)]; simp -implicitDefEqProofs (maxSteps := 4000000) (disch := omega) only [c_ref31_send, r_ref31_send, getDT, go_sem, *] /-A9-/
theorem rsend_ok (b : Bag) (v : Event) (g : Grant) (hL : b.l.length + 1 ≤ 4294967296) (he : v.err = 0) (hv : v.l = [g]) (hg : g.gen = 0) (hx : bIx b.l g.id = -1) : callL G N_ref31_send [.d (eBag b), .d (eEvent v)] [] = some (.d (.tup [eBag ⟨b.limit, b.now, b.epoch, b.l.take (posR b.l g.id) ++ [⟨g.id, 1, 0, 0, g.route, 0⟩] ++ b.l.drop (posR b.l g.id)⟩, .bool true]), []) := by
  have hd := r31index_ok b g.id (by omega)
  have hl := rsend_loop b v g hv (by omega)
  have hp := posR_le b.l g.id
  simp only [hx] at hd
  clear hx
  generalize posR b.l g.id = k at *
  have h1 : allSize 6 (b.l.map eItem) = true := allSize_Item _
  have h2 : allSize 6 ((b.l.map eItem).take k) = true := by rw [← List.map_take]; exact allSize_Item _
  have h3 : allSize 6 ((b.l.map eItem).drop k) = true := by rw [← List.map_drop]; exact allSize_Item _
  simp only [eBag, eEvent, hv, hg, he, eGrant, List.map_cons, List.map_nil, List.map_append, List.map_take, List.map_drop, zB, eItem] at hd hl ⊢
  rw [callL_code g_ref31_send (by simp)]; simp -implicitDefEqProofs (maxSteps := 4000000) (disch := omega) only [c_ref31_send, r_ref31_send, eItem, getDT, go_sem, *] /-A10-/
end Go.Proofs.Ytbkhijigkmhhkaa

namespace Go.Proofs.Ytbkhijigkmhhkaa
open Go Go.Sim
set_option linter.unusedSimpArgs false
set_option linter.unusedVariables false
set_option maxHeartbeats 10000000
set_option maxRecDepth 40000
def eachQ (chg : Item → Grant → Option Item) : List Grant → List Item → Bool × List Item
  | [], l => (true, l)
  | g :: gs, l =>
    if 0 ≤ bIx l g.id then
      match chg (l.getD (bIx l g.id).toNat zItem) g with
      | none => (false, l)
      | some y => eachQ chg gs (l.set (bIx l g.id).toNat y)
    else (false, l)
def KeepId (chg : Item → Grant → Option Item) : Prop := ∀ x g y, chg x g = some y → y.id = x.id
theorem recv_id {n a : Int} : KeepId (recvC n a) := by
  intro x g y h; unfold recvC at h; split at h; cases h; cases h; rfl
theorem expr_id {n a : Int} : KeepId (exprC n a) := by
  intro x g y h; unfold exprC at h; split at h; cases h; cases h; rfl
theorem redr_id : KeepId redrC := by
  intro x g y h; unfold redrC at h; split at h; cases h; cases h; rfl
def rvS (n a e : Int) (v : Event) (t : Nat × List Item) : St := ⟨[(2, .ref 2 0 0), (3, .ref 3 0 0), (4, .ref 4 0 0), (6, .d (.int .i64 t.1))], [(2, .row [.d (eBag ⟨n, a, e, t.2⟩)]), (3, .row [.d (eEvent v)]), zB 4]⟩
def rvR (n a e : Int) (r : Bool × List Item) : AExit × St := if r.1 = true then (.exit 0, ⟨[(2, .ref 2 0 0), (4, .ref 4 0 0)], [(2, .row [.d (eBag ⟨n, a, e, r.2⟩)]), zB 4]⟩) else (.ret, ⟨[(4, .ref 4 0 0), (5, .d (.bool false))], [(4, .row [.d (eBag ⟨n, a, e, r.2⟩)])]⟩)
theorem rrecv_loop (n a e : Int) (hn : n ≤ 1000) (v : Event) (hG : v.l.length ≤ 4294967296) (hgs : ∀ g ∈ v.l, pG g) : ∀ t : Nat × List Item, t.1 ≤ v.l.length ∧ t.2.length ≤ 4294967296 ∧ (∀ x ∈ t.2, pI x) → loopL G [] l_ref31_receive_0 (rvS n a e v t) = some (rvR n a e (eachQ (recvC n a) (v.l.drop t.1) t.2)) := by
  refine loop_ind (fun t => v.l.length - t.1) (fun t => t.1 ≤ v.l.length ∧ t.2.length ≤ 4294967296 ∧ (∀ x ∈ t.2, pI x)) (rvS n a e v) (fun t => some (rvR n a e (eachQ (recvC n a) (v.l.drop t.1) t.2))) ?_
  rintro ⟨k, l⟩ ⟨hk, hL, hP⟩ L ih
  simp only at hk hL hP ⊢
  by_cases h0 : k < v.l.length
  · have hd := r31find_ok ⟨n, a, e, l⟩ v.l[k].id hL
    rw [List.drop_eq_getElem_cons h0]
    unfold eachQ
    by_cases h1 : 0 ≤ bIx l v.l[k].id
    · rw [if_pos h1]
      obtain ⟨i, hi⟩ : ∃ i : Nat, bIx l v.l[k].id = i := ⟨(bIx l v.l[k].id).toNat, by omega⟩
      obtain ⟨h3, -⟩ := bF_ix hi
      rw [bFD_ix (b := ⟨n, a, e, l⟩) h3 hi] at hd
      have hid := ix_id h3 hi
      rw [hi]
      have hgd : l.getD i zItem = l[i] := by simp [List.getD_eq_getElem?_getD, h3]
      rw [Int.toNat_natCast, hgd]
      clear hgd
      have hpx := hP _ (List.getElem_mem h3)
      have hpg := hgs _ (List.getElem_mem h0)
      have hkeep := recv_keep (a := a) hn l[i] v.l[k]
      obtain ⟨q1, q2, q3, q4⟩ := hpx
      obtain ⟨q5, q6⟩ := hpg
      have stop : recvC n a l[i] v.l[k] = none → (exL G l_ref31_receive_0 (rvS n a e v (k, l))).bind (loopF [] L) = some (rvR n a e (false, l)) := by
        intro hno
        clear ih hP hgs hkeep
        unfold recvC at hno
        by_cases c1 : l[i].state = 1
        · by_cases c2 : n ≤ l[i].count
          · clear hno
            simp only [rvS, rvR, zB, l_ref31_receive_0, eBag, Bool.false_eq_true, if_false, eItem] at hd ⊢
            simp -implicitDefEqProofs (maxSteps := 4000000) (disch := omega) only [eGrant, getDT, go_sem, *] /-A0-/
          · by_cases c3 : v.l[k].gen = l[i].gen + 1
            · by_cases c4 : v.l[k].deadline < a
              · clear hno
                simp only [rvS, rvR, zB, l_ref31_receive_0, eBag, Bool.false_eq_true, if_false, eItem] at hd ⊢
                simp -implicitDefEqProofs (maxSteps := 4000000) (disch := omega) only [eGrant, getDT, go_sem, *] /-A1-/
              · exfalso
                rw [if_neg (by simp only [c1, c2, c3, c4, ne_eq, not_true_eq_false, or_self, not_false_eq_true])] at hno
                cases hno
            · clear hno
              simp only [rvS, rvR, zB, l_ref31_receive_0, eBag, Bool.false_eq_true, if_false, eItem] at hd ⊢
              simp -implicitDefEqProofs (maxSteps := 4000000) (disch := omega) only [eGrant, getDT, go_sem, *] /-A2-/
        · clear hno
          simp only [rvS, rvR, zB, l_ref31_receive_0, eBag, Bool.false_eq_true, if_false, eItem] at hd ⊢
          simp -implicitDefEqProofs (maxSteps := 4000000) (disch := omega) only [eGrant, getDT, go_sem, *] /-A3-/
      cases hy : recvC n a l[i] v.l[k] with
      | none => exact stop hy
      | some y =>
        clear stop
        have i1 := ih (k + 1, l.set i y) ⟨by simp only; omega, by simp only [List.length_set]; exact hL, fun x hx => by rcases List.mem_or_eq_of_mem_set hx with hx | rfl; exact hP x hx; exact hkeep _ ⟨q1, q2, q3, q4⟩ ⟨q5, q6⟩ hy⟩ (by simp only; omega)
        have hs := rset_ok ⟨n, a, e, l⟩ y i h3 (by rw [recv_id _ _ _ hy, hid]; exact hi) hL
        clear ih hP hgs hkeep
        unfold recvC at hy
        split at hy
        · cases hy
        rename_i hc
        simp only [not_or, ne_eq, Classical.not_not] at hc
        obtain ⟨c1, c2, c3, c4⟩ := hc
        cases hy
        clear hi hid
        rw [rvS] at i1
        simp only at i1 hs ⊢
        generalize rvR n a e _ = w at *
        simp only [rvS, zB, l_ref31_receive_0, eBag, eItem, List.length_set] at i1 hs hd ⊢
        simp only [c3, List.map_set, eItem] at hs
        simp only [Int.natCast_add, Int.natCast_one, Int.natCast_zero, Int.natCast_mul, Int.cast_ofNat_Int, List.length_append, List.length_map, List.map_nil, List.length_nil, List.map_append, List.map_cons, List.length_cons, Nat.zero_add, srcO, mapSet] at i1
        simp only [c3, eItem] at i1
        simp -implicitDefEqProofs (maxSteps := 4000000) (disch := omega) only [eGrant, getDT, go_sem, *] /-A4-/
    · rw [if_neg h1]
      have hn2 : bFD ⟨n, a, e, l⟩ v.l[k].id = .tup [eItem zItem, .bool false] := by unfold bFD; rw [show bF l v.l[k].id = none from bF_none (by omega)]
      rw [hn2] at hd
      clear ih hP hgs h1 hn2
      simp only [rvS, rvR, zB, l_ref31_receive_0, eBag, Bool.false_eq_true, if_false, eItem, zItem] at hd ⊢
      simp -implicitDefEqProofs (maxSteps := 4000000) (disch := omega) only [eGrant, getDT, go_sem, *] /-A5-/
  · clear ih
    rw [List.drop_eq_nil_of_le (by omega)]
    unfold eachQ
    simp only [rvS, rvR, zB, l_ref31_receive_0, if_true]
    simp -implicitDefEqProofs (maxSteps := 4000000) (disch := omega) only [getDT, go_sem, *] /-A6-/
theorem rrecv_ok (b : Bag) (v : Event) (hb : pB b) (hv : pV v) (he : v.err = 0) : callL G N_ref31_receive [.d (eBag b), .d (eEvent v)] [] = some (.d (.tup [eBag ⟨b.limit, b.now, b.epoch, (eachQ (recvC b.limit b.now) v.l b.l).2⟩, .bool (eachQ (recvC b.limit b.now) v.l b.l).1]), []) := by
  have hl := rrecv_loop b.limit b.now b.epoch hb.lim v hv.len hv.gs (0, b.l) ⟨Nat.zero_le _, by have := hb.len; simp only; omega, hb.its⟩
  simp only [List.drop_zero] at hl
  have h1 := hv.len
  clear hb hv
  generalize eachQ (recvC b.limit b.now) v.l b.l = r at *
  obtain ⟨q, z⟩ := r
  cases q
  · simp only [rvS, rvR, zB, eBag, eEvent, he, Int.natCast_zero, Bool.false_eq_true, if_false] at hl ⊢
    rw [callL_code g_ref31_receive (by simp)]; simp -implicitDefEqProofs (maxSteps := 4000000) (disch := omega) only [c_ref31_receive, r_ref31_receive, getDT, go_sem, *] /-A7-/
  · simp only [rvS, rvR, zB, eBag, eEvent, he, Int.natCast_zero, if_true] at hl ⊢
    rw [callL_code g_ref31_receive (by simp)]; simp -implicitDefEqProofs (maxSteps := 4000000) (disch := omega) only [c_ref31_receive, r_ref31_receive, getDT, go_sem, *] /-A8-/
theorem rrecv_no (b : Bag) (v : Event) (he : v.err ≠ 0) : callL G N_ref31_receive [.d (eBag b), .d (eEvent v)] [] = some (.d (.tup [eBag b, .bool (decide (v.err = 6))]), []) := by
  simp only [eBag, eEvent]
  rw [callL_code g_ref31_receive (by simp)]; simp -implicitDefEqProofs (maxSteps := 4000000) (disch := omega) only [c_ref31_receive, r_ref31_receive, getDT, go_sem, *] /-A9-/
end Go.Proofs.Ytbkhijigkmhhkaa

namespace Go.Proofs.Ytbkhijigkmhhkaa
open Go Go.Sim
set_option linter.unusedSimpArgs false
set_option linter.unusedVariables false
set_option maxHeartbeats 10000000
set_option maxRecDepth 40000
def rdS (s : Nat) (n a e : Int) (v : Event) (t : Nat × List Item) : St := ⟨[(2, .ref 2 0 0), (3, .ref 3 0 0), (4, .ref 4 0 0), (s, .d (.int .i64 t.1))], [(2, .row [.d (eBag ⟨n, a, e, t.2⟩)]), (3, .row [.d (eEvent v)]), zB 4]⟩
def rdR (i : Nat) (n a e : Int) (r : Bool × List Item) : AExit × St := if r.1 = true then (.exit i, ⟨[(2, .ref 2 0 0), (4, .ref 4 0 0)], [(2, .row [.d (eBag ⟨n, a, e, r.2⟩)]), zB 4]⟩) else (.ret, ⟨[(4, .ref 4 0 0), (5, .d (.bool false))], [(4, .row [.d (eBag ⟨n, a, e, r.2⟩)])]⟩)
theorem rredr_loop (n a e : Int) (v : Event) (hG : v.l.length ≤ 4294967296) : ∀ t : Nat × List Item, t.1 ≤ v.l.length ∧ t.2.length ≤ 4294967296 → loopL G [] l_ref31_step_1 (rdS 9 n a e v t) = some (rdR 3 n a e (eachQ redrC (v.l.drop t.1) t.2)) := by
  refine loop_ind (fun t => v.l.length - t.1) (fun t => t.1 ≤ v.l.length ∧ t.2.length ≤ 4294967296) (rdS 9 n a e v) (fun t => some (rdR 3 n a e (eachQ redrC (v.l.drop t.1) t.2))) ?_
  rintro ⟨k, l⟩ ⟨hk, hL⟩ L ih
  simp only at hk hL ⊢
  by_cases h0 : k < v.l.length
  · have hd := r31find_ok ⟨n, a, e, l⟩ v.l[k].id hL
    rw [List.drop_eq_getElem_cons h0]
    unfold eachQ
    by_cases h1 : 0 ≤ bIx l v.l[k].id
    · rw [if_pos h1]
      obtain ⟨i, hi⟩ : ∃ i : Nat, bIx l v.l[k].id = i := ⟨(bIx l v.l[k].id).toNat, by omega⟩
      obtain ⟨h3, -⟩ := bF_ix hi
      rw [bFD_ix (b := ⟨n, a, e, l⟩) h3 hi] at hd
      have hid := ix_id h3 hi
      rw [hi]
      have hgd : l.getD i zItem = l[i] := by simp [List.getD_eq_getElem?_getD, h3]
      rw [Int.toNat_natCast, hgd]
      clear hgd
      have stop : redrC l[i] v.l[k] = none → (exL G l_ref31_step_1 (rdS 9 n a e v (k, l))).bind (loopF [] L) = some (rdR 3 n a e (false, l)) := by
        intro hno
        clear ih
        unfold redrC at hno
        by_cases c1 : l[i].state = 3
        · by_cases c2 : l[i].gen = v.l[k].gen
          · exfalso
            rw [if_neg (by simp only [c1, c2, ne_eq, not_true_eq_false, or_self, not_false_eq_true])] at hno
            cases hno
          · clear hno
            simp only [rdS, rdR, zB, l_ref31_step_1, eBag, Bool.false_eq_true, if_false, eItem] at hd ⊢
            simp -implicitDefEqProofs (maxSteps := 4000000) (disch := omega) only [eGrant, getDT, go_sem, *] /-A0-/
        · clear hno
          simp only [rdS, rdR, zB, l_ref31_step_1, eBag, Bool.false_eq_true, if_false, eItem] at hd ⊢
          simp -implicitDefEqProofs (maxSteps := 4000000) (disch := omega) only [eGrant, getDT, go_sem, *] /-A1-/
      cases hy : redrC l[i] v.l[k] with
      | none => exact stop hy
      | some y =>
        clear stop
        have i1 := ih (k + 1, l.set i y) ⟨by simp only; omega, by simp only [List.length_set]; exact hL⟩ (by simp only; omega)
        have hs := rset_ok ⟨n, a, e, l⟩ y i h3 (by rw [redr_id _ _ _ hy, hid]; exact hi) hL
        clear ih
        unfold redrC at hy
        split at hy
        · cases hy
        rename_i hc
        simp only [not_or, ne_eq, Classical.not_not] at hc
        obtain ⟨c1, c2⟩ := hc
        cases hy
        clear hi hid
        rw [rdS] at i1
        simp only at i1 hs ⊢
        generalize rdR 3 n a e _ = w at *
        simp only [rdS, zB, l_ref31_step_1, eBag, eItem, List.length_set] at i1 hs hd ⊢
        simp only [c2, List.map_set, eItem] at hs hd
        simp only [Int.natCast_add, Int.natCast_one, Int.natCast_zero, Int.natCast_mul, Int.cast_ofNat_Int, List.length_append, List.length_map, List.map_nil, List.length_nil, List.map_append, List.map_cons, List.length_cons, Nat.zero_add, srcO, mapSet] at i1
        simp only [c2, eItem] at i1
        simp -implicitDefEqProofs (maxSteps := 4000000) (disch := omega) only [eGrant, getDT, go_sem, *] /-A2-/
    · rw [if_neg h1]
      have hn2 : bFD ⟨n, a, e, l⟩ v.l[k].id = .tup [eItem zItem, .bool false] := by unfold bFD; rw [show bF l v.l[k].id = none from bF_none (by omega)]
      rw [hn2] at hd
      clear ih h1 hn2
      simp only [rdS, rdR, zB, l_ref31_step_1, eBag, Bool.false_eq_true, if_false, eItem, zItem] at hd ⊢
      simp -implicitDefEqProofs (maxSteps := 4000000) (disch := omega) only [eGrant, getDT, go_sem, *] /-A3-/
  · clear ih
    rw [List.drop_eq_nil_of_le (by omega)]
    unfold eachQ
    simp only [rdS, rdR, zB, l_ref31_step_1, if_true]
    simp -implicitDefEqProofs (maxSteps := 4000000) (disch := omega) only [getDT, go_sem, *] /-A4-/
theorem rexpr_loop (n a e : Int) (v : Event) (hG : v.l.length ≤ 4294967296) : ∀ t : Nat × List Item, t.1 ≤ v.l.length ∧ t.2.length ≤ 4294967296 → loopL G [] l_ref31_step_2 (rdS 12 n a e v t) = some (rdR 5 n a e (eachQ (exprC n a) (v.l.drop t.1) t.2)) := by
  refine loop_ind (fun t => v.l.length - t.1) (fun t => t.1 ≤ v.l.length ∧ t.2.length ≤ 4294967296) (rdS 12 n a e v) (fun t => some (rdR 5 n a e (eachQ (exprC n a) (v.l.drop t.1) t.2))) ?_
  rintro ⟨k, l⟩ ⟨hk, hL⟩ L ih
  simp only at hk hL ⊢
  by_cases h0 : k < v.l.length
  · have hd := r31find_ok ⟨n, a, e, l⟩ v.l[k].id hL
    rw [List.drop_eq_getElem_cons h0]
    unfold eachQ
    by_cases h1 : 0 ≤ bIx l v.l[k].id
    · rw [if_pos h1]
      obtain ⟨i, hi⟩ : ∃ i : Nat, bIx l v.l[k].id = i := ⟨(bIx l v.l[k].id).toNat, by omega⟩
      obtain ⟨h3, -⟩ := bF_ix hi
      rw [bFD_ix (b := ⟨n, a, e, l⟩) h3 hi] at hd
      have hid := ix_id h3 hi
      rw [hi]
      have hgd : l.getD i zItem = l[i] := by simp [List.getD_eq_getElem?_getD, h3]
      rw [Int.toNat_natCast, hgd]
      clear hgd
      have stop : exprC n a l[i] v.l[k] = none → (exL G l_ref31_step_2 (rdS 12 n a e v (k, l))).bind (loopF [] L) = some (rdR 5 n a e (false, l)) := by
        intro hno
        clear ih
        unfold exprC at hno
        by_cases c1 : l[i].state = 2
        · by_cases c2 : a < l[i].deadline
          · clear hno
            simp only [rdS, rdR, zB, l_ref31_step_2, eBag, Bool.false_eq_true, if_false, eItem] at hd ⊢
            simp -implicitDefEqProofs (maxSteps := 4000000) (disch := omega) only [eGrant, getDT, go_sem, *] /-A5-/
          · exfalso
            rw [if_neg (by simp only [c1, c2, ne_eq, not_true_eq_false, or_self, not_false_eq_true])] at hno
            cases hno
        · clear hno
          simp only [rdS, rdR, zB, l_ref31_step_2, eBag, Bool.false_eq_true, if_false, eItem] at hd ⊢
          simp -implicitDefEqProofs (maxSteps := 4000000) (disch := omega) only [eGrant, getDT, go_sem, *] /-A6-/
      cases hy : exprC n a l[i] v.l[k] with
      | none => exact stop hy
      | some y =>
        clear stop
        have i1 := ih (k + 1, l.set i y) ⟨by simp only; omega, by simp only [List.length_set]; exact hL⟩ (by simp only; omega)
        have hs := rset_ok ⟨n, a, e, l⟩ y i h3 (by rw [expr_id _ _ _ hy, hid]; exact hi) hL
        clear ih
        unfold exprC at hy
        split at hy
        · cases hy
        rename_i hc
        simp only [not_or, ne_eq, Classical.not_not] at hc
        obtain ⟨c1, c2⟩ := hc
        cases hy
        have hr := rrel_ok ⟨n, a, e, l⟩ l[i]
        simp only at hr
        clear hi hid
        rw [rdS] at i1
        simp only at i1 hs ⊢
        generalize relI n l[i] = y at *
        generalize rdR 5 n a e _ = w at *
        simp only [rdS, zB, l_ref31_step_2, eBag, eItem, List.length_set] at i1 hs hd hr ⊢
        simp only [Int.natCast_add, Int.natCast_one, Int.natCast_zero, Int.natCast_mul, Int.cast_ofNat_Int, List.length_append, List.length_map, List.map_nil, List.length_nil, List.map_append, List.map_cons, List.length_cons, Nat.zero_add, srcO, mapSet] at i1
        simp only [Int.natCast_add, Int.natCast_one, Int.natCast_zero, Int.natCast_mul, Int.cast_ofNat_Int, List.length_append, List.length_map, List.map_nil, List.length_nil, List.map_append, List.map_cons, List.length_cons, Nat.zero_add, srcO, mapSet] at hs
        simp only [eItem] at i1 hs
        simp only [c1] at hr hd
        simp -implicitDefEqProofs (maxSteps := 4000000) (disch := omega) only [eGrant, getDT, go_sem, *] /-A7-/
    · rw [if_neg h1]
      have hn2 : bFD ⟨n, a, e, l⟩ v.l[k].id = .tup [eItem zItem, .bool false] := by unfold bFD; rw [show bF l v.l[k].id = none from bF_none (by omega)]
      rw [hn2] at hd
      clear ih h1 hn2
      simp only [rdS, rdR, zB, l_ref31_step_2, eBag, Bool.false_eq_true, if_false, eItem, zItem] at hd ⊢
      simp -implicitDefEqProofs (maxSteps := 4000000) (disch := omega) only [eGrant, getDT, go_sem, *] /-A8-/
  · clear ih
    rw [List.drop_eq_nil_of_le (by omega)]
    unfold eachQ
    simp only [rdS, rdR, zB, l_ref31_step_2, if_true]
    simp -implicitDefEqProofs (maxSteps := 4000000) (disch := omega) only [getDT, go_sem, *] /-A9-/
def rpS (n a e : Int) (l : List Item) (k : Nat) : St := ⟨[(2, .ref 2 0 0), (4, .ref 4 0 0), (6, .d (.int .i64 k))], [(2, .row [.agg [.d (.int .i64 n), .d (.int .i64 a), .d (.int .i64 e), .osl 85 0 l.length]]), zB 4, (85, .row (((goneN l k).map eItem).map .d))]⟩
theorem rpu_loop (n a e : Int) (l : List Item) (hL : l.length ≤ 4294967296) : ∀ i, i ≤ l.length → loopL G [] l_ref31_step_0 (rpS n a e l i) = some (.exit 1, ⟨[(2, .ref 2 0 0), (4, .ref 4 0 0)], [(2, .row [.agg [.d (.int .i64 n), .d (.int .i64 a), .d (.int .i64 e), .osl 85 0 l.length]]), zB 4, (85, .row (((goneN l l.length).map eItem).map .d))]⟩) := by
  refine loop_ind (fun i => l.length - i) (fun i => i ≤ l.length) (rpS n a e l) _ fun i hi L ih => ?_
  have hl := goneN_len l i
  by_cases h0 : i < l.length
  · have i1 := ih (i + 1) (by omega) (by omega)
    clear ih
    obtain ⟨h2, h3⟩ := goneN_at l h0
    rw [rpS, goneN_succ l h0, List.map_set] at i1
    simp only [rpS, zB, l_ref31_step_0]
    rw [← h3] at i1
    generalize goneN l i = w at *
    generalize goneN l l.length = z at *
    have hs : ∀ X, (((w.map eItem).set i X).map AV.d)[i]? = some (.d X) := by intro X; rw [List.getElem?_map, List.getElem?_set_self (by rw [List.length_map]; exact h2)]; rfl
    rw [h3] at i1
    simp only [goneI] at i1
    simp only [eItem, zB] at i1
    simp only [Int.natCast_add, Int.natCast_one, Int.natCast_zero, Int.natCast_mul, Int.cast_ofNat_Int, List.length_append, List.length_map, List.map_nil, List.length_nil, List.map_append, List.map_cons, List.length_cons, Nat.zero_add, srcO, mapSet] at i1
    simp -implicitDefEqProofs (maxSteps := 4000000) (disch := omega) only [hs, List.set_set, getDT, go_sem, *] /-A10-/
  · clear ih
    have : i = l.length := by omega
    subst this
    simp only [rpS, zB, l_ref31_step_0]
    generalize goneN l l.length = z at *
    simp -implicitDefEqProofs (maxSteps := 4000000) (disch := omega) only [getDT, go_sem, *] /-A11-/
end Go.Proofs.Ytbkhijigkmhhkaa

namespace Go.Proofs.Ytbkhijigkmhhkaa
open Go Go.Sim
set_option linter.unusedSimpArgs false
set_option linter.unusedVariables false
set_option maxHeartbeats 10000000
set_option maxRecDepth 40000
def freeV (v : Event) : Prop := v.kind = 1 ∨ v.kind = 7 ∨ (v.kind = 2 ∧ v.err = 6) ∨ ((v.kind = 4 ∨ v.kind = 5 ∨ v.kind = 6) ∧ v.l.length = 0)
instance (v : Event) : Decidable (freeV v) := by unfold freeV; exact inferInstance
theorem late_eq (b : Bag) (v : Event) : (!lateB b v) = (decide (freeV v) || (decide (v.epoch = b.epoch) && (decide (v.kind = 8) || decide (v.now = b.now)))) := by
  have tm : tmF v = if freeV v then (false, false) else (true, decide (v.kind ≠ 8)) := by
    unfold tmF
    by_cases k1 : v.kind = 1 ∨ v.kind = 7
    · rw [if_pos k1, if_pos (show freeV v by unfold freeV; omega)]
    rw [if_neg k1]
    by_cases k2 : v.kind = 2
    · rw [if_pos k2]
      by_cases e : v.err = 6
      · rw [if_pos e, if_pos (show freeV v by unfold freeV; omega)]
      · rw [if_neg e, if_neg (show ¬ freeV v by unfold freeV; omega), decide_eq_true (by omega)]
    rw [if_neg k2]
    by_cases k4 : v.kind = 4 ∨ v.kind = 5 ∨ v.kind = 6
    · rw [if_pos k4]
      by_cases e : v.l.length = 0
      · rw [if_pos e, if_pos (show freeV v by unfold freeV; omega)]
      · rw [if_neg e, if_neg (show ¬ freeV v by unfold freeV; omega), decide_eq_true (by omega)]
    · rw [if_neg k4, if_neg (show ¬ freeV v by unfold freeV; omega)]
  unfold lateB
  rw [tm]
  by_cases hf : freeV v
  · simp [hf]
  · by_cases c1 : v.epoch = b.epoch <;> by_cases c2 : v.now = b.now <;> by_cases c8 : v.kind = 8 <;> simp [hf, c1, c2, c8]
theorem rtimed_ok (b : Bag) (v : Event) (hL : v.l.length ≤ 4294967296) : callL G N_ref31_timed [.d (eBag b), .d (eEvent v)] [] = some (.d (.bool (!lateB b v)), []) := by
  rw [late_eq]
  by_cases hf : freeV v
  · rw [decide_eq_true hf, Bool.true_or]
    unfold freeV at hf
    simp only [eBag, eEvent]
    rcases hf with h | h | ⟨h, h2⟩ | ⟨h | h | h, h2⟩
    · rw [callL_code g_ref31_timed (by simp)]; simp -implicitDefEqProofs (maxSteps := 4000000) (disch := omega) only [c_ref31_timed, r_ref31_timed, getDT, go_sem, *] /-A0-/
    · rw [callL_code g_ref31_timed (by simp)]; simp -implicitDefEqProofs (maxSteps := 4000000) (disch := omega) only [c_ref31_timed, r_ref31_timed, getDT, go_sem, *] /-A1-/
    · rw [callL_code g_ref31_timed (by simp)]; simp -implicitDefEqProofs (maxSteps := 4000000) (disch := omega) only [c_ref31_timed, r_ref31_timed, getDT, go_sem, *] /-A2-/
    · rw [callL_code g_ref31_timed (by simp)]; simp -implicitDefEqProofs (maxSteps := 4000000) (disch := omega) only [c_ref31_timed, r_ref31_timed, getDT, go_sem, *] /-A3-/
    · rw [callL_code g_ref31_timed (by simp)]; simp -implicitDefEqProofs (maxSteps := 4000000) (disch := omega) only [c_ref31_timed, r_ref31_timed, getDT, go_sem, *] /-A4-/
    · rw [callL_code g_ref31_timed (by simp)]; simp -implicitDefEqProofs (maxSteps := 4000000) (disch := omega) only [c_ref31_timed, r_ref31_timed, getDT, go_sem, *] /-A5-/
  · rw [decide_eq_false hf, Bool.false_or]
    have cs : ¬ v.kind = 1 ∧ ¬ v.kind = 7 ∧ ((v.kind = 2 ∧ ¬ v.err = 6) ∨ (v.kind = 4 ∧ ¬ (v.l.length : Int) = 0) ∨ (v.kind = 5 ∧ ¬ (v.l.length : Int) = 0) ∨ (v.kind = 6 ∧ ¬ (v.l.length : Int) = 0) ∨ (¬ v.kind = 2 ∧ ¬ v.kind = 4 ∧ ¬ v.kind = 5 ∧ ¬ v.kind = 6)) := by
      unfold freeV at hf
      omega
    clear hf
    obtain ⟨g1, g7, cs⟩ := cs
    by_cases c1 : v.epoch = b.epoch
    · rw [decide_eq_true c1, Bool.true_and]
      replace c1 := eq_true c1
      by_cases c8 : v.kind = 8
      · rw [decide_eq_true c8, Bool.true_or]
        clear cs
        simp only [eBag, eEvent]
        rw [callL_code g_ref31_timed (by simp)]; simp -implicitDefEqProofs (maxSteps := 4000000) (disch := omega) only [c_ref31_timed, r_ref31_timed, getDT, go_sem, *] /-A6-/
      · rw [decide_eq_false c8, Bool.false_or]
        by_cases c2 : v.now = b.now
        · rw [decide_eq_true c2]
          replace c2 := eq_true c2
          simp only [eBag, eEvent]
          rcases cs with ⟨q1, q2⟩ | ⟨q1, q2⟩ | ⟨q1, q2⟩ | ⟨q1, q2⟩ | ⟨q1, q2, q3, q4⟩
          all_goals (rw [callL_code g_ref31_timed (by simp)]; simp -implicitDefEqProofs (maxSteps := 4000000) (disch := omega) only [c_ref31_timed, r_ref31_timed, getDT, go_sem, *] /-A7-/)
        · rw [decide_eq_false c2]
          simp only [eBag, eEvent]
          rcases cs with ⟨q1, q2⟩ | ⟨q1, q2⟩ | ⟨q1, q2⟩ | ⟨q1, q2⟩ | ⟨q1, q2, q3, q4⟩
          all_goals (rw [callL_code g_ref31_timed (by simp)]; simp -implicitDefEqProofs (maxSteps := 4000000) (disch := omega) only [c_ref31_timed, r_ref31_timed, getDT, go_sem, *] /-A8-/)
    · rw [decide_eq_false c1, Bool.false_and]
      simp only [eBag, eEvent]
      rcases cs with ⟨q1, q2⟩ | ⟨q1, q2⟩ | ⟨q1, q2⟩ | ⟨q1, q2⟩ | ⟨q1, q2, q3, q4⟩
      all_goals (rw [callL_code g_ref31_timed (by simp)]; simp -implicitDefEqProofs (maxSteps := 4000000) (disch := omega) only [c_ref31_timed, r_ref31_timed, getDT, go_sem, *] /-A9-/)
def stepQ (b : Bag) (v : Event) : Bag × Bool :=
  if v.kind = 1 then (if v.err ≠ 0 ∨ v.now < b.now then (b, false) else (⟨b.limit, v.now, b.epoch, b.l⟩, true))
  else if v.kind = 7 then (if v.err ≠ 0 then (b, decide (v.err = 6)) else if v.epoch = b.epoch + 1 then (⟨b.limit, b.now, v.epoch, b.l.map goneI⟩, true) else (b, false))
  else if v.kind = 8 then (b, decide (v.err = 0 ∧ v.ready = cntS 1 b.l ∧ v.leased = cntS 2 b.l))
  else if v.kind = 9 then (if v.err ≠ 0 then (b, decide (v.err = 3)) else (⟨b.limit, b.now, b.epoch, (eachQ redrC v.l b.l).2⟩, (eachQ redrC v.l b.l).1))
  else (if v.err ≠ 0 then (b, false) else (⟨b.limit, b.now, b.epoch, (eachQ (exprC b.limit b.now) v.l b.l).2⟩, (eachQ (exprC b.limit b.now) v.l b.l).1))
theorem rstep_tick (b : Bag) (v : Event) (hk : v.kind = 1) : callL G N_ref31_step [.d (eBag b), .d (eEvent v)] [] = some (.d (.tup [eBag (stepQ b v).1, .bool (stepQ b v).2]), []) := by
  unfold stepQ
  rw [if_pos hk]
  by_cases h : v.err ≠ 0 ∨ v.now < b.now
  · rw [if_pos h]
    simp only [eBag, eEvent]
    by_cases h1 : v.err = 0
    · have h2 : v.now < b.now := by omega
      clear h
      rw [callL_code g_ref31_step (by simp)]; simp -implicitDefEqProofs (maxSteps := 4000000) (disch := omega) only [c_ref31_step, r_ref31_step, getDT, go_sem, *] /-A10-/
    · clear h
      rw [callL_code g_ref31_step (by simp)]; simp -implicitDefEqProofs (maxSteps := 4000000) (disch := omega) only [c_ref31_step, r_ref31_step, getDT, go_sem, *] /-A11-/
  · rw [if_neg h]
    simp only [not_or, Classical.not_not] at h
    obtain ⟨h1, h2⟩ := h
    simp only [eBag, eEvent]
    rw [callL_code g_ref31_step (by simp)]; simp -implicitDefEqProofs (maxSteps := 4000000) (disch := omega) only [c_ref31_step, r_ref31_step, getDT, go_sem, *] /-A12-/
theorem rstep_purge (b : Bag) (v : Event) (hk : v.kind = 7) (hb : pB b) (hv : pV v) : callL G N_ref31_step [.d (eBag b), .d (eEvent v)] [] = some (.d (.tup [eBag (stepQ b v).1, .bool (stepQ b v).2]), []) := by
  have e1 := hb.ep0
  have e2 := hb.ep1
  have e3 := hv.ep0
  have e4 := hv.ep1
  have hL := hb.len
  clear hb hv
  unfold stepQ
  rw [if_neg (by omega), if_pos hk]
  by_cases h : v.err = 0
  · rw [if_neg (by simpa using h)]
    by_cases hp : v.epoch = b.epoch + 1
    · rw [if_pos hp]
      by_cases h0 : b.l = []
      · simp only [eBag, eEvent, h0, List.map_nil]
        rw [callL_code g_ref31_step (by simp)]; simp -implicitDefEqProofs (maxSteps := 4000000) (disch := omega) only [c_ref31_step, r_ref31_step, loopL_eq, l_ref31_step_0, getDT, go_sem, *] /-A13-/
      · have hl := rpu_loop b.limit b.now (b.epoch + 1) b.l (by omega) 0 (by omega)
        rw [show goneN b.l b.l.length = b.l.map goneI by simp [goneN]] at hl
        have hne : ¬ b.l.length = 0 := by rw [List.length_eq_zero_iff]; exact h0
        simp only [rpS, show goneN b.l 0 = b.l by simp [goneN], zB, Int.natCast_zero] at hl
        clear h0
        have hz : (b.l.map goneI).length = b.l.length := List.length_map _
        generalize b.l.map goneI = z at *
        simp only [eBag, eEvent] at hl ⊢
        rw [callL_code g_ref31_step (by simp)]; simp -implicitDefEqProofs (maxSteps := 4000000) (disch := omega) only [c_ref31_step, r_ref31_step, allSize_Item, getDT, go_sem, *] /-A14-/
    · rw [if_neg hp]
      simp only [eBag, eEvent]
      rw [callL_code g_ref31_step (by simp)]; simp -implicitDefEqProofs (maxSteps := 4000000) (disch := omega) only [c_ref31_step, r_ref31_step, getDT, go_sem, *] /-A15-/
  · rw [if_pos h]
    simp only [eBag, eEvent]
    rw [callL_code g_ref31_step (by simp)]; simp -implicitDefEqProofs (maxSteps := 4000000) (disch := omega) only [c_ref31_step, r_ref31_step, getDT, go_sem, *] /-A16-/
theorem rstep_count (b : Bag) (v : Event) (hk : v.kind = 8) (hb : pB b) : callL G N_ref31_step [.d (eBag b), .d (eEvent v)] [] = some (.d (.tup [eBag (stepQ b v).1, .bool (stepQ b v).2]), []) := by
  have hc := r31counts_ok b (by have := hb.len; omega)
  clear hb
  unfold stepQ
  rw [if_neg (by omega), if_neg (by omega), if_pos hk]
  generalize cntS 1 b.l = c1 at *
  generalize cntS 2 b.l = c2 at *
  simp only [eEvent, hk, eBag] at hc ⊢
  by_cases h1 : v.err = 0
  · by_cases h2 : v.ready = c1
    · by_cases h3 : v.leased = c2
      · rw [decide_eq_true ⟨h1, h2, h3⟩]
        rw [callL_code g_ref31_step (by simp)]; simp -implicitDefEqProofs (maxSteps := 4000000) (disch := omega) only [c_ref31_step, r_ref31_step, getDT, go_sem, *] /-A17-/
      · rw [decide_eq_false fun h => h3 h.2.2]
        rw [callL_code g_ref31_step (by simp)]; simp -implicitDefEqProofs (maxSteps := 4000000) (disch := omega) only [c_ref31_step, r_ref31_step, getDT, go_sem, *] /-A18-/
    · rw [decide_eq_false fun h => h2 h.2.1]
      rw [callL_code g_ref31_step (by simp)]; simp -implicitDefEqProofs (maxSteps := 4000000) (disch := omega) only [c_ref31_step, r_ref31_step, getDT, go_sem, *] /-A19-/
  · rw [decide_eq_false fun h => h1 h.1]
    rw [callL_code g_ref31_step (by simp)]; simp -implicitDefEqProofs (maxSteps := 4000000) (disch := omega) only [c_ref31_step, r_ref31_step, getDT, go_sem, *] /-A20-/
theorem rstep_redr (b : Bag) (v : Event) (hk : v.kind = 9) (hb : pB b) (hv : pV v) : callL G N_ref31_step [.d (eBag b), .d (eEvent v)] [] = some (.d (.tup [eBag (stepQ b v).1, .bool (stepQ b v).2]), []) := by
  have hl := rredr_loop b.limit b.now b.epoch v hv.len (0, b.l) ⟨Nat.zero_le _, by have := hb.len; simp only; omega⟩
  simp only [List.drop_zero] at hl
  have hL := hv.len
  clear hb hv
  unfold stepQ
  rw [if_neg (by omega), if_neg (by omega), if_neg (by omega), if_pos hk]
  by_cases h : v.err = 0
  · rw [if_neg (by simpa using h)]
    generalize eachQ redrC v.l b.l = r at *
    obtain ⟨q, z⟩ := r
    cases q
    · simp only [rdS, rdR, zB, eBag, eEvent, h, hk, Int.natCast_zero, Bool.false_eq_true, if_false] at hl ⊢
      rw [callL_code g_ref31_step (by simp)]; simp -implicitDefEqProofs (maxSteps := 4000000) (disch := omega) only [c_ref31_step, r_ref31_step, getDT, go_sem, *] /-A21-/
    · simp only [rdS, rdR, zB, eBag, eEvent, h, hk, Int.natCast_zero, if_true] at hl ⊢
      rw [callL_code g_ref31_step (by simp)]; simp -implicitDefEqProofs (maxSteps := 4000000) (disch := omega) only [c_ref31_step, r_ref31_step, getDT, go_sem, *] /-A22-/
  · rw [if_pos h]
    clear hl
    simp only [eBag, eEvent]
    rw [callL_code g_ref31_step (by simp)]; simp -implicitDefEqProofs (maxSteps := 4000000) (disch := omega) only [c_ref31_step, r_ref31_step, getDT, go_sem, *] /-A23-/
theorem rstep_expr (b : Bag) (v : Event) (hk : v.kind = 10) (hb : pB b) (hv : pV v) : callL G N_ref31_step [.d (eBag b), .d (eEvent v)] [] = some (.d (.tup [eBag (stepQ b v).1, .bool (stepQ b v).2]), []) := by
  have hl := rexpr_loop b.limit b.now b.epoch v hv.len (0, b.l) ⟨Nat.zero_le _, by have := hb.len; simp only; omega⟩
  simp only [List.drop_zero] at hl
  have hL := hv.len
  clear hb hv
  unfold stepQ
  rw [if_neg (by omega), if_neg (by omega), if_neg (by omega), if_neg (by omega)]
  by_cases h : v.err = 0
  · rw [if_neg (by simpa using h)]
    generalize eachQ (exprC b.limit b.now) v.l b.l = r at *
    obtain ⟨q, z⟩ := r
    cases q
    · simp only [rdS, rdR, zB, eBag, eEvent, h, hk, Int.natCast_zero, Bool.false_eq_true, if_false] at hl ⊢
      rw [callL_code g_ref31_step (by simp)]; simp -implicitDefEqProofs (maxSteps := 4000000) (disch := omega) only [c_ref31_step, r_ref31_step, getDT, go_sem, *] /-A24-/
    · simp only [rdS, rdR, zB, eBag, eEvent, h, hk, Int.natCast_zero, if_true] at hl ⊢
      rw [callL_code g_ref31_step (by simp)]; simp -implicitDefEqProofs (maxSteps := 4000000) (disch := omega) only [c_ref31_step, r_ref31_step, getDT, go_sem, *] /-A25-/
  · rw [if_pos h]
    clear hl
    simp only [eBag, eEvent]
    rw [callL_code g_ref31_step (by simp)]; simp -implicitDefEqProofs (maxSteps := 4000000) (disch := omega) only [c_ref31_step, r_ref31_step, getDT, go_sem, *] /-A26-/
end Go.Proofs.Ytbkhijigkmhhkaa

namespace Go.Proofs.Ytbkhijigkmhhkaa
open Go Go.Sim
set_option linter.unusedSimpArgs false
set_option linter.unusedVariables false
set_option maxHeartbeats 10000000
set_option maxRecDepth 40000
def Once (chg : Item → Grant → Option Item) : Prop := ∀ x g y g', chg x g = some y → chg y g' = none
theorem recv_once {n a : Int} : Once (recvC n a) := by
  intro x g y g' h; unfold recvC at h; split at h; cases h; cases h; rfl
theorem expr_once {n a : Int} : Once (exprC n a) := by
  intro x g y g' h; unfold exprC at h; split at h; cases h; cases h
  unfold exprC relI
  rw [if_pos]
  simp only
  split <;> exact .inl (by decide)
theorem redr_once : Once redrC := by
  intro x g y g' h; unfold redrC at h; split at h; cases h; cases h; rfl
theorem each_eq {chg : Item → Grant → Option Item} (h1 : KeepId chg) (h2 : Once chg) : ∀ (gs : List Grant) (seen : List Int) (l : List Item), (∀ id ∈ seen, ∀ i : Nat, ∀ hi : i < l.length, bIx l id = i → ∀ g', chg l[i] g' = none) →
    if (eachF chg seen gs l).1 = 2 then eachQ chg gs l = (true, (eachF chg seen gs l).2) else (eachQ chg gs l).1 = false := by
  intro gs
  induction gs with
  | nil => intro seen l _; rfl
  | cons g gs ih =>
    intro seen l hs
    unfold eachF eachQ
    by_cases hx : 0 ≤ bIx l g.id
    · rw [if_pos hx]
      obtain ⟨i, hi⟩ : ∃ i : Nat, bIx l g.id = i := ⟨(bIx l g.id).toNat, by omega⟩
      obtain ⟨h3, -⟩ := bF_ix hi
      have hgd : l.getD (bIx l g.id).toNat zItem = l[i] := by rw [hi, Int.toNat_natCast]; simp [List.getD_eq_getElem?_getD, h3]
      by_cases hm : g.id ∈ seen
      · rw [dif_neg (fun h => h.2 hm)]
        rw [hgd, hs g.id hm i h3 hi g]
        rfl
      · rw [dif_pos ⟨hx, hm⟩, hgd]
        cases hy : chg l[i] g with
        | none => rfl
        | some y =>
          simp only
          rw [hi, Int.toNat_natCast]
          refine ih _ _ fun id hid j hj hji g' => ?_
          have hyid : y.id = l[i].id := h1 _ _ _ hy
          rw [bIx_set h3 hyid] at hji
          rcases List.mem_append.1 hid with hid | hid
          · rw [List.length_set] at hj
            by_cases e : i = j
            · subst e
              rw [List.getElem_set_self]
              exact h2 _ _ _ _ hy
            · rw [List.getElem_set_ne e]
              exact hs id hid j hj hji g'
          · rw [List.mem_singleton] at hid
            subst hid
            obtain rfl : i = j := by omega
            rw [List.getElem_set_self]
            exact h2 _ _ _ _ hy
    · rw [if_neg hx, dif_neg (fun h => hx h.1)]
      rfl
theorem eachB_eq {chg : Item → Grant → Option Item} (h1 : KeepId chg) (h2 : Once chg) (b : Bag) (gs : List Grant) : match eachB b chg gs with
    | some c => eachQ chg gs b.l = (true, c.l) ∧ c = ⟨b.limit, b.now, b.epoch, c.l⟩
    | none => (eachQ chg gs b.l).1 = false := by
  have h := each_eq h1 h2 gs [] b.l (fun id hid => by cases hid)
  unfold eachB
  split at h
  · rename_i hc; rw [if_pos hc]; exact ⟨h, rfl⟩
  · rename_i hc; rw [if_neg hc]; exact h
theorem pos_eq {l : List Item} {id : Int} (h : ∀ x ∈ l, x.id ≠ id) : posR l id = posI l id := by
  have e : l.findIdx? (fun x => decide (¬ x.id < id)) = l.findIdx? (fun x => decide (id < x.id)) := by
    induction l with
    | nil => rfl
    | cons x l ih =>
      have hx := h x (by simp)
      rw [List.findIdx?_cons, List.findIdx?_cons, ih fun y hy => h y (by simp [hy]), show decide (¬ x.id < id) = decide (id < x.id) from by rw [decide_eq_decide]; omega]
  unfold posR posI idxI
  rw [e]
  cases l.findIdx? (fun x => decide (id < x.id)) with
  | none => rfl
  | some i => simp only; rw [if_neg (by omega)]; simp
theorem rstep_sub (b : Bag) (v : Event) (f : Nat) (b' : Bag) (q : Bool) (hk : v.kind = 2 ∧ f = N_ref31_send ∨ v.kind = 3 ∧ f = N_ref31_receive ∨ (v.kind = 4 ∨ v.kind = 5 ∨ v.kind = 6) ∧ f = N_ref31_settle) (h : callL G f [.d (eBag b), .d (eEvent v)] [] = some (.d (.tup [eBag b', .bool q]), [])) : callL G N_ref31_step [.d (eBag b), .d (eEvent v)] [] = some (.d (.tup [eBag b', .bool q]), []) := by
  rcases hk with ⟨hk, rfl⟩ | ⟨hk, rfl⟩ | ⟨hk | hk | hk, rfl⟩
  all_goals
    simp only [eBag, eEvent, hk] at h ⊢
    rw [callL_code g_ref31_step (by simp)]; simp -implicitDefEqProofs (maxSteps := 4000000) (disch := omega) only [c_ref31_step, r_ref31_step, getDT, go_sem, *] /-A0-/
theorem rStep_kind (b : Bag) (v : Event) (hk : ¬ (1 ≤ v.kind ∧ v.kind ≤ 10)) : callL G N_ref31_Step [.d (eBag b), .d (eEvent v)] [] = some (.d (.tup [eBag zBag, .int .i64 9]), []) := by
  simp only [eBag, zBag, eEvent, List.map_nil]
  by_cases h1 : v.kind < 1
  · clear hk
    rw [callL_code g_ref31_Step (by simp)]; simp -implicitDefEqProofs (maxSteps := 4000000) (disch := omega) only [c_ref31_Step, r_ref31_Step, getDT, go_sem, *] /-A1-/
  · have h2 : 10 < v.kind := by omega
    clear hk
    rw [callL_code g_ref31_Step (by simp)]; simp -implicitDefEqProofs (maxSteps := 4000000) (disch := omega) only [c_ref31_Step, r_ref31_Step, getDT, go_sem, *] /-A2-/
theorem rStep_late (b : Bag) (v : Event) (hk : 1 ≤ v.kind ∧ v.kind ≤ 10) (hL : v.l.length ≤ 4294967296) (hl : lateB b v = true) : callL G N_ref31_Step [.d (eBag b), .d (eEvent v)] [] = some (.d (.tup [eBag zBag, .int .i64 7]), []) := by
  have ht := rtimed_ok b v hL
  rw [hl] at ht
  obtain ⟨h1, h2⟩ := hk
  clear hl
  simp only [eBag, zBag, eEvent, List.map_nil, Bool.not_true] at ht ⊢
  rw [callL_code g_ref31_Step (by simp)]; simp -implicitDefEqProofs (maxSteps := 4000000) (disch := omega) only [c_ref31_Step, r_ref31_Step, getDT, go_sem, *] /-A3-/
theorem rStep_go (b : Bag) (v : Event) (hk : 1 ≤ v.kind ∧ v.kind ≤ 10) (hL : v.l.length ≤ 4294967296) (hl : lateB b v = false) (b' : Bag) (q : Bool) (h : callL G N_ref31_step [.d (eBag b), .d (eEvent v)] [] = some (.d (.tup [eBag b', .bool q]), [])) : callL G N_ref31_Step [.d (eBag b), .d (eEvent v)] [] = some (.d (.tup [eBag (if q = true then b' else zBag), .int .i64 (if q = true then 0 else 7)]), []) := by
  have ht := rtimed_ok b v hL
  rw [hl] at ht
  obtain ⟨h1, h2⟩ := hk
  clear hl
  cases q
  · simp only [eBag, zBag, eEvent, List.map_nil, Bool.not_false, Bool.false_eq_true, if_false] at ht h ⊢
    rw [callL_code g_ref31_Step (by simp)]; simp -implicitDefEqProofs (maxSteps := 4000000) (disch := omega) only [c_ref31_Step, r_ref31_Step, getDT, go_sem, *] /-A4-/
  · simp only [eBag, zBag, eEvent, List.map_nil, Bool.not_false, if_true] at ht h ⊢
    rw [callL_code g_ref31_Step (by simp)]; simp -implicitDefEqProofs (maxSteps := 4000000) (disch := omega) only [c_ref31_Step, r_ref31_Step, getDT, go_sem, *] /-A5-/
theorem rstep_all (b : Bag) (v : Event) (hk : 1 ≤ v.kind ∧ v.kind ≤ 10) (hb : pB b) (hv : pV v) : ∃ b' q, callL G N_ref31_step [.d (eBag b), .d (eEvent v)] [] = some (.d (.tup [eBag b', .bool q]), []) ∧ (match stepK b v with | some c => q = true ∧ b' = c | none => q = false) := by
  have hL : b.l.length ≤ 4294967296 := by have := hb.len; omega
  by_cases k1 : v.kind = 1
  · refine ⟨_, _, rstep_tick b v k1, ?_⟩
    unfold stepK stepQ
    rw [if_pos k1, if_pos k1]
    by_cases h : v.err ≠ 0 ∨ v.now < b.now
    · rw [if_pos h, if_pos h]
    · rw [if_neg h, if_neg h]; exact ⟨rfl, rfl⟩
  by_cases k2 : v.kind = 2
  · unfold stepK
    rw [if_neg k1, if_pos k2]
    unfold sendK
    by_cases he : v.err = 0
    · rw [if_neg (by omega), if_neg (by simpa using he)]
      have bad : badS v → ∃ b' q, callL G N_ref31_step [.d (eBag b), .d (eEvent v)] [] = some (.d (.tup [eBag b', .bool q]), []) ∧ q = false := fun hb => ⟨b, false, rstep_sub b v _ _ _ (.inl ⟨k2, rfl⟩) (rsend_bad b v he hb), rfl⟩
      rcases hvl : v.l with _ | ⟨g, _ | ⟨g', r⟩⟩
      · exact bad (.inr (by rintro ⟨g, hg, _⟩; rw [hvl] at hg; cases hg))
      · simp only
        by_cases hg : g.gen = 0
        · rw [if_neg (by simpa using hg)]
          by_cases hx : 0 ≤ bIx b.l g.id
          · rw [if_pos hx]
            obtain ⟨i, hi⟩ : ∃ i : Nat, bIx b.l g.id = i := ⟨(bIx b.l g.id).toNat, by omega⟩
            exact ⟨b, false, rstep_sub b v _ _ _ (.inl ⟨k2, rfl⟩) (rsend_dup b v g hL he hvl hg i hi), rfl⟩
          · rw [if_neg hx]
            have hxn : bIx b.l g.id = -1 := (idxI_m1 b.l _).1 (by unfold bIx at hx; omega)
            refine ⟨_, true, rstep_sub b v _ _ _ (.inl ⟨k2, rfl⟩) (rsend_ok b v g hb.len he hvl hg hxn), rfl, ?_⟩
            rw [pos_eq fun x hx' e => ?_]
            · rfl
            · have := (idxI_neg b.l fun x => decide (x.id = g.id)).1 (by unfold bIx at hxn; omega) x hx'
              simp [e] at this
        · rw [if_pos hg]
          exact bad (.inr (by rintro ⟨g', hg', h2⟩; rw [hvl] at hg'; cases hg'; exact hg h2))
      · exact bad (.inr (by rintro ⟨g, hg, _⟩; rw [hvl] at hg; cases hg))
    · refine ⟨b, _, rstep_sub b v _ _ _ (.inl ⟨k2, rfl⟩) (rsend_no b v he), ?_⟩
      by_cases h : v.err = 3 ∨ v.err = 6
      · rw [if_pos h]; exact ⟨decide_eq_true h, rfl⟩
      · rw [if_neg h, if_pos he]; exact decide_eq_false h
  by_cases k3 : v.kind = 3
  · unfold stepK
    rw [if_neg k1, if_neg k2, if_pos k3]
    by_cases he : v.err = 0
    · rw [if_pos he]
      refine ⟨_, _, rstep_sub b v _ _ _ (.inr (.inl ⟨k3, rfl⟩)) (rrecv_ok b v hb hv he), ?_⟩
      have h := eachB_eq (recv_id (n := b.limit) (a := b.now)) recv_once b v.l
      cases hc : eachB b (recvC b.limit b.now) v.l with
      | none => rw [hc] at h; exact h
      | some c => rw [hc] at h; simp only at h ⊢; rw [h.1]; exact ⟨rfl, h.2.symm⟩
    · rw [if_neg he]
      refine ⟨b, _, rstep_sub b v _ _ _ (.inr (.inl ⟨k3, rfl⟩)) (rrecv_no b v he), ?_⟩
      by_cases h6 : v.err = 6
      · rw [if_pos h6]; exact ⟨decide_eq_true h6, rfl⟩
      · rw [if_neg h6]; exact decide_eq_false h6
  by_cases k4 : v.kind = 4 ∨ v.kind = 5 ∨ v.kind = 6
  · unfold stepK
    rw [if_neg k1, if_neg k2, if_neg k3, if_pos k4]
    have sub := fun b' q h => rstep_sub b v N_ref31_settle b' q (.inr (.inr ⟨k4, rfl⟩)) h
    unfold settleK
    rcases hvl : v.l with _ | ⟨g, _ | ⟨g', r⟩⟩
    · refine ⟨b, _, sub _ _ (rsettle_none b v hvl), ?_⟩
      simp only
      by_cases h5 : v.err = 5
      · rw [if_pos h5]; exact ⟨decide_eq_true h5, rfl⟩
      · rw [if_neg h5]; exact decide_eq_false h5
    · simp only
      by_cases hg : bVal b g = true
      · rw [if_pos hg]
        obtain ⟨i, hi, hx, hgd⟩ := bVal_ix hg
        by_cases he : v.err = 0
        · rw [if_neg (by simpa using he)]
          unfold setI
          rw [hgd, hx, Int.toNat_natCast]
          by_cases kk4 : v.kind = 4
          · rw [if_pos kk4]
            exact ⟨_, true, sub _ _ (rsettle_ack b v g i hi hL hvl hg he hx kk4), rfl, rfl⟩
          rw [if_neg kk4]
          by_cases kk5 : v.kind = 5
          · rw [if_pos kk5]
            exact ⟨_, true, sub _ _ (rsettle_nack b v g i hi hL hvl hg he hx kk5), rfl, rfl⟩
          rw [if_neg kk5]
          by_cases hd : b.now ≤ g.deadline
          · rw [if_pos hd]
            exact ⟨_, true, sub _ _ (rsettle_chg b v g i hi hL hvl hg he hx (by omega) hd), rfl, rfl⟩
          · rw [if_neg hd]
            exact ⟨_, false, sub _ _ (rsettle_chg_no b v g i hi hL hvl hg he hx (by omega) hd), rfl⟩
        · rw [if_pos he]
          refine ⟨b, _, sub _ _ (rsettle_err b v g hL hvl hg he), ?_⟩
          rw [← Bool.decide_and]
          by_cases h6 : v.err = 6 ∧ v.kind = 6
          · rw [if_pos h6]; exact ⟨decide_eq_true h6, rfl⟩
          · rw [if_neg h6]; exact decide_eq_false h6
      · rw [if_neg hg]
        refine ⟨b, _, sub _ _ (rsettle_inv b v g hL hvl (by simpa using hg)), ?_⟩
        by_cases h5 : v.err = 5
        · rw [if_pos h5]; exact ⟨decide_eq_true h5, rfl⟩
        · rw [if_neg h5]; exact decide_eq_false h5
    · exact ⟨b, false, sub _ _ (rsettle_many b v g g' r hvl), rfl⟩
  by_cases k7 : v.kind = 7
  · refine ⟨_, _, rstep_purge b v k7 hb hv, ?_⟩
    unfold stepK stepQ
    rw [if_neg k1, if_neg k1, if_neg k2, if_neg k3, if_neg k4, if_pos k7, if_pos k7]
    by_cases he : v.err = 0
    · rw [if_pos he, if_neg (show ¬ (v.err ≠ 0) by simpa using he)]
      by_cases hp : v.epoch = b.epoch + 1
      · rw [if_pos hp, if_pos hp]; exact ⟨rfl, rfl⟩
      · rw [if_neg hp, if_neg hp]
    · rw [if_neg he, if_pos he]
      by_cases h6 : v.err = 6
      · rw [if_pos h6]; exact ⟨decide_eq_true h6, rfl⟩
      · rw [if_neg h6]; exact decide_eq_false h6
  by_cases k8 : v.kind = 8
  · refine ⟨_, _, rstep_count b v k8 hb, ?_⟩
    unfold stepK stepQ
    rw [if_neg k1, if_neg k1, if_neg k2, if_neg k3, if_neg k4, if_neg k7, if_neg k7, if_pos k8, if_pos k8]
    by_cases hc : v.err = 0 ∧ v.ready = cntS 1 b.l ∧ v.leased = cntS 2 b.l
    · rw [if_pos hc]; exact ⟨decide_eq_true hc, rfl⟩
    · rw [if_neg hc]; exact decide_eq_false hc
  by_cases k9 : v.kind = 9
  · refine ⟨_, _, rstep_redr b v k9 hb hv, ?_⟩
    unfold stepK stepQ
    rw [if_neg k1, if_neg k1, if_neg k2, if_neg k3, if_neg k4, if_neg k7, if_neg k7, if_neg k8, if_neg k8, if_pos k9, if_pos k9]
    by_cases he : v.err = 0
    · rw [if_pos he, if_neg (by simpa using he)]
      have h := eachB_eq redr_id redr_once b v.l
      cases hc : eachB b redrC v.l with
      | none => rw [hc] at h; exact h
      | some c => rw [hc] at h; simp only at h ⊢; rw [h.1]; exact ⟨rfl, h.2.symm⟩
    · rw [if_neg he, if_pos he]
      by_cases h6 : v.err = 3
      · rw [if_pos h6]; exact ⟨decide_eq_true h6, rfl⟩
      · rw [if_neg h6]; exact decide_eq_false h6
  refine ⟨_, _, rstep_expr b v (by omega) hb hv, ?_⟩
  unfold stepK stepQ
  rw [if_neg k1, if_neg k1, if_neg k2, if_neg k3, if_neg k4, if_neg k7, if_neg k7, if_neg k8, if_neg k8, if_neg k9, if_neg k9]
  by_cases he : v.err = 0
  · rw [if_pos he, if_neg (by simpa using he)]
    have h := eachB_eq (expr_id (n := b.limit) (a := b.now)) expr_once b v.l
    cases hc : eachB b (exprC b.limit b.now) v.l with
    | none => rw [hc] at h; exact h
    | some c => rw [hc] at h; simp only at h ⊢; rw [h.1]; exact ⟨rfl, h.2.symm⟩
  · rw [if_neg he, if_pos he]
theorem r31Step_ok (b : Bag) (v : Event) (hb : pB b) (hv : pV v) : callL G N_ref31_Step [.d (eBag b), .d (eEvent v)] [] = some (.d (.tup [eBag (stepD b v).1, .int .i64 (stepD b v).2]), []) := by
  unfold stepD
  by_cases hk : 1 ≤ v.kind ∧ v.kind ≤ 10
  · rw [if_neg (by simpa using hk)]
    by_cases hl : lateB b v = true
    · rw [if_pos hl]; exact rStep_late b v hk hv.len hl
    · rw [if_neg hl]
      obtain ⟨b', q, h1, h2⟩ := rstep_all b v hk hb hv
      rw [rStep_go b v hk hv.len (by simpa using hl) b' q h1]
      cases hc : stepK b v with
      | none => rw [hc] at h2; simp only at h2; subst h2; rfl
      | some c => rw [hc] at h2; simp only at h2; obtain ⟨rfl, rfl⟩ := h2; rfl
  · rw [if_pos hk]; exact rStep_kind b v hk
end Go.Proofs.Ytbkhijigkmhhkaa
