/-
  A count is awake.
-/
import Derived.Test.YtjillamaceggeaaGreatB2d1cf34
set_option linter.unusedSimpArgs false
set_option linter.unusedVariables false
namespace Go.Proofs.YtjillamaceggeaaGreat
open Go Go.Sim
set_option linter.unusedSimpArgs false
set_option linter.unusedVariables false
set_option maxHeartbeats 10000000
set_option maxRecDepth 100000
namespace Aw
def invC : D := .agg [.int .i64 7, .int .i64 0, .int .i64 0, .int .i64 0, .int .i64 0, .int .i64 0, .sl [], .sl []]
def resC : D := .agg [.int .i64 0, .int .i64 0, .sl [], .sl [], .int .i64 2, .int .i64 0, .int .i64 0]
def evC : D := .agg [.int .i64 4, .int .i64 1, .int .i64 0, .int .i64 8, .int .i64 0, .int .i64 0, .int .i64 0, .sl [], .int .i64 2, .int .i64 0]
theorem run_0 : callF G 60 N_law22_run [.d (aE 0 0), .d (setQ 0), .d invC, .d (.int .i64 0)] [] = some (.d (.tup [aE 0 0, .sl [resC], .sl [evC], .int .i64 6]), []) := by kernel_rfl
theorem awake_ok : callL G N_law22_awake [] [] = some (.d (.bool true), []) := by
  have cl : ∀ {f : FuncId} {args : List Go.Sim.AV} {os : Heap} {p : Go.Sim.AV × Heap}, callF G 60 f args os = some p → callL G f args os = some p := fun h => callL_iff.2 ⟨60, h⟩
  have h1 := cl two_c
  have h2 := load_E 0 (cl new_0) (cl inv_0) (cl fin_0) (cl inv_1) (cl fin_1)
  have h3 := cl run_0
  clear cl
  simp only [aE, aQ, setQ, invC, resC, evC] at *
  generalize slQ 0 = A, stQ 0 = B, dQ1 = C, dQ2 = F at *
  rw [callL_code g_law22_awake (by simp)]; simp -implicitDefEqProofs (maxSteps := 4000000) (disch := omega) only [c_law22_awake, r_law22_awake, getDT, go_sem, *]; (try simp only [pA, pB, pC, pD, pE, pF, pG, pH, pI, pJ, pK, pL, pM, pN, pO, pP, if_true, if_false]); repeat' (first | done | rfl | ((first | refine iteC (fun hq => ?_) (fun hq => ?_) | refine iteP (fun hq => ?_) (fun hq => ?_)) <;> (try (first | (exfalso; omega) | contradiction)) <;> (try simp -implicitDefEqProofs (maxSteps := 4000000) (disch := omega) only [getDT, go_sem, *]) <;> (try simp only [pA, pB, pC, pD, pE, pF, pG, pH, pI, pJ, pK, pL, pM, pN, pO, pP, if_true, if_false]))); (all_goals try rfl); (all_goals try (repeat' (first | done | rfl | (exfalso; omega) | contradiction | (refine iteR (fun hq => ?_) (fun hq => ?_)))))
end Aw
end Go.Proofs.YtjillamaceggeaaGreat
