/-
  A count behind a purge: the law.
-/
import Derived.Test.YtjillamaceggeaaGreatB48276cd
import Derived.Test.YtjillamaceggeaaGreatBdf24c13
import Derived.Test.YtjillamaceggeaaGreatB791f0df
import Derived.Test.YtjillamaceggeaaGreatBf9ddbf4
import Derived.Test.YtjillamaceggeaaGreatBfe354a6
import Derived.Test.YtjillamaceggeaaGreatBa364182
import Derived.Test.YtjillamaceggeaaGreatB255134b
set_option linter.unusedSimpArgs false
set_option linter.unusedVariables false
namespace Go.Proofs.YtjillamaceggeaaGreat
open Go Go.Sim
set_option linter.unusedSimpArgs false
set_option linter.unusedVariables false
set_option maxHeartbeats 10000000
set_option maxRecDepth 100000
theorem cl {f : FuncId} {args : List AV} {os : Heap} {p : AV × Heap} (h : callF G 60 f args os = some p) : callL G f args os = some p := callL_iff.2 ⟨60, h⟩
theorem load_0 : callL G N_base_Loaded [.d u6, .d (.int .i64 0)] [] = some (.d a0, []) := by
  have h0 := cl new_c
  simp only [W0, a0, u6, inv1] at *
  generalize d3 = x3, d4 = x4, d5 = x5, d6 = x6 at *
  rw [callL_code g_base_Loaded (by simp)]; simp -implicitDefEqProofs (maxSteps := 4000000) (disch := omega) only [c_base_Loaded, r_base_Loaded, loopL_eq, l_base_Loaded_0, getDT, go_sem, *]; (try simp only [pA, pB, pC, pD, pE, pF, pG, pH, pI, pJ, pK, pL, pM, pN, pO, pP, if_true, if_false]); repeat' (first | done | rfl | ((first | refine iteC (fun hq => ?_) (fun hq => ?_) | refine iteP (fun hq => ?_) (fun hq => ?_)) <;> (try (first | (exfalso; omega) | contradiction)) <;> (try simp -implicitDefEqProofs (maxSteps := 4000000) (disch := omega) only [loopL_eq, l_base_Loaded_0, getDT, go_sem, *]) <;> (try simp only [pA, pB, pC, pD, pE, pF, pG, pH, pI, pJ, pK, pL, pM, pN, pO, pP, if_true, if_false]))); (all_goals try rfl); (all_goals try (repeat' (first | done | rfl | (exfalso; omega) | contradiction | (refine iteR (fun hq => ?_) (fun hq => ?_)))))
theorem load_1 : callL G N_base_Loaded [.d u6, .d (.int .i64 1)] [] = some (.d a1, []) := by
  have h0 := cl new_c
  have i0 := cl inv_0
  have f0 := fin_0
  simp only [W0, W0_13, W0_0, a1, u6, inv1] at *
  generalize d3 = x3, d4 = x4, d5 = x5, d6 = x6, d47 = x47, d43 = x43, d50 = x50, d38 = x38, d8 = x8 at *
  rw [callL_code g_base_Loaded (by simp)]; simp -implicitDefEqProofs (maxSteps := 4000000) (disch := omega) only [c_base_Loaded, r_base_Loaded, loopL_eq, l_base_Loaded_0, getDT, go_sem, *]; (try simp only [pA, pB, pC, pD, pE, pF, pG, pH, pI, pJ, pK, pL, pM, pN, pO, pP, if_true, if_false]); repeat' (first | done | rfl | ((first | refine iteC (fun hq => ?_) (fun hq => ?_) | refine iteP (fun hq => ?_) (fun hq => ?_)) <;> (try (first | (exfalso; omega) | contradiction)) <;> (try simp -implicitDefEqProofs (maxSteps := 4000000) (disch := omega) only [loopL_eq, l_base_Loaded_0, getDT, go_sem, *]) <;> (try simp only [pA, pB, pC, pD, pE, pF, pG, pH, pI, pJ, pK, pL, pM, pN, pO, pP, if_true, if_false]))); (all_goals try rfl); (all_goals try (repeat' (first | done | rfl | (exfalso; omega) | contradiction | (refine iteR (fun hq => ?_) (fun hq => ?_)))))
theorem load_2 : callL G N_base_Loaded [.d u6, .d (.int .i64 2)] [] = some (.d a2, []) := by
  have h0 := cl new_c
  have i0 := cl inv_0
  have f0 := fin_0
  have i1 := cl inv_1
  have f1 := fin_1
  simp only [W0, W0_13, W1_13, W0_0, W1_0, a2, u6, inv1] at *
  generalize d3 = x3, d4 = x4, d5 = x5, d6 = x6, d47 = x47, d43 = x43, d50 = x50, d38 = x38, d89 = x89, d85 = x85, d92 = x92, d80 = x80, d8 = x8, d52 = x52 at *
  rw [callL_code g_base_Loaded (by simp)]; simp -implicitDefEqProofs (maxSteps := 4000000) (disch := omega) only [c_base_Loaded, r_base_Loaded, loopL_eq, l_base_Loaded_0, getDT, go_sem, *]; (try simp only [pA, pB, pC, pD, pE, pF, pG, pH, pI, pJ, pK, pL, pM, pN, pO, pP, if_true, if_false]); repeat' (first | done | rfl | ((first | refine iteC (fun hq => ?_) (fun hq => ?_) | refine iteP (fun hq => ?_) (fun hq => ?_)) <;> (try (first | (exfalso; omega) | contradiction)) <;> (try simp -implicitDefEqProofs (maxSteps := 4000000) (disch := omega) only [loopL_eq, l_base_Loaded_0, getDT, go_sem, *]) <;> (try simp only [pA, pB, pC, pD, pE, pF, pG, pH, pI, pJ, pK, pL, pM, pN, pO, pP, if_true, if_false]))); (all_goals try rfl); (all_goals try (repeat' (first | done | rfl | (exfalso; omega) | contradiction | (refine iteR (fun hq => ?_) (fun hq => ?_)))))
theorem load_3 : callL G N_base_Loaded [.d u6, .d (.int .i64 3)] [] = some (.d a3, []) := by
  have h0 := cl new_c
  have i0 := cl inv_0
  have f0 := fin_0
  have i1 := cl inv_1
  have f1 := fin_1
  have i2 := cl inv_2
  have f2 := fin_2
  simp only [W0, W0_13, W1_13, W2_13, W0_0, W1_0, W2_0, a3, u6, inv1] at *
  generalize d3 = x3, d4 = x4, d5 = x5, d6 = x6, d47 = x47, d43 = x43, d50 = x50, d38 = x38, d89 = x89, d85 = x85, d92 = x92, d80 = x80, d131 = x131, d127 = x127, d134 = x134, d122 = x122, d8 = x8, d52 = x52, d94 = x94 at *
  rw [callL_code g_base_Loaded (by simp)]; simp -implicitDefEqProofs (maxSteps := 4000000) (disch := omega) only [c_base_Loaded, r_base_Loaded, loopL_eq, l_base_Loaded_0, getDT, go_sem, *]; (try simp only [pA, pB, pC, pD, pE, pF, pG, pH, pI, pJ, pK, pL, pM, pN, pO, pP, if_true, if_false]); repeat' (first | done | rfl | ((first | refine iteC (fun hq => ?_) (fun hq => ?_) | refine iteP (fun hq => ?_) (fun hq => ?_)) <;> (try (first | (exfalso; omega) | contradiction)) <;> (try simp -implicitDefEqProofs (maxSteps := 4000000) (disch := omega) only [loopL_eq, l_base_Loaded_0, getDT, go_sem, *]) <;> (try simp only [pA, pB, pC, pD, pE, pF, pG, pH, pI, pJ, pK, pL, pM, pN, pO, pP, if_true, if_false]))); (all_goals try rfl); (all_goals try (repeat' (first | done | rfl | (exfalso; omega) | contradiction | (refine iteR (fun hq => ?_) (fun hq => ?_)))))
theorem load_4 : callL G N_base_Loaded [.d u6, .d (.int .i64 4)] [] = some (.d a4, []) := by
  have h0 := cl new_c
  have i0 := cl inv_0
  have f0 := fin_0
  have i1 := cl inv_1
  have f1 := fin_1
  have i2 := cl inv_2
  have f2 := fin_2
  have i3 := cl inv_3
  have f3 := fin_3
  simp only [W0, W0_13, W1_13, W2_13, W3_13, W0_0, W1_0, W2_0, W3_0, a4, u6, inv1] at *
  generalize d3 = x3, d4 = x4, d5 = x5, d6 = x6, d47 = x47, d43 = x43, d50 = x50, d38 = x38, d89 = x89, d85 = x85, d92 = x92, d80 = x80, d131 = x131, d127 = x127, d134 = x134, d122 = x122, d173 = x173, d169 = x169, d176 = x176, d164 = x164, d8 = x8, d52 = x52, d94 = x94, d136 = x136 at *
  rw [callL_code g_base_Loaded (by simp)]; simp -implicitDefEqProofs (maxSteps := 4000000) (disch := omega) only [c_base_Loaded, r_base_Loaded, loopL_eq, l_base_Loaded_0, getDT, go_sem, *]; (try simp only [pA, pB, pC, pD, pE, pF, pG, pH, pI, pJ, pK, pL, pM, pN, pO, pP, if_true, if_false]); repeat' (first | done | rfl | ((first | refine iteC (fun hq => ?_) (fun hq => ?_) | refine iteP (fun hq => ?_) (fun hq => ?_)) <;> (try (first | (exfalso; omega) | contradiction)) <;> (try simp -implicitDefEqProofs (maxSteps := 4000000) (disch := omega) only [loopL_eq, l_base_Loaded_0, getDT, go_sem, *]) <;> (try simp only [pA, pB, pC, pD, pE, pF, pG, pH, pI, pJ, pK, pL, pM, pN, pO, pP, if_true, if_false]))); (all_goals try rfl); (all_goals try (repeat' (first | done | rfl | (exfalso; omega) | contradiction | (refine iteR (fun hq => ?_) (fun hq => ?_)))))
theorem load_5 : callL G N_base_Loaded [.d u6, .d (.int .i64 5)] [] = some (.d a5, []) := by
  have h0 := cl new_c
  have i0 := cl inv_0
  have f0 := fin_0
  have i1 := cl inv_1
  have f1 := fin_1
  have i2 := cl inv_2
  have f2 := fin_2
  have i3 := cl inv_3
  have f3 := fin_3
  have i4 := cl inv_4
  have f4 := fin_4
  simp only [W0, W0_13, W1_13, W2_13, W3_13, W4_13, W0_0, W1_0, W2_0, W3_0, W4_0, a5, u6, inv1] at *
  generalize d3 = x3, d4 = x4, d5 = x5, d6 = x6, d47 = x47, d43 = x43, d50 = x50, d38 = x38, d89 = x89, d85 = x85, d92 = x92, d80 = x80, d131 = x131, d127 = x127, d134 = x134, d122 = x122, d173 = x173, d169 = x169, d176 = x176, d164 = x164, d215 = x215, d211 = x211, d218 = x218, d206 = x206, d8 = x8, d52 = x52, d94 = x94, d136 = x136, d178 = x178 at *
  rw [callL_code g_base_Loaded (by simp)]; simp -implicitDefEqProofs (maxSteps := 4000000) (disch := omega) only [c_base_Loaded, r_base_Loaded, loopL_eq, l_base_Loaded_0, getDT, go_sem, *]; (try simp only [pA, pB, pC, pD, pE, pF, pG, pH, pI, pJ, pK, pL, pM, pN, pO, pP, if_true, if_false]); repeat' (first | done | rfl | ((first | refine iteC (fun hq => ?_) (fun hq => ?_) | refine iteP (fun hq => ?_) (fun hq => ?_)) <;> (try (first | (exfalso; omega) | contradiction)) <;> (try simp -implicitDefEqProofs (maxSteps := 4000000) (disch := omega) only [loopL_eq, l_base_Loaded_0, getDT, go_sem, *]) <;> (try simp only [pA, pB, pC, pD, pE, pF, pG, pH, pI, pJ, pK, pL, pM, pN, pO, pP, if_true, if_false]))); (all_goals try rfl); (all_goals try (repeat' (first | done | rfl | (exfalso; omega) | contradiction | (refine iteR (fun hq => ?_) (fun hq => ?_)))))
theorem load_6 : callL G N_base_Loaded [.d u6, .d (.int .i64 6)] [] = some (.d a6, []) := by
  have h0 := cl new_c
  have i0 := cl inv_0
  have f0 := fin_0
  have i1 := cl inv_1
  have f1 := fin_1
  have i2 := cl inv_2
  have f2 := fin_2
  have i3 := cl inv_3
  have f3 := fin_3
  have i4 := cl inv_4
  have f4 := fin_4
  have i5 := cl inv_5
  have f5 := fin_5
  simp only [W0, W0_13, W1_13, W2_13, W3_13, W4_13, W5_13, W0_0, W1_0, W2_0, W3_0, W4_0, W5_0, a6, u6, inv1] at *
  generalize d3 = x3, d4 = x4, d5 = x5, d6 = x6, d47 = x47, d43 = x43, d50 = x50, d38 = x38, d89 = x89, d85 = x85, d92 = x92, d80 = x80, d131 = x131, d127 = x127, d134 = x134, d122 = x122, d173 = x173, d169 = x169, d176 = x176, d164 = x164, d215 = x215, d211 = x211, d218 = x218, d206 = x206, d257 = x257, d253 = x253, d260 = x260, d248 = x248, d8 = x8, d52 = x52, d94 = x94, d136 = x136, d178 = x178, d220 = x220 at *
  rw [callL_code g_base_Loaded (by simp)]; simp -implicitDefEqProofs (maxSteps := 4000000) (disch := omega) only [c_base_Loaded, r_base_Loaded, loopL_eq, l_base_Loaded_0, getDT, go_sem, *]; (try simp only [pA, pB, pC, pD, pE, pF, pG, pH, pI, pJ, pK, pL, pM, pN, pO, pP, if_true, if_false]); repeat' (first | done | rfl | ((first | refine iteC (fun hq => ?_) (fun hq => ?_) | refine iteP (fun hq => ?_) (fun hq => ?_)) <;> (try (first | (exfalso; omega) | contradiction)) <;> (try simp -implicitDefEqProofs (maxSteps := 4000000) (disch := omega) only [loopL_eq, l_base_Loaded_0, getDT, go_sem, *]) <;> (try simp only [pA, pB, pC, pD, pE, pF, pG, pH, pI, pJ, pK, pL, pM, pN, pO, pP, if_true, if_false]))); (all_goals try rfl); (all_goals try (repeat' (first | done | rfl | (exfalso; omega) | contradiction | (refine iteR (fun hq => ?_) (fun hq => ?_)))))
theorem load_7 : callL G N_base_Loaded [.d u6, .d (.int .i64 7)] [] = some (.d a7, []) := by
  have h0 := cl new_c
  have i0 := cl inv_0
  have f0 := fin_0
  have i1 := cl inv_1
  have f1 := fin_1
  have i2 := cl inv_2
  have f2 := fin_2
  have i3 := cl inv_3
  have f3 := fin_3
  have i4 := cl inv_4
  have f4 := fin_4
  have i5 := cl inv_5
  have f5 := fin_5
  have i6 := cl inv_6
  have f6 := fin_6
  simp only [W0, W0_13, W1_13, W2_13, W3_13, W4_13, W5_13, W6_23, W0_0, W1_0, W2_0, W3_0, W4_0, W5_0, W6_0, a7, u6, inv1] at *
  generalize d3 = x3, d4 = x4, d5 = x5, d6 = x6, d47 = x47, d43 = x43, d50 = x50, d38 = x38, d89 = x89, d85 = x85, d92 = x92, d80 = x80, d131 = x131, d127 = x127, d134 = x134, d122 = x122, d173 = x173, d169 = x169, d176 = x176, d164 = x164, d215 = x215, d211 = x211, d218 = x218, d206 = x206, d257 = x257, d253 = x253, d260 = x260, d248 = x248, d325 = x325, d321 = x321, d328 = x328, d316 = x316, d8 = x8, d52 = x52, d94 = x94, d136 = x136, d178 = x178, d220 = x220, d262 = x262 at *
  rw [callL_code g_base_Loaded (by simp)]; simp -implicitDefEqProofs (maxSteps := 4000000) (disch := omega) only [c_base_Loaded, r_base_Loaded, loopL_eq, l_base_Loaded_0, getDT, go_sem, *]; (try simp only [pA, pB, pC, pD, pE, pF, pG, pH, pI, pJ, pK, pL, pM, pN, pO, pP, if_true, if_false]); repeat' (first | done | rfl | ((first | refine iteC (fun hq => ?_) (fun hq => ?_) | refine iteP (fun hq => ?_) (fun hq => ?_)) <;> (try (first | (exfalso; omega) | contradiction)) <;> (try simp -implicitDefEqProofs (maxSteps := 4000000) (disch := omega) only [loopL_eq, l_base_Loaded_0, getDT, go_sem, *]) <;> (try simp only [pA, pB, pC, pD, pE, pF, pG, pH, pI, pJ, pK, pL, pM, pN, pO, pP, if_true, if_false]))); (all_goals try rfl); (all_goals try (repeat' (first | done | rfl | (exfalso; omega) | contradiction | (refine iteR (fun hq => ?_) (fun hq => ?_)))))
theorem purged_k (n : Nat) (k : Int) (a b : D) (A B C F : D) (id : Int) (ha : a = .agg [A, B, .int .i64 0, .int .i64 3, .sl [], .int .i64 1, C, F, .int .i64 0, .int .i64 0, .int .i64 id]) (hb : b = .agg [A, B, .int .i64 0, .int .i64 3, .sl [], .int .i64 1, C, F, .int .i64 1, .int .i64 0, .int .i64 id])
    (hk : 0 ≤ k ∧ k ≤ 7) (hn : (n : Int).tmod 8 = k) (hl : callL G N_base_Loaded [.d u6, .d (.int .i64 k)] [] = some (.d a, [])) (hr : callL G N_law22_run [.d b, .d u6, .d invC, .d (.int .i64 0)] [] = some (.d (.tup [b, .sl [resC], .sl [evC], .int .i64 6]), [])) :
    callL G N_law22_CountPurged [.d (.int .u8 n)] [] = some (.d (.bool true), []) := by
  have h1 := cl two_c
  have h2 := Aw.awake_ok
  simp only [ha, hb, u6, invC, resC, evC] at *
  rw [callL_code g_law22_CountPurged (by simp)]; simp -implicitDefEqProofs (maxSteps := 4000000) (disch := omega) only [c_law22_CountPurged, r_law22_CountPurged, getDT, go_sem, *]; (try simp only [pA, pB, pC, pD, pE, pF, pG, pH, pI, pJ, pK, pL, pM, pN, pO, pP, if_true, if_false]); repeat' (first | done | rfl | ((first | refine iteC (fun hq => ?_) (fun hq => ?_) | refine iteP (fun hq => ?_) (fun hq => ?_)) <;> (try (first | (exfalso; omega) | contradiction)) <;> (try simp -implicitDefEqProofs (maxSteps := 4000000) (disch := omega) only [getDT, go_sem, *]) <;> (try simp only [pA, pB, pC, pD, pE, pF, pG, pH, pI, pJ, pK, pL, pM, pN, pO, pP, if_true, if_false]))); (all_goals try rfl); (all_goals try (repeat' (first | done | rfl | (exfalso; omega) | contradiction | (refine iteR (fun hq => ?_) (fun hq => ?_)))))
theorem purged_ok (n : Nat) (h : n < 256) : callL G N_law22_CountPurged [.d (.int .u8 n)] [] = some (.d (.bool true), []) := by
  have hx : (n : Int).tmod 8 = ((n % 8 : Nat) : Int) := by rw [Int.tmod_eq_emod_of_nonneg (by omega)]; omega
  have hk : n % 8 = 0 ∨ n % 8 = 1 ∨ n % 8 = 2 ∨ n % 8 = 3 ∨ n % 8 = 4 ∨ n % 8 = 5 ∨ n % 8 = 6 ∨ n % 8 = 7 := by omega
  rcases hk with hk | hk | hk | hk | hk | hk | hk | hk
  · rw [hk] at hx
    exact purged_k n 0 a0 b0 _ _ _ _ _ rfl rfl (by omega) hx load_0 (cl run_0)
  · rw [hk] at hx
    exact purged_k n 1 a1 b1 _ _ _ _ _ rfl rfl (by omega) hx load_1 (cl run_1)
  · rw [hk] at hx
    exact purged_k n 2 a2 b2 _ _ _ _ _ rfl rfl (by omega) hx load_2 (cl run_2)
  · rw [hk] at hx
    exact purged_k n 3 a3 b3 _ _ _ _ _ rfl rfl (by omega) hx load_3 (cl run_3)
  · rw [hk] at hx
    exact purged_k n 4 a4 b4 _ _ _ _ _ rfl rfl (by omega) hx load_4 (cl run_4)
  · rw [hk] at hx
    exact purged_k n 5 a5 b5 _ _ _ _ _ rfl rfl (by omega) hx load_5 (cl run_5)
  · rw [hk] at hx
    exact purged_k n 6 a6 b6 _ _ _ _ _ rfl rfl (by omega) hx load_6 (cl run_6)
  · rw [hk] at hx
    exact purged_k n 7 a7 b7 _ _ _ _ _ rfl rfl (by omega) hx load_7 (cl run_7)
end Go.Proofs.YtjillamaceggeaaGreat
