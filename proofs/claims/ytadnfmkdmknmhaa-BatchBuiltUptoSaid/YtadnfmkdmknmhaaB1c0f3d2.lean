/-
  The law of built batches: one round of its loop.
  The law of built batches: one round of its loop.
  The law of built batches.
-/
import Derived.Test.YtadnfmkdmknmhaaB63792fc
set_option linter.unusedSimpArgs false
set_option linter.unusedVariables false
namespace Go.Proofs.Ytadnfmkdmknmhaa
open Go Go.Sim
set_option linter.unusedSimpArgs false
set_option linter.unusedVariables false
set_option maxHeartbeats 10000000
set_option maxRecDepth 40000
theorem bb_roundR (l : List Int) (hL : l.length ≤ 4000) (x : Setup) (hx : okSetup x = true) (hs : 1 ≤ x.slots ∧ x.slots ≤ 6) (k a a1 : Nat) (hk : k < 6) (ck cp cb ik i2 im iv i5 i6 : Int) (r : Ref) (rs : List Ref) (L : St → Option (AExit × St)) (ih : ∀ a', L (bbS l x (k + 1, a')) = some (.exit 0, ⟨[], []⟩)) (hcmd : callL G N_base_Src_Command [.ref 1000000 0 0] [(1000000, srcO l a)] = some (.agg [.d (.int .i64 ck), .d (.int .i64 cp), .d (.int .i64 cb), .d (.int .i64 ik), .d (.int .i64 i2), .d (.int .i64 im), .d (.int .i64 iv), .d (.int .i64 i5), .d (.int .i64 i6), .xsl [], .xsl [], .osl 0 0 (rs.length + 1)], (1000000, srcO l a1) :: [(0, .row (AV.d (eRef r) :: (rs.map eRef).map .d))])) : (exL G l_law17_BatchBuilt_2 (bbS l x (k, a))).bind (loopF [] L) = some (.exit 0, ⟨[], []⟩) := by
  have hn := fun at1 m => n_ok l at1 m hL
  have hr16 := fun at1 => range_ok l at1 0 15 hL (by omega) (by omega) (by omega) (by omega)
  have hr7 := fun at1 => range_ok l at1 (-1) 5 hL (by omega) (by omega) (by omega) (by omega)
  have hr11 := fun at1 => range_ok l at1 (-1) 9 hL (by omega) (by omega) (by omega) (by omega)
  simp only [Int.zero_add, Int.sub_zero, Int.reduceAdd, Int.reduceSub, Int.reduceNeg] at hr16 hr7 hr11
  have p1 := fun at1 => pickF_ok l at1 [0, 6, 7] hL (by simp) (by simp)
  have p2 := fun at1 => pickF_ok l at1 [-1, 1000, 1001] hL (by simp) (by simp)
  have p5 := fun at1 => pickF_ok l at1 [1, 5, 200, 0, 201] hL (by simp) (by simp)
  simp only [ints, List.map_cons, List.map_nil] at p1 p2 p5
  have ss := eSetup_size x
  have si := eSetup_isT x
  have sa := eSetup_asAgg x
  obtain ⟨Rf, Ef, Vf, Nf, f1, f2, f3, f4, f5, f6, f7, f8, f9, f10⟩ := inv_facts x hx hs [] [] (by simp) (by simp)
  simp only [iD, List.map_nil, List.map_cons] at f4 f5 f6 f7 f8 f9 f10
  simp only [bbS, srcO, List.append_nil, List.nil_append] at hcmd ih ⊢
  simp only [Int.natCast_add, Int.natCast_one, Int.natCast_zero, Int.natCast_mul, Int.cast_ofNat_Int, List.length_append, List.length_map, List.map_nil, List.length_nil, List.map_append, List.map_cons, List.length_cons, Nat.zero_add, srcO, mapSet] at ih
  obtain ⟨a2, q2⟩ : ∃ a2, (rawD l a1).2 = a2 := ⟨_, rfl⟩
  by_cases n1 : nD l a1 3 = 0
  · obtain ⟨a3, q3⟩ : ∃ a3, (rawD l a2).2 = a3 := ⟨_, rfl⟩
    have n8 := nD_in l a3 (n := 8) (by omega)
    obtain ⟨a5, q5⟩ : ∃ a5, (rawD l a3).2 = a5 := ⟨_, rfl⟩
    obtain ⟨a6, q6⟩ : ∃ a6, (rawD l a5).2 = a6 := ⟨_, rfl⟩
    have n9 := nD_in l a5 (n := 9) (by omega)
    by_cases w4 : nD l a3 8 = 4
    · obtain ⟨j, hj⟩ : ∃ j : Nat, nD l a5 9 = j := ⟨(nD l a5 9).toNat, by omega⟩
      by_cases j0 : j = 0
      · subst j0
        have hl := bt_N_z l x k (nD l a2 16) i2 im iv i5 i6 a6
        clear p1 p2 hr7 n9
        simp only [l_law17_BatchBuilt_2]
        generalize hF : loopL G [] l_law17_BatchBuilt_0 = F at *
        simp only [e0S, e1R, iA, srcO, Int.natCast_zero] at hl hj
        (try simp -implicitDefEqProofs (maxSteps := 4000000) (disch := omega) only [getDT, go_sem, *]); (try simp only [pA, pB, pC, pD, pE, pF, pG, pH, pI, pJ, pK, pL, pM, pN, pO, pP, if_true, if_false]); repeat' (first | done | rfl | ((first | refine iteC (fun hq => ?_) (fun hq => ?_) | refine iteP (fun hq => ?_) (fun hq => ?_)) <;> (try (first | (exfalso; omega) | contradiction)) <;> (try simp -implicitDefEqProofs (maxSteps := 4000000) (disch := omega) only [getDT, go_sem, *]) <;> (try simp only [pA, pB, pC, pD, pE, pF, pG, pH, pI, pJ, pK, pL, pM, pN, pO, pP, if_true, if_false]))); (all_goals try rfl); (all_goals try (repeat' (first | done | rfl | (exfalso; omega) | contradiction | (refine iteR (fun hq => ?_) (fun hq => ?_)))))
      · obtain ⟨ts, hts, hl⟩ := bt_N1 l x k (nD l a2 16) i2 im iv i5 i6 a6 j (by omega) (by omega)
        clear f1 f2 f3 f4 f5 f6 f7 f8 f9 f10
        clear Rf Ef Vf Nf
        obtain ⟨Rf, Ef, Vf, Nf, f1, f2, f3, f4, f5, f6, f7, f8, f9, f10⟩ := inv_facts x hx hs [] ts (by simp) (by omega)
        simp only [iD, List.map_nil, List.map_cons] at f4 f5 f6 f7 f8 f9 f10
        clear p1 p2 hr7 n9 j0 hts
        simp only [l_law17_BatchBuilt_2]
        generalize hF : loopL G [] l_law17_BatchBuilt_0 = F at *
        simp only [e0S, e1R, iA, t0H, srcO] at hl
        (try simp -implicitDefEqProofs (maxSteps := 4000000) (disch := omega) only [getDT, go_sem, *]); (try simp only [pA, pB, pC, pD, pE, pF, pG, pH, pI, pJ, pK, pL, pM, pN, pO, pP, if_true, if_false]); repeat' (first | done | rfl | ((first | refine iteC (fun hq => ?_) (fun hq => ?_) | refine iteP (fun hq => ?_) (fun hq => ?_)) <;> (try (first | (exfalso; omega) | contradiction)) <;> (try simp -implicitDefEqProofs (maxSteps := 4000000) (disch := omega) only [getDT, go_sem, *]) <;> (try simp only [pA, pB, pC, pD, pE, pF, pG, pH, pI, pJ, pK, pL, pM, pN, pO, pP, if_true, if_false]))); (all_goals try rfl); (all_goals try (repeat' (first | done | rfl | (exfalso; omega) | contradiction | (refine iteR (fun hq => ?_) (fun hq => ?_)))))
    by_cases w5 : nD l a3 8 = 5
    · obtain ⟨j, hj⟩ : ∃ j : Nat, nD l a5 9 = j := ⟨(nD l a5 9).toNat, by omega⟩
      by_cases j0 : j = 0
      · subst j0
        have hl := bb_firstN_z l hL x k (nD l a2 16) i2 im iv i5 i6 a6
        clear p1 p2 hr7 n9
        simp only [l_law17_BatchBuilt_2]
        generalize hF : loopL G [] l_law17_BatchBuilt_1 = F at *
        simp only [e1S, e1R, iA, srcO, Int.natCast_zero] at hl hj
        (try simp -implicitDefEqProofs (maxSteps := 4000000) (disch := omega) only [getDT, go_sem, *]); (try simp only [pA, pB, pC, pD, pE, pF, pG, pH, pI, pJ, pK, pL, pM, pN, pO, pP, if_true, if_false]); repeat' (first | done | rfl | ((first | refine iteC (fun hq => ?_) (fun hq => ?_) | refine iteP (fun hq => ?_) (fun hq => ?_)) <;> (try (first | (exfalso; omega) | contradiction)) <;> (try simp -implicitDefEqProofs (maxSteps := 4000000) (disch := omega) only [getDT, go_sem, *]) <;> (try simp only [pA, pB, pC, pD, pE, pF, pG, pH, pI, pJ, pK, pL, pM, pN, pO, pP, if_true, if_false]))); (all_goals try rfl); (all_goals try (repeat' (first | done | rfl | (exfalso; omega) | contradiction | (refine iteR (fun hq => ?_) (fun hq => ?_)))))
      · obtain ⟨bs2, a7, hbs2, hl⟩ := bb_firstN l hL x k (nD l a2 16) i2 im iv i5 i6 a6 j (by omega) (by omega)
        clear f1 f2 f3 f4 f5 f6 f7 f8 f9 f10
        clear Rf Ef Vf Nf
        obtain ⟨Rf, Ef, Vf, Nf, f1, f2, f3, f4, f5, f6, f7, f8, f9, f10⟩ := inv_facts x hx hs bs2 [] (by omega) (by simp)
        simp only [iD, List.map_nil, List.map_cons] at f4 f5 f6 f7 f8 f9 f10
        clear p1 p2 hr7 n9 hbs2 j0
        simp only [l_law17_BatchBuilt_2]
        generalize hF : loopL G [] l_law17_BatchBuilt_1 = F at *
        simp only [e1S, e1R, iA, b1H, srcO] at hl
        (try simp -implicitDefEqProofs (maxSteps := 4000000) (disch := omega) only [getDT, go_sem, *]); (try simp only [pA, pB, pC, pD, pE, pF, pG, pH, pI, pJ, pK, pL, pM, pN, pO, pP, if_true, if_false]); repeat' (first | done | rfl | ((first | refine iteC (fun hq => ?_) (fun hq => ?_) | refine iteP (fun hq => ?_) (fun hq => ?_)) <;> (try (first | (exfalso; omega) | contradiction)) <;> (try simp -implicitDefEqProofs (maxSteps := 4000000) (disch := omega) only [getDT, go_sem, *]) <;> (try simp only [pA, pB, pC, pD, pE, pF, pG, pH, pI, pJ, pK, pL, pM, pN, pO, pP, if_true, if_false]))); (all_goals try rfl); (all_goals try (repeat' (first | done | rfl | (exfalso; omega) | contradiction | (refine iteR (fun hq => ?_) (fun hq => ?_)))))
    clear n9 q6 q5
    simp only [l_law17_BatchBuilt_2]
    have w : nD l a3 8 = 0 ∨ nD l a3 8 = 1 ∨ nD l a3 8 = 2 ∨ nD l a3 8 = 3 ∨ nD l a3 8 = 6 ∨ nD l a3 8 = 7 := by omega
    clear w4 w5 n8
    rcases w with w | w | w | w | w | w
    · (try simp -implicitDefEqProofs (maxSteps := 4000000) (disch := omega) only [getDT, go_sem, *]); (try simp only [pA, pB, pC, pD, pE, pF, pG, pH, pI, pJ, pK, pL, pM, pN, pO, pP, if_true, if_false]); repeat' (first | done | rfl | ((first | refine iteC (fun hq => ?_) (fun hq => ?_) | refine iteP (fun hq => ?_) (fun hq => ?_)) <;> (try (first | (exfalso; omega) | contradiction)) <;> (try simp -implicitDefEqProofs (maxSteps := 4000000) (disch := omega) only [getDT, go_sem, *]) <;> (try simp only [pA, pB, pC, pD, pE, pF, pG, pH, pI, pJ, pK, pL, pM, pN, pO, pP, if_true, if_false]))); (all_goals try rfl); (all_goals try (repeat' (first | done | rfl | (exfalso; omega) | contradiction | (refine iteR (fun hq => ?_) (fun hq => ?_)))))
    · (try simp -implicitDefEqProofs (maxSteps := 4000000) (disch := omega) only [getDT, go_sem, *]); (try simp only [pA, pB, pC, pD, pE, pF, pG, pH, pI, pJ, pK, pL, pM, pN, pO, pP, if_true, if_false]); repeat' (first | done | rfl | ((first | refine iteC (fun hq => ?_) (fun hq => ?_) | refine iteP (fun hq => ?_) (fun hq => ?_)) <;> (try (first | (exfalso; omega) | contradiction)) <;> (try simp -implicitDefEqProofs (maxSteps := 4000000) (disch := omega) only [getDT, go_sem, *]) <;> (try simp only [pA, pB, pC, pD, pE, pF, pG, pH, pI, pJ, pK, pL, pM, pN, pO, pP, if_true, if_false]))); (all_goals try rfl); (all_goals try (repeat' (first | done | rfl | (exfalso; omega) | contradiction | (refine iteR (fun hq => ?_) (fun hq => ?_)))))
    · (try simp -implicitDefEqProofs (maxSteps := 4000000) (disch := omega) only [getDT, go_sem, *]); (try simp only [pA, pB, pC, pD, pE, pF, pG, pH, pI, pJ, pK, pL, pM, pN, pO, pP, if_true, if_false]); repeat' (first | done | rfl | ((first | refine iteC (fun hq => ?_) (fun hq => ?_) | refine iteP (fun hq => ?_) (fun hq => ?_)) <;> (try (first | (exfalso; omega) | contradiction)) <;> (try simp -implicitDefEqProofs (maxSteps := 4000000) (disch := omega) only [getDT, go_sem, *]) <;> (try simp only [pA, pB, pC, pD, pE, pF, pG, pH, pI, pJ, pK, pL, pM, pN, pO, pP, if_true, if_false]))); (all_goals try rfl); (all_goals try (repeat' (first | done | rfl | (exfalso; omega) | contradiction | (refine iteR (fun hq => ?_) (fun hq => ?_)))))
    · (try simp -implicitDefEqProofs (maxSteps := 4000000) (disch := omega) only [getDT, go_sem, *]); (try simp only [pA, pB, pC, pD, pE, pF, pG, pH, pI, pJ, pK, pL, pM, pN, pO, pP, if_true, if_false]); repeat' (first | done | rfl | ((first | refine iteC (fun hq => ?_) (fun hq => ?_) | refine iteP (fun hq => ?_) (fun hq => ?_)) <;> (try (first | (exfalso; omega) | contradiction)) <;> (try simp -implicitDefEqProofs (maxSteps := 4000000) (disch := omega) only [getDT, go_sem, *]) <;> (try simp only [pA, pB, pC, pD, pE, pF, pG, pH, pI, pJ, pK, pL, pM, pN, pO, pP, if_true, if_false]))); (all_goals try rfl); (all_goals try (repeat' (first | done | rfl | (exfalso; omega) | contradiction | (refine iteR (fun hq => ?_) (fun hq => ?_)))))
    · (try simp -implicitDefEqProofs (maxSteps := 4000000) (disch := omega) only [getDT, go_sem, *]); (try simp only [pA, pB, pC, pD, pE, pF, pG, pH, pI, pJ, pK, pL, pM, pN, pO, pP, if_true, if_false]); repeat' (first | done | rfl | ((first | refine iteC (fun hq => ?_) (fun hq => ?_) | refine iteP (fun hq => ?_) (fun hq => ?_)) <;> (try (first | (exfalso; omega) | contradiction)) <;> (try simp -implicitDefEqProofs (maxSteps := 4000000) (disch := omega) only [getDT, go_sem, *]) <;> (try simp only [pA, pB, pC, pD, pE, pF, pG, pH, pI, pJ, pK, pL, pM, pN, pO, pP, if_true, if_false]))); (all_goals try rfl); (all_goals try (repeat' (first | done | rfl | (exfalso; omega) | contradiction | (refine iteR (fun hq => ?_) (fun hq => ?_)))))
    · (try simp -implicitDefEqProofs (maxSteps := 4000000) (disch := omega) only [getDT, go_sem, *]); (try simp only [pA, pB, pC, pD, pE, pF, pG, pH, pI, pJ, pK, pL, pM, pN, pO, pP, if_true, if_false]); repeat' (first | done | rfl | ((first | refine iteC (fun hq => ?_) (fun hq => ?_) | refine iteP (fun hq => ?_) (fun hq => ?_)) <;> (try (first | (exfalso; omega) | contradiction)) <;> (try simp -implicitDefEqProofs (maxSteps := 4000000) (disch := omega) only [getDT, go_sem, *]) <;> (try simp only [pA, pB, pC, pD, pE, pF, pG, pH, pI, pJ, pK, pL, pM, pN, pO, pP, if_true, if_false]))); (all_goals try rfl); (all_goals try (repeat' (first | done | rfl | (exfalso; omega) | contradiction | (refine iteR (fun hq => ?_) (fun hq => ?_)))))
  · have a3 := 0
    have n8 := nD_in l a2 (n := 8) (by omega)
    obtain ⟨a5, q5⟩ : ∃ a5, (rawD l a2).2 = a5 := ⟨_, rfl⟩
    obtain ⟨a6, q6⟩ : ∃ a6, (rawD l a5).2 = a6 := ⟨_, rfl⟩
    have n9 := nD_in l a5 (n := 9) (by omega)
    by_cases w4 : nD l a2 8 = 4
    · obtain ⟨j, hj⟩ : ∃ j : Nat, nD l a5 9 = j := ⟨(nD l a5 9).toNat, by omega⟩
      by_cases j0 : j = 0
      · subst j0
        have hl := bt_N_z l x k ik i2 im iv i5 i6 a6
        clear p1 p2 hr7 n9
        simp only [l_law17_BatchBuilt_2]
        generalize hF : loopL G [] l_law17_BatchBuilt_0 = F at *
        simp only [e0S, e1R, iA, srcO, Int.natCast_zero] at hl hj
        (try simp -implicitDefEqProofs (maxSteps := 4000000) (disch := omega) only [getDT, go_sem, *]); (try simp only [pA, pB, pC, pD, pE, pF, pG, pH, pI, pJ, pK, pL, pM, pN, pO, pP, if_true, if_false]); repeat' (first | done | rfl | ((first | refine iteC (fun hq => ?_) (fun hq => ?_) | refine iteP (fun hq => ?_) (fun hq => ?_)) <;> (try (first | (exfalso; omega) | contradiction)) <;> (try simp -implicitDefEqProofs (maxSteps := 4000000) (disch := omega) only [getDT, go_sem, *]) <;> (try simp only [pA, pB, pC, pD, pE, pF, pG, pH, pI, pJ, pK, pL, pM, pN, pO, pP, if_true, if_false]))); (all_goals try rfl); (all_goals try (repeat' (first | done | rfl | (exfalso; omega) | contradiction | (refine iteR (fun hq => ?_) (fun hq => ?_)))))
      · obtain ⟨ts, hts, hl⟩ := bt_N1 l x k ik i2 im iv i5 i6 a6 j (by omega) (by omega)
        clear f1 f2 f3 f4 f5 f6 f7 f8 f9 f10
        clear Rf Ef Vf Nf
        obtain ⟨Rf, Ef, Vf, Nf, f1, f2, f3, f4, f5, f6, f7, f8, f9, f10⟩ := inv_facts x hx hs [] ts (by simp) (by omega)
        simp only [iD, List.map_nil, List.map_cons] at f4 f5 f6 f7 f8 f9 f10
        clear p1 p2 hr7 n9 j0 hts
        simp only [l_law17_BatchBuilt_2]
        generalize hF : loopL G [] l_law17_BatchBuilt_0 = F at *
        simp only [e0S, e1R, iA, t0H, srcO] at hl
        (try simp -implicitDefEqProofs (maxSteps := 4000000) (disch := omega) only [getDT, go_sem, *]); (try simp only [pA, pB, pC, pD, pE, pF, pG, pH, pI, pJ, pK, pL, pM, pN, pO, pP, if_true, if_false]); repeat' (first | done | rfl | ((first | refine iteC (fun hq => ?_) (fun hq => ?_) | refine iteP (fun hq => ?_) (fun hq => ?_)) <;> (try (first | (exfalso; omega) | contradiction)) <;> (try simp -implicitDefEqProofs (maxSteps := 4000000) (disch := omega) only [getDT, go_sem, *]) <;> (try simp only [pA, pB, pC, pD, pE, pF, pG, pH, pI, pJ, pK, pL, pM, pN, pO, pP, if_true, if_false]))); (all_goals try rfl); (all_goals try (repeat' (first | done | rfl | (exfalso; omega) | contradiction | (refine iteR (fun hq => ?_) (fun hq => ?_)))))
    by_cases w5 : nD l a2 8 = 5
    · obtain ⟨j, hj⟩ : ∃ j : Nat, nD l a5 9 = j := ⟨(nD l a5 9).toNat, by omega⟩
      by_cases j0 : j = 0
      · subst j0
        have hl := bb_firstN_z l hL x k ik i2 im iv i5 i6 a6
        clear p1 p2 hr7 n9
        simp only [l_law17_BatchBuilt_2]
        generalize hF : loopL G [] l_law17_BatchBuilt_1 = F at *
        simp only [e1S, e1R, iA, srcO, Int.natCast_zero] at hl hj
        (try simp -implicitDefEqProofs (maxSteps := 4000000) (disch := omega) only [getDT, go_sem, *]); (try simp only [pA, pB, pC, pD, pE, pF, pG, pH, pI, pJ, pK, pL, pM, pN, pO, pP, if_true, if_false]); repeat' (first | done | rfl | ((first | refine iteC (fun hq => ?_) (fun hq => ?_) | refine iteP (fun hq => ?_) (fun hq => ?_)) <;> (try (first | (exfalso; omega) | contradiction)) <;> (try simp -implicitDefEqProofs (maxSteps := 4000000) (disch := omega) only [getDT, go_sem, *]) <;> (try simp only [pA, pB, pC, pD, pE, pF, pG, pH, pI, pJ, pK, pL, pM, pN, pO, pP, if_true, if_false]))); (all_goals try rfl); (all_goals try (repeat' (first | done | rfl | (exfalso; omega) | contradiction | (refine iteR (fun hq => ?_) (fun hq => ?_)))))
      · obtain ⟨bs2, a7, hbs2, hl⟩ := bb_firstN l hL x k ik i2 im iv i5 i6 a6 j (by omega) (by omega)
        clear f1 f2 f3 f4 f5 f6 f7 f8 f9 f10
        clear Rf Ef Vf Nf
        obtain ⟨Rf, Ef, Vf, Nf, f1, f2, f3, f4, f5, f6, f7, f8, f9, f10⟩ := inv_facts x hx hs bs2 [] (by omega) (by simp)
        simp only [iD, List.map_nil, List.map_cons] at f4 f5 f6 f7 f8 f9 f10
        clear p1 p2 hr7 n9 hbs2 j0
        simp only [l_law17_BatchBuilt_2]
        generalize hF : loopL G [] l_law17_BatchBuilt_1 = F at *
        simp only [e1S, e1R, iA, b1H, srcO] at hl
        (try simp -implicitDefEqProofs (maxSteps := 4000000) (disch := omega) only [getDT, go_sem, *]); (try simp only [pA, pB, pC, pD, pE, pF, pG, pH, pI, pJ, pK, pL, pM, pN, pO, pP, if_true, if_false]); repeat' (first | done | rfl | ((first | refine iteC (fun hq => ?_) (fun hq => ?_) | refine iteP (fun hq => ?_) (fun hq => ?_)) <;> (try (first | (exfalso; omega) | contradiction)) <;> (try simp -implicitDefEqProofs (maxSteps := 4000000) (disch := omega) only [getDT, go_sem, *]) <;> (try simp only [pA, pB, pC, pD, pE, pF, pG, pH, pI, pJ, pK, pL, pM, pN, pO, pP, if_true, if_false]))); (all_goals try rfl); (all_goals try (repeat' (first | done | rfl | (exfalso; omega) | contradiction | (refine iteR (fun hq => ?_) (fun hq => ?_)))))
    clear n9 q6 q5
    simp only [l_law17_BatchBuilt_2]
    have w : nD l a2 8 = 0 ∨ nD l a2 8 = 1 ∨ nD l a2 8 = 2 ∨ nD l a2 8 = 3 ∨ nD l a2 8 = 6 ∨ nD l a2 8 = 7 := by omega
    clear w4 w5 n8
    rcases w with w | w | w | w | w | w
    · (try simp -implicitDefEqProofs (maxSteps := 4000000) (disch := omega) only [getDT, go_sem, *]); (try simp only [pA, pB, pC, pD, pE, pF, pG, pH, pI, pJ, pK, pL, pM, pN, pO, pP, if_true, if_false]); repeat' (first | done | rfl | ((first | refine iteC (fun hq => ?_) (fun hq => ?_) | refine iteP (fun hq => ?_) (fun hq => ?_)) <;> (try (first | (exfalso; omega) | contradiction)) <;> (try simp -implicitDefEqProofs (maxSteps := 4000000) (disch := omega) only [getDT, go_sem, *]) <;> (try simp only [pA, pB, pC, pD, pE, pF, pG, pH, pI, pJ, pK, pL, pM, pN, pO, pP, if_true, if_false]))); (all_goals try rfl); (all_goals try (repeat' (first | done | rfl | (exfalso; omega) | contradiction | (refine iteR (fun hq => ?_) (fun hq => ?_)))))
    · (try simp -implicitDefEqProofs (maxSteps := 4000000) (disch := omega) only [getDT, go_sem, *]); (try simp only [pA, pB, pC, pD, pE, pF, pG, pH, pI, pJ, pK, pL, pM, pN, pO, pP, if_true, if_false]); repeat' (first | done | rfl | ((first | refine iteC (fun hq => ?_) (fun hq => ?_) | refine iteP (fun hq => ?_) (fun hq => ?_)) <;> (try (first | (exfalso; omega) | contradiction)) <;> (try simp -implicitDefEqProofs (maxSteps := 4000000) (disch := omega) only [getDT, go_sem, *]) <;> (try simp only [pA, pB, pC, pD, pE, pF, pG, pH, pI, pJ, pK, pL, pM, pN, pO, pP, if_true, if_false]))); (all_goals try rfl); (all_goals try (repeat' (first | done | rfl | (exfalso; omega) | contradiction | (refine iteR (fun hq => ?_) (fun hq => ?_)))))
    · (try simp -implicitDefEqProofs (maxSteps := 4000000) (disch := omega) only [getDT, go_sem, *]); (try simp only [pA, pB, pC, pD, pE, pF, pG, pH, pI, pJ, pK, pL, pM, pN, pO, pP, if_true, if_false]); repeat' (first | done | rfl | ((first | refine iteC (fun hq => ?_) (fun hq => ?_) | refine iteP (fun hq => ?_) (fun hq => ?_)) <;> (try (first | (exfalso; omega) | contradiction)) <;> (try simp -implicitDefEqProofs (maxSteps := 4000000) (disch := omega) only [getDT, go_sem, *]) <;> (try simp only [pA, pB, pC, pD, pE, pF, pG, pH, pI, pJ, pK, pL, pM, pN, pO, pP, if_true, if_false]))); (all_goals try rfl); (all_goals try (repeat' (first | done | rfl | (exfalso; omega) | contradiction | (refine iteR (fun hq => ?_) (fun hq => ?_)))))
    · (try simp -implicitDefEqProofs (maxSteps := 4000000) (disch := omega) only [getDT, go_sem, *]); (try simp only [pA, pB, pC, pD, pE, pF, pG, pH, pI, pJ, pK, pL, pM, pN, pO, pP, if_true, if_false]); repeat' (first | done | rfl | ((first | refine iteC (fun hq => ?_) (fun hq => ?_) | refine iteP (fun hq => ?_) (fun hq => ?_)) <;> (try (first | (exfalso; omega) | contradiction)) <;> (try simp -implicitDefEqProofs (maxSteps := 4000000) (disch := omega) only [getDT, go_sem, *]) <;> (try simp only [pA, pB, pC, pD, pE, pF, pG, pH, pI, pJ, pK, pL, pM, pN, pO, pP, if_true, if_false]))); (all_goals try rfl); (all_goals try (repeat' (first | done | rfl | (exfalso; omega) | contradiction | (refine iteR (fun hq => ?_) (fun hq => ?_)))))
    · (try simp -implicitDefEqProofs (maxSteps := 4000000) (disch := omega) only [getDT, go_sem, *]); (try simp only [pA, pB, pC, pD, pE, pF, pG, pH, pI, pJ, pK, pL, pM, pN, pO, pP, if_true, if_false]); repeat' (first | done | rfl | ((first | refine iteC (fun hq => ?_) (fun hq => ?_) | refine iteP (fun hq => ?_) (fun hq => ?_)) <;> (try (first | (exfalso; omega) | contradiction)) <;> (try simp -implicitDefEqProofs (maxSteps := 4000000) (disch := omega) only [getDT, go_sem, *]) <;> (try simp only [pA, pB, pC, pD, pE, pF, pG, pH, pI, pJ, pK, pL, pM, pN, pO, pP, if_true, if_false]))); (all_goals try rfl); (all_goals try (repeat' (first | done | rfl | (exfalso; omega) | contradiction | (refine iteR (fun hq => ?_) (fun hq => ?_)))))
    · (try simp -implicitDefEqProofs (maxSteps := 4000000) (disch := omega) only [getDT, go_sem, *]); (try simp only [pA, pB, pC, pD, pE, pF, pG, pH, pI, pJ, pK, pL, pM, pN, pO, pP, if_true, if_false]); repeat' (first | done | rfl | ((first | refine iteC (fun hq => ?_) (fun hq => ?_) | refine iteP (fun hq => ?_) (fun hq => ?_)) <;> (try (first | (exfalso; omega) | contradiction)) <;> (try simp -implicitDefEqProofs (maxSteps := 4000000) (disch := omega) only [getDT, go_sem, *]) <;> (try simp only [pA, pB, pC, pD, pE, pF, pG, pH, pI, pJ, pK, pL, pM, pN, pO, pP, if_true, if_false]))); (all_goals try rfl); (all_goals try (repeat' (first | done | rfl | (exfalso; omega) | contradiction | (refine iteR (fun hq => ?_) (fun hq => ?_)))))
end Go.Proofs.Ytadnfmkdmknmhaa

namespace Go.Proofs.Ytadnfmkdmknmhaa
open Go Go.Sim
set_option linter.unusedSimpArgs false
set_option linter.unusedVariables false
set_option maxHeartbeats 10000000
set_option maxRecDepth 40000
theorem bb_roundB (l : List Int) (hL : l.length ≤ 4000) (x : Setup) (hx : okSetup x = true) (hs : 1 ≤ x.slots ∧ x.slots ≤ 6) (k a a1 : Nat) (hk : k < 6) (ck cp cb ik i2 im iv i5 i6 : Int) (b : List UInt8) (bs : List (List UInt8)) (hbs : bs.length ≤ 2) (L : St → Option (AExit × St)) (ih : ∀ a', L (bbS l x (k + 1, a')) = some (.exit 0, ⟨[], []⟩)) (hcmd : callL G N_base_Src_Command [.ref 1000000 0 0] [(1000000, srcO l a)] = some (.agg [.d (.int .i64 ck), .d (.int .i64 cp), .d (.int .i64 cb), .d (.int .i64 ik), .d (.int .i64 i2), .d (.int .i64 im), .d (.int .i64 iv), .d (.int .i64 i5), .d (.int .i64 i6), .osl 0 0 (bs.length + 1), .xsl [], .xsl []], (1000000, srcO l a1) :: [(0, .row (AV.d (D.str b) :: (bs.map D.str).map .d))])) : (exL G l_law17_BatchBuilt_2 (bbS l x (k, a))).bind (loopF [] L) = some (.exit 0, ⟨[], []⟩) := by
  have hn := fun at1 m => n_ok l at1 m hL
  have hr16 := fun at1 => range_ok l at1 0 15 hL (by omega) (by omega) (by omega) (by omega)
  have hr7 := fun at1 => range_ok l at1 (-1) 5 hL (by omega) (by omega) (by omega) (by omega)
  have hr11 := fun at1 => range_ok l at1 (-1) 9 hL (by omega) (by omega) (by omega) (by omega)
  simp only [Int.zero_add, Int.sub_zero, Int.reduceAdd, Int.reduceSub, Int.reduceNeg] at hr16 hr7 hr11
  have p1 := fun at1 => pickF_ok l at1 [0, 6, 7] hL (by simp) (by simp)
  have p2 := fun at1 => pickF_ok l at1 [-1, 1000, 1001] hL (by simp) (by simp)
  have p5 := fun at1 => pickF_ok l at1 [1, 5, 200, 0, 201] hL (by simp) (by simp)
  simp only [ints, List.map_cons, List.map_nil] at p1 p2 p5
  have ss := eSetup_size x
  have si := eSetup_isT x
  have sa := eSetup_asAgg x
  obtain ⟨Rf, Ef, Vf, Nf, f1, f2, f3, f4, f5, f6, f7, f8, f9, f10⟩ := inv_facts x hx hs (b :: bs) [] (by simp only [List.length_cons]; omega) (by simp)
  simp only [iD, List.map_nil, List.map_cons] at f4 f5 f6 f7 f8 f9 f10
  simp only [bbS, srcO, List.append_nil, List.nil_append] at hcmd ih ⊢
  simp only [Int.natCast_add, Int.natCast_one, Int.natCast_zero, Int.natCast_mul, Int.cast_ofNat_Int, List.length_append, List.length_map, List.map_nil, List.length_nil, List.map_append, List.map_cons, List.length_cons, Nat.zero_add, srcO, mapSet] at ih
  obtain ⟨a2, q2⟩ : ∃ a2, (rawD l a1).2 = a2 := ⟨_, rfl⟩
  by_cases n1 : nD l a1 3 = 0
  · obtain ⟨a3, q3⟩ : ∃ a3, (rawD l a2).2 = a3 := ⟨_, rfl⟩
    have n8 := nD_in l a3 (n := 8) (by omega)
    obtain ⟨a5, q5⟩ : ∃ a5, (rawD l a3).2 = a5 := ⟨_, rfl⟩
    obtain ⟨a6, q6⟩ : ∃ a6, (rawD l a5).2 = a6 := ⟨_, rfl⟩
    have n9 := nD_in l a5 (n := 9) (by omega)
    by_cases w4 : nD l a3 8 = 4
    · obtain ⟨j, hj⟩ : ∃ j : Nat, nD l a5 9 = j := ⟨(nD l a5 9).toNat, by omega⟩
      by_cases j0 : j = 0
      · subst j0
        have hl := bt_B_z l x k (nD l a2 16) i2 im iv i5 i6 a6 b bs
        clear p1 p2 hr7 n9
        simp only [l_law17_BatchBuilt_2]
        generalize hF : loopL G [] l_law17_BatchBuilt_0 = F at *
        simp only [e0S, e1R, iA, srcO, Int.natCast_zero] at hl hj
        (try simp -implicitDefEqProofs (maxSteps := 4000000) (disch := omega) only [getDT, go_sem, *]); (try simp only [pA, pB, pC, pD, pE, pF, pG, pH, pI, pJ, pK, pL, pM, pN, pO, pP, if_true, if_false]); repeat' (first | done | rfl | ((first | refine iteC (fun hq => ?_) (fun hq => ?_) | refine iteP (fun hq => ?_) (fun hq => ?_)) <;> (try (first | (exfalso; omega) | contradiction)) <;> (try simp -implicitDefEqProofs (maxSteps := 4000000) (disch := omega) only [getDT, go_sem, *]) <;> (try simp only [pA, pB, pC, pD, pE, pF, pG, pH, pI, pJ, pK, pL, pM, pN, pO, pP, if_true, if_false]))); (all_goals try rfl); (all_goals try (repeat' (first | done | rfl | (exfalso; omega) | contradiction | (refine iteR (fun hq => ?_) (fun hq => ?_)))))
      · obtain ⟨ts, hts, hl⟩ := bt_B1 l x k (nD l a2 16) i2 im iv i5 i6 a6 b bs j (by omega) (by omega)
        clear f1 f2 f3 f4 f5 f6 f7 f8 f9 f10
        clear Rf Ef Vf Nf
        obtain ⟨Rf, Ef, Vf, Nf, f1, f2, f3, f4, f5, f6, f7, f8, f9, f10⟩ := inv_facts x hx hs (b :: bs) ts (by simp only [List.length_cons]; omega) (by omega)
        simp only [iD, List.map_nil, List.map_cons] at f4 f5 f6 f7 f8 f9 f10
        clear p1 p2 hr7 n9 j0 hts
        simp only [l_law17_BatchBuilt_2]
        generalize hF : loopL G [] l_law17_BatchBuilt_0 = F at *
        simp only [e0S, e1R, iA, t1H, srcO] at hl
        (try simp -implicitDefEqProofs (maxSteps := 4000000) (disch := omega) only [getDT, go_sem, *]); (try simp only [pA, pB, pC, pD, pE, pF, pG, pH, pI, pJ, pK, pL, pM, pN, pO, pP, if_true, if_false]); repeat' (first | done | rfl | ((first | refine iteC (fun hq => ?_) (fun hq => ?_) | refine iteP (fun hq => ?_) (fun hq => ?_)) <;> (try (first | (exfalso; omega) | contradiction)) <;> (try simp -implicitDefEqProofs (maxSteps := 4000000) (disch := omega) only [getDT, go_sem, *]) <;> (try simp only [pA, pB, pC, pD, pE, pF, pG, pH, pI, pJ, pK, pL, pM, pN, pO, pP, if_true, if_false]))); (all_goals try rfl); (all_goals try (repeat' (first | done | rfl | (exfalso; omega) | contradiction | (refine iteR (fun hq => ?_) (fun hq => ?_)))))
    by_cases w5 : nD l a3 8 = 5
    · obtain ⟨j, hj⟩ : ∃ j : Nat, nD l a5 9 = j := ⟨(nD l a5 9).toNat, by omega⟩
      obtain ⟨bs2, a7, hbs2, hl⟩ := bb_bodiesA l hL x k (nD l a2 16) i2 im iv i5 i6 (b :: bs, a6, j) (by simp only [List.length_cons]; omega)
      simp only [List.length_cons] at hbs2
      clear f1 f2 f3 f4 f5 f6 f7 f8 f9 f10
      clear Rf Ef Vf Nf
      obtain ⟨Rf, Ef, Vf, Nf, f1, f2, f3, f4, f5, f6, f7, f8, f9, f10⟩ := inv_facts x hx hs bs2 [] (by omega) (by simp)
      simp only [iD, List.map_nil, List.map_cons] at f4 f5 f6 f7 f8 f9 f10
      clear p1 p2 hr7 n9 hbs2
      simp only [l_law17_BatchBuilt_2]
      generalize hF : loopL G [] l_law17_BatchBuilt_1 = F at *
      simp only [e1S, e1R, iA, b2H, srcO, List.map_cons, List.length_cons] at hl
      (try simp -implicitDefEqProofs (maxSteps := 4000000) (disch := omega) only [getDT, go_sem, *]); (try simp only [pA, pB, pC, pD, pE, pF, pG, pH, pI, pJ, pK, pL, pM, pN, pO, pP, if_true, if_false]); repeat' (first | done | rfl | ((first | refine iteC (fun hq => ?_) (fun hq => ?_) | refine iteP (fun hq => ?_) (fun hq => ?_)) <;> (try (first | (exfalso; omega) | contradiction)) <;> (try simp -implicitDefEqProofs (maxSteps := 4000000) (disch := omega) only [getDT, go_sem, *]) <;> (try simp only [pA, pB, pC, pD, pE, pF, pG, pH, pI, pJ, pK, pL, pM, pN, pO, pP, if_true, if_false]))); (all_goals try rfl); (all_goals try (repeat' (first | done | rfl | (exfalso; omega) | contradiction | (refine iteR (fun hq => ?_) (fun hq => ?_)))))
    clear n9 q6 q5
    simp only [l_law17_BatchBuilt_2]
    have w : nD l a3 8 = 0 ∨ nD l a3 8 = 1 ∨ nD l a3 8 = 2 ∨ nD l a3 8 = 3 ∨ nD l a3 8 = 6 ∨ nD l a3 8 = 7 := by omega
    clear w4 w5 n8
    rcases w with w | w | w | w | w | w
    · (try simp -implicitDefEqProofs (maxSteps := 4000000) (disch := omega) only [getDT, go_sem, *]); (try simp only [pA, pB, pC, pD, pE, pF, pG, pH, pI, pJ, pK, pL, pM, pN, pO, pP, if_true, if_false]); repeat' (first | done | rfl | ((first | refine iteC (fun hq => ?_) (fun hq => ?_) | refine iteP (fun hq => ?_) (fun hq => ?_)) <;> (try (first | (exfalso; omega) | contradiction)) <;> (try simp -implicitDefEqProofs (maxSteps := 4000000) (disch := omega) only [getDT, go_sem, *]) <;> (try simp only [pA, pB, pC, pD, pE, pF, pG, pH, pI, pJ, pK, pL, pM, pN, pO, pP, if_true, if_false]))); (all_goals try rfl); (all_goals try (repeat' (first | done | rfl | (exfalso; omega) | contradiction | (refine iteR (fun hq => ?_) (fun hq => ?_)))))
    · (try simp -implicitDefEqProofs (maxSteps := 4000000) (disch := omega) only [getDT, go_sem, *]); (try simp only [pA, pB, pC, pD, pE, pF, pG, pH, pI, pJ, pK, pL, pM, pN, pO, pP, if_true, if_false]); repeat' (first | done | rfl | ((first | refine iteC (fun hq => ?_) (fun hq => ?_) | refine iteP (fun hq => ?_) (fun hq => ?_)) <;> (try (first | (exfalso; omega) | contradiction)) <;> (try simp -implicitDefEqProofs (maxSteps := 4000000) (disch := omega) only [getDT, go_sem, *]) <;> (try simp only [pA, pB, pC, pD, pE, pF, pG, pH, pI, pJ, pK, pL, pM, pN, pO, pP, if_true, if_false]))); (all_goals try rfl); (all_goals try (repeat' (first | done | rfl | (exfalso; omega) | contradiction | (refine iteR (fun hq => ?_) (fun hq => ?_)))))
    · (try simp -implicitDefEqProofs (maxSteps := 4000000) (disch := omega) only [getDT, go_sem, *]); (try simp only [pA, pB, pC, pD, pE, pF, pG, pH, pI, pJ, pK, pL, pM, pN, pO, pP, if_true, if_false]); repeat' (first | done | rfl | ((first | refine iteC (fun hq => ?_) (fun hq => ?_) | refine iteP (fun hq => ?_) (fun hq => ?_)) <;> (try (first | (exfalso; omega) | contradiction)) <;> (try simp -implicitDefEqProofs (maxSteps := 4000000) (disch := omega) only [getDT, go_sem, *]) <;> (try simp only [pA, pB, pC, pD, pE, pF, pG, pH, pI, pJ, pK, pL, pM, pN, pO, pP, if_true, if_false]))); (all_goals try rfl); (all_goals try (repeat' (first | done | rfl | (exfalso; omega) | contradiction | (refine iteR (fun hq => ?_) (fun hq => ?_)))))
    · (try simp -implicitDefEqProofs (maxSteps := 4000000) (disch := omega) only [getDT, go_sem, *]); (try simp only [pA, pB, pC, pD, pE, pF, pG, pH, pI, pJ, pK, pL, pM, pN, pO, pP, if_true, if_false]); repeat' (first | done | rfl | ((first | refine iteC (fun hq => ?_) (fun hq => ?_) | refine iteP (fun hq => ?_) (fun hq => ?_)) <;> (try (first | (exfalso; omega) | contradiction)) <;> (try simp -implicitDefEqProofs (maxSteps := 4000000) (disch := omega) only [getDT, go_sem, *]) <;> (try simp only [pA, pB, pC, pD, pE, pF, pG, pH, pI, pJ, pK, pL, pM, pN, pO, pP, if_true, if_false]))); (all_goals try rfl); (all_goals try (repeat' (first | done | rfl | (exfalso; omega) | contradiction | (refine iteR (fun hq => ?_) (fun hq => ?_)))))
    · (try simp -implicitDefEqProofs (maxSteps := 4000000) (disch := omega) only [getDT, go_sem, *]); (try simp only [pA, pB, pC, pD, pE, pF, pG, pH, pI, pJ, pK, pL, pM, pN, pO, pP, if_true, if_false]); repeat' (first | done | rfl | ((first | refine iteC (fun hq => ?_) (fun hq => ?_) | refine iteP (fun hq => ?_) (fun hq => ?_)) <;> (try (first | (exfalso; omega) | contradiction)) <;> (try simp -implicitDefEqProofs (maxSteps := 4000000) (disch := omega) only [getDT, go_sem, *]) <;> (try simp only [pA, pB, pC, pD, pE, pF, pG, pH, pI, pJ, pK, pL, pM, pN, pO, pP, if_true, if_false]))); (all_goals try rfl); (all_goals try (repeat' (first | done | rfl | (exfalso; omega) | contradiction | (refine iteR (fun hq => ?_) (fun hq => ?_)))))
    · (try simp -implicitDefEqProofs (maxSteps := 4000000) (disch := omega) only [getDT, go_sem, *]); (try simp only [pA, pB, pC, pD, pE, pF, pG, pH, pI, pJ, pK, pL, pM, pN, pO, pP, if_true, if_false]); repeat' (first | done | rfl | ((first | refine iteC (fun hq => ?_) (fun hq => ?_) | refine iteP (fun hq => ?_) (fun hq => ?_)) <;> (try (first | (exfalso; omega) | contradiction)) <;> (try simp -implicitDefEqProofs (maxSteps := 4000000) (disch := omega) only [getDT, go_sem, *]) <;> (try simp only [pA, pB, pC, pD, pE, pF, pG, pH, pI, pJ, pK, pL, pM, pN, pO, pP, if_true, if_false]))); (all_goals try rfl); (all_goals try (repeat' (first | done | rfl | (exfalso; omega) | contradiction | (refine iteR (fun hq => ?_) (fun hq => ?_)))))
  · have a3 := 0
    have n8 := nD_in l a2 (n := 8) (by omega)
    obtain ⟨a5, q5⟩ : ∃ a5, (rawD l a2).2 = a5 := ⟨_, rfl⟩
    obtain ⟨a6, q6⟩ : ∃ a6, (rawD l a5).2 = a6 := ⟨_, rfl⟩
    have n9 := nD_in l a5 (n := 9) (by omega)
    by_cases w4 : nD l a2 8 = 4
    · obtain ⟨j, hj⟩ : ∃ j : Nat, nD l a5 9 = j := ⟨(nD l a5 9).toNat, by omega⟩
      by_cases j0 : j = 0
      · subst j0
        have hl := bt_B_z l x k ik i2 im iv i5 i6 a6 b bs
        clear p1 p2 hr7 n9
        simp only [l_law17_BatchBuilt_2]
        generalize hF : loopL G [] l_law17_BatchBuilt_0 = F at *
        simp only [e0S, e1R, iA, srcO, Int.natCast_zero] at hl hj
        (try simp -implicitDefEqProofs (maxSteps := 4000000) (disch := omega) only [getDT, go_sem, *]); (try simp only [pA, pB, pC, pD, pE, pF, pG, pH, pI, pJ, pK, pL, pM, pN, pO, pP, if_true, if_false]); repeat' (first | done | rfl | ((first | refine iteC (fun hq => ?_) (fun hq => ?_) | refine iteP (fun hq => ?_) (fun hq => ?_)) <;> (try (first | (exfalso; omega) | contradiction)) <;> (try simp -implicitDefEqProofs (maxSteps := 4000000) (disch := omega) only [getDT, go_sem, *]) <;> (try simp only [pA, pB, pC, pD, pE, pF, pG, pH, pI, pJ, pK, pL, pM, pN, pO, pP, if_true, if_false]))); (all_goals try rfl); (all_goals try (repeat' (first | done | rfl | (exfalso; omega) | contradiction | (refine iteR (fun hq => ?_) (fun hq => ?_)))))
      · obtain ⟨ts, hts, hl⟩ := bt_B1 l x k ik i2 im iv i5 i6 a6 b bs j (by omega) (by omega)
        clear f1 f2 f3 f4 f5 f6 f7 f8 f9 f10
        clear Rf Ef Vf Nf
        obtain ⟨Rf, Ef, Vf, Nf, f1, f2, f3, f4, f5, f6, f7, f8, f9, f10⟩ := inv_facts x hx hs (b :: bs) ts (by simp only [List.length_cons]; omega) (by omega)
        simp only [iD, List.map_nil, List.map_cons] at f4 f5 f6 f7 f8 f9 f10
        clear p1 p2 hr7 n9 j0 hts
        simp only [l_law17_BatchBuilt_2]
        generalize hF : loopL G [] l_law17_BatchBuilt_0 = F at *
        simp only [e0S, e1R, iA, t1H, srcO] at hl
        (try simp -implicitDefEqProofs (maxSteps := 4000000) (disch := omega) only [getDT, go_sem, *]); (try simp only [pA, pB, pC, pD, pE, pF, pG, pH, pI, pJ, pK, pL, pM, pN, pO, pP, if_true, if_false]); repeat' (first | done | rfl | ((first | refine iteC (fun hq => ?_) (fun hq => ?_) | refine iteP (fun hq => ?_) (fun hq => ?_)) <;> (try (first | (exfalso; omega) | contradiction)) <;> (try simp -implicitDefEqProofs (maxSteps := 4000000) (disch := omega) only [getDT, go_sem, *]) <;> (try simp only [pA, pB, pC, pD, pE, pF, pG, pH, pI, pJ, pK, pL, pM, pN, pO, pP, if_true, if_false]))); (all_goals try rfl); (all_goals try (repeat' (first | done | rfl | (exfalso; omega) | contradiction | (refine iteR (fun hq => ?_) (fun hq => ?_)))))
    by_cases w5 : nD l a2 8 = 5
    · obtain ⟨j, hj⟩ : ∃ j : Nat, nD l a5 9 = j := ⟨(nD l a5 9).toNat, by omega⟩
      obtain ⟨bs2, a7, hbs2, hl⟩ := bb_bodiesA l hL x k ik i2 im iv i5 i6 (b :: bs, a6, j) (by simp only [List.length_cons]; omega)
      simp only [List.length_cons] at hbs2
      clear f1 f2 f3 f4 f5 f6 f7 f8 f9 f10
      clear Rf Ef Vf Nf
      obtain ⟨Rf, Ef, Vf, Nf, f1, f2, f3, f4, f5, f6, f7, f8, f9, f10⟩ := inv_facts x hx hs bs2 [] (by omega) (by simp)
      simp only [iD, List.map_nil, List.map_cons] at f4 f5 f6 f7 f8 f9 f10
      clear p1 p2 hr7 n9 hbs2
      simp only [l_law17_BatchBuilt_2]
      generalize hF : loopL G [] l_law17_BatchBuilt_1 = F at *
      simp only [e1S, e1R, iA, b2H, srcO, List.map_cons, List.length_cons] at hl
      (try simp -implicitDefEqProofs (maxSteps := 4000000) (disch := omega) only [getDT, go_sem, *]); (try simp only [pA, pB, pC, pD, pE, pF, pG, pH, pI, pJ, pK, pL, pM, pN, pO, pP, if_true, if_false]); repeat' (first | done | rfl | ((first | refine iteC (fun hq => ?_) (fun hq => ?_) | refine iteP (fun hq => ?_) (fun hq => ?_)) <;> (try (first | (exfalso; omega) | contradiction)) <;> (try simp -implicitDefEqProofs (maxSteps := 4000000) (disch := omega) only [getDT, go_sem, *]) <;> (try simp only [pA, pB, pC, pD, pE, pF, pG, pH, pI, pJ, pK, pL, pM, pN, pO, pP, if_true, if_false]))); (all_goals try rfl); (all_goals try (repeat' (first | done | rfl | (exfalso; omega) | contradiction | (refine iteR (fun hq => ?_) (fun hq => ?_)))))
    clear n9 q6 q5
    simp only [l_law17_BatchBuilt_2]
    have w : nD l a2 8 = 0 ∨ nD l a2 8 = 1 ∨ nD l a2 8 = 2 ∨ nD l a2 8 = 3 ∨ nD l a2 8 = 6 ∨ nD l a2 8 = 7 := by omega
    clear w4 w5 n8
    rcases w with w | w | w | w | w | w
    · (try simp -implicitDefEqProofs (maxSteps := 4000000) (disch := omega) only [getDT, go_sem, *]); (try simp only [pA, pB, pC, pD, pE, pF, pG, pH, pI, pJ, pK, pL, pM, pN, pO, pP, if_true, if_false]); repeat' (first | done | rfl | ((first | refine iteC (fun hq => ?_) (fun hq => ?_) | refine iteP (fun hq => ?_) (fun hq => ?_)) <;> (try (first | (exfalso; omega) | contradiction)) <;> (try simp -implicitDefEqProofs (maxSteps := 4000000) (disch := omega) only [getDT, go_sem, *]) <;> (try simp only [pA, pB, pC, pD, pE, pF, pG, pH, pI, pJ, pK, pL, pM, pN, pO, pP, if_true, if_false]))); (all_goals try rfl); (all_goals try (repeat' (first | done | rfl | (exfalso; omega) | contradiction | (refine iteR (fun hq => ?_) (fun hq => ?_)))))
    · (try simp -implicitDefEqProofs (maxSteps := 4000000) (disch := omega) only [getDT, go_sem, *]); (try simp only [pA, pB, pC, pD, pE, pF, pG, pH, pI, pJ, pK, pL, pM, pN, pO, pP, if_true, if_false]); repeat' (first | done | rfl | ((first | refine iteC (fun hq => ?_) (fun hq => ?_) | refine iteP (fun hq => ?_) (fun hq => ?_)) <;> (try (first | (exfalso; omega) | contradiction)) <;> (try simp -implicitDefEqProofs (maxSteps := 4000000) (disch := omega) only [getDT, go_sem, *]) <;> (try simp only [pA, pB, pC, pD, pE, pF, pG, pH, pI, pJ, pK, pL, pM, pN, pO, pP, if_true, if_false]))); (all_goals try rfl); (all_goals try (repeat' (first | done | rfl | (exfalso; omega) | contradiction | (refine iteR (fun hq => ?_) (fun hq => ?_)))))
    · (try simp -implicitDefEqProofs (maxSteps := 4000000) (disch := omega) only [getDT, go_sem, *]); (try simp only [pA, pB, pC, pD, pE, pF, pG, pH, pI, pJ, pK, pL, pM, pN, pO, pP, if_true, if_false]); repeat' (first | done | rfl | ((first | refine iteC (fun hq => ?_) (fun hq => ?_) | refine iteP (fun hq => ?_) (fun hq => ?_)) <;> (try (first | (exfalso; omega) | contradiction)) <;> (try simp -implicitDefEqProofs (maxSteps := 4000000) (disch := omega) only [getDT, go_sem, *]) <;> (try simp only [pA, pB, pC, pD, pE, pF, pG, pH, pI, pJ, pK, pL, pM, pN, pO, pP, if_true, if_false]))); (all_goals try rfl); (all_goals try (repeat' (first | done | rfl | (exfalso; omega) | contradiction | (refine iteR (fun hq => ?_) (fun hq => ?_)))))
    · (try simp -implicitDefEqProofs (maxSteps := 4000000) (disch := omega) only [getDT, go_sem, *]); (try simp only [pA, pB, pC, pD, pE, pF, pG, pH, pI, pJ, pK, pL, pM, pN, pO, pP, if_true, if_false]); repeat' (first | done | rfl | ((first | refine iteC (fun hq => ?_) (fun hq => ?_) | refine iteP (fun hq => ?_) (fun hq => ?_)) <;> (try (first | (exfalso; omega) | contradiction)) <;> (try simp -implicitDefEqProofs (maxSteps := 4000000) (disch := omega) only [getDT, go_sem, *]) <;> (try simp only [pA, pB, pC, pD, pE, pF, pG, pH, pI, pJ, pK, pL, pM, pN, pO, pP, if_true, if_false]))); (all_goals try rfl); (all_goals try (repeat' (first | done | rfl | (exfalso; omega) | contradiction | (refine iteR (fun hq => ?_) (fun hq => ?_)))))
    · (try simp -implicitDefEqProofs (maxSteps := 4000000) (disch := omega) only [getDT, go_sem, *]); (try simp only [pA, pB, pC, pD, pE, pF, pG, pH, pI, pJ, pK, pL, pM, pN, pO, pP, if_true, if_false]); repeat' (first | done | rfl | ((first | refine iteC (fun hq => ?_) (fun hq => ?_) | refine iteP (fun hq => ?_) (fun hq => ?_)) <;> (try (first | (exfalso; omega) | contradiction)) <;> (try simp -implicitDefEqProofs (maxSteps := 4000000) (disch := omega) only [getDT, go_sem, *]) <;> (try simp only [pA, pB, pC, pD, pE, pF, pG, pH, pI, pJ, pK, pL, pM, pN, pO, pP, if_true, if_false]))); (all_goals try rfl); (all_goals try (repeat' (first | done | rfl | (exfalso; omega) | contradiction | (refine iteR (fun hq => ?_) (fun hq => ?_)))))
    · (try simp -implicitDefEqProofs (maxSteps := 4000000) (disch := omega) only [getDT, go_sem, *]); (try simp only [pA, pB, pC, pD, pE, pF, pG, pH, pI, pJ, pK, pL, pM, pN, pO, pP, if_true, if_false]); repeat' (first | done | rfl | ((first | refine iteC (fun hq => ?_) (fun hq => ?_) | refine iteP (fun hq => ?_) (fun hq => ?_)) <;> (try (first | (exfalso; omega) | contradiction)) <;> (try simp -implicitDefEqProofs (maxSteps := 4000000) (disch := omega) only [getDT, go_sem, *]) <;> (try simp only [pA, pB, pC, pD, pE, pF, pG, pH, pI, pJ, pK, pL, pM, pN, pO, pP, if_true, if_false]))); (all_goals try rfl); (all_goals try (repeat' (first | done | rfl | (exfalso; omega) | contradiction | (refine iteR (fun hq => ?_) (fun hq => ?_)))))
end Go.Proofs.Ytadnfmkdmknmhaa

namespace Go.Proofs.Ytadnfmkdmknmhaa
open Go Go.Sim
set_option linter.unusedSimpArgs false
set_option linter.unusedVariables false
set_option maxHeartbeats 10000000
set_option maxRecDepth 40000
theorem bb_loop (l : List Int) (hL : l.length ≤ 4000) (x : Setup) (hx : okSetup x = true) (hs : 1 ≤ x.slots ∧ x.slots ≤ 6) : ∀ p : Nat × Nat, p.1 ≤ 6 → loopL G [] l_law17_BatchBuilt_2 (bbS l x p) = some (.exit 0, ⟨[], []⟩) := by
  refine loop_ind (fun p : Nat × Nat => 6 - p.1) (fun p : Nat × Nat => p.1 ≤ 6) _ _ fun ⟨k, a⟩ hk L ih => ?_
  simp only at hk
  by_cases h0 : k < 6
  · obtain ⟨c, a1, hc, hcr, hcmd⟩ := cmd_ok l a hL
    have ih' := fun a' => ih (k + 1, a') (by simp only; omega) (by simp only; omega)
    obtain ⟨ck, cp, cb, ⟨ik, i2, im, iv, i5, i6, bs, ts⟩, rs⟩ := c
    simp only [cmdGood, invGood] at hc hcr
    have hts := hc.2.2.1
    have hbs := hc.2.2.2.1
    subst hts
    cases bs with
    | nil =>
      cases rs with
      | nil => exact bb_roundN l hL x hx hs k a a1 h0 ck cp cb ik i2 im iv i5 i6 L ih' hcmd
      | cons r rs =>
        simp only [cmdV, cmdH, List.map_cons, List.map_nil, lsV, lsH, List.nil_append, List.length_map] at hcmd
        exact bb_roundR l hL x hx hs k a a1 h0 ck cp cb ik i2 im iv i5 i6 r rs L ih' hcmd
    | cons b bs =>
      have hrs : rs = [] := by rcases hcr with h | h; cases h; exact h
      subst hrs
      simp only [cmdV, cmdH, List.map_cons, List.map_nil, lsV, lsH, List.append_nil, List.length_map] at hcmd
      exact bb_roundB l hL x hx hs k a a1 h0 ck cp cb ik i2 im iv i5 i6 b bs (by simp only [List.length_cons] at hbs; omega) L ih' hcmd
  · clear ih
    simp only [bbS, l_law17_BatchBuilt_2]
    (try simp -implicitDefEqProofs (maxSteps := 4000000) (disch := omega) only [getDT, go_sem, *]); (try simp only [pA, pB, pC, pD, pE, pF, pG, pH, pI, pJ, pK, pL, pM, pN, pO, pP, if_true, if_false]); repeat' (first | done | rfl | ((first | refine iteC (fun hq => ?_) (fun hq => ?_) | refine iteP (fun hq => ?_) (fun hq => ?_)) <;> (try (first | (exfalso; omega) | contradiction)) <;> (try simp -implicitDefEqProofs (maxSteps := 4000000) (disch := omega) only [getDT, go_sem, *]) <;> (try simp only [pA, pB, pC, pD, pE, pF, pG, pH, pI, pJ, pK, pL, pM, pN, pO, pP, if_true, if_false]))); (all_goals try rfl); (all_goals try (repeat' (first | done | rfl | (exfalso; omega) | contradiction | (refine iteR (fun hq => ?_) (fun hq => ?_)))))
theorem built17_ok (l : List Int) (hL : l.length ≤ LIM) : callL G N_law17_BatchBuilt [.d (.sl (ints l))] [] = some (.d (.bool true), []) := by
  have hnew := new_ok l hL
  have hl4 : (l.take 4000).length ≤ 4000 := by simp; omega
  obtain ⟨x, a', hx, hx4, hset⟩ := setup_ok (l.take 4000) 0 hl4
  have hs : 1 ≤ x.slots ∧ x.slots ≤ 6 := by
    obtain ⟨n, l', ok, _⟩ := setupOk_of hx
    obtain ⟨o1, o2, o3, o4, o5, _⟩ := ok
    omega
  have hl := bb_loop (l.take 4000) hl4 x hx hs (0, a') (by simp)
  have haw := awake17_ok
  simp only [bbS, srcO, Int.natCast_zero] at hnew hset hl
  clear hx hx4 hs hL hl4
  rw [callL_code g_law17_BatchBuilt (by simp)]; simp -implicitDefEqProofs (maxSteps := 4000000) (disch := omega) only [c_law17_BatchBuilt, r_law17_BatchBuilt, getDT, go_sem, *]; (try simp only [pA, pB, pC, pD, pE, pF, pG, pH, pI, pJ, pK, pL, pM, pN, pO, pP, if_true, if_false]); repeat' (first | done | rfl | ((first | refine iteC (fun hq => ?_) (fun hq => ?_) | refine iteP (fun hq => ?_) (fun hq => ?_)) <;> (try (first | (exfalso; omega) | contradiction)) <;> (try simp -implicitDefEqProofs (maxSteps := 4000000) (disch := omega) only [getDT, go_sem, *]) <;> (try simp only [pA, pB, pC, pD, pE, pF, pG, pH, pI, pJ, pK, pL, pM, pN, pO, pP, if_true, if_false]))); (all_goals try rfl); (all_goals try (repeat' (first | done | rfl | (exfalso; omega) | contradiction | (refine iteR (fun hq => ?_) (fun hq => ?_)))))
end Go.Proofs.Ytadnfmkdmknmhaa
