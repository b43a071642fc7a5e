/-
  Bags: the reader's events, what is said of them.
  Bags: the reader's events of the kinds 1 and 2.
  Bags: the reader's events of the kinds 3 and 7.
  Bags: the reader's events of the kinds 8 and d.
  Bags: what steps keep.
  Bags: the law Script.
  Bags: the law Keeps.
  Bags: the law Exclusive.
-/
import Derived.Test.YtbkhijigkmhhkaaBe4a5b88
set_option linter.unusedSimpArgs false
set_option linter.unusedVariables false
namespace Go.Proofs.Ytbkhijigkmhhkaa
open Go Go.Sim
set_option linter.unusedSimpArgs false
set_option linter.unusedVariables false
set_option maxHeartbeats 10000000
set_option maxRecDepth 40000
theorem more_ok (l : List Int) (a : Nat) (hL : l.length ≤ 4000) : callL G N_base_Src_More [.d (.pd (.agg [.sl (ints l), .int .i64 a]))] [] = some (.d (.bool (decide ((a : Int) < l.length))), []) := by
  rw [callL_code g_base_Src_More (by simp)]; simp -implicitDefEqProofs (maxSteps := 4000000) (disch := omega) only [c_base_Src_More, r_base_Src_More, getDT, go_sem, *]; (try simp only [pA, pB, pC, pD, pE, pF, pG, pH, pI, pJ, pK, pL, pM, pN, pO, pP, if_true, if_false]); repeat' (first | done | rfl | ((first | refine iteC (fun hq => ?_) (fun hq => ?_) | refine iteP (fun hq => ?_) (fun hq => ?_)) <;> (try (first | (exfalso; omega) | contradiction)) <;> (try simp -implicitDefEqProofs (maxSteps := 4000000) (disch := omega) only [getDT, go_sem, *]) <;> (try simp only [pA, pB, pC, pD, pE, pF, pG, pH, pI, pJ, pK, pL, pM, pN, pO, pP, if_true, if_false]))); (all_goals try rfl); (all_goals try (repeat' (first | done | rfl | (exfalso; omega) | contradiction | (refine iteR (fun hq => ?_) (fun hq => ?_)))))
theorem pickF_ok (l : List Int) (a : Nat) (xs : List Int) (hL : l.length ≤ 4000) (h1 : 1 ≤ xs.length) (h2 : xs.length ≤ 1000) : callL G N_base_Src_Pick [.ref 1000000 0 0, .d (.sl (ints xs))] [(1000000, srcO l a)] = some (.d (.int .i64 (xs.getD (nD l a xs.length).toNat 0)), [(1000000, srcO l (rawD l a).2)]) := by
  have hn := n_ok l a xs.length hL (by omega) (by omega)
  have hb := nD_in l a (n := xs.length) (by omega)
  obtain ⟨i, hi⟩ : ∃ i : Nat, nD l a xs.length = i := ⟨(nD l a xs.length).toNat, by omega⟩
  rw [hi] at hn hb ⊢
  have hlt : i < xs.length := by omega
  rw [show ((i : Int)).toNat = i by omega, getDT hlt]
  clear hb hi
  rw [callL_code g_base_Src_Pick (by simp)]; simp -implicitDefEqProofs (maxSteps := 4000000) (disch := omega) only [c_base_Src_Pick, r_base_Src_Pick, getDT, go_sem, *]; (try simp only [pA, pB, pC, pD, pE, pF, pG, pH, pI, pJ, pK, pL, pM, pN, pO, pP, if_true, if_false]); repeat' (first | done | rfl | ((first | refine iteC (fun hq => ?_) (fun hq => ?_) | refine iteP (fun hq => ?_) (fun hq => ?_)) <;> (try (first | (exfalso; omega) | contradiction)) <;> (try simp -implicitDefEqProofs (maxSteps := 4000000) (disch := omega) only [getDT, go_sem, *]) <;> (try simp only [pA, pB, pC, pD, pE, pF, pG, pH, pI, pJ, pK, pL, pM, pN, pO, pP, if_true, if_false]))); (all_goals try rfl); (all_goals try (repeat' (first | done | rfl | (exfalso; omega) | contradiction | (refine iteR (fun hq => ?_) (fun hq => ?_)))))
theorem pick_ex (l : List Int) (a : Nat) (xs : List Int) (hL : l.length ≤ 4000) (h1 : 1 ≤ xs.length) (h2 : xs.length ≤ 1000) : ∃ y a', callL G N_base_Src_Pick [.ref 1000000 0 0, .d (.sl (ints xs))] [(1000000, srcO l a)] = some (.d (.int .i64 y), [(1000000, srcO l a')]) := ⟨_, _, pickF_ok l a xs hL h1 h2⟩
theorem n_ex (l : List Int) (a : Nat) (n : Int) (hL : l.length ≤ 4000) (h1 : 1 ≤ n) (h2 : n ≤ 4294967296) : ∃ y a', callL G N_base_Src_N [.ref 1000000 0 0, .d (.int .i64 n)] [(1000000, srcO l a)] = some (.d (.int .i64 y), [(1000000, srcO l a')]) ∧ 0 ≤ y ∧ y < n := ⟨_, _, n_ok l a n hL h1 h2, nD_in l a h1⟩
theorem range_ex (l : List Int) (a : Nat) (lo hi : Int) (hL : l.length ≤ 4000) (h0 : -4294967296 ≤ lo) (h1 : lo ≤ hi) (h2 : hi ≤ 4294967296) (h3 : hi - lo < 4294967296) : ∃ y a', callL G N_base_Src_Range [.ref 1000000 0 0, .d (.int .i64 lo), .d (.int .i64 hi)] [(1000000, srcO l a)] = some (.d (.int .i64 y), [(1000000, srcO l a')]) ∧ lo ≤ y ∧ y ≤ hi := by
  have := range_ok l a lo hi hL h0 h1 h2 h3
  have hb := nD_in l a (n := hi - lo + 1) (by omega)
  exact ⟨_, _, this, by omega, by omega⟩
structure evB (K : Int) (v : Event) : Prop where
  now0 : -K ≤ v.now
  now1 : v.now ≤ K
  ep0 : -K ≤ v.epoch
  ep1 : v.epoch ≤ K
  len : v.l.length ≤ 2
  gs : ∀ g ∈ v.l, -K ≤ g.gen ∧ g.gen ≤ K
def evP (l : List Int) (K : Int) (r : Option (Go.Sim.AV × Heap)) : Prop := ∃ v a', r = some (.d (eEvent v), [(1000000, srcO l a')]) ∧ evB K v
theorem ev_fin0 {l : List Int} {K s t en k n e er rd ls : Int} {a' : Nat} (h1 : -K ≤ n) (h2 : n ≤ K) (h3 : -K ≤ e) (h4 : e ≤ K) : Post (evP l K) (some (.d (.agg [.int .i64 s, .int .i64 t, .int .i64 en, .int .i64 k, .int .i64 n, .int .i64 e, .int .i64 er, .sl [], .int .i64 rd, .int .i64 ls]), [(1000000, srcO l a')])) := ⟨⟨s, t, en, k, n, e, er, [], rd, ls⟩, a', rfl, h1, h2, h3, h4, by simp, by simp⟩
theorem ev_fin1 {l : List Int} {K s t en k n e er rd ls i1 g1 r1 d1 : Int} {a' : Nat} (h1 : -K ≤ n) (h2 : n ≤ K) (h3 : -K ≤ e) (h4 : e ≤ K) (h5 : -K ≤ g1) (h6 : g1 ≤ K) : Post (evP l K) (some (.d (.agg [.int .i64 s, .int .i64 t, .int .i64 en, .int .i64 k, .int .i64 n, .int .i64 e, .int .i64 er, .sl [.agg [.int .i64 i1, .int .i64 g1, .int .i64 r1, .int .i64 d1]], .int .i64 rd, .int .i64 ls]), [(1000000, srcO l a')])) := ⟨⟨s, t, en, k, n, e, er, [⟨i1, g1, r1, d1⟩], rd, ls⟩, a', rfl, h1, h2, h3, h4, by simp, by simpa using ⟨h5, h6⟩⟩
theorem ev_fin2 {l : List Int} {K s t en k n e er rd ls i1 g1 r1 d1 i2 g2 r2 d2 : Int} {a' : Nat} (h1 : -K ≤ n) (h2 : n ≤ K) (h3 : -K ≤ e) (h4 : e ≤ K) (h5 : -K ≤ g1) (h6 : g1 ≤ K) (h7 : -K ≤ g2) (h8 : g2 ≤ K) : Post (evP l K) (some (.d (.agg [.int .i64 s, .int .i64 t, .int .i64 en, .int .i64 k, .int .i64 n, .int .i64 e, .int .i64 er, .sl [.agg [.int .i64 i1, .int .i64 g1, .int .i64 r1, .int .i64 d1], .agg [.int .i64 i2, .int .i64 g2, .int .i64 r2, .int .i64 d2]], .int .i64 rd, .int .i64 ls]), [(1000000, srcO l a')])) := ⟨⟨s, t, en, k, n, e, er, [⟨i1, g1, r1, d1⟩, ⟨i2, g2, r2, d2⟩], rd, ls⟩, a', rfl, h1, h2, h3, h4, by simp, by simpa using ⟨⟨h5, h6⟩, h7, h8⟩⟩
end Go.Proofs.Ytbkhijigkmhhkaa

namespace Go.Proofs.Ytbkhijigkmhhkaa
open Go Go.Sim
set_option linter.unusedSimpArgs false
set_option linter.unusedVariables false
set_option maxHeartbeats 10000000
set_option maxRecDepth 40000
theorem evp_1 (l : List Int) (b : Bag) (K : Int)  (hK : 0 ≤ K) (hK2 : K ≤ 1000000) (hn0 : -K ≤ b.now) (hn1 : b.now ≤ K) (he0 : -K ≤ b.epoch) (he1 : b.epoch ≤ K) (hL : l.length ≤ 4000) (hL2 : b.l.length ≤ 4294967296) (a a1 a2 a3 : Nat) (i : Nat) (hi : i < b.l.length) (d : Int) (hd : 0 ≤ d ∧ d < 10) (hx : -K ≤ b.l[i].gen ∧ b.l[i].gen ≤ K)
  (q1 : callL G N_base_Src_Range [.ref 1000000 0 0, .d (.int .i64 1), .d (.int .i64 10)] [(1000000, srcO l a)] = some (.d (.int .i64 1), [(1000000, srcO l a1)]))
  (q2 : callL G N_base_Src_N [.ref 1000000 0 0, .d (.int .i64 b.l.length)] [(1000000, srcO l a1)] = some (.d (.int .i64 i), [(1000000, srcO l a2)]))
  (q3 : callL G N_base_Src_N [.ref 1000000 0 0, .d (.int .i64 10)] [(1000000, srcO l a2)] = some (.d (.int .i64 d), [(1000000, srcO l a3)])) :
  Post (evP l (K + 10)) (callL G N_law31_event [.ref 1000000 0 0, .d (eBag b)] [(1000000, srcO l a)]) := by
  obtain ⟨y, a4, q4, y1, y2⟩ := range_ex l a3 0 6 hL (by omega) (by omega) (by omega) (by omega)
  obtain ⟨c, a5, q5, c1, c2⟩ := n_ex l a4 14 hL (by omega) (by omega)
  obtain ⟨p, a6, q6⟩ := pick_ex l a5 [5, 3, 6, 7] hL (by simp) (by simp)
  obtain ⟨r, a7, q7, r1, r2⟩ := range_ex l a5 (-1) 1 hL (by omega) (by omega) (by omega) (by omega)
  simp only [ints, List.map_cons, List.map_nil] at q6
  obtain ⟨x1, x2⟩ := hx
  obtain ⟨d1, d2⟩ := hd
  simp only [eBag]
  rw [callL_code g_law31_event (by simp)]; simp -implicitDefEqProofs (maxSteps := 4000000) (disch := omega) only [c_law31_event, r_law31_event, eItem, getDT, go_sem, *]; (try simp only [pA, pB, pC, pD, pE, pF, pG, pH, pI, pJ, pK, pL, pM, pN, pO, pP, if_true, if_false]); repeat' (first | done | rfl | ((first | refine iteC (fun hq => ?_) (fun hq => ?_) | refine iteP (fun hq => ?_) (fun hq => ?_)) <;> (try (first | (exfalso; omega) | contradiction)) <;> (try simp -implicitDefEqProofs (maxSteps := 4000000) (disch := omega) only [eItem, getDT, go_sem, *]) <;> (try simp only [pA, pB, pC, pD, pE, pF, pG, pH, pI, pJ, pK, pL, pM, pN, pO, pP, if_true, if_false]))); (all_goals try rfl); (all_goals try (repeat' (first | done | rfl | (exfalso; omega) | contradiction | (refine iteR (fun hq => ?_) (fun hq => ?_)))))
  all_goals first | exact ev_fin0 (by omega) (by omega) (by omega) (by omega) | exact ev_fin1 (by omega) (by omega) (by omega) (by omega) (by omega) (by omega) | exact ev_fin2 (by omega) (by omega) (by omega) (by omega) (by omega) (by omega) (by omega) (by omega)
theorem evp_1z (l : List Int) (b : Bag) (K : Int)  (hK : 0 ≤ K) (hK2 : K ≤ 1000000) (hn0 : -K ≤ b.now) (hn1 : b.now ≤ K) (he0 : -K ≤ b.epoch) (he1 : b.epoch ≤ K) (hL : l.length ≤ 4000) (hL2 : b.l.length ≤ 4294967296) (a a1 a2 a3 : Nat) (hb : b.l = []) (d : Int) (hd : 0 ≤ d ∧ d < 10)
  (q1 : callL G N_base_Src_Range [.ref 1000000 0 0, .d (.int .i64 1), .d (.int .i64 10)] [(1000000, srcO l a)] = some (.d (.int .i64 1), [(1000000, srcO l a1)]))
  (q3 : callL G N_base_Src_N [.ref 1000000 0 0, .d (.int .i64 10)] [(1000000, srcO l a1)] = some (.d (.int .i64 d), [(1000000, srcO l a3)])) :
  Post (evP l (K + 10)) (callL G N_law31_event [.ref 1000000 0 0, .d (eBag b)] [(1000000, srcO l a)]) := by
  obtain ⟨y, a4, q4, y1, y2⟩ := range_ex l a3 0 6 hL (by omega) (by omega) (by omega) (by omega)
  obtain ⟨c, a5, q5, c1, c2⟩ := n_ex l a4 14 hL (by omega) (by omega)
  obtain ⟨p, a6, q6⟩ := pick_ex l a5 [5, 3, 6, 7] hL (by simp) (by simp)
  obtain ⟨r, a7, q7, r1, r2⟩ := range_ex l a5 (-1) 1 hL (by omega) (by omega) (by omega) (by omega)
  simp only [ints, List.map_cons, List.map_nil] at q6
  obtain ⟨d1, d2⟩ := hd
  simp only [eBag, hb, List.map_nil]
  clear hb
  rw [callL_code g_law31_event (by simp)]; simp -implicitDefEqProofs (maxSteps := 4000000) (disch := omega) only [c_law31_event, r_law31_event, getDT, go_sem, *]; (try simp only [pA, pB, pC, pD, pE, pF, pG, pH, pI, pJ, pK, pL, pM, pN, pO, pP, if_true, if_false]); repeat' (first | done | rfl | ((first | refine iteC (fun hq => ?_) (fun hq => ?_) | refine iteP (fun hq => ?_) (fun hq => ?_)) <;> (try (first | (exfalso; omega) | contradiction)) <;> (try simp -implicitDefEqProofs (maxSteps := 4000000) (disch := omega) only [getDT, go_sem, *]) <;> (try simp only [pA, pB, pC, pD, pE, pF, pG, pH, pI, pJ, pK, pL, pM, pN, pO, pP, if_true, if_false]))); (all_goals try rfl); (all_goals try (repeat' (first | done | rfl | (exfalso; omega) | contradiction | (refine iteR (fun hq => ?_) (fun hq => ?_)))))
  all_goals first | exact ev_fin0 (by omega) (by omega) (by omega) (by omega) | exact ev_fin1 (by omega) (by omega) (by omega) (by omega) (by omega) (by omega) | exact ev_fin2 (by omega) (by omega) (by omega) (by omega) (by omega) (by omega) (by omega) (by omega)
theorem evp_2 (l : List Int) (b : Bag) (K : Int)  (hK : 0 ≤ K) (hK2 : K ≤ 1000000) (hn0 : -K ≤ b.now) (hn1 : b.now ≤ K) (he0 : -K ≤ b.epoch) (he1 : b.epoch ≤ K) (hL : l.length ≤ 4000) (hL2 : b.l.length ≤ 4294967296) (a a1 a2 a3 : Nat) (i : Nat) (hi : i < b.l.length) (d : Int) (hd : 0 ≤ d ∧ d < 10) (hx : -K ≤ b.l[i].gen ∧ b.l[i].gen ≤ K)
  (q1 : callL G N_base_Src_Range [.ref 1000000 0 0, .d (.int .i64 1), .d (.int .i64 10)] [(1000000, srcO l a)] = some (.d (.int .i64 2), [(1000000, srcO l a1)]))
  (q2 : callL G N_base_Src_N [.ref 1000000 0 0, .d (.int .i64 b.l.length)] [(1000000, srcO l a1)] = some (.d (.int .i64 i), [(1000000, srcO l a2)]))
  (q3 : callL G N_base_Src_N [.ref 1000000 0 0, .d (.int .i64 10)] [(1000000, srcO l a2)] = some (.d (.int .i64 d), [(1000000, srcO l a3)])) :
  Post (evP l (K + 10)) (callL G N_law31_event [.ref 1000000 0 0, .d (eBag b)] [(1000000, srcO l a)]) := by
  obtain ⟨y, a4, q4, y1, y2⟩ := range_ex l a3 1 9 hL (by omega) (by omega) (by omega) (by omega)
  obtain ⟨z, a8, q8, z1, z2⟩ := n_ex l a4 4 hL (by omega) (by omega)
  obtain ⟨c, a5, q5, c1, c2⟩ := n_ex l a8 14 hL (by omega) (by omega)
  obtain ⟨p, a6, q6⟩ := pick_ex l a5 [5, 3, 6, 7] hL (by simp) (by simp)
  obtain ⟨r, a7, q7, r1, r2⟩ := range_ex l a5 (-1) 1 hL (by omega) (by omega) (by omega) (by omega)
  simp only [ints, List.map_cons, List.map_nil] at q6
  obtain ⟨x1, x2⟩ := hx
  obtain ⟨d1, d2⟩ := hd
  simp only [eBag]
  rw [callL_code g_law31_event (by simp)]; simp -implicitDefEqProofs (maxSteps := 4000000) (disch := omega) only [c_law31_event, r_law31_event, eItem, getDT, go_sem, *]; (try simp only [pA, pB, pC, pD, pE, pF, pG, pH, pI, pJ, pK, pL, pM, pN, pO, pP, if_true, if_false]); repeat' (first | done | rfl | ((first | refine iteC (fun hq => ?_) (fun hq => ?_) | refine iteP (fun hq => ?_) (fun hq => ?_)) <;> (try (first | (exfalso; omega) | contradiction)) <;> (try simp -implicitDefEqProofs (maxSteps := 4000000) (disch := omega) only [eItem, getDT, go_sem, *]) <;> (try simp only [pA, pB, pC, pD, pE, pF, pG, pH, pI, pJ, pK, pL, pM, pN, pO, pP, if_true, if_false]))); (all_goals try rfl); (all_goals try (repeat' (first | done | rfl | (exfalso; omega) | contradiction | (refine iteR (fun hq => ?_) (fun hq => ?_)))))
  all_goals first | exact ev_fin0 (by omega) (by omega) (by omega) (by omega) | exact ev_fin1 (by omega) (by omega) (by omega) (by omega) (by omega) (by omega) | exact ev_fin2 (by omega) (by omega) (by omega) (by omega) (by omega) (by omega) (by omega) (by omega)
theorem evp_2z (l : List Int) (b : Bag) (K : Int)  (hK : 0 ≤ K) (hK2 : K ≤ 1000000) (hn0 : -K ≤ b.now) (hn1 : b.now ≤ K) (he0 : -K ≤ b.epoch) (he1 : b.epoch ≤ K) (hL : l.length ≤ 4000) (hL2 : b.l.length ≤ 4294967296) (a a1 a2 a3 : Nat) (hb : b.l = []) (d : Int) (hd : 0 ≤ d ∧ d < 10)
  (q1 : callL G N_base_Src_Range [.ref 1000000 0 0, .d (.int .i64 1), .d (.int .i64 10)] [(1000000, srcO l a)] = some (.d (.int .i64 2), [(1000000, srcO l a1)]))
  (q3 : callL G N_base_Src_N [.ref 1000000 0 0, .d (.int .i64 10)] [(1000000, srcO l a1)] = some (.d (.int .i64 d), [(1000000, srcO l a3)])) :
  Post (evP l (K + 10)) (callL G N_law31_event [.ref 1000000 0 0, .d (eBag b)] [(1000000, srcO l a)]) := by
  obtain ⟨y, a4, q4, y1, y2⟩ := range_ex l a3 1 9 hL (by omega) (by omega) (by omega) (by omega)
  obtain ⟨z, a8, q8, z1, z2⟩ := n_ex l a4 4 hL (by omega) (by omega)
  obtain ⟨c, a5, q5, c1, c2⟩ := n_ex l a8 14 hL (by omega) (by omega)
  obtain ⟨p, a6, q6⟩ := pick_ex l a5 [5, 3, 6, 7] hL (by simp) (by simp)
  obtain ⟨r, a7, q7, r1, r2⟩ := range_ex l a5 (-1) 1 hL (by omega) (by omega) (by omega) (by omega)
  simp only [ints, List.map_cons, List.map_nil] at q6
  obtain ⟨d1, d2⟩ := hd
  simp only [eBag, hb, List.map_nil]
  clear hb
  rw [callL_code g_law31_event (by simp)]; simp -implicitDefEqProofs (maxSteps := 4000000) (disch := omega) only [c_law31_event, r_law31_event, getDT, go_sem, *]; (try simp only [pA, pB, pC, pD, pE, pF, pG, pH, pI, pJ, pK, pL, pM, pN, pO, pP, if_true, if_false]); repeat' (first | done | rfl | ((first | refine iteC (fun hq => ?_) (fun hq => ?_) | refine iteP (fun hq => ?_) (fun hq => ?_)) <;> (try (first | (exfalso; omega) | contradiction)) <;> (try simp -implicitDefEqProofs (maxSteps := 4000000) (disch := omega) only [getDT, go_sem, *]) <;> (try simp only [pA, pB, pC, pD, pE, pF, pG, pH, pI, pJ, pK, pL, pM, pN, pO, pP, if_true, if_false]))); (all_goals try rfl); (all_goals try (repeat' (first | done | rfl | (exfalso; omega) | contradiction | (refine iteR (fun hq => ?_) (fun hq => ?_)))))
  all_goals first | exact ev_fin0 (by omega) (by omega) (by omega) (by omega) | exact ev_fin1 (by omega) (by omega) (by omega) (by omega) (by omega) (by omega) | exact ev_fin2 (by omega) (by omega) (by omega) (by omega) (by omega) (by omega) (by omega) (by omega)
end Go.Proofs.Ytbkhijigkmhhkaa

namespace Go.Proofs.Ytbkhijigkmhhkaa
open Go Go.Sim
set_option linter.unusedSimpArgs false
set_option linter.unusedVariables false
set_option maxHeartbeats 10000000
set_option maxRecDepth 40000
theorem evp_3 (l : List Int) (b : Bag) (K : Int)  (hK : 0 ≤ K) (hK2 : K ≤ 1000000) (hn0 : -K ≤ b.now) (hn1 : b.now ≤ K) (he0 : -K ≤ b.epoch) (he1 : b.epoch ≤ K) (hL : l.length ≤ 4000) (hL2 : b.l.length ≤ 4294967296) (a a1 a2 a3 : Nat) (i : Nat) (hi : i < b.l.length) (d : Int) (hd : 0 ≤ d ∧ d < 10) (hx : -K ≤ b.l[i].gen ∧ b.l[i].gen ≤ K)
  (q1 : callL G N_base_Src_Range [.ref 1000000 0 0, .d (.int .i64 1), .d (.int .i64 10)] [(1000000, srcO l a)] = some (.d (.int .i64 3), [(1000000, srcO l a1)]))
  (q2 : callL G N_base_Src_N [.ref 1000000 0 0, .d (.int .i64 b.l.length)] [(1000000, srcO l a1)] = some (.d (.int .i64 i), [(1000000, srcO l a2)]))
  (q3 : callL G N_base_Src_N [.ref 1000000 0 0, .d (.int .i64 10)] [(1000000, srcO l a2)] = some (.d (.int .i64 d), [(1000000, srcO l a3)])) :
  Post (evP l (K + 10)) (callL G N_law31_event [.ref 1000000 0 0, .d (eBag b)] [(1000000, srcO l a)]) := by
  obtain ⟨c, a5, q5, c1, c2⟩ := n_ex l a3 14 hL (by omega) (by omega)
  obtain ⟨p, a6, q6⟩ := pick_ex l a5 [5, 3, 6, 7] hL (by simp) (by simp)
  obtain ⟨r, a7, q7, r1, r2⟩ := range_ex l a5 (-1) 1 hL (by omega) (by omega) (by omega) (by omega)
  simp only [ints, List.map_cons, List.map_nil] at q6
  obtain ⟨x1, x2⟩ := hx
  obtain ⟨d1, d2⟩ := hd
  simp only [eBag]
  rw [callL_code g_law31_event (by simp)]; simp -implicitDefEqProofs (maxSteps := 4000000) (disch := omega) only [c_law31_event, r_law31_event, eItem, getDT, go_sem, *]; (try simp only [pA, pB, pC, pD, pE, pF, pG, pH, pI, pJ, pK, pL, pM, pN, pO, pP, if_true, if_false]); repeat' (first | done | rfl | ((first | refine iteC (fun hq => ?_) (fun hq => ?_) | refine iteP (fun hq => ?_) (fun hq => ?_)) <;> (try (first | (exfalso; omega) | contradiction)) <;> (try simp -implicitDefEqProofs (maxSteps := 4000000) (disch := omega) only [eItem, getDT, go_sem, *]) <;> (try simp only [pA, pB, pC, pD, pE, pF, pG, pH, pI, pJ, pK, pL, pM, pN, pO, pP, if_true, if_false]))); (all_goals try rfl); (all_goals try (repeat' (first | done | rfl | (exfalso; omega) | contradiction | (refine iteR (fun hq => ?_) (fun hq => ?_)))))
  all_goals first | exact ev_fin0 (by omega) (by omega) (by omega) (by omega) | exact ev_fin1 (by omega) (by omega) (by omega) (by omega) (by omega) (by omega) | exact ev_fin2 (by omega) (by omega) (by omega) (by omega) (by omega) (by omega) (by omega) (by omega)
theorem evp_3z (l : List Int) (b : Bag) (K : Int)  (hK : 0 ≤ K) (hK2 : K ≤ 1000000) (hn0 : -K ≤ b.now) (hn1 : b.now ≤ K) (he0 : -K ≤ b.epoch) (he1 : b.epoch ≤ K) (hL : l.length ≤ 4000) (hL2 : b.l.length ≤ 4294967296) (a a1 a2 a3 : Nat) (hb : b.l = []) (d : Int) (hd : 0 ≤ d ∧ d < 10)
  (q1 : callL G N_base_Src_Range [.ref 1000000 0 0, .d (.int .i64 1), .d (.int .i64 10)] [(1000000, srcO l a)] = some (.d (.int .i64 3), [(1000000, srcO l a1)]))
  (q3 : callL G N_base_Src_N [.ref 1000000 0 0, .d (.int .i64 10)] [(1000000, srcO l a1)] = some (.d (.int .i64 d), [(1000000, srcO l a3)])) :
  Post (evP l (K + 10)) (callL G N_law31_event [.ref 1000000 0 0, .d (eBag b)] [(1000000, srcO l a)]) := by
  obtain ⟨c, a5, q5, c1, c2⟩ := n_ex l a3 14 hL (by omega) (by omega)
  obtain ⟨p, a6, q6⟩ := pick_ex l a5 [5, 3, 6, 7] hL (by simp) (by simp)
  obtain ⟨r, a7, q7, r1, r2⟩ := range_ex l a5 (-1) 1 hL (by omega) (by omega) (by omega) (by omega)
  simp only [ints, List.map_cons, List.map_nil] at q6
  obtain ⟨d1, d2⟩ := hd
  simp only [eBag, hb, List.map_nil]
  clear hb
  rw [callL_code g_law31_event (by simp)]; simp -implicitDefEqProofs (maxSteps := 4000000) (disch := omega) only [c_law31_event, r_law31_event, getDT, go_sem, *]; (try simp only [pA, pB, pC, pD, pE, pF, pG, pH, pI, pJ, pK, pL, pM, pN, pO, pP, if_true, if_false]); repeat' (first | done | rfl | ((first | refine iteC (fun hq => ?_) (fun hq => ?_) | refine iteP (fun hq => ?_) (fun hq => ?_)) <;> (try (first | (exfalso; omega) | contradiction)) <;> (try simp -implicitDefEqProofs (maxSteps := 4000000) (disch := omega) only [getDT, go_sem, *]) <;> (try simp only [pA, pB, pC, pD, pE, pF, pG, pH, pI, pJ, pK, pL, pM, pN, pO, pP, if_true, if_false]))); (all_goals try rfl); (all_goals try (repeat' (first | done | rfl | (exfalso; omega) | contradiction | (refine iteR (fun hq => ?_) (fun hq => ?_)))))
  all_goals first | exact ev_fin0 (by omega) (by omega) (by omega) (by omega) | exact ev_fin1 (by omega) (by omega) (by omega) (by omega) (by omega) (by omega) | exact ev_fin2 (by omega) (by omega) (by omega) (by omega) (by omega) (by omega) (by omega) (by omega)
theorem evp_7 (l : List Int) (b : Bag) (K : Int)  (hK : 0 ≤ K) (hK2 : K ≤ 1000000) (hn0 : -K ≤ b.now) (hn1 : b.now ≤ K) (he0 : -K ≤ b.epoch) (he1 : b.epoch ≤ K) (hL : l.length ≤ 4000) (hL2 : b.l.length ≤ 4294967296) (a a1 a2 a3 : Nat) (i : Nat) (hi : i < b.l.length) (d : Int) (hd : 0 ≤ d ∧ d < 10) (hx : -K ≤ b.l[i].gen ∧ b.l[i].gen ≤ K)
  (q1 : callL G N_base_Src_Range [.ref 1000000 0 0, .d (.int .i64 1), .d (.int .i64 10)] [(1000000, srcO l a)] = some (.d (.int .i64 7), [(1000000, srcO l a1)]))
  (q2 : callL G N_base_Src_N [.ref 1000000 0 0, .d (.int .i64 b.l.length)] [(1000000, srcO l a1)] = some (.d (.int .i64 i), [(1000000, srcO l a2)]))
  (q3 : callL G N_base_Src_N [.ref 1000000 0 0, .d (.int .i64 10)] [(1000000, srcO l a2)] = some (.d (.int .i64 d), [(1000000, srcO l a3)])) :
  Post (evP l (K + 10)) (callL G N_law31_event [.ref 1000000 0 0, .d (eBag b)] [(1000000, srcO l a)]) := by
  obtain ⟨y, a4, q4, y1, y2⟩ := n_ex l a3 3 hL (by omega) (by omega)
  obtain ⟨c, a5, q5, c1, c2⟩ := n_ex l a4 14 hL (by omega) (by omega)
  obtain ⟨p, a6, q6⟩ := pick_ex l a5 [5, 3, 6, 7] hL (by simp) (by simp)
  obtain ⟨r, a7, q7, r1, r2⟩ := range_ex l a5 (-1) 1 hL (by omega) (by omega) (by omega) (by omega)
  simp only [ints, List.map_cons, List.map_nil] at q6
  obtain ⟨x1, x2⟩ := hx
  obtain ⟨d1, d2⟩ := hd
  simp only [eBag]
  rw [callL_code g_law31_event (by simp)]; simp -implicitDefEqProofs (maxSteps := 4000000) (disch := omega) only [c_law31_event, r_law31_event, eItem, getDT, go_sem, *]; (try simp only [pA, pB, pC, pD, pE, pF, pG, pH, pI, pJ, pK, pL, pM, pN, pO, pP, if_true, if_false]); repeat' (first | done | rfl | ((first | refine iteC (fun hq => ?_) (fun hq => ?_) | refine iteP (fun hq => ?_) (fun hq => ?_)) <;> (try (first | (exfalso; omega) | contradiction)) <;> (try simp -implicitDefEqProofs (maxSteps := 4000000) (disch := omega) only [eItem, getDT, go_sem, *]) <;> (try simp only [pA, pB, pC, pD, pE, pF, pG, pH, pI, pJ, pK, pL, pM, pN, pO, pP, if_true, if_false]))); (all_goals try rfl); (all_goals try (repeat' (first | done | rfl | (exfalso; omega) | contradiction | (refine iteR (fun hq => ?_) (fun hq => ?_)))))
  all_goals first | exact ev_fin0 (by omega) (by omega) (by omega) (by omega) | exact ev_fin1 (by omega) (by omega) (by omega) (by omega) (by omega) (by omega) | exact ev_fin2 (by omega) (by omega) (by omega) (by omega) (by omega) (by omega) (by omega) (by omega)
theorem evp_7z (l : List Int) (b : Bag) (K : Int)  (hK : 0 ≤ K) (hK2 : K ≤ 1000000) (hn0 : -K ≤ b.now) (hn1 : b.now ≤ K) (he0 : -K ≤ b.epoch) (he1 : b.epoch ≤ K) (hL : l.length ≤ 4000) (hL2 : b.l.length ≤ 4294967296) (a a1 a2 a3 : Nat) (hb : b.l = []) (d : Int) (hd : 0 ≤ d ∧ d < 10)
  (q1 : callL G N_base_Src_Range [.ref 1000000 0 0, .d (.int .i64 1), .d (.int .i64 10)] [(1000000, srcO l a)] = some (.d (.int .i64 7), [(1000000, srcO l a1)]))
  (q3 : callL G N_base_Src_N [.ref 1000000 0 0, .d (.int .i64 10)] [(1000000, srcO l a1)] = some (.d (.int .i64 d), [(1000000, srcO l a3)])) :
  Post (evP l (K + 10)) (callL G N_law31_event [.ref 1000000 0 0, .d (eBag b)] [(1000000, srcO l a)]) := by
  obtain ⟨y, a4, q4, y1, y2⟩ := n_ex l a3 3 hL (by omega) (by omega)
  obtain ⟨c, a5, q5, c1, c2⟩ := n_ex l a4 14 hL (by omega) (by omega)
  obtain ⟨p, a6, q6⟩ := pick_ex l a5 [5, 3, 6, 7] hL (by simp) (by simp)
  obtain ⟨r, a7, q7, r1, r2⟩ := range_ex l a5 (-1) 1 hL (by omega) (by omega) (by omega) (by omega)
  simp only [ints, List.map_cons, List.map_nil] at q6
  obtain ⟨d1, d2⟩ := hd
  simp only [eBag, hb, List.map_nil]
  clear hb
  rw [callL_code g_law31_event (by simp)]; simp -implicitDefEqProofs (maxSteps := 4000000) (disch := omega) only [c_law31_event, r_law31_event, getDT, go_sem, *]; (try simp only [pA, pB, pC, pD, pE, pF, pG, pH, pI, pJ, pK, pL, pM, pN, pO, pP, if_true, if_false]); repeat' (first | done | rfl | ((first | refine iteC (fun hq => ?_) (fun hq => ?_) | refine iteP (fun hq => ?_) (fun hq => ?_)) <;> (try (first | (exfalso; omega) | contradiction)) <;> (try simp -implicitDefEqProofs (maxSteps := 4000000) (disch := omega) only [getDT, go_sem, *]) <;> (try simp only [pA, pB, pC, pD, pE, pF, pG, pH, pI, pJ, pK, pL, pM, pN, pO, pP, if_true, if_false]))); (all_goals try rfl); (all_goals try (repeat' (first | done | rfl | (exfalso; omega) | contradiction | (refine iteR (fun hq => ?_) (fun hq => ?_)))))
  all_goals first | exact ev_fin0 (by omega) (by omega) (by omega) (by omega) | exact ev_fin1 (by omega) (by omega) (by omega) (by omega) (by omega) (by omega) | exact ev_fin2 (by omega) (by omega) (by omega) (by omega) (by omega) (by omega) (by omega) (by omega)
end Go.Proofs.Ytbkhijigkmhhkaa

namespace Go.Proofs.Ytbkhijigkmhhkaa
open Go Go.Sim
set_option linter.unusedSimpArgs false
set_option linter.unusedVariables false
set_option maxHeartbeats 10000000
set_option maxRecDepth 40000
theorem evp_8 (l : List Int) (b : Bag) (K : Int)  (hK : 0 ≤ K) (hK2 : K ≤ 1000000) (hn0 : -K ≤ b.now) (hn1 : b.now ≤ K) (he0 : -K ≤ b.epoch) (he1 : b.epoch ≤ K) (hL : l.length ≤ 4000) (hL2 : b.l.length ≤ 4294967296) (a a1 a2 a3 : Nat) (i : Nat) (hi : i < b.l.length) (d : Int) (hd : 0 ≤ d ∧ d < 10) (hx : -K ≤ b.l[i].gen ∧ b.l[i].gen ≤ K)
  (q1 : callL G N_base_Src_Range [.ref 1000000 0 0, .d (.int .i64 1), .d (.int .i64 10)] [(1000000, srcO l a)] = some (.d (.int .i64 8), [(1000000, srcO l a1)]))
  (q2 : callL G N_base_Src_N [.ref 1000000 0 0, .d (.int .i64 b.l.length)] [(1000000, srcO l a1)] = some (.d (.int .i64 i), [(1000000, srcO l a2)]))
  (q3 : callL G N_base_Src_N [.ref 1000000 0 0, .d (.int .i64 10)] [(1000000, srcO l a2)] = some (.d (.int .i64 d), [(1000000, srcO l a3)])) :
  Post (evP l (K + 10)) (callL G N_law31_event [.ref 1000000 0 0, .d (eBag b)] [(1000000, srcO l a)]) := by
  have hcn := r31counts_ok b hL2
  generalize cntS 1 b.l = cn1 at *
  generalize cntS 2 b.l = cn2 at *
  obtain ⟨c, a5, q5, c1, c2⟩ := n_ex l a3 14 hL (by omega) (by omega)
  obtain ⟨p, a6, q6⟩ := pick_ex l a5 [5, 3, 6, 7] hL (by simp) (by simp)
  obtain ⟨r, a7, q7, r1, r2⟩ := range_ex l a5 (-1) 1 hL (by omega) (by omega) (by omega) (by omega)
  simp only [ints, List.map_cons, List.map_nil] at q6
  obtain ⟨x1, x2⟩ := hx
  obtain ⟨d1, d2⟩ := hd
  simp only [eBag] at hcn ⊢
  rw [callL_code g_law31_event (by simp)]; simp -implicitDefEqProofs (maxSteps := 4000000) (disch := omega) only [c_law31_event, r_law31_event, eItem, getDT, go_sem, *]; (try simp only [pA, pB, pC, pD, pE, pF, pG, pH, pI, pJ, pK, pL, pM, pN, pO, pP, if_true, if_false]); repeat' (first | done | rfl | ((first | refine iteC (fun hq => ?_) (fun hq => ?_) | refine iteP (fun hq => ?_) (fun hq => ?_)) <;> (try (first | (exfalso; omega) | contradiction)) <;> (try simp -implicitDefEqProofs (maxSteps := 4000000) (disch := omega) only [eItem, getDT, go_sem, *]) <;> (try simp only [pA, pB, pC, pD, pE, pF, pG, pH, pI, pJ, pK, pL, pM, pN, pO, pP, if_true, if_false]))); (all_goals try rfl); (all_goals try (repeat' (first | done | rfl | (exfalso; omega) | contradiction | (refine iteR (fun hq => ?_) (fun hq => ?_)))))
  all_goals first | exact ev_fin0 (by omega) (by omega) (by omega) (by omega) | exact ev_fin1 (by omega) (by omega) (by omega) (by omega) (by omega) (by omega) | exact ev_fin2 (by omega) (by omega) (by omega) (by omega) (by omega) (by omega) (by omega) (by omega)
theorem evp_8z (l : List Int) (b : Bag) (K : Int)  (hK : 0 ≤ K) (hK2 : K ≤ 1000000) (hn0 : -K ≤ b.now) (hn1 : b.now ≤ K) (he0 : -K ≤ b.epoch) (he1 : b.epoch ≤ K) (hL : l.length ≤ 4000) (hL2 : b.l.length ≤ 4294967296) (a a1 a2 a3 : Nat) (hb : b.l = []) (d : Int) (hd : 0 ≤ d ∧ d < 10)
  (q1 : callL G N_base_Src_Range [.ref 1000000 0 0, .d (.int .i64 1), .d (.int .i64 10)] [(1000000, srcO l a)] = some (.d (.int .i64 8), [(1000000, srcO l a1)]))
  (q3 : callL G N_base_Src_N [.ref 1000000 0 0, .d (.int .i64 10)] [(1000000, srcO l a1)] = some (.d (.int .i64 d), [(1000000, srcO l a3)])) :
  Post (evP l (K + 10)) (callL G N_law31_event [.ref 1000000 0 0, .d (eBag b)] [(1000000, srcO l a)]) := by
  have hcn := r31counts_ok b hL2
  generalize cntS 1 b.l = cn1 at *
  generalize cntS 2 b.l = cn2 at *
  obtain ⟨c, a5, q5, c1, c2⟩ := n_ex l a3 14 hL (by omega) (by omega)
  obtain ⟨p, a6, q6⟩ := pick_ex l a5 [5, 3, 6, 7] hL (by simp) (by simp)
  obtain ⟨r, a7, q7, r1, r2⟩ := range_ex l a5 (-1) 1 hL (by omega) (by omega) (by omega) (by omega)
  simp only [ints, List.map_cons, List.map_nil] at q6
  obtain ⟨d1, d2⟩ := hd
  simp only [eBag, hb, List.map_nil] at hcn ⊢
  clear hb
  rw [callL_code g_law31_event (by simp)]; simp -implicitDefEqProofs (maxSteps := 4000000) (disch := omega) only [c_law31_event, r_law31_event, getDT, go_sem, *]; (try simp only [pA, pB, pC, pD, pE, pF, pG, pH, pI, pJ, pK, pL, pM, pN, pO, pP, if_true, if_false]); repeat' (first | done | rfl | ((first | refine iteC (fun hq => ?_) (fun hq => ?_) | refine iteP (fun hq => ?_) (fun hq => ?_)) <;> (try (first | (exfalso; omega) | contradiction)) <;> (try simp -implicitDefEqProofs (maxSteps := 4000000) (disch := omega) only [getDT, go_sem, *]) <;> (try simp only [pA, pB, pC, pD, pE, pF, pG, pH, pI, pJ, pK, pL, pM, pN, pO, pP, if_true, if_false]))); (all_goals try rfl); (all_goals try (repeat' (first | done | rfl | (exfalso; omega) | contradiction | (refine iteR (fun hq => ?_) (fun hq => ?_)))))
  all_goals first | exact ev_fin0 (by omega) (by omega) (by omega) (by omega) | exact ev_fin1 (by omega) (by omega) (by omega) (by omega) (by omega) (by omega) | exact ev_fin2 (by omega) (by omega) (by omega) (by omega) (by omega) (by omega) (by omega) (by omega)
theorem evp_d (l : List Int) (b : Bag) (K : Int) (kd : Int) (hkd : kd = 4 ∨ kd = 5 ∨ kd = 6 ∨ kd = 9 ∨ kd = 10) (hK : 0 ≤ K) (hK2 : K ≤ 1000000) (hn0 : -K ≤ b.now) (hn1 : b.now ≤ K) (he0 : -K ≤ b.epoch) (he1 : b.epoch ≤ K) (hL : l.length ≤ 4000) (hL2 : b.l.length ≤ 4294967296) (a a1 a2 a3 : Nat) (i : Nat) (hi : i < b.l.length) (d : Int) (hd : 0 ≤ d ∧ d < 10) (hx : -K ≤ b.l[i].gen ∧ b.l[i].gen ≤ K)
  (q1 : callL G N_base_Src_Range [.ref 1000000 0 0, .d (.int .i64 1), .d (.int .i64 10)] [(1000000, srcO l a)] = some (.d (.int .i64 kd), [(1000000, srcO l a1)]))
  (q2 : callL G N_base_Src_N [.ref 1000000 0 0, .d (.int .i64 b.l.length)] [(1000000, srcO l a1)] = some (.d (.int .i64 i), [(1000000, srcO l a2)]))
  (q3 : callL G N_base_Src_N [.ref 1000000 0 0, .d (.int .i64 10)] [(1000000, srcO l a2)] = some (.d (.int .i64 d), [(1000000, srcO l a3)])) :
  Post (evP l (K + 10)) (callL G N_law31_event [.ref 1000000 0 0, .d (eBag b)] [(1000000, srcO l a)]) := by
  obtain ⟨c, a5, q5, c1, c2⟩ := n_ex l a3 14 hL (by omega) (by omega)
  obtain ⟨p, a6, q6⟩ := pick_ex l a5 [5, 3, 6, 7] hL (by simp) (by simp)
  obtain ⟨r, a7, q7, r1, r2⟩ := range_ex l a5 (-1) 1 hL (by omega) (by omega) (by omega) (by omega)
  simp only [ints, List.map_cons, List.map_nil] at q6
  obtain ⟨x1, x2⟩ := hx
  obtain ⟨d1, d2⟩ := hd
  obtain ⟨e1, e2, e3, e7, e8⟩ : ¬ kd = 1 ∧ ¬ kd = 2 ∧ ¬ kd = 3 ∧ ¬ kd = 7 ∧ ¬ kd = 8 := by omega
  clear hkd
  simp only [eBag]
  rw [callL_code g_law31_event (by simp)]; simp -implicitDefEqProofs (maxSteps := 4000000) (disch := omega) only [c_law31_event, r_law31_event, eItem, getDT, go_sem, *]; (try simp only [pA, pB, pC, pD, pE, pF, pG, pH, pI, pJ, pK, pL, pM, pN, pO, pP, if_true, if_false]); repeat' (first | done | rfl | ((first | refine iteC (fun hq => ?_) (fun hq => ?_) | refine iteP (fun hq => ?_) (fun hq => ?_)) <;> (try (first | (exfalso; omega) | contradiction)) <;> (try simp -implicitDefEqProofs (maxSteps := 4000000) (disch := omega) only [eItem, getDT, go_sem, *]) <;> (try simp only [pA, pB, pC, pD, pE, pF, pG, pH, pI, pJ, pK, pL, pM, pN, pO, pP, if_true, if_false]))); (all_goals try rfl); (all_goals try (repeat' (first | done | rfl | (exfalso; omega) | contradiction | (refine iteR (fun hq => ?_) (fun hq => ?_)))))
  all_goals first | exact ev_fin0 (by omega) (by omega) (by omega) (by omega) | exact ev_fin1 (by omega) (by omega) (by omega) (by omega) (by omega) (by omega) | exact ev_fin2 (by omega) (by omega) (by omega) (by omega) (by omega) (by omega) (by omega) (by omega)
theorem evp_dz (l : List Int) (b : Bag) (K : Int) (kd : Int) (hkd : kd = 4 ∨ kd = 5 ∨ kd = 6 ∨ kd = 9 ∨ kd = 10) (hK : 0 ≤ K) (hK2 : K ≤ 1000000) (hn0 : -K ≤ b.now) (hn1 : b.now ≤ K) (he0 : -K ≤ b.epoch) (he1 : b.epoch ≤ K) (hL : l.length ≤ 4000) (hL2 : b.l.length ≤ 4294967296) (a a1 a2 a3 : Nat) (hb : b.l = []) (d : Int) (hd : 0 ≤ d ∧ d < 10)
  (q1 : callL G N_base_Src_Range [.ref 1000000 0 0, .d (.int .i64 1), .d (.int .i64 10)] [(1000000, srcO l a)] = some (.d (.int .i64 kd), [(1000000, srcO l a1)]))
  (q3 : callL G N_base_Src_N [.ref 1000000 0 0, .d (.int .i64 10)] [(1000000, srcO l a1)] = some (.d (.int .i64 d), [(1000000, srcO l a3)])) :
  Post (evP l (K + 10)) (callL G N_law31_event [.ref 1000000 0 0, .d (eBag b)] [(1000000, srcO l a)]) := by
  obtain ⟨c, a5, q5, c1, c2⟩ := n_ex l a3 14 hL (by omega) (by omega)
  obtain ⟨p, a6, q6⟩ := pick_ex l a5 [5, 3, 6, 7] hL (by simp) (by simp)
  obtain ⟨r, a7, q7, r1, r2⟩ := range_ex l a5 (-1) 1 hL (by omega) (by omega) (by omega) (by omega)
  simp only [ints, List.map_cons, List.map_nil] at q6
  obtain ⟨d1, d2⟩ := hd
  obtain ⟨e1, e2, e3, e7, e8⟩ : ¬ kd = 1 ∧ ¬ kd = 2 ∧ ¬ kd = 3 ∧ ¬ kd = 7 ∧ ¬ kd = 8 := by omega
  clear hkd
  simp only [eBag, hb, List.map_nil]
  clear hb
  rw [callL_code g_law31_event (by simp)]; simp -implicitDefEqProofs (maxSteps := 4000000) (disch := omega) only [c_law31_event, r_law31_event, getDT, go_sem, *]; (try simp only [pA, pB, pC, pD, pE, pF, pG, pH, pI, pJ, pK, pL, pM, pN, pO, pP, if_true, if_false]); repeat' (first | done | rfl | ((first | refine iteC (fun hq => ?_) (fun hq => ?_) | refine iteP (fun hq => ?_) (fun hq => ?_)) <;> (try (first | (exfalso; omega) | contradiction)) <;> (try simp -implicitDefEqProofs (maxSteps := 4000000) (disch := omega) only [getDT, go_sem, *]) <;> (try simp only [pA, pB, pC, pD, pE, pF, pG, pH, pI, pJ, pK, pL, pM, pN, pO, pP, if_true, if_false]))); (all_goals try rfl); (all_goals try (repeat' (first | done | rfl | (exfalso; omega) | contradiction | (refine iteR (fun hq => ?_) (fun hq => ?_)))))
  all_goals first | exact ev_fin0 (by omega) (by omega) (by omega) (by omega) | exact ev_fin1 (by omega) (by omega) (by omega) (by omega) (by omega) (by omega) | exact ev_fin2 (by omega) (by omega) (by omega) (by omega) (by omega) (by omega) (by omega) (by omega)
end Go.Proofs.Ytbkhijigkmhhkaa

namespace Go.Proofs.Ytbkhijigkmhhkaa
open Go Go.Sim
set_option linter.unusedSimpArgs false
set_option linter.unusedVariables false
set_option maxHeartbeats 10000000
set_option maxRecDepth 40000
def RI (K lim : Int) (x y : Item) : Prop := y.id = x.id ∧ x.gen ≤ y.gen ∧ (x.gen ≤ K → y.gen ≤ K) ∧ (x.state = 4 → y.state = 4) ∧ (0 ≤ x.count ∧ x.count ≤ lim → 0 ≤ y.count ∧ y.count ≤ lim)
theorem RI.refl {K lim : Int} (x : Item) : RI K lim x x := ⟨rfl, Int.le_refl _, id, id, id⟩
theorem RI.trans {K lim : Int} {x y z : Item} (h : RI K lim x y) (h2 : RI K lim y z) : RI K lim x z := ⟨h2.1.trans h.1, Int.le_trans h.2.1 h2.2.1, fun k => h2.2.2.1 (h.2.2.1 k), fun k => h2.2.2.2.1 (h.2.2.2.1 k), fun k => h2.2.2.2.2 (h.2.2.2.2 k)⟩
def PW (K lim : Int) (l l' : List Item) : Prop := l'.length = l.length ∧ ∀ (i : Nat) (h : i < l.length) (h' : i < l'.length), RI K lim l[i] l'[i]
theorem PW.refl {K lim : Int} (l : List Item) : PW K lim l l := ⟨rfl, fun i h h' => RI.refl _⟩
theorem PW.trans {K lim : Int} {l l' l'' : List Item} (h : PW K lim l l') (h2 : PW K lim l' l'') : PW K lim l l'' := ⟨h2.1.trans h.1, fun i k k' => (h.2 i k (by rw [h.1]; exact k)).trans (h2.2 i _ k')⟩
theorem PW.set {K lim : Int} {l : List Item} {i : Nat} {y : Item} (hy : ∀ h : i < l.length, RI K lim l[i] y) : PW K lim l (l.set i y) := by
  refine ⟨List.length_set, fun j h h' => ?_⟩
  rw [List.getElem_set]
  split
  · rename_i e; subst e; exact hy h
  · exact RI.refl _
theorem PW.map {K lim : Int} {l : List Item} {f : Item → Item} (hf : ∀ x, RI K lim x (f x)) : PW K lim l (l.map f) := ⟨List.length_map _, fun i h h' => by rw [List.getElem_map]; exact hf _⟩
theorem PW.ids {K lim : Int} {l l' : List Item} (h : PW K lim l l') : l'.map (·.id) = l.map (·.id) := by
  refine List.ext_getElem (by simp [h.1]) fun j h1 h2 => ?_
  simp only [List.getElem_map]
  exact (h.2 j (by simpa using h2) (by simpa using h1)).1
theorem PW.mem {K lim : Int} {l l' : List Item} (h : PW K lim l l') {y : Item} (hy : y ∈ l') : ∃ x ∈ l, RI K lim x y := by
  obtain ⟨i, hi, rfl⟩ := List.getElem_of_mem hy
  exact ⟨_, List.getElem_mem (by rw [← h.1]; exact hi), h.2 i (by rw [← h.1]; exact hi) hi⟩
theorem PW.mem2 {K lim : Int} {l l' : List Item} (h : PW K lim l l') {x : Item} (hx : x ∈ l) : ∃ y ∈ l', RI K lim x y := by
  obtain ⟨i, hi, rfl⟩ := List.getElem_of_mem hx
  exact ⟨_, List.getElem_mem (by rw [h.1]; exact hi), h.2 i hi (by rw [h.1]; exact hi)⟩
theorem eachF_pw {K lim : Int} {chg : Item → Grant → Option Item} : ∀ (gs : List Grant) (seen : List Int) (l : List Item), (∀ x y, ∀ g ∈ gs, chg x g = some y → RI K lim x y) → PW K lim l (eachF chg seen gs l).2 := by
  intro gs
  induction gs with
  | nil => intro seen l _; exact PW.refl l
  | cons g gs ih =>
    intro seen l h
    unfold eachF
    split
    · rename_i hc
      cases hy : chg (l.getD (bIx l g.id).toNat zItem) g with
      | none => exact PW.refl l
      | some y =>
        simp only
        refine PW.trans (PW.set fun hi => ?_) (ih _ _ fun x y g' hg' => h x y g' (by simp [hg']))
        rw [show l.getD (bIx l g.id).toNat zItem = l[(bIx l g.id).toNat] by simp [List.getD_eq_getElem?_getD, hi]] at hy
        exact h _ _ g (by simp) hy
    · exact PW.refl l
def asc (l : List Item) : Prop := (l.map (·.id)).Pairwise (· < ·)
theorem bF_mem {l : List Item} (h : asc l) {y : Item} (hy : y ∈ l) : bF l y.id = some y := by
  unfold asc at h
  unfold bF
  induction l with
  | nil => cases hy
  | cons a l ih =>
    rw [List.map_cons, List.pairwise_cons] at h
    rcases List.mem_cons.1 hy with e | hm
    · subst e; rw [List.find?_cons_of_pos (by simp)]
    · have := h.1 y.id (List.mem_map.2 ⟨y, hm, rfl⟩)
      rw [List.find?_cons_of_neg (by simp; omega)]
      exact ih h.2 hm
theorem posI_take {l : List Item} {id : Int} : ∀ x ∈ l.take (posI l id), x.id ≤ id := by
  intro x hx
  obtain ⟨j, hj, rfl⟩ := List.getElem_of_mem hx
  rw [List.length_take] at hj
  rw [List.getElem_take]
  unfold posI at hj
  have hlt := idxI_lt l fun x => decide (id < x.id)
  split at hj
  · rename_i hn
    have := (idxI_neg l fun x => decide (id < x.id)).1 hn l[j] (List.getElem_mem _)
    simpa using this
  · rename_i hn
    obtain ⟨i, hi⟩ : ∃ i : Nat, idxI (fun x => decide (id < x.id)) l = i := ⟨(idxI (fun x => decide (id < x.id)) l).toNat, by omega⟩
    obtain ⟨_, _, h3⟩ := idxI_some hi
    have := h3 j (by rw [hi] at hj; omega)
    simpa using this
theorem posI_drop {l : List Item} {id : Int} (h : asc l) : ∀ x ∈ l.drop (posI l id), id < x.id := by
  intro x hx
  obtain ⟨j, hj, rfl⟩ := List.getElem_of_mem hx
  rw [List.length_drop] at hj
  rw [List.getElem_drop]
  have hlt := idxI_lt l fun x => decide (id < x.id)
  have hp : posI l id = (idxI (fun x => decide (id < x.id)) l).toNat := by
    unfold posI at hj ⊢
    split
    · rename_i hn; rw [if_pos hn] at hj; omega
    · rfl
  have hn : ¬ idxI (fun x => decide (id < x.id)) l < 0 := by
    intro hn
    unfold posI at hj; rw [if_pos hn] at hj; omega
  obtain ⟨i, hi⟩ : ∃ i : Nat, idxI (fun x => decide (id < x.id)) l = i := ⟨(idxI (fun x => decide (id < x.id)) l).toNat, by omega⟩
  obtain ⟨h1, h2, _⟩ := idxI_some hi
  have hpi : posI l id = i := by rw [hp, hi]; simp
  simp only [hpi] at hj ⊢
  have h2' : id < l[i].id := by simpa using h2
  rcases Nat.eq_zero_or_pos j with rfl | hj0
  · simpa using h2'
  · have := List.pairwise_iff_getElem.1 h i (i + j) (by simp; omega) (by simp; omega) (by omega)
    simp only [List.getElem_map] at this
    omega
theorem insB_asc {l : List Item} {g : Grant} (h : asc l) (hx : ∀ x ∈ l, x.id ≠ g.id) : asc (insB l g) := by
  unfold asc insB
  simp only [List.map_append, List.map_cons, List.map_nil, List.pairwise_append, List.pairwise_cons, List.not_mem_nil, false_implies, implies_true, List.Pairwise.nil, and_true, true_and, List.mem_append, List.mem_singleton]
  have h1 : (l.map (·.id)).Pairwise (· < ·) := h
  refine ⟨⟨?_, ?_⟩, ?_, ?_⟩
  · rw [List.map_take]; exact h1.sublist (List.take_sublist _ _)
  · rintro a ha _ rfl
    obtain ⟨x, hm, rfl⟩ := List.mem_map.1 ha
    have k1 := posI_take x hm
    have k2 := hx x (List.mem_of_mem_take hm)
    omega
  · rw [List.map_drop]; exact h1.sublist (List.drop_sublist _ _)
  · intro a ha c hc
    obtain ⟨y, hm, rfl⟩ := List.mem_map.1 hc
    have k1 := posI_drop h y hm
    rcases ha with ha | rfl
    · obtain ⟨x, hm2, rfl⟩ := List.mem_map.1 ha
      have k2 := posI_take x hm2
      have k3 := hx x (List.mem_of_mem_take hm2)
      omega
    · exact k1
theorem insB_mem {l : List Item} {g : Grant} {y : Item} : y ∈ insB l g ↔ y ∈ l ∨ y = ⟨g.id, 1, 0, 0, g.route, 0⟩ := by
  unfold insB
  simp only [List.mem_append, List.mem_singleton]
  constructor
  · rintro ((h | h) | h)
    · exact .inl (List.mem_of_mem_take h)
    · exact .inr h
    · exact .inl (List.mem_of_mem_drop h)
  · rintro (h | h)
    · rw [← List.take_append_drop (posI l g.id) l] at h
      rcases List.mem_append.1 h with h | h
      · exact .inl (.inl h)
      · exact .inr h
    · exact .inl (.inr h)
structure sB (K : Int) (b : Bag) : Prop where
  l1 : 1 ≤ b.limit
  l2 : b.limit ≤ 1000
  n0 : -K ≤ b.now
  n1 : b.now ≤ K
  e0 : 0 ≤ b.epoch
  e1 : b.epoch ≤ K
  len : b.l.length ≤ K
  its : ∀ x ∈ b.l, -K ≤ x.gen ∧ x.gen ≤ K ∧ 0 ≤ x.count ∧ x.count ≤ b.limit
  asc : asc b.l
theorem sB.pB {K : Int} {b : Bag} (h : sB K b) (hK : K ≤ 1000000) : pB b := by
  obtain ⟨h1, h2, h3, h4, h5, h6, h7, h8, h9⟩ := h
  exact ⟨h2, h5, by omega, by omega, fun x hx => by obtain ⟨k1, k2, k3, k4⟩ := h8 x hx; exact ⟨by omega, by omega, by omega, by omega⟩⟩
theorem evB.pV {K : Int} {v : Event} (h : evB K v) (hK : K ≤ 1000000) : pV v := by
  obtain ⟨h1, h2, h3, h4, h5, h6⟩ := h
  exact ⟨by omega, fun g hg => by obtain ⟨k1, k2⟩ := h6 g hg; exact ⟨by omega, by omega⟩, by omega, by omega⟩
def Kept (K : Int) (b c : Bag) : Prop := c.limit = b.limit ∧ ((∃ g : Grant, bIx b.l g.id = -1 ∧ c.l = insB b.l g) ∨ PW K b.limit b.l c.l)
theorem stepK_kept {K : Int} {b c : Bag} {v : Event} (hv : ∀ g ∈ v.l, g.gen ≤ K) (h : stepK b v = some c) : Kept K b c := by
  have same : ∀ {c : Bag}, c.limit = b.limit → c.l = b.l → Kept K b c := fun h1 h2 => ⟨h1, .inr (h2 ▸ PW.refl _)⟩
  have each : ∀ (chg : Item → Grant → Option Item), (∀ x y, ∀ g ∈ v.l, chg x g = some y → RI K b.limit x y) → eachB b chg v.l = some c → Kept K b c := by
    intro chg hc he
    unfold eachB at he
    split at he
    · cases he; exact ⟨rfl, .inr (eachF_pw _ _ _ hc)⟩
    · cases he
  unfold stepK at h
  split at h
  · split at h
    · cases h
    · cases h; exact same rfl rfl
  split at h
  · unfold sendK at h
    split at h
    · cases h; exact same rfl rfl
    split at h
    · cases h
    split at h
    · rename_i g hvl
      split at h
      · cases h
      split at h
      · cases h
      · rename_i hx
        cases h
        exact ⟨rfl, .inl ⟨g, (idxI_m1 b.l _).1 (by unfold bIx at hx; omega), rfl⟩⟩
    · cases h
  split at h
  · split at h
    · refine each _ (fun x y g hg hy => ?_) h
      unfold recvC at hy
      split at hy
      · cases hy
      · rename_i hc
        cases hy
        simp only [not_or, ne_eq, Classical.not_not] at hc
        have := hv g hg
        exact ⟨rfl, by simp only; omega, fun _ => by simp only; omega, fun h4 => by omega, fun hcc => by simp only; omega⟩
    · split at h
      · cases h; exact same rfl rfl
      · cases h
  split at h
  · unfold settleK at h
    split at h
    · split at h
      · cases h; exact same rfl rfl
      · cases h
    · rename_i g hvl
      split at h
      · rename_i hg
        have st : ∀ f : Item → Item, (∀ x, x.state = 2 → RI K b.limit x (f x)) → Kept K b (setI b g f) := by
          intro f hf
          obtain ⟨i, hi, hx, hgd⟩ := bVal_ix hg
          refine ⟨rfl, .inr ?_⟩
          unfold setI
          simp only
          rw [hgd, hx, Int.toNat_natCast]
          refine PW.set fun _ => hf _ ?_
          unfold bVal at hg
          obtain ⟨_, h2⟩ := bF_ix hx
          rw [h2] at hg
          simp only [Bool.and_eq_true, decide_eq_true_eq] at hg
          exact hg.1
        split at h
        · split at h
          · cases h; exact same rfl rfl
          · cases h
        split at h
        · cases h; exact st _ fun x _ => ⟨rfl, Int.le_refl _, id, fun _ => rfl, id⟩
        split at h
        · cases h; exact st _ fun x hx => ⟨rfl, Int.le_refl _, id, fun h4 => by omega, id⟩
        split at h
        · cases h; exact st _ fun x _ => ⟨rfl, Int.le_refl _, id, id, id⟩
        · cases h
      · split at h
        · cases h; exact same rfl rfl
        · cases h
    · cases h
  split at h
  · split at h
    · split at h
      · cases h; exact ⟨rfl, .inr (PW.map fun x => ⟨rfl, Int.le_refl _, id, fun _ => rfl, id⟩)⟩
      · cases h
    · split at h
      · cases h; exact same rfl rfl
      · cases h
  split at h
  · split at h
    · cases h; exact same rfl rfl
    · cases h
  split at h
  · split at h
    · refine each _ (fun x y g hg hy => ?_) h
      unfold redrC at hy
      split at hy
      · cases hy
      · rename_i hc
        cases hy
        simp only [not_or, ne_eq, Classical.not_not] at hc
        exact ⟨rfl, Int.le_refl _, id, fun h4 => by omega, fun hcc => ⟨by simp only; omega, by simp only; omega⟩⟩
    · split at h
      · cases h; exact same rfl rfl
      · cases h
  · split at h
    · refine each _ (fun x y g hg hy => ?_) h
      unfold exprC at hy
      split at hy
      · cases hy
      · rename_i hc
        cases hy
        simp only [not_or, ne_eq, Classical.not_not] at hc
        exact ⟨rfl, Int.le_refl _, id, fun h4 => by omega, id⟩
    · cases h
theorem stepK_nums {b c : Bag} {v : Event} (h : stepK b v = some c) : (c.now = b.now ∨ c.now = v.now) ∧ (c.epoch = b.epoch ∨ c.epoch = v.epoch ∧ v.epoch = b.epoch + 1) := by
  unfold stepK sendK settleK setI eachB at h
  split at h
  · split at h
    · cases h
    · cases h; exact ⟨.inr rfl, .inl rfl⟩
  split at h
  · (repeat' split at h) <;> first | cases h; done | (cases h; exact ⟨.inl rfl, .inl rfl⟩)
  split at h
  · (repeat' split at h) <;> first | cases h; done | (cases h; exact ⟨.inl rfl, .inl rfl⟩)
  split at h
  · (repeat' split at h) <;> first | cases h; done | (cases h; exact ⟨.inl rfl, .inl rfl⟩)
  split at h
  · split at h
    · split at h
      · rename_i hp; cases h; exact ⟨.inl rfl, .inr ⟨rfl, hp⟩⟩
      · cases h
    · split at h
      · cases h; exact ⟨.inl rfl, .inl rfl⟩
      · cases h
  all_goals (repeat' split at h) <;> first | cases h; done | (cases h; exact ⟨.inl rfl, .inl rfl⟩)
theorem stepK_sB {K : Int} {b c : Bag} {v : Event} (hK : 0 ≤ K) (hb : sB K b) (hv : evB (K + 10) v) (h : stepK b v = some c) : sB (K + 10) c := by
  have hk := stepK_kept (fun g hg => (hv.gs g hg).2) h
  obtain ⟨h1, h2⟩ := stepK_nums h
  obtain ⟨b1, b2, b3, b4, b5, b6, b7, b8, b9⟩ := hb
  obtain ⟨v1, v2, v3, v4, v5, v6⟩ := hv
  obtain ⟨hl, hk⟩ := hk
  have its : (∀ x ∈ c.l, -(K + 10) ≤ x.gen ∧ x.gen ≤ K + 10 ∧ 0 ≤ x.count ∧ x.count ≤ b.limit) ∧ asc c.l ∧ c.l.length ≤ b.l.length + 1 := by
    rcases hk with ⟨g, hx, hc⟩ | hp
    · rw [hc]
      refine ⟨fun y hy => ?_, insB_asc b9 fun x hx' e => ?_, by simp [insB]; omega⟩
      · rcases insB_mem.1 hy with hy | rfl
        · obtain ⟨k1, k2, k3, k4⟩ := b8 y hy; exact ⟨by omega, by omega, k3, k4⟩
        · exact ⟨by simp only; omega, by simp only; omega, by simp only; omega, by simp only; omega⟩
      · have := (idxI_neg b.l fun x => decide (x.id = g.id)).1 (by unfold bIx at hx; omega) x hx'
        simp [e] at this
    · refine ⟨fun y hy => ?_, by unfold asc; rw [hp.ids]; exact b9, by rw [hp.1]; omega⟩
      obtain ⟨x, hx, r1, r2, r3, r4, r5⟩ := hp.mem hy
      obtain ⟨k1, k2, k3, k4⟩ := b8 x hx
      have := r3 (by omega)
      have := r5 ⟨k3, k4⟩
      exact ⟨by omega, by omega, by omega, by omega⟩
  obtain ⟨i1, i2, i3⟩ := its
  exact ⟨by omega, by omega, by omega, by omega, by omega, by omega, by omega, by rw [hl]; exact i1, i2⟩
end Go.Proofs.Ytbkhijigkmhhkaa

namespace Go.Proofs.Ytbkhijigkmhhkaa
open Go Go.Sim
set_option linter.unusedSimpArgs false
set_option linter.unusedVariables false
set_option maxHeartbeats 10000000
set_option maxRecDepth 40000
theorem event_ex (l : List Int) (a : Nat) (b : Bag) (K : Int) (hK : 0 ≤ K) (hK2 : K ≤ 1000000) (hb : sB K b) (hL : l.length ≤ 4000) : ∃ v a', callL G N_law31_event [.ref 1000000 0 0, .d (eBag b)] [(1000000, srcO l a)] = some (.d (eEvent v), [(1000000, srcO l a')]) ∧ evB (K + 10) v := by
  obtain ⟨b1, b2, b3, b4, b5, b6, b7, b8, b9⟩ := hb
  obtain ⟨k, a1, q1, k1, k2⟩ := range_ex l a 1 10 hL (by omega) (by omega) (by omega) (by omega)
  by_cases h0 : b.l = []
  · obtain ⟨d, a3, q3, hd⟩ := n_ex l a1 10 hL (by omega) (by omega)
    rcases (show k = 1 ∨ k = 2 ∨ k = 3 ∨ k = 7 ∨ k = 8 ∨ (k = 4 ∨ k = 5 ∨ k = 6 ∨ k = 9 ∨ k = 10) by omega) with rfl | rfl | rfl | rfl | rfl | hkd
    · exact evp_1z l b K hK hK2 b3 b4 (by omega) b6 hL (by omega) a a1 a1 a3 h0 d hd q1 q3
    · exact evp_2z l b K hK hK2 b3 b4 (by omega) b6 hL (by omega) a a1 a1 a3 h0 d hd q1 q3
    · exact evp_3z l b K hK hK2 b3 b4 (by omega) b6 hL (by omega) a a1 a1 a3 h0 d hd q1 q3
    · exact evp_7z l b K hK hK2 b3 b4 (by omega) b6 hL (by omega) a a1 a1 a3 h0 d hd q1 q3
    · exact evp_8z l b K hK hK2 b3 b4 (by omega) b6 hL (by omega) a a1 a1 a3 h0 d hd q1 q3
    · exact evp_dz l b K k hkd hK hK2 b3 b4 (by omega) b6 hL (by omega) a a1 a1 a3 h0 d hd q1 q3
  · have hpos : 0 < b.l.length := List.length_pos_iff.2 h0
    obtain ⟨i0, a2, q2, i1, i2⟩ := n_ex l a1 b.l.length hL (by omega) (by omega)
    obtain ⟨i, rfl⟩ : ∃ i : Nat, i0 = i := ⟨i0.toNat, by omega⟩
    have hi : i < b.l.length := by omega
    have hx := b8 _ (List.getElem_mem hi)
    obtain ⟨d, a3, q3, hd⟩ := n_ex l a2 10 hL (by omega) (by omega)
    rcases (show k = 1 ∨ k = 2 ∨ k = 3 ∨ k = 7 ∨ k = 8 ∨ (k = 4 ∨ k = 5 ∨ k = 6 ∨ k = 9 ∨ k = 10) by omega) with rfl | rfl | rfl | rfl | rfl | hkd
    · exact evp_1 l b K hK hK2 b3 b4 (by omega) b6 hL (by omega) a a1 a2 a3 i hi d hd ⟨hx.1, hx.2.1⟩ q1 q2 q3
    · exact evp_2 l b K hK hK2 b3 b4 (by omega) b6 hL (by omega) a a1 a2 a3 i hi d hd ⟨hx.1, hx.2.1⟩ q1 q2 q3
    · exact evp_3 l b K hK hK2 b3 b4 (by omega) b6 hL (by omega) a a1 a2 a3 i hi d hd ⟨hx.1, hx.2.1⟩ q1 q2 q3
    · exact evp_7 l b K hK hK2 b3 b4 (by omega) b6 hL (by omega) a a1 a2 a3 i hi d hd ⟨hx.1, hx.2.1⟩ q1 q2 q3
    · exact evp_8 l b K hK hK2 b3 b4 (by omega) b6 hL (by omega) a a1 a2 a3 i hi d hd ⟨hx.1, hx.2.1⟩ q1 q2 q3
    · exact evp_d l b K k hkd hK hK2 b3 b4 (by omega) b6 hL (by omega) a a1 a2 a3 i hi d hd ⟨hx.1, hx.2.1⟩ q1 q2 q3
theorem agrees_ok (b : Bag) (v : Event) (g : Grant) (hb : pB b) (hv : pV v) : callL G N_law31_agrees [.d (eBag b), .d (eEvent v), .d (eGrant g)] [] = some (.d (.bool true), []) := by
  have hL : b.l.length ≤ 4294967296 := by have := hb.len; omega
  have s1 := bstep_ok b v hb hv
  have s2 := r31Step_ok b v hb hv
  have hsl : (stepD b v).1.l.length ≤ 4294967296 := by
    unfold stepD
    have : ∀ c, stepK b v = some c → c.l.length ≤ 4294967296 := fun c hc => by
      have hk := (stepK_kept (K := 4294967296) (fun g hg => (hv.gs g hg).2) hc).2
      have := hb.len
      rcases hk with ⟨g, _, e⟩ | hp
      · rw [e]; simp [insB]; omega
      · rw [hp.1]; omega
    split
    · simp [zBag]
    · split
      · simp [zBag]
      · cases h : stepK b v with
        | none => simp [zBag]
        | some c => exact this c h
  have s3 := r31same_ok (stepD b v).1 hsl
  generalize (stepD b v).1 = c at *
  generalize (stepD b v).2 = er at *
  have f1 := bfind_ok b g.id hL
  have f2 := r31find_ok b g.id hL
  have c1 := bcounts_ok b hL
  have c2 := r31counts_ok b hL
  have v1 := bvalid_ok b g hL
  have v2 := r31valid_ok b g hL
  generalize cntS 1 b.l = n1 at *
  generalize cntS 2 b.l = n2 at *
  generalize bVal b g = bv at *
  obtain ⟨x, q, hx⟩ : ∃ x q, bFD b g.id = .tup [eItem x, .bool q] := by
    unfold bFD; cases bF b.l g.id with
    | none => exact ⟨_, _, rfl⟩
    | some y => exact ⟨_, _, rfl⟩
  rw [hx] at f1 f2
  clear hx hb hv hL hsl
  simp only [eBag, eEvent, eGrant, eItem] at *
  rw [callL_code g_law31_agrees (by simp)]; simp -implicitDefEqProofs (maxSteps := 4000000) (disch := omega) only [c_law31_agrees, r_law31_agrees, getDT, go_sem, *] /-A0-/
theorem awake_c : callF G 100 N_law31_awake [] [] = some (.d (.bool true), []) := by kernel_rfl
theorem awake_ok : callL G N_law31_awake [] [] = some (.d (.bool true), []) := callL_iff.2 ⟨100, awake_c⟩
structure BS where
  b : Bag
  a : Nat
  i : Nat
  c : Bool
def bsCell (b : Bag) (c : Bool) : AV := if c = true then .agg [.d (.int .i64 b.limit), .d (.int .i64 b.now), .d (.int .i64 b.epoch), .xsl []] else .d (eBag b)
def bsT (l : List Int) (s : BS) : St := ⟨[(3, .ref 11 0 0), (4, .ref 4 0 0), (6, .d (.int .i64 s.i))], [(4, .row [.d (eBag s.b)]), (11, srcO l s.a)]⟩
def bsInv (s : BS) : Prop := s.i ≤ 40 ∧ sB (10 + 10 * (s.i : Int)) s.b
theorem bs_loop (l : List Int) (hL : l.length ≤ 4000) : ∀ s : BS, bsInv s → loopL G [] l_law31_BagScript_0 (bsT l s) = some (.exit 0, ⟨[], []⟩) := by
  refine loop_ind (fun s : BS => 40 - s.i) bsInv (bsT l) _ fun ⟨b, a, i, c⟩ ⟨hi, hb⟩ L ih => ?_
  simp only at hi hb
  have hmo := more_ok l a hL
  by_cases h0 : i < 40 ∧ (i < 4 ∨ (a : Int) < l.length)
  · obtain ⟨v, a1, he, hv⟩ := event_ex l a b _ (by omega) (by omega) hb hL
    obtain ⟨x, a2, q1, x1, x2⟩ := range_ex l a1 1 9 hL (by omega) (by omega) (by omega) (by omega)
    obtain ⟨y, a3, q2, y1, y2⟩ := n_ex l a2 3 hL (by omega) (by omega)
    obtain ⟨z, a4, q3, z1, z2⟩ := n_ex l a3 3 hL (by omega) (by omega)
    have hpb := hb.pB (by omega)
    have hpv := hv.pV (by omega)
    have hag := agrees_ok b v ⟨x, y, z, 0⟩ hpb hpv
    have hs := bstep_ok b v hpb hpv
    have hcase : (stepD b v).2 = 0 ∧ sB (10 + 10 * (i : Int) + 10) (stepD b v).1 ∨ (stepD b v).2 ≠ 0 := by
      unfold stepD
      split
      · exact .inr (by decide)
      · split
        · exact .inr (by decide)
        · cases h : stepK b v with
          | none => exact .inr (by decide)
          | some c => exact .inl ⟨rfl, stepK_sB (by omega) hb hv h⟩
    generalize stepD b v = w at *
    obtain ⟨w, er⟩ := w
    simp only at hcase hs
    rcases hcase with ⟨h1, h2⟩ | h1
    · subst h1
      have i1 := ih ⟨w, a4, i + 1, false⟩ ⟨by simp only; omega, by simp only; rw [show (10 : Int) + 10 * ((i + 1 : Nat) : Int) = 10 + 10 * (i : Int) + 10 by omega]; exact h2⟩ (by simp only; omega)
      clear ih hb hv hpb hpv h2
      simp only [bsT, eGrant] at i1 hag ⊢
      simp only [l_law31_BagScript_0]
      simp only [Int.natCast_add, Int.natCast_one, Int.natCast_zero, Int.natCast_mul, Int.cast_ofNat_Int, List.length_append, List.length_map, List.map_nil, List.length_nil, List.map_append, List.map_cons, List.length_cons, Nat.zero_add, srcO, mapSet] at i1
      by_cases h4 : i < 4
      · simp -implicitDefEqProofs (maxSteps := 4000000) (disch := omega) only [getDT, go_sem, *] /-A1-/
      · have ha : (a : Int) < l.length := by omega
        rw [decide_eq_true ha] at hmo
        simp -implicitDefEqProofs (maxSteps := 4000000) (disch := omega) only [getDT, go_sem, *] /-A2-/
    · have i1 := ih ⟨b, a4, i + 1, false⟩ ⟨by simp only; omega, by
        simp only
        obtain ⟨k1, k2, k3, k4, k5, k6, k7, k8, k9⟩ := hb
        exact ⟨k1, k2, by omega, by omega, k5, by omega, by omega, fun x hx => by obtain ⟨m1, m2, m3, m4⟩ := k8 x hx; exact ⟨by omega, by omega, m3, m4⟩, k9⟩⟩ (by simp only; omega)
      clear ih hb hv hpb hpv
      simp only [bsT, eGrant] at i1 hag ⊢
      simp only [l_law31_BagScript_0]
      simp only [Int.natCast_add, Int.natCast_one, Int.natCast_zero, Int.natCast_mul, Int.cast_ofNat_Int, List.length_append, List.length_map, List.map_nil, List.length_nil, List.map_append, List.map_cons, List.length_cons, Nat.zero_add, srcO, mapSet] at i1
      by_cases h4 : i < 4
      · simp -implicitDefEqProofs (maxSteps := 4000000) (disch := omega) only [getDT, go_sem, *] /-A3-/
      · have ha : (a : Int) < l.length := by omega
        rw [decide_eq_true ha] at hmo
        simp -implicitDefEqProofs (maxSteps := 4000000) (disch := omega) only [getDT, go_sem, *] /-A4-/
  · clear ih
    simp only [bsT, l_law31_BagScript_0]
    by_cases h4 : i < 40
    · have ha : ¬ (a : Int) < l.length := by omega
      rw [decide_eq_false ha] at hmo
      have h5 : ¬ i < 4 := by omega
      simp -implicitDefEqProofs (maxSteps := 4000000) (disch := omega) only [getDT, go_sem, *] /-A5-/
    · simp -implicitDefEqProofs (maxSteps := 4000000) (disch := omega) only [getDT, go_sem, *] /-A6-/
theorem sB0 (n a e : Int) (h1 : 1 ≤ n) (h2 : n ≤ 3) (h3 : 0 ≤ a) (h4 : a ≤ 5) (h5 : 0 ≤ e) (h6 : e ≤ 5) : sB 10 ⟨n, a, e, []⟩ := ⟨h1, by simp only; omega, by simp only; omega, by simp only; omega, h5, by simp only; omega, by simp, by simp, by simp [asc]⟩
theorem bscript_ok (l : List Int) (h : l.length ≤ LIM) : callL G N_law31_BagScript [.d (.sl (ints l))] [] = some (.d (.bool true), []) := by
  have h1 := new_ok l h
  have ht : (l.take 4000).length ≤ 4000 := by simp; omega
  generalize l.take 4000 = t at *
  obtain ⟨n, a1, q1, n1, n2⟩ := range_ex t 0 1 3 ht (by omega) (by omega) (by omega) (by omega)
  have hn := bag_new_ok n 5 1 n1 (by omega) (by omega) (by omega) (by omega) (by omega)
  have hl := bs_loop t ht ⟨⟨n, 5, 1, []⟩, a1, 0, false⟩ ⟨by simp, by simpa using sB0 n 5 1 n1 n2 (by omega) (by omega) (by omega) (by omega)⟩
  have ha := awake_ok
  simp only [bsT, eBag, List.map_nil, Int.natCast_zero] at hl hn q1
  simp only [Int.natCast_add, Int.natCast_one, Int.natCast_zero, Int.natCast_mul, Int.cast_ofNat_Int, List.length_append, List.length_map, List.map_nil, List.length_nil, List.map_append, List.map_cons, List.length_cons, Nat.zero_add, srcO, mapSet] at hl
  simp only [srcO, Int.natCast_zero] at h1 q1
  rw [callL_code g_law31_BagScript (by simp)]; simp -implicitDefEqProofs (maxSteps := 4000000) (disch := omega) only [c_law31_BagScript, r_law31_BagScript, getDT, go_sem, *] /-A7-/
end Go.Proofs.Ytbkhijigkmhhkaa

namespace Go.Proofs.Ytbkhijigkmhhkaa
open Go Go.Sim
set_option linter.unusedSimpArgs false
set_option linter.unusedVariables false
set_option maxHeartbeats 10000000
set_option maxRecDepth 40000
def bkE (i : Nat) : Env := [(3, .ref 14 0 0), (4, .ref 4 0 0), (6, .d (.int .i64 i)), (7, .ref 7 0 0)]
theorem bk_loop0 (l : List Int) (a i : Nat) (b c : Bag) (hL : c.l.length ≤ 4294967296) (hL2 : b.l.length ≤ 4294967296)
    (h : ∀ x ∈ b.l, ∃ y, bF c.l x.id = some y ∧ x.gen ≤ y.gen ∧ (x.state = 4 → y.state = 4) ∧ y.count ≤ c.limit) :
    loopL G [] l_law31_BagKeeps_0 ⟨[(3, .ref 14 0 0), (4, .ref 4 0 0), (6, .d (.int .i64 i)), (7, .ref 7 0 0), (9, .d (.int .i64 0))], [(4, .row [.d (eBag b)]), (7, .row [.d (eBag c)]), (14, srcO l a)]⟩ = some (.exit 2, ⟨[(3, .ref 14 0 0), (4, .ref 4 0 0), (6, .d (.int .i64 i)), (7, .ref 7 0 0)], [(4, .row [.d (eBag b)]), (7, .row [.d (eBag c)]), (14, srcO l a)]⟩) := by
  have hl := loop_all (G := G) (x := l_law31_BagKeeps_0) (ks := []) b.l.length (fun _ => true) (fun k => ⟨[(3, .ref 14 0 0), (4, .ref 4 0 0), (6, .d (.int .i64 i)), (7, .ref 7 0 0), (9, .d (.int .i64 k))], [(4, .row [.d (eBag b)]), (7, .row [.d (eBag c)]), (14, srcO l a)]⟩) (.ret, ⟨[(2, .d (.bool false))], []⟩) (.exit 2, ⟨[(3, .ref 14 0 0), (4, .ref 4 0 0), (6, .d (.int .i64 i)), (7, .ref 7 0 0)], [(4, .row [.d (eBag b)]), (7, .row [.d (eBag c)]), (14, srcO l a)]⟩) (fun k hk L => by
    simp only [l_law31_BagKeeps_0]
    by_cases h0 : k < b.l.length
    · simp only [h0, if_true]
      obtain ⟨y, hy, g1, g2, g3⟩ := h _ (List.getElem_mem h0)
      have hf := bfind_ok c b.l[k].id hL
      unfold bFD at hf
      rw [hy] at hf
      clear hy h
      simp only [eBag, eItem] at hf ⊢
      by_cases h4 : b.l[k].state = 4
      · have g2' := g2 h4
        clear g2
        simp -implicitDefEqProofs (maxSteps := 4000000) (disch := omega) only [eItem, getDT, go_sem, *] /-A0-/
      · clear g2
        simp -implicitDefEqProofs (maxSteps := 4000000) (disch := omega) only [eItem, getDT, go_sem, *] /-A1-/
    · clear h
      simp -implicitDefEqProofs (maxSteps := 4000000) (disch := omega) only [getDT, go_sem, *] /-A2-/)
  rw [if_pos (by simp)] at hl
  exact hl
theorem bk_loop1 (l : List Int) (a i : Nat) (b c : Bag) (hL : c.l.length ≤ 4294967296) (h : asc c.l) :
    loopL G [] l_law31_BagKeeps_1 ⟨[(3, .ref 14 0 0), (4, .ref 4 0 0), (6, .d (.int .i64 i)), (7, .ref 7 0 0), (12, .d (.int .i64 1))], [(4, .row [.d (eBag b)]), (7, .row [.d (eBag c)]), (14, srcO l a)]⟩ = some (.exit 4, ⟨[(3, .ref 14 0 0), (4, .ref 4 0 0), (6, .d (.int .i64 i)), (7, .ref 7 0 0)], [(4, .row [.d (eBag b)]), (7, .row [.d (eBag c)]), (14, srcO l a)]⟩) := by
  have key := loop_ind (G := G) (ks := []) (x := l_law31_BagKeeps_1) (fun k : Nat => c.l.length + 1 - k) (fun k => 1 ≤ k ∧ k ≤ c.l.length + 1) (fun k => ⟨[(3, .ref 14 0 0), (4, .ref 4 0 0), (6, .d (.int .i64 i)), (7, .ref 7 0 0), (12, .d (.int .i64 k))], [(4, .row [.d (eBag b)]), (7, .row [.d (eBag c)]), (14, srcO l a)]⟩) (fun _ => some (.exit 4, ⟨[(3, .ref 14 0 0), (4, .ref 4 0 0), (6, .d (.int .i64 i)), (7, .ref 7 0 0)], [(4, .row [.d (eBag b)]), (7, .row [.d (eBag c)]), (14, srcO l a)]⟩)) ?_ 1 ⟨by omega, by omega⟩
  · exact key
  · rintro k ⟨h1, h2⟩ L ih
    simp only [l_law31_BagKeeps_1]
    by_cases h0 : k < c.l.length
    · have i1 := ih (k + 1) ⟨by omega, by omega⟩ (by omega)
      clear ih
      obtain ⟨j, rfl⟩ : ∃ j, k = j + 1 := ⟨k - 1, by omega⟩
      have hlt := List.pairwise_iff_getElem.1 h j (j + 1) (by simp; omega) (by simp; omega) (by omega)
      simp only [List.getElem_map] at hlt
      have hj : j < c.l.length := by omega
      clear h
      simp only [Int.natCast_add, Int.natCast_one, Int.natCast_zero, Int.natCast_mul, Int.cast_ofNat_Int, List.length_append, List.length_map, List.map_nil, List.length_nil, List.map_append, List.map_cons, List.length_cons, Nat.zero_add, srcO, mapSet] at i1
      simp only [eBag, Int.natCast_add, Int.natCast_one] at i1 ⊢
      simp -implicitDefEqProofs (maxSteps := 4000000) (disch := omega) only [eItem, show ((j : Int) + 1 - 1) = j by omega, getDT, go_sem, *] /-A3-/
    · clear ih h
      simp only [eBag]
      simp -implicitDefEqProofs (maxSteps := 4000000) (disch := omega) only [getDT, go_sem, *] /-A4-/
theorem kept_all {K : Int} {b c : Bag} (hk : Kept K b c) (hb : sB K b) (hc : asc c.l) : ∀ x ∈ b.l, ∃ y, bF c.l x.id = some y ∧ x.gen ≤ y.gen ∧ (x.state = 4 → y.state = 4) ∧ y.count ≤ c.limit := by
  intro x hx
  have h8 := hb.its x hx
  rcases hk with ⟨h1, ⟨g, hg, e⟩ | hp⟩
  · have hm : x ∈ c.l := by rw [e]; exact insB_mem.2 (.inl hx)
    exact ⟨x, bF_mem hc hm, Int.le_refl _, id, by rw [h1]; exact h8.2.2.2⟩
  · obtain ⟨y, hy, r1, r2, r3, r4, r5⟩ := hp.mem2 hx
    exact ⟨y, by rw [← r1]; exact bF_mem hc hy, r2, r4, by rw [h1]; exact (r5 ⟨h8.2.2.1, h8.2.2.2⟩).2⟩
def bkT (l : List Int) (s : BS) : St := ⟨[(3, .ref 14 0 0), (4, .ref 4 0 0), (6, .d (.int .i64 s.i))], [(4, .row [.d (eBag s.b)]), (14, srcO l s.a)]⟩
theorem bk_loop (l : List Int) (hL : l.length ≤ 4000) : ∀ s : BS, bsInv s → loopL G [] l_law31_BagKeeps_2 (bkT l s) = some (.exit 0, ⟨[], []⟩) := by
  refine loop_ind (fun s : BS => 40 - s.i) bsInv (bkT l) _ fun ⟨b, a, i, c⟩ ⟨hi, hb⟩ L ih => ?_
  simp only at hi hb
  have hmo := more_ok l a hL
  by_cases h0 : i < 40 ∧ (i < 4 ∨ (a : Int) < l.length)
  · obtain ⟨v, a1, he, hv⟩ := event_ex l a b _ (by omega) (by omega) hb hL
    have hpb := hb.pB (by omega)
    have hpv := hv.pV (by omega)
    have hs := bstep_ok b v hpb hpv
    have hcase : (stepD b v).2 = 0 ∧ sB (10 + 10 * (i : Int) + 10) (stepD b v).1 ∧ (∀ x ∈ b.l, ∃ y, bF (stepD b v).1.l x.id = some y ∧ x.gen ≤ y.gen ∧ (x.state = 4 → y.state = 4) ∧ y.count ≤ (stepD b v).1.limit) ∨ (stepD b v).2 ≠ 0 := by
      unfold stepD
      split
      · exact .inr (by decide)
      · split
        · exact .inr (by decide)
        · cases h : stepK b v with
          | none => exact .inr (by decide)
          | some c =>
            have hc := stepK_sB (by omega) hb hv h
            refine .inl ⟨rfl, hc, kept_all (K := 10 + 10 * (i : Int) + 10) (stepK_kept (fun g hg => (hv.gs g hg).2) h) ?_ hc.asc⟩
            obtain ⟨k1, k2, k3, k4, k5, k6, k7, k8, k9⟩ := hb
            exact ⟨k1, k2, by omega, by omega, k5, by omega, by omega, fun x hx => by obtain ⟨m1, m2, m3, m4⟩ := k8 x hx; exact ⟨by omega, by omega, m3, m4⟩, k9⟩
    generalize stepD b v = w at *
    obtain ⟨w, er⟩ := w
    simp only at hcase hs
    rcases hcase with ⟨h1, h2, h3⟩ | h1
    · subst h1
      have i1 := ih ⟨w, a1, i + 1, false⟩ ⟨by simp only; omega, by simp only; rw [show (10 : Int) + 10 * ((i + 1 : Nat) : Int) = 10 + 10 * (i : Int) + 10 by omega]; exact h2⟩ (by simp only; omega)
      have hl2 : w.l.length ≤ 4294967296 := by have := h2.len; omega
      have l0 := bk_loop0 l a1 i b w hl2 (by have := hb.len; omega) h3
      have l1 := bk_loop1 l a1 i b w hl2 h2.asc
      clear ih hb hv hpb hpv h2 h3
      simp only [bkT] at i1 ⊢
      simp only [l_law31_BagKeeps_2]
      simp only [Int.natCast_add, Int.natCast_one, Int.natCast_zero, Int.natCast_mul, Int.cast_ofNat_Int, List.length_append, List.length_map, List.map_nil, List.length_nil, List.map_append, List.map_cons, List.length_cons, Nat.zero_add, srcO, mapSet] at i1
      simp only [Int.natCast_add, Int.natCast_one, Int.natCast_zero, Int.natCast_mul, Int.cast_ofNat_Int, List.length_append, List.length_map, List.map_nil, List.length_nil, List.map_append, List.map_cons, List.length_cons, Nat.zero_add, srcO, mapSet] at l0
      simp only [Int.natCast_add, Int.natCast_one, Int.natCast_zero, Int.natCast_mul, Int.cast_ofNat_Int, List.length_append, List.length_map, List.map_nil, List.length_nil, List.map_append, List.map_cons, List.length_cons, Nat.zero_add, srcO, mapSet] at l1
      by_cases h4 : i < 4
      · simp -implicitDefEqProofs (maxSteps := 4000000) (disch := omega) only [getDT, go_sem, *] /-A5-/
      · have ha : (a : Int) < l.length := by omega
        rw [decide_eq_true ha] at hmo
        simp -implicitDefEqProofs (maxSteps := 4000000) (disch := omega) only [getDT, go_sem, *] /-A6-/
    · have i1 := ih ⟨b, a1, i + 1, false⟩ ⟨by simp only; omega, by
        simp only
        obtain ⟨k1, k2, k3, k4, k5, k6, k7, k8, k9⟩ := hb
        exact ⟨k1, k2, by omega, by omega, k5, by omega, by omega, fun x hx => by obtain ⟨m1, m2, m3, m4⟩ := k8 x hx; exact ⟨by omega, by omega, m3, m4⟩, k9⟩⟩ (by simp only; omega)
      clear ih hb hv hpb hpv
      simp only [bkT] at i1 ⊢
      simp only [l_law31_BagKeeps_2]
      simp only [Int.natCast_add, Int.natCast_one, Int.natCast_zero, Int.natCast_mul, Int.cast_ofNat_Int, List.length_append, List.length_map, List.map_nil, List.length_nil, List.map_append, List.map_cons, List.length_cons, Nat.zero_add, srcO, mapSet] at i1
      by_cases h4 : i < 4
      · simp -implicitDefEqProofs (maxSteps := 4000000) (disch := omega) only [getDT, go_sem, *] /-A7-/
      · have ha : (a : Int) < l.length := by omega
        rw [decide_eq_true ha] at hmo
        simp -implicitDefEqProofs (maxSteps := 4000000) (disch := omega) only [getDT, go_sem, *] /-A8-/
  · clear ih
    simp only [bkT, l_law31_BagKeeps_2]
    by_cases h4 : i < 40
    · have ha : ¬ (a : Int) < l.length := by omega
      rw [decide_eq_false ha] at hmo
      have h5 : ¬ i < 4 := by omega
      simp -implicitDefEqProofs (maxSteps := 4000000) (disch := omega) only [getDT, go_sem, *] /-A9-/
    · simp -implicitDefEqProofs (maxSteps := 4000000) (disch := omega) only [getDT, go_sem, *] /-A10-/
theorem bkeeps_ok (l : List Int) (h : l.length ≤ LIM) : callL G N_law31_BagKeeps [.d (.sl (ints l))] [] = some (.d (.bool true), []) := by
  have h1 := new_ok l h
  have ht : (l.take 4000).length ≤ 4000 := by simp; omega
  generalize l.take 4000 = t at *
  obtain ⟨n, a1, q1, n1, n2⟩ := range_ex t 0 1 3 ht (by omega) (by omega) (by omega) (by omega)
  have hn := bag_new_ok n 5 1 n1 (by omega) (by omega) (by omega) (by omega) (by omega)
  have hl := bk_loop t ht ⟨⟨n, 5, 1, []⟩, a1, 0, false⟩ ⟨by simp, by simpa using sB0 n 5 1 n1 n2 (by omega) (by omega) (by omega) (by omega)⟩
  have ha := awake_ok
  simp only [bkT, eBag, List.map_nil, Int.natCast_zero] at hl hn q1
  simp only [Int.natCast_add, Int.natCast_one, Int.natCast_zero, Int.natCast_mul, Int.cast_ofNat_Int, List.length_append, List.length_map, List.map_nil, List.length_nil, List.map_append, List.map_cons, List.length_cons, Nat.zero_add, srcO, mapSet] at hl
  simp only [srcO, Int.natCast_zero] at h1 q1
  rw [callL_code g_law31_BagKeeps (by simp)]; simp -implicitDefEqProofs (maxSteps := 4000000) (disch := omega) only [c_law31_BagKeeps, r_law31_BagKeeps, getDT, go_sem, *] /-A11-/
end Go.Proofs.Ytbkhijigkmhhkaa

namespace Go.Proofs.Ytbkhijigkmhhkaa
open Go Go.Sim
set_option linter.unusedSimpArgs false
set_option linter.unusedVariables false
set_option maxHeartbeats 10000000
set_option maxRecDepth 40000
theorem bF_set {l : List Item} {i : Nat} {y : Item} {id : Int} (h : ∀ hi : i < l.length, l[i].id ≠ id) (hy : y.id ≠ id) : bF (l.set i y) id = bF l id := by
  unfold bF
  induction l generalizing i with
  | nil => rfl
  | cons a l ih =>
    cases i with
    | zero =>
      have := h (by simp)
      simp only [List.getElem_cons_zero] at this
      rw [List.set_cons_zero, List.find?_cons_of_neg (by simpa using hy), List.find?_cons_of_neg (by simpa using this)]
    | succ i =>
      rw [List.set_cons_succ, List.find?_cons, List.find?_cons, ih fun hi => by have := h (by simpa using hi); simpa using this]
theorem bF_ins {l : List Item} {g : Grant} {id : Int} (h : g.id ≠ id) : bF (insB l g) id = bF l id := by
  unfold bF insB
  rw [List.append_assoc, List.find?_append, List.singleton_append, List.find?_cons_of_neg (by simpa using h), ← List.find?_append, List.take_append_drop]
theorem eachF_other {chg : Item → Grant → Option Item} (hk : KeepId chg) {id : Int} : ∀ (gs : List Grant) (seen : List Int) (l : List Item), (∀ g ∈ gs, g.id ≠ id) → bF (eachF chg seen gs l).2 id = bF l id := by
  intro gs
  induction gs with
  | nil => intro seen l _; rfl
  | cons g gs ih =>
    intro seen l h
    unfold eachF
    split
    · rename_i hc
      cases hy : chg (l.getD (bIx l g.id).toNat zItem) g with
      | none => rfl
      | some y =>
        simp only
        rw [ih _ _ fun g' hg' => h g' (by simp [hg'])]
        obtain ⟨i, hi⟩ : ∃ i : Nat, bIx l g.id = i := ⟨(bIx l g.id).toNat, by omega⟩
        obtain ⟨h3, -⟩ := bF_ix hi
        have hid := ix_id h3 hi
        rw [hi, Int.toNat_natCast] at hy ⊢
        rw [show l.getD i zItem = l[i] by simp [List.getD_eq_getElem?_getD, h3]] at hy
        have := h g (by simp)
        exact bF_set (fun _ => by rw [hid]; exact this) (by rw [hk _ _ _ hy, hid]; exact this)
    · rfl
theorem eachF_hit {chg : Item → Grant → Option Item} (hk : KeepId chg) {id : Int} {x : Item} (hx : ∀ g, chg x g = none) : ∀ (gs : List Grant) (seen : List Int) (l : List Item), bF l id = some x → (∃ g ∈ gs, g.id = id) → (eachF chg seen gs l).1 ≠ 2 := by
  intro gs
  induction gs with
  | nil => rintro seen l _ ⟨g, hg, _⟩; cases hg
  | cons g gs ih =>
    rintro seen l hl ⟨g', hg', he⟩
    unfold eachF
    split
    · rename_i hc
      obtain ⟨i, hi⟩ : ∃ i : Nat, bIx l g.id = i := ⟨(bIx l g.id).toNat, by omega⟩
      obtain ⟨h3, hb⟩ := bF_ix hi
      have hid := ix_id h3 hi
      have hgd : l.getD (bIx l g.id).toNat zItem = l[i] := by rw [hi, Int.toNat_natCast]; simp [List.getD_eq_getElem?_getD, h3]
      rw [hgd]
      by_cases e : g.id = id
      · rw [e, hl] at hb
        cases hb
        rw [hx]
        exact (by decide : (1 : Nat) ≠ 2)
      · cases hy : chg l[i] g with
        | none => exact (by decide : (1 : Nat) ≠ 2)
        | some y =>
          simp only
          rw [hi, Int.toNat_natCast]
          refine ih _ _ ?_ ?_
          · rw [bF_set (fun _ => by rw [hid]; exact e) (by rw [hk _ _ _ hy, hid]; exact e)]; exact hl
          · rcases List.mem_cons.1 hg' with rfl | hm
            · exact absurd he e
            · exact ⟨g', hm, he⟩
    · exact (by decide : (0 : Nat) ≠ 2)
def tchV (v : Event) : Prop := v.err = 0 ∧ (v.kind = 7 ∨ ∃ g ∈ v.l, g.id = 1)
def heldB (b : Bag) : Prop := ∃ ct, bF b.l 1 = some ⟨1, 2, ct, 1, 7, 10⟩
theorem excl1 {b c : Bag} {v : Event} (hb : heldB b) (h : stepK b v = some c) (ht : tchV v) : v.kind ≠ 3 ∧ v.kind ≠ 2 := by
  obtain ⟨ct, hb⟩ := hb
  obtain ⟨he, ht⟩ := ht
  refine ⟨fun k3 => ?_, fun k2 => ?_⟩
  · unfold stepK at h
    rw [if_neg (by omega), if_neg (by omega), if_pos k3, if_pos he] at h
    unfold eachB at h
    split at h
    · rename_i hc
      refine absurd hc (eachF_hit recv_id (fun g => ?_) v.l [] b.l hb (ht.resolve_left (by omega)))
      unfold recvC; rw [if_pos (.inl (by simp))]
    · cases h
  · unfold stepK at h
    rw [if_neg (by omega), if_pos k2] at h
    unfold sendK at h
    rw [if_neg (by omega), if_neg (by simpa using he)] at h
    split at h
    · rename_i g hvl
      split at h
      · cases h
      split at h
      · cases h
      · rename_i hx
        obtain ⟨g', hg', e⟩ := ht.resolve_left (by omega)
        rw [hvl, List.mem_singleton] at hg'
        subst hg'
        rw [e] at hx
        rw [bF_none (by omega)] at hb
        cases hb
    · cases h
theorem excl2 {b c : Bag} {v : Event} (h : stepK b v = some c) (ht : ¬ tchV v) : bF c.l 1 = bF b.l 1 := by
  have hng : v.err = 0 → ∀ g ∈ v.l, g.id ≠ 1 := fun he g hg e => ht ⟨he, .inr ⟨g, hg, e⟩⟩
  have each : ∀ chg, KeepId chg → v.err = 0 → eachB b chg v.l = some c → bF c.l 1 = bF b.l 1 := by
    intro chg hk he h
    unfold eachB at h
    split at h
    · cases h; exact eachF_other hk v.l [] b.l (hng he)
    · cases h
  unfold stepK at h
  split at h
  · split at h
    · cases h
    · cases h; rfl
  split at h
  · unfold sendK at h
    split at h
    · cases h; rfl
    split at h
    · cases h
    rename_i he
    split at h
    · rename_i g hvl
      split at h
      · cases h
      split at h
      · cases h
      · cases h; exact bF_ins (hng (by simpa using he) g (by rw [hvl]; simp))
    · cases h
  split at h
  · split at h
    · rename_i he; exact each _ recv_id he h
    · split at h
      · cases h; rfl
      · cases h
  split at h
  · unfold settleK at h
    split at h
    · split at h
      · cases h; rfl
      · cases h
    · rename_i g hvl
      split at h
      · rename_i hg
        have st : ∀ f : Item → Item, (∀ x, (f x).id = x.id) → v.err = 0 → bF (setI b g f).l 1 = bF b.l 1 := by
          intro f hf he
          obtain ⟨i, hi, hx, hgd⟩ := bVal_ix hg
          have hid := ix_id hi hx
          have := hng he g (by rw [hvl]; simp)
          unfold setI
          simp only
          rw [hgd, hx, Int.toNat_natCast]
          exact bF_set (fun _ => by rw [hid]; exact this) (by rw [hf, hid]; exact this)
        split at h
        · split at h
          · cases h; rfl
          · cases h
        rename_i he
        have he : v.err = 0 := by simpa using he
        split at h
        · cases h; exact st _ (fun _ => rfl) he
        split at h
        · cases h; exact st _ (fun _ => rfl) he
        split at h
        · cases h; exact st _ (fun _ => rfl) he
        · cases h
      · split at h
        · cases h; rfl
        · cases h
    · cases h
  split at h
  · rename_i k7
    split at h
    · rename_i he; exact absurd ⟨he, .inl k7⟩ ht
    · split at h
      · cases h; rfl
      · cases h
  split at h
  · split at h
    · cases h; rfl
    · cases h
  split at h
  · split at h
    · rename_i he; exact each _ redr_id he h
    · split at h
      · cases h; rfl
      · cases h
  · split at h
    · rename_i he; exact each _ expr_id he h
    · cases h
def xT (l : List Int) (a i : Nat) (b c : Bag) (v : Event) (t : Nat × Bool) : St := ⟨[(3, .ref 16 0 0), (4, .ref 4 0 0), (8, .d (.int .i64 i)), (9, .ref 9 0 0), (10, .ref 10 0 0), (12, .d (.bool t.2)), (13, .d (.int .i64 t.1))], [(4, .row [.d (eBag b)]), (9, .row [.d (eEvent v)]), (10, .row [.d (eBag c)]), (16, srcO l a)]⟩
def tchB (v : Event) (k : Nat) (t : Bool) : Bool := t || ((v.l.drop k).any fun g => decide (g.id = 1)) && decide (v.err = 0)
theorem x_loop0 (l : List Int) (a i : Nat) (b c : Bag) (v : Event) (hL : v.l.length ≤ 4294967296) : ∀ t : Nat × Bool, t.1 ≤ v.l.length → loopL G [] l_law31_BagExclusive_0 (xT l a i b c v t) = some (.exit 2, ⟨[(3, .ref 16 0 0), (4, .ref 4 0 0), (8, .d (.int .i64 i)), (9, .ref 9 0 0), (10, .ref 10 0 0), (12, .d (.bool (tchB v t.1 t.2)))], [(4, .row [.d (eBag b)]), (9, .row [.d (eEvent v)]), (10, .row [.d (eBag c)]), (16, srcO l a)]⟩) := by
  refine loop_ind (fun t => v.l.length - t.1) (fun t => t.1 ≤ v.l.length) (xT l a i b c v) _ ?_
  rintro ⟨k, t⟩ hk L ih
  simp only at hk ⊢
  by_cases h0 : k < v.l.length
  · have i1 := fun t' => ih (k + 1, t') (by simp only; omega) (by simp only; omega)
    clear ih
    have e : tchB v k t = tchB v (k + 1) (t || (decide (v.l[k].id = 1) && decide (v.err = 0))) := by
      unfold tchB
      rw [List.drop_eq_getElem_cons h0, List.any_cons]
      cases t <;> cases decide (v.l[k].id = 1) <;> cases decide (v.err = 0) <;> simp
    rw [e]
    by_cases h1 : v.l[k].id = 1
    · by_cases h2 : v.err = 0
      · have i2 := i1 true
        clear i1
        simp only [h1, h2, decide_true, Bool.and_self, Bool.or_true]
        generalize tchB v (k + 1) true = q at *
        simp only [xT] at i2 ⊢
        simp only [l_law31_BagExclusive_0]
        simp only [Int.natCast_add, Int.natCast_one, Int.natCast_zero, Int.natCast_mul, Int.cast_ofNat_Int, List.length_append, List.length_map, List.map_nil, List.length_nil, List.map_append, List.map_cons, List.length_cons, Nat.zero_add, srcO, mapSet] at i2
        simp only [eEvent, h2] at i2 ⊢
        simp -implicitDefEqProofs (maxSteps := 4000000) (disch := omega) only [eGrant, getDT, go_sem, *] /-A0-/
      · have i2 := i1 t
        clear i1
        simp only [h2, decide_false, Bool.and_false, Bool.or_false]
        generalize tchB v (k + 1) t = q at *
        simp only [xT] at i2 ⊢
        simp only [l_law31_BagExclusive_0]
        simp only [Int.natCast_add, Int.natCast_one, Int.natCast_zero, Int.natCast_mul, Int.cast_ofNat_Int, List.length_append, List.length_map, List.map_nil, List.length_nil, List.map_append, List.map_cons, List.length_cons, Nat.zero_add, srcO, mapSet] at i2
        simp only [eEvent] at i2 ⊢
        simp -implicitDefEqProofs (maxSteps := 4000000) (disch := omega) only [eGrant, getDT, go_sem, *] /-A1-/
    · have i2 := i1 t
      clear i1
      simp only [h1, decide_false, Bool.false_and, Bool.or_false]
      generalize tchB v (k + 1) t = q at *
      simp only [xT] at i2 ⊢
      simp only [l_law31_BagExclusive_0]
      simp only [Int.natCast_add, Int.natCast_one, Int.natCast_zero, Int.natCast_mul, Int.cast_ofNat_Int, List.length_append, List.length_map, List.map_nil, List.length_nil, List.map_append, List.map_cons, List.length_cons, Nat.zero_add, srcO, mapSet] at i2
      simp only [eEvent] at i2 ⊢
      simp -implicitDefEqProofs (maxSteps := 4000000) (disch := omega) only [eGrant, getDT, go_sem, *] /-A2-/
  · clear ih
    rw [show tchB v k t = t by unfold tchB; rw [List.drop_eq_nil_of_le (by omega)]; simp]
    simp only [xT, l_law31_BagExclusive_0]
    simp -implicitDefEqProofs (maxSteps := 4000000) (disch := omega) only [getDT, go_sem, *] /-A3-/
theorem x_loop1 (l : List Int) (a i : Nat) (b : Bag) (hL : b.l.length ≤ 4294967296) (hb : heldB b) : loopL G [] l_law31_BagExclusive_1 ⟨[(3, .ref 16 0 0), (4, .ref 4 0 0), (8, .d (.int .i64 i)), (14, .d (.int .i64 0))], [(4, .row [.d (eBag b)]), (16, srcO l a)]⟩ = some (.exit 4, ⟨[(3, .ref 16 0 0), (4, .ref 4 0 0), (8, .d (.int .i64 i))], [(4, .row [.d (eBag b)]), (16, srcO l a)]⟩) := by
  have hl := loop_all (G := G) (x := l_law31_BagExclusive_1) (ks := []) 3 (fun _ => true) (fun k => ⟨[(3, .ref 16 0 0), (4, .ref 4 0 0), (8, .d (.int .i64 i)), (14, .d (.int .i64 k))], [(4, .row [.d (eBag b)]), (16, srcO l a)]⟩) (.ret, ⟨[(2, .d (.bool false))], []⟩) (.exit 4, ⟨[(3, .ref 16 0 0), (4, .ref 4 0 0), (8, .d (.int .i64 i))], [(4, .row [.d (eBag b)]), (16, srcO l a)]⟩) (fun k hk L => by
    have hv := bvalid_ok b ⟨1, k, 7, 0⟩ hL
    obtain ⟨ct, hb⟩ := hb
    have hq : bVal b ⟨1, k, 7, 0⟩ = (decide ((k : Int) = 1) && decide (b.now < 10)) := by
      unfold bVal
      simp only [hb, decide_true, Bool.true_and]
      rw [show decide ((1 : Int) = k) = decide ((k : Int) = 1) from by rw [decide_eq_decide]; omega]
    rw [hq] at hv
    clear hq hb
    simp only [eBag, eGrant] at hv ⊢
    simp only [l_law31_BagExclusive_1]
    by_cases h0 : k < 3
    · simp only [h0, if_true]
      by_cases h1 : (k : Int) = 1
      · obtain rfl : k = 1 := by omega
        simp only [Int.natCast_one, decide_true, Bool.true_and] at hv ⊢
        by_cases h2 : b.now < 10
        · rw [decide_eq_true h2] at hv
          simp -implicitDefEqProofs (maxSteps := 4000000) (disch := omega) only [getDT, go_sem, *] /-A4-/
        · rw [decide_eq_false h2] at hv
          simp -implicitDefEqProofs (maxSteps := 4000000) (disch := omega) only [getDT, go_sem, *] /-A5-/
      · rw [decide_eq_false h1, Bool.false_and] at hv
        simp -implicitDefEqProofs (maxSteps := 4000000) (disch := omega) only [getDT, go_sem, *] /-A6-/
    · simp -implicitDefEqProofs (maxSteps := 4000000) (disch := omega) only [getDT, go_sem, *] /-A7-/)
  rw [if_pos (by simp)] at hl
  exact hl
def bxT (l : List Int) (s : BS) : St := ⟨[(3, .ref 16 0 0), (4, .ref 4 0 0), (8, .d (.int .i64 s.i))], [(4, .row [.d (eBag s.b)]), (16, srcO l s.a)]⟩
def bxR (r : Option (AExit × St)) : Prop := r = some (.exit 0, ⟨[], []⟩) ∨ r = some (.ret, ⟨[(2, .d (.bool true))], []⟩)
def bxInv (s : BS) : Prop := s.i ≤ 20 ∧ sB (10 + 10 * (s.i : Int)) s.b ∧ heldB s.b
theorem bx_loop (l : List Int) (hL : l.length ≤ 4000) : ∀ s : BS, bxInv s → bxR (loopL G [] l_law31_BagExclusive_2 (bxT l s)) := by
  refine loop_indP (fun s : BS => 20 - s.i) bxInv (bxT l) (fun _ r => bxR r) fun ⟨b, a, i, c⟩ ⟨hi, hb, hh⟩ L ih => ?_
  simp only at hi hb hh
  have hmo := more_ok l a hL
  have haw := awake_ok
  by_cases h0 : i < 20 ∧ (i < 3 ∨ (a : Int) < l.length)
  · obtain ⟨v, a1, he, hv⟩ := event_ex l a b _ (by omega) (by omega) hb hL
    have hpb := hb.pB (by omega)
    have hpv := hv.pV (by omega)
    have hs := bstep_ok b v hpb hpv
    have hvl := hpv.len
    have hcase : (∃ c, (stepD b v) = (c, 0) ∧ sB (10 + 10 * (i : Int) + 10) c ∧ (tchV v ∧ v.kind ≠ 3 ∧ v.kind ≠ 2 ∨ ¬ tchV v ∧ heldB c)) ∨ ∃ c er, stepD b v = (c, er) ∧ er ≠ 0 := by
      unfold stepD
      split
      · exact .inr ⟨_, _, rfl, by decide⟩
      · split
        · exact .inr ⟨_, _, rfl, by decide⟩
        · cases h : stepK b v with
          | none => exact .inr ⟨_, _, rfl, by decide⟩
          | some c =>
            refine .inl ⟨c, rfl, stepK_sB (by omega) hb hv h, ?_⟩
            by_cases ht : tchV v
            · exact .inl ⟨ht, excl1 hh h ht⟩
            · refine .inr ⟨ht, ?_⟩
              unfold heldB
              rw [excl2 h ht]; exact hh
    have hcond : i < 3 ∨ (decide ((a : Int) < l.length) = true ∧ ¬ i < 3) := by
      by_cases h4 : i < 3
      · exact .inl h4
      · exact .inr ⟨decide_eq_true (by omega), h4⟩
    rcases hcase with ⟨c, h1, h2, h3⟩ | ⟨c, er, h1, h2⟩
    · rw [h1] at hs
      simp only at hs
      have l0 := fun t => x_loop0 l a1 i b c v hvl (0, t) (Nat.zero_le _)
      have ht0 : ∀ t, tchB v 0 t = (t || ((v.l.any fun g => decide (g.id = 1)) && decide (v.err = 0))) := fun t => by unfold tchB; rw [List.drop_zero]
      rcases h3 with ⟨h3, k3, k2⟩ | ⟨h3, h4⟩
      · have ht : tchB v 0 (decide (v.kind = 7) && decide (v.err = 0)) = true := by
          rw [ht0]
          obtain ⟨e1, e2⟩ := h3
          rw [e1]
          rcases e2 with e2 | ⟨g, hg, e2⟩
          · rw [e2]; simp
          · have : (v.l.any fun g => decide (g.id = 1)) = true := List.any_eq_true.2 ⟨g, hg, by simpa using e2⟩
            rw [this]; simp
        have l1 := l0 (decide (v.kind = 7) && decide (v.err = 0))
        simp only at l1
        rw [ht] at l1
        clear ih hb hv hpb hpv h2 hh h3 l0 ht0 ht h1
        refine .inr ?_
        simp only [bxT, xT] at l1 ⊢
        simp only [l_law31_BagExclusive_2]
        simp only [Int.natCast_add, Int.natCast_one, Int.natCast_zero, Int.natCast_mul, Int.cast_ofNat_Int, List.length_append, List.length_map, List.map_nil, List.length_nil, List.map_append, List.map_cons, List.length_cons, Nat.zero_add, srcO, mapSet] at l1
        by_cases e7 : v.kind = 7
        · by_cases e0 : v.err = 0
          · simp only [e7, e0, decide_true, Bool.and_self, eEvent] at l1 hs he ⊢
            rcases hcond with h5 | ⟨ha, h5⟩
            · simp -implicitDefEqProofs (maxSteps := 4000000) (disch := omega) only [getDT, go_sem, *] /-A8-/
            · rw [ha] at hmo
              simp -implicitDefEqProofs (maxSteps := 4000000) (disch := omega) only [getDT, go_sem, *] /-A9-/
          · simp only [e7, e0, decide_true, decide_false, Bool.and_false, eEvent] at l1 hs he ⊢
            rcases hcond with h5 | ⟨ha, h5⟩
            · simp -implicitDefEqProofs (maxSteps := 4000000) (disch := omega) only [getDT, go_sem, *] /-A10-/
            · rw [ha] at hmo
              simp -implicitDefEqProofs (maxSteps := 4000000) (disch := omega) only [getDT, go_sem, *] /-A11-/
        · simp only [e7, decide_false, Bool.false_and, eEvent] at l1 hs he ⊢
          rcases hcond with h5 | ⟨ha, h5⟩
          · simp -implicitDefEqProofs (maxSteps := 4000000) (disch := omega) only [getDT, go_sem, *] /-A12-/
          · rw [ha] at hmo
            simp -implicitDefEqProofs (maxSteps := 4000000) (disch := omega) only [getDT, go_sem, *] /-A13-/
      · have ht : tchB v 0 (decide (v.kind = 7) && decide (v.err = 0)) = false := by
          rw [ht0]
          by_cases e1 : v.err = 0
          · have n7 : ¬ v.kind = 7 := fun k => h3 ⟨e1, .inl k⟩
            have : (v.l.any fun g => decide (g.id = 1)) = false := by
              rw [List.any_eq_false]
              intro g hg e
              exact h3 ⟨e1, .inr ⟨g, hg, by simpa using e⟩⟩
            rw [this, decide_eq_false n7]; rfl
          · rw [decide_eq_false e1]; simp
        have l1 := l0 (decide (v.kind = 7) && decide (v.err = 0))
        simp only at l1
        rw [ht] at l1
        have n7 : ¬ (v.kind = 7 ∧ v.err = 0) := fun k => h3 ⟨k.2, .inl k.1⟩
        have l2 := x_loop1 l a1 i c (by have := h2.len; omega) h4
        have i1 := ih ⟨c, a1, i + 1, false⟩ ⟨by simp only; omega, by simp only; rw [show (10 : Int) + 10 * ((i + 1 : Nat) : Int) = 10 + 10 * (i : Int) + 10 by omega]; exact h2, h4⟩ (by simp only; omega)
        clear ih hb hv hpb hpv h2 hh h3 l0 ht0 ht h1 h4
        simp only [bxT] at i1
        generalize hr : L _ = r at i1
        rw [show r = r from rfl] at hr
        have key : (exL G l_law31_BagExclusive_2 (bxT l ⟨b, a, i, false⟩)).bind (loopF [] L) = r := by
          simp only [bxT, xT] at l1 ⊢
          simp only [l_law31_BagExclusive_2]
          simp only [Int.natCast_add, Int.natCast_one, Int.natCast_zero, Int.natCast_mul, Int.cast_ofNat_Int, List.length_append, List.length_map, List.map_nil, List.length_nil, List.map_append, List.map_cons, List.length_cons, Nat.zero_add, srcO, mapSet] at l1
          simp only [Int.natCast_add, Int.natCast_one, Int.natCast_zero, Int.natCast_mul, Int.cast_ofNat_Int, List.length_append, List.length_map, List.map_nil, List.length_nil, List.map_append, List.map_cons, List.length_cons, Nat.zero_add, srcO, mapSet] at l2
          simp only [Int.natCast_add, Int.natCast_one, Int.natCast_zero, Int.natCast_mul, Int.cast_ofNat_Int, List.length_append, List.length_map, List.map_nil, List.length_nil, List.map_append, List.map_cons, List.length_cons, Nat.zero_add, srcO, mapSet] at hr
          clear i1
          by_cases e7 : v.kind = 7
          · have e0 : ¬ v.err = 0 := fun e => n7 ⟨e7, e⟩
            clear n7
            simp only [e7, e0, decide_true, decide_false, Bool.and_false, eEvent] at l1 hs he ⊢
            rcases hcond with h5 | ⟨ha, h5⟩
            · simp -implicitDefEqProofs (maxSteps := 4000000) (disch := omega) only [getDT, go_sem, *] /-A14-/
            · rw [ha] at hmo
              simp -implicitDefEqProofs (maxSteps := 4000000) (disch := omega) only [getDT, go_sem, *] /-A15-/
          · clear n7
            simp only [e7, decide_false, Bool.false_and, eEvent] at l1 hs he ⊢
            rcases hcond with h5 | ⟨ha, h5⟩
            · simp -implicitDefEqProofs (maxSteps := 4000000) (disch := omega) only [getDT, go_sem, *] /-A16-/
            · rw [ha] at hmo
              simp -implicitDefEqProofs (maxSteps := 4000000) (disch := omega) only [getDT, go_sem, *] /-A17-/
        exact key.symm ▸ i1
    · rw [h1] at hs
      simp only at hs
      have i1 := ih ⟨b, a1, i + 1, false⟩ ⟨by simp only; omega, by
        simp only
        obtain ⟨k1, k2, k3, k4, k5, k6, k7, k8, k9⟩ := hb
        exact ⟨k1, k2, by omega, by omega, k5, by omega, by omega, fun x hx => by obtain ⟨m1, m2, m3, m4⟩ := k8 x hx; exact ⟨by omega, by omega, m3, m4⟩, k9⟩, hh⟩ (by simp only; omega)
      clear ih hb hv hpb hpv hh h1
      simp only [bxT] at i1
      generalize hr : L _ = r at i1
      have key : (exL G l_law31_BagExclusive_2 (bxT l ⟨b, a, i, false⟩)).bind (loopF [] L) = r := by
        simp only [bxT]
        simp only [l_law31_BagExclusive_2]
        simp only [Int.natCast_add, Int.natCast_one, Int.natCast_zero, Int.natCast_mul, Int.cast_ofNat_Int, List.length_append, List.length_map, List.map_nil, List.length_nil, List.map_append, List.map_cons, List.length_cons, Nat.zero_add, srcO, mapSet] at hr
        clear i1
        rcases hcond with h5 | ⟨ha, h5⟩
        · simp -implicitDefEqProofs (maxSteps := 4000000) (disch := omega) only [getDT, go_sem, *] /-A18-/
        · rw [ha] at hmo
          simp -implicitDefEqProofs (maxSteps := 4000000) (disch := omega) only [getDT, go_sem, *] /-A19-/
      exact key.symm ▸ i1
  · clear ih
    refine .inl ?_
    simp only [bxT, l_law31_BagExclusive_2]
    by_cases h4 : i < 20
    · have ha : ¬ (a : Int) < l.length := by omega
      rw [decide_eq_false ha] at hmo
      have h5 : ¬ i < 3 := by omega
      simp -implicitDefEqProofs (maxSteps := 4000000) (disch := omega) only [getDT, go_sem, *] /-A20-/
    · simp -implicitDefEqProofs (maxSteps := 4000000) (disch := omega) only [getDT, go_sem, *] /-A21-/
def xv1 : Event := ⟨0, 0, 0, 2, 0, 0, 0, [⟨1, 0, 0, 0⟩], 0, 0⟩
def xv2 : Event := ⟨0, 0, 0, 3, 0, 0, 0, [⟨1, 1, 7, 10⟩], 0, 0⟩
def xb0 : Bag := ⟨2, 0, 0, []⟩
def xb1 : Bag := ⟨2, 0, 0, [⟨1, 1, 0, 0, 0, 0⟩]⟩
def xb2 : Bag := ⟨2, 0, 0, [⟨1, 2, 1, 1, 7, 10⟩]⟩
theorem xs1 : stepD xb0 xv1 = (xb1, 0) := by decide +kernel
theorem xs2 : stepD xb1 xv2 = (xb2, 0) := by decide +kernel
theorem bexcl_ok (l : List Int) (h : l.length ≤ LIM) : callL G N_law31_BagExclusive [.d (.sl (ints l))] [] = some (.d (.bool true), []) := by
  have h1 := new_ok l h
  have ht : (l.take 4000).length ≤ 4000 := by simp; omega
  generalize l.take 4000 = t at *
  have hn := bag_new_ok 2 0 0 (by omega) (by omega) (by omega) (by omega) (by omega) (by omega)
  have s1 := bstep_ok xb0 xv1 ⟨by decide, by decide, by decide, by decide, by simp [xb0]⟩ ⟨by decide, by simp [xv1, pG], by decide, by decide⟩
  have s2 := bstep_ok xb1 xv2 ⟨by decide, by decide, by decide, by decide, by simp [xb1, pI]⟩ ⟨by decide, by simp [xv2, pG], by decide, by decide⟩
  rw [xs1] at s1
  rw [xs2] at s2
  have hl := bx_loop t ht ⟨xb2, 0, 0, false⟩ ⟨by simp, ⟨by decide, by decide, by decide, by decide, by decide, by decide, by decide, by simp [xb2], by simp [asc, xb2]⟩, ⟨1, by decide +kernel⟩⟩
  have ha := awake_ok
  simp only [bxT, xb0, xb1, xb2, xv1, xv2, eBag, eEvent, eGrant, eItem, List.map_cons, List.map_nil, Int.natCast_zero] at hl hn s1 s2
  simp only [Int.natCast_add, Int.natCast_one, Int.natCast_zero, Int.natCast_mul, Int.cast_ofNat_Int, List.length_append, List.length_map, List.map_nil, List.length_nil, List.map_append, List.map_cons, List.length_cons, Nat.zero_add, srcO, mapSet] at hl
  simp only [srcO, Int.natCast_zero] at h1
  rcases hl with hl | hl
  · rw [callL_code g_law31_BagExclusive (by simp)]; simp -implicitDefEqProofs (maxSteps := 4000000) (disch := omega) only [c_law31_BagExclusive, r_law31_BagExclusive, getDT, go_sem, *] /-A22-/
  · rw [callL_code g_law31_BagExclusive (by simp)]; simp -implicitDefEqProofs (maxSteps := 4000000) (disch := omega) only [c_law31_BagExclusive, r_law31_BagExclusive, getDT, go_sem, *] /-A23-/
end Go.Proofs.Ytbkhijigkmhhkaa
