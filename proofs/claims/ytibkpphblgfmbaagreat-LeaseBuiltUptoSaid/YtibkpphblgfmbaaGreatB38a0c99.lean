/-
  Leases: both agree; the law Raw.
  The reader: tables.
  Agreement in rounds.
  The law Built.
-/
import Derived.Test.YtibkpphblgfmbaaGreatB20bb901
set_option linter.unusedSimpArgs false
set_option linter.unusedVariables false
namespace Go.Proofs.YtibkpphblgfmbaaGreat.L
open Go Go.Sim Go.Proofs.YtibkpphblgfmbaaGreat
set_option linter.unusedSimpArgs false
set_option linter.unusedVariables false
set_option maxHeartbeats 10000000
set_option maxRecDepth 40000
theorem lapsed_len (t : Table) (now ep : Int) : (lapsedD t now ep).length ≤ 12 := by
  unfold lapsedD
  split
  · rename_i h; exact Nat.le_trans (List.length_filter_le _ _) (until_len h now)
  · simp
theorem tab_len {t : Table} (h : tabV t = 0) : t.l.length ≤ 12 ∧ t.heap.length ≤ 12 := by
  obtain ⟨q1, q2, q3, q4⟩ := (tabV_iff t).1 h
  exact ⟨q1, q3.len⟩
theorem grant_len (t : Table) (m : Message) (d : Int) : (grantD t m d).1.l.length ≤ 12 ∧ (grantD t m d).1.heap.length ≤ 12 := by
  by_cases h : (grantD t m d).2 = 0
  · exact tab_len (grant_valid h).1
  · have : grantD t m d = (zTable, grantE t m d) := by
      unfold grantD at h ⊢
      split at h
      · exact absurd rfl h
      · rename_i hc; rw [if_neg hc]
    rw [this]; exact ⟨by simp [zTable], by simp [zTable]⟩
theorem rel_len (t : Table) (id : Int) : (relD t id).1.l.length ≤ 12 ∧ (relD t id).1.heap.length ≤ 12 := by
  by_cases h : (relD t id).2.2 = 0
  · exact tab_len (rel_valid h).1
  · have : relD t id = (zTable, zMessage, relE t id) := by
      unfold relD at h ⊢
      split at h
      · exact absurd rfl h
      · rename_i hc; rw [if_neg hc]
    rw [this]; exact ⟨by simp [zTable], by simp [zTable]⟩
theorem ext_len (t : Table) (id d : Int) : (extD t id d).1.l.length ≤ 12 ∧ (extD t id d).1.heap.length ≤ 12 := by
  by_cases h : (extD t id d).2 = 0
  · exact tab_len (ext_valid h).1
  · have : extD t id d = (zTable, extE t id d) := by
      unfold extD at h ⊢
      split at h
      · exact absurd rfl h
      · rename_i hc; rw [if_neg hc]
    rw [this]; exact ⟨by simp [zTable], by simp [zTable]⟩
theorem agrees_ok (t : Table) (m : Message) (id d now ep : Int) (hL : t.l.length ≤ 4294967296) (hH : t.heap.length ≤ 4294967296) :
    callL G N_law06_agrees [.d (eTable t), .d (eMessage m), .d (.int .i64 id), .d (.int .i64 d), .d (.int .i64 now), .d (.int .i64 ep)] [] = some (.d (.bool true), []) := by
  have v1 := lval_ok t hL hH
  have v2 := r06val_ok t hL hH
  rw [tab_same] at v2
  have l1 := lapsed_ok t now ep hL hH
  have l2 := r06lapsed_ok t now ep hL hH
  have l3 := sameInts_ok (lapsedD t now ep) (lapsedD t now ep) (by have := lapsed_len t now ep; omega)
  have f1 := find_ok t id hL hH
  have f2 := r06Find_ok t id hL hH
  have g1 := grant_ok t m d hL hH
  have g2 := r06grant_ok t m d hL hH
  have g3 := same_Table (grantD t m d).1 (grantD t m d).1 (by have := grant_len t m d; omega) (by have := grant_len t m d; omega)
  have r1 := rel_ok t id hL hH
  have r2 := r06rel_ok t id hL hH
  have r3 := same_Table (relD t id).1 (relD t id).1 (by have := rel_len t id; omega) (by have := rel_len t id; omega)
  have e1 := ext_ok t id d hL hH
  have e2 := r06ext_ok t id d hL hH
  have e3 := same_Table (extD t id d).1 (extD t id d).1 (by have := ext_len t id d; omega) (by have := ext_len t id d; omega)
  simp only [decide_true] at l3 g3 r3 e3
  generalize lapsedD t now ep = u at *
  generalize findT t id = ft at *
  generalize grantD t m d = gt at *
  generalize relD t id = rt at *
  generalize extD t id d = et at *
  obtain ⟨ft1, ft2⟩ := ft
  obtain ⟨gt1, gt2⟩ := gt
  obtain ⟨rt1, rt2, rt3⟩ := rt
  obtain ⟨et1, et2⟩ := et
  simp only [eTable, eMessage, eLease] at *
  cases ft2
  · rw [callL_code g_law06_agrees (by simp)]; simp -implicitDefEqProofs (maxSteps := 4000000) (disch := omega) only [c_law06_agrees, r_law06_agrees, getDT, go_sem, *] /-A0-/
  · rw [callL_code g_law06_agrees (by simp)]; simp -implicitDefEqProofs (maxSteps := 4000000) (disch := omega) only [c_law06_agrees, r_law06_agrees, getDT, go_sem, *] /-A1-/
def awM (i : Int) : Message := ⟨i, 0, 0, 0, 1, 0, []⟩
def awT : Table := ⟨[⟨awM 7, 30⟩], [(30, 7)]⟩
def awU : Table := ⟨[⟨awM 7, 30⟩, ⟨awM 9, 20⟩], [(20, 9), (30, 7)]⟩
theorem aw1 : grantD zTable (awM 7) 30 = (awT, 0) := by decide +kernel
theorem aw2 : grantD awT (awM 9) 20 = (awU, 0) := by decide +kernel
theorem aw3 : lapsedD awU 30 0 = [9, 7] := by decide +kernel
theorem awake_ok : callL G N_law06_awake [] [] = some (.d (.bool true), []) := by
  have h1 := grant_ok zTable (awM 7) 30 (by simp [zTable]) (by simp [zTable])
  have h2 := grant_ok awT (awM 9) 20 (by simp [awT]) (by simp [awT])
  have h3 := lapsed_ok awU 30 0 (by simp [awU]) (by simp [awU])
  have h4 := sameInts_ok [9, 7] [9, 7] (by simp)
  rw [aw1] at h1
  rw [aw2] at h2
  rw [aw3] at h3
  simp only [eTable, eMessage, eLease, eD, zTable, awM, awT, awU, ints, List.map_cons, List.map_nil, decide_true] at h1 h2 h3 h4
  rw [callL_code g_law06_awake (by simp)]; simp -implicitDefEqProofs (maxSteps := 4000000) (disch := omega) only [c_law06_awake, r_law06_awake, getDT, go_sem, *] /-A2-/
end Go.Proofs.YtibkpphblgfmbaaGreat.L

namespace Go.Proofs.YtibkpphblgfmbaaGreat.L
open Go Go.Sim Go.Proofs.YtibkpphblgfmbaaGreat
set_option linter.unusedSimpArgs false
set_option linter.unusedVariables false
set_option maxHeartbeats 10000000
set_option maxRecDepth 40000
def tabA (t : Table) (b : Bool) : Go.Sim.AV := if b then .agg [.xsl [], .xsl []] else .d (eTable t)
structure TB where
  t : Table
  id : Int
  at0 : Nat
  i : Nat
  b : Bool
def tbS (l : List Int) (lo hi : Int) (s : TB) : St := ⟨[(0, .ref 1000000 0 0), (2, .d (.int .i64 s.id)), (3, .d (.int .i64 lo)), (4, .d (.int .i64 hi)), (10, .ref 10 0 0), (11, .ref 11 0 0), (12, .d (.int .i64 s.i)), (1000000, .ref 1000000 1 0)], [(10, .row [.agg [.xsl [], .xsl []]]), (11, .row [tabA s.t s.b]), (1000000, srcO l s.at0)]⟩
def tbInv (s : TB) : Prop := tabV s.t = 0 ∧ 1 ≤ s.id ∧ s.id ≤ 1 + 3 * (12 - (s.i : Int)) ∧ s.i ≤ 12 ∧ (s.b = true → s.t = zTable)
def tbPhi (l : List Int) (r : Option (AExit × St)) : Prop := ∃ t a' b, tabV t = 0 ∧ (b = true → t = zTable) ∧ r = some (.exit 0, ⟨[(10, .ref 10 0 0), (11, .ref 11 0 0), (1000000, .ref 1000000 1 0)], [(10, .row [.agg [.xsl [], .xsl []]]), (11, .row [tabA t b]), (1000000, srcO l a')]⟩)
theorem grantD_valid (t : Table) (m : Message) (d : Int) : tabV (grantD t m d).1 = 0 := by
  by_cases h : (grantD t m d).2 = 0
  · exact (grant_valid h).1
  · have : grantD t m d = (zTable, grantE t m d) := by
      unfold grantD at h ⊢
      split at h
      · exact absurd rfl h
      · rename_i hc; rw [if_neg hc]
    rw [this]; show tabV zTable = 0; decide
theorem tb_loop (l : List Int) (lo hi : Int) (hL : l.length ≤ 4000) (h2 : 0 ≤ lo) (h3 : lo ≤ hi) (h4 : hi < 65536) : ∀ s : TB, tbInv s → tbPhi l (loopL G [] l_base_Src_Table_0 (tbS l lo hi s)) := by
  refine loop_indP (fun s : TB => s.i) tbInv (tbS l lo hi) (fun _ => Post (tbPhi l)) fun ⟨t, id, a, i, b⟩ ⟨h1, hi1, hi2, hi3, hb⟩ L ih => ?_
  simp only at h1 hi1 hi2 hi3 hb
  have hn := fun at1 m => n_ok l at1 m hL
  have hr := fun at1 lo hi => range_ok l at1 lo hi hL
  by_cases h0 : 0 < i
  · obtain ⟨m, a1, hm, hmc⟩ := message_ex l a id lo hi hL h2 h3 h4
    obtain ⟨m2, hm2⟩ : ∃ m2, m2 = { m with gen := if m.gen < 1 then 1 else m.gen } := ⟨_, rfl⟩
    obtain ⟨t1, t2⟩ := tab_len h1
    have hg := r06grant_ok t m2 (nD l a1 30) (by omega) (by omega)
    obtain ⟨t', ht'⟩ : ∃ t', t' = (grantD t m2 (nD l a1 30)).1 := ⟨_, rfl⟩
    have hv := grantD_valid t m2 (nD l a1 30)
    rw [← ht'] at hv hg
    have hd := nD_in l (rawD l a1).2 (n := 3) (by omega)
    have i1 := ih ⟨t', id + (1 + nD l (rawD l a1).2 3), (rawD l (rawD l a1).2).2, i - 1, false⟩ ⟨hv, by simp only; omega, by simp only; omega, by simp only; omega, fun h => by cases h⟩ (by simp only; omega)
    clear ih hm ht' hv
    have e : ((i - 1 : Nat) : Int) = (i : Int) - 1 := by omega
    simp only [tbS, tabA, Bool.false_eq_true, if_false, e] at i1
    subst hm2
    cases b with
    | true =>
      obtain rfl := hb rfl
      simp only [zTable, eTable, eMessage, List.map_nil] at hg i1 hmc
      simp only [tbS, tabA, if_true, l_base_Src_Table_0]
      by_cases hgen : m.gen < 1
      · simp only [hgen, if_true] at hg
        simp -implicitDefEqProofs (maxSteps := 4000000) (disch := omega) only [getDT, go_sem, *] /-A0-/
      · simp only [hgen, if_false] at hg
        simp -implicitDefEqProofs (maxSteps := 4000000) (disch := omega) only [getDT, go_sem, *] /-A1-/
    | false =>
      simp only [eTable, eMessage] at hg i1 hmc
      simp only [tbS, tabA, eTable, Bool.false_eq_true, if_false, l_base_Src_Table_0]
      by_cases hgen : m.gen < 1
      · simp only [hgen, if_true] at hg
        simp -implicitDefEqProofs (maxSteps := 4000000) (disch := omega) only [getDT, go_sem, *] /-A2-/
      · simp only [hgen, if_false] at hg
        simp -implicitDefEqProofs (maxSteps := 4000000) (disch := omega) only [getDT, go_sem, *] /-A3-/
  · clear ih
    simp only [tbS, l_base_Src_Table_0]
    simp -implicitDefEqProofs (maxSteps := 4000000) (disch := omega) only [getDT, go_sem, *] /-A4-/
    exact ⟨t, a, b, h1, hb, rfl⟩
theorem table_ex (l : List Int) (a : Nat) (n id lo hi : Int) (hL : l.length ≤ 4000) (h0 : 0 ≤ n) (h1 : n ≤ 12) (hid : id = 1) (h2 : 0 ≤ lo) (h3 : lo ≤ hi) (h4 : hi < 65536) : ∃ t a', tabV t = 0 ∧
    callL G N_base_Src_Table [.ref 1000000 0 0, .d (.int .i64 n), .d (.int .i64 id), .d (.int .i64 lo), .d (.int .i64 hi)] [(1000000, srcO l a)] = some (.d (eTable t), [(1000000, srcO l a')]) := by
  subst hid
  have hn := fun at1 m => n_ok l at1 m hL
  have hd := nD_in l a (n := n + 1) (by omega)
  obtain ⟨k, hk⟩ : ∃ k : Nat, nD l a (n + 1) = k := ⟨(nD l a (n + 1)).toNat, by omega⟩
  obtain ⟨t, a', b, g1, g2, hl⟩ := tb_loop l lo hi hL h2 h3 h4 ⟨zTable, 1, (rawD l a).2, k, true⟩ ⟨by show tabV zTable = 0; decide, by simp, by simp only; omega, by simp only; omega, fun _ => rfl⟩
  refine ⟨t, a', g1, ?_⟩
  simp only [tbS, tabA, if_true] at hl
  cases b with
  | true =>
    obtain rfl := g2 rfl
    simp only [if_true] at hl
    simp only [zTable, eTable, List.map_nil]
    rw [callL_code g_base_Src_Table (by simp)]; simp -implicitDefEqProofs (maxSteps := 4000000) (disch := omega) only [c_base_Src_Table, r_base_Src_Table, getDT, go_sem, *] /-A5-/
  | false =>
    simp only [Bool.false_eq_true, if_false, eTable] at hl
    simp only [eTable]
    rw [callL_code g_base_Src_Table (by simp)]; simp -implicitDefEqProofs (maxSteps := 4000000) (disch := omega) only [c_base_Src_Table, r_base_Src_Table, getDT, go_sem, *] /-A6-/
end Go.Proofs.YtibkpphblgfmbaaGreat.L

namespace Go.Proofs.YtibkpphblgfmbaaGreat.L
open Go Go.Sim Go.Proofs.YtibkpphblgfmbaaGreat
set_option linter.unusedSimpArgs false
set_option linter.unusedVariables false
set_option maxHeartbeats 10000000
set_option maxRecDepth 40000
def lbS (l : List Int) (t : Table) (a i : Nat) : St := ⟨[(3, .ref 7 0 0), (4, .ref 4 0 0), (5, .d (.int .i64 i))], [(4, .row [.d (eTable t)]), (7, srcO l a)]⟩
def lbPhi (l : List Int) (t : Table) (r : Option (AExit × St)) : Prop := ∃ a', r = some (.exit 0, ⟨[(3, .ref 7 0 0), (4, .ref 4 0 0)], [(4, .row [.d (eTable t)]), (7, srcO l a')]⟩)
theorem lb_loop (l : List Int) (t : Table) (hL : l.length ≤ 4000) (t1 : t.l.length ≤ 12) (t2 : t.heap.length ≤ 12) : ∀ s : Nat × Nat, s.2 ≤ 4 → lbPhi l t (loopL G [] l_law06_LeaseBuilt_0 (lbS l t s.1 s.2)) := by
  refine loop_indP (fun s : Nat × Nat => 4 - s.2) (fun s => s.2 ≤ 4) (fun s => lbS l t s.1 s.2) (fun _ => Post (lbPhi l t)) fun ⟨a, i⟩ hi L ih => ?_
  simp only at hi
  by_cases h0 : i < 4
  · have r1 := range_ok l a 1 20 hL (by omega) (by omega) (by omega) (by omega)
    generalize 1 + nD l a (20 - 1 + 1) = id at *
    generalize (rawD l a).2 = a1 at *
    obtain ⟨m, a2, hm⟩ := odd_ex l a1 id 0 65535 hL (by omega) (by omega) (by omega)
    have r2 := range_ok l a2 0 25 hL (by omega) (by omega) (by omega) (by omega)
    generalize 0 + nD l a2 (25 - 0 + 1) = k at *
    generalize (rawD l a2).2 = a3 at *
    have r3 := pickF_ok l a3 [-1, 0, 7, 20, 1073741824, 1073741825] hL (by simp) (by simp)
    simp only [ints, List.map_cons, List.map_nil] at r3
    generalize [-1, 0, 7, 20, 1073741824, 1073741825].getD (nD l a3 (List.length [-1, 0, 7, 20, 1073741824, 1073741825])).toNat 0 = d at *
    generalize (rawD l a3).2 = a4 at *
    have r4 := range_ok l a4 0 31 hL (by omega) (by omega) (by omega) (by omega)
    generalize 0 + nD l a4 (31 - 0 + 1) = now at *
    generalize (rawD l a4).2 = a5 at *
    have r5 := n_ok l a5 3 hL (by omega) (by omega)
    generalize nD l a5 3 = ep at *
    generalize (rawD l a5).2 = a6 at *
    have hag := agrees_ok t m k d now ep (by omega) (by omega)
    have i1 := ih (a6, i + 1) (by simp only; omega) (by simp only; omega)
    clear ih
    simp only [lbS, eTable] at i1 hag
    simp only [Int.natCast_add, Int.natCast_one, Int.natCast_zero, Int.natCast_mul, Int.cast_ofNat_Int, List.length_append, List.length_map, List.map_nil, List.length_nil, List.map_append, List.map_cons, List.length_cons, Nat.zero_add, srcO, mapSet] at i1
    simp only [lbS, eTable, l_law06_LeaseBuilt_0]
    simp -implicitDefEqProofs (maxSteps := 4000000) (disch := omega) only [getDT, go_sem, *] /-A0-/
  · clear ih
    simp only [lbS, l_law06_LeaseBuilt_0]
    simp -implicitDefEqProofs (maxSteps := 4000000) (disch := omega) only [getDT, go_sem, *] /-A1-/
    exact ⟨a, rfl⟩
end Go.Proofs.YtibkpphblgfmbaaGreat.L

namespace Go.Proofs.YtibkpphblgfmbaaGreat.L
open Go Go.Sim Go.Proofs.YtibkpphblgfmbaaGreat
set_option linter.unusedSimpArgs false
set_option linter.unusedVariables false
set_option maxHeartbeats 10000000
set_option maxRecDepth 40000
theorem built_ok (l : List Int) (hL : l.length ≤ LIM) : callL G N_law06_LeaseBuilt [.d (.sl (ints l))] [] = some (.d (.bool true), []) := by
  have hnew := new_ok l hL
  have hL4 : (l.take 4000).length ≤ 4000 := by simp; omega
  obtain ⟨t, a', h, ht⟩ := table_ex (l.take 4000) 0 12 1 0 65535 hL4 (by omega) (by omega) rfl (by omega) (by omega) (by omega)
  obtain ⟨t1, t2⟩ := tab_len h
  obtain ⟨a, hl⟩ := lb_loop (l.take 4000) t hL4 t1 t2 (a', 0) (by simp)
  obtain ⟨_, hE, _, hP⟩ := (tabV_iff t).1 h
  have hE := ((leasesE_iff _).1 hE).2
  have hlh := hP.length_eq
  rw [List.length_map] at hlh
  have haw := awake_ok
  generalize l.take 4000 = w at *
  have q0 := nD_in w a (n := 4) (by omega)
  have hn0 := n_ok w a 4 hL4 (by omega) (by omega)
  generalize nD w a 4 = c at *
  have hm := fun b => message_ex w b 40 0 9 hL4 (by omega) (by omega) (by omega)
  have hr := fun b => range_ok w b 1 9 hL4 (by omega) (by omega) (by omega) (by omega)
  by_cases e : t.l = []
  · obtain ⟨m, a2, _, hm⟩ := hm a
    replace hr := hr a2
    generalize 1 + nD w a2 (9 - 1 + 1) = id at *
    generalize (rawD w a2).2 = a3 at *
    have hag := agrees_ok t m id 5 20 1 (by first | omega | (simp; omega)) (by first | omega | (simp; omega))
    clear hE hP hn0
    simp only [lbS, eTable, eMessage, srcO, e, List.map_nil, Int.natCast_zero] at hl ht hag hm hr hnew
    rw [callL_code g_law06_LeaseBuilt (by simp)]; simp -implicitDefEqProofs (maxSteps := 4000000) (disch := omega) only [c_law06_LeaseBuilt, r_law06_LeaseBuilt, getDT, go_sem, *] /-A0-/
  · have hpos : 0 < t.l.length := List.length_pos_iff.2 e
    generalize (rawD w a).2 = a1 at *
    have hn1 := n_ok w a1 t.l.length hL4 (by omega) (by omega)
    have q1 := nD_in w a1 (n := t.l.length) (by omega)
    obtain ⟨k, hk⟩ : ∃ k : Nat, nD w a1 t.l.length = k := ⟨(nD w a1 t.l.length).toNat, by omega⟩
    rw [hk] at hn1 q1
    clear hk
    generalize (rawD w a1).2 = b at *
    have hkl : k < t.l.length := by omega
    have hkh : k < t.heap.length := by omega
    have hdl := hE _ (List.getElem_mem hkl)
    have hdh : 0 ≤ t.heap[k].1 ∧ t.heap[k].1 ≤ 1073741824 := by
      obtain ⟨y, hy, e2⟩ := List.mem_map.1 (hP.mem_iff.1 (List.getElem_mem hkh))
      have := hE y hy
      rw [← e2]
      simp only [dueOf]; omega
    obtain ⟨_, _, hd0, hd1⟩ := hdl
    rcases (show c = 0 ∨ c = 1 ∨ c = 2 ∨ c = 3 by omega) with rfl | rfl | rfl | rfl
    · obtain ⟨m, a2, _, hm⟩ := hm b
      replace hr := hr a2
      generalize 1 + nD w a2 (9 - 1 + 1) = id at *
      generalize (rawD w a2).2 = a3 at *
      have hag := agrees_ok ⟨t.l.set k ⟨t.l[k].msg, t.l[k].deadline + 1⟩, t.heap⟩ m id 5 20 1 (by first | omega | (simp; omega)) (by first | omega | (simp; omega))
      clear hE hP hdh
      simp only [lbS, eTable, eMessage, srcO, Int.natCast_zero, List.map_set, eLease, eD] at hl ht hag hm hr hnew hn0 hn1
      rw [callL_code g_law06_LeaseBuilt (by simp)]; simp -implicitDefEqProofs (maxSteps := 4000000) (disch := omega) only [c_law06_LeaseBuilt, r_law06_LeaseBuilt, getDT, go_sem, *]; (try simp only [pA, pB, pC, pD, pE, pF, pG, pH, pI, pJ, pK, pL, pM, pN, pO, pP, if_true, if_false]); repeat' (first | done | rfl | ((first | refine iteC (fun hq => ?_) (fun hq => ?_) | refine iteP (fun hq => ?_) (fun hq => ?_)) <;> (try (first | (exfalso; omega) | contradiction)) <;> (try simp -implicitDefEqProofs (maxSteps := 4000000) (disch := omega) only [getDT, go_sem, *]) <;> (try simp only [pA, pB, pC, pD, pE, pF, pG, pH, pI, pJ, pK, pL, pM, pN, pO, pP, if_true, if_false]))); (all_goals try rfl); (all_goals try (repeat' (first | done | rfl | (exfalso; omega) | contradiction | (refine iteR (fun hq => ?_) (fun hq => ?_))))) /-A1-/
    · have hr1 := range_ok w b 1 5 hL4 (by omega) (by omega) (by omega) (by omega)
      generalize 1 + nD w b (5 - 1 + 1) = id1 at *
      generalize (rawD w b).2 = b1 at *
      obtain ⟨m1, b2, ho⟩ := odd_ex w b1 id1 0 65535 hL4 (by omega) (by omega) (by omega)
      obtain ⟨m, a2, _, hm⟩ := hm b2
      replace hr := hr a2
      generalize 1 + nD w a2 (9 - 1 + 1) = id at *
      generalize (rawD w a2).2 = a3 at *
      have hag := agrees_ok ⟨t.l.set k ⟨m1, t.l[k].deadline⟩, t.heap⟩ m id 5 20 1 (by first | omega | (simp; omega)) (by first | omega | (simp; omega))
      clear hE hP hdh
      simp only [lbS, eTable, eMessage, srcO, Int.natCast_zero, List.map_set, eLease, eD] at hl ht hag hm hr hnew hn0 hn1 hr1 ho
      rw [callL_code g_law06_LeaseBuilt (by simp)]; simp -implicitDefEqProofs (maxSteps := 4000000) (disch := omega) only [c_law06_LeaseBuilt, r_law06_LeaseBuilt, getDT, go_sem, *]; (try simp only [pA, pB, pC, pD, pE, pF, pG, pH, pI, pJ, pK, pL, pM, pN, pO, pP, if_true, if_false]); repeat' (first | done | rfl | ((first | refine iteC (fun hq => ?_) (fun hq => ?_) | refine iteP (fun hq => ?_) (fun hq => ?_)) <;> (try (first | (exfalso; omega) | contradiction)) <;> (try simp -implicitDefEqProofs (maxSteps := 4000000) (disch := omega) only [getDT, go_sem, *]) <;> (try simp only [pA, pB, pC, pD, pE, pF, pG, pH, pI, pJ, pK, pL, pM, pN, pO, pP, if_true, if_false]))); (all_goals try rfl); (all_goals try (repeat' (first | done | rfl | (exfalso; omega) | contradiction | (refine iteR (fun hq => ?_) (fun hq => ?_))))) /-A2-/
    · obtain ⟨m, a2, _, hm⟩ := hm b
      replace hr := hr a2
      generalize 1 + nD w a2 (9 - 1 + 1) = id at *
      generalize (rawD w a2).2 = a3 at *
      have hag := agrees_ok ⟨t.l, t.heap.set k (t.heap[k].1 + 1, t.heap[k].2)⟩ m id 5 20 1 (by first | omega | (simp; omega)) (by first | omega | (simp; omega))
      clear hE hP
      simp only [lbS, eTable, eMessage, srcO, Int.natCast_zero, List.map_set, eLease, eD] at hl ht hag hm hr hnew hn0 hn1
      rw [callL_code g_law06_LeaseBuilt (by simp)]; simp -implicitDefEqProofs (maxSteps := 4000000) (disch := omega) only [c_law06_LeaseBuilt, r_law06_LeaseBuilt, getDT, go_sem, *]; (try simp only [pA, pB, pC, pD, pE, pF, pG, pH, pI, pJ, pK, pL, pM, pN, pO, pP, if_true, if_false]); repeat' (first | done | rfl | ((first | refine iteC (fun hq => ?_) (fun hq => ?_) | refine iteP (fun hq => ?_) (fun hq => ?_)) <;> (try (first | (exfalso; omega) | contradiction)) <;> (try simp -implicitDefEqProofs (maxSteps := 4000000) (disch := omega) only [getDT, go_sem, *]) <;> (try simp only [pA, pB, pC, pD, pE, pF, pG, pH, pI, pJ, pK, pL, pM, pN, pO, pP, if_true, if_false]))); (all_goals try rfl); (all_goals try (repeat' (first | done | rfl | (exfalso; omega) | contradiction | (refine iteR (fun hq => ?_) (fun hq => ?_))))) /-A3-/
    · obtain ⟨m, a2, _, hm⟩ := hm a1
      replace hr := hr a2
      generalize 1 + nD w a2 (9 - 1 + 1) = id at *
      generalize (rawD w a2).2 = a3 at *
      have hag := agrees_ok ⟨t.l, t.heap.take ((t.l.length : Int) - 1).toNat⟩ m id 5 20 1 (by first | omega | (simp; omega)) (by first | omega | (simp; omega))
      clear hE hP hn1
      simp only [lbS, eTable, eMessage, srcO, Int.natCast_zero, List.map_set, eLease, eD] at hl ht hag hm hr hnew hn0
      rw [callL_code g_law06_LeaseBuilt (by simp)]; simp -implicitDefEqProofs (maxSteps := 4000000) (disch := omega) only [c_law06_LeaseBuilt, r_law06_LeaseBuilt, getDT, go_sem, *] /-A4-/
end Go.Proofs.YtibkpphblgfmbaaGreat.L
