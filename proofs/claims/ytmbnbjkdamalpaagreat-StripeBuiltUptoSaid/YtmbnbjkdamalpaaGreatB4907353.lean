/-
  The reader: tables of some messages.
  Shards: messages.
  Shards: Validate.
  The reader: shards.
  Shards: the reference's Validate.
-/
import Derived.Test.YtmbnbjkdamalpaaGreatBd947df8
import Derived.Test.YtmbnbjkdamalpaaGreatB6826dd9
set_option linter.unusedSimpArgs false
set_option linter.unusedVariables false
namespace Go.Proofs.YtmbnbjkdamalpaaGreat
open Go Go.Sim
set_option linter.unusedSimpArgs false
set_option linter.unusedVariables false
set_option maxHeartbeats 10000000
set_option maxRecDepth 40000
theorem tab_len {t : Table} (h : tabV t = 0) : t.l.length ≤ 12 ∧ t.heap.length ≤ 12 := by
  obtain ⟨q1, q2, q3, q4⟩ := (tabV_iff t).1 h
  exact ⟨q1, q3.len⟩
def tabA (t : Table) (b : Bool) : Go.Sim.AV := if b then .agg [.xsl [], .xsl []] else .d (eTable t)
structure TB where
  t : Table
  id : Int
  a : Nat
  i : Nat
  b : Bool
def tbS (l : List Int) (lo hi : Int) (s : TB) : St := ⟨[(0, .ref 1000000 0 0), (2, .d (.int .i64 s.id)), (3, .d (.int .i64 lo)), (4, .d (.int .i64 hi)), (10, .ref 10 0 0), (11, .ref 11 0 0), (12, .d (.int .i64 s.i)), (1000000, .ref 1000000 1 0)], [(10, .row [.agg [.xsl [], .xsl []]]), (11, .row [tabA s.t s.b]), (1000000, srcO l s.a)]⟩
def tOK (lo hi id0 : Int) (t : Table) (id : Int) : Prop := tabV t = 0 ∧ ∀ x ∈ t.l, lo ≤ x.msg.route ∧ x.msg.route ≤ hi ∧ id0 ≤ x.msg.id ∧ x.msg.id < id ∧ 0 ≤ x.msg.epoch
def tbInv (lo hi id0 : Int) (n : Nat) (s : TB) : Prop := tOK lo hi id0 s.t s.id ∧ id0 ≤ s.id ∧ s.id ≤ id0 + 3 * ((n : Int) - (s.i : Int)) ∧ s.t.l.length + s.i ≤ n ∧ (s.b = true → s.t = zTable)
def tbPhi (l : List Int) (lo hi id0 : Int) (n : Nat) (r : Option (AExit × St)) : Prop := ∃ t a' b id, tOK lo hi id0 t id ∧ t.l.length ≤ n ∧ (b = true → t = zTable) ∧ r = some (.exit 0, ⟨[(10, .ref 10 0 0), (11, .ref 11 0 0), (1000000, .ref 1000000 1 0)], [(10, .row [.agg [.xsl [], .xsl []]]), (11, .row [tabA t b]), (1000000, srcO l a')]⟩)
theorem tb_loop (l : List Int) (lo hi id0 : Int) (n : Nat) (hL : l.length ≤ 4000) (h2 : 0 ≤ lo) (h3 : lo ≤ hi) (h4 : hi < 65536) (hid : 1 ≤ id0) (hid2 : id0 ≤ 900) (hn : n ≤ 12) : ∀ s : TB, tbInv lo hi id0 n s → tbPhi l lo hi id0 n (loopL G [] l_base_Src_Table_0 (tbS l lo hi s)) := by
  refine loop_indP (fun s : TB => s.i) (tbInv lo hi id0 n) (tbS l lo hi) (fun _ => Post (tbPhi l lo hi id0 n)) fun ⟨t, id, a, i, b⟩ ⟨h1, hi1, hi2, hi3, hb⟩ L ih => ?_
  simp only at h1 hi1 hi2 hi3 hb
  have hn0 := fun at1 m => n_ok l at1 m hL
  have hr := fun at1 lo hi => range_ok l at1 lo hi hL
  by_cases h0 : 0 < i
  · obtain ⟨m, a1, hm, hmc⟩ := message_ex l a id lo hi hL h2 h3 h4
    obtain ⟨m2, hm2⟩ : ∃ m2, m2 = { m with gen := if m.gen < 1 then 1 else m.gen } := ⟨_, rfl⟩
    obtain ⟨t1, t2⟩ := tab_len h1.1
    have hg := r06grant_ok t m2 (nD l a1 30) (by omega) (by omega)
    have hd30 := nD_in l a1 (n := 30) (by omega)
    have hmv : msgV m2 = 0 := by
      have hg2 : msgGood m2 id lo hi := by
        obtain ⟨g1, g2, g3, g4, g5, g6, g7, g8, g9, g10, g11, g12⟩ := hm
        subst hm2
        exact ⟨g1, g2, g3, g4, g5, g6, g7, g8, g9, g10, by simp only; split <;> omega, by simp only; split <;> omega⟩
      exact good_val hg2 (by omega) (by omega) h2 h4
    have hfind : findL t.l m2.id < 0 := by
      unfold findL
      rw [idxI_neg]
      intro x hx
      have := (h1.2 x hx)
      have : x.msg.id ≠ m2.id := by rw [hm2]; simp only; rw [hm.1]; omega
      simpa using this
    have hok := grant_iff (t := t) (m := m2) (d := nD l a1 30) h1.1 hmv (by rw [hm2]; simp only; split <;> omega) (by omega) (by omega) (by omega) hfind
    obtain ⟨v1, _, v3, _⟩ := grant_valid hok
    obtain ⟨t', ht'⟩ : ∃ t', t' = (grantD t m2 (nD l a1 30)).1 := ⟨_, rfl⟩
    rw [hok] at hg
    rw [← ht'] at v1 v3 hg
    have hd := nD_in l (rawD l a1).2 (n := 3) (by omega)
    have hlen : t'.l.length = t.l.length + 1 := by rw [v3]; have := (insLs_perm t.l m2 (nD l a1 30)).length_eq; simpa using this
    have i1 := ih ⟨t', id + (1 + nD l (rawD l a1).2 3), (rawD l (rawD l a1).2).2, i - 1, false⟩ ⟨⟨v1, fun x hx => by
      simp only at hx ⊢
      rw [v3] at hx
      rcases List.mem_cons.1 ((insLs_perm t.l m2 (nD l a1 30)).mem_iff.1 hx) with rfl | hx
      · rw [hm2]; exact ⟨hm.2.1, hm.2.2.1, by simp only; rw [hm.1]; omega, by simp only; rw [hm.1]; omega, hm.2.2.2.1⟩
      · obtain ⟨k1, k2, k3, k4, k5⟩ := h1.2 x hx; exact ⟨k1, k2, k3, by omega, k5⟩⟩, by simp only; omega, by simp only; omega, by simp only; omega, fun h => by cases h⟩ (by simp only; omega)
    clear ih hm ht' v1 v3 hlen hok hfind hmv h1
    have e : ((i - 1 : Nat) : Int) = (i : Int) - 1 := by omega
    simp only [tbS, tabA, Bool.false_eq_true, if_false, e] at i1
    subst hm2
    cases b with
    | true =>
      obtain rfl := hb rfl
      simp only [zTable, eTable, eMessage, List.map_nil] at hg i1 hmc
      simp only [tbS, tabA, if_true, l_base_Src_Table_0]
      by_cases hgen : m.gen < 1
      · simp only [hgen, if_true] at hg
        simp -implicitDefEqProofs (maxSteps := 4000000) (disch := omega) only [getDT, go_sem, *] /-A0-/
      · simp only [hgen, if_false] at hg
        simp -implicitDefEqProofs (maxSteps := 4000000) (disch := omega) only [getDT, go_sem, *] /-A1-/
    | false =>
      simp only [eTable, eMessage] at hg i1 hmc
      simp only [tbS, tabA, eTable, Bool.false_eq_true, if_false, l_base_Src_Table_0]
      by_cases hgen : m.gen < 1
      · simp only [hgen, if_true] at hg
        simp -implicitDefEqProofs (maxSteps := 4000000) (disch := omega) only [getDT, go_sem, *] /-A2-/
      · simp only [hgen, if_false] at hg
        simp -implicitDefEqProofs (maxSteps := 4000000) (disch := omega) only [getDT, go_sem, *] /-A3-/
  · clear ih
    simp only [tbS, l_base_Src_Table_0]
    simp -implicitDefEqProofs (maxSteps := 4000000) (disch := omega) only [getDT, go_sem, *] /-A4-/
    exact ⟨t, a, b, id, h1, by omega, hb, rfl⟩
theorem table_ex (l : List Int) (a n : Nat) (id lo hi : Int) (hL : l.length ≤ 4000) (h1 : n ≤ 12) (hid : 1 ≤ id) (hid2 : id ≤ 900) (h2 : 0 ≤ lo) (h3 : lo ≤ hi) (h4 : hi < 65536) : ∃ t a' idn, tOK lo hi id t idn ∧ t.l.length ≤ n ∧
    callL G N_base_Src_Table [.ref 1000000 0 0, .d (.int .i64 n), .d (.int .i64 id), .d (.int .i64 lo), .d (.int .i64 hi)] [(1000000, srcO l a)] = some (.d (eTable t), [(1000000, srcO l a')]) := by
  have hn := n_ok l a (n + 1) hL (by omega) (by omega)
  have hd := nD_in l a (n := (n : Int) + 1) (by omega)
  obtain ⟨k, hk⟩ : ∃ k : Nat, nD l a ((n : Int) + 1) = k := ⟨(nD l a ((n : Int) + 1)).toNat, by omega⟩
  rw [hk] at hn hd
  clear hk
  generalize (rawD l a).2 = a1 at *
  obtain ⟨t, a', b, idn, g1, g2, g3, hl⟩ := tb_loop l lo hi id n hL h2 h3 h4 hid hid2 h1 ⟨zTable, id, a1, k, true⟩ ⟨⟨by show tabV zTable = 0; decide, by simp [zTable]⟩, by simp only; omega, by simp only; omega, by simp only [zTable, List.length_nil]; omega, fun _ => rfl⟩
  refine ⟨t, a', idn, g1, g2, ?_⟩
  clear g1
  simp only [tbS, tabA, if_true] at hl
  cases b with
  | true =>
    obtain rfl := g3 rfl
    simp only [if_true] at hl
    simp only [zTable, eTable, List.map_nil]
    rw [callL_code g_base_Src_Table (by simp)]; simp -implicitDefEqProofs (maxSteps := 4000000) (disch := omega) only [c_base_Src_Table, r_base_Src_Table, getDT, go_sem, *] /-A5-/
  | false =>
    clear g3
    simp only [Bool.false_eq_true, if_false, eTable] at hl
    simp only [eTable]
    rw [callL_code g_base_Src_Table (by simp)]; simp -implicitDefEqProofs (maxSteps := 4000000) (disch := omega) only [c_base_Src_Table, r_base_Src_Table, getDT, go_sem, *] /-A6-/
end Go.Proofs.YtmbnbjkdamalpaaGreat

namespace Go.Proofs.YtmbnbjkdamalpaaGreat
open Go Go.Sim
set_option linter.unusedSimpArgs false
set_option linter.unusedVariables false
set_option maxHeartbeats 10000000
set_option maxRecDepth 40000
theorem ringlist_ok {r : Ring} (hr : ringV r = 0) : callL G N_ring_List [.d (eRing r)] [] = some (.acc 0 ((ordD r).map eMessage), [(0, .acc (ordD r).length)]) := by
  have hv := ringval_ok r (by have := (ringV_zero hr).2.1; omega)
  obtain ⟨c, h, z, rfl, h1, h2, h3, h4⟩ := ringOK_nat (ringV_zero hr)
  have hl := list_ok c h z h2 h3 h4
  rw [hr] at hv
  rw [ordD_eq]
  clear hr
  simp only [eRing] at hv ⊢
  generalize ordN c h z = w at *
  rw [callL_code g_ring_List (by simp)]; simp -implicitDefEqProofs (maxSteps := 4000000) (disch := omega) only [c_ring_List, r_ring_List, getDT, go_sem, *] /-A0-/
theorem r04list_ok {r : Ring} (hr : ringV r = 0) : callL G N_ref04_List [.d (eRing r)] [] = some (.d (.sl ((ordD r).map eMessage)), []) := by
  have hv := r04val_ok r (by have := (ringV_zero hr).2.1; omega)
  obtain ⟨c, h, z, rfl, h1, h2, h3, h4⟩ := ringOK_nat (ringV_zero hr)
  have hl := order_ok c h z h2 h3 h4
  rw [hr] at hv
  rw [ordD_eq]
  clear hr
  simp only [eRing] at hv ⊢
  generalize ordN c h z = w at *
  rw [callL_code g_ref04_List (by simp)]; simp -implicitDefEqProofs (maxSteps := 4000000) (disch := omega) only [c_ref04_List, r_ref04_List, getDT, go_sem, *] /-A1-/
theorem ready7_ok {s : Shard} (hr : ringV s.ready = 0) : callL G N_ref07_Ready [.d (eShard s)] [] = some (.d (.sl ((ordD s.ready).map eMessage)), []) := by
  have hl := r04list_ok hr
  generalize ordD s.ready = w at *
  simp only [eRing, eShard] at hl ⊢
  rw [callL_code g_ref07_Ready (by simp)]; simp -implicitDefEqProofs (maxSteps := 4000000) (disch := omega) only [c_ref07_Ready, r_ref07_Ready, getDT, go_sem, *] /-A2-/
def msgN (b : List Message) (l : List Lease) (i : Nat) : List Message := b ++ (l.take i).map (·.msg)
theorem msgN_succ (b : List Message) {l : List Lease} {i : Nat} (h : i < l.length) : msgN b l (i + 1) = msgN b l i ++ [l[i].msg] := by
  unfold msgN; rw [List.take_add_one, List.getElem?_eq_getElem h, List.map_append, List.append_assoc]; rfl
theorem msgN_len (b : List Message) {l : List Lease} {i : Nat} (h : i ≤ l.length) : (msgN b l i).length = b.length + i := by
  simp [msgN]; omega
def smS (b : List Message) (l : List Lease) (i : Nat) : St := ⟨[(3, .acc 8 ((msgN b l i).map eMessage)), (11, .d (.sl (l.map eLease))), (12, .d (.int .i64 l.length)), (13, .d (.int .i64 i))], [(8, .acc (msgN b l i).length)]⟩
theorem sm_loop (b : List Message) (l : List Lease) (h1 : l.length ≤ 12) (h2 : b.length ≤ 12) : ∀ i, i ≤ l.length → loopL G [] l_shard_messages_0 (smS b l i) = some (.exit 0, ⟨[(3, .acc 8 ((msgN b l l.length).map eMessage))], [(8, .acc (msgN b l l.length).length)]⟩) := by
  refine loop_ind (fun i => l.length - i) (fun i => i ≤ l.length) (smS b l) _ fun i hi L ih => ?_
  by_cases h0 : i < l.length
  · have i1 := ih (i + 1) (by omega) (by omega)
    clear ih
    have hl := msgN_len b (l := l) (i := i) (by omega)
    rw [smS, msgN_succ b h0] at i1
    generalize msgN b l l.length = z at *
    simp only [List.map_append, List.map_cons, List.map_nil, List.length_append, List.length_singleton, hl] at i1
    simp only [smS, hl, l_shard_messages_0]
    generalize msgN b l i = w at *
    simp only [eMessage] at i1
    simp only [Int.natCast_add, Int.natCast_one, Int.natCast_zero, Int.natCast_mul, Int.cast_ofNat_Int, List.length_append, List.length_map, List.map_nil, List.length_nil, List.map_append, List.map_cons, List.length_cons, Nat.zero_add, srcO, mapSet] at i1
    simp -implicitDefEqProofs (maxSteps := 4000000) (disch := omega) only [eLease, eMessage, getDT, go_sem, *] /-A3-/
  · clear ih
    have : i = l.length := by omega
    subst this
    simp only [smS, l_shard_messages_0]
    simp -implicitDefEqProofs (maxSteps := 4000000) (disch := omega) only [getDT, go_sem, *] /-A4-/
theorem messages_ok {s : Shard} (hr : ringV s.ready = 0) (h1 : s.leases.l.length ≤ 12) : callL G N_shard_messages [.d (eShard s)] [] = some (.d (.sl ((shMsgs s).map eMessage)), []) := by
  have hl := ringlist_ok hr
  have hb : (ordD s.ready).length ≤ 12 := by
    rw [ordD_len]
    have := ringV_zero hr
    obtain ⟨a1, a2, a3, a4, a5, a6⟩ := this
    omega
  have hm := sm_loop (ordD s.ready) s.leases.l h1 hb 0 (by omega)
  have e : msgN (ordD s.ready) s.leases.l s.leases.l.length = shMsgs s := by simp [msgN, shMsgs]
  rw [e] at hm
  simp only [smS, msgN, List.take_zero, List.map_nil, List.append_nil] at hm
  generalize shMsgs s = w at *
  generalize ordD s.ready = w2 at *
  simp only [eRing, eShard] at hl ⊢
  simp only [Int.natCast_add, Int.natCast_one, Int.natCast_zero, Int.natCast_mul, Int.cast_ofNat_Int, List.length_append, List.length_map, List.map_nil, List.length_nil, List.map_append, List.map_cons, List.length_cons, Nat.zero_add, srcO, mapSet] at hm
  rw [callL_code g_shard_messages (by simp)]; simp -implicitDefEqProofs (maxSteps := 4000000) (disch := omega) only [c_shard_messages, r_shard_messages, getDT, go_sem, *] /-A5-/
def l7S (s : Shard) (i : Nat) : St := ⟨[(1, .ref 1 0 0), (3, .acc 3 ((msgN [] s.leases.l i).map eMessage)), (4, .d (.int .i64 i))], [(1, .row [.d (eShard s)]), (3, .acc (msgN [] s.leases.l i).length)]⟩
theorem l7_loop (s : Shard) (h1 : s.leases.l.length ≤ 12) : ∀ i, i ≤ s.leases.l.length → loopL G [] l_ref07_Leased_0 (l7S s i) = some (.exit 0, ⟨[(3, .acc 3 ((msgN [] s.leases.l s.leases.l.length).map eMessage))], [(3, .acc (msgN [] s.leases.l s.leases.l.length).length)]⟩) := by
  refine loop_ind (fun i => s.leases.l.length - i) (fun i => i ≤ s.leases.l.length) (l7S s) _ fun i hi L ih => ?_
  by_cases h0 : i < s.leases.l.length
  · have i1 := ih (i + 1) (by omega) (by omega)
    clear ih
    have hl := msgN_len [] (l := s.leases.l) (i := i) (by omega)
    rw [l7S, msgN_succ [] h0] at i1
    generalize msgN [] s.leases.l s.leases.l.length = z at *
    simp only [List.map_append, List.map_cons, List.map_nil, List.length_append, List.length_singleton, hl] at i1
    simp only [l7S, hl, l_ref07_Leased_0]
    generalize msgN [] s.leases.l i = w at *
    simp only [eMessage, eShard] at i1 ⊢
    simp only [Int.natCast_add, Int.natCast_one, Int.natCast_zero, Int.natCast_mul, Int.cast_ofNat_Int, List.length_append, List.length_map, List.map_nil, List.length_nil, List.map_append, List.map_cons, List.length_cons, Nat.zero_add, srcO, mapSet] at i1
    simp -implicitDefEqProofs (maxSteps := 4000000) (disch := omega) only [eLease, eMessage, getDT, go_sem, *] /-A6-/
  · clear ih
    have : i = s.leases.l.length := by omega
    subst this
    simp only [l7S, eShard, l_ref07_Leased_0]
    simp -implicitDefEqProofs (maxSteps := 4000000) (disch := omega) only [getDT, go_sem, *] /-A7-/
theorem leased7_ok {s : Shard} (h1 : s.leases.l.length ≤ 12) : callL G N_ref07_Leased [.d (eShard s)] [] = some (.d (.sl ((s.leases.l.map (·.msg)).map eMessage)), []) := by
  have hm := l7_loop s h1 0 (by omega)
  have e : msgN [] s.leases.l s.leases.l.length = s.leases.l.map (·.msg) := by simp [msgN]
  rw [e] at hm
  generalize s.leases.l.map (·.msg) = w at *
  simp only [l7S, msgN, List.take_zero, List.map_nil, List.append_nil, eShard] at hm
  simp only [eShard]
  simp only [Int.natCast_add, Int.natCast_one, Int.natCast_zero, Int.natCast_mul, Int.cast_ofNat_Int, List.length_append, List.length_map, List.map_nil, List.length_nil, List.map_append, List.map_cons, List.length_cons, Nat.zero_add, srcO, mapSet] at hm
  rw [callL_code g_ref07_Leased (by simp)]; simp -implicitDefEqProofs (maxSteps := 4000000) (disch := omega) only [c_ref07_Leased, r_ref07_Leased, getDT, go_sem, *] /-A8-/
theorem all7_ok {s : Shard} (hr : ringV s.ready = 0) (h1 : s.leases.l.length ≤ 12) : callL G N_ref07_All [.d (eShard s)] [] = some (.d (.sl ((shMsgs s).map eMessage)), []) := by
  have h2 := ready7_ok hr
  have h3 := leased7_ok h1
  have hb : (ordD s.ready).length ≤ 12 := by
    rw [ordD_len]
    have := ringV_zero hr
    obtain ⟨a1, a2, a3, a4, a5, a6⟩ := this
    omega
  have hc : (s.leases.l.map (·.msg)).length ≤ 12 := by simpa using h1
  simp only [shMsgs, List.map_append]
  generalize s.leases.l.map (·.msg) = w at *
  generalize ordD s.ready = w2 at *
  simp only [eShard] at h2 h3 ⊢
  rw [callL_code g_ref07_All (by simp)]; simp -implicitDefEqProofs (maxSteps := 4000000) (disch := omega) only [c_ref07_All, r_ref07_All, getDT, go_sem, *] /-A9-/
end Go.Proofs.YtmbnbjkdamalpaaGreat

namespace Go.Proofs.YtmbnbjkdamalpaaGreat
open Go Go.Sim
set_option linter.unusedSimpArgs false
set_option linter.unusedVariables false
set_option maxHeartbeats 10000000
set_option maxRecDepth 40000
theorem tl_len {t : Table} (h : tabV t = 0) : t.l.length ≤ 12 := by
  refine Classical.byContradiction fun hc => ?_
  unfold tabV at h
  rw [if_pos (by omega)] at h
  exact absurd h (by decide)
def movE (lo hi : Int) (l : List Message) : Bool := l.any fun m => decide (¬ (lo ≤ m.route ∧ m.route ≤ hi))
theorem movE_drop (lo hi : Int) {l : List Message} {k : Nat} (h : k < l.length) : movE lo hi (l.drop k) = (decide (¬ (lo ≤ l[k].route ∧ l[k].route ≤ hi)) || movE lo hi (l.drop (k + 1))) := by
  rw [List.drop_eq_getElem_cons h]; rfl
theorem sin_ok (n lo hi : Int) : callL G N_shard_in [.d (.int .i64 n), .d (.int .i64 lo), .d (.int .i64 hi)] [] = some (.d (.bool (decide (lo ≤ n ∧ n ≤ hi))), []) := by
  by_cases h : lo ≤ n
  · by_cases h2 : n ≤ hi
    · rw [decide_eq_true ⟨h, h2⟩]
      rw [callL_code g_shard_in (by simp)]; simp -implicitDefEqProofs (maxSteps := 4000000) (disch := omega) only [c_shard_in, r_shard_in, getDT, go_sem, *] /-A0-/
    · rw [decide_eq_false (by omega)]
      rw [callL_code g_shard_in (by simp)]; simp -implicitDefEqProofs (maxSteps := 4000000) (disch := omega) only [c_shard_in, r_shard_in, getDT, go_sem, *] /-A1-/
  · rw [decide_eq_false (by omega)]
    rw [callL_code g_shard_in (by simp)]; simp -implicitDefEqProofs (maxSteps := 4000000) (disch := omega) only [c_shard_in, r_shard_in, getDT, go_sem, *] /-A2-/
theorem spans_ok (lo hi : Int) : callL G N_shard_spans [.d (.int .i64 lo), .d (.int .i64 hi)] [] = some (.d (.bool (decide (0 ≤ lo ∧ lo ≤ hi ∧ hi < 65536))), []) := by
  by_cases h : 0 ≤ lo ∧ lo ≤ hi ∧ hi < 65536
  · rw [decide_eq_true h]
    rw [callL_code g_shard_spans (by simp)]; simp -implicitDefEqProofs (maxSteps := 4000000) (disch := omega) only [c_shard_spans, r_shard_spans, getDT, go_sem, *] /-A3-/
  · rw [decide_eq_false h]
    have e : (decide (0 ≤ lo) && (decide (lo ≤ hi) && decide (hi < 65536))) = false := by simp; omega
    rw [callL_code g_shard_spans (by simp)]; simp -implicitDefEqProofs (maxSteps := 4000000) (disch := omega) only [c_shard_spans, r_shard_spans, e, getDT, go_sem, *] /-A4-/
theorem span7_ok (lo hi : Int) : callL G N_ref07_span [.d (.int .i64 lo), .d (.int .i64 hi)] [] = some (.d (.bool (decide (0 ≤ lo ∧ lo ≤ hi ∧ hi < 65536))), []) := by
  by_cases h : 0 ≤ lo ∧ lo ≤ hi ∧ hi < 65536
  · rw [decide_eq_true h]
    rw [callL_code g_ref07_span (by simp)]; simp -implicitDefEqProofs (maxSteps := 4000000) (disch := omega) only [c_ref07_span, r_ref07_span, getDT, go_sem, *] /-A5-/
  · rw [decide_eq_false h]
    have e : (decide (0 ≤ lo) && (decide (lo ≤ hi) && decide (hi < 65536))) = false := by simp; omega
    rw [callL_code g_ref07_span (by simp)]; simp -implicitDefEqProofs (maxSteps := 4000000) (disch := omega) only [c_ref07_span, r_ref07_span, e, getDT, go_sem, *] /-A6-/
theorem stored_ok (s : Shard) (h1 : s.leases.l.length ≤ 12) (h2 : 0 ≤ s.ready.size) (h3 : s.ready.size ≤ 12) : callL G N_shard_stored [.d (eShard s)] [] = some (.d (.int .i64 (s.ready.size + s.leases.l.length)), []) := by
  simp only [eShard]
  rw [callL_code g_shard_stored (by simp)]; simp -implicitDefEqProofs (maxSteps := 4000000) (disch := omega) only [c_shard_stored, r_shard_stored, getDT, go_sem, *] /-A7-/
def svS (s : Shard) (l : List Message) (i : Nat) : St := ⟨[(1, .ref 1 0 0), (5, .mpr 52), (6, .d (.bool (dupI (idsN l i)))), (54, .d (.sl (l.map eMessage))), (55, .d (.int .i64 l.length)), (56, .d (.int .i64 i))], [(1, .row [.d (eShard s)]), (52, .mp (seenM (idsN l i)))]⟩
def svR (s : Shard) (l : List Message) (i : Nat) : AExit × St := if movE s.low s.high (l.drop i) = true then (.ret, ⟨[(2, .d (.int .i64 12))], []⟩) else (.exit 1, ⟨[(6, .d (.bool (dupI (l.map (·.id)))))], []⟩)
theorem sv_loop (s : Shard) (l : List Message) (h1 : l.length ≤ 24) : ∀ i, i ≤ l.length → loopL G [] l_shard_Validate_0 (svS s l i) = some (svR s l i) := by
  refine loop_ind (fun i => l.length - i) (fun i => i ≤ l.length) (svS s l) (fun i => some (svR s l i)) fun i hi L ih => ?_
  by_cases h0 : i < l.length
  · have i1 := ih (i + 1) (by omega) (by omega)
    clear ih
    have hm := sin_ok l[i].route s.low s.high
    unfold svR at i1 ⊢
    rw [movE_drop _ _ h0]
    unfold svS at i1
    rw [idsN_succ h0, seenM_snoc, dupI_snoc] at i1
    have hg := mget_seen l[i].id (idsN l i)
    generalize movE s.low s.high (l.drop (i + 1)) = fe at *
    generalize dupI (l.map (·.id)) = dd at *
    simp only [svS, eShard, l_shard_Validate_0] at i1 ⊢
    generalize seenM (idsN l i) = sm at *
    by_cases hv : s.low ≤ l[i].route ∧ l[i].route ≤ s.high
    · rw [decide_eq_true hv] at hm
      simp only [hv, not_true_eq_false, and_self, decide_false, Bool.false_or]
      by_cases hmem : l[i].id ∈ idsN l i
      · simp only [hmem, if_true, decide_true, Bool.or_true] at hg i1
        generalize dupI (idsN l i) = d0 at *
        generalize idsN l i = w at *
        simp only [Int.natCast_add, Int.natCast_one, Int.natCast_zero, Int.natCast_mul, Int.cast_ofNat_Int, List.length_append, List.length_map, List.map_nil, List.length_nil, List.map_append, List.map_cons, List.length_cons, Nat.zero_add, srcO, mapSet] at i1
        cases d0
        · simp -implicitDefEqProofs (maxSteps := 4000000) (disch := omega) only [eMessage, getDT, go_sem, *] /-A8-/
        · simp -implicitDefEqProofs (maxSteps := 4000000) (disch := omega) only [eMessage, getDT, go_sem, *] /-A9-/
      · simp only [hmem, if_false, decide_false, Bool.or_false] at hg i1
        generalize dupI (idsN l i) = d0 at *
        generalize idsN l i = w at *
        simp only [Int.natCast_add, Int.natCast_one, Int.natCast_zero, Int.natCast_mul, Int.cast_ofNat_Int, List.length_append, List.length_map, List.map_nil, List.length_nil, List.map_append, List.map_cons, List.length_cons, Nat.zero_add, srcO, mapSet] at i1
        cases d0
        · simp -implicitDefEqProofs (maxSteps := 4000000) (disch := omega) only [eMessage, getDT, go_sem, *] /-A10-/
        · simp -implicitDefEqProofs (maxSteps := 4000000) (disch := omega) only [eMessage, getDT, go_sem, *] /-A11-/
    · rw [decide_eq_false hv] at hm
      simp only [hv, not_false_eq_true, decide_true, Bool.true_or, if_true]
      clear i1 hg
      simp -implicitDefEqProofs (maxSteps := 4000000) (disch := omega) only [eMessage, getDT, go_sem, *] /-A12-/
  · clear ih
    have : i = l.length := by omega
    subst this
    unfold svR
    rw [List.drop_length]
    simp only [svS, idsN, List.take_length, movE, List.any_nil, Bool.false_eq_true, if_false, l_shard_Validate_0, eShard]
    simp -implicitDefEqProofs (maxSteps := 4000000) (disch := omega) only [getDT, go_sem, *] /-A13-/
theorem shMsgs_len {s : Shard} (hr : ringV s.ready = 0) (h1 : s.leases.l.length ≤ 12) : (shMsgs s).length ≤ 24 := by
  obtain ⟨a1, a2, a3, a4, a5, a6⟩ := ringV_zero hr
  simp only [shMsgs, List.length_append, List.length_map, ordD_len]
  omega
theorem shardV_rest {s : Shard} (hr : ringV s.ready = 0) (ht : tabV s.leases = 0) : shardV s = if s.live = false then (if s.low ≠ 0 ∨ s.high ≠ 0 ∨ 0 < s.ready.size + s.leases.l.length then 7 else 0)
  else if ¬ (0 ≤ s.low ∧ s.low ≤ s.high ∧ s.high < 65536) then 1
  else if s.ready.cells.length < s.ready.size + s.leases.l.length then 3
  else if movE s.low s.high (shMsgs s) = true then 12
  else if dupI ((shMsgs s).map (·.id)) = true then 10 else 0 := by
  unfold shardV
  rw [if_neg (fun hc => hc hr), if_neg (fun hc => hc ht)]
  rfl
theorem shval_ok (s : Shard) (h1 : s.ready.cells.length ≤ 4294967296) (h2 : s.leases.l.length ≤ 4294967296) (h3 : s.leases.heap.length ≤ 4294967296) : callL G N_shard_Validate [.d (eShard s)] [] = some (.d (.int .i64 (shardV s)), []) := by
  have hv := ringval_ok s.ready h1
  have ht := lval_ok s.leases h2 h3
  by_cases e1 : ringV s.ready = 0
  · by_cases e2 : tabV s.leases = 0
    · rw [shardV_rest e1 e2]
      rw [e1] at hv
      rw [e2] at ht
      have hl := tl_len e2
      obtain ⟨a1, a2, a3, a4, a5, a6⟩ := ringV_zero e1
      have hs := stored_ok s hl a5 (by omega)
      have hsp := spans_ok s.low s.high
      have hm := messages_ok e1 hl
      have hml := shMsgs_len e1 hl
      have hlp := sv_loop s (shMsgs s) hml 0 (by omega)
      unfold svR at hlp
      simp only [svS, idsN, List.take_zero, List.map_nil, seenM, List.foldl_nil, show dupI [] = false by decide, List.drop_zero] at hlp
      generalize movE s.low s.high (shMsgs s) = b1 at *
      generalize dupI ((shMsgs s).map (·.id)) = b2 at *
      generalize shMsgs s = w at *
      clear e1 e2
      obtain ⟨lv, lo, hi, ⟨c, h, z⟩, ⟨tl, th⟩⟩ := s
      simp only [eShard, eRing, eTable] at hv ht hs hsp hm hlp a1 a2 a3 a4 a5 a6 hl h1 h2 h3 ⊢
      simp only [Int.natCast_add, Int.natCast_one, Int.natCast_zero, Int.natCast_mul, Int.cast_ofNat_Int, List.length_append, List.length_map, List.map_nil, List.length_nil, List.map_append, List.map_cons, List.length_cons, Nat.zero_add, srcO, mapSet] at hlp
      cases lv with
      | false =>
        simp only [if_true]
        by_cases c1 : lo ≠ 0 ∨ hi ≠ 0 ∨ 0 < z + tl.length
        · rw [if_pos c1]
          rw [callL_code g_shard_Validate (by simp)]; simp -implicitDefEqProofs (maxSteps := 4000000) (disch := omega) only [c_shard_Validate, r_shard_Validate, getDT, go_sem, *]; (try simp only [pA, pB, pC, pD, pE, pF, pG, pH, pI, pJ, pK, pL, pM, pN, pO, pP, if_true, if_false]); repeat' (first | done | rfl | ((first | refine iteC (fun hq => ?_) (fun hq => ?_) | refine iteP (fun hq => ?_) (fun hq => ?_)) <;> (try (first | (exfalso; omega) | contradiction)) <;> (try simp -implicitDefEqProofs (maxSteps := 4000000) (disch := omega) only [getDT, go_sem, *]) <;> (try simp only [pA, pB, pC, pD, pE, pF, pG, pH, pI, pJ, pK, pL, pM, pN, pO, pP, if_true, if_false]))); (all_goals try rfl); (all_goals try (repeat' (first | done | rfl | (exfalso; omega) | contradiction | (refine iteR (fun hq => ?_) (fun hq => ?_))))) /-A14-/
        · rw [if_neg c1]
          rw [callL_code g_shard_Validate (by simp)]; simp -implicitDefEqProofs (maxSteps := 4000000) (disch := omega) only [c_shard_Validate, r_shard_Validate, getDT, go_sem, *] /-A15-/
      | true =>
        simp only [Bool.true_eq_false, if_false]
        by_cases c1 : 0 ≤ lo ∧ lo ≤ hi ∧ hi < 65536
        · rw [decide_eq_true c1] at hsp
          rw [if_neg (fun hc => hc c1)]
          by_cases c2 : (c.length : Int) < z + tl.length
          · rw [if_pos c2]
            rw [callL_code g_shard_Validate (by simp)]; simp -implicitDefEqProofs (maxSteps := 4000000) (disch := omega) only [c_shard_Validate, r_shard_Validate, getDT, go_sem, *] /-A16-/
          · rw [if_neg c2]
            cases b1
            · cases b2
              · simp only [Bool.false_eq_true, if_false] at hlp ⊢
                rw [callL_code g_shard_Validate (by simp)]; simp -implicitDefEqProofs (maxSteps := 4000000) (disch := omega) only [c_shard_Validate, r_shard_Validate, getDT, go_sem, *] /-A17-/
              · simp only [Bool.false_eq_true, if_false, if_true] at hlp ⊢
                rw [callL_code g_shard_Validate (by simp)]; simp -implicitDefEqProofs (maxSteps := 4000000) (disch := omega) only [c_shard_Validate, r_shard_Validate, getDT, go_sem, *] /-A18-/
            · simp only [if_true] at hlp ⊢
              rw [callL_code g_shard_Validate (by simp)]; simp -implicitDefEqProofs (maxSteps := 4000000) (disch := omega) only [c_shard_Validate, r_shard_Validate, getDT, go_sem, *] /-A19-/
        · rw [decide_eq_false c1] at hsp
          rw [if_pos c1]
          rw [callL_code g_shard_Validate (by simp)]; simp -implicitDefEqProofs (maxSteps := 4000000) (disch := omega) only [c_shard_Validate, r_shard_Validate, getDT, go_sem, *] /-A20-/
    · unfold shardV
      rw [if_neg (fun hc => hc e1), if_pos e2]
      rw [e1] at hv
      generalize tabV s.leases = v at *
      obtain ⟨lv, lo, hi, ⟨c, h, z⟩, ⟨tl, th⟩⟩ := s
      simp only [eShard, eRing, eTable] at hv ht h1 h2 h3 ⊢
      rw [callL_code g_shard_Validate (by simp)]; simp -implicitDefEqProofs (maxSteps := 4000000) (disch := omega) only [c_shard_Validate, r_shard_Validate, getDT, go_sem, *] /-A21-/
  · unfold shardV
    rw [if_pos e1]
    clear ht
    generalize ringV s.ready = v at *
    obtain ⟨lv, lo, hi, ⟨c, h, z⟩, ⟨tl, th⟩⟩ := s
    simp only [eShard, eRing] at hv h1 h2 h3 ⊢
    rw [callL_code g_shard_Validate (by simp)]; simp -implicitDefEqProofs (maxSteps := 4000000) (disch := omega) only [c_shard_Validate, r_shard_Validate, getDT, go_sem, *] /-A22-/
end Go.Proofs.YtmbnbjkdamalpaaGreat

namespace Go.Proofs.YtmbnbjkdamalpaaGreat
open Go Go.Sim
set_option linter.unusedSimpArgs false
set_option linter.unusedVariables false
set_option maxHeartbeats 10000000
set_option maxRecDepth 40000
theorem pickI_ok (l : List Int) (a : Nat) (xs : List Int) (hL : l.length ≤ 4000) (h1 : 1 ≤ xs.length) (h2 : xs.length ≤ 1000) : ∃ i : Nat, ∃ hi : i < xs.length, ∃ a', callL G N_base_Src_Pick [.ref 1000000 0 0, .d (.sl (ints xs))] [(1000000, srcO l a)] = some (.d (.int .i64 xs[i]), [(1000000, srcO l a')]) := by
  have hn := n_ok l a xs.length hL (by omega) (by omega)
  have hb := nD_in l a (n := xs.length) (by omega)
  obtain ⟨i, hi⟩ : ∃ i : Nat, nD l a xs.length = i := ⟨(nD l a xs.length).toNat, by omega⟩
  rw [hi] at hn hb
  have hlt : i < xs.length := by omega
  refine ⟨i, hlt, (rawD l a).2, ?_⟩
  clear hb hi
  rw [callL_code g_base_Src_Pick (by simp)]; simp -implicitDefEqProofs (maxSteps := 4000000) (disch := omega) only [c_base_Src_Pick, r_base_Src_Pick, getDT, go_sem, *] /-A0-/
theorem pickB_ex (l : List Int) (a : Nat) (xs : List Int) (lo hi : Int) (hL : l.length ≤ 4000) (h1 : 1 ≤ xs.length) (h2 : xs.length ≤ 1000) (hx : ∀ x ∈ xs, lo ≤ x ∧ x ≤ hi) : ∃ y a', callL G N_base_Src_Pick [.ref 1000000 0 0, .d (.sl (ints xs))] [(1000000, srcO l a)] = some (.d (.int .i64 y), [(1000000, srcO l a')]) ∧ lo ≤ y ∧ y ≤ hi := by
  obtain ⟨i, hi, a', h⟩ := pickI_ok l a xs hL h1 h2
  exact ⟨_, a', h, hx _ (List.getElem_mem hi)⟩
theorem span_ex (l : List Int) (a : Nat) (hL : l.length ≤ 4000) : ∃ lo hi a', 0 ≤ lo ∧ lo ≤ hi ∧ hi < 65536 ∧ callL G N_base_Src_Span [.ref 1000000 0 0] [(1000000, srcO l a)] = some (.d (.tup [.int .i64 lo, .int .i64 hi]), [(1000000, srcO l a')]) := by
  obtain ⟨y, a1, q1, y1, y2⟩ := pickB_ex l a [0, 0, 100, 32768, 65535] 0 65535 hL (by simp) (by simp) (by simp)
  obtain ⟨z, a2, q2, z1, z2⟩ := pickB_ex l a1 [65535, 65535, 40000, 101, 32768] 0 65535 hL (by simp) (by simp) (by simp)
  simp only [ints, List.map_cons, List.map_nil] at q1 q2
  rcases (show z < y ∨ y < z ∨ y = z by omega) with h | h | h
  · refine ⟨z, y, a2, by omega, by omega, by omega, ?_⟩
    rw [callL_code g_base_Src_Span (by simp)]; simp -implicitDefEqProofs (maxSteps := 4000000) (disch := omega) only [c_base_Src_Span, r_base_Src_Span, getDT, go_sem, *] /-A1-/
  · refine ⟨y, z, a2, by omega, by omega, by omega, ?_⟩
    rw [callL_code g_base_Src_Span (by simp)]; simp -implicitDefEqProofs (maxSteps := 4000000) (disch := omega) only [c_base_Src_Span, r_base_Src_Span, getDT, go_sem, *] /-A2-/
  · subst h
    refine ⟨y, y, a2, by omega, by omega, by omega, ?_⟩
    rw [callL_code g_base_Src_Span (by simp)]; simp -implicitDefEqProofs (maxSteps := 4000000) (disch := omega) only [c_base_Src_Span, r_base_Src_Span, getDT, go_sem, *] /-A3-/
def SG (x : Shard) : Prop := shardV x = 0 ∧ (∀ m ∈ ordD x.ready, 0 ≤ m.epoch ∧ m.count ≤ 3) ∧ (∀ y ∈ x.leases.l, 0 ≤ y.msg.epoch) ∧ (x.live = false → x.ready.size = 0 ∧ x.leases.l = [])
theorem free_SG (n : Nat) (h1 : 1 ≤ n) (h2 : n ≤ 12) : SG ⟨false, 0, 0, ⟨List.replicate n zMessage, 0, 0⟩, zTable⟩ := by
  have hr : ringV ⟨List.replicate n zMessage, 0, 0⟩ = 0 := ringV_rg (n := n) (h := 0) (l := []) h1 h2 (by omega) (by simp) (by simp) (by simp)
  refine ⟨?_, by simp [ordD], by simp [zTable], fun _ => ⟨rfl, rfl⟩⟩
  unfold shardV
  rw [if_neg (by simpa using hr), if_neg (by show ¬ tabV zTable ≠ 0; decide), if_pos rfl, if_neg (by simp [storedD, zTable])]
theorem live_SG {n h : Nat} {L : List Message} {t : Table} {lo hi i1 i2 : Int} (hn : 1 ≤ n) (hn2 : n ≤ 12) (hh : h < n) (h2 : 0 ≤ lo) (h3 : lo ≤ hi) (h4 : hi < 65536) (hm : mOK lo hi 1 L i1) (hi1 : i1 ≤ 7) (ht : tOK lo hi 11 t i2) (hl : L.length + t.l.length ≤ n) : SG ⟨true, lo, hi, rg n h L, t⟩ := by
  have ho : ordD (rg n h L) = L := by rw [rg, ordD_eq, ordN_rg hn (by omega)]
  have hr := ringV_rg hn hn2 hh (by omega) (fun m hx => (hm.1 m hx).1) hm.2
  have htv := (tabV_iff t).1 ht.1
  refine ⟨?_, fun m hx => ?_, fun y hy => (ht.2 y hy).2.2.2.2, fun h => by cases h⟩
  · unfold shardV
    rw [if_neg (by simpa using hr), if_neg (by simpa using ht.1), if_neg (by simp), if_neg (by simp only; omega), if_neg (by simp [storedD, rg, wN_len]; omega), if_neg, if_neg]
    · unfold dupI shMsgs
      simp only [ho, decide_eq_true_eq, Classical.not_not, List.map_append, List.map_map]
      rw [List.nodup_append]
      refine ⟨hm.2, ?_, fun a ha b hb => ?_⟩
      · have : (t.l.map ((fun m : Message => m.id) ∘ fun x => x.msg)).Pairwise (· ≠ ·) := by
          rw [List.pairwise_map]
          exact (leases_asc htv.2.1).imp fun {x y} hxy => by simp only [Function.comp]; omega
        exact this
      · obtain ⟨x, hx, rfl⟩ := List.mem_map.1 ha
        obtain ⟨y, hy, rfl⟩ := List.mem_map.1 hb
        have k1 := hm.1 x hx
        have k2 := ht.2 y hy
        simp only [Function.comp]; omega
    · unfold movedF shMsgs
      simp only [ho, Bool.not_eq_true, List.any_eq_false, List.mem_append, List.mem_map, decide_eq_true_eq, Classical.not_not]
      rintro m (hx | ⟨y, hy, rfl⟩)
      · have k1 := hm.1 m hx; exact ⟨k1.2.1, k1.2.2.1⟩
      · have k1 := ht.2 y hy; exact ⟨k1.1, k1.2.1⟩
  · simp only [ho] at hx
    have k1 := hm.1 m hx
    refine ⟨?_, k1.2.2.2.2.2⟩
    have := k1.1
    unfold msgV at this
    split at this
    · rename_i hc; exact hc.2.2.2.2.1
    · cases this
theorem free_ok (n : Nat) (h1 : 1 ≤ n) (h2 : n ≤ 12) : callL G N_ref07_Free [.d (.int .i64 n)] [] = some (.d (.tup [eShard ⟨false, 0, 0, ⟨List.replicate n zMessage, 0, 0⟩, zTable⟩, .int .i64 0]), []) := by
  have hw := new4_ok n h1 h2
  generalize List.replicate n zMessage = c at *
  simp only [eRing, eShard, zTable, List.map_nil] at hw ⊢
  rw [callL_code g_ref07_Free (by simp)]; simp -implicitDefEqProofs (maxSteps := 4000000) (disch := omega) only [c_ref07_Free, r_ref07_Free, getDT, go_sem, *] /-A4-/
theorem fromof_ex (l : List Int) (a n : Nat) (lo hi : Int) (hL : l.length ≤ 4000) (h2 : 0 ≤ lo) (h3 : lo ≤ hi) (h4 : hi < 65536) (hn : 1 ≤ n) (hn2 : n ≤ 12) : ∃ x a', SG x ∧ callL G N_base_Src_FromOf [.ref 1000000 0 0, .d (.int .i64 n), .d (.int .i64 1), .d (.int .i64 lo), .d (.int .i64 hi)] [(1000000, srcO l a)] = some (.d (eShard x), [(1000000, srcO l a')]) := by
  have q1 := n_ok l a 12 hL (by omega) (by omega)
  have b1 := nD_in l a (n := 12) (by omega)
  generalize nD l a 12 = c at *
  generalize (rawD l a).2 = a1 at *
  by_cases hc : c = 11
  · subst hc
    have hf := free_ok n hn hn2
    refine ⟨_, a1, free_SG n hn hn2, ?_⟩
    generalize List.replicate n zMessage = cs at *
    simp only [eShard, zTable, List.map_nil] at hf ⊢
    rw [callL_code g_base_Src_FromOf (by simp)]; simp -implicitDefEqProofs (maxSteps := 4000000) (disch := omega) only [c_base_Src_FromOf, r_base_Src_FromOf, getDT, go_sem, *] /-A5-/
  · obtain ⟨h, L, a2, idn, g1, g2, g3, g4, g5, hr⟩ := ringof_ex l a1 n 1 lo hi hL h2 h3 h4 (by omega) (by omega) hn hn2
    obtain ⟨k, hk⟩ : ∃ k : Nat, (n - L.length < 4 ∧ k = n - L.length ∨ ¬ n - L.length < 4 ∧ k = 4) := by
      by_cases hc : n - L.length < 4
      · exact ⟨_, .inl ⟨hc, rfl⟩⟩
      · exact ⟨4, .inr ⟨hc, rfl⟩⟩
    obtain ⟨t, a3, idt, t1, t2, ht⟩ := table_ex l a2 k 11 lo hi hL (by omega) (by omega) (by omega) h2 h3 h4
    refine ⟨⟨true, lo, hi, rg n h L, t⟩, a3, live_SG hn hn2 g1 h2 h3 h4 g5 g4 t1 (by omega), ?_⟩
    have hlen : (rg n h L).cells.length = n := wN_len _ _ _ _
    have hsz : (rg n h L).size = (L.length : Int) := rfl
    clear t1 g5
    generalize rg n h L = r at *
    simp only [eRing, hsz] at hr
    simp only [eShard, eTable, hsz] at ht ⊢
    rcases hk with ⟨hk, rfl⟩ | ⟨hk, rfl⟩
    · have e : ((n - L.length : Nat) : Int) = (n : Int) - L.length := by omega
      rw [e] at ht
      have hlt : (n : Int) - L.length < 4 := by omega
      rw [callL_code g_base_Src_FromOf (by simp)]; simp -implicitDefEqProofs (maxSteps := 4000000) (disch := omega) only [c_base_Src_FromOf, r_base_Src_FromOf, getDT, go_sem, *] /-A6-/
    · by_cases e4 : (n : Int) - L.length = 4
      · have e4' := e4
        simp only [Int.cast_ofNat_Int] at ht
        rw [callL_code g_base_Src_FromOf (by simp)]; simp -implicitDefEqProofs (maxSteps := 4000000) (disch := omega) only [c_base_Src_FromOf, r_base_Src_FromOf, getDT, go_sem, *] /-A7-/
      · have hlt : (4 : Int) < (n : Int) - L.length := by omega
        simp only [Int.cast_ofNat_Int] at ht
        rw [callL_code g_base_Src_FromOf (by simp)]; simp -implicitDefEqProofs (maxSteps := 4000000) (disch := omega) only [c_base_Src_FromOf, r_base_Src_FromOf, getDT, go_sem, *] /-A8-/
theorem shard_ex (l : List Int) (a : Nat) (hL : l.length ≤ 4000) : ∃ x a', SG x ∧ callL G N_base_Src_Shard [.ref 1000000 0 0] [(1000000, srcO l a)] = some (.d (eShard x), [(1000000, srcO l a')]) := by
  obtain ⟨lo, hi, a1, h2, h3, h4, hs⟩ := span_ex l a hL
  have q1 := range_ok l a1 1 12 hL (by omega) (by omega) (by omega) (by omega)
  have b1 := nD_in l a1 (n := 12 - 1 + 1) (by omega)
  obtain ⟨n, hn⟩ : ∃ n : Nat, 1 + nD l a1 (12 - 1 + 1) = n := ⟨(1 + nD l a1 (12 - 1 + 1)).toNat, by omega⟩
  rw [hn] at q1
  have hn1 : 1 ≤ n ∧ n ≤ 12 := by omega
  clear b1 hn
  generalize (rawD l a1).2 = a2 at *
  obtain ⟨x, a3, hx, hf⟩ := fromof_ex l a2 n lo hi hL h2 h3 h4 hn1.1 hn1.2
  refine ⟨x, a3, hx, ?_⟩
  clear hx
  simp only [eShard] at hf ⊢
  have hfrom : callL G N_base_Src_From [.ref 1000000 0 0, .d (.int .i64 1), .d (.int .i64 lo), .d (.int .i64 hi)] [(1000000, srcO l a1)] = some (.d (eShard x), [(1000000, srcO l a3)]) := by
    simp only [eShard]
    rw [callL_code g_base_Src_From (by simp)]; simp -implicitDefEqProofs (maxSteps := 4000000) (disch := omega) only [c_base_Src_From, r_base_Src_From, getDT, go_sem, *] /-A9-/
  clear hf q1
  have hbet : callL G N_base_Src_Between [.ref 1000000 0 0, .d (.int .i64 lo), .d (.int .i64 hi)] [(1000000, srcO l a1)] = some (.d (eShard x), [(1000000, srcO l a3)]) := by
    simp only [eShard] at hfrom ⊢
    rw [callL_code g_base_Src_Between (by simp)]; simp -implicitDefEqProofs (maxSteps := 4000000) (disch := omega) only [c_base_Src_Between, r_base_Src_Between, getDT, go_sem, *] /-A10-/
  clear hfrom
  simp only [eShard] at hbet
  rw [callL_code g_base_Src_Shard (by simp)]; simp -implicitDefEqProofs (maxSteps := 4000000) (disch := omega) only [c_base_Src_Shard, r_base_Src_Shard, getDT, go_sem, *] /-A11-/
end Go.Proofs.YtmbnbjkdamalpaaGreat

namespace Go.Proofs.YtmbnbjkdamalpaaGreat
open Go Go.Sim
set_option linter.unusedSimpArgs false
set_option linter.unusedVariables false
set_option maxHeartbeats 10000000
set_option maxRecDepth 40000
def m7S (s : Shard) (l : List Message) (i : Nat) : St := ⟨[(1, .ref 1 0 0), (6, .d (.sl (l.map eMessage))), (7, .d (.int .i64 i))], [(1, .row [.d (eShard s)])]⟩
def m7R (s : Shard) (l : List Message) (i : Nat) : AExit × St := if movE s.low s.high (l.drop i) = true then (.ret, ⟨[(2, .d (.int .i64 12))], []⟩) else (.exit 0, ⟨[(6, .d (.sl (l.map eMessage)))], []⟩)
theorem m7_loop (s : Shard) (l : List Message) (h1 : l.length ≤ 24) : ∀ i, i ≤ l.length → loopL G [] l_ref07_Validate_0 (m7S s l i) = some (m7R s l i) := by
  refine loop_ind (fun i => l.length - i) (fun i => i ≤ l.length) (m7S s l) (fun i => some (m7R s l i)) fun i hi L ih => ?_
  by_cases h0 : i < l.length
  · have i1 := ih (i + 1) (by omega) (by omega)
    clear ih
    unfold m7R at i1 ⊢
    rw [movE_drop _ _ h0]
    unfold m7S at i1
    generalize movE s.low s.high (l.drop (i + 1)) = fe at *
    simp only [m7S, eShard, l_ref07_Validate_0] at i1 ⊢
    simp only [Int.natCast_add, Int.natCast_one, Int.natCast_zero, Int.natCast_mul, Int.cast_ofNat_Int, List.length_append, List.length_map, List.map_nil, List.length_nil, List.map_append, List.map_cons, List.length_cons, Nat.zero_add, srcO, mapSet] at i1
    by_cases hv : s.low ≤ l[i].route ∧ l[i].route ≤ s.high
    · simp only [hv, not_true_eq_false, and_self, decide_false, Bool.false_or]
      simp -implicitDefEqProofs (maxSteps := 4000000) (disch := omega) only [eMessage, getDT, go_sem, *] /-A0-/
    · simp only [hv, not_false_eq_true, decide_true, Bool.true_or, if_true]
      clear i1
      (try simp -implicitDefEqProofs (maxSteps := 4000000) (disch := omega) only [eMessage, getDT, go_sem, *]); (try simp only [pA, pB, pC, pD, pE, pF, pG, pH, pI, pJ, pK, pL, pM, pN, pO, pP, if_true, if_false]); repeat' (first | done | rfl | ((first | refine iteC (fun hq => ?_) (fun hq => ?_) | refine iteP (fun hq => ?_) (fun hq => ?_)) <;> (try (first | (exfalso; omega) | contradiction)) <;> (try simp -implicitDefEqProofs (maxSteps := 4000000) (disch := omega) only [eMessage, getDT, go_sem, *]) <;> (try simp only [pA, pB, pC, pD, pE, pF, pG, pH, pI, pJ, pK, pL, pM, pN, pO, pP, if_true, if_false]))); (all_goals try rfl); (all_goals try (repeat' (first | done | rfl | (exfalso; omega) | contradiction | (refine iteR (fun hq => ?_) (fun hq => ?_))))) /-A1-/
  · clear ih
    have : i = l.length := by omega
    subst this
    unfold m7R
    rw [List.drop_length]
    simp only [m7S, movE, List.any_nil, Bool.false_eq_true, if_false, l_ref07_Validate_0, eShard]
    simp -implicitDefEqProofs (maxSteps := 4000000) (disch := omega) only [getDT, go_sem, *] /-A2-/
def d7S (l : List Message) (i : Nat) : St := ⟨[(6, .d (.sl (l.map eMessage))), (8, .d (.int .i64 i))], []⟩
def d7R (l : List Message) (i : Nat) : AExit × St := if lateF l i = true then (.ret, ⟨[(2, .d (.int .i64 10))], []⟩) else (.exit 2, ⟨[], []⟩)
theorem dup7_loop (l : List Message) (h1 : l.length ≤ 24) : ∀ i, i ≤ l.length → loopL G [] l_ref07_Validate_1 (d7S l i) = some (d7R l i) := by
  refine loop_ind (fun i => l.length - i) (fun i => i ≤ l.length) (d7S l) (fun i => some (d7R l i)) fun i hi L ih => ?_
  by_cases h0 : i < l.length
  · have i1 := ih (i + 1) (by omega) (by omega)
    clear ih
    have hx := idx3_ok l l[i].id (by omega)
    unfold d7R at i1 ⊢
    rw [lateF_step _ h0]
    unfold d7S at i1
    generalize lateF l (i + 1) = fe at *
    simp only [d7S, l_ref07_Validate_1]
    simp only [Int.natCast_add, Int.natCast_one, Int.natCast_zero, Int.natCast_mul, Int.cast_ofNat_Int, List.length_append, List.length_map, List.map_nil, List.length_nil, List.map_append, List.map_cons, List.length_cons, Nat.zero_add, srcO, mapSet] at i1
    generalize fstI l l[i].id = q at *
    by_cases hv : q = i
    · subst hv
      simp only [ne_eq, not_true_eq_false, decide_false, Bool.false_or]
      simp -implicitDefEqProofs (maxSteps := 4000000) (disch := omega) only [eMessage, getDT, go_sem, *] /-A3-/
    · simp only [ne_eq, hv, not_false_eq_true, decide_true, Bool.true_or, if_true]
      clear i1
      simp -implicitDefEqProofs (maxSteps := 4000000) (disch := omega) only [eMessage, getDT, go_sem, *] /-A4-/
  · clear ih
    unfold d7R
    rw [lateF_end _ h0]
    simp only [d7S, l_ref07_Validate_1, Bool.false_eq_true, if_false]
    simp -implicitDefEqProofs (maxSteps := 4000000) (disch := omega) only [getDT, go_sem, *] /-A5-/
theorem r07val_ok (s : Shard) (h1 : s.ready.cells.length ≤ 4294967296) (h2 : s.leases.l.length ≤ 4294967296) (h3 : s.leases.heap.length ≤ 4294967296) : callL G N_ref07_Validate [.d (eShard s)] [] = some (.d (.int .i64 (shardV s)), []) := by
  have hv := r04val_ok s.ready h1
  have ht := r06val_ok s.leases h2 h3
  rw [tab_same] at ht
  by_cases e1 : ringV s.ready = 0
  · by_cases e2 : tabV s.leases = 0
    · rw [shardV_rest e1 e2]
      rw [e1] at hv
      rw [e2] at ht
      have hl := tl_len e2
      obtain ⟨a1, a2, a3, a4, a5, a6⟩ := ringV_zero e1
      have hsp := span7_ok s.low s.high
      have hm := all7_ok e1 hl
      have hml := shMsgs_len e1 hl
      have hlp := m7_loop s (shMsgs s) hml 0 (by omega)
      have hdp := dup7_loop (shMsgs s) hml 0 (by omega)
      unfold m7R at hlp
      unfold d7R at hdp
      rw [lateF_dup] at hdp
      simp only [m7S, List.drop_zero] at hlp
      simp only [d7S] at hdp
      generalize movE s.low s.high (shMsgs s) = b1 at *
      generalize dupI ((shMsgs s).map (·.id)) = b2 at *
      generalize shMsgs s = w at *
      clear e1 e2
      obtain ⟨lv, lo, hi, ⟨c, h, z⟩, ⟨tl, th⟩⟩ := s
      simp only [eShard, eRing, eTable] at hv ht hsp hm hlp a1 a2 a3 a4 a5 a6 hl h1 h2 h3 ⊢
      simp only [Int.natCast_add, Int.natCast_one, Int.natCast_zero, Int.natCast_mul, Int.cast_ofNat_Int, List.length_append, List.length_map, List.map_nil, List.length_nil, List.map_append, List.map_cons, List.length_cons, Nat.zero_add, srcO, mapSet] at hlp hdp
      cases lv with
      | false =>
        simp only [if_true]
        by_cases c1 : lo ≠ 0 ∨ hi ≠ 0 ∨ 0 < z + tl.length
        · rw [if_pos c1]
          rw [callL_code g_ref07_Validate (by simp)]; simp -implicitDefEqProofs (maxSteps := 4000000) (disch := omega) only [c_ref07_Validate, r_ref07_Validate, getDT, go_sem, *]; (try simp only [pA, pB, pC, pD, pE, pF, pG, pH, pI, pJ, pK, pL, pM, pN, pO, pP, if_true, if_false]); repeat' (first | done | rfl | ((first | refine iteC (fun hq => ?_) (fun hq => ?_) | refine iteP (fun hq => ?_) (fun hq => ?_)) <;> (try (first | (exfalso; omega) | contradiction)) <;> (try simp -implicitDefEqProofs (maxSteps := 4000000) (disch := omega) only [getDT, go_sem, *]) <;> (try simp only [pA, pB, pC, pD, pE, pF, pG, pH, pI, pJ, pK, pL, pM, pN, pO, pP, if_true, if_false]))); (all_goals try rfl); (all_goals try (repeat' (first | done | rfl | (exfalso; omega) | contradiction | (refine iteR (fun hq => ?_) (fun hq => ?_))))) /-A6-/
        · rw [if_neg c1]
          rw [callL_code g_ref07_Validate (by simp)]; simp -implicitDefEqProofs (maxSteps := 4000000) (disch := omega) only [c_ref07_Validate, r_ref07_Validate, getDT, go_sem, *] /-A7-/
      | true =>
        simp only [Bool.true_eq_false, if_false]
        by_cases c1 : 0 ≤ lo ∧ lo ≤ hi ∧ hi < 65536
        · rw [decide_eq_true c1] at hsp
          rw [if_neg (fun hc => hc c1)]
          by_cases c2 : (c.length : Int) < z + tl.length
          · rw [if_pos c2]
            rw [callL_code g_ref07_Validate (by simp)]; simp -implicitDefEqProofs (maxSteps := 4000000) (disch := omega) only [c_ref07_Validate, r_ref07_Validate, getDT, go_sem, *] /-A8-/
          · rw [if_neg c2]
            cases b1
            · cases b2
              · simp only [Bool.false_eq_true, if_false] at hlp hdp ⊢
                rw [callL_code g_ref07_Validate (by simp)]; simp -implicitDefEqProofs (maxSteps := 4000000) (disch := omega) only [c_ref07_Validate, r_ref07_Validate, getDT, go_sem, *] /-A9-/
              · simp only [Bool.false_eq_true, if_false, if_true] at hlp hdp ⊢
                rw [callL_code g_ref07_Validate (by simp)]; simp -implicitDefEqProofs (maxSteps := 4000000) (disch := omega) only [c_ref07_Validate, r_ref07_Validate, getDT, go_sem, *] /-A10-/
            · simp only [if_true] at hlp ⊢
              rw [callL_code g_ref07_Validate (by simp)]; simp -implicitDefEqProofs (maxSteps := 4000000) (disch := omega) only [c_ref07_Validate, r_ref07_Validate, getDT, go_sem, *] /-A11-/
        · rw [decide_eq_false c1] at hsp
          rw [if_pos c1]
          rw [callL_code g_ref07_Validate (by simp)]; simp -implicitDefEqProofs (maxSteps := 4000000) (disch := omega) only [c_ref07_Validate, r_ref07_Validate, getDT, go_sem, *] /-A12-/
    · unfold shardV
      rw [if_neg (fun hc => hc e1), if_pos e2]
      rw [e1] at hv
      generalize tabV s.leases = v at *
      obtain ⟨lv, lo, hi, ⟨c, h, z⟩, ⟨tl, th⟩⟩ := s
      simp only [eShard, eRing, eTable] at hv ht h1 h2 h3 ⊢
      rw [callL_code g_ref07_Validate (by simp)]; simp -implicitDefEqProofs (maxSteps := 4000000) (disch := omega) only [c_ref07_Validate, r_ref07_Validate, getDT, go_sem, *] /-A13-/
  · unfold shardV
    rw [if_pos e1]
    clear ht
    generalize ringV s.ready = v at *
    obtain ⟨lv, lo, hi, ⟨c, h, z⟩, ⟨tl, th⟩⟩ := s
    simp only [eShard, eRing] at hv h1 h2 h3 ⊢
    rw [callL_code g_ref07_Validate (by simp)]; simp -implicitDefEqProofs (maxSteps := 4000000) (disch := omega) only [c_ref07_Validate, r_ref07_Validate, getDT, go_sem, *] /-A14-/
end Go.Proofs.YtmbnbjkdamalpaaGreat
