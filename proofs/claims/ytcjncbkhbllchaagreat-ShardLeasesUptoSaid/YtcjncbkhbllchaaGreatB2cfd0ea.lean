/-
  Valid live shards, told plainly.
  Valid live shards: a message is delivered.
  Valid live shards: what is delivered.
  Valid live shards: what Take gives.
  Valid live shards: a lease.
  Valid live shards: a message is put back.
  Valid live shards: a lease is settled.
  What each lease that Take gives must meet.
  The loop of ShardLeases.
  What Take of a valid shard gives, for the law.
  The law Leases of shards (awake given).
  Shards: room, has (before the layer).
  Shards at the layered table: put, Put, New.
  awake of the shard laws, at the layered table.
  The law Leases of shards.
-/
import Derived.Test.YtcjncbkhbllchaaGreatB9a7a529
import Derived.Test.YtcjncbkhbllchaaGreatBe059124
import Derived.Test.YtcjncbkhbllchaaGreatBd8aa22c
import Derived.Test.YtcjncbkhbllchaaGreatB10b2fe7
set_option linter.unusedSimpArgs false
set_option linter.unusedVariables false
namespace Go.Proofs.YtcjncbkhbllchaaGreat.L
open Go Go.Sim
set_option linter.unusedSimpArgs false
set_option linter.unusedVariables false
set_option maxHeartbeats 10000000
set_option maxRecDepth 40000
def VS (n h : Nat) (L : List Message) (t : Table) (lo hi : Int) : Prop := 1 ≤ n ∧ n ≤ 12 ∧ h < n ∧ L.length + t.l.length ≤ n ∧ 0 ≤ lo ∧ lo ≤ hi ∧ hi < 65536 ∧ (∀ m ∈ L, msgV m = 0 ∧ lo ≤ m.route ∧ m.route ≤ hi) ∧ tabV t = 0 ∧ (∀ y ∈ t.l, lo ≤ y.msg.route ∧ y.msg.route ≤ hi) ∧ (L.map (·.id) ++ t.l.map (fun y => y.msg.id)).Nodup
def mkS (n h : Nat) (L : List Message) (t : Table) (lo hi : Int) : Shard := ⟨true, lo, hi, rg n h L, t⟩
theorem VS.ring {n h : Nat} {L : List Message} {t : Table} {lo hi : Int} (v : VS n h L t lo hi) : ringV (rg n h L) = 0 := by
  obtain ⟨a1, a2, a3, a4, _, _, _, b, _, _, c⟩ := v
  exact ringV_rg a1 a2 a3 (by omega) (fun m hm => (b m hm).1) (List.nodup_append.1 c).1
theorem VS.ord {n h : Nat} {L : List Message} {t : Table} {lo hi : Int} (v : VS n h L t lo hi) : ordD (rg n h L) = L := by
  obtain ⟨a1, a2, a3, a4, _⟩ := v
  rw [rg, ordD_eq]; exact ordN_rg a1 (by omega)
theorem VS.val {n h : Nat} {L : List Message} {t : Table} {lo hi : Int} (v : VS n h L t lo hi) : shardV (mkS n h L t lo hi) = 0 := by
  have hr : ringV (mkS n h L t lo hi).ready = 0 := v.ring
  have hm : shMsgs (mkS n h L t lo hi) = L ++ t.l.map (·.msg) := by unfold shMsgs mkS; rw [v.ord]
  obtain ⟨a1, a2, a3, a4, a5, a6, a7, b1, b2, b3, c⟩ := v
  rw [shardV_rest hr b2, hm]
  rw [if_neg (by simp [mkS]), if_neg (by simp only [mkS]; omega), if_neg, if_neg, if_neg]
  · unfold dupI
    simp only [decide_eq_true_eq, Classical.not_not, List.map_append, List.map_map]
    exact c
  · unfold movE
    simp only [Bool.not_eq_true, List.any_eq_false, decide_eq_true_eq, Classical.not_not, List.mem_append, List.mem_map]
    rintro m (hx | ⟨y, hy, rfl⟩)
    · exact (b1 m hx).2
    · exact b3 y hy
  · simp only [mkS, rg, wN_len]; omega
theorem vs_of {s : Shard} (hv : shardV s = 0) (hl : s.live = true) : ∃ n h : Nat, s = mkS n h (ordD s.ready) s.leases s.low s.high ∧ VS n h (ordD s.ready) s.leases s.low s.high := by
  have h1 : ringV s.ready = 0 := by
    have q := hv
    unfold shardV at q
    split at q
    · rename_i c; exact absurd q c
    · rename_i c; exact Classical.not_not.1 c
  have h2 : tabV s.leases = 0 := by
    have q := hv
    unfold shardV at q
    rw [if_neg (fun c => c h1)] at q
    split at q
    · rename_i c; exact absurd q c
    · rename_i c; exact Classical.not_not.1 c
  rw [shardV_rest h1 h2, if_neg (by rw [hl]; simp)] at hv
  split at hv
  · cases hv
  rename_i c1
  split at hv
  · cases hv
  rename_i c2
  split at hv
  · cases hv
  rename_i c3
  split at hv
  · cases hv
  rename_i c4
  obtain ⟨n, h, hrg, d1, d2, d3, d4, d5, d6⟩ := rg_of h1
  have hc : s.ready.cells.length = n := by rw [hrg]; exact wN_len _ _ _ _
  have hz : s.ready.size = ((ordD s.ready).length : Int) := by rw [ordD_len]; have := congrArg Ring.size hrg; simp only [rg] at this; omega
  have c1 := Classical.not_not.1 c1
  refine ⟨n, h, ?_, d1, d2, d3, by omega, c1.1, c1.2.1, c1.2.2, ?_, h2, ?_, ?_⟩
  · obtain ⟨lv, lo, hi, r, t⟩ := s
    simp only at hl hrg
    subst hl
    show _ = Shard.mk true lo hi _ t
    congr 1
  · intro m hm
    refine ⟨d5 m hm, ?_⟩
    unfold movE at c3
    simp only [Bool.not_eq_true, List.any_eq_false, decide_eq_true_eq, Classical.not_not, shMsgs, List.mem_append, List.mem_map] at c3
    exact c3 m (.inl hm)
  · intro y hy
    unfold movE at c3
    simp only [Bool.not_eq_true, List.any_eq_false, decide_eq_true_eq, Classical.not_not, shMsgs, List.mem_append, List.mem_map] at c3
    exact c3 y.msg (.inr ⟨y, hy, rfl⟩)
  · unfold dupI shMsgs at c4
    simp only [decide_eq_true_eq, Classical.not_not, List.map_append, List.map_map] at c4
    exact c4
end Go.Proofs.YtcjncbkhbllchaaGreat.L

namespace Go.Proofs.YtcjncbkhbllchaaGreat.L
open Go Go.Sim
set_option linter.unusedSimpArgs false
set_option linter.unusedVariables false
set_option maxHeartbeats 10000000
set_option maxRecDepth 40000
theorem rg_cells (n h : Nat) (L : List Message) : (rg n h L).cells.length = n := wN_len _ _ _ _
theorem fstI_mem {l : List Message} {id : Int} (h : ∃ m ∈ l, m.id = id) : 0 ≤ fstI l id := by
  unfold fstI idxI
  cases hc : l.findIdx? (fun m : Message => decide (m.id = id)) with
  | some i => simp
  | none =>
    obtain ⟨m, hm, e⟩ := h
    have := (List.findIdx?_eq_none_iff.1 hc) m hm
    simp [e] at this
theorem fstI_id {l : List Message} {id : Int} (h : 0 ≤ fstI l id) : (l.getD (fstI l id).toNat zMessage).id = id := by
  unfold fstI idxI at h ⊢
  cases hc : l.findIdx? (fun m : Message => decide (m.id = id)) with
  | none => rw [hc] at h; simp at h
  | some i =>
    obtain ⟨hi, hp, _⟩ := List.findIdx?_eq_some_iff_getElem.1 hc
    simp only [Int.toNat_natCast]
    rw [List.getD_eq_getElem?_getD, List.getElem?_eq_getElem hi]
    exact of_decide_eq_true hp
theorem nodup_id {l : List Message} (h : (l.map (·.id)).Nodup) {a b : Message} (ha : a ∈ l) (hb : b ∈ l) (e : a.id = b.id) : a = b := by
  induction l with
  | nil => cases ha
  | cons x l ih =>
    simp only [List.map_cons, List.nodup_cons, List.mem_map, not_exists, not_and] at h
    cases ha with
    | head =>
      cases hb with
      | head => rfl
      | tail _ hb => exact absurd e.symm (h.1 b hb)
    | tail _ ha =>
      cases hb with
      | head => exact absurd e (h.1 a ha)
      | tail _ hb => exact ih h.2 ha hb
theorem VS.rem {n h : Nat} {L : List Message} {t : Table} {lo hi : Int} (v : VS n h L t lo hi) {m : Message} (hm : m ∈ L) : ∃ k, ∃ hk : k < L.length, L[k] = m ∧ rmD (rg n h L) m.id = (rg n h (L.eraseIdx k), m, 0) := by
  have h0 : 0 ≤ fstI L m.id := fstI_mem ⟨m, hm, rfl⟩
  have hk := fstI_lt h0
  have hid := fstI_id h0
  have e : L.getD (fstI L m.id).toNat zMessage = m := by
    refine nodup_id (List.nodup_append.1 v.2.2.2.2.2.2.2.2.2.2).1 ?_ hm hid
    rw [List.getD_eq_getElem?_getD, List.getElem?_eq_getElem hk]; exact List.getElem_mem hk
  refine ⟨_, hk, ?_, ?_⟩
  · exact (getD_at hk).trans e
  · have hE : rmE (rg n h L) m.id = 0 := by
      unfold rmE
      rw [if_neg (fun q => q v.ring), v.ord, if_neg (by omega)]
    unfold rmD
    rw [if_pos hE, v.ord, rg_cells, e]
    rfl
theorem del_ok {m : Message} (h : msgV m = 0) (h1 : m.gen < 65536) (h2 : m.count < 8) : delM m = ({ m with count := m.count + 1, gen := m.gen + 1 }, 0) := by
  unfold delM
  rw [if_neg (fun q => q h), if_neg (by omega), if_neg (by omega)]
theorem msgV_iff (m : Message) : msgV m = 0 ↔ (1 ≤ m.id ∧ m.id ≤ 1073741824 ∧ 0 ≤ m.route ∧ m.route ≤ 65535 ∧ 0 ≤ m.epoch ∧ m.epoch ≤ 65536 ∧ 0 ≤ m.count ∧ m.count ≤ 8 ∧ m.count ≤ m.gen ∧ m.gen ≤ 65536 ∧ 0 ≤ m.sent ∧ m.sent ≤ 1073741824) ∧ m.body.length ≤ 16 := by
  unfold msgV
  split
  · rename_i c
    split
    · rename_i c2; exact ⟨(fun q => by cases q), (fun q => by omega)⟩
    · rename_i c2; exact ⟨fun _ => ⟨c, by omega⟩, fun _ => rfl⟩
  · rename_i c; exact ⟨(fun q => by cases q), (fun q => absurd q.1 c)⟩
end Go.Proofs.YtcjncbkhbllchaaGreat.L

namespace Go.Proofs.YtcjncbkhbllchaaGreat.L
open Go Go.Sim
set_option linter.unusedSimpArgs false
set_option linter.unusedVariables false
set_option maxHeartbeats 10000000
set_option maxRecDepth 40000
theorem erase_perm {α : Type} (l : List α) (k : Nat) (hk : k < l.length) : (l[k] :: l.eraseIdx k).Perm l := by
  rw [List.eraseIdx_eq_take_drop_succ]
  have e : l = l.take k ++ l[k] :: l.drop (k + 1) := by
    rw [← List.drop_eq_getElem_cons hk, List.take_append_drop]
  have := (List.perm_middle (a := l[k]) (l₁ := l.take k) (l₂ := l.drop (k + 1))).symm
  rw [← e] at this
  exact this
def upM (m : Message) : Message := { m with count := m.count + 1, gen := m.gen + 1 }
theorem rcv_iff (ep lim : Int) (m : Message) : rcvQ ep lim m = true ↔ ep ≤ m.epoch ∧ m.count < lim ∧ m.gen < 65536 := by
  unfold rcvQ
  simp only [Bool.and_eq_true, Bool.not_eq_true', decide_eq_false_iff_not, decide_eq_true_eq]
  omega
theorem VS.dlv {n h : Nat} {L : List Message} {t : Table} {lo hi : Int} (v : VS n h L t lo hi) {m : Message} (hm : m ∈ L) {ep lim d : Int} (hq : rcvQ ep lim m = true) (hlim : lim ≤ 8) (hd0 : 0 ≤ d) (hd1 : d ≤ 1073741824) :
    ∃ k, ∃ hk : k < L.length, L[k] = m ∧ dlvD (mkS n h L t lo hi) m d = (mkS n h (L.eraseIdx k) (grantD t (upM m) d).1 lo hi, ⟨upM m, d⟩, 0) ∧ (grantD t (upM m) d).1.l = insL t.l (upM m) d ∧ VS n h (L.eraseIdx k) (grantD t (upM m) d).1 lo hi := by
  obtain ⟨k, hk, ek, hr⟩ := v.rem hm
  obtain ⟨q1, q2, q3⟩ := (rcv_iff ep lim m).1 hq
  obtain ⟨a1, a2, a3, a4, a5, a6, a7, b1, b2, b3, c⟩ := v
  obtain ⟨mv, mr1, mr2⟩ := b1 m hm
  have hdel := del_ok mv q3 (by omega)
  have mv2 := (msgV_iff m).1 mv
  have hu : msgV (upM m) = 0 := by
    rw [msgV_iff]
    simp only [upM]
    omega
  have hnf : findL t.l (upM m).id < 0 := by
    refine Classical.byContradiction fun hc => ?_
    obtain ⟨x, hx, e⟩ := (findL_iff (l := t.l) (upM m).id).1 (by omega)
    refine (List.nodup_append.1 c).2.2 m.id (List.mem_map.2 ⟨m, hm, rfl⟩) x.msg.id (List.mem_map.2 ⟨x, hx, rfl⟩) ?_
    exact e.symm
  have hg := grant_iff b2 hu (by simp only [upM]; omega) hd0 hd1 (by omega) hnf
  obtain ⟨g1, _, g2, _⟩ := grant_valid hg
  refine ⟨k, hk, ek, ?_, g2, a1, a2, a3, ?_, a5, a6, a7, fun x hx => b1 x (List.mem_of_mem_eraseIdx hx), g1, ?_, ?_⟩
  · unfold dlvD
    have r1 : (rmD (mkS n h L t lo hi).ready m.id) = (rg n h (L.eraseIdx k), m, 0) := hr
    have d1 : delM m = (upM m, 0) := hdel
    have hg2 : (grantD (mkS n h L t lo hi).leases (upM m) d).2 = 0 := hg
    rw [r1]
    simp only [d1, hg2, ne_eq, not_true_eq_false, if_false]
    rfl
  · rw [g2, List.length_eraseIdx, if_pos hk, (insL_perm t.l (upM m) d).length_eq, List.length_cons]; omega
  · intro y hy
    rw [g2] at hy
    rcases List.mem_cons.1 ((insL_perm t.l (upM m) d).mem_iff.1 hy) with rfl | hy
    · exact ⟨mr1, mr2⟩
    · exact b3 y hy
  · rw [g2]
    have p1 : ((insL t.l (upM m) d).map fun y => y.msg.id).Perm (m.id :: t.l.map fun y => y.msg.id) := (insL_perm t.l (upM m) d).map _
    have p2 : (m.id :: (L.eraseIdx k).map (·.id)).Perm (L.map (·.id)) := by
      have := (erase_perm L k hk).map (·.id)
      rw [ek] at this
      exact this
    have p3 : ((L.eraseIdx k).map (·.id) ++ (insL t.l (upM m) d).map fun y => y.msg.id).Perm (L.map (·.id) ++ t.l.map fun y => y.msg.id) :=
      (p1.append_left _).trans (List.perm_middle.trans (p2.append_right _))
    exact p3.nodup_iff.2 c
end Go.Proofs.YtcjncbkhbllchaaGreat.L

namespace Go.Proofs.YtcjncbkhbllchaaGreat.L
open Go Go.Sim
set_option linter.unusedSimpArgs false
set_option linter.unusedVariables false
set_option maxHeartbeats 10000000
set_option maxRecDepth 40000
def idsS (L : List Message) (t : Table) : List Int := L.map (·.id) ++ t.l.map (fun y => y.msg.id)
theorem insL_mem {l : List Lease} {m : Message} {d : Int} {y : Lease} : y ∈ insL l m d ↔ y = ⟨m, d⟩ ∨ y ∈ l := by
  rw [(insL_perm l m d).mem_iff, List.mem_cons]
theorem VS.take {n h : Nat} {lo hi mx d ep lim : Int} (hlim : lim ≤ 8) (hd0 : 0 ≤ d) (hd1 : d ≤ 1073741824) : ∀ (l L : List Message) (t : Table) (out : List Lease), VS n h L t lo hi → (∀ m ∈ l, m ∈ L) → (l.map (·.id)).Nodup →
    ∃ L' t' out', tkF mx d ep lim l (mkS n h L t lo hi) out = (mkS n h L' t' lo hi, out ++ out', 0) ∧ VS n h L' t' lo hi ∧ (idsS L' t').Perm (idsS L t) ∧
      (∀ y ∈ out', y.deadline = d ∧ y ∈ t'.l ∧ ∃ m ∈ L, y.msg = upM m ∧ rcvQ ep lim m = true) ∧ (∀ y ∈ t.l, y ∈ t'.l) := by
  intro l
  induction l with
  | nil => intro L t out v _ _; exact ⟨L, t, [], by simp [tkF], v, List.Perm.refl _, by simp, fun y hy => hy⟩
  | cons m l ih =>
    intro L t out v hl hn
    simp only [List.map_cons, List.nodup_cons] at hn
    rw [tkF]
    by_cases c : (out.length : Int) = mx ∨ rcvQ ep lim m = false
    · rw [if_pos c]
      exact ih L t out v (fun x hx => hl x (.tail _ hx)) hn.2
    · rw [if_neg c]
      have hq : rcvQ ep lim m = true := by
        cases hq : rcvQ ep lim m with
        | true => rfl
        | false => exact absurd (.inr hq) c
      have hm := hl m (.head _)
      obtain ⟨k, hk, ek, e1, e2, v2⟩ := v.dlv hm hq hlim hd0 hd1
      have hp := erase_perm L k hk
      rw [ek] at hp
      have hl2 : ∀ x ∈ l, x ∈ L.eraseIdx k := by
        intro x hx
        rcases List.mem_cons.1 (hp.mem_iff.2 (hl x (.tail _ hx))) with rfl | hx2
        · exact absurd (List.mem_map.2 ⟨x, hx, rfl⟩) hn.1
        · exact hx2
      obtain ⟨L', t', out', r1, r2, r3, r4, r5⟩ := ih (L.eraseIdx k) (grantD t (upM m) d).1 (out ++ [⟨upM m, d⟩]) v2 hl2 hn.2
      rw [e1]
      simp only [ne_eq, not_true_eq_false, if_false]
      refine ⟨L', t', ⟨upM m, d⟩ :: out', by rw [r1]; simp, r2, ?_, ?_, ?_⟩
      · refine r3.trans ?_
        unfold idsS
        rw [e2]
        have p1 : ((insL t.l (upM m) d).map fun y => y.msg.id).Perm (m.id :: t.l.map fun y => y.msg.id) := (insL_perm t.l (upM m) d).map _
        have p2 : (m.id :: (L.eraseIdx k).map (·.id)).Perm (L.map (·.id)) := by have := hp.map (fun x : Message => x.id); exact this
        exact (p1.append_left _).trans (List.perm_middle.trans (p2.append_right _))
      · intro y hy
        rcases List.mem_cons.1 hy with rfl | hy
        · exact ⟨rfl, r5 _ (by rw [e2]; exact insL_mem.2 (.inl rfl)), m, hm, rfl, hq⟩
        · obtain ⟨s1, s2, m2, s3, s4⟩ := r4 y hy
          exact ⟨s1, s2, m2, List.mem_of_mem_eraseIdx s3, s4⟩
      · intro y hy
        exact r5 y (by rw [e2]; exact insL_mem.2 (.inr hy))
end Go.Proofs.YtcjncbkhbllchaaGreat.L

namespace Go.Proofs.YtcjncbkhbllchaaGreat.L
open Go Go.Sim
set_option linter.unusedSimpArgs false
set_option linter.unusedVariables false
set_option maxHeartbeats 10000000
set_option maxRecDepth 40000
theorem find_at {t : Table} (h : tabV t = 0) {y : Lease} (hy : y ∈ t.l) : findT t y.msg.id = (y, true) := by
  have h0 : 0 ≤ findL t.l y.msg.id := (findL_iff (l := t.l) y.msg.id).2 ⟨y, hy, rfl⟩
  have ha := leases_asc (tabV_zero h).2.1
  obtain ⟨hp, e⟩ := (findL_pos ha y.msg.id).1 h0
  have e2 := findL_posL ha h0
  unfold findT
  rw [if_pos ⟨h, h0⟩, e2, Int.toNat_natCast]
  have e3 : t.l[posL t.l y.msg.id] = y := by
    obtain ⟨j, hj, rfl⟩ := List.mem_iff_getElem.1 hy
    have hpw := List.pairwise_iff_getElem.1 ha
    rcases Nat.lt_trichotomy (posL t.l t.l[j].msg.id) j with c | c | c
    · have := hpw _ _ hp hj c; omega
    · congr 1
    · have := hpw _ _ hj hp c; omega
  rw [List.getD_eq_getElem?_getD, List.getElem?_eq_getElem hp]
  simp only [Option.getD_some, e3]
theorem find_not {t : Table} {id : Int} (h : ∀ y ∈ t.l, y.msg.id ≠ id) : (findT t id).2 = false := by
  unfold findT
  rw [if_neg]
  rintro ⟨_, h0⟩
  obtain ⟨y, hy, e⟩ := (findL_iff (l := t.l) id).1 h0
  exact h y hy e
theorem holds_at {s : Shard} (ht : tabV s.leases = 0) {y : Lease} (hy : y ∈ s.leases.l) (h : Handle) (hid : h.id = y.msg.id) (now ep : Int) : holdsB s h now ep = (decide (y.msg.gen = h.gen) && (decide (y.msg.route = h.route) && (!decide (y.msg.epoch < ep) && decide (now < y.deadline)))) := by
  unfold holdsB
  rw [hid, find_at ht hy, Bool.true_and]
theorem holds_not {s : Shard} (h : Handle) (hn : ∀ y ∈ s.leases.l, y.msg.id ≠ h.id) (now ep : Int) : holdsB s h now ep = false := by
  unfold holdsB
  rw [find_not hn, Bool.false_and]
theorem VS.rel {n h : Nat} {L : List Message} {t : Table} {lo hi : Int} (v : VS n h L t lo hi) {y : Lease} (hy : y ∈ t.l) : ∃ t', relS (mkS n h L t lo hi) y.msg.id = (mkS n h L t' lo hi, y.msg, 0) ∧ VS n h L t' lo hi ∧ (y :: t'.l).Perm t.l := by
  obtain ⟨a1, a2, a3, a4, a5, a6, a7, b1, b2, b3, c⟩ := v
  have h0 : 0 ≤ findL t.l y.msg.id := (findL_iff (l := t.l) y.msg.id).2 ⟨y, hy, rfl⟩
  have hr := (rel_iff (id := y.msg.id) b2).2 h0
  obtain ⟨r1, _, k, hk, e1, e2, e3, e4⟩ := rel_valid hr
  have ey : t.l[k] = y := by
    have ha := leases_asc (tabV_zero b2).2.1
    obtain ⟨j, hj, rfl⟩ := List.mem_iff_getElem.1 hy
    have hpw := List.pairwise_iff_getElem.1 ha
    rcases Nat.lt_trichotomy k j with c | c | c
    · have := hpw _ _ hk hj c; omega
    · congr 1
    · have := hpw _ _ hj hk c; omega
  have hp : (y :: (relD t y.msg.id).1.l).Perm t.l := by
    rw [e3, dropI_eq, ← ey]; exact erase_perm t.l k hk
  refine ⟨(relD t y.msg.id).1, ?_, ⟨a1, a2, a3, ?_, a5, a6, a7, b1, r1, fun x hx => b3 x (hp.mem_iff.1 (.tail _ hx)), ?_⟩, hp⟩
  · unfold relS
    rw [if_pos (show (relD (mkS n h L t lo hi).leases y.msg.id).2.2 = 0 from hr)]
    show (_, (relD t y.msg.id).2.1, _) = _
    rw [e4, ey]; rfl
  · have := hp.length_eq; simp only [List.length_cons] at this; omega
  · have p : (L.map (·.id) ++ (y.msg.id :: (relD t y.msg.id).1.l.map fun x => x.msg.id)).Perm (L.map (·.id) ++ t.l.map fun x => x.msg.id) := (hp.map (fun x : Lease => x.msg.id)).append_left _
    have q := List.perm_middle.nodup_iff.1 (p.nodup_iff.2 c)
    exact (List.nodup_cons.1 q).2
end Go.Proofs.YtcjncbkhbllchaaGreat.L

namespace Go.Proofs.YtcjncbkhbllchaaGreat.L
open Go Go.Sim
set_option linter.unusedSimpArgs false
set_option linter.unusedVariables false
set_option maxHeartbeats 10000000
set_option maxRecDepth 40000
theorem VS.back {n h : Nat} {L : List Message} {t : Table} {lo hi : Int} (v : VS n h L t lo hi) {m : Message} (hm : msgV m = 0) (hr : lo ≤ m.route ∧ m.route ≤ hi) (hl : L.length + t.l.length < n) (hid : m.id ∉ idsS L t) (lim : Int) :
    ∃ h' L', backD (mkS n h L t lo hi) m lim = (rg n h' L', 0) ∧ VS n h' L' t lo hi ∧ L'.length = L.length + 1 ∧ (L'.map (·.id)).Perm (m.id :: L.map (·.id)) := by
  have hord := v.ord
  obtain ⟨a1, a2, a3, a4, a5, a6, a7, b1, b2, b3, c⟩ := v
  have hni : ∀ x ∈ L, x.id ≠ m.id := fun x hx e => hid (List.mem_append.2 (.inl (List.mem_map.2 ⟨x, hx, e⟩)))
  have hp : pushR (rg n h L) m = 0 := pushR_rg a1 a2 a3 (by omega) (fun x hx => (b1 x hx).1) (List.nodup_append.1 c).1 hm hni
  have hnd : (m.id :: (L.map (·.id) ++ t.l.map fun y => y.msg.id)).Nodup := List.nodup_cons.2 ⟨hid, c⟩
  by_cases c1 : lim ≤ m.count
  · have p : ((L ++ [m]).map (·.id)).Perm (m.id :: L.map (·.id)) := by
      rw [List.map_append]; exact List.perm_append_comm
    refine ⟨h, L ++ [m], ?_, ⟨a1, a2, a3, by simp only [List.length_append, List.length_singleton]; omega, a5, a6, a7, fun x hx => ?_, b2, b3, ?_⟩, by simp, p⟩
    · unfold backD
      rw [if_pos c1]
      show pbD (rg n h L) m = _
      unfold pbD
      rw [if_pos hp, hord, rg_cells]; rfl
    · rcases List.mem_append.1 hx with hx | hx
      · exact b1 x hx
      · rw [List.mem_singleton.1 hx]; exact ⟨hm, hr⟩
    · exact (p.append_right _).nodup_iff.2 hnd
  · refine ⟨(h + n - 1) % n, m :: L, ?_, ⟨a1, a2, mod_lt' a1, by simp only [List.length_cons]; omega, a5, a6, a7, fun x hx => ?_, b2, b3, hnd⟩, by simp, List.Perm.refl _⟩
    · unfold backD
      rw [if_neg c1]
      show pfD (rg n h L) m = _
      unfold pfD
      rw [if_pos hp, hord, rg_cells]; rfl
    · cases hx with
      | head => exact ⟨hm, hr⟩
      | tail _ hx => exact b1 x hx
theorem VS.us {n h : Nat} {L : List Message} {t : Table} {lo hi : Int} (v : VS n h L t lo hi) (b : Bool) : usE (mkS n h L t lo hi) b = if b = true then 0 else 1 := by
  have hl : liveV (mkS n h L t lo hi) = 0 := by
    unfold liveV
    rw [if_neg (fun q => q v.val)]; rfl
  unfold usE
  rw [if_neg (fun q => q hl)]
theorem VS.stor {n h : Nat} {L : List Message} {t : Table} {lo hi : Int} (v : VS n h L t lo hi) : storD (mkS n h L t lo hi) = (L.length : Int) + t.l.length := by
  unfold storD
  rw [if_pos v.val]; rfl
theorem VS.lens {n h : Nat} {L : List Message} {t : Table} {lo hi : Int} (v : VS n h L t lo hi) : (mkS n h L t lo hi).ready.cells.length ≤ 12 ∧ (mkS n h L t lo hi).leases.l.length ≤ 12 ∧ (mkS n h L t lo hi).leases.heap.length ≤ 12 := by
  obtain ⟨b1, b2⟩ := tab_len v.2.2.2.2.2.2.2.2.1
  exact ⟨by show (rg n h L).cells.length ≤ 12; rw [rg_cells]; exact v.2.1, b1, b2⟩
end Go.Proofs.YtcjncbkhbllchaaGreat.L

namespace Go.Proofs.YtcjncbkhbllchaaGreat.L
open Go Go.Sim
set_option linter.unusedSimpArgs false
set_option linter.unusedVariables false
set_option maxHeartbeats 10000000
set_option maxRecDepth 40000
def hdOf (m : Message) : Handle := ⟨m.id, m.gen, m.route, 0⟩
theorem VS.gone {n h : Nat} {L : List Message} {t t' : Table} {lo hi : Int} (v : VS n h L t lo hi) {y : Lease} (hp : (y :: t'.l).Perm t.l) : y.msg.id ∉ idsS L t' := by
  have c := v.2.2.2.2.2.2.2.2.2.2
  have p : (L.map (·.id) ++ (y.msg.id :: t'.l.map fun x => x.msg.id)).Perm (L.map (·.id) ++ t.l.map fun x => x.msg.id) := (hp.map (fun x : Lease => x.msg.id)).append_left _
  exact (List.nodup_cons.1 (List.perm_middle.nodup_iff.1 (p.nodup_iff.2 c))).1
theorem VS.holds {n h : Nat} {L : List Message} {t : Table} {lo hi : Int} (v : VS n h L t lo hi) {y : Lease} (hy : y ∈ t.l) {now ep : Int} (hd : now < y.deadline) (he : ep ≤ y.msg.epoch) : holdsB (mkS n h L t lo hi) (hdOf y.msg) now ep = true := by
  rw [holds_at (s := mkS n h L t lo hi) v.2.2.2.2.2.2.2.2.1 hy (hdOf y.msg) rfl]
  simp only [hdOf, decide_true, Bool.true_and, Bool.and_eq_true, Bool.not_eq_true', decide_eq_false_iff_not, decide_eq_true_eq]
  omega
theorem VS.ack {n h : Nat} {L : List Message} {t : Table} {lo hi : Int} (v : VS n h L t lo hi) {y : Lease} (hy : y ∈ t.l) {now ep : Int} (hd : now < y.deadline) (he : ep ≤ y.msg.epoch) (hn : tiQ now = true) (hq : epQ ep = true) : ∃ t', ackD (mkS n h L t lo hi) (hdOf y.msg) now ep = (mkS n h L t' lo hi, 0) ∧ VS n h L t' lo hi ∧ (y :: t'.l).Perm t.l := by
  obtain ⟨t', r1, r2, r3⟩ := v.rel hy
  refine ⟨t', ?_, r2, r3⟩
  have hu : usE (mkS n h L t lo hi) (tiQ now && epQ ep) = 0 := by rw [v.us, hn, hq]; rfl
  unfold ackD
  rw [if_neg (fun q => q hu), if_pos (v.holds hy hd he)]
  show ((relS (mkS n h L t lo hi) y.msg.id).1, (relS (mkS n h L t lo hi) y.msg.id).2.2) = _
  rw [r1]
theorem VS.nack {n h : Nat} {L : List Message} {t : Table} {lo hi : Int} (v : VS n h L t lo hi) {y : Lease} (hy : y ∈ t.l) {now ep lim : Int} (hd : now < y.deadline) (he : ep ≤ y.msg.epoch) (hn : tiQ now = true) (hq : epQ ep = true) (hl : liQ lim = true) : ∃ h' L' t', nackD (mkS n h L t lo hi) (hdOf y.msg) now ep lim = (mkS n h' L' t' lo hi, 0) ∧ VS n h' L' t' lo hi ∧ L'.length + t'.l.length = L.length + t.l.length ∧ (y :: t'.l).Perm t.l := by
  obtain ⟨t', r1, r2, r3⟩ := v.rel hy
  have hlen := r3.length_eq
  simp only [List.length_cons] at hlen
  have hmv : msgV y.msg = 0 := ((leasesE_iff t.l).1 (tabV_zero v.2.2.2.2.2.2.2.2.1).2.1).2 y hy |>.1
  obtain ⟨h', L', q1, q2, q3, q4⟩ := r2.back hmv (v.2.2.2.2.2.2.2.2.2.1 y hy) (by have := v.2.2.2.1; omega) (v.gone r3) lim
  refine ⟨h', L', t', ?_, q2, by omega, r3⟩
  have hu : usE (mkS n h L t lo hi) (tiQ now && (epQ ep && liQ lim)) = 0 := by rw [v.us, hn, hq, hl]; rfl
  unfold nackD
  rw [if_neg (fun q => q hu), if_pos (v.holds hy hd he)]
  have e : relS (mkS n h L t lo hi) (hdOf y.msg).id = (mkS n h L t' lo hi, y.msg, 0) := r1
  rw [e]
  simp only [q1, ne_eq, not_true_eq_false, if_false]
  rfl
end Go.Proofs.YtcjncbkhbllchaaGreat.L

namespace Go.Proofs.YtcjncbkhbllchaaGreat.L
open Go Go.Sim Go.Proofs.YtcjncbkhbllchaaGreat
set_option linter.unusedSimpArgs false
set_option linter.unusedVariables false
set_option maxHeartbeats 10000000
set_option maxRecDepth 40000
def hB (s : Shard) (h : Handle) (now ep : Int) : Bool := decide (usE s (tiQ now && epQ ep) = 0) && holdsB s h now ep
def lens12 (s : Shard) : Prop := s.ready.cells.length ≤ 12 ∧ s.leases.l.length ≤ 12 ∧ s.leases.heap.length ≤ 12
structure LP (x y : Shard) (now vis ep lim : Int) (v : Lease) : Prop where
  dl : v.deadline = now + vis
  late : hB y (hdOf v.msg) (now + vis) ep = false
  held : 0 < vis → hB y (hdOf v.msg) (now + vis - 1) ep = true
  old : hB y { hdOf v.msg with gen := v.msg.gen - 1 } now ep = false
  oth : hB y { hdOf v.msg with route := (v.msg.route + 1).tmod 65536 } now ep = false
  pre : hB x (hdOf v.msg) now ep = false
  gen : 1 ≤ v.msg.gen ∧ v.msg.gen ≤ 65536
  rt : 0 ≤ v.msg.route ∧ v.msg.route ≤ 65535
  ack : 0 < vis → ∃ z, ackD y (hdOf v.msg) now ep = (z, 0) ∧ lens12 z ∧ hB z (hdOf v.msg) now ep = false ∧ storD z = storD y - 1
  nack : 0 < vis → ∃ w, nackD y (hdOf v.msg) now ep lim = (w, 0) ∧ lens12 w ∧ hB w (hdOf v.msg) now ep = false ∧ storD w = storD y
theorem hB_not {s : Shard} {h : Handle} {now ep : Int} (q : holdsB s h now ep = false) : hB s h now ep = false := by unfold hB; rw [q, Bool.and_false]
theorem VS.lp {n h n2 h2 : Nat} {L L2 : List Message} {t t2 : Table} {lo hi : Int} (v : VS n h L t lo hi) (v2 : VS n2 h2 L2 t2 lo hi) {now vis ep lim : Int} (hn : 0 ≤ now ∧ now ≤ 30) (hv : 0 ≤ vis ∧ vis ≤ 20) (he : epQ ep = true) (hl : liQ lim = true) {m : Message} (hm : m ∈ L) (hq : rcvQ ep lim m = true) (hy : (⟨upM m, now + vis⟩ : Lease) ∈ t2.l) : LP (mkS n h L t lo hi) (mkS n2 h2 L2 t2 lo hi) now vis ep lim ⟨upM m, now + vis⟩ := by
  obtain ⟨q1, q2, q3⟩ := (rcv_iff ep lim m).1 hq
  have hmv := (msgV_iff m).1 (v.2.2.2.2.2.2.2.1 m hm).1
  have ti : ∀ k : Int, 0 ≤ k → k ≤ 60 → tiQ k = true := by intro k k1 k2; unfold tiQ; rw [decide_eq_true_eq]; omega
  have tb : tabV (mkS n2 h2 L2 t2 lo hi).leases = 0 := v2.2.2.2.2.2.2.2.2.1
  have hat := fun (h : Handle) (hid : h.id = (⟨upM m, now + vis⟩ : Lease).msg.id) (nw : Int) => holds_at (s := mkS n2 h2 L2 t2 lo hi) tb hy h hid nw ep
  have hu : ∀ k : Int, 0 ≤ k → k ≤ 60 → usE (mkS n2 h2 L2 t2 lo hi) (tiQ k && epQ ep) = 0 := by intro k k1 k2; rw [v2.us, ti k k1 k2, he]; rfl
  refine ⟨rfl, ?_, ?_, ?_, ?_, ?_, ?_, ?_, ?_, ?_⟩
  · refine hB_not ?_
    rw [hat (hdOf (upM m)) rfl]
    simp
  · intro h0
    unfold hB
    rw [hu _ (by omega) (by omega), v2.holds hy (by show now + vis - 1 < now + vis; omega) q1]
    rfl
  · refine hB_not ?_
    rw [hat _ rfl]
    have : decide ((upM m).gen = (upM m).gen - 1) = false := by rw [decide_eq_false_iff_not]; omega
    show (decide ((upM m).gen = (upM m).gen - 1) && _) = false
    rw [this, Bool.false_and]
  · refine hB_not ?_
    rw [hat _ rfl]
    have : decide ((upM m).route = ((upM m).route + 1).tmod 65536) = false := by
      rw [decide_eq_false_iff_not, Int.tmod_eq_emod_of_nonneg (by simp only [upM]; omega)]; simp only [upM]; omega
    show (_ && (decide ((upM m).route = ((upM m).route + 1).tmod 65536) && _)) = false
    rw [this, Bool.false_and, Bool.and_false]
  · refine hB_not (holds_not _ ?_ _ _)
    intro x hx e
    exact (List.nodup_append.1 v.2.2.2.2.2.2.2.2.2.2).2.2 m.id (List.mem_map.2 ⟨m, hm, rfl⟩) x.msg.id (List.mem_map.2 ⟨x, hx, rfl⟩) e.symm
  · simp only [upM]; omega
  · simp only [upM]; omega
  · intro h0
    obtain ⟨t', r1, r2, r3⟩ := v2.ack hy (now := now) (ep := ep) (by show now < now + vis; omega) q1 (ti _ (by omega) (by omega)) he
    refine ⟨_, r1, r2.lens, hB_not (holds_not _ ?_ _ _), ?_⟩
    · intro x hx e
      exact v2.gone r3 (List.mem_append.2 (.inr (List.mem_map.2 ⟨x, hx, e⟩)))
    · rw [r2.stor, v2.stor]
      have := r3.length_eq; simp only [List.length_cons] at this; omega
  · intro h0
    obtain ⟨h', L', t', r1, r2, r4, r3⟩ := v2.nack hy (now := now) (ep := ep) (by show now < now + vis; omega) q1 (ti _ (by omega) (by omega)) he hl
    refine ⟨_, r1, r2.lens, hB_not (holds_not _ ?_ _ _), ?_⟩
    · intro x hx e
      exact v2.gone r3 (List.mem_append.2 (.inr (List.mem_map.2 ⟨x, hx, e⟩)))
    · rw [r2.stor, v2.stor]
      omega
end Go.Proofs.YtcjncbkhbllchaaGreat.L

namespace Go.Proofs.YtcjncbkhbllchaaGreat.L
open Go Go.Sim Go.Proofs.YtcjncbkhbllchaaGreat
set_option linter.unusedSimpArgs false
set_option linter.unusedVariables false
set_option maxHeartbeats 10000000
set_option maxRecDepth 40000
structure SLP where
  x : Shard
  y : Shard
  mx : Int
  now : Int
  vis : Int
  ep : Int
  lim : Int
  o : List Lease
def slS (p : SLP) (i : Nat) : St := ⟨[(4, .ref 4 0 0), (5, .ref 5 0 0), (6, .ref 6 0 0), (7, .d (.sl (p.o.map eLease))), (9, .d (.int .i64 i))], [(4, .row [.d (eShard p.x)]), (5, .row [.d (.agg [.int .i64 p.mx, .int .i64 p.now, .int .i64 p.vis, .int .i64 p.ep, .int .i64 p.lim, .int .i64 0, .int .i64 0, .int .i64 0])]), (6, .row [.d (eShard p.y)])]⟩
def slI (p : SLP) : Prop := p.o.length ≤ 100 ∧ lens12 p.x ∧ lens12 p.y ∧ (0 ≤ p.now ∧ p.now ≤ 30) ∧ (0 ≤ p.vis ∧ p.vis ≤ 20) ∧ 0 ≤ storD p.y ∧ storD p.y ≤ 12 ∧ ∀ v ∈ p.o, LP p.x p.y p.now p.vis p.ep p.lim v
theorem Holds_ok' (s : Shard) (h : Handle) (now ep : Int) (q : lens12 s) : callL G z0i [.d (eShard s), .d (eHandle h), .d (.int .i64 now), .d (.int .i64 ep)] [] = some (.d (.bool (hB s h now ep)), []) :=
  Holds_ok s h now ep (by have := q.1; omega) q.2.1 q.2.2
theorem Stored_ok' (s : Shard) (q : lens12 s) : callL G z0k [.d (eShard s)] [] = some (.d (.int .i64 (storD s)), []) :=
  Stored_ok s (by have := q.1; omega) (by have := q.2.1; omega) (by have := q.2.2; omega)
theorem sl_loop (p : SLP) (hp : slI p) : ∀ i, i ≤ p.o.length → loopL G [] z0C (slS p i) = some (.exit 0, ⟨[], []⟩) := by
  refine loop_ind (fun i => p.o.length - i) (fun i => i ≤ p.o.length) (slS p) (fun _ => some (.exit 0, ⟨[], []⟩)) fun i hi L ih => ?_
  by_cases h0 : i < p.o.length
  · obtain ⟨n0, x1, y1, n1, n2, n3, n4, hp⟩ := hp
    have hv := hp p.o[i] (List.getElem_mem h0)
    have i1 := ih (i + 1) (by omega) (by omega)
    have e : ((i + 1 : Nat) : Int) = (i : Int) + 1 := by omega
    have c1 := Holds_ok' p.y (hdOf p.o[i].msg) (p.now + p.vis) p.ep y1
    have c3 := Holds_ok' p.y { hdOf p.o[i].msg with gen := p.o[i].msg.gen - 1 } p.now p.ep y1
    have c4 := Holds_ok' p.y { hdOf p.o[i].msg with route := (p.o[i].msg.route + 1).tmod 65536 } p.now p.ep y1
    have c5 := Holds_ok' p.x (hdOf p.o[i].msg) p.now p.ep x1
    have c2 := Holds_ok' p.y (hdOf p.o[i].msg) (p.now + p.vis - 1) p.ep y1
    rw [hv.late] at c1
    rw [hv.old] at c3
    rw [hv.oth] at c4
    rw [hv.pre] at c5
    obtain ⟨g1, g2⟩ := hv.gen
    obtain ⟨g3, g4⟩ := hv.rt
    have hd := hv.dl
    have hs := Stored_ok' p.y y1
    have ka := ack_ok p.y (hdOf p.o[i].msg) p.now p.ep (by have := y1.1; omega) (by have := y1.2.1; omega) (by have := y1.2.2; omega)
    have kn := nack_ok p.y (hdOf p.o[i].msg) p.now p.ep p.lim (by have := y1.1; omega) (by have := y1.2.1; omega) (by have := y1.2.2; omega)
    by_cases hz : 0 < p.vis
    · obtain ⟨z, a1, a2, a3, a4⟩ := hv.ack hz
      obtain ⟨w, b1, b2, b3, b4⟩ := hv.nack hz
      rw [hv.held hz] at c2
      have ha := Holds_ok' z (hdOf p.o[i].msg) p.now p.ep a2
      have hb := Holds_ok' w (hdOf p.o[i].msg) p.now p.ep b2
      have hsz := Stored_ok' z a2
      have hsw := Stored_ok' w b2
      rw [a3] at ha
      rw [b3] at hb
      rw [a4] at hsz
      rw [b4] at hsw
      rw [a1] at ka
      rw [b1] at kn
      clear hp hv ih a1 a2 a3 a4 b1 b2 b3 b4 x1 y1
      obtain ⟨x, y, mx, now, vis, ep, lim, o⟩ := p
      simp only at *
      simp only [slS, eShard, hdOf, eHandle, z0C] at *
      rw [e] at i1
      clear e
      generalize storD y = sy at *
      (try simp -implicitDefEqProofs (maxSteps := 4000000) (disch := omega) only [getDT, go_sem, *]); (try simp only [pA, pB, pC, pD, pE, pF, pG, pH, pI, pJ, pK, pL, pM, pN, pO, pP, if_true, if_false]); repeat' (first | done | rfl | ((first | refine iteC (fun hq => ?_) (fun hq => ?_) | refine iteP (fun hq => ?_) (fun hq => ?_)) <;> (try (first | (exfalso; omega) | contradiction)) <;> (try simp -implicitDefEqProofs (maxSteps := 4000000) (disch := omega) only [getDT, go_sem, *]) <;> (try simp only [pA, pB, pC, pD, pE, pF, pG, pH, pI, pJ, pK, pL, pM, pN, pO, pP, if_true, if_false]))); (all_goals try rfl); (all_goals try (repeat' (first | done | rfl | (exfalso; omega) | contradiction | (refine iteR (fun hq => ?_) (fun hq => ?_))))) /-A0-/
    · clear hp hv ih ka kn hs x1 y1
      obtain ⟨x, y, mx, now, vis, ep, lim, o⟩ := p
      simp only at *
      generalize hB y (hdOf o[i].msg) (now + vis - 1) ep = bb at *
      simp only [slS, eShard, hdOf, eHandle, z0C] at *
      rw [e] at i1
      clear e
      (try simp -implicitDefEqProofs (maxSteps := 4000000) (disch := omega) only [getDT, go_sem, *]); (try simp only [pA, pB, pC, pD, pE, pF, pG, pH, pI, pJ, pK, pL, pM, pN, pO, pP, if_true, if_false]); repeat' (first | done | rfl | ((first | refine iteC (fun hq => ?_) (fun hq => ?_) | refine iteP (fun hq => ?_) (fun hq => ?_)) <;> (try (first | (exfalso; omega) | contradiction)) <;> (try simp -implicitDefEqProofs (maxSteps := 4000000) (disch := omega) only [getDT, go_sem, *]) <;> (try simp only [pA, pB, pC, pD, pE, pF, pG, pH, pI, pJ, pK, pL, pM, pN, pO, pP, if_true, if_false]))); (all_goals try rfl); (all_goals try (repeat' (first | done | rfl | (exfalso; omega) | contradiction | (refine iteR (fun hq => ?_) (fun hq => ?_))))) /-A1-/
  · clear ih hp
    obtain rfl : i = p.o.length := by omega
    obtain ⟨x, y, mx, now, vis, ep, lim, o⟩ := p
    simp only [slS, eShard, z0C]
    simp -implicitDefEqProofs (maxSteps := 4000000) (disch := omega) only [getDT, go_sem, *] /-A2-/
end Go.Proofs.YtcjncbkhbllchaaGreat.L

namespace Go.Proofs.YtcjncbkhbllchaaGreat.L
open Go Go.Sim Go.Proofs.YtcjncbkhbllchaaGreat
set_option linter.unusedSimpArgs false
set_option linter.unusedVariables false
set_option maxHeartbeats 10000000
set_option maxRecDepth 40000
theorem tkF_len (mx d ep lim : Int) : ∀ (l : List Message) (s : Shard) (out : List Lease), (tkF mx d ep lim l s out).2.1.length ≤ out.length + l.length := by
  intro l
  induction l with
  | nil => intro s out; exact Nat.le_refl _
  | cons m l ih =>
    intro s out
    rw [tkF]
    split
    · have := ih s out; simp only [List.length_cons]; omega
    · split
      · exact Nat.zero_le _
      · have := ih (dlvD s m d).1 (out ++ [(dlvD s m d).2.1])
        simp only [List.length_append, List.length_cons, List.length_nil] at this ⊢
        omega
theorem sl_take {x : Shard} (hx : SG x) (hl : x.live = true) {mx now vis ep lim : Int} (h1 : 1 ≤ mx ∧ mx ≤ 4) (h2 : 0 ≤ now ∧ now ≤ 30) (h3 : 0 ≤ vis ∧ vis ≤ 20) (h4 : 0 ≤ ep ∧ ep ≤ 3) (h5 : 1 ≤ lim ∧ lim ≤ 4) :
    (takeD x mx now vis ep lim).2.2 = 0 ∧ slI ⟨x, (takeD x mx now vis ep lim).1, mx, now, vis, ep, lim, (takeD x mx now vis ep lim).2.1⟩ := by
  obtain ⟨n, h, e, v⟩ := vs_of hx.1 hl
  generalize ordD x.ready = L at *
  generalize x.leases = t at *
  generalize x.low = lo at *
  generalize x.high = hi at *
  subst e
  have he : epQ ep = true := by unfold epQ; rw [decide_eq_true_eq]; omega
  have hli : liQ lim = true := by unfold liQ; rw [decide_eq_true_eq]; omega
  have hti : tiQ now = true := by unfold tiQ; rw [decide_eq_true_eq]; omega
  have hvi : viQ vis = true := by unfold viQ; rw [decide_eq_true_eq]; omega
  obtain ⟨L', t', o', r1, r2, r3, r4, r5⟩ := VS.take (mx := mx) (d := now + vis) (ep := ep) (lim := lim) (by omega) (by omega) (by omega) L L t [] v (fun m hm => hm) (List.nodup_append.1 v.2.2.2.2.2.2.2.2.2.2).1
  have ht : takeD (mkS n h L t lo hi) mx now vis ep lim = (mkS n h L' t' lo hi, o', 0) := by
    unfold takeD takeU
    rw [v.us, he, hli, hti, hvi, decide_eq_true (by omega), if_neg (by simp), if_neg (by omega)]
    show tkF mx (now + vis) ep lim (ordD (rg n h L)) _ _ = _
    rw [v.ord, r1]; rfl
  have hlen := tkF_len mx (now + vis) ep lim L (mkS n h L t lo hi) []
  rw [r1] at hlen
  simp only [List.nil_append, List.length_nil] at hlen
  rw [ht]
  refine ⟨rfl, ?_, v.lens, r2.lens, h2, h3, ?_, ?_, ?_⟩
  · have := v.2.2.2.1; have := v.2.1; show o'.length ≤ 100; omega
  · show 0 ≤ storD (mkS n h L' t' lo hi); rw [r2.stor]; omega
  · show storD (mkS n h L' t' lo hi) ≤ 12; rw [r2.stor]; have := r2.2.2.2.1; have := r2.2.1; omega
  · intro y hy
    obtain ⟨s1, s2, m, s3, s4, s5⟩ := r4 y hy
    have hy2 : y = ⟨upM m, now + vis⟩ := by obtain ⟨a, b⟩ := y; simp only at s1 s4; rw [s1, s4]
    rw [hy2] at s2 ⊢
    exact v.lp r2 h2 h3 he hli s3 s5 s2
theorem sl_dead {x : Shard} (hx : SG x) (hl : x.live = false) (mx now vis ep lim : Int) : (takeD x mx now vis ep lim).2.2 ≠ 0 := by
  have h : liveV x ≠ 0 := by
    unfold liveV
    rw [if_neg (fun q => q hx.1), hl]; simp
  have h2 : takeU x mx now vis ep lim ≠ 0 := by
    unfold takeU usE
    rw [if_pos h]; exact h
  unfold takeD
  rw [if_pos h2]; exact h2
end Go.Proofs.YtcjncbkhbllchaaGreat.L

namespace Go.Proofs.YtcjncbkhbllchaaGreat.L
open Go Go.Sim Go.Proofs.YtcjncbkhbllchaaGreat
set_option linter.unusedSimpArgs false
set_option linter.unusedVariables false
set_option maxHeartbeats 10000000
set_option maxRecDepth 40000
theorem SG_len {x : Shard} (h : SG x) : x.ready.cells.length ≤ 12 ∧ x.leases.l.length ≤ 12 ∧ x.leases.heap.length ≤ 12 := by
  have h := h.1
  unfold shardV at h
  split at h
  · rename_i hc; exact absurd h hc
  · rename_i h1
    split at h
    · rename_i hc; exact absurd h hc
    · rename_i h2
      have h1 := ringV_zero (Classical.not_not.1 h1)
      have h2 := tab_len (Classical.not_not.1 h2)
      exact ⟨h1.2.1, h2⟩
theorem sleases_ok (hw : callL G z09 [] [] = some (.d (.bool true), [])) (l : List Int) (h : l.length ≤ LIM) : callL G z08 [.d (.sl (ints l))] [] = some (.d (.bool true), []) := by
  have h1 := new_ok l h
  have ht : (l.take 4000).length ≤ 4000 := by simp; omega
  generalize l.take 4000 = t at *
  obtain ⟨x, a1, hx, hs⟩ := shard_ex t 0 ht
  have hlen : lens12 x := SG_len hx
  have q1 := range_ok t a1 1 4 ht (by omega) (by omega) (by omega) (by omega)
  have b1 := nD_in t a1 (n := 4 - 1 + 1) (by omega)
  generalize (rawD t a1).2 = a2 at *
  generalize nD t a1 (4 - 1 + 1) = mx0 at *
  obtain ⟨mx, hmx⟩ : ∃ mx, 1 + mx0 = mx := ⟨_, rfl⟩
  rw [hmx] at q1
  have q2 := n_ok t a2 30 ht (by omega) (by omega)
  have b2 := nD_in t a2 (n := 30) (by omega)
  generalize (rawD t a2).2 = a3 at *
  generalize nD t a2 30 = now at *
  have q3 := n_ok t a3 20 ht (by omega) (by omega)
  have b3 := nD_in t a3 (n := 20) (by omega)
  generalize (rawD t a3).2 = a4 at *
  generalize nD t a3 20 = vis at *
  have q4 := n_ok t a4 3 ht (by omega) (by omega)
  have b4 := nD_in t a4 (n := 3) (by omega)
  generalize (rawD t a4).2 = a5 at *
  generalize nD t a4 3 = ep at *
  have q5 := range_ok t a5 1 4 ht (by omega) (by omega) (by omega) (by omega)
  have b5 := nD_in t a5 (n := 4 - 1 + 1) (by omega)
  generalize (rawD t a5).2 = a6 at *
  generalize nD t a5 (4 - 1 + 1) = lim0 at *
  obtain ⟨lim, hlim⟩ : ∃ lim, 1 + lim0 = lim := ⟨_, rfl⟩
  rw [hlim] at q5
  have hk := take_ok x mx now vis ep lim (by have := hlen.1; omega) (by have := hlen.2.1; omega) (by have := hlen.2.2; omega)
  cases hl : x.live with
  | false =>
    have hd := sl_dead hx hl mx now vis ep lim
    generalize (takeD x mx now vis ep lim).1 = y at *
    generalize (takeD x mx now vis ep lim).2.1 = o at *
    generalize (takeD x mx now vis ep lim).2.2 = e at *
    clear hx hlen
    simp only [eShard] at *
    simp only [srcO, Int.natCast_zero] at h1 hs
    rw [hl] at hs hk
    clear hl
    rw [callL_code z6F (by simp)]; simp -implicitDefEqProofs (maxSteps := 4000000) (disch := omega) only [z5F, z7L, getDT, go_sem, *] /-A0-/
  | true =>
    obtain ⟨k1, k2⟩ := sl_take hx hl (mx := mx) (now := now) (vis := vis) (ep := ep) (lim := lim) (by omega) (by omega) (by omega) (by omega) (by omega)
    have hp := sl_loop _ k2 0 (Nat.zero_le _)
    rw [k1] at hk
    clear k1 k2 hx hlen
    generalize (takeD x mx now vis ep lim).1 = y at *
    generalize (takeD x mx now vis ep lim).2.1 = o at *
    simp only [slS, eShard, Int.natCast_zero] at hk hp
    simp only [eShard] at *
    simp only [srcO, Int.natCast_zero] at h1 hs
    rw [hl] at hs hk hp
    clear hl
    rw [callL_code z6F (by simp)]; simp -implicitDefEqProofs (maxSteps := 4000000) (disch := omega) only [z5F, z7L, getDT, go_sem, *] /-A1-/
end Go.Proofs.YtcjncbkhbllchaaGreat.L

namespace Go.Proofs.YtcjncbkhbllchaaGreat
open Go Go.Sim
set_option linter.unusedSimpArgs false
set_option linter.unusedVariables false
set_option maxHeartbeats 10000000
set_option maxRecDepth 40000
theorem sroom_ok (s : Shard) (h1 : s.leases.l.length ≤ 12) (h2 : 0 ≤ s.ready.size) (h3 : s.ready.size ≤ 12) (h4 : s.ready.cells.length ≤ 12) : callL G zP [.d (eShard s)] [] = some (.d (.int .i64 (s.ready.cells.length - (s.ready.size + s.leases.l.length))), []) := by
  have h := stored_ok s h1 h2 h3
  simp only [eShard] at h ⊢
  rw [callL_code zdo (by simp)]; simp -implicitDefEqProofs (maxSteps := 4000000) (disch := omega) only [z92, zcR, getDT, go_sem, *] /-A0-/
theorem hcl_ok (m : Message) (id : Int) : callL G z0l [.d (eMessage m), .d (.pd (.int .i64 id))] [] = some (.d (.bool (decide (m.id = id))), []) := by
  simp only [eMessage]
  rw [callL_code z9X (by simp)]; simp -implicitDefEqProofs (maxSteps := 4000000) (disch := omega) only [z8V, zcK, getDT, go_sem, *] /-A1-/
theorem has_ok (s : Shard) (id : Int) (hr : ringV s.ready = 0) (h1 : s.leases.l.length ≤ 12) : callL G zM [.d (eShard s), .d (.int .i64 id)] [] = some (.d (.bool ((shMsgs s).any fun m => decide (m.id = id))), []) := by
  have hm := messages_ok hr h1
  have hl := shMsgs_len hr h1
  have hc := contains_api_Message (shMsgs s) z0l [.pd (.int .i64 id)] (fun m => decide (m.id = id)) (by omega) (fun a _ => hcl_ok a id)
  generalize ((shMsgs s).any fun m => decide (m.id = id)) = q at *
  generalize shMsgs s = w at *
  clear hr h1
  simp only [eShard] at hm ⊢
  rw [callL_code zdm (by simp)]; simp -implicitDefEqProofs (maxSteps := 4000000) (disch := omega) only [z8U, zcJ, getDT, go_sem, *] /-A2-/
end Go.Proofs.YtcjncbkhbllchaaGreat

namespace Go.Proofs.YtcjncbkhbllchaaGreat.L
open Go Go.Sim Go.Proofs.YtcjncbkhbllchaaGreat
set_option linter.unusedSimpArgs false
set_option linter.unusedVariables false
set_option maxHeartbeats 10000000
set_option maxRecDepth 40000
theorem put_newL (lo hi : Int) (r : Ring) (m : Message) (hm : msgV m = 0) (hr : lo ≤ m.route ∧ m.route ≤ hi) (hv : ringV r = 0) (hs : r.size < r.cells.length) (hn : ((shMsgs ⟨true, lo, hi, r, zTable⟩).any fun x => decide (x.id = m.id)) = false) (hp : pushR r m = 0) :
    callL G z0m [.d (eShard ⟨true, lo, hi, r, zTable⟩), .d (eMessage m)] [] = some (.d (.tup [eShard ⟨true, lo, hi, (pbD r m).1, zTable⟩, .int .i64 0]), []) := by
  obtain ⟨b1, b2, b3, b4, b5, b6⟩ := ringV_zero hv
  have hv2 := zd3.trans (mval_ok m)
  have hi1 := zd8.trans (sin_ok m.route lo hi)
  have hro := zda.trans (sroom_ok ⟨true, lo, hi, r, zTable⟩ (by simp [zTable]) b5 (by simp only; omega) b2)
  have hh := zd7.trans (has_ok ⟨true, lo, hi, r, zTable⟩ m.id hv (by simp [zTable]))
  have hpb := zd6.trans (rpush_ok r m (by omega))
  have he : (pbD r m).2 = 0 := by unfold pbD; rw [if_pos hp]
  rw [hn] at hh
  rw [hm] at hv2
  rw [decide_eq_true hr] at hi1
  rw [he] at hpb
  have ho := sownL_ok ⟨true, lo, hi, r, zTable⟩ b1 b2 (by simp [zTable]) (by simp [zTable])
  generalize (pbD r m).1 = r2 at *
  clear hr hn hp he hv
  obtain ⟨c, h, z⟩ := r
  obtain ⟨c2, h2, z2⟩ := r2
  simp only [eShard, eMessage, eRing, zTable, List.map_nil, List.length_nil, Int.natCast_zero, Int.add_zero] at *
  rw [callL_code za2 (by simp)]; simp -implicitDefEqProofs (maxSteps := 4000000) (disch := omega) only [z91, zcQ, getDT, go_sem, *] /-A0-/
theorem sputL_ok (s s2 : Shard) (m : Message) (e : Int) (h1 : s.ready.cells.length ≤ 4294967296) (h2 : s.leases.l.length ≤ 4294967296) (h3 : s.leases.heap.length ≤ 4294967296) (hl : liveV s = 0) (hp : callL G z0m [.d (eShard s), .d (eMessage m)] [] = some (.d (.tup [eShard s2, .int .i64 e]), [])) : callL G z1G [.d (eShard s), .d (eMessage m)] [] = some (.d (.tup [eShard s2, .int .i64 e]), []) := by
  have hv := zd9.trans (live_ok s h1 h2 h3)
  rw [hl] at hv
  clear hl
  simp only [eShard, eMessage] at *
  rw [callL_code z9W (by simp)]; simp -implicitDefEqProofs (maxSteps := 4000000) (disch := omega) only [z8T, zcI, getDT, go_sem, *] /-A1-/
theorem rnewL_ok (k : Nat) (h1 : 1 ≤ k) (h2 : k ≤ 12) : callL G z1x [.d (.int .i64 k)] [] = some (.d (.tup [eRing ⟨List.replicate k zMessage, 0, 0⟩, .int .i64 0]), []) := by
  have e : List.replicate k (Go.Sim.AV.d (eMessage zMessage)) = (List.replicate k (eMessage zMessage)).map Go.Sim.AV.d := by rw [List.map_replicate]
  simp only [eRing, List.map_replicate]
  simp only [eMessage, zMessage] at e ⊢
  rw [callL_code z9N (by simp)]; simp -implicitDefEqProofs (maxSteps := 4000000) (disch := omega) only [z8L, zcA, List.length_replicate, Nat.min_self, List.take_replicate, getDT, go_sem, *] /-A2-/
theorem snewL_ok (k : Nat) (h1 : 1 ≤ k) (h2 : k ≤ 12) : callL G z0j [.d (.int .i64 k), .d (.int .i64 0), .d (.int .i64 65535)] [] = some (.d (.tup [eShard ⟨true, 0, 65535, ⟨List.replicate k zMessage, 0, 0⟩, zTable⟩, .int .i64 0]), []) := by
  have hr := rnewL_ok k h1 h2
  have hs := zdb.trans (spans_ok 0 65535)
  simp only [show (decide ((0 : Int) ≤ 0 ∧ (0 : Int) ≤ 65535 ∧ (65535 : Int) < 65536)) = true from by decide] at hs
  simp only [eShard, eRing, zTable, List.map_nil] at *
  generalize (List.replicate k zMessage).map eMessage = c at *
  rw [callL_code z9V (by simp)]; simp -implicitDefEqProofs (maxSteps := 4000000) (disch := omega) only [z8S, zcH, getDT, go_sem, *] /-A3-/
end Go.Proofs.YtcjncbkhbllchaaGreat.L

namespace Go.Proofs.YtcjncbkhbllchaaGreat.L
open Go Go.Sim Go.Proofs.YtcjncbkhbllchaaGreat
set_option linter.unusedSimpArgs false
set_option linter.unusedVariables false
set_option maxHeartbeats 10000000
set_option maxRecDepth 40000
def awS0 : Shard := ⟨true, 0, 65535, ⟨List.replicate 3 zMessage, 0, 0⟩, zTable⟩
def awM : Message := ⟨1, 0, 0, 0, 0, 0, zMessage.body⟩
def awS1 : Shard := ⟨true, 0, 65535, (pbD ⟨List.replicate 3 zMessage, 0, 0⟩ awM).1, zTable⟩
theorem aw1 : liveV awS0 = 0 := by decide +kernel
theorem aw2 : (takeD awS1 1 10 5 0 3).2.2 = 0 ∧ (takeD awS1 1 10 5 0 3).2.1.length = 1 := by decide +kernel
theorem aw3 : hB (takeD awS1 1 10 5 0 3).1 ⟨1, 1, 0, 0⟩ 14 0 = true ∧ hB (takeD awS1 1 10 5 0 3).1 ⟨1, 1, 0, 0⟩ 15 0 = false := by decide +kernel
theorem aw4 : (expD (takeD awS1 1 10 5 0 3).1 15 0 3).2.2 = 0 ∧ (expD (takeD awS1 1 10 5 0 3).1 15 0 3).2.1.length = 1 := by decide +kernel
theorem aw5 : lens12 (takeD awS1 1 10 5 0 3).1 := by unfold lens12; decide +kernel
theorem aw6 : lens12 awS1 := by unfold lens12; decide +kernel
theorem awake_ok : callL G z09 [] [] = some (.d (.bool true), []) := by
  have k1 := snewL_ok 3 (by decide) (by decide)
  have kp := put_newL 0 65535 ⟨List.replicate 3 zMessage, 0, 0⟩ awM (by decide +kernel) (by decide) (by decide +kernel) (by decide) (by decide +kernel) (by decide +kernel)
  have k2 := sputL_ok awS0 awS1 awM 0 (by decide) (by decide) (by decide) aw1 kp
  have hs := aw6
  have k3 := take_ok awS1 1 10 5 0 3 (by have := hs.1; omega) (by have := hs.2.1; omega) (by have := hs.2.2; omega)
  have h2 := aw5
  have k4 := Holds_ok' (takeD awS1 1 10 5 0 3).1 ⟨1, 1, 0, 0⟩ 14 0 h2
  have k5 := Holds_ok' (takeD awS1 1 10 5 0 3).1 ⟨1, 1, 0, 0⟩ 15 0 h2
  have k6 := expire_ok (takeD awS1 1 10 5 0 3).1 15 0 3 (by have := h2.1; omega) (by have := h2.2.1; omega) (by have := h2.2.2; omega)
  rw [aw3.1] at k4
  rw [aw3.2] at k5
  rw [aw2.1] at k3
  rw [aw4.1] at k6
  have l1 := aw2.2
  have l2 := aw4.2
  generalize (expD (takeD awS1 1 10 5 0 3).1 15 0 3).2.1 = g2 at *
  generalize (expD (takeD awS1 1 10 5 0 3).1 15 0 3).1 = g1 at *
  generalize (takeD awS1 1 10 5 0 3).2.1 = g4 at *
  generalize (takeD awS1 1 10 5 0 3).1 = g3 at *
  generalize awS1 = g5 at *
  clear kp hs h2
  change callL G z0j _ _ = some (.d (.tup [eShard awS0, _]), []) at k1
  generalize awS0 = g6 at *
  simp only [eShard, eHandle, eMessage, awM, zMessage, Int.cast_ofNat_Int] at *
  rw [callL_code z9s (by simp)]; simp -implicitDefEqProofs (maxSteps := 4000000) (disch := omega) only [z8o, zce, getDT, go_sem, *] /-A0-/
end Go.Proofs.YtcjncbkhbllchaaGreat.L

namespace Go.Proofs.YtcjncbkhbllchaaGreat.L
open Go Go.Sim Go.Proofs.YtcjncbkhbllchaaGreat
set_option linter.unusedSimpArgs false
set_option linter.unusedVariables false
set_option maxHeartbeats 10000000
theorem sleases (l : List Int) (h : l.length ≤ LIM) : callL G z08 [.d (.sl (ints l))] [] = some (.d (.bool true), []) := sleases_ok awake_ok l h
end Go.Proofs.YtcjncbkhbllchaaGreat.L
