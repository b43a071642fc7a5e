/-
  Part of the calculus in which the claim is proved: Rings of the reference: every result; messages of the refere
-/
import Derived.Test.YtcjncbkhbllchaaGreatBae86e39
import Derived.Test.YtcjncbkhbllchaaGreatB67c0517
import Derived.Test.YtcjncbkhbllchaaGreatBb3af376
set_option linter.unusedSimpArgs false
set_option linter.unusedVariables false
set_option maxHeartbeats 10000000
set_option maxRecDepth 100000
namespace Go.Proofs.YtcjncbkhbllchaaGreat.L
open Go Go.Sim
def expF : List Int → Shard → Shard × Int
 | [], s => (s, 0)
 | id :: l, s => if (relS s id).2.2 ≠ 0 then (zShard, (relS s id).2.2) else if (pbD (relS s id).1.ready (relS s id).2.1).2 ≠ 0 then (zShard, (pbD (relS s id).1.ready (relS s id).2.1).2) else expF l { (relS s id).1 with ready := (pbD (relS s id).1.ready (relS s id).2.1).1 }
def shC (s : Shard) : Prop := 1 ≤ s.ready.cells.length ∧ s.ready.cells.length ≤ 12 ∧ s.leases.l.length ≤ 12 ∧ s.leases.heap.length ≤ 12
theorem rel_C {s : Shard} (h : shC s) {id : Int} (h0 : (relS s id).2.2 = 0) : shC (relS s id).1 := by
 unfold relS at h0 ⊢
 split at h0
 · rename_i q
   rw [if_pos q]
   obtain ⟨a, b⟩ := zl8 (zsM q).1
   exact ⟨h.1, h.2.1, a, b⟩
 · rename_i q; exact absurd h0 q
theorem zyU {r : Ring} {m : Message} (h : (pbD r m).2 = 0) : (pbD r m).1.cells.length = r.cells.length := by
 unfold pbD at h ⊢
 split at h
 · rename_i q; rw [if_pos q]; exact wN_len _ _ _ _
 · rename_i q; exact absurd h q
theorem zvH : ∀ (l : List Int) (s : Shard), (expF l s).2 ≠ 0 → (expF l s).1 = zShard := by
 intro l
 induction l with
 | nil => intro s h; exact absurd rfl h
 | cons id l ih =>
  intro s h
  rw [expF] at h ⊢
  split at h
  · rename_i q; rw [if_pos q]
  · rename_i q
    rw [if_neg q]
    split at h
    · rename_i q2; rw [if_pos q2]
    · rename_i q2; rw [if_neg q2]; exact ih _ h
def exS (u : List Int) (t : Shard × Nat) : St := ⟨[(4, .ref 4 0 0), (8, .ref 8 0 0), (12, .d (.sl (ints u))), (37, .d (.sl (ints u))), (38, .d (.int .i64 u.length)), (39, .d (.int .i64 t.2))], [(4, .row [.d (eShard t.1)]), (8, .row [shZ])]⟩
def exR (u : List Int) (x : Shard × Int) : AExit × St := if x.2 = 0 then (.exit 0, ⟨[(4, .ref 4 0 0), (8, .ref 8 0 0), (12, .d (.sl (ints u)))], [(4, .row [.d (eShard x.1)]), (8, .row [shZ])]⟩) else (.ret, ⟨[(8, .ref 8 0 0), (9, .xsl []), (10, .d (.int .i64 x.2))], [(8, .row [shZ])]⟩)
theorem zvI (u : List Int) (hl : u.length ≤ 12) : ∀ t : Shard × Nat, t.2 ≤ u.length ∧ shC t.1 → loopL G [] l_shard_Expire_0 (exS u t) = some (exR u (expF (u.drop t.2) t.1)) := by
 refine zjM (fun t => u.length - t.2) (fun t : Shard × Nat => t.2 ≤ u.length ∧ shC t.1) (exS u) (fun t => some (exR u (expF (u.drop t.2) t.1))) fun ⟨s, i⟩ ⟨hi, hs⟩ L ih => ?_
 simp only at hi hs
 by_cases h0 : i < u.length
 · simp only
   rw [List.drop_eq_getElem_cons h0, expF]
   have hr := zq4 s u[i] hs.1 hs.2.1 hs.2.2.1 hs.2.2.2
   by_cases c1 : (relS s u[i]).2.2 = 0
   · have hC := rel_C hs c1
     have hp := zp2 (relS s u[i]).1.ready (relS s u[i]).2.1 (by have := hC.2.1; omega)
     rw [if_neg (fun q => q c1)]
     by_cases c2 : (pbD (relS s u[i]).1.ready (relS s u[i]).2.1).2 = 0
     · have hpc := zyU c2
       rw [if_neg (fun q => q c2)]
       have i1 := ih ⟨{ (relS s u[i]).1 with ready := (pbD (relS s u[i]).1.ready (relS s u[i]).2.1).1 }, i + 1⟩ ⟨by simp only; omega, ⟨by simp only; rw [hpc]; exact hC.1, by simp only; rw [hpc]; exact hC.2.1, hC.2.2⟩⟩ (by simp only; omega)
       clear ih hC hpc
       simp only at i1
       generalize exR u (expF (u.drop (i + 1)) { (relS s u[i]).1 with ready := (pbD (relS s u[i]).1.ready (relS s u[i]).2.1).1 }) = R at *
       generalize pbD (relS s u[i]).1.ready (relS s u[i]).2.1 = p at *
       generalize relS s u[i] = r at *
       obtain ⟨s2, m, e⟩ := r
       obtain ⟨r2, e2⟩ := p
       simp only at c1 c2
       subst c1 c2
       simp only [exS, shZ, l_shard_Expire_0] at *
       simp only [eShard, eMessage, eRing] at *
       simp only [Int.natCast_add, Int.natCast_one, Int.natCast_zero, Int.natCast_mul, Int.cast_ofNat_Int, List.length_append, List.length_map, List.map_nil, List.length_nil, List.map_append, List.map_cons, List.length_cons, Nat.zero_add, srcO, mapSet] at i1
       simp -implicitDefEqProofs (disch := omega) only [getDT, go_sem, *]
     · rw [if_pos c2]
       clear ih hC
       generalize pbD (relS s u[i]).1.ready (relS s u[i]).2.1 = p at *
       generalize relS s u[i] = r at *
       obtain ⟨s2, m, e⟩ := r
       obtain ⟨r2, e2⟩ := p
       simp only at c1 c2
       subst c1
       unfold exR
       rw [if_neg c2]
       simp only [exS, shZ, l_shard_Expire_0] at *
       simp only [eShard, eMessage, eRing, zShard, List.map_nil] at *
       simp -implicitDefEqProofs (disch := omega) only [getDT, go_sem, *]
   · rw [if_pos c1]
     clear ih
     generalize relS s u[i] = r at *
     obtain ⟨s2, m, e⟩ := r
     simp only at c1
     unfold exR
     rw [if_neg c1]
     simp only [exS, shZ, l_shard_Expire_0] at *
     simp only [eShard, eMessage, zShard, List.map_nil] at *
     simp -implicitDefEqProofs (disch := omega) only [getDT, go_sem, *]
 · clear ih
   obtain rfl : i = u.length := by omega
   simp only [List.drop_length, expF, exR, if_true]
   simp only [exS, shZ, eShard, l_shard_Expire_0]
   simp -implicitDefEqProofs (disch := omega) only [getDT, go_sem, *]
def expD (s : Shard) (now ep lim : Int) : Shard × List Int × Int :=
 if usE s (tiQ now && (epQ ep && liQ lim)) ≠ 0 then (zShard, [], usE s (tiQ now && (epQ ep && liQ lim)))
 else if (expF (lapsedD s.leases now ep) s).2 = 0 then ((expF (lapsedD s.leases now ep) s).1, lapsedD s.leases now ep, 0) else (zShard, [], (expF (lapsedD s.leases now ep) s).2)
theorem zrz (t : Table) (now ep : Int) : (lapsedD t now ep).length ≤ 12 := by
 unfold lapsedD
 split
 · rename_i h; exact Nat.le_trans (List.length_filter_le _ _) (ztm h now)
 · simp
theorem zvJ (s : Shard) (now ep lim : Int) (h1 : s.ready.cells.length ≤ 4294967296) (h2 : s.leases.l.length ≤ 4294967296) (h3 : s.leases.heap.length ≤ 4294967296) : callL G z2G [.d (eShard s), .d (.int .i64 now), .d (.int .i64 ep), .d (.int .i64 lim)] [] = some (.d (.tup [eShard (expD s now ep lim).1, .sl (ints (expD s now ep lim).2.1), .int .i64 (expD s now ep lim).2.2]), []) := by
 have hu := znM s [tiQ now, epQ ep, liQ lim] (by simp) h1 h2 h3
 have e1 := znw now
 have e2 := zl1 ep
 have e3 := zpA lim
 simp only [List.map_cons, List.map_nil, List.all_cons, List.all_nil, id, Bool.and_true] at hu
 unfold expD
 by_cases c : usE s (tiQ now && (epQ ep && liQ lim)) = 0
 · obtain ⟨d1, d2, d3, d4⟩ := zkv c
   have ho := znK s d1 d2 d3 d4
   have hl := zxk s.leases now ep (by omega) (by omega)
   have hlp := zvI (lapsedD s.leases now ep) (zrz _ _ _) ⟨s, 0⟩ ⟨by simp, ⟨d1, d2, d3, d4⟩⟩
   have herr := zvH (lapsedD s.leases now ep) s
   have hle := zrz s.leases now ep
   rw [c] at hu
   rw [if_neg (fun q => q c)]
   clear c
   simp only [List.drop_zero] at hlp
   generalize expF (lapsedD s.leases now ep) s = x at *
   generalize lapsedD s.leases now ep = w at *
   generalize tiQ now = b1 at *
   generalize epQ ep = b2 at *
   generalize liQ lim = b4 at *
   obtain ⟨s2, e⟩ := x
   unfold exR at hlp
   by_cases c3 : e = 0
   · subst c3
     clear herr
     simp only [if_true, exS, shZ, Int.natCast_zero] at hlp ⊢
     simp only [eShard, eTable] at *
     rw [zjI z6h (by simp)]; simp -implicitDefEqProofs (disch := omega) only [z3Z, getDT, go_sem, *]
   · have q1 := herr c3
     simp only at q1
     subst q1
     clear herr
     simp only [if_neg c3, exS, shZ, Int.natCast_zero] at hlp ⊢
     simp only [eShard, eTable, zShard, List.map_nil, ints] at *
     rw [zjI z6h (by simp)]; simp -implicitDefEqProofs (disch := omega) only [z3Z, getDT, go_sem, *]
 · rw [if_pos c]
   generalize usE s (tiQ now && (epQ ep && liQ lim)) = u at *
   generalize tiQ now = b1 at *
   generalize epQ ep = b2 at *
   generalize liQ lim = b4 at *
   simp only [eShard, zShard, List.map_nil, ints] at *
   rw [zjI z6h (by simp)]; simp -implicitDefEqProofs (disch := omega) only [z3Z, getDT, go_sem, *]
def storD (s : Shard) : Int := if shardV s = 0 then s.ready.size + s.leases.l.length else 0
theorem ztu (s : Shard) (h1 : s.ready.cells.length ≤ 4294967296) (h2 : s.leases.l.length ≤ 4294967296) (h3 : s.leases.heap.length ≤ 4294967296) : callL G z2J [.d (eShard s)] [] = some (.d (.int .i64 (storD s)), []) := by
 have h := zqa s h1 h2 h3
 unfold storD
 by_cases c : shardV s = 0
 · have hc : usE s true = 0 ∨ s.live = false := by
    cases hl : s.live
    · exact .inr rfl
    · left; unfold usE liveV; rw [if_neg, if_pos rfl]
      rw [if_neg (fun q => q c), if_pos hl]; simp
   have hb : 0 ≤ s.ready.size ∧ s.ready.size ≤ 12 ∧ s.leases.l.length ≤ 12 := by
    have hv := c
    unfold shardV at hv
    split at hv
    · rename_i q; exact absurd hv q
    · rename_i q1
      split at hv
      · rename_i q; exact absurd hv q
      · rename_i q2
        obtain ⟨a1, a2, a3, a4, a5, a6⟩ := zjR (Classical.not_not.1 q1)
        obtain ⟨b1, b2⟩ := zl8 (Classical.not_not.1 q2)
        exact ⟨a5, by omega, b1⟩
   have hs := zqg s hb.2.2 hb.1 hb.2.1
   rw [c] at h
   rw [if_pos c]
   clear c hc
   simp only [eShard] at *
   rw [zjI z8C (by simp)]; simp -implicitDefEqProofs (disch := omega) only [z70, getDT, go_sem, *]
 · rw [if_neg c]
   generalize shardV s = v at *
   simp only [eShard] at *
   rw [zjI z8C (by simp)]; simp -implicitDefEqProofs (disch := omega) only [z70, getDT, go_sem, *]
def VS (n h : Nat) (L : List Message) (t : Table) (lo hi : Int) : Prop := 1 ≤ n ∧ n ≤ 12 ∧ h < n ∧ L.length + t.l.length ≤ n ∧ 0 ≤ lo ∧ lo ≤ hi ∧ hi < 65536 ∧ (∀ m ∈ L, msgV m = 0 ∧ lo ≤ m.route ∧ m.route ≤ hi) ∧ tabV t = 0 ∧ (∀ y ∈ t.l, lo ≤ y.msg.route ∧ y.msg.route ≤ hi) ∧ (L.map (·.id) ++ t.l.map (fun y => y.msg.id)).Nodup
def mkS (n h : Nat) (L : List Message) (t : Table) (lo hi : Int) : Shard := ⟨true, lo, hi, rg n h L, t⟩
theorem VS.ring {n h : Nat} {L : List Message} {t : Table} {lo hi : Int} (v : VS n h L t lo hi) : ringV (rg n h L) = 0 := by
 obtain ⟨a1, a2, a3, a4, _, _, _, b, _, _, c⟩ := v
 exact zoZ a1 a2 a3 (by omega) (fun m hm => (b m hm).1) (List.nodup_append.1 c).1
theorem VS.ord {n h : Nat} {L : List Message} {t : Table} {lo hi : Int} (v : VS n h L t lo hi) : ordD (rg n h L) = L := by
 obtain ⟨a1, a2, a3, a4, _⟩ := v
 rw [rg, zkq]; exact zl4 a1 (by omega)
theorem VS.val {n h : Nat} {L : List Message} {t : Table} {lo hi : Int} (v : VS n h L t lo hi) : shardV (mkS n h L t lo hi) = 0 := by
 have hr : ringV (mkS n h L t lo hi).ready = 0 := v.ring
 have hm : shMsgs (mkS n h L t lo hi) = L ++ t.l.map (·.msg) := by unfold shMsgs mkS; rw [v.ord]
 obtain ⟨a1, a2, a3, a4, a5, a6, a7, b1, b2, b3, c⟩ := v
 rw [znJ hr b2, hm]
 rw [if_neg (by simp [mkS]), if_neg (by simp only [mkS]; omega), if_neg, if_neg, if_neg]
 · unfold dupI
   simp only [decide_eq_true_eq, Classical.not_not, List.map_append, List.map_map]
   exact c
 · unfold movE
   simp only [Bool.not_eq_true, List.any_eq_false, decide_eq_true_eq, Classical.not_not, List.mem_append, List.mem_map]
   rintro m (hx | ⟨y, hy, rfl⟩)
   · exact (b1 m hx).2
   · exact b3 y hy
 · simp only [mkS, rg, wN_len]; omega
theorem vs_of {s : Shard} (hv : shardV s = 0) (hl : s.live = true) : ∃ n h : Nat, s = mkS n h (ordD s.ready) s.leases s.low s.high ∧ VS n h (ordD s.ready) s.leases s.low s.high := by
 have h1 : ringV s.ready = 0 := by
  have q := hv
  unfold shardV at q
  split at q
  · rename_i c; exact absurd q c
  · rename_i c; exact Classical.not_not.1 c
 have h2 : tabV s.leases = 0 := by
  have q := hv
  unfold shardV at q
  rw [if_neg (fun c => c h1)] at q
  split at q
  · rename_i c; exact absurd q c
  · rename_i c; exact Classical.not_not.1 c
 rw [znJ h1 h2, if_neg (by rw [hl]; simp)] at hv
 split at hv
 · cases hv
 rename_i c1
 split at hv
 · cases hv
 rename_i c2
 split at hv
 · cases hv
 rename_i c3
 split at hv
 · cases hv
 rename_i c4
 obtain ⟨n, h, hrg, d1, d2, d3, d4, d5, d6⟩ := rg_of h1
 have hc : s.ready.cells.length = n := by rw [hrg]; exact wN_len _ _ _ _
 have hz : s.ready.size = ((ordD s.ready).length : Int) := by rw [zke]; have := congrArg Ring.size hrg; simp only [rg] at this; omega
 have c1 := Classical.not_not.1 c1
 refine ⟨n, h, ?_, d1, d2, d3, by omega, c1.1, c1.2.1, c1.2.2, ?_, h2, ?_, ?_⟩
 · obtain ⟨lv, lo, hi, r, t⟩ := s
   simp only at hl hrg
   subst hl
   show _ = Shard.mk true lo hi _ t
   congr 1
 · intro m hm
   refine ⟨d5 m hm, ?_⟩
   unfold movE at c3
   simp only [Bool.not_eq_true, List.any_eq_false, decide_eq_true_eq, Classical.not_not, shMsgs, List.mem_append, List.mem_map] at c3
   exact c3 m (.inl hm)
 · intro y hy
   unfold movE at c3
   simp only [Bool.not_eq_true, List.any_eq_false, decide_eq_true_eq, Classical.not_not, shMsgs, List.mem_append, List.mem_map] at c3
   exact c3 y.msg (.inr ⟨y, hy, rfl⟩)
 · unfold dupI shMsgs at c4
   simp only [decide_eq_true_eq, Classical.not_not, List.map_append, List.map_map] at c4
   exact c4
theorem zog (n h : Nat) (L : List Message) : (rg n h L).cells.length = n := wN_len _ _ _ _
theorem zrh {l : List Message} {id : Int} (h : ∃ m ∈ l, m.id = id) : 0 ≤ fstI l id := by
 unfold fstI idxI
 cases hc : l.findIdx? (fun m : Message => decide (m.id = id)) with
 | some i => simp
 | none =>
  obtain ⟨m, hm, e⟩ := h
  have := (List.findIdx?_eq_none_iff.1 hc) m hm
  simp [e] at this
theorem zws {l : List Message} {id : Int} (h : 0 ≤ fstI l id) : (l.getD (fstI l id).toNat zMessage).id = id := by
 unfold fstI idxI at h ⊢
 cases hc : l.findIdx? (fun m : Message => decide (m.id = id)) with
 | none => rw [hc] at h; simp at h
 | some i =>
  obtain ⟨hi, hp, _⟩ := List.findIdx?_eq_some_iff_getElem.1 hc
  simp only [Int.toNat_natCast]
  rw [List.getD_eq_getElem?_getD, List.getElem?_eq_getElem hi]
  exact of_decide_eq_true hp
theorem zyp {l : List Message} (h : (l.map (·.id)).Nodup) {a b : Message} (ha : a ∈ l) (hb : b ∈ l) (e : a.id = b.id) : a = b := by
 induction l with
 | nil => cases ha
 | cons x l ih =>
  simp only [List.map_cons, List.nodup_cons, List.mem_map, not_exists, not_and] at h
  cases ha with
  | head =>
   cases hb with
   | head => rfl
   | tail _ hb => exact absurd e.symm (h.1 b hb)
  | tail _ ha =>
   cases hb with
   | head => exact absurd e (h.1 a ha)
   | tail _ hb => exact ih h.2 ha hb
theorem VS.rem {n h : Nat} {L : List Message} {t : Table} {lo hi : Int} (v : VS n h L t lo hi) {m : Message} (hm : m ∈ L) : ∃ k, ∃ hk : k < L.length, L[k] = m ∧ rmD (rg n h L) m.id = (rg n h (L.eraseIdx k), m, 0) := by
 have h0 : 0 ≤ fstI L m.id := zrh ⟨m, hm, rfl⟩
 have hk := zps h0
 have hid := zws h0
 have e : L.getD (fstI L m.id).toNat zMessage = m := by
  refine zyp (List.nodup_append.1 v.2.2.2.2.2.2.2.2.2.2).1 ?_ hm hid
  rw [List.getD_eq_getElem?_getD, List.getElem?_eq_getElem hk]; exact List.getElem_mem hk
 refine ⟨_, hk, ?_, ?_⟩
 · exact (zpt hk).trans e
 · have hE : rmE (rg n h L) m.id = 0 := by
    unfold rmE
    rw [if_neg (fun q => q v.ring), v.ord, if_neg (by omega)]
   unfold rmD
   rw [if_pos hE, v.ord, zog, e]
   rfl
theorem del_ok {m : Message} (h : msgV m = 0) (h1 : m.gen < 65536) (h2 : m.count < 8) : delM m = ({ m with count := m.count + 1, gen := m.gen + 1 }, 0) := by
 unfold delM
 rw [if_neg (fun q => q h), if_neg (by omega), if_neg (by omega)]
theorem zpM (m : Message) : msgV m = 0 ↔ (1 ≤ m.id ∧ m.id ≤ 1073741824 ∧ 0 ≤ m.route ∧ m.route ≤ 65535 ∧ 0 ≤ m.epoch ∧ m.epoch ≤ 65536 ∧ 0 ≤ m.count ∧ m.count ≤ 8 ∧ m.count ≤ m.gen ∧ m.gen ≤ 65536 ∧ 0 ≤ m.sent ∧ m.sent ≤ 1073741824) ∧ m.body.length ≤ 16 := by
 unfold msgV
 split
 · rename_i c
   split
   · rename_i c2; exact ⟨(fun q => by cases q), (fun q => by omega)⟩
   · rename_i c2; exact ⟨fun _ => ⟨c, by omega⟩, fun _ => rfl⟩
 · rename_i c; exact ⟨(fun q => by cases q), (fun q => absurd q.1 c)⟩
theorem zox {α : Type} (l : List α) (k : Nat) (hk : k < l.length) : (l[k] :: l.eraseIdx k).Perm l := by
 rw [List.eraseIdx_eq_take_drop_succ]
 have e : l = l.take k ++ l[k] :: l.drop (k + 1) := by
  rw [← List.drop_eq_getElem_cons hk, List.take_append_drop]
 have := (List.perm_middle (a := l[k]) (l₁ := l.take k) (l₂ := l.drop (k + 1))).symm
 rw [← e] at this
 exact this
def upM (m : Message) : Message := { m with count := m.count + 1, gen := m.gen + 1 }
theorem zsC (ep lim : Int) (m : Message) : rcvQ ep lim m = true ↔ ep ≤ m.epoch ∧ m.count < lim ∧ m.gen < 65536 := by
 unfold rcvQ
 simp only [Bool.and_eq_true, Bool.not_eq_true', decide_eq_false_iff_not, decide_eq_true_eq]
 omega
theorem VS.dlv {n h : Nat} {L : List Message} {t : Table} {lo hi : Int} (v : VS n h L t lo hi) {m : Message} (hm : m ∈ L) {ep lim d : Int} (hq : rcvQ ep lim m = true) (hlim : lim ≤ 8) (hd0 : 0 ≤ d) (hd1 : d ≤ 1073741824) :
    ∃ k, ∃ hk : k < L.length, L[k] = m ∧ dlvD (mkS n h L t lo hi) m d = (mkS n h (L.eraseIdx k) (grantD t (upM m) d).1 lo hi, ⟨upM m, d⟩, 0) ∧ (grantD t (upM m) d).1.l = insLs t.l (upM m) d ∧ VS n h (L.eraseIdx k) (grantD t (upM m) d).1 lo hi := by
 obtain ⟨k, hk, ek, hr⟩ := v.rem hm
 obtain ⟨q1, q2, q3⟩ := (zsC ep lim m).1 hq
 obtain ⟨a1, a2, a3, a4, a5, a6, a7, b1, b2, b3, c⟩ := v
 obtain ⟨mv, mr1, mr2⟩ := b1 m hm
 have hdel := del_ok mv q3 (by omega)
 have mv2 := (zpM m).1 mv
 have hu : msgV (upM m) = 0 := by
  rw [zpM]
  simp only [upM]
  omega
 have hnf : findL t.l (upM m).id < 0 := by
  refine Classical.byContradiction fun hc => ?_
  obtain ⟨x, hx, e⟩ := (zl0 (l := t.l) (upM m).id).1 (by omega)
  refine (List.nodup_append.1 c).2.2 m.id (List.mem_map.2 ⟨m, hm, rfl⟩) x.msg.id (List.mem_map.2 ⟨x, hx, rfl⟩) ?_
  exact e.symm
 have hg := zrn b2 hu (by simp only [upM]; omega) hd0 hd1 (by omega) hnf
 obtain ⟨g1, _, g2, _⟩ := zpu hg
 refine ⟨k, hk, ek, ?_, g2, a1, a2, a3, ?_, a5, a6, a7, fun x hx => b1 x (List.mem_of_mem_eraseIdx hx), g1, ?_, ?_⟩
 · unfold dlvD
   have r1 : (rmD (mkS n h L t lo hi).ready m.id) = (rg n h (L.eraseIdx k), m, 0) := hr
   have d1 : delM m = (upM m, 0) := hdel
   have hg2 : (grantD (mkS n h L t lo hi).leases (upM m) d).2 = 0 := hg
   rw [r1]
   simp only [d1, hg2, ne_eq, not_true_eq_false, if_false]
   rfl
 · rw [g2, List.length_eraseIdx, if_pos hk, (zkm t.l (upM m) d).length_eq, List.length_cons]; omega
 · intro y hy
   rw [g2] at hy
   rcases List.mem_cons.1 ((zkm t.l (upM m) d).mem_iff.1 hy) with rfl | hy
   · exact ⟨mr1, mr2⟩
   · exact b3 y hy
 · rw [g2]
   have p1 : ((insLs t.l (upM m) d).map fun y => y.msg.id).Perm (m.id :: t.l.map fun y => y.msg.id) := (zkm t.l (upM m) d).map _
   have p2 : (m.id :: (L.eraseIdx k).map (·.id)).Perm (L.map (·.id)) := by
    have := (zox L k hk).map (·.id)
    rw [ek] at this
    exact this
   have p3 : ((L.eraseIdx k).map (·.id) ++ (insLs t.l (upM m) d).map fun y => y.msg.id).Perm (L.map (·.id) ++ t.l.map fun y => y.msg.id) :=
    (p1.append_left _).trans (List.perm_middle.trans (p2.append_right _))
   exact p3.nodup_iff.2 c
def idsS (L : List Message) (t : Table) : List Int := L.map (·.id) ++ t.l.map (fun y => y.msg.id)
theorem zrw {l : List Lease} {m : Message} {d : Int} {y : Lease} : y ∈ insLs l m d ↔ y = ⟨m, d⟩ ∨ y ∈ l := by
 rw [(zkm l m d).mem_iff, List.mem_cons]
theorem VS.take {n h : Nat} {lo hi mx d ep lim : Int} (hlim : lim ≤ 8) (hd0 : 0 ≤ d) (hd1 : d ≤ 1073741824) : ∀ (l L : List Message) (t : Table) (out : List Lease), VS n h L t lo hi → (∀ m ∈ l, m ∈ L) → (l.map (·.id)).Nodup →
    ∃ L' t' out', tkF mx d ep lim l (mkS n h L t lo hi) out = (mkS n h L' t' lo hi, out ++ out', 0) ∧ VS n h L' t' lo hi ∧ (idsS L' t').Perm (idsS L t) ∧
     (∀ y ∈ out', y.deadline = d ∧ y ∈ t'.l ∧ ∃ m ∈ L, y.msg = upM m ∧ rcvQ ep lim m = true) ∧ (∀ y ∈ t.l, y ∈ t'.l) := by
 intro l
 induction l with
 | nil => intro L t out v _ _; exact ⟨L, t, [], by simp [tkF], v, List.Perm.refl _, by simp, fun y hy => hy⟩
 | cons m l ih =>
  intro L t out v hl hn
  simp only [List.map_cons, List.nodup_cons] at hn
  rw [tkF]
  by_cases c : (out.length : Int) = mx ∨ rcvQ ep lim m = false
  · rw [if_pos c]
    exact ih L t out v (fun x hx => hl x (.tail _ hx)) hn.2
  · rw [if_neg c]
    have hq : rcvQ ep lim m = true := by
     cases hq : rcvQ ep lim m with
     | true => rfl
     | false => exact absurd (.inr hq) c
    have hm := hl m (.head _)
    obtain ⟨k, hk, ek, e1, e2, v2⟩ := v.dlv hm hq hlim hd0 hd1
    have hp := zox L k hk
    rw [ek] at hp
    have hl2 : ∀ x ∈ l, x ∈ L.eraseIdx k := by
     intro x hx
     rcases List.mem_cons.1 (hp.mem_iff.2 (hl x (.tail _ hx))) with rfl | hx2
     · exact absurd (List.mem_map.2 ⟨x, hx, rfl⟩) hn.1
     · exact hx2
    obtain ⟨L', t', out', r1, r2, r3, r4, r5⟩ := ih (L.eraseIdx k) (grantD t (upM m) d).1 (out ++ [⟨upM m, d⟩]) v2 hl2 hn.2
    rw [e1]
    simp only [ne_eq, not_true_eq_false, if_false]
    refine ⟨L', t', ⟨upM m, d⟩ :: out', by rw [r1]; simp, r2, ?_, ?_, ?_⟩
    · refine r3.trans ?_
      unfold idsS
      rw [e2]
      have p1 : ((insLs t.l (upM m) d).map fun y => y.msg.id).Perm (m.id :: t.l.map fun y => y.msg.id) := (zkm t.l (upM m) d).map _
      have p2 : (m.id :: (L.eraseIdx k).map (·.id)).Perm (L.map (·.id)) := by have := hp.map (fun x : Message => x.id); exact this
      exact (p1.append_left _).trans (List.perm_middle.trans (p2.append_right _))
    · intro y hy
      rcases List.mem_cons.1 hy with rfl | hy
      · exact ⟨rfl, r5 _ (by rw [e2]; exact zrw.2 (.inl rfl)), m, hm, rfl, hq⟩
      · obtain ⟨s1, s2, m2, s3, s4⟩ := r4 y hy
        exact ⟨s1, s2, m2, List.mem_of_mem_eraseIdx s3, s4⟩
    · intro y hy
      exact r5 y (by rw [e2]; exact zrw.2 (.inr hy))
theorem zvV {t : Table} (h : tabV t = 0) {y : Lease} (hy : y ∈ t.l) : findT t y.msg.id = (y, true) := by
 have h0 : 0 ≤ findL t.l y.msg.id := (zl0 (l := t.l) y.msg.id).2 ⟨y, hy, rfl⟩
 have ha := zk8 (zk6 h).2.1
 obtain ⟨hp, e⟩ := (znc ha y.msg.id).1 h0
 have e2 := znV ha h0
 unfold findT
 rw [if_pos ⟨h, h0⟩, e2, Int.toNat_natCast]
 have e3 : t.l[posL t.l y.msg.id] = y := by
  obtain ⟨j, hj, rfl⟩ := List.mem_iff_getElem.1 hy
  have hpw := List.pairwise_iff_getElem.1 ha
  rcases Nat.lt_trichotomy (posL t.l t.l[j].msg.id) j with c | c | c
  · have := hpw _ _ hp hj c; omega
  · congr 1
  · have := hpw _ _ hj hp c; omega
 rw [List.getD_eq_getElem?_getD, List.getElem?_eq_getElem hp]
 simp only [Option.getD_some, e3]
theorem zwA {s : Shard} (ht : tabV s.leases = 0) {y : Lease} (hy : y ∈ s.leases.l) (h : Handle) (hid : h.id = y.msg.id) (now ep : Int) : holdsB s h now ep = (decide (y.msg.gen = h.gen) && (decide (y.msg.route = h.route) && (!decide (y.msg.epoch < ep) && decide (now < y.deadline)))) := by
 unfold holdsB
 rw [hid, zvV ht hy, Bool.true_and]
theorem VS.rel {n h : Nat} {L : List Message} {t : Table} {lo hi : Int} (v : VS n h L t lo hi) {y : Lease} (hy : y ∈ t.l) : ∃ t', relS (mkS n h L t lo hi) y.msg.id = (mkS n h L t' lo hi, y.msg, 0) ∧ VS n h L t' lo hi ∧ (y :: t'.l).Perm t.l := by
 obtain ⟨a1, a2, a3, a4, a5, a6, a7, b1, b2, b3, c⟩ := v
 have h0 : 0 ≤ findL t.l y.msg.id := (zl0 (l := t.l) y.msg.id).2 ⟨y, hy, rfl⟩
 have hr := (zq3 (id := y.msg.id) b2).2 h0
 obtain ⟨r1, _, k, hk, e1, e2, e3, e4⟩ := zsM hr
 have ey : t.l[k] = y := by
  have ha := zk8 (zk6 b2).2.1
  obtain ⟨j, hj, rfl⟩ := List.mem_iff_getElem.1 hy
  have hpw := List.pairwise_iff_getElem.1 ha
  rcases Nat.lt_trichotomy k j with c | c | c
  · have := hpw _ _ hk hj c; omega
  · congr 1
  · have := hpw _ _ hj hk c; omega
 have hp : (y :: (relD t y.msg.id).1.l).Perm t.l := by
  rw [e3, zr2, ← ey]; exact zox t.l k hk
 refine ⟨(relD t y.msg.id).1, ?_, ⟨a1, a2, a3, ?_, a5, a6, a7, b1, r1, fun x hx => b3 x (hp.mem_iff.1 (.tail _ hx)), ?_⟩, hp⟩
 · unfold relS
   rw [if_pos (show (relD (mkS n h L t lo hi).leases y.msg.id).2.2 = 0 from hr)]
   show (_, (relD t y.msg.id).2.1, _) = _
   rw [e4, ey]; rfl
 · have := hp.length_eq; simp only [List.length_cons] at this; omega
 · have p : (L.map (·.id) ++ (y.msg.id :: (relD t y.msg.id).1.l.map fun x => x.msg.id)).Perm (L.map (·.id) ++ t.l.map fun x => x.msg.id) := (hp.map (fun x : Lease => x.msg.id)).append_left _
   have q := List.perm_middle.nodup_iff.1 (p.nodup_iff.2 c)
   exact (List.nodup_cons.1 q).2
theorem VS.back {n h : Nat} {L : List Message} {t : Table} {lo hi : Int} (v : VS n h L t lo hi) {m : Message} (hm : msgV m = 0) (hr : lo ≤ m.route ∧ m.route ≤ hi) (hl : L.length + t.l.length < n) (hid : m.id ∉ idsS L t) (lim : Int) :
    ∃ h' L', backD (mkS n h L t lo hi) m lim = (rg n h' L', 0) ∧ VS n h' L' t lo hi ∧ L'.length = L.length + 1 ∧ (L'.map (·.id)).Perm (m.id :: L.map (·.id)) := by
 have hord := v.ord
 obtain ⟨a1, a2, a3, a4, a5, a6, a7, b1, b2, b3, c⟩ := v
 have hni : ∀ x ∈ L, x.id ≠ m.id := fun x hx e => hid (List.mem_append.2 (.inl (List.mem_map.2 ⟨x, hx, e⟩)))
 have hp : pushR (rg n h L) m = 0 := zpT a1 a2 a3 (by omega) (fun x hx => (b1 x hx).1) (List.nodup_append.1 c).1 hm hni
 have hnd : (m.id :: (L.map (·.id) ++ t.l.map fun y => y.msg.id)).Nodup := List.nodup_cons.2 ⟨hid, c⟩
 by_cases c1 : lim ≤ m.count
 · have p : ((L ++ [m]).map (·.id)).Perm (m.id :: L.map (·.id)) := by
    rw [List.map_append]; exact List.perm_append_comm
   refine ⟨h, L ++ [m], ?_, ⟨a1, a2, a3, by simp only [List.length_append, List.length_singleton]; omega, a5, a6, a7, fun x hx => ?_, b2, b3, ?_⟩, by simp, p⟩
   · unfold backD
     rw [if_pos c1]
     show pbD (rg n h L) m = _
     unfold pbD
     rw [if_pos hp, hord, zog]; rfl
   · rcases List.mem_append.1 hx with hx | hx
     · exact b1 x hx
     · rw [List.mem_singleton.1 hx]; exact ⟨hm, hr⟩
   · exact (p.append_right _).nodup_iff.2 hnd
 · refine ⟨(h + n - 1) % n, m :: L, ?_, ⟨a1, a2, mod_lt' a1, by simp only [List.length_cons]; omega, a5, a6, a7, fun x hx => ?_, b2, b3, hnd⟩, by simp, List.Perm.refl _⟩
   · unfold backD
     rw [if_neg c1]
     show pfD (rg n h L) m = _
     unfold pfD
     rw [if_pos hp, hord, zog]; rfl
   · cases hx with
     | head => exact ⟨hm, hr⟩
     | tail _ hx => exact b1 x hx
theorem VS.us {n h : Nat} {L : List Message} {t : Table} {lo hi : Int} (v : VS n h L t lo hi) (b : Bool) : usE (mkS n h L t lo hi) b = if b = true then 0 else 1 := by
 have hl : liveV (mkS n h L t lo hi) = 0 := by
  unfold liveV
  rw [if_neg (fun q => q v.val)]; rfl
 unfold usE
 rw [if_neg (fun q => q hl)]
theorem VS.lens {n h : Nat} {L : List Message} {t : Table} {lo hi : Int} (v : VS n h L t lo hi) : (mkS n h L t lo hi).ready.cells.length ≤ 12 ∧ (mkS n h L t lo hi).leases.l.length ≤ 12 ∧ (mkS n h L t lo hi).leases.heap.length ≤ 12 := by
 obtain ⟨b1, b2⟩ := zl8 v.2.2.2.2.2.2.2.2.1
 exact ⟨by show (rg n h L).cells.length ≤ 12; rw [zog]; exact v.2.1, b1, b2⟩
def hdOf (m : Message) : Handle := ⟨m.id, m.gen, m.route, 0⟩
theorem VS.gone {n h : Nat} {L : List Message} {t t' : Table} {lo hi : Int} (v : VS n h L t lo hi) {y : Lease} (hp : (y :: t'.l).Perm t.l) : y.msg.id ∉ idsS L t' := by
 have c := v.2.2.2.2.2.2.2.2.2.2
 have p : (L.map (·.id) ++ (y.msg.id :: t'.l.map fun x => x.msg.id)).Perm (L.map (·.id) ++ t.l.map fun x => x.msg.id) := (hp.map (fun x : Lease => x.msg.id)).append_left _
 exact (List.nodup_cons.1 (List.perm_middle.nodup_iff.1 (p.nodup_iff.2 c))).1
theorem VS.holds {n h : Nat} {L : List Message} {t : Table} {lo hi : Int} (v : VS n h L t lo hi) {y : Lease} (hy : y ∈ t.l) {now ep : Int} (hd : now < y.deadline) (he : ep ≤ y.msg.epoch) : holdsB (mkS n h L t lo hi) (hdOf y.msg) now ep = true := by
 rw [zwA (s := mkS n h L t lo hi) v.2.2.2.2.2.2.2.2.1 hy (hdOf y.msg) rfl]
 simp only [hdOf, decide_true, Bool.true_and, Bool.and_eq_true, Bool.not_eq_true', decide_eq_false_iff_not, decide_eq_true_eq]
 omega
theorem VS.ack {n h : Nat} {L : List Message} {t : Table} {lo hi : Int} (v : VS n h L t lo hi) {y : Lease} (hy : y ∈ t.l) {now ep : Int} (hd : now < y.deadline) (he : ep ≤ y.msg.epoch) (hn : tiQ now = true) (hq : epQ ep = true) : ∃ t', ackD (mkS n h L t lo hi) (hdOf y.msg) now ep = (mkS n h L t' lo hi, 0) ∧ VS n h L t' lo hi ∧ (y :: t'.l).Perm t.l := by
 obtain ⟨t', r1, r2, r3⟩ := v.rel hy
 refine ⟨t', ?_, r2, r3⟩
 have hu : usE (mkS n h L t lo hi) (tiQ now && epQ ep) = 0 := by rw [v.us, hn, hq]; rfl
 unfold ackD
 rw [if_neg (fun q => q hu), if_pos (v.holds hy hd he)]
 show ((relS (mkS n h L t lo hi) y.msg.id).1, (relS (mkS n h L t lo hi) y.msg.id).2.2) = _
 rw [r1]
theorem VS.nack {n h : Nat} {L : List Message} {t : Table} {lo hi : Int} (v : VS n h L t lo hi) {y : Lease} (hy : y ∈ t.l) {now ep lim : Int} (hd : now < y.deadline) (he : ep ≤ y.msg.epoch) (hn : tiQ now = true) (hq : epQ ep = true) (hl : liQ lim = true) : ∃ h' L' t', nackD (mkS n h L t lo hi) (hdOf y.msg) now ep lim = (mkS n h' L' t' lo hi, 0) ∧ VS n h' L' t' lo hi ∧ L'.length + t'.l.length = L.length + t.l.length ∧ (y :: t'.l).Perm t.l := by
 obtain ⟨t', r1, r2, r3⟩ := v.rel hy
 have hlen := r3.length_eq
 simp only [List.length_cons] at hlen
 have hmv : msgV y.msg = 0 := ((zkj t.l).1 (zk6 v.2.2.2.2.2.2.2.2.1).2.1).2 y hy |>.1
 obtain ⟨h', L', q1, q2, q3, q4⟩ := r2.back hmv (v.2.2.2.2.2.2.2.2.2.1 y hy) (by have := v.2.2.2.1; omega) (v.gone r3) lim
 refine ⟨h', L', t', ?_, q2, by omega, r3⟩
 have hu : usE (mkS n h L t lo hi) (tiQ now && (epQ ep && liQ lim)) = 0 := by rw [v.us, hn, hq, hl]; rfl
 unfold nackD
 rw [if_neg (fun q => q hu), if_pos (v.holds hy hd he)]
 have e : relS (mkS n h L t lo hi) (hdOf y.msg).id = (mkS n h L t' lo hi, y.msg, 0) := r1
 rw [e]
 simp only [q1, ne_eq, not_true_eq_false, if_false]
 rfl
end Go.Proofs.YtcjncbkhbllchaaGreat.L

namespace Go.Proofs.YtcjncbkhbllchaaGreat.L
open Go Go.Sim Go.Proofs.YtcjncbkhbllchaaGreat
def allIds (s : Shard) : List Int := (shMsgs s).map (·.id)
theorem VS.AI {n h : Nat} {L : List Message} {t : Table} {lo hi : Int} (v : VS n h L t lo hi) : allIds (mkS n h L t lo hi) = idsS L t := by
 unfold allIds shMsgs idsS mkS
 rw [v.ord, List.map_append, List.map_map]
 rfl
theorem zkf {s : Shard} {b : Bool} (h : usE s b = 0) : shardV s = 0 ∧ s.live = true := by
 have hl : liveV s = 0 := by
  unfold usE at h
  split at h
  · rename_i q; exact absurd h q
  · rename_i q; exact Classical.not_not.1 q
 unfold liveV at hl
 split at hl
 · rename_i q; exact absurd hl q
 · rename_i q
   split at hl
   · rename_i q2; exact ⟨Classical.not_not.1 q, q2⟩
   · cases hl
theorem znZ {s : Shard} {h : Handle} {now ep : Int} (q : holdsB s h now ep = true) : ∃ y ∈ s.leases.l, y.msg.id = h.id := by
 unfold holdsB at q
 rw [Bool.and_eq_true] at q
 have q := q.1
 unfold findT at q
 split at q
 · rename_i c; exact (zl0 (l := s.leases.l) h.id).1 c.2
 · cases q
theorem zuA {x : Shard} {mx now vis ep lim : Int} (h : (takeD x mx now vis ep lim).2.2 = 0) : shardV (takeD x mx now vis ep lim).1 = 0 ∧ (allIds (takeD x mx now vis ep lim).1).Perm (allIds x) := by
 by_cases c : takeU x mx now vis ep lim = 0
 · obtain ⟨hv, hl⟩ := zkf (s := x) c
   have hn := us_num (s := x) c
   simp only [Bool.and_eq_true, liQ, tiQ, viQ, decide_eq_true_eq] at hn
   by_cases c2 : 1073741824 < now + vis
   · unfold takeD at h
     rw [if_neg (fun q => q c), if_pos c2] at h
     cases h
   · obtain ⟨n, h', e, v⟩ := vs_of hv hl
     have et : takeD x mx now vis ep lim = tkF mx (now + vis) ep lim (ordD x.ready) x [] := by
      unfold takeD
      rw [if_neg (fun q => q c), if_neg c2]
     rw [et]
     generalize ordD x.ready = L at *
     generalize x.leases = t at *
     generalize x.low = lo at *
     generalize x.high = hi at *
     subst e
     obtain ⟨L', t', o', r1, r2, r3, _, _⟩ := VS.take (mx := mx) (d := now + vis) (ep := ep) (lim := lim) (by omega) (by omega) (by omega) L L t [] v (fun m hm => hm) (List.nodup_append.1 v.2.2.2.2.2.2.2.2.2.2).1
     rw [r1]
     refine ⟨r2.val, ?_⟩
     rw [r2.AI, v.AI]
     exact r3
 · unfold takeD at h
   rw [if_pos c] at h
   exact absurd h c
theorem permS {L : List Message} {t t' : Table} {y : Lease} (hp : (y :: t'.l).Perm t.l) : (y.msg.id :: idsS L t').Perm (idsS L t) :=
 List.perm_middle.symm.trans ((hp.map (fun x : Lease => x.msg.id)).append_left _)
theorem zuz {x : Shard} {hd : Handle} {now ep lim : Int} (h : (nackD x hd now ep lim).2 = 0) : shardV (nackD x hd now ep lim).1 = 0 ∧ (allIds (nackD x hd now ep lim).1).Perm (allIds x) := by
 by_cases c : usE x (tiQ now && (epQ ep && liQ lim)) = 0
 · by_cases c2 : holdsB x hd now ep = true
   · obtain ⟨hv, hl⟩ := zkf c
     obtain ⟨y, hy, ey⟩ := znZ c2
     obtain ⟨n, h', e, v⟩ := vs_of hv hl
     have en : nackD x hd now ep lim = if (relS x y.msg.id).2.2 ≠ 0 then (zShard, (relS x y.msg.id).2.2) else if (backD (relS x y.msg.id).1 (relS x y.msg.id).2.1 lim).2 ≠ 0 then (zShard, (backD (relS x y.msg.id).1 (relS x y.msg.id).2.1 lim).2) else ({ (relS x y.msg.id).1 with ready := (backD (relS x y.msg.id).1 (relS x y.msg.id).2.1 lim).1 }, 0) := by
      unfold nackD
      rw [if_neg (fun q => q c), if_pos c2, ey]
     rw [en]
     clear en h c c2
     generalize ordD x.ready = L at *
     generalize x.leases = t at *
     generalize x.low = lo at *
     generalize x.high = hi at *
     subst e
     obtain ⟨t', r1, r2, r3⟩ := v.rel hy
     have hlen := r3.length_eq
     simp only [List.length_cons] at hlen
     have hmv : msgV y.msg = 0 := ((zkj t.l).1 (zk6 v.2.2.2.2.2.2.2.2.1).2.1).2 y hy |>.1
     obtain ⟨h2, L', q1, q2, q3, q4⟩ := r2.back hmv (v.2.2.2.2.2.2.2.2.2.1 y hy) (by have := v.2.2.2.1; omega) (v.gone r3) lim
     rw [r1]
     simp only [q1, ne_eq, not_true_eq_false, if_false]
     have e2 : ({ mkS n h' L t' lo hi with ready := rg n h2 L' } : Shard) = mkS n h2 L' t' lo hi := rfl
     rw [e2]
     refine ⟨q2.val, ?_⟩
     rw [q2.AI, v.AI]
     exact (q4.append_right _).trans (permS r3)
   · unfold nackD at h
     rw [if_neg (fun q => q c), if_neg c2] at h
     cases h
 · unfold nackD at h
   rw [if_pos c] at h
   exact absurd h c
theorem zux {x : Shard} {hd : Handle} {now ep : Int} (h : (ackD x hd now ep).2 = 0) : shardV (ackD x hd now ep).1 = 0 ∧ (hd.id :: allIds (ackD x hd now ep).1).Perm (allIds x) := by
 by_cases c : usE x (tiQ now && epQ ep) = 0
 · by_cases c2 : holdsB x hd now ep = true
   · obtain ⟨hv, hl⟩ := zkf c
     obtain ⟨y, hy, ey⟩ := znZ c2
     obtain ⟨n, h', e, v⟩ := vs_of hv hl
     have en : ackD x hd now ep = ((relS x y.msg.id).1, (relS x y.msg.id).2.2) := by
      unfold ackD
      rw [if_neg (fun q => q c), if_pos c2, ey]
     rw [en, ← ey]
     clear en h c c2
     generalize ordD x.ready = L at *
     generalize x.leases = t at *
     generalize x.low = lo at *
     generalize x.high = hi at *
     subst e
     obtain ⟨t', r1, r2, r3⟩ := v.rel hy
     rw [r1]
     refine ⟨r2.val, ?_⟩
     show (y.msg.id :: allIds (mkS n h' L t' lo hi)).Perm _
     rw [r2.AI, v.AI]
     exact permS r3
   · unfold ackD at h
     rw [if_neg (fun q => q c), if_neg c2] at h
     cases h
 · unfold ackD at h
   rw [if_pos c] at h
   exact absurd h c
theorem zA7 {l : List Lease} {k : Nat} (hk : k < l.length) (d : Int) : ((l.set k ⟨l[k].msg, d⟩).map fun y => y.msg.id) = l.map fun y => y.msg.id := by
 refine List.ext_getElem (by simp) fun i h1 h2 => ?_
 simp only [List.getElem_map, List.getElem_set]
 split
 · rename_i e; subst e; rfl
 · rfl
theorem VS.ext {n h : Nat} {L : List Message} {t : Table} {lo hi : Int} (v : VS n h L t lo hi) {id d : Int} (he : (extD t id d).2 = 0) : VS n h L (extD t id d).1 lo hi ∧ idsS L (extD t id d).1 = idsS L t := by
 obtain ⟨x1, _, k, hk, _, x4, x5⟩ := zvK he
 have hids : ((extD t id d).1.l.map fun y => y.msg.id) = t.l.map fun y => y.msg.id := by rw [x5]; exact zA7 hk d
 have hlen : (extD t id d).1.l.length = t.l.length := by rw [x5, List.length_set]
 obtain ⟨a1, a2, a3, a4, a5, a6, a7, b1, b2, b3, c⟩ := v
 refine ⟨⟨a1, a2, a3, by omega, a5, a6, a7, b1, x1, fun y hy => ?_, by rw [hids]; exact c⟩, by unfold idsS; rw [hids]⟩
 rw [x5] at hy
 rcases List.mem_or_eq_of_mem_set hy with hy | rfl
 · exact b3 y hy
 · exact b3 t.l[k] (List.getElem_mem hk)
theorem zuy {x : Shard} {hd : Handle} {now ep vis : Int} (h : (chgD x hd now ep vis).2 = 0) : shardV (chgD x hd now ep vis).1 = 0 ∧ (allIds (chgD x hd now ep vis).1).Perm (allIds x) := by
 unfold chgD at h ⊢
 split at h
 · rename_i c; exact absurd h c
 · rename_i c
   rw [if_neg c]
   have c := Classical.not_not.1 c
   split at h
   · rename_i c2
     rw [if_pos c2]
     split at h
     · cases h
     · rename_i c3
       rw [if_neg c3]
       split at h
       · rename_i c4; exact absurd h c4
       · rename_i c4
         rw [if_neg c4]
         have c4 := Classical.not_not.1 c4
         obtain ⟨hv, hl⟩ := zkf c
         obtain ⟨n, h', e, v⟩ := vs_of hv hl
         clear h c c2 c3
         generalize ordD x.ready = L at *
         generalize x.leases = t at *
         generalize x.low = lo at *
         generalize x.high = hi at *
         subst e
         obtain ⟨v2, e2⟩ := v.ext c4
         have e3 : ({ mkS n h' L t lo hi with leases := (extD t hd.id (now + vis)).1 } : Shard) = mkS n h' L (extD t hd.id (now + vis)).1 lo hi := rfl
         show shardV ({ mkS n h' L t lo hi with leases := (extD t hd.id (now + vis)).1 } : Shard) = 0 ∧ (allIds ({ mkS n h' L t lo hi with leases := (extD t hd.id (now + vis)).1 } : Shard)).Perm _
         rw [e3]
         refine ⟨v2.val, ?_⟩
         rw [v2.AI, v.AI, e2]
   · cases h
theorem zyT (n h : Nat) (L : List Message) (t : Table) (lo hi : Int) (m : Message) : pbD (mkS n h L t lo hi).ready m = backD (mkS n h L t lo hi) m m.count := by
 unfold backD
 rw [if_pos (Int.le_refl _)]
def hB (s : Shard) (h : Handle) (now ep : Int) : Bool := decide (usE s (tiQ now && epQ ep) = 0) && holdsB s h now ep
def lens12 (s : Shard) : Prop := s.ready.cells.length ≤ 12 ∧ s.leases.l.length ≤ 12 ∧ s.leases.heap.length ≤ 12
structure LP (x y : Shard) (now vis ep lim : Int) (v : Lease) : Prop where
 dl : v.deadline = now + vis
 late : hB y (hdOf v.msg) (now + vis) ep = false
 held : 0 < vis → hB y (hdOf v.msg) (now + vis - 1) ep = true
 old : hB y { hdOf v.msg with gen := v.msg.gen - 1 } now ep = false
 oth : hB y { hdOf v.msg with route := (v.msg.route + 1).tmod 65536 } now ep = false
 pre : hB x (hdOf v.msg) now ep = false
 gen : 1 ≤ v.msg.gen ∧ v.msg.gen ≤ 65536
 rt : 0 ≤ v.msg.route ∧ v.msg.route ≤ 65535
 ack : 0 < vis → ∃ z, ackD y (hdOf v.msg) now ep = (z, 0) ∧ lens12 z ∧ hB z (hdOf v.msg) now ep = false ∧ storD z = storD y - 1
 nack : 0 < vis → ∃ w, nackD y (hdOf v.msg) now ep lim = (w, 0) ∧ lens12 w ∧ hB w (hdOf v.msg) now ep = false ∧ storD w = storD y
end Go.Proofs.YtcjncbkhbllchaaGreat.L

namespace Go.Proofs.YtcjncbkhbllchaaGreat
open Go Go.Sim
theorem zsy (r : Ring) (m : Message) (hL : r.cells.length ≤ 4294967296) : callL G zq [.d (eRing r), .d (eMessage m)] [] = some (.d (.tup [eRing (pbD r m).1, .int .i64 (pbD r m).2]), []) := by
 unfold pbD
 by_cases e1 : pushR r m = 0
 · rw [if_pos e1]
   have e2 := znE e1
   obtain ⟨n, h, hrg, h1, h2, h3, h4, h5, h6⟩ := rg_of e2.1
   have hc : r.cells.length = n := by rw [hrg]; exact wN_len _ _ _ _
   have hh : r.head.toNat = h := by rw [hrg]; rfl
   have hz : r.size = ((ordD r).length : Int) := by rw [zke]; have := congrArg Ring.size hrg; simp only [rg] at this; omega
   have hl : (ordD r).length < n := by have := e2.2.2.1; omega
   have hi : ∀ x ∈ ordD r, x.id ≠ m.id := by
    intro x hx e
    have h7 := e2.2.2.2
    unfold fstI at h7
    rw [znv] at h7
    have := h7 x hx
    simp [e] at this
   have hp := pb_rg h1 h2 h3 hl h5 h6 e2.2.1 hi
   rw [← hrg] at hp
   rw [hc, hh]
   exact hp
 · rw [if_neg e1]
   have hpu := zoR r m hL
   generalize pushR r m = v at *
   simp only [eRing, eMessage, zRing, List.map_nil] at *
   rw [zjI zbB (by simp)]; simp -implicitDefEqProofs (disch := omega) only [z6O, getDT, go_sem, *]
theorem zza (r : Ring) (m : Message) (hL : r.cells.length ≤ 4294967296) : callL G zr [.d (eRing r), .d (eMessage m)] [] = some (.d (.tup [eRing (pfD r m).1, .int .i64 (pfD r m).2]), []) := by
 unfold pfD
 by_cases e1 : pushR r m = 0
 · rw [if_pos e1]
   have e2 := znE e1
   obtain ⟨n, h, hrg, h1, h2, h3, h4, h5, h6⟩ := rg_of e2.1
   have hc : r.cells.length = n := by rw [hrg]; exact wN_len _ _ _ _
   have hh : r.head.toNat = h := by rw [hrg]; rfl
   have hz : r.size = ((ordD r).length : Int) := by rw [zke]; have := congrArg Ring.size hrg; simp only [rg] at this; omega
   have hl : (ordD r).length < n := by have := e2.2.2.1; omega
   have hi : ∀ x ∈ ordD r, x.id ≠ m.id := by
    intro x hx e
    have h7 := e2.2.2.2
    unfold fstI at h7
    rw [znv] at h7
    have := h7 x hx
    simp [e] at this
   have hp := pf_rg h1 h2 h3 hl h5 h6 e2.2.1 hi
   rw [← hrg] at hp
   rw [hc, hh]
   exact hp
 · rw [if_neg e1]
   have hpu := zoR r m hL
   generalize pushR r m = v at *
   simp only [eRing, eMessage, zRing, List.map_nil] at *
   rw [zjI z8o (by simp)]; simp -implicitDefEqProofs (disch := omega) only [z3M, getDT, go_sem, *]
theorem zB3 (l : List Message) (i : Nat) (hi : i < l.length) (hL : l.length ≤ 24) : callL G z1Z [.d (.sl (l.map eMessage)), .d (.int .i64 i)] [] = some (.d (.sl ((l.eraseIdx i).map eMessage)), []) := by
 have e : (l.eraseIdx i).map eMessage = (l.map eMessage).take i ++ (l.map eMessage).drop (i + 1) := by rw [List.eraseIdx_eq_take_drop_succ, List.map_append, List.map_take, List.map_drop]
 rw [e]
 have z1 := zkh (l.take i)
 have z2 := zkh (l.drop (i + 1))
 have hb : l.length - 1 ≤ 4294967296 := by omega
 by_cases c0 : i = 0
 · subst c0
   by_cases c1 : l.length = 1
   · rw [zjI z3p (by simp)]; simp -implicitDefEqProofs (disch := omega) only [z39, List.take_zero, List.nil_append, getDT, go_sem, *]
   · rw [zjI z3p (by simp)]; simp -implicitDefEqProofs (disch := omega) only [z39, List.take_zero, List.nil_append, getDT, go_sem, *]
 · by_cases c1 : i + 1 = l.length
   · rw [zjI z3p (by simp)]; simp -implicitDefEqProofs (disch := omega) only [z39, getDT, go_sem, *]
   · rw [zjI z3p (by simp)]; simp -implicitDefEqProofs (disch := omega) only [z39, getDT, go_sem, *]
theorem zzb (r : Ring) (id : Int) (hL : r.cells.length ≤ 4294967296) : callL G z03 [.d (eRing r), .d (.int .i64 id)] [] = some (.d (.tup [eRing (rmD r id).1, eMessage (rmD r id).2.1, .int .i64 (rmD r id).2.2]), []) := by
 have hv := zoS r hL
 by_cases e1 : ringV r = 0
 · obtain ⟨n, h, hrg, h1, h2, h3, h4, h5, h6⟩ := rg_of e1
   have hc : r.cells.length = n := by rw [hrg]; exact wN_len _ _ _ _
   have hh : r.head.toNat = h := by rw [hrg]; rfl
   have ho := znC (wN n h (ordD r) (ordD r).length) h (ordD r).length (by rw [wN_len]; exact h2) (by rw [wN_len]; exact h3) (by rw [wN_len]; exact h4)
   rw [zl4 h1 h4] at ho
   have hix := zo1 (ordD r) id (by omega)
   rw [e1] at hv
   by_cases e2 : fstI (ordD r) id < 0
   · have he : rmE r id = 4 := by unfold rmE; rw [if_neg (fun hc => hc e1), if_pos e2]
     have hd : rmD r id = (zRing, zMessage, 4) := by unfold rmD; rw [he, if_neg (by decide)]
     rw [hd]
     clear he hd h5 h6 e1 hc hh
     generalize fstI (ordD r) id = q at *
     generalize ordD r = L at *
     subst hrg
     simp only [eRing, rg, zRing, zMessage, eMessage, List.map_nil] at *
     rw [zjI z8p (by simp)]; simp -implicitDefEqProofs (disch := omega) only [z3N, getDT, go_sem, *]
   · have he : rmE r id = 0 := by unfold rmE; rw [if_neg (fun hc => hc e1), if_neg e2]
     have hd : rmD r id = (rg n h ((ordD r).eraseIdx (fstI (ordD r) id).toNat), (ordD r).getD (fstI (ordD r) id).toNat zMessage, 0) := by unfold rmD; rw [if_pos he, hc, hh]
     have hk := zps (show 0 ≤ fstI (ordD r) id by omega)
     obtain ⟨k, hkk⟩ : ∃ k : Nat, fstI (ordD r) id = k := ⟨(fstI (ordD r) id).toNat, by omega⟩
     rw [hd]
     rw [hkk] at hix hk e2 ⊢
     rw [Int.toNat_natCast] at hk ⊢
     have hw := zB3 (ordD r) k hk (by omega)
     have hwi := zqr (wN n h (ordD r) (ordD r).length) h (ordD r).length h ((ordD r).eraseIdx k) (by rw [wN_len]; omega) (by rw [wN_len]; omega) (by omega) (by rw [wN_len, List.length_eraseIdx, if_pos hk]; omega)
     rw [wN_len] at hwi
     rw [getDT hk]
     have e3 : rg n h ((ordD r).eraseIdx k) = ⟨wN n h ((ordD r).eraseIdx k) ((ordD r).eraseIdx k).length, h, ((ordD r).eraseIdx k).length⟩ := rfl
     rw [e3]
     clear he hd h5 h6 e1 hc hh hkk e2 e3
     have hlen : ((ordD r).eraseIdx k).length ≤ 12 := by rw [List.length_eraseIdx, if_pos hk]; omega
     generalize wN n h ((ordD r).eraseIdx k) ((ordD r).eraseIdx k).length = w2 at *
     generalize (ordD r).eraseIdx k = l2 at *
     generalize ordD r = L at *
     subst hrg
     simp only [eRing, rg, eMessage] at *
     generalize wN n h L L.length = w at *
     rw [zjI z8p (by simp)]; simp -implicitDefEqProofs (disch := omega) only [z3N, eMessage, getDT, go_sem, *]
 · have he : rmE r id = ringV r := by unfold rmE; rw [if_pos e1]
   have hd : rmD r id = (zRing, zMessage, ringV r) := by unfold rmD; rw [he, if_neg e1]
   rw [hd]
   clear he hd
   generalize ringV r = v at *
   simp only [eRing, zRing, zMessage, eMessage, List.map_nil] at *
   rw [zjI z8p (by simp)]; simp -implicitDefEqProofs (disch := omega) only [z3N, getDT, go_sem, *]
end Go.Proofs.YtcjncbkhbllchaaGreat
