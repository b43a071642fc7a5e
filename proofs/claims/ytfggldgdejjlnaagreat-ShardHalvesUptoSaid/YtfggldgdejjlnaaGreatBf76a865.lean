/-
  Shards at the layered table.
-/
import Derived.Test.YtfggldgdejjlnaaGreatB1125f8e
import Derived.Test.YtfggldgdejjlnaaGreatBe71a10c
import Derived.Test.YtfggldgdejjlnaaGreatBd9fdac4
set_option linter.unusedSimpArgs false
set_option linter.unusedVariables false
set_option maxHeartbeats 10000000
set_option maxRecDepth 100000
namespace Go.Proofs.YtfggldgdejjlnaaGreat.L
open Go Go.Sim
def zez (s : Shard) (now ep lim : Int) : Shard × List Int × Int :=
 if usE s (tiQ now && (epQ ep && liQ lim)) ≠ 0 then (zam, [], usE s (tiQ now && (epQ ep && liQ lim)))
 else if (zcp (zcK s.leases now ep) s).2 = 0 then ((zcp (zcK s.leases now ep) s).1, zcK s.leases now ep, 0) else (zam, [], (zcp (zcK s.leases now ep) s).2)
theorem zzu (t : Table) (now ep : Int) : (zcK t now ep).length <= 12 := by
 unfold zcK
 split
 · rename_i h; exact zRU (zSg _ _) (zBI h now)
 · simp
theorem zET (s : Shard) (now ep lim : Int) (h1 : s.ready.cells.length <= 4294967296) (h2 : s.leases.l.length <= 4294967296) (h3 : s.leases.heap.length <= 4294967296) : zd G ziD [.d (zj s), .d (.int .i64 now), .d (.int .i64 ep), .d (.int .i64 lim)] [] = some (.d (.tup [zj (zez s now ep lim).1, .sl (zy (zez s now ep lim).2.1), .int .i64 (zez s now ep lim).2.2]), []) := by
 have hu := zt2 s [tiQ now, epQ ep, liQ lim] (by simp) h1 h2 h3;have e1 := zsm now;have e2 := zsk ep;have e3 := zzt lim;simp only [zQS, zQR, zRL, zSZ, id, zS0] at hu;unfold zez
 by_cases c : usE s (tiQ now && (epQ ep && liQ lim)) = 0
 · obtain ⟨d1, d2, d3, d4⟩ := zBT c;have ho := zhx s d1 d2 d3 d4;have hl := zHF s.leases now ep (by omega) (by omega);have hlp := zES (zcK s.leases now ep) (zzu _ _ _) ⟨s, 0⟩ ⟨by simp, ⟨d1, d2, d3, d4⟩⟩;have herr := zER (zcK s.leases now ep) s;have hle := zzu s.leases now ep;rw [c] at hu;rw [zQN (fun q => q c)];clear c;simp only [zRB] at hlp;generalize zcp (zcK s.leases now ep) s = x at *;generalize zcK s.leases now ep = w at *;generalize tiQ now = b1 at *;generalize epQ ep = b2 at *;generalize liQ lim = b4 at *;obtain ⟨s2, e⟩ := x;unfold exR at hlp
   by_cases c3 : e = 0
   · subst c3;clear herr;simp only [if_true, exS, shZ, zQW] at hlp ⊢;simp only [zj, zO] at *;rw [ze znj (by simp)]; simp -implicitDefEqProofs (disch := omega) only [zla, za, go_sem, *]
   · have q1 := herr c3;simp only at q1;subst q1;clear herr;simp only [zQN c3, exS, shZ, zQW] at hlp ⊢;simp only [zj, zO, zam, zQR, zy] at *;rw [ze znj (by simp)]; simp -implicitDefEqProofs (disch := omega) only [zla, za, go_sem, *]
 · rw [zQO c];generalize usE s (tiQ now && (epQ ep && liQ lim)) = u at *;generalize tiQ now = b1 at *;generalize epQ ep = b2 at *;generalize liQ lim = b4 at *;simp only [zj, zam, zQR, zy] at *;rw [ze znj (by simp)]; simp -implicitDefEqProofs (disch := omega) only [zla, za, go_sem, *]
def zef (s : Shard) : Int := if zaG s = 0 then s.ready.size + s.leases.l.length else 0
theorem zo5 (s : Shard) (h1 : s.ready.cells.length <= 4294967296) (h2 : s.leases.l.length <= 4294967296) (h3 : s.leases.heap.length <= 4294967296) : zd G zcZ [.d (zj s)] [] = some (.d (.int .i64 (zef s)), []) := by
 have h := zox s h1 h2 h3;unfold zef
 by_cases c : zaG s = 0
 · have hc : usE s true = 0 \/ s.live = false := by
    cases hl : s.live
    · exact .inr rfl
    · left; unfold usE zaA; rw [zQN, zQO rfl];rw [zQN (fun q => q c), zQO hl]; simp
   have hb : 0 <= s.ready.size /\ s.ready.size <= 12 /\ s.leases.l.length <= 12 := by
    have hv := c;unfold zaG at hv
    split at hv
    · rename_i q; exact absurd hv q
    · rename_i q1
      split at hv
      · rename_i q; exact absurd hv q
      · rename_i q2;obtain ⟨a1, a2, a3, a4, a5, a6⟩ := zba (zRm.1 q1);obtain ⟨b1, b2⟩ := zeY (zRm.1 q2);exact ⟨a5, by omega, b1⟩
   have hs := zoD s hb.2.2 hb.1 hb.2.1;rw [c] at h;rw [zQO c];clear c hc;simp only [zj] at *;rw [ze zrm (by simp)]; simp -implicitDefEqProofs (disch := omega) only [zpJ, za, go_sem, *]
 · rw [zQN c];generalize zaG s = v at *;simp only [zj] at *;rw [ze zrm (by simp)]; simp -implicitDefEqProofs (disch := omega) only [zpJ, za, go_sem, *]
def VS (n h : Nat) (L : List Message) (t : Table) (lo hi : Int) : Prop := 1 <= n /\ n <= 12 /\ h < n /\ L.length + t.l.length <= n /\ 0 <= lo /\ lo <= hi /\ hi < 65536 /\ (∀ m ∈ L, zD m = 0 /\ lo <= m.route /\ m.route <= hi) /\ zF t = 0 /\ (∀ y ∈ t.l, lo <= y.msg.route /\ y.msg.route <= hi) /\ (L.map (·.id) ++ t.l.map (fun y => y.msg.id)).Nodup
def mkS (n h : Nat) (L : List Message) (t : Table) (lo hi : Int) : Shard := ⟨true, lo, hi, rg n h L, t⟩
theorem VS.ring {n h : Nat} {L : List Message} {t : Table} {lo hi : Int} (v : VS n h L t lo hi) : zW (rg n h L) = 0 := by
 obtain ⟨a1, a2, a3, a4, _, _, _, b, _, _, c⟩ := v;exact zor a1 a2 a3 (by omega) (fun m hm => (b m hm).1) (zRQ.1 c).1
theorem VS.ord {n h : Nat} {L : List Message} {t : Table} {lo hi : Int} (v : VS n h L t lo hi) : zw (rg n h L) = L := by
 obtain ⟨a1, a2, a3, a4, _⟩ := v;rw [rg, zea]; exact zfP a1 (by omega)
theorem VS.val {n h : Nat} {L : List Message} {t : Table} {lo hi : Int} (v : VS n h L t lo hi) : zaG (mkS n h L t lo hi) = 0 := by
 have hr : zW (mkS n h L t lo hi).ready = 0 := v.ring;have hm : zG (mkS n h L t lo hi) = L ++ t.l.map (·.msg) := by unfold zG mkS; rw [v.ord]
 obtain ⟨a1, a2, a3, a4, a5, a6, a7, b1, b2, b3, c⟩ := v;rw [ztC hr b2, hm];rw [zQN (by simp [mkS]), zQN (by simp only [mkS]; omega), zQN, zQN, zQN]
 · unfold zaz;simp only [decide_eq_true_eq, zRm, zQY, zSt];exact c
 · unfold movE;simp only [zSu, zR8, decide_eq_true_eq, zRm, zRc, zQ3];rintro m (hx | ⟨y, hy, rfl⟩)
   · exact (b1 m hx).2
   · exact b3 y hy
 · simp only [mkS, rg, z8]; omega
theorem zPZ {s : Shard} (hv : zaG s = 0) (hl : s.live = true) : ∃ n h : Nat, s = mkS n h (zw s.ready) s.leases s.low s.high /\ VS n h (zw s.ready) s.leases s.low s.high := by
 have h1 : zW s.ready = 0 := by
  have q := hv;unfold zaG at q
  split at q
  · rename_i c; exact absurd q c
  · rename_i c; exact zRm.1 c
 have h2 : zF s.leases = 0 := by
  have q := hv;unfold zaG at q;rw [zQN (fun c => c h1)] at q
  split at q
  · rename_i c; exact absurd q c
  · rename_i c; exact zRm.1 c
 rw [ztC h1 h2, zQN (by rw [hl]; simp)] at hv
 split at hv
 · cases hv
 rename_i c1
 split at hv
 · cases hv
 rename_i c2
 split at hv
 · cases hv
 rename_i c3
 split at hv
 · cases hv
 rename_i c4;obtain ⟨n, h, hrg, d1, d2, d3, d4, d5, d6⟩ := ztw h1;have hc : s.ready.cells.length = n := by rw [hrg]; exact z8 _ _ _ _
 have hz : s.ready.size = ((zw s.ready).length : Int) := by rw [zeQ]; have := congrArg z9.size hrg; simp only [rg] at this; omega
 have c1 := zRm.1 c1;refine ⟨n, h, ?_, d1, d2, d3, by omega, c1.1, c1.2.1, c1.2.2, ?_, h2, ?_, ?_⟩
 · obtain ⟨lv, lo, hi, r, t⟩ := s;simp only at hl hrg;subst hl;show _ = Shard.mk true lo hi _ t
   congr 1
 · intro m hm;refine ⟨d5 m hm, ?_⟩;unfold movE at c3;simp only [zSu, zR8, decide_eq_true_eq, zRm, zG, zRc, zQ3] at c3;exact c3 m (.inl hm)
 · intro y hy;unfold movE at c3;simp only [zSu, zR8, decide_eq_true_eq, zRm, zG, zRc, zQ3] at c3;exact c3 y.msg (.inr ⟨y, hy, rfl⟩)
 · unfold zaz zG at c4;simp only [decide_eq_true_eq, zRm, zQY, zSt] at c4;exact c4
theorem zeS (n h : Nat) (L : List Message) : (rg n h L).cells.length = n := z8 _ _ _ _
theorem zwy {l : List Message} {id : Int} (h : ∃ m ∈ l, m.id = id) : 0 <= z5 l id := by
 unfold z5 zU
 cases hc : l.findIdx? (fun m : Message => decide (m.id = id)) with
 | some i => simp
 | none =>
  obtain ⟨m, hm, e⟩ := h;have := (zTl.1 hc) m hm;simp [e] at this
theorem zww {l : List Message} {id : Int} (h : 0 <= z5 l id) : (l.getD (z5 l id).toNat zu).id = id := by
 unfold z5 zU at h ⊢
 cases hc : l.findIdx? (fun m : Message => decide (m.id = id)) with
 | none => rw [hc] at h; simp at h
 | some i =>
  obtain ⟨hi, hp, _⟩ := zRR.1 hc;simp only [zRo];rw [zRl, zQ4 hi];exact of_decide_eq_true hp
theorem zAd {l : List Message} (h : (l.map (·.id)).Nodup) {a b : Message} (ha : a ∈ l) (hb : b ∈ l) (e : a.id = b.id) : a = b := by
 induction l with
 | nil => cases ha
 | cons x l ih =>
  simp only [zQS, zSj, zQ3, not_exists, not_and] at h
  cases ha with
  | head =>
   cases hb with
   | head => rfl
   | tail _ hb => exact absurd e.symm (h.1 b hb)
  | tail _ ha =>
   cases hb with
   | head => exact absurd e (h.1 a ha)
   | tail _ hb => exact ih h.2 ha hb
theorem VS.rem {n h : Nat} {L : List Message} {t : Table} {lo hi : Int} (v : VS n h L t lo hi) {m : Message} (hm : m ∈ L) : ∃ k, ∃ hk : k < L.length, L[k] = m /\ rmD (rg n h L) m.id = (rg n h (L.eraseIdx k), m, 0) := by
 have h0 : 0 <= z5 L m.id := zwy ⟨m, hm, rfl⟩;have hk := zra h0;have hid := zww h0;have e : L.getD (z5 L m.id).toNat zu = m := by
  refine zAd (zRQ.1 v.2.2.2.2.2.2.2.2.2.2).1 ?_ hm hid;rw [zRl, zQ4 hk]; exact zRe hk
 refine ⟨_, hk, ?_, ?_⟩
 · exact (znq hk).trans e
 · have hE : rmE (rg n h L) m.id = 0 := by
    unfold rmE;rw [zQN (fun q => q v.ring), v.ord, zQN (by omega)]
   unfold rmD;rw [zQO hE, v.ord, zeS, e];rfl
theorem zDL {m : Message} (h : zD m = 0) (h1 : m.gen < 65536) (h2 : m.count < 8) : zbF m = ({ m with count := m.count + 1, gen := m.gen + 1 }, 0) := by
 unfold zbF;rw [zQN (fun q => q h), zQN (by omega), zQN (by omega)]
theorem zz4 (m : Message) : zD m = 0 ↔ (1 <= m.id /\ m.id <= 1073741824 /\ 0 <= m.route /\ m.route <= 65535 /\ 0 <= m.epoch /\ m.epoch <= 65536 /\ 0 <= m.count /\ m.count <= 8 /\ m.count <= m.gen /\ m.gen <= 65536 /\ 0 <= m.sent /\ m.sent <= 1073741824) /\ m.body.length <= 16 := by
 unfold zD
 split
 · rename_i c
   split
   · rename_i c2; exact ⟨(fun q => by cases q), (fun q => by omega)⟩
   · rename_i c2; exact ⟨fun _ => ⟨c, by omega⟩, fun _ => rfl⟩
 · rename_i c; exact ⟨(fun q => by cases q), (fun q => absurd q.1 c)⟩
theorem zqi {α : Type} (l : List α) (k : Nat) (hk : k < l.length) : (l[k] :: l.eraseIdx k).Perm l := by
 rw [zTF];have e : l = l.take k ++ l[k] :: l.drop (k + 1) := by
  rw [<- zRH hk, zSN]
 have := (zR1 (a := l[k]) (l₁ := l.take k) (l₂ := l.drop (k + 1))).symm;rw [<- e] at this;exact this
def upM (m : Message) : Message := { m with count := m.count + 1, gen := m.gen + 1 }
theorem zM7 (ep lim : Int) (m : Message) : zcP ep lim m = true ↔ ep <= m.epoch /\ m.count < lim /\ m.gen < 65536 := by
 unfold zcP;simp only [zQ8, zRP, decide_eq_false_iff_not, decide_eq_true_eq];omega
theorem VS.dlv {n h : Nat} {L : List Message} {t : Table} {lo hi : Int} (v : VS n h L t lo hi) {m : Message} (hm : m ∈ L) {ep lim d : Int} (hq : zcP ep lim m = true) (hlim : lim <= 8) (hd0 : 0 <= d) (hd1 : d <= 1073741824) :
    ∃ k, ∃ hk : k < L.length, L[k] = m /\ zbg (mkS n h L t lo hi) m d = (mkS n h (L.eraseIdx k) (zQ t (upM m) d).1 lo hi, ⟨upM m, d⟩, 0) /\ (zQ t (upM m) d).1.l = zaM t.l (upM m) d /\ VS n h (L.eraseIdx k) (zQ t (upM m) d).1 lo hi := by
 obtain ⟨k, hk, ek, hr⟩ := v.rem hm;obtain ⟨q1, q2, q3⟩ := (zM7 ep lim m).1 hq;obtain ⟨a1, a2, a3, a4, a5, a6, a7, b1, b2, b3, c⟩ := v;obtain ⟨mv, mr1, mr2⟩ := b1 m hm;have hdel := zDL mv q3 (by omega);have mv2 := (zz4 m).1 mv;have hu : zD (upM m) = 0 := by
  rw [zz4];simp only [upM];omega
 have hnf : zB t.l (upM m).id < 0 := by
  refine Classical.byContradiction fun hc => ?_;obtain ⟨x, hx, e⟩ := (zeC (l := t.l) (upM m).id).1 (by omega);refine (zRQ.1 c).2.2 m.id (zQ3.2 ⟨m, hm, rfl⟩) x.msg.id (zQ3.2 ⟨x, hx, rfl⟩) ?_;exact e.symm
 have hg := zns b2 hu (by simp only [upM]; omega) hd0 hd1 (by omega) hnf;obtain ⟨g1, _, g2, _⟩ := zgY hg;refine ⟨k, hk, ek, ?_, g2, a1, a2, a3, ?_, a5, a6, a7, fun x hx => b1 x (zT8 hx), g1, ?_, ?_⟩
 · unfold zbg;have r1 : (rmD (mkS n h L t lo hi).ready m.id) = (rg n h (L.eraseIdx k), m, 0) := hr;have d1 : zbF m = (upM m, 0) := hdel;have hg2 : (zQ (mkS n h L t lo hi).leases (upM m) d).2 = 0 := hg;rw [r1];simp only [d1, hg2, ne_eq, zRf, if_false];rfl
 · rw [g2, zTG, zQO hk, (zd7 t.l (upM m) d).length_eq, zQX]; omega
 · intro y hy;rw [g2] at hy
   rcases zRs.1 ((zd7 t.l (upM m) d).mem_iff.1 hy) with rfl | hy
   · exact ⟨mr1, mr2⟩
   · exact b3 y hy
 · rw [g2];have p1 : ((zaM t.l (upM m) d).map fun y => y.msg.id).Perm (m.id :: t.l.map fun y => y.msg.id) := (zd7 t.l (upM m) d).map _;have p2 : (m.id :: (L.eraseIdx k).map (·.id)).Perm (L.map (·.id)) := by
    have := (zqi L k hk).map (·.id);rw [ek] at this;exact this
   have p3 : ((L.eraseIdx k).map (·.id) ++ (zaM t.l (upM m) d).map fun y => y.msg.id).Perm (L.map (·.id) ++ t.l.map fun y => y.msg.id) :=
    (p1.append_left _).trans (zR1.trans (p2.append_right _))
   exact p3.nodup_iff.2 c
def zbi (L : List Message) (t : Table) : List Int := L.map (·.id) ++ t.l.map (fun y => y.msg.id)
theorem zzr {l : List Lease} {m : Message} {d : Int} {y : Lease} : y ∈ zaM l m d ↔ y = ⟨m, d⟩ \/ y ∈ l := by
 rw [(zd7 l m d).mem_iff, zRs]
theorem VS.take {n h : Nat} {lo hi mx d ep lim : Int} (hlim : lim <= 8) (hd0 : 0 <= d) (hd1 : d <= 1073741824) : ∀ (l L : List Message) (t : Table) (out : List Lease), VS n h L t lo hi -> (∀ m ∈ l, m ∈ L) -> (l.map (·.id)).Nodup ->
    ∃ L' t' out', tkF mx d ep lim l (mkS n h L t lo hi) out = (mkS n h L' t' lo hi, out ++ out', 0) /\ VS n h L' t' lo hi /\ (zbi L' t').Perm (zbi L t) /\
     (∀ y ∈ out', y.deadline = d /\ y ∈ t'.l /\ ∃ m ∈ L, y.msg = upM m /\ zcP ep lim m = true) /\ (∀ y ∈ t.l, y ∈ t'.l) := by
 intro l
 induction l with
 | nil => intro L t out v _ _; exact ⟨L, t, [], by simp [tkF], v, List.Perm.refl _, by simp, fun y hy => hy⟩
 | cons m l ih =>
  intro L t out v hl hn;simp only [zQS, zSj] at hn;rw [tkF]
  by_cases c : (out.length : Int) = mx \/ zcP ep lim m = false
  · rw [zQO c];exact ih L t out v (fun x hx => hl x (.tail _ hx)) hn.2
  · rw [zQN c];have hq : zcP ep lim m = true := by
     cases hq : zcP ep lim m with
     | true => rfl
     | false => exact absurd (.inr hq) c
    have hm := hl m (.head _);obtain ⟨k, hk, ek, e1, e2, v2⟩ := v.dlv hm hq hlim hd0 hd1;have hp := zqi L k hk;rw [ek] at hp;have hl2 : ∀ x ∈ l, x ∈ L.eraseIdx k := by
     intro x hx
     rcases zRs.1 (hp.mem_iff.2 (hl x (.tail _ hx))) with rfl | hx2
     · exact absurd (zQ3.2 ⟨x, hx, rfl⟩) hn.1
     · exact hx2
    obtain ⟨L', t', out', r1, r2, r3, r4, r5⟩ := ih (L.eraseIdx k) (zQ t (upM m) d).1 (out ++ [⟨upM m, d⟩]) v2 hl2 hn.2;rw [e1];simp only [ne_eq, zRf, if_false];refine ⟨L', t', ⟨upM m, d⟩ :: out', by rw [r1]; simp, r2, ?_, ?_, ?_⟩
    · refine r3.trans ?_;unfold zbi;rw [e2];have p1 : ((zaM t.l (upM m) d).map fun y => y.msg.id).Perm (m.id :: t.l.map fun y => y.msg.id) := (zd7 t.l (upM m) d).map _;have p2 : (m.id :: (L.eraseIdx k).map (·.id)).Perm (L.map (·.id)) := by have := hp.map (fun x : Message => x.id); exact this
      exact (p1.append_left _).trans (zR1.trans (p2.append_right _))
    · intro y hy
      rcases zRs.1 hy with rfl | hy
      · exact ⟨rfl, r5 _ (by rw [e2]; exact zzr.2 (.inl rfl)), m, hm, rfl, hq⟩
      · obtain ⟨s1, s2, m2, s3, s4⟩ := r4 y hy;exact ⟨s1, s2, m2, zT8 s3, s4⟩
    · intro y hy;exact r5 y (by rw [e2]; exact zzr.2 (.inr hy))
theorem zFn {t : Table} (h : zF t = 0) {y : Lease} (hy : y ∈ t.l) : zcE t y.msg.id = (y, true) := by
 have h0 : 0 <= zB t.l y.msg.id := (zeC (l := t.l) y.msg.id).2 ⟨y, hy, rfl⟩;have ha := zbT (zcU h).2.1;obtain ⟨hp, e⟩ := (zeD ha y.msg.id).1 h0;have e2 := zjm ha h0;unfold zcE;rw [zQO ⟨h, h0⟩, e2, zRo];have e3 : t.l[zE t.l y.msg.id] = y := by
  obtain ⟨j, hj, rfl⟩ := zTj.1 hy;have hpw := zRV.1 ha
  rcases zTk (zE t.l t.l[j].msg.id) j with c | c | c
  · have := hpw _ _ hp hj c; omega
  · congr 1
  · have := hpw _ _ hj hp c; omega
 rw [zRl, zQ4 hp];simp only [zSk, e3]
theorem zGw {s : Shard} (ht : zF s.leases = 0) {y : Lease} (hy : y ∈ s.leases.l) (h : zch) (hid : h.id = y.msg.id) (now ep : Int) : zdH s h now ep = (decide (y.msg.gen = h.gen) && (decide (y.msg.route = h.route) && (!decide (y.msg.epoch < ep) && decide (now < y.deadline)))) := by
 unfold zdH;rw [hid, zFn ht hy, zSz]
theorem VS.rel {n h : Nat} {L : List Message} {t : Table} {lo hi : Int} (v : VS n h L t lo hi) {y : Lease} (hy : y ∈ t.l) : ∃ t', z4 (mkS n h L t lo hi) y.msg.id = (mkS n h L t' lo hi, y.msg, 0) /\ VS n h L t' lo hi /\ (y :: t'.l).Perm t.l := by
 obtain ⟨a1, a2, a3, a4, a5, a6, a7, b1, b2, b3, c⟩ := v;have h0 : 0 <= zB t.l y.msg.id := (zeC (l := t.l) y.msg.id).2 ⟨y, hy, rfl⟩;have hr := (zoq (id := y.msg.id) b2).2 h0;obtain ⟨r1, _, k, hk, e1, e2, e3, e4⟩ := ztt hr;have ey : t.l[k] = y := by
  have ha := zbT (zcU b2).2.1;obtain ⟨j, hj, rfl⟩ := zTj.1 hy;have hpw := zRV.1 ha
  rcases zTk k j with c | c | c
  · have := hpw _ _ hk hj c; omega
  · congr 1
  · have := hpw _ _ hj hk c; omega
 have hp : (y :: (zaq t y.msg.id).1.l).Perm t.l := by
  rw [e3, zly, <- ey]; exact zqi t.l k hk
 refine ⟨(zaq t y.msg.id).1, ?_, ⟨a1, a2, a3, ?_, a5, a6, a7, b1, r1, fun x hx => b3 x (hp.mem_iff.1 (.tail _ hx)), ?_⟩, hp⟩
 · unfold z4;rw [zQO (show (zaq (mkS n h L t lo hi).leases y.msg.id).2.2 = 0 from hr)];show (_, (zaq t y.msg.id).2.1, _) = _;rw [e4, ey]; rfl
 · have := hp.length_eq; simp only [zQX] at this; omega
 · have p : (L.map (·.id) ++ (y.msg.id :: (zaq t y.msg.id).1.l.map fun x => x.msg.id)).Perm (L.map (·.id) ++ t.l.map fun x => x.msg.id) := (hp.map (fun x : Lease => x.msg.id)).append_left _;have q := zR1.nodup_iff.1 (p.nodup_iff.2 c);exact (zSj.1 q).2
theorem VS.back {n h : Nat} {L : List Message} {t : Table} {lo hi : Int} (v : VS n h L t lo hi) {m : Message} (hm : zD m = 0) (hr : lo <= m.route /\ m.route <= hi) (hl : L.length + t.l.length < n) (hid : m.id ∉ zbi L t) (lim : Int) :
    ∃ h' L', zgr (mkS n h L t lo hi) m lim = (rg n h' L', 0) /\ VS n h' L' t lo hi /\ L'.length = L.length + 1 /\ (L'.map (·.id)).Perm (m.id :: L.map (·.id)) := by
 have hord := v.ord;obtain ⟨a1, a2, a3, a4, a5, a6, a7, b1, b2, b3, c⟩ := v;have hni : ∀ x ∈ L, x.id ≠ m.id := fun x hx e => hid (zRc.2 (.inl (zQ3.2 ⟨x, hx, e⟩)));have hp : zbl (rg n h L) m = 0 := zof a1 a2 a3 (by omega) (fun x hx => (b1 x hx).1) (zRQ.1 c).1 hm hni;have hnd : (m.id :: (L.map (·.id) ++ t.l.map fun y => y.msg.id)).Nodup := zSj.2 ⟨hid, c⟩
 by_cases c1 : lim <= m.count
 · have p : ((L ++ [m]).map (·.id)).Perm (m.id :: L.map (·.id)) := by
    rw [zQY]; exact zTi
   refine ⟨h, L ++ [m], ?_, ⟨a1, a2, a3, by simp only [zQT, zRI]; omega, a5, a6, a7, fun x hx => ?_, b2, b3, ?_⟩, by simp, p⟩
   · unfold zgr;rw [zQO c1];show pbD (rg n h L) m = _;unfold pbD;rw [zQO hp, hord, zeS]; rfl
   · rcases zRc.1 hx with hx | hx
     · exact b1 x hx
     · rw [zRr.1 hx]; exact ⟨hm, hr⟩
   · exact (p.append_right _).nodup_iff.2 hnd
 · refine ⟨(h + n - 1) % n, m :: L, ?_, ⟨a1, a2, zd9 a1, by simp only [zQX]; omega, a5, a6, a7, fun x hx => ?_, b2, b3, hnd⟩, by simp, List.Perm.refl _⟩
   · unfold zgr;rw [zQN c1];show pfD (rg n h L) m = _;unfold pfD;rw [zQO hp, hord, zeS]; rfl
   · cases hx with
     | head => exact ⟨hm, hr⟩
     | tail _ hx => exact b1 x hx
theorem VS.us {n h : Nat} {L : List Message} {t : Table} {lo hi : Int} (v : VS n h L t lo hi) (b : Bool) : usE (mkS n h L t lo hi) b = if b = true then 0 else 1 := by
 have hl : zaA (mkS n h L t lo hi) = 0 := by
  unfold zaA;rw [zQN (fun q => q v.val)]; rfl
 unfold usE;rw [zQN (fun q => q hl)]
theorem VS.stor {n h : Nat} {L : List Message} {t : Table} {lo hi : Int} (v : VS n h L t lo hi) : zef (mkS n h L t lo hi) = (L.length : Int) + t.l.length := by
 unfold zef;rw [zQO v.val]; rfl
theorem VS.lens {n h : Nat} {L : List Message} {t : Table} {lo hi : Int} (v : VS n h L t lo hi) : (mkS n h L t lo hi).ready.cells.length <= 12 /\ (mkS n h L t lo hi).leases.l.length <= 12 /\ (mkS n h L t lo hi).leases.heap.length <= 12 := by
 obtain ⟨b1, b2⟩ := zeY v.2.2.2.2.2.2.2.2.1;exact ⟨by show (rg n h L).cells.length <= 12; rw [zeS]; exact v.2.1, b1, b2⟩
def pbF : List Message -> z9 -> z9 × Int
 | [], r => (r, 0)
 | m :: l, r => if (pbD r m).2 ≠ 0 then (zdl, (pbD r m).2) else pbF l (pbD r m).1
def grF : List Lease -> Table -> Table × Int
 | [], t => (t, 0)
 | y :: l, t => if (zQ t y.msg y.deadline).2 ≠ 0 then (zP, (zQ t y.msg y.deadline).2) else grF l (zQ t y.msg y.deadline).1
def zd1 (s : Shard) (l : List Message) (y : List Lease) : Shard × Int :=
 if (pbF l s.ready).2 ≠ 0 then (zam, (pbF l s.ready).2) else if (grF y s.leases).2 ≠ 0 then (zam, (grF y s.leases).2)
 else ({ s with ready := (pbF l s.ready).1, leases := (grF y s.leases).1 }, 0)
def emS (n : Nat) (lo hi : Int) : Shard := mkS n 0 [] zP lo hi
theorem zPb : zF zP = 0 := by decide +kernel
theorem VS.em {n : Nat} {lo hi : Int} (a1 : 1 <= n) (a2 : n <= 12) (h0 : 0 <= lo) (h1 : lo <= hi) (h2 : hi < 65536) : VS n 0 [] zP lo hi :=
 ⟨a1, a2, a1, by simp [zP], h0, h1, h2, by simp, zPb, by simp [zP], by simp [zP]⟩
theorem VS.push {n h : Nat} {t : Table} {lo hi : Int} : ∀ (l L : List Message), VS n h L t lo hi -> (∀ m ∈ l, zD m = 0 /\ lo <= m.route /\ m.route <= hi) -> L.length + l.length + t.l.length <= n -> (zbi (L ++ l) t).Nodup ->
    pbF l (rg n h L) = (rg n h (L ++ l), 0) /\ VS n h (L ++ l) t lo hi := by
 intro l
 induction l with
 | nil => intro L v _ _ _; rw [zRG]; exact ⟨rfl, v⟩
 | cons m l ih =>
  intro L v hl hn hd;have hm := hl m (.head _);simp only [zQX] at hn;have hd2 : (zbi ((L ++ [m]) ++ l) t).Nodup := by rw [zRC]; exact hd
  have hord := v.ord;obtain ⟨a1, a2, a3, a4, a5, a6, a7, b1, b2, b3, c⟩ := v;have hd3 : (zbi (L ++ [m]) t).Nodup := by
   refine hd2.sublist ?_;unfold zbi;rw [zQY (l₁ := L ++ [m])];exact (zTD _ _).append_right _
  have hni : ∀ x ∈ L, x.id ≠ m.id := by
   intro x hx e;unfold zbi at hd3;rw [zQY] at hd3;have q := (zRQ.1 (zRQ.1 hd3).1).2.2;exact q _ (zQ3.2 ⟨x, hx, rfl⟩) m.id (by simp) e
  have hp : zbl (rg n h L) m = 0 := zof a1 a2 a3 (by omega) (fun x hx => (b1 x hx).1) (zRQ.1 c).1 hm.1 hni;have v2 : VS n h (L ++ [m]) t lo hi := by
   refine ⟨a1, a2, a3, by simp only [zQT, zRI]; omega, a5, a6, a7, fun x hx => ?_, b2, b3, hd3⟩
   rcases zRc.1 hx with hx | hx
   · exact b1 x hx
   · rw [zRr.1 hx]; exact hm
  have e : pbD (rg n h L) m = (rg n h (L ++ [m]), 0) := by
   unfold pbD;rw [zQO hp, hord, zeS]; rfl
  have r := ih (L ++ [m]) v2 (fun x hx => hl x (.tail _ hx)) (by simp only [zQT, zRI]; omega) hd2;rw [zRC] at r;rw [pbF, e];exact r
def okL (y : Lease) : Prop := zD y.msg = 0 /\ y.msg.gen ≠ 0 /\ 0 <= y.deadline /\ y.deadline <= 1073741824
theorem zBv {t : Table} (h : zF t = 0) {y : Lease} (hy : y ∈ t.l) : okL y := ((zcL _).1 ((zbb t).1 h).2.1).2 y hy
theorem zoG {t : Table} (h : zF t = 0) : t.l.Pairwise fun x y => x.msg.id < y.msg.id := ((zcL _).1 ((zbb t).1 h).2.1).1
theorem VS.gr {n h : Nat} {L : List Message} {lo hi : Int} : ∀ (l : List Lease) (t : Table), VS n h L t lo hi -> (∀ y ∈ l, okL y /\ lo <= y.msg.route /\ y.msg.route <= hi) -> L.length + t.l.length + l.length <= n ->
    (L.map (·.id) ++ (t.l ++ l).map (fun y => y.msg.id)).Nodup -> ∃ t', grF l t = (t', 0) /\ VS n h L t' lo hi /\ t'.l.Perm (t.l ++ l) := by
 intro l
 induction l with
 | nil => intro t v _ _ _; exact ⟨t, rfl, v, by rw [zRG]⟩
 | cons y l ih =>
  intro t v hl hn hd;obtain ⟨⟨o1, o2, o3, o4⟩, o5⟩ := hl y (.head _);simp only [zQX] at hn;obtain ⟨a1, a2, a3, a4, a5, a6, a7, b1, b2, b3, c⟩ := v;have hf : zB t.l y.msg.id < 0 := by
   refine Int.not_le.1 fun q => ?_;obtain ⟨x, hx, e⟩ := (zeC _).1 q;have w := (zRQ.1 hd).2.1;rw [zQY] at w;exact (zRQ.1 w).2.2 _ (zQ3.2 ⟨x, hx, rfl⟩) y.msg.id (by simp) e
  have g0 := zns b2 o1 o2 o3 o4 (by omega) hf;obtain ⟨g1, _, g2, _⟩ := zgY g0;have hp : (zQ t y.msg y.deadline).1.l.Perm (t.l ++ [y]) := by
   rw [g2]; exact (zd7 t.l y.msg y.deadline).trans (List.perm_append_singleton y t.l).symm
  have hlen := hp.length_eq;simp only [zQT, zRI] at hlen;have hd2 : (L.map (·.id) ++ ((t.l ++ [y]) ++ l).map (fun y => y.msg.id)).Nodup := by rw [zRC]; exact hd
  have hp2 : (L.map (·.id) ++ ((zQ t y.msg y.deadline).1.l ++ l).map (fun y => y.msg.id)).Perm (L.map (·.id) ++ ((t.l ++ [y]) ++ l).map (fun y => y.msg.id)) :=
   List.Perm.append_left _ ((hp.append_right l).map _)
  have hd4 := hp2.nodup_iff.2 hd2;have hd5 : (L.map (·.id) ++ (zQ t y.msg y.deadline).1.l.map (fun y => y.msg.id)).Nodup := by
   refine hd4.sublist ?_;rw [zQY (l₁ := (zQ t y.msg y.deadline).1.l)];exact (zTD _ _).append_left _
  have v2 : VS n h L (zQ t y.msg y.deadline).1 lo hi := by
   refine ⟨a1, a2, a3, by omega, a5, a6, a7, b1, g1, fun x hx => ?_, hd5⟩
   rcases zRc.1 (hp.mem_iff.1 hx) with hx | hx
   · exact b3 x hx
   · rw [zRr.1 hx]; exact o5
  obtain ⟨t', r1, r2, r3⟩ := ih _ v2 (fun x hx => hl x (.tail _ hx)) (by omega) hd4;refine ⟨t', ?_, r2, ?_⟩
  · rw [grF, g0]; exact r1
  · refine r3.trans ((hp.append_right l).trans ?_);rw [zRC]; exact List.Perm.refl _
theorem zup : ∀ {a b : List Lease}, (a.Pairwise fun x y => x.msg.id < y.msg.id) -> (b.Pairwise fun x y => x.msg.id < y.msg.id) -> a.Perm b -> a = b := by
 intro a
 induction a with
 | nil => intro b _ _ hp; exact (List.nil_perm.1 hp).symm ▸ rfl
 | cons x a ih =>
  intro b ha hb hp
  cases b with
  | nil => exact absurd (List.perm_nil.1 hp) (by simp)
  | cons y b =>
   have e : x = y := by
    rcases zRs.1 (hp.mem_iff.1 (.head _)) with e | h1
    · exact e
    rcases zRs.1 (hp.mem_iff.2 (.head _)) with e | h2
    · exact e.symm
    have q1 := (zSi.1 hb).1 x h1;have q2 := (zSi.1 ha).1 y h2;omega
   subst e;rw [ih (zSi.1 ha).2 (zSi.1 hb).2 ((List.perm_cons x).1 hp)]
def z6 (lo hi r : Int) : Bool := decide (lo <= r) && decide (r <= hi)
def zdL (s : Shard) (lo hi : Int) : Shard × Int := zd1 (emS s.ready.cells.length lo hi) ((zw s.ready).filter fun m => z6 lo hi m.route) (s.leases.l.filter fun y => z6 lo hi y.msg.route)
theorem VS.fill {n h : Nat} {L l : List Message} {t : Table} {y : List Lease} {lo hi : Int} (v : VS n h L t lo hi) (hl : ∀ m ∈ l, zD m = 0 /\ lo <= m.route /\ m.route <= hi) (hy : ∀ x ∈ y, okL x /\ lo <= x.msg.route /\ x.msg.route <= hi)
    (hn : L.length + l.length + t.l.length + y.length <= n) (hd : ((L ++ l).map (·.id) ++ (t.l ++ y).map (fun y => y.msg.id)).Nodup) :
    ∃ t', zd1 (mkS n h L t lo hi) l y = (mkS n h (L ++ l) t' lo hi, 0) /\ VS n h (L ++ l) t' lo hi /\ t'.l.Perm (t.l ++ y) := by
 have hd1 : (zbi (L ++ l) t).Nodup := by
  refine hd.sublist ?_;unfold zbi;rw [zQY (l₁ := t.l)];exact (zTD _ _).append_left _
 obtain ⟨p1, p2⟩ := VS.push l L v hl (by omega) hd1;obtain ⟨t', g1, g2, g3⟩ := VS.gr y t p2 hy (by simp only [zQT]; omega) hd;refine ⟨t', ?_, g2, g3⟩;have q1 : pbF l (mkS n h L t lo hi).ready = (rg n h (L ++ l), 0) := p1;have q2 : grF y (mkS n h L t lo hi).leases = (t', 0) := g1;unfold zd1;rw [q1, q2];rfl
theorem VS.part {n h : Nat} {L : List Message} {t : Table} {lo hi : Int} (v : VS n h L t lo hi) {a b : Int} (ha : lo <= a) (hab : a <= b) (hb : b <= hi) :
    ∃ t', zdL (mkS n h L t lo hi) a b = (mkS n 0 (L.filter fun m => z6 a b m.route) t' a b, 0) /\ VS n 0 (L.filter fun m => z6 a b m.route) t' a b /\ t'.l = t.l.filter fun y => z6 a b y.msg.route := by
 have hord : zw (mkS n h L t lo hi).ready = L := v.ord;have hc : (mkS n h L t lo hi).ready.cells.length = n := zeS n h L;obtain ⟨a1, a2, a3, a4, a5, a6, a7, b1, b2, b3, c⟩ := v;have v0 : VS n 0 [] zP a b := VS.em a1 a2 (by omega) hab (by omega);have l1 := zSg (fun m : Message => z6 a b m.route) L;have l2 := zSg (fun y : Lease => z6 a b y.msg.route) t.l;obtain ⟨t', r1, r2, r3⟩ := v0.fill (l := L.filter fun m => z6 a b m.route) (y := t.l.filter fun y => z6 a b y.msg.route)
  (fun m hm => by
   obtain ⟨h1, h2⟩ := zR0.1 hm;simp only [z6, zQ8, decide_eq_true_eq] at h2;exact ⟨(b1 m h1).1, h2⟩)
  (fun y hy => by
   obtain ⟨h1, h2⟩ := zR0.1 hy;simp only [z6, zQ8, decide_eq_true_eq] at h2;exact ⟨zBv b2 h1, h2⟩)
  (by simp only [zP, zQ1]; omega)
  (by
   simp only [zP, zSM];exact c.sublist (((zTE (p := fun m : Message => z6 a b m.route) (l := L)).map _).append ((zTE (p := fun y : Lease => z6 a b y.msg.route) (l := t.l)).map _)))
 simp only [zSM, zP] at r1 r2 r3;refine ⟨t', ?_, r2, ?_⟩
 · unfold zdL emS;rw [hord, hc]; exact r1
 · exact zup (zoG r2.2.2.2.2.2.2.2.2.1) ((zoG b2).sublist zTE) r3
theorem VS.msgs {n h : Nat} {L : List Message} {t : Table} {lo hi : Int} (v : VS n h L t lo hi) : zG (mkS n h L t lo hi) = L ++ t.l.map (·.msg) := by
 unfold zG mkS; rw [v.ord]
theorem VS.wide {n h : Nat} {L : List Message} {t : Table} {lo hi a b : Int} (v : VS n h L t a b) (h0 : 0 <= lo) (h1 : lo <= a) (h2 : b <= hi) (h3 : hi < 65536) : VS n h L t lo hi := by
 obtain ⟨a1, a2, a3, a4, a5, a6, a7, b1, b2, b3, c⟩ := v;exact ⟨a1, a2, a3, a4, h0, by omega, h3, fun m hm => ⟨(b1 m hm).1, by have := (b1 m hm).2; omega⟩, b2, fun y hy => by have := b3 y hy; omega, c⟩
theorem zwx {l : List Message} {id : Int} : 0 <= z5 l id ↔ ∃ m ∈ l, m.id = id :=
 ⟨fun h => ⟨_, by have hk := zra h; rw [<- znq hk]; exact zRe hk, zww h⟩, zwy⟩
theorem zBF {α : Type} (f : α -> Int) {lo hi mid : Int} {l : List α} (h : ∀ x ∈ l, lo <= f x /\ f x <= hi) : ((l.filter fun x => z6 lo mid (f x)) ++ l.filter fun x => z6 (mid + 1) hi (f x)).Perm l := by
 have e : (l.filter fun x => z6 (mid + 1) hi (f x)) = l.filter fun x => !z6 lo mid (f x) := by
  refine List.filter_congr fun x hx => ?_;have := h x hx;rw [zSc];simp only [z6, zQ8, decide_eq_true_eq, zRP, Bool.and_eq_false_iff, decide_eq_false_iff_not];omega
 rw [e];exact List.filter_append_perm _ l
theorem VS.halves {n h : Nat} {L : List Message} {t : Table} {lo hi mid : Int} (v : VS n h L t lo hi) (h1 : lo <= mid) (h2 : mid < hi) :
    ∃ (La Lb : List Message) (ta tb ty : Table), zdL (mkS n h L t lo hi) lo mid = (mkS n 0 La ta lo mid, 0) /\ VS n 0 La ta lo mid /\ zdL (mkS n h L t lo hi) (mid + 1) hi = (mkS n 0 Lb tb (mid + 1) hi, 0) /\ VS n 0 Lb tb (mid + 1) hi /\
     zd1 (mkS n 0 La ta lo hi) Lb tb.l = (mkS n 0 (La ++ Lb) ty lo hi, 0) /\ VS n 0 (La ++ Lb) ty lo hi /\ ty.l = t.l /\ La.length + Lb.length = L.length /\ ta.l.length + tb.l.length = t.l.length /\ (zbi (La ++ Lb) ty).Perm (zbi L t) /\
     (∀ x ∈ zG (mkS n 0 Lb tb (mid + 1) hi), ∀ y ∈ zG (mkS n 0 La ta lo mid), x.id ≠ y.id) /\
     (∀ m ∈ zG (mkS n h L t lo hi), decide (0 <= z5 (zG (mkS n 0 La ta lo mid)) m.id) = decide (m.route <= mid) /\ decide (0 <= z5 (zG (mkS n 0 Lb tb (mid + 1) hi)) m.id) = !decide (m.route <= mid)) := by
 obtain ⟨ta, p1, p2, p3⟩ := v.part (Int.le_refl lo) h1 (by omega : mid <= hi);obtain ⟨tb, q1, q2, q3⟩ := v.part (by omega : lo <= mid + 1) (by omega : mid + 1 <= hi) (Int.le_refl hi);have hm := v.msgs;have v' := v;obtain ⟨a1, a2, a3, a4, a5, a6, a7, b1, b2, b3, c⟩ := v';have hL : ((L.filter fun m => z6 lo mid m.route) ++ L.filter fun m => z6 (mid + 1) hi m.route).Perm L := zBF (·.route) fun x hx => (b1 x hx).2;have hT : ((t.l.filter fun y => z6 lo mid y.msg.route) ++ t.l.filter fun y => z6 (mid + 1) hi y.msg.route).Perm t.l := zBF (fun y : Lease => y.msg.route) fun x hx => b3 x hx;have e1 := hL.length_eq;have e2 := hT.length_eq;simp only [zQT] at e1 e2;have hP : ((((L.filter fun m => z6 lo mid m.route) ++ L.filter fun m => z6 (mid + 1) hi m.route)).map (·.id) ++ (ta.l ++ tb.l).map (fun y => y.msg.id)).Perm (zbi L t) := by
  rw [p3, q3];exact (hL.map _).append (hT.map _)
 have w := (p2.wide a5 (Int.le_refl lo) (by omega : mid <= hi) a7);obtain ⟨ty, r1, r2, r3⟩ := w.fill (l := L.filter fun m => z6 (mid + 1) hi m.route) (y := tb.l)
  (fun m hm => by have := q2.2.2.2.2.2.2.2.1 m hm; exact ⟨this.1, by omega⟩)
  (fun y hy => by have := q2.2.2.2.2.2.2.2.2.2.1 y hy; exact ⟨zBv q2.2.2.2.2.2.2.2.2.1 hy, by omega⟩)
  (by rw [p3, q3]; omega) (hP.nodup_iff.2 c)
 have hty : ty.l = t.l := by
  refine zup (zoG r2.2.2.2.2.2.2.2.2.1) (zoG b2) (r3.trans ?_);rw [p3, q3]; exact hT
 have hids : ∀ x ∈ zG (mkS n h L t lo hi), ∀ y ∈ zG (mkS n h L t lo hi), x.id = y.id -> x = y := by
  intro x hx y hy e;rw [hm] at hx hy;refine zAd ?_ hx hy e;rw [zQY, zSt]; exact c
 have hma : ∀ x, x ∈ zG (mkS n 0 (L.filter fun m => z6 lo mid m.route) ta lo mid) ↔ x ∈ zG (mkS n h L t lo hi) /\ x.route <= mid := by
  intro x;rw [p2.msgs, hm, p3];simp only [zRc, zQ3, zR0, z6, zQ8, decide_eq_true_eq];constructor
  · rintro (⟨g1, g2⟩ | ⟨y, ⟨g1, g2⟩, rfl⟩)
    · exact ⟨.inl g1, g2.2⟩
    · exact ⟨.inr ⟨y, g1, rfl⟩, g2.2⟩
  · rintro ⟨g1 | ⟨y, g1, rfl⟩, g2⟩
    · exact .inl ⟨g1, (b1 x g1).2.1, g2⟩
    · exact .inr ⟨y, ⟨g1, (b3 y g1).1, g2⟩, rfl⟩
 have hmb : ∀ x, x ∈ zG (mkS n 0 (L.filter fun m => z6 (mid + 1) hi m.route) tb (mid + 1) hi) ↔ x ∈ zG (mkS n h L t lo hi) /\ mid < x.route := by
  intro x;rw [q2.msgs, hm, q3];simp only [zRc, zQ3, zR0, z6, zQ8, decide_eq_true_eq];constructor
  · rintro (⟨g1, g2⟩ | ⟨y, ⟨g1, g2⟩, rfl⟩)
    · exact ⟨.inl g1, by omega⟩
    · exact ⟨.inr ⟨y, g1, rfl⟩, by omega⟩
  · rintro ⟨g1 | ⟨y, g1, rfl⟩, g2⟩
    · exact .inl ⟨g1, by omega, (b1 x g1).2.2⟩
    · exact .inr ⟨y, ⟨g1, by omega, (b3 y g1).2⟩, rfl⟩
 refine ⟨_, _, ta, tb, ty, p1, p2, q1, q2, r1, r2, hty, by omega, by rw [p3, q3]; omega, ?_, ?_, ?_⟩
 · refine List.Perm.trans ?_ hP;unfold zbi;exact List.Perm.append_left _ (r3.map _)
 · intro x hx y hy e;have g1 := (hmb x).1 hx;have g2 := (hma y).1 hy;have := hids x g1.1 y g2.1 e;subst this;omega
 · intro m hmm;constructor
   · rw [decide_eq_decide, zwx];constructor
     · rintro ⟨y, hy, e⟩;have g := (hma y).1 hy;exact hids y g.1 m hmm e ▸ g.2
     · intro g; exact ⟨m, (hma m).2 ⟨hmm, g⟩, rfl⟩
   · rw [<- decide_not, decide_eq_decide, zwx];constructor
     · rintro ⟨y, hy, e⟩;have g := (hmb y).1 hy;have := hids y g.1 m hmm e ▸ g.2;omega
     · intro g; exact ⟨m, (hmb m).2 ⟨hmm, by omega⟩, rfl⟩
def zbR (m : Message) : zch := ⟨m.id, m.gen, m.route, 0⟩
theorem VS.gone {n h : Nat} {L : List Message} {t t' : Table} {lo hi : Int} (v : VS n h L t lo hi) {y : Lease} (hp : (y :: t'.l).Perm t.l) : y.msg.id ∉ zbi L t' := by
 have c := v.2.2.2.2.2.2.2.2.2.2;have p : (L.map (·.id) ++ (y.msg.id :: t'.l.map fun x => x.msg.id)).Perm (L.map (·.id) ++ t.l.map fun x => x.msg.id) := (hp.map (fun x : Lease => x.msg.id)).append_left _;exact (zSj.1 (zR1.nodup_iff.1 (p.nodup_iff.2 c))).1
theorem VS.holds {n h : Nat} {L : List Message} {t : Table} {lo hi : Int} (v : VS n h L t lo hi) {y : Lease} (hy : y ∈ t.l) {now ep : Int} (hd : now < y.deadline) (he : ep <= y.msg.epoch) : zdH (mkS n h L t lo hi) (zbR y.msg) now ep = true := by
 rw [zGw (s := mkS n h L t lo hi) v.2.2.2.2.2.2.2.2.1 hy (zbR y.msg) rfl];simp only [zbR, decide_true, zSz, zQ8, zRP, decide_eq_false_iff_not, decide_eq_true_eq];omega
theorem VS.ack {n h : Nat} {L : List Message} {t : Table} {lo hi : Int} (v : VS n h L t lo hi) {y : Lease} (hy : y ∈ t.l) {now ep : Int} (hd : now < y.deadline) (he : ep <= y.msg.epoch) (hn : tiQ now = true) (hq : epQ ep = true) : ∃ t', zpa (mkS n h L t lo hi) (zbR y.msg) now ep = (mkS n h L t' lo hi, 0) /\ VS n h L t' lo hi /\ (y :: t'.l).Perm t.l := by
 obtain ⟨t', r1, r2, r3⟩ := v.rel hy;refine ⟨t', ?_, r2, r3⟩;have hu : usE (mkS n h L t lo hi) (tiQ now && epQ ep) = 0 := by rw [v.us, hn, hq]; rfl
 unfold zpa;rw [zQN (fun q => q hu), zQO (v.holds hy hd he)];show ((z4 (mkS n h L t lo hi) y.msg.id).1, (z4 (mkS n h L t lo hi) y.msg.id).2.2) = _;rw [r1]
theorem VS.nack {n h : Nat} {L : List Message} {t : Table} {lo hi : Int} (v : VS n h L t lo hi) {y : Lease} (hy : y ∈ t.l) {now ep lim : Int} (hd : now < y.deadline) (he : ep <= y.msg.epoch) (hn : tiQ now = true) (hq : epQ ep = true) (hl : liQ lim = true) : ∃ h' L' t', zs7 (mkS n h L t lo hi) (zbR y.msg) now ep lim = (mkS n h' L' t' lo hi, 0) /\ VS n h' L' t' lo hi /\ L'.length + t'.l.length = L.length + t.l.length /\ (y :: t'.l).Perm t.l := by
 obtain ⟨t', r1, r2, r3⟩ := v.rel hy;have hlen := r3.length_eq;simp only [zQX] at hlen;have hmv : zD y.msg = 0 := ((zcL t.l).1 (zcU v.2.2.2.2.2.2.2.2.1).2.1).2 y hy |>.1;obtain ⟨h', L', q1, q2, q3, q4⟩ := r2.back hmv (v.2.2.2.2.2.2.2.2.2.1 y hy) (by have := v.2.2.2.1; omega) (v.gone r3) lim;refine ⟨h', L', t', ?_, q2, by omega, r3⟩;have hu : usE (mkS n h L t lo hi) (tiQ now && (epQ ep && liQ lim)) = 0 := by rw [v.us, hn, hq, hl]; rfl
 unfold zs7;rw [zQN (fun q => q hu), zQO (v.holds hy hd he)];have e : z4 (mkS n h L t lo hi) (zbR y.msg).id = (mkS n h L t' lo hi, y.msg, 0) := r1;rw [e];simp only [q1, ne_eq, zRf, if_false];rfl
end Go.Proofs.YtfggldgdejjlnaaGreat.L

namespace Go.Proofs.YtfggldgdejjlnaaGreat.L
open Go Go.Sim Go.Proofs.YtfggldgdejjlnaaGreat
def hB (s : Shard) (h : zch) (now ep : Int) : Bool := decide (usE s (tiQ now && epQ ep) = 0) && zdH s h now ep
def zcq (s : Shard) : Prop := s.ready.cells.length <= 12 /\ s.leases.l.length <= 12 /\ s.leases.heap.length <= 12
structure LP (x y : Shard) (now vis ep lim : Int) (v : Lease) : Prop where
 dl : v.deadline = now + vis
 late : hB y (zbR v.msg) (now + vis) ep = false
 held : 0 < vis -> hB y (zbR v.msg) (now + vis - 1) ep = true
 old : hB y { zbR v.msg with gen := v.msg.gen - 1 } now ep = false
 oth : hB y { zbR v.msg with route := (v.msg.route + 1).tmod 65536 } now ep = false
 pre : hB x (zbR v.msg) now ep = false
 gen : 1 <= v.msg.gen /\ v.msg.gen <= 65536
 rt : 0 <= v.msg.route /\ v.msg.route <= 65535
 ack : 0 < vis -> ∃ z, zpa y (zbR v.msg) now ep = (z, 0) /\ zcq z /\ hB z (zbR v.msg) now ep = false /\ zef z = zef y - 1
 nack : 0 < vis -> ∃ w, zs7 y (zbR v.msg) now ep lim = (w, 0) /\ zcq w /\ hB w (zbR v.msg) now ep = false /\ zef w = zef y
end Go.Proofs.YtfggldgdejjlnaaGreat.L

namespace Go.Proofs.YtfggldgdejjlnaaGreat
open Go Go.Sim
theorem zBr (s : Shard) (h1 : s.leases.l.length <= 12) (h2 : 0 <= s.ready.size) (h3 : s.ready.size <= 12) (h4 : s.ready.cells.length <= 12) : zd G zdt [.d (zj s)] [] = some (.d (.int .i64 (s.ready.cells.length - (s.ready.size + s.leases.l.length))), []) := by
 have h := zoD s h1 h2 h3;simp only [zj] at h ⊢;rw [ze zGf (by simp)]; simp -implicitDefEqProofs (disch := omega) only [zvE, za, go_sem, *]
theorem zGu (m : Message) (id : Int) : zd G zgb [.d (zg m), .d (.pd (.int .i64 id))] [] = some (.d (.bool (decide (m.id = id))), []) := by
 simp only [zg];rw [ze zxo (by simp)]; simp -implicitDefEqProofs (disch := omega) only [zvu, za, go_sem, *]
theorem zzi (s : Shard) (id : Int) (hr : zW s.ready = 0) (h1 : s.leases.l.length <= 12) : zd G zdp [.d (zj s), .d (.int .i64 id)] [] = some (.d (.bool ((zG s).any fun m => decide (m.id = id))), []) := by
 have hm := zs5 hr h1;have hl := zfU hr h1;have hc := zDm (zG s) zgb [.pd (.int .i64 id)] (fun m => decide (m.id = id)) (by omega) (fun a _ => zGu a id);generalize ((zG s).any fun m => decide (m.id = id)) = q at *;generalize zG s = w at *;clear hr h1;simp only [zj] at hm ⊢;rw [ze zGd (by simp)]; simp -implicitDefEqProofs (disch := omega) only [zvt, za, go_sem, *]
end Go.Proofs.YtfggldgdejjlnaaGreat

namespace Go.Proofs.YtfggldgdejjlnaaGreat.L
open Go Go.Sim Go.Proofs.YtfggldgdejjlnaaGreat
theorem zMA (lo hi : Int) (r : z9) (m : Message) (hm : zD m = 0) (hr : lo <= m.route /\ m.route <= hi) (hv : zW r = 0) (hs : r.size < r.cells.length) (hn : ((zG ⟨true, lo, hi, r, zP⟩).any fun x => decide (x.id = m.id)) = false) (hp : zbl r m = 0) :
    zd G zgd [.d (zj ⟨true, lo, hi, r, zP⟩), .d (zg m)] [] = some (.d (.tup [zj ⟨true, lo, hi, (pbD r m).1, zP⟩, .int .i64 0]), []) := by
 obtain ⟨b1, b2, b3, b4, b5, b6⟩ := zba hv;have hv2 := zBN.trans (zhd m);have hi1 := up_shard_in.trans (zeW m.route lo hi);have hro := up_shard_room.trans (zBr ⟨true, lo, hi, r, zP⟩ (by simp [zP]) b5 (by simp only; omega) b2);have hh := up_shard_has.trans (zzi ⟨true, lo, hi, r, zP⟩ m.id hv (by simp [zP]));have hpb := zBQ.trans (ztz r m (by omega));have he : (pbD r m).2 = 0 := by unfold pbD; rw [zQO hp]
 rw [hn] at hh;rw [hm] at hv2;rw [zRA hr] at hi1;rw [he] at hpb;have ho := zhx ⟨true, lo, hi, r, zP⟩ b1 b2 (by simp [zP]) (by simp [zP]);generalize (pbD r m).1 = r2 at *;clear hr hn hp he hv;obtain ⟨c, h, z⟩ := r;obtain ⟨c2, h2, z2⟩ := r2;simp only [zj, zg, zA, zP, zQR, zQ1, zQW, Int.add_zero] at *;rw [ze zxt (by simp)]; simp -implicitDefEqProofs (disch := omega) only [zvD, za, go_sem, *]
theorem zOZ (s s2 : Shard) (m : Message) (e : Int) (h1 : s.ready.cells.length <= 4294967296) (h2 : s.leases.l.length <= 4294967296) (h3 : s.leases.heap.length <= 4294967296) (hl : zaA s = 0) (hp : zd G zgd [.d (zj s), .d (zg m)] [] = some (.d (.tup [zj s2, .int .i64 e]), [])) : zd G ziE [.d (zj s), .d (zg m)] [] = some (.d (.tup [zj s2, .int .i64 e]), []) := by
 have hv := up_shard_live.trans (zfF s h1 h2 h3);rw [hl] at hv;clear hl;simp only [zj, zg] at *;rw [ze zxn (by simp)]; simp -implicitDefEqProofs (disch := omega) only [zvr, za, go_sem, *]
theorem zA9 (k : Nat) (h1 : 1 <= k) (h2 : k <= 12) : zd G zix [.d (.int .i64 k)] [] = some (.d (.tup [zA ⟨List.replicate k zu, 0, 0⟩, .int .i64 0]), []) := by
 have e : List.replicate k (Go.Sim.AV.d (zg zu)) = (List.replicate k (zg zu)).map Go.Sim.AV.d := by rw [zSW]
 simp only [zA, zSW];simp only [zg, zu] at e ⊢;rw [ze zxg (by simp)]; simp -implicitDefEqProofs (disch := omega) only [zvk, zTc, zS1, List.take_replicate, za, go_sem, *]
theorem zOT (k : Nat) (h1 : 1 <= k) (h2 : k <= 12) : zd G zdn [.d (.int .i64 k), .d (.int .i64 0), .d (.int .i64 65535)] [] = some (.d (.tup [zj ⟨true, 0, 65535, ⟨List.replicate k zu, 0, 0⟩, zP⟩, .int .i64 0]), []) := by
 have hr := zA9 k h1 h2;have hs := zt0.trans (ztG 0 65535);simp only [show (decide ((0 : Int) <= 0 /\ (0 : Int) <= 65535 /\ (65535 : Int) < 65536)) = true from by decide] at hs;simp only [zj, zA, zP, zQR] at *;generalize (List.replicate k zu).map zg = c at *;rw [ze zrl (by simp)]; simp -implicitDefEqProofs (disch := omega) only [zpI, za, go_sem, *]
end Go.Proofs.YtfggldgdejjlnaaGreat.L
