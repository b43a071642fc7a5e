/-
  lease.
-/
import Derived.Test.YtfggldgdejjlnaaGreatB0562a1b
import Derived.Test.YtfggldgdejjlnaaGreatBe71a10c
import Derived.Test.YtfggldgdejjlnaaGreatB5f7df0b
import Derived.Test.YtfggldgdejjlnaaGreatB82acc28
set_option linter.unusedSimpArgs false
set_option linter.unusedVariables false
set_option maxHeartbeats 10000000
set_option maxRecDepth 100000
namespace Go.Proofs.YtfggldgdejjlnaaGreat
open Go Go.Sim
theorem zos {r : z9} (hr : zW r = 0) : zd G zcx [.d (zA r)] [] = some (.acc 0 ((zw r).map zg), [(0, .acc (zw r).length)]) := by
 have hv := zot r (by have := (zba hr).2.1; omega);obtain ⟨c, h, z, rfl, h1, h2, h3, h4⟩ := zfT (zba hr);have hl := zsU c h z h2 h3 h4;rw [hr] at hv;rw [zea];clear hr;simp only [zA] at hv ⊢;generalize zS c h z = w at *;rw [ze zGb (by simp)]; simp -implicitDefEqProofs (disch := omega) only [zvj, za, go_sem, *]
theorem zM0 {r : z9} (hr : zW r = 0) : zd G zie [.d (zA r)] [] = some (.d (.sl ((zw r).map zg)), []) := by
 have hv := zAO r (by have := (zba hr).2.1; omega);obtain ⟨c, h, z, rfl, h1, h2, h3, h4⟩ := zfT (zba hr);have hl := zkn c h z h2 h3 h4;rw [hr] at hv;rw [zea];clear hr;simp only [zA] at hv ⊢;generalize zS c h z = w at *;rw [ze zF6 (by simp)]; simp -implicitDefEqProofs (disch := omega) only [zu4, za, go_sem, *]
theorem zNa {s : Shard} (hr : zW s.ready = 0) : zd G ziw [.d (zj s)] [] = some (.d (.sl ((zw s.ready).map zg)), []) := by
 have hl := zM0 hr;generalize zw s.ready = w at *;simp only [zA, zj] at hl ⊢;rw [ze zGa (by simp)]; simp -implicitDefEqProofs (disch := omega) only [zvi, za, go_sem, *]
def zaV (b : List Message) (l : List Lease) (i : Nat) : List Message := b ++ (l.take i).map (·.msg)
theorem zz2 (b : List Message) {l : List Lease} {i : Nat} (h : i < l.length) : zaV b l (i + 1) = zaV b l i ++ [l[i].msg] := by
 unfold zaV; rw [zSb, zQ4 h, zQY, zRC]; rfl
theorem zz1 (b : List Message) {l : List Lease} {i : Nat} (h : i <= l.length) : (zaV b l i).length = b.length + i := by
 simp [zaV]; omega
def smS (b : List Message) (l : List Lease) (i : Nat) : St := ⟨[(3, .acc 8 ((zaV b l i).map zg)), (11, .d (.sl (l.map zt))), (12, .d (.int .i64 l.length)), (13, .d (.int .i64 i))], [(8, .acc (zaV b l i).length)]⟩
theorem zOR (b : List Message) (l : List Lease) (h1 : l.length <= 12) (h2 : b.length <= 12) : ∀ i, i <= l.length -> zT G [] znV (smS b l i) = some (.exit 0, ⟨[(3, .acc 8 ((zaV b l l.length).map zg))], [(8, .acc (zaV b l l.length).length)]⟩) := by
 refine zap (fun i => l.length - i) (fun i => i <= l.length) (smS b l) _ fun i hi L ih => ?_
 by_cases h0 : i < l.length
 · have i1 := ih (i + 1) (by omega) (by omega);clear ih;have hl := zz1 b (l := l) (i := i) (by omega);rw [smS, zz2 b h0] at i1;generalize zaV b l l.length = z at *;simp only [zQY, zQS, zQR, zQT, zRI, hl] at i1;simp only [smS, hl, znV];generalize zaV b l i = w at *;simp only [zg] at i1;simp only [zQ2, zQZ, zQW, zQ5, zQ0, zQT, zQV, zQR, zQ1, zQY, zQS, zQX, zQU, zo, zC] at i1;simp -implicitDefEqProofs (disch := omega) only [zt, zg, za, go_sem, *]
 · clear ih;have : i = l.length := by omega
   subst this;simp only [smS, znV];simp -implicitDefEqProofs (disch := omega) only [za, go_sem, *]
theorem zs5 {s : Shard} (hr : zW s.ready = 0) (h1 : s.leases.l.length <= 12) : zd G zds [.d (zj s)] [] = some (.d (.sl ((zG s).map zg)), []) := by
 have hl := zos hr;have hb : (zw s.ready).length <= 12 := by
  rw [zeQ];have := zba hr;obtain ⟨a1, a2, a3, a4, a5, a6⟩ := this;omega
 have hm := zOR (zw s.ready) s.leases.l h1 hb 0 (by omega);have e : zaV (zw s.ready) s.leases.l s.leases.l.length = zG s := by simp [zaV, zG]
 rw [e] at hm;simp only [smS, zaV, zRW, zQR, zRG] at hm;generalize zG s = w at *;generalize zw s.ready = w2 at *;simp only [zA, zj] at hl ⊢;simp only [zQ2, zQZ, zQW, zQ5, zQ0, zQT, zQV, zQR, zQ1, zQY, zQS, zQX, zQU, zo, zC] at hm;rw [ze zGe (by simp)]; simp -implicitDefEqProofs (disch := omega) only [zvz, za, go_sem, *]
def l7S (s : Shard) (i : Nat) : St := ⟨[(1, .ref 1 0 0), (3, .acc 3 ((zaV [] s.leases.l i).map zg)), (4, .d (.int .i64 i))], [(1, .row [.d (zj s)]), (3, .acc (zaV [] s.leases.l i).length)]⟩
theorem zHD (s : Shard) (h1 : s.leases.l.length <= 12) : ∀ i, i <= s.leases.l.length -> zT G [] znP (l7S s i) = some (.exit 0, ⟨[(3, .acc 3 ((zaV [] s.leases.l s.leases.l.length).map zg))], [(3, .acc (zaV [] s.leases.l s.leases.l.length).length)]⟩) := by
 refine zap (fun i => s.leases.l.length - i) (fun i => i <= s.leases.l.length) (l7S s) _ fun i hi L ih => ?_
 by_cases h0 : i < s.leases.l.length
 · have i1 := ih (i + 1) (by omega) (by omega);clear ih;have hl := zz1 [] (l := s.leases.l) (i := i) (by omega);rw [l7S, zz2 [] h0] at i1;generalize zaV [] s.leases.l s.leases.l.length = z at *;simp only [zQY, zQS, zQR, zQT, zRI, hl] at i1;simp only [l7S, hl, znP];generalize zaV [] s.leases.l i = w at *;simp only [zg, zj] at i1 ⊢;simp only [zQ2, zQZ, zQW, zQ5, zQ0, zQT, zQV, zQR, zQ1, zQY, zQS, zQX, zQU, zo, zC] at i1;simp -implicitDefEqProofs (disch := omega) only [zt, zg, za, go_sem, *]
 · clear ih;have : i = s.leases.l.length := by omega
   subst this;simp only [l7S, zj, znP];simp -implicitDefEqProofs (disch := omega) only [za, go_sem, *]
theorem zHM {s : Shard} (h1 : s.leases.l.length <= 12) : zd G ziv [.d (zj s)] [] = some (.d (.sl ((s.leases.l.map (·.msg)).map zg)), []) := by
 have hm := zHD s h1 0 (by omega);have e : zaV [] s.leases.l s.leases.l.length = s.leases.l.map (·.msg) := by simp [zaV]
 rw [e] at hm;generalize s.leases.l.map (·.msg) = w at *;simp only [l7S, zaV, zRW, zQR, zRG, zj] at hm;simp only [zj];simp only [zQ2, zQZ, zQW, zQ5, zQ0, zQT, zQV, zQR, zQ1, zQY, zQS, zQX, zQU, zo, zC] at hm;rw [ze zxf (by simp)]; simp -implicitDefEqProofs (disch := omega) only [zvh, za, go_sem, *]
theorem zkQ {s : Shard} (hr : zW s.ready = 0) (h1 : s.leases.l.length <= 12) : zd G zcj [.d (zj s)] [] = some (.d (.sl ((zG s).map zg)), []) := by
 have h2 := zNa hr;have h3 := zHM h1;have hb : (zw s.ready).length <= 12 := by
  rw [zeQ];have := zba hr;obtain ⟨a1, a2, a3, a4, a5, a6⟩ := this;omega
 have hc : (s.leases.l.map (·.msg)).length <= 12 := by simpa using h1
 simp only [zG, zQY];generalize s.leases.l.map (·.msg) = w at *;generalize zw s.ready = w2 at *;simp only [zj] at h2 h3 ⊢;rw [ze zF9 (by simp)]; simp -implicitDefEqProofs (disch := omega) only [zvf, za, go_sem, *]
theorem zPq {t : Table} (h : zF t = 0) : t.l.length <= 12 := by
 refine Classical.byContradiction fun hc => ?_;unfold zF at h;rw [zQO (by omega)] at h;exact absurd h (by decide)
def movE (lo hi : Int) (l : List Message) : Bool := l.any fun m => decide (¬ (lo <= m.route /\ m.route <= hi))
theorem zIG (lo hi : Int) {l : List Message} {k : Nat} (h : k < l.length) : movE lo hi (l.drop k) = (decide (¬ (lo <= l[k].route /\ l[k].route <= hi)) || movE lo hi (l.drop (k + 1))) := by
 rw [zRH h]; rfl
theorem zeW (n lo hi : Int) : zd G zdq [.d (.int .i64 n), .d (.int .i64 lo), .d (.int .i64 hi)] [] = some (.d (.bool (decide (lo <= n /\ n <= hi))), []) := by
 by_cases h : lo <= n
 · by_cases h2 : n <= hi
   · rw [zRA ⟨h, h2⟩];rw [ze zrp (by simp)]; simp -implicitDefEqProofs (disch := omega) only [zlc, za, go_sem, *]
   · rw [zRw (by omega)];rw [ze zrp (by simp)]; simp -implicitDefEqProofs (disch := omega) only [zlc, za, go_sem, *]
 · rw [zRw (by omega)];rw [ze zrp (by simp)]; simp -implicitDefEqProofs (disch := omega) only [zlc, za, go_sem, *]
theorem ztG (lo hi : Int) : zd G zfb [.d (.int .i64 lo), .d (.int .i64 hi)] [] = some (.d (.bool (decide (0 <= lo /\ lo <= hi /\ hi < 65536))), []) := by
 by_cases h : 0 <= lo /\ lo <= hi /\ hi < 65536
 · rw [zRA h];rw [ze zxu (by simp)]; simp -implicitDefEqProofs (disch := omega) only [zpO, za, go_sem, *]
 · rw [zRw h];have e : (decide (0 <= lo) && (decide (lo <= hi) && decide (hi < 65536))) = false := by simp; omega
   rw [ze zxu (by simp)]; simp -implicitDefEqProofs (disch := omega) only [zpO, e, za, go_sem, *]
theorem zoD (s : Shard) (h1 : s.leases.l.length <= 12) (h2 : 0 <= s.ready.size) (h3 : s.ready.size <= 12) : zd G zdu [.d (zj s)] [] = some (.d (.int .i64 (s.ready.size + s.leases.l.length)), []) := by
 simp only [zj];rw [ze zGg (by simp)]; simp -implicitDefEqProofs (disch := omega) only [zvF, za, go_sem, *]
def svS (s : Shard) (l : List Message) (i : Nat) : St := ⟨[(1, .ref 1 0 0), (5, .mpr 52), (6, .d (.bool (zaz (zaT l i)))), (54, .d (.sl (l.map zg))), (55, .d (.int .i64 l.length)), (56, .d (.int .i64 i))], [(1, .row [.d (zj s)]), (52, .mp (zdj (zaT l i)))]⟩
def svR (s : Shard) (l : List Message) (i : Nat) : zJ × St := if movE s.low s.high (l.drop i) = true then (.ret, ⟨[(2, .d (.int .i64 12))], []⟩) else (.exit 1, ⟨[(6, .d (.bool (zaz (l.map (·.id)))))], []⟩)
theorem zO9 (s : Shard) (l : List Message) (h1 : l.length <= 24) : ∀ i, i <= l.length -> zT G [] znU (svS s l i) = some (svR s l i) := by
 refine zap (fun i => l.length - i) (fun i => i <= l.length) (svS s l) (fun i => some (svR s l i)) fun i hi L ih => ?_
 by_cases h0 : i < l.length
 · have i1 := ih (i + 1) (by omega) (by omega);clear ih;have hm := zeW l[i].route s.low s.high;unfold svR at i1 ⊢;rw [zIG _ _ h0];unfold svS at i1;rw [zzm h0, zBj, zwd] at i1;have hg := zzW l[i].id (zaT l i);generalize movE s.low s.high (l.drop (i + 1)) = fe at *;generalize zaz (l.map (·.id)) = dd at *;simp only [svS, zj, znU] at i1 ⊢;generalize zdj (zaT l i) = sm at *
   by_cases hv : s.low <= l[i].route /\ l[i].route <= s.high
   · rw [zRA hv] at hm;simp only [hv, zRf, zSd, decide_false, zR6]
     by_cases hmem : l[i].id ∈ zaT l i
     · simp only [hmem, if_true, decide_true, zTp] at hg i1;generalize zaz (zaT l i) = d0 at *;generalize zaT l i = w at *;simp only [zQ2, zQZ, zQW, zQ5, zQ0, zQT, zQV, zQR, zQ1, zQY, zQS, zQX, zQU, zo, zC] at i1
       cases d0
       · simp -implicitDefEqProofs (disch := omega) only [zg, za, go_sem, *]
       · simp -implicitDefEqProofs (disch := omega) only [zg, za, go_sem, *]
     · simp only [hmem, if_false, decide_false, zTq] at hg i1;generalize zaz (zaT l i) = d0 at *;generalize zaT l i = w at *;simp only [zQ2, zQZ, zQW, zQ5, zQ0, zQT, zQV, zQR, zQ1, zQY, zQS, zQX, zQU, zo, zC] at i1
       cases d0
       · simp -implicitDefEqProofs (disch := omega) only [zg, za, go_sem, *]
       · simp -implicitDefEqProofs (disch := omega) only [zg, za, go_sem, *]
   · rw [zRw hv] at hm;simp only [hv, zRh, decide_true, zSP, if_true];clear i1 hg;simp -implicitDefEqProofs (disch := omega) only [zg, za, go_sem, *]
 · clear ih;have : i = l.length := by omega
   subst this;unfold svR;rw [zRZ];simp only [svS, zaT, zSy, movE, List.any_nil, zRa, if_false, znU, zj];simp -implicitDefEqProofs (disch := omega) only [za, go_sem, *]
theorem zfU {s : Shard} (hr : zW s.ready = 0) (h1 : s.leases.l.length <= 12) : (zG s).length <= 24 := by
 obtain ⟨a1, a2, a3, a4, a5, a6⟩ := zba hr;simp only [zG, zQT, zQV, zeQ];omega
theorem ztC {s : Shard} (hr : zW s.ready = 0) (ht : zF s.leases = 0) : zaG s = if s.live = false then (if s.low ≠ 0 \/ s.high ≠ 0 \/ 0 < s.ready.size + s.leases.l.length then 7 else 0)
 else if ¬ (0 <= s.low /\ s.low <= s.high /\ s.high < 65536) then 1
 else if s.ready.cells.length < s.ready.size + s.leases.l.length then 3
 else if movE s.low s.high (zG s) = true then 12
 else if zaz ((zG s).map (·.id)) = true then 10 else 0 := by
 unfold zaG;rw [zQN (fun hc => hc hr), zQN (fun hc => hc ht)];rfl
theorem zox (s : Shard) (h1 : s.ready.cells.length <= 4294967296) (h2 : s.leases.l.length <= 4294967296) (h3 : s.leases.heap.length <= 4294967296) : zd G zdo [.d (zj s)] [] = some (.d (.int .i64 (zaG s)), []) := by
 have hv := zot s.ready h1;have ht := zka s.leases h2 h3
 by_cases e1 : zW s.ready = 0
 · by_cases e2 : zF s.leases = 0
   · rw [ztC e1 e2];rw [e1] at hv;rw [e2] at ht;have hl := zPq e2;obtain ⟨a1, a2, a3, a4, a5, a6⟩ := zba e1;have hs := zoD s hl a5 (by omega);have hsp := ztG s.low s.high;have hm := zs5 e1 hl;have hml := zfU e1 hl;have hlp := zO9 s (zG s) hml 0 (by omega);unfold svR at hlp;simp only [svS, zaT, zRW, zQR, zdj, zT7, show zaz [] = false by decide, zRB] at hlp;generalize movE s.low s.high (zG s) = b1 at *;generalize zaz ((zG s).map (·.id)) = b2 at *;generalize zG s = w at *;clear e1 e2;obtain ⟨lv, lo, hi, ⟨c, h, z⟩, ⟨tl, th⟩⟩ := s;simp only [zj, zA, zO] at hv ht hs hsp hm hlp a1 a2 a3 a4 a5 a6 hl h1 h2 h3 ⊢;simp only [zQ2, zQZ, zQW, zQ5, zQ0, zQT, zQV, zQR, zQ1, zQY, zQS, zQX, zQU, zo, zC] at hlp
     cases lv with
     | false =>
      simp only [if_true]
      by_cases c1 : lo ≠ 0 \/ hi ≠ 0 \/ 0 < z + tl.length
      · rw [zQO c1];rw [ze zd6 (by simp)]; simp -implicitDefEqProofs (disch := omega) only [zdB, za, go_sem, *]; (try simp only [pA, pB, pC, pD, pE, pF, pG, pH, pI, pJ, pK, pL, pM, pN, pO, pP, if_true, if_false]); repeat' (first | done | rfl | ((first | refine zK (fun hq => ?_) (fun hq => ?_) | refine zM (fun hq => ?_) (fun hq => ?_)) <;> (try (first | (exfalso; omega) | contradiction)) <;> (try simp -implicitDefEqProofs (disch := omega) only [za, go_sem, *]) <;> (try simp only [pA, pB, pC, pD, pE, pF, pG, pH, pI, pJ, pK, pL, pM, pN, pO, pP, if_true, if_false]))); (all_goals try rfl); (all_goals try (repeat' (first | done | rfl | (exfalso; omega) | contradiction | (refine zN (fun hq => ?_) (fun hq => ?_)))))
      · rw [zQN c1];rw [ze zd6 (by simp)]; simp -implicitDefEqProofs (disch := omega) only [zdB, za, go_sem, *]
     | true =>
      simp only [zTo, if_false]
      by_cases c1 : 0 <= lo /\ lo <= hi /\ hi < 65536
      · rw [zRA c1] at hsp;rw [zQN (fun hc => hc c1)]
        by_cases c2 : (c.length : Int) < z + tl.length
        · rw [zQO c2];rw [ze zd6 (by simp)]; simp -implicitDefEqProofs (disch := omega) only [zdB, za, go_sem, *]
        · rw [zQN c2]
          cases b1
          · cases b2
            · simp only [zRa, if_false] at hlp ⊢;rw [ze zd6 (by simp)]; simp -implicitDefEqProofs (disch := omega) only [zdB, za, go_sem, *]
            · simp only [zRa, if_false, if_true] at hlp ⊢;rw [ze zd6 (by simp)]; simp -implicitDefEqProofs (disch := omega) only [zdB, za, go_sem, *]
          · simp only [if_true] at hlp ⊢;rw [ze zd6 (by simp)]; simp -implicitDefEqProofs (disch := omega) only [zdB, za, go_sem, *]
      · rw [zRw c1] at hsp;rw [zQO c1];rw [ze zd6 (by simp)]; simp -implicitDefEqProofs (disch := omega) only [zdB, za, go_sem, *]
   · unfold zaG;rw [zQN (fun hc => hc e1), zQO e2];rw [e1] at hv;generalize zF s.leases = v at *;obtain ⟨lv, lo, hi, ⟨c, h, z⟩, ⟨tl, th⟩⟩ := s;simp only [zj, zA, zO] at hv ht h1 h2 h3 ⊢;rw [ze zd6 (by simp)]; simp -implicitDefEqProofs (disch := omega) only [zdB, za, go_sem, *]
 · unfold zaG;rw [zQO e1];clear ht;generalize zW s.ready = v at *;obtain ⟨lv, lo, hi, ⟨c, h, z⟩, ⟨tl, th⟩⟩ := s;simp only [zj, zA] at hv h1 h2 h3 ⊢;rw [ze zd6 (by simp)]; simp -implicitDefEqProofs (disch := omega) only [zdB, za, go_sem, *]
theorem zMn (l : List Int) (a : Nat) (xs : List Int) (hL : l.length <= 4000) (h1 : 1 <= xs.length) (h2 : xs.length <= 1000) : ∃ i : Nat, ∃ hi : i < xs.length, ∃ a', zd G zcv [.ref 1000000 0 0, .d (.sl (zy xs))] [(1000000, zo l a)] = some (.d (.int .i64 xs[i]), [(1000000, zo l a')]) := by
 have hn := zcN l a xs.length hL (by omega) (by omega);have hb := zbL l a (n := xs.length) (by omega);obtain ⟨i, hi⟩ : ∃ i : Nat, nD l a xs.length = i := ⟨(nD l a xs.length).toNat, by omega⟩;rw [hi] at hn hb;have hlt : i < xs.length := by omega
 refine ⟨i, hlt, (zaB l a).2, ?_⟩;clear hb hi;rw [ze zFZ (by simp)]; simp -implicitDefEqProofs (disch := omega) only [zuD, za, go_sem, *]
theorem ztj (l : List Int) (a : Nat) (xs : List Int) (lo hi : Int) (hL : l.length <= 4000) (h1 : 1 <= xs.length) (h2 : xs.length <= 1000) (hx : ∀ x ∈ xs, lo <= x /\ x <= hi) : ∃ y a', zd G zcv [.ref 1000000 0 0, .d (.sl (zy xs))] [(1000000, zo l a)] = some (.d (.int .i64 y), [(1000000, zo l a')]) /\ lo <= y /\ y <= hi := by
 obtain ⟨i, hi, a', h⟩ := zMn l a xs hL h1 h2;exact ⟨_, a', h, hx _ (zRe hi)⟩
theorem zOX (l : List Int) (a : Nat) (hL : l.length <= 4000) : ∃ lo hi a', 0 <= lo /\ lo <= hi /\ hi < 65536 /\ zd G zhN [.ref 1000000 0 0] [(1000000, zo l a)] = some (.d (.tup [.int .i64 lo, .int .i64 hi]), [(1000000, zo l a')]) := by
 obtain ⟨y, a1, q1, y1, y2⟩ := ztj l a [0, 0, 100, 32768, 65535] 0 65535 hL (by simp) (by simp) (by simp);obtain ⟨z, a2, q2, z1, z2⟩ := ztj l a1 [65535, 65535, 40000, 101, 32768] 0 65535 hL (by simp) (by simp) (by simp);simp only [zy, zQS, zQR] at q1 q2
 rcases (show z < y \/ y < z \/ y = z by omega) with h | h | h
 · refine ⟨z, y, a2, by omega, by omega, by omega, ?_⟩;rw [ze znc (by simp)]; simp -implicitDefEqProofs (disch := omega) only [zkW, za, go_sem, *]
 · refine ⟨y, z, a2, by omega, by omega, by omega, ?_⟩;rw [ze znc (by simp)]; simp -implicitDefEqProofs (disch := omega) only [zkW, za, go_sem, *]
 · subst h;refine ⟨y, y, a2, by omega, by omega, by omega, ?_⟩;rw [ze znc (by simp)]; simp -implicitDefEqProofs (disch := omega) only [zkW, za, go_sem, *]
def SG (x : Shard) : Prop := zaG x = 0 /\ (∀ m ∈ zw x.ready, 0 <= m.epoch /\ m.count <= 3) /\ (∀ y ∈ x.leases.l, 0 <= y.msg.epoch) /\ (x.live = false -> x.ready.size = 0 /\ x.leases.l = [])
theorem zFH (n : Nat) (h1 : 1 <= n) (h2 : n <= 12) : SG ⟨false, 0, 0, ⟨List.replicate n zu, 0, 0⟩, zP⟩ := by
 have hr : zW ⟨List.replicate n zu, 0, 0⟩ = 0 := zor (n := n) (h := 0) (l := []) h1 h2 (by omega) (by simp) (by simp) (by simp);refine ⟨?_, by simp [zw], by simp [zP], fun _ => ⟨rfl, rfl⟩⟩;unfold zaG;rw [zQN (by simpa using hr), zQN (by show ¬ zF zP ≠ 0; decide), zQO rfl, zQN (by simp [zoC, zP])]
theorem zH3 {n h : Nat} {L : List Message} {t : Table} {lo hi i1 i2 : Int} (hn : 1 <= n) (hn2 : n <= 12) (hh : h < n) (h2 : 0 <= lo) (h3 : lo <= hi) (h4 : hi < 65536) (hm : mOK lo hi 1 L i1) (hi1 : i1 <= 7) (ht : tOK lo hi 11 t i2) (hl : L.length + t.l.length <= n) : SG ⟨true, lo, hi, rg n h L, t⟩ := by
 have ho : zw (rg n h L) = L := by rw [rg, zea, zfP hn (by omega)]
 have hr := zor hn hn2 hh (by omega) (fun m hx => (hm.1 m hx).1) hm.2;have htv := (zbb t).1 ht.1;refine ⟨?_, fun m hx => ?_, fun y hy => (ht.2 y hy).2.2.2.2, fun h => by cases h⟩
 · unfold zaG;rw [zQN (by simpa using hr), zQN (by simpa using ht.1), zQN (by simp), zQN (by simp only; omega), zQN (by simp [zoC, rg, z8]; omega), zQN, zQN]
   · unfold zaz zG;simp only [ho, decide_eq_true_eq, zRm, zQY, zSt];rw [zRQ];refine ⟨hm.2, ?_, fun a ha b hb => ?_⟩
     · have : (t.l.map ((fun m : Message => m.id) ∘ fun x => x.msg)).Pairwise (· ≠ ·) := by
        rw [List.pairwise_map];exact (zbT htv.2.1).imp fun {x y} hxy => by simp only [Function.comp]; omega
       exact this
     · obtain ⟨x, hx, rfl⟩ := zQ3.1 ha;obtain ⟨y, hy, rfl⟩ := zQ3.1 hb;have k1 := hm.1 x hx;have k2 := ht.2 y hy;simp only [Function.comp]; omega
   · unfold zzZ zG;simp only [ho, zSu, zR8, zRc, zQ3, decide_eq_true_eq, zRm];rintro m (hx | ⟨y, hy, rfl⟩)
     · have k1 := hm.1 m hx; exact ⟨k1.2.1, k1.2.2.1⟩
     · have k1 := ht.2 y hy; exact ⟨k1.1, k1.2.1⟩
 · simp only [ho] at hx;have k1 := hm.1 m hx;refine ⟨?_, k1.2.2.2.2.2⟩;have := k1.1;unfold zD at this
   split at this
   · rename_i hc; exact hc.2.2.2.2.1
   · cases this
theorem zFI (n : Nat) (h1 : 1 <= n) (h2 : n <= 12) : zd G ziu [.d (.int .i64 n)] [] = some (.d (.tup [zj ⟨false, 0, 0, ⟨List.replicate n zu, 0, 0⟩, zP⟩, .int .i64 0]), []) := by
 have hw := zz7 n h1 h2;generalize List.replicate n zu = c at *;simp only [zA, zj, zP, zQR] at hw ⊢;rw [ze zxe (by simp)]; simp -implicitDefEqProofs (disch := omega) only [zvg, za, go_sem, *]
theorem zFN (l : List Int) (a n : Nat) (lo hi : Int) (hL : l.length <= 4000) (h2 : 0 <= lo) (h3 : lo <= hi) (h4 : hi < 65536) (hn : 1 <= n) (hn2 : n <= 12) : ∃ x a', SG x /\ zd G zhI [.ref 1000000 0 0, .d (.int .i64 n), .d (.int .i64 1), .d (.int .i64 lo), .d (.int .i64 hi)] [(1000000, zo l a)] = some (.d (zj x), [(1000000, zo l a')]) := by
 have q1 := zcN l a 12 hL (by omega) (by omega);have b1 := zbL l a (n := 12) (by omega);generalize nD l a 12 = c at *;generalize (zaB l a).2 = a1 at *
 by_cases hc : c = 11
 · subst hc;have hf := zFI n hn hn2;refine ⟨_, a1, zFH n hn hn2, ?_⟩;generalize List.replicate n zu = cs at *;simp only [zj, zP, zQR] at hf ⊢;rw [ze zjD (by simp)]; simp -implicitDefEqProofs (disch := omega) only [zi3, za, go_sem, *]
 · obtain ⟨h, L, a2, idn, g1, g2, g3, g4, g5, hr⟩ := zNG l a1 n 1 lo hi hL h2 h3 h4 (by omega) (by omega) hn hn2;obtain ⟨k, hk⟩ : ∃ k : Nat, (n - L.length < 4 /\ k = n - L.length \/ ¬ n - L.length < 4 /\ k = 4) := by
    by_cases hc : n - L.length < 4
    · exact ⟨_, .inl ⟨hc, rfl⟩⟩
    · exact ⟨4, .inr ⟨hc, rfl⟩⟩
   obtain ⟨t, a3, idt, t1, t2, ht⟩ := zPc l a2 k 11 lo hi hL (by omega) (by omega) (by omega) h2 h3 h4;refine ⟨⟨true, lo, hi, rg n h L, t⟩, a3, zH3 hn hn2 g1 h2 h3 h4 g5 g4 t1 (by omega), ?_⟩;have hlen : (rg n h L).cells.length = n := z8 _ _ _ _;have hsz : (rg n h L).size = (L.length : Int) := rfl;clear t1 g5;generalize rg n h L = r at *;simp only [zA, hsz] at hr;simp only [zj, zO, hsz] at ht ⊢
   rcases hk with ⟨hk, rfl⟩ | ⟨hk, rfl⟩
   · have e : ((n - L.length : Nat) : Int) = (n : Int) - L.length := by omega
     rw [e] at ht;have hlt : (n : Int) - L.length < 4 := by omega
     rw [ze zjD (by simp)]; simp -implicitDefEqProofs (disch := omega) only [zi3, za, go_sem, *]
   · by_cases e4 : (n : Int) - L.length = 4
     · have e4' := e4;simp only [zQ0] at ht;rw [ze zjD (by simp)]; simp -implicitDefEqProofs (disch := omega) only [zi3, za, go_sem, *]
     · have hlt : (4 : Int) < (n : Int) - L.length := by omega
       simp only [zQ0] at ht;rw [ze zjD (by simp)]; simp -implicitDefEqProofs (disch := omega) only [zi3, za, go_sem, *]
theorem zOF (l : List Int) (a : Nat) (hL : l.length <= 4000) : ∃ x a', SG x /\ zd G zcX [.ref 1000000 0 0] [(1000000, zo l a)] = some (.d (zj x), [(1000000, zo l a')]) := by
 obtain ⟨lo, hi, a1, h2, h3, h4, hs⟩ := zOX l a hL;have q1 := zAQ l a1 1 12 hL (by omega) (by omega) (by omega) (by omega);have b1 := zbL l a1 (n := 12 - 1 + 1) (by omega);obtain ⟨n, hn⟩ : ∃ n : Nat, 1 + nD l a1 (12 - 1 + 1) = n := ⟨(1 + nD l a1 (12 - 1 + 1)).toNat, by omega⟩;rw [hn] at q1;have hn1 : 1 <= n /\ n <= 12 := by omega
 clear b1 hn;generalize (zaB l a1).2 = a2 at *;obtain ⟨x, a3, hx, hf⟩ := zFN l a2 n lo hi hL h2 h3 h4 hn1.1 hn1.2;refine ⟨x, a3, hx, ?_⟩;clear hx;simp only [zj] at hf ⊢;have hfrom : zd G zhH [.ref 1000000 0 0, .d (.int .i64 1), .d (.int .i64 lo), .d (.int .i64 hi)] [(1000000, zo l a1)] = some (.d (zj x), [(1000000, zo l a3)]) := by
  simp only [zj];rw [ze zwD (by simp)]; simp -implicitDefEqProofs (disch := omega) only [zuC, za, go_sem, *]
 clear hf q1;have hbet : zd G zhG [.ref 1000000 0 0, .d (.int .i64 lo), .d (.int .i64 hi)] [(1000000, zo l a1)] = some (.d (zj x), [(1000000, zo l a3)]) := by
  simp only [zj] at hfrom ⊢;rw [ze zwB (by simp)]; simp -implicitDefEqProofs (disch := omega) only [zuB, za, go_sem, *]
 clear hfrom;simp only [zj] at hbet;rw [ze zF1 (by simp)]; simp -implicitDefEqProofs (disch := omega) only [zuF, za, go_sem, *]
def zaA (s : Shard) : Int := if zaG s ≠ 0 then zaG s else if s.live = true then 0 else 7
theorem zfF (s : Shard) (h1 : s.ready.cells.length <= 4294967296) (h2 : s.leases.l.length <= 4294967296) (h3 : s.leases.heap.length <= 4294967296) : zd G zdr [.d (zj s)] [] = some (.d (.int .i64 (zaA s)), []) := by
 have hv := zox s h1 h2 h3;unfold zaA;generalize zaG s = v at *;obtain ⟨lv, lo, hi, ⟨c, h, z⟩, ⟨tl, th⟩⟩ := s;simp only [zj] at hv ⊢
 by_cases e : v = 0
 · subst e
   cases lv
   · rw [ze zrq (by simp)]; simp -implicitDefEqProofs (disch := omega) only [zld, za, go_sem, *]
   · rw [ze zrq (by simp)]; simp -implicitDefEqProofs (disch := omega) only [zld, za, go_sem, *]
 · rw [zQO e];rw [ze zrq (by simp)]; simp -implicitDefEqProofs (disch := omega) only [zld, za, go_sem, *]
theorem zMt (m : Message) (ep : Int) : zd G zdU [.d (zg m), .d (.int .i64 ep)] [] = some (.d (.bool (decide (m.epoch < ep))), []) := by
 simp only [zg];rw [ze zwZ (by simp)]; simp -implicitDefEqProofs (disch := omega) only [zpC, za, go_sem, *]
theorem zOY (m : Message) (lim : Int) : zd G zej [.d (zg m), .d (.int .i64 lim)] [] = some (.d (.bool (decide (lim <= m.count))), []) := by
 simp only [zg];rw [ze zF5 (by simp)]; simp -implicitDefEqProofs (disch := omega) only [zu1, za, go_sem, *]
def zBg : List Nat := [zcz, zdT]
def zv8 : List Nat := [zhR, ze2, ze3, ze5, ze6, zek, zdU, zf3, zik, zij, zcY, zis, zit, zcW, zfX, zhK, zhL, ze0, zib, zia, ze1, ziy, zcx, ze8, ze7, zf7, zdo, zdr, zfc, zdu, zdt, zdp, zds, zdq, zfb, zej, zcX, zcv, zhJ, zcj, ziw, zf4, zf5, zie, zci, zir, zcw]
namespace L
noncomputable def G : FuncId -> Option AFn := zdb Go.Proofs.YtfggldgdejjlnaaGreat.G zBg zv8
theorem zgP : G zf2 = some zjn := tk
theorem znc : G zhN = some zlO := tk
theorem zwB : G zhG = some zlK := tk
theorem zwD : G zhH = some zlL := tk
theorem zjD : G zhI = some zlM := tk
theorem zxe : G ziu = some zmu := tk
theorem zw4 : G zif = some zmk := tk
theorem zrb : G zhM = some zlN := tk
theorem zw1 : G zh9 = some zmh := tk
theorem zw2 : G zic = some zmi := tk
theorem zgR : G zih = some zmn := tk
theorem zgQ : G zig = some zml := tk
theorem zw6 : G zf6 = some zmm := tk
theorem zni : G zid = some zmj := tk
theorem zw7 : G zii = some zmo := tk
theorem zrc : G zhO = some zlP := tk
theorem zxa : G zin = some zmr := tk
theorem zw9 : G zim = some zmq := tk
theorem zw8 : G zil = some zmp := tk
theorem zxc : G ziq = some zmt := tk
theorem zxb : G zio = some zms := tk
theorem zgU : G zdV = some zjo := tk
theorem zxk : G zf9 = some zmz := tk
theorem znh : G zh8 = some zmf := tk
theorem zxw : G ziO = some zmX := tk
theorem zxA : G ziR = some zm2 := tk
theorem zwK : G zfY = some zlS := tk
theorem zwR : G zhW = some zl0 := tk
theorem zwO : G zhU = some zlX := tk
theorem zwP : G zf1 = some zlY := tk
theorem zwL : G zhS = some zlT := tk
theorem zwM : G zfZ = some zlU := tk
theorem zwI : G zhQ = some zlR := tk
theorem zwH : G zhP = some zlQ := tk
theorem zng : G zh2 = some zl9 := tk
theorem zxx : G ziP = some zmY := tk
theorem zry : G ziT = some zm4 := tk
theorem zgV : G zgc = some zjr := tk
theorem zrl : G zdn = some zmF := tk
theorem zxg : G zix = some zmw := tk
theorem zrs : G zcy = some zjs := tk
theorem zrt : G zen = some zjt := tk
theorem zjP : G zfg = some zjx := tk
theorem zgW : G zfh = some zjz := tk
theorem zru : G zeo = some zju := tk
theorem zjO : G zff = some zjw := tk
theorem znp : G zgg = some zjy := tk
theorem znl : G zel = some zmK := tk
theorem zrr : G zem = some zmR := tk
theorem zjN : G zge = some zmW := tk
theorem zjM : G zfd = some zmV := tk
theorem zgT : G ziB = some zmB := tk
theorem zxi : G ziz = some zmx := tk
theorem zxj : G zf8 = some zmy := tk
theorem zxl : G ziA = some zmA := tk
theorem zdG : G zhY = some zl3 := tk
theorem zwV : G zh1 = some zl7 := tk
theorem znm : G ziN = some zmU := tk
theorem zwW : G zei = some zl8 := tk
theorem zwQ : G zhV = some zlZ := tk
theorem zrA : G ziV = some zm6 := tk
theorem zwS : G zdm = some zl1 := tk
theorem zxn : G ziE = some zmG := tk
theorem zxt : G zgd = some zmS := tk
theorem zxo : G zgb = some zmL := tk
theorem znn : G zfe = some zjv := tk
theorem zjK : G ziF = some zmI := tk
theorem zxp : G ziI = some zmN := tk
theorem zxq : G ziJ = some zmO := tk
theorem zxr : G ziK = some zmP := tk
theorem zxs : G ziL = some zmQ := tk
theorem zxy : G ziQ = some zmZ := tk
theorem zrz : G ziU = some zm5 := tk
theorem zw0 : G zh7 = some zme := tk
theorem zjL : G ziG = some zmJ := tk
theorem zxm : G ziC = some zmC := tk
theorem zjH : G zh6 = some zmd := tk
theorem znj : G ziD = some zmD := tk
theorem znf : G zhZ = some zl4 := tk
theorem zrB : G zgh = some zm7 := tk
theorem zwY : G zh4 = some zmb := tk
theorem zb7 : G zh5 = some zmc := tk
theorem zrD : G zgj = some zm9 := tk
theorem zrC : G zgi = some zm8 := tk
theorem zwU : G ze4 = some zl5 := tk
theorem zno : G zgf = some zm0 := tk
theorem zrx : G ziS = some zm3 := tk
theorem zrv : G ziM = some zmT := tk
theorem zjF : G zh0 = some zl6 := tk
theorem znd : G zf0 = some zlW := tk
theorem zwN : G zhT = some zlV := tk
theorem zwX : G zh3 = some zma := tk
theorem zxz : G zkM = some zm1 := tk
theorem zrk : G zga = some zmE := tk
theorem zro : G ziH = some zmM := tk
theorem zne : G zhX = some zl2 := tk
theorem zxf : G ziv = some zmv := tk
theorem znk : G ze9 = some zjp := tk
theorem zrn : G zfa = some zjq := tk
theorem zrm : G zcZ = some zmH := tk
variable {args : List Go.Sim.AV} {os : zb}
theorem zPL : zd G ze2 args os = zd Go.Proofs.YtfggldgdejjlnaaGreat.G ze2 args os := z7 (by kernel_rfl)
theorem zPM : zd G ze3 args os = zd Go.Proofs.YtfggldgdejjlnaaGreat.G ze3 args os := z7 (by kernel_rfl)
theorem zPN : zd G ze5 args os = zd Go.Proofs.YtfggldgdejjlnaaGreat.G ze5 args os := z7 (by kernel_rfl)
theorem zPO : zd G ze6 args os = zd Go.Proofs.YtfggldgdejjlnaaGreat.G ze6 args os := z7 (by kernel_rfl)
theorem zBN : zd G zek args os = zd Go.Proofs.YtfggldgdejjlnaaGreat.G zek args os := z7 (by kernel_rfl)
theorem zBL : zd G zdU args os = zd Go.Proofs.YtfggldgdejjlnaaGreat.G zdU args os := z7 (by kernel_rfl)
theorem up_ref05_SameInts : zd G zcY args os = zd Go.Proofs.YtfggldgdejjlnaaGreat.G zcY args os := z7 (by kernel_rfl)
theorem up_base_New : zd G zcW args os = zd Go.Proofs.YtfggldgdejjlnaaGreat.G zcW args os := z7 (by kernel_rfl)
theorem zPK : zd G ze1 args os = zd Go.Proofs.YtfggldgdejjlnaaGreat.G ze1 args os := z7 (by kernel_rfl)
theorem up_ring_List : zd G zcx args os = zd Go.Proofs.YtfggldgdejjlnaaGreat.G zcx args os := z7 (by kernel_rfl)
theorem zPQ : zd G ze8 args os = zd Go.Proofs.YtfggldgdejjlnaaGreat.G ze8 args os := z7 (by kernel_rfl)
theorem zBQ : zd G ze7 args os = zd Go.Proofs.YtfggldgdejjlnaaGreat.G ze7 args os := z7 (by kernel_rfl)
theorem up_shard_Validate : zd G zdo args os = zd Go.Proofs.YtfggldgdejjlnaaGreat.G zdo args os := z7 (by kernel_rfl)
theorem up_shard_live : zd G zdr args os = zd Go.Proofs.YtfggldgdejjlnaaGreat.G zdr args os := z7 (by kernel_rfl)
theorem zPR : zd G zfc args os = zd Go.Proofs.YtfggldgdejjlnaaGreat.G zfc args os := z7 (by kernel_rfl)
theorem up_shard_stored : zd G zdu args os = zd Go.Proofs.YtfggldgdejjlnaaGreat.G zdu args os := z7 (by kernel_rfl)
theorem up_shard_room : zd G zdt args os = zd Go.Proofs.YtfggldgdejjlnaaGreat.G zdt args os := z7 (by kernel_rfl)
theorem up_shard_has : zd G zdp args os = zd Go.Proofs.YtfggldgdejjlnaaGreat.G zdp args os := z7 (by kernel_rfl)
theorem up_shard_messages : zd G zds args os = zd Go.Proofs.YtfggldgdejjlnaaGreat.G zds args os := z7 (by kernel_rfl)
theorem up_shard_in : zd G zdq args os = zd Go.Proofs.YtfggldgdejjlnaaGreat.G zdq args os := z7 (by kernel_rfl)
theorem zt0 : zd G zfb args os = zd Go.Proofs.YtfggldgdejjlnaaGreat.G zfb args os := z7 (by kernel_rfl)
theorem zBM : zd G zej args os = zd Go.Proofs.YtfggldgdejjlnaaGreat.G zej args os := z7 (by kernel_rfl)
theorem up_base_Src_Shard : zd G zcX args os = zd Go.Proofs.YtfggldgdejjlnaaGreat.G zcX args os := z7 (by kernel_rfl)
theorem up_base_Src_Pick : zd G zcv args os = zd Go.Proofs.YtfggldgdejjlnaaGreat.G zcv args os := z7 (by kernel_rfl)
theorem up_ref07_All : zd G zcj args os = zd Go.Proofs.YtfggldgdejjlnaaGreat.G zcj args os := z7 (by kernel_rfl)
theorem up_ref03_Index : zd G zci args os = zd Go.Proofs.YtfggldgdejjlnaaGreat.G zci args os := z7 (by kernel_rfl)
theorem up_law07_ids : zd G zcw args os = zd Go.Proofs.YtfggldgdejjlnaaGreat.G zcw args os := z7 (by kernel_rfl)
theorem zBf : G zcz = some (.ext (zdO (zd Go.Proofs.YtfggldgdejjlnaaGreat.G) zcz)) := by kernel_rfl
theorem zBd : G zdT = some (.ext (zdO (zd Go.Proofs.YtfggldgdejjlnaaGreat.G) zdT)) := by kernel_rfl
attribute [go_sem] zPL zPM zPN zPO zBN zBL up_ref05_SameInts up_base_New zPK up_ring_List zPQ zBQ up_shard_Validate up_shard_live zPR up_shard_stored up_shard_room up_shard_has up_shard_messages up_shard_in zt0 zBM up_base_Src_Shard up_base_Src_Pick up_ref07_All up_ref03_Index up_law07_ids
end L
end Go.Proofs.YtfggldgdejjlnaaGreat

namespace Go.Proofs.YtfggldgdejjlnaaGreat.L
open Go Go.Sim Go.Proofs.YtfggldgdejjlnaaGreat
def zE (l : List Lease) (id : Int) : Nat := (l.filter fun x => decide (x.msg.id < id)).length
theorem zko (l : List Lease) (id : Int) : zE l id <= l.length := zSg _ _
theorem zbM {l : List Lease} (h : l.Pairwise fun x y => x.msg.id < y.msg.id) {id : Int} : ∀ {k : Nat} (hk : k < l.length), k < zE l id ↔ l[k].msg.id < id := by
 induction l with
 | nil => intro k hk; exact absurd hk (by simp)
 | cons x l ih =>
  intro k hk;obtain ⟨h1, h2⟩ := zSi.1 h
  by_cases hx : x.msg.id < id
  · have e : zE (x :: l) id = zE l id + 1 := by simp [zE, hx]
    rw [e]
    cases k with
    | zero => simp [hx]
    | succ k => have := ih h2 (k := k) (by simpa using hk); simp only [zTm]; rw [<- this]; omega
  · have e : zE (x :: l) id = 0 := by
     unfold zE;rw [zRq, List.filter_eq_nil_iff];intro y hy;simp only [decide_eq_true_eq]
     rcases zRs.1 hy with rfl | hy
     · exact hx
     · have := h1 y hy; omega
    rw [e];have hle : id <= ((x :: l)[k]).msg.id := by
     cases k with
     | zero => simp only [List.getElem_cons_zero]; omega
     | succ k => simp only [zTm]; have := h1 _ (zRe (l := l) (n := k) (by simpa using hk)); omega
    omega
theorem zwj (x : Lease) (id : Int) : zd G zei [.d (zt x), .d (.int .i64 id)] [] = some (.d (.int .i64 (za1 x.msg.id id)), []) := by
 have h := zvX x.msg.id id;rw [ze zwW (by simp)]; simp -implicitDefEqProofs (disch := omega) only [zuW, za, go_sem, *]
theorem zp4 (a b : Int) : (za1 a b < 0) ↔ a < b := by unfold za1; split <;> (try split) <;> omega
theorem zp3 (a b : Int) : (za1 a b = 0) ↔ a = b := by unfold za1; split <;> (try split) <;> omega
def bsS (l : List Lease) (id : Int) (p : Nat × Nat) : St := ⟨[(0, .d (.sl (l.map zt))), (1, .d (.int .i64 id)), (2, .d (.fn zei [])), (8, .d (.int .i64 l.length)), (9, .d (.int .i64 p.1)), (10, .d (.int .i64 p.2))], []⟩
theorem zCP (l : List Lease) (id : Int) (hL : l.length <= 1000) (h : l.Pairwise fun x y => x.msg.id < y.msg.id) : ∀ p : Nat × Nat, p.1 <= zE l id /\ zE l id <= p.2 /\ p.2 <= l.length -> zT G [] zsH (bsS l id p) = some (.exit 0, ⟨[(0, .d (.sl (l.map zt))), (1, .d (.int .i64 id)), (2, .d (.fn zei [])), (8, .d (.int .i64 l.length)), (9, .d (.int .i64 (zE l id)))], []⟩) := by
 refine zap (fun p : Nat × Nat => p.2 - p.1) (fun p : Nat × Nat => p.1 <= zE l id /\ zE l id <= p.2 /\ p.2 <= l.length) (bsS l id) _ fun ⟨i, j⟩ ⟨h1, h2, h3⟩ L ih => ?_;simp only at h1 h2 h3;simp only [bsS] at ih ⊢;simp only [zsH]
 by_cases hij : i < j
 · obtain ⟨m, hm⟩ : ∃ m, m = (i + j) / 2 := ⟨_, rfl⟩;have hml : m < l.length := by omega
   have e1 : Int.fdiv ((i : Int) + j) (2 ^ (min 1 64 : Nat)) = (m : Int) := by show Int.fdiv ((i : Int) + j) 2 = m; rw [zTM _ (by omega)]; omega
   have hf := zwj (l[m]) id;have hp := zbM h (id := id) hml
   by_cases hc : l[m].msg.id < id
   · have i1 := ih (m + 1, j) ⟨by simp only; omega, h2, h3⟩ (by simp only; omega);have hc2 := (zp4 (l[m].msg.id) id).2 hc;clear ih hm;simp only [zQ2, zQZ, zQW, zQ5, zQ0, zQT, zQV, zQR, zQ1, zQY, zQS, zQX, zQU, zo, zC] at i1;simp -implicitDefEqProofs (disch := omega) only [za, go_sem, *]
   · have i2 := ih (i, m) ⟨h1, by simp only; omega, by simp only; omega⟩ (by simp only; omega);have hc2 : ¬ za1 (l[m].msg.id) id < 0 := fun h => hc ((zp4 _ _).1 h);clear ih hm;simp -implicitDefEqProofs (disch := omega) only [za, go_sem, *]
 · have : i = zE l id := by omega
   subst this;clear ih;simp -implicitDefEqProofs (disch := omega) only [za, go_sem, *]
theorem zeD {l : List Lease} (h : l.Pairwise fun x y => x.msg.id < y.msg.id) (id : Int) : (0 <= zB l id) ↔ ∃ hp : zE l id < l.length, l[zE l id].msg.id = id := by
 constructor
 · intro h0;obtain ⟨k, hk, e1, e2⟩ := zeE h0;have a1 := zbM h (id := id) hk;have hle : zE l id <= k := by omega
   have hpl : zE l id < l.length := by omega
   have a2 := zbM h (id := id) hpl;refine ⟨hpl, ?_⟩;have : ¬ zE l id < k := fun hlt => by
    have := zRV.1 h (zE l id) k hpl hk hlt;omega
   have : zE l id = k := by omega
   simp only [this, e2]
 · rintro ⟨hp, e⟩;have := zjk h hp;rw [e] at this; omega
theorem zjm {l : List Lease} (h : l.Pairwise fun x y => x.msg.id < y.msg.id) {id : Int} (h0 : 0 <= zB l id) : zB l id = zE l id := by
 obtain ⟨hp, e⟩ := (zeD h id).1 h0;have := zjk h hp
 rwa [e] at this
theorem zCQ (l : List Lease) (id : Int) (hL : l.length <= 1000) (h : l.Pairwise fun x y => x.msg.id < y.msg.id) : zd G ziN [.d (.sl (l.map zt)), .d (.int .i64 id), .d (.fn zei [])] [] = some (.d (.tup [.int .i64 (zE l id), .bool (decide (0 <= zB l id))]), []) := by
 have hl := zCP l id hL h (0, l.length) ⟨by simp, zko l id, zRd _⟩;simp only [bsS] at hl;simp only [zQ2, zQZ, zQW, zQ5, zQ0, zQT, zQV, zQR, zQ1, zQY, zQS, zQX, zQU, zo, zC] at hl;have hp := zeD h id
 by_cases hpl : zE l id < l.length
 · have hf := zwj l[zE l id] id
   by_cases he : l[zE l id].msg.id = id
   · have h0 : 0 <= zB l id := hp.2 ⟨hpl, he⟩;have e0 : za1 l[zE l id].msg.id id = 0 := (zp3 _ _).2 he;rw [e0] at hf;simp only [h0, decide_true];clear he e0;rw [ze znm (by simp)]; simp -implicitDefEqProofs (disch := omega) only [zlf, za, go_sem, *]
   · have h0 : ¬ 0 <= zB l id := fun h0 => he (hp.1 h0).2;have e0 : ¬ za1 l[zE l id].msg.id id = 0 := fun e => he ((zp3 _ _).1 e);simp only [h0, decide_false];rw [ze znm (by simp)]; simp -implicitDefEqProofs (disch := omega) only [zlf, za, go_sem, *]
 · have h0 : ¬ 0 <= zB l id := fun h0 => hpl (hp.1 h0).1;simp only [h0, decide_false];rw [ze znm (by simp)]; simp -implicitDefEqProofs (disch := omega) only [zlf, za, go_sem, *]
theorem znY (t : Table) (id : Int) (hL : t.l.length <= 1000) (h : t.l.Pairwise fun x y => x.msg.id < y.msg.id) : zd G zh1 [.d (zO t), .d (.int .i64 id)] [] = some (.d (.tup [.int .i64 (zE t.l id), .bool (decide (0 <= zB t.l id))]), []) := by
 have hb := zCQ t.l id hL h;simp only [zO];rw [ze zwV (by simp)]; simp -implicitDefEqProofs (disch := omega) only [zuV, za, go_sem, *]
theorem zls (l : List Lease) (h : l ≠ []) (hL : l.length <= 1000) : zd G zcz [.d (.sl (l.map zt))] [] = some (.osl 0 0 l.length, [(0, .row ((l.map zt).map .d))]) := by
 have := zsO zBf (by simpa using h) (zvV (l.map zt) (zkR l) (by simp; omega));rw [zQV] at this;exact this
theorem zp7 : zd G zcz [.d (.sl [])] [] = some (.xsl [], []) := zsP zBf (zvV [] rfl (by simp))
theorem zcU {t : Table} (h : zF t = 0) : t.l.length <= 12 /\ zbq t.l = 0 /\ zaH t.heap = 0 /\ zdd t = true := by
 unfold zF at h
 split at h
 · cases h
 split at h
 · omega
 split at h
 · omega
 split at h
 · rename_i h1 h2 h3 h4; exact ⟨by omega, by simpa using h2, by simpa using h3, h4⟩
 · cases h
def zaM (l : List Lease) (m : Message) (d : Int) : List Lease := l.take (zE l m.id) ++ [⟨m, d⟩] ++ l.drop (zE l m.id)
def za3 (t : Table) (m : Message) (d : Int) : Int :=
 if zF t ≠ 0 then zF t else if zD m ≠ 0 then zD m else if m.gen = 0 then 7 else if ¬ (0 <= d /\ d <= 1073741824) then 1 else if t.l.length = 12 then 3 else if 0 <= zB t.l m.id then 10 else (zcd t.heap (d, m.id)).2
def zQ (t : Table) (m : Message) (d : Int) : Table × Int := if za3 t m d = 0 then (⟨zaM t.l m d, (zcd t.heap (d, m.id)).1⟩, 0) else (zP, za3 t m d)
theorem zG4 (l : List Lease) (m : Message) (d : Int) : (zaM l m d).map zt = (l.map zt).take (zE l m.id) ++ [zt ⟨m, d⟩] ++ (l.map zt).drop (zE l m.id) := by
 simp only [zaM, zQY, zRY, zSO, zQS, zQR]
theorem zxF (t : Table) (m : Message) (d : Int) (hL : t.l.length <= 4294967296) (hH : t.heap.length <= 4294967296) : zd G zhY [.d (zO t), .d (zg m), .d (.int .i64 d)] [] = some (.d (.tup [zO (zQ t m d).1, .int .i64 (zQ t m d).2]), []) := by
 have hv := zka t hL hH;have hm := zhd m;have ht := zzR d;simp only [zO, zg] at hv hm ⊢;unfold zQ za3
 by_cases h1 : zF t = 0
 · obtain ⟨h12, hE, hD, hM⟩ := zcU h1;have ha := zbT hE;have hf := znY t m.id (by omega) ha;have hp := zMu t.heap (d, m.id) hH;have hpl := zko t.l m.id;simp only [zO, eD, eDE] at hf hp;simp only [h1, ne_eq, zRf, if_false]
   by_cases h2 : zD m = 0
   · simp only [h2, zRf, if_false]
     by_cases h3 : m.gen = 0
     · simp only [h3, if_true] at hm ⊢;rw [ze zdG (by simp)]; simp -implicitDefEqProofs (disch := omega) only [zdA, za, go_sem, *]; (try simp only [pA, pB, pC, pD, pE, pF, pG, pH, pI, pJ, pK, pL, pM, pN, pO, pP, if_true, if_false]); repeat' (first | done | rfl | ((first | refine zK (fun hq => ?_) (fun hq => ?_) | refine zM (fun hq => ?_) (fun hq => ?_)) <;> (try (first | (exfalso; omega) | contradiction)) <;> (try simp -implicitDefEqProofs (disch := omega) only [za, go_sem, *]) <;> (try simp only [pA, pB, pC, pD, pE, pF, pG, pH, pI, pJ, pK, pL, pM, pN, pO, pP, if_true, if_false]))); (all_goals try rfl); (all_goals try (repeat' (first | done | rfl | (exfalso; omega) | contradiction | (refine zN (fun hq => ?_) (fun hq => ?_)))))
     · simp only [h3, if_false]
       by_cases h4 : 0 <= d /\ d <= 1073741824
       · simp only [h4, zSd, zRf, if_false, decide_true] at ht ⊢
         by_cases h5 : t.l.length = 12
         · simp only [h5, if_true];rw [ze zdG (by simp)]; simp -implicitDefEqProofs (disch := omega) only [zdA, za, go_sem, *]; (try simp only [pA, pB, pC, pD, pE, pF, pG, pH, pI, pJ, pK, pL, pM, pN, pO, pP, if_true, if_false]); repeat' (first | done | rfl | ((first | refine zK (fun hq => ?_) (fun hq => ?_) | refine zM (fun hq => ?_) (fun hq => ?_)) <;> (try (first | (exfalso; omega) | contradiction)) <;> (try simp -implicitDefEqProofs (disch := omega) only [za, go_sem, *]) <;> (try simp only [pA, pB, pC, pD, pE, pF, pG, pH, pI, pJ, pK, pL, pM, pN, pO, pP, if_true, if_false]))); (all_goals try rfl); (all_goals try (repeat' (first | done | rfl | (exfalso; omega) | contradiction | (refine zN (fun hq => ?_) (fun hq => ?_)))))
         · simp only [h5, if_false]
           by_cases h6 : 0 <= zB t.l m.id
           · simp only [h6, if_true, decide_true] at hf ⊢;rw [ze zdG (by simp)]; simp -implicitDefEqProofs (disch := omega) only [zdA, za, go_sem, *]; (try simp only [pA, pB, pC, pD, pE, pF, pG, pH, pI, pJ, pK, pL, pM, pN, pO, pP, if_true, if_false]); repeat' (first | done | rfl | ((first | refine zK (fun hq => ?_) (fun hq => ?_) | refine zM (fun hq => ?_) (fun hq => ?_)) <;> (try (first | (exfalso; omega) | contradiction)) <;> (try simp -implicitDefEqProofs (disch := omega) only [za, go_sem, *]) <;> (try simp only [pA, pB, pC, pD, pE, pF, pG, pH, pI, pJ, pK, pL, pM, pN, pO, pP, if_true, if_false]))); (all_goals try rfl); (all_goals try (repeat' (first | done | rfl | (exfalso; omega) | contradiction | (refine zN (fun hq => ?_) (fun hq => ?_)))))
           · simp only [h6, if_false, decide_false] at hf ⊢
             by_cases h7 : (zcd t.heap (d, m.id)).2 = 0
             · simp only [h7, if_true];have hi := zG4 t.l m d;rw [h7] at hp;simp only [hi, zt]
               by_cases h8 : t.l = []
               · have hc := zp7;have hpz : zE t.l m.id = 0 := by rw [h8]; rfl
                 have hin : zd G ziV [.xsl [], .d (.int .i64 0), .d (.sl [.agg [.int .i64 m.id, .int .i64 m.route, .int .i64 m.epoch, .int .i64 m.count, .int .i64 m.gen, .int .i64 m.sent, .str m.body, .int .i64 d]])] [] = some (.d (.sl [.agg [.int .i64 m.id, .int .i64 m.route, .int .i64 m.epoch, .int .i64 m.count, .int .i64 m.gen, .int .i64 m.sent, .str m.body, .int .i64 d]]), []) := zHc zrA _ rfl;simp only [hpz, h8, zQR, zS3, List.drop_nil] at *;rw [ze zdG (by simp)]; simp -implicitDefEqProofs (disch := omega) only [zdA, za, go_sem, *]
               · have hc := zls t.l h8 (by omega);have hne : t.l.map zt ≠ [] := by simpa using h8
                 have hin := zHb zrA (t.l.map zt) (zt ⟨m, d⟩) (zE t.l m.id) hne (by simpa using hpl) (fun e he => by rcases zRs.1 he with rfl | he; rfl; obtain ⟨x, _, rfl⟩ := zQ3.1 he; rfl) (by simp; omega);rw [zQV] at hin;simp only [zt] at hin;rw [ze zdG (by simp)]; simp -implicitDefEqProofs (disch := omega) only [zdA, za, go_sem, *]
             · simp only [h7, if_false];rw [ze zdG (by simp)]; simp -implicitDefEqProofs (disch := omega) only [zdA, za, go_sem, *]; (try simp only [pA, pB, pC, pD, pE, pF, pG, pH, pI, pJ, pK, pL, pM, pN, pO, pP, if_true, if_false]); repeat' (first | done | rfl | ((first | refine zK (fun hq => ?_) (fun hq => ?_) | refine zM (fun hq => ?_) (fun hq => ?_)) <;> (try (first | (exfalso; omega) | contradiction)) <;> (try simp -implicitDefEqProofs (disch := omega) only [za, go_sem, *]) <;> (try simp only [pA, pB, pC, pD, pE, pF, pG, pH, pI, pJ, pK, pL, pM, pN, pO, pP, if_true, if_false]))); (all_goals try rfl); (all_goals try (repeat' (first | done | rfl | (exfalso; omega) | contradiction | (refine zN (fun hq => ?_) (fun hq => ?_)))))
       · simp only [h4, zRh, if_true, decide_false] at ht ⊢;rw [ze zdG (by simp)]; simp -implicitDefEqProofs (disch := omega) only [zdA, za, go_sem, *]; (try simp only [pA, pB, pC, pD, pE, pF, pG, pH, pI, pJ, pK, pL, pM, pN, pO, pP, if_true, if_false]); repeat' (first | done | rfl | ((first | refine zK (fun hq => ?_) (fun hq => ?_) | refine zM (fun hq => ?_) (fun hq => ?_)) <;> (try (first | (exfalso; omega) | contradiction)) <;> (try simp -implicitDefEqProofs (disch := omega) only [za, go_sem, *]) <;> (try simp only [pA, pB, pC, pD, pE, pF, pG, pH, pI, pJ, pK, pL, pM, pN, pO, pP, if_true, if_false]))); (all_goals try rfl); (all_goals try (repeat' (first | done | rfl | (exfalso; omega) | contradiction | (refine zN (fun hq => ?_) (fun hq => ?_)))))
   · simp only [h2, zRh, if_true, if_false];rw [ze zdG (by simp)]; simp -implicitDefEqProofs (disch := omega) only [zdA, za, go_sem, *]; (try simp only [pA, pB, pC, pD, pE, pF, pG, pH, pI, pJ, pK, pL, pM, pN, pO, pP, if_true, if_false]); repeat' (first | done | rfl | ((first | refine zK (fun hq => ?_) (fun hq => ?_) | refine zM (fun hq => ?_) (fun hq => ?_)) <;> (try (first | (exfalso; omega) | contradiction)) <;> (try simp -implicitDefEqProofs (disch := omega) only [za, go_sem, *]) <;> (try simp only [pA, pB, pC, pD, pE, pF, pG, pH, pI, pJ, pK, pL, pM, pN, pO, pP, if_true, if_false]))); (all_goals try rfl); (all_goals try (repeat' (first | done | rfl | (exfalso; omega) | contradiction | (refine zN (fun hq => ?_) (fun hq => ?_)))))
 · simp only [h1, ne_eq, zRh, if_true, if_false];rw [ze zdG (by simp)]; simp -implicitDefEqProofs (disch := omega) only [zdA, za, go_sem, *]; (try simp only [pA, pB, pC, pD, pE, pF, pG, pH, pI, pJ, pK, pL, pM, pN, pO, pP, if_true, if_false]); repeat' (first | done | rfl | ((first | refine zK (fun hq => ?_) (fun hq => ?_) | refine zM (fun hq => ?_) (fun hq => ?_)) <;> (try (first | (exfalso; omega) | contradiction)) <;> (try simp -implicitDefEqProofs (disch := omega) only [za, go_sem, *]) <;> (try simp only [pA, pB, pC, pD, pE, pF, pG, pH, pI, pJ, pK, pL, pM, pN, pO, pP, if_true, if_false]))); (all_goals try rfl); (all_goals try (repeat' (first | done | rfl | (exfalso; omega) | contradiction | (refine zN (fun hq => ?_) (fun hq => ?_)))))
def zcE (t : Table) (id : Int) : Lease × Bool := if zF t = 0 /\ 0 <= zB t.l id then (t.l.getD (zB t.l id).toNat zax, true) else (zax, false)
theorem find_ok (t : Table) (id : Int) (hL : t.l.length <= 4294967296) (hH : t.heap.length <= 4294967296) : zd G zhX [.d (zO t), .d (.int .i64 id)] [] = some (.d (.tup [zt (zcE t id).1, .bool (zcE t id).2]), []) := by
 have hv := zka t hL hH;unfold zcE
 by_cases h1 : zF t = 0
 · obtain ⟨h12, hE, hD, hM⟩ := zcU h1;have ha := zbT hE;have hf := znY t id (by omega) ha
   by_cases h6 : 0 <= zB t.l id
   · obtain ⟨hp, e⟩ := (zeD ha id).1 h6;have e2 := zjm ha h6;simp only [h1, h6, zSd, if_true, decide_true] at hf ⊢;rw [e2, zRo, za hp];simp only [zO, zt] at hv hf ⊢;rw [h1] at hv;clear e e2 h6;rw [ze zne (by simp)]; simp -implicitDefEqProofs (disch := omega) only [zkY, zt, za, go_sem, *]
   · simp only [h1, h6, zS4, if_false, decide_false] at hf ⊢;simp only [zO, zt, zax, zu] at hv hf ⊢;rw [h1] at hv;rw [ze zne (by simp)]; simp -implicitDefEqProofs (disch := omega) only [zkY, za, go_sem, *]
 · simp only [h1, zS5, if_false];simp only [zO, zt, zax, zu] at hv ⊢;rw [ze zne (by simp)]; simp -implicitDefEqProofs (disch := omega) only [zkY, za, go_sem, *]
def za8 (l : List Lease) (i : Nat) : List Lease := l.take i ++ l.drop (i + 1)
theorem zP5 (l : List Lease) (i : Nat) (hi : i < l.length) (hL : l.length <= 1000) : zd G zh3 [.d (.sl (l.map zt)), .d (.int .i64 i)] [] = some (.d (.sl ((za8 l i).map zt)), []) := by
 have hne : l ≠ [] := by rintro rfl; simp at hi
 have hc := zls l hne hL;have hd := zDJ zxz (l.map zt) i (i + 1) (by omega) (by simp; omega) (fun e he => by obtain ⟨x, _, rfl⟩ := zQ3.1 he; rfl) (by simp; omega);rw [zQV] at hd;simp only [zQ2, zQZ] at hd;simp only [za8, zQY, zRY, zSO];rw [ze zwX (by simp)]; simp -implicitDefEqProofs (disch := omega) only [zuX, za, go_sem, *]
def zbs (t : Table) (id : Int) : Int := if zF t ≠ 0 then zF t else if ¬ 0 <= zB t.l id then 4 else (za9 t.heap id).2
def zaq (t : Table) (id : Int) : Table × Message × Int := if zbs t id = 0 then (⟨za8 t.l (zB t.l id).toNat, (za9 t.heap id).1⟩, (t.l.getD (zB t.l id).toNat zax).msg, 0) else (zP, zu, zbs t id)
theorem zNn (t : Table) (id : Int) (hL : t.l.length <= 4294967296) (hH : t.heap.length <= 4294967296) : zd G zh0 [.d (zO t), .d (.int .i64 id)] [] = some (.d (.tup [zO (zaq t id).1, zg (zaq t id).2.1, .int .i64 (zaq t id).2.2]), []) := by
 have hv := zka t hL hH;have hr := zNp t.heap id hH;unfold zaq zbs;simp only [eDE] at hr
 by_cases h1 : zF t = 0
 · obtain ⟨h12, hE, hD, hM⟩ := zcU h1;have ha := zbT hE;have hf := znY t id (by omega) ha;simp only [h1, ne_eq, zRf, if_false]
   by_cases h6 : 0 <= zB t.l id
   · obtain ⟨hp, e⟩ := (zeD ha id).1 h6;have e2 := zjm ha h6;have hw := zP5 t.l (zE t.l id) hp (by omega);simp only [h6, zRf, if_false, decide_true] at hf ⊢
     by_cases h7 : (za9 t.heap id).2 = 0
     · simp only [h7, if_true];rw [e2, zRo, za hp];simp only [zO, zg] at hv hf ⊢;rw [h1] at hv;rw [h7] at hr;clear e e2 h6;rw [ze zjF (by simp)]; simp -implicitDefEqProofs (disch := omega) only [zi4, zt, za, go_sem, *]
     · simp only [h7, if_false];simp only [zO, zg, zP, zu] at hv hf ⊢;rw [h1] at hv;rw [ze zjF (by simp)]; simp -implicitDefEqProofs (disch := omega) only [zi4, za, go_sem, *]
   · simp only [h6, zRh, if_true, decide_false] at hf ⊢;simp only [zO, zg, zP, zu] at hv hf ⊢;rw [h1] at hv;rw [ze zjF (by simp)]; simp -implicitDefEqProofs (disch := omega) only [zi4, za, go_sem, *]
 · simp only [h1, ne_eq, zRh, if_true, if_false];simp only [zO, zg, zP, zu] at hv ⊢;rw [ze zjF (by simp)]; simp -implicitDefEqProofs (disch := omega) only [zi4, za, go_sem, *]
def ztB (l : List Lease) (i : Nat) (d : Int) : List Lease := l.set i { l.getD i zax with deadline := d }
end Go.Proofs.YtfggldgdejjlnaaGreat.L
