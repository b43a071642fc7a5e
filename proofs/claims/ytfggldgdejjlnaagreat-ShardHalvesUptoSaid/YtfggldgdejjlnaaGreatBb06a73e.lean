/-
  Shards.
-/
import Derived.Test.YtfggldgdejjlnaaGreatBf76a865
import Derived.Test.YtfggldgdejjlnaaGreatB1125f8e
import Derived.Test.YtfggldgdejjlnaaGreatB0562a1b
set_option linter.unusedSimpArgs false
set_option linter.unusedVariables false
set_option maxHeartbeats 10000000
set_option maxRecDepth 100000
namespace Go.Proofs.YtfggldgdejjlnaaGreat.L
open Go Go.Sim Go.Proofs.YtfggldgdejjlnaaGreat
theorem zOS (k : Nat) (lo hi : Int) (h1 : 1 <= k) (h2 : k <= 12) (h3 : 0 <= lo /\ lo <= hi /\ hi < 65536) : zd G zdn [.d (.int .i64 k), .d (.int .i64 lo), .d (.int .i64 hi)] [] = some (.d (.tup [zj (emS k lo hi), .int .i64 0]), []) := by
 have hr := zA9 k h1 h2;have hs := zt0.trans (ztG lo hi);rw [zRA h3] at hs;have e : emS k lo hi = ⟨true, lo, hi, ⟨List.replicate k zu, 0, 0⟩, zP⟩ := rfl;rw [e];clear e h3;simp only [zj, zA, zP, zQR] at *;generalize (List.replicate k zu).map zg = c at *;rw [ze zrl (by simp)]; simp -implicitDefEqProofs (disch := omega) only [zpI, za, go_sem, *]; (try simp only [pA, pB, pC, pD, pE, pF, pG, pH, pI, pJ, pK, pL, pM, pN, pO, pP, if_true, if_false]); repeat' (first | done | rfl | ((first | refine zK (fun hq => ?_) (fun hq => ?_) | refine zM (fun hq => ?_) (fun hq => ?_)) <;> (try (first | (exfalso; omega) | contradiction)) <;> (try simp -implicitDefEqProofs (disch := omega) only [za, go_sem, *]) <;> (try simp only [pA, pB, pC, pD, pE, pF, pG, pH, pI, pJ, pK, pL, pM, pN, pO, pP, if_true, if_false]))); (all_goals try rfl); (all_goals try (repeat' (first | done | rfl | (exfalso; omega) | contradiction | (refine zN (fun hq => ?_) (fun hq => ?_)))))
def flS (l : List Message) (y : List Lease) (t : Shard × Nat) : St := ⟨[(2, .d (.sl (y.map zt))), (3, .ref 3 0 0), (6, .ref 6 0 0), (15, .d (.sl (l.map zg))), (16, .d (.int .i64 l.length)), (17, .d (.int .i64 t.2))], [(3, .row [.d (zj t.1)]), (6, .row [shZ])]⟩
def flR (y : List Lease) (s : Shard) (x : z9 × Int) : zJ × St := if x.2 = 0 then (.exit 0, ⟨[(2, .d (.sl (y.map zt))), (3, .ref 3 0 0), (6, .ref 6 0 0)], [(3, .row [.d (zj { s with ready := x.1 })]), (6, .row [shZ])]⟩) else (.ret, ⟨[(6, .ref 6 0 0), (7, .d (.int .i64 x.2))], [(6, .row [shZ])]⟩)
theorem zFB (l : List Message) (y : List Lease) (hl : l.length <= 24) : ∀ t : Shard × Nat, t.2 <= l.length /\ shC t.1 -> zT G [] zj2 (flS l y t) = some (flR y t.1 (pbF (l.drop t.2) t.1.ready)) := by
 refine zap (fun t => l.length - t.2) (fun t : Shard × Nat => t.2 <= l.length /\ shC t.1) (flS l y) (fun t => some (flR y t.1 (pbF (l.drop t.2) t.1.ready))) fun ⟨s, i⟩ ⟨hi, hs⟩ L ih => ?_;simp only at hi hs
 by_cases h0 : i < l.length
 · simp only;rw [zRH h0, pbF];have hp := ztz s.ready l[i] (by have := hs.2.1; omega)
   by_cases c2 : (pbD s.ready l[i]).2 = 0
   · have hpc := zti c2;rw [zQN (fun q => q c2)];have i1 := ih ⟨{ s with ready := (pbD s.ready l[i]).1 }, i + 1⟩ ⟨by simp only; omega, ⟨by simp only; rw [hpc]; exact hs.1, by simp only; rw [hpc]; exact hs.2.1, hs.2.2⟩⟩ (by simp only; omega);clear ih hpc;simp only at i1;have e : ∀ x : z9 × Int, flR y { s with ready := (pbD s.ready l[i]).1 } x = flR y s x := fun x => rfl;rw [e] at i1;clear e;generalize flR y s (pbF (l.drop (i + 1)) (pbD s.ready l[i]).1) = R at *;generalize pbD s.ready l[i] = p at *;obtain ⟨r2, e2⟩ := p;simp only at c2;subst c2;simp only [flS, shZ, zj2] at *;simp only [zj, zA] at *;simp only [zQ2, zQZ, zQW, zQ5, zQ0, zQT, zQV, zQR, zQ1, zQY, zQS, zQX, zQU, zo, zC] at i1
     (try simp -implicitDefEqProofs (disch := omega) only [za, go_sem, *]); (try simp only [pA, pB, pC, pD, pE, pF, pG, pH, pI, pJ, pK, pL, pM, pN, pO, pP, if_true, if_false]); repeat' (first | done | rfl | ((first | refine zK (fun hq => ?_) (fun hq => ?_) | refine zM (fun hq => ?_) (fun hq => ?_)) <;> (try (first | (exfalso; omega) | contradiction)) <;> (try simp -implicitDefEqProofs (disch := omega) only [za, go_sem, *]) <;> (try simp only [pA, pB, pC, pD, pE, pF, pG, pH, pI, pJ, pK, pL, pM, pN, pO, pP, if_true, if_false]))); (all_goals try rfl); (all_goals try (repeat' (first | done | rfl | (exfalso; omega) | contradiction | (refine zN (fun hq => ?_) (fun hq => ?_)))))
   · rw [zQO c2];clear ih;generalize pbD s.ready l[i] = p at *;obtain ⟨r2, e2⟩ := p;simp only at c2;unfold flR;rw [zQN c2];simp only [flS, shZ, zj2] at *;simp only [zj, zA, zam, zQR] at *
     (try simp -implicitDefEqProofs (disch := omega) only [za, go_sem, *]); (try simp only [pA, pB, pC, pD, pE, pF, pG, pH, pI, pJ, pK, pL, pM, pN, pO, pP, if_true, if_false]); repeat' (first | done | rfl | ((first | refine zK (fun hq => ?_) (fun hq => ?_) | refine zM (fun hq => ?_) (fun hq => ?_)) <;> (try (first | (exfalso; omega) | contradiction)) <;> (try simp -implicitDefEqProofs (disch := omega) only [za, go_sem, *]) <;> (try simp only [pA, pB, pC, pD, pE, pF, pG, pH, pI, pJ, pK, pL, pM, pN, pO, pP, if_true, if_false]))); (all_goals try rfl); (all_goals try (repeat' (first | done | rfl | (exfalso; omega) | contradiction | (refine zN (fun hq => ?_) (fun hq => ?_)))))
 · clear ih;obtain rfl : i = l.length := by omega
   simp only [zRZ, pbF, flR, if_true];simp only [flS, shZ, zj, zj2]
   (try simp -implicitDefEqProofs (disch := omega) only [za, go_sem, *]); (try simp only [pA, pB, pC, pD, pE, pF, pG, pH, pI, pJ, pK, pL, pM, pN, pO, pP, if_true, if_false]); repeat' (first | done | rfl | ((first | refine zK (fun hq => ?_) (fun hq => ?_) | refine zM (fun hq => ?_) (fun hq => ?_)) <;> (try (first | (exfalso; omega) | contradiction)) <;> (try simp -implicitDefEqProofs (disch := omega) only [za, go_sem, *]) <;> (try simp only [pA, pB, pC, pD, pE, pF, pG, pH, pI, pJ, pK, pL, pM, pN, pO, pP, if_true, if_false]))); (all_goals try rfl); (all_goals try (repeat' (first | done | rfl | (exfalso; omega) | contradiction | (refine zN (fun hq => ?_) (fun hq => ?_)))))
def zgO (y : List Lease) (t : Shard × Nat) : St := ⟨[(3, .ref 3 0 0), (6, .ref 6 0 0), (34, .d (.sl (y.map zt))), (35, .d (.int .i64 y.length)), (36, .d (.int .i64 t.2))], [(3, .row [.d (zj t.1)]), (6, .row [shZ])]⟩
def zd4 (s : Shard) (x : Table × Int) : zJ × St := if x.2 = 0 then (.exit 2, ⟨[(3, .ref 3 0 0), (6, .ref 6 0 0)], [(3, .row [.d (zj { s with leases := x.1 })]), (6, .row [shZ])]⟩) else (.ret, ⟨[(6, .ref 6 0 0), (7, .d (.int .i64 x.2))], [(6, .row [shZ])]⟩)
theorem zGs {t : Table} {m : Message} {d : Int} (h : (zQ t m d).2 = 0) : (zQ t m d).1.l.length <= 12 /\ (zQ t m d).1.heap.length <= 12 := by
 exact zeY (zgY h).1
theorem zFC (y : List Lease) (hl : y.length <= 24) : ∀ t : Shard × Nat, t.2 <= y.length /\ shC t.1 -> zT G [] zj3 (zgO y t) = some (zd4 t.1 (grF (y.drop t.2) t.1.leases)) := by
 refine zap (fun t => y.length - t.2) (fun t : Shard × Nat => t.2 <= y.length /\ shC t.1) (zgO y) (fun t => some (zd4 t.1 (grF (y.drop t.2) t.1.leases))) fun ⟨s, i⟩ ⟨hi, hs⟩ L ih => ?_;simp only at hi hs
 by_cases h0 : i < y.length
 · simp only;rw [zRH h0, grF];have hp := zxF s.leases y[i].msg y[i].deadline (by have := hs.2.2.1; omega) (by have := hs.2.2.2; omega)
   by_cases c2 : (zQ s.leases y[i].msg y[i].deadline).2 = 0
   · have hpc := zGs c2;rw [zQN (fun q => q c2)];have i1 := ih ⟨{ s with leases := (zQ s.leases y[i].msg y[i].deadline).1 }, i + 1⟩ ⟨by simp only; omega, ⟨hs.1, hs.2.1, hpc.1, hpc.2⟩⟩ (by simp only; omega);clear ih hpc;simp only at i1;have e : ∀ x : Table × Int, zd4 { s with leases := (zQ s.leases y[i].msg y[i].deadline).1 } x = zd4 s x := fun x => rfl;rw [e] at i1;clear e;generalize zd4 s (grF (y.drop (i + 1)) (zQ s.leases y[i].msg y[i].deadline).1) = R at *;generalize zQ s.leases y[i].msg y[i].deadline = p at *;obtain ⟨r2, e2⟩ := p;simp only at c2;subst c2;simp only [zgO, shZ, zj3] at *;simp only [zj, zg, zO, zt] at *;simp only [zQ2, zQZ, zQW, zQ5, zQ0, zQT, zQV, zQR, zQ1, zQY, zQS, zQX, zQU, zo, zC] at i1
     (try simp -implicitDefEqProofs (disch := omega) only [za, go_sem, *]); (try simp only [pA, pB, pC, pD, pE, pF, pG, pH, pI, pJ, pK, pL, pM, pN, pO, pP, if_true, if_false]); repeat' (first | done | rfl | ((first | refine zK (fun hq => ?_) (fun hq => ?_) | refine zM (fun hq => ?_) (fun hq => ?_)) <;> (try (first | (exfalso; omega) | contradiction)) <;> (try simp -implicitDefEqProofs (disch := omega) only [za, go_sem, *]) <;> (try simp only [pA, pB, pC, pD, pE, pF, pG, pH, pI, pJ, pK, pL, pM, pN, pO, pP, if_true, if_false]))); (all_goals try rfl); (all_goals try (repeat' (first | done | rfl | (exfalso; omega) | contradiction | (refine zN (fun hq => ?_) (fun hq => ?_)))))
   · rw [zQO c2];clear ih;generalize zQ s.leases y[i].msg y[i].deadline = p at *;obtain ⟨r2, e2⟩ := p;simp only at c2;unfold zd4;rw [zQN c2];simp only [zgO, shZ, zj3] at *;simp only [zj, zg, zO, zt, zam, zQR] at *
     (try simp -implicitDefEqProofs (disch := omega) only [za, go_sem, *]); (try simp only [pA, pB, pC, pD, pE, pF, pG, pH, pI, pJ, pK, pL, pM, pN, pO, pP, if_true, if_false]); repeat' (first | done | rfl | ((first | refine zK (fun hq => ?_) (fun hq => ?_) | refine zM (fun hq => ?_) (fun hq => ?_)) <;> (try (first | (exfalso; omega) | contradiction)) <;> (try simp -implicitDefEqProofs (disch := omega) only [za, go_sem, *]) <;> (try simp only [pA, pB, pC, pD, pE, pF, pG, pH, pI, pJ, pK, pL, pM, pN, pO, pP, if_true, if_false]))); (all_goals try rfl); (all_goals try (repeat' (first | done | rfl | (exfalso; omega) | contradiction | (refine zN (fun hq => ?_) (fun hq => ?_)))))
 · clear ih;obtain rfl : i = y.length := by omega
   simp only [zRZ, grF, zd4, if_true];simp only [zgO, shZ, zj, zj3]
   (try simp -implicitDefEqProofs (disch := omega) only [za, go_sem, *]); (try simp only [pA, pB, pC, pD, pE, pF, pG, pH, pI, pJ, pK, pL, pM, pN, pO, pP, if_true, if_false]); repeat' (first | done | rfl | ((first | refine zK (fun hq => ?_) (fun hq => ?_) | refine zM (fun hq => ?_) (fun hq => ?_)) <;> (try (first | (exfalso; omega) | contradiction)) <;> (try simp -implicitDefEqProofs (disch := omega) only [za, go_sem, *]) <;> (try simp only [pA, pB, pC, pD, pE, pF, pG, pH, pI, pJ, pK, pL, pM, pN, pO, pP, if_true, if_false]))); (all_goals try rfl); (all_goals try (repeat' (first | done | rfl | (exfalso; omega) | contradiction | (refine zN (fun hq => ?_) (fun hq => ?_)))))
theorem zMi : ∀ (l : List Message) (r : z9), (pbF l r).2 = 0 -> (pbF l r).1.cells.length = r.cells.length := by
 intro l
 induction l with
 | nil => intro r _; rfl
 | cons m l ih =>
  intro r h;rw [pbF] at h ⊢
  split at h
  · rename_i c; exact absurd h c
  · rename_i c;rw [zQN c, ih _ h];exact zti (zRm.1 c)
theorem zlF (s : Shard) (l : List Message) (y : List Lease) (hs : shC s) (hl : l.length <= 24) (hy : y.length <= 24) : zd G zel [.d (zj s), .d (.sl (l.map zg)), .d (.sl (y.map zt))] [] = some (.d (.tup [zj (zd1 s l y).1, .int .i64 (zd1 s l y).2]), []) := by
 have ho := zhx s hs.1 hs.2.1 hs.2.2.1 hs.2.2.2;have h1 := zFB l y hl ⟨s, 0⟩ ⟨zSa _, hs⟩;simp only [zRB, flS, shZ, zQW] at h1;unfold zd1
 by_cases c1 : (pbF l s.ready).2 = 0
 · rw [zQN (fun q => q c1)];have hc := zMi l s.ready c1;have h2 := zFC y hy ⟨{ s with ready := (pbF l s.ready).1 }, 0⟩ ⟨zSa _, by have := hs.1; simp only; omega, by have := hs.2.1; simp only; omega, hs.2.2⟩;simp only [zRB, zgO, shZ, zQW] at h2;clear hc hs;rw [flR, zQO c1] at h1
   by_cases c2 : (grF y s.leases).2 = 0
   · rw [zQN (fun q => q c2)];rw [zd4, zQO c2] at h2;clear c1 c2;generalize pbF l s.ready = p at *;generalize grF y s.leases = q at *;simp only [shZ, zj] at *;rw [ze znl (by simp)]; simp -implicitDefEqProofs (disch := omega) only [zlb, za, go_sem, *]; (try simp only [pA, pB, pC, pD, pE, pF, pG, pH, pI, pJ, pK, pL, pM, pN, pO, pP, if_true, if_false]); repeat' (first | done | rfl | ((first | refine zK (fun hq => ?_) (fun hq => ?_) | refine zM (fun hq => ?_) (fun hq => ?_)) <;> (try (first | (exfalso; omega) | contradiction)) <;> (try simp -implicitDefEqProofs (disch := omega) only [za, go_sem, *]) <;> (try simp only [pA, pB, pC, pD, pE, pF, pG, pH, pI, pJ, pK, pL, pM, pN, pO, pP, if_true, if_false]))); (all_goals try rfl); (all_goals try (repeat' (first | done | rfl | (exfalso; omega) | contradiction | (refine zN (fun hq => ?_) (fun hq => ?_)))))
   · rw [zQO c2];rw [zd4, zQN c2] at h2;clear c1;generalize pbF l s.ready = p at *;generalize grF y s.leases = q at *;replace c2 := zSx c2;simp only [shZ, zj, zam, zQR] at *;rw [ze znl (by simp)]; simp -implicitDefEqProofs (disch := omega) only [zlb, za, go_sem, *]; (try simp only [pA, pB, pC, pD, pE, pF, pG, pH, pI, pJ, pK, pL, pM, pN, pO, pP, if_true, if_false]); repeat' (first | done | rfl | ((first | refine zK (fun hq => ?_) (fun hq => ?_) | refine zM (fun hq => ?_) (fun hq => ?_)) <;> (try (first | (exfalso; omega) | contradiction)) <;> (try simp -implicitDefEqProofs (disch := omega) only [za, go_sem, *]) <;> (try simp only [pA, pB, pC, pD, pE, pF, pG, pH, pI, pJ, pK, pL, pM, pN, pO, pP, if_true, if_false]))); (all_goals try rfl); (all_goals try (repeat' (first | done | rfl | (exfalso; omega) | contradiction | (refine zN (fun hq => ?_) (fun hq => ?_)))))
 · rw [zQO c1];rw [flR, zQN c1] at h1;clear hs;generalize pbF l s.ready = p at *;replace c1 := zSx c1;simp only [shZ, zj, zam, zQR] at *;rw [ze znl (by simp)]; simp -implicitDefEqProofs (disch := omega) only [zlb, za, go_sem, *]; (try simp only [pA, pB, pC, pD, pE, pF, pG, pH, pI, pJ, pK, pL, pM, pN, pO, pP, if_true, if_false]); repeat' (first | done | rfl | ((first | refine zK (fun hq => ?_) (fun hq => ?_) | refine zM (fun hq => ?_) (fun hq => ?_)) <;> (try (first | (exfalso; omega) | contradiction)) <;> (try simp -implicitDefEqProofs (disch := omega) only [za, go_sem, *]) <;> (try simp only [pA, pB, pC, pD, pE, pF, pG, pH, pI, pJ, pK, pL, pM, pN, pO, pP, if_true, if_false]))); (all_goals try rfl); (all_goals try (repeat' (first | done | rfl | (exfalso; omega) | contradiction | (refine zN (fun hq => ?_) (fun hq => ?_)))))
end Go.Proofs.YtfggldgdejjlnaaGreat.L

namespace Go.Proofs.YtfggldgdejjlnaaGreat
open Go Go.Sim
def zBh : List Nat := [zcx]
def zv9 : List Nat := [zdn, zel, zdr, zdo, zdu, zdt, zds, zdp, zem, zdq, zcW, zcX, zcv, zcj, zci, zcY, zcw, zcZ, zdm, zcz]
namespace L2
noncomputable def G : FuncId -> Option AFn := zdb Go.Proofs.YtfggldgdejjlnaaGreat.L.G zBh zv9
theorem zgP : G zf2 = some zjn := tk
theorem zgU : G zdV = some zjo := tk
theorem zgV : G zgc = some zjr := tk
theorem zrs : G zcy = some zjs := tk
theorem zrt : G zen = some zjt := tk
theorem zjP : G zfg = some zjx := tk
theorem zgW : G zfh = some zjz := tk
theorem zru : G zeo = some zju := tk
theorem zjO : G zff = some zjw := tk
theorem znp : G zgg = some zjy := tk
theorem znn : G zfe = some zjv := tk
theorem znk : G ze9 = some zjp := tk
theorem zrn : G zfa = some zjq := tk
variable {args : List Go.Sim.AV} {os : zb}
theorem zBR : zd G zdn args os = zd Go.Proofs.YtfggldgdejjlnaaGreat.L.G zdn args os := z7 (by kernel_rfl)
theorem ztZ : zd G zel args os = zd Go.Proofs.YtfggldgdejjlnaaGreat.L.G zel args os := z7 (by kernel_rfl)
theorem up_shard_live : zd G zdr args os = zd Go.Proofs.YtfggldgdejjlnaaGreat.L.G zdr args os := z7 (by kernel_rfl)
theorem up_shard_Validate : zd G zdo args os = zd Go.Proofs.YtfggldgdejjlnaaGreat.L.G zdo args os := z7 (by kernel_rfl)
theorem up_shard_stored : zd G zdu args os = zd Go.Proofs.YtfggldgdejjlnaaGreat.L.G zdu args os := z7 (by kernel_rfl)
theorem up_shard_room : zd G zdt args os = zd Go.Proofs.YtfggldgdejjlnaaGreat.L.G zdt args os := z7 (by kernel_rfl)
theorem up_shard_messages : zd G zds args os = zd Go.Proofs.YtfggldgdejjlnaaGreat.L.G zds args os := z7 (by kernel_rfl)
theorem up_shard_has : zd G zdp args os = zd Go.Proofs.YtfggldgdejjlnaaGreat.L.G zdp args os := z7 (by kernel_rfl)
theorem zBS : zd G zem args os = zd Go.Proofs.YtfggldgdejjlnaaGreat.L.G zem args os := z7 (by kernel_rfl)
theorem up_shard_in : zd G zdq args os = zd Go.Proofs.YtfggldgdejjlnaaGreat.L.G zdq args os := z7 (by kernel_rfl)
theorem up_base_New : zd G zcW args os = zd Go.Proofs.YtfggldgdejjlnaaGreat.L.G zcW args os := z7 (by kernel_rfl)
theorem up_base_Src_Shard : zd G zcX args os = zd Go.Proofs.YtfggldgdejjlnaaGreat.L.G zcX args os := z7 (by kernel_rfl)
theorem up_base_Src_Pick : zd G zcv args os = zd Go.Proofs.YtfggldgdejjlnaaGreat.L.G zcv args os := z7 (by kernel_rfl)
theorem up_ref07_All : zd G zcj args os = zd Go.Proofs.YtfggldgdejjlnaaGreat.L.G zcj args os := z7 (by kernel_rfl)
theorem up_ref03_Index : zd G zci args os = zd Go.Proofs.YtfggldgdejjlnaaGreat.L.G zci args os := z7 (by kernel_rfl)
theorem up_ref05_SameInts : zd G zcY args os = zd Go.Proofs.YtfggldgdejjlnaaGreat.L.G zcY args os := z7 (by kernel_rfl)
theorem up_law07_ids : zd G zcw args os = zd Go.Proofs.YtfggldgdejjlnaaGreat.L.G zcw args os := z7 (by kernel_rfl)
theorem zoO : zd G zcZ args os = zd Go.Proofs.YtfggldgdejjlnaaGreat.L.G zcZ args os := z7 (by kernel_rfl)
theorem zBK : zd G zdm args os = zd Go.Proofs.YtfggldgdejjlnaaGreat.L.G zdm args os := z7 (by kernel_rfl)
theorem zt1 : zd G zcz args os = zd Go.Proofs.YtfggldgdejjlnaaGreat.L.G zcz args os := z7 (by kernel_rfl)
theorem zBe : G zcx = some (.ext (zdO (zd Go.Proofs.YtfggldgdejjlnaaGreat.L.G) zcx)) := by kernel_rfl
attribute [go_sem] zBR ztZ up_shard_live up_shard_Validate up_shard_stored up_shard_room up_shard_messages up_shard_has zBS up_shard_in up_base_New up_base_Src_Shard up_base_Src_Pick up_ref07_All up_ref03_Index up_ref05_SameInts up_law07_ids zoO zBK zt1
end L2
end Go.Proofs.YtfggldgdejjlnaaGreat

namespace Go.Proofs.YtfggldgdejjlnaaGreat.L2
open Go Go.Sim Go.Proofs.YtfggldgdejjlnaaGreat Go.Proofs.YtfggldgdejjlnaaGreat.L
theorem zg0 (l : List Message) (g : Nat) (cs : List D) (p : Message -> Bool) (hL : l.length <= 4294967296) (hp : ∀ a ∈ l, zd G g (.d (zg a) :: cs.map .d) [] = some (.d (.bool (p a)), [])) : zd G zfh [.d (.sl (l.map zg)), .d (.fn g cs)] [] = some (.d (.int .i64 (zU p l)), []) := by
 have := zdJ (G := G) (x := zj7) (ks := []) l.length (atB l p) (fun k => ⟨[(0, .d (.sl (l.map zg))), (1, .d (.fn g cs)), (7, .d (.int .i64 l.length)), (8, .d (.int .i64 k))], []⟩) (fun k => (.ret, ⟨[(4, .d (.int .i64 k))], []⟩)) (.exit 0, ⟨[], []⟩) (fun k hk L => by
  simp only [zj7]
  by_cases h0 : k < l.length
  · have h1 := hp l[k] (zRe h0);simp only [zg] at h1;simp only [zb3 h0]
    cases h2 : p l[k]
    · rw [h2] at h1;simp -implicitDefEqProofs (disch := omega) only [go_sem, h1, zg]
    · rw [h2] at h1;simp -implicitDefEqProofs (disch := omega) only [go_sem, h1, zg]
  · simp -implicitDefEqProofs (disch := omega) only [go_sem, zQU])
 rw [zeF] at this;simp only [zQ2, zQZ, zQW, zQ5, zQ0, zQT, zQV, zQR, zQ1, zQY, zQS, zQX, zQU, zo, zC] at this;unfold zU
 cases h : l.findIdx? p with
 | none => rw [h] at this; rw [ze zgW (by simp)]; simp -implicitDefEqProofs (disch := omega) only [zja, go_sem, this]
 | some i => rw [h] at this; rw [ze zgW (by simp)]; simp -implicitDefEqProofs (disch := omega) only [zja, go_sem, this]
structure zkK where
 i : Nat
 j : Nat
 R : List Message
def zgH (g : Nat) (cs : List D) (n : Nat) (s : zkK) : St := ⟨[(0, .osl 1000000 0 n), (1, .d (.fn g cs)), (5, .d (.int .i64 s.i)), (6, .d (.int .i64 s.j)), (1000000, .ref 1000000 1 0)], [(1000000, .row ((s.R.map zg).map .d))]⟩
def zv4 (u : List Message) (p : Message -> Bool) (s : zkK) : Prop := s.i <= s.j /\ s.j <= u.length /\ s.R.length = u.length /\ s.R.take s.i = (u.take s.j).filter (fun a => !p a) /\ s.R.drop s.j = u.drop s.j
def zv7 (u : List Message) (p : Message -> Bool) (r : Option (zJ × St)) : Prop := ∃ R : List Message, ∃ i : Nat, R.length = u.length /\ i <= u.length /\ R.take i = u.filter (fun a => !p a) /\ r = some (.exit 0, ⟨[(0, .osl 1000000 0 u.length), (5, .d (.int .i64 i)), (1000000, .ref 1000000 1 0)], [(1000000, .row ((R.map zg).map .d))]⟩)
theorem zDU (g : Nat) (cs : List D) (u : List Message) (p : Message -> Bool) (hL : u.length <= 1000) (hp : ∀ a ∈ u, zd G g (.d (zg a) :: cs.map .d) [] = some (.d (.bool (p a)), [])) : ∀ s : zkK, zv4 u p s -> zv7 u p (zT G [] zj5 (zgH g cs u.length s)) := by
 refine zfG (fun s : zkK => u.length - s.j) (zv4 u p) (zgH g cs u.length) (fun _ => zc0 (zv7 u p)) fun ⟨i, j, R⟩ hinv L ih => ?_;obtain ⟨h1, h2, h3, h4, h5⟩ := hinv;simp only at h1 h2 h3 h4 h5
 by_cases h0 : j < u.length
 · have hRj : R[j]'(by omega) = u[j] := by
    have := congrArg (fun l => l[0]?) h5;simp only [zRz, zSr] at this;rw [zQ4 (show j < R.length by omega), zQ4 h0] at this;exact Option.some.inj this
   have hc := hp u[j] (zRe h0);have hg : ((R.map zg).map AV.d)[j]? = some (.d (zg u[j])) := by simp [zQ4 (show j < R.length by omega), hRj]
   have htk : u.take (j + 1) = u.take j ++ [u[j]] := by rw [zSb, zQ4 h0]; rfl
   by_cases hpj : p u[j] = true
   · have i1 := ih ⟨i, j + 1, R⟩ ⟨by simp only; omega, by simp only; omega, h3, by
      simp only;rw [htk, zSh, h4];simp [hpj], by
      simp only;have := congrArg (List.drop 1) h5;simpa [zSL, zSs] using this⟩ (by simp only; omega)
     rw [hpj] at hc;clear ih hp;simp only [zgH, zj5] at i1 ⊢;simp only [zQ2, zQZ, zQW, zQ5, zQ0, zQT, zQV, zQR, zQ1, zQY, zQS, zQX, zQU, zo, zC] at i1;generalize hu : u[j] = uj at *;have sz_uj := zqg uj; have it_uj := zwh uj; have ag_uj := zwg uj; generalize zg uj = D_uj at *
     (try simp -implicitDefEqProofs (disch := omega) only [za, go_sem, *]); (try simp only [pA, pB, pC, pD, pE, pF, pG, pH, pI, pJ, pK, pL, pM, pN, pO, pP, if_true, if_false]); repeat' (first | done | rfl | ((first | refine zK (fun hq => ?_) (fun hq => ?_) | refine zM (fun hq => ?_) (fun hq => ?_)) <;> (try (first | (exfalso; omega) | contradiction)) <;> (try simp -implicitDefEqProofs (disch := omega) only [za, go_sem, *]) <;> (try simp only [pA, pB, pC, pD, pE, pF, pG, pH, pI, pJ, pK, pL, pM, pN, pO, pP, if_true, if_false]))); (all_goals try rfl); (all_goals try (repeat' (first | done | rfl | (exfalso; omega) | contradiction | (refine zN (fun hq => ?_) (fun hq => ?_)))))
   · have hpj : p u[j] = false := by simpa using hpj
     have i1 := ih ⟨i + 1, j + 1, R.set i u[j]⟩ ⟨by simp only; omega, by simp only; omega, by simpa using h3, by
      simp only;rw [htk, zSh, <- h4, zSb, zTh (by omega), zTB (by omega)];simp [hpj], by
      simp only;rw [zTC (by omega)];have := congrArg (List.drop 1) h5;simpa [zSL, zSs] using this⟩ (by simp only; omega)
     rw [hpj] at hc;have hst : ((R.map zg).map AV.d).set i (.d (zg u[j])) = ((R.set i u[j]).map zg).map AV.d := by simp [zRN]
     have hgi : ((R.map zg).map AV.d)[i]? = some (.d (zg (R[i]'(by omega)))) := by simp [zQ4 (show i < R.length by omega)]
     clear ih hp;simp only [zgH, zj5] at i1 ⊢;simp only [zQ2, zQZ, zQW, zQ5, zQ0, zQT, zQV, zQR, zQ1, zQY, zQS, zQX, zQU, zo, zC] at i1
     (try simp -implicitDefEqProofs (disch := omega) only [za, go_sem, *]); (try simp only [pA, pB, pC, pD, pE, pF, pG, pH, pI, pJ, pK, pL, pM, pN, pO, pP, if_true, if_false]); repeat' (first | done | rfl | ((first | refine zK (fun hq => ?_) (fun hq => ?_) | refine zM (fun hq => ?_) (fun hq => ?_)) <;> (try (first | (exfalso; omega) | contradiction)) <;> (try simp -implicitDefEqProofs (disch := omega) only [za, go_sem, *]) <;> (try simp only [pA, pB, pC, pD, pE, pF, pG, pH, pI, pJ, pK, pL, pM, pN, pO, pP, if_true, if_false]))); (all_goals try rfl); (all_goals try (repeat' (first | done | rfl | (exfalso; omega) | contradiction | (refine zN (fun hq => ?_) (fun hq => ?_)))))
 · have : j = u.length := by omega
   subst this;clear ih hp;rw [zSy] at h4;simp only [zgH, zj5]
   (try simp -implicitDefEqProofs (disch := omega) only [za, go_sem, *]); (try simp only [pA, pB, pC, pD, pE, pF, pG, pH, pI, pJ, pK, pL, pM, pN, pO, pP, if_true, if_false]); repeat' (first | done | rfl | ((first | refine zK (fun hq => ?_) (fun hq => ?_) | refine zM (fun hq => ?_) (fun hq => ?_)) <;> (try (first | (exfalso; omega) | contradiction)) <;> (try simp -implicitDefEqProofs (disch := omega) only [za, go_sem, *]) <;> (try simp only [pA, pB, pC, pD, pE, pF, pG, pH, pI, pJ, pK, pL, pM, pN, pO, pP, if_true, if_false]))); (all_goals try rfl); (all_goals try (repeat' (first | done | rfl | (exfalso; omega) | contradiction | (refine zN (fun hq => ?_) (fun hq => ?_)))))
   exact ⟨R, i, h3, by omega, h4, rfl⟩
theorem zzo (l : List Lease) (g : Nat) (cs : List D) (p : Lease -> Bool) (hL : l.length <= 4294967296) (hp : ∀ a ∈ l, zd G g (.d (zt a) :: cs.map .d) [] = some (.d (.bool (p a)), [])) : zd G zgg [.d (.sl (l.map zt)), .d (.fn g cs)] [] = some (.d (.int .i64 (zU p l)), []) := by
 have := zdJ (G := G) (x := zsJ) (ks := []) l.length (atB l p) (fun k => ⟨[(0, .d (.sl (l.map zt))), (1, .d (.fn g cs)), (7, .d (.int .i64 l.length)), (8, .d (.int .i64 k))], []⟩) (fun k => (.ret, ⟨[(4, .d (.int .i64 k))], []⟩)) (.exit 0, ⟨[], []⟩) (fun k hk L => by
  simp only [zsJ]
  by_cases h0 : k < l.length
  · have h1 := hp l[k] (zRe h0);simp only [zt, zg] at h1;simp only [zb3 h0]
    cases h2 : p l[k]
    · rw [h2] at h1;simp -implicitDefEqProofs (disch := omega) only [go_sem, h1, zt, zg]
    · rw [h2] at h1;simp -implicitDefEqProofs (disch := omega) only [go_sem, h1, zt, zg]
  · simp -implicitDefEqProofs (disch := omega) only [go_sem, zQU])
 rw [zeF] at this;simp only [zQ2, zQZ, zQW, zQ5, zQ0, zQT, zQV, zQR, zQ1, zQY, zQS, zQX, zQU, zo, zC] at this;unfold zU
 cases h : l.findIdx? p with
 | none => rw [h] at this; rw [ze znp (by simp)]; simp -implicitDefEqProofs (disch := omega) only [zpQ, go_sem, this]
 | some i => rw [h] at this; rw [ze znp (by simp)]; simp -implicitDefEqProofs (disch := omega) only [zpQ, go_sem, this]
structure zkJ where
 i : Nat
 j : Nat
 R : List Lease
def zgG (g : Nat) (cs : List D) (n : Nat) (s : zkJ) : St := ⟨[(0, .osl 1000000 0 n), (1, .d (.fn g cs)), (5, .d (.int .i64 s.i)), (6, .d (.int .i64 s.j)), (1000000, .ref 1000000 1 0)], [(1000000, .row ((s.R.map zt).map .d))]⟩
def zv3 (u : List Lease) (p : Lease -> Bool) (s : zkJ) : Prop := s.i <= s.j /\ s.j <= u.length /\ s.R.length = u.length /\ s.R.take s.i = (u.take s.j).filter (fun a => !p a) /\ s.R.drop s.j = u.drop s.j
def zv6 (u : List Lease) (p : Lease -> Bool) (r : Option (zJ × St)) : Prop := ∃ R : List Lease, ∃ i : Nat, R.length = u.length /\ i <= u.length /\ R.take i = u.filter (fun a => !p a) /\ r = some (.exit 0, ⟨[(0, .osl 1000000 0 u.length), (5, .d (.int .i64 i)), (1000000, .ref 1000000 1 0)], [(1000000, .row ((R.map zt).map .d))]⟩)
theorem zDT (g : Nat) (cs : List D) (u : List Lease) (p : Lease -> Bool) (hL : u.length <= 1000) (hp : ∀ a ∈ u, zd G g (.d (zt a) :: cs.map .d) [] = some (.d (.bool (p a)), [])) : ∀ s : zkJ, zv3 u p s -> zv6 u p (zT G [] zj4 (zgG g cs u.length s)) := by
 refine zfG (fun s : zkJ => u.length - s.j) (zv3 u p) (zgG g cs u.length) (fun _ => zc0 (zv6 u p)) fun ⟨i, j, R⟩ hinv L ih => ?_;obtain ⟨h1, h2, h3, h4, h5⟩ := hinv;simp only at h1 h2 h3 h4 h5
 by_cases h0 : j < u.length
 · have hRj : R[j]'(by omega) = u[j] := by
    have := congrArg (fun l => l[0]?) h5;simp only [zRz, zSr] at this;rw [zQ4 (show j < R.length by omega), zQ4 h0] at this;exact Option.some.inj this
   have hc := hp u[j] (zRe h0);have hg : ((R.map zt).map AV.d)[j]? = some (.d (zt u[j])) := by simp [zQ4 (show j < R.length by omega), hRj]
   have htk : u.take (j + 1) = u.take j ++ [u[j]] := by rw [zSb, zQ4 h0]; rfl
   by_cases hpj : p u[j] = true
   · have i1 := ih ⟨i, j + 1, R⟩ ⟨by simp only; omega, by simp only; omega, h3, by
      simp only;rw [htk, zSh, h4];simp [hpj], by
      simp only;have := congrArg (List.drop 1) h5;simpa [zSL, zSs] using this⟩ (by simp only; omega)
     rw [hpj] at hc;clear ih hp;simp only [zgG, zj4] at i1 ⊢;simp only [zQ2, zQZ, zQW, zQ5, zQ0, zQT, zQV, zQR, zQ1, zQY, zQS, zQX, zQU, zo, zC] at i1;generalize hu : u[j] = uj at *;have sz_uj := zqf uj; have it_uj := zwf uj; have ag_uj := zwe uj; generalize zt uj = D_uj at *
     (try simp -implicitDefEqProofs (disch := omega) only [za, go_sem, *]); (try simp only [pA, pB, pC, pD, pE, pF, pG, pH, pI, pJ, pK, pL, pM, pN, pO, pP, if_true, if_false]); repeat' (first | done | rfl | ((first | refine zK (fun hq => ?_) (fun hq => ?_) | refine zM (fun hq => ?_) (fun hq => ?_)) <;> (try (first | (exfalso; omega) | contradiction)) <;> (try simp -implicitDefEqProofs (disch := omega) only [za, go_sem, *]) <;> (try simp only [pA, pB, pC, pD, pE, pF, pG, pH, pI, pJ, pK, pL, pM, pN, pO, pP, if_true, if_false]))); (all_goals try rfl); (all_goals try (repeat' (first | done | rfl | (exfalso; omega) | contradiction | (refine zN (fun hq => ?_) (fun hq => ?_)))))
   · have hpj : p u[j] = false := by simpa using hpj
     have i1 := ih ⟨i + 1, j + 1, R.set i u[j]⟩ ⟨by simp only; omega, by simp only; omega, by simpa using h3, by
      simp only;rw [htk, zSh, <- h4, zSb, zTh (by omega), zTB (by omega)];simp [hpj], by
      simp only;rw [zTC (by omega)];have := congrArg (List.drop 1) h5;simpa [zSL, zSs] using this⟩ (by simp only; omega)
     rw [hpj] at hc;have hst : ((R.map zt).map AV.d).set i (.d (zt u[j])) = ((R.set i u[j]).map zt).map AV.d := by simp [zRN]
     have hgi : ((R.map zt).map AV.d)[i]? = some (.d (zt (R[i]'(by omega)))) := by simp [zQ4 (show i < R.length by omega)]
     clear ih hp;simp only [zgG, zj4] at i1 ⊢;simp only [zQ2, zQZ, zQW, zQ5, zQ0, zQT, zQV, zQR, zQ1, zQY, zQS, zQX, zQU, zo, zC] at i1
     (try simp -implicitDefEqProofs (disch := omega) only [za, go_sem, *]); (try simp only [pA, pB, pC, pD, pE, pF, pG, pH, pI, pJ, pK, pL, pM, pN, pO, pP, if_true, if_false]); repeat' (first | done | rfl | ((first | refine zK (fun hq => ?_) (fun hq => ?_) | refine zM (fun hq => ?_) (fun hq => ?_)) <;> (try (first | (exfalso; omega) | contradiction)) <;> (try simp -implicitDefEqProofs (disch := omega) only [za, go_sem, *]) <;> (try simp only [pA, pB, pC, pD, pE, pF, pG, pH, pI, pJ, pK, pL, pM, pN, pO, pP, if_true, if_false]))); (all_goals try rfl); (all_goals try (repeat' (first | done | rfl | (exfalso; omega) | contradiction | (refine zN (fun hq => ?_) (fun hq => ?_)))))
 · have : j = u.length := by omega
   subst this;clear ih hp;rw [zSy] at h4;simp only [zgG, zj4]
   (try simp -implicitDefEqProofs (disch := omega) only [za, go_sem, *]); (try simp only [pA, pB, pC, pD, pE, pF, pG, pH, pI, pJ, pK, pL, pM, pN, pO, pP, if_true, if_false]); repeat' (first | done | rfl | ((first | refine zK (fun hq => ?_) (fun hq => ?_) | refine zM (fun hq => ?_) (fun hq => ?_)) <;> (try (first | (exfalso; omega) | contradiction)) <;> (try simp -implicitDefEqProofs (disch := omega) only [za, go_sem, *]) <;> (try simp only [pA, pB, pC, pD, pE, pF, pG, pH, pI, pJ, pK, pL, pM, pN, pO, pP, if_true, if_false]))); (all_goals try rfl); (all_goals try (repeat' (first | done | rfl | (exfalso; omega) | contradiction | (refine zN (fun hq => ?_) (fun hq => ?_)))))
   exact ⟨R, i, h3, by omega, h4, rfl⟩
theorem zAs (m : Message) (lo hi : Int) : zd G zcy [.d (zg m), .d (.pd (.int .i64 lo)), .d (.pd (.int .i64 hi))] [] = some (.d (.bool (z6 lo hi m.route)), []) := by
 have h := up_shard_in.trans (L.up_shard_in.trans (zeW m.route lo hi));have e : z6 lo hi m.route = decide (lo <= m.route /\ m.route <= hi) := by unfold z6; rw [Bool.decide_and]
 rw [<- e] at h;clear e;generalize z6 lo hi m.route = b at *;simp only [zg];rw [ze zrs (by simp)]; simp -implicitDefEqProofs (disch := omega) only [zvA, za, go_sem, *]; (try simp only [pA, pB, pC, pD, pE, pF, pG, pH, pI, pJ, pK, pL, pM, pN, pO, pP, if_true, if_false]); repeat' (first | done | rfl | ((first | refine zK (fun hq => ?_) (fun hq => ?_) | refine zM (fun hq => ?_) (fun hq => ?_)) <;> (try (first | (exfalso; omega) | contradiction)) <;> (try simp -implicitDefEqProofs (disch := omega) only [za, go_sem, *]) <;> (try simp only [pA, pB, pC, pD, pE, pF, pG, pH, pI, pJ, pK, pL, pM, pN, pO, pP, if_true, if_false]))); (all_goals try rfl); (all_goals try (repeat' (first | done | rfl | (exfalso; omega) | contradiction | (refine zN (fun hq => ?_) (fun hq => ?_)))))
theorem zwk {α : Type} {u : List α} {p : α -> Bool} {k : Nat} (hk : k < u.length) (h1 : p u[k] = true) (h2 : ∀ j (hj : j < k), p (u[j]'(by omega)) = false) : u.take k = (u.take (k + 1)).filter (fun a => !p a) := by
 have htk : u.take (k + 1) = u.take k ++ [u[k]] := by rw [zSb, zQ4 hk]; rfl
 rw [htk, zSh];have e1 : (u.take k).filter (fun a => !p a) = u.take k := by
  rw [zSY];intro a ha;obtain ⟨j, hj, rfl⟩ := zRO ha;simp only [zRx] at hj;rw [zSK, h2 j (by omega)];rfl
 rw [e1];simp [h1]
theorem zDR (g : Nat) (cs : List D) (u : List Message) (p : Message -> Bool) (h : u ≠ []) (hL : u.length <= 1000) (hp : ∀ a ∈ u, zd G g (.d (zg a) :: cs.map .d) [] = some (.d (.bool (p a)), [])) :
    zd G zfg [.osl 1000000 0 u.length, .d (.fn g cs)] [(1000000, .row ((u.map zg).map .d))] = some (.osl 1000000 0 (u.filter fun a => !p a).length, [(1000000, .row (((u.filter fun a => !p a).map zg).map .d))]) := by
 have hi := zg0 u g cs p (by omega) hp;have hall : zab ((u.map zg).map AV.d) = some (u.map zg) := zcA _;have hlen : (u.map zg).length = u.length := by simp
 have htl : (u.map zg).take u.length = u.map zg := zRy (by omega)
 by_cases h1 : zU p u = -1
 · have hn := (zjU u p).1 (by omega);have hf : u.filter (fun a => !p a) = u := by
    rw [zSY];intro a ha;rw [hn a ha]; rfl
   rw [hf];rw [h1] at hi;clear hp;rw [ze zjP (by simp)]; simp -implicitDefEqProofs (disch := omega) only [zli, za, go_sem, *]; (try simp only [pA, pB, pC, pD, pE, pF, pG, pH, pI, pJ, pK, pL, pM, pN, pO, pP, if_true, if_false]); repeat' (first | done | rfl | ((first | refine zK (fun hq => ?_) (fun hq => ?_) | refine zM (fun hq => ?_) (fun hq => ?_)) <;> (try (first | (exfalso; omega) | contradiction)) <;> (try simp -implicitDefEqProofs (disch := omega) only [za, go_sem, *]) <;> (try simp only [pA, pB, pC, pD, pE, pF, pG, pH, pI, pJ, pK, pL, pM, pN, pO, pP, if_true, if_false]))); (all_goals try rfl); (all_goals try (repeat' (first | done | rfl | (exfalso; omega) | contradiction | (refine zN (fun hq => ?_) (fun hq => ?_)))))
 · have hlt := znA u p;obtain ⟨k, hk⟩ : ∃ k : Nat, zU p u = k := ⟨(zU p u).toNat, by omega⟩;obtain ⟨hku, k1, k2⟩ := zsi hk;obtain ⟨R, i, r1, r2, r3, hl⟩ := zDU g cs u p hL hp ⟨k, k + 1, u⟩ ⟨by simp, by simp only; omega, rfl, zwk hku k1 k2, rfl⟩;have hil : (u.filter fun a => !p a).length = i := by rw [<- r3]; simp; omega
   have hne : R ≠ [] := by rintro rfl; simp at r1; exact h (by rw [<- zRq]; omega)
   have hrow : ((R.map zg).map AV.d).take i = ((u.filter fun a => !p a).map zg).map AV.d := by rw [<- r3]; simp [zRY]
   have hhd : (((R.map zg).map AV.d).head?).map AV.size = some 7 := by
    cases R with
    | nil => exact absurd rfl hne
    | cons a R => rfl
   simp only [zgH] at hl;rw [hk] at hi;simp only [zQ2, zQZ, zQW, zQ5, zQ0, zQT, zQV, zQR, zQ1, zQY, zQS, zQX, zQU, zo, zC] at hl;clear hp k2 hk h1;have e5 : i + (u.length - i) = u.length := by omega
   rw [ze zjP (by simp)]; simp -implicitDefEqProofs (disch := omega) only [zli, za, go_sem, *]; (try simp only [pA, pB, pC, pD, pE, pF, pG, pH, pI, pJ, pK, pL, pM, pN, pO, pP, if_true, if_false]); repeat' (first | done | rfl | ((first | refine zK (fun hq => ?_) (fun hq => ?_) | refine zM (fun hq => ?_) (fun hq => ?_)) <;> (try (first | (exfalso; omega) | contradiction)) <;> (try simp -implicitDefEqProofs (disch := omega) only [za, go_sem, *]) <;> (try simp only [pA, pB, pC, pD, pE, pF, pG, pH, pI, pJ, pK, pL, pM, pN, pO, pP, if_true, if_false]))); (all_goals try rfl); (all_goals try (repeat' (first | done | rfl | (exfalso; omega) | contradiction | (refine zN (fun hq => ?_) (fun hq => ?_)))))
theorem zDO (g : Nat) (cs : List D) : zd G zfg [.xsl [], .d (.fn g cs)] [] = some (.xsl [], []) := by
 have hi := zg0 [] g cs (fun _ => false) (by simp) (by simp);have e : zU (fun _ : Message => false) [] = -1 := rfl;rw [e] at hi;simp only [zQR] at hi;rw [ze zjP (by simp)]; simp -implicitDefEqProofs (disch := omega) only [zli, za, go_sem, *]; (try simp only [pA, pB, pC, pD, pE, pF, pG, pH, pI, pJ, pK, pL, pM, pN, pO, pP, if_true, if_false]); repeat' (first | done | rfl | ((first | refine zK (fun hq => ?_) (fun hq => ?_) | refine zM (fun hq => ?_) (fun hq => ?_)) <;> (try (first | (exfalso; omega) | contradiction)) <;> (try simp -implicitDefEqProofs (disch := omega) only [za, go_sem, *]) <;> (try simp only [pA, pB, pC, pD, pE, pF, pG, pH, pI, pJ, pK, pL, pM, pN, pO, pP, if_true, if_false]))); (all_goals try rfl); (all_goals try (repeat' (first | done | rfl | (exfalso; omega) | contradiction | (refine zN (fun hq => ?_) (fun hq => ?_)))))
theorem zDQ (g : Nat) (cs : List D) (u : List Lease) (p : Lease -> Bool) (h : u ≠ []) (hL : u.length <= 1000) (hp : ∀ a ∈ u, zd G g (.d (zt a) :: cs.map .d) [] = some (.d (.bool (p a)), [])) :
    zd G zff [.osl 1000000 0 u.length, .d (.fn g cs)] [(1000000, .row ((u.map zt).map .d))] = some (.osl 1000000 0 (u.filter fun a => !p a).length, [(1000000, .row (((u.filter fun a => !p a).map zt).map .d))]) := by
 have hi := zzo u g cs p (by omega) hp;have hall : zab ((u.map zt).map AV.d) = some (u.map zt) := zcA _;have hlen : (u.map zt).length = u.length := by simp
 have htl : (u.map zt).take u.length = u.map zt := zRy (by omega)
 by_cases h1 : zU p u = -1
 · have hn := (zjU u p).1 (by omega);have hf : u.filter (fun a => !p a) = u := by
    rw [zSY];intro a ha;rw [hn a ha]; rfl
   rw [hf];rw [h1] at hi;clear hp;rw [ze zjO (by simp)]; simp -implicitDefEqProofs (disch := omega) only [zlh, za, go_sem, *]; (try simp only [pA, pB, pC, pD, pE, pF, pG, pH, pI, pJ, pK, pL, pM, pN, pO, pP, if_true, if_false]); repeat' (first | done | rfl | ((first | refine zK (fun hq => ?_) (fun hq => ?_) | refine zM (fun hq => ?_) (fun hq => ?_)) <;> (try (first | (exfalso; omega) | contradiction)) <;> (try simp -implicitDefEqProofs (disch := omega) only [za, go_sem, *]) <;> (try simp only [pA, pB, pC, pD, pE, pF, pG, pH, pI, pJ, pK, pL, pM, pN, pO, pP, if_true, if_false]))); (all_goals try rfl); (all_goals try (repeat' (first | done | rfl | (exfalso; omega) | contradiction | (refine zN (fun hq => ?_) (fun hq => ?_)))))
 · have hlt := znA u p;obtain ⟨k, hk⟩ : ∃ k : Nat, zU p u = k := ⟨(zU p u).toNat, by omega⟩;obtain ⟨hku, k1, k2⟩ := zsi hk;obtain ⟨R, i, r1, r2, r3, hl⟩ := zDT g cs u p hL hp ⟨k, k + 1, u⟩ ⟨by simp, by simp only; omega, rfl, zwk hku k1 k2, rfl⟩;have hil : (u.filter fun a => !p a).length = i := by rw [<- r3]; simp; omega
   have hne : R ≠ [] := by rintro rfl; simp at r1; exact h (by rw [<- zRq]; omega)
   have hrow : ((R.map zt).map AV.d).take i = ((u.filter fun a => !p a).map zt).map AV.d := by rw [<- r3]; simp [zRY]
   have hhd : (((R.map zt).map AV.d).head?).map AV.size = some 8 := by
    cases R with
    | nil => exact absurd rfl hne
    | cons a R => rfl
   simp only [zgG] at hl;rw [hk] at hi;simp only [zQ2, zQZ, zQW, zQ5, zQ0, zQT, zQV, zQR, zQ1, zQY, zQS, zQX, zQU, zo, zC] at hl;clear hp k2 hk h1;have e5 : i + (u.length - i) = u.length := by omega
   rw [ze zjO (by simp)]; simp -implicitDefEqProofs (disch := omega) only [zlh, za, go_sem, *]; (try simp only [pA, pB, pC, pD, pE, pF, pG, pH, pI, pJ, pK, pL, pM, pN, pO, pP, if_true, if_false]); repeat' (first | done | rfl | ((first | refine zK (fun hq => ?_) (fun hq => ?_) | refine zM (fun hq => ?_) (fun hq => ?_)) <;> (try (first | (exfalso; omega) | contradiction)) <;> (try simp -implicitDefEqProofs (disch := omega) only [za, go_sem, *]) <;> (try simp only [pA, pB, pC, pD, pE, pF, pG, pH, pI, pJ, pK, pL, pM, pN, pO, pP, if_true, if_false]))); (all_goals try rfl); (all_goals try (repeat' (first | done | rfl | (exfalso; omega) | contradiction | (refine zN (fun hq => ?_) (fun hq => ?_)))))
theorem zDN (g : Nat) (cs : List D) : zd G zff [.xsl [], .d (.fn g cs)] [] = some (.xsl [], []) := by
 have hi := zzo [] g cs (fun _ => false) (by simp) (by simp);have e : zU (fun _ : Lease => false) [] = -1 := rfl;rw [e] at hi;simp only [zQR] at hi;rw [ze zjO (by simp)]; simp -implicitDefEqProofs (disch := omega) only [zlh, za, go_sem, *]; (try simp only [pA, pB, pC, pD, pE, pF, pG, pH, pI, pJ, pK, pL, pM, pN, pO, pP, if_true, if_false]); repeat' (first | done | rfl | ((first | refine zK (fun hq => ?_) (fun hq => ?_) | refine zM (fun hq => ?_) (fun hq => ?_)) <;> (try (first | (exfalso; omega) | contradiction)) <;> (try simp -implicitDefEqProofs (disch := omega) only [za, go_sem, *]) <;> (try simp only [pA, pB, pC, pD, pE, pF, pG, pH, pI, pJ, pK, pL, pM, pN, pO, pP, if_true, if_false]))); (all_goals try rfl); (all_goals try (repeat' (first | done | rfl | (exfalso; omega) | contradiction | (refine zN (fun hq => ?_) (fun hq => ?_)))))
theorem zMf (m : Message) (lo hi : Int) : zd G zen [.d (zg m), .d (.pd (.fn zcy [.pd (.int .i64 lo), .pd (.int .i64 hi)]))] [] = some (.d (.bool (!z6 lo hi m.route)), []) := by
 have h := zAs m lo hi;generalize z6 lo hi m.route = b at *;simp only [zg] at *;rw [ze zrt (by simp)]; simp -implicitDefEqProofs (disch := omega) only [zvB, za, go_sem, *]; (try simp only [pA, pB, pC, pD, pE, pF, pG, pH, pI, pJ, pK, pL, pM, pN, pO, pP, if_true, if_false]); repeat' (first | done | rfl | ((first | refine zK (fun hq => ?_) (fun hq => ?_) | refine zM (fun hq => ?_) (fun hq => ?_)) <;> (try (first | (exfalso; omega) | contradiction)) <;> (try simp -implicitDefEqProofs (disch := omega) only [za, go_sem, *]) <;> (try simp only [pA, pB, pC, pD, pE, pF, pG, pH, pI, pJ, pK, pL, pM, pN, pO, pP, if_true, if_false]))); (all_goals try rfl); (all_goals try (repeat' (first | done | rfl | (exfalso; omega) | contradiction | (refine zN (fun hq => ?_) (fun hq => ?_)))))
theorem zMg (y : Lease) (lo hi : Int) : zd G zeo [.d (zt y), .d (.pd (.fn zcy [.pd (.int .i64 lo), .pd (.int .i64 hi)]))] [] = some (.d (.bool (!z6 lo hi y.msg.route)), []) := by
 have h := zAs y.msg lo hi;generalize z6 lo hi y.msg.route = b at *;simp only [zg, zt] at *;rw [ze zru (by simp)]; simp -implicitDefEqProofs (disch := omega) only [zvC, za, go_sem, *]; (try simp only [pA, pB, pC, pD, pE, pF, pG, pH, pI, pJ, pK, pL, pM, pN, pO, pP, if_true, if_false]); repeat' (first | done | rfl | ((first | refine zK (fun hq => ?_) (fun hq => ?_) | refine zM (fun hq => ?_) (fun hq => ?_)) <;> (try (first | (exfalso; omega) | contradiction)) <;> (try simp -implicitDefEqProofs (disch := omega) only [za, go_sem, *]) <;> (try simp only [pA, pB, pC, pD, pE, pF, pG, pH, pI, pJ, pK, pL, pM, pN, pO, pP, if_true, if_false]))); (all_goals try rfl); (all_goals try (repeat' (first | done | rfl | (exfalso; omega) | contradiction | (refine zN (fun hq => ?_) (fun hq => ?_)))))
theorem zOL : D.size .nil = 1 := rfl
attribute [go_sem] zOL
theorem zA7 {r : z9} (hr : zW r = 0) (h : zw r ≠ []) : zd G zcx [.d (zA r)] [] = some (.osl 0 0 (zw r).length, [(0, .row (((zw r).map zg).map .d))]) := by
 have := zsO zBe (es := (zw r).map zg) (by simpa using h) (by have := L.up_ring_List.trans (zos hr); simpa using this)
 rwa [zQV] at this
theorem zA8 {r : z9} (hr : zW r = 0) (h : zw r = []) : zd G zcx [.d (zA r)] [] = some (.xsl [], []) := by
 have := L.up_ring_List.trans (zos hr);rw [h] at this;exact zsP zBe this
theorem zEr {n : Nat} {lo hi : Int} (h1 : 1 <= n) (h2 : n <= 12) : shC (emS n lo hi) := by
 have : (emS n lo hi).ready.cells.length = n := zeS n 0 [];exact ⟨by omega, by omega, by simp [emS, mkS, zP], by simp [emS, mkS, zP]⟩
theorem zec (s : Shard) (lo hi : Int) (hr : zW s.ready = 0) (ht : s.leases.l.length <= 12) (h3 : 0 <= lo /\ lo <= hi /\ hi < 65536) : zd G zgc [.d (zj s), .d (.int .i64 lo), .d (.int .i64 hi)] [] = some (.d (.tup [zj (zdL s lo hi).1, .int .i64 (zdL s lo hi).2]), []) := by
 obtain ⟨b1, b2, b3, b4, b5, b6⟩ := zba hr;have hn := zBR.trans (zOS s.ready.cells.length lo hi b1 b2 h3);have ho : (zw s.ready).length <= 12 := by rw [zeQ]; omega
 have hf := ztZ.trans (zlF (emS s.ready.cells.length lo hi) ((zw s.ready).filter fun m => z6 lo hi m.route) (s.leases.l.filter fun y => z6 lo hi y.msg.route) (zEr b1 b2)
  (zRU (zSg _ _) (by omega)) (zRU (zSg _ _) (by omega)))
 have e : zd1 (emS s.ready.cells.length lo hi) ((zw s.ready).filter fun m => z6 lo hi m.route) (s.leases.l.filter fun y => z6 lo hi y.msg.route) = zdL s lo hi := rfl;rw [e] at hf;have hall1 : ∀ w : List Message, zab ((w.map zg).map AV.d) = some (w.map zg) := fun w => zcA _;have hall2 : ∀ w : List Lease, zab ((w.map zt).map AV.d) = some (w.map zt) := fun w => zcA _;have htk1 : ∀ w : List Message, (w.map zg).take w.length = w.map zg := fun w => zRy (by simp);have htk2 : ∀ w : List Lease, (w.map zt).take w.length = w.map zt := fun w => zRy (by simp);have hd1 : zw s.ready ≠ [] -> _ := fun q => zDR zen [.pd (.fn zcy [.pd (.int .i64 lo), .pd (.int .i64 hi)])] (zw s.ready) (fun m => !z6 lo hi m.route) q (by omega) (fun a _ => zMf a lo hi);have hd2 : s.leases.l ≠ [] -> _ := fun q => zDQ zeo [.pd (.fn zcy [.pd (.int .i64 lo), .pd (.int .i64 hi)])] s.leases.l (fun y => !z6 lo hi y.msg.route) q (by omega) (fun a _ => zMg a lo hi);have hz1 := zDO zen [.pd (.fn zcy [.pd (.int .i64 lo), .pd (.int .i64 hi)])];have hz2 := zDN zeo [.pd (.fn zcy [.pd (.int .i64 lo), .pd (.int .i64 hi)])];simp only [Bool.not_not] at hd1 hd2;have hl1 : zw s.ready = [] -> _ := zA8 hr;have hl2 : zw s.ready ≠ [] -> _ := zA7 hr;have hc := fun q => zt1.trans (zls s.leases.l q (by omega));have hc0 := zt1.trans zp7;clear e h3;generalize zdL s lo hi = R at *;generalize emS s.ready.cells.length lo hi = E at *;generalize zw s.ready = w at *;obtain ⟨lv, sl, sh, ⟨c, h, z⟩, ⟨tl, th⟩⟩ := s;simp only at *
 by_cases e1 : w = []
 · have hL := hl1 e1;subst e1
   by_cases e2 : tl = []
   · subst e2;clear hd1 hd2 hl1 hl2 hc;simp only [zj, zA, zSJ, zQR] at *;rw [ze zgV (by simp)]; simp -implicitDefEqProofs (disch := omega) only [zi9, za, go_sem, *]; (try simp only [pA, pB, pC, pD, pE, pF, pG, pH, pI, pJ, pK, pL, pM, pN, pO, pP, if_true, if_false]); repeat' (first | done | rfl | ((first | refine zK (fun hq => ?_) (fun hq => ?_) | refine zM (fun hq => ?_) (fun hq => ?_)) <;> (try (first | (exfalso; omega) | contradiction)) <;> (try simp -implicitDefEqProofs (disch := omega) only [za, go_sem, *]) <;> (try simp only [pA, pB, pC, pD, pE, pF, pG, pH, pI, pJ, pK, pL, pM, pN, pO, pP, if_true, if_false]))); (all_goals try rfl); (all_goals try (repeat' (first | done | rfl | (exfalso; omega) | contradiction | (refine zN (fun hq => ?_) (fun hq => ?_)))))
   · have hD := hd2 e2;have hC := hc e2;clear hd1 hd2 hl1 hl2 hc;generalize tl.filter (fun y => z6 lo hi y.msg.route) = tf at *;simp only [zj, zA, zSJ, zQR] at *;rw [ze zgV (by simp)]; simp -implicitDefEqProofs (disch := omega) only [zi9, za, go_sem, *]; (try simp only [pA, pB, pC, pD, pE, pF, pG, pH, pI, pJ, pK, pL, pM, pN, pO, pP, if_true, if_false]); repeat' (first | done | rfl | ((first | refine zK (fun hq => ?_) (fun hq => ?_) | refine zM (fun hq => ?_) (fun hq => ?_)) <;> (try (first | (exfalso; omega) | contradiction)) <;> (try simp -implicitDefEqProofs (disch := omega) only [za, go_sem, *]) <;> (try simp only [pA, pB, pC, pD, pE, pF, pG, pH, pI, pJ, pK, pL, pM, pN, pO, pP, if_true, if_false]))); (all_goals try rfl); (all_goals try (repeat' (first | done | rfl | (exfalso; omega) | contradiction | (refine zN (fun hq => ?_) (fun hq => ?_)))))
 · have hL := hl2 e1;have hE := hd1 e1
   by_cases e2 : tl = []
   · subst e2;clear hd1 hd2 hl1 hl2 hc;generalize w.filter (fun y => z6 lo hi y.route) = wf at *;simp only [zj, zA, zSJ, zQR] at *;rw [ze zgV (by simp)]; simp -implicitDefEqProofs (disch := omega) only [zi9, za, go_sem, *]; (try simp only [pA, pB, pC, pD, pE, pF, pG, pH, pI, pJ, pK, pL, pM, pN, pO, pP, if_true, if_false]); repeat' (first | done | rfl | ((first | refine zK (fun hq => ?_) (fun hq => ?_) | refine zM (fun hq => ?_) (fun hq => ?_)) <;> (try (first | (exfalso; omega) | contradiction)) <;> (try simp -implicitDefEqProofs (disch := omega) only [za, go_sem, *]) <;> (try simp only [pA, pB, pC, pD, pE, pF, pG, pH, pI, pJ, pK, pL, pM, pN, pO, pP, if_true, if_false]))); (all_goals try rfl); (all_goals try (repeat' (first | done | rfl | (exfalso; omega) | contradiction | (refine zN (fun hq => ?_) (fun hq => ?_)))))
   · have hD := hd2 e2;have hC := hc e2;clear hd1 hd2 hl1 hl2 hc;generalize tl.filter (fun y => z6 lo hi y.msg.route) = tf at *;generalize w.filter (fun y => z6 lo hi y.route) = wf at *;simp only [zj, zA] at *;rw [ze zgV (by simp)]; simp -implicitDefEqProofs (disch := omega) only [zi9, za, go_sem, *]; (try simp only [pA, pB, pC, pD, pE, pF, pG, pH, pI, pJ, pK, pL, pM, pN, pO, pP, if_true, if_false]); repeat' (first | done | rfl | ((first | refine zK (fun hq => ?_) (fun hq => ?_) | refine zM (fun hq => ?_) (fun hq => ?_)) <;> (try (first | (exfalso; omega) | contradiction)) <;> (try simp -implicitDefEqProofs (disch := omega) only [za, go_sem, *]) <;> (try simp only [pA, pB, pC, pD, pE, pF, pG, pH, pI, pJ, pK, pL, pM, pN, pO, pP, if_true, if_false]))); (all_goals try rfl); (all_goals try (repeat' (first | done | rfl | (exfalso; omega) | contradiction | (refine zN (fun hq => ?_) (fun hq => ?_)))))
theorem zD2 (s : Shard) (mid : Int) (q : zcq s) (h : zaA s ≠ 0) : zd G zdV [.d (zj s), .d (.int .i64 mid)] [] = some (.d (.tup [zj zam, zj zam, .int .i64 (zaA s)]), []) := by
 have hl := up_shard_live.trans (L.up_shard_live.trans (zfF s (by have := q.1; omega) (by have := q.2.1; omega) (by have := q.2.2; omega)));replace h := zSx h;generalize zaA s = e at *;simp only [zj, zam, zQR] at *;rw [ze zgU (by simp)]; simp -implicitDefEqProofs (disch := omega) only [zi6, za, go_sem, *]; (try simp only [pA, pB, pC, pD, pE, pF, pG, pH, pI, pJ, pK, pL, pM, pN, pO, pP, if_true, if_false]); repeat' (first | done | rfl | ((first | refine zK (fun hq => ?_) (fun hq => ?_) | refine zM (fun hq => ?_) (fun hq => ?_)) <;> (try (first | (exfalso; omega) | contradiction)) <;> (try simp -implicitDefEqProofs (disch := omega) only [za, go_sem, *]) <;> (try simp only [pA, pB, pC, pD, pE, pF, pG, pH, pI, pJ, pK, pL, pM, pN, pO, pP, if_true, if_false]))); (all_goals try rfl); (all_goals try (repeat' (first | done | rfl | (exfalso; omega) | contradiction | (refine zN (fun hq => ?_) (fun hq => ?_)))))
theorem zD4 (s : Shard) (mid : Int) (q : zcq s) (h : zaA s = 0) (hm : mid < s.low \/ s.high <= mid) : zd G zdV [.d (zj s), .d (.int .i64 mid)] [] = some (.d (.tup [zj zam, zj zam, .int .i64 1]), []) := by
 have hl := up_shard_live.trans (L.up_shard_live.trans (zfF s (by have := q.1; omega) (by have := q.2.1; omega) (by have := q.2.2; omega)));rw [h] at hl;clear h;simp only [zj, zam, zQR] at *
 by_cases c : mid < s.low
 · rw [ze zgU (by simp)]; simp -implicitDefEqProofs (disch := omega) only [zi6, za, go_sem, *]; (try simp only [pA, pB, pC, pD, pE, pF, pG, pH, pI, pJ, pK, pL, pM, pN, pO, pP, if_true, if_false]); repeat' (first | done | rfl | ((first | refine zK (fun hq => ?_) (fun hq => ?_) | refine zM (fun hq => ?_) (fun hq => ?_)) <;> (try (first | (exfalso; omega) | contradiction)) <;> (try simp -implicitDefEqProofs (disch := omega) only [za, go_sem, *]) <;> (try simp only [pA, pB, pC, pD, pE, pF, pG, pH, pI, pJ, pK, pL, pM, pN, pO, pP, if_true, if_false]))); (all_goals try rfl); (all_goals try (repeat' (first | done | rfl | (exfalso; omega) | contradiction | (refine zN (fun hq => ?_) (fun hq => ?_)))))
 · have c2 : s.high <= mid := by omega
   rw [ze zgU (by simp)]; simp -implicitDefEqProofs (disch := omega) only [zi6, za, go_sem, *]; (try simp only [pA, pB, pC, pD, pE, pF, pG, pH, pI, pJ, pK, pL, pM, pN, pO, pP, if_true, if_false]); repeat' (first | done | rfl | ((first | refine zK (fun hq => ?_) (fun hq => ?_) | refine zM (fun hq => ?_) (fun hq => ?_)) <;> (try (first | (exfalso; omega) | contradiction)) <;> (try simp -implicitDefEqProofs (disch := omega) only [za, go_sem, *]) <;> (try simp only [pA, pB, pC, pD, pE, pF, pG, pH, pI, pJ, pK, pL, pM, pN, pO, pP, if_true, if_false]))); (all_goals try rfl); (all_goals try (repeat' (first | done | rfl | (exfalso; omega) | contradiction | (refine zN (fun hq => ?_) (fun hq => ?_)))))
theorem zD3 (s a b : Shard) (mid : Int) (q : zcq s) (h : zaA s = 0) (hr : zW s.ready = 0) (hm : s.low <= mid /\ mid < s.high) (h0 : 0 <= s.low) (h9 : s.high < 65536) (ha : zdL s s.low mid = (a, 0)) (hb : zdL s (mid + 1) s.high = (b, 0)) : zd G zdV [.d (zj s), .d (.int .i64 mid)] [] = some (.d (.tup [zj a, zj b, .int .i64 0]), []) := by
 have hl := up_shard_live.trans (L.up_shard_live.trans (zfF s (by have := q.1; omega) (by have := q.2.1; omega) (by have := q.2.2; omega)));have p1 := zec s s.low mid hr q.2.1 (by omega);have p2 := zec s (mid + 1) s.high hr q.2.1 (by omega);rw [h] at hl;rw [ha] at p1;rw [hb] at p2;clear h ha hb hr;simp only [zj] at *;rw [ze zgU (by simp)]; simp -implicitDefEqProofs (disch := omega) only [zi6, za, go_sem, *]; (try simp only [pA, pB, pC, pD, pE, pF, pG, pH, pI, pJ, pK, pL, pM, pN, pO, pP, if_true, if_false]); repeat' (first | done | rfl | ((first | refine zK (fun hq => ?_) (fun hq => ?_) | refine zM (fun hq => ?_) (fun hq => ?_)) <;> (try (first | (exfalso; omega) | contradiction)) <;> (try simp -implicitDefEqProofs (disch := omega) only [za, go_sem, *]) <;> (try simp only [pA, pB, pC, pD, pE, pF, pG, pH, pI, pJ, pK, pL, pM, pN, pO, pP, if_true, if_false]))); (all_goals try rfl); (all_goals try (repeat' (first | done | rfl | (exfalso; omega) | contradiction | (refine zN (fun hq => ?_) (fun hq => ?_)))))
end Go.Proofs.YtfggldgdejjlnaaGreat.L2
