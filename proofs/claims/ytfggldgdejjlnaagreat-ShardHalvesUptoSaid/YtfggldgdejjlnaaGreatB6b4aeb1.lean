/-
  The law ShardHalves.
-/
import Derived.Test.YtfggldgdejjlnaaGreatBb06a73e
import Derived.Test.YtfggldgdejjlnaaGreatBd9fdac4
import Derived.Test.YtfggldgdejjlnaaGreatB0562a1b
import Derived.Test.YtfggldgdejjlnaaGreatBf76a865
set_option linter.unusedSimpArgs false
set_option linter.unusedVariables false
set_option maxHeartbeats 10000000
set_option maxRecDepth 100000
namespace Go.Proofs.YtfggldgdejjlnaaGreat.L2
open Go Go.Sim Go.Proofs.YtfggldgdejjlnaaGreat Go.Proofs.YtfggldgdejjlnaaGreat.L
theorem zDl (l : List Message) (g : Nat) (cs : List D) (p : Message -> Bool) (hL : l.length <= 4294967296) (hp : ∀ a ∈ l, zd G g (.d (zg a) :: cs.map .d) [] = some (.d (.bool (p a)), [])) : zd G zfe [.d (.sl (l.map zg)), .d (.fn g cs)] [] = some (.d (.bool (l.any p)), []) := by
 rw [ze znn (by simp)]; simp -implicitDefEqProofs (disch := omega) only [zpP, go_sem, zg0 l g cs p hL hp, zjT]
theorem zPA (s : Shard) (m : Message) (hr : zW s.ready = 0) (h1 : s.leases.l.length <= 12) : zd G zfa [.d (zg m), .d (.pd (zj s))] [] = some (.d (.bool ((zG s).any fun x => decide (x.id = m.id))), []) := by
 have h := up_shard_has.trans (L.up_shard_has.trans (zzi s m.id hr h1));generalize (zG s).any (fun x => decide (x.id = m.id)) = b at *;simp only [zg, zj] at *;rw [ze zrn (by simp)]; simp -implicitDefEqProofs (disch := omega) only [zvs, za, go_sem, *]; (try simp only [pA, pB, pC, pD, pE, pF, pG, pH, pI, pJ, pK, pL, pM, pN, pO, pP, if_true, if_false]); repeat' (first | done | rfl | ((first | refine zK (fun hq => ?_) (fun hq => ?_) | refine zM (fun hq => ?_) (fun hq => ?_)) <;> (try (first | (exfalso; omega) | contradiction)) <;> (try simp -implicitDefEqProofs (disch := omega) only [za, go_sem, *]) <;> (try simp only [pA, pB, pC, pD, pE, pF, pG, pH, pI, pJ, pK, pL, pM, pN, pO, pP, if_true, if_false]))); (all_goals try rfl); (all_goals try (repeat' (first | done | rfl | (exfalso; omega) | contradiction | (refine zN (fun hq => ?_) (fun hq => ?_)))))
theorem zPF (a b c : Shard) (qa : zcq a) (qb : zcq b) (ha : zaA a = 0) (hb : zaA b = 0) (va : zaG a = 0) (vb : zaG b = 0) (ra : zW a.ready = 0) (rb : zW b.ready = 0) (hm : a.high + 1 = b.low) (h0 : 0 <= a.low /\ a.low <= a.high /\ b.low <= b.high /\ b.high < 65536)
    (hn : b.ready.size + b.leases.l.length + a.ready.size + a.leases.l.length <= a.ready.cells.length) (hd : ((zG b).any fun m => (zG a).any fun x => decide (x.id = m.id)) = false)
    (hf : zd1 { a with high := b.high } (zw b.ready) b.leases.l = (c, 0)) : zd G ze9 [.d (zj a), .d (zj b)] [] = some (.d (.tup [zj c, .int .i64 0]), []) := by
 obtain ⟨a1, a2, a3, a4, a5, a6⟩ := zba ra;obtain ⟨b1, b2, b3, b4, b5, b6⟩ := zba rb;have k1 := up_shard_Validate.trans (L.up_shard_Validate.trans (zox a (by have := qa.1; omega) (by have := qa.2.1; omega) (by have := qa.2.2; omega)));have k2 := up_shard_Validate.trans (L.up_shard_Validate.trans (zox b (by have := qb.1; omega) (by have := qb.2.1; omega) (by have := qb.2.2; omega)));have k3 := up_shard_live.trans (L.up_shard_live.trans (zfF a (by have := qa.1; omega) (by have := qa.2.1; omega) (by have := qa.2.2; omega)));have k4 := up_shard_live.trans (L.up_shard_live.trans (zfF b (by have := qb.1; omega) (by have := qb.2.1; omega) (by have := qb.2.2; omega)));have k5 := up_shard_stored.trans (L.up_shard_stored.trans (zoD b qb.2.1 b5 (by omega)));have k6 := up_shard_room.trans (L.up_shard_room.trans (zBr a qa.2.1 a5 (by omega) a2));have k7 := up_shard_messages.trans (L.up_shard_messages.trans (zs5 rb qb.2.1));have hl := zfU rb qb.2.1;have k8 := zDl (zG b) zfa [.pd (zj a)] (fun m => (zG a).any fun x => decide (x.id = m.id)) (by omega) (fun m _ => zPA a m ra qa.2.1);have k9 := zBS.trans (zhx a a1 a2 qa.2.1 qa.2.2);have hord : (zw b.ready).length <= 12 := by rw [zeQ]; omega
 have kf := ztZ.trans (zlF { a with high := b.high } (zw b.ready) b.leases.l ⟨a1, a2, qa.2.1, qa.2.2⟩ (by omega) (by have := qb.2.1; omega));rw [hf] at kf;rw [ha] at k3;rw [hb] at k4;rw [va] at k1;rw [vb] at k2;rw [hd] at k8;have e1 := zA7 rb;have e0 := zA8 rb;have hq := qb.2.1;have hq2 := qa.2.1;have hall : ∀ w : List Message, zab ((w.map zg).map AV.d) = some (w.map zg) := fun w => zcA _;have htk : ∀ w : List Message, (w.map zg).take w.length = w.map zg := fun w => zRy (by simp);clear hf ha hb va vb hd ra rb qa qb;generalize zG b = mb at *;generalize zw b.ready = w at *;obtain ⟨al, alo, ahi, ⟨ac, ah, az⟩, ⟨at1, at2⟩⟩ := a;obtain ⟨bl, blo, bhi, ⟨bc, bh, bz⟩, ⟨bt1, bt2⟩⟩ := b;simp only at *
 by_cases e : w = []
 · have hL := e0 e;clear e1 e0;subst e;simp only [zj, zA, zQR] at *;rw [ze znk (by simp)]; simp -implicitDefEqProofs (disch := omega) only [zpK, zbj, zg4, zj1, za, go_sem, *]; (try simp only [pA, pB, pC, pD, pE, pF, pG, pH, pI, pJ, pK, pL, pM, pN, pO, pP, if_true, if_false]); repeat' (first | done | rfl | ((first | refine zK (fun hq => ?_) (fun hq => ?_) | refine zM (fun hq => ?_) (fun hq => ?_)) <;> (try (first | (exfalso; omega) | contradiction)) <;> (try simp -implicitDefEqProofs (disch := omega) only [zbj, zg4, zj1, za, go_sem, *]) <;> (try simp only [pA, pB, pC, pD, pE, pF, pG, pH, pI, pJ, pK, pL, pM, pN, pO, pP, if_true, if_false]))); (all_goals try rfl); (all_goals try (repeat' (first | done | rfl | (exfalso; omega) | contradiction | (refine zN (fun hq => ?_) (fun hq => ?_)))))
 · have hL := e1 e;clear e1 e0;simp only [zj, zA] at *;rw [ze znk (by simp)]; simp -implicitDefEqProofs (disch := omega) only [zpK, zbj, zg4, zj1, za, go_sem, *]; (try simp only [pA, pB, pC, pD, pE, pF, pG, pH, pI, pJ, pK, pL, pM, pN, pO, pP, if_true, if_false]); repeat' (first | done | rfl | ((first | refine zK (fun hq => ?_) (fun hq => ?_) | refine zM (fun hq => ?_) (fun hq => ?_)) <;> (try (first | (exfalso; omega) | contradiction)) <;> (try simp -implicitDefEqProofs (disch := omega) only [zbj, zg4, zj1, za, go_sem, *]) <;> (try simp only [pA, pB, pC, pD, pE, pF, pG, pH, pI, pJ, pK, pL, pM, pN, pO, pP, if_true, if_false]))); (all_goals try rfl); (all_goals try (repeat' (first | done | rfl | (exfalso; omega) | contradiction | (refine zN (fun hq => ?_) (fun hq => ?_)))))
end Go.Proofs.YtfggldgdejjlnaaGreat.L2

namespace Go.Proofs.YtfggldgdejjlnaaGreat
open Go Go.Sim
def atI (out : List Int) (x : Int) : Nat -> Nat
 | 0 => 0
 | k + 1 => if x < out.getD k 0 then atI out x k else k + 1
theorem zpj (out : List Int) (x : Int) : ∀ k, atI out x k <= k := by
 intro k
 induction k with
 | zero => exact zRd _
 | succ k ih => unfold atI; split <;> omega
def idS (o : Nat) (w : List Message) (out : List Int) (i k : Nat) : St := ⟨[(3, .acc o (zy out)), (4, .d (.sl (w.map zg))), (5, .d (.int .i64 i)), (6, .d (.int .i64 k))], [(o, .acc out.length)]⟩
theorem zGR (o : Nat) (w : List Message) (out : List Int) (i : Nat) (hi : i < w.length) (h1 : w.length <= 24) (h2 : out.length <= 24) : ∀ k, k <= out.length -> zT G [] zeM (idS o w out i k) = some (.exit 2, idS o w out i (atI out w[i].id k)) := by
 refine zap (fun k => k) (fun k => k <= out.length) (idS o w out i) (fun k => some (.exit 2, idS o w out i (atI out w[i].id k))) fun k hk L ih => ?_
 cases k with
 | zero =>
  clear ih;simp only [idS, atI, zeM];simp -implicitDefEqProofs (disch := omega) only [za, go_sem, *]
 | succ k =>
  have i1 := ih k (by omega) (by omega);clear ih;unfold atI;have e : ((k : Int) + 1) - 1 = k := by omega
  have e2 : (((k : Int) + 1) - 1).toNat = k := by omega
  by_cases c : w[i].id < out.getD k 0
  · rw [zQO c];generalize idS o w out i (atI out w[i].id k) = R at *;rw [za (by omega)] at c;simp only [idS, zeM] at *;simp -implicitDefEqProofs (disch := omega) only [zg, zy, za, go_sem, *]
  · rw [zQN c];clear i1;rw [za (by omega)] at c;simp only [idS, zeM];simp -implicitDefEqProofs (disch := omega) only [zg, zy, za, go_sem, *]
theorem zGS (w : List Message) (i : Nat) (hi : i < w.length) : zT G [] zeM ⟨[(3, .d (.sl [])), (4, .d (.sl (w.map zg))), (5, .d (.int .i64 i)), (6, .d (.int .i64 0))], []⟩ = some (.exit 2, ⟨[(3, .d (.sl [])), (4, .d (.sl (w.map zg))), (5, .d (.int .i64 i)), (6, .d (.int .i64 0))], []⟩) := by
 rw [zbj];simp only [zeM];simp -implicitDefEqProofs (disch := omega) only [za, go_sem, *]
def zcJ (out : List Int) (x : Int) : List Int := out.take (atI out x out.length) ++ [x] ++ out.drop (atI out x out.length)
def zaP : List Message -> List Int -> List Int
 | [], out => out
 | m :: l, out => zaP l (zcJ out m.id)
theorem zG0 (out : List Int) (x : Int) : (zcJ out x).length = out.length + 1 := by
 have h := zpj out x out.length;unfold zcJ;simp only [zQT, zRx, zRp, zRI];omega
def oS (w : List Message) (t : List Int × Nat) : St := ⟨[(3, .acc 37 (zy t.1)), (4, .d (.sl (w.map zg))), (5, .d (.int .i64 t.2))], [(37, .acc t.1.length)]⟩
theorem zGU (w : List Message) (h1 : w.length <= 24) : ∀ t : List Int × Nat, t.2 <= w.length /\ t.1.length = t.2 /\ t.1 ≠ [] -> zT G [] zda (oS w t) = some (.exit 0, ⟨[(3, .acc 37 (zy (zaP (w.drop t.2) t.1)))], [(37, .acc (zaP (w.drop t.2) t.1).length)]⟩) := by
 refine zap (fun t => w.length - t.2) (fun t : List Int × Nat => t.2 <= w.length /\ t.1.length = t.2 /\ t.1 ≠ []) (oS w) (fun t => some (.exit 0, ⟨[(3, .acc 37 (zy (zaP (w.drop t.2) t.1)))], [(37, .acc (zaP (w.drop t.2) t.1).length)]⟩)) fun t ht L ih => ?_;obtain ⟨out, i⟩ := t;obtain ⟨hi, h2, h0⟩ := ht;simp only at hi h2 h0
 by_cases hlt : i < w.length
 · have hl := zGR 37 w out i hlt h1 (by omega) out.length (zRd _);have ha := zpj out w[i].id out.length;have hn : out.length ≠ 0 := fun e => h0 (zUd e);have hh : Option.map AV.size (List.map AV.d (List.map (D.int IntKind.i64) out)).head? = some 1 := by
    cases out with
    | nil => exact absurd rfl h0
    | cons x l => rfl
   have hlen := zG0 out w[i].id;have i1 := ih ⟨zcJ out w[i].id, i + 1⟩ ⟨by simp only; omega, by simp only; omega, fun e => by simp only at e; rw [e] at hlen; cases hlen⟩ (by simp only; omega);clear ih;have hx : zaP (w.drop i) out = zaP (w.drop (i + 1)) (zcJ out w[i].id) := by rw [zRH hlt]; rfl
   simp only [hx];simp only [oS] at i1;rw [hlen] at i1;generalize zaP (w.drop (i + 1)) (zcJ out w[i].id) = R at *;have h3 : out.length <= 24 := by omega
   clear hx hlen h2;unfold zcJ at i1;generalize atI out w[i].id out.length = k at *;have hk : k <= 4294967296 := by omega
   have hk2 : (k : Int) <= out.length := by omega
   have hdr : (out.drop k).length = out.length - k := zRp;have htk : (out.drop k).take (out.length - k) = out.drop k := zRy (by rw [hdr]; exact zRd _)
   by_cases c0 : k = 0
   · subst c0;have e1 : 1 + out.length = out.length + 1 := by omega
     simp only [zRW, zRB, zSM, zS7] at i1;simp only [oS, idS, zda, zy, zQY, zQS, zQR] at *;simp only [zQ2, zQZ, zQW, zQ5, zQ0, zQT, zQV, zQR, zQ1, zQY, zQS, zQX, zQU, zo, zC] at i1;simp -implicitDefEqProofs (disch := omega) only [zg, zRW, zRB, zSM, za, go_sem, *]
   · have hm : min k out.length = k := by omega
     by_cases c1 : k = out.length
     · subst c1;simp only [zSy, zRZ, zRG] at i1;simp only [oS, idS, zda, zy, zQY, zQS, zQR] at *;simp only [zQ2, zQZ, zQW, zQ5, zQ0, zQT, zQV, zQR, zQ1, zQY, zQS, zQX, zQU, zo, zC] at i1;simp -implicitDefEqProofs (disch := omega) only [zg, zR5, zSw, zS3, zRW, zab, zRG, zS1, za, go_sem, *]
     · have e1 : k + 1 + (out.length - k) = out.length + 1 := by omega
       have e2 : out.length + 1 <= 4294967296 := by omega
       simp only [oS, idS, zda, zy, zQY, zQS, zQR] at *;simp only [zQ2, zQZ, zQW, zQ5, zQ0, zQT, zQV, zQR, zQ1, zQY, zQS, zQX, zQU, zo, zC] at i1;simp -implicitDefEqProofs (disch := omega) only [zg, zR5, zSw, zS3, zRW, zab, zRG, zS1, za, go_sem, *]
 · clear ih;obtain rfl : i = w.length := by omega
   simp only [zRZ, zaP, oS, zda];simp -implicitDefEqProofs (disch := omega) only [za, go_sem, *]
theorem zGT (w : List Message) (R : List Int) (hl : w.length <= 24) (hp : 0 < w.length) (h2 : zT G [] zda (oS w ([w[0].id], 1)) = some (.exit 0, ⟨[(3, .acc 37 (zy R))], [(37, .acc R.length)]⟩)) : zT G [] zda ⟨[(3, .d (.sl [])), (4, .d (.sl (w.map zg))), (5, .d (.int .i64 0))], []⟩ = some (.exit 0, ⟨[(3, .acc 37 (zy R))], [(37, .acc R.length)]⟩) := by
 have h0 := zGS w 0 hp;rw [zbj];generalize zT G [] zda = L at *;simp only [oS, zy, zQS, zQR, zQX, zQ1, zQW, zQZ] at *;simp only [zQ2, zQZ, zQW, zQ5, zQ0, zQT, zQV, zQR, zQ1, zQY, zQS, zQX, zQU, zo, zC] at h2;simp only [zda];simp -implicitDefEqProofs (disch := omega) only [zg, zy, zSw, zS3, zRW, zab, zRG, za, go_sem, *]
theorem zzn (s : Shard) (hr : zW s.ready = 0) (h1 : s.leases.l.length <= 12) : zd G zcw [.d (zj s)] [] = some (.d (.sl (zy (zaP (zG s) []))), []) := by
 have ha := zkQ hr h1;have hl := zfU hr h1;generalize zG s = w at *;clear hr h1
 by_cases hp : 0 < w.length
 · have h2 := zGU w hl ⟨[w[0].id], 1⟩ ⟨by simp only; omega, by simp, by simp⟩;have e : zaP w [] = zaP (w.drop 1) [w[0].id] := by
    cases w with
    | nil => cases hp
    | cons m w => rfl
   rw [e];simp only at h2;generalize zaP (w.drop 1) [w[0].id] = R at *;clear e;have h3 := zGT w R hl hp h2;clear h2;simp only [zj] at *;rw [ze zwT (by simp)]; simp -implicitDefEqProofs (disch := omega) only [zpB, za, go_sem, *]
 · have hw : w = [] := by cases w with
    | nil => rfl
    | cons m w => simp at hp
   subst hw;simp only [zaP];simp only [zj, zQR] at *;rw [ze zwT (by simp)]; simp -implicitDefEqProofs (disch := omega) only [zpB, zbj, zda, za, go_sem, *]
end Go.Proofs.YtfggldgdejjlnaaGreat

namespace Go.Proofs.YtfggldgdejjlnaaGreat.L
open Go Go.Sim Go.Proofs.YtfggldgdejjlnaaGreat
theorem zCC (out : List Int) (x : Int) : ∀ k, k <= out.length -> (∀ j (hj : j < out.length), atI out x k <= j -> j < k -> x < out[j]) /\ (∀ j (hj : j < out.length), j + 1 = atI out x k -> out[j] <= x) := by
 intro k
 induction k with
 | zero => intro _; exact ⟨fun j hj h1 h2 => by omega, fun j hj h => by unfold atI at h; omega⟩
 | succ k ih =>
  intro hk;have ih := ih (by omega);have e : out.getD k 0 = out[k]'(by omega) := by rw [zRl, zQ4 (by omega)]; rfl
  unfold atI
  by_cases c : x < out.getD k 0
  · rw [zQO c];refine ⟨fun j hj h1 h2 => ?_, ih.2⟩
    by_cases c2 : j = k
    · subst c2; rw [<- e]; exact c
    · exact ih.1 j hj h1 (by omega)
  · rw [zQN c];refine ⟨fun j hj h1 h2 => by omega, fun j hj h => ?_⟩;obtain rfl : j = k := by omega
    rw [<- e]; omega
theorem zG1 (out : List Int) (x : Int) : (zcJ out x).Perm (x :: out) := by
 unfold zcJ;have h := zSN (atI out x out.length) out;generalize out.take (atI out x out.length) = a at *;generalize out.drop (atI out x out.length) = b at *;rw [<- h, zRC];exact zR1
theorem zG2 {out : List Int} (h : out.Pairwise (· <= ·)) (x : Int) : (zcJ out x).Pairwise (· <= ·) := by
 obtain ⟨s1, s2⟩ := zCC out x out.length (zRd _);have hle := zpj out x out.length;have hp := zRV.1 h;unfold zcJ;generalize atI out x out.length = k at *;have ht : (out.take k).Pairwise (· <= ·) := h.sublist (zTK _ _);have hd : (out.drop k).Pairwise (· <= ·) := h.sublist (zTL _ _);have a1 : ∀ a ∈ out.take k, a <= x := by
  intro a ha;obtain ⟨j, hj, rfl⟩ := zTj.1 ha;rw [zRx] at hj;rw [zSK];have h1 := s2 (k - 1) (by omega) (by omega)
  by_cases c : j = k - 1
  · subst c; exact h1
  · exact Int.le_trans (hp j (k - 1) (by omega) (by omega) (by omega)) h1
 have a2 : ∀ b ∈ out.drop k, x <= b := by
  intro b hb;obtain ⟨j, hj, rfl⟩ := zTj.1 hb;rw [zRp] at hj;rw [zTI];have := s1 (k + j) (by omega) (by omega) (by omega);omega
 rw [zRC, zTJ];refine ⟨ht, ?_, ?_⟩
 · rw [zS2, zSi]; exact ⟨a2, hd⟩
 · intro a ha b hb
   rcases zRc.1 hb with hb | hb
   · rw [zRr.1 hb]; exact a1 a ha
   · exact Int.le_trans (a1 a ha) (a2 b hb)
theorem zsg : ∀ (w : List Message) (out : List Int), out.Pairwise (· <= ·) -> (zaP w out).Pairwise (· <= ·) /\ (zaP w out).Perm (w.map (·.id) ++ out) := by
 intro w
 induction w with
 | nil => intro out h; exact ⟨h, List.Perm.refl _⟩
 | cons m w ih =>
  intro out h;obtain ⟨i1, i2⟩ := ih (zcJ out m.id) (zG2 h m.id);refine ⟨i1, i2.trans ?_⟩;rw [zQS, zS7];exact ((zG1 out m.id).append_left _).trans zR1
theorem zOW {a b : List Int} (ha : a.Pairwise (· <= ·)) (hb : b.Pairwise (· <= ·)) (h : a.Perm b) : a = b :=
 List.Perm.eq_of_pairwise (le := fun x y => x <= y) (fun x y _ _ h1 h2 => Int.le_antisymm h1 h2) ha hb h
theorem zGV {x y : Shard} (h : ((zG y).map (·.id)).Perm ((zG x).map (·.id))) : zaP (zG y) [] = zaP (zG x) [] := by
 obtain ⟨a1, a2⟩ := zsg (zG y) [] List.Pairwise.nil;obtain ⟨b1, b2⟩ := zsg (zG x) [] List.Pairwise.nil;rw [zRG] at a2 b2;exact zOW a1 b1 (a2.trans (h.trans b2.symm))
theorem VS.ids {n h n' h' : Nat} {L L' : List Message} {t t' : Table} {lo hi lo' hi' : Int} (v : VS n h L t lo hi) (w : VS n' h' L' t' lo' hi') (p : (zbi L' t').Perm (zbi L t)) : zaP (zG (mkS n' h' L' t' lo' hi')) [] = zaP (zG (mkS n h L t lo hi)) [] := by
 refine zGV ?_;rw [v.msgs, w.msgs];simpa [zbi, zSt, Function.comp_def] using p
def zkU : Shard := ⟨true, 0, 65535, ⟨List.replicate 3 zu, 0, 0⟩, zP⟩
def awM : Message := ⟨1, 0, 0, 0, 0, 0, zu.body⟩
def zbn : Shard := ⟨true, 0, 65535, (pbD ⟨List.replicate 3 zu, 0, 0⟩ awM).1, zP⟩
theorem aw1 : zaA zkU = 0 := by decide +kernel
theorem aw2 : (zbu zbn 1 10 5 0 3).2.2 = 0 /\ (zbu zbn 1 10 5 0 3).2.1.length = 1 := by decide +kernel
theorem aw3 : hB (zbu zbn 1 10 5 0 3).1 ⟨1, 1, 0, 0⟩ 14 0 = true /\ hB (zbu zbn 1 10 5 0 3).1 ⟨1, 1, 0, 0⟩ 15 0 = false := by decide +kernel
theorem aw4 : (zez (zbu zbn 1 10 5 0 3).1 15 0 3).2.2 = 0 /\ (zez (zbu zbn 1 10 5 0 3).1 15 0 3).2.1.length = 1 := by decide +kernel
theorem aw5 : zcq (zbu zbn 1 10 5 0 3).1 := by unfold zcq; decide +kernel
theorem aw6 : zcq zbn := by unfold zcq; decide +kernel
theorem zuc (s : Shard) (h : zch) (now ep : Int) (q : zcq s) : zd G zga [.d (zj s), .d (zgJ h), .d (.int .i64 now), .d (.int .i64 ep)] [] = some (.d (.bool (hB s h now ep)), []) :=
 zB6 s h now ep (by have := q.1; omega) q.2.1 q.2.2
theorem zCG : zd G zdm [] [] = some (.d (.bool true), []) := by
 have k1 := zOT 3 (by decide) (by decide);have kp := zMA 0 65535 ⟨List.replicate 3 zu, 0, 0⟩ awM (by decide +kernel) (by decide) (by decide +kernel) (by decide) (by decide +kernel) (by decide +kernel);have k2 := zOZ zkU zbn awM 0 (by decide) (by decide) (by decide) aw1 kp;have hs := aw6;have k3 := ztM zbn 1 10 5 0 3 (by have := hs.1; omega) (by have := hs.2.1; omega) (by have := hs.2.2; omega);have h2 := aw5;have k4 := zuc (zbu zbn 1 10 5 0 3).1 ⟨1, 1, 0, 0⟩ 14 0 h2;have k5 := zuc (zbu zbn 1 10 5 0 3).1 ⟨1, 1, 0, 0⟩ 15 0 h2;have k6 := zET (zbu zbn 1 10 5 0 3).1 15 0 3 (by have := h2.1; omega) (by have := h2.2.1; omega) (by have := h2.2.2; omega);rw [aw3.1] at k4;rw [aw3.2] at k5;rw [aw2.1] at k3;rw [aw4.1] at k6;have l1 := aw2.2;have l2 := aw4.2;generalize (zez (zbu zbn 1 10 5 0 3).1 15 0 3).2.1 = g2 at *;generalize (zez (zbu zbn 1 10 5 0 3).1 15 0 3).1 = g1 at *;generalize (zbu zbn 1 10 5 0 3).2.1 = g4 at *;generalize (zbu zbn 1 10 5 0 3).1 = g3 at *;generalize zbn = g5 at *;clear kp hs h2;change zd G zdn _ _ = some (.d (.tup [zj zkU, _]), []) at k1;generalize zkU = g6 at *;simp only [zj, zgJ, zg, awM, zu, zQ0] at *;rw [ze zwS (by simp)]; simp -implicitDefEqProofs (disch := omega) only [zuT, za, go_sem, *]; (try simp only [pA, pB, pC, pD, pE, pF, pG, pH, pI, pJ, pK, pL, pM, pN, pO, pP, if_true, if_false]); repeat' (first | done | rfl | ((first | refine zK (fun hq => ?_) (fun hq => ?_) | refine zM (fun hq => ?_) (fun hq => ?_)) <;> (try (first | (exfalso; omega) | contradiction)) <;> (try simp -implicitDefEqProofs (disch := omega) only [za, go_sem, *]) <;> (try simp only [pA, pB, pC, pD, pE, pF, pG, pH, pI, pJ, pK, pL, pM, pN, pO, pP, if_true, if_false]))); (all_goals try rfl); (all_goals try (repeat' (first | done | rfl | (exfalso; omega) | contradiction | (refine zN (fun hq => ?_) (fun hq => ?_)))))
end Go.Proofs.YtfggldgdejjlnaaGreat.L

namespace Go.Proofs.YtfggldgdejjlnaaGreat.L2
open Go Go.Sim Go.Proofs.YtfggldgdejjlnaaGreat Go.Proofs.YtfggldgdejjlnaaGreat.L
def hvS (x a b : Shard) (mid : Int) (w : List Message) (i : Nat) : St := ⟨[(4, .ref 4 0 0), (5, .d (.int .i64 mid)), (6, .ref 6 0 0), (7, .ref 7 0 0), (9, .d (.sl (w.map zg))), (10, .d (.int .i64 i))], [(4, .row [.d (zj x)]), (6, .row [.d (zj a)]), (7, .row [.d (zj b)])]⟩
theorem zGy (x a b : Shard) (mid : Int) (w : List Message) (hw : w.length <= 24) (ra : zW a.ready = 0) (rb : zW b.ready = 0) (la : a.leases.l.length <= 12) (lb : b.leases.l.length <= 12)
    (H : ∀ m ∈ w, decide (0 <= z5 (zG a) m.id) = decide (m.route <= mid) /\ decide (0 <= z5 (zG b) m.id) = !decide (m.route <= mid)) : ∀ i : Nat, i <= w.length -> zT G [] zj0 (hvS x a b mid w i) = some (.exit 0, ⟨[(4, .ref 4 0 0), (6, .ref 6 0 0), (7, .ref 7 0 0)], [(4, .row [.d (zj x)]), (6, .row [.d (zj a)]), (7, .row [.d (zj b)])]⟩) := by
 have k1 := up_ref07_All.trans (L.up_ref07_All.trans (zkQ ra la));have k2 := up_ref07_All.trans (L.up_ref07_All.trans (zkQ rb lb));have n1 := zfU ra la;have n2 := zfU rb lb;have k3 := fun id => up_ref03_Index.trans (L.up_ref03_Index.trans (znz (zG a) id (by omega)));have k4 := fun id => up_ref03_Index.trans (L.up_ref03_Index.trans (znz (zG b) id (by omega)));refine zap (fun i => w.length - i) (fun i => i <= w.length) (hvS x a b mid w) (fun _ => _) fun i hi L ih => ?_
 by_cases h0 : i < w.length
 · have i1 := ih (i + 1) (by omega) (by omega);clear ih;obtain ⟨h1, h2⟩ := H w[i] (zRe h0);replace k3 := k3 w[i].id;replace k4 := k4 w[i].id;clear H ra rb;generalize z5 (zG a) w[i].id = f1 at *;generalize z5 (zG b) w[i].id = f2 at *
   by_cases c : w[i].route <= mid
   · have c1 : 0 <= f1 := by simpa [c] using h1
     have c2 : ¬ 0 <= f2 := by simpa [c] using h2
     clear h1 h2;simp only [hvS, zj0] at *;simp only [zj] at *;simp only [zQ2, zQZ, zQW, zQ5, zQ0, zQT, zQV, zQR, zQ1, zQY, zQS, zQX, zQU, zo, zC] at i1
     (try simp -implicitDefEqProofs (disch := omega) only [zg, za, go_sem, *]); (try simp only [pA, pB, pC, pD, pE, pF, pG, pH, pI, pJ, pK, pL, pM, pN, pO, pP, if_true, if_false]); repeat' (first | done | rfl | ((first | refine zK (fun hq => ?_) (fun hq => ?_) | refine zM (fun hq => ?_) (fun hq => ?_)) <;> (try (first | (exfalso; omega) | contradiction)) <;> (try simp -implicitDefEqProofs (disch := omega) only [zg, za, go_sem, *]) <;> (try simp only [pA, pB, pC, pD, pE, pF, pG, pH, pI, pJ, pK, pL, pM, pN, pO, pP, if_true, if_false]))); (all_goals try rfl); (all_goals try (repeat' (first | done | rfl | (exfalso; omega) | contradiction | (refine zN (fun hq => ?_) (fun hq => ?_)))))
   · have c1 : ¬ 0 <= f1 := by simpa [c] using h1
     have c2 : 0 <= f2 := by simpa [c] using h2
     clear h1 h2;simp only [hvS, zj0] at *;simp only [zj] at *;simp only [zQ2, zQZ, zQW, zQ5, zQ0, zQT, zQV, zQR, zQ1, zQY, zQS, zQX, zQU, zo, zC] at i1
     (try simp -implicitDefEqProofs (disch := omega) only [zg, za, go_sem, *]); (try simp only [pA, pB, pC, pD, pE, pF, pG, pH, pI, pJ, pK, pL, pM, pN, pO, pP, if_true, if_false]); repeat' (first | done | rfl | ((first | refine zK (fun hq => ?_) (fun hq => ?_) | refine zM (fun hq => ?_) (fun hq => ?_)) <;> (try (first | (exfalso; omega) | contradiction)) <;> (try simp -implicitDefEqProofs (disch := omega) only [zg, za, go_sem, *]) <;> (try simp only [pA, pB, pC, pD, pE, pF, pG, pH, pI, pJ, pK, pL, pM, pN, pO, pP, if_true, if_false]))); (all_goals try rfl); (all_goals try (repeat' (first | done | rfl | (exfalso; omega) | contradiction | (refine zN (fun hq => ?_) (fun hq => ?_)))))
 · obtain rfl : i = w.length := by omega
   clear ih H;simp only [hvS, zj0]
   (try simp -implicitDefEqProofs (disch := omega) only [za, go_sem, *]); (try simp only [pA, pB, pC, pD, pE, pF, pG, pH, pI, pJ, pK, pL, pM, pN, pO, pP, if_true, if_false]); repeat' (first | done | rfl | ((first | refine zK (fun hq => ?_) (fun hq => ?_) | refine zM (fun hq => ?_) (fun hq => ?_)) <;> (try (first | (exfalso; omega) | contradiction)) <;> (try simp -implicitDefEqProofs (disch := omega) only [za, go_sem, *]) <;> (try simp only [pA, pB, pC, pD, pE, pF, pG, pH, pI, pJ, pK, pL, pM, pN, pO, pP, if_true, if_false]))); (all_goals try rfl); (all_goals try (repeat' (first | done | rfl | (exfalso; omega) | contradiction | (refine zN (fun hq => ?_) (fun hq => ?_)))))
def hwS (x a b y : Shard) (i : Nat) : St := ⟨[(4, .ref 4 0 0), (6, .ref 6 0 0), (7, .ref 7 0 0), (13, .ref 13 0 0), (15, .d (.int .i64 i))], [(4, .row [.d (zj x)]), (6, .row [.d (zj a)]), (7, .row [.d (zj b)]), (13, .row [.d (zj y)])]⟩
theorem zGz (x a b y : Shard) (hl : x.leases.l.length <= 12) (e : y.leases.l = x.leases.l) : ∀ i : Nat, i <= x.leases.l.length -> zT G [] znI (hwS x a b y i) = some (.exit 2, ⟨[(4, .ref 4 0 0), (6, .ref 6 0 0), (7, .ref 7 0 0)], [(4, .row [.d (zj x)]), (6, .row [.d (zj a)]), (7, .row [.d (zj b)])]⟩) := by
 refine zap (fun i => x.leases.l.length - i) (fun i => i <= x.leases.l.length) (hwS x a b y) (fun _ => _) fun i hi L ih => ?_;obtain ⟨xl, xlo, xhi, xr, ⟨tl, th⟩⟩ := x;obtain ⟨yl, ylo, yhi, yr, ⟨tl2, th2⟩⟩ := y;simp only at e hl hi ih ⊢;subst e
 by_cases h0 : i < tl2.length
 · have i1 := ih (i + 1) (by omega) (by omega);clear ih;simp only [hwS, znI] at *;simp only [zj] at *;simp only [zQ2, zQZ, zQW, zQ5, zQ0, zQT, zQV, zQR, zQ1, zQY, zQS, zQX, zQU, zo, zC] at i1
   (try simp -implicitDefEqProofs (disch := omega) only [zt, za, go_sem, *]); (try simp only [pA, pB, pC, pD, pE, pF, pG, pH, pI, pJ, pK, pL, pM, pN, pO, pP, if_true, if_false]); repeat' (first | done | rfl | ((first | refine zK (fun hq => ?_) (fun hq => ?_) | refine zM (fun hq => ?_) (fun hq => ?_)) <;> (try (first | (exfalso; omega) | contradiction)) <;> (try simp -implicitDefEqProofs (disch := omega) only [zt, za, go_sem, *]) <;> (try simp only [pA, pB, pC, pD, pE, pF, pG, pH, pI, pJ, pK, pL, pM, pN, pO, pP, if_true, if_false]))); (all_goals try rfl); (all_goals try (repeat' (first | done | rfl | (exfalso; omega) | contradiction | (refine zN (fun hq => ?_) (fun hq => ?_)))))
 · obtain rfl : i = tl2.length := by omega
   clear ih;simp only [hwS, znI, zj]
   (try simp -implicitDefEqProofs (disch := omega) only [za, go_sem, *]); (try simp only [pA, pB, pC, pD, pE, pF, pG, pH, pI, pJ, pK, pL, pM, pN, pO, pP, if_true, if_false]); repeat' (first | done | rfl | ((first | refine zK (fun hq => ?_) (fun hq => ?_) | refine zM (fun hq => ?_) (fun hq => ?_)) <;> (try (first | (exfalso; omega) | contradiction)) <;> (try simp -implicitDefEqProofs (disch := omega) only [za, go_sem, *]) <;> (try simp only [pA, pB, pC, pD, pE, pF, pG, pH, pI, pJ, pK, pL, pM, pN, pO, pP, if_true, if_false]))); (all_goals try rfl); (all_goals try (repeat' (first | done | rfl | (exfalso; omega) | contradiction | (refine zN (fun hq => ?_) (fun hq => ?_)))))
theorem zBm {x : Shard} (h : zaG x = 0) : zW x.ready = 0 := by
 unfold zaG at h
 split at h
 · rename_i c; exact absurd h c
 · rename_i c; exact zRm.1 c
theorem zow {x : Shard} (h : zaG x = 0) : zcq x := by
 have h1 := zBm h;refine ⟨(zba h1).2.1, zeY ?_⟩;unfold zaG at h;rw [zQN (fun c => c h1)] at h
 split at h
 · rename_i c; exact absurd h c
 · rename_i c; exact zRm.1 c
theorem halves_ok (l : List Int) (hL : l.length <= LIM) : zd G zf2 [.d (.sl (zy l))] [] = some (.d (.bool true), []) := by
 have hnew := up_base_New.trans (L.up_base_New.trans (zIO l hL));have hl4 : (l.take 4000).length <= 4000 := by simp; omega
 obtain ⟨x, a1, hx, q1⟩ := zOF (l.take 4000) 0 hl4;obtain ⟨mid, a2, q2, m1, m2⟩ := ztj (l.take 4000) a1 [0, 100, 20000, 32768, 40000] 0 40000 hl4 (by simp) (by simp) (by simp);replace q1 := up_base_Src_Shard.trans (L.up_base_Src_Shard.trans q1);replace q2 := up_base_Src_Pick.trans (L.up_base_Src_Pick.trans q2);have haw := zBK.trans zCG;replace hx := hx.1;have hr := zBm hx;have hq := zow hx;generalize l.take 4000 = l4 at *;clear hL hl4
 by_cases c1 : x.live = true
 · have hlv : zaA x = 0 := by unfold zaA; rw [zQN (fun q => q hx), zQO c1]
   obtain ⟨n, h, e, v⟩ := zPZ hx c1
   by_cases c2 : x.low <= mid /\ mid < x.high
   · obtain ⟨La, Lb, ta, tb, ty, p1, va, p2, vb, p3, vy, ety, len1, len2, hid, hne, hH⟩ := v.halves c2.1 c2.2;have hdv := zD3 x (mkS n 0 La ta x.low mid) (mkS n 0 Lb tb (mid + 1) x.high) mid hq hlv hr c2 v.2.2.2.2.1 v.2.2.2.2.2.2.1 (by rw [<- e] at p1; exact p1) (by rw [<- e] at p2; exact p2);have oa : zw (mkS n 0 La ta x.low mid).ready = La := va.ord;have ob : zw (mkS n 0 Lb tb (mid + 1) x.high).ready = Lb := vb.ord;have ra : zW (mkS n 0 La ta x.low mid).ready = 0 := va.ring;have rb : zW (mkS n 0 Lb tb (mid + 1) x.high).ready = 0 := vb.ring;have ka := zow va.val;have kb := zow vb.val;have ky := zow vy.val;have lva : zaA (mkS n 0 La ta x.low mid) = 0 := by unfold zaA; rw [zQN (fun q => q va.val)]; rfl
     have lvb : zaA (mkS n 0 Lb tb (mid + 1) x.high) = 0 := by unfold zaA; rw [zQN (fun q => q vb.val)]; rfl
     have hun := zPF (mkS n 0 La ta x.low mid) (mkS n 0 Lb tb (mid + 1) x.high) (mkS n 0 (La ++ Lb) ty x.low x.high) ka kb lva lvb va.val vb.val ra rb rfl ⟨v.2.2.2.2.1, c2.1, by show mid + 1 <= x.high; omega, v.2.2.2.2.2.2.1⟩
      (by
       have w := v.2.2.2.1;have s1 : (mkS n 0 La ta x.low mid).ready.size = La.length := rfl;have s2 : (mkS n 0 Lb tb (mid + 1) x.high).ready.size = Lb.length := rfl;have s3 : (mkS n 0 La ta x.low mid).ready.cells.length = n := zeS n 0 La;have s4 : (mkS n 0 La ta x.low mid).leases = ta := rfl;have s5 : (mkS n 0 Lb tb (mid + 1) x.high).leases = tb := rfl;rw [s1, s2, s3, s4, s5]; omega)
      (by
       rw [zR8];intro m hm;rw [zR9];rintro ⟨y, hy, q⟩;exact hne m hm y hy (of_decide_eq_true q).symm)
      (by rw [ob]; exact p3)
     have hall := up_ref07_All.trans (L.up_ref07_All.trans (zkQ hr hq.2.1));have hml := zfU hr hq.2.1;have hl1 := zGy x (mkS n 0 La ta x.low mid) (mkS n 0 Lb tb (mid + 1) x.high) mid (zG x) hml ra rb ka.2.1 kb.2.1 (by rw [<- e] at hH; exact hH) 0 (zSa _);have hl2 := zGz x (mkS n 0 La ta x.low mid) (mkS n 0 Lb tb (mid + 1) x.high) (mkS n 0 (La ++ Lb) ty x.low x.high) hq.2.1 ety 0 (zSa _);have i1 := up_law07_ids.trans (L.up_law07_ids.trans (zzn x hr hq.2.1));have i2 := up_law07_ids.trans (L.up_law07_ids.trans (zzn (mkS n 0 (La ++ Lb) ty x.low x.high) vy.ring ky.2.1));have ide : zaP (zG (mkS n 0 (La ++ Lb) ty x.low x.high)) [] = zaP (zG x) [] := by rw [v.ids vy hid, <- e]
     rw [ide] at i2;have idl : (zaP (zG x) []).length <= 1000 := by
      have := (zsg (zG x) [] List.Pairwise.nil).2.length_eq;simp at this; omega
     have i3 := up_ref05_SameInts.trans (L.up_ref05_SameInts.trans (zOw (zaP (zG x) []) (zaP (zG x) []) idl));have st1 := zoO.trans (zo5 x (by have := hq.1; omega) (by have := hq.2.1; omega) (by have := hq.2.2; omega));have st2 := zoO.trans (zo5 (mkS n 0 La ta x.low mid) (by have := ka.1; omega) (by have := ka.2.1; omega) (by have := ka.2.2; omega));have st3 := zoO.trans (zo5 (mkS n 0 Lb tb (mid + 1) x.high) (by have := kb.1; omega) (by have := kb.2.1; omega) (by have := kb.2.2; omega));have z1 : zef x = (zw x.ready).length + x.leases.l.length := by
      have := v.stor; rw [<- e] at this; exact this
     rw [z1] at st1;rw [va.stor] at st2;rw [vb.stor] at st3;have yl : (mkS n 0 (La ++ Lb) ty x.low x.high).leases.l.length = x.leases.l.length := by show ty.l.length = _; rw [ety]
     have z2 : ((zw x.ready).length : Int) + x.leases.l.length = ((La.length : Int) + ta.l.length) + (Lb.length + tb.l.length) := by omega
     have z3 : (La.length : Int) <= 12 /\ (Lb.length : Int) <= 12 /\ (ta.l.length : Int) <= 12 /\ (tb.l.length : Int) <= 12 := by
      have w := v.2.2.2.1;have := v.2.1;omega
     rw [z2] at st1;have hyl : (mkS n 0 (La ++ Lb) ty x.low x.high).low = x.low := rfl;have hyh : (mkS n 0 (La ++ Lb) ty x.low x.high).high = x.high := rfl;clear z1 z2 hH hid hne len1 len2 p1 p2 p3 va vb vy v e ra rb ka kb ky lva lvb oa ob ide idl hr hq hx hlv ety;generalize mkS n 0 La ta x.low mid = A at *;generalize mkS n 0 Lb tb (mid + 1) x.high = B at *;generalize mkS n 0 (La ++ Lb) ty x.low x.high = Y at *;generalize zG x = w at *;generalize zaP w [] = iw at *;simp only [hvS, hwS, zQW, decide_true] at hl1 hl2 i3;simp only [zy, zQS, zQR] at q2;obtain ⟨lv, xlo, xhi, xr, xt⟩ := x;obtain ⟨yv, ylo, yhi, yr, yt⟩ := Y;simp only at c1 hyl hyh;subst c1 hyl hyh;simp only [zj, zo, zQW] at *;rw [ze zgP (by simp)]; simp -implicitDefEqProofs (disch := omega) only [zgt, za, go_sem, *]; (try simp only [pA, pB, pC, pD, pE, pF, pG, pH, pI, pJ, pK, pL, pM, pN, pO, pP, if_true, if_false]); repeat' (first | done | rfl | ((first | refine zK (fun hq => ?_) (fun hq => ?_) | refine zM (fun hq => ?_) (fun hq => ?_)) <;> (try (first | (exfalso; omega) | contradiction)) <;> (try simp -implicitDefEqProofs (disch := omega) only [za, go_sem, *]) <;> (try simp only [pA, pB, pC, pD, pE, pF, pG, pH, pI, pJ, pK, pL, pM, pN, pO, pP, if_true, if_false]))); (all_goals try rfl); (all_goals try (repeat' (first | done | rfl | (exfalso; omega) | contradiction | (refine zN (fun hq => ?_) (fun hq => ?_)))))
   · have hdv := zD4 x mid hq hlv (by omega);clear hr hq hx hlv v e;simp only [zy, zQS, zQR] at q2;obtain ⟨lv, xlo, xhi, xr, xt⟩ := x;simp only at c1;subst c1;simp only [zj, zo, zam, zQR, zQW] at *
     by_cases c3 : mid < xlo
     · rw [ze zgP (by simp)]; simp -implicitDefEqProofs (disch := omega) only [zgt, za, go_sem, *]; (try simp only [pA, pB, pC, pD, pE, pF, pG, pH, pI, pJ, pK, pL, pM, pN, pO, pP, if_true, if_false]); repeat' (first | done | rfl | ((first | refine zK (fun hq => ?_) (fun hq => ?_) | refine zM (fun hq => ?_) (fun hq => ?_)) <;> (try (first | (exfalso; omega) | contradiction)) <;> (try simp -implicitDefEqProofs (disch := omega) only [za, go_sem, *]) <;> (try simp only [pA, pB, pC, pD, pE, pF, pG, pH, pI, pJ, pK, pL, pM, pN, pO, pP, if_true, if_false]))); (all_goals try rfl); (all_goals try (repeat' (first | done | rfl | (exfalso; omega) | contradiction | (refine zN (fun hq => ?_) (fun hq => ?_)))))
     · have c4 : xhi <= mid := by omega
       rw [ze zgP (by simp)]; simp -implicitDefEqProofs (disch := omega) only [zgt, za, go_sem, *]; (try simp only [pA, pB, pC, pD, pE, pF, pG, pH, pI, pJ, pK, pL, pM, pN, pO, pP, if_true, if_false]); repeat' (first | done | rfl | ((first | refine zK (fun hq => ?_) (fun hq => ?_) | refine zM (fun hq => ?_) (fun hq => ?_)) <;> (try (first | (exfalso; omega) | contradiction)) <;> (try simp -implicitDefEqProofs (disch := omega) only [za, go_sem, *]) <;> (try simp only [pA, pB, pC, pD, pE, pF, pG, pH, pI, pJ, pK, pL, pM, pN, pO, pP, if_true, if_false]))); (all_goals try rfl); (all_goals try (repeat' (first | done | rfl | (exfalso; omega) | contradiction | (refine zN (fun hq => ?_) (fun hq => ?_)))))
 · have c1 : x.live = false := by simpa using c1
   have hlv : zaA x = 7 := by unfold zaA; rw [zQN (fun q => q hx), c1]; rfl
   have hdv := zD2 x mid hq (by rw [hlv]; decide);rw [hlv] at hdv;clear hr hq hx hlv;simp only [zy, zQS, zQR] at q2;obtain ⟨lv, xlo, xhi, xr, xt⟩ := x;simp only at c1;subst c1;simp only [zj, zo, zam, zQR, zQW] at *;rw [ze zgP (by simp)]; simp -implicitDefEqProofs (disch := omega) only [zgt, za, go_sem, *]; (try simp only [pA, pB, pC, pD, pE, pF, pG, pH, pI, pJ, pK, pL, pM, pN, pO, pP, if_true, if_false]); repeat' (first | done | rfl | ((first | refine zK (fun hq => ?_) (fun hq => ?_) | refine zM (fun hq => ?_) (fun hq => ?_)) <;> (try (first | (exfalso; omega) | contradiction)) <;> (try simp -implicitDefEqProofs (disch := omega) only [za, go_sem, *]) <;> (try simp only [pA, pB, pC, pD, pE, pF, pG, pH, pI, pJ, pK, pL, pM, pN, pO, pP, if_true, if_false]))); (all_goals try rfl); (all_goals try (repeat' (first | done | rfl | (exfalso; omega) | contradiction | (refine zN (fun hq => ?_) (fun hq => ?_)))))
end Go.Proofs.YtfggldgdejjlnaaGreat.L2
