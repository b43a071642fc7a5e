/-
  A list that was just made, handed back as a row that can be .
-/
import Derived.Test.YtfggldgdejjlnaaGreatBe69a26c
import Derived.Test.YtfggldgdejjlnaaGreatB82acc28
import Derived.Test.YtfggldgdejjlnaaGreatB4ae5fa5
set_option linter.unusedSimpArgs false
set_option linter.unusedVariables false
set_option maxHeartbeats 10000000
set_option maxRecDepth 100000
namespace Go.Proofs.YtfggldgdejjlnaaGreat
open Go Go.Sim
theorem zzR (n : Int) : zd G ze6 [.d (.int .i64 n)] [] = some (.d (.bool (decide (0 <= n /\ n <= 1073741824))), []) := by
 by_cases h : 0 <= n
 · by_cases h2 : n <= 1073741824
   · rw [zRA ⟨h, h2⟩];rw [ze zrd (by simp)]; simp -implicitDefEqProofs (disch := omega) only [zk1, za, go_sem, *]
   · rw [zRw (by omega)];rw [ze zrd (by simp)]; simp -implicitDefEqProofs (disch := omega) only [zk1, za, go_sem, *]
 · rw [zRw (by omega)];rw [ze zrd (by simp)]; simp -implicitDefEqProofs (disch := omega) only [zk1, za, go_sem, *]
def zbp (l : List Lease) (i : Nat) : Int :=
 if zD (l.getD i zax).msg ≠ 0 then zD (l.getD i zax).msg
 else if (l.getD i zax).msg.gen = 0 then 7
 else if (l.getD i zax).deadline < 0 \/ 1073741824 < (l.getD i zax).deadline then 1
 else if 0 < i /\ (l.getD i zax).msg.id <= (l.getD (i - 1) zax).msg.id then 11 else 0
def zb9 (l : List Lease) (i : Nat) : Bool := decide (zbp l i ≠ 0)
def obT (o : Nat) (t : Table) : Nat × Go.Sim.Obj := (o, .row [.d (zO t)])
theorem zIg (t : Table) (hL : t.l.length <= 12) : zT G [] zst ⟨[(1, .ref 1 0 0), (12, .d (.sl (t.l.map zt))), (13, .d (.int .i64 t.l.length)), (14, .d (.int .i64 0))], [obT 1 t]⟩ = some (zd2 t.l.length (zb9 t.l) (fun k => (.ret, ⟨[(2, .d (.int .i64 (zbp t.l k)))], []⟩)) (.exit 0, ⟨[(1, .ref 1 0 0)], [obT 1 t]⟩)) := by
 refine zdJ (G := G) t.l.length (zb9 t.l) (fun k => ⟨[(1, .ref 1 0 0), (12, .d (.sl (t.l.map zt))), (13, .d (.int .i64 t.l.length)), (14, .d (.int .i64 k))], [obT 1 t]⟩) _ _ fun k hk L => ?_;simp only [zst, obT]
 by_cases h0 : k < t.l.length
 · rw [zQO h0];have hm := zhd t.l[k].msg;have ht := zzR t.l[k].deadline;simp only [zg] at hm;unfold zb9 zbp;rw [za h0]
   by_cases c1 : zD t.l[k].msg = 0
   · rw [c1] at hm;simp only [c1, ne_eq, zRf, if_false]
     by_cases c2 : t.l[k].msg.gen = 0
     · simp only [c2, if_true, show ((7 : Int) = 0) = False by simp, zRh, decide_true];clear ht;rw [c2] at hm;simp -implicitDefEqProofs (disch := omega) only [za, go_sem, *]
     · simp only [c2, if_false]
       by_cases c3 : t.l[k].deadline < 0 \/ 1073741824 < t.l[k].deadline
       · rw [zRw (by omega)] at ht;simp only [c3, if_true, show ((1 : Int) = 0) = False by simp, zRh, decide_true];simp -implicitDefEqProofs (disch := omega) only [za, go_sem, *]
       · rw [zRA (by omega)] at ht;simp only [c3, if_false]
         by_cases c4 : 0 < k
         · have hk1 : k - 1 < t.l.length := by omega
           have e1 : (k : Int) - 1 = ((k - 1 : Nat) : Int) := by omega
           rw [za hk1]
           by_cases c5 : t.l[k].msg.id <= t.l[k - 1].msg.id
           · simp only [c4, c5, zSd, if_true, show ((11 : Int) = 0) = False by simp, zRh, decide_true];simp -implicitDefEqProofs (disch := omega) only [za, go_sem, *]
           · simp only [c4, c5, zS4, if_false, zRf, decide_false, zRa];simp -implicitDefEqProofs (disch := omega) only [za, go_sem, *]
         · simp only [c4, zS5, if_false, zRf, decide_false, zRa];simp -implicitDefEqProofs (disch := omega) only [za, go_sem, *]
   · simp only [c1, ne_eq, zRh, if_true, decide_true];clear ht;simp -implicitDefEqProofs (disch := omega) only [za, go_sem, *]
 · rw [zQN h0];simp -implicitDefEqProofs (disch := omega) only [za, go_sem, *]
theorem zM4 (t : Table) (hL : t.l.length <= 12) : zT G [] zsF ⟨[(1, .ref 1 0 0), (3, .d (.int .i64 0))], [obT 1 t]⟩ = some (zd2 t.l.length (zb9 t.l) (fun k => (.ret, ⟨[(2, .d (.int .i64 (zbp t.l k)))], []⟩)) (.exit 0, ⟨[(1, .ref 1 0 0)], [obT 1 t]⟩)) := by
 refine zdJ (G := G) t.l.length (zb9 t.l) (fun k => ⟨[(1, .ref 1 0 0), (3, .d (.int .i64 k))], [obT 1 t]⟩) _ _ fun k hk L => ?_;simp only [zsF, obT]
 by_cases h0 : k < t.l.length
 · rw [zQO h0];have hm := zoh t.l[k].msg;simp only [zg] at hm;unfold zb9 zbp;rw [za h0]
   by_cases c1 : zD t.l[k].msg = 0
   · rw [c1] at hm;simp only [c1, ne_eq, zRf, if_false]
     by_cases c2 : t.l[k].msg.gen = 0
     · simp only [c2, if_true, show ((7 : Int) = 0) = False by simp, zRh, decide_true];rw [c2] at hm;simp -implicitDefEqProofs (disch := omega) only [za, go_sem, *]
     · simp only [c2, if_false]
       by_cases c3 : t.l[k].deadline < 0 \/ 1073741824 < t.l[k].deadline
       · skip;simp only [c3, if_true, show ((1 : Int) = 0) = False by simp, zRh, decide_true]
         (try simp -implicitDefEqProofs (disch := omega) only [za, go_sem, *]); (try simp only [pA, pB, pC, pD, pE, pF, pG, pH, pI, pJ, pK, pL, pM, pN, pO, pP, if_true, if_false]); repeat' (first | done | rfl | ((first | refine zK (fun hq => ?_) (fun hq => ?_) | refine zM (fun hq => ?_) (fun hq => ?_)) <;> (try (first | (exfalso; omega) | contradiction)) <;> (try simp -implicitDefEqProofs (disch := omega) only [za, go_sem, *]) <;> (try simp only [pA, pB, pC, pD, pE, pF, pG, pH, pI, pJ, pK, pL, pM, pN, pO, pP, if_true, if_false]))); (all_goals try rfl); (all_goals try (repeat' (first | done | rfl | (exfalso; omega) | contradiction | (refine zN (fun hq => ?_) (fun hq => ?_)))))
       · skip;simp only [c3, if_false]
         by_cases c4 : 0 < k
         · have hk1 : k - 1 < t.l.length := by omega
           have e1 : (k : Int) - 1 = ((k - 1 : Nat) : Int) := by omega
           rw [za hk1]
           by_cases c5 : t.l[k].msg.id <= t.l[k - 1].msg.id
           · simp only [c4, c5, zSd, if_true, show ((11 : Int) = 0) = False by simp, zRh, decide_true];simp -implicitDefEqProofs (disch := omega) only [za, go_sem, *]
           · simp only [c4, c5, zS4, if_false, zRf, decide_false, zRa];simp -implicitDefEqProofs (disch := omega) only [za, go_sem, *]
         · simp only [c4, zS5, if_false, zRf, decide_false, zRa];simp -implicitDefEqProofs (disch := omega) only [za, go_sem, *]
   · simp only [c1, ne_eq, zRh, if_true, decide_true];simp -implicitDefEqProofs (disch := omega) only [za, go_sem, *]
 · rw [zQN h0];simp -implicitDefEqProofs (disch := omega) only [za, go_sem, *]
theorem zOH (h : List Due) (d : Due) (hL : h.length <= 4294967296) : zd G ziT [.d (.sl (h.map eD)), .d (eD d)] [] = some (.d (.int .i64 (zU (fun x => decide (x = d)) h)), []) := by
 have hl := zdJ (G := G) (x := zsL) (ks := []) h.length (atB h fun x => decide (x = d)) (fun k => ⟨[(0, .d (.sl (h.map eD))), (3, .ref 3 0 0), (7, .d (.int .i64 h.length)), (8, .d (.int .i64 k))], [(3, .row [.d (eD d)])]⟩) (fun k => (.ret, ⟨[(4, .d (.int .i64 k))], []⟩)) (.exit 0, ⟨[], []⟩) (fun k hk L => by
  simp only [zsL]
  by_cases h0 : k < h.length
  · simp only [h0, if_true, zb3 h0];have e : decide (h[k] = d) = (decide (h[k].1 = d.1) && decide (h[k].2 = d.2)) := by
     rw [<- Bool.decide_and]
     congr 1
     exact propext ⟨fun e => by rw [e]; exact ⟨rfl, rfl⟩, fun ⟨a, b⟩ => Prod.ext a b⟩
    rw [e];clear e
    by_cases q1 : h[k].1 = d.1
    · by_cases q2 : h[k].2 = d.2
      · simp only [q1, q2, decide_true, zTn, if_true];simp only [eD];simp -implicitDefEqProofs (disch := omega) only [eD, za, go_sem, *]
      · simp only [q1, q2, decide_true, decide_false, Bool.and_false, zRa, if_false];simp only [eD];simp -implicitDefEqProofs (disch := omega) only [eD, za, go_sem, *]
    · simp only [q1, decide_false, zSA, zRa, if_false];simp only [eD];simp -implicitDefEqProofs (disch := omega) only [eD, za, go_sem, *]
  · simp -implicitDefEqProofs (disch := omega) only [za, go_sem, *])
 rw [zeF] at hl;simp only [zQ2, zQZ, zQW, zQ5, zQ0, zQT, zQV, zQR, zQ1, zQY, zQS, zQX, zQU, zo, zC] at hl;unfold zU
 cases hf : h.findIdx? (fun x => decide (x = d)) with
 | none => rw [hf] at hl; clear hf; rw [ze zry (by simp)]; simp -implicitDefEqProofs (disch := omega) only [zlk, za, go_sem, *]
 | some i => rw [hf] at hl; clear hf; rw [ze zry (by simp)]; simp -implicitDefEqProofs (disch := omega) only [zlk, za, go_sem, *]
theorem zOx (h : List Due) (d : Due) (hL : h.length <= 4294967296) : zd G ziP [.d (.sl (h.map eD)), .d (eD d)] [] = some (.d (.bool (h.any fun x => decide (x = d))), []) := by
 have hi := zOH h d hL;rw [<- zjT];rw [ze zxx (by simp)]; simp -implicitDefEqProofs (disch := omega) only [zvH, za, go_sem, *]
def zB (l : List Lease) (id : Int) : Int := zU (fun x => decide (x.msg.id = id)) l
theorem zAP (t : Table) (id : Int) (hL : t.l.length <= 4294967296) : zd G zit [.d (zO t), .d (.int .i64 id)] [] = some (.d (.int .i64 (zB t.l id)), []) := by
 have hl := zdJ (G := G) (x := zsG) (ks := []) t.l.length (atB t.l fun x => decide (x.msg.id = id)) (fun k => ⟨[(1, .d (.int .i64 id)), (2, .ref 2 0 0), (5, .d (.int .i64 k))], [obT 2 t]⟩) (fun k => (.ret, ⟨[(4, .d (.int .i64 k))], []⟩)) (.exit 0, ⟨[], []⟩) (fun k hk L => by
  simp only [zsG, obT]
  by_cases h0 : k < t.l.length
  · simp only [h0, if_true, zb3 h0];simp -implicitDefEqProofs (disch := omega) only [za, go_sem, *]
  · simp -implicitDefEqProofs (disch := omega) only [za, go_sem, *])
 rw [zeF] at hl;simp only [obT] at hl;simp only [zQ2, zQZ, zQW, zQ5, zQ0, zQT, zQV, zQR, zQ1, zQY, zQS, zQX, zQU, zo, zC] at hl;unfold zB zU
 cases hf : t.l.findIdx? (fun x => decide (x.msg.id = id)) with
 | none => rw [hf] at hl; clear hf; rw [ze zxd (by simp)]; simp -implicitDefEqProofs (disch := omega) only [zpF, za, go_sem, *]
 | some i => rw [hf] at hl; clear hf; rw [ze zxd (by simp)]; simp -implicitDefEqProofs (disch := omega) only [zpF, za, go_sem, *]
def zdd (t : Table) : Bool := decide (t.heap.length = t.l.length) && t.l.all fun x => t.heap.any fun d => decide (d = (x.deadline, x.msg.id))
theorem zIs (t : Table) (hL : t.l.length <= 4294967296) (hH : t.heap.length <= 4294967296) : zd G zh2 [.d (zO t)] [] = some (.d (.bool (zdd t)), []) := by
 unfold zdd
 by_cases c : t.heap.length = t.l.length
 · rw [zRA c];have hl := zsX (G := G) (x := zsu) (ks := []) t.l.length (atB t.l fun x => t.heap.any fun d => decide (d = (x.deadline, x.msg.id))) (fun k => ⟨[(1, .ref 1 0 0), (13, .d (.sl (t.l.map zt))), (14, .d (.int .i64 t.l.length)), (15, .d (.int .i64 k))], [obT 1 t]⟩) (.ret, ⟨[(2, .d (.bool false))], []⟩) (.exit 0, ⟨[], []⟩) (fun k hk L => by
    simp only [zsu, obT]
    by_cases h0 : k < t.l.length
    · simp only [h0, if_true, zb3 h0];have hc := zOx t.heap (t.l[k].deadline, t.l[k].msg.id) hH;simp only [eD] at hc;generalize (t.heap.any fun d => decide (d = (t.l[k].deadline, t.l[k].msg.id))) = z at *
      cases z
      · simp -implicitDefEqProofs (disch := omega) only [za, go_sem, *]
      · simp -implicitDefEqProofs (disch := omega) only [za, go_sem, *]
    · simp -implicitDefEqProofs (disch := omega) only [za, go_sem, *])
   have e : (List.range t.l.length).all (atB t.l fun x => t.heap.any fun d => decide (d = (x.deadline, x.msg.id))) = t.l.all fun x => t.heap.any fun d => decide (d = (x.deadline, x.msg.id)) := by
    rw [zSc, zRb, zRb];constructor
    · intro h x hx;obtain ⟨i, hi, rfl⟩ := zRO hx;have := h i (zR3.2 hi)
      rwa [zb3 hi] at this
    · intro h i hi;rw [zb3 (zR3.1 hi)];exact h _ (zRe _)
   rw [e] at hl;simp only [obT] at hl;simp only [zQ2, zQZ, zQW, zQ5, zQ0, zQT, zQV, zQR, zQ1, zQY, zQS, zQX, zQU, zo, zC] at hl;generalize (t.l.all fun x => t.heap.any fun d => decide (d = (x.deadline, x.msg.id))) = z at *
   cases z
   · simp only [zRa, if_false] at hl;rw [ze zng (by simp)]; simp -implicitDefEqProofs (disch := omega) only [zk0, za, go_sem, *]
   · simp only [if_true] at hl;rw [ze zng (by simp)]; simp -implicitDefEqProofs (disch := omega) only [zk0, za, go_sem, *]
 · rw [zRw c];rw [ze zng (by simp)]; simp -implicitDefEqProofs (disch := omega) only [zk0, za, go_sem, *]
def zbq (l : List Lease) : Int := zd2 l.length (zb9 l) (zbp l) 0
def zF (t : Table) : Int :=
 if 12 < t.l.length then 2 else if zbq t.l ≠ 0 then zbq t.l else if zaH t.heap ≠ 0 then zaH t.heap else if zdd t = true then 0 else 7
theorem zj8 (l : List Lease) : (∃ k, (List.range l.length).find? (zb9 l) = some k /\ zbp l k ≠ 0 /\ zbq l = zbp l k) \/ ((List.range l.length).find? (zb9 l) = none /\ zbq l = 0) := by
 unfold zbq zd2
 cases h : (List.range l.length).find? (zb9 l) with
 | none => exact .inr ⟨rfl, rfl⟩
 | some k =>
  refine .inl ⟨k, rfl, ?_, rfl⟩;have := List.find?_some h;unfold zb9 at this;simpa using this
theorem zka (t : Table) (hL : t.l.length <= 4294967296) (hH : t.heap.length <= 4294967296) : zd G ze5 [.d (zO t)] [] = some (.d (.int .i64 (zF t)), []) := by
 unfold zF
 by_cases c0 : 12 < t.l.length
 · rw [zQO c0];rw [ze zjG (by simp)]; simp -implicitDefEqProofs (disch := omega) only [zgu, za, go_sem, *]
 · rw [zQN c0];have hl := zIg t (by omega);have hv := zoS t.heap hH;have hm := zIs t hL hH;simp only [obT] at hl;unfold zd2 at hl
   rcases zj8 t.l with ⟨k, h1, h2, h3⟩ | ⟨h1, h3⟩
   · rw [h1] at hl;simp only at hl;rw [h3, zQO h2];generalize zbp t.l k = z at *;clear h1 h3 hv hm;rw [ze zjG (by simp)]; simp -implicitDefEqProofs (disch := omega) only [zgu, za, go_sem, *]
   · rw [h1] at hl;rw [h3, zQN (by simp)];clear h1 h3;generalize zaH t.heap = z at *
     by_cases c1 : z = 0
     · subst c1;rw [zQN (by simp)]
       cases h : zdd t
       · rw [h] at hm;simp only [zRa, if_false];clear h;rw [ze zjG (by simp)]; simp -implicitDefEqProofs (disch := omega) only [zgu, za, go_sem, *]
       · rw [h] at hm;simp only [if_true];clear h;rw [ze zjG (by simp)]; simp -implicitDefEqProofs (disch := omega) only [zgu, za, go_sem, *]
     · rw [zQO c1];clear hm;rw [ze zjG (by simp)]; simp -implicitDefEqProofs (disch := omega) only [zgu, za, go_sem, *]
def zfI (t : Table) : Bool := decide (t.heap.length = t.l.length) && t.heap.all fun d => decide (0 <= zB t.l d.2) && decide ((t.l.getD (zB t.l d.2).toNat zax).deadline = d.1)
def zoF (t : Table) : Int :=
 if 12 < t.l.length then 2 else if zbq t.l ≠ 0 then zbq t.l else if zaH t.heap ≠ 0 then zaH t.heap else if zfI t = true then 0 else 7
theorem zFm (l : List Lease) (id : Int) : -1 <= zB l id /\ zB l id < l.length := znA _ _
theorem zM1 (t : Table) (hL : t.l.length <= 4294967296) (hH : t.heap.length <= 4294967296) : zT G [] znO ⟨[(1, .ref 1 0 0), (7, .d (.int .i64 0))], [obT 1 t]⟩ = some (if (t.heap.all fun d => decide (0 <= zB t.l d.2) && decide ((t.l.getD (zB t.l d.2).toNat zax).deadline = d.1)) = true then (.exit 3, ⟨[], []⟩) else (.ret, ⟨[(2, .d (.int .i64 7))], []⟩)) := by
 have hl := zsX (G := G) (x := znO) (ks := []) t.heap.length (atB t.heap fun d => decide (0 <= zB t.l d.2) && decide ((t.l.getD (zB t.l d.2).toNat zax).deadline = d.1)) (fun k => ⟨[(1, .ref 1 0 0), (7, .d (.int .i64 k))], [obT 1 t]⟩) (.ret, ⟨[(2, .d (.int .i64 7))], []⟩) (.exit 3, ⟨[], []⟩) (fun k hk L => by
  simp only [znO, obT]
  by_cases h0 : k < t.heap.length
  · simp only [h0, if_true, zb3 h0];have hf := zAP t t.heap[k].2 hL;have hb := zFm t.l t.heap[k].2;generalize zB t.l t.heap[k].2 = i at *
    by_cases c1 : 0 <= i
    · obtain ⟨n, rfl⟩ : ∃ n : Nat, i = n := ⟨i.toNat, by omega⟩;have hn : n < t.l.length := by omega
      rw [zRo, za hn, zRA c1, zSz]
      by_cases c2 : t.l[n].deadline = t.heap[k].1
      · rw [zRA c2];simp only [if_true];simp -implicitDefEqProofs (disch := omega) only [za, go_sem, *]
      · rw [zRw c2];simp only [zRa, if_false];simp -implicitDefEqProofs (disch := omega) only [za, go_sem, *]
    · rw [zRw c1];simp only [zSA, zRa, if_false];simp -implicitDefEqProofs (disch := omega) only [za, go_sem, *]
  · simp -implicitDefEqProofs (disch := omega) only [za, go_sem, *])
 have e : (List.range t.heap.length).all (atB t.heap fun d => decide (0 <= zB t.l d.2) && decide ((t.l.getD (zB t.l d.2).toNat zax).deadline = d.1)) = t.heap.all fun d => decide (0 <= zB t.l d.2) && decide ((t.l.getD (zB t.l d.2).toNat zax).deadline = d.1) := by
  rw [zSc, zRb, zRb];constructor
  · intro h x hx;obtain ⟨i, hi, rfl⟩ := zRO hx;have := h i (zR3.2 hi)
    rwa [zb3 hi] at this
  · intro h i hi;rw [zb3 (zR3.1 hi)];exact h _ (zRe _)
 rw [e] at hl;exact hl
theorem zM5 (t : Table) (hL : t.l.length <= 4294967296) (hH : t.heap.length <= 4294967296) : zd G zis [.d (zO t)] [] = some (.d (.int .i64 (zoF t)), []) := by
 unfold zoF
 by_cases c0 : 12 < t.l.length
 · rw [zQO c0];rw [ze zgS (by simp)]; simp -implicitDefEqProofs (disch := omega) only [zfm, za, go_sem, *]
 · rw [zQN c0];have hl := zM4 t (by omega);have hv := zAV t.heap hH;have hm := zM1 t hL hH;simp only [obT] at hl hm;unfold zd2 at hl
   rcases zj8 t.l with ⟨k, h1, h2, h3⟩ | ⟨h1, h3⟩
   · rw [h1] at hl;simp only at hl;rw [h3, zQO h2];generalize zbp t.l k = z at *;clear h1 h3 hv hm;rw [ze zgS (by simp)]; simp -implicitDefEqProofs (disch := omega) only [zfm, za, go_sem, *]
   · rw [h1] at hl;rw [h3, zQN (by simp)];clear h1 h3;generalize zaH t.heap = z at *
     by_cases c1 : z = 0
     · subst c1;rw [zQN (by simp)];unfold zfI
       by_cases c2 : t.heap.length = t.l.length
       · rw [zRA c2, zSz];generalize (t.heap.all fun d => decide (0 <= zB t.l d.2) && decide ((t.l.getD (zB t.l d.2).toNat zax).deadline = d.1)) = q at *
         cases q
         · simp only [zRa, if_false] at hm ⊢;rw [ze zgS (by simp)]; simp -implicitDefEqProofs (disch := omega) only [zfm, za, go_sem, *]
         · simp only [if_true] at hm ⊢;rw [ze zgS (by simp)]; simp -implicitDefEqProofs (disch := omega) only [zfm, za, go_sem, *]
       · rw [zRw c2, zSA];simp only [zRa, if_false];clear hm;rw [ze zgS (by simp)]; simp -implicitDefEqProofs (disch := omega) only [zfm, za, go_sem, *]
     · rw [zQO c1];clear hm;rw [ze zgS (by simp)]; simp -implicitDefEqProofs (disch := omega) only [zfm, za, go_sem, *]
theorem zAe {α : Type} [DecidableEq α] : ∀ (A B : List α), A.Nodup -> (∀ a ∈ A, a ∈ B) -> A.length <= B.length
 | [], _, _, _ => zSa _
 | a :: A, B, h, hs => by
  have ha := hs a (by simp);rw [zSj] at h;have := zAe A (B.erase a) h.2 fun x hx => (List.mem_erase_of_ne (by rintro rfl; exact h.1 hx)).2 (hs x (by simp [hx]));rw [zUb ha] at this;have hp := List.length_pos_of_mem ha;simp only [zQX]; omega
theorem zAc {α : Type} [DecidableEq α] {A B : List α} (h : A.Nodup) (hs : ∀ a ∈ A, a ∈ B) (hl : B.length <= A.length) : ∀ b ∈ B, b ∈ A := by
 intro b hb
 by_cases c : b ∈ A
 · exact c
 · have := zAe A (B.erase b) h fun x hx => (List.mem_erase_of_ne (by rintro rfl; exact c hx)).2 (hs x hx);rw [zUb hb] at this;have hp := List.length_pos_of_mem hb;omega
theorem zbT {l : List Lease} (h : zbq l = 0) : l.Pairwise fun x y => x.msg.id < y.msg.id := by
 have h0 : ∀ i, i < l.length -> zbp l i = 0 := by
  rcases zj8 l with ⟨k, _, h2, h3⟩ | ⟨h1, _⟩
  · omega
  · intro i hi;have := zTH.1 h1 i (zR3.2 hi);unfold zb9 at this;simpa using this
 have step : ∀ i (hi : i + 1 < l.length), l[i].msg.id < l[i + 1].msg.id := fun i hi => by
  have := h0 (i + 1) hi;unfold zbp at this;rw [za hi, Nat.add_sub_cancel, za (show i < l.length by omega)] at this
  split at this
  · omega
  split at this
  · omega
  split at this
  · omega
  split at this
  · cases this
  · omega
 refine zRV.2 fun i j hi hj hij => ?_;obtain ⟨m, rfl⟩ : ∃ m, j = i + 1 + m := ⟨j - (i + 1), by omega⟩
 induction m with
 | zero => exact step i hj
 | succ m ih => exact Int.lt_trans (ih (by omega) (by omega)) (step (i + 1 + m) (by omega))
def zaJ (x : Lease) : Due := (x.deadline, x.msg.id)
theorem zeE {l : List Lease} {id : Int} (h : 0 <= zB l id) : ∃ k, ∃ hk : k < l.length, zB l id = k /\ l[k].msg.id = id := by
 unfold zB zU at h ⊢
 cases hf : l.findIdx? (fun x => decide (x.msg.id = id)) with
 | none => rw [hf] at h; exact absurd h (by simp)
 | some i =>
  obtain ⟨hi, hp, _⟩ := zRR.1 hf;exact ⟨i, hi, rfl, by simpa using hp⟩
theorem zjl {l : List Lease} {id : Int} (h : zB l id < 0) : ∀ x ∈ l, x.msg.id ≠ id := by
 unfold zB zU at h
 cases hf : l.findIdx? (fun x => decide (x.msg.id = id)) with
 | none => intro x hx; have := zTl.1 hf x hx; simpa using this
 | some i => rw [hf] at h; simp only at h; omega
theorem zpg {l : List Lease} (h : l.Pairwise fun x y => x.msg.id < y.msg.id) {i j : Nat} (hi : i < l.length) (hj : j < l.length) (e : l[i].msg.id = l[j].msg.id) : i = j := by
 rw [zRV] at h
 rcases zTk i j with q | q | q
 · have := h i j hi hj q; omega
 · exact q
 · have := h j i hj hi q; omega
theorem zjk {l : List Lease} (h : l.Pairwise fun x y => x.msg.id < y.msg.id) {k : Nat} (hk : k < l.length) : zB l l[k].msg.id = k := by
 by_cases c : 0 <= zB l l[k].msg.id
 · obtain ⟨j, hj, e, q⟩ := zeE c;rw [e, zpg h hj hk q]
 · exact absurd rfl (zjl (by omega) l[k] (zRe _))
theorem zph {l : List Lease} (h : l.Pairwise fun x y => x.msg.id < y.msg.id) : (l.map zaJ).Nodup := by
 refine List.Pairwise.map _ ?_ h;intro a b hab e;have := congrArg Prod.snd e;simp only [zaJ] at this;omega
theorem zs2 {t : Table} (h : t.l.Pairwise fun x y => x.msg.id < y.msg.id) : zfI t = true ↔ t.heap.length = t.l.length /\ ∀ d ∈ t.heap, d ∈ t.l.map zaJ := by
 unfold zfI;rw [zQ8, decide_eq_true_eq, zRb];refine and_congr_right fun _ => forall_congr' fun d => forall_congr' fun hd => ?_;rw [zQ8, decide_eq_true_eq, decide_eq_true_eq, zQ3];constructor
 · rintro ⟨h0, h1⟩;obtain ⟨k, hk, e, q⟩ := zeE h0;rw [e, zRo, za hk] at h1;exact ⟨t.l[k], zRe _, Prod.ext h1 q⟩
 · rintro ⟨x, hx, rfl⟩;obtain ⟨k, hk, rfl⟩ := zRO hx;simp only [zaJ, zjk h hk];rw [zRo, za hk];exact ⟨by omega, rfl⟩
theorem zkd {t : Table} : zdd t = true ↔ t.heap.length = t.l.length /\ ∀ d ∈ t.l.map zaJ, d ∈ t.heap := by
 unfold zdd;rw [zQ8, decide_eq_true_eq, zRb];refine and_congr_right fun _ => ?_;constructor
 · intro h d hd;obtain ⟨x, hx, rfl⟩ := zQ3.1 hd;obtain ⟨y, hy, e⟩ := zR9.1 (h x hx);rw [decide_eq_true_eq] at e;rw [show zaJ x = y from e.symm]; exact hy
 · intro h x hx;exact zR9.2 ⟨_, h _ (zQ3.2 ⟨x, hx, rfl⟩), by simp [zaJ]⟩
theorem zs3 {t : Table} (h : zbq t.l = 0) (hv : zaH t.heap = 0) : zdd t = zfI t := by
 have ha := zbT h;have hn := ((zdR _).1 hv).ids;have hh : t.heap.Nodup := List.Pairwise.of_map (fun d : Due => d.2) (fun a b h e => h (by rw [e])) hn;rw [zSc, zs2 ha, zkd];refine and_congr_right fun e => ⟨fun q => ?_, fun q => ?_⟩
 · exact zAc (zph ha) q (by simp [e])
 · exact zAc hh q (by simp [e])
theorem zPa (t : Table) : zoF t = zF t := by
 unfold zoF zF
 by_cases h : zbq t.l = 0
 · by_cases hv : zaH t.heap = 0
   · rw [zs3 h hv]
   · simp only [hv, ne_eq, zRh, if_true]
 · simp only [h, ne_eq, zRh, if_true]
theorem zvV (es : List D) (hs : zao 8 es = true) (hL : es.length <= 4294967296) : zd G zcz [.d (.sl es)] [] = some (.acc 0 es, [(0, .acc es.length)]) := by
 cases es with
 | nil =>
  refine zjc zxv (by decide) ?_ ?_
  · simp -implicitDefEqProofs only [zlg, go_sem]
  · simp -implicitDefEqProofs only [zlg, zSa, go_sem]
 | cons e es =>
  rw [zjb zxv (by simp) (by decide)];simp only [zgn] at hs;simp only [zQX] at hL;simp -implicitDefEqProofs (disch := omega) only [zlg, go_sem, *]
structure zB3 (s : Shard) : Prop where
 a : s.ready.cells.length <= 4294967296
 b : s.leases.l.length <= 4294967296
 c : s.leases.heap.length <= 4294967296
structure zQK (a : zkI) : Prop where
 sl : a.slots.length <= 1000
 sh : ∀ i (h : i < a.slots.length), zB3 (a.slots[i]).shard
 st : a.stripes.length <= 4294967296
 de : a.dead.dead.l.length <= 4294967296
 dl : a.dir.l.length <= 4294967296
 df : a.dir.forward.length <= 4294967296
theorem zps (s : List UInt8) : zdz (byD s) = some s := by
 unfold byD
 induction s with
 | nil => rfl
 | cons b s ih =>
  simp only [zQS, zdz, ih, zRt, zRo];simp
theorem zCO (l : List Int) (hL : l.length <= 4000) (n : Nat) (hn : n <= 3) : ∀ p : Nat × Nat × List UInt8, p.1 <= n /\ p.2.2.length = n -> ∃ a' bs, bs.length = n /\ zT G [] zsn ⟨[(0, .ref 1000000 0 0), (3, .osl 7 0 n), (4, .d (.int .i64 p.1)), (1000000, .ref 1000000 1 0)], [(7, .row ((byD p.2.2).map .d)), (1000000, zo l p.2.1)]⟩ = some (.exit 0, ⟨[(3, .osl 7 0 n), (1000000, .ref 1000000 1 0)], [(7, .row ((byD bs).map .d)), (1000000, zo l a')]⟩) := by
 refine zfG (fun p : Nat × Nat × List UInt8 => n - p.1) (fun p : Nat × Nat × List UInt8 => p.1 <= n /\ p.2.2.length = n) (fun p : Nat × Nat × List UInt8 => ⟨[(0, .ref 1000000 0 0), (3, .osl 7 0 n), (4, .d (.int .i64 p.1)), (1000000, .ref 1000000 1 0)], [(7, .row ((byD p.2.2).map .d)), (1000000, zo l p.2.1)]⟩) (fun p r => ∃ a' bs, bs.length = n /\ r = some (.exit 0, ⟨[(3, .osl 7 0 n), (1000000, .ref 1000000 1 0)], [(7, .row ((byD bs).map .d)), (1000000, zo l a')]⟩)) fun ⟨k, a, bs⟩ ⟨hk, hb⟩ L ih => ?_;simp only at ih hk hb;simp only [zsn]
 by_cases h0 : k < n
 · have n1 := zbL l a (n := 3) (by omega);obtain ⟨c, hc⟩ : ∃ c : UInt8, (c.toNat : Int) = 97 + nD l a 3 := ⟨UInt8.ofNat (97 + nD l a 3).toNat, by rw [UInt8.toNat_ofNat']; omega⟩;have hg : ((byD bs).map AV.d)[k]? = some (.d (.int .u8 (bs.getD k 0).toNat)) := by
    unfold byD;simp [zQ4 (show k < bs.length by omega), show k < bs.length by omega]
   have hs : ((byD bs).map AV.d).set k (.d (.int .u8 (97 + nD l a 3))) = (byD (bs.set k c)).map AV.d := by
    unfold byD;rw [<- hc, zRN, zRN]
   obtain ⟨a', bs', h1, h2⟩ := ih (k + 1, (zaB l a).2, bs.set k c) ⟨by simp only; omega, by simp only [zRS]; exact hb⟩ (by simp only; omega);refine ⟨a', bs', h1, ?_⟩;simp only [zQ2, zQZ, zQW, zQ5, zQ0, zQT, zQV, zQR, zQ1, zQY, zQS, zQX, zQU, zo, zC] at h2;simp -implicitDefEqProofs (disch := omega) only [go_sem, zcN, hg, hs, h0];exact h2
 · refine ⟨a, bs, hb, ?_⟩;simp -implicitDefEqProofs (disch := omega) only [go_sem, h0]
theorem zpo (l : List Int) (a : Nat) (hL : l.length <= 4000) : ∃ s a', s.length <= 3 /\ zd G ze0 [.ref 1000000 0 0] [(1000000, zo l a)] = some (.d (.str s), [(1000000, zo l a')]) := by
 have n1 := zbL l a (n := 4) (by omega);obtain ⟨n, hn⟩ : ∃ n, n = (nD l a 4).toNat := ⟨_, rfl⟩;have e : nD l a 4 = (n : Int) := by omega
 obtain ⟨a', bs, h1, h2⟩ := zCO l hL n (by omega) (0, (zaB l a).2, List.replicate n 0) ⟨by omega, by simp⟩;have hz : List.replicate n (AV.d (.int .u8 0)) = (byD (List.replicate n 0)).map AV.d := by unfold byD; simp
 refine ⟨bs, a', by omega, ?_⟩;have hl : (byD bs).length = n := by unfold byD; simpa using h1
 have ht : List.take n ((byD bs).map AV.d) = (byD bs).map AV.d := zRy (by simp [hl]);simp only [zQ2, zQZ, zQW, zQ5, zQ0, zQT, zQV, zQR, zQ1, zQY, zQS, zQX, zQU, zo, zC] at h2
 by_cases h0 : n = 0
 · subst h0;have : bs = [] := zRq.1 h1;subst this;simp only [List.replicate_zero, show byD [] = [] from rfl, zQR] at h2;rw [ze zwC (by simp)]; simp -implicitDefEqProofs (disch := omega) only [zpu, go_sem, zcN, e, List.replicate_zero, h2]
 · have hne : ¬ (List.map AV.d (byD bs) = []) := by
    intro e2;have := congrArg List.length e2;simp [hl] at this;exact h0 this
   rw [ze zwC (by simp)]; simp -implicitDefEqProofs (disch := omega) only [zpu, go_sem, zcN, e, hz, h2, hl, ht, zps, hne]
theorem zuA : ∃ f : List Int -> Nat -> List UInt8 × Nat, ∀ l a, l.length <= 4000 -> (f l a).1.length <= 3 /\ zd G ze0 [.ref 1000000 0 0] [(1000000, zo l a)] = some (.d (.str (f l a).1), [(1000000, zo l (f l a).2)]) := by
 refine ⟨fun l a => if h : l.length <= 4000 then (Classical.choose (zpo l a h), Classical.choose (zS8 (zpo l a h))) else ([], 0), fun l a h => ?_⟩;simp only [h, dif_pos];exact zS8 (zS8 (zpo l a h))
noncomputable def zi2 : List Int -> Nat -> List UInt8 × Nat := Classical.choose zuA
theorem zCN (l : List Int) (a : Nat) (hL : l.length <= 4000) : (zi2 l a).1.length <= 3 /\ zd G ze0 [.ref 1000000 0 0] [(1000000, zo l a)] = some (.d (.str (zi2 l a).1), [(1000000, zo l (zi2 l a).2)]) := zS8 zuA l a hL
end Go.Proofs.YtfggldgdejjlnaaGreat

namespace Go.Sim
open Go (World Value Addr TypeId Act Ending Program)
variable {P : Program}
def zkP : AV × zb -> Option (AV × zb)
 | (.acc 0 [], [(0, .acc 0)]) => some (.xsl [], [])
 | (.acc 0 (e :: es), [(0, .acc n)]) => if n = (e :: es).length then some (.osl 0 0 n, [(0, .row ((e :: es).map .d))]) else none
 | _ => none
theorem zGm {f : FuncId} {args : List AV} {os : zb} {es : List D} (h0 : es ≠ []) (h : GF P f args os (.acc 0 es) [(0, .acc es.length)]) : GF P f args os (.osl 0 0 es.length) [(0, .row (es.map .d))] := by
 intro w R ι us hR hι hinj hob hv;refine (h w R ι us hR hι hinj hob hv).mono fun e w' => ?_;rintro ⟨u, ι', R', rfl, p1, p2, p3, p4, p5, p6, p7, p8, p9, p10, p11, p12, p13⟩;have hob := p12 _ _ (.head _);have hm0 : es.length ≠ 0 := fun e => h0 (zRq.1 e);have hmk : zf [(0, Obj.acc es.length)] 0 = some es.length := by simp [zf, look]
 have hmk' : zf [(0, Obj.row (es.map .d))] 0 = none := by simp [zf, look]
 have key : OB w' R' ι' (zf [(0, .row (es.map .d))]) 0 (.row (es.map .d)) /\ VA w' R' ι' (zf [(0, .row (es.map .d))]) (.osl 0 0 es.length) u := by
  generalize hme : zf [(0, Obj.acc es.length)] = me at *;generalize hde : es = ds at p13
  cases p13 with
  | accR _ _ _ _ _ _ hlt => have := hlt _ hmk; rw [hde] at this; omega
  | acc0 => exact absurd hde h0
  | @accC _ b s m' cap _ c T hι2 hmk2 _ hL hcap hsz hb hc hel =>
   subst hde
   cases hob with
   | accN hι' => rw [hι2] at hι'; cases hι'
   | acc _ hι' hR2 hb' hs0 _ =>
    rw [hι2] at hι'; cases hι';refine ⟨.row hι2 hR2 hb hs0 (fun e he => ?_) ?_ fun i e hi j x hj => ?_, ?_⟩
    · obtain ⟨d, hd, rfl⟩ := zQ3.1 he; exact hsz d hd
    · rw [zQV]; exact zRU (zRg _ hcap) hc
    · rw [zQ7] at hi;obtain ⟨d, hd, rfl⟩ := zQQ.1 hi;simp only [AV.cells, zQ7] at hj;obtain ⟨cd, hcd, rfl⟩ := zQQ.1 hj;obtain ⟨k1, q, k2, k3⟩ := (hel i d hd).v_of_cells j cd hcd;exact ⟨k1, q, by rw [zan hb] at k2; exact k2, .d k3⟩
    · have := VA.osl (w := w') (R := R') (mk := zf [(0, Obj.row (es.map .d))]) (off := 0) (len := es.length) (cap := cap) hι2 hmk' hb hcap (by simpa using hc) hL;simpa only [zST] using this
 refine ⟨u, ι', R', rfl, p1, p2, p3, p4, p5, p6, p7, fun b hb => ?_, p9, p10, p11, fun o ob hm => ?_, key.2⟩
 · obtain ⟨q1, q2⟩ := p8 b hb;refine ⟨q1, ?_⟩
   rcases q2 with q | q | ⟨o, s, qa, qb⟩
   · exact .inl q
   · exact .inr (.inl q)
   · exfalso;simp only [look] at qb
     split at qb
     · cases qb
     · cases qb
 · simp only [zRr, Prod.mk.injEq] at hm;obtain ⟨rfl, rfl⟩ := hm;exact key.1
theorem zGl {f : FuncId} {args : List AV} {os : zb} (h : GF P f args os (.acc 0 []) [(0, .acc 0)]) : GF P f args os (.xsl []) [] := by
 intro w R ι us hR hι hinj hob hv;refine (h w R ι us hR hι hinj hob hv).mono fun e w' => ?_;rintro ⟨u, ι', R', rfl, p1, p2, p3, p4, p5, p6, p7, p8, p9, p10, p11, p12, p13⟩;have hmk : zf [(0, Obj.acc 0)] 0 = some 0 := by simp [zf, look]
 have hob := p12 _ _ (.head _);have key : ∃ a, u = .slice a 0 0 := by
  generalize hme : zf [(0, Obj.acc 0)] = me at *;generalize hde : ([] : List D) = ds at p13
  cases p13 with
  | accR _ _ _ _ _ _ hlt => have := hlt _ hmk; omega
  | acc0 => exact ⟨_, rfl⟩
  | @accC _ b s m' cap _ c T hι2 hmk2 _ hL hcap hsz hb hc hel =>
   cases hob with
   | accN hι' => rw [hι2] at hι'; cases hι'
   | acc hpos _ _ _ _ _ => omega
 obtain ⟨a, rfl⟩ := key;refine ⟨_, ι', R', rfl, p1, p2, p3, p4, p5, p6, p7, fun b hb => ?_, p9, p10, p11, fun o ob hm => (by simp at hm), .xsl .sl0⟩;obtain ⟨q1, q2⟩ := p8 b hb;refine ⟨q1, ?_⟩
 rcases q2 with q | q | ⟨o, s, qa, qb⟩
 · exact .inl q
 · exact .inr (.inl q)
 · exfalso;simp only [look] at qb
   split at qb
   · cases qb
   · cases qb
def zdO (F : zaa) (f : FuncId) (args : List AV) (os : zb) : Option (AV × zb) :=
 if os.isEmpty = true then (F f args os).bind zkP else none
theorem zNT {F : zaa} (hF : FOK P F) (f : FuncId) : zl P f (.ext (zdO F f)) := by
 intro args os r os' h h1 h2;unfold zdO at h
 split at h
 · rename_i hos;have hos : os = [] := zTb.1 hos;subst hos;obtain ⟨p, hp, hr⟩ := zQP.1 h;obtain ⟨p1, p2⟩ := p;obtain ⟨q1, q2, q3⟩ := hF f args [] p1 p2 hp h1 h2;refine ⟨q1, ?_⟩;unfold zkP at hr
   split at hr
   · cases hr
     rename_i he
     cases he
     exact ⟨zGl q2, ⟨fun n hn => by simp [look] at hn, fun i hi => absurd hi (by simp), fun q hq => by simp [AV.refs] at hq, fun n ob h => by simp at h⟩⟩
   · rename_i e es n he
     cases he
     split at hr
     · rename_i hn
       cases hr
       subst hn;refine ⟨zGm (by simp) q2, ⟨fun n hn => ?_, fun i hi => absurd hi (by simp), fun q hq => ?_, fun n ob hm q hq => ?_⟩⟩
       · simp only [look] at hn
         split at hn
         · omega
         · cases hn
       · have : q = 0 := by
          simp only [AV.refs] at hq
          first | exact of_decide_eq_true hq | exact (of_decide_eq_true hq).symm | exact (beq_iff_eq.1 hq) | exact (beq_iff_eq.1 hq).symm
         subst this; simp [look]
       · simp only [zRr, Prod.mk.injEq] at hm;obtain ⟨rfl, rfl⟩ := hm;exfalso;simp only [Obj.refs] at hq;generalize (e :: es) = l at hq
         induction l with
         | nil => simp [AV.refsL] at hq
         | cons x l ih => simp only [zQS, AV.refsL, AV.refs, zR6] at hq; exact ih hq
     · cases hr
   · cases hr
 · cases h
noncomputable def zdb (G : FuncId -> Option AFn) (rows done : List FuncId) (f : FuncId) : Option AFn :=
 if rows.contains f then some (.ext (zdO (zd G) f)) else if done.contains f then some (.ext (zd G f)) else G f
theorem zzx {G : FuncId -> Option AFn} (hG : GOK P G) (rows done : List FuncId) : GOK P (zdb G rows done) := by
 intro f fn h;unfold zdb at h
 split at h
 · cases h; exact zNT (zpY hG) f
 · split at h
   · cases h; exact fun args os r os' h1 h2 h3 => zpY hG f args os r os' h1 h2 h3
   · exact hG f fn h
theorem z7 {G : FuncId -> Option AFn} {rows done : List FuncId} {f : FuncId} {args : List AV} {os : zb} (h : zdb G rows done f = some (.ext (zd G f))) : zd (zdb G rows done) f args os = zd G f args os := by
 rw [zgA h]
theorem zsO {G : FuncId -> Option AFn} {rows done : List FuncId} {f : FuncId} {args : List AV} {es : List D} (h : zdb G rows done f = some (.ext (zdO (zd G) f))) (h0 : es ≠ []) (hc : zd G f args [] = some (.acc 0 es, [(0, .acc es.length)])) :
    zd (zdb G rows done) f args [] = some (.osl 0 0 es.length, [(0, .row (es.map .d))]) := by
 rw [zgA h];unfold zdO;rw [zQO (by rfl), hc]
 cases es with
 | nil => exact absurd rfl h0
 | cons e es => simp [zkP]
theorem zsP {G : FuncId -> Option AFn} {rows done : List FuncId} {f : FuncId} {args : List AV} (h : zdb G rows done f = some (.ext (zdO (zd G) f))) (hc : zd G f args [] = some (.acc 0 [], [(0, .acc 0)])) :
    zd (zdb G rows done) f args [] = some (.xsl [], []) := by
 rw [zgA h];unfold zdO;rw [zQO (by rfl), hc];simp [zkP]
end Go.Sim
