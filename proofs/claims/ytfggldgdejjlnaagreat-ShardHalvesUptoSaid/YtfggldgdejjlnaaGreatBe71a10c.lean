/-
  The reader.
-/
import Derived.Test.YtfggldgdejjlnaaGreatB0562a1b
import Derived.Test.YtfggldgdejjlnaaGreatB5f7df0b
set_option linter.unusedSimpArgs false
set_option linter.unusedVariables false
set_option maxHeartbeats 10000000
set_option maxRecDepth 100000
namespace Go.Proofs.YtfggldgdejjlnaaGreat
open Go Go.Sim
theorem zNK {n h p : Nat} (hn : 1 <= n) (hp : p < n) : ∃ j, j < n /\ (h + j) % n = p := by
 have hh : h % n < n := zRK _ (by omega)
 by_cases c : h % n <= p
 · refine ⟨p - h % n, by omega, ?_⟩;rw [<- Nat.mod_add_mod, show h % n + (p - h % n) = p by omega, zRX hp]
 · refine ⟨p + n - h % n, by omega, ?_⟩;rw [<- Nat.mod_add_mod, show h % n + (p + n - h % n) = p + n by omega, zTA, zRX hp]
theorem zlt {n h : Nat} {a b : List Message} (hn : 1 <= n) (ha : a.length = n) (hb : b.length = n) (H : ∀ j, j < n -> a.getD ((h + j) % n) zu = b.getD ((h + j) % n) zu) : a = b := by
 refine zTf (by omega) fun p h1 h2 => ?_;obtain ⟨j, hj, e⟩ := zNK (h := h) hn (show p < n by omega);have := H j hj;rw [e] at this;simpa [zRl, h1, h2] using this
theorem zd9 {n i : Nat} (hn : 1 <= n) : i % n < n := zRK _ (by omega)
theorem zP1 {n h : Nat} {L : List Message} {m : Message} (hl : L.length < n) : wN n h (L ++ [m]) (L.length + 1) = (wN n h L L.length).set ((h + L.length) % n) m := by
 refine zlt (n := n) (h := h) (by omega) (z8 _ _ _ _) (by rw [zRS, z8]) fun j hj => ?_;rw [zdk (by omega) (by omega) hj, zgX _ _ _ _ _ (by rw [z8]; exact zd9 (by omega))]
 by_cases c : j = L.length
 · subst c;simp
 · have : ¬ (h + L.length) % n = (h + j) % n := fun e => c (zn2 hl hj e).symm;rw [zQN this, zdk (by omega) (by omega) hj]
   by_cases c2 : j < L.length
   · rw [zQO (by omega), zQO c2];simp [zRl, zRE c2]
   · rw [zQN (by omega), zQN c2]
theorem zP2 {n h i z : Nat} {M : List Message} {m : Message} (hz : z <= n) (hm : M.length = z) (hi : i < z) : wN n h (M.set i m) z = (wN n h M z).set ((h + i) % n) m := by
 refine zlt (n := n) (h := h) (by omega) (z8 _ _ _ _) (by rw [zRS, z8]) fun j hj => ?_;have q1 := zgX (wN n h M z) ((h + i) % n) ((h + j) % n) m zu (by rw [z8]; exact zd9 (by omega));have q2 := zgX M i j m zu (by omega);rw [zdk (by omega) hz hj, q1, q2, zdk (by omega) hz hj]
 by_cases c : i = j
 · subst c;simp [hi]
 · have : ¬ (h + i) % n = (h + j) % n := fun e => c (zn2 (by omega) hj e);rw [zQN this, zQN c]
theorem zP0 {n h z : Nat} {M : List Message} (hz : z < n) (hm : M.length = z + 1) : wN n h (M.take z) z = (wN n h M (z + 1)).set ((h + z) % n) zu := by
 refine zlt (n := n) (h := h) (by omega) (z8 _ _ _ _) (by rw [zRS, z8]) fun j hj => ?_;rw [zdk (by omega) (by omega) hj, zgX _ _ _ _ _ (by rw [z8]; exact zd9 (by omega)), zdk (by omega) (by omega) hj]
 by_cases c : z = j
 · subst c;simp
 · have : ¬ (h + z) % n = (h + j) % n := fun e => c (zn2 (by omega) hj e);rw [zQN this]
   by_cases c2 : j < z
   · rw [zQO c2, zQO (by omega)];simp [zRl, zSe, c2]
   · rw [zQN c2, zQN (by omega)]
theorem znq {l : List Message} {j : Nat} (h : j < l.length) : l[j] = l.getD j zu := by
 rw [zRl, zQ4 h]; rfl
def mvN (L : List Message) (k i : Nat) : List Message := (List.range L.length).map fun j => L.getD (if k <= j /\ j < i then j + 1 else j) zu
theorem zde (L : List Message) (k i : Nat) : (mvN L k i).length = L.length := by simp [mvN]
theorem zkf {L : List Message} {k i j : Nat} (hj : j < L.length) : (mvN L k i).getD j zu = L.getD (if k <= j /\ j < i then j + 1 else j) zu := by
 simp [mvN, zRl, hj]
theorem zIM (L : List Message) (k : Nat) : mvN L k k = L := by
 refine zTf (zde _ _ _) fun j h1 h2 => ?_;have := zkf (k := k) (i := k) h2;rw [zQN (by omega)] at this;simpa [zRl, h1, h2] using this
theorem zIL {L : List Message} {k i : Nat} (hk : k <= i) (hi : i + 1 < L.length) : (mvN L k i).set i (L.getD (i + 1) zu) = mvN L k (i + 1) := by
 refine zTf (by rw [zRS, zde, zde]) fun j h1 h2 => ?_;have hj : j < L.length := by rw [zde] at h2; exact h2
 have a1 := zgX (mvN L k i) i j (L.getD (i + 1) zu) zu (by rw [zde]; omega);have a2 := zkf (k := k) (i := i) hj;have a3 := zkf (k := k) (i := i + 1) hj;have b1 := znq h1;have b2 := znq h2;rw [b1, b2, a1, a2, a3]
 by_cases c : i = j
 · subst c;rw [zQO rfl, zQO (by omega)]
 · rw [zQN c]
   by_cases c2 : k <= j /\ j < i
   · rw [zQO c2, zQO (by omega)]
   · rw [zQN c2, zQN (by omega)]
theorem zIK {L : List Message} {k : Nat} (hk : k < L.length) : (mvN L k (L.length - 1)).take (L.length - 1) = L.eraseIdx k := by
 refine zTf (by rw [zRx, zde, zTG, zQO hk]; omega) fun j h1 h2 => ?_;have hj : j < L.length - 1 := by rw [zRx, zde] at h1; omega
 rw [zSK, List.getElem_eraseIdx];have a2 := zkf (L := L) (k := k) (i := L.length - 1) (j := j) (by omega);have b2 : (mvN L k (L.length - 1))[j]'(by rw [zde]; omega) = (mvN L k (L.length - 1)).getD j zu := by
  rw [zRl, zQ4 (by rw [zde]; omega)]; rfl
 rw [b2, a2]
 by_cases c : j < k
 · rw [zQN (by omega), dif_pos c, zRl, zQ4 (by omega)]; rfl
 · rw [zQO (by omega), dif_neg c, zRl, zQ4 (by omega)]; rfl
theorem zFz : ∀ {l : List Message}, za2 l = 0 -> ∀ m ∈ l, zD m = 0 := by
 intro l
 induction l with
 | nil => intro _ m hm; cases hm
 | cons x l ih =>
  intro h m hm;unfold za2 at h
  split at h
  · rename_i q; exact absurd h q
  · rename_i q
    cases hm with
    | head => simpa using q
    | tail _ hm => exact ih h m hm
theorem ztw {r : z9} (hr : zW r = 0) : ∃ n h : Nat, r = rg n h (zw r) /\ 1 <= n /\ n <= 12 /\ h < n /\ (zw r).length <= n /\ (∀ m ∈ zw r, zD m = 0) /\ ((zw r).map (·.id)).Nodup := by
 have hok := zba hr;obtain ⟨c, h, z, rfl, h1, h2, h3, h4⟩ := zfT hok;rw [ztx hok] at hr;have ho : zw ⟨c, h, z⟩ = zS c h z := zea c h z;rw [ho];have hl : (zS c h z).length = z := zdK c h z
 split at hr
 · cases hr
 rename_i hrest
 split at hr
 · rename_i q; exact absurd hr q
 rename_i hfirst
 split at hr
 · cases hr
 rename_i hdup;refine ⟨c.length, h, ?_, h1, h2, h3, by omega, ?_, ?_⟩
 · unfold rg;rw [hl]
   congr 1
   refine zlt (n := c.length) (h := h) h1 rfl (z8 _ _ _ _) fun j hj => ?_;rw [zdk h1 h4 hj]
   by_cases cj : j < z
   · rw [zQO cj];simp [zS, zRl, cj]
   · rw [zQN cj];have hr2 : restF ⟨c, h, z⟩ z c.length = false := by simpa using hrest
     unfold restF at hr2;rw [zR8] at hr2;have := hr2 j (zSD.2 ⟨by omega, by omega⟩);simpa using this
 · have hf : za2 (zS c h z) = 0 := by simpa using hfirst
   generalize zS c h z = w at *;clear hl ho hdup hrest;intro m hm;have := zFz hf m hm;exact this
 · have : zaz ((zS c h z).map (·.id)) = false := by simpa using hdup
   unfold zaz at this;simpa using this
theorem zp1 (es : List D) (hs : zao 7 es = true) (hL : es.length <= 4294967296) : zd G zge [.d (.sl es)] [] = some (.acc 0 es, [(0, .acc es.length)]) := by
 cases es with
 | nil =>
  refine zjc zjN (by decide) ?_ ?_
  · simp -implicitDefEqProofs only [zfp, go_sem]
  · simp -implicitDefEqProofs only [zfp, zSa, go_sem]
 | cons e es =>
  rw [zjb zjN (by simp) (by decide)];simp only [zgn] at hs;simp only [zQX] at hL;simp -implicitDefEqProofs (disch := omega) only [zfp, go_sem, *]
theorem zg0 (l : List Message) (g : Nat) (cs : List D) (p : Message -> Bool) (hL : l.length <= 4294967296) (hp : ∀ a ∈ l, zd G g (.d (zg a) :: cs.map .d) [] = some (.d (.bool (p a)), [])) : zd G zfh [.d (.sl (l.map zg)), .d (.fn g cs)] [] = some (.d (.int .i64 (zU p l)), []) := by
 have := zdJ (G := G) (x := zj7) (ks := []) l.length (atB l p) (fun k => ⟨[(0, .d (.sl (l.map zg))), (1, .d (.fn g cs)), (7, .d (.int .i64 l.length)), (8, .d (.int .i64 k))], []⟩) (fun k => (.ret, ⟨[(4, .d (.int .i64 k))], []⟩)) (.exit 0, ⟨[], []⟩) (fun k hk L => by
  simp only [zj7]
  by_cases h0 : k < l.length
  · have h1 := hp l[k] (zRe h0);simp only [zg] at h1;simp only [zb3 h0]
    cases h2 : p l[k]
    · rw [h2] at h1;simp -implicitDefEqProofs (disch := omega) only [go_sem, h1, zg]
    · rw [h2] at h1;simp -implicitDefEqProofs (disch := omega) only [go_sem, h1, zg]
  · simp -implicitDefEqProofs (disch := omega) only [go_sem, zQU])
 rw [zeF] at this;simp only [zQ2, zQZ, zQW, zQ5, zQ0, zQT, zQV, zQR, zQ1, zQY, zQS, zQX, zQU, zo, zC] at this;unfold zU
 cases h : l.findIdx? p with
 | none => rw [h] at this; rw [ze zgW (by simp)]; simp -implicitDefEqProofs (disch := omega) only [zja, go_sem, this]
 | some i => rw [h] at this; rw [ze zgW (by simp)]; simp -implicitDefEqProofs (disch := omega) only [zja, go_sem, this]
theorem zDm (l : List Message) (g : Nat) (cs : List D) (p : Message -> Bool) (hL : l.length <= 4294967296) (hp : ∀ a ∈ l, zd G g (.d (zg a) :: cs.map .d) [] = some (.d (.bool (p a)), [])) : zd G zfe [.d (.sl (l.map zg)), .d (.fn g cs)] [] = some (.d (.bool (l.any p)), []) := by
 rw [ze znn (by simp)]; simp -implicitDefEqProofs (disch := omega) only [zpP, go_sem, zg0 l g cs p hL hp, zjT]
theorem zFg (m : Message) (id : Int) : zd G zf8 [.d (zg m), .d (.pd (.int .i64 id))] [] = some (.d (.bool (decide (m.id = id))), []) := by
 simp only [zg];rw [ze zxj (by simp)]; simp -implicitDefEqProofs (disch := omega) only [zvn, za, go_sem, *]
theorem zA6 (c : List Message) (h z : Nat) (id : Int) (h1 : c.length <= 12) (h2 : h < c.length) (h3 : z <= c.length) : zd G ziz [.d (.agg [.sl (c.map zg), .int .i64 h, .int .i64 z]), .d (.int .i64 id)] [] = some (.d (.int .i64 (z5 (zS c h z) id)), []) := by
 have hl := zsU c h z h1 h2 h3;have hn := zdK c h z;have hi := zg0 (zS c h z) zf8 [.pd (.int .i64 id)] (fun m => decide (m.id = id)) (by omega) (fun a _ => zFg a id);unfold z5;generalize zU (fun m : Message => decide (m.id = id)) (zS c h z) = q at *;generalize zS c h z = w at *;rw [ze zxi (by simp)]; simp -implicitDefEqProofs (disch := omega) only [zvm, za, go_sem, *]
theorem zNJ (r : z9) (m : Message) (hL : r.cells.length <= 4294967296) : zd G ziB [.d (zA r), .d (zg m)] [] = some (.d (.int .i64 (zbl r m)), []) := by
 have hv := zot r hL;have hm := zhd m;unfold zbl
 by_cases e1 : zW r = 0
 · rw [e1] at hv;obtain ⟨c, h, z, rfl, h1, h2, h3, h4⟩ := zfT (zba e1);have hi := zA6 c h z m.id h2 h3 h4;simp only [e1, ne_eq, zRf, if_false];rw [zea];clear e1;generalize z5 (zS c h z) m.id = q at *
   by_cases e2 : zD m = 0
   · rw [e2] at hm;simp only [e2, ne_eq, zRf, if_false];simp only [zA, zg] at hv hm hi ⊢
     by_cases e3 : (z : Int) = c.length
     · rw [zQO e3];obtain rfl : z = c.length := by omega
       clear e3;rw [ze zgT (by simp)]; simp -implicitDefEqProofs (disch := omega) only [zgx, za, go_sem, *]
     · simp only [e3, if_false]
       by_cases e4 : 0 <= q
       · simp only [e4, if_true];rw [ze zgT (by simp)]; simp -implicitDefEqProofs (disch := omega) only [zgx, zg, za, go_sem, *]
       · simp only [e4, if_false];rw [ze zgT (by simp)]; simp -implicitDefEqProofs (disch := omega) only [zgx, zg, za, go_sem, *]
   · simp only [e2, ne_eq, zRh, if_true];generalize zD m = v at *;simp only [zA, zg] at hv hm ⊢;rw [ze zgT (by simp)]; simp -implicitDefEqProofs (disch := omega) only [zgx, za, go_sem, *]
 · simp only [e1, ne_eq, zRh, if_true];generalize zW r = v at *;simp only [zA, zg] at hv ⊢;rw [ze zgT (by simp)]; simp -implicitDefEqProofs (disch := omega) only [zgx, za, go_sem, *]
theorem zAr (c : List Message) (h z : Int) (h0 : 1 <= c.length) (h1 : c.length <= 12) : zd G ziA [.d (.agg [.sl (c.map zg), .int .i64 h, .int .i64 z])] [] = some (.agg [.acc 0 (c.map zg), .d (.int .i64 h), .d (.int .i64 z)], [(0, .acc c.length)]) := by
 have hc := zp1 (c.map zg) (zpc c) (by simp; omega);simp only [zQ2, zQZ, zQW, zQ5, zQ0, zQT, zQV, zQR, zQ1, zQY, zQS, zQX, zQU, zo, zC] at hc;rw [ze zxl (by simp)]; simp -implicitDefEqProofs (disch := omega) only [zvp, za, go_sem, *]
def pbD (r : z9) (m : Message) : z9 × Int := if zbl r m = 0 then (rg r.cells.length r.head.toNat (zw r ++ [m]), 0) else (zdl, zbl r m)
theorem ztz (r : z9) (m : Message) (hL : r.cells.length <= 4294967296) : zd G ze7 [.d (zA r), .d (zg m)] [] = some (.d (.tup [zA (pbD r m).1, .int .i64 (pbD r m).2]), []) := by
 have hr := zNJ r m hL;unfold pbD
 by_cases e1 : zbl r m = 0
 · rw [zQO e1];rw [e1] at hr;have e2 := ztk e1;clear e1;obtain ⟨n, h, hrg, h1, h2, h3, h4, h5, h6⟩ := ztw e2.1;have e3 := e2.2.2.1;clear e2 h5 h6;have hc : r.cells.length = n := by rw [hrg]; exact z8 _ _ _ _
   have hh : r.head.toNat = h := by rw [hrg]; rfl
   rw [hc, hh];rw [hc] at e3;have hz : r.size = ((zw r).length : Int) := by rw [zeQ]; have := congrArg z9.size hrg; simp only [rg] at this; omega
   generalize zw r = L at *;subst hrg;clear hh;simp only [rg, zA, zQT, zRI] at hr e3 hz ⊢;have hl : L.length < n := by omega
   rw [zP1 hl];have hcl := zer;have ho := zAr (wN n h L L.length) h L.length (by rw [z8]; omega) (by rw [z8]; omega);have hce := zer (wN n h L L.length) h L.length L.length (by rw [z8]; omega) (by rw [z8]; omega) (by omega) (by omega);have hj : (h + L.length) % n < n := zd9 (by omega);rw [z8] at hce ho;have hwl := z8 n h L L.length;clear hcl e3 hz hc;generalize (h + L.length) % n = j at *;rw [zRN];generalize wN n h L L.length = w at *;rw [ze zxh (by simp)]; simp -implicitDefEqProofs (disch := omega) only [zpG, za, go_sem, *]; (try simp only [pA, pB, pC, pD, pE, pF, pG, pH, pI, pJ, pK, pL, pM, pN, pO, pP, if_true, if_false]); repeat' (first | done | rfl | ((first | refine zK (fun hq => ?_) (fun hq => ?_) | refine zM (fun hq => ?_) (fun hq => ?_)) <;> (try (first | (exfalso; omega) | contradiction)) <;> (try simp -implicitDefEqProofs (disch := omega) only [za, go_sem, *]) <;> (try simp only [pA, pB, pC, pD, pE, pF, pG, pH, pI, pJ, pK, pL, pM, pN, pO, pP, if_true, if_false]))); (all_goals try rfl); (all_goals try (repeat' (first | done | rfl | (exfalso; omega) | contradiction | (refine zN (fun hq => ?_) (fun hq => ?_)))))
 · rw [zQN e1];generalize zbl r m = v at *;simp only [zA, zdl, zg] at *;rw [ze zxh (by simp)]; simp -implicitDefEqProofs (disch := omega) only [zpG, za, go_sem, *]
def tkS (n h : Nat) (L : List Message) (m : Message) (k i : Nat) : St := ⟨[(2, .ref 2 0 0), (4, .ref 4 0 0), (5, .ref 5 0 0), (6, .ref 6 0 0), (7, .d (.int .i64 i))], [(2, .row [.agg [.osl 9 0 n, .d (.int .i64 h), .d (.int .i64 L.length)]]), (4, .row [.agg [.xsl [], .d (.int .i64 0), .d (.int .i64 0)]]), (5, .row [.d (zg zu)]), (6, .row [.d (zg m)]), (9, .row (((wN n h (mvN L k i) L.length).map zg).map .d))]⟩
theorem zPp (n h k : Nat) (L : List Message) (m : Message) (h1 : 1 <= n) (h2 : n <= 12) (h3 : h < n) (h4 : L.length <= n) (hk : k < L.length) : ∀ i, k <= i /\ i <= L.length - 1 -> zT G [] znT (tkS n h L m k i) = some (.exit 0, ⟨[(2, .ref 2 0 0), (4, .ref 4 0 0), (5, .ref 5 0 0), (6, .ref 6 0 0)], [(2, .row [.agg [.osl 9 0 n, .d (.int .i64 h), .d (.int .i64 L.length)]]), (4, .row [.agg [.xsl [], .d (.int .i64 0), .d (.int .i64 0)]]), (5, .row [.d (zg zu)]), (6, .row [.d (zg m)]), (9, .row (((wN n h (mvN L k (L.length - 1)) L.length).map zg).map .d))]⟩) := by
 refine zap (fun i => L.length - i) (fun i => k <= i /\ i <= L.length - 1) (tkS n h L m k) _ fun i hi L' ih => ?_
 by_cases h0 : i < L.length - 1
 · have i1 := ih (i + 1) (by omega) (by omega);clear ih;have hw := z8 n h (mvN L k i) L.length;have c1 := zer (wN n h (mvN L k i) L.length) h L.length i (by omega) (by omega) (by omega) (by omega);have c2 := zer (wN n h (mvN L k i) L.length) h L.length (i + 1) (by omega) (by omega) (by omega) (by omega);rw [hw] at c1 c2;have j1 : (h + i) % n < n := zd9 h1;have j2 : (h + (i + 1)) % n < n := zd9 h1;have e1 := zdk (n := n) (h := h) (l := mvN L k i) h1 h4 (j := i + 1) (by omega);rw [zQO (by omega), zkf (by omega), zQN (by omega)] at e1;have e2 := zP2 (n := n) (h := h) (i := i) (m := L.getD (i + 1) zu) h4 (zde L k i) (by omega);rw [zIL hi.1 (by omega), <- e1] at e2;rw [tkS, e2] at i1;clear e1 e2;generalize wN n h (mvN L k (L.length - 1)) L.length = wz at *;simp only [tkS, znT];generalize wN n h (mvN L k i) L.length = w at *;generalize (h + i) % n = a at *;generalize (h + (i + 1)) % n = b at *;rw [za (show b < w.length by omega), zRN] at i1;simp only [zg] at *;simp only [zQ2, zQZ, zQW, zQ5, zQ0, zQT, zQV, zQR, zQ1, zQY, zQS, zQX, zQU, zo, zC] at i1 c1 c2;simp -implicitDefEqProofs (disch := omega) only [zg, za, go_sem, *]
 · clear ih;obtain rfl : i = L.length - 1 := by omega
   simp only [tkS, znT];generalize wN n h (mvN L k (L.length - 1)) L.length = w at *;have e : ((L.length - 1 : Nat) : Int) = (L.length : Int) - 1 := by omega
   rw [e];simp -implicitDefEqProofs (disch := omega) only [za, go_sem, *]
theorem ztM (n h k : Nat) (L : List Message) (h1 : 1 <= n) (h2 : n <= 12) (h3 : h < n) (h4 : L.length <= n) (hk : k < L.length) : zd G ziC [.d (zA (rg n h L)), .d (.int .i64 k)] [] = some (.d (.tup [zA (rg n h (L.eraseIdx k)), zg (L.getD k zu)]), []) := by
 have ho := zAr (wN n h L L.length) h L.length (by rw [z8]; omega) (by rw [z8]; omega);have c1 := zer (wN n h L L.length) h L.length k (by rw [z8]; omega) (by rw [z8]; omega) (by omega) (by omega);have c2 := zer (wN n h (mvN L k (L.length - 1)) L.length) h ((L.length - 1 : Nat)) (L.length - 1) (by rw [z8]; omega) (by rw [z8]; omega) (by omega) (by omega);rw [z8] at ho c1 c2;have e1 := zdk (n := n) (h := h) (l := L) h1 h4 (j := k) (by omega);rw [zQO hk] at e1;have hl := zPp n h k L (L.getD k zu) h1 h2 h3 h4 hk k (by omega);have ep := zP0 (n := n) (h := h) (z := L.length - 1) (M := mvN L k (L.length - 1)) (by omega) (by rw [zde]; omega);rw [zIK hk, show L.length - 1 + 1 = L.length by omega] at ep;have el : (L.eraseIdx k).length = L.length - 1 := by rw [zTG, zQO hk]
 have er : zA (rg n h (L.eraseIdx k)) = .agg [.sl ((((wN n h (mvN L k (L.length - 1)) L.length).map zg).set ((h + (L.length - 1)) % n) (zg zu))), .int .i64 h, .int .i64 ((L.length : Int) - 1)] := by
  have ez : ((L.length - 1 : Nat) : Int) = (L.length : Int) - 1 := by omega
  simp only [zA, rg, el, ep, zRN, ez]
 rw [er];clear er ep el;have j1 : (h + k) % n < n := zd9 h1;have j2 : (h + (L.length - 1)) % n < n := zd9 h1;have w1 := z8 n h L L.length;have w2 := z8 n h (mvN L k (L.length - 1)) L.length;rw [tkS, zIM, <- e1] at hl;rw [<- e1];clear e1;have ez : ((L.length - 1 : Nat) : Int) = (L.length : Int) - 1 := by omega
 rw [ez] at c2;simp only [zA, rg];generalize wN n h (mvN L k (L.length - 1)) L.length = w' at *;generalize wN n h L L.length = w at *;generalize (h + k) % n = a at *;generalize (h + (L.length - 1)) % n = b at *;rw [za (show a < w.length by omega)] at hl ⊢;simp only [zg, zu] at *;rw [ze zxm (by simp)]; simp -implicitDefEqProofs (disch := omega) only [zvq, zg, za, go_sem, *]; (try simp only [pA, pB, pC, pD, pE, pF, pG, pH, pI, pJ, pK, pL, pM, pN, pO, pP, if_true, if_false]); repeat' (first | done | rfl | ((first | refine zK (fun hq => ?_) (fun hq => ?_) | refine zM (fun hq => ?_) (fun hq => ?_)) <;> (try (first | (exfalso; omega) | contradiction)) <;> (try simp -implicitDefEqProofs (disch := omega) only [zg, za, go_sem, *]) <;> (try simp only [pA, pB, pC, pD, pE, pF, pG, pH, pI, pJ, pK, pL, pM, pN, pO, pP, if_true, if_false]))); (all_goals try rfl); (all_goals try (repeat' (first | done | rfl | (exfalso; omega) | contradiction | (refine zN (fun hq => ?_) (fun hq => ?_)))))
def rmE (r : z9) (id : Int) : Int := if zW r ≠ 0 then zW r else if z5 (zw r) id < 0 then 4 else 0
def rmD (r : z9) (id : Int) : z9 × Message × Int := if rmE r id = 0 then (rg r.cells.length r.head.toNat ((zw r).eraseIdx (z5 (zw r) id).toNat), (zw r).getD (z5 (zw r) id).toNat zu, 0) else (zdl, zu, rmE r id)
theorem zra {l : List Message} {id : Int} (h : 0 <= z5 l id) : (z5 l id).toNat < l.length := by
 unfold z5 zU at h ⊢
 cases hc : l.findIdx? (fun m : Message => decide (m.id = id)) with
 | none => rw [hc] at h; simp at h
 | some i =>
  obtain ⟨hi, _⟩ := zRR.1 hc;simpa using hi
theorem zNV (r : z9) (id : Int) (hL : r.cells.length <= 4294967296) : zd G ze8 [.d (zA r), .d (.int .i64 id)] [] = some (.d (.tup [zA (rmD r id).1, zg (rmD r id).2.1, .int .i64 (rmD r id).2.2]), []) := by
 have hv := zot r hL
 by_cases e1 : zW r = 0
 · obtain ⟨n, h, hrg, h1, h2, h3, h4, h5, h6⟩ := ztw e1;have hc : r.cells.length = n := by rw [hrg]; exact z8 _ _ _ _
   have hh : r.head.toNat = h := by rw [hrg]; rfl
   have hf := zA6 (wN n h (zw r) (zw r).length) h (zw r).length id (by rw [z8]; exact h2) (by rw [z8]; exact h3) (by rw [z8]; exact h4);rw [zfP h1 h4] at hf;rw [e1] at hv
   by_cases e2 : z5 (zw r) id < 0
   · have he : rmE r id = 4 := by unfold rmE; rw [zQN (fun hc => hc e1), zQO e2]
     have hd : rmD r id = (zdl, zu, 4) := by unfold rmD; rw [he, zQN (by decide)]
     rw [hd];clear he hd h5 h6 e1 hc hh;generalize z5 (zw r) id = q at *;generalize zw r = L at *;subst hrg;simp only [zA, rg, zdl, zu, zg, zQR] at *;rw [ze zrj (by simp)]; simp -implicitDefEqProofs (disch := omega) only [zk9, za, go_sem, *]
   · have he : rmE r id = 0 := by unfold rmE; rw [zQN (fun hc => hc e1), zQN e2]
     have hd : rmD r id = (rg n h ((zw r).eraseIdx (z5 (zw r) id).toNat), (zw r).getD (z5 (zw r) id).toNat zu, 0) := by unfold rmD; rw [zQO he, hc, hh]
     have hk := zra (show 0 <= z5 (zw r) id by omega);have ht := ztM n h (z5 (zw r) id).toNat (zw r) h1 h2 h3 h4 hk;rw [hd];have eq : ((z5 (zw r) id).toNat : Int) = z5 (zw r) id := by omega
     rw [eq] at ht;clear he hd h5 h6 e1 hc hh hk eq;generalize rg n h ((zw r).eraseIdx (z5 (zw r) id).toNat) = r2 at *;generalize (zw r).getD (z5 (zw r) id).toNat zu = m at *;generalize z5 (zw r) id = q at *;generalize zw r = L at *;subst hrg;simp only [zA, rg, zg] at *;rw [ze zrj (by simp)]; simp -implicitDefEqProofs (disch := omega) only [zk9, za, go_sem, *]
 · have he : rmE r id = zW r := by unfold rmE; rw [zQO e1]
   have hd : rmD r id = (zdl, zu, zW r) := by unfold rmD; rw [he, zQN e1]
   rw [hd];clear he hd;generalize zW r = v at *;simp only [zA, zdl, zu, zg, zQR] at *;rw [ze zrj (by simp)]; simp -implicitDefEqProofs (disch := omega) only [zk9, za, go_sem, *]
def pfD (r : z9) (m : Message) : z9 × Int := if zbl r m = 0 then (rg r.cells.length ((r.head.toNat + r.cells.length - 1) % r.cells.length) (m :: zw r), 0) else (zdl, zbl r m)
structure RO where
 h : Nat
 L : List Message
 id : Int
 a : Nat
 i : Nat
def roS (l : List Int) (lo hi : Int) (n : Nat) (s : RO) : St := ⟨[(0, .ref 1000000 0 0), (3, .d (.int .i64 s.id)), (4, .d (.int .i64 lo)), (5, .d (.int .i64 hi)), (12, .ref 12 0 0), (13, .ref 13 0 0), (15, .d (.int .i64 s.i)), (1000000, .ref 1000000 1 0)], [(12, .row [.agg [.xsl [], .d (.int .i64 0), .d (.int .i64 0)]]), (13, .row [.d (zA (rg n s.h s.L))]), (1000000, zo l s.a)]⟩
def mOK (lo hi id0 : Int) (L : List Message) (id : Int) : Prop := (∀ m ∈ L, zD m = 0 /\ lo <= m.route /\ m.route <= hi /\ id0 <= m.id /\ m.id < id /\ m.count <= 3) /\ (L.map (·.id)).Nodup
def zBa (lo hi id0 : Int) (n : Nat) (s : RO) : Prop := s.h < n /\ s.L.length + s.i <= n /\ s.L.length + s.i <= 6 /\ id0 + s.L.length = s.id /\ mOK lo hi id0 s.L s.id
theorem zIh {lo hi id0 id : Int} {L : List Message} {m : Message} (h : mOK lo hi id0 L id) (hg : zn3 m id lo hi) (hv : zD m = 0) (h0 : id0 <= id) : mOK lo hi id0 (L ++ [m]) (id + 1) /\ mOK lo hi id0 (m :: L) (id + 1) := by
 obtain ⟨h1, h2⟩ := h;have hne : ∀ x ∈ L, x.id ≠ m.id := fun x hx => by have := h1 x hx; have := hg.1; omega
 have hm : zD m = 0 /\ lo <= m.route /\ m.route <= hi /\ id0 <= m.id /\ m.id < id + 1 /\ m.count <= 3 := ⟨hv, hg.2.1, hg.2.2.1, by have := hg.1; omega, by have := hg.1; omega, hg.2.2.2.2.2.2.1⟩;have hall : ∀ x ∈ L, zD x = 0 /\ lo <= x.route /\ x.route <= hi /\ id0 <= x.id /\ x.id < id + 1 /\ x.count <= 3 := fun x hx => by
  obtain ⟨k1, k2, k3, k4, k5, k6⟩ := h1 x hx; exact ⟨k1, k2, k3, k4, by omega, k6⟩
 refine ⟨⟨fun x hx => ?_, ?_⟩, ⟨fun x hx => ?_, ?_⟩⟩
 · rcases zRc.1 hx with hx | hx
   · exact hall x hx
   · rw [zRr] at hx; subst hx; exact hm
 · rw [zQY, zRQ];refine ⟨h2, by simp, fun a ha b hb => ?_⟩;obtain ⟨x, hx, rfl⟩ := zQ3.1 ha;simp at hb; subst hb;exact hne x hx
 · rcases zRs.1 hx with rfl | hx
   · exact hm
   · exact hall x hx
 · rw [zQS, zSj];refine ⟨fun hc => ?_, h2⟩;obtain ⟨x, hx, e⟩ := zQ3.1 hc;exact hne x hx e
def zBb (l : List Int) (lo hi id0 : Int) (n : Nat) (r : Option (zJ × St)) : Prop := ∃ h L a' id, h < n /\ L.length <= n /\ L.length <= 6 /\ id <= id0 + 6 /\ mOK lo hi id0 L id /\ r = some (.exit 0, ⟨[(12, .ref 12 0 0), (13, .ref 13 0 0), (1000000, .ref 1000000 1 0)], [(12, .row [.agg [.xsl [], .d (.int .i64 0), .d (.int .i64 0)]]), (13, .row [.d (zA (rg n h L))]), (1000000, zo l a')]⟩)
theorem zNI (l : List Int) (lo hi id0 : Int) (n : Nat) (hL : l.length <= 4000) (h2 : 0 <= lo) (h3 : lo <= hi) (h4 : hi < 65536) (hid : 1 <= id0) (hid2 : id0 <= 900) (hn : 1 <= n) (hn2 : n <= 12) : ∀ s : RO, zBa lo hi id0 n s -> zBb l lo hi id0 n (zT G [] znG (roS l lo hi n s)) := by
 refine zfG (fun s : RO => s.i) (zBa lo hi id0 n) (roS l lo hi n) (fun _ => zc0 (zBb l lo hi id0 n)) fun ⟨h, L, id, a, i⟩ ⟨i1, i2, i3, i4, i5⟩ LL ih => ?_;simp only at i1 i2 i3 i4 i5
 by_cases h0 : 0 < i
 · obtain ⟨c, a1, q1, c1, c2⟩ := ((⟨_, _, zcN l a 2 hL (by omega) (by omega), zbL l a (by omega)⟩ : ∃ y a', zd G zfX [.ref 1000000 0 0, .d (.int .i64 2)] [(1000000, zo l a)] = some (.d (.int .i64 y), [(1000000, zo l a')]) /\ 0 <= y /\ y < 2));obtain ⟨m, a2, hg, hmc⟩ := zzV l a1 id lo hi hL h2 h3 h4;have hv := zxE hg (by omega) (by omega) h2 h4;have hall : ∀ m ∈ L, zD m = 0 := fun m hm => (i5.1 m hm).1;have hne : ∀ x ∈ L, x.id ≠ m.id := fun x hx => by have := i5.1 x hx; have := hg.1; omega
   have p1 := zMj hn hn2 i1 (by omega) hall i5.2 hv hne;have p2 := zMm hn hn2 i1 (by omega) hall i5.2 hv hne;have hp := zIh i5 hg hv (by omega);have e : ((i - 1 : Nat) : Int) = (i : Int) - 1 := by omega
   have j1 := ih ⟨h, L ++ [m], id + 1, a2, i - 1⟩ ⟨i1, by simp only [zQT, zRI]; omega, by simp only [zQT, zRI]; omega, by simp only [zQT, zRI]; omega, hp.1⟩ (by simp only; omega);have j2 := ih ⟨(h + n - 1) % n, m :: L, id + 1, a2, i - 1⟩ ⟨zRK _ (by omega), by simp only [zQX]; omega, by simp only [zQX]; omega, by simp only [zQX]; omega, hp.2⟩ (by simp only; omega);clear ih hp hv hall hne hg i5;simp only [roS, e] at j1 j2;simp only [roS, znG];generalize rg n h (L ++ [m]) = r1 at *;generalize rg n ((h + n - 1) % n) (m :: L) = r2 at *;generalize rg n h L = r0 at *
   by_cases hc : c = 0
   · subst hc;clear j2 p2;simp only [zA, zg] at p1 j1 hmc ⊢;simp -implicitDefEqProofs (disch := omega) only [za, go_sem, *]
   · obtain rfl : c = 1 := by omega
     clear j1 p1;simp only [zA, zg] at p2 j2 hmc ⊢;simp -implicitDefEqProofs (disch := omega) only [za, go_sem, *]
 · clear ih;obtain rfl : i = 0 := by omega
   simp only [roS, znG];generalize hr : rg n h L = r0;simp only [zA];simp -implicitDefEqProofs (disch := omega) only [za, go_sem, *];subst hr;exact ⟨h, L, a, id, i1, by omega, by omega, by omega, i5, rfl⟩
theorem zNG (l : List Int) (a : Nat) (n : Nat) (id lo hi : Int) (hL : l.length <= 4000) (h2 : 0 <= lo) (h3 : lo <= hi) (h4 : hi < 65536) (hid : 1 <= id) (hid2 : id <= 900) (hn : 1 <= n) (hn2 : n <= 12) : ∃ h L a' idn, h < n /\ L.length <= n /\ L.length <= 6 /\ idn <= id + 6 /\ mOK lo hi id L idn /\
    zd G zhM [.ref 1000000 0 0, .d (.int .i64 n), .d (.int .i64 6), .d (.int .i64 id), .d (.int .i64 lo), .d (.int .i64 hi)] [(1000000, zo l a)] = some (.d (zA (rg n h L)), [(1000000, zo l a')]) := by
 have hw := zz7 n hn hn2;have q1 := zcN l a n hL (by omega) (by omega);have b1 := zbL l a (n := n) (by omega);obtain ⟨h0, hh⟩ : ∃ h0 : Nat, nD l a n = h0 := ⟨(nD l a n).toNat, by omega⟩;rw [hh] at q1 b1;clear hh;generalize (zaB l a).2 = a1 at *;obtain ⟨k, hk, hk2⟩ : ∃ k : Nat, (n < 6 /\ k = n + 1 \/ ¬ n < 6 /\ k = 7) /\ 1 <= k := by
  by_cases hc : n < 6
  · exact ⟨n + 1, .inl ⟨hc, rfl⟩, by omega⟩
  · exact ⟨7, .inr ⟨hc, rfl⟩, by omega⟩
 have q2 := zcN l a1 k hL (by omega) (by omega);have b2 := zbL l a1 (n := k) (by omega);obtain ⟨i, hi0⟩ : ∃ i : Nat, nD l a1 k = i := ⟨(nD l a1 k).toNat, by omega⟩;rw [hi0] at q2 b2;clear hi0;generalize (zaB l a1).2 = a2 at *;obtain ⟨h, L, a', idn, g1, g2, g3, g4, g5, hl⟩ := zNI l lo hi id n hL h2 h3 h4 hid hid2 hn hn2 ⟨h0, [], id, a2, i⟩ ⟨by simp only; omega, by simp only [zQ1]; omega, by simp only [zQ1]; omega, by simp, by simp [mOK]⟩;refine ⟨h, L, a', idn, g1, g2, g3, g4, g5, ?_⟩;clear g5;have ez : (List.replicate n zu).length = n := zTc;have e0 : rg n h0 [] = ⟨List.replicate n zu, h0, 0⟩ := rfl;simp only [roS, e0] at hl;generalize hz : rg n h L = z at *;clear hz e0;generalize List.replicate n zu = c at *;simp only [zA] at hw hl ⊢
 rcases hk with ⟨hc, rfl⟩ | ⟨hc, rfl⟩
 · have hc2 : (n : Int) < 6 := by omega
   simp only [zQ2, zQZ, zQW, zQ5, zQ0, zQT, zQV, zQR, zQ1, zQY, zQS, zQX, zQU, zo, zC] at q2;rw [ze zrb (by simp)]; simp -implicitDefEqProofs (disch := omega) only [zpy, za, go_sem, *]
 · have hc2 : ¬ (n : Int) < 6 := by omega
   simp only [zQ2, zQZ, zQW, zQ5, zQ0, zQT, zQV, zQR, zQ1, zQY, zQS, zQX, zQU, zo, zC] at q2;rw [ze zrb (by simp)]; simp -implicitDefEqProofs (disch := omega) only [zpy, za, go_sem, *]
def zE (l : List Lease) (id : Int) : Nat := (l.filter fun x => decide (x.msg.id < id)).length
theorem zko (l : List Lease) (id : Int) : zE l id <= l.length := zSg _ _
theorem zbM {l : List Lease} (h : l.Pairwise fun x y => x.msg.id < y.msg.id) {id : Int} : ∀ {k : Nat} (hk : k < l.length), k < zE l id ↔ l[k].msg.id < id := by
 induction l with
 | nil => intro k hk; exact absurd hk (by simp)
 | cons x l ih =>
  intro k hk;obtain ⟨h1, h2⟩ := zSi.1 h
  by_cases hx : x.msg.id < id
  · have e : zE (x :: l) id = zE l id + 1 := by simp [zE, hx]
    rw [e]
    cases k with
    | zero => simp [hx]
    | succ k => have := ih h2 (k := k) (by simpa using hk); simp only [zTm]; rw [<- this]; omega
  · have e : zE (x :: l) id = 0 := by
     unfold zE;rw [zRq, List.filter_eq_nil_iff];intro y hy;simp only [decide_eq_true_eq]
     rcases zRs.1 hy with rfl | hy
     · exact hx
     · have := h1 y hy; omega
    rw [e];have hle : id <= ((x :: l)[k]).msg.id := by
     cases k with
     | zero => simp only [List.getElem_cons_zero]; omega
     | succ k => simp only [zTm]; have := h1 _ (zRe (l := l) (n := k) (by simpa using hk)); omega
    omega
theorem zp4 (a b : Int) : (za1 a b < 0) ↔ a < b := by unfold za1; split <;> (try split) <;> omega
theorem zp3 (a b : Int) : (za1 a b = 0) ↔ a = b := by unfold za1; split <;> (try split) <;> omega
theorem zeD {l : List Lease} (h : l.Pairwise fun x y => x.msg.id < y.msg.id) (id : Int) : (0 <= zB l id) ↔ ∃ hp : zE l id < l.length, l[zE l id].msg.id = id := by
 constructor
 · intro h0;obtain ⟨k, hk, e1, e2⟩ := zeE h0;have a1 := zbM h (id := id) hk;have hle : zE l id <= k := by omega
   have hpl : zE l id < l.length := by omega
   have a2 := zbM h (id := id) hpl;refine ⟨hpl, ?_⟩;have : ¬ zE l id < k := fun hlt => by
    have := zRV.1 h (zE l id) k hpl hk hlt;omega
   have : zE l id = k := by omega
   simp only [this, e2]
 · rintro ⟨hp, e⟩;have := zjk h hp;rw [e] at this; omega
theorem zjm {l : List Lease} (h : l.Pairwise fun x y => x.msg.id < y.msg.id) {id : Int} (h0 : 0 <= zB l id) : zB l id = zE l id := by
 obtain ⟨hp, e⟩ := (zeD h id).1 h0;have := zjk h hp
 rwa [e] at this
theorem zcU {t : Table} (h : zF t = 0) : t.l.length <= 12 /\ zbq t.l = 0 /\ zaH t.heap = 0 /\ zdd t = true := by
 unfold zF at h
 split at h
 · cases h
 split at h
 · omega
 split at h
 · omega
 split at h
 · rename_i h1 h2 h3 h4; exact ⟨by omega, by simpa using h2, by simpa using h3, h4⟩
 · cases h
def zdI (l : List Lease) (m : Message) (d : Int) : List Lease := l.take (zE l m.id) ++ [⟨m, d⟩] ++ l.drop (zE l m.id)
def za3 (t : Table) (m : Message) (d : Int) : Int :=
 if zF t ≠ 0 then zF t else if zD m ≠ 0 then zD m else if m.gen = 0 then 7 else if ¬ (0 <= d /\ d <= 1073741824) then 1 else if t.l.length = 12 then 3 else if 0 <= zB t.l m.id then 10 else (zcd t.heap (d, m.id)).2
def zQ (t : Table) (m : Message) (d : Int) : Table × Int := if za3 t m d = 0 then (⟨zdI t.l m d, (zcd t.heap (d, m.id)).1⟩, 0) else (zP, za3 t m d)
def zcE (t : Table) (id : Int) : Lease × Bool := if zF t = 0 /\ 0 <= zB t.l id then (t.l.getD (zB t.l id).toNat zax, true) else (zax, false)
def za8 (l : List Lease) (i : Nat) : List Lease := l.take i ++ l.drop (i + 1)
def zbs (t : Table) (id : Int) : Int := if zF t ≠ 0 then zF t else if ¬ 0 <= zB t.l id then 4 else (za9 t.heap id).2
def zaq (t : Table) (id : Int) : Table × Message × Int := if zbs t id = 0 then (⟨za8 t.l (zB t.l id).toNat, (za9 t.heap id).1⟩, (t.l.getD (zB t.l id).toNat zax).msg, 0) else (zP, zu, zbs t id)
def ztB (l : List Lease) (i : Nat) (d : Int) : List Lease := l.set i { l.getD i zax with deadline := d }
theorem zcL (l : List Lease) : zbq l = 0 ↔ (l.Pairwise fun x y => x.msg.id < y.msg.id) /\ ∀ x ∈ l, zD x.msg = 0 /\ x.msg.gen ≠ 0 /\ 0 <= x.deadline /\ x.deadline <= 1073741824 := by
 have h0 : zbq l = 0 ↔ ∀ i, i < l.length -> zbp l i = 0 := by
  rcases zj8 l with ⟨k, h1, h2, h3⟩ | ⟨h1, h2⟩
  · constructor
    · intro h; omega
    · intro h;have := zT9 h1;exact absurd (h k (zR3.1 this)) h2
  · refine ⟨fun _ i hi => ?_, fun _ => h2⟩;have := zTH.1 h1 i (zR3.2 hi);unfold zb9 at this;simpa using this
 constructor
 · intro h;refine ⟨zbT h, fun x hx => ?_⟩;obtain ⟨i, hi, rfl⟩ := zRO hx;have := h0.1 h i hi;unfold zbp at this;rw [za hi] at this
   split at this
   · omega
   split at this
   · omega
   split at this
   · omega
   rename_i q1 q2 q3;exact ⟨by simpa using q1, q2, by omega, by omega⟩
 · rintro ⟨ha, hx⟩;refine h0.2 fun i hi => ?_;obtain ⟨p1, p2, p3, p4⟩ := hx _ (zRe hi);unfold zbp;rw [za hi, zQN (by simpa using p1), zQN p2, zQN (by omega), zQN];rintro ⟨q1, q2⟩;rw [za (show i - 1 < l.length by omega)] at q2;have := zRV.1 ha (i - 1) i (by omega) hi (by omega);omega
theorem zbb (t : Table) : zF t = 0 ↔ t.l.length <= 12 /\ zbq t.l = 0 /\ Ok t.heap /\ t.heap.Perm (t.l.map zaJ) := by
 constructor
 · intro h;obtain ⟨h1, h2, h3, h4⟩ := zcU h;have o := (zdR _).1 h3;have ha := zbT h2;have hR : zfI t = true := by rw [<- zs3 h2 h3]; exact h4
   obtain ⟨e, q⟩ := (zs2 ha).1 hR;obtain ⟨_, q2⟩ := zkd.1 h4;refine ⟨h1, h2, o, (zUa ?_ (zph ha)).2 fun d => ⟨q d, q2 d⟩⟩;exact List.Pairwise.of_map (fun d : Due => d.2) (fun a b hab e => hab (by rw [e])) o.ids
 · rintro ⟨h1, h2, o, hp⟩;have h3 := (zdR _).2 o;have h4 : zdd t = true := zkd.2 ⟨by rw [hp.length_eq]; simp, fun d hd => hp.mem_iff.2 hd⟩;unfold zF;rw [zQN (by omega), zQN (by simpa using h2), zQN (by simpa using h3), zQO h4]
theorem zjS {t : Table} (h : t.heap.Perm (t.l.map zaJ)) (id : Int) : id ∈ t.heap.map (·.2) ↔ ∃ x ∈ t.l, x.msg.id = id := by
 constructor
 · intro hm;obtain ⟨d, hd, e⟩ := zQ3.1 hm;obtain ⟨x, hx, e2⟩ := zQ3.1 (h.mem_iff.1 hd);exact ⟨x, hx, by rw [<- e, <- e2]; rfl⟩
 · rintro ⟨x, hx, e⟩;exact zQ3.2 ⟨zaJ x, h.mem_iff.2 (zQ3.2 ⟨x, hx, rfl⟩), e⟩
theorem zeC {l : List Lease} (id : Int) : 0 <= zB l id ↔ ∃ x ∈ l, x.msg.id = id := by
 constructor
 · intro h;obtain ⟨k, hk, _, e⟩ := zeE h;exact ⟨l[k], zRe hk, e⟩
 · rintro ⟨x, hx, e⟩
   by_cases h : 0 <= zB l id
   · exact h
   · exact absurd e (zjl (by omega) x hx)
theorem zt3 {m : Message} {d : Int} (hm : zD m = 0) (h0 : 0 <= d) (h1 : d <= 1073741824) : zaY (d, m.id) = true := by
 unfold zD at hm
 split at hm
 · rename_i h;unfold zaY;simp;omega
 · cases hm
theorem zhp {t : Table} {m : Message} {d : Int} (h : zF t = 0) (hm : zD m = 0) (h0 : 0 <= d) (h1 : d <= 1073741824) (hl : t.l.length ≠ 12) (hf : zB t.l m.id < 0) :
    zcd t.heap (d, m.id) = (zb0 t.heap (d, m.id), 0) /\ Ok (zb0 t.heap (d, m.id)) /\ (zb0 t.heap (d, m.id)).Perm ((d, m.id) :: t.heap) := by
 obtain ⟨q1, q2, q3, q4⟩ := (zbb t).1 h;refine zAw q3 (zt3 hm h0 h1) (by have := q4.length_eq; simp at this; omega) fun hc => ?_;have := (zeC m.id).2 ((zjS q4 m.id).1 hc);omega
theorem zjW (l : List Lease) (m : Message) (d : Int) : (zdI l m d).Perm (⟨m, d⟩ :: l) := by
 unfold zdI;have := zR1 (a := (⟨m, d⟩ : Lease)) (l₁ := l.take (zE l m.id)) (l₂ := l.drop (zE l m.id));rw [zSN] at this;rw [zRC];exact this
theorem zG5 {l : List Lease} (h : l.Pairwise fun x y => x.msg.id < y.msg.id) {m : Message} {d : Int} (hn : ∀ x ∈ l, x.msg.id ≠ m.id) : (zdI l m d).Pairwise fun x y => x.msg.id < y.msg.id := by
 unfold zdI;have hlt : ∀ x ∈ l.take (zE l m.id), x.msg.id < m.id := fun x hx => by
  obtain ⟨k, hk, rfl⟩ := zRO hx;simp only [zRx] at hk;rw [zSK];exact (zbM h (by omega)).1 (by omega)
 have hgt : ∀ x ∈ l.drop (zE l m.id), m.id < x.msg.id := fun x hx => by
  obtain ⟨k, hk, rfl⟩ := zRO hx;simp only [zRp] at hk;rw [zTI];have h1 := zbM h (id := m.id) (k := zE l m.id + k) (by omega);have h2 := hn _ (zRe (l := l) (n := zE l m.id + k) (by omega));omega
 rw [zRC, zTJ];refine ⟨h.sublist (zTK ..), ?_, fun a ha b hb => ?_⟩
 · rw [zS2, zSi];exact ⟨fun x hx => hgt x hx, h.sublist (zTL ..)⟩
 · rw [zS2, zRs] at hb;have h1 := hlt a ha
   rcases hb with rfl | hb
   · exact h1
   · have := hgt b hb; omega
theorem zgY {t : Table} {m : Message} {d : Int} (h : (zQ t m d).2 = 0) : zF (zQ t m d).1 = 0 /\ zF t = 0 /\ (zQ t m d).1.l = zdI t.l m d /\ zB t.l m.id < 0 := by
 have hE : za3 t m d = 0 := by
  unfold zQ at h
  split at h
  · assumption
  · rename_i hc; exact absurd h hc
 unfold zQ;rw [zQO hE];unfold za3 at hE
 split at hE
 · omega
 split at hE
 · omega
 split at hE
 · cases hE
 split at hE
 · cases hE
 split at hE
 · cases hE
 split at hE
 · cases hE
 rename_i h1 h2 h3 h4 h5 h6;have h1 : zF t = 0 := by simpa using h1
 have h2 : zD m = 0 := by simpa using h2
 obtain ⟨p1, p2, p3⟩ := zhp h1 h2 (by omega) (by omega : d <= 1073741824) h5 (by omega);obtain ⟨q1, q2, q3, q4⟩ := (zbb t).1 h1;obtain ⟨r1, r2⟩ := (zcL _).1 q2;have hn : ∀ x ∈ t.l, x.msg.id ≠ m.id := zjl (by omega);refine ⟨(zbb _).2 ⟨?_, (zcL _).2 ⟨zG5 r1 hn, fun x hx => ?_⟩, ?_, ?_⟩, h1, rfl, by omega⟩
 · have := (zjW t.l m d).length_eq;simp only [zQX] at this;show (zdI t.l m d).length <= 12;omega
 · rcases zRs.1 ((zjW t.l m d).mem_iff.1 hx) with rfl | hx
   · exact ⟨h2, h3, by simp only; omega, by simp only; omega⟩
   · exact r2 x hx
 · rw [p1]; exact p2
 · rw [p1];show (zb0 t.heap (d, m.id)).Perm ((zdI t.l m d).map zaJ);exact p3.trans (((List.Perm.cons _ q4)).trans ((zjW t.l m d).map zaJ).symm)
theorem zns {t : Table} {m : Message} {d : Int} (h : zF t = 0) (hm : zD m = 0) (hg : m.gen ≠ 0) (h0 : 0 <= d) (h1 : d <= 1073741824) (hl : t.l.length ≠ 12) (hf : zB t.l m.id < 0) : (zQ t m d).2 = 0 := by
 have hp := (zhp h hm h0 h1 hl hf).1;have : za3 t m d = 0 := by
  unfold za3;rw [zQN (by simpa using h), zQN (by simpa using hm), zQN hg, zQN (by omega), zQN hl, zQN (by omega), hp]
 unfold zQ;rw [zQO this]
theorem zly (l : List Lease) (i : Nat) : za8 l i = l.eraseIdx i := by rw [za8, zTF]
theorem zfs {l : List Lease} {i : Nat} (hi : i < l.length) : (l[i] :: za8 l i).Perm l := by
 have h1 := zR1 (a := l[i]) (l₁ := l.take i) (l₂ := l.drop (i + 1));rw [<- zRH hi, zSN] at h1;exact h1.symm
theorem zqe {t : Table} (h : zF t = 0) {k : Nat} (hk : k < t.l.length) {d : Due} (hd : d ∈ t.heap) (e : d.2 = t.l[k].msg.id) : d = zaJ t.l[k] := by
 obtain ⟨q1, q2, q3, q4⟩ := (zbb t).1 h;obtain ⟨x, hx, e2⟩ := zQ3.1 (q4.mem_iff.1 hd);obtain ⟨j, hj, rfl⟩ := zRO hx;have : j = k := zpg (zbT q2) hj hk (by rw [<- e, <- e2]; rfl);subst this;exact e2.symm
theorem zkt {t : Table} {id : Int} (h : zF t = 0) (hf : 0 <= zB t.l id) : ∃ k, ∃ hk : k < t.l.length, zB t.l id = k /\ t.l[k].msg.id = id /\ (za9 t.heap id).2 = 0 /\ Ok (za9 t.heap id).1 /\ (zaJ t.l[k] :: (za9 t.heap id).1).Perm t.heap := by
 obtain ⟨q1, q2, q3, q4⟩ := (zbb t).1 h;obtain ⟨k, hk, e1, e2⟩ := zeE hf;refine ⟨k, hk, e1, e2, ?_⟩;have hin : id ∈ t.heap.map (·.2) := (zjS q4 id).2 ⟨_, zRe hk, e2⟩;have h0 : ¬ zaj t.heap id < 0 := fun hc => (zqk _ _).1 hc hin;have hlt := zwn t.heap id;obtain ⟨d1, d2⟩ := zwb q3 (zaj t.heap id).toNat (by omega);have hat := zwl t.heap id (by omega);have hr : za9 t.heap id = (zey t.heap (zaj t.heap id).toNat, 0) := by
  unfold za9;rw [zQN (by simpa using (zdR _).2 q3), zQN h0]
 rw [hr];refine ⟨rfl, d1, ?_⟩;have : t.heap.getD (zaj t.heap id).toNat dz = zaJ t.l[k] := by
  refine zqe h hk ?_ (by rw [hat, e2]);rw [za (show (zaj t.heap id).toNat < t.heap.length by omega)];exact zRe _
 rw [<- this];exact d2
theorem zoq {t : Table} {id : Int} (h : zF t = 0) : (zaq t id).2.2 = 0 ↔ 0 <= zB t.l id := by
 constructor
 · intro h0
   by_cases hf : 0 <= zB t.l id
   · exact hf
   · have e : zbs t id = 4 := by unfold zbs; rw [zQN (by simpa using h), zQO hf]
     unfold zaq at h0;rw [e, zQN (by decide)] at h0
     cases h0
 · intro hf;obtain ⟨k, hk, e1, e2, e3, _⟩ := zkt h hf;have e : zbs t id = 0 := by unfold zbs; rw [zQN (by simpa using h), zQN (by omega), e3]
   unfold zaq;rw [zQO e]
theorem ztt {t : Table} {id : Int} (h : (zaq t id).2.2 = 0) : zF (zaq t id).1 = 0 /\ zF t = 0 /\ ∃ k, ∃ hk : k < t.l.length, zB t.l id = k /\ t.l[k].msg.id = id /\ (zaq t id).1.l = za8 t.l k /\ (zaq t id).2.1 = t.l[k].msg := by
 have hE : zbs t id = 0 := by
  unfold zaq at h
  split at h
  · assumption
  · rename_i hc; exact absurd h hc
 have h1 : zF t = 0 := by
  unfold zbs at hE
  split at hE
  · omega
  · rename_i hc; simpa using hc
 have hf : 0 <= zB t.l id := (zoq h1).1 h;obtain ⟨k, hk, e1, e2, e3, e4, e5⟩ := zkt h1 hf;obtain ⟨q1, q2, q3, q4⟩ := (zbb t).1 h1;obtain ⟨r1, r2⟩ := (zcL _).1 q2;have hd : zaq t id = (⟨za8 t.l k, (za9 t.heap id).1⟩, t.l[k].msg, 0) := by
  unfold zaq;rw [zQO hE, e1, zRo, za hk]
 rw [hd];refine ⟨(zbb _).2 ⟨?_, (zcL _).2 ⟨?_, fun x hx => ?_⟩, e4, ?_⟩, h1, k, hk, e1, e2, rfl, rfl⟩
 · have := (zfs hk).length_eq;simp only [zQX] at this;show (za8 t.l k).length <= 12;omega
 · show (za8 t.l k).Pairwise _;rw [zly]; exact r1.sublist (List.eraseIdx_sublist ..)
 · exact r2 x ((zfs hk).mem_iff.1 (List.mem_cons_of_mem _ hx))
 · show (za9 t.heap id).1.Perm ((za8 t.l k).map zaJ);have h1 := e5.trans (q4.trans ((zfs hk).map zaJ).symm);exact List.Perm.cons_inv h1
def gS (t : Table) (m : Message) (d : Int) (k : Nat) : St := ⟨[(2, .d (.int .i64 d)), (3, .ref 3 0 0), (4, .ref 4 0 0), (6, .ref 6 0 0), (10, .d (.int .i64 k))], [(3, .row [.d (zO t)]), (4, .row [.d (zg m)]), (6, .row [.agg [.xsl [], .xsl []]])]⟩
theorem zM2 (t : Table) (m : Message) (d : Int) (hL : t.l.length <= 1000) (h : t.l.Pairwise fun x y => x.msg.id < y.msg.id) : ∀ k : Nat, k <= zE t.l m.id -> zT G [] zsE (gS t m d k) = some (.exit 1, gS t m d (zE t.l m.id)) := by
 refine zap (fun k => zE t.l m.id - k) (fun k => k <= zE t.l m.id) (gS t m d) _ fun k hk L ih => ?_;have hpl := zko t.l m.id;simp only [gS, zO, zg] at ih ⊢;simp only [zsE]
 by_cases h0 : k < t.l.length
 · have hp := zbM h (id := m.id) h0
   by_cases h1 : t.l[k].msg.id < m.id
   · have i1 := ih (k + 1) (by omega) (by omega);clear ih;simp only [zQ2, zQZ, zQW, zQ5, zQ0, zQT, zQV, zQR, zQ1, zQY, zQS, zQX, zQU, zo, zC] at i1;simp -implicitDefEqProofs (disch := omega) only [zt, za, go_sem, *]
   · have : k = zE t.l m.id := by omega
     subst this;clear ih hp;simp -implicitDefEqProofs (disch := omega) only [zt, za, go_sem, *]
 · have : k = zE t.l m.id := by omega
   subst this;clear ih;simp -implicitDefEqProofs (disch := omega) only [zt, za, go_sem, *]
theorem zM3 (t : Table) (m : Message) (d : Int) (hL : t.l.length <= 4294967296) (hH : t.heap.length <= 4294967296) : zd G zir [.d (zO t), .d (zg m), .d (.int .i64 d)] [] = some (.d (.tup [zO (zQ t m d).1, .int .i64 (zQ t m d).2]), []) := by
 have hv := zM5 t hL hH;rw [zPa] at hv;have hm := zoh m;have hf := zAP t m.id hL;have hp := zNc t.heap (d, m.id) hH;simp only [zO, zg, eD, eDE] at hv hm hf hp
 by_cases h1 : zF t = 0
 · obtain ⟨h12, hE, hD, hM⟩ := zcU h1;have ha := zbT hE;have hl := zM2 t m d (by omega) ha 0 (by omega);simp only [gS, zO, zg] at hl;simp only [zQ2, zQZ, zQW, zQ5, zQ0, zQT, zQV, zQR, zQ1, zQY, zQS, zQX, zQU, zo, zC] at hl;have hpl := zko t.l m.id
   by_cases h2 : zD m = 0
   · by_cases h3 : m.gen = 0
     · have e : zQ t m d = (zP, 7) := by simp [zQ, za3, h1, h2, h3]
       rw [e];simp only [zO, zg, zP];rw [h1] at hv;rw [h2] at hm;simp only [h3] at hm ⊢;clear hl;rw [ze zeI (by simp)]; simp -implicitDefEqProofs (disch := omega) only [zdX, za, go_sem, *]
     · by_cases h4 : 0 <= d /\ d <= 1073741824
       · by_cases h5 : t.l.length = 12
         · have e : zQ t m d = (zP, 3) := by simp [zQ, za3, h1, h2, h3, h4, h5]
           rw [e];simp only [zO, zg, zP];clear hl;rw [ze zeI (by simp)]; simp -implicitDefEqProofs (disch := omega) only [zdX, za, go_sem, *]
         · by_cases h6 : 0 <= zB t.l m.id
           · have e : zQ t m d = (zP, 10) := by simp [zQ, za3, h1, h2, h3, h4, h5, h6]
             rw [e];simp only [zO, zg, zP];clear hl;rw [ze zeI (by simp)]; simp -implicitDefEqProofs (disch := omega) only [zdX, za, go_sem, *]
           · have hps := (zhp h1 h2 h4.1 h4.2 h5 (by omega)).1;have e : zQ t m d = (⟨zdI t.l m d, (zcd t.heap (d, m.id)).1⟩, 0) := by simp [zQ, za3, h1, h2, h3, h4, h5, h6, hps]
             rw [e];simp only [hps] at hp;simp only [hps, zO, zg, zdI, zQY, zQS, zQR];have hz1 := zkR (t.l.take (zE t.l m.id));have hz2 := zkR (t.l.drop (zE t.l m.id));clear hps e;rw [ze zeI (by simp)]; simp -implicitDefEqProofs (disch := omega) only [zdX, zt, za, go_sem, *]
       · have e : zQ t m d = (zP, 1) := by simp [zQ, za3, h1, h2, h3, h4]
         rw [e];simp only [zO, zg, zP];clear hl
         by_cases h5 : d < 0
         · rw [ze zeI (by simp)]; simp -implicitDefEqProofs (disch := omega) only [zdX, za, go_sem, *]
         · have h6 : 1073741824 < d := by omega
           rw [ze zeI (by simp)]; simp -implicitDefEqProofs (disch := omega) only [zdX, za, go_sem, *]
   · have e : zQ t m d = (zP, zD m) := by simp [zQ, za3, h1, h2]
     rw [e];simp only [zO, zg, zP];clear hl;rw [ze zeI (by simp)]; simp -implicitDefEqProofs (disch := omega) only [zdX, za, go_sem, *]
 · have e : zQ t m d = (zP, zF t) := by simp [zQ, za3, h1]
   rw [e];simp only [zO, zg, zP];rw [ze zeI (by simp)]; simp -implicitDefEqProofs (disch := omega) only [zdX, za, go_sem, *]
theorem zeY {t : Table} (h : zF t = 0) : t.l.length <= 12 /\ t.heap.length <= 12 := by
 obtain ⟨q1, q2, q3, q4⟩ := (zbb t).1 h;exact ⟨q1, q3.len⟩
def zhz (t : Table) (b : Bool) : Go.Sim.AV := if b then .agg [.xsl [], .xsl []] else .d (zO t)
structure TB where
 t : Table
 id : Int
 a : Nat
 i : Nat
 b : Bool
def tbS (l : List Int) (lo hi : Int) (s : TB) : St := ⟨[(0, .ref 1000000 0 0), (2, .d (.int .i64 s.id)), (3, .d (.int .i64 lo)), (4, .d (.int .i64 hi)), (10, .ref 10 0 0), (11, .ref 11 0 0), (12, .d (.int .i64 s.i)), (1000000, .ref 1000000 1 0)], [(10, .row [.agg [.xsl [], .xsl []]]), (11, .row [zhz s.t s.b]), (1000000, zo l s.a)]⟩
def tOK (lo hi id0 : Int) (t : Table) (id : Int) : Prop := zF t = 0 /\ ∀ x ∈ t.l, lo <= x.msg.route /\ x.msg.route <= hi /\ id0 <= x.msg.id /\ x.msg.id < id /\ 0 <= x.msg.epoch
def zBw (lo hi id0 : Int) (n : Nat) (s : TB) : Prop := tOK lo hi id0 s.t s.id /\ id0 <= s.id /\ s.id <= id0 + 3 * ((n : Int) - (s.i : Int)) /\ s.t.l.length + s.i <= n /\ (s.b = true -> s.t = zP)
def zBx (l : List Int) (lo hi id0 : Int) (n : Nat) (r : Option (zJ × St)) : Prop := ∃ t a' b id, tOK lo hi id0 t id /\ t.l.length <= n /\ (b = true -> t = zP) /\ r = some (.exit 0, ⟨[(10, .ref 10 0 0), (11, .ref 11 0 0), (1000000, .ref 1000000 1 0)], [(10, .row [.agg [.xsl [], .xsl []]]), (11, .row [zhz t b]), (1000000, zo l a')]⟩)
theorem zPk (l : List Int) (lo hi id0 : Int) (n : Nat) (hL : l.length <= 4000) (h2 : 0 <= lo) (h3 : lo <= hi) (h4 : hi < 65536) (hid : 1 <= id0) (hid2 : id0 <= 900) (hn : n <= 12) : ∀ s : TB, zBw lo hi id0 n s -> zBx l lo hi id0 n (zT G [] zjZ (tbS l lo hi s)) := by
 refine zfG (fun s : TB => s.i) (zBw lo hi id0 n) (tbS l lo hi) (fun _ => zc0 (zBx l lo hi id0 n)) fun ⟨t, id, a, i, b⟩ ⟨h1, hi1, hi2, hi3, hb⟩ L ih => ?_;simp only at h1 hi1 hi2 hi3 hb;have hn0 := fun at1 m => zcN l at1 m hL;have hr := fun at1 lo hi => zAQ l at1 lo hi hL
 by_cases h0 : 0 < i
 · obtain ⟨m, a1, hm, hmc⟩ := zzV l a id lo hi hL h2 h3 h4;obtain ⟨m2, hm2⟩ : ∃ m2, m2 = { m with gen := if m.gen < 1 then 1 else m.gen } := ⟨_, rfl⟩;obtain ⟨t1, t2⟩ := zeY h1.1;have hg := zM3 t m2 (nD l a1 30) (by omega) (by omega);have hd30 := zbL l a1 (n := 30) (by omega);have hmv : zD m2 = 0 := by
    have hg2 : zn3 m2 id lo hi := by
     obtain ⟨g1, g2, g3, g4, g5, g6, g7, g8, g9, g10, g11, g12⟩ := hm;subst hm2;exact ⟨g1, g2, g3, g4, g5, g6, g7, g8, g9, g10, by simp only; split <;> omega, by simp only; split <;> omega⟩
    exact zxE hg2 (by omega) (by omega) h2 h4
   have hfind : zB t.l m2.id < 0 := by
    unfold zB;rw [zjU];intro x hx;have := (h1.2 x hx);have : x.msg.id ≠ m2.id := by rw [hm2]; simp only; rw [hm.1]; omega
    simpa using this
   have hok := zns (t := t) (m := m2) (d := nD l a1 30) h1.1 hmv (by rw [hm2]; simp only; split <;> omega) (by omega) (by omega) (by omega) hfind;obtain ⟨v1, _, v3, _⟩ := zgY hok;obtain ⟨t', ht'⟩ : ∃ t', t' = (zQ t m2 (nD l a1 30)).1 := ⟨_, rfl⟩;rw [hok] at hg;rw [<- ht'] at v1 v3 hg;have hd := zbL l (zaB l a1).2 (n := 3) (by omega);have hlen : t'.l.length = t.l.length + 1 := by rw [v3]; have := (zjW t.l m2 (nD l a1 30)).length_eq; simpa using this
   have i1 := ih ⟨t', id + (1 + nD l (zaB l a1).2 3), (zaB l (zaB l a1).2).2, i - 1, false⟩ ⟨⟨v1, fun x hx => by
    simp only at hx ⊢;rw [v3] at hx
    rcases zRs.1 ((zjW t.l m2 (nD l a1 30)).mem_iff.1 hx) with rfl | hx
    · rw [hm2]; exact ⟨hm.2.1, hm.2.2.1, by simp only; rw [hm.1]; omega, by simp only; rw [hm.1]; omega, hm.2.2.2.1⟩
    · obtain ⟨k1, k2, k3, k4, k5⟩ := h1.2 x hx; exact ⟨k1, k2, k3, by omega, k5⟩⟩, by simp only; omega, by simp only; omega, by simp only; omega, fun h => by cases h⟩ (by simp only; omega)
   clear ih hm ht' v1 v3 hlen hok hfind hmv h1;have e : ((i - 1 : Nat) : Int) = (i : Int) - 1 := by omega
   simp only [tbS, zhz, zRa, if_false, e] at i1;subst hm2
   cases b with
   | true =>
    obtain rfl := hb rfl;simp only [zP, zO, zg, zQR] at hg i1 hmc;simp only [tbS, zhz, if_true, zjZ]
    by_cases hgen : m.gen < 1
    · simp only [hgen, if_true] at hg;simp -implicitDefEqProofs (disch := omega) only [za, go_sem, *]
    · simp only [hgen, if_false] at hg;simp -implicitDefEqProofs (disch := omega) only [za, go_sem, *]
   | false =>
    simp only [zO, zg] at hg i1 hmc;simp only [tbS, zhz, zO, zRa, if_false, zjZ]
    by_cases hgen : m.gen < 1
    · simp only [hgen, if_true] at hg;simp -implicitDefEqProofs (disch := omega) only [za, go_sem, *]
    · simp only [hgen, if_false] at hg;simp -implicitDefEqProofs (disch := omega) only [za, go_sem, *]
 · clear ih;simp only [tbS, zjZ];simp -implicitDefEqProofs (disch := omega) only [za, go_sem, *];exact ⟨t, a, b, id, h1, by omega, hb, rfl⟩
theorem zPc (l : List Int) (a n : Nat) (id lo hi : Int) (hL : l.length <= 4000) (h1 : n <= 12) (hid : 1 <= id) (hid2 : id <= 900) (h2 : 0 <= lo) (h3 : lo <= hi) (h4 : hi < 65536) : ∃ t a' idn, tOK lo hi id t idn /\ t.l.length <= n /\
    zd G zhO [.ref 1000000 0 0, .d (.int .i64 n), .d (.int .i64 id), .d (.int .i64 lo), .d (.int .i64 hi)] [(1000000, zo l a)] = some (.d (zO t), [(1000000, zo l a')]) := by
 have hn := zcN l a (n + 1) hL (by omega) (by omega);have hd := zbL l a (n := (n : Int) + 1) (by omega);obtain ⟨k, hk⟩ : ∃ k : Nat, nD l a ((n : Int) + 1) = k := ⟨(nD l a ((n : Int) + 1)).toNat, by omega⟩;rw [hk] at hn hd;clear hk;generalize (zaB l a).2 = a1 at *;obtain ⟨t, a', b, idn, g1, g2, g3, hl⟩ := zPk l lo hi id n hL h2 h3 h4 hid hid2 h1 ⟨zP, id, a1, k, true⟩ ⟨⟨by show zF zP = 0; decide, by simp [zP]⟩, by simp only; omega, by simp only; omega, by simp only [zP, zQ1]; omega, fun _ => rfl⟩;refine ⟨t, a', idn, g1, g2, ?_⟩;clear g1;simp only [tbS, zhz, if_true] at hl
 cases b with
 | true =>
  obtain rfl := g3 rfl;simp only [if_true] at hl;simp only [zP, zO, zQR];rw [ze zrc (by simp)]; simp -implicitDefEqProofs (disch := omega) only [zpz, za, go_sem, *]
 | false =>
  clear g3;simp only [zRa, if_false, zO] at hl;simp only [zO];rw [ze zrc (by simp)]; simp -implicitDefEqProofs (disch := omega) only [zpz, za, go_sem, *]
end Go.Proofs.YtfggldgdejjlnaaGreat
