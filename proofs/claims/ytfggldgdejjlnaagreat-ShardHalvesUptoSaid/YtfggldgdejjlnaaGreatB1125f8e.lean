/-
  Shards.
-/
import Derived.Test.YtfggldgdejjlnaaGreatBd9fdac4
import Derived.Test.YtfggldgdejjlnaaGreatBe71a10c
set_option linter.unusedSimpArgs false
set_option linter.unusedVariables false
set_option maxHeartbeats 10000000
set_option maxRecDepth 100000
namespace Go.Proofs.YtfggldgdejjlnaaGreat.L
open Go Go.Sim Go.Proofs.YtfggldgdejjlnaaGreat
theorem zcL (l : List Lease) : zbq l = 0 ↔ (l.Pairwise fun x y => x.msg.id < y.msg.id) /\ ∀ x ∈ l, zD x.msg = 0 /\ x.msg.gen ≠ 0 /\ 0 <= x.deadline /\ x.deadline <= 1073741824 := by
 have h0 : zbq l = 0 ↔ ∀ i, i < l.length -> zbp l i = 0 := by
  rcases zj8 l with ⟨k, h1, h2, h3⟩ | ⟨h1, h2⟩
  · constructor
    · intro h; omega
    · intro h;have := zT9 h1;exact absurd (h k (zR3.1 this)) h2
  · refine ⟨fun _ i hi => ?_, fun _ => h2⟩;have := zTH.1 h1 i (zR3.2 hi);unfold zb9 at this;simpa using this
 constructor
 · intro h;refine ⟨zbT h, fun x hx => ?_⟩;obtain ⟨i, hi, rfl⟩ := zRO hx;have := h0.1 h i hi;unfold zbp at this;rw [za hi] at this
   split at this
   · omega
   split at this
   · omega
   split at this
   · omega
   rename_i q1 q2 q3;exact ⟨by simpa using q1, q2, by omega, by omega⟩
 · rintro ⟨ha, hx⟩;refine h0.2 fun i hi => ?_;obtain ⟨p1, p2, p3, p4⟩ := hx _ (zRe hi);unfold zbp;rw [za hi, zQN (by simpa using p1), zQN p2, zQN (by omega), zQN];rintro ⟨q1, q2⟩;rw [za (show i - 1 < l.length by omega)] at q2;have := zRV.1 ha (i - 1) i (by omega) hi (by omega);omega
theorem zbb (t : Table) : zF t = 0 ↔ t.l.length <= 12 /\ zbq t.l = 0 /\ Ok t.heap /\ t.heap.Perm (t.l.map zaJ) := by
 constructor
 · intro h;obtain ⟨h1, h2, h3, h4⟩ := zcU h;have o := (zdR _).1 h3;have ha := zbT h2;have hR : zfI t = true := by rw [<- zs3 h2 h3]; exact h4
   obtain ⟨e, q⟩ := (zs2 ha).1 hR;obtain ⟨_, q2⟩ := zkd.1 h4;refine ⟨h1, h2, o, (zUa ?_ (zph ha)).2 fun d => ⟨q d, q2 d⟩⟩;exact List.Pairwise.of_map (fun d : Due => d.2) (fun a b hab e => hab (by rw [e])) o.ids
 · rintro ⟨h1, h2, o, hp⟩;have h3 := (zdR _).2 o;have h4 : zdd t = true := zkd.2 ⟨by rw [hp.length_eq]; simp, fun d hd => hp.mem_iff.2 hd⟩;unfold zF;rw [zQN (by omega), zQN (by simpa using h2), zQN (by simpa using h3), zQO h4]
theorem zjS {t : Table} (h : t.heap.Perm (t.l.map zaJ)) (id : Int) : id ∈ t.heap.map (·.2) ↔ ∃ x ∈ t.l, x.msg.id = id := by
 constructor
 · intro hm;obtain ⟨d, hd, e⟩ := zQ3.1 hm;obtain ⟨x, hx, e2⟩ := zQ3.1 (h.mem_iff.1 hd);exact ⟨x, hx, by rw [<- e, <- e2]; rfl⟩
 · rintro ⟨x, hx, e⟩;exact zQ3.2 ⟨zaJ x, h.mem_iff.2 (zQ3.2 ⟨x, hx, rfl⟩), e⟩
theorem zeC {l : List Lease} (id : Int) : 0 <= zB l id ↔ ∃ x ∈ l, x.msg.id = id := by
 constructor
 · intro h;obtain ⟨k, hk, _, e⟩ := zeE h;exact ⟨l[k], zRe hk, e⟩
 · rintro ⟨x, hx, e⟩
   by_cases h : 0 <= zB l id
   · exact h
   · exact absurd e (zjl (by omega) x hx)
theorem zt3 {m : Message} {d : Int} (hm : zD m = 0) (h0 : 0 <= d) (h1 : d <= 1073741824) : zaY (d, m.id) = true := by
 unfold zD at hm
 split at hm
 · rename_i h;unfold zaY;simp;omega
 · cases hm
theorem zhp {t : Table} {m : Message} {d : Int} (h : zF t = 0) (hm : zD m = 0) (h0 : 0 <= d) (h1 : d <= 1073741824) (hl : t.l.length ≠ 12) (hf : zB t.l m.id < 0) :
    zcd t.heap (d, m.id) = (zb0 t.heap (d, m.id), 0) /\ Ok (zb0 t.heap (d, m.id)) /\ (zb0 t.heap (d, m.id)).Perm ((d, m.id) :: t.heap) := by
 obtain ⟨q1, q2, q3, q4⟩ := (zbb t).1 h;refine zAw q3 (zt3 hm h0 h1) (by have := q4.length_eq; simp at this; omega) fun hc => ?_;have := (zeC m.id).2 ((zjS q4 m.id).1 hc);omega
theorem zd7 (l : List Lease) (m : Message) (d : Int) : (zaM l m d).Perm (⟨m, d⟩ :: l) := by
 unfold zaM;have := zR1 (a := (⟨m, d⟩ : Lease)) (l₁ := l.take (zE l m.id)) (l₂ := l.drop (zE l m.id));rw [zSN] at this;rw [zRC];exact this
theorem zG3 {l : List Lease} (h : l.Pairwise fun x y => x.msg.id < y.msg.id) {m : Message} {d : Int} (hn : ∀ x ∈ l, x.msg.id ≠ m.id) : (zaM l m d).Pairwise fun x y => x.msg.id < y.msg.id := by
 unfold zaM;have hlt : ∀ x ∈ l.take (zE l m.id), x.msg.id < m.id := fun x hx => by
  obtain ⟨k, hk, rfl⟩ := zRO hx;simp only [zRx] at hk;rw [zSK];exact (zbM h (by omega)).1 (by omega)
 have hgt : ∀ x ∈ l.drop (zE l m.id), m.id < x.msg.id := fun x hx => by
  obtain ⟨k, hk, rfl⟩ := zRO hx;simp only [zRp] at hk;rw [zTI];have h1 := zbM h (id := m.id) (k := zE l m.id + k) (by omega);have h2 := hn _ (zRe (l := l) (n := zE l m.id + k) (by omega));omega
 rw [zRC, zTJ];refine ⟨h.sublist (zTK ..), ?_, fun a ha b hb => ?_⟩
 · rw [zS2, zSi];exact ⟨fun x hx => hgt x hx, h.sublist (zTL ..)⟩
 · rw [zS2, zRs] at hb;have h1 := hlt a ha
   rcases hb with rfl | hb
   · exact h1
   · have := hgt b hb; omega
theorem zgY {t : Table} {m : Message} {d : Int} (h : (zQ t m d).2 = 0) : zF (zQ t m d).1 = 0 /\ zF t = 0 /\ (zQ t m d).1.l = zaM t.l m d /\ zB t.l m.id < 0 := by
 have hE : za3 t m d = 0 := by
  unfold zQ at h
  split at h
  · assumption
  · rename_i hc; exact absurd h hc
 unfold zQ;rw [zQO hE];unfold za3 at hE
 split at hE
 · omega
 split at hE
 · omega
 split at hE
 · cases hE
 split at hE
 · cases hE
 split at hE
 · cases hE
 split at hE
 · cases hE
 rename_i h1 h2 h3 h4 h5 h6;have h1 : zF t = 0 := by simpa using h1
 have h2 : zD m = 0 := by simpa using h2
 obtain ⟨p1, p2, p3⟩ := zhp h1 h2 (by omega) (by omega : d <= 1073741824) h5 (by omega);obtain ⟨q1, q2, q3, q4⟩ := (zbb t).1 h1;obtain ⟨r1, r2⟩ := (zcL _).1 q2;have hn : ∀ x ∈ t.l, x.msg.id ≠ m.id := zjl (by omega);refine ⟨(zbb _).2 ⟨?_, (zcL _).2 ⟨zG3 r1 hn, fun x hx => ?_⟩, ?_, ?_⟩, h1, rfl, by omega⟩
 · have := (zd7 t.l m d).length_eq;simp only [zQX] at this;show (zaM t.l m d).length <= 12;omega
 · rcases zRs.1 ((zd7 t.l m d).mem_iff.1 hx) with rfl | hx
   · exact ⟨h2, h3, by simp only; omega, by simp only; omega⟩
   · exact r2 x hx
 · rw [p1]; exact p2
 · rw [p1];show (zb0 t.heap (d, m.id)).Perm ((zaM t.l m d).map zaJ);exact p3.trans (((List.Perm.cons _ q4)).trans ((zd7 t.l m d).map zaJ).symm)
theorem zns {t : Table} {m : Message} {d : Int} (h : zF t = 0) (hm : zD m = 0) (hg : m.gen ≠ 0) (h0 : 0 <= d) (h1 : d <= 1073741824) (hl : t.l.length ≠ 12) (hf : zB t.l m.id < 0) : (zQ t m d).2 = 0 := by
 have hp := (zhp h hm h0 h1 hl hf).1;have : za3 t m d = 0 := by
  unfold za3;rw [zQN (by simpa using h), zQN (by simpa using hm), zQN hg, zQN (by omega), zQN hl, zQN (by omega), hp]
 unfold zQ;rw [zQO this]
theorem zly (l : List Lease) (i : Nat) : za8 l i = l.eraseIdx i := by rw [za8, zTF]
theorem zfs {l : List Lease} {i : Nat} (hi : i < l.length) : (l[i] :: za8 l i).Perm l := by
 have h1 := zR1 (a := l[i]) (l₁ := l.take i) (l₂ := l.drop (i + 1));rw [<- zRH hi, zSN] at h1;exact h1.symm
theorem zqe {t : Table} (h : zF t = 0) {k : Nat} (hk : k < t.l.length) {d : Due} (hd : d ∈ t.heap) (e : d.2 = t.l[k].msg.id) : d = zaJ t.l[k] := by
 obtain ⟨q1, q2, q3, q4⟩ := (zbb t).1 h;obtain ⟨x, hx, e2⟩ := zQ3.1 (q4.mem_iff.1 hd);obtain ⟨j, hj, rfl⟩ := zRO hx;have : j = k := zpg (zbT q2) hj hk (by rw [<- e, <- e2]; rfl);subst this;exact e2.symm
theorem zkt {t : Table} {id : Int} (h : zF t = 0) (hf : 0 <= zB t.l id) : ∃ k, ∃ hk : k < t.l.length, zB t.l id = k /\ t.l[k].msg.id = id /\ (za9 t.heap id).2 = 0 /\ Ok (za9 t.heap id).1 /\ (zaJ t.l[k] :: (za9 t.heap id).1).Perm t.heap := by
 obtain ⟨q1, q2, q3, q4⟩ := (zbb t).1 h;obtain ⟨k, hk, e1, e2⟩ := zeE hf;refine ⟨k, hk, e1, e2, ?_⟩;have hin : id ∈ t.heap.map (·.2) := (zjS q4 id).2 ⟨_, zRe hk, e2⟩;have h0 : ¬ zaj t.heap id < 0 := fun hc => (zqk _ _).1 hc hin;have hlt := zwn t.heap id;obtain ⟨d1, d2⟩ := zwb q3 (zaj t.heap id).toNat (by omega);have hat := zwl t.heap id (by omega);have hr : za9 t.heap id = (zey t.heap (zaj t.heap id).toNat, 0) := by
  unfold za9;rw [zQN (by simpa using (zdR _).2 q3), zQN h0]
 rw [hr];refine ⟨rfl, d1, ?_⟩;have : t.heap.getD (zaj t.heap id).toNat dz = zaJ t.l[k] := by
  refine zqe h hk ?_ (by rw [hat, e2]);rw [za (show (zaj t.heap id).toNat < t.heap.length by omega)];exact zRe _
 rw [<- this];exact d2
theorem zoq {t : Table} {id : Int} (h : zF t = 0) : (zaq t id).2.2 = 0 ↔ 0 <= zB t.l id := by
 constructor
 · intro h0
   by_cases hf : 0 <= zB t.l id
   · exact hf
   · have e : zbs t id = 4 := by unfold zbs; rw [zQN (by simpa using h), zQO hf]
     unfold zaq at h0;rw [e, zQN (by decide)] at h0
     cases h0
 · intro hf;obtain ⟨k, hk, e1, e2, e3, _⟩ := zkt h hf;have e : zbs t id = 0 := by unfold zbs; rw [zQN (by simpa using h), zQN (by omega), e3]
   unfold zaq;rw [zQO e]
theorem ztt {t : Table} {id : Int} (h : (zaq t id).2.2 = 0) : zF (zaq t id).1 = 0 /\ zF t = 0 /\ ∃ k, ∃ hk : k < t.l.length, zB t.l id = k /\ t.l[k].msg.id = id /\ (zaq t id).1.l = za8 t.l k /\ (zaq t id).2.1 = t.l[k].msg := by
 have hE : zbs t id = 0 := by
  unfold zaq at h
  split at h
  · assumption
  · rename_i hc; exact absurd h hc
 have h1 : zF t = 0 := by
  unfold zbs at hE
  split at hE
  · omega
  · rename_i hc; simpa using hc
 have hf : 0 <= zB t.l id := (zoq h1).1 h;obtain ⟨k, hk, e1, e2, e3, e4, e5⟩ := zkt h1 hf;obtain ⟨q1, q2, q3, q4⟩ := (zbb t).1 h1;obtain ⟨r1, r2⟩ := (zcL _).1 q2;have hd : zaq t id = (⟨za8 t.l k, (za9 t.heap id).1⟩, t.l[k].msg, 0) := by
  unfold zaq;rw [zQO hE, e1, zRo, za hk]
 rw [hd];refine ⟨(zbb _).2 ⟨?_, (zcL _).2 ⟨?_, fun x hx => ?_⟩, e4, ?_⟩, h1, k, hk, e1, e2, rfl, rfl⟩
 · have := (zfs hk).length_eq;simp only [zQX] at this;show (za8 t.l k).length <= 12;omega
 · show (za8 t.l k).Pairwise _;rw [zly]; exact r1.sublist (List.eraseIdx_sublist ..)
 · exact r2 x ((zfs hk).mem_iff.1 (List.mem_cons_of_mem _ hx))
 · show (za9 t.heap id).1.Perm ((za8 t.l k).map zaJ);have h1 := e5.trans (q4.trans ((zfs hk).map zaJ).symm);exact List.Perm.cons_inv h1
def zz3 (t : Table) (id : Int) : Message := (t.l.getD (zB t.l id).toNat zax).msg
def zbS (t : Table) (ep : Int) (id : Int) : Bool := !decide ((zz3 t id).epoch < ep)
def zcK (t : Table) (now ep : Int) : List Int := if zF t = 0 then (zaC t.heap now).filter (zbS t ep) else []
theorem zPI {t : Table} (h : zF t = 0) (now : Int) (id : Int) : id ∈ zaC t.heap now ↔ ∃ x ∈ t.l, x.msg.id = id /\ x.deadline <= now := by
 obtain ⟨q1, q2, q3, q4⟩ := (zbb t).1 h;unfold zaC;rw [zQO ((zdR _).2 q3)];have hp := (ztF t.heap 1 (fun p q hp hq => by omega)).2;unfold zbH;constructor
 · intro hm;obtain ⟨d, hd, e⟩ := zQ3.1 hm;obtain ⟨hd, hn⟩ := zR0.1 hd;obtain ⟨x, hx, e2⟩ := zQ3.1 (q4.mem_iff.1 (hp.mem_iff.1 hd));subst e2;exact ⟨x, hx, e, of_decide_eq_true hn⟩
 · rintro ⟨x, hx, e, hn⟩;exact zQ3.2 ⟨zaJ x, zR0.2 ⟨hp.mem_iff.2 (q4.mem_iff.2 (zQ3.2 ⟨x, hx, rfl⟩)), zRA hn⟩, e⟩
theorem zPG {t : Table} (h : zF t = 0) {now id : Int} (hm : id ∈ zaC t.heap now) : 0 <= zB t.l id :=
 let ⟨x, hx, e, _⟩ := (zPI h now id).1 hm
 (zeC id).2 ⟨x, hx, e⟩
theorem zBI {t : Table} (h : zF t = 0) (now : Int) : (zaC t.heap now).length <= 12 := by
 obtain ⟨q1, q2, q3, q4⟩ := (zbb t).1 h;unfold zaC;rw [zQO ((zdR _).2 q3)];have hp := (ztF t.heap 1 (fun p q hp hq => by omega)).2.length_eq;have := q3.len;unfold zbH;rw [zQV];exact zRU (zSg _ _) (by omega)
theorem zHE (t : Table) (ep id : Int) (h : zF t = 0) (hf : 0 <= zB t.l id) : zd G ze4 [.d (.int .i64 id), .d (.pd (zO t)), .d (.pd (.int .i64 ep))] [] = some (.d (.bool (!zbS t ep id)), []) := by
 obtain ⟨h12, hE, hD, hM⟩ := zcU h;have ha := zbT hE;have hfd := znY t id (by omega) ha;obtain ⟨hp, e⟩ := (zeD ha id).1 hf;have e2 := zjm ha hf;have hP := zIH t.l[zE t.l id].msg ep;unfold zbS zz3;rw [e2, zRo, za hp, Bool.not_not];simp only [hf, decide_true, zO, zg] at hfd hP ⊢;clear e e2 hf;rw [ze zwU (by simp)]; simp -implicitDefEqProofs (disch := omega) only [zuU, zt, za, go_sem, *]
theorem zzp (l : List Int) (g : Nat) (cs : List D) (p : Int -> Bool) (hL : l.length <= 4294967296) (hp : ∀ a ∈ l, zd G g (.d (.int .i64 a) :: cs.map .d) [] = some (.d (.bool (p a)), [])) : zd G ziS [.d (.sl (zy l)), .d (.fn g cs)] [] = some (.d (.int .i64 (zU p l)), []) := by
 have := zdJ (G := G) (x := zsK) (ks := []) l.length (atB l p) (fun k => ⟨[(0, .d (.sl (zy l))), (1, .d (.fn g cs)), (7, .d (.int .i64 l.length)), (8, .d (.int .i64 k))], []⟩) (fun k => (.ret, ⟨[(4, .d (.int .i64 k))], []⟩)) (.exit 0, ⟨[], []⟩) (fun k hk L => by
  simp only [zsK]
  by_cases h0 : k < l.length
  · have h1 := hp l[k] (zRe h0);simp only [zb3 h0]
    cases h2 : p l[k]
    · rw [h2] at h1;simp -implicitDefEqProofs (disch := omega) only [go_sem, h1]
    · rw [h2] at h1;simp -implicitDefEqProofs (disch := omega) only [go_sem, h1]
  · simp -implicitDefEqProofs (disch := omega) only [go_sem, zQU])
 rw [zeF] at this;simp only [zQ2, zQZ, zQW, zQ5, zQ0, zQT, zQV, zQR, zQ1, zQY, zQS, zQX, zQU, zo, zC] at this;unfold zU
 cases h : l.findIdx? p with
 | none => rw [h] at this; rw [ze zrx (by simp)]; simp -implicitDefEqProofs (disch := omega) only [zpR, go_sem, this]
 | some i => rw [h] at this; rw [ze zrx (by simp)]; simp -implicitDefEqProofs (disch := omega) only [zpR, go_sem, this]
structure DF where
 i : Nat
 j : Nat
 R : List Int
def dfS (g : Nat) (cs : List D) (n : Nat) (s : DF) : St := ⟨[(0, .osl 1000000 0 n), (1, .d (.fn g cs)), (5, .d (.int .i64 s.i)), (6, .d (.int .i64 s.j)), (1000000, .ref 1000000 1 0)], [(1000000, .row ((zy s.R).map .d))]⟩
def zv2 (u : List Int) (p : Int -> Bool) (s : DF) : Prop := s.i <= s.j /\ s.j <= u.length /\ s.R.length = u.length /\ s.R.take s.i = (u.take s.j).filter (fun a => !p a) /\ s.R.drop s.j = u.drop s.j
def zv5 (g : Nat) (cs : List D) (u : List Int) (p : Int -> Bool) (r : Option (zJ × St)) : Prop := ∃ R : List Int, ∃ i : Nat, R.length = u.length /\ i <= u.length /\ R.take i = u.filter (fun a => !p a) /\ r = some (.exit 0, ⟨[(0, .osl 1000000 0 u.length), (5, .d (.int .i64 i)), (1000000, .ref 1000000 1 0)], [(1000000, .row ((zy R).map .d))]⟩)
theorem zDS (g : Nat) (cs : List D) (u : List Int) (p : Int -> Bool) (hL : u.length <= 1000) (hp : ∀ a ∈ u, zd G g (.d (.int .i64 a) :: cs.map .d) [] = some (.d (.bool (p a)), [])) : ∀ s : DF, zv2 u p s -> zv5 g cs u p (zT G [] zj6 (dfS g cs u.length s)) := by
 refine zfG (fun s : DF => u.length - s.j) (zv2 u p) (dfS g cs u.length) (fun _ => zc0 (zv5 g cs u p)) fun ⟨i, j, R⟩ hinv L ih => ?_;obtain ⟨h1, h2, h3, h4, h5⟩ := hinv;simp only at h1 h2 h3 h4 h5
 by_cases h0 : j < u.length
 · have hRj : R[j]'(by omega) = u[j] := by
    have := congrArg (fun l => l[0]?) h5;simp only [zRz, zSr] at this;rw [zQ4 (show j < R.length by omega), zQ4 h0] at this;exact Option.some.inj this
   have hc := hp u[j] (zRe h0);have hg : ((zy R).map AV.d)[j]? = some (.d (.int .i64 u[j])) := by simp [zy, zQ4 (show j < R.length by omega), hRj]
   have htk : u.take (j + 1) = u.take j ++ [u[j]] := by rw [zSb, zQ4 h0]; rfl
   by_cases hpj : p u[j] = true
   · have i1 := ih ⟨i, j + 1, R⟩ ⟨by simp only; omega, by simp only; omega, h3, by
      simp only;rw [htk, zSh, h4];simp [hpj], by
      simp only;have := congrArg (List.drop 1) h5;simpa [zSL, zSs] using this⟩ (by simp only; omega)
     rw [hpj] at hc;clear ih hp;simp only [dfS, zj6] at i1 ⊢;simp only [zQ2, zQZ, zQW, zQ5, zQ0, zQT, zQV, zQR, zQ1, zQY, zQS, zQX, zQU, zo, zC] at i1;simp -implicitDefEqProofs (disch := omega) only [za, go_sem, *]
   · have hpj : p u[j] = false := by simpa using hpj
     have i1 := ih ⟨i + 1, j + 1, R.set i u[j]⟩ ⟨by simp only; omega, by simp only; omega, by simpa using h3, by
      simp only;rw [htk, zSh, <- h4, zSb, zTh (by omega), zTB (by omega)];simp [hpj], by
      simp only;rw [zTC (by omega)];have := congrArg (List.drop 1) h5;simpa [zSL, zSs] using this⟩ (by simp only; omega)
     rw [hpj] at hc;have hst : ((zy R).map AV.d).set i (.d (.int .i64 u[j])) = (zy (R.set i u[j])).map AV.d := by simp [zy, zRN]
     have hgi : ((zy R).map AV.d)[i]? = some (.d (.int .i64 (R[i]'(by omega)))) := by simp [zy, zQ4 (show i < R.length by omega)]
     clear ih hp;simp only [dfS, zj6] at i1 ⊢;simp only [zQ2, zQZ, zQW, zQ5, zQ0, zQT, zQV, zQR, zQ1, zQY, zQS, zQX, zQU, zo, zC] at i1;simp -implicitDefEqProofs (disch := omega) only [za, go_sem, *]
 · have : j = u.length := by omega
   subst this;clear ih hp;rw [zSy] at h4;simp only [dfS, zj6];simp -implicitDefEqProofs (disch := omega) only [za, go_sem, *];exact ⟨R, i, h3, by omega, h4, rfl⟩
theorem zFj {u : List Int} {p : Int -> Bool} {k : Nat} (hk : k < u.length) (h1 : p u[k] = true) (h2 : ∀ j (hj : j < k), p (u[j]'(by omega)) = false) : u.take k = (u.take (k + 1)).filter (fun a => !p a) := by
 have htk : u.take (k + 1) = u.take k ++ [u[k]] := by rw [zSb, zQ4 hk]; rfl
 rw [htk, zSh];have e1 : (u.take k).filter (fun a => !p a) = u.take k := by
  rw [zSY];intro a ha;obtain ⟨j, hj, rfl⟩ := zRO ha;simp only [zRx] at hj;rw [zSK, h2 j (by omega)];rfl
 rw [e1];simp [h1]
theorem zDV (g : Nat) (cs : List D) (u : List Int) (p : Int -> Bool) (h : u ≠ []) (hL : u.length <= 1000) (hp : ∀ a ∈ u, zd G g (.d (.int .i64 a) :: cs.map .d) [] = some (.d (.bool (p a)), [])) :
    zd G zgf [.osl 1000000 0 u.length, .d (.fn g cs)] [(1000000, .row ((zy u).map .d))] = some (.osl 1000000 0 (u.filter fun a => !p a).length, [(1000000, .row ((zy (u.filter fun a => !p a)).map .d))]) := by
 have hi := zzp u g cs p (by omega) hp;have hall : zab ((zy u).map AV.d) = some (zy u) := zcA _;have hlen : (zy u).length = u.length := by simp [zy]
 have htl : (zy u).take u.length = zy u := zRy (by omega)
 by_cases h1 : zU p u = -1
 · have hn := (zjU u p).1 (by omega);have hf : u.filter (fun a => !p a) = u := by
    rw [zSY];intro a ha;rw [hn a ha]; rfl
   rw [hf];rw [h1] at hi;clear hp;rw [ze zno (by simp)]; simp -implicitDefEqProofs (disch := omega) only [zlj, za, go_sem, *]
 · have hlt := znA u p;obtain ⟨k, hk⟩ : ∃ k : Nat, zU p u = k := ⟨(zU p u).toNat, by omega⟩;obtain ⟨hku, k1, k2⟩ := zsi hk;obtain ⟨R, i, r1, r2, r3, hl⟩ := zDS g cs u p hL hp ⟨k, k + 1, u⟩ ⟨by simp, by simp only; omega, rfl, zFj hku k1 k2, rfl⟩;have hil : (u.filter fun a => !p a).length = i := by rw [<- r3]; simp; omega
   have hne : R ≠ [] := by rintro rfl; simp at r1; exact h (by rw [<- zRq]; omega)
   have hrow : ((zy R).map AV.d).take i = (zy (u.filter fun a => !p a)).map AV.d := by rw [<- r3]; simp [zy, zRY]
   have hhd : (((zy R).map AV.d).head?).map AV.size = some 1 := by
    cases R with
    | nil => exact absurd rfl hne
    | cons a R => rfl
   simp only [dfS] at hl;rw [hk] at hi;rw [hil];simp only [zQ2, zQZ, zQW, zQ5, zQ0, zQT, zQV, zQR, zQ1, zQY, zQS, zQX, zQU, zo, zC] at hl;clear hp k2 hk h1;have e5 : i + (u.length - i) = u.length := by omega
   rw [ze zno (by simp)]; simp -implicitDefEqProofs (disch := omega) only [zlj, za, go_sem, *]; (try simp only [pA, pB, pC, pD, pE, pF, pG, pH, pI, pJ, pK, pL, pM, pN, pO, pP, if_true, if_false]); repeat' (first | done | rfl | ((first | refine zK (fun hq => ?_) (fun hq => ?_) | refine zM (fun hq => ?_) (fun hq => ?_)) <;> (try (first | (exfalso; omega) | contradiction)) <;> (try simp -implicitDefEqProofs (disch := omega) only [za, go_sem, *]) <;> (try simp only [pA, pB, pC, pD, pE, pF, pG, pH, pI, pJ, pK, pL, pM, pN, pO, pP, if_true, if_false]))); (all_goals try rfl); (all_goals try (repeat' (first | done | rfl | (exfalso; omega) | contradiction | (refine zN (fun hq => ?_) (fun hq => ?_)))))
theorem zDP (g : Nat) (cs : List D) : zd G zgf [.xsl [], .d (.fn g cs)] [] = some (.xsl [], []) := by
 have hi := zzp [] g cs (fun _ => false) (by simp) (by simp);have e : zU (fun _ : Int => false) [] = -1 := rfl;rw [e] at hi;simp only [zy, zQR] at hi;rw [ze zno (by simp)]; simp -implicitDefEqProofs (disch := omega) only [zlj, za, go_sem, *]
theorem zPS (h : List Due) (now : Int) (hL : h.length <= 4294967296) (h0 : zaH h = 0) (h1 : zaC h now ≠ []) : zd G zdT [.d (.sl (h.map eD)), .d (.int .i64 now)] [] = some (.osl 0 0 (zaC h now).length, [(0, .row ((zy (zaC h now)).map .d))]) := by
 have := zsO zBd (es := zy (zaC h now)) (by simpa [zy] using h1) (by have := zBH h now hL h0; simpa [zy] using this)
 rwa [show (zy (zaC h now)).length = (zaC h now).length by simp [zy]] at this
theorem zPT (h : List Due) (now : Int) (hL : h.length <= 4294967296) (h0 : zaH h = 0) (h1 : zaC h now = []) : zd G zdT [.d (.sl (h.map eD)), .d (.int .i64 now)] [] = some (.xsl [], []) := by
 have := zBH h now hL h0;rw [h1] at this;exact zsP zBd this
theorem zwq : ∀ w : List Int, AV.flatL ((zy w).map AV.d) = true
 | [] => rfl
 | a :: w => by show (AV.flat (.d (.int .i64 a)) && AV.flatL ((zy w).map AV.d)) = true; rw [zwq w]; rfl
theorem zHF (t : Table) (now ep : Int) (hL : t.l.length <= 4294967296) (hH : t.heap.length <= 4294967296) : zd G zhZ [.d (zO t), .d (.int .i64 now), .d (.int .i64 ep)] [] = some (.d (.sl (zy (zcK t now ep))), []) := by
 have hv := zka t hL hH;unfold zcK
 by_cases h1 : zF t = 0
 · rw [zQO h1];obtain ⟨h12, hE, hD, hM⟩ := zcU h1;rw [h1] at hv
   by_cases h2 : zaC t.heap now = []
   · have hu := zPT t.heap now hH hD h2;have hd := zDP ze4 [.pd (zO t), .pd (.int .i64 ep)];rw [h2];simp only [zO, zSJ, zy, zQR] at hv hd ⊢;rw [ze znf (by simp)]; simp -implicitDefEqProofs (disch := omega) only [zkZ, za, go_sem, *]
   · have hu := zPS t.heap now hH hD h2;have hd := zDV ze4 [.pd (zO t), .pd (.int .i64 ep)] (zaC t.heap now) (fun a => !zbS t ep a) h2 (by have := zBI h1 now; omega) (fun a ha => zHE t ep a h1 (zPG h1 ha));simp only [Bool.not_not] at hd;have e : (zaC t.heap now).filter (fun a => zbS t ep a) = (zaC t.heap now).filter (zbS t ep) := rfl;rw [e] at hd;have hall : zab ((zy ((zaC t.heap now).filter (zbS t ep))).map AV.d) = some (zy ((zaC t.heap now).filter (zbS t ep))) := zcA _;have hlen : (zy ((zaC t.heap now).filter (zbS t ep))).length = ((zaC t.heap now).filter (zbS t ep)).length := by simp [zy]
     have htl : (zy ((zaC t.heap now).filter (zbS t ep))).take ((zaC t.heap now).filter (zbS t ep)).length = zy ((zaC t.heap now).filter (zbS t ep)) := zRy (by omega);have hfl := zwq ((zaC t.heap now).filter (zbS t ep));generalize (zaC t.heap now).filter (zbS t ep) = w at *;generalize zaC t.heap now = u at *;simp only [zO] at hv hd ⊢;rw [ze znf (by simp)]; simp -implicitDefEqProofs (disch := omega) only [zkZ, za, go_sem, *]
 · rw [zQN h1];simp only [zO] at hv ⊢;rw [ze znf (by simp)]; simp -implicitDefEqProofs (disch := omega) only [zkZ, za, go_sem, *]
end Go.Proofs.YtfggldgdejjlnaaGreat.L

namespace Go.Proofs.YtfggldgdejjlnaaGreat
open Go Go.Sim
theorem zGW (l : List Bool) (hL : l.length <= 1000) : zd G ziU [.d (.sl (l.map D.bool)), .d (.bool false)] [] = some (.d (.int .i64 (zU (fun b : Bool => !b) l)), []) := by
 have := zdJ (G := G) (x := zsM) (ks := []) l.length (atB l fun b : Bool => !b) (fun k => ⟨[(0, .d (.sl (l.map D.bool))), (1, .d (.bool false)), (7, .d (.int .i64 l.length)), (8, .d (.int .i64 k))], []⟩) (fun k => (.ret, ⟨[(4, .d (.int .i64 k))], []⟩)) (.exit 0, ⟨[], []⟩) (fun k hk L => by
  simp only [zsM]
  by_cases h0 : k < l.length
  · rw [zQO h0];simp only [zb3 h0]
    cases h1 : l[k]
    · simp only [zTR, if_true];simp -implicitDefEqProofs (disch := omega) only [za, go_sem, *]
    · simp only [zTQ, zRa, if_false];simp -implicitDefEqProofs (disch := omega) only [za, go_sem, *]
  · rw [zQN h0];simp -implicitDefEqProofs (disch := omega) only [za, go_sem, *])
 rw [zeF] at this;simp only [zQ2, zQZ, zQW, zQ5, zQ0, zQT, zQV, zQR, zQ1, zQY, zQS, zQX, zQU, zo, zC] at this;unfold zU
 cases h : l.findIdx? (fun b : Bool => !b) with
 | none => rw [h] at this; rw [ze zrz (by simp)]; simp -implicitDefEqProofs (disch := omega) only [zpS, za, go_sem, *]
 | some i => rw [h] at this; rw [ze zrz (by simp)]; simp -implicitDefEqProofs (disch := omega) only [zpS, za, go_sem, *]
theorem zDk (l : List Bool) (hL : l.length <= 1000) : zd G ziQ [.d (.sl (l.map D.bool)), .d (.bool false)] [] = some (.d (.bool (l.any fun b => !b)), []) := by
 have h := zGW l hL;rw [ze zxy (by simp)]; simp -implicitDefEqProofs (disch := omega) only [zvI, zjT, za, go_sem, *]
theorem zCp (l : List Bool) : (l.any fun b => !b) = !(l.all id) := by
 induction l with
 | nil => rfl
 | cons b l ih => simp only [zSl, zRL, ih]; cases b <;> simp
def usE (s : Shard) (b : Bool) : Int := if zaA s ≠ 0 then zaA s else if b = true then 0 else 1
theorem zt2 (s : Shard) (l : List Bool) (hL : l.length <= 1000) (h1 : s.ready.cells.length <= 4294967296) (h2 : s.leases.l.length <= 4294967296) (h3 : s.leases.heap.length <= 4294967296) : zd G zfc [.d (zj s), .d (.sl (l.map D.bool))] [] = some (.d (.int .i64 (usE s (l.all id))), []) := by
 have hv := zfF s h1 h2 h3;have hc := zDk l hL;rw [zCp] at hc;unfold usE;generalize l.all id = b at *;generalize l.map D.bool = w at *
 by_cases c : zaA s = 0
 · rw [c] at hv;simp only [c, ne_eq, zRf, if_false];simp only [zj] at *
   cases b
   · rw [ze zrw (by simp)]; simp -implicitDefEqProofs (disch := omega) only [zle, za, go_sem, *]
   · rw [ze zrw (by simp)]; simp -implicitDefEqProofs (disch := omega) only [zle, za, go_sem, *]
 · simp only [c, ne_eq, zRh, if_true];generalize zaA s = v at *;simp only [zj] at *;rw [ze zrw (by simp)]; simp -implicitDefEqProofs (disch := omega) only [zle, za, go_sem, *]
end Go.Proofs.YtfggldgdejjlnaaGreat

namespace Go.Proofs.YtfggldgdejjlnaaGreat.L
open Go Go.Sim
theorem zp1 (es : List D) (hs : zao 7 es = true) (hL : es.length <= 4294967296) : zd G zge [.d (.sl es)] [] = some (.acc 0 es, [(0, .acc es.length)]) := by
 cases es with
 | nil =>
  refine zjc zjN (by decide) ?_ ?_
  · simp -implicitDefEqProofs only [zfp, go_sem]
  · simp -implicitDefEqProofs only [zfp, zSa, go_sem]
 | cons e es =>
  rw [zjb zjN (by simp) (by decide)];simp only [zgn] at hs;simp only [zQX] at hL;simp -implicitDefEqProofs (disch := omega) only [zfp, go_sem, *]
theorem zp0 (es : List D) (hs : zao 2 es = true) (hL : es.length <= 4294967296) : zd G zfd [.d (.sl es)] [] = some (.acc 0 es, [(0, .acc es.length)]) := by
 cases es with
 | nil =>
  refine zjc zjM (by decide) ?_ ?_
  · simp -implicitDefEqProofs only [zfo, go_sem]
  · simp -implicitDefEqProofs only [zfo, zSa, go_sem]
 | cons e es =>
  rw [zjb zjM (by simp) (by decide)];simp only [zgn] at hs;simp only [zQX] at hL;simp -implicitDefEqProofs (disch := omega) only [zfo, go_sem, *]
def epQ (n : Int) : Bool := decide (0 <= n /\ n <= 65536)
def liQ (n : Int) : Bool := decide (1 <= n /\ n <= 8)
def tiQ (n : Int) : Bool := decide (0 <= n /\ n <= 1073741824)
def viQ (n : Int) : Bool := decide (0 <= n /\ n <= 1000)
theorem zsk (n : Int) : zd G ziI [.d (.int .i64 n)] [] = some (.d (.bool (epQ n)), []) := by
 have h := zeW n 0 65536;unfold epQ;generalize decide (0 <= n /\ n <= 65536) = b at *;rw [ze zxp (by simp)]; simp -implicitDefEqProofs (disch := omega) only [zvv, za, go_sem, *]
theorem zzt (n : Int) : zd G ziJ [.d (.int .i64 n)] [] = some (.d (.bool (liQ n)), []) := by
 have h := zeW n 1 8;unfold liQ;generalize decide (1 <= n /\ n <= 8) = b at *;rw [ze zxq (by simp)]; simp -implicitDefEqProofs (disch := omega) only [zvw, za, go_sem, *]
theorem zsm (n : Int) : zd G ziK [.d (.int .i64 n)] [] = some (.d (.bool (tiQ n)), []) := by
 have h := zeW n 0 1073741824;unfold tiQ;generalize decide (0 <= n /\ n <= 1073741824) = b at *;rw [ze zxr (by simp)]; simp -implicitDefEqProofs (disch := omega) only [zvx, za, go_sem, *]
theorem zHv (n : Int) : zd G ziL [.d (.int .i64 n)] [] = some (.d (.bool (viQ n)), []) := by
 have h := zeW n 0 1000;unfold viQ;generalize decide (0 <= n /\ n <= 1000) = b at *;rw [ze zxs (by simp)]; simp -implicitDefEqProofs (disch := omega) only [zvy, za, go_sem, *]
theorem zhx (s : Shard) (h0 : 1 <= s.ready.cells.length) (h1 : s.ready.cells.length <= 12) (h2 : s.leases.l.length <= 12) (h3 : s.leases.heap.length <= 12) : zd G zem [.d (zj s)] [] = some (.d (zj s), []) := by
 have hc := zp1 (s.ready.cells.map zg) (zpc _) (by simp; omega);have hd := zp0 (s.leases.heap.map eD) (zc2 _) (by simp; omega);obtain ⟨lv, lo, hi, ⟨c, h, z⟩, ⟨tl, th⟩⟩ := s;simp only [zj] at *;simp only [zQ2, zQZ, zQW, zQ5, zQ0, zQT, zQV, zQR, zQ1, zQY, zQS, zQX, zQU, zo, zC] at hc hd
 by_cases e : tl = []
 · subst e;have hr := zp7;simp only [zQR];rw [ze zrr (by simp)]; simp -implicitDefEqProofs (disch := omega) only [zpM, za, go_sem, *]
 · have hr := zls tl e (by omega);have hw : (tl.map zt).length = tl.length := zQV ..;have ht : (tl.map zt).take tl.length = tl.map zt := zRy (by omega);generalize tl.map zt = w at *;rw [ze zrr (by simp)]; simp -implicitDefEqProofs (disch := omega) only [zpM, zS1, za, go_sem, *]
def z4 (s : Shard) (id : Int) : Shard × Message × Int := if (zaq s.leases id).2.2 = 0 then ({ s with leases := (zaq s.leases id).1 }, (zaq s.leases id).2.1, 0) else (zam, zu, (zaq s.leases id).2.2)
theorem zNo (s : Shard) (id : Int) (h0 : 1 <= s.ready.cells.length) (h1 : s.ready.cells.length <= 12) (h2 : s.leases.l.length <= 12) (h3 : s.leases.heap.length <= 12) : zd G ziM [.d (zj s), .d (.int .i64 id)] [] = some (.d (.tup [zj (z4 s id).1, zg (z4 s id).2.1, .int .i64 (z4 s id).2.2]), []) := by
 have hr := zNn s.leases id (by omega) (by omega);have ho := zhx s h0 h1 h2 h3;unfold z4;generalize zaq s.leases id = r at *;obtain ⟨t, m, e⟩ := r;obtain ⟨lv, lo, hi, ⟨c, h, z⟩, ⟨tl, th⟩⟩ := s
 by_cases c0 : e = 0
 · subst c0;simp only [if_true];simp only [zj, zO, zg] at *;rw [ze zrv (by simp)]; simp -implicitDefEqProofs (disch := omega) only [zpN, za, go_sem, *]
 · simp only [c0, if_false];clear ho;simp only [zj, zO, zg, zam, zu, zQR] at *;rw [ze zrv (by simp)]; simp -implicitDefEqProofs (disch := omega) only [zpN, za, go_sem, *]
theorem zz0 (m : Message) (ep : Int) : zd G zdU [.d (zg m), .d (.int .i64 ep)] [] = some (.d (.bool (decide (m.epoch < ep))), []) := by
 rw [zBL]; exact zMt m ep
def zdH (s : Shard) (h : zch) (now ep : Int) : Bool := (zcE s.leases h.id).2 && (decide ((zcE s.leases h.id).1.msg.gen = h.gen) && (decide ((zcE s.leases h.id).1.msg.route = h.route) && (!decide ((zcE s.leases h.id).1.msg.epoch < ep) && decide (now < (zcE s.leases h.id).1.deadline))))
theorem zGx (s : Shard) (h : zch) (now ep : Int) (h2 : s.leases.l.length <= 12) (h3 : s.leases.heap.length <= 12) : zd G ziH [.d (zj s), .d (zgJ h), .d (.int .i64 now), .d (.int .i64 ep)] [] = some (.d (.bool (zdH s h now ep)), []) := by
 have hf := L.find_ok s.leases h.id (by omega) (by omega);unfold zdH;generalize zcE s.leases h.id = f at *;obtain ⟨x, b⟩ := f;have hp := zz0 x.msg ep;simp only [zj, zO, zgJ, zt, zg] at *
 cases b
 · simp only [zSA];rw [ze zro (by simp)]; simp -implicitDefEqProofs (disch := omega) only [zpL, za, go_sem, *]
 · simp only [zSz];rw [ze zro (by simp)]; simp -implicitDefEqProofs (disch := omega) only [zpL, za, go_sem, *]
theorem zB6 (s : Shard) (h : zch) (now ep : Int) (h1 : s.ready.cells.length <= 4294967296) (h2 : s.leases.l.length <= 12) (h3 : s.leases.heap.length <= 12) : zd G zga [.d (zj s), .d (zgJ h), .d (.int .i64 now), .d (.int .i64 ep)] [] = some (.d (.bool (decide (usE s (tiQ now && epQ ep) = 0) && zdH s h now ep)), []) := by
 have hu := zt2 s [tiQ now, epQ ep] (by simp) h1 (by omega) (by omega);have hh := zGx s h now ep h2 h3;have e1 := zsm now;have e2 := zsk ep;simp only [zQS, zQR, zRL, zSZ, id, zS0] at hu;generalize usE s (tiQ now && epQ ep) = u at *;generalize tiQ now = b1 at *;generalize epQ ep = b2 at *;generalize zdH s h now ep = b3 at *;simp only [zj, zgJ] at *
 by_cases c : u = 0
 · subst c;simp only [decide_true, zSz];rw [ze zrk (by simp)]; simp -implicitDefEqProofs (disch := omega) only [zpH, za, go_sem, *]
 · rw [zRw c, zSA];rw [ze zrk (by simp)]; simp -implicitDefEqProofs (disch := omega) only [zpH, za, go_sem, *]
def zpa (s : Shard) (h : zch) (now ep : Int) : Shard × Int := if usE s (tiQ now && epQ ep) ≠ 0 then (zam, usE s (tiQ now && epQ ep)) else if zdH s h now ep = true then ((z4 s h.id).1, (z4 s h.id).2.2) else (zam, 5)
theorem zBT {s : Shard} {b : Bool} (h : usE s b = 0) : 1 <= s.ready.cells.length /\ s.ready.cells.length <= 12 /\ s.leases.l.length <= 12 /\ s.leases.heap.length <= 12 := by
 have hl : zaA s = 0 := by
  unfold usE at h
  split at h
  · rename_i q; exact absurd h q
  · rename_i q; exact zRm.1 q
 have hv : zaG s = 0 := by
  unfold zaA at hl
  split at hl
  · rename_i q; exact absurd hl q
  · rename_i q; exact zRm.1 q
 unfold zaG at hv
 split at hv
 · rename_i q; exact absurd hv q
 · rename_i q1
   split at hv
   · rename_i q; exact absurd hv q
   · rename_i q2;obtain ⟨a1, a2, _⟩ := zba (zRm.1 q1);obtain ⟨b1, b2⟩ := zeY (zRm.1 q2);exact ⟨a1, a2, b1, b2⟩
theorem zIJ (m : Message) (lim : Int) : zd G zej [.d (zg m), .d (.int .i64 lim)] [] = some (.d (.bool (decide (lim <= m.count))), []) := by
 rw [zBM]; exact zOY m lim
def zgr (s : Shard) (m : Message) (lim : Int) : z9 × Int := if lim <= m.count then pbD s.ready m else pfD s.ready m
def zs7 (s : Shard) (h : zch) (now ep lim : Int) : Shard × Int :=
 if usE s (tiQ now && (epQ ep && liQ lim)) ≠ 0 then (zam, usE s (tiQ now && (epQ ep && liQ lim)))
 else if zdH s h now ep = true then (if (z4 s h.id).2.2 ≠ 0 then (zam, (z4 s h.id).2.2)
  else if (zgr (z4 s h.id).1 (z4 s h.id).2.1 lim).2 ≠ 0 then (zam, (zgr (z4 s h.id).1 (z4 s h.id).2.1 lim).2)
  else ({ (z4 s h.id).1 with ready := (zgr (z4 s h.id).1 (z4 s h.id).2.1 lim).1 }, 0)) else (zam, 5)
theorem zPU {s : Shard} {b : Bool} (h : usE s b = 0) : b = true := by
 unfold usE at h
 split at h
 · rename_i q; exact absurd h q
 · split at h
   · assumption
   · cases h
def zbF (m : Message) : Message × Int := if zD m ≠ 0 then (zu, zD m) else if m.gen = 65536 then (zu, 6) else if m.count = 8 then (zu, 7) else ({ m with count := m.count + 1, gen := m.gen + 1 }, 0)
theorem zIt (m : Message) : zd G zh6 [.d (zg m)] [] = some (.d (.tup [zg (zbF m).1, .int .i64 (zbF m).2]), []) := by
 have hv := zhd m;unfold zbF
 by_cases c : zD m = 0
 · rw [c] at hv;rw [zQN (fun q => q c)];have hb : m.count <= 8 /\ 0 <= m.count /\ m.gen <= 65536 /\ 0 <= m.gen := by
    unfold zD at c
    split at c
    · omega
    · cases c
   clear c
   by_cases c1 : m.gen = 65536
   · rw [zQO c1];replace c1 := zR2 c1;simp only [zg, zu] at hv ⊢;rw [ze zjH (by simp)]; simp -implicitDefEqProofs (disch := omega) only [zi5, za, go_sem, *]
   · rw [zQN c1]
     by_cases c2 : m.count = 8
     · rw [zQO c2];replace c2 := zR2 c2;simp only [zg, zu] at hv ⊢;rw [ze zjH (by simp)]; simp -implicitDefEqProofs (disch := omega) only [zi5, za, go_sem, *]
     · rw [zQN c2];simp only [zg] at *;rw [ze zjH (by simp)]; simp -implicitDefEqProofs (disch := omega) only [zi5, za, go_sem, *]
 · rw [zQO c];generalize zD m = v at *;simp only [zg, zu] at *;rw [ze zjH (by simp)]; simp -implicitDefEqProofs (disch := omega) only [zi5, za, go_sem, *]
def zcP (ep lim : Int) (m : Message) : Bool := !decide (m.epoch < ep) && (!decide (lim <= m.count) && decide (m.gen < 65536))
theorem zII (m : Message) (ep lim : Int) : zd G zh7 [.d (zg m), .d (.int .i64 ep), .d (.int .i64 lim)] [] = some (.d (.bool (zcP ep lim m)), []) := by
 have hp := zz0 m ep;have hs := zIJ m lim;unfold zcP;simp only [zg] at *;rw [ze zw0 (by simp)]; simp -implicitDefEqProofs (disch := omega) only [zu0, za, go_sem, *]
def zbg (s : Shard) (m : Message) (d : Int) : Shard × Lease × Int :=
 if (rmD s.ready m.id).2.2 ≠ 0 then (s, zax, (rmD s.ready m.id).2.2)
 else if (zbF (rmD s.ready m.id).2.1).2 ≠ 0 then (s, zax, (zbF (rmD s.ready m.id).2.1).2)
 else if (zQ s.leases (zbF (rmD s.ready m.id).2.1).1 d).2 ≠ 0 then (s, zax, (zQ s.leases (zbF (rmD s.ready m.id).2.1).1 d).2)
 else ({ s with ready := (rmD s.ready m.id).1, leases := (zQ s.leases (zbF (rmD s.ready m.id).2.1).1 d).1 }, ⟨(zbF (rmD s.ready m.id).2.1).1, d⟩, 0)
theorem zDM (s : Shard) (m : Message) (d : Int) (h1 : s.ready.cells.length <= 4294967296) (h2 : s.leases.l.length <= 4294967296) (h3 : s.leases.heap.length <= 4294967296) : zd G ziG [.ref 1000000 0 0, .d (zg m), .d (.int .i64 d)] [(1000000, .row [.d (zj s)])] = some (.d (.tup [zt (zbg s m d).2.1, .int .i64 (zbg s m d).2.2]), [(1000000, .row [.d (zj (zbg s m d).1)])]) := by
 have hr := zNV s.ready m.id h1;have hd := zIt (rmD s.ready m.id).2.1;have hg := zxF s.leases (zbF (rmD s.ready m.id).2.1).1 d h2 h3;unfold zbg;generalize zQ s.leases (zbF (rmD s.ready m.id).2.1).1 d = g at *;generalize zbF (rmD s.ready m.id).2.1 = q at *;generalize rmD s.ready m.id = r at *;obtain ⟨r, m1, e1⟩ := r;obtain ⟨m2, e2⟩ := q;obtain ⟨t, e3⟩ := g
 by_cases c1 : e1 = 0
 · subst c1
   by_cases c2 : e2 = 0
   · subst c2
     by_cases c3 : e3 = 0
     · subst c3;simp only [ne_eq, zRf, if_false];simp only [zj, zg, zt, zA, zO] at *;rw [ze zjL (by simp)]; simp -implicitDefEqProofs (disch := omega) only [zi8, za, go_sem, *]
     · simp only [ne_eq, zRf, if_false];rw [zQO c3];simp only [zj, zg, zt, zA, zO, zax] at *;rw [ze zjL (by simp)]; simp -implicitDefEqProofs (disch := omega) only [zi8, za, go_sem, *]
   · clear hg;simp only [ne_eq, zRf, if_false];rw [zQO c2];simp only [zj, zg, zt, zA, zax] at *;rw [ze zjL (by simp)]; simp -implicitDefEqProofs (disch := omega) only [zi8, za, go_sem, *]
 · clear hg hd;rw [zQO c1];simp only [zj, zg, zt, zA, zax] at *;rw [ze zjL (by simp)]; simp -implicitDefEqProofs (disch := omega) only [zi8, za, go_sem, *]
def tkF (mx d ep lim : Int) : List Message -> Shard -> List Lease -> Shard × List Lease × Int
 | [], s, out => (s, out, 0)
 | m :: l, s, out => if (out.length : Int) = mx \/ zcP ep lim m = false then tkF mx d ep lim l s out else if (zbg s m d).2.2 ≠ 0 then (zam, [], (zbg s m d).2.2) else tkF mx d ep lim l (zbg s m d).1 (out ++ [(zbg s m d).2.1])
def shB (s : Shard) : Prop := s.ready.cells.length <= 4294967296 /\ s.leases.l.length <= 4294967296 /\ s.leases.heap.length <= 4294967296
theorem zGt (t : Table) (m : Message) (d : Int) : (zQ t m d).1.l.length <= 12 /\ (zQ t m d).1.heap.length <= 12 := by
 by_cases h : (zQ t m d).2 = 0
 · exact zeY (zgY h).1
 · have : zQ t m d = (zP, za3 t m d) := by
    unfold zQ at h ⊢
    split at h
    · exact absurd rfl h
    · rename_i hc; rw [zQN hc]
   rw [this]; simp [zP]
theorem zD5 {s : Shard} (h : shB s) (m : Message) (d : Int) : shB (zbg s m d).1 := by
 unfold zbg
 split
 · exact h
 · split
   · exact h
   · split
     · exact h
     · obtain ⟨g1, g2⟩ := zGt s.leases (zbF (rmD s.ready m.id).2.1).1 d;refine ⟨?_, by simp only; omega, by simp only; omega⟩;unfold rmD
       split
       · simp only [rg, z8]; exact h.1
       · simp [zdl]
structure TK where
 s : Shard
 out : List Lease
 i : Nat
def shZ : Go.Sim.AV := .agg [.d (.bool false), .d (.int .i64 0), .d (.int .i64 0), .xsl [], .d (.int .i64 0), .d (.int .i64 0), .xsl [], .xsl []]
def tkS (l : List Message) (mx now vis ep lim : Int) (t : TK) : St := ⟨[(1, .d (.int .i64 mx)), (2, .d (.int .i64 now)), (3, .d (.int .i64 vis)), (4, .d (.int .i64 ep)), (5, .d (.int .i64 lim)), (6, .ref 6 0 0), (12, .ref 12 0 0), (16, .acc 16 (t.out.map zt)), (47, .acc 47 (l.map zg)), (48, .d (.int .i64 l.length)), (49, .d (.int .i64 t.i))], [(6, .row [.d (zj t.s)]), (12, .row [shZ]), (16, .acc t.out.length), (47, .acc l.length)]⟩
def tkR (x : Shard × List Lease × Int) : zJ × St := if x.2.2 = 0 then (.exit 0, ⟨[(6, .ref 6 0 0), (12, .ref 12 0 0), (16, .acc 16 (x.2.1.map zt))], [(6, .row [.d (zj x.1)]), (12, .row [shZ]), (16, .acc x.2.1.length)]⟩) else (.ret, ⟨[(12, .ref 12 0 0), (13, .xsl []), (14, .d (.int .i64 x.2.2))], [(12, .row [shZ])]⟩)
theorem zPj (l : List Message) (mx now vis ep lim : Int) (hl : l.length <= 12) (hn : 0 <= now /\ now <= 1073741824) (hv : 0 <= vis /\ vis <= 1000) : ∀ t : TK, t.i <= l.length /\ t.out.length <= t.i /\ shB t.s -> zT G [] zfC (tkS l mx now vis ep lim t) = some (tkR (tkF mx (now + vis) ep lim (l.drop t.i) t.s t.out)) := by
 refine zap (fun t => l.length - t.i) (fun t : TK => t.i <= l.length /\ t.out.length <= t.i /\ shB t.s) (tkS l mx now vis ep lim) (fun t => some (tkR (tkF mx (now + vis) ep lim (l.drop t.i) t.s t.out))) fun ⟨s, out, i⟩ ⟨hi, ho, hs⟩ L ih => ?_;simp only at hi ho hs
 by_cases h0 : i < l.length
 · simp only;rw [zRH h0, tkF];have hq := zII l[i] ep lim;have hd := zDM s l[i] (now + vis) hs.1 hs.2.1 hs.2.2;have hb := zD5 hs l[i] (now + vis)
   by_cases c1 : (out.length : Int) = mx
   · rw [zQO (.inl c1)];have i1 := ih ⟨s, out, i + 1⟩ ⟨by simp only; omega, by simp only; omega, hs⟩ (by simp only; omega);clear ih hd hb;simp only at i1;generalize tkR (tkF mx (now + vis) ep lim (l.drop (i + 1)) s out) = R at *;simp only [tkS, shZ, zfC] at *;replace c1 := zR2 c1;simp only [zj, zg] at *;simp only [zQ2, zQZ, zQW, zQ5, zQ0, zQT, zQV, zQR, zQ1, zQY, zQS, zQX, zQU, zo, zC] at i1;simp -implicitDefEqProofs (disch := omega) only [zg, za, go_sem, *]
   · by_cases c2 : zcP ep lim l[i] = false
     · rw [zQO (.inr c2)];have i1 := ih ⟨s, out, i + 1⟩ ⟨by simp only; omega, by simp only; omega, hs⟩ (by simp only; omega);clear ih hd hb;rw [c2] at hq;simp only at i1;generalize tkR (tkF mx (now + vis) ep lim (l.drop (i + 1)) s out) = R at *;simp only [tkS, shZ, zfC] at *;simp only [zj, zg] at *;simp only [zQ2, zQZ, zQW, zQ5, zQ0, zQT, zQV, zQR, zQ1, zQY, zQS, zQX, zQU, zo, zC] at i1;simp -implicitDefEqProofs (disch := omega) only [zg, za, go_sem, *]
     · rw [zQN (by intro hc; rcases hc with hc | hc; exact c1 hc; exact c2 hc)];rw [show zcP ep lim l[i] = true by simpa using c2] at hq
       by_cases c3 : (zbg s l[i] (now + vis)).2.2 = 0
       · rw [zQN (fun q => q c3)];have i1 := ih ⟨(zbg s l[i] (now + vis)).1, out ++ [(zbg s l[i] (now + vis)).2.1], i + 1⟩ ⟨by simp only; omega, by simp only [zQT, zRI]; omega, hb⟩ (by simp only; omega);clear ih hb;simp only at i1;generalize tkR (tkF mx (now + vis) ep lim (l.drop (i + 1)) (zbg s l[i] (now + vis)).1 (out ++ [(zbg s l[i] (now + vis)).2.1])) = R at *;generalize zbg s l[i] (now + vis) = dv at *;obtain ⟨s2, x, e⟩ := dv;simp only at c3;subst c3;simp only [tkS, shZ, zfC, zQY, zQS, zQR] at *;simp only [zj, zg, zt] at *;simp only [zQ2, zQZ, zQW, zQ5, zQ0, zQT, zQV, zQR, zQ1, zQY, zQS, zQX, zQU, zo, zC] at i1;simp -implicitDefEqProofs (disch := omega) only [zg, za, go_sem, *]
       · rw [zQO c3];clear ih hb;generalize zbg s l[i] (now + vis) = dv at *;obtain ⟨s2, x, e⟩ := dv;simp only at c3;unfold tkR;rw [zQN c3];simp only [tkS, shZ, zfC] at *;simp only [zj, zg, zt] at *;simp -implicitDefEqProofs (disch := omega) only [zg, za, go_sem, *]
 · clear ih;obtain rfl : i = l.length := by omega
   simp only [zRZ, tkF, tkR, if_true];simp only [tkS, shZ, zj, zfC];simp -implicitDefEqProofs (disch := omega) only [za, go_sem, *]
def ztL (s : Shard) (mx now vis ep lim : Int) : Int := usE s (epQ ep && (liQ lim && (tiQ now && (viQ vis && decide (1 <= mx /\ mx <= 6)))))
def zbu (s : Shard) (mx now vis ep lim : Int) : Shard × List Lease × Int := if ztL s mx now vis ep lim ≠ 0 then (zam, [], ztL s mx now vis ep lim) else if 1073741824 < now + vis then (zam, [], 6) else tkF mx (now + vis) ep lim (zw s.ready) s []
theorem zPV {s : Shard} {b : Bool} (h : usE s b = 0) : zW s.ready = 0 := by
 have hl : zaA s = 0 := by
  unfold usE at h
  split at h
  · rename_i q; exact absurd h q
  · rename_i q; exact zRm.1 q
 have hv : zaG s = 0 := by
  unfold zaA at hl
  split at hl
  · rename_i q; exact absurd hl q
  · rename_i q; exact zRm.1 q
 unfold zaG at hv
 split at hv
 · rename_i q; exact absurd hv q
 · rename_i q1; exact zRm.1 q1
theorem zPo (mx d ep lim : Int) : ∀ (l : List Message) (s : Shard) (out : List Lease), (tkF mx d ep lim l s out).2.2 ≠ 0 -> (tkF mx d ep lim l s out).1 = zam /\ (tkF mx d ep lim l s out).2.1 = [] := by
 intro l
 induction l with
 | nil => intro s out h; exact absurd rfl h
 | cons m l ih =>
  intro s out h;rw [tkF] at h ⊢
  split at h
  · rename_i q; rw [zQO q]; exact ih _ _ h
  · rename_i q;rw [zQN q]
    split at h
    · rename_i q2; rw [zQO q2]; exact ⟨rfl, rfl⟩
    · rename_i q2; rw [zQN q2]; exact ih _ _ h
theorem ztM (s : Shard) (mx now vis ep lim : Int) (h1 : s.ready.cells.length <= 4294967296) (h2 : s.leases.l.length <= 4294967296) (h3 : s.leases.heap.length <= 4294967296) : zd G ziF [.d (zj s), .d (.int .i64 mx), .d (.int .i64 now), .d (.int .i64 vis), .d (.int .i64 ep), .d (.int .i64 lim)] [] = some (.d (.tup [zj (zbu s mx now vis ep lim).1, .sl ((zbu s mx now vis ep lim).2.1.map zt), .int .i64 (zbu s mx now vis ep lim).2.2]), []) := by
 have hu := zt2 s [epQ ep, liQ lim, tiQ now, viQ vis, decide (1 <= mx /\ mx <= 6)] (by simp) h1 h2 h3;have e1 := zsm now;have e2 := zsk ep;have e3 := zHv vis;have e4 := zzt lim;have e5 := zeW mx 1 6;simp only [zQS, zQR, zRL, zSZ, id, zS0] at hu;unfold zbu ztL
 by_cases c : usE s (epQ ep && (liQ lim && (tiQ now && (viQ vis && decide (1 <= mx /\ mx <= 6))))) = 0
 · obtain ⟨d1, d2, d3, d4⟩ := zBT c;have hr := zPV c;have hn := zPU c;simp only [zQ8, tiQ, viQ, decide_eq_true_eq] at hn;obtain ⟨nn1, nn2, n1, n2, nn3⟩ := hn;clear nn1 nn2 nn3;have ho := zhx s d1 d2 d3 d4;have hl := zos hr;have hln : (zw s.ready).length <= 12 := by
    obtain ⟨b1, b2, b3, b4, b5, b6⟩ := zba hr;rw [zeQ]; omega
   have hlp := zPj (zw s.ready) mx now vis ep lim hln n1 n2 ⟨s, [], 0⟩ ⟨by simp, by simp, ⟨h1, h2, h3⟩⟩;rw [c] at hu;rw [zQN (fun q => q c)];clear c hr;simp only [zRB] at hlp;generalize tiQ now = b1 at *;generalize epQ ep = b2 at *;generalize viQ vis = b4 at *;generalize liQ lim = b5 at *;generalize decide (1 <= mx /\ mx <= 6) = b6 at *
   by_cases c2 : 1073741824 < now + vis
   · rw [zQO c2];clear hlp ho hl;simp only [zj, zam, zQR] at *;rw [ze zjK (by simp)]; simp -implicitDefEqProofs (disch := omega) only [zi7, za, go_sem, *]
   · rw [zQN c2];have herr := zPo mx (now + vis) ep lim (zw s.ready) s [];generalize tkF mx (now + vis) ep lim (zw s.ready) s [] = x at *;generalize zw s.ready = w at *;obtain ⟨s2, out, e⟩ := x;unfold tkR at hlp
     by_cases c3 : e = 0
     · subst c3;clear herr;simp only [if_true, tkS, shZ, zQR, zQ1, zQW] at hlp;simp only [zj, zA] at *;rw [ze zjK (by simp)]; simp -implicitDefEqProofs (disch := omega) only [zi7, za, go_sem, *]
     · simp only [zQN c3, tkS, shZ, zQR, zQ1, zQW] at hlp;obtain ⟨q1, q2⟩ := herr c3;simp only at q1 q2;subst q1 q2;clear herr;simp only [zj, zA, zam, zQR] at *;rw [ze zjK (by simp)]; simp -implicitDefEqProofs (disch := omega) only [zi7, za, go_sem, *]
 · rw [zQO c];generalize usE s (epQ ep && (liQ lim && (tiQ now && (viQ vis && decide (1 <= mx /\ mx <= 6))))) = u at *;generalize tiQ now = b1 at *;generalize epQ ep = b2 at *;generalize viQ vis = b4 at *;generalize liQ lim = b5 at *;generalize decide (1 <= mx /\ mx <= 6) = b6 at *;simp only [zj, zam, zQR] at *;rw [ze zjK (by simp)]; simp -implicitDefEqProofs (disch := omega) only [zi7, za, go_sem, *]
def zcp : List Int -> Shard -> Shard × Int
 | [], s => (s, 0)
 | id :: l, s => if (z4 s id).2.2 ≠ 0 then (zam, (z4 s id).2.2) else if (pbD (z4 s id).1.ready (z4 s id).2.1).2 ≠ 0 then (zam, (pbD (z4 s id).1.ready (z4 s id).2.1).2) else zcp l { (z4 s id).1 with ready := (pbD (z4 s id).1.ready (z4 s id).2.1).1 }
def shC (s : Shard) : Prop := 1 <= s.ready.cells.length /\ s.ready.cells.length <= 12 /\ s.leases.l.length <= 12 /\ s.leases.heap.length <= 12
theorem zNm {s : Shard} (h : shC s) {id : Int} (h0 : (z4 s id).2.2 = 0) : shC (z4 s id).1 := by
 unfold z4 at h0 ⊢
 split at h0
 · rename_i q;rw [zQO q];obtain ⟨a, b⟩ := zeY (ztt q).1;exact ⟨h.1, h.2.1, a, b⟩
 · rename_i q; exact absurd h0 q
theorem zti {r : z9} {m : Message} (h : (pbD r m).2 = 0) : (pbD r m).1.cells.length = r.cells.length := by
 unfold pbD at h ⊢
 split at h
 · rename_i q; rw [zQO q]; exact z8 _ _ _ _
 · rename_i q; exact absurd h q
theorem zER : ∀ (l : List Int) (s : Shard), (zcp l s).2 ≠ 0 -> (zcp l s).1 = zam := by
 intro l
 induction l with
 | nil => intro s h; exact absurd rfl h
 | cons id l ih =>
  intro s h;rw [zcp] at h ⊢
  split at h
  · rename_i q; rw [zQO q]
  · rename_i q;rw [zQN q]
    split at h
    · rename_i q2; rw [zQO q2]
    · rename_i q2; rw [zQN q2]; exact ih _ h
def exS (u : List Int) (t : Shard × Nat) : St := ⟨[(4, .ref 4 0 0), (8, .ref 8 0 0), (12, .d (.sl (zy u))), (37, .d (.sl (zy u))), (38, .d (.int .i64 u.length)), (39, .d (.int .i64 t.2))], [(4, .row [.d (zj t.1)]), (8, .row [shZ])]⟩
def exR (u : List Int) (x : Shard × Int) : zJ × St := if x.2 = 0 then (.exit 0, ⟨[(4, .ref 4 0 0), (8, .ref 8 0 0), (12, .d (.sl (zy u)))], [(4, .row [.d (zj x.1)]), (8, .row [shZ])]⟩) else (.ret, ⟨[(8, .ref 8 0 0), (9, .xsl []), (10, .d (.int .i64 x.2))], [(8, .row [shZ])]⟩)
theorem zES (u : List Int) (hl : u.length <= 12) : ∀ t : Shard × Nat, t.2 <= u.length /\ shC t.1 -> zT G [] zg3 (exS u t) = some (exR u (zcp (u.drop t.2) t.1)) := by
 refine zap (fun t => u.length - t.2) (fun t : Shard × Nat => t.2 <= u.length /\ shC t.1) (exS u) (fun t => some (exR u (zcp (u.drop t.2) t.1))) fun ⟨s, i⟩ ⟨hi, hs⟩ L ih => ?_;simp only at hi hs
 by_cases h0 : i < u.length
 · simp only;rw [zRH h0, zcp];have hr := zNo s u[i] hs.1 hs.2.1 hs.2.2.1 hs.2.2.2
   by_cases c1 : (z4 s u[i]).2.2 = 0
   · have hC := zNm hs c1;have hp := ztz (z4 s u[i]).1.ready (z4 s u[i]).2.1 (by have := hC.2.1; omega);rw [zQN (fun q => q c1)]
     by_cases c2 : (pbD (z4 s u[i]).1.ready (z4 s u[i]).2.1).2 = 0
     · have hpc := zti c2;rw [zQN (fun q => q c2)];have i1 := ih ⟨{ (z4 s u[i]).1 with ready := (pbD (z4 s u[i]).1.ready (z4 s u[i]).2.1).1 }, i + 1⟩ ⟨by simp only; omega, ⟨by simp only; rw [hpc]; exact hC.1, by simp only; rw [hpc]; exact hC.2.1, hC.2.2⟩⟩ (by simp only; omega);clear ih hC hpc;simp only at i1;generalize exR u (zcp (u.drop (i + 1)) { (z4 s u[i]).1 with ready := (pbD (z4 s u[i]).1.ready (z4 s u[i]).2.1).1 }) = R at *;generalize pbD (z4 s u[i]).1.ready (z4 s u[i]).2.1 = p at *;generalize z4 s u[i] = r at *;obtain ⟨s2, m, e⟩ := r;obtain ⟨r2, e2⟩ := p;simp only at c1 c2;subst c1 c2;simp only [exS, shZ, zg3] at *;simp only [zj, zg, zA] at *;simp only [zQ2, zQZ, zQW, zQ5, zQ0, zQT, zQV, zQR, zQ1, zQY, zQS, zQX, zQU, zo, zC] at i1;simp -implicitDefEqProofs (disch := omega) only [za, go_sem, *]
     · rw [zQO c2];clear ih hC;generalize pbD (z4 s u[i]).1.ready (z4 s u[i]).2.1 = p at *;generalize z4 s u[i] = r at *;obtain ⟨s2, m, e⟩ := r;obtain ⟨r2, e2⟩ := p;simp only at c1 c2;subst c1;unfold exR;rw [zQN c2];simp only [exS, shZ, zg3] at *;simp only [zj, zg, zA, zam, zQR] at *;simp -implicitDefEqProofs (disch := omega) only [za, go_sem, *]
   · rw [zQO c1];clear ih;generalize z4 s u[i] = r at *;obtain ⟨s2, m, e⟩ := r;simp only at c1;unfold exR;rw [zQN c1];simp only [exS, shZ, zg3] at *;simp only [zj, zg, zam, zQR] at *;simp -implicitDefEqProofs (disch := omega) only [za, go_sem, *]
 · clear ih;obtain rfl : i = u.length := by omega
   simp only [zRZ, zcp, exR, if_true];simp only [exS, shZ, zj, zg3];simp -implicitDefEqProofs (disch := omega) only [za, go_sem, *]
end Go.Proofs.YtfggldgdejjlnaaGreat.L
