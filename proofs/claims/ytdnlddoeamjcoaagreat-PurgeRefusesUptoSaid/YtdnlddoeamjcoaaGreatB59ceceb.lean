/-
  The steps of the calculus in forms that rewriting takes at o.
-/
import Derived.Test.YtdnlddoeamjcoaaGreatB7a1d2aa
set_option linter.unusedSimpArgs false
set_option linter.unusedVariables false
set_option maxHeartbeats 10000000
set_option maxRecDepth 100000
namespace Go.Sim
open Go (World Value Addr TypeId Act)
variable {P:Program}
open Classical in
noncomputable def lim{α:Type}(x:Nat->Option α):Option α:=if h:∃n,(x n).isSome=true then x (Classical.choose h) else none
def zV{α:Type}(x:Nat->Option α):Prop:=∀n m a,n<=m->x n=some a->x m=some a
theorem zV.of_succ{α:Type}{x:Nat->Option α}(h:∀n a,x n=some a->x (n+1)=some a):zV x:=by
 intro n m a hnm hx
 induction hnm with
 | refl=>exact hx
 | step _ ih=>exact h _ _ ih
theorem zeM{α:Type}{x:Nat->Option α}(h:zV x){a:α}:lim x=some a↔∃n,x n=some a:=by
 unfold lim;constructor
 ·intro hl
  split at hl
  ·exact⟨_,hl⟩
  ·cases hl
 ·rintro⟨n,hn⟩;have hex:∃n,(x n).isSome=true:=⟨n,by rw[hn];rfl⟩;rw[dif_pos hex];have hs:=zadS hex;obtain⟨b,hb⟩:=zaev.1 hs;have h1:=h _ (max n (Classical.choose hex)) a (Nat.le_max_left ..) hn;have h2:=h _ (max n (Classical.choose hex)) b (Nat.le_max_right ..) hb;rw[h1] at h2;cases h2;exact hb
theorem zna{α:Type}{x y:Option α}(h:∀a,x=some a↔y=some a):x=y:=by
 cases x with
 | some a=>exact ((h a).1 rfl).symm
 | none=>
  cases y with
  | none=>rfl
  | some a=>exact absurd ((h a).2 rfl) (by simp)
theorem zcj{α:Type}(x:Option α):lim (fun _=>x)=x:=
 zna fun a=>(zeM (x:=fun _=>x) (fun _ _ _ _ h=>h)).trans ⟨fun⟨_,h⟩=>h,fun h=>⟨0,h⟩⟩
theorem zV.bind{α β:Type}{x:Nat->Option α}{g:Nat->α->Option β}(hx:zV x)(hg:∀a,zV fun n=>g n a):zV fun n=>(x n).bind (g n):=by
 intro n m b hnm h;obtain⟨a,h1,h2⟩:=zac0.1 h;exact zac0.2 ⟨a,hx n m a hnm h1,hg a n m b hnm h2⟩
theorem zfG{α β:Type}{x:Nat->Option α}{g:Nat->α->Option β}(hx:zV x)(hg:∀a,zV fun n=>g n a):lim (fun n=>(x n).bind (g n))=(lim x).bind fun a=>lim fun n=>g n a:=by
 refine zna fun b=> ?_;rw[zeM (hx.bind hg)];constructor
 ·rintro⟨n,h⟩;obtain⟨a,h1,h2⟩:=zac0.1 h;exact zac0.2 ⟨a,(zeM hx).2 ⟨n,h1⟩,(zeM (hg a)).2 ⟨n,h2⟩⟩
 ·intro h;obtain⟨a,h1,h2⟩:=zac0.1 h;obtain⟨n,h3⟩:=(zeM hx).1 h1;obtain⟨m,h4⟩:=(zeM (hg a)).1 h2;exact⟨max n m,zac0.2 ⟨a,hx _ _ _ (Nat.le_max_left ..) h3,hg a _ _ _ (Nat.le_max_right ..) h4⟩⟩
theorem zV.map{α β:Type}{x:Nat->Option α}{g:α->β}(hx:zV x):zV fun n=>(x n).map g:=by
 intro n m b hnm h;obtain⟨a,h1,rfl⟩:=zac2.1 h;exact zac2.2 ⟨a,hx n m a hnm h1,rfl⟩
theorem zjm{α β:Type}{x:Nat->Option α}{g:α->β}(hx:zV x):lim (fun n=>(x n).map g)=(lim x).map g:=by
 refine zna fun b=> ?_;rw[zeM hx.map];constructor
 ·rintro⟨n,h⟩;obtain⟨a,h1,rfl⟩:=zac2.1 h;exact zac2.2 ⟨a,(zeM hx).2 ⟨n,h1⟩,rfl⟩
 ·intro h;obtain⟨a,h1,rfl⟩:=zac2.1 h;obtain⟨n,h2⟩:=(zeM hx).1 h1;exact⟨n,zac2.2 ⟨a,h2,rfl⟩⟩
theorem zV.const{α:Type}{x:Option α}:zV fun _=>x:=fun _ _ _ _ h=>h
theorem zV.ite{α:Type}{c:Prop}[Decidable c]{x y:Nat->Option α}(hx:zV x)(hy:zV y):zV fun n=>if c then x n else y n:=by
 by_cases h:c
 ·simpa [h] using hx
 ·simpa [h] using hy
variable (G:FuncId->Option AFn)
noncomputable def zg:zbd:=fun f args os=>lim fun n=>zbp G n f args os
noncomputable def exL(c:zh)(S:St):Option (zac×St):=lim fun n=>zcl (zbp G n) n c S
noncomputable def zai(ks:List Nat)(c:zh)(S:St):Option (zac×St):=lim fun n=>zeN ks (zcl (zbp G n) n c) n S
variable {G}
section mono
variable {F F':Nat->zbd} (hF:∀f args os,zV fun n=>F n f args os)
include hF
theorem zGN{E:Env}{H:zf}{dst:Nat}{ns dob:List Nat}{f:FuncId}{aS:List AV}:(zV fun n=>zga (F n) E H dst ns dob f aS):=by
 unfold zga;exact zV.ite ((hF f _ _).bind (fun _=>zV.const)) zV.const
theorem zvc{E:Env}{H:zf}{dst:Nat}{ms:List Bool}{f:FuncId}{args:List AV}:zV fun n=>zc0 (F n) E H dst ms f args:=
 zV.bind zV.const fun _=>zGN hF
theorem zH5{E:Env}{H:zf}{dst:Nat}{ms:List Bool}{f:FuncId}{dob:List Nat}{aS:List AV}:zV fun n=>zgG (F n) E H dst ms f dob aS:=by
 unfold zgG;exact zV.ite (zV.map (zvc hF)) zV.const
theorem zrd{E:Env}{H:zf}{dst:Nat}{ms:List Bool}{f:FuncId}{args:List AV}:zV fun n=>zbK (F n) E H dst ms f args:=by
 unfold zbK;exact zV.ite (zV.bind zV.const fun _=>zH5 hF) (zvc hF)
theorem zGQ{E:Env}{H:zf}{dst:Nat}{ms:List Bool}{f:AV}{args:List AV}:zV fun n=>zhQ (F n) E H dst ms f args:=by
 unfold zhQ
 split
 ·exact zrd hF
 ·exact zrd hF
 ·exact zV.const
theorem zQX{E:Env}{H:zf}{dst:Nat}{op:AOp}:zV fun n=>step (F n) E H dst op:=by
 cases op with
 | call f ms xs=>exact (zrd hF).map
 | callv f ms xs=>exact (zGQ hF).map
 | _=>exact zV.const
theorem ztS{x:zQ}{S:St}:zV fun n=>zd1 (F n) x S:=(zQX hF).map
theorem zrx:∀ {l:List zQ} {S:St},zV fun n=>zbM (F n) l S:=by
 intro l
 induction l with
 | nil=>intro S;exact zV.const
 | cons o l ih=>
  intro S;simp only[zbM]
  split
  ·exact (ztS hF).bind (fun _=>ih)
  ·split
   ·exact zV.ite ((ztS hF).bind (fun _=>ih)) ih
   ·exact ih
   ·exact zV.const
theorem zvp{x:zQ}{fr:List (List Nat)}{acc:List (List Nat×List Nat)}{S:St}:zV fun n=>zdQ (F n) x fr acc S:=by
 unfold zdQ;exact zV.ite (ztS hF) zV.const
theorem zrw:∀ {l:List zQ} {fr:List (List Nat)} {acc:List (List Nat×List Nat)} {S:St},zV fun n=>zbP (F n) l fr acc S:=by
 intro l
 induction l with
 | nil=>intro fr acc S;exact zV.const
 | cons o l ih=>
  intro fr acc S;simp only[zbP]
  split
  ·exact (zvp hF).bind (fun _=>ih)
  ·split
   ·exact zV.ite ((zvp hF).bind (fun _=>ih)) (zV.bind zV.const (fun _=>ih))
   ·exact zV.bind zV.const (fun _=>ih)
   ·exact zV.const
theorem zvo{l:List zQ}{fr:List (List Nat)}{S:St}:zV fun n=>zgh (F n) l fr S:=by
 unfold zgh;exact zV.ite (zrw hF) zV.const
omit hF in
theorem zQI{g:Nat->St->Option (zac×St)}(hg:∀S,zV fun n=>g n S){p:zac×St}:zV fun n=>zhE (g n) p:=by
 unfold zhE
 split
 ·exact hg _
 ·exact zV.const
 ·exact zV.const
omit hF in
theorem zBn{g:Nat->St->Option (zac×St)}(hg:∀S,zV fun n=>g n S){ks:List Nat}{p:zac×St}:zV fun n=>zdB ks (g n) p:=by
 unfold zdB
 split
 ·exact hg _
 ·exact zV.const
 ·exact zV.const
omit hF in
theorem zMs{b:Nat->St->Option (zac×St)}(hb:∀S,zV fun n=>b n S):∀ {ks:List Nat} {k:Nat} {S:St},zV fun n=>zeN ks (b n) k S:=by
 intro ks k
 induction k with
 | zero=>intro S;exact zV.const
 | succ k ih=>intro S;exact (hb S).bind fun p=>zBn fun _=>ih
omit hF in
theorem zMt{ks:List Nat}{b:St->Option (zac×St)}:∀ {S:St},zV fun k=>zeN ks b k S:=by
 intro S;refine zV.of_succ fun k=> ?_
 induction k generalizing S with
 | zero=>intro a h;cases h
 | succ k ih=>
  intro a h;simp only[zeN] at h ⊢;obtain⟨p,h1,h2⟩:=zac0.1 h;refine zac0.2 ⟨p,h1,?_⟩;unfold zdB at h2 ⊢
  split at h2
  ·exact ih _ h2
  ·exact h2
  ·exact h2
omit hF in
theorem zMr{b:Nat->St->Option (zac×St)}(hb:∀S,zV fun n=>b n S){ks:List Nat}{S:St}:zV fun n=>zeN ks (b n) n S:=fun n m a hnm h=>
 zMs hb n m a hnm (zMt n m a hnm h)
theorem zgl:∀ {c:zh} {S:St},zV fun n=>zcl (F n) n c S:=by
 intro c
 induction c with
 | skip=>intro S;exact zV.const
 | exit i ks=>intro S;exact zV.const
 | ret ks=>intro S;exact zV.const
 | ops gs l ks=>intro S;exact (zV.bind zV.const fun _=>zrx hF).map
 | draw gs l fr ks=>intro S;exact (zV.bind zV.const fun _=>zvo hF).map
 | seq x y ih1 ih2=>intro S;exact ih1.bind fun p=>zQI fun S=>ih2
 | cond c x y ih1 ih2=>
  intro S;simp only[zcl,zhV]
  split
  ·exact zV.ite ih1 ih2
  ·exact zV.const
 | block id x ih=>intro S;exact ih.map
 | loop ks x ih=>intro S;exact zMr fun S=>ih
end mono
theorem zbU(f:FuncId)(args:List AV)(os:zf):zV fun n=>zbp G n f args os:=by
 refine zV.of_succ fun n=> ?_
 induction n generalizing f args os with
 | zero=>intro a h;cases h
 | succ n ih=>
  -- two steps: more fuel for the calls, more rounds
  have code:∀(c:zh) (rs:List zm) (nt:Nat) (sl:Bool) (args:List AV) (os:zf) (a:AV×zf),zfs (zbp G n) n args os c rs nt sl=some a->zfs (zbp G (n+1)) (n+1) args os c rs nt sl=some a:=by
   intro c rs nt sl args os a h2;simp only[zfs] at h2 ⊢
   split at h2
   ·rename_i hc;rw[zacY hc];obtain⟨p,h3,h4⟩:=zac0.1 h2;refine zac0.2 ⟨p,?_,h4⟩
    let Fs:Nat->zbd:=fun k=>if k<=n then zbp G n else zbp G (n+1)
    have hFs:∀f args os,zV fun k=>Fs k f args os:=fun f args os=>zV.of_succ fun k a h=>by
     simp only[Fs] at h ⊢
     split at h
     ·split
      ·exact h
      ·exact ih f args os a h
     ·rename_i hk;rw[zacX (by omega)];exact h
    have:=zgl (F:=Fs) hFs (c:=c) (S:=⟨enter args++zgq os,os⟩) n (n+1) p (by omega);simp only[Fs,zadr,if_true] at this;rw[zacX (by omega)] at this;exact this h3
   ·cases h2
  intro a h;have h:(G f).bind (fnF (zbp G n) n args os)=some a:=h;show (G f).bind (fnF (zbp G (n+1)) (n+1) args os)=some a;obtain⟨fn,h1,h2⟩:=zac0.1 h;refine zac0.2 ⟨fn,h1,?_⟩
  cases fn with
  | ext g=>exact h2
  | code c rs nt sl=>exact code c rs nt sl args os a h2
  | nils c rs nt=>
   have new0:∀ {x:Option (AV×zf)},zkB x=true->x=some (.acc 0 [],[(0,.acc 0)]):=fun {x} hx=>by
    unfold zkB at hx
    split at hx
    ·rfl
    ·cases hx
   show zm7 (zbp G (n+1)) (n+1) args os c rs nt=some a;have h2:zm7 (zbp G n) n args os c rs nt=some a:=h2;unfold zm7 at h2 ⊢
   split at h2
   ·rename_i he;rw[zacY he]
    split at h2
    ·rename_i hn;simp only[zac7] at hn;rw[code _ _ _ _ _ _ _ (new0 hn.1),code _ _ _ _ _ _ _ (new0 hn.2)];exact h2
    ·cases h2
   ·rename_i he;rw[zacX he];exact code _ _ _ _ _ _ _ h2
theorem zGP{f:FuncId}{args:List AV}{os:zf}{p:AV×zf}:zg G f args os=some p↔∃n,zbp G n f args os=some p:=zeM (zbU f args os)
theorem zMh{E:Env}{H:zf}{dst:Nat}{ms:List Bool}{f:FuncId}{args:List AV}:lim (fun n=>zc0 (zbp G n) E H dst ms f args)=zc0 (zg G) E H dst ms f args:=by
 unfold zc0;rw[zfG zV.const fun _=>zGN zbU,zcj]
 congr 1;funext aS
 unfold zga
 split
 ·rw[zfG (g:=fun _=>zfc E H dst (zbZ H ms args) (zaQ ms args)) (zbU _ _ _) fun _=>zV.const]
  congr 1;funext p
  exact zcj _
 ·exact zcj _
theorem zBj{E:Env}{H:zf}{dst:Nat}{ms:List Bool}{f:FuncId}{args:List AV}:lim (fun n=>zbK (zbp G n) E H dst ms f args)=zbK (zg G) E H dst ms f args:=by
 unfold zbK
 split
 ·rw[zfG zV.const fun _=>zH5 zbU,zcj]
  congr 1;funext aS
  unfold zgG
  split
  ·rw[zjm (zvc zbU),zMh]
  ·exact zcj _
 ·exact zMh
theorem zZ1{E:Env}{H:zf}{dst:Nat}{op:AOp}:lim (fun n=>step (zbp G n) E H dst op)=step (zg G) E H dst op:=by
 cases op with
 | call f ms xs=>exact (zjm (zrd zbU)).trans (congrArg _ zBj)
 | callv f ms xs=>
  refine (zjm (zGQ zbU)).trans (congrArg _ ?_);unfold zhQ
  split
  ·exact zBj
  ·exact zBj
  ·exact zcj _
 | _=>exact zcj _
theorem zMi{x:zQ}{S:St}:lim (fun n=>zd1 (zbp G n) x S)=zd1 (zg G) x S:=(zjm (zQX zbU)).trans (congrArg _ zZ1)
theorem zZZ:∀ {l:List zQ} {S:St},lim (fun n=>zbM (zbp G n) l S)=zbM (zg G) l S:=by
 intro l
 induction l with
 | nil=>intro S;exact zcj _
 | cons o l ih=>
  intro S;have key:lim (fun n=>(zd1 (zbp G n) o S).bind (zbM (zbp G n) l))=(zd1 (zg G) o S).bind (zbM (zg G) l):=by
   rw[zfG (ztS zbU) fun _=>zrx zbU,zMi]
   congr 1;funext p;exact ih
  simp only[zbM]
  split
  ·exact key
  ·split
   ·split
    ·exact key
    ·exact ih
   ·exact ih
   ·exact zcj _
theorem zZW{x:zQ}{fr:List (List Nat)}{acc:List (List Nat×List Nat)}{S:St}:lim (fun n=>zdQ (zbp G n) x fr acc S)=zdQ (zg G) x fr acc S:=by
 unfold zdQ
 split
 ·exact zMi
 ·exact zcj _
theorem zZY:∀ {l:List zQ} {fr:List (List Nat)} {acc:List (List Nat×List Nat)} {S:St},lim (fun n=>zbP (zbp G n) l fr acc S)=zbP (zg G) l fr acc S:=by
 intro l
 induction l with
 | nil=>intro fr acc S;exact zcj _
 | cons o l ih=>
  intro fr acc S;have key:lim (fun n=>(zdQ (zbp G n) o fr acc S).bind (zbP (zbp G n) l fr.tail (acc++[feet o S])))=(zdQ (zg G) o fr acc S).bind (zbP (zg G) l fr.tail (acc++[feet o S])):=by
   rw[zfG (zvp zbU) fun _=>zrw zbU,zZW]
   congr 1;funext p;exact ih
  simp only[zbP]
  split
  ·exact key
  ·split
   ·split
    ·exact key
    ·rw[zfG zV.const fun _=>zrw zbU,zcj]
     congr 1;funext p;exact ih
   ·rw[zfG zV.const fun _=>zrw zbU,zcj]
    congr 1;funext p;exact ih
   ·exact zcj _
theorem zZV{l:List zQ}{fr:List (List Nat)}{S:St}:lim (fun n=>zgh (zbp G n) l fr S)=zgh (zg G) l fr S:=by
 unfold zgh
 split
 ·exact zZY
 ·exact zcj _
theorem zVZ{S:St}:exL G .skip S=some (.normal,S):=zcj _
theorem zVV{i:Nat}{ks:List Nat}{S:St}:exL G (.exit i ks) S=some (.exit i,endS ks S):=zcj _
theorem zVX{ks:List Nat}{S:St}:exL G (.ret ks) S=some (.ret,endS ks S):=zcj _
theorem zVW{gs:List Nat}{l:List zQ}{ks:List Nat}{S:St}:exL G (.ops gs l ks) S=((zfA gs S).bind (zbM (zg G) l)).map (zji ks):=by
 refine (zjm (zV.bind zV.const fun _=>zrx zbU)).trans (congrArg _ ?_);rw[zfG zV.const fun _=>zrx zbU,zcj]
 congr 1;funext p;exact zZZ
theorem zVU{gs:List Nat}{l:List zQ}{fr:List (List Nat)}{ks:List Nat}{S:St}:exL G (.draw gs l fr ks) S=((zfA gs S).bind (zgh (zg G) l fr)).map (zji ks):=by
 refine (zjm (zV.bind zV.const fun _=>zvo zbU)).trans (congrArg _ ?_);rw[zfG zV.const fun _=>zvo zbU,zcj]
 congr 1;funext p;exact zZV
theorem zVY{x y:zh}{S:St}:exL G (.seq x y) S=(exL G x S).bind (zhE (exL G y)):=by
 refine (zfG (zgl zbU) fun p=>zQI fun S=>zgl zbU).trans ?_
 congr 1;funext p
 unfold zhE
 split
 ·rfl
 ·exact zcj _
 ·exact zcj _
theorem zVT{c:Opd}{x y:zh}{S:St}:exL G (.cond c x y) S=zhV (c.ev S.env) (exL G x S) (exL G y S):=by
 show lim (fun n=>zhV (c.ev S.env) (zcl (zbp G n) n x S) (zcl (zbp G n) n y S))=_;unfold zhV
 split
 ·split
  ·rfl
  ·rfl
 ·exact zcj _
theorem zVS{id:Nat}{x:zh}{S:St}:exL G (.block id x) S=(exL G x S).map (ziV id):=zjm (zgl zbU)
theorem za2{ks:List Nat}{x:zh}{S:St}:zai G ks x S=(exL G x S).bind (zdB ks (zai G ks x)):=by
 have hm:∀S,zV fun n=>zeN ks (zcl (zbp G n) n x) n S:=fun S=>zMr fun S=>zgl zbU;have e1:(exL G x S).bind (zdB ks (zai G ks x))=lim fun n=>(zcl (zbp G n) n x S).bind (zdB ks (zeN ks (zcl (zbp G n) n x) n)):=by
  rw[zfG (zgl zbU) fun p=>zBn hm]
  congr 1;funext p
  unfold zdB
  split
  ·rfl
  ·exact (zcj _).symm
  ·exact (zcj _).symm
 rw[e1];refine zna fun a=> ?_;rw[zai,zeM (hm S),zeM ((zgl zbU).bind fun p=>zBn hm)];constructor
 ·rintro⟨n,h⟩
  cases n with
  | zero=>cases h
  | succ n=>
   simp only[zeN] at h;obtain⟨p,h1,h2⟩:=zac0.1 h;refine⟨n+1,zac0.2 ⟨p,h1,?_⟩⟩;unfold zdB at h2 ⊢
   split at h2
   ·exact zMt n (n+1) a (by omega) h2
   ·exact h2
   ·exact h2
 ·rintro⟨n,h⟩;obtain⟨p,h1,h2⟩:=zac0.1 h;refine⟨n+1,?_⟩;simp only[zeN];refine zac0.2 ⟨p,zgl zbU n (n+1) p (by omega) h1,?_⟩;unfold zdB at h2 ⊢
  split at h2
  ·exact zMs (fun S=>zgl zbU) n (n+1) a (by omega) h2
  ·exact h2
  ·exact h2
theorem zZU{c:zh}{rs:List zm}{nt:Nat}{sl:Bool}{args:List AV}{os:zf}(hl:args.length<=nt):(zV fun n=>zfs (zbp G n) n args os c rs nt sl)/\lim (fun n=>zfs (zbp G n) n args os c rs nt sl)=(exL G c ⟨enter args++zgq os,os⟩).bind (zgF sl rs os):=by
 have e:(fun n=>zfs (zbp G n) n args os c rs nt sl)=fun n=>(zcl (zbp G n) n c ⟨enter args++zgq os,os⟩).bind (zgF sl rs os):=by
  funext n;simp only[zfs];rw[zacY hl]
 rw[e];refine⟨zV.bind (g:=fun _ p=>zgF sl rs os p) (zgl zbU) fun p=>zV.const,?_⟩;rw[zfG (g:=fun _ p=>zgF sl rs os p) (zgl zbU) fun p=>zV.const];show (exL G c ⟨enter args++zgq os,os⟩).bind _=_
 congr 1;funext p;exact zcj _
theorem zZ0{α:Type}{x y:Nat->Option α}(hx:zV x)(hy:zV y)(h0:x 0=none)(h:∀n,x (n+1)=y n):lim x=lim y:=by
 refine zna fun a=> ?_;rw[zeM hx,zeM hy];constructor
 ·rintro⟨n,h1⟩
  cases n with
  | zero=>rw[h0] at h1;cases h1
  | succ n=>exact⟨n,by rw[<- h];exact h1⟩
 ·rintro⟨n,h1⟩;exact⟨n+1,by rw[h];exact h1⟩
theorem zO{f:FuncId}{c:zh}{rs:List zm}{nt:Nat}{sl:Bool}(h:G f=some (.code c rs nt sl)){args:List AV}{os:zf}(hl:args.length<=nt):zg G f args os=(exL G c ⟨enter args++zgq os,os⟩).bind (zgF sl rs os):=by
 obtain⟨h1,h2⟩:=zZU (G:=G) (c:=c) (rs:=rs) (os:=os) (sl:=sl) hl;rw[<- h2];exact zZ0 (zbU f args os) h1 rfl fun n=>by simp only[zbp,h,zadz,fnF]
theorem zTb(hG:GOK P G):FOK P (zg G):=by
 intro f args os r os' h h1 h2;obtain⟨n,hn⟩:=zGP.1 h;exact zS8 hG n f args os r os' hn h1 h2
theorem za3 {T:Type} {ks:List Nat} {x:zh} (μ:T->Nat) (inv:T->Prop) (st:T->St) (r:T->Option (zac×St))
    (h:∀t,inv t->∀L:St->Option (zac×St),(∀t',inv t'->μ t'<μ t->L (st t')=r t')->(exL G x (st t)).bind (zdB ks L)=r t):∀t,inv t->zai G ks x (st t)=r t:=by
 intro t;generalize hk:μ t=k
 induction k using Nat.strongRecOn generalizing t with
 | ind k ih=>
  intro hi;rw[za2];exact h t hi _ fun t' hi' hlt=>ih (μ t') (by omega) t' rfl hi'
end Go.Sim

namespace Go.Sim
variable {F:zbd} {E:Env} {H:zf} {dst:Nat}
def znM(full:List Nat):List Nat->Bool
 | []=>true
 | x::l=>full.contains x&&znM full l
theorem zC9{full:List Nat}:∀ {l:List Nat},l.all full.contains=znM full l
 | []=>rfl
 | x::l=>by rw[zad0,zC9];rfl
def zBE(full:List Nat):Option Obj->Bool
 | some (.row es)=>znM full (AV.objsL es)
 | _=>false
def okN(H:zf)(full:List Nat):List Nat->Bool
 | []=>true
 | o::l=>zBE full (look o H)&&okN H full l
theorem z1Z{ns:List Nat}:zk0 H ns=okN H ns ns:=by
 have:∀full l:List Nat,(l.all fun o=>match look o H with|some (.row es)=>(AV.objsL es).all full.contains|_=>false)=okN H full l:=by
  intro full l
  induction l with
  | nil=>rfl
  | cons o l ih=>
   rw[zad0,ih];simp only[okN]
   congr 1
   unfold zBE
   split<;>simp_all [zC9]
 exact this ns ns
def osN(H:zf)(full:List Nat):List Nat->zf
 | []=>[]
 | o::l=>(zbb full o,((look o H).getD (.acc 0)).ren (zbb full))::osN H full l
theorem z6j{ns:List Nat}:zcm H ns=osN H ns ns:=by
 have:∀full l:List Nat,(l.map fun o=>(zbb full o,((look o H).getD (.acc 0)).ren (zbb full)))=osN H full l:=by
  intro full l
  induction l with
  | nil=>rfl
  | cons o l ih=>rw[zac1,ih];rfl
 exact this ns ns
theorem zW5{ns:List Nat}:zmp E H dst ns []=true:=rfl
theorem zW4{ns:List Nat}{n:Nat}{ob:Obj}{l:zf}:zmp E H dst ns ((n,ob)::l)=((decide (1000000<=n)||(!zbg (dst+10000 * n) E&& !zaE (dst+10000 * n) H&& !ns.contains (dst+10000 * n)))&&zmp E H dst ns l):=rfl
def zrC:zf->Bool
 | []=>true
 | (_,ob)::l=>ob.flat&&zrC l
theorem zWY{v:AV}{δ:zf}:zko (v,δ)=(v.flat&&zrC δ):=by
 unfold zko
 congr 1
 show (δ.all fun q=>q.2.flat)=zrC δ
 induction δ with
 | nil=>rfl
 | cons p l ih=>rw[zad0,ih];rfl
theorem zUp{b:List Nat}:zhY [] b=true:=rfl
theorem zUo{a:Nat}{l b:List Nat}:zhY (a::l) b=(!b.contains a&&zhY l b):=rfl
theorem z83{ρ:Nat->Nat}:zdF ρ []=[]:=rfl
theorem z82{ρ:Nat->Nat}{n:Nat}{ob:Obj}{l:zf}:zdF ρ ((n,ob)::l)=(ρ n,ob.ren ρ)::zdF ρ l:=rfl
theorem zW8:zbG H []=[]:=rfl
theorem zW7{o:Nat}{l:List Nat}:zbG H (o::l)=(o,.frz (mark H o))::zbG H l:=rfl
theorem zXa:zgH H []=true:=rfl
theorem zW9{o:Nat}{l:List Nat}:zgH H (o::l)=((look o H).isSome&&zgH H l):=rfl
theorem z1X:zkW []=[]:=rfl
theorem z1W{o:Nat}{l:List Nat}:zkW (o::l)=(2 * o+1)::zkW l:=rfl
theorem zVR:zki []=[]:=rfl
theorem zVQ{o:Nat}{l:List Nat}:zki (o::l)=(2 * o)::zki l:=rfl
theorem zUr{b:List Nat}:zi3 [] b=true:=rfl
theorem zUq{a:Nat}{l b:List Nat}:zi3 (a::l) b=(!b.contains a&&zi3 l b):=rfl
def zGU(p:List Nat×List Nat):Option (List Nat×List Nat)->Bool
 | some q=>zjg q p
 | none=>false
theorem zTp{acc:List (List Nat×List Nat)}{p:List Nat×List Nat}:zg8 [] acc p=true:=rfl
theorem zTo{k:Nat}{fr:List Nat}{acc:List (List Nat×List Nat)}{p:List Nat×List Nat}:zg8 (k::fr) acc p=(zGU p (acc[k]?)&&zg8 fr acc p):=rfl
def zrF(E:Env)(H:zf):List Nat->Bool
 | []=>true
 | n::l=>(!zbg n E&& !zaE n H)&&zrF E H l
theorem zW3{S:St}:zmo [] S=true:=rfl
theorem zW2{x:zQ}{l:List zQ}:zmo (x::l) ⟨E,H⟩=(zrF E H x.newNames&&zmo l ⟨E,H⟩):=by
 have:∀ns:List Nat,(ns.all fun n=> !zbg n E&& !zaE n H)=zrF E H ns:=by
  intro ns
  induction ns with
  | nil=>rfl
  | cons n l ih=>rw[zad0,ih];rfl
 rw[<- this];rfl
theorem z9u{o m:Nat}:znz o m []=[]:=rfl
theorem z9t{o m t:Nat}{x:AV}{l:Env}:znz o m ((t,x)::l)=(t,zgV o m x)::znz o m l:=rfl
theorem zRH{o:Nat}{ds:List D}:zqM o ds []=[]:=rfl
theorem zRG{o t:Nat}{ds:List D}{x:AV}{l:Env}:zqM o ds ((t,x)::l)=(t,zjU o ds x)::zqM o ds l:=rfl
def zrr:Nat->List AV->Env
 | _,[]=>[]
 | n,x::l=>(n,x)::zrr (n+1) l
theorem zVI{args:List AV}:enter args=zrr 0 args:=by
 have:∀(l:List AV) (n:Nat),((l.zipIdx n).map fun p=>(p.2,p.1))=zrr n l:=by
  intro l
  induction l with
  | nil=>intro n;rfl
  | cons x l ih=>intro n;rw[List.zipIdx_cons,zac1,ih];rfl
 exact this args 0
theorem zYi:zgq []=[]:=rfl
theorem zYh{n:Nat}{ob:Obj}{l:zf}:zgq ((n,ob)::l)=(n,.ref n 1 0)::zgq l:=rfl
def zBF(full:List Nat)(k o:Nat):Option Obj->Bool
 | some (.row es)=>znM full (AV.objsL es)&&(decide (o<1000000)||decide (o<1000000+k))
 | some (.acc _)=>decide (o<1000000)
 | some (.frz m)=>m.isNone&&decide (1000000<=o)&&(decide (o<1000000)||decide (o<1000000+k))
 | _=>false
def okO(H:zf)(full:List Nat)(k:Nat):List Nat->Bool
 | []=>true
 | o::l=>zBF full k o (look o H)&&okO H full k l
theorem z10{os:zf}{ns:List Nat}:zjs H os ns=(okO H ns os.length ns&&decide ((frs ns).length<=4)):=by
 have:∀full l:List Nat,(l.all fun o=>(match look o H with|some (.row es)=>(AV.objsL es).all full.contains|some (.acc _)=>decide (o<1000000)|some (.frz m)=>m.isNone&&decide (1000000<=o)|_=>false)&&(decide (o<1000000)||decide (o<1000000+os.length)))=okO H full os.length l:=by
  intro full l
  induction l with
  | nil=>rfl
  | cons o l ih=>
   rw[zad0,ih];simp only[okO]
   congr 1
   unfold zBF
   split<;>simp_all [zC9]
 unfold zjs;exact congrArg (· && decide ((frs ns).length<=4)) (this ns ns)
def zMP(o:Nat):Option AV->Bool
 | some (.ref p 1 0)=>p==o
 | _=>false
def okG(E:Env):zf->Bool
 | []=>true
 | (o,_)::l=>zMP o (look o E)&&okG E l
theorem z1Y{os:zf}:zkZ E os=okG E os:=by
 unfold zkZ
 induction os with
 | nil=>rfl
 | cons p l ih=>
  rw[zad0,ih];simp only[okG]
  congr 1
def zs1(H:zf)(full:List Nat):List Nat->zf
 | []=>[]
 | o::l=>(zbm full o,((look o H).getD (.acc 0)).ren (zbm full))::zs1 H full l
theorem z6k{ns:List Nat}:zc6 H ns=zs1 H ns ns:=by
 have:∀full l:List Nat,(l.map fun o=>(zbm full o,((look o H).getD (.acc 0)).ren (zbm full)))=zs1 H full l:=by
  intro full l
  induction l with
  | nil=>rfl
  | cons o l ih=>rw[zac1,ih];rfl
 exact this ns ns
def evs(E:Env):List Opd->List AV
 | []=>[]
 | x::xs=>x.ev E::evs E xs
theorem zBr{xs:List Opd}:xs.map (·.ev E)=evs E xs:=by
 induction xs with
 | nil=>rfl
 | cons x xs ih=>rw[zac1,ih];rfl
def evO(E:Env):Option Opd->Option AV
 | none=>none
 | some x=>some (x.ev E)
theorem zBp{x:Option Opd}:x.map (·.ev E)=evO E x:=by cases x<;>rfl
def evB(E:Env):List (Nat×Nat×Opd)->List (Nat×Nat×AV)
 | []=>[]
 | (a,b,x)::l=>(a,b,x.ev E)::evB E l
theorem z0n{l:List (Nat×Nat×Opd)}:(l.map fun p=>(p.1,p.2.1,p.2.2.ev E))=evB E l:=by
 induction l with
 | nil=>rfl
 | cons p l ih=>rw[zac1,ih];rfl
def evF(E:Env):List (Nat×Opd)->List (Nat×AV)
 | []=>[]
 | (a,x)::l=>(a,x.ev E)::evF E l
theorem z0o{l:List (Nat×Opd)}:(l.map fun p=>(p.1,p.2.ev E))=evF E l:=by
 induction l with
 | nil=>rfl
 | cons p l ih=>rw[zac1,ih];rfl
def szF(n:Nat):List (Nat×AV)->Bool
 | []=>true
 | (_,x)::l=>(x.size==n)&&szF n l
theorem zR7{n:Nat}{l:List (Nat×Opd)}:(l.all fun p=>(p.2.ev E).size==n)=szF n (evF E l):=by
 induction l with
 | nil=>rfl
 | cons p l ih=>rw[zad0,ih];rfl
theorem z9O{f:FuncId}{ms:List Bool}{xs:List Opd}:step F E H dst (.call f ms xs)=zg7 H (zbK F E H dst ms f (evs E xs)):=by rw[<- zBr];rfl
theorem zWe{f:FuncId}{ms:List Bool}{xs:List Opd}:AOp.feet E H dst (.call f ms xs)=zj6 H dst ms (evs E xs):=by rw[<- zBr];rfl
def zhA(H:zf):Option AV->Option (AV×zf)
 | none=>none
 | some v=>some (v,H)
theorem zjD{x:Option AV}:x.map (fun v=>(v,H))=zhA H x:=by cases x<;>rfl
def znv(H:zf):Option D->Option (AV×zf)
 | none=>none
 | some v=>some (.d v,H)
theorem zCR{x:Option D}:x.map (fun v=>(AV.d v,H))=znv H x:=by cases x<;>rfl
def zCQ(H:zf)(ng:Bool):Option Bool->Option (AV×zf)
 | none=>none
 | some b=>some (.d (.bool (if ng then !b else b)),H)
def dO:Option D->Option AV
 | none=>none
 | some v=>some (.d v)
theorem zGZ{x:Option D}:x.map AV.d=dO x:=by cases x<;>rfl
def pdO:Option D->Option AV
 | none=>none
 | some v=>some (.d (.pd v))
def peO(o:Nat):Option D->Option AV
 | none=>none
 | some v=>some (.pe o v)
def ldR(ag:Bool)(n:Nat):Option AV->Option AV
 | some e=>zeT ag off n e
 | none=>none
 where off:Nat:=0
def ldE(ag:Bool)(n off:Nat):Option AV->Option AV
 | some e=>zeT ag off n e
 | none=>none
def ldO(ag:Bool)(n i off:Nat):Option Obj->Option AV
 | some (.row es)=>ldE ag n off es[i]?
 | _=>none
def ldV(H:zf)(ag:Bool)(n:Nat):AV->Option AV
 | .d (.pd x)=>dO (zcw ag 0 n x)
 | .pe _ x=>dO (zcw ag 0 n x)
 | .ref o i off=>ldO ag n i off (look o H)
 | _=>none
theorem zMe{ag:Bool}{n:Nat}{v:AV}:ldA H ag n v=ldV H ag n v:=by
 unfold ldA
 split
 ·exact zGZ
 ·exact zGZ
 ·rename_i o i off;simp only[ldV];generalize look o H=q
  rcases q with _|(es|m|m|m)
  ·rfl
  ·show es[i]?.bind _=ldE ag n off es[i]?
   cases es[i]? <;> rfl
  ·rfl
  ·rfl
  ·rfl
 ·unfold ldV;split<;>simp_all
theorem z9V{ag:Bool}{n:Nat}{p:Opd}:step F E H dst (.ld ag n p)=zhA H (ldV H ag n (p.ev E)):=by
 show (ldA H ag n (p.ev E)).map (fun v=>(v,H))=_;rw[zjD,zMe]
def zkj(ag:Bool)(off n:Nat):AV->Option AV
 | .ref o i f=>some (.ref o i (f+off))
 | .d (.pd y)=>pdO (zcw ag off n y)
 | .pe o y=>peO o (zcw ag off n y)
 | _=>none
theorem zWv{ag:Bool}{off n:Nat}{v:AV}:zez ag off n v=zkj ag off n v:=by
 unfold zez
 split
 ·rfl
 ·rename_i y;simp only[zkj];cases zcw ag off n y<;>rfl
 ·rename_i o y;simp only[zkj];cases zcw ag off n y<;>rfl
 ·unfold zkj;split<;>simp_all
theorem z9S{ag:Bool}{off n:Nat}{x:Opd}:step F E H dst (.fad ag off n x)=zhA H (zkj ag off n (x.ev E)):=by
 show (zez ag off n (x.ev E)).map (fun v=>(v,H))=_;rw[zjD,zWv]
def szR(n o i:Nat):Option AV->Option AV
 | some e=>if e.size=n then some (.ref o i 0) else none
 | none=>none
def szP(n o:Nat):Option D->Option AV
 | some e=>if e.size=n then some (.pe o e) else none
 | none=>none
def szD(n:Nat):Option D->Option AV
 | some e=>if e.size=n then some (.d (.pd e)) else none
 | none=>none
def zLT(n o i:Nat):Option Obj->Option AV
 | some (.row es)=>szR n o i es[i]?
 | _=>none
def zie(H:zf)(n:Nat)(i:Int):AV->Option AV
 | .osl o off len=>if i<len then zLT n o (off+i.toNat) (look o H) else none
 | .acc o es=>szP n o es[i.toNat]?
 | .d (.sl es)=>szD n es[i.toNat]?
 | .xsl es=>szD n es[i.toNat]?
 | _=>none
theorem zYv{n:Nat}{i:Int}{v:AV}:zde H n i v=zie H n i v:=by
 unfold zde
 split
 ·rename_i o off len;simp only[zie]
  split
  ·generalize look o H=q
   rcases q with _|(es|m|m|m)
   ·rfl
   ·show es[off+i.toNat]?.bind _=szR n o (off+i.toNat) es[off+i.toNat]?
    cases es[off+i.toNat]? <;> rfl
   ·rfl
   ·rfl
   ·rfl
  ·rfl
 ·rename_i o es;simp only[zie];unfold szP;cases es[i.toNat]? <;> rfl
 ·rename_i es;simp only[zie];unfold szD;cases es[i.toNat]? <;> rfl
 ·rename_i es;simp only[zie];unfold szD;cases es[i.toNat]? <;> rfl
 ·unfold zie;split<;>simp_all
def zAD(H:zf)(n:Nat)(v:AV):Option Int->Option (AV×zf)
 | some k=>if 0<=k then zhA H (zie H n k v) else none
 | none=>none
theorem z9U{n:Nat}{x i:Opd}:step F E H dst (.iad n x i)=zAD H n (x.ev E) (zcf (i.ev E)):=by
 show (zcf (i.ev E)).bind _=_;unfold zAD
 cases zcf (i.ev E) with
 | none=>rfl
 | some k=>simp only[zadz,zYv,zjD]
def stF(H:zf)(o i:Nat)(es:List AV):Option AV->Option (AV×zf)
 | some e=>some (.undef,zY o (.row (es.set i e)) H)
 | none=>none
def stE(H:zf)(o i off:Nat)(es:List AV)(v:AV):Option AV->Option (AV×zf)
 | some e=>stF H o i es (zdj e off v)
 | none=>none
def stO(H:zf)(o i off:Nat)(v:AV):Option Obj->Option (AV×zf)
 | some (.row es)=>stE H o i off es v es[i]?
 | _=>none
def stV(H:zf)(n:Nat)(v:AV):AV->Option (AV×zf)
 | .ref o i off=>if v.size=n/\zcg v=false then stO H o i off v (look o H) else none
 | _=>none
def zgB:Option AV->Option Int
 | some (.d (.int .i64 n))=>some n
 | _=>none
def zqP(off:Nat):Option AV->Option Int
 | some e=>zgB e.cells[off]?
 | none=>none
def zDV(i off:Nat):Option Obj->Option Int
 | some (.row es)=>zqP off es[i]?
 | _=>none
def zfb(H:zf):AV->Option Int
 | .ref o i off=>zDV i off (look o H)
 | _=>none
theorem zDW{p:AV}:zdu H p=zfb H p:=by
 cases p with
 | ref o i off=>
  simp only[zdu,zfb];generalize look o H=q
  rcases q with _|(es|m|m|m)
  ·rfl
  ·show (es[i]?).bind _=zqP off es[i]?
   cases es[i]? with
   | none=>rfl
   | some e=>
    show (e.cells[off]?).bind zc5=zgB e.cells[off]?
    cases e.cells[off]? with
    | none=>rfl
    | some y=>show zc5 y=zgB (some y);unfold zc5 zgB;split<;>simp_all
  ·rfl
  ·rfl
  ·rfl
 | _=>rfl
def zQB(H:zf):Option Int->Option (AV×zf)
 | some n=>some (.d (.int .i64 n),H)
 | none=>none
theorem z9H{p:Opd}:step F E H dst (.atl p)=zQB H (zfb H (p.ev E)):=by
 show (zdu H (p.ev E)).map _=_;rw[zDW]
 cases zfb H (p.ev E)<;>rfl
def ziU(v:D):Option (AV×zf)->Option (AV×zf)
 | some p=>some (.d v,p.2)
 | none=>none
def zqR(H:zf)(p:AV)(n:Int):Option Int->Option (AV×zf)
 | some _=>ziU (.tup []) (stV H 1 (.d (.int .i64 n)) p)
 | none=>none
def zup(H:zf)(p:AV):AV->Option (AV×zf)
 | .d (.int .i64 n)=>zqR H p n (zfb H p)
 | _=>none
theorem zDZ{p:AV}{n:Int}{v:D}:(zew H n p).map (fun H'=>(AV.d v,H'))=match zfb H p with|some _=>ziU v (stV H 1 (.d (.int .i64 n)) p)|none=>none:=by
 cases p with
 | ref o i off=>
  simp only[zew,zfb,stV];rw[zacY ⟨rfl,rfl⟩];generalize look o H=q
  rcases q with _|(es|m|m|m)
  ·rfl
  ·show ((es[i]?).bind _).map _=match zqP off es[i]? with|some _=>ziU v (stE H o i off es (.d (.int .i64 n)) es[i]?)|none=>none
   cases es[i]? with
   | none=>rfl
   | some e=>
    show (((e.cells[off]?).bind zc5).bind _).map _=match zgB e.cells[off]? with|some _=>ziU v (stF H o i es (zdj e off (.d (.int .i64 n))))|none=>none
    have:(e.cells[off]?).bind zc5=zgB e.cells[off]? := by
     cases e.cells[off]? with
     | none=>rfl
     | some y=>show zc5 y=zgB (some y);unfold zc5 zgB;split<;>simp_all
    rw[this]
    cases zgB e.cells[off]? with
    | none=>rfl
    | some m=>
     show ((zdj e off (.d (.int .i64 n))).map _).map _=ziU v (stF H o i es (zdj e off (.d (.int .i64 n))))
     cases zdj e off (.d (.int .i64 n))<;>rfl
  ·rfl
  ·rfl
  ·rfl
 | _=>rfl
theorem zAC(x:AV):(∃n,x= .d (.int .i64 n))\/(zc5 x=none/\∀n,x≠ .d (.int .i64 n)):=by
 unfold zc5
 split
 ·exact .inl ⟨_,rfl⟩
 ·rename_i h;exact .inr ⟨rfl,fun n e=>h n e⟩
theorem z9I{p x:Opd}:step F E H dst (.ats p x)=zup H (p.ev E) (x.ev E):=by
 show (zc5 (x.ev E)).bind _=_
 rcases zAC (x.ev E) with ⟨n,e⟩|⟨e1,e2⟩
 ·rw[e];show (zew H _ (p.ev E)).map _=zqR H (p.ev E) n (zfb H (p.ev E));rw[zDZ];unfold zqR;cases zfb H (p.ev E)<;>rfl
 ·rw[e1];unfold zup;split<;>simp_all
def zum(H:zf)(p:AV)(old n:Int):Option Int->Option (AV×zf)
 | some v=>if v=old then ziU (.bool true) (stV H 1 (.d (.int .i64 n)) p) else some (.d (.bool false),H)
 | none=>none
def zqO(H:zf)(p:AV)(old:Int):AV->Option (AV×zf)
 | .d (.int .i64 n)=>zum H p old n (zfb H p)
 | _=>none
def zun(H:zf)(p y:AV):AV->Option (AV×zf)
 | .d (.int .i64 old)=>zqO H p old y
 | _=>none
theorem z9G{p x y:Opd}:step F E H dst (.atc p x y)=zun H (p.ev E) (y.ev E) (x.ev E):=by
 show (zc5 (x.ev E)).bind _=_
 rcases zAC (x.ev E) with ⟨old,e⟩|⟨e1,e2⟩
 ·rw[e];show (zc5 (y.ev E)).bind _=zqO H (p.ev E) old (y.ev E)
  rcases zAC (y.ev E) with ⟨n,e⟩|⟨e1,e2⟩
  ·rw[e];show (zdu H (p.ev E)).bind _=zum H (p.ev E) old n (zfb H (p.ev E));rw[zDW];have:=zDZ (H:=H) (p:=p.ev E) (n:=n) (v:= .bool true)
   cases hv:zfb H (p.ev E) with
   | none=>rfl
   | some v=>
    rw[hv] at this;show (if v=old then (zew H n (p.ev E)).map _ else _)=if v=old then _ else _
    rw[this]
  ·rw[e1];unfold zqO;split<;>simp_all
 ·rw[e1];unfold zun;split<;>simp_all
theorem z95{n:Nat}{p x:Opd}:step F E H dst (.st n p x)=stV H n (x.ev E) (p.ev E):=by
 show zt E H dst (.st n p x)=_;simp only[zt];generalize p.ev E=pv
 split
 ·rename_i o i off;simp only[stV]
  split
  ·generalize look o H=q
   rcases q with _|(es|m|m|m)
   ·rfl
   ·show es[i]?.bind _=stE H o i off es (x.ev E) es[i]?
    cases es[i]? with
    | none=>rfl
    | some e=>
     show Option.map _ (zdj e off (x.ev E))=stF H o i es (zdj e off (x.ev E))
     cases zdj e off (x.ev E)<;>rfl
   ·rfl
   ·rfl
   ·rfl
  ·rfl
 ·unfold stV;split<;>simp_all
def zvE(H:zf)(ag:Bool)(off n:Nat):AV->Option (AV×zf)
 | .d (.agg cs)=>znv H (zcw ag off n (.agg cs))
 | .agg cs=>zhA H (zeT ag off n (.agg cs))
 | _=>none
theorem z9T{ag:Bool}{off n:Nat}{x:Opd}:step F E H dst (.fld ag off n x)=zvE H ag off n (x.ev E):=by
 show zt E H dst (.fld ag off n x)=_;simp only[zt];generalize x.ev E=v
 split
 ·exact zCR
 ·exact zjD
 ·unfold zvE;split<;>simp_all
def zus(H:zf)(op:BinOp):AV->AV->Option (AV×zf)
 | .d a,.d b=>znv H (zg6 op a b)
 | _,_=>none
theorem z9K{op:BinOp}{x y:Opd}:step F E H dst (.bin op x y)=zus H op (x.ev E) (y.ev E):=by
 show zt E H dst (.bin op x y)=_;simp only[zt];generalize x.ev E=v;generalize y.ev E=u
 split
 ·exact zCR
 ·unfold zus;split<;>simp_all
def zrs(H:zf)(ng:Bool)(n:Nat)(ls:List (Nat×Nat)):AV->AV->Option (AV×zf)
 | .d (.agg a),.d (.agg b)=>if a.length=n/\b.length=n then zCQ H ng (zhb a b ls) else none
 | _,_=>none
theorem z9Q{ng:Bool}{n:Nat}{ls:List (Nat×Nat)}{x y:Opd}:step F E H dst (.eqs ng n ls x y)=zrs H ng n ls (x.ev E) (y.ev E):=by
 show zt E H dst (.eqs ng n ls x y)=_;simp only[zt];generalize x.ev E=v;generalize y.ev E=u
 split
 ·rename_i a b;simp only[zrs]
  split
  ·cases zhb a b ls<;>rfl
  ·rfl
 ·unfold zrs;split<;>simp_all
def bdI(y:Nat):Option Int->Option Nat
 | some n=>if 0<=n/\n<=y then some n.toNat else none
 | none=>none
def bd(dflt y:Nat):Option AV->Option Nat
 | none=>some dflt
 | some v=>bdI y (zcf v)
theorem zqS{x:Option AV}{dflt y:Nat}:zcH x dflt y=bd dflt y x:=by
 cases x with
 | none=>rfl
 | some v=>
  simp only[zcH,bd];unfold bdI
  cases zcf v<;>rfl
def slM(es:List D)(h l:Nat)(hi:Option AV):Option AV->Option AV
 | none=>some (.d (.sl ((es.take h).drop l)))
 | some m=>if zcf m=some (h:Int)/\hi.isSome then some (.xsl ((es.take h).drop l)) else none
def zRv(es:List D)(h l:Nat)(hi:Option AV):Option AV->Option AV
 | none=>some (if h=es.length then .xsl ((es.take h).drop l) else .d (.sl ((es.take h).drop l)))
 | some m=>if zcf m=some (h:Int)/\hi.isSome then some (.xsl ((es.take h).drop l)) else none
def zDH(o:Nat)(es:List D)(h:Nat)(hi:Option AV):Option AV->Option AV
 | none=>some (.acc o (es.take h))
 | some m=>if zcf m=some (h:Int)/\hi.isSome then some (.acc o (es.take h)) else none
def slL(es:List D)(hi mx:Option AV)(h:Nat):Option Nat->Option AV
 | some l=>slM es h l hi mx
 | none=>none
def slH(es:List D)(lo hi mx:Option AV):Option Nat->Option AV
 | some h=>slL es hi mx h (bd 0 h lo)
 | none=>none
def zDx(es:List D)(hi mx:Option AV)(h:Nat):Option Nat->Option AV
 | some l=>zRv es h l hi mx
 | none=>none
def zDw(es:List D)(lo hi mx:Option AV):Option Nat->Option AV
 | some h=>zDx es hi mx h (bd 0 h lo)
 | none=>none
def zuc(o:Nat)(es:List D)(hi mx:Option AV)(h:Nat):Option Nat->Option AV
 | some l=>if l=0 then zDH o es h hi mx else none
 | none=>none
def zan(o:Nat)(es:List D)(lo hi mx:Option AV):Option Nat->Option AV
 | some h=>zuc o es hi mx h (bd 0 h lo)
 | none=>none
def zBO(n o off h l:Nat):Option Obj->Option AV
 | some (.row es)=>if l=0\/es.head?.map AV.size=some n then some (.osl o (off+l) (h - l)) else none
 | _=>none
def zBM(H:zf)(n o off h:Nat):Option Nat->Option AV
 | some l=>zBO n o off h l (look o H)
 | none=>none
def zBL(H:zf)(n o off:Nat)(lo:Option AV):Option Nat->Option AV
 | some h=>zBM H n o off h (bd 0 h lo)
 | none=>none
def zBN(H:zf)(n o off len:Nat)(lo hi:Option AV):Option AV->Option AV
 | none=>zBL H n o off lo (bd len len hi)
 | some _=>none
def ziI(H:zf)(n:Nat)(lo hi mx:Option AV):AV->Option AV
 | .d (.sl es)=>if zaI n es then slH es lo hi mx (bd es.length es.length hi) else none
 | .xsl es=>if zaI n es then zDw es lo hi mx (bd es.length es.length hi) else none
 | .acc o es=>if zaI n es then zan o es lo hi mx (bd es.length es.length hi) else none
 | .osl o off len=>zBN H n o off len lo hi mx
 | _=>none
theorem zaaX{n:Nat}{lo hi mx:Option AV}{v:AV}:zcF H n lo hi mx v=ziI H n lo hi mx v:=by
 unfold zcF
 split
 ·rename_i es;simp only[ziI]
  split
  ·simp only[zqS];unfold slH
   cases bd es.length es.length hi with
   | none=>rfl
   | some h=>
    simp only[zadz];unfold slL
    cases bd 0 h lo with
    | none=>rfl
    | some l=>simp only[zadz];cases mx<;>rfl
  ·rfl
 ·rename_i es;simp only[ziI]
  split
  ·simp only[zqS];unfold zDw
   cases bd es.length es.length hi with
   | none=>rfl
   | some h=>
    simp only[zadz];unfold zDx
    cases bd 0 h lo with
    | none=>rfl
    | some l=>simp only[zadz];cases mx<;>rfl
  ·rfl
 ·rename_i o es;simp only[ziI]
  split
  ·simp only[zqS];unfold zan
   cases bd es.length es.length hi with
   | none=>rfl
   | some h=>
    simp only[zadz];unfold zuc
    cases bd 0 h lo with
    | none=>rfl
    | some l=>simp only[zadz];cases mx<;>rfl
  ·rfl
 ·rename_i o off len
  cases mx with
  | some m=>rfl
  | none=>
   simp only[zqS,ziI,zBN];unfold zBL
   cases bd len len hi with
   | none=>rfl
   | some h=>
    simp only[zadz];unfold zBM
    cases bd 0 h lo with
    | none=>rfl
    | some l=>simp only[zadz];unfold zBO;rfl
 ·unfold ziI;split<;>simp_all
theorem z94{n:Nat}{x:Opd}{lo hi mx:Option Opd}:step F E H dst (.slc n x lo hi mx)=zhA H (ziI H n (evO E lo) (evO E hi) (evO E mx) (x.ev E)):=by
 show (zcF H n (lo.map (·.ev E)) (hi.map (·.ev E)) (mx.map (·.ev E)) (x.ev E)).map (fun v=>(v,H))=_;rw[zjD,zaaX,zBp,zBp,zBp]
def zvy(H:zf)(i:Nat):AV->Option (AV×zf)
 | .d (.tup vs)=>znv H vs[i]?
 | .tup vs=>zhA H vs[i]?
 | _=>none
theorem z9R{x:Opd}{i:Nat}:step F E H dst (.ext x i)=zvy H i (x.ev E):=by
 show zt E H dst (.ext x i)=_;simp only[zt];generalize x.ev E=v
 split
 ·exact zCR
 ·exact zjD
 ·unfold zvy;split<;>simp_all
def zBh(H:zf):Option (List D)->Option (AV×zf)
 | some es=>some (.d (.int .i64 es.length),H)
 | none=>none
def zBi(H:zf):AV->Option (AV×zf)
 | .osl _ _ len=>some (.d (.int .i64 len),H)
 | .d (.sl es)=>some (.d (.int .i64 es.length),H)
 | .acc _ es=>some (.d (.int .i64 es.length),H)
 | .xsl es=>some (.d (.int .i64 es.length),H)
 | y=>zBh H (slD y)
theorem z9W{x:Opd}:step F E H dst (.len x)=zBi H (x.ev E):=by
 show zt E H dst (.len x)=_;simp only[zt];generalize x.ev E=v
 split
 ·rfl
 ·unfold zBi
  split
  ·simp_all
  ·rfl
  ·rfl
  ·rfl
  ·unfold zBh;cases slD v<;>rfl
def mmV(H:zf)(mx:Bool):List AV->Option (AV×zf)
 | []=>none
 | y::ys=>zhA H (mmD mx y ys)
theorem z9Z{mx:Bool}{xs:List Opd}:step F E H dst (.mm mx xs)=mmV H mx (evs E xs):=by
 show zt E H dst (.mm mx xs)=_;simp only[zt,zBr]
 cases evs E xs with
 | nil=>rfl
 | cons y ys=>exact zjD
def zux(H:zf):Option (List AV)->Option (AV×zf)
 | some cs=>some (AV.mkAgg cs,H)
 | none=>none
theorem z9N{z:List AV}{ps:List (Nat×Nat×Opd)}:step F E H dst (.build z ps)=zux H (zbQ z (evB E ps)):=by
 show zt E H dst (.build z ps)=_;simp only[zt,z0n];unfold zux
 cases zbQ z (evB E ps)<;>rfl
def zuv(E:Env)(H:zf)(dst len:Nat)(es:List AV):Option (List D)->Option (AV×zf)
 | some ds=>some (.xsl ds,H)
 | none=>if zbg dst E=false/\zaE dst H=false then some (.osl dst 0 len,zY dst (.row es) H) else none
def zuw(E:Env)(H:zf)(dst len:Nat):Option (List AV)->Option (AV×zf)
 | some es=>zuv E H dst len es (zbJ es)
 | none=>none
theorem z9M{len n:Nat}{z:AV}{ps:List (Nat×Opd)}:step F E H dst (.bsl len n z ps)=if z.size=n/\szF n (evF E ps)=true then zuw E H dst len (zeB (List.replicate len z) (evF E ps)) else none:=by
 show zt E H dst (.bsl len n z ps)=_;simp only[zt,z0o,zR7]
 split
 ·unfold zuw
  cases zeB (List.replicate len z) (evF E ps) with
  | none=>rfl
  | some es=>simp only[zadz];unfold zuv;rfl
 ·rfl
def zuq(H:zf):Option (List UInt8)->Option (AV×zf)
 | some s=>some (.d (.str s),H)
 | none=>none
def zur(H:zf):Option (List D)->Option (AV×zf)
 | some es=>zuq H (zgC es)
 | none=>none
theorem z9J{x:Opd}:step F E H dst (.b2s x)=zur H (slD (x.ev E)):=by
 show zt E H dst (.b2s x)=_;simp only[zt];unfold zur
 cases slD (x.ev E) with
 | none=>rfl
 | some es=>simp only[zadz];unfold zuq;cases zgC es<;>rfl
def byD(s:List UInt8):List D:=s.map fun b=> .int .u8 b.toNat
def zE(off len:Nat):Option Obj->Option (List D)
 | some (.row es)=>srcL len (zbJ ((es.drop off).take len))
 | _=>none
 where srcL (len:Nat):Option (List D)->Option (List D)
  | some ds=>if ds.length=len then some ds else none
  | none=>none
def zls(H:zf):AV->Option (List D)
 | .osl o off len=>zE off len (look o H)
 | .nl _=>some []
 | y=>slD y
theorem zaba{v:AV}:zdK H v=zls H v:=by
 unfold zdK
 split
 ·rename_i o off len;simp only[zls];generalize look o H=q
  rcases q with _|(es|m|m|m)
  ·rfl
  ·show (zbJ ((es.drop off).take len)).bind _=zE.srcL len (zbJ ((es.drop off).take len))
   cases zbJ ((es.drop off).take len)<;>rfl
  ·rfl
  ·rfl
  ·rfl
 ·rfl
 ·unfold zls;split<;>simp_all
def zui(H:zf)(o n:Nat)(es ys:List D):Option Obj->Option (AV×zf)
 | some (.acc m)=>if es.length=m/\zaI n (es++ys)/\(es++ys).length<=LIM then some (.acc o (es++ys),zY o (.acc (m+ys.length)) H) else none
 | _=>none
def zl9(E:Env)(H:zf)(dst n:Nat)(ys:List D):AV->Option (AV×zf)
 | .xsl es=>if (ys.isEmpty&& !es.isEmpty)=true then (if zaI n es=true then some (.xsl es,H) else none) else if zaI n (es++ys)/\(es++ys).length<=LIM/\zbg dst E=false/\zaE dst H=false then some (.acc dst (es++ys),zY dst (.acc (es.length+ys.length)) H) else none
 | .acc o es=>zui H o n es ys (look o H)
 | _=>none
theorem zSb{n:Nat}{ys:List D}{v:AV}:zcA E H dst n ys v=zl9 E H dst n ys v:=by
 unfold zcA
 split
 ·rfl
 ·simp only[zl9];unfold zui;rfl
 ·unfold zl9;split<;>simp_all
def zuj(E:Env)(H:zf)(dst n:Nat)(v:AV):Option (List D)->Option (AV×zf)
 | some ys=>zl9 E H dst n ys v
 | none=>none
theorem z9F{n:Nat}{x y:Opd}:step F E H dst (.app n x y)=zuj E H dst n (x.ev E) (zls H (y.ev E)):=by
 show zt E H dst (.app n x y)=_;simp only[zt,zaba];unfold zuj
 cases zls H (y.ev E) with
 | none=>rfl
 | some ys=>simp only[zadz,zSb]
def zQA(H:zf)(ag:Bool)(sz:Nat):Option AV->Option AV
 | some v=>ldV H ag sz v
 | none=>none
theorem z88{n sz:Nat}{ag:Bool}:zm.ev ⟨E,H⟩ (.c n ag sz)=zQA H ag sz (look n E):=by
 show (look n E).bind (ldA H ag sz)=_
 cases look n E with
 | none=>rfl
 | some v=>exact zMe
theorem z9b{n:Nat}:zm.ev ⟨E,H⟩ (.t n)=look n E:=rfl
def zvh(v:Option AV):Option (List AV)->Option (List AV)
 | some vs=>consQ vs v
 | none=>none
 where consQ (vs:List AV):Option AV->Option (List AV)
  | some v=>some (v::vs)
  | none=>none
def ziz(S:St):List zm->Option (List AV)
 | []=>some []
 | r::rs=>zvh (r.ev S) (ziz S rs)
theorem z87{S:St}{rs:List zm}:rs.mapM (zm.ev S)=ziz S rs:=by
 induction rs with
 | nil=>rfl
 | cons r rs ih=>
  rw[zaeu,ih];simp only[ziz]
  cases r.ev S with
  | none=>cases ziz S rs<;>rfl
  | some v=>cases ziz S rs<;>rfl
def zRf:Option (List AV)->Option AV
 | some vs=>some (AV.mkTup vs)
 | none=>none
theorem z9a{S:St}{r:zm}:zfQ S [r]=r.ev S:=rfl
theorem z89{S:St}:zfQ S []=some (AV.mkTup []):=rfl
theorem z9c{S:St}{a b:zm}{l:List zm}:zfQ S (a::b::l)=zRf (ziz S (a::b::l)):=by
 show ((a::b::l).mapM (zm.ev S)).map AV.mkTup=_;rw[z87]
 cases ziz S (a::b::l)<;>rfl
end Go.Sim
