/-
  Functions of the program, as the calculus has them.
-/
import Derived.Test.YtjalkkalhdnplaaGreatB169a89c
import Derived.KernelRfl
import Derived.Test.YtjalkkalhdnplaaGreatProg
set_option linter.unusedSimpArgs false
set_option linter.unusedVariables false
set_option maxHeartbeats 10000000
set_option maxRecDepth 100000
namespace Go.Sim
open Go (World Value Addr TypeId Act)
variable {P:Program}
open Classical in
noncomputable def lim{α:Type}(x:Nat->Option α):Option α:=if h:∃n,(x n).isSome=true then x (Classical.choose h) else none
def zD{α:Type}(x:Nat->Option α):Prop:=∀n m a,n<=m->x n=some a->x m=some a
theorem zD.of_succ{α:Type}{x:Nat->Option α}(h:∀n a,x n=some a->x (n+1)=some a):zD x:=by
 intro n m a hnm hx
 induction hnm with
 | refl=>exact hx
 | step _ ih=>exact h _ _ ih
theorem zeX{α:Type}{x:Nat->Option α}(h:zD x){a:α}:lim x=some a↔∃n,x n=some a:=by
 unfold lim;constructor
 ·intro hl
  split at hl
  ·exact⟨_,hl⟩
  ·cases hl
 ·rintro⟨n,hn⟩;have hex:∃n,(x n).isSome=true:=⟨n,by rw[hn];rfl⟩;rw[dif_pos hex];have hs:=zXC hex;obtain⟨b,hb⟩:=zYf.1 hs;have h1:=h _ (max n (Classical.choose hex)) a (Nat.le_max_left ..) hn;have h2:=h _ (max n (Classical.choose hex)) b (Nat.le_max_right ..) hb;rw[h1] at h2;cases h2;exact hb
theorem zmd{α:Type}{x y:Option α}(h:∀a,x=some a↔y=some a):x=y:=by
 cases x with
 | some a=>exact ((h a).1 rfl).symm
 | none=>
  cases y with
  | none=>rfl
  | some a=>exact absurd ((h a).2 rfl) (by simp)
theorem zca{α:Type}(x:Option α):lim (fun _=>x)=x:=
 zmd fun a=>(zeX (x:=fun _=>x) (fun _ _ _ _ h=>h)).trans ⟨fun⟨_,h⟩=>h,fun h=>⟨0,h⟩⟩
theorem zD.bind{α β:Type}{x:Nat->Option α}{g:Nat->α->Option β}(hx:zD x)(hg:∀a,zD fun n=>g n a):zD fun n=>(x n).bind (g n):=by
 intro n m b hnm h;obtain⟨a,h1,h2⟩:=zWB.1 h;exact zWB.2 ⟨a,hx n m a hnm h1,hg a n m b hnm h2⟩
theorem zfN{α β:Type}{x:Nat->Option α}{g:Nat->α->Option β}(hx:zD x)(hg:∀a,zD fun n=>g n a):lim (fun n=>(x n).bind (g n))=(lim x).bind fun a=>lim fun n=>g n a:=by
 refine zmd fun b=> ?_;rw[zeX (hx.bind hg)];constructor
 ·rintro⟨n,h⟩;obtain⟨a,h1,h2⟩:=zWB.1 h;exact zWB.2 ⟨a,(zeX hx).2 ⟨n,h1⟩,(zeX (hg a)).2 ⟨n,h2⟩⟩
 ·intro h;obtain⟨a,h1,h2⟩:=zWB.1 h;obtain⟨n,h3⟩:=(zeX hx).1 h1;obtain⟨m,h4⟩:=(zeX (hg a)).1 h2;exact⟨max n m,zWB.2 ⟨a,hx _ _ _ (Nat.le_max_left ..) h3,hg a _ _ _ (Nat.le_max_right ..) h4⟩⟩
theorem zD.map{α β:Type}{x:Nat->Option α}{g:α->β}(hx:zD x):zD fun n=>(x n).map g:=by
 intro n m b hnm h;obtain⟨a,h1,rfl⟩:=zWC.1 h;exact zWC.2 ⟨a,hx n m a hnm h1,rfl⟩
theorem zi7{α β:Type}{x:Nat->Option α}{g:α->β}(hx:zD x):lim (fun n=>(x n).map g)=(lim x).map g:=by
 refine zmd fun b=> ?_;rw[zeX hx.map];constructor
 ·rintro⟨n,h⟩;obtain⟨a,h1,rfl⟩:=zWC.1 h;exact zWC.2 ⟨a,(zeX hx).2 ⟨n,h1⟩,rfl⟩
 ·intro h;obtain⟨a,h1,rfl⟩:=zWC.1 h;obtain⟨n,h2⟩:=(zeX hx).1 h1;exact⟨n,zWC.2 ⟨a,h2,rfl⟩⟩
theorem zD.const{α:Type}{x:Option α}:zD fun _=>x:=fun _ _ _ _ h=>h
theorem zD.ite{α:Type}{c:Prop}[Decidable c]{x y:Nat->Option α}(hx:zD x)(hy:zD y):zD fun n=>if c then x n else y n:=by
 by_cases h:c
 ·simpa [h] using hx
 ·simpa [h] using hy
variable (G:FuncId->Option AFn)
noncomputable def zh:zaU:=fun f args os=>lim fun n=>zaN G n f args os
noncomputable def exL(c:zJ)(S:St):Option (zT×St):=lim fun n=>zcd (zaN G n) n c S
noncomputable def zN(ks:List Nat)(c:zJ)(S:St):Option (zT×St):=lim fun n=>zeY ks (zcd (zaN G n) n c) n S
variable {G}
section mono
variable {F F':Nat->zaU} (hF:∀f args os,zD fun n=>F n f args os)
include hF
theorem zxy{E:Env}{H:zf}{dst:Nat}{ns dob:List Nat}{f:FuncId}{zWx:List AV}:(zD fun n=>zf5 (F n) E H dst ns dob f zWx):=by
 unfold zf5;exact zD.ite ((hF f _ _).bind (fun _=>zD.const)) zD.const
theorem zp2{E:Env}{H:zf}{dst:Nat}{ms:List Bool}{f:FuncId}{args:List AV}:zD fun n=>zc1 (F n) E H dst ms f args:=
 zD.bind zD.const fun _=>zxy hF
theorem zzu{E:Env}{H:zf}{dst:Nat}{ms:List Bool}{f:FuncId}{dob:List Nat}{zWx:List AV}:zD fun n=>zgK (F n) E H dst ms f dob zWx:=by
 unfold zgK;exact zD.ite (zD.map (zp2 hF)) zD.const
theorem znc{E:Env}{H:zf}{dst:Nat}{ms:List Bool}{f:FuncId}{args:List AV}:zD fun n=>zbr (F n) E H dst ms f args:=by
 unfold zbr;exact zD.ite (zD.bind zD.const fun _=>zzu hF) (zp2 hF)
theorem zxB{E:Env}{H:zf}{dst:Nat}{ms:List Bool}{f:AV}{args:List AV}:zD fun n=>zgE (F n) E H dst ms f args:=by
 unfold zgE
 split
 ·exact znc hF
 ·exact znc hF
 ·exact zD.const
theorem zCs{E:Env}{H:zf}{dst:Nat}{op:AOp}:zD fun n=>step (F n) E H dst op:=by
 cases op with
 | call f ms xs=>exact (znc hF).map
 | callv f ms xs=>exact (zxB hF).map
 | _=>exact zD.const
theorem zpc{x:zA}{S:St}:zD fun n=>zd7 (F n) x S:=(zCs hF).map
theorem znw:∀ {l:List zA} {S:St},zD fun n=>zbL (F n) l S:=by
 intro l
 induction l with
 | nil=>intro S;exact zD.const
 | cons o l ih=>
  intro S;simp only[zbL]
  split
  ·exact (zpc hF).bind (fun _=>ih)
  ·split
   ·exact zD.ite ((zpc hF).bind (fun _=>ih)) ih
   ·exact ih
   ·exact zD.const
theorem zqg{x:zA}{fr:List (List Nat)}{acc:List (List Nat×List Nat)}{S:St}:zD fun n=>zdZ (F n) x fr acc S:=by
 unfold zdZ;exact zD.ite (zpc hF) zD.const
theorem znv:∀ {l:List zA} {fr:List (List Nat)} {acc:List (List Nat×List Nat)} {S:St},zD fun n=>zbS (F n) l fr acc S:=by
 intro l
 induction l with
 | nil=>intro fr acc S;exact zD.const
 | cons o l ih=>
  intro fr acc S;simp only[zbS]
  split
  ·exact (zqg hF).bind (fun _=>ih)
  ·split
   ·exact zD.ite ((zqg hF).bind (fun _=>ih)) (zD.bind zD.const (fun _=>ih))
   ·exact zD.bind zD.const (fun _=>ih)
   ·exact zD.const
theorem zqf{l:List zA}{fr:List (List Nat)}{S:St}:zD fun n=>zf9 (F n) l fr S:=by
 unfold zf9;exact zD.ite (znv hF) zD.const
omit hF in
theorem zB6{g:Nat->St->Option (zT×St)}(hg:∀S,zD fun n=>g n S){p:zT×St}:zD fun n=>zhB (g n) p:=by
 unfold zhB
 split
 ·exact hg _
 ·exact zD.const
 ·exact zD.const
omit hF in
theorem zrJ{g:Nat->St->Option (zT×St)}(hg:∀S,zD fun n=>g n S){ks:List Nat}{p:zT×St}:zD fun n=>zdI ks (g n) p:=by
 unfold zdI
 split
 ·exact hg _
 ·exact zD.const
 ·exact zD.const
omit hF in
theorem zAL{b:Nat->St->Option (zT×St)}(hb:∀S,zD fun n=>b n S):∀ {ks:List Nat} {k:Nat} {S:St},zD fun n=>zeY ks (b n) k S:=by
 intro ks k
 induction k with
 | zero=>intro S;exact zD.const
 | succ k ih=>intro S;exact (hb S).bind fun p=>zrJ fun _=>ih
omit hF in
theorem zAM{ks:List Nat}{b:St->Option (zT×St)}:∀ {S:St},zD fun k=>zeY ks b k S:=by
 intro S;refine zD.of_succ fun k=> ?_
 induction k generalizing S with
 | zero=>intro a h;cases h
 | succ k ih=>
  intro a h;simp only[zeY] at h ⊢;obtain⟨p,h1,h2⟩:=zWB.1 h;refine zWB.2 ⟨p,h1,?_⟩;unfold zdI at h2 ⊢
  split at h2
  ·exact ih _ h2
  ·exact h2
  ·exact h2
omit hF in
theorem zAK{b:Nat->St->Option (zT×St)}(hb:∀S,zD fun n=>b n S){ks:List Nat}{S:St}:zD fun n=>zeY ks (b n) n S:=fun n m a hnm h=>
 zAL hb n m a hnm (zAM n m a hnm h)
theorem zge:∀ {c:zJ} {S:St},zD fun n=>zcd (F n) n c S:=by
 intro c
 induction c with
 | skip=>intro S;exact zD.const
 | exit i ks=>intro S;exact zD.const
 | ret ks=>intro S;exact zD.const
 | ops gs l ks=>intro S;exact (zD.bind zD.const fun _=>znw hF).map
 | draw gs l fr ks=>intro S;exact (zD.bind zD.const fun _=>zqf hF).map
 | seq x y ih1 ih2=>intro S;exact ih1.bind fun p=>zB6 fun S=>ih2
 | cond c x y ih1 ih2=>
  intro S;simp only[zcd,zhN]
  split
  ·exact zD.ite ih1 ih2
  ·exact zD.const
 | block id x ih=>intro S;exact ih.map
 | loop ks x ih=>intro S;exact zAK fun S=>ih
end mono
theorem zbW(f:FuncId)(args:List AV)(os:zf):zD fun n=>zaN G n f args os:=by
 refine zD.of_succ fun n=> ?_
 induction n generalizing f args os with
 | zero=>intro a h;cases h
 | succ n ih=>
  -- two steps: more fuel for the calls, more rounds
  have code:∀(c:zJ) (rs:List zbi) (nt:Nat) (sl:Bool) (args:List AV) (os:zf) (a:AV×zf),zfy (zaN G n) n args os c rs nt sl=some a->zfy (zaN G (n+1)) (n+1) args os c rs nt sl=some a:=by
   intro c rs nt sl args os a h2;simp only[zfy] at h2 ⊢
   split at h2
   ·rename_i hc;rw[zWz hc];obtain⟨p,h3,h4⟩:=zWB.1 h2;refine zWB.2 ⟨p,?_,h4⟩
    let Fs:Nat->zaU:=fun k=>if k<=n then zaN G n else zaN G (n+1)
    have hFs:∀f args os,zD fun k=>Fs k f args os:=fun f args os=>zD.of_succ fun k a h=>by
     simp only[Fs] at h ⊢
     split at h
     ·split
      ·exact h
      ·exact ih f args os a h
     ·rename_i hk;rw[zWy (by omega)];exact h
    have:=zge (F:=Fs) hFs (c:=c) (S:=⟨enter args++zgh os,os⟩) n (n+1) p (by omega);simp only[Fs,zW5,if_true] at this;rw[zWy (by omega)] at this;exact this h3
   ·cases h2
  intro a h;have h:(G f).bind (fnF (zaN G n) n args os)=some a:=h;show (G f).bind (fnF (zaN G (n+1)) (n+1) args os)=some a;obtain⟨fn,h1,h2⟩:=zWB.1 h;refine zWB.2 ⟨fn,h1,?_⟩
  cases fn with
  | ext g=>exact h2
  | code c rs nt sl=>exact code c rs nt sl args os a h2
  | nils c rs nt=>
   have new0:∀ {x:Option (AV×zf)},zkb x=true->x=some (.acc 0 [],[(0,.acc 0)]):=fun {x} hx=>by
    unfold zkb at hx
    split at hx
    ·rfl
    ·cases hx
   show zl8 (zaN G (n+1)) (n+1) args os c rs nt=some a;have h2:zl8 (zaN G n) n args os c rs nt=some a:=h2;unfold zl8 at h2 ⊢
   split at h2
   ·rename_i he;rw[zWz he]
    split at h2
    ·rename_i hn;simp only[zWS] at hn;rw[code _ _ _ _ _ _ _ (new0 hn.1),code _ _ _ _ _ _ _ (new0 hn.2)];exact h2
    ·cases h2
   ·rename_i he;rw[zWy he];exact code _ _ _ _ _ _ _ h2
theorem zxA{f:FuncId}{args:List AV}{os:zf}{p:AV×zf}:zh G f args os=some p↔∃n,zaN G n f args os=some p:=zeX (zbW f args os)
theorem zAx{E:Env}{H:zf}{dst:Nat}{ms:List Bool}{f:FuncId}{args:List AV}:lim (fun n=>zc1 (zaN G n) E H dst ms f args)=zc1 (zh G) E H dst ms f args:=by
 unfold zc1;rw[zfN zD.const fun _=>zxy zbW,zca]
 congr 1;funext zWx
 unfold zf5
 split
 ·rw[zfN (g:=fun _=>zeL E H dst (zbY H ms args) (zay ms args)) (zbW _ _ _) fun _=>zD.const]
  congr 1;funext p
  exact zca _
 ·exact zca _
theorem zrF{E:Env}{H:zf}{dst:Nat}{ms:List Bool}{f:FuncId}{args:List AV}:lim (fun n=>zbr (zaN G n) E H dst ms f args)=zbr (zh G) E H dst ms f args:=by
 unfold zbr
 split
 ·rw[zfN zD.const fun _=>zzu zbW,zca]
  congr 1;funext zWx
  unfold zgK
  split
  ·rw[zi7 (zp2 zbW),zAx]
  ·exact zca _
 ·exact zAx
theorem zOa{E:Env}{H:zf}{dst:Nat}{op:AOp}:lim (fun n=>step (zaN G n) E H dst op)=step (zh G) E H dst op:=by
 cases op with
 | call f ms xs=>exact (zi7 (znc zbW)).trans (congrArg _ zrF)
 | callv f ms xs=>
  refine (zi7 (zxB zbW)).trans (congrArg _ ?_);unfold zgE
  split
  ·exact zrF
  ·exact zrF
  ·exact zca _
 | _=>exact zca _
theorem zAy{x:zA}{S:St}:lim (fun n=>zd7 (zaN G n) x S)=zd7 (zh G) x S:=(zi7 (zCs zbW)).trans (congrArg _ zOa)
theorem zN8:∀ {l:List zA} {S:St},lim (fun n=>zbL (zaN G n) l S)=zbL (zh G) l S:=by
 intro l
 induction l with
 | nil=>intro S;exact zca _
 | cons o l ih=>
  intro S;have key:lim (fun n=>(zd7 (zaN G n) o S).bind (zbL (zaN G n) l))=(zd7 (zh G) o S).bind (zbL (zh G) l):=by
   rw[zfN (zpc zbW) fun _=>znw zbW,zAy]
   congr 1;funext p;exact ih
  simp only[zbL]
  split
  ·exact key
  ·split
   ·split
    ·exact key
    ·exact ih
   ·exact ih
   ·exact zca _
theorem zN5{x:zA}{fr:List (List Nat)}{acc:List (List Nat×List Nat)}{S:St}:lim (fun n=>zdZ (zaN G n) x fr acc S)=zdZ (zh G) x fr acc S:=by
 unfold zdZ
 split
 ·exact zAy
 ·exact zca _
theorem zN7:∀ {l:List zA} {fr:List (List Nat)} {acc:List (List Nat×List Nat)} {S:St},lim (fun n=>zbS (zaN G n) l fr acc S)=zbS (zh G) l fr acc S:=by
 intro l
 induction l with
 | nil=>intro fr acc S;exact zca _
 | cons o l ih=>
  intro fr acc S;have key:lim (fun n=>(zdZ (zaN G n) o fr acc S).bind (zbS (zaN G n) l fr.tail (acc++[feet o S])))=(zdZ (zh G) o fr acc S).bind (zbS (zh G) l fr.tail (acc++[feet o S])):=by
   rw[zfN (zqg zbW) fun _=>znv zbW,zN5]
   congr 1;funext p;exact ih
  simp only[zbS]
  split
  ·exact key
  ·split
   ·split
    ·exact key
    ·rw[zfN zD.const fun _=>znv zbW,zca]
     congr 1;funext p;exact ih
   ·rw[zfN zD.const fun _=>znv zbW,zca]
    congr 1;funext p;exact ih
   ·exact zca _
theorem zN4{l:List zA}{fr:List (List Nat)}{S:St}:lim (fun n=>zf9 (zaN G n) l fr S)=zf9 (zh G) l fr S:=by
 unfold zf9
 split
 ·exact zN7
 ·exact zca _
theorem zHw{S:St}:exL G .skip S=some (.normal,S):=zca _
theorem zHs{i:Nat}{ks:List Nat}{S:St}:exL G (.exit i ks) S=some (.exit i,endS ks S):=zca _
theorem zHu{ks:List Nat}{S:St}:exL G (.ret ks) S=some (.ret,endS ks S):=zca _
theorem zHt{gs:List Nat}{l:List zA}{ks:List Nat}{S:St}:exL G (.ops gs l ks) S=((zfF gs S).bind (zbL (zh G) l)).map (zi4 ks):=by
 refine (zi7 (zD.bind zD.const fun _=>znw zbW)).trans (congrArg _ ?_);rw[zfN zD.const fun _=>znw zbW,zca]
 congr 1;funext p;exact zN8
theorem zHr{gs:List Nat}{l:List zA}{fr:List (List Nat)}{ks:List Nat}{S:St}:exL G (.draw gs l fr ks) S=((zfF gs S).bind (zf9 (zh G) l fr)).map (zi4 ks):=by
 refine (zi7 (zD.bind zD.const fun _=>zqf zbW)).trans (congrArg _ ?_);rw[zfN zD.const fun _=>zqf zbW,zca]
 congr 1;funext p;exact zN4
theorem zHv{x y:zJ}{S:St}:exL G (.seq x y) S=(exL G x S).bind (zhB (exL G y)):=by
 refine (zfN (zge zbW) fun p=>zB6 fun S=>zge zbW).trans ?_
 congr 1;funext p
 unfold zhB
 split
 ·rfl
 ·exact zca _
 ·exact zca _
theorem zHq{c:Opd}{x y:zJ}{S:St}:exL G (.cond c x y) S=zhN (c.ev S.env) (exL G x S) (exL G y S):=by
 show lim (fun n=>zhN (c.ev S.env) (zcd (zaN G n) n x S) (zcd (zaN G n) n y S))=_;unfold zhN
 split
 ·split
  ·rfl
  ·rfl
 ·exact zca _
theorem zHp{id:Nat}{x:zJ}{S:St}:exL G (.block id x) S=(exL G x S).map (ziF id):=zi7 (zge zbW)
theorem za0{ks:List Nat}{x:zJ}{S:St}:zN G ks x S=(exL G x S).bind (zdI ks (zN G ks x)):=by
 have hm:∀S,zD fun n=>zeY ks (zcd (zaN G n) n x) n S:=fun S=>zAK fun S=>zge zbW;have e1:(exL G x S).bind (zdI ks (zN G ks x))=lim fun n=>(zcd (zaN G n) n x S).bind (zdI ks (zeY ks (zcd (zaN G n) n x) n)):=by
  rw[zfN (zge zbW) fun p=>zrJ hm]
  congr 1;funext p
  unfold zdI
  split
  ·rfl
  ·exact (zca _).symm
  ·exact (zca _).symm
 rw[e1];refine zmd fun a=> ?_;rw[zN,zeX (hm S),zeX ((zge zbW).bind fun p=>zrJ hm)];constructor
 ·rintro⟨n,h⟩
  cases n with
  | zero=>cases h
  | succ n=>
   simp only[zeY] at h;obtain⟨p,h1,h2⟩:=zWB.1 h;refine⟨n+1,zWB.2 ⟨p,h1,?_⟩⟩;unfold zdI at h2 ⊢
   split at h2
   ·exact zAM n (n+1) a (by omega) h2
   ·exact h2
   ·exact h2
 ·rintro⟨n,h⟩;obtain⟨p,h1,h2⟩:=zWB.1 h;refine⟨n+1,?_⟩;simp only[zeY];refine zWB.2 ⟨p,zge zbW n (n+1) p (by omega) h1,?_⟩;unfold zdI at h2 ⊢
  split at h2
  ·exact zAL (fun S=>zge zbW) n (n+1) a (by omega) h2
  ·exact h2
  ·exact h2
theorem zN3{c:zJ}{rs:List zbi}{nt:Nat}{sl:Bool}{args:List AV}{os:zf}(hl:args.length<=nt):(zD fun n=>zfy (zaN G n) n args os c rs nt sl)/\lim (fun n=>zfy (zaN G n) n args os c rs nt sl)=(exL G c ⟨enter args++zgh os,os⟩).bind (zgI sl rs os):=by
 have e:(fun n=>zfy (zaN G n) n args os c rs nt sl)=fun n=>(zcd (zaN G n) n c ⟨enter args++zgh os,os⟩).bind (zgI sl rs os):=by
  funext n;simp only[zfy];rw[zWz hl]
 rw[e];refine⟨zD.bind (g:=fun _ p=>zgI sl rs os p) (zge zbW) fun p=>zD.const,?_⟩;rw[zfN (g:=fun _ p=>zgI sl rs os p) (zge zbW) fun p=>zD.const];show (exL G c ⟨enter args++zgh os,os⟩).bind _=_
 congr 1;funext p;exact zca _
theorem zN9{α:Type}{x y:Nat->Option α}(hx:zD x)(hy:zD y)(h0:x 0=none)(h:∀n,x (n+1)=y n):lim x=lim y:=by
 refine zmd fun a=> ?_;rw[zeX hx,zeX hy];constructor
 ·rintro⟨n,h1⟩
  cases n with
  | zero=>rw[h0] at h1;cases h1
  | succ n=>exact⟨n,by rw[<- h];exact h1⟩
 ·rintro⟨n,h1⟩;exact⟨n+1,by rw[h];exact h1⟩
theorem zO{f:FuncId}{c:zJ}{rs:List zbi}{nt:Nat}{sl:Bool}(h:G f=some (.code c rs nt sl)){args:List AV}{os:zf}(hl:args.length<=nt):zh G f args os=(exL G c ⟨enter args++zgh os,os⟩).bind (zgI sl rs os):=by
 obtain⟨h1,h2⟩:=zN3 (G:=G) (c:=c) (rs:=rs) (os:=os) (sl:=sl) hl;rw[<- h2];exact zN9 (zbW f args os) h1 rfl fun n=>by simp only[zaN,h,zW9,fnF]
theorem zEp(hG:GOK P G):FOK P (zh G):=by
 intro f args os r os' h h1 h2;obtain⟨n,hn⟩:=zxA.1 h;exact zEm hG n f args os r os' hn h1 h2
theorem zaB {T:Type} {ks:List Nat} {x:zJ} (μ:T->Nat) (inv:T->Prop) (st:T->St) (r:T->Option (zT×St))
    (h:∀t,inv t->∀L:St->Option (zT×St),(∀t',inv t'->μ t'<μ t->L (st t')=r t')->(exL G x (st t)).bind (zdI ks L)=r t):∀t,inv t->zN G ks x (st t)=r t:=by
 intro t;generalize hk:μ t=k
 induction k using Nat.strongRecOn generalizing t with
 | ind k ih=>
  intro hi;rw[za0];exact h t hi _ fun t' hi' hlt=>ih (μ t') (by omega) t' rfl hi'
end Go.Sim

namespace Go.Sim
variable {F:zaU} {E:Env} {H:zf} {dst:Nat}
def zmO(full:List Nat):List Nat->Bool
 | []=>true
 | x::l=>full.contains x&&zmO full l
theorem zsS{full:List Nat}:∀ {l:List Nat},l.all full.contains=zmO full l
 | []=>rfl
 | x::l=>by rw[zXL,zsS];rfl
def zr3(full:List Nat):Option Obj->Bool
 | some (.row es)=>zmO full (AV.objsL es)
 | _=>false
def okN(H:zf)(full:List Nat):List Nat->Bool
 | []=>true
 | o::l=>zr3 full (look o H)&&okN H full l
theorem zPz{ns:List Nat}:zkC H ns=okN H ns ns:=by
 have:∀full l:List Nat,(l.all fun o=>match look o H with|some (.row es)=>(AV.objsL es).all full.contains|_=>false)=okN H full l:=by
  intro full l
  induction l with
  | nil=>rfl
  | cons o l ih=>
   rw[zXL,ih];simp only[okN]
   congr 1
   unfold zr3
   split<;>simp_all [zsS]
 exact this ns ns
def osN(H:zf)(full:List Nat):List Nat->zf
 | []=>[]
 | o::l=>(zaR full o,((look o H).getD (.acc 0)).ren (zaR full))::osN H full l
theorem zQc{ns:List Nat}:zce H ns=osN H ns ns:=by
 have:∀full l:List Nat,(l.map fun o=>(zaR full o,((look o H).getD (.acc 0)).ren (zaR full)))=osN H full l:=by
  intro full l
  induction l with
  | nil=>rfl
  | cons o l ih=>rw[zWD,ih];rfl
 exact this ns ns
theorem zMc{ns:List Nat}:zlz E H dst ns []=true:=rfl
theorem zMb{ns:List Nat}{n:Nat}{ob:Obj}{l:zf}:zlz E H dst ns ((n,ob)::l)=((decide (1000000<=n)||(!za1 (dst+10000 * n) E&& !zam (dst+10000 * n) H&& !ns.contains (dst+10000 * n)))&&zlz E H dst ns l):=rfl
def znB:zf->Bool
 | []=>true
 | (_,ob)::l=>ob.flat&&znB l
theorem zIv{v:AV}{δ:zf}:zj7 (v,δ)=(v.flat&&znB δ):=by
 unfold zj7
 congr 1
 show (δ.all fun q=>q.2.flat)=znB δ
 induction δ with
 | nil=>rfl
 | cons p l ih=>rw[zXL,ih];rfl
theorem zFS{b:List Nat}:zhQ [] b=true:=rfl
theorem zFR{a:Nat}{l b:List Nat}:zhQ (a::l) b=(!b.contains a&&zhQ l b):=rfl
theorem zR4{ρ:Nat->Nat}:zdL ρ []=[]:=rfl
theorem zR3{ρ:Nat->Nat}{n:Nat}{ob:Obj}{l:zf}:zdL ρ ((n,ob)::l)=(ρ n,ob.ren ρ)::zdL ρ l:=rfl
theorem zMf:zbC H []=[]:=rfl
theorem zMe{o:Nat}{l:List Nat}:zbC H (o::l)=(o,.frz (mark H o))::zbC H l:=rfl
theorem zMh:zgL H []=true:=rfl
theorem zMg{o:Nat}{l:List Nat}:zgL H (o::l)=((look o H).isSome&&zgL H l):=rfl
theorem zPw:zky []=[]:=rfl
theorem zPv{o:Nat}{l:List Nat}:zky (o::l)=(2 * o+1)::zky l:=rfl
theorem zHo:zj2 []=[]:=rfl
theorem zHn{o:Nat}{l:List Nat}:zj2 (o::l)=(2 * o)::zj2 l:=rfl
theorem zFU{b:List Nat}:ziQ [] b=true:=rfl
theorem zFT{a:Nat}{l b:List Nat}:ziQ (a::l) b=(!b.contains a&&ziQ l b):=rfl
def zxI(p:List Nat×List Nat):Option (List Nat×List Nat)->Bool
 | some q=>zi0 q p
 | none=>false
theorem zEK{acc:List (List Nat×List Nat)}{p:List Nat×List Nat}:zhd [] acc p=true:=rfl
theorem zEJ{k:Nat}{fr:List Nat}{acc:List (List Nat×List Nat)}{p:List Nat×List Nat}:zhd (k::fr) acc p=(zxI p (acc[k]?)&&zhd fr acc p):=rfl
def znE(E:Env)(H:zf):List Nat->Bool
 | []=>true
 | n::l=>(!za1 n E&& !zam n H)&&znE E H l
theorem zMa{S:St}:zly [] S=true:=rfl
theorem zL9{x:zA}{l:List zA}:zly (x::l) ⟨E,H⟩=(znE E H x.newNames&&zly l ⟨E,H⟩):=by
 have:∀ns:List Nat,(ns.all fun n=> !za1 n E&& !zam n H)=znE E H ns:=by
  intro ns
  induction ns with
  | nil=>rfl
  | cons n l ih=>rw[zXL,ih];rfl
 rw[<- this];rfl
theorem zSx{o m:Nat}:zmB o m []=[]:=rfl
theorem zSw{o m t:Nat}{x:AV}{l:Env}:zmB o m ((t,x)::l)=(t,zgX o m x)::zmB o m l:=rfl
theorem zDj{o:Nat}{ds:List D}:zlb o ds []=[]:=rfl
theorem zDi{o t:Nat}{ds:List D}{x:AV}{l:Env}:zlb o ds ((t,x)::l)=(t,zgz o ds x)::zlb o ds l:=rfl
def znr:Nat->List AV->Env
 | _,[]=>[]
 | n,x::l=>(n,x)::znr (n+1) l
theorem zG3{args:List AV}:enter args=znr 0 args:=by
 have:∀(l:List AV) (n:Nat),((l.zipIdx n).map fun p=>(p.2,p.1))=znr n l:=by
  intro l
  induction l with
  | nil=>intro n;rfl
  | cons x l ih=>intro n;rw[List.zipIdx_cons,zWD,ih];rfl
 exact this args 0
theorem zMF:zgh []=[]:=rfl
theorem zME{n:Nat}{ob:Obj}{l:zf}:zgh ((n,ob)::l)=(n,.ref n 1 0)::zgh l:=rfl
def zr4(full:List Nat)(k o:Nat):Option Obj->Bool
 | some (.row es)=>zmO full (AV.objsL es)&&(decide (o<1000000)||decide (o<1000000+k))
 | some (.acc _)=>decide (o<1000000)
 | some (.frz m)=>m.isNone&&decide (1000000<=o)&&(decide (o<1000000)||decide (o<1000000+k))
 | _=>false
def okO(H:zf)(full:List Nat)(k:Nat):List Nat->Bool
 | []=>true
 | o::l=>zr4 full k o (look o H)&&okO H full k l
theorem zPA{os:zf}{ns:List Nat}:zjf H os ns=(okO H ns os.length ns&&decide ((frs ns).length<=4)):=by
 have:∀full l:List Nat,(l.all fun o=>(match look o H with|some (.row es)=>(AV.objsL es).all full.contains|some (.acc _)=>decide (o<1000000)|some (.frz m)=>m.isNone&&decide (1000000<=o)|_=>false)&&(decide (o<1000000)||decide (o<1000000+os.length)))=okO H full os.length l:=by
  intro full l
  induction l with
  | nil=>rfl
  | cons o l ih=>
   rw[zXL,ih];simp only[okO]
   congr 1
   unfold zr4
   split<;>simp_all [zsS]
 unfold zjf;exact congrArg (· && decide ((frs ns).length<=4)) (this ns ns)
def zBb(o:Nat):Option AV->Bool
 | some (.ref p 1 0)=>p==o
 | _=>false
def okG(E:Env):zf->Bool
 | []=>true
 | (o,_)::l=>zBb o (look o E)&&okG E l
theorem zPy{os:zf}:zkB E os=okG E os:=by
 unfold zkB
 induction os with
 | nil=>rfl
 | cons p l ih=>
  rw[zXL,ih];simp only[okG]
  congr 1
def zoH(H:zf)(full:List Nat):List Nat->zf
 | []=>[]
 | o::l=>(zba full o,((look o H).getD (.acc 0)).ren (zba full))::zoH H full l
theorem zQd{ns:List Nat}:zc6 H ns=zoH H ns ns:=by
 have:∀full l:List Nat,(l.map fun o=>(zba full o,((look o H).getD (.acc 0)).ren (zba full)))=zoH H full l:=by
  intro full l
  induction l with
  | nil=>rfl
  | cons o l ih=>rw[zWD,ih];rfl
 exact this ns ns
def evs(E:Env):List Opd->List AV
 | []=>[]
 | x::xs=>x.ev E::evs E xs
theorem zov{xs:List Opd}:xs.map (·.ev E)=evs E xs:=by
 induction xs with
 | nil=>rfl
 | cons x xs ih=>rw[zWD,ih];rfl
def evO(E:Env):Option Opd->Option AV
 | none=>none
 | some x=>some (x.ev E)
theorem zrL{x:Option Opd}:x.map (·.ev E)=evO E x:=by cases x<;>rfl
def evB(E:Env):List (Nat×Nat×Opd)->List (Nat×Nat×AV)
 | []=>[]
 | (a,b,x)::l=>(a,b,x.ev E)::evB E l
theorem zOw{l:List (Nat×Nat×Opd)}:(l.map fun p=>(p.1,p.2.1,p.2.2.ev E))=evB E l:=by
 induction l with
 | nil=>rfl
 | cons p l ih=>rw[zWD,ih];rfl
def evF(E:Env):List (Nat×Opd)->List (Nat×AV)
 | []=>[]
 | (a,x)::l=>(a,x.ev E)::evF E l
theorem zOx{l:List (Nat×Opd)}:(l.map fun p=>(p.1,p.2.ev E))=evF E l:=by
 induction l with
 | nil=>rfl
 | cons p l ih=>rw[zWD,ih];rfl
def szF(n:Nat):List (Nat×AV)->Bool
 | []=>true
 | (_,x)::l=>(x.size==n)&&szF n l
theorem zDJ{n:Nat}{l:List (Nat×Opd)}:(l.all fun p=>(p.2.ev E).size==n)=szF n (evF E l):=by
 induction l with
 | nil=>rfl
 | cons p l ih=>rw[zXL,ih];rfl
theorem zSR{f:FuncId}{ms:List Bool}{xs:List Opd}:step F E H dst (.call f ms xs)=zgD H (zbr F E H dst ms f (evs E xs)):=by rw[<- zov];rfl
theorem zSS{f:Opd}{ms:List Bool}{xs:List Opd}:step F E H dst (.callv f ms xs)=zgD H (zgE F E H dst ms (f.ev E) (evs E xs)):=by rw[<- zov];rfl
theorem zHK{f:FuncId}{ms:List Bool}{xs:List Opd}:AOp.feet E H dst (.call f ms xs)=zjP H dst ms (evs E xs):=by rw[<- zov];rfl
def zgV(H:zf):Option AV->Option (AV×zf)
 | none=>none
 | some v=>some (v,H)
theorem zik{x:Option AV}:x.map (fun v=>(v,H))=zgV H x:=by cases x<;>rfl
def zmy(H:zf):Option D->Option (AV×zf)
 | none=>none
 | some v=>some (.d v,H)
theorem zsw{x:Option D}:x.map (fun v=>(AV.d v,H))=zmy H x:=by cases x<;>rfl
def zil(H:zf)(ng:Bool):Option Bool->Option (AV×zf)
 | none=>none
 | some b=>some (.d (.bool (if ng then !b else b)),H)
def dO:Option D->Option AV
 | none=>none
 | some v=>some (.d v)
theorem zxW{x:Option D}:x.map AV.d=dO x:=by cases x<;>rfl
def pdO:Option D->Option AV
 | none=>none
 | some v=>some (.d (.pd v))
def peO(o:Nat):Option D->Option AV
 | none=>none
 | some v=>some (.pe o v)
def ldR(ag:Bool)(n:Nat):Option AV->Option AV
 | some e=>ze3 ag off n e
 | none=>none
 where off:Nat:=0
def ldE(ag:Bool)(n off:Nat):Option AV->Option AV
 | some e=>ze3 ag off n e
 | none=>none
def ldO(ag:Bool)(n i off:Nat):Option Obj->Option AV
 | some (.row es)=>ldE ag n off es[i]?
 | _=>none
def ldV(H:zf)(ag:Bool)(n:Nat):AV->Option AV
 | .d (.pd x)=>dO (zcn ag 0 n x)
 | .pe _ x=>dO (zcn ag 0 n x)
 | .ref o i off=>ldO ag n i off (look o H)
 | _=>none
theorem zAt{ag:Bool}{n:Nat}{v:AV}:ldA H ag n v=ldV H ag n v:=by
 unfold ldA
 split
 ·exact zxW
 ·exact zxW
 ·rename_i o i off;simp only[ldV];generalize look o H=q
  rcases q with _|(es|m|m|m)
  ·rfl
  ·show es[i]?.bind _=ldE ag n off es[i]?
   cases es[i]? <;> rfl
  ·rfl
  ·rfl
  ·rfl
 ·unfold ldV;split<;>simp_all
theorem zS1{ag:Bool}{n:Nat}{p:Opd}:step F E H dst (.ld ag n p)=zgV H (ldV H ag n (p.ev E)):=by
 show (ldA H ag n (p.ev E)).map (fun v=>(v,H))=_;rw[zik,zAt]
def ziS(ag:Bool)(off n:Nat):AV->Option AV
 | .ref o i f=>some (.ref o i (f+off))
 | .d (.pd y)=>pdO (zcn ag off n y)
 | .pe o y=>peO o (zcn ag off n y)
 | _=>none
theorem zyJ{ag:Bool}{off n:Nat}{v:AV}:zeR ag off n v=ziS ag off n v:=by
 unfold zeR
 split
 ·rfl
 ·rename_i y;simp only[ziS];cases zcn ag off n y<;>rfl
 ·rename_i o y;simp only[ziS];cases zcn ag off n y<;>rfl
 ·unfold ziS;split<;>simp_all
theorem zSX{ag:Bool}{off n:Nat}{x:Opd}:step F E H dst (.fad ag off n x)=zgV H (ziS ag off n (x.ev E)):=by
 show (zeR ag off n (x.ev E)).map (fun v=>(v,H))=_;rw[zik,zyJ]
def szR(n o i:Nat):Option AV->Option AV
 | some e=>if e.size=n then some (.ref o i 0) else none
 | none=>none
def szP(n o:Nat):Option D->Option AV
 | some e=>if e.size=n then some (.pe o e) else none
 | none=>none
def szD(n:Nat):Option D->Option AV
 | some e=>if e.size=n then some (.d (.pd e)) else none
 | none=>none
def zz4(n o i:Nat):Option Obj->Option AV
 | some (.row es)=>szR n o i es[i]?
 | _=>none
def zh0(H:zf)(n:Nat)(i:Int):AV->Option AV
 | .osl o off len=>if i<len then zz4 n o (off+i.toNat) (look o H) else none
 | .acc o es=>szP n o es[i.toNat]?
 | .d (.sl es)=>szD n es[i.toNat]?
 | .xsl es=>szD n es[i.toNat]?
 | _=>none
theorem zMS{n:Nat}{i:Int}{v:AV}:zdg H n i v=zh0 H n i v:=by
 unfold zdg
 split
 ·rename_i o off len;simp only[zh0]
  split
  ·generalize look o H=q
   rcases q with _|(es|m|m|m)
   ·rfl
   ·show es[off+i.toNat]?.bind _=szR n o (off+i.toNat) es[off+i.toNat]?
    cases es[off+i.toNat]? <;> rfl
   ·rfl
   ·rfl
   ·rfl
  ·rfl
 ·rename_i o es;simp only[zh0];unfold szP;cases es[i.toNat]? <;> rfl
 ·rename_i es;simp only[zh0];unfold szD;cases es[i.toNat]? <;> rfl
 ·rename_i es;simp only[zh0];unfold szD;cases es[i.toNat]? <;> rfl
 ·unfold zh0;split<;>simp_all
def zqU(H:zf)(n:Nat)(v:AV):Option Int->Option (AV×zf)
 | some k=>if 0<=k then zgV H (zh0 H n k v) else none
 | none=>none
theorem zSZ{n:Nat}{x i:Opd}:step F E H dst (.iad n x i)=zqU H n (x.ev E) (zbX (i.ev E)):=by
 show (zbX (i.ev E)).bind _=_;unfold zqU
 cases zbX (i.ev E) with
 | none=>rfl
 | some k=>simp only[zW9,zMS,zik]
def zqV(H:zf)(ag:Bool)(len n:Nat)(v:AV):Option Int->Option (AV×zf)
 | some k=>if 0<=k/\k<len then zgV H (ziS ag (k.toNat * n) n v) else none
 | none=>none
theorem zS0{ag:Bool}{len n:Nat}{x i:Opd}:step F E H dst (.iada ag len n x i)=zqV H ag len n (x.ev E) (zbX (i.ev E)):=by
 show (zbX (i.ev E)).bind _=_;unfold zqV
 cases zbX (i.ev E) with
 | none=>rfl
 | some k=>simp only[zW9,zyJ,zik]
def stF(H:zf)(o i:Nat)(es:List AV):Option AV->Option (AV×zf)
 | some e=>some (.undef,zF o (.row (es.set i e)) H)
 | none=>none
def stE(H:zf)(o i off:Nat)(es:List AV)(v:AV):Option AV->Option (AV×zf)
 | some e=>stF H o i es (zc7 e off v)
 | none=>none
def stO(H:zf)(o i off:Nat)(v:AV):Option Obj->Option (AV×zf)
 | some (.row es)=>stE H o i off es v es[i]?
 | _=>none
def stV(H:zf)(n:Nat)(v:AV):AV->Option (AV×zf)
 | .ref o i off=>if v.size=n/\zb8 v=false then stO H o i off v (look o H) else none
 | _=>none
def zDZ:Option AV->Option Int
 | some (.d (.int .i64 n))=>some n
 | _=>none
theorem zTb{n:Nat}{p x:Opd}:step F E H dst (.st n p x)=stV H n (x.ev E) (p.ev E):=by
 show zm E H dst (.st n p x)=_;simp only[zm];generalize p.ev E=pv
 split
 ·rename_i o i off;simp only[stV]
  split
  ·generalize look o H=q
   rcases q with _|(es|m|m|m)
   ·rfl
   ·show es[i]?.bind _=stE H o i off es (x.ev E) es[i]?
    cases es[i]? with
    | none=>rfl
    | some e=>
     show Option.map _ (zc7 e off (x.ev E))=stF H o i es (zc7 e off (x.ev E))
     cases zc7 e off (x.ev E)<;>rfl
   ·rfl
   ·rfl
   ·rfl
  ·rfl
 ·unfold stV;split<;>simp_all
def zqx(H:zf)(ag:Bool)(off n:Nat):AV->Option (AV×zf)
 | .d (.agg cs)=>zmy H (zcn ag off n (.agg cs))
 | .agg cs=>zgV H (ze3 ag off n (.agg cs))
 | _=>none
theorem zSY{ag:Bool}{off n:Nat}{x:Opd}:step F E H dst (.fld ag off n x)=zqx H ag off n (x.ev E):=by
 show zm E H dst (.fld ag off n x)=_;simp only[zm];generalize x.ev E=v
 split
 ·exact zsw
 ·exact zik
 ·unfold zqx;split<;>simp_all
def zpH(H:zf)(op:BinOp):AV->AV->Option (AV×zf)
 | .d a,.d b=>zmy H (zhb op a b)
 | _,_=>none
theorem zSN{op:BinOp}{x y:Opd}:step F E H dst (.bin op x y)=zpH H op (x.ev E) (y.ev E):=by
 show zm E H dst (.bin op x y)=_;simp only[zm];generalize x.ev E=v;generalize y.ev E=u
 split
 ·exact zsw
 ·unfold zpH;split<;>simp_all
def zeQ(H:zf)(ng:Bool)(n:Nat)(ls:List (Nat×Nat)):AV->AV->Option (AV×zf)
 | .d (.agg a),.d (.agg b)=>if a.length=n/\b.length=n then zil H ng (zeP a b ls) else none
 | _,_=>none
theorem zSV{ng:Bool}{n:Nat}{ls:List (Nat×Nat)}{x y:Opd}:step F E H dst (.eqs ng n ls x y)=zeQ H ng n ls (x.ev E) (y.ev E):=by
 show zm E H dst (.eqs ng n ls x y)=_;simp only[zm];generalize x.ev E=v;generalize y.ev E=u
 split
 ·rename_i a b;simp only[zeQ]
  split
  ·cases zeP a b ls<;>rfl
  ·rfl
 ·unfold zeQ;split<;>simp_all
def bdI(y:Nat):Option Int->Option Nat
 | some n=>if 0<=n/\n<=y then some n.toNat else none
 | none=>none
def bd(dflt y:Nat):Option AV->Option Nat
 | none=>some dflt
 | some v=>bdI y (zbX v)
theorem zm6{x:Option AV}{dflt y:Nat}:zcC x dflt y=bd dflt y x:=by
 cases x with
 | none=>rfl
 | some v=>
  simp only[zcC,bd];unfold bdI
  cases zbX v<;>rfl
def slM(es:List D)(h l:Nat)(hi:Option AV):Option AV->Option AV
 | none=>some (.d (.sl ((es.take h).drop l)))
 | some m=>if zbX m=some (h:Int)/\hi.isSome then some (.xsl ((es.take h).drop l)) else none
def zC3(es:List D)(h l:Nat)(hi:Option AV):Option AV->Option AV
 | none=>some (if h=es.length then .xsl ((es.take h).drop l) else .d (.sl ((es.take h).drop l)))
 | some m=>if zbX m=some (h:Int)/\hi.isSome then some (.xsl ((es.take h).drop l)) else none
def zty(o:Nat)(es:List D)(h:Nat)(hi:Option AV):Option AV->Option AV
 | none=>some (.acc o (es.take h))
 | some m=>if zbX m=some (h:Int)/\hi.isSome then some (.acc o (es.take h)) else none
def slL(es:List D)(hi mx:Option AV)(h:Nat):Option Nat->Option AV
 | some l=>slM es h l hi mx
 | none=>none
def slH(es:List D)(lo hi mx:Option AV):Option Nat->Option AV
 | some h=>slL es hi mx h (bd 0 h lo)
 | none=>none
def ztp(es:List D)(hi mx:Option AV)(h:Nat):Option Nat->Option AV
 | some l=>zC3 es h l hi mx
 | none=>none
def zto(es:List D)(lo hi mx:Option AV):Option Nat->Option AV
 | some h=>ztp es hi mx h (bd 0 h lo)
 | none=>none
def zpw(o:Nat)(es:List D)(hi mx:Option AV)(h:Nat):Option Nat->Option AV
 | some l=>if l=0 then zty o es h hi mx else none
 | none=>none
def zaf(o:Nat)(es:List D)(lo hi mx:Option AV):Option Nat->Option AV
 | some h=>zpw o es hi mx h (bd 0 h lo)
 | none=>none
def zsc(n o off h l:Nat):Option Obj->Option AV
 | some (.row es)=>if l=0\/es.head?.map AV.size=some n then some (.osl o (off+l) (h - l)) else none
 | _=>none
def zsa(H:zf)(n o off h:Nat):Option Nat->Option AV
 | some l=>zsc n o off h l (look o H)
 | none=>none
def zr9(H:zf)(n o off:Nat)(lo:Option AV):Option Nat->Option AV
 | some h=>zsa H n o off h (bd 0 h lo)
 | none=>none
def zsb(H:zf)(n o off len:Nat)(lo hi:Option AV):Option AV->Option AV
 | none=>zr9 H n o off lo (bd len len hi)
 | some _=>none
def zir(H:zf)(n:Nat)(lo hi mx:Option AV):AV->Option AV
 | .d (.sl es)=>if zas n es then slH es lo hi mx (bd es.length es.length hi) else none
 | .xsl es=>if zas n es then zto es lo hi mx (bd es.length es.length hi) else none
 | .acc o es=>if zas n es then zaf o es lo hi mx (bd es.length es.length hi) else none
 | .osl o off len=>zsb H n o off len lo hi mx
 | _=>none
theorem zUq{n:Nat}{lo hi mx:Option AV}{v:AV}:zcy H n lo hi mx v=zir H n lo hi mx v:=by
 unfold zcy
 split
 ·rename_i es;simp only[zir]
  split
  ·simp only[zm6];unfold slH
   cases bd es.length es.length hi with
   | none=>rfl
   | some h=>
    simp only[zW9];unfold slL
    cases bd 0 h lo with
    | none=>rfl
    | some l=>simp only[zW9];cases mx<;>rfl
  ·rfl
 ·rename_i es;simp only[zir]
  split
  ·simp only[zm6];unfold zto
   cases bd es.length es.length hi with
   | none=>rfl
   | some h=>
    simp only[zW9];unfold ztp
    cases bd 0 h lo with
    | none=>rfl
    | some l=>simp only[zW9];cases mx<;>rfl
  ·rfl
 ·rename_i o es;simp only[zir]
  split
  ·simp only[zm6];unfold zaf
   cases bd es.length es.length hi with
   | none=>rfl
   | some h=>
    simp only[zW9];unfold zpw
    cases bd 0 h lo with
    | none=>rfl
    | some l=>simp only[zW9];cases mx<;>rfl
  ·rfl
 ·rename_i o off len
  cases mx with
  | some m=>rfl
  | none=>
   simp only[zm6,zir,zsb];unfold zr9
   cases bd len len hi with
   | none=>rfl
   | some h=>
    simp only[zW9];unfold zsa
    cases bd 0 h lo with
    | none=>rfl
    | some l=>simp only[zW9];unfold zsc;rfl
 ·unfold zir;split<;>simp_all
theorem zTa{n:Nat}{x:Opd}{lo hi mx:Option Opd}:step F E H dst (.slc n x lo hi mx)=zgV H (zir H n (evO E lo) (evO E hi) (evO E mx) (x.ev E)):=by
 show (zcy H n (lo.map (·.ev E)) (hi.map (·.ev E)) (mx.map (·.ev E)) (x.ev E)).map (fun v=>(v,H))=_;rw[zik,zUq,zrL,zrL,zrL]
def zqr(H:zf)(i:Nat):AV->Option (AV×zf)
 | .d (.tup vs)=>zmy H vs[i]?
 | .tup vs=>zgV H vs[i]?
 | _=>none
theorem zSW{x:Opd}{i:Nat}:step F E H dst (.ext x i)=zqr H i (x.ev E):=by
 show zm E H dst (.ext x i)=_;simp only[zm];generalize x.ev E=v
 split
 ·exact zsw
 ·exact zik
 ·unfold zqr;split<;>simp_all
def zrD(H:zf):Option (List D)->Option (AV×zf)
 | some es=>some (.d (.int .i64 es.length),H)
 | none=>none
def zrE(H:zf):AV->Option (AV×zf)
 | .osl _ _ len=>some (.d (.int .i64 len),H)
 | .d (.sl es)=>some (.d (.int .i64 es.length),H)
 | .acc _ es=>some (.d (.int .i64 es.length),H)
 | .xsl es=>some (.d (.int .i64 es.length),H)
 | y=>zrD H (slD y)
theorem zS2{x:Opd}:step F E H dst (.len x)=zrE H (x.ev E):=by
 show zm E H dst (.len x)=_;simp only[zm];generalize x.ev E=v
 split
 ·rfl
 ·unfold zrE
  split
  ·simp_all
  ·rfl
  ·rfl
  ·rfl
  ·unfold zrD;cases slD v<;>rfl
def mmV(H:zf)(mx:Bool):List AV->Option (AV×zf)
 | []=>none
 | y::ys=>zgV H (mmD mx y ys)
theorem zS5{mx:Bool}{xs:List Opd}:step F E H dst (.mm mx xs)=mmV H mx (evs E xs):=by
 show zm E H dst (.mm mx xs)=_;simp only[zm,zov]
 cases evs E xs with
 | nil=>rfl
 | cons y ys=>exact zik
def zpM(H:zf):Option (List AV)->Option (AV×zf)
 | some cs=>some (AV.mkAgg cs,H)
 | none=>none
theorem zSQ{z:List AV}{ps:List (Nat×Nat×Opd)}:step F E H dst (.build z ps)=zpM H (zbB z (evB E ps)):=by
 show zm E H dst (.build z ps)=_;simp only[zm,zOw];unfold zpM
 cases zbB z (evB E ps)<;>rfl
def zpK(E:Env)(H:zf)(dst len:Nat)(es:List AV):Option (List D)->Option (AV×zf)
 | some ds=>some (.xsl ds,H)
 | none=>if za1 dst E=false/\zam dst H=false then some (.osl dst 0 len,zF dst (.row es) H) else none
def zpL(E:Env)(H:zf)(dst len:Nat):Option (List AV)->Option (AV×zf)
 | some es=>zpK E H dst len es (zbH es)
 | none=>none
theorem zSP{len n:Nat}{z:AV}{ps:List (Nat×Opd)}:step F E H dst (.bsl len n z ps)=if z.size=n/\szF n (evF E ps)=true then zpL E H dst len (zeS (List.replicate len z) (evF E ps)) else none:=by
 show zm E H dst (.bsl len n z ps)=_;simp only[zm,zOx,zDJ]
 split
 ·unfold zpL
  cases zeS (List.replicate len z) (evF E ps) with
  | none=>rfl
  | some es=>simp only[zW9];unfold zpK;rfl
 ·rfl
def zpF(H:zf):Option (List UInt8)->Option (AV×zf)
 | some s=>some (.d (.str s),H)
 | none=>none
def zpG(H:zf):Option (List D)->Option (AV×zf)
 | some es=>zpF H (zgC es)
 | none=>none
theorem zSM{x:Opd}:step F E H dst (.b2s x)=zpG H (slD (x.ev E)):=by
 show zm E H dst (.b2s x)=_;simp only[zm];unfold zpG
 cases slD (x.ev E) with
 | none=>rfl
 | some es=>simp only[zW9];unfold zpF;cases zgC es<;>rfl
def byD(s:List UInt8):List D:=s.map fun b=> .int .u8 b.toNat
def zp(off len:Nat):Option Obj->Option (List D)
 | some (.row es)=>srcL len (zbH ((es.drop off).take len))
 | _=>none
 where srcL (len:Nat):Option (List D)->Option (List D)
  | some ds=>if ds.length=len then some ds else none
  | none=>none
def zkZ(H:zf):AV->Option (List D)
 | .osl o off len=>zp off len (look o H)
 | .nl _=>some []
 | y=>slD y
theorem zUD{v:AV}:zdQ H v=zkZ H v:=by
 unfold zdQ
 split
 ·rename_i o off len;simp only[zkZ];generalize look o H=q
  rcases q with _|(es|m|m|m)
  ·rfl
  ·show (zbH ((es.drop off).take len)).bind _=zp.srcL len (zbH ((es.drop off).take len))
   cases zbH ((es.drop off).take len)<;>rfl
  ·rfl
  ·rfl
  ·rfl
 ·rfl
 ·unfold zkZ;split<;>simp_all
def zpB(H:zf)(o n:Nat)(es ys:List D):Option Obj->Option (AV×zf)
 | some (.acc m)=>if es.length=m/\zas n (es++ys)/\(es++ys).length<=LIM then some (.acc o (es++ys),zF o (.acc (m+ys.length)) H) else none
 | _=>none
def zld(E:Env)(H:zf)(dst n:Nat)(ys:List D):AV->Option (AV×zf)
 | .xsl es=>if (ys.isEmpty&& !es.isEmpty)=true then (if zas n es=true then some (.xsl es,H) else none) else if zas n (es++ys)/\(es++ys).length<=LIM/\za1 dst E=false/\zam dst H=false then some (.acc dst (es++ys),zF dst (.acc (es.length+ys.length)) H) else none
 | .acc o es=>zpB H o n es ys (look o H)
 | _=>none
theorem zDN{n:Nat}{ys:List D}{v:AV}:zcv E H dst n ys v=zld E H dst n ys v:=by
 unfold zcv
 split
 ·rfl
 ·simp only[zld];unfold zpB;rfl
 ·unfold zld;split<;>simp_all
def zpC(E:Env)(H:zf)(dst n:Nat)(v:AV):Option (List D)->Option (AV×zf)
 | some ys=>zld E H dst n ys v
 | none=>none
theorem zSL{n:Nat}{x y:Opd}:step F E H dst (.app n x y)=zpC E H dst n (x.ev E) (zkZ H (y.ev E)):=by
 show zm E H dst (.app n x y)=_;simp only[zm,zUD];unfold zpC
 cases zkZ H (y.ev E) with
 | none=>rfl
 | some ys=>simp only[zW9,zDN]
def zBT(H:zf)(ag:Bool)(sz:Nat):Option AV->Option AV
 | some v=>ldV H ag sz v
 | none=>none
theorem zR9{n sz:Nat}{ag:Bool}:zbi.ev ⟨E,H⟩ (.c n ag sz)=zBT H ag sz (look n E):=by
 show (look n E).bind (ldA H ag sz)=_
 cases look n E with
 | none=>rfl
 | some v=>exact zAt
theorem zSc{n:Nat}:zbi.ev ⟨E,H⟩ (.t n)=look n E:=rfl
def zp8(v:Option AV):Option (List AV)->Option (List AV)
 | some vs=>consQ vs v
 | none=>none
 where consQ (vs:List AV):Option AV->Option (List AV)
  | some v=>some (v::vs)
  | none=>none
def zii(S:St):List zbi->Option (List AV)
 | []=>some []
 | r::rs=>zp8 (r.ev S) (zii S rs)
theorem zR8{S:St}{rs:List zbi}:rs.mapM (zbi.ev S)=zii S rs:=by
 induction rs with
 | nil=>rfl
 | cons r rs ih=>
  rw[zYe,ih];simp only[zii]
  cases r.ev S with
  | none=>cases zii S rs<;>rfl
  | some v=>cases zii S rs<;>rfl
def zCM:Option (List AV)->Option AV
 | some vs=>some (AV.mkTup vs)
 | none=>none
theorem zSb{S:St}{r:zbi}:zfT S [r]=r.ev S:=rfl
theorem zSa{S:St}:zfT S []=some (AV.mkTup []):=rfl
theorem zSd{S:St}{a b:zbi}{l:List zbi}:zfT S (a::b::l)=zCM (zii S (a::b::l)):=by
 show ((a::b::l).mapM (zbi.ev S)).map AV.mkTup=_;rw[zR8]
 cases zii S (a::b::l)<;>rfl
end Go.Sim

namespace Go.Sim
variable {G:FuncId->Option AFn} {F:zaU} {E:Env} {H:zf}
theorem zWj:exL G .skip ⟨E,H⟩=some (.normal,⟨E,H⟩):=zHw
theorem zGZ{ks:List Nat}:endS ks ⟨E,H⟩=gcS ⟨zdP (zh3 ks E),H⟩:=rfl
theorem zMC:gcS ⟨E,H⟩=⟨E,gc1 E H⟩:=rfl
theorem zWe{i:Nat}{ks:List Nat}:exL G (.exit i ks) ⟨E,H⟩=some (.exit i,endS ks ⟨E,H⟩):=zHs
theorem zWh{ks:List Nat}:exL G (.ret ks) ⟨E,H⟩=some (.ret,endS ks ⟨E,H⟩):=zHu
theorem zWg{gs:List Nat}{l:List zA}{ks:List Nat}:exL G (.ops gs l ks) ⟨E,H⟩=((zfF gs ⟨E,H⟩).bind (zbL (zh G) l)).map (zi4 ks):=zHt
theorem zWd{gs:List Nat}{l:List zA}{fr:List (List Nat)}{ks:List Nat}:exL G (.draw gs l fr ks) ⟨E,H⟩=((zfF gs ⟨E,H⟩).bind (zf9 (zh G) l fr)).map (zi4 ks):=zHr
theorem zWi{x y:zJ}:exL G (.seq x y) ⟨E,H⟩=(exL G x ⟨E,H⟩).bind (zhB (exL G y)):=zHv
theorem zWb{c:Opd}{x y:zJ}:exL G (.cond c x y) ⟨E,H⟩=zhN (c.ev E) (exL G x ⟨E,H⟩) (exL G y ⟨E,H⟩):=zHq
noncomputable def zp7(G:FuncId->Option AFn)(x y:zJ)(E:Env)(H:zf):AV->Option (zT×St)
 | .d (.bool b)=>if b=true then exL G x ⟨E,H⟩ else exL G y ⟨E,H⟩
 | _=>none
theorem zWc{c:Opd}{x y:zJ}:exL G (.cond c x y) ⟨E,H⟩=zp7 G x y E H (c.ev E):=by
 rw[zWb];unfold zhN zp7;generalize c.ev E=v
 split<;>simp_all
theorem zEZ{b:Bool}{x y:zJ}:zp7 G x y E H (.d (.bool b))=if b=true then exL G x ⟨E,H⟩ else exL G y ⟨E,H⟩:=rfl
theorem zWa{id:Nat}{x:zJ}:exL G (.block id x) ⟨E,H⟩=(exL G x ⟨E,H⟩).map (ziF id):=zHp
theorem zWf{ks:List Nat}{x:zJ}:exL G (.loop ks x) ⟨E,H⟩=zN G ks x (norm ks ⟨E,H⟩):=rfl
theorem zMH{S:St}:zfF [] S=some S:=rfl
theorem zMG{g:Nat}{gs:List Nat}:zfF (g::gs) ⟨E,H⟩=(znL g ⟨E,H⟩).bind (zfF gs):=rfl
theorem zNz{ks:List Nat}:zi4 ks ⟨E,H⟩=(.normal,⟨zgj ks E,H⟩):=rfl
theorem zPp{ks:List Nat}:norm ks ⟨E,H⟩=norm1 ⟨zgj ks E,H⟩:=rfl
theorem zPo:norm1 ⟨E,H⟩=⟨zdP (deX E),zo9 (gc1 E (gc1 E H))⟩:=rfl
theorem zTZ{g:St->Option (zT×St)}{S:St}:zhB g (.normal,S)=g S:=rfl
theorem zTY{g:St->Option (zT×St)}{i:Nat}{S:St}:zhB g (.exit i,S)=some (.exit i,S):=rfl
theorem zT0{g:St->Option (zT×St)}{S:St}:zhB g (.ret,S)=some (.ret,S):=rfl
theorem zOt{ks:List Nat}{g:St->Option (zT×St)}{S:St}:zdI ks g (.normal,S)=g (norm ks S):=rfl
theorem zOs{ks:List Nat}{g:St->Option (zT×St)}{i:Nat}{S:St}:zdI ks g (.exit i,S)=some (.exit i,S):=rfl
theorem zOu{ks:List Nat}{g:St->Option (zT×St)}{S:St}:zdI ks g (.ret,S)=some (.ret,S):=rfl
theorem zD6{id:Nat}{S:St}:ziF id (.normal,S)=(.normal,S):=rfl
theorem zD5{id i:Nat}{S:St}:ziF id (.exit i,S)=if i=id then (.normal,S) else (.exit i,S):=rfl
theorem zD7{id:Nat}{S:St}:ziF id (.ret,S)=(.ret,S):=rfl
def zfR(t:Nat)(v:AV):Env->Env
 | []=>[]
 | (j,x)::l=>if j=t then (j,v)::l else (j,x)::zfR t v l
theorem zoP{t:Nat}{v:AV}:∀ {E:Env},look t E=some v->zfR t v E=E:=by
 intro E
 induction E with
 | nil=>intro h;cases h
 | cons p l ih=>
  obtain⟨j,x⟩:=p;intro h;simp only[look] at h;simp only[zfR]
  split
  ·rename_i e;rw[zWz e] at h;cases h;rfl
  ·rename_i e;rw[zWy e] at h;rw[ih h]
def zX{α:Type}(v:Option AV)(k j:Bool->Option α):Option α:=
 match v with
 | some (.d (.bool true))=>k true
 | some (.d (.bool false))=>k false
 | _=>none
theorem zPs:zbL F [] ⟨E,H⟩=some ⟨E,H⟩:=rfl
theorem zPt{d:Option Nat}{op:AOp}{l:List zA}:zbL F (⟨d,op,none⟩::l) ⟨E,H⟩=(zd7 F ⟨d,op,none⟩ ⟨E,H⟩).bind (zbL F l):=rfl
def zhZ(F:zaU)(d:Option Nat)(op:AOp)(b:Bool)(l:List zA)(E:Env)(H:zf)(c:Bool):Option St:=if c=b then (zd7 F ⟨d,op,none⟩ ⟨E,H⟩).bind (zbL F l) else zbL F l (St.put ⟨E,H⟩ d (.d (.tup [])))
theorem zMo{d:Option Nat}{op:AOp}{l:List zA}:zhZ F d op true l E H true=(zd7 F ⟨d,op,none⟩ ⟨E,H⟩).bind (zbL F l):=rfl
theorem zMl{d:Option Nat}{op:AOp}{l:List zA}:zhZ F d op false l E H false=(zd7 F ⟨d,op,none⟩ ⟨E,H⟩).bind (zbL F l):=rfl
theorem zMn{d:Option Nat}{op:AOp}{l:List zA}:zhZ F d op true l E H false=zbL F l (St.put ⟨E,H⟩ d (.d (.tup []))):=rfl
theorem zMm{d:Option Nat}{op:AOp}{l:List zA}:zhZ F d op false l E H true=zbL F l (St.put ⟨E,H⟩ d (.d (.tup []))):=rfl
def znG(F:zaU)(d:Option Nat)(op:AOp)(t:Nat)(b:Bool)(l:List zA)(E:Env)(H:zf)(v:Option AV):Option St:=
 match v with
 | some (.d (.bool c))=>if c=true then zhZ F d op b l (zfR t (.d (.bool true)) E) H true else zhZ F d op b l (zfR t (.d (.bool false)) E) H false
 | some (.d (.tup []))=>zbL F l (St.put ⟨E,H⟩ d (.d (.tup [])))
 | _=>none
theorem zMk{d:Option Nat}{op:AOp}{t:Nat}{b:Bool}{l:List zA}:znG F d op t b l E H (some (.d (.tup [])))=zbL F l (St.put ⟨E,H⟩ d (.d (.tup []))):=rfl
theorem zMj{d:Option Nat}{op:AOp}{t:Nat}{b c:Bool}{l:List zA}:znG F d op t b l E H (some (.d (.bool c)))=if c=true then zhZ F d op b l (zfR t (.d (.bool true)) E) H true else zhZ F d op b l (zfR t (.d (.bool false)) E) H false:=rfl
theorem zPq{d:Option Nat}{op:AOp}{l:List zA}{t:Nat}{b:Bool}:zbL F (⟨d,op,some (t,b)⟩::l) ⟨E,H⟩=znG F d op t b l E H (look t E):=by
 simp only[zbL,znG];generalize hv:look t E=v
 split
 ·rename_i c
  cases c with
  | true=>simp only[zoP hv,if_true];rfl
  | false=>simp only[zoP hv,zWL,if_false];rfl
 ·rfl
 ·rename_i hno hno2
  split
  ·exact absurd rfl (hno _)
  ·exact absurd rfl hno2
  ·rfl
theorem zFs{l:List zA}{fr:List (List Nat)}:zf9 F l fr ⟨E,H⟩=if (zb6 E&&zb6 H&&zly l ⟨E,H⟩)=true then zbS F l fr [] ⟨E,H⟩ else none:=rfl
theorem zFu{fr:List (List Nat)}{acc:List (List Nat×List Nat)}:zbS F [] fr acc ⟨E,H⟩=some ⟨E,H⟩:=rfl
theorem zFv{d:Option Nat}{op:AOp}{l:List zA}{f:List Nat}{fr:List (List Nat)}{acc:List (List Nat×List Nat)}:zbS F (⟨d,op,none⟩::l) (f::fr) acc ⟨E,H⟩=(zdZ F ⟨d,op,none⟩ (f::fr) acc ⟨E,H⟩).bind (zbS F l fr (acc++[op.feet E H (d.getD 0)])):=rfl
def zhO(F:zaU)(d:Option Nat)(op:AOp)(t:Nat)(b:Bool)(l:List zA)(f:List Nat)(fr:List (List Nat))(acc:List (List Nat×List Nat))(E:Env)(H:zf)(c:Bool):Option St:=
 if c=b then (zdZ F ⟨d,op,none⟩ (f::fr) acc ⟨E,H⟩).bind (zbS F l fr (acc++[op.feet E H (d.getD 0)])) else (zgH ⟨d,op,some (t,b)⟩ (f::fr) acc ⟨E,H⟩).bind (zbS F l fr (acc++[([],[])]))
theorem zFr{d:Option Nat}{op:AOp}{t:Nat}{l:List zA}{f:List Nat}{fr:List (List Nat)}{acc:List (List Nat×List Nat)}:zhO F d op t true l f fr acc E H true=(zdZ F ⟨d,op,none⟩ (f::fr) acc ⟨E,H⟩).bind (zbS F l fr (acc++[op.feet E H (d.getD 0)])):=rfl
theorem zFo{d:Option Nat}{op:AOp}{t:Nat}{l:List zA}{f:List Nat}{fr:List (List Nat)}{acc:List (List Nat×List Nat)}:zhO F d op t false l f fr acc E H false=(zdZ F ⟨d,op,none⟩ (f::fr) acc ⟨E,H⟩).bind (zbS F l fr (acc++[op.feet E H (d.getD 0)])):=rfl
theorem zFq{d:Option Nat}{op:AOp}{t:Nat}{l:List zA}{f:List Nat}{fr:List (List Nat)}{acc:List (List Nat×List Nat)}:zhO F d op t true l f fr acc E H false=(zgH ⟨d,op,some (t,true)⟩ (f::fr) acc ⟨E,H⟩).bind (zbS F l fr (acc++[([],[])])):=rfl
theorem zFp{d:Option Nat}{op:AOp}{t:Nat}{l:List zA}{f:List Nat}{fr:List (List Nat)}{acc:List (List Nat×List Nat)}:zhO F d op t false l f fr acc E H true=(zgH ⟨d,op,some (t,false)⟩ (f::fr) acc ⟨E,H⟩).bind (zbS F l fr (acc++[([],[])])):=rfl
def znl(F:zaU)(d:Option Nat)(op:AOp)(t:Nat)(b:Bool)(l:List zA)(f:List Nat)(fr:List (List Nat))(acc:List (List Nat×List Nat))(E:Env)(H:zf)(v:Option AV):Option St:=
 match v with
 | some (.d (.bool c))=>if c=true then zhO F d op t b l f fr acc (zfR t (.d (.bool true)) E) H true else zhO F d op t b l f fr acc (zfR t (.d (.bool false)) E) H false
 | some (.d (.tup []))=>(zgH ⟨d,op,some (t,b)⟩ (f::fr) acc ⟨E,H⟩).bind (zbS F l fr (acc++[([],[])]))
 | _=>none
theorem zFn{d:Option Nat}{op:AOp}{t:Nat}{b:Bool}{l:List zA}{f:List Nat}{fr:List (List Nat)}{acc:List (List Nat×List Nat)}:znl F d op t b l f fr acc E H (some (.d (.tup [])))=(zgH ⟨d,op,some (t,b)⟩ (f::fr) acc ⟨E,H⟩).bind (zbS F l fr (acc++[([],[])])):=rfl
theorem zFm{d:Option Nat}{op:AOp}{t:Nat}{b c:Bool}{l:List zA}{f:List Nat}{fr:List (List Nat)}{acc:List (List Nat×List Nat)}:znl F d op t b l f fr acc E H (some (.d (.bool c)))=
    if c=true then zhO F d op t b l f fr acc (zfR t (.d (.bool true)) E) H true else zhO F d op t b l f fr acc (zfR t (.d (.bool false)) E) H false:=rfl
theorem zFt{d:Option Nat}{op:AOp}{l:List zA}{f:List Nat}{fr:List (List Nat)}{acc:List (List Nat×List Nat)}{t:Nat}{b:Bool}:zbS F (⟨d,op,some (t,b)⟩::l) (f::fr) acc ⟨E,H⟩=znl F d op t b l f fr acc E H (look t E):=by
 simp only[zbS,znl];generalize hv:look t E=v
 split
 ·rename_i c
  cases c with
  | true=>simp only[zoP hv,if_true];rfl
  | false=>simp only[zoP hv,zWL,if_false];rfl
 ·rfl
 ·rename_i hno hno2
  split
  ·exact absurd rfl (hno _)
  ·exact absurd rfl hno2
  ·rfl
theorem zGb{d:Option Nat}{op:AOp}{f:List Nat}{fr:List (List Nat)}{acc:List (List Nat×List Nat)}:zdZ F ⟨d,op,none⟩ (f::fr) acc ⟨E,H⟩=if zhd f acc (op.feet E H (d.getD 0))=true then zd7 F ⟨d,op,none⟩ ⟨E,H⟩ else none:=rfl
theorem zGa{x:zA}{f:List Nat}{fr:List (List Nat)}{acc:List (List Nat×List Nat)}:zgH x (f::fr) acc ⟨E,H⟩=if zhd f acc ([],[])=true then some (St.put ⟨E,H⟩ x.dst (.d (.tup []))) else none:=rfl
theorem zQ4{d:Nat}{v:AV}:St.put ⟨E,H⟩ (some d) v=⟨zF d v E,H⟩:=rfl
def putO(E:Env)(d:Option Nat)(r:Option (AV×zf)):Option St:=r.map fun p=>St.put ⟨E,p.2⟩ d p.1
theorem zQ2{v:AV}:putO E none (some (v,H))=some ⟨E,H⟩:=rfl
theorem zQ3{d:Nat}{v:AV}:putO E (some d) (some (v,H))=some ⟨zF d v E,H⟩:=rfl
theorem zSK{d:Option Nat}{op:AOp}{g:Option (Nat×Bool)}:zd7 F ⟨d,op,g⟩ ⟨E,H⟩=putO E d (step F E H (d.getD 0) op):=rfl
variable {dst:Nat}
theorem zEr{g:FuncId}{cs:List D}{ms:List Bool}{args:List AV}:zgE F E H dst ms (.d (.fn g cs)) args=zbr F E H dst ms g (args++cs.map .d):=rfl
theorem zEq{v:AV}{δ:zf}:zgD H (some (v,δ))=some (v,zae δ H):=rfl
theorem zEi{ms:List Bool}{f:FuncId}{args:List AV}:zbr F E H dst ms f args=if zlA ms args.length=true then (zb0 H ms args).bind (zgK F E H dst ms f (zay ms args)) else zc1 F E H dst ms f args:=rfl
theorem zEg{ms:List Bool}{f:FuncId}{args:List AV}:zc1 F E H dst ms f args=(zb0 H ms args).bind (zf5 F E H dst (zbY H ms args) (zay ms args) f):=rfl
theorem zMd{ms:List Bool}{f:FuncId}{dob:List Nat}{zWx:List AV}:zgK F E H dst ms f dob zWx=if zgL H dob=true then (zc1 F E (zae (zbC H dob) H) dst ms f zWx).map fun p=>(p.1,p.2++zbC H dob) else none:=rfl
theorem zFz(ds:List D):zay [] (ds.map .d)=[]:=by
 induction ds with
 | nil=>rfl
 | cons d ds ih=>simp only[zWD,zay,ih,AV.objs,zWZ]
theorem ziJ{f:FuncId}{ds:List D}:zbr F E H dst [] f (ds.map .d)=(F f (ds.map .d) []).bind (zeL E H dst [] []):=by
 have h1:zb0 H [] (ds.map .d)=some (ds.map .d):=by
  induction ds with
  | nil=>rfl
  | cons d ds ih=>simp only[zWD,zb0,ih,toD,zW9,zXi]
 have h2:zcx [] (ds.map .d)=[]:=by cases ds<;>rfl
 have h3:=zFz ds;have h4:(ds.map AV.d).map (AV.ren (zaR []))=ds.map .d:=by
  rw[zYb];exact zYc fun _ _=>rfl
 unfold zbr;rw[zWy (by simp [zlA])];unfold zc1;rw[h1,h3];simp only[zW9,zbY,h2,zdB,zfS,List.flatMap_nil,zf5,zkC,List.all_nil,zhQ,zXV,if_true,h4,zce,zWA]
theorem ca0{f:FuncId}:zbr F E H dst [] f []=(F f [] []).bind (zeL E H dst [] []):=ziJ (ds:=[])
theorem ca1{f:FuncId}{a:D}:zbr F E H dst [] f [.d a]=(F f [.d a] []).bind (zeL E H dst [] []):=ziJ (ds:=[a])
theorem ca2{f:FuncId}{a b:D}:zbr F E H dst [] f [.d a,.d b]=(F f [.d a,.d b] []).bind (zeL E H dst [] []):=ziJ (ds:=[a,b])
theorem ca3{f:FuncId}{a b c:D}:zbr F E H dst [] f [.d a,.d b,.d c]=(F f [.d a,.d b,.d c] []).bind (zeL E H dst [] []):=ziJ (ds:=[a,b,c])
theorem ca4{f:FuncId}{a b c d:D}:zbr F E H dst [] f [.d a,.d b,.d c,.d d]=(F f [.d a,.d b,.d c,.d d] []).bind (zeL E H dst [] []):=ziJ (ds:=[a,b,c,d])
theorem ca5{f:FuncId}{a b c d e:D}:zbr F E H dst [] f [.d a,.d b,.d c,.d d,.d e]=(F f [.d a,.d b,.d c,.d d,.d e] []).bind (zeL E H dst [] []):=ziJ (ds:=[a,b,c,d,e])
theorem cv1{f:FuncId}{a:D}{cs:List D}:zbr F E H dst [] f (.d a::cs.map .d)=(F f (.d a::cs.map .d) []).bind (zeL E H dst [] []):=ziJ (ds:=a::cs)
theorem zOO{c:Prop}[Decidable c]{e:zT}{t:Nat}{x y:Bool}:(if c then some (e,(⟨(t,.d (.bool x))::E,H⟩:St)) else some (e,⟨(t,.d (.bool y))::E,H⟩))=some (e,⟨(t,.d (.bool (if c then x else y)))::E,H⟩):=by split<;>rfl
theorem zNu{c x:Bool}:(if c=true then x else false)=(c&&x):=by cases c<;>rfl
theorem zNv{c x:Bool}:(if c=true then true else x)=(c||x):=by cases c<;>rfl
theorem zD4{α β:Type}{c:Prop}[Decidable c]{x y:Option α}{k:α->Option β}:(if c then x else y).bind k=if c then x.bind k else y.bind k:=by split<;>rfl
theorem zOC{α β:Type}{c:Prop}[Decidable c]{x y:Option α}{k:α->β}:(if c then x else y).map k=if c then x.map k else y.map k:=by split<;>rfl
theorem zIm{sl:Bool}{rs:List zbi}{os:zf}{S:St}:zgI sl rs os (.normal,S)=(zfT S rs).bind (zhY sl os S):=rfl
theorem zIn{sl:Bool}{rs:List zbi}{os:zf}{S:St}:zgI sl rs os (.ret,S)=(zfT S rs).bind (zhY sl os S):=rfl
theorem zIl{os:zf}{S:St}{v:AV}:zhY true os S v=(toD S.heap v).bind (zo1 os S v):=rfl
theorem zIk{os:zf}{S:St}{v:AV}:zhY false os S v=zj4 os S v (zgq S.heap os v):=rfl
theorem zS6{x:Opd}:step F E H dst (.mv x)=zm E H dst (.mv x):=rfl
theorem zHW{x:Opd}:AOp.feet E H dst (.mv x)=(zai (AOp.foot E dst (.mv x)),zai (AOp.wr E dst (.mv x))):=rfl
theorem zS9{c a b:Opd}:step F E H dst (.pick c a b)=zm E H dst (.pick c a b):=rfl
theorem zHY{c a b:Opd}:AOp.feet E H dst (.pick c a b)=(zai (AOp.foot E dst (.pick c a b)),zai (AOp.wr E dst (.pick c a b))):=rfl
theorem zSJ{z:AV}:step F E H dst (.alloc z)=zm E H dst (.alloc z):=rfl
theorem zHE{z:AV}:AOp.feet E H dst (.alloc z)=(zai (AOp.foot E dst (.alloc z)),zai (AOp.wr E dst (.alloc z))):=rfl
theorem zSO{x:Opd}:step F E H dst (.box x)=zm E H dst (.box x):=rfl
theorem zHH{x:Opd}:AOp.feet E H dst (.box x)=(zai (AOp.foot E dst (.box x)),zai (AOp.wr E dst (.box x))):=rfl
theorem zHJ{z:List AV}{ps:List (Nat×Nat×Opd)}:AOp.feet E H dst (.build z ps)=(zai (AOp.foot E dst (.build z ps)),zai (AOp.wr E dst (.build z ps))):=rfl
theorem zHI{len n:Nat}{z:AV}{ps:List (Nat×Opd)}:AOp.feet E H dst (.bsl len n z ps)=(zai (AOp.foot E dst (.bsl len n z ps)),zai (AOp.wr E dst (.bsl len n z ps))):=rfl
theorem zHT{ag:Bool}{n:Nat}{p:Opd}:AOp.feet E H dst (.ld ag n p)=(zai (AOp.foot E dst (.ld ag n p)),zai (AOp.wr E dst (.ld ag n p))):=rfl
theorem zH0{n:Nat}{p x:Opd}:AOp.feet E H dst (.st n p x)=(zai (AOp.foot E dst (.st n p x)),zj2 (AOp.wr E dst (.st n p x))):=rfl
theorem zS8{x:Opd}:step F E H dst (.nilc x)=zm E H dst (.nilc x):=rfl
theorem zHX{x:Opd}:AOp.feet E H dst (.nilc x)=(zai (AOp.foot E dst (.nilc x)),zai (AOp.wr E dst (.nilc x))):=rfl
theorem zHG{op:BinOp}{x y:Opd}:AOp.feet E H dst (.bin op x y)=(zai (AOp.foot E dst (.bin op x y)),zai (AOp.wr E dst (.bin op x y))):=rfl
theorem zSU{ng:Bool}{x y:Opd}:step F E H dst (.eqb ng x y)=zm E H dst (.eqb ng x y):=rfl
theorem zHM{ng:Bool}{x y:Opd}:AOp.feet E H dst (.eqb ng x y)=(zai (AOp.foot E dst (.eqb ng x y)),zai (AOp.wr E dst (.eqb ng x y))):=rfl
theorem zHN{ng:Bool}{n:Nat}{ls:List (Nat×Nat)}{x y:Opd}:AOp.feet E H dst (.eqs ng n ls x y)=(zai (AOp.foot E dst (.eqs ng n ls x y)),zai (AOp.wr E dst (.eqs ng n ls x y))):=rfl
theorem zS7  : step F E H dst (.nacc)=zm E H dst (.nacc):=rfl
theorem zTc{op:UnOp}{x:Opd}:step F E H dst (.un op x)=zm E H dst (.un op x):=rfl
theorem zH1{op:UnOp}{x:Opd}:AOp.feet E H dst (.un op x)=(zai (AOp.foot E dst (.un op x)),zai (AOp.wr E dst (.un op x))):=rfl
theorem zST{k:IntKind}{x:Opd}:step F E H dst (.cvi k x)=zm E H dst (.cvi k x):=rfl
theorem zHL{k:IntKind}{x:Opd}:AOp.feet E H dst (.cvi k x)=(zai (AOp.foot E dst (.cvi k x)),zai (AOp.wr E dst (.cvi k x))):=rfl
theorem zHP{ag:Bool}{off n:Nat}{x:Opd}:AOp.feet E H dst (.fad ag off n x)=(zai (AOp.foot E dst (.fad ag off n x)),zai (AOp.wr E dst (.fad ag off n x))):=rfl
theorem zHQ{ag:Bool}{off n:Nat}{x:Opd}:AOp.feet E H dst (.fld ag off n x)=(zai (AOp.foot E dst (.fld ag off n x)),zai (AOp.wr E dst (.fld ag off n x))):=rfl
theorem zHR{n:Nat}{x i:Opd}:AOp.feet E H dst (.iad n x i)=(zky (AOp.foot E dst (.iad n x i)),[]):=rfl
theorem zHS{ag:Bool}{len n:Nat}{x i:Opd}:AOp.feet E H dst (.iada ag len n x i)=(zai (AOp.foot E dst (.iada ag len n x i)),zai (AOp.wr E dst (.iada ag len n x i))):=rfl
theorem zHZ{n:Nat}{x:Opd}{lo hi mx:Option Opd}:AOp.feet E H dst (.slc n x lo hi mx)=(zai (AOp.foot E dst (.slc n x lo hi mx)),zai (AOp.wr E dst (.slc n x lo hi mx))):=rfl
theorem zHO{x:Opd}{i:Nat}:AOp.feet E H dst (.ext x i)=(zai (AOp.foot E dst (.ext x i)),zai (AOp.wr E dst (.ext x i))):=rfl
theorem zHU{x:Opd}:AOp.feet E H dst (.len x)=(zai (AOp.foot E dst (.len x)),zai (AOp.wr E dst (.len x))):=rfl
theorem zS3{x:Opd}:step F E H dst (.lens x)=zm E H dst (.lens x):=rfl
theorem zHF{n:Nat}{x y:Opd}:AOp.feet E H dst (.app n x y)=(zai (AOp.foot E dst (.app n x y)),zai (AOp.wr E dst (.app n x y))):=rfl
theorem zHV{mx:Bool}{xs:List Opd}:AOp.feet E H dst (.mm mx xs)=(zai (AOp.foot E dst (.mm mx xs)),zai (AOp.wr E dst (.mm mx xs))):=rfl
theorem zS4{n:Nat}{z:AV}{l c:Opd}:step F E H dst (.mks n z l c)=zm E H dst (.mks n z l c):=rfl
theorem zUl{k:IntKind}{n:Int}:D.size (.int k n)=1:=rfl
theorem zEA{k:IntKind}{n:Int}:D.cells (.int k n)=[(.int k n)]:=rfl
theorem zUk{b:Bool}:D.size (.bool b)=1:=rfl
theorem zEz{b:Bool}:D.cells (.bool b)=[(.bool b)]:=rfl
theorem zUn{s:List UInt8}:D.size (.str s)=1:=rfl
theorem zEC{s:List UInt8}:D.cells (.str s)=[(.str s)]:=rfl
theorem zUm{es:List D}:D.size (.sl es)=1:=rfl
theorem zEB{es:List D}:D.cells (.sl es)=[(.sl es)]:=rfl
theorem size_agg{cs:List D}:D.size (.agg cs)=cs.length:=rfl
theorem zEy{cs:List D}:D.cells (.agg cs)=cs:=rfl
theorem zDP{cs:List D}:D.asAgg (.agg cs)= .agg cs:=rfl
theorem zDU{x:D}:AV.size (.d x)=x.size:=rfl
theorem zDn{x:D}:AV.cells (.d x)=x.cells.map .d:=rfl
theorem zDV{o off len:Nat}:AV.size (.osl o off len)=1:=rfl
theorem zDo{o off len:Nat}:AV.cells (.osl o off len)=[(.osl o off len)]:=rfl
theorem zDS{o:Nat}{es:List D}:AV.size (.acc o es)=1:=rfl
theorem zDl{o:Nat}{es:List D}:AV.cells (.acc o es)=[(.acc o es)]:=rfl
theorem zDW{es:List D}:AV.size (.xsl es)=1:=rfl
theorem zDp{es:List D}:AV.cells (.xsl es)=[(.xsl es)]:=rfl
theorem zDT{cs:List AV}:AV.size (.agg cs)=cs.length:=rfl
theorem zDm{cs:List AV}:AV.cells (.agg cs)=cs:=rfl
section
variable {k:IntKind} {a b:Int}
def zjL(k:IntKind)(a b:Int):Int:=k.wrap (BitVec.ofInt k.bits a &&& BitVec.ofInt k.bits b).toNat
def orI(k:IntKind)(a b:Int):Int:=k.wrap (BitVec.ofInt k.bits a ||| BitVec.ofInt k.bits b).toNat
def zjB(k:IntKind)(a b:Int):Int:=k.wrap (BitVec.ofInt k.bits a ^^^ BitVec.ofInt k.bits b).toNat
theorem zMT:zdh .add k a b=some (.int k (k.wrap (a+b))):=rfl
theorem zM5:zdh .sub k a b=some (.int k (k.wrap (a - b))):=rfl
theorem zM0:zdh .mul k a b=some (.int k (k.wrap (a * b))):=rfl
theorem zM3:zdh .quo k a b=if b=0 then none else some (.int k (k.wrap (a.tdiv b))):=rfl
theorem zM4:zdh .rem k a b=if b=0 then none else some (.int k (a.tmod b)):=rfl
theorem zMV:zdh .eql k a b=some (.bool (decide (a=b))):=rfl
theorem zM1:zdh .neq k a b=some (.bool (!decide (a=b))):=rfl
theorem zMZ:zdh .lss k a b=some (.bool (decide (a<b))):=rfl
theorem zMY:zdh .leq k a b=some (.bool (decide (a<=b))):=rfl
theorem zMX:zdh .gtr k a b=some (.bool (decide (b<a))):=rfl
theorem zMW:zdh .geq k a b=some (.bool (decide (b<=a))):=rfl
theorem zMU:zdh .and k a b=some (.int k (zjL k a b)):=rfl
theorem zM2:zdh .or k a b=some (.int k (orI k a b)):=rfl
theorem zM6:zdh .xor k a b=some (.int k (zjB k a b)):=rfl
end
theorem zHe{ng:Bool}{n:Nat}{ls:List (Nat×Nat)}{a b:List D}:zeQ H ng n ls (.d (.agg a)) (.d (.agg b))=if a.length=n/\b.length=n then zil H ng (zeP a b ls) else none:=rfl
attribute [go_sem] zDZ
theorem zQf{x:AV}{off:Nat}{v:AV}:zc7 x off v=if off=0/\v.size=x.size then some v else if off+v.size<=x.size then some (AV.mkAgg (zd6 x.cells off v.cells)) else none:=rfl
attribute [go_sem] zWj zWe zWh zWg zWd zWi zWc zEZ zWa zWf zMH zMG zNz zPp zPo deX zno zGZ zMC zh3 zTZ zTY zT0 zOt zOs zOu zD6 zD5 zD7 zMo zMl zMn zMm zMj zMk zFn zFr zFo zFq zFp zFm zfR zOO zNu zNv zD4 zOC zPs zPt zPq zFs zFu zFv zFt zGb zGa zQ4 zQ2 zQ3 zSK zEr zEq zIm zIn zIl zIk zS6 zS9 zSJ zSO zS8 zSU zS7 zTc zST zS3 zS4 zHW zHY zHE zHH zHJ zHI zHT zH0 zHX zHG zHM zHN zH1 zHL zHP zHQ zHR zHS zHZ zHO zHU zHF zHV zUl zEA zUk zEz zUn zEC zUm zEB size_agg zEy zDP zDU zDn zDV zDo zDS zDl zDW zDp zDT zDm zWQ zm Opd.ev zWD zWA Go.Sim.look zF zeG zXl Option.getD_none zhb zMT zM5 zM0 zM3 zM4 zMV zM1 zMZ zMY zMX zMW zMU zM2 zM6 zkU zmN zXi Option.map_none zW9 Option.bind_none zgj List.contains_cons List.contains_nil Bool.or_true zYJ Bool.or_false zX0 Bool.or_self zWL zXB zW4 zX1 beq_self_eq_true za1 zam AV.refs AV.refsL Obj.refs zYd zXR zXW zXr zXV zXs zX2 zXS zcn ze3 zXT zYt List.getElem?_nil zWI zWK zXg List.drop_succ_cons List.take_succ_cons zXv zQf zd6 AV.mkAgg AV.mkTup AV.mkFn zbH zSb zSa zSd zii zp8 zp8.consQ zCM zR9 zSc zBT toD toD.toDs zbX slD ne_eq zWR zXd Nat.succ_ne_self zZs zZt eq_self_iff_true zb6 AOp.foot AOp.wr AOp.looks AOp.news AOp.opds zic AV.objs AV.objsL zXL List.all_nil zYu List.any_nil List.headD_cons List.headD_nil List.tail_cons List.tail_nil zWW zW1 zWZ zeS unX zjA zmT zbB List.set_cons_zero List.set_cons_succ Nat.lt_add_one Nat.zero_lt_one Nat.one_lt_two zY6 zi0 zA.newNames fr4 zdW zcw zjP zne zai zb0 zay zcx zbY zfS zdB zkQ zaR pos AV.ren AV.renL Obj.ren zf5 zeL AV.flat AV.flatL Obj.flat D.flat D.flatL zae mmD zgC zj4 zo1 zgq zba frs znL zpk zta ztb zib zl7 zph zs3 zs4 zkw zl6 zpj zs9 zpi zs7 zhP zlr zlq zmw rnm Option.isNone_some Option.isNone_none ziT zgX zgz zdP zh1 zo9 gc1 gc zkx zeP zhT List.flatMap_nil List.flatMap_cons zYv zX3 List.getD_cons_zero List.getD_cons_succ decide_true decide_false if_true if_false List.isEmpty_nil List.isEmpty_cons zPz okN zr3 zmO zQc osN zMc zMb zIv znB zFS zFR zR4 zR3 zPw zPv zHo zHn zFU zFT zxI zEK zEJ znE zMa zL9 zSx zSw zDj zDi znr zG3 zMF zME zr4 okO zPA zBb okG zPy zoH zQd evs evO evB evF szF zgV zmy zil dO pdO peO ldE ldO ldV zS1 ziS zSX szR szP szD zz4 zh0 zqU zSZ zqV zS0 stF stE stO stV zTb zqx zSY zpH zSN zHe zSV bdI bd slM zC3 zty slL slH ztp zto zpw zaf zsc zsa zr9 zsb zir zTa zqr zSW zrD zrE zS2 mmV zS5 zpM zSQ zpK zpL zSP zpF zpG zSM zp zp.srcL zkZ zpB zld zpC zSL zSR zSS zHK
theorem zDH{n:Nat}:zas n []=true:=rfl
theorem ztD{n:Nat}{e:D}{es:List D}:zas n (e::es)=(e.size==n&&zas n es):=rfl
theorem zDF{n:Nat}{es fs:List D}:zas n (es++fs)=(zas n es&&zas n fs):=by simp [zas]
theorem zDu{ds:List D}:zbH (ds.map .d)=some ds:=zlc ds
theorem zVk{ns:List Nat}:zdc ns dst 0=dst:=by simp [zdc]
theorem zVl{ns:List Nat}:zdc ns dst 1=dst+10000:=by simp [zdc]
theorem zs0{ns:List Nat}{n:Nat}(h:¬n<1000000):zdc ns dst n=ns.getD (n - 1000000) 0:=by unfold zdc;rw[zWy h]
theorem zVm{ns:List Nat}{a:Nat}:zdc (a::ns) dst 1000000=a:=by rw[zs0 (by omega)];rfl
theorem zVn{ns:List Nat}{a b:Nat}:zdc (a::b::ns) dst 1000001=b:=by rw[zs0 (by omega)];rfl
theorem zVo{ns:List Nat}{a b c:Nat}:zdc (a::b::c::ns) dst 1000002=c:=by rw[zs0 (by omega)];rfl
attribute [go_sem] zVk zVl zVm zVn zVo
attribute [go_sem] ziO zlp zjX zjY znm zf7 zqc
attribute [go_sem] zje zl5 zku zkv zoy zgn zr1
attribute [go_sem] okA acA zl9 zla zoA zhI zkz zjG zgo zcB zs5
attribute [go_sem] okC zdn zma zmA okE zin zkA zkP zgp zcW zhU orE zhV zgg zny ztc
attribute [go_sem] zBL zPu zDH ztD zDF zDu
attribute [go_sem high] ca0 ca1 ca2 ca3 ca4 ca5 cv1
attribute [go_sem low] zEi zEg
attribute [go_sem] zMd zlA zMf zMe zMh zMg mark List.drop_nil Option.isSome_some Option.isSome_none
def D.isT:D->Bool
 | .tup _=>true
 | _=>false
theorem zNq{x:D}:zb8 (.d x)=x.isT:=by cases x<;>rfl
theorem zNl{k:IntKind}{n:Int}:D.isT (.int k n)=false:=rfl
theorem zNk{b:Bool}:D.isT (.bool b)=false:=rfl
theorem zNn{s:List UInt8}:D.isT (.str s)=false:=rfl
theorem zNj{cs:List D}:D.isT (.agg cs)=false:=rfl
theorem zNm{es:List D}:D.isT (.sl es)=false:=rfl
theorem zNs{o off len:Nat}:zb8 (.osl o off len)=false:=rfl
theorem zNo{o:Nat}{es:List D}:zb8 (.acc o es)=false:=rfl
theorem zNt{es:List D}:zb8 (.xsl es)=false:=rfl
theorem zNp{cs:List AV}:zb8 (.agg cs)=false:=rfl
attribute [go_sem] zNq zNl zNk zNn zNj zNm zNs zNo zNt zNp
theorem zR6{ρ:Nat->Nat}{ds:List D}:(ds.map AV.d).map (AV.ren ρ)=ds.map .d:=by rw[zYb];exact zYc fun _ _=>rfl
attribute [go_sem] zR6
theorem GOK.of{P:Program}(tab:List (Nat×AFn))(h:∀p∈tab,zix P p.1 p.2):GOK P (fun f=>look f tab):=fun f fn hf=>h (f,fn) (zaq hf)
end Go.Sim

namespace Go.Sim
abbrev oM(d s:Nat):zA:=⟨some d,.mv (.t s),none⟩
abbrev oP(d:Nat)(x:AOp):zA:=⟨some d,x,none⟩
abbrev oQ(d:Nat)(x:AOp)(t:Nat)(b:Bool):zA:=⟨some d,x,some (t,b)⟩
abbrev oN(x:AOp):zA:=⟨none,x,none⟩
abbrev kI(n:Int):Opd:= .c (.d (.int .i64 n))
abbrev aI(n:Int):AV:= .d (.int .i64 n)
open Go (World Value Addr TypeId Act)
variable {G:FuncId->Option AFn}
end Go.Sim

namespace Go.Sim
open Go (Program Func)
def val{x:Option zJ}(c:zJ)(_:x=some c):zJ:=c
theorem iP(n:Nat):Int.ofNat n=(n:Int):=rfl
theorem iN(n:Nat):Int.negSucc n= -((n:Int)+1):=rfl
def bodies:zJ->List zJ
 | .seq a b=>bodies a++bodies b
 | .cond _ a b=>bodies a++bodies b
 | .block _ a=>bodies a
 | .loop _ a=>bodies a++[a]
 | _=>[]
def ze4:zJ->List zJ->zJ×List zJ
 | .seq a b,ls=>(.seq (ze4 a ls).1 (ze4 b (ze4 a ls).2).1,(ze4 b (ze4 a ls).2).2)
 | .cond z a b,ls=>(.cond z (ze4 a ls).1 (ze4 b (ze4 a ls).2).1,(ze4 b (ze4 a ls).2).2)
 | .block i a,ls=>(.block i (ze4 a ls).1,(ze4 a ls).2)
 | .loop ks a,ls=>(match ls.drop (bodies a).length with|x::_=> .loop ks x|[]=> .loop ks a,ls.drop ((bodies a).length+1))
 | c,ls=>(c,ls)
theorem tk{α:Type}{a b:α}(h:a=b:=by kernel_rfl):a=b:=h
theorem zL4{P:Program}{f i:Nat}{fn:Func}{c:zJ}{rs:List zbi}{nt:Nat}{sl:Bool}(hs:zap)(hf:P.funcs[i]? = some fn)(h0:f=i:=by kernel_rfl)(h1:zef P f=true:=by kernel_rfl)(h2:fn.body.bind (comp P hs)=some c:=by kernel_rfl)(h3:fn.body.map (zdO fn.ntmps)=some true:=by kernel_rfl)(h4:fn.results.toList.mapM (zfg P)=some rs:=by kernel_rfl)(h5:fn.ntmps=nt:=by kernel_rfl)(h6:nt<=1000000:=by decide):zix P f (.code c rs nt sl):=⟨h1,fn,hs,h0 ▸ hf,h2,h3,h4,h5,h6⟩
theorem zL5{P:Program}{f i:Nat}{fn:Func}{c:zJ}{rs:List zbi}{nt:Nat}(hs:zap)(hf:P.funcs[i]? = some fn)(h0:f=i:=by kernel_rfl)(h1:zef P f=true:=by kernel_rfl)(h2:fn.body.bind (comp P hs)=some c:=by kernel_rfl)(h3:fn.body.map (zdO fn.ntmps)=some true:=by kernel_rfl)(h4:fn.results.toList.mapM (zfg P)=some rs:=by kernel_rfl)(h5:fn.ntmps=nt:=by kernel_rfl)(h6:nt<=1000000:=by decide):zix P f (.nils c rs nt):=⟨h1,fn,hs,h0 ▸ hf,h2,h3,h4,h5,h6⟩
end Go.Sim

namespace Go.Sim
open Go (Program Func Oper)
def oS:Opd->List Nat
 | .t i=>[i]
 | .c _=>[]
def un(a b:List Nat):List Nat:=a++b.filter fun x=> !a.contains x
def lvO(o:zA)(l:List Nat):List Nat:=
 un (un (o.op.opds.flatMap oS) (match o.guard with|some (g,_)=>[g]|none=>[])) (match o.dst with|some d=>l.filter fun x=> !(x==d)|none=>l)
def dsO:List zA->List Nat
 | []=>[]
 | o::l=>match o.dst with|some d=>d::dsO l|none=>dsO l
def lv:zJ->List Nat->List (Nat×List Nat)->zJ×List Nat
 | .ops g l _,out,_=>(.ops g l out,l.foldr lvO out)
 | .draw g l f _,out,_=>(.draw g l f out,l.foldr lvO out)
 | .seq a b,out,ex=>(.seq (lv a (lv b out ex).2 ex).1 (lv b out ex).1,(lv a (lv b out ex).2 ex).2)
 | .cond c t e,out,ex=>(.cond c (lv t out ex).1 (lv e out ex).1,un (oS c) (un (lv t out ex).2 (lv e out ex).2))
 | .block i b,out,ex=>(.block i (lv b out ((i,out)::ex)).1,(lv b out ((i,out)::ex)).2)
 | .loop _ b,_,ex=>(.loop (lv b [] ex).2 (lv b (lv b [] ex).2 ex).1,(lv b [] ex).2)
 | .exit i _,_,ex=>(.exit i ((look i ex).getD []),(look i ex).getD [])
 | .ret k,_,_=>(.ret k,k)
 | .skip,out,_=>(.skip,out)
def zi3(i:Nat):zJ->List Nat
 | .seq a b=>un (zi3 i a) (zi3 i b)
 | .cond _ a b=>un (zi3 i a) (zi3 i b)
 | .block _ a=>zi3 i a
 | .loop _ a=>zi3 i a
 | .exit j k=>if i==j then k else []
 | _=>[]
def fw:zJ->List Nat->zJ×List Nat
 | .ops g l o,fr=>(.ops g l ((un fr (dsO l)).filter fun x=> !o.contains x),(un fr (dsO l)).filter fun x=>o.contains x)
 | .draw g l f o,fr=>(.draw g l f ((un fr (dsO l)).filter fun x=> !o.contains x),(un fr (dsO l)).filter fun x=>o.contains x)
 | .seq a b,fr=>(.seq (fw a fr).1 (fw b (fw a fr).2).1,(fw b (fw a fr).2).2)
 | .cond c t e,fr=>(.cond c (fw t fr).1 (fw e fr).1,un (fw t fr).2 (fw e fr).2)
 | .block i b,fr=>(.block i (fw b fr).1,un (fw b fr).2 (zi3 i b))
 | .loop h b,fr=>(.loop ((un fr (fw b h).2).filter fun x=> !h.contains x) (fw b h).1,[])
 | .exit i k,_=>(.exit i k,[])
 | .ret k,_=>(.ret k,[])
 | .skip,fr=>(.skip,fr)
def ziN(P:Program)(hs:zap):Code->Option zJ
 | .skip=>some .skip
 | .region id ops false=>(ops.toList.mapM (zfz P hs ops)).map fun l=> .ops (zgN hs.ghost id) l []
 | .region id ops true=>(ops.toList.mapM (zfz P hs ops)).map fun l=> .draw (zgN hs.ghost id) l ((List.range ops.size).map (zgJ ops)) []
 | .seq a b=>match ziN P hs a,ziN P hs b with|some x,some y=>some (.seq x y)|_,_=>none
 | .cond c t e=>match opd c,ziN P hs t,ziN P hs e with|some z,some x,some y=>some (.cond z x y)|_,_,_=>none
 | .block id b=>(ziN P hs b).map (.block id)
 | .loop b=>(ziN P hs b).map (.loop [])
 | .exit id=>some (.exit id [])
 | .ret=>some (.ret hs.ret)
 | _=>none
def rsl:List zbi->List Nat
 | []=>[]
 | .c s _ _::l=>s::rsl l
 | .t s::l=>s::rsl l
def zxN(P:Program)(fn:Func)(hs:zap):Option zJ:=
 (fn.results.toList.mapM (zfg P)).bind fun rs=>(fn.body.bind (ziN P { hs with ret:=rsl rs })).map fun c=>(fw (lv c (rsl rs) []).1 (List.range (fn.params.size+fn.nfree))).1
def zxP(P:Program)(fn:Func)(hs:zap)(ls:List zJ):Option zJ:=(zxN P fn hs).map fun c=>(ze4 c ls).1
def zxO(P:Program)(fn:Func)(hs:zap)(j:Nat)(ls:List zJ):Option zJ:=(zxN P fn hs).bind fun c=>(bodies c)[j]?.map fun b=>(ze4 b ls).1
def af(P:Program)(sl:Bool)(fn:Func)(c:zJ){rs:List zbi}{nt:Nat}(_:fn.results.toList.mapM (zfg P)=some rs:=by conv=>lhs;reduce)(_:fn.ntmps=nt:=by conv=>lhs;reduce):AFn:= .code c rs nt sl
theorem zl{P:Program}{f i:Nat}{fn:Func}{c:zJ}{rs:List zbi}{nt:Nat}{sl:Bool}(hf:P.funcs[i]? = some fn)(h0:f=i:=by kernel_rfl)(h1:zef P f=true:=by kernel_rfl)(h2:fn.body.bind (comp P (znN fn c))=some c:=by kernel_rfl)(h3:fn.body.map (zdO fn.ntmps)=some true:=by kernel_rfl)(h4:fn.results.toList.mapM (zfg P)=some rs:=by kernel_rfl)(h5:fn.ntmps=nt:=by kernel_rfl)(h6:nt<=1000000:=by decide):zix P f (.code c rs nt sl):=zL4 (znN fn c) hf h0 h1 h2 h3 h4 h5 h6
def an(P:Program)(fn:Func)(c:zJ){rs:List zbi}{nt:Nat}(_:fn.results.toList.mapM (zfg P)=some rs:=by conv=>lhs;reduce)(_:fn.ntmps=nt:=by conv=>lhs;reduce):AFn:= .nils c rs nt
theorem zWw{P:Program}{f i:Nat}{fn:Func}{c:zJ}{rs:List zbi}{nt:Nat}(hf:P.funcs[i]? = some fn)(h0:f=i:=by kernel_rfl)(h1:zef P f=true:=by kernel_rfl)(h2:fn.body.bind (comp P (znN fn c))=some c:=by kernel_rfl)(h3:fn.body.map (zdO fn.ntmps)=some true:=by kernel_rfl)(h4:fn.results.toList.mapM (zfg P)=some rs:=by kernel_rfl)(h5:fn.ntmps=nt:=by kernel_rfl)(h6:nt<=1000000:=by decide):zix P f (.nils c rs nt):=zL5 (znN fn c) hf h0 h1 h2 h3 h4 h5 h6
end Go.Sim

namespace Go.Proofs.YtjalkkalhdnplaaGreat
open Go Go.Sim
def wl(fn:Func)(hs:zap)(ls:List zJ){c:zJ}(_:zxP Tryz.prog fn hs ls=some c:=by conv=>lhs;reduce;try simp only[iP,iN,zYa,zWV,zXK]):zJ:=c
def wv(fn:Func)(hs:zap)(j:Nat)(ls:List zJ){c:zJ}(_:zxO Tryz.prog fn hs j ls=some c:=by conv=>lhs;reduce;try simp only[iP,iN,zYa,zWV,zXK]):zJ:=c
theorem zV6{fn:Func}{hs:zap}{ls:List zJ}{c:zJ}(h:zxP Tryz.prog fn hs ls=some c):wl fn hs ls h=c:=rfl
theorem zV9{fn:Func}{hs:zap}{j:Nat}{ls:List zJ}{c:zJ}(h:zxO Tryz.prog fn hs j ls=some c):wv fn hs j ls h=c:=rfl
attribute [go_sem ↓] zV6 zV9
def zqJ:zap:={ghost:=[(9,[20054])],obj:=[(22,[false,true]),(24,[true,false,true]),(27,[true,false,true]),(36,[false,false,false,false,true]),(129,[true,false]),(133,[true,true]),(151,[false,false,false,true])]}
@[irreducible] def zh4:=wv Tryz.f3 zqJ 0 []
@[irreducible] def zfJ:=wv Tryz.f3 zqJ 1 [zh4]
def zm8:=wl Tryz.f3 zqJ [zh4,zfJ]
def zyY:=af Tryz.prog true Tryz.f3 zm8
def ztX:=wl Tryz.f6 {} []
def zIA:=af Tryz.prog false Tryz.f6 ztX
def zt6:=wl Tryz.f7 {obj:=[(9,[true]),(12,[true,false,true]),(13,[false,false,true]),(20,[false,true])]} []
def zII:=af Tryz.prog true Tryz.f7 zt6
def zjN:=wl Tryz.f42 {obj:=[(5,[true,false,false]),(7,[true,false,false]),(9,[true,false,false]),(11,[true,false,false]),(16,[true,false,false]),(19,[true,false]),(23,[true,false]),(29,[true,false]),(35,[true,false])]} []
def zyX:=af Tryz.prog true Tryz.f42 zjN
def zt2:=wl Tryz.f21 {obj:=[(13,[true,false])]} []
def zIF:=af Tryz.prog true Tryz.f21 zt2
def ztZ:=wl Tryz.f13 {obj:=[(9,[true])]} []
def zIC:=af Tryz.prog true Tryz.f13 ztZ
def zt3:=wl Tryz.f54 {} []
def zIG:=af Tryz.prog true Tryz.f54 zt3
def zzJ:zap:={obj:=[(18,[true,true])],acc:=[5]}
@[irreducible] def zlQ:=wv Tryz.f43 zzJ 0 []
def zt5:=wl Tryz.f43 zzJ [zlQ]
def zIH:=af Tryz.prog true Tryz.f43 zt5
def ztY:=wl Tryz.f10 {} []
def zIB:=af Tryz.prog true Tryz.f10 ztY
def zqI:zap:={ghost:=[(16,[4000054]),(28,[4000103])],obj:=[(9,[true,false]),(14,[true,false]),(17,[true,false]),(24,[true,false]),(28,[true,false]),(31,[true,false,false]),(33,[true,false]),(43,[true,false,false]),(52,[true]),(62,[true,false,false]),(65,[true,false]),(72,[true,false,false]),(81,[true,false]),(85,[true,false,false]),(93,[true,false]),(96,[true,false]),(98,[true,false]),(109,[true,false]),(112,[true,false,false]),(118,[true,false,false]),(121,[true,false]),(125,[false,true])]}
@[irreducible] def zlP:=wv Tryz.f93 zqI 0 []
@[irreducible] def zhl:=wv Tryz.f93 zqI 1 []
def zeK:=wl Tryz.f93 zqI [zlP,zhl]
def zyV:=af Tryz.prog true Tryz.f93 zeK
def zt0:=wl Tryz.f34 {obj:=[(9,[true,false])]} []
def zID:=af Tryz.prog true Tryz.f34 zt0
def zzI:zap:={ghost:=[(6,[15])],obj:=[(6,[true,false]),(17,[true,false])]}
@[irreducible] def zq3:=wv Tryz.f145 zzI 0 []
def zm7:=wl Tryz.f145 zzI [zq3]
def zyU:=af Tryz.prog true Tryz.f145 zm7
def zt8:=wl Tryz.f146 {} []
def zIK:=af Tryz.prog true Tryz.f146 zt8
def zz2:zap:={obj:=[(13,[false,true]),(36,[false,false,true])]}
@[irreducible] def zrv:=wv Tryz.f41 zz2 0 []
def zxk:=wl Tryz.f41 zz2 [zrv]
def zLW:=af Tryz.prog true Tryz.f41 zxk
def zxe:=wl Tryz.f44 {obj:=[(8,[false,true])]} []
def zLQ:=af Tryz.prog true Tryz.f44 zxe
def zzW:zap:={obj:=[(64,[false,false,true]),(84,[false,true]),(106,[false,false,false,true]),(127,[false,true])]}
@[irreducible] def zro:=wv Tryz.f45 zzW 0 []
def zpV:=wl Tryz.f45 zzW [zro]
def zzf:=af Tryz.prog true Tryz.f45 zpV
def zpX:=wl Tryz.f85 {} []
def zzh:=af Tryz.prog true Tryz.f85 zpX
def zqM:zap:={ghost:=[(6,[4000042])]}
@[irreducible] def zAm:=wv Tryz.f94 zqM 0 []
@[irreducible] def zAn:=wv Tryz.f94 zqM 1 []
def zvA:=wl Tryz.f94 zqM [zAm,zAn]
def zKc:=af Tryz.prog true Tryz.f94 zvA
def zu4:=wl Tryz.f95 {} []
def zJG:=af Tryz.prog true Tryz.f95 zu4
def zpQ:=wl Tryz.f76 {} []
def zy4:=af Tryz.prog true Tryz.f76 zpQ
def zu9:=wl Tryz.f31 {} []
def zJL:=af Tryz.prog true Tryz.f31 zu9
def zvm:=wl Tryz.f77 {} []
def zJY:=af Tryz.prog true Tryz.f77 zvm
def zvq:=wl Tryz.f96 {} []
def zJ2:=af Tryz.prog true Tryz.f96 zvq
def zqQ:zap:={ghost:=[(24,[4000090])],obj:=[(44,[false,false,true]),(57,[false,false,true]),(88,[false,false,true]),(95,[false,false,true])]}
@[irreducible] def zru:=wv Tryz.f92 zqQ 0 []
@[irreducible] def zlZ:=wv Tryz.f92 zqQ 1 []
def zxj:=wl Tryz.f92 zqQ [zru,zlZ]
def zLV:=af Tryz.prog true Tryz.f92 zxj
def zz0:zap:={ghost:=[(7,[6])],acc:=[3]}
@[irreducible] def zrs:=wv Tryz.f55 zz0 0 []
def zxf:=wl Tryz.f55 zz0 [zrs]
def zLR:=af Tryz.prog false Tryz.f55 zxf
def zxg:=wl Tryz.f142 {obj:=[(23,[false,false,true])]} []
def zLS:=af Tryz.prog true Tryz.f142 zxg
def zz1:zap:={ghost:=[(8,[82])],obj:=[(24,[false,false,false,true])]}
@[irreducible] def zrt:=wv Tryz.f186 zz1 0 []
def zxi:=wl Tryz.f186 zz1 [zrt]
def zLU:=af Tryz.prog true Tryz.f186 zxi
def zxa:=wl Tryz.f56 {obj:=[(12,[false,true]),(25,[false,false,false,true]),(35,[false,false,false,true]),(47,[false,false,false,true]),(57,[false,false,false,true]),(67,[false,false,false,true]),(77,[false,false,false,true]),(87,[false,false,false,true]),(97,[false,false,false,true]),(107,[false,false,false,true]),(118,[false,false,false,true]),(128,[false,false,false,true]),(133,[false,true])]} []
def zLM:=af Tryz.prog true Tryz.f56 zxa
def zwu:=wl Tryz.f99 {} []
def zK6:=af Tryz.prog true Tryz.f99 zwu
def zwB:=wl Tryz.f100 {obj:=[(26,[false,true]),(46,[false,false,false,true]),(52,[false,false,false,true]),(67,[false,false,false,false,true]),(74,[false,true]),(103,[false,false,false,false,true]),(108,[false,false,false,true]),(117,[false,true]),(125,[false,true]),(145,[false,false,false,true]),(152,[false,false,false,true])]} []
def zLd:=af Tryz.prog true Tryz.f100 zwB
def zww:=wl Tryz.f148 {} []
def zK8:=af Tryz.prog true Tryz.f148 zww
def zvN:=wl Tryz.f149 {} []
def zKp:=af Tryz.prog true Tryz.f149 zvN
def zwt:=wl Tryz.f150 {} []
def zK5:=af Tryz.prog true Tryz.f150 zwt
def zwp:=wl Tryz.f151 {} []
def zK1:=af Tryz.prog true Tryz.f151 zwp
def zwo:=wl Tryz.f204 {} []
def zK0:=af Tryz.prog true Tryz.f204 zwo
def zvL:=wl Tryz.f152 {} []
def zKn:=af Tryz.prog true Tryz.f152 zvL
def zul:=wl Tryz.f154 {} []
def zIX:=af Tryz.prog true Tryz.f154 zul
@[irreducible] def zlR:=wv Tryz.f205 {} 0 []
def zlg:=wl Tryz.f205 {} [zlR]
def zy0:=af Tryz.prog false Tryz.f205 zlg
@[irreducible] def zq4:=wv Tryz.f206 {} 0 []
def zum:=wl Tryz.f206 {} [zq4]
def zIY:=af Tryz.prog true Tryz.f206 zum
def zwm:=wl Tryz.f153 {} []
def zKY:=af Tryz.prog true Tryz.f153 zwm
def zwx:=wl Tryz.f155 {obj:=[(10,[false,true]),(22,[false,false,false,true])]} []
def zK9:=af Tryz.prog true Tryz.f155 zwx
def zvP:=wl Tryz.f158 {} []
def zKr:=af Tryz.prog true Tryz.f158 zvP
@[irreducible] def zlY:=wv Tryz.f207 {} 0 []
def zvB:=wl Tryz.f207 {} [zlY]
def zKd:=af Tryz.prog true Tryz.f207 zvB
@[irreducible] def zrj:=wv Tryz.f218 {} 0 []
@[irreducible] def zog:=wv Tryz.f218 {} 1 []
@[irreducible] def zrk:=wv Tryz.f218 {} 2 []
@[irreducible] def zrl:=wv Tryz.f218 {} 3 []
@[irreducible] def zoh:=wv Tryz.f218 {} 4 []
@[irreducible] def zoi:=wv Tryz.f218 {} 5 [zoh]
def zvE:=wl Tryz.f218 {} [zrj,zog,zrk,zrl,zoh,zoi]
def zKg:=af Tryz.prog true Tryz.f218 zvE
@[irreducible] def zrm:=wv Tryz.f217 {} 0 []
def zvF:=wl Tryz.f217 {} [zrm]
def zKh:=af Tryz.prog true Tryz.f217 zvF
def zwz:=wl Tryz.f161 {obj:=[(12,[false,false,true])]} []
def zLb:=af Tryz.prog true Tryz.f161 zwz
def zv7:=wl Tryz.f219 {obj:=[(10,[false,true])]} []
def zKJ:=af Tryz.prog true Tryz.f219 zv7
@[irreducible] def zrp:=wv Tryz.f273 {} 0 []
def zv3:=wl Tryz.f273 {} [zrp]
def zKF:=af Tryz.prog true Tryz.f273 zv3
def zwv:=wl Tryz.f156 {obj:=[(21,[false,false,false,false,true])]} []
def zK7:=af Tryz.prog true Tryz.f156 zwv
def zv8:=wl Tryz.f208 {obj:=[(19,[false,false,false,false,true])]} []
def zKK:=af Tryz.prog true Tryz.f208 zv8
def zwh:=wl Tryz.f271 {obj:=[(28,[false,false,false,true]),(42,[false,false,true]),(48,[false,false,true]),(57,[false,false,false,true]),(65,[false,false,true]),(89,[false,false,true]),(98,[false,false,false,true]),(106,[false,false,true]),(115,[false,false,false,true]),(126,[false,false,false,true]),(140,[false,false,true])]} []
def zKT:=af Tryz.prog true Tryz.f271 zwh
def zv4:=wl Tryz.f292 {} []
def zKG:=af Tryz.prog true Tryz.f292 zv4
def zvX:=wl Tryz.f22 {obj:=[(32,[false,false,false,true])]} []
def zKz:=af Tryz.prog true Tryz.f22 zvX
def zv1:=wl Tryz.f66 {} []
def zKD:=af Tryz.prog true Tryz.f66 zv1
def zvS:=wl Tryz.f67 {} []
def zKu:=af Tryz.prog true Tryz.f67 zvS
def zvZ:=wl Tryz.f68 {ghost:=[(5,[36])]} []
def zKB:=af Tryz.prog true Tryz.f68 zvZ
def zvY:=wl Tryz.f313 {obj:=[(31,[false,false,false,true])]} []
def zKA:=af Tryz.prog true Tryz.f313 zvY
def zwc:=wl Tryz.f281 {} []
def zKO:=af Tryz.prog true Tryz.f281 zwc
@[irreducible] def zon:=wv Tryz.f293 {} 0 []
def zwg:=wl Tryz.f293 {} [zon]
def zKS:=af Tryz.prog true Tryz.f293 zwg
def zwf:=wl Tryz.f294 {obj:=[(76,[false,false,false,false,true]),(95,[false,false,true])]} []
def zKR:=af Tryz.prog true Tryz.f294 zwf
def zvR:=wl Tryz.f26 {} []
def zKt:=af Tryz.prog true Tryz.f26 zvR
def zpY:=wl Tryz.f70 {} []
def zzi:=af Tryz.prog true Tryz.f70 zpY
def zvG:=wl Tryz.f314 {} []
def zKi:=af Tryz.prog true Tryz.f314 zvG
def zvV:=wl Tryz.f36 {ghost:=[(7,[88])]} []
def zKx:=af Tryz.prog true Tryz.f36 zvV
def zv0:=wl Tryz.f81 {} []
def zKC:=af Tryz.prog true Tryz.f81 zv0
def zwe:=wl Tryz.f295 {obj:=[(23,[false,true]),(28,[false,false,true]),(50,[false,false,true])]} []
def zKQ:=af Tryz.prog true Tryz.f295 zwe
def zvO:=wl Tryz.f315 {} []
def zKq:=af Tryz.prog true Tryz.f315 zvO
def zvQ:=wl Tryz.f24 {} []
def zKs:=af Tryz.prog true Tryz.f24 zvQ
def zv5:=wl Tryz.f296 {} []
def zKH:=af Tryz.prog true Tryz.f296 zv5
def zwi:=wl Tryz.f297 {obj:=[(36,[false,false,false,true]),(49,[false,false,false,false,true]),(82,[false,false,true]),(85,[false,false,true])]} []
def zKU:=af Tryz.prog true Tryz.f297 zwi
def zvT:=wl Tryz.f39 {} []
def zKv:=af Tryz.prog true Tryz.f39 zvT
def zvv:=wl Tryz.f89 {} []
def zJ7:=af Tryz.prog true Tryz.f89 zvv
@[irreducible] def zoc:=wv Tryz.f134 {} 0 []
@[irreducible] def zod:=wv Tryz.f134 {} 1 []
def zvw:=wl Tryz.f134 {} [zoc,zod]
def zJ8:=af Tryz.prog true Tryz.f134 zvw
def zuv:=wl Tryz.f195 {} []
def zI7:=af Tryz.prog true Tryz.f195 zuv
def zuw:=wl Tryz.f260 {} []
def zI8:=af Tryz.prog true Tryz.f260 zuw
@[irreducible] def zq5:=wv Tryz.f130 {} 0 []
def zuo:=wl Tryz.f130 {} [zq5]
def zI0:=af Tryz.prog true Tryz.f130 zuo
def zvU:=wl Tryz.f33 {ghost:=[(10,[86])]} []
def zKw:=af Tryz.prog true Tryz.f33 zvU
@[irreducible] def zoa:=wv Tryz.f82 {} 0 []
@[irreducible] def zob:=wv Tryz.f82 {} 1 []
def zvh:=wl Tryz.f82 {} [zoa,zob]
def zJT:=af Tryz.prog true Tryz.f82 zvh
def znY:zJ:=
 (.seq (.seq (.ops [] [oM 42 4,oM 43 3,oP 44 (.bin .lss (.t 42) (.t 43))] [42,43])
 (.cond (.t 44) .skip (.exit 0 [1])))
 (.seq (.block 1 (.seq (.draw [] [oP 47 (.fad false 0 1 (.t 1)),oP 48 (.ld false 1 (.t 47)),oP 49 (.fad false 1 1 (.t 1)),oP 50 (.ld false 1 (.t 49)),oM 51 4,oP 52 (.bin .add (.t 50) (.t 51)),oM 53 3,oP 54 (.bin .rem (.t 52) (.t 53)),oP 55 (.iad 7 (.t 48) (.t 54)),oP 56 (.ld true 7 (.t 55)),oP 57 (.build [aI 0,aI 0,aI 0,aI 0,aI 0,aI 0,.d (.str [])] []),oP 58 (.eqs true 7 [(0,0),(1,0),(2,0),(3,0),(4,0),(5,0),(6,2)] (.t 56) (.t 57))] [[],[],[0,1],[0,1],[0,1,2,3],[0,1],[0,1,2,3,4,5],[0,1],[],[],[0,1,2,3,4,5,6,7,8,9],[]] [44,47,48,49,50,51,52,53,54,55,56,57])
 (.cond (.t 58) (.seq (.ops [] [oP 2 (.mv (kI 7))] [1,3,4,58])
 (.ret [2])) .skip)))
 (.ops [] [oM 45 4,oP 46 (.bin .add (.t 45) (kI 1)),oM 4 46] [45,46,58])))
def znZ:zJ:=
 (.seq (.seq (.ops [] [oM 61 6,oM 62 5,oP 63 (.len (.t 62)),oP 64 (.bin .lss (.t 61) (.t 63))] [61,62,63])
 (.cond (.t 64) .skip (.exit 2 [5])))
 (.seq (.block 3 (.seq (.ops [] [oM 67 5,oM 68 6,oP 69 (.iad 7 (.t 67) (.t 68)),oP 70 (.ld true 7 (.t 69)),oP 71 (.call 195 [] [.t 70]),oM 7 71] [64,67,68,69,70,71])
 (.seq (.ops [] [oM 72 7,oP 73 (.bin .neq (.t 72) (kI 0))] [72])
 (.cond (.t 73) (.seq (.ops [] [oM 74 7,oM 2 74] [5,6,7,73,74])
 (.ret [2])) .skip))))
 (.ops [] [oM 65 6,oP 66 (.bin .add (.t 65) (kI 1)),oM 6 66] [7,65,66,73])))
def zn0:zJ:=
 (.seq (.seq (.ops [] [oM 75 8,oM 76 5,oP 77 (.len (.t 76)),oP 78 (.bin .lss (.t 75) (.t 77))] [75,76,77])
 (.cond (.t 78) .skip (.exit 4 [])))
 (.seq (.block 5 (.seq (.ops [] [oM 81 5,oM 82 5,oM 83 8,oP 84 (.iad 7 (.t 82) (.t 83)),oP 85 (.fad false 0 1 (.t 84)),oP 86 (.ld false 1 (.t 85)),oP 87 (.call 130 [] [.t 81,.t 86]),oM 88 8,oP 89 (.bin .neq (.t 87) (.t 88))] [78,81,82,83,84,85,86,87,88])
 (.cond (.t 89) (.seq (.ops [] [oP 2 (.mv (kI 10))] [5,8,89])
 (.ret [2])) .skip)))
 (.ops [] [oM 79 8,oP 80 (.bin .add (.t 79) (kI 1)),oM 8 80] [79,80,89])))
def zuD:zJ:=
 (.seq (.ops [] [oP 1 (.box (.t 0)),oP 2 (.mv (kI 0))] [0,2])
 (.seq (.ops [] [oP 9 (.fad false 0 1 (.t 1)),oP 10 (.ld false 1 (.t 9)),oP 11 (.len (.t 10)),oM 3 11] [9,10,11])
 (.seq (.seq (.ops [] [oM 12 3,oP 13 (.bin .lss (.t 12) (kI 1)),oM 14 13,oQ 15 (.mv (.t 3)) 14 false,oQ 16 (.bin .gtr (.t 15) (kI 12)) 14 false,oP 17 (.pick (.t 14) (.c (.d (.bool true))) (.t 16)),oM 18 17,oQ 19 (.fad false 1 1 (.t 1)) 18 false,oQ 20 (.ld false 1 (.t 19)) 18 false,oQ 21 (.bin .lss (.t 20) (kI 0)) 18 false,oP 22 (.pick (.t 18) (.c (.d (.bool true))) (.t 21)),oM 23 22,oQ 24 (.fad false 1 1 (.t 1)) 23 false,oQ 25 (.ld false 1 (.t 24)) 23 false,oQ 26 (.mv (.t 3)) 23 false,oQ 27 (.bin .geq (.t 25) (.t 26)) 23 false,oP 28 (.pick (.t 23) (.c (.d (.bool true))) (.t 27)),oM 29 28,oQ 30 (.fad false 2 1 (.t 1)) 29 false,oQ 31 (.ld false 1 (.t 30)) 29 false,oQ 32 (.bin .lss (.t 31) (kI 0)) 29 false,oP 33 (.pick (.t 29) (.c (.d (.bool true))) (.t 32)),oM 34 33,oQ 35 (.fad false 2 1 (.t 1)) 34 false,oQ 36 (.ld false 1 (.t 35)) 34 false,oQ 37 (.mv (.t 3)) 34 false,oQ 38 (.bin .gtr (.t 36) (.t 37)) 34 false,oP 39 (.pick (.t 34) (.c (.d (.bool true))) (.t 38))] [12,13,14,15,16,17,18,19,20,21,22,23,24,25,26,27,28,29,30,31,32,33,34,35,36,37,38])
 (.cond (.t 39) (.seq (.ops [] [oP 2 (.mv (kI 1))] [1,3,39])
 (.ret [2])) .skip))
 (.seq (.seq (.ops [] [oP 40 (.fad false 2 1 (.t 1)),oP 41 (.ld false 1 (.t 40)),oM 4 41] [39,40,41])
 (.block 0 (.loop [] znY)))
 (.seq (.ops [] [oP 59 (.ld true 3 (.t 1)),oP 60 (.call 147 [] [.t 59]),oM 5 60] [1,3,4,44,59,60])
 (.seq (.seq (.ops [] [oP 6 (.mv (kI 0))] [])
 (.block 2 (.loop [] znZ)))
 (.seq (.seq (.ops [] [oP 8 (.mv (kI 0))] [6,64])
 (.block 4 (.loop [] zn0)))
 (.seq (.ops [] [oP 2 (.mv (kI 0))] [5,8,78])
 (.ret [2])))))))))
def zJf:=af Tryz.prog true Tryz.f127 zuD
def zzL:zap:={acc:=[3]}
@[irreducible] def zn1:=wv Tryz.f147 zzL 0 []
def zuE:=wl Tryz.f147 zzL [zn1]
def zJg:=af Tryz.prog false Tryz.f147 zuE
@[irreducible] def zrg:=wv Tryz.f128 {} 0 []
@[irreducible] def zn4:=wv Tryz.f128 {} 1 []
def zuS:=wl Tryz.f128 {} [zrg,zn4]
def zJu:=af Tryz.prog true Tryz.f128 zuS
@[irreducible] def zq8:=wv Tryz.f196 {} 0 []
@[irreducible] def zq9:=wv Tryz.f196 {} 1 []
@[irreducible] def zra:=wv Tryz.f196 {} 2 []
def zpS:=wl Tryz.f196 {} [zq8,zq9,zra]
def zy8:=af Tryz.prog true Tryz.f196 zpS
def zuK:=wl Tryz.f261 {} []
def zJm:=af Tryz.prog true Tryz.f261 zuK
@[irreducible] def zrb:=wv Tryz.f262 {} 0 []
def zpT:=wl Tryz.f262 {} [zrb]
def zza:=af Tryz.prog true Tryz.f262 zpT
def zuI:=wl Tryz.f263 {} []
def zJk:=af Tryz.prog true Tryz.f263 zuI
@[irreducible] def zrh:=wv Tryz.f197 {} 0 []
def zuT:=wl Tryz.f197 {} [zrh]
def zJv:=af Tryz.prog true Tryz.f197 zuT
def zuW:=wl Tryz.f129 {} []
def zJy:=af Tryz.prog true Tryz.f129 zuW
def zvc:=wl Tryz.f50 {} []
def zJO:=af Tryz.prog true Tryz.f50 zvc
def zuy:=wl Tryz.f98 {} []
def zJa:=af Tryz.prog true Tryz.f98 zuy
def zzR:zap:={acc:=[3]}
@[irreducible] def zn8:=wv Tryz.f51 zzR 0 []
def zu6:=wl Tryz.f51 zzR [zn8]
def zJI:=af Tryz.prog true Tryz.f51 zu6
def zwk:=wl Tryz.f282 {obj:=[(14,[false,false,true]),(17,[false,true])]} []
def zKW:=af Tryz.prog true Tryz.f282 zwk
def zwd:=wl Tryz.f307 {obj:=[(9,[false,true]),(19,[false,false,true])]} []
def zKP:=af Tryz.prog true Tryz.f307 zwd
def zv2:=wl Tryz.f322 {} []
def zKE:=af Tryz.prog true Tryz.f322 zv2
def zwb:=wl Tryz.f298 {obj:=[(15,[false,true]),(28,[false,false,true]),(42,[false,false,false,true]),(60,[false,false,true])]} []
def zKN:=af Tryz.prog true Tryz.f298 zwb
def zhK:=wl Tryz.f316 {ghost:=[(21,[144]),(28,[144])]} []
def zzd:=af Tryz.prog true Tryz.f316 zhK
def zvM:=wl Tryz.f317 {} []
def zKo:=af Tryz.prog true Tryz.f317 zvM
def zwj:=wl Tryz.f299 {obj:=[(59,[false,false,false,false,true]),(79,[false,true])]} []
def zKV:=af Tryz.prog true Tryz.f299 zwj
@[irreducible] def zrq:=wv Tryz.f318 {} 0 []
def zv9:=wl Tryz.f318 {} [zrq]
def zKL:=af Tryz.prog true Tryz.f318 zv9
def zvH:=wl Tryz.f319 {} []
def zKj:=af Tryz.prog true Tryz.f319 zvH
@[irreducible] def zn5:=wv Tryz.f12 {} 0 []
@[irreducible] def zn6:=wv Tryz.f12 {} 1 []
def zu0:=wl Tryz.f12 {} [zn5,zn6]
def zJC:=af Tryz.prog true Tryz.f12 zu0
def zu7:=wl Tryz.f47 {} []
def zJJ:=af Tryz.prog true Tryz.f47 zu7
def zvi:=wl Tryz.f48 {} []
def zJU:=af Tryz.prog true Tryz.f48 zvi
def zvl:=wl Tryz.f49 {} []
def zJX:=af Tryz.prog true Tryz.f49 zvl
def zuq:=wl Tryz.f52 {} []
def zI2:=af Tryz.prog true Tryz.f52 zuq
def zuu:=wl Tryz.f53 {} []
def zI6:=af Tryz.prog true Tryz.f53 zuu
def zwC:=wl Tryz.f157 {obj:=[(19,[false,true]),(28,[false,false,true]),(30,[false,false,true]),(55,[false,false,true]),(65,[false,false,true]),(100,[false,false,true]),(118,[false,false,true])]} []
def zLe:=af Tryz.prog true Tryz.f157 zwC
def zwa:=wl Tryz.f209 {} []
def zKM:=af Tryz.prog false Tryz.f209 zwa
def zva:=wl Tryz.f167 {} []
def zJM:=af Tryz.prog true Tryz.f167 zva
def zws:=wl Tryz.f174 {obj:=[(9,[false,false,true])]} []
def zK4:=af Tryz.prog true Tryz.f174 zws
def zqN:zap:={obj:=[(79,[false,false,true]),(86,[false,false,true]),(90,[false,false,true])]}
@[irreducible] def zol:=wv Tryz.f235 zqN 0 []
@[irreducible] def zom:=wv Tryz.f235 zqN 1 [zol]
def zv6:=wl Tryz.f235 zqN [zol,zom]
def zKI:=af Tryz.prog true Tryz.f235 zv6
def zwA:=wl Tryz.f210 {} []
def zLc:=af Tryz.prog false Tryz.f210 zwA
def zve:=wl Tryz.f211 {} []
def zJQ:=af Tryz.prog true Tryz.f211 zve
end Go.Proofs.YtjalkkalhdnplaaGreat
