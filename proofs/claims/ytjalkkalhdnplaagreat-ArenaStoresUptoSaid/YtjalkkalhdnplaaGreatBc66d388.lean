/-
  Functions of the program, as the calculus has them.
-/
import Derived.Test.YtjalkkalhdnplaaGreatBfb71083
import Derived.KernelRfl
import Derived.Test.YtjalkkalhdnplaaGreatProg
set_option linter.unusedSimpArgs false
set_option linter.unusedVariables false
set_option maxHeartbeats 10000000
set_option maxRecDepth 100000
namespace Go.Sim
open Go (World Value Addr TypeId Act)
variable {P:Program}
open Classical in
noncomputable def lim{α:Type}(x:Nat->Option α):Option α:=if h:∃n,(x n).isSome=true then x (Classical.choose h) else none
def zK{α:Type}(x:Nat->Option α):Prop:=∀n m a,n<=m->x n=some a->x m=some a
theorem zK.of_succ{α:Type}{x:Nat->Option α}(h:∀n a,x n=some a->x (n+1)=some a):zK x:=by
 intro n m a hnm hx
 induction hnm with
 | refl=>exact hx
 | step _ ih=>exact h _ _ ih
theorem zdq{α:Type}{x:Nat->Option α}(h:zK x){a:α}:lim x=some a↔∃n,x n=some a:=by
 unfold lim;constructor
 ·intro hl
  split at hl
  ·exact⟨_,hl⟩
  ·cases hl
 ·rintro⟨n,hn⟩;have hex:∃n,(x n).isSome=true:=⟨n,by rw[hn];rfl⟩;rw[dif_pos hex];have hs:=zZQ hex;obtain⟨b,hb⟩:=z0x.1 hs;have h1:=h _ (max n (Classical.choose hex)) a (z1H ..) hn;have h2:=h _ (max n (Classical.choose hex)) b (z1I ..) hb;rw[h1] at h2;cases h2;exact hb
theorem zkp{α:Type}{x y:Option α}(h:∀a,x=some a↔y=some a):x=y:=by
 cases x with
 | some a=>exact ((h a).1 rfl).symm
 | none=>
  cases y with
  | none=>rfl
  | some a=>exact absurd ((h a).2 rfl) (by simp)
theorem zbZ{α:Type}(x:Option α):lim (fun _=>x)=x:=
 zkp fun a=>(zdq (x:=fun _=>x) (fun _ _ _ _ h=>h)).trans ⟨fun⟨_,h⟩=>h,fun h=>⟨0,h⟩⟩
theorem zK.bind{α β:Type}{x:Nat->Option α}{g:Nat->α->Option β}(hx:zK x)(hg:∀a,zK fun n=>g n a):zK fun n=>(x n).bind (g n):=by
 intro n m b hnm h;obtain⟨a,h1,h2⟩:=zYR.1 h;exact zYR.2 ⟨a,hx n m a hnm h1,hg a n m b hnm h2⟩
theorem zfm{α β:Type}{x:Nat->Option α}{g:Nat->α->Option β}(hx:zK x)(hg:∀a,zK fun n=>g n a):lim (fun n=>(x n).bind (g n))=(lim x).bind fun a=>lim fun n=>g n a:=by
 refine zkp fun b=> ?_;rw[zdq (hx.bind hg)];constructor
 ·rintro⟨n,h⟩;obtain⟨a,h1,h2⟩:=zYR.1 h;exact zYR.2 ⟨a,(zdq hx).2 ⟨n,h1⟩,(zdq (hg a)).2 ⟨n,h2⟩⟩
 ·intro h;obtain⟨a,h1,h2⟩:=zYR.1 h;obtain⟨n,h3⟩:=(zdq hx).1 h1;obtain⟨m,h4⟩:=(zdq (hg a)).1 h2;exact⟨max n m,zYR.2 ⟨a,hx _ _ _ (z1H ..) h3,hg a _ _ _ (z1I ..) h4⟩⟩
theorem zK.map{α β:Type}{x:Nat->Option α}{g:α->β}(hx:zK x):zK fun n=>(x n).map g:=by
 intro n m b hnm h;obtain⟨a,h1,rfl⟩:=zYT.1 h;exact zYT.2 ⟨a,hx n m a hnm h1,rfl⟩
theorem ziO{α β:Type}{x:Nat->Option α}{g:α->β}(hx:zK x):lim (fun n=>(x n).map g)=(lim x).map g:=by
 refine zkp fun b=> ?_;rw[zdq hx.map];constructor
 ·rintro⟨n,h⟩;obtain⟨a,h1,rfl⟩:=zYT.1 h;exact zYT.2 ⟨a,(zdq hx).2 ⟨n,h1⟩,rfl⟩
 ·intro h;obtain⟨a,h1,rfl⟩:=zYT.1 h;obtain⟨n,h2⟩:=(zdq hx).1 h1;exact⟨n,zYT.2 ⟨a,h2,rfl⟩⟩
theorem zK.const{α:Type}{x:Option α}:zK fun _=>x:=fun _ _ _ _ h=>h
theorem zK.ite{α:Type}{c:Prop}[Decidable c]{x y:Nat->Option α}(hx:zK x)(hy:zK y):zK fun n=>if c then x n else y n:=by
 by_cases h:c
 ·simpa [h] using hx
 ·simpa [h] using hy
variable (G:FuncId->Option AFn)
noncomputable def zd:zaO:=fun f args os=>lim fun n=>zaQ G n f args os
noncomputable def exL(c:zw)(S:St):Option (zR×St):=lim fun n=>zb3 (zaQ G n) n c S
noncomputable def zP(ks:List Nat)(c:zw)(S:St):Option (zR×St):=lim fun n=>zet ks (zb3 (zaQ G n) n c) n S
variable {G}
section mono
variable {F F':Nat->zaO} (hF:∀f args os,zK fun n=>F n f args os)
include hF
theorem zys{E:Env}{H:zf}{dst:Nat}{ns dob:List Nat}{f:FuncId}{zYO:List AV}:(zK fun n=>zfM (F n) E H dst ns dob f zYO):=by
 unfold zfM;exact zK.ite ((hF f _ _).bind (fun _=>zK.const)) zK.const
theorem zqw{E:Env}{H:zf}{dst:Nat}{ms:List Bool}{f:FuncId}{args:List AV}:zK fun n=>zcz (F n) E H dst ms f args:=
 zK.bind zK.const fun _=>zys hF
theorem zAN{E:Env}{H:zf}{dst:Nat}{ms:List Bool}{f:FuncId}{dob:List Nat}{zYO:List AV}:zK fun n=>zgp (F n) E H dst ms f dob zYO:=by
 unfold zgp;exact zK.ite (zK.map (zqw hF)) zK.const
theorem znd{E:Env}{H:zf}{dst:Nat}{ms:List Bool}{f:FuncId}{args:List AV}:zK fun n=>zbh (F n) E H dst ms f args:=by
 unfold zbh;exact zK.ite (zK.bind zK.const fun _=>zAN hF) (zqw hF)
theorem zyx{E:Env}{H:zf}{dst:Nat}{ms:List Bool}{f:AV}{args:List AV}:zK fun n=>zgj (F n) E H dst ms f args:=by
 unfold zgj
 split
 ·exact znd hF
 ·exact znd hF
 ·exact zK.const
theorem zD4{E:Env}{H:zf}{dst:Nat}{op:AOp}:zK fun n=>step (F n) E H dst op:=by
 cases op with
 | call f ms xs=>exact (znd hF).map
 | callv f ms xs=>exact (zyx hF).map
 | _=>exact zK.const
theorem zpn{x:zC}{S:St}:zK fun n=>zdB (F n) x S:=(zD4 hF).map
theorem znA:∀ {l:List zC} {S:St},zK fun n=>zbt (F n) l S:=by
 intro l
 induction l with
 | nil=>intro S;exact zK.const
 | cons o l ih=>
  intro S;simp only[zbt]
  split
  ·exact (zpn hF).bind (fun _=>ih)
  ·split
   ·exact zK.ite ((zpn hF).bind (fun _=>ih)) ih
   ·exact ih
   ·exact zK.const
theorem zqK{x:zC}{fr:List (List Nat)}{acc:List (List Nat×List Nat)}{S:St}:zK fun n=>zdo (F n) x fr acc S:=by
 unfold zdo;exact zK.ite (zpn hF) zK.const
theorem znz:∀ {l:List zC} {fr:List (List Nat)} {acc:List (List Nat×List Nat)} {S:St},zK fun n=>zby (F n) l fr acc S:=by
 intro l
 induction l with
 | nil=>intro fr acc S;exact zK.const
 | cons o l ih=>
  intro fr acc S;simp only[zby]
  split
  ·exact (zqK hF).bind (fun _=>ih)
  ·split
   ·exact zK.ite ((zqK hF).bind (fun _=>ih)) (zK.bind zK.const (fun _=>ih))
   ·exact zK.bind zK.const (fun _=>ih)
   ·exact zK.const
theorem zqJ{l:List zC}{fr:List (List Nat)}{S:St}:zK fun n=>zfS (F n) l fr S:=by
 unfold zfS;exact zK.ite (znz hF) zK.const
omit hF in
theorem zDM{g:Nat->St->Option (zR×St)}(hg:∀S,zK fun n=>g n S){p:zR×St}:zK fun n=>zhg (g n) p:=by
 unfold zhg
 split
 ·exact hg _
 ·exact zK.const
 ·exact zK.const
omit hF in
theorem zso{g:Nat->St->Option (zR×St)}(hg:∀S,zK fun n=>g n S){ks:List Nat}{p:zR×St}:zK fun n=>zcP ks (g n) p:=by
 unfold zcP
 split
 ·exact hg _
 ·exact zK.const
 ·exact zK.const
omit hF in
theorem zCl{b:Nat->St->Option (zR×St)}(hb:∀S,zK fun n=>b n S):∀ {ks:List Nat} {k:Nat} {S:St},zK fun n=>zet ks (b n) k S:=by
 intro ks k
 induction k with
 | zero=>intro S;exact zK.const
 | succ k ih=>intro S;exact (hb S).bind fun p=>zso fun _=>ih
omit hF in
theorem zCm{ks:List Nat}{b:St->Option (zR×St)}:∀ {S:St},zK fun k=>zet ks b k S:=by
 intro S;refine zK.of_succ fun k=> ?_
 induction k generalizing S with
 | zero=>intro a h;cases h
 | succ k ih=>
  intro a h;simp only[zet] at h ⊢;obtain⟨p,h1,h2⟩:=zYR.1 h;refine zYR.2 ⟨p,h1,?_⟩;unfold zcP at h2 ⊢
  split at h2
  ·exact ih _ h2
  ·exact h2
  ·exact h2
omit hF in
theorem zCk{b:Nat->St->Option (zR×St)}(hb:∀S,zK fun n=>b n S){ks:List Nat}{S:St}:zK fun n=>zet ks (b n) n S:=fun n m a hnm h=>
 zCl hb n m a hnm (zCm n m a hnm h)
theorem zfV:∀ {c:zw} {S:St},zK fun n=>zb3 (F n) n c S:=by
 intro c
 induction c with
 | skip=>intro S;exact zK.const
 | exit i ks=>intro S;exact zK.const
 | ret ks=>intro S;exact zK.const
 | ops gs l ks=>intro S;exact (zK.bind zK.const fun _=>znA hF).map
 | draw gs l fr ks=>intro S;exact (zK.bind zK.const fun _=>zqJ hF).map
 | seq x y ih1 ih2=>intro S;exact ih1.bind fun p=>zDM fun S=>ih2
 | cond c x y ih1 ih2=>
  intro S;simp only[zb3,zhy]
  split
  ·exact zK.ite ih1 ih2
  ·exact zK.const
 | block id x ih=>intro S;exact ih.map
 | loop ks x ih=>intro S;exact zCk fun S=>ih
end mono
theorem zbw(f:FuncId)(args:List AV)(os:zf):zK fun n=>zaQ G n f args os:=by
 refine zK.of_succ fun n=> ?_
 induction n generalizing f args os with
 | zero=>intro a h;cases h
 | succ n ih=>
  -- two steps: more fuel for the calls, more rounds
  have code:∀(c:zw) (rs:List za6) (nt:Nat) (sl:Bool) (args:List AV) (os:zf) (a:AV×zf),zeh (zaQ G n) n args os c rs nt sl=some a->zeh (zaQ G (n+1)) (n+1) args os c rs nt sl=some a:=by
   intro c rs nt sl args os a h2;simp only[zeh] at h2 ⊢
   split at h2
   ·rename_i hc;rw[zYQ hc];obtain⟨p,h3,h4⟩:=zYR.1 h2;refine zYR.2 ⟨p,?_,h4⟩
    let Fs:Nat->zaO:=fun k=>if k<=n then zaQ G n else zaQ G (n+1)
    have hFs:∀f args os,zK fun k=>Fs k f args os:=fun f args os=>zK.of_succ fun k a h=>by
     simp only[Fs] at h ⊢
     split at h
     ·split
      ·exact h
      ·exact ih f args os a h
     ·rename_i hk;rw[zYP (by omega)];exact h
    have:=zfV (F:=Fs) hFs (c:=c) (S:=⟨enter args++zc5 os,os⟩) n (n+1) p (by omega);simp only[Fs,zZk,if_true] at this;rw[zYP (by omega)] at this;exact this h3
   ·cases h2
  intro a h;have h:(G f).bind (fnF (zaQ G n) n args os)=some a:=h;show (G f).bind (fnF (zaQ G (n+1)) (n+1) args os)=some a;obtain⟨fn,h1,h2⟩:=zYR.1 h;refine zYR.2 ⟨fn,h1,?_⟩
  cases fn with
  | ext g=>exact h2
  | code c rs nt sl=>exact code c rs nt sl args os a h2
  | nils c rs nt=>
   have new0:∀ {x:Option (AV×zf)},zjW x=true->x=some (.acc 0 [],[(0,.acc 0)]):=fun {x} hx=>by
    unfold zjW at hx
    split at hx
    ·rfl
    ·cases hx
   show ziX (zaQ G (n+1)) (n+1) args os c rs nt=some a;have h2:ziX (zaQ G n) n args os c rs nt=some a:=h2;unfold ziX at h2 ⊢
   split at h2
   ·rename_i he;rw[zYQ he]
    split at h2
    ·rename_i hn;simp only[zY6] at hn;rw[code _ _ _ _ _ _ _ (new0 hn.1),code _ _ _ _ _ _ _ (new0 hn.2)];exact h2
    ·cases h2
   ·rename_i he;rw[zYP he];exact code _ _ _ _ _ _ _ h2
theorem znf{f:FuncId}{args:List AV}{os:zf}{p:AV×zf}:zd G f args os=some p↔∃n,zaQ G n f args os=some p:=zdq (zbw f args os)
theorem zB6{E:Env}{H:zf}{dst:Nat}{ms:List Bool}{f:FuncId}{args:List AV}:lim (fun n=>zcz (zaQ G n) E H dst ms f args)=zcz (zd G) E H dst ms f args:=by
 unfold zcz;rw[zfm zK.const fun _=>zys zbw,zbZ]
 congr 1;funext zYO
 unfold zfM
 split
 ·rw[zfm (g:=fun _=>zeg E H dst (zbD H ms args) (zaA ms args)) (zbw _ _ _) fun _=>zK.const]
  congr 1;funext p
  exact zbZ _
 ·exact zbZ _
theorem zsk{E:Env}{H:zf}{dst:Nat}{ms:List Bool}{f:FuncId}{args:List AV}:lim (fun n=>zbh (zaQ G n) E H dst ms f args)=zbh (zd G) E H dst ms f args:=by
 unfold zbh
 split
 ·rw[zfm zK.const fun _=>zAN zbw,zbZ]
  congr 1;funext zYO
  unfold zgp
  split
  ·rw[ziO (zqw zbw),zB6]
  ·exact zbZ _
 ·exact zB6
theorem zQz{E:Env}{H:zf}{dst:Nat}{op:AOp}:lim (fun n=>step (zaQ G n) E H dst op)=step (zd G) E H dst op:=by
 cases op with
 | call f ms xs=>exact (ziO (znd zbw)).trans (congrArg _ zsk)
 | callv f ms xs=>
  refine (ziO (zyx zbw)).trans (congrArg _ ?_);unfold zgj
  split
  ·exact zsk
  ·exact zsk
  ·exact zbZ _
 | _=>exact zbZ _
theorem zB8{x:zC}{S:St}:lim (fun n=>zdB (zaQ G n) x S)=zdB (zd G) x S:=(ziO (zD4 zbw)).trans (congrArg _ zQz)
theorem zQy:∀ {l:List zC} {S:St},lim (fun n=>zbt (zaQ G n) l S)=zbt (zd G) l S:=by
 intro l
 induction l with
 | nil=>intro S;exact zbZ _
 | cons o l ih=>
  intro S;have key:lim (fun n=>(zdB (zaQ G n) o S).bind (zbt (zaQ G n) l))=(zdB (zd G) o S).bind (zbt (zd G) l):=by
   rw[zfm (zpn zbw) fun _=>znA zbw,zB8]
   congr 1;funext p;exact ih
  simp only[zbt]
  split
  ·exact key
  ·split
   ·split
    ·exact key
    ·exact ih
   ·exact ih
   ·exact zbZ _
theorem zQv{x:zC}{fr:List (List Nat)}{acc:List (List Nat×List Nat)}{S:St}:lim (fun n=>zdo (zaQ G n) x fr acc S)=zdo (zd G) x fr acc S:=by
 unfold zdo
 split
 ·exact zB8
 ·exact zbZ _
theorem zQx:∀ {l:List zC} {fr:List (List Nat)} {acc:List (List Nat×List Nat)} {S:St},lim (fun n=>zby (zaQ G n) l fr acc S)=zby (zd G) l fr acc S:=by
 intro l
 induction l with
 | nil=>intro fr acc S;exact zbZ _
 | cons o l ih=>
  intro fr acc S;have key:lim (fun n=>(zdo (zaQ G n) o fr acc S).bind (zby (zaQ G n) l fr.tail (acc++[feet o S])))=(zdo (zd G) o fr acc S).bind (zby (zd G) l fr.tail (acc++[feet o S])):=by
   rw[zfm (zqK zbw) fun _=>znz zbw,zQv]
   congr 1;funext p;exact ih
  simp only[zby]
  split
  ·exact key
  ·split
   ·split
    ·exact key
    ·rw[zfm zK.const fun _=>znz zbw,zbZ]
     congr 1;funext p;exact ih
   ·rw[zfm zK.const fun _=>znz zbw,zbZ]
    congr 1;funext p;exact ih
   ·exact zbZ _
theorem zQu{l:List zC}{fr:List (List Nat)}{S:St}:lim (fun n=>zfS (zaQ G n) l fr S)=zfS (zd G) l fr S:=by
 unfold zfS
 split
 ·exact zQx
 ·exact zbZ _
theorem zJd{S:St}:exL G .skip S=some (.normal,S):=zbZ _
theorem zJa{i:Nat}{ks:List Nat}{S:St}:exL G (.exit i ks) S=some (.exit i,endS ks S):=zbZ _
theorem zJc{ks:List Nat}{S:St}:exL G (.ret ks) S=some (.ret,endS ks S):=zbZ _
theorem zJb{gs:List Nat}{l:List zC}{ks:List Nat}{S:St}:exL G (.ops gs l ks) S=((zfh gs S).bind (zbt (zd G) l)).map (ziL ks):=by
 refine (ziO (zK.bind zK.const fun _=>znA zbw)).trans (congrArg _ ?_);rw[zfm zK.const fun _=>znA zbw,zbZ]
 congr 1;funext p;exact zQy
theorem zI9{gs:List Nat}{l:List zC}{fr:List (List Nat)}{ks:List Nat}{S:St}:exL G (.draw gs l fr ks) S=((zfh gs S).bind (zfS (zd G) l fr)).map (ziL ks):=by
 refine (ziO (zK.bind zK.const fun _=>zqJ zbw)).trans (congrArg _ ?_);rw[zfm zK.const fun _=>zqJ zbw,zbZ]
 congr 1;funext p;exact zQu
theorem zqV{x y:zw}{S:St}:exL G (.seq x y) S=(exL G x S).bind (zhg (exL G y)):=by
 refine (zfm (zfV zbw) fun p=>zDM fun S=>zfV zbw).trans ?_
 congr 1;funext p
 unfold zhg
 split
 ·rfl
 ·exact zbZ _
 ·exact zbZ _
theorem zI8{c:Opd}{x y:zw}{S:St}:exL G (.cond c x y) S=zhy (c.ev S.env) (exL G x S) (exL G y S):=by
 show lim (fun n=>zhy (c.ev S.env) (zb3 (zaQ G n) n x S) (zb3 (zaQ G n) n y S))=_;unfold zhy
 split
 ·split
  ·rfl
  ·rfl
 ·exact zbZ _
theorem zzA{id:Nat}{x:zw}{S:St}:exL G (.block id x) S=(exL G x S).map (zik id):=ziO (zfV zbw)
theorem zaC{ks:List Nat}{x:zw}{S:St}:zP G ks x S=(exL G x S).bind (zcP ks (zP G ks x)):=by
 have hm:∀S,zK fun n=>zet ks (zb3 (zaQ G n) n x) n S:=fun S=>zCk fun S=>zfV zbw;have e1:(exL G x S).bind (zcP ks (zP G ks x))=lim fun n=>(zb3 (zaQ G n) n x S).bind (zcP ks (zet ks (zb3 (zaQ G n) n x) n)):=by
  rw[zfm (zfV zbw) fun p=>zso hm]
  congr 1;funext p
  unfold zcP
  split
  ·rfl
  ·exact (zbZ _).symm
  ·exact (zbZ _).symm
 rw[e1];refine zkp fun a=> ?_;rw[zP,zdq (hm S),zdq ((zfV zbw).bind fun p=>zso hm)];constructor
 ·rintro⟨n,h⟩
  cases n with
  | zero=>cases h
  | succ n=>
   simp only[zet] at h;obtain⟨p,h1,h2⟩:=zYR.1 h;refine⟨n+1,zYR.2 ⟨p,h1,?_⟩⟩;unfold zcP at h2 ⊢
   split at h2
   ·exact zCm n (n+1) a (by omega) h2
   ·exact h2
   ·exact h2
 ·rintro⟨n,h⟩;obtain⟨p,h1,h2⟩:=zYR.1 h;refine⟨n+1,?_⟩;simp only[zet];refine zYR.2 ⟨p,zfV zbw n (n+1) p (by omega) h1,?_⟩;unfold zcP at h2 ⊢
  split at h2
  ·exact zCl (fun S=>zfV zbw) n (n+1) a (by omega) h2
  ·exact h2
  ·exact h2
theorem zoF{c:zw}{rs:List za6}{nt:Nat}{sl:Bool}{args:List AV}{os:zf}(hl:args.length<=nt):(zK fun n=>zeh (zaQ G n) n args os c rs nt sl)/\lim (fun n=>zeh (zaQ G n) n args os c rs nt sl)=(exL G c ⟨enter args++zc5 os,os⟩).bind (zff sl rs os):=by
 have e:(fun n=>zeh (zaQ G n) n args os c rs nt sl)=fun n=>(zb3 (zaQ G n) n c ⟨enter args++zc5 os,os⟩).bind (zff sl rs os):=by
  funext n;simp only[zeh];rw[zYQ hl]
 rw[e];refine⟨zK.bind (g:=fun _ p=>zff sl rs os p) (zfV zbw) fun p=>zK.const,?_⟩;rw[zfm (g:=fun _ p=>zff sl rs os p) (zfV zbw) fun p=>zK.const];show (exL G c ⟨enter args++zc5 os,os⟩).bind _=_
 congr 1;funext p;exact zbZ _
theorem zB7{α:Type}{x y:Nat->Option α}(hx:zK x)(hy:zK y)(h0:x 0=none)(h:∀n,x (n+1)=y n):lim x=lim y:=by
 refine zkp fun a=> ?_;rw[zdq hx,zdq hy];constructor
 ·rintro⟨n,h1⟩
  cases n with
  | zero=>rw[h0] at h1;cases h1
  | succ n=>exact⟨n,by rw[<- h];exact h1⟩
 ·rintro⟨n,h1⟩;exact⟨n+1,by rw[h];exact h1⟩
theorem zB{f:FuncId}{c:zw}{rs:List za6}{nt:Nat}{sl:Bool}(h:G f=some (.code c rs nt sl)){args:List AV}{os:zf}(hl:args.length<=nt):zd G f args os=(exL G c ⟨enter args++zc5 os,os⟩).bind (zff sl rs os):=by
 obtain⟨h1,h2⟩:=zoF (G:=G) (c:=c) (rs:=rs) (os:=os) (sl:=sl) hl;rw[<- h2];exact zB7 (zbw f args os) h1 rfl fun n=>by simp only[zaQ,h,zZn,fnF]
theorem zyu{f:FuncId}{c:zw}{rs:List za6}{nt:Nat}(h:G f=some (.nils c rs nt)){es:List D}(h0:es≠[])(hl:1<=nt):zd G f [.d (.sl es)] []=(exL G c ⟨enter [.d (.sl es)],[]⟩).bind (zff false rs []):=by
 obtain⟨h1,h2⟩:=zoF (G:=G) (c:=c) (rs:=rs) (sl:=false) (os:=[]) (args:=[.d (.sl es)]) hl;rw[show enter [.d (.sl es)]=enter [AV.d (.sl es)]++zc5 [] by simp [zc5], <- h2];refine zB7 (zbw f _ []) h1 rfl fun n=> ?_;simp only[zaQ,h,zZn,fnF,ziX];rw[zYP];intro hc;simp only[zY6] at hc;unfold znW at hc
 split at hc
 ·rename_i e;cases e;exact h0 rfl
 ·exact absurd hc.1 (by simp)
theorem zyv {f:FuncId} {c:zw} {rs:List za6} {nt:Nat} (h:G f=some (.nils c rs nt)) (hl:1<=nt) (h1:(exL G c ⟨enter [.nl true],[]⟩).bind (zff false rs [])=some (.acc 0 [],[(0,.acc 0)]))
    (h2:(exL G c ⟨enter [.nl false],[]⟩).bind (zff false rs [])=some (.acc 0 [],[(0,.acc 0)])):zd G f [.d (.sl [])] []=some (.acc 0 [],[(0,.acc 0)]):=by
 obtain⟨k1,k2⟩:=zoF (G:=G) (c:=c) (rs:=rs) (sl:=false) (os:=[]) (args:=[.nl true]) hl;obtain⟨k3,k4⟩:=zoF (G:=G) (c:=c) (rs:=rs) (sl:=false) (os:=[]) (args:=[.nl false]) hl;rw[show enter [.nl true]++zc5 []=enter [AV.nl true] by simp [zc5],h1] at k2;rw[show enter [.nl false]++zc5 []=enter [AV.nl false] by simp [zc5],h2] at k4;obtain⟨n,hn⟩:=(zdq k1).1 k2;obtain⟨m,hm⟩:=(zdq k3).1 k4;refine znf.2 ⟨max n m+1,?_⟩;simp only[zaQ,h,zZn,fnF,ziX,znW,List.isEmpty_nil,zZX,if_true];rw[show zeh (zaQ G (max n m)) (max n m) [.nl true] [] c rs nt false=_ from k1 n _ _ (z1H ..) hn,show zeh (zaQ G (max n m)) (max n m) [.nl false] [] c rs nt false=_ from k3 m _ _ (z1I ..) hm];rfl
theorem zGl{f:FuncId}{g:List AV->zf->Option (AV×zf)}(h:G f=some (.ext g)){args:List AV}{os:zf}:zd G f args os=g args os:=by
 refine zkp fun a=> ?_;rw[znf];constructor
 ·rintro⟨n,h1⟩
  cases n with
  | zero=>cases h1
  | succ n=>simpa [zaQ,h,fnF] using h1
 ·intro h1;exact⟨1,by simpa [zaQ,h,fnF] using h1⟩
theorem zyw(hG:GOK P G):FOK P (zd G):=by
 intro f args os r os' h h1 h2;obtain⟨n,hn⟩:=znf.1 h;exact zGi hG n f args os r os' hn h1 h2
theorem zaq {T:Type} {ks:List Nat} {x:zw} (μ:T->Nat) (inv:T->Prop) (st:T->St) (r:T->Option (zR×St))
    (h:∀t,inv t->∀L:St->Option (zR×St),(∀t',inv t'->μ t'<μ t->L (st t')=r t')->(exL G x (st t)).bind (zcP ks L)=r t):∀t,inv t->zP G ks x (st t)=r t:=by
 intro t;generalize hk:μ t=k
 induction k using Nat.strongRecOn generalizing t with
 | ind k ih=>
  intro hi;rw[zaC];exact h t hi _ fun t' hi' hlt=>ih (μ t') (by omega) t' rfl hi'
end Go.Sim

namespace Go.Sim
variable {F:zaO} {E:Env} {H:zf} {dst:Nat}
def zmJ(full:List Nat):List Nat->Bool
 | []=>true
 | x::l=>full.contains x&&zmJ full l
theorem ztu{full:List Nat}:∀ {l:List Nat},l.all full.contains=zmJ full l
 | []=>rfl
 | x::l=>by rw[zZ0,ztu];rfl
def zsI(full:List Nat):Option Obj->Bool
 | some (.row es)=>zmJ full (AV.objsL es)
 | _=>false
def okN(H:zf)(full:List Nat):List Nat->Bool
 | []=>true
 | o::l=>zsI full (look o H)&&okN H full l
theorem zR0{ns:List Nat}:zko H ns=okN H ns ns:=by
 have:∀full l:List Nat,(l.all fun o=>match look o H with|some (.row es)=>(AV.objsL es).all full.contains|_=>false)=okN H full l:=by
  intro full l
  induction l with
  | nil=>rfl
  | cons o l ih=>
   rw[zZ0,ih];simp only[okN]
   congr 1
   unfold zsI
   split<;>simp_all [ztu]
 exact this ns ns
def osN(H:zf)(full:List Nat):List Nat->zf
 | []=>[]
 | o::l=>(zaN full o,((look o H).getD (.acc 0)).ren (zaN full))::osN H full l
theorem zSD{ns:List Nat}:zb4 H ns=osN H ns ns:=by
 have:∀full l:List Nat,(l.map fun o=>(zaN full o,((look o H).getD (.acc 0)).ren (zaN full)))=osN H full l:=by
  intro full l
  induction l with
  | nil=>rfl
  | cons o l ih=>rw[zYU,ih];rfl
 exact this ns ns
theorem zOg{ns:List Nat}:zlu E H dst ns []=true:=rfl
theorem zOf{ns:List Nat}{n:Nat}{ob:Obj}{l:zf}:zlu E H dst ns ((n,ob)::l)=((decide (1000000<=n)||(!zaV (dst+10000 * n) E&& !zam (dst+10000 * n) H&& !ns.contains (dst+10000 * n)))&&zlu E H dst ns l):=rfl
def znG:zf->Bool
 | []=>true
 | (_,ob)::l=>ob.flat&&znG l
theorem zKd{v:AV}{δ:zf}:zjM (v,δ)=(v.flat&&znG δ):=by
 unfold zjM
 congr 1
 show (δ.all fun q=>q.2.flat)=znG δ
 induction δ with
 | nil=>rfl
 | cons p l ih=>rw[zZ0,ih];rfl
theorem zHI{b:List Nat}:zhB [] b=true:=rfl
theorem zHH{a:Nat}{l b:List Nat}:zhB (a::l) b=(!b.contains a&&zhB l b):=rfl
theorem zUm{ρ:Nat->Nat}:zdb ρ []=[]:=rfl
theorem zUl{ρ:Nat->Nat}{n:Nat}{ob:Obj}{l:zf}:zdb ρ ((n,ob)::l)=(ρ n,ob.ren ρ)::zdb ρ l:=rfl
theorem zOk:zbm H []=[]:=rfl
theorem zOj{o:Nat}{l:List Nat}:zbm H (o::l)=(o,.frz (mark H o))::zbm H l:=rfl
theorem zOm:zgq H []=true:=rfl
theorem zOl{o:Nat}{l:List Nat}:zgq H (o::l)=((look o H).isSome&&zgq H l):=rfl
theorem zRY:zkj []=[]:=rfl
theorem zRX{o:Nat}{l:List Nat}:zkj (o::l)=(2 * o+1)::zkj l:=rfl
theorem zI7:zjG []=[]:=rfl
theorem zI6{o:Nat}{l:List Nat}:zjG (o::l)=(2 * o)::zjG l:=rfl
theorem zHK{b:List Nat}:ziv [] b=true:=rfl
theorem zHJ{a:Nat}{l b:List Nat}:ziv (a::l) b=(!b.contains a&&ziv l b):=rfl
def zyC(p:List Nat×List Nat):Option (List Nat×List Nat)->Bool
 | some q=>ziH q p
 | none=>false
theorem zGA{acc:List (List Nat×List Nat)}{p:List Nat×List Nat}:zgR [] acc p=true:=rfl
theorem zGz{k:Nat}{fr:List Nat}{acc:List (List Nat×List Nat)}{p:List Nat×List Nat}:zgR (k::fr) acc p=(zyC p (acc[k]?)&&zgR fr acc p):=rfl
def znJ(E:Env)(H:zf):List Nat->Bool
 | []=>true
 | n::l=>(!zaV n E&& !zam n H)&&znJ E H l
theorem zOe{S:St}:zlt [] S=true:=rfl
theorem zOd{x:zC}{l:List zC}:zlt (x::l) ⟨E,H⟩=(znJ E H x.newNames&&zlt l ⟨E,H⟩):=by
 have:∀ns:List Nat,(ns.all fun n=> !zaV n E&& !zam n H)=znJ E H ns:=by
  intro ns
  induction ns with
  | nil=>rfl
  | cons n l ih=>rw[zZ0,ih];rfl
 rw[<- this];rfl
theorem zUO{o m:Nat}:zmx o m []=[]:=rfl
theorem zUN{o m t:Nat}{x:AV}{l:Env}:zmx o m ((t,x)::l)=(t,zgC o m x)::zmx o m l:=rfl
theorem zFf{o:Nat}{ds:List D}:zkY o ds []=[]:=rfl
theorem zFe{o t:Nat}{ds:List D}{x:AV}{l:Env}:zkY o ds ((t,x)::l)=(t,zgf o ds x)::zkY o ds l:=rfl
def znt:Nat->List AV->Env
 | _,[]=>[]
 | n,x::l=>(n,x)::znt (n+1) l
theorem zIO{args:List AV}:enter args=znt 0 args:=by
 have:∀(l:List AV) (n:Nat),((l.zipIdx n).map fun p=>(p.2,p.1))=znt n l:=by
  intro l
  induction l with
  | nil=>intro n;rfl
  | cons x l ih=>intro n;rw[List.zipIdx_cons,zYU,ih];rfl
 exact this args 0
theorem zOZ:zc5 []=[]:=rfl
theorem zOY{n:Nat}{ob:Obj}{l:zf}:zc5 ((n,ob)::l)=(n,.ref n 1 0)::zc5 l:=rfl
def zsJ(full:List Nat)(k o:Nat):Option Obj->Bool
 | some (.row es)=>zmJ full (AV.objsL es)&&(decide (o<1000000)||decide (o<1000000+k))
 | some (.acc _)=>decide (o<1000000)
 | some (.frz m)=>m.isNone&&decide (1000000<=o)&&(decide (o<1000000)||decide (o<1000000+k))
 | _=>false
def okO(H:zf)(full:List Nat)(k:Nat):List Nat->Bool
 | []=>true
 | o::l=>zsJ full k o (look o H)&&okO H full k l
theorem zR1{os:zf}{ns:List Nat}:ziY H os ns=(okO H ns os.length ns&&decide ((frs ns).length<=4)):=by
 have:∀full l:List Nat,(l.all fun o=>(match look o H with|some (.row es)=>(AV.objsL es).all full.contains|some (.acc _)=>decide (o<1000000)|some (.frz m)=>m.isNone&&decide (1000000<=o)|_=>false)&&(decide (o<1000000)||decide (o<1000000+os.length)))=okO H full os.length l:=by
  intro full l
  induction l with
  | nil=>rfl
  | cons o l ih=>
   rw[zZ0,ih];simp only[okO]
   congr 1
   unfold zsJ
   split<;>simp_all [ztu]
 unfold ziY;exact congrArg (· && decide ((frs ns).length<=4)) (this ns ns)
def zCQ(o:Nat):Option AV->Bool
 | some (.ref p 1 0)=>p==o
 | _=>false
def okG(E:Env):zf->Bool
 | []=>true
 | (o,_)::l=>zCQ o (look o E)&&okG E l
theorem zRZ{os:zf}:zkn E os=okG E os:=by
 unfold zkn
 induction os with
 | nil=>rfl
 | cons p l ih=>
  rw[zZ0,ih];simp only[okG]
  congr 1
def zoV(H:zf)(full:List Nat):List Nat->zf
 | []=>[]
 | o::l=>(za4 full o,((look o H).getD (.acc 0)).ren (za4 full))::zoV H full l
theorem zSE{ns:List Nat}:zcG H ns=zoV H ns ns:=by
 have:∀full l:List Nat,(l.map fun o=>(za4 full o,((look o H).getD (.acc 0)).ren (za4 full)))=zoV H full l:=by
  intro full l
  induction l with
  | nil=>rfl
  | cons o l ih=>rw[zYU,ih];rfl
 exact this ns ns
def evs(E:Env):List Opd->List AV
 | []=>[]
 | x::xs=>x.ev E::evs E xs
theorem zlY{xs:List Opd}:xs.map (·.ev E)=evs E xs:=by
 induction xs with
 | nil=>rfl
 | cons x xs ih=>rw[zYU,ih];rfl
def evO(E:Env):Option Opd->Option AV
 | none=>none
 | some x=>some (x.ev E)
theorem zsq{x:Option Opd}:x.map (·.ev E)=evO E x:=by cases x<;>rfl
def evB(E:Env):List (Nat×Nat×Opd)->List (Nat×Nat×AV)
 | []=>[]
 | (a,b,x)::l=>(a,b,x.ev E)::evB E l
theorem zQ1{l:List (Nat×Nat×Opd)}:(l.map fun p=>(p.1,p.2.1,p.2.2.ev E))=evB E l:=by
 induction l with
 | nil=>rfl
 | cons p l ih=>rw[zYU,ih];rfl
def evF(E:Env):List (Nat×Opd)->List (Nat×AV)
 | []=>[]
 | (a,x)::l=>(a,x.ev E)::evF E l
theorem zQ2{l:List (Nat×Opd)}:(l.map fun p=>(p.1,p.2.ev E))=evF E l:=by
 induction l with
 | nil=>rfl
 | cons p l ih=>rw[zYU,ih];rfl
def szF(n:Nat):List (Nat×AV)->Bool
 | []=>true
 | (_,x)::l=>(x.size==n)&&szF n l
theorem zFC{n:Nat}{l:List (Nat×Opd)}:(l.all fun p=>(p.2.ev E).size==n)=szF n (evF E l):=by
 induction l with
 | nil=>rfl
 | cons p l ih=>rw[zZ0,ih];rfl
theorem zU6{f:FuncId}{ms:List Bool}{xs:List Opd}:step F E H dst (.call f ms xs)=zgi H (zbh F E H dst ms f (evs E xs)):=by rw[<- zlY];rfl
theorem zU7{f:Opd}{ms:List Bool}{xs:List Opd}:step F E H dst (.callv f ms xs)=zgi H (zgj F E H dst ms (f.ev E) (evs E xs)):=by rw[<- zlY];rfl
theorem zJs{f:FuncId}{ms:List Bool}{xs:List Opd}:AOp.feet E H dst (.call f ms xs)=zjv H dst ms (evs E xs):=by rw[<- zlY];rfl
def zf7(H:zf):Option AV->Option (AV×zf)
 | none=>none
 | some v=>some (v,H)
theorem zhd{x:Option AV}:x.map (fun v=>(v,H))=zf7 H x:=by cases x<;>rfl
def zms(H:zf):Option D->Option (AV×zf)
 | none=>none
 | some v=>some (.d v,H)
theorem ztc{x:Option D}:x.map (fun v=>(AV.d v,H))=zms H x:=by cases x<;>rfl
def zhY(H:zf)(ng:Bool):Option Bool->Option (AV×zf)
 | none=>none
 | some b=>some (.d (.bool (if ng then !b else b)),H)
def dO:Option D->Option AV
 | none=>none
 | some v=>some (.d v)
theorem zqD{x:Option D}:x.map AV.d=dO x:=by cases x<;>rfl
def pdO:Option D->Option AV
 | none=>none
 | some v=>some (.d (.pd v))
def peO(o:Nat):Option D->Option AV
 | none=>none
 | some v=>some (.pe o v)
def ldR(ag:Bool)(n:Nat):Option AV->Option AV
 | some e=>zdX ag off n e
 | none=>none
 where off:Nat:=0
def ldE(ag:Bool)(n off:Nat):Option AV->Option AV
 | some e=>zdX ag off n e
 | none=>none
def ldO(ag:Bool)(n i off:Nat):Option Obj->Option AV
 | some (.row es)=>ldE ag n off es[i]?
 | _=>none
def ldV(H:zf)(ag:Bool)(n:Nat):AV->Option AV
 | .d (.pd x)=>dO (zb9 ag 0 n x)
 | .pe _ x=>dO (zb9 ag 0 n x)
 | .ref o i off=>ldO ag n i off (look o H)
 | _=>none
theorem zB3{ag:Bool}{n:Nat}{v:AV}:ldA H ag n v=ldV H ag n v:=by
 unfold ldA
 split
 ·exact zqD
 ·exact zqD
 ·rename_i o i off;simp only[ldV];generalize look o H=q
  rcases q with _|(es|m|m|m)
  ·rfl
  ·show es[i]?.bind _=ldE ag n off es[i]?
   cases es[i]? <;> rfl
  ·rfl
  ·rfl
  ·rfl
 ·unfold ldV;split<;>simp_all
theorem zVg{ag:Bool}{n:Nat}{p:Opd}:step F E H dst (.ld ag n p)=zf7 H (ldV H ag n (p.ev E)):=by
 show (ldA H ag n (p.ev E)).map (fun v=>(v,H))=_;rw[zhd,zB3]
def zjH(ag:Bool)(off n:Nat):AV->Option AV
 | .ref o i f=>some (.ref o i (f+off))
 | .d (.pd y)=>pdO (zb9 ag off n y)
 | .pe o y=>peO o (zb9 ag off n y)
 | _=>none
theorem zJI{ag:Bool}{off n:Nat}{v:AV}:zem ag off n v=zjH ag off n v:=by
 unfold zem
 split
 ·rfl
 ·rename_i y;simp only[zjH];cases zb9 ag off n y<;>rfl
 ·rename_i o y;simp only[zjH];cases zb9 ag off n y<;>rfl
 ·unfold zjH;split<;>simp_all
theorem zVc{ag:Bool}{off n:Nat}{x:Opd}:step F E H dst (.fad ag off n x)=zf7 H (zjH ag off n (x.ev E)):=by
 show (zem ag off n (x.ev E)).map (fun v=>(v,H))=_;rw[zhd,zJI]
def szR(n o i:Nat):Option AV->Option AV
 | some e=>if e.size=n then some (.ref o i 0) else none
 | none=>none
def szP(n o:Nat):Option D->Option AV
 | some e=>if e.size=n then some (.pe o e) else none
 | none=>none
def szD(n:Nat):Option D->Option AV
 | some e=>if e.size=n then some (.d (.pd e)) else none
 | none=>none
def zBC(n o i:Nat):Option Obj->Option AV
 | some (.row es)=>szR n o i es[i]?
 | _=>none
def zhI(H:zf)(n:Nat)(i:Int):AV->Option AV
 | .osl o off len=>if i<len then zBC n o (off+i.toNat) (look o H) else none
 | .acc o es=>szP n o es[i.toNat]?
 | .d (.sl es)=>szD n es[i.toNat]?
 | .xsl es=>szD n es[i.toNat]?
 | _=>none
theorem zPc{n:Nat}{i:Int}{v:AV}:zcM H n i v=zhI H n i v:=by
 unfold zcM
 split
 ·rename_i o off len;simp only[zhI]
  split
  ·generalize look o H=q
   rcases q with _|(es|m|m|m)
   ·rfl
   ·show es[off+i.toNat]?.bind _=szR n o (off+i.toNat) es[off+i.toNat]?
    cases es[off+i.toNat]? <;> rfl
   ·rfl
   ·rfl
   ·rfl
  ·rfl
 ·rename_i o es;simp only[zhI];unfold szP;cases es[i.toNat]? <;> rfl
 ·rename_i es;simp only[zhI];unfold szD;cases es[i.toNat]? <;> rfl
 ·rename_i es;simp only[zhI];unfold szD;cases es[i.toNat]? <;> rfl
 ·unfold zhI;split<;>simp_all
def zrw(H:zf)(n:Nat)(v:AV):Option Int->Option (AV×zf)
 | some k=>if 0<=k then zf7 H (zhI H n k v) else none
 | none=>none
theorem zVe{n:Nat}{x i:Opd}:step F E H dst (.iad n x i)=zrw H n (x.ev E) (zbC (i.ev E)):=by
 show (zbC (i.ev E)).bind _=_;unfold zrw
 cases zbC (i.ev E) with
 | none=>rfl
 | some k=>simp only[zZn,zPc,zhd]
def stF(H:zf)(o i:Nat)(es:List AV):Option AV->Option (AV×zf)
 | some e=>some (.undef,zN o (.row (es.set i e)) H)
 | none=>none
def stE(H:zf)(o i off:Nat)(es:List AV)(v:AV):Option AV->Option (AV×zf)
 | some e=>stF H o i es (zds e off v)
 | none=>none
def stO(H:zf)(o i off:Nat)(v:AV):Option Obj->Option (AV×zf)
 | some (.row es)=>stE H o i off es v es[i]?
 | _=>none
def stV(H:zf)(n:Nat)(v:AV):AV->Option (AV×zf)
 | .ref o i off=>if v.size=n/\zbX v=false then stO H o i off v (look o H) else none
 | _=>none
def zuj:Option AV->Option Int
 | some (.d (.int .i64 n))=>some n
 | _=>none
def zuk(off:Nat):Option AV->Option Int
 | some e=>zuj e.cells[off]?
 | none=>none
def zul(i off:Nat):Option Obj->Option Int
 | some (.row es)=>zuk off es[i]?
 | _=>none
def zum(H:zf):AV->Option Int
 | .ref o i off=>zul i off (look o H)
 | _=>none
def zup(v:D):Option (AV×zf)->Option (AV×zf)
 | some p=>some (.d v,p.2)
 | none=>none
def zuq(H:zf)(p:AV)(n:Int):Option Int->Option (AV×zf)
 | some _=>zup (.tup []) (stV H 1 (.d (.int .i64 n)) p)
 | none=>none
def zFX(H:zf)(p:AV):AV->Option (AV×zf)
 | .d (.int .i64 n)=>zuq H p n (zum H p)
 | _=>none
def zCb(ok:Bool)(z:D)(q:Option D):D:=if ok then .tup [q.getD z,.bool q.isSome] else q.getD z
def zCa(ok:Bool)(z:D)(n:Int):Option Obj->Option AV
 | some (.mp es)=>some (.d (zCb ok z (zcQ n es)))
 | _=>none
def zoG(ok:Bool)(z:D)(r:Option Obj):AV->Option AV
 | .d (.int .i64 n)=>zCa ok z n r
 | _=>none
def zlW(H:zf)(ok:Bool)(z:D)(k:AV):AV->Option AV
 | .mpr o=>zoG ok z (look o H) k
 | _=>none
theorem zVj{ok:Bool}{z:D}{x k:Opd}:step F E H dst (.lkp ok z x k)=zf7 H (zlW H ok z (k.ev E) (x.ev E)):=by
 have e:zg1 H ok z (x.ev E) (k.ev E)=zlW H ok z (k.ev E) (x.ev E):=by
  generalize x.ev E=xv;generalize k.ev E=kv;unfold zg1
  split
  ·rename_i o n;simp only[zlW,zoG];generalize look o H=q
   rcases q with _|(es|m|m|m)<;>rfl
  ·rename_i hno;unfold zlW
   split
   ·rename_i o;unfold zoG
    split
    ·exact absurd rfl (hno _ _ rfl)
    ·rfl
   ·rfl
 show (zg1 H ok z (x.ev E) (k.ev E)).map _=_;rw[e,zhd]
def zCA(H:zf)(o:Nat)(n:Int)(y:D):Option Obj->Option (AV×zf)
 | some (.mp es)=>some (.undef,zN o (.mp (zdW n y es)) H)
 | _=>none
def zoM(H:zf)(o:Nat)(n:Int):AV->Option (AV×zf)
 | .d y=>zCA H o n y (look o H)
 | _=>none
def zoK(H:zf)(o:Nat)(y:AV):AV->Option (AV×zf)
 | .d (.int .i64 n)=>zoM H o n y
 | _=>none
def zoL(H:zf)(k y:AV):AV->Option (AV×zf)
 | .mpr o=>zoK H o y k
 | _=>none
theorem zVo{x k v:Opd}:step F E H dst (.mup x k v)=zoL H (k.ev E) (v.ev E) (x.ev E):=by
 show ziU H (x.ev E) (k.ev E) (v.ev E)=_;generalize x.ev E=xv;generalize k.ev E=kv;generalize v.ev E=yv;unfold ziU
 split
 ·rename_i o n y;simp only[zoL,zoK,zoM];generalize look o H=q
  rcases q with _|(es|m|m|m)<;>rfl
 ·rename_i hno;unfold zoL
  split
  ·unfold zoK
   split
   ·unfold zoM
    split
    ·exact absurd rfl (hno _ _ _ rfl rfl)
    ·rfl
   ·rfl
  ·rfl
theorem zVv{n:Nat}{p x:Opd}:step F E H dst (.st n p x)=stV H n (x.ev E) (p.ev E):=by
 show zn E H dst (.st n p x)=_;simp only[zn];generalize p.ev E=pv
 split
 ·rename_i o i off;simp only[stV]
  split
  ·generalize look o H=q
   rcases q with _|(es|m|m|m)
   ·rfl
   ·show es[i]?.bind _=stE H o i off es (x.ev E) es[i]?
    cases es[i]? with
    | none=>rfl
    | some e=>
     show Option.map _ (zds e off (x.ev E))=stF H o i es (zds e off (x.ev E))
     cases zds e off (x.ev E)<;>rfl
   ·rfl
   ·rfl
   ·rfl
  ·rfl
 ·unfold stV;split<;>simp_all
def zq4(H:zf)(ag:Bool)(off n:Nat):AV->Option (AV×zf)
 | .d (.agg cs)=>zms H (zb9 ag off n (.agg cs))
 | .agg cs=>zf7 H (zdX ag off n (.agg cs))
 | _=>none
theorem zVd{ag:Bool}{off n:Nat}{x:Opd}:step F E H dst (.fld ag off n x)=zq4 H ag off n (x.ev E):=by
 show zn E H dst (.fld ag off n x)=_;simp only[zn];generalize x.ev E=v
 split
 ·exact ztc
 ·exact zhd
 ·unfold zq4;split<;>simp_all
def znH(ag:Bool)(off n:Nat):AV->Option AV
 | .d (.agg cs)=>dO (zb9 ag off n (.agg cs))
 | .agg cs=>zdX ag off n (.agg cs)
 | _=>none
theorem zKf{ag:Bool}{off n:Nat}{v:AV}:zjN ag off n v=znH ag off n v:=by
 unfold zjN
 split
 ·exact zqD
 ·rfl
 ·unfold znH;split<;>simp_all
def zry(H:zf)(ag:Bool)(len n:Nat)(v:AV):Option Int->Option (AV×zf)
 | some k=>if 0<=k/\k<len then zf7 H (znH ag (k.toNat * n) n v) else none
 | none=>none
theorem zVf{ag:Bool}{len n:Nat}{x i:Opd}:step F E H dst (.idxa ag len n x i)=zry H ag len n (x.ev E) (zbC (i.ev E)):=by
 show (zbC (i.ev E)).bind _=_;unfold zry
 cases zbC (i.ev E) with
 | none=>rfl
 | some k=>simp only[zZn,zKf,zhd]
def zpX(H:zf)(op:BinOp):AV->AV->Option (AV×zf)
 | .d a,.d b=>zms H (zgQ op a b)
 | _,_=>none
theorem zU2{op:BinOp}{x y:Opd}:step F E H dst (.bin op x y)=zpX H op (x.ev E) (y.ev E):=by
 show zn E H dst (.bin op x y)=_;simp only[zn];generalize x.ev E=v;generalize y.ev E=u
 split
 ·exact ztc
 ·unfold zpX;split<;>simp_all
def zel(H:zf)(ng:Bool)(n:Nat)(ls:List (Nat×Nat)):AV->AV->Option (AV×zf)
 | .d (.agg a),.d (.agg b)=>if a.length=n/\b.length=n then zhY H ng (zek a b ls) else none
 | _,_=>none
theorem zVa{ng:Bool}{n:Nat}{ls:List (Nat×Nat)}{x y:Opd}:step F E H dst (.eqs ng n ls x y)=zel H ng n ls (x.ev E) (y.ev E):=by
 show zn E H dst (.eqs ng n ls x y)=_;simp only[zn];generalize x.ev E=v;generalize y.ev E=u
 split
 ·rename_i a b;simp only[zel]
  split
  ·cases zek a b ls<;>rfl
  ·rfl
 ·unfold zel;split<;>simp_all
def bdI(y:Nat):Option Int->Option Nat
 | some n=>if 0<=n/\n<=y then some n.toNat else none
 | none=>none
def bd(dflt y:Nat):Option AV->Option Nat
 | none=>some dflt
 | some v=>bdI y (zbC v)
theorem zm1{x:Option AV}{dflt y:Nat}:zcq x dflt y=bd dflt y x:=by
 cases x with
 | none=>rfl
 | some v=>
  simp only[zcq,bd];unfold bdI
  cases zbC v<;>rfl
def slM(es:List D)(h l:Nat)(hi:Option AV):Option AV->Option AV
 | none=>some (.d (.sl ((es.take h).drop l)))
 | some m=>if zbC m=some (h:Int)/\hi.isSome then some (.xsl ((es.take h).drop l)) else none
def zEX(es:List D)(h l:Nat)(hi:Option AV):Option AV->Option AV
 | none=>some (if h=es.length then .xsl ((es.take h).drop l) else .d (.sl ((es.take h).drop l)))
 | some m=>if zbC m=some (h:Int)/\hi.isSome then some (.xsl ((es.take h).drop l)) else none
def zt3(o:Nat)(es:List D)(h:Nat)(hi:Option AV):Option AV->Option AV
 | none=>some (.acc o (es.take h))
 | some m=>if zbC m=some (h:Int)/\hi.isSome then some (.acc o (es.take h)) else none
def slL(es:List D)(hi mx:Option AV)(h:Nat):Option Nat->Option AV
 | some l=>slM es h l hi mx
 | none=>none
def slH(es:List D)(lo hi mx:Option AV):Option Nat->Option AV
 | some h=>slL es hi mx h (bd 0 h lo)
 | none=>none
def ztW(es:List D)(hi mx:Option AV)(h:Nat):Option Nat->Option AV
 | some l=>zEX es h l hi mx
 | none=>none
def ztV(es:List D)(lo hi mx:Option AV):Option Nat->Option AV
 | some h=>ztW es hi mx h (bd 0 h lo)
 | none=>none
def zpK(o:Nat)(es:List D)(hi mx:Option AV)(h:Nat):Option Nat->Option AV
 | some l=>if l=0 then zt3 o es h hi mx else none
 | none=>none
def zai(o:Nat)(es:List D)(lo hi mx:Option AV):Option Nat->Option AV
 | some h=>zpK o es hi mx h (bd 0 h lo)
 | none=>none
def zsS(n o off h l:Nat):Option Obj->Option AV
 | some (.row es)=>if l=0\/es.head?.map AV.size=some n then some (.osl o (off+l) (h - l)) else none
 | _=>none
def zsQ(H:zf)(n o off h:Nat):Option Nat->Option AV
 | some l=>zsS n o off h l (look o H)
 | none=>none
def zsP(H:zf)(n o off:Nat)(lo:Option AV):Option Nat->Option AV
 | some h=>zsQ H n o off h (bd 0 h lo)
 | none=>none
def zsR(H:zf)(n o off len:Nat)(lo hi:Option AV):Option AV->Option AV
 | none=>zsP H n o off lo (bd len len hi)
 | some _=>none
def zh5(H:zf)(n:Nat)(lo hi mx:Option AV):AV->Option AV
 | .d (.sl es)=>if zap n es then slH es lo hi mx (bd es.length es.length hi) else none
 | .xsl es=>if zap n es then ztV es lo hi mx (bd es.length es.length hi) else none
 | .acc o es=>if zap n es then zai o es lo hi mx (bd es.length es.length hi) else none
 | .osl o off len=>zsR H n o off len lo hi mx
 | _=>none
theorem zWJ{n:Nat}{lo hi mx:Option AV}{v:AV}:zcn H n lo hi mx v=zh5 H n lo hi mx v:=by
 unfold zcn
 split
 ·rename_i es;simp only[zh5]
  split
  ·simp only[zm1];unfold slH
   cases bd es.length es.length hi with
   | none=>rfl
   | some h=>
    simp only[zZn];unfold slL
    cases bd 0 h lo with
    | none=>rfl
    | some l=>simp only[zZn];cases mx<;>rfl
  ·rfl
 ·rename_i es;simp only[zh5]
  split
  ·simp only[zm1];unfold ztV
   cases bd es.length es.length hi with
   | none=>rfl
   | some h=>
    simp only[zZn];unfold ztW
    cases bd 0 h lo with
    | none=>rfl
    | some l=>simp only[zZn];cases mx<;>rfl
  ·rfl
 ·rename_i o es;simp only[zh5]
  split
  ·simp only[zm1];unfold zai
   cases bd es.length es.length hi with
   | none=>rfl
   | some h=>
    simp only[zZn];unfold zpK
    cases bd 0 h lo with
    | none=>rfl
    | some l=>simp only[zZn];cases mx<;>rfl
  ·rfl
 ·rename_i o off len
  cases mx with
  | some m=>rfl
  | none=>
   simp only[zm1,zh5,zsR];unfold zsP
   cases bd len len hi with
   | none=>rfl
   | some h=>
    simp only[zZn];unfold zsQ
    cases bd 0 h lo with
    | none=>rfl
    | some l=>simp only[zZn];unfold zsS;rfl
 ·unfold zh5;split<;>simp_all
theorem zVu{n:Nat}{x:Opd}{lo hi mx:Option Opd}:step F E H dst (.slc n x lo hi mx)=zf7 H (zh5 H n (evO E lo) (evO E hi) (evO E mx) (x.ev E)):=by
 show (zcn H n (lo.map (·.ev E)) (hi.map (·.ev E)) (mx.map (·.ev E)) (x.ev E)).map (fun v=>(v,H))=_;rw[zhd,zWJ,zsq,zsq,zsq]
def zqW(H:zf)(i:Nat):AV->Option (AV×zf)
 | .d (.tup vs)=>zms H vs[i]?
 | .tup vs=>zf7 H vs[i]?
 | _=>none
theorem zVb{x:Opd}{i:Nat}:step F E H dst (.ext x i)=zqW H i (x.ev E):=by
 show zn E H dst (.ext x i)=_;simp only[zn];generalize x.ev E=v
 split
 ·exact ztc
 ·exact zhd
 ·unfold zqW;split<;>simp_all
def zsi(H:zf):Option (List D)->Option (AV×zf)
 | some es=>some (.d (.int .i64 es.length),H)
 | none=>none
def zsj(H:zf):AV->Option (AV×zf)
 | .osl _ _ len=>some (.d (.int .i64 len),H)
 | .d (.sl es)=>some (.d (.int .i64 es.length),H)
 | .acc _ es=>some (.d (.int .i64 es.length),H)
 | .xsl es=>some (.d (.int .i64 es.length),H)
 | y=>zsi H (slD y)
theorem zVh{x:Opd}:step F E H dst (.len x)=zsj H (x.ev E):=by
 show zn E H dst (.len x)=_;simp only[zn];generalize x.ev E=v
 split
 ·rfl
 ·unfold zsj
  split
  ·simp_all
  ·rfl
  ·rfl
  ·rfl
  ·unfold zsi;cases slD v<;>rfl
def mmV(H:zf)(mx:Bool):List AV->Option (AV×zf)
 | []=>none
 | y::ys=>zf7 H (mmD mx y ys)
theorem zVn{mx:Bool}{xs:List Opd}:step F E H dst (.mm mx xs)=mmV H mx (evs E xs):=by
 show zn E H dst (.mm mx xs)=_;simp only[zn,zlY]
 cases evs E xs with
 | nil=>rfl
 | cons y ys=>exact zhd
theorem zVk{f:FuncId}{cs:List Opd}:step F E H dst (.mkfn f cs)=some (AV.mkFn f (evs E cs),H):=by
 show zn E H dst (.mkfn f cs)=_;simp only[zn,zlY]
def zp2(H:zf):Option (List AV)->Option (AV×zf)
 | some cs=>some (AV.mkAgg cs,H)
 | none=>none
theorem zU5{z:List AV}{ps:List (Nat×Nat×Opd)}:step F E H dst (.build z ps)=zp2 H (zbz z (evB E ps)):=by
 show zn E H dst (.build z ps)=_;simp only[zn,zQ1];unfold zp2
 cases zbz z (evB E ps)<;>rfl
def zp0(E:Env)(H:zf)(dst len:Nat)(es:List AV):Option (List D)->Option (AV×zf)
 | some ds=>some (.xsl ds,H)
 | none=>if zaV dst E=false/\zam dst H=false then some (.osl dst 0 len,zN dst (.row es) H) else none
def zp1(E:Env)(H:zf)(dst len:Nat):Option (List AV)->Option (AV×zf)
 | some es=>zp0 E H dst len es (zbq es)
 | none=>none
theorem zU4{len n:Nat}{z:AV}{ps:List (Nat×Opd)}:step F E H dst (.bsl len n z ps)=if z.size=n/\szF n (evF E ps)=true then zp1 E H dst len (zeo (List.replicate len z) (evF E ps)) else none:=by
 show zn E H dst (.bsl len n z ps)=_;simp only[zn,zQ2,zFC]
 split
 ·unfold zp1
  cases zeo (List.replicate len z) (evF E ps) with
  | none=>rfl
  | some es=>simp only[zZn];unfold zp0;rfl
 ·rfl
def zpV(H:zf):Option (List UInt8)->Option (AV×zf)
 | some s=>some (.d (.str s),H)
 | none=>none
def zpW(H:zf):Option (List D)->Option (AV×zf)
 | some es=>zpV H (zgh es)
 | none=>none
theorem zU1{x:Opd}:step F E H dst (.b2s x)=zpW H (slD (x.ev E)):=by
 show zn E H dst (.b2s x)=_;simp only[zn];unfold zpW
 cases slD (x.ev E) with
 | none=>rfl
 | some es=>simp only[zZn];unfold zpV;cases zgh es<;>rfl
def byD(s:List UInt8):List D:=s.map fun b=> .int .u8 b.toNat
def zp(off len:Nat):Option Obj->Option (List D)
 | some (.row es)=>srcL len (zbq ((es.drop off).take len))
 | _=>none
 where srcL (len:Nat):Option (List D)->Option (List D)
  | some ds=>if ds.length=len then some ds else none
  | none=>none
def zkP(H:zf):AV->Option (List D)
 | .osl o off len=>zp off len (look o H)
 | .nl _=>some []
 | y=>slD y
theorem zWY{v:AV}:zdg H v=zkP H v:=by
 unfold zdg
 split
 ·rename_i o off len;simp only[zkP];generalize look o H=q
  rcases q with _|(es|m|m|m)
  ·rfl
  ·show (zbq ((es.drop off).take len)).bind _=zp.srcL len (zbq ((es.drop off).take len))
   cases zbq ((es.drop off).take len)<;>rfl
  ·rfl
  ·rfl
  ·rfl
 ·rfl
 ·unfold zkP;split<;>simp_all
def zpQ(H:zf)(o n:Nat)(es ys:List D):Option Obj->Option (AV×zf)
 | some (.acc m)=>if es.length=m/\zap n (es++ys)/\(es++ys).length<=LIM then some (.acc o (es++ys),zN o (.acc (m+ys.length)) H) else none
 | _=>none
def zk4(E:Env)(H:zf)(dst n:Nat)(ys:List D):AV->Option (AV×zf)
 | .xsl es=>if (ys.isEmpty&& !es.isEmpty)=true then (if zap n es=true then some (.xsl es,H) else none) else if zap n (es++ys)/\(es++ys).length<=LIM/\zaV dst E=false/\zam dst H=false then some (.acc dst (es++ys),zN dst (.acc (es.length+ys.length)) H) else none
 | .acc o es=>zpQ H o n es ys (look o H)
 | _=>none
theorem zFG{n:Nat}{ys:List D}{v:AV}:zcj E H dst n ys v=zk4 E H dst n ys v:=by
 unfold zcj
 split
 ·rfl
 ·simp only[zk4];unfold zpQ;rfl
 ·unfold zk4;split<;>simp_all
def zpR(E:Env)(H:zf)(dst n:Nat)(v:AV):Option (List D)->Option (AV×zf)
 | some ys=>zk4 E H dst n ys v
 | none=>none
theorem zU0{n:Nat}{x y:Opd}:step F E H dst (.app n x y)=zpR E H dst n (x.ev E) (zkP H (y.ev E)):=by
 show zn E H dst (.app n x y)=_;simp only[zn,zWY];unfold zpR
 cases zkP H (y.ev E) with
 | none=>rfl
 | some ys=>simp only[zZn,zFG]
def zDy(H:zf)(ag:Bool)(sz:Nat):Option AV->Option AV
 | some v=>ldV H ag sz v
 | none=>none
theorem zUr{n sz:Nat}{ag:Bool}:za6.ev ⟨E,H⟩ (.c n ag sz)=zDy H ag sz (look n E):=by
 show (look n E).bind (ldA H ag sz)=_
 cases look n E with
 | none=>rfl
 | some v=>exact zB3
theorem zUt{n:Nat}:za6.ev ⟨E,H⟩ (.t n)=look n E:=rfl
def zqB(v:Option AV):Option (List AV)->Option (List AV)
 | some vs=>consQ vs v
 | none=>none
 where consQ (vs:List AV):Option AV->Option (List AV)
  | some v=>some (v::vs)
  | none=>none
def zhW(S:St):List za6->Option (List AV)
 | []=>some []
 | r::rs=>zqB (r.ev S) (zhW S rs)
theorem zUq{S:St}{rs:List za6}:rs.mapM (za6.ev S)=zhW S rs:=by
 induction rs with
 | nil=>rfl
 | cons r rs ih=>
  rw[z0w,ih];simp only[zhW]
  cases r.ev S with
  | none=>cases zhW S rs<;>rfl
  | some v=>cases zhW S rs<;>rfl
def zEo:Option (List AV)->Option AV
 | some vs=>some (AV.mkTup vs)
 | none=>none
theorem zUs{S:St}{r:za6}:zgA S [r]=r.ev S:=rfl
theorem zUu{S:St}{a b:za6}{l:List za6}:zgA S (a::b::l)=zEo (zhW S (a::b::l)):=by
 show ((a::b::l).mapM (za6.ev S)).map AV.mkTup=_;rw[zUq]
 cases zhW S (a::b::l)<;>rfl
end Go.Sim

namespace Go.Sim
variable {G:FuncId->Option AFn} {F:zaO} {E:Env} {H:zf}
theorem zYD:exL G .skip ⟨E,H⟩=some (.normal,⟨E,H⟩):=zJd
theorem zIK{ks:List Nat}:endS ks ⟨E,H⟩=gcS ⟨zdf (zhK ks E),H⟩:=rfl
theorem zOU:gcS ⟨E,H⟩=⟨E,gc1 E H⟩:=rfl
theorem zYy{i:Nat}{ks:List Nat}:exL G (.exit i ks) ⟨E,H⟩=some (.exit i,endS ks ⟨E,H⟩):=zJa
theorem zYB{ks:List Nat}:exL G (.ret ks) ⟨E,H⟩=some (.ret,endS ks ⟨E,H⟩):=zJc
theorem zYA{gs:List Nat}{l:List zC}{ks:List Nat}:exL G (.ops gs l ks) ⟨E,H⟩=((zfh gs ⟨E,H⟩).bind (zbt (zd G) l)).map (ziL ks):=zJb
theorem zYx{gs:List Nat}{l:List zC}{fr:List (List Nat)}{ks:List Nat}:exL G (.draw gs l fr ks) ⟨E,H⟩=((zfh gs ⟨E,H⟩).bind (zfS (zd G) l fr)).map (ziL ks):=zI9
theorem zYC{x y:zw}:exL G (.seq x y) ⟨E,H⟩=(exL G x ⟨E,H⟩).bind (zhg (exL G y)):=zqV
theorem zYv{c:Opd}{x y:zw}:exL G (.cond c x y) ⟨E,H⟩=zhy (c.ev E) (exL G x ⟨E,H⟩) (exL G y ⟨E,H⟩):=zI8
noncomputable def zqA(G:FuncId->Option AFn)(x y:zw)(E:Env)(H:zf):AV->Option (zR×St)
 | .d (.bool b)=>if b=true then exL G x ⟨E,H⟩ else exL G y ⟨E,H⟩
 | _=>none
theorem zYw{c:Opd}{x y:zw}:exL G (.cond c x y) ⟨E,H⟩=zqA G x y E H (c.ev E):=by
 rw[zYv];unfold zhy zqA;generalize c.ev E=v
 split<;>simp_all
theorem zGR{b:Bool}{x y:zw}:zqA G x y E H (.d (.bool b))=if b=true then exL G x ⟨E,H⟩ else exL G y ⟨E,H⟩:=rfl
theorem zYu{id:Nat}{x:zw}:exL G (.block id x) ⟨E,H⟩=(exL G x ⟨E,H⟩).map (zik id):=zzA
theorem zYz{ks:List Nat}{x:zw}:exL G (.loop ks x) ⟨E,H⟩=zP G ks x (norm ks ⟨E,H⟩):=rfl
theorem zO1{S:St}:zfh [] S=some S:=rfl
theorem zO0{g:Nat}{gs:List Nat}:zfh (g::gs) ⟨E,H⟩=(znQ g ⟨E,H⟩).bind (zfh gs):=rfl
theorem zPW{ks:List Nat}:ziL ks ⟨E,H⟩=(.normal,⟨zfY ks E,H⟩):=rfl
theorem zRS{ks:List Nat}:norm ks ⟨E,H⟩=norm1 ⟨zfY ks E,H⟩:=rfl
theorem zRR:norm1 ⟨E,H⟩=⟨zdf (deX E),zpk (gc1 E (gc1 E H))⟩:=rfl
theorem zti{g:St->Option (zR×St)}{S:St}:zhg g (.normal,S)=g S:=rfl
theorem zWd{g:St->Option (zR×St)}{i:Nat}{S:St}:zhg g (.exit i,S)=some (.exit i,S):=rfl
theorem zWe{g:St->Option (zR×St)}{S:St}:zhg g (.ret,S)=some (.ret,S):=rfl
theorem zQU{ks:List Nat}{g:St->Option (zR×St)}{S:St}:zcP ks g (.normal,S)=g (norm ks S):=rfl
theorem zQT{ks:List Nat}{g:St->Option (zR×St)}{i:Nat}{S:St}:zcP ks g (.exit i,S)=some (.exit i,S):=rfl
theorem zQV{ks:List Nat}{g:St->Option (zR×St)}{S:St}:zcP ks g (.ret,S)=some (.ret,S):=rfl
theorem zur{id:Nat}{S:St}:zik id (.normal,S)=(.normal,S):=rfl
theorem zF3{id i:Nat}{S:St}:zik id (.exit i,S)=if i=id then (.normal,S) else (.exit i,S):=rfl
theorem zF4{id:Nat}{S:St}:zik id (.ret,S)=(.ret,S):=rfl
def zfr(t:Nat)(v:AV):Env->Env
 | []=>[]
 | (j,x)::l=>if j=t then (j,v)::l else (j,x)::zfr t v l
theorem zo3{t:Nat}{v:AV}:∀ {E:Env},look t E=some v->zfr t v E=E:=by
 intro E
 induction E with
 | nil=>intro h;cases h
 | cons p l ih=>
  obtain⟨j,x⟩:=p;intro h;simp only[look] at h;simp only[zfr]
  split
  ·rename_i e;rw[zYQ e] at h;cases h;rfl
  ·rename_i e;rw[zYP e] at h;rw[ih h]
def zan{α:Type}(v:Option AV)(k j:Bool->Option α):Option α:=
 match v with
 | some (.d (.bool true))=>k true
 | some (.d (.bool false))=>k false
 | _=>none
theorem zRU:zbt F [] ⟨E,H⟩=some ⟨E,H⟩:=rfl
theorem zRV{d:Option Nat}{op:AOp}{l:List zC}:zbt F (⟨d,op,none⟩::l) ⟨E,H⟩=(zdB F ⟨d,op,none⟩ ⟨E,H⟩).bind (zbt F l):=rfl
def zhH(F:zaO)(d:Option Nat)(op:AOp)(b:Bool)(l:List zC)(E:Env)(H:zf)(c:Bool):Option St:=if c=b then (zdB F ⟨d,op,none⟩ ⟨E,H⟩).bind (zbt F l) else zbt F l (St.put ⟨E,H⟩ d (.d (.tup [])))
theorem zOt{d:Option Nat}{op:AOp}{l:List zC}:zhH F d op true l E H true=(zdB F ⟨d,op,none⟩ ⟨E,H⟩).bind (zbt F l):=rfl
theorem zOq{d:Option Nat}{op:AOp}{l:List zC}:zhH F d op false l E H false=(zdB F ⟨d,op,none⟩ ⟨E,H⟩).bind (zbt F l):=rfl
theorem zOs{d:Option Nat}{op:AOp}{l:List zC}:zhH F d op true l E H false=zbt F l (St.put ⟨E,H⟩ d (.d (.tup []))):=rfl
theorem zOr{d:Option Nat}{op:AOp}{l:List zC}:zhH F d op false l E H true=zbt F l (St.put ⟨E,H⟩ d (.d (.tup []))):=rfl
def znL(F:zaO)(d:Option Nat)(op:AOp)(t:Nat)(b:Bool)(l:List zC)(E:Env)(H:zf)(v:Option AV):Option St:=
 match v with
 | some (.d (.bool c))=>if c=true then zhH F d op b l (zfr t (.d (.bool true)) E) H true else zhH F d op b l (zfr t (.d (.bool false)) E) H false
 | some (.d (.tup []))=>zbt F l (St.put ⟨E,H⟩ d (.d (.tup [])))
 | _=>none
theorem zOp{d:Option Nat}{op:AOp}{t:Nat}{b:Bool}{l:List zC}:znL F d op t b l E H (some (.d (.tup [])))=zbt F l (St.put ⟨E,H⟩ d (.d (.tup []))):=rfl
theorem zOo{d:Option Nat}{op:AOp}{t:Nat}{b c:Bool}{l:List zC}:znL F d op t b l E H (some (.d (.bool c)))=if c=true then zhH F d op b l (zfr t (.d (.bool true)) E) H true else zhH F d op b l (zfr t (.d (.bool false)) E) H false:=rfl
theorem zRT{d:Option Nat}{op:AOp}{l:List zC}{t:Nat}{b:Bool}:zbt F (⟨d,op,some (t,b)⟩::l) ⟨E,H⟩=znL F d op t b l E H (look t E):=by
 simp only[zbt,znL];generalize hv:look t E=v
 split
 ·rename_i c
  cases c with
  | true=>simp only[zo3 hv,if_true];rfl
  | false=>simp only[zo3 hv,zYX,if_false];rfl
 ·rfl
 ·rename_i hno hno2
  split
  ·exact absurd rfl (hno _)
  ·exact absurd rfl hno2
  ·rfl
theorem zHg{l:List zC}{fr:List (List Nat)}:zfS F l fr ⟨E,H⟩=if (zbQ E&&zbQ H&&zlt l ⟨E,H⟩)=true then zby F l fr [] ⟨E,H⟩ else none:=rfl
theorem zHi{fr:List (List Nat)}{acc:List (List Nat×List Nat)}:zby F [] fr acc ⟨E,H⟩=some ⟨E,H⟩:=rfl
theorem zHj{d:Option Nat}{op:AOp}{l:List zC}{f:List Nat}{fr:List (List Nat)}{acc:List (List Nat×List Nat)}:zby F (⟨d,op,none⟩::l) (f::fr) acc ⟨E,H⟩=(zdo F ⟨d,op,none⟩ (f::fr) acc ⟨E,H⟩).bind (zby F l fr (acc++[op.feet E H (d.getD 0)])):=rfl
def zhz(F:zaO)(d:Option Nat)(op:AOp)(t:Nat)(b:Bool)(l:List zC)(f:List Nat)(fr:List (List Nat))(acc:List (List Nat×List Nat))(E:Env)(H:zf)(c:Bool):Option St:=
 if c=b then (zdo F ⟨d,op,none⟩ (f::fr) acc ⟨E,H⟩).bind (zby F l fr (acc++[op.feet E H (d.getD 0)])) else (zgl ⟨d,op,some (t,b)⟩ (f::fr) acc ⟨E,H⟩).bind (zby F l fr (acc++[([],[])]))
theorem zHf{d:Option Nat}{op:AOp}{t:Nat}{l:List zC}{f:List Nat}{fr:List (List Nat)}{acc:List (List Nat×List Nat)}:zhz F d op t true l f fr acc E H true=(zdo F ⟨d,op,none⟩ (f::fr) acc ⟨E,H⟩).bind (zby F l fr (acc++[op.feet E H (d.getD 0)])):=rfl
theorem zHc{d:Option Nat}{op:AOp}{t:Nat}{l:List zC}{f:List Nat}{fr:List (List Nat)}{acc:List (List Nat×List Nat)}:zhz F d op t false l f fr acc E H false=(zdo F ⟨d,op,none⟩ (f::fr) acc ⟨E,H⟩).bind (zby F l fr (acc++[op.feet E H (d.getD 0)])):=rfl
theorem zHe{d:Option Nat}{op:AOp}{t:Nat}{l:List zC}{f:List Nat}{fr:List (List Nat)}{acc:List (List Nat×List Nat)}:zhz F d op t true l f fr acc E H false=(zgl ⟨d,op,some (t,true)⟩ (f::fr) acc ⟨E,H⟩).bind (zby F l fr (acc++[([],[])])):=rfl
theorem zHd{d:Option Nat}{op:AOp}{t:Nat}{l:List zC}{f:List Nat}{fr:List (List Nat)}{acc:List (List Nat×List Nat)}:zhz F d op t false l f fr acc E H true=(zgl ⟨d,op,some (t,false)⟩ (f::fr) acc ⟨E,H⟩).bind (zby F l fr (acc++[([],[])])):=rfl
def znn(F:zaO)(d:Option Nat)(op:AOp)(t:Nat)(b:Bool)(l:List zC)(f:List Nat)(fr:List (List Nat))(acc:List (List Nat×List Nat))(E:Env)(H:zf)(v:Option AV):Option St:=
 match v with
 | some (.d (.bool c))=>if c=true then zhz F d op t b l f fr acc (zfr t (.d (.bool true)) E) H true else zhz F d op t b l f fr acc (zfr t (.d (.bool false)) E) H false
 | some (.d (.tup []))=>(zgl ⟨d,op,some (t,b)⟩ (f::fr) acc ⟨E,H⟩).bind (zby F l fr (acc++[([],[])]))
 | _=>none
theorem zHb{d:Option Nat}{op:AOp}{t:Nat}{b:Bool}{l:List zC}{f:List Nat}{fr:List (List Nat)}{acc:List (List Nat×List Nat)}:znn F d op t b l f fr acc E H (some (.d (.tup [])))=(zgl ⟨d,op,some (t,b)⟩ (f::fr) acc ⟨E,H⟩).bind (zby F l fr (acc++[([],[])])):=rfl
theorem zHa{d:Option Nat}{op:AOp}{t:Nat}{b c:Bool}{l:List zC}{f:List Nat}{fr:List (List Nat)}{acc:List (List Nat×List Nat)}:znn F d op t b l f fr acc E H (some (.d (.bool c)))=
    if c=true then zhz F d op t b l f fr acc (zfr t (.d (.bool true)) E) H true else zhz F d op t b l f fr acc (zfr t (.d (.bool false)) E) H false:=rfl
theorem zHh{d:Option Nat}{op:AOp}{l:List zC}{f:List Nat}{fr:List (List Nat)}{acc:List (List Nat×List Nat)}{t:Nat}{b:Bool}:zby F (⟨d,op,some (t,b)⟩::l) (f::fr) acc ⟨E,H⟩=znn F d op t b l f fr acc E H (look t E):=by
 simp only[zby,znn];generalize hv:look t E=v
 split
 ·rename_i c
  cases c with
  | true=>simp only[zo3 hv,if_true];rfl
  | false=>simp only[zo3 hv,zYX,if_false];rfl
 ·rfl
 ·rename_i hno hno2
  split
  ·exact absurd rfl (hno _)
  ·exact absurd rfl hno2
  ·rfl
theorem zH0{d:Option Nat}{op:AOp}{f:List Nat}{fr:List (List Nat)}{acc:List (List Nat×List Nat)}:zdo F ⟨d,op,none⟩ (f::fr) acc ⟨E,H⟩=if zgR f acc (op.feet E H (d.getD 0))=true then zdB F ⟨d,op,none⟩ ⟨E,H⟩ else none:=rfl
theorem zHZ{x:zC}{f:List Nat}{fr:List (List Nat)}{acc:List (List Nat×List Nat)}:zgl x (f::fr) acc ⟨E,H⟩=if zgR f acc ([],[])=true then some (St.put ⟨E,H⟩ x.dst (.d (.tup []))) else none:=rfl
theorem zTp{d:Nat}{v:AV}:St.put ⟨E,H⟩ (some d) v=⟨zN d v E,H⟩:=rfl
def putO(E:Env)(d:Option Nat)(r:Option (AV×zf)):Option St:=r.map fun p=>St.put ⟨E,p.2⟩ d p.1
theorem zTn{v:AV}:putO E none (some (v,H))=some ⟨E,H⟩:=rfl
theorem zTo{d:Nat}{v:AV}:putO E (some d) (some (v,H))=some ⟨zN d v E,H⟩:=rfl
theorem zUZ{d:Option Nat}{op:AOp}{g:Option (Nat×Bool)}:zdB F ⟨d,op,g⟩ ⟨E,H⟩=putO E d (step F E H (d.getD 0) op):=rfl
variable {dst:Nat}
theorem zVs{ng:Bool}{x:Opd}:step F E H dst (.nileq ng x)=ziW H ng (x.ev E):=rfl
theorem zGn{g:FuncId}{cs:List D}{ms:List Bool}{args:List AV}:zgj F E H dst ms (.d (.fn g cs)) args=zbh F E H dst ms g (args++cs.map .d):=rfl
theorem zGm{v:AV}{δ:zf}:zgi H (some (v,δ))=some (v,zag δ H):=rfl
theorem zGe{ms:List Bool}{f:FuncId}{args:List AV}:zbh F E H dst ms f args=if zlv ms args.length=true then (zbI H ms args).bind (zgp F E H dst ms f (zaA ms args)) else zcz F E H dst ms f args:=rfl
theorem zGc{ms:List Bool}{f:FuncId}{args:List AV}:zcz F E H dst ms f args=(zbI H ms args).bind (zfM F E H dst (zbD H ms args) (zaA ms args) f):=rfl
theorem zOi{ms:List Bool}{f:FuncId}{dob:List Nat}{zYO:List AV}:zgp F E H dst ms f dob zYO=if zgq H dob=true then (zcz F E (zag (zbm H dob) H) dst ms f zYO).map fun p=>(p.1,p.2++zbm H dob) else none:=rfl
theorem zHn(ds:List D):zaA [] (ds.map .d)=[]:=by
 induction ds with
 | nil=>rfl
 | cons d ds ih=>simp only[zYU,zaA,ih,AV.objs,zZd]
theorem zio{f:FuncId}{ds:List D}:zbh F E H dst [] f (ds.map .d)=(F f (ds.map .d) []).bind (zeg E H dst [] []):=by
 have h1:zbI H [] (ds.map .d)=some (ds.map .d):=by
  induction ds with
  | nil=>rfl
  | cons d ds ih=>simp only[zYU,zbI,ih,toD,zZn,zZv]
 have h2:zcl [] (ds.map .d)=[]:=by cases ds<;>rfl
 have h3:=zHn ds;have h4:(ds.map AV.d).map (AV.ren (zaN []))=ds.map .d:=by
  rw[z0i];exact z0r fun _ _=>rfl
 unfold zbh;rw[zYP (by simp [zlv])];unfold zcz;rw[h1,h3];simp only[zZn,zbD,h2,zc1,zfs,List.flatMap_nil,zfM,zko,List.all_nil,zhB,zZX,if_true,h4,zb4,zYS]
theorem ca0{f:FuncId}:zbh F E H dst [] f []=(F f [] []).bind (zeg E H dst [] []):=zio (ds:=[])
theorem ca1{f:FuncId}{a:D}:zbh F E H dst [] f [.d a]=(F f [.d a] []).bind (zeg E H dst [] []):=zio (ds:=[a])
theorem ca2{f:FuncId}{a b:D}:zbh F E H dst [] f [.d a,.d b]=(F f [.d a,.d b] []).bind (zeg E H dst [] []):=zio (ds:=[a,b])
theorem ca3{f:FuncId}{a b c:D}:zbh F E H dst [] f [.d a,.d b,.d c]=(F f [.d a,.d b,.d c] []).bind (zeg E H dst [] []):=zio (ds:=[a,b,c])
theorem ca4{f:FuncId}{a b c d:D}:zbh F E H dst [] f [.d a,.d b,.d c,.d d]=(F f [.d a,.d b,.d c,.d d] []).bind (zeg E H dst [] []):=zio (ds:=[a,b,c,d])
theorem ca5{f:FuncId}{a b c d e:D}:zbh F E H dst [] f [.d a,.d b,.d c,.d d,.d e]=(F f [.d a,.d b,.d c,.d d,.d e] []).bind (zeg E H dst [] []):=zio (ds:=[a,b,c,d,e])
theorem cv1{f:FuncId}{a:D}{cs:List D}:zbh F E H dst [] f (.d a::cs.map .d)=(F f (.d a::cs.map .d) []).bind (zeg E H dst [] []):=zio (ds:=a::cs)
theorem zRk{c:Prop}[Decidable c]{e:zR}{t:Nat}{x y:Bool}:(if c then some (e,(⟨(t,.d (.bool x))::E,H⟩:St)) else some (e,⟨(t,.d (.bool y))::E,H⟩))=some (e,⟨(t,.d (.bool (if c then x else y)))::E,H⟩):=by split<;>rfl
theorem zPO{c x:Bool}:(if c=true then x else false)=(c&&x):=by cases c<;>rfl
theorem zPP{c x:Bool}:(if c=true then true else x)=(c||x):=by cases c<;>rfl
theorem zF2{α β:Type}{c:Prop}[Decidable c]{x y:Option α}{k:α->Option β}:(if c then x else y).bind k=if c then x.bind k else y.bind k:=by split<;>rfl
theorem zQ7{α β:Type}{c:Prop}[Decidable c]{x y:Option α}{k:α->β}:(if c then x else y).map k=if c then x.map k else y.map k:=by split<;>rfl
theorem zJ3{sl:Bool}{rs:List za6}{os:zf}{S:St}:zff sl rs os (.ret,S)=(zgA S rs).bind (ziC sl os S):=rfl
theorem zJ2{os:zf}{S:St}{v:AV}:ziC true os S v=(toD S.heap v).bind (zpe os S v):=rfl
theorem zJ1{os:zf}{S:St}{v:AV}:ziC false os S v=zjJ os S v (zf5 S.heap os v):=rfl
theorem zVp{x:Opd}:step F E H dst (.mv x)=zn E H dst (.mv x):=rfl
theorem zJC{x:Opd}:AOp.feet E H dst (.mv x)=(zas (AOp.foot E dst (.mv x)),zas (AOp.wr E dst (.mv x))):=rfl
theorem zVt{c a b:Opd}:step F E H dst (.pick c a b)=zn E H dst (.pick c a b):=rfl
theorem zJE{c a b:Opd}:AOp.feet E H dst (.pick c a b)=(zas (AOp.foot E dst (.pick c a b)),zas (AOp.wr E dst (.pick c a b))):=rfl
theorem zUY{z:AV}:step F E H dst (.alloc z)=zn E H dst (.alloc z):=rfl
theorem zJn{z:AV}:AOp.feet E H dst (.alloc z)=(zas (AOp.foot E dst (.alloc z)),zas (AOp.wr E dst (.alloc z))):=rfl
theorem zU3{x:Opd}:step F E H dst (.box x)=zn E H dst (.box x):=rfl
theorem zJr{z:List AV}{ps:List (Nat×Nat×Opd)}:AOp.feet E H dst (.build z ps)=(zas (AOp.foot E dst (.build z ps)),zas (AOp.wr E dst (.build z ps))):=rfl
theorem zJq{len n:Nat}{z:AV}{ps:List (Nat×Opd)}:AOp.feet E H dst (.bsl len n z ps)=(zas (AOp.foot E dst (.bsl len n z ps)),zas (AOp.wr E dst (.bsl len n z ps))):=rfl
theorem zJz{ag:Bool}{n:Nat}{p:Opd}:AOp.feet E H dst (.ld ag n p)=(zas (AOp.foot E dst (.ld ag n p)),zas (AOp.wr E dst (.ld ag n p))):=rfl
theorem zVl:step F E H dst .mkm=zn E H dst .mkm:=rfl
theorem zJG{n:Nat}{p x:Opd}:AOp.feet E H dst (.st n p x)=(zas (AOp.foot E dst (.st n p x)),zjG (AOp.wr E dst (.st n p x))):=rfl
theorem zVr{x:Opd}:step F E H dst (.nilc x)=zn E H dst (.nilc x):=rfl
theorem zJD{x:Opd}:AOp.feet E H dst (.nilc x)=(zas (AOp.foot E dst (.nilc x)),zas (AOp.wr E dst (.nilc x))):=rfl
theorem zJp{op:BinOp}{x y:Opd}:AOp.feet E H dst (.bin op x y)=(zas (AOp.foot E dst (.bin op x y)),zas (AOp.wr E dst (.bin op x y))):=rfl
theorem zU9{ng:Bool}{x y:Opd}:step F E H dst (.eqb ng x y)=zn E H dst (.eqb ng x y):=rfl
theorem zJu{ng:Bool}{n:Nat}{ls:List (Nat×Nat)}{x y:Opd}:AOp.feet E H dst (.eqs ng n ls x y)=(zas (AOp.foot E dst (.eqs ng n ls x y)),zas (AOp.wr E dst (.eqs ng n ls x y))):=rfl
theorem zVq  : step F E H dst (.nacc)=zn E H dst (.nacc):=rfl
theorem zVw{op:UnOp}{x:Opd}:step F E H dst (.un op x)=zn E H dst (.un op x):=rfl
theorem zJH{op:UnOp}{x:Opd}:AOp.feet E H dst (.un op x)=(zas (AOp.foot E dst (.un op x)),zas (AOp.wr E dst (.un op x))):=rfl
theorem zU8{k:IntKind}{x:Opd}:step F E H dst (.cvi k x)=zn E H dst (.cvi k x):=rfl
theorem zJt{k:IntKind}{x:Opd}:AOp.feet E H dst (.cvi k x)=(zas (AOp.foot E dst (.cvi k x)),zas (AOp.wr E dst (.cvi k x))):=rfl
theorem zJw{ag:Bool}{off n:Nat}{x:Opd}:AOp.feet E H dst (.fad ag off n x)=(zas (AOp.foot E dst (.fad ag off n x)),zas (AOp.wr E dst (.fad ag off n x))):=rfl
theorem zJx{ag:Bool}{off n:Nat}{x:Opd}:AOp.feet E H dst (.fld ag off n x)=(zas (AOp.foot E dst (.fld ag off n x)),zas (AOp.wr E dst (.fld ag off n x))):=rfl
theorem zJy{n:Nat}{x i:Opd}:AOp.feet E H dst (.iad n x i)=(zkj (AOp.foot E dst (.iad n x i)),[]):=rfl
theorem zJF{n:Nat}{x:Opd}{lo hi mx:Option Opd}:AOp.feet E H dst (.slc n x lo hi mx)=(zas (AOp.foot E dst (.slc n x lo hi mx)),zas (AOp.wr E dst (.slc n x lo hi mx))):=rfl
theorem zJv{x:Opd}{i:Nat}:AOp.feet E H dst (.ext x i)=(zas (AOp.foot E dst (.ext x i)),zas (AOp.wr E dst (.ext x i))):=rfl
theorem zJA{x:Opd}:AOp.feet E H dst (.len x)=(zas (AOp.foot E dst (.len x)),zas (AOp.wr E dst (.len x))):=rfl
theorem zVi{x:Opd}:step F E H dst (.lens x)=zn E H dst (.lens x):=rfl
theorem zJo{n:Nat}{x y:Opd}:AOp.feet E H dst (.app n x y)=(zas (AOp.foot E dst (.app n x y)),zas (AOp.wr E dst (.app n x y))):=rfl
theorem zJB{mx:Bool}{xs:List Opd}:AOp.feet E H dst (.mm mx xs)=(zas (AOp.foot E dst (.mm mx xs)),zas (AOp.wr E dst (.mm mx xs))):=rfl
theorem zVm{n:Nat}{z:AV}{l c:Opd}:step F E H dst (.mks n z l c)=zn E H dst (.mks n z l c):=rfl
theorem zWE{k:IntKind}{n:Int}:D.size (.int k n)=1:=rfl
theorem zGr{k:IntKind}{n:Int}:D.cells (.int k n)=[(.int k n)]:=rfl
theorem zWD{b:Bool}:D.size (.bool b)=1:=rfl
theorem zGq{b:Bool}:D.cells (.bool b)=[(.bool b)]:=rfl
theorem zWG{s:List UInt8}:D.size (.str s)=1:=rfl
theorem zGt{s:List UInt8}:D.cells (.str s)=[(.str s)]:=rfl
theorem zWF{es:List D}:D.size (.sl es)=1:=rfl
theorem zGs{es:List D}:D.cells (.sl es)=[(.sl es)]:=rfl
theorem size_agg{cs:List D}:D.size (.agg cs)=cs.length:=rfl
theorem zGp{cs:List D}:D.cells (.agg cs)=cs:=rfl
theorem zFL{cs:List D}:D.asAgg (.agg cs)= .agg cs:=rfl
theorem zFQ{x:D}:AV.size (.d x)=x.size:=rfl
theorem zFi{x:D}:AV.cells (.d x)=x.cells.map .d:=rfl
theorem zFR{o off len:Nat}:AV.size (.osl o off len)=1:=rfl
theorem zFj{o off len:Nat}:AV.cells (.osl o off len)=[(.osl o off len)]:=rfl
theorem zFO{o:Nat}{es:List D}:AV.size (.acc o es)=1:=rfl
theorem zFg{o:Nat}{es:List D}:AV.cells (.acc o es)=[(.acc o es)]:=rfl
theorem zFS{es:List D}:AV.size (.xsl es)=1:=rfl
theorem zFk{es:List D}:AV.cells (.xsl es)=[(.xsl es)]:=rfl
theorem zFP{cs:List AV}:AV.size (.agg cs)=cs.length:=rfl
theorem zFh{cs:List AV}:AV.cells (.agg cs)=cs:=rfl
section
variable {k:IntKind} {a b:Int}
def zjq(k:IntKind)(a b:Int):Int:=k.wrap (BitVec.ofInt k.bits a &&& BitVec.ofInt k.bits b).toNat
def orI(k:IntKind)(a b:Int):Int:=k.wrap (BitVec.ofInt k.bits a ||| BitVec.ofInt k.bits b).toNat
def zji(k:IntKind)(a b:Int):Int:=k.wrap (BitVec.ofInt k.bits a ^^^ BitVec.ofInt k.bits b).toNat
theorem zPd:zcN .add k a b=some (.int k (k.wrap (a+b))):=rfl
theorem zPp:zcN .sub k a b=some (.int k (k.wrap (a - b))):=rfl
theorem zPk:zcN .mul k a b=some (.int k (k.wrap (a * b))):=rfl
theorem zPn:zcN .quo k a b=if b=0 then none else some (.int k (k.wrap (a.tdiv b))):=rfl
theorem zPo:zcN .rem k a b=if b=0 then none else some (.int k (a.tmod b)):=rfl
theorem zPf:zcN .eql k a b=some (.bool (decide (a=b))):=rfl
theorem zPl:zcN .neq k a b=some (.bool (!decide (a=b))):=rfl
theorem zPj:zcN .lss k a b=some (.bool (decide (a<b))):=rfl
theorem zPi:zcN .leq k a b=some (.bool (decide (a<=b))):=rfl
theorem zPh:zcN .gtr k a b=some (.bool (decide (b<a))):=rfl
theorem zPg:zcN .geq k a b=some (.bool (decide (b<=a))):=rfl
theorem zPe:zcN .and k a b=some (.int k (zjq k a b)):=rfl
theorem zPm:zcN .or k a b=some (.int k (orI k a b)):=rfl
theorem zPq:zcN .xor k a b=some (.int k (zji k a b)):=rfl
end
theorem zIY{ng:Bool}{n:Nat}{ls:List (Nat×Nat)}{a b:List D}:zel H ng n ls (.d (.agg a)) (.d (.agg b))=if a.length=n/\b.length=n then zhY H ng (zek a b ls) else none:=rfl
attribute [go_sem] zuj zuk zul zum zup zuq zFX
attribute [go_sem] zVl zVj zVo zCb zCa zoG zlW zCA zoM zoK zoL
theorem zSF{x:AV}{off:Nat}{v:AV}:zds x off v=if off=0/\v.size=x.size then some v else if off+v.size<=x.size then some (AV.mkAgg (zfB x.cells off v.cells)) else none:=rfl
attribute [go_sem] zYD zYy zYB zYA zYx zYC zYw zGR zYu zYz zO1 zO0 zPW zRS zRR deX znq zIK zOU zhK zti zWd zWe zQU zQT zQV zur zF3 zF4 zOt zOq zOs zOr zOo zOp zHb zHf zHc zHe zHd zHa zfr zRk zPO zPP zF2 zQ7 zRU zRV zRT zHg zHi zHj zHh zH0 zHZ zTp zTn zTo zUZ zVs zGn zGm zJ3 zJ2 zJ1 zVp zVt zUY zU3 zVr zU9 zVq zVw zU8 zVi zVm zJC zJE zJn zJr zJq zJz zJG zJD zJp zJu zJH zJt zJw zJx zJy znH zry zVf zJF zJv zJA zJo zJB zWE zGr zWD zGq zWG zGt zWF zGs size_agg zGp zFL zFQ zFi zFR zFj zFO zFg zFS zFk zFP zFh zY5 zn Opd.ev zYU zYS Go.Sim.look zN zeb z0s Option.getD_none zgQ zPd zPp zPk zPn zPo zPf zPl zPj zPi zPh zPg zPe zPm zPq zkK zmI zZv z1G zZn Option.bind_none zfY List.contains_cons List.contains_nil z03 z0t z04 zZY Bool.or_self zYX zZK zZj z0j beq_self_eq_true zaV zam AV.refs AV.refsL Obj.refs z0u z0b zZ5 zZH zZX zZI z0k zZZ zb9 zdX z0v z0D List.getElem?_nil zYW zYY zZq List.drop_succ_cons List.take_succ_cons zZE zSF zfB AV.mkAgg AV.mkTup AV.mkFn zbq zUs zUu zhW zqB zqB.consQ zEo zUr zUt zDy toD toD.toDs zbC slD ne_eq zY2 zZm Nat.succ_ne_self z1l z1m eq_self_iff_true zbQ AOp.foot AOp.wr AOp.looks AOp.news AOp.opds zhQ AV.objs AV.objsL zZ0 List.all_nil z0l z1n List.headD_cons List.headD_nil List.tail_cons List.tail_nil zZb zZh zZd zeo unX zjh zmN zbz List.set_cons_zero List.set_cons_succ Nat.lt_add_one Nat.zero_lt_one Nat.one_lt_two z1o ziH zC.newNames fr4 zdm zck zjv zng zas zbI zaA zcl zbD zfs zc1 zkE zaN pos AV.ren AV.renL Obj.ren zfM zeg AV.flat AV.flatL Obj.flat D.flat D.flatL zag mmD zgh zjJ zpe zf5 za4 frs znQ zpv ztH ztI zhP zl5 zps ztA ztB zki zl4 zpu ztG zpt ztE zhA zlm zll zmq rnm Option.isNone_some Option.isNone_none ziz zgC zgf zdf zhJ zpk gc1 gc ziW zek zhD List.flatMap_nil List.flatMap_cons z0E z0m List.getD_cons_zero List.getD_cons_succ decide_true decide_false if_true if_false List.isEmpty_nil List.isEmpty_cons zR0 okN zsI zmJ zSD osN zOg zOf zKd znG zHI zHH zUm zUl zRY zRX zI7 zI6 zHK zHJ zyC zGA zGz znJ zOe zOd zUO zUN zFf zFe znt zIO zOZ zOY zsJ okO zR1 zCQ okG zRZ zoV zSE evs evO evB evF szF zf7 zms zhY dO pdO peO ldE ldO ldV zVg zjH zVc szR szP szD zBC zhI zrw zVe stF stE stO stV zVv zq4 zVd zpX zU2 zIY zVa bdI bd slM zEX zt3 slL slH ztW ztV zpK zai zsS zsQ zsP zsR zh5 zVu zqW zVb zsi zsj zVh mmV zVn zVk zp2 zU5 zp0 zp1 zU4 zpV zpW zU1 zp zp.srcL zkP zpQ zk4 zpR zU0 zU6 zU7 zJs
theorem zFA{n:Nat}:zap n []=true:=rfl
theorem zmX{n:Nat}{e:D}{es:List D}:zap n (e::es)=(e.size==n&&zap n es):=rfl
theorem zFy{n:Nat}{es fs:List D}:zap n (es++fs)=(zap n es&&zap n fs):=by simp [zap]
theorem zFp{ds:List D}:zbq (ds.map .d)=some ds:=zpM ds
theorem zXE{ns:List Nat}:zea ns dst 0=dst:=by simp [zea]
theorem zXG{ns:List Nat}{n:Nat}(h:¬n<1000000):zea ns dst n=ns.getD (n - 1000000) 0:=by unfold zea;rw[zYP h]
theorem zXF{ns:List Nat}{a:Nat}:zea (a::ns) dst 1000000=a:=by rw[zXG (by omega)];rfl
attribute [go_sem] zXE zXF
attribute [go_sem] zit zlk zjB zjC zno zfO zqF
attribute [go_sem] ziV zl3 zkg zkh zoP zf2 zsH
attribute [go_sem] okA acA zl6 zkX zoR zhp zkl zjl zf3 zcp ztC
attribute [go_sem] okC zcT zl7 zmw okE zh1 zkm zkD zf4 zcw zhE orE zhF zfW znC ztJ
attribute [go_sem] zDr zRW zFA zmX zFy zFp
attribute [go_sem high] ca0 ca1 ca2 ca3 ca4 ca5 cv1
attribute [go_sem low] zGe zGc
attribute [go_sem] zOi zlv zOk zOj zOm zOl mark List.drop_nil Option.isSome_some Option.isSome_none
def D.isT:D->Bool
 | .tup _=>true
 | _=>false
theorem zPL{x:D}:zbX (.d x)=x.isT:=by cases x<;>rfl
theorem zPG{k:IntKind}{n:Int}:D.isT (.int k n)=false:=rfl
theorem zPF{b:Bool}:D.isT (.bool b)=false:=rfl
theorem zPI{s:List UInt8}:D.isT (.str s)=false:=rfl
theorem zPE{cs:List D}:D.isT (.agg cs)=false:=rfl
theorem zPH{es:List D}:D.isT (.sl es)=false:=rfl
theorem zPM{o off len:Nat}:zbX (.osl o off len)=false:=rfl
theorem zPJ{o:Nat}{es:List D}:zbX (.acc o es)=false:=rfl
theorem zPN{es:List D}:zbX (.xsl es)=false:=rfl
theorem zPK{cs:List AV}:zbX (.agg cs)=false:=rfl
attribute [go_sem] zPL zPG zPF zPI zPE zPH zPM zPJ zPN zPK
theorem zUo{ρ:Nat->Nat}{ds:List D}:(ds.map AV.d).map (AV.ren ρ)=ds.map .d:=by rw[z0i];exact z0r fun _ _=>rfl
attribute [go_sem] zUo
theorem GOK.of{P:Program}(tab:List (Nat×AFn))(h:∀p∈tab,zho P p.1 p.2):GOK P (fun f=>look f tab):=fun f fn hf=>h (f,fn) (zar hf)
end Go.Sim

namespace Go.Sim
abbrev oM(d s:Nat):zC:=⟨some d,.mv (.t s),none⟩
abbrev oP(d:Nat)(x:AOp):zC:=⟨some d,x,none⟩
abbrev oQ(d:Nat)(x:AOp)(t:Nat)(b:Bool):zC:=⟨some d,x,some (t,b)⟩
abbrev oN(x:AOp):zC:=⟨none,x,none⟩
abbrev kI(n:Int):Opd:= .c (.d (.int .i64 n))
abbrev aI(n:Int):AV:= .d (.int .i64 n)
open Go (World Value Addr TypeId Act)
variable {G:FuncId->Option AFn}
end Go.Sim

namespace Go.Sim
open Go (Program Func)
def val{x:Option zw}(c:zw)(_:x=some c):zw:=c
theorem iP(n:Nat):Int.ofNat n=(n:Int):=rfl
theorem iN(n:Nat):Int.negSucc n= -((n:Int)+1):=rfl
def bodies:zw->List zw
 | .seq a b=>bodies a++bodies b
 | .cond _ a b=>bodies a++bodies b
 | .block _ a=>bodies a
 | .loop _ a=>bodies a++[a]
 | _=>[]
def zeA:zw->List zw->zw×List zw
 | .seq a b,ls=>(.seq (zeA a ls).1 (zeA b (zeA a ls).2).1,(zeA b (zeA a ls).2).2)
 | .cond z a b,ls=>(.cond z (zeA a ls).1 (zeA b (zeA a ls).2).1,(zeA b (zeA a ls).2).2)
 | .block i a,ls=>(.block i (zeA a ls).1,(zeA a ls).2)
 | .loop ks a,ls=>(match ls.drop (bodies a).length with|x::_=> .loop ks x|[]=> .loop ks a,ls.drop ((bodies a).length+1))
 | c,ls=>(c,ls)
theorem tk{α:Type}{a b:α}(h:a=b:=by kernel_rfl):a=b:=h
theorem zN7{P:Program}{f i:Nat}{fn:Func}{c:zw}{rs:List za6}{nt:Nat}{sl:Bool}(hs:zal)(hf:P.funcs[i]? = some fn)(h0:f=i:=by kernel_rfl)(h1:zdG P f=true:=by kernel_rfl)(h2:fn.body.bind (comp P hs)=some c:=by kernel_rfl)(h3:fn.body.map (zdd fn.ntmps)=some true:=by kernel_rfl)(h4:fn.results.toList.mapM (zeQ P)=some rs:=by kernel_rfl)(h5:fn.ntmps=nt:=by kernel_rfl)(h6:nt<=1000000:=by decide):zho P f (.code c rs nt sl):=⟨h1,fn,hs,h0 ▸ hf,h2,h3,h4,h5,h6⟩
theorem zN8{P:Program}{f i:Nat}{fn:Func}{c:zw}{rs:List za6}{nt:Nat}(hs:zal)(hf:P.funcs[i]? = some fn)(h0:f=i:=by kernel_rfl)(h1:zdG P f=true:=by kernel_rfl)(h2:fn.body.bind (comp P hs)=some c:=by kernel_rfl)(h3:fn.body.map (zdd fn.ntmps)=some true:=by kernel_rfl)(h4:fn.results.toList.mapM (zeQ P)=some rs:=by kernel_rfl)(h5:fn.ntmps=nt:=by kernel_rfl)(h6:nt<=1000000:=by decide):zho P f (.nils c rs nt):=⟨h1,fn,hs,h0 ▸ hf,h2,h3,h4,h5,h6⟩
end Go.Sim

namespace Go.Sim
open Go (Program Func Oper)
def oS:Opd->List Nat
 | .t i=>[i]
 | .c _=>[]
def un(a b:List Nat):List Nat:=a++b.filter fun x=> !a.contains x
def lvO(o:zC)(l:List Nat):List Nat:=
 un (un (o.op.opds.flatMap oS) (match o.guard with|some (g,_)=>[g]|none=>[])) (match o.dst with|some d=>l.filter fun x=> !(x==d)|none=>l)
def dsO:List zC->List Nat
 | []=>[]
 | o::l=>match o.dst with|some d=>d::dsO l|none=>dsO l
def lv:zw->List Nat->List (Nat×List Nat)->zw×List Nat
 | .ops g l _,out,_=>(.ops g l out,l.foldr lvO out)
 | .draw g l f _,out,_=>(.draw g l f out,l.foldr lvO out)
 | .seq a b,out,ex=>(.seq (lv a (lv b out ex).2 ex).1 (lv b out ex).1,(lv a (lv b out ex).2 ex).2)
 | .cond c t e,out,ex=>(.cond c (lv t out ex).1 (lv e out ex).1,un (oS c) (un (lv t out ex).2 (lv e out ex).2))
 | .block i b,out,ex=>(.block i (lv b out ((i,out)::ex)).1,(lv b out ((i,out)::ex)).2)
 | .loop _ b,_,ex=>(.loop (lv b [] ex).2 (lv b (lv b [] ex).2 ex).1,(lv b [] ex).2)
 | .exit i _,_,ex=>(.exit i ((look i ex).getD []),(look i ex).getD [])
 | .ret k,_,_=>(.ret k,k)
 | .skip,out,_=>(.skip,out)
def ziK(i:Nat):zw->List Nat
 | .seq a b=>un (ziK i a) (ziK i b)
 | .cond _ a b=>un (ziK i a) (ziK i b)
 | .block _ a=>ziK i a
 | .loop _ a=>ziK i a
 | .exit j k=>if i==j then k else []
 | _=>[]
def fw:zw->List Nat->zw×List Nat
 | .ops g l o,fr=>(.ops g l ((un fr (dsO l)).filter fun x=> !o.contains x),(un fr (dsO l)).filter fun x=>o.contains x)
 | .draw g l f o,fr=>(.draw g l f ((un fr (dsO l)).filter fun x=> !o.contains x),(un fr (dsO l)).filter fun x=>o.contains x)
 | .seq a b,fr=>(.seq (fw a fr).1 (fw b (fw a fr).2).1,(fw b (fw a fr).2).2)
 | .cond c t e,fr=>(.cond c (fw t fr).1 (fw e fr).1,un (fw t fr).2 (fw e fr).2)
 | .block i b,fr=>(.block i (fw b fr).1,un (fw b fr).2 (ziK i b))
 | .loop h b,fr=>(.loop ((un fr (fw b h).2).filter fun x=> !h.contains x) (fw b h).1,[])
 | .exit i k,_=>(.exit i k,[])
 | .ret k,_=>(.ret k,[])
 | .skip,fr=>(.skip,fr)
def zis(P:Program)(hs:zal):Code->Option zw
 | .skip=>some .skip
 | .region id ops false=>(ops.toList.mapM (zfa P hs ops)).map fun l=> .ops (zgt hs.ghost id) l []
 | .region id ops true=>(ops.toList.mapM (zfa P hs ops)).map fun l=> .draw (zgt hs.ghost id) l ((List.range ops.size).map (zgo ops)) []
 | .seq a b=>match zis P hs a,zis P hs b with|some x,some y=>some (.seq x y)|_,_=>none
 | .cond c t e=>match opd c,zis P hs t,zis P hs e with|some z,some x,some y=>some (.cond z x y)|_,_,_=>none
 | .block id b=>(zis P hs b).map (.block id)
 | .loop b=>(zis P hs b).map (.loop [])
 | .exit id=>some (.exit id [])
 | .ret=>some (.ret hs.ret)
 | _=>none
def rsl:List za6->List Nat
 | []=>[]
 | .c s _ _::l=>s::rsl l
 | .t s::l=>s::rsl l
def zyF(P:Program)(fn:Func)(hs:zal):Option zw:=
 (fn.results.toList.mapM (zeQ P)).bind fun rs=>(fn.body.bind (zis P { hs with ret:=rsl rs })).map fun c=>(fw (lv c (rsl rs) []).1 (List.range (fn.params.size+fn.nfree))).1
def zyH(P:Program)(fn:Func)(hs:zal)(ls:List zw):Option zw:=(zyF P fn hs).map fun c=>(zeA c ls).1
def zyG(P:Program)(fn:Func)(hs:zal)(j:Nat)(ls:List zw):Option zw:=(zyF P fn hs).bind fun c=>(bodies c)[j]?.map fun b=>(zeA b ls).1
def af(P:Program)(sl:Bool)(fn:Func)(c:zw){rs:List za6}{nt:Nat}(_:fn.results.toList.mapM (zeQ P)=some rs:=by conv=>lhs;reduce)(_:fn.ntmps=nt:=by conv=>lhs;reduce):AFn:= .code c rs nt sl
theorem zk{P:Program}{f i:Nat}{fn:Func}{c:zw}{rs:List za6}{nt:Nat}{sl:Bool}(hf:P.funcs[i]? = some fn)(h0:f=i:=by kernel_rfl)(h1:zdG P f=true:=by kernel_rfl)(h2:fn.body.bind (comp P (znS fn c))=some c:=by kernel_rfl)(h3:fn.body.map (zdd fn.ntmps)=some true:=by kernel_rfl)(h4:fn.results.toList.mapM (zeQ P)=some rs:=by kernel_rfl)(h5:fn.ntmps=nt:=by kernel_rfl)(h6:nt<=1000000:=by decide):zho P f (.code c rs nt sl):=zN7 (znS fn c) hf h0 h1 h2 h3 h4 h5 h6
def an(P:Program)(fn:Func)(c:zw){rs:List za6}{nt:Nat}(_:fn.results.toList.mapM (zeQ P)=some rs:=by conv=>lhs;reduce)(_:fn.ntmps=nt:=by conv=>lhs;reduce):AFn:= .nils c rs nt
theorem zAF{P:Program}{f i:Nat}{fn:Func}{c:zw}{rs:List za6}{nt:Nat}(hf:P.funcs[i]? = some fn)(h0:f=i:=by kernel_rfl)(h1:zdG P f=true:=by kernel_rfl)(h2:fn.body.bind (comp P (znS fn c))=some c:=by kernel_rfl)(h3:fn.body.map (zdd fn.ntmps)=some true:=by kernel_rfl)(h4:fn.results.toList.mapM (zeQ P)=some rs:=by kernel_rfl)(h5:fn.ntmps=nt:=by kernel_rfl)(h6:nt<=1000000:=by decide):zho P f (.nils c rs nt):=zN8 (znS fn c) hf h0 h1 h2 h3 h4 h5 h6
end Go.Sim

namespace Go.Proofs.YtjalkkalhdnplaaGreat
open Go Go.Sim
def wl(fn:Func)(hs:zal)(ls:List zw){c:zw}(_:zyH Tryz.prog fn hs ls=some c:=by conv=>lhs;reduce;try simp only[iP,iN,z0a,zZg,zZP]):zw:=c
def wv(fn:Func)(hs:zal)(j:Nat)(ls:List zw){c:zw}(_:zyG Tryz.prog fn hs j ls=some c:=by conv=>lhs;reduce;try simp only[iP,iN,z0a,zZg,zZP]):zw:=c
theorem zYq{fn:Func}{hs:zal}{ls:List zw}{c:zw}(h:zyH Tryz.prog fn hs ls=some c):wl fn hs ls h=c:=rfl
theorem zYt{fn:Func}{hs:zal}{j:Nat}{ls:List zw}{c:zw}(h:zyG Tryz.prog fn hs j ls=some c):wv fn hs j ls h=c:=rfl
attribute [go_sem ↓] zYq zYt
def zuD:=wl Tryz.f6 {} []
def zKm:=af Tryz.prog false Tryz.f6 zuD
def zuQ:=wl Tryz.f7 {obj:=[(9,[true]),(12,[true,false,true]),(13,[false,false,true]),(20,[false,true])]} []
def zKz:=af Tryz.prog true Tryz.f7 zuQ
def zjt:=wl Tryz.f42 {obj:=[(5,[true,false,false]),(7,[true,false,false]),(9,[true,false,false]),(11,[true,false,false]),(16,[true,false,false]),(19,[true,false]),(23,[true,false]),(29,[true,false]),(35,[true,false])]} []
def zzY:=af Tryz.prog true Tryz.f42 zjt
def zuL:=wl Tryz.f21 {obj:=[(13,[true,false])]} []
def zKu:=af Tryz.prog true Tryz.f21 zuL
def zuJ:=wl Tryz.f13 {obj:=[(9,[true])]} []
def zKs:=af Tryz.prog true Tryz.f13 zuJ
def zuM:=wl Tryz.f54 {} []
def zKv:=af Tryz.prog true Tryz.f54 zuM
def zBf:zal:={obj:=[(18,[true,true])],acc:=[5]}
@[irreducible] def zlJ:=wv Tryz.f43 zBf 0 []
def zuN:=wl Tryz.f43 zBf [zlJ]
def zKw:=af Tryz.prog true Tryz.f43 zuN
def zuI:=wl Tryz.f10 {} []
def zKr:=af Tryz.prog true Tryz.f10 zuI
def zrl:zal:={ghost:=[(16,[4000054]),(28,[4000103])],obj:=[(9,[true,false]),(14,[true,false]),(17,[true,false]),(24,[true,false]),(28,[true,false]),(31,[true,false,false]),(33,[true,false]),(43,[true,false,false]),(52,[true]),(62,[true,false,false]),(65,[true,false]),(72,[true,false,false]),(81,[true,false]),(85,[true,false,false]),(93,[true,false]),(96,[true,false]),(98,[true,false]),(109,[true,false]),(112,[true,false,false]),(118,[true,false,false]),(121,[true,false]),(125,[false,true])]}
@[irreducible] def zlI:=wv Tryz.f93 zrl 0 []
@[irreducible] def zgX:=wv Tryz.f93 zrl 1 []
def zef:=wl Tryz.f93 zrl [zlI,zgX]
def zzW:=af Tryz.prog true Tryz.f93 zef
def zuK:=wl Tryz.f34 {obj:=[(9,[true,false])]} []
def zKt:=af Tryz.prog true Tryz.f34 zuK
def zBc:zal:={ghost:=[(6,[15])],obj:=[(6,[true,false]),(17,[true,false])]}
@[irreducible] def zrE:=wv Tryz.f145 zBc 0 []
def zm4:=wl Tryz.f145 zBc [zrE]
def zzV:=af Tryz.prog true Tryz.f145 zm4
def zuR:=wl Tryz.f146 {} []
def zKA:=af Tryz.prog true Tryz.f146 zuR
def zBy:zal:={obj:=[(13,[false,true]),(36,[false,false,true])]}
@[irreducible] def zsb:=wv Tryz.f41 zBy 0 []
def zx5:=wl Tryz.f41 zBy [zsb]
def zNQ:=af Tryz.prog true Tryz.f41 zx5
def zxZ:=wl Tryz.f44 {obj:=[(8,[false,true])]} []
def zNK:=af Tryz.prog true Tryz.f44 zxZ
def zBs:zal:={obj:=[(64,[false,false,true]),(84,[false,true]),(106,[false,false,false,true]),(127,[false,true])]}
@[irreducible] def zr4:=wv Tryz.f45 zBs 0 []
def zqo:=wl Tryz.f45 zBs [zr4]
def zAv:=af Tryz.prog true Tryz.f45 zqo
def zqq:=wl Tryz.f85 {} []
def zAx:=af Tryz.prog true Tryz.f85 zqq
def zrp:zal:={ghost:=[(6,[4000042])]}
@[irreducible] def zBW:=wv Tryz.f94 zrp 0 []
@[irreducible] def zBX:=wv Tryz.f94 zrp 1 []
def zwn:=wl Tryz.f94 zrp [zBW,zBX]
def zL7:=af Tryz.prog true Tryz.f94 zwn
def zvS:=wl Tryz.f95 {} []
def zLC:=af Tryz.prog true Tryz.f95 zvS
def zqj:=wl Tryz.f76 {} []
def zAi:=af Tryz.prog true Tryz.f76 zqj
def zvX:=wl Tryz.f31 {} []
def zLH:=af Tryz.prog true Tryz.f31 zvX
def zwa:=wl Tryz.f77 {} []
def zLU:=af Tryz.prog true Tryz.f77 zwa
def znc:=wl Tryz.f96 {} []
def zAr:=af Tryz.prog true Tryz.f96 znc
def zrs:zal:={ghost:=[(24,[4000090])],obj:=[(44,[false,false,true]),(57,[false,false,true]),(88,[false,false,true]),(95,[false,false,true])]}
@[irreducible] def zsa:=wv Tryz.f92 zrs 0 []
@[irreducible] def zlU:=wv Tryz.f92 zrs 1 []
def zx4:=wl Tryz.f92 zrs [zsa,zlU]
def zNP:=af Tryz.prog true Tryz.f92 zx4
def zBw:zal:={ghost:=[(7,[6])],acc:=[3]}
@[irreducible] def zr8:=wv Tryz.f55 zBw 0 []
def zx0:=wl Tryz.f55 zBw [zr8]
def zNL:=af Tryz.prog false Tryz.f55 zx0
def zx1:=wl Tryz.f142 {obj:=[(23,[false,false,true])]} []
def zNM:=af Tryz.prog true Tryz.f142 zx1
def zBx:zal:={ghost:=[(8,[82])],obj:=[(24,[false,false,false,true])]}
@[irreducible] def zr9:=wv Tryz.f186 zBx 0 []
def zx3:=wl Tryz.f186 zBx [zr9]
def zNO:=af Tryz.prog true Tryz.f186 zx3
def zxX:=wl Tryz.f56 {obj:=[(12,[false,true]),(25,[false,false,false,true]),(35,[false,false,false,true]),(47,[false,false,false,true]),(57,[false,false,false,true]),(67,[false,false,false,true]),(77,[false,false,false,true]),(87,[false,false,false,true]),(97,[false,false,false,true]),(107,[false,false,false,true]),(118,[false,false,false,true]),(128,[false,false,false,true]),(133,[false,true])]} []
def zNI:=af Tryz.prog true Tryz.f56 zxX
def zxh:=wl Tryz.f99 {} []
def zM1:=af Tryz.prog true Tryz.f99 zxh
def zxo:=wl Tryz.f100 {obj:=[(26,[false,true]),(46,[false,false,false,true]),(52,[false,false,false,true]),(67,[false,false,false,false,true]),(74,[false,true]),(103,[false,false,false,false,true]),(108,[false,false,false,true]),(117,[false,true]),(125,[false,true]),(145,[false,false,false,true]),(152,[false,false,false,true])]} []
def zM8:=af Tryz.prog true Tryz.f100 zxo
def zxj:=wl Tryz.f148 {} []
def zM3:=af Tryz.prog true Tryz.f148 zxj
def zwA:=wl Tryz.f149 {} []
def zMk:=af Tryz.prog true Tryz.f149 zwA
def zxg:=wl Tryz.f150 {} []
def zM0:=af Tryz.prog true Tryz.f150 zxg
def zxc:=wl Tryz.f151 {} []
def zMW:=af Tryz.prog true Tryz.f151 zxc
def zxb:=wl Tryz.f204 {} []
def zMV:=af Tryz.prog true Tryz.f204 zxb
def zwy:=wl Tryz.f152 {} []
def zMi:=af Tryz.prog true Tryz.f152 zwy
def zu9:=wl Tryz.f154 {} []
def zKT:=af Tryz.prog true Tryz.f154 zu9
@[irreducible] def zlM:=wv Tryz.f205 {} 0 []
def zla:=wl Tryz.f205 {} [zlM]
def zAe:=af Tryz.prog false Tryz.f205 zla
@[irreducible] def zrK:=wv Tryz.f206 {} 0 []
def zva:=wl Tryz.f206 {} [zrK]
def zKU:=af Tryz.prog true Tryz.f206 zva
def zw9:=wl Tryz.f153 {} []
def zMT:=af Tryz.prog true Tryz.f153 zw9
def zxk:=wl Tryz.f155 {obj:=[(10,[false,true]),(22,[false,false,false,true])]} []
def zM4:=af Tryz.prog true Tryz.f155 zxk
def zwC:=wl Tryz.f158 {} []
def zMm:=af Tryz.prog true Tryz.f158 zwC
@[irreducible] def zlT:=wv Tryz.f207 {} 0 []
def zwo:=wl Tryz.f207 {} [zlT]
def zL8:=af Tryz.prog true Tryz.f207 zwo
@[irreducible] def zrZ:=wv Tryz.f218 {} 0 []
@[irreducible] def zoo:=wv Tryz.f218 {} 1 []
@[irreducible] def zr0:=wv Tryz.f218 {} 2 []
@[irreducible] def zr1:=wv Tryz.f218 {} 3 []
@[irreducible] def zop:=wv Tryz.f218 {} 4 []
@[irreducible] def zoq:=wv Tryz.f218 {} 5 [zop]
def zwr:=wl Tryz.f218 {} [zrZ,zoo,zr0,zr1,zop,zoq]
def zMb:=af Tryz.prog true Tryz.f218 zwr
@[irreducible] def zr2:=wv Tryz.f217 {} 0 []
def zws:=wl Tryz.f217 {} [zr2]
def zMc:=af Tryz.prog true Tryz.f217 zws
def zxm:=wl Tryz.f161 {obj:=[(12,[false,false,true])]} []
def zM6:=af Tryz.prog true Tryz.f161 zxm
def zwU:=wl Tryz.f219 {obj:=[(10,[false,true])]} []
def zME:=af Tryz.prog true Tryz.f219 zwU
@[irreducible] def zr5:=wv Tryz.f273 {} 0 []
def zwQ:=wl Tryz.f273 {} [zr5]
def zMA:=af Tryz.prog true Tryz.f273 zwQ
def zxi:=wl Tryz.f156 {obj:=[(21,[false,false,false,false,true])]} []
def zM2:=af Tryz.prog true Tryz.f156 zxi
def zwV:=wl Tryz.f208 {obj:=[(19,[false,false,false,false,true])]} []
def zMF:=af Tryz.prog true Tryz.f208 zwV
def zw4:=wl Tryz.f271 {obj:=[(28,[false,false,false,true]),(42,[false,false,true]),(48,[false,false,true]),(57,[false,false,false,true]),(65,[false,false,true]),(89,[false,false,true]),(98,[false,false,false,true]),(106,[false,false,true]),(115,[false,false,false,true]),(126,[false,false,false,true]),(140,[false,false,true])]} []
def zMO:=af Tryz.prog true Tryz.f271 zw4
def zwR:=wl Tryz.f292 {} []
def zMB:=af Tryz.prog true Tryz.f292 zwR
def zwK:=wl Tryz.f22 {obj:=[(32,[false,false,false,true])]} []
def zMu:=af Tryz.prog true Tryz.f22 zwK
def zwO:=wl Tryz.f66 {} []
def zMy:=af Tryz.prog true Tryz.f66 zwO
def zwF:=wl Tryz.f67 {} []
def zMp:=af Tryz.prog true Tryz.f67 zwF
def zwM:=wl Tryz.f68 {ghost:=[(5,[36])]} []
def zMw:=af Tryz.prog true Tryz.f68 zwM
def zwL:=wl Tryz.f313 {obj:=[(31,[false,false,false,true])]} []
def zMv:=af Tryz.prog true Tryz.f313 zwL
def zwZ:=wl Tryz.f281 {} []
def zMJ:=af Tryz.prog true Tryz.f281 zwZ
@[irreducible] def zov:=wv Tryz.f293 {} 0 []
def zw3:=wl Tryz.f293 {} [zov]
def zMN:=af Tryz.prog true Tryz.f293 zw3
def zw2:=wl Tryz.f294 {obj:=[(76,[false,false,false,false,true]),(95,[false,false,true])]} []
def zMM:=af Tryz.prog true Tryz.f294 zw2
def zwE:=wl Tryz.f26 {} []
def zMo:=af Tryz.prog true Tryz.f26 zwE
def zqr:=wl Tryz.f70 {} []
def zAy:=af Tryz.prog true Tryz.f70 zqr
def zwt:=wl Tryz.f314 {} []
def zMd:=af Tryz.prog true Tryz.f314 zwt
def zwI:=wl Tryz.f36 {ghost:=[(7,[88])]} []
def zMs:=af Tryz.prog true Tryz.f36 zwI
def zwN:=wl Tryz.f81 {} []
def zMx:=af Tryz.prog true Tryz.f81 zwN
def zw1:=wl Tryz.f295 {obj:=[(23,[false,true]),(28,[false,false,true]),(50,[false,false,true])]} []
def zML:=af Tryz.prog true Tryz.f295 zw1
def zwB:=wl Tryz.f315 {} []
def zMl:=af Tryz.prog true Tryz.f315 zwB
def zwD:=wl Tryz.f24 {} []
def zMn:=af Tryz.prog true Tryz.f24 zwD
def zwS:=wl Tryz.f296 {} []
def zMC:=af Tryz.prog true Tryz.f296 zwS
def zw5:=wl Tryz.f297 {obj:=[(36,[false,false,false,true]),(49,[false,false,false,false,true]),(82,[false,false,true]),(85,[false,false,true])]} []
def zMP:=af Tryz.prog true Tryz.f297 zw5
def zwG:=wl Tryz.f39 {} []
def zMq:=af Tryz.prog true Tryz.f39 zwG
def zwi:=wl Tryz.f89 {} []
def zL2:=af Tryz.prog true Tryz.f89 zwi
@[irreducible] def zok:=wv Tryz.f134 {} 0 []
@[irreducible] def zol:=wv Tryz.f134 {} 1 []
def zwj:=wl Tryz.f134 {} [zok,zol]
def zL3:=af Tryz.prog true Tryz.f134 zwj
def zvj:=wl Tryz.f195 {} []
def zK3:=af Tryz.prog true Tryz.f195 zvj
def zvk:=wl Tryz.f260 {} []
def zK4:=af Tryz.prog true Tryz.f260 zvk
@[irreducible] def zrL:=wv Tryz.f130 {} 0 []
def zvc:=wl Tryz.f130 {} [zrL]
def zKW:=af Tryz.prog true Tryz.f130 zvc
def zwH:=wl Tryz.f33 {ghost:=[(10,[86])]} []
def zMr:=af Tryz.prog true Tryz.f33 zwH
@[irreducible] def zoi:=wv Tryz.f82 {} 0 []
@[irreducible] def zoj:=wv Tryz.f82 {} 1 []
def zv5:=wl Tryz.f82 {} [zoi,zoj]
def zLP:=af Tryz.prog true Tryz.f82 zv5
def zn6:zw:=
 (.seq (.seq (.ops [] [oM 42 4,oM 43 3,oP 44 (.bin .lss (.t 42) (.t 43))] [42,43])
 (.cond (.t 44) .skip (.exit 0 [1])))
 (.seq (.block 1 (.seq (.draw [] [oP 47 (.fad false 0 1 (.t 1)),oP 48 (.ld false 1 (.t 47)),oP 49 (.fad false 1 1 (.t 1)),oP 50 (.ld false 1 (.t 49)),oM 51 4,oP 52 (.bin .add (.t 50) (.t 51)),oM 53 3,oP 54 (.bin .rem (.t 52) (.t 53)),oP 55 (.iad 7 (.t 48) (.t 54)),oP 56 (.ld true 7 (.t 55)),oP 57 (.build [aI 0,aI 0,aI 0,aI 0,aI 0,aI 0,.d (.str [])] []),oP 58 (.eqs true 7 [(0,0),(1,0),(2,0),(3,0),(4,0),(5,0),(6,2)] (.t 56) (.t 57))] [[],[],[0,1],[0,1],[0,1,2,3],[0,1],[0,1,2,3,4,5],[0,1],[],[],[0,1,2,3,4,5,6,7,8,9],[]] [44,47,48,49,50,51,52,53,54,55,56,57])
 (.cond (.t 58) (.seq (.ops [] [oP 2 (.mv (kI 7))] [1,3,4,58])
 (.ret [2])) .skip)))
 (.ops [] [oM 45 4,oP 46 (.bin .add (.t 45) (kI 1)),oM 4 46] [45,46,58])))
def zn7:zw:=
 (.seq (.seq (.ops [] [oM 61 6,oM 62 5,oP 63 (.len (.t 62)),oP 64 (.bin .lss (.t 61) (.t 63))] [61,62,63])
 (.cond (.t 64) .skip (.exit 2 [5])))
 (.seq (.block 3 (.seq (.ops [] [oM 67 5,oM 68 6,oP 69 (.iad 7 (.t 67) (.t 68)),oP 70 (.ld true 7 (.t 69)),oP 71 (.call 195 [] [.t 70]),oM 7 71] [64,67,68,69,70,71])
 (.seq (.ops [] [oM 72 7,oP 73 (.bin .neq (.t 72) (kI 0))] [72])
 (.cond (.t 73) (.seq (.ops [] [oM 74 7,oM 2 74] [5,6,7,73,74])
 (.ret [2])) .skip))))
 (.ops [] [oM 65 6,oP 66 (.bin .add (.t 65) (kI 1)),oM 6 66] [7,65,66,73])))
def zn8:zw:=
 (.seq (.seq (.ops [] [oM 75 8,oM 76 5,oP 77 (.len (.t 76)),oP 78 (.bin .lss (.t 75) (.t 77))] [75,76,77])
 (.cond (.t 78) .skip (.exit 4 [])))
 (.seq (.block 5 (.seq (.ops [] [oM 81 5,oM 82 5,oM 83 8,oP 84 (.iad 7 (.t 82) (.t 83)),oP 85 (.fad false 0 1 (.t 84)),oP 86 (.ld false 1 (.t 85)),oP 87 (.call 130 [] [.t 81,.t 86]),oM 88 8,oP 89 (.bin .neq (.t 87) (.t 88))] [78,81,82,83,84,85,86,87,88])
 (.cond (.t 89) (.seq (.ops [] [oP 2 (.mv (kI 10))] [5,8,89])
 (.ret [2])) .skip)))
 (.ops [] [oM 79 8,oP 80 (.bin .add (.t 79) (kI 1)),oM 8 80] [79,80,89])))
def zvr:zw:=
 (.seq (.ops [] [oP 1 (.box (.t 0)),oP 2 (.mv (kI 0))] [0,2])
 (.seq (.ops [] [oP 9 (.fad false 0 1 (.t 1)),oP 10 (.ld false 1 (.t 9)),oP 11 (.len (.t 10)),oM 3 11] [9,10,11])
 (.seq (.seq (.ops [] [oM 12 3,oP 13 (.bin .lss (.t 12) (kI 1)),oM 14 13,oQ 15 (.mv (.t 3)) 14 false,oQ 16 (.bin .gtr (.t 15) (kI 12)) 14 false,oP 17 (.pick (.t 14) (.c (.d (.bool true))) (.t 16)),oM 18 17,oQ 19 (.fad false 1 1 (.t 1)) 18 false,oQ 20 (.ld false 1 (.t 19)) 18 false,oQ 21 (.bin .lss (.t 20) (kI 0)) 18 false,oP 22 (.pick (.t 18) (.c (.d (.bool true))) (.t 21)),oM 23 22,oQ 24 (.fad false 1 1 (.t 1)) 23 false,oQ 25 (.ld false 1 (.t 24)) 23 false,oQ 26 (.mv (.t 3)) 23 false,oQ 27 (.bin .geq (.t 25) (.t 26)) 23 false,oP 28 (.pick (.t 23) (.c (.d (.bool true))) (.t 27)),oM 29 28,oQ 30 (.fad false 2 1 (.t 1)) 29 false,oQ 31 (.ld false 1 (.t 30)) 29 false,oQ 32 (.bin .lss (.t 31) (kI 0)) 29 false,oP 33 (.pick (.t 29) (.c (.d (.bool true))) (.t 32)),oM 34 33,oQ 35 (.fad false 2 1 (.t 1)) 34 false,oQ 36 (.ld false 1 (.t 35)) 34 false,oQ 37 (.mv (.t 3)) 34 false,oQ 38 (.bin .gtr (.t 36) (.t 37)) 34 false,oP 39 (.pick (.t 34) (.c (.d (.bool true))) (.t 38))] [12,13,14,15,16,17,18,19,20,21,22,23,24,25,26,27,28,29,30,31,32,33,34,35,36,37,38])
 (.cond (.t 39) (.seq (.ops [] [oP 2 (.mv (kI 1))] [1,3,39])
 (.ret [2])) .skip))
 (.seq (.seq (.ops [] [oP 40 (.fad false 2 1 (.t 1)),oP 41 (.ld false 1 (.t 40)),oM 4 41] [39,40,41])
 (.block 0 (.loop [] zn6)))
 (.seq (.ops [] [oP 59 (.ld true 3 (.t 1)),oP 60 (.call 147 [] [.t 59]),oM 5 60] [1,3,4,44,59,60])
 (.seq (.seq (.ops [] [oP 6 (.mv (kI 0))] [])
 (.block 2 (.loop [] zn7)))
 (.seq (.seq (.ops [] [oP 8 (.mv (kI 0))] [6,64])
 (.block 4 (.loop [] zn8)))
 (.seq (.ops [] [oP 2 (.mv (kI 0))] [5,8,78])
 (.ret [2])))))))))
def zLb:=af Tryz.prog true Tryz.f127 zvr
def zBh:zal:={acc:=[3]}
@[irreducible] def zn9:=wv Tryz.f147 zBh 0 []
def zvs:=wl Tryz.f147 zBh [zn9]
def zLc:=af Tryz.prog false Tryz.f147 zvs
@[irreducible] def zrW:=wv Tryz.f128 {} 0 []
@[irreducible] def zoc:=wv Tryz.f128 {} 1 []
def zvG:=wl Tryz.f128 {} [zrW,zoc]
def zLq:=af Tryz.prog true Tryz.f128 zvG
@[irreducible] def zrO:=wv Tryz.f196 {} 0 []
@[irreducible] def zrP:=wv Tryz.f196 {} 1 []
@[irreducible] def zrQ:=wv Tryz.f196 {} 2 []
def zql:=wl Tryz.f196 {} [zrO,zrP,zrQ]
def zAm:=af Tryz.prog true Tryz.f196 zql
def zvy:=wl Tryz.f261 {} []
def zLi:=af Tryz.prog true Tryz.f261 zvy
@[irreducible] def zrR:=wv Tryz.f262 {} 0 []
def zqm:=wl Tryz.f262 {} [zrR]
def zAo:=af Tryz.prog true Tryz.f262 zqm
def zvw:=wl Tryz.f263 {} []
def zLg:=af Tryz.prog true Tryz.f263 zvw
@[irreducible] def zrX:=wv Tryz.f197 {} 0 []
def zvH:=wl Tryz.f197 {} [zrX]
def zLr:=af Tryz.prog true Tryz.f197 zvH
def zvK:=wl Tryz.f129 {} []
def zLu:=af Tryz.prog true Tryz.f129 zvK
def zv0:=wl Tryz.f50 {} []
def zLK:=af Tryz.prog true Tryz.f50 zv0
def zvm:=wl Tryz.f98 {} []
def zK6:=af Tryz.prog true Tryz.f98 zvm
def zBn:zal:={acc:=[3]}
@[irreducible] def zog:=wv Tryz.f51 zBn 0 []
def zvU:=wl Tryz.f51 zBn [zog]
def zLE:=af Tryz.prog true Tryz.f51 zvU
def zw7:=wl Tryz.f282 {obj:=[(14,[false,false,true]),(17,[false,true])]} []
def zMR:=af Tryz.prog true Tryz.f282 zw7
def zw0:=wl Tryz.f307 {obj:=[(9,[false,true]),(19,[false,false,true])]} []
def zMK:=af Tryz.prog true Tryz.f307 zw0
def zwP:=wl Tryz.f322 {} []
def zMz:=af Tryz.prog true Tryz.f322 zwP
def zwY:=wl Tryz.f298 {obj:=[(15,[false,true]),(28,[false,false,true]),(42,[false,false,false,true]),(60,[false,false,true])]} []
def zMI:=af Tryz.prog true Tryz.f298 zwY
def zhu:=wl Tryz.f316 {ghost:=[(21,[144]),(28,[144])]} []
def zAt:=af Tryz.prog true Tryz.f316 zhu
def zwz:=wl Tryz.f317 {} []
def zMj:=af Tryz.prog true Tryz.f317 zwz
end Go.Proofs.YtjalkkalhdnplaaGreat
