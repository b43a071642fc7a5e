/-
  The steps of the calculus in forms that rewriting takes at o.
-/
import Derived.Test.YtnmcgdpmikhohaaGreatBe13733c
set_option linter.unusedSimpArgs false
set_option linter.unusedVariables false
set_option maxHeartbeats 10000000
set_option maxRecDepth 100000
namespace Go.Sim
open Go (World Value Addr TypeId Act)
variable {P:Program}
open Classical in
noncomputable def lim{α:Type}(x:Nat->Option α):Option α:=if h:∃n,(x n).isSome=true then x (Classical.choose h) else none
def zO{α:Type}(x:Nat->Option α):Prop:=∀n m a,n<=m->x n=some a->x m=some a
theorem zO.of_succ{α:Type}{x:Nat->Option α}(h:∀n a,x n=some a->x (n+1)=some a):zO x:=by
 intro n m a hnm hx
 induction hnm with
 | refl=>exact hx
 | step _ ih=>exact h _ _ ih
theorem zeg{α:Type}{x:Nat->Option α}(h:zO x){a:α}:lim x=some a↔∃n,x n=some a:=by
 unfold lim;constructor
 ·intro hl
  split at hl
  ·exact⟨_,hl⟩
  ·cases hl
 ·rintro⟨n,hn⟩;have hex:∃n,(x n).isSome=true:=⟨n,by rw[hn];rfl⟩;rw[dif_pos hex];have hs:=zaci hex;obtain⟨b,hb⟩:=zacV.1 hs;have h1:=h _ (max n (Classical.choose hex)) a (Nat.le_max_left ..) hn;have h2:=h _ (max n (Classical.choose hex)) b (Nat.le_max_right ..) hb;rw[h1] at h2;cases h2;exact hb
theorem zm1{α:Type}{x y:Option α}(h:∀a,x=some a↔y=some a):x=y:=by
 cases x with
 | some a=>exact ((h a).1 rfl).symm
 | none=>
  cases y with
  | none=>rfl
  | some a=>exact absurd ((h a).2 rfl) (by simp)
theorem zbU{α:Type}(x:Option α):lim (fun _=>x)=x:=
 zm1 fun a=>(zeg (x:=fun _=>x) (fun _ _ _ _ h=>h)).trans ⟨fun⟨_,h⟩=>h,fun h=>⟨0,h⟩⟩
theorem zO.bind{α β:Type}{x:Nat->Option α}{g:Nat->α->Option β}(hx:zO x)(hg:∀a,zO fun n=>g n a):zO fun n=>(x n).bind (g n):=by
 intro n m b hnm h;obtain⟨a,h1,h2⟩:=zabp.1 h;exact zabp.2 ⟨a,hx n m a hnm h1,hg a n m b hnm h2⟩
theorem zfh{α β:Type}{x:Nat->Option α}{g:Nat->α->Option β}(hx:zO x)(hg:∀a,zO fun n=>g n a):lim (fun n=>(x n).bind (g n))=(lim x).bind fun a=>lim fun n=>g n a:=by
 refine zm1 fun b=> ?_;rw[zeg (hx.bind hg)];constructor
 ·rintro⟨n,h⟩;obtain⟨a,h1,h2⟩:=zabp.1 h;exact zabp.2 ⟨a,(zeg hx).2 ⟨n,h1⟩,(zeg (hg a)).2 ⟨n,h2⟩⟩
 ·intro h;obtain⟨a,h1,h2⟩:=zabp.1 h;obtain⟨n,h3⟩:=(zeg hx).1 h1;obtain⟨m,h4⟩:=(zeg (hg a)).1 h2;exact⟨max n m,zabp.2 ⟨a,hx _ _ _ (Nat.le_max_left ..) h3,hg a _ _ _ (Nat.le_max_right ..) h4⟩⟩
theorem zO.map{α β:Type}{x:Nat->Option α}{g:α->β}(hx:zO x):zO fun n=>(x n).map g:=by
 intro n m b hnm h;obtain⟨a,h1,rfl⟩:=zabr.1 h;exact zabr.2 ⟨a,hx n m a hnm h1,rfl⟩
theorem ziX{α β:Type}{x:Nat->Option α}{g:α->β}(hx:zO x):lim (fun n=>(x n).map g)=(lim x).map g:=by
 refine zm1 fun b=> ?_;rw[zeg hx.map];constructor
 ·rintro⟨n,h⟩;obtain⟨a,h1,rfl⟩:=zabr.1 h;exact zabr.2 ⟨a,(zeg hx).2 ⟨n,h1⟩,rfl⟩
 ·intro h;obtain⟨a,h1,rfl⟩:=zabr.1 h;obtain⟨n,h2⟩:=(zeg hx).1 h1;exact⟨n,zabr.2 ⟨a,h2,rfl⟩⟩
theorem zO.const{α:Type}{x:Option α}:zO fun _=>x:=fun _ _ _ _ h=>h
theorem zO.ite{α:Type}{c:Prop}[Decidable c]{x y:Nat->Option α}(hx:zO x)(hy:zO y):zO fun n=>if c then x n else y n:=by
 by_cases h:c
 ·simpa [h] using hx
 ·simpa [h] using hy
variable (G:FuncId->Option AFn)
noncomputable def zi:zaU:=fun f args os=>lim fun n=>za8 G n f args os
noncomputable def exL(c:zg)(S:St):Option (zX×St):=lim fun n=>zbX (za8 G n) n c S
noncomputable def z6(ks:List Nat)(c:zg)(S:St):Option (zX×St):=lim fun n=>zeh ks (zbX (za8 G n) n c) n S
variable {G}
section mono
variable {F F':Nat->zaU} (hF:∀f args os,zO fun n=>F n f args os)
include hF
theorem zGz{E:Env}{H:zd}{dst:Nat}{ns dob:List Nat}{f:FuncId}{zabm:List AV}:(zO fun n=>zfJ (F n) E H dst ns dob f zabm):=by
 unfold zfJ;exact zO.ite ((hF f _ _).bind (fun _=>zO.const)) zO.const
theorem zu1{E:Env}{H:zd}{dst:Nat}{ms:List Bool}{f:FuncId}{args:List AV}:zO fun n=>zcu (F n) E H dst ms f args:=
 zO.bind zO.const fun _=>zGz hF
theorem zHS{E:Env}{H:zd}{dst:Nat}{ms:List Bool}{f:FuncId}{dob:List Nat}{zabm:List AV}:zO fun n=>zgi (F n) E H dst ms f dob zabm:=by
 unfold zgi;exact zO.ite (zO.map (zu1 hF)) zO.const
theorem zq4{E:Env}{H:zd}{dst:Nat}{ms:List Bool}{f:FuncId}{args:List AV}:zO fun n=>zbr (F n) E H dst ms f args:=by
 unfold zbr;exact zO.ite (zO.bind zO.const fun _=>zHS hF) (zu1 hF)
theorem zGC{E:Env}{H:zd}{dst:Nat}{ms:List Bool}{f:AV}{args:List AV}:zO fun n=>zht (F n) E H dst ms f args:=by
 unfold zht
 split
 ·exact zq4 hF
 ·exact zq4 hF
 ·exact zO.const
theorem zQP{E:Env}{H:zd}{dst:Nat}{op:AOp}:zO fun n=>step (F n) E H dst op:=by
 cases op with
 | call f ms xs=>exact (zq4 hF).map
 | callv f ms xs=>exact (zGC hF).map
 | _=>exact zO.const
theorem ztI{x:zK}{S:St}:zO fun n=>zdq (F n) x S:=(zQP hF).map
theorem zrp:∀ {l:List zK} {S:St},zO fun n=>zbu (F n) l S:=by
 intro l
 induction l with
 | nil=>intro S;exact zO.const
 | cons o l ih=>
  intro S;simp only[zbu]
  split
  ·exact (ztI hF).bind (fun _=>ih)
  ·split
   ·exact zO.ite ((ztI hF).bind (fun _=>ih)) ih
   ·exact ih
   ·exact zO.const
theorem zve{x:zK}{fr:List (List Nat)}{acc:List (List Nat×List Nat)}{S:St}:zO fun n=>zdf (F n) x fr acc S:=by
 unfold zdf;exact zO.ite (ztI hF) zO.const
theorem zro:∀ {l:List zK} {fr:List (List Nat)} {acc:List (List Nat×List Nat)} {S:St},zO fun n=>zbz (F n) l fr acc S:=by
 intro l
 induction l with
 | nil=>intro fr acc S;exact zO.const
 | cons o l ih=>
  intro fr acc S;simp only[zbz]
  split
  ·exact (zve hF).bind (fun _=>ih)
  ·split
   ·exact zO.ite ((zve hF).bind (fun _=>ih)) (zO.bind zO.const (fun _=>ih))
   ·exact zO.bind zO.const (fun _=>ih)
   ·exact zO.const
theorem zvd{l:List zK}{fr:List (List Nat)}{S:St}:zO fun n=>zfQ (F n) l fr S:=by
 unfold zfQ;exact zO.ite (zro hF) zO.const
omit hF in
theorem zQx{g:Nat->St->Option (zX×St)}(hg:∀S,zO fun n=>g n S){p:zX×St}:zO fun n=>zhh (g n) p:=by
 unfold zhh
 split
 ·exact hg _
 ·exact zO.const
 ·exact zO.const
omit hF in
theorem zBd{g:Nat->St->Option (zX×St)}(hg:∀S,zO fun n=>g n S){ks:List Nat}{p:zX×St}:zO fun n=>zc0 ks (g n) p:=by
 unfold zc0
 split
 ·exact hg _
 ·exact zO.const
 ·exact zO.const
omit hF in
theorem zMh{b:Nat->St->Option (zX×St)}(hb:∀S,zO fun n=>b n S):∀ {ks:List Nat} {k:Nat} {S:St},zO fun n=>zeh ks (b n) k S:=by
 intro ks k
 induction k with
 | zero=>intro S;exact zO.const
 | succ k ih=>intro S;exact (hb S).bind fun p=>zBd fun _=>ih
omit hF in
theorem zMi{ks:List Nat}{b:St->Option (zX×St)}:∀ {S:St},zO fun k=>zeh ks b k S:=by
 intro S;refine zO.of_succ fun k=> ?_
 induction k generalizing S with
 | zero=>intro a h;cases h
 | succ k ih=>
  intro a h;simp only[zeh] at h ⊢;obtain⟨p,h1,h2⟩:=zabp.1 h;refine zabp.2 ⟨p,h1,?_⟩;unfold zc0 at h2 ⊢
  split at h2
  ·exact ih _ h2
  ·exact h2
  ·exact h2
omit hF in
theorem zMg{b:Nat->St->Option (zX×St)}(hb:∀S,zO fun n=>b n S){ks:List Nat}{S:St}:zO fun n=>zeh ks (b n) n S:=fun n m a hnm h=>
 zMh hb n m a hnm (zMi n m a hnm h)
theorem zfV:∀ {c:zg} {S:St},zO fun n=>zbX (F n) n c S:=by
 intro c
 induction c with
 | skip=>intro S;exact zO.const
 | exit i ks=>intro S;exact zO.const
 | ret ks=>intro S;exact zO.const
 | ops gs l ks=>intro S;exact (zO.bind zO.const fun _=>zrp hF).map
 | draw gs l fr ks=>intro S;exact (zO.bind zO.const fun _=>zvd hF).map
 | seq x y ih1 ih2=>intro S;exact ih1.bind fun p=>zQx fun S=>ih2
 | cond c x y ih1 ih2=>
  intro S;simp only[zbX,zhz]
  split
  ·exact zO.ite ih1 ih2
  ·exact zO.const
 | block id x ih=>intro S;exact ih.map
 | loop ks x ih=>intro S;exact zMg fun S=>ih
end mono
theorem zbC(f:FuncId)(args:List AV)(os:zd):zO fun n=>za8 G n f args os:=by
 refine zO.of_succ fun n=> ?_
 induction n generalizing f args os with
 | zero=>intro a h;cases h
 | succ n ih=>
  -- two steps: more fuel for the calls, more rounds
  have code:∀(c:zg) (rs:List zl) (nt:Nat) (sl:Bool) (args:List AV) (os:zd) (a:AV×zd),ze2 (za8 G n) n args os c rs nt sl=some a->ze2 (za8 G (n+1)) (n+1) args os c rs nt sl=some a:=by
   intro c rs nt sl args os a h2;simp only[ze2] at h2 ⊢
   split at h2
   ·rename_i hc;rw[zabo hc];obtain⟨p,h3,h4⟩:=zabp.1 h2;refine zabp.2 ⟨p,?_,h4⟩
    let Fs:Nat->zaU:=fun k=>if k<=n then za8 G n else za8 G (n+1)
    have hFs:∀f args os,zO fun k=>Fs k f args os:=fun f args os=>zO.of_succ fun k a h=>by
     simp only[Fs] at h ⊢
     split at h
     ·split
      ·exact h
      ·exact ih f args os a h
     ·rename_i hk;rw[zabn (by omega)];exact h
    have:=zfV (F:=Fs) hFs (c:=c) (S:=⟨enter args++zf1 os,os⟩) n (n+1) p (by omega);simp only[Fs,zabR,if_true] at this;rw[zabn (by omega)] at this;exact this h3
   ·cases h2
  intro a h;have h:(G f).bind (fnF (za8 G n) n args os)=some a:=h;show (G f).bind (fnF (za8 G (n+1)) (n+1) args os)=some a;obtain⟨fn,h1,h2⟩:=zabp.1 h;refine zabp.2 ⟨fn,h1,?_⟩
  cases fn with
  | ext g=>exact h2
  | code c rs nt sl=>exact code c rs nt sl args os a h2
  | nils c rs nt=>
   have new0:∀ {x:Option (AV×zd)},zkm x=true->x=some (.acc 0 [],[(0,.acc 0)]):=fun {x} hx=>by
    unfold zkm at hx
    split at hx
    ·rfl
    ·cases hx
   show zmY (za8 G (n+1)) (n+1) args os c rs nt=some a;have h2:zmY (za8 G n) n args os c rs nt=some a:=h2;unfold zmY at h2 ⊢
   split at h2
   ·rename_i he;rw[zabo he]
    split at h2
    ·rename_i hn;simp only[zabH] at hn;rw[code _ _ _ _ _ _ _ (new0 hn.1),code _ _ _ _ _ _ _ (new0 hn.2)];exact h2
    ·cases h2
   ·rename_i he;rw[zabn he];exact code _ _ _ _ _ _ _ h2
theorem zGB{f:FuncId}{args:List AV}{os:zd}{p:AV×zd}:zi G f args os=some p↔∃n,za8 G n f args os=some p:=zeg (zbC f args os)
theorem zL6{E:Env}{H:zd}{dst:Nat}{ms:List Bool}{f:FuncId}{args:List AV}:lim (fun n=>zcu (za8 G n) E H dst ms f args)=zcu (zi G) E H dst ms f args:=by
 unfold zcu;rw[zfh zO.const fun _=>zGz zbC,zbU]
 congr 1;funext zabm
 unfold zfJ
 split
 ·rw[zfh (g:=fun _=>zeI E H dst (zbF H ms args) (zaz ms args)) (zbC _ _ _) fun _=>zO.const]
  congr 1;funext p
  exact zbU _
 ·exact zbU _
theorem zA9{E:Env}{H:zd}{dst:Nat}{ms:List Bool}{f:FuncId}{args:List AV}:lim (fun n=>zbr (za8 G n) E H dst ms f args)=zbr (zi G) E H dst ms f args:=by
 unfold zbr
 split
 ·rw[zfh zO.const fun _=>zHS zbC,zbU]
  congr 1;funext zabm
  unfold zgi
  split
  ·rw[ziX (zu1 zbC),zL6]
  ·exact zbU _
 ·exact zL6
theorem zY4{E:Env}{H:zd}{dst:Nat}{op:AOp}:lim (fun n=>step (za8 G n) E H dst op)=step (zi G) E H dst op:=by
 cases op with
 | call f ms xs=>exact (ziX (zq4 zbC)).trans (congrArg _ zA9)
 | callv f ms xs=>
  refine (ziX (zGC zbC)).trans (congrArg _ ?_);unfold zht
  split
  ·exact zA9
  ·exact zA9
  ·exact zbU _
 | _=>exact zbU _
theorem zL7{x:zK}{S:St}:lim (fun n=>zdq (za8 G n) x S)=zdq (zi G) x S:=(ziX (zQP zbC)).trans (congrArg _ zY4)
theorem zY2:∀ {l:List zK} {S:St},lim (fun n=>zbu (za8 G n) l S)=zbu (zi G) l S:=by
 intro l
 induction l with
 | nil=>intro S;exact zbU _
 | cons o l ih=>
  intro S;have key:lim (fun n=>(zdq (za8 G n) o S).bind (zbu (za8 G n) l))=(zdq (zi G) o S).bind (zbu (zi G) l):=by
   rw[zfh (ztI zbC) fun _=>zrp zbC,zL7]
   congr 1;funext p;exact ih
  simp only[zbu]
  split
  ·exact key
  ·split
   ·split
    ·exact key
    ·exact ih
   ·exact ih
   ·exact zbU _
theorem zYZ{x:zK}{fr:List (List Nat)}{acc:List (List Nat×List Nat)}{S:St}:lim (fun n=>zdf (za8 G n) x fr acc S)=zdf (zi G) x fr acc S:=by
 unfold zdf
 split
 ·exact zL7
 ·exact zbU _
theorem zY1:∀ {l:List zK} {fr:List (List Nat)} {acc:List (List Nat×List Nat)} {S:St},lim (fun n=>zbz (za8 G n) l fr acc S)=zbz (zi G) l fr acc S:=by
 intro l
 induction l with
 | nil=>intro fr acc S;exact zbU _
 | cons o l ih=>
  intro fr acc S;have key:lim (fun n=>(zdf (za8 G n) o fr acc S).bind (zbz (za8 G n) l fr.tail (acc++[feet o S])))=(zdf (zi G) o fr acc S).bind (zbz (zi G) l fr.tail (acc++[feet o S])):=by
   rw[zfh (zve zbC) fun _=>zro zbC,zYZ]
   congr 1;funext p;exact ih
  simp only[zbz]
  split
  ·exact key
  ·split
   ·split
    ·exact key
    ·rw[zfh zO.const fun _=>zro zbC,zbU]
     congr 1;funext p;exact ih
   ·rw[zfh zO.const fun _=>zro zbC,zbU]
    congr 1;funext p;exact ih
   ·exact zbU _
theorem zYY{l:List zK}{fr:List (List Nat)}{S:St}:lim (fun n=>zfQ (za8 G n) l fr S)=zfQ (zi G) l fr S:=by
 unfold zfQ
 split
 ·exact zY1
 ·exact zbU _
theorem zVk{S:St}:exL G .skip S=some (.normal,S):=zbU _
theorem zVg{i:Nat}{ks:List Nat}{S:St}:exL G (.exit i ks) S=some (.exit i,endS ks S):=zbU _
theorem zVi{ks:List Nat}{S:St}:exL G (.ret ks) S=some (.ret,endS ks S):=zbU _
theorem zVh{gs:List Nat}{l:List zK}{ks:List Nat}{S:St}:exL G (.ops gs l ks) S=((zfb gs S).bind (zbu (zi G) l)).map (ziT ks):=by
 refine (ziX (zO.bind zO.const fun _=>zrp zbC)).trans (congrArg _ ?_);rw[zfh zO.const fun _=>zrp zbC,zbU]
 congr 1;funext p;exact zY2
theorem zVf{gs:List Nat}{l:List zK}{fr:List (List Nat)}{ks:List Nat}{S:St}:exL G (.draw gs l fr ks) S=((zfb gs S).bind (zfQ (zi G) l fr)).map (ziT ks):=by
 refine (ziX (zO.bind zO.const fun _=>zvd zbC)).trans (congrArg _ ?_);rw[zfh zO.const fun _=>zvd zbC,zbU]
 congr 1;funext p;exact zYY
theorem zVj{x y:zg}{S:St}:exL G (.seq x y) S=(exL G x S).bind (zhh (exL G y)):=by
 refine (zfh (zfV zbC) fun p=>zQx fun S=>zfV zbC).trans ?_
 congr 1;funext p
 unfold zhh
 split
 ·rfl
 ·exact zbU _
 ·exact zbU _
theorem zVe{c:Opd}{x y:zg}{S:St}:exL G (.cond c x y) S=zhz (c.ev S.env) (exL G x S) (exL G y S):=by
 show lim (fun n=>zhz (c.ev S.env) (zbX (za8 G n) n x S) (zbX (za8 G n) n y S))=_;unfold zhz
 split
 ·split
  ·rfl
  ·rfl
 ·exact zbU _
theorem zVd{id:Nat}{x:zg}{S:St}:exL G (.block id x) S=(exL G x S).map (zix id):=ziX (zfV zbC)
theorem zaC{ks:List Nat}{x:zg}{S:St}:z6 G ks x S=(exL G x S).bind (zc0 ks (z6 G ks x)):=by
 have hm:∀S,zO fun n=>zeh ks (zbX (za8 G n) n x) n S:=fun S=>zMg fun S=>zfV zbC;have e1:(exL G x S).bind (zc0 ks (z6 G ks x))=lim fun n=>(zbX (za8 G n) n x S).bind (zc0 ks (zeh ks (zbX (za8 G n) n x) n)):=by
  rw[zfh (zfV zbC) fun p=>zBd hm]
  congr 1;funext p
  unfold zc0
  split
  ·rfl
  ·exact (zbU _).symm
  ·exact (zbU _).symm
 rw[e1];refine zm1 fun a=> ?_;rw[z6,zeg (hm S),zeg ((zfV zbC).bind fun p=>zBd hm)];constructor
 ·rintro⟨n,h⟩
  cases n with
  | zero=>cases h
  | succ n=>
   simp only[zeh] at h;obtain⟨p,h1,h2⟩:=zabp.1 h;refine⟨n+1,zabp.2 ⟨p,h1,?_⟩⟩;unfold zc0 at h2 ⊢
   split at h2
   ·exact zMi n (n+1) a (by omega) h2
   ·exact h2
   ·exact h2
 ·rintro⟨n,h⟩;obtain⟨p,h1,h2⟩:=zabp.1 h;refine⟨n+1,?_⟩;simp only[zeh];refine zabp.2 ⟨p,zfV zbC n (n+1) p (by omega) h1,?_⟩;unfold zc0 at h2 ⊢
  split at h2
  ·exact zMh (fun S=>zfV zbC) n (n+1) a (by omega) h2
  ·exact h2
  ·exact h2
theorem zYX{c:zg}{rs:List zl}{nt:Nat}{sl:Bool}{args:List AV}{os:zd}(hl:args.length<=nt):(zO fun n=>ze2 (za8 G n) n args os c rs nt sl)/\lim (fun n=>ze2 (za8 G n) n args os c rs nt sl)=(exL G c ⟨enter args++zf1 os,os⟩).bind (zgh sl rs os):=by
 have e:(fun n=>ze2 (za8 G n) n args os c rs nt sl)=fun n=>(zbX (za8 G n) n c ⟨enter args++zf1 os,os⟩).bind (zgh sl rs os):=by
  funext n;simp only[ze2];rw[zabo hl]
 rw[e];refine⟨zO.bind (g:=fun _ p=>zgh sl rs os p) (zfV zbC) fun p=>zO.const,?_⟩;rw[zfh (g:=fun _ p=>zgh sl rs os p) (zfV zbC) fun p=>zO.const];show (exL G c ⟨enter args++zf1 os,os⟩).bind _=_
 congr 1;funext p;exact zbU _
theorem zY3{α:Type}{x y:Nat->Option α}(hx:zO x)(hy:zO y)(h0:x 0=none)(h:∀n,x (n+1)=y n):lim x=lim y:=by
 refine zm1 fun a=> ?_;rw[zeg hx,zeg hy];constructor
 ·rintro⟨n,h1⟩
  cases n with
  | zero=>rw[h0] at h1;cases h1
  | succ n=>exact⟨n,by rw[<- h];exact h1⟩
 ·rintro⟨n,h1⟩;exact⟨n+1,by rw[h];exact h1⟩
theorem zI{f:FuncId}{c:zg}{rs:List zl}{nt:Nat}{sl:Bool}(h:G f=some (.code c rs nt sl)){args:List AV}{os:zd}(hl:args.length<=nt):zi G f args os=(exL G c ⟨enter args++zf1 os,os⟩).bind (zgh sl rs os):=by
 obtain⟨h1,h2⟩:=zYX (G:=G) (c:=c) (rs:=rs) (os:=os) (sl:=sl) hl;rw[<- h2];exact zY3 (zbC f args os) h1 rfl fun n=>by simp only[za8,h,zabY,fnF]
theorem zSJ(hG:GOK P G):FOK P (zi G):=by
 intro f args os r os' h h1 h2;obtain⟨n,hn⟩:=zGB.1 h;exact zSG hG n f args os r os' hn h1 h2
theorem zaL {T:Type} {ks:List Nat} {x:zg} (μ:T->Nat) (inv:T->Prop) (st:T->St) (r:T->Option (zX×St))
    (h:∀t,inv t->∀L:St->Option (zX×St),(∀t',inv t'->μ t'<μ t->L (st t')=r t')->(exL G x (st t)).bind (zc0 ks L)=r t):∀t,inv t->z6 G ks x (st t)=r t:=by
 intro t;generalize hk:μ t=k
 induction k using Nat.strongRecOn generalizing t with
 | ind k ih=>
  intro hi;rw[zaC];exact h t hi _ fun t' hi' hlt=>ih (μ t') (by omega) t' rfl hi'
end Go.Sim

namespace Go.Sim
variable {F:zaU} {E:Env} {H:zd} {dst:Nat}
def znI(full:List Nat):List Nat->Bool
 | []=>true
 | x::l=>full.contains x&&znI full l
theorem zCV{full:List Nat}:∀ {l:List Nat},l.all full.contains=znI full l
 | []=>rfl
 | x::l=>by rw[zacn,zCV];rfl
def zBu(full:List Nat):Option Obj->Bool
 | some (.row es)=>znI full (AV.objsL es)
 | _=>false
def okN(H:zd)(full:List Nat):List Nat->Bool
 | []=>true
 | o::l=>zBu full (look o H)&&okN H full l
theorem z0o{ns:List Nat}:zkM H ns=okN H ns ns:=by
 have:∀full l:List Nat,(l.all fun o=>match look o H with|some (.row es)=>(AV.objsL es).all full.contains|_=>false)=okN H full l:=by
  intro full l
  induction l with
  | nil=>rfl
  | cons o l ih=>
   rw[zacn,ih];simp only[okN]
   congr 1
   unfold zBu
   split<;>simp_all [zCV]
 exact this ns ns
def osN(H:zd)(full:List Nat):List Nat->zd
 | []=>[]
 | o::l=>(zaR full o,((look o H).getD (.acc 0)).ren (zaR full))::osN H full l
theorem z4I{ns:List Nat}:zbY H ns=osN H ns ns:=by
 have:∀full l:List Nat,(l.map fun o=>(zaR full o,((look o H).getD (.acc 0)).ren (zaR full)))=osN H full l:=by
  intro full l
  induction l with
  | nil=>rfl
  | cons o l ih=>rw[zabs,ih];rfl
 exact this ns ns
theorem zWn{ns:List Nat}:zme E H dst ns []=true:=rfl
theorem zWm{ns:List Nat}{n:Nat}{ob:Obj}{l:zd}:zme E H dst ns ((n,ob)::l)=((decide (1000000<=n)||(!zaX (dst+10000 * n) E&& !zaq (dst+10000 * n) H&& !ns.contains (dst+10000 * n)))&&zme E H dst ns l):=rfl
def zru:zd->Bool
 | []=>true
 | (_,ob)::l=>ob.flat&&zru l
theorem zWg{v:AV}{δ:zd}:zj9 (v,δ)=(v.flat&&zru δ):=by
 unfold zj9
 congr 1
 show (δ.all fun q=>q.2.flat)=zru δ
 induction δ with
 | nil=>rfl
 | cons p l ih=>rw[zacn,ih];rfl
theorem zTX{b:List Nat}:zhC [] b=true:=rfl
theorem zTW{a:Nat}{l b:List Nat}:zhC (a::l) b=(!b.contains a&&zhC l b):=rfl
theorem z7s{ρ:Nat->Nat}:zc4 ρ []=[]:=rfl
theorem z7r{ρ:Nat->Nat}{n:Nat}{ob:Obj}{l:zd}:zc4 ρ ((n,ob)::l)=(ρ n,ob.ren ρ)::zc4 ρ l:=rfl
theorem zWq:zbn H []=[]:=rfl
theorem zWp{o:Nat}{l:List Nat}:zbn H (o::l)=(o,.frz (mark H o))::zbn H l:=rfl
theorem zWt:zgj H []=true:=rfl
theorem zWs{o:Nat}{l:List Nat}:zgj H (o::l)=((look o H).isSome&&zgj H l):=rfl
theorem z0m:zkI []=[]:=rfl
theorem z0l{o:Nat}{l:List Nat}:zkI (o::l)=(2 * o+1)::zkI l:=rfl
theorem zVc:zj3 []=[]:=rfl
theorem zVb{o:Nat}{l:List Nat}:zj3 (o::l)=(2 * o)::zj3 l:=rfl
theorem zTZ{b:List Nat}:ziE [] b=true:=rfl
theorem zTY{a:Nat}{l b:List Nat}:ziE (a::l) b=(!b.contains a&&ziE l b):=rfl
def zGG(p:List Nat×List Nat):Option (List Nat×List Nat)->Bool
 | some q=>ziR q p
 | none=>false
theorem zSX{acc:List (List Nat×List Nat)}{p:List Nat×List Nat}:zgK [] acc p=true:=rfl
theorem zSW{k:Nat}{fr:List Nat}{acc:List (List Nat×List Nat)}{p:List Nat×List Nat}:zgK (k::fr) acc p=(zGG p (acc[k]?)&&zgK fr acc p):=rfl
def zrx(E:Env)(H:zd):List Nat->Bool
 | []=>true
 | n::l=>(!zaX n E&& !zaq n H)&&zrx E H l
theorem zWl{S:St}:zmd [] S=true:=rfl
theorem zWk{x:zK}{l:List zK}:zmd (x::l) ⟨E,H⟩=(zrx E H x.newNames&&zmd l ⟨E,H⟩):=by
 have:∀ns:List Nat,(ns.all fun n=> !zaX n E&& !zaq n H)=zrx E H ns:=by
  intro ns
  induction ns with
  | nil=>rfl
  | cons n l ih=>rw[zacn,ih];rfl
 rw[<- this];rfl
theorem z7T{o m:Nat}:znt o m []=[]:=rfl
theorem z7S{o m t:Nat}{x:AV}{l:Env}:znt o m ((t,x)::l)=(t,zgv o m x)::znt o m l:=rfl
theorem zRA{o:Nat}{ds:List D}:zqC o ds []=[]:=rfl
theorem zRz{o t:Nat}{ds:List D}{x:AV}{l:Env}:zqC o ds ((t,x)::l)=(t,zjG o ds x)::zqC o ds l:=rfl
def zrj:Nat->List AV->Env
 | _,[]=>[]
 | n,x::l=>(n,x)::zrj (n+1) l
theorem zU3{args:List AV}:enter args=zrj 0 args:=by
 have:∀(l:List AV) (n:Nat),((l.zipIdx n).map fun p=>(p.2,p.1))=zrj n l:=by
  intro l
  induction l with
  | nil=>intro n;rfl
  | cons x l ih=>intro n;rw[List.zipIdx_cons,zabs,ih];rfl
 exact this args 0
theorem zXB:zf1 []=[]:=rfl
theorem zXA{n:Nat}{ob:Obj}{l:zd}:zf1 ((n,ob)::l)=(n,.ref n 1 0)::zf1 l:=rfl
def zBv(full:List Nat)(k o:Nat):Option Obj->Bool
 | some (.row es)=>znI full (AV.objsL es)&&(decide (o<1000000)||decide (o<1000000+k))
 | some (.acc _)=>decide (o<1000000)
 | some (.frz m)=>m.isNone&&decide (1000000<=o)&&(decide (o<1000000)||decide (o<1000000+k))
 | _=>false
def okO(H:zd)(full:List Nat)(k:Nat):List Nat->Bool
 | []=>true
 | o::l=>zBv full k o (look o H)&&okO H full k l
theorem z0p{os:zd}{ns:List Nat}:zi3 H os ns=(okO H ns os.length ns&&decide ((frs ns).length<=4)):=by
 have:∀full l:List Nat,(l.all fun o=>(match look o H with|some (.row es)=>(AV.objsL es).all full.contains|some (.acc _)=>decide (o<1000000)|some (.frz m)=>m.isNone&&decide (1000000<=o)|_=>false)&&(decide (o<1000000)||decide (o<1000000+os.length)))=okO H full os.length l:=by
  intro full l
  induction l with
  | nil=>rfl
  | cons o l ih=>
   rw[zacn,ih];simp only[okO]
   congr 1
   unfold zBv
   split<;>simp_all [zCV]
 unfold zi3;exact congrArg (· && decide ((frs ns).length<=4)) (this ns ns)
def zMF(o:Nat):Option AV->Bool
 | some (.ref p 1 0)=>p==o
 | _=>false
def okG(E:Env):zd->Bool
 | []=>true
 | (o,_)::l=>zMF o (look o E)&&okG E l
theorem z0n{os:zd}:zkL E os=okG E os:=by
 unfold zkL
 induction os with
 | nil=>rfl
 | cons p l ih=>
  rw[zacn,ih];simp only[okG]
  congr 1
def zsU(H:zd)(full:List Nat):List Nat->zd
 | []=>[]
 | o::l=>(za2 full o,((look o H).getD (.acc 0)).ren (za2 full))::zsU H full l
theorem z4J{ns:List Nat}:zcA H ns=zsU H ns ns:=by
 have:∀full l:List Nat,(l.map fun o=>(za2 full o,((look o H).getD (.acc 0)).ren (za2 full)))=zsU H full l:=by
  intro full l
  induction l with
  | nil=>rfl
  | cons o l ih=>rw[zabs,ih];rfl
 exact this ns ns
def evs(E:Env):List Opd->List AV
 | []=>[]
 | x::xs=>x.ev E::evs E xs
theorem zBh{xs:List Opd}:xs.map (·.ev E)=evs E xs:=by
 induction xs with
 | nil=>rfl
 | cons x xs ih=>rw[zabs,ih];rfl
def evO(E:Env):Option Opd->Option AV
 | none=>none
 | some x=>some (x.ev E)
theorem zBf{x:Option Opd}:x.map (·.ev E)=evO E x:=by cases x<;>rfl
def evB(E:Env):List (Nat×Nat×Opd)->List (Nat×Nat×AV)
 | []=>[]
 | (a,b,x)::l=>(a,b,x.ev E)::evB E l
theorem zZq{l:List (Nat×Nat×Opd)}:(l.map fun p=>(p.1,p.2.1,p.2.2.ev E))=evB E l:=by
 induction l with
 | nil=>rfl
 | cons p l ih=>rw[zabs,ih];rfl
def evF(E:Env):List (Nat×Opd)->List (Nat×AV)
 | []=>[]
 | (a,x)::l=>(a,x.ev E)::evF E l
theorem zZr{l:List (Nat×Opd)}:(l.map fun p=>(p.1,p.2.ev E))=evF E l:=by
 induction l with
 | nil=>rfl
 | cons p l ih=>rw[zabs,ih];rfl
def szF(n:Nat):List (Nat×AV)->Bool
 | []=>true
 | (_,x)::l=>(x.size==n)&&szF n l
theorem zR0{n:Nat}{l:List (Nat×Opd)}:(l.all fun p=>(p.2.ev E).size==n)=szF n (evF E l):=by
 induction l with
 | nil=>rfl
 | cons p l ih=>rw[zacn,ih];rfl
theorem z8d{f:FuncId}{ms:List Bool}{xs:List Opd}:step F E H dst (.call f ms xs)=zgJ H (zbr F E H dst ms f (evs E xs)):=by rw[<- zBh];rfl
theorem zakL{f:Opd}{ms:List Bool}{xs:List Opd}:step F E H dst (.callv f ms xs)=zgJ H (zht F E H dst ms (f.ev E) (evs E xs)):=by rw[<- zBh];rfl
theorem zVx{f:FuncId}{ms:List Bool}{xs:List Opd}:AOp.feet E H dst (.call f ms xs)=zjR H dst ms (evs E xs):=by rw[<- zBh];rfl
def zhe(H:zd):Option AV->Option (AV×zd)
 | none=>none
 | some v=>some (v,H)
theorem zjh{x:Option AV}:x.map (fun v=>(v,H))=zhe H x:=by cases x<;>rfl
def znp(H:zd):Option D->Option (AV×zd)
 | none=>none
 | some v=>some (.d v,H)
theorem zCH{x:Option D}:x.map (fun v=>(AV.d v,H))=znp H x:=by cases x<;>rfl
def zCG(H:zd)(ng:Bool):Option Bool->Option (AV×zd)
 | none=>none
 | some b=>some (.d (.bool (if ng then !b else b)),H)
def dO:Option D->Option AV
 | none=>none
 | some v=>some (.d v)
theorem zGL{x:Option D}:x.map AV.d=dO x:=by cases x<;>rfl
def pdO:Option D->Option AV
 | none=>none
 | some v=>some (.d (.pd v))
def peO(o:Nat):Option D->Option AV
 | none=>none
 | some v=>some (.pe o v)
def ldR(ag:Bool)(n:Nat):Option AV->Option AV
 | some e=>zep ag off n e
 | none=>none
 where off:Nat:=0
def ldE(ag:Bool)(n off:Nat):Option AV->Option AV
 | some e=>zep ag off n e
 | none=>none
def ldO(ag:Bool)(n i off:Nat):Option Obj->Option AV
 | some (.row es)=>ldE ag n off es[i]?
 | _=>none
def ldV(H:zd)(ag:Bool)(n:Nat):AV->Option AV
 | .d (.pd x)=>dO (zcc ag 0 n x)
 | .pe _ x=>dO (zcc ag 0 n x)
 | .ref o i off=>ldO ag n i off (look o H)
 | _=>none
theorem zL3{ag:Bool}{n:Nat}{v:AV}:ldA H ag n v=ldV H ag n v:=by
 unfold ldA
 split
 ·exact zGL
 ·exact zGL
 ·rename_i o i off;simp only[ldV];generalize look o H=q
  rcases q with _|(es|m|m|m)
  ·rfl
  ·show es[i]?.bind _=ldE ag n off es[i]?
   cases es[i]? <;> rfl
  ·rfl
  ·rfl
  ·rfl
 ·unfold ldV;split<;>simp_all
theorem z8k{ag:Bool}{n:Nat}{p:Opd}:step F E H dst (.ld ag n p)=zhe H (ldV H ag n (p.ev E)):=by
 show (ldA H ag n (p.ev E)).map (fun v=>(v,H))=_;rw[zjh,zL3]
def zj4(ag:Bool)(off n:Nat):AV->Option AV
 | .ref o i f=>some (.ref o i (f+off))
 | .d (.pd y)=>pdO (zcc ag off n y)
 | .pe o y=>peO o (zcc ag off n y)
 | _=>none
theorem zVN{ag:Bool}{off n:Nat}{v:AV}:zd6 ag off n v=zj4 ag off n v:=by
 unfold zd6
 split
 ·rfl
 ·rename_i y;simp only[zj4];cases zcc ag off n y<;>rfl
 ·rename_i o y;simp only[zj4];cases zcc ag off n y<;>rfl
 ·unfold zj4;split<;>simp_all
theorem z8h{ag:Bool}{off n:Nat}{x:Opd}:step F E H dst (.fad ag off n x)=zhe H (zj4 ag off n (x.ev E)):=by
 show (zd6 ag off n (x.ev E)).map (fun v=>(v,H))=_;rw[zjh,zVN]
def szR(n o i:Nat):Option AV->Option AV
 | some e=>if e.size=n then some (.ref o i 0) else none
 | none=>none
def szP(n o:Nat):Option D->Option AV
 | some e=>if e.size=n then some (.pe o e) else none
 | none=>none
def szD(n:Nat):Option D->Option AV
 | some e=>if e.size=n then some (.d (.pd e)) else none
 | none=>none
def zLH(n o i:Nat):Option Obj->Option AV
 | some (.row es)=>szR n o i es[i]?
 | _=>none
def zhR(H:zd)(n:Nat)(i:Int):AV->Option AV
 | .osl o off len=>if i<len then zLH n o (off+i.toNat) (look o H) else none
 | .acc o es=>szP n o es[i.toNat]?
 | .d (.sl es)=>szD n es[i.toNat]?
 | .xsl es=>szD n es[i.toNat]?
 | _=>none
theorem zXO{n:Nat}{i:Int}{v:AV}:zcH H n i v=zhR H n i v:=by
 unfold zcH
 split
 ·rename_i o off len;simp only[zhR]
  split
  ·generalize look o H=q
   rcases q with _|(es|m|m|m)
   ·rfl
   ·show es[off+i.toNat]?.bind _=szR n o (off+i.toNat) es[off+i.toNat]?
    cases es[off+i.toNat]? <;> rfl
   ·rfl
   ·rfl
   ·rfl
  ·rfl
 ·rename_i o es;simp only[zhR];unfold szP;cases es[i.toNat]? <;> rfl
 ·rename_i es;simp only[zhR];unfold szD;cases es[i.toNat]? <;> rfl
 ·rename_i es;simp only[zhR];unfold szD;cases es[i.toNat]? <;> rfl
 ·unfold zhR;split<;>simp_all
def zAt(H:zd)(n:Nat)(v:AV):Option Int->Option (AV×zd)
 | some k=>if 0<=k then zhe H (zhR H n k v) else none
 | none=>none
theorem z8j{n:Nat}{x i:Opd}:step F E H dst (.iad n x i)=zAt H n (x.ev E) (zbQ (i.ev E)):=by
 show (zbQ (i.ev E)).bind _=_;unfold zAt
 cases zbQ (i.ev E) with
 | none=>rfl
 | some k=>simp only[zabY,zXO,zjh]
def stF(H:zd)(o i:Nat)(es:List AV):Option AV->Option (AV×zd)
 | some e=>some (.undef,zP o (.row (es.set i e)) H)
 | none=>none
def stE(H:zd)(o i off:Nat)(es:List AV)(v:AV):Option AV->Option (AV×zd)
 | some e=>stF H o i es (zcM e off v)
 | none=>none
def stO(H:zd)(o i off:Nat)(v:AV):Option Obj->Option (AV×zd)
 | some (.row es)=>stE H o i off es v es[i]?
 | _=>none
def stV(H:zd)(n:Nat)(v:AV):AV->Option (AV×zd)
 | .ref o i off=>if v.size=n/\zbR v=false then stO H o i off v (look o H) else none
 | _=>none
def zgd:Option AV->Option Int
 | some (.d (.int .i64 n))=>some n
 | _=>none
theorem z8u{n:Nat}{p x:Opd}:step F E H dst (.st n p x)=stV H n (x.ev E) (p.ev E):=by
 show zr E H dst (.st n p x)=_;simp only[zr];generalize p.ev E=pv
 split
 ·rename_i o i off;simp only[stV]
  split
  ·generalize look o H=q
   rcases q with _|(es|m|m|m)
   ·rfl
   ·show es[i]?.bind _=stE H o i off es (x.ev E) es[i]?
    cases es[i]? with
    | none=>rfl
    | some e=>
     show Option.map _ (zcM e off (x.ev E))=stF H o i es (zcM e off (x.ev E))
     cases zcM e off (x.ev E)<;>rfl
   ·rfl
   ·rfl
   ·rfl
  ·rfl
 ·unfold stV;split<;>simp_all
def zvt(H:zd)(ag:Bool)(off n:Nat):AV->Option (AV×zd)
 | .d (.agg cs)=>znp H (zcc ag off n (.agg cs))
 | .agg cs=>zhe H (zep ag off n (.agg cs))
 | _=>none
theorem z8i{ag:Bool}{off n:Nat}{x:Opd}:step F E H dst (.fld ag off n x)=zvt H ag off n (x.ev E):=by
 show zr E H dst (.fld ag off n x)=_;simp only[zr];generalize x.ev E=v
 split
 ·exact zCH
 ·exact zjh
 ·unfold zvt;split<;>simp_all
def zui(H:zd)(op:BinOp):AV->AV->Option (AV×zd)
 | .d a,.d b=>znp H (zgI op a b)
 | _,_=>none
theorem z79{op:BinOp}{x y:Opd}:step F E H dst (.bin op x y)=zui H op (x.ev E) (y.ev E):=by
 show zr E H dst (.bin op x y)=_;simp only[zr];generalize x.ev E=v;generalize y.ev E=u
 split
 ·exact zCH
 ·unfold zui;split<;>simp_all
def zrk(H:zd)(ng:Bool)(n:Nat)(ls:List (Nat×Nat)):AV->AV->Option (AV×zd)
 | .d (.agg a),.d (.agg b)=>if a.length=n/\b.length=n then zCG H ng (zgN a b ls) else none
 | _,_=>none
theorem z8f{ng:Bool}{n:Nat}{ls:List (Nat×Nat)}{x y:Opd}:step F E H dst (.eqs ng n ls x y)=zrk H ng n ls (x.ev E) (y.ev E):=by
 show zr E H dst (.eqs ng n ls x y)=_;simp only[zr];generalize x.ev E=v;generalize y.ev E=u
 split
 ·rename_i a b;simp only[zrk]
  split
  ·cases zgN a b ls<;>rfl
  ·rfl
 ·unfold zrk;split<;>simp_all
def bdI(y:Nat):Option Int->Option Nat
 | some n=>if 0<=n/\n<=y then some n.toNat else none
 | none=>none
def bd(dflt y:Nat):Option AV->Option Nat
 | none=>some dflt
 | some v=>bdI y (zbQ v)
theorem zqJ{x:Option AV}{dflt y:Nat}:zcl x dflt y=bd dflt y x:=by
 cases x with
 | none=>rfl
 | some v=>
  simp only[zcl,bd];unfold bdI
  cases zbQ v<;>rfl
def slM(es:List D)(h l:Nat)(hi:Option AV):Option AV->Option AV
 | none=>some (.d (.sl ((es.take h).drop l)))
 | some m=>if zbQ m=some (h:Int)/\hi.isSome then some (.xsl ((es.take h).drop l)) else none
def zRo(es:List D)(h l:Nat)(hi:Option AV):Option AV->Option AV
 | none=>some (if h=es.length then .xsl ((es.take h).drop l) else .d (.sl ((es.take h).drop l)))
 | some m=>if zbQ m=some (h:Int)/\hi.isSome then some (.xsl ((es.take h).drop l)) else none
def zDs(o:Nat)(es:List D)(h:Nat)(hi:Option AV):Option AV->Option AV
 | none=>some (.acc o (es.take h))
 | some m=>if zbQ m=some (h:Int)/\hi.isSome then some (.acc o (es.take h)) else none
def slL(es:List D)(hi mx:Option AV)(h:Nat):Option Nat->Option AV
 | some l=>slM es h l hi mx
 | none=>none
def slH(es:List D)(lo hi mx:Option AV):Option Nat->Option AV
 | some h=>slL es hi mx h (bd 0 h lo)
 | none=>none
def zDi(es:List D)(hi mx:Option AV)(h:Nat):Option Nat->Option AV
 | some l=>zRo es h l hi mx
 | none=>none
def zDh(es:List D)(lo hi mx:Option AV):Option Nat->Option AV
 | some h=>zDi es hi mx h (bd 0 h lo)
 | none=>none
def zt2(o:Nat)(es:List D)(hi mx:Option AV)(h:Nat):Option Nat->Option AV
 | some l=>if l=0 then zDs o es h hi mx else none
 | none=>none
def zam(o:Nat)(es:List D)(lo hi mx:Option AV):Option Nat->Option AV
 | some h=>zt2 o es hi mx h (bd 0 h lo)
 | none=>none
def zBE(n o off h l:Nat):Option Obj->Option AV
 | some (.row es)=>if l=0\/es.head?.map AV.size=some n then some (.osl o (off+l) (h - l)) else none
 | _=>none
def zBC(H:zd)(n o off h:Nat):Option Nat->Option AV
 | some l=>zBE n o off h l (look o H)
 | none=>none
def zBB(H:zd)(n o off:Nat)(lo:Option AV):Option Nat->Option AV
 | some h=>zBC H n o off h (bd 0 h lo)
 | none=>none
def zBD(H:zd)(n o off len:Nat)(lo hi:Option AV):Option AV->Option AV
 | none=>zBB H n o off lo (bd len len hi)
 | some _=>none
def zii(H:zd)(n:Nat)(lo hi mx:Option AV):AV->Option AV
 | .d (.sl es)=>if zas n es then slH es lo hi mx (bd es.length es.length hi) else none
 | .xsl es=>if zas n es then zDh es lo hi mx (bd es.length es.length hi) else none
 | .acc o es=>if zas n es then zam o es lo hi mx (bd es.length es.length hi) else none
 | .osl o off len=>zBD H n o off len lo hi mx
 | _=>none
theorem z9n{n:Nat}{lo hi mx:Option AV}{v:AV}:zcj H n lo hi mx v=zii H n lo hi mx v:=by
 unfold zcj
 split
 ·rename_i es;simp only[zii]
  split
  ·simp only[zqJ];unfold slH
   cases bd es.length es.length hi with
   | none=>rfl
   | some h=>
    simp only[zabY];unfold slL
    cases bd 0 h lo with
    | none=>rfl
    | some l=>simp only[zabY];cases mx<;>rfl
  ·rfl
 ·rename_i es;simp only[zii]
  split
  ·simp only[zqJ];unfold zDh
   cases bd es.length es.length hi with
   | none=>rfl
   | some h=>
    simp only[zabY];unfold zDi
    cases bd 0 h lo with
    | none=>rfl
    | some l=>simp only[zabY];cases mx<;>rfl
  ·rfl
 ·rename_i o es;simp only[zii]
  split
  ·simp only[zqJ];unfold zam
   cases bd es.length es.length hi with
   | none=>rfl
   | some h=>
    simp only[zabY];unfold zt2
    cases bd 0 h lo with
    | none=>rfl
    | some l=>simp only[zabY];cases mx<;>rfl
  ·rfl
 ·rename_i o off len
  cases mx with
  | some m=>rfl
  | none=>
   simp only[zqJ,zii,zBD];unfold zBB
   cases bd len len hi with
   | none=>rfl
   | some h=>
    simp only[zabY];unfold zBC
    cases bd 0 h lo with
    | none=>rfl
    | some l=>simp only[zabY];unfold zBE;rfl
 ·unfold zii;split<;>simp_all
theorem z8t{n:Nat}{x:Opd}{lo hi mx:Option Opd}:step F E H dst (.slc n x lo hi mx)=zhe H (zii H n (evO E lo) (evO E hi) (evO E mx) (x.ev E)):=by
 show (zcj H n (lo.map (·.ev E)) (hi.map (·.ev E)) (mx.map (·.ev E)) (x.ev E)).map (fun v=>(v,H))=_;rw[zjh,z9n,zBf,zBf,zBf]
def zvn(H:zd)(i:Nat):AV->Option (AV×zd)
 | .d (.tup vs)=>znp H vs[i]?
 | .tup vs=>zhe H vs[i]?
 | _=>none
theorem z8g{x:Opd}{i:Nat}:step F E H dst (.ext x i)=zvn H i (x.ev E):=by
 show zr E H dst (.ext x i)=_;simp only[zr];generalize x.ev E=v
 split
 ·exact zCH
 ·exact zjh
 ·unfold zvn;split<;>simp_all
def zA7(H:zd):Option (List D)->Option (AV×zd)
 | some es=>some (.d (.int .i64 es.length),H)
 | none=>none
def zA8(H:zd):AV->Option (AV×zd)
 | .osl _ _ len=>some (.d (.int .i64 len),H)
 | .d (.sl es)=>some (.d (.int .i64 es.length),H)
 | .acc _ es=>some (.d (.int .i64 es.length),H)
 | .xsl es=>some (.d (.int .i64 es.length),H)
 | y=>zA7 H (slD y)
theorem z8l{x:Opd}:step F E H dst (.len x)=zA8 H (x.ev E):=by
 show zr E H dst (.len x)=_;simp only[zr];generalize x.ev E=v
 split
 ·rfl
 ·unfold zA8
  split
  ·simp_all
  ·rfl
  ·rfl
  ·rfl
  ·unfold zA7;cases slD v<;>rfl
def mmV(H:zd)(mx:Bool):List AV->Option (AV×zd)
 | []=>none
 | y::ys=>zhe H (mmD mx y ys)
theorem z8o{mx:Bool}{xs:List Opd}:step F E H dst (.mm mx xs)=mmV H mx (evs E xs):=by
 show zr E H dst (.mm mx xs)=_;simp only[zr,zBh]
 cases evs E xs with
 | nil=>rfl
 | cons y ys=>exact zjh
def zun(H:zd):Option (List AV)->Option (AV×zd)
 | some cs=>some (AV.mkAgg cs,H)
 | none=>none
theorem z8c{z:List AV}{ps:List (Nat×Nat×Opd)}:step F E H dst (.build z ps)=zun H (zbA z (evB E ps)):=by
 show zr E H dst (.build z ps)=_;simp only[zr,zZq];unfold zun
 cases zbA z (evB E ps)<;>rfl
def zul(E:Env)(H:zd)(dst len:Nat)(es:List AV):Option (List D)->Option (AV×zd)
 | some ds=>some (.xsl ds,H)
 | none=>if zaX dst E=false/\zaq dst H=false then some (.osl dst 0 len,zP dst (.row es) H) else none
def zum(E:Env)(H:zd)(dst len:Nat):Option (List AV)->Option (AV×zd)
 | some es=>zul E H dst len es (zbq es)
 | none=>none
theorem z8b{len n:Nat}{z:AV}{ps:List (Nat×Opd)}:step F E H dst (.bsl len n z ps)=if z.size=n/\szF n (evF E ps)=true then zum E H dst len (zd8 (List.replicate len z) (evF E ps)) else none:=by
 show zr E H dst (.bsl len n z ps)=_;simp only[zr,zZr,zR0]
 split
 ·unfold zum
  cases zd8 (List.replicate len z) (evF E ps) with
  | none=>rfl
  | some es=>simp only[zabY];unfold zul;rfl
 ·rfl
def zug(H:zd):Option (List UInt8)->Option (AV×zd)
 | some s=>some (.d (.str s),H)
 | none=>none
def zuh(H:zd):Option (List D)->Option (AV×zd)
 | some es=>zug H (zge es)
 | none=>none
theorem z78{x:Opd}:step F E H dst (.b2s x)=zuh H (slD (x.ev E)):=by
 show zr E H dst (.b2s x)=_;simp only[zr];unfold zuh
 cases slD (x.ev E) with
 | none=>rfl
 | some es=>simp only[zabY];unfold zug;cases zge es<;>rfl
def byD(s:List UInt8):List D:=s.map fun b=> .int .u8 b.toNat
def zB(off len:Nat):Option Obj->Option (List D)
 | some (.row es)=>srcL len (zbq ((es.drop off).take len))
 | _=>none
 where srcL (len:Nat):Option (List D)->Option (List D)
  | some ds=>if ds.length=len then some ds else none
  | none=>none
def zle(H:zd):AV->Option (List D)
 | .osl o off len=>zB off len (look o H)
 | .nl _=>some []
 | y=>slD y
theorem z9z{v:AV}:zc9 H v=zle H v:=by
 unfold zc9
 split
 ·rename_i o off len;simp only[zle];generalize look o H=q
  rcases q with _|(es|m|m|m)
  ·rfl
  ·show (zbq ((es.drop off).take len)).bind _=zB.srcL len (zbq ((es.drop off).take len))
   cases zbq ((es.drop off).take len)<;>rfl
  ·rfl
  ·rfl
  ·rfl
 ·rfl
 ·unfold zle;split<;>simp_all
def zt8(H:zd)(o n:Nat)(es ys:List D):Option Obj->Option (AV×zd)
 | some (.acc m)=>if es.length=m/\zas n (es++ys)/\(es++ys).length<=LIM then some (.acc o (es++ys),zP o (.acc (m+ys.length)) H) else none
 | _=>none
def zlX(E:Env)(H:zd)(dst n:Nat)(ys:List D):AV->Option (AV×zd)
 | .xsl es=>if (ys.isEmpty&& !es.isEmpty)=true then (if zas n es=true then some (.xsl es,H) else none) else if zas n (es++ys)/\(es++ys).length<=LIM/\zaX dst E=false/\zaq dst H=false then some (.acc dst (es++ys),zP dst (.acc (es.length+ys.length)) H) else none
 | .acc o es=>zt8 H o n es ys (look o H)
 | _=>none
theorem zR4{n:Nat}{ys:List D}{v:AV}:zcf E H dst n ys v=zlX E H dst n ys v:=by
 unfold zcf
 split
 ·rfl
 ·simp only[zlX];unfold zt8;rfl
 ·unfold zlX;split<;>simp_all
def zt9(E:Env)(H:zd)(dst n:Nat)(v:AV):Option (List D)->Option (AV×zd)
 | some ys=>zlX E H dst n ys v
 | none=>none
theorem z74{n:Nat}{x y:Opd}:step F E H dst (.app n x y)=zt9 E H dst n (x.ev E) (zle H (y.ev E)):=by
 show zr E H dst (.app n x y)=_;simp only[zr,z9z];unfold zt9
 cases zle H (y.ev E) with
 | none=>rfl
 | some ys=>simp only[zabY,zR4]
def zQp(H:zd)(ag:Bool)(sz:Nat):Option AV->Option AV
 | some v=>ldV H ag sz v
 | none=>none
theorem z7x{n sz:Nat}{ag:Bool}:zl.ev ⟨E,H⟩ (.c n ag sz)=zQp H ag sz (look n E):=by
 show (look n E).bind (ldA H ag sz)=_
 cases look n E with
 | none=>rfl
 | some v=>exact zL3
theorem z7A{n:Nat}:zl.ev ⟨E,H⟩ (.t n)=look n E:=rfl
def zu6(v:Option AV):Option (List AV)->Option (List AV)
 | some vs=>consQ vs v
 | none=>none
 where consQ (vs:List AV):Option AV->Option (List AV)
  | some v=>some (v::vs)
  | none=>none
def zia(S:St):List zl->Option (List AV)
 | []=>some []
 | r::rs=>zu6 (r.ev S) (zia S rs)
theorem z7w{S:St}{rs:List zl}:rs.mapM (zl.ev S)=zia S rs:=by
 induction rs with
 | nil=>rfl
 | cons r rs ih=>
  rw[zacU,ih];simp only[zia]
  cases r.ev S with
  | none=>cases zia S rs<;>rfl
  | some v=>cases zia S rs<;>rfl
def zQ8:Option (List AV)->Option AV
 | some vs=>some (AV.mkTup vs)
 | none=>none
theorem z7z{S:St}{r:zl}:zfo S [r]=r.ev S:=rfl
theorem z7y{S:St}:zfo S []=some (AV.mkTup []):=rfl
theorem z7B{S:St}{a b:zl}{l:List zl}:zfo S (a::b::l)=zQ8 (zia S (a::b::l)):=by
 show ((a::b::l).mapM (zl.ev S)).map AV.mkTup=_;rw[z7w]
 cases zia S (a::b::l)<;>rfl
end Go.Sim
