/-
  What a call looks at and writes.
-/
import Derived.Test.YtjalkkalhdnplaaGreatB0d0eb0a
import Derived.RegionTactic
set_option linter.unusedSimpArgs false
set_option linter.unusedVariables false
set_option maxHeartbeats 10000000
set_option maxRecDepth 100000
namespace Go.Sim
open Go (World Value Addr TypeId Act)
inductive zw where
 | skip
 | ops (gs:List Nat) (l:List zC) (kill:List Nat)
 | draw (gs:List Nat) (l:List zC) (fr:List (List Nat)) (kill:List Nat)
 | seq (a b:zw)
 | cond (c:Opd) (t e:zw)
 | block (id:Nat) (b:zw)
 | loop (kill:List Nat) (b:zw)
 | exit (id:Nat) (keep:List Nat)
 | ret (keep:List Nat)
structure zal where
 kill:List (Nat×List Nat):=[]
 ghost:List (Nat×List Nat):=[]
 obj:List (Nat×List Bool):=[]
 acc:List Nat:=[]
 loop:List (Nat×List Nat):=[]
 exit:List (Nat×List Nat):=[]
 ret:List Nat:=[]
def zq3(hs:zal)(dst:Option Nat):List Bool:=match dst with|some d=>(look d hs.obj).getD []|none=>[]
def zt2(hs:zal)(dst:Option Nat):Bool:=match dst with|some d=>hs.acc.contains d|none=>false
def zlG:AOp->Bool
 | .mv (.c (.xsl []))=>true
 | _=>false
def hint(hs:zal)(dst:Option Nat)(x:AOp):AOp:=
 match x with
 | .call f _ xs=> .call f (zq3 hs dst) xs
 | .callv f _ xs=> .callv f (zq3 hs dst) xs
 | x=>if zlG x&&zt2 hs dst then .nacc else x
def zfa(P:Program)(hs:zal)(ops:Array Oper)(o:Oper):Option zC:=
 match zaa P o.op with
 | none=>none
 | some x=>
  match o.guard with
  | none=>some ⟨o.dst,hint hs o.dst x,none⟩
  | some (j,b)=>((ops[j]?).bind (·.dst)).map fun t=>⟨o.dst,hint hs o.dst x,some (t,b)⟩
def zgt(K:List (Nat×List Nat))(id:Nat):List Nat:=(look id K).getD []
def zfY(ks:List Nat):Env->Env
 | []=>[]
 | (t,x)::l=>if ks.contains t then zfY ks l else (t,x)::zfY ks l
def St.put(S:St)(dst:Option Nat)(v:AV):St:=match dst with|none=>S|some d=>⟨zN d v S.env,S.heap⟩
inductive zR where
 | normal
 | exit (id:Nat)
 | ret
variable {P:Program} {C:Ctx}
def Out(e:zR):Exit:=match e with| .normal=> .normal| .exit i=> .exit i| .ret=> .ret
theorem zRh{ks:List Nat}{E:Env}{p:Nat×AV}(h:p∈zfY ks E):p∈E:=by
 induction E with
 | nil=>cases h
 | cons q l ih=>
  obtain⟨t,x⟩:=q;simp only[zfY] at h
  split at h
  ·exact .tail _ (ih h)
  ·cases h with
   | head=>exact .head _
   | tail _ h=>exact .tail _ (ih h)
theorem Rel.kill{S:St}{a:Act}{w:World}{ι:Inj}{R:Nat->Prop}(h:Rel C S a w ι R)(ks:List Nat):Rel C ⟨zfY ks S.env,S.heap⟩ a w ι R:=h.weaken fun _ _ hx=>zRh hx
theorem Rel.putO{S:St}{a:Act}{w:World}{ι:Inj}{R:Nat->Prop}(h:Rel C S a w ι R){v:AV}{u:Value}(hv:VA w R ι (mark S.heap) v u){dst:Option Nat}(hd:∀d,dst=some d->d<C.n):
    Rel C (S.put dst v) (a.put dst u) w ι R:=by
 cases dst with
 | none=>exact h.put_none u
 | some d=>exact h.put hv (hd d rfl)
theorem zDH{f:FuncId}(h:zdG P f=true)(args:Array Value)(w:World):(callFunc f args).run P w= .ok (.enter f args) w:=by
 unfold zdG at h
 cases hf:P.funcs[f]? with
 | none=>simp [hf] at h
 | some fn=>
  simp only[hf,zY6,zZL] at h;have h1:¬fn.name= "runtime.NumGoroutine" := by simpa using h.2
  have h2:¬fn.body=none:=by
   intro e;have:=h.1;rw[e] at this;cases this
  simp [callFunc,hf,h1,h2]
theorem zGM{op:Op}{f:FuncId}{ms:List Bool}{xs:List Opd}(h:zaa P op=some (.call f ms xs)):∃c:Call,op= .call c/\c.callee= .value (.func f)/\ms=[]/\zdG P f=true/\c.args.toList.mapM opd=some xs:=by
 cases op with
 | call c=>
  simp only[zaa] at h
  split at h
  ·rename_i g hcal
   split at h
   ·rename_i hcf;obtain⟨ys,hys,h⟩:=zYR.1 h
    cases h
    exact⟨c,rfl,hcal,rfl,hcf,hys⟩
   ·obtain⟨ys,hys,h⟩:=zYR.1 h
    rcases zk6 h with ⟨_,_,_,e⟩|⟨_,_,_,_,e⟩|⟨_,_,_,_,_,e⟩<;>cases e
  all_goals (exfalso;revert h;(repeat' split)<;>simp [zYR])
 | makeFunc fn a b=>
  exfalso;revert h
  cases fn<;>simp only[zaa]<;>(repeat' split)<;>simp [zYR]
 | _=>
  exfalso;revert h;simp only[zaa]
  (repeat' split)<;>simp [zYR,zYT]
theorem zGN{op:Op}{y:Opd}{ms:List Bool}{xs:List Opd}(h:zaa P op=some (.callv y ms xs)):∃(c:Call) (f:Nat),op= .call c/\y= .t f/\c.callee= .value (.tmp f)/\ms=[]/\f<1000000/\c.args.toList.mapM opd=some xs:=by
 cases op with
 | call c=>
  simp only[zaa] at h
  split at h
  ·exfalso
   split at h
   ·revert h;simp [zYR]
   ·obtain⟨ys,hys,h⟩:=zYR.1 h
    rcases zk6 h with ⟨_,_,_,e⟩|⟨_,_,_,_,e⟩|⟨_,_,_,_,_,e⟩<;>cases e
  ·rename_i g hcal
   split at h
   ·rename_i hlt;obtain⟨ys,hys,h⟩:=zYR.1 h
    cases h
    exact⟨c,g,rfl,rfl,hcal,rfl,hlt,hys⟩
   ·cases h
  all_goals (exfalso;revert h;(repeat' split)<;>simp [zYR])
 | makeFunc fn a b=>
  exfalso;revert h
  cases fn<;>simp only[zaa]<;>(repeat' split)<;>simp [zYR]
 | _=>
  exfalso;revert h;simp only[zaa]
  (repeat' split)<;>simp [zYR,zYT]
theorem zFV{k:Nat}{xs:List Opd}{ng:Bool}{y:Opd}:¬zjr k xs=some (.nileq ng y):=fun h=>by
 rcases zk6 h with ⟨_,_,_,e⟩|⟨_,_,_,_,e⟩|⟨_,_,_,_,_,e⟩<;>cases e
theorem zFW{k:Nat}{xs:List Opd}{y:Opd}:¬zjr k xs=some (.mv y):=fun h=>by
 rcases zk6 h with ⟨_,_,_,e⟩|⟨_,_,_,_,e⟩|⟨_,_,_,_,_,e⟩<;>cases e
theorem zGP{op:Op}{ng:Bool}{y:Opd}(h:zaa P op=some (.nileq ng y)):∃(b:BinOp) (t e u:TypeId) (x q:Operand),op= .binOp b t x q u/\b=(if ng then .neq else .eql)/\P.underlying t=some (.slice e)/\opd x=some y/\zrz q=true:=by
 cases op with
 | call c=>exfalso;revert h;simp only[zaa];(repeat' split)<;>simp [zYR,zFV]
 | makeFunc fn a b=>
  exfalso;revert h
  cases fn<;>simp only[zaa]<;>(repeat' split)<;>simp [zYR]
 | binOp b t x q u=>
  simp only[zaa] at h
  split at h
  ·exfalso;revert h;simp [zYR]
  ·exfalso;revert h;simp [zYR]
  ·exfalso;revert h;(repeat' split)<;>simp [zYR]
  ·exfalso;revert h;(repeat' split)<;>simp [zYR]
  ·exfalso;revert h;(repeat' split)<;>simp [zYR]
  ·rename_i e hu
   split at h
   ·rename_i hq
    split at h
    ·obtain⟨z,hz,h⟩:=zYT.1 h
     cases h
     exact⟨_,t,e,u,x,q,rfl,rfl,hu,hz,hq⟩
    ·obtain⟨z,hz,h⟩:=zYT.1 h
     cases h
     exact⟨_,t,e,u,x,q,rfl,rfl,hu,hz,hq⟩
    ·cases h
   ·cases h
  ·cases h
 | _=>
  exfalso;revert h;simp only[zaa]
  (repeat' split)<;>simp [zYR,zYT]
def zgi(H:zf)(x:Option (AV×zf)):Option (AV×zf):=x.map fun p=>(p.1,zag p.2 H)
def zgj(F:zaO)(E:Env)(H:zf)(dst:Nat)(ms:List Bool)(f:AV)(args:List AV):Option (AV×zf):=
 match f with
 | .d (.fn g cs)=>zbh F E H dst ms g (args++cs.map .d)
 | .fn g cs=>zbh F E H dst ms g (args++cs)
 | _=>none
def ziW(H:zf)(ng:Bool)(x:AV):Option (AV×zf):=
 match x with
 | .nl b=>some (.d (.bool (if ng then !b else b)),H)
 | x=>match slD x with
  | some (_::_)=>some (.d (.bool ng),H)
  | _=>none
def step(F:zaO)(E:Env)(H:zf)(dst:Nat):AOp->Option (AV×zf)
 | .call f ms xs=>zgi H (zbh F E H dst ms f (xs.map (·.ev E)))
 | .callv f ms xs=>zgi H (zgj F E H dst ms (f.ev E) (xs.map (·.ev E)))
 | .nileq ng x=>ziW H ng (x.ev E)
 | op=>zn E H dst op
theorem zPD{x:AOp}(h:zlG x=true):x= .mv (.c (.xsl [])):=by
 unfold zlG at h
 split at h
 ·rfl
 ·cases h
theorem zGO{op:Op}(h:zaa P op=some (.mv (.c (.xsl [])))):∃y,(op= .move y\/op= .assign y)/\opd y=some (.c (.xsl [])):=by
 cases op with
 | move y=>simp only[zaa,zYT] at h;obtain⟨z,h1,h2⟩:=h;cases h2;exact⟨y,.inl rfl,h1⟩
 | assign y=>simp only[zaa,zYT] at h;obtain⟨z,h1,h2⟩:=h;cases h2;exact⟨y,.inr rfl,h1⟩
 | makeFunc fn a b=>
  exfalso;revert h
  cases fn<;>simp only[zaa]<;>(repeat' split)<;>simp [zYR]
 | _=>
  exfalso;revert h;simp only[zaa]
  (repeat' split)<;>simp [zYR,zYT,zFW]
theorem zSw{y:Operand}(h:opd y=some (.c (.xsl []))):∃v,y= .const v/\v= .slice none 0 0:=by
 cases y with
 | tmp t=>simp only[opd] at h;split at h<;>cases h
 | const v=>
  refine⟨v,rfl,?_⟩;simp only[opd] at h
  split at h
  ·cases h
  ·obtain⟨x,h1,h2⟩:=zYT.1 h
   cases h2
   unfold zfN at h1
   split at h1
   ·obtain⟨ds,_,h2⟩:=zYT.1 h1;unfold AV.mkAgg at h2
    split at h2<;>cases h2
   ·unfold zhv at h1
    split at h1
    ·split at h1<;>cases h1
    ·cases h1
    ·split at h1<;>cases h1
    ·rfl
    ·split at h1<;>cases h1
 | global g=>cases h
 | func f=>cases h
theorem ztt {F:zaO} (hF:FOK P F) {o:Oper} {x0:AOp} {hs:zal} {S:St} {a:Act} {w:World} {ι:Inj} {R:Nat->Prop} {v:AV} {H':zf} {next:Act->World->Prop} {Q:Exit->Act->World->Prop}
    (hc:zaa P o.op=some x0) (hd:∀d,o.dst=some d->d<C.n) (h:step F S.env S.heap (o.dst.getD 0) (hint hs o.dst x0)=some (v,H')) (hr:Rel C S a w ι R)
    (hn:∀a' w' ι' R',Rel C (St.put ⟨S.env,H'⟩ o.dst v) a' w' ι' R'->next a' w'):o.wp P a w next Q:=by
 have calls:∀(f:FuncId) (ms:List Bool) (xs:List AV) (us:List Value),(execOp a.eval o).run P w= .ok (.enter f us.toArray) w->VAs w R ι (mark S.heap) xs us->zgi S.heap (zbh F S.env S.heap (o.dst.getD 0) ms f xs)=some (v,H')->o.wp P a w next Q:=by
  intro f ms xs us he hv hw;obtain⟨⟨v',δ⟩,h1,h2⟩:=zYT.1 hw
  cases h2
  unfold Oper.wp;rw[he];refine (zGh hF h1 hr hv).mono fun e w' hh=> ?_;obtain⟨u,ι',R',rfl,hr',hv'⟩:=hh;exact hn _ _ _ _ (hr'.putO hv' hd)
 have simple:∀ {x:AOp},zT C S a v H' ((execOp a.eval o).run P w)->o.wp P a w next Q:=by
  intro x hg;obtain⟨u,w',ι',R',hrun,hr',hv'⟩:=hg;have hfin:=hn _ _ _ _ (hr'.putO hv' hd);unfold Oper.wp
  rcases hrun with hrun|⟨hrun,rfl⟩<;>rw[hrun]<;>exact hfin
 have plain:∀ {x:AOp},(if zlG x&&zt2 hs o.dst then AOp.nacc else x)=hint hs o.dst x0->x=x0->step F S.env S.heap (o.dst.getD 0) x=zn S.env S.heap (o.dst.getD 0) x->o.wp P a w next Q:=by
  intro x e1 e2 hst;subst e2;rw[<- e1] at h
  split at h
  ·rename_i hnil;simp only[zY6] at hnil;have hx:=zPD hnil.1;rw[hx] at hc;obtain⟨y,hop,hy⟩:=zGO hc;obtain⟨cv,rfl,rfl⟩:=zSw hy;simp only[step,zn] at h
   split at h
   ·rename_i hu
    cases h
    refine simple (x:= .nacc) ⟨.slice none 0 0,w,clr ι (o.dst.getD 0),R,.inl ?_,hr.newNone hu,.acc0⟩
    rcases hop with hop|hop<;>simp [execOp,hop,Act.eval]
   ·cases h
  ·rw[hst] at h;exact simple (x:=x) (zFU hc hr h)
 cases x0 with
 | call f ms xs=>
  obtain⟨c,hop,hcal,_,hcf,hxs⟩:=zGM hc;obtain⟨hl,hg⟩:=zjF hr hxs;refine calls f _ _ (c.args.toList.map a.eval) ?_ ⟨hl,hg⟩ h;have e:(c.args.toList.map a.eval).toArray=c.args.map a.eval:=by apply Array.ext';simp
  simp [execOp,hop,resolve,hcal,Act.eval,Deferred.ofValue,invoke,zDH hcf,e]
 | callv y ms xs=>
  obtain⟨c,f,hop,rfl,hcal,_,hflt,hxs⟩:=zGN hc;obtain⟨hl,hg⟩:=zjF hr hxs;have hfv:=hr.ev (show opd (.tmp f)=some (.t f) by simp only[opd,zYQ hflt]);have fin:∀(g:FuncId) (cs:List AV),(∃vs:List Value,a.eval (.tmp f)= .func (.func g) #[] vs.toArray/\VAs w R ι (mark S.heap) cs vs)->zgi S.heap (zbh F S.env S.heap (o.dst.getD 0) (zq3 hs o.dst) g (xs.map (·.ev S.env)++cs))=some (v,H')->o.wp P a w next Q:=by
   rintro g cs ⟨vs,hfe,hvl,hvg⟩ hw;have hcf:zdG P g=true:=by
    obtain⟨⟨v',δ⟩,h1,_⟩:=zYT.1 hw;exact zGd hF h1
   refine calls g _ _ (c.args.toList.map a.eval++vs) ?_ ⟨by rw[zYZ,zYZ,hl,hvl],fun i x u h1 h2=> ?_⟩ hw
   ·have e:(c.args.toList.map a.eval++vs).toArray=c.args.map a.eval++vs.toArray:=by apply Array.ext';simp
    simp [execOp,hop,resolve,hcal,hfe,Deferred.ofValue,invoke,zDH hcf,e]
   ·by_cases hi:i<(xs.map (·.ev S.env)).length
    ·rw[z0p hi] at h1;rw[z0p (by omega)] at h2;exact hg i x u h1 h2
    ·rw[z0d (by omega)] at h1;rw[z0d (by omega),hl] at h2;exact hvg _ x u h1 h2
  simp only[hint,step,zgj] at h;generalize hfe:Opd.ev S.env (.t f)=fa at h hfv;generalize hfa:a.eval (.tmp f)=fv at hfv
  split at h
  ·rename_i g cs
   cases hfv with
   | d hd=>
    cases hd with
    | fn hl' hg'=>exact fin g _ ⟨_,hfa,by simpa using hl',fun i x u k1 k2=>by
        rw[zZa] at k1;obtain⟨y,k3,rfl⟩:=zYT.1 k1;exact .d (hg' i y u k3 k2)⟩ h
  ·rename_i g cs
   cases hfv with
   | fn hl' hg'=>exact fin g _ ⟨_,hfa,hl',hg'⟩ h
  ·cases h
 | nileq ng y=>
  obtain⟨b,t,e,u,x,q,hop,hb,hu,hy,hq⟩:=zGP hc;have hv:=hr.ev hy;simp only[hint,zlG,zZH,zYX,if_false,step,ziW] at h;have hqv:∃l c,a.eval q= .slice none l c:=by
   unfold zrz at hq
   split at hq
   ·exact⟨_,_,rfl⟩
   ·cases hq
  obtain⟨ql,qc,hqv⟩:=hqv
  split at h
  ·rename_i b0 hnl
   cases h
   rw[hnl] at hv;generalize hav:a.eval x=av at hv
   cases hv with
   | nl1=>
    have heq:∀cap,(Op.equal t (.slice none 0 cap) (.slice none ql qc)).run P w= .ok true w:=by
     intro cap;unfold Op.equal;rw[show Op.maxDepth=9999+1 from rfl];unfold Op.equalIn;simp only[Sem.run_bind,run_underlying hu,Result.andThen_ok];simp
    refine simple (x:= .nacc) (zT.same hr (.d .bool) (u:= .bool (if ng=true then !true else true)) ?_)
    cases ng<;>simp at hb<;>subst hb<;>simp [execOp,hop,hav,hqv,eqGuard,Go.binOp,heq]
   | nl2=>
    have heq:∀ad cap,(Op.equal t (.slice (some ad) 0 cap) (.slice none ql qc)).run P w= .ok false w:=by
     intro ad cap;unfold Op.equal;rw[show Op.maxDepth=9999+1 from rfl];unfold Op.equalIn;simp only[Sem.run_bind,run_underlying hu,Result.andThen_ok];simp
    refine simple (x:= .nacc) (zT.same hr (.d .bool) (u:= .bool (if ng=true then !false else false)) ?_)
    cases ng<;>simp at hb<;>subst hb<;>simp [execOp,hop,hav,hqv,eqGuard,Go.binOp,heq]
  split at h
  ·rename_i d0 ds hsl
   cases h
   have fin:∀(ad:Addr) (l cap:Nat),a.eval x= .slice (some ad) l cap->o.wp P a w next Q:=by
    intro ad l cap hav;have heq:(Op.equal t (.slice (some ad) l cap) (.slice none ql qc)).run P w= .ok false w:=by
     unfold Op.equal;rw[show Op.maxDepth=9999+1 from rfl];unfold Op.equalIn;simp only[Sem.run_bind,run_underlying hu,Result.andThen_ok];simp
    refine simple (x:= .nacc) (zT.same hr (.d .bool) (u:= .bool ng) ?_)
    cases ng<;>simp at hb<;>subst hb<;>simp [execOp,hop,hav,hqv,eqGuard,Go.binOp,heq]
   generalize hpa:y.ev S.env=pa at hv hsl;generalize hav:a.eval x=av at hv;have data:∀ {es:List D},slD pa=some es->Rd w R (.v (.sl es) av)->o.wp P a w next Q:=by
    intro es he hrd;rw[he] at hsl
    cases hsl
    obtain⟨b',off,s,cap,rfl,_⟩:=hrd.sl_inv (by simp);exact fin _ _ _ hav
   cases hv with
   | d hv=>
    rename_i dx
    cases dx with
    | sl es=>exact data rfl hv
    | _=>simp [slD] at hsl
   | xsl hv=>exact data rfl hv
   | accR=>exact fin _ _ _ hav
   | accC=>exact fin _ _ _ hav
   | acc0=>simp [slD] at hsl
   | _=>simp [slD] at hsl
  ·cases h
 | _=>exact plain rfl rfl rfl
end Go.Sim

namespace Go.Sim
open Go (World Value Addr TypeId Act)
variable {P:Program} {C:Ctx} {F:zaO}
def zbQ{α:Type}:List (Nat×α)->Bool
 | []=>true
 | (k,_)::l=> !(l.any fun p=>p.1==k)&&zbQ l
theorem zCI{α:Type}{l:List (Nat×α)}(h:zbQ l=true){k:Nat}{x:α}(hm:(k,x)∈l):look k l=some x:=by
 induction l with
 | nil=>cases hm
 | cons p l ih=>
  obtain⟨j,y⟩:=p;simp only[zbQ,zY6,zZL] at h;simp only[look]
  cases hm with
  | head=>simp
  | tail _ hm=>
   rw[zYP,ih h.2 hm];rintro rfl;have:=zZ6.1 h.1 _ hm;simp at this
def zhJ{α:Type}(p:Nat×α):List (Nat×α)->List (Nat×α)
 | []=>[p]
 | q::l=>if p.1<=q.1 then p::q::l else q::zhJ p l
def zdf{α:Type}:List (Nat×α)->List (Nat×α)
 | []=>[]
 | p::l=>zhJ p (zdf l)
def gc(E:Env)(H:zf):zf->zf
 | []=>[]
 | p::l=>if (zaV p.1 E||zam p.1 H)=true then p::gc E H l else gc E H l
def gc1(E:Env)(H:zf):zf:=gc E H H
def zhK(ks:List Nat):Env->Env
 | []=>[]
 | p::l=>if (ks.contains p.1||decide (1000000<=p.1))=true then p::zhK ks l else zhK ks l
def gcS(S:St):St:=⟨S.env,gc1 S.env S.heap⟩
def endS(ks:List Nat)(S:St):St:=gcS ⟨zdf (zhK ks S.env),S.heap⟩
def zpk(H:zf):zf:=if zbQ H=true then zdf H else H
def znq:AV->AV
 | .xsl es=> .d (.sl es)
 | .d x=> .d x
 | .ref o i off=> .ref o i off
 | .osl o off len=> .osl o off len
 | .acc o es=> .acc o es
 | .pe o x=> .pe o x
 | .agg cs=> .agg cs
 | .tup vs=> .tup vs
 | .fn f cs=> .fn f cs
 | .nl b=> .nl b
 | .mpr o=> .mpr o
 | .undef=> .undef
def deX:Env->Env
 | []=>[]
 | (t,x)::l=>(t,znq x)::deX l
theorem zHs{w:World}{R:Nat->Prop}{ι:Inj}{mk:Nat->Option Nat}{x:AV}{u:Value}(h:VA w R ι mk x u):VA w R ι mk (znq x) u:=by
 cases x with
 | xsl es=>cases h with|xsl h=>exact .d h
 | _=>exact h
theorem zRd{t:Nat}{y:AV}:∀ {E:Env},(t,y)∈deX E->∃x,(t,x)∈E/\y=znq x:=by
 intro E
 induction E with
 | nil=>intro h;cases h
 | cons p l ih=>
  intro h
  cases h with
  | head=>exact⟨p.2,.head _,rfl⟩
  | tail _ h=>obtain⟨x,h1,h2⟩:=ih h;exact⟨x,.tail _ h1,h2⟩
def norm1(S:St):St:=⟨zdf (deX S.env),zpk (gc1 S.env (gc1 S.env S.heap))⟩
def norm(ks:List Nat)(S:St):St:=norm1 ⟨zfY ks S.env,S.heap⟩
theorem zRf{α:Type}{p q:Nat×α}{l:List (Nat×α)}:q∈zhJ p l↔q=p\/q∈l:=by
 induction l with
 | nil=>simp [zhJ]
 | cons r l ih=>
  simp only[zhJ]
  split
  ·simp
  ·simp only[zZx,ih];constructor
   ·rintro (h|h|h)
    ·exact .inr (.inl h)
    ·exact .inl h
    ·exact .inr (.inr h)
   ·rintro (h|h|h)
    ·exact .inr (.inl h)
    ·exact .inl h
    ·exact .inr (.inr h)
theorem zl1{α:Type}{q:Nat×α}{l:List (Nat×α)}:q∈zdf l↔q∈l:=by
 induction l with
 | nil=>simp [zdf]
 | cons p l ih=>simp [zdf,zRf,ih]
theorem zQM{α:Type}{k:Nat}{p:Nat×α}{l:List (Nat×α)}(h:∀x,(p.1,x)∉l):look k (zhJ p l)=if p.1=k then some p.2 else look k l:=by
 induction l with
 | nil=>rfl
 | cons r l ih=>
  have hr:r.1≠p.1:=fun e=>h r.2 (by rw[<- e];exact .head _);simp only[zhJ]
  split
  ·rfl
  ·simp only[look];rw[ih fun x hx=>h x (.tail _ hx)]
   by_cases e:r.1=k
   ·rw[zYQ e,zYQ e,zYP (by omega)]
   ·rw[zYP e,zYP e]
theorem zOV{E:Env}{H l:zf}{p:Nat×Obj}:p∈gc E H l↔p∈l/\(zaV p.1 E||zam p.1 H)=true:=by
 induction l with
 | nil=>simp [gc]
 | cons q l ih=>
  simp only[gc]
  split
  ·rename_i h;simp only[zZx,ih];constructor
   ·rintro (rfl|⟨h1,h2⟩)
    ·exact⟨.inl rfl,h⟩
    ·exact⟨.inr h1,h2⟩
   ·rintro⟨rfl|h1,h2⟩
    ·exact .inl rfl
    ·exact .inr ⟨h1,h2⟩
  ·rename_i h;simp only[zZx,ih];constructor
   ·rintro⟨h1,h2⟩;exact⟨.inr h1,h2⟩
   ·rintro⟨rfl|h1,h2⟩
    ·exact absurd h2 h
    ·exact⟨h1,h2⟩
theorem zQL{E:Env}{H l:zf}{o:Nat}(h:(zaV o E||zam o H)=true):look o (gc E H l)=look o l:=by
 induction l with
 | nil=>rfl
 | cons q l ih=>
  simp only[gc]
  by_cases hq:(zaV q.1 E||zam q.1 H)=true
  ·rw[zYQ hq];simp only[look,ih]
  ·rw[zYP hq,ih];simp only[look];rw[zYP];intro e;rw[e] at hq;exact hq h
theorem Rel.gc{S:St}{a:Act}{w:World}{ι:Inj}{R:Nat->Prop}(h:Rel C S a w ι R):Rel C ⟨S.env,gc1 S.env S.heap⟩ a w ι R:=by
 have hm:∀p,(zaV p S.env||zam p S.heap)=true->mark (gc1 S.env S.heap) p=mark S.heap p:=fun p hp=>by
  unfold mark gc1;rw[zQL hp]
 have hst:∀p,(zaV p S.env||zam p S.heap)=true->Step w w ι ι (mark S.heap) (mark (gc1 S.env S.heap)) p:=fun p hp=>Step.other rfl (hm p hp) fun _ _ _=>rfl;have env1:∀ {t x p},(t,x)∈S.env->x.refs p=true->zaV p S.env=true:=fun {t x p} hx hp=>by
  cases hh:zaV p S.env with
  | true=>rfl
  | false=>rw[zmp hx hh] at hp;cases hp
 have heap1:∀ {t x p},(t,x)∈S.heap->x.refs p=true->zam p S.heap=true:=fun {t x p} hx hp=>by
  cases hh:zam p S.heap with
  | true=>rfl
  | false=>rw[zhc hx hh] at hp;cases hp
 refine { h with env:=fun t x hx=> ?_,heap:=fun q ob hq=> ?_ }
 ·obtain⟨u,h1,h2⟩:=h.env t x hx;exact⟨u,h1,h2.mono (fun _ h=>h) (fun _ _=>rfl) fun p hp=>hst p (by rw[env1 hx hp];rfl)⟩
 ·have hq':=(zOV.1 hq).1;exact (h.heap q ob hq').mono (fun _ h=>h) (fun _ _=>rfl) (fun _ _ hb=>⟨hb,rfl,fun h=>h⟩) (fun h=>h) fun p hp=>hst p (by rw[heap1 hq' hp,z03])
theorem zRg{ks:List Nat}{E:Env}{p:Nat×AV}(h:p∈zhK ks E):p∈E:=by
 induction E with
 | nil=>cases h
 | cons q l ih=>
  simp only[zhK] at h
  split at h
  ·cases h with
   | head=>exact .head _
   | tail _ h=>exact .tail _ (ih h)
  ·exact .tail _ (ih h)
theorem Rel.endS{S:St}{a:Act}{w:World}{ι:Inj}{R:Nat->Prop}(h:Rel C S a w ι R)(ks:List Nat):Rel C (endS ks S) a w ι R:=by
 have h1:Rel C ⟨zdf (zhK ks S.env),S.heap⟩ a w ι R:=h.weaken fun t x hx=>zRg (zl1.1 hx);exact h1.gc
theorem zQ9{H:zf}{o:Nat}(hn:zbQ H=true):mark (zdf H) o=mark H o:=by
 have:look o (zdf H)=look o H:=by
  induction H with
  | nil=>rfl
  | cons p l ih=>
   obtain⟨k,ob⟩:=p;simp only[zbQ,zY6,zZL] at hn;simp only[zdf];rw[zQM,ih hn.2]
   ·rfl
   ·intro x hx;rw[zl1] at hx;have:=zZ6.1 hn.1 _ hx;simp at this
 unfold mark;rw[this]
theorem Rel.sorted{S:St}{a:Act}{w:World}{ι:Inj}{R:Nat->Prop}(h:Rel C S a w ι R)(hn:zbQ S.heap=true):Rel C ⟨zdf S.env,zdf S.heap⟩ a w ι R:=by
 have hm:mark (zdf S.heap)=mark S.heap:=funext fun o=>zQ9 hn;refine { h with env:=fun t x hx=> ?_,heap:=fun q ob hq=> ?_ }
 ·rw[hm];exact h.env t x (zl1.1 hx)
 ·rw[hm];exact h.heap q ob (zl1.1 hq)
theorem Rel.norm1{S:St}{a:Act}{w:World}{ι:Inj}{R:Nat->Prop}(h:Rel C S a w ι R):Rel C (norm1 S) a w ι R:=by
 have h0:Rel C ⟨S.env,gc1 S.env (gc1 S.env S.heap)⟩ a w ι R:=(h.gc).gc;have h1:Rel C ⟨deX S.env,gc1 S.env (gc1 S.env S.heap)⟩ a w ι R:=by
  refine { h0 with env:=fun t x hx=> ?_ };obtain⟨y,hy,rfl⟩:=zRd hx;obtain⟨u,h2,h3⟩:=h0.env t y hy;exact⟨u,h2,zHs h3⟩
 unfold Go.Sim.norm1 zpk
 split
 ·rename_i hn;exact h1.sorted hn
 ·exact { h1 with env:=fun t x hx=>h1.env t x (zl1.1 hx) }
theorem Rel.norm{S:St}{a:Act}{w:World}{ι:Inj}{R:Nat->Prop}(h:Rel C S a w ι R)(ks:List Nat):Rel C (norm ks S) a w ι R:=(h.kill ks).norm1
end Go.Sim

namespace Go.Sim
open Go (World Value Addr TypeId Act)
variable {P:Program} {C:Ctx}
def ziz(o m:Nat):Env->Option (List D)
 | []=>none
 | (_,.acc p es)::l=>if p=o/\es.length=m then some es else ziz o m l
 | _::l=>ziz o m l
def zgC(o m:Nat)(x:AV):AV:=
 match x with
 | .acc p es=>if p=o then (if es.length=m then .osl o 0 m else .undef) else .acc p es
 | x=>if x.refs o then .undef else x
def zmx(o m:Nat)(E:Env):Env:=E.map fun p=>(p.1,zgC o m p.2)
def zgf(o:Nat)(ds:List D)(x:AV):AV:=
 match x with
 | .osl p off len=>if p=o then (if off=0/\len=ds.length then .acc o ds else .undef) else .osl p off len
 | x=>if x.refs o then .undef else x
def zkY(o:Nat)(ds:List D)(E:Env):Env:=E.map fun p=>(p.1,zgf o ds p.2)
def zl5(o:Nat):AV->AV
 | .acc p []=>if p=o then .xsl [] else .acc p []
 | x=>x
def zhP(o:Nat):Env->Env
 | []=>[]
 | (t,x)::l=>(t,zl5 o x)::zhP o l
def okC(o m:Nat):AV->Bool
 | .acc p es=>if p=o then es.length==m else true
 | x=> !x.refs o
def zcT(o m:Nat):AV->AV
 | .acc p es=>if p=o then .osl o 0 m else .acc p es
 | x=>x
def zl7(o m:Nat):List AV->Bool
 | []=>true
 | x::l=>okC o m x&&zl7 o m l
def zmw(o m:Nat):List AV->List AV
 | []=>[]
 | x::l=>zcT o m x::zmw o m l
def okE(o m:Nat):AV->Bool
 | .agg cs=>zl7 o m cs
 | x=>okC o m x
def zh1(o m:Nat):AV->AV
 | .agg cs=> .agg (zmw o m cs)
 | x=>zcT o m x
def zkm(o m:Nat):List AV->Bool
 | []=>true
 | x::l=>okE o m x&&zkm o m l
def zkD(o m:Nat):List AV->List AV
 | []=>[]
 | x::l=>zh1 o m x::zkD o m l
def zf4(o m:Nat):zf->Bool
 | []=>true
 | (_,.row es)::l=>zkm o m es&&zf4 o m l
 | (_,.acc _)::l=>zf4 o m l
 | (_,.frz _)::l=>zf4 o m l
 | (_,.mp _)::l=>zf4 o m l
def zcw(o m:Nat):zf->zf
 | []=>[]
 | (q,.row es)::l=>(q,.row (zkD o m es))::zcw o m l
 | (q,.acc n)::l=>(q,.acc n)::zcw o m l
 | (q,.frz n)::l=>(q,.frz n)::zcw o m l
 | (q,.mp n)::l=>(q,.mp n)::zcw o m l
def zhE(o m:Nat):List AV->Option (List D)
 | []=>none
 | .acc p es::l=>if p=o/\es.length=m then some es else zhE o m l
 | _::l=>zhE o m l
def orE{α:Type}(x:Option α):Option α->Option α
 | some a=>some a
 | none=>x
def zhF(o m:Nat):List AV->Option (List D)
 | []=>none
 | .agg cs::l=>orE (zhF o m l) (zhE o m cs)
 | x::l=>orE (zhF o m l) (zhE o m [x])
def zfW(o m:Nat):zf->Option (List D)
 | []=>none
 | (_,.row es)::l=>orE (zfW o m l) (zhF o m es)
 | (_,.acc _)::l=>zfW o m l
 | (_,.frz _)::l=>zfW o m l
 | (_,.mp _)::l=>zfW o m l
def znC(o m:Nat)(E:Env)(H:zf):Option (List D):=orE (zfW o m H) (ziz o m E)
def ztJ(o m:Nat)(E:Env)(H:zf)(es:List D)(b:Bool):Option St:=
 if b=false then some ⟨zmx o m E,zN o (.row (es.map .d)) H⟩ else if zf4 o m H=true then some ⟨zmx o m E,zN o (.row (es.map .d)) (zcw o m H)⟩ else none
def ztI(o m:Nat)(E:Env)(H:zf):Option (List D)->Option St
 | some es=>if m≠0 then ztJ o m E H es (zam o H) else none
 | none=>none
def ziV(o:Nat)(x:AV):AV:=
 match x with
 | .acc p []=>if p=o then .xsl [] else .acc p []
 | x=>x
def zl3(o:Nat):List AV->List AV
 | []=>[]
 | x::l=>ziV o x::zl3 o l
def zkg(o:Nat)(x:AV):AV:=
 match x with
 | .agg cs=> .agg (zl3 o cs)
 | x=>x
def zkh(o:Nat):List AV->List AV
 | []=>[]
 | x::l=>zkg o x::zkh o l
def zoP(o:Nat)(ob:Obj):Obj:=
 match ob with
 | .row es=> .row (zkh o es)
 | x=>x
def zf2(o:Nat):zf->zf
 | []=>[]
 | (q,ob)::l=>(q,zoP o ob)::zf2 o l
def zsH(o:Nat)(E:Env)(H:zf)(b:Bool):Option St:=if b=false then some ⟨zhP o E,H⟩ else some ⟨zhP o E,zf2 o H⟩
def ztH(o:Nat)(E:Env)(H:zf):Option Obj->Option St
 | some (.acc m)=>if m=0 then zsH o E H (zam o H) else ztI o m E H (znC o m E H)
 | some (.row es)=>some ⟨E,H⟩
 | some (.frz m)=>some ⟨E,H⟩
 | some (.mp m)=>some ⟨E,H⟩
 | none=>some ⟨E,H⟩
def zpv(o:Nat)(S:St):Option St:=ztH o S.env S.heap (look o S.heap)
def zl4(o:Nat):AV->AV
 | .osl p off 0=>if p=o then .d (.sl []) else .osl p off 0
 | x=>x
def zki(o:Nat):Env->Env
 | []=>[]
 | (t,x)::l=>(t,zl4 o x)::zki o l
def okA(o n:Nat):AV->Bool
 | .osl p off len=>if p=o then off==0&&len==n else true
 | x=> !x.refs o
def acA(o:Nat)(ds:List D):AV->AV
 | .osl p off len=>if p=o then .acc o ds else .osl p off len
 | x=>x
def zl6(o n:Nat):List AV->Bool
 | []=>true
 | x::l=>okA o n x&&zl6 o n l
def zkX(o:Nat)(ds:List D):List AV->List AV
 | []=>[]
 | x::l=>acA o ds x::zkX o ds l
def zoR(o n:Nat):AV->Bool
 | .agg cs=>zl6 o n cs
 | x=>okA o n x
def zhp(o:Nat)(ds:List D):AV->AV
 | .agg cs=> .agg (zkX o ds cs)
 | x=>acA o ds x
def zkl(o n:Nat):List AV->Bool
 | []=>true
 | x::l=>zoR o n x&&zkl o n l
def zjl(o:Nat)(ds:List D):List AV->List AV
 | []=>[]
 | x::l=>zhp o ds x::zjl o ds l
def zf3(o n:Nat):zf->Bool
 | []=>true
 | (_,.row es)::l=>zkl o n es&&zf3 o n l
 | (_,.acc _)::l=>zf3 o n l
 | (_,.frz _)::l=>zf3 o n l
 | (_,.mp _)::l=>zf3 o n l
def zcp(o:Nat)(ds:List D):zf->zf
 | []=>[]
 | (q,.row es)::l=>(q,.row (zjl o ds es))::zcp o ds l
 | (q,.acc n)::l=>(q,.acc n)::zcp o ds l
 | (q,.frz n)::l=>(q,.frz n)::zcp o ds l
 | (q,.mp n)::l=>(q,.mp n)::zcp o ds l
def ztC(o:Nat)(E:Env)(H:zf)(ds:List D):Option St:=
 if zf3 o ds.length H=true then some ⟨zkY o ds E,zN o (.acc ds.length) (zcp o ds H)⟩ else none
def ztB(o:Nat)(E:Env)(H:zf)(es:List AV):Option (List D)->Option St
 | some ds=>if es=[] then some ⟨zki o E,H⟩ else if es≠[]/\zam o H=false then some ⟨zkY o ds E,zN o (.acc ds.length) H⟩ else ztC o E H ds
 | none=>none
def ztA(o:Nat)(E:Env)(H:zf):Option Obj->Option St
 | some (.row es)=>ztB o E H es (zbq es)
 | some (.acc m)=>some ⟨E,H⟩
 | some (.frz m)=>some ⟨E,H⟩
 | some (.mp m)=>some ⟨E,H⟩
 | none=>some ⟨E,H⟩
def zps(o:Nat)(S:St):Option St:=ztA o S.env S.heap (look o S.heap)
def rnm(o o' n:Nat):Nat:=if n=o then o' else n
def zmq(ρ:Nat->Nat):Env->Env
 | []=>[]
 | (t,x)::l=>(t,x.ren ρ)::zmq ρ l
def ztG(o o':Nat)(E:Env)(H:zf):Option Obj->Option St
 | some _=>if (look o' H).isNone=true/\zaV o' E=false/\zam o' H=false then some ⟨zmq (rnm o o') E,zdb (rnm o o') H⟩ else none
 | none=>some ⟨E,H⟩
def zpu(o o':Nat)(S:St):Option St:=ztG o o' S.env S.heap (look o S.heap)
def zll(x:AV):Option D->AV
 | some d=> .d d
 | none=>x
def zlm(o:Nat)(H:zf):AV->AV
 | .acc p es=>if p=o then .d (.sl es) else .acc p es
 | .osl p off len=>if p=o then zll (.osl p off len) (toD H (.osl p off len)) else .osl p off len
 | .ref p i k=>if p=o then zll (.ref p i k) (toD H (.ref p i k)) else .ref p i k
 | x=>x
def zhA(o:Nat)(H:zf):Env->Env
 | []=>[]
 | (t,x)::l=>(t,zlm o H x)::zhA o H l
def zit(o:Nat)(x:AV):AV:=
 match x with
 | .acc p es=>if p=o then .d (.sl es) else .acc p es
 | x=>x
def zlk(o:Nat):List AV->List AV
 | []=>[]
 | x::l=>zit o x::zlk o l
def zjB(o:Nat)(x:AV):AV:=
 match x with
 | .agg cs=> .agg (zlk o cs)
 | x=>x
def zjC(o:Nat):List AV->List AV
 | []=>[]
 | x::l=>zjB o x::zjC o l
def zno(o:Nat)(ob:Obj):Obj:=
 match ob with
 | .row es=> .row (zjC o es)
 | x=>x
def zfO(o:Nat):zf->zf
 | []=>[]
 | (q,ob)::l=>(q,zno o ob)::zfO o l
def zqF(o:Nat)(E:Env)(H:zf)(b:Bool):Option St:=if b=false then some ⟨zhA o H E,zag (zbm H [o]) H⟩ else some ⟨zhA o H E,zfO o (zag (zbm H [o]) H)⟩
def ztE(o:Nat)(E:Env)(H:zf):Option Obj->Option St
 | some _=>zqF o E H (zam o H)
 | none=>some ⟨E,H⟩
def zpt(o:Nat)(S:St):Option St:=ztE o S.env S.heap (look o S.heap)
def znQ(g:Nat)(S:St):Option St:=if g<4000000 then (if g % 2=0 then zpv (g / 2) S else zps (g / 2) S) else if g<6000000 then zpu (g - 4000000) (g - 3500000) S else if g<8000000 then zpt (g - 6000000) S else some (norm1 S)
def zfh:List Nat->St->Option St
 | [],S=>some S
 | g::gs,S=>(znQ g S).bind (zfh gs)
theorem zJR{o m:Nat}{es:List D}:∀ {E:Env},ziz o m E=some es->∃t,(t,AV.acc o es)∈E/\es.length=m:=by
 intro E
 induction E with
 | nil=>intro h;cases h
 | cons p l ih=>
  obtain⟨t,x⟩:=p;intro h
  cases x with
  | acc q es'=>
   simp only[ziz] at h
   split at h
   ·rename_i hc;obtain⟨rfl,hl⟩:=hc
    cases h;exact⟨t,.head _,hl⟩
   ·obtain⟨t',h1,h2⟩:=ih h;exact⟨t',.tail _ h1,h2⟩
  | _=>simp only[ziz] at h;obtain⟨t',h1,h2⟩:=ih h;exact⟨t',.tail _ h1,h2⟩
theorem Rel.recast {S:St} {a:Act} {w:World} {ι:Inj} {R:Nat->Prop} (h:Rel C S a w ι R) {o:Nat} {ob:Obj} {g:AV->AV} (hh:zam o S.heap=false)
    (hob:OB w R ι (mark (zN o ob S.heap)) o ob)
    (hg:∀x u,VA w R ι (mark S.heap) x u->(x.refs o=true->VA w R ι (mark (zN o ob S.heap)) (g x) u)/\(x.refs o=false->g x=x)):
    Rel C ⟨S.env.map fun p=>(p.1,g p.2),zN o ob S.heap⟩ a w ι R:=by
 have hst:∀p,p≠o->Step w w ι ι (mark S.heap) (mark (zN o ob S.heap)) p:=fun p hp=>Step.other rfl (zdU hp) fun _ _ _=>rfl;refine { h with env:=fun t x hx=> ?_,heap:=fun q ob' hq=> ?_ }
 ·obtain⟨⟨t',y⟩,hm,he⟩:=zY0.1 hx
  cases he
  obtain⟨u,h1,h2⟩:=h.env t' y hm;refine⟨u,h1,?_⟩
  cases hr:y.refs o with
  | true=>exact (hg y u h2).1 hr
  | false=>
   show VA w R ι _ (g y) u;rw[(hg y u h2).2 hr];exact h2.mono (fun _ h=>h) (fun _ _=>rfl) fun p hp=>hst p fun e=>by subst e;rw[hr] at hp;cases hp
 ·rcases zgF hq with hq2|⟨hq2,hne⟩
  ·cases hq2;exact hob
  ·exact (h.heap q ob' hq2).mono (fun _ h=>h) (fun _ _=>rfl) (fun _ _ hb=>⟨hb,rfl,fun h=>h⟩) (fun h=>h) fun p hp=>hst p fun e=>by
      rw[e] at hp;have:=zhc (l:=S.heap) hq2 hh;rw[hp] at this;cases this
theorem zRK{w:World}{R:Nat->Prop}{ι:Inj}{mk:Nat->Option Nat}{o:Nat}{x:AV}{u:Value}(hι:ι o=none)(hm:mk o=some 0)(h:VA w R ι mk x u):VA w R ι mk (zl5 o x) u:=by
 unfold zl5
 split
 ·split
  ·rename_i hp;subst hp
   cases h with
   | accR _ _ _ _ _ _ hlt=>have:=hlt 0 hm;simp at this
   | accC hι'=>rw[hι] at hι';cases hι'
   | acc0=>exact .xsl .sl0
  ·exact h
 ·exact h
theorem zRJ{w:World}{R:Nat->Prop}{ι:Inj}{mk:Nat->Option Nat}{o:Nat}{x:AV}{u:Value}(h:VA w R ι mk x u):VA w R ι mk (zl4 o x) u:=by
 unfold zl4
 split
 ·split
  ·cases h<;>exact .d .sl0
  ·exact h
 ·exact h
theorem zRI{o:Nat}{E:Env}:zki o E=E.map fun p=>(p.1,zl4 o p.2):=by
 induction E with
 | nil=>rfl
 | cons p l ih=>obtain⟨t,x⟩:=p;simp only[zki,ih];rfl
theorem Rel.nilsO{S:St}{a:Act}{w:World}{ι:Inj}{R:Nat->Prop}(h:Rel C S a w ι R){o:Nat}:Rel C ⟨zki o S.env,S.heap⟩ a w ι R:=by
 refine { h with env:=fun t x hx=> ?_ };rw[zRI] at hx;obtain⟨⟨t',y⟩,hm,he⟩:=zY0.1 hx
 cases he
 obtain⟨u,h1,h2⟩:=h.env t' y hm;exact⟨u,h1,zRJ h2⟩
theorem zRH{o:Nat}{E:Env}:zhP o E=E.map fun p=>(p.1,zl5 o p.2):=by
 induction E with
 | nil=>rfl
 | cons p l ih=>obtain⟨t,x⟩:=p;simp only[zhP,ih];rfl
theorem Rel.nils{S:St}{a:Act}{w:World}{ι:Inj}{R:Nat->Prop}(h:Rel C S a w ι R){o:Nat}(hlk:look o S.heap=some (.acc 0)):Rel C ⟨zhP o S.env,S.heap⟩ a w ι R:=by
 have hι:ι o=none:=by
  cases h.heap _ _ (zar hlk) with
  | acc hpos=>exact absurd hpos (by decide)
  | accN hι=>exact hι
 have hmk:mark S.heap o=some 0:=by simp [mark,hlk]
 refine { h with env:=fun t x hx=> ?_ };rw[zRH] at hx;obtain⟨⟨t',y⟩,hm,he⟩:=zY0.1 hx
 cases he
 obtain⟨u,h1,h2⟩:=h.env t' y hm;exact⟨u,h1,zRK hι hmk h2⟩
theorem zRF{o:Nat}{x:AV}(h:x.cell=true):(ziV o x).cell=true:=by
 unfold ziV
 split
 ·split<;>rfl
 ·exact h
theorem zsG{o:Nat}:∀ {l:List AV},zl3 o l=l.map (ziV o)
 | []=>rfl
 | x::l=>by simp only[zl3,zYU,zsG]
theorem zCG{o:Nat}:∀ {l:List AV},zkh o l=l.map (zkg o)
 | []=>rfl
 | x::l=>by simp only[zkh,zYU,zCG]
theorem zCH{o q:Nat}{ob:Obj}:∀ {H:zf},(q,ob)∈zf2 o H->∃ob0,(q,ob0)∈H/\ob=zoP o ob0
 | [],h=>by cases h
 | (q',ob')::l,h=>by
  simp only[zf2] at h
  cases h with
  | head=>exact⟨_,.head _,rfl⟩
  | tail _ h=>obtain⟨ob0,h1,h2⟩:=zCH h;exact⟨ob0,.tail _ h1,h2⟩
theorem zCg{o q:Nat}:∀ {H:zf},look q (zf2 o H)=(look q H).map (zoP o)
 | []=>rfl
 | (q',ob')::l=>by
  simp only[zf2,look]
  split
  ·rfl
  ·exact zCg
theorem zCp{o:Nat}{H:zf}:mark (zf2 o H)=mark H:=funext fun p=>by
 unfold mark;rw[zCg]
 rcases look p H with _|(es|m|m|m)<;>rfl
theorem zRG{w:World}{R:Nat->Prop}{ι:Inj}{mk:Nat->Option Nat}{o:Nat}{x:AV}{u:Value}(hι:ι o=none)(hm:mk o=some 0)(h:VA w R ι mk x u):VA w R ι mk (ziV o x) u:=by
 unfold ziV
 split
 ·split
  ·rename_i hp;subst hp
   cases h with
   | accR _ _ _ _ _ _ hlt=>have:=hlt 0 hm;simp at this
   | accC hι'=>rw[hι] at hι';cases hι'
   | acc0=>exact .xsl .sl0
  ·exact h
 ·exact h
theorem Rel.nilsH{S:St}{a:Act}{w:World}{ι:Inj}{R:Nat->Prop}(h:Rel C S a w ι R){o:Nat}(hlk:look o S.heap=some (.acc 0)):Rel C ⟨zhP o S.env,zf2 o S.heap⟩ a w ι R:=by
 have h:=h.nils hlk;have hι:ι o=none:=by
  cases h.heap _ _ (zar hlk) with
  | acc hpos=>exact absurd hpos (by decide)
  | accN hι=>exact hι
 have hmk:mark S.heap o=some 0:=by simp [mark,hlk]
 refine { h with env:=fun t x hx=> ?_,heap:=fun q ob hq=> ?_ }
 ·show ∃u,zeC C a t=some u/\VA w R ι (mark (zf2 o S.heap)) x u;rw[zCp];exact h.env t x hx
 ·show OB w R ι (mark (zf2 o S.heap)) q ob;rw[zCp];obtain⟨ob0,h1,rfl⟩:=zCH hq;have hob:=h.heap q ob0 h1
  cases ob0 with
  | acc n=>exact hob
  | frz n=>exact hob
  | mp n=>exact hob
  | row es=>
   cases hob with
   | row hι' hR hb hs0 hsz hc hel=>
    show OB w R ι _ q (.row (zkh o es));rw[zCG];have hsize:∀e:AV,(zkg o e).size=e.size:=fun e=>by
     unfold zkg
     split
     ·simp only[AV.size,zsG,zY3]
     ·rfl
    refine .row hι' hR hb hs0 (fun e he=> ?_) (by rw[zY3];exact hc) fun i e hi j x hj=> ?_
    ·obtain⟨e0,he0,rfl⟩:=zY0.1 he;rw[hsize];exact hsz e0 he0
    ·rw[zZa] at hi;obtain⟨e0,he0,rfl⟩:=zYT.1 hi;unfold zkg at hj
     split at hj
     ·rename_i cs;simp only[AV.cells,zsG,zZa] at hj;obtain⟨x0,hx0,rfl⟩:=zYT.1 hj;obtain⟨k1,qv,k2,k3⟩:=hel i _ he0 j x0 hx0;exact⟨zRF k1,qv,k2,zRG hι hmk k3⟩
     ·exact hel i _ he0 j x hj
theorem zUK{o m:Nat}{x:AV}:(zcT o m x).size=x.size:=by
 unfold zcT
 split
 ·split<;>rfl
 ·rfl
theorem zUJ{o m:Nat}{x:AV}(h:x.cell=true):(zcT o m x).cell=true:=by
 unfold zcT
 split
 ·split<;>rfl
 ·exact h
theorem ztf{o m:Nat}:∀ {l:List AV},zmw o m l=l.map (zcT o m)
 | []=>rfl
 | x::l=>by simp only[zmw,zYU,ztf]
theorem zpd{o m:Nat}:∀ {l:List AV},zkD o m l=l.map (zh1 o m)
 | []=>rfl
 | x::l=>by simp only[zkD,zYU,zpd]
theorem zCO{o m:Nat}{x:AV}:∀ {l:List AV},zl7 o m l=true->x∈l->okC o m x=true
 | [],_,h=>by cases h
 | y::l,hk,h=>by
  simp only[zl7,zY6] at hk
  cases h with
  | head=>exact hk.1
  | tail _ h=>exact zCO hk.2 h
theorem zCP{o m:Nat}{x:AV}:∀ {l:List AV},zkm o m l=true->x∈l->okE o m x=true
 | [],_,h=>by cases h
 | y::l,hk,h=>by
  simp only[zkm,zY6] at hk
  cases h with
  | head=>exact hk.1
  | tail _ h=>exact zCP hk.2 h
theorem zUM{o m:Nat}{x:AV}:(zh1 o m x).size=x.size:=by
 unfold zh1
 split
 ·simp only[AV.size,ztf,zY3]
 ·exact zUK
theorem zUL{o m:Nat}{e x':AV}{j:Nat}(hk:okE o m e=true)(h:(zh1 o m e).cells[j]? = some x'):∃x,e.cells[j]? = some x/\okC o m x=true/\x'=zcT o m x:=by
 have one:∀e:AV,e.cells=[e]->okC o m e=true->(zcT o m e).cells=[zcT o m e]->(zcT o m e).cells[j]? = some x'->∃x,e.cells[j]? = some x/\okC o m x=true/\x'=zcT o m x:=by
  intro e h1 h2 h3 h4;rw[h3] at h4
  match j,h4 with
  | 0,h4=>simp at h4;subst h4;exact⟨e,by rw[h1];rfl,h2,rfl⟩
  | n+1,h4=>simp at h4
 cases e with
 | agg cs=>
  simp only[zh1,AV.cells,ztf,zZa] at h;obtain⟨x,h1,h2⟩:=zYT.1 h;exact⟨x,h1,zCO hk (zZf h1),h2.symm⟩
 | d y=>
  simp only[zh1,zcT,AV.cells,zZa] at h;obtain⟨c,h1,h2⟩:=zYT.1 h;subst h2;exact⟨.d c,by simp [AV.cells,h1],rfl,rfl⟩
 | acc p es=>exact one _ rfl hk (by unfold zcT;simp only;split<;>rfl) h
 | ref p i f=>exact one _ rfl hk rfl h
 | osl p i f=>exact one _ rfl hk rfl h
 | pe p i=>exact one _ rfl hk rfl h
 | xsl p=>exact one _ rfl hk rfl h
 | tup p=>exact one _ rfl hk rfl h
 | fn p i=>exact one _ rfl hk rfl h
 | nl p=>exact one _ rfl hk rfl h
 | mpr p=>exact one _ rfl hk rfl h
 | undef=>exact one _ rfl hk rfl h
def zDG(o m:Nat):Obj->Obj
 | .row es=> .row (zkD o m es)
 | x=>x
theorem zmy{o m:Nat}{q:Nat}{ob:Obj}:∀ {H:zf},zf4 o m H=true->(q,ob)∈zcw o m H->∃ob0,(q,ob0)∈H/\ob=zDG o m ob0/\(∀es,ob0= .row es->zkm o m es=true)
 | [],_,h=>by cases h
 | (q',.row es)::l,hk,h=>by
  simp only[zf4,zY6] at hk;simp only[zcw] at h
  cases h with
  | head=>exact⟨_,.head _,rfl,fun es' e=>by cases e;exact hk.1⟩
  | tail _ h=>obtain⟨ob0,h1,h2,h3⟩:=zmy hk.2 h;exact⟨ob0,.tail _ h1,h2,h3⟩
 | (q',.acc n)::l,hk,h=>by
  simp only[zf4] at hk;simp only[zcw] at h
  cases h with
  | head=>exact⟨_,.head _,rfl,fun es' e=>by cases e⟩
  | tail _ h=>obtain⟨ob0,h1,h2,h3⟩:=zmy hk h;exact⟨ob0,.tail _ h1,h2,h3⟩
 | (q',.frz n)::l,hk,h=>by
  simp only[zf4] at hk;simp only[zcw] at h
  cases h with
  | head=>exact⟨_,.head _,rfl,fun es' e=>by cases e⟩
  | tail _ h=>obtain⟨ob0,h1,h2,h3⟩:=zmy hk h;exact⟨ob0,.tail _ h1,h2,h3⟩
 | (q',.mp n)::l,hk,h=>by
  simp only[zf4] at hk;simp only[zcw] at h
  cases h with
  | head=>exact⟨_,.head _,rfl,fun es' e=>by cases e⟩
  | tail _ h=>obtain⟨ob0,h1,h2,h3⟩:=zmy hk h;exact⟨ob0,.tail _ h1,h2,h3⟩
theorem zl0{o m q:Nat}:∀ {H:zf},mark (zcw o m H) q=mark H q
 | []=>rfl
 | (q',.row es)::l=>by
  have ih:=zl0 (o:=o) (m:=m) (q:=q) (H:=l);unfold mark at ih ⊢;simp only[zcw,Go.Sim.look]
  by_cases h:q'=q
  ·rw[zYQ h,zYQ h]
  ·rw[zYP h,zYP h];exact ih
 | (q',.acc n)::l=>by
  have ih:=zl0 (o:=o) (m:=m) (q:=q) (H:=l);unfold mark at ih ⊢;simp only[zcw,Go.Sim.look]
  by_cases h:q'=q
  ·rw[zYQ h,zYQ h]
  ·rw[zYP h,zYP h];exact ih
 | (q',.frz n)::l=>by
  have ih:=zl0 (o:=o) (m:=m) (q:=q) (H:=l);unfold mark at ih ⊢;simp only[zcw,Go.Sim.look]
  by_cases h:q'=q
  ·rw[zYQ h,zYQ h]
  ·rw[zYP h,zYP h];exact ih
 | (q',.mp n)::l=>by
  have ih:=zl0 (o:=o) (m:=m) (q:=q) (H:=l);unfold mark at ih ⊢;simp only[zcw,Go.Sim.look]
  by_cases h:q'=q
  ·rw[zYQ h,zYQ h]
  ·rw[zYP h,zYP h];exact ih
theorem zl9{α:Type}{x y:Option α}{a:α}(h:orE x y=some a):y=some a\/x=some a:=by
 cases y with
 | some b=>exact .inl h
 | none=>exact .inr h
theorem ziA{o m:Nat}{es:List D}:∀ {l:List AV},zhE o m l=some es->AV.acc o es∈l/\es.length=m
 | [],h=>by cases h
 | x::l,h=>by
  cases x with
  | acc q es'=>
   simp only[zhE] at h
   split at h
   ·rename_i hc;obtain⟨rfl,hl⟩:=hc
    cases h;exact⟨.head _,hl⟩
   ·exact⟨.tail _ (ziA h).1,(ziA h).2⟩
  | _=>simp only[zhE] at h;exact⟨.tail _ (ziA h).1,(ziA h).2⟩
theorem znD{o m:Nat}{es:List D}:∀ {l:List AV},zhF o m l=some es->∃e∈l,∃j:Nat,e.cells[j]? = some (AV.acc o es)/\es.length=m
 | [],h=>by cases h
 | x::l,h=>by
  cases x with
  | agg cs=>
   simp only[zhF] at h
   rcases zl9 h with h|h
   ·obtain⟨h1,h2⟩:=ziA h;obtain⟨j,hj⟩:=zZD h1;exact⟨_,.head _,j,hj,h2⟩
   ·obtain⟨e,h1,h2⟩:=znD h;exact⟨e,.tail _ h1,h2⟩
  | acc p es'=>
   simp only[zhF] at h
   rcases zl9 h with h|h
   ·obtain⟨h1,h2⟩:=ziA h;simp only[zZt] at h1;exact⟨_,.head _,0,by rw[<- h1];rfl,h2⟩
   ·obtain⟨e,h1,h2⟩:=znD h;exact⟨e,.tail _ h1,h2⟩
  | _=>
   simp only[zhF] at h
   rcases zl9 h with h|h
   ·obtain⟨h1,h2⟩:=ziA h;simp at h1
   ·obtain⟨e,h1,h2⟩:=znD h;exact⟨e,.tail _ h1,h2⟩
theorem zlq{o m:Nat}{es:List D}:∀ {H:zf},zfW o m H=some es->∃q fs,(q,Obj.row fs)∈H/\∃e∈fs,∃j:Nat,e.cells[j]? = some (AV.acc o es)/\es.length=m
 | [],h=>by cases h
 | (q,.row fs)::l,h=>by
  simp only[zfW] at h
  rcases zl9 h with h|h
  ·exact⟨q,fs,.head _,znD h⟩
  ·obtain⟨q,fs,h1,h2⟩:=zlq h;exact⟨q,fs,.tail _ h1,h2⟩
 | (q,.acc n)::l,h=>by
  simp only[zfW] at h;obtain⟨q,fs,h1,h2⟩:=zlq h;exact⟨q,fs,.tail _ h1,h2⟩
 | (q,.frz n)::l,h=>by
  simp only[zfW] at h;obtain⟨q,fs,h1,h2⟩:=zlq h;exact⟨q,fs,.tail _ h1,h2⟩
 | (q,.mp n)::l,h=>by
  simp only[zfW] at h;obtain⟨q,fs,h1,h2⟩:=zlq h;exact⟨q,fs,.tail _ h1,h2⟩
theorem zXZ{o:Nat}{S S':St}{a:Act}{w:World}{ι:Inj}{R:Nat->Prop}(hs:zpv o S=some S')(h:Rel C S a w ι R):Rel C S' a w ι R:=by
 unfold zpv at hs;generalize hlk:look o S.heap=q at hs;unfold ztH at hs
 split at hs
 ·rename_i m
  split at hs
  ·rename_i hm0;subst hm0;unfold zsH at hs
   split at hs
   ·cases hs;exact h.nils hlk
   ·cases hs;exact h.nilsH hlk
  rename_i hm0;generalize hes:znC o m S.env S.heap=qe at hs;unfold ztI at hs
  split at hs
  ·rename_i es;rw[zYQ hm0] at hs;have hmk:mark S.heap o=some m:=by simp [mark,hlk]
   have hvl:es.length=m/\∃u,VA w R ι (mark S.heap) (.acc o es) u:=by
    unfold znC at hes
    rcases zl9 hes with hes|hes
    ·obtain⟨t,ht,hl⟩:=zJR hes;obtain⟨u,_,hv⟩:=h.env t _ ht;exact⟨hl,u,hv⟩
    ·obtain⟨q,fs,hq,e,he,j,hj,hl⟩:=zlq hes;obtain⟨i,hi⟩:=zZD he
     cases h.heap _ _ hq with
     | row _ _ _ _ _ _ hel=>
      obtain⟨_,qv,_,hv⟩:=hel i e hi j _ hj;exact⟨hl,qv,hv⟩
   obtain⟨hl,u,hv⟩:=hvl;have hob:=h.heap _ _ (zar hlk);have key:∀mk':Nat->Option Nat,mk' o=none->((∀p,p≠o->mk' p=mark S.heap p)->OB w R ι mk' o (.row (es.map .d)))/\∀(es':List D) (u:Value),es'.length=m->VA w R ι (mark S.heap) (.acc o es') u->VA w R ι mk' (.osl o 0 m) u:=by
    intro mk' hmk';refine⟨fun _=> ?_,fun es' u hlen hx=> ?_⟩
    ·cases hv with
     | accR _ _ _ _ _ _ hlt=>have:=hlt m hmk;omega
     | acc0=>simp at hl;exact absurd hl.symm hm0
     | @accC _ b s m' cap _ c T hι hmk2 _ hL hcap hsz hb hc hel=>
      cases hob with
      | accN hι'=>rw[hι] at hι';cases hι'
      | acc _ hι' hR hb' hs0 _=>
       rw[hι] at hι';cases hι';refine .row hι hR hb hs0 (fun e he=> ?_) ?_ fun i e hi j x hj=> ?_
       ·obtain⟨d,hd,rfl⟩:=zY0.1 he;exact hsz d hd
       ·rw[zY3];exact zZG (zZy _ hcap) hc
       ·rw[zZa] at hi;obtain⟨d,hd,rfl⟩:=zYT.1 hi;simp only[AV.cells,zZa] at hj;obtain⟨cd,hcd,rfl⟩:=zYT.1 hj;obtain⟨k1,q,k2,k3⟩:=(hel i d hd).v_of_cells j cd hcd;exact⟨k1,q,by rw[zcr hb] at k2;exact k2,.d k3⟩
    ·cases hx with
     | accR _ _ _ _ _ _ hlt=>have:=hlt m hmk;omega
     | acc0=>simp at hlen;exact absurd hlen.symm hm0
     | @accC _ b s m' cap _ c T hι hmk2 _ hL hcap hsz hb hc hel=>
      have:=VA.osl (w:=w) (R:=R) (mk:=mk') (off:=0) (len:=es'.length) (cap:=cap) hι hmk' hb hcap (by simpa using hc) hL;simp only[z1u] at this;rw[hlen] at this ⊢;exact this
   unfold ztJ at hs
   by_cases hh:zam o S.heap=false
   ·rw[zYQ hh] at hs
    cases hs
    have hmk':mark (zN o (.row (es.map .d)) S.heap) o=none:=by rw[zdT]
    have hk:=key _ hmk';refine h.recast (g:=zgC o m) hh (hk.1 fun p hp=>zdU hp) fun x u hx=>⟨fun hr=> ?_,fun hr=> ?_⟩
    ·unfold zgC
     split
     ·rename_i p es';have hp:p=o:=by simpa [AV.refs] using hr
      rw[zYQ hp];subst hp
      split
      ·rename_i hlen;exact hk.2 _ _ hlen hx
      ·exact .undef
     ·rw[zYQ hr];exact .undef
    ·unfold zgC
     split
     ·rename_i p es';have hp:¬p=o:=by simpa [AV.refs] using hr
      rw[zYP hp]
     ·rw[zYP (by simp [hr])]
   ·rw[zYP hh] at hs
    split at hs
    rotate_left
    ·cases hs
    rename_i hokh
    cases hs
    have hmn:∀p,p≠o->mark (zN o (.row (es.map .d)) (zcw o m S.heap)) p=mark S.heap p:=fun p hp=>by rw[zdU hp,zl0]
    have hmk':mark (zN o (.row (es.map .d)) (zcw o m S.heap)) o=none:=by rw[zdT]
    have hk:=key _ hmk';have hst:∀p,p≠o->Step w w ι ι (mark S.heap) (mark (zN o (.row (es.map .d)) (zcw o m S.heap))) p:=fun p hp=>Step.other rfl (hmn p hp) fun _ _ _=>rfl;have hkeep:∀(x:AV) (u:Value),x.refs o=false->VA w R ι (mark S.heap) x u->VA w R ι (mark (zN o (.row (es.map .d)) (zcw o m S.heap))) x u:=fun x u hr hx=>
     hx.mono (fun _ h=>h) (fun _ _=>rfl) fun p hp=>hst p fun e=>by subst e;rw[hr] at hp;cases hp
    refine { h with env:=fun t x hx=> ?_,heap:=fun q ob' hq=> ?_ }
    ·obtain⟨⟨t',y⟩,hm,he⟩:=zY0.1 hx
     cases he
     obtain⟨u,h1,h2⟩:=h.env t' y hm;refine⟨u,h1,?_⟩;show VA w R ι _ (zgC o m y) u
     cases hr:y.refs o with
     | true=>
      unfold zgC
      split
      ·rename_i p es';have hp:p=o:=by simpa [AV.refs] using hr
       rw[zYQ hp];subst hp
       split
       ·rename_i hlen;exact hk.2 _ _ hlen h2
       ·exact .undef
      ·rw[zYQ hr];exact .undef
     | false=>
      have:zgC o m y=y:=by
       unfold zgC
       split
       ·rename_i p es';have hp:¬p=o:=by simpa [AV.refs] using hr
        rw[zYP hp]
       ·rw[zYP (by simp [hr])]
      rw[this];exact hkeep _ _ hr h2
    ·rcases zgF hq with hq2|⟨hq2,hne⟩
     ·cases hq2;exact hk.1 hmn
     ·obtain⟨ob0,hm0',hob',hrow⟩:=zmy hokh hq2;subst hob';have hob0:=h.heap q ob0 hm0'
      cases ob0 with
      | acc n=>exact hob0.mono (fun _ h=>h) (fun _ _=>rfl) (fun _ _ hb=>⟨hb,rfl,fun h=>h⟩) (fun h=>h) fun p hp=>by simp [Obj.refs] at hp
      | frz n=>exact hob0.mono (fun _ h=>h) (fun _ _=>rfl) (fun _ _ hb=>⟨hb,rfl,fun h=>h⟩) (fun h=>h) fun p hp=>by simp [Obj.refs] at hp
      | mp n=>exact hob0.mono (fun _ h=>h) (fun _ _=>rfl) (fun _ _ hb=>⟨hb,rfl,fun h=>h⟩) (fun h=>h) fun p hp=>by simp [Obj.refs] at hp
      | row fs=>
       have hoke:=hrow fs rfl;simp only[zDG]
       cases hob0 with
       | row hι hR hb hs0 hsz hc hel=>
        refine .row hι hR hb hs0 (fun e he=> ?_) (by rw[zpd,zY3];exact hc) fun i e hi j x hj=> ?_
        ·rw[zpd] at he;obtain⟨e0,he0,rfl⟩:=zY0.1 he;rw[zUM];exact hsz e0 he0
        ·rw[zpd,zZa] at hi;obtain⟨e0,he0,rfl⟩:=zYT.1 hi;obtain⟨x0,hx0,hkc,rfl⟩:=zUL (zCP hoke (zZf he0)) hj;obtain⟨k1,qv,k2,k3⟩:=hel i e0 he0 j x0 hx0;refine⟨zUJ k1,qv,k2,?_⟩
         by_cases hacc:∃es',x0= .acc o es'
         ·obtain⟨es',rfl⟩:=hacc;simp only[okC,if_true,beq_iff_eq] at hkc;simp only[zcT,if_true];exact hk.2 _ _ hkc k3
         ·have hr:x0.refs o=false/\zcT o m x0=x0:=by
             cases x0 with
             | acc p es'=>
              have hp:¬p=o:=fun e=>hacc ⟨es',by rw[e]⟩;exact⟨by simpa [AV.refs] using hp,by simp only[zcT,zYP hp]⟩
             | _=>exact⟨by simpa [okC] using hkc,rfl⟩
          rw[hr.2];exact hkeep _ _ hr.1 k3
  ·cases hs
 ·cases hs;exact h
 ·cases hs;exact h
 ·cases hs;exact h
 ·cases hs;exact h
theorem zFb{o:Nat}{ds:List D}{x:AV}:(acA o ds x).size=x.size:=by
 unfold acA
 split
 ·split<;>rfl
 ·rfl
theorem zFa{o:Nat}{ds:List D}{x:AV}(h:x.cell=true):(acA o ds x).cell=true:=by
 unfold acA
 split
 ·split<;>rfl
 ·exact h
theorem zpJ{o:Nat}{ds:List D}:∀ {l:List AV},zkX o ds l=l.map (acA o ds)
 | []=>rfl
 | x::l=>by simp only[zkX,zYU,zpJ]
theorem zmW{o:Nat}{ds:List D}:∀ {l:List AV},zjl o ds l=l.map (zhp o ds)
 | []=>rfl
 | x::l=>by simp only[zjl,zYU,zmW]
theorem zCN{o m:Nat}{x:AV}:∀ {l:List AV},zl6 o m l=true->x∈l->okA o m x=true
 | [],_,h=>by cases h
 | y::l,hk,h=>by
  simp only[zl6,zY6] at hk
  cases h with
  | head=>exact hk.1
  | tail _ h=>exact zCN hk.2 h
theorem zCM{o m:Nat}{x:AV}:∀ {l:List AV},zkl o m l=true->x∈l->zoR o m x=true
 | [],_,h=>by cases h
 | y::l,hk,h=>by
  simp only[zkl,zY6] at hk
  cases h with
  | head=>exact hk.1
  | tail _ h=>exact zCM hk.2 h
theorem zFd{o:Nat}{ds:List D}{x:AV}:(zhp o ds x).size=x.size:=by
 unfold zhp
 split
 ·simp only[AV.size,zpJ,zY3]
 ·exact zFb
theorem zFc{o m:Nat}{ds:List D}{e x':AV}{j:Nat}(hk:zoR o m e=true)(h:(zhp o ds e).cells[j]? = some x'):∃x,e.cells[j]? = some x/\okA o m x=true/\x'=acA o ds x:=by
 have one:∀e:AV,e.cells=[e]->okA o m e=true->(acA o ds e).cells=[acA o ds e]->(acA o ds e).cells[j]? = some x'->∃x,e.cells[j]? = some x/\okA o m x=true/\x'=acA o ds x:=by
  intro e h1 h2 h3 h4;rw[h3] at h4
  match j,h4 with
  | 0,h4=>simp at h4;subst h4;exact⟨e,by rw[h1];rfl,h2,rfl⟩
  | n+1,h4=>simp at h4
 cases e with
 | agg cs=>
  simp only[zhp,AV.cells,zpJ,zZa] at h;obtain⟨x,h1,h2⟩:=zYT.1 h;exact⟨x,h1,zCN hk (zZf h1),h2.symm⟩
 | d y=>
  simp only[zhp,acA,AV.cells,zZa] at h;obtain⟨c,h1,h2⟩:=zYT.1 h;subst h2;exact⟨.d c,by simp [AV.cells,h1],rfl,rfl⟩
 | osl p i f=>exact one _ rfl hk (by unfold acA;simp only;split<;>rfl) h
 | ref p i f=>exact one _ rfl hk rfl h
 | acc p i=>exact one _ rfl hk rfl h
 | pe p i=>exact one _ rfl hk rfl h
 | xsl p=>exact one _ rfl hk rfl h
 | tup p=>exact one _ rfl hk rfl h
 | fn p i=>exact one _ rfl hk rfl h
 | nl p=>exact one _ rfl hk rfl h
 | mpr p=>exact one _ rfl hk rfl h
 | undef=>exact one _ rfl hk rfl h
def zt1(o:Nat)(ds:List D):Obj->Obj
 | .row es=> .row (zjl o ds es)
 | x=>x
theorem zkW{o m:Nat}{ds:List D}{q:Nat}{ob:Obj}:∀ {H:zf},zf3 o m H=true->(q,ob)∈zcp o ds H->∃ob0,(q,ob0)∈H/\ob=zt1 o ds ob0/\(∀es,ob0= .row es->zkl o m es=true)
 | [],_,h=>by cases h
 | (q',.row es)::l,hk,h=>by
  simp only[zf3,zY6] at hk;simp only[zcp] at h
  cases h with
  | head=>exact⟨_,.head _,rfl,fun es' e=>by cases e;exact hk.1⟩
  | tail _ h=>obtain⟨ob0,h1,h2,h3⟩:=zkW hk.2 h;exact⟨ob0,.tail _ h1,h2,h3⟩
 | (q',.acc n)::l,hk,h=>by
  simp only[zf3] at hk;simp only[zcp] at h
  cases h with
  | head=>exact⟨_,.head _,rfl,fun es' e=>by cases e⟩
  | tail _ h=>obtain⟨ob0,h1,h2,h3⟩:=zkW hk h;exact⟨ob0,.tail _ h1,h2,h3⟩
 | (q',.frz n)::l,hk,h=>by
  simp only[zf3] at hk;simp only[zcp] at h
  cases h with
  | head=>exact⟨_,.head _,rfl,fun es' e=>by cases e⟩
  | tail _ h=>obtain⟨ob0,h1,h2,h3⟩:=zkW hk h;exact⟨ob0,.tail _ h1,h2,h3⟩
 | (q',.mp n)::l,hk,h=>by
  simp only[zf3] at hk;simp only[zcp] at h
  cases h with
  | head=>exact⟨_,.head _,rfl,fun es' e=>by cases e⟩
  | tail _ h=>obtain⟨ob0,h1,h2,h3⟩:=zkW hk h;exact⟨ob0,.tail _ h1,h2,h3⟩
theorem zlZ{o q:Nat}{ds:List D}:∀ {H:zf},mark (zcp o ds H) q=mark H q
 | []=>rfl
 | (q',.row es)::l=>by
  have ih:=zlZ (o:=o) (ds:=ds) (q:=q) (H:=l);unfold mark at ih ⊢;simp only[zcp,Go.Sim.look]
  by_cases h:q'=q
  ·rw[zYQ h,zYQ h]
  ·rw[zYP h,zYP h];exact ih
 | (q',.acc n)::l=>by
  have ih:=zlZ (o:=o) (ds:=ds) (q:=q) (H:=l);unfold mark at ih ⊢;simp only[zcp,Go.Sim.look]
  by_cases h:q'=q
  ·rw[zYQ h,zYQ h]
  ·rw[zYP h,zYP h];exact ih
 | (q',.frz n)::l=>by
  have ih:=zlZ (o:=o) (ds:=ds) (q:=q) (H:=l);unfold mark at ih ⊢;simp only[zcp,Go.Sim.look]
  by_cases h:q'=q
  ·rw[zYQ h,zYQ h]
  ·rw[zYP h,zYP h];exact ih
 | (q',.mp n)::l=>by
  have ih:=zlZ (o:=o) (ds:=ds) (q:=q) (H:=l);unfold mark at ih ⊢;simp only[zcp,Go.Sim.look]
  by_cases h:q'=q
  ·rw[zYQ h,zYQ h]
  ·rw[zYP h,zYP h];exact ih
theorem zXT{o:Nat}{S S':St}{a:Act}{w:World}{ι:Inj}{R:Nat->Prop}(hs:zps o S=some S')(h:Rel C S a w ι R):Rel C S' a w ι R:=by
 unfold zps at hs;generalize hlk:look o S.heap=q at hs;unfold ztA at hs
 split at hs
 ·rename_i es;generalize hds:zbq es=qe at hs;unfold ztB at hs
  split at hs
  ·rename_i ds
   split at hs
   ·cases hs;exact h.nilsO
   rename_i hne0
   split at hs
   rotate_left
   ·rename_i hc0;unfold ztC at hs
    split at hs
    rotate_left
    ·cases hs
    rename_i hokh
    cases hs
    have hesd:=zhq hds;have hmn:∀p,p≠o->mark (zN o (.acc ds.length) (zcp o ds S.heap)) p=mark S.heap p:=fun p hp=>by rw[zdU hp,zlZ]
    have hmk':mark (zN o (.acc ds.length) (zcp o ds S.heap)) o=some ds.length:=by rw[zdT]
    have hdn:ds≠[]:=by rintro rfl;exact hne0 hesd
    have hst:∀p,p≠o->Step w w ι ι (mark S.heap) (mark (zN o (.acc ds.length) (zcp o ds S.heap))) p:=fun p hp=>Step.other rfl (hmn p hp) fun _ _ _=>rfl;have hkeep:∀(x:AV) (u:Value),x.refs o=false->VA w R ι (mark S.heap) x u->VA w R ι (mark (zN o (.acc ds.length) (zcp o ds S.heap))) x u:=fun x u hr hx=>
     hx.mono (fun _ h=>h) (fun _ _=>rfl) fun p hp=>hst p fun e=>by subst e;rw[hr] at hp;cases hp
    cases h.heap _ _ (zar hlk) with
    | @row _ b s c T hι hR hb hs0 hsz hc hel=>
     have hrd:∀(i:Nat) (d:D),ds[i]? = some d->Rd w R (.el d b (i * s)):=fun i d hi=>by
      have hei:es[i]? = some (.d d):=by rw[hesd];simp [hi]
      refine Rd.el_of_cells (fun vs hvs=> ?_) fun j cd hj=> ?_
      ·subst hvs;have:=(hel i _ hei 0 (.d (.tup vs)) rfl).1;simp [AV.cell,D.cell] at this
      ·obtain⟨k1,q,k2,k3⟩:=hel i _ hei j (.d cd) (by simp [AV.cells,hj]);exact⟨k1,q,by rw[zcr hb];exact k2,k3.of_d⟩
     have hsz':∀d∈ds,d.size=s:=fun d hd=>hsz (.d d) (by rw[hesd];exact z0T hd);have key:∀u,VA w R ι (mark S.heap) (.osl o 0 ds.length) u->VA w R ι (mark (zN o (.acc ds.length) (zcp o ds S.heap))) (.acc o ds) u:=fun u hx=>by
      generalize hlen:ds.length=n at hx hmk'
      cases hx with
      | osl0=>exact absurd (zZC.1 hlen) hdn
      | @osl _ _ _ cap b' s' c' T' hι' hmk2 hb' hcap hc' hL=>
       rw[hι] at hι';cases hι';rw[hb] at hb';cases hb';subst hlen;rw[z1u];exact .accC hι hmk' (zZk _) hL hcap hsz' hb (by simpa using hc') hrd
     refine { h with env:=fun t x hx=> ?_,heap:=fun q ob' hq=> ?_ }
     ·obtain⟨⟨t',y⟩,hm,he⟩:=zY0.1 hx
      cases he
      obtain⟨u,h1,h2⟩:=h.env t' y hm;refine⟨u,h1,?_⟩;show VA w R ι _ (zgf o ds y) u
      cases hr:y.refs o with
      | true=>
       unfold zgf
       split
       ·rename_i p off len;have hp:p=o:=by simpa [AV.refs] using hr
        rw[zYQ hp];subst hp
        split
        ·rename_i hcc;obtain⟨rfl,rfl⟩:=hcc;exact key _ h2
        ·exact .undef
       ·rw[zYQ hr];exact .undef
      | false=>
       have:zgf o ds y=y:=by
        unfold zgf
        split
        ·rename_i p off len;have hp:¬p=o:=by simpa [AV.refs] using hr
         rw[zYP hp]
        ·rw[zYP (by simp [hr])]
       rw[this];exact hkeep _ _ hr h2
     ·rcases zgF hq with hq2|⟨hq2,hne⟩
      ·cases hq2
       refine .acc (z0o.2 hdn) hι hR hb hs0 ?_;rw[hesd] at hc;simpa using hc
      ·obtain⟨ob0,hm0',hob',hrow⟩:=zkW hokh hq2;subst hob';have hob0:=h.heap q ob0 hm0'
       cases ob0 with
       | acc n=>exact hob0.mono (fun _ h=>h) (fun _ _=>rfl) (fun _ _ hb=>⟨hb,rfl,fun h=>h⟩) (fun h=>h) fun p hp=>by simp [Obj.refs] at hp
       | frz n=>exact hob0.mono (fun _ h=>h) (fun _ _=>rfl) (fun _ _ hb=>⟨hb,rfl,fun h=>h⟩) (fun h=>h) fun p hp=>by simp [Obj.refs] at hp
       | mp n=>exact hob0.mono (fun _ h=>h) (fun _ _=>rfl) (fun _ _ hb=>⟨hb,rfl,fun h=>h⟩) (fun h=>h) fun p hp=>by simp [Obj.refs] at hp
       | row fs=>
        have hoke:=hrow fs rfl;simp only[zt1]
        cases hob0 with
        | row hι hR hb hs0 hsz hc hel=>
         refine .row hι hR hb hs0 (fun e he=> ?_) (by rw[zmW,zY3];exact hc) fun i e hi j x hj=> ?_
         ·rw[zmW] at he;obtain⟨e0,he0,rfl⟩:=zY0.1 he;rw[zFd];exact hsz e0 he0
         ·rw[zmW,zZa] at hi;obtain⟨e0,he0,rfl⟩:=zYT.1 hi;obtain⟨x0,hx0,hkc,rfl⟩:=zFc (zCM hoke (zZf he0)) hj;obtain⟨k1,qv,k2,k3⟩:=hel i e0 he0 j x0 hx0;refine⟨zFa k1,qv,k2,?_⟩
          by_cases hacc:∃i n,x0= .osl o i n
          ·obtain⟨i',n',rfl⟩:=hacc;simp only[okA,if_true,zY6,beq_iff_eq] at hkc;obtain⟨rfl,rfl⟩:=hkc;simp only[acA,if_true];exact key _ k3
          ·have hr:x0.refs o=false/\acA o ds x0=x0:=by
              cases x0 with
              | osl p i' n'=>
               have hp:¬p=o:=fun e=>hacc ⟨i',n',by rw[e]⟩;exact⟨by simpa [AV.refs] using hp,by simp only[acA,zYP hp]⟩
              | _=>exact⟨by simpa [okA] using hkc,rfl⟩
           rw[hr.2];exact hkeep _ _ hr.1 k3
   rename_i hc;obtain⟨hne,hh⟩:=hc
   cases hs
   have hesd:=zhq hds;have hmk':mark (zN o (.acc ds.length) S.heap) o=some ds.length:=by rw[zdT]
   have hdn:ds≠[]:=by rintro rfl;exact hne hesd
   cases h.heap _ _ (zar hlk) with
   | @row _ b s c T hι hR hb hs0 hsz hc hel=>
    have hrd:∀(i:Nat) (d:D),ds[i]? = some d->Rd w R (.el d b (i * s)):=fun i d hi=>by
     have hei:es[i]? = some (.d d):=by rw[hesd];simp [hi]
     refine Rd.el_of_cells (fun vs hvs=> ?_) fun j cd hj=> ?_
     ·subst hvs;have:=(hel i _ hei 0 (.d (.tup vs)) rfl).1;simp [AV.cell,D.cell] at this
     ·obtain⟨k1,q,k2,k3⟩:=hel i _ hei j (.d cd) (by simp [AV.cells,hj]);exact⟨k1,q,by rw[zcr hb];exact k2,k3.of_d⟩
    have hsz':∀d∈ds,d.size=s:=fun d hd=>hsz (.d d) (by rw[hesd];exact z0T hd);refine h.recast (g:=zgf o ds) hh ?_ fun x u hx=>⟨fun hr=> ?_,fun hr=> ?_⟩
    ·refine .acc (z0o.2 hdn) hι hR hb hs0 ?_;rw[hesd] at hc;simpa using hc
    ·unfold zgf
     split
     ·rename_i p off len;have hp:p=o:=by simpa [AV.refs] using hr
      rw[zYQ hp];subst hp
      split
      ·rename_i hcc;obtain⟨rfl,rfl⟩:=hcc;generalize hlen:ds.length=n at hx hmk'
       cases hx with
       | osl0=>exact absurd (zZC.1 hlen) hdn
       | @osl _ _ _ cap b' s' c' T' hι' hmk2 hb' hcap hc' hL=>
        rw[hι] at hι';cases hι';rw[hb] at hb';cases hb';subst hlen;rw[z1u];exact .accC hι hmk' (zZk _) hL hcap hsz' hb (by simpa using hc') hrd
      ·exact .undef
     ·rw[zYQ hr];exact .undef
    ·unfold zgf
     split
     ·rename_i p off len;have hp:¬p=o:=by simpa [AV.refs] using hr
      rw[zYP hp]
     ·rw[zYP (by simp [hr])]
  ·cases hs
 ·cases hs;exact h
 ·cases hs;exact h
 ·cases hs;exact h
 ·cases hs;exact h
theorem zUG{o o' a b:Nat}(ha:a≠o')(hb:b≠o')(h:rnm o o' a=rnm o o' b):a=b:=by
 unfold rnm at h
 split at h<;>split at h
 ·rename_i h1 h2;rw[h1,h2]
 ·exact absurd h.symm hb
 ·exact absurd h ha
 ·exact h
theorem zXY{o o':Nat}{S S':St}{a:Act}{w:World}{ι:Inj}{R:Nat->Prop}(hs:zpu o o' S=some S')(h:Rel C S a w ι R):∃ι',Rel C S' a w ι' R:=by
 unfold zpu at hs;generalize hlk:look o S.heap=q at hs
 cases q with
 | none=>cases hs;exact⟨ι,h⟩
 | some ob=>
  simp only[ztG] at hs
  split at hs
  ·rename_i hc;obtain⟨hn,he,hh⟩:=hc
   cases hs
   have hn':look o' S.heap=none:=by simpa using hn
   have hmk:∀n,n≠o'->mark (zdb (rnm o o') S.heap) (rnm o o' n)=mark S.heap n:=by
    intro n hno;unfold mark;rw[zCh fun m hm e=>zUG (fun e2=>by rw[e2,hn'] at hm;cases hm) hno e]
    cases look n S.heap with
    | none=>rfl
    | some ob=>cases ob<;>rfl
   have hι:∀n,n≠o'->(fun q=>if q=o' then ι o else if q=o then none else ι q) (rnm o o' n)=ι n:=by
    intro n hno;unfold rnm
    by_cases e:n=o
    ·subst e;simp
    ·simp [e,hno]
   refine⟨fun q=>if q=o' then ι o else if q=o then none else ι q,{ h with own:= ?_,inj:= ?_,env:= ?_,heap:= ?_ }⟩
   ·intro q b s hq
    split at hq
    ·exact h.own o b s hq
    ·split at hq
     ·cases hq
     ·exact h.own q b s hq
   ·intro q q' b s s' hq hq'
    split at hq<;>split at hq'
    ·rename_i e1 e2;rw[e1,e2]
    ·split at hq'
     ·cases hq'
     ·rename_i e1 e2 e3;exact absurd (h.inj o q' b s s' hq hq') (Ne.symm e3)
    ·split at hq
     ·cases hq
     ·rename_i e1 e2 e3;exact absurd (h.inj q o b s s' hq hq') e3
    ·split at hq
     ·cases hq
     ·split at hq'
      ·cases hq'
      ·exact h.inj q q' b s s' hq hq'
   ·intro t x hx;have:∃y,(t,y)∈S.env/\x=y.ren (rnm o o'):=by
     have key:∀(E:Env),(t,x)∈zmq (rnm o o') E->∃y,(t,y)∈E/\x=y.ren (rnm o o'):=by
      intro E
      induction E with
      | nil=>intro h;cases h
      | cons p l ih=>
       obtain⟨t',y⟩:=p;intro h;simp only[zmq] at h
       cases h with
       | head=>exact⟨y,.head _,rfl⟩
       | tail _ h=>obtain⟨z,h1,h2⟩:=ih h;exact⟨z,.tail _ h1,h2⟩
     exact key _ hx
    obtain⟨y,hy,rfl⟩:=this;obtain⟨u,h1,h2⟩:=h.env t y hy;refine⟨u,h1,h2.ren fun n hn2=> ?_⟩;have hno:n≠o':=fun e=>by subst e;rw[zmp hy he] at hn2;cases hn2
    exact⟨fun p hp=>(hι n hno).trans hp,hmk n hno⟩
   ·intro n ob' hm;obtain⟨⟨m,ob2⟩,hm2,he2⟩:=zY0.1 hm
    cases he2
    have hno:m≠o':=fun e=>by
     subst e;have hs2:(look m S.heap).isSome=true:=by
      have key:∀(l:zf),(m,ob2)∈l->(look m l).isSome=true:=by
       intro l
       induction l with
       | nil=>intro h;cases h
       | cons p l ih=>
        obtain⟨k,y⟩:=p;intro h;simp only[look]
        split
        ·rfl
        ·rename_i hne
         cases h with
         | head=>exact absurd rfl hne
         | tail _ h=>exact ih h
      exact key _ hm2
     rw[hn'] at hs2;cases hs2
    refine (h.heap m ob2 hm2).ren (hι m hno) fun n hn2=> ?_;have hno2:n≠o':=fun e=>by subst e;rw[zhc hm2 hh] at hn2;cases hn2
    exact⟨fun p hp=>(hι n hno2).trans hp,hmk n hno2⟩
  ·cases hs
theorem zHm{o:Nat}{H:zf}{E:Env}:zhA o H E=E.map fun p=>(p.1,zlm o H p.2):=by
 induction E with
 | nil=>rfl
 | cons p l ih=>obtain⟨t,x⟩:=p;simp only[zhA,ih];rfl
theorem zHk{o:Nat}{x:AV}(h:x.cell=true):(zit o x).cell=true:=by
 unfold zit
 split
 ·split<;>rfl
 ·exact h
theorem zqE{o:Nat}:∀ {l:List AV},zlk o l=l.map (zit o)
 | []=>rfl
 | x::l=>by simp only[zlk,zYU,zqE]
theorem zyJ{o:Nat}:∀ {l:List AV},zjC o l=l.map (zjB o)
 | []=>rfl
 | x::l=>by simp only[zjC,zYU,zyJ]
theorem zyK{o q:Nat}{ob:Obj}:∀ {H:zf},(q,ob)∈zfO o H->∃ob0,(q,ob0)∈H/\ob=zno o ob0
 | [],h=>by cases h
 | (q',ob')::l,h=>by
  simp only[zfO] at h
  cases h with
  | head=>exact⟨_,.head _,rfl⟩
  | tail _ h=>obtain⟨ob0,h1,h2⟩:=zyK h;exact⟨ob0,.tail _ h1,h2⟩
theorem zCe{o q:Nat}:∀ {H:zf},look q (zfO o H)=(look q H).map (zno o)
 | []=>rfl
 | (q',ob')::l=>by
  simp only[zfO,look]
  split
  ·rfl
  ·exact zCe
theorem zCo{o:Nat}{H:zf}:mark (zfO o H)=mark H:=funext fun p=>by
 unfold mark;rw[zCe]
 rcases look p H with _|(es|m|m|m)<;>rfl
theorem zEj{S:St}{a:Act}{w:World}{ι:Inj}{R:Nat->Prop}{o:Nat}{ob:Obj}(hlk:look o S.heap=some ob)(h:Rel C S a w ι R):Rel C ⟨zhA o S.heap S.env,zag (zbm S.heap [o]) S.heap⟩ a w ι (zeL R ι [o]):=by
 have hf:=h.freeze (os:=[o]) (by simp [zgq,hlk]);refine { hf with env:=fun t x hx=> ?_ };rw[zHm] at hx;obtain⟨⟨t',y⟩,hm,he⟩:=zY0.1 hx
 cases he
 obtain⟨u,h1,h2⟩:=h.env t' y hm;obtain⟨u',h1',h2'⟩:=hf.env t' y hm;rw[h1] at h1'
 cases h1'
 refine⟨u,h1,?_⟩;show VA w _ ι _ (zlm o S.heap y) u;unfold zlm
 split
 ·rename_i p es
  split
  ·rename_i hp;exact .d (zkT h h2 rfl fun q hq=>by simpa [AV.objs,hp] using hq)
  ·exact h2'
 ·rename_i p off len
  split
  ·rename_i hp;unfold zll
   split
   ·rename_i d hd;exact .d (zkT h h2 hd fun q hq=>by simpa [AV.objs,hp] using hq)
   ·exact h2'
  ·exact h2'
 ·rename_i p i k
  split
  ·rename_i hp;unfold zll
   split
   ·rename_i d hd;exact .d (zkT h h2 hd fun q hq=>by simpa [AV.objs,hp] using hq)
   ·exact h2'
  ·exact h2'
 ·exact h2'
theorem zHl{S:St}{a:Act}{w:World}{ι:Inj}{R:Nat->Prop}(h:Rel C S a w ι R){o:Nat}{mk:Nat->Option Nat}{x:AV}{u:Value}(h1:VA w R ι (mark S.heap) x u)(h2:VA w (zeL R ι [o]) ι mk x u):VA w (zeL R ι [o]) ι mk (zit o x) u:=by
 unfold zit
 split
 ·split
  ·rename_i hp;exact .d (zkT h h1 rfl fun q hq=>by simpa [AV.objs,hp] using hq)
  ·exact h2
 ·exact h2
theorem zXV{S:St}{a:Act}{w:World}{ι:Inj}{R:Nat->Prop}{o:Nat}{ob:Obj}(hlk:look o S.heap=some ob)(h:Rel C S a w ι R):Rel C ⟨zhA o S.heap S.env,zfO o (zag (zbm S.heap [o]) S.heap)⟩ a w ι (zeL R ι [o]):=by
 have hd:=zEj hlk h;refine { hd with env:=fun t x hx=> ?_,heap:=fun q ob1 hq=> ?_ }
 ·show ∃u,zeC C a t=some u/\VA w _ ι (mark (zfO o (zag (zbm S.heap [o]) S.heap))) x u;rw[zCo];exact hd.env t x hx
 ·show OB w _ ι (mark (zfO o (zag (zbm S.heap [o]) S.heap))) q ob1;rw[zCo];obtain⟨ob0,h1,rfl⟩:=zyK hq;have hob:=hd.heap q ob0 h1
  cases ob0 with
  | acc n=>exact hob
  | frz n=>exact hob
  | mp n=>exact hob
  | row es=>
   have hold:OB w R ι (mark S.heap) q (.row es):=by
    rcases zsu h1 with h3|⟨h3,_⟩
    ·obtain⟨p,_,he⟩:=zY0.1 h3
     cases he
    ·exact h.heap q _ h3
   cases hob with
   | row hι' hR hb hs0 hsz hc hel=>
    cases hold with
    | row hι2 hR2 hb2 hs2 hsz2 hc2 hel2=>
     rw[hι'] at hι2
     cases hι2
     rw[hb] at hb2
     cases hb2
     show OB w _ ι _ q (.row (zjC o es));rw[zyJ];have hsize:∀e:AV,(zjB o e).size=e.size:=fun e=>by
      unfold zjB
      split
      ·simp only[AV.size,zqE,zY3]
      ·rfl
     refine .row hι' hR hb hs0 (fun e he=> ?_) (by rw[zY3];exact hc) fun i e hi j x hj=> ?_
     ·obtain⟨e0,he0,rfl⟩:=zY0.1 he;rw[hsize];exact hsz e0 he0
     ·rw[zZa] at hi;obtain⟨e0,he0,rfl⟩:=zYT.1 hi;unfold zjB at hj
      split at hj
      ·rename_i cs;simp only[AV.cells,zqE,zZa] at hj;obtain⟨x0,hx0,rfl⟩:=zYT.1 hj;obtain⟨k1,qv,k2,k3⟩:=hel i _ he0 j x0 hx0;obtain⟨_,qv2,k22,k32⟩:=hel2 i _ he0 j x0 hx0;rw[k2] at k22
       cases k22
       exact⟨zHk k1,qv,k2,zHl h k32 k3⟩
      ·exact hel i _ he0 j x hj
theorem zXW{S S':St}{a:Act}{w:World}{ι:Inj}{R:Nat->Prop}{o:Nat}(hs:zpt o S=some S')(h:Rel C S a w ι R):∃R',Rel C S' a w ι R':=by
 unfold zpt ztE at hs
 split at hs
 ·rename_i ob hlk;unfold zqF at hs
  split at hs
  ·cases hs
   exact⟨_,zEj hlk h⟩
  ·cases hs
   exact⟨_,zXV hlk h⟩
 ·cases hs;exact⟨R,h⟩
theorem zA6{S':St}{a:Act}{w:World}:∀ {gs:List Nat} {S:St} {ι:Inj} {R:Nat->Prop},zfh gs S=some S'->Rel C S a w ι R->∃ι' R',Rel C S' a w ι' R':=by
 intro gs
 induction gs with
 | nil=>intro S ι R hs h;cases hs;exact⟨ι,R,h⟩
 | cons g gs ih=>
  intro S ι R hs h;obtain⟨S1,h1,h2⟩:=zYR.1 hs;have:∃ι' R',Rel C S1 a w ι' R':=by
   unfold znQ at h1
   split at h1
   ·split at h1
    ·exact⟨ι,R,zXZ h1 h⟩
    ·exact⟨ι,R,zXT h1 h⟩
   ·split at h1
    ·obtain⟨ι',h'⟩:=zXY h1 h;exact⟨ι',R,h'⟩
    ·split at h1
     ·obtain⟨R',h'⟩:=zXW h1 h;exact⟨ι,R',h'⟩
     ·cases h1;exact⟨ι,R,h.norm1⟩
  obtain⟨ι',R',h'⟩:=this;exact ih h2 h'
end Go.Sim

namespace Go.Sim
open Go (World Value Addr TypeId Act)
variable {P:Program} {C:Ctx}
def fr4(dst:Nat):List Nat:=[dst,dst+10000,dst+20000,dst+30000]
def zck(H:zf)(dst:Nat)(ms:List Bool)(args:List AV):List Nat×List Nat:=
 (zbD H ms args++(zaA ms args++fr4 dst),zbD H ms args++fr4 dst)
theorem zRW{cs:List D}:AV.objsL (cs.map .d)=[]:=by
 induction cs with
 | nil=>rfl
 | cons x xs ih=>simp [AV.objsL,AV.objs,ih]
theorem zEh{H H2:zf}:∀ {x:AV},(∀o∈x.objs,look o H2=look o H)->toD H2 x=toD H x:=by
 intro x;refine AV.rec (motive_1:=fun x=>(∀o∈x.objs,look o H2=look o H)->toD H2 x=toD H x) (motive_2:=fun xs=>(∀o∈AV.objsL xs,look o H2=look o H)->toD.toDs H2 xs=toD.toDs H xs) ?_ ?_ ?_ ?_ ?_ ?_ ?_ ?_ ?_ ?_ ?_ ?_ ?_ ?_ x
 ·intro _ _;rfl
 ·intro o i off h
  cases off with
  | zero=>simp only[toD];rw[h o (by simp [AV.objs])]
  | succ n=>simp [toD]
 ·intro o off len h;simp only[toD];rw[h o (by simp [AV.objs])]
 ·intro _ _ _;rfl
 ·intro _ _ _;rfl
 ·intro _ _;rfl
 ·intro cs ih h;simp only[toD];rw[ih (by simpa [AV.objs] using h)]
 ·intro cs ih h;simp only[toD];rw[ih (by simpa [AV.objs] using h)]
 ·intro f cs ih h;simp only[toD];rw[ih (by simpa [AV.objs] using h)]
 ·intro _ _;rfl
 ·intro _ _;rfl
 ·intro _;rfl
 ·intro _;rfl
 ·intro y ys h1 h2 h;simp only[toD.toDs];rw[h1 fun o ho=>h o (by simp [AV.objsL,ho]),h2 fun o ho=>h o (by simp [AV.objsL,ho])]
theorem zyr{H H2:zf}:∀ {ms:List Bool} {xs:List AV},(∀o∈zaA ms xs,look o H2=look o H)->zbI H2 ms xs=zbI H ms xs:=by
 intro ms xs
 induction xs generalizing ms with
 | nil=>intro _;cases ms<;>rfl
 | cons x xs ih=>
  intro h
  match ms with
  | []=>
   simp only[zbI];rw[zEh fun o ho=>h o (by simp [zaA,ho]),ih fun o ho=>h o (by simp [zaA,ho])]
  | false::ms=>
   simp only[zbI];rw[zEh fun o ho=>h o (by simp [zaA,ho]),ih fun o ho=>h o (by simp [zaA,ho])]
  | true::ms=>
   simp only[zbI];rw[ih fun o ho=>h o (by simp [zaA,ho])]
theorem zDk{H H2:zf}{ns:List Nat}(h:∀o∈ns,look o H2=look o H):zfs H2 ns=zfs H ns:=by
 unfold zfs
 congr 1
 have:∀l:List Nat,(∀o∈l,look o H2=look o H)->l.flatMap (zkE H2)=l.flatMap (zkE H):=by
  intro l
  induction l with
  | nil=>intro _;rfl
  | cons o l ih=>
   intro hl;simp only[List.flatMap_cons];rw[ih fun q hq=>hl q (.tail _ hq)]
   congr 1
   simp only[zkE,hl o (.head _)]
 exact this ns h
theorem zsD{H H2:zf}{ms:List Bool}{args:List AV}(h:∀o∈zbD H ms args,look o H2=look o H):zbD H2 ms args=zbD H ms args:=by
 have h1:∀o∈zfs H (zc1 [] (zcl ms args)),look o H2=look o H:=fun o ho=>h o (zfJ _ _ ho);have h0:∀o∈zc1 [] (zcl ms args),look o H2=look o H:=fun o ho=>h1 o (zfJ _ _ ho);unfold zbD;rw[zDk h0,zDk h1]
theorem zyn{F:zaO}(hF:FOK P F){E:Env}{H:zf}{dst:Nat}{ms:List Bool}{f:FuncId}{args:List AV}{v:AV}{δ:zf}(h:zcz F E H dst ms f args=some (v,δ)){E2:Env}{H2:zf}(hh:∀o∈(zck H dst ms args).1,look o H2=look o H)(hf:∀n∈fr4 dst,zaV n E2=false/\zam n H2=false):
    zcz F E2 H2 dst ms f args=some (v,δ):=by
 unfold zcz at h ⊢;have hns:∀o∈zbD H ms args,look o H2=look o H:=fun o ho=>hh o (by simp [zck,ho]);have hds:∀o∈zaA ms args,look o H2=look o H:=fun o ho=>hh o (by simp [zck,ho]);rw[zsD hns,zyr hds];obtain⟨zYO,has,h⟩:=zYR.1 h;rw[has,zZn];have hnod:(zbD H ms args).Nodup:=zoN _ _ _;unfold zfM at h ⊢;have hok:zko H2 (zbD H ms args)=zko H (zbD H ms args):=by
  unfold zko;rw[zZB,zZi,zZi];constructor
  ·intro hx o ho;have:=hx o ho;rw[hns o ho] at this;exact this
  ·intro hx o ho;rw[hns o ho];exact hx o ho
 have hos:zb4 H2 (zbD H ms args)=zb4 H (zbD H ms args):=by
  unfold zb4;exact z0r fun o ho=>by rw[hns o ho]
 rw[hok,hos]
 split at h
 ·rename_i hc;rw[zYQ hc];obtain⟨⟨r,os'⟩,hf',h⟩:=zYR.1 h;rw[hf',zZn];simp only[zY6] at hc;obtain⟨_,_,hWF⟩:=hF f _ _ r os' hf' (fun⟨n,ob⟩ hm=>by
   obtain⟨o,ho,_,h2⟩:=zoI hm;have:=zZi.1 hc.1 o ho
   split at this
   ·rename_i es hes;exact⟨_,by rw[h2,hes];rfl⟩
   ·cases this) (fun i p hp=>(zoU hnod i p hp).1)
  unfold zeg at h ⊢
  split at h
  ·rename_i hc2;simp only[zY6] at hc2;have:zlu E2 H2 dst (zbD H ms args) os'=true:=by
    refine zZi.2 fun p hp=> ?_;have h1:=zZi.1 hc2.1 p hp;simp only[zZM,zY6,decide_eq_true_eq] at h1 ⊢
    rcases h1 with h1|h1
    ·exact .inl h1
    ·rcases hWF.names p.1 (znX (x:=p.2) hp) with h2|⟨h2,_⟩
     ·have hm:dst+10000 * p.1∈fr4 dst:=by
         have:p.1=0\/p.1=1\/p.1=2\/p.1=3:=by omega
         rcases this with h|h|h|h<;>simp [fr4,h]
      obtain⟨h3,h4⟩:=hf _ hm;exact .inr ⟨⟨by simp [h3],by simp [h4]⟩,h1.2⟩
     ·exact .inl h2
   rw[zYQ (by simp only[zY6];exact⟨this,hc2.2⟩)];exact h
  ·cases h
 ·cases h
theorem ztb{ρ:Nat->Nat}{x:AV}{o:Nat}(h:(x.ren ρ).refs o=true):∃q,x.refs q=true/\o=ρ q:=by
 have key:∀x:AV,(x.ren ρ).refs o=true->∃q,x.refs q=true/\o=ρ q:=by
  intro x;refine AV.rec (motive_1:=fun x=>(x.ren ρ).refs o=true->∃q,x.refs q=true/\o=ρ q) (motive_2:=fun xs=>AV.refsL o (AV.renL ρ xs)=true->∃q,AV.refsL q xs=true/\o=ρ q) ?_ ?_ ?_ ?_ ?_ ?_ ?_ ?_ ?_ ?_ ?_ ?_ ?_ ?_ x
  ·intro _ h;simp [AV.ren,AV.refs] at h
  ·intro p i off h;simp only[AV.ren,AV.refs,beq_iff_eq] at h;exact⟨p,by simp [AV.refs],h.symm⟩
  ·intro p i off h;simp only[AV.ren,AV.refs,beq_iff_eq] at h;exact⟨p,by simp [AV.refs],h.symm⟩
  ·intro p es h;simp only[AV.ren,AV.refs,beq_iff_eq] at h;exact⟨p,by simp [AV.refs],h.symm⟩
  ·intro p y h;simp only[AV.ren,AV.refs,beq_iff_eq] at h;exact⟨p,by simp [AV.refs],h.symm⟩
  ·intro _ h;simp [AV.ren,AV.refs] at h
  ·intro cs ih h;exact ih h
  ·intro cs ih h;exact ih h
  ·intro f cs ih h;exact ih h
  ·intro _ h;simp [AV.ren,AV.refs] at h
  ·intro p h;simp only[AV.ren,AV.refs,beq_iff_eq] at h;exact⟨p,by simp [AV.refs],h.symm⟩
  ·intro h;simp [AV.ren,AV.refs] at h
  ·intro h;simp [AV.renL,AV.refsL] at h
  ·intro y ys h1 h2 h;simp only[AV.renL,AV.refsL,zZM] at h
   rcases h with h|h
   ·obtain⟨q,k1,k2⟩:=h1 h;exact⟨q,by simp [AV.refsL,k1],k2⟩
   ·obtain⟨q,k1,k2⟩:=h2 h;exact⟨q,by simp [AV.refsL,k1],k2⟩
 exact key x h
theorem zDv{ρ:Nat->Nat}{xs:List AV}{o:Nat}(h:AV.refsL o (xs.map (AV.ren ρ))=true):∃q,AV.refsL q xs=true/\o=ρ q:=by
 induction xs with
 | nil=>simp [AV.refsL] at h
 | cons x xs ih=>
  simp only[zYU,AV.refsL,zZM] at h
  rcases h with h|h
  ·obtain⟨q,k1,k2⟩:=ztb h;exact⟨q,by simp [AV.refsL,k1],k2⟩
  ·obtain⟨q,k1,k2⟩:=ih h;exact⟨q,by simp [AV.refsL,k1],k2⟩
theorem zyo{F:zaO}(hF:FOK P F){E:Env}{H:zf}{dst:Nat}{ms:List Bool}{f:FuncId}{args:List AV}{v:AV}{δ:zf}(h:zcz F E H dst ms f args=some (v,δ)):
    (∀p∈δ,p.1∈(zck H dst ms args).2)/\(∀o,v.refs o=true->o∈(zck H dst ms args).2)/\(∀p∈δ,∀o,p.2.refs o=true->o∈(zck H dst ms args).2):=by
 unfold zcz at h;obtain⟨zYO,has,h⟩:=zYR.1 h;have hnod:(zbD H ms args).Nodup:=zoN _ _ _;simp only[zck];generalize zbD H ms args=ns at *;unfold zfM at h
 split at h
 ·rename_i hc;simp only[zY6] at hc;obtain⟨⟨r,os'⟩,hf,h⟩:=zYR.1 h;obtain⟨_,_,hW⟩:=hF f _ _ r os' hf (fun⟨n,ob⟩ hm=>by
   obtain⟨o,ho,_,h2⟩:=zoI hm;have:=zZi.1 hc.1 o ho
   split at this
   ·rename_i es hes;exact⟨_,by rw[h2,hes];rfl⟩
   ·cases this) (fun i p hp=>(zoU hnod i p hp).1)
  unfold zeg at h
  split at h
  ·cases h
   have hnl:(zb4 H ns).length=ns.length:=by simp [zb4]
   rw[hnl] at hW;have hname:∀n,(look n os').isSome=true->zea ns dst n∈ns++fr4 dst:=fun n hn=>by
    simp only[zZl]
    rcases hW.names n hn with h1|⟨h1,h2⟩
    ·right;have h3:zea ns dst n=dst+10000 * n:=by simp only[zea];rw[zYQ (by omega)]
     rw[h3];have:n=0\/n=1\/n=2\/n=3:=by omega
     rcases this with h|h|h|h<;>simp [fr4,h]
    ·left;simp only[zea];rw[zYP (by omega),zZw,zY1 (by omega)];simp
   refine⟨fun p hp=> ?_,fun o ho=> ?_,fun p hp o ho=> ?_⟩
   ·obtain⟨⟨n,ob⟩,hm,rfl⟩:=zY0.1 hp;exact hname n (znX hm)
   ·obtain⟨q,h1,rfl⟩:=ztb ho;exact hname q (hW.res q h1)
   ·obtain⟨⟨n,ob⟩,hm,rfl⟩:=zY0.1 hp
    cases ob with
    | acc n=>simp [Obj.ren,Obj.refs] at ho
    | frz m=>simp [Obj.ren,Obj.refs] at ho
    | mp m=>simp [Obj.ren,Obj.refs] at ho
    | row es=>
     simp only[Obj.ren,Obj.refs] at ho;obtain⟨q,h1,rfl⟩:=zDv ho;exact hname q (hW.resH n _ hm q h1)
  ·cases h
 ·cases h
theorem zPV{ms:List Bool}{args:List AV}{o:Nat}(h:o∈zcl ms args):AV.refsL o args=true:=by
 induction args generalizing ms with
 | nil=>cases ms<;>simp [zcl] at h
 | cons x xs ih=>
  match ms with
  | []=>simp [zcl] at h
  | false::ms=>simp only[zcl] at h;simp [AV.refsL,ih h]
  | true::ms=>
   simp only[zcl,zZl] at h
   rcases h with h|h
   ·simp [AV.refsL,zo7 h]
   ·simp [AV.refsL,ih h]
theorem zt5:∀(xs ns:List Nat) {o:Nat},o∈zc1 ns xs->o∈ns\/o∈xs:=by
 intro xs
 induction xs with
 | nil=>intro ns o h;exact .inl h
 | cons x xs ih=>
  intro ns o h;simp only[zc1] at h
  split at h
  ·rcases ih _ h with h|h
   ·exact .inl h
   ·exact .inr (.tail _ h)
  ·rcases ih _ h with h|h
   ·simp at h
    rcases h with h|h
    ·exact .inl h
    ·exact .inr (by simp [h])
   ·exact .inr (.tail _ h)
theorem zTR{H:zf}{ns:List Nat}{o:Nat}(h:o∈zfs H ns):o∈ns\/zam o H=true:=by
 rcases zt5 _ _ h with h|h
 ·exact .inl h
 ·obtain⟨q,_,hq⟩:=List.mem_flatMap.1 h;simp only[zkE] at hq
  split at hq
  ·rename_i es hes;right
   cases hr:zam o H with
   | true=>rfl
   | false=>
    have:=zhc (zar hes) hr;have h2:AV.refsL o es=true:=zo7 (x:= .agg es) hq;simp only[Obj.refs] at this;rw[h2] at this;cases this
  ·cases hq
theorem zCC{H:zf}{ms:List Bool}{args:List AV}{o:Nat}(h1:AV.refsL o args=false)(h2:zam o H=false):o∉zbD H ms args:=by
 intro h;have no:∀ {ns:List Nat},o∈zfs H ns->o∈ns:=fun h=>(zTR h).resolve_right (by simp [h2])
 rcases zt5 _ _ (no (no h)) with h|h
 ·cases h
 ·rw[zPV h] at h1;cases h1
def zdm(H:zf)(dst:Nat)(ms:List Bool)(args:List AV):List Nat×List Nat:=
 if zlv ms args.length=true then
  ((zck H dst ms args).1++(zck (zag (zbm H (zaA ms args)) H) dst ms ((zbI H ms args).getD [])).1,
   (zck (zag (zbm H (zaA ms args)) H) dst ms ((zbI H ms args).getD [])).2++zaA ms args)
 else zck H dst ms args
theorem zs5{o:Nat}{δ H:zf}(h1:∀p∈δ,p.2.refs o=false)(h2:zam o H=false):zam o (zag δ H)=false:=by
 induction δ with
 | nil=>exact h2
 | cons p δ ih=>
  obtain⟨q,ob⟩:=p;exact ze3 (ih fun r hr=>h1 r (.tail _ hr)) (h1 _ (.head _))
theorem zGf{F:zaO}(hF:FOK P F){E:Env}{H:zf}{dst:Nat}{ms:List Bool}{f:FuncId}{args:List AV}{v:AV}{δ:zf}(h:zbh F E H dst ms f args=some (v,δ)){E2:Env}{H2:zf}(hh:∀o∈(zdm H dst ms args).1,look o H2=look o H)(hf:∀n∈fr4 dst,zaV n E2=false/\zam n H2=false):
    zbh F E2 H2 dst ms f args=some (v,δ):=by
 unfold zbh at h ⊢;unfold zdm at hh
 split at h
 ·rename_i hz;rw[zYQ hz] at hh ⊢;have hds:∀o∈zaA ms args,look o H2=look o H:=fun o ho=>hh o (by simp [zck,ho]);obtain⟨zYO,has,h⟩:=zYR.1 h;rw[has] at hh;rw[zyr hds,has,zZn];unfold zgp at h ⊢;have hok:zgq H2 (zaA ms args)=zgq H (zaA ms args):=by
   unfold zgq;rw[zZB,zZi,zZi];exact⟨fun hx o ho=>by have:=hx o ho;rw[hds o ho] at this;exact this,fun hx o ho=>by rw[hds o ho];exact hx o ho⟩
  have hfz:zbm H2 (zaA ms args)=zbm H (zaA ms args):=by
   unfold zbm;refine z0r fun o ho=> ?_;unfold mark;rw[hds o ho]
  rw[hok,hfz]
  split at h
  ·rename_i hk;rw[zYQ hk];obtain⟨⟨v',δ'⟩,h1,h2⟩:=zYT.1 h
   cases h2
   rw[zyn hF h1 (E2:=E2) (H2:=zag (zbm H (zaA ms args)) H2) (fun o ho=> ?_) (fun n hn=>⟨(hf n hn).1,?_⟩)]
   ·rfl
   ·rw[zdr,zdr,hh o (by simp [ho])]
   ·rw[<- hfz];exact zs5 (fun p hp=>by obtain⟨q,_,rfl⟩:=zY0.1 hp;rfl) (hf n hn).2
  ·cases h
 ·rename_i hz;rw[zYP hz] at hh ⊢;exact zyn hF h hh hf
theorem zGg{F:zaO}(hF:FOK P F){E:Env}{H:zf}{dst:Nat}{ms:List Bool}{f:FuncId}{args:List AV}{v:AV}{δ:zf}(h:zbh F E H dst ms f args=some (v,δ)):
    (∀p∈δ,p.1∈(zdm H dst ms args).2)/\(∀o,v.refs o=true->o∈(zdm H dst ms args).2)/\(∀p∈δ,∀o,p.2.refs o=true->o∈(zdm H dst ms args).2):=by
 unfold zbh at h;unfold zdm
 split at h
 ·rename_i hz;rw[zYQ hz];obtain⟨zYO,has,h⟩:=zYR.1 h;rw[has];unfold zgp at h
  split at h
  ·obtain⟨⟨v',δ'⟩,h1,h2⟩:=zYT.1 h
   cases h2
   obtain⟨n1,n2,n3⟩:=zyo hF h1;refine⟨fun p hp=> ?_,fun o ho=>z0n _ (n2 o ho),fun p hp o ho=> ?_⟩
   ·rcases zZl.1 hp with hp|hp
    ·exact z0n _ (n1 p hp)
    ·obtain⟨q,hq,rfl⟩:=zY0.1 hp;exact z0V _ hq
   ·rcases zZl.1 hp with hp|hp
    ·exact z0n _ (n3 p hp o ho)
    ·obtain⟨q,hq,rfl⟩:=zY0.1 hp;simp [Obj.refs] at ho
  ·cases h
 ·rename_i hz;rw[zYP hz];exact zyo hF h
theorem znp{o:Nat}:∀ {ms:List Bool} {xs:List AV},o∈zaA ms xs->AV.refsL o xs=true
 | _,[],h=>by simp [zaA] at h
 | [],x::xs,h=>by
  simp only[zaA,zZl] at h;simp only[AV.refsL,zZM]
  rcases h with h|h
  ·exact .inl (zo7 h)
  ·exact .inr (znp h)
 | true::ms,x::xs,h=>by
  simp only[zaA] at h;simp only[AV.refsL,zZM];exact .inr (znp h)
 | false::ms,x::xs,h=>by
  simp only[zaA,zZl] at h;simp only[AV.refsL,zZM]
  rcases h with h|h
  ·exact .inl (zo7 h)
  ·exact .inr (znp h)
theorem zne{H:zf}{o:Nat}:∀ {ms:List Bool} {xs zYO:List AV},zbI H ms xs=some zYO->AV.refsL o xs=false->AV.refsL o zYO=false
 | _,[],zYO,h,_=>by cases ‹List Bool› <;> (simp [zbI] at h;subst h;rfl)
 | [],x::xs,zYO,h,hr=>by
  simp only[zbI] at h;obtain⟨d,_,h⟩:=zYR.1 h;obtain⟨bs,h1,rfl⟩:=zYT.1 h;simp only[AV.refsL,z0z] at hr ⊢;exact⟨rfl,zne h1 hr.2⟩
 | true::ms,x::xs,zYO,h,hr=>by
  simp only[zbI] at h;obtain⟨bs,h1,rfl⟩:=zYT.1 h;simp only[AV.refsL,z0z] at hr ⊢;exact⟨hr.1,zne h1 hr.2⟩
 | false::ms,x::xs,zYO,h,hr=>by
  simp only[zbI] at h;obtain⟨d,_,h⟩:=zYR.1 h;obtain⟨bs,h1,rfl⟩:=zYT.1 h;simp only[AV.refsL,z0z] at hr ⊢;exact⟨rfl,zne h1 hr.2⟩
theorem zyt{H:zf}{dst:Nat}{ms:List Bool}{args:List AV}:∀o∈(zck H dst ms args).2,o∈(zck H dst ms args).1:=by
 intro o ho;simp only[zck,zZl] at ho ⊢
 rcases ho with ho|ho
 ·exact .inl ho
 ·exact .inr (.inr ho)
theorem zGk{H:zf}{dst:Nat}{ms:List Bool}{args:List AV}:∀o∈(zdm H dst ms args).2,o∈(zdm H dst ms args).1:=by
 intro o ho;unfold zdm at ho ⊢
 split at ho
 ·rename_i hz;rw[zYQ hz]
  rcases zZl.1 ho with ho|ho
  ·exact z0V _ (zyt o ho)
  ·exact z0n _ (by simp [zck,ho])
 ·rename_i hz;rw[zYP hz];exact zyt o ho
theorem zGj{H H2:zf}{dst:Nat}{ms:List Bool}{args:List AV}{o:Nat}(hh:∀o∈(zdm H dst ms args).1,look o H2=look o H)(ha:AV.refsL o args=false)(h2:zam o H2=false)(hn:o∉fr4 dst):o∉(zdm H dst ms args).2:=by
 unfold zdm at hh ⊢
 split
 ·rename_i hz;rw[zYQ hz] at hh;have hds:∀o∈zaA ms args,look o H2=look o H:=fun o ho=>hh o (by simp [zck,ho]);have hfz:zbm H2 (zaA ms args)=zbm H (zaA ms args):=by
   unfold zbm;refine z0r fun o ho=> ?_;unfold mark;rw[hds o ho]
  simp only[zck,zZl];rintro ((hm|hm)|hm)
  ·have hnames:∀q∈zbD (zag (zbm H (zaA ms args)) H) ms ((zbI H ms args).getD []),look q (zag (zbm H (zaA ms args)) H2)=look q (zag (zbm H (zaA ms args)) H):=fun q hq=>by
      rw[zdr,zdr,hh q (by simp [zck,hq])]
   rw[<- zsD hnames] at hm;refine zCC ?_ (zs5 (fun p hp=>by obtain⟨q,_,rfl⟩:=zY0.1 hp;rfl) h2) hm
   cases hc:zbI H ms args with
   | none=>rfl
   | some zYO=>exact zne hc ha
  ·exact hn hm
  ·have:=znp hm;rw[ha] at this;cases this
 ·rename_i hz;rw[zYP hz] at hh;simp only[zck,zZl];rintro (hm|hm)
  ·have hnames:∀q∈zbD H ms args,look q H2=look q H:=fun q hq=>hh q (by simp [zck,hq]);rw[<- zsD hnames] at hm;exact zCC ha h2 hm
  ·exact hn hm
end Go.Sim
