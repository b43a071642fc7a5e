/-
  What a call looks at and writes.
-/
import Derived.Test.YtjalkkalhdnplaaGreatBe53b64d
import Derived.RegionTactic
set_option linter.unusedSimpArgs false
set_option linter.unusedVariables false
set_option maxHeartbeats 10000000
set_option maxRecDepth 100000
namespace Go.Sim
open Go (World Value Addr TypeId Act)
inductive zJ where
 | skip
 | ops (gs:List Nat) (l:List zA) (kill:List Nat)
 | draw (gs:List Nat) (l:List zA) (fr:List (List Nat)) (kill:List Nat)
 | seq (a b:zJ)
 | cond (c:Opd) (t e:zJ)
 | block (id:Nat) (b:zJ)
 | loop (kill:List Nat) (b:zJ)
 | exit (id:Nat) (keep:List Nat)
 | ret (keep:List Nat)
structure zap where
 kill:List (Nat×List Nat):=[]
 ghost:List (Nat×List Nat):=[]
 obj:List (Nat×List Bool):=[]
 acc:List Nat:=[]
 loop:List (Nat×List Nat):=[]
 exit:List (Nat×List Nat):=[]
 ret:List Nat:=[]
def zqw(hs:zap)(dst:Option Nat):List Bool:=match dst with|some d=>(look d hs.obj).getD []|none=>[]
def ztx(hs:zap)(dst:Option Nat):Bool:=match dst with|some d=>hs.acc.contains d|none=>false
def zlM:AOp->Bool
 | .mv (.c (.xsl []))=>true
 | _=>false
def hint(hs:zap)(dst:Option Nat)(x:AOp):AOp:=
 match x with
 | .call f _ xs=> .call f (zqw hs dst) xs
 | .callv f _ xs=> .callv f (zqw hs dst) xs
 | x=>if zlM x&&ztx hs dst then .nacc else x
def zfz(P:Program)(hs:zap)(ops:Array Oper)(o:Oper):Option zA:=
 match z7 P o.op with
 | none=>none
 | some x=>
  match o.guard with
  | none=>some ⟨o.dst,hint hs o.dst x,none⟩
  | some (j,b)=>((ops[j]?).bind (·.dst)).map fun t=>⟨o.dst,hint hs o.dst x,some (t,b)⟩
def zgN(K:List (Nat×List Nat))(id:Nat):List Nat:=(look id K).getD []
def zgj(ks:List Nat):Env->Env
 | []=>[]
 | (t,x)::l=>if ks.contains t then zgj ks l else (t,x)::zgj ks l
def St.put(S:St)(dst:Option Nat)(v:AV):St:=match dst with|none=>S|some d=>⟨zF d v S.env,S.heap⟩
inductive zT where
 | normal
 | exit (id:Nat)
 | ret
variable {P:Program} {C:Ctx}
def Out(e:zT):Exit:=match e with| .normal=> .normal| .exit i=> .exit i| .ret=> .ret
theorem zOL{ks:List Nat}{E:Env}{p:Nat×AV}(h:p∈zgj ks E):p∈E:=by
 induction E with
 | nil=>cases h
 | cons q l ih=>
  obtain⟨t,x⟩:=q;simp only[zgj] at h
  split at h
  ·exact .tail _ (ih h)
  ·cases h with
   | head=>exact .head _
   | tail _ h=>exact .tail _ (ih h)
theorem Rel.kill{S:St}{a:Act}{w:World}{ι:Inj}{R:Nat->Prop}(h:Rel C S a w ι R)(ks:List Nat):Rel C ⟨zgj ks S.env,S.heap⟩ a w ι R:=h.weaken fun _ _ hx=>zOL hx
theorem Rel.putO{S:St}{a:Act}{w:World}{ι:Inj}{R:Nat->Prop}(h:Rel C S a w ι R){v:AV}{u:Value}(hv:VA w R ι (mark S.heap) v u){dst:Option Nat}(hd:∀d,dst=some d->d<C.n):
    Rel C (S.put dst v) (a.put dst u) w ι R:=by
 cases dst with
 | none=>exact h.put_none u
 | some d=>exact h.put hv (hd d rfl)
theorem zBZ{f:FuncId}(h:zef P f=true)(args:Array Value)(w:World):(callFunc f args).run P w= .ok (.enter f args) w:=by
 unfold zef at h
 cases hf:P.funcs[f]? with
 | none=>simp [hf] at h
 | some fn=>
  simp only[hf,zWS,zXt] at h;have h1:¬fn.name= "runtime.NumGoroutine" := by simpa using h.2
  have h2:¬fn.body=none:=by
   intro e;have:=h.1;rw[e] at this;cases this
  simp [callFunc,hf,h1,h2]
theorem zEV{op:Op}{f:FuncId}{ms:List Bool}{xs:List Opd}(h:z7 P op=some (.call f ms xs)):∃c:Call,op= .call c/\c.callee= .value (.func f)/\ms=[]/\zef P f=true/\c.args.toList.mapM opd=some xs:=by
 cases op with
 | call c=>
  simp only[z7] at h
  split at h
  ·rename_i g hcal
   split at h
   ·rename_i hcf;obtain⟨ys,hys,h⟩:=zWB.1 h
    cases h
    exact⟨c,rfl,hcal,rfl,hcf,hys⟩
   ·obtain⟨ys,hys,h⟩:=zWB.1 h
    rcases zlf h with ⟨_,_,_,e⟩|⟨_,_,_,_,e⟩|⟨_,_,_,_,_,e⟩<;>cases e
  all_goals (exfalso;revert h;(repeat' split)<;>simp [zWB])
 | makeFunc fn a b=>
  exfalso;revert h
  cases fn<;>simp only[z7]<;>(repeat' split)<;>simp [zWB]
 | _=>
  exfalso;revert h;simp only[z7]
  (repeat' split)<;>simp [zWB,zWC]
theorem zEW{op:Op}{y:Opd}{ms:List Bool}{xs:List Opd}(h:z7 P op=some (.callv y ms xs)):∃(c:Call) (f:Nat),op= .call c/\y= .t f/\c.callee= .value (.tmp f)/\ms=[]/\f<1000000/\c.args.toList.mapM opd=some xs:=by
 cases op with
 | call c=>
  simp only[z7] at h
  split at h
  ·exfalso
   split at h
   ·revert h;simp [zWB]
   ·obtain⟨ys,hys,h⟩:=zWB.1 h
    rcases zlf h with ⟨_,_,_,e⟩|⟨_,_,_,_,e⟩|⟨_,_,_,_,_,e⟩<;>cases e
  ·rename_i g hcal
   split at h
   ·rename_i hlt;obtain⟨ys,hys,h⟩:=zWB.1 h
    cases h
    exact⟨c,g,rfl,rfl,hcal,rfl,hlt,hys⟩
   ·cases h
  all_goals (exfalso;revert h;(repeat' split)<;>simp [zWB])
 | makeFunc fn a b=>
  exfalso;revert h
  cases fn<;>simp only[z7]<;>(repeat' split)<;>simp [zWB]
 | _=>
  exfalso;revert h;simp only[z7]
  (repeat' split)<;>simp [zWB,zWC]
theorem zD0{k:Nat}{xs:List Opd}{ng:Bool}{y:Opd}:¬zjM k xs=some (.nileq ng y):=fun h=>by
 rcases zlf h with ⟨_,_,_,e⟩|⟨_,_,_,_,e⟩|⟨_,_,_,_,_,e⟩<;>cases e
theorem zD1{k:Nat}{xs:List Opd}{y:Opd}:¬zjM k xs=some (.mv y):=fun h=>by
 rcases zlf h with ⟨_,_,_,e⟩|⟨_,_,_,_,e⟩|⟨_,_,_,_,_,e⟩<;>cases e
theorem zEY{op:Op}{ng:Bool}{y:Opd}(h:z7 P op=some (.nileq ng y)):∃(b:BinOp) (t e u:TypeId) (x q:Operand),op= .binOp b t x q u/\b=(if ng then .neq else .eql)/\P.underlying t=some (.slice e)/\opd x=some y/\zqZ q=true:=by
 cases op with
 | call c=>exfalso;revert h;simp only[z7];(repeat' split)<;>simp [zWB,zD0]
 | makeFunc fn a b=>
  exfalso;revert h
  cases fn<;>simp only[z7]<;>(repeat' split)<;>simp [zWB]
 | binOp b t x q u=>
  simp only[z7] at h
  split at h
  ·exfalso;revert h;simp [zWB]
  ·exfalso;revert h;simp [zWB]
  ·exfalso;revert h;(repeat' split)<;>simp [zWB]
  ·exfalso;revert h;(repeat' split)<;>simp [zWB]
  ·exfalso;revert h;(repeat' split)<;>simp [zWB]
  ·rename_i e hu
   split at h
   ·rename_i hq
    split at h
    ·obtain⟨z,hz,h⟩:=zWC.1 h
     cases h
     exact⟨_,t,e,u,x,q,rfl,rfl,hu,hz,hq⟩
    ·obtain⟨z,hz,h⟩:=zWC.1 h
     cases h
     exact⟨_,t,e,u,x,q,rfl,rfl,hu,hz,hq⟩
    ·cases h
   ·cases h
  ·cases h
 | _=>
  exfalso;revert h;simp only[z7]
  (repeat' split)<;>simp [zWB,zWC]
def zgD(H:zf)(x:Option (AV×zf)):Option (AV×zf):=x.map fun p=>(p.1,zae p.2 H)
def zgE(F:zaU)(E:Env)(H:zf)(dst:Nat)(ms:List Bool)(f:AV)(args:List AV):Option (AV×zf):=
 match f with
 | .d (.fn g cs)=>zbr F E H dst ms g (args++cs.map .d)
 | .fn g cs=>zbr F E H dst ms g (args++cs)
 | _=>none
def zkx(H:zf)(ng:Bool)(x:AV):Option (AV×zf):=
 match x with
 | .nl b=>some (.d (.bool (if ng then !b else b)),H)
 | x=>match slD x with
  | some (_::_)=>some (.d (.bool ng),H)
  | _=>none
def step(F:zaU)(E:Env)(H:zf)(dst:Nat):AOp->Option (AV×zf)
 | .call f ms xs=>zgD H (zbr F E H dst ms f (xs.map (·.ev E)))
 | .callv f ms xs=>zgD H (zgE F E H dst ms (f.ev E) (xs.map (·.ev E)))
 | .nileq ng x=>zkx H ng (x.ev E)
 | op=>zm E H dst op
theorem zNi{x:AOp}(h:zlM x=true):x= .mv (.c (.xsl [])):=by
 unfold zlM at h
 split at h
 ·rfl
 ·cases h
theorem zEX{op:Op}(h:z7 P op=some (.mv (.c (.xsl [])))):∃y,(op= .move y\/op= .assign y)/\opd y=some (.c (.xsl [])):=by
 cases op with
 | move y=>simp only[z7,zWC] at h;obtain⟨z,h1,h2⟩:=h;cases h2;exact⟨y,.inl rfl,h1⟩
 | assign y=>simp only[z7,zWC] at h;obtain⟨z,h1,h2⟩:=h;cases h2;exact⟨y,.inr rfl,h1⟩
 | makeFunc fn a b=>
  exfalso;revert h
  cases fn<;>simp only[z7]<;>(repeat' split)<;>simp [zWB]
 | _=>
  exfalso;revert h;simp only[z7]
  (repeat' split)<;>simp [zWB,zWC,zD1]
theorem zP5{y:Operand}(h:opd y=some (.c (.xsl []))):∃v,y= .const v/\v= .slice none 0 0:=by
 cases y with
 | tmp t=>simp only[opd] at h;split at h<;>cases h
 | const v=>
  refine⟨v,rfl,?_⟩;simp only[opd] at h
  split at h
  ·cases h
  ·obtain⟨x,h1,h2⟩:=zWC.1 h
   cases h2
   unfold zf6 at h1
   split at h1
   ·obtain⟨ds,_,h2⟩:=zWC.1 h1;unfold AV.mkAgg at h2
    split at h2<;>cases h2
   ·unfold zhM at h1
    split at h1
    ·split at h1<;>cases h1
    ·cases h1
    ·split at h1<;>cases h1
    ·rfl
    ·split at h1<;>cases h1
 | global g=>cases h
 | func f=>cases h
theorem zsQ {F:zaU} (hF:FOK P F) {o:Oper} {x0:AOp} {hs:zap} {S:St} {a:Act} {w:World} {ι:Inj} {R:Nat->Prop} {v:AV} {H':zf} {next:Act->World->Prop} {Q:Exit->Act->World->Prop}
    (hc:z7 P o.op=some x0) (hd:∀d,o.dst=some d->d<C.n) (h:step F S.env S.heap (o.dst.getD 0) (hint hs o.dst x0)=some (v,H')) (hr:Rel C S a w ι R)
    (hn:∀a' w' ι' R',Rel C (St.put ⟨S.env,H'⟩ o.dst v) a' w' ι' R'->next a' w'):o.wp P a w next Q:=by
 have calls:∀(f:FuncId) (ms:List Bool) (xs:List AV) (us:List Value),(execOp a.eval o).run P w= .ok (.enter f us.toArray) w->VAs w R ι (mark S.heap) xs us->zgD S.heap (zbr F S.env S.heap (o.dst.getD 0) ms f xs)=some (v,H')->o.wp P a w next Q:=by
  intro f ms xs us he hv hw;obtain⟨⟨v',δ⟩,h1,h2⟩:=zWC.1 hw
  cases h2
  unfold Oper.wp;rw[he];refine (zEl hF h1 hr hv).mono fun e w' hh=> ?_;obtain⟨u,ι',R',rfl,hr',hv'⟩:=hh;exact hn _ _ _ _ (hr'.putO hv' hd)
 have simple:∀ {x:AOp},zM C S a v H' ((execOp a.eval o).run P w)->o.wp P a w next Q:=by
  intro x hg;obtain⟨u,w',ι',R',hrun,hr',hv'⟩:=hg;have hfin:=hn _ _ _ _ (hr'.putO hv' hd);unfold Oper.wp
  rcases hrun with hrun|⟨hrun,rfl⟩<;>rw[hrun]<;>exact hfin
 have plain:∀ {x:AOp},(if zlM x&&ztx hs o.dst then AOp.nacc else x)=hint hs o.dst x0->x=x0->step F S.env S.heap (o.dst.getD 0) x=zm S.env S.heap (o.dst.getD 0) x->o.wp P a w next Q:=by
  intro x e1 e2 hst;subst e2;rw[<- e1] at h
  split at h
  ·rename_i hnil;simp only[zWS] at hnil;have hx:=zNi hnil.1;rw[hx] at hc;obtain⟨y,hop,hy⟩:=zEX hc;obtain⟨cv,rfl,rfl⟩:=zP5 hy;simp only[step,zm] at h
   split at h
   ·rename_i hu
    cases h
    refine simple (x:= .nacc) ⟨.slice none 0 0,w,clr ι (o.dst.getD 0),R,.inl ?_,hr.newNone hu,.acc0⟩
    rcases hop with hop|hop<;>simp [execOp,hop,Act.eval]
   ·cases h
  ·rw[hst] at h;exact simple (x:=x) (zDY hc hr h)
 cases x0 with
 | call f ms xs=>
  obtain⟨c,hop,hcal,_,hcf,hxs⟩:=zEV hc;obtain⟨hl,hg⟩:=zj1 hr hxs;refine calls f _ _ (c.args.toList.map a.eval) ?_ ⟨hl,hg⟩ h;have e:(c.args.toList.map a.eval).toArray=c.args.map a.eval:=by apply Array.ext';simp
  simp [execOp,hop,resolve,hcal,Act.eval,Deferred.ofValue,invoke,zBZ hcf,e]
 | callv y ms xs=>
  obtain⟨c,f,hop,rfl,hcal,_,hflt,hxs⟩:=zEW hc;obtain⟨hl,hg⟩:=zj1 hr hxs;have hfv:=hr.ev (show opd (.tmp f)=some (.t f) by simp only[opd,zWz hflt]);have fin:∀(g:FuncId) (cs:List AV),(∃vs:List Value,a.eval (.tmp f)= .func (.func g) #[] vs.toArray/\VAs w R ι (mark S.heap) cs vs)->zgD S.heap (zbr F S.env S.heap (o.dst.getD 0) (zqw hs o.dst) g (xs.map (·.ev S.env)++cs))=some (v,H')->o.wp P a w next Q:=by
   rintro g cs ⟨vs,hfe,hvl,hvg⟩ hw;have hcf:zef P g=true:=by
    obtain⟨⟨v',δ⟩,h1,_⟩:=zWC.1 hw;exact zEh hF h1
   refine calls g _ _ (c.args.toList.map a.eval++vs) ?_ ⟨by rw[zWJ,zWJ,hl,hvl],fun i x u h1 h2=> ?_⟩ hw
   ·have e:(c.args.toList.map a.eval++vs).toArray=c.args.map a.eval++vs.toArray:=by apply Array.ext';simp
    simp [execOp,hop,resolve,hcal,hfe,Deferred.ofValue,invoke,zBZ hcf,e]
   ·by_cases hi:i<(xs.map (·.ev S.env)).length
    ·rw[zXE hi] at h1;rw[zXE (by omega)] at h2;exact hg i x u h1 h2
    ·rw[zXz (by omega)] at h1;rw[zXz (by omega),hl] at h2;exact hvg _ x u h1 h2
  simp only[hint,step,zgE] at h;generalize hfe:Opd.ev S.env (.t f)=fa at h hfv;generalize hfa:a.eval (.tmp f)=fv at hfv
  split at h
  ·rename_i g cs
   cases hfv with
   | d hd=>
    cases hd with
    | fn hl' hg'=>exact fin g _ ⟨_,hfa,by simpa using hl',fun i x u k1 k2=>by
        rw[zWT] at k1;obtain⟨y,k3,rfl⟩:=zWC.1 k1;exact .d (hg' i y u k3 k2)⟩ h
  ·rename_i g cs
   cases hfv with
   | fn hl' hg'=>exact fin g _ ⟨_,hfa,hl',hg'⟩ h
  ·cases h
 | nileq ng y=>
  obtain⟨b,t,e,u,x,q,hop,hb,hu,hy,hq⟩:=zEY hc;have hv:=hr.ev hy;simp only[hint,zlM,zXr,zWL,if_false,step,zkx] at h;have hqv:∃l c,a.eval q= .slice none l c:=by
   unfold zqZ at hq
   split at hq
   ·exact⟨_,_,rfl⟩
   ·cases hq
  obtain⟨ql,qc,hqv⟩:=hqv
  split at h
  ·rename_i b0 hnl
   cases h
   rw[hnl] at hv;generalize hav:a.eval x=av at hv
   cases hv with
   | nl1=>
    have heq:∀cap,(Op.equal t (.slice none 0 cap) (.slice none ql qc)).run P w= .ok true w:=by
     intro cap;unfold Op.equal;rw[show Op.maxDepth=9999+1 from rfl];unfold Op.equalIn;simp only[Sem.run_bind,run_underlying hu,Result.andThen_ok];simp
    refine simple (x:= .nacc) (zM.same hr (.d .bool) (u:= .bool (if ng=true then !true else true)) ?_)
    cases ng<;>simp at hb<;>subst hb<;>simp [execOp,hop,hav,hqv,eqGuard,Go.binOp,heq]
   | nl2=>
    have heq:∀ad cap,(Op.equal t (.slice (some ad) 0 cap) (.slice none ql qc)).run P w= .ok false w:=by
     intro ad cap;unfold Op.equal;rw[show Op.maxDepth=9999+1 from rfl];unfold Op.equalIn;simp only[Sem.run_bind,run_underlying hu,Result.andThen_ok];simp
    refine simple (x:= .nacc) (zM.same hr (.d .bool) (u:= .bool (if ng=true then !false else false)) ?_)
    cases ng<;>simp at hb<;>subst hb<;>simp [execOp,hop,hav,hqv,eqGuard,Go.binOp,heq]
  split at h
  ·rename_i d0 ds hsl
   cases h
   have fin:∀(ad:Addr) (l cap:Nat),a.eval x= .slice (some ad) l cap->o.wp P a w next Q:=by
    intro ad l cap hav;have heq:(Op.equal t (.slice (some ad) l cap) (.slice none ql qc)).run P w= .ok false w:=by
     unfold Op.equal;rw[show Op.maxDepth=9999+1 from rfl];unfold Op.equalIn;simp only[Sem.run_bind,run_underlying hu,Result.andThen_ok];simp
    refine simple (x:= .nacc) (zM.same hr (.d .bool) (u:= .bool ng) ?_)
    cases ng<;>simp at hb<;>subst hb<;>simp [execOp,hop,hav,hqv,eqGuard,Go.binOp,heq]
   generalize hpa:y.ev S.env=pa at hv hsl;generalize hav:a.eval x=av at hv;have data:∀ {es:List D},slD pa=some es->Rd w R (.v (.sl es) av)->o.wp P a w next Q:=by
    intro es he hrd;rw[he] at hsl
    cases hsl
    obtain⟨b',off,s,cap,rfl,_⟩:=hrd.sl_inv (by simp);exact fin _ _ _ hav
   cases hv with
   | d hv=>
    rename_i dx
    cases dx with
    | sl es=>exact data rfl hv
    | _=>simp [slD] at hsl
   | xsl hv=>exact data rfl hv
   | accR=>exact fin _ _ _ hav
   | accC=>exact fin _ _ _ hav
   | acc0=>simp [slD] at hsl
   | _=>simp [slD] at hsl
  ·cases h
 | _=>exact plain rfl rfl rfl
end Go.Sim

namespace Go.Sim
open Go (World Value Addr TypeId Act)
variable {P:Program} {C:Ctx}
def ziT(o m:Nat):Env->Option (List D)
 | []=>none
 | (_,.acc p es)::l=>if p=o/\es.length=m then some es else ziT o m l
 | _::l=>ziT o m l
def zgX(o m:Nat)(x:AV):AV:=
 match x with
 | .acc p es=>if p=o then (if es.length=m then .osl o 0 m else .undef) else .acc p es
 | x=>if x.refs o then .undef else x
def zmB(o m:Nat)(E:Env):Env:=E.map fun p=>(p.1,zgX o m p.2)
def zgz(o:Nat)(ds:List D)(x:AV):AV:=
 match x with
 | .osl p off len=>if p=o then (if off=0/\len=ds.length then .acc o ds else .undef) else .osl p off len
 | x=>if x.refs o then .undef else x
def zlb(o:Nat)(ds:List D)(E:Env):Env:=E.map fun p=>(p.1,zgz o ds p.2)
def zl7(o:Nat):AV->AV
 | .acc p []=>if p=o then .xsl [] else .acc p []
 | x=>x
def zib(o:Nat):Env->Env
 | []=>[]
 | (t,x)::l=>(t,zl7 o x)::zib o l
def okC(o m:Nat):AV->Bool
 | .acc p es=>if p=o then es.length==m else true
 | x=> !x.refs o
def zdn(o m:Nat):AV->AV
 | .acc p es=>if p=o then .osl o 0 m else .acc p es
 | x=>x
def zma(o m:Nat):List AV->Bool
 | []=>true
 | x::l=>okC o m x&&zma o m l
def zmA(o m:Nat):List AV->List AV
 | []=>[]
 | x::l=>zdn o m x::zmA o m l
def okE(o m:Nat):AV->Bool
 | .agg cs=>zma o m cs
 | x=>okC o m x
def zin(o m:Nat):AV->AV
 | .agg cs=> .agg (zmA o m cs)
 | x=>zdn o m x
def zkA(o m:Nat):List AV->Bool
 | []=>true
 | x::l=>okE o m x&&zkA o m l
def zkP(o m:Nat):List AV->List AV
 | []=>[]
 | x::l=>zin o m x::zkP o m l
def zgp(o m:Nat):zf->Bool
 | []=>true
 | (_,.row es)::l=>zkA o m es&&zgp o m l
 | (_,.acc _)::l=>zgp o m l
 | (_,.frz _)::l=>zgp o m l
 | (_,.mp _)::l=>zgp o m l
def zcW(o m:Nat):zf->zf
 | []=>[]
 | (q,.row es)::l=>(q,.row (zkP o m es))::zcW o m l
 | (q,.acc n)::l=>(q,.acc n)::zcW o m l
 | (q,.frz n)::l=>(q,.frz n)::zcW o m l
 | (q,.mp n)::l=>(q,.mp n)::zcW o m l
def zhU(o m:Nat):List AV->Option (List D)
 | []=>none
 | .acc p es::l=>if p=o/\es.length=m then some es else zhU o m l
 | _::l=>zhU o m l
def orE{α:Type}(x:Option α):Option α->Option α
 | some a=>some a
 | none=>x
def zhV(o m:Nat):List AV->Option (List D)
 | []=>none
 | .agg cs::l=>orE (zhV o m l) (zhU o m cs)
 | x::l=>orE (zhV o m l) (zhU o m [x])
def zgg(o m:Nat):zf->Option (List D)
 | []=>none
 | (_,.row es)::l=>orE (zgg o m l) (zhV o m es)
 | (_,.acc _)::l=>zgg o m l
 | (_,.frz _)::l=>zgg o m l
 | (_,.mp _)::l=>zgg o m l
def zny(o m:Nat)(E:Env)(H:zf):Option (List D):=orE (zgg o m H) (ziT o m E)
def ztc(o m:Nat)(E:Env)(H:zf)(es:List D)(b:Bool):Option St:=
 if b=false then some ⟨zmB o m E,zF o (.row (es.map .d)) H⟩ else if zgp o m H=true then some ⟨zmB o m E,zF o (.row (es.map .d)) (zcW o m H)⟩ else none
def ztb(o m:Nat)(E:Env)(H:zf):Option (List D)->Option St
 | some es=>if m≠0 then ztc o m E H es (zam o H) else none
 | none=>none
def zje(o:Nat)(x:AV):AV:=
 match x with
 | .acc p []=>if p=o then .xsl [] else .acc p []
 | x=>x
def zl5(o:Nat):List AV->List AV
 | []=>[]
 | x::l=>zje o x::zl5 o l
def zku(o:Nat)(x:AV):AV:=
 match x with
 | .agg cs=> .agg (zl5 o cs)
 | x=>x
def zkv(o:Nat):List AV->List AV
 | []=>[]
 | x::l=>zku o x::zkv o l
def zoy(o:Nat)(ob:Obj):Obj:=
 match ob with
 | .row es=> .row (zkv o es)
 | x=>x
def zgn(o:Nat):zf->zf
 | []=>[]
 | (q,ob)::l=>(q,zoy o ob)::zgn o l
def zr1(o:Nat)(E:Env)(H:zf)(b:Bool):Option St:=if b=false then some ⟨zib o E,H⟩ else some ⟨zib o E,zgn o H⟩
def zta(o:Nat)(E:Env)(H:zf):Option Obj->Option St
 | some (.acc m)=>if m=0 then zr1 o E H (zam o H) else ztb o m E H (zny o m E H)
 | some (.row es)=>some ⟨E,H⟩
 | some (.frz m)=>some ⟨E,H⟩
 | some (.mp m)=>some ⟨E,H⟩
 | none=>some ⟨E,H⟩
def zpk(o:Nat)(S:St):Option St:=zta o S.env S.heap (look o S.heap)
def zl6(o:Nat):AV->AV
 | .osl p off 0=>if p=o then .d (.sl []) else .osl p off 0
 | x=>x
def zkw(o:Nat):Env->Env
 | []=>[]
 | (t,x)::l=>(t,zl6 o x)::zkw o l
def okA(o n:Nat):AV->Bool
 | .osl p off len=>if p=o then off==0&&len==n else true
 | x=> !x.refs o
def acA(o:Nat)(ds:List D):AV->AV
 | .osl p off len=>if p=o then .acc o ds else .osl p off len
 | x=>x
def zl9(o n:Nat):List AV->Bool
 | []=>true
 | x::l=>okA o n x&&zl9 o n l
def zla(o:Nat)(ds:List D):List AV->List AV
 | []=>[]
 | x::l=>acA o ds x::zla o ds l
def zoA(o n:Nat):AV->Bool
 | .agg cs=>zl9 o n cs
 | x=>okA o n x
def zhI(o:Nat)(ds:List D):AV->AV
 | .agg cs=> .agg (zla o ds cs)
 | x=>acA o ds x
def zkz(o n:Nat):List AV->Bool
 | []=>true
 | x::l=>zoA o n x&&zkz o n l
def zjG(o:Nat)(ds:List D):List AV->List AV
 | []=>[]
 | x::l=>zhI o ds x::zjG o ds l
def zgo(o n:Nat):zf->Bool
 | []=>true
 | (_,.row es)::l=>zkz o n es&&zgo o n l
 | (_,.acc _)::l=>zgo o n l
 | (_,.frz _)::l=>zgo o n l
 | (_,.mp _)::l=>zgo o n l
def zcB(o:Nat)(ds:List D):zf->zf
 | []=>[]
 | (q,.row es)::l=>(q,.row (zjG o ds es))::zcB o ds l
 | (q,.acc n)::l=>(q,.acc n)::zcB o ds l
 | (q,.frz n)::l=>(q,.frz n)::zcB o ds l
 | (q,.mp n)::l=>(q,.mp n)::zcB o ds l
def zs5(o:Nat)(E:Env)(H:zf)(ds:List D):Option St:=
 if zgo o ds.length H=true then some ⟨zlb o ds E,zF o (.acc ds.length) (zcB o ds H)⟩ else none
def zs4(o:Nat)(E:Env)(H:zf)(es:List AV):Option (List D)->Option St
 | some ds=>if es=[] then some ⟨zkw o E,H⟩ else if es≠[]/\zam o H=false then some ⟨zlb o ds E,zF o (.acc ds.length) H⟩ else zs5 o E H ds
 | none=>none
def zs3(o:Nat)(E:Env)(H:zf):Option Obj->Option St
 | some (.row es)=>zs4 o E H es (zbH es)
 | some (.acc m)=>some ⟨E,H⟩
 | some (.frz m)=>some ⟨E,H⟩
 | some (.mp m)=>some ⟨E,H⟩
 | none=>some ⟨E,H⟩
def zph(o:Nat)(S:St):Option St:=zs3 o S.env S.heap (look o S.heap)
def rnm(o o' n:Nat):Nat:=if n=o then o' else n
def zmw(ρ:Nat->Nat):Env->Env
 | []=>[]
 | (t,x)::l=>(t,x.ren ρ)::zmw ρ l
def zs9(o o':Nat)(E:Env)(H:zf):Option Obj->Option St
 | some _=>if (look o' H).isNone=true/\za1 o' E=false/\zam o' H=false then some ⟨zmw (rnm o o') E,zdL (rnm o o') H⟩ else none
 | none=>some ⟨E,H⟩
def zpj(o o':Nat)(S:St):Option St:=zs9 o o' S.env S.heap (look o S.heap)
def zlq(x:AV):Option D->AV
 | some d=> .d d
 | none=>x
def zlr(o:Nat)(H:zf):AV->AV
 | .acc p es=>if p=o then .d (.sl es) else .acc p es
 | .osl p off len=>if p=o then zlq (.osl p off len) (toD H (.osl p off len)) else .osl p off len
 | .ref p i k=>if p=o then zlq (.ref p i k) (toD H (.ref p i k)) else .ref p i k
 | x=>x
def zhP(o:Nat)(H:zf):Env->Env
 | []=>[]
 | (t,x)::l=>(t,zlr o H x)::zhP o H l
def ziO(o:Nat)(x:AV):AV:=
 match x with
 | .acc p es=>if p=o then .d (.sl es) else .acc p es
 | x=>x
def zlp(o:Nat):List AV->List AV
 | []=>[]
 | x::l=>ziO o x::zlp o l
def zjX(o:Nat)(x:AV):AV:=
 match x with
 | .agg cs=> .agg (zlp o cs)
 | x=>x
def zjY(o:Nat):List AV->List AV
 | []=>[]
 | x::l=>zjX o x::zjY o l
def znm(o:Nat)(ob:Obj):Obj:=
 match ob with
 | .row es=> .row (zjY o es)
 | x=>x
def zf7(o:Nat):zf->zf
 | []=>[]
 | (q,ob)::l=>(q,znm o ob)::zf7 o l
def zqc(o:Nat)(E:Env)(H:zf)(b:Bool):Option St:=if b=false then some ⟨zhP o H E,zae (zbC H [o]) H⟩ else some ⟨zhP o H E,zf7 o (zae (zbC H [o]) H)⟩
def zs7(o:Nat)(E:Env)(H:zf):Option Obj->Option St
 | some _=>zqc o E H (zam o H)
 | none=>some ⟨E,H⟩
def zpi(o:Nat)(S:St):Option St:=zs7 o S.env S.heap (look o S.heap)
def znL(g:Nat)(S:St):Option St:=if g<4000000 then (if g % 2=0 then zpk (g / 2) S else zph (g / 2) S) else if g<6000000 then zpj (g - 4000000) (g - 3500000) S else zpi (g - 6000000) S
def zfF:List Nat->St->Option St
 | [],S=>some S
 | g::gs,S=>(znL g S).bind (zfF gs)
theorem zIb{o m:Nat}{es:List D}:∀ {E:Env},ziT o m E=some es->∃t,(t,AV.acc o es)∈E/\es.length=m:=by
 intro E
 induction E with
 | nil=>intro h;cases h
 | cons p l ih=>
  obtain⟨t,x⟩:=p;intro h
  cases x with
  | acc q es'=>
   simp only[ziT] at h
   split at h
   ·rename_i hc;obtain⟨rfl,hl⟩:=hc
    cases h;exact⟨t,.head _,hl⟩
   ·obtain⟨t',h1,h2⟩:=ih h;exact⟨t',.tail _ h1,h2⟩
  | _=>simp only[ziT] at h;obtain⟨t',h1,h2⟩:=ih h;exact⟨t',.tail _ h1,h2⟩
theorem Rel.recast {S:St} {a:Act} {w:World} {ι:Inj} {R:Nat->Prop} (h:Rel C S a w ι R) {o:Nat} {ob:Obj} {g:AV->AV} (hh:zam o S.heap=false)
    (hob:OB w R ι (mark (zF o ob S.heap)) o ob)
    (hg:∀x u,VA w R ι (mark S.heap) x u->(x.refs o=true->VA w R ι (mark (zF o ob S.heap)) (g x) u)/\(x.refs o=false->g x=x)):
    Rel C ⟨S.env.map fun p=>(p.1,g p.2),zF o ob S.heap⟩ a w ι R:=by
 have hst:∀p,p≠o->Step w w ι ι (mark S.heap) (mark (zF o ob S.heap)) p:=fun p hp=>Step.other rfl (zer hp) fun _ _ _=>rfl;refine { h with env:=fun t x hx=> ?_,heap:=fun q ob' hq=> ?_ }
 ·obtain⟨⟨t',y⟩,hm,he⟩:=zWP.1 hx
  cases he
  obtain⟨u,h1,h2⟩:=h.env t' y hm;refine⟨u,h1,?_⟩
  cases hr:y.refs o with
  | true=>exact (hg y u h2).1 hr
  | false=>
   show VA w R ι _ (g y) u;rw[(hg y u h2).2 hr];exact h2.mono (fun _ h=>h) (fun _ _=>rfl) fun p hp=>hst p fun e=>by subst e;rw[hr] at hp;cases hp
 ·rcases zg0 hq with hq2|⟨hq2,hne⟩
  ·cases hq2;exact hob
  ·exact (h.heap q ob' hq2).mono (fun _ h=>h) (fun _ _=>rfl) (fun _ _ hb=>⟨hb,rfl,fun h=>h⟩) (fun h=>h) fun p hp=>hst p fun e=>by
      rw[e] at hp;have:=zhy (l:=S.heap) hq2 hh;rw[hp] at this;cases this
theorem zPh{w:World}{R:Nat->Prop}{ι:Inj}{mk:Nat->Option Nat}{o:Nat}{x:AV}{u:Value}(hι:ι o=none)(hm:mk o=some 0)(h:VA w R ι mk x u):VA w R ι mk (zl7 o x) u:=by
 unfold zl7
 split
 ·split
  ·rename_i hp;subst hp
   cases h with
   | accR _ _ _ _ _ _ hlt=>have:=hlt 0 hm;simp at this
   | accC hι'=>rw[hι] at hι';cases hι'
   | acc0=>exact .xsl .sl0
  ·exact h
 ·exact h
theorem zPg{w:World}{R:Nat->Prop}{ι:Inj}{mk:Nat->Option Nat}{o:Nat}{x:AV}{u:Value}(h:VA w R ι mk x u):VA w R ι mk (zl6 o x) u:=by
 unfold zl6
 split
 ·split
  ·cases h<;>exact .d .sl0
  ·exact h
 ·exact h
theorem zPf{o:Nat}{E:Env}:zkw o E=E.map fun p=>(p.1,zl6 o p.2):=by
 induction E with
 | nil=>rfl
 | cons p l ih=>obtain⟨t,x⟩:=p;simp only[zkw,ih];rfl
theorem Rel.nilsO{S:St}{a:Act}{w:World}{ι:Inj}{R:Nat->Prop}(h:Rel C S a w ι R){o:Nat}:Rel C ⟨zkw o S.env,S.heap⟩ a w ι R:=by
 refine { h with env:=fun t x hx=> ?_ };rw[zPf] at hx;obtain⟨⟨t',y⟩,hm,he⟩:=zWP.1 hx
 cases he
 obtain⟨u,h1,h2⟩:=h.env t' y hm;exact⟨u,h1,zPg h2⟩
theorem zPe{o:Nat}{E:Env}:zib o E=E.map fun p=>(p.1,zl7 o p.2):=by
 induction E with
 | nil=>rfl
 | cons p l ih=>obtain⟨t,x⟩:=p;simp only[zib,ih];rfl
theorem Rel.nils{S:St}{a:Act}{w:World}{ι:Inj}{R:Nat->Prop}(h:Rel C S a w ι R){o:Nat}(hlk:look o S.heap=some (.acc 0)):Rel C ⟨zib o S.env,S.heap⟩ a w ι R:=by
 have hι:ι o=none:=by
  cases h.heap _ _ (zaq hlk) with
  | acc hpos=>exact absurd hpos (by decide)
  | accN hι=>exact hι
 have hmk:mark S.heap o=some 0:=by simp [mark,hlk]
 refine { h with env:=fun t x hx=> ?_ };rw[zPe] at hx;obtain⟨⟨t',y⟩,hm,he⟩:=zWP.1 hx
 cases he
 obtain⟨u,h1,h2⟩:=h.env t' y hm;exact⟨u,h1,zPh hι hmk h2⟩
theorem zPc{o:Nat}{x:AV}(h:x.cell=true):(zje o x).cell=true:=by
 unfold zje
 split
 ·split<;>rfl
 ·exact h
theorem zr0{o:Nat}:∀ {l:List AV},zl5 o l=l.map (zje o)
 | []=>rfl
 | x::l=>by simp only[zl5,zWD,zr0]
theorem zA0{o:Nat}:∀ {l:List AV},zkv o l=l.map (zku o)
 | []=>rfl
 | x::l=>by simp only[zkv,zWD,zA0]
theorem zA1{o q:Nat}{ob:Obj}:∀ {H:zf},(q,ob)∈zgn o H->∃ob0,(q,ob0)∈H/\ob=zoy o ob0
 | [],h=>by cases h
 | (q',ob')::l,h=>by
  simp only[zgn] at h
  cases h with
  | head=>exact⟨_,.head _,rfl⟩
  | tail _ h=>obtain⟨ob0,h1,h2⟩:=zA1 h;exact⟨ob0,.tail _ h1,h2⟩
theorem zAG{o q:Nat}:∀ {H:zf},look q (zgn o H)=(look q H).map (zoy o)
 | []=>rfl
 | (q',ob')::l=>by
  simp only[zgn,look]
  split
  ·rfl
  ·exact zAG
theorem zAP{o:Nat}{H:zf}:mark (zgn o H)=mark H:=funext fun p=>by
 unfold mark;rw[zAG]
 rcases look p H with _|(es|m|m|m)<;>rfl
theorem zPd{w:World}{R:Nat->Prop}{ι:Inj}{mk:Nat->Option Nat}{o:Nat}{x:AV}{u:Value}(hι:ι o=none)(hm:mk o=some 0)(h:VA w R ι mk x u):VA w R ι mk (zje o x) u:=by
 unfold zje
 split
 ·split
  ·rename_i hp;subst hp
   cases h with
   | accR _ _ _ _ _ _ hlt=>have:=hlt 0 hm;simp at this
   | accC hι'=>rw[hι] at hι';cases hι'
   | acc0=>exact .xsl .sl0
  ·exact h
 ·exact h
theorem Rel.nilsH{S:St}{a:Act}{w:World}{ι:Inj}{R:Nat->Prop}(h:Rel C S a w ι R){o:Nat}(hlk:look o S.heap=some (.acc 0)):Rel C ⟨zib o S.env,zgn o S.heap⟩ a w ι R:=by
 have h:=h.nils hlk;have hι:ι o=none:=by
  cases h.heap _ _ (zaq hlk) with
  | acc hpos=>exact absurd hpos (by decide)
  | accN hι=>exact hι
 have hmk:mark S.heap o=some 0:=by simp [mark,hlk]
 refine { h with env:=fun t x hx=> ?_,heap:=fun q ob hq=> ?_ }
 ·show ∃u,ze6 C a t=some u/\VA w R ι (mark (zgn o S.heap)) x u;rw[zAP];exact h.env t x hx
 ·show OB w R ι (mark (zgn o S.heap)) q ob;rw[zAP];obtain⟨ob0,h1,rfl⟩:=zA1 hq;have hob:=h.heap q ob0 h1
  cases ob0 with
  | acc n=>exact hob
  | frz n=>exact hob
  | mp n=>exact hob
  | row es=>
   cases hob with
   | row hι' hR hb hs0 hsz hc hel=>
    show OB w R ι _ q (.row (zkv o es));rw[zA0];have hsize:∀e:AV,(zku o e).size=e.size:=fun e=>by
     unfold zku
     split
     ·simp only[AV.size,zr0,zWM]
     ·rfl
    refine .row hι' hR hb hs0 (fun e he=> ?_) (by rw[zWM];exact hc) fun i e hi j x hj=> ?_
    ·obtain⟨e0,he0,rfl⟩:=zWP.1 he;rw[hsize];exact hsz e0 he0
    ·rw[zWT] at hi;obtain⟨e0,he0,rfl⟩:=zWC.1 hi;unfold zku at hj
     split at hj
     ·rename_i cs;simp only[AV.cells,zr0,zWT] at hj;obtain⟨x0,hx0,rfl⟩:=zWC.1 hj;obtain⟨k1,qv,k2,k3⟩:=hel i _ he0 j x0 hx0;exact⟨zPc k1,qv,k2,zPd hι hmk k3⟩
     ·exact hel i _ he0 j x hj
theorem zSt{o m:Nat}{x:AV}:(zdn o m x).size=x.size:=by
 unfold zdn
 split
 ·split<;>rfl
 ·rfl
theorem zSs{o m:Nat}{x:AV}(h:x.cell=true):(zdn o m x).cell=true:=by
 unfold zdn
 split
 ·split<;>rfl
 ·exact h
theorem zsz{o m:Nat}:∀ {l:List AV},zmA o m l=l.map (zdn o m)
 | []=>rfl
 | x::l=>by simp only[zmA,zWD,zsz]
theorem zo0{o m:Nat}:∀ {l:List AV},zkP o m l=l.map (zin o m)
 | []=>rfl
 | x::l=>by simp only[zkP,zWD,zo0]
theorem zA9{o m:Nat}{x:AV}:∀ {l:List AV},zma o m l=true->x∈l->okC o m x=true
 | [],_,h=>by cases h
 | y::l,hk,h=>by
  simp only[zma,zWS] at hk
  cases h with
  | head=>exact hk.1
  | tail _ h=>exact zA9 hk.2 h
theorem zBa{o m:Nat}{x:AV}:∀ {l:List AV},zkA o m l=true->x∈l->okE o m x=true
 | [],_,h=>by cases h
 | y::l,hk,h=>by
  simp only[zkA,zWS] at hk
  cases h with
  | head=>exact hk.1
  | tail _ h=>exact zBa hk.2 h
theorem zSv{o m:Nat}{x:AV}:(zin o m x).size=x.size:=by
 unfold zin
 split
 ·simp only[AV.size,zsz,zWM]
 ·exact zSt
theorem zSu{o m:Nat}{e x':AV}{j:Nat}(hk:okE o m e=true)(h:(zin o m e).cells[j]? = some x'):∃x,e.cells[j]? = some x/\okC o m x=true/\x'=zdn o m x:=by
 have one:∀e:AV,e.cells=[e]->okC o m e=true->(zdn o m e).cells=[zdn o m e]->(zdn o m e).cells[j]? = some x'->∃x,e.cells[j]? = some x/\okC o m x=true/\x'=zdn o m x:=by
  intro e h1 h2 h3 h4;rw[h3] at h4
  match j,h4 with
  | 0,h4=>simp at h4;subst h4;exact⟨e,by rw[h1];rfl,h2,rfl⟩
  | n+1,h4=>simp at h4
 cases e with
 | agg cs=>
  simp only[zin,AV.cells,zsz,zWT] at h;obtain⟨x,h1,h2⟩:=zWC.1 h;exact⟨x,h1,zA9 hk (zWX h1),h2.symm⟩
 | d y=>
  simp only[zin,zdn,AV.cells,zWT] at h;obtain⟨c,h1,h2⟩:=zWC.1 h;subst h2;exact⟨.d c,by simp [AV.cells,h1],rfl,rfl⟩
 | acc p es=>exact one _ rfl hk (by unfold zdn;simp only;split<;>rfl) h
 | ref p i f=>exact one _ rfl hk rfl h
 | osl p i f=>exact one _ rfl hk rfl h
 | pe p i=>exact one _ rfl hk rfl h
 | xsl p=>exact one _ rfl hk rfl h
 | tup p=>exact one _ rfl hk rfl h
 | fn p i=>exact one _ rfl hk rfl h
 | nl p=>exact one _ rfl hk rfl h
 | mpr p=>exact one _ rfl hk rfl h
 | undef=>exact one _ rfl hk rfl h
def zBX(o m:Nat):Obj->Obj
 | .row es=> .row (zkP o m es)
 | x=>x
theorem zmC{o m:Nat}{q:Nat}{ob:Obj}:∀ {H:zf},zgp o m H=true->(q,ob)∈zcW o m H->∃ob0,(q,ob0)∈H/\ob=zBX o m ob0/\(∀es,ob0= .row es->zkA o m es=true)
 | [],_,h=>by cases h
 | (q',.row es)::l,hk,h=>by
  simp only[zgp,zWS] at hk;simp only[zcW] at h
  cases h with
  | head=>exact⟨_,.head _,rfl,fun es' e=>by cases e;exact hk.1⟩
  | tail _ h=>obtain⟨ob0,h1,h2,h3⟩:=zmC hk.2 h;exact⟨ob0,.tail _ h1,h2,h3⟩
 | (q',.acc n)::l,hk,h=>by
  simp only[zgp] at hk;simp only[zcW] at h
  cases h with
  | head=>exact⟨_,.head _,rfl,fun es' e=>by cases e⟩
  | tail _ h=>obtain⟨ob0,h1,h2,h3⟩:=zmC hk h;exact⟨ob0,.tail _ h1,h2,h3⟩
 | (q',.frz n)::l,hk,h=>by
  simp only[zgp] at hk;simp only[zcW] at h
  cases h with
  | head=>exact⟨_,.head _,rfl,fun es' e=>by cases e⟩
  | tail _ h=>obtain⟨ob0,h1,h2,h3⟩:=zmC hk h;exact⟨ob0,.tail _ h1,h2,h3⟩
 | (q',.mp n)::l,hk,h=>by
  simp only[zgp] at hk;simp only[zcW] at h
  cases h with
  | head=>exact⟨_,.head _,rfl,fun es' e=>by cases e⟩
  | tail _ h=>obtain⟨ob0,h1,h2,h3⟩:=zmC hk h;exact⟨ob0,.tail _ h1,h2,h3⟩
theorem zl2{o m q:Nat}:∀ {H:zf},mark (zcW o m H) q=mark H q
 | []=>rfl
 | (q',.row es)::l=>by
  have ih:=zl2 (o:=o) (m:=m) (q:=q) (H:=l);unfold mark at ih ⊢;simp only[zcW,Go.Sim.look]
  by_cases h:q'=q
  ·rw[zWz h,zWz h]
  ·rw[zWy h,zWy h];exact ih
 | (q',.acc n)::l=>by
  have ih:=zl2 (o:=o) (m:=m) (q:=q) (H:=l);unfold mark at ih ⊢;simp only[zcW,Go.Sim.look]
  by_cases h:q'=q
  ·rw[zWz h,zWz h]
  ·rw[zWy h,zWy h];exact ih
 | (q',.frz n)::l=>by
  have ih:=zl2 (o:=o) (m:=m) (q:=q) (H:=l);unfold mark at ih ⊢;simp only[zcW,Go.Sim.look]
  by_cases h:q'=q
  ·rw[zWz h,zWz h]
  ·rw[zWy h,zWy h];exact ih
 | (q',.mp n)::l=>by
  have ih:=zl2 (o:=o) (m:=m) (q:=q) (H:=l);unfold mark at ih ⊢;simp only[zcW,Go.Sim.look]
  by_cases h:q'=q
  ·rw[zWz h,zWz h]
  ·rw[zWy h,zWy h];exact ih
theorem zme{α:Type}{x y:Option α}{a:α}(h:orE x y=some a):y=some a\/x=some a:=by
 cases y with
 | some b=>exact .inl h
 | none=>exact .inr h
theorem ziU{o m:Nat}{es:List D}:∀ {l:List AV},zhU o m l=some es->AV.acc o es∈l/\es.length=m
 | [],h=>by cases h
 | x::l,h=>by
  cases x with
  | acc q es'=>
   simp only[zhU] at h
   split at h
   ·rename_i hc;obtain⟨rfl,hl⟩:=hc
    cases h;exact⟨.head _,hl⟩
   ·exact⟨.tail _ (ziU h).1,(ziU h).2⟩
  | _=>simp only[zhU] at h;exact⟨.tail _ (ziU h).1,(ziU h).2⟩
theorem znz{o m:Nat}{es:List D}:∀ {l:List AV},zhV o m l=some es->∃e∈l,∃j:Nat,e.cells[j]? = some (AV.acc o es)/\es.length=m
 | [],h=>by cases h
 | x::l,h=>by
  cases x with
  | agg cs=>
   simp only[zhV] at h
   rcases zme h with h|h
   ·obtain⟨h1,h2⟩:=ziU h;obtain⟨j,hj⟩:=zXn h1;exact⟨_,.head _,j,hj,h2⟩
   ·obtain⟨e,h1,h2⟩:=znz h;exact⟨e,.tail _ h1,h2⟩
  | acc p es'=>
   simp only[zhV] at h
   rcases zme h with h|h
   ·obtain⟨h1,h2⟩:=ziU h;simp only[zW7] at h1;exact⟨_,.head _,0,by rw[<- h1];rfl,h2⟩
   ·obtain⟨e,h1,h2⟩:=znz h;exact⟨e,.tail _ h1,h2⟩
  | _=>
   simp only[zhV] at h
   rcases zme h with h|h
   ·obtain⟨h1,h2⟩:=ziU h;simp at h1
   ·obtain⟨e,h1,h2⟩:=znz h;exact⟨e,.tail _ h1,h2⟩
theorem zlv{o m:Nat}{es:List D}:∀ {H:zf},zgg o m H=some es->∃q fs,(q,Obj.row fs)∈H/\∃e∈fs,∃j:Nat,e.cells[j]? = some (AV.acc o es)/\es.length=m
 | [],h=>by cases h
 | (q,.row fs)::l,h=>by
  simp only[zgg] at h
  rcases zme h with h|h
  ·exact⟨q,fs,.head _,znz h⟩
  ·obtain⟨q,fs,h1,h2⟩:=zlv h;exact⟨q,fs,.tail _ h1,h2⟩
 | (q,.acc n)::l,h=>by
  simp only[zgg] at h;obtain⟨q,fs,h1,h2⟩:=zlv h;exact⟨q,fs,.tail _ h1,h2⟩
 | (q,.frz n)::l,h=>by
  simp only[zgg] at h;obtain⟨q,fs,h1,h2⟩:=zlv h;exact⟨q,fs,.tail _ h1,h2⟩
 | (q,.mp n)::l,h=>by
  simp only[zgg] at h;obtain⟨q,fs,h1,h2⟩:=zlv h;exact⟨q,fs,.tail _ h1,h2⟩
theorem zVH{o:Nat}{S S':St}{a:Act}{w:World}{ι:Inj}{R:Nat->Prop}(hs:zpk o S=some S')(h:Rel C S a w ι R):Rel C S' a w ι R:=by
 unfold zpk at hs;generalize hlk:look o S.heap=q at hs;unfold zta at hs
 split at hs
 ·rename_i m
  split at hs
  ·rename_i hm0;subst hm0;unfold zr1 at hs
   split at hs
   ·cases hs;exact h.nils hlk
   ·cases hs;exact h.nilsH hlk
  rename_i hm0;generalize hes:zny o m S.env S.heap=qe at hs;unfold ztb at hs
  split at hs
  ·rename_i es;rw[zWz hm0] at hs;have hmk:mark S.heap o=some m:=by simp [mark,hlk]
   have hvl:es.length=m/\∃u,VA w R ι (mark S.heap) (.acc o es) u:=by
    unfold zny at hes
    rcases zme hes with hes|hes
    ·obtain⟨t,ht,hl⟩:=zIb hes;obtain⟨u,_,hv⟩:=h.env t _ ht;exact⟨hl,u,hv⟩
    ·obtain⟨q,fs,hq,e,he,j,hj,hl⟩:=zlv hes;obtain⟨i,hi⟩:=zXn he
     cases h.heap _ _ hq with
     | row _ _ _ _ _ _ hel=>
      obtain⟨_,qv,_,hv⟩:=hel i e hi j _ hj;exact⟨hl,qv,hv⟩
   obtain⟨hl,u,hv⟩:=hvl;have hob:=h.heap _ _ (zaq hlk);have key:∀mk':Nat->Option Nat,mk' o=none->((∀p,p≠o->mk' p=mark S.heap p)->OB w R ι mk' o (.row (es.map .d)))/\∀(es':List D) (u:Value),es'.length=m->VA w R ι (mark S.heap) (.acc o es') u->VA w R ι mk' (.osl o 0 m) u:=by
    intro mk' hmk';refine⟨fun _=> ?_,fun es' u hlen hx=> ?_⟩
    ·cases hv with
     | accR _ _ _ _ _ _ hlt=>have:=hlt m hmk;omega
     | acc0=>simp at hl;exact absurd hl.symm hm0
     | @accC _ b s m' cap _ c T hι hmk2 _ hL hcap hsz hb hc hel=>
      cases hob with
      | accN hι'=>rw[hι] at hι';cases hι'
      | acc _ hι' hR hb' hs0 _=>
       rw[hι] at hι';cases hι';refine .row hι hR hb hs0 (fun e he=> ?_) ?_ fun i e hi j x hj=> ?_
       ·obtain⟨d,hd,rfl⟩:=zWP.1 he;exact hsz d hd
       ·rw[zWM];exact zXo (zXj _ hcap) hc
       ·rw[zWT] at hi;obtain⟨d,hd,rfl⟩:=zWC.1 hi;simp only[AV.cells,zWT] at hj;obtain⟨cd,hcd,rfl⟩:=zWC.1 hj;obtain⟨k1,q,k2,k3⟩:=(hel i d hd).v_of_cells j cd hcd;exact⟨k1,q,by rw[zcD hb] at k2;exact k2,.d k3⟩
    ·cases hx with
     | accR _ _ _ _ _ _ hlt=>have:=hlt m hmk;omega
     | acc0=>simp at hlen;exact absurd hlen.symm hm0
     | @accC _ b s m' cap _ c T hι hmk2 _ hL hcap hsz hb hc hel=>
      have:=VA.osl (w:=w) (R:=R) (mk:=mk') (off:=0) (len:=es'.length) (cap:=cap) hι hmk' hb hcap (by simpa using hc) hL;simp only[zZc] at this;rw[hlen] at this ⊢;exact this
   unfold ztc at hs
   by_cases hh:zam o S.heap=false
   ·rw[zWz hh] at hs
    cases hs
    have hmk':mark (zF o (.row (es.map .d)) S.heap) o=none:=by rw[zeq]
    have hk:=key _ hmk';refine h.recast (g:=zgX o m) hh (hk.1 fun p hp=>zer hp) fun x u hx=>⟨fun hr=> ?_,fun hr=> ?_⟩
    ·unfold zgX
     split
     ·rename_i p es';have hp:p=o:=by simpa [AV.refs] using hr
      rw[zWz hp];subst hp
      split
      ·rename_i hlen;exact hk.2 _ _ hlen hx
      ·exact .undef
     ·rw[zWz hr];exact .undef
    ·unfold zgX
     split
     ·rename_i p es';have hp:¬p=o:=by simpa [AV.refs] using hr
      rw[zWy hp]
     ·rw[zWy (by simp [hr])]
   ·rw[zWy hh] at hs
    split at hs
    rotate_left
    ·cases hs
    rename_i hokh
    cases hs
    have hmn:∀p,p≠o->mark (zF o (.row (es.map .d)) (zcW o m S.heap)) p=mark S.heap p:=fun p hp=>by rw[zer hp,zl2]
    have hmk':mark (zF o (.row (es.map .d)) (zcW o m S.heap)) o=none:=by rw[zeq]
    have hk:=key _ hmk';have hst:∀p,p≠o->Step w w ι ι (mark S.heap) (mark (zF o (.row (es.map .d)) (zcW o m S.heap))) p:=fun p hp=>Step.other rfl (hmn p hp) fun _ _ _=>rfl;have hkeep:∀(x:AV) (u:Value),x.refs o=false->VA w R ι (mark S.heap) x u->VA w R ι (mark (zF o (.row (es.map .d)) (zcW o m S.heap))) x u:=fun x u hr hx=>
     hx.mono (fun _ h=>h) (fun _ _=>rfl) fun p hp=>hst p fun e=>by subst e;rw[hr] at hp;cases hp
    refine { h with env:=fun t x hx=> ?_,heap:=fun q ob' hq=> ?_ }
    ·obtain⟨⟨t',y⟩,hm,he⟩:=zWP.1 hx
     cases he
     obtain⟨u,h1,h2⟩:=h.env t' y hm;refine⟨u,h1,?_⟩;show VA w R ι _ (zgX o m y) u
     cases hr:y.refs o with
     | true=>
      unfold zgX
      split
      ·rename_i p es';have hp:p=o:=by simpa [AV.refs] using hr
       rw[zWz hp];subst hp
       split
       ·rename_i hlen;exact hk.2 _ _ hlen h2
       ·exact .undef
      ·rw[zWz hr];exact .undef
     | false=>
      have:zgX o m y=y:=by
       unfold zgX
       split
       ·rename_i p es';have hp:¬p=o:=by simpa [AV.refs] using hr
        rw[zWy hp]
       ·rw[zWy (by simp [hr])]
      rw[this];exact hkeep _ _ hr h2
    ·rcases zg0 hq with hq2|⟨hq2,hne⟩
     ·cases hq2;exact hk.1 hmn
     ·obtain⟨ob0,hm0',hob',hrow⟩:=zmC hokh hq2;subst hob';have hob0:=h.heap q ob0 hm0'
      cases ob0 with
      | acc n=>exact hob0.mono (fun _ h=>h) (fun _ _=>rfl) (fun _ _ hb=>⟨hb,rfl,fun h=>h⟩) (fun h=>h) fun p hp=>by simp [Obj.refs] at hp
      | frz n=>exact hob0.mono (fun _ h=>h) (fun _ _=>rfl) (fun _ _ hb=>⟨hb,rfl,fun h=>h⟩) (fun h=>h) fun p hp=>by simp [Obj.refs] at hp
      | mp n=>exact hob0.mono (fun _ h=>h) (fun _ _=>rfl) (fun _ _ hb=>⟨hb,rfl,fun h=>h⟩) (fun h=>h) fun p hp=>by simp [Obj.refs] at hp
      | row fs=>
       have hoke:=hrow fs rfl;simp only[zBX]
       cases hob0 with
       | row hι hR hb hs0 hsz hc hel=>
        refine .row hι hR hb hs0 (fun e he=> ?_) (by rw[zo0,zWM];exact hc) fun i e hi j x hj=> ?_
        ·rw[zo0] at he;obtain⟨e0,he0,rfl⟩:=zWP.1 he;rw[zSv];exact hsz e0 he0
        ·rw[zo0,zWT] at hi;obtain⟨e0,he0,rfl⟩:=zWC.1 hi;obtain⟨x0,hx0,hkc,rfl⟩:=zSu (zBa hoke (zWX he0)) hj;obtain⟨k1,qv,k2,k3⟩:=hel i e0 he0 j x0 hx0;refine⟨zSs k1,qv,k2,?_⟩
         by_cases hacc:∃es',x0= .acc o es'
         ·obtain⟨es',rfl⟩:=hacc;simp only[okC,if_true,beq_iff_eq] at hkc;simp only[zdn,if_true];exact hk.2 _ _ hkc k3
         ·have hr:x0.refs o=false/\zdn o m x0=x0:=by
             cases x0 with
             | acc p es'=>
              have hp:¬p=o:=fun e=>hacc ⟨es',by rw[e]⟩;exact⟨by simpa [AV.refs] using hp,by simp only[zdn,zWy hp]⟩
             | _=>exact⟨by simpa [okC] using hkc,rfl⟩
          rw[hr.2];exact hkeep _ _ hr.1 k3
  ·cases hs
 ·cases hs;exact h
 ·cases hs;exact h
 ·cases hs;exact h
 ·cases hs;exact h
theorem zDf{o:Nat}{ds:List D}{x:AV}:(acA o ds x).size=x.size:=by
 unfold acA
 split
 ·split<;>rfl
 ·rfl
theorem zDe{o:Nat}{ds:List D}{x:AV}(h:x.cell=true):(acA o ds x).cell=true:=by
 unfold acA
 split
 ·split<;>rfl
 ·exact h
theorem zpv{o:Nat}{ds:List D}:∀ {l:List AV},zla o ds l=l.map (acA o ds)
 | []=>rfl
 | x::l=>by simp only[zla,zWD,zpv]
theorem zm3{o:Nat}{ds:List D}:∀ {l:List AV},zjG o ds l=l.map (zhI o ds)
 | []=>rfl
 | x::l=>by simp only[zjG,zWD,zm3]
theorem zA8{o m:Nat}{x:AV}:∀ {l:List AV},zl9 o m l=true->x∈l->okA o m x=true
 | [],_,h=>by cases h
 | y::l,hk,h=>by
  simp only[zl9,zWS] at hk
  cases h with
  | head=>exact hk.1
  | tail _ h=>exact zA8 hk.2 h
theorem zA7{o m:Nat}{x:AV}:∀ {l:List AV},zkz o m l=true->x∈l->zoA o m x=true
 | [],_,h=>by cases h
 | y::l,hk,h=>by
  simp only[zkz,zWS] at hk
  cases h with
  | head=>exact hk.1
  | tail _ h=>exact zA7 hk.2 h
theorem zDh{o:Nat}{ds:List D}{x:AV}:(zhI o ds x).size=x.size:=by
 unfold zhI
 split
 ·simp only[AV.size,zpv,zWM]
 ·exact zDf
theorem zDg{o m:Nat}{ds:List D}{e x':AV}{j:Nat}(hk:zoA o m e=true)(h:(zhI o ds e).cells[j]? = some x'):∃x,e.cells[j]? = some x/\okA o m x=true/\x'=acA o ds x:=by
 have one:∀e:AV,e.cells=[e]->okA o m e=true->(acA o ds e).cells=[acA o ds e]->(acA o ds e).cells[j]? = some x'->∃x,e.cells[j]? = some x/\okA o m x=true/\x'=acA o ds x:=by
  intro e h1 h2 h3 h4;rw[h3] at h4
  match j,h4 with
  | 0,h4=>simp at h4;subst h4;exact⟨e,by rw[h1];rfl,h2,rfl⟩
  | n+1,h4=>simp at h4
 cases e with
 | agg cs=>
  simp only[zhI,AV.cells,zpv,zWT] at h;obtain⟨x,h1,h2⟩:=zWC.1 h;exact⟨x,h1,zA8 hk (zWX h1),h2.symm⟩
 | d y=>
  simp only[zhI,acA,AV.cells,zWT] at h;obtain⟨c,h1,h2⟩:=zWC.1 h;subst h2;exact⟨.d c,by simp [AV.cells,h1],rfl,rfl⟩
 | osl p i f=>exact one _ rfl hk (by unfold acA;simp only;split<;>rfl) h
 | ref p i f=>exact one _ rfl hk rfl h
 | acc p i=>exact one _ rfl hk rfl h
 | pe p i=>exact one _ rfl hk rfl h
 | xsl p=>exact one _ rfl hk rfl h
 | tup p=>exact one _ rfl hk rfl h
 | fn p i=>exact one _ rfl hk rfl h
 | nl p=>exact one _ rfl hk rfl h
 | mpr p=>exact one _ rfl hk rfl h
 | undef=>exact one _ rfl hk rfl h
def ztw(o:Nat)(ds:List D):Obj->Obj
 | .row es=> .row (zjG o ds es)
 | x=>x
theorem zk9{o m:Nat}{ds:List D}{q:Nat}{ob:Obj}:∀ {H:zf},zgo o m H=true->(q,ob)∈zcB o ds H->∃ob0,(q,ob0)∈H/\ob=ztw o ds ob0/\(∀es,ob0= .row es->zkz o m es=true)
 | [],_,h=>by cases h
 | (q',.row es)::l,hk,h=>by
  simp only[zgo,zWS] at hk;simp only[zcB] at h
  cases h with
  | head=>exact⟨_,.head _,rfl,fun es' e=>by cases e;exact hk.1⟩
  | tail _ h=>obtain⟨ob0,h1,h2,h3⟩:=zk9 hk.2 h;exact⟨ob0,.tail _ h1,h2,h3⟩
 | (q',.acc n)::l,hk,h=>by
  simp only[zgo] at hk;simp only[zcB] at h
  cases h with
  | head=>exact⟨_,.head _,rfl,fun es' e=>by cases e⟩
  | tail _ h=>obtain⟨ob0,h1,h2,h3⟩:=zk9 hk h;exact⟨ob0,.tail _ h1,h2,h3⟩
 | (q',.frz n)::l,hk,h=>by
  simp only[zgo] at hk;simp only[zcB] at h
  cases h with
  | head=>exact⟨_,.head _,rfl,fun es' e=>by cases e⟩
  | tail _ h=>obtain⟨ob0,h1,h2,h3⟩:=zk9 hk h;exact⟨ob0,.tail _ h1,h2,h3⟩
 | (q',.mp n)::l,hk,h=>by
  simp only[zgo] at hk;simp only[zcB] at h
  cases h with
  | head=>exact⟨_,.head _,rfl,fun es' e=>by cases e⟩
  | tail _ h=>obtain⟨ob0,h1,h2,h3⟩:=zk9 hk h;exact⟨ob0,.tail _ h1,h2,h3⟩
theorem zl1{o q:Nat}{ds:List D}:∀ {H:zf},mark (zcB o ds H) q=mark H q
 | []=>rfl
 | (q',.row es)::l=>by
  have ih:=zl1 (o:=o) (ds:=ds) (q:=q) (H:=l);unfold mark at ih ⊢;simp only[zcB,Go.Sim.look]
  by_cases h:q'=q
  ·rw[zWz h,zWz h]
  ·rw[zWy h,zWy h];exact ih
 | (q',.acc n)::l=>by
  have ih:=zl1 (o:=o) (ds:=ds) (q:=q) (H:=l);unfold mark at ih ⊢;simp only[zcB,Go.Sim.look]
  by_cases h:q'=q
  ·rw[zWz h,zWz h]
  ·rw[zWy h,zWy h];exact ih
 | (q',.frz n)::l=>by
  have ih:=zl1 (o:=o) (ds:=ds) (q:=q) (H:=l);unfold mark at ih ⊢;simp only[zcB,Go.Sim.look]
  by_cases h:q'=q
  ·rw[zWz h,zWz h]
  ·rw[zWy h,zWy h];exact ih
 | (q',.mp n)::l=>by
  have ih:=zl1 (o:=o) (ds:=ds) (q:=q) (H:=l);unfold mark at ih ⊢;simp only[zcB,Go.Sim.look]
  by_cases h:q'=q
  ·rw[zWz h,zWz h]
  ·rw[zWy h,zWy h];exact ih
theorem zVB{o:Nat}{S S':St}{a:Act}{w:World}{ι:Inj}{R:Nat->Prop}(hs:zph o S=some S')(h:Rel C S a w ι R):Rel C S' a w ι R:=by
 unfold zph at hs;generalize hlk:look o S.heap=q at hs;unfold zs3 at hs
 split at hs
 ·rename_i es;generalize hds:zbH es=qe at hs;unfold zs4 at hs
  split at hs
  ·rename_i ds
   split at hs
   ·cases hs;exact h.nilsO
   rename_i hne0
   split at hs
   rotate_left
   ·rename_i hc0;unfold zs5 at hs
    split at hs
    rotate_left
    ·cases hs
    rename_i hokh
    cases hs
    have hesd:=zhJ hds;have hmn:∀p,p≠o->mark (zF o (.acc ds.length) (zcB o ds S.heap)) p=mark S.heap p:=fun p hp=>by rw[zer hp,zl1]
    have hmk':mark (zF o (.acc ds.length) (zcB o ds S.heap)) o=some ds.length:=by rw[zeq]
    have hdn:ds≠[]:=by rintro rfl;exact hne0 hesd
    have hst:∀p,p≠o->Step w w ι ι (mark S.heap) (mark (zF o (.acc ds.length) (zcB o ds S.heap))) p:=fun p hp=>Step.other rfl (hmn p hp) fun _ _ _=>rfl;have hkeep:∀(x:AV) (u:Value),x.refs o=false->VA w R ι (mark S.heap) x u->VA w R ι (mark (zF o (.acc ds.length) (zcB o ds S.heap))) x u:=fun x u hr hx=>
     hx.mono (fun _ h=>h) (fun _ _=>rfl) fun p hp=>hst p fun e=>by subst e;rw[hr] at hp;cases hp
    cases h.heap _ _ (zaq hlk) with
    | @row _ b s c T hι hR hb hs0 hsz hc hel=>
     have hrd:∀(i:Nat) (d:D),ds[i]? = some d->Rd w R (.el d b (i * s)):=fun i d hi=>by
      have hei:es[i]? = some (.d d):=by rw[hesd];simp [hi]
      refine Rd.el_of_cells (fun vs hvs=> ?_) fun j cd hj=> ?_
      ·subst hvs;have:=(hel i _ hei 0 (.d (.tup vs)) rfl).1;simp [AV.cell,D.cell] at this
      ·obtain⟨k1,q,k2,k3⟩:=hel i _ hei j (.d cd) (by simp [AV.cells,hj]);exact⟨k1,q,by rw[zcD hb];exact k2,k3.of_d⟩
     have hsz':∀d∈ds,d.size=s:=fun d hd=>hsz (.d d) (by rw[hesd];exact zYK hd);have key:∀u,VA w R ι (mark S.heap) (.osl o 0 ds.length) u->VA w R ι (mark (zF o (.acc ds.length) (zcB o ds S.heap))) (.acc o ds) u:=fun u hx=>by
      generalize hlen:ds.length=n at hx hmk'
      cases hx with
      | osl0=>exact absurd (zXk.1 hlen) hdn
      | @osl _ _ _ cap b' s' c' T' hι' hmk2 hb' hcap hc' hL=>
       rw[hι] at hι';cases hι';rw[hb] at hb';cases hb';subst hlen;rw[zZc];exact .accC hι hmk' (zW5 _) hL hcap hsz' hb (by simpa using hc') hrd
     refine { h with env:=fun t x hx=> ?_,heap:=fun q ob' hq=> ?_ }
     ·obtain⟨⟨t',y⟩,hm,he⟩:=zWP.1 hx
      cases he
      obtain⟨u,h1,h2⟩:=h.env t' y hm;refine⟨u,h1,?_⟩;show VA w R ι _ (zgz o ds y) u
      cases hr:y.refs o with
      | true=>
       unfold zgz
       split
       ·rename_i p off len;have hp:p=o:=by simpa [AV.refs] using hr
        rw[zWz hp];subst hp
        split
        ·rename_i hcc;obtain⟨rfl,rfl⟩:=hcc;exact key _ h2
        ·exact .undef
       ·rw[zWz hr];exact .undef
      | false=>
       have:zgz o ds y=y:=by
        unfold zgz
        split
        ·rename_i p off len;have hp:¬p=o:=by simpa [AV.refs] using hr
         rw[zWy hp]
        ·rw[zWy (by simp [hr])]
       rw[this];exact hkeep _ _ hr h2
     ·rcases zg0 hq with hq2|⟨hq2,hne⟩
      ·cases hq2
       refine .acc (zX6.2 hdn) hι hR hb hs0 ?_;rw[hesd] at hc;simpa using hc
      ·obtain⟨ob0,hm0',hob',hrow⟩:=zk9 hokh hq2;subst hob';have hob0:=h.heap q ob0 hm0'
       cases ob0 with
       | acc n=>exact hob0.mono (fun _ h=>h) (fun _ _=>rfl) (fun _ _ hb=>⟨hb,rfl,fun h=>h⟩) (fun h=>h) fun p hp=>by simp [Obj.refs] at hp
       | frz n=>exact hob0.mono (fun _ h=>h) (fun _ _=>rfl) (fun _ _ hb=>⟨hb,rfl,fun h=>h⟩) (fun h=>h) fun p hp=>by simp [Obj.refs] at hp
       | mp n=>exact hob0.mono (fun _ h=>h) (fun _ _=>rfl) (fun _ _ hb=>⟨hb,rfl,fun h=>h⟩) (fun h=>h) fun p hp=>by simp [Obj.refs] at hp
       | row fs=>
        have hoke:=hrow fs rfl;simp only[ztw]
        cases hob0 with
        | row hι hR hb hs0 hsz hc hel=>
         refine .row hι hR hb hs0 (fun e he=> ?_) (by rw[zm3,zWM];exact hc) fun i e hi j x hj=> ?_
         ·rw[zm3] at he;obtain⟨e0,he0,rfl⟩:=zWP.1 he;rw[zDh];exact hsz e0 he0
         ·rw[zm3,zWT] at hi;obtain⟨e0,he0,rfl⟩:=zWC.1 hi;obtain⟨x0,hx0,hkc,rfl⟩:=zDg (zA7 hoke (zWX he0)) hj;obtain⟨k1,qv,k2,k3⟩:=hel i e0 he0 j x0 hx0;refine⟨zDe k1,qv,k2,?_⟩
          by_cases hacc:∃i n,x0= .osl o i n
          ·obtain⟨i',n',rfl⟩:=hacc;simp only[okA,if_true,zWS,beq_iff_eq] at hkc;obtain⟨rfl,rfl⟩:=hkc;simp only[acA,if_true];exact key _ k3
          ·have hr:x0.refs o=false/\acA o ds x0=x0:=by
              cases x0 with
              | osl p i' n'=>
               have hp:¬p=o:=fun e=>hacc ⟨i',n',by rw[e]⟩;exact⟨by simpa [AV.refs] using hp,by simp only[acA,zWy hp]⟩
              | _=>exact⟨by simpa [okA] using hkc,rfl⟩
           rw[hr.2];exact hkeep _ _ hr.1 k3
   rename_i hc;obtain⟨hne,hh⟩:=hc
   cases hs
   have hesd:=zhJ hds;have hmk':mark (zF o (.acc ds.length) S.heap) o=some ds.length:=by rw[zeq]
   have hdn:ds≠[]:=by rintro rfl;exact hne hesd
   cases h.heap _ _ (zaq hlk) with
   | @row _ b s c T hι hR hb hs0 hsz hc hel=>
    have hrd:∀(i:Nat) (d:D),ds[i]? = some d->Rd w R (.el d b (i * s)):=fun i d hi=>by
     have hei:es[i]? = some (.d d):=by rw[hesd];simp [hi]
     refine Rd.el_of_cells (fun vs hvs=> ?_) fun j cd hj=> ?_
     ·subst hvs;have:=(hel i _ hei 0 (.d (.tup vs)) rfl).1;simp [AV.cell,D.cell] at this
     ·obtain⟨k1,q,k2,k3⟩:=hel i _ hei j (.d cd) (by simp [AV.cells,hj]);exact⟨k1,q,by rw[zcD hb];exact k2,k3.of_d⟩
    have hsz':∀d∈ds,d.size=s:=fun d hd=>hsz (.d d) (by rw[hesd];exact zYK hd);refine h.recast (g:=zgz o ds) hh ?_ fun x u hx=>⟨fun hr=> ?_,fun hr=> ?_⟩
    ·refine .acc (zX6.2 hdn) hι hR hb hs0 ?_;rw[hesd] at hc;simpa using hc
    ·unfold zgz
     split
     ·rename_i p off len;have hp:p=o:=by simpa [AV.refs] using hr
      rw[zWz hp];subst hp
      split
      ·rename_i hcc;obtain⟨rfl,rfl⟩:=hcc;generalize hlen:ds.length=n at hx hmk'
       cases hx with
       | osl0=>exact absurd (zXk.1 hlen) hdn
       | @osl _ _ _ cap b' s' c' T' hι' hmk2 hb' hcap hc' hL=>
        rw[hι] at hι';cases hι';rw[hb] at hb';cases hb';subst hlen;rw[zZc];exact .accC hι hmk' (zW5 _) hL hcap hsz' hb (by simpa using hc') hrd
      ·exact .undef
     ·rw[zWz hr];exact .undef
    ·unfold zgz
     split
     ·rename_i p off len;have hp:¬p=o:=by simpa [AV.refs] using hr
      rw[zWy hp]
     ·rw[zWy (by simp [hr])]
  ·cases hs
 ·cases hs;exact h
 ·cases hs;exact h
 ·cases hs;exact h
 ·cases hs;exact h
theorem zSq{o o' a b:Nat}(ha:a≠o')(hb:b≠o')(h:rnm o o' a=rnm o o' b):a=b:=by
 unfold rnm at h
 split at h<;>split at h
 ·rename_i h1 h2;rw[h1,h2]
 ·exact absurd h.symm hb
 ·exact absurd h ha
 ·exact h
theorem zVG{o o':Nat}{S S':St}{a:Act}{w:World}{ι:Inj}{R:Nat->Prop}(hs:zpj o o' S=some S')(h:Rel C S a w ι R):∃ι',Rel C S' a w ι' R:=by
 unfold zpj at hs;generalize hlk:look o S.heap=q at hs
 cases q with
 | none=>cases hs;exact⟨ι,h⟩
 | some ob=>
  simp only[zs9] at hs
  split at hs
  ·rename_i hc;obtain⟨hn,he,hh⟩:=hc
   cases hs
   have hn':look o' S.heap=none:=by simpa using hn
   have hmk:∀n,n≠o'->mark (zdL (rnm o o') S.heap) (rnm o o' n)=mark S.heap n:=by
    intro n hno;unfold mark;rw[zAH fun m hm e=>zSq (fun e2=>by rw[e2,hn'] at hm;cases hm) hno e]
    cases look n S.heap with
    | none=>rfl
    | some ob=>cases ob<;>rfl
   have hι:∀n,n≠o'->(fun q=>if q=o' then ι o else if q=o then none else ι q) (rnm o o' n)=ι n:=by
    intro n hno;unfold rnm
    by_cases e:n=o
    ·subst e;simp
    ·simp [e,hno]
   refine⟨fun q=>if q=o' then ι o else if q=o then none else ι q,{ h with own:= ?_,inj:= ?_,env:= ?_,heap:= ?_ }⟩
   ·intro q b s hq
    split at hq
    ·exact h.own o b s hq
    ·split at hq
     ·cases hq
     ·exact h.own q b s hq
   ·intro q q' b s s' hq hq'
    split at hq<;>split at hq'
    ·rename_i e1 e2;rw[e1,e2]
    ·split at hq'
     ·cases hq'
     ·rename_i e1 e2 e3;exact absurd (h.inj o q' b s s' hq hq') (Ne.symm e3)
    ·split at hq
     ·cases hq
     ·rename_i e1 e2 e3;exact absurd (h.inj q o b s s' hq hq') e3
    ·split at hq
     ·cases hq
     ·split at hq'
      ·cases hq'
      ·exact h.inj q q' b s s' hq hq'
   ·intro t x hx;have:∃y,(t,y)∈S.env/\x=y.ren (rnm o o'):=by
     have key:∀(E:Env),(t,x)∈zmw (rnm o o') E->∃y,(t,y)∈E/\x=y.ren (rnm o o'):=by
      intro E
      induction E with
      | nil=>intro h;cases h
      | cons p l ih=>
       obtain⟨t',y⟩:=p;intro h;simp only[zmw] at h
       cases h with
       | head=>exact⟨y,.head _,rfl⟩
       | tail _ h=>obtain⟨z,h1,h2⟩:=ih h;exact⟨z,.tail _ h1,h2⟩
     exact key _ hx
    obtain⟨y,hy,rfl⟩:=this;obtain⟨u,h1,h2⟩:=h.env t y hy;refine⟨u,h1,h2.ren fun n hn2=> ?_⟩;have hno:n≠o':=fun e=>by subst e;rw[zmv hy he] at hn2;cases hn2
    exact⟨fun p hp=>(hι n hno).trans hp,hmk n hno⟩
   ·intro n ob' hm;obtain⟨⟨m,ob2⟩,hm2,he2⟩:=zWP.1 hm
    cases he2
    have hno:m≠o':=fun e=>by
     subst e;have hs2:(look m S.heap).isSome=true:=by
      have key:∀(l:zf),(m,ob2)∈l->(look m l).isSome=true:=by
       intro l
       induction l with
       | nil=>intro h;cases h
       | cons p l ih=>
        obtain⟨k,y⟩:=p;intro h;simp only[look]
        split
        ·rfl
        ·rename_i hne
         cases h with
         | head=>exact absurd rfl hne
         | tail _ h=>exact ih h
      exact key _ hm2
     rw[hn'] at hs2;cases hs2
    refine (h.heap m ob2 hm2).ren (hι m hno) fun n hn2=> ?_;have hno2:n≠o':=fun e=>by subst e;rw[zhy hm2 hh] at hn2;cases hn2
    exact⟨fun p hp=>(hι n hno2).trans hp,hmk n hno2⟩
  ·cases hs
theorem zFy{o:Nat}{H:zf}{E:Env}:zhP o H E=E.map fun p=>(p.1,zlr o H p.2):=by
 induction E with
 | nil=>rfl
 | cons p l ih=>obtain⟨t,x⟩:=p;simp only[zhP,ih];rfl
theorem zFw{o:Nat}{x:AV}(h:x.cell=true):(ziO o x).cell=true:=by
 unfold ziO
 split
 ·split<;>rfl
 ·exact h
theorem zqb{o:Nat}:∀ {l:List AV},zlp o l=l.map (ziO o)
 | []=>rfl
 | x::l=>by simp only[zlp,zWD,zqb]
theorem zxX{o:Nat}:∀ {l:List AV},zjY o l=l.map (zjX o)
 | []=>rfl
 | x::l=>by simp only[zjY,zWD,zxX]
theorem zxY{o q:Nat}{ob:Obj}:∀ {H:zf},(q,ob)∈zf7 o H->∃ob0,(q,ob0)∈H/\ob=znm o ob0
 | [],h=>by cases h
 | (q',ob')::l,h=>by
  simp only[zf7] at h
  cases h with
  | head=>exact⟨_,.head _,rfl⟩
  | tail _ h=>obtain⟨ob0,h1,h2⟩:=zxY h;exact⟨ob0,.tail _ h1,h2⟩
theorem zAE{o q:Nat}:∀ {H:zf},look q (zf7 o H)=(look q H).map (znm o)
 | []=>rfl
 | (q',ob')::l=>by
  simp only[zf7,look]
  split
  ·rfl
  ·exact zAE
theorem zAO{o:Nat}{H:zf}:mark (zf7 o H)=mark H:=funext fun p=>by
 unfold mark;rw[zAE]
 rcases look p H with _|(es|m|m|m)<;>rfl
theorem zCG{S:St}{a:Act}{w:World}{ι:Inj}{R:Nat->Prop}{o:Nat}{ob:Obj}(hlk:look o S.heap=some ob)(h:Rel C S a w ι R):Rel C ⟨zhP o S.heap S.env,zae (zbC S.heap [o]) S.heap⟩ a w ι (zfc R ι [o]):=by
 have hf:=h.freeze (os:=[o]) (by simp [zgL,hlk]);refine { hf with env:=fun t x hx=> ?_ };rw[zFy] at hx;obtain⟨⟨t',y⟩,hm,he⟩:=zWP.1 hx
 cases he
 obtain⟨u,h1,h2⟩:=h.env t' y hm;obtain⟨u',h1',h2'⟩:=hf.env t' y hm;rw[h1] at h1'
 cases h1'
 refine⟨u,h1,?_⟩;show VA w _ ι _ (zlr o S.heap y) u;unfold zlr
 split
 ·rename_i p es
  split
  ·rename_i hp;exact .d (zk6 h h2 rfl fun q hq=>by simpa [AV.objs,hp] using hq)
  ·exact h2'
 ·rename_i p off len
  split
  ·rename_i hp;unfold zlq
   split
   ·rename_i d hd;exact .d (zk6 h h2 hd fun q hq=>by simpa [AV.objs,hp] using hq)
   ·exact h2'
  ·exact h2'
 ·rename_i p i k
  split
  ·rename_i hp;unfold zlq
   split
   ·rename_i d hd;exact .d (zk6 h h2 hd fun q hq=>by simpa [AV.objs,hp] using hq)
   ·exact h2'
  ·exact h2'
 ·exact h2'
theorem zFx{S:St}{a:Act}{w:World}{ι:Inj}{R:Nat->Prop}(h:Rel C S a w ι R){o:Nat}{mk:Nat->Option Nat}{x:AV}{u:Value}(h1:VA w R ι (mark S.heap) x u)(h2:VA w (zfc R ι [o]) ι mk x u):VA w (zfc R ι [o]) ι mk (ziO o x) u:=by
 unfold ziO
 split
 ·split
  ·rename_i hp;exact .d (zk6 h h1 rfl fun q hq=>by simpa [AV.objs,hp] using hq)
  ·exact h2
 ·exact h2
theorem zVD{S:St}{a:Act}{w:World}{ι:Inj}{R:Nat->Prop}{o:Nat}{ob:Obj}(hlk:look o S.heap=some ob)(h:Rel C S a w ι R):Rel C ⟨zhP o S.heap S.env,zf7 o (zae (zbC S.heap [o]) S.heap)⟩ a w ι (zfc R ι [o]):=by
 have hd:=zCG hlk h;refine { hd with env:=fun t x hx=> ?_,heap:=fun q ob1 hq=> ?_ }
 ·show ∃u,ze6 C a t=some u/\VA w _ ι (mark (zf7 o (zae (zbC S.heap [o]) S.heap))) x u;rw[zAO];exact hd.env t x hx
 ·show OB w _ ι (mark (zf7 o (zae (zbC S.heap [o]) S.heap))) q ob1;rw[zAO];obtain⟨ob0,h1,rfl⟩:=zxY hq;have hob:=hd.heap q ob0 h1
  cases ob0 with
  | acc n=>exact hob
  | frz n=>exact hob
  | mp n=>exact hob
  | row es=>
   have hold:OB w R ι (mark S.heap) q (.row es):=by
    rcases zrP h1 with h3|⟨h3,_⟩
    ·obtain⟨p,_,he⟩:=zWP.1 h3
     cases he
    ·exact h.heap q _ h3
   cases hob with
   | row hι' hR hb hs0 hsz hc hel=>
    cases hold with
    | row hι2 hR2 hb2 hs2 hsz2 hc2 hel2=>
     rw[hι'] at hι2
     cases hι2
     rw[hb] at hb2
     cases hb2
     show OB w _ ι _ q (.row (zjY o es));rw[zxX];have hsize:∀e:AV,(zjX o e).size=e.size:=fun e=>by
      unfold zjX
      split
      ·simp only[AV.size,zqb,zWM]
      ·rfl
     refine .row hι' hR hb hs0 (fun e he=> ?_) (by rw[zWM];exact hc) fun i e hi j x hj=> ?_
     ·obtain⟨e0,he0,rfl⟩:=zWP.1 he;rw[hsize];exact hsz e0 he0
     ·rw[zWT] at hi;obtain⟨e0,he0,rfl⟩:=zWC.1 hi;unfold zjX at hj
      split at hj
      ·rename_i cs;simp only[AV.cells,zqb,zWT] at hj;obtain⟨x0,hx0,rfl⟩:=zWC.1 hj;obtain⟨k1,qv,k2,k3⟩:=hel i _ he0 j x0 hx0;obtain⟨_,qv2,k22,k32⟩:=hel2 i _ he0 j x0 hx0;rw[k2] at k22
       cases k22
       exact⟨zFw k1,qv,k2,zFx h k32 k3⟩
      ·exact hel i _ he0 j x hj
theorem zVE{S S':St}{a:Act}{w:World}{ι:Inj}{R:Nat->Prop}{o:Nat}(hs:zpi o S=some S')(h:Rel C S a w ι R):∃R',Rel C S' a w ι R':=by
 unfold zpi zs7 at hs
 split at hs
 ·rename_i ob hlk;unfold zqc at hs
  split at hs
  ·cases hs
   exact⟨_,zCG hlk h⟩
  ·cases hs
   exact⟨_,zVD hlk h⟩
 ·cases hs;exact⟨R,h⟩
theorem zzE{S':St}{a:Act}{w:World}:∀ {gs:List Nat} {S:St} {ι:Inj} {R:Nat->Prop},zfF gs S=some S'->Rel C S a w ι R->∃ι' R',Rel C S' a w ι' R':=by
 intro gs
 induction gs with
 | nil=>intro S ι R hs h;cases hs;exact⟨ι,R,h⟩
 | cons g gs ih=>
  intro S ι R hs h;obtain⟨S1,h1,h2⟩:=zWB.1 hs;have:∃ι' R',Rel C S1 a w ι' R':=by
   unfold znL at h1
   split at h1
   ·split at h1
    ·exact⟨ι,R,zVH h1 h⟩
    ·exact⟨ι,R,zVB h1 h⟩
   ·split at h1
    ·obtain⟨ι',h'⟩:=zVG h1 h;exact⟨ι',R,h'⟩
    ·obtain⟨R',h'⟩:=zVE h1 h;exact⟨ι,R',h'⟩
  obtain⟨ι',R',h'⟩:=this;exact ih h2 h'
end Go.Sim

namespace Go.Sim
open Go (World Value Addr TypeId Act)
variable {P:Program} {C:Ctx}
def fr4(dst:Nat):List Nat:=[dst,dst+10000,dst+20000,dst+30000]
def zcw(H:zf)(dst:Nat)(ms:List Bool)(args:List AV):List Nat×List Nat:=
 (zbY H ms args++(zay ms args++fr4 dst),zbY H ms args++fr4 dst)
theorem zPu{cs:List D}:AV.objsL (cs.map .d)=[]:=by
 induction cs with
 | nil=>rfl
 | cons x xs ih=>simp [AV.objsL,AV.objs,ih]
theorem zCE{H H2:zf}:∀ {x:AV},(∀o∈x.objs,look o H2=look o H)->toD H2 x=toD H x:=by
 intro x;refine AV.rec (motive_1:=fun x=>(∀o∈x.objs,look o H2=look o H)->toD H2 x=toD H x) (motive_2:=fun xs=>(∀o∈AV.objsL xs,look o H2=look o H)->toD.toDs H2 xs=toD.toDs H xs) ?_ ?_ ?_ ?_ ?_ ?_ ?_ ?_ ?_ ?_ ?_ ?_ ?_ ?_ x
 ·intro _ _;rfl
 ·intro o i off h
  cases off with
  | zero=>simp only[toD];rw[h o (by simp [AV.objs])]
  | succ n=>simp [toD]
 ·intro o off len h;simp only[toD];rw[h o (by simp [AV.objs])]
 ·intro _ _ _;rfl
 ·intro _ _ _;rfl
 ·intro _ _;rfl
 ·intro cs ih h;simp only[toD];rw[ih (by simpa [AV.objs] using h)]
 ·intro cs ih h;simp only[toD];rw[ih (by simpa [AV.objs] using h)]
 ·intro f cs ih h;simp only[toD];rw[ih (by simpa [AV.objs] using h)]
 ·intro _ _;rfl
 ·intro _ _;rfl
 ·intro _;rfl
 ·intro _;rfl
 ·intro y ys h1 h2 h;simp only[toD.toDs];rw[h1 fun o ho=>h o (by simp [AV.objsL,ho]),h2 fun o ho=>h o (by simp [AV.objsL,ho])]
theorem zxx{H H2:zf}:∀ {ms:List Bool} {xs:List AV},(∀o∈zay ms xs,look o H2=look o H)->zb0 H2 ms xs=zb0 H ms xs:=by
 intro ms xs
 induction xs generalizing ms with
 | nil=>intro _;cases ms<;>rfl
 | cons x xs ih=>
  intro h
  match ms with
  | []=>
   simp only[zb0];rw[zCE fun o ho=>h o (by simp [zay,ho]),ih fun o ho=>h o (by simp [zay,ho])]
  | false::ms=>
   simp only[zb0];rw[zCE fun o ho=>h o (by simp [zay,ho]),ih fun o ho=>h o (by simp [zay,ho])]
  | true::ms=>
   simp only[zb0];rw[ih fun o ho=>h o (by simp [zay,ho])]
theorem zBD{H H2:zf}{ns:List Nat}(h:∀o∈ns,look o H2=look o H):zfS H2 ns=zfS H ns:=by
 unfold zfS
 congr 1
 have:∀l:List Nat,(∀o∈l,look o H2=look o H)->l.flatMap (zkQ H2)=l.flatMap (zkQ H):=by
  intro l
  induction l with
  | nil=>intro _;rfl
  | cons o l ih=>
   intro hl;simp only[List.flatMap_cons];rw[ih fun q hq=>hl q (.tail _ hq)]
   congr 1
   simp only[zkQ,hl o (.head _)]
 exact this ns h
theorem zrX{H H2:zf}{ms:List Bool}{args:List AV}(h:∀o∈zbY H ms args,look o H2=look o H):zbY H2 ms args=zbY H ms args:=by
 have h1:∀o∈zfS H (zdB [] (zcx ms args)),look o H2=look o H:=fun o ho=>h o (zf3 _ _ ho);have h0:∀o∈zdB [] (zcx ms args),look o H2=look o H:=fun o ho=>h1 o (zf3 _ _ ho);unfold zbY;rw[zBD h0,zBD h1]
theorem zxt{F:zaU}(hF:FOK P F){E:Env}{H:zf}{dst:Nat}{ms:List Bool}{f:FuncId}{args:List AV}{v:AV}{δ:zf}(h:zc1 F E H dst ms f args=some (v,δ)){E2:Env}{H2:zf}(hh:∀o∈(zcw H dst ms args).1,look o H2=look o H)(hf:∀n∈fr4 dst,za1 n E2=false/\zam n H2=false):
    zc1 F E2 H2 dst ms f args=some (v,δ):=by
 unfold zc1 at h ⊢;have hns:∀o∈zbY H ms args,look o H2=look o H:=fun o ho=>hh o (by simp [zcw,ho]);have hds:∀o∈zay ms args,look o H2=look o H:=fun o ho=>hh o (by simp [zcw,ho]);rw[zrX hns,zxx hds];obtain⟨zWx,has,h⟩:=zWB.1 h;rw[has,zW9];have hnod:(zbY H ms args).Nodup:=zox _ _ _;unfold zf5 at h ⊢;have hok:zkC H2 (zbY H ms args)=zkC H (zbY H ms args):=by
  unfold zkC;rw[zXm,zW2,zW2];constructor
  ·intro hx o ho;have:=hx o ho;rw[hns o ho] at this;exact this
  ·intro hx o ho;rw[hns o ho];exact hx o ho
 have hos:zce H2 (zbY H ms args)=zce H (zbY H ms args):=by
  unfold zce;exact zYc fun o ho=>by rw[hns o ho]
 rw[hok,hos]
 split at h
 ·rename_i hc;rw[zWz hc];obtain⟨⟨r,os'⟩,hf',h⟩:=zWB.1 h;rw[hf',zW9];simp only[zWS] at hc;obtain⟨_,_,hWF⟩:=hF f _ _ r os' hf' (fun⟨n,ob⟩ hm=>by
   obtain⟨o,ho,_,h2⟩:=zow hm;have:=zW2.1 hc.1 o ho
   split at this
   ·rename_i es hes;exact⟨_,by rw[h2,hes];rfl⟩
   ·cases this) (fun i p hp=>(zoG hnod i p hp).1)
  unfold zeL at h ⊢
  split at h
  ·rename_i hc2;simp only[zWS] at hc2;have:zlz E2 H2 dst (zbY H ms args) os'=true:=by
    refine zW2.2 fun p hp=> ?_;have h1:=zW2.1 hc2.1 p hp;simp only[zXD,zWS,decide_eq_true_eq] at h1 ⊢
    rcases h1 with h1|h1
    ·exact .inl h1
    ·rcases hWF.names p.1 (znR (x:=p.2) hp) with h2|⟨h2,_⟩
     ·have hm:dst+10000 * p.1∈fr4 dst:=by
         have:p.1=0\/p.1=1\/p.1=2\/p.1=3:=by omega
         rcases this with h|h|h|h<;>simp [fr4,h]
      obtain⟨h3,h4⟩:=hf _ hm;exact .inr ⟨⟨by simp [h3],by simp [h4]⟩,h1.2⟩
     ·exact .inl h2
   rw[zWz (by simp only[zWS];exact⟨this,hc2.2⟩)];exact h
  ·cases h
 ·cases h
theorem zsv{ρ:Nat->Nat}{x:AV}{o:Nat}(h:(x.ren ρ).refs o=true):∃q,x.refs q=true/\o=ρ q:=by
 have key:∀x:AV,(x.ren ρ).refs o=true->∃q,x.refs q=true/\o=ρ q:=by
  intro x;refine AV.rec (motive_1:=fun x=>(x.ren ρ).refs o=true->∃q,x.refs q=true/\o=ρ q) (motive_2:=fun xs=>AV.refsL o (AV.renL ρ xs)=true->∃q,AV.refsL q xs=true/\o=ρ q) ?_ ?_ ?_ ?_ ?_ ?_ ?_ ?_ ?_ ?_ ?_ ?_ ?_ ?_ x
  ·intro _ h;simp [AV.ren,AV.refs] at h
  ·intro p i off h;simp only[AV.ren,AV.refs,beq_iff_eq] at h;exact⟨p,by simp [AV.refs],h.symm⟩
  ·intro p i off h;simp only[AV.ren,AV.refs,beq_iff_eq] at h;exact⟨p,by simp [AV.refs],h.symm⟩
  ·intro p es h;simp only[AV.ren,AV.refs,beq_iff_eq] at h;exact⟨p,by simp [AV.refs],h.symm⟩
  ·intro p y h;simp only[AV.ren,AV.refs,beq_iff_eq] at h;exact⟨p,by simp [AV.refs],h.symm⟩
  ·intro _ h;simp [AV.ren,AV.refs] at h
  ·intro cs ih h;exact ih h
  ·intro cs ih h;exact ih h
  ·intro f cs ih h;exact ih h
  ·intro _ h;simp [AV.ren,AV.refs] at h
  ·intro p h;simp only[AV.ren,AV.refs,beq_iff_eq] at h;exact⟨p,by simp [AV.refs],h.symm⟩
  ·intro h;simp [AV.ren,AV.refs] at h
  ·intro h;simp [AV.renL,AV.refsL] at h
  ·intro y ys h1 h2 h;simp only[AV.renL,AV.refsL,zXD] at h
   rcases h with h|h
   ·obtain⟨q,k1,k2⟩:=h1 h;exact⟨q,by simp [AV.refsL,k1],k2⟩
   ·obtain⟨q,k1,k2⟩:=h2 h;exact⟨q,by simp [AV.refsL,k1],k2⟩
 exact key x h
theorem zBP{ρ:Nat->Nat}{xs:List AV}{o:Nat}(h:AV.refsL o (xs.map (AV.ren ρ))=true):∃q,AV.refsL q xs=true/\o=ρ q:=by
 induction xs with
 | nil=>simp [AV.refsL] at h
 | cons x xs ih=>
  simp only[zWD,AV.refsL,zXD] at h
  rcases h with h|h
  ·obtain⟨q,k1,k2⟩:=zsv h;exact⟨q,by simp [AV.refsL,k1],k2⟩
  ·obtain⟨q,k1,k2⟩:=ih h;exact⟨q,by simp [AV.refsL,k1],k2⟩
theorem zxu{F:zaU}(hF:FOK P F){E:Env}{H:zf}{dst:Nat}{ms:List Bool}{f:FuncId}{args:List AV}{v:AV}{δ:zf}(h:zc1 F E H dst ms f args=some (v,δ)):
    (∀p∈δ,p.1∈(zcw H dst ms args).2)/\(∀o,v.refs o=true->o∈(zcw H dst ms args).2)/\(∀p∈δ,∀o,p.2.refs o=true->o∈(zcw H dst ms args).2):=by
 unfold zc1 at h;obtain⟨zWx,has,h⟩:=zWB.1 h;have hnod:(zbY H ms args).Nodup:=zox _ _ _;simp only[zcw];generalize zbY H ms args=ns at *;unfold zf5 at h
 split at h
 ·rename_i hc;simp only[zWS] at hc;obtain⟨⟨r,os'⟩,hf,h⟩:=zWB.1 h;obtain⟨_,_,hW⟩:=hF f _ _ r os' hf (fun⟨n,ob⟩ hm=>by
   obtain⟨o,ho,_,h2⟩:=zow hm;have:=zW2.1 hc.1 o ho
   split at this
   ·rename_i es hes;exact⟨_,by rw[h2,hes];rfl⟩
   ·cases this) (fun i p hp=>(zoG hnod i p hp).1)
  unfold zeL at h
  split at h
  ·cases h
   have hnl:(zce H ns).length=ns.length:=by simp [zce]
   rw[hnl] at hW;have hname:∀n,(look n os').isSome=true->zdc ns dst n∈ns++fr4 dst:=fun n hn=>by
    simp only[zW3]
    rcases hW.names n hn with h1|⟨h1,h2⟩
    ·right;have h3:zdc ns dst n=dst+10000 * n:=by simp only[zdc];rw[zWz (by omega)]
     rw[h3];have:n=0\/n=1\/n=2\/n=3:=by omega
     rcases this with h|h|h|h<;>simp [fr4,h]
    ·left;simp only[zdc];rw[zWy (by omega),zWG,zWF (by omega)];simp
   refine⟨fun p hp=> ?_,fun o ho=> ?_,fun p hp o ho=> ?_⟩
   ·obtain⟨⟨n,ob⟩,hm,rfl⟩:=zWP.1 hp;exact hname n (znR hm)
   ·obtain⟨q,h1,rfl⟩:=zsv ho;exact hname q (hW.res q h1)
   ·obtain⟨⟨n,ob⟩,hm,rfl⟩:=zWP.1 hp
    cases ob with
    | acc n=>simp [Obj.ren,Obj.refs] at ho
    | frz m=>simp [Obj.ren,Obj.refs] at ho
    | mp m=>simp [Obj.ren,Obj.refs] at ho
    | row es=>
     simp only[Obj.ren,Obj.refs] at ho;obtain⟨q,h1,rfl⟩:=zBP ho;exact hname q (hW.resH n _ hm q h1)
  ·cases h
 ·cases h
theorem zNy{ms:List Bool}{args:List AV}{o:Nat}(h:o∈zcx ms args):AV.refsL o args=true:=by
 induction args generalizing ms with
 | nil=>cases ms<;>simp [zcx] at h
 | cons x xs ih=>
  match ms with
  | []=>simp [zcx] at h
  | false::ms=>simp only[zcx] at h;simp [AV.refsL,ih h]
  | true::ms=>
   simp only[zcx,zW3] at h
   rcases h with h|h
   ·simp [AV.refsL,zoT h]
   ·simp [AV.refsL,ih h]
theorem ztA:∀(xs ns:List Nat) {o:Nat},o∈zdB ns xs->o∈ns\/o∈xs:=by
 intro xs
 induction xs with
 | nil=>intro ns o h;exact .inl h
 | cons x xs ih=>
  intro ns o h;simp only[zdB] at h
  split at h
  ·rcases ih _ h with h|h
   ·exact .inl h
   ·exact .inr (.tail _ h)
  ·rcases ih _ h with h|h
   ·simp at h
    rcases h with h|h
    ·exact .inl h
    ·exact .inr (by simp [h])
   ·exact .inr (.tail _ h)
theorem zRw{H:zf}{ns:List Nat}{o:Nat}(h:o∈zfS H ns):o∈ns\/zam o H=true:=by
 rcases ztA _ _ h with h|h
 ·exact .inl h
 ·obtain⟨q,_,hq⟩:=List.mem_flatMap.1 h;simp only[zkQ] at hq
  split at hq
  ·rename_i es hes;right
   cases hr:zam o H with
   | true=>rfl
   | false=>
    have:=zhy (zaq hes) hr;have h2:AV.refsL o es=true:=zoT (x:= .agg es) hq;simp only[Obj.refs] at this;rw[h2] at this;cases this
  ·cases hq
theorem zAW{H:zf}{ms:List Bool}{args:List AV}{o:Nat}(h1:AV.refsL o args=false)(h2:zam o H=false):o∉zbY H ms args:=by
 intro h;have no:∀ {ns:List Nat},o∈zfS H ns->o∈ns:=fun h=>(zRw h).resolve_right (by simp [h2])
 rcases ztA _ _ (no (no h)) with h|h
 ·cases h
 ·rw[zNy h] at h1;cases h1
def zdW(H:zf)(dst:Nat)(ms:List Bool)(args:List AV):List Nat×List Nat:=
 if zlA ms args.length=true then
  ((zcw H dst ms args).1++(zcw (zae (zbC H (zay ms args)) H) dst ms ((zb0 H ms args).getD [])).1,
   (zcw (zae (zbC H (zay ms args)) H) dst ms ((zb0 H ms args).getD [])).2++zay ms args)
 else zcw H dst ms args
theorem zsp{o:Nat}{δ H:zf}(h1:∀p∈δ,p.2.refs o=false)(h2:zam o H=false):zam o (zae δ H)=false:=by
 induction δ with
 | nil=>exact h2
 | cons p δ ih=>
  obtain⟨q,ob⟩:=p;exact zfp (ih fun r hr=>h1 r (.tail _ hr)) (h1 _ (.head _))
theorem zEj{F:zaU}(hF:FOK P F){E:Env}{H:zf}{dst:Nat}{ms:List Bool}{f:FuncId}{args:List AV}{v:AV}{δ:zf}(h:zbr F E H dst ms f args=some (v,δ)){E2:Env}{H2:zf}(hh:∀o∈(zdW H dst ms args).1,look o H2=look o H)(hf:∀n∈fr4 dst,za1 n E2=false/\zam n H2=false):
    zbr F E2 H2 dst ms f args=some (v,δ):=by
 unfold zbr at h ⊢;unfold zdW at hh
 split at h
 ·rename_i hz;rw[zWz hz] at hh ⊢;have hds:∀o∈zay ms args,look o H2=look o H:=fun o ho=>hh o (by simp [zcw,ho]);obtain⟨zWx,has,h⟩:=zWB.1 h;rw[has] at hh;rw[zxx hds,has,zW9];unfold zgK at h ⊢;have hok:zgL H2 (zay ms args)=zgL H (zay ms args):=by
   unfold zgL;rw[zXm,zW2,zW2];exact⟨fun hx o ho=>by have:=hx o ho;rw[hds o ho] at this;exact this,fun hx o ho=>by rw[hds o ho];exact hx o ho⟩
  have hfz:zbC H2 (zay ms args)=zbC H (zay ms args):=by
   unfold zbC;refine zYc fun o ho=> ?_;unfold mark;rw[hds o ho]
  rw[hok,hfz]
  split at h
  ·rename_i hk;rw[zWz hk];obtain⟨⟨v',δ'⟩,h1,h2⟩:=zWC.1 h
   cases h2
   rw[zxt hF h1 (E2:=E2) (H2:=zae (zbC H (zay ms args)) H2) (fun o ho=> ?_) (fun n hn=>⟨(hf n hn).1,?_⟩)]
   ·rfl
   ·rw[zd4,zd4,hh o (by simp [ho])]
   ·rw[<- hfz];exact zsp (fun p hp=>by obtain⟨q,_,rfl⟩:=zWP.1 hp;rfl) (hf n hn).2
  ·cases h
 ·rename_i hz;rw[zWy hz] at hh ⊢;exact zxt hF h hh hf
theorem zEk{F:zaU}(hF:FOK P F){E:Env}{H:zf}{dst:Nat}{ms:List Bool}{f:FuncId}{args:List AV}{v:AV}{δ:zf}(h:zbr F E H dst ms f args=some (v,δ)):
    (∀p∈δ,p.1∈(zdW H dst ms args).2)/\(∀o,v.refs o=true->o∈(zdW H dst ms args).2)/\(∀p∈δ,∀o,p.2.refs o=true->o∈(zdW H dst ms args).2):=by
 unfold zbr at h;unfold zdW
 split at h
 ·rename_i hz;rw[zWz hz];obtain⟨zWx,has,h⟩:=zWB.1 h;rw[has];unfold zgK at h
  split at h
  ·obtain⟨⟨v',δ'⟩,h1,h2⟩:=zWC.1 h
   cases h2
   obtain⟨n1,n2,n3⟩:=zxu hF h1;refine⟨fun p hp=> ?_,fun o ho=>zX5 _ (n2 o ho),fun p hp o ho=> ?_⟩
   ·rcases zW3.1 hp with hp|hp
    ·exact zX5 _ (n1 p hp)
    ·obtain⟨q,hq,rfl⟩:=zWP.1 hp;exact zYM _ hq
   ·rcases zW3.1 hp with hp|hp
    ·exact zX5 _ (n3 p hp o ho)
    ·obtain⟨q,hq,rfl⟩:=zWP.1 hp;simp [Obj.refs] at ho
  ·cases h
 ·rename_i hz;rw[zWy hz];exact zxu hF h
theorem znn{o:Nat}:∀ {ms:List Bool} {xs:List AV},o∈zay ms xs->AV.refsL o xs=true
 | _,[],h=>by simp [zay] at h
 | [],x::xs,h=>by
  simp only[zay,zW3] at h;simp only[AV.refsL,zXD]
  rcases h with h|h
  ·exact .inl (zoT h)
  ·exact .inr (znn h)
 | true::ms,x::xs,h=>by
  simp only[zay] at h;simp only[AV.refsL,zXD];exact .inr (znn h)
 | false::ms,x::xs,h=>by
  simp only[zay,zW3] at h;simp only[AV.refsL,zXD]
  rcases h with h|h
  ·exact .inl (zoT h)
  ·exact .inr (znn h)
theorem znd{H:zf}{o:Nat}:∀ {ms:List Bool} {xs zWx:List AV},zb0 H ms xs=some zWx->AV.refsL o xs=false->AV.refsL o zWx=false
 | _,[],zWx,h,_=>by cases ‹List Bool› <;> (simp [zb0] at h;subst h;rfl)
 | [],x::xs,zWx,h,hr=>by
  simp only[zb0] at h;obtain⟨d,_,h⟩:=zWB.1 h;obtain⟨bs,h1,rfl⟩:=zWC.1 h;simp only[AV.refsL,zYh] at hr ⊢;exact⟨rfl,znd h1 hr.2⟩
 | true::ms,x::xs,zWx,h,hr=>by
  simp only[zb0] at h;obtain⟨bs,h1,rfl⟩:=zWC.1 h;simp only[AV.refsL,zYh] at hr ⊢;exact⟨hr.1,znd h1 hr.2⟩
 | false::ms,x::xs,zWx,h,hr=>by
  simp only[zb0] at h;obtain⟨d,_,h⟩:=zWB.1 h;obtain⟨bs,h1,rfl⟩:=zWC.1 h;simp only[AV.refsL,zYh] at hr ⊢;exact⟨rfl,znd h1 hr.2⟩
theorem zxz{H:zf}{dst:Nat}{ms:List Bool}{args:List AV}:∀o∈(zcw H dst ms args).2,o∈(zcw H dst ms args).1:=by
 intro o ho;simp only[zcw,zW3] at ho ⊢
 rcases ho with ho|ho
 ·exact .inl ho
 ·exact .inr (.inr ho)
theorem zEo{H:zf}{dst:Nat}{ms:List Bool}{args:List AV}:∀o∈(zdW H dst ms args).2,o∈(zdW H dst ms args).1:=by
 intro o ho;unfold zdW at ho ⊢
 split at ho
 ·rename_i hz;rw[zWz hz]
  rcases zW3.1 ho with ho|ho
  ·exact zYM _ (zxz o ho)
  ·exact zX5 _ (by simp [zcw,ho])
 ·rename_i hz;rw[zWy hz];exact zxz o ho
theorem zEn{H H2:zf}{dst:Nat}{ms:List Bool}{args:List AV}{o:Nat}(hh:∀o∈(zdW H dst ms args).1,look o H2=look o H)(ha:AV.refsL o args=false)(h2:zam o H2=false)(hn:o∉fr4 dst):o∉(zdW H dst ms args).2:=by
 unfold zdW at hh ⊢
 split
 ·rename_i hz;rw[zWz hz] at hh;have hds:∀o∈zay ms args,look o H2=look o H:=fun o ho=>hh o (by simp [zcw,ho]);have hfz:zbC H2 (zay ms args)=zbC H (zay ms args):=by
   unfold zbC;refine zYc fun o ho=> ?_;unfold mark;rw[hds o ho]
  simp only[zcw,zW3];rintro ((hm|hm)|hm)
  ·have hnames:∀q∈zbY (zae (zbC H (zay ms args)) H) ms ((zb0 H ms args).getD []),look q (zae (zbC H (zay ms args)) H2)=look q (zae (zbC H (zay ms args)) H):=fun q hq=>by
      rw[zd4,zd4,hh q (by simp [zcw,hq])]
   rw[<- zrX hnames] at hm;refine zAW ?_ (zsp (fun p hp=>by obtain⟨q,_,rfl⟩:=zWP.1 hp;rfl) h2) hm
   cases hc:zb0 H ms args with
   | none=>rfl
   | some zWx=>exact znd hc ha
  ·exact hn hm
  ·have:=znn hm;rw[ha] at this;cases this
 ·rename_i hz;rw[zWy hz] at hh;simp only[zcw,zW3];rintro (hm|hm)
  ·have hnames:∀q∈zbY H ms args,look q H2=look q H:=fun q hq=>hh q (by simp [zcw,hq]);rw[<- zrX hnames] at hm;exact zAW ha h2 hm
  ·exact hn hm
end Go.Sim
