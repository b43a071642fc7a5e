/-
  What a call looks at and writes.
-/
import Derived.Test.YtdnlddoeamjcoaaGreatB0e468d4
set_option linter.unusedSimpArgs false
set_option linter.unusedVariables false
set_option maxHeartbeats 10000000
set_option maxRecDepth 100000
namespace Go.Sim
open Go (World Value Addr TypeId Act)
variable {P:Program} {C:Ctx}
def zi6(o m:Nat):Env->Option (List D)
 | []=>none
 | (_,.acc p es)::l=>if p=o/\es.length=m then some es else zi6 o m l
 | _::l=>zi6 o m l
def zgV(o m:Nat)(x:AV):AV:=
 match x with
 | .acc p es=>if p=o then (if es.length=m then .osl o 0 m else .undef) else .acc p es
 | x=>if x.refs o then .undef else x
def znz(o m:Nat)(E:Env):Env:=E.map fun p=>(p.1,zgV o m p.2)
def zjU(o:Nat)(ds:List D)(x:AV):AV:=
 match x with
 | .osl p off len=>if p=o then (if off=0/\len=ds.length then .acc o ds else .undef) else .osl p off len
 | x=>if x.refs o then .undef else x
def zqM(o:Nat)(ds:List D)(E:Env):Env:=E.map fun p=>(p.1,zjU o ds p.2)
def zm6(o:Nat):AV->AV
 | .acc p []=>if p=o then .xsl [] else .acc p []
 | x=>x
def ziq(o:Nat):Env->Env
 | []=>[]
 | (t,x)::l=>(t,zm6 o x)::ziq o l
def okC(o m:Nat):AV->Bool
 | .acc p es=>if p=o then es.length==m else true
 | x=> !x.refs o
def zdk(o m:Nat):AV->AV
 | .acc p es=>if p=o then .osl o 0 m else .acc p es
 | x=>x
def zm8(o m:Nat):List AV->Bool
 | []=>true
 | x::l=>okC o m x&&zm8 o m l
def zny(o m:Nat):List AV->List AV
 | []=>[]
 | x::l=>zdk o m x::zny o m l
def okE(o m:Nat):AV->Bool
 | .agg cs=>zm8 o m cs
 | x=>okC o m x
def ziD(o m:Nat):AV->AV
 | .agg cs=> .agg (zny o m cs)
 | x=>zdk o m x
def zkY(o m:Nat):List AV->Bool
 | []=>true
 | x::l=>okE o m x&&zkY o m l
def zli(o m:Nat):List AV->List AV
 | []=>[]
 | x::l=>ziD o m x::zli o m l
def zgv(o m:Nat):zf->Bool
 | []=>true
 | (_,.row es)::l=>zkY o m es&&zgv o m l
 | (_,.acc _)::l=>zgv o m l
 | (_,.frz _)::l=>zgv o m l
 | (_,.mp _)::l=>zgv o m l
def zcW(o m:Nat):zf->zf
 | []=>[]
 | (q,.row es)::l=>(q,.row (zli o m es))::zcW o m l
 | (q,.acc n)::l=>(q,.acc n)::zcW o m l
 | (q,.frz n)::l=>(q,.frz n)::zcW o m l
 | (q,.mp n)::l=>(q,.mp n)::zcW o m l
def zh1(o m:Nat):List AV->Option (List D)
 | []=>none
 | .acc p es::l=>if p=o/\es.length=m then some es else zh1 o m l
 | _::l=>zh1 o m l
def orE{α:Type}(x:Option α):Option α->Option α
 | some a=>some a
 | none=>x
def zh2(o m:Nat):List AV->Option (List D)
 | []=>none
 | .agg cs::l=>orE (zh2 o m l) (zh1 o m cs)
 | x::l=>orE (zh2 o m l) (zh1 o m [x])
def zgm(o m:Nat):zf->Option (List D)
 | []=>none
 | (_,.row es)::l=>orE (zgm o m l) (zh2 o m es)
 | (_,.acc _)::l=>zgm o m l
 | (_,.frz _)::l=>zgm o m l
 | (_,.mp _)::l=>zgm o m l
def zrz(o m:Nat)(E:Env)(H:zf):Option (List D):=orE (zgm o m H) (zi6 o m E)
def zDm(o m:Nat)(E:Env)(H:zf)(es:List D)(b:Bool):Option St:=
 if b=false then some ⟨znz o m E,zY o (.row (es.map .d)) H⟩ else if zgv o m H=true then some ⟨znz o m E,zY o (.row (es.map .d)) (zcW o m H)⟩ else none
def zDl(o m:Nat)(E:Env)(H:zf):Option (List D)->Option St
 | some es=>if m≠0 then zDm o m E H es (zaE o H) else none
 | none=>none
def zjr(o:Nat)(x:AV):AV:=
 match x with
 | .acc p []=>if p=o then .xsl [] else .acc p []
 | x=>x
def zm4(o:Nat):List AV->List AV
 | []=>[]
 | x::l=>zjr o x::zm4 o l
def zkS(o:Nat)(x:AV):AV:=
 match x with
 | .agg cs=> .agg (zm4 o cs)
 | x=>x
def zkT(o:Nat):List AV->List AV
 | []=>[]
 | x::l=>zkS o x::zkT o l
def zsY(o:Nat)(ob:Obj):Obj:=
 match ob with
 | .row es=> .row (zkT o es)
 | x=>x
def zgu(o:Nat):zf->zf
 | []=>[]
 | (q,ob)::l=>(q,zsY o ob)::zgu o l
def zBD(o:Nat)(E:Env)(H:zf)(b:Bool):Option St:=if b=false then some ⟨ziq o E,H⟩ else some ⟨ziq o E,zgu o H⟩
def zDk(o:Nat)(E:Env)(H:zf):Option Obj->Option St
 | some (.acc m)=>if m=0 then zBD o E H (zaE o H) else zDl o m E H (zrz o m E H)
 | some (.row es)=>some ⟨E,H⟩
 | some (.frz m)=>some ⟨E,H⟩
 | some (.mp m)=>some ⟨E,H⟩
 | none=>some ⟨E,H⟩
def zt1(o:Nat)(S:St):Option St:=zDk o S.env S.heap (look o S.heap)
def zm5(o:Nat):AV->AV
 | .osl p off 0=>if p=o then .d (.sl []) else .osl p off 0
 | x=>x
def zkU(o:Nat):Env->Env
 | []=>[]
 | (t,x)::l=>(t,zm5 o x)::zkU o l
def zDf(o:Nat)(E:Env)(H:zf)(es:List AV):Option (List D)->Option St
 | some ds=>if es=[] then some ⟨zkU o E,H⟩ else if es≠[]/\zaE o H=false then some ⟨zqM o ds E,zY o (.acc ds.length) H⟩ else none
 | none=>none
def zDe(o:Nat)(E:Env)(H:zf):Option Obj->Option St
 | some (.row es)=>zDf o E H es (zbJ es)
 | some (.acc m)=>some ⟨E,H⟩
 | some (.frz m)=>some ⟨E,H⟩
 | some (.mp m)=>some ⟨E,H⟩
 | none=>some ⟨E,H⟩
def ztY(o:Nat)(S:St):Option St:=zDe o S.env S.heap (look o S.heap)
def rnm(o o' n:Nat):Nat:=if n=o then o' else n
def znt(ρ:Nat->Nat):Env->Env
 | []=>[]
 | (t,x)::l=>(t,x.ren ρ)::znt ρ l
def zDj(o o':Nat)(E:Env)(H:zf):Option Obj->Option St
 | some _=>if (look o' H).isNone=true/\zbg o' E=false/\zaE o' H=false then some ⟨znt (rnm o o') E,zdF (rnm o o') H⟩ else none
 | none=>some ⟨E,H⟩
def zt0(o o':Nat)(S:St):Option St:=zDj o o' S.env S.heap (look o S.heap)
def zvk(x:AV):Option D->AV
 | some d=> .d d
 | none=>x
def zmi(o:Nat)(H:zf):AV->AV
 | .acc p es=>if p=o then .d (.sl es) else .acc p es
 | .osl p off len=>if p=o then zvk (.osl p off len) (toD H (.osl p off len)) else .osl p off len
 | x=>x
def zhX(o:Nat)(H:zf):Env->Env
 | []=>[]
 | (t,x)::l=>(t,zmi o H x)::zhX o H l
def zi2(o:Nat)(x:AV):AV:=
 match x with
 | .acc p es=>if p=o then .d (.sl es) else .acc p es
 | x=>x
def zmh(o:Nat):List AV->List AV
 | []=>[]
 | x::l=>zi2 o x::zmh o l
def zkc(o:Nat)(x:AV):AV:=
 match x with
 | .agg cs=> .agg (zmh o cs)
 | x=>x
def zkd(o:Nat):List AV->List AV
 | []=>[]
 | x::l=>zkc o x::zkd o l
def zrn(o:Nat)(ob:Obj):Obj:=
 match ob with
 | .row es=> .row (zkd o es)
 | x=>x
def zgc(o:Nat):zf->zf
 | []=>[]
 | (q,ob)::l=>(q,zrn o ob)::zgc o l
def zvl(o:Nat)(E:Env)(H:zf)(b:Bool):Option St:=if b=false then some ⟨zhX o H E,zav (zbG H [o]) H⟩ else some ⟨zhX o H E,zgc o (zav (zbG H [o]) H)⟩
def zDh(o:Nat)(E:Env)(H:zf):Option Obj->Option St
 | some _=>zvl o E H (zaE o H)
 | none=>some ⟨E,H⟩
def ztZ(o:Nat)(S:St):Option St:=zDh o S.env S.heap (look o S.heap)
def zr5(g:Nat)(S:St):Option St:=if g<4000000 then (if g % 2=0 then zt1 (g / 2) S else ztY (g / 2) S) else if g<6000000 then zt0 (g - 4000000) (g - 3500000) S else ztZ (g - 6000000) S
def zfA:List Nat->St->Option St
 | [],S=>some S
 | g::gs,S=>(zr5 g S).bind (zfA gs)
theorem zWD{o m:Nat}{es:List D}:∀ {E:Env},zi6 o m E=some es->∃t,(t,AV.acc o es)∈E/\es.length=m:=by
 intro E
 induction E with
 | nil=>intro h;cases h
 | cons p l ih=>
  obtain⟨t,x⟩:=p;intro h
  cases x with
  | acc q es'=>
   simp only[zi6] at h
   split at h
   ·rename_i hc;obtain⟨rfl,hl⟩:=hc
    cases h;exact⟨t,.head _,hl⟩
   ·obtain⟨t',h1,h2⟩:=ih h;exact⟨t',.tail _ h1,h2⟩
  | _=>simp only[zi6] at h;obtain⟨t',h1,h2⟩:=ih h;exact⟨t',.tail _ h1,h2⟩
theorem Rel.recast {S:St} {a:Act} {w:World} {ι:Inj} {R:Nat->Prop} (h:Rel C S a w ι R) {o:Nat} {ob:Obj} {g:AV->AV} (hh:zaE o S.heap=false)
    (hob:OB w R ι (mark (zY o ob S.heap)) o ob)
    (hg:∀x u,VA w R ι (mark S.heap) x u->(x.refs o=true->VA w R ι (mark (zY o ob S.heap)) (g x) u)/\(x.refs o=false->g x=x)):
    Rel C ⟨S.env.map fun p=>(p.1,g p.2),zY o ob S.heap⟩ a w ι R:=by
 have hst:∀p,p≠o->Step w w ι ι (mark S.heap) (mark (zY o ob S.heap)) p:=fun p hp=>Step.other rfl (zeP hp) fun _ _ _=>rfl;refine { h with env:=fun t x hx=> ?_,heap:=fun q ob' hq=> ?_ }
 ·obtain⟨⟨t',y⟩,hm,he⟩:=zadc.1 hx
  cases he
  obtain⟨u,h1,h2⟩:=h.env t' y hm;refine⟨u,h1,?_⟩
  cases hr:y.refs o with
  | true=>exact (hg y u h2).1 hr
  | false=>
   show VA w R ι _ (g y) u;rw[(hg y u h2).2 hr];exact h2.mono (fun _ h=>h) (fun _ _=>rfl) fun p hp=>hst p fun e=>by subst e;rw[hr] at hp;cases hp
 ·rcases zhF hq with hq2|⟨hq2,hne⟩
  ·cases hq2;exact hob
  ·exact (h.heap q ob' hq2).mono (fun _ h=>h) (fun _ _=>rfl) (fun _ _ hb=>⟨hb,rfl,fun h=>h⟩) (fun h=>h) fun p hp=>hst p fun e=>by
      rw[e] at hp;have:=zhz (l:=S.heap) hq2 hh;rw[hp] at this;cases this
theorem z1K{w:World}{R:Nat->Prop}{ι:Inj}{mk:Nat->Option Nat}{o:Nat}{x:AV}{u:Value}(hι:ι o=none)(hm:mk o=some 0)(h:VA w R ι mk x u):VA w R ι mk (zm6 o x) u:=by
 unfold zm6
 split
 ·split
  ·rename_i hp;subst hp
   cases h with
   | accR _ _ _ _ _ _ hlt=>have:=hlt 0 hm;simp at this
   | accC hι'=>rw[hι] at hι';cases hι'
   | acc0=>exact .xsl .sl0
  ·exact h
 ·exact h
theorem z1I{w:World}{R:Nat->Prop}{ι:Inj}{mk:Nat->Option Nat}{o:Nat}{x:AV}{u:Value}(h:VA w R ι mk x u):VA w R ι mk (zm5 o x) u:=by
 unfold zm5
 split
 ·split
  ·cases h<;>exact .d .sl0
  ·exact h
 ·exact h
theorem z1H{o:Nat}{E:Env}:zkU o E=E.map fun p=>(p.1,zm5 o p.2):=by
 induction E with
 | nil=>rfl
 | cons p l ih=>obtain⟨t,x⟩:=p;simp only[zkU,ih];rfl
theorem Rel.nilsO{S:St}{a:Act}{w:World}{ι:Inj}{R:Nat->Prop}(h:Rel C S a w ι R){o:Nat}:Rel C ⟨zkU o S.env,S.heap⟩ a w ι R:=by
 refine { h with env:=fun t x hx=> ?_ };rw[z1H] at hx;obtain⟨⟨t',y⟩,hm,he⟩:=zadc.1 hx
 cases he
 obtain⟨u,h1,h2⟩:=h.env t' y hm;exact⟨u,h1,z1I h2⟩
theorem z1G{o:Nat}{E:Env}:ziq o E=E.map fun p=>(p.1,zm6 o p.2):=by
 induction E with
 | nil=>rfl
 | cons p l ih=>obtain⟨t,x⟩:=p;simp only[ziq,ih];rfl
theorem Rel.nils{S:St}{a:Act}{w:World}{ι:Inj}{R:Nat->Prop}(h:Rel C S a w ι R){o:Nat}(hlk:look o S.heap=some (.acc 0)):Rel C ⟨ziq o S.env,S.heap⟩ a w ι R:=by
 have hι:ι o=none:=by
  cases h.heap _ _ (zaL hlk) with
  | acc hpos=>exact absurd hpos (by decide)
  | accN hι=>exact hι
 have hmk:mark S.heap o=some 0:=by simp [mark,hlk]
 refine { h with env:=fun t x hx=> ?_ };rw[z1G] at hx;obtain⟨⟨t',y⟩,hm,he⟩:=zadc.1 hx
 cases he
 obtain⟨u,h1,h2⟩:=h.env t' y hm;exact⟨u,h1,z1K hι hmk h2⟩
theorem z1E{o:Nat}{x:AV}(h:x.cell=true):(zjr o x).cell=true:=by
 unfold zjr
 split
 ·split<;>rfl
 ·exact h
theorem zBC{o:Nat}:∀ {l:List AV},zm4 o l=l.map (zjr o)
 | []=>rfl
 | x::l=>by simp only[zm4,zac1,zBC]
theorem zMH{o:Nat}:∀ {l:List AV},zkT o l=l.map (zkS o)
 | []=>rfl
 | x::l=>by simp only[zkT,zac1,zMH]
theorem zMI{o q:Nat}{ob:Obj}:∀ {H:zf},(q,ob)∈zgu o H->∃ob0,(q,ob0)∈H/\ob=zsY o ob0
 | [],h=>by cases h
 | (q',ob')::l,h=>by
  simp only[zgu] at h
  cases h with
  | head=>exact⟨_,.head _,rfl⟩
  | tail _ h=>obtain⟨ob0,h1,h2⟩:=zMI h;exact⟨ob0,.tail _ h1,h2⟩
theorem zMn{o q:Nat}:∀ {H:zf},look q (zgu o H)=(look q H).map (zsY o)
 | []=>rfl
 | (q',ob')::l=>by
  simp only[zgu,look]
  split
  ·rfl
  ·exact zMn
theorem zMw{o:Nat}{H:zf}:mark (zgu o H)=mark H:=funext fun p=>by
 unfold mark;rw[zMn]
 rcases look p H with _|(es|m|m|m)<;>rfl
theorem z1F{w:World}{R:Nat->Prop}{ι:Inj}{mk:Nat->Option Nat}{o:Nat}{x:AV}{u:Value}(hι:ι o=none)(hm:mk o=some 0)(h:VA w R ι mk x u):VA w R ι mk (zjr o x) u:=by
 unfold zjr
 split
 ·split
  ·rename_i hp;subst hp
   cases h with
   | accR _ _ _ _ _ _ hlt=>have:=hlt 0 hm;simp at this
   | accC hι'=>rw[hι] at hι';cases hι'
   | acc0=>exact .xsl .sl0
  ·exact h
 ·exact h
theorem Rel.nilsH{S:St}{a:Act}{w:World}{ι:Inj}{R:Nat->Prop}(h:Rel C S a w ι R){o:Nat}(hlk:look o S.heap=some (.acc 0)):Rel C ⟨ziq o S.env,zgu o S.heap⟩ a w ι R:=by
 have h:=h.nils hlk;have hι:ι o=none:=by
  cases h.heap _ _ (zaL hlk) with
  | acc hpos=>exact absurd hpos (by decide)
  | accN hι=>exact hι
 have hmk:mark S.heap o=some 0:=by simp [mark,hlk]
 refine { h with env:=fun t x hx=> ?_,heap:=fun q ob hq=> ?_ }
 ·show ∃u,zeZ C a t=some u/\VA w R ι (mark (zgu o S.heap)) x u;rw[zMw];exact h.env t x hx
 ·show OB w R ι (mark (zgu o S.heap)) q ob;rw[zMw];obtain⟨ob0,h1,rfl⟩:=zMI hq;have hob:=h.heap q ob0 h1
  cases ob0 with
  | acc n=>exact hob
  | frz n=>exact hob
  | mp n=>exact hob
  | row es=>
   cases hob with
   | row hι' hR hb hs0 hsz hc hel=>
    show OB w R ι _ q (.row (zkT o es));rw[zMH];have hsize:∀e:AV,(zkS o e).size=e.size:=fun e=>by
     unfold zkS
     split
     ·simp only[AV.size,zBC,zadd]
     ·rfl
    refine .row hι' hR hb hs0 (fun e he=> ?_) (by rw[zadd];exact hc) fun i e hi j x hj=> ?_
    ·obtain⟨e0,he0,rfl⟩:=zadc.1 he;rw[hsize];exact hsz e0 he0
    ·rw[zadj] at hi;obtain⟨e0,he0,rfl⟩:=zac2.1 hi;unfold zkS at hj
     split at hj
     ·rename_i cs;simp only[AV.cells,zBC,zadj] at hj;obtain⟨x0,hx0,rfl⟩:=zac2.1 hj;obtain⟨k1,qv,k2,k3⟩:=hel i _ he0 j x0 hx0;exact⟨z1E k1,qv,k2,z1F hι hmk k3⟩
     ·exact hel i _ he0 j x hj
theorem z9q{o m:Nat}{x:AV}:(zdk o m x).size=x.size:=by
 unfold zdk
 split
 ·split<;>rfl
 ·rfl
theorem z9p{o m:Nat}{x:AV}(h:x.cell=true):(zdk o m x).cell=true:=by
 unfold zdk
 split
 ·split<;>rfl
 ·exact h
theorem zCU{o m:Nat}:∀ {l:List AV},zny o m l=l.map (zdk o m)
 | []=>rfl
 | x::l=>by simp only[zny,zac1,zCU]
theorem ztK{o m:Nat}:∀ {l:List AV},zli o m l=l.map (ziD o m)
 | []=>rfl
 | x::l=>by simp only[zli,zac1,ztK]
theorem zMN{o m:Nat}{x:AV}:∀ {l:List AV},zm8 o m l=true->x∈l->okC o m x=true
 | [],_,h=>by cases h
 | y::l,hk,h=>by
  simp only[zm8,zac7] at hk
  cases h with
  | head=>exact hk.1
  | tail _ h=>exact zMN hk.2 h
theorem zMO{o m:Nat}{x:AV}:∀ {l:List AV},zkY o m l=true->x∈l->okE o m x=true
 | [],_,h=>by cases h
 | y::l,hk,h=>by
  simp only[zkY,zac7] at hk
  cases h with
  | head=>exact hk.1
  | tail _ h=>exact zMO hk.2 h
theorem z9s{o m:Nat}{x:AV}:(ziD o m x).size=x.size:=by
 unfold ziD
 split
 ·simp only[AV.size,zCU,zadd]
 ·exact z9q
theorem z9r{o m:Nat}{e x':AV}{j:Nat}(hk:okE o m e=true)(h:(ziD o m e).cells[j]? = some x'):∃x,e.cells[j]? = some x/\okC o m x=true/\x'=zdk o m x:=by
 have one:∀e:AV,e.cells=[e]->okC o m e=true->(zdk o m e).cells=[zdk o m e]->(zdk o m e).cells[j]? = some x'->∃x,e.cells[j]? = some x/\okC o m x=true/\x'=zdk o m x:=by
  intro e h1 h2 h3 h4;rw[h3] at h4
  match j,h4 with
  | 0,h4=>simp at h4;subst h4;exact⟨e,by rw[h1];rfl,h2,rfl⟩
  | n+1,h4=>simp at h4
 cases e with
 | agg cs=>
  simp only[ziD,AV.cells,zCU,zadj] at h;obtain⟨x,h1,h2⟩:=zac2.1 h;exact⟨x,h1,zMN hk (zadm h1),h2.symm⟩
 | d y=>
  simp only[ziD,zdk,AV.cells,zadj] at h;obtain⟨c,h1,h2⟩:=zac2.1 h;subst h2;exact⟨.d c,by simp [AV.cells,h1],rfl,rfl⟩
 | acc p es=>exact one _ rfl hk (by unfold zdk;simp only;split<;>rfl) h
 | ref p i f=>exact one _ rfl hk rfl h
 | osl p i f=>exact one _ rfl hk rfl h
 | pe p i=>exact one _ rfl hk rfl h
 | xsl p=>exact one _ rfl hk rfl h
 | tup p=>exact one _ rfl hk rfl h
 | fn p i=>exact one _ rfl hk rfl h
 | nl p=>exact one _ rfl hk rfl h
 | mpr p=>exact one _ rfl hk rfl h
 | undef=>exact one _ rfl hk rfl h
def zQF(o m:Nat):Obj->Obj
 | .row es=> .row (zli o m es)
 | x=>x
theorem znA{o m:Nat}{q:Nat}{ob:Obj}:∀ {H:zf},zgv o m H=true->(q,ob)∈zcW o m H->∃ob0,(q,ob0)∈H/\ob=zQF o m ob0/\(∀es,ob0= .row es->zkY o m es=true)
 | [],_,h=>by cases h
 | (q',.row es)::l,hk,h=>by
  simp only[zgv,zac7] at hk;simp only[zcW] at h
  cases h with
  | head=>exact⟨_,.head _,rfl,fun es' e=>by cases e;exact hk.1⟩
  | tail _ h=>obtain⟨ob0,h1,h2,h3⟩:=znA hk.2 h;exact⟨ob0,.tail _ h1,h2,h3⟩
 | (q',.acc n)::l,hk,h=>by
  simp only[zgv] at hk;simp only[zcW] at h
  cases h with
  | head=>exact⟨_,.head _,rfl,fun es' e=>by cases e⟩
  | tail _ h=>obtain⟨ob0,h1,h2,h3⟩:=znA hk h;exact⟨ob0,.tail _ h1,h2,h3⟩
 | (q',.frz n)::l,hk,h=>by
  simp only[zgv] at hk;simp only[zcW] at h
  cases h with
  | head=>exact⟨_,.head _,rfl,fun es' e=>by cases e⟩
  | tail _ h=>obtain⟨ob0,h1,h2,h3⟩:=znA hk h;exact⟨ob0,.tail _ h1,h2,h3⟩
 | (q',.mp n)::l,hk,h=>by
  simp only[zgv] at hk;simp only[zcW] at h
  cases h with
  | head=>exact⟨_,.head _,rfl,fun es' e=>by cases e⟩
  | tail _ h=>obtain⟨ob0,h1,h2,h3⟩:=znA hk h;exact⟨ob0,.tail _ h1,h2,h3⟩
theorem zmY{o m q:Nat}:∀ {H:zf},mark (zcW o m H) q=mark H q
 | []=>rfl
 | (q',.row es)::l=>by
  have ih:=zmY (o:=o) (m:=m) (q:=q) (H:=l);unfold mark at ih ⊢;simp only[zcW,Go.Sim.look]
  by_cases h:q'=q
  ·rw[zacY h,zacY h]
  ·rw[zacX h,zacX h];exact ih
 | (q',.acc n)::l=>by
  have ih:=zmY (o:=o) (m:=m) (q:=q) (H:=l);unfold mark at ih ⊢;simp only[zcW,Go.Sim.look]
  by_cases h:q'=q
  ·rw[zacY h,zacY h]
  ·rw[zacX h,zacX h];exact ih
 | (q',.frz n)::l=>by
  have ih:=zmY (o:=o) (m:=m) (q:=q) (H:=l);unfold mark at ih ⊢;simp only[zcW,Go.Sim.look]
  by_cases h:q'=q
  ·rw[zacY h,zacY h]
  ·rw[zacX h,zacX h];exact ih
 | (q',.mp n)::l=>by
  have ih:=zmY (o:=o) (m:=m) (q:=q) (H:=l);unfold mark at ih ⊢;simp only[zcW,Go.Sim.look]
  by_cases h:q'=q
  ·rw[zacY h,zacY h]
  ·rw[zacX h,zacX h];exact ih
theorem znb{α:Type}{x y:Option α}{a:α}(h:orE x y=some a):y=some a\/x=some a:=by
 cases y with
 | some b=>exact .inl h
 | none=>exact .inr h
theorem zi7{o m:Nat}{es:List D}:∀ {l:List AV},zh1 o m l=some es->AV.acc o es∈l/\es.length=m
 | [],h=>by cases h
 | x::l,h=>by
  cases x with
  | acc q es'=>
   simp only[zh1] at h
   split at h
   ·rename_i hc;obtain⟨rfl,hl⟩:=hc
    cases h;exact⟨.head _,hl⟩
   ·exact⟨.tail _ (zi7 h).1,(zi7 h).2⟩
  | _=>simp only[zh1] at h;exact⟨.tail _ (zi7 h).1,(zi7 h).2⟩
theorem zrA{o m:Nat}{es:List D}:∀ {l:List AV},zh2 o m l=some es->∃e∈l,∃j:Nat,e.cells[j]? = some (AV.acc o es)/\es.length=m
 | [],h=>by cases h
 | x::l,h=>by
  cases x with
  | agg cs=>
   simp only[zh2] at h
   rcases znb h with h|h
   ·obtain⟨h1,h2⟩:=zi7 h;obtain⟨j,hj⟩:=zadH h1;exact⟨_,.head _,j,hj,h2⟩
   ·obtain⟨e,h1,h2⟩:=zrA h;exact⟨e,.tail _ h1,h2⟩
  | acc p es'=>
   simp only[zh2] at h
   rcases znb h with h|h
   ·obtain⟨h1,h2⟩:=zi7 h;simp only[zadD] at h1;exact⟨_,.head _,0,by rw[<- h1];rfl,h2⟩
   ·obtain⟨e,h1,h2⟩:=zrA h;exact⟨e,.tail _ h1,h2⟩
  | _=>
   simp only[zh2] at h
   rcases znb h with h|h
   ·obtain⟨h1,h2⟩:=zi7 h;simp at h1
   ·obtain⟨e,h1,h2⟩:=zrA h;exact⟨e,.tail _ h1,h2⟩
theorem zml{o m:Nat}{es:List D}:∀ {H:zf},zgm o m H=some es->∃q fs,(q,Obj.row fs)∈H/\∃e∈fs,∃j:Nat,e.cells[j]? = some (AV.acc o es)/\es.length=m
 | [],h=>by cases h
 | (q,.row fs)::l,h=>by
  simp only[zgm] at h
  rcases znb h with h|h
  ·exact⟨q,fs,.head _,zrA h⟩
  ·obtain⟨q,fs,h1,h2⟩:=zml h;exact⟨q,fs,.tail _ h1,h2⟩
 | (q,.acc n)::l,h=>by
  simp only[zgm] at h;obtain⟨q,fs,h1,h2⟩:=zml h;exact⟨q,fs,.tail _ h1,h2⟩
 | (q,.frz n)::l,h=>by
  simp only[zgm] at h;obtain⟨q,fs,h1,h2⟩:=zml h;exact⟨q,fs,.tail _ h1,h2⟩
 | (q,.mp n)::l,h=>by
  simp only[zgm] at h;obtain⟨q,fs,h1,h2⟩:=zml h;exact⟨q,fs,.tail _ h1,h2⟩
theorem zab9{o:Nat}{S S':St}{a:Act}{w:World}{ι:Inj}{R:Nat->Prop}(hs:zt1 o S=some S')(h:Rel C S a w ι R):Rel C S' a w ι R:=by
 unfold zt1 at hs;generalize hlk:look o S.heap=q at hs;unfold zDk at hs
 split at hs
 ·rename_i m
  split at hs
  ·rename_i hm0;subst hm0;unfold zBD at hs
   split at hs
   ·cases hs;exact h.nils hlk
   ·cases hs;exact h.nilsH hlk
  rename_i hm0;generalize hes:zrz o m S.env S.heap=qe at hs;unfold zDl at hs
  split at hs
  ·rename_i es;rw[zacY hm0] at hs;have hmk:mark S.heap o=some m:=by simp [mark,hlk]
   have hvl:es.length=m/\∃u,VA w R ι (mark S.heap) (.acc o es) u:=by
    unfold zrz at hes
    rcases znb hes with hes|hes
    ·obtain⟨t,ht,hl⟩:=zWD hes;obtain⟨u,_,hv⟩:=h.env t _ ht;exact⟨hl,u,hv⟩
    ·obtain⟨q,fs,hq,e,he,j,hj,hl⟩:=zml hes;obtain⟨i,hi⟩:=zadH he
     cases h.heap _ _ hq with
     | row _ _ _ _ _ _ hel=>
      obtain⟨_,qv,_,hv⟩:=hel i e hi j _ hj;exact⟨hl,qv,hv⟩
   obtain⟨hl,u,hv⟩:=hvl;have hob:=h.heap _ _ (zaL hlk);have key:∀mk':Nat->Option Nat,mk' o=none->((∀p,p≠o->mk' p=mark S.heap p)->OB w R ι mk' o (.row (es.map .d)))/\∀(es':List D) (u:Value),es'.length=m->VA w R ι (mark S.heap) (.acc o es') u->VA w R ι mk' (.osl o 0 m) u:=by
    intro mk' hmk';refine⟨fun _=> ?_,fun es' u hlen hx=> ?_⟩
    ·cases hv with
     | accR _ _ _ _ _ _ hlt=>have:=hlt m hmk;omega
     | acc0=>simp at hl;exact absurd hl.symm hm0
     | @accC _ b s m' cap _ c T hι hmk2 _ hL hcap hsz hb hc hel=>
      cases hob with
      | accN hι'=>rw[hι] at hι';cases hι'
      | acc _ hι' hR hb' hs0 _=>
       rw[hι] at hι';cases hι';refine .row hι hR hb hs0 (fun e he=> ?_) ?_ fun i e hi j x hj=> ?_
       ·obtain⟨d,hd,rfl⟩:=zadc.1 he;exact hsz d hd
       ·rw[zadd];exact zadL (zadE _ hcap) hc
       ·rw[zadj] at hi;obtain⟨d,hd,rfl⟩:=zac2.1 hi;simp only[AV.cells,zadj] at hj;obtain⟨cd,hcd,rfl⟩:=zac2.1 hj;obtain⟨k1,q,k2,k3⟩:=(hel i d hd).v_of_cells j cd hcd;exact⟨k1,q,by rw[zcR hb] at k2;exact k2,.d k3⟩
    ·cases hx with
     | accR _ _ _ _ _ _ hlt=>have:=hlt m hmk;omega
     | acc0=>simp at hlen;exact absurd hlen.symm hm0
     | @accC _ b s m' cap _ c T hι hmk2 _ hL hcap hsz hb hc hel=>
      have:=VA.osl (w:=w) (R:=R) (mk:=mk') (off:=0) (len:=es'.length) (cap:=cap) hι hmk' hb hcap (by simpa using hc) hL;simp only[Nat.zero_mul] at this;rw[hlen] at this ⊢;exact this
   unfold zDm at hs
   by_cases hh:zaE o S.heap=false
   ·rw[zacY hh] at hs
    cases hs
    have hmk':mark (zY o (.row (es.map .d)) S.heap) o=none:=by rw[zeO]
    have hk:=key _ hmk';refine h.recast (g:=zgV o m) hh (hk.1 fun p hp=>zeP hp) fun x u hx=>⟨fun hr=> ?_,fun hr=> ?_⟩
    ·unfold zgV
     split
     ·rename_i p es';have hp:p=o:=by simpa [AV.refs] using hr
      rw[zacY hp];subst hp
      split
      ·rename_i hlen;exact hk.2 _ _ hlen hx
      ·exact .undef
     ·rw[zacY hr];exact .undef
    ·unfold zgV
     split
     ·rename_i p es';have hp:¬p=o:=by simpa [AV.refs] using hr
      rw[zacX hp]
     ·rw[zacX (by simp [hr])]
   ·rw[zacX hh] at hs
    split at hs
    rotate_left
    ·cases hs
    rename_i hokh
    cases hs
    have hmn:∀p,p≠o->mark (zY o (.row (es.map .d)) (zcW o m S.heap)) p=mark S.heap p:=fun p hp=>by rw[zeP hp,zmY]
    have hmk':mark (zY o (.row (es.map .d)) (zcW o m S.heap)) o=none:=by rw[zeO]
    have hk:=key _ hmk';have hst:∀p,p≠o->Step w w ι ι (mark S.heap) (mark (zY o (.row (es.map .d)) (zcW o m S.heap))) p:=fun p hp=>Step.other rfl (hmn p hp) fun _ _ _=>rfl;have hkeep:∀(x:AV) (u:Value),x.refs o=false->VA w R ι (mark S.heap) x u->VA w R ι (mark (zY o (.row (es.map .d)) (zcW o m S.heap))) x u:=fun x u hr hx=>
     hx.mono (fun _ h=>h) (fun _ _=>rfl) fun p hp=>hst p fun e=>by subst e;rw[hr] at hp;cases hp
    refine { h with env:=fun t x hx=> ?_,heap:=fun q ob' hq=> ?_ }
    ·obtain⟨⟨t',y⟩,hm,he⟩:=zadc.1 hx
     cases he
     obtain⟨u,h1,h2⟩:=h.env t' y hm;refine⟨u,h1,?_⟩;show VA w R ι _ (zgV o m y) u
     cases hr:y.refs o with
     | true=>
      unfold zgV
      split
      ·rename_i p es';have hp:p=o:=by simpa [AV.refs] using hr
       rw[zacY hp];subst hp
       split
       ·rename_i hlen;exact hk.2 _ _ hlen h2
       ·exact .undef
      ·rw[zacY hr];exact .undef
     | false=>
      have:zgV o m y=y:=by
       unfold zgV
       split
       ·rename_i p es';have hp:¬p=o:=by simpa [AV.refs] using hr
        rw[zacX hp]
       ·rw[zacX (by simp [hr])]
      rw[this];exact hkeep _ _ hr h2
    ·rcases zhF hq with hq2|⟨hq2,hne⟩
     ·cases hq2;exact hk.1 hmn
     ·obtain⟨ob0,hm0',hob',hrow⟩:=znA hokh hq2;subst hob';have hob0:=h.heap q ob0 hm0'
      cases ob0 with
      | acc n=>exact hob0.mono (fun _ h=>h) (fun _ _=>rfl) (fun _ _ hb=>⟨hb,rfl,fun h=>h⟩) (fun h=>h) fun p hp=>by simp [Obj.refs] at hp
      | frz n=>exact hob0.mono (fun _ h=>h) (fun _ _=>rfl) (fun _ _ hb=>⟨hb,rfl,fun h=>h⟩) (fun h=>h) fun p hp=>by simp [Obj.refs] at hp
      | mp n=>exact hob0.mono (fun _ h=>h) (fun _ _=>rfl) (fun _ _ hb=>⟨hb,rfl,fun h=>h⟩) (fun h=>h) fun p hp=>by simp [Obj.refs] at hp
      | row fs=>
       have hoke:=hrow fs rfl;simp only[zQF]
       cases hob0 with
       | row hι hR hb hs0 hsz hc hel=>
        refine .row hι hR hb hs0 (fun e he=> ?_) (by rw[ztK,zadd];exact hc) fun i e hi j x hj=> ?_
        ·rw[ztK] at he;obtain⟨e0,he0,rfl⟩:=zadc.1 he;rw[z9s];exact hsz e0 he0
        ·rw[ztK,zadj] at hi;obtain⟨e0,he0,rfl⟩:=zac2.1 hi;obtain⟨x0,hx0,hkc,rfl⟩:=z9r (zMO hoke (zadm he0)) hj;obtain⟨k1,qv,k2,k3⟩:=hel i e0 he0 j x0 hx0;refine⟨z9p k1,qv,k2,?_⟩
         by_cases hacc:∃es',x0= .acc o es'
         ·obtain⟨es',rfl⟩:=hacc;simp only[okC,if_true,beq_iff_eq] at hkc;simp only[zdk,if_true];exact hk.2 _ _ hkc k3
         ·have hr:x0.refs o=false/\zdk o m x0=x0:=by
             cases x0 with
             | acc p es'=>
              have hp:¬p=o:=fun e=>hacc ⟨es',by rw[e]⟩;exact⟨by simpa [AV.refs] using hp,by simp only[zdk,zacX hp]⟩
             | _=>exact⟨by simpa [okC] using hkc,rfl⟩
          rw[hr.2];exact hkeep _ _ hr.1 k3
  ·cases hs
 ·cases hs;exact h
 ·cases hs;exact h
 ·cases hs;exact h
 ·cases hs;exact h
theorem zab3{o:Nat}{S S':St}{a:Act}{w:World}{ι:Inj}{R:Nat->Prop}(hs:ztY o S=some S')(h:Rel C S a w ι R):Rel C S' a w ι R:=by
 unfold ztY at hs;generalize hlk:look o S.heap=q at hs;unfold zDe at hs
 split at hs
 ·rename_i es;generalize hds:zbJ es=qe at hs;unfold zDf at hs
  split at hs
  ·rename_i ds
   split at hs
   ·cases hs;exact h.nilsO
   split at hs
   rotate_left
   ·cases hs
   rename_i hc;obtain⟨hne,hh⟩:=hc
   cases hs
   have hesd:=ziS hds;have hmk':mark (zY o (.acc ds.length) S.heap) o=some ds.length:=by rw[zeO]
   have hdn:ds≠[]:=by rintro rfl;exact hne hesd
   cases h.heap _ _ (zaL hlk) with
   | @row _ b s c T hι hR hb hs0 hsz hc hel=>
    have hrd:∀(i:Nat) (d:D),ds[i]? = some d->Rd w R (.el d b (i * s)):=fun i d hi=>by
     have hei:es[i]? = some (.d d):=by rw[hesd];simp [hi]
     refine Rd.el_of_cells (fun vs hvs=> ?_) fun j cd hj=> ?_
     ·subst hvs;have:=(hel i _ hei 0 (.d (.tup vs)) rfl).1;simp [AV.cell,D.cell] at this
     ·obtain⟨k1,q,k2,k3⟩:=hel i _ hei j (.d cd) (by simp [AV.cells,hj]);exact⟨k1,q,by rw[zcR hb];exact k2,k3.of_d⟩
    have hsz':∀d∈ds,d.size=s:=fun d hd=>hsz (.d d) (by rw[hesd];exact zae7 hd);refine h.recast (g:=zjU o ds) hh ?_ fun x u hx=>⟨fun hr=> ?_,fun hr=> ?_⟩
    ·refine .acc (zaeA.2 hdn) hι hR hb hs0 ?_;rw[hesd] at hc;simpa using hc
    ·unfold zjU
     split
     ·rename_i p off len;have hp:p=o:=by simpa [AV.refs] using hr
      rw[zacY hp];subst hp
      split
      ·rename_i hcc;obtain⟨rfl,rfl⟩:=hcc;generalize hlen:ds.length=n at hx hmk'
       cases hx with
       | osl0=>exact absurd (zadN.1 hlen) hdn
       | @osl _ _ _ cap b' s' c' T' hι' hmk2 hb' hcap hc' hL=>
        rw[hι] at hι';cases hι';rw[hb] at hb';cases hb';subst hlen;rw[Nat.zero_mul];exact .accC hι hmk' (zadr _) hL hcap hsz' hb (by simpa using hc') hrd
      ·exact .undef
     ·rw[zacY hr];exact .undef
    ·unfold zjU
     split
     ·rename_i p off len;have hp:¬p=o:=by simpa [AV.refs] using hr
      rw[zacX hp]
     ·rw[zacX (by simp [hr])]
  ·cases hs
 ·cases hs;exact h
 ·cases hs;exact h
 ·cases hs;exact h
 ·cases hs;exact h
theorem z9n{o o' a b:Nat}(ha:a≠o')(hb:b≠o')(h:rnm o o' a=rnm o o' b):a=b:=by
 unfold rnm at h
 split at h<;>split at h
 ·rename_i h1 h2;rw[h1,h2]
 ·exact absurd h.symm hb
 ·exact absurd h ha
 ·exact h
theorem zab8{o o':Nat}{S S':St}{a:Act}{w:World}{ι:Inj}{R:Nat->Prop}(hs:zt0 o o' S=some S')(h:Rel C S a w ι R):∃ι',Rel C S' a w ι' R:=by
 unfold zt0 at hs;generalize hlk:look o S.heap=q at hs
 cases q with
 | none=>cases hs;exact⟨ι,h⟩
 | some ob=>
  simp only[zDj] at hs
  split at hs
  ·rename_i hc;obtain⟨hn,he,hh⟩:=hc
   cases hs
   have hn':look o' S.heap=none:=by simpa using hn
   have hmk:∀n,n≠o'->mark (zdF (rnm o o') S.heap) (rnm o o' n)=mark S.heap n:=by
    intro n hno;unfold mark;rw[zMo fun m hm e=>z9n (fun e2=>by rw[e2,hn'] at hm;cases hm) hno e]
    cases look n S.heap with
    | none=>rfl
    | some ob=>cases ob<;>rfl
   have hι:∀n,n≠o'->(fun q=>if q=o' then ι o else if q=o then none else ι q) (rnm o o' n)=ι n:=by
    intro n hno;unfold rnm
    by_cases e:n=o
    ·subst e;simp
    ·simp [e,hno]
   refine⟨fun q=>if q=o' then ι o else if q=o then none else ι q,{ h with own:= ?_,inj:= ?_,env:= ?_,heap:= ?_ }⟩
   ·intro q b s hq
    split at hq
    ·exact h.own o b s hq
    ·split at hq
     ·cases hq
     ·exact h.own q b s hq
   ·intro q q' b s s' hq hq'
    split at hq<;>split at hq'
    ·rename_i e1 e2;rw[e1,e2]
    ·split at hq'
     ·cases hq'
     ·rename_i e1 e2 e3;exact absurd (h.inj o q' b s s' hq hq') (Ne.symm e3)
    ·split at hq
     ·cases hq
     ·rename_i e1 e2 e3;exact absurd (h.inj q o b s s' hq hq') e3
    ·split at hq
     ·cases hq
     ·split at hq'
      ·cases hq'
      ·exact h.inj q q' b s s' hq hq'
   ·intro t x hx;have:∃y,(t,y)∈S.env/\x=y.ren (rnm o o'):=by
     have key:∀(E:Env),(t,x)∈znt (rnm o o') E->∃y,(t,y)∈E/\x=y.ren (rnm o o'):=by
      intro E
      induction E with
      | nil=>intro h;cases h
      | cons p l ih=>
       obtain⟨t',y⟩:=p;intro h;simp only[znt] at h
       cases h with
       | head=>exact⟨y,.head _,rfl⟩
       | tail _ h=>obtain⟨z,h1,h2⟩:=ih h;exact⟨z,.tail _ h1,h2⟩
     exact key _ hx
    obtain⟨y,hy,rfl⟩:=this;obtain⟨u,h1,h2⟩:=h.env t y hy;refine⟨u,h1,h2.ren fun n hn2=> ?_⟩;have hno:n≠o':=fun e=>by subst e;rw[zns hy he] at hn2;cases hn2
    exact⟨fun p hp=>(hι n hno).trans hp,hmk n hno⟩
   ·intro n ob' hm;obtain⟨⟨m,ob2⟩,hm2,he2⟩:=zadc.1 hm
    cases he2
    have hno:m≠o':=fun e=>by
     subst e;have hs2:(look m S.heap).isSome=true:=by
      have key:∀(l:zf),(m,ob2)∈l->(look m l).isSome=true:=by
       intro l
       induction l with
       | nil=>intro h;cases h
       | cons p l ih=>
        obtain⟨k,y⟩:=p;intro h;simp only[look]
        split
        ·rfl
        ·rename_i hne
         cases h with
         | head=>exact absurd rfl hne
         | tail _ h=>exact ih h
      exact key _ hm2
     rw[hn'] at hs2;cases hs2
    refine (h.heap m ob2 hm2).ren (hι m hno) fun n hn2=> ?_;have hno2:n≠o':=fun e=>by subst e;rw[zhz hm2 hh] at hn2;cases hn2
    exact⟨fun p hp=>(hι n hno2).trans hp,hmk n hno2⟩
  ·cases hs
theorem zT7{o:Nat}{H:zf}{E:Env}:zhX o H E=E.map fun p=>(p.1,zmi o H p.2):=by
 induction E with
 | nil=>rfl
 | cons p l ih=>obtain⟨t,x⟩:=p;simp only[zhX,ih];rfl
theorem zT5{o:Nat}{x:AV}(h:x.cell=true):(zi2 o x).cell=true:=by
 unfold zi2
 split
 ·split<;>rfl
 ·exact h
theorem zvj{o:Nat}:∀ {l:List AV},zmh o l=l.map (zi2 o)
 | []=>rfl
 | x::l=>by simp only[zmh,zac1,zvj]
theorem zG0{o:Nat}:∀ {l:List AV},zkd o l=l.map (zkc o)
 | []=>rfl
 | x::l=>by simp only[zkd,zac1,zG0]
theorem zG1{o q:Nat}{ob:Obj}:∀ {H:zf},(q,ob)∈zgc o H->∃ob0,(q,ob0)∈H/\ob=zrn o ob0
 | [],h=>by cases h
 | (q',ob')::l,h=>by
  simp only[zgc] at h
  cases h with
  | head=>exact⟨_,.head _,rfl⟩
  | tail _ h=>obtain⟨ob0,h1,h2⟩:=zG1 h;exact⟨ob0,.tail _ h1,h2⟩
theorem zMl{o q:Nat}:∀ {H:zf},look q (zgc o H)=(look q H).map (zrn o)
 | []=>rfl
 | (q',ob')::l=>by
  simp only[zgc,look]
  split
  ·rfl
  ·exact zMl
theorem zMv{o:Nat}{H:zf}:mark (zgc o H)=mark H:=funext fun p=>by
 unfold mark;rw[zMl]
 rcases look p H with _|(es|m|m|m)<;>rfl
theorem zRa{S:St}{a:Act}{w:World}{ι:Inj}{R:Nat->Prop}{o:Nat}{ob:Obj}(hlk:look o S.heap=some ob)(h:Rel C S a w ι R):Rel C ⟨zhX o S.heap S.env,zav (zbG S.heap [o]) S.heap⟩ a w ι (ze8 R ι [o]):=by
 have hf:=h.freeze (os:=[o]) (by simp [zgH,hlk]);refine { hf with env:=fun t x hx=> ?_ };rw[zT7] at hx;obtain⟨⟨t',y⟩,hm,he⟩:=zadc.1 hx
 cases he
 obtain⟨u,h1,h2⟩:=h.env t' y hm;obtain⟨u',h1',h2'⟩:=hf.env t' y hm;rw[h1] at h1'
 cases h1'
 refine⟨u,h1,?_⟩;show VA w _ ι _ (zmi o S.heap y) u;unfold zmi
 split
 ·rename_i p es
  split
  ·rename_i hp;exact .d (znO h h2 rfl fun q hq=>by simpa [AV.objs,hp] using hq)
  ·exact h2'
 ·rename_i p off len
  split
  ·rename_i hp;unfold zvk
   split
   ·rename_i d hd;exact .d (znO h h2 hd fun q hq=>by simpa [AV.objs,hp] using hq)
   ·exact h2'
  ·exact h2'
 ·exact h2'
theorem zT6{S:St}{a:Act}{w:World}{ι:Inj}{R:Nat->Prop}(h:Rel C S a w ι R){o:Nat}{mk:Nat->Option Nat}{x:AV}{u:Value}(h1:VA w R ι (mark S.heap) x u)(h2:VA w (ze8 R ι [o]) ι mk x u):VA w (ze8 R ι [o]) ι mk (zi2 o x) u:=by
 unfold zi2
 split
 ·split
  ·rename_i hp;exact .d (znO h h1 rfl fun q hq=>by simpa [AV.objs,hp] using hq)
  ·exact h2
 ·exact h2
theorem zab5{S:St}{a:Act}{w:World}{ι:Inj}{R:Nat->Prop}{o:Nat}{ob:Obj}(hlk:look o S.heap=some ob)(h:Rel C S a w ι R):Rel C ⟨zhX o S.heap S.env,zgc o (zav (zbG S.heap [o]) S.heap)⟩ a w ι (ze8 R ι [o]):=by
 have hd:=zRa hlk h;refine { hd with env:=fun t x hx=> ?_,heap:=fun q ob1 hq=> ?_ }
 ·show ∃u,zeZ C a t=some u/\VA w _ ι (mark (zgc o (zav (zbG S.heap [o]) S.heap))) x u;rw[zMv];exact hd.env t x hx
 ·show OB w _ ι (mark (zgc o (zav (zbG S.heap [o]) S.heap))) q ob1;rw[zMv];obtain⟨ob0,h1,rfl⟩:=zG1 hq;have hob:=hd.heap q ob0 h1
  cases ob0 with
  | acc n=>exact hob
  | frz n=>exact hob
  | mp n=>exact hob
  | row es=>
   have hold:OB w R ι (mark S.heap) q (.row es):=by
    rcases zBu h1 with h3|⟨h3,_⟩
    ·obtain⟨p,_,he⟩:=zadc.1 h3
     cases he
    ·exact h.heap q _ h3
   cases hob with
   | row hι' hR hb hs0 hsz hc hel=>
    cases hold with
    | row hι2 hR2 hb2 hs2 hsz2 hc2 hel2=>
     rw[hι'] at hι2
     cases hι2
     rw[hb] at hb2
     cases hb2
     show OB w _ ι _ q (.row (zkd o es));rw[zG0];have hsize:∀e:AV,(zkc o e).size=e.size:=fun e=>by
      unfold zkc
      split
      ·simp only[AV.size,zvj,zadd]
      ·rfl
     refine .row hι' hR hb hs0 (fun e he=> ?_) (by rw[zadd];exact hc) fun i e hi j x hj=> ?_
     ·obtain⟨e0,he0,rfl⟩:=zadc.1 he;rw[hsize];exact hsz e0 he0
     ·rw[zadj] at hi;obtain⟨e0,he0,rfl⟩:=zac2.1 hi;unfold zkc at hj
      split at hj
      ·rename_i cs;simp only[AV.cells,zvj,zadj] at hj;obtain⟨x0,hx0,rfl⟩:=zac2.1 hj;obtain⟨k1,qv,k2,k3⟩:=hel i _ he0 j x0 hx0;obtain⟨_,qv2,k22,k32⟩:=hel2 i _ he0 j x0 hx0;rw[k2] at k22
       cases k22
       exact⟨zT5 k1,qv,k2,zT6 h k32 k3⟩
      ·exact hel i _ he0 j x hj
theorem zab6{S S':St}{a:Act}{w:World}{ι:Inj}{R:Nat->Prop}{o:Nat}(hs:ztZ o S=some S')(h:Rel C S a w ι R):∃R',Rel C S' a w ι R':=by
 unfold ztZ zDh at hs
 split at hs
 ·rename_i ob hlk;unfold zvl at hs
  split at hs
  ·cases hs
   exact⟨_,zRa hlk h⟩
  ·cases hs
   exact⟨_,zab5 hlk h⟩
 ·cases hs;exact⟨R,h⟩
theorem zI3{S':St}{a:Act}{w:World}:∀ {gs:List Nat} {S:St} {ι:Inj} {R:Nat->Prop},zfA gs S=some S'->Rel C S a w ι R->∃ι' R',Rel C S' a w ι' R':=by
 intro gs
 induction gs with
 | nil=>intro S ι R hs h;cases hs;exact⟨ι,R,h⟩
 | cons g gs ih=>
  intro S ι R hs h;obtain⟨S1,h1,h2⟩:=zac0.1 hs;have:∃ι' R',Rel C S1 a w ι' R':=by
   unfold zr5 at h1
   split at h1
   ·split at h1
    ·exact⟨ι,R,zab9 h1 h⟩
    ·exact⟨ι,R,zab3 h1 h⟩
   ·split at h1
    ·obtain⟨ι',h'⟩:=zab8 h1 h;exact⟨ι',R,h'⟩
    ·obtain⟨R',h'⟩:=zab6 h1 h;exact⟨ι,R',h'⟩
  obtain⟨ι',R',h'⟩:=this;exact ih h2 h'
end Go.Sim

namespace Go.Sim
open Go (World Value Addr TypeId Act)
variable {P:Program} {C:Ctx}
def fr4(dst:Nat):List Nat:=[dst,dst+10000,dst+20000,dst+30000]
def zcB(H:zf)(dst:Nat)(ms:List Bool)(args:List AV):List Nat×List Nat:=
 (zbZ H ms args++(zaQ ms args++fr4 dst),zbZ H ms args++fr4 dst)
theorem z1V{cs:List D}:AV.objsL (cs.map .d)=[]:=by
 induction cs with
 | nil=>rfl
 | cons x xs ih=>simp [AV.objsL,AV.objs,ih]
theorem zQ8{H H2:zf}:∀ {x:AV},(∀o∈x.objs,look o H2=look o H)->toD H2 x=toD H x:=by
 intro x;refine AV.rec (motive_1:=fun x=>(∀o∈x.objs,look o H2=look o H)->toD H2 x=toD H x) (motive_2:=fun xs=>(∀o∈AV.objsL xs,look o H2=look o H)->toD.toDs H2 xs=toD.toDs H xs) ?_ ?_ ?_ ?_ ?_ ?_ ?_ ?_ ?_ ?_ ?_ ?_ ?_ ?_ x
 ·intro _ _;rfl
 ·intro o i off h
  cases off with
  | zero=>simp only[toD];rw[h o (by simp [AV.objs])]
  | succ n=>simp [toD]
 ·intro o off len h;simp only[toD];rw[h o (by simp [AV.objs])]
 ·intro _ _ _;rfl
 ·intro _ _ _;rfl
 ·intro _ _;rfl
 ·intro cs ih h;simp only[toD];rw[ih (by simpa [AV.objs] using h)]
 ·intro cs ih h;simp only[toD];rw[ih (by simpa [AV.objs] using h)]
 ·intro f cs ih h;simp only[toD];rw[ih (by simpa [AV.objs] using h)]
 ·intro _ _;rfl
 ·intro _ _;rfl
 ·intro _;rfl
 ·intro _;rfl
 ·intro y ys h1 h2 h;simp only[toD.toDs];rw[h1 fun o ho=>h o (by simp [AV.objsL,ho]),h2 fun o ho=>h o (by simp [AV.objsL,ho])]
theorem zGM{H H2:zf}:∀ {ms:List Bool} {xs:List AV},(∀o∈zaQ ms xs,look o H2=look o H)->zb5 H2 ms xs=zb5 H ms xs:=by
 intro ms xs
 induction xs generalizing ms with
 | nil=>intro _;cases ms<;>rfl
 | cons x xs ih=>
  intro h
  match ms with
  | []=>
   simp only[zb5];rw[zQ8 fun o ho=>h o (by simp [zaQ,ho]),ih fun o ho=>h o (by simp [zaQ,ho])]
  | false::ms=>
   simp only[zb5];rw[zQ8 fun o ho=>h o (by simp [zaQ,ho]),ih fun o ho=>h o (by simp [zaQ,ho])]
  | true::ms=>
   simp only[zb5];rw[ih fun o ho=>h o (by simp [zaQ,ho])]
theorem zQm{H H2:zf}{ns:List Nat}(h:∀o∈ns,look o H2=look o H):zfO H2 ns=zfO H ns:=by
 unfold zfO
 congr 1
 have:∀l:List Nat,(∀o∈l,look o H2=look o H)->l.flatMap (zlj H2)=l.flatMap (zlj H):=by
  intro l
  induction l with
  | nil=>intro _;rfl
  | cons o l ih=>
   intro hl;simp only[List.flatMap_cons];rw[ih fun q hq=>hl q (.tail _ hq)]
   congr 1
   simp only[zlj,hl o (.head _)]
 exact this ns h
theorem zBA{H H2:zf}{ms:List Bool}{args:List AV}(h:∀o∈zbZ H ms args,look o H2=look o H):zbZ H2 ms args=zbZ H ms args:=by
 have h1:∀o∈zfO H (zds [] (zcD ms args)),look o H2=look o H:=fun o ho=>h o (zf7 _ _ ho);have h0:∀o∈zds [] (zcD ms args),look o H2=look o H:=fun o ho=>h1 o (zf7 _ _ ho);unfold zbZ;rw[zQm h0,zQm h1]
theorem zGI{F:zbd}(hF:FOK P F){E:Env}{H:zf}{dst:Nat}{ms:List Bool}{f:FuncId}{args:List AV}{v:AV}{δ:zf}(h:zc0 F E H dst ms f args=some (v,δ)){E2:Env}{H2:zf}(hh:∀o∈(zcB H dst ms args).1,look o H2=look o H)(hf:∀n∈fr4 dst,zbg n E2=false/\zaE n H2=false):
    zc0 F E2 H2 dst ms f args=some (v,δ):=by
 unfold zc0 at h ⊢;have hns:∀o∈zbZ H ms args,look o H2=look o H:=fun o ho=>hh o (by simp [zcB,ho]);have hds:∀o∈zaQ ms args,look o H2=look o H:=fun o ho=>hh o (by simp [zcB,ho]);rw[zBA hns,zGM hds];obtain⟨aS,has,h⟩:=zac0.1 h;rw[has,zadz];have hnod:(zbZ H ms args).Nodup:=zsX _ _ _;unfold zga at h ⊢;have hok:zk0 H2 (zbZ H ms args)=zk0 H (zbZ H ms args):=by
  unfold zk0;rw[zaef,zadp,zadp];constructor
  ·intro hx o ho;have:=hx o ho;rw[hns o ho] at this;exact this
  ·intro hx o ho;rw[hns o ho];exact hx o ho
 have hos:zcm H2 (zbZ H ms args)=zcm H (zbZ H ms args):=by
  unfold zcm;exact zaer fun o ho=>by rw[hns o ho]
 rw[hok,hos]
 split at h
 ·rename_i hc;rw[zacY hc];obtain⟨⟨r,os'⟩,hf',h⟩:=zac0.1 h;rw[hf',zadz];simp only[zac7] at hc;obtain⟨_,_,hWF⟩:=hF f _ _ r os' hf' (fun⟨n,ob⟩ hm=>by
   obtain⟨o,ho,_,h2⟩:=zsW hm;have:=zadp.1 hc.1 o ho
   split at this
   ·rename_i es hes;exact⟨_,by rw[h2,hes];rfl⟩
   ·cases this) (fun i p hp=>(zs0 hnod i p hp).1)
  unfold zfc at h ⊢
  split at h
  ·rename_i hc2;simp only[zac7] at hc2;have:zmp E2 H2 dst (zbZ H ms args) os'=true:=by
    refine zadp.2 fun p hp=> ?_;have h1:=zadp.1 hc2.1 p hp;simp only[zadT,zac7,decide_eq_true_eq] at h1 ⊢
    rcases h1 with h1|h1
    ·exact .inl h1
    ·rcases hWF.names p.1 (zsm (x:=p.2) hp) with h2|⟨h2,_⟩
     ·have hm:dst+10000 * p.1∈fr4 dst:=by
         have:p.1=0\/p.1=1\/p.1=2\/p.1=3:=by omega
         rcases this with h|h|h|h<;>simp [fr4,h]
      obtain⟨h3,h4⟩:=hf _ hm;exact .inr ⟨⟨by simp [h3],by simp [h4]⟩,h1.2⟩
     ·exact .inl h2
   rw[zacY (by simp only[zac7];exact⟨this,hc2.2⟩)];exact h
  ·cases h
 ·cases h
theorem zCP{ρ:Nat->Nat}{x:AV}{o:Nat}(h:(x.ren ρ).refs o=true):∃q,x.refs q=true/\o=ρ q:=by
 have key:∀x:AV,(x.ren ρ).refs o=true->∃q,x.refs q=true/\o=ρ q:=by
  intro x;refine AV.rec (motive_1:=fun x=>(x.ren ρ).refs o=true->∃q,x.refs q=true/\o=ρ q) (motive_2:=fun xs=>AV.refsL o (AV.renL ρ xs)=true->∃q,AV.refsL q xs=true/\o=ρ q) ?_ ?_ ?_ ?_ ?_ ?_ ?_ ?_ ?_ ?_ ?_ ?_ ?_ ?_ x
  ·intro _ h;simp [AV.ren,AV.refs] at h
  ·intro p i off h;simp only[AV.ren,AV.refs,beq_iff_eq] at h;exact⟨p,by simp [AV.refs],h.symm⟩
  ·intro p i off h;simp only[AV.ren,AV.refs,beq_iff_eq] at h;exact⟨p,by simp [AV.refs],h.symm⟩
  ·intro p es h;simp only[AV.ren,AV.refs,beq_iff_eq] at h;exact⟨p,by simp [AV.refs],h.symm⟩
  ·intro p y h;simp only[AV.ren,AV.refs,beq_iff_eq] at h;exact⟨p,by simp [AV.refs],h.symm⟩
  ·intro _ h;simp [AV.ren,AV.refs] at h
  ·intro cs ih h;exact ih h
  ·intro cs ih h;exact ih h
  ·intro f cs ih h;exact ih h
  ·intro _ h;simp [AV.ren,AV.refs] at h
  ·intro p h;simp only[AV.ren,AV.refs,beq_iff_eq] at h;exact⟨p,by simp [AV.refs],h.symm⟩
  ·intro h;simp [AV.ren,AV.refs] at h
  ·intro h;simp [AV.renL,AV.refsL] at h
  ·intro y ys h1 h2 h;simp only[AV.renL,AV.refsL,zadT] at h
   rcases h with h|h
   ·obtain⟨q,k1,k2⟩:=h1 h;exact⟨q,by simp [AV.refsL,k1],k2⟩
   ·obtain⟨q,k1,k2⟩:=h2 h;exact⟨q,by simp [AV.refsL,k1],k2⟩
 exact key x h
theorem zQx{ρ:Nat->Nat}{xs:List AV}{o:Nat}(h:AV.refsL o (xs.map (AV.ren ρ))=true):∃q,AV.refsL q xs=true/\o=ρ q:=by
 induction xs with
 | nil=>simp [AV.refsL] at h
 | cons x xs ih=>
  simp only[zac1,AV.refsL,zadT] at h
  rcases h with h|h
  ·obtain⟨q,k1,k2⟩:=zCP h;exact⟨q,by simp [AV.refsL,k1],k2⟩
  ·obtain⟨q,k1,k2⟩:=ih h;exact⟨q,by simp [AV.refsL,k1],k2⟩
theorem zGJ{F:zbd}(hF:FOK P F){E:Env}{H:zf}{dst:Nat}{ms:List Bool}{f:FuncId}{args:List AV}{v:AV}{δ:zf}(h:zc0 F E H dst ms f args=some (v,δ)):
    (∀p∈δ,p.1∈(zcB H dst ms args).2)/\(∀o,v.refs o=true->o∈(zcB H dst ms args).2)/\(∀p∈δ,∀o,p.2.refs o=true->o∈(zcB H dst ms args).2):=by
 unfold zc0 at h;obtain⟨aS,has,h⟩:=zac0.1 h;have hnod:(zbZ H ms args).Nodup:=zsX _ _ _;simp only[zcB];generalize zbZ H ms args=ns at *;unfold zga at h
 split at h
 ·rename_i hc;simp only[zac7] at hc;obtain⟨⟨r,os'⟩,hf,h⟩:=zac0.1 h;obtain⟨_,_,hW⟩:=hF f _ _ r os' hf (fun⟨n,ob⟩ hm=>by
   obtain⟨o,ho,_,h2⟩:=zsW hm;have:=zadp.1 hc.1 o ho
   split at this
   ·rename_i es hes;exact⟨_,by rw[h2,hes];rfl⟩
   ·cases this) (fun i p hp=>(zs0 hnod i p hp).1)
  unfold zfc at h
  split at h
  ·cases h
   have hnl:(zcm H ns).length=ns.length:=by simp [zcm]
   rw[hnl] at hW;have hname:∀n,(look n os').isSome=true->zeq ns dst n∈ns++fr4 dst:=fun n hn=>by
    simp only[zads]
    rcases hW.names n hn with h1|⟨h1,h2⟩
    ·right;have h3:zeq ns dst n=dst+10000 * n:=by simp only[zeq];rw[zacY (by omega)]
     rw[h3];have:n=0\/n=1\/n=2\/n=3:=by omega
     rcases this with h|h|h|h<;>simp [fr4,h]
    ·left;simp only[zeq];rw[zacX (by omega),zadC,zada (by omega)];simp
   refine⟨fun p hp=> ?_,fun o ho=> ?_,fun p hp o ho=> ?_⟩
   ·obtain⟨⟨n,ob⟩,hm,rfl⟩:=zadc.1 hp;exact hname n (zsm hm)
   ·obtain⟨q,h1,rfl⟩:=zCP ho;exact hname q (hW.res q h1)
   ·obtain⟨⟨n,ob⟩,hm,rfl⟩:=zadc.1 hp
    cases ob with
    | acc n=>simp [Obj.ren,Obj.refs] at ho
    | frz m=>simp [Obj.ren,Obj.refs] at ho
    | mp m=>simp [Obj.ren,Obj.refs] at ho
    | row es=>
     simp only[Obj.ren,Obj.refs] at ho;obtain⟨q,h1,rfl⟩:=zQx ho;exact hname q (hW.resH n _ hm q h1)
  ·cases h
 ·cases h
theorem zZq{ms:List Bool}{args:List AV}{o:Nat}(h:o∈zcD ms args):AV.refsL o args=true:=by
 induction args generalizing ms with
 | nil=>cases ms<;>simp [zcD] at h
 | cons x xs ih=>
  match ms with
  | []=>simp [zcD] at h
  | false::ms=>simp only[zcD] at h;simp [AV.refsL,ih h]
  | true::ms=>
   simp only[zcD,zads] at h
   rcases h with h|h
   ·simp [AV.refsL,ztD h]
   ·simp [AV.refsL,ih h]
theorem zDJ:∀(xs ns:List Nat) {o:Nat},o∈zds ns xs->o∈ns\/o∈xs:=by
 intro xs
 induction xs with
 | nil=>intro ns o h;exact .inl h
 | cons x xs ih=>
  intro ns o h;simp only[zds] at h
  split at h
  ·rcases ih _ h with h|h
   ·exact .inl h
   ·exact .inr (.tail _ h)
  ·rcases ih _ h with h|h
   ·simp at h
    rcases h with h|h
    ·exact .inl h
    ·exact .inr (by simp [h])
   ·exact .inr (.tail _ h)
theorem z8x{H:zf}{ns:List Nat}{o:Nat}(h:o∈zfO H ns):o∈ns\/zaE o H=true:=by
 rcases zDJ _ _ h with h|h
 ·exact .inl h
 ·obtain⟨q,_,hq⟩:=List.mem_flatMap.1 h;simp only[zlj] at hq
  split at hq
  ·rename_i es hes;right
   cases hr:zaE o H with
   | true=>rfl
   | false=>
    have:=zhz (zaL hes) hr;have h2:AV.refsL o es=true:=ztD (x:= .agg es) hq;simp only[Obj.refs] at this;rw[h2] at this;cases this
  ·cases hq
theorem zMD{H:zf}{ms:List Bool}{args:List AV}{o:Nat}(h1:AV.refsL o args=false)(h2:zaE o H=false):o∉zbZ H ms args:=by
 intro h;have no:∀ {ns:List Nat},o∈zfO H ns->o∈ns:=fun h=>(z8x h).resolve_right (by simp [h2])
 rcases zDJ _ _ (no (no h)) with h|h
 ·cases h
 ·rw[zZq h] at h1;cases h1
def zdO(H:zf)(dst:Nat)(ms:List Bool)(args:List AV):List Nat×List Nat:=
 if zmq ms args.length=true then
  ((zcB H dst ms args).1++(zcB (zav (zbG H (zaQ ms args)) H) dst ms ((zb5 H ms args).getD [])).1,
   (zcB (zav (zbG H (zaQ ms args)) H) dst ms ((zb5 H ms args).getD [])).2++zaQ ms args)
 else zcB H dst ms args
theorem zCJ{o:Nat}{δ H:zf}(h1:∀p∈δ,p.2.refs o=false)(h2:zaE o H=false):zaE o (zav δ H)=false:=by
 induction δ with
 | nil=>exact h2
 | cons p δ ih=>
  obtain⟨q,ob⟩:=p;exact zfl (ih fun r hr=>h1 r (.tail _ hr)) (h1 _ (.head _))
theorem zS5{F:zbd}(hF:FOK P F){E:Env}{H:zf}{dst:Nat}{ms:List Bool}{f:FuncId}{args:List AV}{v:AV}{δ:zf}(h:zbK F E H dst ms f args=some (v,δ)){E2:Env}{H2:zf}(hh:∀o∈(zdO H dst ms args).1,look o H2=look o H)(hf:∀n∈fr4 dst,zbg n E2=false/\zaE n H2=false):
    zbK F E2 H2 dst ms f args=some (v,δ):=by
 unfold zbK at h ⊢;unfold zdO at hh
 split at h
 ·rename_i hz;rw[zacY hz] at hh ⊢;have hds:∀o∈zaQ ms args,look o H2=look o H:=fun o ho=>hh o (by simp [zcB,ho]);obtain⟨aS,has,h⟩:=zac0.1 h;rw[has] at hh;rw[zGM hds,has,zadz];unfold zgG at h ⊢;have hok:zgH H2 (zaQ ms args)=zgH H (zaQ ms args):=by
   unfold zgH;rw[zaef,zadp,zadp];exact⟨fun hx o ho=>by have:=hx o ho;rw[hds o ho] at this;exact this,fun hx o ho=>by rw[hds o ho];exact hx o ho⟩
  have hfz:zbG H2 (zaQ ms args)=zbG H (zaQ ms args):=by
   unfold zbG;refine zaer fun o ho=> ?_;unfold mark;rw[hds o ho]
  rw[hok,hfz]
  split at h
  ·rename_i hk;rw[zacY hk];obtain⟨⟨v',δ'⟩,h1,h2⟩:=zac2.1 h
   cases h2
   rw[zGI hF h1 (E2:=E2) (H2:=zav (zbG H (zaQ ms args)) H2) (fun o ho=> ?_) (fun n hn=>⟨(hf n hn).1,?_⟩)]
   ·rfl
   ·rw[zdT,zdT,hh o (by simp [ho])]
   ·rw[<- hfz];exact zCJ (fun p hp=>by obtain⟨q,_,rfl⟩:=zadc.1 hp;rfl) (hf n hn).2
  ·cases h
 ·rename_i hz;rw[zacX hz] at hh ⊢;exact zGI hF h hh hf
theorem zS6{F:zbd}(hF:FOK P F){E:Env}{H:zf}{dst:Nat}{ms:List Bool}{f:FuncId}{args:List AV}{v:AV}{δ:zf}(h:zbK F E H dst ms f args=some (v,δ)):
    (∀p∈δ,p.1∈(zdO H dst ms args).2)/\(∀o,v.refs o=true->o∈(zdO H dst ms args).2)/\(∀p∈δ,∀o,p.2.refs o=true->o∈(zdO H dst ms args).2):=by
 unfold zbK at h;unfold zdO
 split at h
 ·rename_i hz;rw[zacY hz];obtain⟨aS,has,h⟩:=zac0.1 h;rw[has];unfold zgG at h
  split at h
  ·obtain⟨⟨v',δ'⟩,h1,h2⟩:=zac2.1 h
   cases h2
   obtain⟨n1,n2,n3⟩:=zGJ hF h1;refine⟨fun p hp=> ?_,fun o ho=>zaeo _ (n2 o ho),fun p hp o ho=> ?_⟩
   ·rcases zads.1 hp with hp|hp
    ·exact zaeo _ (n1 p hp)
    ·obtain⟨q,hq,rfl⟩:=zadc.1 hp;exact zaeZ _ hq
   ·rcases zads.1 hp with hp|hp
    ·exact zaeo _ (n3 p hp o ho)
    ·obtain⟨q,hq,rfl⟩:=zadc.1 hp;simp [Obj.refs] at ho
  ·cases h
 ·rename_i hz;rw[zacX hz];exact zGJ hF h
theorem zro{o:Nat}:∀ {ms:List Bool} {xs:List AV},o∈zaQ ms xs->AV.refsL o xs=true
 | _,[],h=>by simp [zaQ] at h
 | [],x::xs,h=>by
  simp only[zaQ,zads] at h;simp only[AV.refsL,zadT]
  rcases h with h|h
  ·exact .inl (ztD h)
  ·exact .inr (zro h)
 | true::ms,x::xs,h=>by
  simp only[zaQ] at h;simp only[AV.refsL,zadT];exact .inr (zro h)
 | false::ms,x::xs,h=>by
  simp only[zaQ,zads] at h;simp only[AV.refsL,zadT]
  rcases h with h|h
  ·exact .inl (ztD h)
  ·exact .inr (zro h)
theorem zre{H:zf}{o:Nat}:∀ {ms:List Bool} {xs aS:List AV},zb5 H ms xs=some aS->AV.refsL o xs=false->AV.refsL o aS=false
 | _,[],aS,h,_=>by cases ‹List Bool› <;> (simp [zb5] at h;subst h;rfl)
 | [],x::xs,aS,h,hr=>by
  simp only[zb5] at h;obtain⟨d,_,h⟩:=zac0.1 h;obtain⟨bs,h1,rfl⟩:=zac2.1 h;simp only[AV.refsL,zaey] at hr ⊢;exact⟨rfl,zre h1 hr.2⟩
 | true::ms,x::xs,aS,h,hr=>by
  simp only[zb5] at h;obtain⟨bs,h1,rfl⟩:=zac2.1 h;simp only[AV.refsL,zaey] at hr ⊢;exact⟨hr.1,zre h1 hr.2⟩
 | false::ms,x::xs,aS,h,hr=>by
  simp only[zb5] at h;obtain⟨d,_,h⟩:=zac0.1 h;obtain⟨bs,h1,rfl⟩:=zac2.1 h;simp only[AV.refsL,zaey] at hr ⊢;exact⟨rfl,zre h1 hr.2⟩
theorem zGO{H:zf}{dst:Nat}{ms:List Bool}{args:List AV}:∀o∈(zcB H dst ms args).2,o∈(zcB H dst ms args).1:=by
 intro o ho;simp only[zcB,zads] at ho ⊢
 rcases ho with ho|ho
 ·exact .inl ho
 ·exact .inr (.inr ho)
theorem zTa{H:zf}{dst:Nat}{ms:List Bool}{args:List AV}:∀o∈(zdO H dst ms args).2,o∈(zdO H dst ms args).1:=by
 intro o ho;unfold zdO at ho ⊢
 split at ho
 ·rename_i hz;rw[zacY hz]
  rcases zads.1 ho with ho|ho
  ·exact zaeZ _ (zGO o ho)
  ·exact zaeo _ (by simp [zcB,ho])
 ·rename_i hz;rw[zacX hz];exact zGO o ho
theorem zS9{H H2:zf}{dst:Nat}{ms:List Bool}{args:List AV}{o:Nat}(hh:∀o∈(zdO H dst ms args).1,look o H2=look o H)(ha:AV.refsL o args=false)(h2:zaE o H2=false)(hn:o∉fr4 dst):o∉(zdO H dst ms args).2:=by
 unfold zdO at hh ⊢
 split
 ·rename_i hz;rw[zacY hz] at hh;have hds:∀o∈zaQ ms args,look o H2=look o H:=fun o ho=>hh o (by simp [zcB,ho]);have hfz:zbG H2 (zaQ ms args)=zbG H (zaQ ms args):=by
   unfold zbG;refine zaer fun o ho=> ?_;unfold mark;rw[hds o ho]
  simp only[zcB,zads];rintro ((hm|hm)|hm)
  ·have hnames:∀q∈zbZ (zav (zbG H (zaQ ms args)) H) ms ((zb5 H ms args).getD []),look q (zav (zbG H (zaQ ms args)) H2)=look q (zav (zbG H (zaQ ms args)) H):=fun q hq=>by
      rw[zdT,zdT,hh q (by simp [zcB,hq])]
   rw[<- zBA hnames] at hm;refine zMD ?_ (zCJ (fun p hp=>by obtain⟨q,_,rfl⟩:=zadc.1 hp;rfl) h2) hm
   cases hc:zb5 H ms args with
   | none=>rfl
   | some aS=>exact zre hc ha
  ·exact hn hm
  ·have:=zro hm;rw[ha] at this;cases this
 ·rename_i hz;rw[zacX hz] at hh;simp only[zcB,zads];rintro (hm|hm)
  ·have hnames:∀q∈zbZ H ms args,look q H2=look q H:=fun q hq=>hh q (by simp [zcB,hq]);rw[<- zBA hnames] at hm;exact zMD ha h2 hm
  ·exact hn hm
end Go.Sim
