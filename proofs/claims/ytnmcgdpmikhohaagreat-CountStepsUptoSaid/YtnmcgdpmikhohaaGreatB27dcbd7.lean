/-
  What a call looks at and writes.
-/
import Derived.Test.YtnmcgdpmikhohaaGreatBada3917
set_option linter.unusedSimpArgs false
set_option linter.unusedVariables false
set_option maxHeartbeats 10000000
set_option maxRecDepth 100000
namespace Go.Sim
open Go (World Value Addr TypeId Act)
variable {P:Program} {C:Ctx}
def ziH(o m:Nat):Env->Option (List D)
 | []=>none
 | (_,.acc p es)::l=>if p=o/\es.length=m then some es else ziH o m l
 | _::l=>ziH o m l
def zgv(o m:Nat)(x:AV):AV:=
 match x with
 | .acc p es=>if p=o then (if es.length=m then .osl o 0 m else .undef) else .acc p es
 | x=>if x.refs o then .undef else x
def znt(o m:Nat)(E:Env):Env:=E.map fun p=>(p.1,zgv o m p.2)
def zjG(o:Nat)(ds:List D)(x:AV):AV:=
 match x with
 | .osl p off len=>if p=o then (if off=0/\len=ds.length then .acc o ds else .undef) else .osl p off len
 | x=>if x.refs o then .undef else x
def zqC(o:Nat)(ds:List D)(E:Env):Env:=E.map fun p=>(p.1,zjG o ds p.2)
def zmX(o:Nat):AV->AV
 | .acc p []=>if p=o then .xsl [] else .acc p []
 | x=>x
def zh1(o:Nat):Env->Env
 | []=>[]
 | (t,x)::l=>(t,zmX o x)::zh1 o l
def okC(o m:Nat):AV->Bool
 | .acc p es=>if p=o then es.length==m else true
 | x=> !x.refs o
def zcN(o m:Nat):AV->AV
 | .acc p es=>if p=o then .osl o 0 m else .acc p es
 | x=>x
def zmZ(o m:Nat):List AV->Bool
 | []=>true
 | x::l=>okC o m x&&zmZ o m l
def zns(o m:Nat):List AV->List AV
 | []=>[]
 | x::l=>zcN o m x::zns o m l
def okE(o m:Nat):AV->Bool
 | .agg cs=>zmZ o m cs
 | x=>okC o m x
def zie(o m:Nat):AV->AV
 | .agg cs=> .agg (zns o m cs)
 | x=>zcN o m x
def zkK(o m:Nat):List AV->Bool
 | []=>true
 | x::l=>okE o m x&&zkK o m l
def zk4(o m:Nat):List AV->List AV
 | []=>[]
 | x::l=>zie o m x::zk4 o m l
def zf6(o m:Nat):zd->Bool
 | []=>true
 | (_,.row es)::l=>zkK o m es&&zf6 o m l
 | (_,.acc _)::l=>zf6 o m l
 | (_,.frz _)::l=>zf6 o m l
 | (_,.mp _)::l=>zf6 o m l
def zcs(o m:Nat):zd->zd
 | []=>[]
 | (q,.row es)::l=>(q,.row (zk4 o m es))::zcs o m l
 | (q,.acc n)::l=>(q,.acc n)::zcs o m l
 | (q,.frz n)::l=>(q,.frz n)::zcs o m l
 | (q,.mp n)::l=>(q,.mp n)::zcs o m l
def zhF(o m:Nat):List AV->Option (List D)
 | []=>none
 | .acc p es::l=>if p=o/\es.length=m then some es else zhF o m l
 | _::l=>zhF o m l
def orE{α:Type}(x:Option α):Option α->Option α
 | some a=>some a
 | none=>x
def zhG(o m:Nat):List AV->Option (List D)
 | []=>none
 | .agg cs::l=>orE (zhG o m l) (zhF o m cs)
 | x::l=>orE (zhG o m l) (zhF o m [x])
def zfW(o m:Nat):zd->Option (List D)
 | []=>none
 | (_,.row es)::l=>orE (zfW o m l) (zhG o m es)
 | (_,.acc _)::l=>zfW o m l
 | (_,.frz _)::l=>zfW o m l
 | (_,.mp _)::l=>zfW o m l
def zrr(o m:Nat)(E:Env)(H:zd):Option (List D):=orE (zfW o m H) (ziH o m E)
def zC7(o m:Nat)(E:Env)(H:zd)(es:List D)(b:Bool):Option St:=
 if b=false then some ⟨znt o m E,zP o (.row (es.map .d)) H⟩ else if zf6 o m H=true then some ⟨znt o m E,zP o (.row (es.map .d)) (zcs o m H)⟩ else none
def zC6(o m:Nat)(E:Env)(H:zd):Option (List D)->Option St
 | some es=>if m≠0 then zC7 o m E H es (zaq o H) else none
 | none=>none
def zi2(o:Nat)(x:AV):AV:=
 match x with
 | .acc p []=>if p=o then .xsl [] else .acc p []
 | x=>x
def zmV(o:Nat):List AV->List AV
 | []=>[]
 | x::l=>zi2 o x::zmV o l
def zkE(o:Nat)(x:AV):AV:=
 match x with
 | .agg cs=> .agg (zmV o cs)
 | x=>x
def zkF(o:Nat):List AV->List AV
 | []=>[]
 | x::l=>zkE o x::zkF o l
def zsR(o:Nat)(ob:Obj):Obj:=
 match ob with
 | .row es=> .row (zkF o es)
 | x=>x
def zf5(o:Nat):zd->zd
 | []=>[]
 | (q,ob)::l=>(q,zsR o ob)::zf5 o l
def zBt(o:Nat)(E:Env)(H:zd)(b:Bool):Option St:=if b=false then some ⟨zh1 o E,H⟩ else some ⟨zh1 o E,zf5 o H⟩
def zC5(o:Nat)(E:Env)(H:zd):Option Obj->Option St
 | some (.acc m)=>if m=0 then zBt o E H (zaq o H) else zC6 o m E H (zrr o m E H)
 | some (.row es)=>some ⟨E,H⟩
 | some (.frz m)=>some ⟨E,H⟩
 | some (.mp m)=>some ⟨E,H⟩
 | none=>some ⟨E,H⟩
def ztR(o:Nat)(S:St):Option St:=zC5 o S.env S.heap (look o S.heap)
def zmW(o:Nat):AV->AV
 | .osl p off 0=>if p=o then .d (.sl []) else .osl p off 0
 | x=>x
def zkG(o:Nat):Env->Env
 | []=>[]
 | (t,x)::l=>(t,zmW o x)::zkG o l
def zC0(o:Nat)(E:Env)(H:zd)(es:List AV):Option (List D)->Option St
 | some ds=>if es=[] then some ⟨zkG o E,H⟩ else if es≠[]/\zaq o H=false then some ⟨zqC o ds E,zP o (.acc ds.length) H⟩ else none
 | none=>none
def zCZ(o:Nat)(E:Env)(H:zd):Option Obj->Option St
 | some (.row es)=>zC0 o E H es (zbq es)
 | some (.acc m)=>some ⟨E,H⟩
 | some (.frz m)=>some ⟨E,H⟩
 | some (.mp m)=>some ⟨E,H⟩
 | none=>some ⟨E,H⟩
def ztO(o:Nat)(S:St):Option St:=zCZ o S.env S.heap (look o S.heap)
def rnm(o o' n:Nat):Nat:=if n=o then o' else n
def znn(ρ:Nat->Nat):Env->Env
 | []=>[]
 | (t,x)::l=>(t,x.ren ρ)::znn ρ l
def zC4(o o':Nat)(E:Env)(H:zd):Option Obj->Option St
 | some _=>if (look o' H).isNone=true/\zaX o' E=false/\zaq o' H=false then some ⟨znn (rnm o o') E,zc4 (rnm o o') H⟩ else none
 | none=>some ⟨E,H⟩
def ztQ(o o':Nat)(S:St):Option St:=zC4 o o' S.env S.heap (look o S.heap)
def zu9(x:AV):Option D->AV
 | some d=> .d d
 | none=>x
def zl6(o:Nat)(H:zd):AV->AV
 | .acc p es=>if p=o then .d (.sl es) else .acc p es
 | .osl p off len=>if p=o then zu9 (.osl p off len) (toD H (.osl p off len)) else .osl p off len
 | x=>x
def zhB(o:Nat)(H:zd):Env->Env
 | []=>[]
 | (t,x)::l=>(t,zl6 o H x)::zhB o H l
def ziD(o:Nat)(x:AV):AV:=
 match x with
 | .acc p es=>if p=o then .d (.sl es) else .acc p es
 | x=>x
def zl5(o:Nat):List AV->List AV
 | []=>[]
 | x::l=>ziD o x::zl5 o l
def zjX(o:Nat)(x:AV):AV:=
 match x with
 | .agg cs=> .agg (zl5 o cs)
 | x=>x
def zjY(o:Nat):List AV->List AV
 | []=>[]
 | x::l=>zjX o x::zjY o l
def zre(o:Nat)(ob:Obj):Obj:=
 match ob with
 | .row es=> .row (zjY o es)
 | x=>x
def zfL(o:Nat):zd->zd
 | []=>[]
 | (q,ob)::l=>(q,zre o ob)::zfL o l
def zva(o:Nat)(E:Env)(H:zd)(b:Bool):Option St:=if b=false then some ⟨zhB o H E,zak (zbn H [o]) H⟩ else some ⟨zhB o H E,zfL o (zak (zbn H [o]) H)⟩
def zC2(o:Nat)(E:Env)(H:zd):Option Obj->Option St
 | some _=>zva o E H (zaq o H)
 | none=>some ⟨E,H⟩
def ztP(o:Nat)(S:St):Option St:=zC2 o S.env S.heap (look o S.heap)
def zrY(g:Nat)(S:St):Option St:=if g<4000000 then (if g % 2=0 then ztR (g / 2) S else ztO (g / 2) S) else if g<6000000 then ztQ (g - 4000000) (g - 3500000) S else ztP (g - 6000000) S
def zfb:List Nat->St->Option St
 | [],S=>some S
 | g::gs,S=>(zrY g S).bind (zfb gs)
theorem zVV{o m:Nat}{es:List D}:∀ {E:Env},ziH o m E=some es->∃t,(t,AV.acc o es)∈E/\es.length=m:=by
 intro E
 induction E with
 | nil=>intro h;cases h
 | cons p l ih=>
  obtain⟨t,x⟩:=p;intro h
  cases x with
  | acc q es'=>
   simp only[ziH] at h
   split at h
   ·rename_i hc;obtain⟨rfl,hl⟩:=hc
    cases h;exact⟨t,.head _,hl⟩
   ·obtain⟨t',h1,h2⟩:=ih h;exact⟨t',.tail _ h1,h2⟩
  | _=>simp only[ziH] at h;obtain⟨t',h1,h2⟩:=ih h;exact⟨t',.tail _ h1,h2⟩
theorem Rel.recast {S:St} {a:Act} {w:World} {ι:Inj} {R:Nat->Prop} (h:Rel C S a w ι R) {o:Nat} {ob:Obj} {g:AV->AV} (hh:zaq o S.heap=false)
    (hob:OB w R ι (mark (zP o ob S.heap)) o ob)
    (hg:∀x u,VA w R ι (mark S.heap) x u->(x.refs o=true->VA w R ι (mark (zP o ob S.heap)) (g x) u)/\(x.refs o=false->g x=x)):
    Rel C ⟨S.env.map fun p=>(p.1,g p.2),zP o ob S.heap⟩ a w ι R:=by
 have hst:∀p,p≠o->Step w w ι ι (mark S.heap) (mark (zP o ob S.heap)) p:=fun p hp=>Step.other rfl (zej hp) fun _ _ _=>rfl;refine { h with env:=fun t x hx=> ?_,heap:=fun q ob' hq=> ?_ }
 ·obtain⟨⟨t',y⟩,hm,he⟩:=zaby.1 hx
  cases he
  obtain⟨u,h1,h2⟩:=h.env t' y hm;refine⟨u,h1,?_⟩
  cases hr:y.refs o with
  | true=>exact (hg y u h2).1 hr
  | false=>
   show VA w R ι _ (g y) u;rw[(hg y u h2).2 hr];exact h2.mono (fun _ h=>h) (fun _ _=>rfl) fun p hp=>hst p fun e=>by subst e;rw[hr] at hp;cases hp
 ·rcases zhi hq with hq2|⟨hq2,hne⟩
  ·cases hq2;exact hob
  ·exact (h.heap q ob' hq2).mono (fun _ h=>h) (fun _ _=>rfl) (fun _ _ hb=>⟨hb,rfl,fun h=>h⟩) (fun h=>h) fun p hp=>hst p fun e=>by
      rw[e] at hp;have:=zhd (l:=S.heap) hq2 hh;rw[hp] at this;cases this
theorem zZ9{w:World}{R:Nat->Prop}{ι:Inj}{mk:Nat->Option Nat}{o:Nat}{x:AV}{u:Value}(hι:ι o=none)(hm:mk o=some 0)(h:VA w R ι mk x u):VA w R ι mk (zmX o x) u:=by
 unfold zmX
 split
 ·split
  ·rename_i hp;subst hp
   cases h with
   | accR _ _ _ _ _ _ hlt=>have:=hlt 0 hm;simp at this
   | accC hι'=>rw[hι] at hι';cases hι'
   | acc0=>exact .xsl .sl0
  ·exact h
 ·exact h
theorem zZ7{w:World}{R:Nat->Prop}{ι:Inj}{mk:Nat->Option Nat}{o:Nat}{x:AV}{u:Value}(h:VA w R ι mk x u):VA w R ι mk (zmW o x) u:=by
 unfold zmW
 split
 ·split
  ·cases h<;>exact .d .sl0
  ·exact h
 ·exact h
theorem zZ6{o:Nat}{E:Env}:zkG o E=E.map fun p=>(p.1,zmW o p.2):=by
 induction E with
 | nil=>rfl
 | cons p l ih=>obtain⟨t,x⟩:=p;simp only[zkG,ih];rfl
theorem Rel.nilsO{S:St}{a:Act}{w:World}{ι:Inj}{R:Nat->Prop}(h:Rel C S a w ι R){o:Nat}:Rel C ⟨zkG o S.env,S.heap⟩ a w ι R:=by
 refine { h with env:=fun t x hx=> ?_ };rw[zZ6] at hx;obtain⟨⟨t',y⟩,hm,he⟩:=zaby.1 hx
 cases he
 obtain⟨u,h1,h2⟩:=h.env t' y hm;exact⟨u,h1,zZ7 h2⟩
theorem zZ5{o:Nat}{E:Env}:zh1 o E=E.map fun p=>(p.1,zmX o p.2):=by
 induction E with
 | nil=>rfl
 | cons p l ih=>obtain⟨t,x⟩:=p;simp only[zh1,ih];rfl
theorem Rel.nils{S:St}{a:Act}{w:World}{ι:Inj}{R:Nat->Prop}(h:Rel C S a w ι R){o:Nat}(hlk:look o S.heap=some (.acc 0)):Rel C ⟨zh1 o S.env,S.heap⟩ a w ι R:=by
 have hι:ι o=none:=by
  cases h.heap _ _ (zav hlk) with
  | acc hpos=>exact absurd hpos (by decide)
  | accN hι=>exact hι
 have hmk:mark S.heap o=some 0:=by simp [mark,hlk]
 refine { h with env:=fun t x hx=> ?_ };rw[zZ5] at hx;obtain⟨⟨t',y⟩,hm,he⟩:=zaby.1 hx
 cases he
 obtain⟨u,h1,h2⟩:=h.env t' y hm;exact⟨u,h1,zZ9 hι hmk h2⟩
theorem zZ3{o:Nat}{x:AV}(h:x.cell=true):(zi2 o x).cell=true:=by
 unfold zi2
 split
 ·split<;>rfl
 ·exact h
theorem zBs{o:Nat}:∀ {l:List AV},zmV o l=l.map (zi2 o)
 | []=>rfl
 | x::l=>by simp only[zmV,zabs,zBs]
theorem zMx{o:Nat}:∀ {l:List AV},zkF o l=l.map (zkE o)
 | []=>rfl
 | x::l=>by simp only[zkF,zabs,zMx]
theorem zMy{o q:Nat}{ob:Obj}:∀ {H:zd},(q,ob)∈zf5 o H->∃ob0,(q,ob0)∈H/\ob=zsR o ob0
 | [],h=>by cases h
 | (q',ob')::l,h=>by
  simp only[zf5] at h
  cases h with
  | head=>exact⟨_,.head _,rfl⟩
  | tail _ h=>obtain⟨ob0,h1,h2⟩:=zMy h;exact⟨ob0,.tail _ h1,h2⟩
theorem zMc{o q:Nat}:∀ {H:zd},look q (zf5 o H)=(look q H).map (zsR o)
 | []=>rfl
 | (q',ob')::l=>by
  simp only[zf5,look]
  split
  ·rfl
  ·exact zMc
theorem zMl{o:Nat}{H:zd}:mark (zf5 o H)=mark H:=funext fun p=>by
 unfold mark;rw[zMc]
 rcases look p H with _|(es|m|m|m)<;>rfl
theorem zZ4{w:World}{R:Nat->Prop}{ι:Inj}{mk:Nat->Option Nat}{o:Nat}{x:AV}{u:Value}(hι:ι o=none)(hm:mk o=some 0)(h:VA w R ι mk x u):VA w R ι mk (zi2 o x) u:=by
 unfold zi2
 split
 ·split
  ·rename_i hp;subst hp
   cases h with
   | accR _ _ _ _ _ _ hlt=>have:=hlt 0 hm;simp at this
   | accC hι'=>rw[hι] at hι';cases hι'
   | acc0=>exact .xsl .sl0
  ·exact h
 ·exact h
theorem Rel.nilsH{S:St}{a:Act}{w:World}{ι:Inj}{R:Nat->Prop}(h:Rel C S a w ι R){o:Nat}(hlk:look o S.heap=some (.acc 0)):Rel C ⟨zh1 o S.env,zf5 o S.heap⟩ a w ι R:=by
 have h:=h.nils hlk;have hι:ι o=none:=by
  cases h.heap _ _ (zav hlk) with
  | acc hpos=>exact absurd hpos (by decide)
  | accN hι=>exact hι
 have hmk:mark S.heap o=some 0:=by simp [mark,hlk]
 refine { h with env:=fun t x hx=> ?_,heap:=fun q ob hq=> ?_ }
 ·show ∃u,zeu C a t=some u/\VA w R ι (mark (zf5 o S.heap)) x u;rw[zMl];exact h.env t x hx
 ·show OB w R ι (mark (zf5 o S.heap)) q ob;rw[zMl];obtain⟨ob0,h1,rfl⟩:=zMy hq;have hob:=h.heap q ob0 h1
  cases ob0 with
  | acc n=>exact hob
  | frz n=>exact hob
  | mp n=>exact hob
  | row es=>
   cases hob with
   | row hι' hR hb hs0 hsz hc hel=>
    show OB w R ι _ q (.row (zkF o es));rw[zMx];have hsize:∀e:AV,(zkE o e).size=e.size:=fun e=>by
     unfold zkE
     split
     ·simp only[AV.size,zBs,zabE]
     ·rfl
    refine .row hι' hR hb hs0 (fun e he=> ?_) (by rw[zabE];exact hc) fun i e hi j x hj=> ?_
    ·obtain⟨e0,he0,rfl⟩:=zaby.1 he;rw[hsize];exact hsz e0 he0
    ·rw[zabI] at hi;obtain⟨e0,he0,rfl⟩:=zabr.1 hi;unfold zkE at hj
     split at hj
     ·rename_i cs;simp only[AV.cells,zBs,zabI] at hj;obtain⟨x0,hx0,rfl⟩:=zabr.1 hj;obtain⟨k1,qv,k2,k3⟩:=hel i _ he0 j x0 hx0;exact⟨zZ3 k1,qv,k2,zZ4 hι hmk k3⟩
     ·exact hel i _ he0 j x hj
theorem z7P{o m:Nat}{x:AV}:(zcN o m x).size=x.size:=by
 unfold zcN
 split
 ·split<;>rfl
 ·rfl
theorem z7O{o m:Nat}{x:AV}(h:x.cell=true):(zcN o m x).cell=true:=by
 unfold zcN
 split
 ·split<;>rfl
 ·exact h
theorem zCK{o m:Nat}:∀ {l:List AV},zns o m l=l.map (zcN o m)
 | []=>rfl
 | x::l=>by simp only[zns,zabs,zCK]
theorem zty{o m:Nat}:∀ {l:List AV},zk4 o m l=l.map (zie o m)
 | []=>rfl
 | x::l=>by simp only[zk4,zabs,zty]
theorem zMD{o m:Nat}{x:AV}:∀ {l:List AV},zmZ o m l=true->x∈l->okC o m x=true
 | [],_,h=>by cases h
 | y::l,hk,h=>by
  simp only[zmZ,zabH] at hk
  cases h with
  | head=>exact hk.1
  | tail _ h=>exact zMD hk.2 h
theorem zME{o m:Nat}{x:AV}:∀ {l:List AV},zkK o m l=true->x∈l->okE o m x=true
 | [],_,h=>by cases h
 | y::l,hk,h=>by
  simp only[zkK,zabH] at hk
  cases h with
  | head=>exact hk.1
  | tail _ h=>exact zME hk.2 h
theorem z7R{o m:Nat}{x:AV}:(zie o m x).size=x.size:=by
 unfold zie
 split
 ·simp only[AV.size,zCK,zabE]
 ·exact z7P
theorem z7Q{o m:Nat}{e x':AV}{j:Nat}(hk:okE o m e=true)(h:(zie o m e).cells[j]? = some x'):∃x,e.cells[j]? = some x/\okC o m x=true/\x'=zcN o m x:=by
 have one:∀e:AV,e.cells=[e]->okC o m e=true->(zcN o m e).cells=[zcN o m e]->(zcN o m e).cells[j]? = some x'->∃x,e.cells[j]? = some x/\okC o m x=true/\x'=zcN o m x:=by
  intro e h1 h2 h3 h4;rw[h3] at h4
  match j,h4 with
  | 0,h4=>simp at h4;subst h4;exact⟨e,by rw[h1];rfl,h2,rfl⟩
  | n+1,h4=>simp at h4
 cases e with
 | agg cs=>
  simp only[zie,AV.cells,zCK,zabI] at h;obtain⟨x,h1,h2⟩:=zabr.1 h;exact⟨x,h1,zMD hk (zabK h1),h2.symm⟩
 | d y=>
  simp only[zie,zcN,AV.cells,zabI] at h;obtain⟨c,h1,h2⟩:=zabr.1 h;subst h2;exact⟨.d c,by simp [AV.cells,h1],rfl,rfl⟩
 | acc p es=>exact one _ rfl hk (by unfold zcN;simp only;split<;>rfl) h
 | ref p i f=>exact one _ rfl hk rfl h
 | osl p i f=>exact one _ rfl hk rfl h
 | pe p i=>exact one _ rfl hk rfl h
 | xsl p=>exact one _ rfl hk rfl h
 | tup p=>exact one _ rfl hk rfl h
 | fn p i=>exact one _ rfl hk rfl h
 | nl p=>exact one _ rfl hk rfl h
 | mpr p=>exact one _ rfl hk rfl h
 | undef=>exact one _ rfl hk rfl h
def zQu(o m:Nat):Obj->Obj
 | .row es=> .row (zk4 o m es)
 | x=>x
theorem znu{o m:Nat}{q:Nat}{ob:Obj}:∀ {H:zd},zf6 o m H=true->(q,ob)∈zcs o m H->∃ob0,(q,ob0)∈H/\ob=zQu o m ob0/\(∀es,ob0= .row es->zkK o m es=true)
 | [],_,h=>by cases h
 | (q',.row es)::l,hk,h=>by
  simp only[zf6,zabH] at hk;simp only[zcs] at h
  cases h with
  | head=>exact⟨_,.head _,rfl,fun es' e=>by cases e;exact hk.1⟩
  | tail _ h=>obtain⟨ob0,h1,h2,h3⟩:=znu hk.2 h;exact⟨ob0,.tail _ h1,h2,h3⟩
 | (q',.acc n)::l,hk,h=>by
  simp only[zf6] at hk;simp only[zcs] at h
  cases h with
  | head=>exact⟨_,.head _,rfl,fun es' e=>by cases e⟩
  | tail _ h=>obtain⟨ob0,h1,h2,h3⟩:=znu hk h;exact⟨ob0,.tail _ h1,h2,h3⟩
 | (q',.frz n)::l,hk,h=>by
  simp only[zf6] at hk;simp only[zcs] at h
  cases h with
  | head=>exact⟨_,.head _,rfl,fun es' e=>by cases e⟩
  | tail _ h=>obtain⟨ob0,h1,h2,h3⟩:=znu hk h;exact⟨ob0,.tail _ h1,h2,h3⟩
 | (q',.mp n)::l,hk,h=>by
  simp only[zf6] at hk;simp only[zcs] at h
  cases h with
  | head=>exact⟨_,.head _,rfl,fun es' e=>by cases e⟩
  | tail _ h=>obtain⟨ob0,h1,h2,h3⟩:=znu hk h;exact⟨ob0,.tail _ h1,h2,h3⟩
theorem zmP{o m q:Nat}:∀ {H:zd},mark (zcs o m H) q=mark H q
 | []=>rfl
 | (q',.row es)::l=>by
  have ih:=zmP (o:=o) (m:=m) (q:=q) (H:=l);unfold mark at ih ⊢;simp only[zcs,Go.Sim.look]
  by_cases h:q'=q
  ·rw[zabo h,zabo h]
  ·rw[zabn h,zabn h];exact ih
 | (q',.acc n)::l=>by
  have ih:=zmP (o:=o) (m:=m) (q:=q) (H:=l);unfold mark at ih ⊢;simp only[zcs,Go.Sim.look]
  by_cases h:q'=q
  ·rw[zabo h,zabo h]
  ·rw[zabn h,zabn h];exact ih
 | (q',.frz n)::l=>by
  have ih:=zmP (o:=o) (m:=m) (q:=q) (H:=l);unfold mark at ih ⊢;simp only[zcs,Go.Sim.look]
  by_cases h:q'=q
  ·rw[zabo h,zabo h]
  ·rw[zabn h,zabn h];exact ih
 | (q',.mp n)::l=>by
  have ih:=zmP (o:=o) (m:=m) (q:=q) (H:=l);unfold mark at ih ⊢;simp only[zcs,Go.Sim.look]
  by_cases h:q'=q
  ·rw[zabo h,zabo h]
  ·rw[zabn h,zabn h];exact ih
theorem zm2{α:Type}{x y:Option α}{a:α}(h:orE x y=some a):y=some a\/x=some a:=by
 cases y with
 | some b=>exact .inl h
 | none=>exact .inr h
theorem ziI{o m:Nat}{es:List D}:∀ {l:List AV},zhF o m l=some es->AV.acc o es∈l/\es.length=m
 | [],h=>by cases h
 | x::l,h=>by
  cases x with
  | acc q es'=>
   simp only[zhF] at h
   split at h
   ·rename_i hc;obtain⟨rfl,hl⟩:=hc
    cases h;exact⟨.head _,hl⟩
   ·exact⟨.tail _ (ziI h).1,(ziI h).2⟩
  | _=>simp only[zhF] at h;exact⟨.tail _ (ziI h).1,(ziI h).2⟩
theorem zrs{o m:Nat}{es:List D}:∀ {l:List AV},zhG o m l=some es->∃e∈l,∃j:Nat,e.cells[j]? = some (AV.acc o es)/\es.length=m
 | [],h=>by cases h
 | x::l,h=>by
  cases x with
  | agg cs=>
   simp only[zhG] at h
   rcases zm2 h with h|h
   ·obtain⟨h1,h2⟩:=ziI h;obtain⟨j,hj⟩:=zab6 h1;exact⟨_,.head _,j,hj,h2⟩
   ·obtain⟨e,h1,h2⟩:=zrs h;exact⟨e,.tail _ h1,h2⟩
  | acc p es'=>
   simp only[zhG] at h
   rcases zm2 h with h|h
   ·obtain⟨h1,h2⟩:=ziI h;simp only[zab1] at h1;exact⟨_,.head _,0,by rw[<- h1];rfl,h2⟩
   ·obtain⟨e,h1,h2⟩:=zrs h;exact⟨e,.tail _ h1,h2⟩
  | _=>
   simp only[zhG] at h
   rcases zm2 h with h|h
   ·obtain⟨h1,h2⟩:=ziI h;simp at h1
   ·obtain⟨e,h1,h2⟩:=zrs h;exact⟨e,.tail _ h1,h2⟩
theorem zma{o m:Nat}{es:List D}:∀ {H:zd},zfW o m H=some es->∃q fs,(q,Obj.row fs)∈H/\∃e∈fs,∃j:Nat,e.cells[j]? = some (AV.acc o es)/\es.length=m
 | [],h=>by cases h
 | (q,.row fs)::l,h=>by
  simp only[zfW] at h
  rcases zm2 h with h|h
  ·exact⟨q,fs,.head _,zrs h⟩
  ·obtain⟨q,fs,h1,h2⟩:=zma h;exact⟨q,fs,.tail _ h1,h2⟩
 | (q,.acc n)::l,h=>by
  simp only[zfW] at h;obtain⟨q,fs,h1,h2⟩:=zma h;exact⟨q,fs,.tail _ h1,h2⟩
 | (q,.frz n)::l,h=>by
  simp only[zfW] at h;obtain⟨q,fs,h1,h2⟩:=zma h;exact⟨q,fs,.tail _ h1,h2⟩
 | (q,.mp n)::l,h=>by
  simp only[zfW] at h;obtain⟨q,fs,h1,h2⟩:=zma h;exact⟨q,fs,.tail _ h1,h2⟩
theorem zaay{o:Nat}{S S':St}{a:Act}{w:World}{ι:Inj}{R:Nat->Prop}(hs:ztR o S=some S')(h:Rel C S a w ι R):Rel C S' a w ι R:=by
 unfold ztR at hs;generalize hlk:look o S.heap=q at hs;unfold zC5 at hs
 split at hs
 ·rename_i m
  split at hs
  ·rename_i hm0;subst hm0;unfold zBt at hs
   split at hs
   ·cases hs;exact h.nils hlk
   ·cases hs;exact h.nilsH hlk
  rename_i hm0;generalize hes:zrr o m S.env S.heap=qe at hs;unfold zC6 at hs
  split at hs
  ·rename_i es;rw[zabo hm0] at hs;have hmk:mark S.heap o=some m:=by simp [mark,hlk]
   have hvl:es.length=m/\∃u,VA w R ι (mark S.heap) (.acc o es) u:=by
    unfold zrr at hes
    rcases zm2 hes with hes|hes
    ·obtain⟨t,ht,hl⟩:=zVV hes;obtain⟨u,_,hv⟩:=h.env t _ ht;exact⟨hl,u,hv⟩
    ·obtain⟨q,fs,hq,e,he,j,hj,hl⟩:=zma hes;obtain⟨i,hi⟩:=zab6 he
     cases h.heap _ _ hq with
     | row _ _ _ _ _ _ hel=>
      obtain⟨_,qv,_,hv⟩:=hel i e hi j _ hj;exact⟨hl,qv,hv⟩
   obtain⟨hl,u,hv⟩:=hvl;have hob:=h.heap _ _ (zav hlk);have key:∀mk':Nat->Option Nat,mk' o=none->((∀p,p≠o->mk' p=mark S.heap p)->OB w R ι mk' o (.row (es.map .d)))/\∀(es':List D) (u:Value),es'.length=m->VA w R ι (mark S.heap) (.acc o es') u->VA w R ι mk' (.osl o 0 m) u:=by
    intro mk' hmk';refine⟨fun _=> ?_,fun es' u hlen hx=> ?_⟩
    ·cases hv with
     | accR _ _ _ _ _ _ hlt=>have:=hlt m hmk;omega
     | acc0=>simp at hl;exact absurd hl.symm hm0
     | @accC _ b s m' cap _ c T hι hmk2 _ hL hcap hsz hb hc hel=>
      cases hob with
      | accN hι'=>rw[hι] at hι';cases hι'
      | acc _ hι' hR hb' hs0 _=>
       rw[hι] at hι';cases hι';refine .row hι hR hb hs0 (fun e he=> ?_) ?_ fun i e hi j x hj=> ?_
       ·obtain⟨d,hd,rfl⟩:=zaby.1 he;exact hsz d hd
       ·rw[zabE];exact zaca (zab2 _ hcap) hc
       ·rw[zabI] at hi;obtain⟨d,hd,rfl⟩:=zabr.1 hi;simp only[AV.cells,zabI] at hj;obtain⟨cd,hcd,rfl⟩:=zabr.1 hj;obtain⟨k1,q,k2,k3⟩:=(hel i d hd).v_of_cells j cd hcd;exact⟨k1,q,by rw[zcq hb] at k2;exact k2,.d k3⟩
    ·cases hx with
     | accR _ _ _ _ _ _ hlt=>have:=hlt m hmk;omega
     | acc0=>simp at hlen;exact absurd hlen.symm hm0
     | @accC _ b s m' cap _ c T hι hmk2 _ hL hcap hsz hb hc hel=>
      have:=VA.osl (w:=w) (R:=R) (mk:=mk') (off:=0) (len:=es'.length) (cap:=cap) hι hmk' hb hcap (by simpa using hc) hL;simp only[Nat.zero_mul] at this;rw[hlen] at this ⊢;exact this
   unfold zC7 at hs
   by_cases hh:zaq o S.heap=false
   ·rw[zabo hh] at hs
    cases hs
    have hmk':mark (zP o (.row (es.map .d)) S.heap) o=none:=by rw[zei]
    have hk:=key _ hmk';refine h.recast (g:=zgv o m) hh (hk.1 fun p hp=>zej hp) fun x u hx=>⟨fun hr=> ?_,fun hr=> ?_⟩
    ·unfold zgv
     split
     ·rename_i p es';have hp:p=o:=by simpa [AV.refs] using hr
      rw[zabo hp];subst hp
      split
      ·rename_i hlen;exact hk.2 _ _ hlen hx
      ·exact .undef
     ·rw[zabo hr];exact .undef
    ·unfold zgv
     split
     ·rename_i p es';have hp:¬p=o:=by simpa [AV.refs] using hr
      rw[zabn hp]
     ·rw[zabn (by simp [hr])]
   ·rw[zabn hh] at hs
    split at hs
    rotate_left
    ·cases hs
    rename_i hokh
    cases hs
    have hmn:∀p,p≠o->mark (zP o (.row (es.map .d)) (zcs o m S.heap)) p=mark S.heap p:=fun p hp=>by rw[zej hp,zmP]
    have hmk':mark (zP o (.row (es.map .d)) (zcs o m S.heap)) o=none:=by rw[zei]
    have hk:=key _ hmk';have hst:∀p,p≠o->Step w w ι ι (mark S.heap) (mark (zP o (.row (es.map .d)) (zcs o m S.heap))) p:=fun p hp=>Step.other rfl (hmn p hp) fun _ _ _=>rfl;have hkeep:∀(x:AV) (u:Value),x.refs o=false->VA w R ι (mark S.heap) x u->VA w R ι (mark (zP o (.row (es.map .d)) (zcs o m S.heap))) x u:=fun x u hr hx=>
     hx.mono (fun _ h=>h) (fun _ _=>rfl) fun p hp=>hst p fun e=>by subst e;rw[hr] at hp;cases hp
    refine { h with env:=fun t x hx=> ?_,heap:=fun q ob' hq=> ?_ }
    ·obtain⟨⟨t',y⟩,hm,he⟩:=zaby.1 hx
     cases he
     obtain⟨u,h1,h2⟩:=h.env t' y hm;refine⟨u,h1,?_⟩;show VA w R ι _ (zgv o m y) u
     cases hr:y.refs o with
     | true=>
      unfold zgv
      split
      ·rename_i p es';have hp:p=o:=by simpa [AV.refs] using hr
       rw[zabo hp];subst hp
       split
       ·rename_i hlen;exact hk.2 _ _ hlen h2
       ·exact .undef
      ·rw[zabo hr];exact .undef
     | false=>
      have:zgv o m y=y:=by
       unfold zgv
       split
       ·rename_i p es';have hp:¬p=o:=by simpa [AV.refs] using hr
        rw[zabn hp]
       ·rw[zabn (by simp [hr])]
      rw[this];exact hkeep _ _ hr h2
    ·rcases zhi hq with hq2|⟨hq2,hne⟩
     ·cases hq2;exact hk.1 hmn
     ·obtain⟨ob0,hm0',hob',hrow⟩:=znu hokh hq2;subst hob';have hob0:=h.heap q ob0 hm0'
      cases ob0 with
      | acc n=>exact hob0.mono (fun _ h=>h) (fun _ _=>rfl) (fun _ _ hb=>⟨hb,rfl,fun h=>h⟩) (fun h=>h) fun p hp=>by simp [Obj.refs] at hp
      | frz n=>exact hob0.mono (fun _ h=>h) (fun _ _=>rfl) (fun _ _ hb=>⟨hb,rfl,fun h=>h⟩) (fun h=>h) fun p hp=>by simp [Obj.refs] at hp
      | mp n=>exact hob0.mono (fun _ h=>h) (fun _ _=>rfl) (fun _ _ hb=>⟨hb,rfl,fun h=>h⟩) (fun h=>h) fun p hp=>by simp [Obj.refs] at hp
      | row fs=>
       have hoke:=hrow fs rfl;simp only[zQu]
       cases hob0 with
       | row hι hR hb hs0 hsz hc hel=>
        refine .row hι hR hb hs0 (fun e he=> ?_) (by rw[zty,zabE];exact hc) fun i e hi j x hj=> ?_
        ·rw[zty] at he;obtain⟨e0,he0,rfl⟩:=zaby.1 he;rw[z7R];exact hsz e0 he0
        ·rw[zty,zabI] at hi;obtain⟨e0,he0,rfl⟩:=zabr.1 hi;obtain⟨x0,hx0,hkc,rfl⟩:=z7Q (zME hoke (zabK he0)) hj;obtain⟨k1,qv,k2,k3⟩:=hel i e0 he0 j x0 hx0;refine⟨z7O k1,qv,k2,?_⟩
         by_cases hacc:∃es',x0= .acc o es'
         ·obtain⟨es',rfl⟩:=hacc;simp only[okC,if_true,beq_iff_eq] at hkc;simp only[zcN,if_true];exact hk.2 _ _ hkc k3
         ·have hr:x0.refs o=false/\zcN o m x0=x0:=by
             cases x0 with
             | acc p es'=>
              have hp:¬p=o:=fun e=>hacc ⟨es',by rw[e]⟩;exact⟨by simpa [AV.refs] using hp,by simp only[zcN,zabn hp]⟩
             | _=>exact⟨by simpa [okC] using hkc,rfl⟩
          rw[hr.2];exact hkeep _ _ hr.1 k3
  ·cases hs
 ·cases hs;exact h
 ·cases hs;exact h
 ·cases hs;exact h
 ·cases hs;exact h
theorem zaas{o:Nat}{S S':St}{a:Act}{w:World}{ι:Inj}{R:Nat->Prop}(hs:ztO o S=some S')(h:Rel C S a w ι R):Rel C S' a w ι R:=by
 unfold ztO at hs;generalize hlk:look o S.heap=q at hs;unfold zCZ at hs
 split at hs
 ·rename_i es;generalize hds:zbq es=qe at hs;unfold zC0 at hs
  split at hs
  ·rename_i ds
   split at hs
   ·cases hs;exact h.nilsO
   split at hs
   rotate_left
   ·cases hs
   rename_i hc;obtain⟨hne,hh⟩:=hc
   cases hs
   have hesd:=ziu hds;have hmk':mark (zP o (.acc ds.length) S.heap) o=some ds.length:=by rw[zei]
   have hdn:ds≠[]:=by rintro rfl;exact hne hesd
   cases h.heap _ _ (zav hlk) with
   | @row _ b s c T hι hR hb hs0 hsz hc hel=>
    have hrd:∀(i:Nat) (d:D),ds[i]? = some d->Rd w R (.el d b (i * s)):=fun i d hi=>by
     have hei:es[i]? = some (.d d):=by rw[hesd];simp [hi]
     refine Rd.el_of_cells (fun vs hvs=> ?_) fun j cd hj=> ?_
     ·subst hvs;have:=(hel i _ hei 0 (.d (.tup vs)) rfl).1;simp [AV.cell,D.cell] at this
     ·obtain⟨k1,q,k2,k3⟩:=hel i _ hei j (.d cd) (by simp [AV.cells,hj]);exact⟨k1,q,by rw[zcq hb];exact k2,k3.of_d⟩
    have hsz':∀d∈ds,d.size=s:=fun d hd=>hsz (.d d) (by rw[hesd];exact zadw hd);refine h.recast (g:=zjG o ds) hh ?_ fun x u hx=>⟨fun hr=> ?_,fun hr=> ?_⟩
    ·refine .acc (zac0.2 hdn) hι hR hb hs0 ?_;rw[hesd] at hc;simpa using hc
    ·unfold zjG
     split
     ·rename_i p off len;have hp:p=o:=by simpa [AV.refs] using hr
      rw[zabo hp];subst hp
      split
      ·rename_i hcc;obtain⟨rfl,rfl⟩:=hcc;generalize hlen:ds.length=n at hx hmk'
       cases hx with
       | osl0=>exact absurd (zacc.1 hlen) hdn
       | @osl _ _ _ cap b' s' c' T' hι' hmk2 hb' hcap hc' hL=>
        rw[hι] at hι';cases hι';rw[hb] at hb';cases hb';subst hlen;rw[Nat.zero_mul];exact .accC hι hmk' (zabR _) hL hcap hsz' hb (by simpa using hc') hrd
      ·exact .undef
     ·rw[zabo hr];exact .undef
    ·unfold zjG
     split
     ·rename_i p off len;have hp:¬p=o:=by simpa [AV.refs] using hr
      rw[zabn hp]
     ·rw[zabn (by simp [hr])]
  ·cases hs
 ·cases hs;exact h
 ·cases hs;exact h
 ·cases hs;exact h
 ·cases hs;exact h
theorem z7M{o o' a b:Nat}(ha:a≠o')(hb:b≠o')(h:rnm o o' a=rnm o o' b):a=b:=by
 unfold rnm at h
 split at h<;>split at h
 ·rename_i h1 h2;rw[h1,h2]
 ·exact absurd h.symm hb
 ·exact absurd h ha
 ·exact h
theorem zaax{o o':Nat}{S S':St}{a:Act}{w:World}{ι:Inj}{R:Nat->Prop}(hs:ztQ o o' S=some S')(h:Rel C S a w ι R):∃ι',Rel C S' a w ι' R:=by
 unfold ztQ at hs;generalize hlk:look o S.heap=q at hs
 cases q with
 | none=>cases hs;exact⟨ι,h⟩
 | some ob=>
  simp only[zC4] at hs
  split at hs
  ·rename_i hc;obtain⟨hn,he,hh⟩:=hc
   cases hs
   have hn':look o' S.heap=none:=by simpa using hn
   have hmk:∀n,n≠o'->mark (zc4 (rnm o o') S.heap) (rnm o o' n)=mark S.heap n:=by
    intro n hno;unfold mark;rw[zMd fun m hm e=>z7M (fun e2=>by rw[e2,hn'] at hm;cases hm) hno e]
    cases look n S.heap with
    | none=>rfl
    | some ob=>cases ob<;>rfl
   have hι:∀n,n≠o'->(fun q=>if q=o' then ι o else if q=o then none else ι q) (rnm o o' n)=ι n:=by
    intro n hno;unfold rnm
    by_cases e:n=o
    ·subst e;simp
    ·simp [e,hno]
   refine⟨fun q=>if q=o' then ι o else if q=o then none else ι q,{ h with own:= ?_,inj:= ?_,env:= ?_,heap:= ?_ }⟩
   ·intro q b s hq
    split at hq
    ·exact h.own o b s hq
    ·split at hq
     ·cases hq
     ·exact h.own q b s hq
   ·intro q q' b s s' hq hq'
    split at hq<;>split at hq'
    ·rename_i e1 e2;rw[e1,e2]
    ·split at hq'
     ·cases hq'
     ·rename_i e1 e2 e3;exact absurd (h.inj o q' b s s' hq hq') (Ne.symm e3)
    ·split at hq
     ·cases hq
     ·rename_i e1 e2 e3;exact absurd (h.inj q o b s s' hq hq') e3
    ·split at hq
     ·cases hq
     ·split at hq'
      ·cases hq'
      ·exact h.inj q q' b s s' hq hq'
   ·intro t x hx;have:∃y,(t,y)∈S.env/\x=y.ren (rnm o o'):=by
     have key:∀(E:Env),(t,x)∈znn (rnm o o') E->∃y,(t,y)∈E/\x=y.ren (rnm o o'):=by
      intro E
      induction E with
      | nil=>intro h;cases h
      | cons p l ih=>
       obtain⟨t',y⟩:=p;intro h;simp only[znn] at h
       cases h with
       | head=>exact⟨y,.head _,rfl⟩
       | tail _ h=>obtain⟨z,h1,h2⟩:=ih h;exact⟨z,.tail _ h1,h2⟩
     exact key _ hx
    obtain⟨y,hy,rfl⟩:=this;obtain⟨u,h1,h2⟩:=h.env t y hy;refine⟨u,h1,h2.ren fun n hn2=> ?_⟩;have hno:n≠o':=fun e=>by subst e;rw[znm hy he] at hn2;cases hn2
    exact⟨fun p hp=>(hι n hno).trans hp,hmk n hno⟩
   ·intro n ob' hm;obtain⟨⟨m,ob2⟩,hm2,he2⟩:=zaby.1 hm
    cases he2
    have hno:m≠o':=fun e=>by
     subst e;have hs2:(look m S.heap).isSome=true:=by
      have key:∀(l:zd),(m,ob2)∈l->(look m l).isSome=true:=by
       intro l
       induction l with
       | nil=>intro h;cases h
       | cons p l ih=>
        obtain⟨k,y⟩:=p;intro h;simp only[look]
        split
        ·rfl
        ·rename_i hne
         cases h with
         | head=>exact absurd rfl hne
         | tail _ h=>exact ih h
      exact key _ hm2
     rw[hn'] at hs2;cases hs2
    refine (h.heap m ob2 hm2).ren (hι m hno) fun n hn2=> ?_;have hno2:n≠o':=fun e=>by subst e;rw[zhd hm2 hh] at hn2;cases hn2
    exact⟨fun p hp=>(hι n hno2).trans hp,hmk n hno2⟩
  ·cases hs
theorem zTF{o:Nat}{H:zd}{E:Env}:zhB o H E=E.map fun p=>(p.1,zl6 o H p.2):=by
 induction E with
 | nil=>rfl
 | cons p l ih=>obtain⟨t,x⟩:=p;simp only[zhB,ih];rfl
theorem zTD{o:Nat}{x:AV}(h:x.cell=true):(ziD o x).cell=true:=by
 unfold ziD
 split
 ·split<;>rfl
 ·exact h
theorem zu8{o:Nat}:∀ {l:List AV},zl5 o l=l.map (ziD o)
 | []=>rfl
 | x::l=>by simp only[zl5,zabs,zu8]
theorem zGM{o:Nat}:∀ {l:List AV},zjY o l=l.map (zjX o)
 | []=>rfl
 | x::l=>by simp only[zjY,zabs,zGM]
theorem zGN{o q:Nat}{ob:Obj}:∀ {H:zd},(q,ob)∈zfL o H->∃ob0,(q,ob0)∈H/\ob=zre o ob0
 | [],h=>by cases h
 | (q',ob')::l,h=>by
  simp only[zfL] at h
  cases h with
  | head=>exact⟨_,.head _,rfl⟩
  | tail _ h=>obtain⟨ob0,h1,h2⟩:=zGN h;exact⟨ob0,.tail _ h1,h2⟩
theorem zMa{o q:Nat}:∀ {H:zd},look q (zfL o H)=(look q H).map (zre o)
 | []=>rfl
 | (q',ob')::l=>by
  simp only[zfL,look]
  split
  ·rfl
  ·exact zMa
theorem zMk{o:Nat}{H:zd}:mark (zfL o H)=mark H:=funext fun p=>by
 unfold mark;rw[zMa]
 rcases look p H with _|(es|m|m|m)<;>rfl
theorem zQ3{S:St}{a:Act}{w:World}{ι:Inj}{R:Nat->Prop}{o:Nat}{ob:Obj}(hlk:look o S.heap=some ob)(h:Rel C S a w ι R):Rel C ⟨zhB o S.heap S.env,zak (zbn S.heap [o]) S.heap⟩ a w ι (zeE R ι [o]):=by
 have hf:=h.freeze (os:=[o]) (by simp [zgj,hlk]);refine { hf with env:=fun t x hx=> ?_ };rw[zTF] at hx;obtain⟨⟨t',y⟩,hm,he⟩:=zaby.1 hx
 cases he
 obtain⟨u,h1,h2⟩:=h.env t' y hm;obtain⟨u',h1',h2'⟩:=hf.env t' y hm;rw[h1] at h1'
 cases h1'
 refine⟨u,h1,?_⟩;show VA w _ ι _ (zl6 o S.heap y) u;unfold zl6
 split
 ·rename_i p es
  split
  ·rename_i hp;exact .d (znK h h2 rfl fun q hq=>by simpa [AV.objs,hp] using hq)
  ·exact h2'
 ·rename_i p off len
  split
  ·rename_i hp;unfold zu9
   split
   ·rename_i d hd;exact .d (znK h h2 hd fun q hq=>by simpa [AV.objs,hp] using hq)
   ·exact h2'
  ·exact h2'
 ·exact h2'
theorem zTE{S:St}{a:Act}{w:World}{ι:Inj}{R:Nat->Prop}(h:Rel C S a w ι R){o:Nat}{mk:Nat->Option Nat}{x:AV}{u:Value}(h1:VA w R ι (mark S.heap) x u)(h2:VA w (zeE R ι [o]) ι mk x u):VA w (zeE R ι [o]) ι mk (ziD o x) u:=by
 unfold ziD
 split
 ·split
  ·rename_i hp;exact .d (znK h h1 rfl fun q hq=>by simpa [AV.objs,hp] using hq)
  ·exact h2
 ·exact h2
theorem zaau{S:St}{a:Act}{w:World}{ι:Inj}{R:Nat->Prop}{o:Nat}{ob:Obj}(hlk:look o S.heap=some ob)(h:Rel C S a w ι R):Rel C ⟨zhB o S.heap S.env,zfL o (zak (zbn S.heap [o]) S.heap)⟩ a w ι (zeE R ι [o]):=by
 have hd:=zQ3 hlk h;refine { hd with env:=fun t x hx=> ?_,heap:=fun q ob1 hq=> ?_ }
 ·show ∃u,zeu C a t=some u/\VA w _ ι (mark (zfL o (zak (zbn S.heap [o]) S.heap))) x u;rw[zMk];exact hd.env t x hx
 ·show OB w _ ι (mark (zfL o (zak (zbn S.heap [o]) S.heap))) q ob1;rw[zMk];obtain⟨ob0,h1,rfl⟩:=zGN hq;have hob:=hd.heap q ob0 h1
  cases ob0 with
  | acc n=>exact hob
  | frz n=>exact hob
  | mp n=>exact hob
  | row es=>
   have hold:OB w R ι (mark S.heap) q (.row es):=by
    rcases zBk h1 with h3|⟨h3,_⟩
    ·obtain⟨p,_,he⟩:=zaby.1 h3
     cases he
    ·exact h.heap q _ h3
   cases hob with
   | row hι' hR hb hs0 hsz hc hel=>
    cases hold with
    | row hι2 hR2 hb2 hs2 hsz2 hc2 hel2=>
     rw[hι'] at hι2
     cases hι2
     rw[hb] at hb2
     cases hb2
     show OB w _ ι _ q (.row (zjY o es));rw[zGM];have hsize:∀e:AV,(zjX o e).size=e.size:=fun e=>by
      unfold zjX
      split
      ·simp only[AV.size,zu8,zabE]
      ·rfl
     refine .row hι' hR hb hs0 (fun e he=> ?_) (by rw[zabE];exact hc) fun i e hi j x hj=> ?_
     ·obtain⟨e0,he0,rfl⟩:=zaby.1 he;rw[hsize];exact hsz e0 he0
     ·rw[zabI] at hi;obtain⟨e0,he0,rfl⟩:=zabr.1 hi;unfold zjX at hj
      split at hj
      ·rename_i cs;simp only[AV.cells,zu8,zabI] at hj;obtain⟨x0,hx0,rfl⟩:=zabr.1 hj;obtain⟨k1,qv,k2,k3⟩:=hel i _ he0 j x0 hx0;obtain⟨_,qv2,k22,k32⟩:=hel2 i _ he0 j x0 hx0;rw[k2] at k22
       cases k22
       exact⟨zTD k1,qv,k2,zTE h k32 k3⟩
      ·exact hel i _ he0 j x hj
theorem zaav{S S':St}{a:Act}{w:World}{ι:Inj}{R:Nat->Prop}{o:Nat}(hs:ztP o S=some S')(h:Rel C S a w ι R):∃R',Rel C S' a w ι R':=by
 unfold ztP zC2 at hs
 split at hs
 ·rename_i ob hlk;unfold zva at hs
  split at hs
  ·cases hs
   exact⟨_,zQ3 hlk h⟩
  ·cases hs
   exact⟨_,zaau hlk h⟩
 ·cases hs;exact⟨R,h⟩
theorem zIR{S':St}{a:Act}{w:World}:∀ {gs:List Nat} {S:St} {ι:Inj} {R:Nat->Prop},zfb gs S=some S'->Rel C S a w ι R->∃ι' R',Rel C S' a w ι' R':=by
 intro gs
 induction gs with
 | nil=>intro S ι R hs h;cases hs;exact⟨ι,R,h⟩
 | cons g gs ih=>
  intro S ι R hs h;obtain⟨S1,h1,h2⟩:=zabp.1 hs;have:∃ι' R',Rel C S1 a w ι' R':=by
   unfold zrY at h1
   split at h1
   ·split at h1
    ·exact⟨ι,R,zaay h1 h⟩
    ·exact⟨ι,R,zaas h1 h⟩
   ·split at h1
    ·obtain⟨ι',h'⟩:=zaax h1 h;exact⟨ι',R,h'⟩
    ·obtain⟨R',h'⟩:=zaav h1 h;exact⟨ι,R',h'⟩
  obtain⟨ι',R',h'⟩:=this;exact ih h2 h'
end Go.Sim

namespace Go.Sim
open Go (World Value Addr TypeId Act)
variable {P:Program} {C:Ctx}
def fr4(dst:Nat):List Nat:=[dst,dst+10000,dst+20000,dst+30000]
def zcg(H:zd)(dst:Nat)(ms:List Bool)(args:List AV):List Nat×List Nat:=
 (zbF H ms args++(zaz ms args++fr4 dst),zbF H ms args++fr4 dst)
theorem z0k{cs:List D}:AV.objsL (cs.map .d)=[]:=by
 induction cs with
 | nil=>rfl
 | cons x xs ih=>simp [AV.objsL,AV.objs,ih]
theorem zQ1{H H2:zd}:∀ {x:AV},(∀o∈x.objs,look o H2=look o H)->toD H2 x=toD H x:=by
 intro x;refine AV.rec (motive_1:=fun x=>(∀o∈x.objs,look o H2=look o H)->toD H2 x=toD H x) (motive_2:=fun xs=>(∀o∈AV.objsL xs,look o H2=look o H)->toD.toDs H2 xs=toD.toDs H xs) ?_ ?_ ?_ ?_ ?_ ?_ ?_ ?_ ?_ ?_ ?_ ?_ ?_ ?_ x
 ·intro _ _;rfl
 ·intro o i off h
  cases off with
  | zero=>simp only[toD];rw[h o (by simp [AV.objs])]
  | succ n=>simp [toD]
 ·intro o off len h;simp only[toD];rw[h o (by simp [AV.objs])]
 ·intro _ _ _;rfl
 ·intro _ _ _;rfl
 ·intro _ _;rfl
 ·intro cs ih h;simp only[toD];rw[ih (by simpa [AV.objs] using h)]
 ·intro cs ih h;simp only[toD];rw[ih (by simpa [AV.objs] using h)]
 ·intro f cs ih h;simp only[toD];rw[ih (by simpa [AV.objs] using h)]
 ·intro _ _;rfl
 ·intro _ _;rfl
 ·intro _;rfl
 ·intro _;rfl
 ·intro y ys h1 h2 h;simp only[toD.toDs];rw[h1 fun o ho=>h o (by simp [AV.objsL,ho]),h2 fun o ho=>h o (by simp [AV.objsL,ho])]
theorem zGy{H H2:zd}:∀ {ms:List Bool} {xs:List AV},(∀o∈zaz ms xs,look o H2=look o H)->zbJ H2 ms xs=zbJ H ms xs:=by
 intro ms xs
 induction xs generalizing ms with
 | nil=>intro _;cases ms<;>rfl
 | cons x xs ih=>
  intro h
  match ms with
  | []=>
   simp only[zbJ];rw[zQ1 fun o ho=>h o (by simp [zaz,ho]),ih fun o ho=>h o (by simp [zaz,ho])]
  | false::ms=>
   simp only[zbJ];rw[zQ1 fun o ho=>h o (by simp [zaz,ho]),ih fun o ho=>h o (by simp [zaz,ho])]
  | true::ms=>
   simp only[zbJ];rw[ih fun o ho=>h o (by simp [zaz,ho])]
theorem zQb{H H2:zd}{ns:List Nat}(h:∀o∈ns,look o H2=look o H):zfm H2 ns=zfm H ns:=by
 unfold zfm
 congr 1
 have:∀l:List Nat,(∀o∈l,look o H2=look o H)->l.flatMap (zk5 H2)=l.flatMap (zk5 H):=by
  intro l
  induction l with
  | nil=>intro _;rfl
  | cons o l ih=>
   intro hl;simp only[List.flatMap_cons];rw[ih fun q hq=>hl q (.tail _ hq)]
   congr 1
   simp only[zk5,hl o (.head _)]
 exact this ns h
theorem zBp{H H2:zd}{ms:List Bool}{args:List AV}(h:∀o∈zbF H ms args,look o H2=look o H):zbF H2 ms args=zbF H ms args:=by
 have h1:∀o∈zfm H (zcT [] (zch ms args)),look o H2=look o H:=fun o ho=>h o (zfG _ _ ho);have h0:∀o∈zcT [] (zch ms args),look o H2=look o H:=fun o ho=>h1 o (zfG _ _ ho);unfold zbF;rw[zQb h0,zQb h1]
theorem zGu{F:zaU}(hF:FOK P F){E:Env}{H:zd}{dst:Nat}{ms:List Bool}{f:FuncId}{args:List AV}{v:AV}{δ:zd}(h:zcu F E H dst ms f args=some (v,δ)){E2:Env}{H2:zd}(hh:∀o∈(zcg H dst ms args).1,look o H2=look o H)(hf:∀n∈fr4 dst,zaX n E2=false/\zaq n H2=false):
    zcu F E2 H2 dst ms f args=some (v,δ):=by
 unfold zcu at h ⊢;have hns:∀o∈zbF H ms args,look o H2=look o H:=fun o ho=>hh o (by simp [zcg,ho]);have hds:∀o∈zaz ms args,look o H2=look o H:=fun o ho=>hh o (by simp [zcg,ho]);rw[zBp hns,zGy hds];obtain⟨zabm,has,h⟩:=zabp.1 h;rw[has,zabY];have hnod:(zbF H ms args).Nodup:=zsQ _ _ _;unfold zfJ at h ⊢;have hok:zkM H2 (zbF H ms args)=zkM H (zbF H ms args):=by
  unfold zkM;rw[zacD,zabO,zabO];constructor
  ·intro hx o ho;have:=hx o ho;rw[hns o ho] at this;exact this
  ·intro hx o ho;rw[hns o ho];exact hx o ho
 have hos:zbY H2 (zbF H ms args)=zbY H (zbF H ms args):=by
  unfold zbY;exact zacR fun o ho=>by rw[hns o ho]
 rw[hok,hos]
 split at h
 ·rename_i hc;rw[zabo hc];obtain⟨⟨r,os'⟩,hf',h⟩:=zabp.1 h;rw[hf',zabY];simp only[zabH] at hc;obtain⟨_,_,hWF⟩:=hF f _ _ r os' hf' (fun⟨n,ob⟩ hm=>by
   obtain⟨o,ho,_,h2⟩:=zsP hm;have:=zabO.1 hc.1 o ho
   split at this
   ·rename_i es hes;exact⟨_,by rw[h2,hes];rfl⟩
   ·cases this) (fun i p hp=>(zsT hnod i p hp).1)
  unfold zeI at h ⊢
  split at h
  ·rename_i hc2;simp only[zabH] at hc2;have:zme E2 H2 dst (zbF H ms args) os'=true:=by
    refine zabO.2 fun p hp=> ?_;have h1:=zabO.1 hc2.1 p hp;simp only[zacj,zabH,decide_eq_true_eq] at h1 ⊢
    rcases h1 with h1|h1
    ·exact .inl h1
    ·rcases hWF.names p.1 (zsf (x:=p.2) hp) with h2|⟨h2,_⟩
     ·have hm:dst+10000 * p.1∈fr4 dst:=by
         have:p.1=0\/p.1=1\/p.1=2\/p.1=3:=by omega
         rcases this with h|h|h|h<;>simp [fr4,h]
      obtain⟨h3,h4⟩:=hf _ hm;exact .inr ⟨⟨by simp [h3],by simp [h4]⟩,h1.2⟩
     ·exact .inl h2
   rw[zabo (by simp only[zabH];exact⟨this,hc2.2⟩)];exact h
  ·cases h
 ·cases h
theorem zCF{ρ:Nat->Nat}{x:AV}{o:Nat}(h:(x.ren ρ).refs o=true):∃q,x.refs q=true/\o=ρ q:=by
 have key:∀x:AV,(x.ren ρ).refs o=true->∃q,x.refs q=true/\o=ρ q:=by
  intro x;refine AV.rec (motive_1:=fun x=>(x.ren ρ).refs o=true->∃q,x.refs q=true/\o=ρ q) (motive_2:=fun xs=>AV.refsL o (AV.renL ρ xs)=true->∃q,AV.refsL q xs=true/\o=ρ q) ?_ ?_ ?_ ?_ ?_ ?_ ?_ ?_ ?_ ?_ ?_ ?_ ?_ ?_ x
  ·intro _ h;simp [AV.ren,AV.refs] at h
  ·intro p i off h;simp only[AV.ren,AV.refs,beq_iff_eq] at h;exact⟨p,by simp [AV.refs],h.symm⟩
  ·intro p i off h;simp only[AV.ren,AV.refs,beq_iff_eq] at h;exact⟨p,by simp [AV.refs],h.symm⟩
  ·intro p es h;simp only[AV.ren,AV.refs,beq_iff_eq] at h;exact⟨p,by simp [AV.refs],h.symm⟩
  ·intro p y h;simp only[AV.ren,AV.refs,beq_iff_eq] at h;exact⟨p,by simp [AV.refs],h.symm⟩
  ·intro _ h;simp [AV.ren,AV.refs] at h
  ·intro cs ih h;exact ih h
  ·intro cs ih h;exact ih h
  ·intro f cs ih h;exact ih h
  ·intro _ h;simp [AV.ren,AV.refs] at h
  ·intro p h;simp only[AV.ren,AV.refs,beq_iff_eq] at h;exact⟨p,by simp [AV.refs],h.symm⟩
  ·intro h;simp [AV.ren,AV.refs] at h
  ·intro h;simp [AV.renL,AV.refsL] at h
  ·intro y ys h1 h2 h;simp only[AV.renL,AV.refsL,zacj] at h
   rcases h with h|h
   ·obtain⟨q,k1,k2⟩:=h1 h;exact⟨q,by simp [AV.refsL,k1],k2⟩
   ·obtain⟨q,k1,k2⟩:=h2 h;exact⟨q,by simp [AV.refsL,k1],k2⟩
 exact key x h
theorem zQm{ρ:Nat->Nat}{xs:List AV}{o:Nat}(h:AV.refsL o (xs.map (AV.ren ρ))=true):∃q,AV.refsL q xs=true/\o=ρ q:=by
 induction xs with
 | nil=>simp [AV.refsL] at h
 | cons x xs ih=>
  simp only[zabs,AV.refsL,zacj] at h
  rcases h with h|h
  ·obtain⟨q,k1,k2⟩:=zCF h;exact⟨q,by simp [AV.refsL,k1],k2⟩
  ·obtain⟨q,k1,k2⟩:=ih h;exact⟨q,by simp [AV.refsL,k1],k2⟩
theorem zGv{F:zaU}(hF:FOK P F){E:Env}{H:zd}{dst:Nat}{ms:List Bool}{f:FuncId}{args:List AV}{v:AV}{δ:zd}(h:zcu F E H dst ms f args=some (v,δ)):
    (∀p∈δ,p.1∈(zcg H dst ms args).2)/\(∀o,v.refs o=true->o∈(zcg H dst ms args).2)/\(∀p∈δ,∀o,p.2.refs o=true->o∈(zcg H dst ms args).2):=by
 unfold zcu at h;obtain⟨zabm,has,h⟩:=zabp.1 h;have hnod:(zbF H ms args).Nodup:=zsQ _ _ _;simp only[zcg];generalize zbF H ms args=ns at *;unfold zfJ at h
 split at h
 ·rename_i hc;simp only[zabH] at hc;obtain⟨⟨r,os'⟩,hf,h⟩:=zabp.1 h;obtain⟨_,_,hW⟩:=hF f _ _ r os' hf (fun⟨n,ob⟩ hm=>by
   obtain⟨o,ho,_,h2⟩:=zsP hm;have:=zabO.1 hc.1 o ho
   split at this
   ·rename_i es hes;exact⟨_,by rw[h2,hes];rfl⟩
   ·cases this) (fun i p hp=>(zsT hnod i p hp).1)
  unfold zeI at h
  split at h
  ·cases h
   have hnl:(zbY H ns).length=ns.length:=by simp [zbY]
   rw[hnl] at hW;have hname:∀n,(look n os').isSome=true->zdY ns dst n∈ns++fr4 dst:=fun n hn=>by
    simp only[zabS]
    rcases hW.names n hn with h1|⟨h1,h2⟩
    ·right;have h3:zdY ns dst n=dst+10000 * n:=by simp only[zdY];rw[zabo (by omega)]
     rw[h3];have:n=0\/n=1\/n=2\/n=3:=by omega
     rcases this with h|h|h|h<;>simp [fr4,h]
    ·left;simp only[zdY];rw[zabn (by omega),zab0,zabx (by omega)];simp
   refine⟨fun p hp=> ?_,fun o ho=> ?_,fun p hp o ho=> ?_⟩
   ·obtain⟨⟨n,ob⟩,hm,rfl⟩:=zaby.1 hp;exact hname n (zsf hm)
   ·obtain⟨q,h1,rfl⟩:=zCF ho;exact hname q (hW.res q h1)
   ·obtain⟨⟨n,ob⟩,hm,rfl⟩:=zaby.1 hp
    cases ob with
    | acc n=>simp [Obj.ren,Obj.refs] at ho
    | frz m=>simp [Obj.ren,Obj.refs] at ho
    | mp m=>simp [Obj.ren,Obj.refs] at ho
    | row es=>
     simp only[Obj.ren,Obj.refs] at ho;obtain⟨q,h1,rfl⟩:=zQm ho;exact hname q (hW.resH n _ hm q h1)
  ·cases h
 ·cases h
theorem zYt{ms:List Bool}{args:List AV}{o:Nat}(h:o∈zch ms args):AV.refsL o args=true:=by
 induction args generalizing ms with
 | nil=>cases ms<;>simp [zch] at h
 | cons x xs ih=>
  match ms with
  | []=>simp [zch] at h
  | false::ms=>simp only[zch] at h;simp [AV.refsL,ih h]
  | true::ms=>
   simp only[zch,zabS] at h
   rcases h with h|h
   ·simp [AV.refsL,ztr h]
   ·simp [AV.refsL,ih h]
theorem zDu:∀(xs ns:List Nat) {o:Nat},o∈zcT ns xs->o∈ns\/o∈xs:=by
 intro xs
 induction xs with
 | nil=>intro ns o h;exact .inl h
 | cons x xs ih=>
  intro ns o h;simp only[zcT] at h
  split at h
  ·rcases ih _ h with h|h
   ·exact .inl h
   ·exact .inr (.tail _ h)
  ·rcases ih _ h with h|h
   ·simp at h
    rcases h with h|h
    ·exact .inl h
    ·exact .inr (by simp [h])
   ·exact .inr (.tail _ h)
theorem z6W{H:zd}{ns:List Nat}{o:Nat}(h:o∈zfm H ns):o∈ns\/zaq o H=true:=by
 rcases zDu _ _ h with h|h
 ·exact .inl h
 ·obtain⟨q,_,hq⟩:=List.mem_flatMap.1 h;simp only[zk5] at hq
  split at hq
  ·rename_i es hes;right
   cases hr:zaq o H with
   | true=>rfl
   | false=>
    have:=zhd (zav hes) hr;have h2:AV.refsL o es=true:=ztr (x:= .agg es) hq;simp only[Obj.refs] at this;rw[h2] at this;cases this
  ·cases hq
theorem zMt{H:zd}{ms:List Bool}{args:List AV}{o:Nat}(h1:AV.refsL o args=false)(h2:zaq o H=false):o∉zbF H ms args:=by
 intro h;have no:∀ {ns:List Nat},o∈zfm H ns->o∈ns:=fun h=>(z6W h).resolve_right (by simp [h2])
 rcases zDu _ _ (no (no h)) with h|h
 ·cases h
 ·rw[zYt h] at h1;cases h1
def zdd(H:zd)(dst:Nat)(ms:List Bool)(args:List AV):List Nat×List Nat:=
 if zmf ms args.length=true then
  ((zcg H dst ms args).1++(zcg (zak (zbn H (zaz ms args)) H) dst ms ((zbJ H ms args).getD [])).1,
   (zcg (zak (zbn H (zaz ms args)) H) dst ms ((zbJ H ms args).getD [])).2++zaz ms args)
 else zcg H dst ms args
theorem zCz{o:Nat}{δ H:zd}(h1:∀p∈δ,p.2.refs o=false)(h2:zaq o H=false):zaq o (zak δ H)=false:=by
 induction δ with
 | nil=>exact h2
 | cons p δ ih=>
  obtain⟨q,ob⟩:=p;exact zeW (ih fun r hr=>h1 r (.tail _ hr)) (h1 _ (.head _))
theorem zSD{F:zaU}(hF:FOK P F){E:Env}{H:zd}{dst:Nat}{ms:List Bool}{f:FuncId}{args:List AV}{v:AV}{δ:zd}(h:zbr F E H dst ms f args=some (v,δ)){E2:Env}{H2:zd}(hh:∀o∈(zdd H dst ms args).1,look o H2=look o H)(hf:∀n∈fr4 dst,zaX n E2=false/\zaq n H2=false):
    zbr F E2 H2 dst ms f args=some (v,δ):=by
 unfold zbr at h ⊢;unfold zdd at hh
 split at h
 ·rename_i hz;rw[zabo hz] at hh ⊢;have hds:∀o∈zaz ms args,look o H2=look o H:=fun o ho=>hh o (by simp [zcg,ho]);obtain⟨zabm,has,h⟩:=zabp.1 h;rw[has] at hh;rw[zGy hds,has,zabY];unfold zgi at h ⊢;have hok:zgj H2 (zaz ms args)=zgj H (zaz ms args):=by
   unfold zgj;rw[zacD,zabO,zabO];exact⟨fun hx o ho=>by have:=hx o ho;rw[hds o ho] at this;exact this,fun hx o ho=>by rw[hds o ho];exact hx o ho⟩
  have hfz:zbn H2 (zaz ms args)=zbn H (zaz ms args):=by
   unfold zbn;refine zacR fun o ho=> ?_;unfold mark;rw[hds o ho]
  rw[hok,hfz]
  split at h
  ·rename_i hk;rw[zabo hk];obtain⟨⟨v',δ'⟩,h1,h2⟩:=zabr.1 h
   cases h2
   rw[zGu hF h1 (E2:=E2) (H2:=zak (zbn H (zaz ms args)) H2) (fun o ho=> ?_) (fun n hn=>⟨(hf n hn).1,?_⟩)]
   ·rfl
   ·rw[zdi,zdi,hh o (by simp [ho])]
   ·rw[<- hfz];exact zCz (fun p hp=>by obtain⟨q,_,rfl⟩:=zaby.1 hp;rfl) (hf n hn).2
  ·cases h
 ·rename_i hz;rw[zabn hz] at hh ⊢;exact zGu hF h hh hf
theorem zSE{F:zaU}(hF:FOK P F){E:Env}{H:zd}{dst:Nat}{ms:List Bool}{f:FuncId}{args:List AV}{v:AV}{δ:zd}(h:zbr F E H dst ms f args=some (v,δ)):
    (∀p∈δ,p.1∈(zdd H dst ms args).2)/\(∀o,v.refs o=true->o∈(zdd H dst ms args).2)/\(∀p∈δ,∀o,p.2.refs o=true->o∈(zdd H dst ms args).2):=by
 unfold zbr at h;unfold zdd
 split at h
 ·rename_i hz;rw[zabo hz];obtain⟨zabm,has,h⟩:=zabp.1 h;rw[has];unfold zgi at h
  split at h
  ·obtain⟨⟨v',δ'⟩,h1,h2⟩:=zabr.1 h
   cases h2
   obtain⟨n1,n2,n3⟩:=zGv hF h1;refine⟨fun p hp=> ?_,fun o ho=>zacM _ (n2 o ho),fun p hp o ho=> ?_⟩
   ·rcases zabS.1 hp with hp|hp
    ·exact zacM _ (n1 p hp)
    ·obtain⟨q,hq,rfl⟩:=zaby.1 hp;exact zadn _ hq
   ·rcases zabS.1 hp with hp|hp
    ·exact zacM _ (n3 p hp o ho)
    ·obtain⟨q,hq,rfl⟩:=zaby.1 hp;simp [Obj.refs] at ho
  ·cases h
 ·rename_i hz;rw[zabn hz];exact zGv hF h
theorem zrf{o:Nat}:∀ {ms:List Bool} {xs:List AV},o∈zaz ms xs->AV.refsL o xs=true
 | _,[],h=>by simp [zaz] at h
 | [],x::xs,h=>by
  simp only[zaz,zabS] at h;simp only[AV.refsL,zacj]
  rcases h with h|h
  ·exact .inl (ztr h)
  ·exact .inr (zrf h)
 | true::ms,x::xs,h=>by
  simp only[zaz] at h;simp only[AV.refsL,zacj];exact .inr (zrf h)
 | false::ms,x::xs,h=>by
  simp only[zaz,zabS] at h;simp only[AV.refsL,zacj]
  rcases h with h|h
  ·exact .inl (ztr h)
  ·exact .inr (zrf h)
theorem zq5{H:zd}{o:Nat}:∀ {ms:List Bool} {xs zabm:List AV},zbJ H ms xs=some zabm->AV.refsL o xs=false->AV.refsL o zabm=false
 | _,[],zabm,h,_=>by cases ‹List Bool› <;> (simp [zbJ] at h;subst h;rfl)
 | [],x::xs,zabm,h,hr=>by
  simp only[zbJ] at h;obtain⟨d,_,h⟩:=zabp.1 h;obtain⟨bs,h1,rfl⟩:=zabr.1 h;simp only[AV.refsL,zacY] at hr ⊢;exact⟨rfl,zq5 h1 hr.2⟩
 | true::ms,x::xs,zabm,h,hr=>by
  simp only[zbJ] at h;obtain⟨bs,h1,rfl⟩:=zabr.1 h;simp only[AV.refsL,zacY] at hr ⊢;exact⟨hr.1,zq5 h1 hr.2⟩
 | false::ms,x::xs,zabm,h,hr=>by
  simp only[zbJ] at h;obtain⟨d,_,h⟩:=zabp.1 h;obtain⟨bs,h1,rfl⟩:=zabr.1 h;simp only[AV.refsL,zacY] at hr ⊢;exact⟨rfl,zq5 h1 hr.2⟩
theorem zGA{H:zd}{dst:Nat}{ms:List Bool}{args:List AV}:∀o∈(zcg H dst ms args).2,o∈(zcg H dst ms args).1:=by
 intro o ho;simp only[zcg,zabS] at ho ⊢
 rcases ho with ho|ho
 ·exact .inl ho
 ·exact .inr (.inr ho)
theorem zSI{H:zd}{dst:Nat}{ms:List Bool}{args:List AV}:∀o∈(zdd H dst ms args).2,o∈(zdd H dst ms args).1:=by
 intro o ho;unfold zdd at ho ⊢
 split at ho
 ·rename_i hz;rw[zabo hz]
  rcases zabS.1 ho with ho|ho
  ·exact zadn _ (zGA o ho)
  ·exact zacM _ (by simp [zcg,ho])
 ·rename_i hz;rw[zabn hz];exact zGA o ho
theorem zSH{H H2:zd}{dst:Nat}{ms:List Bool}{args:List AV}{o:Nat}(hh:∀o∈(zdd H dst ms args).1,look o H2=look o H)(ha:AV.refsL o args=false)(h2:zaq o H2=false)(hn:o∉fr4 dst):o∉(zdd H dst ms args).2:=by
 unfold zdd at hh ⊢
 split
 ·rename_i hz;rw[zabo hz] at hh;have hds:∀o∈zaz ms args,look o H2=look o H:=fun o ho=>hh o (by simp [zcg,ho]);have hfz:zbn H2 (zaz ms args)=zbn H (zaz ms args):=by
   unfold zbn;refine zacR fun o ho=> ?_;unfold mark;rw[hds o ho]
  simp only[zcg,zabS];rintro ((hm|hm)|hm)
  ·have hnames:∀q∈zbF (zak (zbn H (zaz ms args)) H) ms ((zbJ H ms args).getD []),look q (zak (zbn H (zaz ms args)) H2)=look q (zak (zbn H (zaz ms args)) H):=fun q hq=>by
      rw[zdi,zdi,hh q (by simp [zcg,hq])]
   rw[<- zBp hnames] at hm;refine zMt ?_ (zCz (fun p hp=>by obtain⟨q,_,rfl⟩:=zaby.1 hp;rfl) h2) hm
   cases hc:zbJ H ms args with
   | none=>rfl
   | some zabm=>exact zq5 hc ha
  ·exact hn hm
  ·have:=zrf hm;rw[ha] at this;cases this
 ·rename_i hz;rw[zabn hz] at hh;simp only[zcg,zabS];rintro (hm|hm)
  ·have hnames:∀q∈zbF H ms args,look q H2=look q H:=fun q hq=>hh q (by simp [zcg,hq]);rw[<- zBp hnames] at hm;exact zMt ha h2 hm
  ·exact hn hm
end Go.Sim
