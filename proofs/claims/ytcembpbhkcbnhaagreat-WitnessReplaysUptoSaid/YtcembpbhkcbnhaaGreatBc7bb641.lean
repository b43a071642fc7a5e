/-
  Regions that draw their order, and code.
-/
import Derived.Test.YtcembpbhkcbnhaaGreatB4c449be
import Derived.Orders
set_option linter.unusedSimpArgs false
set_option linter.unusedVariables false
set_option maxHeartbeats 10000000
set_option maxRecDepth 100000
namespace Go.Sim
open Go (World Value Addr TypeId Act)
variable {P:Program} {C:Ctx}
def ziH(o m:Nat):Env->Option (List D)
 | []=>none
 | (_,.acc p es)::l=>if p=o/\es.length=m then some es else ziH o m l
 | _::l=>ziH o m l
def zgv(o m:Nat)(x:AV):AV:=
 match x with
 | .acc p es=>if p=o then (if es.length=m then .osl o 0 m else .undef) else .acc p es
 | x=>if x.refs o then .undef else x
def znt(o m:Nat)(E:Env):Env:=E.map fun p=>(p.1,zgv o m p.2)
def zjG(o:Nat)(ds:List D)(x:AV):AV:=
 match x with
 | .osl p off len=>if p=o then (if off=0/\len=ds.length then .acc o ds else .undef) else .osl p off len
 | x=>if x.refs o then .undef else x
def zqC(o:Nat)(ds:List D)(E:Env):Env:=E.map fun p=>(p.1,zjG o ds p.2)
def zmX(o:Nat):AV->AV
 | .acc p []=>if p=o then .xsl [] else .acc p []
 | x=>x
def zh1(o:Nat):Env->Env
 | []=>[]
 | (t,x)::l=>(t,zmX o x)::zh1 o l
def okC(o m:Nat):AV->Bool
 | .acc p es=>if p=o then es.length==m else true
 | x=> !x.refs o
def zcN(o m:Nat):AV->AV
 | .acc p es=>if p=o then .osl o 0 m else .acc p es
 | x=>x
def zmZ(o m:Nat):List AV->Bool
 | []=>true
 | x::l=>okC o m x&&zmZ o m l
def zns(o m:Nat):List AV->List AV
 | []=>[]
 | x::l=>zcN o m x::zns o m l
def okE(o m:Nat):AV->Bool
 | .agg cs=>zmZ o m cs
 | x=>okC o m x
def zie(o m:Nat):AV->AV
 | .agg cs=> .agg (zns o m cs)
 | x=>zcN o m x
def zkK(o m:Nat):List AV->Bool
 | []=>true
 | x::l=>okE o m x&&zkK o m l
def zk4(o m:Nat):List AV->List AV
 | []=>[]
 | x::l=>zie o m x::zk4 o m l
def zf6(o m:Nat):zd->Bool
 | []=>true
 | (_,.row es)::l=>zkK o m es&&zf6 o m l
 | (_,.acc _)::l=>zf6 o m l
 | (_,.frz _)::l=>zf6 o m l
 | (_,.mp _)::l=>zf6 o m l
def zcs(o m:Nat):zd->zd
 | []=>[]
 | (q,.row es)::l=>(q,.row (zk4 o m es))::zcs o m l
 | (q,.acc n)::l=>(q,.acc n)::zcs o m l
 | (q,.frz n)::l=>(q,.frz n)::zcs o m l
 | (q,.mp n)::l=>(q,.mp n)::zcs o m l
def zhF(o m:Nat):List AV->Option (List D)
 | []=>none
 | .acc p es::l=>if p=o/\es.length=m then some es else zhF o m l
 | _::l=>zhF o m l
def orE{α:Type}(x:Option α):Option α->Option α
 | some a=>some a
 | none=>x
def zhG(o m:Nat):List AV->Option (List D)
 | []=>none
 | .agg cs::l=>orE (zhG o m l) (zhF o m cs)
 | x::l=>orE (zhG o m l) (zhF o m [x])
def zfW(o m:Nat):zd->Option (List D)
 | []=>none
 | (_,.row es)::l=>orE (zfW o m l) (zhG o m es)
 | (_,.acc _)::l=>zfW o m l
 | (_,.frz _)::l=>zfW o m l
 | (_,.mp _)::l=>zfW o m l
def zrr(o m:Nat)(E:Env)(H:zd):Option (List D):=orE (zfW o m H) (ziH o m E)
def zC7(o m:Nat)(E:Env)(H:zd)(es:List D)(b:Bool):Option St:=
 if b=false then some ⟨znt o m E,zP o (.row (es.map .d)) H⟩ else if zf6 o m H=true then some ⟨znt o m E,zP o (.row (es.map .d)) (zcs o m H)⟩ else none
def zC6(o m:Nat)(E:Env)(H:zd):Option (List D)->Option St
 | some es=>if m≠0 then zC7 o m E H es (zaq o H) else none
 | none=>none
def zi2(o:Nat)(x:AV):AV:=
 match x with
 | .acc p []=>if p=o then .xsl [] else .acc p []
 | x=>x
def zmV(o:Nat):List AV->List AV
 | []=>[]
 | x::l=>zi2 o x::zmV o l
def zkE(o:Nat)(x:AV):AV:=
 match x with
 | .agg cs=> .agg (zmV o cs)
 | x=>x
def zkF(o:Nat):List AV->List AV
 | []=>[]
 | x::l=>zkE o x::zkF o l
def zsR(o:Nat)(ob:Obj):Obj:=
 match ob with
 | .row es=> .row (zkF o es)
 | x=>x
def zf5(o:Nat):zd->zd
 | []=>[]
 | (q,ob)::l=>(q,zsR o ob)::zf5 o l
def zBt(o:Nat)(E:Env)(H:zd)(b:Bool):Option St:=if b=false then some ⟨zh1 o E,H⟩ else some ⟨zh1 o E,zf5 o H⟩
def zC5(o:Nat)(E:Env)(H:zd):Option Obj->Option St
 | some (.acc m)=>if m=0 then zBt o E H (zaq o H) else zC6 o m E H (zrr o m E H)
 | some (.row es)=>some ⟨E,H⟩
 | some (.frz m)=>some ⟨E,H⟩
 | some (.mp m)=>some ⟨E,H⟩
 | none=>some ⟨E,H⟩
def ztR(o:Nat)(S:St):Option St:=zC5 o S.env S.heap (look o S.heap)
def zmW(o:Nat):AV->AV
 | .osl p off 0=>if p=o then .d (.sl []) else .osl p off 0
 | x=>x
def zkG(o:Nat):Env->Env
 | []=>[]
 | (t,x)::l=>(t,zmW o x)::zkG o l
def zC0(o:Nat)(E:Env)(H:zd)(es:List AV):Option (List D)->Option St
 | some ds=>if es=[] then some ⟨zkG o E,H⟩ else if es≠[]/\zaq o H=false then some ⟨zqC o ds E,zP o (.acc ds.length) H⟩ else none
 | none=>none
def zCZ(o:Nat)(E:Env)(H:zd):Option Obj->Option St
 | some (.row es)=>zC0 o E H es (zbq es)
 | some (.acc m)=>some ⟨E,H⟩
 | some (.frz m)=>some ⟨E,H⟩
 | some (.mp m)=>some ⟨E,H⟩
 | none=>some ⟨E,H⟩
def ztO(o:Nat)(S:St):Option St:=zCZ o S.env S.heap (look o S.heap)
def rnm(o o' n:Nat):Nat:=if n=o then o' else n
def znn(ρ:Nat->Nat):Env->Env
 | []=>[]
 | (t,x)::l=>(t,x.ren ρ)::znn ρ l
def zC4(o o':Nat)(E:Env)(H:zd):Option Obj->Option St
 | some _=>if (look o' H).isNone=true/\zaX o' E=false/\zaq o' H=false then some ⟨znn (rnm o o') E,zc4 (rnm o o') H⟩ else none
 | none=>some ⟨E,H⟩
def ztQ(o o':Nat)(S:St):Option St:=zC4 o o' S.env S.heap (look o S.heap)
def zu9(x:AV):Option D->AV
 | some d=> .d d
 | none=>x
def zl6(o:Nat)(H:zd):AV->AV
 | .acc p es=>if p=o then .d (.sl es) else .acc p es
 | .osl p off len=>if p=o then zu9 (.osl p off len) (toD H (.osl p off len)) else .osl p off len
 | .ref p i k=>if p=o then zu9 (.ref p i k) (toD H (.ref p i k)) else .ref p i k
 | x=>x
def zhB(o:Nat)(H:zd):Env->Env
 | []=>[]
 | (t,x)::l=>(t,zl6 o H x)::zhB o H l
def ziD(o:Nat)(x:AV):AV:=
 match x with
 | .acc p es=>if p=o then .d (.sl es) else .acc p es
 | x=>x
def zl5(o:Nat):List AV->List AV
 | []=>[]
 | x::l=>ziD o x::zl5 o l
def zjX(o:Nat)(x:AV):AV:=
 match x with
 | .agg cs=> .agg (zl5 o cs)
 | x=>x
def zjY(o:Nat):List AV->List AV
 | []=>[]
 | x::l=>zjX o x::zjY o l
def zre(o:Nat)(ob:Obj):Obj:=
 match ob with
 | .row es=> .row (zjY o es)
 | x=>x
def zfL(o:Nat):zd->zd
 | []=>[]
 | (q,ob)::l=>(q,zre o ob)::zfL o l
def zva(o:Nat)(E:Env)(H:zd)(b:Bool):Option St:=if b=false then some ⟨zhB o H E,zak (zbn H [o]) H⟩ else some ⟨zhB o H E,zfL o (zak (zbn H [o]) H)⟩
def zC2(o:Nat)(E:Env)(H:zd):Option Obj->Option St
 | some _=>zva o E H (zaq o H)
 | none=>some ⟨E,H⟩
def ztP(o:Nat)(S:St):Option St:=zC2 o S.env S.heap (look o S.heap)
def zrY(g:Nat)(S:St):Option St:=if g<4000000 then (if g % 2=0 then ztR (g / 2) S else ztO (g / 2) S) else if g<6000000 then ztQ (g - 4000000) (g - 3500000) S else if g<8000000 then ztP (g - 6000000) S else some (norm1 S)
def zfb:List Nat->St->Option St
 | [],S=>some S
 | g::gs,S=>(zrY g S).bind (zfb gs)
theorem zVV{o m:Nat}{es:List D}:∀ {E:Env},ziH o m E=some es->∃t,(t,AV.acc o es)∈E/\es.length=m:=by
 intro E
 induction E with
 | nil=>intro h;cases h
 | cons p l ih=>
  obtain⟨t,x⟩:=p;intro h
  cases x with
  | acc q es'=>
   simp only[ziH] at h
   split at h
   ·rename_i hc;obtain⟨rfl,hl⟩:=hc
    cases h;exact⟨t,.head _,hl⟩
   ·obtain⟨t',h1,h2⟩:=ih h;exact⟨t',.tail _ h1,h2⟩
  | _=>simp only[ziH] at h;obtain⟨t',h1,h2⟩:=ih h;exact⟨t',.tail _ h1,h2⟩
theorem Rel.recast {S:St} {a:Act} {w:World} {ι:Inj} {R:Nat->Prop} (h:Rel C S a w ι R) {o:Nat} {ob:Obj} {g:AV->AV} (hh:zaq o S.heap=false)
    (hob:OB w R ι (mark (zP o ob S.heap)) o ob)
    (hg:∀x u,VA w R ι (mark S.heap) x u->(x.refs o=true->VA w R ι (mark (zP o ob S.heap)) (g x) u)/\(x.refs o=false->g x=x)):
    Rel C ⟨S.env.map fun p=>(p.1,g p.2),zP o ob S.heap⟩ a w ι R:=by
 have hst:∀p,p≠o->Step w w ι ι (mark S.heap) (mark (zP o ob S.heap)) p:=fun p hp=>Step.other rfl (zej hp) fun _ _ _=>rfl;refine { h with env:=fun t x hx=> ?_,heap:=fun q ob' hq=> ?_ }
 ·obtain⟨⟨t',y⟩,hm,he⟩:=zaby.1 hx
  cases he
  obtain⟨u,h1,h2⟩:=h.env t' y hm;refine⟨u,h1,?_⟩
  cases hr:y.refs o with
  | true=>exact (hg y u h2).1 hr
  | false=>
   show VA w R ι _ (g y) u;rw[(hg y u h2).2 hr];exact h2.mono (fun _ h=>h) (fun _ _=>rfl) fun p hp=>hst p fun e=>by subst e;rw[hr] at hp;cases hp
 ·rcases zhi hq with hq2|⟨hq2,hne⟩
  ·cases hq2;exact hob
  ·exact (h.heap q ob' hq2).mono (fun _ h=>h) (fun _ _=>rfl) (fun _ _ hb=>⟨hb,rfl,fun h=>h⟩) (fun h=>h) fun p hp=>hst p fun e=>by
      rw[e] at hp;have:=zhd (l:=S.heap) hq2 hh;rw[hp] at this;cases this
theorem zZ9{w:World}{R:Nat->Prop}{ι:Inj}{mk:Nat->Option Nat}{o:Nat}{x:AV}{u:Value}(hι:ι o=none)(hm:mk o=some 0)(h:VA w R ι mk x u):VA w R ι mk (zmX o x) u:=by
 unfold zmX
 split
 ·split
  ·rename_i hp;subst hp
   cases h with
   | accR _ _ _ _ _ _ hlt=>have:=hlt 0 hm;simp at this
   | accC hι'=>rw[hι] at hι';cases hι'
   | acc0=>exact .xsl .sl0
  ·exact h
 ·exact h
theorem zZ7{w:World}{R:Nat->Prop}{ι:Inj}{mk:Nat->Option Nat}{o:Nat}{x:AV}{u:Value}(h:VA w R ι mk x u):VA w R ι mk (zmW o x) u:=by
 unfold zmW
 split
 ·split
  ·cases h<;>exact .d .sl0
  ·exact h
 ·exact h
theorem zZ6{o:Nat}{E:Env}:zkG o E=E.map fun p=>(p.1,zmW o p.2):=by
 induction E with
 | nil=>rfl
 | cons p l ih=>obtain⟨t,x⟩:=p;simp only[zkG,ih];rfl
theorem Rel.nilsO{S:St}{a:Act}{w:World}{ι:Inj}{R:Nat->Prop}(h:Rel C S a w ι R){o:Nat}:Rel C ⟨zkG o S.env,S.heap⟩ a w ι R:=by
 refine { h with env:=fun t x hx=> ?_ };rw[zZ6] at hx;obtain⟨⟨t',y⟩,hm,he⟩:=zaby.1 hx
 cases he
 obtain⟨u,h1,h2⟩:=h.env t' y hm;exact⟨u,h1,zZ7 h2⟩
theorem zZ5{o:Nat}{E:Env}:zh1 o E=E.map fun p=>(p.1,zmX o p.2):=by
 induction E with
 | nil=>rfl
 | cons p l ih=>obtain⟨t,x⟩:=p;simp only[zh1,ih];rfl
theorem Rel.nils{S:St}{a:Act}{w:World}{ι:Inj}{R:Nat->Prop}(h:Rel C S a w ι R){o:Nat}(hlk:look o S.heap=some (.acc 0)):Rel C ⟨zh1 o S.env,S.heap⟩ a w ι R:=by
 have hι:ι o=none:=by
  cases h.heap _ _ (zav hlk) with
  | acc hpos=>exact absurd hpos (by decide)
  | accN hι=>exact hι
 have hmk:mark S.heap o=some 0:=by simp [mark,hlk]
 refine { h with env:=fun t x hx=> ?_ };rw[zZ5] at hx;obtain⟨⟨t',y⟩,hm,he⟩:=zaby.1 hx
 cases he
 obtain⟨u,h1,h2⟩:=h.env t' y hm;exact⟨u,h1,zZ9 hι hmk h2⟩
theorem zZ3{o:Nat}{x:AV}(h:x.cell=true):(zi2 o x).cell=true:=by
 unfold zi2
 split
 ·split<;>rfl
 ·exact h
theorem zBs{o:Nat}:∀ {l:List AV},zmV o l=l.map (zi2 o)
 | []=>rfl
 | x::l=>by simp only[zmV,zabs,zBs]
theorem zMx{o:Nat}:∀ {l:List AV},zkF o l=l.map (zkE o)
 | []=>rfl
 | x::l=>by simp only[zkF,zabs,zMx]
theorem zMy{o q:Nat}{ob:Obj}:∀ {H:zd},(q,ob)∈zf5 o H->∃ob0,(q,ob0)∈H/\ob=zsR o ob0
 | [],h=>by cases h
 | (q',ob')::l,h=>by
  simp only[zf5] at h
  cases h with
  | head=>exact⟨_,.head _,rfl⟩
  | tail _ h=>obtain⟨ob0,h1,h2⟩:=zMy h;exact⟨ob0,.tail _ h1,h2⟩
theorem zMc{o q:Nat}:∀ {H:zd},look q (zf5 o H)=(look q H).map (zsR o)
 | []=>rfl
 | (q',ob')::l=>by
  simp only[zf5,look]
  split
  ·rfl
  ·exact zMc
theorem zMl{o:Nat}{H:zd}:mark (zf5 o H)=mark H:=funext fun p=>by
 unfold mark;rw[zMc]
 rcases look p H with _|(es|m|m|m)<;>rfl
theorem zZ4{w:World}{R:Nat->Prop}{ι:Inj}{mk:Nat->Option Nat}{o:Nat}{x:AV}{u:Value}(hι:ι o=none)(hm:mk o=some 0)(h:VA w R ι mk x u):VA w R ι mk (zi2 o x) u:=by
 unfold zi2
 split
 ·split
  ·rename_i hp;subst hp
   cases h with
   | accR _ _ _ _ _ _ hlt=>have:=hlt 0 hm;simp at this
   | accC hι'=>rw[hι] at hι';cases hι'
   | acc0=>exact .xsl .sl0
  ·exact h
 ·exact h
theorem Rel.nilsH{S:St}{a:Act}{w:World}{ι:Inj}{R:Nat->Prop}(h:Rel C S a w ι R){o:Nat}(hlk:look o S.heap=some (.acc 0)):Rel C ⟨zh1 o S.env,zf5 o S.heap⟩ a w ι R:=by
 have h:=h.nils hlk;have hι:ι o=none:=by
  cases h.heap _ _ (zav hlk) with
  | acc hpos=>exact absurd hpos (by decide)
  | accN hι=>exact hι
 have hmk:mark S.heap o=some 0:=by simp [mark,hlk]
 refine { h with env:=fun t x hx=> ?_,heap:=fun q ob hq=> ?_ }
 ·show ∃u,zeu C a t=some u/\VA w R ι (mark (zf5 o S.heap)) x u;rw[zMl];exact h.env t x hx
 ·show OB w R ι (mark (zf5 o S.heap)) q ob;rw[zMl];obtain⟨ob0,h1,rfl⟩:=zMy hq;have hob:=h.heap q ob0 h1
  cases ob0 with
  | acc n=>exact hob
  | frz n=>exact hob
  | mp n=>exact hob
  | row es=>
   cases hob with
   | row hι' hR hb hs0 hsz hc hel=>
    show OB w R ι _ q (.row (zkF o es));rw[zMx];have hsize:∀e:AV,(zkE o e).size=e.size:=fun e=>by
     unfold zkE
     split
     ·simp only[AV.size,zBs,zabE]
     ·rfl
    refine .row hι' hR hb hs0 (fun e he=> ?_) (by rw[zabE];exact hc) fun i e hi j x hj=> ?_
    ·obtain⟨e0,he0,rfl⟩:=zaby.1 he;rw[hsize];exact hsz e0 he0
    ·rw[zabI] at hi;obtain⟨e0,he0,rfl⟩:=zabr.1 hi;unfold zkE at hj
     split at hj
     ·rename_i cs;simp only[AV.cells,zBs,zabI] at hj;obtain⟨x0,hx0,rfl⟩:=zabr.1 hj;obtain⟨k1,qv,k2,k3⟩:=hel i _ he0 j x0 hx0;exact⟨zZ3 k1,qv,k2,zZ4 hι hmk k3⟩
     ·exact hel i _ he0 j x hj
theorem z7P{o m:Nat}{x:AV}:(zcN o m x).size=x.size:=by
 unfold zcN
 split
 ·split<;>rfl
 ·rfl
theorem z7O{o m:Nat}{x:AV}(h:x.cell=true):(zcN o m x).cell=true:=by
 unfold zcN
 split
 ·split<;>rfl
 ·exact h
theorem zCK{o m:Nat}:∀ {l:List AV},zns o m l=l.map (zcN o m)
 | []=>rfl
 | x::l=>by simp only[zns,zabs,zCK]
theorem zty{o m:Nat}:∀ {l:List AV},zk4 o m l=l.map (zie o m)
 | []=>rfl
 | x::l=>by simp only[zk4,zabs,zty]
theorem zMD{o m:Nat}{x:AV}:∀ {l:List AV},zmZ o m l=true->x∈l->okC o m x=true
 | [],_,h=>by cases h
 | y::l,hk,h=>by
  simp only[zmZ,zabH] at hk
  cases h with
  | head=>exact hk.1
  | tail _ h=>exact zMD hk.2 h
theorem zME{o m:Nat}{x:AV}:∀ {l:List AV},zkK o m l=true->x∈l->okE o m x=true
 | [],_,h=>by cases h
 | y::l,hk,h=>by
  simp only[zkK,zabH] at hk
  cases h with
  | head=>exact hk.1
  | tail _ h=>exact zME hk.2 h
theorem z7R{o m:Nat}{x:AV}:(zie o m x).size=x.size:=by
 unfold zie
 split
 ·simp only[AV.size,zCK,zabE]
 ·exact z7P
theorem z7Q{o m:Nat}{e x':AV}{j:Nat}(hk:okE o m e=true)(h:(zie o m e).cells[j]? = some x'):∃x,e.cells[j]? = some x/\okC o m x=true/\x'=zcN o m x:=by
 have one:∀e:AV,e.cells=[e]->okC o m e=true->(zcN o m e).cells=[zcN o m e]->(zcN o m e).cells[j]? = some x'->∃x,e.cells[j]? = some x/\okC o m x=true/\x'=zcN o m x:=by
  intro e h1 h2 h3 h4;rw[h3] at h4
  match j,h4 with
  | 0,h4=>simp at h4;subst h4;exact⟨e,by rw[h1];rfl,h2,rfl⟩
  | n+1,h4=>simp at h4
 cases e with
 | agg cs=>
  simp only[zie,AV.cells,zCK,zabI] at h;obtain⟨x,h1,h2⟩:=zabr.1 h;exact⟨x,h1,zMD hk (zabK h1),h2.symm⟩
 | d y=>
  simp only[zie,zcN,AV.cells,zabI] at h;obtain⟨c,h1,h2⟩:=zabr.1 h;subst h2;exact⟨.d c,by simp [AV.cells,h1],rfl,rfl⟩
 | acc p es=>exact one _ rfl hk (by unfold zcN;simp only;split<;>rfl) h
 | ref p i f=>exact one _ rfl hk rfl h
 | osl p i f=>exact one _ rfl hk rfl h
 | pe p i=>exact one _ rfl hk rfl h
 | xsl p=>exact one _ rfl hk rfl h
 | tup p=>exact one _ rfl hk rfl h
 | fn p i=>exact one _ rfl hk rfl h
 | nl p=>exact one _ rfl hk rfl h
 | mpr p=>exact one _ rfl hk rfl h
 | undef=>exact one _ rfl hk rfl h
def zQu(o m:Nat):Obj->Obj
 | .row es=> .row (zk4 o m es)
 | x=>x
theorem znu{o m:Nat}{q:Nat}{ob:Obj}:∀ {H:zd},zf6 o m H=true->(q,ob)∈zcs o m H->∃ob0,(q,ob0)∈H/\ob=zQu o m ob0/\(∀es,ob0= .row es->zkK o m es=true)
 | [],_,h=>by cases h
 | (q',.row es)::l,hk,h=>by
  simp only[zf6,zabH] at hk;simp only[zcs] at h
  cases h with
  | head=>exact⟨_,.head _,rfl,fun es' e=>by cases e;exact hk.1⟩
  | tail _ h=>obtain⟨ob0,h1,h2,h3⟩:=znu hk.2 h;exact⟨ob0,.tail _ h1,h2,h3⟩
 | (q',.acc n)::l,hk,h=>by
  simp only[zf6] at hk;simp only[zcs] at h
  cases h with
  | head=>exact⟨_,.head _,rfl,fun es' e=>by cases e⟩
  | tail _ h=>obtain⟨ob0,h1,h2,h3⟩:=znu hk h;exact⟨ob0,.tail _ h1,h2,h3⟩
 | (q',.frz n)::l,hk,h=>by
  simp only[zf6] at hk;simp only[zcs] at h
  cases h with
  | head=>exact⟨_,.head _,rfl,fun es' e=>by cases e⟩
  | tail _ h=>obtain⟨ob0,h1,h2,h3⟩:=znu hk h;exact⟨ob0,.tail _ h1,h2,h3⟩
 | (q',.mp n)::l,hk,h=>by
  simp only[zf6] at hk;simp only[zcs] at h
  cases h with
  | head=>exact⟨_,.head _,rfl,fun es' e=>by cases e⟩
  | tail _ h=>obtain⟨ob0,h1,h2,h3⟩:=znu hk h;exact⟨ob0,.tail _ h1,h2,h3⟩
theorem zmP{o m q:Nat}:∀ {H:zd},mark (zcs o m H) q=mark H q
 | []=>rfl
 | (q',.row es)::l=>by
  have ih:=zmP (o:=o) (m:=m) (q:=q) (H:=l);unfold mark at ih ⊢;simp only[zcs,Go.Sim.look]
  by_cases h:q'=q
  ·rw[zabo h,zabo h]
  ·rw[zabn h,zabn h];exact ih
 | (q',.acc n)::l=>by
  have ih:=zmP (o:=o) (m:=m) (q:=q) (H:=l);unfold mark at ih ⊢;simp only[zcs,Go.Sim.look]
  by_cases h:q'=q
  ·rw[zabo h,zabo h]
  ·rw[zabn h,zabn h];exact ih
 | (q',.frz n)::l=>by
  have ih:=zmP (o:=o) (m:=m) (q:=q) (H:=l);unfold mark at ih ⊢;simp only[zcs,Go.Sim.look]
  by_cases h:q'=q
  ·rw[zabo h,zabo h]
  ·rw[zabn h,zabn h];exact ih
 | (q',.mp n)::l=>by
  have ih:=zmP (o:=o) (m:=m) (q:=q) (H:=l);unfold mark at ih ⊢;simp only[zcs,Go.Sim.look]
  by_cases h:q'=q
  ·rw[zabo h,zabo h]
  ·rw[zabn h,zabn h];exact ih
theorem zm2{α:Type}{x y:Option α}{a:α}(h:orE x y=some a):y=some a\/x=some a:=by
 cases y with
 | some b=>exact .inl h
 | none=>exact .inr h
theorem ziI{o m:Nat}{es:List D}:∀ {l:List AV},zhF o m l=some es->AV.acc o es∈l/\es.length=m
 | [],h=>by cases h
 | x::l,h=>by
  cases x with
  | acc q es'=>
   simp only[zhF] at h
   split at h
   ·rename_i hc;obtain⟨rfl,hl⟩:=hc
    cases h;exact⟨.head _,hl⟩
   ·exact⟨.tail _ (ziI h).1,(ziI h).2⟩
  | _=>simp only[zhF] at h;exact⟨.tail _ (ziI h).1,(ziI h).2⟩
theorem zrs{o m:Nat}{es:List D}:∀ {l:List AV},zhG o m l=some es->∃e∈l,∃j:Nat,e.cells[j]? = some (AV.acc o es)/\es.length=m
 | [],h=>by cases h
 | x::l,h=>by
  cases x with
  | agg cs=>
   simp only[zhG] at h
   rcases zm2 h with h|h
   ·obtain⟨h1,h2⟩:=ziI h;obtain⟨j,hj⟩:=zab6 h1;exact⟨_,.head _,j,hj,h2⟩
   ·obtain⟨e,h1,h2⟩:=zrs h;exact⟨e,.tail _ h1,h2⟩
  | acc p es'=>
   simp only[zhG] at h
   rcases zm2 h with h|h
   ·obtain⟨h1,h2⟩:=ziI h;simp only[zab1] at h1;exact⟨_,.head _,0,by rw[<- h1];rfl,h2⟩
   ·obtain⟨e,h1,h2⟩:=zrs h;exact⟨e,.tail _ h1,h2⟩
  | _=>
   simp only[zhG] at h
   rcases zm2 h with h|h
   ·obtain⟨h1,h2⟩:=ziI h;simp at h1
   ·obtain⟨e,h1,h2⟩:=zrs h;exact⟨e,.tail _ h1,h2⟩
theorem zma{o m:Nat}{es:List D}:∀ {H:zd},zfW o m H=some es->∃q fs,(q,Obj.row fs)∈H/\∃e∈fs,∃j:Nat,e.cells[j]? = some (AV.acc o es)/\es.length=m
 | [],h=>by cases h
 | (q,.row fs)::l,h=>by
  simp only[zfW] at h
  rcases zm2 h with h|h
  ·exact⟨q,fs,.head _,zrs h⟩
  ·obtain⟨q,fs,h1,h2⟩:=zma h;exact⟨q,fs,.tail _ h1,h2⟩
 | (q,.acc n)::l,h=>by
  simp only[zfW] at h;obtain⟨q,fs,h1,h2⟩:=zma h;exact⟨q,fs,.tail _ h1,h2⟩
 | (q,.frz n)::l,h=>by
  simp only[zfW] at h;obtain⟨q,fs,h1,h2⟩:=zma h;exact⟨q,fs,.tail _ h1,h2⟩
 | (q,.mp n)::l,h=>by
  simp only[zfW] at h;obtain⟨q,fs,h1,h2⟩:=zma h;exact⟨q,fs,.tail _ h1,h2⟩
theorem zaay{o:Nat}{S S':St}{a:Act}{w:World}{ι:Inj}{R:Nat->Prop}(hs:ztR o S=some S')(h:Rel C S a w ι R):Rel C S' a w ι R:=by
 unfold ztR at hs;generalize hlk:look o S.heap=q at hs;unfold zC5 at hs
 split at hs
 ·rename_i m
  split at hs
  ·rename_i hm0;subst hm0;unfold zBt at hs
   split at hs
   ·cases hs;exact h.nils hlk
   ·cases hs;exact h.nilsH hlk
  rename_i hm0;generalize hes:zrr o m S.env S.heap=qe at hs;unfold zC6 at hs
  split at hs
  ·rename_i es;rw[zabo hm0] at hs;have hmk:mark S.heap o=some m:=by simp [mark,hlk]
   have hvl:es.length=m/\∃u,VA w R ι (mark S.heap) (.acc o es) u:=by
    unfold zrr at hes
    rcases zm2 hes with hes|hes
    ·obtain⟨t,ht,hl⟩:=zVV hes;obtain⟨u,_,hv⟩:=h.env t _ ht;exact⟨hl,u,hv⟩
    ·obtain⟨q,fs,hq,e,he,j,hj,hl⟩:=zma hes;obtain⟨i,hi⟩:=zab6 he
     cases h.heap _ _ hq with
     | row _ _ _ _ _ _ hel=>
      obtain⟨_,qv,_,hv⟩:=hel i e hi j _ hj;exact⟨hl,qv,hv⟩
   obtain⟨hl,u,hv⟩:=hvl;have hob:=h.heap _ _ (zav hlk);have key:∀mk':Nat->Option Nat,mk' o=none->((∀p,p≠o->mk' p=mark S.heap p)->OB w R ι mk' o (.row (es.map .d)))/\∀(es':List D) (u:Value),es'.length=m->VA w R ι (mark S.heap) (.acc o es') u->VA w R ι mk' (.osl o 0 m) u:=by
    intro mk' hmk';refine⟨fun _=> ?_,fun es' u hlen hx=> ?_⟩
    ·cases hv with
     | accR _ _ _ _ _ _ hlt=>have:=hlt m hmk;omega
     | acc0=>simp at hl;exact absurd hl.symm hm0
     | @accC _ b s m' cap _ c T hι hmk2 _ hL hcap hsz hb hc hel=>
      cases hob with
      | accN hι'=>rw[hι] at hι';cases hι'
      | acc _ hι' hR hb' hs0 _=>
       rw[hι] at hι';cases hι';refine .row hι hR hb hs0 (fun e he=> ?_) ?_ fun i e hi j x hj=> ?_
       ·obtain⟨d,hd,rfl⟩:=zaby.1 he;exact hsz d hd
       ·rw[zabE];exact zaca (zab2 _ hcap) hc
       ·rw[zabI] at hi;obtain⟨d,hd,rfl⟩:=zabr.1 hi;simp only[AV.cells,zabI] at hj;obtain⟨cd,hcd,rfl⟩:=zabr.1 hj;obtain⟨k1,q,k2,k3⟩:=(hel i d hd).v_of_cells j cd hcd;exact⟨k1,q,by rw[zcq hb] at k2;exact k2,.d k3⟩
    ·cases hx with
     | accR _ _ _ _ _ _ hlt=>have:=hlt m hmk;omega
     | acc0=>simp at hlen;exact absurd hlen.symm hm0
     | @accC _ b s m' cap _ c T hι hmk2 _ hL hcap hsz hb hc hel=>
      have:=VA.osl (w:=w) (R:=R) (mk:=mk') (off:=0) (len:=es'.length) (cap:=cap) hι hmk' hb hcap (by simpa using hc) hL;simp only[Nat.zero_mul] at this;rw[hlen] at this ⊢;exact this
   unfold zC7 at hs
   by_cases hh:zaq o S.heap=false
   ·rw[zabo hh] at hs
    cases hs
    have hmk':mark (zP o (.row (es.map .d)) S.heap) o=none:=by rw[zei]
    have hk:=key _ hmk';refine h.recast (g:=zgv o m) hh (hk.1 fun p hp=>zej hp) fun x u hx=>⟨fun hr=> ?_,fun hr=> ?_⟩
    ·unfold zgv
     split
     ·rename_i p es';have hp:p=o:=by simpa [AV.refs] using hr
      rw[zabo hp];subst hp
      split
      ·rename_i hlen;exact hk.2 _ _ hlen hx
      ·exact .undef
     ·rw[zabo hr];exact .undef
    ·unfold zgv
     split
     ·rename_i p es';have hp:¬p=o:=by simpa [AV.refs] using hr
      rw[zabn hp]
     ·rw[zabn (by simp [hr])]
   ·rw[zabn hh] at hs
    split at hs
    rotate_left
    ·cases hs
    rename_i hokh
    cases hs
    have hmn:∀p,p≠o->mark (zP o (.row (es.map .d)) (zcs o m S.heap)) p=mark S.heap p:=fun p hp=>by rw[zej hp,zmP]
    have hmk':mark (zP o (.row (es.map .d)) (zcs o m S.heap)) o=none:=by rw[zei]
    have hk:=key _ hmk';have hst:∀p,p≠o->Step w w ι ι (mark S.heap) (mark (zP o (.row (es.map .d)) (zcs o m S.heap))) p:=fun p hp=>Step.other rfl (hmn p hp) fun _ _ _=>rfl;have hkeep:∀(x:AV) (u:Value),x.refs o=false->VA w R ι (mark S.heap) x u->VA w R ι (mark (zP o (.row (es.map .d)) (zcs o m S.heap))) x u:=fun x u hr hx=>
     hx.mono (fun _ h=>h) (fun _ _=>rfl) fun p hp=>hst p fun e=>by subst e;rw[hr] at hp;cases hp
    refine { h with env:=fun t x hx=> ?_,heap:=fun q ob' hq=> ?_ }
    ·obtain⟨⟨t',y⟩,hm,he⟩:=zaby.1 hx
     cases he
     obtain⟨u,h1,h2⟩:=h.env t' y hm;refine⟨u,h1,?_⟩;show VA w R ι _ (zgv o m y) u
     cases hr:y.refs o with
     | true=>
      unfold zgv
      split
      ·rename_i p es';have hp:p=o:=by simpa [AV.refs] using hr
       rw[zabo hp];subst hp
       split
       ·rename_i hlen;exact hk.2 _ _ hlen h2
       ·exact .undef
      ·rw[zabo hr];exact .undef
     | false=>
      have:zgv o m y=y:=by
       unfold zgv
       split
       ·rename_i p es';have hp:¬p=o:=by simpa [AV.refs] using hr
        rw[zabn hp]
       ·rw[zabn (by simp [hr])]
      rw[this];exact hkeep _ _ hr h2
    ·rcases zhi hq with hq2|⟨hq2,hne⟩
     ·cases hq2;exact hk.1 hmn
     ·obtain⟨ob0,hm0',hob',hrow⟩:=znu hokh hq2;subst hob';have hob0:=h.heap q ob0 hm0'
      cases ob0 with
      | acc n=>exact hob0.mono (fun _ h=>h) (fun _ _=>rfl) (fun _ _ hb=>⟨hb,rfl,fun h=>h⟩) (fun h=>h) fun p hp=>by simp [Obj.refs] at hp
      | frz n=>exact hob0.mono (fun _ h=>h) (fun _ _=>rfl) (fun _ _ hb=>⟨hb,rfl,fun h=>h⟩) (fun h=>h) fun p hp=>by simp [Obj.refs] at hp
      | mp n=>exact hob0.mono (fun _ h=>h) (fun _ _=>rfl) (fun _ _ hb=>⟨hb,rfl,fun h=>h⟩) (fun h=>h) fun p hp=>by simp [Obj.refs] at hp
      | row fs=>
       have hoke:=hrow fs rfl;simp only[zQu]
       cases hob0 with
       | row hι hR hb hs0 hsz hc hel=>
        refine .row hι hR hb hs0 (fun e he=> ?_) (by rw[zty,zabE];exact hc) fun i e hi j x hj=> ?_
        ·rw[zty] at he;obtain⟨e0,he0,rfl⟩:=zaby.1 he;rw[z7R];exact hsz e0 he0
        ·rw[zty,zabI] at hi;obtain⟨e0,he0,rfl⟩:=zabr.1 hi;obtain⟨x0,hx0,hkc,rfl⟩:=z7Q (zME hoke (zabK he0)) hj;obtain⟨k1,qv,k2,k3⟩:=hel i e0 he0 j x0 hx0;refine⟨z7O k1,qv,k2,?_⟩
         by_cases hacc:∃es',x0= .acc o es'
         ·obtain⟨es',rfl⟩:=hacc;simp only[okC,if_true,beq_iff_eq] at hkc;simp only[zcN,if_true];exact hk.2 _ _ hkc k3
         ·have hr:x0.refs o=false/\zcN o m x0=x0:=by
             cases x0 with
             | acc p es'=>
              have hp:¬p=o:=fun e=>hacc ⟨es',by rw[e]⟩;exact⟨by simpa [AV.refs] using hp,by simp only[zcN,zabn hp]⟩
             | _=>exact⟨by simpa [okC] using hkc,rfl⟩
          rw[hr.2];exact hkeep _ _ hr.1 k3
  ·cases hs
 ·cases hs;exact h
 ·cases hs;exact h
 ·cases hs;exact h
 ·cases hs;exact h
theorem zaas{o:Nat}{S S':St}{a:Act}{w:World}{ι:Inj}{R:Nat->Prop}(hs:ztO o S=some S')(h:Rel C S a w ι R):Rel C S' a w ι R:=by
 unfold ztO at hs;generalize hlk:look o S.heap=q at hs;unfold zCZ at hs
 split at hs
 ·rename_i es;generalize hds:zbq es=qe at hs;unfold zC0 at hs
  split at hs
  ·rename_i ds
   split at hs
   ·cases hs;exact h.nilsO
   split at hs
   rotate_left
   ·cases hs
   rename_i hc;obtain⟨hne,hh⟩:=hc
   cases hs
   have hesd:=ziu hds;have hmk':mark (zP o (.acc ds.length) S.heap) o=some ds.length:=by rw[zei]
   have hdn:ds≠[]:=by rintro rfl;exact hne hesd
   cases h.heap _ _ (zav hlk) with
   | @row _ b s c T hι hR hb hs0 hsz hc hel=>
    have hrd:∀(i:Nat) (d:D),ds[i]? = some d->Rd w R (.el d b (i * s)):=fun i d hi=>by
     have hei:es[i]? = some (.d d):=by rw[hesd];simp [hi]
     refine Rd.el_of_cells (fun vs hvs=> ?_) fun j cd hj=> ?_
     ·subst hvs;have:=(hel i _ hei 0 (.d (.tup vs)) rfl).1;simp [AV.cell,D.cell] at this
     ·obtain⟨k1,q,k2,k3⟩:=hel i _ hei j (.d cd) (by simp [AV.cells,hj]);exact⟨k1,q,by rw[zcq hb];exact k2,k3.of_d⟩
    have hsz':∀d∈ds,d.size=s:=fun d hd=>hsz (.d d) (by rw[hesd];exact zadw hd);refine h.recast (g:=zjG o ds) hh ?_ fun x u hx=>⟨fun hr=> ?_,fun hr=> ?_⟩
    ·refine .acc (zac0.2 hdn) hι hR hb hs0 ?_;rw[hesd] at hc;simpa using hc
    ·unfold zjG
     split
     ·rename_i p off len;have hp:p=o:=by simpa [AV.refs] using hr
      rw[zabo hp];subst hp
      split
      ·rename_i hcc;obtain⟨rfl,rfl⟩:=hcc;generalize hlen:ds.length=n at hx hmk'
       cases hx with
       | osl0=>exact absurd (zacc.1 hlen) hdn
       | @osl _ _ _ cap b' s' c' T' hι' hmk2 hb' hcap hc' hL=>
        rw[hι] at hι';cases hι';rw[hb] at hb';cases hb';subst hlen;rw[Nat.zero_mul];exact .accC hι hmk' (zabR _) hL hcap hsz' hb (by simpa using hc') hrd
      ·exact .undef
     ·rw[zabo hr];exact .undef
    ·unfold zjG
     split
     ·rename_i p off len;have hp:¬p=o:=by simpa [AV.refs] using hr
      rw[zabn hp]
     ·rw[zabn (by simp [hr])]
  ·cases hs
 ·cases hs;exact h
 ·cases hs;exact h
 ·cases hs;exact h
 ·cases hs;exact h
theorem z7M{o o' a b:Nat}(ha:a≠o')(hb:b≠o')(h:rnm o o' a=rnm o o' b):a=b:=by
 unfold rnm at h
 split at h<;>split at h
 ·rename_i h1 h2;rw[h1,h2]
 ·exact absurd h.symm hb
 ·exact absurd h ha
 ·exact h
theorem zaax{o o':Nat}{S S':St}{a:Act}{w:World}{ι:Inj}{R:Nat->Prop}(hs:ztQ o o' S=some S')(h:Rel C S a w ι R):∃ι',Rel C S' a w ι' R:=by
 unfold ztQ at hs;generalize hlk:look o S.heap=q at hs
 cases q with
 | none=>cases hs;exact⟨ι,h⟩
 | some ob=>
  simp only[zC4] at hs
  split at hs
  ·rename_i hc;obtain⟨hn,he,hh⟩:=hc
   cases hs
   have hn':look o' S.heap=none:=by simpa using hn
   have hmk:∀n,n≠o'->mark (zc4 (rnm o o') S.heap) (rnm o o' n)=mark S.heap n:=by
    intro n hno;unfold mark;rw[zMd fun m hm e=>z7M (fun e2=>by rw[e2,hn'] at hm;cases hm) hno e]
    cases look n S.heap with
    | none=>rfl
    | some ob=>cases ob<;>rfl
   have hι:∀n,n≠o'->(fun q=>if q=o' then ι o else if q=o then none else ι q) (rnm o o' n)=ι n:=by
    intro n hno;unfold rnm
    by_cases e:n=o
    ·subst e;simp
    ·simp [e,hno]
   refine⟨fun q=>if q=o' then ι o else if q=o then none else ι q,{ h with own:= ?_,inj:= ?_,env:= ?_,heap:= ?_ }⟩
   ·intro q b s hq
    split at hq
    ·exact h.own o b s hq
    ·split at hq
     ·cases hq
     ·exact h.own q b s hq
   ·intro q q' b s s' hq hq'
    split at hq<;>split at hq'
    ·rename_i e1 e2;rw[e1,e2]
    ·split at hq'
     ·cases hq'
     ·rename_i e1 e2 e3;exact absurd (h.inj o q' b s s' hq hq') (Ne.symm e3)
    ·split at hq
     ·cases hq
     ·rename_i e1 e2 e3;exact absurd (h.inj q o b s s' hq hq') e3
    ·split at hq
     ·cases hq
     ·split at hq'
      ·cases hq'
      ·exact h.inj q q' b s s' hq hq'
   ·intro t x hx;have:∃y,(t,y)∈S.env/\x=y.ren (rnm o o'):=by
     have key:∀(E:Env),(t,x)∈znn (rnm o o') E->∃y,(t,y)∈E/\x=y.ren (rnm o o'):=by
      intro E
      induction E with
      | nil=>intro h;cases h
      | cons p l ih=>
       obtain⟨t',y⟩:=p;intro h;simp only[znn] at h
       cases h with
       | head=>exact⟨y,.head _,rfl⟩
       | tail _ h=>obtain⟨z,h1,h2⟩:=ih h;exact⟨z,.tail _ h1,h2⟩
     exact key _ hx
    obtain⟨y,hy,rfl⟩:=this;obtain⟨u,h1,h2⟩:=h.env t y hy;refine⟨u,h1,h2.ren fun n hn2=> ?_⟩;have hno:n≠o':=fun e=>by subst e;rw[znm hy he] at hn2;cases hn2
    exact⟨fun p hp=>(hι n hno).trans hp,hmk n hno⟩
   ·intro n ob' hm;obtain⟨⟨m,ob2⟩,hm2,he2⟩:=zaby.1 hm
    cases he2
    have hno:m≠o':=fun e=>by
     subst e;have hs2:(look m S.heap).isSome=true:=by
      have key:∀(l:zd),(m,ob2)∈l->(look m l).isSome=true:=by
       intro l
       induction l with
       | nil=>intro h;cases h
       | cons p l ih=>
        obtain⟨k,y⟩:=p;intro h;simp only[look]
        split
        ·rfl
        ·rename_i hne
         cases h with
         | head=>exact absurd rfl hne
         | tail _ h=>exact ih h
      exact key _ hm2
     rw[hn'] at hs2;cases hs2
    refine (h.heap m ob2 hm2).ren (hι m hno) fun n hn2=> ?_;have hno2:n≠o':=fun e=>by subst e;rw[zhd hm2 hh] at hn2;cases hn2
    exact⟨fun p hp=>(hι n hno2).trans hp,hmk n hno2⟩
  ·cases hs
theorem zTF{o:Nat}{H:zd}{E:Env}:zhB o H E=E.map fun p=>(p.1,zl6 o H p.2):=by
 induction E with
 | nil=>rfl
 | cons p l ih=>obtain⟨t,x⟩:=p;simp only[zhB,ih];rfl
theorem zTD{o:Nat}{x:AV}(h:x.cell=true):(ziD o x).cell=true:=by
 unfold ziD
 split
 ·split<;>rfl
 ·exact h
theorem zu8{o:Nat}:∀ {l:List AV},zl5 o l=l.map (ziD o)
 | []=>rfl
 | x::l=>by simp only[zl5,zabs,zu8]
theorem zGM{o:Nat}:∀ {l:List AV},zjY o l=l.map (zjX o)
 | []=>rfl
 | x::l=>by simp only[zjY,zabs,zGM]
theorem zGN{o q:Nat}{ob:Obj}:∀ {H:zd},(q,ob)∈zfL o H->∃ob0,(q,ob0)∈H/\ob=zre o ob0
 | [],h=>by cases h
 | (q',ob')::l,h=>by
  simp only[zfL] at h
  cases h with
  | head=>exact⟨_,.head _,rfl⟩
  | tail _ h=>obtain⟨ob0,h1,h2⟩:=zGN h;exact⟨ob0,.tail _ h1,h2⟩
theorem zMa{o q:Nat}:∀ {H:zd},look q (zfL o H)=(look q H).map (zre o)
 | []=>rfl
 | (q',ob')::l=>by
  simp only[zfL,look]
  split
  ·rfl
  ·exact zMa
theorem zMk{o:Nat}{H:zd}:mark (zfL o H)=mark H:=funext fun p=>by
 unfold mark;rw[zMa]
 rcases look p H with _|(es|m|m|m)<;>rfl
theorem zQ3{S:St}{a:Act}{w:World}{ι:Inj}{R:Nat->Prop}{o:Nat}{ob:Obj}(hlk:look o S.heap=some ob)(h:Rel C S a w ι R):Rel C ⟨zhB o S.heap S.env,zak (zbn S.heap [o]) S.heap⟩ a w ι (zeE R ι [o]):=by
 have hf:=h.freeze (os:=[o]) (by simp [zgj,hlk]);refine { hf with env:=fun t x hx=> ?_ };rw[zTF] at hx;obtain⟨⟨t',y⟩,hm,he⟩:=zaby.1 hx
 cases he
 obtain⟨u,h1,h2⟩:=h.env t' y hm;obtain⟨u',h1',h2'⟩:=hf.env t' y hm;rw[h1] at h1'
 cases h1'
 refine⟨u,h1,?_⟩;show VA w _ ι _ (zl6 o S.heap y) u;unfold zl6
 split
 ·rename_i p es
  split
  ·rename_i hp;exact .d (znK h h2 rfl fun q hq=>by simpa [AV.objs,hp] using hq)
  ·exact h2'
 ·rename_i p off len
  split
  ·rename_i hp;unfold zu9
   split
   ·rename_i d hd;exact .d (znK h h2 hd fun q hq=>by simpa [AV.objs,hp] using hq)
   ·exact h2'
  ·exact h2'
 ·rename_i p i k
  split
  ·rename_i hp;unfold zu9
   split
   ·rename_i d hd;exact .d (znK h h2 hd fun q hq=>by simpa [AV.objs,hp] using hq)
   ·exact h2'
  ·exact h2'
 ·exact h2'
theorem zTE{S:St}{a:Act}{w:World}{ι:Inj}{R:Nat->Prop}(h:Rel C S a w ι R){o:Nat}{mk:Nat->Option Nat}{x:AV}{u:Value}(h1:VA w R ι (mark S.heap) x u)(h2:VA w (zeE R ι [o]) ι mk x u):VA w (zeE R ι [o]) ι mk (ziD o x) u:=by
 unfold ziD
 split
 ·split
  ·rename_i hp;exact .d (znK h h1 rfl fun q hq=>by simpa [AV.objs,hp] using hq)
  ·exact h2
 ·exact h2
theorem zaau{S:St}{a:Act}{w:World}{ι:Inj}{R:Nat->Prop}{o:Nat}{ob:Obj}(hlk:look o S.heap=some ob)(h:Rel C S a w ι R):Rel C ⟨zhB o S.heap S.env,zfL o (zak (zbn S.heap [o]) S.heap)⟩ a w ι (zeE R ι [o]):=by
 have hd:=zQ3 hlk h;refine { hd with env:=fun t x hx=> ?_,heap:=fun q ob1 hq=> ?_ }
 ·show ∃u,zeu C a t=some u/\VA w _ ι (mark (zfL o (zak (zbn S.heap [o]) S.heap))) x u;rw[zMk];exact hd.env t x hx
 ·show OB w _ ι (mark (zfL o (zak (zbn S.heap [o]) S.heap))) q ob1;rw[zMk];obtain⟨ob0,h1,rfl⟩:=zGN hq;have hob:=hd.heap q ob0 h1
  cases ob0 with
  | acc n=>exact hob
  | frz n=>exact hob
  | mp n=>exact hob
  | row es=>
   have hold:OB w R ι (mark S.heap) q (.row es):=by
    rcases zBk h1 with h3|⟨h3,_⟩
    ·obtain⟨p,_,he⟩:=zaby.1 h3
     cases he
    ·exact h.heap q _ h3
   cases hob with
   | row hι' hR hb hs0 hsz hc hel=>
    cases hold with
    | row hι2 hR2 hb2 hs2 hsz2 hc2 hel2=>
     rw[hι'] at hι2
     cases hι2
     rw[hb] at hb2
     cases hb2
     show OB w _ ι _ q (.row (zjY o es));rw[zGM];have hsize:∀e:AV,(zjX o e).size=e.size:=fun e=>by
      unfold zjX
      split
      ·simp only[AV.size,zu8,zabE]
      ·rfl
     refine .row hι' hR hb hs0 (fun e he=> ?_) (by rw[zabE];exact hc) fun i e hi j x hj=> ?_
     ·obtain⟨e0,he0,rfl⟩:=zaby.1 he;rw[hsize];exact hsz e0 he0
     ·rw[zabI] at hi;obtain⟨e0,he0,rfl⟩:=zabr.1 hi;unfold zjX at hj
      split at hj
      ·rename_i cs;simp only[AV.cells,zu8,zabI] at hj;obtain⟨x0,hx0,rfl⟩:=zabr.1 hj;obtain⟨k1,qv,k2,k3⟩:=hel i _ he0 j x0 hx0;obtain⟨_,qv2,k22,k32⟩:=hel2 i _ he0 j x0 hx0;rw[k2] at k22
       cases k22
       exact⟨zTD k1,qv,k2,zTE h k32 k3⟩
      ·exact hel i _ he0 j x hj
theorem zaav{S S':St}{a:Act}{w:World}{ι:Inj}{R:Nat->Prop}{o:Nat}(hs:ztP o S=some S')(h:Rel C S a w ι R):∃R',Rel C S' a w ι R':=by
 unfold ztP zC2 at hs
 split at hs
 ·rename_i ob hlk;unfold zva at hs
  split at hs
  ·cases hs
   exact⟨_,zQ3 hlk h⟩
  ·cases hs
   exact⟨_,zaau hlk h⟩
 ·cases hs;exact⟨R,h⟩
theorem zIR{S':St}{a:Act}{w:World}:∀ {gs:List Nat} {S:St} {ι:Inj} {R:Nat->Prop},zfb gs S=some S'->Rel C S a w ι R->∃ι' R',Rel C S' a w ι' R':=by
 intro gs
 induction gs with
 | nil=>intro S ι R hs h;cases hs;exact⟨ι,R,h⟩
 | cons g gs ih=>
  intro S ι R hs h;obtain⟨S1,h1,h2⟩:=zabp.1 hs;have:∃ι' R',Rel C S1 a w ι' R':=by
   unfold zrY at h1
   split at h1
   ·split at h1
    ·exact⟨ι,R,zaay h1 h⟩
    ·exact⟨ι,R,zaas h1 h⟩
   ·split at h1
    ·obtain⟨ι',h'⟩:=zaax h1 h;exact⟨ι',R,h'⟩
    ·split at h1
     ·obtain⟨R',h'⟩:=zaav h1 h;exact⟨ι,R',h'⟩
     ·cases h1;exact⟨ι,R,h.norm1⟩
  obtain⟨ι',R',h'⟩:=this;exact ih h2 h'
end Go.Sim

namespace Go.Sim
open Go (World Value Addr TypeId Act)
variable {P:Program} {C:Ctx}
def fr4(dst:Nat):List Nat:=[dst,dst+10000,dst+20000,dst+30000]
def zcg(H:zd)(dst:Nat)(ms:List Bool)(args:List AV):List Nat×List Nat:=
 (zbF H ms args++(zaz ms args++fr4 dst),zbF H ms args++fr4 dst)
theorem z0k{cs:List D}:AV.objsL (cs.map .d)=[]:=by
 induction cs with
 | nil=>rfl
 | cons x xs ih=>simp [AV.objsL,AV.objs,ih]
theorem zQ1{H H2:zd}:∀ {x:AV},(∀o∈x.objs,look o H2=look o H)->toD H2 x=toD H x:=by
 intro x;refine AV.rec (motive_1:=fun x=>(∀o∈x.objs,look o H2=look o H)->toD H2 x=toD H x) (motive_2:=fun xs=>(∀o∈AV.objsL xs,look o H2=look o H)->toD.toDs H2 xs=toD.toDs H xs) ?_ ?_ ?_ ?_ ?_ ?_ ?_ ?_ ?_ ?_ ?_ ?_ ?_ ?_ x
 ·intro _ _;rfl
 ·intro o i off h
  cases off with
  | zero=>simp only[toD];rw[h o (by simp [AV.objs])]
  | succ n=>simp [toD]
 ·intro o off len h;simp only[toD];rw[h o (by simp [AV.objs])]
 ·intro _ _ _;rfl
 ·intro _ _ _;rfl
 ·intro _ _;rfl
 ·intro cs ih h;simp only[toD];rw[ih (by simpa [AV.objs] using h)]
 ·intro cs ih h;simp only[toD];rw[ih (by simpa [AV.objs] using h)]
 ·intro f cs ih h;simp only[toD];rw[ih (by simpa [AV.objs] using h)]
 ·intro _ _;rfl
 ·intro _ _;rfl
 ·intro _;rfl
 ·intro _;rfl
 ·intro y ys h1 h2 h;simp only[toD.toDs];rw[h1 fun o ho=>h o (by simp [AV.objsL,ho]),h2 fun o ho=>h o (by simp [AV.objsL,ho])]
theorem zGy{H H2:zd}:∀ {ms:List Bool} {xs:List AV},(∀o∈zaz ms xs,look o H2=look o H)->zbJ H2 ms xs=zbJ H ms xs:=by
 intro ms xs
 induction xs generalizing ms with
 | nil=>intro _;cases ms<;>rfl
 | cons x xs ih=>
  intro h
  match ms with
  | []=>
   simp only[zbJ];rw[zQ1 fun o ho=>h o (by simp [zaz,ho]),ih fun o ho=>h o (by simp [zaz,ho])]
  | false::ms=>
   simp only[zbJ];rw[zQ1 fun o ho=>h o (by simp [zaz,ho]),ih fun o ho=>h o (by simp [zaz,ho])]
  | true::ms=>
   simp only[zbJ];rw[ih fun o ho=>h o (by simp [zaz,ho])]
theorem zQb{H H2:zd}{ns:List Nat}(h:∀o∈ns,look o H2=look o H):zfm H2 ns=zfm H ns:=by
 unfold zfm
 congr 1
 have:∀l:List Nat,(∀o∈l,look o H2=look o H)->l.flatMap (zk5 H2)=l.flatMap (zk5 H):=by
  intro l
  induction l with
  | nil=>intro _;rfl
  | cons o l ih=>
   intro hl;simp only[List.flatMap_cons];rw[ih fun q hq=>hl q (.tail _ hq)]
   congr 1
   simp only[zk5,hl o (.head _)]
 exact this ns h
theorem zBp{H H2:zd}{ms:List Bool}{args:List AV}(h:∀o∈zbF H ms args,look o H2=look o H):zbF H2 ms args=zbF H ms args:=by
 have h1:∀o∈zfm H (zcT [] (zch ms args)),look o H2=look o H:=fun o ho=>h o (zfG _ _ ho);have h0:∀o∈zcT [] (zch ms args),look o H2=look o H:=fun o ho=>h1 o (zfG _ _ ho);unfold zbF;rw[zQb h0,zQb h1]
theorem zGu{F:zaU}(hF:FOK P F){E:Env}{H:zd}{dst:Nat}{ms:List Bool}{f:FuncId}{args:List AV}{v:AV}{δ:zd}(h:zcu F E H dst ms f args=some (v,δ)){E2:Env}{H2:zd}(hh:∀o∈(zcg H dst ms args).1,look o H2=look o H)(hf:∀n∈fr4 dst,zaX n E2=false/\zaq n H2=false):
    zcu F E2 H2 dst ms f args=some (v,δ):=by
 unfold zcu at h ⊢;have hns:∀o∈zbF H ms args,look o H2=look o H:=fun o ho=>hh o (by simp [zcg,ho]);have hds:∀o∈zaz ms args,look o H2=look o H:=fun o ho=>hh o (by simp [zcg,ho]);rw[zBp hns,zGy hds];obtain⟨zabm,has,h⟩:=zabp.1 h;rw[has,zabY];have hnod:(zbF H ms args).Nodup:=zsQ _ _ _;unfold zfJ at h ⊢;have hok:zkM H2 (zbF H ms args)=zkM H (zbF H ms args):=by
  unfold zkM;rw[zacD,zabO,zabO];constructor
  ·intro hx o ho;have:=hx o ho;rw[hns o ho] at this;exact this
  ·intro hx o ho;rw[hns o ho];exact hx o ho
 have hos:zbY H2 (zbF H ms args)=zbY H (zbF H ms args):=by
  unfold zbY;exact zacR fun o ho=>by rw[hns o ho]
 rw[hok,hos]
 split at h
 ·rename_i hc;rw[zabo hc];obtain⟨⟨r,os'⟩,hf',h⟩:=zabp.1 h;rw[hf',zabY];simp only[zabH] at hc;obtain⟨_,_,hWF⟩:=hF f _ _ r os' hf' (fun⟨n,ob⟩ hm=>by
   obtain⟨o,ho,_,h2⟩:=zsP hm;have:=zabO.1 hc.1 o ho
   split at this
   ·rename_i es hes;exact⟨_,by rw[h2,hes];rfl⟩
   ·cases this) (fun i p hp=>(zsT hnod i p hp).1)
  unfold zeI at h ⊢
  split at h
  ·rename_i hc2;simp only[zabH] at hc2;have:zme E2 H2 dst (zbF H ms args) os'=true:=by
    refine zabO.2 fun p hp=> ?_;have h1:=zabO.1 hc2.1 p hp;simp only[zacj,zabH,decide_eq_true_eq] at h1 ⊢
    rcases h1 with h1|h1
    ·exact .inl h1
    ·rcases hWF.names p.1 (zsf (x:=p.2) hp) with h2|⟨h2,_⟩
     ·have hm:dst+10000 * p.1∈fr4 dst:=by
         have:p.1=0\/p.1=1\/p.1=2\/p.1=3:=by omega
         rcases this with h|h|h|h<;>simp [fr4,h]
      obtain⟨h3,h4⟩:=hf _ hm;exact .inr ⟨⟨by simp [h3],by simp [h4]⟩,h1.2⟩
     ·exact .inl h2
   rw[zabo (by simp only[zabH];exact⟨this,hc2.2⟩)];exact h
  ·cases h
 ·cases h
theorem zCF{ρ:Nat->Nat}{x:AV}{o:Nat}(h:(x.ren ρ).refs o=true):∃q,x.refs q=true/\o=ρ q:=by
 have key:∀x:AV,(x.ren ρ).refs o=true->∃q,x.refs q=true/\o=ρ q:=by
  intro x;refine AV.rec (motive_1:=fun x=>(x.ren ρ).refs o=true->∃q,x.refs q=true/\o=ρ q) (motive_2:=fun xs=>AV.refsL o (AV.renL ρ xs)=true->∃q,AV.refsL q xs=true/\o=ρ q) ?_ ?_ ?_ ?_ ?_ ?_ ?_ ?_ ?_ ?_ ?_ ?_ ?_ ?_ x
  ·intro _ h;simp [AV.ren,AV.refs] at h
  ·intro p i off h;simp only[AV.ren,AV.refs,beq_iff_eq] at h;exact⟨p,by simp [AV.refs],h.symm⟩
  ·intro p i off h;simp only[AV.ren,AV.refs,beq_iff_eq] at h;exact⟨p,by simp [AV.refs],h.symm⟩
  ·intro p es h;simp only[AV.ren,AV.refs,beq_iff_eq] at h;exact⟨p,by simp [AV.refs],h.symm⟩
  ·intro p y h;simp only[AV.ren,AV.refs,beq_iff_eq] at h;exact⟨p,by simp [AV.refs],h.symm⟩
  ·intro _ h;simp [AV.ren,AV.refs] at h
  ·intro cs ih h;exact ih h
  ·intro cs ih h;exact ih h
  ·intro f cs ih h;exact ih h
  ·intro _ h;simp [AV.ren,AV.refs] at h
  ·intro p h;simp only[AV.ren,AV.refs,beq_iff_eq] at h;exact⟨p,by simp [AV.refs],h.symm⟩
  ·intro h;simp [AV.ren,AV.refs] at h
  ·intro h;simp [AV.renL,AV.refsL] at h
  ·intro y ys h1 h2 h;simp only[AV.renL,AV.refsL,zacj] at h
   rcases h with h|h
   ·obtain⟨q,k1,k2⟩:=h1 h;exact⟨q,by simp [AV.refsL,k1],k2⟩
   ·obtain⟨q,k1,k2⟩:=h2 h;exact⟨q,by simp [AV.refsL,k1],k2⟩
 exact key x h
theorem zQm{ρ:Nat->Nat}{xs:List AV}{o:Nat}(h:AV.refsL o (xs.map (AV.ren ρ))=true):∃q,AV.refsL q xs=true/\o=ρ q:=by
 induction xs with
 | nil=>simp [AV.refsL] at h
 | cons x xs ih=>
  simp only[zabs,AV.refsL,zacj] at h
  rcases h with h|h
  ·obtain⟨q,k1,k2⟩:=zCF h;exact⟨q,by simp [AV.refsL,k1],k2⟩
  ·obtain⟨q,k1,k2⟩:=ih h;exact⟨q,by simp [AV.refsL,k1],k2⟩
theorem zGv{F:zaU}(hF:FOK P F){E:Env}{H:zd}{dst:Nat}{ms:List Bool}{f:FuncId}{args:List AV}{v:AV}{δ:zd}(h:zcu F E H dst ms f args=some (v,δ)):
    (∀p∈δ,p.1∈(zcg H dst ms args).2)/\(∀o,v.refs o=true->o∈(zcg H dst ms args).2)/\(∀p∈δ,∀o,p.2.refs o=true->o∈(zcg H dst ms args).2):=by
 unfold zcu at h;obtain⟨zabm,has,h⟩:=zabp.1 h;have hnod:(zbF H ms args).Nodup:=zsQ _ _ _;simp only[zcg];generalize zbF H ms args=ns at *;unfold zfJ at h
 split at h
 ·rename_i hc;simp only[zabH] at hc;obtain⟨⟨r,os'⟩,hf,h⟩:=zabp.1 h;obtain⟨_,_,hW⟩:=hF f _ _ r os' hf (fun⟨n,ob⟩ hm=>by
   obtain⟨o,ho,_,h2⟩:=zsP hm;have:=zabO.1 hc.1 o ho
   split at this
   ·rename_i es hes;exact⟨_,by rw[h2,hes];rfl⟩
   ·cases this) (fun i p hp=>(zsT hnod i p hp).1)
  unfold zeI at h
  split at h
  ·cases h
   have hnl:(zbY H ns).length=ns.length:=by simp [zbY]
   rw[hnl] at hW;have hname:∀n,(look n os').isSome=true->zdY ns dst n∈ns++fr4 dst:=fun n hn=>by
    simp only[zabS]
    rcases hW.names n hn with h1|⟨h1,h2⟩
    ·right;have h3:zdY ns dst n=dst+10000 * n:=by simp only[zdY];rw[zabo (by omega)]
     rw[h3];have:n=0\/n=1\/n=2\/n=3:=by omega
     rcases this with h|h|h|h<;>simp [fr4,h]
    ·left;simp only[zdY];rw[zabn (by omega),zab0,zabx (by omega)];simp
   refine⟨fun p hp=> ?_,fun o ho=> ?_,fun p hp o ho=> ?_⟩
   ·obtain⟨⟨n,ob⟩,hm,rfl⟩:=zaby.1 hp;exact hname n (zsf hm)
   ·obtain⟨q,h1,rfl⟩:=zCF ho;exact hname q (hW.res q h1)
   ·obtain⟨⟨n,ob⟩,hm,rfl⟩:=zaby.1 hp
    cases ob with
    | acc n=>simp [Obj.ren,Obj.refs] at ho
    | frz m=>simp [Obj.ren,Obj.refs] at ho
    | mp m=>simp [Obj.ren,Obj.refs] at ho
    | row es=>
     simp only[Obj.ren,Obj.refs] at ho;obtain⟨q,h1,rfl⟩:=zQm ho;exact hname q (hW.resH n _ hm q h1)
  ·cases h
 ·cases h
theorem zYt{ms:List Bool}{args:List AV}{o:Nat}(h:o∈zch ms args):AV.refsL o args=true:=by
 induction args generalizing ms with
 | nil=>cases ms<;>simp [zch] at h
 | cons x xs ih=>
  match ms with
  | []=>simp [zch] at h
  | false::ms=>simp only[zch] at h;simp [AV.refsL,ih h]
  | true::ms=>
   simp only[zch,zabS] at h
   rcases h with h|h
   ·simp [AV.refsL,ztr h]
   ·simp [AV.refsL,ih h]
theorem zDu:∀(xs ns:List Nat) {o:Nat},o∈zcT ns xs->o∈ns\/o∈xs:=by
 intro xs
 induction xs with
 | nil=>intro ns o h;exact .inl h
 | cons x xs ih=>
  intro ns o h;simp only[zcT] at h
  split at h
  ·rcases ih _ h with h|h
   ·exact .inl h
   ·exact .inr (.tail _ h)
  ·rcases ih _ h with h|h
   ·simp at h
    rcases h with h|h
    ·exact .inl h
    ·exact .inr (by simp [h])
   ·exact .inr (.tail _ h)
theorem z6W{H:zd}{ns:List Nat}{o:Nat}(h:o∈zfm H ns):o∈ns\/zaq o H=true:=by
 rcases zDu _ _ h with h|h
 ·exact .inl h
 ·obtain⟨q,_,hq⟩:=List.mem_flatMap.1 h;simp only[zk5] at hq
  split at hq
  ·rename_i es hes;right
   cases hr:zaq o H with
   | true=>rfl
   | false=>
    have:=zhd (zav hes) hr;have h2:AV.refsL o es=true:=ztr (x:= .agg es) hq;simp only[Obj.refs] at this;rw[h2] at this;cases this
  ·cases hq
theorem zMt{H:zd}{ms:List Bool}{args:List AV}{o:Nat}(h1:AV.refsL o args=false)(h2:zaq o H=false):o∉zbF H ms args:=by
 intro h;have no:∀ {ns:List Nat},o∈zfm H ns->o∈ns:=fun h=>(z6W h).resolve_right (by simp [h2])
 rcases zDu _ _ (no (no h)) with h|h
 ·cases h
 ·rw[zYt h] at h1;cases h1
def zdd(H:zd)(dst:Nat)(ms:List Bool)(args:List AV):List Nat×List Nat:=
 if zmf ms args.length=true then
  ((zcg H dst ms args).1++(zcg (zak (zbn H (zaz ms args)) H) dst ms ((zbJ H ms args).getD [])).1,
   (zcg (zak (zbn H (zaz ms args)) H) dst ms ((zbJ H ms args).getD [])).2++zaz ms args)
 else zcg H dst ms args
theorem zCz{o:Nat}{δ H:zd}(h1:∀p∈δ,p.2.refs o=false)(h2:zaq o H=false):zaq o (zak δ H)=false:=by
 induction δ with
 | nil=>exact h2
 | cons p δ ih=>
  obtain⟨q,ob⟩:=p;exact zeW (ih fun r hr=>h1 r (.tail _ hr)) (h1 _ (.head _))
theorem zSD{F:zaU}(hF:FOK P F){E:Env}{H:zd}{dst:Nat}{ms:List Bool}{f:FuncId}{args:List AV}{v:AV}{δ:zd}(h:zbr F E H dst ms f args=some (v,δ)){E2:Env}{H2:zd}(hh:∀o∈(zdd H dst ms args).1,look o H2=look o H)(hf:∀n∈fr4 dst,zaX n E2=false/\zaq n H2=false):
    zbr F E2 H2 dst ms f args=some (v,δ):=by
 unfold zbr at h ⊢;unfold zdd at hh
 split at h
 ·rename_i hz;rw[zabo hz] at hh ⊢;have hds:∀o∈zaz ms args,look o H2=look o H:=fun o ho=>hh o (by simp [zcg,ho]);obtain⟨zabm,has,h⟩:=zabp.1 h;rw[has] at hh;rw[zGy hds,has,zabY];unfold zgi at h ⊢;have hok:zgj H2 (zaz ms args)=zgj H (zaz ms args):=by
   unfold zgj;rw[zacD,zabO,zabO];exact⟨fun hx o ho=>by have:=hx o ho;rw[hds o ho] at this;exact this,fun hx o ho=>by rw[hds o ho];exact hx o ho⟩
  have hfz:zbn H2 (zaz ms args)=zbn H (zaz ms args):=by
   unfold zbn;refine zacR fun o ho=> ?_;unfold mark;rw[hds o ho]
  rw[hok,hfz]
  split at h
  ·rename_i hk;rw[zabo hk];obtain⟨⟨v',δ'⟩,h1,h2⟩:=zabr.1 h
   cases h2
   rw[zGu hF h1 (E2:=E2) (H2:=zak (zbn H (zaz ms args)) H2) (fun o ho=> ?_) (fun n hn=>⟨(hf n hn).1,?_⟩)]
   ·rfl
   ·rw[zdi,zdi,hh o (by simp [ho])]
   ·rw[<- hfz];exact zCz (fun p hp=>by obtain⟨q,_,rfl⟩:=zaby.1 hp;rfl) (hf n hn).2
  ·cases h
 ·rename_i hz;rw[zabn hz] at hh ⊢;exact zGu hF h hh hf
theorem zSE{F:zaU}(hF:FOK P F){E:Env}{H:zd}{dst:Nat}{ms:List Bool}{f:FuncId}{args:List AV}{v:AV}{δ:zd}(h:zbr F E H dst ms f args=some (v,δ)):
    (∀p∈δ,p.1∈(zdd H dst ms args).2)/\(∀o,v.refs o=true->o∈(zdd H dst ms args).2)/\(∀p∈δ,∀o,p.2.refs o=true->o∈(zdd H dst ms args).2):=by
 unfold zbr at h;unfold zdd
 split at h
 ·rename_i hz;rw[zabo hz];obtain⟨zabm,has,h⟩:=zabp.1 h;rw[has];unfold zgi at h
  split at h
  ·obtain⟨⟨v',δ'⟩,h1,h2⟩:=zabr.1 h
   cases h2
   obtain⟨n1,n2,n3⟩:=zGv hF h1;refine⟨fun p hp=> ?_,fun o ho=>zacM _ (n2 o ho),fun p hp o ho=> ?_⟩
   ·rcases zabS.1 hp with hp|hp
    ·exact zacM _ (n1 p hp)
    ·obtain⟨q,hq,rfl⟩:=zaby.1 hp;exact zadn _ hq
   ·rcases zabS.1 hp with hp|hp
    ·exact zacM _ (n3 p hp o ho)
    ·obtain⟨q,hq,rfl⟩:=zaby.1 hp;simp [Obj.refs] at ho
  ·cases h
 ·rename_i hz;rw[zabn hz];exact zGv hF h
theorem zrf{o:Nat}:∀ {ms:List Bool} {xs:List AV},o∈zaz ms xs->AV.refsL o xs=true
 | _,[],h=>by simp [zaz] at h
 | [],x::xs,h=>by
  simp only[zaz,zabS] at h;simp only[AV.refsL,zacj]
  rcases h with h|h
  ·exact .inl (ztr h)
  ·exact .inr (zrf h)
 | true::ms,x::xs,h=>by
  simp only[zaz] at h;simp only[AV.refsL,zacj];exact .inr (zrf h)
 | false::ms,x::xs,h=>by
  simp only[zaz,zabS] at h;simp only[AV.refsL,zacj]
  rcases h with h|h
  ·exact .inl (ztr h)
  ·exact .inr (zrf h)
theorem zq5{H:zd}{o:Nat}:∀ {ms:List Bool} {xs zabm:List AV},zbJ H ms xs=some zabm->AV.refsL o xs=false->AV.refsL o zabm=false
 | _,[],zabm,h,_=>by cases ‹List Bool› <;> (simp [zbJ] at h;subst h;rfl)
 | [],x::xs,zabm,h,hr=>by
  simp only[zbJ] at h;obtain⟨d,_,h⟩:=zabp.1 h;obtain⟨bs,h1,rfl⟩:=zabr.1 h;simp only[AV.refsL,zacY] at hr ⊢;exact⟨rfl,zq5 h1 hr.2⟩
 | true::ms,x::xs,zabm,h,hr=>by
  simp only[zbJ] at h;obtain⟨bs,h1,rfl⟩:=zabr.1 h;simp only[AV.refsL,zacY] at hr ⊢;exact⟨hr.1,zq5 h1 hr.2⟩
 | false::ms,x::xs,zabm,h,hr=>by
  simp only[zbJ] at h;obtain⟨d,_,h⟩:=zabp.1 h;obtain⟨bs,h1,rfl⟩:=zabr.1 h;simp only[AV.refsL,zacY] at hr ⊢;exact⟨rfl,zq5 h1 hr.2⟩
theorem zGA{H:zd}{dst:Nat}{ms:List Bool}{args:List AV}:∀o∈(zcg H dst ms args).2,o∈(zcg H dst ms args).1:=by
 intro o ho;simp only[zcg,zabS] at ho ⊢
 rcases ho with ho|ho
 ·exact .inl ho
 ·exact .inr (.inr ho)
theorem zSI{H:zd}{dst:Nat}{ms:List Bool}{args:List AV}:∀o∈(zdd H dst ms args).2,o∈(zdd H dst ms args).1:=by
 intro o ho;unfold zdd at ho ⊢
 split at ho
 ·rename_i hz;rw[zabo hz]
  rcases zabS.1 ho with ho|ho
  ·exact zadn _ (zGA o ho)
  ·exact zacM _ (by simp [zcg,ho])
 ·rename_i hz;rw[zabn hz];exact zGA o ho
theorem zSH{H H2:zd}{dst:Nat}{ms:List Bool}{args:List AV}{o:Nat}(hh:∀o∈(zdd H dst ms args).1,look o H2=look o H)(ha:AV.refsL o args=false)(h2:zaq o H2=false)(hn:o∉fr4 dst):o∉(zdd H dst ms args).2:=by
 unfold zdd at hh ⊢
 split
 ·rename_i hz;rw[zabo hz] at hh;have hds:∀o∈zaz ms args,look o H2=look o H:=fun o ho=>hh o (by simp [zcg,ho]);have hfz:zbn H2 (zaz ms args)=zbn H (zaz ms args):=by
   unfold zbn;refine zacR fun o ho=> ?_;unfold mark;rw[hds o ho]
  simp only[zcg,zabS];rintro ((hm|hm)|hm)
  ·have hnames:∀q∈zbF (zak (zbn H (zaz ms args)) H) ms ((zbJ H ms args).getD []),look q (zak (zbn H (zaz ms args)) H2)=look q (zak (zbn H (zaz ms args)) H):=fun q hq=>by
      rw[zdi,zdi,hh q (by simp [zcg,hq])]
   rw[<- zBp hnames] at hm;refine zMt ?_ (zCz (fun p hp=>by obtain⟨q,_,rfl⟩:=zaby.1 hp;rfl) h2) hm
   cases hc:zbJ H ms args with
   | none=>rfl
   | some zabm=>exact zq5 hc ha
  ·exact hn hm
  ·have:=zrf hm;rw[ha] at this;cases this
 ·rename_i hz;rw[zabn hz] at hh;simp only[zcg,zabS];rintro (hm|hm)
  ·have hnames:∀q∈zbF H ms args,look q H2=look q H:=fun q hq=>hh q (by simp [zcg,hq]);rw[<- zBp hnames] at hm;exact zMt ha h2 hm
  ·exact hn hm
end Go.Sim

namespace Go.Sim
open Go (World Value Addr TypeId Act)
variable {P:Program} {C:Ctx}
def zK.reads(x:zK):List Nat:=(x.op.opds.filterMap fun y=>match y with| .t n=>some n| .c _=>none)++(match x.guard with|some (t,_)=>[t]|none=>[])
def ziv(x y:zK):Bool:=
 (match x.dst with|some d=> !y.reads.contains d&& !(y.dst==some d)|none=>true)&&(match y.dst with|some d=> !x.reads.contains d|none=>true)
inductive zeD(ops:Array Oper):Nat->Nat->Prop
 | one {j:Nat} {o:Oper} {e:Edge} (ho:ops[j]? = some o) (he:e∈o.after) (hb:Region.binds .any e=true):zeD ops j e.on
 | more {j k:Nat} {o:Oper} {e:Edge} (ho:ops[j]? = some o) (he:e∈o.after) (hb:Region.binds .any e=true) (h:zeD ops e.on k):zeD ops j k
def zvc(o:Oper):List Nat:=(o.after.toList.filter fun e=>Region.binds .any e).map (·.on)
def maskOf(ms:List Nat):List Nat->Nat
 | []=>0
 | d::ds=>(2 ^ d ||| ms.getD d 0) ||| maskOf ms ds
def zf3(l:List Oper):Nat->List Nat
 | 0=>[]
 | n+1=>match l[n]? with
  | some o=>zf3 l n++[maskOf (zf3 l n) (zvc o)]
  | none=>zf3 l n
def zHP(ms:List Nat)(j:Nat):List Nat:=(List.range j).filter fun k=> !(ms.getD j 0).testBit k
def zgO(ops:Array Oper)(j:Nat):List Nat:=zHP (zf3 ops.toList ops.size) j
theorem zTV{ops:Array Oper}{j:Nat}{o:Oper}(ho:ops[j]? = some o){d:Nat}(hd:d∈zvc o):zeD ops j d:=by
 obtain⟨e,he,rfl⟩:=zaby.1 hd;obtain⟨he,hb⟩:=zacW.1 he;exact .one ho (by simpa using he) hb
theorem zTU{ops:Array Oper}{j k:Nat}{o:Oper}(ho:ops[j]? = some o){d:Nat}(hd:d∈zvc o)(h:zeD ops d k):zeD ops j k:=by
 obtain⟨e,he,rfl⟩:=zaby.1 hd;obtain⟨he,hb⟩:=zacW.1 he;exact .more ho (by simpa using he) hb h
theorem zZz{ms:List Nat}{k:Nat}:∀ {ds:List Nat},(maskOf ms ds).testBit k=true->∃d∈ds,d=k\/(ms.getD d 0).testBit k=true:=by
 intro ds
 induction ds with
 | nil=>intro h;simp [maskOf] at h
 | cons d ds ih=>
  intro h;simp only[maskOf,Nat.testBit_or,zacj,Nat.testBit_two_pow,decide_eq_true_eq] at h
  rcases h with (h|h)|h
  ·exact⟨d,.head _,.inl h⟩
  ·exact⟨d,.head _,.inr h⟩
  ·obtain⟨d',h1,h2⟩:=ih h;exact⟨d',.tail _ h1,h2⟩
theorem zZA{ops:Array Oper}:∀n,(zf3 ops.toList n).length=min n ops.size/\∀j k,((zf3 ops.toList n).getD j 0).testBit k=true->zeD ops j k:=by
 intro n
 induction n with
 | zero=>exact⟨by simp [zf3],fun j k h=>by simp [zf3] at h⟩
 | succ n ih=>
  simp only[zf3]
  split
  ·rename_i o ho;have hn:n<ops.size:=by
    have:=(zabB.1 ho).1;simpa using this
   have ho':ops[n]? = some o:=by simpa using ho
   refine⟨by rw[zabv,ih.1];simp;omega,fun j k h=> ?_⟩;rw[zab0,List.getElem?_append] at h
   split at h
   ·exact ih.2 j k (by rw[zab0];exact h)
   ·rename_i hj;have hl:(zf3 ops.toList n).length=n:=by rw[ih.1];omega
    by_cases hj2:j=n
    ·subst hj2;rw[hl,zadL] at h;simp only[zadG,zacS] at h;obtain⟨d,hd,h1⟩:=zZz h
     rcases h1 with rfl|h1
     ·exact zTV ho' hd
     ·exact zTU ho' hd (ih.2 d k h1)
    ·rw[zadl (by simp;omega)] at h;simp at h
  ·rename_i ho;have hn:ops.size<=n:=by
    rw[List.getElem?_eq_none_iff] at ho;simpa using ho
   exact⟨by rw[ih.1];omega,ih.2⟩
theorem zZC{ops:Array Oper}{j k:Nat}(hkj:k<j)(hno:¬zeD ops j k):k∈zgO ops j:=by
 unfold zgO zHP;simp only[zacW,zack,hkj,zacB,zace]
 cases h:((zf3 ops.toList ops.size).getD j 0).testBit k with
 | false=>rfl
 | true=>exact absurd ((zZA _).2 j k h) hno
def AOp.cleanB(op:AOp):Bool:=
 (op.opds.all fun y=>match y with| .t _=>true| .c x=>x.objs.isEmpty)&&
 (match op with
  | .alloc z=>z.objs.isEmpty
  | .build z _=>(AV.objsL z).isEmpty
  | .bsl _ _ z _=>z.objs.isEmpty
  | .mks _ z _ _=>z.objs.isEmpty
  | _=>true)
def zK.newNames(x:zK):List Nat:=
 match x.op with
 | .call _ _ _=>fr4 (x.dst.getD 0)
 | .callv _ _ _=>fr4 (x.dst.getD 0)
 | op=>if op.news then [x.dst.getD 0] else []
def zt7(l:List zK)(n j:Nat)(x:zK):Bool:=
 x.newNames.isEmpty||(match x.dst with
  | some d=>decide (d<10000)&&(List.range n).all fun k=>k==j||match l[k]? with|some y=>y.newNames.isEmpty|| !(y.dst==some d)|none=>false
  | none=>false)
def zGR(ops:Array Oper)(l:List zK):Bool:=
 (List.range ops.size).all fun j=>
  match ops[j]?,l[j]? with
  | some o,some x=>
   (o.after.toList.all fun e=> !Region.binds .any e||decide (e.on<j))&&
   ((zgO ops j).all fun k=>match l[k]? with|some y=>ziv y x|none=>false)&&
   x.op.cleanB&&zt7 l ops.size j x
  | _,_=>false
theorem ztS{w:World}{R:Nat->Prop}{ι:Inj}{mk:Nat->Option Nat}:VA w R ι mk (.d (.tup [])) Go.undef:= .d (.tup (vs:=[]) rfl fun i c u h=>by simp at h)
theorem VA.tup0_inv{w:World}{R:Nat->Prop}{ι:Inj}{mk:Nat->Option Nat}{u:Value}(h:VA w R ι mk (.d (.tup [])) u):u= .tuple #[]:=by
 cases h with
 | d h=>
  cases h with
  | tup hl=>have:=zaey hl;subst this;rfl
def zgE(o:Nat)(S:St):Prop:=zaX o S.env=false/\zaq o S.heap=false
def shp:Option Obj->Option (List Nat)
 | some (.row es)=>some (es.map AV.size)
 | _=>none
def zar:List Nat->List Nat
 | []=>[]
 | o::l=>(2 * o)::(2 * o+1)::zar l
theorem zik{o:Nat}{l:List Nat}(h:o∈l):2 * o∈zar l:=by
 induction l with
 | nil=>cases h
 | cons x l ih=>
  simp only[zar]
  cases h with
  | head=>exact .head _
  | tail _ h=>exact .tail _ (.tail _ (ih h))
theorem zDa{o:Nat}{l:List Nat}(h:o∈l):2 * o+1∈zar l:=by
 induction l with
 | nil=>cases h
 | cons x l ih=>
  simp only[zar]
  cases h with
  | head=>exact .tail _ (.head _)
  | tail _ h=>exact .tail _ (.tail _ (ih h))
theorem zaaB{t:Nat}{l:List Nat}(h:t∈zar l):∃o∈l,t=2 * o\/t=2 * o+1:=by
 induction l with
 | nil=>cases h
 | cons x l ih=>
  simp only[zar,zab4] at h
  rcases h with h|h|h
  ·exact⟨x,.head _,.inl h⟩
  ·exact⟨x,.head _,.inr h⟩
  ·obtain⟨o,h1,h2⟩:=ih h;exact⟨o,.tail _ h1,h2⟩
theorem zQ5{a b:List Nat}(h:∀o∈a,o∈b):∀t∈zar a,t∈zar b:=by
 intro t ht;obtain⟨o,h1,h2⟩:=zaaB ht
 rcases h2 with rfl|rfl
 ·exact zik (h o h1)
 ·exact zDa (h o h1)
structure zcR(x:zK)(Fo:List Nat)(S S2:St):Prop where
 env:∀t∈x.reads,look t S2.env=look t S.env
 heap:∀o,2 * o∈Fo->look o S2.heap=look o S.heap
 shape:∀o,2 * o+1∈Fo->shp (look o S2.heap)=shp (look o S.heap)
theorem zcR.ev{x:zK}{Fo:List Nat}{S S2:St}(h:zcR x Fo S S2):∀y∈x.op.opds,y.ev S2.env=y.ev S.env:=by
 intro y hy
 cases y with
 | c v=>rfl
 | t n=>
  simp only[Opd.ev];rw[h.env n];simp only[zK.reads,zabS,List.mem_filterMap];exact .inl ⟨_,hy,rfl⟩
structure zlk(F:zaU)(x:zK)(S:St)(v:AV)(δ:zd)(Fo W:List Nat):Prop where
 sub:∀o ob,(o,ob)∈δ->2 * o∈W
 keep:∀o ob,(o,ob)∈δ->2 * o+1∈W\/shp (some ob)=shp (look o S.heap)
 subF:∀o∈W,o∈Fo
 same:∀S2,zcR x Fo S S2->(∀n∈x.newNames,zgE n S2)->
  step F S2.env S2.heap (x.dst.getD 0) x.op=some (v,zak δ S2.heap)/\
  (∀o,zgE o S2->o∉x.newNames->v.refs o=false/\zaq o (zak δ S2.heap)=false)
variable {F:zaU}
def ziE(a b:List Nat):Bool:=a.all fun o=> !b.contains o
def ziR(p q:List Nat×List Nat):Bool:=ziE p.2 q.1&&ziE q.2 p.1
def Gd(x:zK)(S:St):Option Bool:=
 match x.guard with
 | none=>some true
 | some (t,b)=>match look t S.env with|some (.d (.bool c))=>some (c==b)|some (.d (.tup []))=>some false|_=>none
def Y(F:zaU)(x:zK)(S:St)(v:AV)(δ:zd)(p:List Nat×List Nat):Prop:=
 (Gd x S=some true/\zlk F x S v δ p.1 p.2)\/(Gd x S=some false/\v= .d (.tup [])/\δ=[])
def ap(x:zK)(S:St)(v:AV)(δ:zd):St:=St.put ⟨S.env,zak δ S.heap⟩ x.dst v
theorem zcR.gd{x:zK}{Fo:List Nat}{S S2:St}(h:zcR x Fo S S2):Gd x S2=Gd x S:=by
 unfold Gd
 cases hg:x.guard with
 | none=>rfl
 | some p=>
  obtain⟨t,b⟩:=p;simp only[];rw[h.env t (by simp [zK.reads,hg])]
theorem zcR.trans{x:zK}{Fo:List Nat}{S S2 S3:St}(h:zcR x Fo S S2)(h':zcR x Fo S2 S3):zcR x Fo S S3:=
 ⟨fun t ht=>(h'.env t ht).trans (h.env t ht),fun o ho=>(h'.heap o ho).trans (h.heap o ho),fun o ho=>(h'.shape o ho).trans (h.shape o ho)⟩
theorem Y.agree{x:zK}{S S2:St}{v:AV}{δ:zd}{p:List Nat×List Nat}(h:Y F x S v δ p)(ha:zcR x p.1 S S2):Y F x S2 v δ p:=by
 rcases h with ⟨h1,h2⟩|⟨h1,h2,h3⟩
 ·exact .inl ⟨ha.gd.trans h1,h2.sub,fun o ob ho=>(h2.keep o ob ho).imp id fun h=>by rw[ha.heap o (h2.subF _ (h2.sub o ob ho))];exact h,h2.subF,fun S3 h3 h4=>h2.same S3 (ha.trans h3) h4⟩
 ·exact .inr ⟨ha.gd.trans h1,h2,h3⟩
theorem Y.sub{x:zK}{S:St}{v:AV}{δ:zd}{p:List Nat×List Nat}(h:Y F x S v δ p):∀o ob,(o,ob)∈δ->2 * o∈p.2/\2 * o∈p.1:=by
 rcases h with ⟨h1,h2⟩|⟨h1,h2,rfl⟩
 ·exact fun o ob ho=>⟨h2.sub o ob ho,h2.subF _ (h2.sub o ob ho)⟩
 ·exact fun o ob ho=>nomatch ho
theorem Y.keep{x:zK}{S:St}{v:AV}{δ:zd}{p:List Nat×List Nat}(h:Y F x S v δ p):∀o ob,(o,ob)∈δ->2 * o+1∈p.2\/shp (some ob)=shp (look o S.heap):=by
 rcases h with ⟨h1,h2⟩|⟨h1,h2,rfl⟩
 ·exact h2.keep
 ·exact fun o ob ho=>nomatch ho
def Same(S S':St):Prop:=(∀t,look t S.env=look t S'.env)/\(∀o,look o S.heap=look o S'.heap)
theorem Same.agree{S S':St}(h:Same S S')(x:zK)(Fo:List Nat):zcR x Fo S S':=⟨fun t _=>(h.1 t).symm,fun o _=>(h.2 o).symm,fun o _=>by rw[h.2 o]⟩
theorem Same.symm{S S':St}(h:Same S S'):Same S' S:=⟨fun t=>(h.1 t).symm,fun o=>(h.2 o).symm⟩
theorem Same.trans{S S' S'':St}(h:Same S S')(h':Same S' S''):Same S S'':=⟨fun t=>(h.1 t).trans (h'.1 t),fun o=>(h.2 o).trans (h'.2 o)⟩
theorem zZi{S:St}{dst:Option Nat}{v:AV}{t:Nat}:look t (S.put dst v).env=if dst=some t then some v else look t S.env:=by
 cases dst with
 | none=>simp [St.put]
 | some d=>
  simp only[St.put,zMe,Option.some.injEq]
  by_cases h:t=d
  ·simp [h]
  ·rw[zabn h,zabn (Ne.symm h)]
theorem zXH{S:St}{dst:Option Nat}{v:AV}:(S.put dst v).heap=S.heap:=by cases dst<;>rfl
theorem zhX{x:zK}{S:St}{v:AV}{δ:zd}{t:Nat}:look t (ap x S v δ).env=if x.dst=some t then some v else look t S.env:=zZi
theorem zfd{x:zK}{S:St}{v:AV}{δ:zd}:(ap x S v δ).heap=zak δ S.heap:=zXH
theorem Same.ap{S S':St}(h:Same S S')(x:zK)(v:AV)(δ:zd):Same (ap x S v δ) (ap x S' v δ):=by
 refine⟨fun t=> ?_,fun o=> ?_⟩
 ·rw[zhX,zhX,h.1 t]
 ·rw[zfd,zfd,zdi,zdi,h.2 o]
theorem zBc{α:Type}{o:Nat}{l:List (Nat×α)}(h:∀ob,(o,ob)∉l):look o l=none:=by
 cases hh:look o l with
 | none=>rfl
 | some ob=>exact absurd (zav hh) (h ob)
theorem zR2{x y:zK}(h:ziv x y=true):(∀d,x.dst=some d->d∉y.reads/\y.dst≠some d)/\(∀d,y.dst=some d->d∉x.reads):=by
 refine⟨fun d hd=> ?_,fun d hd=> ?_⟩<;>simp [ziv,hd] at h
 ·exact h.1
 ·exact h.2
theorem zrh{a b:List Nat}(h:ziE a b=true){o:Nat}(ha:o∈a)(hb:o∈b):False:=by
 have:=zabO.1 h o ha;simp [hb] at this
theorem swap{x y:zK}{S:St}{v u:AV}{δ ε:zd}{p q:List Nat×List Nat}(hx:Y F x S v δ p)(hy:Y F y (ap x S v δ) u ε q)(ha:ziv x y=true)(hi:ziR p q=true):
    Y F y S u ε q/\Y F x (ap y S u ε) v δ p/\Same (ap y (ap x S v δ) u ε) (ap x (ap y S u ε) v δ):=by
 obtain⟨h1,h2⟩:=zR2 ha;simp only[ziR,zabH] at hi;have e1:∀o,2 * o∈q.1->look o (zak δ S.heap)=look o S.heap:=fun o ho=>by
  rw[zdi,zBc fun ob hob=>zrh hi.1 (hx.sub o ob hob).1 ho];rfl
 have e2:∀o,2 * o∈p.1->look o (zak ε S.heap)=look o S.heap:=fun o ho=>by
  rw[zdi,zBc fun ob hob=>zrh hi.2 (hy.sub o ob hob).1 ho];rfl
 have sh:∀ {z:zK} {v':AV} {δ':zd} {p' q':List Nat×List Nat},Y F z S v' δ' p'->ziE p'.2 q'.1=true->∀o,2 * o+1∈q'.1->shp (look o (zak δ' S.heap))=shp (look o S.heap):=by
  intro z v' δ' p' q' hz hd o ho;rw[zdi]
  cases hl:look o δ' with
  | none=>rfl
  | some ob=>
   rcases hz.keep o ob (zav hl) with h|h
   ·exact (zrh hd h ho).elim
   ·exact h
 have hy':Y F y S u ε q:=hy.agree ⟨fun t ht=>by
     rw[zhX,zabn fun hd=>(h1 t hd).1 ht],fun o ho=>by rw[zfd,e1 o ho],fun o ho=>by rw[zfd,sh hx hi.1 o ho]⟩
 refine⟨hy',hx.agree ⟨fun t ht=>by rw[zhX,zabn fun hd=>h2 t hd ht],fun o ho=>by rw[zfd,e2 o ho],fun o ho=>by rw[zfd,sh hy' hi.2 o ho]⟩,fun t=> ?_,fun o=> ?_⟩
 ·rw[zhX,zhX,zhX,zhX]
  by_cases hd:x.dst=some t
  ·rw[zabo hd,zabo hd,zabn (h1 t hd).2]
  ·rw[zabn hd,zabn hd]
 ·rw[zfd,zfd,zfd,zfd,zdi,zdi,zdi,zdi]
  cases hd:look o δ with
  | none=>simp
  | some ob=>
   have hm:=zav hd;rw[zBc (l:=ε) fun ob' hob=>zrh hi.1 (hx.sub o ob hm).1 (hy.sub o ob' hob).2];rfl
def ze0(F:zaU)(ops:Array Oper)(l:List zK)(pl:Nat->List Nat×List Nat)(E:St):Nat->Array Bool->St->Prop
 | 0,listed,S=>Region.ready .any ops listed=[]/\Same S E
 | n+1,listed,S=>(Region.ready .any ops listed=[]->Same S E)/\
  ∀i∈Region.ready .any ops listed,∃x v δ,l[i]? = some x/\Y F x S v δ (pl i)/\ze0 F ops l pl E n (listed.setIfInBounds i true) (ap x S v δ)
variable {ops:Array Oper} {l:List zK} {pl:Nat->List Nat×List Nat} {E:St}
theorem ze0.same:∀ {n:Nat} {listed:Array Bool} {S S':St},ze0 F ops l pl E n listed S->Same S S'->ze0 F ops l pl E n listed S'
 | 0,_,_,_,h,hs=>⟨h.1,hs.symm.trans h.2⟩
 | n+1,_,_,_,h,hs=>⟨fun h0=>hs.symm.trans (h.1 h0),fun i hi=>by
     obtain⟨x,v,δ,h1,h2,h3⟩:=h.2 i hi;exact⟨x,v,δ,h1,h2.agree (hs.agree _ _),h3.same (hs.ap x v δ)⟩⟩
def zfD(ops:Array Oper)(listed:Array Bool):Prop:=∀j o,ops[j]? = some o->listed.getD j false=true->∀e∈o.after,Region.binds .any e=true->listed.getD e.on false=true
theorem zfD.path{listed:Array Bool}(h:zfD ops listed){j k:Nat}(hp:zeD ops j k):listed.getD j false=true->listed.getD k false=true:=by
 induction hp with
 | one ho he hb=>exact fun hj=>h _ _ ho hj _ he hb
 | more ho he hb _ ih=>exact fun hj=>ih (h _ _ ho hj _ he hb)
theorem zfD.ready{listed:Array Bool}(h:zfD ops listed){j k:Nat}{o:Oper}(ho:ops[j]? = some o)(hall:∀e∈o.after,Region.binds .any e=true->listed.getD e.on false=true)(hp:zeD ops j k):listed.getD k false=true:=by
 cases hp with
 | one ho' he hb=>rw[ho] at ho';cases ho';exact hall _ he hb
 | more ho' he hb hp=>rw[ho] at ho';cases ho';exact h.path hp (hall _ he hb)
theorem zfD.set{listed:Array Bool}(h:zfD ops listed){j:Nat}{o:Oper}(ho:ops[j]? = some o)(hall:∀e∈o.after,Region.binds .any e=true->listed.getD e.on false=true):zfD ops (listed.setIfInBounds j true):=by
 have mono:∀i,listed.getD i false=true->(listed.setIfInBounds j true).getD i false=true:=fun i hi=>by
  rw[zacZ] at hi ⊢;rw[zadM]
  split
  ·split
   ·rfl
   ·rename_i h1 h2;subst h1;rw[zadN (by omega)] at hi;simp at hi
  ·exact hi
 intro i oi hoi hi e he hb;refine mono _ ?_
 by_cases hij:j=i
 ·subst hij;rw[ho] at hoi;cases hoi;exact hall e he hb
 ·refine h i oi hoi ?_ e he hb;rw[zacZ] at hi ⊢
  rwa [zadM,zabn hij] at hi
theorem ze0.first{k:Nat}{x:zK}{v:AV}{δ:zd}(hk:l[k]? = some x):
    ∀(n:Nat) (listed:Array Bool) (S:St),
     zfD ops listed->(∀j o y,ops[j]? = some o->l[j]? = some y->j≠k->listed.getD j true=false->¬zeD ops j k->ziv x y=true/\ziR (pl k) (pl j)=true)->
     k∈Region.ready .any ops listed->Y F x S v δ (pl k)->ze0 F ops l pl E n (listed.setIfInBounds k true) (ap x S v δ)->ze0 F ops l pl E (n+1) listed S:=by
 intro n
 induction n with
 | zero=>
  intro listed S _ _ hr hy H;refine⟨fun h=>(by rw[h] at hr;cases hr),fun j hj=> ?_⟩
  by_cases hjk:j=k
  ·subst hjk;exact⟨x,v,δ,hk,hy,H⟩
  ·have:=ready_mono hj hjk;rw[H.1] at this
   cases this
 | succ n ih=>
  intro listed S hcl hfree hr hy H;refine⟨fun h=>(by rw[h] at hr;cases hr),fun j hj=> ?_⟩
  by_cases hjk:j=k
  ·subst hjk;exact⟨x,v,δ,hk,hy,H⟩
  ·obtain⟨y,u,ε,h1,h2,h3⟩:=H.2 j (ready_mono hj hjk);obtain⟨hjun,oj,hoj,hall⟩:=mem_ready.1 hj;have hnot:¬zeD ops j k:=fun hp=>by
    have h1:=hcl.ready hoj hall hp;have h0:=(mem_ready.1 hr).1
    rcases zadm k listed.size with h'|h'
    ·simp [h'] at h0 h1;rw[h0] at h1;cases h1
    ·simp [zadN h'] at h1
   obtain⟨hap,hin⟩:=hfree j oj y hoj h1 hjk hjun hnot;obtain⟨s1,s2,s3⟩:=swap hy h2 hap hin;refine⟨y,u,ε,h1,s1,ih _ _ (hcl.set hoj hall) (fun i o z ho hz hik hun hno=>hfree i o z ho hz hik ?_ hno) (ready_mono hr (Ne.symm hjk)) s2 ?_⟩
   ·by_cases hji:j=i
    ·subst hji;exact hjun
    ·rw[getD_set_ne true hji] at hun;exact hun
   ·rw[Array.setIfInBounds_comm _ _ hjk];exact h3.same s3
inductive Lex(F:zaU):List zK->List (List Nat×List Nat)->St->St->Prop
 | nil {S:St}:Lex F [] [] S S
 | cons {x:zK} {l:List zK} {p:List Nat×List Nat} {ps:List (List Nat×List Nat)} {S E:St} {v:AV} {δ:zd} (hy:Y F x S v δ p) (h:Lex F l ps (ap x S v δ) E):Lex F (x::l) (p::ps) S E
theorem zYW (hready:∀(k:Nat) (listed:Array Bool),k<l.length->(∀i,i<k->listed.getD i false=true)->listed.getD k true=false->k∈Region.ready .any ops listed)
    (hsz:ops.size=l.length)
    (hfree:∀(k j:Nat) (o:Oper) (x y:zK),k<j->ops[j]? = some o->l[k]? = some x->l[j]? = some y->¬zeD ops j k->ziv x y=true/\ziR (pl k) (pl j)=true)
    (hback:∀(j:Nat) (o:Oper),ops[j]? = some o->∀e∈o.after,Region.binds .any e=true->e.on<j):
    ∀(m:List zK) (ps:List (List Nat×List Nat)) (k:Nat) (listed:Array Bool) (S:St),(∀j,m[j]? = l[k+j]?)->(∀j,j<m.length->ps[j]? = some (pl (k+j)))->k+m.length=l.length->
     listed.size=l.length->(∀i,i<k->listed[i]? = some true)->(∀i,k<=i->i<l.length->listed[i]? = some false)->Lex F m ps S E->ze0 F ops l pl E m.length listed S:=by
 intro m
 induction m with
 | nil=>
  intro ps k listed S hm hp hlen hls h1 h2 h
  cases h
  refine⟨?_,fun _=>rfl,fun _=>rfl⟩;refine List.eq_nil_iff_forall_not_mem.2 fun j hj=> ?_;obtain⟨h3,o,h4,_⟩:=mem_ready.1 hj;have hlt:=(zacl.1 h4).1;simp at hlen;rw[zacZ,h1 j (by omega)] at h3;simp at h3
 | cons x m ih=>
  intro ps k listed S hm hp hlen hls h1 h2 h
  cases h with
  | @cons _ _ p ps _ _ v δ hy h=>
   simp only[zabu] at hlen;have hk:l[k]? = some x:=by simpa using (hm 0).symm
   have hpk:p=pl k:=by simpa using hp 0 (by simp)
   subst hpk;have hg:∀i d,listed.getD i d=(listed[i]?).getD d:=fun i d=>zacZ ..;refine ze0.first hk m.length listed S (fun j o ho hj e he hb=> ?_) (fun j o y ho hy' hjk hun hno=> ?_) (hready k listed (by omega) (fun i hi=>by rw[hg,h1 i hi];rfl) (by rw[hg,h2 k (zabR _) (by omega)];rfl)) hy ?_
   ·have hjl:j<ops.size:=(zacl.1 ho).1
    rcases zadm j k with hlt|hge
    ·have:=hback j o ho e he hb;rw[hg,h1 e.on (by omega)];rfl
    ·rw[hg,h2 j hge (by omega)] at hj;cases hj
   ·have hjl:j<ops.size:=(zacl.1 ho).1
    rcases zadm j k with hlt|hge
    ·rw[hg,h1 j hlt] at hun;cases hun
    ·exact hfree k j o x y (by omega) ho hk hy' hno
   ·refine ih ps (k+1) _ _ (fun j=>by have:=hm (j+1);simpa [zadx,Nat.add_comm 1 j] using this) (fun j hj=>by have:=hp (j+1) (by simp;omega);simpa [zadx,Nat.add_comm 1 j] using this) (by omega) (by simp [hls]) (fun i hi=> ?_) (fun i hi hi'=> ?_) h
    ·rw[zadM]
     by_cases hik:k=i
     ·rw[zabo hik,zabo (by omega)]
     ·rw[zabn hik];exact h1 i (by omega)
    ·rw[zadM,zabn (by omega)];exact h2 i (by omega) hi'
theorem ztv{x:AV}(h:x.objs=[])(o:Nat):x.refs o=false:=by
 cases hh:x.refs o with
 | false=>rfl
 | true=>have:=ztu x o hh;rw[h] at this;cases this
theorem zl4{op:AOp}(h:op.cleanB=true)(o:Nat):op.clean o/\∀y∈op.opds,∀E,zaX o E=false->(y.ev E).refs o=false:=by
 simp only[AOp.cleanB,zabH] at h;refine⟨?_,fun y hy E hE=> ?_⟩
 ·have h2:=h.2
  cases op with
  | alloc z=>exact ztv (by simpa using h2) o
  | mks n z l c=>exact ztv (by simpa using h2) o
  | bsl len n z ps=>exact ztv (by simpa using h2) o
  | build z ps=>
   intro y hy
   cases hh:y.refs o with
   | false=>rfl
   | true=>
    have:=zjf z o (AV.refsL_mem hy hh);simp only[zadJ] at h2;rw[h2] at this;cases this
  | _=>trivial
 ·have:=zabO.1 h.1 y hy
  cases y with
  | c v=>exact ztv (x:=v) (by simpa using this) o
  | t n=>
   simp only[Opd.ev]
   cases hl:look n E with
   | none=>rfl
   | some v=>exact znm (zav hl) hE
def zjR(H:zd)(dst:Nat)(ms:List Bool)(args:List AV):List Nat×List Nat:=(zar (zdd H dst ms args).1,zar (zdd H dst ms args).2)
def zkI(l:List Nat):List Nat:=l.map fun o=>2 * o+1
def zj3(l:List Nat):List Nat:=l.map fun o=>2 * o
def zq6(H:zd)(dst:Nat)(ms:List Bool)(f:AV)(args:List AV):List Nat×List Nat:=
 match f with
 | .d (.fn _ cs)=>zjR H dst ms (args++cs.map .d)
 | .fn _ cs=>zjR H dst ms (args++cs)
 | _=>([],[])
def AOp.feet(E:Env)(H:zd)(dst:Nat)(op:AOp):List Nat×List Nat:=
 match op with
 | .call _ ms xs=>zjR H dst ms (xs.map (·.ev E))
 | .callv f ms xs=>zq6 H dst ms (f.ev E) (xs.map (·.ev E))
 | .iad n x i=>(zkI (AOp.foot E dst (.iad n x i)),[])
 | .st n p x=>(zar (AOp.foot E dst (.st n p x)),zj3 (AOp.wr E dst (.st n p x)))
 | op=>(zar (op.foot E dst),zar (op.wr E dst))
def feet(x:zK)(S:St):List Nat×List Nat:=x.op.feet S.env S.heap (x.dst.getD 0)
theorem zQh{o:Nat}{xs ys:List AV}:AV.refsL o (xs++ys)=(AV.refsL o xs||AV.refsL o ys):=by
 induction xs with
 | nil=>simp [AV.refsL]
 | cons x xs ih=>simp [AV.refsL,ih,Bool.or_assoc]
theorem zQi{o:Nat}{cs:List D}:AV.refsL o (cs.map .d)=false:=by
 induction cs with
 | nil=>rfl
 | cons x xs ih=>simp [AV.refsL,AV.refs,ih]
theorem zCA{o:Nat}{E:Env}{xs:List Opd}(h:∀y∈xs,(y.ev E).refs o=false):AV.refsL o (xs.map (·.ev E))=false:=by
 induction xs with
 | nil=>rfl
 | cons x xs ih=>simp only[zabs,AV.refsL,h x (.head _),ih fun y hy=>h y (.tail _ hy),Bool.or_self]
theorem z0a{H H':zd}{ng:Bool}{x v:AV}(h:zkH H ng x=some (v,H')):H'=H/\(∀H2,zkH H2 ng x=some (v,H2))/\∀o,v.refs o=false:=by
 unfold zkH at h ⊢
 split at h
 ·cases h;exact⟨rfl,fun _=>rfl,fun _=>rfl⟩
 ·split at h
  ·rename_i hs;cases h;exact⟨rfl,fun _=>rfl,fun _=>rfl⟩
  ·cases h
theorem zQC{x:Option Obj}{l:List Nat}(h:shp x=some l):∃es,x=some (.row es)/\es.map AV.size=l:=by
 unfold shp at h
 split at h
 ·rename_i es;cases h;exact⟨es,rfl,rfl⟩
 ·cases h
theorem zXN{H H2:zd}{n:Nat}{k:Int}{x:AV}(h:∀o∈x.objs,shp (look o H2)=shp (look o H)):zcH H2 n k x=zcH H n k x:=by
 cases x with
 | osl o off len=>
  have ho:=h o (by simp [AV.objs]);simp only[zcH];generalize look o H=a at ho ⊢;generalize look o H2=b at ho ⊢
  split
  ·cases hb:shp b with
   | none=>
    rw[hb] at ho;have none_of:∀ {x:Option Obj},shp x=none->(∀es,x≠some (.row es)):=fun hx es e=>by subst e;cases hx
    split
    ·rename_i es;exact absurd rfl (none_of hb es)
    ·split
     ·rename_i es;exact absurd rfl (none_of ho.symm es)
     ·rfl
   | some l=>
    rw[hb] at ho;obtain⟨es,rfl,h1⟩:=zQC hb;obtain⟨fs,rfl,h2⟩:=zQC ho.symm;have hg:∀i:Nat,(es[i]?).map AV.size=(fs[i]?).map AV.size:=fun i=>by rw[<- zabI, <- zabI,h1,h2]
    have:=hg (off+k.toNat)
    cases he:es[off+k.toNat]? with
    | none=>
     rw[he] at this
     cases hf:fs[off+k.toNat]? with
     | none=>simp [he,hf]
     | some q=>rw[hf] at this;simp at this
    | some e=>
     rw[he] at this;obtain⟨e',h3,h4⟩:=zabr.1 this.symm;simp [he,h3,h4]
  ·rfl
 | d y=>cases y<;>rfl
 | _=>rfl
theorem z9C{E:Env}{H H':zd}{dst n:Nat}{q y:Opd}{v:AV}(h:zr E H dst (.st n q y)=some (v,H')):∃δ,zaY (.st n q y) E H dst v H' δ/\∀o ob,(o,ob)∈δ->shp (some ob)=shp (look o H):=by
 simp only[zr] at h
 split at h
 ·rename_i o i off hp
  split at h
  ·rename_i hc
   split at h
   ·rename_i es hes;obtain⟨e,h1,h2⟩:=zabp.1 h;obtain⟨e',h3,h4⟩:=zabr.1 h2
    cases h4
    have hmem:o∈(AOp.st n q y).foot E dst:=by
     simp only[AOp.foot,AOp.looks,if_true,zabS];exact .inl (zdL.2 ⟨q,by simp [AOp.opds],by rw[hp];simp [AV.objs]⟩)
    refine⟨[(o,.row (es.set i e'))],⟨rfl,?_,fun E2 H2 he hh _=> ?_⟩,fun o' ob ho=> ?_⟩
    ·intro q ob hq;simp only[zab1,Prod.mk.injEq] at hq;rw[hq.1];simp [AOp.wr,hp,AV.objs]
    ·simp only[zr,he q (by simp [AOp.opds]),he y (by simp [AOp.opds]),hp,hh o hmem,hes];rw[zabo hc,h1];simp [h3,zak]
    ·simp only[zab1,Prod.mk.injEq] at ho;obtain⟨rfl,rfl⟩:=ho;rw[hes];have hsz:=(zMQ h3).2.1;simp only[shp,zacw,Option.some.injEq];refine List.ext_getElem? fun j=> ?_;rw[zadh]
     split
     ·rename_i hij;subst hij
      split
      ·rw[zabI,h1,hsz];rfl
      ·rename_i hlt;simp at hlt;simp [hlt]
     ·rfl
   ·cases h
  ·cases h
 ·cases h
theorem z9P(hF:FOK P F){x:zK}{S:St}(hcl:x.op.cleanB=true){v:AV}{H':zd}(h:step F S.env S.heap (x.dst.getD 0) x.op=some (v,H')):∃δ,zlk F x S v δ (feet x S).1 (feet x S).2/\H'=zak δ S.heap:=by
 have call:∀(f:FuncId) (ms:List Bool) (args:List AV),feet x S=zjR S.heap (x.dst.getD 0) ms args->x.newNames=fr4 (x.dst.getD 0)->
     (∀S2,zcR x (feet x S).1 S S2->step F S2.env S2.heap (x.dst.getD 0) x.op=zgJ S2.heap (zbr F S2.env S2.heap (x.dst.getD 0) ms f args))->
     (∀o S2,zcR x (feet x S).1 S S2->zgE o S2->AV.refsL o args=false)->
     zgJ S.heap (zbr F S.env S.heap (x.dst.getD 0) ms f args)=some (v,H')->∃δ,zlk F x S v δ (feet x S).1 (feet x S).2/\H'=zak δ S.heap:=by
  intro f ms args hfeet hnn hst hno h;obtain⟨⟨v',δ⟩,h1,h2⟩:=zabr.1 h
  cases h2
  obtain⟨n1,n2,n3⟩:=zSE hF h1;refine⟨δ,⟨fun o ob ho=>by rw[hfeet];exact zik (n1 _ ho),fun o ob ho=> .inl (by rw[hfeet];exact zDa (n1 _ ho)),by rw[hfeet];exact zQ5 zSI,fun S2 ha hf=> ?_⟩,rfl⟩;refine⟨?_,fun o ho hn=> ?_⟩
  ·rw[hst S2 ha,zSD hF h1 (fun o ho=>ha.heap o (by rw[hfeet];exact zik ho)) (fun n hn=>hf n (by rw[hnn];exact hn))];rfl
  ·have hnot:o∉(zdd S.heap (x.dst.getD 0) ms args).2:=zSH (fun q hq=>ha.heap q (by rw[hfeet];exact zik hq)) (hno o S2 ha ho) ho.2 (by rw[<- hnn];exact hn);refine⟨?_,zCz (fun p hp=> ?_) ho.2⟩
   ·show v'.refs o=false
    cases hr:v'.refs o with
    | false=>rfl
    | true=>exact absurd (n2 o hr) hnot
   ·cases hr:p.2.refs o with
    | false=>rfl
    | true=>exact absurd (n3 p hp o hr) hnot
 have simple:step F S.env S.heap (x.dst.getD 0) x.op=zr S.env S.heap (x.dst.getD 0) x.op->(∀E H,step F E H (x.dst.getD 0) x.op=zr E H (x.dst.getD 0) x.op)->feet x S=(zar (x.op.foot S.env (x.dst.getD 0)),zar (x.op.wr S.env (x.dst.getD 0)))->
     (x.newNames=if x.op.news then [x.dst.getD 0] else [])->∃δ,zlk F x S v δ (feet x S).1 (feet x S).2/\H'=zak δ S.heap:=by
  intro e1 e2 hfeet hnn;rw[e1] at h;obtain⟨δ,hl⟩:=zSf h;refine⟨δ,⟨by rw[hfeet];exact fun o ob ho=>zik (hl.sub o ob ho),by rw[hfeet];exact fun o ob ho=> .inl (zDa (hl.sub o ob ho)),by rw[hfeet];exact zQ5 fun o ho=>AOp.wr_foot ho,fun S2 ha hf=> ?_⟩,hl.eq⟩;have hst:=hl.same S2.env S2.heap ha.ev (fun o ho=>ha.heap o (by rw[hfeet];exact zik ho)) (fun hnew=>hf _ (by rw[hnn,hnew];simp));refine⟨by rw[e2];exact hst,fun o ho hn=> ?_⟩;obtain⟨c1,c2⟩:=zl4 hcl o;exact zub hst (fun y hy=>c2 y hy _ ho.1) ho.2 c1 fun hnew=>by rw[hnn,hnew] at hn;simpa using hn
 have evs:∀ {xs:List Opd} {S2:St},(∀y∈xs,y∈x.op.opds)->∀o,zgE o S2->∀y∈xs,(y.ev S2.env).refs o=false:=fun hx o ho y hy=>(zl4 hcl o).2 y (hx y hy) _ ho.1
 cases hop:x.op with
 | call f ms xs=>
  rw[hop] at h;simp only[step] at h;have hev:∀S2,zcR x (feet x S).1 S S2->xs.map (·.ev S2.env)=xs.map (·.ev S.env):=fun S2 ha=>by
   have:=ha.ev;rw[hop] at this;exact zBg this
  refine call f ms (xs.map (·.ev S.env)) (by simp [feet,hop,AOp.feet]) (by simp [zK.newNames,hop]) (fun S2 ha=> ?_) (fun o S2 ha ho=> ?_) h
  ·rw[hop];simp only[step];rw[hev S2 ha]
  ·rw[<- hev S2 ha];exact zCA (evs (by rw[hop];intro y hy;exact hy) o ho)
 | callv f ms xs=>
  rw[hop] at h;have hev:∀S2,zcR x (feet x S).1 S S2->f.ev S2.env=f.ev S.env/\xs.map (·.ev S2.env)=xs.map (·.ev S.env):=fun S2 ha=>by
   have:=ha.ev;rw[hop] at this;exact⟨this f (by simp [AOp.opds]),zacR fun y hy=>this y (by simp [AOp.opds,hy])⟩
  simp only[step,zht] at h
  split at h
  ·rename_i g cs hf;refine call g ms (xs.map (·.ev S.env)++cs.map .d) (by simp [feet,hop,AOp.feet,zq6,hf]) (by simp [zK.newNames,hop]) (fun S2 ha=> ?_) (fun o S2 ha ho=> ?_) h
   ·rw[hop];simp only[step,zht];rw[(hev S2 ha).1,(hev S2 ha).2,hf]
   ·rw[zQh,zQi,Bool.or_false, <- (hev S2 ha).2];exact zCA (evs (by rw[hop];intro y hy;simp [AOp.opds,hy]) o ho)
  ·rename_i g cs hf;refine call g ms (xs.map (·.ev S.env)++cs) (by simp [feet,hop,AOp.feet,zq6,hf]) (by simp [zK.newNames,hop]) (fun S2 ha=> ?_) (fun o S2 ha ho=> ?_) h
   ·rw[hop];simp only[step,zht];rw[(hev S2 ha).1,(hev S2 ha).2,hf]
   ·rw[zQh, <- (hev S2 ha).2,zCA (evs (by rw[hop];intro y hy;simp [AOp.opds,hy]) o ho),zacH];have:=(zl4 hcl o).2 f (by rw[hop];simp [AOp.opds]) S2.env ho.1;rw[(hev S2 ha).1,hf] at this;exact this
  ·simp [zgJ] at h
 | iad n y i=>
  rw[hop] at h;have hx:feet x S=(zkI (AOp.foot S.env (x.dst.getD 0) (.iad n y i)),[]):=by simp [feet,hop,AOp.feet]
  have h:zr S.env S.heap (x.dst.getD 0) (.iad n y i)=some (v,H'):=h;simp only[zr] at h;obtain⟨k,hk,h⟩:=zabp.1 h
  split at h
  ·rename_i h0;obtain⟨v',hv',h⟩:=zabr.1 h
   cases h
   have hst:∀S2,zcR x (feet x S).1 S S2->step F S2.env S2.heap (x.dst.getD 0) x.op=some (v,S2.heap):=fun S2 ha=>by
    have hev:=ha.ev;rw[hop] at hev ⊢;show zr S2.env S2.heap (x.dst.getD 0) (.iad n y i)=_;simp only[zr,hev y (by simp [AOp.opds]),hev i (by simp [AOp.opds]),hk,zabY];rw[zabo h0,zXN (H:=S.heap) fun o ho=>ha.shape o ?_,hv']
    ·rfl
    ·rw[hx];refine zaby.2 ⟨o,?_,rfl⟩;simp only[AOp.foot,AOp.looks,if_true,zabS];exact .inl (zdL.2 ⟨y,by simp [AOp.opds],ho⟩)
   refine⟨[],⟨(fun o ob h=>nomatch h),(fun o ob h=>nomatch h),by rw[hx];simp,fun S2 ha _=>⟨hst S2 ha,fun o ho hn=> ?_⟩⟩,rfl⟩;have hq:=hst S2 ha;rw[hop] at hq;obtain⟨c1,c2⟩:=zl4 hcl o;rw[hop] at c1 c2;exact zub (op:= .iad n y i) (dst:=x.dst.getD 0) hq (fun y hy=>c2 y hy _ ho.1) ho.2 c1 (by simp [AOp.news])
  ·cases h
 | st n q y=>
  rw[hop] at h;have hx:feet x S=(zar (AOp.foot S.env (x.dst.getD 0) (.st n q y)),zj3 (AOp.wr S.env (x.dst.getD 0) (.st n q y))):=by simp [feet,hop,AOp.feet]
  have h:zr S.env S.heap (x.dst.getD 0) (.st n q y)=some (v,H'):=h;obtain⟨δ,hl,hkeep⟩:=z9C h;refine⟨δ,⟨fun o ob ho=>by rw[hx];exact zaby.2 ⟨o,hl.sub o ob ho,rfl⟩,fun o ob ho=> .inr (hkeep o ob ho),fun t ht=> ?_,fun S2 ha hf=> ?_⟩,hl.eq⟩
  ·rw[hx] at ht ⊢;obtain⟨o,ho,rfl⟩:=zaby.1 ht;exact zik (AOp.wr_foot ho)
  ·have hev:=ha.ev;rw[hop] at hev;have hst:=hl.same S2.env S2.heap hev (fun o ho=>ha.heap o (by rw[hx];exact zik ho)) (by simp [AOp.news]);refine⟨by rw[hop];exact hst,fun o ho hn=> ?_⟩;obtain⟨c1,c2⟩:=zl4 hcl o;rw[hop] at c1 c2;exact zub hst (fun y hy=>c2 y hy _ ho.1) ho.2 c1 (by simp [AOp.news])
 | nileq ng y=>
  rw[hop] at h;have hev:∀S2,zcR x (feet x S).1 S S2->y.ev S2.env=y.ev S.env:=fun S2 ha=>by
   have:=ha.ev;rw[hop] at this;exact this y (by simp [AOp.opds])
  simp only[step] at h;obtain⟨rfl,hall,hno⟩:=z0a h;refine⟨[],⟨(fun o ob h=>nomatch h),(fun o ob h=>nomatch h),by simp [feet,hop,AOp.feet,AOp.wr,zar],fun S2 ha _=>⟨?_,fun o ho _=>⟨hno o,ho.2⟩⟩⟩,rfl⟩;rw[hop];simp only[step];rw[hev S2 ha];exact hall _
 | _=>exact simple (by rw[hop];rfl) (by intro E H;rw[hop];rfl) (by simp [feet,hop,AOp.feet]) (by simp [zK.newNames,hop])
end Go.Sim
