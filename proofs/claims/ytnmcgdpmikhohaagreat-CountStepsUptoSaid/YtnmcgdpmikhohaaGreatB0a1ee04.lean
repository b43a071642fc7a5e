/-
  Regions that draw their order are sound.
-/
import Derived.Test.YtnmcgdpmikhohaaGreatB27dcbd7
import Derived.Orders
set_option linter.unusedSimpArgs false
set_option linter.unusedVariables false
set_option maxHeartbeats 10000000
set_option maxRecDepth 100000
namespace Go.Sim
open Go (World Value Addr TypeId Act)
variable {P:Program} {C:Ctx}
def zK.reads(x:zK):List Nat:=(x.op.opds.filterMap fun y=>match y with| .t n=>some n| .c _=>none)++(match x.guard with|some (t,_)=>[t]|none=>[])
def ziv(x y:zK):Bool:=
 (match x.dst with|some d=> !y.reads.contains d&& !(y.dst==some d)|none=>true)&&(match y.dst with|some d=> !x.reads.contains d|none=>true)
inductive zeD(ops:Array Oper):Nat->Nat->Prop
 | one {j:Nat} {o:Oper} {e:Edge} (ho:ops[j]? = some o) (he:e∈o.after) (hb:Region.binds .any e=true):zeD ops j e.on
 | more {j k:Nat} {o:Oper} {e:Edge} (ho:ops[j]? = some o) (he:e∈o.after) (hb:Region.binds .any e=true) (h:zeD ops e.on k):zeD ops j k
def zvc(o:Oper):List Nat:=(o.after.toList.filter fun e=>Region.binds .any e).map (·.on)
def zaeY(ms:List Nat):List Nat->Nat
 | []=>0
 | d::ds=>(2 ^ d ||| ms.getD d 0) ||| zaeY ms ds
def zf3(l:List Oper):Nat->List Nat
 | 0=>[]
 | n+1=>match l[n]? with
  | some o=>zf3 l n++[zaeY (zf3 l n) (zvc o)]
  | none=>zf3 l n
def zHP(ms:List Nat)(j:Nat):List Nat:=(List.range j).filter fun k=> !(ms.getD j 0).testBit k
def zgO(ops:Array Oper)(j:Nat):List Nat:=zHP (zf3 ops.toList ops.size) j
theorem zTV{ops:Array Oper}{j:Nat}{o:Oper}(ho:ops[j]? = some o){d:Nat}(hd:d∈zvc o):zeD ops j d:=by
 obtain⟨e,he,rfl⟩:=zaby.1 hd;obtain⟨he,hb⟩:=zacW.1 he;exact .one ho (by simpa using he) hb
theorem zTU{ops:Array Oper}{j k:Nat}{o:Oper}(ho:ops[j]? = some o){d:Nat}(hd:d∈zvc o)(h:zeD ops d k):zeD ops j k:=by
 obtain⟨e,he,rfl⟩:=zaby.1 hd;obtain⟨he,hb⟩:=zacW.1 he;exact .more ho (by simpa using he) hb h
theorem zZz{ms:List Nat}{k:Nat}:∀ {ds:List Nat},(zaeY ms ds).testBit k=true->∃d∈ds,d=k\/(ms.getD d 0).testBit k=true:=by
 intro ds
 induction ds with
 | nil=>intro h;simp [zaeY] at h
 | cons d ds ih=>
  intro h;simp only[zaeY,Nat.testBit_or,zacj,Nat.testBit_two_pow,decide_eq_true_eq] at h
  rcases h with (h|h)|h
  ·exact⟨d,.head _,.inl h⟩
  ·exact⟨d,.head _,.inr h⟩
  ·obtain⟨d',h1,h2⟩:=ih h;exact⟨d',.tail _ h1,h2⟩
theorem zZA{ops:Array Oper}:∀n,(zf3 ops.toList n).length=min n ops.size/\∀j k,((zf3 ops.toList n).getD j 0).testBit k=true->zeD ops j k:=by
 intro n
 induction n with
 | zero=>exact⟨by simp [zf3],fun j k h=>by simp [zf3] at h⟩
 | succ n ih=>
  simp only[zf3]
  split
  ·rename_i o ho;have hn:n<ops.size:=by
    have:=(zabB.1 ho).1;simpa using this
   have ho':ops[n]? = some o:=by simpa using ho
   refine⟨by rw[zabv,ih.1];simp;omega,fun j k h=> ?_⟩;rw[zab0,List.getElem?_append] at h
   split at h
   ·exact ih.2 j k (by rw[zab0];exact h)
   ·rename_i hj;have hl:(zf3 ops.toList n).length=n:=by rw[ih.1];omega
    by_cases hj2:j=n
    ·subst hj2;rw[hl,zadL] at h;simp only[zadG,zacS] at h;obtain⟨d,hd,h1⟩:=zZz h
     rcases h1 with rfl|h1
     ·exact zTV ho' hd
     ·exact zTU ho' hd (ih.2 d k h1)
    ·rw[zadl (by simp;omega)] at h;simp at h
  ·rename_i ho;have hn:ops.size<=n:=by
    rw[List.getElem?_eq_none_iff] at ho;simpa using ho
   exact⟨by rw[ih.1];omega,ih.2⟩
theorem zZC{ops:Array Oper}{j k:Nat}(hkj:k<j)(hno:¬zeD ops j k):k∈zgO ops j:=by
 unfold zgO zHP;simp only[zacW,zack,hkj,zacB,zace]
 cases h:((zf3 ops.toList ops.size).getD j 0).testBit k with
 | false=>rfl
 | true=>exact absurd ((zZA _).2 j k h) hno
def AOp.cleanB(op:AOp):Bool:=
 (op.opds.all fun y=>match y with| .t _=>true| .c x=>x.objs.isEmpty)&&
 (match op with
  | .alloc z=>z.objs.isEmpty
  | .build z _=>(AV.objsL z).isEmpty
  | .bsl _ _ z _=>z.objs.isEmpty
  | .mks _ z _ _=>z.objs.isEmpty
  | _=>true)
def zK.newNames(x:zK):List Nat:=
 match x.op with
 | .call _ _ _=>fr4 (x.dst.getD 0)
 | .callv _ _ _=>fr4 (x.dst.getD 0)
 | op=>if op.news then [x.dst.getD 0] else []
def zt7(l:List zK)(n j:Nat)(x:zK):Bool:=
 x.newNames.isEmpty||(match x.dst with
  | some d=>decide (d<10000)&&(List.range n).all fun k=>k==j||match l[k]? with|some y=>y.newNames.isEmpty|| !(y.dst==some d)|none=>false
  | none=>false)
def zGR(ops:Array Oper)(l:List zK):Bool:=
 (List.range ops.size).all fun j=>
  match ops[j]?,l[j]? with
  | some o,some x=>
   (o.after.toList.all fun e=> !Region.binds .any e||decide (e.on<j))&&
   ((zgO ops j).all fun k=>match l[k]? with|some y=>ziv y x|none=>false)&&
   x.op.cleanB&&zt7 l ops.size j x
  | _,_=>false
theorem ztS{w:World}{R:Nat->Prop}{ι:Inj}{mk:Nat->Option Nat}:VA w R ι mk (.d (.tup [])) Go.undef:= .d (.tup (vs:=[]) rfl fun i c u h=>by simp at h)
theorem VA.tup0_inv{w:World}{R:Nat->Prop}{ι:Inj}{mk:Nat->Option Nat}{u:Value}(h:VA w R ι mk (.d (.tup [])) u):u= .tuple #[]:=by
 cases h with
 | d h=>
  cases h with
  | tup hl=>have:=zaey hl;subst this;rfl
def zgE(o:Nat)(S:St):Prop:=zaX o S.env=false/\zaq o S.heap=false
def shp:Option Obj->Option (List Nat)
 | some (.row es)=>some (es.map AV.size)
 | _=>none
def zar:List Nat->List Nat
 | []=>[]
 | o::l=>(2 * o)::(2 * o+1)::zar l
theorem zik{o:Nat}{l:List Nat}(h:o∈l):2 * o∈zar l:=by
 induction l with
 | nil=>cases h
 | cons x l ih=>
  simp only[zar]
  cases h with
  | head=>exact .head _
  | tail _ h=>exact .tail _ (.tail _ (ih h))
theorem zDa{o:Nat}{l:List Nat}(h:o∈l):2 * o+1∈zar l:=by
 induction l with
 | nil=>cases h
 | cons x l ih=>
  simp only[zar]
  cases h with
  | head=>exact .tail _ (.head _)
  | tail _ h=>exact .tail _ (.tail _ (ih h))
theorem zaaB{t:Nat}{l:List Nat}(h:t∈zar l):∃o∈l,t=2 * o\/t=2 * o+1:=by
 induction l with
 | nil=>cases h
 | cons x l ih=>
  simp only[zar,zab4] at h
  rcases h with h|h|h
  ·exact⟨x,.head _,.inl h⟩
  ·exact⟨x,.head _,.inr h⟩
  ·obtain⟨o,h1,h2⟩:=ih h;exact⟨o,.tail _ h1,h2⟩
theorem zQ5{a b:List Nat}(h:∀o∈a,o∈b):∀t∈zar a,t∈zar b:=by
 intro t ht;obtain⟨o,h1,h2⟩:=zaaB ht
 rcases h2 with rfl|rfl
 ·exact zik (h o h1)
 ·exact zDa (h o h1)
structure zcR(x:zK)(Fo:List Nat)(S S2:St):Prop where
 env:∀t∈x.reads,look t S2.env=look t S.env
 heap:∀o,2 * o∈Fo->look o S2.heap=look o S.heap
 shape:∀o,2 * o+1∈Fo->shp (look o S2.heap)=shp (look o S.heap)
theorem zcR.ev{x:zK}{Fo:List Nat}{S S2:St}(h:zcR x Fo S S2):∀y∈x.op.opds,y.ev S2.env=y.ev S.env:=by
 intro y hy
 cases y with
 | c v=>rfl
 | t n=>
  simp only[Opd.ev];rw[h.env n];simp only[zK.reads,zabS,List.mem_filterMap];exact .inl ⟨_,hy,rfl⟩
structure zlk(F:zaU)(x:zK)(S:St)(v:AV)(δ:zd)(Fo W:List Nat):Prop where
 sub:∀o ob,(o,ob)∈δ->2 * o∈W
 keep:∀o ob,(o,ob)∈δ->2 * o+1∈W\/shp (some ob)=shp (look o S.heap)
 subF:∀o∈W,o∈Fo
 same:∀S2,zcR x Fo S S2->(∀n∈x.newNames,zgE n S2)->
  step F S2.env S2.heap (x.dst.getD 0) x.op=some (v,zak δ S2.heap)/\
  (∀o,zgE o S2->o∉x.newNames->v.refs o=false/\zaq o (zak δ S2.heap)=false)
variable {F:zaU}
def ziE(a b:List Nat):Bool:=a.all fun o=> !b.contains o
def ziR(p q:List Nat×List Nat):Bool:=ziE p.2 q.1&&ziE q.2 p.1
def Gd(x:zK)(S:St):Option Bool:=
 match x.guard with
 | none=>some true
 | some (t,b)=>match look t S.env with|some (.d (.bool c))=>some (c==b)|some (.d (.tup []))=>some false|_=>none
def Y(F:zaU)(x:zK)(S:St)(v:AV)(δ:zd)(p:List Nat×List Nat):Prop:=
 (Gd x S=some true/\zlk F x S v δ p.1 p.2)\/(Gd x S=some false/\v= .d (.tup [])/\δ=[])
def ap(x:zK)(S:St)(v:AV)(δ:zd):St:=St.put ⟨S.env,zak δ S.heap⟩ x.dst v
theorem zcR.gd{x:zK}{Fo:List Nat}{S S2:St}(h:zcR x Fo S S2):Gd x S2=Gd x S:=by
 unfold Gd
 cases hg:x.guard with
 | none=>rfl
 | some p=>
  obtain⟨t,b⟩:=p;simp only[];rw[h.env t (by simp [zK.reads,hg])]
theorem zcR.trans{x:zK}{Fo:List Nat}{S S2 S3:St}(h:zcR x Fo S S2)(h':zcR x Fo S2 S3):zcR x Fo S S3:=
 ⟨fun t ht=>(h'.env t ht).trans (h.env t ht),fun o ho=>(h'.heap o ho).trans (h.heap o ho),fun o ho=>(h'.shape o ho).trans (h.shape o ho)⟩
theorem Y.agree{x:zK}{S S2:St}{v:AV}{δ:zd}{p:List Nat×List Nat}(h:Y F x S v δ p)(ha:zcR x p.1 S S2):Y F x S2 v δ p:=by
 rcases h with ⟨h1,h2⟩|⟨h1,h2,h3⟩
 ·exact .inl ⟨ha.gd.trans h1,h2.sub,fun o ob ho=>(h2.keep o ob ho).imp id fun h=>by rw[ha.heap o (h2.subF _ (h2.sub o ob ho))];exact h,h2.subF,fun S3 h3 h4=>h2.same S3 (ha.trans h3) h4⟩
 ·exact .inr ⟨ha.gd.trans h1,h2,h3⟩
theorem Y.sub{x:zK}{S:St}{v:AV}{δ:zd}{p:List Nat×List Nat}(h:Y F x S v δ p):∀o ob,(o,ob)∈δ->2 * o∈p.2/\2 * o∈p.1:=by
 rcases h with ⟨h1,h2⟩|⟨h1,h2,rfl⟩
 ·exact fun o ob ho=>⟨h2.sub o ob ho,h2.subF _ (h2.sub o ob ho)⟩
 ·exact fun o ob ho=>nomatch ho
theorem Y.keep{x:zK}{S:St}{v:AV}{δ:zd}{p:List Nat×List Nat}(h:Y F x S v δ p):∀o ob,(o,ob)∈δ->2 * o+1∈p.2\/shp (some ob)=shp (look o S.heap):=by
 rcases h with ⟨h1,h2⟩|⟨h1,h2,rfl⟩
 ·exact h2.keep
 ·exact fun o ob ho=>nomatch ho
def Same(S S':St):Prop:=(∀t,look t S.env=look t S'.env)/\(∀o,look o S.heap=look o S'.heap)
theorem Same.agree{S S':St}(h:Same S S')(x:zK)(Fo:List Nat):zcR x Fo S S':=⟨fun t _=>(h.1 t).symm,fun o _=>(h.2 o).symm,fun o _=>by rw[h.2 o]⟩
theorem Same.symm{S S':St}(h:Same S S'):Same S' S:=⟨fun t=>(h.1 t).symm,fun o=>(h.2 o).symm⟩
theorem Same.trans{S S' S'':St}(h:Same S S')(h':Same S' S''):Same S S'':=⟨fun t=>(h.1 t).trans (h'.1 t),fun o=>(h.2 o).trans (h'.2 o)⟩
theorem zZi{S:St}{dst:Option Nat}{v:AV}{t:Nat}:look t (S.put dst v).env=if dst=some t then some v else look t S.env:=by
 cases dst with
 | none=>simp [St.put]
 | some d=>
  simp only[St.put,zMe,Option.some.injEq]
  by_cases h:t=d
  ·simp [h]
  ·rw[zabn h,zabn (Ne.symm h)]
theorem zXH{S:St}{dst:Option Nat}{v:AV}:(S.put dst v).heap=S.heap:=by cases dst<;>rfl
theorem zhX{x:zK}{S:St}{v:AV}{δ:zd}{t:Nat}:look t (ap x S v δ).env=if x.dst=some t then some v else look t S.env:=zZi
theorem zfd{x:zK}{S:St}{v:AV}{δ:zd}:(ap x S v δ).heap=zak δ S.heap:=zXH
theorem Same.ap{S S':St}(h:Same S S')(x:zK)(v:AV)(δ:zd):Same (ap x S v δ) (ap x S' v δ):=by
 refine⟨fun t=> ?_,fun o=> ?_⟩
 ·rw[zhX,zhX,h.1 t]
 ·rw[zfd,zfd,zdi,zdi,h.2 o]
theorem zBc{α:Type}{o:Nat}{l:List (Nat×α)}(h:∀ob,(o,ob)∉l):look o l=none:=by
 cases hh:look o l with
 | none=>rfl
 | some ob=>exact absurd (zav hh) (h ob)
theorem zR2{x y:zK}(h:ziv x y=true):(∀d,x.dst=some d->d∉y.reads/\y.dst≠some d)/\(∀d,y.dst=some d->d∉x.reads):=by
 refine⟨fun d hd=> ?_,fun d hd=> ?_⟩<;>simp [ziv,hd] at h
 ·exact h.1
 ·exact h.2
theorem zrh{a b:List Nat}(h:ziE a b=true){o:Nat}(ha:o∈a)(hb:o∈b):False:=by
 have:=zabO.1 h o ha;simp [hb] at this
theorem swap{x y:zK}{S:St}{v u:AV}{δ ε:zd}{p q:List Nat×List Nat}(hx:Y F x S v δ p)(hy:Y F y (ap x S v δ) u ε q)(ha:ziv x y=true)(hi:ziR p q=true):
    Y F y S u ε q/\Y F x (ap y S u ε) v δ p/\Same (ap y (ap x S v δ) u ε) (ap x (ap y S u ε) v δ):=by
 obtain⟨h1,h2⟩:=zR2 ha;simp only[ziR,zabH] at hi;have e1:∀o,2 * o∈q.1->look o (zak δ S.heap)=look o S.heap:=fun o ho=>by
  rw[zdi,zBc fun ob hob=>zrh hi.1 (hx.sub o ob hob).1 ho];rfl
 have e2:∀o,2 * o∈p.1->look o (zak ε S.heap)=look o S.heap:=fun o ho=>by
  rw[zdi,zBc fun ob hob=>zrh hi.2 (hy.sub o ob hob).1 ho];rfl
 have sh:∀ {z:zK} {v':AV} {δ':zd} {p' q':List Nat×List Nat},Y F z S v' δ' p'->ziE p'.2 q'.1=true->∀o,2 * o+1∈q'.1->shp (look o (zak δ' S.heap))=shp (look o S.heap):=by
  intro z v' δ' p' q' hz hd o ho;rw[zdi]
  cases hl:look o δ' with
  | none=>rfl
  | some ob=>
   rcases hz.keep o ob (zav hl) with h|h
   ·exact (zrh hd h ho).elim
   ·exact h
 have hy':Y F y S u ε q:=hy.agree ⟨fun t ht=>by
     rw[zhX,zabn fun hd=>(h1 t hd).1 ht],fun o ho=>by rw[zfd,e1 o ho],fun o ho=>by rw[zfd,sh hx hi.1 o ho]⟩
 refine⟨hy',hx.agree ⟨fun t ht=>by rw[zhX,zabn fun hd=>h2 t hd ht],fun o ho=>by rw[zfd,e2 o ho],fun o ho=>by rw[zfd,sh hy' hi.2 o ho]⟩,fun t=> ?_,fun o=> ?_⟩
 ·rw[zhX,zhX,zhX,zhX]
  by_cases hd:x.dst=some t
  ·rw[zabo hd,zabo hd,zabn (h1 t hd).2]
  ·rw[zabn hd,zabn hd]
 ·rw[zfd,zfd,zfd,zfd,zdi,zdi,zdi,zdi]
  cases hd:look o δ with
  | none=>simp
  | some ob=>
   have hm:=zav hd;rw[zBc (l:=ε) fun ob' hob=>zrh hi.1 (hx.sub o ob hm).1 (hy.sub o ob' hob).2];rfl
def ze0(F:zaU)(ops:Array Oper)(l:List zK)(pl:Nat->List Nat×List Nat)(E:St):Nat->Array Bool->St->Prop
 | 0,listed,S=>Region.ready .any ops listed=[]/\Same S E
 | n+1,listed,S=>(Region.ready .any ops listed=[]->Same S E)/\
  ∀i∈Region.ready .any ops listed,∃x v δ,l[i]? = some x/\Y F x S v δ (pl i)/\ze0 F ops l pl E n (listed.setIfInBounds i true) (ap x S v δ)
variable {ops:Array Oper} {l:List zK} {pl:Nat->List Nat×List Nat} {E:St}
theorem ze0.same:∀ {n:Nat} {listed:Array Bool} {S S':St},ze0 F ops l pl E n listed S->Same S S'->ze0 F ops l pl E n listed S'
 | 0,_,_,_,h,hs=>⟨h.1,hs.symm.trans h.2⟩
 | n+1,_,_,_,h,hs=>⟨fun h0=>hs.symm.trans (h.1 h0),fun i hi=>by
     obtain⟨x,v,δ,h1,h2,h3⟩:=h.2 i hi;exact⟨x,v,δ,h1,h2.agree (hs.agree _ _),h3.same (hs.ap x v δ)⟩⟩
def zfD(ops:Array Oper)(listed:Array Bool):Prop:=∀j o,ops[j]? = some o->listed.getD j false=true->∀e∈o.after,Region.binds .any e=true->listed.getD e.on false=true
theorem zfD.path{listed:Array Bool}(h:zfD ops listed){j k:Nat}(hp:zeD ops j k):listed.getD j false=true->listed.getD k false=true:=by
 induction hp with
 | one ho he hb=>exact fun hj=>h _ _ ho hj _ he hb
 | more ho he hb _ ih=>exact fun hj=>ih (h _ _ ho hj _ he hb)
theorem zfD.ready{listed:Array Bool}(h:zfD ops listed){j k:Nat}{o:Oper}(ho:ops[j]? = some o)(hall:∀e∈o.after,Region.binds .any e=true->listed.getD e.on false=true)(hp:zeD ops j k):listed.getD k false=true:=by
 cases hp with
 | one ho' he hb=>rw[ho] at ho';cases ho';exact hall _ he hb
 | more ho' he hb hp=>rw[ho] at ho';cases ho';exact h.path hp (hall _ he hb)
theorem zfD.set{listed:Array Bool}(h:zfD ops listed){j:Nat}{o:Oper}(ho:ops[j]? = some o)(hall:∀e∈o.after,Region.binds .any e=true->listed.getD e.on false=true):zfD ops (listed.setIfInBounds j true):=by
 have mono:∀i,listed.getD i false=true->(listed.setIfInBounds j true).getD i false=true:=fun i hi=>by
  rw[zacZ] at hi ⊢;rw[zadM]
  split
  ·split
   ·rfl
   ·rename_i h1 h2;subst h1;rw[zadN (by omega)] at hi;simp at hi
  ·exact hi
 intro i oi hoi hi e he hb;refine mono _ ?_
 by_cases hij:j=i
 ·subst hij;rw[ho] at hoi;cases hoi;exact hall e he hb
 ·refine h i oi hoi ?_ e he hb;rw[zacZ] at hi ⊢
  rwa [zadM,zabn hij] at hi
theorem ze0.first{k:Nat}{x:zK}{v:AV}{δ:zd}(hk:l[k]? = some x):
    ∀(n:Nat) (listed:Array Bool) (S:St),
     zfD ops listed->(∀j o y,ops[j]? = some o->l[j]? = some y->j≠k->listed.getD j true=false->¬zeD ops j k->ziv x y=true/\ziR (pl k) (pl j)=true)->
     k∈Region.ready .any ops listed->Y F x S v δ (pl k)->ze0 F ops l pl E n (listed.setIfInBounds k true) (ap x S v δ)->ze0 F ops l pl E (n+1) listed S:=by
 intro n
 induction n with
 | zero=>
  intro listed S _ _ hr hy H;refine⟨fun h=>(by rw[h] at hr;cases hr),fun j hj=> ?_⟩
  by_cases hjk:j=k
  ·subst hjk;exact⟨x,v,δ,hk,hy,H⟩
  ·have:=ready_mono hj hjk;rw[H.1] at this
   cases this
 | succ n ih=>
  intro listed S hcl hfree hr hy H;refine⟨fun h=>(by rw[h] at hr;cases hr),fun j hj=> ?_⟩
  by_cases hjk:j=k
  ·subst hjk;exact⟨x,v,δ,hk,hy,H⟩
  ·obtain⟨y,u,ε,h1,h2,h3⟩:=H.2 j (ready_mono hj hjk);obtain⟨hjun,oj,hoj,hall⟩:=mem_ready.1 hj;have hnot:¬zeD ops j k:=fun hp=>by
    have h1:=hcl.ready hoj hall hp;have h0:=(mem_ready.1 hr).1
    rcases zadm k listed.size with h'|h'
    ·simp [h'] at h0 h1;rw[h0] at h1;cases h1
    ·simp [zadN h'] at h1
   obtain⟨hap,hin⟩:=hfree j oj y hoj h1 hjk hjun hnot;obtain⟨s1,s2,s3⟩:=swap hy h2 hap hin;refine⟨y,u,ε,h1,s1,ih _ _ (hcl.set hoj hall) (fun i o z ho hz hik hun hno=>hfree i o z ho hz hik ?_ hno) (ready_mono hr (Ne.symm hjk)) s2 ?_⟩
   ·by_cases hji:j=i
    ·subst hji;exact hjun
    ·rw[getD_set_ne true hji] at hun;exact hun
   ·rw[Array.setIfInBounds_comm _ _ hjk];exact h3.same s3
inductive Lex(F:zaU):List zK->List (List Nat×List Nat)->St->St->Prop
 | nil {S:St}:Lex F [] [] S S
 | cons {x:zK} {l:List zK} {p:List Nat×List Nat} {ps:List (List Nat×List Nat)} {S E:St} {v:AV} {δ:zd} (hy:Y F x S v δ p) (h:Lex F l ps (ap x S v δ) E):Lex F (x::l) (p::ps) S E
theorem zYW (hready:∀(k:Nat) (listed:Array Bool),k<l.length->(∀i,i<k->listed.getD i false=true)->listed.getD k true=false->k∈Region.ready .any ops listed)
    (hsz:ops.size=l.length)
    (hfree:∀(k j:Nat) (o:Oper) (x y:zK),k<j->ops[j]? = some o->l[k]? = some x->l[j]? = some y->¬zeD ops j k->ziv x y=true/\ziR (pl k) (pl j)=true)
    (hback:∀(j:Nat) (o:Oper),ops[j]? = some o->∀e∈o.after,Region.binds .any e=true->e.on<j):
    ∀(m:List zK) (ps:List (List Nat×List Nat)) (k:Nat) (listed:Array Bool) (S:St),(∀j,m[j]? = l[k+j]?)->(∀j,j<m.length->ps[j]? = some (pl (k+j)))->k+m.length=l.length->
     listed.size=l.length->(∀i,i<k->listed[i]? = some true)->(∀i,k<=i->i<l.length->listed[i]? = some false)->Lex F m ps S E->ze0 F ops l pl E m.length listed S:=by
 intro m
 induction m with
 | nil=>
  intro ps k listed S hm hp hlen hls h1 h2 h
  cases h
  refine⟨?_,fun _=>rfl,fun _=>rfl⟩;refine List.eq_nil_iff_forall_not_mem.2 fun j hj=> ?_;obtain⟨h3,o,h4,_⟩:=mem_ready.1 hj;have hlt:=(zacl.1 h4).1;simp at hlen;rw[zacZ,h1 j (by omega)] at h3;simp at h3
 | cons x m ih=>
  intro ps k listed S hm hp hlen hls h1 h2 h
  cases h with
  | @cons _ _ p ps _ _ v δ hy h=>
   simp only[zabu] at hlen;have hk:l[k]? = some x:=by simpa using (hm 0).symm
   have hpk:p=pl k:=by simpa using hp 0 (by simp)
   subst hpk;have hg:∀i d,listed.getD i d=(listed[i]?).getD d:=fun i d=>zacZ ..;refine ze0.first hk m.length listed S (fun j o ho hj e he hb=> ?_) (fun j o y ho hy' hjk hun hno=> ?_) (hready k listed (by omega) (fun i hi=>by rw[hg,h1 i hi];rfl) (by rw[hg,h2 k (zabR _) (by omega)];rfl)) hy ?_
   ·have hjl:j<ops.size:=(zacl.1 ho).1
    rcases zadm j k with hlt|hge
    ·have:=hback j o ho e he hb;rw[hg,h1 e.on (by omega)];rfl
    ·rw[hg,h2 j hge (by omega)] at hj;cases hj
   ·have hjl:j<ops.size:=(zacl.1 ho).1
    rcases zadm j k with hlt|hge
    ·rw[hg,h1 j hlt] at hun;cases hun
    ·exact hfree k j o x y (by omega) ho hk hy' hno
   ·refine ih ps (k+1) _ _ (fun j=>by have:=hm (j+1);simpa [zadx,Nat.add_comm 1 j] using this) (fun j hj=>by have:=hp (j+1) (by simp;omega);simpa [zadx,Nat.add_comm 1 j] using this) (by omega) (by simp [hls]) (fun i hi=> ?_) (fun i hi hi'=> ?_) h
    ·rw[zadM]
     by_cases hik:k=i
     ·rw[zabo hik,zabo (by omega)]
     ·rw[zabn hik];exact h1 i (by omega)
    ·rw[zadM,zabn (by omega)];exact h2 i (by omega) hi'
def zbN{α:Type}:List (Nat×α)->Bool
 | []=>true
 | (k,_)::l=> !(l.any fun p=>p.1==k)&&zbN l
theorem ztv{x:AV}(h:x.objs=[])(o:Nat):x.refs o=false:=by
 cases hh:x.refs o with
 | false=>rfl
 | true=>have:=ztu x o hh;rw[h] at this;cases this
theorem zl4{op:AOp}(h:op.cleanB=true)(o:Nat):op.clean o/\∀y∈op.opds,∀E,zaX o E=false->(y.ev E).refs o=false:=by
 simp only[AOp.cleanB,zabH] at h;refine⟨?_,fun y hy E hE=> ?_⟩
 ·have h2:=h.2
  cases op with
  | alloc z=>exact ztv (by simpa using h2) o
  | mks n z l c=>exact ztv (by simpa using h2) o
  | bsl len n z ps=>exact ztv (by simpa using h2) o
  | build z ps=>
   intro y hy
   cases hh:y.refs o with
   | false=>rfl
   | true=>
    have:=zjf z o (AV.refsL_mem hy hh);simp only[zadJ] at h2;rw[h2] at this;cases this
  | _=>trivial
 ·have:=zabO.1 h.1 y hy
  cases y with
  | c v=>exact ztv (x:=v) (by simpa using this) o
  | t n=>
   simp only[Opd.ev]
   cases hl:look n E with
   | none=>rfl
   | some v=>exact znm (zav hl) hE
def zjR(H:zd)(dst:Nat)(ms:List Bool)(args:List AV):List Nat×List Nat:=(zar (zdd H dst ms args).1,zar (zdd H dst ms args).2)
def zkI(l:List Nat):List Nat:=l.map fun o=>2 * o+1
def zj3(l:List Nat):List Nat:=l.map fun o=>2 * o
def zq6(H:zd)(dst:Nat)(ms:List Bool)(f:AV)(args:List AV):List Nat×List Nat:=
 match f with
 | .d (.fn _ cs)=>zjR H dst ms (args++cs.map .d)
 | .fn _ cs=>zjR H dst ms (args++cs)
 | _=>([],[])
def AOp.feet(E:Env)(H:zd)(dst:Nat)(op:AOp):List Nat×List Nat:=
 match op with
 | .call _ ms xs=>zjR H dst ms (xs.map (·.ev E))
 | .callv f ms xs=>zq6 H dst ms (f.ev E) (xs.map (·.ev E))
 | .iad n x i=>(zkI (AOp.foot E dst (.iad n x i)),[])
 | .st n p x=>(zar (AOp.foot E dst (.st n p x)),zj3 (AOp.wr E dst (.st n p x)))
 | op=>(zar (op.foot E dst),zar (op.wr E dst))
def feet(x:zK)(S:St):List Nat×List Nat:=x.op.feet S.env S.heap (x.dst.getD 0)
theorem zQh{o:Nat}{xs ys:List AV}:AV.refsL o (xs++ys)=(AV.refsL o xs||AV.refsL o ys):=by
 induction xs with
 | nil=>simp [AV.refsL]
 | cons x xs ih=>simp [AV.refsL,ih,Bool.or_assoc]
theorem zQi{o:Nat}{cs:List D}:AV.refsL o (cs.map .d)=false:=by
 induction cs with
 | nil=>rfl
 | cons x xs ih=>simp [AV.refsL,AV.refs,ih]
theorem zCA{o:Nat}{E:Env}{xs:List Opd}(h:∀y∈xs,(y.ev E).refs o=false):AV.refsL o (xs.map (·.ev E))=false:=by
 induction xs with
 | nil=>rfl
 | cons x xs ih=>simp only[zabs,AV.refsL,h x (.head _),ih fun y hy=>h y (.tail _ hy),Bool.or_self]
theorem z0a{H H':zd}{ng:Bool}{x v:AV}(h:zkH H ng x=some (v,H')):H'=H/\(∀H2,zkH H2 ng x=some (v,H2))/\∀o,v.refs o=false:=by
 unfold zkH at h ⊢
 split at h
 ·cases h;exact⟨rfl,fun _=>rfl,fun _=>rfl⟩
 ·split at h
  ·rename_i hs;cases h;exact⟨rfl,fun _=>rfl,fun _=>rfl⟩
  ·cases h
theorem zQC{x:Option Obj}{l:List Nat}(h:shp x=some l):∃es,x=some (.row es)/\es.map AV.size=l:=by
 unfold shp at h
 split at h
 ·rename_i es;cases h;exact⟨es,rfl,rfl⟩
 ·cases h
theorem zXN{H H2:zd}{n:Nat}{k:Int}{x:AV}(h:∀o∈x.objs,shp (look o H2)=shp (look o H)):zcH H2 n k x=zcH H n k x:=by
 cases x with
 | osl o off len=>
  have ho:=h o (by simp [AV.objs]);simp only[zcH];generalize look o H=a at ho ⊢;generalize look o H2=b at ho ⊢
  split
  ·cases hb:shp b with
   | none=>
    rw[hb] at ho;have none_of:∀ {x:Option Obj},shp x=none->(∀es,x≠some (.row es)):=fun hx es e=>by subst e;cases hx
    split
    ·rename_i es;exact absurd rfl (none_of hb es)
    ·split
     ·rename_i es;exact absurd rfl (none_of ho.symm es)
     ·rfl
   | some l=>
    rw[hb] at ho;obtain⟨es,rfl,h1⟩:=zQC hb;obtain⟨fs,rfl,h2⟩:=zQC ho.symm;have hg:∀i:Nat,(es[i]?).map AV.size=(fs[i]?).map AV.size:=fun i=>by rw[<- zabI, <- zabI,h1,h2]
    have:=hg (off+k.toNat)
    cases he:es[off+k.toNat]? with
    | none=>
     rw[he] at this
     cases hf:fs[off+k.toNat]? with
     | none=>simp [he,hf]
     | some q=>rw[hf] at this;simp at this
    | some e=>
     rw[he] at this;obtain⟨e',h3,h4⟩:=zabr.1 this.symm;simp [he,h3,h4]
  ·rfl
 | d y=>cases y<;>rfl
 | _=>rfl
theorem z9C{E:Env}{H H':zd}{dst n:Nat}{q y:Opd}{v:AV}(h:zr E H dst (.st n q y)=some (v,H')):∃δ,zaY (.st n q y) E H dst v H' δ/\∀o ob,(o,ob)∈δ->shp (some ob)=shp (look o H):=by
 simp only[zr] at h
 split at h
 ·rename_i o i off hp
  split at h
  ·rename_i hc
   split at h
   ·rename_i es hes;obtain⟨e,h1,h2⟩:=zabp.1 h;obtain⟨e',h3,h4⟩:=zabr.1 h2
    cases h4
    have hmem:o∈(AOp.st n q y).foot E dst:=by
     simp only[AOp.foot,AOp.looks,if_true,zabS];exact .inl (zdL.2 ⟨q,by simp [AOp.opds],by rw[hp];simp [AV.objs]⟩)
    refine⟨[(o,.row (es.set i e'))],⟨rfl,?_,fun E2 H2 he hh _=> ?_⟩,fun o' ob ho=> ?_⟩
    ·intro q ob hq;simp only[zab1,Prod.mk.injEq] at hq;rw[hq.1];simp [AOp.wr,hp,AV.objs]
    ·simp only[zr,he q (by simp [AOp.opds]),he y (by simp [AOp.opds]),hp,hh o hmem,hes];rw[zabo hc,h1];simp [h3,zak]
    ·simp only[zab1,Prod.mk.injEq] at ho;obtain⟨rfl,rfl⟩:=ho;rw[hes];have hsz:=(zMQ h3).2.1;simp only[shp,zacw,Option.some.injEq];refine List.ext_getElem? fun j=> ?_;rw[zadh]
     split
     ·rename_i hij;subst hij
      split
      ·rw[zabI,h1,hsz];rfl
      ·rename_i hlt;simp at hlt;simp [hlt]
     ·rfl
   ·cases h
  ·cases h
 ·cases h
theorem z9P(hF:FOK P F){x:zK}{S:St}(hcl:x.op.cleanB=true){v:AV}{H':zd}(h:step F S.env S.heap (x.dst.getD 0) x.op=some (v,H')):∃δ,zlk F x S v δ (feet x S).1 (feet x S).2/\H'=zak δ S.heap:=by
 have call:∀(f:FuncId) (ms:List Bool) (args:List AV),feet x S=zjR S.heap (x.dst.getD 0) ms args->x.newNames=fr4 (x.dst.getD 0)->
     (∀S2,zcR x (feet x S).1 S S2->step F S2.env S2.heap (x.dst.getD 0) x.op=zgJ S2.heap (zbr F S2.env S2.heap (x.dst.getD 0) ms f args))->
     (∀o S2,zcR x (feet x S).1 S S2->zgE o S2->AV.refsL o args=false)->
     zgJ S.heap (zbr F S.env S.heap (x.dst.getD 0) ms f args)=some (v,H')->∃δ,zlk F x S v δ (feet x S).1 (feet x S).2/\H'=zak δ S.heap:=by
  intro f ms args hfeet hnn hst hno h;obtain⟨⟨v',δ⟩,h1,h2⟩:=zabr.1 h
  cases h2
  obtain⟨n1,n2,n3⟩:=zSE hF h1;refine⟨δ,⟨fun o ob ho=>by rw[hfeet];exact zik (n1 _ ho),fun o ob ho=> .inl (by rw[hfeet];exact zDa (n1 _ ho)),by rw[hfeet];exact zQ5 zSI,fun S2 ha hf=> ?_⟩,rfl⟩;refine⟨?_,fun o ho hn=> ?_⟩
  ·rw[hst S2 ha,zSD hF h1 (fun o ho=>ha.heap o (by rw[hfeet];exact zik ho)) (fun n hn=>hf n (by rw[hnn];exact hn))];rfl
  ·have hnot:o∉(zdd S.heap (x.dst.getD 0) ms args).2:=zSH (fun q hq=>ha.heap q (by rw[hfeet];exact zik hq)) (hno o S2 ha ho) ho.2 (by rw[<- hnn];exact hn);refine⟨?_,zCz (fun p hp=> ?_) ho.2⟩
   ·show v'.refs o=false
    cases hr:v'.refs o with
    | false=>rfl
    | true=>exact absurd (n2 o hr) hnot
   ·cases hr:p.2.refs o with
    | false=>rfl
    | true=>exact absurd (n3 p hp o hr) hnot
 have simple:step F S.env S.heap (x.dst.getD 0) x.op=zr S.env S.heap (x.dst.getD 0) x.op->(∀E H,step F E H (x.dst.getD 0) x.op=zr E H (x.dst.getD 0) x.op)->feet x S=(zar (x.op.foot S.env (x.dst.getD 0)),zar (x.op.wr S.env (x.dst.getD 0)))->
     (x.newNames=if x.op.news then [x.dst.getD 0] else [])->∃δ,zlk F x S v δ (feet x S).1 (feet x S).2/\H'=zak δ S.heap:=by
  intro e1 e2 hfeet hnn;rw[e1] at h;obtain⟨δ,hl⟩:=zSf h;refine⟨δ,⟨by rw[hfeet];exact fun o ob ho=>zik (hl.sub o ob ho),by rw[hfeet];exact fun o ob ho=> .inl (zDa (hl.sub o ob ho)),by rw[hfeet];exact zQ5 fun o ho=>AOp.wr_foot ho,fun S2 ha hf=> ?_⟩,hl.eq⟩;have hst:=hl.same S2.env S2.heap ha.ev (fun o ho=>ha.heap o (by rw[hfeet];exact zik ho)) (fun hnew=>hf _ (by rw[hnn,hnew];simp));refine⟨by rw[e2];exact hst,fun o ho hn=> ?_⟩;obtain⟨c1,c2⟩:=zl4 hcl o;exact zub hst (fun y hy=>c2 y hy _ ho.1) ho.2 c1 fun hnew=>by rw[hnn,hnew] at hn;simpa using hn
 have evs:∀ {xs:List Opd} {S2:St},(∀y∈xs,y∈x.op.opds)->∀o,zgE o S2->∀y∈xs,(y.ev S2.env).refs o=false:=fun hx o ho y hy=>(zl4 hcl o).2 y (hx y hy) _ ho.1
 cases hop:x.op with
 | call f ms xs=>
  rw[hop] at h;simp only[step] at h;have hev:∀S2,zcR x (feet x S).1 S S2->xs.map (·.ev S2.env)=xs.map (·.ev S.env):=fun S2 ha=>by
   have:=ha.ev;rw[hop] at this;exact zBg this
  refine call f ms (xs.map (·.ev S.env)) (by simp [feet,hop,AOp.feet]) (by simp [zK.newNames,hop]) (fun S2 ha=> ?_) (fun o S2 ha ho=> ?_) h
  ·rw[hop];simp only[step];rw[hev S2 ha]
  ·rw[<- hev S2 ha];exact zCA (evs (by rw[hop];intro y hy;exact hy) o ho)
 | callv f ms xs=>
  rw[hop] at h;have hev:∀S2,zcR x (feet x S).1 S S2->f.ev S2.env=f.ev S.env/\xs.map (·.ev S2.env)=xs.map (·.ev S.env):=fun S2 ha=>by
   have:=ha.ev;rw[hop] at this;exact⟨this f (by simp [AOp.opds]),zacR fun y hy=>this y (by simp [AOp.opds,hy])⟩
  simp only[step,zht] at h
  split at h
  ·rename_i g cs hf;refine call g ms (xs.map (·.ev S.env)++cs.map .d) (by simp [feet,hop,AOp.feet,zq6,hf]) (by simp [zK.newNames,hop]) (fun S2 ha=> ?_) (fun o S2 ha ho=> ?_) h
   ·rw[hop];simp only[step,zht];rw[(hev S2 ha).1,(hev S2 ha).2,hf]
   ·rw[zQh,zQi,Bool.or_false, <- (hev S2 ha).2];exact zCA (evs (by rw[hop];intro y hy;simp [AOp.opds,hy]) o ho)
  ·rename_i g cs hf;refine call g ms (xs.map (·.ev S.env)++cs) (by simp [feet,hop,AOp.feet,zq6,hf]) (by simp [zK.newNames,hop]) (fun S2 ha=> ?_) (fun o S2 ha ho=> ?_) h
   ·rw[hop];simp only[step,zht];rw[(hev S2 ha).1,(hev S2 ha).2,hf]
   ·rw[zQh, <- (hev S2 ha).2,zCA (evs (by rw[hop];intro y hy;simp [AOp.opds,hy]) o ho),zacH];have:=(zl4 hcl o).2 f (by rw[hop];simp [AOp.opds]) S2.env ho.1;rw[(hev S2 ha).1,hf] at this;exact this
  ·simp [zgJ] at h
 | iad n y i=>
  rw[hop] at h;have hx:feet x S=(zkI (AOp.foot S.env (x.dst.getD 0) (.iad n y i)),[]):=by simp [feet,hop,AOp.feet]
  have h:zr S.env S.heap (x.dst.getD 0) (.iad n y i)=some (v,H'):=h;simp only[zr] at h;obtain⟨k,hk,h⟩:=zabp.1 h
  split at h
  ·rename_i h0;obtain⟨v',hv',h⟩:=zabr.1 h
   cases h
   have hst:∀S2,zcR x (feet x S).1 S S2->step F S2.env S2.heap (x.dst.getD 0) x.op=some (v,S2.heap):=fun S2 ha=>by
    have hev:=ha.ev;rw[hop] at hev ⊢;show zr S2.env S2.heap (x.dst.getD 0) (.iad n y i)=_;simp only[zr,hev y (by simp [AOp.opds]),hev i (by simp [AOp.opds]),hk,zabY];rw[zabo h0,zXN (H:=S.heap) fun o ho=>ha.shape o ?_,hv']
    ·rfl
    ·rw[hx];refine zaby.2 ⟨o,?_,rfl⟩;simp only[AOp.foot,AOp.looks,if_true,zabS];exact .inl (zdL.2 ⟨y,by simp [AOp.opds],ho⟩)
   refine⟨[],⟨(fun o ob h=>nomatch h),(fun o ob h=>nomatch h),by rw[hx];simp,fun S2 ha _=>⟨hst S2 ha,fun o ho hn=> ?_⟩⟩,rfl⟩;have hq:=hst S2 ha;rw[hop] at hq;obtain⟨c1,c2⟩:=zl4 hcl o;rw[hop] at c1 c2;exact zub (op:= .iad n y i) (dst:=x.dst.getD 0) hq (fun y hy=>c2 y hy _ ho.1) ho.2 c1 (by simp [AOp.news])
  ·cases h
 | st n q y=>
  rw[hop] at h;have hx:feet x S=(zar (AOp.foot S.env (x.dst.getD 0) (.st n q y)),zj3 (AOp.wr S.env (x.dst.getD 0) (.st n q y))):=by simp [feet,hop,AOp.feet]
  have h:zr S.env S.heap (x.dst.getD 0) (.st n q y)=some (v,H'):=h;obtain⟨δ,hl,hkeep⟩:=z9C h;refine⟨δ,⟨fun o ob ho=>by rw[hx];exact zaby.2 ⟨o,hl.sub o ob ho,rfl⟩,fun o ob ho=> .inr (hkeep o ob ho),fun t ht=> ?_,fun S2 ha hf=> ?_⟩,hl.eq⟩
  ·rw[hx] at ht ⊢;obtain⟨o,ho,rfl⟩:=zaby.1 ht;exact zik (AOp.wr_foot ho)
  ·have hev:=ha.ev;rw[hop] at hev;have hst:=hl.same S2.env S2.heap hev (fun o ho=>ha.heap o (by rw[hx];exact zik ho)) (by simp [AOp.news]);refine⟨by rw[hop];exact hst,fun o ho hn=> ?_⟩;obtain⟨c1,c2⟩:=zl4 hcl o;rw[hop] at c1 c2;exact zub hst (fun y hy=>c2 y hy _ ho.1) ho.2 c1 (by simp [AOp.news])
 | nileq ng y=>
  rw[hop] at h;have hev:∀S2,zcR x (feet x S).1 S S2->y.ev S2.env=y.ev S.env:=fun S2 ha=>by
   have:=ha.ev;rw[hop] at this;exact this y (by simp [AOp.opds])
  simp only[step] at h;obtain⟨rfl,hall,hno⟩:=z0a h;refine⟨[],⟨(fun o ob h=>nomatch h),(fun o ob h=>nomatch h),by simp [feet,hop,AOp.feet,AOp.wr,zar],fun S2 ha _=>⟨?_,fun o ho _=>⟨hno o,ho.2⟩⟩⟩,rfl⟩;rw[hop];simp only[step];rw[hev S2 ha];exact hall _
 | _=>exact simple (by rw[hop];rfl) (by intro E H;rw[hop];rfl) (by simp [feet,hop,AOp.feet]) (by simp [zK.newNames,hop])
end Go.Sim

namespace Go.Sim
open Go (World Value Addr TypeId Act)
variable {P:Program} {C:Ctx} {F:zaU}
theorem zRt{x:zK}{S:St}(h:x.guard=none):Gd x S=some true:=by simp [Gd,h]
theorem zDl{x:zK}{S:St}{t:Nat}{b c:Bool}(h:x.guard=some (t,b))(hl:look t S.env=some (.d (.bool c))):Gd x S=some (c==b):=by simp [Gd,h,hl]
theorem zRu{x:zK}{S:St}{t:Nat}{b:Bool}(h:x.guard=some (t,b))(hl:look t S.env=some (.d (.tup []))):Gd x S=some false:=by simp [Gd,h,hl]
def zgK(fr:List Nat)(acc:List (List Nat×List Nat))(p:List Nat×List Nat):Bool:=fr.all fun k=>match acc[k]? with|some q=>ziR q p|none=>false
def ztZ(fr:List (List Nat))(acc ps:List (List Nat×List Nat)):Prop:=
 ∀j p,ps[j]? = some p->zgK ((fr[j]?).getD []) (acc++ps.take j) p=true
def zdq(F:zaU)(x:zK)(S:St):Option St:=(step F S.env S.heap (x.dst.getD 0) x.op).map fun p=>St.put ⟨S.env,p.2⟩ x.dst p.1
def zdf(F:zaU)(x:zK)(fr:List (List Nat))(acc:List (List Nat×List Nat))(S:St):Option St:=
 if zgK (fr.headD []) acc (feet x S)=true then zdq F x S else none
def zgf(x:zK)(fr:List (List Nat))(acc:List (List Nat×List Nat))(S:St):Option St:=
 if zgK (fr.headD []) acc ([],[])=true then some (S.put x.dst (.d (.tup []))) else none
def zbz(F:zaU):List zK->List (List Nat)->List (List Nat×List Nat)->St->Option St
 | [],_,_,S=>some S
 | x::l,fr,acc,S=>
  match x.guard with
  | none=>(zdf F x fr acc S).bind (zbz F l fr.tail (acc++[feet x S]))
  | some (t,b)=>
   match look t S.env with
   | some (.d (.bool c))=>if c=b then (zdf F x fr acc S).bind (zbz F l fr.tail (acc++[feet x S])) else (zgf x fr acc S).bind (zbz F l fr.tail (acc++[([],[])]))
   | some (.d (.tup []))=>(zgf x fr acc S).bind (zbz F l fr.tail (acc++[([],[])]))
   | _=>none
def zmd(l:List zK)(S:St):Bool:=l.all fun x=>x.newNames.all fun n=> !zaX n S.env&& !zaq n S.heap
def zfQ(F:zaU)(l:List zK)(fr:List (List Nat))(S:St):Option St:=
 if (zbN S.env&&zbN S.heap&&zmd l S)=true then zbz F l fr [] S else none
theorem z9L(hF:FOK P F){x:zK}{S S':St}(hcl:x.op.cleanB=true)(h:zdq F x S=some S'):∃v δ,zlk F x S v δ (feet x S).1 (feet x S).2/\S'=ap x S v δ:=by
 obtain⟨⟨v,H'⟩,h1,h2⟩:=zabr.1 h;obtain⟨δ,h3,h4⟩:=z9P hF hcl h1;subst h2;subst h4;exact⟨v,δ,h3,rfl⟩
theorem zVo(hF:FOK P F):∀(l:List zK) (fr:List (List Nat)) (acc:List (List Nat×List Nat)) (S S':St),(∀x∈l,x.op.cleanB=true)->zbz F l fr acc S=some S'->∃ps,Lex F l ps S S'/\ps.length=l.length/\ztZ fr acc ps:=by
 intro l
 induction l with
 | nil=>intro fr acc S S' _ h;cases h;exact⟨[],.nil,rfl,fun j p hp=>by simp at hp⟩
 | cons x l ih=>
  intro fr acc S S' hc h;have step:∀(p:List Nat×List Nat) (v:AV) (δ:zd),Y F x S v δ p->zgK (fr.headD []) acc p=true->zbz F l fr.tail (acc++[p]) (ap x S v δ)=some S'->∃ps,Lex F (x::l) ps S S'/\ps.length=(x::l).length/\ztZ fr acc ps:=by
   intro p v δ hy hcl hg;obtain⟨ps,h1,h3,h4⟩:=ih _ _ _ _ (fun y hy=>hc y (.tail _ hy)) hg;refine⟨p::ps,.cons hy h1,by simp [h3],fun j q hq=> ?_⟩
   cases j with
   | zero=>
    simp at hq;subst hq;simp only[zacg,zabL]
    cases fr<;>simpa using hcl
   | succ j=>
    have:=h4 j q (by simpa using hq);rw[zab9] at this
    cases fr with
    | nil=>simpa using this
    | cons f fr=>simpa using this
  have run:((zdf F x fr acc S).bind (zbz F l fr.tail (acc++[feet x S])))=some S'->Gd x S=some true->∃ps,Lex F (x::l) ps S S'/\ps.length=(x::l).length/\ztZ fr acc ps:=by
   intro h hgd;obtain⟨S1,h1,h2⟩:=zabp.1 h;unfold zdf at h1
   split at h1
   ·rename_i hcl;obtain⟨v,δ,h3,rfl⟩:=z9L hF (hc x (.head _)) h1;exact step (feet x S) v δ (.inl ⟨hgd,h3⟩) hcl h2
   ·cases h1
  simp only[zbz] at h
  split at h
  ·rename_i hg;exact run h (zRt hg)
  ·rename_i t b hg
   split at h
   ·rename_i c hl
    split at h
    ·rename_i hcb;exact run h (by rw[zDl hg hl];simpa using hcb)
    ·rename_i hcb;obtain⟨S1,h1,h2⟩:=zabp.1 h;unfold zgf at h1
     split at h1
     ·rename_i hcl
      cases h1
      refine step ([],[]) (.d (.tup [])) [] (.inr ⟨by rw[zDl hg hl];simpa using hcb,rfl,rfl⟩) hcl ?_;exact h2
     ·cases h1
   ·rename_i hl;obtain⟨S1,h1,h2⟩:=zabp.1 h;unfold zgf at h1
    split at h1
    ·rename_i hcl
     cases h1
     refine step ([],[]) (.d (.tup [])) [] (.inr ⟨zRu hg hl,rfl,rfl⟩) hcl ?_;exact h2
    ·cases h1
   ·cases h
theorem z0c{α:Type}{k:Nat}{l:List (Nat×α)}(h:zbN l=true):zbN (zd0 k l)=true:=by
 induction l with
 | nil=>rfl
 | cons p l ih=>
  obtain⟨j,x⟩:=p;simp only[zbN,zabH,zace] at h;simp only[zd0]
  split
  ·exact ih h.2
  ·simp only[zbN,zabH,zace,ih h.2,zacT];rw[zacC] at *;exact fun q hq=>h.1 q (zi1.1 hq).1
theorem zMA{α:Type}{k:Nat}{x:α}{l:List (Nat×α)}(h:zbN l=true):zbN (zP k x l)=true:=by
 simp only[zP,zbN,zabH,zace,z0c h,zacT];rw[zacC];intro q hq;have:=(zi1.1 hq).2;simpa using this
theorem zMz{α:Type}{l:List (Nat×α)}(h:zbN l=true){k:Nat}{x:α}(hm:(k,x)∈l):look k l=some x:=by
 induction l with
 | nil=>cases hm
 | cons p l ih=>
  obtain⟨j,y⟩:=p;simp only[zbN,zabH,zace] at h;simp only[look]
  cases hm with
  | head=>simp
  | tail _ hm=>
   rw[zabn,ih h.2 hm];rintro rfl;have:=zacC.1 h.1 _ hm;simp at this
theorem z0b{δ H:zd}(h:zbN H=true):zbN (zak δ H)=true:=by
 induction δ with
 | nil=>exact h
 | cons p δ ih=>exact zMA ih
theorem Lex.nodup{ps:List (List Nat×List Nat)}{S E:St}{l:List zK}(h:Lex F l ps S E):zbN S.env=true->zbN S.heap=true->zbN E.env=true/\zbN E.heap=true:=by
 induction h with
 | nil=>exact fun h1 h2=>⟨h1,h2⟩
 | @cons x _ _ _ S _ v δ _ _ ih=>
  refine fun h1 h2=>ih ?_ ?_
  ·unfold ap St.put
   split
   ·exact h1
   ·exact zMA h1
  ·rw[zfd];exact z0b h2
theorem Rel.same{S E:St}{a:Act}{w:World}{ι:Inj}{R:Nat->Prop}(h:Rel C S a w ι R)(hs:Same S E)(h1:zbN E.env=true)(h2:zbN E.heap=true):Rel C E a w ι R:=by
 have hm:mark E.heap=mark S.heap:=funext fun o=>by unfold mark;rw[hs.2 o]
 refine { h with env:=fun t x hx=> ?_,heap:=fun o ob ho=> ?_ }
 ·rw[hm];exact h.env t x (zav ((hs.1 t).trans (zMz h1 hx)))
 ·rw[hm];exact h.heap o ob (zav ((hs.2 o).trans (zMz h2 ho)))
theorem zHQ{x:zK}{S:St}{v:AV}{δ:zd}{o:Nat}(h:zgE o S)(hv:v.refs o=false)(hh:zaq o (zak δ S.heap)=false):zgE o (ap x S v δ):=by
 refine⟨?_,by rw[zfd];exact hh⟩;unfold ap St.put
 split
 ·exact h.1
 ·rename_i d _
  cases hr:zaX o (zP d v S.env) with
  | false=>rfl
  | true=>
   exfalso;have:zaX o (zd0 d S.env)=false:=by
    have h1:=h.1;revert h1;generalize S.env=l
    induction l with
    | nil=>intro;rfl
    | cons p l ih=>
     obtain⟨j,y⟩:=p;intro h1;simp only[zaX,zacY] at h1;simp only[zd0]
     split
     ·exact ih h1.2
     ·simp [zaX,h1.1,ih h1.2]
   simp [zP,zaX,hv,this] at hr
theorem ze0.sound (hF:FOK P F) {hs:zn} {Q:Exit->Act->World->Prop} {ops:Array Oper} {l:List zK} {pl:Nat->List Nat×List Nat} {E:St} (hl:ops.toList.mapM (ze3 P hs ops)=some l) (hd:∀o∈ops.toList,∀d,o.dst=some d->d<C.n)
    (hnews:∀(i:Nat) (x:zK),l[i]? = some x->∀n∈x.newNames,∀(j:Nat) (y:zK),l[j]? = some y->j≠i->n∉y.newNames)
    (hQ:∀S a w ι R,Same S E->Rel C S a w ι R->Q .normal a w):
    ∀(n:Nat) (listed:Array Bool) (S:St) (a:Act) (w:World) (ι:Inj) (R:Nat->Prop),ze0 F ops l pl E n listed S->Rel C S a w ι R->
     (∀(i:Nat) (x:zK),l[i]? = some x->listed.getD i true=false->∀n∈x.newNames,zgE n S)->wpAny P .any ops Q n listed a w:=by
 intro n
 induction n with
 | zero=>intro listed S a w ι R h hr _;exact⟨h.1,hQ _ _ _ _ _ h.2 hr⟩
 | succ n ih=>
  intro listed S a w ι R h hr hf;refine⟨fun h0=>hQ _ _ _ _ _ (h.1 h0) hr,fun i hi=> ?_⟩;obtain⟨x,v,δ,hx,hy,hn⟩:=h.2 i hi;obtain⟨hun,o,ho,_⟩:=mem_ready.1 hi;have hmem:o∈ops.toList:=by
   have:=(zacl.1 ho);obtain⟨h1,rfl⟩:=this;simp
  have hcx:ze3 P hs ops o=some x:=(zeT hl).2 i o x (by simpa using ho) hx;unfold wpOp;simp only[ho]
  -- the other new objects' names stay fresh
  have hothers:∀(m:Nat) (y:zK),l[m]? = some y->(listed.setIfInBounds i true).getD m true=false->∀n∈y.newNames,zgE n S/\n∉x.newNames:=by
   intro m y hm hum n hny;have hmi:m≠i:=by
    rintro rfl;have hlt:m<ops.size:=(zacl.1 ho).1;rw[zacZ,Array.getElem?_setIfInBounds_self] at hum;rw[zacZ] at hun
    split at hum
    ·simp at hum
    ·simp at hum
   rw[getD_set_ne true (Ne.symm hmi)] at hum;exact⟨hf m y hm hum n hny,hnews m y hm n hny i x hx (Ne.symm hmi)⟩
  rcases hy with ⟨hg,hloc⟩|⟨hg,rfl,rfl⟩
  ·obtain⟨hop,hno⟩:=hloc.same S ⟨fun _ _=>rfl,fun _ _=>rfl,fun _ _=>rfl⟩ (hf i x hx hun);have hnext:∀S' a' w' ι' R',S'=ap x S v δ->Rel C S' a' w' ι' R'->wpAny P .any ops Q n (listed.setIfInBounds i true) a' w':=by
    rintro S' a' w' ι' R' rfl hr';refine ih _ _ _ _ _ _ hn hr' fun m y hm hum n hny=> ?_;obtain⟨h2,h3⟩:=hothers m y hm hum n hny;obtain⟨h4,h5⟩:=hno _ h2 h3;exact zHQ h2 h4 h5
   unfold ze3 at hcx
   split at hcx
   ·cases hcx
   ·rename_i op hop'
    split at hcx
    ·rename_i hgd
     cases hcx
     have hw:Region.wanted o (yielded ops a.tmps)=true:=by simp [Region.wanted,hgd]
     rw[zabo hw];exact .inl (zCT hF hop' (hd _ hmem) hop hr fun a' w' ι' R' hr'=>hnext _ a' w' ι' R' rfl hr')
    ·rename_i j b hgd;obtain⟨t,ht,hcx⟩:=zabr.1 hcx
     cases hcx
     unfold Gd at hg;simp only at hg
     split at hg
     ·rename_i c hc;have hyl:yielded ops a.tmps j=some c:=by
       obtain⟨u,h1,h2⟩:=hr.env t _ (zav hc);have:=h2.bool_inv;subst this;have hlt:t<1000000:=by
        obtain⟨o',ho',ht'⟩:=zabp.1 ht;exact zaco (hd o' (by have:=(zacl.1 ho');obtain⟨q,rfl⟩:=this;simp) t ht') C.le
       simp only[zeu,zabo hlt] at h1;simp [yielded,ht,h1]
      have hw:Region.wanted o (yielded ops a.tmps)=(c==b):=by simp [Region.wanted,hgd,hyl]
      have:(c==b)=true:=by simpa using hg
      rw[zabo (by rw[hw];exact this)];exact .inl (zCT hF hop' (hd _ hmem) hop hr fun a' w' ι' R' hr'=>hnext _ a' w' ι' R' rfl hr')
     ·cases hg
     ·cases hg
  ·have hnext:∀S' a' w' ι' R',S'=ap x S (.d (.tup [])) []->Rel C S' a' w' ι' R'->wpAny P .any ops Q n (listed.setIfInBounds i true) a' w':=by
      rintro S' a' w' ι' R' rfl hr';refine ih _ _ _ _ _ _ hn hr' fun m y hm hum n hny=> ?_;obtain⟨h2,h3⟩:=hothers m y hm hum n hny;exact zHQ h2 rfl h2.2
   unfold ze3 at hcx
   split at hcx
   ·cases hcx
   ·rename_i op hop'
    split at hcx
    ·cases hcx
     simp [Gd] at hg
    ·rename_i j b hgd;obtain⟨t,ht,hcx⟩:=zabr.1 hcx
     cases hcx
     unfold Gd at hg;simp only at hg
     split at hg
     ·rename_i c hc;have hyl:yielded ops a.tmps j=some c:=by
       obtain⟨u,h1,h2⟩:=hr.env t _ (zav hc);have:=h2.bool_inv;subst this;have hlt:t<1000000:=by
        obtain⟨o',ho',ht'⟩:=zabp.1 ht;exact zaco (hd o' (by have:=(zacl.1 ho');obtain⟨q,rfl⟩:=this;simp) t ht') C.le
       simp only[zeu,zabo hlt] at h1;simp [yielded,ht,h1]
      have hw:Region.wanted o (yielded ops a.tmps)=(c==b):=by simp [Region.wanted,hgd,hyl]
      have:(c==b)=false:=by simpa using hg
      rw[zabn (by rw[hw,this];simp)];exact hnext _ _ _ _ _ rfl (hr.putO ztS (hd _ hmem))
     ·rename_i hc;have hyl:yielded ops a.tmps j=none:=by
       obtain⟨u,h1,h2⟩:=hr.env t _ (zav hc);have:=h2.tup0_inv;subst this;have hlt:t<1000000:=by
        obtain⟨o',ho',ht'⟩:=zabp.1 ht;exact zaco (hd o' (by have:=(zacl.1 ho');obtain⟨q,rfl⟩:=this;simp) t ht') C.le
       simp only[zeu,zabo hlt] at h1;simp [yielded,ht,h1]
      have hw:Region.wanted o (yielded ops a.tmps)=false:=by simp [Region.wanted,hgd,hyl]
      rw[zabn (by rw[hw];simp)];exact hnext _ _ _ _ _ rfl (hr.putO ztS (hd _ hmem))
     ·cases hg
theorem Rel.drawn{S:St}{a:Act}{w:World}{ι:Inj}{R:Nat->Prop}(h:Rel C S a w ι R)(n:Nat):Rel C S a { w with drawn:=n } ι R:=by
 have hm:∀ {x:AV} {u:Value},VA w R ι (mark S.heap) x u->VA { w with drawn:=n } R ι (mark S.heap) x u:=fun hv=>
  hv.mono (fun _ h=>h) (fun _ _=>rfl) fun o _=>Step.same fun _ _ _=>rfl
 refine { h with os:=h.os,tape:=h.tape,output:=h.output,env:=fun t x hx=> ?_,heap:=fun o ob ho=> ?_ }
 ·obtain⟨u,h1,h2⟩:=h.env t x hx;exact⟨u,h1,hm h2⟩
 ·cases h.heap o ob ho with
  | row h1 h2 h3 h4 h5 h6 h7=>exact .row h1 h2 h3 h4 h5 h6 fun i e he j x hx=>let ⟨k1,q,k2,k3⟩:=h7 i e he j x hx;⟨k1,q,k2,hm k3⟩
  | acc h1 h2 h3 h4 h5 h6=>exact .acc h1 h2 h3 h4 h5 h6
  | accN h1=>exact .accN h1
  | frz h=>exact .frz h
  | mp h1 h2 h3 h4 h5 h6=>exact .mp h1 h2 h3 h4 h5 fun i k x hi=>let ⟨e,k1,k2,k3⟩:=h6 i k x hi;⟨e,k1,k2,k3.mono_v (fun _ h=>h) fun _ _=>rfl⟩
theorem zUb (hF:FOK P F) {hs:zn} {ops:Array Oper} {l:List zK} {S':St} {Q:Exit->Act->World->Prop} {S:St} {a:Act} {w:World} {ι:Inj} {R:Nat->Prop} {id:Nat} (hl:ops.toList.mapM (ze3 P hs ops)=some l)
    (hok:(P.follows .mixedOrders&&zGR ops l)=true) (hd:∀o∈ops.toList,∀d,o.dst=some d->d<C.n) (hQ:∀a w ι R,Rel C S' a w ι R->Q .normal a w)
    (h:zfQ F l ((List.range ops.size).map (zgO ops)) S=some S') (hr:Rel C S a w ι R):(Code.region id ops true).wp P Q a w:=by
 unfold zfQ at h
 split at h
 rotate_left
 ·cases h
 rename_i hpre;simp only[zabH] at hpre;obtain⟨⟨h1,h2⟩,h3⟩:=hpre;have h4:=h;simp only[zabH] at hok;obtain⟨hm,hdk⟩:=hok;have hlen:l.length=ops.size:=by have:=(zeT hl).1;simpa using this
 have hx:∀j,j<ops.size->∃o x,ops[j]? = some o/\l[j]? = some x/\(∀e∈o.after,Region.binds .any e=true->e.on<j)/\(∀k∈zgO ops j,∃y,l[k]? = some y/\ziv y x=true)/\x.op.cleanB=true/\
     zt7 l ops.size j x=true:=by
  intro j hj;have:=zabO.1 hdk j (by simpa using hj);have ho:ops[j]? = some ops[j]:=zad6 hj;have hy:l[j]? = some (l[j]'(by omega)):=zabx _;refine⟨_,_,ho,hy,?_⟩;rw[ho,hy] at this;simp only[zabH] at this;obtain⟨⟨⟨c1,c2⟩,c3⟩,c4⟩:=this;refine⟨fun e he hb=> ?_,fun k hk=> ?_,c3,c4⟩
  ·have:=zabO.1 c1 e (by simpa using he);simpa [hb] using this
  ·have:=zabO.1 c2 k hk
   split at this
   ·rename_i y hy';exact⟨y,hy',this⟩
   ·cases this
 have hclean:∀x∈l,x.op.cleanB=true:=fun x hmx=>by
  obtain⟨j,hj⟩:=zab6 hmx;have hlt:=(zabB.1 hj).1;obtain⟨o,x',_,h6,_,_,h7,_⟩:=hx j (by omega);rw[hj] at h6;cases h6;exact h7
 obtain⟨ps,hlex,hps,hclash⟩:=zVo hF l _ [] S S' hclean h4
 let pl:Nat->List Nat×List Nat:=fun i=>(ps[i]?).getD ([],[])
 have hE:=hlex.nodup h1 h2;refine wp_region_any hm (ze0.sound (C:=C) (l:=l) (pl:=pl) (E:=S') hF hl hd ?_ (fun S1 a' w' ι' R' hs hr'=>hQ _ _ _ _ (hr'.same hs hE.1 hE.2)) _ _ _ _ _ _ _ ?_ (hr.drawn _) ?_)
 ·intro i x hi n hn j y hj hji hny;have hlt:=(zabB.1 hi).1;have hlt':=(zabB.1 hj).1;obtain⟨o,x',_,h6,_,_,_,h8⟩:=hx i (by omega);rw[hi] at h6;cases h6;obtain⟨o',y',_,h6',_,_,_,h8'⟩:=hx j (by omega);rw[hj] at h6';cases h6';have ne1:x.newNames.isEmpty=false:=by cases hq:x.newNames with|nil=>rw[hq] at hn;cases hn|cons=>rfl
  have ne2:y.newNames.isEmpty=false:=by cases hq:y.newNames with|nil=>rw[hq] at hny;cases hny|cons=>rfl
  simp only[zt7,ne1,ne2,zacH] at h8 h8'
  split at h8
  ·rename_i d hd1
   split at h8'
   ·rename_i d' hd2;simp only[zabH,decide_eq_true_eq] at h8 h8';have h9:=zabO.1 h8.2 j (by simp;omega);rw[hj] at h9;simp only[ne2,zacH,zacj,beq_iff_eq,hji,false_or,hd2,zace,beq_eq_false_iff_ne,ne_eq,Option.some.injEq] at h9;have sub:∀(z:zK) (e m:Nat),z.dst=some e->m∈z.newNames->m=e\/m=e+10000\/m=e+20000\/m=e+30000:=by
     intro z e m he hm;unfold zK.newNames at hm;rw[he] at hm;simp only[zacS] at hm
     split at hm
     ·simpa [fr4] using hm
     ·simpa [fr4] using hm
     ·split at hm
      ·simp at hm;exact .inl hm
      ·cases hm
    have k1:=sub x d n hd1 hn;have k2:=sub y d' n hd2 hny;omega
   ·cases h8'
  ·cases h8
 ·rw[<- hlen];refine zYW (F:=F) ?_ hlen.symm ?_ (fun j o ho e he hb=> ?_) l ps 0 _ S (by simp) (fun j hj=> ?_) (by simp) (by simp) (by omega) (fun i _ hi=> ?_) hlex
  ·intro k listed hk hls hun;obtain⟨o,x,ho,_,h6,_⟩:=hx k (by omega);exact mem_ready.2 ⟨hun,o,ho,fun e he hb=>hls _ (h6 e he hb)⟩
  ·intro k j o x y hkj ho hk hj hno;have hjl:=(zacl.1 ho).1;obtain⟨o',y',ho',hy',_,h7,_⟩:=hx j hjl;rw[ho] at ho';cases ho';rw[hj] at hy';cases hy';have hfree:k∈zgO ops j:=zZC hkj hno;obtain⟨x',hx',hap⟩:=h7 k hfree;rw[hk] at hx';cases hx';refine⟨hap,?_⟩;have hpj:ps[j]? = some (pl j):=by
    have:j<ps.length:=by omega
    simp [pl,this]
   have hpk:ps[k]? = some (pl k):=by
    have:k<ps.length:=by omega
    simp [pl,this]
   have:=hclash j (pl j) hpj;have hfrj:(((List.range ops.size).map (zgO ops))[j]?).getD []=zgO ops j:=by simp [hjl]
   rw[hfrj,zabJ] at this;have:=zabO.1 this k hfree;rw[zadg hkj,hpk] at this;exact this
  ·obtain⟨o',_,ho',_,h6,_⟩:=hx j (zacl.1 ho).1;rw[ho] at ho';cases ho';exact h6 e he hb
  ·simp [pl,show j<ps.length by omega]
  ·rw[Array.getElem?_replicate,zabo (by omega)]
 ·intro i x hi _ n hn;have:=zabO.1 (zabO.1 h3 x (zabK hi)) n hn;simpa [zgE] using this
end Go.Sim
