/-
  Functions.
-/
import Derived.Test.YtjalkkalhdnplaaGreatB6069fd0
import Derived.Orders
import Derived.Deep.LoopGhost
set_option linter.unusedSimpArgs false
set_option linter.unusedVariables false
set_option maxHeartbeats 10000000
set_option maxRecDepth 100000
namespace Go.Sim
open Go (World Value Addr TypeId Act)
variable {P:Program} {C:Ctx}
def zC.reads(x:zC):List Nat:=(x.op.opds.filterMap fun y=>match y with| .t n=>some n| .c _=>none)++(match x.guard with|some (t,_)=>[t]|none=>[])
def zij(x y:zC):Bool:=
 (match x.dst with|some d=> !y.reads.contains d&& !(y.dst==some d)|none=>true)&&(match y.dst with|some d=> !x.reads.contains d|none=>true)
inductive zeK(ops:Array Oper):Nat->Nat->Prop
 | one {j:Nat} {o:Oper} {e:Edge} (ho:ops[j]? = some o) (he:e∈o.after) (hb:Region.binds .any e=true):zeK ops j e.on
 | more {j k:Nat} {o:Oper} {e:Edge} (ho:ops[j]? = some o) (he:e∈o.after) (hb:Region.binds .any e=true) (h:zeK ops e.on k):zeK ops j k
def zqI(o:Oper):List Nat:=(o.after.toList.filter fun e=>Region.binds .any e).map (·.on)
def maskOf(ms:List Nat):List Nat->Nat
 | []=>0
 | d::ds=>(2 ^ d ||| ms.getD d 0) ||| maskOf ms ds
def zf0(l:List Oper):Nat->List Nat
 | 0=>[]
 | n+1=>match l[n]? with
  | some o=>zf0 l n++[maskOf (zf0 l n) (zqI o)]
  | none=>zf0 l n
def zAK(ms:List Nat)(j:Nat):List Nat:=(List.range j).filter fun k=> !(ms.getD j 0).testBit k
def zgo(ops:Array Oper)(j:Nat):List Nat:=zAK (zf0 ops.toList ops.size) j
theorem zHG{ops:Array Oper}{j:Nat}{o:Oper}(ho:ops[j]? = some o){d:Nat}(hd:d∈zqI o):zeK ops j d:=by
 obtain⟨e,he,rfl⟩:=zY0.1 hd;obtain⟨he,hb⟩:=z0y.1 he;exact .one ho (by simpa using he) hb
theorem zHF{ops:Array Oper}{j k:Nat}{o:Oper}(ho:ops[j]? = some o){d:Nat}(hd:d∈zqI o)(h:zeK ops d k):zeK ops j k:=by
 obtain⟨e,he,rfl⟩:=zY0.1 hd;obtain⟨he,hb⟩:=z0y.1 he;exact .more ho (by simpa using he) hb h
theorem zRa{ms:List Nat}{k:Nat}:∀ {ds:List Nat},(maskOf ms ds).testBit k=true->∃d∈ds,d=k\/(ms.getD d 0).testBit k=true:=by
 intro ds
 induction ds with
 | nil=>intro h;simp [maskOf] at h
 | cons d ds ih=>
  intro h;simp only[maskOf,Nat.testBit_or,zZM,Nat.testBit_two_pow,decide_eq_true_eq] at h
  rcases h with (h|h)|h
  ·exact⟨d,.head _,.inl h⟩
  ·exact⟨d,.head _,.inr h⟩
  ·obtain⟨d',h1,h2⟩:=ih h;exact⟨d',.tail _ h1,h2⟩
theorem zRb{ops:Array Oper}:∀n,(zf0 ops.toList n).length=min n ops.size/\∀j k,((zf0 ops.toList n).getD j 0).testBit k=true->zeK ops j k:=by
 intro n
 induction n with
 | zero=>exact⟨by simp [zf0],fun j k h=>by simp [zf0] at h⟩
 | succ n ih=>
  simp only[zf0]
  split
  ·rename_i o ho;have hn:n<ops.size:=by
    have:=(zY7.1 ho).1;simpa using this
   have ho':ops[n]? = some o:=by simpa using ho
   refine⟨by rw[zYZ,ih.1];simp;omega,fun j k h=> ?_⟩;rw[zZw,List.getElem?_append] at h
   split at h
   ·exact ih.2 j k (by rw[zZw];exact h)
   ·rename_i hj;have hl:(zf0 ops.toList n).length=n:=by rw[ih.1];omega
    by_cases hj2:j=n
    ·subst hj2;rw[hl,z05] at h;simp only[z0v,z0s] at h;obtain⟨d,hd,h1⟩:=zRa h
     rcases h1 with rfl|h1
     ·exact zHG ho' hd
     ·exact zHF ho' hd (ih.2 d k h1)
    ·rw[z0F (by simp;omega)] at h;simp at h
  ·rename_i ho;have hn:ops.size<=n:=by
    rw[List.getElem?_eq_none_iff] at ho;simpa using ho
   exact⟨by rw[ih.1];omega,ih.2⟩
theorem zRe{ops:Array Oper}{j k:Nat}(hkj:k<j)(hno:¬zeK ops j k):k∈zgo ops j:=by
 unfold zgo zAK;simp only[z0y,zZJ,hkj,zZZ,zZL]
 cases h:((zf0 ops.toList ops.size).getD j 0).testBit k with
 | false=>rfl
 | true=>exact absurd ((zRb _).2 j k h) hno
def AOp.cleanB(op:AOp):Bool:=
 (op.opds.all fun y=>match y with| .t _=>true| .c x=>x.objs.isEmpty)&&
 (match op with
  | .alloc z=>z.objs.isEmpty
  | .build z _=>(AV.objsL z).isEmpty
  | .bsl _ _ z _=>z.objs.isEmpty
  | .mks _ z _ _=>z.objs.isEmpty
  | _=>true)
def zC.newNames(x:zC):List Nat:=
 match x.op with
 | .call _ _ _=>fr4 (x.dst.getD 0)
 | .callv _ _ _=>fr4 (x.dst.getD 0)
 | op=>if op.news then [x.dst.getD 0] else []
def zpP(l:List zC)(n j:Nat)(x:zC):Bool:=
 x.newNames.isEmpty||(match x.dst with
  | some d=>decide (d<10000)&&(List.range n).all fun k=>k==j||match l[k]? with|some y=>y.newNames.isEmpty|| !(y.dst==some d)|none=>false
  | none=>false)
def zyQ(ops:Array Oper)(l:List zC):Bool:=
 (List.range ops.size).all fun j=>
  match ops[j]?,l[j]? with
  | some o,some x=>
   (o.after.toList.all fun e=> !Region.binds .any e||decide (e.on<j))&&
   ((zgo ops j).all fun k=>match l[k]? with|some y=>zij y x|none=>false)&&
   x.op.cleanB&&zpP l ops.size j x
  | _,_=>false
theorem zpw{w:World}{R:Nat->Prop}{ι:Inj}{mk:Nat->Option Nat}:VA w R ι mk (.d (.tup [])) Go.undef:= .d (.tup (vs:=[]) rfl fun i c u h=>by simp at h)
theorem VA.tup0_inv{w:World}{R:Nat->Prop}{ι:Inj}{mk:Nat->Option Nat}{u:Value}(h:VA w R ι mk (.d (.tup [])) u):u= .tuple #[]:=by
 cases h with
 | d h=>
  cases h with
  | tup hl=>have:=z2f hl;subst this;rfl
def zgN(o:Nat)(S:St):Prop:=zaV o S.env=false/\zam o S.heap=false
def shp:Option Obj->Option (List Nat)
 | some (.row es)=>some (es.map AV.size)
 | _=>none
def zas:List Nat->List Nat
 | []=>[]
 | o::l=>(2 * o)::(2 * o+1)::zas l
theorem zh9{o:Nat}{l:List Nat}(h:o∈l):2 * o∈zas l:=by
 induction l with
 | nil=>cases h
 | cons x l ih=>
  simp only[zas]
  cases h with
  | head=>exact .head _
  | tail _ h=>exact .tail _ (.tail _ (ih h))
theorem ztM{o:Nat}{l:List Nat}(h:o∈l):2 * o+1∈zas l:=by
 induction l with
 | nil=>cases h
 | cons x l ih=>
  simp only[zas]
  cases h with
  | head=>exact .tail _ (.head _)
  | tail _ h=>exact .tail _ (.tail _ (ih h))
theorem zX2{t:Nat}{l:List Nat}(h:t∈zas l):∃o∈l,t=2 * o\/t=2 * o+1:=by
 induction l with
 | nil=>cases h
 | cons x l ih=>
  simp only[zas,zZx] at h
  rcases h with h|h|h
  ·exact⟨x,.head _,.inl h⟩
  ·exact⟨x,.head _,.inr h⟩
  ·obtain⟨o,h1,h2⟩:=ih h;exact⟨o,.tail _ h1,h2⟩
theorem zEl{a b:List Nat}(h:∀o∈a,o∈b):∀t∈zas a,t∈zas b:=by
 intro t ht;obtain⟨o,h1,h2⟩:=zX2 ht
 rcases h2 with rfl|rfl
 ·exact zh9 (h o h1)
 ·exact ztM (h o h1)
structure zcY(x:zC)(Fo:List Nat)(S S2:St):Prop where
 env:∀t∈x.reads,look t S2.env=look t S.env
 heap:∀o,2 * o∈Fo->look o S2.heap=look o S.heap
 shape:∀o,2 * o+1∈Fo->shp (look o S2.heap)=shp (look o S.heap)
theorem zcY.ev{x:zC}{Fo:List Nat}{S S2:St}(h:zcY x Fo S S2):∀y∈x.op.opds,y.ev S2.env=y.ev S.env:=by
 intro y hy
 cases y with
 | c v=>rfl
 | t n=>
  simp only[Opd.ev];rw[h.env n];simp only[zC.reads,zZl,List.mem_filterMap];exact .inl ⟨_,hy,rfl⟩
structure zkV(F:zaO)(x:zC)(S:St)(v:AV)(δ:zf)(Fo W:List Nat):Prop where
 sub:∀o ob,(o,ob)∈δ->2 * o∈W
 keep:∀o ob,(o,ob)∈δ->2 * o+1∈W\/shp (some ob)=shp (look o S.heap)
 subF:∀o∈W,o∈Fo
 same:∀S2,zcY x Fo S S2->(∀n∈x.newNames,zgN n S2)->
  step F S2.env S2.heap (x.dst.getD 0) x.op=some (v,zag δ S2.heap)/\
  (∀o,zgN o S2->o∉x.newNames->v.refs o=false/\zam o (zag δ S2.heap)=false)
variable {F:zaO}
def ziv(a b:List Nat):Bool:=a.all fun o=> !b.contains o
def ziH(p q:List Nat×List Nat):Bool:=ziv p.2 q.1&&ziv q.2 p.1
def Gd(x:zC)(S:St):Option Bool:=
 match x.guard with
 | none=>some true
 | some (t,b)=>match look t S.env with|some (.d (.bool c))=>some (c==b)|some (.d (.tup []))=>some false|_=>none
def Y(F:zaO)(x:zC)(S:St)(v:AV)(δ:zf)(p:List Nat×List Nat):Prop:=
 (Gd x S=some true/\zkV F x S v δ p.1 p.2)\/(Gd x S=some false/\v= .d (.tup [])/\δ=[])
def ap(x:zC)(S:St)(v:AV)(δ:zf):St:=St.put ⟨S.env,zag δ S.heap⟩ x.dst v
theorem zcY.gd{x:zC}{Fo:List Nat}{S S2:St}(h:zcY x Fo S S2):Gd x S2=Gd x S:=by
 unfold Gd
 cases hg:x.guard with
 | none=>rfl
 | some p=>
  obtain⟨t,b⟩:=p;simp only[];rw[h.env t (by simp [zC.reads,hg])]
theorem zcY.trans{x:zC}{Fo:List Nat}{S S2 S3:St}(h:zcY x Fo S S2)(h':zcY x Fo S2 S3):zcY x Fo S S3:=
 ⟨fun t ht=>(h'.env t ht).trans (h.env t ht),fun o ho=>(h'.heap o ho).trans (h.heap o ho),fun o ho=>(h'.shape o ho).trans (h.shape o ho)⟩
theorem Y.agree{x:zC}{S S2:St}{v:AV}{δ:zf}{p:List Nat×List Nat}(h:Y F x S v δ p)(ha:zcY x p.1 S S2):Y F x S2 v δ p:=by
 rcases h with ⟨h1,h2⟩|⟨h1,h2,h3⟩
 ·exact .inl ⟨ha.gd.trans h1,h2.sub,fun o ob ho=>(h2.keep o ob ho).imp id fun h=>by rw[ha.heap o (h2.subF _ (h2.sub o ob ho))];exact h,h2.subF,fun S3 h3 h4=>h2.same S3 (ha.trans h3) h4⟩
 ·exact .inr ⟨ha.gd.trans h1,h2,h3⟩
theorem Y.sub{x:zC}{S:St}{v:AV}{δ:zf}{p:List Nat×List Nat}(h:Y F x S v δ p):∀o ob,(o,ob)∈δ->2 * o∈p.2/\2 * o∈p.1:=by
 rcases h with ⟨h1,h2⟩|⟨h1,h2,rfl⟩
 ·exact fun o ob ho=>⟨h2.sub o ob ho,h2.subF _ (h2.sub o ob ho)⟩
 ·exact fun o ob ho=>nomatch ho
theorem Y.keep{x:zC}{S:St}{v:AV}{δ:zf}{p:List Nat×List Nat}(h:Y F x S v δ p):∀o ob,(o,ob)∈δ->2 * o+1∈p.2\/shp (some ob)=shp (look o S.heap):=by
 rcases h with ⟨h1,h2⟩|⟨h1,h2,rfl⟩
 ·exact h2.keep
 ·exact fun o ob ho=>nomatch ho
def Same(S S':St):Prop:=(∀t,look t S.env=look t S'.env)/\(∀o,look o S.heap=look o S'.heap)
theorem Same.agree{S S':St}(h:Same S S')(x:zC)(Fo:List Nat):zcY x Fo S S':=⟨fun t _=>(h.1 t).symm,fun o _=>(h.2 o).symm,fun o _=>by rw[h.2 o]⟩
theorem Same.symm{S S':St}(h:Same S S'):Same S' S:=⟨fun t=>(h.1 t).symm,fun o=>(h.2 o).symm⟩
theorem Same.trans{S S' S'':St}(h:Same S S')(h':Same S' S''):Same S S'':=⟨fun t=>(h.1 t).trans (h'.1 t),fun o=>(h.2 o).trans (h'.2 o)⟩
theorem zQP{S:St}{dst:Option Nat}{v:AV}{t:Nat}:look t (S.put dst v).env=if dst=some t then some v else look t S.env:=by
 cases dst with
 | none=>simp [St.put]
 | some d=>
  simp only[St.put,zCi,Option.some.injEq]
  by_cases h:t=d
  ·simp [h]
  ·rw[zYP h,zYP (Ne.symm h)]
theorem zO5{S:St}{dst:Option Nat}{v:AV}:(S.put dst v).heap=S.heap:=by cases dst<;>rfl
theorem zhM{x:zC}{S:St}{v:AV}{δ:zf}{t:Nat}:look t (ap x S v δ).env=if x.dst=some t then some v else look t S.env:=zQP
theorem zfj{x:zC}{S:St}{v:AV}{δ:zf}:(ap x S v δ).heap=zag δ S.heap:=zO5
theorem Same.ap{S S':St}(h:Same S S')(x:zC)(v:AV)(δ:zf):Same (ap x S v δ) (ap x S' v δ):=by
 refine⟨fun t=> ?_,fun o=> ?_⟩
 ·rw[zhM,zhM,h.1 t]
 ·rw[zfj,zfj,zdr,zdr,h.2 o]
theorem zsn{α:Type}{o:Nat}{l:List (Nat×α)}(h:∀ob,(o,ob)∉l):look o l=none:=by
 cases hh:look o l with
 | none=>rfl
 | some ob=>exact absurd (zar hh) (h ob)
theorem zFE{x y:zC}(h:zij x y=true):(∀d,x.dst=some d->d∉y.reads/\y.dst≠some d)/\(∀d,y.dst=some d->d∉x.reads):=by
 refine⟨fun d hd=> ?_,fun d hd=> ?_⟩<;>simp [zij,hd] at h
 ·exact h.1
 ·exact h.2
theorem znr{a b:List Nat}(h:ziv a b=true){o:Nat}(ha:o∈a)(hb:o∈b):False:=by
 have:=zZi.1 h o ha;simp [hb] at this
theorem swap{x y:zC}{S:St}{v u:AV}{δ ε:zf}{p q:List Nat×List Nat}(hx:Y F x S v δ p)(hy:Y F y (ap x S v δ) u ε q)(ha:zij x y=true)(hi:ziH p q=true):
    Y F y S u ε q/\Y F x (ap y S u ε) v δ p/\Same (ap y (ap x S v δ) u ε) (ap x (ap y S u ε) v δ):=by
 obtain⟨h1,h2⟩:=zFE ha;simp only[ziH,zY6] at hi;have e1:∀o,2 * o∈q.1->look o (zag δ S.heap)=look o S.heap:=fun o ho=>by
  rw[zdr,zsn fun ob hob=>znr hi.1 (hx.sub o ob hob).1 ho];rfl
 have e2:∀o,2 * o∈p.1->look o (zag ε S.heap)=look o S.heap:=fun o ho=>by
  rw[zdr,zsn fun ob hob=>znr hi.2 (hy.sub o ob hob).1 ho];rfl
 have sh:∀ {z:zC} {v':AV} {δ':zf} {p' q':List Nat×List Nat},Y F z S v' δ' p'->ziv p'.2 q'.1=true->∀o,2 * o+1∈q'.1->shp (look o (zag δ' S.heap))=shp (look o S.heap):=by
  intro z v' δ' p' q' hz hd o ho;rw[zdr]
  cases hl:look o δ' with
  | none=>rfl
  | some ob=>
   rcases hz.keep o ob (zar hl) with h|h
   ·exact (znr hd h ho).elim
   ·exact h
 have hy':Y F y S u ε q:=hy.agree ⟨fun t ht=>by
     rw[zhM,zYP fun hd=>(h1 t hd).1 ht],fun o ho=>by rw[zfj,e1 o ho],fun o ho=>by rw[zfj,sh hx hi.1 o ho]⟩
 refine⟨hy',hx.agree ⟨fun t ht=>by rw[zhM,zYP fun hd=>h2 t hd ht],fun o ho=>by rw[zfj,e2 o ho],fun o ho=>by rw[zfj,sh hy' hi.2 o ho]⟩,fun t=> ?_,fun o=> ?_⟩
 ·rw[zhM,zhM,zhM,zhM]
  by_cases hd:x.dst=some t
  ·rw[zYQ hd,zYQ hd,zYP (h1 t hd).2]
  ·rw[zYP hd,zYP hd]
 ·rw[zfj,zfj,zfj,zfj,zdr,zdr,zdr,zdr]
  cases hd:look o δ with
  | none=>simp
  | some ob=>
   have hm:=zar hd;rw[zsn (l:=ε) fun ob' hob=>znr hi.1 (hx.sub o ob hm).1 (hy.sub o ob' hob).2];rfl
def ze8(F:zaO)(ops:Array Oper)(l:List zC)(pl:Nat->List Nat×List Nat)(E:St):Nat->Array Bool->St->Prop
 | 0,listed,S=>Region.ready .any ops listed=[]/\Same S E
 | n+1,listed,S=>(Region.ready .any ops listed=[]->Same S E)/\
  ∀i∈Region.ready .any ops listed,∃x v δ,l[i]? = some x/\Y F x S v δ (pl i)/\ze8 F ops l pl E n (listed.setIfInBounds i true) (ap x S v δ)
variable {ops:Array Oper} {l:List zC} {pl:Nat->List Nat×List Nat} {E:St}
theorem ze8.same:∀ {n:Nat} {listed:Array Bool} {S S':St},ze8 F ops l pl E n listed S->Same S S'->ze8 F ops l pl E n listed S'
 | 0,_,_,_,h,hs=>⟨h.1,hs.symm.trans h.2⟩
 | n+1,_,_,_,h,hs=>⟨fun h0=>hs.symm.trans (h.1 h0),fun i hi=>by
     obtain⟨x,v,δ,h1,h2,h3⟩:=h.2 i hi;exact⟨x,v,δ,h1,h2.agree (hs.agree _ _),h3.same (hs.ap x v δ)⟩⟩
def zfI(ops:Array Oper)(listed:Array Bool):Prop:=∀j o,ops[j]? = some o->listed.getD j false=true->∀e∈o.after,Region.binds .any e=true->listed.getD e.on false=true
theorem zfI.path{listed:Array Bool}(h:zfI ops listed){j k:Nat}(hp:zeK ops j k):listed.getD j false=true->listed.getD k false=true:=by
 induction hp with
 | one ho he hb=>exact fun hj=>h _ _ ho hj _ he hb
 | more ho he hb _ ih=>exact fun hj=>ih (h _ _ ho hj _ he hb)
theorem zfI.ready{listed:Array Bool}(h:zfI ops listed){j k:Nat}{o:Oper}(ho:ops[j]? = some o)(hall:∀e∈o.after,Region.binds .any e=true->listed.getD e.on false=true)(hp:zeK ops j k):listed.getD k false=true:=by
 cases hp with
 | one ho' he hb=>rw[ho] at ho';cases ho';exact hall _ he hb
 | more ho' he hb hp=>rw[ho] at ho';cases ho';exact h.path hp (hall _ he hb)
theorem zfI.set{listed:Array Bool}(h:zfI ops listed){j:Nat}{o:Oper}(ho:ops[j]? = some o)(hall:∀e∈o.after,Region.binds .any e=true->listed.getD e.on false=true):zfI ops (listed.setIfInBounds j true):=by
 have mono:∀i,listed.getD i false=true->(listed.setIfInBounds j true).getD i false=true:=fun i hi=>by
  rw[z0A] at hi ⊢;rw[z1s]
  split
  ·split
   ·rfl
   ·rename_i h1 h2;subst h1;rw[z1t (by omega)] at hi;simp at hi
  ·exact hi
 intro i oi hoi hi e he hb;refine mono _ ?_
 by_cases hij:j=i
 ·subst hij;rw[ho] at hoi;cases hoi;exact hall e he hb
 ·refine h i oi hoi ?_ e he hb;rw[z0A] at hi ⊢
  rwa [z1s,zYP hij] at hi
theorem ze8.first{k:Nat}{x:zC}{v:AV}{δ:zf}(hk:l[k]? = some x):
    ∀(n:Nat) (listed:Array Bool) (S:St),
     zfI ops listed->(∀j o y,ops[j]? = some o->l[j]? = some y->j≠k->listed.getD j true=false->¬zeK ops j k->zij x y=true/\ziH (pl k) (pl j)=true)->
     k∈Region.ready .any ops listed->Y F x S v δ (pl k)->ze8 F ops l pl E n (listed.setIfInBounds k true) (ap x S v δ)->ze8 F ops l pl E (n+1) listed S:=by
 intro n
 induction n with
 | zero=>
  intro listed S _ _ hr hy H;refine⟨fun h=>(by rw[h] at hr;cases hr),fun j hj=> ?_⟩
  by_cases hjk:j=k
  ·subst hjk;exact⟨x,v,δ,hk,hy,H⟩
  ·have:=ready_mono hj hjk;rw[H.1] at this
   cases this
 | succ n ih=>
  intro listed S hcl hfree hr hy H;refine⟨fun h=>(by rw[h] at hr;cases hr),fun j hj=> ?_⟩
  by_cases hjk:j=k
  ·subst hjk;exact⟨x,v,δ,hk,hy,H⟩
  ·obtain⟨y,u,ε,h1,h2,h3⟩:=H.2 j (ready_mono hj hjk);obtain⟨hjun,oj,hoj,hall⟩:=mem_ready.1 hj;have hnot:¬zeK ops j k:=fun hp=>by
    have h1:=hcl.ready hoj hall hp;have h0:=(mem_ready.1 hr).1
    rcases z0U k listed.size with h'|h'
    ·simp [h'] at h0 h1;rw[h0] at h1;cases h1
    ·simp [z1t h'] at h1
   obtain⟨hap,hin⟩:=hfree j oj y hoj h1 hjk hjun hnot;obtain⟨s1,s2,s3⟩:=swap hy h2 hap hin;refine⟨y,u,ε,h1,s1,ih _ _ (hcl.set hoj hall) (fun i o z ho hz hik hun hno=>hfree i o z ho hz hik ?_ hno) (ready_mono hr (Ne.symm hjk)) s2 ?_⟩
   ·by_cases hji:j=i
    ·subst hji;exact hjun
    ·rw[getD_set_ne true hji] at hun;exact hun
   ·rw[Array.setIfInBounds_comm _ _ hjk];exact h3.same s3
inductive Lex(F:zaO):List zC->List (List Nat×List Nat)->St->St->Prop
 | nil {S:St}:Lex F [] [] S S
 | cons {x:zC} {l:List zC} {p:List Nat×List Nat} {ps:List (List Nat×List Nat)} {S E:St} {v:AV} {δ:zf} (hy:Y F x S v δ p) (h:Lex F l ps (ap x S v δ) E):Lex F (x::l) (p::ps) S E
theorem zQt (hready:∀(k:Nat) (listed:Array Bool),k<l.length->(∀i,i<k->listed.getD i false=true)->listed.getD k true=false->k∈Region.ready .any ops listed)
    (hsz:ops.size=l.length)
    (hfree:∀(k j:Nat) (o:Oper) (x y:zC),k<j->ops[j]? = some o->l[k]? = some x->l[j]? = some y->¬zeK ops j k->zij x y=true/\ziH (pl k) (pl j)=true)
    (hback:∀(j:Nat) (o:Oper),ops[j]? = some o->∀e∈o.after,Region.binds .any e=true->e.on<j):
    ∀(m:List zC) (ps:List (List Nat×List Nat)) (k:Nat) (listed:Array Bool) (S:St),(∀j,m[j]? = l[k+j]?)->(∀j,j<m.length->ps[j]? = some (pl (k+j)))->k+m.length=l.length->
     listed.size=l.length->(∀i,i<k->listed[i]? = some true)->(∀i,k<=i->i<l.length->listed[i]? = some false)->Lex F m ps S E->ze8 F ops l pl E m.length listed S:=by
 intro m
 induction m with
 | nil=>
  intro ps k listed S hm hp hlen hls h1 h2 h
  cases h
  refine⟨?_,fun _=>rfl,fun _=>rfl⟩;refine List.eq_nil_iff_forall_not_mem.2 fun j hj=> ?_;obtain⟨h3,o,h4,_⟩:=mem_ready.1 hj;have hlt:=(zZT.1 h4).1;simp at hlen;rw[z0A,h1 j (by omega)] at h3;simp at h3
 | cons x m ih=>
  intro ps k listed S hm hp hlen hls h1 h2 h
  cases h with
  | @cons _ _ p ps _ _ v δ hy h=>
   simp only[zYW] at hlen;have hk:l[k]? = some x:=by simpa using (hm 0).symm
   have hpk:p=pl k:=by simpa using hp 0 (by simp)
   subst hpk;have hg:∀i d,listed.getD i d=(listed[i]?).getD d:=fun i d=>z0A ..;refine ze8.first hk m.length listed S (fun j o ho hj e he hb=> ?_) (fun j o y ho hy' hjk hun hno=> ?_) (hready k listed (by omega) (fun i hi=>by rw[hg,h1 i hi];rfl) (by rw[hg,h2 k (zZk _) (by omega)];rfl)) hy ?_
   ·have hjl:j<ops.size:=(zZT.1 ho).1
    rcases z0U j k with hlt|hge
    ·have:=hback j o ho e he hb;rw[hg,h1 e.on (by omega)];rfl
    ·rw[hg,h2 j hge (by omega)] at hj;cases hj
   ·have hjl:j<ops.size:=(zZT.1 ho).1
    rcases z0U j k with hlt|hge
    ·rw[hg,h1 j hlt] at hun;cases hun
    ·exact hfree k j o x y (by omega) ho hk hy' hno
   ·refine ih ps (k+1) _ _ (fun j=>by have:=hm (j+1);simpa [z06,Nat.add_comm 1 j] using this) (fun j hj=>by have:=hp (j+1) (by simp;omega);simpa [z06,Nat.add_comm 1 j] using this) (by omega) (by simp [hls]) (fun i hi=> ?_) (fun i hi hi'=> ?_) h
    ·rw[z1s]
     by_cases hik:k=i
     ·rw[zYQ hik,zYQ (by omega)]
     ·rw[zYP hik];exact h1 i (by omega)
    ·rw[z1s,zYP (by omega)];exact h2 i (by omega) hi'
theorem zpb{x:AV}(h:x.objs=[])(o:Nat):x.refs o=false:=by
 cases hh:x.refs o with
 | false=>rfl
 | true=>have:=zpa x o hh;rw[h] at this;cases this
theorem zlj{op:AOp}(h:op.cleanB=true)(o:Nat):op.clean o/\∀y∈op.opds,∀E,zaV o E=false->(y.ev E).refs o=false:=by
 simp only[AOp.cleanB,zY6] at h;refine⟨?_,fun y hy E hE=> ?_⟩
 ·have h2:=h.2
  cases op with
  | alloc z=>exact zpb (by simpa using h2) o
  | mks n z l c=>exact zpb (by simpa using h2) o
  | bsl len n z ps=>exact zpb (by simpa using h2) o
  | build z ps=>
   intro y hy
   cases hh:y.refs o with
   | false=>rfl
   | true=>
    have:=zi8 z o (AV.refsL_mem hy hh);simp only[z1q] at h2;rw[h2] at this;cases this
  | _=>trivial
 ·have:=zZi.1 h.1 y hy
  cases y with
  | c v=>exact zpb (x:=v) (by simpa using this) o
  | t n=>
   simp only[Opd.ev]
   cases hl:look n E with
   | none=>rfl
   | some v=>exact zmp (zar hl) hE
def zjv(H:zf)(dst:Nat)(ms:List Bool)(args:List AV):List Nat×List Nat:=(zas (zdm H dst ms args).1,zas (zdm H dst ms args).2)
def zkj(l:List Nat):List Nat:=l.map fun o=>2 * o+1
def zjG(l:List Nat):List Nat:=l.map fun o=>2 * o
def zng(H:zf)(dst:Nat)(ms:List Bool)(f:AV)(args:List AV):List Nat×List Nat:=
 match f with
 | .d (.fn _ cs)=>zjv H dst ms (args++cs.map .d)
 | .fn _ cs=>zjv H dst ms (args++cs)
 | _=>([],[])
def AOp.feet(E:Env)(H:zf)(dst:Nat)(op:AOp):List Nat×List Nat:=
 match op with
 | .call _ ms xs=>zjv H dst ms (xs.map (·.ev E))
 | .callv f ms xs=>zng H dst ms (f.ev E) (xs.map (·.ev E))
 | .iad n x i=>(zkj (AOp.foot E dst (.iad n x i)),[])
 | .st n p x=>(zas (AOp.foot E dst (.st n p x)),zjG (AOp.wr E dst (.st n p x)))
 | op=>(zas (op.foot E dst),zas (op.wr E dst))
def feet(x:zC)(S:St):List Nat×List Nat:=x.op.feet S.env S.heap (x.dst.getD 0)
theorem zDq{o:Nat}{xs ys:List AV}:AV.refsL o (xs++ys)=(AV.refsL o xs||AV.refsL o ys):=by
 induction xs with
 | nil=>simp [AV.refsL]
 | cons x xs ih=>simp [AV.refsL,ih,Bool.or_assoc]
theorem zDr{o:Nat}{cs:List D}:AV.refsL o (cs.map .d)=false:=by
 induction cs with
 | nil=>rfl
 | cons x xs ih=>simp [AV.refsL,AV.refs,ih]
theorem zs6{o:Nat}{E:Env}{xs:List Opd}(h:∀y∈xs,(y.ev E).refs o=false):AV.refsL o (xs.map (·.ev E))=false:=by
 induction xs with
 | nil=>rfl
 | cons x xs ih=>simp only[zYU,AV.refsL,h x (.head _),ih fun y hy=>h y (.tail _ hy),Bool.or_self]
theorem zRM{H H':zf}{ng:Bool}{x v:AV}(h:ziW H ng x=some (v,H')):H'=H/\(∀H2,ziW H2 ng x=some (v,H2))/\∀o,v.refs o=false:=by
 unfold ziW at h ⊢
 split at h
 ·cases h;exact⟨rfl,fun _=>rfl,fun _=>rfl⟩
 ·split at h
  ·rename_i hs;cases h;exact⟨rfl,fun _=>rfl,fun _=>rfl⟩
  ·cases h
theorem zDQ{x:Option Obj}{l:List Nat}(h:shp x=some l):∃es,x=some (.row es)/\es.map AV.size=l:=by
 unfold shp at h
 split at h
 ·rename_i es;cases h;exact⟨es,rfl,rfl⟩
 ·cases h
theorem zPb{H H2:zf}{n:Nat}{k:Int}{x:AV}(h:∀o∈x.objs,shp (look o H2)=shp (look o H)):zcM H2 n k x=zcM H n k x:=by
 cases x with
 | osl o off len=>
  have ho:=h o (by simp [AV.objs]);simp only[zcM];generalize look o H=a at ho ⊢;generalize look o H2=b at ho ⊢
  split
  ·cases hb:shp b with
   | none=>
    rw[hb] at ho;have none_of:∀ {x:Option Obj},shp x=none->(∀es,x≠some (.row es)):=fun hx es e=>by subst e;cases hx
    split
    ·rename_i es;exact absurd rfl (none_of hb es)
    ·split
     ·rename_i es;exact absurd rfl (none_of ho.symm es)
     ·rfl
   | some l=>
    rw[hb] at ho;obtain⟨es,rfl,h1⟩:=zDQ hb;obtain⟨fs,rfl,h2⟩:=zDQ ho.symm;have hg:∀i:Nat,(es[i]?).map AV.size=(fs[i]?).map AV.size:=fun i=>by rw[<- zZa, <- zZa,h1,h2]
    have:=hg (off+k.toNat)
    cases he:es[off+k.toNat]? with
    | none=>
     rw[he] at this
     cases hf:fs[off+k.toNat]? with
     | none=>simp [he,hf]
     | some q=>rw[hf] at this;simp at this
    | some e=>
     rw[he] at this;obtain⟨e',h3,h4⟩:=zYT.1 this.symm;simp [he,h3,h4]
  ·rfl
 | d y=>cases y<;>rfl
 | _=>rfl
theorem zWZ{E:Env}{H H':zf}{dst n:Nat}{q y:Opd}{v:AV}(h:zn E H dst (.st n q y)=some (v,H')):∃δ,zaZ (.st n q y) E H dst v H' δ/\∀o ob,(o,ob)∈δ->shp (some ob)=shp (look o H):=by
 simp only[zn] at h
 split at h
 ·rename_i o i off hp
  split at h
  ·rename_i hc
   split at h
   ·rename_i es hes;obtain⟨e,h1,h2⟩:=zYR.1 h;obtain⟨e',h3,h4⟩:=zYT.1 h2
    cases h4
    have hmem:o∈(AOp.st n q y).foot E dst:=by
     simp only[AOp.foot,AOp.looks,if_true,zZl];exact .inl (zdV.2 ⟨q,by simp [AOp.opds],by rw[hp];simp [AV.objs]⟩)
    refine⟨[(o,.row (es.set i e'))],⟨rfl,?_,fun E2 H2 he hh _=> ?_⟩,fun o' ob ho=> ?_⟩
    ·intro q ob hq;simp only[zZt,Prod.mk.injEq] at hq;rw[hq.1];simp [AOp.wr,hp,AV.objs]
    ·simp only[zn,he q (by simp [AOp.opds]),he y (by simp [AOp.opds]),hp,hh o hmem,hes];rw[zYQ hc,h1];simp [h3,zag]
    ·simp only[zZt,Prod.mk.injEq] at ho;obtain⟨rfl,rfl⟩:=ho;rw[hes];have hsz:=(zC2 h3).2.1;simp only[shp,zZ7,Option.some.injEq];refine List.ext_getElem? fun j=> ?_;rw[z0O]
     split
     ·rename_i hij;subst hij
      split
      ·rw[zZa,h1,hsz];rfl
      ·rename_i hlt;simp at hlt;simp [hlt]
     ·rfl
   ·cases h
  ·cases h
 ·cases h
theorem zXd(hF:FOK P F){x:zC}{S:St}(hcl:x.op.cleanB=true){v:AV}{H':zf}(h:step F S.env S.heap (x.dst.getD 0) x.op=some (v,H')):∃δ,zkV F x S v δ (feet x S).1 (feet x S).2/\H'=zag δ S.heap:=by
 have call:∀(f:FuncId) (ms:List Bool) (args:List AV),feet x S=zjv S.heap (x.dst.getD 0) ms args->x.newNames=fr4 (x.dst.getD 0)->
     (∀S2,zcY x (feet x S).1 S S2->step F S2.env S2.heap (x.dst.getD 0) x.op=zgi S2.heap (zbh F S2.env S2.heap (x.dst.getD 0) ms f args))->
     (∀o S2,zcY x (feet x S).1 S S2->zgN o S2->AV.refsL o args=false)->
     zgi S.heap (zbh F S.env S.heap (x.dst.getD 0) ms f args)=some (v,H')->∃δ,zkV F x S v δ (feet x S).1 (feet x S).2/\H'=zag δ S.heap:=by
  intro f ms args hfeet hnn hst hno h;obtain⟨⟨v',δ⟩,h1,h2⟩:=zYT.1 h
  cases h2
  obtain⟨n1,n2,n3⟩:=zGg hF h1;refine⟨δ,⟨fun o ob ho=>by rw[hfeet];exact zh9 (n1 _ ho),fun o ob ho=> .inl (by rw[hfeet];exact ztM (n1 _ ho)),by rw[hfeet];exact zEl zGk,fun S2 ha hf=> ?_⟩,rfl⟩;refine⟨?_,fun o ho hn=> ?_⟩
  ·rw[hst S2 ha,zGf hF h1 (fun o ho=>ha.heap o (by rw[hfeet];exact zh9 ho)) (fun n hn=>hf n (by rw[hnn];exact hn))];rfl
  ·have hnot:o∉(zdm S.heap (x.dst.getD 0) ms args).2:=zGj (fun q hq=>ha.heap q (by rw[hfeet];exact zh9 hq)) (hno o S2 ha ho) ho.2 (by rw[<- hnn];exact hn);refine⟨?_,zs5 (fun p hp=> ?_) ho.2⟩
   ·show v'.refs o=false
    cases hr:v'.refs o with
    | false=>rfl
    | true=>exact absurd (n2 o hr) hnot
   ·cases hr:p.2.refs o with
    | false=>rfl
    | true=>exact absurd (n3 p hp o hr) hnot
 have simple:step F S.env S.heap (x.dst.getD 0) x.op=zn S.env S.heap (x.dst.getD 0) x.op->(∀E H,step F E H (x.dst.getD 0) x.op=zn E H (x.dst.getD 0) x.op)->feet x S=(zas (x.op.foot S.env (x.dst.getD 0)),zas (x.op.wr S.env (x.dst.getD 0)))->
     (x.newNames=if x.op.news then [x.dst.getD 0] else [])->∃δ,zkV F x S v δ (feet x S).1 (feet x S).2/\H'=zag δ S.heap:=by
  intro e1 e2 hfeet hnn;rw[e1] at h;obtain⟨δ,hl⟩:=zFT h;refine⟨δ,⟨by rw[hfeet];exact fun o ob ho=>zh9 (hl.sub o ob ho),by rw[hfeet];exact fun o ob ho=> .inl (ztM (hl.sub o ob ho)),by rw[hfeet];exact zEl fun o ho=>AOp.wr_foot ho,fun S2 ha hf=> ?_⟩,hl.eq⟩;have hst:=hl.same S2.env S2.heap ha.ev (fun o ho=>ha.heap o (by rw[hfeet];exact zh9 ho)) (fun hnew=>hf _ (by rw[hnn,hnew];simp));refine⟨by rw[e2];exact hst,fun o ho hn=> ?_⟩;obtain⟨c1,c2⟩:=zlj hcl o;exact zpT hst (fun y hy=>c2 y hy _ ho.1) ho.2 c1 fun hnew=>by rw[hnn,hnew] at hn;simpa using hn
 have evs:∀ {xs:List Opd} {S2:St},(∀y∈xs,y∈x.op.opds)->∀o,zgN o S2->∀y∈xs,(y.ev S2.env).refs o=false:=fun hx o ho y hy=>(zlj hcl o).2 y (hx y hy) _ ho.1
 cases hop:x.op with
 | call f ms xs=>
  rw[hop] at h;simp only[step] at h;have hev:∀S2,zcY x (feet x S).1 S S2->xs.map (·.ev S2.env)=xs.map (·.ev S.env):=fun S2 ha=>by
   have:=ha.ev;rw[hop] at this;exact zsr this
  refine call f ms (xs.map (·.ev S.env)) (by simp [feet,hop,AOp.feet]) (by simp [zC.newNames,hop]) (fun S2 ha=> ?_) (fun o S2 ha ho=> ?_) h
  ·rw[hop];simp only[step];rw[hev S2 ha]
  ·rw[<- hev S2 ha];exact zs6 (evs (by rw[hop];intro y hy;exact hy) o ho)
 | callv f ms xs=>
  rw[hop] at h;have hev:∀S2,zcY x (feet x S).1 S S2->f.ev S2.env=f.ev S.env/\xs.map (·.ev S2.env)=xs.map (·.ev S.env):=fun S2 ha=>by
   have:=ha.ev;rw[hop] at this;exact⟨this f (by simp [AOp.opds]),z0r fun y hy=>this y (by simp [AOp.opds,hy])⟩
  simp only[step,zgj] at h
  split at h
  ·rename_i g cs hf;refine call g ms (xs.map (·.ev S.env)++cs.map .d) (by simp [feet,hop,AOp.feet,zng,hf]) (by simp [zC.newNames,hop]) (fun S2 ha=> ?_) (fun o S2 ha ho=> ?_) h
   ·rw[hop];simp only[step,zgj];rw[(hev S2 ha).1,(hev S2 ha).2,hf]
   ·rw[zDq,zDr,z04, <- (hev S2 ha).2];exact zs6 (evs (by rw[hop];intro y hy;simp [AOp.opds,hy]) o ho)
  ·rename_i g cs hf;refine call g ms (xs.map (·.ev S.env)++cs) (by simp [feet,hop,AOp.feet,zng,hf]) (by simp [zC.newNames,hop]) (fun S2 ha=> ?_) (fun o S2 ha ho=> ?_) h
   ·rw[hop];simp only[step,zgj];rw[(hev S2 ha).1,(hev S2 ha).2,hf]
   ·rw[zDq, <- (hev S2 ha).2,zs6 (evs (by rw[hop];intro y hy;simp [AOp.opds,hy]) o ho),zZY];have:=(zlj hcl o).2 f (by rw[hop];simp [AOp.opds]) S2.env ho.1;rw[(hev S2 ha).1,hf] at this;exact this
  ·simp [zgi] at h
 | iad n y i=>
  rw[hop] at h;have hx:feet x S=(zkj (AOp.foot S.env (x.dst.getD 0) (.iad n y i)),[]):=by simp [feet,hop,AOp.feet]
  have h:zn S.env S.heap (x.dst.getD 0) (.iad n y i)=some (v,H'):=h;simp only[zn] at h;obtain⟨k,hk,h⟩:=zYR.1 h
  split at h
  ·rename_i h0;obtain⟨v',hv',h⟩:=zYT.1 h
   cases h
   have hst:∀S2,zcY x (feet x S).1 S S2->step F S2.env S2.heap (x.dst.getD 0) x.op=some (v,S2.heap):=fun S2 ha=>by
    have hev:=ha.ev;rw[hop] at hev ⊢;show zn S2.env S2.heap (x.dst.getD 0) (.iad n y i)=_;simp only[zn,hev y (by simp [AOp.opds]),hev i (by simp [AOp.opds]),hk,zZn];rw[zYQ h0,zPb (H:=S.heap) fun o ho=>ha.shape o ?_,hv']
    ·rfl
    ·rw[hx];refine zY0.2 ⟨o,?_,rfl⟩;simp only[AOp.foot,AOp.looks,if_true,zZl];exact .inl (zdV.2 ⟨y,by simp [AOp.opds],ho⟩)
   refine⟨[],⟨(fun o ob h=>nomatch h),(fun o ob h=>nomatch h),by rw[hx];simp,fun S2 ha _=>⟨hst S2 ha,fun o ho hn=> ?_⟩⟩,rfl⟩;have hq:=hst S2 ha;rw[hop] at hq;obtain⟨c1,c2⟩:=zlj hcl o;rw[hop] at c1 c2;exact zpT (op:= .iad n y i) (dst:=x.dst.getD 0) hq (fun y hy=>c2 y hy _ ho.1) ho.2 c1 (by simp [AOp.news])
  ·cases h
 | st n q y=>
  rw[hop] at h;have hx:feet x S=(zas (AOp.foot S.env (x.dst.getD 0) (.st n q y)),zjG (AOp.wr S.env (x.dst.getD 0) (.st n q y))):=by simp [feet,hop,AOp.feet]
  have h:zn S.env S.heap (x.dst.getD 0) (.st n q y)=some (v,H'):=h;obtain⟨δ,hl,hkeep⟩:=zWZ h;refine⟨δ,⟨fun o ob ho=>by rw[hx];exact zY0.2 ⟨o,hl.sub o ob ho,rfl⟩,fun o ob ho=> .inr (hkeep o ob ho),fun t ht=> ?_,fun S2 ha hf=> ?_⟩,hl.eq⟩
  ·rw[hx] at ht ⊢;obtain⟨o,ho,rfl⟩:=zY0.1 ht;exact zh9 (AOp.wr_foot ho)
  ·have hev:=ha.ev;rw[hop] at hev;have hst:=hl.same S2.env S2.heap hev (fun o ho=>ha.heap o (by rw[hx];exact zh9 ho)) (by simp [AOp.news]);refine⟨by rw[hop];exact hst,fun o ho hn=> ?_⟩;obtain⟨c1,c2⟩:=zlj hcl o;rw[hop] at c1 c2;exact zpT hst (fun y hy=>c2 y hy _ ho.1) ho.2 c1 (by simp [AOp.news])
 | nileq ng y=>
  rw[hop] at h;have hev:∀S2,zcY x (feet x S).1 S S2->y.ev S2.env=y.ev S.env:=fun S2 ha=>by
   have:=ha.ev;rw[hop] at this;exact this y (by simp [AOp.opds])
  simp only[step] at h;obtain⟨rfl,hall,hno⟩:=zRM h;refine⟨[],⟨(fun o ob h=>nomatch h),(fun o ob h=>nomatch h),by simp [feet,hop,AOp.feet,AOp.wr,zas],fun S2 ha _=>⟨?_,fun o ho _=>⟨hno o,ho.2⟩⟩⟩,rfl⟩;rw[hop];simp only[step];rw[hev S2 ha];exact hall _
 | _=>exact simple (by rw[hop];rfl) (by intro E H;rw[hop];rfl) (by simp [feet,hop,AOp.feet]) (by simp [zC.newNames,hop])
end Go.Sim

namespace Go.Sim
open Go (World Value Addr TypeId Act)
variable {P:Program} {C:Ctx} {F:zaO}
theorem zE3{x:zC}{S:St}(h:x.guard=none):Gd x S=some true:=by simp [Gd,h]
theorem ztZ{x:zC}{S:St}{t:Nat}{b c:Bool}(h:x.guard=some (t,b))(hl:look t S.env=some (.d (.bool c))):Gd x S=some (c==b):=by simp [Gd,h,hl]
theorem zE4{x:zC}{S:St}{t:Nat}{b:Bool}(h:x.guard=some (t,b))(hl:look t S.env=some (.d (.tup []))):Gd x S=some false:=by simp [Gd,h,hl]
def zgR(fr:List Nat)(acc:List (List Nat×List Nat))(p:List Nat×List Nat):Bool:=fr.all fun k=>match acc[k]? with|some q=>ziH q p|none=>false
def zpH(fr:List (List Nat))(acc ps:List (List Nat×List Nat)):Prop:=
 ∀j p,ps[j]? = some p->zgR ((fr[j]?).getD []) (acc++ps.take j) p=true
def zdB(F:zaO)(x:zC)(S:St):Option St:=(step F S.env S.heap (x.dst.getD 0) x.op).map fun p=>St.put ⟨S.env,p.2⟩ x.dst p.1
def zdo(F:zaO)(x:zC)(fr:List (List Nat))(acc:List (List Nat×List Nat))(S:St):Option St:=
 if zgR (fr.headD []) acc (feet x S)=true then zdB F x S else none
def zgl(x:zC)(fr:List (List Nat))(acc:List (List Nat×List Nat))(S:St):Option St:=
 if zgR (fr.headD []) acc ([],[])=true then some (S.put x.dst (.d (.tup []))) else none
def zby(F:zaO):List zC->List (List Nat)->List (List Nat×List Nat)->St->Option St
 | [],_,_,S=>some S
 | x::l,fr,acc,S=>
  match x.guard with
  | none=>(zdo F x fr acc S).bind (zby F l fr.tail (acc++[feet x S]))
  | some (t,b)=>
   match look t S.env with
   | some (.d (.bool c))=>if c=b then (zdo F x fr acc S).bind (zby F l fr.tail (acc++[feet x S])) else (zgl x fr acc S).bind (zby F l fr.tail (acc++[([],[])]))
   | some (.d (.tup []))=>(zgl x fr acc S).bind (zby F l fr.tail (acc++[([],[])]))
   | _=>none
def zlt(l:List zC)(S:St):Bool:=l.all fun x=>x.newNames.all fun n=> !zaV n S.env&& !zam n S.heap
def zfS(F:zaO)(l:List zC)(fr:List (List Nat))(S:St):Option St:=
 if (zbQ S.env&&zbQ S.heap&&zlt l S)=true then zby F l fr [] S else none
theorem zW9(hF:FOK P F){x:zC}{S S':St}(hcl:x.op.cleanB=true)(h:zdB F x S=some S'):∃v δ,zkV F x S v δ (feet x S).1 (feet x S).2/\S'=ap x S v δ:=by
 obtain⟨⟨v,H'⟩,h1,h2⟩:=zYT.1 h;obtain⟨δ,h3,h4⟩:=zXd hF hcl h1;subst h2;subst h4;exact⟨v,δ,h3,rfl⟩
theorem zJj(hF:FOK P F):∀(l:List zC) (fr:List (List Nat)) (acc:List (List Nat×List Nat)) (S S':St),(∀x∈l,x.op.cleanB=true)->zby F l fr acc S=some S'->∃ps,Lex F l ps S S'/\ps.length=l.length/\zpH fr acc ps:=by
 intro l
 induction l with
 | nil=>intro fr acc S S' _ h;cases h;exact⟨[],.nil,rfl,fun j p hp=>by simp at hp⟩
 | cons x l ih=>
  intro fr acc S S' hc h;have step:∀(p:List Nat×List Nat) (v:AV) (δ:zf),Y F x S v δ p->zgR (fr.headD []) acc p=true->zby F l fr.tail (acc++[p]) (ap x S v δ)=some S'->∃ps,Lex F (x::l) ps S S'/\ps.length=(x::l).length/\zpH fr acc ps:=by
   intro p v δ hy hcl hg;obtain⟨ps,h1,h3,h4⟩:=ih _ _ _ _ (fun y hy=>hc y (.tail _ hy)) hg;refine⟨p::ps,.cons hy h1,by simp [h3],fun j q hq=> ?_⟩
   cases j with
   | zero=>
    simp at hq;subst hq;simp only[zZE,zZd]
    cases fr<;>simpa using hcl
   | succ j=>
    have:=h4 j q (by simpa using hq);rw[zZF] at this
    cases fr with
    | nil=>simpa using this
    | cons f fr=>simpa using this
  have run:((zdo F x fr acc S).bind (zby F l fr.tail (acc++[feet x S])))=some S'->Gd x S=some true->∃ps,Lex F (x::l) ps S S'/\ps.length=(x::l).length/\zpH fr acc ps:=by
   intro h hgd;obtain⟨S1,h1,h2⟩:=zYR.1 h;unfold zdo at h1
   split at h1
   ·rename_i hcl;obtain⟨v,δ,h3,rfl⟩:=zW9 hF (hc x (.head _)) h1;exact step (feet x S) v δ (.inl ⟨hgd,h3⟩) hcl h2
   ·cases h1
  simp only[zby] at h
  split at h
  ·rename_i hg;exact run h (zE3 hg)
  ·rename_i t b hg
   split at h
   ·rename_i c hl
    split at h
    ·rename_i hcb;exact run h (by rw[ztZ hg hl];simpa using hcb)
    ·rename_i hcb;obtain⟨S1,h1,h2⟩:=zYR.1 h;unfold zgl at h1
     split at h1
     ·rename_i hcl
      cases h1
      refine step ([],[]) (.d (.tup [])) [] (.inr ⟨by rw[ztZ hg hl];simpa using hcb,rfl,rfl⟩) hcl ?_;exact h2
     ·cases h1
   ·rename_i hl;obtain⟨S1,h1,h2⟩:=zYR.1 h;unfold zgl at h1
    split at h1
    ·rename_i hcl
     cases h1
     refine step ([],[]) (.d (.tup [])) [] (.inr ⟨zE4 hg hl,rfl,rfl⟩) hcl ?_;exact h2
    ·cases h1
   ·cases h
theorem zRO{α:Type}{k:Nat}{l:List (Nat×α)}(h:zbQ l=true):zbQ (zeb k l)=true:=by
 induction l with
 | nil=>rfl
 | cons p l ih=>
  obtain⟨j,x⟩:=p;simp only[zbQ,zY6,zZL] at h;simp only[zeb]
  split
  ·exact ih h.2
  ·simp only[zbQ,zY6,zZL,ih h.2,z0k];rw[zZ6] at *;exact fun q hq=>h.1 q (ziT.1 hq).1
theorem zCJ{α:Type}{k:Nat}{x:α}{l:List (Nat×α)}(h:zbQ l=true):zbQ (zN k x l)=true:=by
 simp only[zN,zbQ,zY6,zZL,zRO h,z0k];rw[zZ6];intro q hq;have:=(ziT.1 hq).2;simpa using this
theorem zRN{δ H:zf}(h:zbQ H=true):zbQ (zag δ H)=true:=by
 induction δ with
 | nil=>exact h
 | cons p δ ih=>exact zCJ ih
theorem Lex.nodup{ps:List (List Nat×List Nat)}{S E:St}{l:List zC}(h:Lex F l ps S E):zbQ S.env=true->zbQ S.heap=true->zbQ E.env=true/\zbQ E.heap=true:=by
 induction h with
 | nil=>exact fun h1 h2=>⟨h1,h2⟩
 | @cons x _ _ _ S _ v δ _ _ ih=>
  refine fun h1 h2=>ih ?_ ?_
  ·unfold ap St.put
   split
   ·exact h1
   ·exact zCJ h1
  ·rw[zfj];exact zRN h2
theorem Rel.same{S E:St}{a:Act}{w:World}{ι:Inj}{R:Nat->Prop}(h:Rel C S a w ι R)(hs:Same S E)(h1:zbQ E.env=true)(h2:zbQ E.heap=true):Rel C E a w ι R:=by
 have hm:mark E.heap=mark S.heap:=funext fun o=>by unfold mark;rw[hs.2 o]
 refine { h with env:=fun t x hx=> ?_,heap:=fun o ob ho=> ?_ }
 ·rw[hm];exact h.env t x (zar ((hs.1 t).trans (zCI h1 hx)))
 ·rw[hm];exact h.heap o ob (zar ((hs.2 o).trans (zCI h2 ho)))
theorem zAL{x:zC}{S:St}{v:AV}{δ:zf}{o:Nat}(h:zgN o S)(hv:v.refs o=false)(hh:zam o (zag δ S.heap)=false):zgN o (ap x S v δ):=by
 refine⟨?_,by rw[zfj];exact hh⟩;unfold ap St.put
 split
 ·exact h.1
 ·rename_i d _
  cases hr:zaV o (zN d v S.env) with
  | false=>rfl
  | true=>
   exfalso;have:zaV o (zeb d S.env)=false:=by
    have h1:=h.1;revert h1;generalize S.env=l
    induction l with
    | nil=>intro;rfl
    | cons p l ih=>
     obtain⟨j,y⟩:=p;intro h1;simp only[zaV,z0z] at h1;simp only[zeb]
     split
     ·exact ih h1.2
     ·simp [zaV,h1.1,ih h1.2]
   simp [zN,zaV,hv,this] at hr
theorem ze8.sound (hF:FOK P F) {hs:zal} {Q:Exit->Act->World->Prop} {ops:Array Oper} {l:List zC} {pl:Nat->List Nat×List Nat} {E:St} (hl:ops.toList.mapM (zfa P hs ops)=some l) (hd:∀o∈ops.toList,∀d,o.dst=some d->d<C.n)
    (hnews:∀(i:Nat) (x:zC),l[i]? = some x->∀n∈x.newNames,∀(j:Nat) (y:zC),l[j]? = some y->j≠i->n∉y.newNames)
    (hQ:∀S a w ι R,Same S E->Rel C S a w ι R->Q .normal a w):
    ∀(n:Nat) (listed:Array Bool) (S:St) (a:Act) (w:World) (ι:Inj) (R:Nat->Prop),ze8 F ops l pl E n listed S->Rel C S a w ι R->
     (∀(i:Nat) (x:zC),l[i]? = some x->listed.getD i true=false->∀n∈x.newNames,zgN n S)->wpAny P .any ops Q n listed a w:=by
 intro n
 induction n with
 | zero=>intro listed S a w ι R h hr _;exact⟨h.1,hQ _ _ _ _ _ h.2 hr⟩
 | succ n ih=>
  intro listed S a w ι R h hr hf;refine⟨fun h0=>hQ _ _ _ _ _ (h.1 h0) hr,fun i hi=> ?_⟩;obtain⟨x,v,δ,hx,hy,hn⟩:=h.2 i hi;obtain⟨hun,o,ho,_⟩:=mem_ready.1 hi;have hmem:o∈ops.toList:=by
   have:=(zZT.1 ho);obtain⟨h1,rfl⟩:=this;simp
  have hcx:zfa P hs ops o=some x:=(ze0 hl).2 i o x (by simpa using ho) hx;unfold wpOp;simp only[ho]
  -- the other new objects' names stay fresh
  have hothers:∀(m:Nat) (y:zC),l[m]? = some y->(listed.setIfInBounds i true).getD m true=false->∀n∈y.newNames,zgN n S/\n∉x.newNames:=by
   intro m y hm hum n hny;have hmi:m≠i:=by
    rintro rfl;have hlt:m<ops.size:=(zZT.1 ho).1;rw[z0A,Array.getElem?_setIfInBounds_self] at hum;rw[z0A] at hun
    split at hum
    ·simp at hum
    ·simp at hum
   rw[getD_set_ne true (Ne.symm hmi)] at hum;exact⟨hf m y hm hum n hny,hnews m y hm n hny i x hx (Ne.symm hmi)⟩
  rcases hy with ⟨hg,hloc⟩|⟨hg,rfl,rfl⟩
  ·obtain⟨hop,hno⟩:=hloc.same S ⟨fun _ _=>rfl,fun _ _=>rfl,fun _ _=>rfl⟩ (hf i x hx hun);have hnext:∀S' a' w' ι' R',S'=ap x S v δ->Rel C S' a' w' ι' R'->wpAny P .any ops Q n (listed.setIfInBounds i true) a' w':=by
    rintro S' a' w' ι' R' rfl hr';refine ih _ _ _ _ _ _ hn hr' fun m y hm hum n hny=> ?_;obtain⟨h2,h3⟩:=hothers m y hm hum n hny;obtain⟨h4,h5⟩:=hno _ h2 h3;exact zAL h2 h4 h5
   unfold zfa at hcx
   split at hcx
   ·cases hcx
   ·rename_i op hop'
    split at hcx
    ·rename_i hgd
     cases hcx
     have hw:Region.wanted o (yielded ops a.tmps)=true:=by simp [Region.wanted,hgd]
     rw[zYQ hw];exact .inl (ztt hF hop' (hd _ hmem) hop hr fun a' w' ι' R' hr'=>hnext _ a' w' ι' R' rfl hr')
    ·rename_i j b hgd;obtain⟨t,ht,hcx⟩:=zYT.1 hcx
     cases hcx
     unfold Gd at hg;simp only at hg
     split at hg
     ·rename_i c hc;have hyl:yielded ops a.tmps j=some c:=by
       obtain⟨u,h1,h2⟩:=hr.env t _ (zar hc);have:=h2.bool_inv;subst this;have hlt:t<1000000:=by
        obtain⟨o',ho',ht'⟩:=zYR.1 ht;exact zZ1 (hd o' (by have:=(zZT.1 ho');obtain⟨q,rfl⟩:=this;simp) t ht') C.le
       simp only[zeC,zYQ hlt] at h1;simp [yielded,ht,h1]
      have hw:Region.wanted o (yielded ops a.tmps)=(c==b):=by simp [Region.wanted,hgd,hyl]
      have:(c==b)=true:=by simpa using hg
      rw[zYQ (by rw[hw];exact this)];exact .inl (ztt hF hop' (hd _ hmem) hop hr fun a' w' ι' R' hr'=>hnext _ a' w' ι' R' rfl hr')
     ·cases hg
     ·cases hg
  ·have hnext:∀S' a' w' ι' R',S'=ap x S (.d (.tup [])) []->Rel C S' a' w' ι' R'->wpAny P .any ops Q n (listed.setIfInBounds i true) a' w':=by
      rintro S' a' w' ι' R' rfl hr';refine ih _ _ _ _ _ _ hn hr' fun m y hm hum n hny=> ?_;obtain⟨h2,h3⟩:=hothers m y hm hum n hny;exact zAL h2 rfl h2.2
   unfold zfa at hcx
   split at hcx
   ·cases hcx
   ·rename_i op hop'
    split at hcx
    ·cases hcx
     simp [Gd] at hg
    ·rename_i j b hgd;obtain⟨t,ht,hcx⟩:=zYT.1 hcx
     cases hcx
     unfold Gd at hg;simp only at hg
     split at hg
     ·rename_i c hc;have hyl:yielded ops a.tmps j=some c:=by
       obtain⟨u,h1,h2⟩:=hr.env t _ (zar hc);have:=h2.bool_inv;subst this;have hlt:t<1000000:=by
        obtain⟨o',ho',ht'⟩:=zYR.1 ht;exact zZ1 (hd o' (by have:=(zZT.1 ho');obtain⟨q,rfl⟩:=this;simp) t ht') C.le
       simp only[zeC,zYQ hlt] at h1;simp [yielded,ht,h1]
      have hw:Region.wanted o (yielded ops a.tmps)=(c==b):=by simp [Region.wanted,hgd,hyl]
      have:(c==b)=false:=by simpa using hg
      rw[zYP (by rw[hw,this];simp)];exact hnext _ _ _ _ _ rfl (hr.putO zpw (hd _ hmem))
     ·rename_i hc;have hyl:yielded ops a.tmps j=none:=by
       obtain⟨u,h1,h2⟩:=hr.env t _ (zar hc);have:=h2.tup0_inv;subst this;have hlt:t<1000000:=by
        obtain⟨o',ho',ht'⟩:=zYR.1 ht;exact zZ1 (hd o' (by have:=(zZT.1 ho');obtain⟨q,rfl⟩:=this;simp) t ht') C.le
       simp only[zeC,zYQ hlt] at h1;simp [yielded,ht,h1]
      have hw:Region.wanted o (yielded ops a.tmps)=false:=by simp [Region.wanted,hgd,hyl]
      rw[zYP (by rw[hw];simp)];exact hnext _ _ _ _ _ rfl (hr.putO zpw (hd _ hmem))
     ·cases hg
theorem Rel.drawn{S:St}{a:Act}{w:World}{ι:Inj}{R:Nat->Prop}(h:Rel C S a w ι R)(n:Nat):Rel C S a { w with drawn:=n } ι R:=by
 have hm:∀ {x:AV} {u:Value},VA w R ι (mark S.heap) x u->VA { w with drawn:=n } R ι (mark S.heap) x u:=fun hv=>
  hv.mono (fun _ h=>h) (fun _ _=>rfl) fun o _=>Step.same fun _ _ _=>rfl
 refine { h with os:=h.os,tape:=h.tape,output:=h.output,env:=fun t x hx=> ?_,heap:=fun o ob ho=> ?_ }
 ·obtain⟨u,h1,h2⟩:=h.env t x hx;exact⟨u,h1,hm h2⟩
 ·cases h.heap o ob ho with
  | row h1 h2 h3 h4 h5 h6 h7=>exact .row h1 h2 h3 h4 h5 h6 fun i e he j x hx=>let ⟨k1,q,k2,k3⟩:=h7 i e he j x hx;⟨k1,q,k2,hm k3⟩
  | acc h1 h2 h3 h4 h5 h6=>exact .acc h1 h2 h3 h4 h5 h6
  | accN h1=>exact .accN h1
  | frz h=>exact .frz h
  | mp h1 h2 h3 h4 h5 h6=>exact .mp h1 h2 h3 h4 h5 fun i k x hi=>let ⟨e,k1,k2,k3⟩:=h6 i k x hi;⟨e,k1,k2,k3.mono_v (fun _ h=>h) fun _ _=>rfl⟩
theorem zHW (hF:FOK P F) {hs:zal} {ops:Array Oper} {l:List zC} {S':St} {Q:Exit->Act->World->Prop} {S:St} {a:Act} {w:World} {ι:Inj} {R:Nat->Prop} {id:Nat} (hl:ops.toList.mapM (zfa P hs ops)=some l)
    (hok:(P.follows .mixedOrders&&zyQ ops l)=true) (hd:∀o∈ops.toList,∀d,o.dst=some d->d<C.n) (hQ:∀a w ι R,Rel C S' a w ι R->Q .normal a w)
    (h:zfS F l ((List.range ops.size).map (zgo ops)) S=some S') (hr:Rel C S a w ι R):(Code.region id ops true).wp P Q a w:=by
 unfold zfS at h
 split at h
 rotate_left
 ·cases h
 rename_i hpre;simp only[zY6] at hpre;obtain⟨⟨h1,h2⟩,h3⟩:=hpre;have h4:=h;simp only[zY6] at hok;obtain⟨hm,hdk⟩:=hok;have hlen:l.length=ops.size:=by have:=(ze0 hl).1;simpa using this
 have hx:∀j,j<ops.size->∃o x,ops[j]? = some o/\l[j]? = some x/\(∀e∈o.after,Region.binds .any e=true->e.on<j)/\(∀k∈zgo ops j,∃y,l[k]? = some y/\zij y x=true)/\x.op.cleanB=true/\
     zpP l ops.size j x=true:=by
  intro j hj;have:=zZi.1 hdk j (by simpa using hj);have ho:ops[j]? = some ops[j]:=z1K hj;have hy:l[j]? = some (l[j]'(by omega)):=zY1 _;refine⟨_,_,ho,hy,?_⟩;rw[ho,hy] at this;simp only[zY6] at this;obtain⟨⟨⟨c1,c2⟩,c3⟩,c4⟩:=this;refine⟨fun e he hb=> ?_,fun k hk=> ?_,c3,c4⟩
  ·have:=zZi.1 c1 e (by simpa using he);simpa [hb] using this
  ·have:=zZi.1 c2 k hk
   split at this
   ·rename_i y hy';exact⟨y,hy',this⟩
   ·cases this
 have hclean:∀x∈l,x.op.cleanB=true:=fun x hmx=>by
  obtain⟨j,hj⟩:=zZD hmx;have hlt:=(zY7.1 hj).1;obtain⟨o,x',_,h6,_,_,h7,_⟩:=hx j (by omega);rw[hj] at h6;cases h6;exact h7
 obtain⟨ps,hlex,hps,hclash⟩:=zJj hF l _ [] S S' hclean h4
 let pl:Nat->List Nat×List Nat:=fun i=>(ps[i]?).getD ([],[])
 have hE:=hlex.nodup h1 h2;refine wp_region_any hm (ze8.sound (C:=C) (l:=l) (pl:=pl) (E:=S') hF hl hd ?_ (fun S1 a' w' ι' R' hs hr'=>hQ _ _ _ _ (hr'.same hs hE.1 hE.2)) _ _ _ _ _ _ _ ?_ (hr.drawn _) ?_)
 ·intro i x hi n hn j y hj hji hny;have hlt:=(zY7.1 hi).1;have hlt':=(zY7.1 hj).1;obtain⟨o,x',_,h6,_,_,_,h8⟩:=hx i (by omega);rw[hi] at h6;cases h6;obtain⟨o',y',_,h6',_,_,_,h8'⟩:=hx j (by omega);rw[hj] at h6';cases h6';have ne1:x.newNames.isEmpty=false:=by cases hq:x.newNames with|nil=>rw[hq] at hn;cases hn|cons=>rfl
  have ne2:y.newNames.isEmpty=false:=by cases hq:y.newNames with|nil=>rw[hq] at hny;cases hny|cons=>rfl
  simp only[zpP,ne1,ne2,zZY] at h8 h8'
  split at h8
  ·rename_i d hd1
   split at h8'
   ·rename_i d' hd2;simp only[zY6,decide_eq_true_eq] at h8 h8';have h9:=zZi.1 h8.2 j (by simp;omega);rw[hj] at h9;simp only[ne2,zZY,zZM,beq_iff_eq,hji,false_or,hd2,zZL,beq_eq_false_iff_ne,ne_eq,Option.some.injEq] at h9;have sub:∀(z:zC) (e m:Nat),z.dst=some e->m∈z.newNames->m=e\/m=e+10000\/m=e+20000\/m=e+30000:=by
     intro z e m he hm;unfold zC.newNames at hm;rw[he] at hm;simp only[z0s] at hm
     split at hm
     ·simpa [fr4] using hm
     ·simpa [fr4] using hm
     ·split at hm
      ·simp at hm;exact .inl hm
      ·cases hm
    have k1:=sub x d n hd1 hn;have k2:=sub y d' n hd2 hny;omega
   ·cases h8'
  ·cases h8
 ·rw[<- hlen];refine zQt (F:=F) ?_ hlen.symm ?_ (fun j o ho e he hb=> ?_) l ps 0 _ S (by simp) (fun j hj=> ?_) (by simp) (by simp) (by omega) (fun i _ hi=> ?_) hlex
  ·intro k listed hk hls hun;obtain⟨o,x,ho,_,h6,_⟩:=hx k (by omega);exact mem_ready.2 ⟨hun,o,ho,fun e he hb=>hls _ (h6 e he hb)⟩
  ·intro k j o x y hkj ho hk hj hno;have hjl:=(zZT.1 ho).1;obtain⟨o',y',ho',hy',_,h7,_⟩:=hx j hjl;rw[ho] at ho';cases ho';rw[hj] at hy';cases hy';have hfree:k∈zgo ops j:=zRe hkj hno;obtain⟨x',hx',hap⟩:=h7 k hfree;rw[hk] at hx';cases hx';refine⟨hap,?_⟩;have hpj:ps[j]? = some (pl j):=by
    have:j<ps.length:=by omega
    simp [pl,this]
   have hpk:ps[k]? = some (pl k):=by
    have:k<ps.length:=by omega
    simp [pl,this]
   have:=hclash j (pl j) hpj;have hfrj:(((List.range ops.size).map (zgo ops))[j]?).getD []=zgo ops j:=by simp [hjl]
   rw[hfrj,zZb] at this;have:=zZi.1 this k hfree;rw[z0N hkj,hpk] at this;exact this
  ·obtain⟨o',_,ho',_,h6,_⟩:=hx j (zZT.1 ho).1;rw[ho] at ho';cases ho';exact h6 e he hb
  ·simp [pl,show j<ps.length by omega]
  ·rw[Array.getElem?_replicate,zYQ (by omega)]
 ·intro i x hi _ n hn;have:=zZi.1 (zZi.1 h3 x (zZf hi)) n hn;simpa [zgN] using this
end Go.Sim

namespace Go.Sim
open Go (World Value Addr TypeId Act)
variable {P:Program} {C:Ctx} {F:zaO}
def zdd(n:Nat):Code->Bool
 | .region _ ops _=>ops.toList.all fun o=>match o.dst with|none=>true|some d=>d<n
 | .seq a b=>zdd n a&&zdd n b
 | .cond _ a b=>zdd n a&&zdd n b
 | .block _ b=>zdd n b
 | .loop b=>zdd n b
 | _=>true
theorem zDT{n id:Nat}{ops:Array Oper}{d:Bool}(h:zdd n (.region id ops d)=true):∀o∈ops.toList,∀d,o.dst=some d->d<n:=by
 intro o ho d hd;have:=zZi.1 h o ho;simpa [hd] using this
def zbt(F:zaO):List zC->St->Option St
 | [],S=>some S
 | o::l,S=>
  match o.guard with
  | none=>(zdB F o S).bind (zbt F l)
  | some (t,b)=>
   match look t S.env with
   | some (.d (.bool c))=>if c=b then (zdB F o S).bind (zbt F l) else zbt F l (S.put o.dst (.d (.tup [])))
   | some (.d (.tup []))=>zbt F l (S.put o.dst (.d (.tup [])))
   | _=>none
def ziL(ks:List Nat)(S:St):zR×St:=(.normal,⟨zfY ks S.env,S.heap⟩)
def zhg(g:St->Option (zR×St))(p:zR×St):Option (zR×St):=match p.1 with| .normal=>g p.2| .exit i=>some (.exit i,p.2)| .ret=>some (.ret,p.2)
def zik(id:Nat)(p:zR×St):zR×St:=match p.1 with| .exit i=>if i=id then (.normal,p.2) else (.exit i,p.2)| .normal=>(.normal,p.2)| .ret=>(.ret,p.2)
def zcP(ks:List Nat)(g:St->Option (zR×St))(p:zR×St):Option (zR×St):=match p.1 with| .normal=>g (norm ks p.2)| .exit i=>some (.exit i,p.2)| .ret=>some (.ret,p.2)
def zet(ks:List Nat)(body:St->Option (zR×St)):Nat->St->Option (zR×St)
 | 0,_=>none
 | k+1,S=>(body S).bind (zcP ks (zet ks body k))
def zhy(c:AV)(x y:Option (zR×St)):Option (zR×St):=match c with| .d (.bool b)=>if b=true then x else y|_=>none
def zb3(F:zaO)(n:Nat):zw->St->Option (zR×St)
 | .skip,S=>some (.normal,S)
 | .ops gs l ks,S=>((zfh gs S).bind (zbt F l)).map (ziL ks)
 | .draw gs l fr ks,S=>((zfh gs S).bind (zfS F l fr)).map (ziL ks)
 | .seq x y,S=>(zb3 F n x S).bind (zhg (zb3 F n y))
 | .cond c x y,S=>zhy (c.ev S.env) (zb3 F n x S) (zb3 F n y S)
 | .block id x,S=>(zb3 F n x S).map (zik id)
 | .loop ks x,S=>zet ks (zb3 F n x) n (norm ks S)
 | .exit id ks,S=>some (.exit id,endS ks S)
 | .ret ks,S=>some (.ret,endS ks S)
def zjK:Code->Nat
 | .region id _ _=>id
 | .seq a _=>zjK a
 | .block _ b=>zjK b
 | .loop b=>zjK b
 | _=>1000000
def comp(P:Program)(hs:zal):Code->Option zw
 | .skip=>some .skip
 | .region id ops false=>(ops.toList.mapM (zfa P hs ops)).map fun l=> .ops (zgt hs.ghost id) l (zgt hs.kill id)
 | .region id ops true=>(ops.toList.mapM (zfa P hs ops)).bind fun l=>if P.follows .mixedOrders&&zyQ ops l then some (.draw (zgt hs.ghost id) l ((List.range ops.size).map (zgo ops)) (zgt hs.kill id)) else none
 | .seq a b=>match comp P hs a,comp P hs b with|some x,some y=>some (.seq x y)|_,_=>none
 | .cond c t e=>match opd c,comp P hs t,comp P hs e with|some z,some x,some y=>some (.cond z x y)|_,_,_=>none
 | .block id b=>(comp P hs b).map (.block id)
 | .loop b=>(comp P hs b).map (.loop (zgt hs.loop (zjK b)))
 | .exit id=>some (.exit id (zgt hs.exit id))
 | .ret=>some (.ret hs.ret)
 | _=>none
def ztY(C:Ctx)(e:zR)(S:St):Exit->Act->World->Prop:=fun ex a w=>ex=Out e/\∃ι R,Rel C S a w ι R
theorem zJk(hF:FOK P F){hs:zal}{ops:Array Oper}{Q:Exit->Act->World->Prop}{S':St}(hn:∀a w ι R,Rel C S' a w ι R->Q .normal a w)(hd:∀o∈ops.toList,∀d,o.dst=some d->d<C.n):
    ∀(l:List zC) (k:Nat),(ops.toList.drop k).mapM (zfa P hs ops)=some l->∀(S:St) (a:Act) (w:World) (ι:Inj) (R:Nat->Prop),zbt F l S=some S'->Rel C S a w ι R->wpOps P ops Q (List.range' k (ops.size - k)) a w:=by
 intro l
 induction l with
 | nil=>
  intro k hk S a w ι R h hr;have hlen:=(ze0 hk).1;simp at hlen;have:ops.size - k=0:=by simpa using hlen.symm
  rw[this]
  cases h
  exact hn a w ι R hr
 | cons x l ih=>
  intro k hk S a w ι R h hr;obtain⟨hl,hg⟩:=ze0 hk;have hlt:k<ops.size:=by simp at hl;omega
  have hsz:ops.size - k=(ops.size - (k+1))+1:=by omega
  have hok:ops[k]? = some ops[k]:=z1K hlt;have hx:=hg 0 ops[k] x (by simp [hlt]) rfl;have hk':(ops.toList.drop (k+1)).mapM (zfa P hs ops)=some l:=by
   have hdrop:ops.toList.drop k=ops[k]::ops.toList.drop (k+1):=by
    rw[zZr (by simpa using hlt)];simp
   rw[hdrop,z0w] at hk;simp only[zZo,zZs] at hk;obtain⟨y,_,hk⟩:=zYR.1 hk;obtain⟨ys,hys,hk⟩:=zYR.1 hk
   cases hk;exact hys
  have hmem:ops[k]∈ops.toList:=by simp
  rw[hsz,z0c];simp only[wpOps,hok];have take:∀ {x0:AOp} {g:Option (Nat×Bool)},zaa P ops[k].op=some x0->x=⟨ops[k].dst,hint hs ops[k].dst x0,g⟩->(zdB F x S).bind (zbt F l)=some S'->ops[k].wp P a w (fun a' w'=>wpOps P ops Q (List.range' (k+1) (ops.size - (k+1))) a' w') Q:=by
   intro x0 g hop hxe hb;obtain⟨S1,h1,h2⟩:=zYR.1 hb;obtain⟨⟨v,H'⟩,h3,h4⟩:=zYT.1 h1;subst hxe;subst h4;exact ztt hF hop (hd _ hmem) h3 hr fun a' w' ι' R' hr'=>ih (k+1) hk' _ a' w' ι' R' h2 hr'
  unfold zfa at hx
  split at hx
  ·cases hx
  ·rename_i op hop
   split at hx
   ·rename_i hgd
    cases hx
    simp only[zbt] at h;have hw:Region.wanted ops[k] (yielded ops a.tmps)=true:=by simp [Region.wanted,hgd]
    rw[zYQ hw];exact .inl (take hop rfl h)
   ·rename_i j b hgd;obtain⟨t,ht,hx⟩:=zYT.1 hx
    cases hx
    simp only[zbt] at h
    split at h
    ·rename_i c hc;have hy:yielded ops a.tmps j=some c:=by
      obtain⟨u,h1,h2⟩:=hr.env t _ (zar hc);have:=h2.bool_inv;subst this;have hlt:t<1000000:=by
       obtain⟨o',ho',ht'⟩:=zYR.1 ht;exact zZ1 (hd o' (by have:=(zZT.1 ho');obtain⟨q,rfl⟩:=this;simp) t ht') C.le
      simp only[zeC,zYQ hlt] at h1;simp [yielded,ht,h1]
     have hw:Region.wanted ops[k] (yielded ops a.tmps)=(c==b):=by simp [Region.wanted,hgd,hy]
     by_cases hcb:c=b
     ·rw[zYQ (by rw[hw];simpa using hcb)];rw[zYQ hcb] at h;exact .inl (take hop rfl h)
     ·rw[zYP (by rw[hw];simpa using hcb)];rw[zYP hcb] at h;exact ih (k+1) hk' _ _ _ _ _ h (hr.putO zpw (hd _ hmem))
    ·rename_i hc;have hy:yielded ops a.tmps j=none:=by
      obtain⟨u,h1,h2⟩:=hr.env t _ (zar hc);have:=h2.tup0_inv;subst this;have hlt:t<1000000:=by
       obtain⟨o',ho',ht'⟩:=zYR.1 ht;exact zZ1 (hd o' (by have:=(zZT.1 ho');obtain⟨q,rfl⟩:=this;simp) t ht') C.le
      simp only[zeC,zYQ hlt] at h1;simp [yielded,ht,h1]
     have hw:Region.wanted ops[k] (yielded ops a.tmps)=false:=by simp [Region.wanted,hgd,hy]
     rw[zYP (by rw[hw];simp)];exact ih (k+1) hk' _ _ _ _ _ h (hr.putO zpw (hd _ hmem))
    ·cases h
theorem zJl(hF:FOK P F){hs:zal}{n:Nat}:∀(c:Code) {x:zw} {S:St} {e:zR} {S':St} {a:Act} {w:World} {ι:Inj} {R:Nat->Prop},comp P hs c=some x->zdd C.n c=true->zb3 F n x S=some (e,S')->Rel C S a w ι R->
    c.wp P (ztY C e S') a w:=by
 intro c
 induction c with
 | skip=>intro x S e S' a w ι R hc _ h hr;simp only[comp,Option.some.injEq] at hc;subst hc;cases h;exact wp_skip ⟨rfl,ι,R,hr⟩
 | exit id=>intro x S e S' a w ι R hc _ h hr;simp only[comp,Option.some.injEq] at hc;subst hc;cases h;exact wp_exit ⟨rfl,ι,R,hr.endS _⟩
 | ret=>intro x S e S' a w ι R hc _ h hr;simp only[comp,Option.some.injEq] at hc;subst hc;cases h;exact wp_ret ⟨rfl,ι,R,hr.endS _⟩
 | region id ops d=>
  intro x S e S' a w ι R hc hs' h hr
  cases d with
  | false=>
   obtain⟨l,hl,rfl⟩:=zYT.1 hc;simp only[zb3] at h;obtain⟨S2,h,h3⟩:=zYT.1 h;obtain⟨S1,h1,h2⟩:=zYR.1 h
   cases h3
   refine wp_region ?_;obtain⟨ι1,R1,hr1⟩:=zA6 h1 hr;have:=zJk hF (C:=C) (Q:=ztY C .normal ⟨zfY (zgt hs.kill id) S2.env,S2.heap⟩) (fun a' w' ι' R' h2=>⟨rfl,ι',R',h2.kill _⟩) (zDT hs') l 0 (by simpa using hl) S1 a w ι1 R1 h2 hr1;rw[z1r];simpa using this
  | true=>
   obtain⟨l,hl,hc⟩:=zYR.1 hc
   split at hc
   ·rename_i hok
    cases hc
    simp only[zb3] at h;obtain⟨S2,h,h3⟩:=zYT.1 h;obtain⟨S1,h1,h2⟩:=zYR.1 h
    cases h3
    obtain⟨ι1,R1,hr1⟩:=zA6 h1 hr;exact zHW hF hl hok (zDT hs') (fun a' w' ι' R' h2=>⟨rfl,ι',R',h2.kill _⟩) h2 hr1
   ·cases hc
 | seq c1 c2 ih1 ih2=>
  intro x S e S' a w ι R hc hs' h hr;simp only[comp] at hc
  split at hc
  ·rename_i x1 x2 h1 h2
   cases hc
   simp only[zdd,zY6] at hs';simp only[zb3] at h;obtain⟨⟨e1,S1⟩,h3,h4⟩:=zYR.1 h;refine wp_seq (wp_mono (ih1 h1 hs'.1 h3 hr) ?_);rintro ex a' w' ⟨rfl,ι',R',hr'⟩
   cases e1 with
   | normal=>exact ih2 h2 hs'.2 h4 hr'
   | exit i=>cases h4;exact⟨rfl,ι',R',hr'⟩
   | ret=>cases h4;exact⟨rfl,ι',R',hr'⟩
  ·cases hc
 | cond c t el ih1 ih2=>
  intro x S e S' a w ι R hc hs' h hr;simp only[comp] at hc
  split at hc
  ·rename_i z x1 x2 h0 h1 h2
   cases hc
   simp only[zdd,zY6] at hs';simp only[zb3] at h;have hv:=hr.ev h0;unfold zhy at h
   split at h
   ·rename_i b hb;rw[hb] at hv;refine wp_cond_split hv.bool_inv (fun hb'=>ih1 h1 hs'.1 (by rw[zYQ hb'] at h;exact h) hr) (fun hb'=>ih2 h2 hs'.2 (by rw[zYP (by simp [hb'])] at h;exact h) hr)
   ·cases h
  ·cases hc
 | block id b ih=>
  intro x S e S' a w ι R hc hs' h hr;obtain⟨y,hy,rfl⟩:=zYT.1 hc;simp only[zb3] at h;obtain⟨⟨e1,S1⟩,h1,h2⟩:=zYT.1 h;refine wp_block (wp_mono (ih hy hs' h1 hr) ?_);rintro ex a' w' ⟨rfl,ι',R',hr'⟩
  cases e1 with
  | normal=>cases h2;exact⟨rfl,ι',R',hr'⟩
  | exit i=>
   simp only[zik] at h2;simp only[Out,Exit.inBlock]
   split
   ·rename_i e;rw[zYQ e] at h2;cases h2;exact⟨rfl,ι',R',hr'⟩
   ·rename_i e;rw[zYP e] at h2;cases h2;exact⟨rfl,ι',R',hr'⟩
  | ret=>cases h2;exact⟨rfl,ι',R',hr'⟩
 | loop b ih=>
  intro x S e S' a w ι R hc hs' h hr;obtain⟨y,hy,rfl⟩:=zYT.1 hc;simp only[zb3] at h;refine wp_loop_ghost (fun k a w=>∃S ι R,zet (zgt hs.loop (zjK b)) (zb3 F n y) k S=some (e,S')/\Rel C S a w ι R) n ⟨_,ι,R,h,hr.norm _⟩ ?_;rintro k a1 w1 ⟨S1,ι1,R1,h1,hr1⟩
  cases k with
  | zero=>simp [zet] at h1
  | succ k=>
   simp only[zet] at h1;obtain⟨⟨e2,S2⟩,h2,h3⟩:=zYR.1 h1;refine wp_mono (ih hy hs' h2 hr1) ?_;rintro ex a' w' ⟨rfl,ι',R',hr'⟩
   cases e2 with
   | normal=>exact⟨k,by omega,_,ι',R',h3,hr'.norm _⟩
   | exit i=>cases h3;exact⟨rfl,ι',R',hr'⟩
   | ret=>cases h3;exact⟨rfl,ι',R',hr'⟩
 | _=>intro x S e S' a w ι R hc;simp [comp] at hc
end Go.Sim

namespace Go.Sim
open Go (World Value Addr TypeId Act)
variable {P:Program}
inductive za6 where
 | t (n:Nat)
 | c (n:Nat) (ag:Bool) (sz:Nat)
def zeQ(P:Program):ResultVar->Option za6
 | .tmp t=>if t<1000000 then some (.t t) else none
 | .cell a t=>match zbi P t,zaM P t with
  | some ag,some n=>if n=0\/1000000<=a then none else some (.c a ag n)
  | _,_=>none
def za6.ev(S:St):za6->Option AV
 | .t n=>look n S.env
 | .c n ag sz=>(look n S.env).bind (ldA S.heap ag sz)
def zgA(S:St)(rs:List za6):Option AV:=
 match rs with
 | [r]=>r.ev S
 | rs=>(rs.mapM (za6.ev S)).map AV.mkTup
theorem zQm {C:Ctx} {S:St} {a:Act} {w:World} {ι:Inj} {R:Nat->Prop} (h:Rel C S a w ι R) {t:TypeId} {ag:Bool} {n:Nat} {pa v:AV} {pv:Value} (hag:zbi P t=some ag) (hn:zaM P t=some n) (h0:n≠0)
    (hp:VA w R ι (mark S.heap) pa pv) (hv':ldA S.heap ag n pa=some v):
    ∃b off u,pv= .pointer (some ⟨b,off,none⟩)/\(loadVar t ⟨b,off,none⟩).run P w= .ok u w/\VA w R ι (mark S.heap) v u:=by
 cases pa with
 | d y=>
  cases y with
  | pd y=>
   simp only[ldA] at hv';obtain⟨y',hy',rfl⟩:=zYT.1 hv';obtain⟨b,off,hpv,hR,hel⟩:=hp.pd_inv;obtain⟨u,k1,k2⟩:=hel.load hy' h0 hag hn;exact⟨b,off,u,hpv,k1,.d k2⟩
  | _=>simp [ldA] at hv'
 | pe q y=>
  simp only[ldA] at hv';obtain⟨y',hy',rfl⟩:=zYT.1 hv'
  cases hp with
  | peR hR hel=>obtain⟨u,k1,k2⟩:=hel.load hy' h0 hag hn;exact⟨_,_,u,rfl,k1,.d k2⟩
  | peC _ _ _ _ hel=>obtain⟨u,k1,k2⟩:=hel.load hy' h0 hag hn;exact⟨_,_,u,rfl,k1,.d k2⟩
 | ref q i off=>
  simp only[ldA] at hv'
  split at hv'
  ·rename_i es hes;obtain⟨e,he,hpart⟩:=zYR.1 hv'
   cases hp with
   | @ref _ _ _ b s hι _=>
    cases h.heap _ _ (zar hes) with
    | row hι' _ hb _ _ _ hcell=>
     rw[hι] at hι';cases hι';have hel:ElA w R ι (mark S.heap) e b (i * s):=fun j x hj=>by
      obtain⟨k1,q,k2,k3⟩:=hcell i e he j x hj;exact⟨k1,q,by rw[zcr hb];exact k2,k3⟩
     obtain⟨u,k1,k2⟩:=hel.load hpart h0 hag hn;exact⟨_,_,u,rfl,k1,k2⟩
  ·cases hv'
 | _=>simp [ldA] at hv'
def zkC(tmps:Array Value):ResultVar->Sem Value:=fun
 | .tmp t=>pure (tmps.getD t undef)
 | .cell a t=>do loadVar t (<- asAddr (tmps.getD a undef))
theorem zUz(fn:Func)(tmps:Array Value):results fn tmps=(do let vs <- fn.results.mapM (zkC tmps);pure (if h:vs.size=1 then vs[0] else .tuple vs)):=rfl
theorem zQ6{α β γ:Type}{f:α->Sem β}{Q:γ->β->Prop}(w:World):∀(l:List α) (xs:List γ),l.length=xs.length->(∀(i:Nat) (a:α) (x:γ),l[i]? = some a->xs[i]? = some x->∃y,(f a).run P w= .ok y w/\Q x y)->
    ∃ys:List β,(l.mapM f).run P w= .ok ys w/\ys.length=xs.length/\∀(i:Nat) (x:γ) (y:β),xs[i]? = some x->ys[i]? = some y->Q x y:=by
 intro l
 induction l with
 | nil=>intro xs hxl _;have:xs=[]:=zZC.1 hxl.symm;subst this;exact⟨[],by simp,rfl,by simp⟩
 | cons a l ih=>
  intro xs hxl h
  cases xs with
  | nil=>simp at hxl
  | cons x xs=>
   obtain⟨y,h1,h2⟩:=h 0 a x rfl rfl;obtain⟨ys,h3,h4,h5⟩:=ih xs (by simpa using hxl) fun i a x k1 k2=>h (i+1) a x (by simpa using k1) (by simpa using k2);refine⟨y::ys,?_,by simp [h4],fun i a b ha hb=> ?_⟩
   ·rw[z0w,Sem.run_bind,h1];simp only[Result.andThen_ok,Sem.run_bind,h3,Sem.run_pure]
   ·match i,ha,hb with
    | 0,ha,hb=>simp at ha hb;subst ha hb;exact h2
    | n+1,ha,hb=>exact h5 n a b (by simpa using ha) (by simpa using hb)
theorem zUA{C:Ctx}{S:St}{a:Act}{w:World}{ι:Inj}{R:Nat->Prop}(h:Rel C S a w ι R){fn:Func}{rs:List za6}{v:AV}(hc:fn.results.toList.mapM (zeQ P)=some rs)(hv:zgA S rs=some v):
    ∃u,(results fn a.tmps).run P w= .ok u w/\VA w R ι (mark S.heap) v u:=by
 obtain⟨hl,hg⟩:=ze0 hc;have one:∀(rv:ResultVar) (r:za6) (x:AV),zeQ P rv=some r->r.ev S=some x->∃u,(zkC a.tmps rv).run P w= .ok u w/\VA w R ι (mark S.heap) x u:=by
  intro rv r x h4 h3
  cases rv with
  | tmp t=>
   simp only[zeQ] at h4
   split at h4
   ·rename_i hlt
    cases h4
    exact⟨a.eval (.tmp t),by simp [zkC,Act.eval],h.tmp hlt h3⟩
   ·cases h4
  | cell p t=>
   simp only[zeQ] at h4
   split at h4
   ·rename_i ag n hag hn
    split at h4
    ·cases h4
    ·rename_i h0
     cases h4
     obtain⟨pa,hpa,hld⟩:=zYR.1 h3;obtain⟨b,off,u,k1,k2,k3⟩:=zQm h hag hn (fun e=>h0 (.inl e)) (h.tmp (Nat.lt_of_not_le fun e=>h0 (.inr e)) hpa) hld;simp only[Act.eval] at k1;exact⟨u,by simp only[zkC,k1,Sem.run_bind,asAddr,Sem.run_pure,Result.andThen_ok,k2],k3⟩
   ·cases h4
 have run:∀(us:List Value),(fn.results.toList.mapM (zkC a.tmps)).run P w= .ok us w->(results fn a.tmps).run P w= .ok (if h:us.toArray.size=1 then us.toArray[0] else .tuple us.toArray) w:=by
  intro us hu;rw[zUz,z2e];simp [hu]
 by_cases h1:rs.length=1
 ·match rs,h1,hv,hl,hg with
  | [r],_,hv,hl,hg=>
   simp only[zgA] at hv
   match hfl:fn.results.toList,hl,hg with
   | [rv],hl,hg=>
    obtain⟨u,k1,k2⟩:=one rv r v (hg 0 rv r rfl rfl) hv;refine⟨u,?_,k2⟩;have:=run [u] (by rw[hfl];simp [z0w,k1]);simpa using this
 ·have hv':(rs.mapM (za6.ev S)).map AV.mkTup=some v:=by
     match rs,h1,hv with
     | [],_,hv=>exact hv
     | _::_::_,_,hv=>exact hv
     | [r],h1,_=>exact absurd rfl h1
  obtain⟨xs,hxs,rfl⟩:=zYT.1 hv';obtain⟨hl2,hg2⟩:=ze0 hxs;obtain⟨us,k1,k2,k3⟩:=zQ6 (P:=P) (f:=zkC a.tmps) (Q:=fun x u=>VA w R ι (mark S.heap) x u) w fn.results.toList xs (by omega) fun i rv x h2 h3=>by
   have hlt:=(zY7.1 h2).1;have hr:rs[i]? = some (rs[i]'(by omega)):=zY1 _;exact one rv _ x (hg i rv _ h2 hr) (hg2 i _ x hr h3)
  refine⟨.tuple us.toArray,?_,VA.mkTup k2 k3⟩;rw[run us k1,dif_neg (by simp;omega)]
def enter(args:List AV):Env:=args.zipIdx.map fun p=>(p.2,p.1)
theorem zIP{args:List AV}{t:Nat}{x:AV}(h:(t,x)∈enter args):args[t]? = some x:=by
 unfold enter at h;obtain⟨⟨y,i⟩,hm,he⟩:=zY0.1 h
 cases he
 exact (List.mem_zipIdx_iff_getElem?.1 hm)
def frs(ns:List Nat):List Nat:=ns.filter fun o=>decide (o<1000000)
def za4(ns:List Nat)(o:Nat):Nat:=if 1000000<=o then o else pos o (frs ns)
def zf5(H:zf)(os:zf)(v:AV):List Nat:=zfs H (zfs H (zc1 (os.map (·.1)) v.objs))
def ziY(H os:zf)(ns:List Nat):Bool:=
 (ns.all fun o=>(match look o H with|some (.row es)=>(AV.objsL es).all ns.contains|some (.acc _)=>decide (o<1000000)|some (.frz m)=>m.isNone&&decide (1000000<=o)|_=>false)&&(decide (o<1000000)||decide (o<1000000+os.length)))&&decide ((frs ns).length<=4)
def zkn(E:Env)(os:zf):Bool:=os.all fun p=>match look p.1 E with|some (.ref o 1 0)=>o==p.1|_=>false
def zcG(H:zf)(ns:List Nat):zf:=ns.map fun o=>(za4 ns o,((look o H).getD (.acc 0)).ren (za4 ns))
def zjJ(os:zf)(S:St)(v:AV)(ns:List Nat):Option (AV×zf):=
 if (ziY S.heap os ns&&zkn S.env os)=true then some (v.ren (za4 ns),zcG S.heap ns) else none
def zpe(os:zf)(S:St)(v:AV)(d:D):Option (AV×zf):=if zhB v.objs (zf5 S.heap os (.d d))=true then zjJ os S (.d d) (zf5 S.heap os (.d d)) else none
def ziC(sl:Bool)(os:zf)(S:St)(v:AV):Option (AV×zf):=if sl=true then (toD S.heap v).bind (zpe os S v) else zjJ os S v (zf5 S.heap os v)
def zff(sl:Bool)(rs:List za6)(os:zf)(p:zR×St):Option (AV×zf):=
 match p.1 with
 | .exit _=>none
 | .normal=>(zgA p.2 rs).bind (ziC sl os p.2)
 | .ret=>(zgA p.2 rs).bind (ziC sl os p.2)
def zc5(os:zf):Env:=os.map fun p=>(p.1,.ref p.1 1 0)
inductive AFn where
 | code (c:zw) (rs:List za6) (nt:Nat) (sl:Bool)
 | nils (c:zw) (rs:List za6) (nt:Nat)
 | ext (g:List AV->zf->Option (AV×zf))
def zeh(F:zaO)(n:Nat)(args:List AV)(os:zf)(c:zw)(rs:List za6)(nt:Nat)(sl:Bool):Option (AV×zf):=
 if args.length<=nt then (zb3 F n c ⟨enter args++zc5 os,os⟩).bind (zff sl rs os) else none
def zjW:Option (AV×zf)->Bool
 | some (.acc 0 [],[(0,.acc 0)])=>true
 | _=>false
def znW:List AV->Bool
 | [.d (.sl [])]=>true
 | _=>false
def ziX(F:zaO)(n:Nat)(args:List AV)(os:zf)(c:zw)(rs:List za6)(nt:Nat):Option (AV×zf):=
 if znW args&&os.isEmpty then
  if zjW (zeh F n [.nl true] [] c rs nt false)&&zjW (zeh F n [.nl false] [] c rs nt false) then some (.acc 0 [],[(0,.acc 0)]) else none
 else zeh F n args os c rs nt false
def fnF(F:zaO)(n:Nat)(args:List AV)(os:zf):AFn->Option (AV×zf)
 | .code c rs nt sl=>zeh F n args os c rs nt sl
 | .nils c rs nt=>ziX F n args os c rs nt
 | .ext g=>g args os
def zaQ(G:FuncId->Option AFn):Nat->zaO
 | 0=>fun _ _ _=>none
 | n+1=>fun f args os=>(G f).bind (fnF (zaQ G n) n args os)
def zho(P:Program)(f:FuncId):AFn->Prop
 | .code c rs nt _=>zdG P f=true/\∃fn hs,P.funcs[f]? = some fn/\fn.body.bind (comp P hs)=some c/\fn.body.map (zdd fn.ntmps)=some true/\fn.results.toList.mapM (zeQ P)=some rs/\fn.ntmps=nt/\nt<=1000000
 | .nils c rs nt=>zdG P f=true/\∃fn hs,P.funcs[f]? = some fn/\fn.body.bind (comp P hs)=some c/\fn.body.map (zdd fn.ntmps)=some true/\fn.results.toList.mapM (zeQ P)=some rs/\fn.ntmps=nt/\nt<=1000000
 | .ext g=>∀args os r os',g args os=some (r,os')->(∀p∈os,∃es,p.2= .row es)->(∀i p,os[i]? = some p->p.1=1000000+i)->zdG P f=true/\GF P f args os r os'/\WF os.length r os'
def zCT:zC->List (Nat×List Bool)
 | ⟨some d,.call _ (m::ms) _,_⟩=>[(d,m::ms)]
 | ⟨some d,.callv _ (m::ms) _,_⟩=>[(d,m::ms)]
 | _=>[]
def zCR:zC->List Nat
 | ⟨some d,.nacc,_⟩=>[d]
 | _=>[]
def zal.add(x y:zal):zal:=⟨x.kill++y.kill,x.ghost++y.ghost,x.obj++y.obj,x.acc++y.acc,x.loop++y.loop,x.exit++y.exit,if x.ret.isEmpty then y.ret else x.ret⟩
def hof:Code->zw->zal
 | .region id _ _,.ops gs l ks=>{ kill:=[(id,ks)],ghost:=[(id,gs)],obj:=l.flatMap zCT,acc:=l.flatMap zCR }
 | .region id _ _,.draw gs l _ ks=>{ kill:=[(id,ks)],ghost:=[(id,gs)],obj:=l.flatMap zCT,acc:=l.flatMap zCR }
 | .seq a b,.seq x y=>(hof a x).add (hof b y)
 | .cond _ a b,.cond _ x y=>(hof a x).add (hof b y)
 | .block _ a,.block _ x=>hof a x
 | .loop a,.loop ks x=>({ loop:=[(zjK a,ks)] }:zal).add (hof a x)
 | .exit id,.exit _ ks=>{ exit:=[(id,ks)] }
 | .ret,.ret ks=>{ ret:=ks }
 | _,_=>{}
def znS(fn:Func)(c:zw):zal:=match fn.body with|some b=>hof b c|none=>{}
theorem zS6{ns:List Nat}{o o':Nat}(h:o∈frs ns)(h':o'∈frs ns)(e:pos o (frs ns)=pos o' (frs ns)):o=o':=by
 have h1:=zme h;have h2:=zme h';rw[e,h2] at h1;exact (Option.some.inj h1).symm
theorem zC1{ns:List Nat}{o o':Nat}(h:o∈ns)(h':o'∈ns)(hl:(frs ns).length<=4)(e:za4 ns o=za4 ns o'):o=o':=by
 have mem:∀ {o:Nat},o∈ns->¬1000000<=o->o∈frs ns:=fun h h1=>z0y.2 ⟨h,by simp;omega⟩;unfold za4 at e
 split at e<;>split at e
 ·exact e
 ·rename_i h1 h2;have:=zgy (mem h' h2);omega
 ·rename_i h1 h2;have:=zgy (mem h h1);omega
 ·rename_i h1 h2;exact zS6 (mem h h1) (mem h' h2) e
theorem zkc{H:zf}{ns:List Nat}(hl:(frs ns).length<=4){o:Nat}(h:o∈ns):look (za4 ns o) (zcG H ns)=some (((look o H).getD (.acc 0)).ren (za4 ns)):=by
 have key:∀(l:List Nat),(∀x∈l,x∈ns)->o∈l->look (za4 ns o) (l.map fun o=>(za4 ns o,((look o H).getD (.acc 0)).ren (za4 ns)))=some (((look o H).getD (.acc 0)).ren (za4 ns)):=by
  intro l
  induction l with
  | nil=>intro _ h;cases h
  | cons x l ih=>
   intro hs ho;simp only[zYU,look]
   by_cases e:za4 ns x=za4 ns o
   ·have hx:x=o:=zC1 (hs x (.head _)) h hl e;subst hx;simp
   ·rw[zYP e];refine ih (fun y hy=>hs y (.tail _ hy)) ?_
    cases ho with
    | head=>exact absurd rfl e
    | tail _ ho=>exact ho
 exact key ns (fun _ h=>h) h
theorem zRj{H:zf}{ns:List Nat}{n:Nat}{ob:Obj}(h:(n,ob)∈zcG H ns):∃o∈ns,n=za4 ns o/\ob=((look o H).getD (.acc 0)).ren (za4 ns):=by
 simp only[zcG,zY0] at h;obtain⟨o,ho,he⟩:=h
 cases he
 exact⟨o,ho,rfl,rfl⟩
theorem zJ4{sl:Bool}{rs:List za6}{os:zf}{e:zR}{S:St}{r:AV}{os':zf}(h:zff sl rs os (e,S)=some (r,os')):∃v0 v ns,(∀i,e≠ .exit i)/\zgA S rs=some v0/\((v=v0)\/(∃d,v= .d d/\toD S.heap v0=some d/\zhB v0.objs ns=true))/\
    ns=zf5 S.heap os v/\ziY S.heap os ns=true/\zkn S.env os=true/\r=v.ren (za4 ns)/\os'=zcG S.heap ns:=by
 have fin:∀ {v:AV},zjJ os S v (zf5 S.heap os v)=some (r,os')->ziY S.heap os (zf5 S.heap os v)=true/\zkn S.env os=true/\r=v.ren (za4 (zf5 S.heap os v))/\os'=zcG S.heap (zf5 S.heap os v):=fun h2=>by
  unfold zjJ at h2
  split at h2
  ·rename_i hc;simp only[zY6] at hc
   cases h2
   exact⟨hc.1,hc.2,rfl,rfl⟩
  ·cases h2
 have key:(zgA S rs).bind (ziC sl os S)=some (r,os')->∃v0 v ns,zgA S rs=some v0/\((v=v0)\/(∃d,v= .d d/\toD S.heap v0=some d/\zhB v0.objs ns=true))/\ns=zf5 S.heap os v/\ziY S.heap os ns=true/\zkn S.env os=true/\r=v.ren (za4 ns)/\os'=zcG S.heap ns:=fun h=>by
  obtain⟨v,h1,h2⟩:=zYR.1 h;unfold ziC at h2
  split at h2
  ·obtain⟨d,h3,h4⟩:=zYR.1 h2;unfold zpe at h4
   split at h4
   ·rename_i hd;exact⟨v,.d d,_,h1,.inr ⟨d,rfl,h3,hd⟩,rfl,fin h4⟩
   ·cases h4
  ·exact⟨v,v,_,h1,.inl rfl,rfl,fin h2⟩
 cases e with
 | exit i=>cases h
 | normal=>obtain⟨v0,v,ns,h⟩:=key h;exact⟨v0,v,ns,nofun,h⟩
 | ret=>obtain⟨v0,v,ns,h⟩:=key h;exact⟨v0,v,ns,nofun,h⟩
theorem znI {F:zaO} (hF:FOK P F) {n:Nat} {f:FuncId} {c:zw} {rs:List za6} {nt:Nat} {sl:Bool} (hfn:zho P f (.code c rs nt sl)) {args:List AV} {os:zf} {r:AV} {os':zf}
    (h:fnF F n args os (.code c rs nt sl)=some (r,os')) (hrow:∀p∈os,∃es,p.2= .row es) (hnm:∀i p,os[i]? = some p->p.1=1000000+i):GF P f args os r os'/\WF os.length r os':=by
 obtain⟨_,fn,hs,hf,hc,hsl,hrs,hnt,hle⟩:=hfn;obtain⟨body,hb,hc⟩:=zYR.1 hc;rw[hb] at hsl;have hsl:zdd fn.ntmps body=true:=by simpa using hsl
 simp only[fnF,zeh] at h
 split at h
 rotate_left
 ·cases h
 rename_i hlen;obtain⟨⟨e,S'⟩,hex,hfin⟩:=zYR.1 h;obtain⟨v0,v,ns,hne,hres,hvv,hns,hout,hgh,rfl,rfl⟩:=zJ4 hfin;simp only[ziY,zY6,decide_eq_true_eq] at hout;obtain⟨hall,hl4⟩:=hout;have hobj:∀o∈ns,(∃es,look o S'.heap=some (.row es)/\∀q∈AV.objsL es,q∈ns)\/(∃m,look o S'.heap=some (.acc m)/\o<1000000)\/(look o S'.heap=some (.frz none)/\1000000<=o):=fun o ho=>by
  have:=zZi.1 hall o ho;simp only[zY6] at this;have h1:=this.1
  split at h1
  ·rename_i es hes;exact .inl ⟨es,hes,fun q hq=>by simpa using zZi.1 h1 q hq⟩
  ·rename_i m hm;exact .inr (.inl ⟨m,hm,by simpa using h1⟩)
  ·rename_i m hm;simp only[zY6,Option.isNone_iff_eq_none,decide_eq_true_eq] at h1;exact .inr (.inr ⟨by rw[hm,h1.1],h1.2⟩)
  ·cases h1
 have hrange:∀o∈ns,o<1000000\/o<1000000+os.length:=fun o ho=>by
  have:=zZi.1 hall o ho;simp only[zY6,zZM,decide_eq_true_eq] at this;exact this.2
 have hvns:∀q,v.refs q=true->q∈ns:=fun q hq=>by
  rw[hns];exact zfJ _ _ (zfJ _ _ (zt4 _ _ (zpa v q hq)))
 have hosns:∀p∈os,p.1∈ns:=fun p hp=>by
  rw[hns];exact zfJ _ _ (zfJ _ _ (zfJ _ _ (z0T hp)))
 have hname:∀ {o},(look o os).isSome=true->1000000<=o/\o<1000000+os.length/\o∈ns:=fun {o} ho=>by
  obtain⟨ob,hob⟩:=z0x.1 ho;obtain⟨i,hi⟩:=zZD (zar hob);have:=hnm i _ hi;simp only at this;have hlt:=(zY7.1 hi).1;exact⟨by omega,by omega,hosns _ (zar hob)⟩
 have hcl:∀o ob,o∈ns->look o S'.heap=some ob->∀q,ob.refs q=true->q∈ns:=fun o ob ho hob q hq=>by
  rcases hobj o ho with ⟨es,h1,h2⟩|⟨m,h1,_⟩|⟨h1,_⟩
  ·rw[hob] at h1;cases h1;exact h2 q (zi8 es q hq)
  ·rw[hob] at h1;cases h1;cases hq
  ·rw[hob] at h1;cases h1;cases hq
 have hid:∀ {o},1000000<=o->za4 ns o=o:=fun h=>by simp [za4,h]
 have hlookn:∀o∈ns,∃ob,look o S'.heap=some ob/\look (za4 ns o) (zcG S'.heap ns)=some (ob.ren (za4 ns)):=fun o ho=>by
  rcases hobj o ho with ⟨es,h1,_⟩|⟨m,h1,_⟩|⟨h1,_⟩
  ·exact⟨_,h1,by rw[zkc hl4 ho,h1];rfl⟩
  ·exact⟨_,h1,by rw[zkc hl4 ho,h1];rfl⟩
  ·exact⟨_,h1,by rw[zkc hl4 ho,h1];rfl⟩
 have hmemo:∀n ob,(n,ob)∈zcG S'.heap ns->∃o∈ns,n=za4 ns o/\∃ob0,look o S'.heap=some ob0/\ob=ob0.ren (za4 ns):=fun n ob hm=>by
  obtain⟨o,ho,h1,h2⟩:=zRj hm;obtain⟨ob0,h3,_⟩:=hlookn o ho;exact⟨o,ho,h1,ob0,h3,by rw[h2,h3];rfl⟩
 have hisn:∀n,(look n (zcG S'.heap ns)).isSome=true->∃o∈ns,n=za4 ns o:=fun n hn=>by
  obtain⟨ob,hob⟩:=z0x.1 hn;obtain⟨o,ho,h1,_⟩:=hmemo n ob (zar hob);exact⟨o,ho,h1⟩
 have hisS:∀o∈ns,(look (za4 ns o) (zcG S'.heap ns)).isSome=true:=fun o ho=>by
  obtain⟨ob,_,h2⟩:=hlookn o ho;simp [h2]
 refine⟨?_,?_⟩;rotate_left
 ·refine⟨fun m hm=> ?_,fun i hi=> ?_,fun q hq=> ?_,fun m ob hm q hq=> ?_⟩
  ·obtain⟨o,ho,rfl⟩:=hisn m hm;unfold za4
   split
   ·rename_i h1
    rcases hrange o ho with h2|h2
    ·omega
    ·exact .inr ⟨h1,h2⟩
   ·rename_i h1;have:=zgy (show o∈frs ns from z0y.2 ⟨ho,by simp;omega⟩);exact .inl (by omega)
  ·have hi':os[i]? = some os[i]:=zY1 hi;have h1:=hnm i _ hi';have h2:=hosns _ (zZf hi');rw[h1] at h2
   rcases hobj _ h2 with ⟨es,h3,_⟩|⟨m,_,h3⟩|⟨h3,_⟩
   ·have:=zkc (H:=S'.heap) hl4 h2;rw[hid (by omega),h3] at this;exact .inl ⟨_,this⟩
   ·omega
   ·have:=zkc (H:=S'.heap) hl4 h2;rw[hid (by omega),h3] at this;exact .inr this
  ·obtain⟨q0,h1,rfl⟩:=ztb hq;exact hisS q0 (hvns q0 h1)
  ·obtain⟨o,ho,_,ob0,h2,rfl⟩:=hmemo m ob hm
   cases ob0 with
   | acc k=>simp [Obj.ren,Obj.refs] at hq
   | frz k=>simp [Obj.ren,Obj.refs] at hq
   | mp k=>simp [Obj.ren,Obj.refs] at hq
   | row es=>
    simp only[Obj.ren,Obj.refs] at hq;obtain⟨q0,h3,rfl⟩:=zDv hq;exact hisS q0 (hcl o _ ho h2 q0 h3)
 intro w R ι us hR hι hinj hob hl;obtain⟨hl,hg⟩:=hl;have hmark:∀o,(look o os).isSome=true->mark os o=none:=fun o ho=>by
  obtain⟨ob,hob'⟩:=z0x.1 ho;obtain⟨es,he⟩:=hrow _ (zar hob');simp only at he;subst he;simp [mark,hob']
 let C:Ctx:={ w0:=w,keep:=fun b=>b<w.heap.size/\∀o s,ι o≠some (b,s),R0:=R,n:=fn.ntmps,gh:=os.map fun p=>(match ι p.1 with|some (b,s)=>Value.pointer (some ⟨b,1 * s+0,none⟩)|none=>undef),le:=by omega }
 have hrel:Rel C ⟨enter args++zc5 os,os⟩ { tmps:=us.toArray++Array.replicate (fn.ntmps - us.toArray.size) undef,defers:=[] } w ι R:=by
  refine⟨rfl,by simp [C];omega,rfl,rfl,rfl,zZk _,fun _ _=>Blk.of_eq rfl,fun _ _=>rfl,fun _ h=>h.1,hR,fun b hb=> .inl hb,fun _ h=>h,fun o b s h=>⟨fun hk=>hk.2 o s h,(hι o b s h).1⟩,hinj,?_,hob⟩;intro t y hy
  rcases zZl.1 hy with hy|hy
  ·have ht:=zIP hy;have hlt:=(zY7.1 ht).1;have hu:us[t]? = some (us[t]'(by omega)):=zY1 _;refine⟨us[t]'(by omega),?_,hg t y _ ht hu⟩;simp only[zeC];rw[zYQ (by omega),z1J (by simp;omega)];simp only[z1p];exact hu
  ·obtain⟨p,hm,he⟩:=zY0.1 hy
   cases he
   obtain⟨i,hi⟩:=zZD hm;have hn1:=hnm i p hi;obtain⟨es,hes⟩:=hrow p hm;have ho:=hob p.1 p.2 hm;rw[hes] at ho
   cases ho with
   | @row _ b s c' T h1 h2 h3 h4 h5 h6 h7=>
    refine⟨.pointer (some ⟨b,1 * s+0,none⟩),?_,.ref h1 (hmark _ (hι _ _ _ h1).2.2)⟩;simp only[zeC];rw[zYP (by omega),hn1,Nat.add_sub_cancel_left];simp only[C,zZa,hi,zZv,h1]
 refine calls_of_wp hf hb (wp_mono (zJl (C:=C) hF body hc hsl hex hrel) ?_);rintro ex a' w' ⟨rfl,ι',R',hr'⟩
 -- the zfh tell that the objects lie where they lay
 have hkeep:∀o b s,ι o=some (b,s)->ι' o=some (b,s):=fun o b s ho=>by
  obtain⟨ob,hob'⟩:=z0x.1 (hι o b s ho).2.2;obtain⟨i,hi⟩:=zZD (zar hob');have hn1:=hnm i _ hi;simp only at hn1;have:=zZi.1 hgh _ (zar hob')
  split at this
  ·rename_i o2 hlk;simp only[beq_iff_eq] at this;subst this;obtain⟨u,k1,k2⟩:=hr'.env _ _ (zar hlk);simp only[zeC] at k1;rw[zYP (by omega)] at k1;have hidx:o2 - 1000000=i:=by omega
   rw[hidx] at k1;simp only[C,zZa,hi,zZv,ho,Option.some.injEq] at k1;subst k1;generalize hv:Value.pointer (some ⟨b,1 * s+0,none⟩)=pv at k2
   cases k2 with
   | ref h1 h2=>
    simp only[Value.pointer.injEq,Option.some.injEq,Addr.mk.injEq] at hv;obtain⟨rfl,hv,_⟩:=hv;rw[h1];simp at hv;rw[hv]
  ·cases this
 obtain⟨u,k1,k2⟩:=zUA hr' hrs hres;have hseal:∃R2:Nat->Prop,(∀b,R' b->R2 b)/\(∀b,R2 b->R' b\/∃o s,o∉ns/\ι' o=some (b,s))/\VA w' R2 ι' (mark S'.heap) v u:=by
  rcases hvv with rfl|⟨d,rfl,hd,hdis⟩
  ·exact⟨R',fun _ h=>h,fun _ h=> .inl h,k2⟩
  ·refine⟨zeL R' ι' v0.objs,fun _ h=> .inl h,fun b hb=> ?_,.d (zkT hr' k2 hd fun _ h=>h)⟩
   rcases hb with hb|⟨o,s,ho,hb⟩
   ·exact .inl hb
   ·refine .inr ⟨o,s,?_,hb⟩;have:=zZi.1 hdis o ho;simpa using this
 obtain⟨R2,hR2,hR2i,k2⟩:=hseal;have hnR:∀o b s,ι o=some (b,s)->R' b->look o (zcG S'.heap ns)=some (.frz none):=fun o b s ho hb=>by
  obtain⟨h1,_,h2⟩:=hname (hι o b s ho).2.2
  rcases hobj o h2 with ⟨es,h3,_⟩|⟨m,_,h3⟩|⟨h3,_⟩
  ·cases hr'.heap _ _ (zar h3) with
   | row h4 h5=>rw[hkeep o b s ho] at h4;cases h4;exact absurd hb h5
  ·omega
  ·have:=zkc (H:=S'.heap) hl4 h2;rw[hid (by omega),h3] at this;exact this
 have hold:∀b,¬C.keep b->(∃o s,ι o=some (b,s))\/w.heap.size<=b:=fun b hb=>by
  by_cases hlt:b<w.heap.size
  ·refine .inl (Classical.byContradiction fun hne=>hb ⟨hlt,fun o s ho=>hne ⟨o,s,ho⟩⟩)
  ·exact .inr (Nat.le_of_not_lt hlt)
 -- the names outside
 have hback:∃back:Nat->Nat,∀o∈ns,back (za4 ns o)=o:=by
  have hpt:∀m,∃o,∀o'∈ns,za4 ns o'=m->o'=o:=fun m=>by
   by_cases h:∃o∈ns,za4 ns o=m
   ·obtain⟨o,ho,h1⟩:=h;exact⟨o,fun o' ho' h2=>zC1 ho' ho hl4 (h2.trans h1.symm)⟩
   ·exact⟨0,fun o' ho' h2=>absurd ⟨o',ho',h2⟩ h⟩
  obtain⟨g,hg⟩:=Classical.axiomOfChoice hpt;exact⟨g,fun o ho=>(hg _ o ho rfl).symm⟩
 obtain⟨back,hback⟩:=hback
 let ι2:Inj:=fun m=>if (look m (zcG S'.heap ns)).isSome=true then ι' (back m) else none
 have hι2:∀o∈ns,ι2 (za4 ns o)=ι' o:=fun o ho=>by simp only[ι2];rw[zYQ (hisS o ho),hback o ho]
 have hι2i:∀m b s,ι2 m=some (b,s)->∃o∈ns,m=za4 ns o/\ι' o=some (b,s):=fun m b s hm=>by
  simp only[ι2] at hm
  split at hm
  ·rename_i h1;obtain⟨o,ho,rfl⟩:=hisn m h1;rw[hback o ho] at hm;exact⟨o,ho,rfl,hm⟩
  ·cases hm
 have hmk2:∀o∈ns,mark (zcG S'.heap ns) (za4 ns o)=mark S'.heap o:=fun o ho=>by
  obtain⟨ob,h1,h2⟩:=hlookn o ho;unfold mark;rw[h1,h2]
  cases ob<;>rfl
 have fin:a'.defers=[]/\∃v',(results fn a'.tmps).run P w'= .ok v' w'/\∃(u:Value) (ι':Inj) (R':Nat->Prop),Ending.returned v'= .returned u/\w'.os=w.os/\w'.tape=w.tape/\w'.output=w.output/\w.heap.size<=w'.heap.size/\
     (∀b,b<w.heap.size->Blk w w' b 0)/\(∀b,b<w.heap.size->(∀o s,ι o≠some (b,s))->w'.heap[b]? = w.heap[b]?)/\(∀b,R b->R' b)/\(∀b,R' b->b<w'.heap.size/\(R b\/w.heap.size<=b\/∃o s,ι o=some (b,s)/\look o (zcG S'.heap ns)=some (.frz none)))/\
     (∀o b s,ι o=some (b,s)->ι' o=some (b,s))/\(∀o b s,ι' o=some (b,s)->b<w'.heap.size/\(ι o=some (b,s)\/w.heap.size<=b))/\(∀o o' b s s',ι' o=some (b,s)->ι' o'=some (b,s')->o=o')/\
     (∀o ob,(o,ob)∈zcG S'.heap ns->OB w' R' ι' (mark (zcG S'.heap ns)) o ob)/\VA w' R' ι' (mark (zcG S'.heap ns)) (v.ren (za4 ns)) u:=by
  refine⟨hr'.defers,u,k1,u,ι2,R2,rfl,hr'.os,hr'.tape,hr'.output,hr'.grow,hr'.len,fun b hb hno=>hr'.keep b ⟨hb,hno⟩,fun b hb=>hR2 b (hr'.r0 b hb),fun b hb=> ?_,fun o b s ho=> ?_,fun m b s hm=> ?_,fun m m' b s s' h1 h2=> ?_,fun m ob hm=> ?_,?_⟩
  ·rcases hR2i b hb with hb|⟨o,s,hno,hb⟩
   ·refine⟨hr'.rlt b hb,?_⟩
    rcases hr'.rok b hb with h1|h1
    ·exact .inl h1
    ·rcases hold b h1 with ⟨o,s,ho⟩|h2
     ·exact .inr (.inr ⟨o,s,ho,hnR o b s ho hb⟩)
     ·exact .inr (.inl h2)
   ·have hown:=hr'.own o b s hb;refine⟨hown.2,?_⟩
    rcases hold b hown.1 with ⟨o2,s2,ho2⟩|h2
    ·have:=hr'.inj _ _ _ _ _ hb (hkeep o2 b s2 ho2);subst this;exact absurd (hname (hι _ _ _ ho2).2.2).2.2 hno
    ·exact .inr (.inl h2)
  ·obtain⟨h1,_,h2⟩:=hname (hι o b s ho).2.2;have:=hι2 o h2;rw[hid h1] at this;rw[this];exact hkeep o b s ho
  ·obtain⟨o,ho,rfl,h1⟩:=hι2i m b s hm;refine⟨(hr'.own o b s h1).2,?_⟩
   rcases hold b (hr'.own o b s h1).1 with ⟨o0,s0,h0⟩|h2
   ·have h3:=hkeep o0 b s0 h0;have:=hr'.inj _ _ _ _ _ h1 h3;subst this;rw[h1] at h3;cases h3;have hge:=(hname (hι _ _ _ h0).2.2).1;rw[hid hge];exact .inl h0
   ·exact .inr h2
  ·obtain⟨o,ho,rfl,h3⟩:=hι2i m b s h1;obtain⟨o',ho',rfl,h4⟩:=hι2i m' b s' h2;rw[hr'.inj _ _ _ _ _ h3 h4]
  ·obtain⟨o,ho,rfl,ob0,h2,rfl⟩:=hmemo m ob hm;have hob2:OB w' R2 ι' (mark S'.heap) o ob0:=by
    have hnR2:∀b s,ι' o=some (b,s)->¬R' b->¬R2 b:=fun b s ho' hn hb=>by
     rcases hR2i b hb with hb|⟨o2,s2,hno,hb⟩
     ·exact hn hb
     ·have:=hr'.inj _ _ _ _ _ ho' hb;subst this;exact hno ho
    cases hr'.heap o ob0 (zar h2) with
    | row k1 k2 k3 k4 k5 k6 k7=>exact .row k1 (hnR2 _ _ k1 k2) k3 k4 k5 k6 fun i e he j x hx=>let ⟨j1,q,j2,j3⟩:=k7 i e he j x hx;⟨j1,q,j2,j3.toR (.inl hR2)⟩
    | acc k1 k2 k3 k4 k5 k6=>exact .acc k1 k2 (hnR2 _ _ k2 k3) k4 k5 k6
    | accN k1=>exact .accN k1
    | frz k1=>exact .frz fun b s hb=>⟨hR2 _ (k1 b s hb).1,(k1 b s hb).2⟩
    | mp k1 k2 k3 k4 k5 k6=>exact .mp k1 (hnR2 _ _ k1 k2) k3 k4 k5 fun i k x hi=>let ⟨e,j1,j2,j3⟩:=k6 i k x hi;⟨e,j1,j2,j3.mono_v hR2 fun _ _=>rfl⟩
   exact hob2.ren (hι2 o ho) fun q hq=>by
    have hq':=hcl o ob0 ho h2 q hq;exact⟨fun p hp=>by rw[hι2 q hq'];exact hp,hmk2 q hq'⟩
  ·exact k2.ren fun q hq=>by
      have hq':=hvns q hq;exact⟨fun p hp=>by rw[hι2 q hq'];exact hp,hmk2 q hq'⟩
 cases e with
 | normal=>exact fin
 | ret=>exact fin
 | exit i=>exact absurd rfl (hne i)
def GOK(P:Program)(G:FuncId->Option AFn):Prop:=∀f fn,G f=some fn->zho P f fn
theorem zGi{G:FuncId->Option AFn}(hG:GOK P G):∀n,FOK P (zaQ G n):=by
 intro n
 induction n with
 | zero=>intro f args os r os' h;cases h
 | succ n ih=>
  intro f args os r os' h0 h1 h2;obtain⟨fn,hf,h⟩:=zYR.1 h0;clear h0;have hok:=hG f fn hf
  cases fn with
  | code c rs nt sl=>exact⟨hok.1,znI ih hok h h1 h2⟩
  | nils c rs nt=>
   refine⟨hok.1,?_⟩;simp only[fnF,ziX] at h
   split at h
   ·rename_i he;simp only[zY6,z1q] at he;obtain⟨he,rfl⟩:=he;have hargs:args=[.d (.sl [])]:=by
     unfold znW at he
     split at he
     ·rfl
     ·cases he
    split at h
    ·rename_i hn;subst hargs;simp only[zY6] at hn;have h:=Option.some.inj h
     cases h
     have new0:∀ {x:Option (AV×zf)},zjW x=true->x=some (.acc 0 [],[(0,.acc 0)]):=fun {x} hx=>by
      unfold zjW at hx
      split at hx
      ·rfl
      ·cases hx
     obtain⟨g1,w1⟩:=znI (c:=c) (rs:=rs) (nt:=nt) (sl:=false) ih hok (new0 hn.1) (by simp) (by simp);obtain⟨g2,_⟩:=znI (c:=c) (rs:=rs) (nt:=nt) (sl:=false) ih hok (new0 hn.2) (by simp) (by simp);refine⟨fun w R ι us hR hι hinj hob hv=> ?_,w1⟩;obtain⟨hl,hg⟩:=hv
     match us,hl with
     | [u],_=>
      have hu:=hg 0 _ u rfl rfl
      cases hu with
      | d hu=>
       cases hu with
       | @sl0 a cap=>
        cases a with
        | none=>exact g1 w R ι _ hR hι hinj hob ⟨rfl,fun i x u hx hu=>by
            match i,hx,hu with
            | 0,hx,hu=>simp at hx hu;subst hx hu;exact .nl1
            | n+1,hx,hu=>simp at hx⟩
        | some a=>exact g2 w R ι _ hR hι hinj hob ⟨rfl,fun i x u hx hu=>by
            match i,hx,hu with
            | 0,hx,hu=>simp at hx hu;subst hx hu;exact .nl2
            | n+1,hx,hu=>simp at hx⟩
       | sl _ h0=>exact absurd rfl h0
    ·cases h
   ·exact znI (c:=c) (rs:=rs) (nt:=nt) (sl:=false) ih hok h h1 h2
  | ext g=>exact hok args os r os' h h1 h2
end Go.Sim
