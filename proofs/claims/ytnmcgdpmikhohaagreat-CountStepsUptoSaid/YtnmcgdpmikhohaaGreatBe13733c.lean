/-
  Functions.
-/
import Derived.Test.YtnmcgdpmikhohaaGreatB0a1ee04
import Derived.Deep.LoopGhost
set_option linter.unusedSimpArgs false
set_option linter.unusedVariables false
set_option maxHeartbeats 10000000
set_option maxRecDepth 100000
namespace Go.Sim
open Go (World Value Addr TypeId Act)
variable {P:Program} {C:Ctx} {F:zaU}
def zhS{α:Type}(p:Nat×α):List (Nat×α)->List (Nat×α)
 | []=>[p]
 | q::l=>if p.1<=q.1 then p::q::l else q::zhS p l
def zc8{α:Type}:List (Nat×α)->List (Nat×α)
 | []=>[]
 | p::l=>zhS p (zc8 l)
def gc(E:Env)(H:zd):zd->zd
 | []=>[]
 | p::l=>if (zaX p.1 E||zaq p.1 H)=true then p::gc E H l else gc E H l
def gc1(E:Env)(H:zd):zd:=gc E H H
def zhU(ks:List Nat):Env->Env
 | []=>[]
 | p::l=>if (ks.contains p.1||decide (1000000<=p.1))=true then p::zhU ks l else zhU ks l
def gcS(S:St):St:=⟨S.env,gc1 S.env S.heap⟩
def endS(ks:List Nat)(S:St):St:=gcS ⟨zc8 (zhU ks S.env),S.heap⟩
def ztF(H:zd):zd:=if zbN H=true then zc8 H else H
def zrg:AV->AV
 | .xsl es=> .d (.sl es)
 | .d x=> .d x
 | .ref o i off=> .ref o i off
 | .osl o off len=> .osl o off len
 | .acc o es=> .acc o es
 | .pe o x=> .pe o x
 | .agg cs=> .agg cs
 | .tup vs=> .tup vs
 | .fn f cs=> .fn f cs
 | .nl b=> .nl b
 | .mpr o=> .mpr o
 | .undef=> .undef
def deX:Env->Env
 | []=>[]
 | (t,x)::l=>(t,zrg x)::deX l
theorem zTK{w:World}{R:Nat->Prop}{ι:Inj}{mk:Nat->Option Nat}{x:AV}{u:Value}(h:VA w R ι mk x u):VA w R ι mk (zrg x) u:=by
 cases x with
 | xsl es=>cases h with|xsl h=>exact .d h
 | _=>exact h
theorem zZB{t:Nat}{y:AV}:∀ {E:Env},(t,y)∈deX E->∃x,(t,x)∈E/\y=zrg x:=by
 intro E
 induction E with
 | nil=>intro h;cases h
 | cons p l ih=>
  intro h
  cases h with
  | head=>exact⟨p.2,.head _,rfl⟩
  | tail _ h=>obtain⟨x,h1,h2⟩:=ih h;exact⟨x,.tail _ h1,h2⟩
def norm1(S:St):St:=⟨zc8 (deX S.env),ztF (gc1 S.env (gc1 S.env S.heap))⟩
def norm(ks:List Nat)(S:St):St:=norm1 ⟨zf2 ks S.env,S.heap⟩
theorem zZD{α:Type}{p q:Nat×α}{l:List (Nat×α)}:q∈zhS p l↔q=p\/q∈l:=by
 induction l with
 | nil=>simp [zhS]
 | cons r l ih=>
  simp only[zhS]
  split
  ·simp
  ·simp only[zab4,ih];constructor
   ·rintro (h|h|h)
    ·exact .inr (.inl h)
    ·exact .inl h
    ·exact .inr (.inr h)
   ·rintro (h|h|h)
    ·exact .inr (.inl h)
    ·exact .inl h
    ·exact .inr (.inr h)
theorem zmS{α:Type}{q:Nat×α}{l:List (Nat×α)}:q∈zc8 l↔q∈l:=by
 induction l with
 | nil=>simp [zc8]
 | cons p l ih=>simp [zc8,zZD,ih]
theorem zZf{α:Type}{k:Nat}{p:Nat×α}{l:List (Nat×α)}(h:∀x,(p.1,x)∉l):look k (zhS p l)=if p.1=k then some p.2 else look k l:=by
 induction l with
 | nil=>rfl
 | cons r l ih=>
  have hr:r.1≠p.1:=fun e=>h r.2 (by rw[<- e];exact .head _);simp only[zhS]
  split
  ·rfl
  ·simp only[look];rw[ih fun x hx=>h x (.tail _ hx)]
   by_cases e:r.1=k
   ·rw[zabo e,zabo e,zabn (by omega)]
   ·rw[zabn e,zabn e]
theorem zXx{E:Env}{H l:zd}{p:Nat×Obj}:p∈gc E H l↔p∈l/\(zaX p.1 E||zaq p.1 H)=true:=by
 induction l with
 | nil=>simp [gc]
 | cons q l ih=>
  simp only[gc]
  split
  ·rename_i h;simp only[zab4,ih];constructor
   ·rintro (rfl|⟨h1,h2⟩)
    ·exact⟨.inl rfl,h⟩
    ·exact⟨.inr h1,h2⟩
   ·rintro⟨rfl|h1,h2⟩
    ·exact .inl rfl
    ·exact .inr ⟨h1,h2⟩
  ·rename_i h;simp only[zab4,ih];constructor
   ·rintro⟨h1,h2⟩;exact⟨.inr h1,h2⟩
   ·rintro⟨rfl|h1,h2⟩
    ·exact absurd h2 h
    ·exact⟨h1,h2⟩
theorem zZe{E:Env}{H l:zd}{o:Nat}(h:(zaX o E||zaq o H)=true):look o (gc E H l)=look o l:=by
 induction l with
 | nil=>rfl
 | cons q l ih=>
  simp only[gc]
  by_cases hq:(zaX q.1 E||zaq q.1 H)=true
  ·rw[zabo hq];simp only[look,ih]
  ·rw[zabn hq,ih];simp only[look];rw[zabn];intro e;rw[e] at hq;exact hq h
theorem Rel.gc{S:St}{a:Act}{w:World}{ι:Inj}{R:Nat->Prop}(h:Rel C S a w ι R):Rel C ⟨S.env,gc1 S.env S.heap⟩ a w ι R:=by
 have hm:∀p,(zaX p S.env||zaq p S.heap)=true->mark (gc1 S.env S.heap) p=mark S.heap p:=fun p hp=>by
  unfold mark gc1;rw[zZe hp]
 have hst:∀p,(zaX p S.env||zaq p S.heap)=true->Step w w ι ι (mark S.heap) (mark (gc1 S.env S.heap)) p:=fun p hp=>Step.other rfl (hm p hp) fun _ _ _=>rfl;have env1:∀ {t x p},(t,x)∈S.env->x.refs p=true->zaX p S.env=true:=fun {t x p} hx hp=>by
  cases hh:zaX p S.env with
  | true=>rfl
  | false=>rw[znm hx hh] at hp;cases hp
 have heap1:∀ {t x p},(t,x)∈S.heap->x.refs p=true->zaq p S.heap=true:=fun {t x p} hx hp=>by
  cases hh:zaq p S.heap with
  | true=>rfl
  | false=>rw[zhd hx hh] at hp;cases hp
 refine { h with env:=fun t x hx=> ?_,heap:=fun q ob hq=> ?_ }
 ·obtain⟨u,h1,h2⟩:=h.env t x hx;exact⟨u,h1,h2.mono (fun _ h=>h) (fun _ _=>rfl) fun p hp=>hst p (by rw[env1 hx hp];rfl)⟩
 ·have hq':=(zXx.1 hq).1;exact (h.heap q ob hq').mono (fun _ h=>h) (fun _ _=>rfl) (fun _ _ hb=>⟨hb,rfl,fun h=>h⟩) (fun h=>h) fun p hp=>hst p (by rw[heap1 hq' hp,Bool.or_true])
theorem zZE{ks:List Nat}{E:Env}{p:Nat×AV}(h:p∈zhU ks E):p∈E:=by
 induction E with
 | nil=>cases h
 | cons q l ih=>
  simp only[zhU] at h
  split at h
  ·cases h with
   | head=>exact .head _
   | tail _ h=>exact .tail _ (ih h)
  ·exact .tail _ (ih h)
theorem Rel.endS{S:St}{a:Act}{w:World}{ι:Inj}{R:Nat->Prop}(h:Rel C S a w ι R)(ks:List Nat):Rel C (endS ks S) a w ι R:=by
 have h1:Rel C ⟨zc8 (zhU ks S.env),S.heap⟩ a w ι R:=h.weaken fun t x hx=>zZE (zmS.1 hx);exact h1.gc
theorem zZy{H:zd}{o:Nat}(hn:zbN H=true):mark (zc8 H) o=mark H o:=by
 have:look o (zc8 H)=look o H:=by
  induction H with
  | nil=>rfl
  | cons p l ih=>
   obtain⟨k,ob⟩:=p;simp only[zbN,zabH,zace] at hn;simp only[zc8];rw[zZf,ih hn.2]
   ·rfl
   ·intro x hx;rw[zmS] at hx;have:=zacC.1 hn.1 _ hx;simp at this
 unfold mark;rw[this]
theorem Rel.sorted{S:St}{a:Act}{w:World}{ι:Inj}{R:Nat->Prop}(h:Rel C S a w ι R)(hn:zbN S.heap=true):Rel C ⟨zc8 S.env,zc8 S.heap⟩ a w ι R:=by
 have hm:mark (zc8 S.heap)=mark S.heap:=funext fun o=>zZy hn;refine { h with env:=fun t x hx=> ?_,heap:=fun q ob hq=> ?_ }
 ·rw[hm];exact h.env t x (zmS.1 hx)
 ·rw[hm];exact h.heap q ob (zmS.1 hq)
theorem Rel.norm1{S:St}{a:Act}{w:World}{ι:Inj}{R:Nat->Prop}(h:Rel C S a w ι R):Rel C (norm1 S) a w ι R:=by
 have h0:Rel C ⟨S.env,gc1 S.env (gc1 S.env S.heap)⟩ a w ι R:=(h.gc).gc;have h1:Rel C ⟨deX S.env,gc1 S.env (gc1 S.env S.heap)⟩ a w ι R:=by
  refine { h0 with env:=fun t x hx=> ?_ };obtain⟨y,hy,rfl⟩:=zZB hx;obtain⟨u,h2,h3⟩:=h0.env t y hy;exact⟨u,h2,zTK h3⟩
 unfold Go.Sim.norm1 ztF
 split
 ·rename_i hn;exact h1.sorted hn
 ·exact { h1 with env:=fun t x hx=>h1.env t x (zmS.1 hx) }
theorem Rel.norm{S:St}{a:Act}{w:World}{ι:Inj}{R:Nat->Prop}(h:Rel C S a w ι R)(ks:List Nat):Rel C (norm ks S) a w ι R:=(h.kill ks).norm1
def zdT(n:Nat):Code->Bool
 | .region _ ops _=>ops.toList.all fun o=>match o.dst with|none=>true|some d=>d<n
 | .seq a b=>zdT n a&&zdT n b
 | .cond _ a b=>zdT n a&&zdT n b
 | .block _ b=>zdT n b
 | .loop b=>zdT n b
 | _=>true
theorem zQF{n id:Nat}{ops:Array Oper}{d:Bool}(h:zdT n (.region id ops d)=true):∀o∈ops.toList,∀d,o.dst=some d->d<n:=by
 intro o ho d hd;have:=zabO.1 h o ho;simpa [hd] using this
def zbu(F:zaU):List zK->St->Option St
 | [],S=>some S
 | o::l,S=>
  match o.guard with
  | none=>(zdq F o S).bind (zbu F l)
  | some (t,b)=>
   match look t S.env with
   | some (.d (.bool c))=>if c=b then (zdq F o S).bind (zbu F l) else zbu F l (S.put o.dst (.d (.tup [])))
   | some (.d (.tup []))=>zbu F l (S.put o.dst (.d (.tup [])))
   | _=>none
def ziT(ks:List Nat)(S:St):zX×St:=(.normal,⟨zf2 ks S.env,S.heap⟩)
def zhh(g:St->Option (zX×St))(p:zX×St):Option (zX×St):=match p.1 with| .normal=>g p.2| .exit i=>some (.exit i,p.2)| .ret=>some (.ret,p.2)
def zix(id:Nat)(p:zX×St):zX×St:=match p.1 with| .exit i=>if i=id then (.normal,p.2) else (.exit i,p.2)| .normal=>(.normal,p.2)| .ret=>(.ret,p.2)
def zc0(ks:List Nat)(g:St->Option (zX×St))(p:zX×St):Option (zX×St):=match p.1 with| .normal=>g (norm ks p.2)| .exit i=>some (.exit i,p.2)| .ret=>some (.ret,p.2)
def zeh(ks:List Nat)(body:St->Option (zX×St)):Nat->St->Option (zX×St)
 | 0,_=>none
 | k+1,S=>(body S).bind (zc0 ks (zeh ks body k))
def zhz(c:AV)(x y:Option (zX×St)):Option (zX×St):=match c with| .d (.bool b)=>if b=true then x else y|_=>none
def zbX(F:zaU)(n:Nat):zg->St->Option (zX×St)
 | .skip,S=>some (.normal,S)
 | .ops gs l ks,S=>((zfb gs S).bind (zbu F l)).map (ziT ks)
 | .draw gs l fr ks,S=>((zfb gs S).bind (zfQ F l fr)).map (ziT ks)
 | .seq x y,S=>(zbX F n x S).bind (zhh (zbX F n y))
 | .cond c x y,S=>zhz (c.ev S.env) (zbX F n x S) (zbX F n y S)
 | .block id x,S=>(zbX F n x S).map (zix id)
 | .loop ks x,S=>zeh ks (zbX F n x) n (norm ks S)
 | .exit id ks,S=>some (.exit id,endS ks S)
 | .ret ks,S=>some (.ret,endS ks S)
def ziJ:Code->Nat
 | .region id _ _=>id
 | .seq a _=>ziJ a
 | .block _ b=>ziJ b
 | .loop b=>ziJ b
 | _=>1000000
def comp(P:Program)(hs:zn):Code->Option zg
 | .skip=>some .skip
 | .region id ops false=>(ops.toList.mapM (ze3 P hs ops)).map fun l=> .ops (zec hs.ghost id) l (zec hs.kill id)
 | .region id ops true=>(ops.toList.mapM (ze3 P hs ops)).bind fun l=>if P.follows .mixedOrders&&zGR ops l then some (.draw (zec hs.ghost id) l ((List.range ops.size).map (zgO ops)) (zec hs.kill id)) else none
 | .seq a b=>match comp P hs a,comp P hs b with|some x,some y=>some (.seq x y)|_,_=>none
 | .cond c t e=>match opd c,comp P hs t,comp P hs e with|some z,some x,some y=>some (.cond z x y)|_,_,_=>none
 | .block id b=>(comp P hs b).map (.block id)
 | .loop b=>(comp P hs b).map (.loop (zec hs.loop (ziJ b)))
 | .exit id=>some (.exit id (zec hs.exit id))
 | .ret=>some (.ret hs.ret)
 | _=>none
def zDk(C:Ctx)(e:zX)(S:St):Exit->Act->World->Prop:=fun ex a w=>ex=Out e/\∃ι R,Rel C S a w ι R
theorem zVp(hF:FOK P F){hs:zn}{ops:Array Oper}{Q:Exit->Act->World->Prop}{S':St}(hn:∀a w ι R,Rel C S' a w ι R->Q .normal a w)(hd:∀o∈ops.toList,∀d,o.dst=some d->d<C.n):
    ∀(l:List zK) (k:Nat),(ops.toList.drop k).mapM (ze3 P hs ops)=some l->∀(S:St) (a:Act) (w:World) (ι:Inj) (R:Nat->Prop),zbu F l S=some S'->Rel C S a w ι R->wpOps P ops Q (List.range' k (ops.size - k)) a w:=by
 intro l
 induction l with
 | nil=>
  intro k hk S a w ι R h hr;have hlen:=(zeT hk).1;simp at hlen;have:ops.size - k=0:=by simpa using hlen.symm
  rw[this]
  cases h
  exact hn a w ι R hr
 | cons x l ih=>
  intro k hk S a w ι R h hr;obtain⟨hl,hg⟩:=zeT hk;have hlt:k<ops.size:=by simp at hl;omega
  have hsz:ops.size - k=(ops.size - (k+1))+1:=by omega
  have hok:ops[k]? = some ops[k]:=zad6 hlt;have hx:=hg 0 ops[k] x (by simp [hlt]) rfl;have hk':(ops.toList.drop (k+1)).mapM (ze3 P hs ops)=some l:=by
   have hdrop:ops.toList.drop k=ops[k]::ops.toList.drop (k+1):=by
    rw[zabX (by simpa using hlt)];simp
   rw[hdrop,zacU] at hk;simp only[zabT,zabW] at hk;obtain⟨y,_,hk⟩:=zabp.1 hk;obtain⟨ys,hys,hk⟩:=zabp.1 hk
   cases hk;exact hys
  have hmem:ops[k]∈ops.toList:=by simp
  rw[hsz,zacX];simp only[wpOps,hok];have take:∀ {x0:AOp} {g:Option (Nat×Bool)},z9 P ops[k].op=some x0->x=⟨ops[k].dst,hint hs ops[k].dst x0,g⟩->(zdq F x S).bind (zbu F l)=some S'->ops[k].wp P a w (fun a' w'=>wpOps P ops Q (List.range' (k+1) (ops.size - (k+1))) a' w') Q:=by
   intro x0 g hop hxe hb;obtain⟨S1,h1,h2⟩:=zabp.1 hb;obtain⟨⟨v,H'⟩,h3,h4⟩:=zabr.1 h1;subst hxe;subst h4;exact zCT hF hop (hd _ hmem) h3 hr fun a' w' ι' R' hr'=>ih (k+1) hk' _ a' w' ι' R' h2 hr'
  unfold ze3 at hx
  split at hx
  ·cases hx
  ·rename_i op hop
   split at hx
   ·rename_i hgd
    cases hx
    simp only[zbu] at h;have hw:Region.wanted ops[k] (yielded ops a.tmps)=true:=by simp [Region.wanted,hgd]
    rw[zabo hw];exact .inl (take hop rfl h)
   ·rename_i j b hgd;obtain⟨t,ht,hx⟩:=zabr.1 hx
    cases hx
    simp only[zbu] at h
    split at h
    ·rename_i c hc;have hy:yielded ops a.tmps j=some c:=by
      obtain⟨u,h1,h2⟩:=hr.env t _ (zav hc);have:=h2.bool_inv;subst this;have hlt:t<1000000:=by
       obtain⟨o',ho',ht'⟩:=zabp.1 ht;exact zaco (hd o' (by have:=(zacl.1 ho');obtain⟨q,rfl⟩:=this;simp) t ht') C.le
      simp only[zeu,zabo hlt] at h1;simp [yielded,ht,h1]
     have hw:Region.wanted ops[k] (yielded ops a.tmps)=(c==b):=by simp [Region.wanted,hgd,hy]
     by_cases hcb:c=b
     ·rw[zabo (by rw[hw];simpa using hcb)];rw[zabo hcb] at h;exact .inl (take hop rfl h)
     ·rw[zabn (by rw[hw];simpa using hcb)];rw[zabn hcb] at h;exact ih (k+1) hk' _ _ _ _ _ h (hr.putO ztS (hd _ hmem))
    ·rename_i hc;have hy:yielded ops a.tmps j=none:=by
      obtain⟨u,h1,h2⟩:=hr.env t _ (zav hc);have:=h2.tup0_inv;subst this;have hlt:t<1000000:=by
       obtain⟨o',ho',ht'⟩:=zabp.1 ht;exact zaco (hd o' (by have:=(zacl.1 ho');obtain⟨q,rfl⟩:=this;simp) t ht') C.le
      simp only[zeu,zabo hlt] at h1;simp [yielded,ht,h1]
     have hw:Region.wanted ops[k] (yielded ops a.tmps)=false:=by simp [Region.wanted,hgd,hy]
     rw[zabn (by rw[hw];simp)];exact ih (k+1) hk' _ _ _ _ _ h (hr.putO ztS (hd _ hmem))
    ·cases h
theorem zVq(hF:FOK P F){hs:zn}{n:Nat}:∀(c:Code) {x:zg} {S:St} {e:zX} {S':St} {a:Act} {w:World} {ι:Inj} {R:Nat->Prop},comp P hs c=some x->zdT C.n c=true->zbX F n x S=some (e,S')->Rel C S a w ι R->
    c.wp P (zDk C e S') a w:=by
 intro c
 induction c with
 | skip=>intro x S e S' a w ι R hc _ h hr;simp only[comp,Option.some.injEq] at hc;subst hc;cases h;exact wp_skip ⟨rfl,ι,R,hr⟩
 | exit id=>intro x S e S' a w ι R hc _ h hr;simp only[comp,Option.some.injEq] at hc;subst hc;cases h;exact wp_exit ⟨rfl,ι,R,hr.endS _⟩
 | ret=>intro x S e S' a w ι R hc _ h hr;simp only[comp,Option.some.injEq] at hc;subst hc;cases h;exact wp_ret ⟨rfl,ι,R,hr.endS _⟩
 | region id ops d=>
  intro x S e S' a w ι R hc hs' h hr
  cases d with
  | false=>
   obtain⟨l,hl,rfl⟩:=zabr.1 hc;simp only[zbX] at h;obtain⟨S2,h,h3⟩:=zabr.1 h;obtain⟨S1,h1,h2⟩:=zabp.1 h
   cases h3
   refine wp_region ?_;obtain⟨ι1,R1,hr1⟩:=zIR h1 hr;have:=zVp hF (C:=C) (Q:=zDk C .normal ⟨zf2 (zec hs.kill id) S2.env,S2.heap⟩) (fun a' w' ι' R' h2=>⟨rfl,ι',R',h2.kill _⟩) (zQF hs') l 0 (by simpa using hl) S1 a w ι1 R1 h2 hr1;rw[zadK];simpa using this
  | true=>
   obtain⟨l,hl,hc⟩:=zabp.1 hc
   split at hc
   ·rename_i hok
    cases hc
    simp only[zbX] at h;obtain⟨S2,h,h3⟩:=zabr.1 h;obtain⟨S1,h1,h2⟩:=zabp.1 h
    cases h3
    obtain⟨ι1,R1,hr1⟩:=zIR h1 hr;exact zUb hF hl hok (zQF hs') (fun a' w' ι' R' h2=>⟨rfl,ι',R',h2.kill _⟩) h2 hr1
   ·cases hc
 | seq c1 c2 ih1 ih2=>
  intro x S e S' a w ι R hc hs' h hr;simp only[comp] at hc
  split at hc
  ·rename_i x1 x2 h1 h2
   cases hc
   simp only[zdT,zabH] at hs';simp only[zbX] at h;obtain⟨⟨e1,S1⟩,h3,h4⟩:=zabp.1 h;refine wp_seq (wp_mono (ih1 h1 hs'.1 h3 hr) ?_);rintro ex a' w' ⟨rfl,ι',R',hr'⟩
   cases e1 with
   | normal=>exact ih2 h2 hs'.2 h4 hr'
   | exit i=>cases h4;exact⟨rfl,ι',R',hr'⟩
   | ret=>cases h4;exact⟨rfl,ι',R',hr'⟩
  ·cases hc
 | cond c t el ih1 ih2=>
  intro x S e S' a w ι R hc hs' h hr;simp only[comp] at hc
  split at hc
  ·rename_i z x1 x2 h0 h1 h2
   cases hc
   simp only[zdT,zabH] at hs';simp only[zbX] at h;have hv:=hr.ev h0;unfold zhz at h
   split at h
   ·rename_i b hb;rw[hb] at hv;refine wp_cond_split hv.bool_inv (fun hb'=>ih1 h1 hs'.1 (by rw[zabo hb'] at h;exact h) hr) (fun hb'=>ih2 h2 hs'.2 (by rw[zabn (by simp [hb'])] at h;exact h) hr)
   ·cases h
  ·cases hc
 | block id b ih=>
  intro x S e S' a w ι R hc hs' h hr;obtain⟨y,hy,rfl⟩:=zabr.1 hc;simp only[zbX] at h;obtain⟨⟨e1,S1⟩,h1,h2⟩:=zabr.1 h;refine wp_block (wp_mono (ih hy hs' h1 hr) ?_);rintro ex a' w' ⟨rfl,ι',R',hr'⟩
  cases e1 with
  | normal=>cases h2;exact⟨rfl,ι',R',hr'⟩
  | exit i=>
   simp only[zix] at h2;simp only[Out,Exit.inBlock]
   split
   ·rename_i e;rw[zabo e] at h2;cases h2;exact⟨rfl,ι',R',hr'⟩
   ·rename_i e;rw[zabn e] at h2;cases h2;exact⟨rfl,ι',R',hr'⟩
  | ret=>cases h2;exact⟨rfl,ι',R',hr'⟩
 | loop b ih=>
  intro x S e S' a w ι R hc hs' h hr;obtain⟨y,hy,rfl⟩:=zabr.1 hc;simp only[zbX] at h;refine wp_loop_ghost (fun k a w=>∃S ι R,zeh (zec hs.loop (ziJ b)) (zbX F n y) k S=some (e,S')/\Rel C S a w ι R) n ⟨_,ι,R,h,hr.norm _⟩ ?_;rintro k a1 w1 ⟨S1,ι1,R1,h1,hr1⟩
  cases k with
  | zero=>simp [zeh] at h1
  | succ k=>
   simp only[zeh] at h1;obtain⟨⟨e2,S2⟩,h2,h3⟩:=zabp.1 h1;refine wp_mono (ih hy hs' h2 hr1) ?_;rintro ex a' w' ⟨rfl,ι',R',hr'⟩
   cases e2 with
   | normal=>exact⟨k,by omega,_,ι',R',h3,hr'.norm _⟩
   | exit i=>cases h3;exact⟨rfl,ι',R',hr'⟩
   | ret=>cases h3;exact⟨rfl,ι',R',hr'⟩
 | _=>intro x S e S' a w ι R hc;simp [comp] at hc
end Go.Sim

namespace Go.Sim
open Go (World Value Addr TypeId Act)
variable {P:Program}
inductive zl where
 | t (n:Nat)
 | c (n:Nat) (ag:Bool) (sz:Nat)
def zhy(P:Program):ResultVar->Option zl
 | .tmp t=>if t<1000000 then some (.t t) else none
 | .cell a t=>match zbi P t,zaQ P t with
  | some ag,some n=>if n=0\/1000000<=a then none else some (.c a ag n)
  | _,_=>none
def zl.ev(S:St):zl->Option AV
 | .t n=>look n S.env
 | .c n ag sz=>(look n S.env).bind (ldA S.heap ag sz)
def zfo(S:St)(rs:List zl):Option AV:=
 match rs with
 | [r]=>r.ev S
 | rs=>(rs.mapM (zl.ev S)).map AV.mkTup
theorem zYQ {C:Ctx} {S:St} {a:Act} {w:World} {ι:Inj} {R:Nat->Prop} (h:Rel C S a w ι R) {t:TypeId} {ag:Bool} {n:Nat} {pa v:AV} {pv:Value} (hag:zbi P t=some ag) (hn:zaQ P t=some n) (h0:n≠0)
    (hp:VA w R ι (mark S.heap) pa pv) (hv':ldA S.heap ag n pa=some v):
    ∃b off u,pv= .pointer (some ⟨b,off,none⟩)/\(loadVar t ⟨b,off,none⟩).run P w= .ok u w/\VA w R ι (mark S.heap) v u:=by
 cases pa with
 | d y=>
  cases y with
  | pd y=>
   simp only[ldA] at hv';obtain⟨y',hy',rfl⟩:=zabr.1 hv';obtain⟨b,off,hpv,hR,hel⟩:=hp.pd_inv;obtain⟨u,k1,k2⟩:=hel.load hy' h0 hag hn;exact⟨b,off,u,hpv,k1,.d k2⟩
  | _=>simp [ldA] at hv'
 | pe q y=>
  simp only[ldA] at hv';obtain⟨y',hy',rfl⟩:=zabr.1 hv'
  cases hp with
  | peR hR hel=>obtain⟨u,k1,k2⟩:=hel.load hy' h0 hag hn;exact⟨_,_,u,rfl,k1,.d k2⟩
  | peC _ _ _ _ hel=>obtain⟨u,k1,k2⟩:=hel.load hy' h0 hag hn;exact⟨_,_,u,rfl,k1,.d k2⟩
 | ref q i off=>
  simp only[ldA] at hv'
  split at hv'
  ·rename_i es hes;obtain⟨e,he,hpart⟩:=zabp.1 hv'
   cases hp with
   | @ref _ _ _ b s hι _=>
    cases h.heap _ _ (zav hes) with
    | row hι' _ hb _ _ _ hcell=>
     rw[hι] at hι';cases hι';have hel:ElA w R ι (mark S.heap) e b (i * s):=fun j x hj=>by
      obtain⟨k1,q,k2,k3⟩:=hcell i e he j x hj;exact⟨k1,q,by rw[zcq hb];exact k2,k3⟩
     obtain⟨u,k1,k2⟩:=hel.load hpart h0 hag hn;exact⟨_,_,u,rfl,k1,k2⟩
  ·cases hv'
 | _=>simp [ldA] at hv'
def zaeR(tmps:Array Value):ResultVar->Sem Value:=fun
 | .tmp t=>pure (tmps.getD t undef)
 | .cell a t=>do loadVar t (<- asAddr (tmps.getD a undef))
theorem z7H(fn:Func)(tmps:Array Value):results fn tmps=(do let vs <- fn.results.mapM (zaeR tmps);pure (if h:vs.size=1 then vs[0] else .tuple vs)):=rfl
theorem zZv{α β γ:Type}{f:α->Sem β}{Q:γ->β->Prop}(w:World):∀(l:List α) (xs:List γ),l.length=xs.length->(∀(i:Nat) (a:α) (x:γ),l[i]? = some a->xs[i]? = some x->∃y,(f a).run P w= .ok y w/\Q x y)->
    ∃ys:List β,(l.mapM f).run P w= .ok ys w/\ys.length=xs.length/\∀(i:Nat) (x:γ) (y:β),xs[i]? = some x->ys[i]? = some y->Q x y:=by
 intro l
 induction l with
 | nil=>intro xs hxl _;have:xs=[]:=zacc.1 hxl.symm;subst this;exact⟨[],by simp,rfl,by simp⟩
 | cons a l ih=>
  intro xs hxl h
  cases xs with
  | nil=>simp at hxl
  | cons x xs=>
   obtain⟨y,h1,h2⟩:=h 0 a x rfl rfl;obtain⟨ys,h3,h4,h5⟩:=ih xs (by simpa using hxl) fun i a x k1 k2=>h (i+1) a x (by simpa using k1) (by simpa using k2);refine⟨y::ys,?_,by simp [h4],fun i a b ha hb=> ?_⟩
   ·rw[zacU,Sem.run_bind,h1];simp only[Result.andThen_ok,Sem.run_bind,h3,Sem.run_pure]
   ·match i,ha,hb with
    | 0,ha,hb=>simp at ha hb;subst ha hb;exact h2
    | n+1,ha,hb=>exact h5 n a b (by simpa using ha) (by simpa using hb)
theorem z7I{C:Ctx}{S:St}{a:Act}{w:World}{ι:Inj}{R:Nat->Prop}(h:Rel C S a w ι R){fn:Func}{rs:List zl}{v:AV}(hc:fn.results.toList.mapM (zhy P)=some rs)(hv:zfo S rs=some v):
    ∃u,(results fn a.tmps).run P w= .ok u w/\VA w R ι (mark S.heap) v u:=by
 obtain⟨hl,hg⟩:=zeT hc;have one:∀(rv:ResultVar) (r:zl) (x:AV),zhy P rv=some r->r.ev S=some x->∃u,(zaeR a.tmps rv).run P w= .ok u w/\VA w R ι (mark S.heap) x u:=by
  intro rv r x h4 h3
  cases rv with
  | tmp t=>
   simp only[zhy] at h4
   split at h4
   ·rename_i hlt
    cases h4
    exact⟨a.eval (.tmp t),by simp [zaeR,Act.eval],h.tmp hlt h3⟩
   ·cases h4
  | cell p t=>
   simp only[zhy] at h4
   split at h4
   ·rename_i ag n hag hn
    split at h4
    ·cases h4
    ·rename_i h0
     cases h4
     obtain⟨pa,hpa,hld⟩:=zabp.1 h3;obtain⟨b,off,u,k1,k2,k3⟩:=zYQ h hag hn (fun e=>h0 (.inl e)) (h.tmp (Nat.lt_of_not_le fun e=>h0 (.inr e)) hpa) hld;simp only[Act.eval] at k1;exact⟨u,by simp only[zaeR,k1,Sem.run_bind,asAddr,Sem.run_pure,Result.andThen_ok,k2],k3⟩
   ·cases h4
 have run:∀(us:List Value),(fn.results.toList.mapM (zaeR a.tmps)).run P w= .ok us w->(results fn a.tmps).run P w= .ok (if h:us.toArray.size=1 then us.toArray[0] else .tuple us.toArray) w:=by
  intro us hu;rw[z7H,zaex];simp [hu]
 by_cases h1:rs.length=1
 ·match rs,h1,hv,hl,hg with
  | [r],_,hv,hl,hg=>
   simp only[zfo] at hv
   match hfl:fn.results.toList,hl,hg with
   | [rv],hl,hg=>
    obtain⟨u,k1,k2⟩:=one rv r v (hg 0 rv r rfl rfl) hv;refine⟨u,?_,k2⟩;have:=run [u] (by rw[hfl];simp [zacU,k1]);simpa using this
 ·have hv':(rs.mapM (zl.ev S)).map AV.mkTup=some v:=by
     match rs,h1,hv with
     | [],_,hv=>exact hv
     | _::_::_,_,hv=>exact hv
     | [r],h1,_=>exact absurd rfl h1
  obtain⟨xs,hxs,rfl⟩:=zabr.1 hv';obtain⟨hl2,hg2⟩:=zeT hxs;obtain⟨us,k1,k2,k3⟩:=zZv (P:=P) (f:=zaeR a.tmps) (Q:=fun x u=>VA w R ι (mark S.heap) x u) w fn.results.toList xs (by omega) fun i rv x h2 h3=>by
   have hlt:=(zabB.1 h2).1;have hr:rs[i]? = some (rs[i]'(by omega)):=zabx _;exact one rv _ x (hg i rv _ h2 hr) (hg2 i _ x hr h3)
  refine⟨.tuple us.toArray,?_,VA.mkTup k2 k3⟩;rw[run us k1,dif_neg (by simp;omega)]
def enter(args:List AV):Env:=args.zipIdx.map fun p=>(p.2,p.1)
theorem zU4{args:List AV}{t:Nat}{x:AV}(h:(t,x)∈enter args):args[t]? = some x:=by
 unfold enter at h;obtain⟨⟨y,i⟩,hm,he⟩:=zaby.1 h
 cases he
 exact (List.mem_zipIdx_iff_getElem?.1 hm)
def frs(ns:List Nat):List Nat:=ns.filter fun o=>decide (o<1000000)
def za2(ns:List Nat)(o:Nat):Nat:=if 1000000<=o then o else pos o (frs ns)
def zf7(H:zd)(os:zd)(v:AV):List Nat:=zfm H (zfm H (zcT (os.map (·.1)) v.objs))
def zi3(H os:zd)(ns:List Nat):Bool:=
 (ns.all fun o=>(match look o H with|some (.row es)=>(AV.objsL es).all ns.contains|some (.acc _)=>decide (o<1000000)|some (.frz m)=>m.isNone&&decide (1000000<=o)|_=>false)&&(decide (o<1000000)||decide (o<1000000+os.length)))&&decide ((frs ns).length<=4)
def zkL(E:Env)(os:zd):Bool:=os.all fun p=>match look p.1 E with|some (.ref o 1 0)=>o==p.1|_=>false
def zcA(H:zd)(ns:List Nat):zd:=ns.map fun o=>(za2 ns o,((look o H).getD (.acc 0)).ren (za2 ns))
def zj7(os:zd)(S:St)(v:AV)(ns:List Nat):Option (AV×zd):=
 if (zi3 S.heap os ns&&zkL S.env os)=true then some (v.ren (za2 ns),zcA S.heap ns) else none
def ztz(os:zd)(S:St)(v:AV)(d:D):Option (AV×zd):=if zhC v.objs (zf7 S.heap os (.d d))=true then zj7 os S (.d d) (zf7 S.heap os (.d d)) else none
def zhJ(sl:Bool)(os:zd)(S:St)(v:AV):Option (AV×zd):=if sl=true then (toD S.heap v).bind (ztz os S v) else zj7 os S v (zf7 S.heap os v)
def zgh(sl:Bool)(rs:List zl)(os:zd)(p:zX×St):Option (AV×zd):=
 match p.1 with
 | .exit _=>none
 | .normal=>(zfo p.2 rs).bind (zhJ sl os p.2)
 | .ret=>(zfo p.2 rs).bind (zhJ sl os p.2)
def zf1(os:zd):Env:=os.map fun p=>(p.1,.ref p.1 1 0)
inductive AFn where
 | code (c:zg) (rs:List zl) (nt:Nat) (sl:Bool)
 | nils (c:zg) (rs:List zl) (nt:Nat)
 | ext (g:List AV->zd->Option (AV×zd))
def ze2(F:zaU)(n:Nat)(args:List AV)(os:zd)(c:zg)(rs:List zl)(nt:Nat)(sl:Bool):Option (AV×zd):=
 if args.length<=nt then (zbX F n c ⟨enter args++zf1 os,os⟩).bind (zgh sl rs os) else none
def zkm:Option (AV×zd)->Bool
 | some (.acc 0 [],[(0,.acc 0)])=>true
 | _=>false
def zLQ:List AV->Bool
 | [.d (.sl [])]=>true
 | _=>false
def zmY(F:zaU)(n:Nat)(args:List AV)(os:zd)(c:zg)(rs:List zl)(nt:Nat):Option (AV×zd):=
 if zLQ args&&os.isEmpty then
  if zkm (ze2 F n [.nl true] [] c rs nt false)&&zkm (ze2 F n [.nl false] [] c rs nt false) then some (.acc 0 [],[(0,.acc 0)]) else none
 else ze2 F n args os c rs nt false
def fnF(F:zaU)(n:Nat)(args:List AV)(os:zd):AFn->Option (AV×zd)
 | .code c rs nt sl=>ze2 F n args os c rs nt sl
 | .nils c rs nt=>zmY F n args os c rs nt
 | .ext g=>g args os
def za8(G:FuncId->Option AFn):Nat->zaU
 | 0=>fun _ _ _=>none
 | n+1=>fun f args os=>(G f).bind (fnF (za8 G n) n args os)
def zp(P:Program)(f:FuncId):AFn->Prop
 | .code c rs nt _=>zeJ P f=true/\∃fn hs,P.funcs[f]? = some fn/\fn.body.bind (comp P hs)=some c/\fn.body.map (zdT fn.ntmps)=some true/\fn.results.toList.mapM (zhy P)=some rs/\fn.ntmps=nt/\nt<=1000000
 | .nils c rs nt=>zeJ P f=true/\∃fn hs,P.funcs[f]? = some fn/\fn.body.bind (comp P hs)=some c/\fn.body.map (zdT fn.ntmps)=some true/\fn.results.toList.mapM (zhy P)=some rs/\fn.ntmps=nt/\nt<=1000000
 | .ext g=>∀args os r os',g args os=some (r,os')->(∀p∈os,∃es,p.2= .row es)->(∀i p,os[i]? = some p->p.1=1000000+i)->zeJ P f=true/\GF P f args os r os'/\WF os.length r os'
def zMI:zK->List (Nat×List Bool)
 | ⟨some d,.call _ (m::ms) _,_⟩=>[(d,m::ms)]
 | ⟨some d,.callv _ (m::ms) _,_⟩=>[(d,m::ms)]
 | _=>[]
def zMG:zK->List Nat
 | ⟨some d,.nacc,_⟩=>[d]
 | _=>[]
def zn.add(x y:zn):zn:=⟨x.kill++y.kill,x.ghost++y.ghost,x.obj++y.obj,x.acc++y.acc,x.loop++y.loop,x.exit++y.exit,if x.ret.isEmpty then y.ret else x.ret⟩
def hof:Code->zg->zn
 | .region id _ _,.ops gs l ks=>{ kill:=[(id,ks)],ghost:=[(id,gs)],obj:=l.flatMap zMI,acc:=l.flatMap zMG }
 | .region id _ _,.draw gs l _ ks=>{ kill:=[(id,ks)],ghost:=[(id,gs)],obj:=l.flatMap zMI,acc:=l.flatMap zMG }
 | .seq a b,.seq x y=>(hof a x).add (hof b y)
 | .cond _ a b,.cond _ x y=>(hof a x).add (hof b y)
 | .block _ a,.block _ x=>hof a x
 | .loop a,.loop ks x=>({ loop:=[(ziJ a,ks)] }:zn).add (hof a x)
 | .exit id,.exit _ ks=>{ exit:=[(id,ks)] }
 | .ret,.ret ks=>{ ret:=ks }
 | _,_=>{}
def zsc(fn:Func)(c:zg):zn:=match fn.body with|some b=>hof b c|none=>{}
theorem z5d{ns:List Nat}{o o':Nat}(h:o∈frs ns)(h':o'∈frs ns)(e:pos o (frs ns)=pos o' (frs ns)):o=o':=by
 have h1:=zm7 h;have h2:=zm7 h';rw[e,h2] at h1;exact (Option.some.inj h1).symm
theorem zMP{ns:List Nat}{o o':Nat}(h:o∈ns)(h':o'∈ns)(hl:(frs ns).length<=4)(e:za2 ns o=za2 ns o'):o=o':=by
 have mem:∀ {o:Nat},o∈ns->¬1000000<=o->o∈frs ns:=fun h h1=>zacW.2 ⟨h,by simp;omega⟩;unfold za2 at e
 split at e<;>split at e
 ·exact e
 ·rename_i h1 h2;have:=zgs (mem h' h2);omega
 ·rename_i h1 h2;have:=zgs (mem h h1);omega
 ·rename_i h1 h2;exact z5d (mem h h1) (mem h' h2) e
theorem zkA{H:zd}{ns:List Nat}(hl:(frs ns).length<=4){o:Nat}(h:o∈ns):look (za2 ns o) (zcA H ns)=some (((look o H).getD (.acc 0)).ren (za2 ns)):=by
 have key:∀(l:List Nat),(∀x∈l,x∈ns)->o∈l->look (za2 ns o) (l.map fun o=>(za2 ns o,((look o H).getD (.acc 0)).ren (za2 ns)))=some (((look o H).getD (.acc 0)).ren (za2 ns)):=by
  intro l
  induction l with
  | nil=>intro _ h;cases h
  | cons x l ih=>
   intro hs ho;simp only[zabs,look]
   by_cases e:za2 ns x=za2 ns o
   ·have hx:x=o:=zMP (hs x (.head _)) h hl e;subst hx;simp
   ·rw[zabn e];refine ih (fun y hy=>hs y (.tail _ hy)) ?_
    cases ho with
    | head=>exact absurd rfl e
    | tail _ ho=>exact ho
 exact key ns (fun _ h=>h) h
theorem zZH{H:zd}{ns:List Nat}{n:Nat}{ob:Obj}(h:(n,ob)∈zcA H ns):∃o∈ns,n=za2 ns o/\ob=((look o H).getD (.acc 0)).ren (za2 ns):=by
 simp only[zcA,zaby] at h;obtain⟨o,ho,he⟩:=h
 cases he
 exact⟨o,ho,rfl,rfl⟩
theorem zV8{sl:Bool}{rs:List zl}{os:zd}{e:zX}{S:St}{r:AV}{os':zd}(h:zgh sl rs os (e,S)=some (r,os')):∃v0 v ns,(∀i,e≠ .exit i)/\zfo S rs=some v0/\((v=v0)\/(∃d,v= .d d/\toD S.heap v0=some d/\zhC v0.objs ns=true))/\
    ns=zf7 S.heap os v/\zi3 S.heap os ns=true/\zkL S.env os=true/\r=v.ren (za2 ns)/\os'=zcA S.heap ns:=by
 have fin:∀ {v:AV},zj7 os S v (zf7 S.heap os v)=some (r,os')->zi3 S.heap os (zf7 S.heap os v)=true/\zkL S.env os=true/\r=v.ren (za2 (zf7 S.heap os v))/\os'=zcA S.heap (zf7 S.heap os v):=fun h2=>by
  unfold zj7 at h2
  split at h2
  ·rename_i hc;simp only[zabH] at hc
   cases h2
   exact⟨hc.1,hc.2,rfl,rfl⟩
  ·cases h2
 have key:(zfo S rs).bind (zhJ sl os S)=some (r,os')->∃v0 v ns,zfo S rs=some v0/\((v=v0)\/(∃d,v= .d d/\toD S.heap v0=some d/\zhC v0.objs ns=true))/\ns=zf7 S.heap os v/\zi3 S.heap os ns=true/\zkL S.env os=true/\r=v.ren (za2 ns)/\os'=zcA S.heap ns:=fun h=>by
  obtain⟨v,h1,h2⟩:=zabp.1 h;unfold zhJ at h2
  split at h2
  ·obtain⟨d,h3,h4⟩:=zabp.1 h2;unfold ztz at h4
   split at h4
   ·rename_i hd;exact⟨v,.d d,_,h1,.inr ⟨d,rfl,h3,hd⟩,rfl,fin h4⟩
   ·cases h4
  ·exact⟨v,v,_,h1,.inl rfl,rfl,fin h2⟩
 cases e with
 | exit i=>cases h
 | normal=>obtain⟨v0,v,ns,h⟩:=key h;exact⟨v0,v,ns,nofun,h⟩
 | ret=>obtain⟨v0,v,ns,h⟩:=key h;exact⟨v0,v,ns,nofun,h⟩
theorem zrw {F:zaU} (hF:FOK P F) {n:Nat} {f:FuncId} {c:zg} {rs:List zl} {nt:Nat} {sl:Bool} (hfn:zp P f (.code c rs nt sl)) {args:List AV} {os:zd} {r:AV} {os':zd}
    (h:fnF F n args os (.code c rs nt sl)=some (r,os')) (hrow:∀p∈os,∃es,p.2= .row es) (hnm:∀i p,os[i]? = some p->p.1=1000000+i):GF P f args os r os'/\WF os.length r os':=by
 obtain⟨_,fn,hs,hf,hc,hsl,hrs,hnt,hle⟩:=hfn;obtain⟨body,hb,hc⟩:=zabp.1 hc;rw[hb] at hsl;have hsl:zdT fn.ntmps body=true:=by simpa using hsl
 simp only[fnF,ze2] at h
 split at h
 rotate_left
 ·cases h
 rename_i hlen;obtain⟨⟨e,S'⟩,hex,hfin⟩:=zabp.1 h;obtain⟨v0,v,ns,hne,hres,hvv,hns,hout,hgh,rfl,rfl⟩:=zV8 hfin;simp only[zi3,zabH,decide_eq_true_eq] at hout;obtain⟨hall,hl4⟩:=hout;have hobj:∀o∈ns,(∃es,look o S'.heap=some (.row es)/\∀q∈AV.objsL es,q∈ns)\/(∃m,look o S'.heap=some (.acc m)/\o<1000000)\/(look o S'.heap=some (.frz none)/\1000000<=o):=fun o ho=>by
  have:=zabO.1 hall o ho;simp only[zabH] at this;have h1:=this.1
  split at h1
  ·rename_i es hes;exact .inl ⟨es,hes,fun q hq=>by simpa using zabO.1 h1 q hq⟩
  ·rename_i m hm;exact .inr (.inl ⟨m,hm,by simpa using h1⟩)
  ·rename_i m hm;simp only[zabH,Option.isNone_iff_eq_none,decide_eq_true_eq] at h1;exact .inr (.inr ⟨by rw[hm,h1.1],h1.2⟩)
  ·cases h1
 have hrange:∀o∈ns,o<1000000\/o<1000000+os.length:=fun o ho=>by
  have:=zabO.1 hall o ho;simp only[zabH,zacj,decide_eq_true_eq] at this;exact this.2
 have hvns:∀q,v.refs q=true->q∈ns:=fun q hq=>by
  rw[hns];exact zfG _ _ (zfG _ _ (zDt _ _ (ztu v q hq)))
 have hosns:∀p∈os,p.1∈ns:=fun p hp=>by
  rw[hns];exact zfG _ _ (zfG _ _ (zfG _ _ (zadw hp)))
 have hname:∀ {o},(look o os).isSome=true->1000000<=o/\o<1000000+os.length/\o∈ns:=fun {o} ho=>by
  obtain⟨ob,hob⟩:=zacV.1 ho;obtain⟨i,hi⟩:=zab6 (zav hob);have:=hnm i _ hi;simp only at this;have hlt:=(zabB.1 hi).1;exact⟨by omega,by omega,hosns _ (zav hob)⟩
 have hcl:∀o ob,o∈ns->look o S'.heap=some ob->∀q,ob.refs q=true->q∈ns:=fun o ob ho hob q hq=>by
  rcases hobj o ho with ⟨es,h1,h2⟩|⟨m,h1,_⟩|⟨h1,_⟩
  ·rw[hob] at h1;cases h1;exact h2 q (zjf es q hq)
  ·rw[hob] at h1;cases h1;cases hq
  ·rw[hob] at h1;cases h1;cases hq
 have hid:∀ {o},1000000<=o->za2 ns o=o:=fun h=>by simp [za2,h]
 have hlookn:∀o∈ns,∃ob,look o S'.heap=some ob/\look (za2 ns o) (zcA S'.heap ns)=some (ob.ren (za2 ns)):=fun o ho=>by
  rcases hobj o ho with ⟨es,h1,_⟩|⟨m,h1,_⟩|⟨h1,_⟩
  ·exact⟨_,h1,by rw[zkA hl4 ho,h1];rfl⟩
  ·exact⟨_,h1,by rw[zkA hl4 ho,h1];rfl⟩
  ·exact⟨_,h1,by rw[zkA hl4 ho,h1];rfl⟩
 have hmemo:∀n ob,(n,ob)∈zcA S'.heap ns->∃o∈ns,n=za2 ns o/\∃ob0,look o S'.heap=some ob0/\ob=ob0.ren (za2 ns):=fun n ob hm=>by
  obtain⟨o,ho,h1,h2⟩:=zZH hm;obtain⟨ob0,h3,_⟩:=hlookn o ho;exact⟨o,ho,h1,ob0,h3,by rw[h2,h3];rfl⟩
 have hisn:∀n,(look n (zcA S'.heap ns)).isSome=true->∃o∈ns,n=za2 ns o:=fun n hn=>by
  obtain⟨ob,hob⟩:=zacV.1 hn;obtain⟨o,ho,h1,_⟩:=hmemo n ob (zav hob);exact⟨o,ho,h1⟩
 have hisS:∀o∈ns,(look (za2 ns o) (zcA S'.heap ns)).isSome=true:=fun o ho=>by
  obtain⟨ob,_,h2⟩:=hlookn o ho;simp [h2]
 refine⟨?_,?_⟩;rotate_left
 ·refine⟨fun m hm=> ?_,fun i hi=> ?_,fun q hq=> ?_,fun m ob hm q hq=> ?_⟩
  ·obtain⟨o,ho,rfl⟩:=hisn m hm;unfold za2
   split
   ·rename_i h1
    rcases hrange o ho with h2|h2
    ·omega
    ·exact .inr ⟨h1,h2⟩
   ·rename_i h1;have:=zgs (show o∈frs ns from zacW.2 ⟨ho,by simp;omega⟩);exact .inl (by omega)
  ·have hi':os[i]? = some os[i]:=zabx hi;have h1:=hnm i _ hi';have h2:=hosns _ (zabK hi');rw[h1] at h2
   rcases hobj _ h2 with ⟨es,h3,_⟩|⟨m,_,h3⟩|⟨h3,_⟩
   ·have:=zkA (H:=S'.heap) hl4 h2;rw[hid (by omega),h3] at this;exact .inl ⟨_,this⟩
   ·omega
   ·have:=zkA (H:=S'.heap) hl4 h2;rw[hid (by omega),h3] at this;exact .inr this
  ·obtain⟨q0,h1,rfl⟩:=zCF hq;exact hisS q0 (hvns q0 h1)
  ·obtain⟨o,ho,_,ob0,h2,rfl⟩:=hmemo m ob hm
   cases ob0 with
   | acc k=>simp [Obj.ren,Obj.refs] at hq
   | frz k=>simp [Obj.ren,Obj.refs] at hq
   | mp k=>simp [Obj.ren,Obj.refs] at hq
   | row es=>
    simp only[Obj.ren,Obj.refs] at hq;obtain⟨q0,h3,rfl⟩:=zQm hq;exact hisS q0 (hcl o _ ho h2 q0 h3)
 intro w R ι us hR hι hinj hob hl;obtain⟨hl,hg⟩:=hl;have hmark:∀o,(look o os).isSome=true->mark os o=none:=fun o ho=>by
  obtain⟨ob,hob'⟩:=zacV.1 ho;obtain⟨es,he⟩:=hrow _ (zav hob');simp only at he;subst he;simp [mark,hob']
 let C:Ctx:={ w0:=w,keep:=fun b=>b<w.heap.size/\∀o s,ι o≠some (b,s),R0:=R,n:=fn.ntmps,gh:=os.map fun p=>(match ι p.1 with|some (b,s)=>Value.pointer (some ⟨b,1 * s+0,none⟩)|none=>undef),le:=by omega }
 have hrel:Rel C ⟨enter args++zf1 os,os⟩ { tmps:=us.toArray++Array.replicate (fn.ntmps - us.toArray.size) undef,defers:=[] } w ι R:=by
  refine⟨rfl,by simp [C];omega,rfl,rfl,rfl,zabR _,fun _ _=>Blk.of_eq rfl,fun _ _=>rfl,fun _ h=>h.1,hR,fun b hb=> .inl hb,fun _ h=>h,fun o b s h=>⟨fun hk=>hk.2 o s h,(hι o b s h).1⟩,hinj,?_,hob⟩;intro t y hy
  rcases zabS.1 hy with hy|hy
  ·have ht:=zU4 hy;have hlt:=(zabB.1 ht).1;have hu:us[t]? = some (us[t]'(by omega)):=zabx _;refine⟨us[t]'(by omega),?_,hg t y _ ht hu⟩;simp only[zeu];rw[zabo (by omega),zad5 (by simp;omega)];simp only[zadI];exact hu
  ·obtain⟨p,hm,he⟩:=zaby.1 hy
   cases he
   obtain⟨i,hi⟩:=zab6 hm;have hn1:=hnm i p hi;obtain⟨es,hes⟩:=hrow p hm;have ho:=hob p.1 p.2 hm;rw[hes] at ho
   cases ho with
   | @row _ b s c' T h1 h2 h3 h4 h5 h6 h7=>
    refine⟨.pointer (some ⟨b,1 * s+0,none⟩),?_,.ref h1 (hmark _ (hι _ _ _ h1).2.2)⟩;simp only[zeu];rw[zabn (by omega),hn1,Nat.add_sub_cancel_left];simp only[C,zabI,hi,zab8,h1]
 refine calls_of_wp hf hb (wp_mono (zVq (C:=C) hF body hc hsl hex hrel) ?_);rintro ex a' w' ⟨rfl,ι',R',hr'⟩
 -- the zfb tell that the objects lie where they lay
 have hkeep:∀o b s,ι o=some (b,s)->ι' o=some (b,s):=fun o b s ho=>by
  obtain⟨ob,hob'⟩:=zacV.1 (hι o b s ho).2.2;obtain⟨i,hi⟩:=zab6 (zav hob');have hn1:=hnm i _ hi;simp only at hn1;have:=zabO.1 hgh _ (zav hob')
  split at this
  ·rename_i o2 hlk;simp only[beq_iff_eq] at this;subst this;obtain⟨u,k1,k2⟩:=hr'.env _ _ (zav hlk);simp only[zeu] at k1;rw[zabn (by omega)] at k1;have hidx:o2 - 1000000=i:=by omega
   rw[hidx] at k1;simp only[C,zabI,hi,zab8,ho,Option.some.injEq] at k1;subst k1;generalize hv:Value.pointer (some ⟨b,1 * s+0,none⟩)=pv at k2
   cases k2 with
   | ref h1 h2=>
    simp only[Value.pointer.injEq,Option.some.injEq,Addr.mk.injEq] at hv;obtain⟨rfl,hv,_⟩:=hv;rw[h1];simp at hv;rw[hv]
  ·cases this
 obtain⟨u,k1,k2⟩:=z7I hr' hrs hres;have hseal:∃R2:Nat->Prop,(∀b,R' b->R2 b)/\(∀b,R2 b->R' b\/∃o s,o∉ns/\ι' o=some (b,s))/\VA w' R2 ι' (mark S'.heap) v u:=by
  rcases hvv with rfl|⟨d,rfl,hd,hdis⟩
  ·exact⟨R',fun _ h=>h,fun _ h=> .inl h,k2⟩
  ·refine⟨zeE R' ι' v0.objs,fun _ h=> .inl h,fun b hb=> ?_,.d (znK hr' k2 hd fun _ h=>h)⟩
   rcases hb with hb|⟨o,s,ho,hb⟩
   ·exact .inl hb
   ·refine .inr ⟨o,s,?_,hb⟩;have:=zabO.1 hdis o ho;simpa using this
 obtain⟨R2,hR2,hR2i,k2⟩:=hseal;have hnR:∀o b s,ι o=some (b,s)->R' b->look o (zcA S'.heap ns)=some (.frz none):=fun o b s ho hb=>by
  obtain⟨h1,_,h2⟩:=hname (hι o b s ho).2.2
  rcases hobj o h2 with ⟨es,h3,_⟩|⟨m,_,h3⟩|⟨h3,_⟩
  ·cases hr'.heap _ _ (zav h3) with
   | row h4 h5=>rw[hkeep o b s ho] at h4;cases h4;exact absurd hb h5
  ·omega
  ·have:=zkA (H:=S'.heap) hl4 h2;rw[hid (by omega),h3] at this;exact this
 have hold:∀b,¬C.keep b->(∃o s,ι o=some (b,s))\/w.heap.size<=b:=fun b hb=>by
  by_cases hlt:b<w.heap.size
  ·refine .inl (Classical.byContradiction fun hne=>hb ⟨hlt,fun o s ho=>hne ⟨o,s,ho⟩⟩)
  ·exact .inr (Nat.le_of_not_lt hlt)
 -- the names outside
 have hback:∃back:Nat->Nat,∀o∈ns,back (za2 ns o)=o:=by
  have hpt:∀m,∃o,∀o'∈ns,za2 ns o'=m->o'=o:=fun m=>by
   by_cases h:∃o∈ns,za2 ns o=m
   ·obtain⟨o,ho,h1⟩:=h;exact⟨o,fun o' ho' h2=>zMP ho' ho hl4 (h2.trans h1.symm)⟩
   ·exact⟨0,fun o' ho' h2=>absurd ⟨o',ho',h2⟩ h⟩
  obtain⟨g,hg⟩:=Classical.axiomOfChoice hpt;exact⟨g,fun o ho=>(hg _ o ho rfl).symm⟩
 obtain⟨back,hback⟩:=hback
 let ι2:Inj:=fun m=>if (look m (zcA S'.heap ns)).isSome=true then ι' (back m) else none
 have hι2:∀o∈ns,ι2 (za2 ns o)=ι' o:=fun o ho=>by simp only[ι2];rw[zabo (hisS o ho),hback o ho]
 have hι2i:∀m b s,ι2 m=some (b,s)->∃o∈ns,m=za2 ns o/\ι' o=some (b,s):=fun m b s hm=>by
  simp only[ι2] at hm
  split at hm
  ·rename_i h1;obtain⟨o,ho,rfl⟩:=hisn m h1;rw[hback o ho] at hm;exact⟨o,ho,rfl,hm⟩
  ·cases hm
 have hmk2:∀o∈ns,mark (zcA S'.heap ns) (za2 ns o)=mark S'.heap o:=fun o ho=>by
  obtain⟨ob,h1,h2⟩:=hlookn o ho;unfold mark;rw[h1,h2]
  cases ob<;>rfl
 have fin:a'.defers=[]/\∃v',(results fn a'.tmps).run P w'= .ok v' w'/\∃(u:Value) (ι':Inj) (R':Nat->Prop),Ending.returned v'= .returned u/\w'.os=w.os/\w'.tape=w.tape/\w'.output=w.output/\w.heap.size<=w'.heap.size/\
     (∀b,b<w.heap.size->Blk w w' b 0)/\(∀b,b<w.heap.size->(∀o s,ι o≠some (b,s))->w'.heap[b]? = w.heap[b]?)/\(∀b,R b->R' b)/\(∀b,R' b->b<w'.heap.size/\(R b\/w.heap.size<=b\/∃o s,ι o=some (b,s)/\look o (zcA S'.heap ns)=some (.frz none)))/\
     (∀o b s,ι o=some (b,s)->ι' o=some (b,s))/\(∀o b s,ι' o=some (b,s)->b<w'.heap.size/\(ι o=some (b,s)\/w.heap.size<=b))/\(∀o o' b s s',ι' o=some (b,s)->ι' o'=some (b,s')->o=o')/\
     (∀o ob,(o,ob)∈zcA S'.heap ns->OB w' R' ι' (mark (zcA S'.heap ns)) o ob)/\VA w' R' ι' (mark (zcA S'.heap ns)) (v.ren (za2 ns)) u:=by
  refine⟨hr'.defers,u,k1,u,ι2,R2,rfl,hr'.os,hr'.tape,hr'.output,hr'.grow,hr'.len,fun b hb hno=>hr'.keep b ⟨hb,hno⟩,fun b hb=>hR2 b (hr'.r0 b hb),fun b hb=> ?_,fun o b s ho=> ?_,fun m b s hm=> ?_,fun m m' b s s' h1 h2=> ?_,fun m ob hm=> ?_,?_⟩
  ·rcases hR2i b hb with hb|⟨o,s,hno,hb⟩
   ·refine⟨hr'.rlt b hb,?_⟩
    rcases hr'.rok b hb with h1|h1
    ·exact .inl h1
    ·rcases hold b h1 with ⟨o,s,ho⟩|h2
     ·exact .inr (.inr ⟨o,s,ho,hnR o b s ho hb⟩)
     ·exact .inr (.inl h2)
   ·have hown:=hr'.own o b s hb;refine⟨hown.2,?_⟩
    rcases hold b hown.1 with ⟨o2,s2,ho2⟩|h2
    ·have:=hr'.inj _ _ _ _ _ hb (hkeep o2 b s2 ho2);subst this;exact absurd (hname (hι _ _ _ ho2).2.2).2.2 hno
    ·exact .inr (.inl h2)
  ·obtain⟨h1,_,h2⟩:=hname (hι o b s ho).2.2;have:=hι2 o h2;rw[hid h1] at this;rw[this];exact hkeep o b s ho
  ·obtain⟨o,ho,rfl,h1⟩:=hι2i m b s hm;refine⟨(hr'.own o b s h1).2,?_⟩
   rcases hold b (hr'.own o b s h1).1 with ⟨o0,s0,h0⟩|h2
   ·have h3:=hkeep o0 b s0 h0;have:=hr'.inj _ _ _ _ _ h1 h3;subst this;rw[h1] at h3;cases h3;have hge:=(hname (hι _ _ _ h0).2.2).1;rw[hid hge];exact .inl h0
   ·exact .inr h2
  ·obtain⟨o,ho,rfl,h3⟩:=hι2i m b s h1;obtain⟨o',ho',rfl,h4⟩:=hι2i m' b s' h2;rw[hr'.inj _ _ _ _ _ h3 h4]
  ·obtain⟨o,ho,rfl,ob0,h2,rfl⟩:=hmemo m ob hm;have hob2:OB w' R2 ι' (mark S'.heap) o ob0:=by
    have hnR2:∀b s,ι' o=some (b,s)->¬R' b->¬R2 b:=fun b s ho' hn hb=>by
     rcases hR2i b hb with hb|⟨o2,s2,hno,hb⟩
     ·exact hn hb
     ·have:=hr'.inj _ _ _ _ _ ho' hb;subst this;exact hno ho
    cases hr'.heap o ob0 (zav h2) with
    | row k1 k2 k3 k4 k5 k6 k7=>exact .row k1 (hnR2 _ _ k1 k2) k3 k4 k5 k6 fun i e he j x hx=>let ⟨j1,q,j2,j3⟩:=k7 i e he j x hx;⟨j1,q,j2,j3.toR (.inl hR2)⟩
    | acc k1 k2 k3 k4 k5 k6=>exact .acc k1 k2 (hnR2 _ _ k2 k3) k4 k5 k6
    | accN k1=>exact .accN k1
    | frz k1=>exact .frz fun b s hb=>⟨hR2 _ (k1 b s hb).1,(k1 b s hb).2⟩
    | mp k1 k2 k3 k4 k5 k6=>exact .mp k1 (hnR2 _ _ k1 k2) k3 k4 k5 fun i k x hi=>let ⟨e,j1,j2,j3⟩:=k6 i k x hi;⟨e,j1,j2,j3.mono_v hR2 fun _ _=>rfl⟩
   exact hob2.ren (hι2 o ho) fun q hq=>by
    have hq':=hcl o ob0 ho h2 q hq;exact⟨fun p hp=>by rw[hι2 q hq'];exact hp,hmk2 q hq'⟩
  ·exact k2.ren fun q hq=>by
      have hq':=hvns q hq;exact⟨fun p hp=>by rw[hι2 q hq'];exact hp,hmk2 q hq'⟩
 cases e with
 | normal=>exact fin
 | ret=>exact fin
 | exit i=>exact absurd rfl (hne i)
def GOK(P:Program)(G:FuncId->Option AFn):Prop:=∀f fn,G f=some fn->zp P f fn
theorem zSG{G:FuncId->Option AFn}(hG:GOK P G):∀n,FOK P (za8 G n):=by
 intro n
 induction n with
 | zero=>intro f args os r os' h;cases h
 | succ n ih=>
  intro f args os r os' h0 h1 h2;obtain⟨fn,hf,h⟩:=zabp.1 h0;clear h0;have hok:=hG f fn hf
  cases fn with
  | code c rs nt sl=>exact⟨hok.1,zrw ih hok h h1 h2⟩
  | nils c rs nt=>
   refine⟨hok.1,?_⟩;simp only[fnF,zmY] at h
   split at h
   ·rename_i he;simp only[zabH,zadJ] at he;obtain⟨he,rfl⟩:=he;have hargs:args=[.d (.sl [])]:=by
     unfold zLQ at he
     split at he
     ·rfl
     ·cases he
    split at h
    ·rename_i hn;subst hargs;simp only[zabH] at hn;have h:=Option.some.inj h
     cases h
     have new0:∀ {x:Option (AV×zd)},zkm x=true->x=some (.acc 0 [],[(0,.acc 0)]):=fun {x} hx=>by
      unfold zkm at hx
      split at hx
      ·rfl
      ·cases hx
     obtain⟨g1,w1⟩:=zrw (c:=c) (rs:=rs) (nt:=nt) (sl:=false) ih hok (new0 hn.1) (by simp) (by simp);obtain⟨g2,_⟩:=zrw (c:=c) (rs:=rs) (nt:=nt) (sl:=false) ih hok (new0 hn.2) (by simp) (by simp);refine⟨fun w R ι us hR hι hinj hob hv=> ?_,w1⟩;obtain⟨hl,hg⟩:=hv
     match us,hl with
     | [u],_=>
      have hu:=hg 0 _ u rfl rfl
      cases hu with
      | d hu=>
       cases hu with
       | @sl0 a cap=>
        cases a with
        | none=>exact g1 w R ι _ hR hι hinj hob ⟨rfl,fun i x u hx hu=>by
            match i,hx,hu with
            | 0,hx,hu=>simp at hx hu;subst hx hu;exact .nl1
            | n+1,hx,hu=>simp at hx⟩
        | some a=>exact g2 w R ι _ hR hι hinj hob ⟨rfl,fun i x u hx hu=>by
            match i,hx,hu with
            | 0,hx,hu=>simp at hx hu;subst hx hu;exact .nl2
            | n+1,hx,hu=>simp at hx⟩
       | sl _ h0=>exact absurd rfl h0
    ·cases h
   ·exact zrw (c:=c) (rs:=rs) (nt:=nt) (sl:=false) ih hok h h1 h2
  | ext g=>exact hok args os r os' h h1 h2
end Go.Sim
