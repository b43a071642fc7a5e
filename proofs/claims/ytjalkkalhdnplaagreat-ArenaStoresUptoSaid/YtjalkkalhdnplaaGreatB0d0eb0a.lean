/-
  A call by a sound meaning of functions is sound.
-/
import Derived.Test.YtjalkkalhdnplaaGreatB4d814c3
import Derived.Test.YtjalkkalhdnplaaGreatB954cd94
set_option linter.unusedSimpArgs false
set_option linter.unusedVariables false
set_option maxHeartbeats 10000000
set_option maxRecDepth 100000
namespace Go.Sim
open Go (World Value Addr TypeId Act)
variable {P:Program} {C:Ctx} {S:St} {a:Act} {w:World} {ι:Inj} {R:Nat->Prop}
def VAs(w:World)(R:Nat->Prop)(ι:Inj)(mk:Nat->Option Nat)(xs:List AV)(us:List Value):Prop:=
 us.length=xs.length/\∀(i:Nat) (x:AV) (u:Value),xs[i]? = some x->us[i]? = some u->VA w R ι mk x u
def GF(P:Program)(f:FuncId)(args:List AV)(os:zf)(r:AV)(os':zf):Prop:=
 ∀(w:World) (R:Nat->Prop) (ι:Inj) (us:List Value),(∀b,R b->b<w.heap.size)->(∀o b s,ι o=some (b,s)->b<w.heap.size/\¬R b/\(look o os).isSome=true)->
  (∀o o' b s s',ι o=some (b,s)->ι o'=some (b,s')->o=o')->(∀o ob,(o,ob)∈os->OB w R ι (mark os) o ob)->VAs w R ι (mark os) args us->
  Calls P f us.toArray w fun e w'=>∃(u:Value) (ι':Inj) (R':Nat->Prop),e= .returned u/\w'.os=w.os/\w'.tape=w.tape/\w'.output=w.output/\w.heap.size<=w'.heap.size/\
   (∀b,b<w.heap.size->Blk w w' b 0)/\(∀b,b<w.heap.size->(∀o s,ι o≠some (b,s))->w'.heap[b]? = w.heap[b]?)/\(∀b,R b->R' b)/\(∀b,R' b->b<w'.heap.size/\(R b\/w.heap.size<=b\/∃o s,ι o=some (b,s)/\look o os'=some (.frz none)))/\
   (∀o b s,ι o=some (b,s)->ι' o=some (b,s))/\(∀o b s,ι' o=some (b,s)->b<w'.heap.size/\(ι o=some (b,s)\/w.heap.size<=b))/\(∀o o' b s s',ι' o=some (b,s)->ι' o'=some (b,s')->o=o')/\
   (∀o ob,(o,ob)∈os'->OB w' R' ι' (mark os') o ob)/\VA w' R' ι' (mark os') r u
def PF(P:Program)(f:FuncId)(args:List D)(r:D):Prop:=
 ∀(w:World) (R:Nat->Prop) (us:List Value),(∀b,R b->b<w.heap.size)->us.length=args.length->(∀(i:Nat) (x:D) (u:Value),args[i]? = some x->us[i]? = some u->Rd w R (.v x u))->
  Calls P f us.toArray w fun e w'=>∃u:Value,e= .returned u/\w'.os=w.os/\w'.tape=w.tape/\w'.output=w.output/\w.heap.size<=w'.heap.size/\
   (∀b,b<w.heap.size->w'.heap[b]? = w.heap[b]?)/\Rd w' (fun b=>R b\/(w.heap.size<=b/\b<w'.heap.size)) (.v r u)
def zeL(R:Nat->Prop)(ι:Inj)(os:List Nat):Nat->Prop:=fun b=>R b\/∃o s,o∈os/\ι o=some (b,s)
theorem AV.objsL_mem{o:Nat}{x:AV}{xs:List AV}(h:x∈xs)(ho:o∈x.objs):o∈AV.objsL xs:=by
 induction xs with
 | nil=>cases h
 | cons y ys ih=>
  simp only[AV.objsL,zZl]
  cases h with
  | head=>exact .inl ho
  | tail _ h=>exact .inr (ih h)
theorem ztF{H:zf}:∀ {xs:List AV} {ds:List D},toD.toDs H xs=some ds->ds.length=xs.length/\∀(i:Nat) (x:AV) (d:D),xs[i]? = some x->ds[i]? = some d->toD H x=some d:=by
 intro xs
 induction xs with
 | nil=>intro ds h;simp only[toD.toDs,Option.some.injEq] at h;subst h;simp
 | cons x xs ih=>
  intro ds h;simp only[toD.toDs] at h
  split at h
  ·rename_i y ys h1 h2
   cases h
   obtain⟨h3,h4⟩:=ih h2;refine⟨by simp [h3],fun i a b ha hb=> ?_⟩
   match i,ha,hb with
   | 0,ha,hb=>simp at ha hb;subst ha hb;exact h1
   | n+1,ha,hb=>exact h4 n a b (by simpa using ha) (by simpa using hb)
  ·cases h
theorem Rd.sealed{os:List Nat}{it:It}(h:Rd w R it):Rd w (zeL R ι os) it:=h.mono (fun _ h=> .inl h) (fun _ _=>rfl) (by cases it with|v=>trivial|el=>exact fun _ _=>rfl)
theorem zXU{H:zf}{x:AV}{d:D}(h:toD H x=some d)(hx:x.cell=true):d.cell=true:=by
 cases x with
 | d y=>simp only[toD,Option.some.injEq] at h;subst h;exact hx
 | xsl es=>simp only[toD,Option.some.injEq] at h;subst h;rfl
 | acc o es=>simp only[toD,Option.some.injEq] at h;subst h;rfl
 | osl o off len=>
  simp only[toD] at h
  split at h
  ·obtain⟨ds,_,h⟩:=zYR.1 h
   split at h
   ·cases h;rfl
   ·cases h
  ·cases h
 | fn f cs=>simp only[toD,zYT] at h;obtain⟨_,_,rfl⟩:=h;rfl
 | ref o i off=>
  cases off with
  | zero=>
   simp only[toD] at h
   split at h
   ·obtain⟨e,_,h⟩:=zYR.1 h
    split at h
    ·cases h;rfl
    ·cases h
   ·cases h
  | succ n=>simp [toD] at h
 | pe o x=>simp [toD] at h
 | nl b=>simp [toD] at h
 | mpr b=>simp [toD] at h
 | agg=>simp [AV.cell] at hx
 | tup=>simp [AV.cell] at hx
 | undef=>simp [AV.cell] at hx
theorem zkT(hr:Rel C S a w ι R){x:AV}{u:Value}(h:VA w R ι (mark S.heap) x u):∀ {d:D} {os:List Nat},toD S.heap x=some d->(∀o∈x.objs,o∈os)->Rd w (zeL R ι os) (.v d u):=by
 induction h with
 | d h=>intro d os hd _;simp only[toD,Option.some.injEq] at hd;subst hd;exact h.sealed
 | xsl h=>intro d os hd _;simp only[toD,Option.some.injEq] at hd;subst hd;exact h.sealed
 | @ref o i off b s hι hmk=>
  intro d os hd ho
  cases off with
  | succ n=>simp [toD] at hd
  | zero=>
   simp only[toD] at hd
   split at hd
   ·rename_i es hes;obtain⟨e,he,hd⟩:=zYR.1 hd
    split at hd
    ·rename_i y
     cases hd
     have hob:=hr.heap _ _ (zar hes)
     cases hob with
     | row hι' hR hb hs hsz _ hcell=>
      rw[hι] at hι';cases hι';refine .pd (.inr ⟨o,s,ho o (by simp [AV.objs]),hι⟩) (Rd.el_of_cells (fun vs hvs=> ?_) fun j c hj=> ?_)
      ·subst hvs;have:=(hcell _ _ he 0 (.d (.tup vs)) rfl).1;simp [AV.cell,D.cell] at this
      ·obtain⟨k1,q,k2,k3⟩:=hcell _ _ he j (.d c) (by simp [AV.cells,hj]);exact⟨k1,q,by rw[zcr hb];exact k2,k3.of_d.sealed⟩
    ·cases hd
   ·cases hd
 | @osl o off len cap b s c T hι hmk hb hl hc hL=>
  intro d os hd ho;simp only[toD] at hd
  split at hd
  ·rename_i es hes;obtain⟨ds,hds,hd⟩:=zYR.1 hd
   split at hd
   ·rename_i hlen
    cases hd
    have hob:=hr.heap _ _ (zar hes)
    cases hob with
    | row hι' hR hb' hs hsz _ hcell=>
     rw[hι] at hι';cases hι';rw[hb] at hb';cases hb'
     by_cases h0:ds=[]
     ·subst h0;simp at hlen;subst hlen;exact .sl0
     ·have hget:∀(i:Nat) (d:D),ds[i]? = some d->es[off+i]? = some (.d d):=fun i d hi=>by
         have h1:=zt6 hds hi;have hlt:i<len:=by rw[<- hlen];exact (zY7.1 hi).1
         rw[z0N hlt,z0W] at h1;exact h1
      have:=Rd.sl (w:=w) (R:=zeL R ι os) (es:=ds) (b:=b) (off:=off * s) (s:=s) (cap:=cap) (.inr ⟨o,s,ho o (by simp [AV.objs]),hι⟩) h0 hs (by omega) (by omega) (fun e he=>by
       obtain⟨i,hi⟩:=zZD he;have:=hsz _ (zZf (hget i e hi));exact this) (fun i e hi=>by
       have he:=hget i e hi;refine Rd.el_of_cells (fun vs hvs=> ?_) fun j c' hj=> ?_
       ·subst hvs;have:=(hcell _ _ he 0 (.d (.tup vs)) rfl).1;simp [AV.cell,D.cell] at this
       ·obtain⟨k1,q,k2,k3⟩:=hcell _ _ he j (.d c') (by simp [AV.cells,hj]);refine⟨k1,q,?_,k3.of_d.sealed⟩;rw[zcr hb, <- k2,zZN])
      rwa [hlen] at this
   ·cases hd
  ·cases hd
 | osl0=>
  intro d os hd _;simp only[toD] at hd
  split at hd
  ·obtain⟨ds,hds,hd⟩:=zYR.1 hd
   split at hd
   ·rename_i hlen
    cases hd
    have:ds=[]:=zZC.1 hlen;subst this;exact .sl0
   ·cases hd
  ·cases hd
 | @accR o b off s cap es hR hs hL hl hsz hh hm=>
  intro d os hd _;simp only[toD,Option.some.injEq] at hd;subst hd
  by_cases h0:es=[]
  ·subst h0;exact .sl0
  ·exact .sl (.inl hR) h0 hs hL hl hsz fun i e hi=>(hh i e hi).sealed
 | @accC o b s m cap es c T hι hmk hm hL hl hsz hb hc hh=>
  intro d os hd ho;simp only[toD,Option.some.injEq] at hd;subst hd
  by_cases h0:es=[]
  ·subst h0;exact .sl0
  ·unfold mark at hmk
   split at hmk
   ·rename_i q hq
    cases hmk
    cases hr.heap _ _ (zar hq) with
    | accN hι'=>rw[hι] at hι';cases hι'
    | acc _ hι' _ _ hs _=>
     rw[hι] at hι';cases hι';exact .sl (.inr ⟨o,s,ho o (by simp [AV.objs]),hι⟩) h0 hs hL hl hsz fun i e hi=>by rw[zZj];exact (hh i e hi).sealed
   ·rename_i q hq
    cases hr.heap _ _ (zar hq) with
    | frz hf=>
     obtain⟨hR,hs⟩:=hf _ _ hι;exact .sl (.inl hR) h0 hs hL hl hsz fun i e hi=>by rw[zZj];exact (hh i e hi).sealed
   ·cases hmk
 | acc0=>intro d os hd _;simp only[toD,Option.some.injEq] at hd;subst hd;exact .sl0
 | agg hl hc _ ih=>
  intro d os hd ho;simp only[toD,zYT] at hd;obtain⟨ds,hds,rfl⟩:=hd;obtain⟨h1,h2⟩:=ztF hds;refine .agg (by omega) (fun c hc'=> ?_) fun i c u k1 k2=> ?_
  ·obtain⟨i,hi⟩:=zZD hc';have hlt:=(zY7.1 hi).1;rw[h1] at hlt;exact zXU (h2 i _ c (zY1 hlt) hi) (hc _ (zY4 hlt))
  ·have hlt:=(zY7.1 k1).1;rw[h1] at hlt;have hx:=zY1 hlt;exact ih i _ u hx k2 (h2 i _ c hx k1) fun o ho'=>ho o (by simp only[AV.objs];exact AV.objsL_mem (zY4 hlt) ho')
 | tup hl _ ih=>
  intro d os hd ho;simp only[toD,zYT] at hd;obtain⟨ds,hds,rfl⟩:=hd;obtain⟨h1,h2⟩:=ztF hds;refine .tup (by omega) fun i c u k1 k2=> ?_;have hlt:=(zY7.1 k1).1;rw[h1] at hlt;have hx:=zY1 hlt;exact ih i _ u hx k2 (h2 i _ c hx k1) fun o ho'=>ho o (by simp only[AV.objs];exact AV.objsL_mem (zY4 hlt) ho')
 | fn hl _ ih=>
  intro d os hd ho;simp only[toD,zYT] at hd;obtain⟨ds,hds,rfl⟩:=hd;obtain⟨h1,h2⟩:=ztF hds;refine .fn (by omega) fun i c u k1 k2=> ?_;have hlt:=(zY7.1 k1).1;rw[h1] at hlt;have hx:=zY1 hlt;exact ih i _ u hx k2 (h2 i _ c hx k1) fun o ho'=>ho o (by simp only[AV.objs];exact AV.objsL_mem (zY4 hlt) ho')
 | _=>intro d os hd _;simp [toD] at hd
mutual
def D.flat:D->Bool
 | .int _ _=>true
 | .bool _=>true
 | .str _=>true
 | .agg cs=>D.flatL cs
 | .tup cs=>D.flatL cs
 | .sl _=>false
 | .pd _=>false
 | .fn _ cs=>D.flatL cs
 | .nil=>true
def D.flatL:List D->Bool
 | []=>true
 | x::xs=>D.flat x&&D.flatL xs
end
end Go.Sim

namespace Go.Sim
open Go (World Value Addr TypeId Act)
def AOp.opds:AOp->List Opd
 | .mv x=>[x]
 | .pick c a b=>[c,a,b]
 | .alloc _=>[]
 | .box x=>[x]
 | .build _ ps=>ps.map (·.2.2)
 | .bsl _ _ _ ps=>ps.map (·.2)
 | .ld _ _ p=>[p]
 | .st _ p x=>[p,x]
 | .nilc x=>[x]
 | .bin _ x y=>[x,y]
 | .eqb _ x y=>[x,y]
 | .eqs _ _ _ x y=>[x,y]
 | .nacc=>[]
 | .un _ x=>[x]
 | .cvi _ x=>[x]
 | .s2b x=>[x]
 | .b2s x=>[x]
 | .mkfn _ cs=>cs
 | .fad _ _ _ x=>[x]
 | .fld _ _ _ x=>[x]
 | .iad _ x i=>[x,i]
 | .iada _ _ _ x i=>[x,i]
 | .idx x i=>[x,i]
 | .idxa _ _ _ x i=>[x,i]
 | .slc _ x lo hi mx=>x::(lo.toList++hi.toList++mx.toList)
 | .sls x lo hi=>x::(lo.toList++hi.toList)
 | .ext x _=>[x]
 | .len x=>[x]
 | .lens x=>[x]
 | .app _ x y=>[x,y]
 | .apps x y=>[x,y]
 | .clr _ x=>[x]
 | .mm _ xs=>xs
 | .mks _ _ l c=>[l,c]
 | .nileq _ x=>[x]
 | .call _ _ xs=>xs
 | .callv f _ xs=>f::xs
 | .atl p=>[p]
 | .ats p x=>[p,x]
 | .atc p x y=>[p,x,y]
 | .mkm=>[]
 | .lkp _ _ x k=>[x,k]
 | .mup x k v=>[x,k,v]
def AOp.looks:AOp->Bool
 | .ld .. | .st .. | .clr .. | .iad .. | .slc .. | .app .. | .apps .. | .call .. | .callv .. | .lkp .. | .mup .. | .atl .. | .ats .. | .atc .. => true
 | _=>false
def AOp.stores:AOp->Bool
 | .st .. | .clr .. | .mup .. | .ats .. | .atc .. => true
 | _=>false
def AOp.news:AOp->Bool
 | .alloc .. | .box .. | .bsl .. | .mks .. | .app .. | .apps .. | .nacc| .mkm=>true
 | _=>false
def zhQ(E:Env):List Opd->List Nat
 | []=>[]
 | y::l=>(y.ev E).objs++zhQ E l
theorem zdV{E:Env}{o:Nat}:∀ {l:List Opd},o∈zhQ E l↔∃y∈l,o∈(y.ev E).objs:=by
 intro l
 induction l with
 | nil=>simp [zhQ]
 | cons y l ih=>simp [zhQ,ih]
def AOp.foot(E:Env)(dst:Nat)(op:AOp):List Nat:=(if op.looks then zhQ E op.opds else [])++(if op.news then [dst] else [])
def AOp.wr(E:Env)(dst:Nat):AOp->List Nat
 | .st _ p _=>(p.ev E).objs
 | .clr _ x=>(x.ev E).objs
 | .app _ x _=>(x.ev E).objs++[dst]
 | .apps x _=>(x.ev E).objs++[dst]
 | .mup x _ _=>(x.ev E).objs
 | .ats p _=>(p.ev E).objs
 | .atc p _ _=>(p.ev E).objs
 | .alloc _| .box _| .bsl .. | .mks .. | .nacc| .mkm=>[dst]
 | _=>[]
theorem AOp.wr_foot{E:Env}{dst o:Nat}{op:AOp}(h:o∈op.wr E dst):o∈op.foot E dst:=by
 cases op<;>simp_all [AOp.wr,AOp.foot,AOp.looks,AOp.news,AOp.opds,zhQ]
 ·rcases h with h|h<;>simp [h]
 ·rcases h with h|h<;>simp [h]
def zag:zf->zf->zf
 | [],H=>H
 | (o,ob)::δ,H=>zN o ob (zag δ H)
theorem zCi{α:Type}{k j:Nat}{x:α}{l:List (Nat×α)}:look j (zN k x l)=if j=k then some x else look j l:=by
 split
 ·rename_i h;subst h;simp
 ·rename_i h;exact zCj h
theorem zdr{o:Nat}{δ H:zf}:look o (zag δ H)=(look o δ).or (look o H):=by
 induction δ with
 | nil=>simp [zag,look]
 | cons p δ ih=>
  obtain⟨q,ob⟩:=p;rw[zag,zCi,look]
  by_cases h:o=q
  ·simp [h]
  ·rw[zYP h,zYP (Ne.symm h),ih]
structure zaZ(op:AOp)(E:Env)(H:zf)(dst:Nat)(v:AV)(H':zf)(δ:zf):Prop where
 eq:H'=zag δ H
 sub:∀o ob,(o,ob)∈δ->o∈op.wr E dst
 same:∀E2 H2,(∀y∈op.opds,y.ev E2=y.ev E)->(∀o∈op.foot E dst,look o H2=look o H)->(op.news=true->zaV dst E2=false/\zam dst H2=false)->zn E2 H2 dst op=some (v,zag δ H2)
theorem zaZ.quiet {op:AOp} {E:Env} {H:zf} {dst:Nat} {v:AV} {H':zf} (hn:op.news=false)
    (h:∀E2 H2,(∀y∈op.opds,y.ev E2=y.ev E)->(op.looks=true->∀o∈zhQ E op.opds,look o H2=look o H)->zn E2 H2 dst op=some (v,H2)) (he:H'=H):zaZ op E H dst v H' []:=by
 refine⟨he,(fun o ob h=>nomatch h),fun E2 H2 h1 h2 _=>h E2 H2 h1 fun hl o ho=>h2 o ?_⟩;simp [AOp.foot,hl,ho]
theorem zoS{E E2:Env}{α:Type}{l:List α}{g:α->Opd}(h:∀y∈l.map g,y.ev E2=y.ev E):∀p∈l,(g p).ev E2=(g p).ev E:=fun p hp=>h _ (z0T hp)
theorem zsr{E E2:Env}{l:List Opd}(h:∀y∈l,y.ev E2=y.ev E):l.map (·.ev E2)=l.map (·.ev E):=z0r h
theorem zQk{E:Env}{H H2:zf}{ag:Bool}{n:Nat}{x:AV}(h:∀o∈x.objs,look o H2=look o H):ldA H2 ag n x=ldA H ag n x:=by
 cases x with
 | d y=>cases y<;>rfl
 | ref o i off=>simp only[ldA];try rw[h _ (by simp [AV.objs])]
 | osl o off len=>simp only[ldA];try rw[h _ (by simp [AV.objs])]
 | _=>rfl
theorem zPa{H H2:zf}{n:Nat}{i:Int}{x:AV}(h:∀o∈x.objs,look o H2=look o H):zcM H2 n i x=zcM H n i x:=by
 cases x with
 | d y=>cases y<;>rfl
 | ref o i off=>simp only[zcM];try rw[h _ (by simp [AV.objs])]
 | osl o off len=>simp only[zcM];try rw[h _ (by simp [AV.objs])]
 | _=>rfl
theorem zWI{H H2:zf}{n:Nat}{lo hi mx:Option AV}{x:AV}(h:∀o∈x.objs,look o H2=look o H):zcn H2 n lo hi mx x=zcn H n lo hi mx x:=by
 cases x with
 | d y=>cases y<;>rfl
 | ref o i off=>simp only[zcn];try rw[h _ (by simp [AV.objs])]
 | osl o off len=>simp only[zcn];try rw[h _ (by simp [AV.objs])]
 | _=>rfl
theorem zWX{H H2:zf}{x:AV}(h:∀o∈x.objs,look o H2=look o H):zdg H2 x=zdg H x:=by
 cases x with
 | d y=>cases y<;>rfl
 | ref o i off=>simp only[zdg];try rw[h _ (by simp [AV.objs])]
 | osl o off len=>simp only[zdg];try rw[h _ (by simp [AV.objs])]
 | _=>rfl
theorem zui{H H2:zf}{x:AV}(h:∀o∈x.objs,look o H2=look o H):zeP H2 x=zeP H x:=by
 cases x with
 | ref o i off=>simp only[zeP];rw[h _ (by simp [AV.objs])]
 | _=>rfl
theorem zuo{H H1:zf}{n:Int}{p:AV}(h:zgg H n p=some H1):∃o ob,o∈p.objs/\H1=zN o ob H/\∀H2:zf,look o H2=look o H->zgg H2 n p=some (zN o ob H2):=by
 unfold zgg at h
 split at h
 ·rename_i o i off
  split at h
  ·rename_i es hes;obtain⟨e,he,h⟩:=zYR.1 h;obtain⟨m,hm,h⟩:=zYR.1 h;obtain⟨e',he',h⟩:=zYT.1 h
   cases h
   refine⟨o,_,by simp [AV.objs],rfl,fun H2 h2=> ?_⟩;simp only[zgg,h2,hes,he,zZn,hm,he',zZv]
  ·cases h
 ·cases h
theorem zQG{H H2:zf}{ok:Bool}{z:D}{x k:AV}(h:∀o∈x.objs,look o H2=look o H):zg1 H2 ok z x k=zg1 H ok z x k:=by
 cases x with
 | mpr o=>
  cases k with
  | d y=>unfold zg1;have:=h o (by simp [AV.objs]);split<;>simp_all
  | _=>rfl
 | _=>rfl
theorem zaZ.new {op:AOp} {E:Env} {H:zf} {dst:Nat} {v:AV} {ob:Obj} (hn:op.news=true)
    (h:∀E2 H2,(∀y∈op.opds,y.ev E2=y.ev E)->(∀o∈op.foot E dst,look o H2=look o H)->zaV dst E2=false->zam dst H2=false->zn E2 H2 dst op=some (v,zN dst ob H2)):zaZ op E H dst v (zN dst ob H) [(dst,ob)]:=by
 refine⟨rfl,fun o ob' h'=> ?_,fun E2 H2 h1 h2 h3=>h E2 H2 h1 h2 (h3 hn).1 (h3 hn).2⟩;simp only[zZt,Prod.mk.injEq] at h';rw[h'.1]
 cases op<;>simp_all [AOp.wr,AOp.news]
theorem zub {op:AOp} {E:Env} {H:zf} {dst n:Nat} {x:Opd} {ys:List D} {v:AV} {H':zf} (hn:op.news=true) (hl:op.looks=true) (hx:x∈op.opds) (hw:∀o∈(x.ev E).objs,o∈op.wr E dst) (h:zcj E H dst n ys (x.ev E)=some (v,H'))
    (hop:∀E2 H2,(∀y∈op.opds,y.ev E2=y.ev E)->(∀o∈op.foot E dst,look o H2=look o H)->zn E2 H2 dst op=zcj E2 H2 dst n ys (x.ev E)):∃δ,zaZ op E H dst v H' δ:=by
 cases hxv:x.ev E with
 | xsl es=>
  rw[hxv] at h;simp only[zcj] at h
  split at h
  ·rename_i h0
   split at h
   ·rename_i h1
    cases h
    refine⟨[],rfl,fun p ob hp=>(by cases hp),fun E2 H2 k1 k2 _=> ?_⟩;rw[hop E2 H2 k1 k2,hxv];simp only[zcj];rw[zYQ h0,zYQ h1];rfl
   ·cases h
  rename_i h0
  split at h
  ·rename_i hc
   cases h
   refine⟨_,zaZ.new hn fun E2 H2 h1 h2 h3 h4=> ?_⟩;rw[hop E2 H2 h1 h2,hxv];simp only[zcj];rw[zYP h0,zYQ ⟨hc.1,hc.2.1,h3,h4⟩]
  ·cases h
 | acc o es=>
  rw[hxv] at h;simp only[zcj] at h;have hmem:o∈op.foot E dst:=by
   simp only[AOp.foot,hl,if_true,zZl];exact .inl (zdV.2 ⟨x,hx,by rw[hxv];simp [AV.objs]⟩)
  split at h
  ·rename_i m hm
   split at h
   ·rename_i hc
    cases h
    refine⟨[(o,.acc (m+ys.length))],rfl,?_,fun E2 H2 h1 h2 _=> ?_⟩
    ·intro p ob hp;simp only[zZt,Prod.mk.injEq] at hp;rw[hp.1];exact hw _ (by rw[hxv];simp [AV.objs])
    ·rw[hop E2 H2 h1 h2,hxv];simp only[zcj];rw[h2 _ hmem,hm];simp only[hc,zZI,if_true,zag]
   ·cases h
  ·cases h
 | _=>rw[hxv] at h;simp [zcj] at h
theorem zaP{op:AOp}{E:Env}{H:zf}{dst:Nat}{r:AV×zf}(hn:op.news=false)(hs:op.stores=false)(h:zn E H dst op=some r):r.2=H:=by
 obtain⟨v,H'⟩:=r
 cases op with
 | st n p x=>cases hs
 | clr n x=>cases hs
 | mup x k v=>cases hs
 | ats p x=>cases hs
 | atc p x y=>cases hs
 | atl p=>
  simp only[zn] at h;obtain⟨q,_,h⟩:=zYT.1 h
  cases h;rfl
 | lkp ok z x k=>
  simp only[zn] at h;obtain⟨q,_,h⟩:=zYT.1 h
  cases h;rfl
 | sls x lo hi=>
  simp only[zn] at h
  split at h
  ·obtain⟨q,_,h⟩:=zYR.1 h;obtain⟨l,_,h⟩:=zYT.1 h
   cases h;rfl
  ·cases h
 | _=>
  first
   | (exfalso;revert hn;simp [AOp.news];done)
   | (revert h
      simp only[zn]
      (repeat' split)<;>intro h<;>simp_all [zYT,zYR]<;>grind)
theorem zFT{op:AOp}{E:Env}{H:zf}{dst:Nat}{v:AV}{H':zf}(h:zn E H dst op=some (v,H')):∃δ,zaZ op E H dst v H' δ:=by
 cases op with
 | mv x=>
  simp only[zn,Option.some.injEq,Prod.mk.injEq] at h;obtain⟨rfl,rfl⟩:=h;refine⟨[],zaZ.quiet rfl (fun E2 H2 he _=> ?_) rfl⟩;simp [zn,he x (by simp [AOp.opds])]
 | pick c a b=>
  simp only[zn] at h
  split at h
  ·rename_i t ht;simp only[Option.some.injEq,Prod.mk.injEq] at h;obtain⟨rfl,rfl⟩:=h;refine⟨[],zaZ.quiet rfl (fun E2 H2 he _=> ?_) rfl⟩;simp only[zn,he c (by simp [AOp.opds]),he a (by simp [AOp.opds]),he b (by simp [AOp.opds]),ht]
  ·cases h
 | nilc x=>
  refine⟨[],zaZ.quiet rfl (fun E2 H2 he _=> ?_) (zaP rfl rfl h)⟩;have hq:=zaP rfl rfl h;dsimp only at hq;subst hq;revert h;simp only[zn,he x (by simp [AOp.opds])]
  (repeat' split)<;>intro h<;>simp_all [zYT,zYR]
 | bin op x y=>
  refine⟨[],zaZ.quiet rfl (fun E2 H2 he _=> ?_) (zaP rfl rfl h)⟩;have hq:=zaP rfl rfl h;dsimp only at hq;subst hq;revert h;simp only[zn,he x (by simp [AOp.opds]),he y (by simp [AOp.opds])]
  (repeat' split)<;>intro h<;>simp_all [zYT,zYR]
 | eqb ng x y=>
  refine⟨[],zaZ.quiet rfl (fun E2 H2 he _=> ?_) (zaP rfl rfl h)⟩;have hq:=zaP rfl rfl h;dsimp only at hq;subst hq;revert h;simp only[zn,he x (by simp [AOp.opds]),he y (by simp [AOp.opds])]
  (repeat' split)<;>intro h<;>simp_all [zYT,zYR]
 | eqs ng n ls x y=>
  refine⟨[],zaZ.quiet rfl (fun E2 H2 he _=> ?_) (zaP rfl rfl h)⟩;have hq:=zaP rfl rfl h;dsimp only at hq;subst hq;revert h;simp only[zn,he x (by simp [AOp.opds]),he y (by simp [AOp.opds])]
  (repeat' split)<;>intro h<;>simp_all [zYT,zYR]
 | nacc=>
  simp only[zn] at h
  split at h
  ·rename_i hc
   cases h
   exact⟨_,zaZ.new rfl fun E2 H2 _ _ h1 h2=>by simp only[zn];rw[zYQ ⟨h1,h2⟩]⟩
  ·cases h
 | un op x=>
  refine⟨[],zaZ.quiet rfl (fun E2 H2 he _=> ?_) (zaP rfl rfl h)⟩;have hq:=zaP rfl rfl h;dsimp only at hq;subst hq;revert h;simp only[zn,he x (by simp [AOp.opds])]
  (repeat' split)<;>intro h<;>simp_all [zYT,zYR]
 | cvi k x=>
  refine⟨[],zaZ.quiet rfl (fun E2 H2 he _=> ?_) (zaP rfl rfl h)⟩;have hq:=zaP rfl rfl h;dsimp only at hq;subst hq;revert h;simp only[zn,he x (by simp [AOp.opds])]
  (repeat' split)<;>intro h<;>simp_all [zYT,zYR]
 | s2b x=>
  refine⟨[],zaZ.quiet rfl (fun E2 H2 he _=> ?_) (zaP rfl rfl h)⟩;have hq:=zaP rfl rfl h;dsimp only at hq;subst hq;revert h;simp only[zn,he x (by simp [AOp.opds])]
  (repeat' split)<;>intro h<;>simp_all [zYT,zYR]
 | b2s x=>
  refine⟨[],zaZ.quiet rfl (fun E2 H2 he _=> ?_) (zaP rfl rfl h)⟩;have hq:=zaP rfl rfl h;dsimp only at hq;subst hq;revert h;simp only[zn,he x (by simp [AOp.opds])]
  (repeat' split)<;>intro h<;>simp_all [zYT,zYR]
 | fad ag off n x=>
  refine⟨[],zaZ.quiet rfl (fun E2 H2 he _=> ?_) (zaP rfl rfl h)⟩;have hq:=zaP rfl rfl h;dsimp only at hq;subst hq;revert h;simp only[zn,he x (by simp [AOp.opds])]
  (repeat' split)<;>intro h<;>simp_all [zYT,zYR]
 | fld ag off n x=>
  refine⟨[],zaZ.quiet rfl (fun E2 H2 he _=> ?_) (zaP rfl rfl h)⟩;have hq:=zaP rfl rfl h;dsimp only at hq;subst hq;revert h;simp only[zn,he x (by simp [AOp.opds])]
  (repeat' split)<;>intro h<;>simp_all [zYT,zYR]
 | iada ag len n x i=>
  refine⟨[],zaZ.quiet rfl (fun E2 H2 he _=> ?_) (zaP rfl rfl h)⟩;have hq:=zaP rfl rfl h;dsimp only at hq;subst hq;revert h;simp only[zn,he x (by simp [AOp.opds]),he i (by simp [AOp.opds])]
  (repeat' split)<;>intro h<;>simp_all [zYT,zYR]
 | idx x i=>
  refine⟨[],zaZ.quiet rfl (fun E2 H2 he _=> ?_) (zaP rfl rfl h)⟩;have hq:=zaP rfl rfl h;dsimp only at hq;subst hq;revert h;simp only[zn,he x (by simp [AOp.opds]),he i (by simp [AOp.opds])]
  (repeat' split)<;>intro h<;>simp_all [zYT,zYR]
 | idxa ag len n x i=>
  refine⟨[],zaZ.quiet rfl (fun E2 H2 he _=> ?_) (zaP rfl rfl h)⟩;have hq:=zaP rfl rfl h;dsimp only at hq;subst hq;revert h;simp only[zn,he x (by simp [AOp.opds]),he i (by simp [AOp.opds])]
  (repeat' split)<;>intro h<;>simp_all [zYT,zYR]
 | ext x i=>
  refine⟨[],zaZ.quiet rfl (fun E2 H2 he _=> ?_) (zaP rfl rfl h)⟩;have hq:=zaP rfl rfl h;dsimp only at hq;subst hq;revert h;simp only[zn,he x (by simp [AOp.opds])]
  (repeat' split)<;>intro h<;>simp_all [zYT,zYR]
 | len x=>
  refine⟨[],zaZ.quiet rfl (fun E2 H2 he _=> ?_) (zaP rfl rfl h)⟩;have hq:=zaP rfl rfl h;dsimp only at hq;subst hq;revert h;simp only[zn,he x (by simp [AOp.opds])]
  (repeat' split)<;>intro h<;>simp_all [zYT,zYR]
 | lens x=>
  refine⟨[],zaZ.quiet rfl (fun E2 H2 he _=> ?_) (zaP rfl rfl h)⟩;have hq:=zaP rfl rfl h;dsimp only at hq;subst hq;revert h;simp only[zn,he x (by simp [AOp.opds])]
  (repeat' split)<;>intro h<;>simp_all [zYT,zYR]
 | build z ps=>
  refine⟨[],zaZ.quiet rfl (fun E2 H2 he _=> ?_) (zaP rfl rfl h)⟩;have hq:=zaP rfl rfl h;dsimp only at hq;subst hq;have hm:(ps.map fun p=>(p.1,p.2.1,p.2.2.ev E2))=ps.map fun p=>(p.1,p.2.1,p.2.2.ev E):=z0r fun p hp=>by rw[zoS (g:=fun p:Nat×Nat×Opd=>p.2.2) he p hp]
  simp only[zn,hm] at h ⊢;obtain⟨q,h1,h2⟩:=zYT.1 h;rw[h1];simp at h2;simp [h2]
 | mkfn f cs=>
  refine⟨[],zaZ.quiet rfl (fun E2 H2 he _=> ?_) (zaP rfl rfl h)⟩;have hm:cs.map (·.ev E2)=cs.map (·.ev E):=zsr he;simp only[zn] at h ⊢
  cases h
  rw[hm]
 | mm mx xs=>
  refine⟨[],zaZ.quiet rfl (fun E2 H2 he _=> ?_) (zaP rfl rfl h)⟩;have hm:xs.map (·.ev E2)=xs.map (·.ev E):=zsr he;simp only[zn] at h ⊢;rw[hm]
  split at h
  ·cases h
  ·obtain⟨q,h1,h2⟩:=zYT.1 h
   cases h2;simp [h1]
 | ld ag n p=>
  refine⟨[],zaZ.quiet rfl (fun E2 H2 he hh=> ?_) (zaP rfl rfl h)⟩;have hp:=he p (by simp [AOp.opds]);have hs:ldA H2 ag n (p.ev E)=ldA H ag n (p.ev E):=zQk (E:=E) fun o ho=>hh rfl o (zdV.2 ⟨p,by simp [AOp.opds],ho⟩);simp only[zn,hp,hs] at h ⊢;obtain⟨q,h1,h2⟩:=zYT.1 h
  cases h2;simp [h1]
 | iad n x i=>
  refine⟨[],zaZ.quiet rfl (fun E2 H2 he hh=> ?_) (zaP rfl rfl h)⟩;have hp:=he x (by simp [AOp.opds]);have hi:=he i (by simp [AOp.opds]);have hs:∀k,zcM H2 n k (x.ev E)=zcM H n k (x.ev E):=fun k=>zPa fun o ho=>hh rfl o (zdV.2 ⟨x,by simp [AOp.opds],ho⟩);simp only[zn,hp,hi,hs] at h ⊢;obtain⟨k,h1,h2⟩:=zYR.1 h;rw[h1];simp only[zZn]
  split at h2
  ·rename_i hk;obtain⟨q,h3,h4⟩:=zYT.1 h2
   cases h4;simp [hk,h3]
  ·cases h2
 | slc n x lo hi mx=>
  refine⟨[],zaZ.quiet rfl (fun E2 H2 he hh=> ?_) (zaP rfl rfl h)⟩;have hp:=he x (by simp [AOp.opds]);have h1:lo.map (·.ev E2)=lo.map (·.ev E):=by cases lo with|none=>rfl|some y=>simp [he y (by simp [AOp.opds])]
  have h2:hi.map (·.ev E2)=hi.map (·.ev E):=by cases hi with|none=>rfl|some y=>simp [he y (by simp [AOp.opds])]
  have h3:mx.map (·.ev E2)=mx.map (·.ev E):=by cases mx with|none=>rfl|some y=>simp [he y (by simp [AOp.opds])]
  have hs:zcn H2 n (lo.map (·.ev E)) (hi.map (·.ev E)) (mx.map (·.ev E)) (x.ev E)=zcn H n (lo.map (·.ev E)) (hi.map (·.ev E)) (mx.map (·.ev E)) (x.ev E):=zWI fun o ho=>hh rfl o (zdV.2 ⟨x,by simp [AOp.opds],ho⟩);simp only[zn,hp,h1,h2,h3,hs] at h ⊢;obtain⟨q,h4,h5⟩:=zYT.1 h
  cases h5;simp [h4]
 | sls x lo hi=>
  refine⟨[],zaZ.quiet rfl (fun E2 H2 he hh=> ?_) (zaP rfl rfl h)⟩;have hp:=he x (by simp [AOp.opds]);have h1:lo.map (·.ev E2)=lo.map (·.ev E):=by cases lo with|none=>rfl|some y=>simp [he y (by simp [AOp.opds])]
  have h2:hi.map (·.ev E2)=hi.map (·.ev E):=by cases hi with|none=>rfl|some y=>simp [he y (by simp [AOp.opds])]
  simp only[zn,hp,h1,h2] at h ⊢
  split at h
  ·obtain⟨q,h4,h5⟩:=zYR.1 h;obtain⟨l,h6,h7⟩:=zYT.1 h5
   cases h7;simp [h4,h6]
  ·cases h
 | alloc z=>
  simp only[zn] at h
  split at h
  ·cases h
   refine⟨_,zaZ.new rfl fun E2 H2 h1 h2 h3 h4=> ?_⟩;simp [zn,h3,h4]
  ·cases h
 | box x=>
  simp only[zn] at h
  split at h
  ·rename_i hc
   cases h
   refine⟨_,zaZ.new rfl fun E2 H2 h1 h2 h3 h4=> ?_⟩;simp only[zn,h1 x (by simp [AOp.opds]),h3,h4];rw[zYQ ⟨trivial,trivial,hc.2.2⟩]
  ·cases h
 | bsl len n z ps=>
  have hm:∀E2:Env,(∀y∈(AOp.bsl len n z ps).opds,y.ev E2=y.ev E)->(ps.map fun p=>(p.1,p.2.ev E2))=ps.map fun p=>(p.1,p.2.ev E):=fun E2 he=>z0r fun p hp=>by rw[zoS (g:=fun p:Nat×Opd=>p.2) he p hp]
  have ha:∀E2:Env,(∀y∈(AOp.bsl len n z ps).opds,y.ev E2=y.ev E)->(ps.all fun p=>(p.2.ev E2).size==n)=ps.all fun p=>(p.2.ev E).size==n:=fun E2 he=>by
   rw[zZB,zZi,zZi];constructor
   ·intro h p hp;rw[<- zoS (g:=fun p:Nat×Opd=>p.2) he p hp];exact h p hp
   ·intro h p hp;rw[zoS (g:=fun p:Nat×Opd=>p.2) he p hp];exact h p hp
  simp only[zn] at h
  split at h
  ·rename_i hc;obtain⟨es,h1,h2⟩:=zYR.1 h
   split at h2
   ·rename_i ds hds
    cases h2
    refine⟨[],rfl,(fun o ob h=>nomatch h),fun E2 H2 he _ _=> ?_⟩;simp only[zn,hm E2 he,ha E2 he];rw[zYQ hc,h1];simp [hds,zag]
   ·rename_i hds
    split at h2
    ·cases h2
     refine⟨_,zaZ.new rfl fun E2 H2 he _ h3 h4=> ?_⟩;simp only[zn,hm E2 he,ha E2 he];rw[zYQ hc,h1];simp [hds,h3,h4]
    ·cases h2
  ·cases h
 | mks n z l c=>
  simp only[zn] at h
  split at h
  ·rename_i a b hl hc
   split at h
   ·rename_i hh
    cases h
    refine⟨_,zaZ.new rfl fun E2 H2 h1 h2 h3 h4=> ?_⟩;simp only[zn,h1 l (by simp [AOp.opds]),h1 c (by simp [AOp.opds]),hl,hc,h3,h4];rw[zYQ ⟨hh.1,hh.2.1,hh.2.2.1,hh.2.2.2.1,trivial,trivial⟩]
   ·cases h
  ·cases h
 | st n p x=>
  simp only[zn] at h
  split at h
  ·rename_i o i off hp
   split at h
   ·rename_i hc
    split at h
    ·rename_i es hes;obtain⟨e,h1,h2⟩:=zYR.1 h;obtain⟨e',h3,h4⟩:=zYT.1 h2
     cases h4
     have hmem:o∈(AOp.st n p x).foot E dst:=by
      simp only[AOp.foot,AOp.looks,if_true,zZl];exact .inl (zdV.2 ⟨p,by simp [AOp.opds],by rw[hp];simp [AV.objs]⟩)
     refine⟨[(o,.row (es.set i e'))],rfl,?_,fun E2 H2 he hh _=> ?_⟩
     ·intro q ob hq;simp only[zZt,Prod.mk.injEq] at hq;rw[hq.1];simp [AOp.wr,hp,AV.objs]
     ·simp only[zn,he p (by simp [AOp.opds]),he x (by simp [AOp.opds]),hp,hh o hmem,hes];rw[zYQ hc,h1];simp [h3,zag]
    ·cases h
   ·cases h
  ·cases h
 | clr n x=>
  simp only[zn] at h
  split at h
  ·rename_i o off len hp
   split at h
   ·rename_i es hes
    split at h
    ·rename_i hc
     cases h
     have hmem:o∈(AOp.clr n x).foot E dst:=by
      simp only[AOp.foot,AOp.looks,if_true,zZl];exact .inl (zdV.2 ⟨x,by simp [AOp.opds],by rw[hp];simp [AV.objs]⟩)
     refine⟨[(o,.row (es.take off))],rfl,?_,fun E2 H2 he hh _=> ?_⟩
     ·intro q ob hq;simp only[zZt,Prod.mk.injEq] at hq;rw[hq.1];simp [AOp.wr,hp,AV.objs]
     ·simp only[zn,he x (by simp [AOp.opds]),hp,hh o hmem,hes];rw[zYQ hc];simp [zag]
    ·cases h
   ·cases h
  ·cases h
 | app n x y=>
  simp only[zn] at h;obtain⟨ys,h1,h2⟩:=zYR.1 h;refine zub (x:=x) rfl rfl (by simp [AOp.opds]) (fun o ho=>by simp [AOp.wr,ho]) h2 fun E2 H2 he hh=> ?_;have hs:zdg H2 (y.ev E)=zdg H (y.ev E):=zWX fun o ho=>hh o (by
   simp only[AOp.foot,AOp.looks,if_true,zZl];exact .inl (zdV.2 ⟨y,by simp [AOp.opds],ho⟩))
  simp only[zn,he x (by simp [AOp.opds]),he y (by simp [AOp.opds]),hs,h1,zZn]
 | apps x y=>
  simp only[zn] at h
  split at h
  ·rename_i s hs;refine zub (x:=x) rfl rfl (by simp [AOp.opds]) (fun o ho=>by simp [AOp.wr,ho]) h fun E2 H2 he hh=> ?_;simp only[zn,he x (by simp [AOp.opds]),he y (by simp [AOp.opds]),hs]
  ·cases h
 | atl p=>
  refine⟨[],zaZ.quiet rfl (fun E2 H2 he hh=> ?_) (zaP rfl rfl h)⟩;have hq:=zaP rfl rfl h;dsimp only at hq;subst hq;have:zeP H2 (p.ev E)=zeP H' (p.ev E):=zui fun o ho=>hh rfl o (zdV.2 ⟨p,by simp [AOp.opds],ho⟩);simp only[zn,he p (by simp [AOp.opds]),this] at h ⊢;obtain⟨q,h1,h2⟩:=zYT.1 h
  cases h2
  rw[h1];rfl
 | ats p x=>
  simp only[zn] at h;obtain⟨n,hn,h⟩:=zYR.1 h;obtain⟨H1,h1,h⟩:=zYT.1 h
  cases h
  obtain⟨o,ob,ho,hH,hs⟩:=zuo h1;subst hH;refine⟨[(o,ob)],rfl,?_,fun E2 H2 he hh _=> ?_⟩
  ·intro q ob' hq;simp only[zZt,Prod.mk.injEq] at hq;rw[hq.1];exact ho
  ·have:=hs H2 (hh o (by simp only[AOp.foot,AOp.looks,if_true,zZl];exact .inl (zdV.2 ⟨p,by simp [AOp.opds],ho⟩)));simp only[zn,he x (by simp [AOp.opds]),he p (by simp [AOp.opds]),hn,zZn,this,zZv,zag]
 | atc p x y=>
  simp only[zn] at h;obtain⟨n,hn,h⟩:=zYR.1 h;obtain⟨m,hm,h⟩:=zYR.1 h;obtain⟨v',hv,h⟩:=zYR.1 h;have h2:∀H2,(∀o∈(AOp.atc p x y).foot E dst,look o H2=look o H)->zeP H2 (p.ev E)=zeP H (p.ev E):=fun H2 hh=>zui fun o ho=>hh o (by simp only[AOp.foot,AOp.looks,if_true,zZl];exact .inl (zdV.2 ⟨p,by simp [AOp.opds],ho⟩))
  split at h
  ·rename_i hvo;obtain⟨H1,h1,h⟩:=zYT.1 h
   cases h
   obtain⟨o,ob,ho,hH,hs⟩:=zuo h1;subst hH;refine⟨[(o,ob)],rfl,?_,fun E2 H2 he hh _=> ?_⟩
   ·intro q ob' hq;simp only[zZt,Prod.mk.injEq] at hq;rw[hq.1];exact ho
   ·have:=hs H2 (hh o (by simp only[AOp.foot,AOp.looks,if_true,zZl];exact .inl (zdV.2 ⟨p,by simp [AOp.opds],ho⟩)));simp only[zn,he x (by simp [AOp.opds]),he y (by simp [AOp.opds]),he p (by simp [AOp.opds]),hn,hm,h2 H2 hh,hv,hvo,zZn,if_true,this,zZv,zag]
  ·rename_i hvo
   cases h
   refine⟨[],rfl,(fun o ob h=>nomatch h),fun E2 H2 he hh _=> ?_⟩;simp only[zn,he x (by simp [AOp.opds]),he y (by simp [AOp.opds]),he p (by simp [AOp.opds]),hn,hm,h2 H2 hh,hv,hvo,zZn,if_false,zag]
 | mkm=>
  simp only[zn] at h
  split at h
  ·rename_i hc
   cases h
   exact⟨_,zaZ.new rfl fun E2 H2 _ _ h3 h4=>by simp only[zn,h3,h4,zZI,if_true]⟩
  ·cases h
 | lkp ok z x k=>
  refine⟨[],zaZ.quiet rfl (fun E2 H2 he hh=> ?_) (zaP rfl rfl h)⟩;have hq:=zaP rfl rfl h;dsimp only at hq;subst hq;have:=zQG (H:=H') (H2:=H2) (ok:=ok) (z:=z) (x:=x.ev E) (k:=k.ev E) fun o ho=>hh rfl o (zdV.2 ⟨x,by simp [AOp.opds],ho⟩);simp only[zn,he x (by simp [AOp.opds]),he k (by simp [AOp.opds]),this] at h ⊢;obtain⟨q,h1,h2⟩:=zYT.1 h
  cases h2
  rw[h1];rfl
 | mup x k y=>
  simp only[zn] at h;unfold ziU at h
  split at h
  ·rename_i o n y' hx hk hy
   split at h
   ·rename_i es hes
    cases h
    have hmem:o∈(AOp.mup x k y).foot E dst:=by
     simp only[AOp.foot,AOp.looks,if_true,zZl];exact .inl (zdV.2 ⟨x,by simp [AOp.opds],by rw[hx];simp [AV.objs]⟩)
    refine⟨[(o,.mp (zdW n y' es))],rfl,?_,fun E2 H2 he hh _=> ?_⟩
    ·intro q ob hq;simp only[zZt,Prod.mk.injEq] at hq;rw[hq.1];simp [AOp.wr,hx,AV.objs]
    ·simp only[zn,he x (by simp [AOp.opds]),he k (by simp [AOp.opds]),he y (by simp [AOp.opds]),hx,hk,hy,ziU,hh o hmem,hes];simp [zag]
   ·cases h
  ·cases h
 | nileq ng x=>simp [zn] at h
 | call f ms xs=>simp [zn] at h
 | callv f ms xs=>simp [zn] at h
theorem zs7{o:Nat}{xs:List AV}:AV.refsL o xs=false↔∀x∈xs,x.refs o=false:=by
 induction xs with
 | nil=>simp [AV.refsL]
 | cons x xs ih=>simp [AV.refsL,ih]
theorem zkA{o:Nat}{x:AV}(h:x.refs o=false):∀y∈x.cells,y.refs o=false:=by
 cases x with
 | d y=>intro z hz;simp only[AV.cells,zY0] at hz;obtain⟨_,_,rfl⟩:=hz;rfl
 | agg cs=>intro z hz;exact AV.refsL_false hz h
 | _=>intro z hz;simp only[AV.cells,zZt] at hz;subst hz;exact h
theorem zo9{o:Nat}{cs:List AV}(h:∀y∈cs,y.refs o=false):(AV.mkAgg cs).refs o=false:=by
 unfold AV.mkAgg;split
 ·rfl
 ·simpa [AV.refs] using zs7.2 h
theorem zUi{o:Nat}{f:FuncId}{cs:List AV}(h:∀y∈cs,y.refs o=false):(AV.mkFn f cs).refs o=false:=by
 unfold AV.mkFn;split
 ·rfl
 ·simpa [AV.refs] using zs7.2 h
theorem zs8{o:Nat}{ag:Bool}{off n:Nat}{x v:AV}(h:x.refs o=false)(hp:zdX ag off n x=some v):v.refs o=false:=by
 unfold zdX at hp
 split at hp
 ·obtain⟨_,_,rfl⟩:=zYT.1 hp;rfl
 ·split at hp
  ·split at hp
   ·cases hp
    exact zo9 fun y hy=>zkA h y (z1y (z0H hy))
   ·cases hp
  ·split at hp
   ·exact zkA h _ (zZf hp)
   ·cases hp
theorem zDt{o off:Nat}{x v r:AV}(hx:x.refs o=false)(hv:v.refs o=false)(h:zds x off v=some r):r.refs o=false:=by
 unfold zds at h
 split at h
 ·cases h;exact hv
 ·split at h
  ·cases h
   refine zo9 fun y hy=> ?_;simp only[zfB,zZl] at hy
   rcases hy with (hy|hy)|hy
   ·exact zkA hx y (z0H hy)
   ·exact zkA hv y hy
   ·exact zkA hx y (z1y hy)
  ·cases h
theorem zUg{o:Nat}:∀ {ps:List (Nat×Nat×AV)} {z cs:List AV},(∀y∈z,y.refs o=false)->(∀p∈ps,p.2.2.refs o=false)->zbz z ps=some cs->∀y∈cs,y.refs o=false:=by
 intro ps
 induction ps with
 | nil=>intro z cs hz _ h;simp only[zbz,Option.some.injEq] at h;subst h;exact hz
 | cons p ps ih=>
  obtain⟨off,n,v⟩:=p;intro z cs hz hp h;simp only[zbz] at h
  split at h
  ·refine ih (fun y hy=> ?_) (fun p hp'=>hp p (.tail _ hp')) h;simp only[zfB,zZl] at hy
   rcases hy with (hy|hy)|hy
   ·exact hz y (z0H hy)
   ·exact zkA (hp _ (.head _)) y hy
   ·exact hz y (z1y hy)
  ·cases h
theorem zX6{o:Nat}{v:AV}(h:v.refs o=false):(unX v).refs o=false:=by
 cases v with
 | agg cs=>
  simp only[unX];refine zo9 fun x hx=> ?_;rw[zmO] at hx;obtain⟨y,hy,rfl⟩:=zY0.1 hx;have:=AV.refsL_false hy h
  cases y<;>simp_all [zjh,AV.refs]
 | _=>simp_all [unX,AV.refs]
theorem zUh{o:Nat}:∀ {ps:List (Nat×AV)} {z cs:List AV},(∀y∈z,y.refs o=false)->(∀p∈ps,p.2.refs o=false)->zeo z ps=some cs->∀y∈cs,y.refs o=false:=by
 intro ps
 induction ps with
 | nil=>intro z cs hz _ h;simp only[zeo,Option.some.injEq] at h;subst h;exact hz
 | cons p ps ih=>
  obtain⟨i,v⟩:=p;intro z cs hz hp h;simp only[zeo] at h
  split at h
  ·refine ih (fun y hy=> ?_) (fun p hp'=>hp p (.tail _ hp')) h
   rcases z0B hy with hy|rfl
   ·exact hz y hy
   ·exact zX6 (hp _ (.head _))
  ·cases h
theorem ze3{o k:Nat}{ob:Obj}{H:zf}(h:zam o H=false)(hob:ob.refs o=false):zam o (zN k ob H)=false:=by
 simp only[zN,zam,hob,zZY]
 induction H with
 | nil=>rfl
 | cons p H ih=>
  obtain⟨j,x⟩:=p;simp only[zam,z0z] at h;simp only[zeb]
  split
  ·exact ih h.2
  ·simp [zam,h.1,ih h.2]
theorem zo8{o k:Nat}{ob:Obj}{H:zf}(h:zam o H=false)(hk:look k H=some ob):ob.refs o=false:=zhc (zar hk) h
def AOp.clean(o:Nat):AOp->Prop
 | .alloc z=>z.refs o=false
 | .build z _=>∀y∈z,y.refs o=false
 | .bsl _ _ z _=>z.refs o=false
 | .mks _ z _ _=>z.refs o=false
 | _=>True
theorem zi9{o:Nat}{es:List AV}(h:∀e∈es,e.refs o=false):(Obj.row es).refs o=false:=zs7.2 h
theorem zuc{o:Nat}{E:Env}{H:zf}{dst n:Nat}{ys:List D}{x v:AV}{H':zf}(h:zcj E H dst n ys x=some (v,H'))(hx:x.refs o=false)(hH:zam o H=false)(hd:o≠dst):
    v.refs o=false/\zam o H'=false:=by
 unfold zcj at h
 split at h
 ·split at h
  ·split at h
   ·cases h;exact⟨rfl,hH⟩
   ·cases h
  split at h
  ·cases h;exact⟨by simpa [AV.refs] using Ne.symm hd,ze3 hH rfl⟩
  ·cases h
 ·split at h
  ·split at h
   ·cases h;exact⟨by simpa [AV.refs] using hx,ze3 hH rfl⟩
   ·cases h
  ·cases h
 ·cases h
theorem zun{o:Nat}{H H1:zf}{n:Int}{p:AV}(h:zgg H n p=some H1)(hH:zam o H=false):zam o H1=false:=by
 unfold zgg at h
 split at h
 ·split at h
  ·rename_i es hes;obtain⟨e,h1,h⟩:=zYR.1 h;obtain⟨_,_,h⟩:=zYR.1 h;obtain⟨e',h3,h⟩:=zYT.1 h
   cases h
   refine ze3 hH (zi9 fun y hy=> ?_);have hrow:=zo8 hH hes
   rcases z0B hy with hy|rfl
   ·exact AV.refsL_false hy hrow
   ·exact zDt (AV.refsL_false (zZf h1) hrow) rfl h3
  ·cases h
 ·cases h
theorem zpT {o:Nat} {op:AOp} {E:Env} {H:zf} {dst:Nat} {v:AV} {H':zf} (h:zn E H dst op=some (v,H')) (ho:∀y∈op.opds,(y.ev E).refs o=false) (hH:zam o H=false)
    (hc:op.clean o) (hd:op.news=true->o≠dst):v.refs o=false/\zam o H'=false:=by
 cases op with
 | mv x=>simp only[zn,Option.some.injEq,Prod.mk.injEq] at h;obtain⟨rfl,rfl⟩:=h;exact⟨ho x (by simp [AOp.opds]),hH⟩
 | pick c a b=>
  simp only[zn] at h
  split at h
  ·cases h
   refine⟨?_,hH⟩
   split
   ·exact ho a (by simp [AOp.opds])
   ·exact ho b (by simp [AOp.opds])
  ·cases h
 | alloc z=>
  simp only[zn] at h
  split at h
  ·cases h;exact⟨by simpa [AV.refs] using Ne.symm (hd rfl),ze3 hH (zi9 (by simpa [AOp.clean] using hc))⟩
  ·cases h
 | box x=>
  simp only[zn] at h
  split at h
  ·cases h;exact⟨by simpa [AV.refs] using Ne.symm (hd rfl),ze3 hH (zi9 (by simpa [AOp.opds] using ho))⟩
  ·cases h
 | build z ps=>
  simp only[zn] at h;obtain⟨cs,h1,h2⟩:=zYT.1 h
  cases h2
  refine⟨zo9 (zUg (by simpa [AOp.clean] using hc) ?_ h1),hH⟩;intro p hp;obtain⟨q,hq,rfl⟩:=zY0.1 hp;exact ho _ (zY0.2 ⟨q,hq,rfl⟩)
 | bsl len n z ps=>
  simp only[zn] at h
  split at h
  ·obtain⟨es,h1,h2⟩:=zYR.1 h;have hes:=zUh (o:=o) (by intro y hy;rw[z1S hy];simpa [AOp.clean] using hc) (by
    intro p hp;obtain⟨q,hq,rfl⟩:=zY0.1 hp;exact ho _ (zY0.2 ⟨q,hq,rfl⟩)) h1
   split at h2
   ·cases h2;exact⟨rfl,hH⟩
   ·split at h2
    ·cases h2;exact⟨by simpa [AV.refs] using Ne.symm (hd rfl),ze3 hH (zi9 hes)⟩
    ·cases h2
  ·cases h
 | ld ag n p=>
  simp only[zn] at h;obtain⟨q,h1,h2⟩:=zYT.1 h
  cases h2
  refine⟨?_,hH⟩;have hp:=ho p (by simp [AOp.opds]);unfold ldA at h1
  split at h1
  ·obtain⟨_,_,rfl⟩:=zYT.1 h1;rfl
  ·obtain⟨_,_,rfl⟩:=zYT.1 h1;rfl
  ·split at h1
   ·rename_i es hes;obtain⟨e,he,h1⟩:=zYR.1 h1;exact zs8 (AV.refsL_false (zZf he) (zo8 hH hes)) h1
   ·cases h1
  ·cases h1
 | st n p x=>
  simp only[zn] at h
  split at h
  ·split at h
   ·split at h
    ·rename_i es hes;obtain⟨e,h1,h2⟩:=zYR.1 h;obtain⟨e',h3,h4⟩:=zYT.1 h2
     cases h4
     refine⟨rfl,ze3 hH (zi9 fun y hy=> ?_)⟩;have hrow:=zo8 hH hes
     rcases z0B hy with hy|rfl
     ·exact AV.refsL_false hy hrow
     ·exact zDt (AV.refsL_false (zZf h1) hrow) (ho x (by simp [AOp.opds])) h3
    ·cases h
   ·cases h
  ·cases h
 | clr n x=>
  simp only[zn] at h
  split at h
  ·split at h
   ·rename_i es hes
    split at h
    ·cases h
     refine⟨rfl,ze3 hH (zi9 fun y hy=> ?_)⟩;exact AV.refsL_false (z0H hy) (zo8 hH hes)
    ·cases h
   ·cases h
  ·cases h
 | app n x y=>
  simp only[zn] at h;obtain⟨ys,h1,h2⟩:=zYR.1 h;exact zuc h2 (ho x (by simp [AOp.opds])) hH (hd rfl)
 | apps x y=>
  simp only[zn] at h
  split at h
  ·exact zuc h (ho x (by simp [AOp.opds])) hH (hd rfl)
  ·cases h
 | mks n z l c=>
  simp only[zn] at h
  split at h
  ·split at h
   ·cases h;exact⟨by simpa [AV.refs] using Ne.symm (hd rfl),ze3 hH (zi9 fun y hy=>by rw[z1S hy];simpa [AOp.clean] using hc)⟩
   ·cases h
  ·cases h
 | mkfn f cs=>
  simp only[zn,Option.some.injEq,Prod.mk.injEq] at h;obtain⟨rfl,rfl⟩:=h;refine⟨zUi fun y hy=> ?_,hH⟩;obtain⟨q,hq,rfl⟩:=zY0.1 hy;exact ho q hq
 | nileq ng x=>simp [zn] at h
 | call f ms xs=>simp [zn] at h
 | callv f ms xs=>simp [zn] at h
 | nacc=>
  simp only[zn] at h
  split at h
  ·cases h;exact⟨by simpa [AV.refs] using Ne.symm (hd rfl),ze3 hH rfl⟩
  ·cases h
 | nilc x=>
  have hx:=ho x (by simp [AOp.opds]);revert h;simp only[zn];generalize x.ev E=q at hx;intro h
  split at h<;>cases h<;>first|exact⟨rfl,hH⟩|exact⟨by simpa [AV.refs] using hx,hH⟩
 | ext x i=>
  have hx:=ho x (by simp [AOp.opds]);revert h;simp only[zn];generalize x.ev E=q at hx;intro h
  split at h
  ·obtain⟨_,_,h2⟩:=zYT.1 h;cases h2;exact⟨rfl,hH⟩
  ·obtain⟨u,h1,h2⟩:=zYT.1 h;cases h2;exact⟨AV.refsL_false (zZf h1) hx,hH⟩
  ·cases h
 | fad ag off n x=>
  have hx:=ho x (by simp [AOp.opds]);simp only[zn] at h;obtain⟨q,h1,h2⟩:=zYT.1 h
  cases h2
  refine⟨?_,hH⟩;revert h1 hx;generalize x.ev E=q;intro hx h1;unfold zem at h1
  split at h1
  ·cases h1;exact hx
  ·obtain⟨_,_,rfl⟩:=zYT.1 h1;rfl
  ·obtain⟨_,_,rfl⟩:=zYT.1 h1;exact hx
  ·cases h1
 | iada ag len n x i=>
  have hx:=ho x (by simp [AOp.opds]);simp only[zn] at h;obtain⟨k,_,h⟩:=zYR.1 h
  split at h
  ·obtain⟨q,h1,h2⟩:=zYT.1 h
   cases h2
   refine⟨?_,hH⟩;revert h1 hx;generalize x.ev E=q;intro hx h1;unfold zem at h1
   split at h1
   ·cases h1;exact hx
   ·obtain⟨_,_,rfl⟩:=zYT.1 h1;rfl
   ·obtain⟨_,_,rfl⟩:=zYT.1 h1;exact hx
   ·cases h1
  ·cases h
 | idxa ag len n x i=>
  have hx:=ho x (by simp [AOp.opds]);simp only[zn] at h;obtain⟨k,_,h⟩:=zYR.1 h
  split at h
  ·obtain⟨q,h1,h2⟩:=zYT.1 h
   cases h2
   refine⟨?_,hH⟩;revert h1 hx;generalize x.ev E=q;intro hx h1;unfold zjN at h1
   split at h1
   ·obtain⟨_,_,rfl⟩:=zYT.1 h1;rfl
   ·exact zs8 hx h1
   ·cases h1
  ·cases h
 | fld ag off n x=>
  have hx:=ho x (by simp [AOp.opds]);revert h;simp only[zn];generalize x.ev E=q at hx;intro h
  split at h
  ·obtain⟨_,_,h2⟩:=zYT.1 h;cases h2;exact⟨rfl,hH⟩
  ·obtain⟨_,h1,h2⟩:=zYT.1 h;cases h2;exact⟨zs8 hx h1,hH⟩
  ·cases h
 | iad n x i=>
  have hx:=ho x (by simp [AOp.opds]);simp only[zn] at h;obtain⟨k,_,h⟩:=zYR.1 h
  split at h
  ·obtain⟨q,h1,h2⟩:=zYT.1 h
   cases h2
   refine⟨?_,hH⟩;revert h1 hx;generalize x.ev E=q;intro hx h1;unfold zcM at h1
   split at h1
   ·split at h1
    ·split at h1
     ·obtain⟨e,_,h1⟩:=zYR.1 h1
      split at h1
      ·cases h1;exact hx
      ·cases h1
     ·cases h1
    ·cases h1
   all_goals first|cases h1;done|skip
   all_goals
    obtain⟨e,_,h1⟩:=zYR.1 h1
    split at h1
    ·cases h1;first|rfl|exact hx
    ·cases h1
  ·cases h
 | slc n x lo hi mx=>
  have hx:=ho x (by simp [AOp.opds]);simp only[zn] at h;obtain⟨q,h1,h2⟩:=zYT.1 h
  cases h2
  refine⟨?_,hH⟩;revert h1 hx;generalize x.ev E=q;intro hx h1
  cases q with
  | d y=>cases y<;>simp only[zcn] at h1<;>first|cases h1;done|(revert h1;(repeat' split)<;>intro h1<;>simp [zYR] at h1<;>grind [AV.refs])
  | osl o' off len=>simp only[zcn] at h1;revert h1;(repeat' split)<;>intro h1<;>simp [zYR] at h1<;>grind [AV.refs]
  | acc o' es=>simp only[zcn] at h1;revert h1;(repeat' split)<;>intro h1<;>simp [zYR] at h1<;>grind [AV.refs]
  | xsl es=>simp only[zcn] at h1;revert h1;(repeat' split)<;>intro h1<;>simp [zYR] at h1<;>grind [AV.refs]
  | _=>simp [zcn] at h1
 | mm mx xs=>
  simp only[zn] at h
  split at h
  ·cases h
  ·rename_i y ys hys;obtain⟨q,h1,h2⟩:=zYT.1 h
   cases h2
   refine⟨?_,hH⟩;have hy:y.refs o=false:=by
    cases xs with
    | nil=>cases hys
    | cons a l=>simp only[zYU,List.cons.injEq] at hys;rw[<- hys.1];exact ho a (.head _)
   clear hys ho h
   induction ys generalizing y with
   | nil=>simp only[mmD,Option.some.injEq] at h1;subst h1;exact hy
   | cons z zs ih=>
    unfold mmD at h1
    split at h1
    ·cases h1;exact hy
    ·rename_i heq
     cases heq
     split at h1
     ·exact ih _ h1 rfl
     ·cases h1
    ·cases h1
 | atl p=>
  simp only[zn] at h;obtain⟨q,h1,h2⟩:=zYT.1 h
  cases h2
  exact⟨rfl,hH⟩
 | ats p x=>
  simp only[zn] at h;obtain⟨n,hn,h⟩:=zYR.1 h;obtain⟨H1,h1,h⟩:=zYT.1 h
  cases h
  exact⟨rfl,zun h1 hH⟩
 | atc p x y=>
  simp only[zn] at h;obtain⟨n,hn,h⟩:=zYR.1 h;obtain⟨m,hm,h⟩:=zYR.1 h;obtain⟨v',hv,h⟩:=zYR.1 h
  split at h
  ·obtain⟨H1,h1,h⟩:=zYT.1 h
   cases h
   exact⟨rfl,zun h1 hH⟩
  ·cases h;exact⟨rfl,hH⟩
 | mkm=>
  simp only[zn] at h
  split at h
  ·cases h;exact⟨by simpa [AV.refs] using Ne.symm (hd rfl),ze3 hH rfl⟩
  ·cases h
 | lkp ok z x k=>
  simp only[zn] at h;obtain⟨q,h1,h2⟩:=zYT.1 h
  cases h2
  refine⟨?_,hH⟩;unfold zg1 at h1
  split at h1
  ·split at h1
   ·cases h1;rfl
   ·cases h1
  ·cases h1
 | mup x k y=>
  simp only[zn] at h;unfold ziU at h
  split at h
  ·split at h
   ·cases h;exact⟨rfl,ze3 hH rfl⟩
   ·cases h
  ·cases h
 | _=>
  revert h;simp only[zn]
  (repeat' split)<;>intro h<;>simp [zYT,zYR] at h<;>grind [AV.refs]
end Go.Sim

namespace Go.Sim
open Go (World Value Addr TypeId Act)
variable {P:Program}
mutual
def D.ok:D->Prop
 | .int k n=>k.has n
 | .bool _=>True
 | .str s=>s.length<=LIM
 | .agg cs=>D.okL cs
 | .tup vs=>D.okL vs
 | .sl es=>es.length<=LIM/\D.okL es
 | .pd x=>D.ok x
 | .fn _ cs=>D.okL cs
 | .nil=>True
def D.okL:List D->Prop
 | []=>True
 | x::xs=>D.ok x/\D.okL xs
end
theorem D.okL_iff{xs:List D}:D.okL xs↔∀x∈xs,x.ok:=by
 induction xs with
 | nil=>simp [D.okL]
 | cons x xs ih=>simp [D.okL,ih]
theorem zl8{xs:List D}(h:∀(i:Nat) (x:D),xs[i]? = some x->x.ok):D.okL xs:=D.okL_iff.2 fun x hx=>by
 obtain⟨i,hi⟩:=zZD hx;exact h i x hi
def It.ok:It->Prop
 | .v x _=>x.ok
 | .el x _ _=>x.ok
theorem Rd.ok{w:World}{R:Nat->Prop}{it:It}(h:Rd w R it):it.ok:=by
 induction h with
 | int h=>exact h
 | bool=>trivial
 | str h=>exact h
 | @agg cs vs hl hc _ ih=>
  refine zl8 fun i x hi=> ?_;have hlt:=(zY7.1 hi).1;exact ih i x (vs[i]'(by omega)) hi (zY1 _)
 | @tup cs vs hl _ ih=>
  refine zl8 fun i x hi=> ?_;have hlt:=(zY7.1 hi).1;exact ih i x (vs[i]'(by omega)) hi (zY1 _)
 | sl0=>exact⟨by simp,trivial⟩
 | sl _ _ _ hl _ _ _ ih=>exact⟨hl,zl8 fun i x hi=>ih i x hi⟩
 | pd _ _ ih=>exact ih
 | @fn f cs vs hl _ ih=>
  refine zl8 fun i x hi=> ?_;have hlt:=(zY7.1 hi).1;exact ih i x (vs[i]'(by omega)) hi (zY1 _)
 | nil=>trivial
 | elagg _ _ ih=>exact zl8 fun i x hi=>ih i x hi
 | elc _ _ _ ih=>exact ih
theorem D.flatL_mem{x:D}{xs:List D}(h:D.flatL xs=true)(hx:x∈xs):x.flat=true:=by
 induction xs with
 | nil=>cases hx
 | cons y ys ih=>
  simp only[D.flatL,zY6] at h
  cases hx with
  | head=>exact h.1
  | tail _ hx=>exact ih h.2 hx
theorem Rd.of_flat{w w':World}{R R':Nat->Prop}{it:It}(h:Rd w R it):∀ {x:D} {u:Value},it= .v x u->x.flat=true->Rd w' R' (.v x u):=by
 induction h with
 | int h=>intro x u e _;cases e;exact .int h
 | bool=>intro x u e _;cases e;exact .bool
 | str h=>intro x u e _;cases e;exact .str h
 | agg hl hc _ ih=>intro x u e hf;cases e;exact .agg hl hc fun i c q h1 h2=>ih i c q h1 h2 rfl (D.flatL_mem hf (zZf h1))
 | tup hl _ ih=>intro x u e hf;cases e;exact .tup hl fun i c q h1 h2=>ih i c q h1 h2 rfl (D.flatL_mem hf (zZf h1))
 | fn hl _ ih=>intro x u e hf;cases e;exact .fn hl fun i c q h1 h2=>ih i c q h1 h2 rfl (D.flatL_mem hf (zZf h1))
 | nil h=>intro x u e _;cases e;exact .nil h
 | sl0=>intro x u e hf;cases e;cases hf
 | sl=>intro x u e hf;cases e;cases hf
 | pd=>intro x u e hf;cases e;cases hf
 | elagg=>intro x u e;cases e
 | elc=>intro x u e;cases e
mutual
def AV.ren(ρ:Nat->Nat):AV->AV
 | .ref o i off=> .ref (ρ o) i off
 | .osl o off len=> .osl (ρ o) off len
 | .acc o es=> .acc (ρ o) es
 | .pe o x=> .pe (ρ o) x
 | .agg cs=> .agg (AV.renL ρ cs)
 | .tup cs=> .tup (AV.renL ρ cs)
 | .fn f cs=> .fn f (AV.renL ρ cs)
 | .d x=> .d x
 | .xsl es=> .xsl es
 | .nl b=> .nl b
 | .mpr o=> .mpr (ρ o)
 | .undef=> .undef
def AV.renL(ρ:Nat->Nat):List AV->List AV
 | []=>[]
 | x::xs=>AV.ren ρ x::AV.renL ρ xs
end
theorem zmr{ρ:Nat->Nat}{xs:List AV}:AV.renL ρ xs=xs.map (AV.ren ρ):=by
 induction xs with
 | nil=>rfl
 | cons x xs ih=>simp [AV.renL,ih]
theorem zDw{ρ:Nat->Nat}{x:AV}(h:x.cell=true):(x.ren ρ).cell=true:=by
 cases x<;>simp_all [AV.ren,AV.cell]
theorem VA.ren{w:World}{R:Nat->Prop}{ι ι':Inj}{mk mk':Nat->Option Nat}{ρ:Nat->Nat}{x:AV}{u:Value}(h:VA w R ι mk x u):
    (∀o,x.refs o=true->(∀p,ι o=some p->ι' (ρ o)=some p)/\mk' (ρ o)=mk o)->VA w R ι' mk' (x.ren ρ) u:=by
 induction h with
 | d h=>intro _;exact .d h
 | @ref o _ _ _ _ h hmk=>intro hp;have:=hp o (by simp [AV.refs]);exact .ref (this.1 _ h) (this.2.trans hmk)
 | @osl o _ _ _ _ _ _ _ h hmk hb hl hc hL=>intro hp;have:=hp o (by simp [AV.refs]);exact .osl (this.1 _ h) (this.2.trans hmk) hb hl hc hL
 | osl0=>intro _;exact .osl0
 | @accR o _ _ _ _ _ hr hs' hL hl hsz h hm=>intro hp;have:=hp o (by simp [AV.refs]);exact .accR hr hs' hL hl hsz h (by rw[this.2];exact hm)
 | @accC o b s m cap es c T hι hmk hm hL hl hsz hb hc h=>intro hp;have:=hp o (by simp [AV.refs]);exact .accC (this.1 _ hι) (this.2.trans hmk) hm hL hl hsz hb hc h
 | acc0=>intro _;exact .acc0
 | peR hr h=>intro _;exact .peR hr h
 | @peC o b s m off x c T hι hmk hb hoff h=>intro hp;have:=hp o (by simp [AV.refs]);exact .peC (this.1 _ hι) (this.2.trans hmk) hb hoff h
 | xsl h=>intro _;exact .xsl h
 | agg hl hc _ ih=>
  intro hp;simp only[AV.ren,zmr];refine .agg (by simpa using hl) (fun c hm=> ?_) fun i c u h1 h2=> ?_
  ·obtain⟨y,hy,rfl⟩:=zY0.1 hm;exact zDw (hc y hy)
  ·rw[zZa] at h1;obtain⟨y,hy,rfl⟩:=zYT.1 h1;exact ih i y u hy h2 fun o ho=>hp o (AV.refsL_mem (zZf hy) ho)
 | tup hl _ ih=>
  intro hp;simp only[AV.ren,zmr];refine .tup (by simpa using hl) fun i c u h1 h2=> ?_;rw[zZa] at h1;obtain⟨y,hy,rfl⟩:=zYT.1 h1;exact ih i y u hy h2 fun o ho=>hp o (AV.refsL_mem (zZf hy) ho)
 | fn hl _ ih=>
  intro hp;simp only[AV.ren,zmr];refine .fn (by simpa using hl) fun i c u h1 h2=> ?_;rw[zZa] at h1;obtain⟨y,hy,rfl⟩:=zYT.1 h1;exact ih i y u hy h2 fun o ho=>hp o (AV.refsL_mem (zZf hy) ho)
 | nl1=>intro _;exact .nl1
 | nl2=>intro _;exact .nl2
 | @mpr o _ _ h hmk=>intro hp;have:=hp o (by simp [AV.refs]);exact .mpr (this.1 _ h) (this.2.trans hmk)
 | undef=>intro _;exact .undef
def Obj.ren(ρ:Nat->Nat):Obj->Obj
 | .row es=> .row (es.map (AV.ren ρ))
 | .acc n=> .acc n
 | .frz m=> .frz m
 | .mp es=> .mp es
theorem zUn{ρ:Nat->Nat}{x:AV}:(x.ren ρ).cells=x.cells.map (AV.ren ρ):=by
 cases x<;>simp [AV.ren,AV.cells,zmr]
theorem zUp{ρ:Nat->Nat}{x:AV}:(x.ren ρ).size=x.size:=by
 cases x<;>simp [AV.ren,AV.size,zmr]
theorem OB.ren {w:World} {R:Nat->Prop} {ι ι':Inj} {mk mk':Nat->Option Nat} {ρ:Nat->Nat} {o:Nat} {ob:Obj} (h:OB w R ι mk o ob) (ho:ι' (ρ o)=ι o)
    (hp:∀q,ob.refs q=true->(∀p,ι q=some p->ι' (ρ q)=some p)/\mk' (ρ q)=mk q):OB w R ι' mk' (ρ o) (ob.ren ρ):=by
 cases h with
 | @row es b s c T h1 h2 h3 h4 h5 h6 h7=>
  refine .row (ho.trans h1) h2 h3 h4 (fun e he=> ?_) (by simpa using h6) fun i e hi j x hx=> ?_
  ·obtain⟨y,hy,rfl⟩:=zY0.1 he;rw[zUp];exact h5 y hy
  ·rw[zZa] at hi;obtain⟨y,hy,rfl⟩:=zYT.1 hi;rw[zUn,zZa] at hx;obtain⟨z,hz,rfl⟩:=zYT.1 hx;obtain⟨k1,q,k2,k3⟩:=h7 i y hy j z hz;refine⟨zDw k1,q,k2,k3.ren fun q hq=>hp q ?_⟩;exact AV.refsL_mem (zZf hy) (AV.cells_refs hz hq)
 | acc h1 h2 h3 h4 h5 h6=>exact .acc h1 (ho.trans h2) h3 h4 h5 h6
 | accN h1=>exact .accN (ho.trans h1)
 | frz h=>exact .frz fun b s hb=>h b s (by rwa [ho] at hb)
 | mp h1 h2 h3 h4 h5 h6=>exact .mp (ho.trans h1) h2 h3 h4 h5 h6
mutual
def AV.flat:AV->Bool
 | .d x=>x.flat
 | .agg cs=>AV.flatL cs
 | .tup cs=>AV.flatL cs
 | .fn _ cs=>AV.flatL cs
 | .xsl es=>es.isEmpty
 | .acc _ _=>false
 | .pe _ _=>false
 | .ref _ _ _=>true
 | .osl _ _ _=>true
 | .nl _=>true
 | .mpr _=>true
 | .undef=>true
def AV.flatL:List AV->Bool
 | []=>true
 | x::xs=>AV.flat x&&AV.flatL xs
end
theorem AV.flatL_mem{x:AV}{xs:List AV}(h:AV.flatL xs=true)(hx:x∈xs):x.flat=true:=by
 induction xs with
 | nil=>cases hx
 | cons y ys ih=>
  simp only[AV.flatL,zY6] at h
  cases hx with
  | head=>exact h.1
  | tail _ hx=>exact ih h.2 hx
theorem VA.of_flat{w:World}{R R':Nat->Prop}{ι:Inj}{mk:Nat->Option Nat}{x:AV}{u:Value}(h:VA w R ι mk x u):x.flat=true->VA w R' ι mk x u:=by
 induction h with
 | d h=>intro hf;exact .d (h.of_flat rfl hf)
 | ref h hmk=>intro _;exact .ref h hmk
 | osl h hmk hb hl hc hL=>intro _;exact .osl h hmk hb hl hc hL
 | osl0=>intro _;exact .osl0
 | accR=>intro hf;cases hf
 | accC=>intro hf;cases hf
 | acc0=>intro hf;cases hf
 | peR=>intro hf;cases hf
 | peC=>intro hf;cases hf
 | @xsl es a n h=>
  intro hf;simp only[AV.flat,z1q] at hf;subst hf
  cases h with
  | sl0=>exact .xsl .sl0
  | sl _ h0=>exact absurd rfl h0
 | agg hl hc _ ih=>intro hf;exact .agg hl hc fun i c u h1 h2=>ih i c u h1 h2 (AV.flatL_mem hf (zZf h1))
 | tup hl _ ih=>intro hf;exact .tup hl fun i c u h1 h2=>ih i c u h1 h2 (AV.flatL_mem hf (zZf h1))
 | fn hl _ ih=>intro hf;exact .fn hl fun i c u h1 h2=>ih i c u h1 h2 (AV.flatL_mem hf (zZf h1))
 | nl1=>intro _;exact .nl1
 | nl2=>intro _;exact .nl2
 | mpr h hmk=>intro _;exact .mpr h hmk
 | undef=>intro _;exact .undef
theorem VA.toR{w:World}{R R':Nat->Prop}{ι:Inj}{mk:Nat->Option Nat}{x:AV}{u:Value}(h:VA w R ι mk x u)(hR:(∀b,R b->R' b)\/x.flat=true):VA w R' ι mk x u:=by
 rcases hR with hR|hR
 ·exact h.mono hR (fun _ _=>rfl) fun o _=>Step.same fun _ _ _=>rfl
 ·exact h.of_flat hR
theorem zKc{e x:AV}{j:Nat}(he:e.flat=true)(hx:e.cells[j]? = some x):x.flat=true:=by
 cases e with
 | agg cs=>exact AV.flatL_mem he (zZf hx)
 | d y=>
  simp only[AV.cells,zZa] at hx;obtain⟨z,hz,rfl⟩:=zYT.1 hx
  cases y with
  | agg cs=>exact D.flatL_mem he (zZf hz)
  | _=>
   simp only[D.cells] at hz
   match j,hz with
   | 0,hz=>simp at hz;subst hz;exact he
   | n+1,hz=>simp at hz
 | _=>
  simp only[AV.cells] at hx
  match j,hx with
  | 0,hx=>simp at hx;subst hx;exact he
  | n+1,hx=>simp at hx
def Obj.flat:Obj->Bool
 | .row es=>AV.flatL es
 | .acc _=>true
 | .frz _=>false
 | .mp _=>false
theorem OB.toR{w:World}{R R':Nat->Prop}{ι:Inj}{mk:Nat->Option Nat}{o:Nat}{ob:Obj}(h:OB w R ι mk o ob)(hR:(∀b,R b->R' b)\/ob.flat=true)(hno:∀b,R' b->R b):OB w R' ι mk o ob:=by
 cases h with
 | row h1 h2 h3 h4 h5 h6 h7=>
  refine .row h1 (fun k=>h2 (hno _ k)) h3 h4 h5 h6 fun i e hi j x hx=> ?_;obtain⟨k1,q,k2,k3⟩:=h7 i e hi j x hx;refine⟨k1,q,k2,k3.toR (hR.imp id fun hf=> ?_)⟩;exact zKc (AV.flatL_mem hf (zZf hi)) hx
 | acc h1 h2 h3 h4 h5 h6=>exact .acc h1 h2 (fun k=>h3 (hno _ k)) h4 h5 h6
 | accN h1=>exact .accN h1
 | frz h=>
  rcases hR with hR|hf
  ·exact .frz fun b s hb=>⟨hR _ (h b s hb).1,(h b s hb).2⟩
  ·cases hf
 | mp h1 h2 h3 h4 h5 h6=>
  rcases hR with hR|hf
  ·exact .mp h1 (fun k=>h2 (hno _ k)) h3 h4 h5 fun i k x hi=>let ⟨e,k1,k2,k3⟩:=h6 i k x hi;⟨e,k1,k2,k3.mono_v hR fun _ _=>rfl⟩
  ·cases hf
end Go.Sim

namespace Go.Sim
open Go (World Value Addr TypeId Act)
variable {P:Program}
abbrev zaO:=FuncId->List AV->zf->Option (AV×zf)
def zbI(H:zf):List Bool->List AV->Option (List AV)
 | _,[]=>some []
 | [],x::xs=>(toD H x).bind fun d=>(zbI H [] xs).map (.d d:: ·)
 | true::ms,x::xs=>(zbI H ms xs).map (x:: ·)
 | false::ms,x::xs=>(toD H x).bind fun d=>(zbI H ms xs).map (.d d:: ·)
def zaA:List Bool->List AV->List Nat
 | _,[]=>[]
 | [],x::xs=>x.objs++zaA [] xs
 | true::ms,_::xs=>zaA ms xs
 | false::ms,x::xs=>x.objs++zaA ms xs
def zcl:List Bool->List AV->List Nat
 | _,[]=>[]
 | [],_::_=>[]
 | true::ms,x::xs=>x.objs++zcl ms xs
 | false::ms,_::xs=>zcl ms xs
def zc1(ns:List Nat):List Nat->List Nat
 | []=>ns
 | x::xs=>if ns.contains x then zc1 ns xs else zc1 (ns++[x]) xs
def zkE(H:zf)(o:Nat):List Nat:=match look o H with|some (.row es)=>AV.objsL es|_=>[]
def zfs(H:zf)(ns:List Nat):List Nat:=zc1 ns (ns.flatMap (zkE H))
def zbD(H:zf)(ms:List Bool)(args:List AV):List Nat:=zfs H (zfs H (zc1 [] (zcl ms args)))
def zko(H:zf)(ns:List Nat):Bool:=ns.all fun o=>match look o H with|some (.row es)=>(AV.objsL es).all ns.contains|_=>false
def pos(o:Nat):List Nat->Nat
 | []=>0
 | x::xs=>if x=o then 0 else pos o xs+1
def zaN(ns:List Nat)(o:Nat):Nat:=1000000+pos o ns
def zea(ns:List Nat)(dst:Nat)(n:Nat):Nat:=if n<1000000 then dst+10000 * n else ns.getD (n - 1000000) 0
def zb4(H:zf)(ns:List Nat):zf:=ns.map fun o=>(zaN ns o,((look o H).getD (.acc 0)).ren (zaN ns))
def zlu(E:Env)(H:zf)(dst:Nat)(ns:List Nat)(os:zf):Bool:=
 os.all fun p=>decide (1000000<=p.1)||(!zaV (dst+10000 * p.1) E&& !zam (dst+10000 * p.1) H&& !ns.contains (dst+10000 * p.1))
def zjM(p:AV×zf):Bool:=p.1.flat&&p.2.all fun q=>q.2.flat
def zhB(a b:List Nat):Bool:=a.all fun o=> !b.contains o
def zdb(ρ:Nat->Nat)(os:zf):zf:=os.map fun p=>(ρ p.1,p.2.ren ρ)
def zeg(E:Env)(H:zf)(dst:Nat)(ns dob:List Nat)(p:AV×zf):Option (AV×zf):=
 if (zlu E H dst ns p.2&&(dob.isEmpty||zjM p))=true then some (p.1.ren (zea ns dst),zdb (zea ns dst) p.2) else none
def zfM(F:zaO)(E:Env)(H:zf)(dst:Nat)(ns dob:List Nat)(f:FuncId)(zYO:List AV):Option (AV×zf):=
 if (zko H ns&&zhB dob ns)=true then (F f (zYO.map (AV.ren (zaN ns))) (zb4 H ns)).bind (zeg E H dst ns dob) else none
def zcz(F:zaO)(E:Env)(H:zf)(dst:Nat)(ms:List Bool)(f:FuncId)(args:List AV):Option (AV×zf):=
 (zbI H ms args).bind (zfM F E H dst (zbD H ms args) (zaA ms args) f)
def zlv(ms:List Bool)(n:Nat):Bool:=(ms.drop n).headD false
def zbm(H:zf)(os:List Nat):zf:=os.map fun o=>(o,.frz (mark H o))
def zgq(H:zf)(os:List Nat):Bool:=os.all fun o=>(look o H).isSome
def zgp(F:zaO)(E:Env)(H:zf)(dst:Nat)(ms:List Bool)(f:FuncId)(dob:List Nat)(zYO:List AV):Option (AV×zf):=
 if zgq H dob=true then (zcz F E (zag (zbm H dob) H) dst ms f zYO).map fun p=>(p.1,p.2++zbm H dob) else none
def zbh(F:zaO)(E:Env)(H:zf)(dst:Nat)(ms:List Bool)(f:FuncId)(args:List AV):Option (AV×zf):=
 if zlv ms args.length=true then (zbI H ms args).bind (zgp F E H dst ms f (zaA ms args)) else zcz F E H dst ms f args
structure WF(k:Nat)(r:AV)(os:zf):Prop where
 names:∀n,(look n os).isSome=true->n<4\/(1000000<=n/\n<1000000+k)
 keep:∀i,i<k->(∃es,look (1000000+i) os=some (.row es))\/look (1000000+i) os=some (.frz none)
 res:∀q,r.refs q=true->(look q os).isSome=true
 resH:∀n ob,(n,ob)∈os->∀q,ob.refs q=true->(look q os).isSome=true
def FOK(P:Program)(F:zaO):Prop:=∀f args os r os',F f args os=some (r,os')->(∀p∈os,∃es,p.2= .row es)->(∀i p,os[i]? = some p->p.1=1000000+i)->zdG P f=true/\GF P f args os r os'/\WF os.length r os'
theorem zpL:∀(xs ns:List Nat),ns.Nodup->(zc1 ns xs).Nodup:=by
 intro xs
 induction xs with
 | nil=>intro ns h;exact h
 | cons x xs ih=>
  intro ns h;simp only[zc1]
  split
  ·exact ih ns h
  ·rename_i hx;refine ih _ (z0e.2 ⟨h,by simp,?_⟩);rintro a ha b hb rfl;simp at hb;subst hb;simp at hx;exact hx ha
theorem zfJ:∀(xs ns:List Nat) {o:Nat},o∈ns->o∈zc1 ns xs:=by
 intro xs
 induction xs with
 | nil=>intro ns o h;exact h
 | cons x xs ih=>
  intro ns o h;simp only[zc1]
  split
  ·exact ih ns h
  ·exact ih _ (by simp [h])
theorem zt4:∀(xs ns:List Nat) {o:Nat},o∈xs->o∈zc1 ns xs:=by
 intro xs
 induction xs with
 | nil=>intro ns o h;cases h
 | cons x xs ih=>
  intro ns o h;simp only[zc1]
  cases h with
  | head=>
   split
   ·rename_i hx;exact zfJ xs ns (by simpa using hx)
   ·exact zfJ xs _ (by simp)
  | tail _ h=>
   split
   ·exact ih _ h
   ·exact ih _ h
theorem zoN(H:zf)(ms:List Bool)(args:List AV):(zbD H ms args).Nodup:=zpL _ _ (zpL _ _ (zpL _ _ z1v))
theorem zRx{H:zf}{ms:List Bool}{args:List AV}{o:Nat}(h:o∈zcl ms args):o∈zbD H ms args:=zfJ _ _ (zfJ _ _ (zt4 _ _ h))
theorem zme{o:Nat}:∀ {ns:List Nat},o∈ns->ns[pos o ns]? = some o:=by
 intro ns
 induction ns with
 | nil=>intro h;cases h
 | cons x xs ih=>
  intro h;simp only[pos]
  split
  ·rename_i e;subst e;rfl
  ·rename_i e
   cases h with
   | head=>exact absurd rfl e
   | tail _ h=>simpa using ih h
theorem zgy{o:Nat}{ns:List Nat}(h:o∈ns):pos o ns<ns.length:=(zY7.1 (zme h)).1
theorem zDd{ns:List Nat}(hn:ns.Nodup){i:Nat}{o:Nat}(h:ns[i]? = some o):pos o ns=i:=by
 have h1:=zme (zZf h);have hi:=(zY7.1 h).1;have hp:=(zY7.1 h1).1;have e1:=(zY7.1 h).2;have e2:=(zY7.1 h1).2;exact (List.getElem_inj hn).1 (e2.trans e1.symm)
theorem ztD{ns:List Nat}{dst o:Nat}(h:o∈ns):zea ns dst (zaN ns o)=o:=by
 have h0:¬zaN ns o<1000000:=by simp [zaN]
 unfold zea;rw[zYP h0];simp [zaN,zZw,zme h]
theorem zoU{H:zf}{ns:List Nat}(hn:ns.Nodup)(i:Nat)(p:Nat×Obj)(h:(zb4 H ns)[i]? = some p):p.1=1000000+i/\∃o,ns[i]? = some o/\p.2=((look o H).getD (.acc 0)).ren (zaN ns):=by
 simp only[zb4,zZa] at h;obtain⟨o,ho,rfl⟩:=zYT.1 h;exact⟨by simp [zaN,zDd hn ho],o,ho,rfl⟩
theorem znX{α:Type}{k:Nat}{x:α}{l:List (Nat×α)}(h:(k,x)∈l):(look k l).isSome=true:=by
 obtain⟨y,hy⟩:=zQN h;simp [hy]
theorem zQO{H:zf}{ns:List Nat}{o:Nat}(h:o∈ns):look (zaN ns o) (zb4 H ns)=some (((look o H).getD (.acc 0)).ren (zaN ns)):=by
 have key:∀(l:List Nat),(∀x∈l,x∈ns)->o∈l->look (zaN ns o) (l.map fun o=>(zaN ns o,((look o H).getD (.acc 0)).ren (zaN ns)))=some (((look o H).getD (.acc 0)).ren (zaN ns)):=by
  intro l
  induction l with
  | nil=>intro _ h;cases h
  | cons x l ih=>
   intro hs ho;simp only[zYU,look]
   by_cases e:zaN ns x=zaN ns o
   ·have hx:x=o:=by
       have h1:=ztD (dst:=0) (hs x (.head _));rw[e,ztD h] at h1;exact h1.symm
    subst hx;simp
   ·rw[zYP e];refine ih (fun y hy=>hs y (.tail _ hy)) ?_
    cases ho with
    | head=>exact absurd rfl e
    | tail _ ho=>exact ho
 exact key ns (fun _ h=>h) h
theorem zoI{H:zf}{ns:List Nat}{n:Nat}{ob:Obj}(h:(n,ob)∈zb4 H ns):∃o∈ns,n=zaN ns o/\ob=((look o H).getD (.acc 0)).ren (zaN ns):=by
 simp only[zb4,zY0] at h;obtain⟨o,ho,he⟩:=h
 cases he
 exact⟨o,ho,rfl,rfl⟩
theorem zo7{x:AV}{o:Nat}(h:o∈x.objs):x.refs o=true:=by
 have key:∀x:AV,∀o,o∈x.objs->x.refs o=true:=by
  intro x;refine AV.rec (motive_1:=fun x=>∀o,o∈x.objs->x.refs o=true) (motive_2:=fun xs=>∀o,o∈AV.objsL xs->AV.refsL o xs=true) ?_ ?_ ?_ ?_ ?_ ?_ ?_ ?_ ?_ ?_ ?_ ?_ ?_ ?_ x
  all_goals (intros;simp_all [AV.objs,AV.objsL,AV.refs,AV.refsL])
  rename_i h1 h2 o h
  rcases h with h|h
  ·exact .inl (h1 _ h)
  ·exact .inr (h2 _ h)
 exact key x o h
mutual
theorem zpa:∀(x:AV) (o:Nat),x.refs o=true->o∈x.objs
 | .d _,_,h=>by simp [AV.refs] at h
 | .ref p _ _,o,h=>by simp [AV.refs] at h;simp [AV.objs,h]
 | .osl p _ _,o,h=>by simp [AV.refs] at h;simp [AV.objs,h]
 | .acc p _,o,h=>by simp [AV.refs] at h;simp [AV.objs,h]
 | .pe p _,o,h=>by simp [AV.refs] at h;simp [AV.objs,h]
 | .xsl _,_,h=>by simp [AV.refs] at h
 | .agg cs,o,h=>by simp only[AV.refs] at h;simp only[AV.objs];exact zi8 cs o h
 | .tup cs,o,h=>by simp only[AV.refs] at h;simp only[AV.objs];exact zi8 cs o h
 | .fn _ cs,o,h=>by simp only[AV.refs] at h;simp only[AV.objs];exact zi8 cs o h
 | .nl _,_,h=>by simp [AV.refs] at h
 | .mpr p,o,h=>by simp [AV.refs] at h;simp [AV.objs,h]
 | .undef,_,h=>by simp [AV.refs] at h
theorem zi8:∀(xs:List AV) (o:Nat),AV.refsL o xs=true->o∈AV.objsL xs
 | [],_,h=>by simp [AV.refsL] at h
 | x::xs,o,h=>by
  simp only[AV.refsL,zZM] at h;simp only[AV.objsL,zZl]
  rcases h with h|h
  ·exact .inl (zpa x o h)
  ·exact .inr (zi8 xs o h)
end
theorem zyq{H:zf}:∀ {ms:List Bool} {xs zYO:List AV},zbI H ms xs=some zYO->zYO.length=xs.length/\∀(i:Nat) (x y:AV),xs[i]? = some x->zYO[i]? = some y->
    (y=x/\∀o∈x.objs,o∈zcl ms xs)\/(∃d,toD H x=some d/\y= .d d/\∀o∈x.objs,o∈zaA ms xs):=by
 intro ms xs
 induction xs generalizing ms with
 | nil=>intro zYO h;cases ms<;>(simp only[zbI,Option.some.injEq] at h;subst h;simp)
 | cons x xs ih=>
  intro zYO h;have data:∀(ms':List Bool),(∀o,o∈x.objs->o∈zaA ms (x::xs))->(∀o,o∈zaA ms' xs->o∈zaA ms (x::xs))->(∀o,o∈zcl ms' xs->o∈zcl ms (x::xs))->((toD H x).bind fun d=>(zbI H ms' xs).map (.d d:: ·))=some zYO->zYO.length=(x::xs).length/\∀(i:Nat) (x' y:AV),(x::xs)[i]? = some x'->zYO[i]? = some y->
      (y=x'/\∀o∈x'.objs,o∈zcl ms (x::xs))\/(∃d,toD H x'=some d/\y= .d d/\∀o∈x'.objs,o∈zaA ms (x::xs)):=by
   intro ms' hd1 hd2 hk h;obtain⟨d,hd,h⟩:=zYR.1 h;obtain⟨as',h',rfl⟩:=zYT.1 h;obtain⟨h1,h2⟩:=ih h';refine⟨by simp [h1],fun i a b ha hb=> ?_⟩
   match i,ha,hb with
   | 0,ha,hb=>simp at ha hb;subst ha hb;exact .inr ⟨d,hd,rfl,fun o ho=>hd1 o ho⟩
   | n+1,ha,hb=>
    rcases h2 n a b (by simpa using ha) (by simpa using hb) with ⟨h3,h4⟩|⟨d',h3,h4,h5⟩
    ·exact .inl ⟨h3,fun o ho=>hk o (h4 o ho)⟩
    ·exact .inr ⟨d',h3,h4,fun o ho=>hd2 o (h5 o ho)⟩
  match ms,h with
  | [],h=>exact data [] (fun o ho=>by simp [zaA,ho]) (fun o ho=>by simp [zaA,ho]) (fun o ho=>by cases xs<;>simp [zcl] at ho) h
  | false::ms,h=>exact data ms (fun o ho=>by simp [zaA,ho]) (fun o ho=>by simp [zaA,ho]) (fun o ho=>by simp [zcl,ho]) h
  | true::ms,h=>
   simp only[zbI] at h;obtain⟨as',h',rfl⟩:=zYT.1 h;obtain⟨h1,h2⟩:=ih h';refine⟨by simp [h1],fun i a b ha hb=> ?_⟩
   match i,ha,hb with
   | 0,ha,hb=>simp at ha hb;subst ha hb;exact .inl ⟨rfl,fun o ho=>by simp [zcl,ho]⟩
   | n+1,ha,hb=>
    rcases h2 n a b (by simpa using ha) (by simpa using hb) with ⟨h3,h4⟩|⟨d',h3,h4,h5⟩
    ·exact .inl ⟨h3,fun o ho=>by simp [zcl,h4 o ho]⟩
    ·exact .inr ⟨d',h3,h4,fun o ho=>by simp [zaA,h5 o ho]⟩
theorem zCh{ρ:Nat->Nat}{os:zf}{n:Nat}(h:∀m,(look m os).isSome=true->ρ m=ρ n->m=n):look (ρ n) (zdb ρ os)=(look n os).map (Obj.ren ρ):=by
 induction os with
 | nil=>rfl
 | cons p os ih=>
  obtain⟨m,ob⟩:=p;have ih':(∀m',(look m' os).isSome=true->ρ m'=ρ n->m'=n)->look (ρ n) (zdb ρ os)=(look n os).map (Obj.ren ρ):=ih;simp only[zdb,zYU,look] at ih' ⊢
  by_cases e:m=n
  ·subst e;simp
  ·have hne:ρ m≠ρ n:=fun he=>e (h m (by simp [look]) he);rw[zYP hne,zYP e];refine ih' fun m' hm' he=>h m' ?_ he;simp only[look]
   split
   ·rfl
   ·exact hm'
theorem zsu{δ H:zf}{p:Nat×Obj}(h:p∈zag δ H):p∈δ\/(p∈H/\look p.1 δ=none):=by
 induction δ with
 | nil=>exact .inr ⟨h,rfl⟩
 | cons q δ ih=>
  obtain⟨o,ob⟩:=q;simp only[zag,zN] at h
  cases h with
  | head=>exact .inl (.head _)
  | tail _ h=>
   obtain⟨h1,h2⟩:=ziT.1 h
   rcases ih h1 with h3|⟨h3,h4⟩
   ·exact .inl (.tail _ h3)
   ·refine .inr ⟨h3,?_⟩;simp only[look];rw[zYP (Ne.symm h2)];exact h4
theorem zQQ{ρ:Nat->Nat}{os:zf}{o:Nat}(h:look o (zdb ρ os)=none):∀n,(look n os).isSome=true->ρ n≠o:=by
 induction os with
 | nil=>intro n hn;cases hn
 | cons p os ih=>
  obtain⟨m,ob⟩:=p;simp only[zdb,zYU,look] at h
  split at h
  ·cases h
  ·rename_i hne;intro n hn;simp only[look] at hn
   split at hn
   ·rename_i e;subst e;exact hne
   ·exact ih h n hn
end Go.Sim

namespace Go.Sim
open Go (World Value Addr TypeId Act)
variable {P:Program}
theorem zEi{C:Ctx}{S:St}{a:Act}{w:World}{ι:Inj}{R:Nat->Prop}(hr:Rel C S a w ι R){x:AV}{u:Value}(h:VA w R ι (mark S.heap) x u){d:D}{os:List Nat}(hd:toD S.heap x=some d)(ho:∀o∈x.objs,o∈os):
    Rd w (zeL R ι os) (.v d u):=zkT hr h hd ho
theorem zyp {F:zaO} (hF:FOK P F) {C:Ctx} {S:St} {a:Act} {w:World} {ι:Inj} {R:Nat->Prop} {dst:Nat} {ms:List Bool} {f:FuncId} {args:List AV} {v:AV} {δ:zf} {us:List Value}
    (h:zcz F S.env S.heap dst ms f args=some (v,δ)) (hr:Rel C S a w ι R) (hv:VAs w R ι (mark S.heap) args us):
    Calls P f us.toArray w fun e w'=>∃u ι' R',e= .returned u/\Rel C ⟨S.env,zag δ S.heap⟩ a w' ι' R'/\VA w' R' ι' (mark (zag δ S.heap)) v u:=by
 unfold zcz at h;obtain⟨zYO,has,h⟩:=zYR.1 h;have hnod:(zbD S.heap ms args).Nodup:=zoN _ _ _;have hkept:∀o,o∈zcl ms args->o∈zbD S.heap ms args:=fun o ho=>zRx ho;obtain⟨hlen,hget⟩:=zyq has;clear has;generalize hns:zbD S.heap ms args=ns at *;generalize hdob:zaA ms args=dob at *;unfold zfM at h
 split at h
 ·rename_i hc;simp only[zY6] at hc;obtain⟨hok,hdis⟩:=hc;obtain⟨⟨r,os'⟩,hf,h⟩:=zYR.1 h;unfold zeg at h
  split at h
  ·rename_i hc2;simp only[zY6] at hc2;obtain⟨hfresh,hflat⟩:=hc2
   cases h
   generalize hρ:zea ns dst=ρ;have hrow:∀o∈ns,∃es,look o S.heap=some (.row es)/\∀q∈AV.objsL es,q∈ns:=fun o ho=>by
    have:=zZi.1 hok o ho
    split at this
    ·rename_i es hes;exact⟨es,hes,fun q hq=>by simpa using zZi.1 this q hq⟩
    ·cases this
   have hrc:∀o,o∈ns->ρ (zaN ns o)=o:=fun o ho=>by rw[<- hρ];exact ztD ho
   have hget0:∀n ob,(n,ob)∈zb4 S.heap ns->∃o∈ns,n=zaN ns o/\∃es,look o S.heap=some (.row es)/\ob=(Obj.row es).ren (zaN ns):=fun n ob hm=>by
    obtain⟨o,ho,h1,h2⟩:=zoI hm;obtain⟨es,hes,_⟩:=hrow o ho;exact⟨o,ho,h1,es,hes,by rw[h2,hes];rfl⟩
   have hlook0:∀o∈ns,∃es,look o S.heap=some (.row es)/\look (zaN ns o) (zb4 S.heap ns)=some ((Obj.row es).ren (zaN ns)):=fun o ho=>by
    obtain⟨es,hes,_⟩:=hrow o ho;exact⟨es,hes,by rw[zQO ho,hes];rfl⟩
   have hosrow:∀p∈zb4 S.heap ns,∃es,p.2= .row es:=fun⟨n,ob⟩ hm=>by
    obtain⟨o,_,_,es,_,h2⟩:=hget0 n ob hm;exact⟨_,h2⟩
   obtain⟨_,hG,hW⟩:=hF f _ _ r os' hf hosrow (fun i p hp=>(zoU hnod i p hp).1);have hnlen:(zb4 S.heap ns).length=ns.length:=by simp [zb4]
   rw[hnlen] at hW
   -- the fresh names
   have hfr:∀n,(look n os').isSome=true->n<1000000->zhl (ρ n) S/\ρ n∉ns/\ρ n=dst+10000 * n:=fun n hn hlt=>by
    obtain⟨ob,hob⟩:=z0x.1 hn;have:=zZi.1 hfresh _ (zar hob);have h0:ρ n=dst+10000 * n:=by rw[<- hρ];simp [zea,hlt]
    simp only[zZM,zY6,zZL,decide_eq_true_eq] at this
    rcases this with h1|⟨⟨h1,h2⟩,h3⟩
    ·omega
    ·exact⟨by rw[h0];exact⟨h1,h2⟩,by rw[h0];simpa using h3,h0⟩
   have hgiven:∀n,(look n os').isSome=true->1000000<=n->∃o∈ns,n=zaN ns o/\ρ n=o:=fun n hn hge=>by
    rcases hW.names n hn with h1|⟨_,h1⟩
    ·omega
    ·obtain⟨o,hi⟩:∃o,ns[n - 1000000]? = some o:=⟨_,zY1 (by omega)⟩;have hm:=zZf hi;have hp:=zDd hnod hi;have hn':n=zaN ns o:=by simp only[zaN,hp];omega
     refine⟨o,hm,hn',?_⟩;rw[hn',hrc _ hm]
   have hinj:∀n,(look n os').isSome=true->∀m,(look m os').isSome=true->ρ m=ρ n->m=n:=fun n hn m hm e=>by
    rcases z0U n 1000000 with h1|h1<;>rcases z0U m 1000000 with h2|h2
    ·have e1:=(hfr n hn h1).2.2;have e2:=(hfr m hm h2).2.2;omega
    ·obtain⟨o,ho,_,h3⟩:=hgiven m hm h2;rw[h3] at e;rw[e] at ho;exact absurd ho (hfr n hn h1).2.1
    ·obtain⟨o,ho,_,h3⟩:=hgiven n hn h1;rw[h3] at e;rw[<- e] at ho;exact absurd ho (hfr m hm h2).2.1
    ·obtain⟨o,ho,h3,h4⟩:=hgiven n hn h1;obtain⟨o',ho',h5,h6⟩:=hgiven m hm h2;rw[h3,h5, <- h4, <- h6,e]
   let ι0:Inj:=fun n=>if (look n (zb4 S.heap ns)).isSome=true then ι (ρ n) else none
   have hsome0:∀n,(look n (zb4 S.heap ns)).isSome=true->∃o∈ns,n=zaN ns o/\ρ n=o:=fun n hn=>by
    obtain⟨ob,hob⟩:=z0x.1 hn;obtain⟨o,ho,h1,_⟩:=hget0 n ob (zar hob);exact⟨o,ho,h1,by rw[h1,hrc o ho]⟩
   have hι0:∀n b s,ι0 n=some (b,s)->(look n (zb4 S.heap ns)).isSome=true/\ι (ρ n)=some (b,s):=fun n b s hh=>by
    simp only[ι0] at hh
    split at hh
    ·rename_i h1;exact⟨h1,hh⟩
    ·cases hh
   have hmS:∀o∈ns,mark S.heap o=none:=fun o ho=>by
    obtain⟨es,hes,_⟩:=hrow o ho;simp [mark,hes]
   have hmo:∀o∈ns,mark (zb4 S.heap ns) (zaN ns o)=none:=fun o ho=>by
    obtain⟨es,_,h2⟩:=hlook0 o ho;simp [mark,h2,Obj.ren]
   have hs0:∀o∈ns,(look (zaN ns o) (zb4 S.heap ns)).isSome=true:=fun o ho=>by
    obtain⟨es,_,h2⟩:=hlook0 o ho;simp [h2]
   have toC:∀q∈ns,(∀p,ι q=some p->ι0 (zaN ns q)=some p)/\mark (zb4 S.heap ns) (zaN ns q)=mark S.heap q:=fun q hq=>by
    refine⟨fun p hp=> ?_,by rw[hmo q hq,hmS q hq]⟩;simp only[ι0];rw[zYQ (hs0 q hq),hrc q hq];exact hp
   have hRn:∀o∈ns,∀b s,ι o=some (b,s)->¬R b:=fun o ho b s hh=>by
    obtain⟨es,hes,_⟩:=hrow o ho
    cases hr.heap _ _ (zar hes) with
    | row k1 k2=>rw[hh] at k1;cases k1;exact k2
   let Rc:Nat->Prop:=zeL R ι dob
   have hdisj:∀o∈dob,o∉ns:=fun o ho=>by
    have:=zZi.1 hdis o ho;simpa using this
   have hRcn:∀o∈ns,∀b s,ι o=some (b,s)->¬Rc b:=fun o ho b s hh=>by
    rintro (hb|⟨q,s',hq,hq'⟩)
    ·exact hRn o ho b s hh hb
    ·have:=hr.inj _ _ _ _ _ hh hq';subst this;exact hdisj _ hq ho
   have hRclt:∀b,Rc b->b<w.heap.size:=by
    rintro b (hb|⟨o,s,_,hb⟩)
    ·exact hr.rlt b hb
    ·exact (hr.own _ _ _ hb).2
   refine (hG w Rc ι0 us hRclt (fun n b s hh=> ?_) (fun n n' b s s' h1 h2=> ?_) (fun n ob hm=> ?_) ⟨by simp [hlen,hv.1],fun i x u h1 h2=> ?_⟩).mono fun e w' hh=> ?_
   ·obtain⟨k1,k2⟩:=hι0 n b s hh;obtain⟨o,ho,_,k3⟩:=hsome0 n k1;rw[k3] at k2;exact⟨(hr.own _ b s k2).2,hRcn o ho b s k2,k1⟩
   ·obtain⟨k1,k2⟩:=hι0 _ _ _ h1;obtain⟨k3,k4⟩:=hι0 _ _ _ h2;obtain⟨o,ho,k5,k6⟩:=hsome0 n k1;obtain⟨o',ho',k7,k8⟩:=hsome0 n' k3;have:=hr.inj _ _ _ _ _ k2 k4;rw[k6,k8] at this;rw[k5,k7,this]
   ·obtain⟨o,ho,h1,es,hes,h2⟩:=hget0 n ob hm;obtain⟨es',hes',hcl⟩:=hrow o ho;rw[hes] at hes';cases hes';have hob0:=(hr.heap _ _ (zar hes)).toR (R':=R) (.inl fun _ h=>h) (fun _ h=>h);have hobR:OB w Rc ι (mark S.heap) o (.row es):=by
     cases hr.heap _ _ (zar hes) with
     | row k1 k2 k3 k4 k5 k6 k7=>exact .row k1 (hRcn o ho _ _ k1) k3 k4 k5 k6 fun i e he j x hx=>let ⟨j1,q,j2,j3⟩:=k7 i e he j x hx;⟨j1,q,j2,j3.toR (.inl fun _ h=> .inl h)⟩
    have:=hobR.ren (ρ:=zaN ns) (ι':=ι0) (mk':=mark (zb4 S.heap ns)) (by simp only[ι0];rw[zYQ (hs0 o ho),hrc o ho]) fun q hq=>toC q (hcl q (zi8 es q hq));rw[h1,h2];exact this
   ·rw[zZa] at h1;obtain⟨y,hy,rfl⟩:=zYT.1 h1;have hlt:=(zY7.1 hy).1;rw[hlen] at hlt;have hx:args[i]? = some args[i]:=zY1 hlt
    rcases hget i _ y hx hy with ⟨h3,h4⟩|⟨d,h3,h4,h5⟩
    ·subst h3;exact ((hv.2 i _ u hx h2).toR (.inl fun _ h=> .inl h)).ren fun q hq=>toC q (hkept q (h4 q (zpa _ q hq)))
    ·subst h4;exact .d (zEi hr (hv.2 i _ u hx h2) h3 h5)
   obtain⟨u,ι',R',rfl,e1,e2,e3,e4,e5,e6,e7,e8,e9,e10,e11,e12,e13⟩:=hh
   let R2:Nat->Prop:=fun b=>R' b/\(R b\/w.heap.size<=b\/∃n s,ι0 n=some (b,s)/\look n os'=some (.frz none))
   have hR2:∀b,R b->R2 b:=fun b hb=>⟨e7 b (.inl hb),.inl hb⟩;have hlow:(∀b,R' b->R2 b)\/zjM (r,os')=true:=by
    simp only[zZM,z1q] at hflat
    rcases hflat with h0|h0
    ·left;intro b hb;refine⟨hb,?_⟩
     rcases (e8 b hb).2 with h1|h1
     ·rcases h1 with h1|⟨o,s,ho,_⟩
      ·exact .inl h1
      ·rw[h0] at ho;cases ho
     ·exact .inr h1
    ·exact .inr h0
   have hlowV:VA w' R2 ι' (mark os') r u:=e13.toR (hlow.imp id fun hf=>by simp only[zjM,zY6] at hf;exact hf.1);have hlowO:∀n ob,(n,ob)∈os'->OB w' R2 ι' (mark os') n ob:=fun n ob hm=>(e12 n ob hm).toR (hlow.imp id fun hf=>by
    simp only[zjM,zY6] at hf;exact zZi.1 hf.2 _ hm) fun b hb=>hb.1
   let im:Nat->Prop:=fun o=>∃n,(look n os').isSome=true/\ρ n=o
   have him:∀n,(look n os').isSome=true->im (ρ n):=fun n h1=>⟨n,h1,rfl⟩;have hcase0:∀o,(∃n,(look n os').isSome=true/\ρ n=o)\/¬im o:=fun o=>Classical.em _;have:∃back:Nat->Nat,∀n,(look n os').isSome=true->back (ρ n)=n:=by
    have hpt:∀o,∃m,∀n,(look n os').isSome=true->ρ n=o->m=n:=fun o=>by
     rcases hcase0 o with ⟨n,h1,h2⟩|h1
     ·exact⟨n,fun m hm h3=>hinj m hm n h1 (h2.trans h3.symm)⟩
     ·exact⟨0,fun m hm h3=>absurd ⟨m,hm,h3⟩ h1⟩
    obtain⟨g,hg⟩:=Classical.axiomOfChoice hpt;exact⟨g,fun n hn=>hg _ n hn rfl⟩
   obtain⟨back,hback⟩:=this;have hex:∃ι2:Inj,(∀n,(look n os').isSome=true->ι2 (ρ n)=ι' n)/\(∀o,¬im o->ι2 o=ι o):=by
    refine⟨fun o=> @ite _ (im o) (Classical.propDecidable _) (ι' (back o)) (ι o),fun n hn=> ?_,fun o ho=> ?_⟩
    ·show @ite _ (im (ρ n)) (Classical.propDecidable _) (ι' (back (ρ n))) (ι (ρ n))=ι' n;rw[zYQ (him n hn),hback n hn]
    ·show @ite _ (im o) (Classical.propDecidable _) (ι' (back o)) (ι o)=ι o;rw[zYP ho]
   obtain⟨ι2,hι2,hι2n⟩:=hex;have hcase:∀o,(∃n,(look n os').isSome=true/\ρ n=o)\/¬im o:=fun o=>Classical.em _;have hm2:∀n,(look n os').isSome=true->mark (zag (zdb ρ os') S.heap) (ρ n)=mark os' n:=fun n h1=>by
    obtain⟨ob,hob⟩:=z0x.1 h1;unfold mark;rw[zdr,zCh (hinj n h1),hob]
    cases ob<;>rfl
   have hm2n:∀o,¬im o->mark (zag (zdb ρ os') S.heap) o=mark S.heap o:=fun o h1=>by
    unfold mark;rw[zdr]
    cases hl:look o (zdb ρ os') with
    | none=>rfl
    | some ob=>
     exfalso;obtain⟨⟨n,ob'⟩,hm,he⟩:=zY0.1 (zar hl);simp only[Prod.mk.injEq] at he;exact h1 (he.1 ▸ him n (znX hm))
   have hKR:zbM R w w':=fun b hb=>e6 b (hr.rlt b hb) fun n s hn=>by
    obtain⟨k1,k2⟩:=hι0 _ _ _ hn;obtain⟨o,ho,_,k3⟩:=hsome0 n k1;rw[k3] at k2;exact hRn o ho b s k2 hb
   have hkeepc:∀o∈ns,(look (zaN ns o) os').isSome=true/\mark os' (zaN ns o)=none:=fun o ho=>by
    rcases hW.keep (pos o ns) (zgy ho) with ⟨es,hes⟩|hes
    ·exact⟨by simp only[zaN];rw[hes];rfl,by simp only[zaN,mark];rw[hes]⟩
    ·exact⟨by simp only[zaN];rw[hes];rfl,by simp only[zaN,mark];rw[hes]⟩
   have hst:∀p,¬zhl p S->Step w w' ι ι2 (mark S.heap) (mark (zag (zdb ρ os') S.heap)) p:=fun p hp=>by
    rcases hcase p with ⟨n,h1,rfl⟩|h1
    ·rcases z0U n 1000000 with h2|h2
     ·exact absurd (hfr n h1 h2).1 hp
     ·obtain⟨o,ho,h3,h4⟩:=hgiven n h1 h2;have k0:=hs0 o ho;obtain⟨_,hes⟩:=hkeepc o ho;rw[<- h3] at hes k0;have k1:mark S.heap (ρ n)=none:=by rw[h4];exact hmS o ho
      have k2:mark (zag (zdb ρ os') S.heap) (ρ n)=none:=by rw[hm2 n h1];exact hes
      refine⟨fun b s hh=> ?_,fun b s hh=> ?_,fun m hh=>(by rw[k1] at hh;cases hh),fun m hh=>(by rw[k2] at hh;cases hh)⟩
      ·rw[hι2 n h1];exact e9 n b s (by simp only[ι0,zYQ k0];exact hh)
      ·rw[k1];simpa using e5 b (hr.own _ _ _ hh).2
    ·refine Step.other (hι2n p h1) (hm2n p h1) fun b s hh=>e6 b (hr.own _ _ _ hh).2 fun n s' hn=> ?_;obtain⟨k1,k2⟩:=hι0 _ _ _ hn;obtain⟨o,ho,k3,k4⟩:=hsome0 n k1;have:=hr.inj _ _ _ _ _ hh k2;subst this;exact h1 ⟨n,by rw[k3];exact (hkeepc o ho).1,rfl⟩
   have hnk:∀n b s,ι0 n=some (b,s)->¬C.keep b:=fun n b s hn=>(hr.own _ b s (hι0 n b s hn).2).1;have hrel:Rel C ⟨S.env,zag (zdb ρ os') S.heap⟩ a w' ι2 R2:=by
    refine hr.change e1 e2 e3 e4 e5 (fun b hb=>e6 b (zZ1 (hr.keepLt b hb) hr.grow) fun o s ho=>hnk o b s ho hb) hR2 (fun b hb=>(e8 b hb.1).1) (fun b hb=> ?_) hKR ?_ ?_ (fun p hp=>hst p fun hu=>by rw[hu.1] at hp;cases hp) ?_
    ·rcases hb.2 with h1|h1|⟨n,s,h1,_⟩
     ·exact hr.rok b h1
     ·exact .inr fun hkp=>by have:=hr.keepLt b hkp;have:=hr.grow;omega
     ·exact .inr (hnk n b s h1)
    ·intro o b s ho
     rcases hcase o with ⟨n,h1,rfl⟩|h1
     ·rw[hι2 n h1] at ho;obtain⟨k1,k2|k2⟩:=e10 n b s ho
      ·exact⟨hnk n b s k2,k1⟩
      ·exact⟨fun hkp=>by have:=hr.keepLt b hkp;have:=hr.grow;omega,k1⟩
     ·rw[hι2n o h1] at ho;have:=hr.own o b s ho;exact⟨this.1,by omega⟩
    ·have mixed:∀n o b s s',(look n os').isSome=true->¬im o->ι' n=some (b,s)->ι o=some (b,s')->False:=fun n o b s s' h1 h2 h3 h4=>by
        obtain⟨_,k2|k2⟩:=e10 n b s h3
        ·obtain⟨k3,k4⟩:=hι0 _ _ _ k2;have:=hr.inj _ _ _ _ _ h4 k4;subst this;exact h2 (him n h1)
        ·have:=(hr.own _ _ _ h4).2;omega
     intro o o' b s s' h1 h2
     rcases hcase o with ⟨n,k1,rfl⟩|k1<;>rcases hcase o' with ⟨n',k2,rfl⟩|k2
     ·rw[hι2 n k1] at h1;rw[hι2 n' k2] at h2;rw[e11 _ _ _ _ _ h1 h2]
     ·rw[hι2 n k1] at h1;rw[hι2n _ k2] at h2;exact (mixed _ _ _ _ _ k1 k2 h1 h2).elim
     ·rw[hι2n _ k1] at h1;rw[hι2 n' k2] at h2;exact (mixed _ _ _ _ _ k2 k1 h2 h1).elim
     ·rw[hι2n _ k1] at h1;rw[hι2n _ k2] at h2;exact hr.inj _ _ _ _ _ h1 h2
    ·intro o ob ho
     rcases zsu ho with ho|⟨ho,hno⟩
     ·obtain⟨⟨n,ob'⟩,hm,he⟩:=zY0.1 ho
      cases he
      exact (hlowO n ob' hm).ren (hι2 n (znX hm)) fun q hq=>by
       have h1:=hW.resH n ob' hm q hq;exact⟨fun p hp=>by rw[hι2 q h1];exact hp,hm2 q h1⟩
     ·have h1:¬im o:=fun⟨n,h1,h2⟩=>zQQ hno n h1 h2;refine (hr.heap o ob ho).mono hR2 hKR (fun b s hb=>⟨by rw[hι2n o h1];exact hb,?_,?_⟩) (fun h0=>by rw[hι2n o h1];exact h0) fun p hp=>hst p fun hu=>by
       have:=zhc ho hu.2;rw[hp] at this;cases this
      ·refine e6 b (hr.own _ _ _ hb).2 fun n s' hn=> ?_;obtain⟨k1,k2⟩:=hι0 _ _ _ hn;obtain⟨q,hq,k3,k4⟩:=hsome0 n k1;have:=hr.inj _ _ _ _ _ hb k2;subst this;exact h1 ⟨n,by rw[k3];exact (hkeepc q hq).1,rfl⟩
      ·intro hb'
       rcases hb'.2 with h3|h3|⟨n,s',hn,_⟩
       ·exact h3
       ·have:=(hr.own _ _ _ hb).2;omega
       ·obtain⟨k1,k2⟩:=hι0 _ _ _ hn;obtain⟨q,hq,k3,k4⟩:=hsome0 n k1;have:=hr.inj _ _ _ _ _ hb k2;subst this;exact absurd ⟨n,by rw[k3];exact (hkeepc q hq).1,rfl⟩ h1
   exact⟨u,ι2,R2,rfl,hrel,hlowV.ren fun q hq=>⟨fun p hp=>by rw[hι2 q (hW.res q hq)];exact hp,hm2 q (hW.res q hq)⟩⟩
  ·cases h
 ·cases h
theorem zym{F:zaO}(hF:FOK P F){E:Env}{H:zf}{dst:Nat}{ms:List Bool}{f:FuncId}{args:List AV}{p:AV×zf}(h:zcz F E H dst ms f args=some p):zdG P f=true:=by
 unfold zcz at h;obtain⟨zYO,has,h⟩:=zYR.1 h;have hnod:(zbD H ms args).Nodup:=zoN _ _ _;unfold zfM at h
 split at h
 ·rename_i hc;simp only[zY6] at hc;obtain⟨⟨r,os'⟩,hf,_⟩:=zYR.1 h;refine (hF f _ _ r os' hf (fun⟨n,ob⟩ hm=> ?_) (fun i p hp=>(zoU hnod i p hp).1)).1;obtain⟨o,ho,_,h2⟩:=zoI hm;have:=zZi.1 hc.1 o ho
  split at this
  ·rename_i es hes;exact⟨_,by rw[h2,hes];rfl⟩
  ·cases this
 ·cases h
theorem zCf{H:zf}{o:Nat}:∀ {os:List Nat},look o (zbm H os)=if o∈os then some (.frz (mark H o)) else none:=by
 intro os
 induction os with
 | nil=>rfl
 | cons p os ih=>
  simp only[zbm,zYU,look,zZx] at ih ⊢
  by_cases h:p=o
  ·subst h;simp
  ·rw[zYP h,ih]
   by_cases h2:o∈os
   ·rw[zYQ h2,zYQ (.inr h2)]
   ·rw[zYP h2,zYP];rintro (rfl|h3)
    ·exact h rfl
    ·exact h2 h3
theorem zss{H:zf}{os:List Nat}:mark (zag (zbm H os) H)=mark H:=by
 funext o
 have:mark (zag (zbm H os) H) o=match look o (zag (zbm H os) H) with|some (.acc n)=>some n|some (.frz m)=>m|_=>none:=rfl
 rw[this,zdr,zCf]
 by_cases h:o∈os
 ·rw[zYQ h];rfl
 ·rw[zYP h];rfl
theorem Rel.freeze{C:Ctx}{S:St}{a:Act}{w:World}{ι:Inj}{R:Nat->Prop}(hr:Rel C S a w ι R){os:List Nat}(hok:zgq S.heap os=true):Rel C ⟨S.env,zag (zbm S.heap os) S.heap⟩ a w ι (zeL R ι os):=by
 have hR:∀b,R b->zeL R ι os b:=fun b h=> .inl h;refine { hr with rlt:=fun b hb=> ?_,rok:=fun b hb=> ?_,r0:=fun b hb=> .inl (hr.r0 b hb),env:=fun t x hx=> ?_,heap:=fun o ob ho=> ?_ }
 ·rcases hb with hb|⟨o,s,_,hb⟩
  ·exact hr.rlt b hb
  ·exact (hr.own _ _ _ hb).2
 ·rcases hb with hb|⟨o,s,_,hb⟩
  ·exact hr.rok b hb
  ·exact .inr (hr.own _ _ _ hb).1
 ·obtain⟨u,h1,h2⟩:=hr.env t x hx;exact⟨u,h1,by rw[zss];exact h2.toR (.inl hR)⟩
 ·rw[zss]
  rcases zsu ho with ho|⟨ho,hno⟩
  ·obtain⟨q,hq,he⟩:=zY0.1 ho
   cases he
   obtain⟨ob',hl⟩:=z0x.1 (zZi.1 hok _ hq);refine .frz fun b s hb=>⟨.inr ⟨_,s,hq,hb⟩,?_⟩
   cases hr.heap _ _ (zar hl) with
   | row k1 _ _ k4=>rw[hb] at k1;cases k1;exact k4
   | acc _ k2 _ _ k5=>rw[hb] at k2;cases k2;exact k5
   | accN k1=>rw[hb] at k1;cases k1
   | frz k=>exact (k b s hb).2
   | mp k1 _ _ k4=>rw[hb] at k1;cases k1;exact k4
  ·rw[zCf] at hno
   split at hno
   ·cases hno
   ·rename_i hne;have hns:∀b s,ι o=some (b,s)->¬R b->¬zeL R ι os b:=fun b s hb hn=>by
     rintro (h|⟨o',s',ho',hb'⟩)
     ·exact hn h
     ·have:=hr.inj _ _ _ _ _ hb hb';subst this;exact hne ho'
    cases hr.heap _ _ ho with
    | row k1 k2 k3 k4 k5 k6 k7=>exact .row k1 (hns _ _ k1 k2) k3 k4 k5 k6 fun i e he j x hx=>let ⟨j1,q,j2,j3⟩:=k7 i e he j x hx;⟨j1,q,j2,j3.toR (.inl hR)⟩
    | acc k1 k2 k3 k4 k5 k6=>exact .acc k1 k2 (hns _ _ k2 k3) k4 k5 k6
    | accN k1=>exact .accN k1
    | frz k=>exact .frz fun b s hb=>⟨.inl (k b s hb).1,(k b s hb).2⟩
    | mp k1 k2 k3 k4 k5 k6=>exact .mp k1 (hns _ _ k1 k2) k3 k4 k5 fun i k x hi=>let ⟨e,j1,j2,j3⟩:=k6 i k x hi;⟨e,j1,j2,j3.mono_v hR fun _ _=>rfl⟩
theorem zTr{δ ε H:zf}:zag (δ++ε) H=zag δ (zag ε H):=by
 induction δ with
 | nil=>rfl
 | cons p δ ih=>obtain⟨o,ob⟩:=p;simp only[zZh,zag,ih]
theorem zGh {F:zaO} (hF:FOK P F) {C:Ctx} {S:St} {a:Act} {w:World} {ι:Inj} {R:Nat->Prop} {dst:Nat} {ms:List Bool} {f:FuncId} {args:List AV} {v:AV} {δ:zf} {us:List Value}
    (h:zbh F S.env S.heap dst ms f args=some (v,δ)) (hr:Rel C S a w ι R) (hv:VAs w R ι (mark S.heap) args us):
    Calls P f us.toArray w fun e w'=>∃u ι' R',e= .returned u/\Rel C ⟨S.env,zag δ S.heap⟩ a w' ι' R'/\VA w' R' ι' (mark (zag δ S.heap)) v u:=by
 unfold zbh at h
 split at h
 ·obtain⟨zYO,has,h⟩:=zYR.1 h;unfold zgp at h
  split at h
  ·rename_i hok;obtain⟨⟨v',δ'⟩,h1,h2⟩:=zYT.1 h
   cases h2
   obtain⟨hlen,hget⟩:=zyq has;have hr':=hr.freeze hok;have:=zyp hF (S:=⟨S.env,zag (zbm S.heap (zaA ms args)) S.heap⟩) h1 hr' (us:=us) ⟨by rw[hlen];exact hv.1,fun i x u hx hu=>by
    have hlt:=(zY7.1 hx).1;rw[hlen] at hlt;have ha:args[i]? = some args[i]:=zY1 hlt;rw[zss]
    rcases hget i _ x ha hx with ⟨h3,_⟩|⟨d,h3,h4,h5⟩
    ·subst h3;exact (hv.2 i _ u ha hu).toR (.inl fun _ h=> .inl h)
    ·subst h4;exact .d (zEi hr (hv.2 i _ u ha hu) h3 h5)⟩
   simp only[zTr];exact this
  ·cases h
 ·exact zyp hF h hr hv
theorem zGd{F:zaO}(hF:FOK P F){E:Env}{H:zf}{dst:Nat}{ms:List Bool}{f:FuncId}{args:List AV}{p:AV×zf}(h:zbh F E H dst ms f args=some p):zdG P f=true:=by
 unfold zbh at h
 split at h
 ·obtain⟨zYO,_,h⟩:=zYR.1 h;unfold zgp at h
  split at h
  ·obtain⟨q,h1,_⟩:=zYT.1 h;exact zym hF h1
  ·cases h
 ·exact zym hF h
end Go.Sim
