/-
  What data keep.
-/
import Derived.Test.YtnmcgdpmikhohaaGreatB18da02a
import Derived.Test.YtnmcgdpmikhohaaGreatBc8303cb
set_option linter.unusedSimpArgs false
set_option linter.unusedVariables false
set_option maxHeartbeats 10000000
set_option maxRecDepth 100000
namespace Go.Sim
open Go (World Value Addr TypeId Act)
variable {P:Program} {C:Ctx} {S:St} {a:Act} {w:World} {ι:Inj} {R:Nat->Prop}
def VAs(w:World)(R:Nat->Prop)(ι:Inj)(mk:Nat->Option Nat)(xs:List AV)(us:List Value):Prop:=
 us.length=xs.length/\∀(i:Nat) (x:AV) (u:Value),xs[i]? = some x->us[i]? = some u->VA w R ι mk x u
def GF(P:Program)(f:FuncId)(args:List AV)(os:zd)(r:AV)(os':zd):Prop:=
 ∀(w:World) (R:Nat->Prop) (ι:Inj) (us:List Value),(∀b,R b->b<w.heap.size)->(∀o b s,ι o=some (b,s)->b<w.heap.size/\¬R b/\(look o os).isSome=true)->
  (∀o o' b s s',ι o=some (b,s)->ι o'=some (b,s')->o=o')->(∀o ob,(o,ob)∈os->OB w R ι (mark os) o ob)->VAs w R ι (mark os) args us->
  Calls P f us.toArray w fun e w'=>∃(u:Value) (ι':Inj) (R':Nat->Prop),e= .returned u/\w'.os=w.os/\w'.tape=w.tape/\w'.output=w.output/\w.heap.size<=w'.heap.size/\
   (∀b,b<w.heap.size->Blk w w' b 0)/\(∀b,b<w.heap.size->(∀o s,ι o≠some (b,s))->w'.heap[b]? = w.heap[b]?)/\(∀b,R b->R' b)/\(∀b,R' b->b<w'.heap.size/\(R b\/w.heap.size<=b\/∃o s,ι o=some (b,s)/\look o os'=some (.frz none)))/\
   (∀o b s,ι o=some (b,s)->ι' o=some (b,s))/\(∀o b s,ι' o=some (b,s)->b<w'.heap.size/\(ι o=some (b,s)\/w.heap.size<=b))/\(∀o o' b s s',ι' o=some (b,s)->ι' o'=some (b,s')->o=o')/\
   (∀o ob,(o,ob)∈os'->OB w' R' ι' (mark os') o ob)/\VA w' R' ι' (mark os') r u
def PF(P:Program)(f:FuncId)(args:List D)(r:D):Prop:=
 ∀(w:World) (R:Nat->Prop) (us:List Value),(∀b,R b->b<w.heap.size)->us.length=args.length->(∀(i:Nat) (x:D) (u:Value),args[i]? = some x->us[i]? = some u->Rd w R (.v x u))->
  Calls P f us.toArray w fun e w'=>∃u:Value,e= .returned u/\w'.os=w.os/\w'.tape=w.tape/\w'.output=w.output/\w.heap.size<=w'.heap.size/\
   (∀b,b<w.heap.size->w'.heap[b]? = w.heap[b]?)/\Rd w' (fun b=>R b\/(w.heap.size<=b/\b<w'.heap.size)) (.v r u)
def zeE(R:Nat->Prop)(ι:Inj)(os:List Nat):Nat->Prop:=fun b=>R b\/∃o s,o∈os/\ι o=some (b,s)
theorem AV.objsL_mem{o:Nat}{x:AV}{xs:List AV}(h:x∈xs)(ho:o∈x.objs):o∈AV.objsL xs:=by
 induction xs with
 | nil=>cases h
 | cons y ys ih=>
  simp only[AV.objsL,zabS]
  cases h with
  | head=>exact .inl ho
  | tail _ h=>exact .inr (ih h)
theorem zC3{H:zd}:∀ {xs:List AV} {ds:List D},toD.toDs H xs=some ds->ds.length=xs.length/\∀(i:Nat) (x:AV) (d:D),xs[i]? = some x->ds[i]? = some d->toD H x=some d:=by
 intro xs
 induction xs with
 | nil=>intro ds h;simp only[toD.toDs,Option.some.injEq] at h;subst h;simp
 | cons x xs ih=>
  intro ds h;simp only[toD.toDs] at h
  split at h
  ·rename_i y ys h1 h2
   cases h
   obtain⟨h3,h4⟩:=ih h2;refine⟨by simp [h3],fun i a b ha hb=> ?_⟩
   match i,ha,hb with
   | 0,ha,hb=>simp at ha hb;subst ha hb;exact h1
   | n+1,ha,hb=>exact h4 n a b (by simpa using ha) (by simpa using hb)
  ·cases h
theorem Rd.sealed{os:List Nat}{it:It}(h:Rd w R it):Rd w (zeE R ι os) it:=h.mono (fun _ h=> .inl h) (fun _ _=>rfl) (by cases it with|v=>trivial|el=>exact fun _ _=>rfl)
theorem zaat{H:zd}{x:AV}{d:D}(h:toD H x=some d)(hx:x.cell=true):d.cell=true:=by
 cases x with
 | d y=>simp only[toD,Option.some.injEq] at h;subst h;exact hx
 | xsl es=>simp only[toD,Option.some.injEq] at h;subst h;rfl
 | acc o es=>simp only[toD,Option.some.injEq] at h;subst h;rfl
 | osl o off len=>
  simp only[toD] at h
  split at h
  ·obtain⟨ds,_,h⟩:=zabp.1 h
   split at h
   ·cases h;rfl
   ·cases h
  ·cases h
 | fn f cs=>simp only[toD,zabr] at h;obtain⟨_,_,rfl⟩:=h;rfl
 | ref o i off=>
  cases off with
  | zero=>
   simp only[toD] at h
   split at h
   ·obtain⟨e,_,h⟩:=zabp.1 h
    split at h
    ·cases h;rfl
    ·cases h
   ·cases h
  | succ n=>simp [toD] at h
 | pe o x=>simp [toD] at h
 | nl b=>simp [toD] at h
 | mpr b=>simp [toD] at h
 | agg=>simp [AV.cell] at hx
 | tup=>simp [AV.cell] at hx
 | undef=>simp [AV.cell] at hx
theorem znK(hr:Rel C S a w ι R){x:AV}{u:Value}(h:VA w R ι (mark S.heap) x u):∀ {d:D} {os:List Nat},toD S.heap x=some d->(∀o∈x.objs,o∈os)->Rd w (zeE R ι os) (.v d u):=by
 induction h with
 | d h=>intro d os hd _;simp only[toD,Option.some.injEq] at hd;subst hd;exact h.sealed
 | xsl h=>intro d os hd _;simp only[toD,Option.some.injEq] at hd;subst hd;exact h.sealed
 | @ref o i off b s hι hmk=>
  intro d os hd ho
  cases off with
  | succ n=>simp [toD] at hd
  | zero=>
   simp only[toD] at hd
   split at hd
   ·rename_i es hes;obtain⟨e,he,hd⟩:=zabp.1 hd
    split at hd
    ·rename_i y
     cases hd
     have hob:=hr.heap _ _ (zav hes)
     cases hob with
     | row hι' hR hb hs hsz _ hcell=>
      rw[hι] at hι';cases hι';refine .pd (.inr ⟨o,s,ho o (by simp [AV.objs]),hι⟩) (Rd.el_of_cells (fun vs hvs=> ?_) fun j c hj=> ?_)
      ·subst hvs;have:=(hcell _ _ he 0 (.d (.tup vs)) rfl).1;simp [AV.cell,D.cell] at this
      ·obtain⟨k1,q,k2,k3⟩:=hcell _ _ he j (.d c) (by simp [AV.cells,hj]);exact⟨k1,q,by rw[zcq hb];exact k2,k3.of_d.sealed⟩
    ·cases hd
   ·cases hd
 | @osl o off len cap b s c T hι hmk hb hl hc hL=>
  intro d os hd ho;simp only[toD] at hd
  split at hd
  ·rename_i es hes;obtain⟨ds,hds,hd⟩:=zabp.1 hd
   split at hd
   ·rename_i hlen
    cases hd
    have hob:=hr.heap _ _ (zav hes)
    cases hob with
    | row hι' hR hb' hs hsz _ hcell=>
     rw[hι] at hι';cases hι';rw[hb] at hb';cases hb'
     by_cases h0:ds=[]
     ·subst h0;simp at hlen;subst hlen;exact .sl0
     ·have hget:∀(i:Nat) (d:D),ds[i]? = some d->es[off+i]? = some (.d d):=fun i d hi=>by
         have h1:=zDv hds hi;have hlt:i<len:=by rw[<- hlen];exact (zabB.1 hi).1
         rw[zadg hlt,zado] at h1;exact h1
      have:=Rd.sl (w:=w) (R:=zeE R ι os) (es:=ds) (b:=b) (off:=off * s) (s:=s) (cap:=cap) (.inr ⟨o,s,ho o (by simp [AV.objs]),hι⟩) h0 hs (by omega) (by omega) (fun e he=>by
       obtain⟨i,hi⟩:=zab6 he;have:=hsz _ (zabK (hget i e hi));exact this) (fun i e hi=>by
       have he:=hget i e hi;refine Rd.el_of_cells (fun vs hvs=> ?_) fun j c' hj=> ?_
       ·subst hvs;have:=(hcell _ _ he 0 (.d (.tup vs)) rfl).1;simp [AV.cell,D.cell] at this
       ·obtain⟨k1,q,k2,k3⟩:=hcell _ _ he j (.d c') (by simp [AV.cells,hj]);refine⟨k1,q,?_,k3.of_d.sealed⟩;rw[zcq hb, <- k2,zach])
      rwa [hlen] at this
   ·cases hd
  ·cases hd
 | osl0=>
  intro d os hd _;simp only[toD] at hd
  split at hd
  ·obtain⟨ds,hds,hd⟩:=zabp.1 hd
   split at hd
   ·rename_i hlen
    cases hd
    have:ds=[]:=zacc.1 hlen;subst this;exact .sl0
   ·cases hd
  ·cases hd
 | @accR o b off s cap es hR hs hL hl hsz hh hm=>
  intro d os hd _;simp only[toD,Option.some.injEq] at hd;subst hd
  by_cases h0:es=[]
  ·subst h0;exact .sl0
  ·exact .sl (.inl hR) h0 hs hL hl hsz fun i e hi=>(hh i e hi).sealed
 | @accC o b s m cap es c T hι hmk hm hL hl hsz hb hc hh=>
  intro d os hd ho;simp only[toD,Option.some.injEq] at hd;subst hd
  by_cases h0:es=[]
  ·subst h0;exact .sl0
  ·unfold mark at hmk
   split at hmk
   ·rename_i q hq
    cases hmk
    cases hr.heap _ _ (zav hq) with
    | accN hι'=>rw[hι] at hι';cases hι'
    | acc _ hι' _ _ hs _=>
     rw[hι] at hι';cases hι';exact .sl (.inr ⟨o,s,ho o (by simp [AV.objs]),hι⟩) h0 hs hL hl hsz fun i e hi=>by rw[zabU];exact (hh i e hi).sealed
   ·rename_i q hq
    cases hr.heap _ _ (zav hq) with
    | frz hf=>
     obtain⟨hR,hs⟩:=hf _ _ hι;exact .sl (.inl hR) h0 hs hL hl hsz fun i e hi=>by rw[zabU];exact (hh i e hi).sealed
   ·cases hmk
 | acc0=>intro d os hd _;simp only[toD,Option.some.injEq] at hd;subst hd;exact .sl0
 | agg hl hc _ ih=>
  intro d os hd ho;simp only[toD,zabr] at hd;obtain⟨ds,hds,rfl⟩:=hd;obtain⟨h1,h2⟩:=zC3 hds;refine .agg (by omega) (fun c hc'=> ?_) fun i c u k1 k2=> ?_
  ·obtain⟨i,hi⟩:=zab6 hc';have hlt:=(zabB.1 hi).1;rw[h1] at hlt;exact zaat (h2 i _ c (zabx hlt) hi) (hc _ (zabC hlt))
  ·have hlt:=(zabB.1 k1).1;rw[h1] at hlt;have hx:=zabx hlt;exact ih i _ u hx k2 (h2 i _ c hx k1) fun o ho'=>ho o (by simp only[AV.objs];exact AV.objsL_mem (zabC hlt) ho')
 | tup hl _ ih=>
  intro d os hd ho;simp only[toD,zabr] at hd;obtain⟨ds,hds,rfl⟩:=hd;obtain⟨h1,h2⟩:=zC3 hds;refine .tup (by omega) fun i c u k1 k2=> ?_;have hlt:=(zabB.1 k1).1;rw[h1] at hlt;have hx:=zabx hlt;exact ih i _ u hx k2 (h2 i _ c hx k1) fun o ho'=>ho o (by simp only[AV.objs];exact AV.objsL_mem (zabC hlt) ho')
 | fn hl _ ih=>
  intro d os hd ho;simp only[toD,zabr] at hd;obtain⟨ds,hds,rfl⟩:=hd;obtain⟨h1,h2⟩:=zC3 hds;refine .fn (by omega) fun i c u k1 k2=> ?_;have hlt:=(zabB.1 k1).1;rw[h1] at hlt;have hx:=zabx hlt;exact ih i _ u hx k2 (h2 i _ c hx k1) fun o ho'=>ho o (by simp only[AV.objs];exact AV.objsL_mem (zabC hlt) ho')
 | _=>intro d os hd _;simp [toD] at hd
mutual
def D.flat:D->Bool
 | .int _ _=>true
 | .bool _=>true
 | .str _=>true
 | .agg cs=>D.flatL cs
 | .tup cs=>D.flatL cs
 | .sl _=>false
 | .pd _=>false
 | .fn _ cs=>D.flatL cs
def D.flatL:List D->Bool
 | []=>true
 | x::xs=>D.flat x&&D.flatL xs
end
end Go.Sim

namespace Go.Sim
open Go (World Value Addr TypeId Act)
def AOp.opds:AOp->List Opd
 | .mv x=>[x]
 | .pick c a b=>[c,a,b]
 | .alloc _=>[]
 | .box x=>[x]
 | .build _ ps=>ps.map (·.2.2)
 | .bsl _ _ _ ps=>ps.map (·.2)
 | .ld _ _ p=>[p]
 | .st _ p x=>[p,x]
 | .nilc x=>[x]
 | .bin _ x y=>[x,y]
 | .eqb _ x y=>[x,y]
 | .eqs _ _ _ x y=>[x,y]
 | .nacc=>[]
 | .un _ x=>[x]
 | .cvi _ x=>[x]
 | .s2b x=>[x]
 | .b2s x=>[x]
 | .mkfn _ cs=>cs
 | .fad _ _ _ x=>[x]
 | .fld _ _ _ x=>[x]
 | .iad _ x i=>[x,i]
 | .iada _ _ _ x i=>[x,i]
 | .idx x i=>[x,i]
 | .idxa _ _ _ x i=>[x,i]
 | .slc _ x lo hi mx=>x::(lo.toList++hi.toList++mx.toList)
 | .sls x lo hi=>x::(lo.toList++hi.toList)
 | .ext x _=>[x]
 | .len x=>[x]
 | .lens x=>[x]
 | .app _ x y=>[x,y]
 | .apps x y=>[x,y]
 | .clr _ x=>[x]
 | .mm _ xs=>xs
 | .mks _ _ l c=>[l,c]
 | .nileq _ x=>[x]
 | .call _ _ xs=>xs
 | .callv f _ xs=>f::xs
 | .atl p=>[p]
 | .ats p x=>[p,x]
 | .atc p x y=>[p,x,y]
 | .mkm=>[]
 | .lkp _ _ x k=>[x,k]
 | .mup x k v=>[x,k,v]
def AOp.looks:AOp->Bool
 | .ld .. | .st .. | .clr .. | .iad .. | .slc .. | .app .. | .apps .. | .call .. | .callv .. | .lkp .. | .mup .. | .atl .. | .ats .. | .atc .. => true
 | _=>false
def AOp.stores:AOp->Bool
 | .st .. | .clr .. | .mup .. | .ats .. | .atc .. => true
 | _=>false
def AOp.news:AOp->Bool
 | .alloc .. | .box .. | .bsl .. | .mks .. | .app .. | .apps .. | .nacc| .mkm=>true
 | _=>false
def zh2(E:Env):List Opd->List Nat
 | []=>[]
 | y::l=>(y.ev E).objs++zh2 E l
theorem zdL{E:Env}{o:Nat}:∀ {l:List Opd},o∈zh2 E l↔∃y∈l,o∈(y.ev E).objs:=by
 intro l
 induction l with
 | nil=>simp [zh2]
 | cons y l ih=>simp [zh2,ih]
def AOp.foot(E:Env)(dst:Nat)(op:AOp):List Nat:=(if op.looks then zh2 E op.opds else [])++(if op.news then [dst] else [])
def AOp.wr(E:Env)(dst:Nat):AOp->List Nat
 | .st _ p _=>(p.ev E).objs
 | .clr _ x=>(x.ev E).objs
 | .app _ x _=>(x.ev E).objs++[dst]
 | .apps x _=>(x.ev E).objs++[dst]
 | .mup x _ _=>(x.ev E).objs
 | .ats p _=>(p.ev E).objs
 | .atc p _ _=>(p.ev E).objs
 | .alloc _| .box _| .bsl .. | .mks .. | .nacc| .mkm=>[dst]
 | _=>[]
theorem AOp.wr_foot{E:Env}{dst o:Nat}{op:AOp}(h:o∈op.wr E dst):o∈op.foot E dst:=by
 cases op<;>simp_all [AOp.wr,AOp.foot,AOp.looks,AOp.news,AOp.opds,zh2]
 ·rcases h with h|h<;>simp [h]
 ·rcases h with h|h<;>simp [h]
def zak:zd->zd->zd
 | [],H=>H
 | (o,ob)::δ,H=>zP o ob (zak δ H)
theorem zMe{α:Type}{k j:Nat}{x:α}{l:List (Nat×α)}:look j (zP k x l)=if j=k then some x else look j l:=by
 split
 ·rename_i h;subst h;simp
 ·rename_i h;exact zMf h
theorem zdi{o:Nat}{δ H:zd}:look o (zak δ H)=(look o δ).or (look o H):=by
 induction δ with
 | nil=>simp [zak,look]
 | cons p δ ih=>
  obtain⟨q,ob⟩:=p;rw[zak,zMe,look]
  by_cases h:o=q
  ·simp [h]
  ·rw[zabn h,zabn (Ne.symm h),ih]
structure zaY(op:AOp)(E:Env)(H:zd)(dst:Nat)(v:AV)(H':zd)(δ:zd):Prop where
 eq:H'=zak δ H
 sub:∀o ob,(o,ob)∈δ->o∈op.wr E dst
 same:∀E2 H2,(∀y∈op.opds,y.ev E2=y.ev E)->(∀o∈op.foot E dst,look o H2=look o H)->(op.news=true->zaX dst E2=false/\zaq dst H2=false)->zr E2 H2 dst op=some (v,zak δ H2)
theorem zaY.quiet {op:AOp} {E:Env} {H:zd} {dst:Nat} {v:AV} {H':zd} (hn:op.news=false)
    (h:∀E2 H2,(∀y∈op.opds,y.ev E2=y.ev E)->(op.looks=true->∀o∈zh2 E op.opds,look o H2=look o H)->zr E2 H2 dst op=some (v,H2)) (he:H'=H):zaY op E H dst v H' []:=by
 refine⟨he,(fun o ob h=>nomatch h),fun E2 H2 h1 h2 _=>h E2 H2 h1 fun hl o ho=>h2 o ?_⟩;simp [AOp.foot,hl,ho]
theorem zsS{E E2:Env}{α:Type}{l:List α}{g:α->Opd}(h:∀y∈l.map g,y.ev E2=y.ev E):∀p∈l,(g p).ev E2=(g p).ev E:=fun p hp=>h _ (zadw hp)
theorem zBg{E E2:Env}{l:List Opd}(h:∀y∈l,y.ev E2=y.ev E):l.map (·.ev E2)=l.map (·.ev E):=zacR h
theorem zYN{E:Env}{H H2:zd}{ag:Bool}{n:Nat}{x:AV}(h:∀o∈x.objs,look o H2=look o H):ldA H2 ag n x=ldA H ag n x:=by
 cases x with
 | d y=>cases y<;>rfl
 | ref o i off=>simp only[ldA];try rw[h _ (by simp [AV.objs])]
 | osl o off len=>simp only[ldA];try rw[h _ (by simp [AV.objs])]
 | _=>rfl
theorem zXM{H H2:zd}{n:Nat}{i:Int}{x:AV}(h:∀o∈x.objs,look o H2=look o H):zcH H2 n i x=zcH H n i x:=by
 cases x with
 | d y=>cases y<;>rfl
 | ref o i off=>simp only[zcH];try rw[h _ (by simp [AV.objs])]
 | osl o off len=>simp only[zcH];try rw[h _ (by simp [AV.objs])]
 | _=>rfl
theorem z9m{H H2:zd}{n:Nat}{lo hi mx:Option AV}{x:AV}(h:∀o∈x.objs,look o H2=look o H):zcj H2 n lo hi mx x=zcj H n lo hi mx x:=by
 cases x with
 | d y=>cases y<;>rfl
 | ref o i off=>simp only[zcj];try rw[h _ (by simp [AV.objs])]
 | osl o off len=>simp only[zcj];try rw[h _ (by simp [AV.objs])]
 | _=>rfl
theorem z9y{H H2:zd}{x:AV}(h:∀o∈x.objs,look o H2=look o H):zc9 H2 x=zc9 H x:=by
 cases x with
 | d y=>cases y<;>rfl
 | ref o i off=>simp only[zc9];try rw[h _ (by simp [AV.objs])]
 | osl o off len=>simp only[zc9];try rw[h _ (by simp [AV.objs])]
 | _=>rfl
theorem zDF{H H2:zd}{x:AV}(h:∀o∈x.objs,look o H2=look o H):zcV H2 x=zcV H x:=by
 cases x with
 | ref o i off=>simp only[zcV];rw[h _ (by simp [AV.objs])]
 | _=>rfl
theorem zDJ{H H1:zd}{n:Int}{p:AV}(h:zd3 H n p=some H1):∃o ob,o∈p.objs/\H1=zP o ob H/\∀H2:zd,look o H2=look o H->zd3 H2 n p=some (zP o ob H2):=by
 unfold zd3 at h
 split at h
 ·rename_i o i off
  split at h
  ·rename_i es hes;obtain⟨e,he,h⟩:=zabp.1 h;obtain⟨m,hm,h⟩:=zabp.1 h;obtain⟨e',he',h⟩:=zabr.1 h
   cases h
   refine⟨o,_,by simp [AV.objs],rfl,fun H2 h2=> ?_⟩;simp only[zd3,h2,hes,he,zabY,hm,he',zab8]
  ·cases h
 ·cases h
theorem zY9{H H2:zd}{ok:Bool}{z:D}{x k:AV}(h:∀o∈x.objs,look o H2=look o H):zky H2 ok z x k=zky H ok z x k:=by
 cases x with
 | mpr o=>
  cases k with
  | d y=>unfold zky;have:=h o (by simp [AV.objs]);split<;>simp_all
  | _=>rfl
 | _=>rfl
theorem zaY.new {op:AOp} {E:Env} {H:zd} {dst:Nat} {v:AV} {ob:Obj} (hn:op.news=true)
    (h:∀E2 H2,(∀y∈op.opds,y.ev E2=y.ev E)->(∀o∈op.foot E dst,look o H2=look o H)->zaX dst E2=false->zaq dst H2=false->zr E2 H2 dst op=some (v,zP dst ob H2)):zaY op E H dst v (zP dst ob H) [(dst,ob)]:=by
 refine⟨rfl,fun o ob' h'=> ?_,fun E2 H2 h1 h2 h3=>h E2 H2 h1 h2 (h3 hn).1 (h3 hn).2⟩;simp only[zab1,Prod.mk.injEq] at h';rw[h'.1]
 cases op<;>simp_all [AOp.wr,AOp.news]
theorem zDz {op:AOp} {E:Env} {H:zd} {dst n:Nat} {x:Opd} {ys:List D} {v:AV} {H':zd} (hn:op.news=true) (hl:op.looks=true) (hx:x∈op.opds) (hw:∀o∈(x.ev E).objs,o∈op.wr E dst) (h:zcf E H dst n ys (x.ev E)=some (v,H'))
    (hop:∀E2 H2,(∀y∈op.opds,y.ev E2=y.ev E)->(∀o∈op.foot E dst,look o H2=look o H)->zr E2 H2 dst op=zcf E2 H2 dst n ys (x.ev E)):∃δ,zaY op E H dst v H' δ:=by
 cases hxv:x.ev E with
 | xsl es=>
  rw[hxv] at h;simp only[zcf] at h
  split at h
  ·rename_i h0
   split at h
   ·rename_i h1
    cases h
    refine⟨[],rfl,fun p ob hp=>(by cases hp),fun E2 H2 k1 k2 _=> ?_⟩;rw[hop E2 H2 k1 k2,hxv];simp only[zcf];rw[zabo h0,zabo h1];rfl
   ·cases h
  rename_i h0
  split at h
  ·rename_i hc
   cases h
   refine⟨_,zaY.new hn fun E2 H2 h1 h2 h3 h4=> ?_⟩;rw[hop E2 H2 h1 h2,hxv];simp only[zcf];rw[zabn h0,zabo ⟨hc.1,hc.2.1,h3,h4⟩]
  ·cases h
 | acc o es=>
  rw[hxv] at h;simp only[zcf] at h;have hmem:o∈op.foot E dst:=by
   simp only[AOp.foot,hl,if_true,zabS];exact .inl (zdL.2 ⟨x,hx,by rw[hxv];simp [AV.objs]⟩)
  split at h
  ·rename_i m hm
   split at h
   ·rename_i hc
    cases h
    refine⟨[(o,.acc (m+ys.length))],rfl,?_,fun E2 H2 h1 h2 _=> ?_⟩
    ·intro p ob hp;simp only[zab1,Prod.mk.injEq] at hp;rw[hp.1];exact hw _ (by rw[hxv];simp [AV.objs])
    ·rw[hop E2 H2 h1 h2,hxv];simp only[zcf];rw[h2 _ hmem,hm];simp only[hc,zacK,if_true,zak]
   ·cases h
  ·cases h
 | _=>rw[hxv] at h;simp [zcf] at h
theorem zaS{op:AOp}{E:Env}{H:zd}{dst:Nat}{r:AV×zd}(hn:op.news=false)(hs:op.stores=false)(h:zr E H dst op=some r):r.2=H:=by
 obtain⟨v,H'⟩:=r
 cases op with
 | st n p x=>cases hs
 | clr n x=>cases hs
 | mup x k v=>cases hs
 | ats p x=>cases hs
 | atc p x y=>cases hs
 | atl p=>
  simp only[zr] at h;obtain⟨q,_,h⟩:=zabr.1 h
  cases h;rfl
 | lkp ok z x k=>
  simp only[zr] at h;obtain⟨q,_,h⟩:=zabr.1 h
  cases h;rfl
 | sls x lo hi=>
  simp only[zr] at h
  split at h
  ·obtain⟨q,_,h⟩:=zabp.1 h;obtain⟨l,_,h⟩:=zabr.1 h
   cases h;rfl
  ·cases h
 | _=>
  first
   | (exfalso;revert hn;simp [AOp.news];done)
   | (revert h
      simp only[zr]
      (repeat' split)<;>intro h<;>simp_all [zabr,zabp]<;>grind)
theorem zSf{op:AOp}{E:Env}{H:zd}{dst:Nat}{v:AV}{H':zd}(h:zr E H dst op=some (v,H')):∃δ,zaY op E H dst v H' δ:=by
 cases op with
 | mv x=>
  simp only[zr,Option.some.injEq,Prod.mk.injEq] at h;obtain⟨rfl,rfl⟩:=h;refine⟨[],zaY.quiet rfl (fun E2 H2 he _=> ?_) rfl⟩;simp [zr,he x (by simp [AOp.opds])]
 | pick c a b=>
  simp only[zr] at h
  split at h
  ·rename_i t ht;simp only[Option.some.injEq,Prod.mk.injEq] at h;obtain⟨rfl,rfl⟩:=h;refine⟨[],zaY.quiet rfl (fun E2 H2 he _=> ?_) rfl⟩;simp only[zr,he c (by simp [AOp.opds]),he a (by simp [AOp.opds]),he b (by simp [AOp.opds]),ht]
  ·cases h
 | nilc x=>
  refine⟨[],zaY.quiet rfl (fun E2 H2 he _=> ?_) (zaS rfl rfl h)⟩;have hq:=zaS rfl rfl h;dsimp only at hq;subst hq;revert h;simp only[zr,he x (by simp [AOp.opds])]
  (repeat' split)<;>intro h<;>simp_all [zabr,zabp]
 | bin op x y=>
  refine⟨[],zaY.quiet rfl (fun E2 H2 he _=> ?_) (zaS rfl rfl h)⟩;have hq:=zaS rfl rfl h;dsimp only at hq;subst hq;revert h;simp only[zr,he x (by simp [AOp.opds]),he y (by simp [AOp.opds])]
  (repeat' split)<;>intro h<;>simp_all [zabr,zabp]
 | eqb ng x y=>
  refine⟨[],zaY.quiet rfl (fun E2 H2 he _=> ?_) (zaS rfl rfl h)⟩;have hq:=zaS rfl rfl h;dsimp only at hq;subst hq;revert h;simp only[zr,he x (by simp [AOp.opds]),he y (by simp [AOp.opds])]
  (repeat' split)<;>intro h<;>simp_all [zabr,zabp]
 | eqs ng n ls x y=>
  refine⟨[],zaY.quiet rfl (fun E2 H2 he _=> ?_) (zaS rfl rfl h)⟩;have hq:=zaS rfl rfl h;dsimp only at hq;subst hq;revert h;simp only[zr,he x (by simp [AOp.opds]),he y (by simp [AOp.opds])]
  (repeat' split)<;>intro h<;>simp_all [zabr,zabp]
 | nacc=>
  simp only[zr] at h
  split at h
  ·rename_i hc
   cases h
   exact⟨_,zaY.new rfl fun E2 H2 _ _ h1 h2=>by simp only[zr];rw[zabo ⟨h1,h2⟩]⟩
  ·cases h
 | un op x=>
  refine⟨[],zaY.quiet rfl (fun E2 H2 he _=> ?_) (zaS rfl rfl h)⟩;have hq:=zaS rfl rfl h;dsimp only at hq;subst hq;revert h;simp only[zr,he x (by simp [AOp.opds])]
  (repeat' split)<;>intro h<;>simp_all [zabr,zabp]
 | cvi k x=>
  refine⟨[],zaY.quiet rfl (fun E2 H2 he _=> ?_) (zaS rfl rfl h)⟩;have hq:=zaS rfl rfl h;dsimp only at hq;subst hq;revert h;simp only[zr,he x (by simp [AOp.opds])]
  (repeat' split)<;>intro h<;>simp_all [zabr,zabp]
 | s2b x=>
  refine⟨[],zaY.quiet rfl (fun E2 H2 he _=> ?_) (zaS rfl rfl h)⟩;have hq:=zaS rfl rfl h;dsimp only at hq;subst hq;revert h;simp only[zr,he x (by simp [AOp.opds])]
  (repeat' split)<;>intro h<;>simp_all [zabr,zabp]
 | b2s x=>
  refine⟨[],zaY.quiet rfl (fun E2 H2 he _=> ?_) (zaS rfl rfl h)⟩;have hq:=zaS rfl rfl h;dsimp only at hq;subst hq;revert h;simp only[zr,he x (by simp [AOp.opds])]
  (repeat' split)<;>intro h<;>simp_all [zabr,zabp]
 | fad ag off n x=>
  refine⟨[],zaY.quiet rfl (fun E2 H2 he _=> ?_) (zaS rfl rfl h)⟩;have hq:=zaS rfl rfl h;dsimp only at hq;subst hq;revert h;simp only[zr,he x (by simp [AOp.opds])]
  (repeat' split)<;>intro h<;>simp_all [zabr,zabp]
 | fld ag off n x=>
  refine⟨[],zaY.quiet rfl (fun E2 H2 he _=> ?_) (zaS rfl rfl h)⟩;have hq:=zaS rfl rfl h;dsimp only at hq;subst hq;revert h;simp only[zr,he x (by simp [AOp.opds])]
  (repeat' split)<;>intro h<;>simp_all [zabr,zabp]
 | iada ag len n x i=>
  refine⟨[],zaY.quiet rfl (fun E2 H2 he _=> ?_) (zaS rfl rfl h)⟩;have hq:=zaS rfl rfl h;dsimp only at hq;subst hq;revert h;simp only[zr,he x (by simp [AOp.opds]),he i (by simp [AOp.opds])]
  (repeat' split)<;>intro h<;>simp_all [zabr,zabp]
 | idx x i=>
  refine⟨[],zaY.quiet rfl (fun E2 H2 he _=> ?_) (zaS rfl rfl h)⟩;have hq:=zaS rfl rfl h;dsimp only at hq;subst hq;revert h;simp only[zr,he x (by simp [AOp.opds]),he i (by simp [AOp.opds])]
  (repeat' split)<;>intro h<;>simp_all [zabr,zabp]
 | idxa ag len n x i=>
  refine⟨[],zaY.quiet rfl (fun E2 H2 he _=> ?_) (zaS rfl rfl h)⟩;have hq:=zaS rfl rfl h;dsimp only at hq;subst hq;revert h;simp only[zr,he x (by simp [AOp.opds]),he i (by simp [AOp.opds])]
  (repeat' split)<;>intro h<;>simp_all [zabr,zabp]
 | ext x i=>
  refine⟨[],zaY.quiet rfl (fun E2 H2 he _=> ?_) (zaS rfl rfl h)⟩;have hq:=zaS rfl rfl h;dsimp only at hq;subst hq;revert h;simp only[zr,he x (by simp [AOp.opds])]
  (repeat' split)<;>intro h<;>simp_all [zabr,zabp]
 | len x=>
  refine⟨[],zaY.quiet rfl (fun E2 H2 he _=> ?_) (zaS rfl rfl h)⟩;have hq:=zaS rfl rfl h;dsimp only at hq;subst hq;revert h;simp only[zr,he x (by simp [AOp.opds])]
  (repeat' split)<;>intro h<;>simp_all [zabr,zabp]
 | lens x=>
  refine⟨[],zaY.quiet rfl (fun E2 H2 he _=> ?_) (zaS rfl rfl h)⟩;have hq:=zaS rfl rfl h;dsimp only at hq;subst hq;revert h;simp only[zr,he x (by simp [AOp.opds])]
  (repeat' split)<;>intro h<;>simp_all [zabr,zabp]
 | build z ps=>
  refine⟨[],zaY.quiet rfl (fun E2 H2 he _=> ?_) (zaS rfl rfl h)⟩;have hq:=zaS rfl rfl h;dsimp only at hq;subst hq;have hm:(ps.map fun p=>(p.1,p.2.1,p.2.2.ev E2))=ps.map fun p=>(p.1,p.2.1,p.2.2.ev E):=zacR fun p hp=>by rw[zsS (g:=fun p:Nat×Nat×Opd=>p.2.2) he p hp]
  simp only[zr,hm] at h ⊢;obtain⟨q,h1,h2⟩:=zabr.1 h;rw[h1];simp at h2;simp [h2]
 | mkfn f cs=>
  refine⟨[],zaY.quiet rfl (fun E2 H2 he _=> ?_) (zaS rfl rfl h)⟩;have hm:cs.map (·.ev E2)=cs.map (·.ev E):=zBg he;simp only[zr] at h ⊢
  cases h
  rw[hm]
 | mm mx xs=>
  refine⟨[],zaY.quiet rfl (fun E2 H2 he _=> ?_) (zaS rfl rfl h)⟩;have hm:xs.map (·.ev E2)=xs.map (·.ev E):=zBg he;simp only[zr] at h ⊢;rw[hm]
  split at h
  ·cases h
  ·obtain⟨q,h1,h2⟩:=zabr.1 h
   cases h2;simp [h1]
 | ld ag n p=>
  refine⟨[],zaY.quiet rfl (fun E2 H2 he hh=> ?_) (zaS rfl rfl h)⟩;have hp:=he p (by simp [AOp.opds]);have hs:ldA H2 ag n (p.ev E)=ldA H ag n (p.ev E):=zYN (E:=E) fun o ho=>hh rfl o (zdL.2 ⟨p,by simp [AOp.opds],ho⟩);simp only[zr,hp,hs] at h ⊢;obtain⟨q,h1,h2⟩:=zabr.1 h
  cases h2;simp [h1]
 | iad n x i=>
  refine⟨[],zaY.quiet rfl (fun E2 H2 he hh=> ?_) (zaS rfl rfl h)⟩;have hp:=he x (by simp [AOp.opds]);have hi:=he i (by simp [AOp.opds]);have hs:∀k,zcH H2 n k (x.ev E)=zcH H n k (x.ev E):=fun k=>zXM fun o ho=>hh rfl o (zdL.2 ⟨x,by simp [AOp.opds],ho⟩);simp only[zr,hp,hi,hs] at h ⊢;obtain⟨k,h1,h2⟩:=zabp.1 h;rw[h1];simp only[zabY]
  split at h2
  ·rename_i hk;obtain⟨q,h3,h4⟩:=zabr.1 h2
   cases h4;simp [hk,h3]
  ·cases h2
 | slc n x lo hi mx=>
  refine⟨[],zaY.quiet rfl (fun E2 H2 he hh=> ?_) (zaS rfl rfl h)⟩;have hp:=he x (by simp [AOp.opds]);have h1:lo.map (·.ev E2)=lo.map (·.ev E):=by cases lo with|none=>rfl|some y=>simp [he y (by simp [AOp.opds])]
  have h2:hi.map (·.ev E2)=hi.map (·.ev E):=by cases hi with|none=>rfl|some y=>simp [he y (by simp [AOp.opds])]
  have h3:mx.map (·.ev E2)=mx.map (·.ev E):=by cases mx with|none=>rfl|some y=>simp [he y (by simp [AOp.opds])]
  have hs:zcj H2 n (lo.map (·.ev E)) (hi.map (·.ev E)) (mx.map (·.ev E)) (x.ev E)=zcj H n (lo.map (·.ev E)) (hi.map (·.ev E)) (mx.map (·.ev E)) (x.ev E):=z9m fun o ho=>hh rfl o (zdL.2 ⟨x,by simp [AOp.opds],ho⟩);simp only[zr,hp,h1,h2,h3,hs] at h ⊢;obtain⟨q,h4,h5⟩:=zabr.1 h
  cases h5;simp [h4]
 | sls x lo hi=>
  refine⟨[],zaY.quiet rfl (fun E2 H2 he hh=> ?_) (zaS rfl rfl h)⟩;have hp:=he x (by simp [AOp.opds]);have h1:lo.map (·.ev E2)=lo.map (·.ev E):=by cases lo with|none=>rfl|some y=>simp [he y (by simp [AOp.opds])]
  have h2:hi.map (·.ev E2)=hi.map (·.ev E):=by cases hi with|none=>rfl|some y=>simp [he y (by simp [AOp.opds])]
  simp only[zr,hp,h1,h2] at h ⊢
  split at h
  ·obtain⟨q,h4,h5⟩:=zabp.1 h;obtain⟨l,h6,h7⟩:=zabr.1 h5
   cases h7;simp [h4,h6]
  ·cases h
 | alloc z=>
  simp only[zr] at h
  split at h
  ·cases h
   refine⟨_,zaY.new rfl fun E2 H2 h1 h2 h3 h4=> ?_⟩;simp [zr,h3,h4]
  ·cases h
 | box x=>
  simp only[zr] at h
  split at h
  ·rename_i hc
   cases h
   refine⟨_,zaY.new rfl fun E2 H2 h1 h2 h3 h4=> ?_⟩;simp only[zr,h1 x (by simp [AOp.opds]),h3,h4];rw[zabo ⟨trivial,trivial,hc.2.2⟩]
  ·cases h
 | bsl len n z ps=>
  have hm:∀E2:Env,(∀y∈(AOp.bsl len n z ps).opds,y.ev E2=y.ev E)->(ps.map fun p=>(p.1,p.2.ev E2))=ps.map fun p=>(p.1,p.2.ev E):=fun E2 he=>zacR fun p hp=>by rw[zsS (g:=fun p:Nat×Opd=>p.2) he p hp]
  have ha:∀E2:Env,(∀y∈(AOp.bsl len n z ps).opds,y.ev E2=y.ev E)->(ps.all fun p=>(p.2.ev E2).size==n)=ps.all fun p=>(p.2.ev E).size==n:=fun E2 he=>by
   rw[zacD,zabO,zabO];constructor
   ·intro h p hp;rw[<- zsS (g:=fun p:Nat×Opd=>p.2) he p hp];exact h p hp
   ·intro h p hp;rw[zsS (g:=fun p:Nat×Opd=>p.2) he p hp];exact h p hp
  simp only[zr] at h
  split at h
  ·rename_i hc;obtain⟨es,h1,h2⟩:=zabp.1 h
   split at h2
   ·rename_i ds hds
    cases h2
    refine⟨[],rfl,(fun o ob h=>nomatch h),fun E2 H2 he _ _=> ?_⟩;simp only[zr,hm E2 he,ha E2 he];rw[zabo hc,h1];simp [hds,zak]
   ·rename_i hds
    split at h2
    ·cases h2
     refine⟨_,zaY.new rfl fun E2 H2 he _ h3 h4=> ?_⟩;simp only[zr,hm E2 he,ha E2 he];rw[zabo hc,h1];simp [hds,h3,h4]
    ·cases h2
  ·cases h
 | mks n z l c=>
  simp only[zr] at h
  split at h
  ·rename_i a b hl hc
   split at h
   ·rename_i hh
    cases h
    refine⟨_,zaY.new rfl fun E2 H2 h1 h2 h3 h4=> ?_⟩;simp only[zr,h1 l (by simp [AOp.opds]),h1 c (by simp [AOp.opds]),hl,hc,h3,h4];rw[zabo ⟨hh.1,hh.2.1,hh.2.2.1,hh.2.2.2.1,trivial,trivial⟩]
   ·cases h
  ·cases h
 | st n p x=>
  simp only[zr] at h
  split at h
  ·rename_i o i off hp
   split at h
   ·rename_i hc
    split at h
    ·rename_i es hes;obtain⟨e,h1,h2⟩:=zabp.1 h;obtain⟨e',h3,h4⟩:=zabr.1 h2
     cases h4
     have hmem:o∈(AOp.st n p x).foot E dst:=by
      simp only[AOp.foot,AOp.looks,if_true,zabS];exact .inl (zdL.2 ⟨p,by simp [AOp.opds],by rw[hp];simp [AV.objs]⟩)
     refine⟨[(o,.row (es.set i e'))],rfl,?_,fun E2 H2 he hh _=> ?_⟩
     ·intro q ob hq;simp only[zab1,Prod.mk.injEq] at hq;rw[hq.1];simp [AOp.wr,hp,AV.objs]
     ·simp only[zr,he p (by simp [AOp.opds]),he x (by simp [AOp.opds]),hp,hh o hmem,hes];rw[zabo hc,h1];simp [h3,zak]
    ·cases h
   ·cases h
  ·cases h
 | clr n x=>
  simp only[zr] at h
  split at h
  ·rename_i o off len hp
   split at h
   ·rename_i es hes
    split at h
    ·rename_i hc
     cases h
     have hmem:o∈(AOp.clr n x).foot E dst:=by
      simp only[AOp.foot,AOp.looks,if_true,zabS];exact .inl (zdL.2 ⟨x,by simp [AOp.opds],by rw[hp];simp [AV.objs]⟩)
     refine⟨[(o,.row (es.take off))],rfl,?_,fun E2 H2 he hh _=> ?_⟩
     ·intro q ob hq;simp only[zab1,Prod.mk.injEq] at hq;rw[hq.1];simp [AOp.wr,hp,AV.objs]
     ·simp only[zr,he x (by simp [AOp.opds]),hp,hh o hmem,hes];rw[zabo hc];simp [zak]
    ·cases h
   ·cases h
  ·cases h
 | app n x y=>
  simp only[zr] at h;obtain⟨ys,h1,h2⟩:=zabp.1 h;refine zDz (x:=x) rfl rfl (by simp [AOp.opds]) (fun o ho=>by simp [AOp.wr,ho]) h2 fun E2 H2 he hh=> ?_;have hs:zc9 H2 (y.ev E)=zc9 H (y.ev E):=z9y fun o ho=>hh o (by
   simp only[AOp.foot,AOp.looks,if_true,zabS];exact .inl (zdL.2 ⟨y,by simp [AOp.opds],ho⟩))
  simp only[zr,he x (by simp [AOp.opds]),he y (by simp [AOp.opds]),hs,h1,zabY]
 | apps x y=>
  simp only[zr] at h
  split at h
  ·rename_i s hs;refine zDz (x:=x) rfl rfl (by simp [AOp.opds]) (fun o ho=>by simp [AOp.wr,ho]) h fun E2 H2 he hh=> ?_;simp only[zr,he x (by simp [AOp.opds]),he y (by simp [AOp.opds]),hs]
  ·cases h
 | atl p=>
  refine⟨[],zaY.quiet rfl (fun E2 H2 he hh=> ?_) (zaS rfl rfl h)⟩;have hq:=zaS rfl rfl h;dsimp only at hq;subst hq;have:zcV H2 (p.ev E)=zcV H' (p.ev E):=zDF fun o ho=>hh rfl o (zdL.2 ⟨p,by simp [AOp.opds],ho⟩);simp only[zr,he p (by simp [AOp.opds]),this] at h ⊢;obtain⟨q,h1,h2⟩:=zabr.1 h
  cases h2
  rw[h1];rfl
 | ats p x=>
  simp only[zr] at h;obtain⟨n,hn,h⟩:=zabp.1 h;obtain⟨H1,h1,h⟩:=zabr.1 h
  cases h
  obtain⟨o,ob,ho,hH,hs⟩:=zDJ h1;subst hH;refine⟨[(o,ob)],rfl,?_,fun E2 H2 he hh _=> ?_⟩
  ·intro q ob' hq;simp only[zab1,Prod.mk.injEq] at hq;rw[hq.1];exact ho
  ·have:=hs H2 (hh o (by simp only[AOp.foot,AOp.looks,if_true,zabS];exact .inl (zdL.2 ⟨p,by simp [AOp.opds],ho⟩)));simp only[zr,he x (by simp [AOp.opds]),he p (by simp [AOp.opds]),hn,zabY,this,zab8,zak]
 | atc p x y=>
  simp only[zr] at h;obtain⟨n,hn,h⟩:=zabp.1 h;obtain⟨m,hm,h⟩:=zabp.1 h;obtain⟨v',hv,h⟩:=zabp.1 h;have h2:∀H2,(∀o∈(AOp.atc p x y).foot E dst,look o H2=look o H)->zcV H2 (p.ev E)=zcV H (p.ev E):=fun H2 hh=>zDF fun o ho=>hh o (by simp only[AOp.foot,AOp.looks,if_true,zabS];exact .inl (zdL.2 ⟨p,by simp [AOp.opds],ho⟩))
  split at h
  ·rename_i hvo;obtain⟨H1,h1,h⟩:=zabr.1 h
   cases h
   obtain⟨o,ob,ho,hH,hs⟩:=zDJ h1;subst hH;refine⟨[(o,ob)],rfl,?_,fun E2 H2 he hh _=> ?_⟩
   ·intro q ob' hq;simp only[zab1,Prod.mk.injEq] at hq;rw[hq.1];exact ho
   ·have:=hs H2 (hh o (by simp only[AOp.foot,AOp.looks,if_true,zabS];exact .inl (zdL.2 ⟨p,by simp [AOp.opds],ho⟩)));simp only[zr,he x (by simp [AOp.opds]),he y (by simp [AOp.opds]),he p (by simp [AOp.opds]),hn,hm,h2 H2 hh,hv,hvo,zabY,if_true,this,zab8,zak]
  ·rename_i hvo
   cases h
   refine⟨[],rfl,(fun o ob h=>nomatch h),fun E2 H2 he hh _=> ?_⟩;simp only[zr,he x (by simp [AOp.opds]),he y (by simp [AOp.opds]),he p (by simp [AOp.opds]),hn,hm,h2 H2 hh,hv,hvo,zabY,if_false,zak]
 | mkm=>
  simp only[zr] at h
  split at h
  ·rename_i hc
   cases h
   exact⟨_,zaY.new rfl fun E2 H2 _ _ h3 h4=>by simp only[zr,h3,h4,zacK,if_true]⟩
  ·cases h
 | lkp ok z x k=>
  refine⟨[],zaY.quiet rfl (fun E2 H2 he hh=> ?_) (zaS rfl rfl h)⟩;have hq:=zaS rfl rfl h;dsimp only at hq;subst hq;have:=zY9 (H:=H') (H2:=H2) (ok:=ok) (z:=z) (x:=x.ev E) (k:=k.ev E) fun o ho=>hh rfl o (zdL.2 ⟨x,by simp [AOp.opds],ho⟩);simp only[zr,he x (by simp [AOp.opds]),he k (by simp [AOp.opds]),this] at h ⊢;obtain⟨q,h1,h2⟩:=zabr.1 h
  cases h2
  rw[h1];rfl
 | mup x k y=>
  simp only[zr] at h;unfold zmT at h
  split at h
  ·rename_i o n y' hx hk hy
   split at h
   ·rename_i es hes
    cases h
    have hmem:o∈(AOp.mup x k y).foot E dst:=by
     simp only[AOp.foot,AOp.looks,if_true,zabS];exact .inl (zdL.2 ⟨x,by simp [AOp.opds],by rw[hx];simp [AV.objs]⟩)
    refine⟨[(o,.mp (zh0 n y' es))],rfl,?_,fun E2 H2 he hh _=> ?_⟩
    ·intro q ob hq;simp only[zab1,Prod.mk.injEq] at hq;rw[hq.1];simp [AOp.wr,hx,AV.objs]
    ·simp only[zr,he x (by simp [AOp.opds]),he k (by simp [AOp.opds]),he y (by simp [AOp.opds]),hx,hk,hy,zmT,hh o hmem,hes];simp [zak]
   ·cases h
  ·cases h
 | nileq ng x=>simp [zr] at h
 | call f ms xs=>simp [zr] at h
 | callv f ms xs=>simp [zr] at h
theorem zCB{o:Nat}{xs:List AV}:AV.refsL o xs=false↔∀x∈xs,x.refs o=false:=by
 induction xs with
 | nil=>simp [AV.refsL]
 | cons x xs ih=>simp [AV.refsL,ih]
theorem zaeP{o:Nat}{x:AV}(h:x.refs o=false):∀y∈x.cells,y.refs o=false:=by
 cases x with
 | d y=>intro z hz;simp only[AV.cells,zaby] at hz;obtain⟨_,_,rfl⟩:=hz;rfl
 | agg cs=>intro z hz;exact AV.refsL_false hz h
 | _=>intro z hz;simp only[AV.cells,zab1] at hz;subst hz;exact h
theorem ztt{o:Nat}{cs:List AV}(h:∀y∈cs,y.refs o=false):(AV.mkAgg cs).refs o=false:=by
 unfold AV.mkAgg;split
 ·rfl
 ·simpa [AV.refs] using zCB.2 h
theorem z7n{o:Nat}{f:FuncId}{cs:List AV}(h:∀y∈cs,y.refs o=false):(AV.mkFn f cs).refs o=false:=by
 unfold AV.mkFn;split
 ·rfl
 ·simpa [AV.refs] using zCB.2 h
theorem zCC{o:Nat}{ag:Bool}{off n:Nat}{x v:AV}(h:x.refs o=false)(hp:zep ag off n x=some v):v.refs o=false:=by
 unfold zep at hp
 split at hp
 ·obtain⟨_,_,rfl⟩:=zabr.1 hp;rfl
 ·split at hp
  ·split at hp
   ·cases hp
    exact ztt fun y hy=>zaeP h y (zadQ (zac8 hy))
   ·cases hp
  ·split at hp
   ·exact zaeP h _ (zabK hp)
   ·cases hp
theorem zQk{o off:Nat}{x v r:AV}(hx:x.refs o=false)(hv:v.refs o=false)(h:zcM x off v=some r):r.refs o=false:=by
 unfold zcM at h
 split at h
 ·cases h;exact hv
 ·split at h
  ·cases h
   refine ztt fun y hy=> ?_;simp only[zfv,zabS] at hy
   rcases hy with (hy|hy)|hy
   ·exact zaeP hx y (zac8 hy)
   ·exact zaeP hv y hy
   ·exact zaeP hx y (zadQ hy)
  ·cases h
theorem z7l{o:Nat}:∀ {ps:List (Nat×Nat×AV)} {z cs:List AV},(∀y∈z,y.refs o=false)->(∀p∈ps,p.2.2.refs o=false)->zbA z ps=some cs->∀y∈cs,y.refs o=false:=by
 intro ps
 induction ps with
 | nil=>intro z cs hz _ h;simp only[zbA,Option.some.injEq] at h;subst h;exact hz
 | cons p ps ih=>
  obtain⟨off,n,v⟩:=p;intro z cs hz hp h;simp only[zbA] at h
  split at h
  ·refine ih (fun y hy=> ?_) (fun p hp'=>hp p (.tail _ hp')) h;simp only[zfv,zabS] at hy
   rcases hy with (hy|hy)|hy
   ·exact hz y (zac8 hy)
   ·exact zaeP (hp _ (.head _)) y hy
   ·exact hz y (zadQ hy)
  ·cases h
theorem zaaG{o:Nat}{v:AV}(h:v.refs o=false):(unX v).refs o=false:=by
 cases v with
 | agg cs=>
  simp only[unX];refine ztt fun x hx=> ?_;rw[znN] at hx;obtain⟨y,hy,rfl⟩:=zaby.1 hx;have:=AV.refsL_false hy h
  cases y<;>simp_all [zjo,AV.refs]
 | _=>simp_all [unX,AV.refs]
theorem z7m{o:Nat}:∀ {ps:List (Nat×AV)} {z cs:List AV},(∀y∈z,y.refs o=false)->(∀p∈ps,p.2.refs o=false)->zd8 z ps=some cs->∀y∈cs,y.refs o=false:=by
 intro ps
 induction ps with
 | nil=>intro z cs hz _ h;simp only[zd8,Option.some.injEq] at h;subst h;exact hz
 | cons p ps ih=>
  obtain⟨i,v⟩:=p;intro z cs hz hp h;simp only[zd8] at h
  split at h
  ·refine ih (fun y hy=> ?_) (fun p hp'=>hp p (.tail _ hp')) h
   rcases zac1 hy with hy|rfl
   ·exact hz y hy
   ·exact zaaG (hp _ (.head _))
  ·cases h
theorem zeW{o k:Nat}{ob:Obj}{H:zd}(h:zaq o H=false)(hob:ob.refs o=false):zaq o (zP k ob H)=false:=by
 simp only[zP,zaq,hob,zacH]
 induction H with
 | nil=>rfl
 | cons p H ih=>
  obtain⟨j,x⟩:=p;simp only[zaq,zacY] at h;simp only[zd0]
  split
  ·exact ih h.2
  ·simp [zaq,h.1,ih h.2]
theorem zts{o k:Nat}{ob:Obj}{H:zd}(h:zaq o H=false)(hk:look k H=some ob):ob.refs o=false:=zhd (zav hk) h
def AOp.clean(o:Nat):AOp->Prop
 | .alloc z=>z.refs o=false
 | .build z _=>∀y∈z,y.refs o=false
 | .bsl _ _ z _=>z.refs o=false
 | .mks _ z _ _=>z.refs o=false
 | _=>True
theorem zjg{o:Nat}{es:List AV}(h:∀e∈es,e.refs o=false):(Obj.row es).refs o=false:=zCB.2 h
theorem zDA{o:Nat}{E:Env}{H:zd}{dst n:Nat}{ys:List D}{x v:AV}{H':zd}(h:zcf E H dst n ys x=some (v,H'))(hx:x.refs o=false)(hH:zaq o H=false)(hd:o≠dst):
    v.refs o=false/\zaq o H'=false:=by
 unfold zcf at h
 split at h
 ·split at h
  ·split at h
   ·cases h;exact⟨rfl,hH⟩
   ·cases h
  split at h
  ·cases h;exact⟨by simpa [AV.refs] using Ne.symm hd,zeW hH rfl⟩
  ·cases h
 ·split at h
  ·split at h
   ·cases h;exact⟨by simpa [AV.refs] using hx,zeW hH rfl⟩
   ·cases h
  ·cases h
 ·cases h
theorem zDI{o:Nat}{H H1:zd}{n:Int}{p:AV}(h:zd3 H n p=some H1)(hH:zaq o H=false):zaq o H1=false:=by
 unfold zd3 at h
 split at h
 ·split at h
  ·rename_i es hes;obtain⟨e,h1,h⟩:=zabp.1 h;obtain⟨_,_,h⟩:=zabp.1 h;obtain⟨e',h3,h⟩:=zabr.1 h
   cases h
   refine zeW hH (zjg fun y hy=> ?_);have hrow:=zts hH hes
   rcases zac1 hy with hy|rfl
   ·exact AV.refsL_false hy hrow
   ·exact zQk (AV.refsL_false (zabK h1) hrow) rfl h3
  ·cases h
 ·cases h
theorem zub {o:Nat} {op:AOp} {E:Env} {H:zd} {dst:Nat} {v:AV} {H':zd} (h:zr E H dst op=some (v,H')) (ho:∀y∈op.opds,(y.ev E).refs o=false) (hH:zaq o H=false)
    (hc:op.clean o) (hd:op.news=true->o≠dst):v.refs o=false/\zaq o H'=false:=by
 cases op with
 | mv x=>simp only[zr,Option.some.injEq,Prod.mk.injEq] at h;obtain⟨rfl,rfl⟩:=h;exact⟨ho x (by simp [AOp.opds]),hH⟩
 | pick c a b=>
  simp only[zr] at h
  split at h
  ·cases h
   refine⟨?_,hH⟩
   split
   ·exact ho a (by simp [AOp.opds])
   ·exact ho b (by simp [AOp.opds])
  ·cases h
 | alloc z=>
  simp only[zr] at h
  split at h
  ·cases h;exact⟨by simpa [AV.refs] using Ne.symm (hd rfl),zeW hH (zjg (by simpa [AOp.clean] using hc))⟩
  ·cases h
 | box x=>
  simp only[zr] at h
  split at h
  ·cases h;exact⟨by simpa [AV.refs] using Ne.symm (hd rfl),zeW hH (zjg (by simpa [AOp.opds] using ho))⟩
  ·cases h
 | build z ps=>
  simp only[zr] at h;obtain⟨cs,h1,h2⟩:=zabr.1 h
  cases h2
  refine⟨ztt (z7l (by simpa [AOp.clean] using hc) ?_ h1),hH⟩;intro p hp;obtain⟨q,hq,rfl⟩:=zaby.1 hp;exact ho _ (zaby.2 ⟨q,hq,rfl⟩)
 | bsl len n z ps=>
  simp only[zr] at h
  split at h
  ·obtain⟨es,h1,h2⟩:=zabp.1 h;have hes:=z7m (o:=o) (by intro y hy;rw[zaee hy];simpa [AOp.clean] using hc) (by
    intro p hp;obtain⟨q,hq,rfl⟩:=zaby.1 hp;exact ho _ (zaby.2 ⟨q,hq,rfl⟩)) h1
   split at h2
   ·cases h2;exact⟨rfl,hH⟩
   ·split at h2
    ·cases h2;exact⟨by simpa [AV.refs] using Ne.symm (hd rfl),zeW hH (zjg hes)⟩
    ·cases h2
  ·cases h
 | ld ag n p=>
  simp only[zr] at h;obtain⟨q,h1,h2⟩:=zabr.1 h
  cases h2
  refine⟨?_,hH⟩;have hp:=ho p (by simp [AOp.opds]);unfold ldA at h1
  split at h1
  ·obtain⟨_,_,rfl⟩:=zabr.1 h1;rfl
  ·obtain⟨_,_,rfl⟩:=zabr.1 h1;rfl
  ·split at h1
   ·rename_i es hes;obtain⟨e,he,h1⟩:=zabp.1 h1;exact zCC (AV.refsL_false (zabK he) (zts hH hes)) h1
   ·cases h1
  ·cases h1
 | st n p x=>
  simp only[zr] at h
  split at h
  ·split at h
   ·split at h
    ·rename_i es hes;obtain⟨e,h1,h2⟩:=zabp.1 h;obtain⟨e',h3,h4⟩:=zabr.1 h2
     cases h4
     refine⟨rfl,zeW hH (zjg fun y hy=> ?_)⟩;have hrow:=zts hH hes
     rcases zac1 hy with hy|rfl
     ·exact AV.refsL_false hy hrow
     ·exact zQk (AV.refsL_false (zabK h1) hrow) (ho x (by simp [AOp.opds])) h3
    ·cases h
   ·cases h
  ·cases h
 | clr n x=>
  simp only[zr] at h
  split at h
  ·split at h
   ·rename_i es hes
    split at h
    ·cases h
     refine⟨rfl,zeW hH (zjg fun y hy=> ?_)⟩;exact AV.refsL_false (zac8 hy) (zts hH hes)
    ·cases h
   ·cases h
  ·cases h
 | app n x y=>
  simp only[zr] at h;obtain⟨ys,h1,h2⟩:=zabp.1 h;exact zDA h2 (ho x (by simp [AOp.opds])) hH (hd rfl)
 | apps x y=>
  simp only[zr] at h
  split at h
  ·exact zDA h (ho x (by simp [AOp.opds])) hH (hd rfl)
  ·cases h
 | mks n z l c=>
  simp only[zr] at h
  split at h
  ·split at h
   ·cases h;exact⟨by simpa [AV.refs] using Ne.symm (hd rfl),zeW hH (zjg fun y hy=>by rw[zaee hy];simpa [AOp.clean] using hc)⟩
   ·cases h
  ·cases h
 | mkfn f cs=>
  simp only[zr,Option.some.injEq,Prod.mk.injEq] at h;obtain⟨rfl,rfl⟩:=h;refine⟨z7n fun y hy=> ?_,hH⟩;obtain⟨q,hq,rfl⟩:=zaby.1 hy;exact ho q hq
 | nileq ng x=>simp [zr] at h
 | call f ms xs=>simp [zr] at h
 | callv f ms xs=>simp [zr] at h
 | nacc=>
  simp only[zr] at h
  split at h
  ·cases h;exact⟨by simpa [AV.refs] using Ne.symm (hd rfl),zeW hH rfl⟩
  ·cases h
 | nilc x=>
  have hx:=ho x (by simp [AOp.opds]);revert h;simp only[zr];generalize x.ev E=q at hx;intro h
  split at h<;>cases h<;>first|exact⟨rfl,hH⟩|exact⟨by simpa [AV.refs] using hx,hH⟩
 | ext x i=>
  have hx:=ho x (by simp [AOp.opds]);revert h;simp only[zr];generalize x.ev E=q at hx;intro h
  split at h
  ·obtain⟨_,_,h2⟩:=zabr.1 h;cases h2;exact⟨rfl,hH⟩
  ·obtain⟨u,h1,h2⟩:=zabr.1 h;cases h2;exact⟨AV.refsL_false (zabK h1) hx,hH⟩
  ·cases h
 | fad ag off n x=>
  have hx:=ho x (by simp [AOp.opds]);simp only[zr] at h;obtain⟨q,h1,h2⟩:=zabr.1 h
  cases h2
  refine⟨?_,hH⟩;revert h1 hx;generalize x.ev E=q;intro hx h1;unfold zd6 at h1
  split at h1
  ·cases h1;exact hx
  ·obtain⟨_,_,rfl⟩:=zabr.1 h1;rfl
  ·obtain⟨_,_,rfl⟩:=zabr.1 h1;exact hx
  ·cases h1
 | iada ag len n x i=>
  have hx:=ho x (by simp [AOp.opds]);simp only[zr] at h;obtain⟨k,_,h⟩:=zabp.1 h
  split at h
  ·obtain⟨q,h1,h2⟩:=zabr.1 h
   cases h2
   refine⟨?_,hH⟩;revert h1 hx;generalize x.ev E=q;intro hx h1;unfold zd6 at h1
   split at h1
   ·cases h1;exact hx
   ·obtain⟨_,_,rfl⟩:=zabr.1 h1;rfl
   ·obtain⟨_,_,rfl⟩:=zabr.1 h1;exact hx
   ·cases h1
  ·cases h
 | idxa ag len n x i=>
  have hx:=ho x (by simp [AOp.opds]);simp only[zr] at h;obtain⟨k,_,h⟩:=zabp.1 h
  split at h
  ·obtain⟨q,h1,h2⟩:=zabr.1 h
   cases h2
   refine⟨?_,hH⟩;revert h1 hx;generalize x.ev E=q;intro hx h1;unfold zrv at h1
   split at h1
   ·obtain⟨_,_,rfl⟩:=zabr.1 h1;rfl
   ·exact zCC hx h1
   ·cases h1
  ·cases h
 | fld ag off n x=>
  have hx:=ho x (by simp [AOp.opds]);revert h;simp only[zr];generalize x.ev E=q at hx;intro h
  split at h
  ·obtain⟨_,_,h2⟩:=zabr.1 h;cases h2;exact⟨rfl,hH⟩
  ·obtain⟨_,h1,h2⟩:=zabr.1 h;cases h2;exact⟨zCC hx h1,hH⟩
  ·cases h
 | iad n x i=>
  have hx:=ho x (by simp [AOp.opds]);simp only[zr] at h;obtain⟨k,_,h⟩:=zabp.1 h
  split at h
  ·obtain⟨q,h1,h2⟩:=zabr.1 h
   cases h2
   refine⟨?_,hH⟩;revert h1 hx;generalize x.ev E=q;intro hx h1;unfold zcH at h1
   split at h1
   ·split at h1
    ·split at h1
     ·obtain⟨e,_,h1⟩:=zabp.1 h1
      split at h1
      ·cases h1;exact hx
      ·cases h1
     ·cases h1
    ·cases h1
   all_goals first|cases h1;done|skip
   all_goals
    obtain⟨e,_,h1⟩:=zabp.1 h1
    split at h1
    ·cases h1;first|rfl|exact hx
    ·cases h1
  ·cases h
 | slc n x lo hi mx=>
  have hx:=ho x (by simp [AOp.opds]);simp only[zr] at h;obtain⟨q,h1,h2⟩:=zabr.1 h
  cases h2
  refine⟨?_,hH⟩;revert h1 hx;generalize x.ev E=q;intro hx h1
  cases q with
  | d y=>cases y<;>simp only[zcj] at h1<;>first|cases h1;done|(revert h1;(repeat' split)<;>intro h1<;>simp [zabp] at h1<;>grind [AV.refs])
  | osl o' off len=>simp only[zcj] at h1;revert h1;(repeat' split)<;>intro h1<;>simp [zabp] at h1<;>grind [AV.refs]
  | acc o' es=>simp only[zcj] at h1;revert h1;(repeat' split)<;>intro h1<;>simp [zabp] at h1<;>grind [AV.refs]
  | xsl es=>simp only[zcj] at h1;revert h1;(repeat' split)<;>intro h1<;>simp [zabp] at h1<;>grind [AV.refs]
  | _=>simp [zcj] at h1
 | mm mx xs=>
  simp only[zr] at h
  split at h
  ·cases h
  ·rename_i y ys hys;obtain⟨q,h1,h2⟩:=zabr.1 h
   cases h2
   refine⟨?_,hH⟩;have hy:y.refs o=false:=by
    cases xs with
    | nil=>cases hys
    | cons a l=>simp only[zabs,List.cons.injEq] at hys;rw[<- hys.1];exact ho a (.head _)
   clear hys ho h
   induction ys generalizing y with
   | nil=>simp only[mmD,Option.some.injEq] at h1;subst h1;exact hy
   | cons z zs ih=>
    unfold mmD at h1
    split at h1
    ·cases h1;exact hy
    ·rename_i heq
     cases heq
     split at h1
     ·exact ih _ h1 rfl
     ·cases h1
    ·cases h1
 | atl p=>
  simp only[zr] at h;obtain⟨q,h1,h2⟩:=zabr.1 h
  cases h2
  exact⟨rfl,hH⟩
 | ats p x=>
  simp only[zr] at h;obtain⟨n,hn,h⟩:=zabp.1 h;obtain⟨H1,h1,h⟩:=zabr.1 h
  cases h
  exact⟨rfl,zDI h1 hH⟩
 | atc p x y=>
  simp only[zr] at h;obtain⟨n,hn,h⟩:=zabp.1 h;obtain⟨m,hm,h⟩:=zabp.1 h;obtain⟨v',hv,h⟩:=zabp.1 h
  split at h
  ·obtain⟨H1,h1,h⟩:=zabr.1 h
   cases h
   exact⟨rfl,zDI h1 hH⟩
  ·cases h;exact⟨rfl,hH⟩
 | mkm=>
  simp only[zr] at h
  split at h
  ·cases h;exact⟨by simpa [AV.refs] using Ne.symm (hd rfl),zeW hH rfl⟩
  ·cases h
 | lkp ok z x k=>
  simp only[zr] at h;obtain⟨q,h1,h2⟩:=zabr.1 h
  cases h2
  refine⟨?_,hH⟩;unfold zky at h1
  split at h1
  ·split at h1
   ·cases h1;rfl
   ·cases h1
  ·cases h1
 | mup x k y=>
  simp only[zr] at h;unfold zmT at h
  split at h
  ·split at h
   ·cases h;exact⟨rfl,zeW hH rfl⟩
   ·cases h
  ·cases h
 | _=>
  revert h;simp only[zr]
  (repeat' split)<;>intro h<;>simp [zabr,zabp] at h<;>grind [AV.refs]
end Go.Sim

namespace Go.Sim
open Go (World Value Addr TypeId Act)
variable {P:Program}
mutual
def D.ok:D->Prop
 | .int k n=>k.has n
 | .bool _=>True
 | .str s=>s.length<=LIM
 | .agg cs=>D.okL cs
 | .tup vs=>D.okL vs
 | .sl es=>es.length<=LIM/\D.okL es
 | .pd x=>D.ok x
 | .fn _ cs=>D.okL cs
def D.okL:List D->Prop
 | []=>True
 | x::xs=>D.ok x/\D.okL xs
end
theorem D.okL_iff{xs:List D}:D.okL xs↔∀x∈xs,x.ok:=by
 induction xs with
 | nil=>simp [D.okL]
 | cons x xs ih=>simp [D.okL,ih]
theorem zm0{xs:List D}(h:∀(i:Nat) (x:D),xs[i]? = some x->x.ok):D.okL xs:=D.okL_iff.2 fun x hx=>by
 obtain⟨i,hi⟩:=zab6 hx;exact h i x hi
def It.ok:It->Prop
 | .v x _=>x.ok
 | .el x _ _=>x.ok
theorem Rd.ok{w:World}{R:Nat->Prop}{it:It}(h:Rd w R it):it.ok:=by
 induction h with
 | int h=>exact h
 | bool=>trivial
 | str h=>exact h
 | @agg cs vs hl hc _ ih=>
  refine zm0 fun i x hi=> ?_;have hlt:=(zabB.1 hi).1;exact ih i x (vs[i]'(by omega)) hi (zabx _)
 | @tup cs vs hl _ ih=>
  refine zm0 fun i x hi=> ?_;have hlt:=(zabB.1 hi).1;exact ih i x (vs[i]'(by omega)) hi (zabx _)
 | sl0=>exact⟨by simp,trivial⟩
 | sl _ _ _ hl _ _ _ ih=>exact⟨hl,zm0 fun i x hi=>ih i x hi⟩
 | pd _ _ ih=>exact ih
 | @fn f cs vs hl _ ih=>
  refine zm0 fun i x hi=> ?_;have hlt:=(zabB.1 hi).1;exact ih i x (vs[i]'(by omega)) hi (zabx _)
 | elagg _ _ ih=>exact zm0 fun i x hi=>ih i x hi
 | elc _ _ _ ih=>exact ih
theorem D.flatL_mem{x:D}{xs:List D}(h:D.flatL xs=true)(hx:x∈xs):x.flat=true:=by
 induction xs with
 | nil=>cases hx
 | cons y ys ih=>
  simp only[D.flatL,zabH] at h
  cases hx with
  | head=>exact h.1
  | tail _ hx=>exact ih h.2 hx
theorem Rd.of_flat{w w':World}{R R':Nat->Prop}{it:It}(h:Rd w R it):∀ {x:D} {u:Value},it= .v x u->x.flat=true->Rd w' R' (.v x u):=by
 induction h with
 | int h=>intro x u e _;cases e;exact .int h
 | bool=>intro x u e _;cases e;exact .bool
 | str h=>intro x u e _;cases e;exact .str h
 | agg hl hc _ ih=>intro x u e hf;cases e;exact .agg hl hc fun i c q h1 h2=>ih i c q h1 h2 rfl (D.flatL_mem hf (zabK h1))
 | tup hl _ ih=>intro x u e hf;cases e;exact .tup hl fun i c q h1 h2=>ih i c q h1 h2 rfl (D.flatL_mem hf (zabK h1))
 | fn hl _ ih=>intro x u e hf;cases e;exact .fn hl fun i c q h1 h2=>ih i c q h1 h2 rfl (D.flatL_mem hf (zabK h1))
 | sl0=>intro x u e hf;cases e;cases hf
 | sl=>intro x u e hf;cases e;cases hf
 | pd=>intro x u e hf;cases e;cases hf
 | elagg=>intro x u e;cases e
 | elc=>intro x u e;cases e
mutual
def AV.ren(ρ:Nat->Nat):AV->AV
 | .ref o i off=> .ref (ρ o) i off
 | .osl o off len=> .osl (ρ o) off len
 | .acc o es=> .acc (ρ o) es
 | .pe o x=> .pe (ρ o) x
 | .agg cs=> .agg (AV.renL ρ cs)
 | .tup cs=> .tup (AV.renL ρ cs)
 | .fn f cs=> .fn f (AV.renL ρ cs)
 | .d x=> .d x
 | .xsl es=> .xsl es
 | .nl b=> .nl b
 | .mpr o=> .mpr (ρ o)
 | .undef=> .undef
def AV.renL(ρ:Nat->Nat):List AV->List AV
 | []=>[]
 | x::xs=>AV.ren ρ x::AV.renL ρ xs
end
theorem zno{ρ:Nat->Nat}{xs:List AV}:AV.renL ρ xs=xs.map (AV.ren ρ):=by
 induction xs with
 | nil=>rfl
 | cons x xs ih=>simp [AV.renL,ih]
theorem zQn{ρ:Nat->Nat}{x:AV}(h:x.cell=true):(x.ren ρ).cell=true:=by
 cases x<;>simp_all [AV.ren,AV.cell]
theorem VA.ren{w:World}{R:Nat->Prop}{ι ι':Inj}{mk mk':Nat->Option Nat}{ρ:Nat->Nat}{x:AV}{u:Value}(h:VA w R ι mk x u):
    (∀o,x.refs o=true->(∀p,ι o=some p->ι' (ρ o)=some p)/\mk' (ρ o)=mk o)->VA w R ι' mk' (x.ren ρ) u:=by
 induction h with
 | d h=>intro _;exact .d h
 | @ref o _ _ _ _ h hmk=>intro hp;have:=hp o (by simp [AV.refs]);exact .ref (this.1 _ h) (this.2.trans hmk)
 | @osl o _ _ _ _ _ _ _ h hmk hb hl hc hL=>intro hp;have:=hp o (by simp [AV.refs]);exact .osl (this.1 _ h) (this.2.trans hmk) hb hl hc hL
 | osl0=>intro _;exact .osl0
 | @accR o _ _ _ _ _ hr hs' hL hl hsz h hm=>intro hp;have:=hp o (by simp [AV.refs]);exact .accR hr hs' hL hl hsz h (by rw[this.2];exact hm)
 | @accC o b s m cap es c T hι hmk hm hL hl hsz hb hc h=>intro hp;have:=hp o (by simp [AV.refs]);exact .accC (this.1 _ hι) (this.2.trans hmk) hm hL hl hsz hb hc h
 | acc0=>intro _;exact .acc0
 | peR hr h=>intro _;exact .peR hr h
 | @peC o b s m off x c T hι hmk hb hoff h=>intro hp;have:=hp o (by simp [AV.refs]);exact .peC (this.1 _ hι) (this.2.trans hmk) hb hoff h
 | xsl h=>intro _;exact .xsl h
 | agg hl hc _ ih=>
  intro hp;simp only[AV.ren,zno];refine .agg (by simpa using hl) (fun c hm=> ?_) fun i c u h1 h2=> ?_
  ·obtain⟨y,hy,rfl⟩:=zaby.1 hm;exact zQn (hc y hy)
  ·rw[zabI] at h1;obtain⟨y,hy,rfl⟩:=zabr.1 h1;exact ih i y u hy h2 fun o ho=>hp o (AV.refsL_mem (zabK hy) ho)
 | tup hl _ ih=>
  intro hp;simp only[AV.ren,zno];refine .tup (by simpa using hl) fun i c u h1 h2=> ?_;rw[zabI] at h1;obtain⟨y,hy,rfl⟩:=zabr.1 h1;exact ih i y u hy h2 fun o ho=>hp o (AV.refsL_mem (zabK hy) ho)
 | fn hl _ ih=>
  intro hp;simp only[AV.ren,zno];refine .fn (by simpa using hl) fun i c u h1 h2=> ?_;rw[zabI] at h1;obtain⟨y,hy,rfl⟩:=zabr.1 h1;exact ih i y u hy h2 fun o ho=>hp o (AV.refsL_mem (zabK hy) ho)
 | nl1=>intro _;exact .nl1
 | nl2=>intro _;exact .nl2
 | @mpr o _ _ h hmk=>intro hp;have:=hp o (by simp [AV.refs]);exact .mpr (this.1 _ h) (this.2.trans hmk)
 | undef=>intro _;exact .undef
def Obj.ren(ρ:Nat->Nat):Obj->Obj
 | .row es=> .row (es.map (AV.ren ρ))
 | .acc n=> .acc n
 | .frz m=> .frz m
 | .mp es=> .mp es
theorem z7t{ρ:Nat->Nat}{x:AV}:(x.ren ρ).cells=x.cells.map (AV.ren ρ):=by
 cases x<;>simp [AV.ren,AV.cells,zno]
theorem z7v{ρ:Nat->Nat}{x:AV}:(x.ren ρ).size=x.size:=by
 cases x<;>simp [AV.ren,AV.size,zno]
theorem OB.ren {w:World} {R:Nat->Prop} {ι ι':Inj} {mk mk':Nat->Option Nat} {ρ:Nat->Nat} {o:Nat} {ob:Obj} (h:OB w R ι mk o ob) (ho:ι' (ρ o)=ι o)
    (hp:∀q,ob.refs q=true->(∀p,ι q=some p->ι' (ρ q)=some p)/\mk' (ρ q)=mk q):OB w R ι' mk' (ρ o) (ob.ren ρ):=by
 cases h with
 | @row es b s c T h1 h2 h3 h4 h5 h6 h7=>
  refine .row (ho.trans h1) h2 h3 h4 (fun e he=> ?_) (by simpa using h6) fun i e hi j x hx=> ?_
  ·obtain⟨y,hy,rfl⟩:=zaby.1 he;rw[z7v];exact h5 y hy
  ·rw[zabI] at hi;obtain⟨y,hy,rfl⟩:=zabr.1 hi;rw[z7t,zabI] at hx;obtain⟨z,hz,rfl⟩:=zabr.1 hx;obtain⟨k1,q,k2,k3⟩:=h7 i y hy j z hz;refine⟨zQn k1,q,k2,k3.ren fun q hq=>hp q ?_⟩;exact AV.refsL_mem (zabK hy) (AV.cells_refs hz hq)
 | acc h1 h2 h3 h4 h5 h6=>exact .acc h1 (ho.trans h2) h3 h4 h5 h6
 | accN h1=>exact .accN (ho.trans h1)
 | frz h=>exact .frz fun b s hb=>h b s (by rwa [ho] at hb)
 | mp h1 h2 h3 h4 h5 h6=>exact .mp (ho.trans h1) h2 h3 h4 h5 h6
mutual
def AV.flat:AV->Bool
 | .d x=>x.flat
 | .agg cs=>AV.flatL cs
 | .tup cs=>AV.flatL cs
 | .fn _ cs=>AV.flatL cs
 | .xsl es=>es.isEmpty
 | .acc _ _=>false
 | .pe _ _=>false
 | .ref _ _ _=>true
 | .osl _ _ _=>true
 | .nl _=>true
 | .mpr _=>true
 | .undef=>true
def AV.flatL:List AV->Bool
 | []=>true
 | x::xs=>AV.flat x&&AV.flatL xs
end
theorem AV.flatL_mem{x:AV}{xs:List AV}(h:AV.flatL xs=true)(hx:x∈xs):x.flat=true:=by
 induction xs with
 | nil=>cases hx
 | cons y ys ih=>
  simp only[AV.flatL,zabH] at h
  cases hx with
  | head=>exact h.1
  | tail _ hx=>exact ih h.2 hx
theorem VA.of_flat{w:World}{R R':Nat->Prop}{ι:Inj}{mk:Nat->Option Nat}{x:AV}{u:Value}(h:VA w R ι mk x u):x.flat=true->VA w R' ι mk x u:=by
 induction h with
 | d h=>intro hf;exact .d (h.of_flat rfl hf)
 | ref h hmk=>intro _;exact .ref h hmk
 | osl h hmk hb hl hc hL=>intro _;exact .osl h hmk hb hl hc hL
 | osl0=>intro _;exact .osl0
 | accR=>intro hf;cases hf
 | accC=>intro hf;cases hf
 | acc0=>intro hf;cases hf
 | peR=>intro hf;cases hf
 | peC=>intro hf;cases hf
 | @xsl es a n h=>
  intro hf;simp only[AV.flat,zadJ] at hf;subst hf
  cases h with
  | sl0=>exact .xsl .sl0
  | sl _ h0=>exact absurd rfl h0
 | agg hl hc _ ih=>intro hf;exact .agg hl hc fun i c u h1 h2=>ih i c u h1 h2 (AV.flatL_mem hf (zabK h1))
 | tup hl _ ih=>intro hf;exact .tup hl fun i c u h1 h2=>ih i c u h1 h2 (AV.flatL_mem hf (zabK h1))
 | fn hl _ ih=>intro hf;exact .fn hl fun i c u h1 h2=>ih i c u h1 h2 (AV.flatL_mem hf (zabK h1))
 | nl1=>intro _;exact .nl1
 | nl2=>intro _;exact .nl2
 | mpr h hmk=>intro _;exact .mpr h hmk
 | undef=>intro _;exact .undef
theorem VA.toR{w:World}{R R':Nat->Prop}{ι:Inj}{mk:Nat->Option Nat}{x:AV}{u:Value}(h:VA w R ι mk x u)(hR:(∀b,R b->R' b)\/x.flat=true):VA w R' ι mk x u:=by
 rcases hR with hR|hR
 ·exact h.mono hR (fun _ _=>rfl) fun o _=>Step.same fun _ _ _=>rfl
 ·exact h.of_flat hR
theorem zWf{e x:AV}{j:Nat}(he:e.flat=true)(hx:e.cells[j]? = some x):x.flat=true:=by
 cases e with
 | agg cs=>exact AV.flatL_mem he (zabK hx)
 | d y=>
  simp only[AV.cells,zabI] at hx;obtain⟨z,hz,rfl⟩:=zabr.1 hx
  cases y with
  | agg cs=>exact D.flatL_mem he (zabK hz)
  | _=>
   simp only[D.cells] at hz
   match j,hz with
   | 0,hz=>simp at hz;subst hz;exact he
   | n+1,hz=>simp at hz
 | _=>
  simp only[AV.cells] at hx
  match j,hx with
  | 0,hx=>simp at hx;subst hx;exact he
  | n+1,hx=>simp at hx
def Obj.flat:Obj->Bool
 | .row es=>AV.flatL es
 | .acc _=>true
 | .frz _=>false
 | .mp _=>false
theorem OB.toR{w:World}{R R':Nat->Prop}{ι:Inj}{mk:Nat->Option Nat}{o:Nat}{ob:Obj}(h:OB w R ι mk o ob)(hR:(∀b,R b->R' b)\/ob.flat=true)(hno:∀b,R' b->R b):OB w R' ι mk o ob:=by
 cases h with
 | row h1 h2 h3 h4 h5 h6 h7=>
  refine .row h1 (fun k=>h2 (hno _ k)) h3 h4 h5 h6 fun i e hi j x hx=> ?_;obtain⟨k1,q,k2,k3⟩:=h7 i e hi j x hx;refine⟨k1,q,k2,k3.toR (hR.imp id fun hf=> ?_)⟩;exact zWf (AV.flatL_mem hf (zabK hi)) hx
 | acc h1 h2 h3 h4 h5 h6=>exact .acc h1 h2 (fun k=>h3 (hno _ k)) h4 h5 h6
 | accN h1=>exact .accN h1
 | frz h=>
  rcases hR with hR|hf
  ·exact .frz fun b s hb=>⟨hR _ (h b s hb).1,(h b s hb).2⟩
  ·cases hf
 | mp h1 h2 h3 h4 h5 h6=>
  rcases hR with hR|hf
  ·exact .mp h1 (fun k=>h2 (hno _ k)) h3 h4 h5 fun i k x hi=>let ⟨e,k1,k2,k3⟩:=h6 i k x hi;⟨e,k1,k2,k3.mono_v hR fun _ _=>rfl⟩
  ·cases hf
end Go.Sim
