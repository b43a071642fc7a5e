/-
  States put in order.
-/
import Derived.Test.YtcembpbhkcbnhaaGreatBab93df0
import Derived.Test.YtcembpbhkcbnhaaGreatBc7aea70
import Derived.RegionTactic
set_option linter.unusedSimpArgs false
set_option linter.unusedVariables false
set_option maxHeartbeats 10000000
set_option maxRecDepth 100000
namespace Go.Sim
open Go (World Value Addr TypeId Act)
def AOp.opds:AOp->List Opd
 | .mv x=>[x]
 | .pick c a b=>[c,a,b]
 | .alloc _=>[]
 | .box x=>[x]
 | .build _ ps=>ps.map (·.2.2)
 | .bsl _ _ _ ps=>ps.map (·.2)
 | .ld _ _ p=>[p]
 | .st _ p x=>[p,x]
 | .nilc x=>[x]
 | .bin _ x y=>[x,y]
 | .eqb _ x y=>[x,y]
 | .eqs _ _ _ x y=>[x,y]
 | .nacc=>[]
 | .un _ x=>[x]
 | .cvi _ x=>[x]
 | .s2b x=>[x]
 | .b2s x=>[x]
 | .mkfn _ cs=>cs
 | .fad _ _ _ x=>[x]
 | .fld _ _ _ x=>[x]
 | .iad _ x i=>[x,i]
 | .iada _ _ _ x i=>[x,i]
 | .idx x i=>[x,i]
 | .idxa _ _ _ x i=>[x,i]
 | .slc _ x lo hi mx=>x::(lo.toList++hi.toList++mx.toList)
 | .sls x lo hi=>x::(lo.toList++hi.toList)
 | .ext x _=>[x]
 | .len x=>[x]
 | .lens x=>[x]
 | .app _ x y=>[x,y]
 | .apps x y=>[x,y]
 | .clr _ x=>[x]
 | .mm _ xs=>xs
 | .mks _ _ l c=>[l,c]
 | .nileq _ x=>[x]
 | .call _ _ xs=>xs
 | .callv f _ xs=>f::xs
 | .atl p=>[p]
 | .ats p x=>[p,x]
 | .atc p x y=>[p,x,y]
 | .mkm=>[]
 | .lkp _ _ x k=>[x,k]
 | .mup x k v=>[x,k,v]
def AOp.looks:AOp->Bool
 | .ld .. | .st .. | .clr .. | .iad .. | .slc .. | .app .. | .apps .. | .call .. | .callv .. | .lkp .. | .mup .. | .atl .. | .ats .. | .atc .. => true
 | _=>false
def AOp.stores:AOp->Bool
 | .st .. | .clr .. | .mup .. | .ats .. | .atc .. => true
 | _=>false
def AOp.news:AOp->Bool
 | .alloc .. | .box .. | .bsl .. | .mks .. | .app .. | .apps .. | .nacc| .mkm=>true
 | _=>false
def zh2(E:Env):List Opd->List Nat
 | []=>[]
 | y::l=>(y.ev E).objs++zh2 E l
theorem zdL{E:Env}{o:Nat}:∀ {l:List Opd},o∈zh2 E l↔∃y∈l,o∈(y.ev E).objs:=by
 intro l
 induction l with
 | nil=>simp [zh2]
 | cons y l ih=>simp [zh2,ih]
def AOp.foot(E:Env)(dst:Nat)(op:AOp):List Nat:=(if op.looks then zh2 E op.opds else [])++(if op.news then [dst] else [])
def AOp.wr(E:Env)(dst:Nat):AOp->List Nat
 | .st _ p _=>(p.ev E).objs
 | .clr _ x=>(x.ev E).objs
 | .app _ x _=>(x.ev E).objs++[dst]
 | .apps x _=>(x.ev E).objs++[dst]
 | .mup x _ _=>(x.ev E).objs
 | .ats p _=>(p.ev E).objs
 | .atc p _ _=>(p.ev E).objs
 | .alloc _| .box _| .bsl .. | .mks .. | .nacc| .mkm=>[dst]
 | _=>[]
theorem AOp.wr_foot{E:Env}{dst o:Nat}{op:AOp}(h:o∈op.wr E dst):o∈op.foot E dst:=by
 cases op<;>simp_all [AOp.wr,AOp.foot,AOp.looks,AOp.news,AOp.opds,zh2]
 ·rcases h with h|h<;>simp [h]
 ·rcases h with h|h<;>simp [h]
def zak:zd->zd->zd
 | [],H=>H
 | (o,ob)::δ,H=>zP o ob (zak δ H)
theorem zMe{α:Type}{k j:Nat}{x:α}{l:List (Nat×α)}:look j (zP k x l)=if j=k then some x else look j l:=by
 split
 ·rename_i h;subst h;simp
 ·rename_i h;exact zMf h
theorem zdi{o:Nat}{δ H:zd}:look o (zak δ H)=(look o δ).or (look o H):=by
 induction δ with
 | nil=>simp [zak,look]
 | cons p δ ih=>
  obtain⟨q,ob⟩:=p;rw[zak,zMe,look]
  by_cases h:o=q
  ·simp [h]
  ·rw[zabn h,zabn (Ne.symm h),ih]
structure zaY(op:AOp)(E:Env)(H:zd)(dst:Nat)(v:AV)(H':zd)(δ:zd):Prop where
 eq:H'=zak δ H
 sub:∀o ob,(o,ob)∈δ->o∈op.wr E dst
 same:∀E2 H2,(∀y∈op.opds,y.ev E2=y.ev E)->(∀o∈op.foot E dst,look o H2=look o H)->(op.news=true->zaX dst E2=false/\zaq dst H2=false)->zr E2 H2 dst op=some (v,zak δ H2)
theorem zaY.quiet {op:AOp} {E:Env} {H:zd} {dst:Nat} {v:AV} {H':zd} (hn:op.news=false)
    (h:∀E2 H2,(∀y∈op.opds,y.ev E2=y.ev E)->(op.looks=true->∀o∈zh2 E op.opds,look o H2=look o H)->zr E2 H2 dst op=some (v,H2)) (he:H'=H):zaY op E H dst v H' []:=by
 refine⟨he,(fun o ob h=>nomatch h),fun E2 H2 h1 h2 _=>h E2 H2 h1 fun hl o ho=>h2 o ?_⟩;simp [AOp.foot,hl,ho]
theorem zsS{E E2:Env}{α:Type}{l:List α}{g:α->Opd}(h:∀y∈l.map g,y.ev E2=y.ev E):∀p∈l,(g p).ev E2=(g p).ev E:=fun p hp=>h _ (zadw hp)
theorem zBg{E E2:Env}{l:List Opd}(h:∀y∈l,y.ev E2=y.ev E):l.map (·.ev E2)=l.map (·.ev E):=zacR h
theorem zYN{E:Env}{H H2:zd}{ag:Bool}{n:Nat}{x:AV}(h:∀o∈x.objs,look o H2=look o H):ldA H2 ag n x=ldA H ag n x:=by
 cases x with
 | d y=>cases y<;>rfl
 | ref o i off=>simp only[ldA];try rw[h _ (by simp [AV.objs])]
 | osl o off len=>simp only[ldA];try rw[h _ (by simp [AV.objs])]
 | _=>rfl
theorem zXM{H H2:zd}{n:Nat}{i:Int}{x:AV}(h:∀o∈x.objs,look o H2=look o H):zcH H2 n i x=zcH H n i x:=by
 cases x with
 | d y=>cases y<;>rfl
 | ref o i off=>simp only[zcH];try rw[h _ (by simp [AV.objs])]
 | osl o off len=>simp only[zcH];try rw[h _ (by simp [AV.objs])]
 | _=>rfl
theorem z9m{H H2:zd}{n:Nat}{lo hi mx:Option AV}{x:AV}(h:∀o∈x.objs,look o H2=look o H):zcj H2 n lo hi mx x=zcj H n lo hi mx x:=by
 cases x with
 | d y=>cases y<;>rfl
 | ref o i off=>simp only[zcj];try rw[h _ (by simp [AV.objs])]
 | osl o off len=>simp only[zcj];try rw[h _ (by simp [AV.objs])]
 | _=>rfl
theorem z9y{H H2:zd}{x:AV}(h:∀o∈x.objs,look o H2=look o H):zc9 H2 x=zc9 H x:=by
 cases x with
 | d y=>cases y<;>rfl
 | ref o i off=>simp only[zc9];try rw[h _ (by simp [AV.objs])]
 | osl o off len=>simp only[zc9];try rw[h _ (by simp [AV.objs])]
 | _=>rfl
theorem zY9{H H2:zd}{ok:Bool}{z:D}{x k:AV}(h:∀o∈x.objs,look o H2=look o H):zky H2 ok z x k=zky H ok z x k:=by
 cases x with
 | mpr o=>
  cases k with
  | d y=>unfold zky;have:=h o (by simp [AV.objs]);split<;>simp_all
  | _=>rfl
 | _=>rfl
theorem zaY.new {op:AOp} {E:Env} {H:zd} {dst:Nat} {v:AV} {ob:Obj} (hn:op.news=true)
    (h:∀E2 H2,(∀y∈op.opds,y.ev E2=y.ev E)->(∀o∈op.foot E dst,look o H2=look o H)->zaX dst E2=false->zaq dst H2=false->zr E2 H2 dst op=some (v,zP dst ob H2)):zaY op E H dst v (zP dst ob H) [(dst,ob)]:=by
 refine⟨rfl,fun o ob' h'=> ?_,fun E2 H2 h1 h2 h3=>h E2 H2 h1 h2 (h3 hn).1 (h3 hn).2⟩;simp only[zab1,Prod.mk.injEq] at h';rw[h'.1]
 cases op<;>simp_all [AOp.wr,AOp.news]
theorem zDz {op:AOp} {E:Env} {H:zd} {dst n:Nat} {x:Opd} {ys:List D} {v:AV} {H':zd} (hn:op.news=true) (hl:op.looks=true) (hx:x∈op.opds) (hw:∀o∈(x.ev E).objs,o∈op.wr E dst) (h:zcf E H dst n ys (x.ev E)=some (v,H'))
    (hop:∀E2 H2,(∀y∈op.opds,y.ev E2=y.ev E)->(∀o∈op.foot E dst,look o H2=look o H)->zr E2 H2 dst op=zcf E2 H2 dst n ys (x.ev E)):∃δ,zaY op E H dst v H' δ:=by
 cases hxv:x.ev E with
 | xsl es=>
  rw[hxv] at h;simp only[zcf] at h
  split at h
  ·rename_i h0
   split at h
   ·rename_i h1
    cases h
    refine⟨[],rfl,fun p ob hp=>(by cases hp),fun E2 H2 k1 k2 _=> ?_⟩;rw[hop E2 H2 k1 k2,hxv];simp only[zcf];rw[zabo h0,zabo h1];rfl
   ·cases h
  rename_i h0
  split at h
  ·rename_i hc
   cases h
   refine⟨_,zaY.new hn fun E2 H2 h1 h2 h3 h4=> ?_⟩;rw[hop E2 H2 h1 h2,hxv];simp only[zcf];rw[zabn h0,zabo ⟨hc.1,hc.2.1,h3,h4⟩]
  ·cases h
 | acc o es=>
  rw[hxv] at h;simp only[zcf] at h;have hmem:o∈op.foot E dst:=by
   simp only[AOp.foot,hl,if_true,zabS];exact .inl (zdL.2 ⟨x,hx,by rw[hxv];simp [AV.objs]⟩)
  split at h
  ·rename_i m hm
   split at h
   ·rename_i hc
    cases h
    refine⟨[(o,.acc (m+ys.length))],rfl,?_,fun E2 H2 h1 h2 _=> ?_⟩
    ·intro p ob hp;simp only[zab1,Prod.mk.injEq] at hp;rw[hp.1];exact hw _ (by rw[hxv];simp [AV.objs])
    ·rw[hop E2 H2 h1 h2,hxv];simp only[zcf];rw[h2 _ hmem,hm];simp only[hc,zacK,if_true,zak]
   ·cases h
  ·cases h
 | _=>rw[hxv] at h;simp [zcf] at h
theorem zaS{op:AOp}{E:Env}{H:zd}{dst:Nat}{r:AV×zd}(hn:op.news=false)(hs:op.stores=false)(h:zr E H dst op=some r):r.2=H:=by
 obtain⟨v,H'⟩:=r
 cases op with
 | st n p x=>cases hs
 | clr n x=>cases hs
 | mup x k v=>cases hs
 | ats p x=>cases hs
 | atc p x y=>cases hs
 | atl p=>cases h
 | lkp ok z x k=>
  simp only[zr] at h;obtain⟨q,_,h⟩:=zabr.1 h
  cases h;rfl
 | sls x lo hi=>cases h
 | _=>
  first
   | (exfalso;revert hn;simp [AOp.news];done)
   | (revert h
      simp only[zr]
      (repeat' split)<;>intro h<;>simp_all [zabr,zabp]<;>grind)
theorem zSf{op:AOp}{E:Env}{H:zd}{dst:Nat}{v:AV}{H':zd}(h:zr E H dst op=some (v,H')):∃δ,zaY op E H dst v H' δ:=by
 cases op with
 | mv x=>
  simp only[zr,Option.some.injEq,Prod.mk.injEq] at h;obtain⟨rfl,rfl⟩:=h;refine⟨[],zaY.quiet rfl (fun E2 H2 he _=> ?_) rfl⟩;simp [zr,he x (by simp [AOp.opds])]
 | pick c a b=>
  simp only[zr] at h
  split at h
  ·rename_i t ht;simp only[Option.some.injEq,Prod.mk.injEq] at h;obtain⟨rfl,rfl⟩:=h;refine⟨[],zaY.quiet rfl (fun E2 H2 he _=> ?_) rfl⟩;simp only[zr,he c (by simp [AOp.opds]),he a (by simp [AOp.opds]),he b (by simp [AOp.opds]),ht]
  ·cases h
 | nilc x=>
  refine⟨[],zaY.quiet rfl (fun E2 H2 he _=> ?_) (zaS rfl rfl h)⟩;have hq:=zaS rfl rfl h;dsimp only at hq;subst hq;revert h;simp only[zr,he x (by simp [AOp.opds])]
  (repeat' split)<;>intro h<;>simp_all [zabr,zabp]
 | bin op x y=>
  refine⟨[],zaY.quiet rfl (fun E2 H2 he _=> ?_) (zaS rfl rfl h)⟩;have hq:=zaS rfl rfl h;dsimp only at hq;subst hq;revert h;simp only[zr,he x (by simp [AOp.opds]),he y (by simp [AOp.opds])]
  (repeat' split)<;>intro h<;>simp_all [zabr,zabp]
 | eqb ng x y=>cases h
 | eqs ng n ls x y=>
  refine⟨[],zaY.quiet rfl (fun E2 H2 he _=> ?_) (zaS rfl rfl h)⟩;have hq:=zaS rfl rfl h;dsimp only at hq;subst hq;revert h;simp only[zr,he x (by simp [AOp.opds]),he y (by simp [AOp.opds])]
  (repeat' split)<;>intro h<;>simp_all [zabr,zabp]
 | nacc=>
  simp only[zr] at h
  split at h
  ·rename_i hc
   cases h
   exact⟨_,zaY.new rfl fun E2 H2 _ _ h1 h2=>by simp only[zr];rw[zabo ⟨h1,h2⟩]⟩
  ·cases h
 | un op x=>
  refine⟨[],zaY.quiet rfl (fun E2 H2 he _=> ?_) (zaS rfl rfl h)⟩;have hq:=zaS rfl rfl h;dsimp only at hq;subst hq;revert h;simp only[zr,he x (by simp [AOp.opds])]
  (repeat' split)<;>intro h<;>simp_all [zabr,zabp]
 | cvi k x=>
  refine⟨[],zaY.quiet rfl (fun E2 H2 he _=> ?_) (zaS rfl rfl h)⟩;have hq:=zaS rfl rfl h;dsimp only at hq;subst hq;revert h;simp only[zr,he x (by simp [AOp.opds])]
  (repeat' split)<;>intro h<;>simp_all [zabr,zabp]
 | s2b x=>cases h
 | b2s x=>
  refine⟨[],zaY.quiet rfl (fun E2 H2 he _=> ?_) (zaS rfl rfl h)⟩;have hq:=zaS rfl rfl h;dsimp only at hq;subst hq;revert h;simp only[zr,he x (by simp [AOp.opds])]
  (repeat' split)<;>intro h<;>simp_all [zabr,zabp]
 | fad ag off n x=>
  refine⟨[],zaY.quiet rfl (fun E2 H2 he _=> ?_) (zaS rfl rfl h)⟩;have hq:=zaS rfl rfl h;dsimp only at hq;subst hq;revert h;simp only[zr,he x (by simp [AOp.opds])]
  (repeat' split)<;>intro h<;>simp_all [zabr,zabp]
 | fld ag off n x=>
  refine⟨[],zaY.quiet rfl (fun E2 H2 he _=> ?_) (zaS rfl rfl h)⟩;have hq:=zaS rfl rfl h;dsimp only at hq;subst hq;revert h;simp only[zr,he x (by simp [AOp.opds])]
  (repeat' split)<;>intro h<;>simp_all [zabr,zabp]
 | iada ag len n x i=>cases h
 | idx x i=>
  refine⟨[],zaY.quiet rfl (fun E2 H2 he _=> ?_) (zaS rfl rfl h)⟩;have hq:=zaS rfl rfl h;dsimp only at hq;subst hq;revert h;simp only[zr,he x (by simp [AOp.opds]),he i (by simp [AOp.opds])]
  (repeat' split)<;>intro h<;>simp_all [zabr,zabp]
 | idxa ag len n x i=>
  refine⟨[],zaY.quiet rfl (fun E2 H2 he _=> ?_) (zaS rfl rfl h)⟩;have hq:=zaS rfl rfl h;dsimp only at hq;subst hq;revert h;simp only[zr,he x (by simp [AOp.opds]),he i (by simp [AOp.opds])]
  (repeat' split)<;>intro h<;>simp_all [zabr,zabp]
 | ext x i=>
  refine⟨[],zaY.quiet rfl (fun E2 H2 he _=> ?_) (zaS rfl rfl h)⟩;have hq:=zaS rfl rfl h;dsimp only at hq;subst hq;revert h;simp only[zr,he x (by simp [AOp.opds])]
  (repeat' split)<;>intro h<;>simp_all [zabr,zabp]
 | len x=>
  refine⟨[],zaY.quiet rfl (fun E2 H2 he _=> ?_) (zaS rfl rfl h)⟩;have hq:=zaS rfl rfl h;dsimp only at hq;subst hq;revert h;simp only[zr,he x (by simp [AOp.opds])]
  (repeat' split)<;>intro h<;>simp_all [zabr,zabp]
 | lens x=>
  refine⟨[],zaY.quiet rfl (fun E2 H2 he _=> ?_) (zaS rfl rfl h)⟩;have hq:=zaS rfl rfl h;dsimp only at hq;subst hq;revert h;simp only[zr,he x (by simp [AOp.opds])]
  (repeat' split)<;>intro h<;>simp_all [zabr,zabp]
 | build z ps=>
  refine⟨[],zaY.quiet rfl (fun E2 H2 he _=> ?_) (zaS rfl rfl h)⟩;have hq:=zaS rfl rfl h;dsimp only at hq;subst hq;have hm:(ps.map fun p=>(p.1,p.2.1,p.2.2.ev E2))=ps.map fun p=>(p.1,p.2.1,p.2.2.ev E):=zacR fun p hp=>by rw[zsS (g:=fun p:Nat×Nat×Opd=>p.2.2) he p hp]
  simp only[zr,hm] at h ⊢;obtain⟨q,h1,h2⟩:=zabr.1 h;rw[h1];simp at h2;simp [h2]
 | mkfn f cs=>
  refine⟨[],zaY.quiet rfl (fun E2 H2 he _=> ?_) (zaS rfl rfl h)⟩;have hm:cs.map (·.ev E2)=cs.map (·.ev E):=zBg he;simp only[zr] at h ⊢
  cases h
  rw[hm]
 | mm mx xs=>
  refine⟨[],zaY.quiet rfl (fun E2 H2 he _=> ?_) (zaS rfl rfl h)⟩;have hm:xs.map (·.ev E2)=xs.map (·.ev E):=zBg he;simp only[zr] at h ⊢;rw[hm]
  split at h
  ·cases h
  ·obtain⟨q,h1,h2⟩:=zabr.1 h
   cases h2;simp [h1]
 | ld ag n p=>
  refine⟨[],zaY.quiet rfl (fun E2 H2 he hh=> ?_) (zaS rfl rfl h)⟩;have hp:=he p (by simp [AOp.opds]);have hs:ldA H2 ag n (p.ev E)=ldA H ag n (p.ev E):=zYN (E:=E) fun o ho=>hh rfl o (zdL.2 ⟨p,by simp [AOp.opds],ho⟩);simp only[zr,hp,hs] at h ⊢;obtain⟨q,h1,h2⟩:=zabr.1 h
  cases h2;simp [h1]
 | iad n x i=>
  refine⟨[],zaY.quiet rfl (fun E2 H2 he hh=> ?_) (zaS rfl rfl h)⟩;have hp:=he x (by simp [AOp.opds]);have hi:=he i (by simp [AOp.opds]);have hs:∀k,zcH H2 n k (x.ev E)=zcH H n k (x.ev E):=fun k=>zXM fun o ho=>hh rfl o (zdL.2 ⟨x,by simp [AOp.opds],ho⟩);simp only[zr,hp,hi,hs] at h ⊢;obtain⟨k,h1,h2⟩:=zabp.1 h;rw[h1];simp only[zabY]
  split at h2
  ·rename_i hk;obtain⟨q,h3,h4⟩:=zabr.1 h2
   cases h4;simp [hk,h3]
  ·cases h2
 | slc n x lo hi mx=>
  refine⟨[],zaY.quiet rfl (fun E2 H2 he hh=> ?_) (zaS rfl rfl h)⟩;have hp:=he x (by simp [AOp.opds]);have h1:lo.map (·.ev E2)=lo.map (·.ev E):=by cases lo with|none=>rfl|some y=>simp [he y (by simp [AOp.opds])]
  have h2:hi.map (·.ev E2)=hi.map (·.ev E):=by cases hi with|none=>rfl|some y=>simp [he y (by simp [AOp.opds])]
  have h3:mx.map (·.ev E2)=mx.map (·.ev E):=by cases mx with|none=>rfl|some y=>simp [he y (by simp [AOp.opds])]
  have hs:zcj H2 n (lo.map (·.ev E)) (hi.map (·.ev E)) (mx.map (·.ev E)) (x.ev E)=zcj H n (lo.map (·.ev E)) (hi.map (·.ev E)) (mx.map (·.ev E)) (x.ev E):=z9m fun o ho=>hh rfl o (zdL.2 ⟨x,by simp [AOp.opds],ho⟩);simp only[zr,hp,h1,h2,h3,hs] at h ⊢;obtain⟨q,h4,h5⟩:=zabr.1 h
  cases h5;simp [h4]
 | sls x lo hi=>cases h
 | alloc z=>
  simp only[zr] at h
  split at h
  ·cases h
   refine⟨_,zaY.new rfl fun E2 H2 h1 h2 h3 h4=> ?_⟩;simp [zr,h3,h4]
  ·cases h
 | box x=>
  simp only[zr] at h
  split at h
  ·rename_i hc
   cases h
   refine⟨_,zaY.new rfl fun E2 H2 h1 h2 h3 h4=> ?_⟩;simp only[zr,h1 x (by simp [AOp.opds]),h3,h4];rw[zabo ⟨trivial,trivial,hc.2.2⟩]
  ·cases h
 | bsl len n z ps=>
  have hm:∀E2:Env,(∀y∈(AOp.bsl len n z ps).opds,y.ev E2=y.ev E)->(ps.map fun p=>(p.1,p.2.ev E2))=ps.map fun p=>(p.1,p.2.ev E):=fun E2 he=>zacR fun p hp=>by rw[zsS (g:=fun p:Nat×Opd=>p.2) he p hp]
  have ha:∀E2:Env,(∀y∈(AOp.bsl len n z ps).opds,y.ev E2=y.ev E)->(ps.all fun p=>(p.2.ev E2).size==n)=ps.all fun p=>(p.2.ev E).size==n:=fun E2 he=>by
   rw[zacD,zabO,zabO];constructor
   ·intro h p hp;rw[<- zsS (g:=fun p:Nat×Opd=>p.2) he p hp];exact h p hp
   ·intro h p hp;rw[zsS (g:=fun p:Nat×Opd=>p.2) he p hp];exact h p hp
  simp only[zr] at h
  split at h
  ·rename_i hc;obtain⟨es,h1,h2⟩:=zabp.1 h
   split at h2
   ·rename_i ds hds
    cases h2
    refine⟨[],rfl,(fun o ob h=>nomatch h),fun E2 H2 he _ _=> ?_⟩;simp only[zr,hm E2 he,ha E2 he];rw[zabo hc,h1];simp [hds,zak]
   ·rename_i hds
    split at h2
    ·cases h2
     refine⟨_,zaY.new rfl fun E2 H2 he _ h3 h4=> ?_⟩;simp only[zr,hm E2 he,ha E2 he];rw[zabo hc,h1];simp [hds,h3,h4]
    ·cases h2
  ·cases h
 | mks n z l c=>
  simp only[zr] at h
  split at h
  ·rename_i a b hl hc
   split at h
   ·rename_i hh
    cases h
    refine⟨_,zaY.new rfl fun E2 H2 h1 h2 h3 h4=> ?_⟩;simp only[zr,h1 l (by simp [AOp.opds]),h1 c (by simp [AOp.opds]),hl,hc,h3,h4];rw[zabo ⟨hh.1,hh.2.1,hh.2.2.1,hh.2.2.2.1,trivial,trivial⟩]
   ·cases h
  ·cases h
 | st n p x=>
  simp only[zr] at h
  split at h
  ·rename_i o i off hp
   split at h
   ·rename_i hc
    split at h
    ·rename_i es hes;obtain⟨e,h1,h2⟩:=zabp.1 h;obtain⟨e',h3,h4⟩:=zabr.1 h2
     cases h4
     have hmem:o∈(AOp.st n p x).foot E dst:=by
      simp only[AOp.foot,AOp.looks,if_true,zabS];exact .inl (zdL.2 ⟨p,by simp [AOp.opds],by rw[hp];simp [AV.objs]⟩)
     refine⟨[(o,.row (es.set i e'))],rfl,?_,fun E2 H2 he hh _=> ?_⟩
     ·intro q ob hq;simp only[zab1,Prod.mk.injEq] at hq;rw[hq.1];simp [AOp.wr,hp,AV.objs]
     ·simp only[zr,he p (by simp [AOp.opds]),he x (by simp [AOp.opds]),hp,hh o hmem,hes];rw[zabo hc,h1];simp [h3,zak]
    ·cases h
   ·cases h
  ·cases h
 | clr n x=>cases h
 | app n x y=>
  simp only[zr] at h;obtain⟨ys,h1,h2⟩:=zabp.1 h;refine zDz (x:=x) rfl rfl (by simp [AOp.opds]) (fun o ho=>by simp [AOp.wr,ho]) h2 fun E2 H2 he hh=> ?_;have hs:zc9 H2 (y.ev E)=zc9 H (y.ev E):=z9y fun o ho=>hh o (by
   simp only[AOp.foot,AOp.looks,if_true,zabS];exact .inl (zdL.2 ⟨y,by simp [AOp.opds],ho⟩))
  simp only[zr,he x (by simp [AOp.opds]),he y (by simp [AOp.opds]),hs,h1,zabY]
 | apps x y=>cases h
 | atl p=>cases h
 | ats p x=>cases h
 | atc p x y=>cases h
 | mkm=>
  simp only[zr] at h
  split at h
  ·rename_i hc
   cases h
   exact⟨_,zaY.new rfl fun E2 H2 _ _ h3 h4=>by simp only[zr,h3,h4,zacK,if_true]⟩
  ·cases h
 | lkp ok z x k=>
  refine⟨[],zaY.quiet rfl (fun E2 H2 he hh=> ?_) (zaS rfl rfl h)⟩;have hq:=zaS rfl rfl h;dsimp only at hq;subst hq;have:=zY9 (H:=H') (H2:=H2) (ok:=ok) (z:=z) (x:=x.ev E) (k:=k.ev E) fun o ho=>hh rfl o (zdL.2 ⟨x,by simp [AOp.opds],ho⟩);simp only[zr,he x (by simp [AOp.opds]),he k (by simp [AOp.opds]),this] at h ⊢;obtain⟨q,h1,h2⟩:=zabr.1 h
  cases h2
  rw[h1];rfl
 | mup x k y=>
  simp only[zr] at h;unfold zmT at h
  split at h
  ·rename_i o n y' hx hk hy
   split at h
   ·rename_i es hes
    cases h
    have hmem:o∈(AOp.mup x k y).foot E dst:=by
     simp only[AOp.foot,AOp.looks,if_true,zabS];exact .inl (zdL.2 ⟨x,by simp [AOp.opds],by rw[hx];simp [AV.objs]⟩)
    refine⟨[(o,.mp (zh0 n y' es))],rfl,?_,fun E2 H2 he hh _=> ?_⟩
    ·intro q ob hq;simp only[zab1,Prod.mk.injEq] at hq;rw[hq.1];simp [AOp.wr,hx,AV.objs]
    ·simp only[zr,he x (by simp [AOp.opds]),he k (by simp [AOp.opds]),he y (by simp [AOp.opds]),hx,hk,hy,zmT,hh o hmem,hes];simp [zak]
   ·cases h
  ·cases h
 | nileq ng x=>simp [zr] at h
 | call f ms xs=>simp [zr] at h
 | callv f ms xs=>simp [zr] at h
theorem zCB{o:Nat}{xs:List AV}:AV.refsL o xs=false↔∀x∈xs,x.refs o=false:=by
 induction xs with
 | nil=>simp [AV.refsL]
 | cons x xs ih=>simp [AV.refsL,ih]
theorem zafN{o:Nat}{x:AV}(h:x.refs o=false):∀y∈x.cells,y.refs o=false:=by
 cases x with
 | d y=>intro z hz;simp only[AV.cells,zaby] at hz;obtain⟨_,_,rfl⟩:=hz;rfl
 | agg cs=>intro z hz;exact AV.refsL_false hz h
 | _=>intro z hz;simp only[AV.cells,zab1] at hz;subst hz;exact h
theorem ztt{o:Nat}{cs:List AV}(h:∀y∈cs,y.refs o=false):(AV.mkAgg cs).refs o=false:=by
 unfold AV.mkAgg;split
 ·rfl
 ·simpa [AV.refs] using zCB.2 h
theorem z7n{o:Nat}{f:FuncId}{cs:List AV}(h:∀y∈cs,y.refs o=false):(AV.mkFn f cs).refs o=false:=by
 unfold AV.mkFn;split
 ·rfl
 ·simpa [AV.refs] using zCB.2 h
theorem zCC{o:Nat}{ag:Bool}{off n:Nat}{x v:AV}(h:x.refs o=false)(hp:zep ag off n x=some v):v.refs o=false:=by
 unfold zep at hp
 split at hp
 ·obtain⟨_,_,rfl⟩:=zabr.1 hp;rfl
 ·split at hp
  ·split at hp
   ·cases hp
    exact ztt fun y hy=>zafN h y (zadQ (zac8 hy))
   ·cases hp
  ·split at hp
   ·exact zafN h _ (zabK hp)
   ·cases hp
theorem zQk{o off:Nat}{x v r:AV}(hx:x.refs o=false)(hv:v.refs o=false)(h:zcM x off v=some r):r.refs o=false:=by
 unfold zcM at h
 split at h
 ·cases h;exact hv
 ·split at h
  ·cases h
   refine ztt fun y hy=> ?_;simp only[zfv,zabS] at hy
   rcases hy with (hy|hy)|hy
   ·exact zafN hx y (zac8 hy)
   ·exact zafN hv y hy
   ·exact zafN hx y (zadQ hy)
  ·cases h
theorem z7l{o:Nat}:∀ {ps:List (Nat×Nat×AV)} {z cs:List AV},(∀y∈z,y.refs o=false)->(∀p∈ps,p.2.2.refs o=false)->zbA z ps=some cs->∀y∈cs,y.refs o=false:=by
 intro ps
 induction ps with
 | nil=>intro z cs hz _ h;simp only[zbA,Option.some.injEq] at h;subst h;exact hz
 | cons p ps ih=>
  obtain⟨off,n,v⟩:=p;intro z cs hz hp h;simp only[zbA] at h
  split at h
  ·refine ih (fun y hy=> ?_) (fun p hp'=>hp p (.tail _ hp')) h;simp only[zfv,zabS] at hy
   rcases hy with (hy|hy)|hy
   ·exact hz y (zac8 hy)
   ·exact zafN (hp _ (.head _)) y hy
   ·exact hz y (zadQ hy)
  ·cases h
theorem zaaG{o:Nat}{v:AV}(h:v.refs o=false):(unX v).refs o=false:=by
 cases v with
 | agg cs=>
  simp only[unX];refine ztt fun x hx=> ?_;rw[znN] at hx;obtain⟨y,hy,rfl⟩:=zaby.1 hx;have:=AV.refsL_false hy h
  cases y<;>simp_all [zjo,AV.refs]
 | _=>simp_all [unX,AV.refs]
theorem z7m{o:Nat}:∀ {ps:List (Nat×AV)} {z cs:List AV},(∀y∈z,y.refs o=false)->(∀p∈ps,p.2.refs o=false)->zd8 z ps=some cs->∀y∈cs,y.refs o=false:=by
 intro ps
 induction ps with
 | nil=>intro z cs hz _ h;simp only[zd8,Option.some.injEq] at h;subst h;exact hz
 | cons p ps ih=>
  obtain⟨i,v⟩:=p;intro z cs hz hp h;simp only[zd8] at h
  split at h
  ·refine ih (fun y hy=> ?_) (fun p hp'=>hp p (.tail _ hp')) h
   rcases zac1 hy with hy|rfl
   ·exact hz y hy
   ·exact zaaG (hp _ (.head _))
  ·cases h
theorem zeW{o k:Nat}{ob:Obj}{H:zd}(h:zaq o H=false)(hob:ob.refs o=false):zaq o (zP k ob H)=false:=by
 simp only[zP,zaq,hob,zacH]
 induction H with
 | nil=>rfl
 | cons p H ih=>
  obtain⟨j,x⟩:=p;simp only[zaq,zacY] at h;simp only[zd0]
  split
  ·exact ih h.2
  ·simp [zaq,h.1,ih h.2]
theorem zts{o k:Nat}{ob:Obj}{H:zd}(h:zaq o H=false)(hk:look k H=some ob):ob.refs o=false:=zhd (zav hk) h
def AOp.clean(o:Nat):AOp->Prop
 | .alloc z=>z.refs o=false
 | .build z _=>∀y∈z,y.refs o=false
 | .bsl _ _ z _=>z.refs o=false
 | .mks _ z _ _=>z.refs o=false
 | _=>True
theorem zjg{o:Nat}{es:List AV}(h:∀e∈es,e.refs o=false):(Obj.row es).refs o=false:=zCB.2 h
theorem zDA{o:Nat}{E:Env}{H:zd}{dst n:Nat}{ys:List D}{x v:AV}{H':zd}(h:zcf E H dst n ys x=some (v,H'))(hx:x.refs o=false)(hH:zaq o H=false)(hd:o≠dst):
    v.refs o=false/\zaq o H'=false:=by
 unfold zcf at h
 split at h
 ·split at h
  ·split at h
   ·cases h;exact⟨rfl,hH⟩
   ·cases h
  split at h
  ·cases h;exact⟨by simpa [AV.refs] using Ne.symm hd,zeW hH rfl⟩
  ·cases h
 ·split at h
  ·split at h
   ·cases h;exact⟨by simpa [AV.refs] using hx,zeW hH rfl⟩
   ·cases h
  ·cases h
 ·cases h
theorem zub {o:Nat} {op:AOp} {E:Env} {H:zd} {dst:Nat} {v:AV} {H':zd} (h:zr E H dst op=some (v,H')) (ho:∀y∈op.opds,(y.ev E).refs o=false) (hH:zaq o H=false)
    (hc:op.clean o) (hd:op.news=true->o≠dst):v.refs o=false/\zaq o H'=false:=by
 cases op with
 | mv x=>simp only[zr,Option.some.injEq,Prod.mk.injEq] at h;obtain⟨rfl,rfl⟩:=h;exact⟨ho x (by simp [AOp.opds]),hH⟩
 | pick c a b=>
  simp only[zr] at h
  split at h
  ·cases h
   refine⟨?_,hH⟩
   split
   ·exact ho a (by simp [AOp.opds])
   ·exact ho b (by simp [AOp.opds])
  ·cases h
 | alloc z=>
  simp only[zr] at h
  split at h
  ·cases h;exact⟨by simpa [AV.refs] using Ne.symm (hd rfl),zeW hH (zjg (by simpa [AOp.clean] using hc))⟩
  ·cases h
 | box x=>
  simp only[zr] at h
  split at h
  ·cases h;exact⟨by simpa [AV.refs] using Ne.symm (hd rfl),zeW hH (zjg (by simpa [AOp.opds] using ho))⟩
  ·cases h
 | build z ps=>
  simp only[zr] at h;obtain⟨cs,h1,h2⟩:=zabr.1 h
  cases h2
  refine⟨ztt (z7l (by simpa [AOp.clean] using hc) ?_ h1),hH⟩;intro p hp;obtain⟨q,hq,rfl⟩:=zaby.1 hp;exact ho _ (zaby.2 ⟨q,hq,rfl⟩)
 | bsl len n z ps=>
  simp only[zr] at h
  split at h
  ·obtain⟨es,h1,h2⟩:=zabp.1 h;have hes:=z7m (o:=o) (by intro y hy;rw[zaee hy];simpa [AOp.clean] using hc) (by
    intro p hp;obtain⟨q,hq,rfl⟩:=zaby.1 hp;exact ho _ (zaby.2 ⟨q,hq,rfl⟩)) h1
   split at h2
   ·cases h2;exact⟨rfl,hH⟩
   ·split at h2
    ·cases h2;exact⟨by simpa [AV.refs] using Ne.symm (hd rfl),zeW hH (zjg hes)⟩
    ·cases h2
  ·cases h
 | ld ag n p=>
  simp only[zr] at h;obtain⟨q,h1,h2⟩:=zabr.1 h
  cases h2
  refine⟨?_,hH⟩;have hp:=ho p (by simp [AOp.opds]);unfold ldA at h1
  split at h1
  ·obtain⟨_,_,rfl⟩:=zabr.1 h1;rfl
  ·obtain⟨_,_,rfl⟩:=zabr.1 h1;rfl
  ·split at h1
   ·rename_i es hes;obtain⟨e,he,h1⟩:=zabp.1 h1;exact zCC (AV.refsL_false (zabK he) (zts hH hes)) h1
   ·cases h1
  ·cases h1
 | st n p x=>
  simp only[zr] at h
  split at h
  ·split at h
   ·split at h
    ·rename_i es hes;obtain⟨e,h1,h2⟩:=zabp.1 h;obtain⟨e',h3,h4⟩:=zabr.1 h2
     cases h4
     refine⟨rfl,zeW hH (zjg fun y hy=> ?_)⟩;have hrow:=zts hH hes
     rcases zac1 hy with hy|rfl
     ·exact AV.refsL_false hy hrow
     ·exact zQk (AV.refsL_false (zabK h1) hrow) (ho x (by simp [AOp.opds])) h3
    ·cases h
   ·cases h
  ·cases h
 | clr n x=>cases h
 | app n x y=>
  simp only[zr] at h;obtain⟨ys,h1,h2⟩:=zabp.1 h;exact zDA h2 (ho x (by simp [AOp.opds])) hH (hd rfl)
 | apps x y=>cases h
 | mks n z l c=>
  simp only[zr] at h
  split at h
  ·split at h
   ·cases h;exact⟨by simpa [AV.refs] using Ne.symm (hd rfl),zeW hH (zjg fun y hy=>by rw[zaee hy];simpa [AOp.clean] using hc)⟩
   ·cases h
  ·cases h
 | mkfn f cs=>
  simp only[zr,Option.some.injEq,Prod.mk.injEq] at h;obtain⟨rfl,rfl⟩:=h;refine⟨z7n fun y hy=> ?_,hH⟩;obtain⟨q,hq,rfl⟩:=zaby.1 hy;exact ho q hq
 | nileq ng x=>simp [zr] at h
 | call f ms xs=>simp [zr] at h
 | callv f ms xs=>simp [zr] at h
 | nacc=>
  simp only[zr] at h
  split at h
  ·cases h;exact⟨by simpa [AV.refs] using Ne.symm (hd rfl),zeW hH rfl⟩
  ·cases h
 | nilc x=>
  have hx:=ho x (by simp [AOp.opds]);revert h;simp only[zr];generalize x.ev E=q at hx;intro h
  split at h<;>cases h<;>first|exact⟨rfl,hH⟩|exact⟨by simpa [AV.refs] using hx,hH⟩
 | ext x i=>
  have hx:=ho x (by simp [AOp.opds]);revert h;simp only[zr];generalize x.ev E=q at hx;intro h
  split at h
  ·obtain⟨_,_,h2⟩:=zabr.1 h;cases h2;exact⟨rfl,hH⟩
  ·obtain⟨u,h1,h2⟩:=zabr.1 h;cases h2;exact⟨AV.refsL_false (zabK h1) hx,hH⟩
  ·cases h
 | fad ag off n x=>
  have hx:=ho x (by simp [AOp.opds]);simp only[zr] at h;obtain⟨q,h1,h2⟩:=zabr.1 h
  cases h2
  refine⟨?_,hH⟩;revert h1 hx;generalize x.ev E=q;intro hx h1;unfold zd6 at h1
  split at h1
  ·cases h1;exact hx
  ·obtain⟨_,_,rfl⟩:=zabr.1 h1;rfl
  ·obtain⟨_,_,rfl⟩:=zabr.1 h1;exact hx
  ·cases h1
 | iada ag len n x i=>cases h
 | idxa ag len n x i=>
  have hx:=ho x (by simp [AOp.opds]);simp only[zr] at h;obtain⟨k,_,h⟩:=zabp.1 h
  split at h
  ·obtain⟨q,h1,h2⟩:=zabr.1 h
   cases h2
   refine⟨?_,hH⟩;revert h1 hx;generalize x.ev E=q;intro hx h1;unfold zrv at h1
   split at h1
   ·obtain⟨_,_,rfl⟩:=zabr.1 h1;rfl
   ·exact zCC hx h1
   ·cases h1
  ·cases h
 | fld ag off n x=>
  have hx:=ho x (by simp [AOp.opds]);revert h;simp only[zr];generalize x.ev E=q at hx;intro h
  split at h
  ·obtain⟨_,_,h2⟩:=zabr.1 h;cases h2;exact⟨rfl,hH⟩
  ·obtain⟨_,h1,h2⟩:=zabr.1 h;cases h2;exact⟨zCC hx h1,hH⟩
  ·cases h
 | iad n x i=>
  have hx:=ho x (by simp [AOp.opds]);simp only[zr] at h;obtain⟨k,_,h⟩:=zabp.1 h
  split at h
  ·obtain⟨q,h1,h2⟩:=zabr.1 h
   cases h2
   refine⟨?_,hH⟩;revert h1 hx;generalize x.ev E=q;intro hx h1;unfold zcH at h1
   split at h1
   ·split at h1
    ·split at h1
     ·obtain⟨e,_,h1⟩:=zabp.1 h1
      split at h1
      ·cases h1;exact hx
      ·cases h1
     ·cases h1
    ·cases h1
   all_goals first|cases h1;done|skip
   all_goals
    obtain⟨e,_,h1⟩:=zabp.1 h1
    split at h1
    ·cases h1;first|rfl|exact hx
    ·cases h1
  ·cases h
 | slc n x lo hi mx=>
  have hx:=ho x (by simp [AOp.opds]);simp only[zr] at h;obtain⟨q,h1,h2⟩:=zabr.1 h
  cases h2
  refine⟨?_,hH⟩;revert h1 hx;generalize x.ev E=q;intro hx h1
  cases q with
  | d y=>cases y<;>simp only[zcj] at h1<;>first|cases h1;done|(revert h1;(repeat' split)<;>intro h1<;>simp [zabp] at h1<;>grind [AV.refs])
  | osl o' off len=>simp only[zcj] at h1;revert h1;(repeat' split)<;>intro h1<;>simp [zabp] at h1<;>grind [AV.refs]
  | acc o' es=>simp only[zcj] at h1;revert h1;(repeat' split)<;>intro h1<;>simp [zabp] at h1<;>grind [AV.refs]
  | xsl es=>simp only[zcj] at h1;revert h1;(repeat' split)<;>intro h1<;>simp [zabp] at h1<;>grind [AV.refs]
  | _=>simp [zcj] at h1
 | mm mx xs=>
  simp only[zr] at h
  split at h
  ·cases h
  ·rename_i y ys hys;obtain⟨q,h1,h2⟩:=zabr.1 h
   cases h2
   refine⟨?_,hH⟩;have hy:y.refs o=false:=by
    cases xs with
    | nil=>cases hys
    | cons a l=>simp only[zabs,List.cons.injEq] at hys;rw[<- hys.1];exact ho a (.head _)
   clear hys ho h
   induction ys generalizing y with
   | nil=>simp only[mmD,Option.some.injEq] at h1;subst h1;exact hy
   | cons z zs ih=>
    unfold mmD at h1
    split at h1
    ·cases h1;exact hy
    ·rename_i heq
     cases heq
     split at h1
     ·exact ih _ h1 rfl
     ·cases h1
    ·cases h1
 | atl p=>cases h
 | ats p x=>cases h
 | atc p x y=>cases h
 | mkm=>
  simp only[zr] at h
  split at h
  ·cases h;exact⟨by simpa [AV.refs] using Ne.symm (hd rfl),zeW hH rfl⟩
  ·cases h
 | lkp ok z x k=>
  simp only[zr] at h;obtain⟨q,h1,h2⟩:=zabr.1 h
  cases h2
  refine⟨?_,hH⟩;unfold zky at h1
  split at h1
  ·split at h1
   ·cases h1;rfl
   ·cases h1
  ·cases h1
 | mup x k y=>
  simp only[zr] at h;unfold zmT at h
  split at h
  ·split at h
   ·cases h;exact⟨rfl,zeW hH rfl⟩
   ·cases h
  ·cases h
 | _=>
  revert h;simp only[zr]
  (repeat' split)<;>intro h<;>simp [zabr,zabp] at h<;>grind [AV.refs]
end Go.Sim

namespace Go.Sim
open Go (World Value Addr TypeId Act)
variable {P:Program}
mutual
def D.ok:D->Prop
 | .int k n=>k.has n
 | .bool _=>True
 | .str s=>s.length<=LIM
 | .agg cs=>D.okL cs
 | .tup vs=>D.okL vs
 | .sl es=>es.length<=LIM/\D.okL es
 | .pd x=>D.ok x
 | .fn _ cs=>D.okL cs
 | .nil=>True
def D.okL:List D->Prop
 | []=>True
 | x::xs=>D.ok x/\D.okL xs
end
theorem D.okL_iff{xs:List D}:D.okL xs↔∀x∈xs,x.ok:=by
 induction xs with
 | nil=>simp [D.okL]
 | cons x xs ih=>simp [D.okL,ih]
theorem zm0{xs:List D}(h:∀(i:Nat) (x:D),xs[i]? = some x->x.ok):D.okL xs:=D.okL_iff.2 fun x hx=>by
 obtain⟨i,hi⟩:=zab6 hx;exact h i x hi
def It.ok:It->Prop
 | .v x _=>x.ok
 | .el x _ _=>x.ok
theorem Rd.ok{w:World}{R:Nat->Prop}{it:It}(h:Rd w R it):it.ok:=by
 induction h with
 | int h=>exact h
 | bool=>trivial
 | str h=>exact h
 | @agg cs vs hl hc _ ih=>
  refine zm0 fun i x hi=> ?_;have hlt:=(zabB.1 hi).1;exact ih i x (vs[i]'(by omega)) hi (zabx _)
 | @tup cs vs hl _ ih=>
  refine zm0 fun i x hi=> ?_;have hlt:=(zabB.1 hi).1;exact ih i x (vs[i]'(by omega)) hi (zabx _)
 | sl0=>exact⟨by simp,trivial⟩
 | sl _ _ _ hl _ _ _ ih=>exact⟨hl,zm0 fun i x hi=>ih i x hi⟩
 | pd _ _ ih=>exact ih
 | @fn f cs vs hl _ ih=>
  refine zm0 fun i x hi=> ?_;have hlt:=(zabB.1 hi).1;exact ih i x (vs[i]'(by omega)) hi (zabx _)
 | nil=>trivial
 | elagg _ _ ih=>exact zm0 fun i x hi=>ih i x hi
 | elc _ _ _ ih=>exact ih
theorem D.flatL_mem{x:D}{xs:List D}(h:D.flatL xs=true)(hx:x∈xs):x.flat=true:=by
 induction xs with
 | nil=>cases hx
 | cons y ys ih=>
  simp only[D.flatL,zabH] at h
  cases hx with
  | head=>exact h.1
  | tail _ hx=>exact ih h.2 hx
theorem Rd.of_flat{w w':World}{R R':Nat->Prop}{it:It}(h:Rd w R it):∀ {x:D} {u:Value},it= .v x u->x.flat=true->Rd w' R' (.v x u):=by
 induction h with
 | int h=>intro x u e _;cases e;exact .int h
 | bool=>intro x u e _;cases e;exact .bool
 | str h=>intro x u e _;cases e;exact .str h
 | agg hl hc _ ih=>intro x u e hf;cases e;exact .agg hl hc fun i c q h1 h2=>ih i c q h1 h2 rfl (D.flatL_mem hf (zabK h1))
 | tup hl _ ih=>intro x u e hf;cases e;exact .tup hl fun i c q h1 h2=>ih i c q h1 h2 rfl (D.flatL_mem hf (zabK h1))
 | fn hl _ ih=>intro x u e hf;cases e;exact .fn hl fun i c q h1 h2=>ih i c q h1 h2 rfl (D.flatL_mem hf (zabK h1))
 | nil h=>intro x u e _;cases e;exact .nil h
 | sl0=>intro x u e hf;cases e;cases hf
 | sl=>intro x u e hf;cases e;cases hf
 | pd=>intro x u e hf;cases e;cases hf
 | elagg=>intro x u e;cases e
 | elc=>intro x u e;cases e
mutual
def AV.ren(ρ:Nat->Nat):AV->AV
 | .ref o i off=> .ref (ρ o) i off
 | .osl o off len=> .osl (ρ o) off len
 | .acc o es=> .acc (ρ o) es
 | .pe o x=> .pe (ρ o) x
 | .agg cs=> .agg (AV.renL ρ cs)
 | .tup cs=> .tup (AV.renL ρ cs)
 | .fn f cs=> .fn f (AV.renL ρ cs)
 | .d x=> .d x
 | .xsl es=> .xsl es
 | .nl b=> .nl b
 | .mpr o=> .mpr (ρ o)
 | .undef=> .undef
def AV.renL(ρ:Nat->Nat):List AV->List AV
 | []=>[]
 | x::xs=>AV.ren ρ x::AV.renL ρ xs
end
theorem zno{ρ:Nat->Nat}{xs:List AV}:AV.renL ρ xs=xs.map (AV.ren ρ):=by
 induction xs with
 | nil=>rfl
 | cons x xs ih=>simp [AV.renL,ih]
theorem zQn{ρ:Nat->Nat}{x:AV}(h:x.cell=true):(x.ren ρ).cell=true:=by
 cases x<;>simp_all [AV.ren,AV.cell]
theorem VA.ren{w:World}{R:Nat->Prop}{ι ι':Inj}{mk mk':Nat->Option Nat}{ρ:Nat->Nat}{x:AV}{u:Value}(h:VA w R ι mk x u):
    (∀o,x.refs o=true->(∀p,ι o=some p->ι' (ρ o)=some p)/\mk' (ρ o)=mk o)->VA w R ι' mk' (x.ren ρ) u:=by
 induction h with
 | d h=>intro _;exact .d h
 | @ref o _ _ _ _ h hmk=>intro hp;have:=hp o (by simp [AV.refs]);exact .ref (this.1 _ h) (this.2.trans hmk)
 | @osl o _ _ _ _ _ _ _ h hmk hb hl hc hL=>intro hp;have:=hp o (by simp [AV.refs]);exact .osl (this.1 _ h) (this.2.trans hmk) hb hl hc hL
 | osl0=>intro _;exact .osl0
 | @accR o _ _ _ _ _ hr hs' hL hl hsz h hm=>intro hp;have:=hp o (by simp [AV.refs]);exact .accR hr hs' hL hl hsz h (by rw[this.2];exact hm)
 | @accC o b s m cap es c T hι hmk hm hL hl hsz hb hc h=>intro hp;have:=hp o (by simp [AV.refs]);exact .accC (this.1 _ hι) (this.2.trans hmk) hm hL hl hsz hb hc h
 | acc0=>intro _;exact .acc0
 | peR hr h=>intro _;exact .peR hr h
 | @peC o b s m off x c T hι hmk hb hoff h=>intro hp;have:=hp o (by simp [AV.refs]);exact .peC (this.1 _ hι) (this.2.trans hmk) hb hoff h
 | xsl h=>intro _;exact .xsl h
 | agg hl hc _ ih=>
  intro hp;simp only[AV.ren,zno];refine .agg (by simpa using hl) (fun c hm=> ?_) fun i c u h1 h2=> ?_
  ·obtain⟨y,hy,rfl⟩:=zaby.1 hm;exact zQn (hc y hy)
  ·rw[zabI] at h1;obtain⟨y,hy,rfl⟩:=zabr.1 h1;exact ih i y u hy h2 fun o ho=>hp o (AV.refsL_mem (zabK hy) ho)
 | tup hl _ ih=>
  intro hp;simp only[AV.ren,zno];refine .tup (by simpa using hl) fun i c u h1 h2=> ?_;rw[zabI] at h1;obtain⟨y,hy,rfl⟩:=zabr.1 h1;exact ih i y u hy h2 fun o ho=>hp o (AV.refsL_mem (zabK hy) ho)
 | fn hl _ ih=>
  intro hp;simp only[AV.ren,zno];refine .fn (by simpa using hl) fun i c u h1 h2=> ?_;rw[zabI] at h1;obtain⟨y,hy,rfl⟩:=zabr.1 h1;exact ih i y u hy h2 fun o ho=>hp o (AV.refsL_mem (zabK hy) ho)
 | nl1=>intro _;exact .nl1
 | nl2=>intro _;exact .nl2
 | @mpr o _ _ h hmk=>intro hp;have:=hp o (by simp [AV.refs]);exact .mpr (this.1 _ h) (this.2.trans hmk)
 | undef=>intro _;exact .undef
def Obj.ren(ρ:Nat->Nat):Obj->Obj
 | .row es=> .row (es.map (AV.ren ρ))
 | .acc n=> .acc n
 | .frz m=> .frz m
 | .mp es=> .mp es
theorem z7t{ρ:Nat->Nat}{x:AV}:(x.ren ρ).cells=x.cells.map (AV.ren ρ):=by
 cases x<;>simp [AV.ren,AV.cells,zno]
theorem z7v{ρ:Nat->Nat}{x:AV}:(x.ren ρ).size=x.size:=by
 cases x<;>simp [AV.ren,AV.size,zno]
theorem OB.ren {w:World} {R:Nat->Prop} {ι ι':Inj} {mk mk':Nat->Option Nat} {ρ:Nat->Nat} {o:Nat} {ob:Obj} (h:OB w R ι mk o ob) (ho:ι' (ρ o)=ι o)
    (hp:∀q,ob.refs q=true->(∀p,ι q=some p->ι' (ρ q)=some p)/\mk' (ρ q)=mk q):OB w R ι' mk' (ρ o) (ob.ren ρ):=by
 cases h with
 | @row es b s c T h1 h2 h3 h4 h5 h6 h7=>
  refine .row (ho.trans h1) h2 h3 h4 (fun e he=> ?_) (by simpa using h6) fun i e hi j x hx=> ?_
  ·obtain⟨y,hy,rfl⟩:=zaby.1 he;rw[z7v];exact h5 y hy
  ·rw[zabI] at hi;obtain⟨y,hy,rfl⟩:=zabr.1 hi;rw[z7t,zabI] at hx;obtain⟨z,hz,rfl⟩:=zabr.1 hx;obtain⟨k1,q,k2,k3⟩:=h7 i y hy j z hz;refine⟨zQn k1,q,k2,k3.ren fun q hq=>hp q ?_⟩;exact AV.refsL_mem (zabK hy) (AV.cells_refs hz hq)
 | acc h1 h2 h3 h4 h5 h6=>exact .acc h1 (ho.trans h2) h3 h4 h5 h6
 | accN h1=>exact .accN (ho.trans h1)
 | frz h=>exact .frz fun b s hb=>h b s (by rwa [ho] at hb)
 | mp h1 h2 h3 h4 h5 h6=>exact .mp (ho.trans h1) h2 h3 h4 h5 h6
mutual
def AV.flat:AV->Bool
 | .d x=>x.flat
 | .agg cs=>AV.flatL cs
 | .tup cs=>AV.flatL cs
 | .fn _ cs=>AV.flatL cs
 | .xsl es=>es.isEmpty
 | .acc _ _=>false
 | .pe _ _=>false
 | .ref _ _ _=>true
 | .osl _ _ _=>true
 | .nl _=>true
 | .mpr _=>true
 | .undef=>true
def AV.flatL:List AV->Bool
 | []=>true
 | x::xs=>AV.flat x&&AV.flatL xs
end
theorem AV.flatL_mem{x:AV}{xs:List AV}(h:AV.flatL xs=true)(hx:x∈xs):x.flat=true:=by
 induction xs with
 | nil=>cases hx
 | cons y ys ih=>
  simp only[AV.flatL,zabH] at h
  cases hx with
  | head=>exact h.1
  | tail _ hx=>exact ih h.2 hx
theorem VA.of_flat{w:World}{R R':Nat->Prop}{ι:Inj}{mk:Nat->Option Nat}{x:AV}{u:Value}(h:VA w R ι mk x u):x.flat=true->VA w R' ι mk x u:=by
 induction h with
 | d h=>intro hf;exact .d (h.of_flat rfl hf)
 | ref h hmk=>intro _;exact .ref h hmk
 | osl h hmk hb hl hc hL=>intro _;exact .osl h hmk hb hl hc hL
 | osl0=>intro _;exact .osl0
 | accR=>intro hf;cases hf
 | accC=>intro hf;cases hf
 | acc0=>intro hf;cases hf
 | peR=>intro hf;cases hf
 | peC=>intro hf;cases hf
 | @xsl es a n h=>
  intro hf;simp only[AV.flat,zadJ] at hf;subst hf
  cases h with
  | sl0=>exact .xsl .sl0
  | sl _ h0=>exact absurd rfl h0
 | agg hl hc _ ih=>intro hf;exact .agg hl hc fun i c u h1 h2=>ih i c u h1 h2 (AV.flatL_mem hf (zabK h1))
 | tup hl _ ih=>intro hf;exact .tup hl fun i c u h1 h2=>ih i c u h1 h2 (AV.flatL_mem hf (zabK h1))
 | fn hl _ ih=>intro hf;exact .fn hl fun i c u h1 h2=>ih i c u h1 h2 (AV.flatL_mem hf (zabK h1))
 | nl1=>intro _;exact .nl1
 | nl2=>intro _;exact .nl2
 | mpr h hmk=>intro _;exact .mpr h hmk
 | undef=>intro _;exact .undef
theorem VA.toR{w:World}{R R':Nat->Prop}{ι:Inj}{mk:Nat->Option Nat}{x:AV}{u:Value}(h:VA w R ι mk x u)(hR:(∀b,R b->R' b)\/x.flat=true):VA w R' ι mk x u:=by
 rcases hR with hR|hR
 ·exact h.mono hR (fun _ _=>rfl) fun o _=>Step.same fun _ _ _=>rfl
 ·exact h.of_flat hR
theorem zWf{e x:AV}{j:Nat}(he:e.flat=true)(hx:e.cells[j]? = some x):x.flat=true:=by
 cases e with
 | agg cs=>exact AV.flatL_mem he (zabK hx)
 | d y=>
  simp only[AV.cells,zabI] at hx;obtain⟨z,hz,rfl⟩:=zabr.1 hx
  cases y with
  | agg cs=>exact D.flatL_mem he (zabK hz)
  | _=>
   simp only[D.cells] at hz
   match j,hz with
   | 0,hz=>simp at hz;subst hz;exact he
   | n+1,hz=>simp at hz
 | _=>
  simp only[AV.cells] at hx
  match j,hx with
  | 0,hx=>simp at hx;subst hx;exact he
  | n+1,hx=>simp at hx
def Obj.flat:Obj->Bool
 | .row es=>AV.flatL es
 | .acc _=>true
 | .frz _=>false
 | .mp _=>false
theorem OB.toR{w:World}{R R':Nat->Prop}{ι:Inj}{mk:Nat->Option Nat}{o:Nat}{ob:Obj}(h:OB w R ι mk o ob)(hR:(∀b,R b->R' b)\/ob.flat=true)(hno:∀b,R' b->R b):OB w R' ι mk o ob:=by
 cases h with
 | row h1 h2 h3 h4 h5 h6 h7=>
  refine .row h1 (fun k=>h2 (hno _ k)) h3 h4 h5 h6 fun i e hi j x hx=> ?_;obtain⟨k1,q,k2,k3⟩:=h7 i e hi j x hx;refine⟨k1,q,k2,k3.toR (hR.imp id fun hf=> ?_)⟩;exact zWf (AV.flatL_mem hf (zabK hi)) hx
 | acc h1 h2 h3 h4 h5 h6=>exact .acc h1 h2 (fun k=>h3 (hno _ k)) h4 h5 h6
 | accN h1=>exact .accN h1
 | frz h=>
  rcases hR with hR|hf
  ·exact .frz fun b s hb=>⟨hR _ (h b s hb).1,(h b s hb).2⟩
  ·cases hf
 | mp h1 h2 h3 h4 h5 h6=>
  rcases hR with hR|hf
  ·exact .mp h1 (fun k=>h2 (hno _ k)) h3 h4 h5 fun i k x hi=>let ⟨e,k1,k2,k3⟩:=h6 i k x hi;⟨e,k1,k2,k3.mono_v hR fun _ _=>rfl⟩
  ·cases hf
end Go.Sim

namespace Go.Sim
open Go (World Value Addr TypeId Act)
variable {P:Program}
abbrev zaU:=FuncId->List AV->zd->Option (AV×zd)
def zbJ(H:zd):List Bool->List AV->Option (List AV)
 | _,[]=>some []
 | [],x::xs=>(toD H x).bind fun d=>(zbJ H [] xs).map (.d d:: ·)
 | true::ms,x::xs=>(zbJ H ms xs).map (x:: ·)
 | false::ms,x::xs=>(toD H x).bind fun d=>(zbJ H ms xs).map (.d d:: ·)
def zaz:List Bool->List AV->List Nat
 | _,[]=>[]
 | [],x::xs=>x.objs++zaz [] xs
 | true::ms,_::xs=>zaz ms xs
 | false::ms,x::xs=>x.objs++zaz ms xs
def zch:List Bool->List AV->List Nat
 | _,[]=>[]
 | [],_::_=>[]
 | true::ms,x::xs=>x.objs++zch ms xs
 | false::ms,_::xs=>zch ms xs
def zcT(ns:List Nat):List Nat->List Nat
 | []=>ns
 | x::xs=>if ns.contains x then zcT ns xs else zcT (ns++[x]) xs
def zk5(H:zd)(o:Nat):List Nat:=match look o H with|some (.row es)=>AV.objsL es|_=>[]
def zfm(H:zd)(ns:List Nat):List Nat:=zcT ns (ns.flatMap (zk5 H))
def zbF(H:zd)(ms:List Bool)(args:List AV):List Nat:=zfm H (zfm H (zcT [] (zch ms args)))
def zkM(H:zd)(ns:List Nat):Bool:=ns.all fun o=>match look o H with|some (.row es)=>(AV.objsL es).all ns.contains|_=>false
def pos(o:Nat):List Nat->Nat
 | []=>0
 | x::xs=>if x=o then 0 else pos o xs+1
def zaR(ns:List Nat)(o:Nat):Nat:=1000000+pos o ns
def zdY(ns:List Nat)(dst:Nat)(n:Nat):Nat:=if n<1000000 then dst+10000 * n else ns.getD (n - 1000000) 0
def zbY(H:zd)(ns:List Nat):zd:=ns.map fun o=>(zaR ns o,((look o H).getD (.acc 0)).ren (zaR ns))
def zme(E:Env)(H:zd)(dst:Nat)(ns:List Nat)(os:zd):Bool:=
 os.all fun p=>decide (1000000<=p.1)||(!zaX (dst+10000 * p.1) E&& !zaq (dst+10000 * p.1) H&& !ns.contains (dst+10000 * p.1))
def zj9(p:AV×zd):Bool:=p.1.flat&&p.2.all fun q=>q.2.flat
def zhC(a b:List Nat):Bool:=a.all fun o=> !b.contains o
def zc4(ρ:Nat->Nat)(os:zd):zd:=os.map fun p=>(ρ p.1,p.2.ren ρ)
def zeI(E:Env)(H:zd)(dst:Nat)(ns dob:List Nat)(p:AV×zd):Option (AV×zd):=
 if (zme E H dst ns p.2&&(dob.isEmpty||zj9 p))=true then some (p.1.ren (zdY ns dst),zc4 (zdY ns dst) p.2) else none
def zfJ(F:zaU)(E:Env)(H:zd)(dst:Nat)(ns dob:List Nat)(f:FuncId)(zabm:List AV):Option (AV×zd):=
 if (zkM H ns&&zhC dob ns)=true then (F f (zabm.map (AV.ren (zaR ns))) (zbY H ns)).bind (zeI E H dst ns dob) else none
def zcu(F:zaU)(E:Env)(H:zd)(dst:Nat)(ms:List Bool)(f:FuncId)(args:List AV):Option (AV×zd):=
 (zbJ H ms args).bind (zfJ F E H dst (zbF H ms args) (zaz ms args) f)
def zmf(ms:List Bool)(n:Nat):Bool:=(ms.drop n).headD false
def zbn(H:zd)(os:List Nat):zd:=os.map fun o=>(o,.frz (mark H o))
def zgj(H:zd)(os:List Nat):Bool:=os.all fun o=>(look o H).isSome
def zgi(F:zaU)(E:Env)(H:zd)(dst:Nat)(ms:List Bool)(f:FuncId)(dob:List Nat)(zabm:List AV):Option (AV×zd):=
 if zgj H dob=true then (zcu F E (zak (zbn H dob) H) dst ms f zabm).map fun p=>(p.1,p.2++zbn H dob) else none
def zbr(F:zaU)(E:Env)(H:zd)(dst:Nat)(ms:List Bool)(f:FuncId)(args:List AV):Option (AV×zd):=
 if zmf ms args.length=true then (zbJ H ms args).bind (zgi F E H dst ms f (zaz ms args)) else zcu F E H dst ms f args
structure WF(k:Nat)(r:AV)(os:zd):Prop where
 names:∀n,(look n os).isSome=true->n<4\/(1000000<=n/\n<1000000+k)
 keep:∀i,i<k->(∃es,look (1000000+i) os=some (.row es))\/look (1000000+i) os=some (.frz none)
 res:∀q,r.refs q=true->(look q os).isSome=true
 resH:∀n ob,(n,ob)∈os->∀q,ob.refs q=true->(look q os).isSome=true
def FOK(P:Program)(F:zaU):Prop:=∀f args os r os',F f args os=some (r,os')->(∀p∈os,∃es,p.2= .row es)->(∀i p,os[i]? = some p->p.1=1000000+i)->zeJ P f=true/\GF P f args os r os'/\WF os.length r os'
theorem zt3:∀(xs ns:List Nat),ns.Nodup->(zcT ns xs).Nodup:=by
 intro xs
 induction xs with
 | nil=>intro ns h;exact h
 | cons x xs ih=>
  intro ns h;simp only[zcT]
  split
  ·exact ih ns h
  ·rename_i hx;refine ih _ (zac6.2 ⟨h,by simp,?_⟩);rintro a ha b hb rfl;simp at hb;subst hb;simp at hx;exact hx ha
theorem zfG:∀(xs ns:List Nat) {o:Nat},o∈ns->o∈zcT ns xs:=by
 intro xs
 induction xs with
 | nil=>intro ns o h;exact h
 | cons x xs ih=>
  intro ns o h;simp only[zcT]
  split
  ·exact ih ns h
  ·exact ih _ (by simp [h])
theorem zDt:∀(xs ns:List Nat) {o:Nat},o∈xs->o∈zcT ns xs:=by
 intro xs
 induction xs with
 | nil=>intro ns o h;cases h
 | cons x xs ih=>
  intro ns o h;simp only[zcT]
  cases h with
  | head=>
   split
   ·rename_i hx;exact zfG xs ns (by simpa using hx)
   ·exact zfG xs _ (by simp)
  | tail _ h=>
   split
   ·exact ih _ h
   ·exact ih _ h
theorem zsQ(H:zd)(ms:List Bool)(args:List AV):(zbF H ms args).Nodup:=zt3 _ _ (zt3 _ _ (zt3 _ _ zad7))
theorem zZW{H:zd}{ms:List Bool}{args:List AV}{o:Nat}(h:o∈zch ms args):o∈zbF H ms args:=zfG _ _ (zfG _ _ (zDt _ _ h))
theorem zm7{o:Nat}:∀ {ns:List Nat},o∈ns->ns[pos o ns]? = some o:=by
 intro ns
 induction ns with
 | nil=>intro h;cases h
 | cons x xs ih=>
  intro h;simp only[pos]
  split
  ·rename_i e;subst e;rfl
  ·rename_i e
   cases h with
   | head=>exact absurd rfl e
   | tail _ h=>simpa using ih h
theorem zgs{o:Nat}{ns:List Nat}(h:o∈ns):pos o ns<ns.length:=(zabB.1 (zm7 h)).1
theorem zMZ{ns:List Nat}(hn:ns.Nodup){i:Nat}{o:Nat}(h:ns[i]? = some o):pos o ns=i:=by
 have h1:=zm7 (zabK h);have hi:=(zabB.1 h).1;have hp:=(zabB.1 h1).1;have e1:=(zabB.1 h).2;have e2:=(zabB.1 h1).2;exact (List.getElem_inj hn).1 (e2.trans e1.symm)
theorem zC1{ns:List Nat}{dst o:Nat}(h:o∈ns):zdY ns dst (zaR ns o)=o:=by
 have h0:¬zaR ns o<1000000:=by simp [zaR]
 unfold zdY;rw[zabn h0];simp [zaR,zab0,zm7 h]
theorem zsT{H:zd}{ns:List Nat}(hn:ns.Nodup)(i:Nat)(p:Nat×Obj)(h:(zbY H ns)[i]? = some p):p.1=1000000+i/\∃o,ns[i]? = some o/\p.2=((look o H).getD (.acc 0)).ren (zaR ns):=by
 simp only[zbY,zabI] at h;obtain⟨o,ho,rfl⟩:=zabr.1 h;exact⟨by simp [zaR,zMZ hn ho],o,ho,rfl⟩
theorem zsf{α:Type}{k:Nat}{x:α}{l:List (Nat×α)}(h:(k,x)∈l):(look k l).isSome=true:=by
 obtain⟨y,hy⟩:=zZg h;simp [hy]
theorem zZh{H:zd}{ns:List Nat}{o:Nat}(h:o∈ns):look (zaR ns o) (zbY H ns)=some (((look o H).getD (.acc 0)).ren (zaR ns)):=by
 have key:∀(l:List Nat),(∀x∈l,x∈ns)->o∈l->look (zaR ns o) (l.map fun o=>(zaR ns o,((look o H).getD (.acc 0)).ren (zaR ns)))=some (((look o H).getD (.acc 0)).ren (zaR ns)):=by
  intro l
  induction l with
  | nil=>intro _ h;cases h
  | cons x l ih=>
   intro hs ho;simp only[zabs,look]
   by_cases e:zaR ns x=zaR ns o
   ·have hx:x=o:=by
       have h1:=zC1 (dst:=0) (hs x (.head _));rw[e,zC1 h] at h1;exact h1.symm
    subst hx;simp
   ·rw[zabn e];refine ih (fun y hy=>hs y (.tail _ hy)) ?_
    cases ho with
    | head=>exact absurd rfl e
    | tail _ ho=>exact ho
 exact key ns (fun _ h=>h) h
theorem zsP{H:zd}{ns:List Nat}{n:Nat}{ob:Obj}(h:(n,ob)∈zbY H ns):∃o∈ns,n=zaR ns o/\ob=((look o H).getD (.acc 0)).ren (zaR ns):=by
 simp only[zbY,zaby] at h;obtain⟨o,ho,he⟩:=h
 cases he
 exact⟨o,ho,rfl,rfl⟩
theorem ztr{x:AV}{o:Nat}(h:o∈x.objs):x.refs o=true:=by
 have key:∀x:AV,∀o,o∈x.objs->x.refs o=true:=by
  intro x;refine AV.rec (motive_1:=fun x=>∀o,o∈x.objs->x.refs o=true) (motive_2:=fun xs=>∀o,o∈AV.objsL xs->AV.refsL o xs=true) ?_ ?_ ?_ ?_ ?_ ?_ ?_ ?_ ?_ ?_ ?_ ?_ ?_ ?_ x
  all_goals (intros;simp_all [AV.objs,AV.objsL,AV.refs,AV.refsL])
  rename_i h1 h2 o h
  rcases h with h|h
  ·exact .inl (h1 _ h)
  ·exact .inr (h2 _ h)
 exact key x o h
mutual
theorem ztu:∀(x:AV) (o:Nat),x.refs o=true->o∈x.objs
 | .d _,_,h=>by simp [AV.refs] at h
 | .ref p _ _,o,h=>by simp [AV.refs] at h;simp [AV.objs,h]
 | .osl p _ _,o,h=>by simp [AV.refs] at h;simp [AV.objs,h]
 | .acc p _,o,h=>by simp [AV.refs] at h;simp [AV.objs,h]
 | .pe p _,o,h=>by simp [AV.refs] at h;simp [AV.objs,h]
 | .xsl _,_,h=>by simp [AV.refs] at h
 | .agg cs,o,h=>by simp only[AV.refs] at h;simp only[AV.objs];exact zjf cs o h
 | .tup cs,o,h=>by simp only[AV.refs] at h;simp only[AV.objs];exact zjf cs o h
 | .fn _ cs,o,h=>by simp only[AV.refs] at h;simp only[AV.objs];exact zjf cs o h
 | .nl _,_,h=>by simp [AV.refs] at h
 | .mpr p,o,h=>by simp [AV.refs] at h;simp [AV.objs,h]
 | .undef,_,h=>by simp [AV.refs] at h
theorem zjf:∀(xs:List AV) (o:Nat),AV.refsL o xs=true->o∈AV.objsL xs
 | [],_,h=>by simp [AV.refsL] at h
 | x::xs,o,h=>by
  simp only[AV.refsL,zacj] at h;simp only[AV.objsL,zabS]
  rcases h with h|h
  ·exact .inl (ztu x o h)
  ·exact .inr (zjf xs o h)
end
theorem zGx{H:zd}:∀ {ms:List Bool} {xs zabm:List AV},zbJ H ms xs=some zabm->zabm.length=xs.length/\∀(i:Nat) (x y:AV),xs[i]? = some x->zabm[i]? = some y->
    (y=x/\∀o∈x.objs,o∈zch ms xs)\/(∃d,toD H x=some d/\y= .d d/\∀o∈x.objs,o∈zaz ms xs):=by
 intro ms xs
 induction xs generalizing ms with
 | nil=>intro zabm h;cases ms<;>(simp only[zbJ,Option.some.injEq] at h;subst h;simp)
 | cons x xs ih=>
  intro zabm h;have data:∀(ms':List Bool),(∀o,o∈x.objs->o∈zaz ms (x::xs))->(∀o,o∈zaz ms' xs->o∈zaz ms (x::xs))->(∀o,o∈zch ms' xs->o∈zch ms (x::xs))->((toD H x).bind fun d=>(zbJ H ms' xs).map (.d d:: ·))=some zabm->zabm.length=(x::xs).length/\∀(i:Nat) (x' y:AV),(x::xs)[i]? = some x'->zabm[i]? = some y->
      (y=x'/\∀o∈x'.objs,o∈zch ms (x::xs))\/(∃d,toD H x'=some d/\y= .d d/\∀o∈x'.objs,o∈zaz ms (x::xs)):=by
   intro ms' hd1 hd2 hk h;obtain⟨d,hd,h⟩:=zabp.1 h;obtain⟨as',h',rfl⟩:=zabr.1 h;obtain⟨h1,h2⟩:=ih h';refine⟨by simp [h1],fun i a b ha hb=> ?_⟩
   match i,ha,hb with
   | 0,ha,hb=>simp at ha hb;subst ha hb;exact .inr ⟨d,hd,rfl,fun o ho=>hd1 o ho⟩
   | n+1,ha,hb=>
    rcases h2 n a b (by simpa using ha) (by simpa using hb) with ⟨h3,h4⟩|⟨d',h3,h4,h5⟩
    ·exact .inl ⟨h3,fun o ho=>hk o (h4 o ho)⟩
    ·exact .inr ⟨d',h3,h4,fun o ho=>hd2 o (h5 o ho)⟩
  match ms,h with
  | [],h=>exact data [] (fun o ho=>by simp [zaz,ho]) (fun o ho=>by simp [zaz,ho]) (fun o ho=>by cases xs<;>simp [zch] at ho) h
  | false::ms,h=>exact data ms (fun o ho=>by simp [zaz,ho]) (fun o ho=>by simp [zaz,ho]) (fun o ho=>by simp [zch,ho]) h
  | true::ms,h=>
   simp only[zbJ] at h;obtain⟨as',h',rfl⟩:=zabr.1 h;obtain⟨h1,h2⟩:=ih h';refine⟨by simp [h1],fun i a b ha hb=> ?_⟩
   match i,ha,hb with
   | 0,ha,hb=>simp at ha hb;subst ha hb;exact .inl ⟨rfl,fun o ho=>by simp [zch,ho]⟩
   | n+1,ha,hb=>
    rcases h2 n a b (by simpa using ha) (by simpa using hb) with ⟨h3,h4⟩|⟨d',h3,h4,h5⟩
    ·exact .inl ⟨h3,fun o ho=>by simp [zch,h4 o ho]⟩
    ·exact .inr ⟨d',h3,h4,fun o ho=>by simp [zaz,h5 o ho]⟩
theorem zMd{ρ:Nat->Nat}{os:zd}{n:Nat}(h:∀m,(look m os).isSome=true->ρ m=ρ n->m=n):look (ρ n) (zc4 ρ os)=(look n os).map (Obj.ren ρ):=by
 induction os with
 | nil=>rfl
 | cons p os ih=>
  obtain⟨m,ob⟩:=p;have ih':(∀m',(look m' os).isSome=true->ρ m'=ρ n->m'=n)->look (ρ n) (zc4 ρ os)=(look n os).map (Obj.ren ρ):=ih;simp only[zc4,zabs,look] at ih' ⊢
  by_cases e:m=n
  ·subst e;simp
  ·have hne:ρ m≠ρ n:=fun he=>e (h m (by simp [look]) he);rw[zabn hne,zabn e];refine ih' fun m' hm' he=>h m' ?_ he;simp only[look]
   split
   ·rfl
   ·exact hm'
theorem zBk{δ H:zd}{p:Nat×Obj}(h:p∈zak δ H):p∈δ\/(p∈H/\look p.1 δ=none):=by
 induction δ with
 | nil=>exact .inr ⟨h,rfl⟩
 | cons q δ ih=>
  obtain⟨o,ob⟩:=q;simp only[zak,zP] at h
  cases h with
  | head=>exact .inl (.head _)
  | tail _ h=>
   obtain⟨h1,h2⟩:=zi1.1 h
   rcases ih h1 with h3|⟨h3,h4⟩
   ·exact .inl (.tail _ h3)
   ·refine .inr ⟨h3,?_⟩;simp only[look];rw[zabn (Ne.symm h2)];exact h4
theorem zZj{ρ:Nat->Nat}{os:zd}{o:Nat}(h:look o (zc4 ρ os)=none):∀n,(look n os).isSome=true->ρ n≠o:=by
 induction os with
 | nil=>intro n hn;cases hn
 | cons p os ih=>
  obtain⟨m,ob⟩:=p;simp only[zc4,zabs,look] at h
  split at h
  ·cases h
  ·rename_i hne;intro n hn;simp only[look] at hn
   split at hn
   ·rename_i e;subst e;exact hne
   ·exact ih h n hn
end Go.Sim

namespace Go.Sim
open Go (World Value Addr TypeId Act)
variable {P:Program}
theorem zQ2{C:Ctx}{S:St}{a:Act}{w:World}{ι:Inj}{R:Nat->Prop}(hr:Rel C S a w ι R){x:AV}{u:Value}(h:VA w R ι (mark S.heap) x u){d:D}{os:List Nat}(hd:toD S.heap x=some d)(ho:∀o∈x.objs,o∈os):
    Rd w (zeE R ι os) (.v d u):=znK hr h hd ho
theorem zGw {F:zaU} (hF:FOK P F) {C:Ctx} {S:St} {a:Act} {w:World} {ι:Inj} {R:Nat->Prop} {dst:Nat} {ms:List Bool} {f:FuncId} {args:List AV} {v:AV} {δ:zd} {us:List Value}
    (h:zcu F S.env S.heap dst ms f args=some (v,δ)) (hr:Rel C S a w ι R) (hv:VAs w R ι (mark S.heap) args us):
    Calls P f us.toArray w fun e w'=>∃u ι' R',e= .returned u/\Rel C ⟨S.env,zak δ S.heap⟩ a w' ι' R'/\VA w' R' ι' (mark (zak δ S.heap)) v u:=by
 unfold zcu at h;obtain⟨zabm,has,h⟩:=zabp.1 h;have hnod:(zbF S.heap ms args).Nodup:=zsQ _ _ _;have hkept:∀o,o∈zch ms args->o∈zbF S.heap ms args:=fun o ho=>zZW ho;obtain⟨hlen,hget⟩:=zGx has;clear has;generalize hns:zbF S.heap ms args=ns at *;generalize hdob:zaz ms args=dob at *;unfold zfJ at h
 split at h
 ·rename_i hc;simp only[zabH] at hc;obtain⟨hok,hdis⟩:=hc;obtain⟨⟨r,os'⟩,hf,h⟩:=zabp.1 h;unfold zeI at h
  split at h
  ·rename_i hc2;simp only[zabH] at hc2;obtain⟨hfresh,hflat⟩:=hc2
   cases h
   generalize hρ:zdY ns dst=ρ;have hrow:∀o∈ns,∃es,look o S.heap=some (.row es)/\∀q∈AV.objsL es,q∈ns:=fun o ho=>by
    have:=zabO.1 hok o ho
    split at this
    ·rename_i es hes;exact⟨es,hes,fun q hq=>by simpa using zabO.1 this q hq⟩
    ·cases this
   have hrc:∀o,o∈ns->ρ (zaR ns o)=o:=fun o ho=>by rw[<- hρ];exact zC1 ho
   have hget0:∀n ob,(n,ob)∈zbY S.heap ns->∃o∈ns,n=zaR ns o/\∃es,look o S.heap=some (.row es)/\ob=(Obj.row es).ren (zaR ns):=fun n ob hm=>by
    obtain⟨o,ho,h1,h2⟩:=zsP hm;obtain⟨es,hes,_⟩:=hrow o ho;exact⟨o,ho,h1,es,hes,by rw[h2,hes];rfl⟩
   have hlook0:∀o∈ns,∃es,look o S.heap=some (.row es)/\look (zaR ns o) (zbY S.heap ns)=some ((Obj.row es).ren (zaR ns)):=fun o ho=>by
    obtain⟨es,hes,_⟩:=hrow o ho;exact⟨es,hes,by rw[zZh ho,hes];rfl⟩
   have hosrow:∀p∈zbY S.heap ns,∃es,p.2= .row es:=fun⟨n,ob⟩ hm=>by
    obtain⟨o,_,_,es,_,h2⟩:=hget0 n ob hm;exact⟨_,h2⟩
   obtain⟨_,hG,hW⟩:=hF f _ _ r os' hf hosrow (fun i p hp=>(zsT hnod i p hp).1);have hnlen:(zbY S.heap ns).length=ns.length:=by simp [zbY]
   rw[hnlen] at hW
   -- the fresh names
   have hfr:∀n,(look n os').isSome=true->n<1000000->zho (ρ n) S/\ρ n∉ns/\ρ n=dst+10000 * n:=fun n hn hlt=>by
    obtain⟨ob,hob⟩:=zacV.1 hn;have:=zabO.1 hfresh _ (zav hob);have h0:ρ n=dst+10000 * n:=by rw[<- hρ];simp [zdY,hlt]
    simp only[zacj,zabH,zace,decide_eq_true_eq] at this
    rcases this with h1|⟨⟨h1,h2⟩,h3⟩
    ·omega
    ·exact⟨by rw[h0];exact⟨h1,h2⟩,by rw[h0];simpa using h3,h0⟩
   have hgiven:∀n,(look n os').isSome=true->1000000<=n->∃o∈ns,n=zaR ns o/\ρ n=o:=fun n hn hge=>by
    rcases hW.names n hn with h1|⟨_,h1⟩
    ·omega
    ·obtain⟨o,hi⟩:∃o,ns[n - 1000000]? = some o:=⟨_,zabx (by omega)⟩;have hm:=zabK hi;have hp:=zMZ hnod hi;have hn':n=zaR ns o:=by simp only[zaR,hp];omega
     refine⟨o,hm,hn',?_⟩;rw[hn',hrc _ hm]
   have hinj:∀n,(look n os').isSome=true->∀m,(look m os').isSome=true->ρ m=ρ n->m=n:=fun n hn m hm e=>by
    rcases zadm n 1000000 with h1|h1<;>rcases zadm m 1000000 with h2|h2
    ·have e1:=(hfr n hn h1).2.2;have e2:=(hfr m hm h2).2.2;omega
    ·obtain⟨o,ho,_,h3⟩:=hgiven m hm h2;rw[h3] at e;rw[e] at ho;exact absurd ho (hfr n hn h1).2.1
    ·obtain⟨o,ho,_,h3⟩:=hgiven n hn h1;rw[h3] at e;rw[<- e] at ho;exact absurd ho (hfr m hm h2).2.1
    ·obtain⟨o,ho,h3,h4⟩:=hgiven n hn h1;obtain⟨o',ho',h5,h6⟩:=hgiven m hm h2;rw[h3,h5, <- h4, <- h6,e]
   let ι0:Inj:=fun n=>if (look n (zbY S.heap ns)).isSome=true then ι (ρ n) else none
   have hsome0:∀n,(look n (zbY S.heap ns)).isSome=true->∃o∈ns,n=zaR ns o/\ρ n=o:=fun n hn=>by
    obtain⟨ob,hob⟩:=zacV.1 hn;obtain⟨o,ho,h1,_⟩:=hget0 n ob (zav hob);exact⟨o,ho,h1,by rw[h1,hrc o ho]⟩
   have hι0:∀n b s,ι0 n=some (b,s)->(look n (zbY S.heap ns)).isSome=true/\ι (ρ n)=some (b,s):=fun n b s hh=>by
    simp only[ι0] at hh
    split at hh
    ·rename_i h1;exact⟨h1,hh⟩
    ·cases hh
   have hmS:∀o∈ns,mark S.heap o=none:=fun o ho=>by
    obtain⟨es,hes,_⟩:=hrow o ho;simp [mark,hes]
   have hmo:∀o∈ns,mark (zbY S.heap ns) (zaR ns o)=none:=fun o ho=>by
    obtain⟨es,_,h2⟩:=hlook0 o ho;simp [mark,h2,Obj.ren]
   have hs0:∀o∈ns,(look (zaR ns o) (zbY S.heap ns)).isSome=true:=fun o ho=>by
    obtain⟨es,_,h2⟩:=hlook0 o ho;simp [h2]
   have toC:∀q∈ns,(∀p,ι q=some p->ι0 (zaR ns q)=some p)/\mark (zbY S.heap ns) (zaR ns q)=mark S.heap q:=fun q hq=>by
    refine⟨fun p hp=> ?_,by rw[hmo q hq,hmS q hq]⟩;simp only[ι0];rw[zabo (hs0 q hq),hrc q hq];exact hp
   have hRn:∀o∈ns,∀b s,ι o=some (b,s)->¬R b:=fun o ho b s hh=>by
    obtain⟨es,hes,_⟩:=hrow o ho
    cases hr.heap _ _ (zav hes) with
    | row k1 k2=>rw[hh] at k1;cases k1;exact k2
   let Rc:Nat->Prop:=zeE R ι dob
   have hdisj:∀o∈dob,o∉ns:=fun o ho=>by
    have:=zabO.1 hdis o ho;simpa using this
   have hRcn:∀o∈ns,∀b s,ι o=some (b,s)->¬Rc b:=fun o ho b s hh=>by
    rintro (hb|⟨q,s',hq,hq'⟩)
    ·exact hRn o ho b s hh hb
    ·have:=hr.inj _ _ _ _ _ hh hq';subst this;exact hdisj _ hq ho
   have hRclt:∀b,Rc b->b<w.heap.size:=by
    rintro b (hb|⟨o,s,_,hb⟩)
    ·exact hr.rlt b hb
    ·exact (hr.own _ _ _ hb).2
   refine (hG w Rc ι0 us hRclt (fun n b s hh=> ?_) (fun n n' b s s' h1 h2=> ?_) (fun n ob hm=> ?_) ⟨by simp [hlen,hv.1],fun i x u h1 h2=> ?_⟩).mono fun e w' hh=> ?_
   ·obtain⟨k1,k2⟩:=hι0 n b s hh;obtain⟨o,ho,_,k3⟩:=hsome0 n k1;rw[k3] at k2;exact⟨(hr.own _ b s k2).2,hRcn o ho b s k2,k1⟩
   ·obtain⟨k1,k2⟩:=hι0 _ _ _ h1;obtain⟨k3,k4⟩:=hι0 _ _ _ h2;obtain⟨o,ho,k5,k6⟩:=hsome0 n k1;obtain⟨o',ho',k7,k8⟩:=hsome0 n' k3;have:=hr.inj _ _ _ _ _ k2 k4;rw[k6,k8] at this;rw[k5,k7,this]
   ·obtain⟨o,ho,h1,es,hes,h2⟩:=hget0 n ob hm;obtain⟨es',hes',hcl⟩:=hrow o ho;rw[hes] at hes';cases hes';have hob0:=(hr.heap _ _ (zav hes)).toR (R':=R) (.inl fun _ h=>h) (fun _ h=>h);have hobR:OB w Rc ι (mark S.heap) o (.row es):=by
     cases hr.heap _ _ (zav hes) with
     | row k1 k2 k3 k4 k5 k6 k7=>exact .row k1 (hRcn o ho _ _ k1) k3 k4 k5 k6 fun i e he j x hx=>let ⟨j1,q,j2,j3⟩:=k7 i e he j x hx;⟨j1,q,j2,j3.toR (.inl fun _ h=> .inl h)⟩
    have:=hobR.ren (ρ:=zaR ns) (ι':=ι0) (mk':=mark (zbY S.heap ns)) (by simp only[ι0];rw[zabo (hs0 o ho),hrc o ho]) fun q hq=>toC q (hcl q (zjf es q hq));rw[h1,h2];exact this
   ·rw[zabI] at h1;obtain⟨y,hy,rfl⟩:=zabr.1 h1;have hlt:=(zabB.1 hy).1;rw[hlen] at hlt;have hx:args[i]? = some args[i]:=zabx hlt
    rcases hget i _ y hx hy with ⟨h3,h4⟩|⟨d,h3,h4,h5⟩
    ·subst h3;exact ((hv.2 i _ u hx h2).toR (.inl fun _ h=> .inl h)).ren fun q hq=>toC q (hkept q (h4 q (ztu _ q hq)))
    ·subst h4;exact .d (zQ2 hr (hv.2 i _ u hx h2) h3 h5)
   obtain⟨u,ι',R',rfl,e1,e2,e3,e4,e5,e6,e7,e8,e9,e10,e11,e12,e13⟩:=hh
   let R2:Nat->Prop:=fun b=>R' b/\(R b\/w.heap.size<=b\/∃n s,ι0 n=some (b,s)/\look n os'=some (.frz none))
   have hR2:∀b,R b->R2 b:=fun b hb=>⟨e7 b (.inl hb),.inl hb⟩;have hlow:(∀b,R' b->R2 b)\/zj9 (r,os')=true:=by
    simp only[zacj,zadJ] at hflat
    rcases hflat with h0|h0
    ·left;intro b hb;refine⟨hb,?_⟩
     rcases (e8 b hb).2 with h1|h1
     ·rcases h1 with h1|⟨o,s,ho,_⟩
      ·exact .inl h1
      ·rw[h0] at ho;cases ho
     ·exact .inr h1
    ·exact .inr h0
   have hlowV:VA w' R2 ι' (mark os') r u:=e13.toR (hlow.imp id fun hf=>by simp only[zj9,zabH] at hf;exact hf.1);have hlowO:∀n ob,(n,ob)∈os'->OB w' R2 ι' (mark os') n ob:=fun n ob hm=>(e12 n ob hm).toR (hlow.imp id fun hf=>by
    simp only[zj9,zabH] at hf;exact zabO.1 hf.2 _ hm) fun b hb=>hb.1
   let im:Nat->Prop:=fun o=>∃n,(look n os').isSome=true/\ρ n=o
   have him:∀n,(look n os').isSome=true->im (ρ n):=fun n h1=>⟨n,h1,rfl⟩;have hcase0:∀o,(∃n,(look n os').isSome=true/\ρ n=o)\/¬im o:=fun o=>Classical.em _;have:∃back:Nat->Nat,∀n,(look n os').isSome=true->back (ρ n)=n:=by
    have hpt:∀o,∃m,∀n,(look n os').isSome=true->ρ n=o->m=n:=fun o=>by
     rcases hcase0 o with ⟨n,h1,h2⟩|h1
     ·exact⟨n,fun m hm h3=>hinj m hm n h1 (h2.trans h3.symm)⟩
     ·exact⟨0,fun m hm h3=>absurd ⟨m,hm,h3⟩ h1⟩
    obtain⟨g,hg⟩:=Classical.axiomOfChoice hpt;exact⟨g,fun n hn=>hg _ n hn rfl⟩
   obtain⟨back,hback⟩:=this;have hex:∃ι2:Inj,(∀n,(look n os').isSome=true->ι2 (ρ n)=ι' n)/\(∀o,¬im o->ι2 o=ι o):=by
    refine⟨fun o=> @ite _ (im o) (Classical.propDecidable _) (ι' (back o)) (ι o),fun n hn=> ?_,fun o ho=> ?_⟩
    ·show @ite _ (im (ρ n)) (Classical.propDecidable _) (ι' (back (ρ n))) (ι (ρ n))=ι' n;rw[zabo (him n hn),hback n hn]
    ·show @ite _ (im o) (Classical.propDecidable _) (ι' (back o)) (ι o)=ι o;rw[zabn ho]
   obtain⟨ι2,hι2,hι2n⟩:=hex;have hcase:∀o,(∃n,(look n os').isSome=true/\ρ n=o)\/¬im o:=fun o=>Classical.em _;have hm2:∀n,(look n os').isSome=true->mark (zak (zc4 ρ os') S.heap) (ρ n)=mark os' n:=fun n h1=>by
    obtain⟨ob,hob⟩:=zacV.1 h1;unfold mark;rw[zdi,zMd (hinj n h1),hob]
    cases ob<;>rfl
   have hm2n:∀o,¬im o->mark (zak (zc4 ρ os') S.heap) o=mark S.heap o:=fun o h1=>by
    unfold mark;rw[zdi]
    cases hl:look o (zc4 ρ os') with
    | none=>rfl
    | some ob=>
     exfalso;obtain⟨⟨n,ob'⟩,hm,he⟩:=zaby.1 (zav hl);simp only[Prod.mk.injEq] at he;exact h1 (he.1 ▸ him n (zsf hm))
   have hKR:zbK R w w':=fun b hb=>e6 b (hr.rlt b hb) fun n s hn=>by
    obtain⟨k1,k2⟩:=hι0 _ _ _ hn;obtain⟨o,ho,_,k3⟩:=hsome0 n k1;rw[k3] at k2;exact hRn o ho b s k2 hb
   have hkeepc:∀o∈ns,(look (zaR ns o) os').isSome=true/\mark os' (zaR ns o)=none:=fun o ho=>by
    rcases hW.keep (pos o ns) (zgs ho) with ⟨es,hes⟩|hes
    ·exact⟨by simp only[zaR];rw[hes];rfl,by simp only[zaR,mark];rw[hes]⟩
    ·exact⟨by simp only[zaR];rw[hes];rfl,by simp only[zaR,mark];rw[hes]⟩
   have hst:∀p,¬zho p S->Step w w' ι ι2 (mark S.heap) (mark (zak (zc4 ρ os') S.heap)) p:=fun p hp=>by
    rcases hcase p with ⟨n,h1,rfl⟩|h1
    ·rcases zadm n 1000000 with h2|h2
     ·exact absurd (hfr n h1 h2).1 hp
     ·obtain⟨o,ho,h3,h4⟩:=hgiven n h1 h2;have k0:=hs0 o ho;obtain⟨_,hes⟩:=hkeepc o ho;rw[<- h3] at hes k0;have k1:mark S.heap (ρ n)=none:=by rw[h4];exact hmS o ho
      have k2:mark (zak (zc4 ρ os') S.heap) (ρ n)=none:=by rw[hm2 n h1];exact hes
      refine⟨fun b s hh=> ?_,fun b s hh=> ?_,fun m hh=>(by rw[k1] at hh;cases hh),fun m hh=>(by rw[k2] at hh;cases hh)⟩
      ·rw[hι2 n h1];exact e9 n b s (by simp only[ι0,zabo k0];exact hh)
      ·rw[k1];simpa using e5 b (hr.own _ _ _ hh).2
    ·refine Step.other (hι2n p h1) (hm2n p h1) fun b s hh=>e6 b (hr.own _ _ _ hh).2 fun n s' hn=> ?_;obtain⟨k1,k2⟩:=hι0 _ _ _ hn;obtain⟨o,ho,k3,k4⟩:=hsome0 n k1;have:=hr.inj _ _ _ _ _ hh k2;subst this;exact h1 ⟨n,by rw[k3];exact (hkeepc o ho).1,rfl⟩
   have hnk:∀n b s,ι0 n=some (b,s)->¬C.keep b:=fun n b s hn=>(hr.own _ b s (hι0 n b s hn).2).1;have hrel:Rel C ⟨S.env,zak (zc4 ρ os') S.heap⟩ a w' ι2 R2:=by
    refine hr.change e1 e2 e3 e4 e5 (fun b hb=>e6 b (zaco (hr.keepLt b hb) hr.grow) fun o s ho=>hnk o b s ho hb) hR2 (fun b hb=>(e8 b hb.1).1) (fun b hb=> ?_) hKR ?_ ?_ (fun p hp=>hst p fun hu=>by rw[hu.1] at hp;cases hp) ?_
    ·rcases hb.2 with h1|h1|⟨n,s,h1,_⟩
     ·exact hr.rok b h1
     ·exact .inr fun hkp=>by have:=hr.keepLt b hkp;have:=hr.grow;omega
     ·exact .inr (hnk n b s h1)
    ·intro o b s ho
     rcases hcase o with ⟨n,h1,rfl⟩|h1
     ·rw[hι2 n h1] at ho;obtain⟨k1,k2|k2⟩:=e10 n b s ho
      ·exact⟨hnk n b s k2,k1⟩
      ·exact⟨fun hkp=>by have:=hr.keepLt b hkp;have:=hr.grow;omega,k1⟩
     ·rw[hι2n o h1] at ho;have:=hr.own o b s ho;exact⟨this.1,by omega⟩
    ·have mixed:∀n o b s s',(look n os').isSome=true->¬im o->ι' n=some (b,s)->ι o=some (b,s')->False:=fun n o b s s' h1 h2 h3 h4=>by
        obtain⟨_,k2|k2⟩:=e10 n b s h3
        ·obtain⟨k3,k4⟩:=hι0 _ _ _ k2;have:=hr.inj _ _ _ _ _ h4 k4;subst this;exact h2 (him n h1)
        ·have:=(hr.own _ _ _ h4).2;omega
     intro o o' b s s' h1 h2
     rcases hcase o with ⟨n,k1,rfl⟩|k1<;>rcases hcase o' with ⟨n',k2,rfl⟩|k2
     ·rw[hι2 n k1] at h1;rw[hι2 n' k2] at h2;rw[e11 _ _ _ _ _ h1 h2]
     ·rw[hι2 n k1] at h1;rw[hι2n _ k2] at h2;exact (mixed _ _ _ _ _ k1 k2 h1 h2).elim
     ·rw[hι2n _ k1] at h1;rw[hι2 n' k2] at h2;exact (mixed _ _ _ _ _ k2 k1 h2 h1).elim
     ·rw[hι2n _ k1] at h1;rw[hι2n _ k2] at h2;exact hr.inj _ _ _ _ _ h1 h2
    ·intro o ob ho
     rcases zBk ho with ho|⟨ho,hno⟩
     ·obtain⟨⟨n,ob'⟩,hm,he⟩:=zaby.1 ho
      cases he
      exact (hlowO n ob' hm).ren (hι2 n (zsf hm)) fun q hq=>by
       have h1:=hW.resH n ob' hm q hq;exact⟨fun p hp=>by rw[hι2 q h1];exact hp,hm2 q h1⟩
     ·have h1:¬im o:=fun⟨n,h1,h2⟩=>zZj hno n h1 h2;refine (hr.heap o ob ho).mono hR2 hKR (fun b s hb=>⟨by rw[hι2n o h1];exact hb,?_,?_⟩) (fun h0=>by rw[hι2n o h1];exact h0) fun p hp=>hst p fun hu=>by
       have:=zhd ho hu.2;rw[hp] at this;cases this
      ·refine e6 b (hr.own _ _ _ hb).2 fun n s' hn=> ?_;obtain⟨k1,k2⟩:=hι0 _ _ _ hn;obtain⟨q,hq,k3,k4⟩:=hsome0 n k1;have:=hr.inj _ _ _ _ _ hb k2;subst this;exact h1 ⟨n,by rw[k3];exact (hkeepc q hq).1,rfl⟩
      ·intro hb'
       rcases hb'.2 with h3|h3|⟨n,s',hn,_⟩
       ·exact h3
       ·have:=(hr.own _ _ _ hb).2;omega
       ·obtain⟨k1,k2⟩:=hι0 _ _ _ hn;obtain⟨q,hq,k3,k4⟩:=hsome0 n k1;have:=hr.inj _ _ _ _ _ hb k2;subst this;exact absurd ⟨n,by rw[k3];exact (hkeepc q hq).1,rfl⟩ h1
   exact⟨u,ι2,R2,rfl,hrel,hlowV.ren fun q hq=>⟨fun p hp=>by rw[hι2 q (hW.res q hq)];exact hp,hm2 q (hW.res q hq)⟩⟩
  ·cases h
 ·cases h
theorem zGt{F:zaU}(hF:FOK P F){E:Env}{H:zd}{dst:Nat}{ms:List Bool}{f:FuncId}{args:List AV}{p:AV×zd}(h:zcu F E H dst ms f args=some p):zeJ P f=true:=by
 unfold zcu at h;obtain⟨zabm,has,h⟩:=zabp.1 h;have hnod:(zbF H ms args).Nodup:=zsQ _ _ _;unfold zfJ at h
 split at h
 ·rename_i hc;simp only[zabH] at hc;obtain⟨⟨r,os'⟩,hf,_⟩:=zabp.1 h;refine (hF f _ _ r os' hf (fun⟨n,ob⟩ hm=> ?_) (fun i p hp=>(zsT hnod i p hp).1)).1;obtain⟨o,ho,_,h2⟩:=zsP hm;have:=zabO.1 hc.1 o ho
  split at this
  ·rename_i es hes;exact⟨_,by rw[h2,hes];rfl⟩
  ·cases this
 ·cases h
theorem zMb{H:zd}{o:Nat}:∀ {os:List Nat},look o (zbn H os)=if o∈os then some (.frz (mark H o)) else none:=by
 intro os
 induction os with
 | nil=>rfl
 | cons p os ih=>
  simp only[zbn,zabs,look,zab4] at ih ⊢
  by_cases h:p=o
  ·subst h;simp
  ·rw[zabn h,ih]
   by_cases h2:o∈os
   ·rw[zabo h2,zabo (.inr h2)]
   ·rw[zabn h2,zabn];rintro (rfl|h3)
    ·exact h rfl
    ·exact h2 h3
theorem zBi{H:zd}{os:List Nat}:mark (zak (zbn H os) H)=mark H:=by
 funext o
 have:mark (zak (zbn H os) H) o=match look o (zak (zbn H os) H) with|some (.acc n)=>some n|some (.frz m)=>m|_=>none:=rfl
 rw[this,zdi,zMb]
 by_cases h:o∈os
 ·rw[zabo h];rfl
 ·rw[zabn h];rfl
theorem Rel.freeze{C:Ctx}{S:St}{a:Act}{w:World}{ι:Inj}{R:Nat->Prop}(hr:Rel C S a w ι R){os:List Nat}(hok:zgj S.heap os=true):Rel C ⟨S.env,zak (zbn S.heap os) S.heap⟩ a w ι (zeE R ι os):=by
 have hR:∀b,R b->zeE R ι os b:=fun b h=> .inl h;refine { hr with rlt:=fun b hb=> ?_,rok:=fun b hb=> ?_,r0:=fun b hb=> .inl (hr.r0 b hb),env:=fun t x hx=> ?_,heap:=fun o ob ho=> ?_ }
 ·rcases hb with hb|⟨o,s,_,hb⟩
  ·exact hr.rlt b hb
  ·exact (hr.own _ _ _ hb).2
 ·rcases hb with hb|⟨o,s,_,hb⟩
  ·exact hr.rok b hb
  ·exact .inr (hr.own _ _ _ hb).1
 ·obtain⟨u,h1,h2⟩:=hr.env t x hx;exact⟨u,h1,by rw[zBi];exact h2.toR (.inl hR)⟩
 ·rw[zBi]
  rcases zBk ho with ho|⟨ho,hno⟩
  ·obtain⟨q,hq,he⟩:=zaby.1 ho
   cases he
   obtain⟨ob',hl⟩:=zacV.1 (zabO.1 hok _ hq);refine .frz fun b s hb=>⟨.inr ⟨_,s,hq,hb⟩,?_⟩
   cases hr.heap _ _ (zav hl) with
   | row k1 _ _ k4=>rw[hb] at k1;cases k1;exact k4
   | acc _ k2 _ _ k5=>rw[hb] at k2;cases k2;exact k5
   | accN k1=>rw[hb] at k1;cases k1
   | frz k=>exact (k b s hb).2
   | mp k1 _ _ k4=>rw[hb] at k1;cases k1;exact k4
  ·rw[zMb] at hno
   split at hno
   ·cases hno
   ·rename_i hne;have hns:∀b s,ι o=some (b,s)->¬R b->¬zeE R ι os b:=fun b s hb hn=>by
     rintro (h|⟨o',s',ho',hb'⟩)
     ·exact hn h
     ·have:=hr.inj _ _ _ _ _ hb hb';subst this;exact hne ho'
    cases hr.heap _ _ ho with
    | row k1 k2 k3 k4 k5 k6 k7=>exact .row k1 (hns _ _ k1 k2) k3 k4 k5 k6 fun i e he j x hx=>let ⟨j1,q,j2,j3⟩:=k7 i e he j x hx;⟨j1,q,j2,j3.toR (.inl hR)⟩
    | acc k1 k2 k3 k4 k5 k6=>exact .acc k1 k2 (hns _ _ k2 k3) k4 k5 k6
    | accN k1=>exact .accN k1
    | frz k=>exact .frz fun b s hb=>⟨.inl (k b s hb).1,(k b s hb).2⟩
    | mp k1 k2 k3 k4 k5 k6=>exact .mp k1 (hns _ _ k1 k2) k3 k4 k5 fun i k x hi=>let ⟨e,j1,j2,j3⟩:=k6 i k x hi;⟨e,j1,j2,j3.mono_v hR fun _ _=>rfl⟩
theorem z5z{δ ε H:zd}:zak (δ++ε) H=zak δ (zak ε H):=by
 induction δ with
 | nil=>rfl
 | cons p δ ih=>obtain⟨o,ob⟩:=p;simp only[zabN,zak,ih]
theorem zSF {F:zaU} (hF:FOK P F) {C:Ctx} {S:St} {a:Act} {w:World} {ι:Inj} {R:Nat->Prop} {dst:Nat} {ms:List Bool} {f:FuncId} {args:List AV} {v:AV} {δ:zd} {us:List Value}
    (h:zbr F S.env S.heap dst ms f args=some (v,δ)) (hr:Rel C S a w ι R) (hv:VAs w R ι (mark S.heap) args us):
    Calls P f us.toArray w fun e w'=>∃u ι' R',e= .returned u/\Rel C ⟨S.env,zak δ S.heap⟩ a w' ι' R'/\VA w' R' ι' (mark (zak δ S.heap)) v u:=by
 unfold zbr at h
 split at h
 ·obtain⟨zabm,has,h⟩:=zabp.1 h;unfold zgi at h
  split at h
  ·rename_i hok;obtain⟨⟨v',δ'⟩,h1,h2⟩:=zabr.1 h
   cases h2
   obtain⟨hlen,hget⟩:=zGx has;have hr':=hr.freeze hok;have:=zGw hF (S:=⟨S.env,zak (zbn S.heap (zaz ms args)) S.heap⟩) h1 hr' (us:=us) ⟨by rw[hlen];exact hv.1,fun i x u hx hu=>by
    have hlt:=(zabB.1 hx).1;rw[hlen] at hlt;have ha:args[i]? = some args[i]:=zabx hlt;rw[zBi]
    rcases hget i _ x ha hx with ⟨h3,_⟩|⟨d,h3,h4,h5⟩
    ·subst h3;exact (hv.2 i _ u ha hu).toR (.inl fun _ h=> .inl h)
    ·subst h4;exact .d (zQ2 hr (hv.2 i _ u ha hu) h3 h5)⟩
   simp only[z5z];exact this
  ·cases h
 ·exact zGw hF h hr hv
theorem zSB{F:zaU}(hF:FOK P F){E:Env}{H:zd}{dst:Nat}{ms:List Bool}{f:FuncId}{args:List AV}{p:AV×zd}(h:zbr F E H dst ms f args=some p):zeJ P f=true:=by
 unfold zbr at h
 split at h
 ·obtain⟨zabm,_,h⟩:=zabp.1 h;unfold zgi at h
  split at h
  ·obtain⟨q,h1,_⟩:=zabr.1 h;exact zGt hF h1
  ·cases h
 ·exact zGt hF h
end Go.Sim

namespace Go.Sim
open Go (World Value Addr TypeId Act)
inductive zg where
 | skip
 | ops (gs:List Nat) (l:List zK) (kill:List Nat)
 | draw (gs:List Nat) (l:List zK) (fr:List (List Nat)) (kill:List Nat)
 | seq (a b:zg)
 | cond (c:Opd) (t e:zg)
 | block (id:Nat) (b:zg)
 | loop (kill:List Nat) (b:zg)
 | exit (id:Nat) (keep:List Nat)
 | ret (keep:List Nat)
structure zn where
 kill:List (Nat×List Nat):=[]
 ghost:List (Nat×List Nat):=[]
 obj:List (Nat×List Bool):=[]
 acc:List Nat:=[]
 loop:List (Nat×List Nat):=[]
 exit:List (Nat×List Nat):=[]
 ret:List Nat:=[]
def zvs(hs:zn)(dst:Option Nat):List Bool:=match dst with|some d=>(look d hs.obj).getD []|none=>[]
def zDr(hs:zn)(dst:Option Nat):Bool:=match dst with|some d=>hs.acc.contains d|none=>false
def zmB:AOp->Bool
 | .mv (.c (.xsl []))=>true
 | _=>false
def hint(hs:zn)(dst:Option Nat)(x:AOp):AOp:=
 match x with
 | .call f _ xs=> .call f (zvs hs dst) xs
 | .callv f _ xs=> .callv f (zvs hs dst) xs
 | x=>if zmB x&&zDr hs dst then .nacc else x
def ze3(P:Program)(hs:zn)(ops:Array Oper)(o:Oper):Option zK:=
 match z9 P o.op with
 | none=>none
 | some x=>
  match o.guard with
  | none=>some ⟨o.dst,hint hs o.dst x,none⟩
  | some (j,b)=>((ops[j]?).bind (·.dst)).map fun t=>⟨o.dst,hint hs o.dst x,some (t,b)⟩
def zec(K:List (Nat×List Nat))(id:Nat):List Nat:=(look id K).getD []
def zf2(ks:List Nat):Env->Env
 | []=>[]
 | (t,x)::l=>if ks.contains t then zf2 ks l else (t,x)::zf2 ks l
def St.put(S:St)(dst:Option Nat)(v:AV):St:=match dst with|none=>S|some d=>⟨zP d v S.env,S.heap⟩
inductive zX where
 | normal
 | exit (id:Nat)
 | ret
variable {P:Program} {C:Ctx}
def Out(e:zX):Exit:=match e with| .normal=> .normal| .exit i=> .exit i| .ret=> .ret
theorem zZF{ks:List Nat}{E:Env}{p:Nat×AV}(h:p∈zf2 ks E):p∈E:=by
 induction E with
 | nil=>cases h
 | cons q l ih=>
  obtain⟨t,x⟩:=q;simp only[zf2] at h
  split at h
  ·exact .tail _ (ih h)
  ·cases h with
   | head=>exact .head _
   | tail _ h=>exact .tail _ (ih h)
theorem Rel.kill{S:St}{a:Act}{w:World}{ι:Inj}{R:Nat->Prop}(h:Rel C S a w ι R)(ks:List Nat):Rel C ⟨zf2 ks S.env,S.heap⟩ a w ι R:=h.weaken fun _ _ hx=>zZF hx
theorem Rel.putO{S:St}{a:Act}{w:World}{ι:Inj}{R:Nat->Prop}(h:Rel C S a w ι R){v:AV}{u:Value}(hv:VA w R ι (mark S.heap) v u){dst:Option Nat}(hd:∀d,dst=some d->d<C.n):
    Rel C (S.put dst v) (a.put dst u) w ι R:=by
 cases dst with
 | none=>exact h.put_none u
 | some d=>exact h.put hv (hd d rfl)
theorem zQv{f:FuncId}(h:zeJ P f=true)(args:Array Value)(w:World):(callFunc f args).run P w= .ok (.enter f args) w:=by
 unfold zeJ at h
 cases hf:P.funcs[f]? with
 | none=>simp [hf] at h
 | some fn=>
  simp only[hf,zabH,zace] at h;have h1:¬fn.name= "runtime.NumGoroutine" := by simpa using h.2
  have h2:¬fn.body=none:=by
   intro e;have:=h.1;rw[e] at this;cases this
  simp [callFunc,hf,h1,h2]
theorem zS7{op:Op}{f:FuncId}{ms:List Bool}{xs:List Opd}(h:z9 P op=some (.call f ms xs)):∃c:Call,op= .call c/\c.callee= .value (.func f)/\ms=[]/\zeJ P f=true/\c.args.toList.mapM opd=some xs:=by
 cases op with
 | call c=>
  simp only[z9] at h
  split at h
  ·rename_i g hcal
   split at h
   ·rename_i hcf;obtain⟨ys,hys,h⟩:=zabp.1 h
    cases h
    exact⟨c,rfl,hcal,rfl,hcf,hys⟩
   ·cases h
  all_goals (exfalso;revert h;(repeat' split)<;>simp [zabp])
 | makeFunc fn a b=>
  exfalso;revert h
  cases fn<;>simp only[z9]<;>(repeat' split)<;>simp [zabp]
 | _=>
  exfalso;revert h;simp only[z9]
  (repeat' split)<;>simp [zabp,zabr]
theorem zS8{op:Op}{y:Opd}{ms:List Bool}{xs:List Opd}(h:z9 P op=some (.callv y ms xs)):∃(c:Call) (f:Nat),op= .call c/\y= .t f/\c.callee= .value (.tmp f)/\ms=[]/\f<1000000/\c.args.toList.mapM opd=some xs:=by
 cases op with
 | call c=>
  simp only[z9] at h
  split at h
  ·exfalso
   split at h
   ·revert h;simp [zabp]
   ·cases h
  ·rename_i g hcal
   split at h
   ·rename_i hlt;obtain⟨ys,hys,h⟩:=zabp.1 h
    cases h
    exact⟨c,g,rfl,rfl,hcal,rfl,hlt,hys⟩
   ·cases h
  all_goals (exfalso;revert h;(repeat' split)<;>simp [zabp])
 | makeFunc fn a b=>
  exfalso;revert h
  cases fn<;>simp only[z9]<;>(repeat' split)<;>simp [zabp]
 | _=>
  exfalso;revert h;simp only[z9]
  (repeat' split)<;>simp [zabp,zabr]
theorem zTa{op:Op}{ng:Bool}{y:Opd}(h:z9 P op=some (.nileq ng y)):∃(b:BinOp) (t e u:TypeId) (x q:Operand),op= .binOp b t x q u/\b=(if ng then .neq else .eql)/\P.underlying t=some (.slice e)/\opd x=some y/\zAv q=true:=by
 cases op with
 | call c=>exfalso;revert h;simp only[z9];(repeat' split)<;>simp [zabp]
 | makeFunc fn a b=>
  exfalso;revert h
  cases fn<;>simp only[z9]<;>(repeat' split)<;>simp [zabp]
 | binOp b t x q u=>
  simp only[z9] at h
  split at h
  ·exfalso;revert h;simp [zabp]
  ·exfalso;revert h;simp [zabp]
  ·exfalso;revert h;(repeat' split)<;>simp [zabp]
  ·exfalso;revert h;(repeat' split)<;>simp [zabp]
  ·rename_i e hu
   split at h
   ·rename_i hq
    split at h
    ·obtain⟨z,hz,h⟩:=zabr.1 h
     cases h
     exact⟨_,t,e,u,x,q,rfl,rfl,hu,hz,hq⟩
    ·obtain⟨z,hz,h⟩:=zabr.1 h
     cases h
     exact⟨_,t,e,u,x,q,rfl,rfl,hu,hz,hq⟩
    ·cases h
   ·cases h
  ·cases h
 | _=>
  exfalso;revert h;simp only[z9]
  (repeat' split)<;>simp [zabp,zabr]
def zgJ(H:zd)(x:Option (AV×zd)):Option (AV×zd):=x.map fun p=>(p.1,zak p.2 H)
def zht(F:zaU)(E:Env)(H:zd)(dst:Nat)(ms:List Bool)(f:AV)(args:List AV):Option (AV×zd):=
 match f with
 | .d (.fn g cs)=>zbr F E H dst ms g (args++cs.map .d)
 | .fn g cs=>zbr F E H dst ms g (args++cs)
 | _=>none
def zkH(H:zd)(ng:Bool)(x:AV):Option (AV×zd):=
 match x with
 | .nl b=>some (.d (.bool (if ng then !b else b)),H)
 | x=>match slD x with
  | some (_::_)=>some (.d (.bool ng),H)
  | _=>none
def step(F:zaU)(E:Env)(H:zd)(dst:Nat):AOp->Option (AV×zd)
 | .call f ms xs=>zgJ H (zbr F E H dst ms f (xs.map (·.ev E)))
 | .callv f ms xs=>zgJ H (zht F E H dst ms (f.ev E) (xs.map (·.ev E)))
 | .nileq ng x=>zkH H ng (x.ev E)
 | op=>zr E H dst op
theorem zYb{x:AOp}(h:zmB x=true):x= .mv (.c (.xsl [])):=by
 unfold zmB at h
 split at h
 ·rfl
 ·cases h
theorem zS9{op:Op}(h:z9 P op=some (.mv (.c (.xsl [])))):∃y,(op= .move y\/op= .assign y)/\opd y=some (.c (.xsl [])):=by
 cases op with
 | move y=>simp only[z9,zabr] at h;obtain⟨z,h1,h2⟩:=h;cases h2;exact⟨y,.inl rfl,h1⟩
 | assign y=>simp only[z9,zabr] at h;obtain⟨z,h1,h2⟩:=h;cases h2;exact⟨y,.inr rfl,h1⟩
 | makeFunc fn a b=>
  exfalso;revert h
  cases fn<;>simp only[z9]<;>(repeat' split)<;>simp [zabp]
 | _=>
  exfalso;revert h;simp only[z9]
  (repeat' split)<;>simp [zabp,zabr]
theorem z4B{y:Operand}(h:opd y=some (.c (.xsl []))):∃v,y= .const v/\v= .slice none 0 0:=by
 cases y with
 | tmp t=>simp only[opd] at h;split at h<;>cases h
 | const v=>
  refine⟨v,rfl,?_⟩;simp only[opd] at h
  split at h
  ·cases h
  ·obtain⟨x,h1,h2⟩:=zabr.1 h
   cases h2
   unfold zfK at h1
   split at h1
   ·obtain⟨ds,_,h2⟩:=zabr.1 h1;unfold AV.mkAgg at h2
    split at h2<;>cases h2
   ·unfold zhu at h1
    split at h1
    ·split at h1<;>cases h1
    ·cases h1
    ·split at h1<;>cases h1
    ·rfl
    ·split at h1<;>cases h1
 | global g=>cases h
 | func f=>cases h
theorem zCT {F:zaU} (hF:FOK P F) {o:Oper} {x0:AOp} {hs:zn} {S:St} {a:Act} {w:World} {ι:Inj} {R:Nat->Prop} {v:AV} {H':zd} {next:Act->World->Prop} {Q:Exit->Act->World->Prop}
    (hc:z9 P o.op=some x0) (hd:∀d,o.dst=some d->d<C.n) (h:step F S.env S.heap (o.dst.getD 0) (hint hs o.dst x0)=some (v,H')) (hr:Rel C S a w ι R)
    (hn:∀a' w' ι' R',Rel C (St.put ⟨S.env,H'⟩ o.dst v) a' w' ι' R'->next a' w'):o.wp P a w next Q:=by
 have calls:∀(f:FuncId) (ms:List Bool) (xs:List AV) (us:List Value),(execOp a.eval o).run P w= .ok (.enter f us.toArray) w->VAs w R ι (mark S.heap) xs us->zgJ S.heap (zbr F S.env S.heap (o.dst.getD 0) ms f xs)=some (v,H')->o.wp P a w next Q:=by
  intro f ms xs us he hv hw;obtain⟨⟨v',δ⟩,h1,h2⟩:=zabr.1 hw
  cases h2
  unfold Oper.wp;rw[he];refine (zSF hF h1 hr hv).mono fun e w' hh=> ?_;obtain⟨u,ι',R',rfl,hr',hv'⟩:=hh;exact hn _ _ _ _ (hr'.putO hv' hd)
 have simple:∀ {x:AOp},zR C S a v H' ((execOp a.eval o).run P w)->o.wp P a w next Q:=by
  intro x hg;obtain⟨u,w',ι',R',hrun,hr',hv'⟩:=hg;have hfin:=hn _ _ _ _ (hr'.putO hv' hd);unfold Oper.wp
  rcases hrun with hrun|⟨hrun,rfl⟩<;>rw[hrun]<;>exact hfin
 have plain:∀ {x:AOp},(if zmB x&&zDr hs o.dst then AOp.nacc else x)=hint hs o.dst x0->x=x0->step F S.env S.heap (o.dst.getD 0) x=zr S.env S.heap (o.dst.getD 0) x->o.wp P a w next Q:=by
  intro x e1 e2 hst;subst e2;rw[<- e1] at h
  split at h
  ·rename_i hnil;simp only[zabH] at hnil;have hx:=zYb hnil.1;rw[hx] at hc;obtain⟨y,hop,hy⟩:=zS9 hc;obtain⟨cv,rfl,rfl⟩:=z4B hy;simp only[step,zr] at h
   split at h
   ·rename_i hu
    cases h
    refine simple (x:= .nacc) ⟨.slice none 0 0,w,clr ι (o.dst.getD 0),R,.inl ?_,hr.newNone hu,.acc0⟩
    rcases hop with hop|hop<;>simp [execOp,hop,Act.eval]
   ·cases h
  ·rw[hst] at h;exact simple (x:=x) (zSg hc hr h)
 cases x0 with
 | call f ms xs=>
  obtain⟨c,hop,hcal,_,hcf,hxs⟩:=zS7 hc;obtain⟨hl,hg⟩:=zj2 hr hxs;refine calls f _ _ (c.args.toList.map a.eval) ?_ ⟨hl,hg⟩ h;have e:(c.args.toList.map a.eval).toArray=c.args.map a.eval:=by apply Array.ext';simp
  simp [execOp,hop,resolve,hcal,Act.eval,Deferred.ofValue,invoke,zQv hcf,e]
 | callv y ms xs=>
  obtain⟨c,f,hop,rfl,hcal,_,hflt,hxs⟩:=zS8 hc;obtain⟨hl,hg⟩:=zj2 hr hxs;have hfv:=hr.ev (show opd (.tmp f)=some (.t f) by simp only[opd,zabo hflt]);have fin:∀(g:FuncId) (cs:List AV),(∃vs:List Value,a.eval (.tmp f)= .func (.func g) #[] vs.toArray/\VAs w R ι (mark S.heap) cs vs)->zgJ S.heap (zbr F S.env S.heap (o.dst.getD 0) (zvs hs o.dst) g (xs.map (·.ev S.env)++cs))=some (v,H')->o.wp P a w next Q:=by
   rintro g cs ⟨vs,hfe,hvl,hvg⟩ hw;have hcf:zeJ P g=true:=by
    obtain⟨⟨v',δ⟩,h1,_⟩:=zabr.1 hw;exact zSB hF h1
   refine calls g _ _ (c.args.toList.map a.eval++vs) ?_ ⟨by rw[zabv,zabv,hl,hvl],fun i x u h1 h2=> ?_⟩ hw
   ·have e:(c.args.toList.map a.eval++vs).toArray=c.args.map a.eval++vs.toArray:=by apply Array.ext';simp
    simp [execOp,hop,resolve,hcal,hfe,Deferred.ofValue,invoke,zQv hcf,e]
   ·by_cases hi:i<(xs.map (·.ev S.env)).length
    ·rw[zacN hi] at h1;rw[zacN (by omega)] at h2;exact hg i x u h1 h2
    ·rw[zacE (by omega)] at h1;rw[zacE (by omega),hl] at h2;exact hvg _ x u h1 h2
  simp only[hint,step,zht] at h;generalize hfe:Opd.ev S.env (.t f)=fa at h hfv;generalize hfa:a.eval (.tmp f)=fv at hfv
  split at h
  ·rename_i g cs
   cases hfv with
   | d hd=>
    cases hd with
    | fn hl' hg'=>exact fin g _ ⟨_,hfa,by simpa using hl',fun i x u k1 k2=>by
        rw[zabI] at k1;obtain⟨y,k3,rfl⟩:=zabr.1 k1;exact .d (hg' i y u k3 k2)⟩ h
  ·rename_i g cs
   cases hfv with
   | fn hl' hg'=>exact fin g _ ⟨_,hfa,hl',hg'⟩ h
  ·cases h
 | nileq ng y=>
  obtain⟨b,t,e,u,x,q,hop,hb,hu,hy,hq⟩:=zTa hc;have hv:=hr.ev hy;simp only[hint,zmB,zacd,zabz,if_false,step,zkH] at h;have hqv:∃l c,a.eval q= .slice none l c:=by
   unfold zAv at hq
   split at hq
   ·exact⟨_,_,rfl⟩
   ·cases hq
  obtain⟨ql,qc,hqv⟩:=hqv
  split at h
  ·rename_i b0 hnl
   cases h
   rw[hnl] at hv;generalize hav:a.eval x=av at hv
   cases hv with
   | nl1=>
    have heq:∀cap,(Op.equal t (.slice none 0 cap) (.slice none ql qc)).run P w= .ok true w:=by
     intro cap;unfold Op.equal;rw[show Op.maxDepth=9999+1 from rfl];unfold Op.equalIn;simp only[Sem.run_bind,run_underlying hu,Result.andThen_ok];simp
    refine simple (x:= .nacc) (zR.same hr (.d .bool) (u:= .bool (if ng=true then !true else true)) ?_)
    cases ng<;>simp at hb<;>subst hb<;>simp [execOp,hop,hav,hqv,eqGuard,Go.binOp,heq]
   | nl2=>
    have heq:∀ad cap,(Op.equal t (.slice (some ad) 0 cap) (.slice none ql qc)).run P w= .ok false w:=by
     intro ad cap;unfold Op.equal;rw[show Op.maxDepth=9999+1 from rfl];unfold Op.equalIn;simp only[Sem.run_bind,run_underlying hu,Result.andThen_ok];simp
    refine simple (x:= .nacc) (zR.same hr (.d .bool) (u:= .bool (if ng=true then !false else false)) ?_)
    cases ng<;>simp at hb<;>subst hb<;>simp [execOp,hop,hav,hqv,eqGuard,Go.binOp,heq]
  split at h
  ·rename_i d0 ds hsl
   cases h
   have fin:∀(ad:Addr) (l cap:Nat),a.eval x= .slice (some ad) l cap->o.wp P a w next Q:=by
    intro ad l cap hav;have heq:(Op.equal t (.slice (some ad) l cap) (.slice none ql qc)).run P w= .ok false w:=by
     unfold Op.equal;rw[show Op.maxDepth=9999+1 from rfl];unfold Op.equalIn;simp only[Sem.run_bind,run_underlying hu,Result.andThen_ok];simp
    refine simple (x:= .nacc) (zR.same hr (.d .bool) (u:= .bool ng) ?_)
    cases ng<;>simp at hb<;>subst hb<;>simp [execOp,hop,hav,hqv,eqGuard,Go.binOp,heq]
   generalize hpa:y.ev S.env=pa at hv hsl;generalize hav:a.eval x=av at hv;have data:∀ {es:List D},slD pa=some es->Rd w R (.v (.sl es) av)->o.wp P a w next Q:=by
    intro es he hrd;rw[he] at hsl
    cases hsl
    obtain⟨b',off,s,cap,rfl,_⟩:=hrd.sl_inv (by simp);exact fin _ _ _ hav
   cases hv with
   | d hv=>
    rename_i dx
    cases dx with
    | sl es=>exact data rfl hv
    | _=>simp [slD] at hsl
   | xsl hv=>exact data rfl hv
   | accR=>exact fin _ _ _ hav
   | accC=>exact fin _ _ _ hav
   | acc0=>simp [slD] at hsl
   | _=>simp [slD] at hsl
  ·cases h
 | _=>exact plain rfl rfl rfl
end Go.Sim

namespace Go.Sim
open Go (World Value Addr TypeId Act)
variable {P:Program} {C:Ctx} {F:zaU}
def zbN{α:Type}:List (Nat×α)->Bool
 | []=>true
 | (k,_)::l=> !(l.any fun p=>p.1==k)&&zbN l
theorem zMz{α:Type}{l:List (Nat×α)}(h:zbN l=true){k:Nat}{x:α}(hm:(k,x)∈l):look k l=some x:=by
 induction l with
 | nil=>cases hm
 | cons p l ih=>
  obtain⟨j,y⟩:=p;simp only[zbN,zabH,zace] at h;simp only[look]
  cases hm with
  | head=>simp
  | tail _ hm=>
   rw[zabn,ih h.2 hm];rintro rfl;have:=zacC.1 h.1 _ hm;simp at this
def zhS{α:Type}(p:Nat×α):List (Nat×α)->List (Nat×α)
 | []=>[p]
 | q::l=>if p.1<=q.1 then p::q::l else q::zhS p l
def zc8{α:Type}:List (Nat×α)->List (Nat×α)
 | []=>[]
 | p::l=>zhS p (zc8 l)
def gc(E:Env)(H:zd):zd->zd
 | []=>[]
 | p::l=>if (zaX p.1 E||zaq p.1 H)=true then p::gc E H l else gc E H l
def gc1(E:Env)(H:zd):zd:=gc E H H
def zhU(ks:List Nat):Env->Env
 | []=>[]
 | p::l=>if (ks.contains p.1||decide (1000000<=p.1))=true then p::zhU ks l else zhU ks l
def gcS(S:St):St:=⟨S.env,gc1 S.env S.heap⟩
def endS(ks:List Nat)(S:St):St:=gcS ⟨zc8 (zhU ks S.env),S.heap⟩
def ztF(H:zd):zd:=if zbN H=true then zc8 H else H
def zrg:AV->AV
 | .xsl es=> .d (.sl es)
 | .d x=> .d x
 | .ref o i off=> .ref o i off
 | .osl o off len=> .osl o off len
 | .acc o es=> .acc o es
 | .pe o x=> .pe o x
 | .agg cs=> .agg cs
 | .tup vs=> .tup vs
 | .fn f cs=> .fn f cs
 | .nl b=> .nl b
 | .mpr o=> .mpr o
 | .undef=> .undef
def deX:Env->Env
 | []=>[]
 | (t,x)::l=>(t,zrg x)::deX l
theorem zTK{w:World}{R:Nat->Prop}{ι:Inj}{mk:Nat->Option Nat}{x:AV}{u:Value}(h:VA w R ι mk x u):VA w R ι mk (zrg x) u:=by
 cases x with
 | xsl es=>cases h with|xsl h=>exact .d h
 | _=>exact h
theorem zZB{t:Nat}{y:AV}:∀ {E:Env},(t,y)∈deX E->∃x,(t,x)∈E/\y=zrg x:=by
 intro E
 induction E with
 | nil=>intro h;cases h
 | cons p l ih=>
  intro h
  cases h with
  | head=>exact⟨p.2,.head _,rfl⟩
  | tail _ h=>obtain⟨x,h1,h2⟩:=ih h;exact⟨x,.tail _ h1,h2⟩
def norm1(S:St):St:=⟨zc8 (deX S.env),ztF (gc1 S.env (gc1 S.env S.heap))⟩
def norm(ks:List Nat)(S:St):St:=norm1 ⟨zf2 ks S.env,S.heap⟩
theorem zZD{α:Type}{p q:Nat×α}{l:List (Nat×α)}:q∈zhS p l↔q=p\/q∈l:=by
 induction l with
 | nil=>simp [zhS]
 | cons r l ih=>
  simp only[zhS]
  split
  ·simp
  ·simp only[zab4,ih];constructor
   ·rintro (h|h|h)
    ·exact .inr (.inl h)
    ·exact .inl h
    ·exact .inr (.inr h)
   ·rintro (h|h|h)
    ·exact .inr (.inl h)
    ·exact .inl h
    ·exact .inr (.inr h)
theorem zmS{α:Type}{q:Nat×α}{l:List (Nat×α)}:q∈zc8 l↔q∈l:=by
 induction l with
 | nil=>simp [zc8]
 | cons p l ih=>simp [zc8,zZD,ih]
theorem zZf{α:Type}{k:Nat}{p:Nat×α}{l:List (Nat×α)}(h:∀x,(p.1,x)∉l):look k (zhS p l)=if p.1=k then some p.2 else look k l:=by
 induction l with
 | nil=>rfl
 | cons r l ih=>
  have hr:r.1≠p.1:=fun e=>h r.2 (by rw[<- e];exact .head _);simp only[zhS]
  split
  ·rfl
  ·simp only[look];rw[ih fun x hx=>h x (.tail _ hx)]
   by_cases e:r.1=k
   ·rw[zabo e,zabo e,zabn (by omega)]
   ·rw[zabn e,zabn e]
theorem zXx{E:Env}{H l:zd}{p:Nat×Obj}:p∈gc E H l↔p∈l/\(zaX p.1 E||zaq p.1 H)=true:=by
 induction l with
 | nil=>simp [gc]
 | cons q l ih=>
  simp only[gc]
  split
  ·rename_i h;simp only[zab4,ih];constructor
   ·rintro (rfl|⟨h1,h2⟩)
    ·exact⟨.inl rfl,h⟩
    ·exact⟨.inr h1,h2⟩
   ·rintro⟨rfl|h1,h2⟩
    ·exact .inl rfl
    ·exact .inr ⟨h1,h2⟩
  ·rename_i h;simp only[zab4,ih];constructor
   ·rintro⟨h1,h2⟩;exact⟨.inr h1,h2⟩
   ·rintro⟨rfl|h1,h2⟩
    ·exact absurd h2 h
    ·exact⟨h1,h2⟩
theorem zZe{E:Env}{H l:zd}{o:Nat}(h:(zaX o E||zaq o H)=true):look o (gc E H l)=look o l:=by
 induction l with
 | nil=>rfl
 | cons q l ih=>
  simp only[gc]
  by_cases hq:(zaX q.1 E||zaq q.1 H)=true
  ·rw[zabo hq];simp only[look,ih]
  ·rw[zabn hq,ih];simp only[look];rw[zabn];intro e;rw[e] at hq;exact hq h
theorem Rel.gc{S:St}{a:Act}{w:World}{ι:Inj}{R:Nat->Prop}(h:Rel C S a w ι R):Rel C ⟨S.env,gc1 S.env S.heap⟩ a w ι R:=by
 have hm:∀p,(zaX p S.env||zaq p S.heap)=true->mark (gc1 S.env S.heap) p=mark S.heap p:=fun p hp=>by
  unfold mark gc1;rw[zZe hp]
 have hst:∀p,(zaX p S.env||zaq p S.heap)=true->Step w w ι ι (mark S.heap) (mark (gc1 S.env S.heap)) p:=fun p hp=>Step.other rfl (hm p hp) fun _ _ _=>rfl;have env1:∀ {t x p},(t,x)∈S.env->x.refs p=true->zaX p S.env=true:=fun {t x p} hx hp=>by
  cases hh:zaX p S.env with
  | true=>rfl
  | false=>rw[znm hx hh] at hp;cases hp
 have heap1:∀ {t x p},(t,x)∈S.heap->x.refs p=true->zaq p S.heap=true:=fun {t x p} hx hp=>by
  cases hh:zaq p S.heap with
  | true=>rfl
  | false=>rw[zhd hx hh] at hp;cases hp
 refine { h with env:=fun t x hx=> ?_,heap:=fun q ob hq=> ?_ }
 ·obtain⟨u,h1,h2⟩:=h.env t x hx;exact⟨u,h1,h2.mono (fun _ h=>h) (fun _ _=>rfl) fun p hp=>hst p (by rw[env1 hx hp];rfl)⟩
 ·have hq':=(zXx.1 hq).1;exact (h.heap q ob hq').mono (fun _ h=>h) (fun _ _=>rfl) (fun _ _ hb=>⟨hb,rfl,fun h=>h⟩) (fun h=>h) fun p hp=>hst p (by rw[heap1 hq' hp,Bool.or_true])
theorem zZE{ks:List Nat}{E:Env}{p:Nat×AV}(h:p∈zhU ks E):p∈E:=by
 induction E with
 | nil=>cases h
 | cons q l ih=>
  simp only[zhU] at h
  split at h
  ·cases h with
   | head=>exact .head _
   | tail _ h=>exact .tail _ (ih h)
  ·exact .tail _ (ih h)
theorem Rel.endS{S:St}{a:Act}{w:World}{ι:Inj}{R:Nat->Prop}(h:Rel C S a w ι R)(ks:List Nat):Rel C (endS ks S) a w ι R:=by
 have h1:Rel C ⟨zc8 (zhU ks S.env),S.heap⟩ a w ι R:=h.weaken fun t x hx=>zZE (zmS.1 hx);exact h1.gc
theorem zZy{H:zd}{o:Nat}(hn:zbN H=true):mark (zc8 H) o=mark H o:=by
 have:look o (zc8 H)=look o H:=by
  induction H with
  | nil=>rfl
  | cons p l ih=>
   obtain⟨k,ob⟩:=p;simp only[zbN,zabH,zace] at hn;simp only[zc8];rw[zZf,ih hn.2]
   ·rfl
   ·intro x hx;rw[zmS] at hx;have:=zacC.1 hn.1 _ hx;simp at this
 unfold mark;rw[this]
theorem Rel.sorted{S:St}{a:Act}{w:World}{ι:Inj}{R:Nat->Prop}(h:Rel C S a w ι R)(hn:zbN S.heap=true):Rel C ⟨zc8 S.env,zc8 S.heap⟩ a w ι R:=by
 have hm:mark (zc8 S.heap)=mark S.heap:=funext fun o=>zZy hn;refine { h with env:=fun t x hx=> ?_,heap:=fun q ob hq=> ?_ }
 ·rw[hm];exact h.env t x (zmS.1 hx)
 ·rw[hm];exact h.heap q ob (zmS.1 hq)
theorem Rel.norm1{S:St}{a:Act}{w:World}{ι:Inj}{R:Nat->Prop}(h:Rel C S a w ι R):Rel C (norm1 S) a w ι R:=by
 have h0:Rel C ⟨S.env,gc1 S.env (gc1 S.env S.heap)⟩ a w ι R:=(h.gc).gc;have h1:Rel C ⟨deX S.env,gc1 S.env (gc1 S.env S.heap)⟩ a w ι R:=by
  refine { h0 with env:=fun t x hx=> ?_ };obtain⟨y,hy,rfl⟩:=zZB hx;obtain⟨u,h2,h3⟩:=h0.env t y hy;exact⟨u,h2,zTK h3⟩
 unfold Go.Sim.norm1 ztF
 split
 ·rename_i hn;exact h1.sorted hn
 ·exact { h1 with env:=fun t x hx=>h1.env t x (zmS.1 hx) }
theorem Rel.norm{S:St}{a:Act}{w:World}{ι:Inj}{R:Nat->Prop}(h:Rel C S a w ι R)(ks:List Nat):Rel C (norm ks S) a w ι R:=(h.kill ks).norm1
end Go.Sim
