/-
  Code, and one operation.
-/
import Derived.Test.YtnmcgdpmikhohaaGreatBfc46727
import Derived.RegionTactic
set_option linter.unusedSimpArgs false
set_option linter.unusedVariables false
set_option maxHeartbeats 10000000
set_option maxRecDepth 100000
namespace Go.Sim
open Go (World Value Addr TypeId Act)
variable {P:Program}
abbrev zaU:=FuncId->List AV->zd->Option (AV×zd)
def zbJ(H:zd):List Bool->List AV->Option (List AV)
 | _,[]=>some []
 | [],x::xs=>(toD H x).bind fun d=>(zbJ H [] xs).map (.d d:: ·)
 | true::ms,x::xs=>(zbJ H ms xs).map (x:: ·)
 | false::ms,x::xs=>(toD H x).bind fun d=>(zbJ H ms xs).map (.d d:: ·)
def zaz:List Bool->List AV->List Nat
 | _,[]=>[]
 | [],x::xs=>x.objs++zaz [] xs
 | true::ms,_::xs=>zaz ms xs
 | false::ms,x::xs=>x.objs++zaz ms xs
def zch:List Bool->List AV->List Nat
 | _,[]=>[]
 | [],_::_=>[]
 | true::ms,x::xs=>x.objs++zch ms xs
 | false::ms,_::xs=>zch ms xs
def zcT(ns:List Nat):List Nat->List Nat
 | []=>ns
 | x::xs=>if ns.contains x then zcT ns xs else zcT (ns++[x]) xs
def zk5(H:zd)(o:Nat):List Nat:=match look o H with|some (.row es)=>AV.objsL es|_=>[]
def zfm(H:zd)(ns:List Nat):List Nat:=zcT ns (ns.flatMap (zk5 H))
def zbF(H:zd)(ms:List Bool)(args:List AV):List Nat:=zfm H (zfm H (zcT [] (zch ms args)))
def zkM(H:zd)(ns:List Nat):Bool:=ns.all fun o=>match look o H with|some (.row es)=>(AV.objsL es).all ns.contains|_=>false
def pos(o:Nat):List Nat->Nat
 | []=>0
 | x::xs=>if x=o then 0 else pos o xs+1
def zaR(ns:List Nat)(o:Nat):Nat:=1000000+pos o ns
def zdY(ns:List Nat)(dst:Nat)(n:Nat):Nat:=if n<1000000 then dst+10000 * n else ns.getD (n - 1000000) 0
def zbY(H:zd)(ns:List Nat):zd:=ns.map fun o=>(zaR ns o,((look o H).getD (.acc 0)).ren (zaR ns))
def zme(E:Env)(H:zd)(dst:Nat)(ns:List Nat)(os:zd):Bool:=
 os.all fun p=>decide (1000000<=p.1)||(!zaX (dst+10000 * p.1) E&& !zaq (dst+10000 * p.1) H&& !ns.contains (dst+10000 * p.1))
def zj9(p:AV×zd):Bool:=p.1.flat&&p.2.all fun q=>q.2.flat
def zhC(a b:List Nat):Bool:=a.all fun o=> !b.contains o
def zc4(ρ:Nat->Nat)(os:zd):zd:=os.map fun p=>(ρ p.1,p.2.ren ρ)
def zeI(E:Env)(H:zd)(dst:Nat)(ns dob:List Nat)(p:AV×zd):Option (AV×zd):=
 if (zme E H dst ns p.2&&(dob.isEmpty||zj9 p))=true then some (p.1.ren (zdY ns dst),zc4 (zdY ns dst) p.2) else none
def zfJ(F:zaU)(E:Env)(H:zd)(dst:Nat)(ns dob:List Nat)(f:FuncId)(zabm:List AV):Option (AV×zd):=
 if (zkM H ns&&zhC dob ns)=true then (F f (zabm.map (AV.ren (zaR ns))) (zbY H ns)).bind (zeI E H dst ns dob) else none
def zcu(F:zaU)(E:Env)(H:zd)(dst:Nat)(ms:List Bool)(f:FuncId)(args:List AV):Option (AV×zd):=
 (zbJ H ms args).bind (zfJ F E H dst (zbF H ms args) (zaz ms args) f)
def zmf(ms:List Bool)(n:Nat):Bool:=(ms.drop n).headD false
def zbn(H:zd)(os:List Nat):zd:=os.map fun o=>(o,.frz (mark H o))
def zgj(H:zd)(os:List Nat):Bool:=os.all fun o=>(look o H).isSome
def zgi(F:zaU)(E:Env)(H:zd)(dst:Nat)(ms:List Bool)(f:FuncId)(dob:List Nat)(zabm:List AV):Option (AV×zd):=
 if zgj H dob=true then (zcu F E (zak (zbn H dob) H) dst ms f zabm).map fun p=>(p.1,p.2++zbn H dob) else none
def zbr(F:zaU)(E:Env)(H:zd)(dst:Nat)(ms:List Bool)(f:FuncId)(args:List AV):Option (AV×zd):=
 if zmf ms args.length=true then (zbJ H ms args).bind (zgi F E H dst ms f (zaz ms args)) else zcu F E H dst ms f args
structure WF(k:Nat)(r:AV)(os:zd):Prop where
 names:∀n,(look n os).isSome=true->n<4\/(1000000<=n/\n<1000000+k)
 keep:∀i,i<k->(∃es,look (1000000+i) os=some (.row es))\/look (1000000+i) os=some (.frz none)
 res:∀q,r.refs q=true->(look q os).isSome=true
 resH:∀n ob,(n,ob)∈os->∀q,ob.refs q=true->(look q os).isSome=true
def FOK(P:Program)(F:zaU):Prop:=∀f args os r os',F f args os=some (r,os')->(∀p∈os,∃es,p.2= .row es)->(∀i p,os[i]? = some p->p.1=1000000+i)->zeJ P f=true/\GF P f args os r os'/\WF os.length r os'
theorem zt3:∀(xs ns:List Nat),ns.Nodup->(zcT ns xs).Nodup:=by
 intro xs
 induction xs with
 | nil=>intro ns h;exact h
 | cons x xs ih=>
  intro ns h;simp only[zcT]
  split
  ·exact ih ns h
  ·rename_i hx;refine ih _ (zac6.2 ⟨h,by simp,?_⟩);rintro a ha b hb rfl;simp at hb;subst hb;simp at hx;exact hx ha
theorem zfG:∀(xs ns:List Nat) {o:Nat},o∈ns->o∈zcT ns xs:=by
 intro xs
 induction xs with
 | nil=>intro ns o h;exact h
 | cons x xs ih=>
  intro ns o h;simp only[zcT]
  split
  ·exact ih ns h
  ·exact ih _ (by simp [h])
theorem zDt:∀(xs ns:List Nat) {o:Nat},o∈xs->o∈zcT ns xs:=by
 intro xs
 induction xs with
 | nil=>intro ns o h;cases h
 | cons x xs ih=>
  intro ns o h;simp only[zcT]
  cases h with
  | head=>
   split
   ·rename_i hx;exact zfG xs ns (by simpa using hx)
   ·exact zfG xs _ (by simp)
  | tail _ h=>
   split
   ·exact ih _ h
   ·exact ih _ h
theorem zsQ(H:zd)(ms:List Bool)(args:List AV):(zbF H ms args).Nodup:=zt3 _ _ (zt3 _ _ (zt3 _ _ zad7))
theorem zZW{H:zd}{ms:List Bool}{args:List AV}{o:Nat}(h:o∈zch ms args):o∈zbF H ms args:=zfG _ _ (zfG _ _ (zDt _ _ h))
theorem zm7{o:Nat}:∀ {ns:List Nat},o∈ns->ns[pos o ns]? = some o:=by
 intro ns
 induction ns with
 | nil=>intro h;cases h
 | cons x xs ih=>
  intro h;simp only[pos]
  split
  ·rename_i e;subst e;rfl
  ·rename_i e
   cases h with
   | head=>exact absurd rfl e
   | tail _ h=>simpa using ih h
theorem zgs{o:Nat}{ns:List Nat}(h:o∈ns):pos o ns<ns.length:=(zabB.1 (zm7 h)).1
theorem zMZ{ns:List Nat}(hn:ns.Nodup){i:Nat}{o:Nat}(h:ns[i]? = some o):pos o ns=i:=by
 have h1:=zm7 (zabK h);have hi:=(zabB.1 h).1;have hp:=(zabB.1 h1).1;have e1:=(zabB.1 h).2;have e2:=(zabB.1 h1).2;exact (List.getElem_inj hn).1 (e2.trans e1.symm)
theorem zC1{ns:List Nat}{dst o:Nat}(h:o∈ns):zdY ns dst (zaR ns o)=o:=by
 have h0:¬zaR ns o<1000000:=by simp [zaR]
 unfold zdY;rw[zabn h0];simp [zaR,zab0,zm7 h]
theorem zsT{H:zd}{ns:List Nat}(hn:ns.Nodup)(i:Nat)(p:Nat×Obj)(h:(zbY H ns)[i]? = some p):p.1=1000000+i/\∃o,ns[i]? = some o/\p.2=((look o H).getD (.acc 0)).ren (zaR ns):=by
 simp only[zbY,zabI] at h;obtain⟨o,ho,rfl⟩:=zabr.1 h;exact⟨by simp [zaR,zMZ hn ho],o,ho,rfl⟩
theorem zsf{α:Type}{k:Nat}{x:α}{l:List (Nat×α)}(h:(k,x)∈l):(look k l).isSome=true:=by
 obtain⟨y,hy⟩:=zZg h;simp [hy]
theorem zZh{H:zd}{ns:List Nat}{o:Nat}(h:o∈ns):look (zaR ns o) (zbY H ns)=some (((look o H).getD (.acc 0)).ren (zaR ns)):=by
 have key:∀(l:List Nat),(∀x∈l,x∈ns)->o∈l->look (zaR ns o) (l.map fun o=>(zaR ns o,((look o H).getD (.acc 0)).ren (zaR ns)))=some (((look o H).getD (.acc 0)).ren (zaR ns)):=by
  intro l
  induction l with
  | nil=>intro _ h;cases h
  | cons x l ih=>
   intro hs ho;simp only[zabs,look]
   by_cases e:zaR ns x=zaR ns o
   ·have hx:x=o:=by
       have h1:=zC1 (dst:=0) (hs x (.head _));rw[e,zC1 h] at h1;exact h1.symm
    subst hx;simp
   ·rw[zabn e];refine ih (fun y hy=>hs y (.tail _ hy)) ?_
    cases ho with
    | head=>exact absurd rfl e
    | tail _ ho=>exact ho
 exact key ns (fun _ h=>h) h
theorem zsP{H:zd}{ns:List Nat}{n:Nat}{ob:Obj}(h:(n,ob)∈zbY H ns):∃o∈ns,n=zaR ns o/\ob=((look o H).getD (.acc 0)).ren (zaR ns):=by
 simp only[zbY,zaby] at h;obtain⟨o,ho,he⟩:=h
 cases he
 exact⟨o,ho,rfl,rfl⟩
theorem ztr{x:AV}{o:Nat}(h:o∈x.objs):x.refs o=true:=by
 have key:∀x:AV,∀o,o∈x.objs->x.refs o=true:=by
  intro x;refine AV.rec (motive_1:=fun x=>∀o,o∈x.objs->x.refs o=true) (motive_2:=fun xs=>∀o,o∈AV.objsL xs->AV.refsL o xs=true) ?_ ?_ ?_ ?_ ?_ ?_ ?_ ?_ ?_ ?_ ?_ ?_ ?_ ?_ x
  all_goals (intros;simp_all [AV.objs,AV.objsL,AV.refs,AV.refsL])
  rename_i h1 h2 o h
  rcases h with h|h
  ·exact .inl (h1 _ h)
  ·exact .inr (h2 _ h)
 exact key x o h
mutual
theorem ztu:∀(x:AV) (o:Nat),x.refs o=true->o∈x.objs
 | .d _,_,h=>by simp [AV.refs] at h
 | .ref p _ _,o,h=>by simp [AV.refs] at h;simp [AV.objs,h]
 | .osl p _ _,o,h=>by simp [AV.refs] at h;simp [AV.objs,h]
 | .acc p _,o,h=>by simp [AV.refs] at h;simp [AV.objs,h]
 | .pe p _,o,h=>by simp [AV.refs] at h;simp [AV.objs,h]
 | .xsl _,_,h=>by simp [AV.refs] at h
 | .agg cs,o,h=>by simp only[AV.refs] at h;simp only[AV.objs];exact zjf cs o h
 | .tup cs,o,h=>by simp only[AV.refs] at h;simp only[AV.objs];exact zjf cs o h
 | .fn _ cs,o,h=>by simp only[AV.refs] at h;simp only[AV.objs];exact zjf cs o h
 | .nl _,_,h=>by simp [AV.refs] at h
 | .mpr p,o,h=>by simp [AV.refs] at h;simp [AV.objs,h]
 | .undef,_,h=>by simp [AV.refs] at h
theorem zjf:∀(xs:List AV) (o:Nat),AV.refsL o xs=true->o∈AV.objsL xs
 | [],_,h=>by simp [AV.refsL] at h
 | x::xs,o,h=>by
  simp only[AV.refsL,zacj] at h;simp only[AV.objsL,zabS]
  rcases h with h|h
  ·exact .inl (ztu x o h)
  ·exact .inr (zjf xs o h)
end
theorem zGx{H:zd}:∀ {ms:List Bool} {xs zabm:List AV},zbJ H ms xs=some zabm->zabm.length=xs.length/\∀(i:Nat) (x y:AV),xs[i]? = some x->zabm[i]? = some y->
    (y=x/\∀o∈x.objs,o∈zch ms xs)\/(∃d,toD H x=some d/\y= .d d/\∀o∈x.objs,o∈zaz ms xs):=by
 intro ms xs
 induction xs generalizing ms with
 | nil=>intro zabm h;cases ms<;>(simp only[zbJ,Option.some.injEq] at h;subst h;simp)
 | cons x xs ih=>
  intro zabm h;have data:∀(ms':List Bool),(∀o,o∈x.objs->o∈zaz ms (x::xs))->(∀o,o∈zaz ms' xs->o∈zaz ms (x::xs))->(∀o,o∈zch ms' xs->o∈zch ms (x::xs))->((toD H x).bind fun d=>(zbJ H ms' xs).map (.d d:: ·))=some zabm->zabm.length=(x::xs).length/\∀(i:Nat) (x' y:AV),(x::xs)[i]? = some x'->zabm[i]? = some y->
      (y=x'/\∀o∈x'.objs,o∈zch ms (x::xs))\/(∃d,toD H x'=some d/\y= .d d/\∀o∈x'.objs,o∈zaz ms (x::xs)):=by
   intro ms' hd1 hd2 hk h;obtain⟨d,hd,h⟩:=zabp.1 h;obtain⟨as',h',rfl⟩:=zabr.1 h;obtain⟨h1,h2⟩:=ih h';refine⟨by simp [h1],fun i a b ha hb=> ?_⟩
   match i,ha,hb with
   | 0,ha,hb=>simp at ha hb;subst ha hb;exact .inr ⟨d,hd,rfl,fun o ho=>hd1 o ho⟩
   | n+1,ha,hb=>
    rcases h2 n a b (by simpa using ha) (by simpa using hb) with ⟨h3,h4⟩|⟨d',h3,h4,h5⟩
    ·exact .inl ⟨h3,fun o ho=>hk o (h4 o ho)⟩
    ·exact .inr ⟨d',h3,h4,fun o ho=>hd2 o (h5 o ho)⟩
  match ms,h with
  | [],h=>exact data [] (fun o ho=>by simp [zaz,ho]) (fun o ho=>by simp [zaz,ho]) (fun o ho=>by cases xs<;>simp [zch] at ho) h
  | false::ms,h=>exact data ms (fun o ho=>by simp [zaz,ho]) (fun o ho=>by simp [zaz,ho]) (fun o ho=>by simp [zch,ho]) h
  | true::ms,h=>
   simp only[zbJ] at h;obtain⟨as',h',rfl⟩:=zabr.1 h;obtain⟨h1,h2⟩:=ih h';refine⟨by simp [h1],fun i a b ha hb=> ?_⟩
   match i,ha,hb with
   | 0,ha,hb=>simp at ha hb;subst ha hb;exact .inl ⟨rfl,fun o ho=>by simp [zch,ho]⟩
   | n+1,ha,hb=>
    rcases h2 n a b (by simpa using ha) (by simpa using hb) with ⟨h3,h4⟩|⟨d',h3,h4,h5⟩
    ·exact .inl ⟨h3,fun o ho=>by simp [zch,h4 o ho]⟩
    ·exact .inr ⟨d',h3,h4,fun o ho=>by simp [zaz,h5 o ho]⟩
theorem zMd{ρ:Nat->Nat}{os:zd}{n:Nat}(h:∀m,(look m os).isSome=true->ρ m=ρ n->m=n):look (ρ n) (zc4 ρ os)=(look n os).map (Obj.ren ρ):=by
 induction os with
 | nil=>rfl
 | cons p os ih=>
  obtain⟨m,ob⟩:=p;have ih':(∀m',(look m' os).isSome=true->ρ m'=ρ n->m'=n)->look (ρ n) (zc4 ρ os)=(look n os).map (Obj.ren ρ):=ih;simp only[zc4,zabs,look] at ih' ⊢
  by_cases e:m=n
  ·subst e;simp
  ·have hne:ρ m≠ρ n:=fun he=>e (h m (by simp [look]) he);rw[zabn hne,zabn e];refine ih' fun m' hm' he=>h m' ?_ he;simp only[look]
   split
   ·rfl
   ·exact hm'
theorem zBk{δ H:zd}{p:Nat×Obj}(h:p∈zak δ H):p∈δ\/(p∈H/\look p.1 δ=none):=by
 induction δ with
 | nil=>exact .inr ⟨h,rfl⟩
 | cons q δ ih=>
  obtain⟨o,ob⟩:=q;simp only[zak,zP] at h
  cases h with
  | head=>exact .inl (.head _)
  | tail _ h=>
   obtain⟨h1,h2⟩:=zi1.1 h
   rcases ih h1 with h3|⟨h3,h4⟩
   ·exact .inl (.tail _ h3)
   ·refine .inr ⟨h3,?_⟩;simp only[look];rw[zabn (Ne.symm h2)];exact h4
theorem zZj{ρ:Nat->Nat}{os:zd}{o:Nat}(h:look o (zc4 ρ os)=none):∀n,(look n os).isSome=true->ρ n≠o:=by
 induction os with
 | nil=>intro n hn;cases hn
 | cons p os ih=>
  obtain⟨m,ob⟩:=p;simp only[zc4,zabs,look] at h
  split at h
  ·cases h
  ·rename_i hne;intro n hn;simp only[look] at hn
   split at hn
   ·rename_i e;subst e;exact hne
   ·exact ih h n hn
end Go.Sim

namespace Go.Sim
open Go (World Value Addr TypeId Act)
variable {P:Program}
theorem zQ2{C:Ctx}{S:St}{a:Act}{w:World}{ι:Inj}{R:Nat->Prop}(hr:Rel C S a w ι R){x:AV}{u:Value}(h:VA w R ι (mark S.heap) x u){d:D}{os:List Nat}(hd:toD S.heap x=some d)(ho:∀o∈x.objs,o∈os):
    Rd w (zeE R ι os) (.v d u):=znK hr h hd ho
theorem zGw {F:zaU} (hF:FOK P F) {C:Ctx} {S:St} {a:Act} {w:World} {ι:Inj} {R:Nat->Prop} {dst:Nat} {ms:List Bool} {f:FuncId} {args:List AV} {v:AV} {δ:zd} {us:List Value}
    (h:zcu F S.env S.heap dst ms f args=some (v,δ)) (hr:Rel C S a w ι R) (hv:VAs w R ι (mark S.heap) args us):
    Calls P f us.toArray w fun e w'=>∃u ι' R',e= .returned u/\Rel C ⟨S.env,zak δ S.heap⟩ a w' ι' R'/\VA w' R' ι' (mark (zak δ S.heap)) v u:=by
 unfold zcu at h;obtain⟨zabm,has,h⟩:=zabp.1 h;have hnod:(zbF S.heap ms args).Nodup:=zsQ _ _ _;have hkept:∀o,o∈zch ms args->o∈zbF S.heap ms args:=fun o ho=>zZW ho;obtain⟨hlen,hget⟩:=zGx has;clear has;generalize hns:zbF S.heap ms args=ns at *;generalize hdob:zaz ms args=dob at *;unfold zfJ at h
 split at h
 ·rename_i hc;simp only[zabH] at hc;obtain⟨hok,hdis⟩:=hc;obtain⟨⟨r,os'⟩,hf,h⟩:=zabp.1 h;unfold zeI at h
  split at h
  ·rename_i hc2;simp only[zabH] at hc2;obtain⟨hfresh,hflat⟩:=hc2
   cases h
   generalize hρ:zdY ns dst=ρ;have hrow:∀o∈ns,∃es,look o S.heap=some (.row es)/\∀q∈AV.objsL es,q∈ns:=fun o ho=>by
    have:=zabO.1 hok o ho
    split at this
    ·rename_i es hes;exact⟨es,hes,fun q hq=>by simpa using zabO.1 this q hq⟩
    ·cases this
   have hrc:∀o,o∈ns->ρ (zaR ns o)=o:=fun o ho=>by rw[<- hρ];exact zC1 ho
   have hget0:∀n ob,(n,ob)∈zbY S.heap ns->∃o∈ns,n=zaR ns o/\∃es,look o S.heap=some (.row es)/\ob=(Obj.row es).ren (zaR ns):=fun n ob hm=>by
    obtain⟨o,ho,h1,h2⟩:=zsP hm;obtain⟨es,hes,_⟩:=hrow o ho;exact⟨o,ho,h1,es,hes,by rw[h2,hes];rfl⟩
   have hlook0:∀o∈ns,∃es,look o S.heap=some (.row es)/\look (zaR ns o) (zbY S.heap ns)=some ((Obj.row es).ren (zaR ns)):=fun o ho=>by
    obtain⟨es,hes,_⟩:=hrow o ho;exact⟨es,hes,by rw[zZh ho,hes];rfl⟩
   have hosrow:∀p∈zbY S.heap ns,∃es,p.2= .row es:=fun⟨n,ob⟩ hm=>by
    obtain⟨o,_,_,es,_,h2⟩:=hget0 n ob hm;exact⟨_,h2⟩
   obtain⟨_,hG,hW⟩:=hF f _ _ r os' hf hosrow (fun i p hp=>(zsT hnod i p hp).1);have hnlen:(zbY S.heap ns).length=ns.length:=by simp [zbY]
   rw[hnlen] at hW
   -- the fresh names
   have hfr:∀n,(look n os').isSome=true->n<1000000->zho (ρ n) S/\ρ n∉ns/\ρ n=dst+10000 * n:=fun n hn hlt=>by
    obtain⟨ob,hob⟩:=zacV.1 hn;have:=zabO.1 hfresh _ (zav hob);have h0:ρ n=dst+10000 * n:=by rw[<- hρ];simp [zdY,hlt]
    simp only[zacj,zabH,zace,decide_eq_true_eq] at this
    rcases this with h1|⟨⟨h1,h2⟩,h3⟩
    ·omega
    ·exact⟨by rw[h0];exact⟨h1,h2⟩,by rw[h0];simpa using h3,h0⟩
   have hgiven:∀n,(look n os').isSome=true->1000000<=n->∃o∈ns,n=zaR ns o/\ρ n=o:=fun n hn hge=>by
    rcases hW.names n hn with h1|⟨_,h1⟩
    ·omega
    ·obtain⟨o,hi⟩:∃o,ns[n - 1000000]? = some o:=⟨_,zabx (by omega)⟩;have hm:=zabK hi;have hp:=zMZ hnod hi;have hn':n=zaR ns o:=by simp only[zaR,hp];omega
     refine⟨o,hm,hn',?_⟩;rw[hn',hrc _ hm]
   have hinj:∀n,(look n os').isSome=true->∀m,(look m os').isSome=true->ρ m=ρ n->m=n:=fun n hn m hm e=>by
    rcases zadm n 1000000 with h1|h1<;>rcases zadm m 1000000 with h2|h2
    ·have e1:=(hfr n hn h1).2.2;have e2:=(hfr m hm h2).2.2;omega
    ·obtain⟨o,ho,_,h3⟩:=hgiven m hm h2;rw[h3] at e;rw[e] at ho;exact absurd ho (hfr n hn h1).2.1
    ·obtain⟨o,ho,_,h3⟩:=hgiven n hn h1;rw[h3] at e;rw[<- e] at ho;exact absurd ho (hfr m hm h2).2.1
    ·obtain⟨o,ho,h3,h4⟩:=hgiven n hn h1;obtain⟨o',ho',h5,h6⟩:=hgiven m hm h2;rw[h3,h5, <- h4, <- h6,e]
   let ι0:Inj:=fun n=>if (look n (zbY S.heap ns)).isSome=true then ι (ρ n) else none
   have hsome0:∀n,(look n (zbY S.heap ns)).isSome=true->∃o∈ns,n=zaR ns o/\ρ n=o:=fun n hn=>by
    obtain⟨ob,hob⟩:=zacV.1 hn;obtain⟨o,ho,h1,_⟩:=hget0 n ob (zav hob);exact⟨o,ho,h1,by rw[h1,hrc o ho]⟩
   have hι0:∀n b s,ι0 n=some (b,s)->(look n (zbY S.heap ns)).isSome=true/\ι (ρ n)=some (b,s):=fun n b s hh=>by
    simp only[ι0] at hh
    split at hh
    ·rename_i h1;exact⟨h1,hh⟩
    ·cases hh
   have hmS:∀o∈ns,mark S.heap o=none:=fun o ho=>by
    obtain⟨es,hes,_⟩:=hrow o ho;simp [mark,hes]
   have hmo:∀o∈ns,mark (zbY S.heap ns) (zaR ns o)=none:=fun o ho=>by
    obtain⟨es,_,h2⟩:=hlook0 o ho;simp [mark,h2,Obj.ren]
   have hs0:∀o∈ns,(look (zaR ns o) (zbY S.heap ns)).isSome=true:=fun o ho=>by
    obtain⟨es,_,h2⟩:=hlook0 o ho;simp [h2]
   have toC:∀q∈ns,(∀p,ι q=some p->ι0 (zaR ns q)=some p)/\mark (zbY S.heap ns) (zaR ns q)=mark S.heap q:=fun q hq=>by
    refine⟨fun p hp=> ?_,by rw[hmo q hq,hmS q hq]⟩;simp only[ι0];rw[zabo (hs0 q hq),hrc q hq];exact hp
   have hRn:∀o∈ns,∀b s,ι o=some (b,s)->¬R b:=fun o ho b s hh=>by
    obtain⟨es,hes,_⟩:=hrow o ho
    cases hr.heap _ _ (zav hes) with
    | row k1 k2=>rw[hh] at k1;cases k1;exact k2
   let Rc:Nat->Prop:=zeE R ι dob
   have hdisj:∀o∈dob,o∉ns:=fun o ho=>by
    have:=zabO.1 hdis o ho;simpa using this
   have hRcn:∀o∈ns,∀b s,ι o=some (b,s)->¬Rc b:=fun o ho b s hh=>by
    rintro (hb|⟨q,s',hq,hq'⟩)
    ·exact hRn o ho b s hh hb
    ·have:=hr.inj _ _ _ _ _ hh hq';subst this;exact hdisj _ hq ho
   have hRclt:∀b,Rc b->b<w.heap.size:=by
    rintro b (hb|⟨o,s,_,hb⟩)
    ·exact hr.rlt b hb
    ·exact (hr.own _ _ _ hb).2
   refine (hG w Rc ι0 us hRclt (fun n b s hh=> ?_) (fun n n' b s s' h1 h2=> ?_) (fun n ob hm=> ?_) ⟨by simp [hlen,hv.1],fun i x u h1 h2=> ?_⟩).mono fun e w' hh=> ?_
   ·obtain⟨k1,k2⟩:=hι0 n b s hh;obtain⟨o,ho,_,k3⟩:=hsome0 n k1;rw[k3] at k2;exact⟨(hr.own _ b s k2).2,hRcn o ho b s k2,k1⟩
   ·obtain⟨k1,k2⟩:=hι0 _ _ _ h1;obtain⟨k3,k4⟩:=hι0 _ _ _ h2;obtain⟨o,ho,k5,k6⟩:=hsome0 n k1;obtain⟨o',ho',k7,k8⟩:=hsome0 n' k3;have:=hr.inj _ _ _ _ _ k2 k4;rw[k6,k8] at this;rw[k5,k7,this]
   ·obtain⟨o,ho,h1,es,hes,h2⟩:=hget0 n ob hm;obtain⟨es',hes',hcl⟩:=hrow o ho;rw[hes] at hes';cases hes';have hob0:=(hr.heap _ _ (zav hes)).toR (R':=R) (.inl fun _ h=>h) (fun _ h=>h);have hobR:OB w Rc ι (mark S.heap) o (.row es):=by
     cases hr.heap _ _ (zav hes) with
     | row k1 k2 k3 k4 k5 k6 k7=>exact .row k1 (hRcn o ho _ _ k1) k3 k4 k5 k6 fun i e he j x hx=>let ⟨j1,q,j2,j3⟩:=k7 i e he j x hx;⟨j1,q,j2,j3.toR (.inl fun _ h=> .inl h)⟩
    have:=hobR.ren (ρ:=zaR ns) (ι':=ι0) (mk':=mark (zbY S.heap ns)) (by simp only[ι0];rw[zabo (hs0 o ho),hrc o ho]) fun q hq=>toC q (hcl q (zjf es q hq));rw[h1,h2];exact this
   ·rw[zabI] at h1;obtain⟨y,hy,rfl⟩:=zabr.1 h1;have hlt:=(zabB.1 hy).1;rw[hlen] at hlt;have hx:args[i]? = some args[i]:=zabx hlt
    rcases hget i _ y hx hy with ⟨h3,h4⟩|⟨d,h3,h4,h5⟩
    ·subst h3;exact ((hv.2 i _ u hx h2).toR (.inl fun _ h=> .inl h)).ren fun q hq=>toC q (hkept q (h4 q (ztu _ q hq)))
    ·subst h4;exact .d (zQ2 hr (hv.2 i _ u hx h2) h3 h5)
   obtain⟨u,ι',R',rfl,e1,e2,e3,e4,e5,e6,e7,e8,e9,e10,e11,e12,e13⟩:=hh
   let R2:Nat->Prop:=fun b=>R' b/\(R b\/w.heap.size<=b\/∃n s,ι0 n=some (b,s)/\look n os'=some (.frz none))
   have hR2:∀b,R b->R2 b:=fun b hb=>⟨e7 b (.inl hb),.inl hb⟩;have hlow:(∀b,R' b->R2 b)\/zj9 (r,os')=true:=by
    simp only[zacj,zadJ] at hflat
    rcases hflat with h0|h0
    ·left;intro b hb;refine⟨hb,?_⟩
     rcases (e8 b hb).2 with h1|h1
     ·rcases h1 with h1|⟨o,s,ho,_⟩
      ·exact .inl h1
      ·rw[h0] at ho;cases ho
     ·exact .inr h1
    ·exact .inr h0
   have hlowV:VA w' R2 ι' (mark os') r u:=e13.toR (hlow.imp id fun hf=>by simp only[zj9,zabH] at hf;exact hf.1);have hlowO:∀n ob,(n,ob)∈os'->OB w' R2 ι' (mark os') n ob:=fun n ob hm=>(e12 n ob hm).toR (hlow.imp id fun hf=>by
    simp only[zj9,zabH] at hf;exact zabO.1 hf.2 _ hm) fun b hb=>hb.1
   let im:Nat->Prop:=fun o=>∃n,(look n os').isSome=true/\ρ n=o
   have him:∀n,(look n os').isSome=true->im (ρ n):=fun n h1=>⟨n,h1,rfl⟩;have hcase0:∀o,(∃n,(look n os').isSome=true/\ρ n=o)\/¬im o:=fun o=>Classical.em _;have:∃back:Nat->Nat,∀n,(look n os').isSome=true->back (ρ n)=n:=by
    have hpt:∀o,∃m,∀n,(look n os').isSome=true->ρ n=o->m=n:=fun o=>by
     rcases hcase0 o with ⟨n,h1,h2⟩|h1
     ·exact⟨n,fun m hm h3=>hinj m hm n h1 (h2.trans h3.symm)⟩
     ·exact⟨0,fun m hm h3=>absurd ⟨m,hm,h3⟩ h1⟩
    obtain⟨g,hg⟩:=Classical.axiomOfChoice hpt;exact⟨g,fun n hn=>hg _ n hn rfl⟩
   obtain⟨back,hback⟩:=this;have hex:∃ι2:Inj,(∀n,(look n os').isSome=true->ι2 (ρ n)=ι' n)/\(∀o,¬im o->ι2 o=ι o):=by
    refine⟨fun o=> @ite _ (im o) (Classical.propDecidable _) (ι' (back o)) (ι o),fun n hn=> ?_,fun o ho=> ?_⟩
    ·show @ite _ (im (ρ n)) (Classical.propDecidable _) (ι' (back (ρ n))) (ι (ρ n))=ι' n;rw[zabo (him n hn),hback n hn]
    ·show @ite _ (im o) (Classical.propDecidable _) (ι' (back o)) (ι o)=ι o;rw[zabn ho]
   obtain⟨ι2,hι2,hι2n⟩:=hex;have hcase:∀o,(∃n,(look n os').isSome=true/\ρ n=o)\/¬im o:=fun o=>Classical.em _;have hm2:∀n,(look n os').isSome=true->mark (zak (zc4 ρ os') S.heap) (ρ n)=mark os' n:=fun n h1=>by
    obtain⟨ob,hob⟩:=zacV.1 h1;unfold mark;rw[zdi,zMd (hinj n h1),hob]
    cases ob<;>rfl
   have hm2n:∀o,¬im o->mark (zak (zc4 ρ os') S.heap) o=mark S.heap o:=fun o h1=>by
    unfold mark;rw[zdi]
    cases hl:look o (zc4 ρ os') with
    | none=>rfl
    | some ob=>
     exfalso;obtain⟨⟨n,ob'⟩,hm,he⟩:=zaby.1 (zav hl);simp only[Prod.mk.injEq] at he;exact h1 (he.1 ▸ him n (zsf hm))
   have hKR:zbK R w w':=fun b hb=>e6 b (hr.rlt b hb) fun n s hn=>by
    obtain⟨k1,k2⟩:=hι0 _ _ _ hn;obtain⟨o,ho,_,k3⟩:=hsome0 n k1;rw[k3] at k2;exact hRn o ho b s k2 hb
   have hkeepc:∀o∈ns,(look (zaR ns o) os').isSome=true/\mark os' (zaR ns o)=none:=fun o ho=>by
    rcases hW.keep (pos o ns) (zgs ho) with ⟨es,hes⟩|hes
    ·exact⟨by simp only[zaR];rw[hes];rfl,by simp only[zaR,mark];rw[hes]⟩
    ·exact⟨by simp only[zaR];rw[hes];rfl,by simp only[zaR,mark];rw[hes]⟩
   have hst:∀p,¬zho p S->Step w w' ι ι2 (mark S.heap) (mark (zak (zc4 ρ os') S.heap)) p:=fun p hp=>by
    rcases hcase p with ⟨n,h1,rfl⟩|h1
    ·rcases zadm n 1000000 with h2|h2
     ·exact absurd (hfr n h1 h2).1 hp
     ·obtain⟨o,ho,h3,h4⟩:=hgiven n h1 h2;have k0:=hs0 o ho;obtain⟨_,hes⟩:=hkeepc o ho;rw[<- h3] at hes k0;have k1:mark S.heap (ρ n)=none:=by rw[h4];exact hmS o ho
      have k2:mark (zak (zc4 ρ os') S.heap) (ρ n)=none:=by rw[hm2 n h1];exact hes
      refine⟨fun b s hh=> ?_,fun b s hh=> ?_,fun m hh=>(by rw[k1] at hh;cases hh),fun m hh=>(by rw[k2] at hh;cases hh)⟩
      ·rw[hι2 n h1];exact e9 n b s (by simp only[ι0,zabo k0];exact hh)
      ·rw[k1];simpa using e5 b (hr.own _ _ _ hh).2
    ·refine Step.other (hι2n p h1) (hm2n p h1) fun b s hh=>e6 b (hr.own _ _ _ hh).2 fun n s' hn=> ?_;obtain⟨k1,k2⟩:=hι0 _ _ _ hn;obtain⟨o,ho,k3,k4⟩:=hsome0 n k1;have:=hr.inj _ _ _ _ _ hh k2;subst this;exact h1 ⟨n,by rw[k3];exact (hkeepc o ho).1,rfl⟩
   have hnk:∀n b s,ι0 n=some (b,s)->¬C.keep b:=fun n b s hn=>(hr.own _ b s (hι0 n b s hn).2).1;have hrel:Rel C ⟨S.env,zak (zc4 ρ os') S.heap⟩ a w' ι2 R2:=by
    refine hr.change e1 e2 e3 e4 e5 (fun b hb=>e6 b (zaco (hr.keepLt b hb) hr.grow) fun o s ho=>hnk o b s ho hb) hR2 (fun b hb=>(e8 b hb.1).1) (fun b hb=> ?_) hKR ?_ ?_ (fun p hp=>hst p fun hu=>by rw[hu.1] at hp;cases hp) ?_
    ·rcases hb.2 with h1|h1|⟨n,s,h1,_⟩
     ·exact hr.rok b h1
     ·exact .inr fun hkp=>by have:=hr.keepLt b hkp;have:=hr.grow;omega
     ·exact .inr (hnk n b s h1)
    ·intro o b s ho
     rcases hcase o with ⟨n,h1,rfl⟩|h1
     ·rw[hι2 n h1] at ho;obtain⟨k1,k2|k2⟩:=e10 n b s ho
      ·exact⟨hnk n b s k2,k1⟩
      ·exact⟨fun hkp=>by have:=hr.keepLt b hkp;have:=hr.grow;omega,k1⟩
     ·rw[hι2n o h1] at ho;have:=hr.own o b s ho;exact⟨this.1,by omega⟩
    ·have mixed:∀n o b s s',(look n os').isSome=true->¬im o->ι' n=some (b,s)->ι o=some (b,s')->False:=fun n o b s s' h1 h2 h3 h4=>by
        obtain⟨_,k2|k2⟩:=e10 n b s h3
        ·obtain⟨k3,k4⟩:=hι0 _ _ _ k2;have:=hr.inj _ _ _ _ _ h4 k4;subst this;exact h2 (him n h1)
        ·have:=(hr.own _ _ _ h4).2;omega
     intro o o' b s s' h1 h2
     rcases hcase o with ⟨n,k1,rfl⟩|k1<;>rcases hcase o' with ⟨n',k2,rfl⟩|k2
     ·rw[hι2 n k1] at h1;rw[hι2 n' k2] at h2;rw[e11 _ _ _ _ _ h1 h2]
     ·rw[hι2 n k1] at h1;rw[hι2n _ k2] at h2;exact (mixed _ _ _ _ _ k1 k2 h1 h2).elim
     ·rw[hι2n _ k1] at h1;rw[hι2 n' k2] at h2;exact (mixed _ _ _ _ _ k2 k1 h2 h1).elim
     ·rw[hι2n _ k1] at h1;rw[hι2n _ k2] at h2;exact hr.inj _ _ _ _ _ h1 h2
    ·intro o ob ho
     rcases zBk ho with ho|⟨ho,hno⟩
     ·obtain⟨⟨n,ob'⟩,hm,he⟩:=zaby.1 ho
      cases he
      exact (hlowO n ob' hm).ren (hι2 n (zsf hm)) fun q hq=>by
       have h1:=hW.resH n ob' hm q hq;exact⟨fun p hp=>by rw[hι2 q h1];exact hp,hm2 q h1⟩
     ·have h1:¬im o:=fun⟨n,h1,h2⟩=>zZj hno n h1 h2;refine (hr.heap o ob ho).mono hR2 hKR (fun b s hb=>⟨by rw[hι2n o h1];exact hb,?_,?_⟩) (fun h0=>by rw[hι2n o h1];exact h0) fun p hp=>hst p fun hu=>by
       have:=zhd ho hu.2;rw[hp] at this;cases this
      ·refine e6 b (hr.own _ _ _ hb).2 fun n s' hn=> ?_;obtain⟨k1,k2⟩:=hι0 _ _ _ hn;obtain⟨q,hq,k3,k4⟩:=hsome0 n k1;have:=hr.inj _ _ _ _ _ hb k2;subst this;exact h1 ⟨n,by rw[k3];exact (hkeepc q hq).1,rfl⟩
      ·intro hb'
       rcases hb'.2 with h3|h3|⟨n,s',hn,_⟩
       ·exact h3
       ·have:=(hr.own _ _ _ hb).2;omega
       ·obtain⟨k1,k2⟩:=hι0 _ _ _ hn;obtain⟨q,hq,k3,k4⟩:=hsome0 n k1;have:=hr.inj _ _ _ _ _ hb k2;subst this;exact absurd ⟨n,by rw[k3];exact (hkeepc q hq).1,rfl⟩ h1
   exact⟨u,ι2,R2,rfl,hrel,hlowV.ren fun q hq=>⟨fun p hp=>by rw[hι2 q (hW.res q hq)];exact hp,hm2 q (hW.res q hq)⟩⟩
  ·cases h
 ·cases h
theorem zGt{F:zaU}(hF:FOK P F){E:Env}{H:zd}{dst:Nat}{ms:List Bool}{f:FuncId}{args:List AV}{p:AV×zd}(h:zcu F E H dst ms f args=some p):zeJ P f=true:=by
 unfold zcu at h;obtain⟨zabm,has,h⟩:=zabp.1 h;have hnod:(zbF H ms args).Nodup:=zsQ _ _ _;unfold zfJ at h
 split at h
 ·rename_i hc;simp only[zabH] at hc;obtain⟨⟨r,os'⟩,hf,_⟩:=zabp.1 h;refine (hF f _ _ r os' hf (fun⟨n,ob⟩ hm=> ?_) (fun i p hp=>(zsT hnod i p hp).1)).1;obtain⟨o,ho,_,h2⟩:=zsP hm;have:=zabO.1 hc.1 o ho
  split at this
  ·rename_i es hes;exact⟨_,by rw[h2,hes];rfl⟩
  ·cases this
 ·cases h
theorem zMb{H:zd}{o:Nat}:∀ {os:List Nat},look o (zbn H os)=if o∈os then some (.frz (mark H o)) else none:=by
 intro os
 induction os with
 | nil=>rfl
 | cons p os ih=>
  simp only[zbn,zabs,look,zab4] at ih ⊢
  by_cases h:p=o
  ·subst h;simp
  ·rw[zabn h,ih]
   by_cases h2:o∈os
   ·rw[zabo h2,zabo (.inr h2)]
   ·rw[zabn h2,zabn];rintro (rfl|h3)
    ·exact h rfl
    ·exact h2 h3
theorem zBi{H:zd}{os:List Nat}:mark (zak (zbn H os) H)=mark H:=by
 funext o
 have:mark (zak (zbn H os) H) o=match look o (zak (zbn H os) H) with|some (.acc n)=>some n|some (.frz m)=>m|_=>none:=rfl
 rw[this,zdi,zMb]
 by_cases h:o∈os
 ·rw[zabo h];rfl
 ·rw[zabn h];rfl
theorem Rel.freeze{C:Ctx}{S:St}{a:Act}{w:World}{ι:Inj}{R:Nat->Prop}(hr:Rel C S a w ι R){os:List Nat}(hok:zgj S.heap os=true):Rel C ⟨S.env,zak (zbn S.heap os) S.heap⟩ a w ι (zeE R ι os):=by
 have hR:∀b,R b->zeE R ι os b:=fun b h=> .inl h;refine { hr with rlt:=fun b hb=> ?_,rok:=fun b hb=> ?_,r0:=fun b hb=> .inl (hr.r0 b hb),env:=fun t x hx=> ?_,heap:=fun o ob ho=> ?_ }
 ·rcases hb with hb|⟨o,s,_,hb⟩
  ·exact hr.rlt b hb
  ·exact (hr.own _ _ _ hb).2
 ·rcases hb with hb|⟨o,s,_,hb⟩
  ·exact hr.rok b hb
  ·exact .inr (hr.own _ _ _ hb).1
 ·obtain⟨u,h1,h2⟩:=hr.env t x hx;exact⟨u,h1,by rw[zBi];exact h2.toR (.inl hR)⟩
 ·rw[zBi]
  rcases zBk ho with ho|⟨ho,hno⟩
  ·obtain⟨q,hq,he⟩:=zaby.1 ho
   cases he
   obtain⟨ob',hl⟩:=zacV.1 (zabO.1 hok _ hq);refine .frz fun b s hb=>⟨.inr ⟨_,s,hq,hb⟩,?_⟩
   cases hr.heap _ _ (zav hl) with
   | row k1 _ _ k4=>rw[hb] at k1;cases k1;exact k4
   | acc _ k2 _ _ k5=>rw[hb] at k2;cases k2;exact k5
   | accN k1=>rw[hb] at k1;cases k1
   | frz k=>exact (k b s hb).2
   | mp k1 _ _ k4=>rw[hb] at k1;cases k1;exact k4
  ·rw[zMb] at hno
   split at hno
   ·cases hno
   ·rename_i hne;have hns:∀b s,ι o=some (b,s)->¬R b->¬zeE R ι os b:=fun b s hb hn=>by
     rintro (h|⟨o',s',ho',hb'⟩)
     ·exact hn h
     ·have:=hr.inj _ _ _ _ _ hb hb';subst this;exact hne ho'
    cases hr.heap _ _ ho with
    | row k1 k2 k3 k4 k5 k6 k7=>exact .row k1 (hns _ _ k1 k2) k3 k4 k5 k6 fun i e he j x hx=>let ⟨j1,q,j2,j3⟩:=k7 i e he j x hx;⟨j1,q,j2,j3.toR (.inl hR)⟩
    | acc k1 k2 k3 k4 k5 k6=>exact .acc k1 k2 (hns _ _ k2 k3) k4 k5 k6
    | accN k1=>exact .accN k1
    | frz k=>exact .frz fun b s hb=>⟨.inl (k b s hb).1,(k b s hb).2⟩
    | mp k1 k2 k3 k4 k5 k6=>exact .mp k1 (hns _ _ k1 k2) k3 k4 k5 fun i k x hi=>let ⟨e,j1,j2,j3⟩:=k6 i k x hi;⟨e,j1,j2,j3.mono_v hR fun _ _=>rfl⟩
theorem z5z{δ ε H:zd}:zak (δ++ε) H=zak δ (zak ε H):=by
 induction δ with
 | nil=>rfl
 | cons p δ ih=>obtain⟨o,ob⟩:=p;simp only[zabN,zak,ih]
theorem zSF {F:zaU} (hF:FOK P F) {C:Ctx} {S:St} {a:Act} {w:World} {ι:Inj} {R:Nat->Prop} {dst:Nat} {ms:List Bool} {f:FuncId} {args:List AV} {v:AV} {δ:zd} {us:List Value}
    (h:zbr F S.env S.heap dst ms f args=some (v,δ)) (hr:Rel C S a w ι R) (hv:VAs w R ι (mark S.heap) args us):
    Calls P f us.toArray w fun e w'=>∃u ι' R',e= .returned u/\Rel C ⟨S.env,zak δ S.heap⟩ a w' ι' R'/\VA w' R' ι' (mark (zak δ S.heap)) v u:=by
 unfold zbr at h
 split at h
 ·obtain⟨zabm,has,h⟩:=zabp.1 h;unfold zgi at h
  split at h
  ·rename_i hok;obtain⟨⟨v',δ'⟩,h1,h2⟩:=zabr.1 h
   cases h2
   obtain⟨hlen,hget⟩:=zGx has;have hr':=hr.freeze hok;have:=zGw hF (S:=⟨S.env,zak (zbn S.heap (zaz ms args)) S.heap⟩) h1 hr' (us:=us) ⟨by rw[hlen];exact hv.1,fun i x u hx hu=>by
    have hlt:=(zabB.1 hx).1;rw[hlen] at hlt;have ha:args[i]? = some args[i]:=zabx hlt;rw[zBi]
    rcases hget i _ x ha hx with ⟨h3,_⟩|⟨d,h3,h4,h5⟩
    ·subst h3;exact (hv.2 i _ u ha hu).toR (.inl fun _ h=> .inl h)
    ·subst h4;exact .d (zQ2 hr (hv.2 i _ u ha hu) h3 h5)⟩
   simp only[z5z];exact this
  ·cases h
 ·exact zGw hF h hr hv
theorem zSB{F:zaU}(hF:FOK P F){E:Env}{H:zd}{dst:Nat}{ms:List Bool}{f:FuncId}{args:List AV}{p:AV×zd}(h:zbr F E H dst ms f args=some p):zeJ P f=true:=by
 unfold zbr at h
 split at h
 ·obtain⟨zabm,_,h⟩:=zabp.1 h;unfold zgi at h
  split at h
  ·obtain⟨q,h1,_⟩:=zabr.1 h;exact zGt hF h1
  ·cases h
 ·exact zGt hF h
end Go.Sim

namespace Go.Sim
open Go (World Value Addr TypeId Act)
inductive zg where
 | skip
 | ops (gs:List Nat) (l:List zK) (kill:List Nat)
 | draw (gs:List Nat) (l:List zK) (fr:List (List Nat)) (kill:List Nat)
 | seq (a b:zg)
 | cond (c:Opd) (t e:zg)
 | block (id:Nat) (b:zg)
 | loop (kill:List Nat) (b:zg)
 | exit (id:Nat) (keep:List Nat)
 | ret (keep:List Nat)
structure zn where
 kill:List (Nat×List Nat):=[]
 ghost:List (Nat×List Nat):=[]
 obj:List (Nat×List Bool):=[]
 acc:List Nat:=[]
 loop:List (Nat×List Nat):=[]
 exit:List (Nat×List Nat):=[]
 ret:List Nat:=[]
def zvs(hs:zn)(dst:Option Nat):List Bool:=match dst with|some d=>(look d hs.obj).getD []|none=>[]
def zDr(hs:zn)(dst:Option Nat):Bool:=match dst with|some d=>hs.acc.contains d|none=>false
def zmB:AOp->Bool
 | .mv (.c (.xsl []))=>true
 | _=>false
def hint(hs:zn)(dst:Option Nat)(x:AOp):AOp:=
 match x with
 | .call f _ xs=> .call f (zvs hs dst) xs
 | .callv f _ xs=> .callv f (zvs hs dst) xs
 | x=>if zmB x&&zDr hs dst then .nacc else x
def ze3(P:Program)(hs:zn)(ops:Array Oper)(o:Oper):Option zK:=
 match z9 P o.op with
 | none=>none
 | some x=>
  match o.guard with
  | none=>some ⟨o.dst,hint hs o.dst x,none⟩
  | some (j,b)=>((ops[j]?).bind (·.dst)).map fun t=>⟨o.dst,hint hs o.dst x,some (t,b)⟩
def zec(K:List (Nat×List Nat))(id:Nat):List Nat:=(look id K).getD []
def zf2(ks:List Nat):Env->Env
 | []=>[]
 | (t,x)::l=>if ks.contains t then zf2 ks l else (t,x)::zf2 ks l
def St.put(S:St)(dst:Option Nat)(v:AV):St:=match dst with|none=>S|some d=>⟨zP d v S.env,S.heap⟩
inductive zX where
 | normal
 | exit (id:Nat)
 | ret
variable {P:Program} {C:Ctx}
def Out(e:zX):Exit:=match e with| .normal=> .normal| .exit i=> .exit i| .ret=> .ret
theorem zZF{ks:List Nat}{E:Env}{p:Nat×AV}(h:p∈zf2 ks E):p∈E:=by
 induction E with
 | nil=>cases h
 | cons q l ih=>
  obtain⟨t,x⟩:=q;simp only[zf2] at h
  split at h
  ·exact .tail _ (ih h)
  ·cases h with
   | head=>exact .head _
   | tail _ h=>exact .tail _ (ih h)
theorem Rel.kill{S:St}{a:Act}{w:World}{ι:Inj}{R:Nat->Prop}(h:Rel C S a w ι R)(ks:List Nat):Rel C ⟨zf2 ks S.env,S.heap⟩ a w ι R:=h.weaken fun _ _ hx=>zZF hx
theorem Rel.putO{S:St}{a:Act}{w:World}{ι:Inj}{R:Nat->Prop}(h:Rel C S a w ι R){v:AV}{u:Value}(hv:VA w R ι (mark S.heap) v u){dst:Option Nat}(hd:∀d,dst=some d->d<C.n):
    Rel C (S.put dst v) (a.put dst u) w ι R:=by
 cases dst with
 | none=>exact h.put_none u
 | some d=>exact h.put hv (hd d rfl)
theorem zQv{f:FuncId}(h:zeJ P f=true)(args:Array Value)(w:World):(callFunc f args).run P w= .ok (.enter f args) w:=by
 unfold zeJ at h
 cases hf:P.funcs[f]? with
 | none=>simp [hf] at h
 | some fn=>
  simp only[hf,zabH,zace] at h;have h1:¬fn.name= "runtime.NumGoroutine" := by simpa using h.2
  have h2:¬fn.body=none:=by
   intro e;have:=h.1;rw[e] at this;cases this
  simp [callFunc,hf,h1,h2]
theorem zS7{op:Op}{f:FuncId}{ms:List Bool}{xs:List Opd}(h:z9 P op=some (.call f ms xs)):∃c:Call,op= .call c/\c.callee= .value (.func f)/\ms=[]/\zeJ P f=true/\c.args.toList.mapM opd=some xs:=by
 cases op with
 | call c=>
  simp only[z9] at h
  split at h
  ·rename_i g hcal
   split at h
   ·rename_i hcf;obtain⟨ys,hys,h⟩:=zabp.1 h
    cases h
    exact⟨c,rfl,hcal,rfl,hcf,hys⟩
   ·obtain⟨ys,hys,h⟩:=zabp.1 h
    rcases zlZ h with ⟨_,_,_,e⟩|⟨_,_,_,_,e⟩|⟨_,_,_,_,_,e⟩<;>cases e
  all_goals (exfalso;revert h;(repeat' split)<;>simp [zabp])
 | makeFunc fn a b=>
  exfalso;revert h
  cases fn<;>simp only[z9]<;>(repeat' split)<;>simp [zabp]
 | _=>
  exfalso;revert h;simp only[z9]
  (repeat' split)<;>simp [zabp,zabr]
theorem zS8{op:Op}{y:Opd}{ms:List Bool}{xs:List Opd}(h:z9 P op=some (.callv y ms xs)):∃(c:Call) (f:Nat),op= .call c/\y= .t f/\c.callee= .value (.tmp f)/\ms=[]/\f<1000000/\c.args.toList.mapM opd=some xs:=by
 cases op with
 | call c=>
  simp only[z9] at h
  split at h
  ·exfalso
   split at h
   ·revert h;simp [zabp]
   ·obtain⟨ys,hys,h⟩:=zabp.1 h
    rcases zlZ h with ⟨_,_,_,e⟩|⟨_,_,_,_,e⟩|⟨_,_,_,_,_,e⟩<;>cases e
  ·rename_i g hcal
   split at h
   ·rename_i hlt;obtain⟨ys,hys,h⟩:=zabp.1 h
    cases h
    exact⟨c,g,rfl,rfl,hcal,rfl,hlt,hys⟩
   ·cases h
  all_goals (exfalso;revert h;(repeat' split)<;>simp [zabp])
 | makeFunc fn a b=>
  exfalso;revert h
  cases fn<;>simp only[z9]<;>(repeat' split)<;>simp [zabp]
 | _=>
  exfalso;revert h;simp only[z9]
  (repeat' split)<;>simp [zabp,zabr]
theorem zSk{k:Nat}{xs:List Opd}{ng:Bool}{y:Opd}:¬zjM k xs=some (.nileq ng y):=fun h=>by
 rcases zlZ h with ⟨_,_,_,e⟩|⟨_,_,_,_,e⟩|⟨_,_,_,_,_,e⟩<;>cases e
theorem zSl{k:Nat}{xs:List Opd}{y:Opd}:¬zjM k xs=some (.mv y):=fun h=>by
 rcases zlZ h with ⟨_,_,_,e⟩|⟨_,_,_,_,e⟩|⟨_,_,_,_,_,e⟩<;>cases e
theorem zTa{op:Op}{ng:Bool}{y:Opd}(h:z9 P op=some (.nileq ng y)):∃(b:BinOp) (t e u:TypeId) (x q:Operand),op= .binOp b t x q u/\b=(if ng then .neq else .eql)/\P.underlying t=some (.slice e)/\opd x=some y/\zAv q=true:=by
 cases op with
 | call c=>exfalso;revert h;simp only[z9];(repeat' split)<;>simp [zabp,zSk]
 | makeFunc fn a b=>
  exfalso;revert h
  cases fn<;>simp only[z9]<;>(repeat' split)<;>simp [zabp]
 | binOp b t x q u=>
  simp only[z9] at h
  split at h
  ·exfalso;revert h;simp [zabp]
  ·exfalso;revert h;simp [zabp]
  ·exfalso;revert h;(repeat' split)<;>simp [zabp]
  ·exfalso;revert h;(repeat' split)<;>simp [zabp]
  ·exfalso;revert h;(repeat' split)<;>simp [zabp]
  ·rename_i e hu
   split at h
   ·rename_i hq
    split at h
    ·obtain⟨z,hz,h⟩:=zabr.1 h
     cases h
     exact⟨_,t,e,u,x,q,rfl,rfl,hu,hz,hq⟩
    ·obtain⟨z,hz,h⟩:=zabr.1 h
     cases h
     exact⟨_,t,e,u,x,q,rfl,rfl,hu,hz,hq⟩
    ·cases h
   ·cases h
  ·cases h
 | _=>
  exfalso;revert h;simp only[z9]
  (repeat' split)<;>simp [zabp,zabr]
def zgJ(H:zd)(x:Option (AV×zd)):Option (AV×zd):=x.map fun p=>(p.1,zak p.2 H)
def zht(F:zaU)(E:Env)(H:zd)(dst:Nat)(ms:List Bool)(f:AV)(args:List AV):Option (AV×zd):=
 match f with
 | .d (.fn g cs)=>zbr F E H dst ms g (args++cs.map .d)
 | .fn g cs=>zbr F E H dst ms g (args++cs)
 | _=>none
def zkH(H:zd)(ng:Bool)(x:AV):Option (AV×zd):=
 match x with
 | .nl b=>some (.d (.bool (if ng then !b else b)),H)
 | x=>match slD x with
  | some (_::_)=>some (.d (.bool ng),H)
  | _=>none
def step(F:zaU)(E:Env)(H:zd)(dst:Nat):AOp->Option (AV×zd)
 | .call f ms xs=>zgJ H (zbr F E H dst ms f (xs.map (·.ev E)))
 | .callv f ms xs=>zgJ H (zht F E H dst ms (f.ev E) (xs.map (·.ev E)))
 | .nileq ng x=>zkH H ng (x.ev E)
 | op=>zr E H dst op
theorem zYb{x:AOp}(h:zmB x=true):x= .mv (.c (.xsl [])):=by
 unfold zmB at h
 split at h
 ·rfl
 ·cases h
theorem zS9{op:Op}(h:z9 P op=some (.mv (.c (.xsl [])))):∃y,(op= .move y\/op= .assign y)/\opd y=some (.c (.xsl [])):=by
 cases op with
 | move y=>simp only[z9,zabr] at h;obtain⟨z,h1,h2⟩:=h;cases h2;exact⟨y,.inl rfl,h1⟩
 | assign y=>simp only[z9,zabr] at h;obtain⟨z,h1,h2⟩:=h;cases h2;exact⟨y,.inr rfl,h1⟩
 | makeFunc fn a b=>
  exfalso;revert h
  cases fn<;>simp only[z9]<;>(repeat' split)<;>simp [zabp]
 | _=>
  exfalso;revert h;simp only[z9]
  (repeat' split)<;>simp [zabp,zabr,zSl]
theorem z4B{y:Operand}(h:opd y=some (.c (.xsl []))):∃v,y= .const v/\v= .slice none 0 0:=by
 cases y with
 | tmp t=>simp only[opd] at h;split at h<;>cases h
 | const v=>
  refine⟨v,rfl,?_⟩;simp only[opd] at h
  split at h
  ·cases h
  ·obtain⟨x,h1,h2⟩:=zabr.1 h
   cases h2
   unfold zfK at h1
   split at h1
   ·obtain⟨ds,_,h2⟩:=zabr.1 h1;unfold AV.mkAgg at h2
    split at h2<;>cases h2
   ·unfold zhu at h1
    split at h1
    ·split at h1<;>cases h1
    ·cases h1
    ·split at h1<;>cases h1
    ·rfl
    ·cases h1
 | global g=>cases h
 | func f=>cases h
theorem zCT {F:zaU} (hF:FOK P F) {o:Oper} {x0:AOp} {hs:zn} {S:St} {a:Act} {w:World} {ι:Inj} {R:Nat->Prop} {v:AV} {H':zd} {next:Act->World->Prop} {Q:Exit->Act->World->Prop}
    (hc:z9 P o.op=some x0) (hd:∀d,o.dst=some d->d<C.n) (h:step F S.env S.heap (o.dst.getD 0) (hint hs o.dst x0)=some (v,H')) (hr:Rel C S a w ι R)
    (hn:∀a' w' ι' R',Rel C (St.put ⟨S.env,H'⟩ o.dst v) a' w' ι' R'->next a' w'):o.wp P a w next Q:=by
 have calls:∀(f:FuncId) (ms:List Bool) (xs:List AV) (us:List Value),(execOp a.eval o).run P w= .ok (.enter f us.toArray) w->VAs w R ι (mark S.heap) xs us->zgJ S.heap (zbr F S.env S.heap (o.dst.getD 0) ms f xs)=some (v,H')->o.wp P a w next Q:=by
  intro f ms xs us he hv hw;obtain⟨⟨v',δ⟩,h1,h2⟩:=zabr.1 hw
  cases h2
  unfold Oper.wp;rw[he];refine (zSF hF h1 hr hv).mono fun e w' hh=> ?_;obtain⟨u,ι',R',rfl,hr',hv'⟩:=hh;exact hn _ _ _ _ (hr'.putO hv' hd)
 have simple:∀ {x:AOp},zR C S a v H' ((execOp a.eval o).run P w)->o.wp P a w next Q:=by
  intro x hg;obtain⟨u,w',ι',R',hrun,hr',hv'⟩:=hg;have hfin:=hn _ _ _ _ (hr'.putO hv' hd);unfold Oper.wp
  rcases hrun with hrun|⟨hrun,rfl⟩<;>rw[hrun]<;>exact hfin
 have plain:∀ {x:AOp},(if zmB x&&zDr hs o.dst then AOp.nacc else x)=hint hs o.dst x0->x=x0->step F S.env S.heap (o.dst.getD 0) x=zr S.env S.heap (o.dst.getD 0) x->o.wp P a w next Q:=by
  intro x e1 e2 hst;subst e2;rw[<- e1] at h
  split at h
  ·rename_i hnil;simp only[zabH] at hnil;have hx:=zYb hnil.1;rw[hx] at hc;obtain⟨y,hop,hy⟩:=zS9 hc;obtain⟨cv,rfl,rfl⟩:=z4B hy;simp only[step,zr] at h
   split at h
   ·rename_i hu
    cases h
    refine simple (x:= .nacc) ⟨.slice none 0 0,w,clr ι (o.dst.getD 0),R,.inl ?_,hr.newNone hu,.acc0⟩
    rcases hop with hop|hop<;>simp [execOp,hop,Act.eval]
   ·cases h
  ·rw[hst] at h;exact simple (x:=x) (zSg hc hr h)
 cases x0 with
 | call f ms xs=>
  obtain⟨c,hop,hcal,_,hcf,hxs⟩:=zS7 hc;obtain⟨hl,hg⟩:=zj2 hr hxs;refine calls f _ _ (c.args.toList.map a.eval) ?_ ⟨hl,hg⟩ h;have e:(c.args.toList.map a.eval).toArray=c.args.map a.eval:=by apply Array.ext';simp
  simp [execOp,hop,resolve,hcal,Act.eval,Deferred.ofValue,invoke,zQv hcf,e]
 | callv y ms xs=>
  obtain⟨c,f,hop,rfl,hcal,_,hflt,hxs⟩:=zS8 hc;obtain⟨hl,hg⟩:=zj2 hr hxs;have hfv:=hr.ev (show opd (.tmp f)=some (.t f) by simp only[opd,zabo hflt]);have fin:∀(g:FuncId) (cs:List AV),(∃vs:List Value,a.eval (.tmp f)= .func (.func g) #[] vs.toArray/\VAs w R ι (mark S.heap) cs vs)->zgJ S.heap (zbr F S.env S.heap (o.dst.getD 0) (zvs hs o.dst) g (xs.map (·.ev S.env)++cs))=some (v,H')->o.wp P a w next Q:=by
   rintro g cs ⟨vs,hfe,hvl,hvg⟩ hw;have hcf:zeJ P g=true:=by
    obtain⟨⟨v',δ⟩,h1,_⟩:=zabr.1 hw;exact zSB hF h1
   refine calls g _ _ (c.args.toList.map a.eval++vs) ?_ ⟨by rw[zabv,zabv,hl,hvl],fun i x u h1 h2=> ?_⟩ hw
   ·have e:(c.args.toList.map a.eval++vs).toArray=c.args.map a.eval++vs.toArray:=by apply Array.ext';simp
    simp [execOp,hop,resolve,hcal,hfe,Deferred.ofValue,invoke,zQv hcf,e]
   ·by_cases hi:i<(xs.map (·.ev S.env)).length
    ·rw[zacN hi] at h1;rw[zacN (by omega)] at h2;exact hg i x u h1 h2
    ·rw[zacE (by omega)] at h1;rw[zacE (by omega),hl] at h2;exact hvg _ x u h1 h2
  simp only[hint,step,zht] at h;generalize hfe:Opd.ev S.env (.t f)=fa at h hfv;generalize hfa:a.eval (.tmp f)=fv at hfv
  split at h
  ·rename_i g cs
   cases hfv with
   | d hd=>
    cases hd with
    | fn hl' hg'=>exact fin g _ ⟨_,hfa,by simpa using hl',fun i x u k1 k2=>by
        rw[zabI] at k1;obtain⟨y,k3,rfl⟩:=zabr.1 k1;exact .d (hg' i y u k3 k2)⟩ h
  ·rename_i g cs
   cases hfv with
   | fn hl' hg'=>exact fin g _ ⟨_,hfa,hl',hg'⟩ h
  ·cases h
 | nileq ng y=>
  obtain⟨b,t,e,u,x,q,hop,hb,hu,hy,hq⟩:=zTa hc;have hv:=hr.ev hy;simp only[hint,zmB,zacd,zabz,if_false,step,zkH] at h;have hqv:∃l c,a.eval q= .slice none l c:=by
   unfold zAv at hq
   split at hq
   ·exact⟨_,_,rfl⟩
   ·cases hq
  obtain⟨ql,qc,hqv⟩:=hqv
  split at h
  ·rename_i b0 hnl
   cases h
   rw[hnl] at hv;generalize hav:a.eval x=av at hv
   cases hv with
   | nl1=>
    have heq:∀cap,(Op.equal t (.slice none 0 cap) (.slice none ql qc)).run P w= .ok true w:=by
     intro cap;unfold Op.equal;rw[show Op.maxDepth=9999+1 from rfl];unfold Op.equalIn;simp only[Sem.run_bind,run_underlying hu,Result.andThen_ok];simp
    refine simple (x:= .nacc) (zR.same hr (.d .bool) (u:= .bool (if ng=true then !true else true)) ?_)
    cases ng<;>simp at hb<;>subst hb<;>simp [execOp,hop,hav,hqv,eqGuard,Go.binOp,heq]
   | nl2=>
    have heq:∀ad cap,(Op.equal t (.slice (some ad) 0 cap) (.slice none ql qc)).run P w= .ok false w:=by
     intro ad cap;unfold Op.equal;rw[show Op.maxDepth=9999+1 from rfl];unfold Op.equalIn;simp only[Sem.run_bind,run_underlying hu,Result.andThen_ok];simp
    refine simple (x:= .nacc) (zR.same hr (.d .bool) (u:= .bool (if ng=true then !false else false)) ?_)
    cases ng<;>simp at hb<;>subst hb<;>simp [execOp,hop,hav,hqv,eqGuard,Go.binOp,heq]
  split at h
  ·rename_i d0 ds hsl
   cases h
   have fin:∀(ad:Addr) (l cap:Nat),a.eval x= .slice (some ad) l cap->o.wp P a w next Q:=by
    intro ad l cap hav;have heq:(Op.equal t (.slice (some ad) l cap) (.slice none ql qc)).run P w= .ok false w:=by
     unfold Op.equal;rw[show Op.maxDepth=9999+1 from rfl];unfold Op.equalIn;simp only[Sem.run_bind,run_underlying hu,Result.andThen_ok];simp
    refine simple (x:= .nacc) (zR.same hr (.d .bool) (u:= .bool ng) ?_)
    cases ng<;>simp at hb<;>subst hb<;>simp [execOp,hop,hav,hqv,eqGuard,Go.binOp,heq]
   generalize hpa:y.ev S.env=pa at hv hsl;generalize hav:a.eval x=av at hv;have data:∀ {es:List D},slD pa=some es->Rd w R (.v (.sl es) av)->o.wp P a w next Q:=by
    intro es he hrd;rw[he] at hsl
    cases hsl
    obtain⟨b',off,s,cap,rfl,_⟩:=hrd.sl_inv (by simp);exact fin _ _ _ hav
   cases hv with
   | d hv=>
    rename_i dx
    cases dx with
    | sl es=>exact data rfl hv
    | _=>simp [slD] at hsl
   | xsl hv=>exact data rfl hv
   | accR=>exact fin _ _ _ hav
   | accC=>exact fin _ _ _ hav
   | acc0=>simp [slD] at hsl
   | _=>simp [slD] at hsl
  ·cases h
 | _=>exact plain rfl rfl rfl
end Go.Sim
