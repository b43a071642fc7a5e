/-
  The meaning of functions without a bound on the steps.
-/
import Derived.Test.YtcembpbhkcbnhaaGreatBc7bb641
import Derived.Deep.LoopGhost
set_option linter.unusedSimpArgs false
set_option linter.unusedVariables false
set_option maxHeartbeats 10000000
set_option maxRecDepth 100000
namespace Go.Sim
open Go (World Value Addr TypeId Act)
variable {P:Program} {C:Ctx} {F:zaU}
theorem zRt{x:zK}{S:St}(h:x.guard=none):Gd x S=some true:=by simp [Gd,h]
theorem zDl{x:zK}{S:St}{t:Nat}{b c:Bool}(h:x.guard=some (t,b))(hl:look t S.env=some (.d (.bool c))):Gd x S=some (c==b):=by simp [Gd,h,hl]
theorem zRu{x:zK}{S:St}{t:Nat}{b:Bool}(h:x.guard=some (t,b))(hl:look t S.env=some (.d (.tup []))):Gd x S=some false:=by simp [Gd,h,hl]
def zgK(fr:List Nat)(acc:List (List Nat×List Nat))(p:List Nat×List Nat):Bool:=fr.all fun k=>match acc[k]? with|some q=>ziR q p|none=>false
def ztZ(fr:List (List Nat))(acc ps:List (List Nat×List Nat)):Prop:=
 ∀j p,ps[j]? = some p->zgK ((fr[j]?).getD []) (acc++ps.take j) p=true
def zdq(F:zaU)(x:zK)(S:St):Option St:=(step F S.env S.heap (x.dst.getD 0) x.op).map fun p=>St.put ⟨S.env,p.2⟩ x.dst p.1
def zdf(F:zaU)(x:zK)(fr:List (List Nat))(acc:List (List Nat×List Nat))(S:St):Option St:=
 if zgK (fr.headD []) acc (feet x S)=true then zdq F x S else none
def zgf(x:zK)(fr:List (List Nat))(acc:List (List Nat×List Nat))(S:St):Option St:=
 if zgK (fr.headD []) acc ([],[])=true then some (S.put x.dst (.d (.tup []))) else none
def zbz(F:zaU):List zK->List (List Nat)->List (List Nat×List Nat)->St->Option St
 | [],_,_,S=>some S
 | x::l,fr,acc,S=>
  match x.guard with
  | none=>(zdf F x fr acc S).bind (zbz F l fr.tail (acc++[feet x S]))
  | some (t,b)=>
   match look t S.env with
   | some (.d (.bool c))=>if c=b then (zdf F x fr acc S).bind (zbz F l fr.tail (acc++[feet x S])) else (zgf x fr acc S).bind (zbz F l fr.tail (acc++[([],[])]))
   | some (.d (.tup []))=>(zgf x fr acc S).bind (zbz F l fr.tail (acc++[([],[])]))
   | _=>none
def zmd(l:List zK)(S:St):Bool:=l.all fun x=>x.newNames.all fun n=> !zaX n S.env&& !zaq n S.heap
def zfQ(F:zaU)(l:List zK)(fr:List (List Nat))(S:St):Option St:=
 if (zbN S.env&&zbN S.heap&&zmd l S)=true then zbz F l fr [] S else none
theorem z9L(hF:FOK P F){x:zK}{S S':St}(hcl:x.op.cleanB=true)(h:zdq F x S=some S'):∃v δ,zlk F x S v δ (feet x S).1 (feet x S).2/\S'=ap x S v δ:=by
 obtain⟨⟨v,H'⟩,h1,h2⟩:=zabr.1 h;obtain⟨δ,h3,h4⟩:=z9P hF hcl h1;subst h2;subst h4;exact⟨v,δ,h3,rfl⟩
theorem zVo(hF:FOK P F):∀(l:List zK) (fr:List (List Nat)) (acc:List (List Nat×List Nat)) (S S':St),(∀x∈l,x.op.cleanB=true)->zbz F l fr acc S=some S'->∃ps,Lex F l ps S S'/\ps.length=l.length/\ztZ fr acc ps:=by
 intro l
 induction l with
 | nil=>intro fr acc S S' _ h;cases h;exact⟨[],.nil,rfl,fun j p hp=>by simp at hp⟩
 | cons x l ih=>
  intro fr acc S S' hc h;have step:∀(p:List Nat×List Nat) (v:AV) (δ:zd),Y F x S v δ p->zgK (fr.headD []) acc p=true->zbz F l fr.tail (acc++[p]) (ap x S v δ)=some S'->∃ps,Lex F (x::l) ps S S'/\ps.length=(x::l).length/\ztZ fr acc ps:=by
   intro p v δ hy hcl hg;obtain⟨ps,h1,h3,h4⟩:=ih _ _ _ _ (fun y hy=>hc y (.tail _ hy)) hg;refine⟨p::ps,.cons hy h1,by simp [h3],fun j q hq=> ?_⟩
   cases j with
   | zero=>
    simp at hq;subst hq;simp only[zacg,zabL]
    cases fr<;>simpa using hcl
   | succ j=>
    have:=h4 j q (by simpa using hq);rw[zab9] at this
    cases fr with
    | nil=>simpa using this
    | cons f fr=>simpa using this
  have run:((zdf F x fr acc S).bind (zbz F l fr.tail (acc++[feet x S])))=some S'->Gd x S=some true->∃ps,Lex F (x::l) ps S S'/\ps.length=(x::l).length/\ztZ fr acc ps:=by
   intro h hgd;obtain⟨S1,h1,h2⟩:=zabp.1 h;unfold zdf at h1
   split at h1
   ·rename_i hcl;obtain⟨v,δ,h3,rfl⟩:=z9L hF (hc x (.head _)) h1;exact step (feet x S) v δ (.inl ⟨hgd,h3⟩) hcl h2
   ·cases h1
  simp only[zbz] at h
  split at h
  ·rename_i hg;exact run h (zRt hg)
  ·rename_i t b hg
   split at h
   ·rename_i c hl
    split at h
    ·rename_i hcb;exact run h (by rw[zDl hg hl];simpa using hcb)
    ·rename_i hcb;obtain⟨S1,h1,h2⟩:=zabp.1 h;unfold zgf at h1
     split at h1
     ·rename_i hcl
      cases h1
      refine step ([],[]) (.d (.tup [])) [] (.inr ⟨by rw[zDl hg hl];simpa using hcb,rfl,rfl⟩) hcl ?_;exact h2
     ·cases h1
   ·rename_i hl;obtain⟨S1,h1,h2⟩:=zabp.1 h;unfold zgf at h1
    split at h1
    ·rename_i hcl
     cases h1
     refine step ([],[]) (.d (.tup [])) [] (.inr ⟨zRu hg hl,rfl,rfl⟩) hcl ?_;exact h2
    ·cases h1
   ·cases h
theorem z0c{α:Type}{k:Nat}{l:List (Nat×α)}(h:zbN l=true):zbN (zd0 k l)=true:=by
 induction l with
 | nil=>rfl
 | cons p l ih=>
  obtain⟨j,x⟩:=p;simp only[zbN,zabH,zace] at h;simp only[zd0]
  split
  ·exact ih h.2
  ·simp only[zbN,zabH,zace,ih h.2,zacT];rw[zacC] at *;exact fun q hq=>h.1 q (zi1.1 hq).1
theorem zMA{α:Type}{k:Nat}{x:α}{l:List (Nat×α)}(h:zbN l=true):zbN (zP k x l)=true:=by
 simp only[zP,zbN,zabH,zace,z0c h,zacT];rw[zacC];intro q hq;have:=(zi1.1 hq).2;simpa using this
theorem z0b{δ H:zd}(h:zbN H=true):zbN (zak δ H)=true:=by
 induction δ with
 | nil=>exact h
 | cons p δ ih=>exact zMA ih
theorem Lex.nodup{ps:List (List Nat×List Nat)}{S E:St}{l:List zK}(h:Lex F l ps S E):zbN S.env=true->zbN S.heap=true->zbN E.env=true/\zbN E.heap=true:=by
 induction h with
 | nil=>exact fun h1 h2=>⟨h1,h2⟩
 | @cons x _ _ _ S _ v δ _ _ ih=>
  refine fun h1 h2=>ih ?_ ?_
  ·unfold ap St.put
   split
   ·exact h1
   ·exact zMA h1
  ·rw[zfd];exact z0b h2
theorem Rel.same{S E:St}{a:Act}{w:World}{ι:Inj}{R:Nat->Prop}(h:Rel C S a w ι R)(hs:Same S E)(h1:zbN E.env=true)(h2:zbN E.heap=true):Rel C E a w ι R:=by
 have hm:mark E.heap=mark S.heap:=funext fun o=>by unfold mark;rw[hs.2 o]
 refine { h with env:=fun t x hx=> ?_,heap:=fun o ob ho=> ?_ }
 ·rw[hm];exact h.env t x (zav ((hs.1 t).trans (zMz h1 hx)))
 ·rw[hm];exact h.heap o ob (zav ((hs.2 o).trans (zMz h2 ho)))
theorem zHQ{x:zK}{S:St}{v:AV}{δ:zd}{o:Nat}(h:zgE o S)(hv:v.refs o=false)(hh:zaq o (zak δ S.heap)=false):zgE o (ap x S v δ):=by
 refine⟨?_,by rw[zfd];exact hh⟩;unfold ap St.put
 split
 ·exact h.1
 ·rename_i d _
  cases hr:zaX o (zP d v S.env) with
  | false=>rfl
  | true=>
   exfalso;have:zaX o (zd0 d S.env)=false:=by
    have h1:=h.1;revert h1;generalize S.env=l
    induction l with
    | nil=>intro;rfl
    | cons p l ih=>
     obtain⟨j,y⟩:=p;intro h1;simp only[zaX,zacY] at h1;simp only[zd0]
     split
     ·exact ih h1.2
     ·simp [zaX,h1.1,ih h1.2]
   simp [zP,zaX,hv,this] at hr
theorem ze0.sound (hF:FOK P F) {hs:zn} {Q:Exit->Act->World->Prop} {ops:Array Oper} {l:List zK} {pl:Nat->List Nat×List Nat} {E:St} (hl:ops.toList.mapM (ze3 P hs ops)=some l) (hd:∀o∈ops.toList,∀d,o.dst=some d->d<C.n)
    (hnews:∀(i:Nat) (x:zK),l[i]? = some x->∀n∈x.newNames,∀(j:Nat) (y:zK),l[j]? = some y->j≠i->n∉y.newNames)
    (hQ:∀S a w ι R,Same S E->Rel C S a w ι R->Q .normal a w):
    ∀(n:Nat) (listed:Array Bool) (S:St) (a:Act) (w:World) (ι:Inj) (R:Nat->Prop),ze0 F ops l pl E n listed S->Rel C S a w ι R->
     (∀(i:Nat) (x:zK),l[i]? = some x->listed.getD i true=false->∀n∈x.newNames,zgE n S)->wpAny P .any ops Q n listed a w:=by
 intro n
 induction n with
 | zero=>intro listed S a w ι R h hr _;exact⟨h.1,hQ _ _ _ _ _ h.2 hr⟩
 | succ n ih=>
  intro listed S a w ι R h hr hf;refine⟨fun h0=>hQ _ _ _ _ _ (h.1 h0) hr,fun i hi=> ?_⟩;obtain⟨x,v,δ,hx,hy,hn⟩:=h.2 i hi;obtain⟨hun,o,ho,_⟩:=mem_ready.1 hi;have hmem:o∈ops.toList:=by
   have:=(zacl.1 ho);obtain⟨h1,rfl⟩:=this;simp
  have hcx:ze3 P hs ops o=some x:=(zeT hl).2 i o x (by simpa using ho) hx;unfold wpOp;simp only[ho]
  -- the other new objects' names stay fresh
  have hothers:∀(m:Nat) (y:zK),l[m]? = some y->(listed.setIfInBounds i true).getD m true=false->∀n∈y.newNames,zgE n S/\n∉x.newNames:=by
   intro m y hm hum n hny;have hmi:m≠i:=by
    rintro rfl;have hlt:m<ops.size:=(zacl.1 ho).1;rw[zacZ,Array.getElem?_setIfInBounds_self] at hum;rw[zacZ] at hun
    split at hum
    ·simp at hum
    ·simp at hum
   rw[getD_set_ne true (Ne.symm hmi)] at hum;exact⟨hf m y hm hum n hny,hnews m y hm n hny i x hx (Ne.symm hmi)⟩
  rcases hy with ⟨hg,hloc⟩|⟨hg,rfl,rfl⟩
  ·obtain⟨hop,hno⟩:=hloc.same S ⟨fun _ _=>rfl,fun _ _=>rfl,fun _ _=>rfl⟩ (hf i x hx hun);have hnext:∀S' a' w' ι' R',S'=ap x S v δ->Rel C S' a' w' ι' R'->wpAny P .any ops Q n (listed.setIfInBounds i true) a' w':=by
    rintro S' a' w' ι' R' rfl hr';refine ih _ _ _ _ _ _ hn hr' fun m y hm hum n hny=> ?_;obtain⟨h2,h3⟩:=hothers m y hm hum n hny;obtain⟨h4,h5⟩:=hno _ h2 h3;exact zHQ h2 h4 h5
   unfold ze3 at hcx
   split at hcx
   ·cases hcx
   ·rename_i op hop'
    split at hcx
    ·rename_i hgd
     cases hcx
     have hw:Region.wanted o (yielded ops a.tmps)=true:=by simp [Region.wanted,hgd]
     rw[zabo hw];exact .inl (zCT hF hop' (hd _ hmem) hop hr fun a' w' ι' R' hr'=>hnext _ a' w' ι' R' rfl hr')
    ·rename_i j b hgd;obtain⟨t,ht,hcx⟩:=zabr.1 hcx
     cases hcx
     unfold Gd at hg;simp only at hg
     split at hg
     ·rename_i c hc;have hyl:yielded ops a.tmps j=some c:=by
       obtain⟨u,h1,h2⟩:=hr.env t _ (zav hc);have:=h2.bool_inv;subst this;have hlt:t<1000000:=by
        obtain⟨o',ho',ht'⟩:=zabp.1 ht;exact zaco (hd o' (by have:=(zacl.1 ho');obtain⟨q,rfl⟩:=this;simp) t ht') C.le
       simp only[zeu,zabo hlt] at h1;simp [yielded,ht,h1]
      have hw:Region.wanted o (yielded ops a.tmps)=(c==b):=by simp [Region.wanted,hgd,hyl]
      have:(c==b)=true:=by simpa using hg
      rw[zabo (by rw[hw];exact this)];exact .inl (zCT hF hop' (hd _ hmem) hop hr fun a' w' ι' R' hr'=>hnext _ a' w' ι' R' rfl hr')
     ·cases hg
     ·cases hg
  ·have hnext:∀S' a' w' ι' R',S'=ap x S (.d (.tup [])) []->Rel C S' a' w' ι' R'->wpAny P .any ops Q n (listed.setIfInBounds i true) a' w':=by
      rintro S' a' w' ι' R' rfl hr';refine ih _ _ _ _ _ _ hn hr' fun m y hm hum n hny=> ?_;obtain⟨h2,h3⟩:=hothers m y hm hum n hny;exact zHQ h2 rfl h2.2
   unfold ze3 at hcx
   split at hcx
   ·cases hcx
   ·rename_i op hop'
    split at hcx
    ·cases hcx
     simp [Gd] at hg
    ·rename_i j b hgd;obtain⟨t,ht,hcx⟩:=zabr.1 hcx
     cases hcx
     unfold Gd at hg;simp only at hg
     split at hg
     ·rename_i c hc;have hyl:yielded ops a.tmps j=some c:=by
       obtain⟨u,h1,h2⟩:=hr.env t _ (zav hc);have:=h2.bool_inv;subst this;have hlt:t<1000000:=by
        obtain⟨o',ho',ht'⟩:=zabp.1 ht;exact zaco (hd o' (by have:=(zacl.1 ho');obtain⟨q,rfl⟩:=this;simp) t ht') C.le
       simp only[zeu,zabo hlt] at h1;simp [yielded,ht,h1]
      have hw:Region.wanted o (yielded ops a.tmps)=(c==b):=by simp [Region.wanted,hgd,hyl]
      have:(c==b)=false:=by simpa using hg
      rw[zabn (by rw[hw,this];simp)];exact hnext _ _ _ _ _ rfl (hr.putO ztS (hd _ hmem))
     ·rename_i hc;have hyl:yielded ops a.tmps j=none:=by
       obtain⟨u,h1,h2⟩:=hr.env t _ (zav hc);have:=h2.tup0_inv;subst this;have hlt:t<1000000:=by
        obtain⟨o',ho',ht'⟩:=zabp.1 ht;exact zaco (hd o' (by have:=(zacl.1 ho');obtain⟨q,rfl⟩:=this;simp) t ht') C.le
       simp only[zeu,zabo hlt] at h1;simp [yielded,ht,h1]
      have hw:Region.wanted o (yielded ops a.tmps)=false:=by simp [Region.wanted,hgd,hyl]
      rw[zabn (by rw[hw];simp)];exact hnext _ _ _ _ _ rfl (hr.putO ztS (hd _ hmem))
     ·cases hg
theorem Rel.drawn{S:St}{a:Act}{w:World}{ι:Inj}{R:Nat->Prop}(h:Rel C S a w ι R)(n:Nat):Rel C S a { w with drawn:=n } ι R:=by
 have hm:∀ {x:AV} {u:Value},VA w R ι (mark S.heap) x u->VA { w with drawn:=n } R ι (mark S.heap) x u:=fun hv=>
  hv.mono (fun _ h=>h) (fun _ _=>rfl) fun o _=>Step.same fun _ _ _=>rfl
 refine { h with os:=h.os,tape:=h.tape,output:=h.output,env:=fun t x hx=> ?_,heap:=fun o ob ho=> ?_ }
 ·obtain⟨u,h1,h2⟩:=h.env t x hx;exact⟨u,h1,hm h2⟩
 ·cases h.heap o ob ho with
  | row h1 h2 h3 h4 h5 h6 h7=>exact .row h1 h2 h3 h4 h5 h6 fun i e he j x hx=>let ⟨k1,q,k2,k3⟩:=h7 i e he j x hx;⟨k1,q,k2,hm k3⟩
  | acc h1 h2 h3 h4 h5 h6=>exact .acc h1 h2 h3 h4 h5 h6
  | accN h1=>exact .accN h1
  | frz h=>exact .frz h
  | mp h1 h2 h3 h4 h5 h6=>exact .mp h1 h2 h3 h4 h5 fun i k x hi=>let ⟨e,k1,k2,k3⟩:=h6 i k x hi;⟨e,k1,k2,k3.mono_v (fun _ h=>h) fun _ _=>rfl⟩
theorem zUb (hF:FOK P F) {hs:zn} {ops:Array Oper} {l:List zK} {S':St} {Q:Exit->Act->World->Prop} {S:St} {a:Act} {w:World} {ι:Inj} {R:Nat->Prop} {id:Nat} (hl:ops.toList.mapM (ze3 P hs ops)=some l)
    (hok:(P.follows .mixedOrders&&zGR ops l)=true) (hd:∀o∈ops.toList,∀d,o.dst=some d->d<C.n) (hQ:∀a w ι R,Rel C S' a w ι R->Q .normal a w)
    (h:zfQ F l ((List.range ops.size).map (zgO ops)) S=some S') (hr:Rel C S a w ι R):(Code.region id ops true).wp P Q a w:=by
 unfold zfQ at h
 split at h
 rotate_left
 ·cases h
 rename_i hpre;simp only[zabH] at hpre;obtain⟨⟨h1,h2⟩,h3⟩:=hpre;have h4:=h;simp only[zabH] at hok;obtain⟨hm,hdk⟩:=hok;have hlen:l.length=ops.size:=by have:=(zeT hl).1;simpa using this
 have hx:∀j,j<ops.size->∃o x,ops[j]? = some o/\l[j]? = some x/\(∀e∈o.after,Region.binds .any e=true->e.on<j)/\(∀k∈zgO ops j,∃y,l[k]? = some y/\ziv y x=true)/\x.op.cleanB=true/\
     zt7 l ops.size j x=true:=by
  intro j hj;have:=zabO.1 hdk j (by simpa using hj);have ho:ops[j]? = some ops[j]:=zad6 hj;have hy:l[j]? = some (l[j]'(by omega)):=zabx _;refine⟨_,_,ho,hy,?_⟩;rw[ho,hy] at this;simp only[zabH] at this;obtain⟨⟨⟨c1,c2⟩,c3⟩,c4⟩:=this;refine⟨fun e he hb=> ?_,fun k hk=> ?_,c3,c4⟩
  ·have:=zabO.1 c1 e (by simpa using he);simpa [hb] using this
  ·have:=zabO.1 c2 k hk
   split at this
   ·rename_i y hy';exact⟨y,hy',this⟩
   ·cases this
 have hclean:∀x∈l,x.op.cleanB=true:=fun x hmx=>by
  obtain⟨j,hj⟩:=zab6 hmx;have hlt:=(zabB.1 hj).1;obtain⟨o,x',_,h6,_,_,h7,_⟩:=hx j (by omega);rw[hj] at h6;cases h6;exact h7
 obtain⟨ps,hlex,hps,hclash⟩:=zVo hF l _ [] S S' hclean h4
 let pl:Nat->List Nat×List Nat:=fun i=>(ps[i]?).getD ([],[])
 have hE:=hlex.nodup h1 h2;refine wp_region_any hm (ze0.sound (C:=C) (l:=l) (pl:=pl) (E:=S') hF hl hd ?_ (fun S1 a' w' ι' R' hs hr'=>hQ _ _ _ _ (hr'.same hs hE.1 hE.2)) _ _ _ _ _ _ _ ?_ (hr.drawn _) ?_)
 ·intro i x hi n hn j y hj hji hny;have hlt:=(zabB.1 hi).1;have hlt':=(zabB.1 hj).1;obtain⟨o,x',_,h6,_,_,_,h8⟩:=hx i (by omega);rw[hi] at h6;cases h6;obtain⟨o',y',_,h6',_,_,_,h8'⟩:=hx j (by omega);rw[hj] at h6';cases h6';have ne1:x.newNames.isEmpty=false:=by cases hq:x.newNames with|nil=>rw[hq] at hn;cases hn|cons=>rfl
  have ne2:y.newNames.isEmpty=false:=by cases hq:y.newNames with|nil=>rw[hq] at hny;cases hny|cons=>rfl
  simp only[zt7,ne1,ne2,zacH] at h8 h8'
  split at h8
  ·rename_i d hd1
   split at h8'
   ·rename_i d' hd2;simp only[zabH,decide_eq_true_eq] at h8 h8';have h9:=zabO.1 h8.2 j (by simp;omega);rw[hj] at h9;simp only[ne2,zacH,zacj,beq_iff_eq,hji,false_or,hd2,zace,beq_eq_false_iff_ne,ne_eq,Option.some.injEq] at h9;have sub:∀(z:zK) (e m:Nat),z.dst=some e->m∈z.newNames->m=e\/m=e+10000\/m=e+20000\/m=e+30000:=by
     intro z e m he hm;unfold zK.newNames at hm;rw[he] at hm;simp only[zacS] at hm
     split at hm
     ·simpa [fr4] using hm
     ·simpa [fr4] using hm
     ·split at hm
      ·simp at hm;exact .inl hm
      ·cases hm
    have k1:=sub x d n hd1 hn;have k2:=sub y d' n hd2 hny;omega
   ·cases h8'
  ·cases h8
 ·rw[<- hlen];refine zYW (F:=F) ?_ hlen.symm ?_ (fun j o ho e he hb=> ?_) l ps 0 _ S (by simp) (fun j hj=> ?_) (by simp) (by simp) (by omega) (fun i _ hi=> ?_) hlex
  ·intro k listed hk hls hun;obtain⟨o,x,ho,_,h6,_⟩:=hx k (by omega);exact mem_ready.2 ⟨hun,o,ho,fun e he hb=>hls _ (h6 e he hb)⟩
  ·intro k j o x y hkj ho hk hj hno;have hjl:=(zacl.1 ho).1;obtain⟨o',y',ho',hy',_,h7,_⟩:=hx j hjl;rw[ho] at ho';cases ho';rw[hj] at hy';cases hy';have hfree:k∈zgO ops j:=zZC hkj hno;obtain⟨x',hx',hap⟩:=h7 k hfree;rw[hk] at hx';cases hx';refine⟨hap,?_⟩;have hpj:ps[j]? = some (pl j):=by
    have:j<ps.length:=by omega
    simp [pl,this]
   have hpk:ps[k]? = some (pl k):=by
    have:k<ps.length:=by omega
    simp [pl,this]
   have:=hclash j (pl j) hpj;have hfrj:(((List.range ops.size).map (zgO ops))[j]?).getD []=zgO ops j:=by simp [hjl]
   rw[hfrj,zabJ] at this;have:=zabO.1 this k hfree;rw[zadg hkj,hpk] at this;exact this
  ·obtain⟨o',_,ho',_,h6,_⟩:=hx j (zacl.1 ho).1;rw[ho] at ho';cases ho';exact h6 e he hb
  ·simp [pl,show j<ps.length by omega]
  ·rw[Array.getElem?_replicate,zabo (by omega)]
 ·intro i x hi _ n hn;have:=zabO.1 (zabO.1 h3 x (zabK hi)) n hn;simpa [zgE] using this
end Go.Sim

namespace Go.Sim
open Go (World Value Addr TypeId Act)
variable {P:Program} {C:Ctx} {F:zaU}
def zdT(n:Nat):Code->Bool
 | .region _ ops _=>ops.toList.all fun o=>match o.dst with|none=>true|some d=>d<n
 | .seq a b=>zdT n a&&zdT n b
 | .cond _ a b=>zdT n a&&zdT n b
 | .block _ b=>zdT n b
 | .loop b=>zdT n b
 | _=>true
theorem zQF{n id:Nat}{ops:Array Oper}{d:Bool}(h:zdT n (.region id ops d)=true):∀o∈ops.toList,∀d,o.dst=some d->d<n:=by
 intro o ho d hd;have:=zabO.1 h o ho;simpa [hd] using this
def zaeS(F:zaU)(o:zK)(k:St->Option St)(S:St):Option St:=(zdq F o S).bind k
def zbu(F:zaU):List zK->St->Option St
 | [],S=>some S
 | o::l,S=>
  match o.guard with
  | none=>(zdq F o S).bind (zbu F l)
  | some (t,b)=>
   match look t S.env with
   | some (.d (.bool c))=>if c=b then (zdq F o S).bind (zbu F l) else zbu F l (S.put o.dst (.d (.tup [])))
   | some (.d (.tup []))=>zbu F l (S.put o.dst (.d (.tup [])))
   | _=>none
def ziT(ks:List Nat)(S:St):zX×St:=(.normal,⟨zf2 ks S.env,S.heap⟩)
def zhh(g:St->Option (zX×St))(p:zX×St):Option (zX×St):=match p.1 with| .normal=>g p.2| .exit i=>some (.exit i,p.2)| .ret=>some (.ret,p.2)
def zix(id:Nat)(p:zX×St):zX×St:=match p.1 with| .exit i=>if i=id then (.normal,p.2) else (.exit i,p.2)| .normal=>(.normal,p.2)| .ret=>(.ret,p.2)
def zc0(ks:List Nat)(g:St->Option (zX×St))(p:zX×St):Option (zX×St):=match p.1 with| .normal=>g (norm ks p.2)| .exit i=>some (.exit i,p.2)| .ret=>some (.ret,p.2)
def zeh(ks:List Nat)(body:St->Option (zX×St)):Nat->St->Option (zX×St)
 | 0,_=>none
 | k+1,S=>(body S).bind (zc0 ks (zeh ks body k))
def zhz(c:AV)(x y:Option (zX×St)):Option (zX×St):=match c with| .d (.bool b)=>if b=true then x else y|_=>none
def zbX(F:zaU)(n:Nat):zg->St->Option (zX×St)
 | .skip,S=>some (.normal,S)
 | .ops gs l ks,S=>((zfb gs S).bind (zbu F l)).map (ziT ks)
 | .draw gs l fr ks,S=>((zfb gs S).bind (zfQ F l fr)).map (ziT ks)
 | .seq x y,S=>(zbX F n x S).bind (zhh (zbX F n y))
 | .cond c x y,S=>zhz (c.ev S.env) (zbX F n x S) (zbX F n y S)
 | .block id x,S=>(zbX F n x S).map (zix id)
 | .loop ks x,S=>zeh ks (zbX F n x) n (norm ks S)
 | .exit id ks,S=>some (.exit id,endS ks S)
 | .ret ks,S=>some (.ret,endS ks S)
def ziJ:Code->Nat
 | .region id _ _=>id
 | .seq a _=>ziJ a
 | .block _ b=>ziJ b
 | .loop b=>ziJ b
 | _=>1000000
def comp(P:Program)(hs:zn):Code->Option zg
 | .skip=>some .skip
 | .region id ops false=>(ops.toList.mapM (ze3 P hs ops)).map fun l=> .ops (zec hs.ghost id) l (zec hs.kill id)
 | .region id ops true=>(ops.toList.mapM (ze3 P hs ops)).bind fun l=>if P.follows .mixedOrders&&zGR ops l then some (.draw (zec hs.ghost id) l ((List.range ops.size).map (zgO ops)) (zec hs.kill id)) else none
 | .seq a b=>match comp P hs a,comp P hs b with|some x,some y=>some (.seq x y)|_,_=>none
 | .cond c t e=>match opd c,comp P hs t,comp P hs e with|some z,some x,some y=>some (.cond z x y)|_,_,_=>none
 | .block id b=>(comp P hs b).map (.block id)
 | .loop b=>(comp P hs b).map (.loop (zec hs.loop (ziJ b)))
 | .exit id=>some (.exit id (zec hs.exit id))
 | .ret=>some (.ret hs.ret)
 | _=>none
def zDk(C:Ctx)(e:zX)(S:St):Exit->Act->World->Prop:=fun ex a w=>ex=Out e/\∃ι R,Rel C S a w ι R
theorem zVp(hF:FOK P F){hs:zn}{ops:Array Oper}{Q:Exit->Act->World->Prop}{S':St}(hn:∀a w ι R,Rel C S' a w ι R->Q .normal a w)(hd:∀o∈ops.toList,∀d,o.dst=some d->d<C.n):
    ∀(l:List zK) (k:Nat),(ops.toList.drop k).mapM (ze3 P hs ops)=some l->∀(S:St) (a:Act) (w:World) (ι:Inj) (R:Nat->Prop),zbu F l S=some S'->Rel C S a w ι R->wpOps P ops Q (List.range' k (ops.size - k)) a w:=by
 intro l
 induction l with
 | nil=>
  intro k hk S a w ι R h hr;have hlen:=(zeT hk).1;simp at hlen;have:ops.size - k=0:=by simpa using hlen.symm
  rw[this]
  cases h
  exact hn a w ι R hr
 | cons x l ih=>
  intro k hk S a w ι R h hr;obtain⟨hl,hg⟩:=zeT hk;have hlt:k<ops.size:=by simp at hl;omega
  have hsz:ops.size - k=(ops.size - (k+1))+1:=by omega
  have hok:ops[k]? = some ops[k]:=zad6 hlt;have hx:=hg 0 ops[k] x (by simp [hlt]) rfl;have hk':(ops.toList.drop (k+1)).mapM (ze3 P hs ops)=some l:=by
   have hdrop:ops.toList.drop k=ops[k]::ops.toList.drop (k+1):=by
    rw[zabX (by simpa using hlt)];simp
   rw[hdrop,zacU] at hk;simp only[zabT,zabW] at hk;obtain⟨y,_,hk⟩:=zabp.1 hk;obtain⟨ys,hys,hk⟩:=zabp.1 hk
   cases hk;exact hys
  have hmem:ops[k]∈ops.toList:=by simp
  rw[hsz,zacX];simp only[wpOps,hok];have take:∀ {x0:AOp} {g:Option (Nat×Bool)},z9 P ops[k].op=some x0->x=⟨ops[k].dst,hint hs ops[k].dst x0,g⟩->(zdq F x S).bind (zbu F l)=some S'->ops[k].wp P a w (fun a' w'=>wpOps P ops Q (List.range' (k+1) (ops.size - (k+1))) a' w') Q:=by
   intro x0 g hop hxe hb;obtain⟨S1,h1,h2⟩:=zabp.1 hb;obtain⟨⟨v,H'⟩,h3,h4⟩:=zabr.1 h1;subst hxe;subst h4;exact zCT hF hop (hd _ hmem) h3 hr fun a' w' ι' R' hr'=>ih (k+1) hk' _ a' w' ι' R' h2 hr'
  unfold ze3 at hx
  split at hx
  ·cases hx
  ·rename_i op hop
   split at hx
   ·rename_i hgd
    cases hx
    simp only[zbu] at h;have hw:Region.wanted ops[k] (yielded ops a.tmps)=true:=by simp [Region.wanted,hgd]
    rw[zabo hw];exact .inl (take hop rfl h)
   ·rename_i j b hgd;obtain⟨t,ht,hx⟩:=zabr.1 hx
    cases hx
    simp only[zbu] at h
    split at h
    ·rename_i c hc;have hy:yielded ops a.tmps j=some c:=by
      obtain⟨u,h1,h2⟩:=hr.env t _ (zav hc);have:=h2.bool_inv;subst this;have hlt:t<1000000:=by
       obtain⟨o',ho',ht'⟩:=zabp.1 ht;exact zaco (hd o' (by have:=(zacl.1 ho');obtain⟨q,rfl⟩:=this;simp) t ht') C.le
      simp only[zeu,zabo hlt] at h1;simp [yielded,ht,h1]
     have hw:Region.wanted ops[k] (yielded ops a.tmps)=(c==b):=by simp [Region.wanted,hgd,hy]
     by_cases hcb:c=b
     ·rw[zabo (by rw[hw];simpa using hcb)];rw[zabo hcb] at h;exact .inl (take hop rfl h)
     ·rw[zabn (by rw[hw];simpa using hcb)];rw[zabn hcb] at h;exact ih (k+1) hk' _ _ _ _ _ h (hr.putO ztS (hd _ hmem))
    ·rename_i hc;have hy:yielded ops a.tmps j=none:=by
      obtain⟨u,h1,h2⟩:=hr.env t _ (zav hc);have:=h2.tup0_inv;subst this;have hlt:t<1000000:=by
       obtain⟨o',ho',ht'⟩:=zabp.1 ht;exact zaco (hd o' (by have:=(zacl.1 ho');obtain⟨q,rfl⟩:=this;simp) t ht') C.le
      simp only[zeu,zabo hlt] at h1;simp [yielded,ht,h1]
     have hw:Region.wanted ops[k] (yielded ops a.tmps)=false:=by simp [Region.wanted,hgd,hy]
     rw[zabn (by rw[hw];simp)];exact ih (k+1) hk' _ _ _ _ _ h (hr.putO ztS (hd _ hmem))
    ·cases h
theorem zVq(hF:FOK P F){hs:zn}{n:Nat}:∀(c:Code) {x:zg} {S:St} {e:zX} {S':St} {a:Act} {w:World} {ι:Inj} {R:Nat->Prop},comp P hs c=some x->zdT C.n c=true->zbX F n x S=some (e,S')->Rel C S a w ι R->
    c.wp P (zDk C e S') a w:=by
 intro c
 induction c with
 | skip=>intro x S e S' a w ι R hc _ h hr;simp only[comp,Option.some.injEq] at hc;subst hc;cases h;exact wp_skip ⟨rfl,ι,R,hr⟩
 | exit id=>intro x S e S' a w ι R hc _ h hr;simp only[comp,Option.some.injEq] at hc;subst hc;cases h;exact wp_exit ⟨rfl,ι,R,hr.endS _⟩
 | ret=>intro x S e S' a w ι R hc _ h hr;simp only[comp,Option.some.injEq] at hc;subst hc;cases h;exact wp_ret ⟨rfl,ι,R,hr.endS _⟩
 | region id ops d=>
  intro x S e S' a w ι R hc hs' h hr
  cases d with
  | false=>
   obtain⟨l,hl,rfl⟩:=zabr.1 hc;simp only[zbX] at h;obtain⟨S2,h,h3⟩:=zabr.1 h;obtain⟨S1,h1,h2⟩:=zabp.1 h
   cases h3
   refine wp_region ?_;obtain⟨ι1,R1,hr1⟩:=zIR h1 hr;have:=zVp hF (C:=C) (Q:=zDk C .normal ⟨zf2 (zec hs.kill id) S2.env,S2.heap⟩) (fun a' w' ι' R' h2=>⟨rfl,ι',R',h2.kill _⟩) (zQF hs') l 0 (by simpa using hl) S1 a w ι1 R1 h2 hr1;rw[zadK];simpa using this
  | true=>
   obtain⟨l,hl,hc⟩:=zabp.1 hc
   split at hc
   ·rename_i hok
    cases hc
    simp only[zbX] at h;obtain⟨S2,h,h3⟩:=zabr.1 h;obtain⟨S1,h1,h2⟩:=zabp.1 h
    cases h3
    obtain⟨ι1,R1,hr1⟩:=zIR h1 hr;exact zUb hF hl hok (zQF hs') (fun a' w' ι' R' h2=>⟨rfl,ι',R',h2.kill _⟩) h2 hr1
   ·cases hc
 | seq c1 c2 ih1 ih2=>
  intro x S e S' a w ι R hc hs' h hr;simp only[comp] at hc
  split at hc
  ·rename_i x1 x2 h1 h2
   cases hc
   simp only[zdT,zabH] at hs';simp only[zbX] at h;obtain⟨⟨e1,S1⟩,h3,h4⟩:=zabp.1 h;refine wp_seq (wp_mono (ih1 h1 hs'.1 h3 hr) ?_);rintro ex a' w' ⟨rfl,ι',R',hr'⟩
   cases e1 with
   | normal=>exact ih2 h2 hs'.2 h4 hr'
   | exit i=>cases h4;exact⟨rfl,ι',R',hr'⟩
   | ret=>cases h4;exact⟨rfl,ι',R',hr'⟩
  ·cases hc
 | cond c t el ih1 ih2=>
  intro x S e S' a w ι R hc hs' h hr;simp only[comp] at hc
  split at hc
  ·rename_i z x1 x2 h0 h1 h2
   cases hc
   simp only[zdT,zabH] at hs';simp only[zbX] at h;have hv:=hr.ev h0;unfold zhz at h
   split at h
   ·rename_i b hb;rw[hb] at hv;refine wp_cond_split hv.bool_inv (fun hb'=>ih1 h1 hs'.1 (by rw[zabo hb'] at h;exact h) hr) (fun hb'=>ih2 h2 hs'.2 (by rw[zabn (by simp [hb'])] at h;exact h) hr)
   ·cases h
  ·cases hc
 | block id b ih=>
  intro x S e S' a w ι R hc hs' h hr;obtain⟨y,hy,rfl⟩:=zabr.1 hc;simp only[zbX] at h;obtain⟨⟨e1,S1⟩,h1,h2⟩:=zabr.1 h;refine wp_block (wp_mono (ih hy hs' h1 hr) ?_);rintro ex a' w' ⟨rfl,ι',R',hr'⟩
  cases e1 with
  | normal=>cases h2;exact⟨rfl,ι',R',hr'⟩
  | exit i=>
   simp only[zix] at h2;simp only[Out,Exit.inBlock]
   split
   ·rename_i e;rw[zabo e] at h2;cases h2;exact⟨rfl,ι',R',hr'⟩
   ·rename_i e;rw[zabn e] at h2;cases h2;exact⟨rfl,ι',R',hr'⟩
  | ret=>cases h2;exact⟨rfl,ι',R',hr'⟩
 | loop b ih=>
  intro x S e S' a w ι R hc hs' h hr;obtain⟨y,hy,rfl⟩:=zabr.1 hc;simp only[zbX] at h;refine wp_loop_ghost (fun k a w=>∃S ι R,zeh (zec hs.loop (ziJ b)) (zbX F n y) k S=some (e,S')/\Rel C S a w ι R) n ⟨_,ι,R,h,hr.norm _⟩ ?_;rintro k a1 w1 ⟨S1,ι1,R1,h1,hr1⟩
  cases k with
  | zero=>simp [zeh] at h1
  | succ k=>
   simp only[zeh] at h1;obtain⟨⟨e2,S2⟩,h2,h3⟩:=zabp.1 h1;refine wp_mono (ih hy hs' h2 hr1) ?_;rintro ex a' w' ⟨rfl,ι',R',hr'⟩
   cases e2 with
   | normal=>exact⟨k,by omega,_,ι',R',h3,hr'.norm _⟩
   | exit i=>cases h3;exact⟨rfl,ι',R',hr'⟩
   | ret=>cases h3;exact⟨rfl,ι',R',hr'⟩
 | _=>intro x S e S' a w ι R hc;simp [comp] at hc
end Go.Sim

namespace Go.Sim
open Go (World Value Addr TypeId Act)
variable {P:Program}
inductive zl where
 | t (n:Nat)
 | c (n:Nat) (ag:Bool) (sz:Nat)
def zhy(P:Program):ResultVar->Option zl
 | .tmp t=>if t<1000000 then some (.t t) else none
 | .cell a t=>match zbi P t,zaQ P t with
  | some ag,some n=>if n=0\/1000000<=a then none else some (.c a ag n)
  | _,_=>none
def zl.ev(S:St):zl->Option AV
 | .t n=>look n S.env
 | .c n ag sz=>(look n S.env).bind (ldA S.heap ag sz)
def zfo(S:St)(rs:List zl):Option AV:=
 match rs with
 | [r]=>r.ev S
 | rs=>(rs.mapM (zl.ev S)).map AV.mkTup
theorem zYQ {C:Ctx} {S:St} {a:Act} {w:World} {ι:Inj} {R:Nat->Prop} (h:Rel C S a w ι R) {t:TypeId} {ag:Bool} {n:Nat} {pa v:AV} {pv:Value} (hag:zbi P t=some ag) (hn:zaQ P t=some n) (h0:n≠0)
    (hp:VA w R ι (mark S.heap) pa pv) (hv':ldA S.heap ag n pa=some v):
    ∃b off u,pv= .pointer (some ⟨b,off,none⟩)/\(loadVar t ⟨b,off,none⟩).run P w= .ok u w/\VA w R ι (mark S.heap) v u:=by
 cases pa with
 | d y=>
  cases y with
  | pd y=>
   simp only[ldA] at hv';obtain⟨y',hy',rfl⟩:=zabr.1 hv';obtain⟨b,off,hpv,hR,hel⟩:=hp.pd_inv;obtain⟨u,k1,k2⟩:=hel.load hy' h0 hag hn;exact⟨b,off,u,hpv,k1,.d k2⟩
  | _=>simp [ldA] at hv'
 | pe q y=>
  simp only[ldA] at hv';obtain⟨y',hy',rfl⟩:=zabr.1 hv'
  cases hp with
  | peR hR hel=>obtain⟨u,k1,k2⟩:=hel.load hy' h0 hag hn;exact⟨_,_,u,rfl,k1,.d k2⟩
  | peC _ _ _ _ hel=>obtain⟨u,k1,k2⟩:=hel.load hy' h0 hag hn;exact⟨_,_,u,rfl,k1,.d k2⟩
 | ref q i off=>
  simp only[ldA] at hv'
  split at hv'
  ·rename_i es hes;obtain⟨e,he,hpart⟩:=zabp.1 hv'
   cases hp with
   | @ref _ _ _ b s hι _=>
    cases h.heap _ _ (zav hes) with
    | row hι' _ hb _ _ _ hcell=>
     rw[hι] at hι';cases hι';have hel:ElA w R ι (mark S.heap) e b (i * s):=fun j x hj=>by
      obtain⟨k1,q,k2,k3⟩:=hcell i e he j x hj;exact⟨k1,q,by rw[zcq hb];exact k2,k3⟩
     obtain⟨u,k1,k2⟩:=hel.load hpart h0 hag hn;exact⟨_,_,u,rfl,k1,k2⟩
  ·cases hv'
 | _=>simp [ldA] at hv'
def zafP(tmps:Array Value):ResultVar->Sem Value:=fun
 | .tmp t=>pure (tmps.getD t undef)
 | .cell a t=>do loadVar t (<- asAddr (tmps.getD a undef))
theorem z7H(fn:Func)(tmps:Array Value):results fn tmps=(do let vs <- fn.results.mapM (zafP tmps);pure (if h:vs.size=1 then vs[0] else .tuple vs)):=rfl
theorem zZv{α β γ:Type}{f:α->Sem β}{Q:γ->β->Prop}(w:World):∀(l:List α) (xs:List γ),l.length=xs.length->(∀(i:Nat) (a:α) (x:γ),l[i]? = some a->xs[i]? = some x->∃y,(f a).run P w= .ok y w/\Q x y)->
    ∃ys:List β,(l.mapM f).run P w= .ok ys w/\ys.length=xs.length/\∀(i:Nat) (x:γ) (y:β),xs[i]? = some x->ys[i]? = some y->Q x y:=by
 intro l
 induction l with
 | nil=>intro xs hxl _;have:xs=[]:=zacc.1 hxl.symm;subst this;exact⟨[],by simp,rfl,by simp⟩
 | cons a l ih=>
  intro xs hxl h
  cases xs with
  | nil=>simp at hxl
  | cons x xs=>
   obtain⟨y,h1,h2⟩:=h 0 a x rfl rfl;obtain⟨ys,h3,h4,h5⟩:=ih xs (by simpa using hxl) fun i a x k1 k2=>h (i+1) a x (by simpa using k1) (by simpa using k2);refine⟨y::ys,?_,by simp [h4],fun i a b ha hb=> ?_⟩
   ·rw[zacU,Sem.run_bind,h1];simp only[Result.andThen_ok,Sem.run_bind,h3,Sem.run_pure]
   ·match i,ha,hb with
    | 0,ha,hb=>simp at ha hb;subst ha hb;exact h2
    | n+1,ha,hb=>exact h5 n a b (by simpa using ha) (by simpa using hb)
theorem z7I{C:Ctx}{S:St}{a:Act}{w:World}{ι:Inj}{R:Nat->Prop}(h:Rel C S a w ι R){fn:Func}{rs:List zl}{v:AV}(hc:fn.results.toList.mapM (zhy P)=some rs)(hv:zfo S rs=some v):
    ∃u,(results fn a.tmps).run P w= .ok u w/\VA w R ι (mark S.heap) v u:=by
 obtain⟨hl,hg⟩:=zeT hc;have one:∀(rv:ResultVar) (r:zl) (x:AV),zhy P rv=some r->r.ev S=some x->∃u,(zafP a.tmps rv).run P w= .ok u w/\VA w R ι (mark S.heap) x u:=by
  intro rv r x h4 h3
  cases rv with
  | tmp t=>
   simp only[zhy] at h4
   split at h4
   ·rename_i hlt
    cases h4
    exact⟨a.eval (.tmp t),by simp [zafP,Act.eval],h.tmp hlt h3⟩
   ·cases h4
  | cell p t=>
   simp only[zhy] at h4
   split at h4
   ·rename_i ag n hag hn
    split at h4
    ·cases h4
    ·rename_i h0
     cases h4
     obtain⟨pa,hpa,hld⟩:=zabp.1 h3;obtain⟨b,off,u,k1,k2,k3⟩:=zYQ h hag hn (fun e=>h0 (.inl e)) (h.tmp (Nat.lt_of_not_le fun e=>h0 (.inr e)) hpa) hld;simp only[Act.eval] at k1;exact⟨u,by simp only[zafP,k1,Sem.run_bind,asAddr,Sem.run_pure,Result.andThen_ok,k2],k3⟩
   ·cases h4
 have run:∀(us:List Value),(fn.results.toList.mapM (zafP a.tmps)).run P w= .ok us w->(results fn a.tmps).run P w= .ok (if h:us.toArray.size=1 then us.toArray[0] else .tuple us.toArray) w:=by
  intro us hu;rw[z7H,zaex];simp [hu]
 by_cases h1:rs.length=1
 ·match rs,h1,hv,hl,hg with
  | [r],_,hv,hl,hg=>
   simp only[zfo] at hv
   match hfl:fn.results.toList,hl,hg with
   | [rv],hl,hg=>
    obtain⟨u,k1,k2⟩:=one rv r v (hg 0 rv r rfl rfl) hv;refine⟨u,?_,k2⟩;have:=run [u] (by rw[hfl];simp [zacU,k1]);simpa using this
 ·have hv':(rs.mapM (zl.ev S)).map AV.mkTup=some v:=by
     match rs,h1,hv with
     | [],_,hv=>exact hv
     | _::_::_,_,hv=>exact hv
     | [r],h1,_=>exact absurd rfl h1
  obtain⟨xs,hxs,rfl⟩:=zabr.1 hv';obtain⟨hl2,hg2⟩:=zeT hxs;obtain⟨us,k1,k2,k3⟩:=zZv (P:=P) (f:=zafP a.tmps) (Q:=fun x u=>VA w R ι (mark S.heap) x u) w fn.results.toList xs (by omega) fun i rv x h2 h3=>by
   have hlt:=(zabB.1 h2).1;have hr:rs[i]? = some (rs[i]'(by omega)):=zabx _;exact one rv _ x (hg i rv _ h2 hr) (hg2 i _ x hr h3)
  refine⟨.tuple us.toArray,?_,VA.mkTup k2 k3⟩;rw[run us k1,dif_neg (by simp;omega)]
def enter(args:List AV):Env:=args.zipIdx.map fun p=>(p.2,p.1)
theorem zU4{args:List AV}{t:Nat}{x:AV}(h:(t,x)∈enter args):args[t]? = some x:=by
 unfold enter at h;obtain⟨⟨y,i⟩,hm,he⟩:=zaby.1 h
 cases he
 exact (List.mem_zipIdx_iff_getElem?.1 hm)
def frs(ns:List Nat):List Nat:=ns.filter fun o=>decide (o<1000000)
def za2(ns:List Nat)(o:Nat):Nat:=if 1000000<=o then o else pos o (frs ns)
def zf7(H:zd)(os:zd)(v:AV):List Nat:=zfm H (zfm H (zcT (os.map (·.1)) v.objs))
def zi3(H os:zd)(ns:List Nat):Bool:=
 (ns.all fun o=>(match look o H with|some (.row es)=>(AV.objsL es).all ns.contains|some (.acc _)=>decide (o<1000000)|some (.frz m)=>m.isNone&&decide (1000000<=o)|_=>false)&&(decide (o<1000000)||decide (o<1000000+os.length)))&&decide ((frs ns).length<=4)
def zkL(E:Env)(os:zd):Bool:=os.all fun p=>match look p.1 E with|some (.ref o 1 0)=>o==p.1|_=>false
def zcA(H:zd)(ns:List Nat):zd:=ns.map fun o=>(za2 ns o,((look o H).getD (.acc 0)).ren (za2 ns))
def zj7(os:zd)(S:St)(v:AV)(ns:List Nat):Option (AV×zd):=
 if (zi3 S.heap os ns&&zkL S.env os)=true then some (v.ren (za2 ns),zcA S.heap ns) else none
def ztz(os:zd)(S:St)(v:AV)(d:D):Option (AV×zd):=if zhC v.objs (zf7 S.heap os (.d d))=true then zj7 os S (.d d) (zf7 S.heap os (.d d)) else none
def zhJ(sl:Bool)(os:zd)(S:St)(v:AV):Option (AV×zd):=if sl=true then (toD S.heap v).bind (ztz os S v) else zj7 os S v (zf7 S.heap os v)
def zgh(sl:Bool)(rs:List zl)(os:zd)(p:zX×St):Option (AV×zd):=
 match p.1 with
 | .exit _=>none
 | .normal=>(zfo p.2 rs).bind (zhJ sl os p.2)
 | .ret=>(zfo p.2 rs).bind (zhJ sl os p.2)
def zf1(os:zd):Env:=os.map fun p=>(p.1,.ref p.1 1 0)
inductive AFn where
 | code (c:zg) (rs:List zl) (nt:Nat) (sl:Bool)
 | nils (c:zg) (rs:List zl) (nt:Nat)
 | ext (g:List AV->zd->Option (AV×zd))
def ze2(F:zaU)(n:Nat)(args:List AV)(os:zd)(c:zg)(rs:List zl)(nt:Nat)(sl:Bool):Option (AV×zd):=
 if args.length<=nt then (zbX F n c ⟨enter args++zf1 os,os⟩).bind (zgh sl rs os) else none
def zkm:Option (AV×zd)->Bool
 | some (.acc 0 [],[(0,.acc 0)])=>true
 | _=>false
def zLQ:List AV->Bool
 | [.d (.sl [])]=>true
 | _=>false
def zmY(F:zaU)(n:Nat)(args:List AV)(os:zd)(c:zg)(rs:List zl)(nt:Nat):Option (AV×zd):=
 if zLQ args&&os.isEmpty then
  if zkm (ze2 F n [.nl true] [] c rs nt false)&&zkm (ze2 F n [.nl false] [] c rs nt false) then some (.acc 0 [],[(0,.acc 0)]) else none
 else ze2 F n args os c rs nt false
def fnF(F:zaU)(n:Nat)(args:List AV)(os:zd):AFn->Option (AV×zd)
 | .code c rs nt sl=>ze2 F n args os c rs nt sl
 | .nils c rs nt=>zmY F n args os c rs nt
 | .ext g=>g args os
def za8(G:FuncId->Option AFn):Nat->zaU
 | 0=>fun _ _ _=>none
 | n+1=>fun f args os=>(G f).bind (fnF (za8 G n) n args os)
def zp(P:Program)(f:FuncId):AFn->Prop
 | .code c rs nt _=>zeJ P f=true/\∃fn hs,P.funcs[f]? = some fn/\fn.body.bind (comp P hs)=some c/\fn.body.map (zdT fn.ntmps)=some true/\fn.results.toList.mapM (zhy P)=some rs/\fn.ntmps=nt/\nt<=1000000
 | .nils c rs nt=>zeJ P f=true/\∃fn hs,P.funcs[f]? = some fn/\fn.body.bind (comp P hs)=some c/\fn.body.map (zdT fn.ntmps)=some true/\fn.results.toList.mapM (zhy P)=some rs/\fn.ntmps=nt/\nt<=1000000
 | .ext g=>∀args os r os',g args os=some (r,os')->(∀p∈os,∃es,p.2= .row es)->(∀i p,os[i]? = some p->p.1=1000000+i)->zeJ P f=true/\GF P f args os r os'/\WF os.length r os'
def zMI:zK->List (Nat×List Bool)
 | ⟨some d,.call _ (m::ms) _,_⟩=>[(d,m::ms)]
 | ⟨some d,.callv _ (m::ms) _,_⟩=>[(d,m::ms)]
 | _=>[]
def zMG:zK->List Nat
 | ⟨some d,.nacc,_⟩=>[d]
 | _=>[]
def zn.add(x y:zn):zn:=⟨x.kill++y.kill,x.ghost++y.ghost,x.obj++y.obj,x.acc++y.acc,x.loop++y.loop,x.exit++y.exit,if x.ret.isEmpty then y.ret else x.ret⟩
def hof:Code->zg->zn
 | .region id _ _,.ops gs l ks=>{ kill:=[(id,ks)],ghost:=[(id,gs)],obj:=l.flatMap zMI,acc:=l.flatMap zMG }
 | .region id _ _,.draw gs l _ ks=>{ kill:=[(id,ks)],ghost:=[(id,gs)],obj:=l.flatMap zMI,acc:=l.flatMap zMG }
 | .seq a b,.seq x y=>(hof a x).add (hof b y)
 | .cond _ a b,.cond _ x y=>(hof a x).add (hof b y)
 | .block _ a,.block _ x=>hof a x
 | .loop a,.loop ks x=>({ loop:=[(ziJ a,ks)] }:zn).add (hof a x)
 | .exit id,.exit _ ks=>{ exit:=[(id,ks)] }
 | .ret,.ret ks=>{ ret:=ks }
 | _,_=>{}
def zsc(fn:Func)(c:zg):zn:=match fn.body with|some b=>hof b c|none=>{}
theorem z5d{ns:List Nat}{o o':Nat}(h:o∈frs ns)(h':o'∈frs ns)(e:pos o (frs ns)=pos o' (frs ns)):o=o':=by
 have h1:=zm7 h;have h2:=zm7 h';rw[e,h2] at h1;exact (Option.some.inj h1).symm
theorem zMP{ns:List Nat}{o o':Nat}(h:o∈ns)(h':o'∈ns)(hl:(frs ns).length<=4)(e:za2 ns o=za2 ns o'):o=o':=by
 have mem:∀ {o:Nat},o∈ns->¬1000000<=o->o∈frs ns:=fun h h1=>zacW.2 ⟨h,by simp;omega⟩;unfold za2 at e
 split at e<;>split at e
 ·exact e
 ·rename_i h1 h2;have:=zgs (mem h' h2);omega
 ·rename_i h1 h2;have:=zgs (mem h h1);omega
 ·rename_i h1 h2;exact z5d (mem h h1) (mem h' h2) e
theorem zkA{H:zd}{ns:List Nat}(hl:(frs ns).length<=4){o:Nat}(h:o∈ns):look (za2 ns o) (zcA H ns)=some (((look o H).getD (.acc 0)).ren (za2 ns)):=by
 have key:∀(l:List Nat),(∀x∈l,x∈ns)->o∈l->look (za2 ns o) (l.map fun o=>(za2 ns o,((look o H).getD (.acc 0)).ren (za2 ns)))=some (((look o H).getD (.acc 0)).ren (za2 ns)):=by
  intro l
  induction l with
  | nil=>intro _ h;cases h
  | cons x l ih=>
   intro hs ho;simp only[zabs,look]
   by_cases e:za2 ns x=za2 ns o
   ·have hx:x=o:=zMP (hs x (.head _)) h hl e;subst hx;simp
   ·rw[zabn e];refine ih (fun y hy=>hs y (.tail _ hy)) ?_
    cases ho with
    | head=>exact absurd rfl e
    | tail _ ho=>exact ho
 exact key ns (fun _ h=>h) h
theorem zZH{H:zd}{ns:List Nat}{n:Nat}{ob:Obj}(h:(n,ob)∈zcA H ns):∃o∈ns,n=za2 ns o/\ob=((look o H).getD (.acc 0)).ren (za2 ns):=by
 simp only[zcA,zaby] at h;obtain⟨o,ho,he⟩:=h
 cases he
 exact⟨o,ho,rfl,rfl⟩
theorem zV8{sl:Bool}{rs:List zl}{os:zd}{e:zX}{S:St}{r:AV}{os':zd}(h:zgh sl rs os (e,S)=some (r,os')):∃v0 v ns,(∀i,e≠ .exit i)/\zfo S rs=some v0/\((v=v0)\/(∃d,v= .d d/\toD S.heap v0=some d/\zhC v0.objs ns=true))/\
    ns=zf7 S.heap os v/\zi3 S.heap os ns=true/\zkL S.env os=true/\r=v.ren (za2 ns)/\os'=zcA S.heap ns:=by
 have fin:∀ {v:AV},zj7 os S v (zf7 S.heap os v)=some (r,os')->zi3 S.heap os (zf7 S.heap os v)=true/\zkL S.env os=true/\r=v.ren (za2 (zf7 S.heap os v))/\os'=zcA S.heap (zf7 S.heap os v):=fun h2=>by
  unfold zj7 at h2
  split at h2
  ·rename_i hc;simp only[zabH] at hc
   cases h2
   exact⟨hc.1,hc.2,rfl,rfl⟩
  ·cases h2
 have key:(zfo S rs).bind (zhJ sl os S)=some (r,os')->∃v0 v ns,zfo S rs=some v0/\((v=v0)\/(∃d,v= .d d/\toD S.heap v0=some d/\zhC v0.objs ns=true))/\ns=zf7 S.heap os v/\zi3 S.heap os ns=true/\zkL S.env os=true/\r=v.ren (za2 ns)/\os'=zcA S.heap ns:=fun h=>by
  obtain⟨v,h1,h2⟩:=zabp.1 h;unfold zhJ at h2
  split at h2
  ·obtain⟨d,h3,h4⟩:=zabp.1 h2;unfold ztz at h4
   split at h4
   ·rename_i hd;exact⟨v,.d d,_,h1,.inr ⟨d,rfl,h3,hd⟩,rfl,fin h4⟩
   ·cases h4
  ·exact⟨v,v,_,h1,.inl rfl,rfl,fin h2⟩
 cases e with
 | exit i=>cases h
 | normal=>obtain⟨v0,v,ns,h⟩:=key h;exact⟨v0,v,ns,nofun,h⟩
 | ret=>obtain⟨v0,v,ns,h⟩:=key h;exact⟨v0,v,ns,nofun,h⟩
theorem zrw {F:zaU} (hF:FOK P F) {n:Nat} {f:FuncId} {c:zg} {rs:List zl} {nt:Nat} {sl:Bool} (hfn:zp P f (.code c rs nt sl)) {args:List AV} {os:zd} {r:AV} {os':zd}
    (h:fnF F n args os (.code c rs nt sl)=some (r,os')) (hrow:∀p∈os,∃es,p.2= .row es) (hnm:∀i p,os[i]? = some p->p.1=1000000+i):GF P f args os r os'/\WF os.length r os':=by
 obtain⟨_,fn,hs,hf,hc,hsl,hrs,hnt,hle⟩:=hfn;obtain⟨body,hb,hc⟩:=zabp.1 hc;rw[hb] at hsl;have hsl:zdT fn.ntmps body=true:=by simpa using hsl
 simp only[fnF,ze2] at h
 split at h
 rotate_left
 ·cases h
 rename_i hlen;obtain⟨⟨e,S'⟩,hex,hfin⟩:=zabp.1 h;obtain⟨v0,v,ns,hne,hres,hvv,hns,hout,hgh,rfl,rfl⟩:=zV8 hfin;simp only[zi3,zabH,decide_eq_true_eq] at hout;obtain⟨hall,hl4⟩:=hout;have hobj:∀o∈ns,(∃es,look o S'.heap=some (.row es)/\∀q∈AV.objsL es,q∈ns)\/(∃m,look o S'.heap=some (.acc m)/\o<1000000)\/(look o S'.heap=some (.frz none)/\1000000<=o):=fun o ho=>by
  have:=zabO.1 hall o ho;simp only[zabH] at this;have h1:=this.1
  split at h1
  ·rename_i es hes;exact .inl ⟨es,hes,fun q hq=>by simpa using zabO.1 h1 q hq⟩
  ·rename_i m hm;exact .inr (.inl ⟨m,hm,by simpa using h1⟩)
  ·rename_i m hm;simp only[zabH,Option.isNone_iff_eq_none,decide_eq_true_eq] at h1;exact .inr (.inr ⟨by rw[hm,h1.1],h1.2⟩)
  ·cases h1
 have hrange:∀o∈ns,o<1000000\/o<1000000+os.length:=fun o ho=>by
  have:=zabO.1 hall o ho;simp only[zabH,zacj,decide_eq_true_eq] at this;exact this.2
 have hvns:∀q,v.refs q=true->q∈ns:=fun q hq=>by
  rw[hns];exact zfG _ _ (zfG _ _ (zDt _ _ (ztu v q hq)))
 have hosns:∀p∈os,p.1∈ns:=fun p hp=>by
  rw[hns];exact zfG _ _ (zfG _ _ (zfG _ _ (zadw hp)))
 have hname:∀ {o},(look o os).isSome=true->1000000<=o/\o<1000000+os.length/\o∈ns:=fun {o} ho=>by
  obtain⟨ob,hob⟩:=zacV.1 ho;obtain⟨i,hi⟩:=zab6 (zav hob);have:=hnm i _ hi;simp only at this;have hlt:=(zabB.1 hi).1;exact⟨by omega,by omega,hosns _ (zav hob)⟩
 have hcl:∀o ob,o∈ns->look o S'.heap=some ob->∀q,ob.refs q=true->q∈ns:=fun o ob ho hob q hq=>by
  rcases hobj o ho with ⟨es,h1,h2⟩|⟨m,h1,_⟩|⟨h1,_⟩
  ·rw[hob] at h1;cases h1;exact h2 q (zjf es q hq)
  ·rw[hob] at h1;cases h1;cases hq
  ·rw[hob] at h1;cases h1;cases hq
 have hid:∀ {o},1000000<=o->za2 ns o=o:=fun h=>by simp [za2,h]
 have hlookn:∀o∈ns,∃ob,look o S'.heap=some ob/\look (za2 ns o) (zcA S'.heap ns)=some (ob.ren (za2 ns)):=fun o ho=>by
  rcases hobj o ho with ⟨es,h1,_⟩|⟨m,h1,_⟩|⟨h1,_⟩
  ·exact⟨_,h1,by rw[zkA hl4 ho,h1];rfl⟩
  ·exact⟨_,h1,by rw[zkA hl4 ho,h1];rfl⟩
  ·exact⟨_,h1,by rw[zkA hl4 ho,h1];rfl⟩
 have hmemo:∀n ob,(n,ob)∈zcA S'.heap ns->∃o∈ns,n=za2 ns o/\∃ob0,look o S'.heap=some ob0/\ob=ob0.ren (za2 ns):=fun n ob hm=>by
  obtain⟨o,ho,h1,h2⟩:=zZH hm;obtain⟨ob0,h3,_⟩:=hlookn o ho;exact⟨o,ho,h1,ob0,h3,by rw[h2,h3];rfl⟩
 have hisn:∀n,(look n (zcA S'.heap ns)).isSome=true->∃o∈ns,n=za2 ns o:=fun n hn=>by
  obtain⟨ob,hob⟩:=zacV.1 hn;obtain⟨o,ho,h1,_⟩:=hmemo n ob (zav hob);exact⟨o,ho,h1⟩
 have hisS:∀o∈ns,(look (za2 ns o) (zcA S'.heap ns)).isSome=true:=fun o ho=>by
  obtain⟨ob,_,h2⟩:=hlookn o ho;simp [h2]
 refine⟨?_,?_⟩;rotate_left
 ·refine⟨fun m hm=> ?_,fun i hi=> ?_,fun q hq=> ?_,fun m ob hm q hq=> ?_⟩
  ·obtain⟨o,ho,rfl⟩:=hisn m hm;unfold za2
   split
   ·rename_i h1
    rcases hrange o ho with h2|h2
    ·omega
    ·exact .inr ⟨h1,h2⟩
   ·rename_i h1;have:=zgs (show o∈frs ns from zacW.2 ⟨ho,by simp;omega⟩);exact .inl (by omega)
  ·have hi':os[i]? = some os[i]:=zabx hi;have h1:=hnm i _ hi';have h2:=hosns _ (zabK hi');rw[h1] at h2
   rcases hobj _ h2 with ⟨es,h3,_⟩|⟨m,_,h3⟩|⟨h3,_⟩
   ·have:=zkA (H:=S'.heap) hl4 h2;rw[hid (by omega),h3] at this;exact .inl ⟨_,this⟩
   ·omega
   ·have:=zkA (H:=S'.heap) hl4 h2;rw[hid (by omega),h3] at this;exact .inr this
  ·obtain⟨q0,h1,rfl⟩:=zCF hq;exact hisS q0 (hvns q0 h1)
  ·obtain⟨o,ho,_,ob0,h2,rfl⟩:=hmemo m ob hm
   cases ob0 with
   | acc k=>simp [Obj.ren,Obj.refs] at hq
   | frz k=>simp [Obj.ren,Obj.refs] at hq
   | mp k=>simp [Obj.ren,Obj.refs] at hq
   | row es=>
    simp only[Obj.ren,Obj.refs] at hq;obtain⟨q0,h3,rfl⟩:=zQm hq;exact hisS q0 (hcl o _ ho h2 q0 h3)
 intro w R ι us hR hι hinj hob hl;obtain⟨hl,hg⟩:=hl;have hmark:∀o,(look o os).isSome=true->mark os o=none:=fun o ho=>by
  obtain⟨ob,hob'⟩:=zacV.1 ho;obtain⟨es,he⟩:=hrow _ (zav hob');simp only at he;subst he;simp [mark,hob']
 let C:Ctx:={ w0:=w,keep:=fun b=>b<w.heap.size/\∀o s,ι o≠some (b,s),R0:=R,n:=fn.ntmps,gh:=os.map fun p=>(match ι p.1 with|some (b,s)=>Value.pointer (some ⟨b,1 * s+0,none⟩)|none=>undef),le:=by omega }
 have hrel:Rel C ⟨enter args++zf1 os,os⟩ { tmps:=us.toArray++Array.replicate (fn.ntmps - us.toArray.size) undef,defers:=[] } w ι R:=by
  refine⟨rfl,by simp [C];omega,rfl,rfl,rfl,zabR _,fun _ _=>Blk.of_eq rfl,fun _ _=>rfl,fun _ h=>h.1,hR,fun b hb=> .inl hb,fun _ h=>h,fun o b s h=>⟨fun hk=>hk.2 o s h,(hι o b s h).1⟩,hinj,?_,hob⟩;intro t y hy
  rcases zabS.1 hy with hy|hy
  ·have ht:=zU4 hy;have hlt:=(zabB.1 ht).1;have hu:us[t]? = some (us[t]'(by omega)):=zabx _;refine⟨us[t]'(by omega),?_,hg t y _ ht hu⟩;simp only[zeu];rw[zabo (by omega),zad5 (by simp;omega)];simp only[zadI];exact hu
  ·obtain⟨p,hm,he⟩:=zaby.1 hy
   cases he
   obtain⟨i,hi⟩:=zab6 hm;have hn1:=hnm i p hi;obtain⟨es,hes⟩:=hrow p hm;have ho:=hob p.1 p.2 hm;rw[hes] at ho
   cases ho with
   | @row _ b s c' T h1 h2 h3 h4 h5 h6 h7=>
    refine⟨.pointer (some ⟨b,1 * s+0,none⟩),?_,.ref h1 (hmark _ (hι _ _ _ h1).2.2)⟩;simp only[zeu];rw[zabn (by omega),hn1,Nat.add_sub_cancel_left];simp only[C,zabI,hi,zab8,h1]
 refine calls_of_wp hf hb (wp_mono (zVq (C:=C) hF body hc hsl hex hrel) ?_);rintro ex a' w' ⟨rfl,ι',R',hr'⟩
 -- the zfb tell that the objects lie where they lay
 have hkeep:∀o b s,ι o=some (b,s)->ι' o=some (b,s):=fun o b s ho=>by
  obtain⟨ob,hob'⟩:=zacV.1 (hι o b s ho).2.2;obtain⟨i,hi⟩:=zab6 (zav hob');have hn1:=hnm i _ hi;simp only at hn1;have:=zabO.1 hgh _ (zav hob')
  split at this
  ·rename_i o2 hlk;simp only[beq_iff_eq] at this;subst this;obtain⟨u,k1,k2⟩:=hr'.env _ _ (zav hlk);simp only[zeu] at k1;rw[zabn (by omega)] at k1;have hidx:o2 - 1000000=i:=by omega
   rw[hidx] at k1;simp only[C,zabI,hi,zab8,ho,Option.some.injEq] at k1;subst k1;generalize hv:Value.pointer (some ⟨b,1 * s+0,none⟩)=pv at k2
   cases k2 with
   | ref h1 h2=>
    simp only[Value.pointer.injEq,Option.some.injEq,Addr.mk.injEq] at hv;obtain⟨rfl,hv,_⟩:=hv;rw[h1];simp at hv;rw[hv]
  ·cases this
 obtain⟨u,k1,k2⟩:=z7I hr' hrs hres;have hseal:∃R2:Nat->Prop,(∀b,R' b->R2 b)/\(∀b,R2 b->R' b\/∃o s,o∉ns/\ι' o=some (b,s))/\VA w' R2 ι' (mark S'.heap) v u:=by
  rcases hvv with rfl|⟨d,rfl,hd,hdis⟩
  ·exact⟨R',fun _ h=>h,fun _ h=> .inl h,k2⟩
  ·refine⟨zeE R' ι' v0.objs,fun _ h=> .inl h,fun b hb=> ?_,.d (znK hr' k2 hd fun _ h=>h)⟩
   rcases hb with hb|⟨o,s,ho,hb⟩
   ·exact .inl hb
   ·refine .inr ⟨o,s,?_,hb⟩;have:=zabO.1 hdis o ho;simpa using this
 obtain⟨R2,hR2,hR2i,k2⟩:=hseal;have hnR:∀o b s,ι o=some (b,s)->R' b->look o (zcA S'.heap ns)=some (.frz none):=fun o b s ho hb=>by
  obtain⟨h1,_,h2⟩:=hname (hι o b s ho).2.2
  rcases hobj o h2 with ⟨es,h3,_⟩|⟨m,_,h3⟩|⟨h3,_⟩
  ·cases hr'.heap _ _ (zav h3) with
   | row h4 h5=>rw[hkeep o b s ho] at h4;cases h4;exact absurd hb h5
  ·omega
  ·have:=zkA (H:=S'.heap) hl4 h2;rw[hid (by omega),h3] at this;exact this
 have hold:∀b,¬C.keep b->(∃o s,ι o=some (b,s))\/w.heap.size<=b:=fun b hb=>by
  by_cases hlt:b<w.heap.size
  ·refine .inl (Classical.byContradiction fun hne=>hb ⟨hlt,fun o s ho=>hne ⟨o,s,ho⟩⟩)
  ·exact .inr (Nat.le_of_not_lt hlt)
 -- the names outside
 have hback:∃back:Nat->Nat,∀o∈ns,back (za2 ns o)=o:=by
  have hpt:∀m,∃o,∀o'∈ns,za2 ns o'=m->o'=o:=fun m=>by
   by_cases h:∃o∈ns,za2 ns o=m
   ·obtain⟨o,ho,h1⟩:=h;exact⟨o,fun o' ho' h2=>zMP ho' ho hl4 (h2.trans h1.symm)⟩
   ·exact⟨0,fun o' ho' h2=>absurd ⟨o',ho',h2⟩ h⟩
  obtain⟨g,hg⟩:=Classical.axiomOfChoice hpt;exact⟨g,fun o ho=>(hg _ o ho rfl).symm⟩
 obtain⟨back,hback⟩:=hback
 let ι2:Inj:=fun m=>if (look m (zcA S'.heap ns)).isSome=true then ι' (back m) else none
 have hι2:∀o∈ns,ι2 (za2 ns o)=ι' o:=fun o ho=>by simp only[ι2];rw[zabo (hisS o ho),hback o ho]
 have hι2i:∀m b s,ι2 m=some (b,s)->∃o∈ns,m=za2 ns o/\ι' o=some (b,s):=fun m b s hm=>by
  simp only[ι2] at hm
  split at hm
  ·rename_i h1;obtain⟨o,ho,rfl⟩:=hisn m h1;rw[hback o ho] at hm;exact⟨o,ho,rfl,hm⟩
  ·cases hm
 have hmk2:∀o∈ns,mark (zcA S'.heap ns) (za2 ns o)=mark S'.heap o:=fun o ho=>by
  obtain⟨ob,h1,h2⟩:=hlookn o ho;unfold mark;rw[h1,h2]
  cases ob<;>rfl
 have fin:a'.defers=[]/\∃v',(results fn a'.tmps).run P w'= .ok v' w'/\∃(u:Value) (ι':Inj) (R':Nat->Prop),Ending.returned v'= .returned u/\w'.os=w.os/\w'.tape=w.tape/\w'.output=w.output/\w.heap.size<=w'.heap.size/\
     (∀b,b<w.heap.size->Blk w w' b 0)/\(∀b,b<w.heap.size->(∀o s,ι o≠some (b,s))->w'.heap[b]? = w.heap[b]?)/\(∀b,R b->R' b)/\(∀b,R' b->b<w'.heap.size/\(R b\/w.heap.size<=b\/∃o s,ι o=some (b,s)/\look o (zcA S'.heap ns)=some (.frz none)))/\
     (∀o b s,ι o=some (b,s)->ι' o=some (b,s))/\(∀o b s,ι' o=some (b,s)->b<w'.heap.size/\(ι o=some (b,s)\/w.heap.size<=b))/\(∀o o' b s s',ι' o=some (b,s)->ι' o'=some (b,s')->o=o')/\
     (∀o ob,(o,ob)∈zcA S'.heap ns->OB w' R' ι' (mark (zcA S'.heap ns)) o ob)/\VA w' R' ι' (mark (zcA S'.heap ns)) (v.ren (za2 ns)) u:=by
  refine⟨hr'.defers,u,k1,u,ι2,R2,rfl,hr'.os,hr'.tape,hr'.output,hr'.grow,hr'.len,fun b hb hno=>hr'.keep b ⟨hb,hno⟩,fun b hb=>hR2 b (hr'.r0 b hb),fun b hb=> ?_,fun o b s ho=> ?_,fun m b s hm=> ?_,fun m m' b s s' h1 h2=> ?_,fun m ob hm=> ?_,?_⟩
  ·rcases hR2i b hb with hb|⟨o,s,hno,hb⟩
   ·refine⟨hr'.rlt b hb,?_⟩
    rcases hr'.rok b hb with h1|h1
    ·exact .inl h1
    ·rcases hold b h1 with ⟨o,s,ho⟩|h2
     ·exact .inr (.inr ⟨o,s,ho,hnR o b s ho hb⟩)
     ·exact .inr (.inl h2)
   ·have hown:=hr'.own o b s hb;refine⟨hown.2,?_⟩
    rcases hold b hown.1 with ⟨o2,s2,ho2⟩|h2
    ·have:=hr'.inj _ _ _ _ _ hb (hkeep o2 b s2 ho2);subst this;exact absurd (hname (hι _ _ _ ho2).2.2).2.2 hno
    ·exact .inr (.inl h2)
  ·obtain⟨h1,_,h2⟩:=hname (hι o b s ho).2.2;have:=hι2 o h2;rw[hid h1] at this;rw[this];exact hkeep o b s ho
  ·obtain⟨o,ho,rfl,h1⟩:=hι2i m b s hm;refine⟨(hr'.own o b s h1).2,?_⟩
   rcases hold b (hr'.own o b s h1).1 with ⟨o0,s0,h0⟩|h2
   ·have h3:=hkeep o0 b s0 h0;have:=hr'.inj _ _ _ _ _ h1 h3;subst this;rw[h1] at h3;cases h3;have hge:=(hname (hι _ _ _ h0).2.2).1;rw[hid hge];exact .inl h0
   ·exact .inr h2
  ·obtain⟨o,ho,rfl,h3⟩:=hι2i m b s h1;obtain⟨o',ho',rfl,h4⟩:=hι2i m' b s' h2;rw[hr'.inj _ _ _ _ _ h3 h4]
  ·obtain⟨o,ho,rfl,ob0,h2,rfl⟩:=hmemo m ob hm;have hob2:OB w' R2 ι' (mark S'.heap) o ob0:=by
    have hnR2:∀b s,ι' o=some (b,s)->¬R' b->¬R2 b:=fun b s ho' hn hb=>by
     rcases hR2i b hb with hb|⟨o2,s2,hno,hb⟩
     ·exact hn hb
     ·have:=hr'.inj _ _ _ _ _ ho' hb;subst this;exact hno ho
    cases hr'.heap o ob0 (zav h2) with
    | row k1 k2 k3 k4 k5 k6 k7=>exact .row k1 (hnR2 _ _ k1 k2) k3 k4 k5 k6 fun i e he j x hx=>let ⟨j1,q,j2,j3⟩:=k7 i e he j x hx;⟨j1,q,j2,j3.toR (.inl hR2)⟩
    | acc k1 k2 k3 k4 k5 k6=>exact .acc k1 k2 (hnR2 _ _ k2 k3) k4 k5 k6
    | accN k1=>exact .accN k1
    | frz k1=>exact .frz fun b s hb=>⟨hR2 _ (k1 b s hb).1,(k1 b s hb).2⟩
    | mp k1 k2 k3 k4 k5 k6=>exact .mp k1 (hnR2 _ _ k1 k2) k3 k4 k5 fun i k x hi=>let ⟨e,j1,j2,j3⟩:=k6 i k x hi;⟨e,j1,j2,j3.mono_v hR2 fun _ _=>rfl⟩
   exact hob2.ren (hι2 o ho) fun q hq=>by
    have hq':=hcl o ob0 ho h2 q hq;exact⟨fun p hp=>by rw[hι2 q hq'];exact hp,hmk2 q hq'⟩
  ·exact k2.ren fun q hq=>by
      have hq':=hvns q hq;exact⟨fun p hp=>by rw[hι2 q hq'];exact hp,hmk2 q hq'⟩
 cases e with
 | normal=>exact fin
 | ret=>exact fin
 | exit i=>exact absurd rfl (hne i)
def GOK(P:Program)(G:FuncId->Option AFn):Prop:=∀f fn,G f=some fn->zp P f fn
theorem zSG{G:FuncId->Option AFn}(hG:GOK P G):∀n,FOK P (za8 G n):=by
 intro n
 induction n with
 | zero=>intro f args os r os' h;cases h
 | succ n ih=>
  intro f args os r os' h0 h1 h2;obtain⟨fn,hf,h⟩:=zabp.1 h0;clear h0;have hok:=hG f fn hf
  cases fn with
  | code c rs nt sl=>exact⟨hok.1,zrw ih hok h h1 h2⟩
  | nils c rs nt=>
   refine⟨hok.1,?_⟩;simp only[fnF,zmY] at h
   split at h
   ·rename_i he;simp only[zabH,zadJ] at he;obtain⟨he,rfl⟩:=he;have hargs:args=[.d (.sl [])]:=by
     unfold zLQ at he
     split at he
     ·rfl
     ·cases he
    split at h
    ·rename_i hn;subst hargs;simp only[zabH] at hn;have h:=Option.some.inj h
     cases h
     have new0:∀ {x:Option (AV×zd)},zkm x=true->x=some (.acc 0 [],[(0,.acc 0)]):=fun {x} hx=>by
      unfold zkm at hx
      split at hx
      ·rfl
      ·cases hx
     obtain⟨g1,w1⟩:=zrw (c:=c) (rs:=rs) (nt:=nt) (sl:=false) ih hok (new0 hn.1) (by simp) (by simp);obtain⟨g2,_⟩:=zrw (c:=c) (rs:=rs) (nt:=nt) (sl:=false) ih hok (new0 hn.2) (by simp) (by simp);refine⟨fun w R ι us hR hι hinj hob hv=> ?_,w1⟩;obtain⟨hl,hg⟩:=hv
     match us,hl with
     | [u],_=>
      have hu:=hg 0 _ u rfl rfl
      cases hu with
      | d hu=>
       cases hu with
       | @sl0 a cap=>
        cases a with
        | none=>exact g1 w R ι _ hR hι hinj hob ⟨rfl,fun i x u hx hu=>by
            match i,hx,hu with
            | 0,hx,hu=>simp at hx hu;subst hx hu;exact .nl1
            | n+1,hx,hu=>simp at hx⟩
        | some a=>exact g2 w R ι _ hR hι hinj hob ⟨rfl,fun i x u hx hu=>by
            match i,hx,hu with
            | 0,hx,hu=>simp at hx hu;subst hx hu;exact .nl2
            | n+1,hx,hu=>simp at hx⟩
       | sl _ h0=>exact absurd rfl h0
    ·cases h
   ·exact zrw (c:=c) (rs:=rs) (nt:=nt) (sl:=false) ih hok h h1 h2
  | ext g=>exact hok args os r os' h h1 h2
end Go.Sim

namespace Go.Sim
open Go (World Value Addr TypeId Act)
variable {P:Program}
open Classical in
noncomputable def lim{α:Type}(x:Nat->Option α):Option α:=if h:∃n,(x n).isSome=true then x (Classical.choose h) else none
def zO{α:Type}(x:Nat->Option α):Prop:=∀n m a,n<=m->x n=some a->x m=some a
theorem zO.of_succ{α:Type}{x:Nat->Option α}(h:∀n a,x n=some a->x (n+1)=some a):zO x:=by
 intro n m a hnm hx
 induction hnm with
 | refl=>exact hx
 | step _ ih=>exact h _ _ ih
theorem zeg{α:Type}{x:Nat->Option α}(h:zO x){a:α}:lim x=some a↔∃n,x n=some a:=by
 unfold lim;constructor
 ·intro hl
  split at hl
  ·exact⟨_,hl⟩
  ·cases hl
 ·rintro⟨n,hn⟩;have hex:∃n,(x n).isSome=true:=⟨n,by rw[hn];rfl⟩;rw[dif_pos hex];have hs:=zaci hex;obtain⟨b,hb⟩:=zacV.1 hs;have h1:=h _ (max n (Classical.choose hex)) a (Nat.le_max_left ..) hn;have h2:=h _ (max n (Classical.choose hex)) b (Nat.le_max_right ..) hb;rw[h1] at h2;cases h2;exact hb
theorem zm1{α:Type}{x y:Option α}(h:∀a,x=some a↔y=some a):x=y:=by
 cases x with
 | some a=>exact ((h a).1 rfl).symm
 | none=>
  cases y with
  | none=>rfl
  | some a=>exact absurd ((h a).2 rfl) (by simp)
theorem zbU{α:Type}(x:Option α):lim (fun _=>x)=x:=
 zm1 fun a=>(zeg (x:=fun _=>x) (fun _ _ _ _ h=>h)).trans ⟨fun⟨_,h⟩=>h,fun h=>⟨0,h⟩⟩
theorem zO.bind{α β:Type}{x:Nat->Option α}{g:Nat->α->Option β}(hx:zO x)(hg:∀a,zO fun n=>g n a):zO fun n=>(x n).bind (g n):=by
 intro n m b hnm h;obtain⟨a,h1,h2⟩:=zabp.1 h;exact zabp.2 ⟨a,hx n m a hnm h1,hg a n m b hnm h2⟩
theorem zfh{α β:Type}{x:Nat->Option α}{g:Nat->α->Option β}(hx:zO x)(hg:∀a,zO fun n=>g n a):lim (fun n=>(x n).bind (g n))=(lim x).bind fun a=>lim fun n=>g n a:=by
 refine zm1 fun b=> ?_;rw[zeg (hx.bind hg)];constructor
 ·rintro⟨n,h⟩;obtain⟨a,h1,h2⟩:=zabp.1 h;exact zabp.2 ⟨a,(zeg hx).2 ⟨n,h1⟩,(zeg (hg a)).2 ⟨n,h2⟩⟩
 ·intro h;obtain⟨a,h1,h2⟩:=zabp.1 h;obtain⟨n,h3⟩:=(zeg hx).1 h1;obtain⟨m,h4⟩:=(zeg (hg a)).1 h2;exact⟨max n m,zabp.2 ⟨a,hx _ _ _ (Nat.le_max_left ..) h3,hg a _ _ _ (Nat.le_max_right ..) h4⟩⟩
theorem zO.map{α β:Type}{x:Nat->Option α}{g:α->β}(hx:zO x):zO fun n=>(x n).map g:=by
 intro n m b hnm h;obtain⟨a,h1,rfl⟩:=zabr.1 h;exact zabr.2 ⟨a,hx n m a hnm h1,rfl⟩
theorem ziX{α β:Type}{x:Nat->Option α}{g:α->β}(hx:zO x):lim (fun n=>(x n).map g)=(lim x).map g:=by
 refine zm1 fun b=> ?_;rw[zeg hx.map];constructor
 ·rintro⟨n,h⟩;obtain⟨a,h1,rfl⟩:=zabr.1 h;exact zabr.2 ⟨a,(zeg hx).2 ⟨n,h1⟩,rfl⟩
 ·intro h;obtain⟨a,h1,rfl⟩:=zabr.1 h;obtain⟨n,h2⟩:=(zeg hx).1 h1;exact⟨n,zabr.2 ⟨a,h2,rfl⟩⟩
theorem zO.const{α:Type}{x:Option α}:zO fun _=>x:=fun _ _ _ _ h=>h
theorem zO.ite{α:Type}{c:Prop}[Decidable c]{x y:Nat->Option α}(hx:zO x)(hy:zO y):zO fun n=>if c then x n else y n:=by
 by_cases h:c
 ·simpa [h] using hx
 ·simpa [h] using hy
variable (G:FuncId->Option AFn)
noncomputable def zi:zaU:=fun f args os=>lim fun n=>za8 G n f args os
noncomputable def exL(c:zg)(S:St):Option (zX×St):=lim fun n=>zbX (za8 G n) n c S
noncomputable def z6(ks:List Nat)(c:zg)(S:St):Option (zX×St):=lim fun n=>zeh ks (zbX (za8 G n) n c) n S
variable {G}
section mono
variable {F F':Nat->zaU} (hF:∀f args os,zO fun n=>F n f args os)
include hF
theorem zGz{E:Env}{H:zd}{dst:Nat}{ns dob:List Nat}{f:FuncId}{zabm:List AV}:(zO fun n=>zfJ (F n) E H dst ns dob f zabm):=by
 unfold zfJ;exact zO.ite ((hF f _ _).bind (fun _=>zO.const)) zO.const
theorem zu1{E:Env}{H:zd}{dst:Nat}{ms:List Bool}{f:FuncId}{args:List AV}:zO fun n=>zcu (F n) E H dst ms f args:=
 zO.bind zO.const fun _=>zGz hF
theorem zHS{E:Env}{H:zd}{dst:Nat}{ms:List Bool}{f:FuncId}{dob:List Nat}{zabm:List AV}:zO fun n=>zgi (F n) E H dst ms f dob zabm:=by
 unfold zgi;exact zO.ite (zO.map (zu1 hF)) zO.const
theorem zq4{E:Env}{H:zd}{dst:Nat}{ms:List Bool}{f:FuncId}{args:List AV}:zO fun n=>zbr (F n) E H dst ms f args:=by
 unfold zbr;exact zO.ite (zO.bind zO.const fun _=>zHS hF) (zu1 hF)
theorem zGC{E:Env}{H:zd}{dst:Nat}{ms:List Bool}{f:AV}{args:List AV}:zO fun n=>zht (F n) E H dst ms f args:=by
 unfold zht
 split
 ·exact zq4 hF
 ·exact zq4 hF
 ·exact zO.const
theorem zQP{E:Env}{H:zd}{dst:Nat}{op:AOp}:zO fun n=>step (F n) E H dst op:=by
 cases op with
 | call f ms xs=>exact (zq4 hF).map
 | callv f ms xs=>exact (zGC hF).map
 | _=>exact zO.const
theorem ztI{x:zK}{S:St}:zO fun n=>zdq (F n) x S:=(zQP hF).map
theorem zrp:∀ {l:List zK} {S:St},zO fun n=>zbu (F n) l S:=by
 intro l
 induction l with
 | nil=>intro S;exact zO.const
 | cons o l ih=>
  intro S;simp only[zbu]
  split
  ·exact (ztI hF).bind (fun _=>ih)
  ·split
   ·exact zO.ite ((ztI hF).bind (fun _=>ih)) ih
   ·exact ih
   ·exact zO.const
theorem zve{x:zK}{fr:List (List Nat)}{acc:List (List Nat×List Nat)}{S:St}:zO fun n=>zdf (F n) x fr acc S:=by
 unfold zdf;exact zO.ite (ztI hF) zO.const
theorem zro:∀ {l:List zK} {fr:List (List Nat)} {acc:List (List Nat×List Nat)} {S:St},zO fun n=>zbz (F n) l fr acc S:=by
 intro l
 induction l with
 | nil=>intro fr acc S;exact zO.const
 | cons o l ih=>
  intro fr acc S;simp only[zbz]
  split
  ·exact (zve hF).bind (fun _=>ih)
  ·split
   ·exact zO.ite ((zve hF).bind (fun _=>ih)) (zO.bind zO.const (fun _=>ih))
   ·exact zO.bind zO.const (fun _=>ih)
   ·exact zO.const
theorem zvd{l:List zK}{fr:List (List Nat)}{S:St}:zO fun n=>zfQ (F n) l fr S:=by
 unfold zfQ;exact zO.ite (zro hF) zO.const
omit hF in
theorem zQx{g:Nat->St->Option (zX×St)}(hg:∀S,zO fun n=>g n S){p:zX×St}:zO fun n=>zhh (g n) p:=by
 unfold zhh
 split
 ·exact hg _
 ·exact zO.const
 ·exact zO.const
omit hF in
theorem zBd{g:Nat->St->Option (zX×St)}(hg:∀S,zO fun n=>g n S){ks:List Nat}{p:zX×St}:zO fun n=>zc0 ks (g n) p:=by
 unfold zc0
 split
 ·exact hg _
 ·exact zO.const
 ·exact zO.const
omit hF in
theorem zMh{b:Nat->St->Option (zX×St)}(hb:∀S,zO fun n=>b n S):∀ {ks:List Nat} {k:Nat} {S:St},zO fun n=>zeh ks (b n) k S:=by
 intro ks k
 induction k with
 | zero=>intro S;exact zO.const
 | succ k ih=>intro S;exact (hb S).bind fun p=>zBd fun _=>ih
omit hF in
theorem zMi{ks:List Nat}{b:St->Option (zX×St)}:∀ {S:St},zO fun k=>zeh ks b k S:=by
 intro S;refine zO.of_succ fun k=> ?_
 induction k generalizing S with
 | zero=>intro a h;cases h
 | succ k ih=>
  intro a h;simp only[zeh] at h ⊢;obtain⟨p,h1,h2⟩:=zabp.1 h;refine zabp.2 ⟨p,h1,?_⟩;unfold zc0 at h2 ⊢
  split at h2
  ·exact ih _ h2
  ·exact h2
  ·exact h2
omit hF in
theorem zMg{b:Nat->St->Option (zX×St)}(hb:∀S,zO fun n=>b n S){ks:List Nat}{S:St}:zO fun n=>zeh ks (b n) n S:=fun n m a hnm h=>
 zMh hb n m a hnm (zMi n m a hnm h)
theorem zfV:∀ {c:zg} {S:St},zO fun n=>zbX (F n) n c S:=by
 intro c
 induction c with
 | skip=>intro S;exact zO.const
 | exit i ks=>intro S;exact zO.const
 | ret ks=>intro S;exact zO.const
 | ops gs l ks=>intro S;exact (zO.bind zO.const fun _=>zrp hF).map
 | draw gs l fr ks=>intro S;exact (zO.bind zO.const fun _=>zvd hF).map
 | seq x y ih1 ih2=>intro S;exact ih1.bind fun p=>zQx fun S=>ih2
 | cond c x y ih1 ih2=>
  intro S;simp only[zbX,zhz]
  split
  ·exact zO.ite ih1 ih2
  ·exact zO.const
 | block id x ih=>intro S;exact ih.map
 | loop ks x ih=>intro S;exact zMg fun S=>ih
end mono
theorem zbC(f:FuncId)(args:List AV)(os:zd):zO fun n=>za8 G n f args os:=by
 refine zO.of_succ fun n=> ?_
 induction n generalizing f args os with
 | zero=>intro a h;cases h
 | succ n ih=>
  -- two steps: more fuel for the calls, more rounds
  have code:∀(c:zg) (rs:List zl) (nt:Nat) (sl:Bool) (args:List AV) (os:zd) (a:AV×zd),ze2 (za8 G n) n args os c rs nt sl=some a->ze2 (za8 G (n+1)) (n+1) args os c rs nt sl=some a:=by
   intro c rs nt sl args os a h2;simp only[ze2] at h2 ⊢
   split at h2
   ·rename_i hc;rw[zabo hc];obtain⟨p,h3,h4⟩:=zabp.1 h2;refine zabp.2 ⟨p,?_,h4⟩
    let Fs:Nat->zaU:=fun k=>if k<=n then za8 G n else za8 G (n+1)
    have hFs:∀f args os,zO fun k=>Fs k f args os:=fun f args os=>zO.of_succ fun k a h=>by
     simp only[Fs] at h ⊢
     split at h
     ·split
      ·exact h
      ·exact ih f args os a h
     ·rename_i hk;rw[zabn (by omega)];exact h
    have:=zfV (F:=Fs) hFs (c:=c) (S:=⟨enter args++zf1 os,os⟩) n (n+1) p (by omega);simp only[Fs,zabR,if_true] at this;rw[zabn (by omega)] at this;exact this h3
   ·cases h2
  intro a h;have h:(G f).bind (fnF (za8 G n) n args os)=some a:=h;show (G f).bind (fnF (za8 G (n+1)) (n+1) args os)=some a;obtain⟨fn,h1,h2⟩:=zabp.1 h;refine zabp.2 ⟨fn,h1,?_⟩
  cases fn with
  | ext g=>exact h2
  | code c rs nt sl=>exact code c rs nt sl args os a h2
  | nils c rs nt=>
   have new0:∀ {x:Option (AV×zd)},zkm x=true->x=some (.acc 0 [],[(0,.acc 0)]):=fun {x} hx=>by
    unfold zkm at hx
    split at hx
    ·rfl
    ·cases hx
   show zmY (za8 G (n+1)) (n+1) args os c rs nt=some a;have h2:zmY (za8 G n) n args os c rs nt=some a:=h2;unfold zmY at h2 ⊢
   split at h2
   ·rename_i he;rw[zabo he]
    split at h2
    ·rename_i hn;simp only[zabH] at hn;rw[code _ _ _ _ _ _ _ (new0 hn.1),code _ _ _ _ _ _ _ (new0 hn.2)];exact h2
    ·cases h2
   ·rename_i he;rw[zabn he];exact code _ _ _ _ _ _ _ h2
theorem zGB{f:FuncId}{args:List AV}{os:zd}{p:AV×zd}:zi G f args os=some p↔∃n,za8 G n f args os=some p:=zeg (zbC f args os)
theorem zL6{E:Env}{H:zd}{dst:Nat}{ms:List Bool}{f:FuncId}{args:List AV}:lim (fun n=>zcu (za8 G n) E H dst ms f args)=zcu (zi G) E H dst ms f args:=by
 unfold zcu;rw[zfh zO.const fun _=>zGz zbC,zbU]
 congr 1;funext zabm
 unfold zfJ
 split
 ·rw[zfh (g:=fun _=>zeI E H dst (zbF H ms args) (zaz ms args)) (zbC _ _ _) fun _=>zO.const]
  congr 1;funext p
  exact zbU _
 ·exact zbU _
theorem zA9{E:Env}{H:zd}{dst:Nat}{ms:List Bool}{f:FuncId}{args:List AV}:lim (fun n=>zbr (za8 G n) E H dst ms f args)=zbr (zi G) E H dst ms f args:=by
 unfold zbr
 split
 ·rw[zfh zO.const fun _=>zHS zbC,zbU]
  congr 1;funext zabm
  unfold zgi
  split
  ·rw[ziX (zu1 zbC),zL6]
  ·exact zbU _
 ·exact zL6
theorem zY4{E:Env}{H:zd}{dst:Nat}{op:AOp}:lim (fun n=>step (za8 G n) E H dst op)=step (zi G) E H dst op:=by
 cases op with
 | call f ms xs=>exact (ziX (zq4 zbC)).trans (congrArg _ zA9)
 | callv f ms xs=>
  refine (ziX (zGC zbC)).trans (congrArg _ ?_);unfold zht
  split
  ·exact zA9
  ·exact zA9
  ·exact zbU _
 | _=>exact zbU _
theorem zL7{x:zK}{S:St}:lim (fun n=>zdq (za8 G n) x S)=zdq (zi G) x S:=(ziX (zQP zbC)).trans (congrArg _ zY4)
theorem zY2:∀ {l:List zK} {S:St},lim (fun n=>zbu (za8 G n) l S)=zbu (zi G) l S:=by
 intro l
 induction l with
 | nil=>intro S;exact zbU _
 | cons o l ih=>
  intro S;have key:lim (fun n=>(zdq (za8 G n) o S).bind (zbu (za8 G n) l))=(zdq (zi G) o S).bind (zbu (zi G) l):=by
   rw[zfh (ztI zbC) fun _=>zrp zbC,zL7]
   congr 1;funext p;exact ih
  simp only[zbu]
  split
  ·exact key
  ·split
   ·split
    ·exact key
    ·exact ih
   ·exact ih
   ·exact zbU _
theorem zYZ{x:zK}{fr:List (List Nat)}{acc:List (List Nat×List Nat)}{S:St}:lim (fun n=>zdf (za8 G n) x fr acc S)=zdf (zi G) x fr acc S:=by
 unfold zdf
 split
 ·exact zL7
 ·exact zbU _
theorem zY1:∀ {l:List zK} {fr:List (List Nat)} {acc:List (List Nat×List Nat)} {S:St},lim (fun n=>zbz (za8 G n) l fr acc S)=zbz (zi G) l fr acc S:=by
 intro l
 induction l with
 | nil=>intro fr acc S;exact zbU _
 | cons o l ih=>
  intro fr acc S;have key:lim (fun n=>(zdf (za8 G n) o fr acc S).bind (zbz (za8 G n) l fr.tail (acc++[feet o S])))=(zdf (zi G) o fr acc S).bind (zbz (zi G) l fr.tail (acc++[feet o S])):=by
   rw[zfh (zve zbC) fun _=>zro zbC,zYZ]
   congr 1;funext p;exact ih
  simp only[zbz]
  split
  ·exact key
  ·split
   ·split
    ·exact key
    ·rw[zfh zO.const fun _=>zro zbC,zbU]
     congr 1;funext p;exact ih
   ·rw[zfh zO.const fun _=>zro zbC,zbU]
    congr 1;funext p;exact ih
   ·exact zbU _
theorem zYY{l:List zK}{fr:List (List Nat)}{S:St}:lim (fun n=>zfQ (za8 G n) l fr S)=zfQ (zi G) l fr S:=by
 unfold zfQ
 split
 ·exact zY1
 ·exact zbU _
theorem zVk{S:St}:exL G .skip S=some (.normal,S):=zbU _
theorem zVg{i:Nat}{ks:List Nat}{S:St}:exL G (.exit i ks) S=some (.exit i,endS ks S):=zbU _
theorem zVi{ks:List Nat}{S:St}:exL G (.ret ks) S=some (.ret,endS ks S):=zbU _
theorem zVh{gs:List Nat}{l:List zK}{ks:List Nat}{S:St}:exL G (.ops gs l ks) S=((zfb gs S).bind (zbu (zi G) l)).map (ziT ks):=by
 refine (ziX (zO.bind zO.const fun _=>zrp zbC)).trans (congrArg _ ?_);rw[zfh zO.const fun _=>zrp zbC,zbU]
 congr 1;funext p;exact zY2
theorem zVf{gs:List Nat}{l:List zK}{fr:List (List Nat)}{ks:List Nat}{S:St}:exL G (.draw gs l fr ks) S=((zfb gs S).bind (zfQ (zi G) l fr)).map (ziT ks):=by
 refine (ziX (zO.bind zO.const fun _=>zvd zbC)).trans (congrArg _ ?_);rw[zfh zO.const fun _=>zvd zbC,zbU]
 congr 1;funext p;exact zYY
theorem zVj{x y:zg}{S:St}:exL G (.seq x y) S=(exL G x S).bind (zhh (exL G y)):=by
 refine (zfh (zfV zbC) fun p=>zQx fun S=>zfV zbC).trans ?_
 congr 1;funext p
 unfold zhh
 split
 ·rfl
 ·exact zbU _
 ·exact zbU _
theorem zVe{c:Opd}{x y:zg}{S:St}:exL G (.cond c x y) S=zhz (c.ev S.env) (exL G x S) (exL G y S):=by
 show lim (fun n=>zhz (c.ev S.env) (zbX (za8 G n) n x S) (zbX (za8 G n) n y S))=_;unfold zhz
 split
 ·split
  ·rfl
  ·rfl
 ·exact zbU _
theorem zVd{id:Nat}{x:zg}{S:St}:exL G (.block id x) S=(exL G x S).map (zix id):=ziX (zfV zbC)
theorem zaC{ks:List Nat}{x:zg}{S:St}:z6 G ks x S=(exL G x S).bind (zc0 ks (z6 G ks x)):=by
 have hm:∀S,zO fun n=>zeh ks (zbX (za8 G n) n x) n S:=fun S=>zMg fun S=>zfV zbC;have e1:(exL G x S).bind (zc0 ks (z6 G ks x))=lim fun n=>(zbX (za8 G n) n x S).bind (zc0 ks (zeh ks (zbX (za8 G n) n x) n)):=by
  rw[zfh (zfV zbC) fun p=>zBd hm]
  congr 1;funext p
  unfold zc0
  split
  ·rfl
  ·exact (zbU _).symm
  ·exact (zbU _).symm
 rw[e1];refine zm1 fun a=> ?_;rw[z6,zeg (hm S),zeg ((zfV zbC).bind fun p=>zBd hm)];constructor
 ·rintro⟨n,h⟩
  cases n with
  | zero=>cases h
  | succ n=>
   simp only[zeh] at h;obtain⟨p,h1,h2⟩:=zabp.1 h;refine⟨n+1,zabp.2 ⟨p,h1,?_⟩⟩;unfold zc0 at h2 ⊢
   split at h2
   ·exact zMi n (n+1) a (by omega) h2
   ·exact h2
   ·exact h2
 ·rintro⟨n,h⟩;obtain⟨p,h1,h2⟩:=zabp.1 h;refine⟨n+1,?_⟩;simp only[zeh];refine zabp.2 ⟨p,zfV zbC n (n+1) p (by omega) h1,?_⟩;unfold zc0 at h2 ⊢
  split at h2
  ·exact zMh (fun S=>zfV zbC) n (n+1) a (by omega) h2
  ·exact h2
  ·exact h2
theorem zYX{c:zg}{rs:List zl}{nt:Nat}{sl:Bool}{args:List AV}{os:zd}(hl:args.length<=nt):(zO fun n=>ze2 (za8 G n) n args os c rs nt sl)/\lim (fun n=>ze2 (za8 G n) n args os c rs nt sl)=(exL G c ⟨enter args++zf1 os,os⟩).bind (zgh sl rs os):=by
 have e:(fun n=>ze2 (za8 G n) n args os c rs nt sl)=fun n=>(zbX (za8 G n) n c ⟨enter args++zf1 os,os⟩).bind (zgh sl rs os):=by
  funext n;simp only[ze2];rw[zabo hl]
 rw[e];refine⟨zO.bind (g:=fun _ p=>zgh sl rs os p) (zfV zbC) fun p=>zO.const,?_⟩;rw[zfh (g:=fun _ p=>zgh sl rs os p) (zfV zbC) fun p=>zO.const];show (exL G c ⟨enter args++zf1 os,os⟩).bind _=_
 congr 1;funext p;exact zbU _
theorem zY3{α:Type}{x y:Nat->Option α}(hx:zO x)(hy:zO y)(h0:x 0=none)(h:∀n,x (n+1)=y n):lim x=lim y:=by
 refine zm1 fun a=> ?_;rw[zeg hx,zeg hy];constructor
 ·rintro⟨n,h1⟩
  cases n with
  | zero=>rw[h0] at h1;cases h1
  | succ n=>exact⟨n,by rw[<- h];exact h1⟩
 ·rintro⟨n,h1⟩;exact⟨n+1,by rw[h];exact h1⟩
theorem zI{f:FuncId}{c:zg}{rs:List zl}{nt:Nat}{sl:Bool}(h:G f=some (.code c rs nt sl)){args:List AV}{os:zd}(hl:args.length<=nt):zi G f args os=(exL G c ⟨enter args++zf1 os,os⟩).bind (zgh sl rs os):=by
 obtain⟨h1,h2⟩:=zYX (G:=G) (c:=c) (rs:=rs) (os:=os) (sl:=sl) hl;rw[<- h2];exact zY3 (zbC f args os) h1 rfl fun n=>by simp only[za8,h,zabY,fnF]
theorem zajn{f:FuncId}{c:zg}{rs:List zl}{nt:Nat}(h:G f=some (.nils c rs nt)){es:List D}(h0:es≠[])(hl:1<=nt):zi G f [.d (.sl es)] []=(exL G c ⟨enter [.d (.sl es)],[]⟩).bind (zgh false rs []):=by
 obtain⟨h1,h2⟩:=zYX (G:=G) (c:=c) (rs:=rs) (sl:=false) (os:=[]) (args:=[.d (.sl es)]) hl;rw[show enter [.d (.sl es)]=enter [AV.d (.sl es)]++zf1 [] by simp [zf1], <- h2];refine zY3 (zbC f _ []) h1 rfl fun n=> ?_;simp only[za8,h,zabY,fnF,zmY];rw[zabn];intro hc;simp only[zabH] at hc;unfold zLQ at hc
 split at hc
 ·rename_i e;cases e;exact h0 rfl
 ·exact absurd hc.1 (by simp)
theorem zajo {f:FuncId} {c:zg} {rs:List zl} {nt:Nat} (h:G f=some (.nils c rs nt)) (hl:1<=nt) (h1:(exL G c ⟨enter [.nl true],[]⟩).bind (zgh false rs [])=some (.acc 0 [],[(0,.acc 0)]))
    (h2:(exL G c ⟨enter [.nl false],[]⟩).bind (zgh false rs [])=some (.acc 0 [],[(0,.acc 0)])):zi G f [.d (.sl [])] []=some (.acc 0 [],[(0,.acc 0)]):=by
 obtain⟨k1,k2⟩:=zYX (G:=G) (c:=c) (rs:=rs) (sl:=false) (os:=[]) (args:=[.nl true]) hl;obtain⟨k3,k4⟩:=zYX (G:=G) (c:=c) (rs:=rs) (sl:=false) (os:=[]) (args:=[.nl false]) hl;rw[show enter [.nl true]++zf1 []=enter [AV.nl true] by simp [zf1],h1] at k2;rw[show enter [.nl false]++zf1 []=enter [AV.nl false] by simp [zf1],h2] at k4;obtain⟨n,hn⟩:=(zeg k1).1 k2;obtain⟨m,hm⟩:=(zeg k3).1 k4;refine zGB.2 ⟨max n m+1,?_⟩;simp only[za8,h,zabY,fnF,zmY,zLQ,List.isEmpty_nil,zacG,if_true];rw[show ze2 (za8 G (max n m)) (max n m) [.nl true] [] c rs nt false=_ from k1 n _ _ (Nat.le_max_left ..) hn,show ze2 (za8 G (max n m)) (max n m) [.nl false] [] c rs nt false=_ from k3 m _ _ (Nat.le_max_right ..) hm];rfl
theorem zah8{f:FuncId}{g:List AV->zd->Option (AV×zd)}(h:G f=some (.ext g)){args:List AV}{os:zd}:zi G f args os=g args os:=by
 refine zm1 fun a=> ?_;rw[zGB];constructor
 ·rintro⟨n,h1⟩
  cases n with
  | zero=>cases h1
  | succ n=>simpa [za8,h,fnF] using h1
 ·intro h1;exact⟨1,by simpa [za8,h,fnF] using h1⟩
theorem zSJ(hG:GOK P G):FOK P (zi G):=by
 intro f args os r os' h h1 h2;obtain⟨n,hn⟩:=zGB.1 h;exact zSG hG n f args os r os' hn h1 h2
theorem zaL {T:Type} {ks:List Nat} {x:zg} (μ:T->Nat) (inv:T->Prop) (st:T->St) (r:T->Option (zX×St))
    (h:∀t,inv t->∀L:St->Option (zX×St),(∀t',inv t'->μ t'<μ t->L (st t')=r t')->(exL G x (st t)).bind (zc0 ks L)=r t):∀t,inv t->z6 G ks x (st t)=r t:=by
 intro t;generalize hk:μ t=k
 induction k using Nat.strongRecOn generalizing t with
 | ind k ih=>
  intro hi;rw[zaC];exact h t hi _ fun t' hi' hlt=>ih (μ t') (by omega) t' rfl hi'
end Go.Sim
