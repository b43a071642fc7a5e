/-
  Composite values.
-/
import Derived.Test.YtcembpbhkcbnhaaGreatBab93df0
import Derived.Deep.Upon
import Derived.Laws.OwnMore
set_option linter.unusedSimpArgs false
set_option linter.unusedVariables false
set_option maxHeartbeats 10000000
set_option maxRecDepth 100000
namespace Go.Sim
open Go (World Value Addr TypeId Act)
variable {P:Program} {C:Ctx} {S:St} {a:Act} {w:World} {ι:Inj} {R:Nat->Prop}
theorem z4N{ag:Bool}{off n:Nat}{x y:D}(h:zcc ag off n x=some y)(hn:n≠0)(hc:ag=false->y.cell=true):y.size=n:=by
 obtain⟨h1,⟨rfl,rfl⟩|⟨rfl,h0,h2⟩⟩:=zhb h hn
 ·rw[D.size_agg,zac9,zadA];have h1:off+n<=x.cells.length:=h1;omega
 ·rw[D.size_cell (hc rfl),h0]
theorem zHx{mk:Nat->Option Nat}{ag:Bool}{off n:Nat}{x v:AV}{u:Value}(h:VA w R ι mk x u)(hp:zd6 ag off n x=some v)(hn:n≠0):
    ∃b o,u= .pointer (some ⟨b,o,none⟩)/\VA w R ι mk v (.pointer (some ⟨b,o+off,none⟩)):=by
 cases h with
 | ref h hmk=>simp only[zd6,Option.some.injEq] at hp;subst hp;exact⟨_,_,rfl,by rw[zadx];exact .ref h hmk⟩
 | d h=>
  cases h with
  | pd h1 h2=>
   simp only[zd6,zabr] at hp;obtain⟨z,hz,rfl⟩:=hp;exact⟨_,_,rfl,.d (.pd h1 (h2.part_el hz hn))⟩
  | _=>simp [zd6] at hp
 | peR h1 h2=>
  simp only[zd6,zabr] at hp;obtain⟨z,hz,rfl⟩:=hp;exact⟨_,_,rfl,.peR h1 (h2.part_el hz hn)⟩
 | peC h1 h2 h3 h4 h5=>
  simp only[zd6,zabr] at hp;obtain⟨z,hz,rfl⟩:=hp;refine⟨_,_,rfl,.peC h1 h2 h3 ?_ (h5.part_el hz hn)⟩;have h6:=(zhb hz hn).1;have h7:=z4N hz hn fun hag=>by
   subst hag;obtain⟨_,⟨h,_⟩|⟨_,_,h⟩⟩:=zhb hz hn
   ·cases h
   ·exact (h5.v_of_cells _ _ h).1
  omega
 | _=>simp [zd6] at hp
theorem Rd.sl_inv{es:List D}{u:Value}(h:Rd w R (.v (.sl es) u))(h0:es≠[]):∃b off s cap,u= .slice (some ⟨b,off,none⟩) es.length cap/\R b/\0<s/\es.length<=LIM/\es.length<=cap/\(∀e∈es,e.size=s)/\
    ∀(i:Nat) (e:D),es[i]? = some e->Rd w R (.el e b (off+i * s)):=by
 cases h with
 | sl0=>exact absurd rfl h0
 | sl hR _ hs hl hc hsz h=>exact⟨_,_,_,_,rfl,hR,hs,hl,hc,hsz,h⟩
theorem Rd.sl_len{es:List D}{u:Value}(h:Rd w R (.v (.sl es) u)):∃a cap,u= .slice a es.length cap/\es.length<=cap/\es.length<=LIM:=by
 cases h with
 | sl0=>exact⟨_,_,rfl,by simp,by simp⟩
 | sl hR _ hs hl hc hsz h=>exact⟨_,_,rfl,hc,hl⟩
theorem zZG{es:List D}{i:Nat}{e:D}(h:es[i]? = some e):es≠[]:=by rintro rfl;simp at h
theorem zXL{n:Nat}{i:Int}{x v:AV}{u:Value}(hr:Rel C S a w ι R)(h:VA w R ι (mark S.heap) x u)(hp:zcH S.heap n i x=some v)(hi:0<=i):
    ∃b o len cap,u= .slice (some ⟨b,o,none⟩) len cap/\i<len/\VA w R ι (mark S.heap) v (.pointer (some ⟨b,o+i.toNat * n,none⟩)):=by
 have slc:∀(es:List D),Rd w R (.v (.sl es) u)->(es[i.toNat]?.bind fun e=>if e.size=n then some (AV.d (.pd e)) else none)=some v->
     ∃b o len cap,u= .slice (some ⟨b,o,none⟩) len cap/\i<len/\VA w R ι (mark S.heap) v (.pointer (some ⟨b,o+i.toNat * n,none⟩)):=by
  intro es h hp;obtain⟨e,he,hp⟩:=zabp.1 hp
  split at hp
  ·rename_i hsz;cases hp;obtain⟨b,off,s,cap,rfl,hR,hs,hl,hc,hz,hh⟩:=h.sl_inv (zZG he);have hlt:=(zabB.1 he).1;have:=hz e (zabK he);refine⟨_,_,_,_,rfl,by omega,.d (.pd hR ?_)⟩;rw[<- hsz,this];exact hh _ _ he
  ·cases hp
 cases x with
 | d y=>cases y with
  | sl es=>exact slc es h.of_d hp
  | _=>simp [zcH] at hp
 | xsl es=>cases h with|xsl h=>exact slc es h hp
 | osl o off len=>
  simp only[zcH] at hp
  split at hp
  ·rename_i hlen
   split at hp
   ·rename_i es hes;obtain⟨e,he,hp⟩:=zabp.1 hp
    split at hp
    ·rename_i hsz;cases hp
     cases h with
     | osl0=>exact absurd hlen (by omega)
     | @osl _ _ _ cap b s c T hι hmk hb hl hc hL=>
      have hob:=hr.heap _ _ (zav hes)
      cases hob with
      | row hι' _ _ _ hsz' _ _=>
       rw[hι] at hι';cases hι';have:=hsz' e (zabK he);refine⟨_,_,_,_,rfl,hlen,?_⟩;have e1:off * s+i.toNat * n=(off+i.toNat) * s+0:=by rw[<- hsz,this,zach,zacI]
       rw[e1];exact .ref hι hmk
    ·cases hp
   ·cases hp
  ·cases hp
 | acc o es=>
  simp only[zcH] at hp;obtain⟨e,he,hp⟩:=zabp.1 hp
  split at hp
  ·rename_i hsz;cases hp;have hlt:=(zabB.1 he).1
   cases h with
   | accR hR hs hL hl hz hh hm=>
    have:=hz e (zabK he);refine⟨_,_,_,_,rfl,by omega,.peR hR ?_⟩;rw[<- hsz,this];exact hh _ _ he
   | @accC _ b s m cap _ c T hι hmk hm hL hl hz hb hc hh=>
    have:=hz e (zabK he);refine⟨_,_,_,_,rfl,by omega,?_⟩;rw[<- hsz,this,zabU];refine .peC hι hmk hb ?_ (hh _ _ he);rw[this]
    calc i.toNat * s+s=(i.toNat+1) * s:=by rw[zacq]
     _<=m * s:=zab2 _ (by omega)
   | acc0=>simp at hlt
  ·cases hp
 | _=>simp [zcH] at hp
theorem zBw{mk:Nat->Option Nat}{x:AV}{u:Value}(h:VA w R ι mk x u)(hx:x.cell=true):u.oneCell'=true:=by
 cases h with
 | d h=>cases h<;>first|(simp_all [AV.cell,D.cell,Value.oneCell'];done)|(rename_i h;cases u<;>first|rfl|cases h)
 | _=>simp_all [AV.cell,Value.oneCell']
theorem VA.cells{mk:Nat->Option Nat}{x:AV}{u:Value}(h:VA w R ι mk x u)(hx:zbR x=false):
    u.cells.size=x.size/\∀(i:Nat) (c:AV),x.cells[i]? = some c->c.cell=true/\∃q,u.cells[i]? = some q/\VA w R ι mk c q:=by
 have one:∀ {x:AV} {u:Value},VA w R ι mk x u->x.cell=true->x.cells=[x]->x.size=1->u.cells= #[u]->(u.cells.size=x.size/\∀(i:Nat) (c:AV),x.cells[i]? = some c->c.cell=true/\∃q,u.cells[i]? = some q/\VA w R ι mk c q):=by
  intro x u h h1 h2 h3 h4;refine⟨by simp [h3,h4],fun i c hc=> ?_⟩;rw[h2] at hc
  match i,hc with
  | 0,hc=>simp at hc;subst hc;exact⟨h1,u,by simp [h4],h⟩
  | n+1,hc=>simp at hc
 cases h with
 | @d x u h=>
  have ht:∀vs,x≠ .tup vs:=fun vs e=>by subst e;simp [zbR] at hx
  obtain⟨h1,h2⟩:=h.cells_of_v ht;refine⟨h1,fun i c hc=> ?_⟩;simp only[AV.cells,zabI,zabr] at hc;obtain⟨c',hc',rfl⟩:=hc;obtain⟨k1,q,k2,k3⟩:=h2 i c' hc';exact⟨k1,q,k2,.d k3⟩
 | agg hl hc h=>
  refine⟨by simp [Value.cells,AV.size,hl],fun i c hi=> ?_⟩;rename_i cs vs;have hi:cs[i]? = some c:=hi;have hlt:i<cs.length:=(zabB.1 hi).1;have hq:vs[i]? = some (vs[i]'(by omega)):=zabx _;exact⟨hc c (zabK hi),_,by simp only[Value.cells,zadI];exact hq,h i c _ hi hq⟩
 | tup=>simp [zbR] at hx
 | undef=>simp [zbR] at hx
 | nl1=>exact one .nl1 rfl rfl rfl rfl
 | nl2=>exact one .nl2 rfl rfl rfl rfl
 | mpr a b=>exact one (.mpr a b) rfl rfl rfl rfl
 | ref h hm=>exact one (.ref h hm) rfl rfl rfl rfl
 | osl a b c d e f=>exact one (.osl a b c d e f) rfl rfl rfl rfl
 | osl0=>exact one .osl0 rfl rfl rfl rfl
 | accR a b c d e f g=>exact one (.accR a b c d e f g) rfl rfl rfl rfl
 | accC a b c d e f g h i=>exact one (.accC a b c d e f g h i) rfl rfl rfl rfl
 | peR a b=>exact one (.peR a b) rfl rfl rfl rfl
 | peC a b c d e=>exact one (.peC a b c d e) rfl rfl rfl rfl
 | acc0=>exact one .acc0 rfl rfl rfl rfl
 | xsl a=>exact one (.xsl a) rfl rfl rfl rfl
 | fn a b=>exact one (.fn a b) rfl rfl rfl rfl
theorem zMp(cs:List AV):(AV.mkAgg cs).cells=cs/\(AV.mkAgg cs).size=cs.length:=by
 unfold AV.mkAgg
 cases h:zbq cs with
 | none=>exact⟨rfl,rfl⟩
 | some ds=>
  have:=ziu h;subst this;simp [AV.cells,AV.size,D.cells,D.size]
theorem zQJ{α:Type}(l m:List α)(off j:Nat)(h:off+m.length<=l.length):
    (zfv l off m)[j]? = if off<=j/\j<off+m.length then m[j - off]? else l[j]? := by
 unfold zfv;have hlt:(l.take off).length=off:=by simp;omega
 by_cases h1:j<off
 ·rw[zabn (by omega),zab9,zacN (by omega),zadg h1]
 ·by_cases h2:j<off+m.length
  ·rw[zabo ⟨by omega,h2⟩,zab9,zacE (by omega),zacN (by omega),hlt]
  ·rw[zabn (by omega),zacE (by simp;omega),zado]
   congr 1;simp;omega
theorem zQK{α:Type}(l m:List α)(off:Nat)(h:off+m.length<=l.length):(zfv l off m).length=l.length:=by
 simp [zfv];omega
theorem zMQ{x v y:AV}{off:Nat}(h:zcM x off v=some y):off+v.size<=x.size/\y.size=x.size/\
    ∀j,y.cells[j]? = if off<=j/\j<off+v.size then v.cells[j - off]? else x.cells[j]? := by
 unfold zcM at h
 split at h
 ·rename_i h1;cases h;refine⟨by omega,h1.2,fun j=> ?_⟩
  by_cases hj:j<v.size
  ·rw[zabo ⟨by omega,by omega⟩,h1.1];rfl
  ·rw[zabn (by omega),zadl (by rw[AV.size_cells];omega),zadl (by rw[AV.size_cells];omega)]
 ·split at h
  ·rename_i h1;cases h;obtain⟨k1,k2⟩:=zMp (zfv x.cells off v.cells);have h2:off+v.cells.length<=x.cells.length:=by rw[AV.size_cells,AV.size_cells];exact h1
   refine⟨h1,by rw[k2,zQK _ _ _ h2,AV.size_cells],fun j=> ?_⟩;rw[k1,zQJ _ _ _ _ h2,AV.size_cells]
  ·cases h
theorem zCL(w:World)(b o:Nat)(vs:List Value){c:Array Value}{T:TypeId}(hb:w.heap[b]? = some (.cells c T (0,0))):
    ∃c',(w.setCells b o vs).heap[b]? = some (.cells c' T (0,0))/\c'.size=c.size/\∀j,c'[j]? = if o<=j/\j<o+vs.length/\j<c.size then vs[j - o]? else c[j]? := by
 induction vs generalizing o w c with
 | nil=>exact⟨c,hb,rfl,fun j=>by rw[zabn (by simp;omega)]⟩
 | cons v vs ih=>
  simp only[World.setCells];have h1:(w.setCell ⟨b,o,none⟩ v).heap[b]? = some (.cells (c.setIfInBounds o v) T (0,0)):=by
   simp [World.setCell,zad8,hb]
  obtain⟨c',h2,h3,h4⟩:=ih (w:=w.setCell ⟨b,o,none⟩ v) (o:=o+1) h1;refine⟨c',h2,by rw[h3];simp,fun j=> ?_⟩;rw[h4 j];simp only[Array.size_setIfInBounds,zabu]
  by_cases hj:j=o
  ·subst hj;rw[zabn (by omega)]
   by_cases hc:j<c.size
   ·rw[zabo ⟨by omega,by omega,hc⟩,zad9 hc];simp
   ·rw[zabn (by omega),zadN (by simp;omega),zadN (by omega)]
  ·rw[zaea (Ne.symm hj)]
   by_cases hh:o+1<=j/\j<o+1+vs.length/\j<c.size
   ·rw[zabo hh,zabo ⟨by omega,by omega,hh.2.2⟩];have:j - o=(j - (o+1))+1:=by omega
    rw[this,zad2]
   ·rw[zabn hh,zabn (by omega)]
theorem zdR(w:World)(b o:Nat)(vs:List Value){b':Nat}(h:b'≠b):(w.setCells b o vs).heap[b']? = w.heap[b']? := by
 induction vs generalizing o w with
 | nil=>rfl
 | cons v vs ih=>simp only[World.setCells];rw[ih,heap_setCell_other _ _ _ _ h]
theorem zCM(w:World)(b o:Nat)(vs:List Value):(w.setCells b o vs).os=w.os/\(w.setCells b o vs).tape=w.tape/\(w.setCells b o vs).output=w.output/\(w.setCells b o vs).heap.size=w.heap.size:=by
 induction vs generalizing o w with
 | nil=>exact⟨rfl,rfl,rfl,rfl⟩
 | cons v vs ih=>simp only[World.setCells];obtain⟨h1,h2,h3,h4⟩:=ih (w:=w.setCell ⟨b,o,none⟩ v) (o:=o+1);exact⟨h1,h2,h3,by rw[h4];simp⟩
theorem zhi{α:Type}{k:Nat}{x:α}{l:List (Nat×α)}{p:Nat×α}(h:p∈zP k x l):p=(k,x)\/(p∈l/\p.1≠k):=by
 cases h with
 | head=>exact .inl rfl
 | tail _ h=>exact .inr (zi1.1 h)
theorem Rel.storeW (h:Rel C S a w ι R) {o i off:Nat} {v e e':AV} {es:List AV} {u:Value} (hes:look o S.heap=some (.row es)) (he:es[i]? = some e) (hov:zcM e off v=some e')
    (hv:VA w R ι (mark S.heap) v u) (hvt:zbR v=false) {p:Value} (hp:VA w R ι (mark S.heap) (.ref o i off) p):
    ∃b s,p= .pointer (some ⟨b,i * s+off,none⟩)/\ι o=some (b,s)/\u.cells.size=v.size/\(∀j,j<u.cells.toList.length->(w.cell? ⟨b,i * s+off+0+j,none⟩).isSome=true/\w.frozen? ⟨b,i * s+off+0+j,none⟩=false)/\
     (∀q∈u.cells.toList,q.oneCell'=true)/\Rel C ⟨S.env,zP o (.row (es.set i e')) S.heap⟩ a (w.setCells b (i * s+off) u.cells.toList) ι R:=by
 cases hp with
 | @ref _ _ _ b s hι hmk0=>
  have hob:=h.heap _ _ (zav hes)
  cases hob with
  | @row _ b' s' c T hι' hRb hb hs hes' hc hcell=>
   rw[hι] at hι';cases hι';obtain⟨hu1,hu2⟩:=hv.cells hvt;obtain⟨ho1,ho2,ho3⟩:=zMQ hov;have hilt:i<es.length:=(zabB.1 he).1;have hesz:e.size=s:=hes' e (zabK he);have hbound:i * s+s<=c.size:=by
    have:(i+1) * s<=es.length * s:=zab2 _ hilt;rw[zacq] at this;omega
   have hvl:u.cells.toList.length=v.size:=by rw[Array.length_toList,hu1]
   have hthere:∀j,j<u.cells.toList.length->(w.cell? ⟨b,i * s+off+0+j,none⟩).isSome=true/\w.frozen? ⟨b,i * s+off+0+j,none⟩=false:=fun j hj=>by
    refine⟨?_,frozen_of_row w b _ c T hb⟩;rw[zcq hb];simp;omega
   have hone:∀q∈u.cells.toList,q.oneCell'=true:=fun q hq=>by
    obtain⟨j,hj⟩:=zab6 hq;have hlt:j<v.cells.length:=by rw[AV.size_cells, <- hvl];exact (zabB.1 hj).1
    obtain⟨k1,q',k2,k3⟩:=hu2 j _ (zabx hlt);have:q'=q:=by
     rw[<- zaec,hj] at k2;cases k2;rfl
    subst this;exact zBw k3 k1
   refine⟨b,s,rfl,hι,hu1,hthere,hone,?_⟩
   ·obtain⟨c',hc1,hc2,hc3⟩:=zCL w b (i * s+off) u.cells.toList hb;obtain⟨r1,r2,r3,r4⟩:=zCM w b (i * s+off) u.cells.toList;have hKR:zbK R w (w.setCells b (i * s+off) u.cells.toList):=fun b' hb'=>zdR _ _ _ _ (fun e=>hRb (e ▸ hb'));have hmk:∀q,mark (zP o (Obj.row (es.set i e')) S.heap) q=mark S.heap q:=fun q=>by
     by_cases e:q=o
     ·subst e;rw[zei];simp [mark,hes]
     ·exact zej e
    have hmkf:mark (zP o (Obj.row (es.set i e')) S.heap)=mark S.heap:=funext hmk;have hstep:∀q,Step w (w.setCells b (i * s+off) u.cells.toList) ι ι (mark S.heap) (mark S.heap) q:=fun q=>by
     refine⟨fun _ _ h=>h,fun b1 s1 hq=> ?_,fun m h=>⟨m,h,zabR _⟩,fun m h=>⟨m,h,zabR _⟩⟩
     by_cases e:b1=b
     ·subst e;have hqo:q=o:=h.inj _ _ _ _ _ hq hι;subst hqo;have hm0:mark S.heap q=none:=by simp [mark,hes]
      rw[hm0];intro c1 T1 hc1';rw[hb] at hc1';cases hc1';exact⟨c',hc1,hc2,fun j hj=>by simp at hj⟩
     ·exact Blk.of_eq (zdR _ _ _ _ e)
    refine h.change r1 r2 r3 (by omega) (fun b' _=>by
        by_cases e:b'=b
        ·subst e;intro c1 T1 hc1';rw[hb] at hc1';cases hc1';exact⟨c',hc1,hc2,fun j hj=>by simp at hj⟩
        ·exact Blk.of_eq (zdR _ _ _ _ e)) (fun b' hb'=>zdR _ _ _ _ (fun e=>(h.own o b s hι).1 (e ▸ hb'))) (fun _ h=>h) (fun b' hb'=>by rw[r4];exact h.rlt b' hb') h.rok hKR
     (fun q b1 s1 hq=>by rw[r4];exact h.own q b1 s1 hq) h.inj (fun q _=>by rw[hmkf];exact hstep q) ?_
    rw[hmkf];intro q ob hq
    rcases zhi hq with hq|⟨hq,hne⟩
    ·cases hq
     refine .row hι hRb hc1 hs (fun x hx=> ?_) (by rw[zacb,hc2];exact hc) ?_
     ·rcases zac1 hx with hx|rfl
      ·exact hes' x hx
      ·rw[ho2,hesz]
     ·intro i2 e2 hi2 j x hj;rw[zadh] at hi2;have inrow:∀(e2:AV),es[i2]? = some e2->∀(j:Nat) (x:AV),e2.cells[j]? = some x->¬(i2=i/\off<=j/\j<off+v.size)->
          x.cell=true/\∃q,c'[i2 * s+j]? = some q/\VA (w.setCells b (i * s+off) u.cells.toList) R ι (mark S.heap) x q:=by
       intro e2 hi2 j x hj hnot;obtain⟨k1,q,k2,k3⟩:=hcell i2 e2 hi2 j x hj;refine⟨k1,q,?_,k3.mono (fun _ h=>h) hKR fun p _=>hstep p⟩;rw[hc3,zabn,k2];rintro⟨g1,g2,g3⟩;have hjlt:j<s:=by
        have:=(zabB.1 hj).1;rw[AV.size_cells,hes' e2 (zabK hi2)] at this;exact this
       rw[hvl] at g2;have:i2=i:=by
        rcases zadR i2 i with hlt|heq|hgt
        ·have:(i2+1) * s<=i * s:=zab2 _ hlt;rw[zacq] at this;omega
        ·exact heq
        ·have:(i+1) * s<=i2 * s:=zab2 _ hgt;rw[zacq] at this;omega
       subst this;exact hnot ⟨rfl,by omega,by omega⟩
      by_cases hii:i=i2
      ·subst hii;rw[zabo rfl,zabo hilt] at hi2
       cases hi2
       rw[ho3 j] at hj
       by_cases hin:off<=j/\j<off+v.size
       ·rw[zabo hin] at hj;obtain⟨k1,q,k2,k3⟩:=hu2 _ _ hj;refine⟨k1,q,?_,k3.mono (fun _ h=>h) hKR fun p _=>hstep p⟩;rw[hc3,zabo ⟨by omega,by omega,by omega⟩,zaec];rw[show i * s+j - (i * s+off)=j - off by omega];exact k2
       ·rw[zabn hin] at hj;exact inrow e he j x hj (fun hh=>hin hh.2)
      ·rw[zabn hii] at hi2;exact inrow e2 hi2 j x hj (fun hh=>hii hh.1.symm)
    ·refine (h.heap q ob hq).mono (fun _ h=>h) hKR (fun b1 s1 hb1=>⟨hb1,?_,fun h=>h⟩) (fun h=>h) fun p _=>hstep p;exact zdR _ _ _ _ fun e=>hne (h.inj _ _ _ _ _ (e ▸ hb1) hι)
theorem Rel.store (h:Rel C S a w ι R) {o i off n:Nat} {t:TypeId} {v e e':AV} {es:List AV} {u:Value} (hes:look o S.heap=some (.row es)) (he:es[i]? = some e) (hov:zcM e off v=some e')
    (hv:VA w R ι (mark S.heap) v u) (hvt:zbR v=false) (hvn:v.size=n) (hsz:zaQ P t=some n) {p:Value} (hp:VA w R ι (mark S.heap) (.ref o i off) p):
    ∃w',(Instr.storeAt t p u).run P w= .ok () w'/\Rel C ⟨S.env,zP o (.row (es.set i e')) S.heap⟩ a w' ι R:=by
 obtain⟨b,s,rfl,hι,hu1,hthere,hone,hrel⟩:=h.storeW hes he hov hv hvt hp;have hst:=run_storeCells_cells (P:=P) b (i * s+off) u.cells.toList 0 w (fun j hj=>(hthere j hj).1) (fun j hj=>(hthere j hj).2) hone;refine⟨_,?_,hrel⟩;simp only[Instr.storeAt,Instr.sureAddr,storeVar,Sem.run_bind,Sem.run_pure,Result.andThen_ok,zet hsz,Sem.run_ite];simp only[ne_eq,hu1,hvn,zabD,if_false,Sem.run_pure,Result.andThen_ok];simpa using hst
theorem Rel.clear (h:Rel C S a w ι R) {o off len n:Nat} {t e ty:TypeId} {zv:Value} {es:List AV} (hes:look o S.heap=some (.row es)) (hl:off+len=es.length) (hsz:es.head?.map AV.size=some n)
    (ht:P.underlying t=some (.slice e)) (hz:∀w,(zeroValue e).run P w= .ok zv w) (hzc:zv.cells.size=n) (hn0:n≠0) (hz1:∀q∈zv.cells,q.oneCell'=true) {u:Value} (hp:VA w R ι (mark S.heap) (.osl o off len) u):
    ∃w',(Builtin.clear_ #[t] ty #[u]).run P w= .ok (.tuple #[]) w'/\Rel C ⟨S.env,zP o (.row (es.take off)) S.heap⟩ a w' ι R:=by
 have hob:=h.heap _ _ (zav hes)
 cases hob with
 | @row _ b s c T hι hRb hb hs hes' hc hcell=>
  obtain⟨e0,he0,hse⟩:∃e0,es.head? = some e0/\e0.size=n:=zabr.1 hsz;have hsn:s=n:=by rw[<- hes' e0 (List.mem_of_mem_head? he0)];exact hse
  subst hsn;obtain⟨zs,hzs⟩:∃zs,zs=(Builtin.zeroCells zv.cells len).toList:=⟨_,rfl⟩;have hzl:zs.length=len * s:=by rw[hzs];simp [Builtin.zeroCells,hzc]
  have hbound:off * s+len * s<=c.size:=by rw[<- zach,hl];exact hc
  have hone:∀v∈zs,v.oneCell'=true:=fun v hv=>by
   rw[hzs] at hv;unfold Builtin.zeroCells at hv;rw[zady,zaby] at hv;obtain⟨q,_,rfl⟩:=hv;have hq:q % zv.cells.size<zv.cells.size:=zacr _ (by omega);rw[getElem!_pos zv.cells (q % zv.cells.size) hq];exact hz1 _ (Array.getElem_mem hq)
  have hst:=run_storeCells_cells (P:=P) b (off * s) zs 0 w (fun j hj=>by rw[zcq hb];simp;omega) (fun j _=>frozen_of_row w b _ c T hb) hone;have hrun:(Builtin.clear_ #[t] ty #[u]).run P w= .ok (.tuple #[]) (w.setCells b (off * s) zs):=by
   have h0:len=0->zs=[]:=fun h0=>zacc.1 (by rw[hzl,h0,Nat.zero_mul])
   cases hp with
   | @osl0 _ _ ao=>
    rw[h0 rfl]
    cases ao<;>simp [Builtin.clear_,run_underlying ht,World.setCells]
   | osl hι' hmk hb' hlc hc' hL=>
    rw[hι] at hι';cases hι'
    cases len with
    | zero=>rw[h0 rfl];simp [Builtin.clear_,run_underlying ht,World.setCells]
    | succ m=>
     simp only[zacI] at hst;simp [Builtin.clear_,run_underlying ht,hz, <- hzs,hst]
  refine⟨_,hrun,?_⟩;obtain⟨c',hc1,hc2,hc3⟩:=zCL w b (off * s) zs hb;obtain⟨r1,r2,r3,r4⟩:=zCM w b (off * s) zs;have hKR:zbK R w (w.setCells b (off * s) zs):=fun b' hb'=>zdR _ _ _ _ (fun e=>hRb (e ▸ hb'));have hmkf:mark (zP o (Obj.row (es.take off)) S.heap)=mark S.heap:=funext fun q=>by
   by_cases e:q=o
   ·subst e;rw[zei];simp [mark,hes]
   ·exact zej e
  have hstep:∀q,Step w (w.setCells b (off * s) zs) ι ι (mark S.heap) (mark S.heap) q:=fun q=>by
   refine⟨fun _ _ h=>h,fun b1 s1 hq=> ?_,fun m h=>⟨m,h,zabR _⟩,fun m h=>⟨m,h,zabR _⟩⟩
   by_cases e:b1=b
   ·subst e;have hqo:q=o:=h.inj _ _ _ _ _ hq hι;subst hqo;have hm0:mark S.heap q=none:=by simp [mark,hes]
    rw[hm0];intro c1 T1 hc1';rw[hb] at hc1';cases hc1';exact⟨c',hc1,hc2,fun j hj=>by simp at hj⟩
   ·exact Blk.of_eq (zdR _ _ _ _ e)
  refine h.change r1 r2 r3 (by omega) (fun b' _=>by
      by_cases e:b'=b
      ·subst e;intro c1 T1 hc1';rw[hb] at hc1';cases hc1';exact⟨c',hc1,hc2,fun j hj=>by simp at hj⟩
      ·exact Blk.of_eq (zdR _ _ _ _ e)) (fun b' hb'=>zdR _ _ _ _ (fun e=>(h.own o b s hι).1 (e ▸ hb'))) (fun _ h=>h) (fun b' hb'=>by rw[r4];exact h.rlt b' hb') h.rok hKR
   (fun q b1 s1 hq=>by rw[r4];exact h.own q b1 s1 hq) h.inj (fun q _=>by rw[hmkf];exact hstep q) ?_
  rw[hmkf];intro q ob hq
  rcases zhi hq with hq|⟨hq,hne⟩
  ·cases hq
   refine .row hι hRb hc1 hs (fun x hx=>hes' x (zac8 hx)) ?_ fun i2 e2 hi2 j x hj=> ?_
   ·rw[hc2,zac9,Nat.min_eq_left (by omega)];exact zaca (zab2 _ (by omega)) hc
   ·rw[zaed] at hi2
    split at hi2
    ·rename_i hlt;obtain⟨k1,qv,k2,k3⟩:=hcell i2 e2 hi2 j x hj;refine⟨k1,qv,?_,k3.mono (fun _ h=>h) hKR fun p _=>hstep p⟩;rw[hc3,zabn,k2];rintro⟨g1,_,_⟩;have hjlt:j<s:=by
      have:=(zabB.1 hj).1;rw[AV.size_cells,hes' e2 (zabK hi2)] at this;exact this
     have:(i2+1) * s<=off * s:=zab2 _ hlt;rw[zacq] at this;omega
    ·cases hi2
  ·refine (h.heap q ob hq).mono (fun _ h=>h) hKR (fun b1 s1 hb1=>⟨hb1,?_,fun h=>h⟩) (fun h=>h) fun p _=>hstep p;exact zdR _ _ _ _ fun e=>hne (h.inj _ _ _ _ _ (e ▸ hb1) hι)
end Go.Sim

namespace Go.Sim
open Go (World Value Addr TypeId Act)
variable {P:Program} {C:Ctx} {S:St} {a:Act} {w:World} {ι:Inj} {R:Nat->Prop}
theorem Rel.newRow (h:Rel C S a w ι R) {o s:Nat} {es:List AV} {c:Array Value} (T:TypeId) (hu:zho o S) (hs:0<s) (hsz:∀e∈es,e.size=s) (hc:es.length * s<=c.size)
    (hr:∀e∈es,e.refs o=false)
    (hcell:∀(i:Nat) (e:AV),es[i]? = some e->∀(j:Nat) (x:AV),e.cells[j]? = some x->x.cell=true/\∃q,c[i * s+j]? = some q/\VA w R ι (mark S.heap) x q):
    Rel C ⟨S.env,zP o (.row es) S.heap⟩ a (w.alloc (.cells c T)) (upd ι o (w.heap.size,s)) R:=by
 refine h.new c T hu (.row zcQ (fun hR=> ?_) (heap_alloc_new w _) hs hsz hc fun i e hi j x hj=> ?_)
 ·have:=h.rlt _ hR;omega
 ·obtain⟨k1,q,k2,k3⟩:=hcell i e hi j x hj;refine⟨k1,q,k2,k3.mono (fun _ h=>h) (zbK.alloc h _) fun p hp=> ?_⟩;have hpo:p≠o:=fun e'=>by
   subst e';have h1:=AV.cells_refs hj hp;rw[hr e (zabK hi)] at h1;cases h1
  exact Step.other (zbp hpo) (zej hpo) fun b s hb=>zcU (h.own p b s hb).2
theorem Rel.newVar(h:Rel C S a w ι R){o:Nat}{x:AV}{u:Value}(T:TypeId)(hu:zho o S)(hv:VA w R ι (mark S.heap) x u)(hx:zbR x=false)(h0:x.size≠0)(hr:x.refs o=false):
    Rel C ⟨S.env,zP o (.row [x]) S.heap⟩ a (w.alloc (.cells u.cells T)) (upd ι o (w.heap.size,x.size)) R/\
    VA (w.alloc (.cells u.cells T)) R (upd ι o (w.heap.size,x.size)) (mark (zP o (.row [x]) S.heap)) (.ref o 0 0) (.pointer (some ⟨w.heap.size,0,none⟩)):=by
 obtain⟨k1,k2⟩:=hv.cells hx;refine⟨h.newRow T hu (by omega) (by simp) (by simp [k1]) (by simpa using hr) ?_,?_⟩
 ·intro i e hi j y hj
  match i,hi with
  | 0,hi=>
   simp at hi;subst hi;obtain⟨k3,q,k4,k5⟩:=k2 j y hj;exact⟨k3,q,by simpa using k4,k5⟩
  | n+1,hi=>simp at hi
 ·have:=VA.ref (w:=w.alloc (.cells u.cells T)) (R:=R) (ι:=upd ι o (w.heap.size,x.size)) (mk:=mark (zP o (.row [x]) S.heap)) (o:=o) (i:=0) (off:=0) (b:=w.heap.size) (s:=x.size) zcQ (by rw[zei]);simpa using this
def clr(ι:Inj)(o:Nat):Inj:=fun q=>if q=o then none else ι q
theorem zq8{o:Nat}:clr ι o o=none:=by simp [clr]
theorem zjT{o q:Nat}(h:q≠o):clr ι o q=ι q:=by simp [clr,h]
theorem Rel.newNone(h:Rel C S a w ι R){o n:Nat}(hu:zho o S):Rel C ⟨S.env,zP o (.acc n) S.heap⟩ a w (clr ι o) R:=by
 have hst:∀p,p≠o->Step w w ι (clr ι o) (mark S.heap) (mark (zP o (.acc n) S.heap)) p:=fun p hp=>Step.other (zjT hp) (zej hp) fun _ _ _=>rfl;refine h.change rfl rfl rfl (zabR _) (fun _ _=>Blk.of_eq rfl) (fun _ _=>rfl) (fun _ h=>h) h.rlt h.rok (fun _ _=>rfl) ?_ ?_ ?_ ?_
 ·intro q b s hq
  by_cases e:q=o
  ·subst e;rw[zq8] at hq;cases hq
  ·rw[zjT e] at hq;exact h.own q b s hq
 ·intro q q' b s s' h1 h2
  by_cases e:q=o
  ·subst e;rw[zq8] at h1;cases h1
  ·by_cases e':q'=o
   ·subst e';rw[zq8] at h2;cases h2
   ·rw[zjT e] at h1;rw[zjT e'] at h2;exact h.inj _ _ _ _ _ h1 h2
 ·intro p hp;refine hst p fun e=> ?_;subst e;rw[hu.1] at hp;cases hp
 ·intro q ob hq
  rcases zhi hq with hq|⟨hq1,hne⟩
  ·cases hq;exact .accN zq8
  ·refine (h.heap q ob hq1).mono (fun _ h=>h) (fun _ _=>rfl) (fun b s hb=>⟨by rw[zjT hne,hb],rfl,fun h=>h⟩) (fun h0=>by rw[zjT hne,h0]) fun p hp=> ?_;refine hst p fun e=> ?_;subst e;have:=zhd (l:=S.heap) hq1 hu.2;rw[hp] at this;cases this
theorem zmy{mk:Nat->Option Nat}{x:AV}{k:Int}{u:Value}(h:VA w R ι mk x u)(hx:zbQ x=some k):∃kd,u= .int kd k:=by
 cases x with
 | d y=>cases y with
  | int kd n=>simp only[zbQ,Option.some.injEq] at hx;subst hx;exact⟨kd,h.int_inv.1⟩
  | _=>simp [zbQ] at hx
 | _=>simp [zbQ] at hx
theorem zCN{mk:Nat->Option Nat}{x:AV}{k:Int}{u:Value}{y:Nat}{code:BoundsCode}(h:VA w R ι mk x u)(hx:zbQ x=some k)(h0:0<=k)(hy:k<=y)(w':World):
    (Instr.sliceBound u y code).run P w'= .ok k.toNat w':=by
 obtain⟨kd,rfl⟩:=zmy h hx;simp [Instr.sliceBound,asIntOf,h0,hy]
def VAo(w:World)(R:Nat->Prop)(ι:Inj)(mk:Nat->Option Nat):Option AV->Option Value->Prop
 | none,none=>True
 | some x,some u=>VA w R ι mk x u
 | _,_=>False
theorem ziy{x:Option AV}{d y k:Nat}(h:zcl x d y=some k):(x=none/\k=d)\/∃v i,x=some v/\zbQ v=some i/\0<=i/\i<=y/\k=i.toNat:=by
 cases x with
 | none=>simp only[zcl,Option.some.injEq] at h;exact .inl ⟨rfl,h.symm⟩
 | some v=>
  simp only[zcl] at h;obtain⟨i,h1,h2⟩:=zabp.1 h
  split at h2
  ·rename_i h3;cases h2;exact .inr ⟨v,i,rfl,h1,h3.1,h3.2,rfl⟩
  ·cases h2
theorem ztC {mk:Nat->Option Nat} {lo hi mx:Option AV} {ulo uhi umx:Option Value} {len cap l h:Nat} (hlo:VAo w R ι mk lo ulo) (hhi:VAo w R ι mk hi uhi) (hmx:VAo w R ι mk mx umx)
    (hb1:zcl hi len len=some h) (hb2:zcl lo 0 h=some l) (hlc:len<=cap) (hm:∀m,mx=some m->zbQ m=some (h:Int)/\hi≠none) (isSlice:Bool) (w':World):
    h<=len/\l<=h/\(Instr.sliceBounds isSlice len cap ulo uhi umx).run P w'= .ok (l,h,if mx=none then cap else h) w':=by
 have e1:h<=len:=by
  rcases ziy hb1 with ⟨_,rfl⟩|⟨v,i,_,_,h1,h2,rfl⟩<;>omega
 have e2:l<=h:=by
  rcases ziy hb2 with ⟨_,rfl⟩|⟨v,i,_,_,h1,h2,rfl⟩<;>omega
 refine⟨e1,e2,?_⟩;have fM:∀m u,mx=some m->umx=some u->∀code,(Instr.sliceBound u cap code).run P w'= .ok h w':=fun m u h1 h2 code=>by
  subst h1 h2;have:=hm m rfl;have:=zCN (P:=P) (code:=code) (y:=cap) hmx this.1 (by omega) (by omega) w';simpa using this
 have fH:∀v u (y:Nat),hi=some v->uhi=some u->h<=y->∀code,(Instr.sliceBound u y code).run P w'= .ok h w':=fun v u y h1 h2 h3 code=>by
  subst h1 h2
  rcases ziy hb1 with ⟨h4,_⟩|⟨v',i,h4,h5,h6,h7,rfl⟩
  ·cases h4
  ·cases h4
   exact zCN (P:=P) (code:=code) (y:=y) hhi h5 h6 (by omega) w'
 have fL:∀v u,lo=some v->ulo=some u->∀code,(Instr.sliceBound u h code).run P w'= .ok l w':=fun v u h1 h2 code=>by
  subst h1 h2
  rcases ziy hb2 with ⟨h4,_⟩|⟨v',i,h4,h5,h6,h7,rfl⟩
  ·cases h4
  ·cases h4
   exact zCN (P:=P) (code:=code) (y:=h) hlo h5 h6 (by omega) w'
 have zH:hi=none->h=len:=fun e=>by rcases ziy hb1 with ⟨_,h⟩|⟨v,_,h,_⟩;exact h;rw[e] at h;cases h
 have zL:lo=none->l=0:=fun e=>by rcases ziy hb2 with ⟨_,h⟩|⟨v,_,h,_⟩;exact h;rw[e] at h;cases h
 cases mx with
 | none=>
  cases umx with
  | some _=>exact hmx.elim
  | none=>
   cases hi with
   | none=>
    cases uhi with
    | some _=>exact hhi.elim
    | none=>
     have:=zH rfl;subst this
     cases lo with
     | none=>cases ulo with
      | some _=>exact hlo.elim
      | none=>have:=zL rfl;subst this;simp [Instr.sliceBounds]
     | some v=>cases ulo with
      | none=>exact hlo.elim
      | some u=>simp [Instr.sliceBounds,fL v u rfl rfl]
   | some v1=>
    cases uhi with
    | none=>exact hhi.elim
    | some u1=>
     have f1:=fH v1 u1 cap rfl rfl (by omega)
     cases lo with
     | none=>cases ulo with
      | some _=>exact hlo.elim
      | none=>have:=zL rfl;subst this;simp [Instr.sliceBounds,f1]
     | some v=>cases ulo with
      | none=>exact hlo.elim
      | some u=>simp [Instr.sliceBounds,f1,fL v u rfl rfl]
 | some m=>
  cases umx with
  | none=>exact hmx.elim
  | some um=>
   have f0:=fM m um rfl rfl
   cases hi with
   | none=>exact absurd rfl (hm m rfl).2
   | some v1=>
    cases uhi with
    | none=>exact hhi.elim
    | some u1=>
     have f1:=fH v1 u1 h rfl rfl (zabR _)
     cases lo with
     | none=>cases ulo with
      | some _=>exact hlo.elim
      | none=>have:=zL rfl;subst this;simp [Instr.sliceBounds,f0,f1]
     | some v=>cases ulo with
      | none=>exact hlo.elim
      | some u=>simp [Instr.sliceBounds,f0,f1,fL v u rfl rfl]
end Go.Sim

namespace Go.Sim
open Go (World Value Addr TypeId Act)
variable {P:Program} {C:Ctx} {S:St} {a:Act} {w:World} {ι:Inj} {R:Nat->Prop}
theorem zjK{n:Nat}{es:List D}(h:zas n es=true):∀e∈es,e.size=n:=by
 intro e he;have:=zabO.1 h e he;simpa using this
theorem zTp{es:List D}{l h i:Nat}{e:D}(hi:((es.take h).drop l)[i]? = some e):es[l+i]? = some e/\l+i<h:=by
 rw[zado] at hi;have hlt:l+i<h:=by have:=(zabB.1 hi).1;simp at this;omega
 rw[zadg hlt] at hi;exact⟨hi,hlt⟩
theorem zTr{es:List D}{l h:Nat}{e:D}(he:e∈(es.take h).drop l):e∈es:=zac8 (zadQ he)
theorem zTq{es:List D}{l h:Nat}(hh:h<=es.length):((es.take h).drop l).length=h - l:=by simp;omega
theorem Rd.cut{es:List D}{ao:Option Addr}{cap n l h m:Nat}(hr:Rd w R (.v (.sl es) (.slice ao es.length cap)))(hz:∀e∈es,e.size=n)(hh:h<=es.length)(hlh:l<=h)(hm:h<=m):
    Rd w R (.v (.sl ((es.take h).drop l)) (.slice (if m=l then ao else ao.map (·.add (l * n))) (h - l) (m - l))):=by
 by_cases h0:h=l
 ·subst h0;have:(es.take h).drop h=[]:=by simp
  rw[this,zadL];exact .sl0
 ·have hne:es≠[]:=by rintro rfl;simp at hh;omega
  obtain⟨b,off,s,cap',he,hR,hs,hl,hc,hsz,hel⟩:=hr.sl_inv hne
  cases he
  obtain⟨e0,he0⟩:∃e,e∈es:=zadp _ hne;have hns:s=n:=by rw[<- hsz e0 he0];exact hz e0 he0
  subst hns;rw[zabn (by omega)];have hlen:=zTq (es:=es) (l:=l) hh;have key:=Rd.sl (w:=w) (R:=R) (es:=(es.take h).drop l) (b:=b) (off:=off+l * s) (s:=s) (cap:=m - l) hR (by intro e;rw[e] at hlen;simp at hlen;omega) hs (by omega) (by omega)
   (fun e he=>hsz e (zTr he)) (fun i e hi=>by
    obtain⟨h1,_⟩:=zTp hi;have:=hel _ _ h1
    rwa [show off+l * s+i * s=off+(l+i) * s by rw[zach];omega])
  rw[hlen] at key;simpa [Addr.add_mid] using key
theorem zCO {t e:TypeId} {n:Nat} {ao:Option Addr} {len cap l h m:Nat} {ulo uhi umx:Option Value} (hu:P.underlying t=some (.slice e)) (hn:zaQ P e=some n)
    (hb:(Instr.sliceBounds true len cap ulo uhi umx).run P w= .ok (l,h,m) w):
    (Instr.sliceAt t (.slice ao len cap) ulo uhi umx).run P w= .ok (.slice (if m=l then ao else ao.map (·.add (l * n))) (h - l) (m - l)) w:=by
 simp only[Instr.sliceAt,Sem.run_bind,run_underlying hu,Result.andThen_ok,Instr.slice,hb,zet hn,Sem.run_pure]
theorem z9l {mk:Nat->Option Nat} {t e:TypeId} {n:Nat} {x v:AV} {u:Value} {lo hi mx:Option AV} {ulo uhi umx:Option Value} (hr:Rel C S a w ι R) (hmk:mk=mark S.heap) (h:VA w R ι mk x u)
    (hlo:VAo w R ι mk lo ulo) (hhi:VAo w R ι mk hi uhi) (hmx:VAo w R ι mk mx umx) (hp:zcj S.heap n lo hi mx x=some v) (hu:P.underlying t=some (.slice e)) (hn:zaQ P e=some n):
    ∃u',(Instr.sliceAt t u ulo uhi umx).run P w= .ok u' w/\VA w R ι mk v u':=by
 have hsl:∀(es:List D) (h l:Nat),zcl hi es.length es.length=some h->zcl lo 0 h=some l->∀cap,es.length<=cap->(∀m,mx=some m->zbQ m=some (h:Int)/\hi≠none)->
     h<=es.length/\l<=h/\∀ao,(Instr.sliceAt t (.slice ao es.length cap) ulo uhi umx).run P w= .ok (.slice (if (if mx=none then cap else h)=l then ao else ao.map (·.add (l * n))) (h - l) ((if mx=none then cap else h) - l)) w:=by
  intro es h l h1 h2 cap hc hm;obtain⟨k1,k2,k3⟩:=ztC (P:=P) hlo hhi hmx h1 h2 hc hm true w;exact⟨k1,k2,fun ao=>zCO hu hn k3⟩
 cases x with
 | d y=>
  cases y with
  | sl es=>
   simp only[zcj] at hp
   split at hp
   ·rename_i hz;obtain⟨hh,h1,hp⟩:=zabp.1 hp;obtain⟨l,h2,hp⟩:=zabp.1 hp;obtain⟨ao,cap,rfl,hc,hL⟩:=h.of_d.sl_len;have hz:=zjK hz
    split at hp
    ·cases hp
     obtain⟨k1,k2,k3⟩:=hsl es hh l h1 h2 cap hc (fun m hm=>by cases hm);exact⟨_,k3 ao,.d (h.of_d.cut hz k1 k2 (by simp;omega))⟩
    ·rename_i m
     split at hp
     ·rename_i hm;cases hp;obtain⟨k1,k2,k3⟩:=hsl es hh l h1 h2 cap hc (fun m' hm'=>by cases hm';exact⟨hm.1,by intro e;simp [e] at hm⟩);refine⟨_,k3 ao,?_⟩;simp only[reduceCtorEq,if_false];exact .xsl (h.of_d.cut hz k1 k2 (zabR _))
     ·cases hp
   ·cases hp
  | _=>simp [zcj] at hp
 | xsl es=>
  simp only[zcj] at hp
  split at hp
  ·rename_i hz;obtain⟨hh,h1,hp⟩:=zabp.1 hp;obtain⟨l,h2,hp⟩:=zabp.1 hp
   cases h with
   | @xsl _ ao k h=>
    obtain⟨ao',cap,he,hc,hL⟩:=h.sl_len
    cases he
    have hz:=zjK hz
    split at hp
    ·cases hp
     obtain⟨k1,k2,k3⟩:=hsl es hh l h1 h2 es.length hc (fun m hm=>by cases hm);refine⟨_,k3 ao,?_⟩;have:=h.cut hz k1 k2 k1;simp only[if_true]
     split
     ·rename_i e;subst e;exact .xsl this
     ·exact .d this
    ·rename_i m
     split at hp
     ·rename_i hm;cases hp;obtain⟨k1,k2,k3⟩:=hsl es hh l h1 h2 es.length hc (fun m' hm'=>by cases hm';exact⟨hm.1,by intro e;simp [e] at hm⟩);refine⟨_,k3 ao,?_⟩;simp only[reduceCtorEq,if_false];exact .xsl (h.cut hz k1 k2 (zabR _))
     ·cases hp
  ·cases hp
 | acc o es=>
  simp only[zcj] at hp
  split at hp
  ·rename_i hz;obtain⟨hh,h1,hp⟩:=zabp.1 hp;obtain⟨l,h2,hp⟩:=zabp.1 hp
   split at hp
   ·rename_i hl0;subst hl0;have hv:v= .acc o (es.take hh)/\∀m,mx=some m->zbQ m=some (hh:Int)/\hi≠none:=by
     split at hp
     ·cases hp;exact⟨rfl,fun m hm=>by cases hm⟩
     ·split at hp
      ·rename_i hm;cases hp;exact⟨rfl,fun m' hm'=>by cases hm';exact⟨hm.1,by intro e;simp [e] at hm⟩⟩
      ·cases hp
    obtain⟨rfl,hm⟩:=hv;have tk:∀ {i:Nat} {e:D},(es.take hh)[i]? = some e->es[i]? = some e:=fun {i e} hi=>by
     have hlt:i<hh:=by have:=(zabB.1 hi).1;simp at this;omega
     rwa [zadg hlt] at hi
    have fin:∀(b off cap:Nat),es.length<=cap->(∀cap',hh<=cap'->cap'<=cap->(mx=none->cap'=cap)->(mx≠none->cap'=hh)->VA w R ι mk (.acc o (es.take hh)) (.slice (some ⟨b,off,none⟩) hh cap'))->
        ∃u',(Instr.sliceAt t (.slice (some ⟨b,off,none⟩) es.length cap) ulo uhi umx).run P w= .ok u' w/\VA w R ι mk (.acc o (es.take hh)) u':=by
     intro b off cap hc hk;obtain⟨k1,k2,k3⟩:=hsl es hh 0 h1 h2 cap hc hm;refine⟨_,k3 _,?_⟩;have e1:(if (if mx=none then cap else hh)=0 then (some ⟨b,off,none⟩:Option Addr) else (some ⟨b,off,none⟩:Option Addr).map (·.add (0 * n)))=some ⟨b,off,none⟩:=by
      split<;>simp [Addr.add]
     rw[e1,zacO,zacO];refine hk _ ?_ ?_ ?_ ?_
     ·split<;>omega
     ·split<;>omega
     ·intro e;rw[zabo e]
     ·intro e;rw[zabn e]
    have hlen:hh<=es.length:=by rcases ziy h1 with ⟨_,rfl⟩|⟨v,i,_,_,_,h2,rfl⟩<;>omega
    have htl:(es.take hh).length=hh:=by simp;omega
    cases h with
    | accR hR hs hL hl hsz hh' hm'=>
     refine fin _ _ _ hl fun cap' c1 c2 c3 c4=> ?_;have:=VA.accR (w:=w) (R:=R) (ι:=ι) (mk:=mk) (o:=o) (es:=es.take hh) (cap:=cap') hR hs (by omega) (by omega) (fun e he=>hsz e (zac8 he)) (fun i e hi=>hh' i e (tk hi)) (fun m hmm=>by have:=hm' m hmm;omega)
     rwa [htl] at this
    | @accC _ b s m cap _ c T hι hmk' hm' hL hl hsz hb hc hh'=>
     refine fin _ _ _ hl fun cap' c1 c2 c3 c4=> ?_;have:=VA.accC (w:=w) (R:=R) (ι:=ι) (mk:=mk) (o:=o) (es:=es.take hh) (cap:=cap') hι hmk' (by omega) (by omega) (by omega) (fun e he=>hsz e (zac8 he)) hb
      (zaca (zab2 _ c2) hc) (fun i e hi=>hh' i e (tk hi))
     rwa [htl] at this
    | acc0=>
     obtain⟨k1,k2,k3⟩:=hsl [] hh 0 h1 h2 0 (by simp) hm;have h0:hh=0:=by simp at hlen;exact hlen
     subst h0;refine⟨_,k3 _,?_⟩;have:(if mx=none then 0 else 0)=0:=by split<;>rfl
     rw[this];simp only[if_true,zacO,List.take_nil];exact .acc0
   ·cases hp
  ·cases hp
 | osl o off len=>
  simp only[zcj] at hp
  split at hp
  ·obtain⟨hh,h1,hp⟩:=zabp.1 hp;obtain⟨l,h2,hp⟩:=zabp.1 hp
   split at hp
   ·rename_i es hes
    split at hp
    ·rename_i hl;cases hp
     cases h with
     | osl0=>
      obtain⟨k1,k2,k3⟩:=ztC (P:=P) (cap:=0) hlo hhi hmx h1 h2 (zabR _) (fun m hm=>by cases hm) true w;refine⟨_,zCO hu hn k3,?_⟩;have e1:hh=0:=by omega
      have e2:l=0:=by omega
      subst e1 e2;simp only[if_true,zacO,zadL];exact .osl0
     | @osl _ _ _ cap b s c T hι hmk0 hb hlc hc hL=>
      obtain⟨k1,k2,k3⟩:=ztC (P:=P) (cap:=cap) hlo hhi hmx h1 h2 hlc (fun m hm=>by cases hm) true w;refine⟨_,zCO hu hn k3,?_⟩;simp only[if_true]
      by_cases hcl:cap=l
      ·rw[zabo hcl];have e1:hh - l=0:=by omega
       have e2:cap - l=0:=by omega
       rw[e1,e2];exact .osl0
      ·rw[zabn hcl];have hns:l * n=l * s:=by
        rcases hl with rfl|hl
        ·simp
        ·cases es with
         | nil=>simp at hl
         | cons e0 es'=>
          simp only[List.head?_cons,zab8,Option.some.injEq] at hl;have hob:=hr.heap _ _ (zav hes)
          cases hob with
          | row hι' _ _ _ hsz _ _=>
           rw[hι] at hι';cases hι';rw[<- hl,hsz e0 (.head _)]
       simp only[zab8,Addr.add_mid];rw[hns,show off * s+l * s=(off+l) * s by rw[zach]];refine .osl hι hmk0 hb (by omega) ?_ (by omega)
       rwa [show off+l+(cap - l)=off+cap by omega]
    ·cases hp
   ·cases hp
  ·cases hp
 | _=>simp [zcj] at hp
def zbO(w:World)(R:Nat->Prop)(n:Nat)(ys:List D)(news:List Value):Prop:=
 news.length=ys.length * n/\∀(i:Nat) (e:D),ys[i]? = some e->∀(j:Nat) (c:D),e.cells[j]? = some c->c.cell=true/\∃q,news[i * n+j]? = some q/\Rd w R (.v c q)
theorem zvk{n b off:Nat}{ys:List D}(hn:0<n)(hz:∀e∈ys,e.size=n)(h:∀(i:Nat) (e:D),ys[i]? = some e->Rd w R (.el e b (off+i * n))):
    ∃news,zbO w R n ys news/\w.rangeAt b off news:=by
 obtain⟨qs,hl,hr,hq⟩:=zu2 (w:=w) (b:=b) (off:=off) (n:=ys.length * n) (Q:=fun j q=>∀e c,ys[j / n]? = some e->e.cells[j % n]? = some c->c.cell=true/\Rd w R (.v c q)) fun j hj=>by
  have h1:j / n<ys.length:=by rw[Nat.div_lt_iff_lt_mul hn];exact hj
  have he:ys[j / n]? = some ys[j / n]:=zabx h1;have h2:j % n<(ys[j / n]).cells.length:=by
   have:=hz _ (zabC h1);unfold D.size at this;rw[this];exact zacr _ hn
  have hc:(ys[j / n]).cells[j % n]? = some (ys[j / n]).cells[j % n]:=zabx h2;obtain⟨k1,q,k2,k3⟩:=(h _ _ he).v_of_cells _ _ hc;refine⟨q,?_,fun e c h3 h4=>by rw[he] at h3;cases h3;rw[hc] at h4;cases h4;exact⟨k1,k3⟩⟩;rw[<- k2];congr 2;have:=Nat.div_add_mod j n;rw[zadz] at this;omega
 refine⟨qs,⟨hl,fun i e hi j c hc=> ?_⟩,hr⟩;have hi':i<ys.length:=(zabB.1 hi).1;have hj':j<n:=by have:=(zabB.1 hc).1;have h2:=hz e (zabK hi);unfold D.size at h2;omega
 have hlt:i * n+j<qs.length:=by
  rw[hl];have:(i+1) * n<=ys.length * n:=zab2 _ hi';rw[zacq] at this;omega
 have hd:(i * n+j) / n=i:=by rw[zadz,Nat.mul_add_div hn,Nat.div_eq_of_lt hj'];rfl
 have hm:(i * n+j) % n=j:=by rw[zadz,Nat.mul_add_mod,zacx hj']
 have hx:=zabx hlt;obtain⟨k1,k2⟩:=hq _ _ hx e c (by rw[hd];exact hi) (by rw[hm];exact hc);exact⟨k1,_,hx,k2⟩
theorem zbO.one{n:Nat}{ys:List D}{news:List Value}(h:zbO w R n ys news)(hn:0<n)(hz:∀e∈ys,e.size=n):∀u∈news,u.oneCell'=true:=by
 intro u hu;obtain⟨j,hj⟩:=zab6 hu;have hlt:=(zabB.1 hj).1;rw[h.1] at hlt;have h1:j / n<ys.length:=by rw[Nat.div_lt_iff_lt_mul hn];exact hlt
 have he:ys[j / n]? = some ys[j / n]:=zabx h1;have h2:j % n<(ys[j / n]).cells.length:=by
  have:=hz _ (zabC h1);unfold D.size at this;rw[this];exact zacr _ hn
 obtain⟨k1,q,k2,k3⟩:=h.2 _ _ he _ _ (zabx h2);have hjj:j / n * n+j % n=j:=by rw[zadz];exact Nat.div_add_mod j n
 rw[hjj,hj] at k2
 cases k2
 exact zBw (mk:=fun _=>none) (ι:=fun _=>none) (.d k3) k1
theorem zDv{xs:List AV}{ds:List D}(h:zbq xs=some ds){i:Nat}{d:D}(hi:ds[i]? = some d):xs[i]? = some (.d d):=by
 rw[ziu h,zabI,hi];rfl
theorem z9x {n:Nat} {tx e':TypeId} {y:AV} {u:Value} {ys:List D} (hr:Rel C S a w ι R) (h:VA w R ι (mark S.heap) y u) (hs:zc9 S.heap y=some ys) (hn:0<n) (hz:∀e∈ys,e.size=n)
    (hk:P.underlying tx=some (.slice e')):∃news,Src P n tx u ys.length news w/\zbO w R n ys news:=by
 have slice:∀(es:List D) (b off cap:Nat),u= .slice (some ⟨b,off,none⟩) es.length cap->(∀e∈es,e.size=n)->(∀(i:Nat) (e:D),es[i]? = some e->Rd w R (.el e b (off+i * n)))->
     ∃news,Src P n tx u es.length news w/\zbO w R n es news:=by
  rintro es b off cap rfl hz hh;obtain⟨news,h1,h2⟩:=zvk hn hz hh;exact⟨news,Src.ofSlice w hk _ _ _ _ h1.1 (fun j u hj=>by rw[Addr.add_mid];exact h2 j u hj) (h1.one hn hz),h1⟩
 have nothing:∀(ao:Option Addr) (cap:Nat),u= .slice ao 0 cap->∃news,Src P n tx u ([]:List D).length news w/\zbO w R n [] news:=by
  rintro ao cap rfl;have h0:zbO w R n [] []:=⟨by simp,fun i e hi=>by simp at hi⟩
  cases ao with
  | none=>exact⟨[],Src.ofNil w hk cap,h0⟩
  | some b=>exact⟨[],Src.ofSlice w hk b 0 cap [] (by simp) (by simp) (by simp),h0⟩
 have data:∀(es:List D),Rd w R (.v (.sl es) u)->(∀e∈es,e.size=n)->∃news,Src P n tx u es.length news w/\zbO w R n es news:=by
  intro es hrd hz
  by_cases h0:es=[]
  ·subst h0;obtain⟨ao,cap,rfl,_,_⟩:=hrd.sl_len;exact nothing ao cap rfl
  ·obtain⟨b,off,s,cap,hu,hR,hs',hl,hc,hsz,hel⟩:=hrd.sl_inv h0;obtain⟨e0,he0⟩:∃e,e∈es:=zadp _ h0;have hns:s=n:=by rw[<- hsz e0 he0];exact hz e0 he0
   subst hns;exact slice es b off cap hu hz hel
 cases y with
 | d x=>
  cases x with
  | sl es=>simp only[zc9,slD,Option.some.injEq] at hs;subst hs;exact data es h.of_d hz
  | _=>simp [zc9,slD] at hs
 | nl b=>
  simp only[zc9,Option.some.injEq] at hs;subst hs
  cases h with
  | nl1=>exact nothing _ _ rfl
  | nl2=>exact nothing _ _ rfl
 | xsl es=>
  simp only[zc9,slD,Option.some.injEq] at hs;subst hs
  cases h with
  | xsl h=>exact data es h hz
 | acc o es=>
  simp only[zc9,slD,Option.some.injEq] at hs;subst hs;have go:∀(b off s cap:Nat),u= .slice (some ⟨b,off,none⟩) es.length cap->(∀e∈es,e.size=s)->(∀(i:Nat) (e:D),es[i]? = some e->Rd w R (.el e b (off+i * s)))->∃news,Src P n tx u es.length news w/\zbO w R n es news:=by
   intro b off s cap hu hsz hh
   by_cases h0:es=[]
   ·subst h0;exact nothing _ cap hu
   ·obtain⟨e0,he0⟩:∃e,e∈es:=zadp _ h0;have hns:s=n:=by rw[<- hsz e0 he0];exact hz e0 he0
    subst hns;exact slice es b off cap hu hz hh
  cases h with
  | accR hR hs hL hl hsz hh hm=>exact go _ _ _ _ rfl hsz hh
  | accC hι hmk hm hL hl hsz hb hc hh=>exact go _ 0 _ _ rfl hsz fun i e hi=>by rw[zabU];exact hh i e hi
  | acc0=>exact nothing _ 0 rfl
 | osl o off len=>
  simp only[zc9] at hs
  split at hs
  ·rename_i es hes;obtain⟨ds,hd,hs⟩:=zabp.1 hs
   split at hs
   ·rename_i hlen;cases hs
    cases h with
    | osl0=>
     have:ys=[]:=zacc.1 hlen;subst this;exact nothing _ 0 rfl
    | @osl _ _ _ cap b s c T hι hmk0 hb hl hc hL=>
     have hob:=hr.heap _ _ (zav hes)
     cases hob with
     | row hι' hR hb' hs' hsz _ hcell=>
      rw[hι] at hι';cases hι';rw[hb] at hb';cases hb'
      by_cases h0:ys=[]
      ·subst h0;simp at hlen;subst hlen;exact nothing _ cap rfl
      ·have hget:∀(i:Nat) (d:D),ys[i]? = some d->es[off+i]? = some (.d d):=fun i d hi=>by
          have h1:=zDv hd hi;have hlt:i<len:=by rw[<- hlen];exact (zabB.1 hi).1
          rw[zadg hlt,zado] at h1;exact h1
       obtain⟨e0,he0⟩:∃e,e∈ys:=zadp _ h0;obtain⟨i0,hi0⟩:=zab6 he0;have hns:s=n:=by
        have h1:=hsz _ (zabK (hget i0 e0 hi0));have h2:=hz e0 he0;simp only[AV.size] at h1;omega
       subst hns;refine slice ys b (off * s) cap (by rw[hlen]) hz fun i d hi=> ?_;have hd':=hget i d hi;have htup:∀vs,d≠ .tup vs:=fun vs e=>by
        subst e;have:=(hcell _ _ hd' 0 (.d (.tup vs)) rfl).1;simp [AV.cell,D.cell] at this
       refine Rd.el_of_cells htup fun j c' hj=> ?_;obtain⟨k1,q,k2,k3⟩:=hcell _ _ hd' j (.d c') (by simp [AV.cells,hj]);refine⟨k1,q,?_,k3.of_d⟩;rw[zcq hb, <- k2]
       congr 1
       rw[zach]
   ·cases hs
  ·cases hs
 | _=>simp [zc9,slD] at hs
end Go.Sim

namespace Go.Sim
open Go (World Value Addr TypeId Act)
variable {P:Program} {C:Ctx} {S:St} {a:Act} {w:World} {ι:Inj} {R:Nat->Prop}
theorem zbO.append{n:Nat}{es ys:List D}{olds news:List Value}(h1:zbO w R n es olds)(h2:zbO w R n ys news)(hz:∀e∈es++ys,e.size=n):zbO w R n (es++ys) (olds++news):=by
 refine⟨by simp [h1.1,h2.1,zach],fun i e hi j c hc=> ?_⟩;have hj:j<n:=by
  have:=hz e (zabK hi);have h3:=(zabB.1 hc).1;unfold D.size at this;omega
 by_cases hlt:i<es.length
 ·rw[zacN hlt] at hi;obtain⟨k1,q,k2,k3⟩:=h1.2 i e hi j c hc;exact⟨k1,q,by rw[zacN (zabB.1 k2).1];exact k2,k3⟩
 ·rw[zacE (by omega)] at hi;obtain⟨k1,q,k2,k3⟩:=h2.2 _ e hi j c hc;refine⟨k1,q,?_,k3⟩;have:(i - es.length) * n+es.length * n=i * n:=by rw[<- zach];congr 1;omega
  rw[zacE (by rw[h1.1];omega),h1.1, <- k2]
  congr 1;omega
theorem zbO.el {w':World} {R':Nat->Prop} {n b off:Nat} {es:List D} {cs:List Value} (h:zbO w R n es cs) (hz:∀e∈es,e.size=n) (hn:0<n) (hR:∀b,R b->R' b) (hw:zbK R w w')
    (hr:∀j v,cs[j]? = some v->w'.cell? ⟨b,off+j,none⟩=some v) (i:Nat) (e:D) (hi:es[i]? = some e):Rd w' R' (.el e b (off+i * n)):=by
 refine Rd.el_of_cells (fun vs hvs=> ?_) fun j c hc=> ?_
 ·subst hvs;have h1:=(h.2 i _ hi 0 (.tup vs) rfl).1;simp [D.cell] at h1
 ·obtain⟨k1,q,k2,k3⟩:=h.2 i e hi j c hc;refine⟨k1,q,?_,k3.mono_v hR hw⟩;rw[zadx];exact hr _ _ k2
theorem z4y{n:Nat}{es:List D}{ao:Option Addr}{cap:Nat}(h:Rd w R (.v (.sl es) (.slice ao es.length cap)))(hn:0<n)(hz:∀e∈es,e.size=n):
    ∃olds,zbO w R n es olds/\(Builtin.firstCells n es.length (.slice ao es.length cap)).run P w.drew= .ok olds.toArray w.drew:=by
 by_cases h0:es=[]
 ·subst h0;refine⟨[],⟨by simp,fun i e hi=>by simp at hi⟩,?_⟩
  cases ao with
  | none=>exact run_firstCells_none w.drew n 0 0 cap
  | some b=>exact run_firstCells_some w.drew n 0 b 0 cap [] (by simp) (by simp)
 ·obtain⟨b,off,s,cap',he,hR,hs,hl,hc,hsz,hel⟩:=h.sl_inv h0
  cases he
  obtain⟨e0,he0⟩:∃e,e∈es:=zadp _ h0;have hns:s=n:=by rw[<- hsz e0 he0];exact hz e0 he0
  subst hns;obtain⟨olds,h1,h2⟩:=zvk hn hz hel;exact⟨olds,h1,run_firstCells_some w.drew s es.length _ es.length cap olds h1.1 (fun j v hj=>by rw[Addr.add_mid];exact h2 j v hj)⟩
theorem z4x{n b:Nat}{es:List D}{cap:Nat}(h:∀(i:Nat) (e:D),es[i]? = some e->Rd w R (.el e b (i * n)))(hn:0<n)(hz:∀e∈es,e.size=n):
    ∃olds,zbO w R n es olds/\w.rangeAt b 0 olds/\(Builtin.firstCells n es.length (.slice (some ⟨b,0,none⟩) es.length cap)).run P w.drew= .ok olds.toArray w.drew:=by
 obtain⟨olds,h1,h2⟩:=zvk (w:=w) (R:=R) (b:=b) (off:=0) hn hz (fun i e hi=>by rw[zabU];exact h i e hi);exact⟨olds,h1,h2,run_firstCells_some w.drew n es.length _ es.length cap olds h1.1 (fun j v hj=>by rw[Addr.add_mid];exact h2 j v hj)⟩
theorem z6V{it:It}(h:Rd w R it):Rd w.drew R it:=h.mono (fun _ h=>h) (fun _ _=>rfl) (by cases it with|v=>trivial|el x b off=>exact fun j _=>rfl)
theorem zbO.drew{n:Nat}{es:List D}{cs:List Value}(h:zbO w R n es cs):zbO w.drew R n es cs:=
 ⟨h.1,fun i e hi j c hc=>let ⟨k1,q,k2,k3⟩:=h.2 i e hi j c hc;⟨k1,q,k2,z6V k3⟩⟩
theorem Rel.newAcc (h:Rel C S a w ι R) {o n cap:Nat} {es:List D} {cs:List Value} {zs:Array Value} (T:TypeId) (hu:zho o S) (hn:0<n) (hc:zbO w R n es cs) (hz:∀e∈es,e.size=n)
    (h0:0<es.length) (hL:es.length<=LIM) (hcap:es.length<=cap) (hsz:cap * n<=(cs.toArray++zs).size):
    Rel C ⟨S.env,zP o (.acc es.length) S.heap⟩ a (w.alloc (.cells (cs.toArray++zs) T)) (upd ι o (w.heap.size,n)) R/\
    VA (w.alloc (.cells (cs.toArray++zs) T)) R (upd ι o (w.heap.size,n)) (mark (zP o (.acc es.length) S.heap)) (.acc o es) (.slice (some ⟨w.heap.size,0,none⟩) es.length cap):=by
 have hb:=heap_alloc_new w (.cells (cs.toArray++zs) T);refine⟨h.new _ T hu (.acc h0 zcQ (fun hR=>by have:=h.rlt _ hR;omega) hb hn (by
  have:es.length * n<=cap * n:=zab2 _ hcap;omega)),?_⟩
 refine .accC zcQ (by rw[zei]) (zabR _) hL hcap hz hb hsz fun i e hi=> ?_;have:=hc.el (w':=w.alloc (.cells (cs.toArray++zs) T)) (R':=R) (b:=w.heap.size) (off:=0) hz hn (fun _ h=>h) (zbK.alloc h _) (fun j v hj=>by
  rw[zcq hb,zabU,zad5 (by simpa using (zabB.1 hj).1)];simpa using hj) i e hi
 rwa [zabU] at this
theorem zTi{v:Value}{x:AV}(h:zfK v=some x):x.size=v.cells.size:=by
 unfold zfK at h
 split at h
 ·obtain⟨ds,h1,h2⟩:=zabr.1 h;subst h2;rw[(zMp ds).2,(zeT h1).1];simp [Value.cells]
 ·rename_i v' hv;have h1:v.cells.size=1:=by
   cases v<;>first|rfl|(rename_i cs;exact absurd rfl (hv cs))
  rw[h1];have:=(zq7 h ⟨#[],fun _ _=>0,0,default, #[]⟩ (fun _=>False) (fun _=>none) (fun _=>none)).2
  cases x with
  | d y=>exact D.size_cell this
  | agg=>simp [AV.cell] at this
  | _=>rfl
theorem zRq(z:Array Value)(k:Nat):(Builtin.zeroCells z k).size=k * z.size:=by simp [Builtin.zeroCells]
theorem zIU(need old:Nat)(e:TypeId):need<=grownCap w need old e:=by
 exact Nat.le_add_right _ _
theorem VA.regrow {w':World} {o m m' nb n bo so:Nat} {mk mk':Nat->Option Nat} {R':Nat->Prop} {x:AV} {u:Value} (h:VA w R ι mk x u) (hmo:mk o=some m) (hm':mk' o=some m') (hlt:m<m') (hmk:∀p,p≠o->mk' p=mk p)
    (hR:∀b,R b->R' b) (hw:zbK R w w') (hold:∀b s,ι o=some (b,s)->R' b/\0<s) (hheap:∀p b s,ι p=some (b,s)->w'.heap[b]? = w.heap[b]?):VA w' R' (upd ι o (nb,n)) mk' x u:=by
 have ne:∀ {p:Nat},mk p=none->p≠o:=fun {p} h e=>by subst e;rw[hmo] at h;cases h
 induction h with
 | d h=>exact .d (h.mono_v hR hw)
 | ref h hk=>exact .ref (by rw[zbp (ne hk)];exact h) (by rw[hmk _ (ne hk)];exact hk)
 | osl h hk hb hl hc hL=>exact .osl (by rw[zbp (ne hk)];exact h) (by rw[hmk _ (ne hk)];exact hk) (by rw[hheap _ _ _ h];exact hb) hl hc hL
 | osl0=>exact .osl0
 | @accR p _ _ _ _ _ hr hs hL hl hsz h hm=>
  refine .accR (hR _ hr) hs hL hl hsz (fun i e hi=>(h i e hi).mono hR hw fun j _=>World.cell?_of_block (hw _ hr)) fun m2 hm2=> ?_
  by_cases e:p=o
  ·subst e;rw[hm'] at hm2;cases hm2;have:=hm m hmo;omega
  ·rw[hmk _ e] at hm2;exact hm m2 hm2
 | @accC p b s m1 cap es c T hι hk hm hL hl hsz hb hc h=>
  by_cases e:p=o
  ·subst e;rw[hmo] at hk;cases hk;obtain⟨h1,h2⟩:=hold _ _ hι;refine .accR h1 h2 hL hl hsz (fun i e hi=> ?_) fun m2 hm2=> ?_
   ·rw[zabU];exact (h i e hi).mono hR hw fun j _=>World.cell?_of_block (hheap _ _ _ hι)
   ·rw[hm'] at hm2;cases hm2;omega
  ·exact .accC (by rw[zbp e];exact hι) (by rw[hmk _ e];exact hk) hm hL hl hsz (by rw[hheap _ _ _ hι];exact hb) hc
      (fun i e hi=>(h i e hi).mono hR hw fun j _=>World.cell?_of_block (hheap _ _ _ hι))
 | peR hr h=>exact .peR (hR _ hr) (h.mono hR hw fun j _=>World.cell?_of_block (hw _ hr))
 | @peC p b s m1 off x c T hι hk hb hoff h=>
  by_cases e:p=o
  ·subst e;exact .peR (hold _ _ hι).1 (h.mono hR hw fun j _=>World.cell?_of_block (hheap _ _ _ hι))
  ·exact .peC (by rw[zbp e];exact hι) (by rw[hmk _ e];exact hk) (by rw[hheap _ _ _ hι];exact hb) hoff (h.mono hR hw fun j _=>World.cell?_of_block (hheap _ _ _ hι))
 | acc0=>exact .acc0
 | xsl h=>exact .xsl (h.mono_v hR hw)
 | agg hl hc _ ih=>exact .agg hl hc ih
 | tup hl _ ih=>exact .tup hl ih
 | fn hl _ ih=>exact .fn hl ih
 | nl1=>exact .nl1
 | nl2=>exact .nl2
 | @mpr p b s hι hk=>
  have hne:p≠o:=fun e=>by subst e;rw[hmo] at hk;cases hk
  exact .mpr (by rw[zbp hne];exact hι) (by rw[hmk _ hne];exact hk)
 | undef=>exact .undef
theorem Rel.regrow (h:Rel C S a w ι R) {o m n cap:Nat} {es:List D} {cs:List Value} {zs:Array Value} (T:TypeId) (hlook:look o S.heap=some (.acc m)) (hlt:m<es.length) (hn:0<n) (hc:zbO w R n es cs) (hz:∀e∈es,e.size=n)
    (hL:es.length<=LIM) (hcap:es.length<=cap) (hsz:cap * n<=(cs.toArray++zs).size):
    Rel C ⟨S.env,zP o (.acc es.length) S.heap⟩ a (w.alloc (.cells (cs.toArray++zs) T)) (upd ι o (w.heap.size,n)) (fun b=>R b\/∃s,ι o=some (b,s))/\
    VA (w.alloc (.cells (cs.toArray++zs) T)) (fun b=>R b\/∃s,ι o=some (b,s)) (upd ι o (w.heap.size,n)) (mark (zP o (.acc es.length) S.heap)) (.acc o es) (.slice (some ⟨w.heap.size,0,none⟩) es.length cap):=by
 have hb:=heap_alloc_new w (.cells (cs.toArray++zs) T);have hheap:∀p b s,ι p=some (b,s)->(w.alloc (.cells (cs.toArray++zs) T)).heap[b]? = w.heap[b]? := fun p b s hp=>zcU (h.own p b s hp).2;have hmo':mark (zP o (.acc es.length) S.heap) o=some es.length:=by rw[zei]
 have hmk:∀p,p≠o->mark (zP o (.acc es.length) S.heap) p=mark S.heap p:=fun p hp=>zej hp;have hK:zbK R w (w.alloc (.cells (cs.toArray++zs) T)):=zbK.alloc h _;have hm:mark S.heap o=some m:=by unfold mark;rw[hlook]
 have hold:∀b s,ι o=some (b,s)->(R b\/∃s,ι o=some (b,s))/\0<s:=fun b s hbs=>by
  refine⟨.inr ⟨s,hbs⟩,?_⟩;have hob:=h.heap _ _ (zav hlook)
  cases hob with
  | acc _ hι' _ _ hs _=>rw[hbs] at hι';cases hι';exact hs
  | accN hι'=>rw[hbs] at hι';cases hι'
 have hva:∀ {x:AV} {u:Value},VA w R ι (mark S.heap) x u->VA (w.alloc (.cells (cs.toArray++zs) T)) (fun b=>R b\/∃s,ι o=some (b,s)) (upd ι o (w.heap.size,n)) (mark (zP o (.acc es.length) S.heap)) x u:=
  fun hv=>hv.regrow (bo:=0) (so:=0) hm hmo' hlt hmk (fun _ h=> .inl h) hK hold hheap
 have hob:OB (w.alloc (.cells (cs.toArray++zs) T)) (fun b=>R b\/∃s,ι o=some (b,s)) (upd ι o (w.heap.size,n)) (mark (zP o (.acc es.length) S.heap)) o (.acc es.length):=by
  refine .acc (by omega) zcQ ?_ hb hn (by
   have:es.length * n<=cap * n:=zab2 _ hcap;omega)
  rintro (hr|⟨s,hr⟩)
  ·have:=h.rlt _ hr;omega
  ·have:=(h.own _ _ _ hr).2;omega
 refine⟨⟨h.defers,h.size,h.os,h.tape,h.output,by have:=h.grow;simp;omega,fun b hb=>(h.len b hb).trans (Blk.of_eq (zcU (zaco hb h.grow))),fun b hb=>(zcU (zaco (h.keepLt b hb) h.grow)).trans (h.keep b hb),h.keepLt,?_,?_,fun b hb=> .inl (h.r0 b hb),?_,?_,?_,?_⟩,?_⟩
 ·rintro b (hr|⟨s,hr⟩)
  ·have:=h.rlt _ hr;simp;omega
  ·have:=(h.own _ _ _ hr).2;simp;omega
 ·rintro b (hr|⟨s,hr⟩)
  ·exact h.rok b hr
  ·exact .inr (h.own _ _ _ hr).1
 ·intro q b s hq
  by_cases e:q=o
  ·subst e;rw[zcQ] at hq;cases hq;exact⟨fun hk=>by have:=h.keepLt _ hk;have:=h.grow;omega,by simp⟩
  ·rw[zbp e] at hq;have:=h.own q b s hq;exact⟨this.1,by simp;omega⟩
 ·intro q q' b s1 s2 h1 h2
  by_cases e:q=o<;>by_cases e':q'=o
  ·rw[e,e']
  ·subst e;rw[zcQ] at h1;rw[zbp e'] at h2;cases h1;have:=(h.own _ _ _ h2).2;omega
  ·subst e';rw[zcQ] at h2;rw[zbp e] at h1;cases h2;have:=(h.own _ _ _ h1).2;omega
  ·rw[zbp e] at h1;rw[zbp e'] at h2;exact h.inj _ _ _ _ _ h1 h2
 ·intro t x hx;obtain⟨u,h1,h2⟩:=h.env t x hx;exact⟨u,h1,hva h2⟩
 ·intro q ob hq
  rcases zhi hq with hq|⟨hq,hne⟩
  ·cases hq;exact hob
  ·cases h.heap q ob hq with
   | row hι' hr hb' hs' hsz' hc' hh=>
    refine .row (by rw[zbp hne];exact hι') ?_ (by rw[hheap _ _ _ hι'];exact hb') hs' hsz' hc' fun i e hi j x hj=> ?_
    ·rintro (hr'|⟨s,hr'⟩)
     ·exact hr hr'
     ·exact hne (h.inj _ _ _ _ _ hι' hr')
    ·obtain⟨k1,q,k2,k3⟩:=hh i e hi j x hj;exact⟨k1,q,k2,hva k3⟩
   | acc hpos hι' hr hb' hs' hc'=>
    refine .acc hpos (by rw[zbp hne];exact hι') ?_ (by rw[hheap _ _ _ hι'];exact hb') hs' hc';rintro (hr'|⟨s,hr'⟩)
    ·exact hr hr'
    ·exact hne (h.inj _ _ _ _ _ hι' hr')
   | accN hι'=>exact .accN (by rw[zbp hne];exact hι')
   | frz hh=>exact .frz fun b s hb'=>have k:=hh b s (by rwa [zbp hne] at hb');⟨.inl k.1,k.2⟩
   | mp hι' hr hb' hs' hl' hh=>
    refine .mp (by rw[zbp hne];exact hι') ?_ (by rw[hheap _ _ _ hι'];exact hb') hs' hl' fun i k x hi=> ?_
    ·rintro (hr'|⟨s,hr'⟩)
     ·exact hr hr'
     ·exact hne (h.inj _ _ _ _ _ hι' hr')
    ·obtain⟨e,k1,k2,k3⟩:=hh i k x hi;exact⟨e,k1,k2,k3.mono_v (fun _ h=> .inl h) hK⟩
 ·refine .accC zcQ hmo' (zabR _) hL hcap hz hb hsz fun i e hi=> ?_;have:=hc.el (w':=w.alloc (.cells (cs.toArray++zs) T)) (R':=fun b=>R b\/∃s,ι o=some (b,s)) (b:=w.heap.size) (off:=0) hz hn (fun _ h=> .inl h) hK (fun j v hj=>by
   rw[zcq hb,zabU,zad5 (by simpa using (zabB.1 hj).1)];simpa using hj) i e hi
  rwa [zabU] at this
theorem Rel.inplace (h:Rel C S a w ι R) {o m b n cap:Nat} {es ys:List D} {news:List Value} {c:Array Value} {T:TypeId} (hlook:look o S.heap=some (.acc m)) (hes:es.length=m) (hι:ι o=some (b,n)) (hb:w.heap[b]? = some (.cells c T (0,0)))
    (hn:0<n) (hy:zbO w R n ys news) (hz:∀e∈es++ys,e.size=n) (hL:(es++ys).length<=LIM) (hcap:m+ys.length<=cap) (hsz:cap * n<=c.size) (hR:¬R b)
    (hold:∀(i:Nat) (e:D),es[i]? = some e->Rd w R (.el e b (i * n))):
    Rel C ⟨S.env,zP o (.acc (m+ys.length)) S.heap⟩ a (w.setCells b (0+m * n) news) ι R/\
    VA (w.setCells b (0+m * n) news) R ι (mark (zP o (.acc (m+ys.length)) S.heap)) (.acc o (es++ys)) (.slice (some ⟨b,0,none⟩) (m+ys.length) cap):=by
 have hm:mark S.heap o=some m:=by unfold mark;rw[hlook]
 obtain⟨c',hc1,hc2,hc3⟩:=zCL w b (0+m * n) news hb;obtain⟨r1,r2,r3,r4⟩:=zCM w b (0+m * n) news;have hK:zbK R w (w.setCells b (0+m * n) news):=fun b' hb'=>zdR _ _ _ _ (fun e=>hR (e ▸ hb'));have hmo':mark (zP o (.acc (m+ys.length)) S.heap) o=some (m+ys.length):=by rw[zei]
 have hstep:∀p,Step w (w.setCells b (0+m * n) news) ι ι (mark S.heap) (mark (zP o (.acc (m+ys.length)) S.heap)) p:=fun p=>by
  by_cases e:p=o
  ·subst e;refine⟨fun _ _ h=>h,fun b1 s1 hb1=> ?_,fun m1 h1=>⟨_,hmo',by rw[hm] at h1;cases h1;omega⟩,fun m1 h1=>⟨m,hm,by rw[hmo'] at h1;cases h1;omega⟩⟩;rw[hι] at hb1;cases hb1;rw[hm];intro c1 T1 hc1';rw[hb] at hc1';cases hc1';refine⟨c',hc1,hc2,fun j hj=> ?_⟩;simp only[zacS] at hj;rw[hc3,zabn (by omega)]
  ·exact Step.other rfl (zej e) fun b1 s1 hb1=>zdR _ _ _ _ fun e'=>e (h.inj _ _ _ _ _ (e' ▸ hb1) hι)
 refine⟨?_,?_⟩
 ·refine h.change r1 r2 r3 (by omega) (fun b' _=>by
       by_cases e:b'=b
       ·subst e;intro c1 T1 hc1';rw[hb] at hc1';cases hc1';exact⟨c',hc1,hc2,fun j hj=>by simp at hj⟩
       ·exact Blk.of_eq (zdR _ _ _ _ e)) (fun b' hb'=>zdR _ _ _ _ (fun e=>(h.own o b n hι).1 (e ▸ hb'))) (fun _ h=>h) (fun b' hb'=>by rw[r4];exact h.rlt b' hb') h.rok hK
     (fun q b1 s1 hq=>by rw[r4];exact h.own q b1 s1 hq) h.inj (fun q _=>hstep q) ?_
  intro q ob hq
  rcases zhi hq with hq|⟨hq,hne⟩
  ·cases hq
   have hm0:0<m:=by
    cases h.heap _ _ (zav hlook) with
    | acc hpos _ _ _ _ _=>exact hpos
    | accN hι'=>rw[hι] at hι';cases hι'
   refine .acc (by omega) hι hR hc1 hn ?_;have:(m+ys.length) * n<=cap * n:=zab2 _ hcap;omega
  ·refine (h.heap q ob hq).mono (fun _ h=>h) hK (fun b1 s1 hb1=>⟨hb1,?_,fun h=>h⟩) (fun h=>h) fun p _=>hstep p;exact zdR _ _ _ _ fun e=>hne (h.inj _ _ _ _ _ (e ▸ hb1) hι)
 ·have hlen:(es++ys).length=m+ys.length:=by rw[zabv,hes]
  have:=VA.accC (w:=w.setCells b (0+m * n) news) (R:=R) (ι:=ι) (mk:=mark (zP o (.acc (m+ys.length)) S.heap)) (o:=o) (es:=es++ys) (cap:=cap) hι hmo' (by omega) hL (by omega) hz hc1 (by omega) (fun i e hi=> ?_)
  ·rwa [hlen] at this
  ·by_cases hlt:i<es.length
   ·rw[zacN hlt] at hi;refine (hold i e hi).mono (fun _ h=>h) hK fun j hj=> ?_;rw[zcq hc1,zcq hb,hc3,zabn];have hez:=hz e (zacM _ (zabK hi));have:(i+1) * n<=m * n:=zab2 _ (by omega);rw[zacq] at this;omega
   ·rw[zacE (by omega)] at hi;have key:=hy.el (w':=w.setCells b (0+m * n) news) (R':=R) (b:=b) (off:=m * n) (fun e he=>hz e (zadn _ he)) hn (fun _ h=>h) hK (fun j v hj=>by
     have hjl:=(zabB.1 hj).1;rw[hy.1] at hjl;have:(m+ys.length) * n<=cap * n:=zab2 _ hcap;rw[zach] at this;rw[zcq hc1,hc3,zabo ⟨by omega,by rw[hy.1];omega,by omega⟩];rw[show m * n+j - (0+m * n)=j by omega];exact hj) _ e hi
    rwa [show m * n+(i - es.length) * n=i * n by rw[<- zach];congr 1;omega] at key
theorem Rel.sameAcc(h:Rel C S a w ι R){o m:Nat}(hl:look o S.heap=some (.acc m)):Rel C ⟨S.env,zP o (.acc m) S.heap⟩ a w ι R:=by
 have hmk:mark (zP o (.acc m) S.heap)=mark S.heap:=funext fun p=>by
  by_cases e:p=o
  ·subst e;rw[zei];simp [mark,hl]
  ·exact zej e
 refine⟨h.defers,h.size,h.os,h.tape,h.output,h.grow,h.len,h.keep,h.keepLt,h.rlt,h.rok,h.r0,h.own,h.inj,?_,?_⟩
 ·rw[hmk];exact h.env
 ·rw[hmk];intro q ob hq
  rcases zhi hq with hq|⟨hq,_⟩
  ·cases hq;exact h.heap _ _ (zav hl)
  ·exact h.heap q ob hq
theorem zDB {n dst:Nat} {t tx ty e:TypeId} {i:TypeInfo} {z:Value} {x v:AV} {ux uy:Value} {ys:List D} {news:List Value} {H':zd} (hr:Rel C S a w ι R) (hx:VA w R ι (mark S.heap) x ux)
    (hs:Src P n tx uy ys.length news w) (hy:zbO w R n ys news) (ht:P.underlying t=some (.slice e)) (hi:P.info? e=some i) (hin:i.size=n) (hz:i.zero=some z) (hzn:z.cells.size=n) (hby:i.bytes<=32768) (hn:0<n)
    (hp:zcf S.env S.heap dst n ys x=some (v,H')):
    ∃u w' ι' R',(Builtin.append_ #[t,tx] ty #[ux,uy]).run P w= .ok u w'/\Rel C ⟨S.env,H'⟩ a w' ι' R'/\VA w' R' ι' (mark H') v u:=by
 subst hin;have fits:∀ {len cap:Nat},len+ys.length<=LIM->cap<len+ys.length->((len+ys.length:Nat):Int)<=9223372036854775807/\Builtin.nextslicecap (len+ys.length) cap * i.bytes<=281474976710656:=by
  intro len cap hL hc;refine⟨by unfold LIM at hL;omega,growslice_fits hc ?_⟩
  calc (len+ys.length) * i.bytes<=4294967296 * 32768:=Nat.mul_le_mul hL hby
   _=140737488355328:=by decide
 cases x with
 | xsl es=>
  simp only[zcf] at hp
  split at hp
  ·rename_i hh
   split at hp
   ·cases hp
    have h0:ys=[]:=by simp at hh;exact hh.1
    subst h0;have hnn:news=[]:=zacc.1 (by rw[hy.1];simp);subst hnn
    cases hx with
    | @xsl _ ao k h=>
     obtain⟨ao',cap,he,hc,hLe⟩:=h.sl_len
     cases he
     exact⟨_,w,ι,R,run_append_nothing w t tx ty e i ht hi ao es.length es.length (zabR _) uy hs,hr,.xsl h⟩
   ·cases hp
  split at hp
  ·rename_i hne' hh;obtain⟨hsz,hL,hu1,hu2⟩:=hh;have hne:(es.isEmpty|| !ys.isEmpty)=true:=by
    cases h1:es.isEmpty<;>cases h2:ys.isEmpty<;>simp_all
   cases hp
   have hz':=zjK hsz
   cases hx with
   | @xsl _ ao k h=>
    obtain⟨ao',cap,he,hc,hLe⟩:=h.sl_len
    cases he
    by_cases h0:ys=[]
    ·subst h0;have hnn:news=[]:=zacc.1 (by rw[hy.1];simp);subst hnn;refine⟨_,w,clr ι dst,R,run_append_nothing w t tx ty e i ht hi ao es.length es.length (zabR _) uy hs,hr.newNone ⟨hu1,hu2⟩,?_⟩;rw[zabL];have h1:es=[]:=by simpa using hne
     subst h1;exact .acc0
    ·have hlt:es.length<es.length+ys.length:=by have:=zac0.2 h0;omega
     rw[zabv] at hL;obtain⟨f1,f2⟩:=fits hL hlt;obtain⟨olds,ho1,ho2⟩:=z4y h hn (fun e he=>hz' e (zacM _ he));have hrun:=run_append_grow_src (ty:=ty) w t tx e i z ht hi hz ao es.length es.length olds ho2 uy ys.length news hs hlt f1 f2;have hall:=(ho1.append hy hz').drew;have hg:=zIU (w:=w) (es.length+ys.length) es.length e;have:=hr.drew.newAcc (o:=dst) (n:=i.size) (cap:=grownCap w (es.length+ys.length) es.length e) (zs:=Builtin.zeroCells z.cells (grownCap w (es.length+ys.length) es.length e - (es.length+ys.length))) e ⟨hu1,hu2⟩ hn hall hz'
      (by rw[zabv];omega) (by rw[zabv];exact hL) (by rw[zabv];exact hg) (by
       rw[Array.size_append,zRq,hzn,List.size_toArray,hall.1, <- zach,zabv];exact zab2 _ (by omega))
     rw[zabv] at this;exact⟨_,_,_,_,hrun,this.1,this.2⟩
  ·cases hp
 | acc o es=>
  simp only[zcf] at hp
  split at hp
  ·rename_i m hlk
   split at hp
   ·rename_i hh;obtain⟨hm,hsz,hL⟩:=hh
    cases hp
    have hz':=zjK hsz;have hmk:mark S.heap o=some m:=by simp [mark,hlk]
    rw[zabv] at hL;have noth:∀(ao:Option Addr) (cap:Nat),ys=[]->ux= .slice ao es.length cap->es.length<=cap->VA w R ι (mark S.heap) (.acc o es) (.slice ao es.length cap)->
        ∃u w' ι' R',(Builtin.append_ #[t,tx] ty #[ux,uy]).run P w= .ok u w'/\Rel C ⟨S.env,zP o (.acc (m+ys.length)) S.heap⟩ a w' ι' R'/\VA w' R' ι' (mark (zP o (.acc (m+ys.length)) S.heap)) (.acc o (es++ys)) u:=by
     rintro ao cap rfl rfl hc hva;have hnn:news=[]:=zacc.1 (by rw[hy.1];simp);subst hnn;refine⟨_,w,ι,R,run_append_nothing w t tx ty e i ht hi ao es.length cap hc uy hs,hr.sameAcc hlk,?_⟩;rw[zabL];have hmkf:mark (zP o (.acc (m+([]:List D).length)) S.heap)=mark S.heap:=funext fun p=>by
      by_cases e:p=o
      ·subst e;rw[zei];simp [mark,hlk]
      ·exact zej e
     rw[hmkf];exact hva
    have grow:∀(ao:Option Addr) (cap:Nat) (olds:List Value),ys≠[]->ux= .slice ao es.length cap->cap<es.length+ys.length->zbO w R i.size es olds->
        (Builtin.firstCells i.size es.length (.slice ao es.length cap)).run P w.drew= .ok olds.toArray w.drew->
        ∃u w' ι' R',(Builtin.append_ #[t,tx] ty #[ux,uy]).run P w= .ok u w'/\Rel C ⟨S.env,zP o (.acc (m+ys.length)) S.heap⟩ a w' ι' R'/\VA w' R' ι' (mark (zP o (.acc (m+ys.length)) S.heap)) (.acc o (es++ys)) u:=by
     rintro ao cap olds h0 rfl hc ho1 ho2;obtain⟨f1,f2⟩:=fits hL hc;have hrun:=run_append_grow_src (ty:=ty) w t tx e i z ht hi hz ao es.length cap olds ho2 uy ys.length news hs hc f1 f2;have hall:=(ho1.append hy hz').drew;have hg:=zIU (w:=w) (es.length+ys.length) cap e;have hpos:=zac0.2 h0;have:=hr.drew.regrow (o:=o) (m:=m) (n:=i.size) (cap:=grownCap w (es.length+ys.length) cap e) (zs:=Builtin.zeroCells z.cells (grownCap w (es.length+ys.length) cap e - (es.length+ys.length))) e hlk (by rw[zabv];omega) hn hall hz'
      (by rw[zabv];exact hL) (by rw[zabv];exact hg) (by
       rw[Array.size_append,zRq,hzn,List.size_toArray,hall.1, <- zach,zabv];exact zab2 _ (by omega))
     rw[zabv,hm] at this;rw[hm] at hrun;rw[hm];exact⟨_,_,_,_,hrun,this.1,this.2⟩
    by_cases h0:ys=[]
    ·cases hx with
     | accR hR hs' hL' hl hsz' hh hm'=>exact noth _ _ h0 rfl hl (.accR hR hs' hL' hl hsz' hh hm')
     | accC a1 a2 a3 a4 a5 a6 a7 a8 a9=>exact noth _ _ h0 rfl a5 (.accC a1 a2 a3 a4 a5 a6 a7 a8 a9)
     | acc0=>exact noth _ 0 h0 rfl (by simp) .acc0
    ·have hpos:=zac0.2 h0
     cases hx with
     | @accR _ b off s cap _ hR hs' hL' hl hsz' hh hm'=>have:=hm' m hmk;omega
     | @accC _ b s m1 cap _ c T hι hmk' hm1 hL' hl hsz' hb hc hh=>
      rw[hmk] at hmk';cases hmk';have hob:=hr.heap _ _ (zav hlk);have hns:s=i.size\/es=[]:=by
       by_cases he:es=[]
       ·exact .inr he
       ·obtain⟨e0,he0⟩:=zadp _ he;left;rw[<- hsz' e0 he0];exact hz' e0 (zacM _ he0)
      cases hob with
      | accN hι'=>rw[hι] at hι';cases hι'
      | acc hpos' hι' hRb hb' hsp hc'=>
       rw[hι] at hι';cases hι';rw[hb] at hb';cases hb';have hns:s=i.size:=hns.resolve_right (by rintro rfl;simp at hm;omega);subst hns
       by_cases hroom:es.length+ys.length<=cap
       ·have hlen:∀j,j<news.length->0+es.length * i.size+j<c.size:=fun j hj=>by
           rw[hy.1] at hj;have:(es.length+ys.length) * i.size<=cap * i.size:=zab2 _ hroom;rw[zach] at this;omega
        have hrun:=run_append_room_src (ty:=ty) w t tx e i ht hi b 0 es.length cap uy ys.length news hs hroom (fun j hj=>by rw[zcq hb];have:=hlen j hj;simp;omega) (fun j _=>frozen_of_row w b _ c T hb);have:=hr.inplace (o:=o) (m:=m) (cap:=cap) hlk hm hι hb hn hy hz' (by rw[zabv];exact hL) (by omega) hc hRb hh;rw[hm] at hrun;rw[hm];exact⟨_,_,_,_,hrun,this.1,this.2⟩
       ·obtain⟨olds,ho1,_,ho2⟩:=z4x (cap:=cap) hh hn (fun e he=>hz' e (zacM _ he));exact grow _ cap olds h0 rfl (by omega) ho1 ho2
     | acc0=>
      refine grow _ 0 [] h0 rfl (by omega) ⟨by simp,fun i e hi=>by simp at hi⟩ ?_;rename_i ao
      cases ao with
      | none=>exact run_firstCells_none w.drew _ 0 0 0
      | some b=>exact run_firstCells_some w.drew _ 0 b 0 0 [] (by simp) (by simp)
   ·cases hp
  ·cases hp
 | _=>simp [zcf] at hp
end Go.Sim

namespace Go.Sim
open Go (World Value Addr TypeId Act)
variable {P:Program} {C:Ctx} {S:St} {a:Act} {w:World} {ι:Inj} {R:Nat->Prop}
def zdu(w:World)(R:Nat->Prop)(ι:Inj)(mk:Nat->Option Nat)(zs:List AV)(c:Array Value):Prop:=
 c.size=zs.length/\∀(i:Nat) (z:AV),zs[i]? = some z->z.cell=true/\∃q,c[i]? = some q/\VA w R ι mk z q
theorem zL1(vs:List (Value×Nat))(off:Nat)(c:Array Value):(vs.foldl (fun cs p=>cs.setIfInBounds (off+p.2) p.1) c).size=c.size:=by
 induction vs generalizing c with
 | nil=>rfl
 | cons p l ih=>rw[List.foldl_cons,ih];simp
theorem zYM(vs:List Value)(k off:Nat)(c:Array Value)(h:off+k+vs.length<=c.size)(j:Nat):
    ((vs.zipIdx k).foldl (fun cs p=>cs.setIfInBounds (off+p.2) p.1) c)[j]? = if off+k<=j/\j<off+k+vs.length then vs[j - (off+k)]? else c[j]? := by
 induction vs generalizing k c with
 | nil=>rw[zabn (by simp only[zabw];omega)];rfl
 | cons v vs ih=>
  rw[List.zipIdx_cons,List.foldl_cons,ih (k+1) _ (by simp at h ⊢; omega)];simp only[zabu] at h ⊢
  by_cases hj:j=off+k
  ·subst hj;rw[zabn (by omega),zabo (by omega),zad9 (by omega),zadL];rfl
  ·rw[zaea (Ne.symm hj)]
   by_cases hh:off+(k+1)<=j/\j<off+(k+1)+vs.length
   ·rw[zabo hh,zabo (by omega)];have:j - (off+k)=(j - (off+(k+1)))+1:=by omega
    rw[this,zad2]
   ·rw[zabn hh,zabn (by omega)]
theorem zL0(u:Value)(off:Nat)(c:Array Value)(h:off+u.cells.size<=c.size)(j:Nat):
    (u.cells.zipIdx.foldl (fun cs (x,j)=>cs.setIfInBounds (off+j) x) c)[j]? = if off<=j/\j<off+u.cells.size then u.cells[j - off]? else c[j]? := by
 have e:u.cells.zipIdx.foldl (fun cs (x,j)=>cs.setIfInBounds (off+j) x) c=(u.cells.toList.zipIdx 0).foldl (fun cs p=>cs.setIfInBounds (off+p.2) p.1) c:=by
  rw[<- zaeb];simp
 rw[e,zYM _ _ _ _ (by simpa using h)];simp
theorem zdu.lay{mk:Nat->Option Nat}{zs:List AV}{c:Array Value}(h:zdu w R ι mk zs c){v:AV}{u:Value}(hv:VA w R ι mk v u)(ht:zbR v=false){off:Nat}(ho:off+v.size<=zs.length):
    zdu w R ι mk (zfv zs off v.cells) (u.cells.zipIdx.foldl (fun cs (x,j)=>cs.setIfInBounds (off+j) x) c):=by
 obtain⟨h1,h2⟩:=hv.cells ht;have hlen:off+v.cells.length<=zs.length:=by rw[AV.size_cells];exact ho
 refine⟨?_,fun i z hi=> ?_⟩
 ·rw[zQK _ _ _ hlen, <- h.1];have e:u.cells.zipIdx.foldl (fun cs (x,j)=>cs.setIfInBounds (off+j) x) c=(u.cells.toList.zipIdx 0).foldl (fun cs p=>cs.setIfInBounds (off+p.2) p.1) c:=by
   rw[<- zaeb];simp
  rw[e,zL1]
 ·rw[zQJ _ _ _ _ hlen] at hi;rw[zL0 u off c (by rw[h1,h.1];exact ho),h1, <- AV.size_cells]
  split at hi
  ·rename_i hh;rw[zabo hh];exact h2 _ _ hi
  ·rename_i hh;rw[zabn hh];exact h.2 _ _ hi
theorem zVU{mk:Nat->Option Nat}{place:Nat->Option (Nat×Nat)}:∀ {ps:List (Nat×Value)} {qs:List (Nat×Nat×AV)} {zs cs:List AV} {c:Array Value},zdu w R ι mk zs c->qs.length=ps.length->
    (∀(k i:Nat) (u:Value) (off n:Nat) (v:AV),ps[k]? = some (i,u)->qs[k]? = some (off,n,v)->place i=some (off,n)/\VA w R ι mk v u)->zbA zs qs=some cs->
    ∃c',Instr.fill place c ps=some c'/\zdu w R ι mk cs c':=by
 intro ps
 induction ps with
 | nil=>
  intro qs zs cs c h hl _ hf;have:qs=[]:=zacc.1 hl;subst this;simp only[zbA,Option.some.injEq] at hf;subst hf;exact⟨c,rfl,h⟩
 | cons p ps ih=>
  intro qs zs cs c h hl hp hf;obtain⟨i,u⟩:=p
  cases qs with
  | nil=>simp at hl
  | cons q qs=>
   obtain⟨off,n,v⟩:=q;simp only[zbA] at hf
   split at hf
   ·rename_i hh;obtain⟨h1,h2⟩:=hp 0 i u off n v rfl rfl;have hsz:=(h2.cells hh.2.2).1;have hlay:=h.lay h2 hh.2.2 (off:=off) (by omega);obtain⟨c',h3,h4⟩:=ih hlay (by simpa using hl) (fun k i u off n v k1 k2=>hp (k+1) i u off n v (by simpa using k1) (by simpa using k2)) hf;refine⟨c',?_,h4⟩;have e1:¬(u.cells.size≠n):=by omega
    have e2:¬(c.size<off+u.cells.size):=by rw[h.1];omega
    simp only[Instr.fill,h1];rw[zabn (by simp;omega)];exact h3
   ·cases hf
theorem znQ{t:TypeId}{z:AV}(h:zco P t=some z)(hz:zbR z=false)(w:World)(R:Nat->Prop)(ι:Inj)(mk:Nat->Option Nat):
    ∃zv,(zeroValue t).run P w= .ok zv w/\VA w R ι mk z zv/\zdu w R ι mk z.cells zv.cells:=by
 unfold zco at h;obtain⟨zv,h1,h2⟩:=zabp.1 h;obtain⟨i,h3,h4⟩:=zabp.1 h1;have hv:=zrc h2 w R ι mk;obtain⟨k1,k2⟩:=hv.cells hz;exact⟨zv,by simp [zeroValue,typeInfo,h3,h4],hv,by rw[AV.size_cells];exact k1,k2⟩
theorem zTh{v:Value}{x:AV}(h:zfK v=some x):zbR x=false:=by
 unfold zfK at h
 split at h
 ·obtain⟨ds,h1,h2⟩:=zabr.1 h;subst h2;unfold AV.mkAgg
  split<;>rfl
 ·unfold zhu at h
  split at h
  ·split at h
   ·cases h;rfl
   ·cases h
  ·cases h;rfl
  ·split at h
   ·cases h;rfl
   ·cases h
  ·cases h;rfl
  ·split at h
   ·cases h;rfl
   ·cases h
theorem zjq{t:TypeId}{z:AV}(h:zco P t=some z):zbR z=false:=by
 unfold zco at h;obtain⟨zv,h1,h2⟩:=zabp.1 h;exact zTh h2
theorem zZu{α β:Type}{f:α->Sem β}{g:α->Option β}(w:World)(l:Array α)(h:∀x∈l,∀y,g x=some y->(f x).run P w= .ok y w):∀ {m:List β},l.toList.mapM g=some m->(l.mapM f).run P w= .ok m.toArray w:=by
 have go:∀(l:List α),(∀x∈l,∀y,g x=some y->(f x).run P w= .ok y w)->∀ {m:List β},l.mapM g=some m->(l.mapM f).run P w= .ok m w:=by
  intro l
  induction l with
  | nil=>intro _ m hm;simp at hm;subst hm;simp
  | cons x l ih=>
   intro h m hm;simp only[zacU,zabT,zabW] at hm;obtain⟨y,hy,hm⟩:=zabp.1 hm;obtain⟨ys,hys,hm⟩:=zabp.1 hm
   cases hm
   simp [zacU,h x (by simp) y hy,ih (fun x hx=>h x (by simp [hx])) hys]
 intro m hm;rw[zaex];simp [go l.toList (fun x hx=>h x (by simpa using hx)) hm]
theorem zBm{mk:Nat->Option Nat}{cs:List AV}{c:Array Value}(h:zdu w R ι mk cs c):VA w R ι mk (AV.mkAgg cs) (.agg c):=by
 have:=VA.mkAgg (w:=w) (R:=R) (ι:=ι) (mk:=mk) (cs:=cs) (vs:=c.toList) (by simpa using h.1) (fun x hx=>by
  obtain⟨i,hi⟩:=zab6 hx;exact (h.2 i x hi).1) (fun i x u h1 h2=>by
  obtain⟨_,q,k1,k2⟩:=h.2 i x h1;rw[zaec,k1] at h2;cases h2;exact k2)
 simpa using this
theorem zSv{t:TypeId}{op:AOp}{ps:Array (Nat×Operand)}{v:AV}{H':zd}{dst:Nat}(hr:Rel C S a w ι R)(hc:z9 P (.build t ps)=some op)(hs:zr S.env S.heap dst op=some (v,H')):
    H'=S.heap/\∃u,(Instr.build t (ps.map fun (i,x)=>(i,a.eval x))).run P w= .ok u w/\VA w R ι (mark S.heap) v u:=by
 simp only[z9] at hc;have parts:∀(place:Nat->Option (Nat×Nat)) (f:Nat×Operand->Option (Nat×Nat×Opd)) (qs:List (Nat×Nat×Opd)) (z:List AV) (cs:List AV) (c:Array Value),
     ps.toList.mapM f=some qs->(∀p q,f p=some q->place p.1=some (q.1,q.2.1)/\opd p.2=some q.2.2)->zdu w R ι (mark S.heap) z c->zbA z (qs.map fun p=>(p.1,p.2.1,p.2.2.ev S.env))=some cs->
     ∃c',Instr.fill place c (ps.map fun (i,x)=>(i,a.eval x)).toList=some c'/\zdu w R ι (mark S.heap) cs c':=by
  intro place f qs z cs c hm hf hz hfi;obtain⟨hl,hg⟩:=zeT hm;refine zVU hz (by simp [hl]) (fun k i u off n v h1 h2=> ?_) hfi;rw[zady,zabI] at h1;rw[zabI] at h2;obtain⟨p,hp,h1⟩:=zabr.1 h1;obtain⟨q,hq,h2⟩:=zabr.1 h2;obtain⟨k1,k2⟩:=hf p q (hg k p q hp hq)
  cases h1;cases h2
  exact⟨k1,hr.ev k2⟩
 split at hc
 ·rename_i fs hu;simp only[zabT] at hc;obtain⟨z,hz,hc⟩:=zabp.1 hc;obtain⟨szs,hsz,hc⟩:=zabp.1 hc;obtain⟨qs,hqs,hc⟩:=zabp.1 hc
  cases hc
  simp only[zr] at hs;obtain⟨cs,hcs,hs⟩:=zabr.1 hs
  cases hs
  refine⟨rfl,?_⟩;obtain⟨zv,hz1,_,hz2⟩:=znQ hz (zjq hz) w R ι (mark S.heap);have hpl:(fs.mapM fun f=>(do pure (f.offset, <- sizeOf f.type):Sem (Nat×Nat))).run P w= .ok ((fs.toList.zip szs).map fun (f,s)=>(f.offset,s)).toArray w:=by
   refine zZu w fs (g:=fun f=>(zaQ P f.type).map fun s=>(f.offset,s)) (fun f _ y hy=> ?_) ?_
   ·obtain⟨s,h1,h2⟩:=zabr.1 hy;subst h2;simp [zet h1]
   ·have:∀(l:List Field) (m:List Nat),l.mapM (fun f=>zaQ P f.type)=some m->l.mapM (fun f=>(zaQ P f.type).map fun s=>(f.offset,s))=some ((l.zip m).map fun (f,s)=>(f.offset,s)):=by
       intro l
       induction l with
       | nil=>intro m hm;simp at hm;subst hm;simp
       | cons f l ih=>
        intro m hm;simp only[zacU,zabT,zabW] at hm;obtain⟨y,hy,hm⟩:=zabp.1 hm;obtain⟨ys,hys,hm⟩:=zabp.1 hm
        cases hm
        simp [zacU,hy,ih ys hys]
    exact this _ _ hsz
  obtain⟨c',h1,h2⟩:=parts (((fs.toList.zip szs).map fun (f,s)=>(f.offset,s)).toArray[·]?) _ qs z.cells cs zv.cells hqs (fun p q hf=>by
   obtain⟨fd,h1,hf⟩:=zabp.1 hf;obtain⟨n,h2,hf⟩:=zabp.1 hf;obtain⟨x,h3,hf⟩:=zabp.1 hf
   cases hf
   refine⟨?_,h3⟩;obtain⟨hl,hg⟩:=zeT hsz;have hlt:p.1<fs.toList.length:=by simpa using (zacl.1 h1).1
   have hs:szs[p.1]? = some n:=by
    have hx:szs[p.1]? = some (szs[p.1]'(by omega)):=zabx _;have:=hg p.1 fd _ (by simpa using h1) hx;rw[h2] at this;rw[hx,Option.some.inj this]
   have hf':fs.toList[p.1]? = some fd:=by simpa using h1
   have hzip:(fs.toList.zip szs)[p.1]? = some (fd,n):=List.getElem?_zip_eq_some.2 ⟨hf',hs⟩;show ((fs.toList.zip szs).map fun (f,s)=>(f.offset,s)).toArray[p.1]? = some (fd.offset,n);rw[zadI,zabI,hzip];rfl) hz2 hcs
  refine⟨.agg c',?_,zBm h2⟩;simp only[Instr.build,Sem.run_bind,hz1,Result.andThen_ok,run_underlying hu,hpl,h1,Sem.run_pure]
 ·rename_i len e hu;simp only[zabT] at hc;obtain⟨z,hz,hc⟩:=zabp.1 hc;obtain⟨n,hn,hc⟩:=zabp.1 hc;obtain⟨qs,hqs,hc⟩:=zabp.1 hc
  cases hc
  simp only[zr] at hs;obtain⟨cs,hcs,hs⟩:=zabr.1 hs
  cases hs
  refine⟨rfl,?_⟩;obtain⟨zv,hz1,_,hz2⟩:=znQ hz (zjq hz) w R ι (mark S.heap);obtain⟨c',h1,h2⟩:=parts (fun i=>some (i * n,n)) _ qs z.cells cs zv.cells hqs (fun p q hf=>by
   obtain⟨x,h3,hf⟩:=zabp.1 hf
   cases hf
   exact⟨rfl,h3⟩) hz2 hcs
  refine⟨.agg c',?_,zBm h2⟩;simp only[Instr.build,Sem.run_bind,hz1,Result.andThen_ok,run_underlying hu,zet hn,h1,Sem.run_pure]
 ·cases hc
def zgb(w:World)(R:Nat->Prop)(ι:Inj)(mk:Nat->Option Nat)(n:Nat)(es:List AV)(c:Array Value):Prop:=
 c.size=es.length * n/\∀(i:Nat) (e:AV),es[i]? = some e->∀(j:Nat) (x:AV),e.cells[j]? = some x->x.cell=true/\∃q,c[i * n+j]? = some q/\VA w R ι mk x q
theorem zRs{mk:Nat->Option Nat}{z:AV}{zc:Array Value}{n:Nat}(hz:zdu w R ι mk z.cells zc)(hn:z.size=n)(h0:0<n)(k:Nat):
    zgb w R ι mk n (List.replicate k z) ((Array.range (k * n)).map (zc[· % zc.size]!)):=by
 have hzs:zc.size=n:=by rw[hz.1,AV.size_cells,hn]
 refine⟨by simp,fun i e hi j x hj=> ?_⟩;have hik:i<k:=by have:=(zabB.1 hi).1;simpa using this
 rw[zaez,zabo hik] at hi
 cases hi
 obtain⟨k1,q,k2,k3⟩:=hz.2 j x hj;have hjn:j<n:=by rw[<- hzs];exact (zacl.1 k2).1
 refine⟨k1,q,?_,k3⟩;have hlt:i * n+j<k * n:=by
  have:(i+1) * n<=k * n:=zab2 _ hik;rw[zacq] at this;omega
 rw[Array.getElem?_map,Array.getElem?_range,zabo hlt];simp only[zab8,Option.some.injEq];rw[hzs,zadz i n,Nat.mul_add_mod,zacx hjn];simp [getElem!_def,k2]
theorem zgb.lay{mk:Nat->Option Nat}{n:Nat}{es:List AV}{c:Array Value}(h:zgb w R ι mk n es c)(hsz:∀e∈es,e.size=n){v:AV}{u:Value}(hv:VA w R ι mk v u)(ht:zbR v=false)(hvn:v.size=n){i:Nat}(hi:i<es.length):
    zgb w R ι mk n (es.set i v) (u.cells.zipIdx.foldl (fun cs (x,j)=>cs.setIfInBounds (i * n+j) x) c):=by
 obtain⟨h1,h2⟩:=hv.cells ht;have hb:i * n+u.cells.size<=c.size:=by
  have:(i+1) * n<=es.length * n:=zab2 _ hi;rw[zacq] at this;rw[h.1];omega
 have hjb:∀ {e:AV} {j:Nat} {x:AV},e.size=n->e.cells[j]? = some x->j<n:=fun {e j x} he hj=>by
  have:=(zabB.1 hj).1;rw[AV.size_cells,he] at this;exact this
 refine⟨?_,fun k e hk j x hj=> ?_⟩
 ·have e:u.cells.zipIdx.foldl (fun cs (x,j)=>cs.setIfInBounds (i * n+j) x) c=(u.cells.toList.zipIdx 0).foldl (fun cs p=>cs.setIfInBounds (i * n+p.2) p.1) c:=by
     rw[<- zaeb];simp
  rw[e,zL1,h.1,zacb]
 ·rw[zL0 u _ c hb];rw[zadh] at hk
  by_cases hik:i=k
  ·subst hik;rw[zabo rfl,zabo hi] at hk
   cases hk
   have:=hjb hvn hj;rw[zabo ⟨by omega,by omega⟩,show i * n+j - i * n=j by omega];exact h2 j x hj
  ·rw[zabn hik] at hk;have hjn:=hjb (hsz e (zabK hk)) hj;rw[zabn]
   ·exact h.2 k e hk j x hj
   ·rintro⟨g1,g2⟩
    rcases Nat.lt_or_gt_of_ne hik with hlt|hgt
    ·have:(i+1) * n<=k * n:=zab2 _ hlt;rw[zacq] at this;omega
    ·have:(k+1) * n<=i * n:=zab2 _ hgt;rw[zacq] at this;omega
theorem zaaI{mk:Nat->Option Nat}{v:AV}{u:Value}(h:VA w R ι mk v u):VA w R ι mk (unX v) u:=by
 have one:∀ {v:AV} {u:Value},VA w R ι mk v u->VA w R ι mk (zjo v) u:=fun {v u} h=>by
  cases v with
  | xsl es=>cases h with|xsl h=>exact .d h
  | _=>exact h
 cases v with
 | xsl es=>cases h with|xsl h=>exact .d h
 | agg cs=>
  cases h with
  | agg hl hc hh=>
   simp only[unX,znN];refine VA.mkAgg (by simpa using hl) (fun c hm=> ?_) fun i c q h1 h2=> ?_
   ·obtain⟨y,hy,rfl⟩:=zaby.1 hm;have:=hc y hy
    cases y<;>simp_all [zjo,AV.cell,D.cell]
   ·rw[zabI] at h1;obtain⟨y,hy,rfl⟩:=zabr.1 h1;exact one (hh i y q hy h2)
 | _=>exact h
theorem zVT{mk:Nat->Option Nat}{n:Nat}:∀ {ps:List (Nat×Value)} {qs:List (Nat×AV)} {es cs:List AV} {c:Array Value},zgb w R ι mk n es c->(∀e∈es,e.size=n)->qs.length=ps.length->
    (∀(k i:Nat) (u:Value) (i':Nat) (v:AV),ps[k]? = some (i,u)->qs[k]? = some (i',v)->i=i'/\VA w R ι mk v u)->(∀q∈qs,q.2.size=n)->zd8 es qs=some cs->
    ∃c',Instr.fill (fun i=>some (i * n,n)) c ps=some c'/\zgb w R ι mk n cs c'/\(∀e∈cs,e.size=n)/\cs.length=es.length:=by
 intro ps
 induction ps with
 | nil=>
  intro qs es cs c h hsz hl _ _ hf;have:qs=[]:=zacc.1 hl;subst this;simp only[zd8,Option.some.injEq] at hf;subst hf;exact⟨c,rfl,h,hsz,rfl⟩
 | cons p ps ih=>
  intro qs es cs c h hsz hl hp hqn hf;obtain⟨i,u⟩:=p
  cases qs with
  | nil=>simp at hl
  | cons q qs=>
   obtain⟨i',v⟩:=q;simp only[zd8] at hf
   split at hf
   ·rename_i hh;obtain⟨rfl,h2⟩:=hp 0 i u i' v rfl rfl;have hvn:v.size=n:=hqn (i,v) (.head _);have hsz1:=(h2.cells hh.2).1;have hlay:=h.lay hsz (zaaI h2) (zaaH hh.2) ((zQ9 v).trans hvn) hh.1;obtain⟨c',h3,h4,h5,h6⟩:=ih hlay (fun e he=>by
     rcases zac1 he with he|rfl
     ·exact hsz e he
     ·exact (zQ9 v).trans hvn) (by simpa using hl) (fun k i u i' v k1 k2=>hp (k+1) i u i' v (by simpa using k1) (by simpa using k2)) (fun q hq=>hqn q (.tail _ hq)) hf
    refine⟨c',?_,h4,h5,by rw[h6,zacb]⟩;have hb:i * n+u.cells.size<=c.size:=by
     have:(i+1) * n<=es.length * n:=zab2 _ hh.1;rw[zacq] at this;rw[h.1];omega
    simp only[Instr.fill];rw[zabn (by simp;omega)];exact h3
   ·cases hf
theorem zgb.data{mk:Nat->Option Nat}{n:Nat}{ds:List D}{c:Array Value}(h:zgb w R ι mk n (ds.map .d) c)(i:Nat)(e:D)(hi:ds[i]? = some e)(j:Nat)(x:D)(hj:e.cells[j]? = some x):
    x.cell=true/\∃q,c[i * n+j]? = some q/\Rd w R (.v x q):=by
 obtain⟨k1,q,k2,k3⟩:=h.2 i (.d e) (by simp [hi]) j (.d x) (by simp [AV.cells,hj]);exact⟨k1,q,k2,k3.of_d⟩
theorem Rel.newData(h:Rel C S a w ι R){n:Nat}{ds:List D}{c:Array Value}(T:TypeId)(hrow:zgb w R ι (mark S.heap) n (ds.map .d) c)(hn:0<n)(hsz:∀e∈ds,e.size=n)(hL:ds.length<=LIM):
    Rel C S a (w.alloc (.cells c T)) ι (fun b=>R b\/b=w.heap.size)/\
    VA (w.alloc (.cells c T)) (fun b=>R b\/b=w.heap.size) ι (mark S.heap) (.xsl ds) (.slice (some ⟨w.heap.size,0,none⟩) ds.length ds.length):=by
 refine⟨h.newRO _,.xsl ?_⟩;have hb:=heap_alloc_new w (.cells c T)
 by_cases h0:ds=[]
 ·subst h0;exact .sl0
 ·refine .sl (.inr rfl) h0 hn hL (zabR _) hsz fun i e hi=>Rd.el_of_cells (fun vs hvs=> ?_) fun j x hj=> ?_
  ·subst hvs;have:=(hrow.data i _ hi 0 (.tup vs) rfl).1;simp [D.cell] at this
  ·obtain⟨k1,q,k2,k3⟩:=hrow.data i e hi j x hj;refine⟨k1,q,?_,k3.mono_v (fun _ h=> .inl h) (zbK.alloc h _)⟩;rw[zcq hb,zabU];exact k2
theorem Rel.newOwn(h:Rel C S a w ι R){n o:Nat}{es:List AV}{c:Array Value}(T:TypeId)(hu:zho o S)(hrow:zgb w R ι (mark S.heap) n es c)(hn:0<n)(hsz:∀e∈es,e.size=n)(hL:es.length<=LIM)(hr:∀e∈es,e.refs o=false):
    Rel C ⟨S.env,zP o (.row es) S.heap⟩ a (w.alloc (.cells c T)) (upd ι o (w.heap.size,n)) R/\
    VA (w.alloc (.cells c T)) R (upd ι o (w.heap.size,n)) (mark (zP o (.row es) S.heap)) (.osl o 0 es.length) (.slice (some ⟨w.heap.size,0,none⟩) es.length es.length):=by
 refine⟨h.newRow T hu hn hsz (by rw[hrow.1];exact zabR _) hr hrow.2,?_⟩;have:=VA.osl (w:=w.alloc (.cells c T)) (R:=R) (ι:=upd ι o (w.heap.size,n)) (mk:=mark (zP o (.row es) S.heap)) (o:=o) (off:=0) (len:=es.length) (cap:=es.length) zcQ (by rw[zei]) (heap_alloc_new w _) (zabR _) (by rw[hrow.1];simp) hL;simpa using this
end Go.Sim
