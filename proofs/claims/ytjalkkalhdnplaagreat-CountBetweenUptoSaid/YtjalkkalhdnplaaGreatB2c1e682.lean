/-
  Worlds keep to what they keep to.
-/
import Derived.Test.YtjalkkalhdnplaaGreatB907f86f
import Derived.Test.YtjalkkalhdnplaaGreatBf94735e
import Derived.Test.YtjalkkalhdnplaaGreatB6bf7f7c
set_option linter.unusedSimpArgs false
set_option linter.unusedVariables false
set_option maxHeartbeats 10000000
set_option maxRecDepth 100000
namespace Go.Proofs.YtjalkkalhdnplaaGreat
open Go Go.Sim
theorem zxH{u:Setup}{N:Int}{s:Section}(hs:SI u N s){i j:Nat}(hi:i<s.lock.cells.length)(hj:j<s.lock.cells.length)(h:i≠j):clS s i≠clS s j:=by
 unfold clS;rw[zWG,zWG,zWF hi,zWF hj];simp only[zXl]
 rcases zZC h with q|q
 ·have:=zXu.1 hs.ca i j hi hj q;omega
 ·have:=zXu.1 hs.ca j i hj hi q;omega
theorem zCU {u:Setup} {N:Int} {a b:zg} {s:Section} {k:Int} {i:Nat} {x:Stripe} (ha:AI u a) (hg:GI u a) (hs:SI u N s) (hi:i<kOf u.slots s.lock.cells) (h0:0<=clS s i)
    (e:b={ a with stripes:=a.stripes.set (clS s i).toNat x }) (hq:x.seq=(zK a (clS s i)).seq+1)
    (hx:x.seq % 2=0->x.epoch<=a.epoch/\SM x.epoch (zaw a (clS s i))/\zbP (zaw a (clS s i)) x.epoch u.limit=(x.ready,x.leased)):
    GI u b/\Mo a b/\zK b (clS s i)=x/\(∀j,j<kOf u.slots s.lock.cells->j≠i->zK b (clS s j)=zK a (clS s j))/\∀c,zaw b c=zaw a c:=by
 obtain⟨q1,q2⟩:=zjv hs hi;have hsl:=ha.sl;have hst:=ha.st;have e1:zK b (clS s i)=x:=by
  subst e;unfold zK;simp only;rw[zWG,zYz zo];rfl
 have e2:∀c:Int,0<=c->c≠clS s i->zK b c=zK a c:=by
  intro c hc hne;subst e;unfold zK;simp only;rw[zWG,zYl zo, <- zWG]
 have e3:∀c,zaw b c=zaw a c:=fun c=>by subst e;rfl
 have e4:b.epoch=a.epoch/\b.slots.length=a.slots.length/\b.dead=a.dead:=by subst e;exact⟨rfl,rfl,rfl⟩
 refine⟨⟨fun c p q=> ?_,fun c p q=> ?_,?_⟩,⟨by omega,fun c p q=> ?_,e4.2.1⟩,e1,fun j hj hne=> ?_,e3⟩
 ·by_cases c0:c=clS s i
  ·subst c0;rw[e1,e3,e4.1];exact hx
  ·rw[e2 c p c0,e3,e4.1];exact hg.ev c p zo
 ·rw[e3,e4.1];exact hg.me c p zo
 ·rw[e4.1,e4.2.2];exact hg.md
 ·by_cases c0:c=clS s i
  ·subst c0;rw[e1];exact⟨by omega,fun q=>by omega⟩
  ·rw[e2 c p c0];exact⟨zXh _,fun _=>rfl⟩
 ·obtain⟨r1,r2⟩:=zjv hs hj;have hc0:0<=clS s j:=by
   have e:clS s j=s.lock.cells[j]:=by unfold clS;rw[zWG,zWF r1];rfl
   rw[e];exact (hs.cr _ (zWH r1)).1
  exact e2 _ hc0 (zxH hs r1 q1 hne)
theorem zTC{u:Setup}{a:zg}{s:Section}{k N:Int}(ha:AI u a)(hg:GI u a)(hs:SI u N s)(hl:LI u a k s)(hp:s.phase=1)(e:(zez a s k).2.2=0):SK u a k (zez a s k):=by
 obtain⟨q1,q2,q3,q4,q5,q6⟩:=hs.ph.p1 hp;have hm1:=hl.m1 hp;have hm2:=hl.m2 hp;have hd:=hl.d0 zo;have hn:=zo8 ha s;have ht:s.at_.tmod 2=s.at_ % 2:=zYQ q2;have hv:s.at_.tdiv 2=s.at_ / 2:=zX9 q2;have hik:(s.at_ / 2).toNat<kOf u.slots s.lock.cells:=by omega
 obtain⟨i1,i2⟩:=zjv hs hik;obtain⟨c1,c2,c3⟩:=zln hs hl.lo q1 i1;have hcell:zbO s (s.at_ / 2)=clS s (s.at_ / 2).toNat:=rfl;unfold zez at e ⊢;rw[ht,hv,hcell] at e ⊢
 by_cases c0:s.at_ % 2=0
 ·rw[zWz c0] at e ⊢;refine⟨hg,Mo.refl a,Ef.refl k a,?_⟩;have hld:(zaJ a (clS s (s.at_ / 2).toNat)).1=zK a (clS s (s.at_ / 2).toNat):=by
   simp only at e;unfold zaJ at e ⊢
   split at e
   ·rename_i c;rw[zWz c];rfl
   ·cases e
  simp only;rw[hld];refine { lo:=hl.lo,lm:=hl.lm,d0:=fun q=>hd,m1:=fun q j hj=> ?_,m2:=fun q hj=> ?_,st:=fun p1 p2=> ?_,ld:=fun p1 p2=> ?_,sd:=fun p1 p2=> ?_,e2:=fun p1 p2=> ?_,e4:=fun p1 p2=> ?_,e5:=fun p1 p2=> ?_ }
  all_goals simp only at *
  ·have:=hm1 j zo;have es:zcg { s with stripes:=s.stripes++[zK a (clS s (s.at_ / 2).toNat)],at_:=s.at_+1 } j=zcg s j:=by
    unfold zcg;simp only;rw[zWG,zXE zo, <- zWG]
   rw[es];exact this
  ·have ei:((s.at_+1) / 2).toNat=(s.at_ / 2).toNat:=by omega
   rw[ei];unfold zcg;simp only;rw[zWG,zXz zo,show (s.at_ / 2).toNat - s.stripes.length=0 by omega];rfl
  all_goals omega
 ·rw[zWy c0] at e ⊢;have hm2:=hm2 zo;have hstr:s.stripes.getD (s.at_ / 2).toNat zbh=zK a (clS s (s.at_ / 2).toNat):=hm2;rw[hstr] at e ⊢
  by_cases cb:(zff (zK a (clS s (s.at_ / 2).toNat))).2≠0
  ·rw[zWz cb] at e;exact absurd e cb
  rw[zWy cb] at e ⊢;have cb:=zWO.1 cb;simp only at e ⊢;have hx:(zff (zK a (clS s (s.at_ / 2).toNat))).1.seq=(zK a (clS s (s.at_ / 2).toNat)).seq+1/\(zff (zK a (clS s (s.at_ / 2).toNat))).1.seq % 2=1:=by
   unfold zff at cb ⊢
   split at cb
   ·cases cb
   rename_i d1
   split at cb
   ·cases cb
   rename_i d2
   split at cb
   ·cases cb
   rename_i d3;rw[zWy d1,zWy d2,zWy d3];have d1:=zWO.1 d1;unfold zbo at d1;rw[zYQ d1.1] at d2;refine⟨rfl,?_⟩;show ((zK a (clS s (s.at_ / 2).toNat)).seq+1) % 2=1;omega
  have hE:=Ef.stripe e;obtain⟨f1,f2,f3,f4⟩:=zsN e;generalize (zff (zK a (clS s (s.at_ / 2).toNat))).1=x at *;obtain⟨g1,g2,g3,g4,g5⟩:=zCU (k:=k) ha hg hs hik c1 f4 hx.1 (fun q=>by omega);generalize (stStripe a (clS s (s.at_ / 2).toNat) k x).1=b at *;have hstrs:∀j:Nat,j<(s.at_ / 2).toNat->(s.stripes.take (s.at_ / 2).toNat++[x]).getD j zbh=zcg s j:=by
   intro j hj;rw[zWG,zXE (by rw[zXY];omega),zYw hj, <- zWG];rfl
  have hlast:(s.stripes.take (s.at_ / 2).toNat++[x]).getD (s.at_ / 2).toNat zbh=x:=by
   have hlen:(s.stripes.take (s.at_ / 2).toNat).length=(s.at_ / 2).toNat:=by rw[zXY];omega
   rw[zWG,zXz zo,hlen,zYj];rfl
  have all:∀j:Nat,(j:Int)<(s.at_+1) / 2->(s.stripes.take (s.at_ / 2).toNat++[x]).getD j zbh=zK b (clS s j)/\((s.stripes.take (s.at_ / 2).toNat++[x]).getD j zbh).seq % 2=1:=by
   intro j hj
   by_cases ej:j=(s.at_ / 2).toNat
   ·subst ej;rw[hlast,g3];exact⟨rfl,hx.2⟩
   ·rw[hstrs j zo,g4 j zo ej];exact hm1 j zo
  refine⟨g1,g2,hE,?_⟩;have hlo:LO b k s.lock:=by
   intro j hj;have h1:=hl.lo j hj;have hjl:j<s.lock.cells.length:=by have:=hs.lw.h1;omega
   have hc:=hs.cr (s.lock.cells[j]) (zWH hjl);have e:s.lock.cells.getD j 0=s.lock.cells[j]:=by rw[zWG,zWF hjl];rfl
   subst f4;exact h1
  have hsn:zds b { s with stripes:=s.stripes.take (s.at_ / 2).toNat++[x],at_:=s.at_+1 }=kOf u.slots s.lock.cells:=by
   subst f4;exact hn
  rw[hsn]
  by_cases c5:s.at_+1=2 * (kOf u.slots s.lock.cells:Int)
  ·rw[zWz ⟨e,c5⟩];refine { lo:=hlo,lm:=hl.lm,d0:=fun q=>hd,m1:=fun q j hj=> ?_,m2:=fun q hj=> ?_,st:=fun p1 p2 j hj _=> ?_,ld:=fun p1 p2 j hj=> ?_,sd:=fun p1 p2=> ?_,e2:=fun p1 p2=> ?_,e4:=fun p1 p2=> ?_,e5:=fun p1 p2=> ?_ }
   all_goals simp only[zI] at *
   ·omega
   ·omega
   ·exact all j zo
   ·rw[q5] at hj;cases hj
   ·omega
   ·rw[q5,hd];exact⟨fun x hx=>(by cases hx),fun x hx=>(by cases hx)⟩
   ·omega
   ·omega
  ·rw[zWy (fun q=>c5 q.2)];refine { lo:=hlo,lm:=hl.lm,d0:=fun q=>hd,m1:=fun q j hj=>all j hj,m2:=fun q hj=> ?_,st:=fun p1 p2=> ?_,ld:=fun p1 p2=> ?_,sd:=fun p1 p2=> ?_,e2:=fun p1 p2=> ?_,e4:=fun p1 p2=> ?_,e5:=fun p1 p2=> ?_ }
   all_goals simp only at *
   all_goals omega
structure B7(u:Setup)(a:zg)(k:Int)(s:Section):Prop where
 lo:LO a k s.lock
 lm:s.limit=u.limit
 st:∀j:Nat,j<kOf u.slots s.lock.cells->zcg s j=zK a (clS s j)/\(zcg s j).seq % 2=1
 sd:∀j:Nat,j<kOf u.slots s.lock.cells->zaw a (clS s j)=if (j:Int)∈s.out.order then s.out.shards.getD j zw else s.shards.getD j zw
 e4:s.snap.epoch<=a.epoch/\(∀x∈s.shards,SM s.snap.epoch x)/\LM s.snap.epoch s.dead.l
 e5:(∀x∈s.out.shards,SM s.snap.epoch x)/\LM s.snap.epoch s.out.dead.l
theorem B7.li{u:Setup}{a:zg}{k:Int}{s:Section}(h:B7 u a k s){ph:Int}(hp:ph=6\/ph=7):LI u a k (zI s ph):=by
 refine {
  lo:=h.lo,lm:=h.lm,d0:=fun q=> ?_,m1:=fun q=> ?_,m2:=fun q=> ?_,st:=fun p1 p2 j hj _=>h.st j hj,ld:=fun p1 p2=> ?_,sd:=fun p1 p2 j hj=>(by
   have:zdG (zI s ph)=s.out.order:=by unfold zdG zI;simp only;rw[zWy zo]
   rw[this];exact h.sd j hj),e2:=fun p1 p2=> ?_,e4:=fun p1 p2=>h.e4,e5:=fun p1 p2=>h.e5 }
 all_goals simp only[zI] at *
 all_goals omega
theorem zth{u:Setup}{a b:zg}{k:Int}{s:Section}(h:B7 u a k s)(h3:s.lock.phase=3):(zcl b s).1=b/\LI u a k (zcl b s).2.1:=by
 unfold zcl
 split
 ·exact⟨rfl,h.li (.inr rfl)⟩
 ·refine⟨rfl,?_⟩;have hf:zb5 s.lock=({ s.lock with phase:=4 },0):=by unfold zb5;rw[zWz h3]
  simp only;unfold zcG;rw[hf,zWy (by simp)];exact LI.at8 h.lo h.lm (by simp only[zI];omega)
theorem LO.keep{a b:zg}{k:Int}{l:zbF}(h:LO a k l)(e:∀c,za7 b c=za7 a c):LO b k l:=fun j hj=>by rw[e];exact h j hj
theorem znJ{l:List Shard}{i:Nat}(h:i<l.length):l.getD i zw∈l:=by
 rw[zWG,zWF h];exact zWH h
theorem zTM{u:Setup}{a:zg}{s:Section}{k N:Int}(ha:AI u a)(hg:GI u a)(hs:SI u N s)(hl:LI u a k s)(hp:s.phase=5)(e:(zeB a s k).2.2=0):SK u a k (zeB a s k):=by
 obtain⟨q1,q2,q3,q4,q5,q6⟩:=hs.ph.p5 hp;have hsl:=ha.sl;have hst:=hl.st zo zo;have hsd:=hl.sd zo zo;obtain⟨e41,e42,e43⟩:=hl.e4 zo zo;obtain⟨e51,e52⟩:=hl.e5 zo zo;have hdo:zdG s=s.out.order.take s.at_.toNat:=by unfold zdG;rw[zWz hp]
 have hat:s.at_.toNat<s.out.order.length:=by omega
 have ho:s.out.order.getD s.at_.toNat 0=s.out.order[s.at_.toNat]:=by rw[zWG,zWF hat];rfl
 have hoo:=hs.oo.1 _ (zWH hat);rw[<- ho] at hoo;have htk:∀j:Int,j∈s.out.order.take (s.at_+1).toNat↔j∈s.out.order.take s.at_.toNat\/j=s.out.order.getD s.at_.toNat 0:=by
  intro j;rw[show (s.at_+1).toNat=s.at_.toNat+1 by omega,zYG,zWF hat,zW3,ho];simp
 unfold zeB at e ⊢;simp only at e ⊢;generalize s.out.order.getD s.at_.toNat 0=o at *;obtain⟨c1,c2,c3⟩:=zln hs hl.lo q1 (j:=o.toNat) zo;have hcell:zbO s o=clS s o.toNat:=rfl;rw[hcell] at e ⊢;have hok:(if clS s o.toNat=(a.slots.length:Int) then stDead a k s.out.dead else stSlot a (clS s o.toNat) k (s.out.shards.getD o.toNat zw)).2=0:=by
  refine Classical.byContradiction fun q=> ?_;rw[zWz q] at e;exact q e
 have key:∃b,(if clS s o.toNat=(a.slots.length:Int) then stDead a k s.out.dead else stSlot a (clS s o.toNat) k (s.out.shards.getD o.toNat zw))=(b,0)/\GI u b/\Mo a b/\Ef k a b/\LO b k s.lock/\(∀c,zK b c=zK a c)/\b.epoch=a.epoch/\
     ∀j:Nat,j<kOf u.slots s.lock.cells->zaw b (clS s j)=if (j:Int)∈s.out.order.take (s.at_+1).toNat then s.out.shards.getD j zw else s.shards.getD j zw:=by
  by_cases c0:clS s o.toNat=(a.slots.length:Int)
  ·rw[zWz c0] at hok ⊢;obtain⟨f1,f2⟩:=zCl hok;have hE:=Ef.dead hok;refine⟨(stDead a k s.out.dead).1,Prod.ext rfl hok,?_⟩;rw[f2] at hE ⊢;refine⟨⟨hg.ev,hg.me,e52.mono e41⟩,Mo.same rfl rfl rfl,hE,hl.lo.keep fun c=> ?_,fun _=>rfl,rfl,fun j hj=> ?_⟩
   ·unfold za7;split<;>rfl
   ·have hj2:=zjv hs hj;have hne:¬(j:Int)=o:=by
     intro q;have:o.toNat=j:=by omega
     rw[this] at c0;omega
    have h5:=hsd j hj;rw[hdo] at h5;show zaw a (clS s j)=_;rw[h5];have:((j:Int)∈s.out.order.take (s.at_+1).toNat)↔(j:Int)∈s.out.order.take s.at_.toNat:=by rw[htk];exact⟨fun q=>q.resolve_right hne,.inl⟩
    by_cases cj:(j:Int)∈s.out.order.take s.at_.toNat
    ·rw[zWz cj,zWz (this.2 cj)]
    ·rw[zWy cj,zWy (fun q=>cj (this.1 q))]
  ·rw[zWy c0] at hok ⊢;obtain⟨f1,f2,f3,f4⟩:=zCm hok;have hE:=Ef.slot hok;have hoK:o.toNat<kOf u.slots s.lock.cells:=by
    have hlt:o.toNat<s.lock.cells.length:=by omega
    have hce:clS s o.toNat=s.lock.cells[o.toNat]:=by unfold clS;rw[zWG,zWF hlt];rfl
    exact (zlN hs.ca o.toNat hlt).2 (by rw[<- hce];omega)
   have hos:=hst o.toNat hoK zo;refine⟨(stSlot a (clS s o.toNat) k (s.out.shards.getD o.toNat zw)).1,Prod.ext rfl hok,?_⟩;generalize (stSlot a (clS s o.toNat) k (s.out.shards.getD o.toNat zw)).1=b at *;have g1:zaw b (clS s o.toNat)=s.out.shards.getD o.toNat zw:=by
    subst f4;unfold zaw;simp only;rw[zWG,zYz zo];rfl
   have g2:∀c:Int,0<=c->c≠clS s o.toNat->zaw b c=zaw a c:=by
    intro c hc hne;subst f4;unfold zaw;simp only;rw[zWG,zYl zo, <- zWG]
   have g3:∀c,zK b c=zK a c:=fun c=>by subst f4;rfl
   have g4:b.epoch=a.epoch/\b.slots.length=a.slots.length/\b.dead=a.dead/\b.stripes=a.stripes:=by subst f4;exact⟨rfl,by simp,rfl,rfl⟩
   have g5:∀c,za7 b c=za7 a c:=by
    intro c;subst f4;unfold za7;simp only[zW8]
    split
    ·rfl
    ·by_cases e:c.toNat=(clS s o.toNat).toNat
     ·rw[e,zWG,zYz zo];rfl
     ·rw[zWG,zYl zo, <- zWG]
   refine⟨⟨fun c p q=> ?_,fun c p q=> ?_,?_⟩,Mo.same g4.2.1 g4.2.2.2 g4.1,hE,hl.lo.keep g5,g3,g4.1,fun j hj=> ?_⟩
   ·rw[g3,g4.1]
    by_cases cc:c=clS s o.toNat
    ·subst cc;rw[<- hos.1];intro q;have:=hos.2;omega
    ·rw[g2 c p cc];exact hg.ev c p zo
   ·rw[g4.1]
    by_cases cc:c=clS s o.toNat
    ·subst cc;rw[g1];exact (e51 _ (znJ zo)).mono e41
    ·rw[g2 c p cc];exact hg.me c p zo
   ·rw[g4.1,g4.2.2.1];exact hg.md
   ·by_cases ej:(j:Int)=o
    ·have:o.toNat=j:=by omega
     rw[this] at g1;rw[g1,zWz ((htk j).2 (.inr ej))]
    ·have hj2:=zjv hs hj;have hcj:=zln hs hl.lo q1 hj2.1;rw[g2 _ hcj.1 (zxH hs hj2.1 zo zo)];have h5:=hsd j hj;rw[hdo] at h5;rw[h5];have:((j:Int)∈s.out.order.take (s.at_+1).toNat)↔(j:Int)∈s.out.order.take s.at_.toNat:=by rw[htk];exact⟨fun q=>q.resolve_right ej,.inl⟩
     by_cases cj:(j:Int)∈s.out.order.take s.at_.toNat
     ·rw[zWz cj,zWz (this.2 cj)]
     ·rw[zWy cj,zWy (fun q=>cj (this.1 q))]
 obtain⟨b,kb,k1,k2,k3,k4,k5,k6,k7⟩:=key;rw[kb] at e ⊢;simp only[ne_eq,zWR,if_false] at e ⊢;have hstb:∀j:Nat,j<kOf u.slots s.lock.cells->zcg s j=zK b (clS s j)/\(zcg s j).seq % 2=1:=fun j hj=>by rw[k5];exact hst j hj zo
 by_cases c7:s.at_+1<(s.out.order.length:Int)
 ·rw[zWz c7];refine⟨k1,k2,k3,?_⟩;refine {
   lo:=k4,lm:=hl.lm,d0:=fun q=> ?_,m1:=fun q=> ?_,m2:=fun q=> ?_,st:=fun p1 p2 j hj _=>hstb j hj,ld:=fun p1 p2=> ?_,sd:=fun p1 p2 j hj=>(by
    have:zdG { s with at_:=s.at_+1,carry:=s.out.carry }=s.out.order.take (s.at_+1).toNat:=by unfold zdG;rw[zWz hp]
    rw[this];exact k7 j hj),e2:=fun p1 p2=> ?_,e4:=fun p1 p2=>⟨by rw[k6];exact e41,e42,e43⟩,e5:=fun p1 p2=>⟨e51,e52⟩ }
  all_goals simp only at *
  all_goals omega
 ·rw[zWy c7];have hB:B7 u b k { s with at_:=s.at_+1,carry:=[] }:=by
   refine⟨k4,hl.lm,hstb,fun j hj=> ?_,⟨by rw[k6];exact e41,e42,e43⟩,e51,e52⟩;have:=k7 j hj;rw[zYp zo] at this;exact this
  by_cases c8:0<s.out.edits.length
  ·rw[zWz c8];exact⟨k1,k2,k3,hB.li (.inl rfl)⟩
  ·rw[zWy c8];obtain⟨u1,u2⟩:=zth (b:=b) hB q1;refine⟨?_,?_,?_,?_⟩
   ·rw[u1];exact k1
   ·rw[u1];exact k2
   ·rw[u1];exact k3
   ·rw[u1];exact u2
theorem LI.b7{u:Setup}{a:zg}{k:Int}{s:Section}(hl:LI u a k s)(hp:s.phase=6):B7 u a k s:=by
 refine⟨hl.lo,hl.lm,fun j hj=>hl.st zo zo j hj zo,fun j hj=> ?_,hl.e4 zo zo,hl.e5 zo zo⟩;have:=hl.sd zo zo j hj;have hd:zdG s=s.out.order:=by unfold zdG;rw[zWy zo]
 rwa [hd] at this
theorem zTu{u:Setup}{a:zg}{s:Section}{k N:Int}(hg:GI u a)(hs:SI u N s)(hl:LI u a k s)(hp:s.phase=6)(e:(zex a s).2.2=0):SK u a k (zex a s):=by
 obtain⟨q1,_⟩:=hs.ph.p6 hp;have hB:=hl.b7 hp;have h6:∀(b:zg) (s1:Section),s1.lock=s.lock->s1.limit=s.limit->s1.stripes=s.stripes->s1.shards=s.shards->s1.out=s.out->s1.dead=s.dead->s1.snap=s.snap->(∀c,za7 b c=za7 a c)->(∀c,zK b c=zK a c)->(∀c,zaw b c=zaw a c)->b.epoch=a.epoch->B7 u b k s1:=by
  intro b s1 h1 h2 h3 h4 h5 h5d h5s o1 o2 o3 o4;have hcl:∀j,clS s1 j=clS s j:=fun j=>by unfold clS;rw[h1]
  have hstr:∀j,zcg s1 j=zcg s j:=fun j=>by unfold zcg;rw[h3]
  refine⟨by rw[h1];exact hB.lo.keep o1,by rw[h2];exact hB.lm,fun j hj=> ?_,fun j hj=> ?_,?_,?_⟩
  ·rw[hstr,hcl,o2];exact hB.st j (by rw[<- h1];exact hj)
  ·rw[hcl,o3,h5,h4];exact hB.sd j (by rw[<- h1];exact hj)
  ·rw[h5s,h4,h5d,o4];exact hB.e4
  ·rw[h5s,h5];exact hB.e5
 unfold zex at e ⊢
 by_cases c0:s.at_=0
 ·rw[zWz c0] at e ⊢;have hb:=h6 a { s with dir:=a.dir } rfl rfl rfl rfl rfl rfl rfl (fun _=>rfl) (fun _=>rfl) (fun _=>rfl) rfl;have hb2:=hb.li (ph:=6) (.inl rfl);refine⟨hg,Mo.refl a,Ef.refl k a,?_⟩;have hd:zdG ({ s with dir:=a.dir,at_:=1 }:Section)=s.out.order:=by unfold zdG;rw[zWy (by simp only;omega)]
  refine { lo:=hl.lo,lm:=hl.lm,d0:=fun q=> ?_,m1:=fun q=> ?_,m2:=fun q=> ?_,st:=fun p1 p2 j hj _=>hB.st j hj,ld:=fun p1 p2=> ?_,sd:=fun p1 p2 j hj=>(by rw[hd];exact hB.sd j hj),e2:=fun p1 p2=> ?_,e4:=fun p1 p2=>hB.e4,e5:=fun p1 p2=>hB.e5 }
  all_goals simp only at *
  all_goals omega
 rw[zWy c0] at e ⊢;simp only at e ⊢
 by_cases c1:(zcZ s.dir (s.out.edits.getD 0 zfa)).2≠0
 ·rw[zWz c1] at e;exact absurd e c1
 rw[zWy c1] at e ⊢
 by_cases c2:(casDir a s.dir.version (zcZ s.dir (s.out.edits.getD 0 zfa)).1).2.2≠0
 ·rw[zWz c2] at e;exact absurd e c2
 rw[zWy c2] at e ⊢;have c2:=zWO.1 c2;have hE:=Ef.casDir (k:=k) c2;have hca:(∀c,za7 (casDir a s.dir.version (zcZ s.dir (s.out.edits.getD 0 zfa)).1).1 c=za7 a c)/\(casDir a s.dir.version (zcZ s.dir (s.out.edits.getD 0 zfa)).1).1.stripes=a.stripes/\(∀c,zaw (casDir a s.dir.version (zcZ s.dir (s.out.edits.getD 0 zfa)).1).1 c=zaw a c)/\
     (casDir a s.dir.version (zcZ s.dir (s.out.edits.getD 0 zfa)).1).1.epoch=a.epoch/\(casDir a s.dir.version (zcZ s.dir (s.out.edits.getD 0 zfa)).1).1.dead=a.dead/\(casDir a s.dir.version (zcZ s.dir (s.out.edits.getD 0 zfa)).1).1.slots.length=a.slots.length:=by
  unfold casDir at c2 ⊢
  repeat' split at c2
  all_goals first
   | (cases c2;done)
   | (rename_i c;exact absurd c2 c)
   | skip
  ·rename_i d1 d2 d3;rw[zWy d1,zWy d2,zWz d3];exact⟨fun _=>rfl,rfl,fun _=>rfl,rfl,rfl,rfl⟩
  ·rename_i d1 d2 d3;rw[zWy d1,zWy d2,zWy d3];exact⟨fun _=>rfl,rfl,fun _=>rfl,rfl,rfl,rfl⟩
 generalize casDir a s.dir.version (zcZ s.dir (s.out.edits.getD 0 zfa)).1=r at *;obtain⟨b,ok,ee⟩:=r;simp only at *;obtain⟨o1,o2,o3,o4,o5,o6⟩:=hca;have o2':∀c,zK b c=zK a c:=fun c=>by unfold zK;rw[o2]
 have hg':GI u b:=hg.same o6 o2 o3 o4 (by rw[o5]);have hm':Mo a b:=Mo.same o6 o2 o4
 by_cases c3:ok=false
 ·rw[zWz c3];have hb:=h6 b { s with at_:=0 } rfl rfl rfl rfl rfl rfl rfl o1 o2' o3 o4;have hb2:=hb.li (ph:=6) (.inl rfl);have es:zI { s with at_:=0 } 6={ s with at_:=0 }:=by unfold zI;simp only;rw[<- hp]
  rw[es] at hb2;exact⟨hg',hm',hE,hb2⟩
 ·rw[zWy c3];have hb:=h6 b { s with dir:=(zcZ s.dir (s.out.edits.getD 0 zfa)).1 } rfl rfl rfl rfl rfl rfl rfl o1 o2' o3 o4;obtain⟨u1,u2⟩:=zth (b:=b) hb q1;refine⟨?_,?_,?_,?_⟩
  ·rw[u1];exact hg'
  ·rw[u1];exact hm'
  ·rw[u1];exact hE
  ·rw[u1];exact u2
theorem zCu(s:Section)(k:Int):zg3 s k=true↔k∈s.out.order:=by
 unfold zg3;simp only[zXG,decide_eq_true_eq];exact⟨fun⟨x,h,e⟩=>e ▸ h,fun h=>⟨k,h,rfl⟩⟩
theorem zGY{s:Stripe}{x:Shard}{ep lim:Int}(h:(zfi s x ep lim).2=0):(zfi s x ep lim).1=⟨s.seq+1,ep,(zbP x ep lim).1,(zbP x ep lim).2⟩:=by
 unfold zfi at h ⊢
 repeat' split at h
 all_goals first
  | (cases h;done)
  | (rename_i c;exact absurd h c)
  | skip
 rename_i c1 c2 c3 c4;rw[zWy c1,zWy c2,zWy c3,zWy c4]
theorem zL8{u:Setup}{a:zg}{k:Int}{s:Section}(lo:LO a k s.lock)(lm:s.limit=u.limit)(h3:s.lock.phase=3):LI u a k (zcG s).1:=by
 have hf:zb5 s.lock=({ s.lock with phase:=4 },0):=by unfold zb5;rw[zWz h3]
 unfold zcG;rw[hf,zWy (by simp)];exact LI.at8 lo lm (by simp only[zI];omega)
theorem zTO{u:Setup}{a:zg}{s:Section}{k N:Int}(ha:AI u a)(hg:GI u a)(hs:SI u N s)(hl:LI u a k s)(hp:s.phase=7)(e:(zeC a s k).2.2=0):SK u a k (zeC a s k):=by
 obtain⟨q1,q2,q3,q4,q5,q6⟩:=hs.ph.p7 hp;have hst:=hl.st zo zo;have hsd:=hl.sd zo zo;obtain⟨e41,e42,e43⟩:=hl.e4 zo zo;obtain⟨e51,e52⟩:=hl.e5 zo zo;have hdo:zdG s=s.out.order:=by unfold zdG;rw[zWy zo]
 have hik:s.at_.toNat<kOf u.slots s.lock.cells:=by omega
 obtain⟨i1,i2⟩:=zjv hs hik;obtain⟨c1,c2,c3⟩:=zln hs hl.lo q1 i1;obtain⟨t1,t2⟩:=hst s.at_.toNat hik (fun _=>by omega);have hcell:zbO s s.at_=clS s s.at_.toNat:=rfl;have hstr:s.stripes.getD s.at_.toNat zbh=zK a (clS s s.at_.toNat):=t1;have hnow:(if zg3 s s.at_=true then s.out.shards.getD s.at_.toNat zw else s.shards.getD s.at_.toNat zw)=zaw a (clS s s.at_.toNat):=by
  have:=hsd s.at_.toNat hik;rw[hdo,show ((s.at_.toNat:Nat):Int)=s.at_ by omega] at this;rw[this]
  by_cases c:s.at_∈s.out.order
  ·rw[zWz ((zCu s _).2 c),zWz c]
  ·rw[zWy (fun q=>c ((zCu s _).1 q)),zWy c]
 have hsm:SM s.snap.epoch (zaw a (clS s s.at_.toNat)):=by
  rw[<- hnow]
  split
  ·exact e51 _ (znJ zo)
  ·exact e42 _ (znJ zo)
 unfold zeC at e ⊢;simp only[hcell,hstr,hnow] at e ⊢
 by_cases d1:(zfi (zK a (clS s s.at_.toNat)) (zaw a (clS s s.at_.toNat)) s.snap.epoch s.limit).2≠0
 ·rw[zWz d1] at e;exact absurd e d1
 rw[zWy d1] at e ⊢;have hx:=zGY (zWO.1 d1)
 by_cases d2:(stStripe a (clS s s.at_.toNat) k (zfi (zK a (clS s s.at_.toNat)) (zaw a (clS s s.at_.toNat)) s.snap.epoch s.limit).1).2≠0
 ·rw[zWz d2] at e;exact absurd e d2
 rw[zWy d2] at e ⊢;have d2:=zWO.1 d2;have hE:=Ef.stripe d2;obtain⟨f1,f2,f3,f4⟩:=zsN d2;generalize (zfi (zK a (clS s s.at_.toNat)) (zaw a (clS s s.at_.toNat)) s.snap.epoch s.limit).1=x at *;obtain⟨g1,g2,g3,g4,g5⟩:=zCU (k:=k) ha hg hs hik c1 f4 (by rw[hx]) (fun _=>by rw[hx];exact⟨e41,hsm,by rw[hl.lm]⟩);generalize (stStripe a (clS s s.at_.toNat) k x).1=b at *;have hep:b.epoch=a.epoch:=by subst f4;rfl
 have hlo:LO b k s.lock:=hl.lo.keep fun c=>by subst f4;rfl
 by_cases c7:s.at_+1=(s.stripes.length:Int)
 ·rw[zWz c7];exact⟨g1,g2,hE,zL8 (s:={ s with at_:=s.at_+1 }) hlo hl.lm q1⟩
 ·rw[zWy c7];refine⟨g1,g2,hE,?_⟩;have hd:zdG ({ s with at_:=s.at_+1 }:Section)=s.out.order:=by unfold zdG;rw[zWy (by simp only;omega)]
  refine {
   lo:=hlo,lm:=hl.lm,d0:=fun q=> ?_,m1:=fun q=> ?_,m2:=fun q=> ?_,st:=fun p1 p2 j hj q=>(by
    have hq:=q hp;simp only at hq;have:=hst j hj (fun _=>by omega);show zcg s j=zK b (clS s j)/\_;rw[g4 j hj zo];exact this),ld:=fun p1 p2=> ?_,sd:=fun p1 p2 j hj=>(by
    rw[hd];show zaw b (clS s j)=_;rw[g5];have:=hsd j hj
    rwa [hdo] at this),e2:=fun p1 p2=> ?_,e4:=fun p1 p2=>⟨by rw[hep];exact e41,e42,e43⟩,e5:=fun p1 p2=>⟨e51,e52⟩ }
  all_goals simp only at *
  all_goals omega
theorem zTw{u:Setup}{a:zg}{s:Section}{k N:Int}(hg:GI u a)(hs:SI u N s)(hl:LI u a k s)(hp:s.phase=8)(e:(zfs a s k).2.2=0):SK u a k (zfs a s k):=by
 have hlm:=hl.lm;have he:(zao a s.lock k).2.2=0:=by
  unfold zfs at e
  split at e
  ·rename_i c;exact c.1
  ·exact e
 obtain⟨x1,x2,x3,x4,x5,x6⟩:=zAD hs.lw (fun c hc=>(hs.cr c hc).1) hs.ca hl.lo he;have hg':GI u (zao a s.lock k).1:=hg.same x1.n x3 x5 x4 x6;have hm':Mo a (zao a s.lock k).1:=Mo.same x1.n x3 x4;unfold zfs;generalize zao a s.lock k=r at *;obtain⟨a2,l2,e2⟩:=r;simp only at he x1 x2 hg' hm' ⊢
 by_cases c:e2=0/\l2.phase=5
 ·rw[zWz c];exact⟨hg',hm',x1,LI.at8 x2 hlm (by simp only[zI];omega)⟩
 ·rw[zWy c];exact⟨hg',hm',x1,LI.at8 x2 hlm (by simp only;omega)⟩
theorem zTK{u:Setup}{a:zg}{s:Section}{k n N:Int}(ha:AI u a)(hg:GI u a)(hs:SI u N s)(hl:LI u a k s)(e:(zcb a s k n).2.2=0):SK u a k (zcb a s k n):=by
 have e0:(zeA a s k n).2.2=0:=by
  unfold zcb at e;refine Classical.byContradiction fun q=> ?_;rw[zWz q] at e;exact q e
 have es:zcb a s k n=zeA a s k n:=by unfold zcb;rw[zWy (fun q=>q e0)]
 rw[es];unfold zeA at e0 ⊢
 by_cases c0:s.phase=0
 ·rw[zWz c0] at e0 ⊢; exact zTA ha hg hs hl c0 e0
 rw[zWy c0] at e0 ⊢
 by_cases c1:s.phase=1
 ·rw[zWz c1] at e0 ⊢; exact zTC ha hg hs hl c1 e0
 rw[zWy c1] at e0 ⊢
 by_cases c2:s.phase=2
 ·rw[zWz c2] at e0 ⊢; exact zTy ha hg hs hl c2 e0
 rw[zWy c2] at e0 ⊢
 by_cases c3:s.phase=3
 ·rw[zWz c3] at e0 ⊢; exact zTH hg hs hl c3 e0
 rw[zWy c3] at e0 ⊢
 by_cases c5:s.phase=5
 ·rw[zWz c5] at e0 ⊢; exact zTM ha hg hs hl c5 e0
 rw[zWy c5] at e0 ⊢
 by_cases c6:s.phase=6
 ·rw[zWz c6] at e0 ⊢; exact zTu hg hs hl c6 e0
 rw[zWy c6] at e0 ⊢
 by_cases c7:s.phase=7
 ·rw[zWz c7] at e0 ⊢; exact zTO ha hg hs hl c7 e0
 rw[zWy c7] at e0 ⊢
 by_cases c8:s.phase=8
 ·rw[zWz c8] at e0 ⊢; exact zTw hg hs hl c8 e0
 rw[zWy c8] at e0
 cases e0
theorem zFJ{u:Setup}{N:Int}{a:zg}{k:Int}{s:Section}{o:zb3}(hs:SI u N s)(hl:LI u a k s)(hp:s.phase=4)(ho:OI s o)(h1:∀x∈o.shards,SM s.snap.epoch x)(h2:LM s.snap.epoch o.dead.l):LI u a k (zeg s o).1:=by
 obtain⟨q1,q2,q3⟩:=hs.ph.p4 hp;have hsl:=ho.sh;have hel:=ho.ed;have hst:∀j:Nat,j<kOf u.slots s.lock.cells->zcg s j=zK a (clS s j)/\(zcg s j).seq % 2=1:=fun j hj=>hl.st zo zo j hj zo;have hld:=hl.ld zo zo;have he4:=hl.e4 zo zo;unfold zeg;rw[zWy (fun q=>q hp),zWy (show ¬(o.shards.length≠s.shards.length\/1<o.edits.length) by omega)];rw[zWy (show ¬zif s.lock.cells.length o.order=false by
  unfold zif;rw[zWY (show (∀i∈o.order,0<=i/\i<(s.lock.cells.length:Int))/\o.order.Nodup from ⟨ho.ord,ho.nd⟩)];simp)]
 by_cases c1:0<o.order.length
 ·rw[zWz c1];refine {
   lo:=hl.lo,lm:=hl.lm,d0:=fun q=> ?_,m1:=fun q=> ?_,m2:=fun q=> ?_,st:=fun p1 p2 j hj _=>hst j hj,ld:=fun p1 p2=> ?_,sd:=fun p1 p2 j hj=>(by
    have hd:zdG (zI { s with out:=o } 5)=[]:=by unfold zdG zI;simp
    rw[hd,zWy (by simp)];have hj:j<kOf u.slots s.lock.cells:=hj;exact (hld j zo).symm),e2:=fun p1 p2=> ?_,e4:=fun p1 p2=>he4,e5:=fun p1 p2=>⟨h1,h2⟩ }
  all_goals simp only[zI] at *
  all_goals omega
 ·rw[zWy c1];have hnil:o.order=[]:=zXk.1 zo;have hB:B7 u a k { s with out:=o }:=by
   refine⟨hl.lo,hl.lm,hst,fun j hj=> ?_,he4,h1,h2⟩;show zaw a (clS s j)=if (j:Int)∈o.order then _ else s.shards.getD j zw
   rw[hnil,zWy (by simp)];have hj:j<kOf u.slots s.lock.cells:=hj;exact (hld j zo).symm
  by_cases c2:0<o.edits.length
  ·rw[zWz c2];exact hB.li (.inl rfl)
  ·rw[zWy c2];exact (zth (b:=zB) hB q1).2
theorem zTE{u:Setup}{a:zg}{k:Int}{cells:List Int}(h:(zcp cells u.limit).2=0):LI u a k (zcp cells u.limit).1:=by
 unfold zcp at h ⊢
 split at h
 ·rename_i c;exact absurd h c
 rename_i c1
 split at h
 ·cases h
 rename_i c2;rw[zWy c1,zWy c2];have hh:(zgk cells).1.have_=0:=by
  unfold zgk
  repeat' split
  all_goals rfl
 refine { lo:=fun j hj=> ?_,lm:=rfl,d0:=fun q=>rfl,m1:=fun q=> ?_,m2:=fun q=> ?_,st:=fun p1 p2=> ?_,ld:=fun p1 p2=> ?_,sd:=fun p1 p2=> ?_,e2:=fun p1 p2=> ?_,e4:=fun p1 p2=> ?_,e5:=fun p1 p2=> ?_ }
 all_goals simp only[zbU] at *
 all_goals omega
theorem zVv:∀(l:List Span) (n m r:Int),zdR n l=some m->n<=r->r<m->∃x∈l,inS r x=true:=by
 intro l
 induction l with
 | nil=>intro n m r h h1 h2;simp only[zdR,Option.some.injEq] at h;omega
 | cons x l ih=>
  intro n m r h h1 h2;unfold zdR at h
  split at h
  ·rename_i c
   by_cases hr:r<=x.high
   ·exact⟨x,.head _,by unfold inS;rw[zWY (show x.low<=r by omega),zWY hr];rfl⟩
   ·obtain⟨y,hy,hy2⟩:=ih _ _ r h zo h2;exact⟨y,.tail _ hy,hy2⟩
  ·cases h
theorem zFO{d:zal}(h:zbz d=0):∀x∈d.l,0<=x.shard/\x.shard<d.forward.length:=by
 unfold zbz at h
 split at h
 ·cases h
 split at h
 ·cases h
 split at h
 ·cases h
 rename_i c;intro x hx;have:=zXX.1 (zY0.2 c) x hx;unfold zh9 at this;rw[zXD,decide_eq_true_eq,decide_eq_true_eq] at this;omega
theorem zsd{d:zal}(h:zbz d=0){r:Int}(h0:0<=r)(h1:r<65536):0<=zeu d r/\zeu d r<d.forward.length:=by
 unfold zeu;rw[zWz h];obtain⟨x,hx,hx2⟩:=zVv d.l 0 65536 r (zqd h) h0 h1
 cases hf:d.l.findIdx? (inS r) with
 | none=>
  rw[zYR] at hf;have:=hf x hx;rw[hx2] at this
  cases this
 | some i=>
  have hi:=(zXP.1 hf).1;simp only;rw[zq hi];exact zFO h _ (zWH hi)
theorem zMO{d:zal}(hf:∀a∈d.forward, -1<=a/\a<d.forward.length):∀(m:Nat) (a:Int), -1<=a->a<d.forward.length-> -1<=zgM d m a/\zgM d m a<d.forward.length:=by
 intro m
 induction m with
 | zero=>intro a h0 h1;exact⟨h0,h1⟩
 | succ m ih=>
  intro a h0 h1;unfold zgM
  split
  ·rename_i c;have hi:a.toNat<d.forward.length:=by omega
   rw[zq hi];have:=hf _ (zWH hi);exact ih _ this.1 this.2
  ·exact⟨h0,h1⟩
theorem znO{d:zal}(h:zbz d=0)(a:Int):0<=zdf d a/\zdf d a<d.forward.length:=by
 have hl:=ziP h;have hw:=(zzw h ⟨hl.2.1,by have:=zfB h;omega⟩).1;have ho:=zsd h (r:=0) zo zo;unfold zdf
 split
 ·rename_i c;refine⟨c,?_⟩;unfold zj9 at c ⊢
  split at c
  ·omega
  ·rename_i c2;rw[zWy c2];exact (zMO hw _ a zo zo).2
 ·exact ho
theorem zyS{s:Shard}(h:zaK s):zjD s:=⟨by have:=h.1;omega,by have:=h.2.1;omega,by have:=h.2.2;omega⟩
theorem zbv{s:Shard}(h:zV s=0):zaK s:=by
 have h1:zaI s.ready=0:=by
  have q:=h;unfold zV at q
  split at q
  ·rename_i c;exact absurd q c
  ·rename_i c;exact zWO.1 c
 have h2:zah s.leases=0:=by
  have q:=h;unfold zV at q;rw[zWy (fun c=>c h1)] at q
  split at q
  ·rename_i c;exact absurd q c
  ·rename_i c;exact zWO.1 c
 exact⟨(zcV h1).2.1,zjz h2⟩
theorem zf4{s:Shard}(q:zaK s):zbc s:=⟨by have:=q.1;omega,by have:=q.2.1;omega,by have:=q.2.2;omega⟩
theorem zb9:zaK zw:=⟨by simp [zw],by simp [zw],by simp [zw]⟩
theorem zoY(r:zR)(id:Int):(rmD r id).1.cells.length<=r.cells.length:=by
 unfold rmD
 split
 ·simp only;rw[zfU];exact zW5 _
 ·simp [zar]
theorem zse(r:zR)(m:Message):(pbD r m).1.cells.length<=r.cells.length:=by
 unfold pbD
 split
 ·simp only;rw[zfU];exact zW5 _
 ·simp [zar]
theorem zSp(ep:Int):∀(l:List Message) (r:zR),(rmP ep l r).cells.length<=r.cells.length:=by
 intro l
 induction l with
 | nil=>intro r;exact zW5 _
 | cons m l ih=>
  intro r;unfold rmP
  split
  ·exact zXo (ih _) (zoY _ _)
  ·exact ih _
theorem zBO(t:Table)(id:Int):(z8 t id).1.l.length<=12/\(z8 t id).1.heap.length<=12:=by
 by_cases h:(z8 t id).2.2=0
 ·exact zjz (zsu h).1
 ·have:z8 t id=(zac,z9,zfq t id):=by
     unfold z8 at h ⊢
     split at h
     ·exact absurd rfl h
     ·rename_i hc;rw[zWy hc]
  rw[this];exact⟨by simp [zac],by simp [zac]⟩
theorem zR1(ep:Int):∀(l:List zx) (t:Table),t.l.length<=12/\t.heap.length<=12->(relP ep l t).l.length<=12/\(relP ep l t).heap.length<=12:=by
 intro l
 induction l with
 | nil=>intro t h;exact h
 | cons y l ih=>
  intro t h;unfold relP
  split
  ·exact ih _ (zBO _ _)
  ·exact ih _ h
theorem zND{s:Shard}(h:zaK s)(ep:Int):zaK (zgG s ep).1:=by
 unfold zgG
 split
 ·exact zb9
 split
 ·exact zb9
 obtain⟨h1,h2,h3⟩:=h;have:=zR1 ep s.leases.l s.leases ⟨h2,h3⟩;exact⟨zXo (zSp _ _ _) h1,this.1,this.2⟩
theorem zNE{s:Shard}(h:zaK s)(k:Int):zaK (zeO s k).1:=by
 unfold zeO
 split
 ·exact zb9
 split
 ·exact zb9
 obtain⟨h1,h2,h3⟩:=h;refine⟨?_,h2,h3⟩;show (zeN s.ready k).1.cells.length<=12;unfold zeN
 split
 ·simp [zar]
 split
 ·simp [zar]
 simp only;rw[zfU];exact h1
theorem zlO{s:Shard}(h:zaK s)(m:Message):zaK (zcK s m).1:=by
 obtain⟨h1,h2,h3⟩:=h;unfold zcK
 repeat' split
 all_goals first|exact zb9|exact⟨zXo (zse _ _) h1,h2,h3⟩
theorem zNB(lo hi:Int):∀(l:List Message) (s:Shard),zaK s->zaK (zee lo hi l s).1:=by
 intro l
 induction l with
 | nil=>intro s h;exact h
 | cons m l ih=>
  intro s h;unfold zee
  split
  ·exact zb9
  ·exact ih _ (zlO h _)
theorem znU{s:Shard}(h:zaK s)(l:List Message):zaK (zfx s l).1:=by
 unfold zfx
 split
 ·exact zb9
 split
 ·exact zb9
 exact zNB _ _ _ _ h
theorem ztR(k ep lim:Int):∀(l:List Message) (r:zR) (out:List Message),(zdD k ep lim l r out).1.cells.length<=r.cells.length/\(zdD k ep lim l r out).2.length<=out.length+l.length:=by
 intro l
 induction l with
 | nil=>intro r out;exact⟨zW5 _,zW5 _⟩
 | cons m l ih=>
  intro r out;unfold zdD
  split
  ·exact⟨zW5 _,by simp only;omega⟩
  split
  ·have:=ih (rmD r m.id).1 (out++[m]);have q:=zoY r m.id;simp only[zWJ,zWI,zWK] at this ⊢;omega
  ·have:=ih r out;simp only[zWI];omega
theorem zNC{s:Shard}(h:zaK s)(k ep lim:Int):zaK (zeJ s k ep lim).1:=by
 unfold zeJ
 split
 ·exact zb9
 split
 ·exact zb9
 obtain⟨h1,h2,h3⟩:=h;exact⟨zXo (ztR _ _ _ _ _ _).1 h1,h2,h3⟩
theorem zH4(lo hi:Int):∀(l:List Message) (r:zR),(zbB lo hi l r).cells.length<=r.cells.length:=by
 intro l
 induction l with
 | nil=>intro r;exact zW5 _
 | cons m l ih=>
  intro r;unfold zbB
  split
  ·exact zXo (ih _) (zse _ _)
  ·exact ih _
theorem zyK(lo hi:Int):∀(l:List zx) (t:Table),t.l.length<=12/\t.heap.length<=12->(zd1 lo hi l t).l.length<=12/\(zd1 lo hi l t).heap.length<=12:=by
 intro l
 induction l with
 | nil=>intro t h;exact h
 | cons y l ih=>
  intro t h;unfold zd1
  split
  ·exact ih _ (zMK _ _ _)
  ·exact ih _ h
theorem zq0{s:Shard}(h:zaK s)(l:List Message)(y:List zx):zaK (zgf s l y):=by
 obtain⟨h1,h2,h3⟩:=h;have:=zyK s.low s.high y s.leases ⟨h2,h3⟩;exact⟨zXo (zH4 _ _ _ _) h1,this.1,this.2⟩
theorem znW(n lo hi:Int):zaK (zbD n lo hi).1:=by
 unfold zbD
 split
 ·exact zb9
 split
 ·exact zb9
 refine⟨?_,by simp [zac],by simp [zac]⟩;simp only[zXw];omega
theorem zNF(n:Int):zaK (zc4 n).1:=by
 unfold zc4
 split
 ·exact zb9
 refine⟨?_,by simp [zac],by simp [zac]⟩;simp only[zXw];omega
theorem znV(s:Shard)(mid:Int):zaK (zde s mid).1/\zaK (zde s mid).2.1:=by
 unfold zde
 split
 ·exact⟨zb9,zb9⟩
 split
 ·exact⟨zb9,zb9⟩
 exact⟨zq0 (znW _ _ _) _ _,zq0 (znW _ _ _) _ _⟩
theorem zNG{a:Shard}(h:zaK a)(b:Shard):zaK (zg5 a b).1:=by
 unfold zg5
 split
 ·exact zb9
 split
 ·exact zb9
 split
 ·exact zb9
 split
 ·exact zb9
 split
 ·exact zb9
 exact zq0 (s:={ a with low:=if a.low<b.low then a.low else b.low,high:=if a.high<b.high then b.high else a.high }) h _ _
theorem zAj(s:Shard)(now ep lim:Int):zaK (zcE s now ep lim).1:=by
 by_cases c:(zcE s now ep lim).2.2=0
 ·exact zbv (zE2 c).1
 ·have e:(zcE s now ep lim).1=zw:=by
     unfold zcE at c ⊢
     split
     ·rfl
     ·rename_i c1;rw[zWy c1] at c
      split
      ·rename_i c2;rw[zWz c2] at c;exact absurd rfl c
      ·rfl
  rw[e];exact zb9
theorem zlx{x:Shard}(h:zaK x):zjD x:=zyS h
theorem zAh{n c:Int}(h:c<n):kOf n [c]=1:=by simp [kOf,h]
theorem znS{n a b:Int}(h1:a<n)(h2:b<n):kOf n [a,b]=2:=by simp [kOf,h1,h2]
theorem znT{n c:Int}(h:c<n):kOf n [c,n]=1:=by simp [kOf,h]
theorem SI.un{u:Setup}{N:Int}{s:Section}(hs:SI u N s):OI s (zU s):=by
 have hd:=hs.dv;constructor
 ·rfl
 ·intro x hx;exact zlx (zbv (hs.sv x hx).1)
 ·simp only[zU];omega
 ·intro i hi;cases hi
 ·exact zZw
 ·simp [zU]
 ·simp [zU]
 ·simp [zU]
theorem SI.one{u:Setup}{N:Int}{s:Section}(hs:SI u N s)(hk:s.shards.length=1){x:Shard}(hx:zaK x):OI s { zU s with shards:=[x],order:=[0] }:=by
 have hd:=hs.dv;have hc:=hs.lw.c1;constructor
 ·simp only[zWI,zWK];omega
 ·intro y hy;rw[zW7.1 hy];exact zlx hx
 ·simp only[zU];omega
 ·intro i hi;rw[zW7.1 hi];omega
 ·simp
 ·simp
 ·simp [zU]
 ·simp [zU]
theorem SI.two {u:Setup} {N:Int} {s:Section} (hs:SI u N s) (hk:s.shards.length=2) (hn:s.lock.cells.length=2) {x y:Shard} (hx:zaK x) (hy:zaK y) {ord:List Int} (ho:ord=[0,1]\/ord=[1,0]) {l:List Shard} (hl:l=[x,y]\/l=[y,x])
    {ca:List Message} (hc:ca.length<=1000) {ed:List zeI} (he:ed.length<=1):OI s ⟨l,s.dead,ord,ca,ed⟩:=by
 have hd:=hs.dv;constructor
 ·rcases hl with h|h<;>rw[h,hk]<;>rfl
 ·intro z hz
  rcases hl with h|h<;>rw[h] at hz<;>simp only[zXe,zYB,zXZ] at hz<;>rcases hz with h|h<;>rw[h]<;>first|exact zlx hx|exact zlx hy
 ·simp only;omega
 ·intro i hi;rw[hn]
  rcases ho with h|h<;>rw[h] at hi<;>simp only[zXe,zYB,zXZ] at hi<;>omega
 ·rcases ho with h|h<;>rw[h]<;>simp
 ·rcases ho with h|h<;>rw[h]<;>simp
 ·exact hc
 ·exact he
theorem SI.dead {u:Setup} {N:Int} {s:Section} (hs:SI u N s) (hk:s.shards.length=1) (hn:s.lock.cells.length=2) {x:Shard} (hx:zaK x) {d:Dead} (hd:d.l.length<=1000) {ord:List Int} (ho:ord=[0,1]\/ord=[1,0])
    {ca:List Message} (hc:ca.length<=1000):OI s ⟨[x],d,ord,ca,[]⟩:=by
 constructor
 ·rw[hk];rfl
 ·intro z hz;rw[zW7.1 hz];exact zlx hx
 ·exact hd
 ·intro i hi;rw[hn]
  rcases ho with h|h<;>rw[h] at hi<;>simp only[zXe,zYB,zXZ] at hi<;>omega
 ·rcases ho with h|h<;>rw[h]<;>simp
 ·rcases ho with h|h<;>rw[h]<;>simp
 ·exact hc
 ·simp
theorem ziq{u:Setup}{N:Int}{t:zi}(hs:SI u N t.sec):zaK (sh0 t):=by
 unfold sh0
 cases h:t.sec.shards with
 | nil=>exact zb9
 | cons x l=>exact zbv (hs.sv x (by rw[h];exact .head _)).1
theorem zo4{u:Setup}{N:Int}{t:zi}(hs:SI u N t.sec)(i:Nat):zaK (t.sec.shards.getD i zw):=by
 by_cases h:i<t.sec.shards.length
 ·rw[zq h];exact zbv (hs.sv _ (zWH h)).1
 ·rw[zWG,zYk zo];exact zb9
theorem zq2(s:Shard)(mx now vis ep lim:Int):zaK (zcN s mx now vis ep lim).1:=by
 by_cases c:(zcN s mx now vis ep lim).2.2=0
 ·exact zbv (zE4 c).1
 ·have e:(zcN s mx now vis ep lim).1=zw:=by
     unfold zcN at c ⊢
     split
     ·rfl
     ·rename_i c1;rw[zWy c1] at c
      split
      ·rfl
      ·rename_i c2;rw[zWy c2] at c;exact (zVx mx (now+vis) ep lim (zu s.ready) s [] c).1
  rw[e];exact zb9
theorem zq1{t:zi}(h:(zdq t).2=0):zaK (zdq t).1:=by
 unfold zdq at h ⊢
 split
 ·rename_i c;rw[zWz c] at h;exact zbv (zE0 h).1
 ·rename_i c;rw[zWy c] at h
  split
  ·rename_i c2;rw[zWz c2] at h;exact zbv (zE3 h).1
  ·rename_i c2;rw[zWy c2] at h;exact zbv (zE1 h).1
def ziw(u:Setup)(N:Int)(s s':Section):Prop:=SI u N s'/\zed s s'/\s'.out.edits.length<=1
theorem zdE{u:Setup}{N:Int}{t:zi}{o:zb3}(hs:SI u N t.sec)(hp:t.sec.phase=4)(ho:OI t.sec o):ziw u N t.sec (za8 t o).sec:=by
 obtain⟨_,h2,h3,h4⟩:=zFI hs hp ho;exact⟨h2,h3,by show (zeg t.sec o).1.out.edits.length<=1;rw[h4];exact ho.ed⟩
theorem zTQ(K:Tok){u:Setup}{N:Int}{t:zi}(hs:SI u N t.sec)(hp:t.sec.phase=4)(hk:t.sec.shards.length=1):ziw u N t.sec (zc9 K t).1.sec:=by
 have h0:=ziq hs;unfold zc9;simp only
 split
 ·exact zdE (t:={ t with loaded:=0 }) hs hp hs.un
 split
 ·split
  ·exact zdE (t:={ t with loaded:=0,walk:=(ze9 t.walk (sh0 t).low (sh0 t).high).1 }) hs hp hs.un
  ·exact zdE (t:={ t with loaded:=2,walk:=(ze9 t.walk (sh0 t).low (sh0 t).high).1 }) hs hp hs.un
 ·exact zdE (t:={ t with loaded:=1 }) hs hp (hs.one hk (zlO h0 _))
theorem zRy{u:Setup}{N:Int}{t:zi}(hs:SI u N t.sec)(hp:t.sec.phase=4)(hk:t.sec.shards.length=1):ziw u N t.sec (zc8 t).1.sec:=by
 unfold zc8;simp only
 split
 ·exact zdE (t:={ t with loaded:=0 }) hs hp hs.un
 split
 ·exact zdE (t:={ t with loaded:=3 }) hs hp hs.un
 have hx:∀r:Shard×List Int×List zx,zaK r.1->OI t.sec (if 0<r.2.1.length\/0<r.2.2.length then { zU t.sec with shards:=[r.1],order:=[0] } else zU t.sec):=by
  intro r hr
  split
  ·exact hs.one hk hr
  ·exact hs.un
 have ho:=hx (zdx { t with loaded:=0 }) (zq2 _ _ _ _ _ _)
 split
 ·exact zdE (t:={ t with loaded:=1,walk:=_ }) hs hp ho
 split
 ·exact zdE (t:={ t with loaded:=2,walk:=_ }) hs hp ho
 ·exact zdE (t:={ t with loaded:=0,walk:=_ }) hs hp ho
theorem zT5{u:Setup}{N:Int}{t:zi}(hs:SI u N t.sec)(hp:t.sec.phase=4)(hk:t.sec.shards.length=1):ziw u N t.sec (zda t).1.sec:=by
 unfold zda;simp only
 split
 ·exact zdE hs hp hs.un
 ·by_cases c:(zdq t).2=0
  ·simp only[c,if_true];exact zdE hs hp (hs.one hk (zq1 c))
  ·simp only[c,if_false];exact zdE hs hp hs.un
theorem zgR{s:Shard}(h:zaa s=0):zV s=0:=by
 unfold zaa at h
 split at h
 ·rename_i c;exact absurd h c
 ·rename_i c;exact zWO.1 c
theorem zhu{s:Shard}(h:zV s=0):(zu s.ready).length<=12:=by
 have h1:zaI s.ready=0:=by
  unfold zV at h
  split at h
  ·rename_i c;exact absurd h c
  ·rename_i c;exact zWO.1 c
 obtain⟨q1,q2,q3,q4,q5,q6⟩:=zcV h1;rw[zgT];omega
theorem zrW{s:Shard}(h:zV s=0):(zaO s).length<=24:=by
 have h1:=zhu h;have h2:=(zbv h).2.1;unfold zaO;simp only[zWJ,zWM];omega
theorem zx0(s:Shard)(k:Int):(zeO s k).2.1.length<=12:=by
 unfold zeO
 split
 ·simp
 split
 ·simp
 rename_i c _;have:=zhu (zgR (zWO.1 c));show (zeN s.ready k).2.1.length<=12;unfold zeN
 split
 ·simp
 split
 ·simp
 simp only[zYY];omega
theorem zQm(r:zR)(m:Message):(pbD r m).1.size.toNat<=r.size.toNat+1:=by
 unfold pbD
 split
 ·simp only[rg,zWJ,zgT,zWI,zWK];omega
 ·simp [zar]
theorem zH5(lo hi:Int):∀(l:List Message) (r:zR),(zbB lo hi l r).size.toNat<=r.size.toNat+l.length:=by
 intro l
 induction l with
 | nil=>intro r;exact zW5 _
 | cons m l ih=>
  intro r;unfold zbB;simp only[zWI]
  split
  ·have:=ih (pbD r m).1;have:=zQm r m;omega
  ·have:=ih r;omega
theorem zFX(s:Shard)(mid:Int):(zaO (zde s mid).2.1).length<=24:=by
 have hl:=(znV s mid).2.2.1;have:(zu (zde s mid).2.1.ready).length<=12:=by
  rw[zgT];unfold zde
  split
  ·simp [zw]
  split
  ·simp [zw]
  rename_i c _;have h1:=zhu (zgR (zWO.1 c));have h2:=zH5 (zbD s.ready.cells.length (mid+1) s.high).1.low (zbD s.ready.cells.length (mid+1) s.high).1.high (zu s.ready) (zbD s.ready.cells.length (mid+1) s.high).1.ready;have h3:(zbD s.ready.cells.length (mid+1) s.high).1.ready.size=0:=by
   unfold zbD
   split
   ·rfl
   split
   ·rfl
   rfl
  rw[h3] at h2;simp only[zgf];simp only[Int.toNat_zero] at h2;omega
 unfold zaO;simp only[zWJ,zWM];omega
theorem zCk(k ep:Int):∀(l rest out:List Message),(zdt k ep l rest out).1.length+(zdt k ep l rest out).2.length=l.length+rest.length+out.length:=by
 intro l
 induction l with
 | nil=>intro rest out;simp [zdt]
 | cons m l ih=>
  intro rest out;unfold zdt
  split
  ·rw[ih];simp only[zWJ,zWI,zWK];omega
  ·rw[ih];simp only[zWJ,zWI,zWK];omega
theorem zsY(d:Dead)(k ep:Int):(zfV d k ep).1.l.length<=d.l.length/\(zfV d k ep).2.1.length<=d.l.length:=by
 have:=zCk k ep d.l [] [];simp only[zWK] at this;unfold zfV
 split
 ·simp [za3]
 split
 ·simp [za3]
 simp only;omega
theorem zEN(d:Dead)(ep:Int):(zgF d ep).1.l.length<=d.l.length:=by
 unfold zgF
 split
 ·simp [za3]
 split
 ·simp [za3]
 exact zXJ _ _
theorem zQ1(d:Dead)(l:List Message):(zhw d l).1.l.length<=d.l.length+l.length:=by
 unfold zhw
 split
 ·simp [za3]
 split
 ·simp [za3]
 split
 ·simp [za3]
 simp only[zWJ];omega
theorem ztS(s:Shard)(k ep lim:Int):(zeJ s k ep lim).2.1.length<=12:=by
 unfold zeJ
 split
 ·simp
 split
 ·simp
 rename_i c _;have h1:=zhu (zgR (zWO.1 c));have h2:=(ztR k ep lim (zu s.ready) s.ready []).2;simp only[zWK] at h2 ⊢;omega
theorem zRH{u:Setup}{N:Int}{t:zi}(hs:SI u N t.sec)(hp:t.sec.phase=4)(hk:t.sec.shards.length=1)(hn:t.sec.lock.cells.length=2):ziw u N t.sec (zcU t).1.sec:=by
 have hd:=hs.dv;have h0:=ziq hs;unfold zcU;simp only
 split
 ·exact zdE hs hp hs.un
 split
 ·exact zdE hs hp hs.un
 split
 ·exact zdE hs hp hs.un
 ·have:=zsY t.sec.dead (zfr t) t.sec.snap.epoch;exact zdE hs hp (hs.dead hk hn (znU h0 _) zo (.inr rfl) (by rw[zWM];omega))
theorem zsg(t:zi)(x y:Shard):zdK t x y=[x,y]\/zdK t x y=[y,x]:=by
 unfold zdK
 split
 ·exact .inl rfl
 ·exact .inr rfl
theorem zr8(t:zi):zdj t=[0,1]\/zdj t=[1,0]:=by
 unfold zdj
 split
 ·exact .inl rfl
 ·exact .inr rfl
theorem zzt{u:Setup}{N:Int}{t:zi}(hs:SI u N t.sec):zaK (zQ t):=by
 unfold zQ
 split
 ·exact zo4 hs 0
 ·exact zo4 hs 1
theorem zte{u:Setup}{N:Int}{t:zi}(hs:SI u N t.sec):zaK (zaD t):=by
 unfold zaD
 split
 ·exact zo4 hs 1
 ·exact zo4 hs 0
theorem zsO{u:Setup}{N:Int}{t:zi}(hs:SI u N t.sec)(hk:t.sec.shards.length=2)(hn:t.sec.lock.cells.length=2):OI t.sec (zdv t).1:=by
 unfold zdv;simp only
 split
 ·exact hs.un
 split
 ·exact hs.un
 ·exact hs.two hk hn (zNE (zzt hs) _) (znU (zte hs) _) (zr8 t) (zsg _ _ _) (by have:=zx0 (zQ t) (zhs (((zQ t).ready.size+1).tdiv 2) ((zaD t).ready.cells.length - zbl (zaD t)));omega) (by simp [zU])
theorem zsL{u:Setup}{N:Int}{t:zi}(hs:SI u N t.sec)(hk:t.sec.shards.length=2)(hn:t.sec.lock.cells.length=2):OI t.sec (zdu t).1:=by
 unfold zdu;simp only
 split
 ·exact hs.un
 ·have h:=znV (zQ t) (((zQ t).low+(zQ t).high).tdiv 2);have h2:=zFX (zQ t) (((zQ t).low+(zQ t).high).tdiv 2);exact hs.two hk hn h.1 h.2 (zr8 t) (zsg _ _ _) zo (by simp)
theorem zrR{u:Setup}{N:Int}{t:zi}(hs:SI u N t.sec)(hk:t.sec.shards.length=2)(hn:t.sec.lock.cells.length=2):OI t.sec (zdi t).1:=by
 unfold zdi;simp only
 split
 ·exact hs.un
 ·rename_i c;have hv:zV (zQ t)=0:=by
   have c:=zWO.1 c;unfold zg5 at c
   split at c
   ·rename_i c1;exact absurd c c1
   split at c
   ·rename_i c2;exact absurd c c2
   ·rename_i c2;exact zWO.1 c2
  have:=zrW hv;exact hs.two hk hn (zNF _) (zNG (zte hs) _) (zr8 t) (zsg _ _ _) zo (by simp)
theorem zsU{u:Setup}{N:Int}{t:zi}(hs:SI u N t.sec)(hk:t.sec.shards.length<=1):OI t.sec (zdb t).1:=by
 have hd:=hs.dv;have hc:=hs.lw.c1;unfold zdb;simp only
 split
 ·rename_i c
  split
  ·have:=zEN t.sec.dead t.sec.snap.epoch;have hu:=hs.un;refine { hu with dd:=by simp only;omega,ord:= ?_,nd:=by simp,ol:=by simp };intro i hi;rw[zW7.1 hi];omega
  ·exact hs.un
 rename_i c;have hk1:t.sec.shards.length=1:=by omega
 split
 ·exact hs.un
 split
 ·split
  ·exact hs.one hk1 (zND (ziq hs) _)
  ·exact hs.un
 ·split
  ·exact hs.un
  ·exact hs.one hk1 (zAj _ _ _ _)
theorem zpN{u:Setup}{N:Int}{t:zi}(hs:SI u N t.sec)(hk:t.sec.shards.length=1)(hn:t.sec.lock.cells.length=2):OI t.sec (zc0 t).1:=by
 have hd:=hs.dv;unfold zc0;simp only
 split
 ·exact hs.un
 split
 ·exact hs.un
 ·have h1:=ztS (sh0 t) (zgt t.sec.dead) t.sec.snap.epoch t.setup.limit;have h2:=zQ1 t.sec.dead (zeJ (sh0 t) (zgt t.sec.dead) t.sec.snap.epoch t.setup.limit).2.1;exact hs.dead hk hn (zNC (ziq hs) _ _ _) zo (.inl rfl) zo
def onP(k pc:Int):Prop:=pc≠0/\(k=1/\pc≠1/\pc≠2\/k=2/\pc≠2\/3<=k/\k<=5/\pc≠1\/8<=k)
structure zaT(u:Setup)(N:Int)(i:zaS)(s:Section):Prop where
 si:SI u N s
 ed:s.out.edits.length<=1
 c1:1<=i.kind/\i.kind<=5->∃c,0<=c/\c<u.slots/\s.lock.cells=[c]
 c8:i.kind=8->∃c,0<=c/\c<u.slots/\s.lock.cells=[c,u.slots]
 c9:9<=i.kind/\i.kind<=11->s.lock.cells=zdJ i.from_ i.to
 c12:12<=i.kind/\i.kind<=13->s.lock.cells=[i.from_]
 c14:i.kind=14->s.lock.cells=[i.from_,u.slots]
theorem zaT.keep{u:Setup}{N M:Int}{i:zaS}{s s':Section}(h:zaT u N i s)(h1:SI u M s')(h2:zed s s')(h3:s'.out.edits.length<=1):zaT u M i s':=by
 have e:=h2.cells;exact⟨h1,h3,by rw[e];exact h.c1,by rw[e];exact h.c8,by rw[e];exact h.c9,by rw[e];exact h.c12,by rw[e];exact h.c14⟩
theorem zaT.mono{u:Setup}{N M:Int}{i:zaS}{s:Section}(h:zaT u N i s)(hn:N<=M):zaT u M i s:=h.keep (h.si.mono hn) ⟨rfl,rfl⟩ h.ed
theorem zaT.dec{u:Setup}{N:Int}{i:zaS}{s s':Section}(h:zaT u N i s)(d:ziw u N s s'):zaT u N i s':=h.keep d.1 d.2.1 d.2.2
structure TI(u:Setup)(N:Int)(t:zi):Prop where
 nm:1<=t.number/\t.number<=200
 iv:zb4 t.inv u=0
 su:t.setup=u
 e0:0<=t.entry
 e1:t.done=false->t.entry<zc3 t.inv
 e2:(t.results.length:Int)=t.entry
 wk:0<=t.walk.next/\t.walk.next<65536/\0<=t.walk.covered/\t.walk.covered<=131072
 ld:0<=t.loaded/\t.loaded<=1073741824
 id:0<=t.id/\t.id<=1073741824+N
 hd:0<=t.handle.route/\t.handle.route<65536
 fs:(t.first.length:Int)<=u.slots/\(t.second.length:Int)<=u.slots
 di:t.dir.l.length<=65536/\t.dir.forward.length<=6
 nn:0<=N
 se:onP t.inv.kind t.pc->zaT u N t.inv t.sec
theorem TI.mono{u:Setup}{N M:Int}{t:zi}(h:TI u N t)(hn:N<=M):TI u M t:={ h with id:=⟨h.id.1,by have:=h.id.2;omega⟩,nn:=by have:=h.nn;omega,se:=fun q=>(h.se q).mono hn }
theorem zeE{u:Setup}(h:zav u=true):(1<=u.slots/\u.slots<=6)/\1<=u.limit/\u.limit<=8:=by
 unfold zav inI at h;simp only[zWS,decide_eq_true_eq] at h;omega
theorem zhk{i:zaS}{s:Setup}(h:zb4 i s=0)(hk:9<=i.kind/\i.kind<=11):(0<=i.from_/\i.from_<s.slots)/\(0<=i.to/\i.to<s.slots)/\i.from_≠i.to:=by
 unfold zb4 at h;rw[zWy zo,zWy zo,zWy zo,zWz hk] at h
 split at h
 ·cases h
 ·rename_i c;unfold inI at c;simp only[decide_eq_false_iff_not] at c;omega
theorem zh2{i:zaS}{s:Setup}(h:zb4 i s=0)(hk:i.kind=12\/i.kind=14):0<=i.from_/\i.from_<s.slots:=by
 unfold zb4 at h;rw[zWy zo,zWy zo,zWy zo,zWy zo,zWz hk] at h
 split at h
 ·cases h
 ·rename_i c;unfold inI at c;simp only[decide_eq_false_iff_not] at c;omega
theorem zqY{i:zaS}{s:Setup}(h:zb4 i s=0)(hk:i.kind=13):0<=i.from_/\i.from_<=s.slots:=by
 unfold zb4 at h;rw[zWy zo,zWy zo,zWy zo,zWy zo,zWy zo,zWz hk] at h
 split at h
 ·cases h
 ·omega
theorem zAa{i:zaS}{s:Setup}(h:zb4 i s=0):1<=i.kind/\i.kind<=14:=by
 unfold zb4 at h
 by_cases c:1<=i.kind/\i.kind<=14
 ·exact c
 ·rw[zWy zo,zWy zo,zWy zo,zWy zo,zWy zo,zWy zo,zWy zo] at h
  cases h
theorem zfo{u:Setup}{N:Int}{t:zi}(h:TI u N t)(hd:t.done=false)(r:Result)(n:Int):TI u N (zaY t r n):=by
 have h1:=h.e1 hd;have h0:=h.e0;have hf:=h.fs;have hn:=h.nn;unfold zaY;refine { nm:=h.nm,iv:=h.iv,su:=h.su,e0:=by simp only;omega,e1:= ?_,e2:= ?_,wk:=by simp [zC],ld:=by simp [zC],id:=⟨by simp [zC],by simp only[zC];omega⟩,hd:=by simp [zC],fs:=⟨by simp only[zC,zWK];omega,by simp only[zC,zWK];omega⟩,di:=by simp [zC],nn:=hn,se:=fun q=>absurd rfl q.1 }
 ·simp only;intro q
  split at q
  ·cases q
  ·omega
 ·simp only[zWJ,zWI,zWK];have:=h.e2;omega
theorem zle{c n:Int}(h:0<=c/\c<=n):zfv [c] n:=⟨List.pairwise_singleton _ _,fun x hx=>by rw[zW7.1 hx];exact h,by simp⟩
theorem ziD{c d n:Int}(h0:0<=c)(h1:c<d)(h2:d<=n):zfv [c,d] n:=
 ⟨by simpa using h1,fun x hx=>by simp only[zXe,zYB,zXZ] at hx;rcases hx with h|h<;>omega,by simp⟩
theorem ziE{a b n:Int}(h0:0<=a/\a<n)(h1:0<=b/\b<n)(h2:a≠b):zfv (zdJ a b) n:=by
 unfold zdJ
 split
 ·exact ziD zo zo zo
 ·exact ziD zo zo zo
theorem zmF{u:Setup}{N lim:Int}{cells:List Int}(hq:zav u=true)(hl:lim=u.limit)(hN:0<=N)(hc:zfv cells u.slots)(h1:1<=cells.length):SI u N (zcp cells lim).1/\(zcp cells lim).1.out.edits.length<=1/\(zcp cells lim).1.lock.cells=cells:=by
 have hb:=zeE hq;subst hl;obtain⟨_,q2,q3,_,_,q4⟩:=zTD (N:=N) hc hb.1.2 h1 hb.2 hN;exact⟨q2,by rw[q4];simp,q3⟩
theorem zcR{t:zi}{lo hi:Int}(h:zX t lo hi=0):t.done=false/\lo<=t.inv.kind/\t.inv.kind<=hi:=by
 unfold zX at h
 split at h
 ·cases h
 ·rename_i c
  split at h
  ·cases h
  ·exact⟨zY0.2 c,by omega,by omega⟩
theorem zht{k pc:Int}(h:6<=k/\k<=7):¬onP k pc:=by
 intro q;unfold onP at q;omega
theorem zQT{u:Setup}{a:zg}{t:zi}{n N:Int}(ha:AI u a)(ht:TI u N t)(e:(zdk a t n).2.2.2=0):AI u (zdk a t n).1/\TI u (N+1) (zdk a t n).2.1:=by
 have ht:=ht.mono (show N<=N+1 by omega);have hep:=ha.ep;unfold zdk at e ⊢
 by_cases c:zX t 6 6=0
 ·rw[zWy (fun q=>q c)] at e ⊢;obtain⟨g1,g2⟩:=zcR c
  by_cases c1:t.pc=0
  ·rw[zWz c1];have hl:TI u (N+1) { t with loaded:=a.epoch }:={ ht with ld:=⟨hep.1,by simp only;omega⟩ }
   split
   ·exact⟨ha,zfo hl g1 _ _⟩
   ·exact⟨ha,{ hl with se:=fun q=>absurd q (zht (by simp only;omega)) }⟩
  ·rw[zWy c1] at e ⊢;simp only at e ⊢;have hc:=ha.casWord 1 t.loaded (t.loaded+1);generalize casWord a 1 t.loaded (t.loaded+1)=r at *
   by_cases c2:r.2.2=0
   ·rw[zWy (fun q=>q c2)] at e ⊢
    split
    ·exact⟨hc c2,{ ht with se:=fun q=>absurd q (zht (by simp only;omega)) }⟩
    ·exact⟨hc c2,zfo ht g1 _ _⟩
   ·rw[zWz c2] at e;exact absurd e c2
 ·rw[zWz c] at e;exact absurd e c
theorem zAs{u:Setup}{a:zg}(ha:AI u a){i:Int}(h:(zaJ a i).2=0):0<=i/\i<u.slots:=by
 unfold zaJ at h
 split at h
 ·rename_i c;have:=zo7.1 c;have:=ha.sl;omega
 ·cases h
theorem zxT{u:Setup}{a:zg}{t:zi}{n N:Int}(ha:AI u a)(ht:TI u N t)(hn:0<=n/\n<=N+1)(e:(zaj a t n).2.2.2=0):AI u (zaj a t n).1/\TI u (N+1) (zaj a t n).2.1:=by
 have ht:=ht.mono (show N<=N+1 by omega);have hep:=ha.ep;have hfs:=ht.fs;have hid:=ht.id;unfold zaj at e ⊢
 by_cases c:zX t 7 7=0
 ·rw[zWy (fun q=>q c)] at e ⊢;obtain⟨g1,g2⟩:=zcR c
  by_cases c1:t.pc=0
  ·rw[zWz c1];exact⟨ha,{ ht with ld:=⟨hep.1,by simp only;omega⟩,fs:=⟨by simp only[zWK];omega,by simp only[zWK];omega⟩,se:=fun q=>absurd q (zht (by simp only;omega)) }⟩
  rw[zWy c1] at e ⊢
  by_cases c2:t.pc=1
  ·rw[zWz c2] at e ⊢;simp only at e ⊢;have hl:=zAs ha (i:=t.first.length);generalize zaJ a t.first.length=r at *
   by_cases c3:r.2=0
   ·rw[zWy (fun q=>q c3)];have:=hl c3;exact⟨ha,{ ht with fs:=⟨by simp only[zWJ,zWI,zWK];omega,hfs.2⟩,se:=fun q=>absurd q (zht (by simp only;omega)) }⟩
   ·rw[zWz c3] at e;exact absurd e c3
  rw[zWy c2] at e ⊢
  by_cases c4:t.pc=2
  ·rw[zWz c4] at e ⊢;simp only at e ⊢;have hl:=zAs ha (i:=t.second.length);generalize zaJ a t.second.length=r at *
   by_cases c3:r.2=0
   ·rw[zWy (fun q=>q c3)];have:=hl c3;exact⟨ha,{ ht with id:=by simp only;split<;>omega,fs:=⟨hfs.1,by simp only[zWJ,zWI,zWK];omega⟩,se:=fun q=>absurd q (zht (by simp only;omega)) }⟩
   ·rw[zWz c3] at e;exact absurd e c3
  rw[zWy c4] at e ⊢
  split
  ·exact⟨ha,{ ht with se:=fun q=>absurd q (zht (by simp only;omega)) }⟩
  ·exact⟨ha,zfo ht g1 _ _⟩
 ·rw[zWz c] at e;exact absurd e c
theorem zgi{u:Setup}{a:zg}{t:zi}{n N:Int}(ha:AI u a)(hs:zaT u N t.inv t.sec)(e:(goT a t n).2.2.2.2=0):
    AI u (goT a t n).1/\∃s,(goT a t n).2.1={ t with sec:=s }/\zaT u (N+1) t.inv s/\((goT a t n).2.2.1=true↔s.phase=4):=by
 obtain⟨h1,s,h2,h3,h4,h5,h6,_⟩:=zlC ha hs.si hs.ed e;exact⟨h1,s,h2,hs.keep h3 h4 (by rw[h5];exact hs.ed),h6⟩
theorem TI.sec{u:Setup}{N:Int}{t:zi}{s:Section}(ht:TI u N t)(hs:zaT u N t.inv s):TI u N { t with sec:=s }:={ ht with se:=fun _=>hs }
theorem zkc{u:Setup}{N:Int}{i:zaS}{s:Section}(h:zaT u N i s)(hk:1<=i.kind/\i.kind<=5)(hp:s.phase=4):s.shards.length=1:=by
 obtain⟨c,c0,c1,c2⟩:=h.c1 hk;have:=(h.si.ph.p4 hp).2.2;rw[this,c2,zAh c1]
theorem zkd{u:Setup}{N:Int}{i:zaS}{s:Section}(h:zaT u N i s)(hk:9<=i.kind/\i.kind<=11)(hv:zb4 i u=0)(hp:s.phase=4):s.shards.length=2/\s.lock.cells.length=2:=by
 have c:=h.c9 hk;have:=(h.si.ph.p4 hp).2.2;obtain⟨v1,v2,v3⟩:=zhk hv hk;rw[this,c];unfold zdJ
 split
 ·exact⟨znS v1.2 v2.2,rfl⟩
 ·exact⟨znS v2.2 v1.2,rfl⟩
theorem zAg{u:Setup}{N:Int}{i:zaS}{s:Section}(h:zaT u N i s)(hk:i.kind=8)(hp:s.phase=4):s.shards.length=1/\s.lock.cells.length=2:=by
 obtain⟨c,c0,c1,c2⟩:=h.c8 hk;have:=(h.si.ph.p4 hp).2.2;rw[this,c2];exact⟨znT c1,rfl⟩
theorem zAf{u:Setup}{N:Int}{i:zaS}{s:Section}(h:zaT u N i s)(hk:i.kind=14)(hv:zb4 i u=0)(hp:s.phase=4):s.shards.length=1/\s.lock.cells.length=2:=by
 have c:=h.c14 hk;have:=(h.si.ph.p4 hp).2.2;have v:=zh2 hv (.inr hk);rw[this,c];exact⟨znT v.2,rfl⟩
theorem zAe{u:Setup}{N:Int}{i:zaS}{s:Section}(h:zaT u N i s)(hk:12<=i.kind/\i.kind<=13)(hp:s.phase=4):s.shards.length<=1:=by
 have c:=h.c12 hk;have:=(h.si.ph.p4 hp).2.2;have q:=zi2 u.slots s.lock.cells;rw[c] at q this;simp only[zWI,zWK] at q;omega
theorem zmh {u:Setup} {a:zg} {t:zi} {n N lo hi:Int} {plan:zi->Pln} {cells:zi->List Int} (hu:zav u=true) (ha:AI u a) (ht:TI u N t) (hlo:9<=lo)
    (hc:∀t,TI u N t->lo<=t.inv.kind/\t.inv.kind<=hi->zfv (cells t) u.slots/\1<=(cells t).length/\∀s,SI u N s->s.out.edits.length<=1->s.lock.cells=cells t->zaT u N t.inv s)
    (ho:∀t,TI u (N+1) t->lo<=t.inv.kind/\t.inv.kind<=hi->zaT u (N+1) t.inv t.sec->t.sec.phase=4->OI t.sec (plan t).1)
    (e:(zaL plan lo hi cells a t n).2.2.2=0):AI u (zaL plan lo hi cells a t n).1/\TI u (N+1) (zaL plan lo hi cells a t n).2.1:=by
 unfold zaL at e ⊢
 by_cases c:zX t lo hi=0
 ·rw[zWy (fun q=>q c)] at e ⊢;obtain⟨g1,g2⟩:=zcR c;simp only at e ⊢;have key:∀t':zi,t'=(if t.pc=0 then zcc t (cells t) 1 else t)->t'.done=false/\t'.inv=t.inv/\TI u N t'/\zaT u N t'.inv t'.sec:=by
   intro t' h
   by_cases c1:t.pc=0
   ·rw[zWz c1] at h;subst h;obtain⟨a1,a2,a3⟩:=hc t ht g2;obtain⟨s1,s2,s3⟩:=zmF (N:=N) hu (show t.setup.limit=u.limit by rw[ht.su]) ht.nn a1 a2;have hS:=a3 _ s1 s2 s3;exact⟨g1,rfl,{ ht with se:=fun _=>hS },hS⟩
   ·rw[zWy c1] at h;subst h;exact⟨g1,rfl,ht,ht.se ⟨c1,by omega⟩⟩
  generalize (if t.pc=0 then zcc t (cells t) 1 else t)=t' at *;obtain⟨k1,k2,k3,k4⟩:=key t' rfl;have hg:=zgi (n:=n) ha k4;generalize goT a t' n=g at *
  by_cases c2:g.2.2.2.2=0
  ·rw[zWy (fun q=>q c2)];obtain⟨h1,s,h2,h3,h4⟩:=hg c2;have k5:=(k3.mono (show N<=N+1 by omega)).sec h3;rw[<- h2] at k5;have hd:g.2.1.done=false:=by rw[h2];exact k1
   have hi2:g.2.1.inv=t'.inv:=by rw[h2]
   have hsc:g.2.1.sec=s:=by rw[h2]
   split
   ·rename_i c3;refine⟨h1,?_⟩;have hS:zaT u (N+1) g.2.1.inv g.2.1.sec:=by rw[hi2,hsc];exact h3
    have h4':g.2.1.sec.phase=4:=by rw[hsc];exact h4.1 c3
    have hdec:=zdE (t:=g.2.1) hS.si h4' (ho g.2.1 k5 (by rw[hi2,k2];exact g2) hS h4');exact k5.sec (hS.dec hdec)
   ·split
    ·exact⟨h1,k5⟩
    ·exact⟨h1,zfo k5 hd _ _⟩
  ·rw[zWz c2] at e;exact absurd e c2
 ·rw[zWz c] at e;exact absurd e c
structure zdT(K:Tok):Prop where
 route:∀i,0<=K.route i/\K.route i<65536
 par:∀b,(K.par b).2=0->(0<=(K.par b).1.route/\(K.par b).1.route<65536)/\0<=(K.par b).1.hint
theorem zUJ{u:Setup}{a:zg}{t:zi}{n N:Int}(hu:zav u=true)(ha:AI u a)(ht:TI u N t)(e:(zaL zdv 9 9 zbg a t n).2.2.2=0):
    AI u (zaL zdv 9 9 zbg a t n).1/\TI u (N+1) (zaL zdv 9 9 zbg a t n).2.1:=by
 refine zmh hu ha ht zo (fun t ht hk=> ?_) (fun t ht hk hS hp=> ?_) e
 ·obtain⟨v1,v2,v3⟩:=zhk ht.iv zo;exact⟨ziE v1 v2 v3,by unfold zbg zdJ;split<;>simp,fun s s1 s2 s3=>⟨s1,s2,fun q=>by omega,fun q=>by omega,fun _=>s3,fun q=>by omega,fun q=>by omega⟩⟩
 ·obtain⟨k1,k2⟩:=zkd hS zo ht.iv hp;exact zsO hS.si k1 k2
theorem zUy{u:Setup}{a:zg}{t:zi}{n N:Int}(hu:zav u=true)(ha:AI u a)(ht:TI u N t)(e:(zaL zdu 10 10 zbg a t n).2.2.2=0):
    AI u (zaL zdu 10 10 zbg a t n).1/\TI u (N+1) (zaL zdu 10 10 zbg a t n).2.1:=by
 refine zmh hu ha ht zo (fun t ht hk=> ?_) (fun t ht hk hS hp=> ?_) e
 ·obtain⟨v1,v2,v3⟩:=zhk ht.iv zo;exact⟨ziE v1 v2 v3,by unfold zbg zdJ;split<;>simp,fun s s1 s2 s3=>⟨s1,s2,fun q=>by omega,fun q=>by omega,fun _=>s3,fun q=>by omega,fun q=>by omega⟩⟩
 ·obtain⟨k1,k2⟩:=zkd hS zo ht.iv hp;exact zsL hS.si k1 k2
theorem zOQ{u:Setup}{a:zg}{t:zi}{n N:Int}(hu:zav u=true)(ha:AI u a)(ht:TI u N t)(e:(zaL zdi 11 11 zbg a t n).2.2.2=0):
    AI u (zaL zdi 11 11 zbg a t n).1/\TI u (N+1) (zaL zdi 11 11 zbg a t n).2.1:=by
 refine zmh hu ha ht zo (fun t ht hk=> ?_) (fun t ht hk hS hp=> ?_) e
 ·obtain⟨v1,v2,v3⟩:=zhk ht.iv zo;exact⟨ziE v1 v2 v3,by unfold zbg zdJ;split<;>simp,fun s s1 s2 s3=>⟨s1,s2,fun q=>by omega,fun q=>by omega,fun _=>s3,fun q=>by omega,fun q=>by omega⟩⟩
 ·obtain⟨k1,k2⟩:=zkd hS zo ht.iv hp;exact zrR hS.si k1 k2
theorem zU7{u:Setup}{a:zg}{t:zi}{n N:Int}(hu:zav u=true)(ha:AI u a)(ht:TI u N t)(e:(zaL zdb 12 13 (fun t=>[t.inv.from_]) a t n).2.2.2=0):
    AI u (zaL zdb 12 13 (fun t=>[t.inv.from_]) a t n).1/\TI u (N+1) (zaL zdb 12 13 (fun t=>[t.inv.from_]) a t n).2.1:=by
 refine zmh hu ha ht zo (fun t ht hk=> ?_) (fun t ht hk hS hp=> ?_) e
 ·have v:0<=t.inv.from_/\t.inv.from_<=u.slots:=by
     by_cases h:t.inv.kind=12
     ·have:=zh2 ht.iv (.inl h);omega
     ·exact zqY ht.iv zo
  exact⟨zle v,by simp,fun s s1 s2 s3=>⟨s1,s2,fun q=>by omega,fun q=>by omega,fun q=>by omega,fun _=>s3,fun q=>by omega⟩⟩
 ·exact zsU hS.si (zAe hS zo hp)
theorem zEd{u:Setup}{a:zg}{t:zi}{n N:Int}(hu:zav u=true)(ha:AI u a)(ht:TI u N t)(e:(zaL zc0 14 14 (fun t=>[t.inv.from_,t.setup.slots]) a t n).2.2.2=0):
    AI u (zaL zc0 14 14 (fun t=>[t.inv.from_,t.setup.slots]) a t n).1/\TI u (N+1) (zaL zc0 14 14 (fun t=>[t.inv.from_,t.setup.slots]) a t n).2.1:=by
 refine zmh hu ha ht zo (fun t ht hk=> ?_) (fun t ht hk hS hp=> ?_) e
 ·have v:=zh2 ht.iv (.inr zo);rw[ht.su];exact⟨ziD v.1 v.2 zo,by simp,fun s s1 s2 s3=>⟨s1,s2,fun q=>by omega,fun q=>by omega,fun q=>by omega,fun q=>by omega,fun _=>s3⟩⟩
 ·obtain⟨k1,k2⟩:=zAf hS zo ht.iv hp;exact zpN hS.si k1 k2
theorem zRK{u:Setup}{a:zg}{t:zi}{n N:Int}(hu:zav u=true)(ha:AI u a)(ht:TI u N t)(e:(zdm a t n).2.2.2=0):AI u (zdm a t n).1/\TI u (N+1) (zdm a t n).2.1:=by
 unfold zdm at e ⊢
 by_cases c:zX t 8 8=0
 ·rw[zWy (fun q=>q c)] at e ⊢;obtain⟨g1,g2⟩:=zcR c
  by_cases c1:t.pc=0
  ·rw[zWz c1];have hh:=znO ha.dv t.inv.home;rw[ha.df] at hh;have hsl:=ha.sl;have ht:=ht.mono (show N<=N+1 by omega);obtain⟨s1,s2,s3⟩:=zmF (N:=N+1) (lim:=t.setup.limit) (cells:=[zdf a.dir t.inv.home,t.setup.slots]) hu (by rw[ht.su]) ht.nn (by rw[ht.su];exact ziD hh.1 zo zo) (by simp);refine⟨ha,{ ht with di:=⟨zfB ha.dv,(ziP ha.dv).2.1⟩,se:=fun _=>⟨s1,s2,fun q=> ?_,fun _=>⟨zdf a.dir t.inv.home,hh.1,by omega,?_⟩,fun q=> ?_,fun q=> ?_,fun q=> ?_⟩ }⟩
   ·simp only[zcc] at q;omega
   ·show (zcp _ _).1.lock.cells=_;rw[s3,ht.su]
   ·simp only[zcc] at q;omega
   ·simp only[zcc] at q;omega
   ·simp only[zcc] at q;omega
  rw[zWy c1] at e ⊢;simp only at e ⊢;have k4:=ht.se ⟨c1,by omega⟩;have hg:=zgi (n:=n) ha k4;generalize goT a t n=g at *
  by_cases c2:g.2.2.2.2=0
  ·rw[zWy (fun q=>q c2)];obtain⟨h1,s,h2,h3,h4⟩:=hg c2;have k5:=(ht.mono (show N<=N+1 by omega)).sec h3;rw[<- h2] at k5;have hd:g.2.1.done=false:=by rw[h2];exact g1
   have hi2:g.2.1.inv=t.inv:=by rw[h2]
   have hsc:g.2.1.sec=s:=by rw[h2]
   split
   ·rename_i c3;refine⟨h1,?_⟩;have hS:zaT u (N+1) g.2.1.inv g.2.1.sec:=by rw[hi2,hsc];exact h3
    have h4':g.2.1.sec.phase=4:=by rw[hsc];exact h4.1 c3
    obtain⟨l1,l2⟩:=zAg hS (by rw[hi2];omega) h4';have hdec:=zRH (t:=g.2.1) hS.si h4' l1 l2;have e1:(zcU g.2.1).1={ g.2.1 with sec:=(zcU g.2.1).1.sec }:=by
     unfold zcU;simp only
     split
     ·rfl
     split
     ·rfl
     split<;>rfl
    rw[e1];exact k5.sec (hS.dec hdec)
   ·split
    ·exact⟨h1,k5⟩
    split
    ·exact⟨h1,{ k5 with se:=fun q=>absurd rfl q.1 }⟩
    ·exact⟨h1,zfo k5 hd _ _⟩
  ·rw[zWz c2] at e;exact absurd e c2
 ·rw[zWz c] at e;exact absurd e c
def zg8(w:zfd):Prop:=0<=w.next/\w.next<65536/\0<=w.covered/\w.covered<=131072
theorem zC1(r:Int):zg8 (zg6 r).1:=by
 unfold zg6 zg8
 split
 ·simp [zgx]
 ·simp only;omega
theorem zmW(w:zfd)(lo hi:Int):zg8 (ze9 w lo hi).1:=by
 unfold ze9 zg8
 split
 ·simp [zgx]
 ·rename_i c;have e:(hi+1).tmod 65536=(hi+1) % 65536:=zYQ zo;simp only[e];omega
theorem TI.one{u:Setup}{N:Int}{t:zi}(hu:zav u=true)(ht:TI u N t)(hk:1<=t.inv.kind/\t.inv.kind<=5){c:Int}(h0:0<=c)(h1:c<u.slots)(pc:Int):TI u N (zcc t [c] pc):=by
 obtain⟨s1,s2,s3⟩:=zmF (N:=N) (lim:=t.setup.limit) (cells:=[c]) hu (by rw[ht.su]) ht.nn (zle zo) (by simp);refine { ht with se:=fun _=>⟨s1,s2,fun _=>⟨c,h0,h1,s3⟩,fun q=> ?_,fun q=> ?_,fun q=> ?_,fun q=> ?_⟩ }<;>(simp only[zcc] at q;omega)
theorem TI.look {u:Setup} {N:Int} {a:zg} {t:zi} (hu:zav u=true) (ha:AI u a) (ht:TI u N t) (hk:1<=t.inv.kind/\t.inv.kind<=5) {r:Int} (h0:0<=r) (h1:r<65536) (pc:Int)
    (hoff:¬onP t.inv.kind t.pc):TI u N (zho a t r pc):=by
 have hh:=zsd ha.dv h0 h1;rw[ha.df] at hh;have hsl:=ha.sl;have h2:TI u N { t with dir:=a.dir,slot:=zeu a.dir r }:={ ht with di:=⟨zfB ha.dv,(ziP ha.dv).2.1⟩,se:=fun q=>absurd q hoff };exact h2.one hu hk hh.1 zo pc
theorem TI.dec{u:Setup}{N:Int}{t:zi}{s:Section}{w:zfd}{l:Int}(ht:TI u N t)(hS:zaT u N t.inv t.sec)(hd:ziw u N t.sec s)(hw:zg8 w)(hl:0<=l/\l<=1073741824):TI u N { t with sec:=s,walk:=w,loaded:=l }:=
 { ht with wk:=hw,ld:=hl,se:=fun _=>hS.dec hd }
theorem zB5(K:Tok)(t:zi)(hw:zg8 t.walk):∃w l,(zc9 K t).1={ t with sec:=(zc9 K t).1.sec,walk:=w,loaded:=l }/\zg8 w/\0<=l/\l<=1073741824:=by
 unfold zc9;simp only
 split
 ·exact⟨_,_,rfl,hw,by simp⟩
 split
 ·split
  ·exact⟨_,_,rfl,zmW _ _ _,by simp⟩
  ·exact⟨_,_,rfl,zmW _ _ _,by simp⟩
 ·exact⟨_,_,rfl,hw,by simp⟩
theorem zBE(t:zi)(hw:zg8 t.walk):∃w l,(zc8 t).1={ t with sec:=(zc8 t).1.sec,walk:=w,loaded:=l }/\zg8 w/\0<=l/\l<=1073741824:=by
 unfold zc8;simp only
 split
 ·exact⟨_,_,rfl,hw,by simp⟩
 split
 ·exact⟨_,_,rfl,hw,by simp⟩
 split
 ·exact⟨_,_,rfl,zmW _ _ _,by simp⟩
 split
 ·exact⟨_,_,rfl,zmW _ _ _,by simp⟩
 ·exact⟨_,_,rfl,zmW _ _ _,by simp⟩
theorem zCa(t:zi):(zda t).1={ t with sec:=(zda t).1.sec }:=by
 unfold zda;simp only
 split<;>rfl
theorem zTT{K:Tok}(hK:zdT K){u:Setup}{a:zg}{t:zi}{n N:Int}(hu:zav u=true)(ha:AI u a)(ht:TI u N t)(e:(zdp K a t n).2.2.2=0):AI u (zdp K a t n).1/\TI u (N+1) (zdp K a t n).2.1:=by
 have hni:=ha.ni;unfold zdp at e ⊢
 by_cases c:zX t 1 1=0
 ·rw[zWy (fun q=>q c)] at e ⊢;obtain⟨g1,g2⟩:=zcR c;have hM:=ht.mono (show N<=N+1 by omega)
  by_cases c1:t.pc=0
  ·rw[zWz c1];have hl:TI u (N+1) { t with loaded:=a.nextID }:={ hM with ld:=⟨by simp only;omega,by simp only;omega⟩ }
   split
   ·exact⟨ha,zfo hl g1 _ _⟩
   ·exact⟨ha,{ hl with se:=fun q=>by simp only[onP] at q;omega }⟩
  rw[zWy c1] at e ⊢
  by_cases c2:t.pc=1
  ·rw[zWz c2] at e ⊢;simp only at e ⊢;have hc:=ha.casWord 3 t.loaded (t.loaded+1);generalize casWord a 3 t.loaded (t.loaded+1)=r at *
   by_cases c3:r.2.2=0
   ·rw[zWy (fun q=>q c3)];refine⟨hc c3,?_⟩;have hld:=hM.ld;have hnn:=hM.nn;show TI u (N+1) (if r.2.1=true then _ else _)
    split
    ·exact { hM with id:=⟨hld.1,by simp only;omega⟩,wk:=zC1 _,se:=fun q=>by simp only[onP] at q;omega }
    ·exact { hM with se:=fun q=>absurd rfl q.1 }
   ·rw[zWz c3] at e;exact absurd e c3
  rw[zWy c2] at e ⊢
  by_cases c3:t.pc=2
  ·rw[zWz c3];exact⟨ha,hM.look hu ha zo hM.wk.1 hM.wk.2.1 3 (fun q=>by unfold onP at q;omega)⟩
  rw[zWy c3] at e ⊢;simp only at e ⊢;have k4:=ht.se ⟨c1,by omega⟩;have hg:=zgi (n:=n) ha k4;generalize goT a t n=g at *
  by_cases c4:g.2.2.2.2=0
  ·rw[zWy (fun q=>q c4)];obtain⟨h1,s,h2,h3,h4⟩:=hg c4;have k5:=hM.sec h3;rw[<- h2] at k5;have hd:g.2.1.done=false:=by rw[h2];exact g1
   have hi2:g.2.1.inv=t.inv:=by rw[h2]
   have hsc:g.2.1.sec=s:=by rw[h2]
   split
   ·rename_i c5;refine⟨h1,?_⟩;have hS:zaT u (N+1) g.2.1.inv g.2.1.sec:=by rw[hi2,hsc];exact h3
    have h4':g.2.1.sec.phase=4:=by rw[hsc];exact h4.1 c5
    have hdec:=zTQ K (t:=g.2.1) hS.si h4' (zkc hS (by rw[hi2];omega) h4');obtain⟨w,l,e1,e2,e3⟩:=zB5 K g.2.1 k5.wk;rw[e1];exact k5.dec hS hdec e2 e3
   ·split
    ·exact⟨h1,k5⟩
    split
    ·exact⟨h1,zfo k5 hd _ _⟩
    split
    ·exact⟨h1,zfo k5 hd _ _⟩
    ·exact⟨h1,{ k5 with se:=fun q=>by simp only[onP] at q;rw[hi2] at q;omega }⟩
  ·rw[zWz c4] at e;exact absurd e c4
 ·rw[zWz c] at e;exact absurd e c
theorem zRB{K:Tok}{u:Setup}{a:zg}{t:zi}{n N:Int}(hu:zav u=true)(ha:AI u a)(ht:TI u N t)(e:(zdl K a t n).2.2.2=0):AI u (zdl K a t n).1/\TI u (N+1) (zdl K a t n).2.1:=by
 unfold zdl at e ⊢
 by_cases c:zX t 2 2=0
 ·rw[zWy (fun q=>q c)] at e ⊢;obtain⟨g1,g2⟩:=zcR c;have hM:=ht.mono (show N<=N+1 by omega)
  by_cases c1:t.pc=0
  ·rw[zWz c1];have hh:=znO ha.dv t.inv.home;rw[ha.df] at hh;have hsl:=ha.sl;have h2:TI u (N+1) { t with dir:=a.dir,slot:=zdf a.dir t.inv.home,walk:=(zg6 (zkY a.dir (zdf a.dir t.inv.home)).1.low).1 }:=
    { hM with di:=⟨zfB ha.dv,(ziP ha.dv).2.1⟩,wk:=zC1 _,se:=fun q=>absurd c1 q.1 }
   exact⟨ha,h2.one hu (by simp only;omega) hh.1 zo 1⟩
  rw[zWy c1] at e ⊢
  by_cases c3:t.pc=2
  ·rw[zWz c3];exact⟨ha,hM.look hu ha zo hM.wk.1 hM.wk.2.1 1 (fun q=>by unfold onP at q;omega)⟩
  rw[zWy c3] at e ⊢;simp only at e ⊢;have k4:=ht.se ⟨c1,by omega⟩;have hg:=zgi (n:=n) ha k4;generalize goT a t n=g at *
  by_cases c4:g.2.2.2.2=0
  ·rw[zWy (fun q=>q c4)];obtain⟨h1,s,h2,h3,h4⟩:=hg c4;have k5:=hM.sec h3;rw[<- h2] at k5;have hd:g.2.1.done=false:=by rw[h2];exact g1
   have hi2:g.2.1.inv=t.inv:=by rw[h2]
   have hsc:g.2.1.sec=s:=by rw[h2]
   split
   ·rename_i c5;refine⟨h1,?_⟩;have hS:zaT u (N+1) g.2.1.inv g.2.1.sec:=by rw[hi2,hsc];exact h3
    have h4':g.2.1.sec.phase=4:=by rw[hsc];exact h4.1 c5
    have hdec:=zRy (t:=g.2.1) hS.si h4' (zkc hS (by rw[hi2];omega) h4');obtain⟨w,l,e1,e2,e3⟩:=zBE g.2.1 k5.wk;rw[e1];exact k5.dec hS hdec e2 e3
   ·split
    ·exact⟨h1,k5⟩
    split
    ·exact⟨h1,zfo k5 hd _ _⟩
    split
    ·exact⟨h1,zfo k5 hd _ _⟩
    split
    ·exact⟨h1,zfo k5 hd _ _⟩
    ·exact⟨h1,{ k5 with se:=fun q=>by simp only[onP] at q;rw[hi2] at q;omega }⟩
  ·rw[zWz c4] at e;exact absurd e c4
 ·rw[zWz c] at e;exact absurd e c
theorem zT8{K:Tok}(hK:zdT K){u:Setup}{a:zg}{t:zi}{n N:Int}(hu:zav u=true)(ha:AI u a)(ht:TI u N t)(e:(zdr K a t n).2.2.2=0):AI u (zdr K a t n).1/\TI u (N+1) (zdr K a t n).2.1:=by
 unfold zdr at e ⊢
 by_cases c:zX t 3 5=0
 ·rw[zWy (fun q=>q c)] at e ⊢;obtain⟨g1,g2⟩:=zcR c;have hM:=ht.mono (show N<=N+1 by omega)
  by_cases c1:t.pc=0
  ·rw[zWz c1];simp only;have hp:=hK.par (t.inv.tokens.getD t.entry.toNat []);generalize K.par (t.inv.tokens.getD t.entry.toNat [])=h at *
   by_cases c2:h.2=0
   ·rw[zWy (fun q=>q c2)];obtain⟨p1,p2⟩:=hp c2;have h2:TI u (N+1) { t with handle:=h.1,pc:=1 }:={ hM with hd:=p1,se:=fun q=>by simp only[onP] at q;omega };refine⟨ha,?_⟩;show TI u (N+1) (if h.1.hint<t.setup.slots then _ else _)
    split
    ·rename_i c3;rw[ht.su] at c3;exact h2.one hu (by simp only;omega) p2 c3 2
    ·exact h2
   ·rw[zWz c2];exact⟨ha,zfo hM g1 _ _⟩
  rw[zWy c1] at e ⊢
  by_cases c3:t.pc=1
  ·rw[zWz c3];exact⟨ha,hM.look hu ha zo hM.hd.1 hM.hd.2 2 (fun q=>by unfold onP at q;omega)⟩
  rw[zWy c3] at e ⊢;simp only at e ⊢;have k4:=ht.se ⟨c1,by omega⟩;have hg:=zgi (n:=n) ha k4;generalize goT a t n=g at *
  by_cases c4:g.2.2.2.2=0
  ·rw[zWy (fun q=>q c4)];obtain⟨h1,s,h2,h3,h4⟩:=hg c4;have k5:=hM.sec h3;rw[<- h2] at k5;have hd:g.2.1.done=false:=by rw[h2];exact g1
   have hi2:g.2.1.inv=t.inv:=by rw[h2]
   have hsc:g.2.1.sec=s:=by rw[h2]
   split
   ·rename_i c5;refine⟨h1,?_⟩;have hS:zaT u (N+1) g.2.1.inv g.2.1.sec:=by rw[hi2,hsc];exact h3
    have h4':g.2.1.sec.phase=4:=by rw[hsc];exact h4.1 c5
    have hdec:=zT5 (t:=g.2.1) hS.si h4' (zkc hS (by rw[hi2];omega) h4');have e1:=zCa g.2.1;rw[e1];exact k5.sec (hS.dec hdec)
   ·split
    ·exact⟨h1,k5⟩
    split
    ·exact⟨h1,{ k5 with se:=fun q=>by simp only[onP] at q;rw[hi2] at q;omega }⟩
    ·exact⟨h1,zfo k5 hd _ _⟩
  ·rw[zWz c4] at e;exact absurd e c4
 ·rw[zWz c] at e;exact absurd e c
theorem zCA{K:Tok}(hK:zdT K){u:Setup}{a:zg}{t:zi}{n N:Int}(hu:zav u=true)(ha:AI u a)(ht:TI u N t)(hn:0<=n/\n<=N+1)(e:(zaQ K a t n).2.2.2=0):AI u (zaQ K a t n).1/\TI u (N+1) (zaQ K a t n).2.1:=by
 unfold zaQ at e ⊢
 by_cases c0:t.done=true
 ·rw[zWz c0] at e;cases e
 rw[zWy c0] at e ⊢
 by_cases c1:t.inv.kind=1
 ·rw[zWz c1] at e ⊢; exact zTT hK hu ha ht e
 rw[zWy c1] at e ⊢
 by_cases c2:t.inv.kind=2
 ·rw[zWz c2] at e ⊢; exact zRB hu ha ht e
 rw[zWy c2] at e ⊢
 by_cases c3:3<=t.inv.kind/\t.inv.kind<=5
 ·rw[zWz c3] at e ⊢; exact zT8 hK hu ha ht e
 rw[zWy c3] at e ⊢
 by_cases c6:t.inv.kind=6
 ·rw[zWz c6] at e ⊢; exact zQT ha ht e
 rw[zWy c6] at e ⊢
 by_cases c7:t.inv.kind=7
 ·rw[zWz c7] at e ⊢; exact zxT ha ht hn e
 rw[zWy c7] at e ⊢
 by_cases c8:t.inv.kind=8
 ·rw[zWz c8] at e ⊢; exact zRK hu ha ht e
 rw[zWy c8] at e ⊢
 by_cases c9:t.inv.kind=9
 ·rw[zWz c9] at e ⊢; exact zUJ hu ha ht e
 rw[zWy c9] at e ⊢
 by_cases c10:t.inv.kind=10
 ·rw[zWz c10] at e ⊢; exact zUy hu ha ht e
 rw[zWy c10] at e ⊢
 by_cases c11:t.inv.kind=11
 ·rw[zWz c11] at e ⊢; exact zOQ hu ha ht e
 rw[zWy c11] at e ⊢
 by_cases c12:t.inv.kind=12\/t.inv.kind=13
 ·rw[zWz c12] at e ⊢; exact zU7 hu ha ht e
 rw[zWy c12] at e ⊢
 by_cases c14:t.inv.kind=14
 ·rw[zWz c14] at e ⊢; exact zEd hu ha ht e
 rw[zWy c14] at e
 cases e
theorem zCq{u:Setup}{number:Int}{i:zaS}{n N:Int}(hN:0<=N)(e:(zcz number i u n).2=0):TI u N (zcz number i u n).1:=by
 unfold zcz at e ⊢
 by_cases c1:number<1\/200<number\/n<0
 ·rw[zWz c1] at e;cases e
 rw[zWy c1] at e ⊢
 by_cases c2:zav u=false
 ·rw[zWz c2] at e;cases e
 rw[zWy c2] at e ⊢
 by_cases c3:zb4 i u≠0
 ·rw[zWz c3] at e;exact absurd e c3
 rw[zWy c3];have c3:=zWO.1 c3;have hk:=zAa c3;have hb:=zeE (zZH c2);refine { nm:=by simp only;omega,iv:=c3,su:=rfl,e0:=by simp [zC],e1:=fun _=> ?_,e2:=by simp [zC],wk:=by simp [zC],ld:=by simp [zC],id:=⟨by simp [zC],by simp only[zC];omega⟩,hd:=by simp [zC],fs:=⟨by simp only[zC,zWK];omega,by simp only[zC,zWK];omega⟩,di:=by simp [zC],nn:=hN,se:=fun q=>absurd rfl q.1 };simp only[zC];unfold zc3;unfold zb4 at c3
 by_cases d1:i.kind=1
 ·rw[zWz d1] at c3 ⊢
  split at c3
  ·cases c3
  ·omega
 rw[zWy d1] at c3 ⊢
 by_cases d3:3<=i.kind/\i.kind<=5
 ·rw[zWz d3];rw[zWy zo,zWz d3] at c3
  split at c3
  ·cases c3
  ·omega
 ·rw[zWy d3];omega
end Go.Proofs.YtjalkkalhdnplaaGreat

namespace Go.Proofs.YtjalkkalhdnplaaGreat
open Go Go.Sim
theorem zf2(B:Int):LM B []:=fun m hm=>(by cases hm)
theorem LM.app{B:Int}{a b:List Message}(h1:LM B a)(h2:LM B b):LM B (a++b):=fun m hm=>(zW3.1 hm).elim (h1 m) (h2 m)
theorem RM.rmP{B:Int}(hB:0<=B)(ep:Int):∀(l:List Message) (r:zR),RM B r->RM B (rmP ep l r):=by
 intro l
 induction l with
 | nil=>intro r h;exact h
 | cons m l ih=>
  intro r h;unfold Go.Proofs.YtjalkkalhdnplaaGreat.rmP
  split
  ·exact ih _ (h.rm hB _).1
  ·exact ih _ h
theorem TM.relP{B:Int}(hB:0<=B)(ep:Int):∀(l:List zx) (t:Table),TM B t->TM B (relP ep l t):=by
 intro l
 induction l with
 | nil=>intro t h;exact h
 | cons y l ih=>
  intro t h;unfold Go.Proofs.YtjalkkalhdnplaaGreat.relP
  split
  ·exact ih _ (h.rel hB _).1
  ·exact ih _ h
theorem SM.clean{B:Int}{s:Shard}(h:SM B s)(hB:0<=B)(ep:Int):SM B (zgG s ep).1:=by
 unfold zgG
 split
 ·exact zbn B
 split
 ·exact zbn B
 ·exact⟨RM.rmP hB _ _ _ h.1,TM.relP hB _ _ _ h.2⟩
theorem zpu(B n:Int):SM B (zc4 n).1:=by
 unfold zc4
 split
 ·exact zbn B
 ·exact⟨fun m hm=>by simp [zu] at hm,zjE B⟩
theorem LM.split{B k ep:Int}:∀(l rest out:List Message),LM B l->LM B rest->LM B out->LM B (zdt k ep l rest out).1/\LM B (zdt k ep l rest out).2:=by
 intro l
 induction l with
 | nil=>intro rest out _ h1 h2;exact⟨h1,h2⟩
 | cons m l ih=>
  intro rest out hl h1 h2;have hl2:LM B l:=fun x hx=>hl x (.tail _ hx);have hm:LM B [m]:=fun x hx=>by rw[zW7.1 hx];exact hl m (.head _)
  unfold zdt
  split
  ·exact ih _ _ hl2 h1 (h2.app hm)
  ·exact ih _ _ hl2 (h1.app hm) h2
theorem LM.take{B:Int}{d:Dead}(h:LM B d.l)(k ep:Int):LM B (zfV d k ep).1.l/\LM B (zfV d k ep).2.1:=by
 unfold zfV
 split
 ·exact⟨zf2 B,zf2 B⟩
 split
 ·exact⟨zf2 B,zf2 B⟩
 ·exact LM.split _ _ _ h (zf2 B) (zf2 B)
theorem LM.clean{B:Int}{d:Dead}(h:LM B d.l)(ep:Int):LM B (zgF d ep).1.l:=by
 unfold zgF
 split
 ·exact zf2 B
 split
 ·exact zf2 B
 ·exact fun m hm=>h m (zX4.1 hm).1
theorem LM.put{B:Int}{d:Dead}{l:List Message}(h:LM B d.l)(hl:LM B l):LM B (zhw d l).1.l:=by
 unfold zhw
 split
 ·exact zf2 B
 split
 ·exact zf2 B
 split
 ·exact zf2 B
 ·exact h.app hl
theorem LM.revive{B:Int}{l:List Message}(h:LM B l):LM B (l.map zbN):=by
 intro m hm;obtain⟨x,hx,rfl⟩:=zWP.1 hm;exact h x hx
def OS(s:Section)(o:zb3):Prop:=(∀x∈o.shards,SM s.snap.epoch x)/\LM s.snap.epoch o.dead.l
structure EI(s:Section):Prop where
 b:0<=s.snap.epoch
 sh:∀x∈s.shards,SM s.snap.epoch x
 dd:LM s.snap.epoch s.dead.l
theorem EI.un{s:Section}(h:EI s):OS s (zU s):=⟨h.sh,h.dd⟩
theorem EI.one{s:Section}(h:EI s){x:Shard}(hx:SM s.snap.epoch x):OS s { zU s with shards:=[x],order:=[0] }:=⟨fun y hy=>by rw[zW7.1 hy];exact hx,h.dd⟩
theorem EI.at{s:Section}(h:EI s)(i:Nat):SM s.snap.epoch (s.shards.getD i zw):=by
 by_cases c:i<s.shards.length
 ·exact h.sh _ (znJ c)
 ·rw[zWG,zYk zo];exact zbn _
theorem LI.ei{u:Setup}{N:Int}{a:zg}{k:Int}{s:Section}(hs:SI u N s)(hl:LI u a k s)(hp:s.phase=4):EI s:=⟨hs.sn.1.1,(hl.e4 zo zo).2.1,(hl.e4 zo zo).2.2⟩
theorem zO9{B:Int}(hB:0<=B)(id r now:Int)(b:List UInt8):(zjd id r B now b).1.epoch<=B:=by
 unfold zjd
 split
 ·exact hB
 ·exact zXh _
section
variable {u:Setup} {N:Int} {a:zg} {k:Int} {t:zi} (hs:SI u N t.sec) (hl:LI u a k t.sec) (hp:t.sec.phase=4)
include hs hl hp
theorem zdF{o:zb3}(ho:OI t.sec o)(h:OS t.sec o):LI u a k (za8 t o).sec:=zFJ hs hl hp ho h.1 h.2
theorem zTU(K:Tok)(hk:t.sec.shards.length=1):LI u a k (zc9 K t).1.sec:=by
 have h0:=ziq hs;have hE:=hl.ei hs hp;unfold zc9;simp only
 split
 ·exact zdF (t:={ t with loaded:=0 }) hs hl hp hs.un hE.un
 split
 ·split
  ·exact zdF (t:={ t with loaded:=0,walk:=(ze9 t.walk (sh0 t).low (sh0 t).high).1 }) hs hl hp hs.un hE.un
  ·exact zdF (t:={ t with loaded:=2,walk:=(ze9 t.walk (sh0 t).low (sh0 t).high).1 }) hs hl hp hs.un hE.un
 ·exact zdF (t:={ t with loaded:=1 }) hs hl hp (hs.one hk (zlO h0 _)) (hE.one ((hE.at 0).put (zO9 hE.b _ _ _ _)))
theorem zRC(hk:t.sec.shards.length=1):LI u a k (zc8 t).1.sec:=by
 have hE:=hl.ei hs hp;unfold zc8;simp only
 split
 ·exact zdF (t:={ t with loaded:=0 }) hs hl hp hs.un hE.un
 split
 ·exact zdF (t:={ t with loaded:=3 }) hs hl hp hs.un hE.un
 have hx:∀r:Shard×List Int×List zx,zaK r.1->SM t.sec.snap.epoch r.1->OI t.sec (if 0<r.2.1.length\/0<r.2.2.length then { zU t.sec with shards:=[r.1],order:=[0] } else zU t.sec)/\OS t.sec (if 0<r.2.1.length\/0<r.2.2.length then { zU t.sec with shards:=[r.1],order:=[0] } else zU t.sec):=by
  intro r hr hm
  split
  ·exact⟨hs.one hk hr,hE.one hm⟩
  ·exact⟨hs.un,hE.un⟩
 have ho:=hx (zdx { t with loaded:=0 }) (zq2 _ _ _ _ _ _) (((hE.at 0).expi hE.b _ _ _).take hE.b _ _ _ _ _)
 split
 ·exact zdF (t:={ t with loaded:=1,walk:=_ }) hs hl hp ho.1 ho.2
 split
 ·exact zdF (t:={ t with loaded:=2,walk:=_ }) hs hl hp ho.1 ho.2
 ·exact zdF (t:={ t with loaded:=0,walk:=_ }) hs hl hp ho.1 ho.2
theorem zT9(hk:t.sec.shards.length=1):LI u a k (zda t).1.sec:=by
 have hE:=hl.ei hs hp;unfold zda;simp only
 split
 ·exact zdF hs hl hp hs.un hE.un
 ·by_cases c:(zdq t).2=0
  ·simp only[c,if_true];refine zdF hs hl hp (hs.one hk (zq1 c)) (hE.one ?_);unfold zdq
   split
   ·exact (hE.at 0).ack hE.b _ _ _
   split
   ·exact (hE.at 0).nack hE.b _ _ _ _
   ·exact (hE.at 0).chg hE.b _ _ _ _
  ·simp only[c,if_false];exact zdF hs hl hp hs.un hE.un
theorem zRL(hk:t.sec.shards.length=1)(hn:t.sec.lock.cells.length=2):LI u a k (zcU t).1.sec:=by
 have hd:=hs.dv;have h0:=ziq hs;have hE:=hl.ei hs hp;unfold zcU;simp only
 split
 ·exact zdF hs hl hp hs.un hE.un
 split
 ·exact zdF hs hl hp hs.un hE.un
 split
 ·exact zdF hs hl hp hs.un hE.un
 ·have:=zsY t.sec.dead (zfr t) t.sec.snap.epoch;have hT:=hE.dd.take (zfr t) t.sec.snap.epoch;exact zdF hs hl hp (hs.dead hk hn (znU h0 _) zo (.inr rfl) (by rw[zWM];omega))
   ⟨fun y hy=>by rw[zW7.1 hy];exact (hE.at 0).absorb hT.2.revive,hT.1⟩
end
theorem EI.place{t:zi}{x y:Shard}{B:Int}(hx:SM B x)(hy:SM B y):∀z∈zdK t x y,SM B z:=by
 intro z hz;unfold zdK at hz
 split at hz<;>simp only[zXe,zYB,zXZ] at hz<;>rcases hz with rfl|rfl<;>assumption
theorem EI.from_{t:zi}(h:EI t.sec):SM t.sec.snap.epoch (zQ t):=by
 unfold zQ
 split<;>exact h.at _
theorem EI.to_{t:zi}(h:EI t.sec):SM t.sec.snap.epoch (zaD t):=by
 unfold zaD
 split<;>exact h.at _
theorem zUK{t:zi}(h:EI t.sec):OS t.sec (zdv t).1:=by
 unfold zdv;simp only
 split
 ·exact h.un
 split
 ·exact h.un
 ·have hd:=h.from_.detach (zhs (((zQ t).ready.size+1).tdiv 2) ((zaD t).ready.cells.length - zbl (zaD t)));exact⟨EI.place hd.1 (h.to_.absorb hd.2),h.dd⟩
theorem zUz{t:zi}(h:EI t.sec):OS t.sec (zdu t).1:=by
 unfold zdu;simp only
 split
 ·exact h.un
 ·have hd:=h.from_.divide (((zQ t).low+(zQ t).high).tdiv 2);exact⟨EI.place hd.1 hd.2,h.dd⟩
theorem zOR{t:zi}(h:EI t.sec):OS t.sec (zdi t).1:=by
 unfold zdi;simp only
 split
 ·exact h.un
 ·exact⟨EI.place (zpu _ _) (h.to_.unite h.from_),h.dd⟩
theorem zU8{t:zi}(h:EI t.sec):OS t.sec (zdb t).1:=by
 unfold zdb;simp only
 split
 ·split
  ·exact⟨h.sh,h.dd.clean _⟩
  ·exact h.un
 split
 ·exact h.un
 split
 ·split
  ·exact h.one ((h.at 0).clean h.b _)
  ·exact h.un
 ·split
  ·exact h.un
  ·exact h.one ((h.at 0).expi h.b _ _ _)
theorem zEe{t:zi}(h:EI t.sec):OS t.sec (zc0 t).1:=by
 unfold zc0;simp only
 split
 ·exact h.un
 split
 ·exact h.un
 ·have hb:=(h.at 0).bury h.b (zgt t.sec.dead) t.sec.snap.epoch t.setup.limit;exact⟨fun y hy=>by rw[zW7.1 hy];exact hb.1,h.dd.put hb.2⟩
end Go.Proofs.YtjalkkalhdnplaaGreat

namespace Go.Proofs.YtjalkkalhdnplaaGreat
open Go Go.Sim
def TL(u:Setup)(a:zg)(t:zi):Prop:=onP t.inv.kind t.pc->LI u a t.number t.sec
structure zbG(u:Setup)(a:zg)(t:zi)(r:Stp):Prop where
 g:GI u r.1
 m:Mo a r.1
 f:Ef t.number a r.1
 l:TL u r.1 r.2.1
 n:r.2.1.number=t.number
theorem zbG.still{u:Setup}{a:zg}{t t':zi}{v:List Event}(hg:GI u a)(h:TL u a t')(hn:t'.number=t.number):zbG u a t (a,t',v,0):=⟨hg,Mo.refl a,Ef.refl _ a,h,hn⟩
theorem TL.off{u:Setup}{a:zg}{t:zi}(h:¬onP t.inv.kind t.pc):TL u a t:=fun q=>absurd q h
theorem TL.next{u:Setup}{a:zg}{t:zi}(r:Result)(n:Int):TL u a (zaY t r n)/\(zaY t r n).number=t.number:=⟨fun q=>absurd rfl q.1,rfl⟩
theorem zsB{u:Setup}{a:zg}{k lim:Int}{cells:List Int}(hq:zav u=true)(hl:lim=u.limit)(hc:zfv cells u.slots)(h1:1<=cells.length):LI u a k (zcp cells lim).1:=by
 obtain⟨b1,b2,b3⟩:=zeE hq;subst hl;refine zTE ?_;unfold zcp;rw[zAC hc b1.2 h1,zWy (by simp),zWy zo]
theorem zlE{u:Setup}{a:zg}{t:zi}{n N:Int}(ha:AI u a)(hg:GI u a)(hs:zaT u N t.inv t.sec)(hl:LI u a t.number t.sec)(e:(goT a t n).2.2.2.2=0):
    GI u (goT a t n).1/\Mo a (goT a t n).1/\Ef t.number a (goT a t n).1/\LI u (goT a t n).1 t.number (goT a t n).2.1.sec:=by
 unfold goT at e ⊢
 by_cases c:(zcb a t.sec t.number n).2.2=0
 ·rw[zWy (fun q=>q c)];obtain⟨h1,h2,h3,h4⟩:=zTK ha hg hs.si hl c;exact⟨h1,h2,h3,h4⟩
 ·rw[zWz c] at e;exact absurd e c
theorem zmj {u:Setup} {a:zg} {t:zi} {n N lo hi:Int} {plan:zi->Pln} {cells:zi->List Int} (hu:zav u=true) (ha:AI u a) (hg:GI u a) (ht:TI u N t) (htl:TL u a t) (hlo:9<=lo)
    (hc:∀t,TI u N t->lo<=t.inv.kind/\t.inv.kind<=hi->zfv (cells t) u.slots/\1<=(cells t).length/\∀s,SI u N s->s.out.edits.length<=1->s.lock.cells=cells t->zaT u N t.inv s)
    (ho:∀t,TI u (N+1) t->lo<=t.inv.kind/\t.inv.kind<=hi->zaT u (N+1) t.inv t.sec->t.sec.phase=4->OI t.sec (plan t).1)
    (hos:∀t,EI t.sec->OS t.sec (plan t).1)
    (e:(zaL plan lo hi cells a t n).2.2.2=0):zbG u a t (zaL plan lo hi cells a t n):=by
 unfold zaL at e ⊢
 by_cases c:zX t lo hi=0
 ·rw[zWy (fun q=>q c)] at e ⊢;obtain⟨g1,g2⟩:=zcR c;simp only at e ⊢;have key:∀t':zi,t'=(if t.pc=0 then zcc t (cells t) 1 else t)->t'.done=false/\t'.inv=t.inv/\TI u N t'/\zaT u N t'.inv t'.sec/\t'.number=t.number/\LI u a t'.number t'.sec:=by
   intro t' h
   by_cases c1:t.pc=0
   ·rw[zWz c1] at h;subst h;obtain⟨a1,a2,a3⟩:=hc t ht g2;obtain⟨s1,s2,s3⟩:=zmF (N:=N) hu (show t.setup.limit=u.limit by rw[ht.su]) ht.nn a1 a2;have hS:=a3 _ s1 s2 s3;exact⟨g1,rfl,{ ht with se:=fun _=>hS },hS,rfl,zsB hu (by rw[ht.su]) a1 a2⟩
   ·rw[zWy c1] at h;subst h;exact⟨g1,rfl,ht,ht.se ⟨c1,by omega⟩,rfl,htl ⟨c1,by omega⟩⟩
  generalize (if t.pc=0 then zcc t (cells t) 1 else t)=t' at *;obtain⟨k1,k2,k3,k4,k5n,k6⟩:=key t' rfl;have hg0:=zgi (n:=n) ha k4;have hgt:=zlE (n:=n) ha hg k4 k6;generalize goT a t' n=g at *
  by_cases c2:g.2.2.2.2=0
  ·rw[zWy (fun q=>q c2)];obtain⟨h1,s,h2,h3,h4⟩:=hg0 c2;obtain⟨x1,x2,x3,x4⟩:=hgt c2;rw[k5n] at x3;have k5:=(k3.mono (show N<=N+1 by omega)).sec h3;rw[<- h2] at k5;have hnum:g.2.1.number=t.number:=by rw[h2];exact k5n
   have hi2:g.2.1.inv=t'.inv:=by rw[h2]
   have hsc:g.2.1.sec=s:=by rw[h2]
   rw[k5n, <- hnum] at x4
   split
   ·rename_i c3;have hS:zaT u (N+1) g.2.1.inv g.2.1.sec:=by rw[hi2,hsc];exact h3
    have h4':g.2.1.sec.phase=4:=by rw[hsc];exact h4.1 c3
    exact⟨x1,x2,x3,fun _=>zdF hS.si x4 h4' (ho g.2.1 k5 (by rw[hi2,k2];exact g2) hS h4') (hos _ (x4.ei hS.si h4')),hnum⟩
   ·split
    ·exact⟨x1,x2,x3,fun _=>x4,hnum⟩
    ·exact⟨x1,x2,x3,(TL.next _ _).1,hnum⟩
  ·rw[zWz c2] at e;exact absurd e c2
 ·rw[zWz c] at e;exact absurd e c
section
variable {u:Setup} {a:zg} {t:zi} {n N:Int} (hu:zav u=true) (ha:AI u a) (hg:GI u a) (ht:TI u N t) (htl:TL u a t)
include hu ha hg ht htl
theorem zsP(e:(zaL zdv 9 9 zbg a t n).2.2.2=0):zbG u a t (zaL zdv 9 9 zbg a t n):=by
 refine zmj hu ha hg ht htl zo (fun t ht hk=> ?_) (fun t ht hk hS hp=> ?_) (fun t h=>zUK h) e
 ·obtain⟨v1,v2,v3⟩:=zhk ht.iv zo;exact⟨ziE v1 v2 v3,by unfold zbg zdJ;split<;>simp,fun s s1 s2 s3=>⟨s1,s2,fun q=>by omega,fun q=>by omega,fun _=>s3,fun q=>by omega,fun q=>by omega⟩⟩
 ·obtain⟨k1,k2⟩:=zkd hS zo ht.iv hp;exact zsO hS.si k1 k2
theorem zsM(e:(zaL zdu 10 10 zbg a t n).2.2.2=0):zbG u a t (zaL zdu 10 10 zbg a t n):=by
 refine zmj hu ha hg ht htl zo (fun t ht hk=> ?_) (fun t ht hk hS hp=> ?_) (fun t h=>zUz h) e
 ·obtain⟨v1,v2,v3⟩:=zhk ht.iv zo;exact⟨ziE v1 v2 v3,by unfold zbg zdJ;split<;>simp,fun s s1 s2 s3=>⟨s1,s2,fun q=>by omega,fun q=>by omega,fun _=>s3,fun q=>by omega,fun q=>by omega⟩⟩
 ·obtain⟨k1,k2⟩:=zkd hS zo ht.iv hp;exact zsL hS.si k1 k2
theorem zrS(e:(zaL zdi 11 11 zbg a t n).2.2.2=0):zbG u a t (zaL zdi 11 11 zbg a t n):=by
 refine zmj hu ha hg ht htl zo (fun t ht hk=> ?_) (fun t ht hk hS hp=> ?_) (fun t h=>zOR h) e
 ·obtain⟨v1,v2,v3⟩:=zhk ht.iv zo;exact⟨ziE v1 v2 v3,by unfold zbg zdJ;split<;>simp,fun s s1 s2 s3=>⟨s1,s2,fun q=>by omega,fun q=>by omega,fun _=>s3,fun q=>by omega,fun q=>by omega⟩⟩
 ·obtain⟨k1,k2⟩:=zkd hS zo ht.iv hp;exact zrR hS.si k1 k2
theorem zsV(e:(zaL zdb 12 13 (fun t=>[t.inv.from_]) a t n).2.2.2=0):zbG u a t (zaL zdb 12 13 (fun t=>[t.inv.from_]) a t n):=by
 refine zmj hu ha hg ht htl zo (fun t ht hk=> ?_) (fun t ht hk hS hp=> ?_) (fun t h=>zU8 h) e
 ·have v:0<=t.inv.from_/\t.inv.from_<=u.slots:=by
     by_cases h:t.inv.kind=12
     ·have:=zh2 ht.iv (.inl h);omega
     ·exact zqY ht.iv zo
  exact⟨zle v,by simp,fun s s1 s2 s3=>⟨s1,s2,fun q=>by omega,fun q=>by omega,fun q=>by omega,fun _=>s3,fun q=>by omega⟩⟩
 ·exact zsU hS.si (zAe hS zo hp)
theorem zpO(e:(zaL zc0 14 14 (fun t=>[t.inv.from_,t.setup.slots]) a t n).2.2.2=0):zbG u a t (zaL zc0 14 14 (fun t=>[t.inv.from_,t.setup.slots]) a t n):=by
 refine zmj hu ha hg ht htl zo (fun t ht hk=> ?_) (fun t ht hk hS hp=> ?_) (fun t h=>zEe h) e
 ·have v:=zh2 ht.iv (.inr zo);rw[ht.su];exact⟨ziD v.1 v.2 zo,by simp,fun s s1 s2 s3=>⟨s1,s2,fun q=>by omega,fun q=>by omega,fun q=>by omega,fun q=>by omega,fun _=>s3⟩⟩
 ·obtain⟨k1,k2⟩:=zAf hS zo ht.iv hp;exact zpN hS.si k1 k2
theorem zRO(e:(zdm a t n).2.2.2=0):zbG u a t (zdm a t n):=by
 unfold zdm at e ⊢
 by_cases c:zX t 8 8=0
 ·rw[zWy (fun q=>q c)] at e ⊢;obtain⟨g1,g2⟩:=zcR c
  by_cases c1:t.pc=0
  ·rw[zWz c1];have hh:=znO ha.dv t.inv.home;rw[ha.df] at hh;have hsl:=ha.sl;exact zbG.still hg (fun _=>zsB (lim:=t.setup.limit) (cells:=[zdf a.dir t.inv.home,t.setup.slots]) hu (by rw[ht.su]) (by rw[ht.su];exact ziD hh.1 zo zo) (by simp)) rfl
  rw[zWy c1] at e ⊢;simp only at e ⊢;have k4:=ht.se ⟨c1,by omega⟩;have hg0:=zgi (n:=n) ha k4;have hgt:=zlE (n:=n) ha hg k4 (htl ⟨c1,by omega⟩);generalize goT a t n=g at *
  by_cases c2:g.2.2.2.2=0
  ·rw[zWy (fun q=>q c2)];obtain⟨h1,s,h2,h3,h4⟩:=hg0 c2;obtain⟨x1,x2,x3,x4⟩:=hgt c2;have hnum:g.2.1.number=t.number:=by rw[h2]
   have hi2:g.2.1.inv=t.inv:=by rw[h2]
   have hsc:g.2.1.sec=s:=by rw[h2]
   rw[<- hnum] at x4
   split
   ·rename_i c3;have hS:zaT u (N+1) g.2.1.inv g.2.1.sec:=by rw[hi2,hsc];exact h3
    have h4':g.2.1.sec.phase=4:=by rw[hsc];exact h4.1 c3
    obtain⟨k1,k2⟩:=zAg hS (by rw[hi2];omega) h4';have hn2:(zcU g.2.1).1.number=g.2.1.number:=by
     unfold zcU;simp only;repeat' split
     all_goals rfl
    refine⟨x1,x2,x3,fun _=> ?_,hn2.trans hnum⟩;rw[hn2];exact zRL hS.si x4 h4' k1 k2
   ·split
    ·exact⟨x1,x2,x3,fun _=>x4,hnum⟩
    split
    ·exact⟨x1,x2,x3,fun q=>absurd rfl q.1,hnum⟩
    ·exact⟨x1,x2,x3,(TL.next _ _).1,hnum⟩
  ·rw[zWz c2] at e;exact absurd e c2
 ·rw[zWz c] at e;exact absurd e c
end
end Go.Proofs.YtjalkkalhdnplaaGreat

namespace Go.Proofs.YtjalkkalhdnplaaGreat
open Go Go.Sim
structure WI(u:Setup)(w:World):Prop where
 hu:zav u=true
 su:w.setup=u
 ar:AI u w.arena
 ts:∀t∈w.tasks,TI u w.steps t
 tl:w.tasks.length<=200
 st:0<=w.steps
theorem zP8{w:World}{i:Nat}(h:i∈za9 w):i<w.tasks.length:=by
 unfold za9 at h;exact zXx.1 (zX4.1 h).1
theorem zoE{w:World}{k:Nat}(h:k<(za9 w).length):(za9 w).getD k 0<w.tasks.length:=by
 rw[zWG,zWF h];exact zP8 (zWH h)
theorem zCr{K:Tok}(hK:zdT K){u:Setup}{w:World}{i:Nat}(hw:WI u w)(hi:i<w.tasks.length)(e:(zcM K w i).2=0):WI u (zcM K w i).1:=by
 unfold zcM at e ⊢;simp only at e ⊢;have ht:=hw.ts (w.tasks.getD i zC) (by rw[zq hi];exact zWH hi);have hst:=hw.st;have hk:=zCA hK (n:=w.steps+1) (N:=w.steps) hw.hu hw.ar ht zo
 by_cases c:(zaQ K w.arena (w.tasks.getD i zC) (w.steps+1)).2.2.2=0
 ·rw[zWy (fun q=>q c)];obtain⟨k1,k2⟩:=hk c;refine { hu:=hw.hu,su:=hw.su,ar:=k1,ts:=fun t h=> ?_,tl:=by simp only[zW8];exact hw.tl,st:=by simp only;omega }
  rcases zjb h with h|h
  ·rw[h];exact k2
  ·exact (hw.ts t h).mono (by simp only;omega)
 ·rw[zWz c] at e;exact absurd e c
theorem zCD{u:Setup}{w:World}{by_:Int}(hw:WI u w)(e:(zdy w by_).2=0):WI u (zdy w by_).1:=by
 unfold zdy at e ⊢;have hst:=hw.st;have ht:=hw.ar.tick by_
 by_cases c:(zea w.arena by_).2=0
 ·rw[zWy (fun q=>q c)];exact { hu:=hw.hu,su:=hw.su,ar:=ht c,ts:=fun t h=>(hw.ts t h).mono (by simp only;omega),tl:=hw.tl,st:=by simp only;omega }
 ·rw[zWz c] at e;exact absurd e c
theorem zAc{u:Setup}{w:World}{i:zaS}(hw:WI u w)(e:(zcH w i).2.2=0):WI u (zcH w i).1:=by
 unfold zcH at e ⊢
 by_cases c:200<=w.tasks.length\/8<=(za9 w).length
 ·rw[zWz c] at e;cases e
 rw[zWy c] at e ⊢;have hs:=fun h=>zCq (u:=u) (number:=w.tasks.length+1) (i:=i) (n:=w.steps) (N:=w.steps) hw.st h;rw[hw.su] at e ⊢
 by_cases c2:(zcz (w.tasks.length+1) i u w.steps).2=0
 ·rw[zWy (fun q=>q c2)];refine { hu:=hw.hu,su:=rfl,ar:=hw.ar,ts:=fun t h=> ?_,tl:=by simp only[zWJ,zWI,zWK];omega,st:=hw.st }
  rcases zW3.1 h with h|h
  ·exact hw.ts t h
  ·rw[zW7.1 h];exact hs c2
 ·rw[zWz c2] at e;exact absurd e c2
end Go.Proofs.YtjalkkalhdnplaaGreat
