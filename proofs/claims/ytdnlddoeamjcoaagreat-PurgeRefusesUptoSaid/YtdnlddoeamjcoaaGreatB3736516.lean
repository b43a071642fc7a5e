/-
  Tasks keep to what they keep to.
-/
import Derived.Test.YtdnlddoeamjcoaaGreatB842129c
import Derived.Test.YtdnlddoeamjcoaaGreatBad5c9c6
import Derived.Test.YtdnlddoeamjcoaaGreatB8dc2bf0
set_option linter.unusedSimpArgs false
set_option linter.unusedVariables false
set_option maxHeartbeats 10000000
set_option maxRecDepth 100000
namespace Go.Proofs.YtdnlddoeamjcoaaGreat
open Go Go.Sim
theorem zZ9{B:Int}{a:zy}{l:zb4}{k:Int}(hw:LWF B l)(hp:l.phase<=2)(h:(zbi a l k).2.2=0):(zbi a l k).2.1.phase<=3:=by
 unfold zbi at h ⊢
 by_cases c0:l.phase=0
 ·rw[zacY c0] at h ⊢;unfold zmX at h ⊢
  split at h
  ·rename_i c1;rw[zacY c1]
   split
   ·simp only;split<;>omega
   ·simp only;split<;>omega
  ·rename_i c1;exact absurd h c1
 ·rw[zacX c0] at h ⊢
  by_cases c1:l.phase=1
  ·rw[zacY (.inl c1)] at h ⊢;unfold zkO at h ⊢
   split at h
   ·rename_i c2;rw[zacY c2];unfold zkL;simp only
    split
    ·simp only;omega
    ·rw[zacX zo];simp only;omega
   ·rename_i c2;exact absurd h c2
  ·have c4:¬(l.phase=1\/l.phase=4):=by omega
   rw[zacX c4] at h ⊢
   split at h
   ·rename_i c2;rw[zacY c2];simp only;split<;>omega
   ·cases h
structure zd5(s s':Section):Prop where
 cells:s'.lock.cells=s.lock.cells
 limit:s'.limit=s.limit
theorem zaag{u:Setup}{a:zy}{s:Section}{k N:Int}(ha:AI u a)(hs:SI u N s)(hp:s.phase=0)(e:(zhC a s k).2.2=0):
    AI u (zhC a s k).1/\SI u (N+1) (zhC a s k).2.1/\zd5 s (zhC a s k).2.1:=by
 obtain⟨q1,q2,q3,q9⟩:=hs.ph.p0 hp;have hk:=zQP ha s;have he:(zbi a s.lock k).2.2=0:=by
  unfold zhC at e
  split at e
  ·rename_i c;exact c.1
  ·exact e
 have hal:=ha.lock s.lock k he;obtain⟨w1,w2,_⟩:=zBk hs.lw he;have w3:=zZ9 hs.lw q1 he;have w4:=hs.lw.c1;unfold zhC;generalize zbi a s.lock k=r at *;obtain⟨a2,l2,e2⟩:=r;simp only at he w1 w2 w3 hal;subst he
 by_cases c:l2.phase=3
 ·rw[zacY ⟨rfl,c⟩];refine⟨hal,?_,?_⟩
  ·by_cases c0:zd0 a s=0
   ·rw[zacY c0];have k0:kOf u.slots s.lock.cells=0:=by rw[c0] at hk;omega
    refine { hs with lw:=w1,cr:=by simp only[zah];rw[w2];exact hs.cr,ca:=by simp only[zah];rw[w2];exact hs.ca,oo:=by simp only[zah];rw[w2];exact hs.oo,ph:= ?_ };simp only[zah];rw[w2,k0];constructor<;>simp only<;>intro h<;>first|omega|(refine⟨c,?_⟩;rw[q2,q3];simp;omega)
   ·rw[zacX c0];have k0:kOf u.slots s.lock.cells≠0:=fun q=>c0 (by rw[hk,q];rfl);refine { hs with lw:=w1,cr:=by simp only[zah];rw[w2];exact hs.cr,ca:=by simp only[zah];rw[w2];exact hs.ca,oo:=by simp only[zah];rw[w2];exact hs.oo,ph:= ?_ };simp only[zah];rw[w2];constructor<;>simp only<;>intro h<;>first|omega|(refine⟨c,?_⟩;rw[q2,q3];simp;omega)
  ·split<;>exact⟨w2,rfl⟩
 ·rw[zacX (fun q=>c q.2)];refine⟨hal,?_,⟨w2,rfl⟩⟩;refine { hs with lw:=w1,cr:=by simp only;rw[w2];exact hs.cr,ca:=by simp only;rw[w2];exact hs.ca,oo:=by simp only;rw[w2];exact hs.oo,ph:= ?_ };simp only;rw[w2];constructor<;>simp only<;>intro h<;>first|omega|exact⟨by omega,q2,q3,q9⟩
theorem zaak{u:Setup}{a:zy}{s:Section}{n N:Int}(ha:AI u a)(hs:SI u N s)(hp:s.phase=3)(e:(ziG a s n).2.2=0):
    AI u (ziG a s n).1/\SI u (N+1) (ziG a s n).2.1/\zd5 s (ziG a s n).2.1:=by
 obtain⟨q1,q2,q3,q4,q5⟩:=hs.ph.p3 hp;have hsn:=hs.sn;have h1:=ha.ep;have h2:=ha.ck;have hs:=hs.mono (show N<=N+1 by omega);unfold ziG at e ⊢;simp only at e ⊢;have key:(0<=(zdI a s.snap n).1.epoch/\(zdI a s.snap n).1.epoch<=65536)/\(0<=(zdI a s.snap n).1.clock/\(zdI a s.snap n).1.clock<=1073741824)/\0<=(zdI a s.snap n).1.phase/\(zdI a s.snap n).1.phase<=3:=by
  unfold zdI at e ⊢
  split
  ·simp only;omega
  ·split
   ·simp only;omega
   ·split
    ·split
     ·simp only;omega
     ·simp only;omega
    ·exfalso;omega
 generalize zdI a s.snap n=r at *;obtain⟨x,e2⟩:=r;simp only at e key ⊢;subst e;obtain⟨k1,k2,k3,k4⟩:=key;refine⟨ha,?_,?_⟩
 ·by_cases c:x.phase=3
  ·rw[zacY ⟨rfl,c⟩];refine { hs with sn:=⟨k1,k2⟩,ph:= ?_ };simp only[zah];constructor<;>simp only<;>intro h<;>first|omega|exact⟨q1,q2,q3⟩
  ·rw[zacX (fun q=>c q.2)];refine { hs with sn:=⟨k1,k2⟩,ph:= ?_ };simp only;constructor<;>simp only<;>intro h<;>first|omega|exact⟨q1,q2,q3,k3,by omega⟩
 ·split<;>exact⟨rfl,rfl⟩
theorem zaaf{u:Setup}{a:zy}{s:Section}{N:Int}(ha:AI u a)(hs:SI u N s)(hp:s.phase=2)(e:(zfS a s).2.2=0):
    AI u (zfS a s).1/\SI u (N+1) (zfS a s).2.1/\zd5 s (zfS a s).2.1:=by
 obtain⟨q1,q2,q3,q4,q5,q9⟩:=hs.ph.p2 hp;have hsl:=ha.sl;have hlt:s.at_.toNat<s.lock.cells.length:=by omega
 have hc:zc1 s s.at_=s.lock.cells[s.at_.toNat]:=by unfold zc1;rw[zj hlt]
 have hcr:=hs.cr _ (zadf hlt);have hka:=zL3 (n:=u.slots) hs.ca s.at_.toNat hlt;have hkl:=zmK u.slots s.lock.cells;rw[<- hc] at hcr hka;have hsv:=hs.sv;have hs:=hs.mono (show N<=N+1 by omega);unfold zfS at e ⊢;simp only at e ⊢;generalize zc1 s s.at_=c at *;refine⟨ha,?_,?_⟩
 ·by_cases c0:c=a.slots.length
  ·rw[zacY c0];have hk:kOf u.slots s.lock.cells<=s.at_.toNat:=by omega
   have hdl:a.dead.dead.l.length<=24:=by
    have hd:=ha.dd;unfold zcI at hd
    split at hd
    ·cases hd
    ·split at hd
     ·cases hd
     ·omega
   by_cases c1:s.at_+1=s.lock.cells.length
   ·simp only[c1,if_true];refine { hs with dv:=hdl,ph:= ?_ };simp only[zah];constructor<;>simp only<;>intro h<;>first|omega|exact⟨q1,q4,by omega,by omega,by omega⟩
   ·simp only[c1,if_false];refine { hs with dv:=hdl,ph:= ?_ };simp only;constructor<;>simp only<;>intro h<;>first|omega|exact⟨q1,by omega,by omega,q4,by omega,q9⟩
  ·rw[zacX c0];have hcl:c<a.slots.length:=by omega
   have hk:s.at_.toNat<kOf u.slots s.lock.cells:=hka.2 zo;have hld:(zho a c).1=(a.slots.getD c.toNat zf3).shard:=by
    unfold zho;rw[zacY (ztP.2 ⟨hcr.1,hcl⟩)]
   have hnew:∀x∈s.shards++[(zho a c).1],zaf x=0/\(x.ready.cells.length:Int)=u.capacity:=by
    intro x hx
    rcases zads.1 hx with hx|hx
    ·exact hsv x hx
    ·rw[zadD.1 hx,hld];exact ha.sh _ (zC1 (a:=a) hcr.1 hcl)
   by_cases c1:s.at_+1=s.lock.cells.length
   ·simp only[c1,if_true];refine { hs with sv:=hnew,ph:= ?_ };simp only[zah];constructor<;>simp only<;>intro h<;>first|omega|exact⟨q1,q4,by simp only[zac6,zadF];omega,by omega,by omega⟩
   ·simp only[c1,if_false];refine { hs with sv:=hnew,ph:= ?_ };simp only;constructor<;>simp only<;>intro h<;>first|omega|exact⟨q1,by omega,by omega,q4,by simp only[zac6,zadF];omega,q9⟩
 ·constructor
  ·split<;>split<;>rfl
  ·split<;>split<;>rfl
theorem zaah{u:Setup}{a:zy}{s:Section}{k N:Int}(ha:AI u a)(hs:SI u N s)(hp:s.phase=1)(e:(zfT a s k).2.2=0):
    AI u (zfT a s k).1/\SI u (N+1) (zfT a s k).2.1/\zd5 s (zfT a s k).2.1:=by
 obtain⟨q1,q2,q3,q4,q5,q6⟩:=hs.ph.p1 hp;have hkl:=zmK u.slots s.lock.cells;have hs:=hs.mono (show N<=N+1 by omega);have e1:s.at_.tmod 2=s.at_ % 2:=zafY q2;have e2:s.at_.tdiv 2=s.at_ / 2:=zaeC q2;unfold zfT at e ⊢;simp only[e1,e2] at e ⊢
 by_cases c:s.at_ % 2=0
 ·rw[zacY c];refine⟨ha,?_,⟨rfl,rfl⟩⟩;refine { hs with ph:= ?_ };simp only;constructor<;>simp only<;>intro h<;>first|omega|exact⟨q1,by omega,by omega,by simp only[zac6,zadF];omega,q5,q6⟩
 ·rw[zacX c] at e ⊢
  split at e
  ·rename_i c1;exact absurd e c1
  ·rename_i c1;rw[zacX c1];simp only at e ⊢;have hst:=ha.stStripe _ _ _ e;have hkl2:=fun s2=>zQP hst s2;refine⟨hst,?_,?_⟩
   ·have hlen:(List.take (s.at_ / 2).toNat s.stripes++[(zhO (s.stripes.getD (s.at_ / 2).toNat zco)).1]).length=(s.at_ / 2).toNat+1:=by
       rw[zac6,zaeJ,zadF];omega
    by_cases c2:s.at_+1=2 * (kOf u.slots s.lock.cells:Int)
    ·rw[zacY ⟨e,by rw[hkl2];exact c2⟩];refine { hs with ph:= ?_ };simp only[zah];have c1':=hs.lw.c1;constructor<;>simp only<;>intro h<;>first|omega|exact⟨q1,by omega,by omega,by omega,by rw[q5];simp,q6⟩
    ·rw[zacX (fun q=>c2 (by have:=q.2;rw[hkl2] at this;exact this))];refine { hs with ph:= ?_ };simp only;constructor<;>simp only<;>intro h<;>first|omega|exact⟨q1,by omega,by omega,by omega,q5,q6⟩
   ·constructor
    ·split<;>rfl
    ·split<;>rfl
theorem zW1{u:Setup}{N:Int}{s:Section}(hs:SI u N s)(h3:s.lock.phase=3)(hk:s.shards.length=kOf u.slots s.lock.cells)(ho:s.out.shards.length=kOf u.slots s.lock.cells)(e:(zdd s).2=0):
    SI u N (zdd s).1/\zd5 s (zdd s).1:=by
 obtain⟨w1,w2⟩:=zsU hs.lw h3;have hf:(zcv s.lock).2=0/\(zcv s.lock).1.phase=4:=by unfold zcv;rw[zacY h3];exact⟨rfl,rfl⟩
 unfold zdd;rw[zacX (fun q=>q hf.1)];refine⟨?_,⟨w2,rfl⟩⟩;refine { hs with lw:=w1,cr:=by simp only[zah];rw[w2];exact hs.cr,ca:=by simp only[zah];rw[w2];exact hs.ca,oo:=by simp only[zah];rw[w2];exact hs.oo,ph:= ?_ };simp only[zah];rw[w2];constructor<;>simp only<;>intro h<;>first|omega|exact⟨hf.2,hk,ho⟩
theorem zaco{u:Setup}{a:zy}{N:Int}{s:Section}(ha:AI u a)(hs:SI u N s)(h3:s.lock.phase=3)(hst:s.stripes.length=kOf u.slots s.lock.cells)(hk:s.shards.length=kOf u.slots s.lock.cells)(ho:s.out.shards.length=kOf u.slots s.lock.cells)(e:(zcM a s).2.2=0):
    AI u (zcM a s).1/\SI u N (zcM a s).2.1/\zd5 s (zcM a s).2.1:=by
 unfold zcM at e ⊢
 split
 ·rename_i c;refine⟨ha,?_,⟨rfl,rfl⟩⟩;refine { hs with ph:= ?_ };simp only[zah];constructor<;>simp only<;>intro h<;>first|omega|exact⟨h3,hst,hk,ho,by omega,by omega⟩
 ·rename_i c;rw[zacX c] at e;obtain⟨f1,f2⟩:=zW1 hs h3 hk ho e;exact⟨ha,f1,f2⟩
theorem zaan{u:Setup}{a:zy}{s:Section}{k N:Int}(ha:AI u a)(hs:SI u N s)(hp:s.phase=5)(e:(zfV a s k).2.2=0)(he:s.out.edits.length<=1):
    AI u (zfV a s k).1/\SI u (N+1) (zfV a s k).2.1/\zd5 s (zfV a s k).2.1:=by
 obtain⟨q1,q2,q3,q4,q5,q6⟩:=hs.ph.p5 hp;have hs:=hs.mono (show N<=N+1 by omega);unfold zfV at e ⊢;simp only at e ⊢;generalize hr:(if zc1 s (s.out.order.getD s.at_.toNat 0)=(a.slots.length:Int) then stDead a k s.out.dead else stSlot a (zc1 s (s.out.order.getD s.at_.toNat 0)) k (s.out.shards.getD (s.out.order.getD s.at_.toNat 0).toNat zP))=r at *
 by_cases c:r.2=0
 ·have har:AI u r.1:=by
     split at hr
     ·subst hr;exact ha.stDead _ _ c
     ·subst hr;exact ha.stSlot _ _ _ c
  rw[zacX (fun q=>q c)] at e ⊢
  by_cases c1:s.at_+1<(s.out.order.length:Int)
  ·rw[zacY c1];refine⟨har,?_,⟨rfl,rfl⟩⟩;refine { hs with oc:=⟨hs.oc.1,hs.oc.1⟩,ph:= ?_ };simp only;constructor<;>simp only<;>intro h<;>first|omega|exact⟨q1,q2,q3,q4,by omega,by omega⟩
  ·rw[zacX c1] at e ⊢;have hs2:SI u (N+1) { s with at_:=s.at_+1,carry:=[] }\/True:= .inr trivial
   by_cases c2:0<s.out.edits.length
   ·rw[zacY c2];refine⟨har,?_,⟨rfl,rfl⟩⟩;refine { hs with oc:=⟨hs.oc.1,by simp [zah]⟩,ph:= ?_ };simp only[zah];constructor<;>simp only<;>intro h<;>first|omega|exact⟨q1,q2,q3,q4,by omega,by omega,by omega⟩
   ·rw[zacX c2] at e ⊢;unfold zcM at e ⊢;simp only at e ⊢
    split
    ·rename_i c3;refine⟨har,?_,⟨rfl,rfl⟩⟩;refine { hs with oc:=⟨hs.oc.1,by simp [zah]⟩,ph:= ?_ };simp only[zah];constructor<;>simp only<;>intro h<;>first|omega|exact⟨q1,q2,q3,q4,by omega,by omega⟩
    ·rename_i c3;obtain⟨w1,w2⟩:=zsU hs.lw q1;have hf:(zcv s.lock).2=0/\(zcv s.lock).1.phase=4:=by unfold zcv;rw[zacY q1];exact⟨rfl,rfl⟩
     unfold zdd;simp only;rw[zacX (fun q=>q hf.1)];refine⟨har,?_,⟨w2,rfl⟩⟩;refine { hs with lw:=w1,cr:=by simp only[zah];rw[w2];exact hs.cr,ca:=by simp only[zah];rw[w2];exact hs.ca,oo:=by simp only[zah];rw[w2];exact hs.oo,oc:=⟨hs.oc.1,by simp [zah]⟩,ph:= ?_ };simp only[zah];rw[w2];constructor<;>simp only<;>intro h<;>first|omega|exact⟨hf.2,q3,q4⟩
 ·rw[zacY c] at e;exact absurd e c
theorem zabY:∀(l:List Span) (n m:Int),zdM n l=some m->(l.length:Int)<=m - n:=by
 intro l
 induction l with
 | nil=>intro n m h;simp only[zdM,Option.some.injEq] at h;simp only[zac5];omega
 | cons x l ih=>
  intro n m h;unfold zdM at h
  split at h
  ·rename_i c;have:=ih _ _ h;simp only[zac4];omega
  ·cases h
theorem zgf{d:zaM}(h:zbC d=0):d.l.length<=65536:=by
 unfold zbC at h
 split at h
 ·cases h
 ·split at h
  ·cases h
  ·rename_i c;have:=zabY _ _ _ (zadh.1 c);omega
theorem zaad{u:Setup}{a:zy}{s:Section}{N:Int}(ha:AI u a)(hs:SI u N s)(hp:s.phase=6)(e:(zfR a s).2.2=0):
    AI u (zfR a s).1/\SI u (N+1) (zfR a s).2.1/\zd5 s (zfR a s).2.1:=by
 obtain⟨q1,q2,q3,q4,q5,q6,q7⟩:=hs.ph.p6 hp;have hs:=hs.mono (show N<=N+1 by omega);unfold zfR at e ⊢
 by_cases c:s.at_=0
 ·rw[zacY c];refine⟨ha,?_,⟨rfl,rfl⟩⟩;refine { hs with di:=zgf ha.dv,ph:= ?_ };simp only;constructor<;>simp only<;>intro h<;>first|omega|exact⟨q1,q2,q3,q4,q5,by omega,by omega⟩
 ·rw[zacX c] at e ⊢;simp only at e ⊢
  by_cases c1:(zg4 s.dir (s.out.edits.getD 0 zt7)).2≠0
  ·rw[zacY c1] at e;exact absurd e c1
  ·rw[zacX c1] at e ⊢;generalize zg4 s.dir (s.out.edits.getD 0 zt7)=d at *;have hcd:=ha.casDir s.dir.version d.1;have hdv:(casDir a s.dir.version d.1).2.2=0->zbC d.1=0:=by
    intro h;unfold Go.Proofs.YtdnlddoeamjcoaaGreat.casDir at h
    split at h
    ·rename_i h1;exact absurd h h1
    ·rename_i h1;exact zadh.1 h1
   generalize casDir a s.dir.version d.1=r at *
   by_cases c2:r.2.2≠0
   ·rw[zacY c2] at e;exact absurd e c2
   ·rw[zacX c2] at e ⊢;have c2:=zadh.1 c2;have har:=hcd c2;have hd:=zgf (hdv c2)
    by_cases c3:r.2.1=false
    ·rw[zacY c3];refine⟨har,?_,⟨rfl,rfl⟩⟩;refine { hs with ph:= ?_ };simp only;constructor<;>simp only<;>intro h<;>first|omega|exact⟨q1,q2,q3,q4,q5,by omega,by omega⟩
    ·rw[zacX c3] at e ⊢;have hs2:SI u (N+1) { s with dir:=d.1 }:=by
      refine { hs with di:=hd,ph:= ?_ };have hph:=hs.ph;exact⟨hph.p0,hph.p1,hph.p2,hph.p3,hph.p4,hph.p5,hph.p6,hph.p7,hph.p8,hph.p9⟩
     obtain⟨f1,f2,f3⟩:=zaco (s:={ s with dir:=d.1 }) har hs2 q1 q2 q3 q4 e;exact⟨f1,f2,⟨f3.cells,f3.limit⟩⟩
theorem zaao{u:Setup}{a:zy}{s:Section}{k N:Int}(ha:AI u a)(hs:SI u N s)(hp:s.phase=7)(e:(zfW a s k).2.2=0):
    AI u (zfW a s k).1/\SI u (N+1) (zfW a s k).2.1/\zd5 s (zfW a s k).2.1:=by
 obtain⟨q1,q2,q3,q4,q5,q6⟩:=hs.ph.p7 hp;have hs:=hs.mono (show N<=N+1 by omega);unfold zfW at e ⊢;simp only at e ⊢;generalize zi4 (s.stripes.getD s.at_.toNat zco) (if zjH s s.at_=true then s.out.shards.getD s.at_.toNat zP else s.shards.getD s.at_.toNat zP) s.snap.epoch s.limit=x at *
 by_cases c1:x.2≠0
 ·rw[zacY c1] at e;exact absurd e c1
 ·rw[zacX c1] at e ⊢;have hst:=ha.stStripe (zc1 s s.at_) k x.1;generalize stStripe a (zc1 s s.at_) k x.1=r at *
  by_cases c2:r.2≠0
  ·rw[zacY c2] at e;exact absurd e c2
  ·rw[zacX c2] at e ⊢;have har:=hst (zadh.1 c2)
   by_cases c3:s.at_+1=(s.stripes.length:Int)
   ·rw[zacY c3] at e ⊢;unfold zdd at e ⊢;simp only at e ⊢;obtain⟨w1,w2⟩:=zsU hs.lw q1;have hf:(zcv s.lock).2=0/\(zcv s.lock).1.phase=4:=by unfold zcv;rw[zacY q1];exact⟨rfl,rfl⟩
    rw[zacX (fun q=>q hf.1)];refine⟨har,?_,⟨w2,rfl⟩⟩;refine { hs with lw:=w1,cr:=by simp only[zah];rw[w2];exact hs.cr,ca:=by simp only[zah];rw[w2];exact hs.ca,oo:=by simp only[zah];rw[w2];exact hs.oo,ph:= ?_ };simp only[zah];rw[w2];constructor<;>simp only<;>intro h<;>first|omega|exact⟨hf.2,q3,q4⟩
   ·rw[zacX c3];refine⟨har,?_,⟨rfl,rfl⟩⟩;refine { hs with ph:= ?_ };simp only;constructor<;>simp only<;>intro h<;>first|omega|exact⟨q1,q2,q3,q4,by omega,by omega⟩
theorem z0a{a:zy}{l:zb4}{k:Int}(hp:l.phase=4)(h:(zbi a l k).2.2=0):(zbi a l k).2.1.phase=4\/(zbi a l k).2.1.phase=5:=by
 unfold zbi at h ⊢;rw[zacX zo,zacY (.inr hp)] at h ⊢;unfold zkO at h ⊢
 split at h
 ·rename_i c2;rw[zacY c2];unfold zkL;simp only
  split
  ·simp only;omega
  ·exact .inr rfl
 ·rename_i c2;exact absurd h c2
theorem zaae{u:Setup}{a:zy}{s:Section}{k N:Int}(ha:AI u a)(hs:SI u N s)(hp:s.phase=8)(e:(zhB a s k).2.2=0):
    AI u (zhB a s k).1/\SI u (N+1) (zhB a s k).2.1/\zd5 s (zhB a s k).2.1:=by
 obtain⟨q1,q2,q3⟩:=hs.ph.p8 hp;have he:(zbi a s.lock k).2.2=0:=by
  unfold zhB at e
  split at e
  ·rename_i c;exact c.1
  ·exact e
 have hal:=ha.lock s.lock k he;obtain⟨w1,w2,_⟩:=zBk hs.lw he;have w3:=z0a q1 he;unfold zhB;generalize zbi a s.lock k=r at *;obtain⟨a2,l2,e2⟩:=r;simp only at he w1 w2 w3 hal;subst he
 by_cases c:l2.phase=5
 ·rw[zacY ⟨rfl,c⟩];refine⟨hal,?_,⟨w2,rfl⟩⟩;refine { hs with lw:=w1,cr:=by simp only[zah];rw[w2];exact hs.cr,ca:=by simp only[zah];rw[w2];exact hs.ca,oo:=by simp only[zah];rw[w2];exact hs.oo,ph:= ?_ };simp only[zah];rw[w2];constructor<;>simp only<;>intro h<;>first|omega|exact⟨q2,q3⟩
 ·rw[zacX (fun q=>c q.2)];refine⟨hal,?_,⟨w2,rfl⟩⟩;refine { hs with lw:=w1,cr:=by simp only;rw[w2];exact hs.cr,ca:=by simp only;rw[w2];exact hs.ca,oo:=by simp only;rw[w2];exact hs.oo,ph:= ?_ };simp only;rw[w2];constructor<;>simp only<;>intro h<;>first|omega|exact⟨by omega,q2,q3⟩
theorem zaal{u:Setup}{a:zy}{s:Section}{k n N:Int}(ha:AI u a)(hs:SI u N s)(hed:s.out.edits.length<=1)(e:(zcX a s k n).2.2=0):
    AI u (zcX a s k n).1/\SI u (N+1) (zcX a s k n).2.1/\zd5 s (zcX a s k n).2.1:=by
 unfold zcX at e ⊢
 by_cases c:(zfU a s k n).2.2≠0
 ·rw[zacY c] at e;exact absurd e c
 ·rw[zacX c] at e ⊢;clear c;unfold zfU at e ⊢
  by_cases c0:s.phase=0
  ·rw[zacY c0] at e ⊢; exact zaag ha hs c0 e
  rw[zacX c0] at e ⊢
  by_cases c1:s.phase=1
  ·rw[zacY c1] at e ⊢; exact zaah ha hs c1 e
  rw[zacX c1] at e ⊢
  by_cases c2:s.phase=2
  ·rw[zacY c2] at e ⊢; exact zaaf ha hs c2 e
  rw[zacX c2] at e ⊢
  by_cases c3:s.phase=3
  ·rw[zacY c3] at e ⊢; exact zaak ha hs c3 e
  rw[zacX c3] at e ⊢
  by_cases c5:s.phase=5
  ·rw[zacY c5] at e ⊢; exact zaan ha hs c5 e hed
  rw[zacX c5] at e ⊢
  by_cases c6:s.phase=6
  ·rw[zacY c6] at e ⊢; exact zaad ha hs c6 e
  rw[zacX c6] at e ⊢
  by_cases c7:s.phase=7
  ·rw[zacY c7] at e ⊢; exact zaao ha hs c7 e
  rw[zacX c7] at e ⊢
  by_cases c8:s.phase=8
  ·rw[zacY c8] at e ⊢; exact zaae ha hs c8 e
  rw[zacX c8] at e
  cases e
structure OI(s:Section)(o:zcz):Prop where
 sh:o.shards.length=s.shards.length
 fit:∀x∈o.shards,zlx x
 dd:o.dead.l.length<=1000
 ord:∀i∈o.order,0<=i/\i<s.lock.cells.length
 nd:o.order.Nodup
 ol:o.order.length<=3
 ca:o.carry.length<=1000
 ed:o.edits.length<=1
theorem zUg{u:Setup}{N:Int}{s:Section}{o:zcz}(hs:SI u N s)(hp:s.phase=4)(ho:OI s o):
    (zfd s o).2=0/\SI u N (zfd s o).1/\zd5 s (zfd s o).1/\(zfd s o).1.out=o:=by
 obtain⟨q1,q2,q3⟩:=hs.ph.p4 hp;have hsl:=ho.sh;have hel:=ho.ed;have hkc:=hs.lw.c1;unfold zfd;rw[zacX (fun q=>q hp),zacX (show ¬(o.shards.length≠s.shards.length\/1<o.edits.length) by omega)];rw[zacX (show ¬zk2 s.lock.cells.length o.order=false by
  unfold zk2;rw[zadn (show (∀i∈o.order,0<=i/\i<(s.lock.cells.length:Int))/\o.order.Nodup from ⟨ho.ord,ho.nd⟩)];simp)]
 have hs2:∀ph at_,PhI (kOf u.slots s.lock.cells) s.lock.cells.length { s with out:=o,phase:=ph,at_:=at_ }->SI u N { s with out:=o,phase:=ph,at_:=at_ }:=by
  intro ph at_ h;exact { hs with os:=ho.fit,od:=ho.dd,oo:=⟨ho.ord,ho.ol⟩,oc:=⟨ho.ca,hs.oc.2⟩,ph:=h }
 by_cases c1:0<o.order.length
 ·rw[zacY c1];refine⟨rfl,?_,⟨rfl,rfl⟩,rfl⟩;refine hs2 5 0 ?_;constructor<;>simp only<;>intro h<;>first|omega|exact⟨q1,q2,q3,by omega,by omega,by omega⟩
 rw[zacX c1]
 by_cases c2:0<o.edits.length
 ·rw[zacY c2];refine⟨rfl,?_,⟨rfl,rfl⟩,rfl⟩;refine hs2 6 0 ?_;constructor<;>simp only<;>intro h<;>first|omega|exact⟨q1,q2,q3,by omega,by omega,by omega,by omega⟩
 rw[zacX c2];unfold zcM
 by_cases c3:0<s.stripes.length
 ·rw[zacY c3];refine⟨rfl,?_,⟨rfl,rfl⟩,rfl⟩;refine hs2 7 0 ?_;constructor<;>simp only<;>intro h<;>first|omega|exact⟨q1,q2,q3,by omega,by omega,by omega⟩
 ·rw[zacX c3];obtain⟨w1,w2⟩:=zsU hs.lw q1;have hf:(zcv s.lock).2=0/\(zcv s.lock).1.phase=4:=by unfold zcv;rw[zacY q1];exact⟨rfl,rfl⟩
  unfold zdd;simp only;rw[zacX (fun q=>q hf.1)];refine⟨rfl,?_,⟨w2,rfl⟩,rfl⟩;refine { hs with lw:=w1,cr:=by simp only[zah];rw[w2];exact hs.cr,ca:=by simp only[zah];rw[w2];exact hs.ca,os:=ho.fit,od:=ho.dd,oo:=by simp only[zah];rw[w2];exact⟨ho.ord,ho.ol⟩,oc:=⟨ho.ca,hs.oc.2⟩,ph:= ?_ };simp only[zah];rw[w2];constructor<;>simp only<;>intro h<;>first|omega|exact⟨hf.2,q3,by omega⟩
theorem zaai{u:Setup}{N:Int}{cells:List Int}{lim:Int}(hc:zet cells u.slots)(hn:u.slots<=6)(h1:1<=cells.length)(hl:1<=lim/\lim<=8)(hN:0<=N):
    (zdW cells lim).2=0/\SI u N (zdW cells lim).1/\(zdW cells lim).1.lock.cells=cells/\(zdW cells lim).1.limit=lim/\(zdW cells lim).1.phase=0/\(zdW cells lim).1.out.edits=[]:=by
 unfold zdW;rw[zZ8 hc hn h1,zacX (fun q=>q rfl),zacX zo];have h3:=hc.l;refine⟨rfl,?_,rfl,rfl,rfl,rfl⟩;constructor
 ·constructor<;>simp only<;>omega
 ·exact hc.b
 ·exact hc.p
 ·intro x h;cases h
 ·simp [zbu,zaW]
 ·exact hl
 ·simp [zbu,zd3]
 ·simp [zbu,zcN]
 ·intro x h;cases h
 ·simp [zbu,ze5,zaW]
 ·exact⟨fun x h=>(by cases h),by simp [zbu,ze5]⟩
 ·exact⟨by simp [zbu,ze5],by simp [zbu]⟩
 ·constructor<;>intro h
  ·exact⟨by simp only;omega,rfl,rfl,rfl⟩
  all_goals exact absurd h (by simp [zbu])
theorem zH1(s:Section):(zdd s).1.out=s.out:=by
 unfold zdd zah
 split<;>rfl
theorem zRh(a:zy)(s:Section):(zcM a s).2.1.out=s.out:=by
 unfold zcM zah
 split
 ·rfl
 ·exact zH1 s
theorem zaam{a:zy}{s:Section}{k n:Int}(e:(zcX a s k n).2.2=0):(zcX a s k n).2.1.out=s.out:=by
 unfold zcX at e ⊢
 by_cases c:(zfU a s k n).2.2≠0
 ·rw[zacY c] at e;exact absurd e c
 rw[zacX c];clear c e;unfold zfU
 split
 ·unfold zhC zah
  split
  ·simp only;split<;>rfl
  ·rfl
 split
 ·unfold zfT zah
  split
  ·rfl
  split
  ·rfl
  simp only
  split<;>rfl
 split
 ·unfold zfS zah;simp only
  split
  ·split<;>rfl
  ·split<;>rfl
 split
 ·unfold ziG zah;simp only
  split<;>rfl
 split
 ·unfold zfV zah;simp only;generalize (if zc1 s (s.out.order.getD s.at_.toNat 0)=(a.slots.length:Int) then stDead a k s.out.dead else stSlot a (zc1 s (s.out.order.getD s.at_.toNat 0)) k (s.out.shards.getD (s.out.order.getD s.at_.toNat 0).toNat zP))=r
  split
  ·rfl
  split
  ·rfl
  split
  ·rfl
  exact zRh _ _
 split
 ·unfold zfR
  split
  ·rfl
  simp only
  split
  ·rfl
  split
  ·rfl
  split
  ·rfl
  exact zRh _ _
 split
 ·unfold zfW;simp only;generalize zi4 (s.stripes.getD s.at_.toNat zco) (if zjH s s.at_=true then s.out.shards.getD s.at_.toNat zP else s.shards.getD s.at_.toNat zP) s.snap.epoch s.limit=x
  split
  ·rfl
  split
  ·rfl
  split
  ·exact zH1 _
  ·rfl
 split
 ·unfold zhB zah
  split<;>rfl
 ·rfl
theorem zeE{u:Setup}{a:zy}{t:zq}{n N:Int}(ha:AI u a)(hs:SI u N t.sec)(hed:t.sec.out.edits.length<=1)(e:(goT a t n).2.2.2.2=0):
    AI u (goT a t n).1/\∃s,(goT a t n).2.1={ t with sec:=s }/\SI u (N+1) s/\zd5 t.sec s/\s.out=t.sec.out/\((goT a t n).2.2.1=true↔s.phase=4)/\((goT a t n).2.2.2.1=true↔s.phase=9):=by
 unfold goT at e ⊢
 by_cases c:(zcX a t.sec t.number n).2.2≠0
 ·rw[zacY c] at e;exact absurd e c
 rw[zacX c];have c:=zadh.1 c;obtain⟨h1,h2,h3⟩:=zaal ha hs hed c;exact⟨h1,_,rfl,h2,h3,zaam c,decide_eq_true_iff,decide_eq_true_iff⟩
theorem zabX:∀(l:List Span) (n m r:Int),zdM n l=some m->n<=r->r<m->∃x∈l,inS r x=true:=by
 intro l
 induction l with
 | nil=>intro n m r h h1 h2;simp only[zdM,Option.some.injEq] at h;omega
 | cons x l ih=>
  intro n m r h h1 h2;unfold zdM at h
  split at h
  ·rename_i c
   by_cases hr:r<=x.high
   ·exact⟨x,.head _,by unfold inS;rw[zadn (show x.low<=r by omega),zadn hr];rfl⟩
   ·obtain⟨y,hy,hy2⟩:=ih _ _ r h zo h2;exact⟨y,.tail _ hy,hy2⟩
  ·cases h
theorem zUl{d:zaM}(h:zbC d=0):∀x∈d.l,0<=x.shard/\x.shard<d.forward.length:=by
 unfold zbC at h
 split at h
 ·cases h
 split at h
 ·cases h
 split at h
 ·cases h
 rename_i c;intro x hx;have:=zaee.1 (zafA.2 c) x hx;unfold zin at this;rw[zadT,decide_eq_true_eq,decide_eq_true_eq] at this;omega
theorem zM2{d:zaM}(h:zbC d=0){r:Int}(h0:0<=r)(h1:r<65536):0<=zeR d r/\zeR d r<d.forward.length:=by
 unfold zeR;rw[zacY h];obtain⟨x,hx,hx2⟩:=zabX d.l 0 65536 r (zvm h) h0 h1
 cases hf:d.l.findIdx? (inS r) with
 | none=>
  rw[zae6] at hf;have:=hf x hx;rw[hx2] at this
  cases this
 | some i=>
  have hi:=(zad6.1 hf).1;simp only;rw[zj hi];exact zUl h _ (zadf hi)
theorem zYr{d:zaM}(hf:∀a∈d.forward, -1<=a/\a<d.forward.length):∀(m:Nat) (a:Int), -1<=a->a<d.forward.length-> -1<=zgJ d m a/\zgJ d m a<d.forward.length:=by
 intro m
 induction m with
 | zero=>intro a h0 h1;exact⟨h0,h1⟩
 | succ m ih=>
  intro a h0 h1;unfold zgJ
  split
  ·rename_i c;have hi:a.toNat<d.forward.length:=by omega
   rw[zj hi];have:=hf _ (zadf hi);exact ih _ this.1 this.2
  ·exact⟨h0,h1⟩
theorem zLS{d:zaM}(h:zbC d=0)(a:Int):0<=zdy d a/\zdy d a<d.forward.length:=by
 have hl:=zke h;have hw:=(zH8 h ⟨hl.2.1,by have:=zgf h;omega⟩).1;have ho:=zM2 h (r:=0) zo zo;unfold zdy
 split
 ·rename_i c;refine⟨c,?_⟩;unfold zky at c ⊢
  split at c
  ·omega
  ·rename_i c2;rw[zacX c2];exact (zYr hw _ a zo zo).2
 ·exact ho
theorem zWU{s:zu}(h:za1 s):zlx s:=⟨by have:=h.1;omega,by have:=h.2.1;omega,by have:=h.2.2;omega⟩
theorem zci{s:zu}(h:zaf s=0):za1 s:=by
 have h1:zaX s.ready=0:=by
  have q:=h;unfold zaf at q
  split at q
  ·rename_i c;exact absurd q c
  ·rename_i c;exact zadh.1 c
 have h2:zaA s.leases=0:=by
  have q:=h;unfold zaf at q;rw[zacX (fun c=>c h1)] at q
  split at q
  ·rename_i c;exact absurd q c
  ·rename_i c;exact zadh.1 c
 exact⟨(zc8 h1).2.1,zjJ h2⟩
theorem zf8{s:zu}(q:za1 s):zbn s:=⟨by have:=q.1;omega,by have:=q.2.1;omega,by have:=q.2.2;omega⟩
theorem zch:za1 zP:=⟨by simp [zP],by simp [zP],by simp [zP]⟩
theorem ztI(r:zat)(id:Int):(rmD r id).1.cells.length<=r.cells.length:=by
 unfold rmD
 split
 ·simp only;rw[ziB];exact zadr _
 ·simp [zaP]
theorem zBQ(r:zat)(m:zl):(pbD r m).1.cells.length<=r.cells.length:=by
 unfold pbD
 split
 ·simp only;rw[ziB];exact zadr _
 ·simp [zaP]
theorem z9m(ep:Int):∀(l:List zl) (r:zat),(rmP ep l r).cells.length<=r.cells.length:=by
 intro l
 induction l with
 | nil=>intro r;exact zadr _
 | cons m l ih=>
  intro r;unfold rmP
  split
  ·exact zadL (ih _) (ztI _ _)
  ·exact ih _
theorem zQw(t:zT)(id:Int):(zap t id).1.l.length<=12/\(zap t id).1.heap.length<=12:=by
 by_cases h:(zap t id).2.2=0
 ·exact zjJ (zCO h).1
 ·have:zap t id=(zax,zak,zfm t id):=by
     unfold zap at h ⊢
     split at h
     ·exact absurd rfl h
     ·rename_i hc;rw[zacX hc]
  rw[this];exact⟨by simp [zax],by simp [zax]⟩
theorem z80(ep:Int):∀(l:List zN) (t:zT),t.l.length<=12/\t.heap.length<=12->(zfP ep l t).l.length<=12/\(zfP ep l t).heap.length<=12:=by
 intro l
 induction l with
 | nil=>intro t h;exact h
 | cons y l ih=>
  intro t h;unfold zfP
  split
  ·exact ih _ (zQw _ _)
  ·exact ih _ h
theorem zZv{s:zu}(h:za1 s)(ep:Int):za1 (zhT s ep).1:=by
 unfold zhT
 split
 ·exact zch
 split
 ·exact zch
 obtain⟨h1,h2,h3⟩:=h;have:=z80 ep s.leases.l s.leases ⟨h2,h3⟩;exact⟨zadL (z9m _ _ _) h1,this.1,this.2⟩
theorem zZw{s:zu}(h:za1 s)(k:Int):za1 (zgd s k).1:=by
 unfold zgd
 split
 ·exact zch
 split
 ·exact zch
 obtain⟨h1,h2,h3⟩:=h;refine⟨?_,h2,h3⟩;show (zfe s.ready k).1.cells.length<=12;unfold zfe
 split
 ·simp [zaP]
 split
 ·simp [zaP]
 simp only;rw[ziB];exact h1
theorem zsr{s:zu}(h:za1 s)(m:zl):za1 (zc7 s m).1:=by
 obtain⟨h1,h2,h3⟩:=h;unfold zc7
 repeat' split
 all_goals first|exact zch|exact⟨zadL (zBQ _ _) h1,h2,h3⟩
theorem zZt(lo hi:Int):∀(l:List zl) (s:zu),za1 s->za1 (zfa lo hi l s).1:=by
 intro l
 induction l with
 | nil=>intro s h;exact h
 | cons m l ih=>
  intro s h;unfold zfa
  split
  ·exact zch
  ·exact ih _ (zsr h _)
theorem zAI{s:zu}(h:za1 s)(l:List zl):za1 (zgA s l).1:=by
 unfold zgA
 split
 ·exact zch
 split
 ·exact zch
 exact zZt _ _ _ _ h
theorem zD2(k ep lim:Int):∀(l:List zl) (r:zat) (out:List zl),(zex k ep lim l r out).1.cells.length<=r.cells.length/\(zex k ep lim l r out).2.length<=out.length+l.length:=by
 intro l
 induction l with
 | nil=>intro r out;exact⟨zadr _,zadr _⟩
 | cons m l ih=>
  intro r out;unfold zex
  split
  ·exact⟨zadr _,by simp only;omega⟩
  split
  ·have:=ih (rmD r m.id).1 (out++[m]);have q:=ztI r m.id;simp only[zac6,zac4,zac5] at this ⊢;omega
  ·have:=ih r out;simp only[zac4];omega
theorem zZu{s:zu}(h:za1 s)(k ep lim:Int):za1 (zf9 s k ep lim).1:=by
 unfold zf9
 split
 ·exact zch
 split
 ·exact zch
 obtain⟨h1,h2,h3⟩:=h;exact⟨zadL (zD2 _ _ _ _ _ _).1 h1,h2,h3⟩
theorem zWy(lo hi:Int):∀(l:List zl) (r:zat),(zbQ lo hi l r).cells.length<=r.cells.length:=by
 intro l
 induction l with
 | nil=>intro r;exact zadr _
 | cons m l ih=>
  intro r;unfold zbQ
  split
  ·exact zadL (ih _) (zBQ _ _)
  ·exact ih _
theorem zHM(lo hi:Int):∀(l:List zN) (t:zT),t.l.length<=12/\t.heap.length<=12->(zeA lo hi l t).l.length<=12/\(zeA lo hi l t).heap.length<=12:=by
 intro l
 induction l with
 | nil=>intro t h;exact h
 | cons y l ih=>
  intro t h;unfold zeA
  split
  ·exact ih _ (zYn _ _ _)
  ·exact ih _ h
theorem zAJ{s:zu}(h:za1 s)(l:List zl)(y:List zN):za1 (zgE s l y):=by
 obtain⟨h1,h2,h3⟩:=h;have:=zHM s.low s.high y s.leases ⟨h2,h3⟩;exact⟨zadL (zWy _ _ _ _) h1,this.1,this.2⟩
theorem zsq(n lo hi:Int):za1 (zG n lo hi).1:=by
 unfold zG
 split
 ·exact zch
 split
 ·exact zch
 refine⟨?_,by simp [zax],by simp [zax]⟩;simp only[zad2];omega
theorem zZx(n:Int):za1 (zao n).1:=by
 unfold zao
 split
 ·exact zch
 refine⟨?_,by simp [zax],by simp [zax]⟩;simp only[zad2];omega
theorem zsp(s:zu)(mid:Int):za1 (zd8 s mid).1/\za1 (zd8 s mid).2.1:=by
 unfold zd8
 split
 ·exact⟨zch,zch⟩
 split
 ·exact⟨zch,zch⟩
 exact⟨zAJ (zsq _ _ _) _ _,zAJ (zsq _ _ _) _ _⟩
theorem zZy{a:zu}(h:za1 a)(b:zu):za1 (ziK a b).1:=by
 unfold ziK
 split
 ·exact zch
 split
 ·exact zch
 split
 ·exact zch
 split
 ·exact zch
 split
 ·exact zch
 exact zAJ (s:={ a with low:=if a.low<b.low then a.low else b.low,high:=if a.high<b.high then b.high else a.high }) h _ _
theorem zL5(s:zu)(now ep lim:Int):za1 (zc2 s now ep lim).1:=by
 by_cases c:(zc2 s now ep lim).2.2=0
 ·exact zci (zTG c).1
 ·have e:(zc2 s now ep lim).1=zP:=by
     unfold zc2 at c ⊢
     split
     ·rfl
     ·rename_i c1;rw[zacX c1] at c
      split
      ·rename_i c2;rw[zacY c2] at c;exact absurd rfl c
      ·rfl
  rw[e];exact zch
theorem zmn{x:zu}(h:za1 x):zlx x:=zWU h
theorem zL2{n c:Int}(h:c<n):kOf n [c]=1:=by simp [kOf,h]
theorem zsn{n a b:Int}(h1:a<n)(h2:b<n):kOf n [a,b]=2:=by simp [kOf,h1,h2]
theorem zso{n c:Int}(h:c<n):kOf n [c,n]=1:=by simp [kOf,h]
theorem SI.un{u:Setup}{N:Int}{s:Section}(hs:SI u N s):OI s (zaa s):=by
 have hd:=hs.dv;constructor
 ·rfl
 ·intro x hx;exact zmn (zci (hs.sv x hx).1)
 ·simp only[zaa];omega
 ·intro i hi;cases hi
 ·exact zafJ
 ·simp [zaa]
 ·simp [zaa]
 ·simp [zaa]
theorem SI.one{u:Setup}{N:Int}{s:Section}(hs:SI u N s)(hk:s.shards.length=1){x:zu}(hx:za1 x):OI s { zaa s with shards:=[x],order:=[0] }:=by
 have hd:=hs.dv;have hc:=hs.lw.c1;constructor
 ·simp only[zac4,zac5];omega
 ·intro y hy;rw[zadD.1 hy];exact zmn hx
 ·simp only[zaa];omega
 ·intro i hi;rw[zadD.1 hi];omega
 ·simp
 ·simp
 ·simp [zaa]
 ·simp [zaa]
theorem SI.two {u:Setup} {N:Int} {s:Section} (hs:SI u N s) (hk:s.shards.length=2) (hn:s.lock.cells.length=2) {x y:zu} (hx:za1 x) (hy:za1 y) {ord:List Int} (ho:ord=[0,1]\/ord=[1,0]) {l:List zu} (hl:l=[x,y]\/l=[y,x])
    {ca:List zl} (hc:ca.length<=1000) {ed:List zeu} (he:ed.length<=1):OI s ⟨l,s.dead,ord,ca,ed⟩:=by
 have hd:=hs.dv;constructor
 ·rcases hl with h|h<;>rw[h,hk]<;>rfl
 ·intro z hz
  rcases hl with h|h<;>rw[h] at hz<;>simp only[zadB,zaeU,zaec] at hz<;>rcases hz with h|h<;>rw[h]<;>first|exact zmn hx|exact zmn hy
 ·simp only;omega
 ·intro i hi;rw[hn]
  rcases ho with h|h<;>rw[h] at hi<;>simp only[zadB,zaeU,zaec] at hi<;>omega
 ·rcases ho with h|h<;>rw[h]<;>simp
 ·rcases ho with h|h<;>rw[h]<;>simp
 ·exact hc
 ·exact he
theorem SI.dead {u:Setup} {N:Int} {s:Section} (hs:SI u N s) (hk:s.shards.length=1) (hn:s.lock.cells.length=2) {x:zu} (hx:za1 x) {d:zbw} (hd:d.l.length<=1000) {ord:List Int} (ho:ord=[0,1]\/ord=[1,0])
    {ca:List zl} (hc:ca.length<=1000):OI s ⟨[x],d,ord,ca,[]⟩:=by
 constructor
 ·rw[hk];rfl
 ·intro z hz;rw[zadD.1 hz];exact zmn hx
 ·exact hd
 ·intro i hi;rw[hn]
  rcases ho with h|h<;>rw[h] at hi<;>simp only[zadB,zaeU,zaec] at hi<;>omega
 ·rcases ho with h|h<;>rw[h]<;>simp
 ·rcases ho with h|h<;>rw[h]<;>simp
 ·exact hc
 ·simp
theorem zlm{u:Setup}{N:Int}{t:zq}(hs:SI u N t.sec):za1 (sh0 t):=by
 unfold sh0
 cases h:t.sec.shards with
 | nil=>exact zch
 | cons x l=>exact zci (hs.sv x (by rw[h];exact .head _)).1
theorem ztM{u:Setup}{N:Int}{t:zq}(hs:SI u N t.sec)(i:Nat):za1 (t.sec.shards.getD i zP):=by
 by_cases h:i<t.sec.shards.length
 ·rw[zj h];exact zci (hs.sv _ (zadf h)).1
 ·rw[zadC,zaeX zo];exact zch
theorem zL7(s:zu)(mx now vis ep lim:Int):za1 (zda s mx now vis ep lim).1:=by
 by_cases c:(zda s mx now vis ep lim).2.2=0
 ·exact zci (zTI c).1
 ·have e:(zda s mx now vis ep lim).1=zP:=by
     unfold zda at c ⊢
     split
     ·rfl
     ·rename_i c1;rw[zacX c1] at c
      split
      ·rfl
      ·rename_i c2;rw[zacX c2] at c;exact (zabZ mx (now+vis) ep lim (zI s.ready) s [] c).1
  rw[e];exact zch
theorem zL6{t:zq}(h:(zdZ t).2=0):za1 (zdZ t).1:=by
 unfold zdZ at h ⊢
 split
 ·rename_i c;rw[zacY c] at h;exact zci (zTE h).1
 ·rename_i c;rw[zacX c] at h
  split
  ·rename_i c2;rw[zacY c2] at h;exact zci (zTH h).1
  ·rename_i c2;rw[zacX c2] at h;exact zci (zTF h).1
def ziL(u:Setup)(N:Int)(s s':Section):Prop:=SI u N s'/\zd5 s s'/\s'.out.edits.length<=1
theorem zdv{u:Setup}{N:Int}{t:zq}{o:zcz}(hs:SI u N t.sec)(hp:t.sec.phase=4)(ho:OI t.sec o):ziL u N t.sec (zaU t o).sec:=by
 obtain⟨_,h2,h3,h4⟩:=zUg hs hp ho;exact⟨h2,h3,by show (zfd t.sec o).1.out.edits.length<=1;rw[h4];exact ho.ed⟩
theorem zaaq(K:Tok){u:Setup}{N:Int}{t:zq}(hs:SI u N t.sec)(hp:t.sec.phase=4)(hk:t.sec.shards.length=1):ziL u N t.sec (zdX K t).1.sec:=by
 have h0:=zlm hs;unfold zdX;simp only
 split
 ·exact zdv (t:={ t with loaded:=0 }) hs hp hs.un
 split
 ·split
  ·exact zdv (t:={ t with loaded:=0,walk:=(zf2 t.walk (sh0 t).low (sh0 t).high).1 }) hs hp hs.un
  ·exact zdv (t:={ t with loaded:=2,walk:=(zf2 t.walk (sh0 t).low (sh0 t).high).1 }) hs hp hs.un
 ·exact zdv (t:={ t with loaded:=1 }) hs hp (hs.one hk (zsr h0 _))
theorem z8z{u:Setup}{N:Int}{t:zq}(hs:SI u N t.sec)(hp:t.sec.phase=4)(hk:t.sec.shards.length=1):ziL u N t.sec (zdU t).1.sec:=by
 unfold zdU;simp only
 split
 ·exact zdv (t:={ t with loaded:=0 }) hs hp hs.un
 split
 ·exact zdv (t:={ t with loaded:=3 }) hs hp hs.un
 have hx:∀r:zu×List Int×List zN,za1 r.1->OI t.sec (if 0<r.2.1.length\/0<r.2.2.length then { zaa t.sec with shards:=[r.1],order:=[0] } else zaa t.sec):=by
  intro r hr
  split
  ·exact hs.one hk hr
  ·exact hs.un
 have ho:=hx (zdL { t with loaded:=0 }) (zL7 _ _ _ _ _ _)
 split
 ·exact zdv (t:={ t with loaded:=1,walk:=_ }) hs hp ho
 split
 ·exact zdv (t:={ t with loaded:=2,walk:=_ }) hs hp ho
 ·exact zdv (t:={ t with loaded:=0,walk:=_ }) hs hp ho
theorem zaaE{u:Setup}{N:Int}{t:zq}(hs:SI u N t.sec)(hp:t.sec.phase=4)(hk:t.sec.shards.length=1):ziL u N t.sec (zdY t).1.sec:=by
 unfold zdY;simp only
 split
 ·exact zdv hs hp hs.un
 ·by_cases c:(zdZ t).2=0
  ·simp only[c,if_true];exact zdv hs hp (hs.one hk (zL6 c))
  ·simp only[c,if_false];exact zdv hs hp hs.un
theorem zgN{s:zu}(h:zal s=0):zaf s=0:=by
 unfold zal at h
 split at h
 ·rename_i c;exact absurd h c
 ·rename_i c;exact zadh.1 c
theorem zhw{s:zu}(h:zaf s=0):(zI s.ready).length<=12:=by
 have h1:zaX s.ready=0:=by
  unfold zaf at h
  split at h
  ·rename_i c;exact absurd h c
  ·rename_i c;exact zadh.1 c
 obtain⟨q1,q2,q3,q4,q5,q6⟩:=zc8 h1;rw[zhv];omega
theorem zBz{s:zu}(h:zaf s=0):(za9 s).length<=24:=by
 have h1:=zhw h;have h2:=(zci h).2.1;unfold za9;simp only[zac6,zadd];omega
theorem zG3(s:zu)(k:Int):(zgd s k).2.1.length<=12:=by
 unfold zgd
 split
 ·simp
 split
 ·simp
 rename_i c _;have:=zhw (zgN (zadh.1 c));show (zfe s.ready k).2.1.length<=12;unfold zfe
 split
 ·simp
 split
 ·simp
 simp only[zafc];omega
theorem z6p(r:zat)(m:zl):(pbD r m).1.size.toNat<=r.size.toNat+1:=by
 unfold pbD
 split
 ·simp only[rg,zac6,zhv,zac4,zac5];omega
 ·simp [zaP]
theorem zWz(lo hi:Int):∀(l:List zl) (r:zat),(zbQ lo hi l r).size.toNat<=r.size.toNat+l.length:=by
 intro l
 induction l with
 | nil=>intro r;exact zadr _
 | cons m l ih=>
  intro r;unfold zbQ;simp only[zac4]
  split
  ·have:=ih (pbD r m).1;have:=z6p r m;omega
  ·have:=ih r;omega
theorem zUK(s:zu)(mid:Int):(za9 (zd8 s mid).2.1).length<=24:=by
 have hl:=(zsp s mid).2.2.1;have:(zI (zd8 s mid).2.1.ready).length<=12:=by
  rw[zhv];unfold zd8
  split
  ·simp [zP]
  split
  ·simp [zP]
  rename_i c _;have h1:=zhw (zgN (zadh.1 c));have h2:=zWz (zG s.ready.cells.length (mid+1) s.high).1.low (zG s.ready.cells.length (mid+1) s.high).1.high (zI s.ready) (zG s.ready.cells.length (mid+1) s.high).1.ready;have h3:(zG s.ready.cells.length (mid+1) s.high).1.ready.size=0:=by
   unfold zG
   split
   ·rfl
   split
   ·rfl
   rfl
  rw[h3] at h2;simp only[zgE];simp only[Int.toNat_zero] at h2;omega
 unfold za9;simp only[zac6,zadd];omega
theorem zQV(k ep:Int):∀(l rest out:List zl),(zen k ep l rest out).1.length+(zen k ep l rest out).2.length=l.length+rest.length+out.length:=by
 intro l
 induction l with
 | nil=>intro rest out;simp [zen]
 | cons m l ih=>
  intro rest out;unfold zen
  split
  ·rw[ih];simp only[zac6,zac4,zac5];omega
  ·rw[ih];simp only[zac6,zac4,zac5];omega
theorem zQ3(d:zbw)(k ep:Int):(zhJ d k ep).1.l.length<=d.l.length/\(zhJ d k ep).2.1.length<=d.l.length:=by
 have:=zQV k ep d.l [] [];simp only[zac5] at this;unfold zhJ
 split
 ·simp [zaW]
 split
 ·simp [zaW]
 simp only;omega
theorem zTs(d:zbw)(ep:Int):(zhS d ep).1.l.length<=d.l.length:=by
 unfold zhS
 split
 ·simp [zaW]
 split
 ·simp [zaW]
 exact zaeh _ _
theorem z65(d:zbw)(l:List zl):(zjx d l).1.l.length<=d.l.length+l.length:=by
 unfold zjx
 split
 ·simp [zaW]
 split
 ·simp [zaW]
 split
 ·simp [zaW]
 simp only[zac6];omega
theorem zD3(s:zu)(k ep lim:Int):(zf9 s k ep lim).2.1.length<=12:=by
 unfold zf9
 split
 ·simp
 split
 ·simp
 rename_i c _;have h1:=zhw (zgN (zadh.1 c));have h2:=(zD2 k ep lim (zI s.ready) s.ready []).2;simp only[zac5] at h2 ⊢;omega
theorem z8H{u:Setup}{N:Int}{t:zq}(hs:SI u N t.sec)(hp:t.sec.phase=4)(hk:t.sec.shards.length=1)(hn:t.sec.lock.cells.length=2):ziL u N t.sec (zdV t).1.sec:=by
 have hd:=hs.dv;have h0:=zlm hs;unfold zdV;simp only
 split
 ·exact zdv hs hp hs.un
 split
 ·exact zdv hs hp hs.un
 split
 ·exact zdv hs hp hs.un
 ·have:=zQ3 t.sec.dead (zgy t) t.sec.snap.epoch;exact zdv hs hp (hs.dead hk hn (zAI h0 _) zo (.inr rfl) (by rw[zadd];omega))
theorem zBR(t:zq)(x y:zu):zek t x y=[x,y]\/zek t x y=[y,x]:=by
 unfold zek
 split
 ·exact .inl rfl
 ·exact .inr rfl
theorem zBK(t:zq):zdi t=[0,1]\/zdi t=[1,0]:=by
 unfold zdi
 split
 ·exact .inl rfl
 ·exact .inr rfl
theorem zH4{u:Setup}{N:Int}{t:zq}(hs:SI u N t.sec):za1 (zab t):=by
 unfold zab
 split
 ·exact ztM hs 0
 ·exact ztM hs 1
theorem zDo{u:Setup}{N:Int}{t:zq}(hs:SI u N t.sec):za1 (za6 t):=by
 unfold za6
 split
 ·exact ztM hs 1
 ·exact ztM hs 0
theorem zC5{u:Setup}{N:Int}{t:zq}(hs:SI u N t.sec)(hk:t.sec.shards.length=2)(hn:t.sec.lock.cells.length=2):OI t.sec (zb2 t).1:=by
 unfold zb2;simp only
 split
 ·exact hs.un
 split
 ·exact hs.un
 ·exact hs.two hk hn (zZw (zH4 hs) _) (zAI (zDo hs) _) (zBK t) (zBR _ _ _) (by have:=zG3 (zab t) (zim (((zab t).ready.size+1).tdiv 2) ((za6 t).ready.cells.length - zbs (za6 t)));omega) (by simp [zaa])
theorem zC4{u:Setup}{N:Int}{t:zq}(hs:SI u N t.sec)(hk:t.sec.shards.length=2)(hn:t.sec.lock.cells.length=2):OI t.sec (zb1 t).1:=by
 unfold zb1;simp only
 split
 ·exact hs.un
 ·have h:=zsp (zab t) (((zab t).low+(zab t).high).tdiv 2);have h2:=zUK (zab t) (((zab t).low+(zab t).high).tdiv 2);exact hs.two hk hn h.1 h.2 (zBK t) (zBR _ _ _) zo (by simp)
theorem zBw{u:Setup}{N:Int}{t:zq}(hs:SI u N t.sec)(hk:t.sec.shards.length=2)(hn:t.sec.lock.cells.length=2):OI t.sec (zbX t).1:=by
 unfold zbX;simp only
 split
 ·exact hs.un
 ·rename_i c;have hv:zaf (zab t)=0:=by
   have c:=zadh.1 c;unfold ziK at c
   split at c
   ·rename_i c1;exact absurd c c1
   split at c
   ·rename_i c2;exact absurd c c2
   ·rename_i c2;exact zadh.1 c2
  have:=zBz hv;exact hs.two hk hn (zZx _) (zZy (zDo hs) _) (zBK t) (zBR _ _ _) zo (by simp)
theorem zDa{u:Setup}{N:Int}{t:zq}(hs:SI u N t.sec)(hk:t.sec.shards.length<=1):OI t.sec (zbx t).1:=by
 have hd:=hs.dv;have hc:=hs.lw.c1;unfold zbx;simp only
 split
 ·rename_i c
  split
  ·have:=zTs t.sec.dead t.sec.snap.epoch;have hu:=hs.un;refine { hu with dd:=by simp only;omega,ord:= ?_,nd:=by simp,ol:=by simp };intro i hi;rw[zadD.1 hi];omega
  ·exact hs.un
 rename_i c;have hk1:t.sec.shards.length=1:=by omega
 split
 ·exact hs.un
 split
 ·split
  ·exact hs.one hk1 (zZv (zlm hs) _)
  ·exact hs.un
 ·split
  ·exact hs.un
  ·exact hs.one hk1 (zL5 _ _ _ _)
theorem zuy{u:Setup}{N:Int}{t:zq}(hs:SI u N t.sec)(hk:t.sec.shards.length=1)(hn:t.sec.lock.cells.length=2):OI t.sec (zbT t).1:=by
 have hd:=hs.dv;unfold zbT;simp only
 split
 ·exact hs.un
 split
 ·exact hs.un
 ·have h1:=zD3 (sh0 t) (zgU t.sec.dead) t.sec.snap.epoch t.setup.limit;have h2:=z65 t.sec.dead (zf9 (sh0 t) (zgU t.sec.dead) t.sec.snap.epoch t.setup.limit).2.1;exact hs.dead hk hn (zZu (zlm hs) _ _ _) zo (.inl rfl) zo
def onP(k pc:Int):Prop:=pc≠0/\(k=1/\pc≠1/\pc≠2\/k=2/\pc≠2\/3<=k/\k<=5/\pc≠1\/8<=k)
structure zaB(u:Setup)(N:Int)(i:Invocation)(s:Section):Prop where
 si:SI u N s
 ed:s.out.edits.length<=1
 c1:1<=i.kind/\i.kind<=5->∃c,0<=c/\c<u.slots/\s.lock.cells=[c]
 c8:i.kind=8->∃c,0<=c/\c<u.slots/\s.lock.cells=[c,u.slots]
 c9:9<=i.kind/\i.kind<=11->s.lock.cells=zaN i.from_ i.to
 c12:12<=i.kind/\i.kind<=13->s.lock.cells=[i.from_]
 c14:i.kind=14->s.lock.cells=[i.from_,u.slots]
theorem zaB.keep{u:Setup}{N M:Int}{i:Invocation}{s s':Section}(h:zaB u N i s)(h1:SI u M s')(h2:zd5 s s')(h3:s'.out.edits.length<=1):zaB u M i s':=by
 have e:=h2.cells;exact⟨h1,h3,by rw[e];exact h.c1,by rw[e];exact h.c8,by rw[e];exact h.c9,by rw[e];exact h.c12,by rw[e];exact h.c14⟩
theorem zaB.mono{u:Setup}{N M:Int}{i:Invocation}{s:Section}(h:zaB u N i s)(hn:N<=M):zaB u M i s:=h.keep (h.si.mono hn) ⟨rfl,rfl⟩ h.ed
theorem zaB.dec{u:Setup}{N:Int}{i:Invocation}{s s':Section}(h:zaB u N i s)(d:ziL u N s s'):zaB u N i s':=h.keep d.1 d.2.1 d.2.2
structure TI(u:Setup)(N:Int)(t:zq):Prop where
 nm:1<=t.number/\t.number<=200
 iv:zaK t.inv u=0
 su:t.setup=u
 e0:0<=t.entry
 e1:t.done=false->t.entry<zdw t.inv
 e2:(t.results.length:Int)=t.entry
 wk:0<=t.walk.next/\t.walk.next<65536/\0<=t.walk.covered/\t.walk.covered<=131072
 ld:0<=t.loaded/\t.loaded<=1073741824
 id:0<=t.id/\t.id<=1073741824+N
 hd:0<=t.handle.route/\t.handle.route<65536
 fs:(t.first.length:Int)<=u.slots/\(t.second.length:Int)<=u.slots
 di:t.dir.l.length<=65536/\t.dir.forward.length<=6
 nn:0<=N
 se:onP t.inv.kind t.pc->zaB u N t.inv t.sec
theorem TI.mono{u:Setup}{N M:Int}{t:zq}(h:TI u N t)(hn:N<=M):TI u M t:={ h with id:=⟨h.id.1,by have:=h.id.2;omega⟩,nn:=by have:=h.nn;omega,se:=fun q=>(h.se q).mono hn }
theorem znC{u:Setup}(h:zJ u=true):(1<=u.slots/\u.slots<=6)/\1<=u.limit/\u.limit<=8:=by
 unfold zJ inI at h;simp only[zac7,decide_eq_true_eq] at h;omega
theorem zih{i:Invocation}{s:Setup}(h:zaK i s=0)(hk:9<=i.kind/\i.kind<=11):(0<=i.from_/\i.from_<s.slots)/\(0<=i.to/\i.to<s.slots)/\i.from_≠i.to:=by
 unfold zaK at h;rw[zacX zo,zacX zo,zacX zo,zacY hk] at h
 split at h
 ·cases h
 ·rename_i c;unfold inI at c;simp only[decide_eq_false_iff_not] at c;omega
theorem zkA{i:Invocation}{s:Setup}(h:zaK i s=0)(hk:i.kind=12\/i.kind=14):0<=i.from_/\i.from_<s.slots:=by
 unfold zaK at h;rw[zacX zo,zacX zo,zacX zo,zacX zo,zacY hk] at h
 split at h
 ·cases h
 ·rename_i c;unfold inI at c;simp only[decide_eq_false_iff_not] at c;omega
theorem zLZ{i:Invocation}{s:Setup}(h:zaK i s=0)(hk:i.kind=13):0<=i.from_/\i.from_<=s.slots:=by
 unfold zaK at h;rw[zacX zo,zacX zo,zacX zo,zacX zo,zacX zo,zacY hk] at h
 split at h
 ·cases h
 ·omega
theorem zYP{i:Invocation}{s:Setup}(h:zaK i s=0):1<=i.kind/\i.kind<=14:=by
 unfold zaK at h
 by_cases c:1<=i.kind/\i.kind<=14
 ·exact c
 ·rw[zacX zo,zacX zo,zacX zo,zacX zo,zacX zo,zacX zo,zacX zo] at h
  cases h
theorem zfk{u:Setup}{N:Int}{t:zq}(h:TI u N t)(hd:t.done=false)(r:Result)(n:Int):TI u N (za4 t r n):=by
 have h1:=h.e1 hd;have h0:=h.e0;have hf:=h.fs;have hn:=h.nn;unfold za4;refine { nm:=h.nm,iv:=h.iv,su:=h.su,e0:=by simp only;omega,e1:= ?_,e2:= ?_,wk:=by simp [zD],ld:=by simp [zD],id:=⟨by simp [zD],by simp only[zD];omega⟩,hd:=by simp [zD],fs:=⟨by simp only[zD,zac5];omega,by simp only[zD,zac5];omega⟩,di:=by simp [zD],nn:=hn,se:=fun q=>absurd rfl q.1 }
 ·simp only;intro q
  split at q
  ·cases q
  ·omega
 ·simp only[zac6,zac4,zac5];have:=h.e2;omega
theorem zuk{c n:Int}(h:0<=c/\c<=n):zet [c] n:=⟨List.pairwise_singleton _ _,fun x hx=>by rw[zadD.1 hx];exact h,by simp⟩
theorem zma{c d n:Int}(h0:0<=c)(h1:c<d)(h2:d<=n):zet [c,d] n:=
 ⟨by simpa using h1,fun x hx=>by simp only[zadB,zaeU,zaec] at hx;rcases hx with h|h<;>omega,by simp⟩
theorem zj0{a b n:Int}(h0:0<=a/\a<n)(h1:0<=b/\b<n)(h2:a≠b):zet (zaN a b) n:=by
 unfold zaN
 split
 ·exact zma zo zo zo
 ·exact zma zo zo zo
theorem ziH{u:Setup}{N lim:Int}{cells:List Int}(hq:zJ u=true)(hl:lim=u.limit)(hN:0<=N)(hc:zet cells u.slots)(h1:1<=cells.length):SI u N (zdW cells lim).1/\(zdW cells lim).1.out.edits.length<=1/\(zdW cells lim).1.lock.cells=cells:=by
 have hb:=znC hq;subst hl;obtain⟨_,q2,q3,_,_,q4⟩:=zaai (N:=N) hc hb.1.2 h1 hb.2 hN;exact⟨q2,by rw[q4];simp,q3⟩
theorem zdx{t:zq}{lo hi:Int}(h:z8 t lo hi=0):t.done=false/\lo<=t.inv.kind/\t.inv.kind<=hi:=by
 unfold z8 at h
 split at h
 ·cases h
 ·rename_i c
  split at h
  ·cases h
  ·exact⟨zafA.2 c,by omega,by omega⟩
theorem zkX{k pc:Int}(h:6<=k/\k<=7):¬onP k pc:=by
 intro q;unfold onP at q;omega
theorem z6Y{u:Setup}{a:zy}{t:zq}{n N:Int}(ha:AI u a)(ht:TI u N t)(e:(zb9 a t n).2.2.2=0):AI u (zb9 a t n).1/\TI u (N+1) (zb9 a t n).2.1:=by
 have ht:=ht.mono (show N<=N+1 by omega);have hep:=ha.ep;unfold zb9 at e ⊢
 by_cases c:z8 t 6 6=0
 ·rw[zacX (fun q=>q c)] at e ⊢;obtain⟨g1,g2⟩:=zdx c
  by_cases c1:t.pc=0
  ·rw[zacY c1];have hl:TI u (N+1) { t with loaded:=a.epoch }:={ ht with ld:=⟨hep.1,by simp only;omega⟩ }
   split
   ·exact⟨ha,zfk hl g1 _ _⟩
   ·exact⟨ha,{ hl with se:=fun q=>absurd q (zkX (by simp only;omega)) }⟩
  ·rw[zacX c1] at e ⊢;simp only at e ⊢;have hc:=ha.casWord 1 t.loaded (t.loaded+1);generalize casWord a 1 t.loaded (t.loaded+1)=r at *
   by_cases c2:r.2.2=0
   ·rw[zacX (fun q=>q c2)] at e ⊢
    split
    ·exact⟨hc c2,{ ht with se:=fun q=>absurd q (zkX (by simp only;omega)) }⟩
    ·exact⟨hc c2,zfk ht g1 _ _⟩
   ·rw[zacY c2] at e;exact absurd e c2
 ·rw[zacY c] at e;exact absurd e c
theorem zMd{u:Setup}{a:zy}(ha:AI u a){i:Int}(h:(zeJ a i).2=0):0<=i/\i<u.slots:=by
 unfold zeJ at h
 split at h
 ·rename_i c;have:=ztP.1 c;have:=ha.sl;omega
 ·cases h
theorem zTN{u:Setup}{a:zy}{t:zq}{n N:Int}(ha:AI u a)(ht:TI u N t)(hn:0<=n/\n<=N+1)(e:(zcS a t n).2.2.2=0):AI u (zcS a t n).1/\TI u (N+1) (zcS a t n).2.1:=by
 have ht:=ht.mono (show N<=N+1 by omega);have hep:=ha.ep;have hfs:=ht.fs;have hid:=ht.id;unfold zcS at e ⊢
 by_cases c:z8 t 7 7=0
 ·rw[zacX (fun q=>q c)] at e ⊢;obtain⟨g1,g2⟩:=zdx c
  by_cases c1:t.pc=0
  ·rw[zacY c1];exact⟨ha,{ ht with ld:=⟨hep.1,by simp only;omega⟩,fs:=⟨by simp only[zac5];omega,by simp only[zac5];omega⟩,se:=fun q=>absurd q (zkX (by simp only;omega)) }⟩
  rw[zacX c1] at e ⊢
  by_cases c2:t.pc=1
  ·rw[zacY c2] at e ⊢;simp only at e ⊢;have hl:=zMd ha (i:=t.first.length);generalize zeJ a t.first.length=r at *
   by_cases c3:r.2=0
   ·rw[zacX (fun q=>q c3)];have:=hl c3;exact⟨ha,{ ht with fs:=⟨by simp only[zac6,zac4,zac5];omega,hfs.2⟩,se:=fun q=>absurd q (zkX (by simp only;omega)) }⟩
   ·rw[zacY c3] at e;exact absurd e c3
  rw[zacX c2] at e ⊢
  by_cases c4:t.pc=2
  ·rw[zacY c4] at e ⊢;simp only at e ⊢;have hl:=zMd ha (i:=t.second.length);generalize zeJ a t.second.length=r at *
   by_cases c3:r.2=0
   ·rw[zacX (fun q=>q c3)];have:=hl c3;exact⟨ha,{ ht with id:=by simp only;split<;>omega,fs:=⟨hfs.1,by simp only[zac6,zac4,zac5];omega⟩,se:=fun q=>absurd q (zkX (by simp only;omega)) }⟩
   ·rw[zacY c3] at e;exact absurd e c3
  rw[zacX c4] at e ⊢
  split
  ·exact⟨ha,{ ht with se:=fun q=>absurd q (zkX (by simp only;omega)) }⟩
  ·exact⟨ha,zfk ht g1 _ _⟩
 ·rw[zacY c] at e;exact absurd e c
theorem zkx{u:Setup}{a:zy}{t:zq}{n N:Int}(ha:AI u a)(hs:zaB u N t.inv t.sec)(e:(goT a t n).2.2.2.2=0):
    AI u (goT a t n).1/\∃s,(goT a t n).2.1={ t with sec:=s }/\zaB u (N+1) t.inv s/\((goT a t n).2.2.1=true↔s.phase=4):=by
 obtain⟨h1,s,h2,h3,h4,h5,h6,_⟩:=zeE ha hs.si hs.ed e;exact⟨h1,s,h2,hs.keep h3 h4 (by rw[h5];exact hs.ed),h6⟩
theorem TI.sec{u:Setup}{N:Int}{t:zq}{s:Section}(ht:TI u N t)(hs:zaB u N t.inv s):TI u N { t with sec:=s }:={ ht with se:=fun _=>hs }
theorem zAG{u:Setup}{N:Int}{i:Invocation}{s:Section}(h:zaB u N i s)(hk:1<=i.kind/\i.kind<=5)(hp:s.phase=4):s.shards.length=1:=by
 obtain⟨c,c0,c1,c2⟩:=h.c1 hk;have:=(h.si.ph.p4 hp).2.2;rw[this,c2,zL2 c1]
theorem zAH{u:Setup}{N:Int}{i:Invocation}{s:Section}(h:zaB u N i s)(hk:9<=i.kind/\i.kind<=11)(hv:zaK i u=0)(hp:s.phase=4):s.shards.length=2/\s.lock.cells.length=2:=by
 have c:=h.c9 hk;have:=(h.si.ph.p4 hp).2.2;obtain⟨v1,v2,v3⟩:=zih hv hk;rw[this,c];unfold zaN
 split
 ·exact⟨zsn v1.2 v2.2,rfl⟩
 ·exact⟨zsn v2.2 v1.2,rfl⟩
theorem zZp{u:Setup}{N:Int}{i:Invocation}{s:Section}(h:zaB u N i s)(hk:i.kind=8)(hp:s.phase=4):s.shards.length=1/\s.lock.cells.length=2:=by
 obtain⟨c,c0,c1,c2⟩:=h.c8 hk;have:=(h.si.ph.p4 hp).2.2;rw[this,c2];exact⟨zso c1,rfl⟩
theorem zZn{u:Setup}{N:Int}{i:Invocation}{s:Section}(h:zaB u N i s)(hk:i.kind=14)(hv:zaK i u=0)(hp:s.phase=4):s.shards.length=1/\s.lock.cells.length=2:=by
 have c:=h.c14 hk;have:=(h.si.ph.p4 hp).2.2;have v:=zkA hv (.inr hk);rw[this,c];exact⟨zso v.2,rfl⟩
theorem zZm{u:Setup}{N:Int}{i:Invocation}{s:Section}(h:zaB u N i s)(hk:12<=i.kind/\i.kind<=13)(hp:s.phase=4):s.shards.length<=1:=by
 have c:=h.c12 hk;have:=(h.si.ph.p4 hp).2.2;have q:=zmK u.slots s.lock.cells;rw[c] at q this;simp only[zac4,zac5] at q;omega
theorem zne {u:Setup} {a:zy} {t:zq} {n N lo hi:Int} {plan:zq->Pln} {cells:zq->List Int} (hu:zJ u=true) (ha:AI u a) (ht:TI u N t) (hlo:9<=lo)
    (hc:∀t,TI u N t->lo<=t.inv.kind/\t.inv.kind<=hi->zet (cells t) u.slots/\1<=(cells t).length/\∀s,SI u N s->s.out.edits.length<=1->s.lock.cells=cells t->zaB u N t.inv s)
    (ho:∀t,TI u (N+1) t->lo<=t.inv.kind/\t.inv.kind<=hi->zaB u (N+1) t.inv t.sec->t.sec.phase=4->OI t.sec (plan t).1)
    (e:(z7 plan lo hi cells a t n).2.2.2=0):AI u (z7 plan lo hi cells a t n).1/\TI u (N+1) (z7 plan lo hi cells a t n).2.1:=by
 unfold z7 at e ⊢
 by_cases c:z8 t lo hi=0
 ·rw[zacX (fun q=>q c)] at e ⊢;obtain⟨g1,g2⟩:=zdx c;simp only at e ⊢;have key:∀t':zq,t'=(if t.pc=0 then zaO t (cells t) 1 else t)->t'.done=false/\t'.inv=t.inv/\TI u N t'/\zaB u N t'.inv t'.sec:=by
   intro t' h
   by_cases c1:t.pc=0
   ·rw[zacY c1] at h;subst h;obtain⟨a1,a2,a3⟩:=hc t ht g2;obtain⟨s1,s2,s3⟩:=ziH (N:=N) hu (show t.setup.limit=u.limit by rw[ht.su]) ht.nn a1 a2;have hS:=a3 _ s1 s2 s3;exact⟨g1,rfl,{ ht with se:=fun _=>hS },hS⟩
   ·rw[zacX c1] at h;subst h;exact⟨g1,rfl,ht,ht.se ⟨c1,by omega⟩⟩
  generalize (if t.pc=0 then zaO t (cells t) 1 else t)=t' at *;obtain⟨k1,k2,k3,k4⟩:=key t' rfl;have hg:=zkx (n:=n) ha k4;generalize goT a t' n=g at *
  by_cases c2:g.2.2.2.2=0
  ·rw[zacX (fun q=>q c2)];obtain⟨h1,s,h2,h3,h4⟩:=hg c2;have k5:=(k3.mono (show N<=N+1 by omega)).sec h3;rw[<- h2] at k5;have hd:g.2.1.done=false:=by rw[h2];exact k1
   have hi2:g.2.1.inv=t'.inv:=by rw[h2]
   have hsc:g.2.1.sec=s:=by rw[h2]
   split
   ·rename_i c3;refine⟨h1,?_⟩;have hS:zaB u (N+1) g.2.1.inv g.2.1.sec:=by rw[hi2,hsc];exact h3
    have h4':g.2.1.sec.phase=4:=by rw[hsc];exact h4.1 c3
    have hdec:=zdv (t:=g.2.1) hS.si h4' (ho g.2.1 k5 (by rw[hi2,k2];exact g2) hS h4');exact k5.sec (hS.dec hdec)
   ·split
    ·exact⟨h1,k5⟩
    ·exact⟨h1,zfk k5 hd _ _⟩
  ·rw[zacY c2] at e;exact absurd e c2
 ·rw[zacY c] at e;exact absurd e c
end Go.Proofs.YtdnlddoeamjcoaaGreat
