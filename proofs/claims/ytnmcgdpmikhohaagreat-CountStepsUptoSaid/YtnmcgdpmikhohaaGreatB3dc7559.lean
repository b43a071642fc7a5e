/-
  The reference's shards.
-/
import Derived.Test.YtnmcgdpmikhohaaGreatBc8d43d5
import Derived.Test.YtnmcgdpmikhohaaGreatB4482c18
import Derived.Test.YtnmcgdpmikhohaaGreatB13db0db
set_option linter.unusedSimpArgs false
set_option linter.unusedVariables false
set_option maxHeartbeats 10000000
set_option maxRecDepth 100000
namespace Go.Proofs.YtnmcgdpmikhohaaGreat
open Go Go.Sim
structure zis(K:Tok):Prop where
 route:∀i,0<=K.route i/\K.route i<65536
 par:∀b,(K.par b).2=0->(0<=(K.par b).1.route/\(K.par b).1.route<65536)/\0<=(K.par b).1.hint
theorem z9H{u:Setup}{a:zy}{t:zq}{n N:Int}(hu:za3 u=true)(ha:AI u a)(ht:TI u N t)(e:(zbf zey 9 9 zbG a t n).2.2.2=0):
    AI u (zbf zey 9 9 zbG a t n).1/\TI u (N+1) (zbf zey 9 9 zbG a t n).2.1:=by
 refine zm5 hu ha ht zo (fun t ht hk=> ?_) (fun t ht hk hS hp=> ?_) e
 ·obtain⟨v1,v2,v3⟩:=zkl ht.iv zo;exact⟨zqD v1 v2 v3,by unfold zbG zeo;split<;>simp,fun s s1 s2 s3=>⟨s1,s2,fun q=>by omega,fun q=>by omega,fun _=>s3,fun q=>by omega,fun q=>by omega⟩⟩
 ·obtain⟨k1,k2⟩:=zAx hS zo ht.iv hp;exact zQO hS.si k1 k2
theorem z9v{u:Setup}{a:zy}{t:zq}{n N:Int}(hu:za3 u=true)(ha:AI u a)(ht:TI u N t)(e:(zbf zew 10 10 zbG a t n).2.2.2=0):
    AI u (zbf zew 10 10 zbG a t n).1/\TI u (N+1) (zbf zew 10 10 zbG a t n).2.1:=by
 refine zm5 hu ha ht zo (fun t ht hk=> ?_) (fun t ht hk hS hp=> ?_) e
 ·obtain⟨v1,v2,v3⟩:=zkl ht.iv zo;exact⟨zqD v1 v2 v3,by unfold zbG zeo;split<;>simp,fun s s1 s2 s3=>⟨s1,s2,fun q=>by omega,fun q=>by omega,fun _=>s3,fun q=>by omega,fun q=>by omega⟩⟩
 ·obtain⟨k1,k2⟩:=zAx hS zo ht.iv hp;exact zQM hS.si k1 k2
theorem zZK{u:Setup}{a:zy}{t:zq}{n N:Int}(hu:za3 u=true)(ha:AI u a)(ht:TI u N t)(e:(zbf zek 11 11 zbG a t n).2.2.2=0):
    AI u (zbf zek 11 11 zbG a t n).1/\TI u (N+1) (zbf zek 11 11 zbG a t n).2.1:=by
 refine zm5 hu ha ht zo (fun t ht hk=> ?_) (fun t ht hk hS hp=> ?_) e
 ·obtain⟨v1,v2,v3⟩:=zkl ht.iv zo;exact⟨zqD v1 v2 v3,by unfold zbG zeo;split<;>simp,fun s s1 s2 s3=>⟨s1,s2,fun q=>by omega,fun q=>by omega,fun _=>s3,fun q=>by omega,fun q=>by omega⟩⟩
 ·obtain⟨k1,k2⟩:=zAx hS zo ht.iv hp;exact zMo hS.si k1 k2
theorem z90{u:Setup}{a:zy}{t:zq}{n N:Int}(hu:za3 u=true)(ha:AI u a)(ht:TI u N t)(e:(zbf zdW 12 13 (fun t=>[t.inv.from_]) a t n).2.2.2=0):
    AI u (zbf zdW 12 13 (fun t=>[t.inv.from_]) a t n).1/\TI u (N+1) (zbf zdW 12 13 (fun t=>[t.inv.from_]) a t n).2.1:=by
 refine zm5 hu ha ht zo (fun t ht hk=> ?_) (fun t ht hk hS hp=> ?_) e
 ·have v:0<=t.inv.from_/\t.inv.from_<=u.slots:=by
     by_cases h:t.inv.kind=12
     ·have:=zkk ht.iv (.inl h);omega
     ·exact zLN ht.iv zo
  exact⟨zua v,by simp,fun s s1 s2 s3=>⟨s1,s2,fun q=>by omega,fun q=>by omega,fun q=>by omega,fun _=>s3,fun q=>by omega⟩⟩
 ·exact zQT hS.si (zYp hS zo hp)
theorem zSy{u:Setup}{a:zy}{t:zq}{n N:Int}(hu:za3 u=true)(ha:AI u a)(ht:TI u N t)(e:(zbf zdx 14 14 (fun t=>[t.inv.from_,t.setup.slots]) a t n).2.2.2=0):
    AI u (zbf zdx 14 14 (fun t=>[t.inv.from_,t.setup.slots]) a t n).1/\TI u (N+1) (zbf zdx 14 14 (fun t=>[t.inv.from_,t.setup.slots]) a t n).2.1:=by
 refine zm5 hu ha ht zo (fun t ht hk=> ?_) (fun t ht hk hS hp=> ?_) e
 ·have v:=zkk ht.iv (.inr zo);rw[ht.su];exact⟨zlY v.1 v.2 zo,by simp,fun s s1 s2 s3=>⟨s1,s2,fun q=>by omega,fun q=>by omega,fun q=>by omega,fun q=>by omega,fun _=>s3⟩⟩
 ·obtain⟨k1,k2⟩:=zYq hS zo ht.iv hp;exact zDP hS.si k1 k2
theorem z69{u:Setup}{a:zy}{t:zq}{n N:Int}(hu:za3 u=true)(ha:AI u a)(ht:TI u N t)(e:(zdO a t n).2.2.2=0):AI u (zdO a t n).1/\TI u (N+1) (zdO a t n).2.1:=by
 unfold zdO at e ⊢
 by_cases c:zan t 8 8=0
 ·rw[zabn (fun q=>q c)] at e ⊢;obtain⟨g1,g2⟩:=zeQ c
  by_cases c1:t.pc=0
  ·rw[zabo c1];have hh:=zLG ha.dv t.inv.home;rw[ha.df] at hh;have hsl:=ha.sl;have ht:=ht.mono (show N<=N+1 by omega);obtain⟨s1,s2,s3⟩:=ztA (N:=N+1) (lim:=t.setup.limit) (cells:=[zcZ a.dir t.inv.home,t.setup.slots]) hu (by rw[ht.su]) ht.nn (by rw[ht.su];exact zlY hh.1 zo zo) (by simp);refine⟨ha,{ ht with di:=⟨zfN ha.dv,(zjZ ha.dv).2.1⟩,se:=fun _=>⟨s1,s2,fun q=> ?_,fun _=>⟨zcZ a.dir t.inv.home,hh.1,by omega,?_⟩,fun q=> ?_,fun q=> ?_,fun q=> ?_⟩ }⟩
   ·simp only[zb8] at q;omega
   ·show (zdl _ _).1.lock.cells=_;rw[s3,ht.su]
   ·simp only[zb8] at q;omega
   ·simp only[zb8] at q;omega
   ·simp only[zb8] at q;omega
  rw[zabn c1] at e ⊢;simp only at e ⊢;have k4:=ht.se ⟨c1,by omega⟩;have hg:=zkh (n:=n) ha k4;generalize goT a t n=g at *
  by_cases c2:g.2.2.2.2=0
  ·rw[zabn (fun q=>q c2)];obtain⟨h1,s,h2,h3,h4⟩:=hg c2;have k5:=(ht.mono (show N<=N+1 by omega)).sec h3;rw[<- h2] at k5;have hd:g.2.1.done=false:=by rw[h2];exact g1
   have hi2:g.2.1.inv=t.inv:=by rw[h2]
   have hsc:g.2.1.sec=s:=by rw[h2]
   split
   ·rename_i c3;refine⟨h1,?_⟩;have hS:zbd u (N+1) g.2.1.inv g.2.1.sec:=by rw[hi2,hsc];exact h3
    have h4':g.2.1.sec.phase=4:=by rw[hsc];exact h4.1 c3
    obtain⟨l1,l2⟩:=zYs hS (by rw[hi2];omega) h4';have hdec:=z66 (t:=g.2.1) hS.si h4' l1 l2;have e1:(zdk g.2.1).1={ g.2.1 with sec:=(zdk g.2.1).1.sec }:=by
     unfold zdk;simp only
     split
     ·rfl
     split
     ·rfl
     split<;>rfl
    rw[e1];exact k5.sec (hS.dec hdec)
   ·split
    ·exact⟨h1,k5⟩
    split
    ·exact⟨h1,{ k5 with se:=fun q=>absurd rfl q.1 }⟩
    ·exact⟨h1,zeV k5 hd _ _⟩
  ·rw[zabo c2] at e;exact absurd e c2
 ·rw[zabo c] at e;exact absurd e c
def zgD(w:zeF):Prop:=0<=w.next/\w.next<65536/\0<=w.covered/\w.covered<=131072
theorem zRm(r:Int):zgD (zgB r).1:=by
 unfold zgB zgD
 split
 ·simp [zdc]
 ·simp only;omega
theorem znP(w:zeF)(lo hi:Int):zgD (zfz w lo hi).1:=by
 unfold zfz zgD
 split
 ·simp [zdc]
 ·rename_i c;have e:(hi+1).tmod 65536=(hi+1) % 65536:=zaem zo;simp only[e];omega
theorem TI.one{u:Setup}{N:Int}{t:zq}(hu:za3 u=true)(ht:TI u N t)(hk:1<=t.inv.kind/\t.inv.kind<=5){c:Int}(h0:0<=c)(h1:c<u.slots)(pc:Int):TI u N (zb8 t [c] pc):=by
 obtain⟨s1,s2,s3⟩:=ztA (N:=N) (lim:=t.setup.limit) (cells:=[c]) hu (by rw[ht.su]) ht.nn (zua zo) (by simp);refine { ht with se:=fun _=>⟨s1,s2,fun _=>⟨c,h0,h1,s3⟩,fun q=> ?_,fun q=> ?_,fun q=> ?_,fun q=> ?_⟩ }<;>(simp only[zb8] at q;omega)
theorem TI.look {u:Setup} {N:Int} {a:zy} {t:zq} (hu:za3 u=true) (ha:AI u a) (ht:TI u N t) (hk:1<=t.inv.kind/\t.inv.kind<=5) {r:Int} (h0:0<=r) (h1:r<65536) (pc:Int)
    (hoff:¬onP t.inv.kind t.pc):TI u N (zg4 a t r pc):=by
 have hh:=zMS ha.dv h0 h1;rw[ha.df] at hh;have hsl:=ha.sl;have h2:TI u N { t with dir:=a.dir,slot:=zem a.dir r }:={ ht with di:=⟨zfN ha.dv,(zjZ ha.dv).2.1⟩,se:=fun q=>absurd q hoff };exact h2.one hu hk hh.1 zo pc
theorem TI.dec{u:Setup}{N:Int}{t:zq}{s:Section}{w:zeF}{l:Int}(ht:TI u N t)(hS:zbd u N t.inv t.sec)(hd:zim u N t.sec s)(hw:zgD w)(hl:0<=l/\l<=1073741824):TI u N { t with sec:=s,walk:=w,loaded:=l }:=
 { ht with wk:=hw,ld:=hl,se:=fun _=>hS.dec hd }
theorem z8U(K:Tok)(t:zq)(hw:zgD t.walk):∃w l,(zdm K t).1={ t with sec:=(zdm K t).1.sec,walk:=w,loaded:=l }/\zgD w/\0<=l/\l<=1073741824:=by
 unfold zdm;simp only
 split
 ·exact⟨_,_,rfl,hw,by simp⟩
 split
 ·split
  ·exact⟨_,_,rfl,znP _ _ _,by simp⟩
  ·exact⟨_,_,rfl,znP _ _ _,by simp⟩
 ·exact⟨_,_,rfl,hw,by simp⟩
theorem z63(t:zq)(hw:zgD t.walk):∃w l,(zdj t).1={ t with sec:=(zdj t).1.sec,walk:=w,loaded:=l }/\zgD w/\0<=l/\l<=1073741824:=by
 unfold zdj;simp only
 split
 ·exact⟨_,_,rfl,hw,by simp⟩
 split
 ·exact⟨_,_,rfl,hw,by simp⟩
 split
 ·exact⟨_,_,rfl,znP _ _ _,by simp⟩
 split
 ·exact⟨_,_,rfl,znP _ _ _,by simp⟩
 ·exact⟨_,_,rfl,znP _ _ _,by simp⟩
theorem z88(t:zq):(zdn t).1={ t with sec:=(zdn t).1.sec }:=by
 unfold zdn;simp only
 split<;>rfl
theorem z8S{K:Tok}(hK:zis K){u:Setup}{a:zy}{t:zq}{n N:Int}(hu:za3 u=true)(ha:AI u a)(ht:TI u N t)(e:(zdQ K a t n).2.2.2=0):AI u (zdQ K a t n).1/\TI u (N+1) (zdQ K a t n).2.1:=by
 have hni:=ha.ni;unfold zdQ at e ⊢
 by_cases c:zan t 1 1=0
 ·rw[zabn (fun q=>q c)] at e ⊢;obtain⟨g1,g2⟩:=zeQ c;have hM:=ht.mono (show N<=N+1 by omega)
  by_cases c1:t.pc=0
  ·rw[zabo c1];have hl:TI u (N+1) { t with loaded:=a.nextID }:={ hM with ld:=⟨by simp only;omega,by simp only;omega⟩ }
   split
   ·exact⟨ha,zeV hl g1 _ _⟩
   ·exact⟨ha,{ hl with se:=fun q=>by simp only[onP] at q;omega }⟩
  rw[zabn c1] at e ⊢
  by_cases c2:t.pc=1
  ·rw[zabo c2] at e ⊢;simp only at e ⊢;have hc:=ha.casWord 3 t.loaded (t.loaded+1);generalize casWord a 3 t.loaded (t.loaded+1)=r at *
   by_cases c3:r.2.2=0
   ·rw[zabn (fun q=>q c3)];refine⟨hc c3,?_⟩;have hld:=hM.ld;have hnn:=hM.nn;show TI u (N+1) (if r.2.1=true then _ else _)
    split
    ·exact { hM with id:=⟨hld.1,by simp only;omega⟩,wk:=zRm _,se:=fun q=>by simp only[onP] at q;omega }
    ·exact { hM with se:=fun q=>absurd rfl q.1 }
   ·rw[zabo c3] at e;exact absurd e c3
  rw[zabn c2] at e ⊢
  by_cases c3:t.pc=2
  ·rw[zabo c3];exact⟨ha,hM.look hu ha zo hM.wk.1 hM.wk.2.1 3 (fun q=>by unfold onP at q;omega)⟩
  rw[zabn c3] at e ⊢;simp only at e ⊢;have k4:=ht.se ⟨c1,by omega⟩;have hg:=zkh (n:=n) ha k4;generalize goT a t n=g at *
  by_cases c4:g.2.2.2.2=0
  ·rw[zabn (fun q=>q c4)];obtain⟨h1,s,h2,h3,h4⟩:=hg c4;have k5:=hM.sec h3;rw[<- h2] at k5;have hd:g.2.1.done=false:=by rw[h2];exact g1
   have hi2:g.2.1.inv=t.inv:=by rw[h2]
   have hsc:g.2.1.sec=s:=by rw[h2]
   split
   ·rename_i c5;refine⟨h1,?_⟩;have hS:zbd u (N+1) g.2.1.inv g.2.1.sec:=by rw[hi2,hsc];exact h3
    have h4':g.2.1.sec.phase=4:=by rw[hsc];exact h4.1 c5
    have hdec:=z8P K (t:=g.2.1) hS.si h4' (zAw hS (by rw[hi2];omega) h4');obtain⟨w,l,e1,e2,e3⟩:=z8U K g.2.1 k5.wk;rw[e1];exact k5.dec hS hdec e2 e3
   ·split
    ·exact⟨h1,k5⟩
    split
    ·exact⟨h1,zeV k5 hd _ _⟩
    split
    ·exact⟨h1,zeV k5 hd _ _⟩
    ·exact⟨h1,{ k5 with se:=fun q=>by simp only[onP] at q;rw[hi2] at q;omega }⟩
  ·rw[zabo c4] at e;exact absurd e c4
 ·rw[zabo c] at e;exact absurd e c
theorem z61{K:Tok}{u:Setup}{a:zy}{t:zq}{n N:Int}(hu:za3 u=true)(ha:AI u a)(ht:TI u N t)(e:(zdN K a t n).2.2.2=0):AI u (zdN K a t n).1/\TI u (N+1) (zdN K a t n).2.1:=by
 unfold zdN at e ⊢
 by_cases c:zan t 2 2=0
 ·rw[zabn (fun q=>q c)] at e ⊢;obtain⟨g1,g2⟩:=zeQ c;have hM:=ht.mono (show N<=N+1 by omega)
  by_cases c1:t.pc=0
  ·rw[zabo c1];have hh:=zLG ha.dv t.inv.home;rw[ha.df] at hh;have hsl:=ha.sl;have h2:TI u (N+1) { t with dir:=a.dir,slot:=zcZ a.dir t.inv.home,walk:=(zgB (zld a.dir (zcZ a.dir t.inv.home)).1.low).1 }:=
    { hM with di:=⟨zfN ha.dv,(zjZ ha.dv).2.1⟩,wk:=zRm _,se:=fun q=>absurd c1 q.1 }
   exact⟨ha,h2.one hu (by simp only;omega) hh.1 zo 1⟩
  rw[zabn c1] at e ⊢
  by_cases c3:t.pc=2
  ·rw[zabo c3];exact⟨ha,hM.look hu ha zo hM.wk.1 hM.wk.2.1 1 (fun q=>by unfold onP at q;omega)⟩
  rw[zabn c3] at e ⊢;simp only at e ⊢;have k4:=ht.se ⟨c1,by omega⟩;have hg:=zkh (n:=n) ha k4;generalize goT a t n=g at *
  by_cases c4:g.2.2.2.2=0
  ·rw[zabn (fun q=>q c4)];obtain⟨h1,s,h2,h3,h4⟩:=hg c4;have k5:=hM.sec h3;rw[<- h2] at k5;have hd:g.2.1.done=false:=by rw[h2];exact g1
   have hi2:g.2.1.inv=t.inv:=by rw[h2]
   have hsc:g.2.1.sec=s:=by rw[h2]
   split
   ·rename_i c5;refine⟨h1,?_⟩;have hS:zbd u (N+1) g.2.1.inv g.2.1.sec:=by rw[hi2,hsc];exact h3
    have h4':g.2.1.sec.phase=4:=by rw[hsc];exact h4.1 c5
    have hdec:=z6Y (t:=g.2.1) hS.si h4' (zAw hS (by rw[hi2];omega) h4');obtain⟨w,l,e1,e2,e3⟩:=z63 g.2.1 k5.wk;rw[e1];exact k5.dec hS hdec e2 e3
   ·split
    ·exact⟨h1,k5⟩
    split
    ·exact⟨h1,zeV k5 hd _ _⟩
    split
    ·exact⟨h1,zeV k5 hd _ _⟩
    split
    ·exact⟨h1,zeV k5 hd _ _⟩
    ·exact⟨h1,{ k5 with se:=fun q=>by simp only[onP] at q;rw[hi2] at q;omega }⟩
  ·rw[zabo c4] at e;exact absurd e c4
 ·rw[zabo c] at e;exact absurd e c
theorem z86{K:Tok}(hK:zis K){u:Setup}{a:zy}{t:zq}{n N:Int}(hu:za3 u=true)(ha:AI u a)(ht:TI u N t)(e:(zdS K a t n).2.2.2=0):AI u (zdS K a t n).1/\TI u (N+1) (zdS K a t n).2.1:=by
 unfold zdS at e ⊢
 by_cases c:zan t 3 5=0
 ·rw[zabn (fun q=>q c)] at e ⊢;obtain⟨g1,g2⟩:=zeQ c;have hM:=ht.mono (show N<=N+1 by omega)
  by_cases c1:t.pc=0
  ·rw[zabo c1];simp only;have hp:=hK.par (t.inv.tokens.getD t.entry.toNat []);generalize K.par (t.inv.tokens.getD t.entry.toNat [])=h at *
   by_cases c2:h.2=0
   ·rw[zabn (fun q=>q c2)];obtain⟨p1,p2⟩:=hp c2;have h2:TI u (N+1) { t with handle:=h.1,pc:=1 }:={ hM with hd:=p1,se:=fun q=>by simp only[onP] at q;omega };refine⟨ha,?_⟩;show TI u (N+1) (if h.1.hint<t.setup.slots then _ else _)
    split
    ·rename_i c3;rw[ht.su] at c3;exact h2.one hu (by simp only;omega) p2 c3 2
    ·exact h2
   ·rw[zabo c2];exact⟨ha,zeV hM g1 _ _⟩
  rw[zabn c1] at e ⊢
  by_cases c3:t.pc=1
  ·rw[zabo c3];exact⟨ha,hM.look hu ha zo hM.hd.1 hM.hd.2 2 (fun q=>by unfold onP at q;omega)⟩
  rw[zabn c3] at e ⊢;simp only at e ⊢;have k4:=ht.se ⟨c1,by omega⟩;have hg:=zkh (n:=n) ha k4;generalize goT a t n=g at *
  by_cases c4:g.2.2.2.2=0
  ·rw[zabn (fun q=>q c4)];obtain⟨h1,s,h2,h3,h4⟩:=hg c4;have k5:=hM.sec h3;rw[<- h2] at k5;have hd:g.2.1.done=false:=by rw[h2];exact g1
   have hi2:g.2.1.inv=t.inv:=by rw[h2]
   have hsc:g.2.1.sec=s:=by rw[h2]
   split
   ·rename_i c5;refine⟨h1,?_⟩;have hS:zbd u (N+1) g.2.1.inv g.2.1.sec:=by rw[hi2,hsc];exact h3
    have h4':g.2.1.sec.phase=4:=by rw[hsc];exact h4.1 c5
    have hdec:=z83 (t:=g.2.1) hS.si h4' (zAw hS (by rw[hi2];omega) h4');have e1:=z88 g.2.1;rw[e1];exact k5.sec (hS.dec hdec)
   ·split
    ·exact⟨h1,k5⟩
    split
    ·exact⟨h1,{ k5 with se:=fun q=>by simp only[onP] at q;rw[hi2] at q;omega }⟩
    ·exact⟨h1,zeV k5 hd _ _⟩
  ·rw[zabo c4] at e;exact absurd e c4
 ·rw[zabo c] at e;exact absurd e c
theorem zaab{K:Tok}(hK:zis K){u:Setup}{a:zy}{t:zq}{n N:Int}(hu:za3 u=true)(ha:AI u a)(ht:TI u N t)(hn:0<=n/\n<=N+1)(e:(zbZ K a t n).2.2.2=0):AI u (zbZ K a t n).1/\TI u (N+1) (zbZ K a t n).2.1:=by
 unfold zbZ at e ⊢
 by_cases c0:t.done=true
 ·rw[zabo c0] at e;cases e
 rw[zabn c0] at e ⊢
 by_cases c1:t.inv.kind=1
 ·rw[zabo c1] at e ⊢; exact z8S hK hu ha ht e
 rw[zabn c1] at e ⊢
 by_cases c2:t.inv.kind=2
 ·rw[zabo c2] at e ⊢; exact z61 hu ha ht e
 rw[zabn c2] at e ⊢
 by_cases c3:3<=t.inv.kind/\t.inv.kind<=5
 ·rw[zabo c3] at e ⊢; exact z86 hK hu ha ht e
 rw[zabn c3] at e ⊢
 by_cases c6:t.inv.kind=6
 ·rw[zabo c6] at e ⊢; exact z5n ha ht e
 rw[zabn c6] at e ⊢
 by_cases c7:t.inv.kind=7
 ·rw[zabo c7] at e ⊢; exact zTl ha ht hn e
 rw[zabn c7] at e ⊢
 by_cases c8:t.inv.kind=8
 ·rw[zabo c8] at e ⊢; exact z69 hu ha ht e
 rw[zabn c8] at e ⊢
 by_cases c9:t.inv.kind=9
 ·rw[zabo c9] at e ⊢; exact z9H hu ha ht e
 rw[zabn c9] at e ⊢
 by_cases c10:t.inv.kind=10
 ·rw[zabo c10] at e ⊢; exact z9v hu ha ht e
 rw[zabn c10] at e ⊢
 by_cases c11:t.inv.kind=11
 ·rw[zabo c11] at e ⊢; exact zZK hu ha ht e
 rw[zabn c11] at e ⊢
 by_cases c12:t.inv.kind=12\/t.inv.kind=13
 ·rw[zabo c12] at e ⊢; exact z90 hu ha ht e
 rw[zabn c12] at e ⊢
 by_cases c14:t.inv.kind=14
 ·rw[zabo c14] at e ⊢; exact zSy hu ha ht e
 rw[zabn c14] at e
 cases e
theorem z9F{u:Setup}{number:Int}{i:Invocation}{n N:Int}(hN:0<=N)(e:(zex number i u n).2=0):TI u N (zex number i u n).1:=by
 unfold zex at e ⊢
 by_cases c1:number<1\/200<number\/n<0
 ·rw[zabo c1] at e;cases e
 rw[zabn c1] at e ⊢
 by_cases c2:za3 u=false
 ·rw[zabo c2] at e;cases e
 rw[zabn c2] at e ⊢
 by_cases c3:zbM i u≠0
 ·rw[zabo c3] at e;exact absurd e c3
 rw[zabn c3];have c3:=zabG.1 c3;have hk:=zLO c3;have hb:=zny (Bool.of_not_eq_false c2);refine { nm:=by simp only;omega,iv:=c3,su:=rfl,e0:=by simp [zE],e1:=fun _=> ?_,e2:=by simp [zE],wk:=by simp [zE],ld:=by simp [zE],id:=⟨by simp [zE],by simp only[zE];omega⟩,hd:=by simp [zE],fs:=⟨by simp only[zE,zabw];omega,by simp only[zE,zabw];omega⟩,di:=by simp [zE],nn:=hN,se:=fun q=>absurd rfl q.1 };simp only[zE];unfold zcX;unfold zbM at c3
 by_cases d1:i.kind=1
 ·rw[zabo d1] at c3 ⊢
  split at c3
  ·cases c3
  ·omega
 rw[zabn d1] at c3 ⊢
 by_cases d3:3<=i.kind/\i.kind<=5
 ·rw[zabo d3];rw[zabn zo,zabo d3] at c3
  split at c3
  ·cases c3
  ·omega
 ·rw[zabn d3];omega
structure WI(u:Setup)(w:World):Prop where
 hu:za3 u=true
 su:w.setup=u
 ar:AI u w.arena
 ts:∀t∈w.tasks,TI u w.steps t
 tl:w.tasks.length<=200
 st:0<=w.steps
theorem z4E{w:World}{i:Nat}(h:i∈zbj w):i<w.tasks.length:=by
 unfold zbj at h;exact zack.1 (zacW.1 h).1
theorem zMK{w:World}{k:Nat}(h:k<(zbj w).length):(zbj w).getD k 0<w.tasks.length:=by
 rw[zab0,zabx h];exact z4E (zabC h)
theorem z9M{K:Tok}(hK:zis K){u:Setup}{w:World}{i:Nat}(hw:WI u w)(hi:i<w.tasks.length)(e:(zcO K w i).2=0):WI u (zcO K w i).1:=by
 unfold zcO at e ⊢;simp only at e ⊢;have ht:=hw.ts (w.tasks.getD i zE) (by rw[zh hi];exact zabC hi);have hst:=hw.st;have hk:=zaab hK (n:=w.steps+1) (N:=w.steps) hw.hu hw.ar ht zo
 by_cases c:(zbZ K w.arena (w.tasks.getD i zE) (w.steps+1)).2.2.2=0
 ·rw[zabn (fun q=>q c)];obtain⟨k1,k2⟩:=hk c;refine { hu:=hw.hu,su:=hw.su,ar:=k1,ts:=fun t h=> ?_,tl:=by simp only[zacb];exact hw.tl,st:=by simp only;omega }
  rcases zmR h with h|h
  ·rw[h];exact k2
  ·exact (hw.ts t h).mono (by simp only;omega)
 ·rw[zabo c] at e;exact absurd e c
theorem zaaj{u:Setup}{w:World}{by_:Int}(hw:WI u w)(e:(zdX w by_).2=0):WI u (zdX w by_).1:=by
 unfold zdX at e ⊢;have hst:=hw.st;have ht:=hw.ar.tick by_
 by_cases c:(zeA w.arena by_).2=0
 ·rw[zabn (fun q=>q c)];exact { hu:=hw.hu,su:=hw.su,ar:=ht c,ts:=fun t h=>(hw.ts t h).mono (by simp only;omega),tl:=hw.tl,st:=by simp only;omega }
 ·rw[zabo c] at e;exact absurd e c
theorem zX8{u:Setup}{w:World}{i:Invocation}(hw:WI u w)(e:(zcJ w i).2.2=0):WI u (zcJ w i).1:=by
 unfold zcJ at e ⊢
 by_cases c:200<=w.tasks.length\/8<=(zbj w).length
 ·rw[zabo c] at e;cases e
 rw[zabn c] at e ⊢;have hs:=fun h=>z9F (u:=u) (number:=w.tasks.length+1) (i:=i) (n:=w.steps) (N:=w.steps) hw.st h;rw[hw.su] at e ⊢
 by_cases c2:(zex (w.tasks.length+1) i u w.steps).2=0
 ·rw[zabn (fun q=>q c2)];refine { hu:=hw.hu,su:=rfl,ar:=hw.ar,ts:=fun t h=> ?_,tl:=by simp only[zabv,zabu,zabw];omega,st:=hw.st }
  rcases zabS.1 h with h|h
  ·exact hw.ts t h
  ·rw[zab1.1 h];exact hs c2
 ·rw[zabo c2] at e;exact absurd e c2
theorem zCJ{n:Nat}(h1:1<=n)(h2:n<=12):zaE ⟨List.replicate n zaa,0,0⟩=0:=by
 have hr:zgt ⟨List.replicate n zaa,0,0⟩:=by
  unfold zgt;simp only[zacp];omega
 have hf:zc5 ⟨List.replicate n zaa,0,0⟩ 0 n=false:=by
  unfold zc5;rw[zacC];intro j _;rw[decide_eq_true_eq];intro q;apply q;simp only[zacp];rw[zab0]
  by_cases c:((0:Int).toNat+j) % n<n
  ·rw[List.getElem?_replicate_of_lt c];rfl
  ·exact absurd (zacr _ zo) c
 unfold zaE;rw[zabn (fun q=>q hr)];simp only[zacp,Int.toNat_zero];rw[hf];rfl
theorem zZ1{n lo hi:Int}(hn:1<=n/\n<=12)(hs:0<=lo/\lo<=hi/\hi<65536):zY (zb5 n lo hi).1=0/\((zb5 n lo hi).1.ready.cells.length:Int)=n:=by
 have hr:=zCJ (n:=n.toNat) zo zo;unfold zb5;rw[zabn zo,zabn (fun q=>q hs)];refine⟨?_,by simp only[zacp];omega⟩;unfold zY;simp only;rw[hr,zabn (fun q=>q rfl),zabn (show ¬zao zal≠0 by decide),zabn (by decide),zabn (fun q=>q hs),zabn (by simp only[zCU,zacp,zal,zabw];omega)];rfl
theorem zWi{n:Int}(hn:1<=n/\n<=12):zY (zfX n).1=0/\((zfX n).1.ready.cells.length:Int)=n:=by
 have hr:=zCJ (n:=n.toNat) zo zo;unfold zfX;rw[zabn zo];refine⟨?_,by simp only[zacp];omega⟩;unfold zY;simp only;rw[hr,zabn (fun q=>q rfl),zabn (show ¬zao zal≠0 by decide),zabo trivial];rfl
theorem z9a{u:Setup}(h:za3 u=true):(1<=u.slots/\u.slots<=6)/\(1<=u.live/\u.live<=u.slots)/\(1<=u.capacity/\u.capacity<=12)/\(1<=u.dead/\u.dead<=24)/\(0<=u.clock/\u.clock<=1073741824)/\(1<=u.nextID/\u.nextID<=1073741824)/\0<=u.epoch/\u.epoch<=65536:=by
 unfold za3 inI at h;simp only[zabH,decide_eq_true_eq] at h;omega
theorem zR6{u:Setup}(e:(zbL u).2=0):AI u (zbL u).1:=by
 have hu:za3 u=true:=by
  unfold zbL at e
  split at e
  ·cases e
  ·rename_i c;exact Bool.of_not_eq_false c
 obtain⟨b1,b2,b3,b4,b5,b6,b7⟩:=z9a hu;have hd:(zkD u.slots u.live).1=ze4 u.slots.toNat u.live.toNat:=by
  unfold zkD;rw[zabn zo]
 have hv:=(zTS u.slots.toNat u.live.toNat zo zo zo).1;have hl:(ze4 u.slots.toNat u.live.toNat).l.length=u.live.toNat:=by simp only[ze4,z9t]
 have hf:(ze4 u.slots.toNat u.live.toNat).forward.length=u.slots.toNat:=by simp only[ze4,zacp]
 have ht:=zCY _ 0 65536 zo (zvb hv);unfold zbL;rw[zabn (by rw[hu];simp)];simp only[hd];constructor
 ·simp only[zabE,zaew];omega
 ·simp only[zabE,zaew,zacp]
 ·intro x hx;simp only[zaby,zack] at hx;obtain⟨i,hi,rfl⟩:=hx
  by_cases c:(i:Int)<u.live
  ·simp only[zabo c];have hi2:i<(ze4 u.slots.toNat u.live.toNat).l.length:=by omega
   rw[zh hi2];exact zZ1 b3 (ht _ (zabC hi2))
  ·simp only[zabn c];exact zWi b3
 ·intro x hx;rw[zaee hx];unfold znH;apply zabM;simp only[zbV];omega
 ·exact hv
 ·simp only[zabE,zaew];exact hf
 ·unfold zcm;simp only;rw[zabn zo,zabn (by simp only[zabw];omega)];rfl
 ·rfl
 ·simp only;omega
 ·exact b5
 ·exact b6
theorem zm4{plan:zq->Pln}(h:∀t,(plan t).2.2.length<=2)(lo hi:Int)(cells:zq->List Int)(a:zy)(t:zq)(n:Int):(zbf plan lo hi cells a t n).2.2.1.length<=2:=by
 unfold zbf zbv;simp only
 split
 ·simp
 generalize (if t.pc=0 then zb8 t (cells t) 1 else t)=t';generalize goT a t' n=g
 split
 ·simp
 split
 ·exact h _
 split<;>simp
theorem z5m(a:zy)(t:zq)(n:Int):(zci a t n).2.2.1.length<=2:=by
 unfold zci;simp only
 split
 ·simp
 split
 ·split<;>simp
 split
 ·simp
 split<;>simp
theorem zTj(a:zy)(t:zq)(n:Int):(zdy a t n).2.2.1.length<=2:=by
 unfold zdy;simp only
 split
 ·simp
 split
 ·simp
 split
 ·split<;>simp
 split
 ·split<;>simp
 split<;>simp
theorem z67(a:zy)(t:zq)(n:Int):(zdO a t n).2.2.1.length<=2:=by
 have h:∀t,(zdk t).2.length<=2:=by
  intro t;unfold zdk;simp only
  split
  ·simp
  split
  ·simp
  split<;>simp
 unfold zdO zbv;simp only
 split
 ·simp
 split
 ·simp
 generalize goT a t n=g
 split
 ·simp
 split
 ·exact h _
 split
 ·simp
 split<;>simp
theorem z84(K:Tok)(a:zy)(t:zq)(n:Int):(zdS K a t n).2.2.1.length<=2:=by
 have h:∀t,(zdn t).2.length<=2:=by
  intro t;unfold zdn;simp only
  split<;>simp
 unfold zdS zbv;simp only
 split
 ·simp
 split
 ·split<;>simp
 split
 ·simp
 generalize goT a t n=g
 split
 ·simp
 split
 ·exact h _
 split
 ·simp
 split<;>simp
theorem z8Q(K:Tok)(a:zy)(t:zq)(n:Int):(zdQ K a t n).2.2.1.length<=2:=by
 have h:∀t,(zdm K t).2.length<=2:=by
  intro t;unfold zdm;simp only
  split
  ·simp
  split
  ·split<;>simp
  ·simp
 unfold zdQ zbv;simp only
 split
 ·simp
 split
 ·split<;>simp
 split
 ·split<;>simp
 split
 ·simp
 generalize goT a t n=g
 split
 ·simp
 split
 ·exact h _
 split
 ·simp
 split
 ·simp
 split<;>simp
theorem z6Z(K:Tok)(a:zy)(t:zq)(n:Int):(zdN K a t n).2.2.1.length<=2:=by
 have h:∀t,(zdj t).2.length<=2:=by
  intro t;have h1:∀(k:Nat) (e:Event),(if 0<k then [e] else []).length<=1:=by intro k e;split<;>simp
  unfold zdj;simp only
  split
  ·simp
  split
  ·simp
  split
  ·rw[zabv];exact Nat.add_le_add (h1 _ _) (zabR 1)
  split
  ·rw[zabv];exact Nat.add_le_add (h1 _ _) (zabR 1)
  ·exact zaca (h1 _ _) (by decide)
 unfold zdN zbv;simp only
 split
 ·simp
 split
 ·simp
 split
 ·simp
 generalize goT a t n=g
 split
 ·simp
 split
 ·exact h _
 split
 ·simp
 split
 ·simp
 split
 ·simp
 split<;>simp
theorem z9G(t:zq):(zey t).2.2.length<=2:=by
 unfold zey;simp only
 split
 ·simp
 split<;>simp
theorem z9u(t:zq):(zew t).2.2.length<=2:=by
 unfold zew;simp only
 split<;>simp
theorem zZJ(t:zq):(zek t).2.2.length<=2:=by
 unfold zek;simp only
 split<;>simp
theorem z9Z(t:zq):(zdW t).2.2.length<=2:=by
 unfold zdW;simp only
 split
 ·simp
 split
 ·simp
 split
 ·simp
 split<;>simp
theorem zSx(t:zq):(zdx t).2.2.length<=2:=by
 unfold zdx;simp only
 split
 ·simp
 split<;>simp
theorem zQY(K:Tok)(a:zy)(t:zq)(n:Int):(zbZ K a t n).2.2.1.length<=2:=by
 unfold zbZ
 by_cases c0:t.done=true
 ·rw[zabo c0];simp [zbv]
 rw[zabn c0]
 by_cases c1:t.inv.kind=1
 ·rw[zabo c1];exact z8Q _ _ _ _
 rw[zabn c1]
 by_cases c2:t.inv.kind=2
 ·rw[zabo c2];exact z6Z _ _ _ _
 rw[zabn c2]
 by_cases c3:3<=t.inv.kind/\t.inv.kind<=5
 ·rw[zabo c3];exact z84 _ _ _ _
 rw[zabn c3]
 by_cases c6:t.inv.kind=6
 ·rw[zabo c6];exact z5m _ _ _
 rw[zabn c6]
 by_cases c7:t.inv.kind=7
 ·rw[zabo c7];exact zTj _ _ _
 rw[zabn c7]
 by_cases c8:t.inv.kind=8
 ·rw[zabo c8];exact z67 _ _ _
 rw[zabn c8]
 by_cases c9:t.inv.kind=9
 ·rw[zabo c9];exact zm4 z9G _ _ _ _ _ _
 rw[zabn c9]
 by_cases c10:t.inv.kind=10
 ·rw[zabo c10];exact zm4 z9u _ _ _ _ _ _
 rw[zabn c10]
 by_cases c11:t.inv.kind=11
 ·rw[zabo c11];exact zm4 zZJ _ _ _ _ _ _
 rw[zabn c11]
 by_cases c12:t.inv.kind=12\/t.inv.kind=13
 ·rw[zabo c12];exact zm4 z9Z _ _ _ _ _ _
 rw[zabn c12]
 by_cases c14:t.inv.kind=14
 ·rw[zabo c14];exact zm4 zSx _ _ _ _ _ _
 rw[zabn c14];simp [zbv]
structure LB(B:Int)(w:World):Prop where
 lg:(w.log.length:Int)<=2 * w.steps
 st:w.steps<=B
theorem LB.mono{B C:Int}{w:World}(h:LB B w)(hb:B<=C):LB C w:=⟨h.lg,by have:=h.st;omega⟩
theorem z9N{K:Tok}{B:Int}{w:World}{i:Nat}(h:LB B w)(e:(zcO K w i).2=0):LB (B+1) (zcO K w i).1:=by
 have h1:=h.lg;have h2:=h.st;unfold zcO at e ⊢;simp only at e ⊢;have hv:=zQY K w.arena (w.tasks.getD i zE) (w.steps+1);generalize zbZ K w.arena (w.tasks.getD i zE) (w.steps+1)=r at *
 by_cases c:r.2.2.2=0
 ·rw[zabn (fun q=>q c)];exact⟨by simp only[zabv];omega,by simp only;omega⟩
 ·rw[zabo c] at e;exact absurd e c
theorem zaak{B:Int}{w:World}{by_:Int}(h:LB B w)(e:(zdX w by_).2=0):LB (B+1) (zdX w by_).1:=by
 have h1:=h.lg;have h2:=h.st;unfold zdX at e ⊢
 by_cases c:(zeA w.arena by_).2=0
 ·rw[zabn (fun q=>q c)];exact⟨by simp only[zabv,zabu,zabw];omega,by simp only;omega⟩
 ·rw[zabo c] at e;exact absurd e c
theorem zX9{B:Int}{w:World}{i:Invocation}(h:LB B w)(e:(zcJ w i).2.2=0):LB B (zcJ w i).1:=by
 unfold zcJ at e ⊢
 by_cases c:200<=w.tasks.length\/8<=(zbj w).length
 ·rw[zabo c] at e;cases e
 rw[zabn c] at e ⊢
 by_cases c2:(zex (w.tasks.length+1) i w.setup w.steps).2=0
 ·rw[zabn (fun q=>q c2)];exact⟨h.lg,h.st⟩
 ·rw[zabo c2] at e;exact absurd e c2
theorem zDQ(b:Int):(zbo 0 (zf4 b 255)).toNat<=255:=by
 unfold zbo zf4
 split<;>split<;>omega
theorem znv{u:Setup}{N:Int}{a:zy}{s:Section}(hu:za3 u=true)(ha:AI u a)(hs:SI u N s)(hN:N<=1000000):zqB a s:=by
 have hb:=zny hu;have hsl:=ha.sl;have c1:=hs.lw.c1;have c2:=hs.lw.c2;have hk:=zmC u.slots s.lock.cells;have hin:=zLS (n:=u.slots) hs.ca;refine { sl:=by omega,st:=ha.st,lw:=hs.lw.mono hN,p1:=fun q=> ?_,p2:=fun q=> ?_,p5:=fun q=> ?_,p6:=fun q=> ?_,p7:=fun q=> ?_,od:=hs.oo,f1:=fun x hx=> ?_,f2:=fun x hx=> ?_,dd:=hs.od,di:=hs.di }
 ·obtain⟨_,h1,h2,h3,_⟩:=hs.ph.p1 q;exact⟨h1,by omega,h3⟩
 ·obtain⟨_,h1,h2,h3,h4,_⟩:=hs.ph.p2 q;exact⟨h1,by omega,by omega⟩
 ·obtain⟨_,h1,h2,h3,h4,h5⟩:=hs.ph.p5 q;refine⟨h4,h5,fun o ho hne=> ?_⟩;obtain⟨o1,o2⟩:=hs.oo.1 o ho;rw[zl3 o1 o2] at hne;have hc:=hs.cr _ (zabC (show o.toNat<s.lock.cells.length by omega));have hi:=(hin o.toNat zo).2 zo;omega
 ·obtain⟨_,h1,h2,h3,h4,h5,_⟩:=hs.ph.p6 q;exact⟨h5,h4⟩
 ·obtain⟨_,h1,h2,h3,h4,h5⟩:=hs.ph.p7 q;exact⟨h4,by omega,by omega,by omega,by omega,by omega⟩
 ·have h:=hs.os x hx;exact⟨by have:=h.1;omega,by have:=h.2;omega,by have:=h.3;omega⟩
 ·obtain⟨h1,h2⟩:=hs.sv x hx;exact zfH (zbT h1)
theorem znz{u:Setup}{N:Int}{t:zq}(hs:SI u N t.sec):za4 (sh0 t):=zfH (zk8 hs)
theorem zcr{u:Setup}{N:Int}{t:zq}{o:zb1}(hs:SI u N t.sec)(ho:OI t.sec o):zi G zjw [.d (zf t),.d (zU o)] []=some (.d (zf (za5 t o)),[]):=
 zTM t o (zTN t.sec o ho.ol hs.lw.c2)
theorem zYv{u:Setup}{N:Int}{s:Section}(h:SI u N s)(hp:s.phase=4\/s.phase=9):s.shards.length=kOf u.slots s.lock.cells:=by
 rcases hp with q|q
 ·exact (h.ph.p4 q).2.2
 ·exact (h.ph.p9 q).1
theorem zgx{u:Setup}{N:Int}{i:Invocation}{s:Section}(h:zbd u N i s)(hv:zbM i u=0)(hp:s.phase=4\/s.phase=9):
    (1<=i.kind/\i.kind<=5->s.shards.length=1)/\(i.kind=8->s.shards.length=1)/\(9<=i.kind/\i.kind<=11->s.shards.length=2)/\(12<=i.kind/\i.kind<=13->s.shards.length<=1)/\(i.kind=14->s.shards.length=1):=by
 have hk:=zYv h.si hp;refine⟨fun q=> ?_,fun q=> ?_,fun q=> ?_,fun q=> ?_,fun q=> ?_⟩
 ·obtain⟨c,c0,c1,c2⟩:=h.c1 q;rw[hk,c2,zLR c1]
 ·obtain⟨c,c0,c1,c2⟩:=h.c8 q;rw[hk,c2,zsh c1]
 ·obtain⟨v1,v2,v3⟩:=zkl hv q;rw[hk,h.c9 q];unfold zeo
  split
  ·exact zsg v1.2 v2.2
  ·exact zsg v2.2 v1.2
 ·have q2:=zmC u.slots s.lock.cells;rw[h.c12 q] at q2 hk;simp only[zabu,zabw] at q2;omega
 ·have v:=zkk hv (.inr q);rw[hk,h.c14 q,zsh v.2]
theorem zLM(r lo hi:Int):zi G zlp [.d (.int .i64 r),.d (.int .i64 lo),.d (.int .i64 hi)] []=some (.d (.int .i64 (zkj r lo hi)),[]):=by
 unfold zkj
 by_cases c:r<0\/65536<=r\/lo<0\/65536<=hi\/hi<lo
 ·rw[zabo c];exact zW zrC
 ·rw[zabn c];exact zX6 r lo hi zo zo zo zo zo
theorem zZ0(id route ep now:Int)(b:List UInt8):zi G zoc [.d (.int .i64 id),.d (.int .i64 route),.d (.int .i64 ep),.d (.int .i64 now),.d (.str b)] []=some (.d (.tup [zm (zmU id route ep now b).1,.int .i64 (zmU id route ep now b).2]),[]):=by
 have hv:=zh8 ⟨id,route,ep,0,0,now,b⟩;unfold zmU;generalize zap ⟨id,route,ep,0,0,now,b⟩=v at *;simp only[zm] at *
 by_cases c:v=0
 ·subst c;exact zW zH4
 ·rw[zabo c];rw[zI zH4 (by simp)];simp -implicitDefEqProofs (maxSteps:=4000000) (disch:=omega) only[zus,zB0,zaa,zh,go_sem, *]
structure zgF(K:Tok):Prop where
 ok:zis K
 rt:∀i,zi G zlq [.d (.int .i64 i)] []=some (.d (.int .i64 (K.route i)),[])
 en:∀h,zi G ziq [.d (zat h)] []=some (.d (.tup [zaA (K.enc h).1,.int .i64 (K.enc h).2]),[])
 pa:∀b:List UInt8,b.length<=4294967296->zi G zjv [.d (zaA b)] []=some (.d (.tup [zat (K.par b).1,.int .i64 (K.par b).2]),[])
theorem zc6{t:zq}(hk:t.sec.shards.length=1):sh0 t=t.sec.shards[0]:=by
 unfold sh0;exact zh zo
theorem z8O{K:Tok}(hK:zgF K){u:Setup}{N:Int}{t:zq}(hs:SI u N t.sec)(hk:t.sec.shards.length=1)(hw:zgD t.walk)(he:0<=t.entry/\t.entry<t.inv.bodies.length):zi G zqb [.d (zf t)] []=some (.d (.tup [zf (zdm K t).1,.sl ((zdm K t).2.map zaw)]),[]):=by
 have hb:za4 t.sec.shards[0]:=zc6 hk ▸ znz hs;have hl12:zaK t.sec.shards[0]:=zc6 hk ▸ zk8 hs;have hu:=zhn t.sec;have ho:=zsV t.sec.shards[0] t.walk.next hb;unfold zdm;simp only;rw[zc6 hk];have hun:=hs.un
 by_cases c0:zen t.sec.shards[0] t.walk.next=false
 ·rw[zabo c0];rw[c0] at ho;have hd:=zcr (t:={ t with loaded:=0 }) hs hun;generalize za5 { t with loaded:=0 } (z8 t.sec)=t2 at *;have sz_t2:=zQ t2;generalize zf t2=D_t2 at *;clear hun hs hl12 hb c0;simp only[zf,zA,zU,z8,zabq,zC] at *;exact zW zrS
 rw[zabn c0];replace c0:zen t.sec.shards[0] t.walk.next=true:=by simpa using c0
 rw[c0] at ho;have hst:=zhk t.sec.shards[0] hb;have hsn:=zla { t with loaded:=0 } 2
 by_cases c1:zbb t.sec.shards[0]=t.sec.shards[0].ready.cells.length
 ·rw[zabo c1];have ha:=zRi t.walk t.sec.shards[0].low t.sec.shards[0].high;have hv:=zRk (zfz t.walk t.sec.shards[0].low t.sec.shards[0].high).1;generalize zfz t.walk t.sec.shards[0].low t.sec.shards[0].high=wk at *;obtain⟨wk,we⟩:=wk;simp only at *;rw[c1] at hst
  by_cases c2:zgC wk=false
  ·rw[zabo c2];rw[c2] at hv;have hd:=zcr (t:={ t with loaded:=0,walk:=wk }) hs hun;generalize za5 { t with loaded:=0,walk:=wk } (z8 t.sec)=t2 at *;have sz_t2:=zQ t2;generalize zf t2=D_t2 at *;clear hun hs hl12 hb c0 c1 c2;simp only[zf,zA,zU,z8,zbW,zb9,zev,zaw,zbw,zabq,zC] at *;exact zW zrS
  ·rw[zabn c2];replace c2:zgC wk=true:=by simpa using c2
   rw[c2] at hv;have hd:=zcr (t:={ t with loaded:=2,walk:=wk }) hs hun;generalize za5 { t with loaded:=2,walk:=wk } (z8 t.sec)=t2 at *;have sz_t2:=zQ t2;generalize zf t2=D_t2 at *;clear hun hs hl12 hb c0 c1 c2;simp only[zf,zA,zU,z8,zbW,zb9,zev,zaw,zbw,zabq,zabs,zC] at *;rw[zI zrS (by simp)];simp -implicitDefEqProofs (maxSteps:=4000000) (disch:=omega) only[zqW,ztf,zbt,zh,go_sem, *]
 ·rw[zabn c1];have hrt:=hK.rt t.id;have hin:=zLM (K.route t.id) t.sec.shards[0].low t.sec.shards[0].high;have hnm:=zZ0 t.id (zkj (K.route t.id) t.sec.shards[0].low t.sec.shards[0].high) t.sec.snap.epoch t.sec.snap.clock (t.inv.bodies.getD t.entry.toNat []);rw[zh (show t.entry.toNat<t.inv.bodies.length by omega)] at hnm ⊢;generalize K.route t.id=rt at *;generalize zkj rt t.sec.shards[0].low t.sec.shards[0].high=r2 at *;generalize zmU t.id r2 t.sec.snap.epoch t.sec.snap.clock (t.inv.bodies[t.entry.toNat]'(by omega))=m at *;obtain⟨m,me⟩:=m;simp only at *;have hpt:=zM1 t.sec.shards[0] m hb;have hl2:=zsk hl12 m;generalize zcB t.sec.shards[0] m=x at *;obtain⟨x,xe⟩:=x;simp only at *;have hd:=zcr (t:={ t with loaded:=1 }) hs (hs.one hk hl2);generalize za5 { t with loaded:=1 } { z8 t.sec with shards:=[x],order:=[0] }=t2 at *;have sz_t2:=zQ t2;generalize zf t2=D_t2 at *;clear hun hs hl12 hb c0 hl2;simp only[zf,zA,zU,z8,zb9,zev,zaw,zbw,zm,zabq,zabs,zC] at *;rw[zI zrS (by simp)];simp -implicitDefEqProofs (maxSteps:=4000000) (disch:=omega) only[zqW,ztf,zbt,zh,go_sem, *]
theorem zU2{i:Invocation}{u:Setup}(h:zbM i u=0):1<=zcX i/\zcX i<=6:=by
 unfold zcX;unfold zbM at h
 by_cases c:i.kind=1
 ·rw[zabo c] at h ⊢
  split at h
  ·cases h
  ·omega
 ·rw[zabn c] at h ⊢
  by_cases c2:i.kind=2\/i.kind=8
  ·rw[zabn zo];omega
  ·rw[zabn c2] at h
   by_cases c3:3<=i.kind/\i.kind<=5
   ·rw[zabo c3] at h ⊢
    split at h
    ·cases h
    ·omega
   ·rw[zabn c3];omega
theorem zij{u:Setup}{N:Int}{t:zq}(h:TI u N t)(hd:t.done=false):(0<=t.entry/\t.entry<=1000)/\t.results.length<=1000:=by
 have h1:=zU2 h.iv;have h2:=h.e0;have h3:=h.e1 hd;have h4:=h.e2;omega
theorem z8R(a:zy)(t:zq)(n:Int)(h:zan t 1 1≠0):zi G zjx [.d (zx a),.d (zf t),.d (.int .i64 n)] []=some (.d (.tup [zx zM,zf zE,.sl [],.int .i64 (zan t 1 1)]),[]):=by
 have hg:=zeP t 1 1;have hf:=zcY (zan t 1 1);generalize zan t 1 1=ge at *;have sz_zTask:=zQ zE;generalize zf zE=D_zTask at *;have sz_t:=zQ t;generalize zf t=D_t at *;have sz_zArena:=zby zM;generalize zx zM=D_zArena at *;exact zW zeO
theorem z8T{K:Tok}(hK:zgF K){u:Setup}{a:zy}{t:zq}{n N:Int}(hu:za3 u=true)(ha:AI u a)(ht:TI u N t)(hN:N<=999999):zi G zjx [.d (zx a),.d (zf t),.d (.int .i64 n)] []=some (.d (.tup [zx (zdQ K a t n).1,zf (zdQ K a t n).2.1,.sl ((zdQ K a t n).2.2.1.map zaw),.int .i64 (zdQ K a t n).2.2.2]),[]):=by
 unfold zdQ
 by_cases c0:zan t 1 1=0
 rotate_left
 ·rw[zabo c0];exact z8R a t n c0
 rw[zabn (fun q=>q c0)];have hg:=zeP t 1 1;rw[c0] at hg;obtain⟨g1,g2⟩:=zeQ c0;have hen:=zij ht g1;have he1:=ht.e1 g1;clear g1;have hld:=ht.ld;have hwk:=ht.wk
 by_cases c1:t.pc=0
 ·rw[zabo c1];have hw:=zku a 3;simp only[zgn,if_true,Int.reduceEq,if_false] at hw
  by_cases c2:a.nextID=1073741824
  ·rw[zabo c2];have hv:=zrn { t with loaded:=a.nextID } 2 n;have hn1:=zeU { t with loaded:=a.nextID } (zaO 6) n hen.1 hen.2;generalize zba { t with loaded:=a.nextID } (zaO 6) n=t2 at *;have sz_t2:=zQ t2;generalize zf t2=D_t2 at *;replace c1:=zabA c1;replace c2:=zabA c2;clear ht ha hu;simp only[zf,zaO,z7,zac,evT,zbw,zabq,zabs,zaw] at *;exact zW zeO
  ·rw[zabn c2];replace c1:=zabA c1;replace c2:=zabt c2;clear ht ha hu;simp only[zf] at *;exact zW zeO
 rw[zabn c1]
 by_cases c2:t.pc=1
 ·rw[zabo c2];have hc:=zGD a 3 t.loaded (t.loaded+1);have hf:=zcY (casWord a 3 t.loaded (t.loaded+1)).2.2;have hrt:=hK.rt t.loaded;have hwb:=zRj (K.route t.loaded);generalize K.route t.loaded=rt at *;generalize zgB rt=wb at *;obtain⟨wb,we⟩:=wb;generalize casWord a 3 t.loaded (t.loaded+1)=c at *;obtain⟨x1,x2,x3⟩:=c;replace c2:=zabA c2;replace c1:=zabt c1;clear ht ha hu;simp only at *
  by_cases c4:x3=0
  ·subst c4;clear hf;simp only[ne_eq,zabD,if_false] at *
   cases x2
   ·simp only[zabz,if_false] at *;simp only[zf,zbW] at *;exact zW zeO
   ·simp only[if_true] at *;simp only[zf,zbW] at *;exact zW zeO
  ·rw[zabo c4];unfold zbv;have sz_zTask:=zQ zE;generalize zf zE=D_zTask at *;have sz_zArena:=zby zM;generalize zx zM=D_zArena at *;simp only[zf,zbW] at *;exact zW zeO
 rw[zabn c2]
 by_cases c3:t.pc=2
 ·rw[zabo c3];have hlk:=zBb a t t.walk.next 3 (by have:=zfN ha.dv;omega);generalize zg4 a t t.walk.next 3=t2 at *;have sz_t2:=zQ t2;generalize zf t2=D_t2 at *;replace c3:=zabA c3;replace c2:=zabt c2;replace c1:=zabt c1;clear ht ha hu;simp only[zf] at *;exact zW zeO
 rw[zabn c3];have k4:=ht.se ⟨c1,by omega⟩;have hgo:=zmr a t n (znv hu ha k4.si zo);have hgk:=zkh (n:=n) ha k4;simp only;generalize goT a t n=g at *;obtain⟨a2,t2,b1,b2,e⟩:=g;simp only at *
 by_cases c4:e=0
 rotate_left
 ·rw[zabo c4];have hf:=zcY e;unfold zbv;clear hgk ht ha hu k4;replace c3:=zabt c3;replace c2:=zabt c2;replace c1:=zabt c1;have sz_zTask:=zQ zE;generalize zf zE=D_zTask at *;have sz_zArena:=zby zM;generalize zx zM=D_zArena at *;have sz_t2:=zQ t2;generalize zf t2=D_t2 at *;have sz_a2:=zby a2;generalize zx a2=D_a2 at *;simp only[zf] at *;exact zW zeO
 subst c4;simp only[ne_eq,zabD,if_false];obtain⟨h1,s,h2,h3,h4⟩:=hgk rfl;have hen2:t2.entry=t.entry/\t2.results=t.results/\t2.inv=t.inv/\t2.walk=t.walk/\t2.sec=s:=by rw[h2];exact⟨rfl,rfl,rfl,rfl,rfl⟩
 obtain⟨q1,q2,q3,q4,q5⟩:=hen2
 cases b1
 rotate_left
 ·simp only[if_true];have hp:s.phase=4:=h4.1 rfl;have hk:=(zgx h3 ht.iv (.inl hp)).1 zo;have hd:=z8O hK (t:=t2) (by rw[q5];exact h3.si) (by rw[q5];exact hk) (by rw[q4];exact ht.wk) (by
   rw[q1,q3];refine⟨ht.e0,?_⟩;unfold zcX at he1
   rwa [zabo zo] at he1)
  generalize zdm K t2=r at *;obtain⟨t3,l⟩:=r;clear ht ha hu k4 h1 h2 h3 h4 q1 q2 q3 q4 q5 hp hk he1;replace c3:=zabt c3;replace c2:=zabt c2;replace c1:=zabt c1;simp only at *;have sz_t2:=zQ t2;generalize zf t2=D_t2 at *;have sz_t3:=zQ t3;generalize zf t3=D_t3 at *;simp only[zf] at *;exact zW zeO
 ·simp only[zabz,if_false]
  cases b2
  ·simp only[if_true];clear ht ha hu k4 h1 h2 h3 h4 q1 q2 q3 q4 q5;replace c3:=zabt c3;replace c2:=zabt c2;replace c1:=zabt c1;have sz_t2:=zQ t2;generalize zf t2=D_t2 at *;simp only[zf] at *;exact zW zeO
  ·simp only[zacf,if_false];have hn1:=zeU t2 { zac with id:=t2.id } n (by rw[q1];exact hen.1) (by rw[q2];exact hen.2);have hn2:=zeU t2 (zaO 3) n (by rw[q1];exact hen.1) (by rw[q2];exact hen.2);clear ht ha hu k4 h1 h2 h3 h4 q1 q2 q3 q4 q5;replace c3:=zabt c3;replace c2:=zabt c2;replace c1:=zabt c1
   by_cases d1:t2.loaded=1
   ·rw[zabo d1];clear hn2;generalize zba t2 { zac with id:=t2.id } n=t3 at *;have sz_t3:=zQ t3;generalize zf t3=D_t3 at *;replace d1:=zabA d1;simp only[zf,z7,zac,zabq] at *;exact zW zeO
   rw[zabn d1]
   by_cases d2:t2.loaded=2
   ·rw[zabo d2];clear hn1;generalize zba t2 (zaO 3) n=t3 at *;have sz_t3:=zQ t3;generalize zf t3=D_t3 at *;replace d1:=zabt d1;replace d2:=zabA d2;simp only[zf,z7,zaO,zac,zabq] at *;exact zW zeO
   ·rw[zabn d2];clear hn1 hn2;replace d1:=zabt d1;replace d2:=zabt d2;simp only[zf] at *;exact zW zeO
theorem zTQ(r:zah)(k:Int)(hL:r.cells.length<=4294967296):zi G zoi [.d (zai r),.d (.int .i64 k)] []=some (.d (.tup [zai (zeL r k).1,.sl ((zeL r k).2.1.map zm),.int .i64 (zeL r k).2.2]),[]):=by
 have hv:=zkS r hL;unfold zeL
 by_cases c0:zaE r=0
 ·rw[zabn (fun q=>q c0)];rw[c0] at hv;obtain⟨c,h,z,rfl,h1,h2,h3,h4⟩:=znr (zcC c0)
  by_cases c1:k<0\/(z:Int)<k
  ·rw[zabo c1];simp only[zai,zay,zabq] at *;exact zW zzf
  ·rw[zabn c1];have ho:=zi7 c h z h2 h3 h4;have hz:(zaM c h z).length=z:=zi6 c h z;have hw:=ztV c h z h ((zaM c h z).take (z - k.toNat)) h1 h2 zo (by rw[zac9];omega);rw[zi5];rw[hz];simp only[rg,zab5];generalize zaM c h z=w at *;generalize hl:wN c.length h (w.take (z - k.toNat)) (w.take (z - k.toNat)).length=w2 at *;have hlen:(w.take (z - k.toNat)).length=z - k.toNat:=by rw[zac9];omega
   rw[hlen] at hw ⊢;have e2:((z - k.toNat:Nat):Int)=z - k:=by omega
   rw[e2] at hw ⊢;have e3:z - k.toNat=((z:Int) - k).toNat:=by omega
   rw[e3] at hw ⊢;clear c0 hl hlen e2 e3;simp only[zai] at *;rw[hz] at ho
   try simp only[zNr,zB] at hw
   exact zW zzf
 ·rw[zabo c0];generalize zaE r=v at *;simp only[zai,zay,zabq] at *;exact zW zzf
theorem zTR(s:zt)(k:Int)(q:za4 s):zi G zoK [.d (zk s),.d (.int .i64 k)] []=some (.d (.tup [zk (zfM s k).1,.sl ((zfM s k).2.1.map zm),.int .i64 (zfM s k).2.2]),[]):=by
 have hl:=zeS s q.1 q.2.1 q.2.2;have hd:=zTQ s.ready k q.1;unfold zfM;generalize zab s=v at *;generalize zeL s.ready k=d at *;obtain⟨r,l,e⟩:=d
 by_cases c0:v=0
 ·subst c0;simp only[ne_eq,zabD,if_false]
  by_cases c1:e=0
  ·subst c1;simp only[zk,zai] at *;exact zW zzn
  ·rw[zabo c1];simp only[zk,zai,zJ,zay,zal,zabq] at *;exact zW zzn
 ·rw[zabo c0];clear hd;simp only[zk,zai,zJ,zay,zal,zabq] at *;exact zW zzn
theorem zQo(m:zj)(lo hi:Int):zi G zlt [.d (zm m),.d (.int .i64 lo),.d (.int .i64 hi)] []=some (.d (zm (zb7 m lo hi)),[]):=by
 have h:=zLM m.route lo hi;unfold zb7;simp only[zm] at *;exact zW zWL
theorem z7J(m:zj):zi G zoe [.d (zm m)] []=some (.d (zm (zbB m)),[]):=by
 unfold zbB;simp only[zm] at *;exact zW zWM
def zit(l:List zj)(s:zt)(i:Nat):St:=⟨[(1,.d (.sl (l.map zm))),(2,.ref 2 0 0),(4,.ref 4 0 0),(7,.d (.int .i64 i))],[(2,.row [.d (zk s)]),(4,.row [shZ])]⟩
def zjF(x:zt×Int):zX×St:=if x.2=0 then (.exit 0,⟨[(2,.ref 2 0 0),(4,.ref 4 0 0)],[(2,.row [.d (zk x.1)]),(4,.row [shZ])]⟩) else (.ret,⟨[(4,.ref 4 0 0),(5,.d (.int .i64 x.2))],[(4,.row [shZ])]⟩)
theorem z5y{s:zt}{m:zj}(h:(zcB s m).2=0):(zcB s m).1.low=s.low/\(zcB s m).1.high=s.high:=by
 unfold zcB at h ⊢
 by_cases c1:zab s≠0
 ·rw[zabo c1] at h;exact absurd h c1
 rw[zabn c1] at h ⊢
 by_cases c2:zap m≠0
 ·rw[zabo c2] at h;exact absurd h c2
 rw[zabn c2] at h ⊢
 by_cases c3:¬(s.low<=m.route/\m.route<=s.high)
 ·rw[zabo c3] at h;cases h
 rw[zabn c3] at h ⊢
 by_cases c4:s.ready.size+s.leases.l.length=s.ready.cells.length
 ·rw[zabo c4] at h;cases h
 rw[zabn c4] at h ⊢
 split at h
 ·cases h
 ·rename_i c5;rw[zabn c5];exact⟨rfl,rfl⟩
theorem zRx(l:List zj)(hl:l.length<=1000)(lo hi:Int):∀p:zt×Nat,p.2<=l.length/\zaK p.1/\p.1.low=lo/\p.1.high=hi->z6 G [] zmI (zit l p.1 p.2)=some (zjF (zeG lo hi (l.drop p.2) p.1)):=by
 refine zaL (fun p=>l.length - p.2) (fun p:zt×Nat=>p.2<=l.length/\zaK p.1/\p.1.low=lo/\p.1.high=hi) (fun p=>zit l p.1 p.2) (fun p=>some (zjF (zeG lo hi (l.drop p.2) p.1))) fun⟨s,i⟩ ⟨hi1,hs,e1,e2⟩ L ih=> ?_;simp only at hi1 hs e1 e2
 by_cases h0:i<l.length
 ·simp only;rw[zabX h0,zeG];have hr:=zQo l[i] lo hi;have hp:=zM1 s (zb7 l[i] lo hi) (zfH hs)
  by_cases c:(zcB s (zb7 l[i] lo hi)).2=0
  ·rw[zabn (fun q=>q c)];have hsp:=z5y c;have i1:=ih ⟨(zcB s (zb7 l[i] lo hi)).1,i+1⟩ ⟨by simp only;omega,zsk hs _,by rw[hsp.1];exact e1,by rw[hsp.2];exact e2⟩ (by simp only;omega);clear ih hsp;simp only at i1;generalize zeG lo hi (l.drop (i+1)) (zcB s (zb7 l[i] lo hi)).1=R at *;generalize zcB s (zb7 l[i] lo hi)=p at *;generalize zb7 l[i] lo hi=m at *;obtain⟨s2,e⟩:=p;subst e1 e2;simp only[zit,zmI] at *;subst c;generalize zjF R=R2 at *;simp only[zk,shZ] at *;simp only[zNr,zB] at i1;exact zS
  ·rw[zabo c];clear ih;generalize zcB s (zb7 l[i] lo hi)=p at *;generalize zb7 l[i] lo hi=m at *;obtain⟨s2,e⟩:=p;subst e1 e2;simp only[zit,zjF,zmI] at *;rw[zabn c];simp only[zk,shZ] at *;exact zS
 ·clear ih;obtain rfl:i=l.length:=by omega
  simp only[zab7,zeG,zjF,zit,zmI,if_true];simp only[zk,shZ] at *;exact zS
theorem zRy{lo hi:Int}:∀(l:List zj) (s:zt),(zeG lo hi l s).2≠0->(zeG lo hi l s).1=zJ:=by
 intro l
 induction l with
 | nil=>intro s h;exact absurd rfl h
 | cons m l ih=>
  intro s h;rw[zeG] at h ⊢
  split at h
  ·rename_i c;rw[zabo c]
  ·rename_i c;rw[zabn c];exact ih _ h
theorem znF{s:zt}(h:zY s=0):0<=zbb s/\zbb s<=24:=by
 have h1:=zbT h;unfold zbb;rw[zabo h];unfold zY at h
 split at h
 ·rename_i c;exact absurd h c
 ·rename_i c;obtain⟨a1,a2,a3,a4,a5,a6⟩:=zcC (zabG.1 c);have:=h1.1;have:=h1.2.1;omega
theorem zDq(s:zt)(l:List zj)(q:za4 s)(hl:l.length<=1000):zi G zoE [.d (zk s),.d (.sl (l.map zm))] []=some (.d (.tup [zk (zgc s l).1,.int .i64 (zgc s l).2]),[]):=by
 have hv:=zeS s q.1 q.2.1 q.2.2;have hst:=zhk s q;unfold zgc
 by_cases c0:zab s=0
 ·rw[zabn (fun z=>z c0)];have hb:=zgp c0;have h12:=zbT hb;have hb2:=znF hb;have hlp:=zRx l hl s.low s.high ⟨s,0⟩ ⟨by simp,h12,rfl,rfl⟩;have her:=zRy (lo:=s.low) (hi:=s.high) l s;rw[c0] at hv;clear c0;simp only[zabZ] at hlp;generalize zeG s.low s.high l s=R at *;generalize zbb s=sd at *;have h1:=h12.1;clear h12 hb;obtain⟨s2,e⟩:=R;unfold zjF at hlp;simp only at *
  by_cases c1:(s.ready.cells.length:Int) - sd<l.length
  ·rw[zabo c1];clear hlp;simp only[zk,zJ,zay,zal,zabq] at *;exact zW zrG
  ·rw[zabn c1]
   by_cases c2:e=0
   ·subst c2;simp only[zit,shZ,if_true] at *;simp only[zk,zabQ] at *;exact zW zrG
   ·rw[zabn c2] at hlp;have q1:=her c2;subst q1;clear her;simp only[zit,shZ] at *;simp only[zk,zabQ,zJ,zay,zal,zabq] at *;exact zW zrG
 ·rw[zabo c0];clear hst;generalize zab s=v at *;simp only[zk,zJ,zay,zal,zabq] at *;exact zW zrG
theorem zid{s:zt}(h:zY s=0):zaE s.ready=0:=by
 unfold zY at h
 split at h
 ·rename_i c;exact absurd h c
 ·rename_i c;exact zabG.1 c
def ziA(s:zt)(l:List zj)(k ep lim:Int)(r:zah)(out:List zj)(i:Nat):St:=⟨[(1,.d (.int .i64 k)),(2,.d (.int .i64 ep)),(3,.d (.int .i64 lim)),(4,.ref 4 0 0),(8,.ref 8 0 0),(12,.acc 12 (out.map zm)),(13,.d (.sl (l.map zm))),(14,.d (.int .i64 i))],[(4,.row [.d (zk { s with ready:=r })]),(8,.row [shZ]),(12,.acc out.length)]⟩
def ziz(s:zt)(x:zah×List zj):zX×St:=(.exit 0,⟨[(4,.ref 4 0 0),(8,.ref 8 0 0),(12,.acc 12 (x.2.map zm))],[(4,.row [.d (zk { s with ready:=x.1 })]),(8,.row [shZ]),(12,.acc x.2.length)]⟩)
theorem zSu(s:zt)(l:List zj)(k ep lim:Int)(hl:l.length<=12):∀p:zah×List zj×Nat,p.2.2<=l.length/\p.1.cells.length<=12/\p.2.1.length<=p.2.2->z6 G [] zkn (ziA s l k ep lim p.1 p.2.1 p.2.2)=some (ziz s (zd4 k ep lim (l.drop p.2.2) p.1 p.2.1)):=by
 refine zaL (fun p=>l.length - p.2.2) (fun p:zah×List zj×Nat=>p.2.2<=l.length/\p.1.cells.length<=12/\p.2.1.length<=p.2.2) (fun p=>ziA s l k ep lim p.1 p.2.1 p.2.2) (fun p=>some (ziz s (zd4 k ep lim (l.drop p.2.2) p.1 p.2.1))) fun⟨r,out,i⟩ ⟨hi1,hr,ho⟩ L ih=> ?_;simp only at hi1 hr ho
 by_cases h0:i<l.length
 ·simp only;rw[zabX h0,zd4]
  by_cases c0:¬(out.length:Int)<k
  ·rw[zabo c0];clear ih;simp only[ziA,ziz,zkn,zk,shZ] at *;exact zS
  ·rw[zabn c0];have hp:=zh7 l[i] ep;have hs:=ztH l[i] lim
   by_cases c1:lim<=l[i].count/\¬l[i].epoch<ep
   ·rw[zabo c1];rw[zabM c1.1] at hs;rw[zabP c1.2] at hp;have hm:=zBX r l[i].id zo;have hc:=ztw r l[i].id;have i1:=ih ⟨(rmD r l[i].id).1,out++[l[i]],i+1⟩ ⟨by simp only;omega,by simp only;omega,by simp only[zabv,zab3];omega⟩ (by simp only;omega);clear ih c1;simp only at i1;generalize zd4 k ep lim (l.drop (i+1)) (rmD r l[i].id).1 (out++[l[i]])=R at *;generalize ziz s R=R2 at *;generalize rmD r l[i].id=q at *;obtain⟨⟨qc,qh,qz⟩,qm,qe⟩:=q;obtain⟨rc,rh,rz⟩:=r;simp only[ziA,zkn,zk,zai,zm,shZ,zabF,zabs,zabq] at *;simp only[zNr,zB] at i1;simp -implicitDefEqProofs (maxSteps:=4000000) (disch:=omega) only[zm,zh,go_sem, *]
   ·rw[zabn c1];have i1:=ih ⟨r,out,i+1⟩ ⟨by simp only;omega,hr,by simp only;omega⟩ (by simp only;omega);clear ih;simp only at i1;generalize zd4 k ep lim (l.drop (i+1)) r out=R at *;generalize ziz s R=R2 at *;simp only[ziA,zkn,zk,zm,shZ] at *;simp only[zNr,zB] at i1
    by_cases c2:lim<=l[i].count
    ·rw[zabM c2] at hs;have c3:l[i].epoch<ep:=by omega
     rw[zabM c3] at hp;clear c1 c2 c3;simp -implicitDefEqProofs (maxSteps:=4000000) (disch:=omega) only[zm,zh,go_sem, *]
    ·rw[zabP c2] at hs;clear c1 c2;simp -implicitDefEqProofs (maxSteps:=4000000) (disch:=omega) only[zm,zh,go_sem, *]
 ·clear ih;obtain rfl:i=l.length:=by omega
  simp only[zab7,zd4,ziz,ziA,zkn];simp only[zk,shZ] at *;exact zS
theorem zSw(s:zt)(k ep lim:Int)(q:za4 s):zi G zoG [.d (zk s),.d (.int .i64 k),.d (.int .i64 ep),.d (.int .i64 lim)] []=some (.d (.tup [zk (zfI s k ep lim).1,.sl ((zfI s k ep lim).2.1.map zm),.int .i64 (zfI s k ep lim).2.2]),[]):=by
 have hv:=zeS s q.1 q.2.1 q.2.2;have h1:=zj1 ep;have h2:=zsl lim;unfold zfI
 by_cases c0:zab s=0
 ·rw[zabn (fun z=>z c0)];have hb:=zgp c0;have hr:=zid hb;have h12:=zha hb;have hrd:=zje hr;have hlp:=zSu s (zD s.ready) k ep lim h12 ⟨s.ready,[],0⟩ ⟨by simp,(zbT hb).1,by simp⟩;rw[c0] at hv;clear c0 hb hr h12;simp only[zabZ] at hlp;generalize zd4 k ep lim (zD s.ready) s.ready []=R at *;generalize zD s.ready=w at *;generalize epQ ep=b1 at *;generalize liQ lim=b2 at *;obtain⟨⟨rc,rh,rz⟩,out⟩:=R;simp only[ziA,ziz,zk,shZ,zJ,zay,zal,zabq,zabw,zabQ] at *
  cases b1
  ·clear hlp;simp only[zadq,if_true];exact zW zml
  cases b2
  ·clear hlp;simp only[zadq,or_true,if_true];exact zW zml
  ·by_cases c2:k<0
   ·clear hlp;simp only[c2,or_true,if_true];exact zW zml
   ·simp only[c2,zacf,or_self,if_false];exact zW zml
 ·rw[zabo c0];generalize zab s=v at *;simp only[zk,zJ,zay,zal,zabq] at *;exact zW zml
end Go.Proofs.YtnmcgdpmikhohaaGreat
