/-
  The reference's shards.
-/
import Derived.Test.YtdnlddoeamjcoaaGreatB842129c
import Derived.Test.YtdnlddoeamjcoaaGreatB3736516
import Derived.Test.YtdnlddoeamjcoaaGreatBad5c9c6
set_option linter.unusedSimpArgs false
set_option linter.unusedVariables false
set_option maxHeartbeats 10000000
set_option maxRecDepth 100000
namespace Go.Proofs.YtdnlddoeamjcoaaGreat
open Go Go.Sim
structure ziQ(K:Tok):Prop where
 route:∀i,0<=K.route i/\K.route i<65536
 par:∀b,(K.par b).2=0->(0<=(K.par b).1.route/\(K.par b).1.route<65536)/\0<=(K.par b).1.hint
theorem zabi{u:Setup}{a:zy}{t:zq}{n N:Int}(hu:zJ u=true)(ha:AI u a)(ht:TI u N t)(e:(z7 zb2 9 9 za7 a t n).2.2.2=0):
    AI u (z7 zb2 9 9 za7 a t n).1/\TI u (N+1) (z7 zb2 9 9 za7 a t n).2.1:=by
 refine zne hu ha ht zo (fun t ht hk=> ?_) (fun t ht hk hS hp=> ?_) e
 ·obtain⟨v1,v2,v3⟩:=zih ht.iv zo;exact⟨zj0 v1 v2 v3,by unfold za7 zaN;split<;>simp,fun s s1 s2 s3=>⟨s1,s2,fun q=>by omega,fun q=>by omega,fun _=>s3,fun q=>by omega,fun q=>by omega⟩⟩
 ·obtain⟨k1,k2⟩:=zAH hS zo ht.iv hp;exact zC5 hS.si k1 k2
theorem zaa6{u:Setup}{a:zy}{t:zq}{n N:Int}(hu:zJ u=true)(ha:AI u a)(ht:TI u N t)(e:(z7 zb1 10 10 za7 a t n).2.2.2=0):
    AI u (z7 zb1 10 10 za7 a t n).1/\TI u (N+1) (z7 zb1 10 10 za7 a t n).2.1:=by
 refine zne hu ha ht zo (fun t ht hk=> ?_) (fun t ht hk hS hp=> ?_) e
 ·obtain⟨v1,v2,v3⟩:=zih ht.iv zo;exact⟨zj0 v1 v2 v3,by unfold za7 zaN;split<;>simp,fun s s1 s2 s3=>⟨s1,s2,fun q=>by omega,fun q=>by omega,fun _=>s3,fun q=>by omega,fun q=>by omega⟩⟩
 ·obtain⟨k1,k2⟩:=zAH hS zo ht.iv hp;exact zC4 hS.si k1 k2
theorem z0H{u:Setup}{a:zy}{t:zq}{n N:Int}(hu:zJ u=true)(ha:AI u a)(ht:TI u N t)(e:(z7 zbX 11 11 za7 a t n).2.2.2=0):
    AI u (z7 zbX 11 11 za7 a t n).1/\TI u (N+1) (z7 zbX 11 11 za7 a t n).2.1:=by
 refine zne hu ha ht zo (fun t ht hk=> ?_) (fun t ht hk hS hp=> ?_) e
 ·obtain⟨v1,v2,v3⟩:=zih ht.iv zo;exact⟨zj0 v1 v2 v3,by unfold za7 zaN;split<;>simp,fun s s1 s2 s3=>⟨s1,s2,fun q=>by omega,fun q=>by omega,fun _=>s3,fun q=>by omega,fun q=>by omega⟩⟩
 ·obtain⟨k1,k2⟩:=zAH hS zo ht.iv hp;exact zBw hS.si k1 k2
theorem zabB{u:Setup}{a:zy}{t:zq}{n N:Int}(hu:zJ u=true)(ha:AI u a)(ht:TI u N t)(e:(z7 zbx 12 13 (fun t=>[t.inv.from_]) a t n).2.2.2=0):
    AI u (z7 zbx 12 13 (fun t=>[t.inv.from_]) a t n).1/\TI u (N+1) (z7 zbx 12 13 (fun t=>[t.inv.from_]) a t n).2.1:=by
 refine zne hu ha ht zo (fun t ht hk=> ?_) (fun t ht hk hS hp=> ?_) e
 ·have v:0<=t.inv.from_/\t.inv.from_<=u.slots:=by
     by_cases h:t.inv.kind=12
     ·have:=zkA ht.iv (.inl h);omega
     ·exact zLZ ht.iv zo
  exact⟨zuk v,by simp,fun s s1 s2 s3=>⟨s1,s2,fun q=>by omega,fun q=>by omega,fun q=>by omega,fun _=>s3,fun q=>by omega⟩⟩
 ·exact zDa hS.si (zZm hS zo hp)
theorem zS0{u:Setup}{a:zy}{t:zq}{n N:Int}(hu:zJ u=true)(ha:AI u a)(ht:TI u N t)(e:(z7 zbT 14 14 (fun t=>[t.inv.from_,t.setup.slots]) a t n).2.2.2=0):
    AI u (z7 zbT 14 14 (fun t=>[t.inv.from_,t.setup.slots]) a t n).1/\TI u (N+1) (z7 zbT 14 14 (fun t=>[t.inv.from_,t.setup.slots]) a t n).2.1:=by
 refine zne hu ha ht zo (fun t ht hk=> ?_) (fun t ht hk hS hp=> ?_) e
 ·have v:=zkA ht.iv (.inr zo);rw[ht.su];exact⟨zma v.1 v.2 zo,by simp,fun s s1 s2 s3=>⟨s1,s2,fun q=>by omega,fun q=>by omega,fun q=>by omega,fun q=>by omega,fun _=>s3⟩⟩
 ·obtain⟨k1,k2⟩:=zZn hS zo ht.iv hp;exact zuy hS.si k1 k2
theorem z8K{u:Setup}{a:zy}{t:zq}{n N:Int}(hu:zJ u=true)(ha:AI u a)(ht:TI u N t)(e:(zcV a t n).2.2.2=0):AI u (zcV a t n).1/\TI u (N+1) (zcV a t n).2.1:=by
 unfold zcV at e ⊢
 by_cases c:z8 t 8 8=0
 ·rw[zacX (fun q=>q c)] at e ⊢;obtain⟨g1,g2⟩:=zdx c
  by_cases c1:t.pc=0
  ·rw[zacY c1];have hh:=zLS ha.dv t.inv.home;rw[ha.df] at hh;have hsl:=ha.sl;have ht:=ht.mono (show N<=N+1 by omega);obtain⟨s1,s2,s3⟩:=ziH (N:=N+1) (lim:=t.setup.limit) (cells:=[zdy a.dir t.inv.home,t.setup.slots]) hu (by rw[ht.su]) ht.nn (by rw[ht.su];exact zma hh.1 zo zo) (by simp);refine⟨ha,{ ht with di:=⟨zgf ha.dv,(zke ha.dv).2.1⟩,se:=fun _=>⟨s1,s2,fun q=> ?_,fun _=>⟨zdy a.dir t.inv.home,hh.1,by omega,?_⟩,fun q=> ?_,fun q=> ?_,fun q=> ?_⟩ }⟩
   ·simp only[zaO] at q;omega
   ·show (zdW _ _).1.lock.cells=_;rw[s3,ht.su]
   ·simp only[zaO] at q;omega
   ·simp only[zaO] at q;omega
   ·simp only[zaO] at q;omega
  rw[zacX c1] at e ⊢;simp only at e ⊢;have k4:=ht.se ⟨c1,by omega⟩;have hg:=zkx (n:=n) ha k4;generalize goT a t n=g at *
  by_cases c2:g.2.2.2.2=0
  ·rw[zacX (fun q=>q c2)];obtain⟨h1,s,h2,h3,h4⟩:=hg c2;have k5:=(ht.mono (show N<=N+1 by omega)).sec h3;rw[<- h2] at k5;have hd:g.2.1.done=false:=by rw[h2];exact g1
   have hi2:g.2.1.inv=t.inv:=by rw[h2]
   have hsc:g.2.1.sec=s:=by rw[h2]
   split
   ·rename_i c3;refine⟨h1,?_⟩;have hS:zaB u (N+1) g.2.1.inv g.2.1.sec:=by rw[hi2,hsc];exact h3
    have h4':g.2.1.sec.phase=4:=by rw[hsc];exact h4.1 c3
    obtain⟨l1,l2⟩:=zZp hS (by rw[hi2];omega) h4';have hdec:=z8H (t:=g.2.1) hS.si h4' l1 l2;have e1:(zdV g.2.1).1={ g.2.1 with sec:=(zdV g.2.1).1.sec }:=by
     unfold zdV;simp only
     split
     ·rfl
     split
     ·rfl
     split<;>rfl
    rw[e1];exact k5.sec (hS.dec hdec)
   ·split
    ·exact⟨h1,k5⟩
    split
    ·exact⟨h1,{ k5 with se:=fun q=>absurd rfl q.1 }⟩
    ·exact⟨h1,zfk k5 hd _ _⟩
  ·rw[zacY c2] at e;exact absurd e c2
 ·rw[zacY c] at e;exact absurd e c
def zg2(w:ze9):Prop:=0<=w.next/\w.next<65536/\0<=w.covered/\w.covered<=131072
theorem zRt(r:Int):zg2 (zg0 r).1:=by
 unfold zg0 zg2
 split
 ·simp [zdc]
 ·simp only;omega
theorem znT(w:ze9)(lo hi:Int):zg2 (zf2 w lo hi).1:=by
 unfold zf2 zg2
 split
 ·simp [zdc]
 ·rename_i c;have e:(hi+1).tmod 65536=(hi+1) % 65536:=zafY zo;simp only[e];omega
theorem TI.one{u:Setup}{N:Int}{t:zq}(hu:zJ u=true)(ht:TI u N t)(hk:1<=t.inv.kind/\t.inv.kind<=5){c:Int}(h0:0<=c)(h1:c<u.slots)(pc:Int):TI u N (zaO t [c] pc):=by
 obtain⟨s1,s2,s3⟩:=ziH (N:=N) (lim:=t.setup.limit) (cells:=[c]) hu (by rw[ht.su]) ht.nn (zuk zo) (by simp);refine { ht with se:=fun _=>⟨s1,s2,fun _=>⟨c,h0,h1,s3⟩,fun q=> ?_,fun q=> ?_,fun q=> ?_,fun q=> ?_⟩ }<;>(simp only[zaO] at q;omega)
theorem TI.look {u:Setup} {N:Int} {a:zy} {t:zq} (hu:zJ u=true) (ha:AI u a) (ht:TI u N t) (hk:1<=t.inv.kind/\t.inv.kind<=5) {r:Int} (h0:0<=r) (h1:r<65536) (pc:Int)
    (hoff:¬onP t.inv.kind t.pc):TI u N (zhq a t r pc):=by
 have hh:=zM2 ha.dv h0 h1;rw[ha.df] at hh;have hsl:=ha.sl;have h2:TI u N { t with dir:=a.dir,slot:=zeR a.dir r }:={ ht with di:=⟨zgf ha.dv,(zke ha.dv).2.1⟩,se:=fun q=>absurd q hoff };exact h2.one hu hk hh.1 zo pc
theorem TI.dec{u:Setup}{N:Int}{t:zq}{s:Section}{w:ze9}{l:Int}(ht:TI u N t)(hS:zaB u N t.inv t.sec)(hd:ziL u N t.sec s)(hw:zg2 w)(hl:0<=l/\l<=1073741824):TI u N { t with sec:=s,walk:=w,loaded:=l }:=
 { ht with wk:=hw,ld:=hl,se:=fun _=>hS.dec hd }
theorem zaav(K:Tok)(t:zq)(hw:zg2 t.walk):∃w l,(zdX K t).1={ t with sec:=(zdX K t).1.sec,walk:=w,loaded:=l }/\zg2 w/\0<=l/\l<=1073741824:=by
 unfold zdX;simp only
 split
 ·exact⟨_,_,rfl,hw,by simp⟩
 split
 ·split
  ·exact⟨_,_,rfl,znT _ _ _,by simp⟩
  ·exact⟨_,_,rfl,znT _ _ _,by simp⟩
 ·exact⟨_,_,rfl,hw,by simp⟩
theorem z8E(t:zq)(hw:zg2 t.walk):∃w l,(zdU t).1={ t with sec:=(zdU t).1.sec,walk:=w,loaded:=l }/\zg2 w/\0<=l/\l<=1073741824:=by
 unfold zdU;simp only
 split
 ·exact⟨_,_,rfl,hw,by simp⟩
 split
 ·exact⟨_,_,rfl,hw,by simp⟩
 split
 ·exact⟨_,_,rfl,znT _ _ _,by simp⟩
 split
 ·exact⟨_,_,rfl,znT _ _ _,by simp⟩
 ·exact⟨_,_,rfl,znT _ _ _,by simp⟩
theorem zaaI(t:zq):(zdY t).1={ t with sec:=(zdY t).1.sec }:=by
 unfold zdY;simp only
 split<;>rfl
theorem zaat{K:Tok}(hK:ziQ K){u:Setup}{a:zy}{t:zq}{n N:Int}(hu:zJ u=true)(ha:AI u a)(ht:TI u N t)(e:(zcY K a t n).2.2.2=0):AI u (zcY K a t n).1/\TI u (N+1) (zcY K a t n).2.1:=by
 have hni:=ha.ni;unfold zcY at e ⊢
 by_cases c:z8 t 1 1=0
 ·rw[zacX (fun q=>q c)] at e ⊢;obtain⟨g1,g2⟩:=zdx c;have hM:=ht.mono (show N<=N+1 by omega)
  by_cases c1:t.pc=0
  ·rw[zacY c1];have hl:TI u (N+1) { t with loaded:=a.nextID }:={ hM with ld:=⟨by simp only;omega,by simp only;omega⟩ }
   split
   ·exact⟨ha,zfk hl g1 _ _⟩
   ·exact⟨ha,{ hl with se:=fun q=>by simp only[onP] at q;omega }⟩
  rw[zacX c1] at e ⊢
  by_cases c2:t.pc=1
  ·rw[zacY c2] at e ⊢;simp only at e ⊢;have hc:=ha.casWord 3 t.loaded (t.loaded+1);generalize casWord a 3 t.loaded (t.loaded+1)=r at *
   by_cases c3:r.2.2=0
   ·rw[zacX (fun q=>q c3)];refine⟨hc c3,?_⟩;have hld:=hM.ld;have hnn:=hM.nn;show TI u (N+1) (if r.2.1=true then _ else _)
    split
    ·exact { hM with id:=⟨hld.1,by simp only;omega⟩,wk:=zRt _,se:=fun q=>by simp only[onP] at q;omega }
    ·exact { hM with se:=fun q=>absurd rfl q.1 }
   ·rw[zacY c3] at e;exact absurd e c3
  rw[zacX c2] at e ⊢
  by_cases c3:t.pc=2
  ·rw[zacY c3];exact⟨ha,hM.look hu ha zo hM.wk.1 hM.wk.2.1 3 (fun q=>by unfold onP at q;omega)⟩
  rw[zacX c3] at e ⊢;simp only at e ⊢;have k4:=ht.se ⟨c1,by omega⟩;have hg:=zkx (n:=n) ha k4;generalize goT a t n=g at *
  by_cases c4:g.2.2.2.2=0
  ·rw[zacX (fun q=>q c4)];obtain⟨h1,s,h2,h3,h4⟩:=hg c4;have k5:=hM.sec h3;rw[<- h2] at k5;have hd:g.2.1.done=false:=by rw[h2];exact g1
   have hi2:g.2.1.inv=t.inv:=by rw[h2]
   have hsc:g.2.1.sec=s:=by rw[h2]
   split
   ·rename_i c5;refine⟨h1,?_⟩;have hS:zaB u (N+1) g.2.1.inv g.2.1.sec:=by rw[hi2,hsc];exact h3
    have h4':g.2.1.sec.phase=4:=by rw[hsc];exact h4.1 c5
    have hdec:=zaaq K (t:=g.2.1) hS.si h4' (zAG hS (by rw[hi2];omega) h4');obtain⟨w,l,e1,e2,e3⟩:=zaav K g.2.1 k5.wk;rw[e1];exact k5.dec hS hdec e2 e3
   ·split
    ·exact⟨h1,k5⟩
    split
    ·exact⟨h1,zfk k5 hd _ _⟩
    split
    ·exact⟨h1,zfk k5 hd _ _⟩
    ·exact⟨h1,{ k5 with se:=fun q=>by simp only[onP] at q;rw[hi2] at q;omega }⟩
  ·rw[zacY c4] at e;exact absurd e c4
 ·rw[zacY c] at e;exact absurd e c
theorem z8C{K:Tok}{u:Setup}{a:zy}{t:zq}{n N:Int}(hu:zJ u=true)(ha:AI u a)(ht:TI u N t)(e:(zcU K a t n).2.2.2=0):AI u (zcU K a t n).1/\TI u (N+1) (zcU K a t n).2.1:=by
 unfold zcU at e ⊢
 by_cases c:z8 t 2 2=0
 ·rw[zacX (fun q=>q c)] at e ⊢;obtain⟨g1,g2⟩:=zdx c;have hM:=ht.mono (show N<=N+1 by omega)
  by_cases c1:t.pc=0
  ·rw[zacY c1];have hh:=zLS ha.dv t.inv.home;rw[ha.df] at hh;have hsl:=ha.sl;have h2:TI u (N+1) { t with dir:=a.dir,slot:=zdy a.dir t.inv.home,walk:=(zg0 (zlr a.dir (zdy a.dir t.inv.home)).1.low).1 }:=
    { hM with di:=⟨zgf ha.dv,(zke ha.dv).2.1⟩,wk:=zRt _,se:=fun q=>absurd c1 q.1 }
   exact⟨ha,h2.one hu (by simp only;omega) hh.1 zo 1⟩
  rw[zacX c1] at e ⊢
  by_cases c3:t.pc=2
  ·rw[zacY c3];exact⟨ha,hM.look hu ha zo hM.wk.1 hM.wk.2.1 1 (fun q=>by unfold onP at q;omega)⟩
  rw[zacX c3] at e ⊢;simp only at e ⊢;have k4:=ht.se ⟨c1,by omega⟩;have hg:=zkx (n:=n) ha k4;generalize goT a t n=g at *
  by_cases c4:g.2.2.2.2=0
  ·rw[zacX (fun q=>q c4)];obtain⟨h1,s,h2,h3,h4⟩:=hg c4;have k5:=hM.sec h3;rw[<- h2] at k5;have hd:g.2.1.done=false:=by rw[h2];exact g1
   have hi2:g.2.1.inv=t.inv:=by rw[h2]
   have hsc:g.2.1.sec=s:=by rw[h2]
   split
   ·rename_i c5;refine⟨h1,?_⟩;have hS:zaB u (N+1) g.2.1.inv g.2.1.sec:=by rw[hi2,hsc];exact h3
    have h4':g.2.1.sec.phase=4:=by rw[hsc];exact h4.1 c5
    have hdec:=z8z (t:=g.2.1) hS.si h4' (zAG hS (by rw[hi2];omega) h4');obtain⟨w,l,e1,e2,e3⟩:=z8E g.2.1 k5.wk;rw[e1];exact k5.dec hS hdec e2 e3
   ·split
    ·exact⟨h1,k5⟩
    split
    ·exact⟨h1,zfk k5 hd _ _⟩
    split
    ·exact⟨h1,zfk k5 hd _ _⟩
    split
    ·exact⟨h1,zfk k5 hd _ _⟩
    ·exact⟨h1,{ k5 with se:=fun q=>by simp only[onP] at q;rw[hi2] at q;omega }⟩
  ·rw[zacY c4] at e;exact absurd e c4
 ·rw[zacY c] at e;exact absurd e c
theorem zaaH{K:Tok}(hK:ziQ K){u:Setup}{a:zy}{t:zq}{n N:Int}(hu:zJ u=true)(ha:AI u a)(ht:TI u N t)(e:(zbS K a t n).2.2.2=0):AI u (zbS K a t n).1/\TI u (N+1) (zbS K a t n).2.1:=by
 unfold zbS at e ⊢
 by_cases c:z8 t 3 5=0
 ·rw[zacX (fun q=>q c)] at e ⊢;obtain⟨g1,g2⟩:=zdx c;have hM:=ht.mono (show N<=N+1 by omega)
  by_cases c1:t.pc=0
  ·rw[zacY c1];simp only;have hp:=hK.par (t.inv.tokens.getD t.entry.toNat []);generalize K.par (t.inv.tokens.getD t.entry.toNat [])=h at *
   by_cases c2:h.2=0
   ·rw[zacX (fun q=>q c2)];obtain⟨p1,p2⟩:=hp c2;have h2:TI u (N+1) { t with handle:=h.1,pc:=1 }:={ hM with hd:=p1,se:=fun q=>by simp only[onP] at q;omega };refine⟨ha,?_⟩;show TI u (N+1) (if h.1.hint<t.setup.slots then _ else _)
    split
    ·rename_i c3;rw[ht.su] at c3;exact h2.one hu (by simp only;omega) p2 c3 2
    ·exact h2
   ·rw[zacY c2];exact⟨ha,zfk hM g1 _ _⟩
  rw[zacX c1] at e ⊢
  by_cases c3:t.pc=1
  ·rw[zacY c3];exact⟨ha,hM.look hu ha zo hM.hd.1 hM.hd.2 2 (fun q=>by unfold onP at q;omega)⟩
  rw[zacX c3] at e ⊢;simp only at e ⊢;have k4:=ht.se ⟨c1,by omega⟩;have hg:=zkx (n:=n) ha k4;generalize goT a t n=g at *
  by_cases c4:g.2.2.2.2=0
  ·rw[zacX (fun q=>q c4)];obtain⟨h1,s,h2,h3,h4⟩:=hg c4;have k5:=hM.sec h3;rw[<- h2] at k5;have hd:g.2.1.done=false:=by rw[h2];exact g1
   have hi2:g.2.1.inv=t.inv:=by rw[h2]
   have hsc:g.2.1.sec=s:=by rw[h2]
   split
   ·rename_i c5;refine⟨h1,?_⟩;have hS:zaB u (N+1) g.2.1.inv g.2.1.sec:=by rw[hi2,hsc];exact h3
    have h4':g.2.1.sec.phase=4:=by rw[hsc];exact h4.1 c5
    have hdec:=zaaE (t:=g.2.1) hS.si h4' (zAG hS (by rw[hi2];omega) h4');have e1:=zaaI g.2.1;rw[e1];exact k5.sec (hS.dec hdec)
   ·split
    ·exact⟨h1,k5⟩
    split
    ·exact⟨h1,{ k5 with se:=fun q=>by simp only[onP] at q;rw[hi2] at q;omega }⟩
    ·exact⟨h1,zfk k5 hd _ _⟩
  ·rw[zacY c4] at e;exact absurd e c4
 ·rw[zacY c] at e;exact absurd e c
theorem zabM{K:Tok}(hK:ziQ K){u:Setup}{a:zy}{t:zq}{n N:Int}(hu:zJ u=true)(ha:AI u a)(ht:TI u N t)(hn:0<=n/\n<=N+1)(e:(zcn K a t n).2.2.2=0):AI u (zcn K a t n).1/\TI u (N+1) (zcn K a t n).2.1:=by
 unfold zcn at e ⊢
 by_cases c0:t.done=true
 ·rw[zacY c0] at e;cases e
 rw[zacX c0] at e ⊢
 by_cases c1:t.inv.kind=1
 ·rw[zacY c1] at e ⊢; exact zaat hK hu ha ht e
 rw[zacX c1] at e ⊢
 by_cases c2:t.inv.kind=2
 ·rw[zacY c2] at e ⊢; exact z8C hu ha ht e
 rw[zacX c2] at e ⊢
 by_cases c3:3<=t.inv.kind/\t.inv.kind<=5
 ·rw[zacY c3] at e ⊢; exact zaaH hK hu ha ht e
 rw[zacX c3] at e ⊢
 by_cases c6:t.inv.kind=6
 ·rw[zacY c6] at e ⊢; exact z6Y ha ht e
 rw[zacX c6] at e ⊢
 by_cases c7:t.inv.kind=7
 ·rw[zacY c7] at e ⊢; exact zTN ha ht hn e
 rw[zacX c7] at e ⊢
 by_cases c8:t.inv.kind=8
 ·rw[zacY c8] at e ⊢; exact z8K hu ha ht e
 rw[zacX c8] at e ⊢
 by_cases c9:t.inv.kind=9
 ·rw[zacY c9] at e ⊢; exact zabi hu ha ht e
 rw[zacX c9] at e ⊢
 by_cases c10:t.inv.kind=10
 ·rw[zacY c10] at e ⊢; exact zaa6 hu ha ht e
 rw[zacX c10] at e ⊢
 by_cases c11:t.inv.kind=11
 ·rw[zacY c11] at e ⊢; exact z0H hu ha ht e
 rw[zacX c11] at e ⊢
 by_cases c12:t.inv.kind=12\/t.inv.kind=13
 ·rw[zacY c12] at e ⊢; exact zabB hu ha ht e
 rw[zacX c12] at e ⊢
 by_cases c14:t.inv.kind=14
 ·rw[zacY c14] at e ⊢; exact zS0 hu ha ht e
 rw[zacX c14] at e
 cases e
theorem zabg{u:Setup}{number:Int}{i:Invocation}{n N:Int}(hN:0<=N)(e:(ze1 number i u n).2=0):TI u N (ze1 number i u n).1:=by
 unfold ze1 at e ⊢
 by_cases c1:number<1\/200<number\/n<0
 ·rw[zacY c1] at e;cases e
 rw[zacX c1] at e ⊢
 by_cases c2:zJ u=false
 ·rw[zacY c2] at e;cases e
 rw[zacX c2] at e ⊢
 by_cases c3:zaK i u≠0
 ·rw[zacY c3] at e;exact absurd e c3
 rw[zacX c3];have c3:=zadh.1 c3;have hk:=zYP c3;have hb:=znC (Bool.of_not_eq_false c2);refine { nm:=by simp only;omega,iv:=c3,su:=rfl,e0:=by simp [zD],e1:=fun _=> ?_,e2:=by simp [zD],wk:=by simp [zD],ld:=by simp [zD],id:=⟨by simp [zD],by simp only[zD];omega⟩,hd:=by simp [zD],fs:=⟨by simp only[zD,zac5];omega,by simp only[zD,zac5];omega⟩,di:=by simp [zD],nn:=hN,se:=fun q=>absurd rfl q.1 };simp only[zD];unfold zdw;unfold zaK at c3
 by_cases d1:i.kind=1
 ·rw[zacY d1] at c3 ⊢
  split at c3
  ·cases c3
  ·omega
 rw[zacX d1] at c3 ⊢
 by_cases d3:3<=i.kind/\i.kind<=5
 ·rw[zacY d3];rw[zacX zo,zacY d3] at c3
  split at c3
  ·cases c3
  ·omega
 ·rw[zacX d3];omega
structure WI(u:Setup)(w:World):Prop where
 hu:zJ u=true
 su:w.setup=u
 ar:AI u w.arena
 ts:∀t∈w.tasks,TI u w.steps t
 tl:w.tasks.length<=200
 st:0<=w.steps
theorem z6f{w:World}{i:Nat}(h:i∈zbA w):i<w.tasks.length:=by
 unfold zbA at h;exact zadU.1 (zaew.1 h).1
theorem zMU{w:World}{k:Nat}(h:k<(zbA w).length):(zbA w).getD k 0<w.tasks.length:=by
 rw[zadC,zada h];exact z6f (zadf h)
theorem zabn{K:Tok}(hK:ziQ K){u:Setup}{w:World}{i:Nat}(hw:WI u w)(hi:i<w.tasks.length)(e:(zdl K w i).2=0):WI u (zdl K w i).1:=by
 unfold zdl at e ⊢;simp only at e ⊢;have ht:=hw.ts (w.tasks.getD i zD) (by rw[zj hi];exact zadf hi);have hst:=hw.st;have hk:=zabM hK (n:=w.steps+1) (N:=w.steps) hw.hu hw.ar ht zo
 by_cases c:(zcn K w.arena (w.tasks.getD i zD) (w.steps+1)).2.2.2=0
 ·rw[zacX (fun q=>q c)];obtain⟨k1,k2⟩:=hk c;refine { hu:=hw.hu,su:=hw.su,ar:=k1,ts:=fun t h=> ?_,tl:=by simp only[zadM];exact hw.tl,st:=by simp only;omega }
  rcases zm0 h with h|h
  ·rw[h];exact k2
  ·exact (hw.ts t h).mono (by simp only;omega)
 ·rw[zacY c] at e;exact absurd e c
theorem zabU{u:Setup}{w:World}{by_:Int}(hw:WI u w)(e:(zep w by_).2=0):WI u (zep w by_).1:=by
 unfold zep at e ⊢;have hst:=hw.st;have ht:=hw.ar.tick by_
 by_cases c:(ze3 w.arena by_).2=0
 ·rw[zacX (fun q=>q c)];exact { hu:=hw.hu,su:=hw.su,ar:=ht c,ts:=fun t h=>(hw.ts t h).mono (by simp only;omega),tl:=hw.tl,st:=by simp only;omega }
 ·rw[zacY c] at e;exact absurd e c
theorem zY5{u:Setup}{w:World}{i:Invocation}(hw:WI u w)(e:(zdg w i).2.2=0):WI u (zdg w i).1:=by
 unfold zdg at e ⊢
 by_cases c:200<=w.tasks.length\/8<=(zbA w).length
 ·rw[zacY c] at e;cases e
 rw[zacX c] at e ⊢;have hs:=fun h=>zabg (u:=u) (number:=w.tasks.length+1) (i:=i) (n:=w.steps) (N:=w.steps) hw.st h;rw[hw.su] at e ⊢
 by_cases c2:(ze1 (w.tasks.length+1) i u w.steps).2=0
 ·rw[zacX (fun q=>q c2)];refine { hu:=hw.hu,su:=rfl,ar:=hw.ar,ts:=fun t h=> ?_,tl:=by simp only[zac6,zac4,zac5];omega,st:=hw.st }
  rcases zads.1 h with h|h
  ·exact hw.ts t h
  ·rw[zadD.1 h];exact hs c2
 ·rw[zacY c2] at e;exact absurd e c2
theorem zCT{n:Nat}(h1:1<=n)(h2:n<=12):zaX ⟨List.replicate n zak,0,0⟩=0:=by
 have hr:zgT ⟨List.replicate n zak,0,0⟩:=by
  unfold zgT;simp only[zad2];omega
 have hf:zdG ⟨List.replicate n zak,0,0⟩ 0 n=false:=by
  unfold zdG;rw[zaee];intro j _;rw[decide_eq_true_eq];intro q;apply q;simp only[zad2];rw[zadC]
  by_cases c:((0:Int).toNat+j) % n<n
  ·rw[List.getElem?_replicate_of_lt c];rfl
  ·exact absurd (zad4 _ zo) c
 unfold zaX;rw[zacX (fun q=>q hr)];simp only[zad2,Int.toNat_zero];rw[hf];rfl
theorem z1C{n lo hi:Int}(hn:1<=n/\n<=12)(hs:0<=lo/\lo<=hi/\hi<65536):zaf (zG n lo hi).1=0/\((zG n lo hi).1.ready.cells.length:Int)=n:=by
 have hr:=zCT (n:=n.toNat) zo zo;unfold zG;rw[zacX zo,zacX (fun q=>q hs)];refine⟨?_,by simp only[zad2];omega⟩;unfold zaf;simp only;rw[hr,zacX (fun q=>q rfl),zacX (show ¬zaA zax≠0 by decide),zacX (by decide),zacX (fun q=>q hs),zacX (by simp only[zC8,zad2,zax,zac5];omega)];rfl
theorem zW0{n:Int}(hn:1<=n/\n<=12):zaf (zao n).1=0/\((zao n).1.ready.cells.length:Int)=n:=by
 have hr:=zCT (n:=n.toNat) zo zo;unfold zao;rw[zacX zo];refine⟨?_,by simp only[zad2];omega⟩;unfold zaf;simp only;rw[hr,zacX (fun q=>q rfl),zacX (show ¬zaA zax≠0 by decide),zacY trivial];rfl
theorem zaaK{u:Setup}(h:zJ u=true):(1<=u.slots/\u.slots<=6)/\(1<=u.live/\u.live<=u.slots)/\(1<=u.capacity/\u.capacity<=12)/\(1<=u.dead/\u.dead<=24)/\(0<=u.clock/\u.clock<=1073741824)/\(1<=u.nextID/\u.nextID<=1073741824)/\0<=u.epoch/\u.epoch<=65536:=by
 unfold zJ inI at h;simp only[zac7,decide_eq_true_eq] at h;omega
theorem zSd{u:Setup}(e:(zR u).2=0):AI u (zR u).1:=by
 have hu:zJ u=true:=by
  unfold zR at e
  split at e
  ·cases e
  ·rename_i c;exact Bool.of_not_eq_false c
 obtain⟨b1,b2,b3,b4,b5,b6,b7⟩:=zaaK hu;have hd:(zcr u.slots u.live).1=zge u.slots.toNat u.live.toNat:=by
  unfold zcr;rw[zacX zo]
 have hv:=(zUk u.slots.toNat u.live.toNat zo zo zo).1;have hl:(zge u.slots.toNat u.live.toNat).l.length=u.live.toNat:=by simp only[zge,zaa4]
 have hf:(zge u.slots.toNat u.live.toNat).forward.length=u.slots.toNat:=by simp only[zge,zad2]
 have ht:=zDd _ 0 65536 zo (zvm hv);unfold zR;rw[zacX (by rw[hu];simp)];simp only[hd];constructor
 ·simp only[zadd,zaf8];omega
 ·simp only[zadd,zaf8,zad2]
 ·intro x hx;simp only[zadc,zadU] at hx;obtain⟨i,hi,rfl⟩:=hx
  by_cases c:(i:Int)<u.live
  ·simp only[zacY c];have hi2:i<(zge u.slots.toNat u.live.toNat).l.length:=by omega
   rw[zj hi2];exact z1C b3 (ht _ (zadf hi2))
  ·simp only[zacX c];exact zW0 b3
 ·intro x hx;rw[zafQ hx];unfold znL;apply zadn;simp only[zck];omega
 ·exact hv
 ·simp only[zadd,zaf8];exact hf
 ·unfold zcI;simp only;rw[zacX zo,zacX (by simp only[zac5];omega)];rfl
 ·rfl
 ·simp only;omega
 ·exact b5
 ·exact b6
theorem znd{plan:zq->Pln}(h:∀t,(plan t).2.2.length<=2)(lo hi:Int)(cells:zq->List Int)(a:zy)(t:zq)(n:Int):(z7 plan lo hi cells a t n).2.2.1.length<=2:=by
 unfold z7 zaT;simp only
 split
 ·simp
 generalize (if t.pc=0 then zaO t (cells t) 1 else t)=t';generalize goT a t' n=g
 split
 ·simp
 split
 ·exact h _
 split<;>simp
theorem z6X(a:zy)(t:zq)(n:Int):(zb9 a t n).2.2.1.length<=2:=by
 unfold zb9;simp only
 split
 ·simp
 split
 ·split<;>simp
 split
 ·simp
 split<;>simp
theorem zTL(a:zy)(t:zq)(n:Int):(zcS a t n).2.2.1.length<=2:=by
 unfold zcS;simp only
 split
 ·simp
 split
 ·simp
 split
 ·split<;>simp
 split
 ·split<;>simp
 split<;>simp
theorem z8I(a:zy)(t:zq)(n:Int):(zcV a t n).2.2.1.length<=2:=by
 have h:∀t,(zdV t).2.length<=2:=by
  intro t;unfold zdV;simp only
  split
  ·simp
  split
  ·simp
  split<;>simp
 unfold zcV zaT;simp only
 split
 ·simp
 split
 ·simp
 generalize goT a t n=g
 split
 ·simp
 split
 ·exact h _
 split
 ·simp
 split<;>simp
theorem zaaF(K:Tok)(a:zy)(t:zq)(n:Int):(zbS K a t n).2.2.1.length<=2:=by
 have h:∀t,(zdY t).2.length<=2:=by
  intro t;unfold zdY;simp only
  split<;>simp
 unfold zbS zaT;simp only
 split
 ·simp
 split
 ·split<;>simp
 split
 ·simp
 generalize goT a t n=g
 split
 ·simp
 split
 ·exact h _
 split
 ·simp
 split<;>simp
theorem zaar(K:Tok)(a:zy)(t:zq)(n:Int):(zcY K a t n).2.2.1.length<=2:=by
 have h:∀t,(zdX K t).2.length<=2:=by
  intro t;unfold zdX;simp only
  split
  ·simp
  split
  ·split<;>simp
  ·simp
 unfold zcY zaT;simp only
 split
 ·simp
 split
 ·split<;>simp
 split
 ·split<;>simp
 split
 ·simp
 generalize goT a t n=g
 split
 ·simp
 split
 ·exact h _
 split
 ·simp
 split
 ·simp
 split<;>simp
theorem z8A(K:Tok)(a:zy)(t:zq)(n:Int):(zcU K a t n).2.2.1.length<=2:=by
 have h:∀t,(zdU t).2.length<=2:=by
  intro t;have h1:∀(k:Nat) (e:Event),(if 0<k then [e] else []).length<=1:=by intro k e;split<;>simp
  unfold zdU;simp only
  split
  ·simp
  split
  ·simp
  split
  ·rw[zac6];exact Nat.add_le_add (h1 _ _) (zadr 1)
  split
  ·rw[zac6];exact Nat.add_le_add (h1 _ _) (zadr 1)
  ·exact zadL (h1 _ _) (by decide)
 unfold zcU zaT;simp only
 split
 ·simp
 split
 ·simp
 split
 ·simp
 generalize goT a t n=g
 split
 ·simp
 split
 ·exact h _
 split
 ·simp
 split
 ·simp
 split
 ·simp
 split<;>simp
theorem zabh(t:zq):(zb2 t).2.2.length<=2:=by
 unfold zb2;simp only
 split
 ·simp
 split<;>simp
theorem zaa5(t:zq):(zb1 t).2.2.length<=2:=by
 unfold zb1;simp only
 split<;>simp
theorem z0G(t:zq):(zbX t).2.2.length<=2:=by
 unfold zbX;simp only
 split<;>simp
theorem zabA(t:zq):(zbx t).2.2.length<=2:=by
 unfold zbx;simp only
 split
 ·simp
 split
 ·simp
 split
 ·simp
 split<;>simp
theorem zSZ(t:zq):(zbT t).2.2.length<=2:=by
 unfold zbT;simp only
 split
 ·simp
 split<;>simp
theorem zQ5(K:Tok)(a:zy)(t:zq)(n:Int):(zcn K a t n).2.2.1.length<=2:=by
 unfold zcn
 by_cases c0:t.done=true
 ·rw[zacY c0];simp [zaT]
 rw[zacX c0]
 by_cases c1:t.inv.kind=1
 ·rw[zacY c1];exact zaar _ _ _ _
 rw[zacX c1]
 by_cases c2:t.inv.kind=2
 ·rw[zacY c2];exact z8A _ _ _ _
 rw[zacX c2]
 by_cases c3:3<=t.inv.kind/\t.inv.kind<=5
 ·rw[zacY c3];exact zaaF _ _ _ _
 rw[zacX c3]
 by_cases c6:t.inv.kind=6
 ·rw[zacY c6];exact z6X _ _ _
 rw[zacX c6]
 by_cases c7:t.inv.kind=7
 ·rw[zacY c7];exact zTL _ _ _
 rw[zacX c7]
 by_cases c8:t.inv.kind=8
 ·rw[zacY c8];exact z8I _ _ _
 rw[zacX c8]
 by_cases c9:t.inv.kind=9
 ·rw[zacY c9];exact znd zabh _ _ _ _ _ _
 rw[zacX c9]
 by_cases c10:t.inv.kind=10
 ·rw[zacY c10];exact znd zaa5 _ _ _ _ _ _
 rw[zacX c10]
 by_cases c11:t.inv.kind=11
 ·rw[zacY c11];exact znd z0G _ _ _ _ _ _
 rw[zacX c11]
 by_cases c12:t.inv.kind=12\/t.inv.kind=13
 ·rw[zacY c12];exact znd zabA _ _ _ _ _ _
 rw[zacX c12]
 by_cases c14:t.inv.kind=14
 ·rw[zacY c14];exact znd zSZ _ _ _ _ _ _
 rw[zacX c14];simp [zaT]
structure LB(B:Int)(w:World):Prop where
 lg:(w.log.length:Int)<=2 * w.steps
 st:w.steps<=B
theorem LB.mono{B C:Int}{w:World}(h:LB B w)(hb:B<=C):LB C w:=⟨h.lg,by have:=h.st;omega⟩
theorem zabo{K:Tok}{B:Int}{w:World}{i:Nat}(h:LB B w)(e:(zdl K w i).2=0):LB (B+1) (zdl K w i).1:=by
 have h1:=h.lg;have h2:=h.st;unfold zdl at e ⊢;simp only at e ⊢;have hv:=zQ5 K w.arena (w.tasks.getD i zD) (w.steps+1);generalize zcn K w.arena (w.tasks.getD i zD) (w.steps+1)=r at *
 by_cases c:r.2.2.2=0
 ·rw[zacX (fun q=>q c)];exact⟨by simp only[zac6];omega,by simp only;omega⟩
 ·rw[zacY c] at e;exact absurd e c
theorem zabV{B:Int}{w:World}{by_:Int}(h:LB B w)(e:(zep w by_).2=0):LB (B+1) (zep w by_).1:=by
 have h1:=h.lg;have h2:=h.st;unfold zep at e ⊢
 by_cases c:(ze3 w.arena by_).2=0
 ·rw[zacX (fun q=>q c)];exact⟨by simp only[zac6,zac4,zac5];omega,by simp only;omega⟩
 ·rw[zacY c] at e;exact absurd e c
theorem zY6{B:Int}{w:World}{i:Invocation}(h:LB B w)(e:(zdg w i).2.2=0):LB B (zdg w i).1:=by
 unfold zdg at e ⊢
 by_cases c:200<=w.tasks.length\/8<=(zbA w).length
 ·rw[zacY c] at e;cases e
 rw[zacX c] at e ⊢
 by_cases c2:(ze1 (w.tasks.length+1) i w.setup w.steps).2=0
 ·rw[zacX (fun q=>q c2)];exact⟨h.lg,h.st⟩
 ·rw[zacY c2] at e;exact absurd e c2
theorem zD4(b:Int):(zbH 0 (zgt b 255)).toNat<=255:=by
 unfold zbH zgt
 split<;>split<;>omega
theorem zeW{u:Setup}{N:Int}{a:zy}{s:Section}(hu:zJ u=true)(ha:AI u a)(hs:SI u N s)(hN:N<=1000000):zqL a s:=by
 have hb:=znC hu;have hsl:=ha.sl;have c1:=hs.lw.c1;have c2:=hs.lw.c2;have hk:=zmK u.slots s.lock.cells;have hin:=zL3 (n:=u.slots) hs.ca;refine { sl:=by omega,st:=ha.st,lw:=hs.lw.mono hN,p1:=fun q=> ?_,p2:=fun q=> ?_,p5:=fun q=> ?_,p6:=fun q=> ?_,p7:=fun q=> ?_,od:=hs.oo,f1:=fun x hx=> ?_,f2:=fun x hx=> ?_,dd:=hs.od,di:=hs.di }
 ·obtain⟨_,h1,h2,h3,_⟩:=hs.ph.p1 q;exact⟨h1,by omega,h3⟩
 ·obtain⟨_,h1,h2,h3,h4,_⟩:=hs.ph.p2 q;exact⟨h1,by omega,by omega⟩
 ·obtain⟨_,h1,h2,h3,h4,h5⟩:=hs.ph.p5 q;refine⟨h4,h5,fun o ho hne=> ?_⟩;obtain⟨o1,o2⟩:=hs.oo.1 o ho;rw[zmf o1 o2] at hne;have hc:=hs.cr _ (zadf (show o.toNat<s.lock.cells.length by omega));have hi:=(hin o.toNat zo).2 zo;omega
 ·obtain⟨_,h1,h2,h3,h4,h5,_⟩:=hs.ph.p6 q;exact⟨h5,h4⟩
 ·obtain⟨_,h1,h2,h3,h4,h5⟩:=hs.ph.p7 q;exact⟨h4,by omega,by omega,by omega,by omega,by omega⟩
 ·have h:=hs.os x hx;exact⟨by have:=h.1;omega,by have:=h.2;omega,by have:=h.3;omega⟩
 ·obtain⟨h1,h2⟩:=hs.sv x hx;exact zf8 (zci h1)
theorem znD{u:Setup}{N:Int}{t:zq}(hs:SI u N t.sec):zbn (sh0 t):=zf8 (zlm hs)
theorem zbW{u:Setup}{N:Int}{t:zq}{o:zcz}(hs:SI u N t.sec)(ho:OI t.sec o):zg G zlT [.d (zd t),.d (zZ o)] []=some (.d (zd (zaU t o)),[]):=
 zUe t o (zUf t.sec o ho.ol hs.lw.c2)
theorem zZs{u:Setup}{N:Int}{s:Section}(h:SI u N s)(hp:s.phase=4\/s.phase=9):s.shards.length=kOf u.slots s.lock.cells:=by
 rcases hp with q|q
 ·exact (h.ph.p4 q).2.2
 ·exact (h.ph.p9 q).1
theorem zca{u:Setup}{N:Int}{i:Invocation}{s:Section}(h:zaB u N i s)(hv:zaK i u=0)(hp:s.phase=4\/s.phase=9):
    (1<=i.kind/\i.kind<=5->s.shards.length=1)/\(i.kind=8->s.shards.length=1)/\(9<=i.kind/\i.kind<=11->s.shards.length=2)/\(12<=i.kind/\i.kind<=13->s.shards.length<=1)/\(i.kind=14->s.shards.length=1):=by
 have hk:=zZs h.si hp;refine⟨fun q=> ?_,fun q=> ?_,fun q=> ?_,fun q=> ?_,fun q=> ?_⟩
 ·obtain⟨c,c0,c1,c2⟩:=h.c1 q;rw[hk,c2,zL2 c1]
 ·obtain⟨c,c0,c1,c2⟩:=h.c8 q;rw[hk,c2,zso c1]
 ·obtain⟨v1,v2,v3⟩:=zih hv q;rw[hk,h.c9 q];unfold zaN
  split
  ·exact zsn v1.2 v2.2
  ·exact zsn v2.2 v1.2
 ·have q2:=zmK u.slots s.lock.cells;rw[h.c12 q] at q2 hk;simp only[zac4,zac5] at q2;omega
 ·have v:=zkA hv (.inr q);rw[hk,h.c14 q,zso v.2]
theorem zLY(r lo hi:Int):zg G zlD [.d (.int .i64 r),.d (.int .i64 lo),.d (.int .i64 hi)] []=some (.d (.int .i64 (zkz r lo hi)),[]):=by
 unfold zkz
 by_cases c:r<0\/65536<=r\/lo<0\/65536<=hi\/hi<lo
 ·rw[zacY c];exact zW zrK
 ·rw[zacX c];exact zYN r lo hi zo zo zo zo zo
theorem z1B(id route ep now:Int)(b:List UInt8):zg G zog [.d (.int .i64 id),.d (.int .i64 route),.d (.int .i64 ep),.d (.int .i64 now),.d (.str b)] []=some (.d (.tup [zn (zm3 id route ep now b).1,.int .i64 (zm3 id route ep now b).2]),[]):=by
 have hv:=zix ⟨id,route,ep,0,0,now,b⟩;unfold zm3;generalize zaC ⟨id,route,ep,0,0,now,b⟩=v at *;simp only[zn] at *
 by_cases c:v=0
 ·subst c;exact zW zIh
 ·rw[zacY c];rw[zO zIh (by simp)];simp -implicitDefEqProofs (maxSteps:=4000000) (disch:=omega) only[zuD,zCa,zak,zj,go_sem, *]
structure zcu(K:Tok):Prop where
 ok:ziQ K
 rt:∀i,zg G zlE [.d (.int .i64 i)] []=some (.d (.int .i64 (K.route i)),[])
 en:∀h,zg G ziO [.d (zaH h)] []=some (.d (.tup [zaR (K.enc h).1,.int .i64 (K.enc h).2]),[])
 pa:∀b:List UInt8,b.length<=4294967296->zg G zjR [.d (zaR b)] []=some (.d (.tup [zaH (K.par b).1,.int .i64 (K.par b).2]),[])
theorem zdH{t:zq}(hk:t.sec.shards.length=1):sh0 t=t.sec.shards[0]:=by
 unfold sh0;exact zj zo
theorem zaap{K:Tok}(hK:zcu K){u:Setup}{N:Int}{t:zq}(hs:SI u N t.sec)(hk:t.sec.shards.length=1)(hw:zg2 t.walk)(he:0<=t.entry/\t.entry<t.inv.bodies.length):zg G zqg [.d (zd t)] []=some (.d (.tup [zd (zdX K t).1,.sl ((zdX K t).2.map zad)]),[]):=by
 have hb:zbn t.sec.shards[0]:=zdH hk ▸ znD hs;have hl12:za1 t.sec.shards[0]:=zdH hk ▸ zlm hs;have hu:=zhK t.sec;have ho:=zs2 t.sec.shards[0] t.walk.next hb;unfold zdX;simp only;rw[zdH hk];have hun:=hs.un
 by_cases c0:zeS t.sec.shards[0] t.walk.next=false
 ·rw[zacY c0];rw[c0] at ho;have hd:=zbW (t:={ t with loaded:=0 }) hs hun;generalize zaU { t with loaded:=0 } (zaa t.sec)=t2 at *;have sz_t2:=zA t2;generalize zd t2=D_t2 at *;clear hun hs hl12 hb c0;simp only[zd,zC,zZ,zaa,zacZ,zB] at *;exact zW zrZ
 rw[zacX c0];replace c0:zeS t.sec.shards[0] t.walk.next=true:=by simpa using c0
 rw[c0] at ho;have hst:=zhH t.sec.shards[0] hb;have hsn:=zlo { t with loaded:=0 } 2
 by_cases c1:zbs t.sec.shards[0]=t.sec.shards[0].ready.cells.length
 ·rw[zacY c1];have ha:=zRp t.walk t.sec.shards[0].low t.sec.shards[0].high;have hv:=zRr (zf2 t.walk t.sec.shards[0].low t.sec.shards[0].high).1;generalize zf2 t.walk t.sec.shards[0].low t.sec.shards[0].high=wk at *;obtain⟨wk,we⟩:=wk;simp only at *;rw[c1] at hst
  by_cases c2:zg1 wk=false
  ·rw[zacY c2];rw[c2] at hv;have hd:=zbW (t:={ t with loaded:=0,walk:=wk }) hs hun;generalize zaU { t with loaded:=0,walk:=wk } (zaa t.sec)=t2 at *;have sz_t2:=zA t2;generalize zd t2=D_t2 at *;clear hun hs hl12 hb c0 c1 c2;simp only[zd,zC,zZ,zaa,zbF,zb0,zc9,zad,zbt,zacZ,zB] at *;exact zW zrZ
  ·rw[zacX c2];replace c2:zg1 wk=true:=by simpa using c2
   rw[c2] at hv;have hd:=zbW (t:={ t with loaded:=2,walk:=wk }) hs hun;generalize zaU { t with loaded:=2,walk:=wk } (zaa t.sec)=t2 at *;have sz_t2:=zA t2;generalize zd t2=D_t2 at *;clear hun hs hl12 hb c0 c1 c2;simp only[zd,zC,zZ,zaa,zbF,zb0,zc9,zad,zbt,zacZ,zac1,zB] at *;rw[zO zrZ (by simp)];simp -implicitDefEqProofs (maxSteps:=4000000) (disch:=omega) only[zq5,ztr,zbq,zj,go_sem, *]
 ·rw[zacX c1];have hrt:=hK.rt t.id;have hin:=zLY (K.route t.id) t.sec.shards[0].low t.sec.shards[0].high;have hnm:=z1B t.id (zkz (K.route t.id) t.sec.shards[0].low t.sec.shards[0].high) t.sec.snap.epoch t.sec.snap.clock (t.inv.bodies.getD t.entry.toNat []);rw[zj (show t.entry.toNat<t.inv.bodies.length by omega)] at hnm ⊢;generalize K.route t.id=rt at *;generalize zkz rt t.sec.shards[0].low t.sec.shards[0].high=r2 at *;generalize zm3 t.id r2 t.sec.snap.epoch t.sec.snap.clock (t.inv.bodies[t.entry.toNat]'(by omega))=m at *;obtain⟨m,me⟩:=m;simp only at *;have hpt:=zNc t.sec.shards[0] m hb;have hl2:=zsr hl12 m;generalize zc7 t.sec.shards[0] m=x at *;obtain⟨x,xe⟩:=x;simp only at *;have hd:=zbW (t:={ t with loaded:=1 }) hs (hs.one hk hl2);generalize zaU { t with loaded:=1 } { zaa t.sec with shards:=[x],order:=[0] }=t2 at *;have sz_t2:=zA t2;generalize zd t2=D_t2 at *;clear hun hs hl12 hb c0 hl2;simp only[zd,zC,zZ,zaa,zb0,zc9,zad,zbt,zn,zacZ,zac1,zB] at *;rw[zO zrZ (by simp)];simp -implicitDefEqProofs (maxSteps:=4000000) (disch:=omega) only[zq5,ztr,zbq,zj,go_sem, *]
theorem zVH{i:Invocation}{u:Setup}(h:zaK i u=0):1<=zdw i/\zdw i<=6:=by
 unfold zdw;unfold zaK at h
 by_cases c:i.kind=1
 ·rw[zacY c] at h ⊢
  split at h
  ·cases h
  ·omega
 ·rw[zacX c] at h ⊢
  by_cases c2:i.kind=2\/i.kind=8
  ·rw[zacX zo];omega
  ·rw[zacX c2] at h
   by_cases c3:3<=i.kind/\i.kind<=5
   ·rw[zacY c3] at h ⊢
    split at h
    ·cases h
    ·omega
   ·rw[zacX c3];omega
theorem zfY{u:Setup}{N:Int}{t:zq}(h:TI u N t)(hd:t.done=false):(0<=t.entry/\t.entry<=1000)/\t.results.length<=1000:=by
 have h1:=zVH h.iv;have h2:=h.e0;have h3:=h.e1 hd;have h4:=h.e2;omega
theorem zaas(a:zy)(t:zq)(n:Int)(h:z8 t 1 1≠0):zg G zlU [.d (zi a),.d (zd t),.d (.int .i64 n)] []=some (.d (.tup [zi zF,zd zD,.sl [],.int .i64 (z8 t 1 1)]),[]):=by
 have hg:=zcK t 1 1;have hf:=zbN (z8 t 1 1);generalize z8 t 1 1=ge at *;have sz_zTask:=zA zD;generalize zd zD=D_zTask at *;have sz_t:=zA t;generalize zd t=D_t at *;have sz_zArena:=zaq zF;generalize zi zF=D_zArena at *;exact zW zfg
theorem zaau{K:Tok}(hK:zcu K){u:Setup}{a:zy}{t:zq}{n N:Int}(hu:zJ u=true)(ha:AI u a)(ht:TI u N t)(hN:N<=999999):zg G zlU [.d (zi a),.d (zd t),.d (.int .i64 n)] []=some (.d (.tup [zi (zcY K a t n).1,zd (zcY K a t n).2.1,.sl ((zcY K a t n).2.2.1.map zad),.int .i64 (zcY K a t n).2.2.2]),[]):=by
 unfold zcY
 by_cases c0:z8 t 1 1=0
 rotate_left
 ·rw[zacY c0];exact zaas a t n c0
 rw[zacX (fun q=>q c0)];have hg:=zcK t 1 1;rw[c0] at hg;obtain⟨g1,g2⟩:=zdx c0;have hen:=zfY ht g1;have he1:=ht.e1 g1;clear g1;have hld:=ht.ld;have hwk:=ht.wk
 by_cases c1:t.pc=0
 ·rw[zacY c1];have hw:=zkJ a 3;simp only[zgL,if_true,Int.reduceEq,if_false] at hw
  by_cases c2:a.nextID=1073741824
  ·rw[zacY c2];have hv:=zrv { t with loaded:=a.nextID } 2 n;have hn1:=zcE { t with loaded:=a.nextID } (za8 6) n hen.1 hen.2;generalize za4 { t with loaded:=a.nextID } (za8 6) n=t2 at *;have sz_t2:=zA t2;generalize zd t2=D_t2 at *;replace c1:=zadb c1;replace c2:=zadb c2;clear ht ha hu;simp only[zd,za8,z6,zam,evT,zbt,zacZ,zac1,zad] at *;exact zW zfg
  ·rw[zacX c2];replace c1:=zadb c1;replace c2:=zac3 c2;clear ht ha hu;simp only[zd] at *;exact zW zfg
 rw[zacX c1]
 by_cases c2:t.pc=1
 ·rw[zacY c2];have hc:=zGR a 3 t.loaded (t.loaded+1);have hf:=zbN (casWord a 3 t.loaded (t.loaded+1)).2.2;have hrt:=hK.rt t.loaded;have hwb:=zRq (K.route t.loaded);generalize K.route t.loaded=rt at *;generalize zg0 rt=wb at *;obtain⟨wb,we⟩:=wb;generalize casWord a 3 t.loaded (t.loaded+1)=c at *;obtain⟨x1,x2,x3⟩:=c;replace c2:=zadb c2;replace c1:=zac3 c1;clear ht ha hu;simp only at *
  by_cases c4:x3=0
  ·subst c4;clear hf;simp only[ne_eq,zac9,if_false] at *
   cases x2
   ·simp only[zac8,if_false] at *;simp only[zd,zbF] at *;exact zW zfg
   ·simp only[if_true] at *;simp only[zd,zbF] at *;exact zW zfg
  ·rw[zacY c4];unfold zaT;have sz_zTask:=zA zD;generalize zd zD=D_zTask at *;have sz_zArena:=zaq zF;generalize zi zF=D_zArena at *;simp only[zd,zbF] at *;exact zW zfg
 rw[zacX c2]
 by_cases c3:t.pc=2
 ·rw[zacY c3];have hlk:=zBl a t t.walk.next 3 (by have:=zgf ha.dv;omega);generalize zhq a t t.walk.next 3=t2 at *;have sz_t2:=zA t2;generalize zd t2=D_t2 at *;replace c3:=zadb c3;replace c2:=zac3 c2;replace c1:=zac3 c1;clear ht ha hu;simp only[zd] at *;exact zW zfg
 rw[zacX c3];have k4:=ht.se ⟨c1,by omega⟩;have hgo:=zeD a t n (zeW hu ha k4.si zo);have hgk:=zkx (n:=n) ha k4;simp only;generalize goT a t n=g at *;obtain⟨a2,t2,b1,b2,e⟩:=g;simp only at *
 by_cases c4:e=0
 rotate_left
 ·rw[zacY c4];have hf:=zbN e;unfold zaT;clear hgk ht ha hu k4;replace c3:=zac3 c3;replace c2:=zac3 c2;replace c1:=zac3 c1;have sz_zTask:=zA zD;generalize zd zD=D_zTask at *;have sz_zArena:=zaq zF;generalize zi zF=D_zArena at *;have sz_t2:=zA t2;generalize zd t2=D_t2 at *;have sz_a2:=zaq a2;generalize zi a2=D_a2 at *;simp only[zd] at *;exact zW zfg
 subst c4;simp only[ne_eq,zac9,if_false];obtain⟨h1,s,h2,h3,h4⟩:=hgk rfl;have hen2:t2.entry=t.entry/\t2.results=t.results/\t2.inv=t.inv/\t2.walk=t.walk/\t2.sec=s:=by rw[h2];exact⟨rfl,rfl,rfl,rfl,rfl⟩
 obtain⟨q1,q2,q3,q4,q5⟩:=hen2
 cases b1
 rotate_left
 ·simp only[if_true];have hp:s.phase=4:=h4.1 rfl;have hk:=(zca h3 ht.iv (.inl hp)).1 zo;have hd:=zaap hK (t:=t2) (by rw[q5];exact h3.si) (by rw[q5];exact hk) (by rw[q4];exact ht.wk) (by
   rw[q1,q3];refine⟨ht.e0,?_⟩;unfold zdw at he1
   rwa [zacY zo] at he1)
  generalize zdX K t2=r at *;obtain⟨t3,l⟩:=r;clear ht ha hu k4 h1 h2 h3 h4 q1 q2 q3 q4 q5 hp hk he1;replace c3:=zac3 c3;replace c2:=zac3 c2;replace c1:=zac3 c1;simp only at *;have sz_t2:=zA t2;generalize zd t2=D_t2 at *;have sz_t3:=zA t3;generalize zd t3=D_t3 at *;simp only[zd] at *;exact zW zfg
 ·simp only[zac8,if_false]
  cases b2
  ·simp only[if_true];clear ht ha hu k4 h1 h2 h3 h4 q1 q2 q3 q4 q5;replace c3:=zac3 c3;replace c2:=zac3 c2;replace c1:=zac3 c1;have sz_t2:=zA t2;generalize zd t2=D_t2 at *;simp only[zd] at *;exact zW zfg
  ·simp only[zadA,if_false];have hn1:=zcE t2 { zam with id:=t2.id } n (by rw[q1];exact hen.1) (by rw[q2];exact hen.2);have hn2:=zcE t2 (za8 3) n (by rw[q1];exact hen.1) (by rw[q2];exact hen.2);clear ht ha hu k4 h1 h2 h3 h4 q1 q2 q3 q4 q5;replace c3:=zac3 c3;replace c2:=zac3 c2;replace c1:=zac3 c1
   by_cases d1:t2.loaded=1
   ·rw[zacY d1];clear hn2;generalize za4 t2 { zam with id:=t2.id } n=t3 at *;have sz_t3:=zA t3;generalize zd t3=D_t3 at *;replace d1:=zadb d1;simp only[zd,z6,zam,zacZ] at *;exact zW zfg
   rw[zacX d1]
   by_cases d2:t2.loaded=2
   ·rw[zacY d2];clear hn1;generalize za4 t2 (za8 3) n=t3 at *;have sz_t3:=zA t3;generalize zd t3=D_t3 at *;replace d1:=zac3 d1;replace d2:=zadb d2;simp only[zd,z6,za8,zam,zacZ] at *;exact zW zfg
   ·rw[zacX d2];clear hn1 hn2;replace d1:=zac3 d1;replace d2:=zac3 d2;simp only[zd] at *;exact zW zfg
theorem zUi(r:zat)(k:Int)(hL:r.cells.length<=4294967296):zg G zom [.d (zau r),.d (.int .i64 k)] []=some (.d (.tup [zau (zfe r k).1,.sl ((zfe r k).2.1.map zn),.int .i64 (zfe r k).2.2]),[]):=by
 have hv:=zk6 r hL;unfold zfe
 by_cases c0:zaX r=0
 ·rw[zacX (fun q=>q c0)];rw[c0] at hv;obtain⟨c,h,z,rfl,h1,h2,h3,h4⟩:=znx (zc8 c0)
  by_cases c1:k<0\/(z:Int)<k
  ·rw[zacY c1];simp only[zau,zaP,zacZ] at *;exact zW zzq
  ·rw[zacX c1];have ho:=zjv c h z h2 h3 h4;have hz:(za5 c h z).length=z:=zju c h z;have hw:=zt5 c h z h ((za5 c h z).take (z - k.toNat)) h1 h2 zo (by rw[zaeJ];omega);rw[zjt];rw[hz];simp only[rg,zadG];generalize za5 c h z=w at *;generalize hl:wN c.length h (w.take (z - k.toNat)) (w.take (z - k.toNat)).length=w2 at *;have hlen:(w.take (z - k.toNat)).length=z - k.toNat:=by rw[zaeJ];omega
   rw[hlen] at hw ⊢;have e2:((z - k.toNat:Nat):Int)=z - k:=by omega
   rw[e2] at hw ⊢;have e3:z - k.toNat=((z:Int) - k).toNat:=by omega
   rw[e3] at hw ⊢;clear c0 hl hlen e2 e3;simp only[zau] at *;rw[hz] at ho
   try simp only[zNr,zE] at hw
   exact zW zzq
 ·rw[zacY c0];generalize zaX r=v at *;simp only[zau,zaP,zacZ] at *;exact zW zzq
theorem zUj(s:zu)(k:Int)(q:zbn s):zg G zoO [.d (zk s),.d (.int .i64 k)] []=some (.d (.tup [zk (zgd s k).1,.sl ((zgd s k).2.1.map zn),.int .i64 (zgd s k).2.2]),[]):=by
 have hl:=zfi s q.1 q.2.1 q.2.2;have hd:=zUi s.ready k q.1;unfold zgd;generalize zal s=v at *;generalize zfe s.ready k=d at *;obtain⟨r,l,e⟩:=d
 by_cases c0:v=0
 ·subst c0;simp only[ne_eq,zac9,if_false]
  by_cases c1:e=0
  ·subst c1;simp only[zk,zau] at *;exact zW zzy
  ·rw[zacY c1];simp only[zk,zau,zP,zaP,zax,zacZ] at *;exact zW zzy
 ·rw[zacY c0];clear hd;simp only[zk,zau,zP,zaP,zax,zacZ] at *;exact zW zzy
theorem zQz(m:zl)(lo hi:Int):zg G zlH [.d (zn m),.d (.int .i64 lo),.d (.int .i64 hi)] []=some (.d (zn (zct m lo hi)),[]):=by
 have h:=zLY m.route lo hi;unfold zct;simp only[zn] at *;exact zW zXs
theorem z9k(m:zl):zg G zoi [.d (zn m)] []=some (.d (zn (zbR m)),[]):=by
 unfold zbR;simp only[zn] at *;exact zW zXt
def ziR(l:List zl)(s:zu)(i:Nat):St:=⟨[(1,.d (.sl (l.map zn))),(2,.ref 2 0 0),(4,.ref 4 0 0),(7,.d (.int .i64 i))],[(2,.row [.d (zk s)]),(4,.row [shZ])]⟩
def zjT(x:zu×Int):zac×St:=if x.2=0 then (.exit 0,⟨[(2,.ref 2 0 0),(4,.ref 4 0 0)],[(2,.row [.d (zk x.1)]),(4,.row [shZ])]⟩) else (.ret,⟨[(4,.ref 4 0 0),(5,.d (.int .i64 x.2))],[(4,.row [shZ])]⟩)
theorem z69{s:zu}{m:zl}(h:(zc7 s m).2=0):(zc7 s m).1.low=s.low/\(zc7 s m).1.high=s.high:=by
 unfold zc7 at h ⊢
 by_cases c1:zal s≠0
 ·rw[zacY c1] at h;exact absurd h c1
 rw[zacX c1] at h ⊢
 by_cases c2:zaC m≠0
 ·rw[zacY c2] at h;exact absurd h c2
 rw[zacX c2] at h ⊢
 by_cases c3:¬(s.low<=m.route/\m.route<=s.high)
 ·rw[zacY c3] at h;cases h
 rw[zacX c3] at h ⊢
 by_cases c4:s.ready.size+s.leases.l.length=s.ready.cells.length
 ·rw[zacY c4] at h;cases h
 rw[zacX c4] at h ⊢
 split at h
 ·cases h
 ·rename_i c5;rw[zacX c5];exact⟨rfl,rfl⟩
theorem zRE(l:List zl)(hl:l.length<=1000)(lo hi:Int):∀p:zu×Nat,p.2<=l.length/\za1 p.1/\p.1.low=lo/\p.1.high=hi->zai G [] zmQ (ziR l p.1 p.2)=some (zjT (zfa lo hi (l.drop p.2) p.1)):=by
 refine za3 (fun p=>l.length - p.2) (fun p:zu×Nat=>p.2<=l.length/\za1 p.1/\p.1.low=lo/\p.1.high=hi) (fun p=>ziR l p.1 p.2) (fun p=>some (zjT (zfa lo hi (l.drop p.2) p.1))) fun⟨s,i⟩ ⟨hi1,hs,e1,e2⟩ L ih=> ?_;simp only at hi1 hs e1 e2
 by_cases h0:i<l.length
 ·simp only;rw[zady h0,zfa];have hr:=zQz l[i] lo hi;have hp:=zNc s (zct l[i] lo hi) (zf8 hs)
  by_cases c:(zc7 s (zct l[i] lo hi)).2=0
  ·rw[zacX (fun q=>q c)];have hsp:=z69 c;have i1:=ih ⟨(zc7 s (zct l[i] lo hi)).1,i+1⟩ ⟨by simp only;omega,zsr hs _,by rw[hsp.1];exact e1,by rw[hsp.2];exact e2⟩ (by simp only;omega);clear ih hsp;simp only at i1;generalize zfa lo hi (l.drop (i+1)) (zc7 s (zct l[i] lo hi)).1=R at *;generalize zc7 s (zct l[i] lo hi)=p at *;generalize zct l[i] lo hi=m at *;obtain⟨s2,e⟩:=p;subst e1 e2;simp only[ziR,zmQ] at *;subst c;generalize zjT R=R2 at *;simp only[zk,shZ] at *;simp only[zNr,zE] at i1;exact zS
  ·rw[zacY c];clear ih;generalize zc7 s (zct l[i] lo hi)=p at *;generalize zct l[i] lo hi=m at *;obtain⟨s2,e⟩:=p;subst e1 e2;simp only[ziR,zjT,zmQ] at *;rw[zacX c];simp only[zk,shZ] at *;exact zS
 ·clear ih;obtain rfl:i=l.length:=by omega
  simp only[zadI,zfa,zjT,ziR,zmQ,if_true];simp only[zk,shZ] at *;exact zS
theorem zRF{lo hi:Int}:∀(l:List zl) (s:zu),(zfa lo hi l s).2≠0->(zfa lo hi l s).1=zP:=by
 intro l
 induction l with
 | nil=>intro s h;exact absurd rfl h
 | cons m l ih=>
  intro s h;rw[zfa] at h ⊢
  split at h
  ·rename_i c;rw[zacY c]
  ·rename_i c;rw[zacX c];exact ih _ h
theorem znJ{s:zu}(h:zaf s=0):0<=zbs s/\zbs s<=24:=by
 have h1:=zci h;unfold zbs;rw[zacY h];unfold zaf at h
 split at h
 ·rename_i c;exact absurd h c
 ·rename_i c;obtain⟨a1,a2,a3,a4,a5,a6⟩:=zc8 (zadh.1 c);have:=h1.1;have:=h1.2.1;omega
theorem zDF(s:zu)(l:List zl)(q:zbn s)(hl:l.length<=1000):zg G zoI [.d (zk s),.d (.sl (l.map zn))] []=some (.d (.tup [zk (zgA s l).1,.int .i64 (zgA s l).2]),[]):=by
 have hv:=zfi s q.1 q.2.1 q.2.2;have hst:=zhH s q;unfold zgA
 by_cases c0:zal s=0
 ·rw[zacX (fun z=>z c0)];have hb:=zgN c0;have h12:=zci hb;have hb2:=znJ hb;have hlp:=zRE l hl s.low s.high ⟨s,0⟩ ⟨by simp,h12,rfl,rfl⟩;have her:=zRF (lo:=s.low) (hi:=s.high) l s;rw[c0] at hv;clear c0;simp only[zadu] at hlp;generalize zfa s.low s.high l s=R at *;generalize zbs s=sd at *;have h1:=h12.1;clear h12 hb;obtain⟨s2,e⟩:=R;unfold zjT at hlp;simp only at *
  by_cases c1:(s.ready.cells.length:Int) - sd<l.length
  ·rw[zacY c1];clear hlp;simp only[zk,zP,zaP,zax,zacZ] at *;exact zW zrO
  ·rw[zacX c1]
   by_cases c2:e=0
   ·subst c2;simp only[ziR,shZ,if_true] at *;simp only[zk,zado] at *;exact zW zrO
   ·rw[zacX c2] at hlp;have q1:=her c2;subst q1;clear her;simp only[ziR,shZ] at *;simp only[zk,zado,zP,zaP,zax,zacZ] at *;exact zW zrO
 ·rw[zacY c0];clear hst;generalize zal s=v at *;simp only[zk,zP,zaP,zax,zacZ] at *;exact zW zrO
theorem ziC{s:zu}(h:zaf s=0):zaX s.ready=0:=by
 unfold zaf at h
 split at h
 ·rename_i c;exact absurd h c
 ·rename_i c;exact zadh.1 c
def ziY(s:zu)(l:List zl)(k ep lim:Int)(r:zat)(out:List zl)(i:Nat):St:=⟨[(1,.d (.int .i64 k)),(2,.d (.int .i64 ep)),(3,.d (.int .i64 lim)),(4,.ref 4 0 0),(8,.ref 8 0 0),(12,.acc 12 (out.map zn)),(13,.d (.sl (l.map zn))),(14,.d (.int .i64 i))],[(4,.row [.d (zk { s with ready:=r })]),(8,.row [shZ]),(12,.acc out.length)]⟩
def ziX(s:zu)(x:zat×List zl):zac×St:=(.exit 0,⟨[(4,.ref 4 0 0),(8,.ref 8 0 0),(12,.acc 12 (x.2.map zn))],[(4,.row [.d (zk { s with ready:=x.1 })]),(8,.row [shZ]),(12,.acc x.2.length)]⟩)
theorem zSW(s:zu)(l:List zl)(k ep lim:Int)(hl:l.length<=12):∀p:zat×List zl×Nat,p.2.2<=l.length/\p.1.cells.length<=12/\p.2.1.length<=p.2.2->zai G [] zkC (ziY s l k ep lim p.1 p.2.1 p.2.2)=some (ziX s (zex k ep lim (l.drop p.2.2) p.1 p.2.1)):=by
 refine za3 (fun p=>l.length - p.2.2) (fun p:zat×List zl×Nat=>p.2.2<=l.length/\p.1.cells.length<=12/\p.2.1.length<=p.2.2) (fun p=>ziY s l k ep lim p.1 p.2.1 p.2.2) (fun p=>some (ziX s (zex k ep lim (l.drop p.2.2) p.1 p.2.1))) fun⟨r,out,i⟩ ⟨hi1,hr,ho⟩ L ih=> ?_;simp only at hi1 hr ho
 by_cases h0:i<l.length
 ·simp only;rw[zady h0,zex]
  by_cases c0:¬(out.length:Int)<k
  ·rw[zacY c0];clear ih;simp only[ziY,ziX,zkC,zk,shZ] at *;exact zS
  ·rw[zacX c0];have hp:=ziw l[i] ep;have hs:=ztR l[i] lim
   by_cases c1:lim<=l[i].count/\¬l[i].epoch<ep
   ·rw[zacY c1];rw[zadn c1.1] at hs;rw[zadq c1.2] at hp;have hm:=zB7 r l[i].id zo;have hc:=ztI r l[i].id;have i1:=ih ⟨(rmD r l[i].id).1,out++[l[i]],i+1⟩ ⟨by simp only;omega,by simp only;omega,by simp only[zac6,zadF];omega⟩ (by simp only;omega);clear ih c1;simp only at i1;generalize zex k ep lim (l.drop (i+1)) (rmD r l[i].id).1 (out++[l[i]])=R at *;generalize ziX s R=R2 at *;generalize rmD r l[i].id=q at *;obtain⟨⟨qc,qh,qz⟩,qm,qe⟩:=q;obtain⟨rc,rh,rz⟩:=r;simp only[ziY,zkC,zk,zau,zn,shZ,zadg,zac1,zacZ] at *;simp only[zNr,zE] at i1;simp -implicitDefEqProofs (maxSteps:=4000000) (disch:=omega) only[zn,zj,go_sem, *]
   ·rw[zacX c1];have i1:=ih ⟨r,out,i+1⟩ ⟨by simp only;omega,hr,by simp only;omega⟩ (by simp only;omega);clear ih;simp only at i1;generalize zex k ep lim (l.drop (i+1)) r out=R at *;generalize ziX s R=R2 at *;simp only[ziY,zkC,zk,zn,shZ] at *;simp only[zNr,zE] at i1
    by_cases c2:lim<=l[i].count
    ·rw[zadn c2] at hs;have c3:l[i].epoch<ep:=by omega
     rw[zadn c3] at hp;clear c1 c2 c3;simp -implicitDefEqProofs (maxSteps:=4000000) (disch:=omega) only[zn,zj,go_sem, *]
    ·rw[zadq c2] at hs;clear c1 c2;simp -implicitDefEqProofs (maxSteps:=4000000) (disch:=omega) only[zn,zj,go_sem, *]
 ·clear ih;obtain rfl:i=l.length:=by omega
  simp only[zadI,zex,ziX,ziY,zkC];simp only[zk,shZ] at *;exact zS
theorem zSY(s:zu)(k ep lim:Int)(q:zbn s):zg G zoK [.d (zk s),.d (.int .i64 k),.d (.int .i64 ep),.d (.int .i64 lim)] []=some (.d (.tup [zk (zf9 s k ep lim).1,.sl ((zf9 s k ep lim).2.1.map zn),.int .i64 (zf9 s k ep lim).2.2]),[]):=by
 have hv:=zfi s q.1 q.2.1 q.2.2;have h1:=zkg ep;have h2:=zss lim;unfold zf9
 by_cases c0:zal s=0
 ·rw[zacX (fun z=>z c0)];have hb:=zgN c0;have hr:=ziC hb;have h12:=zhw hb;have hrd:=zjA hr;have hlp:=zSW s (zI s.ready) k ep lim h12 ⟨s.ready,[],0⟩ ⟨by simp,(zci hb).1,by simp⟩;rw[c0] at hv;clear c0 hb hr h12;simp only[zadu] at hlp;generalize zex k ep lim (zI s.ready) s.ready []=R at *;generalize zI s.ready=w at *;generalize epQ ep=b1 at *;generalize liQ lim=b2 at *;obtain⟨⟨rc,rh,rz⟩,out⟩:=R;simp only[ziY,ziX,zk,shZ,zP,zaP,zax,zacZ,zac5,zado] at *
  cases b1
  ·clear hlp;simp only[zaeK,if_true];exact zW zmw
  cases b2
  ·clear hlp;simp only[zaeK,zaeT,if_true];exact zW zmw
  ·by_cases c2:k<0
   ·clear hlp;simp only[c2,zaeT,if_true];exact zW zmw
   ·simp only[c2,zadA,or_self,if_false];exact zW zmw
 ·rw[zacY c0];generalize zal s=v at *;simp only[zk,zP,zaP,zax,zacZ] at *;exact zW zmw
end Go.Proofs.YtdnlddoeamjcoaaGreat
