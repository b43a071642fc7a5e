/-
  The reference's shards.
-/
import Derived.Test.YtcembpbhkcbnhaaGreatB3e4d643
import Derived.Test.YtcembpbhkcbnhaaGreatBf95a9b9
import Derived.Test.YtcembpbhkcbnhaaGreatB061838e
set_option linter.unusedSimpArgs false
set_option linter.unusedVariables false
set_option maxHeartbeats 10000000
set_option maxRecDepth 100000
namespace Go.Proofs.YtcembpbhkcbnhaaGreat
open Go Go.Sim
def zgD(w:Walk):Prop:=0<=w.next/\w.next<65536/\0<=w.covered/\w.covered<=131072
theorem zRm(r:Int):zgD (zgB r).1:=by
 unfold zgB zgD
 split
 ·simp [zdc]
 ·simp only;omega
theorem znP(w:Walk)(lo hi:Int):zgD (zfz w lo hi).1:=by
 unfold zfz zgD
 split
 ·simp [zdc]
 ·rename_i c;have e:(hi+1).tmod 65536=(hi+1) % 65536:=zaem zo;simp only[e];omega
theorem TI.one{u:Setup}{N:Int}{t:Task}(hu:za3 u=true)(ht:TI u N t)(hk:1<=t.inv.kind/\t.inv.kind<=5){c:Int}(h0:0<=c)(h1:c<u.slots)(pc:Int):TI u N (zb8 t [c] pc):=by
 obtain⟨s1,s2,s3⟩:=ztA (N:=N) (lim:=t.setup.limit) (cells:=[c]) hu (by rw[ht.su]) ht.nn (zua zo) (by simp);refine { ht with se:=fun _=>⟨s1,s2,fun _=>⟨c,h0,h1,s3⟩,fun q=> ?_,fun q=> ?_,fun q=> ?_,fun q=> ?_⟩ }<;>(simp only[zb8] at q;omega)
theorem TI.look {u:Setup} {N:Int} {a:zy} {t:Task} (hu:za3 u=true) (ha:AI u a) (ht:TI u N t) (hk:1<=t.inv.kind/\t.inv.kind<=5) {r:Int} (h0:0<=r) (h1:r<65536) (pc:Int)
    (hoff:¬onP t.inv.kind t.pc):TI u N (zg4 a t r pc):=by
 have hh:=zMS ha.dv h0 h1;rw[ha.df] at hh;have hsl:=ha.sl;have h2:TI u N { t with dir:=a.dir,slot:=zem a.dir r }:={ ht with di:=⟨zfN ha.dv,(zjZ ha.dv).2.1⟩,se:=fun q=>absurd q hoff };exact h2.one hu hk hh.1 zo pc
theorem TI.dec{u:Setup}{N:Int}{t:Task}{s:Section}{w:Walk}{l:Int}(ht:TI u N t)(hS:zbd u N t.inv t.sec)(hd:zim u N t.sec s)(hw:zgD w)(hl:0<=l/\l<=1073741824):TI u N { t with sec:=s,walk:=w,loaded:=l }:=
 { ht with wk:=hw,ld:=hl,se:=fun _=>hS.dec hd }
theorem z8U(K:Tok)(t:Task)(hw:zgD t.walk):∃w l,(zdm K t).1={ t with sec:=(zdm K t).1.sec,walk:=w,loaded:=l }/\zgD w/\0<=l/\l<=1073741824:=by
 unfold zdm;simp only
 split
 ·exact⟨_,_,rfl,hw,by simp⟩
 split
 ·split
  ·exact⟨_,_,rfl,znP _ _ _,by simp⟩
  ·exact⟨_,_,rfl,znP _ _ _,by simp⟩
 ·exact⟨_,_,rfl,hw,by simp⟩
theorem z63(t:Task)(hw:zgD t.walk):∃w l,(zdj t).1={ t with sec:=(zdj t).1.sec,walk:=w,loaded:=l }/\zgD w/\0<=l/\l<=1073741824:=by
 unfold zdj;simp only
 split
 ·exact⟨_,_,rfl,hw,by simp⟩
 split
 ·exact⟨_,_,rfl,hw,by simp⟩
 split
 ·exact⟨_,_,rfl,znP _ _ _,by simp⟩
 split
 ·exact⟨_,_,rfl,znP _ _ _,by simp⟩
 ·exact⟨_,_,rfl,znP _ _ _,by simp⟩
theorem z88(t:Task):(zdn t).1={ t with sec:=(zdn t).1.sec }:=by
 unfold zdn;simp only
 split<;>rfl
theorem z8S{K:Tok}(hK:zis K){u:Setup}{a:zy}{t:Task}{n N:Int}(hu:za3 u=true)(ha:AI u a)(ht:TI u N t)(e:(zdQ K a t n).2.2.2=0):AI u (zdQ K a t n).1/\TI u (N+1) (zdQ K a t n).2.1:=by
 have hni:=ha.ni;unfold zdQ at e ⊢
 by_cases c:zan t 1 1=0
 ·rw[zabn (fun q=>q c)] at e ⊢;obtain⟨g1,g2⟩:=zeQ c;have hM:=ht.mono (show N<=N+1 by omega)
  by_cases c1:t.pc=0
  ·rw[zabo c1];have hl:TI u (N+1) { t with loaded:=a.nextID }:={ hM with ld:=⟨by simp only;omega,by simp only;omega⟩ }
   split
   ·exact⟨ha,zeV hl g1 _ _⟩
   ·exact⟨ha,{ hl with se:=fun q=>by simp only[onP] at q;omega }⟩
  rw[zabn c1] at e ⊢
  by_cases c2:t.pc=1
  ·rw[zabo c2] at e ⊢;simp only at e ⊢;have hc:=ha.casWord 3 t.loaded (t.loaded+1);generalize casWord a 3 t.loaded (t.loaded+1)=r at *
   by_cases c3:r.2.2=0
   ·rw[zabn (fun q=>q c3)];refine⟨hc c3,?_⟩;have hld:=hM.ld;have hnn:=hM.nn;show TI u (N+1) (if r.2.1=true then _ else _)
    split
    ·exact { hM with id:=⟨hld.1,by simp only;omega⟩,wk:=zRm _,se:=fun q=>by simp only[onP] at q;omega }
    ·exact { hM with se:=fun q=>absurd rfl q.1 }
   ·rw[zabo c3] at e;exact absurd e c3
  rw[zabn c2] at e ⊢
  by_cases c3:t.pc=2
  ·rw[zabo c3];exact⟨ha,hM.look hu ha zo hM.wk.1 hM.wk.2.1 3 (fun q=>by unfold onP at q;omega)⟩
  rw[zabn c3] at e ⊢;simp only at e ⊢;have k4:=ht.se ⟨c1,by omega⟩;have hg:=zkh (n:=n) ha k4;generalize goT a t n=g at *
  by_cases c4:g.2.2.2.2=0
  ·rw[zabn (fun q=>q c4)];obtain⟨h1,s,h2,h3,h4⟩:=hg c4;have k5:=hM.sec h3;rw[<- h2] at k5;have hd:g.2.1.done=false:=by rw[h2];exact g1
   have hi2:g.2.1.inv=t.inv:=by rw[h2]
   have hsc:g.2.1.sec=s:=by rw[h2]
   split
   ·rename_i c5;refine⟨h1,?_⟩;have hS:zbd u (N+1) g.2.1.inv g.2.1.sec:=by rw[hi2,hsc];exact h3
    have h4':g.2.1.sec.phase=4:=by rw[hsc];exact h4.1 c5
    have hdec:=z8P K (t:=g.2.1) hS.si h4' (zAw hS (by rw[hi2];omega) h4');obtain⟨w,l,e1,e2,e3⟩:=z8U K g.2.1 k5.wk;rw[e1];exact k5.dec hS hdec e2 e3
   ·split
    ·exact⟨h1,k5⟩
    split
    ·exact⟨h1,zeV k5 hd _ _⟩
    split
    ·exact⟨h1,zeV k5 hd _ _⟩
    ·exact⟨h1,{ k5 with se:=fun q=>by simp only[onP] at q;rw[hi2] at q;omega }⟩
  ·rw[zabo c4] at e;exact absurd e c4
 ·rw[zabo c] at e;exact absurd e c
theorem z61{K:Tok}{u:Setup}{a:zy}{t:Task}{n N:Int}(hu:za3 u=true)(ha:AI u a)(ht:TI u N t)(e:(zdN K a t n).2.2.2=0):AI u (zdN K a t n).1/\TI u (N+1) (zdN K a t n).2.1:=by
 unfold zdN at e ⊢
 by_cases c:zan t 2 2=0
 ·rw[zabn (fun q=>q c)] at e ⊢;obtain⟨g1,g2⟩:=zeQ c;have hM:=ht.mono (show N<=N+1 by omega)
  by_cases c1:t.pc=0
  ·rw[zabo c1];have hh:=zLG ha.dv t.inv.home;rw[ha.df] at hh;have hsl:=ha.sl;have h2:TI u (N+1) { t with dir:=a.dir,slot:=zcZ a.dir t.inv.home,walk:=(zgB (zld a.dir (zcZ a.dir t.inv.home)).1.low).1 }:=
    { hM with di:=⟨zfN ha.dv,(zjZ ha.dv).2.1⟩,wk:=zRm _,se:=fun q=>absurd c1 q.1 }
   exact⟨ha,h2.one hu (by simp only;omega) hh.1 zo 1⟩
  rw[zabn c1] at e ⊢
  by_cases c3:t.pc=2
  ·rw[zabo c3];exact⟨ha,hM.look hu ha zo hM.wk.1 hM.wk.2.1 1 (fun q=>by unfold onP at q;omega)⟩
  rw[zabn c3] at e ⊢;simp only at e ⊢;have k4:=ht.se ⟨c1,by omega⟩;have hg:=zkh (n:=n) ha k4;generalize goT a t n=g at *
  by_cases c4:g.2.2.2.2=0
  ·rw[zabn (fun q=>q c4)];obtain⟨h1,s,h2,h3,h4⟩:=hg c4;have k5:=hM.sec h3;rw[<- h2] at k5;have hd:g.2.1.done=false:=by rw[h2];exact g1
   have hi2:g.2.1.inv=t.inv:=by rw[h2]
   have hsc:g.2.1.sec=s:=by rw[h2]
   split
   ·rename_i c5;refine⟨h1,?_⟩;have hS:zbd u (N+1) g.2.1.inv g.2.1.sec:=by rw[hi2,hsc];exact h3
    have h4':g.2.1.sec.phase=4:=by rw[hsc];exact h4.1 c5
    have hdec:=z6Y (t:=g.2.1) hS.si h4' (zAw hS (by rw[hi2];omega) h4');obtain⟨w,l,e1,e2,e3⟩:=z63 g.2.1 k5.wk;rw[e1];exact k5.dec hS hdec e2 e3
   ·split
    ·exact⟨h1,k5⟩
    split
    ·exact⟨h1,zeV k5 hd _ _⟩
    split
    ·exact⟨h1,zeV k5 hd _ _⟩
    split
    ·exact⟨h1,zeV k5 hd _ _⟩
    ·exact⟨h1,{ k5 with se:=fun q=>by simp only[onP] at q;rw[hi2] at q;omega }⟩
  ·rw[zabo c4] at e;exact absurd e c4
 ·rw[zabo c] at e;exact absurd e c
theorem z86{K:Tok}(hK:zis K){u:Setup}{a:zy}{t:Task}{n N:Int}(hu:za3 u=true)(ha:AI u a)(ht:TI u N t)(e:(zdS K a t n).2.2.2=0):AI u (zdS K a t n).1/\TI u (N+1) (zdS K a t n).2.1:=by
 unfold zdS at e ⊢
 by_cases c:zan t 3 5=0
 ·rw[zabn (fun q=>q c)] at e ⊢;obtain⟨g1,g2⟩:=zeQ c;have hM:=ht.mono (show N<=N+1 by omega)
  by_cases c1:t.pc=0
  ·rw[zabo c1];simp only;have hp:=hK.par (t.inv.tokens.getD t.entry.toNat []);generalize K.par (t.inv.tokens.getD t.entry.toNat [])=h at *
   by_cases c2:h.2=0
   ·rw[zabn (fun q=>q c2)];obtain⟨p1,p2⟩:=hp c2;have h2:TI u (N+1) { t with handle:=h.1,pc:=1 }:={ hM with hd:=p1,se:=fun q=>by simp only[onP] at q;omega };refine⟨ha,?_⟩;show TI u (N+1) (if h.1.hint<t.setup.slots then _ else _)
    split
    ·rename_i c3;rw[ht.su] at c3;exact h2.one hu (by simp only;omega) p2 c3 2
    ·exact h2
   ·rw[zabo c2];exact⟨ha,zeV hM g1 _ _⟩
  rw[zabn c1] at e ⊢
  by_cases c3:t.pc=1
  ·rw[zabo c3];exact⟨ha,hM.look hu ha zo hM.hd.1 hM.hd.2 2 (fun q=>by unfold onP at q;omega)⟩
  rw[zabn c3] at e ⊢;simp only at e ⊢;have k4:=ht.se ⟨c1,by omega⟩;have hg:=zkh (n:=n) ha k4;generalize goT a t n=g at *
  by_cases c4:g.2.2.2.2=0
  ·rw[zabn (fun q=>q c4)];obtain⟨h1,s,h2,h3,h4⟩:=hg c4;have k5:=hM.sec h3;rw[<- h2] at k5;have hd:g.2.1.done=false:=by rw[h2];exact g1
   have hi2:g.2.1.inv=t.inv:=by rw[h2]
   have hsc:g.2.1.sec=s:=by rw[h2]
   split
   ·rename_i c5;refine⟨h1,?_⟩;have hS:zbd u (N+1) g.2.1.inv g.2.1.sec:=by rw[hi2,hsc];exact h3
    have h4':g.2.1.sec.phase=4:=by rw[hsc];exact h4.1 c5
    have hdec:=z83 (t:=g.2.1) hS.si h4' (zAw hS (by rw[hi2];omega) h4');have e1:=z88 g.2.1;rw[e1];exact k5.sec (hS.dec hdec)
   ·split
    ·exact⟨h1,k5⟩
    split
    ·exact⟨h1,{ k5 with se:=fun q=>by simp only[onP] at q;rw[hi2] at q;omega }⟩
    ·exact⟨h1,zeV k5 hd _ _⟩
  ·rw[zabo c4] at e;exact absurd e c4
 ·rw[zabo c] at e;exact absurd e c
theorem zaab{K:Tok}(hK:zis K){u:Setup}{a:zy}{t:Task}{n N:Int}(hu:za3 u=true)(ha:AI u a)(ht:TI u N t)(hn:0<=n/\n<=N+1)(e:(zbZ K a t n).2.2.2=0):AI u (zbZ K a t n).1/\TI u (N+1) (zbZ K a t n).2.1:=by
 unfold zbZ at e ⊢
 by_cases c0:t.done=true
 ·rw[zabo c0] at e;cases e
 rw[zabn c0] at e ⊢
 by_cases c1:t.inv.kind=1
 ·rw[zabo c1] at e ⊢; exact z8S hK hu ha ht e
 rw[zabn c1] at e ⊢
 by_cases c2:t.inv.kind=2
 ·rw[zabo c2] at e ⊢; exact z61 hu ha ht e
 rw[zabn c2] at e ⊢
 by_cases c3:3<=t.inv.kind/\t.inv.kind<=5
 ·rw[zabo c3] at e ⊢; exact z86 hK hu ha ht e
 rw[zabn c3] at e ⊢
 by_cases c6:t.inv.kind=6
 ·rw[zabo c6] at e ⊢; exact z5n ha ht e
 rw[zabn c6] at e ⊢
 by_cases c7:t.inv.kind=7
 ·rw[zabo c7] at e ⊢; exact zTl ha ht hn e
 rw[zabn c7] at e ⊢
 by_cases c8:t.inv.kind=8
 ·rw[zabo c8] at e ⊢; exact z69 hu ha ht e
 rw[zabn c8] at e ⊢
 by_cases c9:t.inv.kind=9
 ·rw[zabo c9] at e ⊢; exact z9H hu ha ht e
 rw[zabn c9] at e ⊢
 by_cases c10:t.inv.kind=10
 ·rw[zabo c10] at e ⊢; exact z9v hu ha ht e
 rw[zabn c10] at e ⊢
 by_cases c11:t.inv.kind=11
 ·rw[zabo c11] at e ⊢; exact zZK hu ha ht e
 rw[zabn c11] at e ⊢
 by_cases c12:t.inv.kind=12\/t.inv.kind=13
 ·rw[zabo c12] at e ⊢; exact z90 hu ha ht e
 rw[zabn c12] at e ⊢
 by_cases c14:t.inv.kind=14
 ·rw[zabo c14] at e ⊢; exact zSy hu ha ht e
 rw[zabn c14] at e
 cases e
theorem z9F{u:Setup}{number:Int}{i:zaeE}{n N:Int}(hN:0<=N)(e:(zex number i u n).2=0):TI u N (zex number i u n).1:=by
 unfold zex at e ⊢
 by_cases c1:number<1\/200<number\/n<0
 ·rw[zabo c1] at e;cases e
 rw[zabn c1] at e ⊢
 by_cases c2:za3 u=false
 ·rw[zabo c2] at e;cases e
 rw[zabn c2] at e ⊢
 by_cases c3:zbM i u≠0
 ·rw[zabo c3] at e;exact absurd e c3
 rw[zabn c3];have c3:=zabG.1 c3;have hk:=zLO c3;have hb:=zny (Bool.of_not_eq_false c2);refine { nm:=by simp only;omega,iv:=c3,su:=rfl,e0:=by simp [zE],e1:=fun _=> ?_,e2:=by simp [zE],wk:=by simp [zE],ld:=by simp [zE],id:=⟨by simp [zE],by simp only[zE];omega⟩,hd:=by simp [zE],fs:=⟨by simp only[zE,zabw];omega,by simp only[zE,zabw];omega⟩,di:=by simp [zE],nn:=hN,se:=fun q=>absurd rfl q.1 };simp only[zE];unfold zcX;unfold zbM at c3
 by_cases d1:i.kind=1
 ·rw[zabo d1] at c3 ⊢
  split at c3
  ·cases c3
  ·omega
 rw[zabn d1] at c3 ⊢
 by_cases d3:3<=i.kind/\i.kind<=5
 ·rw[zabo d3];rw[zabn zo,zabo d3] at c3
  split at c3
  ·cases c3
  ·omega
 ·rw[zabn d3];omega
structure WI(u:Setup)(w:World):Prop where
 hu:za3 u=true
 su:w.setup=u
 ar:AI u w.arena
 ts:∀t∈w.tasks,TI u w.steps t
 tl:w.tasks.length<=200
 st:0<=w.steps
theorem z4E{w:World}{i:Nat}(h:i∈zbj w):i<w.tasks.length:=by
 unfold zbj at h;exact zack.1 (zacW.1 h).1
theorem zMK{w:World}{k:Nat}(h:k<(zbj w).length):(zbj w).getD k 0<w.tasks.length:=by
 rw[zab0,zabx h];exact z4E (zabC h)
theorem z9M{K:Tok}(hK:zis K){u:Setup}{w:World}{i:Nat}(hw:WI u w)(hi:i<w.tasks.length)(e:(zcO K w i).2=0):WI u (zcO K w i).1:=by
 unfold zcO at e ⊢;simp only at e ⊢;have ht:=hw.ts (w.tasks.getD i zE) (by rw[zh hi];exact zabC hi);have hst:=hw.st;have hk:=zaab hK (n:=w.steps+1) (N:=w.steps) hw.hu hw.ar ht zo
 by_cases c:(zbZ K w.arena (w.tasks.getD i zE) (w.steps+1)).2.2.2=0
 ·rw[zabn (fun q=>q c)];obtain⟨k1,k2⟩:=hk c;refine { hu:=hw.hu,su:=hw.su,ar:=k1,ts:=fun t h=> ?_,tl:=by simp only[zacb];exact hw.tl,st:=by simp only;omega }
  rcases zmR h with h|h
  ·rw[h];exact k2
  ·exact (hw.ts t h).mono (by simp only;omega)
 ·rw[zabo c] at e;exact absurd e c
theorem zaaj{u:Setup}{w:World}{by_:Int}(hw:WI u w)(e:(zdX w by_).2=0):WI u (zdX w by_).1:=by
 unfold zdX at e ⊢;have hst:=hw.st;have ht:=hw.ar.tick by_
 by_cases c:(zeA w.arena by_).2=0
 ·rw[zabn (fun q=>q c)];exact { hu:=hw.hu,su:=hw.su,ar:=ht c,ts:=fun t h=>(hw.ts t h).mono (by simp only;omega),tl:=hw.tl,st:=by simp only;omega }
 ·rw[zabo c] at e;exact absurd e c
theorem zX8{u:Setup}{w:World}{i:zaeE}(hw:WI u w)(e:(zcJ w i).2.2=0):WI u (zcJ w i).1:=by
 unfold zcJ at e ⊢
 by_cases c:200<=w.tasks.length\/8<=(zbj w).length
 ·rw[zabo c] at e;cases e
 rw[zabn c] at e ⊢;have hs:=fun h=>z9F (u:=u) (number:=w.tasks.length+1) (i:=i) (n:=w.steps) (N:=w.steps) hw.st h;rw[hw.su] at e ⊢
 by_cases c2:(zex (w.tasks.length+1) i u w.steps).2=0
 ·rw[zabn (fun q=>q c2)];refine { hu:=hw.hu,su:=rfl,ar:=hw.ar,ts:=fun t h=> ?_,tl:=by simp only[zabv,zabu,zabw];omega,st:=hw.st }
  rcases zabS.1 h with h|h
  ·exact hw.ts t h
  ·rw[zab1.1 h];exact hs c2
 ·rw[zabo c2] at e;exact absurd e c2
theorem zCJ{n:Nat}(h1:1<=n)(h2:n<=12):zaE ⟨List.replicate n zaa,0,0⟩=0:=by
 have hr:zgt ⟨List.replicate n zaa,0,0⟩:=by
  unfold zgt;simp only[zacp];omega
 have hf:zc5 ⟨List.replicate n zaa,0,0⟩ 0 n=false:=by
  unfold zc5;rw[zacC];intro j _;rw[decide_eq_true_eq];intro q;apply q;simp only[zacp];rw[zab0]
  by_cases c:((0:Int).toNat+j) % n<n
  ·rw[List.getElem?_replicate_of_lt c];rfl
  ·exact absurd (zacr _ zo) c
 unfold zaE;rw[zabn (fun q=>q hr)];simp only[zacp,Int.toNat_zero];rw[hf];rfl
theorem zZ1{n lo hi:Int}(hn:1<=n/\n<=12)(hs:0<=lo/\lo<=hi/\hi<65536):zY (zb5 n lo hi).1=0/\((zb5 n lo hi).1.ready.cells.length:Int)=n:=by
 have hr:=zCJ (n:=n.toNat) zo zo;unfold zb5;rw[zabn zo,zabn (fun q=>q hs)];refine⟨?_,by simp only[zacp];omega⟩;unfold zY;simp only;rw[hr,zabn (fun q=>q rfl),zabn (show ¬zao zal≠0 by decide),zabn (by decide),zabn (fun q=>q hs),zabn (by simp only[zCU,zacp,zal,zabw];omega)];rfl
theorem zWi{n:Int}(hn:1<=n/\n<=12):zY (zfX n).1=0/\((zfX n).1.ready.cells.length:Int)=n:=by
 have hr:=zCJ (n:=n.toNat) zo zo;unfold zfX;rw[zabn zo];refine⟨?_,by simp only[zacp];omega⟩;unfold zY;simp only;rw[hr,zabn (fun q=>q rfl),zabn (show ¬zao zal≠0 by decide),zabo trivial];rfl
theorem z9a{u:Setup}(h:za3 u=true):(1<=u.slots/\u.slots<=6)/\(1<=u.live/\u.live<=u.slots)/\(1<=u.capacity/\u.capacity<=12)/\(1<=u.dead/\u.dead<=24)/\(0<=u.clock/\u.clock<=1073741824)/\(1<=u.nextID/\u.nextID<=1073741824)/\0<=u.epoch/\u.epoch<=65536:=by
 unfold za3 inI at h;simp only[zabH,decide_eq_true_eq] at h;omega
theorem zR6{u:Setup}(e:(zbL u).2=0):AI u (zbL u).1:=by
 have hu:za3 u=true:=by
  unfold zbL at e
  split at e
  ·cases e
  ·rename_i c;exact Bool.of_not_eq_false c
 obtain⟨b1,b2,b3,b4,b5,b6,b7⟩:=z9a hu;have hd:(zkD u.slots u.live).1=ze4 u.slots.toNat u.live.toNat:=by
  unfold zkD;rw[zabn zo]
 have hv:=(zTS u.slots.toNat u.live.toNat zo zo zo).1;have hl:(ze4 u.slots.toNat u.live.toNat).l.length=u.live.toNat:=by simp only[ze4,z9t]
 have hf:(ze4 u.slots.toNat u.live.toNat).forward.length=u.slots.toNat:=by simp only[ze4,zacp]
 have ht:=zCY _ 0 65536 zo (zvb hv);unfold zbL;rw[zabn (by rw[hu];simp)];simp only[hd];constructor
 ·simp only[zabE,zaew];omega
 ·simp only[zabE,zaew,zacp]
 ·intro x hx;simp only[zaby,zack] at hx;obtain⟨i,hi,rfl⟩:=hx
  by_cases c:(i:Int)<u.live
  ·simp only[zabo c];have hi2:i<(ze4 u.slots.toNat u.live.toNat).l.length:=by omega
   rw[zh hi2];exact zZ1 b3 (ht _ (zabC hi2))
  ·simp only[zabn c];exact zWi b3
 ·intro x hx;rw[zaee hx];unfold znH;apply zabM;simp only[zbV];omega
 ·exact hv
 ·simp only[zabE,zaew];exact hf
 ·unfold zcm;simp only;rw[zabn zo,zabn (by simp only[zabw];omega)];rfl
 ·rfl
 ·simp only;omega
 ·exact b5
 ·exact b6
theorem zm4{plan:Task->Pln}(h:∀t,(plan t).2.2.length<=2)(lo hi:Int)(cells:Task->List Int)(a:zy)(t:Task)(n:Int):(zbf plan lo hi cells a t n).2.2.1.length<=2:=by
 unfold zbf zbv;simp only
 split
 ·simp
 generalize (if t.pc=0 then zb8 t (cells t) 1 else t)=t';generalize goT a t' n=g
 split
 ·simp
 split
 ·exact h _
 split<;>simp
theorem z5m(a:zy)(t:Task)(n:Int):(zci a t n).2.2.1.length<=2:=by
 unfold zci;simp only
 split
 ·simp
 split
 ·split<;>simp
 split
 ·simp
 split<;>simp
theorem zTj(a:zy)(t:Task)(n:Int):(zdy a t n).2.2.1.length<=2:=by
 unfold zdy;simp only
 split
 ·simp
 split
 ·simp
 split
 ·split<;>simp
 split
 ·split<;>simp
 split<;>simp
theorem z67(a:zy)(t:Task)(n:Int):(zdO a t n).2.2.1.length<=2:=by
 have h:∀t,(zdk t).2.length<=2:=by
  intro t;unfold zdk;simp only
  split
  ·simp
  split
  ·simp
  split<;>simp
 unfold zdO zbv;simp only
 split
 ·simp
 split
 ·simp
 generalize goT a t n=g
 split
 ·simp
 split
 ·exact h _
 split
 ·simp
 split<;>simp
theorem z84(K:Tok)(a:zy)(t:Task)(n:Int):(zdS K a t n).2.2.1.length<=2:=by
 have h:∀t,(zdn t).2.length<=2:=by
  intro t;unfold zdn;simp only
  split<;>simp
 unfold zdS zbv;simp only
 split
 ·simp
 split
 ·split<;>simp
 split
 ·simp
 generalize goT a t n=g
 split
 ·simp
 split
 ·exact h _
 split
 ·simp
 split<;>simp
theorem z8Q(K:Tok)(a:zy)(t:Task)(n:Int):(zdQ K a t n).2.2.1.length<=2:=by
 have h:∀t,(zdm K t).2.length<=2:=by
  intro t;unfold zdm;simp only
  split
  ·simp
  split
  ·split<;>simp
  ·simp
 unfold zdQ zbv;simp only
 split
 ·simp
 split
 ·split<;>simp
 split
 ·split<;>simp
 split
 ·simp
 generalize goT a t n=g
 split
 ·simp
 split
 ·exact h _
 split
 ·simp
 split
 ·simp
 split<;>simp
theorem z6Z(K:Tok)(a:zy)(t:Task)(n:Int):(zdN K a t n).2.2.1.length<=2:=by
 have h:∀t,(zdj t).2.length<=2:=by
  intro t;have h1:∀(k:Nat) (e:Event),(if 0<k then [e] else []).length<=1:=by intro k e;split<;>simp
  unfold zdj;simp only
  split
  ·simp
  split
  ·simp
  split
  ·rw[zabv];exact Nat.add_le_add (h1 _ _) (zabR 1)
  split
  ·rw[zabv];exact Nat.add_le_add (h1 _ _) (zabR 1)
  ·exact zaca (h1 _ _) (by decide)
 unfold zdN zbv;simp only
 split
 ·simp
 split
 ·simp
 split
 ·simp
 generalize goT a t n=g
 split
 ·simp
 split
 ·exact h _
 split
 ·simp
 split
 ·simp
 split
 ·simp
 split<;>simp
theorem z9G(t:Task):(zey t).2.2.length<=2:=by
 unfold zey;simp only
 split
 ·simp
 split<;>simp
theorem z9u(t:Task):(zew t).2.2.length<=2:=by
 unfold zew;simp only
 split<;>simp
theorem zZJ(t:Task):(zek t).2.2.length<=2:=by
 unfold zek;simp only
 split<;>simp
theorem z9Z(t:Task):(zdW t).2.2.length<=2:=by
 unfold zdW;simp only
 split
 ·simp
 split
 ·simp
 split
 ·simp
 split<;>simp
theorem zSx(t:Task):(zdx t).2.2.length<=2:=by
 unfold zdx;simp only
 split
 ·simp
 split<;>simp
theorem zQY(K:Tok)(a:zy)(t:Task)(n:Int):(zbZ K a t n).2.2.1.length<=2:=by
 unfold zbZ
 by_cases c0:t.done=true
 ·rw[zabo c0];simp [zbv]
 rw[zabn c0]
 by_cases c1:t.inv.kind=1
 ·rw[zabo c1];exact z8Q _ _ _ _
 rw[zabn c1]
 by_cases c2:t.inv.kind=2
 ·rw[zabo c2];exact z6Z _ _ _ _
 rw[zabn c2]
 by_cases c3:3<=t.inv.kind/\t.inv.kind<=5
 ·rw[zabo c3];exact z84 _ _ _ _
 rw[zabn c3]
 by_cases c6:t.inv.kind=6
 ·rw[zabo c6];exact z5m _ _ _
 rw[zabn c6]
 by_cases c7:t.inv.kind=7
 ·rw[zabo c7];exact zTj _ _ _
 rw[zabn c7]
 by_cases c8:t.inv.kind=8
 ·rw[zabo c8];exact z67 _ _ _
 rw[zabn c8]
 by_cases c9:t.inv.kind=9
 ·rw[zabo c9];exact zm4 z9G _ _ _ _ _ _
 rw[zabn c9]
 by_cases c10:t.inv.kind=10
 ·rw[zabo c10];exact zm4 z9u _ _ _ _ _ _
 rw[zabn c10]
 by_cases c11:t.inv.kind=11
 ·rw[zabo c11];exact zm4 zZJ _ _ _ _ _ _
 rw[zabn c11]
 by_cases c12:t.inv.kind=12\/t.inv.kind=13
 ·rw[zabo c12];exact zm4 z9Z _ _ _ _ _ _
 rw[zabn c12]
 by_cases c14:t.inv.kind=14
 ·rw[zabo c14];exact zm4 zSx _ _ _ _ _ _
 rw[zabn c14];simp [zbv]
structure LB(B:Int)(w:World):Prop where
 lg:(w.log.length:Int)<=2 * w.steps
 st:w.steps<=B
theorem LB.mono{B C:Int}{w:World}(h:LB B w)(hb:B<=C):LB C w:=⟨h.lg,by have:=h.st;omega⟩
theorem z9N{K:Tok}{B:Int}{w:World}{i:Nat}(h:LB B w)(e:(zcO K w i).2=0):LB (B+1) (zcO K w i).1:=by
 have h1:=h.lg;have h2:=h.st;unfold zcO at e ⊢;simp only at e ⊢;have hv:=zQY K w.arena (w.tasks.getD i zE) (w.steps+1);generalize zbZ K w.arena (w.tasks.getD i zE) (w.steps+1)=r at *
 by_cases c:r.2.2.2=0
 ·rw[zabn (fun q=>q c)];exact⟨by simp only[zabv];omega,by simp only;omega⟩
 ·rw[zabo c] at e;exact absurd e c
theorem zaak{B:Int}{w:World}{by_:Int}(h:LB B w)(e:(zdX w by_).2=0):LB (B+1) (zdX w by_).1:=by
 have h1:=h.lg;have h2:=h.st;unfold zdX at e ⊢
 by_cases c:(zeA w.arena by_).2=0
 ·rw[zabn (fun q=>q c)];exact⟨by simp only[zabv,zabu,zabw];omega,by simp only;omega⟩
 ·rw[zabo c] at e;exact absurd e c
theorem zX9{B:Int}{w:World}{i:zaeE}(h:LB B w)(e:(zcJ w i).2.2=0):LB B (zcJ w i).1:=by
 unfold zcJ at e ⊢
 by_cases c:200<=w.tasks.length\/8<=(zbj w).length
 ·rw[zabo c] at e;cases e
 rw[zabn c] at e ⊢
 by_cases c2:(zex (w.tasks.length+1) i w.setup w.steps).2=0
 ·rw[zabn (fun q=>q c2)];exact⟨h.lg,h.st⟩
 ·rw[zabo c2] at e;exact absurd e c2
theorem zDQ(b:Int):(zbo 0 (zf4 b 255)).toNat<=255:=by
 unfold zbo zf4
 split<;>split<;>omega
theorem znv{u:Setup}{N:Int}{a:zy}{s:Section}(hu:za3 u=true)(ha:AI u a)(hs:SI u N s)(hN:N<=1000000):zqB a s:=by
 have hb:=zny hu;have hsl:=ha.sl;have c1:=hs.lw.c1;have c2:=hs.lw.c2;have hk:=zmC u.slots s.lock.cells;have hin:=zLS (n:=u.slots) hs.ca;refine { sl:=by omega,st:=ha.st,lw:=hs.lw.mono hN,p1:=fun q=> ?_,p2:=fun q=> ?_,p5:=fun q=> ?_,p6:=fun q=> ?_,p7:=fun q=> ?_,od:=hs.oo,f1:=fun x hx=> ?_,f2:=fun x hx=> ?_,dd:=hs.od,di:=hs.di }
 ·obtain⟨_,h1,h2,h3,_⟩:=hs.ph.p1 q;exact⟨h1,by omega,h3⟩
 ·obtain⟨_,h1,h2,h3,h4,_⟩:=hs.ph.p2 q;exact⟨h1,by omega,by omega⟩
 ·obtain⟨_,h1,h2,h3,h4,h5⟩:=hs.ph.p5 q;refine⟨h4,h5,fun o ho hne=> ?_⟩;obtain⟨o1,o2⟩:=hs.oo.1 o ho;rw[zl3 o1 o2] at hne;have hc:=hs.cr _ (zabC (show o.toNat<s.lock.cells.length by omega));have hi:=(hin o.toNat zo).2 zo;omega
 ·obtain⟨_,h1,h2,h3,h4,h5,_⟩:=hs.ph.p6 q;exact⟨h5,h4⟩
 ·obtain⟨_,h1,h2,h3,h4,h5⟩:=hs.ph.p7 q;exact⟨h4,by omega,by omega,by omega,by omega,by omega⟩
 ·have h:=hs.os x hx;exact⟨by have:=h.1;omega,by have:=h.2;omega,by have:=h.3;omega⟩
 ·obtain⟨h1,h2⟩:=hs.sv x hx;exact zfH (zbT h1)
theorem znz{u:Setup}{N:Int}{t:Task}(hs:SI u N t.sec):za4 (sh0 t):=zfH (zk8 hs)
theorem zcr{u:Setup}{N:Int}{t:Task}{o:zb1}(hs:SI u N t.sec)(ho:OI t.sec o):zi G 162 [.d (zf t),.d (zU o)] []=some (.d (zf (za5 t o)),[]):=
 zTM t o (zTN t.sec o ho.ol hs.lw.c2)
theorem zYv{u:Setup}{N:Int}{s:Section}(h:SI u N s)(hp:s.phase=4\/s.phase=9):s.shards.length=kOf u.slots s.lock.cells:=by
 rcases hp with q|q
 ·exact (h.ph.p4 q).2.2
 ·exact (h.ph.p9 q).1
theorem zgx{u:Setup}{N:Int}{i:zaeE}{s:Section}(h:zbd u N i s)(hv:zbM i u=0)(hp:s.phase=4\/s.phase=9):
    (1<=i.kind/\i.kind<=5->s.shards.length=1)/\(i.kind=8->s.shards.length=1)/\(9<=i.kind/\i.kind<=11->s.shards.length=2)/\(12<=i.kind/\i.kind<=13->s.shards.length<=1)/\(i.kind=14->s.shards.length=1):=by
 have hk:=zYv h.si hp;refine⟨fun q=> ?_,fun q=> ?_,fun q=> ?_,fun q=> ?_,fun q=> ?_⟩
 ·obtain⟨c,c0,c1,c2⟩:=h.c1 q;rw[hk,c2,zLR c1]
 ·obtain⟨c,c0,c1,c2⟩:=h.c8 q;rw[hk,c2,zsh c1]
 ·obtain⟨v1,v2,v3⟩:=zkl hv q;rw[hk,h.c9 q];unfold zeo
  split
  ·exact zsg v1.2 v2.2
  ·exact zsg v2.2 v1.2
 ·have q2:=zmC u.slots s.lock.cells;rw[h.c12 q] at q2 hk;simp only[zabu,zabw] at q2;omega
 ·have v:=zkk hv (.inr q);rw[hk,h.c14 q,zsh v.2]
theorem zLM(r lo hi:Int):zi G 179 [.d (.int .i64 r),.d (.int .i64 lo),.d (.int .i64 hi)] []=some (.d (.int .i64 (zkj r lo hi)),[]):=by
 unfold zkj
 by_cases c:r<0\/65536<=r\/lo<0\/65536<=hi\/hi<lo
 ·rw[zabo c];exact zW
 ·rw[zabn c];exact zX6 r lo hi zo zo zo zo zo
theorem zZ0(id route ep now:Int)(b:List UInt8):zi G 178 [.d (.int .i64 id),.d (.int .i64 route),.d (.int .i64 ep),.d (.int .i64 now),.d (.str b)] []=some (.d (.tup [zm (zmU id route ep now b).1,.int .i64 (zmU id route ep now b).2]),[]):=by
 have hv:=zh8 ⟨id,route,ep,0,0,now,b⟩;unfold zmU;generalize zap ⟨id,route,ep,0,0,now,b⟩=v at *;simp only[zm] at *
 by_cases c:v=0
 ·subst c;exact zW
 ·rw[zabo c];have zk0:=zaa.eq_1;exact zW
structure zgF(K:Tok):Prop where
 ok:zis K
 rt:∀i,zi G 140 [.d (.int .i64 i)] []=some (.d (.int .i64 (K.route i)),[])
 en:∀h,zi G 92 [.d (zat h)] []=some (.d (.tup [zaA (K.enc h).1,.int .i64 (K.enc h).2]),[])
 pa:∀b:List UInt8,b.length<=4294967296->zi G 91 [.d (zaA b)] []=some (.d (.tup [zat (K.par b).1,.int .i64 (K.par b).2]),[])
theorem zc6{t:Task}(hk:t.sec.shards.length=1):sh0 t=t.sec.shards[0]:=by
 unfold sh0;exact zh zo
theorem z8O{K:Tok}(hK:zgF K){u:Setup}{N:Int}{t:Task}(hs:SI u N t.sec)(hk:t.sec.shards.length=1)(hw:zgD t.walk)(he:0<=t.entry/\t.entry<t.inv.bodies.length):zi G 143 [.d (zf t)] []=some (.d (.tup [zf (zdm K t).1,.sl ((zdm K t).2.map zaw)]),[]):=by
 have hb:za4 t.sec.shards[0]:=zc6 hk ▸ znz hs;have hl12:zaK t.sec.shards[0]:=zc6 hk ▸ zk8 hs;have hu:=zhn t.sec;have ho:=zsV t.sec.shards[0] t.walk.next hb;unfold zdm;simp only;rw[zc6 hk];have hun:=hs.un
 by_cases c0:zen t.sec.shards[0] t.walk.next=false
 ·rw[zabo c0];rw[c0] at ho;have hd:=zcr (t:={ t with loaded:=0 }) hs hun;generalize za5 { t with loaded:=0 } (z8 t.sec)=t2 at *;have sz_t2:=zQ t2;generalize zf t2=D_t2 at *;clear hun hs hl12 hb c0;simp only[zf,zA,zU,z8,zabq,zC] at *;exact zW
 rw[zabn c0];replace c0:zen t.sec.shards[0] t.walk.next=true:=by simpa using c0
 rw[c0] at ho;have hst:=zhk t.sec.shards[0] hb;have hsn:=zla { t with loaded:=0 } 2
 by_cases c1:zbb t.sec.shards[0]=t.sec.shards[0].ready.cells.length
 ·rw[zabo c1];have ha:=zRi t.walk t.sec.shards[0].low t.sec.shards[0].high;have hv:=zRk (zfz t.walk t.sec.shards[0].low t.sec.shards[0].high).1;generalize zfz t.walk t.sec.shards[0].low t.sec.shards[0].high=wk at *;obtain⟨wk,we⟩:=wk;simp only at *;rw[c1] at hst
  by_cases c2:zgC wk=false
  ·rw[zabo c2];rw[c2] at hv;have hd:=zcr (t:={ t with loaded:=0,walk:=wk }) hs hun;generalize za5 { t with loaded:=0,walk:=wk } (z8 t.sec)=t2 at *;have sz_t2:=zQ t2;generalize zf t2=D_t2 at *;clear hun hs hl12 hb c0 c1 c2;simp only[zf,zA,zU,z8,zbW,zb9,zev,zaw,zbw,zabq,zC] at *;exact zW
  ·rw[zabn c2];replace c2:zgC wk=true:=by simpa using c2
   rw[c2] at hv;have hd:=zcr (t:={ t with loaded:=2,walk:=wk }) hs hun;generalize za5 { t with loaded:=2,walk:=wk } (z8 t.sec)=t2 at *;have sz_t2:=zQ t2;generalize zf t2=D_t2 at *;clear hun hs hl12 hb c0 c1 c2;simp only[zf,zA,zU,z8,zbW,zb9,zev,zaw,zbw,zabq,zabs,zC] at *;have zk0:=zbt.eq_1;exact zW
 ·rw[zabn c1];have hrt:=hK.rt t.id;have hin:=zLM (K.route t.id) t.sec.shards[0].low t.sec.shards[0].high;have hnm:=zZ0 t.id (zkj (K.route t.id) t.sec.shards[0].low t.sec.shards[0].high) t.sec.snap.epoch t.sec.snap.clock (t.inv.bodies.getD t.entry.toNat []);rw[zh (show t.entry.toNat<t.inv.bodies.length by omega)] at hnm ⊢;generalize K.route t.id=rt at *;generalize zkj rt t.sec.shards[0].low t.sec.shards[0].high=r2 at *;generalize zmU t.id r2 t.sec.snap.epoch t.sec.snap.clock (t.inv.bodies[t.entry.toNat]'(by omega))=m at *;obtain⟨m,me⟩:=m;simp only at *;have hpt:=zM1 t.sec.shards[0] m hb;have hl2:=zsk hl12 m;generalize zcB t.sec.shards[0] m=x at *;obtain⟨x,xe⟩:=x;simp only at *;have hd:=zcr (t:={ t with loaded:=1 }) hs (hs.one hk hl2);generalize za5 { t with loaded:=1 } { z8 t.sec with shards:=[x],order:=[0] }=t2 at *;have sz_t2:=zQ t2;generalize zf t2=D_t2 at *;clear hun hs hl12 hb c0 hl2;simp only[zf,zA,zU,z8,zb9,zev,zaw,zbw,zm,zabq,zabs,zC] at *;have zk0:=zbt.eq_1;exact zW
theorem zU2{i:zaeE}{u:Setup}(h:zbM i u=0):1<=zcX i/\zcX i<=6:=by
 unfold zcX;unfold zbM at h
 by_cases c:i.kind=1
 ·rw[zabo c] at h ⊢
  split at h
  ·cases h
  ·omega
 ·rw[zabn c] at h ⊢
  by_cases c2:i.kind=2\/i.kind=8
  ·rw[zabn zo];omega
  ·rw[zabn c2] at h
   by_cases c3:3<=i.kind/\i.kind<=5
   ·rw[zabo c3] at h ⊢
    split at h
    ·cases h
    ·omega
   ·rw[zabn c3];omega
theorem zij{u:Setup}{N:Int}{t:Task}(h:TI u N t)(hd:t.done=false):(0<=t.entry/\t.entry<=1000)/\t.results.length<=1000:=by
 have h1:=zU2 h.iv;have h2:=h.e0;have h3:=h.e1 hd;have h4:=h.e2;omega
theorem z8R(a:zy)(t:Task)(n:Int)(h:zan t 1 1≠0):zi G 112 [.d (zx a),.d (zf t),.d (.int .i64 n)] []=some (.d (.tup [zx zM,zf zE,.sl [],.int .i64 (zan t 1 1)]),[]):=by
 have hg:=zeP t 1 1;have hf:=zcY (zan t 1 1);generalize zan t 1 1=ge at *;have sz_zTask:=zQ zE;generalize zf zE=D_zTask at *;have sz_t:=zQ t;generalize zf t=D_t at *;have sz_zArena:=zby zM;generalize zx zM=D_zArena at *;exact zW
theorem z8T{K:Tok}(hK:zgF K){u:Setup}{a:zy}{t:Task}{n N:Int}(hu:za3 u=true)(ha:AI u a)(ht:TI u N t)(hN:N<=999999):zi G 112 [.d (zx a),.d (zf t),.d (.int .i64 n)] []=some (.d (.tup [zx (zdQ K a t n).1,zf (zdQ K a t n).2.1,.sl ((zdQ K a t n).2.2.1.map zaw),.int .i64 (zdQ K a t n).2.2.2]),[]):=by
 unfold zdQ
 by_cases c0:zan t 1 1=0
 rotate_left
 ·rw[zabo c0];exact z8R a t n c0
 rw[zabn (fun q=>q c0)];have hg:=zeP t 1 1;rw[c0] at hg;obtain⟨g1,g2⟩:=zeQ c0;have hen:=zij ht g1;have he1:=ht.e1 g1;clear g1;have hld:=ht.ld;have hwk:=ht.wk
 by_cases c1:t.pc=0
 ·rw[zabo c1];have hw:=zku a 3;simp only[zgn,if_true,Int.reduceEq,if_false] at hw
  by_cases c2:a.nextID=1073741824
  ·rw[zabo c2];have hv:=zrn { t with loaded:=a.nextID } 2 n;have hn1:=zeU { t with loaded:=a.nextID } (zaO 6) n hen.1 hen.2;generalize zba { t with loaded:=a.nextID } (zaO 6) n=t2 at *;have sz_t2:=zQ t2;generalize zf t2=D_t2 at *;replace c1:=zabA c1;replace c2:=zabA c2;clear ht ha hu;simp only[zf,zaO,z7,zac,evT,zbw,zabq,zabs,zaw] at *;exact zW
  ·rw[zabn c2];replace c1:=zabA c1;replace c2:=zabt c2;clear ht ha hu;simp only[zf] at *;exact zW
 rw[zabn c1]
 by_cases c2:t.pc=1
 ·rw[zabo c2];have hc:=zGD a 3 t.loaded (t.loaded+1);have hf:=zcY (casWord a 3 t.loaded (t.loaded+1)).2.2;have hrt:=hK.rt t.loaded;have hwb:=zRj (K.route t.loaded);generalize K.route t.loaded=rt at *;generalize zgB rt=wb at *;obtain⟨wb,we⟩:=wb;generalize casWord a 3 t.loaded (t.loaded+1)=c at *;obtain⟨x1,x2,x3⟩:=c;replace c2:=zabA c2;replace c1:=zabt c1;clear ht ha hu;simp only at *
  by_cases c4:x3=0
  ·subst c4;clear hf;simp only[ne_eq,zabD,if_false] at *
   cases x2
   ·simp only[zabz,if_false] at *;simp only[zf,zbW] at *;exact zW
   ·simp only[if_true] at *;simp only[zf,zbW] at *;exact zW
  ·rw[zabo c4];unfold zbv;have sz_zTask:=zQ zE;generalize zf zE=D_zTask at *;have sz_zArena:=zby zM;generalize zx zM=D_zArena at *;simp only[zf,zbW] at *;exact zW
 rw[zabn c2]
 by_cases c3:t.pc=2
 ·rw[zabo c3];have hlk:=zBb a t t.walk.next 3 (by have:=zfN ha.dv;omega);generalize zg4 a t t.walk.next 3=t2 at *;have sz_t2:=zQ t2;generalize zf t2=D_t2 at *;replace c3:=zabA c3;replace c2:=zabt c2;replace c1:=zabt c1;clear ht ha hu;simp only[zf] at *;exact zW
 rw[zabn c3];have k4:=ht.se ⟨c1,by omega⟩;have hgo:=zmr a t n (znv hu ha k4.si zo);have hgk:=zkh (n:=n) ha k4;simp only;generalize goT a t n=g at *;obtain⟨a2,t2,b1,b2,e⟩:=g;simp only at *
 by_cases c4:e=0
 rotate_left
 ·rw[zabo c4];have hf:=zcY e;unfold zbv;clear hgk ht ha hu k4;replace c3:=zabt c3;replace c2:=zabt c2;replace c1:=zabt c1;have sz_zTask:=zQ zE;generalize zf zE=D_zTask at *;have sz_zArena:=zby zM;generalize zx zM=D_zArena at *;have sz_t2:=zQ t2;generalize zf t2=D_t2 at *;have sz_a2:=zby a2;generalize zx a2=D_a2 at *;simp only[zf] at *;exact zW
 subst c4;simp only[ne_eq,zabD,if_false];obtain⟨h1,s,h2,h3,h4⟩:=hgk rfl;have hen2:t2.entry=t.entry/\t2.results=t.results/\t2.inv=t.inv/\t2.walk=t.walk/\t2.sec=s:=by rw[h2];exact⟨rfl,rfl,rfl,rfl,rfl⟩
 obtain⟨q1,q2,q3,q4,q5⟩:=hen2
 cases b1
 rotate_left
 ·simp only[if_true];have hp:s.phase=4:=h4.1 rfl;have hk:=(zgx h3 ht.iv (.inl hp)).1 zo;have hd:=z8O hK (t:=t2) (by rw[q5];exact h3.si) (by rw[q5];exact hk) (by rw[q4];exact ht.wk) (by
   rw[q1,q3];refine⟨ht.e0,?_⟩;unfold zcX at he1
   rwa [zabo zo] at he1)
  generalize zdm K t2=r at *;obtain⟨t3,l⟩:=r;clear ht ha hu k4 h1 h2 h3 h4 q1 q2 q3 q4 q5 hp hk he1;replace c3:=zabt c3;replace c2:=zabt c2;replace c1:=zabt c1;simp only at *;have sz_t2:=zQ t2;generalize zf t2=D_t2 at *;have sz_t3:=zQ t3;generalize zf t3=D_t3 at *;simp only[zf] at *;exact zW
 ·simp only[zabz,if_false]
  cases b2
  ·simp only[if_true];clear ht ha hu k4 h1 h2 h3 h4 q1 q2 q3 q4 q5;replace c3:=zabt c3;replace c2:=zabt c2;replace c1:=zabt c1;have sz_t2:=zQ t2;generalize zf t2=D_t2 at *;simp only[zf] at *;exact zW
  ·simp only[zacf,if_false];have hn1:=zeU t2 { zac with id:=t2.id } n (by rw[q1];exact hen.1) (by rw[q2];exact hen.2);have hn2:=zeU t2 (zaO 3) n (by rw[q1];exact hen.1) (by rw[q2];exact hen.2);clear ht ha hu k4 h1 h2 h3 h4 q1 q2 q3 q4 q5;replace c3:=zabt c3;replace c2:=zabt c2;replace c1:=zabt c1
   by_cases d1:t2.loaded=1
   ·rw[zabo d1];clear hn2;generalize zba t2 { zac with id:=t2.id } n=t3 at *;have sz_t3:=zQ t3;generalize zf t3=D_t3 at *;replace d1:=zabA d1;simp only[zf,z7,zac,zabq] at *;exact zW
   rw[zabn d1]
   by_cases d2:t2.loaded=2
   ·rw[zabo d2];clear hn1;generalize zba t2 (zaO 3) n=t3 at *;have sz_t3:=zQ t3;generalize zf t3=D_t3 at *;replace d1:=zabt d1;replace d2:=zabA d2;simp only[zf,z7,zaO,zac,zabq] at *;exact zW
   ·rw[zabn d2];clear hn1 hn2;replace d1:=zabt d1;replace d2:=zabt d2;simp only[zf] at *;exact zW
theorem zTQ(r:zah)(k:Int)(hL:r.cells.length<=4294967296):zi G 236 [.d (zai r),.d (.int .i64 k)] []=some (.d (.tup [zai (zeL r k).1,.sl ((zeL r k).2.1.map zm),.int .i64 (zeL r k).2.2]),[]):=by
 have hv:=zkS r hL;unfold zeL
 by_cases c0:zaE r=0
 ·rw[zabn (fun q=>q c0)];rw[c0] at hv;obtain⟨c,h,z,rfl,h1,h2,h3,h4⟩:=znr (zcC c0)
  by_cases c1:k<0\/(z:Int)<k
  ·rw[zabo c1];simp only[zai,zay,zabq] at *;exact zW
  ·rw[zabn c1];have ho:=zi7 c h z h2 h3 h4;have hz:(zaM c h z).length=z:=zi6 c h z;have hw:=ztV c h z h ((zaM c h z).take (z - k.toNat)) h1 h2 zo (by rw[zac9];omega);rw[zi5];rw[hz];simp only[rg,zab5];generalize zaM c h z=w at *;generalize hl:wN c.length h (w.take (z - k.toNat)) (w.take (z - k.toNat)).length=w2 at *;have hlen:(w.take (z - k.toNat)).length=z - k.toNat:=by rw[zac9];omega
   rw[hlen] at hw ⊢;have e2:((z - k.toNat:Nat):Int)=z - k:=by omega
   rw[e2] at hw ⊢;have e3:z - k.toNat=((z:Int) - k).toNat:=by omega
   rw[e3] at hw ⊢;clear c0 hl hlen e2 e3;simp only[zai] at *;rw[hz] at ho
   try simp only[zNr,srcO] at hw
   exact zW
 ·rw[zabo c0];generalize zaE r=v at *;simp only[zai,zay,zabq] at *;exact zW
theorem zTR(s:zt)(k:Int)(q:za4 s):zi G 197 [.d (zk s),.d (.int .i64 k)] []=some (.d (.tup [zk (zfM s k).1,.sl ((zfM s k).2.1.map zm),.int .i64 (zfM s k).2.2]),[]):=by
 have hl:=zeS s q.1 q.2.1 q.2.2;have hd:=zTQ s.ready k q.1;unfold zfM;generalize zab s=v at *;generalize zeL s.ready k=d at *;obtain⟨r,l,e⟩:=d
 by_cases c0:v=0
 ·subst c0;simp only[ne_eq,zabD,if_false]
  by_cases c1:e=0
  ·subst c1;simp only[zk,zai] at *;exact zW
  ·rw[zabo c1];simp only[zk,zai,zJ,zay,zal,zabq] at *;exact zW
 ·rw[zabo c0];clear hd;simp only[zk,zai,zJ,zay,zal,zabq] at *;exact zW
theorem zQo(m:zj)(lo hi:Int):zi G 194 [.d (zm m),.d (.int .i64 lo),.d (.int .i64 hi)] []=some (.d (zm (zb7 m lo hi)),[]):=by
 have h:=zLM m.route lo hi;unfold zb7;simp only[zm] at *;exact zW
theorem z7J(m:zj):zi G 193 [.d (zm m)] []=some (.d (zm (zbB m)),[]):=by
 unfold zbB;simp only[zm] at *;exact zW
def zit(l:List zj)(s:zt)(i:Nat):St:=⟨[(1,.d (.sl (l.map zm))),(2,.ref 2 0 0),(4,.ref 4 0 0),(7,.d (.int .i64 i))],[(2,.row [.d (zk s)]),(4,.row [shZ])]⟩
def zjF(x:zt×Int):zX×St:=if x.2=0 then (.exit 0,⟨[(2,.ref 2 0 0),(4,.ref 4 0 0)],[(2,.row [.d (zk x.1)]),(4,.row [shZ])]⟩) else (.ret,⟨[(4,.ref 4 0 0),(5,.d (.int .i64 x.2))],[(4,.row [shZ])]⟩)
theorem z5y{s:zt}{m:zj}(h:(zcB s m).2=0):(zcB s m).1.low=s.low/\(zcB s m).1.high=s.high:=by
 unfold zcB at h ⊢
 by_cases c1:zab s≠0
 ·rw[zabo c1] at h;exact absurd h c1
 rw[zabn c1] at h ⊢
 by_cases c2:zap m≠0
 ·rw[zabo c2] at h;exact absurd h c2
 rw[zabn c2] at h ⊢
 by_cases c3:¬(s.low<=m.route/\m.route<=s.high)
 ·rw[zabo c3] at h;cases h
 rw[zabn c3] at h ⊢
 by_cases c4:s.ready.size+s.leases.l.length=s.ready.cells.length
 ·rw[zabo c4] at h;cases h
 rw[zabn c4] at h ⊢
 split at h
 ·cases h
 ·rename_i c5;rw[zabn c5];exact⟨rfl,rfl⟩
theorem zRx(l:List zj)(hl:l.length<=1000)(lo hi:Int):∀p:zt×Nat,p.2<=l.length/\zaK p.1/\p.1.low=lo/\p.1.high=hi->z6 G [] zmI (zit l p.1 p.2)=some (zjF (zeG lo hi (l.drop p.2) p.1)):=by
 refine zaL (fun p=>l.length - p.2) (fun p:zt×Nat=>p.2<=l.length/\zaK p.1/\p.1.low=lo/\p.1.high=hi) (fun p=>zit l p.1 p.2) (fun p=>some (zjF (zeG lo hi (l.drop p.2) p.1))) fun⟨s,i⟩ ⟨hi1,hs,e1,e2⟩ L ih=> ?_;simp only at hi1 hs e1 e2
 by_cases h0:i<l.length
 ·simp only;rw[zabX h0,zeG];have hr:=zQo l[i] lo hi;have hp:=zM1 s (zb7 l[i] lo hi) (zfH hs)
  by_cases c:(zcB s (zb7 l[i] lo hi)).2=0
  ·rw[zabn (fun q=>q c)];have hsp:=z5y c;have i1:=ih ⟨(zcB s (zb7 l[i] lo hi)).1,i+1⟩ ⟨by simp only;omega,zsk hs _,by rw[hsp.1];exact e1,by rw[hsp.2];exact e2⟩ (by simp only;omega);clear ih hsp;simp only at i1;generalize zeG lo hi (l.drop (i+1)) (zcB s (zb7 l[i] lo hi)).1=R at *;generalize zcB s (zb7 l[i] lo hi)=p at *;generalize zb7 l[i] lo hi=m at *;obtain⟨s2,e⟩:=p;subst e1 e2;simp only[zit,zmI] at *;subst c;generalize zjF R=R2 at *;simp only[zk,shZ] at *;simp only[zNr,srcO] at i1;exact zS
  ·rw[zabo c];clear ih;generalize zcB s (zb7 l[i] lo hi)=p at *;generalize zb7 l[i] lo hi=m at *;obtain⟨s2,e⟩:=p;subst e1 e2;simp only[zit,zjF,zmI] at *;rw[zabn c];simp only[zk,shZ] at *;exact zS
 ·clear ih;obtain rfl:i=l.length:=by omega
  simp only[zab7,zeG,zjF,zit,zmI,if_true];simp only[zk,shZ] at *;exact zS
theorem zRy{lo hi:Int}:∀(l:List zj) (s:zt),(zeG lo hi l s).2≠0->(zeG lo hi l s).1=zJ:=by
 intro l
 induction l with
 | nil=>intro s h;exact absurd rfl h
 | cons m l ih=>
  intro s h;rw[zeG] at h ⊢
  split at h
  ·rename_i c;rw[zabo c]
  ·rename_i c;rw[zabn c];exact ih _ h
theorem znF{s:zt}(h:zY s=0):0<=zbb s/\zbb s<=24:=by
 have h1:=zbT h;unfold zbb;rw[zabo h];unfold zY at h
 split at h
 ·rename_i c;exact absurd h c
 ·rename_i c;obtain⟨a1,a2,a3,a4,a5,a6⟩:=zcC (zabG.1 c);have:=h1.1;have:=h1.2.1;omega
theorem zDq(s:zt)(l:List zj)(q:za4 s)(hl:l.length<=1000):zi G 195 [.d (zk s),.d (.sl (l.map zm))] []=some (.d (.tup [zk (zgc s l).1,.int .i64 (zgc s l).2]),[]):=by
 have hv:=zeS s q.1 q.2.1 q.2.2;have hst:=zhk s q;unfold zgc
 by_cases c0:zab s=0
 ·rw[zabn (fun z=>z c0)];have hb:=zgp c0;have h12:=zbT hb;have hb2:=znF hb;have hlp:=zRx l hl s.low s.high ⟨s,0⟩ ⟨by simp,h12,rfl,rfl⟩;have her:=zRy (lo:=s.low) (hi:=s.high) l s;rw[c0] at hv;clear c0;simp only[zabZ] at hlp;generalize zeG s.low s.high l s=R at *;generalize zbb s=sd at *;have h1:=h12.1;clear h12 hb;obtain⟨s2,e⟩:=R;unfold zjF at hlp;simp only at *
  by_cases c1:(s.ready.cells.length:Int) - sd<l.length
  ·rw[zabo c1];clear hlp;simp only[zk,zJ,zay,zal,zabq] at *;exact zW
  ·rw[zabn c1]
   by_cases c2:e=0
   ·subst c2;simp only[zit,shZ,if_true] at *;simp only[zk,zabQ] at *;exact zW
   ·rw[zabn c2] at hlp;have q1:=her c2;subst q1;clear her;simp only[zit,shZ] at *;simp only[zk,zabQ,zJ,zay,zal,zabq] at *;exact zW
 ·rw[zabo c0];clear hst;generalize zab s=v at *;simp only[zk,zJ,zay,zal,zabq] at *;exact zW
theorem zid{s:zt}(h:zY s=0):zaE s.ready=0:=by
 unfold zY at h
 split at h
 ·rename_i c;exact absurd h c
 ·rename_i c;exact zabG.1 c
def ziA(s:zt)(l:List zj)(k ep lim:Int)(r:zah)(out:List zj)(i:Nat):St:=⟨[(1,.d (.int .i64 k)),(2,.d (.int .i64 ep)),(3,.d (.int .i64 lim)),(4,.ref 4 0 0),(8,.ref 8 0 0),(12,.acc 12 (out.map zm)),(13,.d (.sl (l.map zm))),(14,.d (.int .i64 i))],[(4,.row [.d (zk { s with ready:=r })]),(8,.row [shZ]),(12,.acc out.length)]⟩
def ziz(s:zt)(x:zah×List zj):zX×St:=(.exit 0,⟨[(4,.ref 4 0 0),(8,.ref 8 0 0),(12,.acc 12 (x.2.map zm))],[(4,.row [.d (zk { s with ready:=x.1 })]),(8,.row [shZ]),(12,.acc x.2.length)]⟩)
theorem zSu(s:zt)(l:List zj)(k ep lim:Int)(hl:l.length<=12):∀p:zah×List zj×Nat,p.2.2<=l.length/\p.1.cells.length<=12/\p.2.1.length<=p.2.2->z6 G [] zkn (ziA s l k ep lim p.1 p.2.1 p.2.2)=some (ziz s (zd4 k ep lim (l.drop p.2.2) p.1 p.2.1)):=by
 refine zaL (fun p=>l.length - p.2.2) (fun p:zah×List zj×Nat=>p.2.2<=l.length/\p.1.cells.length<=12/\p.2.1.length<=p.2.2) (fun p=>ziA s l k ep lim p.1 p.2.1 p.2.2) (fun p=>some (ziz s (zd4 k ep lim (l.drop p.2.2) p.1 p.2.1))) fun⟨r,out,i⟩ ⟨hi1,hr,ho⟩ L ih=> ?_;simp only at hi1 hr ho
 by_cases h0:i<l.length
 ·simp only;rw[zabX h0,zd4]
  by_cases c0:¬(out.length:Int)<k
  ·rw[zabo c0];clear ih;simp only[ziA,ziz,zkn,zk,shZ] at *;exact zS
  ·rw[zabn c0];have hp:=zh7 l[i] ep;have hs:=ztH l[i] lim
   by_cases c1:lim<=l[i].count/\¬l[i].epoch<ep
   ·rw[zabo c1];rw[zabM c1.1] at hs;rw[zabP c1.2] at hp;have hm:=zBX r l[i].id zo;have hc:=ztw r l[i].id;have i1:=ih ⟨(rmD r l[i].id).1,out++[l[i]],i+1⟩ ⟨by simp only;omega,by simp only;omega,by simp only[zabv,zab3];omega⟩ (by simp only;omega);clear ih c1;simp only at i1;generalize zd4 k ep lim (l.drop (i+1)) (rmD r l[i].id).1 (out++[l[i]])=R at *;generalize ziz s R=R2 at *;generalize rmD r l[i].id=q at *;obtain⟨⟨qc,qh,qz⟩,qm,qe⟩:=q;obtain⟨rc,rh,rz⟩:=r;simp only[ziA,zkn,zk,zai,zm,shZ,zabF,zabs,zabq] at *;simp only[zNr,srcO] at i1;have zk0:=zm.eq_1;exact zS
   ·rw[zabn c1];have i1:=ih ⟨r,out,i+1⟩ ⟨by simp only;omega,hr,by simp only;omega⟩ (by simp only;omega);clear ih;simp only at i1;generalize zd4 k ep lim (l.drop (i+1)) r out=R at *;generalize ziz s R=R2 at *;simp only[ziA,zkn,zk,zm,shZ] at *;simp only[zNr,srcO] at i1
    by_cases c2:lim<=l[i].count
    ·rw[zabM c2] at hs;have c3:l[i].epoch<ep:=by omega
     rw[zabM c3] at hp;clear c1 c2 c3;have zk0:=zm.eq_1;exact zS
    ·rw[zabP c2] at hs;clear c1 c2;have zk0:=zm.eq_1;exact zS
 ·clear ih;obtain rfl:i=l.length:=by omega
  simp only[zab7,zd4,ziz,ziA,zkn];simp only[zk,shZ] at *;exact zS
theorem zSw(s:zt)(k ep lim:Int)(q:za4 s):zi G 213 [.d (zk s),.d (.int .i64 k),.d (.int .i64 ep),.d (.int .i64 lim)] []=some (.d (.tup [zk (zfI s k ep lim).1,.sl ((zfI s k ep lim).2.1.map zm),.int .i64 (zfI s k ep lim).2.2]),[]):=by
 have hv:=zeS s q.1 q.2.1 q.2.2;have h1:=zj1 ep;have h2:=zsl lim;unfold zfI
 by_cases c0:zab s=0
 ·rw[zabn (fun z=>z c0)];have hb:=zgp c0;have hr:=zid hb;have h12:=zha hb;have hrd:=zje hr;have hlp:=zSu s (zD s.ready) k ep lim h12 ⟨s.ready,[],0⟩ ⟨by simp,(zbT hb).1,by simp⟩;rw[c0] at hv;clear c0 hb hr h12;simp only[zabZ] at hlp;generalize zd4 k ep lim (zD s.ready) s.ready []=R at *;generalize zD s.ready=w at *;generalize epQ ep=b1 at *;generalize liQ lim=b2 at *;obtain⟨⟨rc,rh,rz⟩,out⟩:=R;simp only[ziA,ziz,zk,shZ,zJ,zay,zal,zabq,zabw,zabQ] at *
  cases b1
  ·clear hlp;simp only[zadq,if_true];exact zW
  cases b2
  ·clear hlp;simp only[zadq,or_true,if_true];exact zW
  ·by_cases c2:k<0
   ·clear hlp;simp only[c2,or_true,if_true];exact zW
   ·simp only[c2,zacf,or_self,if_false];exact zW
 ·rw[zabo c0];generalize zab s=v at *;simp only[zk,zJ,zay,zal,zabq] at *;exact zW
def zjS(s:zt)(l x:List zj)(ep n:Int)(r:zah)(i:Nat):St:=⟨[(1,.d (.int .i64 ep)),(2,.ref 2 0 0),(4,.ref 4 0 0),(8,.d (.int .i64 n)),(9,.d (.sl (l.map zm))),(10,.d (.sl (x.map zm))),(11,.d (.int .i64 i))],[(2,.row [.d (zk { s with ready:=r })]),(4,.row [shZ])]⟩
def cnP(ep:Int)(l:List zj):Nat:=(l.filter fun m=>decide (m.epoch<ep)).length
theorem zS5(ep:Int)(m:zj)(l:List zj):cnP ep (m::l)=(if m.epoch<ep then 1 else 0)+cnP ep l:=by
 unfold cnP;rw[zacL]
 by_cases c:m.epoch<ep
 ·rw[zabo (by simpa using c),zabo c,zabu];omega
 ·rw[zabn (by simpa using c),zabn c];omega
theorem zSV(s:zt)(l x:List zj)(ep:Int)(hl:l.length<=12):∀p:Int×zah×Nat,(p.2.2<=l.length/\p.2.1.cells.length<=12/\0<=p.1/\p.1<=p.2.2)->z6 G [] zmJ (zjS s l x ep p.1 p.2.1 p.2.2)=some (.exit 0,⟨[(1,.d (.int .i64 ep)),(2,.ref 2 0 0),(4,.ref 4 0 0),(8,.d (.int .i64 (p.1+cnP ep (l.drop p.2.2)))),(10,.d (.sl (x.map zm)))],[(2,.row [.d (zk { s with ready:=rmP ep (l.drop p.2.2) p.2.1 })]),(4,.row [shZ])]⟩):=by
 refine zaL (fun p=>l.length - p.2.2) (fun p:Int×zah×Nat=>(p.2.2<=l.length/\p.2.1.cells.length<=12/\0<=p.1/\p.1<=p.2.2)) (fun p=>zjS s l x ep p.1 p.2.1 p.2.2) (fun p=>_) fun⟨n,r,i⟩ ⟨hi1,hr,hn0,hn1⟩ L ih=> ?_;simp only at hi1 hr hn0 hn1
 by_cases h0:i<l.length
 ·have hp:=zh7 l[i] ep;simp only;rw[zabX h0,rmP,zS5]
  by_cases c:l[i].epoch<ep
  ·rw[zabo c,zabo c];rw[zabM c] at hp;have hm:=zBX r l[i].id zo;have hc:=ztw r l[i].id;have i1:=ih ⟨n+1,(rmD r l[i].id).1,i+1⟩ ⟨by simp only;omega,by simp only;omega,by simp only;omega,by simp only;omega⟩ (by simp only;omega);clear ih c;simp only at i1;rw[show n+((1+cnP ep (l.drop (i+1)):Nat):Int)=n+1+(cnP ep (l.drop (i+1)):Nat) by omega];generalize rmP ep (l.drop (i+1)) (rmD r l[i].id).1=R at *;generalize n+1+((cnP ep (l.drop (i+1)):Nat):Int)=N at *;generalize rmD r l[i].id=q at *;obtain⟨⟨qc,qh,qz⟩,qm,qe⟩:=q;obtain⟨rc,rh,rz⟩:=r;simp only[zjS,zmJ,zk,zai,zm,shZ] at *;simp only[zNr,srcO] at i1;have zk0:=zm.eq_1;exact zS
  ·rw[zabn c,zabn c];rw[zabP c] at hp;have i1:=ih ⟨n,r,i+1⟩ ⟨by simp only;omega,hr,hn0,by simp only;omega⟩ (by simp only;omega);clear ih c;simp only at i1;rw[zabU];generalize rmP ep (l.drop (i+1)) r=R at *;generalize n+((cnP ep (l.drop (i+1)):Nat):Int)=N at *;simp only[zjS,zmJ,zk,zm,shZ] at *;simp only[zNr,srcO] at i1;have zk0:=zm.eq_1;exact zS
 ·clear ih;obtain rfl:i=l.length:=by omega
  simp only[zab7,rmP,cnP,zac5,zabw,zabQ,Int.add_zero,zjS,zmJ,zk,shZ];exact zS
def zjU(s:zt)(x:List zG)(ep n:Int)(t:zN)(i:Nat):St:=⟨[(1,.d (.int .i64 ep)),(2,.ref 2 0 0),(4,.ref 4 0 0),(8,.d (.int .i64 n)),(10,.d (.sl ((x.map (·.msg)).map zm))),(12,.d (.int .i64 i))],[(2,.row [.d (zk { s with leases:=t })]),(4,.row [shZ])]⟩
def cnL(ep:Int)(l:List zG):Nat:=(l.filter fun y=>decide (y.msg.epoch<ep)).length
theorem zS4(ep:Int)(m:zG)(l:List zG):cnL ep (m::l)=(if m.msg.epoch<ep then 1 else 0)+cnL ep l:=by
 unfold cnL;rw[zacL]
 by_cases c:m.msg.epoch<ep
 ·rw[zabo (by simpa using c),zabo c,zabu];omega
 ·rw[zabn (by simpa using c),zabn c];omega
theorem zS1(s:zt)(x:List zG)(ep:Int)(hl:x.length<=12):∀p:Int×zN×Nat,(p.2.2<=x.length/\(p.2.1.l.length<=12/\p.2.1.heap.length<=12)/\0<=p.1/\p.1<=100+p.2.2)->z6 G [] zmK (zjU s x ep p.1 p.2.1 p.2.2)=some (.exit 2,⟨[(2,.ref 2 0 0),(4,.ref 4 0 0),(8,.d (.int .i64 (p.1+cnL ep (x.drop p.2.2))))],[(2,.row [.d (zk { s with leases:=zfn ep (x.drop p.2.2) p.2.1 })]),(4,.row [shZ])]⟩):=by
 refine zaL (fun p=>x.length - p.2.2) (fun p:Int×zN×Nat=>(p.2.2<=x.length/\(p.2.1.l.length<=12/\p.2.1.heap.length<=12)/\0<=p.1/\p.1<=100+p.2.2)) (fun p=>zjU s x ep p.1 p.2.1 p.2.2) (fun p=>_) fun⟨n,t,i⟩ ⟨hi1,ht,hn0,hn1⟩ L ih=> ?_;simp only at hi1 ht hn0 hn1
 by_cases h0:i<x.length
 ·have hp:=zh7 x[i].msg ep;have hg:(x.map (·.msg))[i]'(by simpa using h0)=x[i].msg:=by simp
  simp only;rw[zabX h0,zfn,zS4]
  by_cases c:x[i].msg.epoch<ep
  ·rw[zabo c,zabo c];rw[zabM c] at hp;have hm:=zs2 t x[i].msg.id zo zo;have hc:=zQl t x[i].msg.id;have i1:=ih ⟨n+1,(zaf t x[i].msg.id).1,i+1⟩ ⟨by simp only;omega,hc,by simp only;omega,by simp only;omega⟩ (by simp only;omega);clear ih c;simp only at i1;rw[show n+((1+cnL ep (x.drop (i+1)):Nat):Int)=n+1+(cnL ep (x.drop (i+1)):Nat) by omega];generalize zfn ep (x.drop (i+1)) (zaf t x[i].msg.id).1=R at *;generalize n+1+((cnL ep (x.drop (i+1)):Nat):Int)=N at *;generalize zaf t x[i].msg.id=q at *;obtain⟨⟨qc,qh⟩,qm,qe⟩:=q;obtain⟨tc,th⟩:=t;simp only[zjU,zmK,zk,zau,zm,shZ] at *;simp only[zNr,srcO] at i1;have zk0:=zm.eq_1;exact zS
  ·rw[zabn c,zabn c];rw[zabP c] at hp;have i1:=ih ⟨n,t,i+1⟩ ⟨by simp only;omega,ht,hn0,by simp only;omega⟩ (by simp only;omega);clear ih c;simp only at i1;rw[zabU];generalize zfn ep (x.drop (i+1)) t=R at *;generalize n+((cnL ep (x.drop (i+1)):Nat):Int)=N at *;simp only[zjU,zmK,zk,zm,shZ] at *;simp only[zNr,srcO] at i1;have zk0:=zm.eq_1;exact zS
 ·clear ih;obtain rfl:i=x.length:=by omega
  simp only[zab7,zfn,cnL,zac5,zabw,zabQ,Int.add_zero,zjU,zmK,zk,shZ];exact zS
theorem zSY(s:zt)(ep:Int)(q:za4 s):zi G 211 [.d (zk s),.d (.int .i64 ep)] []=some (.d (.tup [zk (zhw s ep).1,.int .i64 (zhw s ep).2.1,.int .i64 (zhw s ep).2.2]),[]):=by
 have hv:=zeS s q.1 q.2.1 q.2.2;have h1:=zj1 ep;unfold zhw
 by_cases c0:zab s=0
 ·rw[zabn (fun z=>z c0)];have hb:=zgp c0;have hr:=zid hb;have h12:=zha hb;have hle:=zbT hb;have hrd:=zje hr;have hld:=zsM (s:=s) hle.2.1;have hl1:=zSV s (zD s.ready) (s.leases.l.map (·.msg)) ep h12 ⟨0,s.ready,0⟩ ⟨by simp,hle.1,by simp,by simp⟩;have hcb:cnP ep (zD s.ready)<=12:=zaca (zacF _ _) h12;have hl2:=zS1 { s with ready:=rmP ep (zD s.ready) s.ready } s.leases.l ep hle.2.1 ⟨cnP ep (zD s.ready),s.leases,0⟩ ⟨by simp,hle.2,by simp,by simp only;omega⟩;rw[c0] at hv;clear c0 hb hr h12;have e1:((zD s.ready).filter fun m=>decide (m.epoch<ep)).length=cnP ep (zD s.ready):=rfl;have e2:(s.leases.l.filter fun y=>decide (y.msg.epoch<ep)).length=cnL ep s.leases.l:=rfl;rw[e1,e2];clear e1 e2;simp only[zabZ,Int.zero_add] at hl1 hl2;generalize cnP ep (zD s.ready)=n1 at *;generalize cnL ep s.leases.l=n2 at *;generalize rmP ep (zD s.ready) s.ready=R at *;generalize zfn ep s.leases.l s.leases=T at *;generalize zD s.ready=w at *;generalize epQ ep=b1 at *;obtain⟨rc,rh,rz⟩:=R;obtain⟨tl,th⟩:=T;simp only[zjS,zjU,zk,shZ,zJ,zay,zal,zabq,zabQ] at *
  cases b1
  ·clear hl1 hl2;simp only[if_true];exact zW
  ·simp only[zacf,if_false];exact zW
 ·rw[zabo c0];generalize zab s=v at *;simp only[zk,zJ,zay,zal,zabq] at *;exact zW
def zj5(s:zt)(l:List zj)(y:List zG)(r:zah)(i:Nat):St:=⟨[(1,.d (.sl (l.map zm))),(2,.d (.sl (y.map zaI))),(3,.ref 3 0 0),(6,.ref 6 0 0),(7,.d (.int .i64 i))],[(3,.row [.d (zk { s with ready:=r })]),(6,.row [shZ])]⟩
theorem zVO(s:zt)(l:List zj)(y:List zG)(hl:l.length<=1000):∀p:zah×Nat,(p.2<=l.length/\p.1.cells.length<=12)->z6 G [] zmL (zj5 s l y p.1 p.2)=some (.exit 0,⟨[(2,.d (.sl (y.map zaI))),(3,.ref 3 0 0),(6,.ref 6 0 0)],[(3,.row [.d (zk { s with ready:=zbA s.low s.high (l.drop p.2) p.1 })]),(6,.row [shZ])]⟩):=by
 refine zaL (fun p=>l.length - p.2) (fun p:zah×Nat=>(p.2<=l.length/\p.1.cells.length<=12)) (fun p=>zj5 s l y p.1 p.2) (fun p=>_) fun⟨r,i⟩ ⟨hi1,hr⟩ L ih=> ?_;simp only at hi1 hr
 by_cases h0:i<l.length
 ·simp only;rw[zabX h0,zbA]
  by_cases c:s.low<=l[i].route/\l[i].route<=s.high
  ·rw[zabo c];have hm:=zs1 r l[i] zo;have hc:=zBF r l[i];have i1:=ih ⟨(pbD r l[i]).1,i+1⟩ ⟨by simp only;omega,by simp only;omega⟩ (by simp only;omega);clear ih;simp only at i1;generalize zbA s.low s.high (l.drop (i+1)) (pbD r l[i]).1=R at *;generalize pbD r l[i]=q at *;obtain⟨⟨qc,qh,qz⟩,qe⟩:=q;obtain⟨rc,rh,rz⟩:=r;simp only[zj5,zmL,zk,zai,zm,shZ] at *;simp only[zNr,srcO] at i1;have zk0:=zm.eq_1;exact zS
  ·rw[zabn c];have i1:=ih ⟨r,i+1⟩ ⟨by simp only;omega,hr⟩ (by simp only;omega);clear ih;simp only at i1;generalize zbA s.low s.high (l.drop (i+1)) r=R at *;simp only[zj5,zmL,zk,zm,shZ] at *;simp only[zNr,srcO] at i1;have zk0:=zm.eq_1;exact zS
 ·clear ih;obtain rfl:i=l.length:=by omega
  simp only[zab7,zbA,zj5,zmL,zk,shZ];exact zS
def zj8(s:zt)(y:List zG)(t:zN)(i:Nat):St:=⟨[(2,.d (.sl (y.map zaI))),(3,.ref 3 0 0),(6,.ref 6 0 0),(8,.d (.int .i64 i))],[(3,.row [.d (zk { s with leases:=t })]),(6,.row [shZ])]⟩
theorem zWe(s:zt)(y:List zG)(hl:y.length<=1000):∀p:zN×Nat,(p.2<=y.length/\(p.1.l.length<=12/\p.1.heap.length<=12))->z6 G [] zmM (zj8 s y p.1 p.2)=some (.exit 2,⟨[(3,.ref 3 0 0),(6,.ref 6 0 0)],[(3,.row [.d (zk { s with leases:=zd7 s.low s.high (y.drop p.2) p.1 })]),(6,.row [shZ])]⟩):=by
 refine zaL (fun p=>y.length - p.2) (fun p:zN×Nat=>(p.2<=y.length/\(p.1.l.length<=12/\p.1.heap.length<=12))) (fun p=>zj8 s y p.1 p.2) (fun p=>_) fun⟨t,i⟩ ⟨hi1,ht⟩ L ih=> ?_;simp only at hi1 ht
 by_cases h0:i<y.length
 ·simp only;rw[zabX h0,zd7]
  by_cases c:s.low<=y[i].msg.route/\y[i].msg.route<=s.high
  ·rw[zabo c];have hm:=zNp t y[i].msg y[i].deadline zo zo;have hc:=zHy s.low s.high [y[i]] t ht;rw[zd7,zabo c,zd7] at hc;have i1:=ih ⟨(zaF t y[i].msg y[i].deadline).1,i+1⟩ ⟨by simp only;omega,hc⟩ (by simp only;omega);clear ih;simp only at i1;generalize zd7 s.low s.high (y.drop (i+1)) (zaF t y[i].msg y[i].deadline).1=R at *;generalize zaF t y[i].msg y[i].deadline=q at *;obtain⟨⟨qc,qh⟩,qe⟩:=q;obtain⟨tc,th⟩:=t;simp only[zj8,zmM,zk,zau,zm,shZ] at *;simp only[zNr,srcO] at i1;have zk0:=zaI.eq_1;exact zS
  ·rw[zabn c];have i1:=ih ⟨t,i+1⟩ ⟨by simp only;omega,ht⟩ (by simp only;omega);clear ih;simp only at i1;generalize zd7 s.low s.high (y.drop (i+1)) t=R at *;simp only[zj8,zmM,zk,zm,shZ] at *;simp only[zNr,srcO] at i1;have zk0:=zaI.eq_1;exact zS
 ·clear ih;obtain rfl:i=y.length:=by omega
  simp only[zab7,zd7,zj8,zmM,zk,shZ];exact zS
theorem zvp(s:zt)(l:List zj)(y:List zG)(hs:zaK s)(hl:l.length<=1000)(hy:y.length<=1000):zi G 239 [.d (zk s),.d (.sl (l.map zm)),.d (.sl (y.map zaI))] []=some (.d (zk (zgg s l y)),[]):=by
 have h1:=zVO s l y hl ⟨s.ready,0⟩ ⟨by simp,hs.1⟩;have h2:=zWe { s with ready:=zbA s.low s.high l s.ready } y hy ⟨s.leases,0⟩ ⟨by simp,hs.2⟩;unfold zgg;simp only[zabZ] at h1 h2;generalize zbA s.low s.high l s.ready=R at *;generalize zd7 s.low s.high y s.leases=T at *;simp only[zj5,zj8,zk,shZ,zabQ] at *;exact zW
theorem zMw(n:Int):zi G 108 [.d (.int .i64 n)] []=some (.d (.tup [zai (if n<1\/12<n then zay else ⟨List.replicate n.toNat zaa,0,0⟩),.int .i64 (if n<1\/12<n then 1 else 0)]),[]):=by
 by_cases c:n<1\/12<n
 ·rw[zabo c,zabo c];simp only[zai,zay,zabq];exact zW
 ·rw[zabn c,zabn c];have h:=zZY n.toNat zo zo;rw[zaeo zo] at h;exact h
theorem zBq(n lo hi:Int):zi G 82 [.d (.int .i64 n),.d (.int .i64 lo),.d (.int .i64 hi)] []=some (.d (.tup [zk (zb5 n lo hi).1,.int .i64 (zb5 n lo hi).2]),[]):=by
 have h1:=zMw n;have h2:=zQH lo hi;unfold zb5
 by_cases c:n<1\/12<n
 ·rw[zabo c] at h1 ⊢;rw[zabo c] at h1;simp only[zk,zai,zJ,zay,zal,zabq] at *;exact zW
 ·rw[zabn c] at h1 ⊢;rw[zabn c] at h1;generalize List.replicate n.toNat zaa=w at *
  by_cases c2:0<=lo/\lo<=hi/\hi<65536
  ·rw[zabn (fun q=>q c2)];rw[zabM c2] at h2;simp only[zk,zai,zJ,zay,zal,zabq] at *;exact zW
  ·rw[zabo c2];rw[zabP c2] at h2;simp only[zk,zai,zJ,zay,zal,zabq] at *;exact zW
theorem zHN(n:Int):zi G 81 [.d (.int .i64 n)] []=some (.d (.tup [zk (zfX n).1,.int .i64 (zfX n).2]),[]):=by
 have h1:=zMw n;unfold zfX
 by_cases c:n<1\/12<n
 ·rw[zabo c] at h1 ⊢;rw[zabo c] at h1;simp only[zk,zai,zJ,zay,zal,zabq] at *;exact zW
 ·rw[zabn c] at h1 ⊢;rw[zabn c] at h1;generalize List.replicate n.toNat zaa=w at *;simp only[zk,zai,zJ,zay,zal,zabq] at *;exact zW
theorem zY7{s:zt}(h:zab s=0):0<=s.low/\s.low<=s.high/\s.high<65536:=by
 have hv:=zgp h;have hl:s.live=true:=by
  unfold zab at h;rw[zabn (fun q=>q hv)] at h
  split at h
  ·assumption
  ·cases h
 obtain⟨n,h',e,v⟩:=zfy hv hl;exact⟨v.2.2.2.2.1,v.2.2.2.2.2.1,v.2.2.2.2.2.2.1⟩
theorem zT1(s:zt)(mid:Int)(q:za4 s):zi G 202 [.d (zk s),.d (.int .i64 mid)] []=some (.d (.tup [zk (zdA s mid).1,zk (zdA s mid).2.1,.int .i64 (zdA s mid).2.2]),[]):=by
 have hv:=zeS s q.1 q.2.1 q.2.2;unfold zdA
 by_cases c0:zab s=0
 ·rw[zabn (fun z=>z c0)];have hb:=zgp c0;have hr:=zid hb;have h12:=zha hb;have hle:=zbT hb;have hrd:=zje hr;have hn1:=zBq s.ready.cells.length s.low mid;have hn2:=zBq s.ready.cells.length (mid+1) s.high;have hf1:=zvp (zb5 s.ready.cells.length s.low mid).1 (zD s.ready) s.leases.l (zsj _ _ _) zo (by have:=hle.2.1;omega);have hf2:=zvp (zb5 s.ready.cells.length (mid+1) s.high).1 (zD s.ready) s.leases.l (zsj _ _ _) zo (by have:=hle.2.1;omega);have hhi:=zY7 c0;rw[c0] at hv;clear c0 hb hr h12;generalize zgg (zb5 s.ready.cells.length s.low mid).1 (zD s.ready) s.leases.l=F1 at *;generalize zgg (zb5 s.ready.cells.length (mid+1) s.high).1 (zD s.ready) s.leases.l=F2 at *;generalize zb5 s.ready.cells.length s.low mid=N1 at *;generalize zb5 s.ready.cells.length (mid+1) s.high=N2 at *;generalize zD s.ready=w at *;obtain⟨N1,e1⟩:=N1;obtain⟨N2,e2⟩:=N2;simp only at *
  by_cases c1:mid<s.low\/s.high<=mid
  ·rw[zabo c1];clear hf1 hf2 hn1 hn2;simp only[zk,zJ,zay,zal,zabq] at *;exact zW
  ·rw[zabn c1];have sz_F1:=zbm F1;generalize zk F1=D_F1 at *;have sz_F2:=zbm F2;generalize zk F2=D_F2 at *;have sz_N1:=zbm N1;generalize zk N1=D_N1 at *;have sz_N2:=zbm N2;generalize zk N2=D_N2 at *;simp only[zk] at *;exact zW
 ·rw[zabo c0];generalize zab s=v at *;simp only[zk,zJ,zay,zal,zabq] at *;exact zW
theorem zaaE(a b:zt)(l x:List zj)(hl:l.length<=24)(hx:x.length<=24):z6 G [] zsx ⟨[(2,.ref 2 0 0),(3,.ref 3 0 0),(4,.ref 4 0 0),(8,.d (.sl (l.map zm))),(9,.d (.sl (x.map zm))),(10,.d (.int .i64 (0:Nat)))],[(2,.row [.d (zk a)]),(3,.row [.d (zk b)]),(4,.row [shZ])]⟩=some (if (List.range x.length).all (fun k=> !decide (0<=zaD l (x.getD k zaa).id))=true then (.exit 0,⟨[(2,.ref 2 0 0),(3,.ref 3 0 0),(4,.ref 4 0 0)],[(2,.row [.d (zk a)]),(3,.row [.d (zk b)]),(4,.row [shZ])]⟩) else (.ret,⟨[(4,.ref 4 0 0),(5,.d (.int .i64 10))],[(4,.row [shZ])]⟩)):=by
 refine zg5 (G:=G) x.length (fun k=> !decide (0<=zaD l (x.getD k zaa).id)) (fun k=>⟨[(2,.ref 2 0 0),(3,.ref 3 0 0),(4,.ref 4 0 0),(8,.d (.sl (l.map zm))),(9,.d (.sl (x.map zm))),(10,.d (.int .i64 k))],[(2,.row [.d (zk a)]),(3,.row [.d (zk b)]),(4,.row [shZ])]⟩) _ _ fun k hk L=> ?_
 by_cases h0:k<x.length
 ·rw[zabo h0,zh h0];have hi:=ziQ l x[k].id zo;generalize zaD l x[k].id=q at *;simp only[zsx,zk,shZ] at *
  by_cases c:0<=q
  ·rw[zabM c];have zk0:=zm.eq_1;exact zS
  ·rw[zabP c];have zk0:=zm.eq_1;exact zS
 ·rw[zabn h0];simp only[zsx,zk,shZ] at *;exact zS
theorem zaaJ(l x:List zj):(x.any fun m=>decide (0<=zaD l m.id))= !((List.range x.length).all (fun k=> !decide (0<=zaD l (x.getD k zaa).id))):=by
 apply zacD.2;simp only[zacm,decide_eq_true_eq,zace,List.all_eq_false,zack,zac3,zaen];constructor
 ·rintro⟨m,hm,h⟩;obtain⟨i,hi,rfl⟩:=zadu.1 hm;exact⟨i,hi,by rw[zh hi];simpa using h⟩
 ·rintro⟨i,hi,h⟩;rw[zh hi] at h;exact⟨_,zabC hi,by simpa using h⟩
theorem znE{s:zt}(h:zY s=0):0<=s.low/\s.high<65536/\s.low<=65536/\0<=s.high:=by
 cases hl:s.live with
 | true=>
  obtain⟨n,h',e,v⟩:=zfy h hl;have:=v.2.2.2.2.1;have:=v.2.2.2.2.2.1;have:=v.2.2.2.2.2.2.1
  omega
 | false=>
  have hr:=zid h;have ht:zao s.leases=0:=by
   unfold zY at h;rw[zabn (fun q=>q hr)] at h
   split at h
   ·rename_i c;exact absurd h c
   ·rename_i c;exact zabG.1 c
  rw[znA hr ht,zabo hl] at h
  split at h
  ·cases h
  ·rename_i c;omega
theorem zaaK(a b:zt)(qa:za4 a)(qb:za4 b):zi G 207 [.d (zk a),.d (zk b)] []=some (.d (.tup [zk (zil a b).1,.int .i64 (zil a b).2]),[]):=by
 have ha:=znc a qa.1 qa.2.1 qa.2.2;have hb:=znc b qb.1 qb.2.1 qb.2.2;have sa:=zhk a qa;have sb:=zhk b qb;unfold zil
 by_cases c0:zY a=0
 ·rw[zabn (fun z=>z c0)]
  by_cases c1:zY b=0
  ·rw[zabn (fun z=>z c1)];have ra:=zid c0;have rb:=zid c1;have la:=zbT c0;have lb:=zbT c1;have ma:=zjH ra la.2.1;have mb:=zjH rb lb.2.1;have rdb:=zje rb;have na:=zBo c0;have nb:=zBo c1;have ob:=zha c1;have hlp:=zaaE a b (zaP a) (zaP b) na nb;have hba:=znF c0;have hbb:=znF c1;rw[zaaJ];rw[show (if a.low<b.low then a.low else b.low)=(if b.low<a.low then b.low else a.low) by split<;>split<;>omega];have hf:=zvp { a with low:=if b.low<a.low then b.low else a.low,high:=if a.high<b.high then b.high else a.high } (zD b.ready) b.leases.l la zo (by have:=lb.2.1;omega);rw[c0] at ha;rw[c1] at hb
   by_cases c2:a.live=false\/b.live=false\/a.high+1≠b.low/\b.high+1≠a.low
   ·rw[zabo c2];clear hf hlp ma mb rdb;have hspa:=znE c0;have hspb:=znE c1;clear c0 c1 ra rb qa qb na nb ob la lb;generalize zbb a=na at *;generalize zbb b=nb at *;obtain⟨al,alo,ahi,⟨ac,ah,az⟩,⟨atl,ath⟩⟩:=a;obtain⟨bl,blo,bhi,⟨bc,bh,bz⟩,⟨btl,bth⟩⟩:=b;simp only[zk,zJ,zay,zal,zabq] at *
    cases al
    ·clear c2;exact zW
    cases bl
    ·clear c2;exact zW
    ·have c3:ahi+1≠blo/\bhi+1≠alo:=by simpa using c2
     clear c2;obtain⟨c2,c3⟩:=c3;exact zW
   ·rw[zabn c2];have l1:a.live=true:=by cases h:a.live;exact absurd (.inl h) c2;rfl
    have l2:b.live=true:=by cases h:b.live;exact absurd (.inr (.inl h)) c2;rfl
    have l3:a.high+1=b.low\/b.high+1=a.low:=by omega
    have hspa:=znE c0;have hspb:=znE c1;clear c2 c0 c1 ra rb qa qb na nb ob;generalize (List.range (zaP b).length).all (fun k=> !decide (0<=zaD (zaP a) ((zaP b).getD k zaa).id))=bl at *;generalize zaP a=xa at *;generalize zaP b=xb at *;generalize zD b.ready=w at *;generalize zbb a=na at *;generalize zbb b=nb at *;have hca:=la.1;clear la lb;obtain⟨al,alo,ahi,⟨ac,ah,az⟩,⟨atl,ath⟩⟩:=a;obtain⟨bv,blo,bhi,⟨bc,bh,bz⟩,⟨btl,bth⟩⟩:=b;simp only at *;subst l1 l2
    by_cases c3:(ac.length:Int)<na+nb
    ·rw[zabo c3];clear hf hlp;simp only[zk,zJ,zay,zal,zabq] at *
     rcases l3 with l3|l3
     ·replace l3:=zabA l3;exact zW
     ·by_cases l4:ahi+1=blo
      ·replace l4:=zabA l4;exact zW
      ·replace l3:=zabA l3;replace l4:=zabt l4;exact zW
    ·rw[zabn c3]
     cases bl
     ·clear hf;simp only[zad4,if_true,zabz,if_false] at hlp ⊢;simp only[zk,shZ,zJ,zay,zal,zabq,zabQ] at *
      by_cases l4:ahi+1=blo
      ·replace l4:=zabA l4;clear l3;exact zW
      ·have l5:bhi+1=alo:=by omega
       replace l5:=zabA l5;replace l4:=zabt l4;clear l3;exact zW
     ·simp only[zad3,if_true,zabz,if_false] at hlp ⊢;generalize zgg ⟨true,if blo<alo then blo else alo,if ahi<bhi then bhi else ahi,⟨ac,ah,az⟩,⟨atl,ath⟩⟩ w btl=F at *;have sz_F:=zbm F;generalize zk F=D_F at *;simp only[zk,shZ,zabQ] at *
      by_cases l4:ahi+1=blo
      ·replace l4:=zabA l4;clear l3;exact zW
      ·have l5:bhi+1=alo:=by omega
       replace l5:=zabA l5;replace l4:=zabt l4;clear l3;exact zW
  ·rw[zabo c1];rw[c0] at ha;generalize zY b=v at *;simp only[zk,zJ,zay,zal,zabq] at *;exact zW
 ·rw[zabo c0];generalize zY a=v at *;simp only[zk,zJ,zay,zal,zabq] at *;exact zW
theorem zMM(t:Task):zi G 199 [.d (zf t)] []=some (.d (.sl (zC (zcL t))),[]):=by
 unfold zcL;simp only[zf]
 by_cases c:t.inv.from_<t.inv.to
 ·rw[zabo c];have zk0:=zC.eq_1;exact zW
 ·rw[zabn c];have zk0:=zC.eq_1;exact zW
theorem z9c(t:Task)(hk:t.sec.shards.length=2):zi G 196 [.d (zf t)] []=some (.d (.tup [zk (zV t),zk (zaN t)]),[]):=by
 have ho:=zMM t;unfold zV zaN;unfold zcL at ho;rw[zh (show 0<t.sec.shards.length by omega),zh (show 1<t.sec.shards.length by omega)]
 by_cases c:t.inv.from_<t.inv.to
 ·rw[zabo c] at ho;rw[zabo c,zabo c];clear c;simp only[zf,zC,zabs,zabq] at *;have zk0:=zk.eq_1;exact zW
 ·rw[zabn c] at ho;rw[zabn c,zabn c];clear c;simp only[zf,zC,zabs,zabq] at *;have zk0:=zk.eq_1;exact zW
theorem z44(t:Task)(x y:zt):zi G 198 [.d (zf t),.d (zk x),.d (zk y)] []=some (.d (.sl ((zdM t x y).map zk)),[]):=by
 unfold zdM
 by_cases c:t.inv.from_<t.inv.to
 ·rw[zabo c];simp only[zf,zabs,zabq];have sz_x:=zbm x;generalize zk x=D_x at *;have sz_y:=zbm y;generalize zk y=D_y at *;exact zW
 ·rw[zabn c];simp only[zf,zabs,zabq];have sz_x:=zbm x;generalize zk x=D_x at *;have sz_y:=zbm y;generalize zk y=D_y at *;exact zW
theorem zry{u:Setup}{N:Int}{t:Task}(hs:SI u N t.sec):za4 (zV t):=zfH (zHR hs)
theorem zC8{u:Setup}{N:Int}{t:Task}(hs:SI u N t.sec):za4 (zaN t):=zfH (zC9 hs)
theorem zqE{u:Setup}{N:Int}{s:Section}(hs:SI u N s){i:Nat}(h:i<s.shards.length):zY (s.shards.getD i zJ)=0:=by
 rw[zh h];exact (hs.sv _ (zabC h)).1
theorem zy6{u:Setup}{N:Int}{t:Task}(hs:SI u N t.sec)(hk:t.sec.shards.length=2):zY (zV t)=0/\zY (zaN t)=0:=by
 unfold zV zaN
 split
 ·exact⟨zqE hs zo,zqE hs zo⟩
 ·exact⟨zqE hs zo,zqE hs zo⟩
theorem z9g{s:zt}(h:zY s=0):0<=s.ready.size/\s.ready.size<=12:=by
 obtain⟨a1,a2,a3,a4,a5,a6⟩:=zcC (zid h);omega
theorem z47{u:Setup}{N:Int}{t:Task}(hs:SI u N t.sec)(hk:t.sec.shards.length=2):zi G 161 [.d (zf t)] []=some (.d (.tup [zU (zey t).1,z7 (zey t).2.1,.sl ((zey t).2.2.map zaw)]),[]):=by
 have hu:=zhn t.sec;have hsh:=z9c t hk;have ho:=zMM t;obtain⟨v1,v2⟩:=zy6 hs hk;have hst:=zhk (zaN t) (zC8 hs);have b1:=z9g v1;have b2:=znF v2;have b3:=(zbT v2).1;unfold zey;simp only
 by_cases c0:(zV t).live=false\/(zaN t).live=false
 ·rw[zabo c0];clear hs ho hst v1 v2 b1 b2 b3;generalize zV t=v at *;generalize zaN t=w at *;obtain⟨l1,vlo,vhi,⟨vc,vh,vz⟩,⟨vtl,vth⟩⟩:=v;obtain⟨l2,wlo,whi,⟨wc,wh,wz⟩,⟨wtl,wth⟩⟩:=w;simp only[zf,zA,zU,z8,zk,zaO,z7,zac,zabq] at *
  cases l1
  ·exact zW
  cases l2
  ·exact zW
  ·simp at c0
 rw[zabn c0];have l1:(zV t).live=true:=by
  cases h:(zV t).live
  ·exact absurd (.inl h) c0
  ·rfl
 have l2:(zaN t).live=true:=by
  cases h:(zaN t).live
  ·exact absurd (.inr h) c0
  ·rfl
 clear c0;have e1:(((zV t).ready.size+1).tdiv 2)=((zV t).ready.size+1) / 2:=zac2 zo;have hdt:=zTR (zV t) (zhY (((zV t).ready.size+1).tdiv 2) ((zaN t).ready.cells.length - zbb (zaN t))) (zry hs);have hdl:=zGP (zV t) (zhY (((zV t).ready.size+1).tdiv 2) ((zaN t).ready.cells.length - zbb (zaN t)));generalize hk2:zhY (((zV t).ready.size+1).tdiv 2) ((zaN t).ready.cells.length - zbb (zaN t))=k at *;have hk3:(if ((zaN t).ready.cells.length:Int) - zbb (zaN t)<((zV t).ready.size+1) / 2 then ((zaN t).ready.cells.length:Int) - zbb (zaN t) else ((zV t).ready.size+1) / 2)=k:=by
  unfold zhY at hk2;rw[<- hk2,e1]
  split<;>split<;>omega
 clear hk2
 by_cases c1:k=0
 ·rw[zabo c1];subst c1;clear hs ho v1 v2 hdt hdl;generalize zV t=v at *;generalize zaN t=w at *;generalize zbb w=sd at *;obtain⟨l1',vlo,vhi,⟨vc,vh,vz⟩,⟨vtl,vth⟩⟩:=v;obtain⟨l2',wlo,whi,⟨wc,wh,wz⟩,⟨wtl,wth⟩⟩:=w;simp only at *;subst l1 l2;simp only[zf,zA,zU,z8,zk,zaO,z7,zac,zabq] at *;exact zW
 ·rw[zabn c1];have hab:=zDq (zaN t) (zfM (zV t) k).2.1 (zC8 hs) zo;generalize zfM (zV t) k=d at *;obtain⟨d1,d2,d3⟩:=d;simp only at *;generalize zgc (zaN t) d2=y at *;obtain⟨y1,y2⟩:=y;have hpl:=z44 t d1 y1;clear hs v1 v2 hdl;generalize zdM t d1 y1=pl at *;generalize zcL t=od at *;generalize zV t=v at *;generalize zaN t=w at *;generalize zbb w=sd at *;have sz_d1:=zbm d1;generalize zk d1=D_d1 at *;have sz_y1:=zbm y1;generalize zk y1=D_y1 at *;obtain⟨l1',vlo,vhi,⟨vc,vh,vz⟩,⟨vtl,vth⟩⟩:=v;obtain⟨l2',wlo,whi,⟨wc,wh,wz⟩,⟨wtl,wth⟩⟩:=w;simp only at *;subst l1 l2;simp only[zf,zA,zU,z8,zk,zaO,z7,zac,zabq] at *;exact zW
theorem zMN(t:Task):zi G 204 [.d (zf t)] []=some (.d (.sl (zC (zcL t))),[]):=by
 unfold zcL;simp only[zf]
 by_cases c:t.inv.from_<t.inv.to
 ·rw[zabo c];have zk0:=zC.eq_1;exact zW
 ·rw[zabn c];have zk0:=zC.eq_1;exact zW
theorem z9d(t:Task)(hk:t.sec.shards.length=2):zi G 201 [.d (zf t)] []=some (.d (.tup [zk (zV t),zk (zaN t)]),[]):=by
 have ho:=zMN t;unfold zV zaN;unfold zcL at ho;rw[zh (show 0<t.sec.shards.length by omega),zh (show 1<t.sec.shards.length by omega)]
 by_cases c:t.inv.from_<t.inv.to
 ·rw[zabo c] at ho;rw[zabo c,zabo c];clear c;simp only[zf,zC,zabs,zabq] at *;have zk0:=zk.eq_1;exact zW
 ·rw[zabn c] at ho;rw[zabn c,zabn c];clear c;simp only[zf,zC,zabs,zabq] at *;have zk0:=zk.eq_1;exact zW
theorem z45(t:Task)(x y:zt):zi G 203 [.d (zf t),.d (zk x),.d (zk y)] []=some (.d (.sl ((zdM t x y).map zk)),[]):=by
 unfold zdM
 by_cases c:t.inv.from_<t.inv.to
 ·rw[zabo c];simp only[zf,zabs,zabq];have sz_x:=zbm x;generalize zk x=D_x at *;have sz_y:=zbm y;generalize zk y=D_y at *;exact zW
 ·rw[zabn c];simp only[zf,zabs,zabq];have sz_x:=zbm x;generalize zk x=D_x at *;have sz_y:=zbm y;generalize zk y=D_y at *;exact zW
theorem zMO(t:Task):zi G 209 [.d (zf t)] []=some (.d (.sl (zC (zcL t))),[]):=by
 unfold zcL;simp only[zf]
 by_cases c:t.inv.from_<t.inv.to
 ·rw[zabo c];have zk0:=zC.eq_1;exact zW
 ·rw[zabn c];have zk0:=zC.eq_1;exact zW
theorem z9e(t:Task)(hk:t.sec.shards.length=2):zi G 206 [.d (zf t)] []=some (.d (.tup [zk (zV t),zk (zaN t)]),[]):=by
 have ho:=zMO t;unfold zV zaN;unfold zcL at ho;rw[zh (show 0<t.sec.shards.length by omega),zh (show 1<t.sec.shards.length by omega)]
 by_cases c:t.inv.from_<t.inv.to
 ·rw[zabo c] at ho;rw[zabo c,zabo c];clear c;simp only[zf,zC,zabs,zabq] at *;have zk0:=zk.eq_1;exact zW
 ·rw[zabn c] at ho;rw[zabn c,zabn c];clear c;simp only[zf,zC,zabs,zabq] at *;have zk0:=zk.eq_1;exact zW
theorem z46(t:Task)(x y:zt):zi G 208 [.d (zf t),.d (zk x),.d (zk y)] []=some (.d (.sl ((zdM t x y).map zk)),[]):=by
 unfold zdM
 by_cases c:t.inv.from_<t.inv.to
 ·rw[zabo c];simp only[zf,zabs,zabq];have sz_x:=zbm x;generalize zk x=D_x at *;have sz_y:=zbm y;generalize zk y=D_y at *;exact zW
 ·rw[zabn c];simp only[zf,zabs,zabq];have sz_x:=zbm x;generalize zk x=D_x at *;have sz_y:=zbm y;generalize zk y=D_y at *;exact zW
def zji(r:zah):Prop:=zaE r=0\/r=zay
theorem z4Q{r:zah}(h:zji r)(m:zj):zji (pbD r m).1:=by
 unfold pbD
 split
 ·rename_i c;obtain⟨q1,q2,q3,q4⟩:=zna c;obtain⟨n,h',e,a1,a2,a3,a4,a5,a6⟩:=znq q1;left;have hc:r.cells.length=n:=by rw[e];exact zic _ _ _
  have hh:r.head.toNat=h':=by rw[e];rfl
  have hz:r.size=((zD r).length:Int):=congrArg zah.size e;rw[hc,hh];refine zCI a1 a2 a3 (by rw[zabv,zab3];omega) (fun x hx=> ?_) ?_
  ·rcases zabS.1 hx with hx|hx
   ·exact a5 x hx
   ·rw[zab1.1 hx];exact q2
  ·rw[zabF,zac6];refine⟨a6,by simp,fun a ha b hb=> ?_⟩;simp only[zabs,zabq,zab1] at hb;subst hb;intro e2;subst e2;obtain⟨x,hx,ex⟩:=zaby.1 ha;have:=zy5 ⟨x,hx,ex⟩;omega
 ·exact .inr rfl
theorem zVS(lo hi:Int):∀(l:List zj) (r:zah),zji r->zji (zbA lo hi l r):=by
 intro l
 induction l with
 | nil=>intro r h;exact h
 | cons m l ih=>
  intro r h;rw[zbA]
  split
  ·exact ih _ (z4Q h m)
  ·exact ih _ h
theorem zY5:zi G 272 [.d (zai zay)] []=some (.d (.sl []),[]):=by
 have hv:=zkS zay (by simp [zay]);have e:zaE zay=1:=by decide+kernel
 rw[e] at hv;clear e;simp only[zai,zay,zabq] at *;exact zW
theorem zRK{s:zt}(h:zji s.ready)(hl:s.leases.l.length<=12):zi G 205 [.d (zk s)] []=some (.d (.sl ((zaP s).map zm)),[]):=by
 rcases h with h|h
 ·exact zjH h hl
 ·have h1:=zY5;have hr:zi G 240 [.d (zk s)] []=some (.d (.sl []),[]):=by
   rw[<- h] at h1;clear h;simp only[zai,zk] at *;exact zW
  have hld:=zsM (s:=s) hl;have e:zaP s=s.leases.l.map (·.msg):=by
   unfold zaP;rw[h];have:zD zay=[]:=by decide+kernel
   rw[this];rfl
  rw[e];have hlw:(s.leases.l.map (·.msg)).length<=12:=by simpa using hl
  generalize s.leases.l.map (·.msg)=w at *;clear e h h1 hl;simp only[zk] at *;exact zW
theorem zT0{s:zt}(hv:zY s=0)(mid:Int):zji (zdA s mid).2.1.ready/\(zdA s mid).2.1.leases.l.length<=12:=by
 have h12:=(zsi s mid).2;refine⟨?_,h12.2.1⟩;unfold zdA
 split
 ·exact .inr rfl
 split
 ·exact .inr rfl
 ·show zji (zbA _ _ _ (zb5 _ _ _).1.ready);apply zVS;unfold zb5
  split
  ·exact .inr rfl
  split
  ·exact .inr rfl
  ·rename_i c _;exact .inl (zCJ zo zo)
theorem z48{u:Setup}{N:Int}{t:Task}(hs:SI u N t.sec)(hk:t.sec.shards.length=2):zi G 163 [.d (zf t)] []=some (.d (.tup [zU (zew t).1,z7 (zew t).2.1,.sl ((zew t).2.2.map zaw)]),[]):=by
 have hu:=zhn t.sec;have hsh:=z9d t hk;have ho:=zMN t;obtain⟨v1,v2⟩:=zy6 hs hk;have hsp:=znE v1;unfold zew;simp only
 by_cases c0:(zV t).live=false\/(zaN t).live=true\/(zV t).high<=(zV t).low
 ·rw[zabo c0];clear hs ho v1 v2;generalize zV t=v at *;generalize zaN t=w at *;obtain⟨l1,vlo,vhi,⟨vc,vh,vz⟩,⟨vtl,vth⟩⟩:=v;obtain⟨l2,wlo,whi,⟨wc,wh,wz⟩,⟨wtl,wth⟩⟩:=w;simp only[zf,zA,zU,z8,zk,zaO,z7,zac,zabq] at *
  cases l1
  ·exact zW
  cases l2
  rotate_left
  ·exact zW
  ·have c1:vhi<=vlo:=by simpa using c0
   clear c0;exact zW
 rw[zabn c0];have l1:(zV t).live=true:=by
  cases h:(zV t).live
  ·exact absurd (.inl h) c0
  ·rfl
 have l2:(zaN t).live=false:=by
  cases h:(zaN t).live
  ·rfl
  ·exact absurd (.inr (.inl h)) c0
 have c1:(zV t).low<(zV t).high:=by omega
 clear c0;have e1:((zV t).low+(zV t).high).tdiv 2=((zV t).low+(zV t).high) / 2:=zac2 zo;rw[e1];have hdv:=zT1 (zV t) (((zV t).low+(zV t).high) / 2) (zry hs);have hz:=zT0 v1 (((zV t).low+(zV t).high) / 2);have hl:=(zsi (zV t) (((zV t).low+(zV t).high) / 2)).2;generalize hmid:((zV t).low+(zV t).high) / 2=mid at *;generalize zdA (zV t) mid=d at *;obtain⟨d1,d2,d3⟩:=d;simp only at *;have hst:=zhk d2 (zfH hl);have hal:=zRK hz.1 hz.2;have hpl:=z45 t d1 d2;clear hs v1 v2 hz hl;generalize zdM t d1 d2=pl at *;generalize zcL t=od at *;generalize zaP d2=ms at *;generalize zbb d2=sd at *;generalize zV t=v at *;generalize zaN t=w at *;have sz_d1:=zbm d1;generalize zk d1=D_d1 at *;have sz_d2:=zbm d2;generalize zk d2=D_d2 at *;obtain⟨l1',vlo,vhi,⟨vc,vh,vz⟩,⟨vtl,vth⟩⟩:=v;obtain⟨l2',wlo,whi,⟨wc,wh,wz⟩,⟨wtl,wth⟩⟩:=w;simp only at *;subst l1 l2;simp only[zf,zA,zU,z8,zk,zaO,z7,zac,zabq,zabs,zfT] at *;exact zW
theorem z49{u:Setup}{N:Int}{t:Task}(hs:SI u N t.sec)(hk:t.sec.shards.length=2):zi G 164 [.d (zf t)] []=some (.d (.tup [zU (zek t).1,z7 (zek t).2.1,.sl ((zek t).2.2.map zaw)]),[]):=by
 have hu:=zhn t.sec;have hsh:=z9e t hk;have ho:=zMO t;obtain⟨v1,v2⟩:=zy6 hs hk;have hun:=zaaK (zaN t) (zV t) (zC8 hs) (zry hs);have hfr:=zHN (zV t).ready.cells.length;have hst:=zhk (zV t) (zry hs);have hal:=zjH (zid v1) (zbT v1).2.1;unfold zek;simp only;generalize zil (zaN t) (zV t)=y at *;obtain⟨y,e⟩:=y;generalize zfX (zV t).ready.cells.length=f at *;obtain⟨f,fe⟩:=f;simp only at *;have hpl:=z46 t f y;clear hs v1 v2;generalize zdM t f y=pl at *;generalize zcL t=od at *;generalize zaP (zV t)=ms at *;generalize zbb (zV t)=sd at *;generalize zV t=v at *;generalize zaN t=w at *
 by_cases c:e=0
 ·subst c;simp only[ne_eq,zabD,if_false];have sz_f:=zbm f;generalize zk f=D_f at *;have sz_y:=zbm y;generalize zk y=D_y at *;obtain⟨l1',vlo,vhi,⟨vc,vh,vz⟩,⟨vtl,vth⟩⟩:=v;simp only[zf,zA,zU,z8,zk,zaO,z7,zac,zabq,zabs,zfT] at *;exact zW
 ·rw[zabo c];have sz_f:=zbm f;generalize zk f=D_f at *;have sz_y:=zbm y;generalize zk y=D_y at *;simp only[zf,zA,zU,z8,zk,zaO,z7,zac,zabq] at *;exact zW
def accC(o:Nat)(l:List D):AV:=match l with|[]=> .xsl []|x::l=> .acc o (x::l)
def zam(o:Nat)(l:List D):zd:=match l with|[]=>[]|x::l=>[(o,.acc (l.length+1))]
structure T8 where
 rest:List zj
 out:List zj
 i:Nat
def t8S(d:za7)(k ep:Int)(p:T8):St:=⟨[(1,.d (.int .i64 k)),(2,.d (.int .i64 ep)),(3,.ref 3 0 0),(6,.ref 6 0 0),(10,.ref 10 0 0),(11,.acc 11 (p.out.map zm)),(12,.d (.int .i64 p.i))],[(3,.row [.d (zT d)]),(6,.row [.agg [.d (.int .i64 0),.xsl []]]),(10,.row [.agg [.d (.int .i64 d.cap),accC 500070 (p.rest.map zm)]]),(11,.acc p.out.length)]++zam 500070 (p.rest.map zm)⟩
def t8R(d:za7)(x:List zj×List zj):zX×St:=(.exit 0,⟨[(6,.ref 6 0 0),(10,.ref 10 0 0),(11,.acc 11 (x.2.map zm))],[(6,.row [.agg [.d (.int .i64 0),.xsl []]]),(10,.row [.agg [.d (.int .i64 d.cap),accC 500070 (x.1.map zm)]]),(11,.acc x.2.length)]++zam 500070 (x.1.map zm)⟩)
theorem z92(d:za7)(k ep:Int)(hl:d.l.length<=1000):∀p:T8,(p.i<=d.l.length/\p.out.length<=p.i/\p.rest.length<=p.i)->z6 G [] zgm (t8S d k ep p)=some (t8R d (zdU k ep (d.l.drop p.i) p.rest p.out)):=by
 refine zaL (fun p:T8=>d.l.length - p.i) (fun p:T8=>(p.i<=d.l.length/\p.out.length<=p.i/\p.rest.length<=p.i)) (t8S d k ep) (fun p=>some (t8R d (zdU k ep (d.l.drop p.i) p.rest p.out))) fun⟨rest,out,i⟩ ⟨hi,ho,hr⟩ L ih=> ?_;simp only at hi ho hr
 by_cases h0:i<d.l.length
 ·simp only;rw[zabX h0,zdU];have hp:=zh7 d.l[i] ep
  by_cases c:(out.length:Int)<k/\¬d.l[i].epoch<ep
  ·rw[zabo c];rw[zabP c.2] at hp;have c1:=c.1;have i1:=ih ⟨rest,out++[d.l[i]],i+1⟩ ⟨by simp only;omega,by simp only[zabv,zab3];omega,by simp only;omega⟩ (by simp only;omega);clear ih c;simp only at i1;generalize t8R d (zdU k ep (d.l.drop (i+1)) rest (out++[d.l[i]]))=R at *
   cases rest with
   | nil=>
    simp only[t8S,accC,zam,zgm,zT,zabq,zabL,zabF,zabs] at *;simp only[zNr,srcO] at i1;exact zS
   | cons r0 rs=>
    simp only[t8S,accC,zam,zgm,zT,zabq,zabF,zabs,zabE,zabN,zabJ,zabu] at *;simp only[zNr,srcO] at i1;exact zS
  ·rw[zabn c];have i1:=ih ⟨rest++[d.l[i]],out,i+1⟩ ⟨by simp only;omega,by simp only;omega,by simp only[zabv,zab3];omega⟩ (by simp only;omega);clear ih;simp only at i1;generalize t8R d (zdU k ep (d.l.drop (i+1)) (rest++[d.l[i]]) out)=R at *
   by_cases c1:(out.length:Int)<k
   ·have c2:d.l[i].epoch<ep:=by omega
    rw[zabM c2] at hp;clear c c2
    cases rest with
    | nil=>
     simp only[t8S,accC,zam,zgm,zT,zabq,zabL,zabJ,zabN,zabF,zabs,zabw] at *;simp only[zNr,srcO] at i1;exact zS
    | cons r0 rs=>
     simp only[t8S,accC,zam,zgm,zT,zabq,zabF,zabs,zabE,zabN,zabJ,zabu,zabv,zabw] at *;simp only[zNr,srcO] at i1;exact zS
   ·clear hp c
    cases rest with
    | nil=>
     simp only[t8S,accC,zam,zgm,zT,zabq,zabL,zabJ,zabN,zabF,zabs,zabw] at *;simp only[zNr,srcO] at i1;exact zS
    | cons r0 rs=>
     simp only[t8S,accC,zam,zgm,zT,zabq,zabF,zabs,zabE,zabN,zabJ,zabu,zabv,zabw] at *;simp only[zNr,srcO] at i1;exact zS
 ·clear ih;obtain rfl:i=d.l.length:=by omega
  simp only[zab7,zdU,t8R]
  cases rest with
  | nil=>
   simp only[t8S,accC,zam,zgm,zT,zabq,zabL] at *;exact zS
  | cons r0 rs=>
   simp only[t8S,accC,zam,zgm,zT,zabs,zabE,zabN,zabJ,zabu] at *;exact zS
theorem z94(d:za7)(k ep:Int)(hL:d.l.length<=1000):zi G 192 [.d (zT d),.d (.int .i64 k),.d (.int .i64 ep)] []=some (.d (.tup [zT (zhm d k ep).1,.sl ((zhm d k ep).2.1.map zm),.int .i64 (zhm d k ep).2.2]),[]):=by
 have hv:=znO d hL;have hlp:=z92 d k ep hL ⟨[],[],0⟩ ⟨by simp,by simp,by simp⟩;have hln:=zQL k ep d.l [] [];unfold zhm;generalize zcm d=v at *;simp only[zabZ] at hlp;generalize zdU k ep d.l [] []=R at *;obtain⟨rest,out⟩:=R;simp only[t8R,t8S,accC,zam,zabq,zabL,zabw,zabQ,zacI] at *
 by_cases c0:v=0
 ·subst c0;simp only[ne_eq,zabD,if_false]
  by_cases c1:k<0\/ep<0\/65536<ep
  ·rw[zabo c1];clear hlp;simp only[zT,zaH,zabq] at *;exact zW
  ·rw[zabn c1]
   cases rest with
   | nil=>
    simp only[zabq,zabL,zT,zaH] at *;exact zW
   | cons r0 rs=>
    simp only[zabs,zabN,zabJ,zabE,zabu,zT,zaH] at *;exact zW
 ·rw[zabo c0];clear hlp;simp only[zT,zaH,zabq] at *;exact zW
def c8S(d:za7)(ep:Int)(rest:List zj)(i:Nat):St:=⟨[(1,.d (.int .i64 ep)),(2,.ref 2 0 0),(4,.ref 4 0 0),(8,.ref 8 0 0),(9,.d (.int .i64 i))],[(2,.row [.d (zT d)]),(4,.row [.agg [.d (.int .i64 0),.xsl []]]),(8,.row [.agg [.d (.int .i64 d.cap),accC 500049 (rest.map zm)]])]++zam 500049 (rest.map zm)⟩
def c8R(d:za7)(rest:List zj):zX×St:=(.exit 0,⟨[(2,.ref 2 0 0),(4,.ref 4 0 0),(8,.ref 8 0 0)],[(2,.row [.d (zT d)]),(4,.row [.agg [.d (.int .i64 0),.xsl []]]),(8,.row [.agg [.d (.int .i64 d.cap),accC 500049 (rest.map zm)]])]++zam 500049 (rest.map zm)⟩)
theorem zSz(d:za7)(ep:Int)(hl:d.l.length<=1000):∀p:List zj×Nat,(p.2<=d.l.length/\p.1.length<=p.2)->z6 G [] zhV (c8S d ep p.1 p.2)=some (c8R d (p.1++(d.l.drop p.2).filter fun m=> !decide (m.epoch<ep))):=by
 refine zaL (fun p:List zj×Nat=>d.l.length - p.2) (fun p:List zj×Nat=>(p.2<=d.l.length/\p.1.length<=p.2)) (fun p=>c8S d ep p.1 p.2) (fun p=>some (c8R d (p.1++(d.l.drop p.2).filter fun m=> !decide (m.epoch<ep)))) fun⟨rest,i⟩ ⟨hi,hr⟩ L ih=> ?_;simp only at hi hr
 by_cases h0:i<d.l.length
 ·simp only;rw[zabX h0,zacL];have hp:=zh7 d.l[i] ep
  by_cases c:d.l[i].epoch<ep
  ·rw[zabM c] at hp ⊢;simp only[zad3,zabz,if_false];have i1:=ih ⟨rest,i+1⟩ ⟨by simp only;omega,by simp only;omega⟩ (by simp only;omega);clear ih c;simp only at i1;generalize c8R d (rest++(d.l.drop (i+1)).filter fun m=> !decide (m.epoch<ep))=R at *
   cases rest with
   | nil=>
    simp only[c8S,accC,zam,zhV,zT,zabq,zabL] at *;simp only[zNr,srcO] at i1;exact zS
   | cons r0 rs=>
    simp only[c8S,accC,zam,zhV,zT,zabs,zabE,zabN,zabJ,zabu] at *;simp only[zNr,srcO] at i1;exact zS
  ·rw[zabP c] at hp ⊢;simp only[zad4,if_true];have i1:=ih ⟨rest++[d.l[i]],i+1⟩ ⟨by simp only;omega,by simp only[zabv,zab3];omega⟩ (by simp only;omega);clear ih c;simp only[zab9,zadb] at i1;generalize c8R d (rest++d.l[i]::(d.l.drop (i+1)).filter fun m=> !decide (m.epoch<ep))=R at *
   cases rest with
   | nil=>
    simp only[c8S,accC,zam,zhV,zT,zabq,zabL,zabJ,zabN,zabF,zabs,zabw] at *;simp only[zNr,srcO] at i1;exact zS
   | cons r0 rs=>
    simp only[c8S,accC,zam,zhV,zT,zabq,zabF,zabs,zabE,zabN,zabJ,zabu,zabv,zabw] at *;simp only[zNr,srcO] at i1;exact zS
 ·clear ih;obtain rfl:i=d.l.length:=by omega
  simp only[zab7,zac5,zabL,c8R]
  cases rest with
  | nil=>
   simp only[c8S,accC,zam,zhV,zT,zabq,zabL] at *;exact zS
  | cons r0 rs=>
   simp only[c8S,accC,zam,zhV,zT,zabs,zabE,zabN,zabJ,zabu] at *;exact zS
theorem zSZ(d:za7)(ep:Int)(hL:d.l.length<=1000):zi G 210 [.d (zT d),.d (.int .i64 ep)] []=some (.d (.tup [zT (zhv d ep).1,.int .i64 (zhv d ep).2.1,.int .i64 (zhv d ep).2.2]),[]):=by
 have hv:=znO d hL;have hlp:=zSz d ep hL ⟨[],0⟩ ⟨by simp,by simp⟩;have hln:=zacF (fun m:zj=> !decide (m.epoch<ep)) d.l;unfold zhv;generalize zcm d=v at *;simp only[zabZ,zabJ] at hlp;generalize (d.l.filter fun m=> !decide (m.epoch<ep))=rest at *;simp only[c8R,c8S,accC,zam,zabq,zabL,zabw,zabQ,zacI] at *
 by_cases c0:v=0
 ·subst c0;simp only[ne_eq,zabD,if_false]
  by_cases c1:ep<0\/65536<ep
  ·rw[zabo c1];clear hlp;simp only[zT,zaH,zabq] at *;exact zW
  ·rw[zabn c1]
   cases rest with
   | nil=>
    simp only[zabq,zabL,zabw,zT,zaH] at *;exact zW
   | cons r0 rs=>
    simp only[zabs,zabN,zabJ,zabE,zabu,zT,zaH] at *;exact zW
 ·rw[zabo c0];clear hlp;simp only[zT,zaH,zabq] at *;exact zW
theorem VS.lapse{n h:Nat}{L:List zj}{t:zN}{lo hi:Int}(v:VS n h L t lo hi){y:zG}(hy:y∈t.l):
    ∃t' h2 L',zaf t y.msg.id=(t',y.msg,0)/\pbD (rg n h L) y.msg=(rg n h2 L',0)/\VS n h2 L' t' lo hi/\(y::t'.l).Perm t.l:=by
 obtain⟨t',r1,r2,r3⟩:=v.rel hy;have hmv:zap y.msg=0:=((zfg t.l).1 (zhl v.2.2.2.2.2.2.2.2.1).2.1).2 _ hy |>.1;have hlen:=r3.length_eq;simp only[zabu] at hlen;obtain⟨h2,L',q1,q2,q3,q4⟩:=r2.back hmv (v.2.2.2.2.2.2.2.2.2.1 _ hy) (by have:=v.2.2.2.1;omega) (v.gone r3) y.msg.count;rw[<- zMU] at q1;have hr:(zaf t y.msg.id).2.2=0:=by
  have c:(zaG (mkS n h L t lo hi) y.msg.id).2.2=0:=by rw[r1]
  unfold zaG at c
  split at c
  ·rename_i q;exact q
  ·exact c
 unfold zaG at r1;rw[zabo (show (zaf (mkS n h L t lo hi).leases y.msg.id).2.2=0 from hr)] at r1;have a1:=congrArg (fun p:zt×zj×Int=>p.1.leases) r1;have a2:=congrArg (fun p:zt×zj×Int=>p.2.1) r1;refine⟨t',h2,L',?_,q1,q2,r3⟩;change (zaf t y.msg.id).1=t' at a1;change (zaf t y.msg.id).2.1=y.msg at a2;rw[<- a1, <- a2, <- hr];exact Prod.ext rfl (Prod.ext (by simp only;rw[a2];exact a2) (by simp only;rw[a2]))
theorem zHu{n h:Nat}{L:List zj}{t:zN}{lo hi:Int}{y:zG}{t':zN}{h2:Nat}{L':List zj}(r1:zaf t y.msg.id=(t',y.msg,0))(r2:pbD (rg n h L) y.msg=(rg n h2 L',0))(l:List Int):
    zcx (y.msg.id::l) (mkS n h L t lo hi)=zcx l (mkS n h2 L' t' lo hi):=by
 have hs:zaG (mkS n h L t lo hi) y.msg.id=(mkS n h L t' lo hi,y.msg,0):=by
  unfold zaG;rw[zabo (show (zaf (mkS n h L t lo hi).leases y.msg.id).2.2=0 by rw[show (mkS n h L t lo hi).leases=t from rfl,r1])];rw[show (mkS n h L t lo hi).leases=t from rfl,r1];rfl
 rw[zcx,hs];simp only[ne_eq,zabD,if_false];rw[show (mkS n h L t' lo hi).ready=rg n h L from rfl,r2];simp only[zabD,if_false];rfl
structure E7 where
 h:Nat
 L:List zj
 t:zN
 i:Nat
def e7S(n:Nat)(lo hi:Int)(u:List Int)(p:E7):St:=⟨[(4,.ref 4 0 0),(8,.ref 8 0 0),(12,.d (.sl (zC u))),(13,.d (.int .i64 p.i))],[(4,.row [.d (zk (mkS n p.h p.L p.t lo hi))]),(8,.row [shZ])]⟩
def e7R(u:List Int)(x:zt×Int):zX×St:=(.exit 0,⟨[(4,.ref 4 0 0),(8,.ref 8 0 0),(12,.d (.sl (zC u)))],[(4,.row [.d (zk x.1)]),(8,.row [shZ])]⟩)
theorem zUk(n:Nat)(lo hi:Int)(u:List Int)(hu:u.length<=12):∀p:E7,(VS n p.h p.L p.t lo hi/\p.i<=u.length/\(∀id∈u.drop p.i,∃y∈p.t.l,y.msg.id=id)/\(u.drop p.i).Nodup)->z6 G [] zsv (e7S n lo hi u p)=some (e7R u (zcx (u.drop p.i) (mkS n p.h p.L p.t lo hi)))/\(zcx (u.drop p.i) (mkS n p.h p.L p.t lo hi)).2=0:=by
 have key:∀p:E7,(VS n p.h p.L p.t lo hi/\p.i<=u.length/\(∀id∈u.drop p.i,∃y∈p.t.l,y.msg.id=id)/\(u.drop p.i).Nodup)->(zcx (u.drop p.i) (mkS n p.h p.L p.t lo hi)).2=0:=by
  intro⟨h,L,t,i⟩ ⟨v,_,hm,hn⟩;simp only at *;generalize u.drop i=w at *
  induction w generalizing h L t with
  | nil=>rfl
  | cons id w ih=>
   obtain⟨y,hy,rfl⟩:=hm id (.head _);obtain⟨t',h2,L',r1,r2,r3,r4⟩:=v.lapse hy;rw[zHu r1 r2];rw[zacv] at hn;refine ih h2 L' t' r3 (fun id2 h2m=> ?_) hn.2;obtain⟨z,hz,ez⟩:=hm id2 (.tail _ h2m)
   rcases zab4.1 (r4.mem_iff.2 hz) with rfl|hz2
   ·exact absurd (ez ▸ h2m) hn.1
   ·exact⟨z,hz2,ez⟩
 intro p hp;refine⟨?_,key p hp⟩;revert p;refine zaL (fun p:E7=>u.length - p.i) (fun p:E7=>(VS n p.h p.L p.t lo hi/\p.i<=u.length/\(∀id∈u.drop p.i,∃y∈p.t.l,y.msg.id=id)/\(u.drop p.i).Nodup)) (e7S n lo hi u) (fun p=>some (e7R u (zcx (u.drop p.i) (mkS n p.h p.L p.t lo hi)))) fun⟨h,L,t,i⟩ hp LL ih=> ?_;obtain⟨v,hi1,hm,hn⟩:=hp;simp only at v hi1 hm hn
 by_cases h0:i<u.length
 ·have hd:=zabX h0;simp only;rw[hd] at hm hn ⊢;rw[zacv] at hn;obtain⟨y,hy,ey⟩:=hm u[i] (.head _);obtain⟨t',h2,L',r1,r2,r3,r4⟩:=v.lapse hy;have i1:=ih ⟨h2,L',t',i+1⟩ ⟨r3,by simp only;omega,fun id2 h2m=>by
   simp only at h2m;obtain⟨z,hz,ez⟩:=hm id2 (.tail _ h2m)
   rcases zab4.1 (r4.mem_iff.2 hz) with rfl|hz2
   ·exact absurd (by rw[<- ey,ez];exact h2m) hn.1
   ·exact⟨z,hz2,ez⟩,hn.2⟩ (by simp only;omega)
  have tl:=zjn v.2.2.2.2.2.2.2.2.1;have c1:=zs2 t y.msg.id zo zo;have c2:=zs1 (rg n h L) y.msg (by have:=v.lens.1;show (mkS n h L t lo hi).ready.cells.length<=_;omega);rw[<- ey,zHu r1 r2];rw[r1] at c1;rw[r2] at c2;rw[ey] at c1;clear ih hm hn hd v r1 r2 r3 r4 tl;simp only at i1;generalize e7R u (zcx (u.drop (i+1)) (mkS n h2 L' t' lo hi))=R at *;simp only[e7S,mkS,zsv] at *;generalize rg n h2 L'=ra at *;generalize rg n h L=rb at *;generalize y.msg=m at *;obtain⟨c2',hh2,z2⟩:=ra;obtain⟨c1',hh1,z1⟩:=rb;obtain⟨tl1,th1⟩:=t;obtain⟨tl2,th2⟩:=t';clear hy ey;simp only[zk,zau,zai,zm,shZ] at *;simp only[zNr,srcO] at i1;exact zS
 ·clear ih;obtain rfl:i=u.length:=by omega
  simp only[zab7,zcx,e7R,e7S,zsv];generalize mkS n h L t lo hi=s at *;simp only[zk,shZ] at *;exact zS
end Go.Proofs.YtcembpbhkcbnhaaGreat
