/-
  Steps of layer 28.
-/
import Derived.Test.YtdnlddoeamjcoaaGreatB842129c
import Derived.Test.YtdnlddoeamjcoaaGreatBad5c9c6
import Derived.Test.YtdnlddoeamjcoaaGreatBfc2f73e
import Derived.Test.YtdnlddoeamjcoaaGreatBb3fd0a8
set_option linter.unusedSimpArgs false
set_option linter.unusedVariables false
set_option maxHeartbeats 10000000
set_option maxRecDepth 100000
namespace Go.Proofs.YtdnlddoeamjcoaaGreat
open Go Go.Sim
theorem z6U(a:zy)(t:zq)(n:Int)(he:0<=t.entry/\t.entry<=1000)(hl:t.results.length<=1000)(hd:0<=t.loaded/\t.loaded<=1073741824):zg G zqo [.d (zi a),.d (zd t),.d (.int .i64 n)] []=some (.d (.tup [zi (zb9 a t n).1,zd (zb9 a t n).2.1,.sl ((zb9 a t n).2.2.1.map zad),.int .i64 (zb9 a t n).2.2.2]),[]):=by
 have hg:=zcK t 6 6;have hf1:=zbN (z8 t 6 6);have hv:=zrv t 7 n;have hw:=zkJ a 1;simp only[zgL,if_true] at hw;unfold zb9;generalize z8 t 6 6=ge at *
 by_cases c0:ge=0
 ·subst c0;simp only[ne_eq,zac9,if_false];clear hf1
  by_cases c1:t.pc=0
  ·rw[zacY c1];replace c1:=zadb c1
   by_cases c2:a.epoch=65536
   ·rw[zacY c2];have hn1:=zcE { t with loaded:=a.epoch } (za8 6) n he hl;generalize za4 { t with loaded:=a.epoch } (za8 6) n=t2 at *;have sz_t2:=zA t2;generalize zd t2=D_t2 at *;replace c2:=zadb c2;simp only[zd,za8,z6,zam,evT,zbt,zacZ,zac1,zad] at *;exact zW zkv
   ·rw[zacX c2];replace c2:=zac3 c2;simp only[zd,evT,zbt,zacZ,zad] at *;exact zW zkv
  ·rw[zacX c1];replace c1:=zac3 c1;have hc:=zGR a 1 t.loaded (t.loaded+1);generalize casWord a 1 t.loaded (t.loaded+1)=c at *;obtain⟨c1,c2,c3⟩:=c
   by_cases c4:c3=0
   ·subst c4;simp only[ne_eq,zac9,if_false] at *
    cases c2
    ·simp only[if_true] at *;simp only[zd,evT,zbt,zacZ,zad] at *;exact zW zkv
    ·simp only[zadA,if_false] at *;have hn1:=zcE t zam n he hl;generalize za4 t zam n=t2 at *;have sz_t2:=zA t2;generalize zd t2=D_t2 at *;simp only[zd,z6,zam,evT,zbt,zacZ,zac1,zad] at *;exact zW zkv
   ·simp only at *;rw[zacY c4];have hf1:=zbN c3;have sz_zTask:=zA zD;generalize zd zD=D_zTask at *;simp only[zd,evT,zbt,zacZ,zad] at *;exact zW zkv
 ·rw[zacY c0];have sz_zTask:=zA zD;generalize zd zD=D_zTask at *;simp only[zd,evT,zbt,zacZ,zad] at *;exact zW zkv
theorem zs9{u:Setup}{N:Int}{t:zq}(hs:SI u N t.sec)(hk:t.sec.shards.length=1):zg G zqE [.d (zd t)] []=some (.d (.tup [zZ (zbT t).1,z6 (zbT t).2.1,.sl ((zbT t).2.2.map zad)]),[]):=by
 have hu:=zhK t.sec;have hv:=(hs.sv _ (zadf (show 0<t.sec.shards.length by omega))).1;have hb:zbn t.sec.shards[0]:=zf8 (zci hv);have hdd:=hs.dv;unfold zbT;simp only;rw[zdH hk];clear hs hv
 by_cases c1:t.sec.shards[0].live=false
 ·rw[zacY c1];simp only[zd,zC,zZ,zaa,za8,z6,zam,zacZ,zB] at *;exact zW zzR
 rw[zacX c1];replace c1:t.sec.shards[0].live=true:=by simpa using c1
 have hrm:=zQE t.sec.dead zo;have hbu:=zSY t.sec.shards[0] (zgU t.sec.dead) t.sec.snap.epoch t.setup.limit hb;have hbl:=zD3 t.sec.shards[0] (zgU t.sec.dead) t.sec.snap.epoch t.setup.limit;generalize zgU t.sec.dead=rm at *;generalize zf9 t.sec.shards[0] rm t.sec.snap.epoch t.setup.limit=x at *;obtain⟨x1,l,x3⟩:=x;simp only at *
 by_cases c2:l.length=0
 ·rw[zacY c2];have e0:l=[]:=zadN.1 c2;subst e0;simp only[zd,zC,zZ,zaa,za8,z6,zam,zX,zacZ,zB] at *;exact zW zzR
 ·rw[zacX c2];have hpt:=z64 t.sec.dead l zo zo zo;generalize zjx t.sec.dead l=d at *;obtain⟨d1,d2⟩:=d;simp only[zd,zC,zZ,zaa,za8,z6,zam,zX,zacZ,zac1,zB] at *;exact zW zzR
theorem z6v(a:zy)(t:zq)(n:Int)(h:z8 t 9 9≠0):zg G zlZ [.d (zi a),.d (zd t),.d (.int .i64 n)] []=some (.d (.tup [zi zF,zd zD,.sl [],.int .i64 (z8 t 9 9)]),[]):=by
 have hg:=zcK t 9 9;have hf:=zbN (z8 t 9 9);generalize z8 t 9 9=ge at *;have sz_zTask:=zA zD;generalize zd zD=D_zTask at *;have sz_t:=zA t;generalize zd t=D_t at *;have sz_zArena:=zaq zF;generalize zi zF=D_zArena at *;exact zW zhh
theorem z6Q{u:Setup}{a:zy}{t:zq}{n N:Int}(hu:zJ u=true)(ha:AI u a)(ht:TI u N t)(hN:N<=999999):zg G zlZ [.d (zi a),.d (zd t),.d (.int .i64 n)] []=some (.d (.tup [zi (z7 zb2 9 9 za7 a t n).1,zd (z7 zb2 9 9 za7 a t n).2.1,.sl ((z7 zb2 9 9 za7 a t n).2.2.1.map zad),.int .i64 (z7 zb2 9 9 za7 a t n).2.2.2]),[]):=by
 unfold z7
 by_cases c0:z8 t 9 9=0
 rotate_left
 ·rw[zacY c0];exact z6v a t n c0
 rw[zacX (fun q=>q c0)];have hg:=zcK t 9 9;rw[c0] at hg;obtain⟨g1,g2⟩:=zdx c0;have hen:=zfY ht g1;clear g1;simp only
 by_cases c1:t.pc=0
 ·rw[zacY c1];have hc:zet (zaN t.inv.from_ t.inv.to) u.slots/\1<=(zaN t.inv.from_ t.inv.to).length/\∀s,SI u N s->s.out.edits.length<=1->s.lock.cells=(zaN t.inv.from_ t.inv.to)->zaB u N t.inv s:=by
   obtain⟨v1,v2,v3⟩:=zih ht.iv zo;exact⟨zj0 v1 v2 v3,by unfold zaN;split<;>simp,fun s s1 s2 s3=>⟨s1,s2,fun q=>by omega,fun q=>by omega,fun _=>s3,fun q=>by omega,fun q=>by omega⟩⟩
  obtain⟨a1,a2,a3⟩:=hc;obtain⟨s1,s2,s3⟩:=ziH (N:=N) hu (show t.setup.limit=u.limit by rw[ht.su]) ht.nn a1 a2;have k4:zaB u N (zaO t (zaN t.inv.from_ t.inv.to) 1).inv (zaO t (zaN t.inv.from_ t.inv.to) 1).sec:=a3 _ s1 s2 s3;have hse:=zhD t (zaN t.inv.from_ t.inv.to) 1 (by unfold zaN;split<;>simp);have hpa:=zBP t.inv.from_ t.inv.to;unfold za7;have hT:(zaO t (zaN t.inv.from_ t.inv.to) 1).entry=t.entry/\(zaO t (zaN t.inv.from_ t.inv.to) 1).results=t.results/\(zaO t (zaN t.inv.from_ t.inv.to) 1).inv=t.inv:=⟨rfl,rfl,rfl⟩;clear a1 a2 a3 s1 s2 s3;generalize zaN t.inv.from_ t.inv.to=pr at *;generalize zaO t pr 1=t1 at *;obtain⟨e1,e2,e3⟩:=hT;replace c1:=zadb c1;have hgo:=zeD a t1 n (zeW hu ha k4.si zo);have hgk:=zeE (n:=n) ha k4.si k4.ed;generalize goT a t1 n=g at *;obtain⟨a2,t2,b1,b2,e⟩:=g;simp only at *
  by_cases c4:e=0
  rotate_left
  ·rw[zacY c4];have hf:=zbN e;unfold zaT;clear hgk ht ha hu k4;have sz_t1:=zA t1;generalize zd t1=D_t1 at *;have sz_zTask:=zA zD;generalize zd zD=D_zTask at *;have sz_zArena:=zaq zF;generalize zi zF=D_zArena at *;have sz_t2:=zA t2;generalize zd t2=D_t2 at *;have sz_a2:=zaq a2;generalize zi a2=D_a2 at *;simp only[zd] at *;exact zW zhh
  subst c4;simp only[ne_eq,zac9,if_false];obtain⟨h1,s,h2,hSI,hK,ho,h4,h9⟩:=hgk rfl;have h3:zaB u (N+1) t.inv s:=by have q:=k4.keep hSI hK (by rw[ho];exact k4.ed);rw[e3] at q;exact q
  have hen2:t2.entry=t.entry/\t2.results=t.results/\t2.inv=t.inv/\t2.sec=s:=by rw[h2];exact⟨e1,e2,e3,rfl⟩
  obtain⟨q1,q2,q3,q4⟩:=hen2
  cases b1
  rotate_left
  ·simp only[if_true];have hp:s.phase=4\/s.phase=9:= .inl (h4.1 rfl);have kk:t2.sec.shards.length=2:=by rw[q4];exact (zca h3 ht.iv hp).2.2.1 zo
   have hpl:=zs5 (t:=t2) (by rw[q4];exact h3.si) kk;have hoi:OI t2.sec (zb2 t2).1:=by
    have h3:zaB u (N+1) t2.inv t2.sec:=by rw[q3,q4];exact h3
    exact zC5 h3.si kk (by rw[h3.c9 (by rw[q3];omega)];unfold zaN;split<;>rfl)
   have hdc:=zbW (t:=t2) (by rw[q4];exact h3.si) hoi;generalize zb2 t2=pl at *;obtain⟨o,r,l⟩:=pl;simp only at *;generalize zaU t2 o=t3 at *;clear ht ha hu k4 h1 h2 h3 h4 h9 ho hSI hK q1 q2 q3 q4 hp kk hoi;have sz_t1:=zA t1;generalize zd t1=D_t1 at *;have sz_t2:=zA t2;generalize zd t2=D_t2 at *;have sz_t3:=zA t3;generalize zd t3=D_t3 at *;have sz_o:=zcT o;generalize zZ o=D_o at *;have sz_r:=zcJ r;generalize z6 r=D_r at *;simp only[zd] at *;exact zW zhh
  ·simp only[zac8,if_false]
   cases b2
   ·simp only[if_true];clear ht ha hu k4 h1 h2 h3 h4 h9 ho hSI hK q1 q2 q3 q4;have sz_t1:=zA t1;generalize zd t1=D_t1 at *;have sz_t2:=zA t2;generalize zd t2=D_t2 at *;simp only[zd] at *;exact zW zhh
   ·simp only[zadA,if_false];have hp:s.phase=4\/s.phase=9:= .inr (h9.1 rfl);have kk:t2.sec.shards.length=2:=by rw[q4];exact (zca h3 ht.iv hp).2.2.1 zo
    have hpl:=zs5 (t:=t2) (by rw[q4];exact h3.si) kk;generalize zb2 t2=pl at *;obtain⟨o,r,l⟩:=pl;simp only at *;have hnx:=zcE t2 r n (by rw[q1];exact hen.1) (by rw[q2];exact hen.2);generalize za4 t2 r n=t3 at *;clear ht ha hu k4 h1 h2 h3 h4 h9 ho hSI hK q1 q2 q3 q4 hp kk;have sz_t1:=zA t1;generalize zd t1=D_t1 at *;have sz_t2:=zA t2;generalize zd t2=D_t2 at *;have sz_t3:=zA t3;generalize zd t3=D_t3 at *;have sz_o:=zcT o;generalize zZ o=D_o at *;have sz_r:=zcJ r;generalize z6 r=D_r at *;simp only[zd] at *;exact zW zhh
 ·rw[zacX c1];have k4:=ht.se ⟨c1,by omega⟩;replace c1:=zac3 c1;have hgo:=zeD a t n (zeW hu ha k4.si zo);have hgk:=zeE (n:=n) ha k4.si k4.ed;generalize goT a t n=g at *;obtain⟨a2,t2,b1,b2,e⟩:=g;simp only at *
  by_cases c4:e=0
  rotate_left
  ·rw[zacY c4];have hf:=zbN e;unfold zaT;clear hgk ht ha hu k4;have sz_zTask:=zA zD;generalize zd zD=D_zTask at *;have sz_zArena:=zaq zF;generalize zi zF=D_zArena at *;have sz_t2:=zA t2;generalize zd t2=D_t2 at *;have sz_a2:=zaq a2;generalize zi a2=D_a2 at *;simp only[zd] at *;exact zW zhh
  subst c4;simp only[ne_eq,zac9,if_false];obtain⟨h1,s,h2,hSI,hK,ho,h4,h9⟩:=hgk rfl;have h3:zaB u (N+1) t.inv s:=by have q:=k4.keep hSI hK (by rw[ho];exact k4.ed);exact q
  have hen2:t2.entry=t.entry/\t2.results=t.results/\t2.inv=t.inv/\t2.sec=s:=by rw[h2];exact⟨rfl,rfl,rfl,rfl⟩
  obtain⟨q1,q2,q3,q4⟩:=hen2
  cases b1
  rotate_left
  ·simp only[if_true];have hp:s.phase=4\/s.phase=9:= .inl (h4.1 rfl);have kk:t2.sec.shards.length=2:=by rw[q4];exact (zca h3 ht.iv hp).2.2.1 zo
   have hpl:=zs5 (t:=t2) (by rw[q4];exact h3.si) kk;have hoi:OI t2.sec (zb2 t2).1:=by
    have h3:zaB u (N+1) t2.inv t2.sec:=by rw[q3,q4];exact h3
    exact zC5 h3.si kk (by rw[h3.c9 (by rw[q3];omega)];unfold zaN;split<;>rfl)
   have hdc:=zbW (t:=t2) (by rw[q4];exact h3.si) hoi;generalize zb2 t2=pl at *;obtain⟨o,r,l⟩:=pl;simp only at *;generalize zaU t2 o=t3 at *;clear ht ha hu k4 h1 h2 h3 h4 h9 ho hSI hK q1 q2 q3 q4 hp kk hoi;have sz_t2:=zA t2;generalize zd t2=D_t2 at *;have sz_t3:=zA t3;generalize zd t3=D_t3 at *;have sz_o:=zcT o;generalize zZ o=D_o at *;have sz_r:=zcJ r;generalize z6 r=D_r at *;simp only[zd] at *;exact zW zhh
  ·simp only[zac8,if_false]
   cases b2
   ·simp only[if_true];clear ht ha hu k4 h1 h2 h3 h4 h9 ho hSI hK q1 q2 q3 q4;have sz_t2:=zA t2;generalize zd t2=D_t2 at *;simp only[zd] at *;exact zW zhh
   ·simp only[zadA,if_false];have hp:s.phase=4\/s.phase=9:= .inr (h9.1 rfl);have kk:t2.sec.shards.length=2:=by rw[q4];exact (zca h3 ht.iv hp).2.2.1 zo
    have hpl:=zs5 (t:=t2) (by rw[q4];exact h3.si) kk;generalize zb2 t2=pl at *;obtain⟨o,r,l⟩:=pl;simp only at *;have hnx:=zcE t2 r n (by rw[q1];exact hen.1) (by rw[q2];exact hen.2);generalize za4 t2 r n=t3 at *;clear ht ha hu k4 h1 h2 h3 h4 h9 ho hSI hK q1 q2 q3 q4 hp kk;have sz_t2:=zA t2;generalize zd t2=D_t2 at *;have sz_t3:=zA t3;generalize zd t3=D_t3 at *;have sz_o:=zcT o;generalize zZ o=D_o at *;have sz_r:=zcJ r;generalize z6 r=D_r at *;simp only[zd] at *;exact zW zhh
theorem z6w(a:zy)(t:zq)(n:Int)(h:z8 t 10 10≠0):zg G zl0 [.d (zi a),.d (zd t),.d (.int .i64 n)] []=some (.d (.tup [zi zF,zd zD,.sl [],.int .i64 (z8 t 10 10)]),[]):=by
 have hg:=zcK t 10 10;have hf:=zbN (z8 t 10 10);generalize z8 t 10 10=ge at *;have sz_zTask:=zA zD;generalize zd zD=D_zTask at *;have sz_t:=zA t;generalize zd t=D_t at *;have sz_zArena:=zaq zF;generalize zi zF=D_zArena at *;exact zW zhi
theorem z6R{u:Setup}{a:zy}{t:zq}{n N:Int}(hu:zJ u=true)(ha:AI u a)(ht:TI u N t)(hN:N<=999999):zg G zl0 [.d (zi a),.d (zd t),.d (.int .i64 n)] []=some (.d (.tup [zi (z7 zb1 10 10 za7 a t n).1,zd (z7 zb1 10 10 za7 a t n).2.1,.sl ((z7 zb1 10 10 za7 a t n).2.2.1.map zad),.int .i64 (z7 zb1 10 10 za7 a t n).2.2.2]),[]):=by
 unfold z7
 by_cases c0:z8 t 10 10=0
 rotate_left
 ·rw[zacY c0];exact z6w a t n c0
 rw[zacX (fun q=>q c0)];have hg:=zcK t 10 10;rw[c0] at hg;obtain⟨g1,g2⟩:=zdx c0;have hen:=zfY ht g1;clear g1;simp only
 by_cases c1:t.pc=0
 ·rw[zacY c1];have hc:zet (zaN t.inv.from_ t.inv.to) u.slots/\1<=(zaN t.inv.from_ t.inv.to).length/\∀s,SI u N s->s.out.edits.length<=1->s.lock.cells=(zaN t.inv.from_ t.inv.to)->zaB u N t.inv s:=by
   obtain⟨v1,v2,v3⟩:=zih ht.iv zo;exact⟨zj0 v1 v2 v3,by unfold zaN;split<;>simp,fun s s1 s2 s3=>⟨s1,s2,fun q=>by omega,fun q=>by omega,fun _=>s3,fun q=>by omega,fun q=>by omega⟩⟩
  obtain⟨a1,a2,a3⟩:=hc;obtain⟨s1,s2,s3⟩:=ziH (N:=N) hu (show t.setup.limit=u.limit by rw[ht.su]) ht.nn a1 a2;have k4:zaB u N (zaO t (zaN t.inv.from_ t.inv.to) 1).inv (zaO t (zaN t.inv.from_ t.inv.to) 1).sec:=a3 _ s1 s2 s3;have hse:=zhD t (zaN t.inv.from_ t.inv.to) 1 (by unfold zaN;split<;>simp);have hpa:=zBP t.inv.from_ t.inv.to;unfold za7;have hT:(zaO t (zaN t.inv.from_ t.inv.to) 1).entry=t.entry/\(zaO t (zaN t.inv.from_ t.inv.to) 1).results=t.results/\(zaO t (zaN t.inv.from_ t.inv.to) 1).inv=t.inv:=⟨rfl,rfl,rfl⟩;clear a1 a2 a3 s1 s2 s3;generalize zaN t.inv.from_ t.inv.to=pr at *;generalize zaO t pr 1=t1 at *;obtain⟨e1,e2,e3⟩:=hT;replace c1:=zadb c1;have hgo:=zeD a t1 n (zeW hu ha k4.si zo);have hgk:=zeE (n:=n) ha k4.si k4.ed;generalize goT a t1 n=g at *;obtain⟨a2,t2,b1,b2,e⟩:=g;simp only at *
  by_cases c4:e=0
  rotate_left
  ·rw[zacY c4];have hf:=zbN e;unfold zaT;clear hgk ht ha hu k4;have sz_t1:=zA t1;generalize zd t1=D_t1 at *;have sz_zTask:=zA zD;generalize zd zD=D_zTask at *;have sz_zArena:=zaq zF;generalize zi zF=D_zArena at *;have sz_t2:=zA t2;generalize zd t2=D_t2 at *;have sz_a2:=zaq a2;generalize zi a2=D_a2 at *;simp only[zd] at *;exact zW zhi
  subst c4;simp only[ne_eq,zac9,if_false];obtain⟨h1,s,h2,hSI,hK,ho,h4,h9⟩:=hgk rfl;have h3:zaB u (N+1) t.inv s:=by have q:=k4.keep hSI hK (by rw[ho];exact k4.ed);rw[e3] at q;exact q
  have hen2:t2.entry=t.entry/\t2.results=t.results/\t2.inv=t.inv/\t2.sec=s:=by rw[h2];exact⟨e1,e2,e3,rfl⟩
  obtain⟨q1,q2,q3,q4⟩:=hen2
  cases b1
  rotate_left
  ·simp only[if_true];have hp:s.phase=4\/s.phase=9:= .inl (h4.1 rfl);have kk:t2.sec.shards.length=2:=by rw[q4];exact (zca h3 ht.iv hp).2.2.1 zo
   have hpl:=zs6 (t:=t2) (by rw[q4];exact h3.si) kk;have hoi:OI t2.sec (zb1 t2).1:=by
    have h3:zaB u (N+1) t2.inv t2.sec:=by rw[q3,q4];exact h3
    exact zC4 h3.si kk (by rw[h3.c9 (by rw[q3];omega)];unfold zaN;split<;>rfl)
   have hdc:=zbW (t:=t2) (by rw[q4];exact h3.si) hoi;generalize zb1 t2=pl at *;obtain⟨o,r,l⟩:=pl;simp only at *;generalize zaU t2 o=t3 at *;clear ht ha hu k4 h1 h2 h3 h4 h9 ho hSI hK q1 q2 q3 q4 hp kk hoi;have sz_t1:=zA t1;generalize zd t1=D_t1 at *;have sz_t2:=zA t2;generalize zd t2=D_t2 at *;have sz_t3:=zA t3;generalize zd t3=D_t3 at *;have sz_o:=zcT o;generalize zZ o=D_o at *;have sz_r:=zcJ r;generalize z6 r=D_r at *;simp only[zd] at *;exact zW zhi
  ·simp only[zac8,if_false]
   cases b2
   ·simp only[if_true];clear ht ha hu k4 h1 h2 h3 h4 h9 ho hSI hK q1 q2 q3 q4;have sz_t1:=zA t1;generalize zd t1=D_t1 at *;have sz_t2:=zA t2;generalize zd t2=D_t2 at *;simp only[zd] at *;exact zW zhi
   ·simp only[zadA,if_false];have hp:s.phase=4\/s.phase=9:= .inr (h9.1 rfl);have kk:t2.sec.shards.length=2:=by rw[q4];exact (zca h3 ht.iv hp).2.2.1 zo
    have hpl:=zs6 (t:=t2) (by rw[q4];exact h3.si) kk;generalize zb1 t2=pl at *;obtain⟨o,r,l⟩:=pl;simp only at *;have hnx:=zcE t2 r n (by rw[q1];exact hen.1) (by rw[q2];exact hen.2);generalize za4 t2 r n=t3 at *;clear ht ha hu k4 h1 h2 h3 h4 h9 ho hSI hK q1 q2 q3 q4 hp kk;have sz_t1:=zA t1;generalize zd t1=D_t1 at *;have sz_t2:=zA t2;generalize zd t2=D_t2 at *;have sz_t3:=zA t3;generalize zd t3=D_t3 at *;have sz_o:=zcT o;generalize zZ o=D_o at *;have sz_r:=zcJ r;generalize z6 r=D_r at *;simp only[zd] at *;exact zW zhi
 ·rw[zacX c1];have k4:=ht.se ⟨c1,by omega⟩;replace c1:=zac3 c1;have hgo:=zeD a t n (zeW hu ha k4.si zo);have hgk:=zeE (n:=n) ha k4.si k4.ed;generalize goT a t n=g at *;obtain⟨a2,t2,b1,b2,e⟩:=g;simp only at *
  by_cases c4:e=0
  rotate_left
  ·rw[zacY c4];have hf:=zbN e;unfold zaT;clear hgk ht ha hu k4;have sz_zTask:=zA zD;generalize zd zD=D_zTask at *;have sz_zArena:=zaq zF;generalize zi zF=D_zArena at *;have sz_t2:=zA t2;generalize zd t2=D_t2 at *;have sz_a2:=zaq a2;generalize zi a2=D_a2 at *;simp only[zd] at *;exact zW zhi
  subst c4;simp only[ne_eq,zac9,if_false];obtain⟨h1,s,h2,hSI,hK,ho,h4,h9⟩:=hgk rfl;have h3:zaB u (N+1) t.inv s:=by have q:=k4.keep hSI hK (by rw[ho];exact k4.ed);exact q
  have hen2:t2.entry=t.entry/\t2.results=t.results/\t2.inv=t.inv/\t2.sec=s:=by rw[h2];exact⟨rfl,rfl,rfl,rfl⟩
  obtain⟨q1,q2,q3,q4⟩:=hen2
  cases b1
  rotate_left
  ·simp only[if_true];have hp:s.phase=4\/s.phase=9:= .inl (h4.1 rfl);have kk:t2.sec.shards.length=2:=by rw[q4];exact (zca h3 ht.iv hp).2.2.1 zo
   have hpl:=zs6 (t:=t2) (by rw[q4];exact h3.si) kk;have hoi:OI t2.sec (zb1 t2).1:=by
    have h3:zaB u (N+1) t2.inv t2.sec:=by rw[q3,q4];exact h3
    exact zC4 h3.si kk (by rw[h3.c9 (by rw[q3];omega)];unfold zaN;split<;>rfl)
   have hdc:=zbW (t:=t2) (by rw[q4];exact h3.si) hoi;generalize zb1 t2=pl at *;obtain⟨o,r,l⟩:=pl;simp only at *;generalize zaU t2 o=t3 at *;clear ht ha hu k4 h1 h2 h3 h4 h9 ho hSI hK q1 q2 q3 q4 hp kk hoi;have sz_t2:=zA t2;generalize zd t2=D_t2 at *;have sz_t3:=zA t3;generalize zd t3=D_t3 at *;have sz_o:=zcT o;generalize zZ o=D_o at *;have sz_r:=zcJ r;generalize z6 r=D_r at *;simp only[zd] at *;exact zW zhi
  ·simp only[zac8,if_false]
   cases b2
   ·simp only[if_true];clear ht ha hu k4 h1 h2 h3 h4 h9 ho hSI hK q1 q2 q3 q4;have sz_t2:=zA t2;generalize zd t2=D_t2 at *;simp only[zd] at *;exact zW zhi
   ·simp only[zadA,if_false];have hp:s.phase=4\/s.phase=9:= .inr (h9.1 rfl);have kk:t2.sec.shards.length=2:=by rw[q4];exact (zca h3 ht.iv hp).2.2.1 zo
    have hpl:=zs6 (t:=t2) (by rw[q4];exact h3.si) kk;generalize zb1 t2=pl at *;obtain⟨o,r,l⟩:=pl;simp only at *;have hnx:=zcE t2 r n (by rw[q1];exact hen.1) (by rw[q2];exact hen.2);generalize za4 t2 r n=t3 at *;clear ht ha hu k4 h1 h2 h3 h4 h9 ho hSI hK q1 q2 q3 q4 hp kk;have sz_t2:=zA t2;generalize zd t2=D_t2 at *;have sz_t3:=zA t3;generalize zd t3=D_t3 at *;have sz_o:=zcT o;generalize zZ o=D_o at *;have sz_r:=zcJ r;generalize z6 r=D_r at *;simp only[zd] at *;exact zW zhi
theorem z6x(a:zy)(t:zq)(n:Int)(h:z8 t 11 11≠0):zg G zl1 [.d (zi a),.d (zd t),.d (.int .i64 n)] []=some (.d (.tup [zi zF,zd zD,.sl [],.int .i64 (z8 t 11 11)]),[]):=by
 have hg:=zcK t 11 11;have hf:=zbN (z8 t 11 11);generalize z8 t 11 11=ge at *;have sz_zTask:=zA zD;generalize zd zD=D_zTask at *;have sz_t:=zA t;generalize zd t=D_t at *;have sz_zArena:=zaq zF;generalize zi zF=D_zArena at *;exact zW zhj
theorem z6S{u:Setup}{a:zy}{t:zq}{n N:Int}(hu:zJ u=true)(ha:AI u a)(ht:TI u N t)(hN:N<=999999):zg G zl1 [.d (zi a),.d (zd t),.d (.int .i64 n)] []=some (.d (.tup [zi (z7 zbX 11 11 za7 a t n).1,zd (z7 zbX 11 11 za7 a t n).2.1,.sl ((z7 zbX 11 11 za7 a t n).2.2.1.map zad),.int .i64 (z7 zbX 11 11 za7 a t n).2.2.2]),[]):=by
 unfold z7
 by_cases c0:z8 t 11 11=0
 rotate_left
 ·rw[zacY c0];exact z6x a t n c0
 rw[zacX (fun q=>q c0)];have hg:=zcK t 11 11;rw[c0] at hg;obtain⟨g1,g2⟩:=zdx c0;have hen:=zfY ht g1;clear g1;simp only
 by_cases c1:t.pc=0
 ·rw[zacY c1];have hc:zet (zaN t.inv.from_ t.inv.to) u.slots/\1<=(zaN t.inv.from_ t.inv.to).length/\∀s,SI u N s->s.out.edits.length<=1->s.lock.cells=(zaN t.inv.from_ t.inv.to)->zaB u N t.inv s:=by
   obtain⟨v1,v2,v3⟩:=zih ht.iv zo;exact⟨zj0 v1 v2 v3,by unfold zaN;split<;>simp,fun s s1 s2 s3=>⟨s1,s2,fun q=>by omega,fun q=>by omega,fun _=>s3,fun q=>by omega,fun q=>by omega⟩⟩
  obtain⟨a1,a2,a3⟩:=hc;obtain⟨s1,s2,s3⟩:=ziH (N:=N) hu (show t.setup.limit=u.limit by rw[ht.su]) ht.nn a1 a2;have k4:zaB u N (zaO t (zaN t.inv.from_ t.inv.to) 1).inv (zaO t (zaN t.inv.from_ t.inv.to) 1).sec:=a3 _ s1 s2 s3;have hse:=zhD t (zaN t.inv.from_ t.inv.to) 1 (by unfold zaN;split<;>simp);have hpa:=zBP t.inv.from_ t.inv.to;unfold za7;have hT:(zaO t (zaN t.inv.from_ t.inv.to) 1).entry=t.entry/\(zaO t (zaN t.inv.from_ t.inv.to) 1).results=t.results/\(zaO t (zaN t.inv.from_ t.inv.to) 1).inv=t.inv:=⟨rfl,rfl,rfl⟩;clear a1 a2 a3 s1 s2 s3;generalize zaN t.inv.from_ t.inv.to=pr at *;generalize zaO t pr 1=t1 at *;obtain⟨e1,e2,e3⟩:=hT;replace c1:=zadb c1;have hgo:=zeD a t1 n (zeW hu ha k4.si zo);have hgk:=zeE (n:=n) ha k4.si k4.ed;generalize goT a t1 n=g at *;obtain⟨a2,t2,b1,b2,e⟩:=g;simp only at *
  by_cases c4:e=0
  rotate_left
  ·rw[zacY c4];have hf:=zbN e;unfold zaT;clear hgk ht ha hu k4;have sz_t1:=zA t1;generalize zd t1=D_t1 at *;have sz_zTask:=zA zD;generalize zd zD=D_zTask at *;have sz_zArena:=zaq zF;generalize zi zF=D_zArena at *;have sz_t2:=zA t2;generalize zd t2=D_t2 at *;have sz_a2:=zaq a2;generalize zi a2=D_a2 at *;simp only[zd] at *;exact zW zhj
  subst c4;simp only[ne_eq,zac9,if_false];obtain⟨h1,s,h2,hSI,hK,ho,h4,h9⟩:=hgk rfl;have h3:zaB u (N+1) t.inv s:=by have q:=k4.keep hSI hK (by rw[ho];exact k4.ed);rw[e3] at q;exact q
  have hen2:t2.entry=t.entry/\t2.results=t.results/\t2.inv=t.inv/\t2.sec=s:=by rw[h2];exact⟨e1,e2,e3,rfl⟩
  obtain⟨q1,q2,q3,q4⟩:=hen2
  cases b1
  rotate_left
  ·simp only[if_true];have hp:s.phase=4\/s.phase=9:= .inl (h4.1 rfl);have kk:t2.sec.shards.length=2:=by rw[q4];exact (zca h3 ht.iv hp).2.2.1 zo
   have hpl:=zs7 (t:=t2) (by rw[q4];exact h3.si) kk;have hoi:OI t2.sec (zbX t2).1:=by
    have h3:zaB u (N+1) t2.inv t2.sec:=by rw[q3,q4];exact h3
    exact zBw h3.si kk (by rw[h3.c9 (by rw[q3];omega)];unfold zaN;split<;>rfl)
   have hdc:=zbW (t:=t2) (by rw[q4];exact h3.si) hoi;generalize zbX t2=pl at *;obtain⟨o,r,l⟩:=pl;simp only at *;generalize zaU t2 o=t3 at *;clear ht ha hu k4 h1 h2 h3 h4 h9 ho hSI hK q1 q2 q3 q4 hp kk hoi;have sz_t1:=zA t1;generalize zd t1=D_t1 at *;have sz_t2:=zA t2;generalize zd t2=D_t2 at *;have sz_t3:=zA t3;generalize zd t3=D_t3 at *;have sz_o:=zcT o;generalize zZ o=D_o at *;have sz_r:=zcJ r;generalize z6 r=D_r at *;simp only[zd] at *;exact zW zhj
  ·simp only[zac8,if_false]
   cases b2
   ·simp only[if_true];clear ht ha hu k4 h1 h2 h3 h4 h9 ho hSI hK q1 q2 q3 q4;have sz_t1:=zA t1;generalize zd t1=D_t1 at *;have sz_t2:=zA t2;generalize zd t2=D_t2 at *;simp only[zd] at *;exact zW zhj
   ·simp only[zadA,if_false];have hp:s.phase=4\/s.phase=9:= .inr (h9.1 rfl);have kk:t2.sec.shards.length=2:=by rw[q4];exact (zca h3 ht.iv hp).2.2.1 zo
    have hpl:=zs7 (t:=t2) (by rw[q4];exact h3.si) kk;generalize zbX t2=pl at *;obtain⟨o,r,l⟩:=pl;simp only at *;have hnx:=zcE t2 r n (by rw[q1];exact hen.1) (by rw[q2];exact hen.2);generalize za4 t2 r n=t3 at *;clear ht ha hu k4 h1 h2 h3 h4 h9 ho hSI hK q1 q2 q3 q4 hp kk;have sz_t1:=zA t1;generalize zd t1=D_t1 at *;have sz_t2:=zA t2;generalize zd t2=D_t2 at *;have sz_t3:=zA t3;generalize zd t3=D_t3 at *;have sz_o:=zcT o;generalize zZ o=D_o at *;have sz_r:=zcJ r;generalize z6 r=D_r at *;simp only[zd] at *;exact zW zhj
 ·rw[zacX c1];have k4:=ht.se ⟨c1,by omega⟩;replace c1:=zac3 c1;have hgo:=zeD a t n (zeW hu ha k4.si zo);have hgk:=zeE (n:=n) ha k4.si k4.ed;generalize goT a t n=g at *;obtain⟨a2,t2,b1,b2,e⟩:=g;simp only at *
  by_cases c4:e=0
  rotate_left
  ·rw[zacY c4];have hf:=zbN e;unfold zaT;clear hgk ht ha hu k4;have sz_zTask:=zA zD;generalize zd zD=D_zTask at *;have sz_zArena:=zaq zF;generalize zi zF=D_zArena at *;have sz_t2:=zA t2;generalize zd t2=D_t2 at *;have sz_a2:=zaq a2;generalize zi a2=D_a2 at *;simp only[zd] at *;exact zW zhj
  subst c4;simp only[ne_eq,zac9,if_false];obtain⟨h1,s,h2,hSI,hK,ho,h4,h9⟩:=hgk rfl;have h3:zaB u (N+1) t.inv s:=by have q:=k4.keep hSI hK (by rw[ho];exact k4.ed);exact q
  have hen2:t2.entry=t.entry/\t2.results=t.results/\t2.inv=t.inv/\t2.sec=s:=by rw[h2];exact⟨rfl,rfl,rfl,rfl⟩
  obtain⟨q1,q2,q3,q4⟩:=hen2
  cases b1
  rotate_left
  ·simp only[if_true];have hp:s.phase=4\/s.phase=9:= .inl (h4.1 rfl);have kk:t2.sec.shards.length=2:=by rw[q4];exact (zca h3 ht.iv hp).2.2.1 zo
   have hpl:=zs7 (t:=t2) (by rw[q4];exact h3.si) kk;have hoi:OI t2.sec (zbX t2).1:=by
    have h3:zaB u (N+1) t2.inv t2.sec:=by rw[q3,q4];exact h3
    exact zBw h3.si kk (by rw[h3.c9 (by rw[q3];omega)];unfold zaN;split<;>rfl)
   have hdc:=zbW (t:=t2) (by rw[q4];exact h3.si) hoi;generalize zbX t2=pl at *;obtain⟨o,r,l⟩:=pl;simp only at *;generalize zaU t2 o=t3 at *;clear ht ha hu k4 h1 h2 h3 h4 h9 ho hSI hK q1 q2 q3 q4 hp kk hoi;have sz_t2:=zA t2;generalize zd t2=D_t2 at *;have sz_t3:=zA t3;generalize zd t3=D_t3 at *;have sz_o:=zcT o;generalize zZ o=D_o at *;have sz_r:=zcJ r;generalize z6 r=D_r at *;simp only[zd] at *;exact zW zhj
  ·simp only[zac8,if_false]
   cases b2
   ·simp only[if_true];clear ht ha hu k4 h1 h2 h3 h4 h9 ho hSI hK q1 q2 q3 q4;have sz_t2:=zA t2;generalize zd t2=D_t2 at *;simp only[zd] at *;exact zW zhj
   ·simp only[zadA,if_false];have hp:s.phase=4\/s.phase=9:= .inr (h9.1 rfl);have kk:t2.sec.shards.length=2:=by rw[q4];exact (zca h3 ht.iv hp).2.2.1 zo
    have hpl:=zs7 (t:=t2) (by rw[q4];exact h3.si) kk;generalize zbX t2=pl at *;obtain⟨o,r,l⟩:=pl;simp only at *;have hnx:=zcE t2 r n (by rw[q1];exact hen.1) (by rw[q2];exact hen.2);generalize za4 t2 r n=t3 at *;clear ht ha hu k4 h1 h2 h3 h4 h9 ho hSI hK q1 q2 q3 q4 hp kk;have sz_t2:=zA t2;generalize zd t2=D_t2 at *;have sz_t3:=zA t3;generalize zd t3=D_t3 at *;have sz_o:=zcT o;generalize zZ o=D_o at *;have sz_r:=zcJ r;generalize z6 r=D_r at *;simp only[zd] at *;exact zW zhj
theorem z6y(a:zy)(t:zq)(n:Int)(h:z8 t 12 13≠0):zg G zl2 [.d (zi a),.d (zd t),.d (.int .i64 n)] []=some (.d (.tup [zi zF,zd zD,.sl [],.int .i64 (z8 t 12 13)]),[]):=by
 have hg:=zcK t 12 13;have hf:=zbN (z8 t 12 13);generalize z8 t 12 13=ge at *;have sz_zTask:=zA zD;generalize zd zD=D_zTask at *;have sz_t:=zA t;generalize zd t=D_t at *;have sz_zArena:=zaq zF;generalize zi zF=D_zArena at *;exact zW zhk
theorem zNb{u:Setup}{a:zy}{t:zq}{n N:Int}(hu:zJ u=true)(ha:AI u a)(ht:TI u N t)(hN:N<=999999):zg G zl2 [.d (zi a),.d (zd t),.d (.int .i64 n)] []=some (.d (.tup [zi (z7 zbx 12 13 (fun t=>[t.inv.from_]) a t n).1,zd (z7 zbx 12 13 (fun t=>[t.inv.from_]) a t n).2.1,.sl ((z7 zbx 12 13 (fun t=>[t.inv.from_]) a t n).2.2.1.map zad),.int .i64 (z7 zbx 12 13 (fun t=>[t.inv.from_]) a t n).2.2.2]),[]):=by
 unfold z7
 by_cases c0:z8 t 12 13=0
 rotate_left
 ·rw[zacY c0];exact z6y a t n c0
 rw[zacX (fun q=>q c0)];have hg:=zcK t 12 13;rw[c0] at hg;obtain⟨g1,g2⟩:=zdx c0;have hen:=zfY ht g1;clear g1;simp only
 by_cases c1:t.pc=0
 ·rw[zacY c1];have hc:zet [t.inv.from_] u.slots/\1<=[t.inv.from_].length/\∀s,SI u N s->s.out.edits.length<=1->s.lock.cells=[t.inv.from_]->zaB u N t.inv s:=by
   have v:0<=t.inv.from_/\t.inv.from_<=u.slots:=by
    by_cases q:t.inv.kind=13
    ·exact zLZ ht.iv q
    ·have:=zkA ht.iv (.inl zo);omega
   exact⟨zuk v,by simp,fun s s1 s2 s3=>⟨s1,s2,fun q=>by omega,fun q=>by omega,fun q=>by omega,fun _=>s3,fun q=>by omega⟩⟩
  obtain⟨a1,a2,a3⟩:=hc;obtain⟨s1,s2,s3⟩:=ziH (N:=N) hu (show t.setup.limit=u.limit by rw[ht.su]) ht.nn a1 a2;have k4:zaB u N (zaO t [t.inv.from_] 1).inv (zaO t [t.inv.from_] 1).sec:=a3 _ s1 s2 s3;have hse:=zhD t [t.inv.from_] 1 (by simp);have hT:(zaO t [t.inv.from_] 1).entry=t.entry/\(zaO t [t.inv.from_] 1).results=t.results/\(zaO t [t.inv.from_] 1).inv=t.inv:=⟨rfl,rfl,rfl⟩;clear a1 a2 a3 s1 s2 s3;simp only[zB,zac1,zacZ] at hse;generalize zaO t [t.inv.from_] 1=t1 at *;obtain⟨e1,e2,e3⟩:=hT;replace c1:=zadb c1;have hgo:=zeD a t1 n (zeW hu ha k4.si zo);have hgk:=zeE (n:=n) ha k4.si k4.ed;generalize goT a t1 n=g at *;obtain⟨a2,t2,b1,b2,e⟩:=g;simp only at *
  by_cases c4:e=0
  rotate_left
  ·rw[zacY c4];have hf:=zbN e;unfold zaT;clear hgk ht ha hu k4;have sz_t1:=zA t1;generalize zd t1=D_t1 at *;have sz_zTask:=zA zD;generalize zd zD=D_zTask at *;have sz_zArena:=zaq zF;generalize zi zF=D_zArena at *;have sz_t2:=zA t2;generalize zd t2=D_t2 at *;have sz_a2:=zaq a2;generalize zi a2=D_a2 at *;simp only[zd] at *;exact zW zhk
  subst c4;simp only[ne_eq,zac9,if_false];obtain⟨h1,s,h2,hSI,hK,ho,h4,h9⟩:=hgk rfl;have h3:zaB u (N+1) t.inv s:=by have q:=k4.keep hSI hK (by rw[ho];exact k4.ed);rw[e3] at q;exact q
  have hen2:t2.entry=t.entry/\t2.results=t.results/\t2.inv=t.inv/\t2.sec=s:=by rw[h2];exact⟨e1,e2,e3,rfl⟩
  obtain⟨q1,q2,q3,q4⟩:=hen2
  cases b1
  rotate_left
  ·simp only[if_true];have hp:s.phase=4\/s.phase=9:= .inl (h4.1 rfl);have kk:t2.sec.shards.length<=1:=by rw[q4];exact (zca h3 ht.iv hp).2.2.2.1 zo
   have hpl:=zs8 (t:=t2) (by rw[q4];exact h3.si) kk;have hoi:OI t2.sec (zbx t2).1:=by
    have h3:zaB u (N+1) t2.inv t2.sec:=by rw[q3,q4];exact h3
    exact zDa h3.si kk
   have hdc:=zbW (t:=t2) (by rw[q4];exact h3.si) hoi;generalize zbx t2=pl at *;obtain⟨o,r,l⟩:=pl;simp only at *;generalize zaU t2 o=t3 at *;clear ht ha hu k4 h1 h2 h3 h4 h9 ho hSI hK q1 q2 q3 q4 hp kk hoi;have sz_t1:=zA t1;generalize zd t1=D_t1 at *;have sz_t2:=zA t2;generalize zd t2=D_t2 at *;have sz_t3:=zA t3;generalize zd t3=D_t3 at *;have sz_o:=zcT o;generalize zZ o=D_o at *;have sz_r:=zcJ r;generalize z6 r=D_r at *;simp only[zd] at *;exact zW zhk
  ·simp only[zac8,if_false]
   cases b2
   ·simp only[if_true];clear ht ha hu k4 h1 h2 h3 h4 h9 ho hSI hK q1 q2 q3 q4;have sz_t1:=zA t1;generalize zd t1=D_t1 at *;have sz_t2:=zA t2;generalize zd t2=D_t2 at *;simp only[zd] at *;exact zW zhk
   ·simp only[zadA,if_false];have hp:s.phase=4\/s.phase=9:= .inr (h9.1 rfl);have kk:t2.sec.shards.length<=1:=by rw[q4];exact (zca h3 ht.iv hp).2.2.2.1 zo
    have hpl:=zs8 (t:=t2) (by rw[q4];exact h3.si) kk;generalize zbx t2=pl at *;obtain⟨o,r,l⟩:=pl;simp only at *;have hnx:=zcE t2 r n (by rw[q1];exact hen.1) (by rw[q2];exact hen.2);generalize za4 t2 r n=t3 at *;clear ht ha hu k4 h1 h2 h3 h4 h9 ho hSI hK q1 q2 q3 q4 hp kk;have sz_t1:=zA t1;generalize zd t1=D_t1 at *;have sz_t2:=zA t2;generalize zd t2=D_t2 at *;have sz_t3:=zA t3;generalize zd t3=D_t3 at *;have sz_o:=zcT o;generalize zZ o=D_o at *;have sz_r:=zcJ r;generalize z6 r=D_r at *;simp only[zd] at *;exact zW zhk
 ·rw[zacX c1];have k4:=ht.se ⟨c1,by omega⟩;replace c1:=zac3 c1;have hgo:=zeD a t n (zeW hu ha k4.si zo);have hgk:=zeE (n:=n) ha k4.si k4.ed;generalize goT a t n=g at *;obtain⟨a2,t2,b1,b2,e⟩:=g;simp only at *
  by_cases c4:e=0
  rotate_left
  ·rw[zacY c4];have hf:=zbN e;unfold zaT;clear hgk ht ha hu k4;have sz_zTask:=zA zD;generalize zd zD=D_zTask at *;have sz_zArena:=zaq zF;generalize zi zF=D_zArena at *;have sz_t2:=zA t2;generalize zd t2=D_t2 at *;have sz_a2:=zaq a2;generalize zi a2=D_a2 at *;simp only[zd] at *;exact zW zhk
  subst c4;simp only[ne_eq,zac9,if_false];obtain⟨h1,s,h2,hSI,hK,ho,h4,h9⟩:=hgk rfl;have h3:zaB u (N+1) t.inv s:=by have q:=k4.keep hSI hK (by rw[ho];exact k4.ed);exact q
  have hen2:t2.entry=t.entry/\t2.results=t.results/\t2.inv=t.inv/\t2.sec=s:=by rw[h2];exact⟨rfl,rfl,rfl,rfl⟩
  obtain⟨q1,q2,q3,q4⟩:=hen2
  cases b1
  rotate_left
  ·simp only[if_true];have hp:s.phase=4\/s.phase=9:= .inl (h4.1 rfl);have kk:t2.sec.shards.length<=1:=by rw[q4];exact (zca h3 ht.iv hp).2.2.2.1 zo
   have hpl:=zs8 (t:=t2) (by rw[q4];exact h3.si) kk;have hoi:OI t2.sec (zbx t2).1:=by
    have h3:zaB u (N+1) t2.inv t2.sec:=by rw[q3,q4];exact h3
    exact zDa h3.si kk
   have hdc:=zbW (t:=t2) (by rw[q4];exact h3.si) hoi;generalize zbx t2=pl at *;obtain⟨o,r,l⟩:=pl;simp only at *;generalize zaU t2 o=t3 at *;clear ht ha hu k4 h1 h2 h3 h4 h9 ho hSI hK q1 q2 q3 q4 hp kk hoi;have sz_t2:=zA t2;generalize zd t2=D_t2 at *;have sz_t3:=zA t3;generalize zd t3=D_t3 at *;have sz_o:=zcT o;generalize zZ o=D_o at *;have sz_r:=zcJ r;generalize z6 r=D_r at *;simp only[zd] at *;exact zW zhk
  ·simp only[zac8,if_false]
   cases b2
   ·simp only[if_true];clear ht ha hu k4 h1 h2 h3 h4 h9 ho hSI hK q1 q2 q3 q4;have sz_t2:=zA t2;generalize zd t2=D_t2 at *;simp only[zd] at *;exact zW zhk
   ·simp only[zadA,if_false];have hp:s.phase=4\/s.phase=9:= .inr (h9.1 rfl);have kk:t2.sec.shards.length<=1:=by rw[q4];exact (zca h3 ht.iv hp).2.2.2.1 zo
    have hpl:=zs8 (t:=t2) (by rw[q4];exact h3.si) kk;generalize zbx t2=pl at *;obtain⟨o,r,l⟩:=pl;simp only at *;have hnx:=zcE t2 r n (by rw[q1];exact hen.1) (by rw[q2];exact hen.2);generalize za4 t2 r n=t3 at *;clear ht ha hu k4 h1 h2 h3 h4 h9 ho hSI hK q1 q2 q3 q4 hp kk;have sz_t2:=zA t2;generalize zd t2=D_t2 at *;have sz_t3:=zA t3;generalize zd t3=D_t3 at *;have sz_o:=zcT o;generalize zZ o=D_o at *;have sz_r:=zcJ r;generalize z6 r=D_r at *;simp only[zd] at *;exact zW zhk
theorem z6z(a:zy)(t:zq)(n:Int)(h:z8 t 14 14≠0):zg G zl3 [.d (zi a),.d (zd t),.d (.int .i64 n)] []=some (.d (.tup [zi zF,zd zD,.sl [],.int .i64 (z8 t 14 14)]),[]):=by
 have hg:=zcK t 14 14;have hf:=zbN (z8 t 14 14);generalize z8 t 14 14=ge at *;have sz_zTask:=zA zD;generalize zd zD=D_zTask at *;have sz_t:=zA t;generalize zd t=D_t at *;have sz_zArena:=zaq zF;generalize zi zF=D_zArena at *;exact zW zhl
theorem z6T{u:Setup}{a:zy}{t:zq}{n N:Int}(hu:zJ u=true)(ha:AI u a)(ht:TI u N t)(hN:N<=999999):zg G zl3 [.d (zi a),.d (zd t),.d (.int .i64 n)] []=some (.d (.tup [zi (z7 zbT 14 14 (fun t=>[t.inv.from_,t.setup.slots]) a t n).1,zd (z7 zbT 14 14 (fun t=>[t.inv.from_,t.setup.slots]) a t n).2.1,.sl ((z7 zbT 14 14 (fun t=>[t.inv.from_,t.setup.slots]) a t n).2.2.1.map zad),.int .i64 (z7 zbT 14 14 (fun t=>[t.inv.from_,t.setup.slots]) a t n).2.2.2]),[]):=by
 unfold z7
 by_cases c0:z8 t 14 14=0
 rotate_left
 ·rw[zacY c0];exact z6z a t n c0
 rw[zacX (fun q=>q c0)];have hg:=zcK t 14 14;rw[c0] at hg;obtain⟨g1,g2⟩:=zdx c0;have hen:=zfY ht g1;clear g1;simp only
 by_cases c1:t.pc=0
 ·rw[zacY c1];have hc:zet [t.inv.from_,t.setup.slots] u.slots/\1<=[t.inv.from_,t.setup.slots].length/\∀s,SI u N s->s.out.edits.length<=1->s.lock.cells=[t.inv.from_,t.setup.slots]->zaB u N t.inv s:=by
   have v:=zkA ht.iv (.inr zo);exact⟨zma v.1 (by rw[ht.su];exact v.2) (by rw[ht.su];exact zae3 _),by simp,fun s s1 s2 s3=>⟨s1,s2,fun q=>by omega,fun q=>by omega,fun q=>by omega,fun q=>by omega,fun _=>by rw[s3,ht.su]⟩⟩
  obtain⟨a1,a2,a3⟩:=hc;obtain⟨s1,s2,s3⟩:=ziH (N:=N) hu (show t.setup.limit=u.limit by rw[ht.su]) ht.nn a1 a2;have k4:zaB u N (zaO t [t.inv.from_,t.setup.slots] 1).inv (zaO t [t.inv.from_,t.setup.slots] 1).sec:=a3 _ s1 s2 s3;have hse:=zhD t [t.inv.from_,t.setup.slots] 1 (by simp);have hT:(zaO t [t.inv.from_,t.setup.slots] 1).entry=t.entry/\(zaO t [t.inv.from_,t.setup.slots] 1).results=t.results/\(zaO t [t.inv.from_,t.setup.slots] 1).inv=t.inv:=⟨rfl,rfl,rfl⟩;clear a1 a2 a3 s1 s2 s3;simp only[zB,zac1,zacZ] at hse;generalize zaO t [t.inv.from_,t.setup.slots] 1=t1 at *;obtain⟨e1,e2,e3⟩:=hT;replace c1:=zadb c1;have hgo:=zeD a t1 n (zeW hu ha k4.si zo);have hgk:=zeE (n:=n) ha k4.si k4.ed;generalize goT a t1 n=g at *;obtain⟨a2,t2,b1,b2,e⟩:=g;simp only at *
  by_cases c4:e=0
  rotate_left
  ·rw[zacY c4];have hf:=zbN e;unfold zaT;clear hgk ht ha hu k4;have sz_t1:=zA t1;generalize zd t1=D_t1 at *;have sz_zTask:=zA zD;generalize zd zD=D_zTask at *;have sz_zArena:=zaq zF;generalize zi zF=D_zArena at *;have sz_t2:=zA t2;generalize zd t2=D_t2 at *;have sz_a2:=zaq a2;generalize zi a2=D_a2 at *;simp only[zd] at *;exact zW zhl
  subst c4;simp only[ne_eq,zac9,if_false];obtain⟨h1,s,h2,hSI,hK,ho,h4,h9⟩:=hgk rfl;have h3:zaB u (N+1) t.inv s:=by have q:=k4.keep hSI hK (by rw[ho];exact k4.ed);rw[e3] at q;exact q
  have hen2:t2.entry=t.entry/\t2.results=t.results/\t2.inv=t.inv/\t2.sec=s:=by rw[h2];exact⟨e1,e2,e3,rfl⟩
  obtain⟨q1,q2,q3,q4⟩:=hen2
  cases b1
  rotate_left
  ·simp only[if_true];have hp:s.phase=4\/s.phase=9:= .inl (h4.1 rfl);have kk:t2.sec.shards.length=1:=by rw[q4];exact (zca h3 ht.iv hp).2.2.2.2 zo
   have hpl:=zs9 (t:=t2) (by rw[q4];exact h3.si) kk;have hoi:OI t2.sec (zbT t2).1:=by
    have h3:zaB u (N+1) t2.inv t2.sec:=by rw[q3,q4];exact h3
    exact zuy h3.si kk (by rw[h3.c14 (by rw[q3];omega)];rfl)
   have hdc:=zbW (t:=t2) (by rw[q4];exact h3.si) hoi;generalize zbT t2=pl at *;obtain⟨o,r,l⟩:=pl;simp only at *;generalize zaU t2 o=t3 at *;clear ht ha hu k4 h1 h2 h3 h4 h9 ho hSI hK q1 q2 q3 q4 hp kk hoi;have sz_t1:=zA t1;generalize zd t1=D_t1 at *;have sz_t2:=zA t2;generalize zd t2=D_t2 at *;have sz_t3:=zA t3;generalize zd t3=D_t3 at *;have sz_o:=zcT o;generalize zZ o=D_o at *;have sz_r:=zcJ r;generalize z6 r=D_r at *;simp only[zd] at *;exact zW zhl
  ·simp only[zac8,if_false]
   cases b2
   ·simp only[if_true];clear ht ha hu k4 h1 h2 h3 h4 h9 ho hSI hK q1 q2 q3 q4;have sz_t1:=zA t1;generalize zd t1=D_t1 at *;have sz_t2:=zA t2;generalize zd t2=D_t2 at *;simp only[zd] at *;exact zW zhl
   ·simp only[zadA,if_false];have hp:s.phase=4\/s.phase=9:= .inr (h9.1 rfl);have kk:t2.sec.shards.length=1:=by rw[q4];exact (zca h3 ht.iv hp).2.2.2.2 zo
    have hpl:=zs9 (t:=t2) (by rw[q4];exact h3.si) kk;generalize zbT t2=pl at *;obtain⟨o,r,l⟩:=pl;simp only at *;have hnx:=zcE t2 r n (by rw[q1];exact hen.1) (by rw[q2];exact hen.2);generalize za4 t2 r n=t3 at *;clear ht ha hu k4 h1 h2 h3 h4 h9 ho hSI hK q1 q2 q3 q4 hp kk;have sz_t1:=zA t1;generalize zd t1=D_t1 at *;have sz_t2:=zA t2;generalize zd t2=D_t2 at *;have sz_t3:=zA t3;generalize zd t3=D_t3 at *;have sz_o:=zcT o;generalize zZ o=D_o at *;have sz_r:=zcJ r;generalize z6 r=D_r at *;simp only[zd] at *;exact zW zhl
 ·rw[zacX c1];have k4:=ht.se ⟨c1,by omega⟩;replace c1:=zac3 c1;have hgo:=zeD a t n (zeW hu ha k4.si zo);have hgk:=zeE (n:=n) ha k4.si k4.ed;generalize goT a t n=g at *;obtain⟨a2,t2,b1,b2,e⟩:=g;simp only at *
  by_cases c4:e=0
  rotate_left
  ·rw[zacY c4];have hf:=zbN e;unfold zaT;clear hgk ht ha hu k4;have sz_zTask:=zA zD;generalize zd zD=D_zTask at *;have sz_zArena:=zaq zF;generalize zi zF=D_zArena at *;have sz_t2:=zA t2;generalize zd t2=D_t2 at *;have sz_a2:=zaq a2;generalize zi a2=D_a2 at *;simp only[zd] at *;exact zW zhl
  subst c4;simp only[ne_eq,zac9,if_false];obtain⟨h1,s,h2,hSI,hK,ho,h4,h9⟩:=hgk rfl;have h3:zaB u (N+1) t.inv s:=by have q:=k4.keep hSI hK (by rw[ho];exact k4.ed);exact q
  have hen2:t2.entry=t.entry/\t2.results=t.results/\t2.inv=t.inv/\t2.sec=s:=by rw[h2];exact⟨rfl,rfl,rfl,rfl⟩
  obtain⟨q1,q2,q3,q4⟩:=hen2
  cases b1
  rotate_left
  ·simp only[if_true];have hp:s.phase=4\/s.phase=9:= .inl (h4.1 rfl);have kk:t2.sec.shards.length=1:=by rw[q4];exact (zca h3 ht.iv hp).2.2.2.2 zo
   have hpl:=zs9 (t:=t2) (by rw[q4];exact h3.si) kk;have hoi:OI t2.sec (zbT t2).1:=by
    have h3:zaB u (N+1) t2.inv t2.sec:=by rw[q3,q4];exact h3
    exact zuy h3.si kk (by rw[h3.c14 (by rw[q3];omega)];rfl)
   have hdc:=zbW (t:=t2) (by rw[q4];exact h3.si) hoi;generalize zbT t2=pl at *;obtain⟨o,r,l⟩:=pl;simp only at *;generalize zaU t2 o=t3 at *;clear ht ha hu k4 h1 h2 h3 h4 h9 ho hSI hK q1 q2 q3 q4 hp kk hoi;have sz_t2:=zA t2;generalize zd t2=D_t2 at *;have sz_t3:=zA t3;generalize zd t3=D_t3 at *;have sz_o:=zcT o;generalize zZ o=D_o at *;have sz_r:=zcJ r;generalize z6 r=D_r at *;simp only[zd] at *;exact zW zhl
  ·simp only[zac8,if_false]
   cases b2
   ·simp only[if_true];clear ht ha hu k4 h1 h2 h3 h4 h9 ho hSI hK q1 q2 q3 q4;have sz_t2:=zA t2;generalize zd t2=D_t2 at *;simp only[zd] at *;exact zW zhl
   ·simp only[zadA,if_false];have hp:s.phase=4\/s.phase=9:= .inr (h9.1 rfl);have kk:t2.sec.shards.length=1:=by rw[q4];exact (zca h3 ht.iv hp).2.2.2.2 zo
    have hpl:=zs9 (t:=t2) (by rw[q4];exact h3.si) kk;generalize zbT t2=pl at *;obtain⟨o,r,l⟩:=pl;simp only at *;have hnx:=zcE t2 r n (by rw[q1];exact hen.1) (by rw[q2];exact hen.2);generalize za4 t2 r n=t3 at *;clear ht ha hu k4 h1 h2 h3 h4 h9 ho hSI hK q1 q2 q3 q4 hp kk;have sz_t2:=zA t2;generalize zd t2=D_t2 at *;have sz_t3:=zA t3;generalize zd t3=D_t3 at *;have sz_o:=zcT o;generalize zZ o=D_o at *;have sz_r:=zcJ r;generalize z6 r=D_r at *;simp only[zd] at *;exact zW zhl
end Go.Proofs.YtdnlddoeamjcoaaGreat
