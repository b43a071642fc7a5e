/-
  The script.
-/
import Derived.Test.YtnmcgdpmikhohaaGreatBc8d43d5
import Derived.Test.YtnmcgdpmikhohaaGreatBbf76a49
import Derived.Test.YtnmcgdpmikhohaaGreatB3dc7559
set_option linter.unusedSimpArgs false
set_option linter.unusedVariables false
set_option maxHeartbeats 10000000
set_option maxRecDepth 100000
namespace Go.Proofs.YtnmcgdpmikhohaaGreat
open Go Go.Sim
def PF(F Fp:Nat)(lo hi:Int)(cl:zq->List Int):Prop:=(F=zlK/\Fp=zlL/\lo=9/\hi=9/\cl=zbG)\/(F=zlM/\Fp=zlN/\lo=10/\hi=10/\cl=zbG)\/(F=zlO/\Fp=zlP/\lo=11/\hi=11/\cl=zbG)\/(F=zjB/\Fp=zjC/\lo=12/\hi=13/\cl=fun t=>[t.inv.from_])\/(F=zlQ/\Fp=zjD/\lo=14/\hi=14/\cl=fun t=>[t.inv.from_,t.setup.slots])
theorem pfl{F Fp:Nat}{lo hi:Int}{cl:zq->List Int}(hF:PF F Fp lo hi cl)(a:zy)(t:zq)(n:Int)(h:zan t lo hi≠0):zi G F [.d (zx a),.d (zf t),.d (.int .i64 n)] []=some (.d (.tup [zx zM,zf zE,.sl [],.int .i64 (zan t lo hi)]),[]):=by
 have hg:=zeP t lo hi;have hf:=zcY (zan t lo hi);generalize zan t lo hi=ge at *;replace h:=zabt h;have sz_zTask:=zQ zE;generalize zf zE=D_zTask at *;have sz_t:=zQ t;generalize zf t=D_t at *;have sz_zArena:=zby zM;generalize zx zM=D_zArena at *
 rcases hF with hF|hF|hF|hF|hF<;>obtain⟨rfl,rfl,rfl,rfl,rfl⟩:=hF
 ·exact zW zgT
 ·exact zW zgU
 ·exact zW zgV
 ·exact zW zgW
 ·exact zW zgX
theorem pw {F Fp:Nat} {lo hi:Int} {cl:zq->List Int} (hF:PF F Fp lo hi cl) (a a2:zy) (t t1 t2:zq) (n e:Int) (b1 b2:Bool) (R:D) (hg:zi G zlH [.d (zf t),.d (.int .i64 lo),.d (.int .i64 hi)] []=some (.d (.int .i64 0),[]))
    (hse:t.pc=0->zi G zlI [.d (zf t),.d (.sl (zC (cl t))),.d (.int .i64 1)] []=some (.d (zf t1),[])) (hs0:¬t.pc=0->t1=t)
    (hgo:zi G zlG [.d (zx a),.d (zf t1),.d (.int .i64 n)] []=some (.d (.tup [zx a2,zf t2,.bool b1,.bool b2,.int .i64 e]),[]))
    (hR:(¬e=0/\R= .tup [zx zM,zf zE,.sl [],.int .i64 e])\/(e=0/\b1=true/\∃(o:zb1) (r:Result) (l:List D) (t3:zq),zi G Fp [.d (zf t2)] []=some (.d (.tup [zU o,z7 r,.sl l]),[])/\zi G zjw [.d (zf t2),.d (zU o)] []=some (.d (zf t3),[])/\R= .tup [zx a2,zf t3,.sl l,.int .i64 0])\/(e=0/\b1=false/\b2=false/\R= .tup [zx a2,zf t2,.sl [],.int .i64 0])
     \/ (e=0/\b1=false/\b2=true/\∃(o:zb1) (r:Result) (l:List D) (t3:zq),zi G Fp [.d (zf t2)] []=some (.d (.tup [zU o,z7 r,.sl l]),[])/\zi G zlF [.d (zf t2),.d (z7 r),.d (.int .i64 n)] []=some (.d (zf t3),[])/\R= .tup [zx a2,zf t3,.sl [],.int .i64 0])):zi G F [.d (zx a),.d (zf t),.d (.int .i64 n)] []=some (.d R,[]):=by
 have hpa:=z4L t.inv.from_ t.inv.to;have hf:=zcY e;have sz_zTask:=zQ zE;generalize zf zE=D_zTask at *;have sz_zArena:=zby zM;generalize zx zM=D_zArena at *;have sz_a2:=zby a2;generalize zx a2=D_a2 at *;have sz_t2:=zQ t2;generalize zf t2=D_t2 at *
 by_cases c1:t.pc=0
 ·replace hse:=hse c1;replace c1:=zabA c1;clear hs0;have sz_t1:=zQ t1;generalize zf t1=D_t1 at *
  rcases hR with ⟨c2,rfl⟩|⟨rfl,rfl,o,r,l,t3,hp,hd,rfl⟩|⟨rfl,rfl,rfl,rfl⟩|⟨rfl,rfl,rfl,o,r,l,t3,hp,hd,rfl⟩
  ·replace c2:=zabt c2
   rcases hF with hF|hF|hF|hF|hF<;>obtain⟨rfl,rfl,rfl,rfl,rfl⟩:=hF
   all_goals simp only[zf,zbG,zC,zabs,zabq] at *
   all_goals first|(exact zW zgT)|(exact zW zgU)|(exact zW zgV)|(exact zW zgW)|(exact zW zgX)
  ·have sz_o:=zri o;generalize zU o=D_o at *;have sz_r:=zl9 r;generalize z7 r=D_r at *;have sz_t3:=zQ t3;generalize zf t3=D_t3 at *
   rcases hF with hF|hF|hF|hF|hF<;>obtain⟨rfl,rfl,rfl,rfl,rfl⟩:=hF
   all_goals simp only[zf,zbG,zC,zabs,zabq] at *
   all_goals first|(exact zW zgT)|(exact zW zgU)|(exact zW zgV)|(exact zW zgW)|(exact zW zgX)
  ·rcases hF with hF|hF|hF|hF|hF<;>obtain⟨rfl,rfl,rfl,rfl,rfl⟩:=hF
   all_goals simp only[zf,zbG,zC,zabs,zabq] at *
   all_goals first|(exact zW zgT)|(exact zW zgU)|(exact zW zgV)|(exact zW zgW)|(exact zW zgX)
  ·have sz_o:=zri o;generalize zU o=D_o at *;have sz_r:=zl9 r;generalize z7 r=D_r at *;have sz_t3:=zQ t3;generalize zf t3=D_t3 at *
   rcases hF with hF|hF|hF|hF|hF<;>obtain⟨rfl,rfl,rfl,rfl,rfl⟩:=hF
   all_goals simp only[zf,zbG,zC,zabs,zabq] at *
   all_goals first|(exact zW zgT)|(exact zW zgU)|(exact zW zgV)|(exact zW zgW)|(exact zW zgX)
 ·replace hs0:=hs0 c1;subst hs0;replace c1:=zabt c1;clear hse
  rcases hR with ⟨c2,rfl⟩|⟨rfl,rfl,o,r,l,t3,hp,hd,rfl⟩|⟨rfl,rfl,rfl,rfl⟩|⟨rfl,rfl,rfl,o,r,l,t3,hp,hd,rfl⟩
  ·replace c2:=zabt c2
   rcases hF with hF|hF|hF|hF|hF<;>obtain⟨rfl,rfl,rfl,rfl,rfl⟩:=hF
   all_goals simp only[zf,zbG,zC,zabs,zabq] at *
   all_goals first|(exact zW zgT)|(exact zW zgU)|(exact zW zgV)|(exact zW zgW)|(exact zW zgX)
  ·have sz_o:=zri o;generalize zU o=D_o at *;have sz_r:=zl9 r;generalize z7 r=D_r at *;have sz_t3:=zQ t3;generalize zf t3=D_t3 at *
   rcases hF with hF|hF|hF|hF|hF<;>obtain⟨rfl,rfl,rfl,rfl,rfl⟩:=hF
   all_goals simp only[zf,zbG,zC,zabs,zabq] at *
   all_goals first|(exact zW zgT)|(exact zW zgU)|(exact zW zgV)|(exact zW zgW)|(exact zW zgX)
  ·rcases hF with hF|hF|hF|hF|hF<;>obtain⟨rfl,rfl,rfl,rfl,rfl⟩:=hF
   all_goals simp only[zf,zbG,zC,zabs,zabq] at *
   all_goals first|(exact zW zgT)|(exact zW zgU)|(exact zW zgV)|(exact zW zgW)|(exact zW zgX)
  ·have sz_o:=zri o;generalize zU o=D_o at *;have sz_r:=zl9 r;generalize z7 r=D_r at *;have sz_t3:=zQ t3;generalize zf t3=D_t3 at *
   rcases hF with hF|hF|hF|hF|hF<;>obtain⟨rfl,rfl,rfl,rfl,rfl⟩:=hF
   all_goals simp only[zf,zbG,zC,zabs,zabq] at *
   all_goals first|(exact zW zgT)|(exact zW zgU)|(exact zW zgV)|(exact zW zgW)|(exact zW zgX)
structure zqA(u:Setup)(Fp:Nat)(P:zq->Pln)(lo hi:Int)(cl:zq->List Int):Prop where
 cells:∀ {N:Int} {t:zq},TI u N t->lo<=t.inv.kind/\t.inv.kind<=hi->zga (cl t) u.slots/\1<=(cl t).length/\(cl t).length<=2/\∀s,SI u N s->s.out.edits.length<=1->s.lock.cells=cl t->zbd u N t.inv s
 plan:∀ {N:Int} {t:zq},zbd u N t.inv t.sec->zbM t.inv u=0->lo<=t.inv.kind/\t.inv.kind<=hi->t.sec.phase=4\/t.sec.phase=9->zi G Fp [.d (zf t)] []=some (.d (.tup [zU (P t).1,z7 (P t).2.1,.sl ((P t).2.2.map zaw)]),[])/\OI t.sec (P t).1
theorem zm8{u:Setup}{F Fp:Nat}{P:zq->Pln}{lo hi:Int}{cl:zq->List Int}(hF:PF F Fp lo hi cl)(hP:zqA u Fp P lo hi cl)(hlo:9<=lo){a:zy}{t:zq}{n N:Int}(hu:za3 u=true)(ha:AI u a)(ht:TI u N t)(hN:N<=999999):zi G F [.d (zx a),.d (zf t),.d (.int .i64 n)] []=some (.d (.tup [zx (zbf P lo hi cl a t n).1,zf (zbf P lo hi cl a t n).2.1,.sl ((zbf P lo hi cl a t n).2.2.1.map zaw),.int .i64 (zbf P lo hi cl a t n).2.2.2]),[]):=by
 unfold zbf
 by_cases c0:zan t lo hi=0
 rotate_left
 ·rw[zabo c0];exact pfl hF a t n c0
 rw[zabn (fun q=>q c0)];have hg:=zeP t lo hi;rw[c0] at hg;obtain⟨g1,g2⟩:=zeQ c0;have hen:=zij ht g1;clear g1;simp only;obtain⟨t1,ht1⟩:∃t1,t1=(if t.pc=0 then zb8 t (cl t) 1 else t):=⟨_,rfl⟩;rw[<- ht1];obtain⟨a1,a2,a4,a3⟩:=hP.cells ht g2;have hT:zbd u N t1.inv t1.sec/\t1.entry=t.entry/\t1.results=t.results/\t1.inv=t.inv:=by
  rw[ht1]
  by_cases c1:t.pc=0
  ·rw[zabo c1];obtain⟨s1,s2,s3⟩:=ztA (N:=N) hu (show t.setup.limit=u.limit by rw[ht.su]) ht.nn a1 a2;exact⟨a3 _ s1 s2 s3,rfl,rfl,rfl⟩
  ·rw[zabn c1];exact⟨ht.se ⟨c1,by omega⟩,rfl,rfl,rfl⟩
 obtain⟨k4,e1,e2,e3⟩:=hT;have hgk:=zms (n:=n) ha k4.si k4.ed;refine pw hF a (goT a t1 n).1 t t1 (goT a t1 n).2.1 n _ _ _ _ hg (fun c=> ?_) (fun c=>by rw[ht1,zabn c]) (zmr a t1 n (znv hu ha k4.si zo)) ?_
 ·rw[ht1,zabo c];exact znw t (cl t) 1 zo
 clear hg ht1 a1 a2 a3 a4;generalize goT a t1 n=g at *;obtain⟨a2,t2,b1,b2,e⟩:=g;simp only at *
 by_cases c4:e=0
 rotate_left
 ·exact .inl ⟨c4,by rw[zabo c4];rfl⟩
 subst c4;obtain⟨h1,s,h2,hSI,hK,ho,h4,h9⟩:=hgk rfl;have h3:zbd u (N+1) t1.inv s:=k4.keep hSI hK (by rw[ho];exact k4.ed);have hen2:t2.entry=t.entry/\t2.results=t.results/\t2.inv=t1.inv/\t2.sec=s:=by rw[h2];exact⟨e1,e2,rfl,rfl⟩
 obtain⟨q1,q2,q3,q4⟩:=hen2;have hp:=hP.plan (N:=N+1) (t:=t2) (by rw[q3,q4];exact h3) (by rw[q3,e3];exact ht.iv) (by rw[q3,e3];exact g2);rw[q4] at hp;rw[zabn (fun q=>q rfl)]
 cases b1
 ·cases b2
  ·exact .inr (.inr (.inl ⟨rfl,rfl,rfl,rfl⟩))
  ·exact .inr (.inr (.inr ⟨rfl,rfl,rfl,_,_,_,_,(hp (.inr (h9.1 rfl))).1,zeU t2 _ n (by rw[q1];exact hen.1) (by rw[q2];exact hen.2),rfl⟩))
 ·obtain⟨p1,p2⟩:=hp (.inl (h4.1 rfl));exact .inr (.inl ⟨rfl,rfl,_,_,_,_,p1,zcr (t:=t2) (by rw[q4];exact h3.si) (by rw[q4];exact p2),rfl⟩)
theorem zBG{u:Setup}{Fp:Nat}{P:zq->Pln}{k:Int}(hk:9<=k/\k<=11)(h1:∀ {N:Int} {t:zq},SI u N t.sec->t.sec.shards.length=2->zi G Fp [.d (zf t)] []=some (.d (.tup [zU (P t).1,z7 (P t).2.1,.sl ((P t).2.2.map zaw)]),[]))(h2:∀ {N:Int} {t:zq},SI u N t.sec->t.sec.shards.length=2->t.sec.lock.cells.length=2->OI t.sec (P t).1):zqA u Fp P k k zbG:=
 ⟨fun {N t} ht g=>by
  obtain⟨v1,v2,v3⟩:=zkl ht.iv zo;exact⟨zqD v1 v2 v3,by unfold zbG zeo;split<;>simp,by unfold zbG zeo;split<;>simp,fun s s1 s2 s3=>⟨s1,s2,fun q=>by omega,fun q=>by omega,fun _=>s3,fun q=>by omega,fun q=>by omega⟩⟩,
 fun {N t} h iv g hp=>by
  have kk:=(zgx h iv hp).2.2.1 zo;exact⟨h1 h.si kk,h2 h.si kk (by rw[h.c9 zo];unfold zeo;split<;>rfl)⟩⟩
theorem z4R{u:Setup}:zqA u zjC zdW 12 13 (fun t=>[t.inv.from_]):=
 ⟨fun {N t} ht g=>by
  have v:0<=t.inv.from_/\t.inv.from_<=u.slots:=by
   by_cases q:t.inv.kind=13
   ·exact zLN ht.iv q
   ·have:=zkk ht.iv (.inl zo);omega
  exact⟨zua v,by simp,by simp,fun s s1 s2 s3=>⟨s1,s2,fun q=>by omega,fun q=>by omega,fun q=>by omega,fun _=>s3,fun q=>by omega⟩⟩,
 fun {N t} h iv g hp=>by
  have kk:=(zgx h iv hp).2.2.2.1 zo;exact⟨z5a h.si kk,zQT h.si kk⟩⟩
theorem z4S{u:Setup}:zqA u zjD zdx 14 14 (fun t=>[t.inv.from_,t.setup.slots]):=
 ⟨fun {N t} ht g=>by
  have v:=zkk ht.iv (.inr zo);exact⟨zlY v.1 (by rw[ht.su];exact v.2) (by rw[ht.su];exact zads _),by simp,by simp,fun s s1 s2 s3=>⟨s1,s2,fun q=>by omega,fun q=>by omega,fun q=>by omega,fun q=>by omega,fun _=>by rw[s3,ht.su]⟩⟩,
 fun {N t} h iv g hp=>by
  have kk:=(zgx h iv hp).2.2.2.2 zo;exact⟨z5b h.si kk,zDP h.si kk (by rw[h.c14 zo];rfl)⟩⟩
theorem zfO {F:Nat} {a:zy} {t:zq} {n:Int} (r:Stp) (d0:t.done=false) (h:zi G F [.d (zx a),.d (zf t),.d (.int .i64 n)] []=some (.d (.tup [zx r.1,zf r.2.1,.sl (r.2.2.1.map zaw),.int .i64 r.2.2.2]),[]))
    (hF:(t.inv.kind=1/\F=zjx)\/(t.inv.kind=2/\F=zjy)\/(t.inv.kind=3/\F=zhq)\/(t.inv.kind=4/\F=zhq)\/(t.inv.kind=5/\F=zhq)\/(t.inv.kind=6/\F=zlJ)\/(t.inv.kind=7/\F=zjz)\/(t.inv.kind=8/\F=zjA)\/(t.inv.kind=9/\F=zlK)\/(t.inv.kind=10/\F=zlM)\/(t.inv.kind=11/\F=zlO)\/(t.inv.kind=12/\F=zjB)\/(t.inv.kind=13/\F=zjB)\/(t.inv.kind=14/\F=zlQ)):zi G zlR [.d (zx a),.d (zf t),.d (.int .i64 n)] []=some (.d (.tup [zx r.1,zf r.2.1,.sl (r.2.2.1.map zaw),.int .i64 r.2.2.2]),[]):=by
 obtain⟨r1,r2,r3,r4⟩:=r;simp only at *;have sz_r1:=zby r1;generalize zx r1=D_r1 at *;have sz_r2:=zQ r2;generalize zf r2=D_r2 at *;obtain⟨nu,iv,t3,t4,t5,t6,t7,t8,t9,t10,t11,t12,t13,t14,t15,t16,t17,t18⟩:=t;obtain⟨v1,v2,v3,v4,v5,v6,v7,v8⟩:=iv;simp only at d0 hF;subst d0
 rcases hF with hF|hF|hF|hF|hF|hF|hF|hF|hF|hF|hF|hF|hF|hF<;>obtain⟨rfl,rfl⟩:=hF
 all_goals simp only[zf,zbg] at *
 all_goals (exact zW zIL)
theorem zaac{K:Tok}(hK:zgF K){u:Setup}{a:zy}{t:zq}{n N:Int}(hu:za3 u=true)(ha:AI u a)(ht:TI u N t)(hN:N<=999999)(hb:∀b∈t.inv.tokens,b.length<=4294967296):zi G zlR [.d (zx a),.d (zf t),.d (.int .i64 n)] []=some (.d (.tup [zx (zbZ K a t n).1,zf (zbZ K a t n).2.1,.sl ((zbZ K a t n).2.2.1.map zaw),.int .i64 (zbZ K a t n).2.2.2]),[]):=by
 have hk:=zLO ht.iv;unfold zbZ
 by_cases c0:t.done=true
 ·rw[zabo c0];have hf:=zcY 7;unfold zbv;have sz_zTask:=zQ zE;generalize zf zE=D_zTask at *;have sz_zArena:=zby zM;generalize zx zM=D_zArena at *;clear hk ht hb;simp only[zf,c0];exact zW zIL
 rw[zabn c0];have d0:t.done=false:=by simpa using c0
 by_cases k1:t.inv.kind=1
 ·rw[zabo k1];exact zfO _ d0 (z8T hK hu ha ht hN) (by rw[k1];decide)
 rw[zabn k1]
 by_cases k2:t.inv.kind=2
 ·rw[zabo k2];exact zfO _ d0 (z62 hK hu ha ht hN) (by rw[k2];decide)
 rw[zabn k2]
 by_cases k3:3<=t.inv.kind/\t.inv.kind<=5
 ·rw[zabo k3];have q:t.inv.kind=3\/t.inv.kind=4\/t.inv.kind=5:=by omega
  exact zfO _ d0 (z87 hK hu ha ht hN hb) (by rcases q with q|q|q<;>rw[q]<;>decide)
 rw[zabn k3]
 by_cases k4:t.inv.kind=6
 ·rw[zabo k4];exact zfO _ d0 (z5j a t n (zij ht d0).1 (zij ht d0).2 ht.ld) (by rw[k4];decide)
 rw[zabn k4]
 by_cases k5:t.inv.kind=7
 ·rw[zabo k5];exact zfO _ d0 (zTm hu ha ht) (by rw[k5];decide)
 rw[zabn k5]
 by_cases k6:t.inv.kind=8
 ·rw[zabo k6];exact zfO _ d0 (z7a hu ha ht hN) (by rw[k6];decide)
 rw[zabn k6]
 by_cases k7:t.inv.kind=9
 ·rw[zabo k7];exact zfO _ d0 (zm8 (.inl ⟨rfl,rfl,rfl,rfl,rfl⟩) (zBG zo z47 zQO) zo hu ha ht hN) (by rw[k7];decide)
 rw[zabn k7]
 by_cases k8:t.inv.kind=10
 ·rw[zabo k8];exact zfO _ d0 (zm8 (.inr (.inl ⟨rfl,rfl,rfl,rfl,rfl⟩)) (zBG zo z48 zQM) zo hu ha ht hN) (by rw[k8];decide)
 rw[zabn k8]
 by_cases k9:t.inv.kind=11
 ·rw[zabo k9];exact zfO _ d0 (zm8 (.inr (.inr (.inl ⟨rfl,rfl,rfl,rfl,rfl⟩))) (zBG zo z49 zMo) zo hu ha ht hN) (by rw[k9];decide)
 rw[zabn k9]
 by_cases k10:t.inv.kind=12\/t.inv.kind=13
 ·rw[zabo k10];exact zfO _ d0 (zm8 (.inr (.inr (.inr (.inl ⟨rfl,rfl,rfl,rfl,rfl⟩)))) z4R zo hu ha ht hN) (by rcases k10 with q|q<;>rw[q]<;>decide)
 rw[zabn k10];have k11:t.inv.kind=14:=by omega
 rw[zabo k11];exact zfO _ d0 (zm8 (.inr (.inr (.inr (.inr ⟨rfl,rfl,rfl,rfl,rfl⟩)))) z4S zo hu ha ht hN) (by rw[k11];decide)
theorem zSR(b:List UInt8)(hb:b.length<=100):∃h:Int,0<=h/\h<=4294967295/\zi G zn9 [.d (.sl (byD b))] []=some (.d (.int .i64 h),[]):=by
 obtain⟨h,g0,g1,hs⟩:=zQS (90::b) (by simp;omega);refine⟨h,g0,g1,?_⟩;have hlen:(byD b).length=b.length:=by unfold byD;simp
 have hS:=byS b;have hc:byD (90::b)= .int .u8 90::byD b:=rfl;rw[hc] at hs;generalize byD b=bb at *
 rcases bb with _|⟨x,bb⟩
 ·exact zW zH2
 ·exact zW zH2
theorem zHr(h:za1)(q:¬(1<=h.id/\h.id<=1073741824/\1<=h.gen/\h.gen<=65536/\0<=h.route/\h.route<65536/\0<=h.hint/\h.hint<6)):zi G ziq [.d (zat h)] []=some (.d (.tup [zaA [],.int .i64 1]),[]):=by
 have e:byD []=[]:=rfl;unfold zaA;rw[e];obtain⟨a,b,c,d⟩:=h;simp only[zat] at *
 by_cases c1:a<1
 ·clear q;exact zW zgR
 by_cases c2:1073741824<a
 ·clear q;exact zW zgR
 by_cases c3:b<1
 ·clear q;exact zW zgR
 by_cases c4:65536<b
 ·clear q;exact zW zgR
 by_cases c5:c<0
 ·clear q;exact zW zgR
 by_cases c6:65536<=c
 ·clear q;exact zW zgR
 by_cases c7:d<0
 ·clear q;exact zW zgR
 by_cases c8:6<=d
 ·clear q;exact zW zgR
 ·omega
theorem zHs(h:za1)(q:1<=h.id/\h.id<=1073741824/\1<=h.gen/\h.gen<=65536/\0<=h.route/\h.route<65536/\0<=h.hint/\h.hint<6):∃c:List UInt8,c.length=16/\zi G ziq [.d (zat h)] []=some (.d (.tup [zaA c,.int .i64 0]),[]):=by
 obtain⟨a,b,c,d⟩:=h;obtain⟨a1,a2,b1,b2,c1,c2,d1,d2⟩:=q;simp only at a1 a2 b1 b2 c1 c2 d1 d2;obtain⟨x1,l1,p1⟩:=zBL [113] (by simp) a zo zo;obtain⟨x2,l2,p2⟩:=z5s ([113]++x1) (by simp;omega) b zo zo;obtain⟨x3,l3,p3⟩:=z5r ([113]++x1++x2) (by simp;omega) c zo zo;obtain⟨u,hu⟩:=zgA d;obtain⟨k,k0,k1,hk⟩:=zSR ([113]++x1++x2++x3++[u,0]) (by simp;omega);obtain⟨x4,l4,p4⟩:=zBL ([113]++x1++x2++x3++[u,0]) (by simp;omega) k k0 k1;refine⟨[113]++x1++x2++x3++[u,0]++x4,by simp;omega,?_⟩;have hb:∀x y:List UInt8,byD (x++y)=byD x++byD y:=fun x y=>by unfold byD;simp
 have e1:byD [113]=[.int .u8 113]:=rfl;have e2:byD [u,0]=[.int .u8 u.toNat,.int .u8 0]:=rfl;have hl:∀x:List UInt8,(byD x).length=x.length:=fun x=>by unfold byD;simp
 unfold zaA;simp only[hb,e1,e2] at *;have y1:=hl x1;have y2:=hl x2;have y3:=hl x3;have y4:=hl x4;have z1:=byS x1;have z2:=byS x2;have z3:=byS x3;have z4:=byS x4;rw[l1] at y1;rw[l2] at y2;rw[l3] at y3;rw[l4] at y4;simp only[zabv,zabu,zabw,l1,l2,l3,Nat.reduceAdd] at p1 p2 p3 p4;clear hb hl e1 e2;generalize byD x1=w1 at *;generalize byD x2=w2 at *;generalize byD x3=w3 at *;generalize byD x4=w4 at *;simp only[zat,zabN,zabJ,zab9] at *;have hA:∀z:List D,w1++(w2++(w3++z))=w1++(w2++w3)++z:=fun z=>by simp
 rw[hA] at hk;rw[hA] at p4;exact zW zgR
theorem zrX(b:List UInt8)(hb:b.length=16)(i k:Int)(q:(i=1/\k=4)\/(i=5/\k=3)\/(i=8/\k=2)\/(i=10/\k=1)):∃v:Int,zi G zn7 [.d (.sl (byD b)),.d (.int .i64 i),.d (.int .i64 k)] []=some (.d (.tup [.int .i64 v,.int .i64 0]),[]):=by
 have hlen:(byD b).length=16:=by unfold byD;simp [hb]
 have hg:∀j:Nat,j<16->∃x:UInt8,(byD b)[j]? = some (.int .u8 x.toNat):=fun j hj=>⟨b[j],by unfold byD;simp [zabx (show j<b.length by omega)]⟩;obtain⟨x1,g1⟩:=hg 1 zo;obtain⟨x2,g2⟩:=hg 2 zo;obtain⟨x3,g3⟩:=hg 3 zo;obtain⟨x4,g4⟩:=hg 4 zo;obtain⟨x5,g5⟩:=hg 5 zo;obtain⟨x6,g6⟩:=hg 6 zo;obtain⟨x7,g7⟩:=hg 7 zo;obtain⟨x8,g8⟩:=hg 8 zo;obtain⟨x9,g9⟩:=hg 9 zo;obtain⟨xa,ga⟩:=hg 10 zo;clear hg;generalize byD b=bb at *
 rcases q with ⟨rfl,rfl⟩|⟨rfl,rfl⟩|⟨rfl,rfl⟩|⟨rfl,rfl⟩
 ·rw[zI zrB (by simp)];simp -implicitDefEqProofs (maxSteps:=4000000) (disch:=omega) only[zjO,zkX,zaC,zg0,zh,go_sem, *];(try simp only[zPr]);repeat' (first|done|rfl|((first|refine zad (fun hq=> ?_) (fun hq=> ?_)|refine zaj (fun hq=> ?_) (fun hq=> ?_))<;>(try (first|(exfalso;omega)|contradiction))<;>(try simp -implicitDefEqProofs (maxSteps:=4000000) (disch:=omega) only[zaC,zg0,zh,go_sem, *])<;>(try simp only[zPr])));(all_goals try rfl);(all_goals try (repeat' (first|done|rfl|(exfalso;omega)|contradiction|(refine zae (fun hq=> ?_) (fun hq=> ?_)))))
  all_goals exact⟨_,rfl⟩
 ·rw[zI zrB (by simp)];simp -implicitDefEqProofs (maxSteps:=4000000) (disch:=omega) only[zjO,zkX,zaC,zg0,zh,go_sem, *];(try simp only[zPr]);repeat' (first|done|rfl|((first|refine zad (fun hq=> ?_) (fun hq=> ?_)|refine zaj (fun hq=> ?_) (fun hq=> ?_))<;>(try (first|(exfalso;omega)|contradiction))<;>(try simp -implicitDefEqProofs (maxSteps:=4000000) (disch:=omega) only[zaC,zg0,zh,go_sem, *])<;>(try simp only[zPr])));(all_goals try rfl);(all_goals try (repeat' (first|done|rfl|(exfalso;omega)|contradiction|(refine zae (fun hq=> ?_) (fun hq=> ?_)))))
  all_goals exact⟨_,rfl⟩
 ·rw[zI zrB (by simp)];simp -implicitDefEqProofs (maxSteps:=4000000) (disch:=omega) only[zjO,zkX,zaC,zg0,zh,go_sem, *];(try simp only[zPr]);repeat' (first|done|rfl|((first|refine zad (fun hq=> ?_) (fun hq=> ?_)|refine zaj (fun hq=> ?_) (fun hq=> ?_))<;>(try (first|(exfalso;omega)|contradiction))<;>(try simp -implicitDefEqProofs (maxSteps:=4000000) (disch:=omega) only[zaC,zg0,zh,go_sem, *])<;>(try simp only[zPr])));(all_goals try rfl);(all_goals try (repeat' (first|done|rfl|(exfalso;omega)|contradiction|(refine zae (fun hq=> ?_) (fun hq=> ?_)))))
  all_goals exact⟨_,rfl⟩
 ·rw[zI zrB (by simp)];simp -implicitDefEqProofs (maxSteps:=4000000) (disch:=omega) only[zjO,zkX,zaC,zg0,zh,go_sem, *];(try simp only[zPr]);repeat' (first|done|rfl|((first|refine zad (fun hq=> ?_) (fun hq=> ?_)|refine zaj (fun hq=> ?_) (fun hq=> ?_))<;>(try (first|(exfalso;omega)|contradiction))<;>(try simp -implicitDefEqProofs (maxSteps:=4000000) (disch:=omega) only[zaC,zg0,zh,go_sem, *])<;>(try simp only[zPr])));(all_goals try rfl);(all_goals try (repeat' (first|done|rfl|(exfalso;omega)|contradiction|(refine zae (fun hq=> ?_) (fun hq=> ?_)))))
  all_goals exact⟨_,rfl⟩
theorem z8z(a b:List UInt8)(ha:a.length=16)(hb:b.length=16):∃x:Bool,zi G zn8 [.d (.sl (byD a)),.d (.sl (byD b))] []=some (.d (.bool x),[]):=by
 have hla:(byD a).length=16:=by unfold byD;simp [ha]
 have hlb:(byD b).length=16:=by unfold byD;simp [hb]
 have za:=byS a;have zb:=byS b;have ya:=_root_.Go.Proofs.YtnmcgdpmikhohaaGreat.bytesD_ok a;have yb:=_root_.Go.Proofs.YtnmcgdpmikhohaaGreat.bytesD_ok b;generalize byD a=aa at *;generalize byD b=bb at *;rw[zI zWI (by simp)];simp -implicitDefEqProofs (maxSteps:=4000000) (disch:=omega) only[zur,zBZ,zh,go_sem, *];(try simp only[zPr]);repeat' (first|done|rfl|((first|refine zad (fun hq=> ?_) (fun hq=> ?_)|refine zaj (fun hq=> ?_) (fun hq=> ?_))<;>(try (first|(exfalso;omega)|contradiction))<;>(try simp -implicitDefEqProofs (maxSteps:=4000000) (disch:=omega) only[zh,go_sem, *])<;>(try simp only[zPr])));(all_goals try rfl);(all_goals try (repeat' (first|done|rfl|(exfalso;omega)|contradiction|(refine zae (fun hq=> ?_) (fun hq=> ?_)))))
 all_goals exact⟨_,rfl⟩
theorem z4M(b:List UInt8)(hb:b.length<=4294967296):∃(h:za1) (e:Int),(e=0->((0<=h.route/\h.route<65536)/\0<=h.hint)/\b.length=16/\1<=h.gen/\h.gen<=65536)/\zi G zjv [.d (zaA b)] []=some (.d (.tup [zat h,.int .i64 e]),[]):=by
 have hlen:(byD b).length=b.length:=by unfold byD;simp
 by_cases c:b.length=16
 ·obtain⟨v1,g1⟩:=zrX b c 1 4 zo;obtain⟨v2,g2⟩:=zrX b c 5 3 zo;obtain⟨v3,g3⟩:=zrX b c 8 2 zo;obtain⟨v4,g4⟩:=zrX b c 10 1 zo;rw[c] at hlen;unfold zaA
  by_cases q:1<=v1/\v1<=1073741824/\1<=v2/\v2<=65536/\0<=v3/\v3<65536/\0<=v4/\v4<6
  ·obtain⟨x,lx,hx⟩:=zHs ⟨v1,v2,v3,v4⟩ q;obtain⟨s,hs⟩:=z8z x b lx c;simp only[zat,zaA] at hx
   rcases s with _|_
   ·refine⟨zds,8,fun q=>by omega,?_⟩;simp only[zat,zds];generalize byD b=bb at *;generalize byD x=bx at *;clear c hb q;exact zW zrM
   ·refine⟨⟨v1,v2,v3,v4⟩,0,fun _=>⟨⟨⟨q.2.2.2.2.1,q.2.2.2.2.2.1⟩,q.2.2.2.2.2.2.1⟩,c,q.2.2.1,q.2.2.2.1⟩,?_⟩;simp only[zat];generalize byD b=bb at *;generalize byD x=bx at *;clear c hb q;exact zW zrM
  ·have hx:=zHr ⟨v1,v2,v3,v4⟩ q;have e:byD []=[]:=rfl;simp only[zat,zaA,e] at hx;refine⟨zds,8,fun q=>by omega,?_⟩;simp only[zat,zds];generalize byD b=bb at *;clear c hb q;exact zW zrM
 ·refine⟨zds,8,fun q=>by omega,?_⟩;have hc:¬(b.length:Int)=16:=by omega
  simp only[zat,zds,zaA];generalize byD b=bb at *;exact zW zrM
theorem zvl(h:za1):∃p:List UInt8×Int,p.1.length<=16/\zi G ziq [.d (zat h)] []=some (.d (.tup [zaA p.1,.int .i64 p.2]),[]):=by
 by_cases q:1<=h.id/\h.id<=1073741824/\1<=h.gen/\h.gen<=65536/\0<=h.route/\h.route<65536/\0<=h.hint/\h.hint<6
 ·obtain⟨c,l,e⟩:=zHs h q;exact⟨(c,0),by simp only;omega,e⟩
 ·exact⟨([],1),by simp,zHr h q⟩
theorem zsW(b:List UInt8):∃p:za1×Int,(p.2=0->((0<=p.1.route/\p.1.route<65536)/\0<=p.1.hint)/\b.length=16/\1<=p.1.gen/\p.1.gen<=65536)/\(b.length<=4294967296->zi G zjv [.d (zaA b)] []=some (.d (.tup [zat p.1,.int .i64 p.2]),[])):=by
 by_cases c:b.length<=4294967296
 ·obtain⟨h,e,q,r⟩:=z4M b c;exact⟨(h,e),q,fun _=>r⟩
 ·exact⟨(zds,8),fun q=>by simp at q,fun q=>absurd q c⟩
noncomputable def zaB:Tok:=⟨fun i=>Classical.choose (ztx i),fun h=>Classical.choose (zvl h),fun b=>Classical.choose (zsW b)⟩
theorem zlh:zgF zaB:=by
 refine⟨⟨fun i=> ?_,fun b=> ?_⟩,fun i=> ?_,fun h=> ?_,fun b hb=> ?_⟩
 ·exact⟨(zaci (ztx i)).1,(zaci (ztx i)).2.1⟩
 ·exact fun q=>((zaci (zsW b)).1 q).1
 ·exact (zaci (ztx i)).2.2
 ·exact (zaci (zvl h)).2
 ·exact (zaci (zsW b)).2 hb
theorem ztM(h:za1):(zaB.enc h).1.length<=16:=(zaci (zvl h)).1
theorem zaag(b:List UInt8)(q:(zaB.par b).2=0):b.length=16/\1<=(zaB.par b).1.gen/\(zaB.par b).1.gen<=65536:=((zaci (zsW b)).1 q).2
theorem zZX(n l:Int)(h:1<=l/\l<=n/\n<=4):zi G zpd [.d (.int .i64 n),.d (.int .i64 l)] []=some (.d (.tup [zaT (zkD n l).1,.int .i64 0]),[]):=by
 have hn:n=1\/n=2\/n=3\/n=4:=by omega
 have hl:l=1\/l=2\/l=3\/l=4:=by omega
 rcases hn with rfl|rfl|rfl|rfl<;>rcases hl with rfl|rfl|rfl|rfl<;>(try (exfalso;omega))
 all_goals clear h
 all_goals (have zk0:= @zaC;have zk1:=zAN.eq_1;have zk2:=zAO.eq_1;exact zW zW0)
theorem zMu(s:Setup)(h4:s.slots<=4):zi G zpu [.d (zaJ s)] []=some (.d (.tup [zx (zbL s).1,.int .i64 (zbL s).2]),[]):=by
 obtain⟨n,l,c,d,li,k,i,e⟩:=s;have g1:=zdI n 1 6;have g2:=zdI l 1 n;have g3:=zdI c 1 12;have g4:=zdI d 1 24;have g5:=zdI li 1 8;have g6:=zdI k 0 1073741824;have g7:=zdI i 1 1073741824;have g8:=zdI e 0 65536
 by_cases q:za3 ⟨n,l,c,d,li,k,i,e⟩=true
 ·have hz:=zZZ d;have hf:=zHN c;have hs:=zBq c;have hd:=zZX n l;have hN:∃D0,zkD n l=D0:=⟨_,rfl⟩;obtain⟨R,hR⟩:∃R,zbL ⟨n,l,c,d,li,k,i,e⟩=R:=⟨_,rfl⟩;rw[hR];have p:=q;unfold za3 at p;simp only[zabH] at p;obtain⟨i1,i2,i3,i4,i5,i6,i7,i8⟩:=p;rw[i1] at g1;rw[i2] at g2;rw[i3] at g3;rw[i4] at g4;rw[i5] at g5;rw[i6] at g6;rw[i7] at g7;rw[i8] at g8;unfold inI at i1 i2 i4;simp only[decide_eq_true_eq] at i1 i2 i4 h4;rw[zabn zo,zabn zo] at hz;replace hd:=hd zo;clear i3 i4 i5 i6 i7 i8;have hn:n=1\/n=2\/n=3\/n=4:=by omega
  have hl:l=1\/l=2\/l=3\/l=4:=by omega
  rcases hn with rfl|rfl|rfl|rfl<;>rcases hl with rfl|rfl|rfl|rfl<;>(try (exfalso;omega))
  all_goals
   clear i1 i2 h4;obtain⟨D0,hN⟩:=hN;rw[hN] at hd;have hM:=hN;simp [zkD,ze4,ztG,zQI,List.range,List.range.loop,List.replicate] at hM;subst hM;simp only[zaT,zca,zC,zabs,zabq] at hd;simp only[zaJ]
  all_goals (rw[zI zgS (by simp)];simp -implicitDefEqProofs (maxSteps:=4000000) (disch:=omega) only[zuN,zCj,zaC,zAU,zh,go_sem, *];(try simp only[zPr]);repeat' (first|done|rfl|((first|refine zad (fun hq=> ?_) (fun hq=> ?_)|refine zaj (fun hq=> ?_) (fun hq=> ?_))<;>(try (first|(exfalso;omega)|contradiction))<;>(try simp -implicitDefEqProofs (maxSteps:=4000000) (disch:=omega) only[zaC,zAU,zh,go_sem, *])<;>(try simp only[zPr])));(all_goals try rfl);(all_goals try (repeat' (first|done|rfl|(exfalso;omega)|contradiction|(refine zae (fun hq=> ?_) (fun hq=> ?_))))))
  all_goals (rw[<- hR];unfold zbL;rw[zabn (by rw[q];decide)];simp only[hN];rfl)
 ·have e0:zbL ⟨n,l,c,d,li,k,i,e⟩=(zM,1):=by
     unfold zbL;rw[zabo (by simpa using q)]
  rw[e0];unfold za3 at q;simp only at q;have hz:zx zM= .agg [.sl [],.sl [],.int .i64 0,.int .i64 0,.sl [],.int .i64 0,.sl [],.sl [],.int .i64 0,.int .i64 0,.int .i64 0]:=rfl;simp only[hz];generalize inI n 1 6=b1 at *;generalize inI l 1 n=b2 at *;generalize inI c 1 12=b3 at *;generalize inI d 1 24=b4 at *;generalize inI li 1 8=b5 at *;generalize inI k 0 1073741824=b6 at *;generalize inI i 1 1073741824=b7 at *;generalize inI e 0 65536=b8 at *;simp only[zaJ]
  cases b1
  ·clear q;exact zW zgS
  cases b2
  ·clear q;exact zW zgS
  cases b3
  ·clear q;exact zW zgS
  cases b4
  ·clear q;exact zW zgS
  cases b5
  ·clear q;exact zW zgS
  cases b6
  ·clear q;exact zW zgS
  cases b7
  ·clear q;exact zW zgS
  cases b8
  ·clear q;exact zW zgS
  exact absurd rfl q
def vlS(hp:zd)(k:Nat):St:=⟨[(2,.ref 2 0 0),(6,.d (.int .i64 k))],hp⟩
theorem zaaS(v7 v8:List (List UInt8))(v2 v3 v4 v5 v6:Int)(hB:v7.length<=6)(hp:zd)(hh:hp=[(2,.row [.d (.agg [.int .i64 1,.int .i64 v2,.int .i64 v3,.int .i64 v4,.int .i64 v5,.int .i64 v6,.sl (v7.map .str),.sl (v8.map zaA)])])]):∀k:Nat,k<=v7.length->z6 G [] zAX (vlS hp k)=if ((v7.drop k).any fun b=>decide (16<b.length))=true then some (.ret,⟨[(4,.d (.int .i64 2))],[]⟩) else some (.exit 1,⟨[],[]⟩):=by
 refine zaL (fun k=>v7.length - k) _ _ _ fun k hk L ih=> ?_;simp only[vlS,hh,zAX] at ih ⊢
 by_cases h0:k<v7.length
 ·have i1:=ih (k+1) zo zo;have hd:v7.drop k=v7[k]::v7.drop (k+1):=zabX h0;rw[hd,zac4];clear ih hd
  by_cases c:16<v7[k].length
  ·rw[zabo (by simp [c])];clear i1;exact zS
  ·have e:(decide (16<v7[k].length)||(v7.drop (k+1)).any fun b=>decide (16<b.length))=(v7.drop (k+1)).any fun b=>decide (16<b.length):=by simp [c]
   rw[e];generalize ((v7.drop (k+1)).any fun b=>decide (16<b.length))=w at *;clear e;simp only[zNr,zB] at i1;exact zS
 ·have:k=v7.length:=by omega
  subst this;clear ih;rw[zabn (by simp)];exact zS
theorem zaaT{i:Invocation}{s:Setup}(hs:1<=s.slots/\s.slots<=6)(hT:i.tokens.length<=4294967296)(hB:i.bodies.length<=4294967296):zi G zp4 [.d (zbg i),.d (zaJ s)] []=some (.d (.int .i64 (zbM i s)),[]):=by
 obtain⟨k,v2,v3,v4,v5,v6,v7,v8⟩:=i;obtain⟨s1,s2,s3,s4,s5,s6,s7,s8⟩:=s;simp only at *;have h1:=zmz v2 0 (s1 - 1);have h2:=zmz v3 1 6;have h3:=zmz v4 0 1000;have h4:=zmz v5 0 (s1 - 1);have h5:=zmz v6 0 (s1 - 1);unfold zbM;simp only[zbg,zaJ];generalize inI v2 0 (s1 - 1)=b1 at *;generalize inI v3 1 6=b2 at *;generalize inI v4 0 1000=b3 at *;generalize inI v5 0 (s1 - 1)=b4 at *;generalize inI v6 0 (s1 - 1)=b5 at *
 by_cases g:1<=k/\k<=14
 rotate_left
 ·rw[zabn zo,zabn zo,zabn zo,zabn zo,zabn zo,zabn zo,zabn zo];obtain⟨a1,a2,a3,a4,a5,a6,a7,a8,a9,d0,d1,d2,d3,d4⟩:¬k=1/\¬k=2/\¬k=3/\¬k=4/\¬k=5/\¬k=6/\¬k=7/\¬k=8/\¬k=9/\¬k=10/\¬k=11/\¬k=12/\¬k=13/\¬k=14:=by omega
  clear g h1 h2 h3 h4 h5;exact zW zdg
 by_cases k1:k=1
 ·subst k1;rw[zabo rfl];clear h1 h2 h3 h4 h5 g
  by_cases c0:v7.length=0
  ·rw[zabo zo];exact zW zdg
  by_cases c1:6<v7.length
  ·rw[zabo zo];exact zW zdg
  rw[zabn zo];have hl:=zaaS v7 v8 v2 v3 v4 v5 v6 zo _ rfl 0 zo;simp only[vlS,zabZ,zabQ] at hl
  by_cases c:(v7.any fun b=>decide (16<b.length))=true
  ·rw[zabo c] at hl;rw[zabo c];clear c;exact zW zdg
  ·rw[zabn c] at hl;rw[zabn c];clear c;exact zW zdg
 rw[zabn k1]
 by_cases k2:k=2\/k=8
 ·rw[zabo k2];clear k1 g h4 h5
  rcases k2 with rfl|rfl<;>cases b1<;>cases b2<;>cases b3
  all_goals (exact zW zdg)
 rw[zabn k2]
 by_cases k3:3<=k/\k<=5
 ·rw[zabo k3];have q:k=3\/k=4\/k=5:=by omega
  clear k1 k2 k3 g h1 h2 h4 h5
  by_cases c0:v8.length=0
  ·rw[zabo zo]
   rcases q with rfl|rfl|rfl
   all_goals (exact zW zdg)
  by_cases c1:6<v8.length
  ·rw[zabo zo]
   rcases q with rfl|rfl|rfl
   all_goals (exact zW zdg)
  rw[zabn zo]
  rcases q with rfl|rfl|rfl<;>cases b3
  all_goals (exact zW zdg)
 rw[zabn k3];clear h1 h2 h3
 by_cases k4:9<=k/\k<=11
 ·rw[zabo k4];have q:k=9\/k=10\/k=11:=by omega
  clear k1 k2 k3 k4 g
  by_cases c:v5=v6
  ·subst c
   rcases q with rfl|rfl|rfl<;>cases b4<;>cases b5
   all_goals (exact zW zdg)
  ·replace c:=zabt c
   rcases q with rfl|rfl|rfl<;>cases b4<;>cases b5
   all_goals (exact zW zdg)
 rw[zabn k4];clear h5
 by_cases k5:k=12\/k=14
 ·rw[zabo k5];clear k1 k2 k3 k4 g
  rcases k5 with rfl|rfl<;>cases b4
  all_goals (exact zW zdg)
 rw[zabn k5];clear h4
 by_cases k6:k=13
 ·subst k6;rw[zabo rfl]
  by_cases c1:v5<0
  ·exact zW zdg
  by_cases c2:s1<v5
  ·exact zW zdg
  ·exact zW zdg
 rw[zabn k6,zabo zo];have q:k=6\/k=7:=by omega
 clear k1 k2 k3 k4 k5 k6 g
 rcases q with rfl|rfl
 all_goals (exact zW zdg)
theorem z9E(m n:Int){i:Invocation}{s:Setup}(h4:s.slots<=4)(hT:i.tokens.length<=4294967296)(hB:i.bodies.length<=4294967296):zi G zp3 [.d (.int .i64 m),.d (zbg i),.d (zaJ s),.d (.int .i64 n)] []=some (.d (.tup [zf (zex m i s n).1,.int .i64 (zex m i s n).2]),[]):=by
 have hn:=zMu s h4;unfold zex;have hz:zf zE=(zf zE:D):=rfl
 by_cases c0:m<1\/200<m\/n<0
 ·rw[zabo c0];clear hn hz
  rcases c0 with c0|c0|c0
  all_goals simp only[zf,zE,zbg,zfA,zdt,zaJ,zbe,zA,zb2,zd1,zeM,zeB,zU,zfB,zaT,zcF,zbW,zdc,zat,zds,zT,zaH,zC,zabq]
  all_goals (exact zW zrR)
 have c1:¬m<1:=by omega
 have c2:¬200<m:=by omega
 have c3:¬n<0:=by omega
 rw[zabn c0];clear c0
 by_cases q:za3 s=false
 ·rw[zabo q];have e0:zbL s=(zM,1):=by
   unfold zbL;rw[zabo q]
  rw[e0] at hn;clear e0 q hz;have sz_zArena:=zby zM;generalize zx zM=D_zArena at *;simp only[zf,zE,zbg,zfA,zdt,zaJ,zbe,zA,zb2,zd1,zeM,zeB,zU,zfB,zaT,zcF,zbW,zdc,zat,zds,zT,zaH,zC,zabq] at *;exact zW zrR
 rw[zabn q];have hs:1<=s.slots/\s.slots<=6:=by
  have p:za3 s=true:=by simpa using q
  unfold za3 at p;simp only[zabH,inI,decide_eq_true_eq] at p;exact p.1
 have e1:(zbL s).2=0:=by
  unfold zbL;rw[zabn q]
 rw[e1] at hn;have hv:=zaaT hs hT hB;clear q e1 hs hz h4;generalize zbL s=r at *;obtain⟨r,re⟩:=r;simp only at hn;have sz_r:=zby r;generalize zx r=D_r at *;generalize zbM i s=w at *;clear hT hB
 by_cases c4:w=0
 ·subst c4;rw[zabn (by simp)];simp only[zf,zE,zbg,zfA,zdt,zaJ,zbe,zA,zb2,zd1,zeM,zeB,zU,zfB,zaT,zcF,zbW,zdc,zat,zds,zT,zaH,zC,zabq] at *;exact zW zrR
 ·rw[zabo c4];replace c4:=zabt c4;simp only[zf,zE,zbg,zfA,zdt,zaJ,zbe,zA,zb2,zd1,zeM,zeB,zU,zfB,zaT,zcF,zbW,zdc,zat,zds,zT,zaH,zC,zabq] at *;exact zW zrR
def zc1(s:Setup):World×Int:=if (zbL s).2≠0 then (zbc,(zbL s).2) else ({ zbc with setup:=s,arena:=(zbL s).1 },0)
theorem zMv(s:Setup)(h4:s.slots<=4):zi G zlT [.d (zaJ s)] []=some (.d (.tup [zF (zc1 s).1,.int .i64 (zc1 s).2]),[]):=by
 have hn:=zMu s h4;unfold zc1;generalize zbL s=r at *;obtain⟨a,e⟩:=r;simp only at *
 by_cases c:e=0
 ·subst c;rw[zabn (by simp)];simp only[zF,zaJ,zbc,zx,zabq] at *;exact zW zIM
 ·rw[zabo c];replace c:=zabt c;simp only[zF,zaJ,zbc,zdt,zx,zM,zabq,ze6,zT,zC] at *;exact zW zIM
theorem zaai(w:World)(b:Int)(hc:0<=w.arena.clock/\w.arena.clock<=1073741824)(hs:0<=w.steps/\w.steps<=1000000)(hl:w.log.length<=1000000):zi G zqu [.d (zF w),.d (.int .i64 b)] []=some (.d (.tup [zF (zdX w b).1,.int .i64 (zdX w b).2]),[]):=by
 have ht:=zaah w.arena b hc;unfold zdX;generalize zeA w.arena b=r at *;obtain⟨a,e⟩:=r;simp only at *
 by_cases c:e=0
 ·subst c;rw[zabn (by simp)];obtain⟨s,wa,tasks,handles,log,steps⟩:=w;simp only[zF,zaJ,zx,zaw,zbw,zabq,zabF,zabs] at *;exact zW zIO
 ·rw[zabo c];replace c:=zabt c;simp only[zF,zaJ,zbc,zdt,zx,zM,zabq,ze6,zT,zC] at *;exact zW zIO
def opL(l:List zq)(k:Nat):List Int:=((List.range k).filter fun i=> !(l.getD i zE).done).map fun i:Nat=>(i:Int)
theorem z4A(l:List zq)(k:Nat)(h:k<l.length):opL l (k+1)=if l[k].done=true then opL l k else opL l k++[(k:Int)]:=by
 unfold opL;rw[zaej,zaek,zabF]
 cases c:l[k].done<;>simp [zacL,zabx h,c]
theorem z4z(l:List zq)(k:Nat):(opL l k).length<=k:=by
 unfold opL;rw[zabE];exact zaca (zacF _ _) (by simp)
def opS(w:World)(k:Nat):St:=⟨[(1,.ref 1 0 0),(3,.acc 3 (zC (opL w.tasks k))),(4,.d (.int .i64 k))],[(1,.row [.d (zF w)]),(3,.acc (opL w.tasks k).length)]⟩
theorem zML(w:World)(hl:w.tasks.length<=1000):∀k:Nat,k<=w.tasks.length->z6 G [] zAY (opS w k)=some (.exit 0,⟨[(3,.acc 3 (zC (opL w.tasks w.tasks.length)))],[(3,.acc (opL w.tasks w.tasks.length).length)]⟩):=by
 refine zaL (fun k=>w.tasks.length - k) _ _ _ fun k hk L ih=> ?_;simp only[opS,zAY] at ih ⊢
 by_cases h0:k<w.tasks.length
 ·have i1:=ih (k+1) zo zo;clear ih;have hn:=z4z w.tasks k;rw[z4A w.tasks k h0] at i1;generalize opL w.tasks w.tasks.length=z at *;generalize opL w.tasks k=o at *;obtain⟨s,wa,tasks,log,steps,handles⟩:=w;simp only at h0;simp only[zF] at *
  cases c:tasks[k].done
  ·rw[c] at i1;simp only[zabz,if_false,zC,zabF,zabs,zabq,zabv] at i1 ⊢;simp only[zNr,zB] at i1;simp -implicitDefEqProofs (maxSteps:=4000000) (disch:=omega) only[zf,zh,go_sem, *]
  ·rw[c] at i1;simp only[if_true] at i1;simp only[zNr,zB] at i1;simp -implicitDefEqProofs (maxSteps:=4000000) (disch:=omega) only[zf,zh,go_sem, *]
 ·have e:k=w.tasks.length:=by omega
  rw[<- e];clear ih;have h1:(w.tasks.length:Int)<=k:=by omega
  generalize opL w.tasks k=o at *;obtain⟨s,wa,tasks,log,steps,handles⟩:=w;simp only[zF] at *;clear e;exact zS
theorem zBy(w:World)(hl:w.tasks.length<=1000)(q:opL w.tasks w.tasks.length=[]):zi G zlU [.d (zF w)] []=some (.xsl [],[]):=by
 have h:=zML w hl 0 zo;have e:opL w.tasks 0=[]:=rfl;simp only[opS,e,zabq,zabw,zabQ] at h;clear e;rw[q] at h;clear q;obtain⟨s,wa,tasks,log,steps,handles⟩:=w;simp only[zF,zC,zabq,zabw] at *;exact zW zIN
theorem zBx(w:World)(hl:w.tasks.length<=1000)(o1:Int)(o:List Int)(q:opL w.tasks w.tasks.length=o1::o):zi G zlU [.d (zF w)] []=some (.osl 0 0 (o.length+1),[(0,.row (.d (.int .i64 o1)::(zC o).map .d))]):=by
 have h:=zML w hl 0 zo;have e:opL w.tasks 0=[]:=rfl;simp only[opS,e,zabq,zabw,zabQ] at h;clear e;rw[q] at h;clear q;obtain⟨s,wa,tasks,log,steps,handles⟩:=w;simp only[zF,zC,zabs,zabq,zabu,zabw] at *;exact zW zIN
theorem zMH(w:World):opL w.tasks w.tasks.length=(zbj w).map fun i:Nat=>(i:Int):=rfl
theorem zBz(w:World):(opL w.tasks w.tasks.length).length=(zbj w).length:=by
 rw[zMH,zabE]
theorem zLP(w:World){i:Invocation}(h4:w.setup.slots<=4)(hl:w.tasks.length<=200)(hT:i.tokens.length<=4294967296)(hB:i.bodies.length<=4294967296):zi G zlS [.d (zF w),.d (zbg i)] []=some (.d (.tup [zF (zcJ w i).1,.int .i64 (zcJ w i).2.1,.int .i64 (zcJ w i).2.2]),[]):=by
 have hn:=zBy w zo;have hc:=zBx w zo;have hs:=z9E (w.tasks.length+1) w.steps (i:=i) (s:=w.setup) h4 hT hB;have hol:=zBz w;clear hT hB h4;unfold zcJ;generalize zex (w.tasks.length+1) i w.setup w.steps=r at *;obtain⟨t,e⟩:=r;simp only at *;have sz_i:=zUB i;generalize zbg i=D_i at *
 by_cases c0:200<=w.tasks.length
 ·rw[zabo (Or.inl c0)];clear hn hc hs hol;obtain⟨s,wa,tasks,log,steps,handles⟩:=w;simp only at c0;simp only[zF,zaJ,zbc,zdt,zx,zM,zabq,ze6,zT,zC] at *;exact zW zkg
 by_cases c1:8<=(zbj w).length
 ·rw[zabo (Or.inr c1)];rw[<- hol] at c1;clear hn hs hol;generalize opL w.tasks w.tasks.length=o at *
  rcases o with _|⟨o1,o⟩
  ·simp at c1
  have h:=hc o1 o rfl;clear hc;obtain⟨s,wa,tasks,log,steps,handles⟩:=w;simp only[zabu] at c0 c1;simp only[zF,zaJ,zbc,zdt,zx,zM,zabq,ze6,zT,zC] at *;exact zW zkg
 rw[zabn zo];rw[<- hol] at c1;clear hol;generalize opL w.tasks w.tasks.length=o at *
 rcases o with _|⟨o1,o⟩
 ·have h:=hn rfl;clear hn hc c1
  by_cases c2:e=0
  ·subst c2;rw[zabn (by simp)];obtain⟨s,wa,tasks,log,steps,handles⟩:=w;simp only at c0;simp only[zF,zaJ,zabF,zabs,zabq] at *;have sz_t:=zQ t;generalize zf t=D_t at *;exact zW zkg
  ·rw[zabo c2];replace c2:=zabt c2;obtain⟨s,wa,tasks,log,steps,handles⟩:=w;simp only at c0;simp only[zF,zaJ,zbc,zdt,zx,zM,zabq,ze6,zT,zC] at *;have sz_t:=zQ t;generalize zf t=D_t at *;exact zW zkg
 ·have h:=hc o1 o rfl;clear hn hc
  by_cases c2:e=0
  ·subst c2;rw[zabn (by simp)];obtain⟨s,wa,tasks,log,steps,handles⟩:=w;simp only[zabu] at c0 c1;simp only[zF,zaJ,zabF,zabs,zabq] at *;have sz_t:=zQ t;generalize zf t=D_t at *;exact zW zkg
  ·rw[zabo c2];replace c2:=zabt c2;obtain⟨s,wa,tasks,log,steps,handles⟩:=w;simp only[zabu] at c0 c1;simp only[zF,zaJ,zbc,zdt,zx,zM,zabq,ze6,zT,zC] at *;have sz_t:=zQ t;generalize zf t=D_t at *;exact zW zkg
theorem z9K{K:Tok}(hK:zgF K){u:Setup}{w:World}{i:Nat}(hw:WI u w)(hi:i<w.tasks.length)(hN:w.steps<=999998)(hL:w.log.length<=1000000)(hev:(zbZ K w.arena w.tasks[i] (w.steps+1)).2.2.1.length<=1000)(hres:(zbZ K w.arena w.tasks[i] (w.steps+1)).2.2.2=0->(zbZ K w.arena w.tasks[i] (w.steps+1)).2.1.results=w.tasks[i].results\/∃r:Result,r.tokens.length<=1000/\(zbZ K w.arena w.tasks[i] (w.steps+1)).2.1.results=w.tasks[i].results++[r])(hrl:w.tasks[i].results.length<=1000)(hH:w.handles.length<=10000000)(hb:∀b∈(w.tasks[i]).inv.tokens,b.length<=4294967296):zi G zjE [.d (zF w),.d (.int .i64 i)] []=some (.d (.tup [zF (zcO K w i).1,.int .i64 (zcO K w i).2]),[]):=by
 have h:=zaac (n:=w.steps+1) hK hw.hu hw.ar (hw.ts _ (zabC hi)) zo hb;have hs:=hw.st;have hl:=hw.tl;unfold zcO;have e0:w.tasks.getD i zE=w.tasks[i]:=by rw[zab0,zabx hi];rfl
 simp only[e0];clear hw hb e0;generalize hr:zbZ K w.arena w.tasks[i] (w.steps+1)=r at *;obtain⟨a2,t2,ev,e⟩:=r;clear hr;simp only at *
 by_cases c:e=0
 ·subst c;rw[zabn (by simp)];obtain⟨s,wa,tasks,log,steps,handles⟩:=w;simp only at hi hN hL hs hl hH hres hrl;generalize ht:tasks[i]=t at *;obtain⟨u1,u2,u3,u4,u5,u6,u7,u8,u9,w1,w2,w3,w4,w5,w6,w7,w8,w9⟩:=t2;have hres:=hres trivial
  rcases hres with q|⟨x,hx,q⟩
  ·subst q;simp only[zab7,zabq,zadt,zabL];clear hK;simp only[zF,zaJ,zx,zf,zabF,zabs,zabq] at *;have zk0:=zf.eq_1;have zk1:= @zaC;have zk2:=zmN.eq_1;exact zW zzI
  ·subst q;have hg:(List.map z7 t.results++[D.agg [.int .i64 x.err,.int .i64 x.id,.sl (x.tokens.map zaA),.sl (x.bodies.map .str),.int .i64 x.ready,.int .i64 x.leased,.int .i64 x.moved]])[t.results.length]? = some (D.agg [.int .i64 x.err,.int .i64 x.id,.sl (x.tokens.map zaA),.sl (x.bodies.map .str),.int .i64 x.ready,.int .i64 x.leased,.int .i64 x.moved]):=by
    rw[zacE (by simp)];simp
   simp only[zaeh,zabs,zabq,zaei,zadt,zabL];clear hK;simp only[zF,zaJ,zx,zf,zabF,zabs,zabq,z7] at *;have zk0:=zf.eq_1;have zk1:=z7.eq_1;have zk2:= @zaC;have zk3:=zmN.eq_1;exact zW zzI
 ·rw[zabo c];replace c:=zabt c;obtain⟨s,wa,tasks,log,steps,handles⟩:=w;simp only at hi hN hL hs hl;generalize ht:tasks[i]=t at *;simp only[zF,zaJ,zbc,zdt,zx,zM,zabq,ze6,zT,zC] at *;exact zW zzI
theorem z4X{K:Tok}{u:Setup}{w:World}{k:Int}(hw:WI u w)(hstep:∀i:Nat,i<w.tasks.length->zi G zjE [.d (zF w),.d (.int .i64 i)] []=some (.d (.tup [zF (zcO K w i).1,.int .i64 (zcO K w i).2]),[])):zi G zlV [.d (zF w),.d (.int .i64 k)] []=some (.d (.tup [zF (zc2 K w k).1,.int .i64 (zc2 K w k).2]),[]):=by
 have hl:=hw.tl;have hn:=zBy w zo;have hc:=zBx w zo;have hol:=zBz w;have hoo:=zMH w;unfold zc2;clear hw
 by_cases c:k<0\/((zbj w).length:Int)<=k
 ·rw[zabo c];rw[<- hol] at c;clear hstep hol hoo;generalize opL w.tasks w.tasks.length=o at *;have hz:zF zbc= .agg [.int .i64 0,.int .i64 0,.int .i64 0,.int .i64 0,.int .i64 0,.int .i64 0,.int .i64 0,.int .i64 0,.sl [],.sl [],.int .i64 0,.int .i64 0,.sl [],.int .i64 0,.sl [],.sl [],.int .i64 0,.int .i64 0,.int .i64 0,.sl [],.sl [],.int .i64 0,.sl []]:=rfl;simp only[hz];clear hz
  rcases o with _|⟨o1,o⟩
  ·have h:=hn rfl;clear hn hc;have sz_w:=za6 w;generalize zF w=D_w at *
   by_cases c0:k<0
   ·clear c;exact zW zmq
   ·simp only[zabw] at c;have c1:0<=k:=by omega
    clear c;exact zW zmq
  ·have h:=hc o1 o rfl;clear hn hc;simp only[zabu] at c;have sz_w:=za6 w;generalize zF w=D_w at *
   by_cases c0:k<0
   ·clear c;exact zW zmq
   ·have c1:(o.length:Int)+1<=k:=by omega
    clear c;exact zW zmq
 ·rw[zabn c];have hk:k.toNat<(zbj w).length:=by omega
  have hs:=hstep _ (zMK hk);have hg:(opL w.tasks w.tasks.length)[k.toNat]? = some (((zbj w).getD k.toNat 0:Nat):Int):=by
   rw[hoo,zabI,zab0,zabx hk];rfl
  rw[<- hol] at c hk;generalize (zbj w).getD k.toNat 0=i at *;clear hstep hol hoo;generalize zcO K w i=r at *;obtain⟨r,e⟩:=r;simp only at hs;generalize opL w.tasks w.tasks.length=o at *
  rcases o with _|⟨o1,o⟩
  ·simp at hk
  have h:=hc o1 o rfl;clear hn hc;simp only;have sz_r:=za6 r;generalize zF r=D_r at *;have sz_w:=za6 w;generalize zF w=D_w at *;obtain⟨k2,rfl⟩:∃k2:Nat,k=k2:=⟨k.toNat,by omega⟩;simp only[zab5,zabu] at hg c hk;clear c;have hg2:(AV.d (D.int .i64 o1)::(zC o).map AV.d)[k2]? = some (.d (.int .i64 i)):=by
   show (((o1::o).map (D.int .i64)).map AV.d)[k2]? = _;rw[zabI,zabI,hg];rfl
  clear hg;exact zW zmq
def zWr:Go.Sim.Obj:= .row [AV.agg [.d (.int .i64 0),.d (.int .i64 0),.d (.int .i64 0),.d (.int .i64 0),.d (.int .i64 0),.d (.int .i64 0),.d (.int .i64 0),.d (.int .i64 0),.xsl [],.xsl [],.d (.int .i64 0),.d (.int .i64 0),.xsl [],.d (.int .i64 0),.xsl [],.xsl [],.d (.int .i64 0),.d (.int .i64 0),.d (.int .i64 0),.xsl [],.xsl [],.d (.int .i64 0),.xsl []]]
def rnS(l:List Command)(p:Nat×World):St:=⟨[(1,.d (.sl (l.map zaW))),(4,.ref 4 0 0),(6,.ref 6 0 0),(8,.d (.int .i64 p.1))],[(4,zWr),(6,.row [.d (zF p.2)])]⟩
def rnR(r:World×Int):Option (zX×St):=if r.2=0 then some (.exit 0,⟨[(4,.ref 4 0 0),(6,.ref 6 0 0)],[(4,zWr),(6,.row [.d (zF r.1)])]⟩) else some (.ret,⟨[(4,.ref 4 0 0),(5,.d (.int .i64 r.2))],[(4,zWr)]⟩)
theorem z70{K:Tok}{l:List Command}(P:Nat->World->Prop)(hl:l.length<=400)(hdo:∀k w,∀c∈l,k<l.length->P k w->zi G zfE [.d (zF w),.d (zaW c)] []=some (.d (.tup [zF (doW K w c).1,.int .i64 (doW K w c).2]),[]))(hk:∀k w,∀c∈l,k<l.length->P k w->(doW K w c).2=0->P (k+1) (doW K w c).1):∀p:Nat×World,p.1<=l.length/\P p.1 p.2->z6 G [] zA0 (rnS l p)=rnR (zer K (l.drop p.1) p.2):=by
 refine zaL (fun p:Nat×World=>l.length - p.1) _ _ _ fun⟨k,w⟩ ⟨h1,h2⟩ L ih=> ?_;simp only at h1 h2;simp only[rnS,zA0] at ih ⊢
 by_cases h0:k<l.length
 ·have hd:=hdo k w l[k] (zabC h0) h0 h2;have hke:=hk k w l[k] (zabC h0) h0 h2;have e1:l.drop k=l[k]::l.drop (k+1):=zabX h0;rw[e1];unfold zer;generalize doW K w l[k]=r at *;obtain⟨w2,e⟩:=r;simp only at *
  by_cases c:e=0
  ·subst c;have i1:=ih (k+1,w2) ⟨by simp only;omega,hke rfl⟩ (by simp only;omega);rw[zabn (by simp)];simp only at i1;clear ih hke hdo hk e1;generalize zer K (l.drop (k+1)) w2=z at *;unfold rnR at *;have sz_w:=za6 w;generalize zF w=D_w at *;have sz_w2:=za6 w2;generalize zF w2=D_w2 at *;unfold zWr at *;simp only[zNr,zB] at i1;exact zS
  ·rw[zabo c];clear ih hke hdo hk e1;unfold rnR;rw[zabn c];replace c:=zabt c;have sz_w:=za6 w;generalize zF w=D_w at *;have sz_w2:=za6 w2;generalize zF w2=D_w2 at *;unfold zWr at *;exact zS
 ·have e1:l.drop k=[]:=zaeg zo;rw[e1];clear ih hdo hk e1;unfold zer rnR;have sz_w:=za6 w;generalize zF w=D_w at *;unfold zWr at *;exact zS
theorem z7X{K:Tok}:∀(l:List Command) (w:World),(zer K l w).2≠0->(zer K l w).1=zbc:=by
 intro l
 induction l with
 | nil=>intro w h;exact absurd rfl h
 | cons c l ih=>
  intro w h;unfold zer at h ⊢
  by_cases c1:(doW K w c).2=0
  ·rw[zabn (fun q=>q c1)] at h ⊢;exact ih _ h
  ·rw[zabo c1]
theorem z7V{K:Tok}{s:Setup}{l:List Command}(P:Nat->World->Prop)(h4:s.slots<=4)(hL:l.length<=400)(h0:(zc1 s).2=0->P 0 (zc1 s).1)(hdo:∀k w,∀c∈l,k<l.length->P k w->zi G zfE [.d (zF w),.d (zaW c)] []=some (.d (.tup [zF (doW K w c).1,.int .i64 (doW K w c).2]),[]))(hk:∀k w,∀c∈l,k<l.length->P k w->(doW K w c).2=0->P (k+1) (doW K w c).1):zi G zlW [.d (zaJ s),.d (.sl (l.map zaW))] []=some (.d (.tup [zF (zgw K s l).1,.int .i64 (zgw K s l).2]),[]):=by
 have hn:=zMv s h4;have e0:zgw K s l=if (zc1 s).2≠0 then (zbc,(zc1 s).2) else if 400<l.length then (zbc,2) else zer K l (zc1 s).1:=by
  unfold zgw zc1
  by_cases c:(zbL s).2=0
  ·simp [c]
  ·simp [c]
 rw[e0];clear e0;have hz:zF zbc= .agg [.int .i64 0,.int .i64 0,.int .i64 0,.int .i64 0,.int .i64 0,.int .i64 0,.int .i64 0,.int .i64 0,.sl [],.sl [],.int .i64 0,.int .i64 0,.sl [],.int .i64 0,.sl [],.sl [],.int .i64 0,.int .i64 0,.int .i64 0,.sl [],.sl [],.int .i64 0,.sl []]:=rfl;generalize zc1 s=r at *;obtain⟨w,e⟩:=r;simp only at *
 by_cases c:e=0
 ·subst c;rw[zabn (by simp)]
  by_cases c1:400<l.length
  ·omega
  ·rw[zabn c1];have h:=z70 P zo hdo hk (0,w) ⟨by simp,h0 rfl⟩;simp only[rnS,zabZ,zabQ] at h;have hre:=z7X (K:=K) l w;clear h0 hdo hk;generalize zer K l w=z at *;obtain⟨z,ze⟩:=z;unfold rnR zWr at h;simp only at *;have sz_w:=za6 w;generalize zF w=D_w at *
   by_cases c2:ze=0
   ·subst c2;rw[zabo rfl] at h;clear hz hre;have sz_z:=za6 z;generalize zF z=D_z at *;exact zW zzJ
   ·rw[zabn c2] at h;rw[hre c2,hz];clear hz hre;replace c2:=zabt c2;exact zW zzJ
 ·rw[zabo c,hz];clear h0 hdo hk hz;replace c:=zabt c;have sz_w:=za6 w;generalize zF w=D_w at *;exact zW zzJ
theorem zT8{K:Tok}{u:Setup}{w:World}{c:Command}(hw:WI u w)(hs:w.steps<=1000000)(hl:w.log.length<=1000000)(hk:c.kind=2):zi G zfE [.d (zF w),.d (zaW c)] []=some (.d (.tup [zF (doW K w c).1,.int .i64 (doW K w c).2]),[]):=by
 have ht:=zaai w (zbo 0 (zf4 c.by_ 255)) hw.ar.ck ⟨hw.st,hs⟩ hl;have hm:(if 0<(if 255<c.by_ then 255 else c.by_) then (if 255<c.by_ then 255 else c.by_) else 0)=zbo 0 (zf4 c.by_ 255):=by
  unfold zbo zf4
  by_cases q1:c.by_<255<;>by_cases q2:255<c.by_<;>simp only[q1,q2,if_true,if_false]<;>split<;>omega
 unfold doW;generalize zbo 0 (zf4 c.by_ 255)=m at *;rw[zabn zo,zabo hk];clear hw hs hl;generalize zdX w m=r at *;obtain⟨r,e⟩:=r;simp only at *;obtain⟨k,pk,by_,iv,rf⟩:=c;simp only at *;subst hk;simp only[zaW]
 by_cases c:e=0
 ·subst c;rw[zabo rfl];have sz_r:=za6 r;generalize zF r=D_r at *;have sz_w:=za6 w;generalize zF w=D_w at *;exact zW zfa
 ·rw[zabn c];replace c:=zabt c;have sz_r:=za6 r;generalize zF r=D_r at *;have sz_w:=za6 w;generalize zF w=D_w at *;exact zW zfa
theorem zT5{K:Tok}{w:World}{c:Command}(h1:¬c.kind=1)(h2:¬c.kind=2)(h3:¬c.kind=3):zi G zfE [.d (zF w),.d (zaW c)] []=some (.d (.tup [zF (doW K w c).1,.int .i64 (doW K w c).2]),[]):=by
 unfold doW;rw[zabn h1,zabn h2,zabn h3];obtain⟨k,pk,by_,iv,rf⟩:=c;simp only at *;simp only[zaW];have sz_w:=za6 w;generalize zF w=D_w at *;exact zW zfa
theorem zT3{K:Tok}{w:World}{c:Command}(h4:w.setup.slots<=4)(hl:w.tasks.length<=200)(hT:c.inv.tokens.length<=4294967296)(hB:c.inv.bodies.length<=4294967296)(hk:c.kind=3)(hr:c.refs=[]):zi G zfE [.d (zF w),.d (zaW c)] []=some (.d (.tup [zF (doW K w c).1,.int .i64 (doW K w c).2]),[]):=by
 have h:=zLP w h4 hl hT hB;unfold doW;rw[zabn zo,zabn zo,zabo hk];have e0:¬(0<c.refs.length):=by rw[hr];simp
 simp only[zabn e0];clear e0 hT hB hl h4;obtain⟨k,pk,by_,iv,rf⟩:=c;simp only at *;subst hk hr;generalize zcJ w iv=r at *;obtain⟨r,n,e⟩:=r;simp only at *;simp only[zaW,zbg,zabq] at *
 by_cases c:e=0
 ·subst c;rw[zabo rfl];have sz_r:=za6 r;generalize zF r=D_r at *;have sz_w:=za6 w;generalize zF w=D_w at *;exact zW zfa
 ·rw[zabn c];replace c:=zabt c;have sz_r:=za6 r;generalize zF r=D_r at *;have sz_w:=za6 w;generalize zF w=D_w at *;exact zW zfa
end Go.Proofs.YtnmcgdpmikhohaaGreat
