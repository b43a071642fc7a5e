/-
  CountBetween.
-/
import Derived.Test.YtjalkkalhdnplaaGreatB907f86f
import Derived.Test.YtjalkkalhdnplaaGreatBfb41833
set_option linter.unusedSimpArgs false
set_option linter.unusedVariables false
set_option maxHeartbeats 10000000
set_option maxRecDepth 100000
namespace Go.Proofs.YtjalkkalhdnplaaGreat
open Go Go.Sim
def RA(u:Setup)(f:Int)(A B:List Int)(Q:List Bool)(N:Int)(n:Int)(x:zg):Prop:=
 f+1<=n/\n<=N/\Q.getD (n - f).toNat false=zco x.stripes/\A.getD (n - f).toNat 0=(zbm x.epoch u.limit x.slots).1/\B.getD (n - f).toNat 0=(zbm x.epoch u.limit x.slots).2
theorem zo3{A:List Int}{k:Nat}(hk:k<A.length)(h:A.getD k 0=0):A.set k 0=A:=by
 refine zY1 (by simp) fun j h1 h2=> ?_;rw[zZh]
 split
 ·rename_i e;subst e;rw[zWG,zWF h2] at h;exact h.symm
 ·rfl
theorem RA.next{u:Setup}{f N:Int}{A B:List Int}{Q:List Bool}{a:zg}(hf:f<=N)(hN:N<f+399)(hA:A.length=400)(hB:B.length=400)(hQ:Q.length=400):
    (∀n x,RA u f A B Q N n x->RA u f (A.set (N+1 - f).toNat (zbm a.epoch u.limit a.slots).1) (B.set (N+1 - f).toNat (zbm a.epoch u.limit a.slots).2) (Q.set (N+1 - f).toNat (zco a.stripes)) (N+1) n x)/\
    RA u f (A.set (N+1 - f).toNat (zbm a.epoch u.limit a.slots).1) (B.set (N+1 - f).toNat (zbm a.epoch u.limit a.slots).2) (Q.set (N+1 - f).toNat (zco a.stripes)) (N+1) (N+1) a:=by
 constructor
 ·rintro n x ⟨h1,h2,h3,h4,h5⟩;refine⟨h1,by omega,?_,?_,?_⟩
  ·rw[zhh _ _ _ _ _ zo,zWy zo];exact h3
  ·rw[zhh _ _ _ _ _ zo,zWy zo];exact h4
  ·rw[zhh _ _ _ _ _ zo,zWy zo];exact h5
 ·refine⟨by omega,by omega,?_,?_,?_⟩
  ·rw[zhh _ _ _ _ _ zo,zWz rfl]
  ·rw[zhh _ _ _ _ _ zo,zWz rfl]
  ·rw[zhh _ _ _ _ _ zo,zWz rfl]
theorem zBv(l:List Stripe):(!l.any ze1)=zco l:=by
 unfold zco;rw[List.all_eq_not_any_not];simp
structure CB where
 x:Nat
 a:zg
 ts:List zi
 N:Int
 t:zi
 A:List Int
 B:List Int
 Q:List Bool
structure CBI(u:Setup)(f:Int)(p:CB):Prop where
 f0:0<=f/\f<=102000
 n:f<=p.N/\p.N<=f+300
 j:PJ u p.N p.a p.ts
 c:CT u p.N p.t
 nu:p.t.number=199
 lA:p.A.length=400
 lB:p.B.length=400
 lQ:p.Q.length=400
 z:∀j:Nat,p.N - f<j->p.A.getD j 0=0/\p.B.getD j 0=0
 h:CH u (RA u f p.A p.B p.Q p.N) p.a p.t
theorem CBI.arr{u:Setup}{f:Int}{p:CB}(h:CBI u f p)(hN:p.N<f+300):∀j:Nat,p.N+1 - f<j->(p.A.set (p.N+1 - f).toNat (zbm p.a.epoch u.limit p.a.slots).1).getD j 0=0/\(p.B.set (p.N+1 - f).toNat (zbm p.a.epoch u.limit p.a.slots).2).getD j 0=0:=by
 intro j hj;have:=h.n;have:=h.lA;have:=h.lB;have hz:=h.z j zo;rw[zhh _ _ _ _ _ zo,zhh _ _ _ _ _ zo,zWy zo,zWy zo];exact hz
def zhc(s:Setup)(Wr:List D)(l:List Int)(f:Int)(p:CB):St:=
 ⟨[(3,.ref 22 0 0),(4,.ref 4 0 0),(5,.ref 27 0 0),(6,.ref 6 0 0),(8,.ref 8 0 0),(9,.ref 9 0 0),(10,.ref 10 0 0),(11,.d (.int .i64 f))],
  [(4,.row [.d (.agg (.int .i64 s.slots:: .int .i64 s.live:: .int .i64 s.capacity:: .int .i64 s.dead:: .int .i64 s.limit:: .int .i64 s.clock:: .int .i64 s.nextID:: .int .i64 s.epoch::Wr))]),(6,.row [.d (zd p.t)]),(8,.row [.d (.agg (p.A.map (D.int .i64)))]),(9,.row [.d (.agg (p.B.map (D.int .i64)))]),(10,.row [.d (.agg (p.Q.map D.bool))]),(22,zp l p.x),(27,.row [zbf p.a (.osl 10027 0 p.ts.length) p.N]),(10027,.row ((p.ts.map zd).map .d))]⟩
def zxE(r:Option (zT×St)):Prop:=∃ts:List zi,r=some (.exit 0,⟨[],[(10027,.row ((ts.map zd).map .d))]⟩)
theorem zEw(u:Setup)(Wr:List D)(l:List Int)(hL:l.length<=4000)(f:Int):∀p:CB,(CBI u f p/\p.ts≠[])->zbV zxE (zN G [260,18,188] zfJ (zhc u Wr l f p)):=by
 refine zl0 (fun p:CB=>(f+300 - p.N).toNat) _ (zhc u Wr l f) (fun _=>zbV zxE) fun⟨x,a,ts,N,t,A,B,Q⟩ ⟨hI,h0⟩ L ih=> ?_;have hf:=hI.f0;have hNN:=hI.n;simp only at hNN h0;have hn:=fun at1 m=>ze0 l at1 m hL;have hmo:=zrU l x hL
 by_cases c:N<f+300/\t.done=false/\(N<f+20\/(x:Int)<l.length)
 rotate_left
 ·clear ih hI h0;simp only[zhc,zfJ,zbf,zp]
  by_cases k1:N<f+300
  ·cases d:t.done with
   | true=>
    clear hmo c;simp only[zd,d]
    (try simp -implicitDefEqProofs (maxSteps:=4000000) (disch:=omega) only[zq,go_sem, *]);(try simp only[zPr]);repeat' (first|done|rfl|((first|refine za5 (fun hq=> ?_) (fun hq=> ?_)|refine zbd (fun hq=> ?_) (fun hq=> ?_))<;>(try (first|(exfalso;omega)|contradiction))<;>(try simp -implicitDefEqProofs (maxSteps:=4000000) (disch:=omega) only[zq,go_sem, *])<;>(try simp only[zPr])));(all_goals try rfl);(all_goals try (repeat' (first|done|rfl|(exfalso;omega)|contradiction|(refine za6 (fun hq=> ?_) (fun hq=> ?_)))))
    all_goals exact⟨ts,rfl⟩
   | false=>
    have k2:¬N<f+20:=fun q=>c ⟨k1,d,.inl q⟩;have k3:¬(x:Int)<l.length:=fun q=>c ⟨k1,d,.inr q⟩;rw[zW0 k3] at hmo;clear c k3;simp only[zd,d,zp] at *
    (try simp -implicitDefEqProofs (maxSteps:=4000000) (disch:=omega) only[zq,go_sem, *]);(try simp only[zPr]);repeat' (first|done|rfl|((first|refine za5 (fun hq=> ?_) (fun hq=> ?_)|refine zbd (fun hq=> ?_) (fun hq=> ?_))<;>(try (first|(exfalso;omega)|contradiction))<;>(try simp -implicitDefEqProofs (maxSteps:=4000000) (disch:=omega) only[zq,go_sem, *])<;>(try simp only[zPr])));(all_goals try rfl);(all_goals try (repeat' (first|done|rfl|(exfalso;omega)|contradiction|(refine za6 (fun hq=> ?_) (fun hq=> ?_)))))
    all_goals exact⟨ts,rfl⟩
  ·clear hmo c;simp only[zd]
   (try simp -implicitDefEqProofs (maxSteps:=4000000) (disch:=omega) only[zq,go_sem, *]);(try simp only[zPr]);repeat' (first|done|rfl|((first|refine za5 (fun hq=> ?_) (fun hq=> ?_)|refine zbd (fun hq=> ?_) (fun hq=> ?_))<;>(try (first|(exfalso;omega)|contradiction))<;>(try simp -implicitDefEqProofs (maxSteps:=4000000) (disch:=omega) only[zq,go_sem, *])<;>(try simp only[zPr])));(all_goals try rfl);(all_goals try (repeat' (first|done|rfl|(exfalso;omega)|contradiction|(refine za6 (fun hq=> ?_) (fun hq=> ?_)))))
   all_goals exact⟨ts,rfl⟩
 obtain⟨k1,hd,kc⟩:=c;have hmo2:(x:Int)<l.length->zh G 10 [.d (.pd (.agg [.sl (zt l),.int .i64 x]))] []=some (.d (.bool true),[]):=fun q=>by rw[zWY q] at hmo;exact hmo
 clear hmo;obtain⟨x2,q2⟩:∃x2,(zau l x).2=x2:=⟨_,rfl⟩;have harr:=hI.arr k1;obtain⟨r1,r2⟩:=RA.next (u:=u) (a:=a) (show f<=N by omega) zo hI.lA hI.lB hI.lQ;obtain⟨k,hk⟩:∃k:Nat,N+1 - f=k:=⟨(N+1 - f).toNat,by omega⟩;have hz:=hI.z k (by simp only;omega);have hkt:(N+1 - f).toNat=k:=by omega
 simp only at harr hz;rw[hkt] at harr r1 r2;have hqu:=zsl a.stripes (by have:=hI.j.i.ar.st;have:=hI.j.i.ar.sl;have:=(zeE hI.j.i.hu).1.2;simp only at *; omega);rw[zBv] at hqu;have hin:=zEu u Wr l x a ts N f t k A B (Q.set k (zco a.stripes)) zo hI.lA hI.lB (by have:=hI.j.i.ar.sl;have:=(zeE hI.j.i.hu).1.2;simp only at *; omega) (fun y hy=>(hI.j.i.ar.sh y hy).1) 0 (Nat.zero_le _);have t0:zby a u.limit 0=(0,0):=rfl;have t1:zby a u.limit a.slots.length=zbm a.epoch u.limit a.slots:=by unfold zby;rw[zYq]
 rw[t0,t1,zo3 (by have:=hI.lA;simp only at this;omega) hz.1,zo3 (by have:=hI.lB;simp only at this;omega) hz.2] at hin;have lA:(A.set k (zbm a.epoch u.limit a.slots).1).length=400:=by rw[zW8];exact hI.lA
 have lB:(B.set k (zbm a.epoch u.limit a.slots).2).length=400:=by rw[zW8];exact hI.lB
 have lQ:(Q.set k (zco a.stripes)).length=400:=by rw[zW8];exact hI.lQ
 have lQ0:Q.length=400:=hI.lQ;have hk4:k<Q.length:=by omega
 obtain⟨A2,hA2⟩:∃A2,A.set k (zbm a.epoch u.limit a.slots).1=A2:=⟨_,rfl⟩;obtain⟨B2,hB2⟩:∃B2,B.set k (zbm a.epoch u.limit a.slots).2=B2:=⟨_,rfl⟩;obtain⟨Q2,hQ2⟩:∃Q2,Q.set k (zco a.stripes)=Q2:=⟨_,rfl⟩;rw[hA2,hB2] at harr;rw[hA2,hB2,hQ2] at hin r1 r2;rw[hA2] at lA;rw[hB2] at lB;rw[hQ2] at lQ;have hch:=hI.h.imp r1;have hj:=hI.j;have hc:=hI.c;have hnu:=hI.nu;simp only at hch hj hc hnu;clear hI hz r1 hA2 hB2 lQ0 t0 t1
 by_cases c2:nD l x 3=2
 ·obtain⟨a2,ts2,x3,hj2,hmo3,hlen,hr⟩:=zSn hj zo h0 l x2 hL;have i1:=ih ⟨x3,a2,ts2,N+1,t,A2,B2,Q2⟩ ⟨{ f0:=hf,n:=by simp only;omega,j:=hj2,c:=zxV hc,nu:=hnu,lA:=lA,lB:=lB,lQ:=lQ,z:=harr,h:=hch.mono hj.i.ar hmo3 },fun q=>h0 (zXk.1 (by have q3:ts2=[]:=q;rw[<- hlen,q3];rfl))⟩ (by simp only;omega);simp only[rvH] at hr;rw[hlen] at hr;simp only[zhc,hlen] at i1;clear hj hj2 hc ih hch harr r2 lA lB lQ hnu h0 hlen hmo3;simp only[zhc,ziL,zjR,zfJ,zbf,zp,rvH,rv0,zWV] at *;simp only[zd,hd] at *
  by_cases k12:N<f+20
  ·clear hmo2 kc;exact zS
  ·have hmo:=hmo2 (kc.resolve_left k12);clear hmo2 kc;exact zS
 ·have pk:True:=trivial;have hpm:=zxU hj.i.hu hj.i.ar hc hd;have e1:=zBo (n:=N+1) hj.i.hu hj.i.ar hc hd;obtain⟨g0,g5,g6⟩:=zxS (n:=N+1) hc hd hpm.1;have hpc:0<=t.pc/\t.pc<=3:=by
   rcases hc.2.2.2 with q|q
   ·rw[hd] at q;cases q
   ·exact q.2.2.2.1
  have hp1:t.pc=1->t.second=[]:=by
   intro q1
   rcases hc.2.2.2 with q|q
   ·rw[hd] at q;cases q
   ·exact zXk.1 (q.2.2.2.2.1 q1).2
  have hre:t.results=[]:=by
   rcases hc.2.2.2 with q|q
   ·rw[hd] at q;cases q
   ·exact q.2.2.1
  obtain⟨w1,w2⟩:=zxR (zeE hj.i.hu).1 hj.i.ar hj.t.g hc.2.2.1.su r2 hch hpc hp1 hpm.1;have s1:=zB2 a a (zyR hj.i.hu hj.i.ar);simp only[decide_true] at s1;unfold CE at w2;rw[hre] at w2;clear hch hc r2 hpc hp1 hre;generalize zaj a t (N+1)=r at *;obtain⟨a2,t2,ev,e⟩:=r;simp only at hpm e1 g0 g5 g6 w1 w2;subst g0;obtain⟨rfl,g1,g2,g3,g4⟩:=hpm;have i1:=ih ⟨x2,a2,ts,N+1,t2,A2,B2,Q2⟩ ⟨{ f0:=hf,n:=by simp only;omega,j:=(hj.keep zo).1,c:=g2,nu:=by simp only;omega,lA:=lA,lB:=lB,lQ:=lQ,z:=harr,h:=w1 },h0⟩ (by simp only;omega);clear ih hj g1 g2 g3 g4 w1 h0 harr;rw[hnu] at g5;clear hnu
  rcases w2 with ⟨rfl,w3⟩|⟨y,⟨y1,y2,y3,y4,y5⟩,y6,rfl,w4⟩
  ·rw[hd] at w3;clear g6;obtain⟨tn,ti,tr⟩:∃q1 q2 q3:Nat,True:=⟨0,0,0,trivial⟩;clear tn ti tr;simp only[zhc,ziL,zjR,zfJ,zbf,zp,zWA,zWV] at *;simp only[zd,zn,hd,w3,g5] at *
   by_cases k12:N<f+20
   ·clear hmo2 kc;exact zS
   ·have hmo:=hmo2 (kc.resolve_left k12);clear hmo2 kc;exact zS
  ·have g7:t2.done=true:=by
      rcases g6 with q|q
      ·exact absurd q.1 (by simp)
      ·exact q.2
   clear g6;obtain⟨j,hj2⟩:∃j:Nat,t.id - f=j:=⟨(t.id - f).toNat,by omega⟩;have hjt:(t.id - f).toNat=j:=by omega
   rw[hjt] at y3 y4 y5;rw[y6] at y3;have j1:(Q2.map D.bool)[j]? = some (.bool true):=by
    rw[zWT,zWF zo];rw[zWG,zWF zo] at y3;simp only[zXl] at y3;rw[y3];rfl
   have j2:(A2.map (D.int .i64))[j]? = some (.int .i64 (zbm y.epoch u.limit y.slots).1):=by
    rw[zWT,zWF zo];rw[zWG,zWF zo] at y4;simp only[zXl] at y4;rw[y4];rfl
   have j3:(B2.map (D.int .i64))[j]? = some (.int .i64 (zbm y.epoch u.limit y.slots).2):=by
    rw[zWT,zWF zo];rw[zWG,zWF zo] at y5;simp only[zXl] at y5;rw[y5];rfl
   have j4:(j:Int)<=N+1 - f/\1<=(j:Int):=by omega
   have j5:(A2.map (D.int .i64)).length=400:=by rw[zWM];exact lA
   have j6:(B2.map (D.int .i64)).length=400:=by rw[zWM];exact lB
   have j7:(Q2.map D.bool).length=400:=by rw[zWM];exact lQ
   clear y3 y4 y5 y6 hjt;simp only[evT,zWW] at *;generalize (zbm y.epoch u.limit y.slots).1=T1 at *;generalize (zbm y.epoch u.limit y.slots).2=T2 at *;simp only[zhc,ziL,zjR,zfJ,zbf,zp,zWD,zWA,zad,zWV] at *;simp only[zd,zn,hd,g7,g5,w4,zZ,z5,zbT,zWD,zWA] at *
   by_cases k12:N<f+20
   ·clear hmo2 kc;exact zS
   ·have hmo:=hmo2 (kc.resolve_left k12);clear hmo2 kc;exact zS
def zhL(s:Setup)(Wr:List D)(l:List Int)(f:Int)(p:CB):St:=
 ⟨[(3,.ref 22 0 0),(4,.ref 4 0 0),(5,.ref 27 0 0),(6,.ref 6 0 0),(8,.ref 8 0 0),(9,.ref 9 0 0),(10,.ref 10 0 0),(11,.d (.int .i64 f))],
  [(4,.row [.d (.agg (.int .i64 s.slots:: .int .i64 s.live:: .int .i64 s.capacity:: .int .i64 s.dead:: .int .i64 s.limit:: .int .i64 s.clock:: .int .i64 s.nextID:: .int .i64 s.epoch::Wr))]),(6,.row [.d (zd p.t)]),(8,.row [.d (.agg (p.A.map (D.int .i64)))]),(9,.row [.d (.agg (p.B.map (D.int .i64)))]),(10,.row [.d (.agg (p.Q.map D.bool))]),(22,zp l p.x),(27,.row [zbf p.a (.xsl []) p.N])]⟩
theorem zEv(u:Setup)(Wr:List D)(l:List Int)(hL:l.length<=4000)(f:Int):∀p:CB,(CBI u f p/\p.ts=[])->zN G [260,18,188] zfJ (zhL u Wr l f p)=some (.exit 0,⟨[],[]⟩):=by
 refine zaB (fun p:CB=>(f+300 - p.N).toNat) _ (zhL u Wr l f) _ fun⟨x,a,ts,N,t,A,B,Q⟩ ⟨hI,h0⟩ L ih=> ?_;have hf:=hI.f0;have hNN:=hI.n;simp only at hNN h0;have hn:=fun at1 m=>ze0 l at1 m hL;have hmo:=zrU l x hL
 by_cases c:N<f+300/\t.done=false/\(N<f+20\/(x:Int)<l.length)
 rotate_left
 ·clear ih hI h0;simp only[zhL,zfJ,zbf,zp]
  by_cases k1:N<f+300
  ·cases d:t.done with
   | true=>
    clear hmo c;simp only[zd,d];exact zS
   | false=>
    have k2:¬N<f+20:=fun q=>c ⟨k1,d,.inl q⟩;have k3:¬(x:Int)<l.length:=fun q=>c ⟨k1,d,.inr q⟩;rw[zW0 k3] at hmo;clear c k3;simp only[zd,d,zp] at *;exact zS
  ·clear hmo c;simp only[zd];exact zS
 obtain⟨k1,hd,kc⟩:=c;have hmo2:(x:Int)<l.length->zh G 10 [.d (.pd (.agg [.sl (zt l),.int .i64 x]))] []=some (.d (.bool true),[]):=fun q=>by rw[zWY q] at hmo;exact hmo
 clear hmo;obtain⟨x2,q2⟩:∃x2,(zau l x).2=x2:=⟨_,rfl⟩;have harr:=hI.arr k1;obtain⟨r1,r2⟩:=RA.next (u:=u) (a:=a) (show f<=N by omega) zo hI.lA hI.lB hI.lQ;obtain⟨k,hk⟩:∃k:Nat,N+1 - f=k:=⟨(N+1 - f).toNat,by omega⟩;have hz:=hI.z k (by simp only;omega);have hkt:(N+1 - f).toNat=k:=by omega
 simp only at harr hz;rw[hkt] at harr r1 r2;have hqu:=zsl a.stripes (by have:=hI.j.i.ar.st;have:=hI.j.i.ar.sl;have:=(zeE hI.j.i.hu).1.2;simp only at *; omega);rw[zBv] at hqu;have hin:=zEt u Wr l x a N f t k A B (Q.set k (zco a.stripes)) zo hI.lA hI.lB (by have:=hI.j.i.ar.sl;have:=(zeE hI.j.i.hu).1.2;simp only at *; omega) (fun y hy=>(hI.j.i.ar.sh y hy).1) 0 (Nat.zero_le _);have t0:zby a u.limit 0=(0,0):=rfl;have t1:zby a u.limit a.slots.length=zbm a.epoch u.limit a.slots:=by unfold zby;rw[zYq]
 rw[t0,t1,zo3 (by have:=hI.lA;simp only at this;omega) hz.1,zo3 (by have:=hI.lB;simp only at this;omega) hz.2] at hin;have lA:(A.set k (zbm a.epoch u.limit a.slots).1).length=400:=by rw[zW8];exact hI.lA
 have lB:(B.set k (zbm a.epoch u.limit a.slots).2).length=400:=by rw[zW8];exact hI.lB
 have lQ:(Q.set k (zco a.stripes)).length=400:=by rw[zW8];exact hI.lQ
 have lQ0:Q.length=400:=hI.lQ;have hk4:k<Q.length:=by omega
 obtain⟨A2,hA2⟩:∃A2,A.set k (zbm a.epoch u.limit a.slots).1=A2:=⟨_,rfl⟩;obtain⟨B2,hB2⟩:∃B2,B.set k (zbm a.epoch u.limit a.slots).2=B2:=⟨_,rfl⟩;obtain⟨Q2,hQ2⟩:∃Q2,Q.set k (zco a.stripes)=Q2:=⟨_,rfl⟩;rw[hA2,hB2] at harr;rw[hA2,hB2,hQ2] at hin r1 r2;rw[hA2] at lA;rw[hB2] at lB;rw[hQ2] at lQ;have hch:=hI.h.imp r1;have hj:=hI.j;have hc:=hI.c;have hnu:=hI.nu;simp only at hch hj hc hnu;clear hI hz r1 hA2 hB2 lQ0 t0 t1
 by_cases c2:nD l x 3=2
 ·subst h0;obtain⟨a2,x3,hj2,hmo3,hr⟩:=zSm hj zo l x2 hL;have i1:=ih ⟨x3,a2,[],N+1,t,A2,B2,Q2⟩ ⟨{ f0:=hf,n:=by simp only;omega,j:=hj2,c:=zxV hc,nu:=hnu,lA:=lA,lB:=lB,lQ:=lQ,z:=harr,h:=hch.mono hj.i.ar hmo3 },rfl⟩ (by simp only;omega);simp only[rv0] at hr;simp only[zhL] at i1;clear hj hj2 hc ih hch harr r2 lA lB lQ hnu hmo3;simp only[zhL,ziK,zjQ,zfJ,zbf,zp,rvH,rv0,zWV] at *;simp only[zd,hd] at *
  by_cases k12:N<f+20
  ·clear hmo2 kc;exact zS
  ·have hmo:=hmo2 (kc.resolve_left k12);clear hmo2 kc;exact zS
 ·have pk:True:=trivial;have hpm:=zxU hj.i.hu hj.i.ar hc hd;have e1:=zBo (n:=N+1) hj.i.hu hj.i.ar hc hd;obtain⟨g0,g5,g6⟩:=zxS (n:=N+1) hc hd hpm.1;have hpc:0<=t.pc/\t.pc<=3:=by
   rcases hc.2.2.2 with q|q
   ·rw[hd] at q;cases q
   ·exact q.2.2.2.1
  have hp1:t.pc=1->t.second=[]:=by
   intro q1
   rcases hc.2.2.2 with q|q
   ·rw[hd] at q;cases q
   ·exact zXk.1 (q.2.2.2.2.1 q1).2
  have hre:t.results=[]:=by
   rcases hc.2.2.2 with q|q
   ·rw[hd] at q;cases q
   ·exact q.2.2.1
  obtain⟨w1,w2⟩:=zxR (zeE hj.i.hu).1 hj.i.ar hj.t.g hc.2.2.1.su r2 hch hpc hp1 hpm.1;have s1:=zB2 a a (zyR hj.i.hu hj.i.ar);simp only[decide_true] at s1;unfold CE at w2;rw[hre] at w2;clear hch hc r2 hpc hp1 hre;generalize zaj a t (N+1)=r at *;obtain⟨a2,t2,ev,e⟩:=r;simp only at hpm e1 g0 g5 g6 w1 w2;subst g0;obtain⟨rfl,g1,g2,g3,g4⟩:=hpm;have i1:=ih ⟨x2,a2,ts,N+1,t2,A2,B2,Q2⟩ ⟨{ f0:=hf,n:=by simp only;omega,j:=(hj.keep zo).1,c:=g2,nu:=by simp only;omega,lA:=lA,lB:=lB,lQ:=lQ,z:=harr,h:=w1 },h0⟩ (by simp only;omega);clear ih hj g1 g2 g3 g4 w1 h0 harr;rw[hnu] at g5;clear hnu
  rcases w2 with ⟨rfl,w3⟩|⟨y,⟨y1,y2,y3,y4,y5⟩,y6,rfl,w4⟩
  ·rw[hd] at w3;clear g6;obtain⟨tn,ti,tr⟩:∃q1 q2 q3:Nat,True:=⟨0,0,0,trivial⟩;clear tn ti tr;simp only[zhL,ziK,zjQ,zfJ,zbf,zp,zWA,zWV] at *;simp only[zd,zn,hd,w3,g5] at *
   by_cases k12:N<f+20
   ·clear hmo2 kc;exact zS
   ·have hmo:=hmo2 (kc.resolve_left k12);clear hmo2 kc;exact zS
  ·have g7:t2.done=true:=by
      rcases g6 with q|q
      ·exact absurd q.1 (by simp)
      ·exact q.2
   clear g6;obtain⟨j,hj2⟩:∃j:Nat,t.id - f=j:=⟨(t.id - f).toNat,by omega⟩;have hjt:(t.id - f).toNat=j:=by omega
   rw[hjt] at y3 y4 y5;rw[y6] at y3;have j1:(Q2.map D.bool)[j]? = some (.bool true):=by
    rw[zWT,zWF zo];rw[zWG,zWF zo] at y3;simp only[zXl] at y3;rw[y3];rfl
   have j2:(A2.map (D.int .i64))[j]? = some (.int .i64 (zbm y.epoch u.limit y.slots).1):=by
    rw[zWT,zWF zo];rw[zWG,zWF zo] at y4;simp only[zXl] at y4;rw[y4];rfl
   have j3:(B2.map (D.int .i64))[j]? = some (.int .i64 (zbm y.epoch u.limit y.slots).2):=by
    rw[zWT,zWF zo];rw[zWG,zWF zo] at y5;simp only[zXl] at y5;rw[y5];rfl
   have j4:(j:Int)<=N+1 - f/\1<=(j:Int):=by omega
   have j5:(A2.map (D.int .i64)).length=400:=by rw[zWM];exact lA
   have j6:(B2.map (D.int .i64)).length=400:=by rw[zWM];exact lB
   have j7:(Q2.map D.bool).length=400:=by rw[zWM];exact lQ
   clear y3 y4 y5 y6 hjt;simp only[evT,zWW] at *;generalize (zbm y.epoch u.limit y.slots).1=T1 at *;generalize (zbm y.epoch u.limit y.slots).2=T2 at *;simp only[zhL,ziK,zjQ,zfJ,zbf,zp,zWD,zWA,zad,zWV] at *;simp only[zd,zn,hd,g7,g5,w4,zZ,z5,zbT,zWD,zWA] at *
   by_cases k12:N<f+20
   ·clear hmo2 kc;exact zS
   ·have hmo:=hmo2 (kc.resolve_left k12);clear hmo2 kc;exact zS
end Go.Proofs.YtjalkkalhdnplaaGreat
