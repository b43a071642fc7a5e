/-
  The law ArenaSwaps.
-/
import Derived.Test.YtnmcgdpmikhohaaGreatB83c1336
import Derived.Test.YtnmcgdpmikhohaaGreatB4b83aab
import Derived.Test.YtnmcgdpmikhohaaGreatBef7561a
import Derived.Test.YtnmcgdpmikhohaaGreatBad36592
import Derived.Test.YtnmcgdpmikhohaaGreatB4aedbb9
import Derived.Test.YtnmcgdpmikhohaaGreatB762408a
import Derived.Test.YtnmcgdpmikhohaaGreatBbf76a49
import Derived.Test.YtnmcgdpmikhohaaGreatBaa4c213
set_option linter.unusedSimpArgs false
set_option linter.unusedVariables false
set_option maxHeartbeats 10000000
set_option maxRecDepth 100000
namespace Go.Proofs.YtnmcgdpmikhohaaGreat
open Go Go.Sim
def zaiz(l:List Int)(r:Option (Go.Sim.AV×zd)):Prop:=∃(e:Edit) (a':Nat),r=some (.d (zfT e),[(1000000,zB l a')])
theorem zaiA(l:List Int)(a:Nat)(n:Int)(hL:l.length<=4000)(h1:1<=n)(h2:n<=6):zfF (zaiz l) (zi G zaeZ [.ref 1000000 0 0,.d (.int .i64 n)] [(1000000,zB l a)]):=by
 have hn:=fun at1 m=>zgr l at1 m hL;have hr:=fun at1 lo hi=>zng l at1 lo hi hL;have hp:=fun at1=>z4Y l at1 [0,10000,20000,32767,32768,40000,50000,65534] hL (by simp) (by simp);simp only[zC,zabs,zabq] at hp;have n1:=zbE l a (n:=2) zo;rw[zI zaiX (by simp)];simp -implicitDefEqProofs (maxSteps:=4000000) (disch:=omega) only[zafw,zagl,zh,go_sem, *];(try simp only[zPr]);repeat' (first|done|rfl|((first|refine zad (fun hq=> ?_) (fun hq=> ?_)|refine zaj (fun hq=> ?_) (fun hq=> ?_))<;>(try (first|(exfalso;omega)|contradiction))<;>(try simp -implicitDefEqProofs (maxSteps:=4000000) (disch:=omega) only[zh,go_sem, *])<;>(try simp only[zPr])));(all_goals try rfl);(all_goals try (repeat' (first|done|rfl|(exfalso;omega)|contradiction|(refine zae (fun hq=> ?_) (fun hq=> ?_)))))
 all_goals exact⟨⟨_,_,_,_⟩,_,rfl⟩
theorem zaih(d:Directory)(e:Edit):(zgG d e).1.l.length<=d.l.length+2/\(zgG d e).1.forward.length<=d.forward.length:=by
 unfold zgG zCR zBl
 repeat' split
 all_goals simp [zcF]
 all_goals omega
theorem zajb(n l:Int)(h:1<=l/\l<=n/\n<=6):zi G zpd [.d (.int .i64 n),.d (.int .i64 l)] []=some (.d (.tup [zaT (zkD n l).1,.int .i64 0]),[]):=by
 have hn:n=1\/n=2\/n=3\/n=4\/n=5\/n=6:=by omega
 have hl:l=1\/l=2\/l=3\/l=4\/l=5\/l=6:=by omega
 rcases hn with rfl|rfl|rfl|rfl|rfl|rfl<;>rcases hl with rfl|rfl|rfl|rfl|rfl|rfl<;>(try (exfalso;omega))
 all_goals clear h
 all_goals (have zk0:= @zaC;have zk1:=zAN.eq_1;have zk2:=zAO.eq_1;exact zW zW0)
theorem zajc{n l:Int}(h:1<=l/\l<=n/\n<=6):(zkD n l).1.l.length<=6/\(zkD n l).1.forward.length<=6:=by
 unfold zkD;rw[zabn zo];simp only[ze4,z9t,zacp];omega
def dlS(l:List Int)(n:Int)(p:Nat×Nat×Directory):St:=⟨[(0,.ref 1000000 0 0),(2,.ref 2 0 0),(3,.d (.int .i64 n)),(4,.ref 4 0 0),(6,.d (.int .i64 p.1)),(1000000,.ref 1000000 1 0)],[(2,.row [.agg [.d (.int .i64 0),.xsl [],.xsl []]]),(4,.row [.d (zaT p.2.2)]),(1000000,zB l p.2.1)]⟩
def zag4(l:List Int)(r:Option (zX×St)):Prop:=∃(d:Directory) (a':Nat),d.l.length<=100/\d.forward.length<=6/\r=some (.exit 0,⟨[(2,.ref 2 0 0),(4,.ref 4 0 0),(1000000,.ref 1000000 1 0)],[(2,.row [.agg [.d (.int .i64 0),.xsl [],.xsl []]]),(4,.row [.d (zaT d)]),(1000000,zB l a')]⟩)
theorem zaiv(l:List Int)(n:Int)(hL:l.length<=4000)(hn1:1<=n)(hn2:n<=6):∀p:Nat×Nat×Directory,(p.1<=8/\p.2.2.l.length+2 * p.1<=30/\p.2.2.forward.length<=6)->zag4 l (z6 G [] zaeQ (dlS l n p)):=by
 refine zsO (fun p:Nat×Nat×Directory=>p.1) _ (dlS l n) (fun _=>zfF (zag4 l)) fun⟨k,x,d⟩ ⟨h1,h2,h3⟩ L ih=> ?_;simp only at h1 h2 h3
 rcases k with _|k
 ·clear ih;simp only[dlS,zaeQ]
  (try simp -implicitDefEqProofs (maxSteps:=4000000) (disch:=omega) only[zh,go_sem, *]);(try simp only[zPr]);repeat' (first|done|rfl|((first|refine zad (fun hq=> ?_) (fun hq=> ?_)|refine zaj (fun hq=> ?_) (fun hq=> ?_))<;>(try (first|(exfalso;omega)|contradiction))<;>(try simp -implicitDefEqProofs (maxSteps:=4000000) (disch:=omega) only[zh,go_sem, *])<;>(try simp only[zPr])));(all_goals try rfl);(all_goals try (repeat' (first|done|rfl|(exfalso;omega)|contradiction|(refine zae (fun hq=> ?_) (fun hq=> ?_)))))
  all_goals exact⟨d,x,by omega,h3,rfl⟩
 ·obtain⟨e,x2,hed⟩:=zaiA l x n hL hn1 hn2;have hap:=z6G d e zo;have hal:=zaih d e;have ek:((k:Int)+1 - 1)=k:=by omega
  generalize zgG d e=r at *;obtain⟨d2,e2⟩:=r;simp only at hal hap
  by_cases c:e2=0
  ·subst c;obtain⟨g1,g2⟩:=hal;have i1:=ih (k,x2,d2) ⟨by simp only;omega,by simp only;omega,by simp only;omega⟩ (by simp only;omega);clear ih;simp only[dlS,zaeQ] at *;have sz_d:=zaeG d;generalize zaT d=D_d at *;have sz_d2:=zaeG d2;generalize zaT d2=D_d2 at *;have sz_e:=zag5 e;generalize zfT e=D_e at *;simp only[zNr,zB] at i1;exact zS
  ·have i1:=ih (k,x2,d) ⟨by simp only;omega,by simp only;omega,h3⟩ (by simp only;omega);replace c:=zabt c;clear ih hal;simp only[dlS,zaeQ] at *;have sz_d:=zaeG d;generalize zaT d=D_d at *;have sz_d2:=zaeG d2;generalize zaT d2=D_d2 at *;have sz_e:=zag5 e;generalize zfT e=D_e at *;simp only[zNr,zB] at i1;exact zS
theorem zaiu(l:List Int)(a:Nat)(hL:l.length<=4000):∃(d:Directory) (a':Nat),d.l.length<=100/\d.forward.length<=6/\zi G zaeY [.ref 1000000 0 0] [(1000000,zB l a)]=some (.d (zaT d),[(1000000,zB l a')]):=by
 obtain⟨x2,q2⟩:∃x2,(za0 l a).2=x2:=⟨_,rfl⟩;obtain⟨x3,q3⟩:∃x3,(za0 l x2).2=x3:=⟨_,rfl⟩;obtain⟨x4,q4⟩:∃x4,(za0 l x3).2=x4:=⟨_,rfl⟩;have n1:=zbE l a (n:=6) zo;have n3:=zbE l x3 (n:=8) zo;have r1:=zng l a 1 6 hL zo zo zo zo;have r3:=zgr l x3 8 hL zo zo;have e6:(6:Int) - 1+1=6:=by decide
 rw[q2,e6] at r1;rw[q4] at r3;obtain⟨n,hn⟩:∃n,1+nD l a 6=n:=⟨_,rfl⟩;rw[hn] at r1;have r2:=zng l x2 1 n hL zo zo zo zo;rw[q3] at r2;have n2:=zbE l x2 (n:=n - 1+1) zo;generalize nD l x2 (n - 1+1)=z at *;obtain⟨k,hk⟩:∃k:Nat,nD l x3 8=k:=⟨(nD l x3 8).toNat,by omega⟩;rw[hk] at r3 n3;have hd:=zajb n (1+z) zo;have hln:=zajc (n:=n) (l:=1+z) zo;generalize (zkD n (1+z)).1=d at *;obtain⟨d2,a',g1,g2,hl⟩:=zaiv l n hL zo zo ⟨k,x4,d⟩ ⟨by simp only;omega,by simp only;omega,hln.2⟩;refine⟨d2,a',g1,g2,?_⟩;clear q2 q3 q4 e6 hn hk hln g1 g2 n1 n2 n3;simp only[dlS,zB] at *;have sz_d:=zaeG d;generalize zaT d=D_d at *;have sz_d2:=zaeG d2;generalize zaT d2=D_d2 at *;exact zW zaiW
theorem zajP(a:zy)(v:Int)(d:Directory)(hL:d.l.length<=4294967296)(hF:d.forward.length<=4294967296)(hS:a.slots.length<=1000):zi G zaeV [.d (zx a),.d (.int .i64 v),.d (zaT d)] []=some (.d (.tup [zx (casDir a v d).1,.bool (casDir a v d).2.1,.int .i64 (casDir a v d).2.2]),[]):=by
 have hv:=zair d hL hF;unfold casDir;generalize zbl d=w at *
 by_cases c0:w=0
 ·subst c0;rw[zabn (by simp)]
  by_cases c1:d.forward.length=a.slots.length
  ·rw[zabn zo]
   by_cases c2:a.dir.version=v
   ·rw[zabn zo];simp only[zx,zaT] at *;exact zW zafk
   ·rw[zabo c2];simp only[zx,zaT] at *;exact zW zafk
  ·rw[zabo c1];simp only[zx,zaT,zM,zabq,ze6,zT,zC] at *;exact zW zafk
 ·rw[zabo c0];replace c0:=zabt c0;simp only[zx,zaT,zM,zabq,ze6,zT,zC] at *;exact zW zafk
theorem zajR(a:zy):zi G zaeW [.d (zx a)] []=some (.d (zaT a.dir),[]):=by
 simp only[zx,zaT];exact zW zaiV
theorem zajT(a:zy)(b:Int)(hc:0<=a.clock/\a.clock<=1073741824):zi G zaeX [.d (zx a),.d (.int .i64 b)] []=some (.d (.tup [zx (zeA a b).1,.int .i64 (zeA a b).2]),[]):=by
 have h0:=zRJ b 0 1099511627776;unfold zeA
 by_cases c0:0<=b/\b<=1099511627776
 ·rw[zabM c0.1,zabM c0.2] at h0;rw[zabn (fun q=>q c0)]
  by_cases c1:1073741824<a.clock+b
  ·rw[zabo c1];simp only[zx,zM,zabq,ze6,zT,zC] at *;exact zW zaf2
  ·rw[zabn c1];simp only[zx] at *;exact zW zaf2
 ·rw[zabo c0];have e:(decide (0<=b)&&decide (b<=1099511627776))=false:=by
   rw[<- zadD];exact zabP c0
  rw[e] at h0;clear e c0;simp only[zx,zM,zabq,ze6,zT,zC] at *;exact zW zaf2
theorem zajS(a:zy)(w:Int):zi G znT [.d (zx a),.d (.int .i64 w)] []=some (.d (.tup [.int .i64 (zgn a w).1,.int .i64 (zgn a w).2]),[]):=by
 unfold zgn;simp only[zx];exact zW zWB
theorem zafD:FitA zM:=⟨by simp [zM],fun i h=>by simp [zM] at h,by simp [zM],by simp [zM,zaH],by simp [zM,zcF],by simp [zM,zcF]⟩
theorem zaik:za8 G 60 zae5 [] []=some (.d (.bool true),[]):=by kernel_rfl
theorem zail:zi G zae5 [] []=some (.d (.bool true),[]):=zGB.2 ⟨60,zaik⟩
theorem zSj(x y:Int):zi G zqz [.ref 1000000 0 0,.d (.int .i64 y)] [(1000000,.row [.d (.agg [.int .i64 x])])]=some (.d (.tup []),[(1000000,.row [.d (.int .i64 y)])]):=by
 exact zW zXv
theorem zSi(x:Int):zi G zqy [.ref 1000000 0 0] [(1000000,.row [.d (.int .i64 x)])]=some (.d (.int .i64 x),[(1000000,.row [.d (.int .i64 x)])]):=by
 exact zW zXu
theorem zSh(x y z:Int):zi G zqx [.ref 1000000 0 0,.d (.int .i64 y),.d (.int .i64 z)] [(1000000,.row [.d (.int .i64 x)])]=some (.d (.bool (decide (x=y))),[(1000000,.row [.d (.int .i64 (if x=y then z else x))])]):=by
 by_cases h:x=y
 ·simp only[h,decide_true,if_true];exact zW zIP
 ·simp only[h,decide_false,if_false];exact zW zIP
theorem zajQ(a:zy)(w old next:Int):zi G znS [.d (zx a),.d (.int .i64 w),.d (.int .i64 old),.d (.int .i64 next)] []=some (.d (.tup [zx (casWord a w old next).1,.bool (casWord a w old next).2.1,.int .i64 (casWord a w old next).2.2]),[]):=by
 have h0:=zRJ next 0 65536
 have h9:=zRJ next 1 1073741824
 have hs:=zSj 0;have hl:=zSi;have hc:=zSh;unfold casWord
 by_cases c:w≠1/\w≠3
 ·rw[zabo c];have c1:¬w=1:=c.1;have c3:¬w=3:=c.2;clear c h0 h9 hs hl hc;simp only[zx,zM,zabq,ze6,zT,zC] at *;exact zW zy8
 rw[zabn c];have hw:w=1\/w=3:=by omega
 clear c
 rcases hw with rfl|rfl
 ·clear h9
  by_cases h2:0<=next/\next<=65536
  ·rw[zabn zo];rw[zabM h2.1,zabM h2.2] at h0;simp only[zgn,if_true]
   by_cases h3:a.epoch=old
   ·rw[zabn zo];subst h3;clear h2;simp only[zx] at *;exact zW zy8
   ·rw[zabo zo];clear h2;simp only[zx] at *;exact zW zy8
  ·rw[zabo (.inl ⟨rfl,h2⟩)];have e:(decide (0<=next)&&decide (next<=65536))=false:=by
    rw[<- zadD];exact zabP h2
   rw[e] at h0;clear h2 e;simp only[zx,zM,zabq,ze6,zT,zC] at *;exact zW zy8
 ·clear h0
  by_cases h2:1<=next/\next<=1073741824
  ·rw[zabn zo];rw[zabM h2.1,zabM h2.2] at h9;simp only[zgn,Int.reduceEq,if_true,if_false]
   by_cases h3:a.nextID=old
   ·rw[zabn zo];subst h3;clear h2;simp only[zx] at *;exact zW zy8
   ·rw[zabo zo];clear h2;simp only[zx] at *;exact zW zy8
  ·rw[zabo (.inr ⟨rfl,h2⟩)];have e:(decide (1<=next)&&decide (next<=1073741824))=false:=by
    rw[<- zadD];exact zabP h2
   rw[e] at h9;clear h2 e;simp only[zx,zM,zabq,ze6,zT,zC] at *;exact zW zy8
theorem zaiN{a:zy}(h:FitA a)(w o n:Int):FitA (casWord a w o n).1:=by
 unfold casWord
 repeat' split
 all_goals first|exact zafD|exact h|exact { h with }
theorem zaiP{a:zy}(h:FitA a)(b:Int):FitA (zeA a b).1:=by
 unfold zeA
 repeat' split
 all_goals first|exact zafD|exact { h with }
theorem zaiO{a:zy}(h:FitA a)(v:Int){d:Directory}(h1:d.l.length<=100000)(h2:d.forward.length<=6):FitA (casDir a v d).1:=by
 unfold casDir
 repeat' split
 all_goals first|exact zafD|exact h|exact { h with dl:=by simp only;omega,df:=by simp only;omega }
structure WS where
 i:Nat
 x:Nat
 w:Int
 o:Int
 n:Int
 b:Int
def swS(l:List Int)(a:zy)(p:WS):St:=⟨[(1,.d (.int .i64 p.w)),(2,.d (.int .i64 p.o)),(3,.d (.int .i64 p.n)),(4,.d (.int .i64 p.b)),(11,.ref 37 0 0),(12,.ref 12 0 0),(21,.d (.int .i64 p.i))],[(12,.row [.d (zx a)]),(37,zB l p.x)]⟩
theorem zaj7(l:List Int)(a:zy)(hL:l.length<=4000)(hf:FitA a)(hck:0<=a.clock/\a.clock<=1073741824)(hep:0<=a.epoch/\a.epoch<=65536)(hni:1<=a.nextID/\a.nextID<=1073741824):∀p:WS,p.i<=6->z6 G [] zafq (swS l a p)=some (.exit 0,⟨[],[]⟩):=by
 refine zaL (fun p:WS=>6 - p.i) _ _ _ fun⟨i,x,w,o,n,b⟩ h1 L ih=> ?_;simp only at h1
 by_cases h0:i<6
 rotate_left
 ·clear ih hf;simp only[swS,zafq];have sz_a:=zby a;generalize zx a=D_a at *;exact zS
 obtain⟨x2,q2⟩:∃x2,(za0 l x).2=x2:=⟨_,rfl⟩;obtain⟨x3,q3⟩:∃x3,(za0 l x2).2=x3:=⟨_,rfl⟩;obtain⟨x4,q4⟩:∃x4,(za0 l x3).2=x4:=⟨_,rfl⟩;obtain⟨x5,q5⟩:∃x5,(za0 l x4).2=x5:=⟨_,rfl⟩;have r1:=zng l x 0 4 hL zo zo zo zo;have r2:=z4Y l x2 [a.epoch,a.nextID,a.epoch,0] hL (by simp) (by simp);have r3:=z4Y l x3 [a.epoch+1,a.nextID+1,0, -1,65536,65537,1073741824,1073741825] hL (by simp) (by simp);have r4:=z4Y l x4 [0,1,100, -1,1073741824,1073741824 - a.clock,1073741824 - a.clock+1,1099511627776,1099511627777] hL (by simp) (by simp);rw[q2] at r1;rw[q3] at r2;rw[q4] at r3;rw[q5] at r4;simp only[zC,zabs,zabq] at r2 r3 r4;generalize 0+nD l x (4 - 0+1)=w1 at *;generalize ([a.epoch,a.nextID,a.epoch,0].getD _ 0)=o1 at r2;generalize ([a.epoch+1,a.nextID+1,0, -1,65536,65537,1073741824,1073741825].getD _ 0)=n1 at r3;generalize ([0,1,100, -1,1073741824,1073741824 - a.clock,1073741824 - a.clock+1,1099511627776,1099511627777].getD _ 0)=b1 at r4;obtain⟨y,ww,oo,nn,bb,hc⟩:∃(y:Nat) (ww oo nn bb:Int),(i=0/\y=x/\ww=w/\oo=o/\nn=n/\bb=b)\/(0<i/\y=x5/\ww=w1/\oo=o1/\nn=n1/\bb=b1):=by
  by_cases q:i=0
  ·exact⟨_,_,_,_,_,.inl ⟨q,rfl,rfl,rfl,rfl,rfl⟩⟩
  ·exact⟨_,_,_,_,_,.inr ⟨by omega,rfl,rfl,rfl,rfl,rfl⟩⟩
 have i1:=ih ⟨i+1,y,ww,oo,nn,bb⟩ (by simp only;omega) (by simp only;omega);have l1:=zajS a ww;have l2:=zku a ww;have c1:=zajQ a ww oo nn;have c2:=zGD a ww oo nn;have t1:=zajT a bb hck;have t2:=zaah a bb hck;have s1:=zagr (casWord a ww oo nn).1 (casWord a ww oo nn).1 (zaiN hf ww oo nn);have s2:=zagr (zeA a bb).1 (zeA a bb).1 (zaiP hf bb);rw[zabM rfl] at s1 s2;clear ih hf q2 q3 q4 q5 h1;generalize zgn a ww=lw at *;obtain⟨lw1,lw2⟩:=lw;generalize casWord a ww oo nn=cw at *;obtain⟨cw1,cw2,cw3⟩:=cw;generalize zeA a bb=tw at *;obtain⟨tw1,tw2⟩:=tw;simp only[swS,zafq] at *;have sz_cw1:=zby cw1;generalize zx cw1=D_cw1 at *;have sz_tw1:=zby tw1;generalize zx tw1=D_tw1 at *;simp only[zx] at *;simp only[zNr,zB] at i1
 rcases hc with ⟨q,rfl,rfl,rfl,rfl,rfl⟩|⟨q,rfl,rfl,rfl,rfl,rfl⟩
 ·replace q:=zabt (show ¬(0:Int)<(i:Int) by omega);exact zS
 ·exact zS
structure PI(u:Setup)(N:Int)(a:zy)(ts:List zq):Prop where
 hu:za3 u=true
 ar:AI u a
 ti:∀t∈ts,TI u N t
 tk:∀t∈ts,∀b∈t.inv.tokens,b.length<=16
 tl:ts.length<=200
 nn:0<=N/\N<=200000
theorem PI.step{u:Setup}{N:Int}{a:zy}{ts:List zq}(h:PI u N a ts)(hN:N<=199999){a':zy}(ha:AI u a'):PI u (N+1) a' ts:=
 { hu:=h.hu,ar:=ha,ti:=fun t ht=>(h.ti t ht).mono zo,tk:=h.tk,tl:=h.tl,nn:=by have:=h.nn;omega }
theorem PI.task{u:Setup}{N:Int}{a:zy}{ts:List zq}(h:PI u N a ts)(hN:N<=199999){i:Nat}(hi:i<ts.length)(e:(zbZ zaB a ts[i] (N+1)).2.2.2=0):PI u (N+1) (zbZ zaB a ts[i] (N+1)).1 (ts.set i (zbZ zaB a ts[i] (N+1)).2.1):=by
 have hn:=h.nn;have hk:=zaab zlh.ok h.hu h.ar (h.ti _ (zabC hi)) (n:=N+1) zo e;have hr:=zQZ ztM a ts[i] (N+1) e;refine { hu:=h.hu,ar:=hk.1,ti:=fun t ht=> ?_,tk:=fun t ht=> ?_,tl:=by rw[zacb];exact h.tl,nn:=by omega }
 ·rcases zmR ht with ht|ht
  ·rw[ht];exact hk.2
  ·exact (h.ti t ht).mono zo
 ·rcases zmR ht with ht|ht
  ·rw[ht,hr.1];exact h.tk _ (zabC hi)
  ·exact h.tk t ht
theorem zais{d:za7}(h:zcm d=0):d.l.length<=24:=by
 unfold zcm at h
 split at h
 ·cases h
 ·rename_i c;omega
theorem zaiM{u:Setup}{a:zy}(hu:za3 u=true)(h:AI u a):FitA a:=by
 have hs:=zny hu;have h1:=h.sl;have h2:=h.st;have h3:=zjZ h.dv;have h4:=zais h.dd;exact { sl:=by omega,sh:=fun i hi=>zWc (zbT (h.sh _ (zabC hi)).1),st:=by omega,de:=by omega,dl:=by have:=zfN h.dv;omega,df:=by omega }
theorem zaj8(l:List Int)(w o n b:Int)(hL:l.length<=LIM):zi G zae4 [.d (.sl (zC l)),.d (.int .i64 w),.d (.int .i64 o),.d (.int .i64 n),.d (.int .i64 b)] []=some (.d (.bool true),[]):=by
 have hnew:=zZ2 l hL;have hl4:(l.take 4000).length<=4000:=by simp;omega
 obtain⟨wd,u,a',_,hq,hw⟩:=zaaX (l.take 4000) 0 20 hl4 zo;have hai:=hq.wi.ar;have hfit:=zaiM hq.wi.hu hai;have hus:=zny hq.wi.hu;have haw:=zail;clear hq hL;generalize l.take 4000=l4 at *;have hwd:zi G zae6 [.ref 1000000 0 0] [(1000000,zB l4 0)]=some (.d (zx wd.arena),[(1000000,zB l4 a')]):=by
  clear haw hnew hai hfit hus;obtain⟨s,wa,tasks,log,steps,handles⟩:=wd;simp only[zF,zx,zB,zadf] at *;exact zW zai1
 clear hw;obtain⟨s,a,tasks,log,steps,handles⟩:=wd;simp only at hai hfit hwd;have hd6:a.dir.l.length<=100000/\a.dir.forward.length<=6:=by
  have h1:=zjZ hai.dv;have h0:=zfN hai.dv;have h2:=hai.df;have h3:=hai.sl;omega
 have h1:=zgr l4 a' 2 hl4 zo zo;obtain⟨x1,q1⟩:∃x1,(za0 l4 a').2=x1:=⟨_,rfl⟩;rw[q1] at h1;obtain⟨d0,y0,g1,g2,hdir⟩:=zaiu l4 x1 hl4;obtain⟨d,x2,hd,hdc⟩:∃(d:Directory) (x2:Nat),(d.l.length<=100000/\d.forward.length<=6)/\(nD l4 a' 2=0/\d=d0/\x2=y0\/¬nD l4 a' 2=0/\d=a.dir/\x2=x1):=by
  by_cases q:nD l4 a' 2=0
  ·exact⟨d0,y0,⟨by omega,g2⟩,.inl ⟨q,rfl,rfl⟩⟩
  ·exact⟨a.dir,x1,hd6,.inr ⟨q,rfl,rfl⟩⟩
 have h2:=z4Y l4 x2 [a.dir.version,a.dir.version,1,0] hl4 (by simp) (by simp);simp only[zC,zabs,zabq] at h2;generalize ([a.dir.version,a.dir.version,1,0].getD _ 0)=v at h2;obtain⟨x3,q3⟩:∃x3,(za0 l4 x2).2=x3:=⟨_,rfl⟩;rw[q3] at h2;have hlp:=zaj7 l4 a hl4 hfit hai.ck hai.ep hai.ni ⟨0,x3,w,o,n,b⟩ (by simp);have c1:=zajP a v d zo zo hfit.sl;have c2:=zSL a v d zo;have s1:=zagr (casDir a v d).1 (casDir a v d).1 (zaiO hfit v hd.1 hd.2);have s2:=zaif a.dir a.dir zo zo;have s3:=zajR a;rw[zabM rfl] at s1 s2;generalize casDir a v d=r at *;obtain⟨r1,r2,r3⟩:=r;clear hai hfit hus hd6 q1 q3 g1 g2 hd hl4;simp only[swS,zB,zabQ] at *;have sz_r1:=zby r1;generalize zx r1=D_r1 at *
 rcases hdc with ⟨q,rfl,rfl⟩|⟨q,rfl,rfl⟩
 ·replace q:=zabA q;simp only[zx,zaT] at *;exact zW zahl
 ·replace q:=zabt q;simp only[zx,zaT] at *;exact zW zahl
end Go.Proofs.YtnmcgdpmikhohaaGreat
