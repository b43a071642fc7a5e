/-
  Every step of a task keeps the arena and the task.
-/
import Derived.Test.YtcembpbhkcbnhaaGreatB3e4d643
import Derived.Test.YtcembpbhkcbnhaaGreatB061838e
import Derived.Test.YtcembpbhkcbnhaaGreatB15a29b9
import Derived.Test.YtcembpbhkcbnhaaGreatB54fbfdf
set_option linter.unusedSimpArgs false
set_option linter.unusedVariables false
set_option maxHeartbeats 10000000
set_option maxRecDepth 100000
namespace Go.Proofs.YtcembpbhkcbnhaaGreat
open Go Go.Sim
theorem zW {G:FuncId->Option AFn} {f:FuncId} {c:zg} {rs:List zl} {nt:Nat} {sl:Bool} (h:G f=some (.code c rs nt sl):=by exact rfl) {args:List AV} {os:zd} {R:Option (AV×zd)} (hl:args.length<=nt:=by simp)
    (e:(exL G c ⟨enter args++zf1 os,os⟩).bind (zgh sl rs os)=R:=by simp -implicitDefEqProofs (maxSteps:=4000000) (disch:=omega) only[zh,go_sem, *];(try simp only[pA,Go.Sim.pB,pC,pD,pE,pF,Go.Sim.pG,pH,Go.Sim.pI,pJ,pK,pL,pM,pN,pO,pP,if_true,if_false]);repeat' (first|done|rfl|(refine zad (fun hq=> ?_) (fun hq=> ?_)<;>(try (first|(exfalso;omega)|contradiction))<;>(try simp -implicitDefEqProofs (maxSteps:=4000000) (disch:=omega) only[zh,go_sem, *])<;>(try simp only[pA,Go.Sim.pB,pC,pD,pE,pF,Go.Sim.pG,pH,Go.Sim.pI,pJ,pK,pL,pM,pN,pO,pP,if_true,if_false])));(all_goals try rfl);(all_goals try (repeat' (first|done|rfl|(exfalso;omega)|contradiction|(refine zae (fun hq=> ?_) (fun hq=> ?_)))))):zi G f args os=R:=(zI h hl).trans e
theorem zS{p:Prop}(e:p:=by (try simp -implicitDefEqProofs (maxSteps:=4000000) (disch:=omega) only[zh,go_sem, *]);(try simp only[pA,Go.Sim.pB,pC,pD,pE,pF,Go.Sim.pG,pH,Go.Sim.pI,pJ,pK,pL,pM,pN,pO,pP,if_true,if_false]);repeat' (first|done|rfl|(refine zad (fun hq=> ?_) (fun hq=> ?_)<;>(try (first|(exfalso;omega)|contradiction))<;>(try simp -implicitDefEqProofs (maxSteps:=4000000) (disch:=omega) only[zh,go_sem, *])<;>(try simp only[pA,Go.Sim.pB,pC,pD,pE,pF,Go.Sim.pG,pH,Go.Sim.pI,pJ,pK,pL,pM,pN,pO,pP,if_true,if_false])));(all_goals try rfl);(all_goals try (repeat' (first|done|rfl|(exfalso;omega)|contradiction|(refine zae (fun hq=> ?_) (fun hq=> ?_)))))):p:=e
theorem z9I(a:zy)(s:Section)(k n:Int)(h:zqB a s):zi G 220 [.d (zx a),.d (zA s),.d (.int .i64 k),.d (.int .i64 n)] []=some (.d (.tup [zx (zfs a s k n).1,zA (zfs a s k n).2.1,.int .i64 (zfs a s k n).2.2]),[]):=by
 unfold zfs
 by_cases c0:s.phase=0
 ·rw[zabo c0];have hl:=zLX a s.lock k h.sl h.lw;have hke:=zBa (k:=k) (a:=a) h.lw;have hcl:=h.lw.c2;unfold zhg;generalize zaZ a s.lock k=r at *;obtain⟨a2,l,e⟩:=r;replace c0:=zabA c0;simp only at *
  by_cases c:e=0/\l.phase=3
  ·rw[zabo c];obtain⟨rfl,c3⟩:=c;have hce:=(hke rfl).2.1;have hs:=zQD a (z5 { s with lock:=l } 1) (by show l.cells.length<=1000;rw[hce];omega);have hs2:zdp a (z5 { s with lock:=l } 1)=zdp a s:=by unfold zdp z5;simp only[hce]
   rw[hs2] at hs;have e1:=ze7 { s with lock:=l } 1;have e2:=ze7 (z5 { s with lock:=l } 1) 2;clear hke hs2 hce;replace c3:=zabA c3;generalize zdp a s=sn at *;unfold z5 at *;simp only[zA,zb2] at *
   by_cases c4:sn=0
   ·rw[zabo c4];exact zW
   ·rw[zabn c4];exact zW
  ·rw[zabn c];clear hke;simp only[zA,zb2] at *;exact zW
 rw[zabn c0]
 by_cases c1:s.phase=1
 ·rw[zabo c1];obtain⟨q1,q2,q3⟩:=h.p1 c1;have hm:=zZx a s k h.sl h.st q1 q2 h.lw.c2 q3;generalize zfr a s k=r at *;obtain⟨a2,s2,e⟩:=r;have sz_s2:=zdD s2;generalize zA s2=D_s2 at *;clear h c0 q1 q2 q3;obtain⟨ph,at_,lk,sn,sh,dd,st,di,ou,lm,ca⟩:=s;simp only at c1;subst c1;simp only[zA] at *;exact zW
 rw[zabn c1]
 by_cases c2:s.phase=2
 ·rw[zabo c2];obtain⟨q1,q2,q3⟩:=h.p2 c2;have hm:=zZa a s h.sl q1 q2 h.lw.c2 q3;generalize zfq a s=r at *;obtain⟨a2,s2,e⟩:=r;have sz_s2:=zdD s2;generalize zA s2=D_s2 at *;clear h c0 q1 q2 q3;obtain⟨ph,at_,lk,sn,sh,dd,st,di,ou,lm,ca⟩:=s;simp only at c2;subst c2;simp only[zA] at *;exact zW
 rw[zabn c2]
 by_cases c3:s.phase=3
 ·rw[zabo c3];have hm:=z9q a s.snap n;unfold zih;generalize zc7 a s.snap n=r at *;obtain⟨x,e⟩:=r;have e1:=ze7 { s with snap:=x } 4;unfold z5 at *;clear h c0 c1 c2;obtain⟨ph,at_,lk,sn,sh,dd,st,di,ou,lm,ca⟩:=s;simp only at *;subst c3
  by_cases c:e=0/\x.phase=3
  ·rw[zabo c];obtain⟨rfl,c5⟩:=c;replace c5:=zabA c5;simp only[zA,zeM] at *;exact zW
  ·rw[zabn c];simp only[zA,zeM] at *;exact zW
 rw[zabn c3]
 by_cases c5:s.phase=5
 ·rw[zabo c5];obtain⟨q1,q2,q3⟩:=h.p5 c5;have hm:=z9S a s k h.sl q1 q2 h.od.1 h.od.2 q3 h.f1 h.dd;generalize zft a s k=r at *;obtain⟨a2,s2,e⟩:=r;have sz_s2:=zdD s2;generalize zA s2=D_s2 at *;clear h c0 c1 c2 c3 q1 q2 q3;obtain⟨ph,at_,lk,sn,sh,dd,st,di,ou,lm,ca⟩:=s;simp only at c5;subst c5;simp only[zA] at *;exact zW
 rw[zabn c5]
 by_cases c6:s.phase=6
 ·rw[zabo c6];obtain⟨q1,q2⟩:=h.p6 c6;have hm:=zUX a s h.di q1 q2;generalize zfp a s=r at *;obtain⟨a2,s2,e⟩:=r;have sz_s2:=zdD s2;generalize zA s2=D_s2 at *;clear h c0 c1 c2 c3 c5 q1 q2;obtain⟨ph,at_,lk,sn,sh,dd,st,di,ou,lm,ca⟩:=s;simp only at c6;subst c6;simp only[zA] at *;exact zW
 rw[zabn c6]
 by_cases c7:s.phase=7
 ·rw[zabo c7];obtain⟨q1,q2,q3,q4,q5,q6⟩:=h.p7 c7;have hm:=zaaM a s k h.sl h.st q1 q2 q3 q4 q5 q6 h.od.2 h.f1 h.f2;generalize zfu a s k=r at *;obtain⟨a2,s2,e⟩:=r;have sz_s2:=zdD s2;generalize zA s2=D_s2 at *;clear h c0 c1 c2 c3 c5 c6 q1 q2 q3 q4 q5 q6;obtain⟨ph,at_,lk,sn,sh,dd,st,di,ou,lm,ca⟩:=s;simp only at c7;subst c7;simp only[zA] at *;exact zW
 rw[zabn c7]
 by_cases c8:s.phase=8
 ·rw[zabo c8];have hl:=zLX a s.lock k h.sl h.lw;unfold zhf;generalize zaZ a s.lock k=r at *;obtain⟨a2,l,e⟩:=r;have e1:=ze7 { s with lock:=l } 9;unfold z5 at *;clear h c0 c1 c2 c3 c5 c6 c7;obtain⟨ph,at_,lk,sn,sh,dd,st,di,ou,lm,ca⟩:=s;simp only at *;subst c8
  by_cases c:e=0/\l.phase=5
  ·rw[zabo c];obtain⟨rfl,c5⟩:=c;replace c5:=zabA c5;simp only[zA,zb2] at *;exact zW
  ·rw[zabn c];simp only[zA,zb2] at *;exact zW
 ·rw[zabn c8];clear h;simp only[zA] at *;exact zW
theorem z9J(a:zy)(s:Section)(k n:Int)(h:zqB a s):zi G 172 [.d (zx a),.d (zA s),.d (.int .i64 k),.d (.int .i64 n)] []=some (.d (.tup [zx (zct a s k n).1,zA (zct a s k n).2.1,.int .i64 (zct a s k n).2.2]),[]):=by
 have hs:=z9I a s k n h;unfold zct;generalize zfs a s k n=r at *;obtain⟨a2,s2,e⟩:=r;clear h;simp only at *;have sz_s:=zdD s;generalize zA s=D_s at *
 by_cases c:e=0
 ·subst c;simp only[ne_eq,zabD,if_false];have sz_s2:=zdD s2;generalize zA s2=D_s2 at *;exact zW
 ·rw[zabo c];have sz_s2:=zdD s2;generalize zA s2=D_s2 at *;have sz_a:=zby a;generalize zx a=D_a at *;have sz_a2:=zby a2;generalize zx a2=D_a2 at *;have zk0:=zx.eq_1;have zk1:=zA.eq_1;have zk2:=zM.eq_1;have zk3:=zbe.eq_1;exact zW
theorem zmr(a:zy)(t:Task)(n:Int)(h:zqB a t.sec):zi G 142 [.d (zx a),.d (zf t),.d (.int .i64 n)] []=some (.d (.tup [zx (goT a t n).1,zf (goT a t n).2.1,.bool (goT a t n).2.2.1,.bool (goT a t n).2.2.2.1,.int .i64 (goT a t n).2.2.2.2]),[]):=by
 have hs:=z9J a t.sec t.number n h;unfold goT;generalize zct a t.sec t.number n=r at *;obtain⟨a2,s2,e⟩:=r;clear h
 by_cases c:e=0
 ·subst c;simp only[ne_eq,zabD,if_false];simp only[zf,zA] at *;exact zW
 ·rw[zabo c];have sz_a:=zby a;generalize zx a=D_a at *;have sz_a2:=zby a2;generalize zx a2=D_a2 at *;simp only[zf,zA] at *;have zk0:=zx.eq_1;have zk1:=zM.eq_1;have zk2:=zE.eq_1;exact zW
def zsA:AV:= .agg [.d (.int .i64 0),.d (.int .i64 0),.xsl [],.d (.int .i64 0),.d (.int .i64 0),.d (.int .i64 0),.d (.int .i64 0),.d (.int .i64 0),.d (.int .i64 0),.d (.int .i64 0),.d (.int .i64 0),.xsl [],.d (.int .i64 0),.xsl [],.xsl [],.d (.int .i64 0),.xsl [],.xsl [],.xsl [],.d (.int .i64 0),.xsl [],.xsl [],.xsl [],.xsl [],.d (.int .i64 0),.xsl []]
def zm3(n:Int)(l:List Int)(i:Nat):Bool:=decide (0<=l.getD i 0/\l.getD i 0<n)&&(List.range i).all fun k=> !decide (l.getD k 0=l.getD i 0)
theorem z4G(n:Int)(l:List Int):zkO n l=(List.range l.length).all (zm3 n l):=by
 unfold zkO;apply zacD.2;simp only[decide_eq_true_eq,zabO,zack,zm3,zabH,zace,decide_eq_false_iff_not];constructor
 ·rintro⟨h1,h2⟩ i hi;refine⟨by rw[zh hi];exact h1 _ (zabC hi),fun k hk=> ?_⟩;rw[zh hi,zh (show k<l.length by omega)];intro e;have:=(zadW.1 h2);rw[zacu] at this;exact this k i zo hi hk e
 ·intro h;refine⟨fun o ho=> ?_,?_⟩
  ·obtain⟨i,hi,rfl⟩:=zadu.1 ho;have:=(h i hi).1
   rwa [zh hi] at this
  ·rw[zadW,zacu];intro k i hk hi hki e;have:=(h i hi).2 k hki;rw[zh hi,zh hk] at this;exact this e
def dcH(s:Section)(o:zb1):zd:=[(2,.row [.d (zA s)]),(3,.row [.d (zU o)]),(4,.row [zsA])]
def dcR:zX×St:=(.ret,⟨[(4,.ref 4 0 0),(5,.d (.int .i64 1))],[(4,.row [zsA])]⟩)
theorem zTI(s:Section)(o:zb1)(i:Nat)(hi:i<o.order.length)(hl:o.order.length<=3):z6 G [] zsI ⟨[(2,.ref 2 0 0),(3,.ref 3 0 0),(4,.ref 4 0 0),(6,.d (.int .i64 i)),(7,.d (.int .i64 (0:Nat)))],dcH s o⟩=some (if (List.range i).all (fun k=> !decide (o.order.getD k 0=o.order.getD i 0))=true then (.exit 2,⟨[(2,.ref 2 0 0),(3,.ref 3 0 0),(4,.ref 4 0 0),(6,.d (.int .i64 i))],dcH s o⟩) else dcR):=by
 refine zg5 (G:=G) i (fun k=> !decide (o.order.getD k 0=o.order.getD i 0)) (fun k=>⟨[(2,.ref 2 0 0),(3,.ref 3 0 0),(4,.ref 4 0 0),(6,.d (.int .i64 i)),(7,.d (.int .i64 k))],dcH s o⟩) _ _ fun k hk L=> ?_;simp only[zsI,dcH,dcR,zsA,zA,zU,zbe];rw[zh hi]
 by_cases h0:k<i
 ·rw[zabo h0,zh (show k<o.order.length by omega)]
  by_cases c:o.order[k]=o.order[i]
  ·rw[zabM c];replace c:=zabA c;exact zS
  ·rw[zabP c];replace c:=zabt c;exact zS
 ·rw[zabn h0];exact zS
theorem zTJ(s:Section)(o:zb1)(hl:o.order.length<=3)(hc:s.lock.cells.length<=3):z6 G [] zsJ ⟨[(2,.ref 2 0 0),(3,.ref 3 0 0),(4,.ref 4 0 0),(6,.d (.int .i64 (0:Nat)))],dcH s o⟩=some (if (List.range o.order.length).all (zm3 s.lock.cells.length o.order)=true then (.exit 0,⟨[(2,.ref 2 0 0),(3,.ref 3 0 0),(4,.ref 4 0 0)],dcH s o⟩) else dcR):=by
 refine zg5 (G:=G) o.order.length (zm3 s.lock.cells.length o.order) (fun k=>⟨[(2,.ref 2 0 0),(3,.ref 3 0 0),(4,.ref 4 0 0),(6,.d (.int .i64 k))],dcH s o⟩) _ _ fun k hk L=> ?_
 by_cases h0:k<o.order.length
 ·have hi:=zTI s o k h0 hl;unfold zm3;rw[zabo h0];generalize (List.range k).all (fun j=> !decide (o.order.getD j 0=o.order.getD k 0))=b at *;rw[zh h0];simp only[zsJ,dcH,dcR,zsA,zA,zU] at *;simp only[zNr,srcO] at hi
  by_cases c:0<=o.order[k]/\o.order[k]<(s.lock.cells.length:Int)
  ·rw[zabM c]
   cases b
   ·simp only[zacJ,zabz,if_false] at *;exact zS
   ·simp only[zacG,if_true] at *;exact zS
  ·rw[zabP c];clear hi;simp only[zacd,zabz,if_false];exact zS
 ·rw[zabn h0];simp only[zsJ,dcH,dcR,zsA,zA,zU];exact zS
theorem zTN(s:Section)(o:zb1)(hl:o.order.length<=3)(hc:s.lock.cells.length<=3):zi G 200 [.d (zA s),.d (zU o)] []=some (.d (.tup [zA (zeK s o).1,.int .i64 (zeK s o).2]),[]):=by
 have hlp:=zTJ s o hl hc;rw[<- z4G] at hlp;unfold zeK
 by_cases c0:s.phase≠4
 ·rw[zabo c0];clear hlp;have c0:(s.phase=4)=False:=zabt c0;simp only[zA,zU,zbe] at *;exact zW
 rw[zabn c0];replace c0:(s.phase=4)=True:=zabA (zabG.1 c0)
 by_cases c1:o.shards.length≠s.shards.length\/1<o.edits.length
 ·rw[zabo c1];clear hlp;simp only[zA,zU,zbe] at *
  by_cases c2:o.shards.length=s.shards.length
  ·have c3:1<o.edits.length:=by omega
   clear c1;replace c2:((o.shards.length:Int)=s.shards.length)=True:=zabA zo;exact zW
  ·clear c1;exact zW
 rw[zabn c1];have c2:((o.shards.length:Int)=s.shards.length)=True:=zabA zo;have c3:¬1<o.edits.length:=by omega
 clear c1
 cases c4:zkO s.lock.cells.length o.order
 ·simp only[c4,if_true,zabz,if_false] at hlp ⊢;clear c4;simp only[dcH,dcR,zsA,zA,zU,zbe] at *;simp only[zNr,srcO] at hlp;exact zW
 ·simp only[c4,if_true,zacf,if_false] at hlp ⊢;clear c4
  by_cases c5:0<o.order.length
  ·rw[zabo c5];have he:=ze7 { s with out:=o } 5;unfold z5 at *;simp only[dcH,dcR,zsA,zA,zU,zbe] at *;simp only[zNr,srcO] at hlp;exact zW
  rw[zabn c5]
  by_cases c6:0<o.edits.length
  ·rw[zabo c6];have he:=ze7 { s with out:=o } 6;unfold z5 at *;simp only[dcH,dcR,zsA,zA,zU,zbe] at *;simp only[zNr,srcO] at hlp;exact zW
  ·rw[zabn c6];have hu:=ztT zM { s with out:=o };generalize zcn zM { s with out:=o }=u at *;obtain⟨u1,u2,u3⟩:=u;simp only at *;have sz_u2:=zdD u2;generalize zA u2=D_u2 at *;have sz_u1:=zby u1;generalize zx u1=D_u1 at *;simp only[dcH,dcR,zsA,zA,zU,zx,zM,zaH,zabq] at *;simp only[zNr,srcO] at hlp;exact zW
theorem zRj(r:Int):zi G 139 [.d (.int .i64 r)] []=some (.d (.tup [zbW (zgB r).1,.int .i64 (zgB r).2]),[]):=by
 unfold zgB;have zk0:=zbW.eq_1;have zk1:=zdc.eq_1;exact zW
theorem zRi(w:Walk)(lo hi:Int):zi G 176 [.d (zbW w),.d (.int .i64 lo),.d (.int .i64 hi)] []=some (.d (.tup [zbW (zfz w lo hi).1,.int .i64 (zfz w lo hi).2]),[]):=by
 unfold zfz;simp only[zbW];have zk0:=zbW.eq_1;have zk1:=zdc.eq_1;exact zW
theorem zRk(w:Walk):zi G 177 [.d (zbW w)] []=some (.d (.bool (zgC w)),[]):=by
 unfold zgC;simp only[zbW];exact zW
theorem zmz(n lo hi:Int):zi G 110 [.d (.int .i64 n),.d (.int .i64 lo),.d (.int .i64 hi)] []=some (.d (.bool (inI n lo hi)),[]):=by
 unfold inI;rw[zI zXj (by simp)];simp -implicitDefEqProofs (maxSteps:=4000000) (disch:=omega) only[zuW,zh,go_sem, *];(try simp only[zPr]);repeat' (first|done|rfl|((first|refine zad (fun hq=> ?_) (fun hq=> ?_)|refine zaj (fun hq=> ?_) (fun hq=> ?_))<;>(try (first|(exfalso;omega)|contradiction))<;>(try simp -implicitDefEqProofs (maxSteps:=4000000) (disch:=omega) only[zh,go_sem, *])<;>(try simp only[zPr])));(all_goals try rfl);(all_goals try (repeat' (first|done|rfl|(exfalso;omega)|contradiction|(refine zae (fun hq=> ?_) (fun hq=> ?_)))))
 simp only[zadD]
theorem zU0(i:zaeE):zi G 85 [.d (zbg i)] []=some (.d (.int .i64 (zcX i)),[]):=by
 unfold zcX;obtain⟨kd,hm,mx,vs,fr,tt,bs,ts⟩:=i;simp only[zbg]
 by_cases k1:kd=1
 ·subst k1;exact zW
 rw[zabn k1]
 by_cases k2:3<=kd/\kd<=5
 ·rw[zabo k2];have k3:kd=3\/kd=4\/kd=5:=by omega
  rcases k3 with rfl|rfl|rfl
  ·exact zW
  ·exact zW
  ·exact zW
 ·rw[zabn k2];exact zW
theorem zeU(t:Task)(r:Result)(n:Int)(he:0<=t.entry/\t.entry<=1000)(hl:t.results.length<=1000):zi G 137 [.d (zf t),.d (z7 r),.d (.int .i64 n)] []=some (.d (zf (zba t r n)),[]):=by
 have hn:=zU0 t.inv;unfold zba;generalize zcX t.inv=en at *;simp only[zf,z7,zbg] at *
 by_cases c:t.entry+1=en
 ·rw[zabo c,zabo c];replace c:=zabA c;have zk0:=zE.eq_1;exact zW
 ·rw[zabn c,zabn c];have zk0:=zE.eq_1;exact zW
theorem zeP(t:Task)(lo hi:Int):zi G 134 [.d (zf t),.d (.int .i64 lo),.d (.int .i64 hi)] []=some (.d (.int .i64 (zan t lo hi)),[]):=by
 unfold zan;generalize ht:zf t=et at *;simp only[zf] at ht;subst ht
 cases c:t.done
 ·exact zW
 ·exact zW
theorem zcY(e:Int):zi G 111 [.d (.int .i64 e)] []=some (.d (.tup [zx zM,zf zE,.sl [],.int .i64 e]),[]):=by
 have zk0:=zx.eq_1;have zk1:=zf.eq_1;have zk2:=zM.eq_1;have zk3:=zE.eq_1;exact zW
theorem znw(t:Task)(cells:List Int)(pc:Int)(hL:cells.length<=1000):zi G 147 [.d (zf t),.d (.sl (zC cells)),.d (.int .i64 pc)] []=some (.d (zf (zb8 t cells pc)),[]):=by
 have h:=z8I cells t.setup.limit hL;unfold zb8;generalize zdl cells t.setup.limit=r at *;obtain⟨s,e⟩:=r;simp only[zf,zA] at *;exact zW
theorem z4L(a b:Int):zi G 160 [.d (.int .i64 a),.d (.int .i64 b)] []=some (.d (.sl (zC (zeo a b))),[]):=by
 unfold zeo
 by_cases c:a<b
 ·rw[zabo c];have zk0:=zC.eq_1;exact zW
 ·rw[zabn c]
  by_cases c2:b<a
  ·have zk0:=zC.eq_1;exact zW
  ·have c3:a=b:=by omega
   subst c3;have zk0:=zC.eq_1;exact zW
theorem zrn(t:Task)(kind n:Int):zi G 136 [.d (zf t),.d (.int .i64 kind),.d (.int .i64 n)] []=some (.d (zaw (evT t kind n)),[]):=by
 simp only[zf,evT];have zk0:=zaw.eq_1;have zk1:=zbw.eq_1;exact zW
def zev(t:Task)(kind:Int):AV:= .agg [.d (.int .i64 t.sec.snap.stamp),.d (.int .i64 t.number),.d (.int .i64 t.entry),.d (.int .i64 kind),.d (.int .i64 t.sec.snap.clock),.d (.int .i64 t.sec.snap.epoch),.d (.int .i64 0),.xsl [],.d (.int .i64 0),.d (.int .i64 0)]
theorem zla(t:Task)(kind:Int):zi G 174 [.d (zf t),.d (.int .i64 kind)] []=some (zev t kind,[]):=by
 simp only[zf,zev];exact zW
theorem zTM(t:Task)(o:zb1)(hd:zi G 200 [.d (zA t.sec),.d (zU o)] []=some (.d (.tup [zA (zeK t.sec o).1,.int .i64 (zeK t.sec o).2]),[])):zi G 162 [.d (zf t),.d (zU o)] []=some (.d (zf (za5 t o)),[]):=by
 unfold za5;generalize zeK t.sec o=r at *;obtain⟨s,e⟩:=r;simp only[zf,zA,zU] at *;exact zW
theorem zBb(a:zy)(t:Task)(r pc:Int)(hL:a.dir.l.length<=4294967296):zi G 141 [.d (zx a),.d (zf t),.d (.int .i64 r),.d (.int .i64 pc)] []=some (.d (zf (zg4 a t r pc)),[]):=by
 have h1:=zsL a;have h2:=zNq a.dir r hL;have h3:=znw { t with dir:=a.dir,slot:=zem a.dir r } [zem a.dir r] pc (by simp);unfold zg4;generalize zb8 { t with dir:=a.dir,slot:=zem a.dir r } [zem a.dir r] pc=t2 at *;generalize zem a.dir r=o at *;have sz_t2:=zQ t2;generalize zf t2=D_t2 at *;simp only[zf,zaT,zC,zabs,zabq] at *;exact zW
structure AI(u:Setup)(a:zy):Prop where
 sl:(a.slots.length:Int)=u.slots
 st:a.stripes.length=a.slots.length
 sh:∀x∈a.slots,zY x.shard=0/\(x.shard.ready.cells.length:Int)=u.capacity
 sp:∀x∈a.stripes,znH x=true
 dv:zbl a.dir=0
 df:a.dir.forward.length=a.slots.length
 dd:zcm a.dead.dead=0
 dc:a.dead.dead.cap=u.dead
 ep:0<=a.epoch/\a.epoch<=65536
 ck:0<=a.clock/\a.clock<=1073741824
 ni:1<=a.nextID/\a.nextID<=1073741824
theorem zmR{α:Type}{l:List α}{i:Nat}{x y:α}(h:y∈l.set i x):y=x\/y∈l:=by
 rcases zac1 h with h|h
 ·exact .inr h
 ·exact .inl h
theorem zCQ{a:zy}{c:Int}(h0:0<=c)(h1:c<a.slots.length):a.slots.getD c.toNat zfC∈a.slots:=by
 rw[zab0,zabx zo];exact zabC _
theorem AI.owner{u:Setup}{a:zy}(h:AI u a){c k:Int}(h0:0<=c)(h1:c<=a.slots.length):AI u (zhj a c k):=by
 unfold zhj
 split
 ·exact { h with }
 ·rename_i hc;refine { h with sl:= ?_,st:= ?_,sh:=fun x hx=> ?_,df:= ?_ }
  ·simp only[zacb];exact h.sl
  ·simp only[zacb];exact h.st
  ·rcases zmR hx with rfl|hx
   ·exact h.sh (a.slots.getD c.toNat zfC) (zCQ (a:=a) h0 zo)
   ·exact h.sh x hx
  ·simp only[zacb];exact h.df
theorem AI.try_{u:Setup}{a:zy}(h:AI u a)(c k:Int)(e:(zcp a c k).2.2=0):AI u (zcp a c k).1:=by
 unfold zcp at e ⊢
 split at e
 ·cases e
 ·rename_i hc;rw[zabn hc];have q1:0<=c:=zadB.1 fun q=>hc (.inl q);have q2:c<=a.slots.length:=zadB.1 fun q=>hc (.inr (.inl q))
  split
  ·exact AI.owner (a:=a) (c:=c) (k:=k) h q1 q2
  ·exact h
theorem AI.unlock{u:Setup}{a:zy}(h:AI u a)(c k:Int)(e:(zd2 a c k).2=0):AI u (zd2 a c k).1:=by
 unfold zd2 at e ⊢
 split at e
 ·cases e
 ·rename_i hc;rw[zabn hc]
  split at e
  ·rename_i h2;rw[zabo h2];have q1:0<=c:=zadB.1 fun q=>hc (.inl q);have q2:c<=a.slots.length:=zadB.1 fun q=>hc (.inr (.inl q));exact AI.owner (a:=a) (c:=c) (k:=0) h q1 q2
  ·cases e
theorem AI.lock{u:Setup}{a:zy}(h:AI u a)(l:zbI)(k:Int)(e:(zaZ a l k).2.2=0):AI u (zaZ a l k).1:=by
 unfold zaZ at e ⊢
 split at e
 ·rename_i h0;rw[zabo h0];unfold zmO at e ⊢
  split at e
  ·rename_i h1;rw[zabo h1]
   split
   ·exact h.try_ _ _ h1
   ·exact h.try_ _ _ h1
  ·rename_i h1;exact absurd e h1
 ·rename_i h0;rw[zabn h0]
  split at e
  ·rename_i h1;rw[zabo h1];unfold zkz at e ⊢
   split at e
   ·rename_i h2;rw[zabo h2];exact h.unlock _ _ h2
   ·rename_i h2;exact absurd e h2
  ·rename_i h1;rw[zabn h1]
   split at e
   ·rename_i h2;rw[zabo h2];exact h
   ·cases e
theorem ztE{a:zy}{i:Int}:zeY a i=true↔0<=i/\i<a.slots.length:=by unfold zeY;rw[decide_eq_true_eq]
theorem z9R{a:zy}{i k:Int}(e:zez a i k=0):0<=i/\i<a.slots.length/\(a.slots.getD i.toNat zfC).owner=k:=by
 unfold zez at e
 split at e
 ·cases e
 ·rename_i hc
  split at e
  ·rename_i h1;have:zeY a i=true:=by
    cases hq:zeY a i with
    | true=>rfl
    | false=>exact absurd (.inl hq) hc
   exact⟨(ztE.1 this).1,(ztE.1 this).2,h1⟩
  ·cases e
theorem AI.stSlot{u:Setup}{a:zy}(h:AI u a)(i k:Int)(s:zt)(e:(stSlot a i k s).2=0):AI u (stSlot a i k s).1:=by
 unfold Go.Proofs.YtcembpbhkcbnhaaGreat.stSlot at e ⊢
 split at e
 ·rename_i h1;exact absurd e h1
 ·rename_i h1;rw[zabn h1]
  split at e
  ·rename_i h2;exact absurd e h2
  ·rename_i h2;rw[zabn h2]
   split at e
   ·cases e
   ·rename_i h3;rw[zabn h3];obtain⟨q1,q2,_⟩:=z9R (zabG.1 h1);refine { h with sl:= ?_,st:= ?_,sh:=fun x hx=> ?_,df:= ?_ }
    ·simp only[zacb];exact h.sl
    ·simp only[zacb];exact h.st
    ·rcases zmR hx with rfl|hx
     ·refine⟨zabG.1 h2,?_⟩;rw[zabG.1 h3];exact (h.sh _ (zCQ q1 q2)).2
     ·exact h.sh x hx
    ·simp only[zacb];exact h.df
theorem AI.stStripe{u:Setup}{a:zy}(h:AI u a)(i k:Int)(s:zaeF)(e:(stStripe a i k s).2=0):AI u (stStripe a i k s).1:=by
 unfold Go.Proofs.YtcembpbhkcbnhaaGreat.stStripe at e ⊢
 split at e
 ·rename_i h1;exact absurd e h1
 ·rename_i h1;rw[zabn h1]
  split at e
  ·cases e
  ·rename_i h2;rw[zabn h2];refine { h with st:= ?_,sp:=fun x hx=> ?_ }
   ·simp only[zacb];exact h.st
   ·rcases zmR hx with rfl|hx
    ·simpa using h2
    ·exact h.sp x hx
theorem AI.stDead{u:Setup}{a:zy}(h:AI u a)(k:Int)(d:za7)(e:(stDead a k d).2=0):AI u (stDead a k d).1:=by
 unfold Go.Proofs.YtcembpbhkcbnhaaGreat.stDead at e ⊢
 split at e
 ·cases e
 ·rename_i h1;rw[zabn h1]
  split at e
  ·cases e
  ·rename_i h2;rw[zabn h2]
   split at e
   ·rename_i h3;exact absurd e h3
   ·rename_i h3;rw[zabn h3]
    split at e
    ·cases e
    ·rename_i h4;rw[zabn h4];exact { h with dd:=zabG.1 h3,dc:=(zabG.1 h4).trans h.dc }
theorem AI.casDir{u:Setup}{a:zy}(h:AI u a)(v:Int)(d:zabk)(e:(casDir a v d).2.2=0):AI u (casDir a v d).1:=by
 unfold Go.Proofs.YtcembpbhkcbnhaaGreat.casDir at e ⊢
 split at e
 ·rename_i h1;exact absurd e h1
 ·rename_i h1;rw[zabn h1]
  split at e
  ·cases e
  ·rename_i h2;rw[zabn h2]
   split
   ·exact h
   ·exact { h with dv:=zabG.1 h1,df:=zabG.1 h2 }
theorem AI.casWord{u:Setup}{a:zy}(h:AI u a)(w old next:Int)(e:(casWord a w old next).2.2=0):AI u (casWord a w old next).1:=by
 unfold Go.Proofs.YtcembpbhkcbnhaaGreat.casWord at e ⊢
 split at e
 ·cases e
 ·rename_i h1;rw[zabn h1]
  split at e
  ·cases e
  ·rename_i h2;rw[zabn h2]
   split
   ·exact h
   ·split
    ·rename_i h3;refine { h with ep:= ?_ };refine Classical.byContradiction fun q=>h2 (.inl ⟨h3,q⟩)
    ·rename_i h3;refine { h with ni:= ?_ };refine Classical.byContradiction fun q=>h2 (.inr ⟨by omega,q⟩)
theorem AI.tick{u:Setup}{a:zy}(h:AI u a)(by_:Int)(e:(zeA a by_).2=0):AI u (zeA a by_).1:=by
 unfold zeA at e ⊢
 split at e
 ·cases e
 ·rename_i h1;rw[zabn h1]
  split at e
  ·cases e
  ·rename_i h2;rw[zabn h2];have:=h.ck;refine { h with ck:= ?_ };simp only;omega
structure zlj(s:zt):Prop where
 a:s.ready.cells.length<=4294967296
 b:s.leases.l.length<=4294967296
 c:s.leases.heap.length<=4294967296
structure FitA(a:zy):Prop where
 sl:a.slots.length<=1000
 sh:∀i (h:i<a.slots.length),zlj (a.slots[i]).shard
 st:a.stripes.length<=4294967296
 de:a.dead.dead.l.length<=4294967296
 dl:a.dir.l.length<=4294967296
 df:a.dir.forward.length<=4294967296
def kOf(n:Int)(l:List Int):Nat:=(l.filter fun c=>decide (c<n)).length
theorem zmC(n:Int)(l:List Int):kOf n l<=l.length:=zacF _ _
theorem zLS{n:Int}:∀ {l:List Int},l.Pairwise (· < ·)->∀(i:Nat) (hi:i<l.length),i<kOf n l↔l[i]<n:=by
 intro l
 induction l with
 | nil=>intro _ i hi;cases hi
 | cons c l ih=>
  intro h i hi;rw[zadd] at h
  by_cases hc:c<n
  ·have e:kOf n (c::l)=kOf n l+1:=by unfold kOf;rw[zacL,zabo (by simpa using hc)];rfl
   rw[e]
   cases i with
   | zero=>simp [hc]
   | succ i=>
    have:=ih h.2 i (by simpa using hi);simp only[zadZ];omega
  ·have e:kOf n (c::l)=0:=by
      unfold kOf;rw[zacL,zabn (by simpa using hc)];have:(l.filter fun c=>decide (c<n))=[]:=by
       rw[zaeq];intro x hx;have:=h.1 x hx;simp only[decide_eq_true_eq];omega
      rw[this];rfl
   rw[e]
   cases i with
   | zero=>simp [hc]
   | succ i=>
    have:=h.1 (l[i]'(by simpa using hi)) (zabC _);simp only[zadZ];omega
theorem zQE{u:Setup}{a:zy}(h:AI u a)(s:Section):zdp a s=kOf u.slots s.lock.cells:=by
 unfold zdp kOf;rw[h.sl]
structure PhI(k n:Nat)(s:Section):Prop where
 p0:s.phase=0->s.lock.phase<=2/\s.stripes=[]/\s.shards=[]/\s.snap.phase=0
 p1:s.phase=1->s.lock.phase=3/\0<=s.at_/\s.at_<2 * k/\(s.stripes.length:Int)=(s.at_+1) / 2/\s.shards=[]/\s.snap.phase=0
 p2:s.phase=2->s.lock.phase=3/\0<=s.at_/\s.at_<n/\s.stripes.length=k/\s.shards.length=min s.at_.toNat k/\s.snap.phase=0
 p3:s.phase=3->s.lock.phase=3/\s.stripes.length=k/\s.shards.length=k/\0<=s.snap.phase/\s.snap.phase<=2
 p4:s.phase=4->s.lock.phase=3/\s.stripes.length=k/\s.shards.length=k
 p5:s.phase=5->s.lock.phase=3/\s.stripes.length=k/\s.shards.length=k/\s.out.shards.length=k/\0<=s.at_/\s.at_<s.out.order.length
 p6:s.phase=6->s.lock.phase=3/\s.stripes.length=k/\s.shards.length=k/\s.out.shards.length=k/\s.out.edits.length=1/\0<=s.at_/\s.at_<=1
 p7:s.phase=7->s.lock.phase=3/\s.stripes.length=k/\s.shards.length=k/\s.out.shards.length=k/\0<=s.at_/\s.at_<k
 p8:s.phase=8->s.lock.phase=4/\s.shards.length=k/\s.out.shards.length=k
 p9:s.phase=9->s.shards.length=k/\s.out.shards.length=k
structure SI(u:Setup)(N:Int)(s:Section):Prop where
 lw:LWF N s.lock
 cr:∀c∈s.lock.cells,0<=c/\c<=u.slots
 ca:s.lock.cells.Pairwise (· < ·)
 sv:∀x∈s.shards,zY x=0/\(x.ready.cells.length:Int)=u.capacity
 dv:s.dead.l.length<=24
 lm:1<=s.limit/\s.limit<=8
 sn:(0<=s.snap.epoch/\s.snap.epoch<=65536)/\0<=s.snap.clock/\s.snap.clock<=1073741824
 di:s.dir.l.length<=65536
 os:∀x∈s.out.shards,zlj x
 od:s.out.dead.l.length<=1000
 oo:(∀o∈s.out.order,0<=o/\o<s.lock.cells.length)/\s.out.order.length<=3
 oc:s.out.carry.length<=1000/\s.carry.length<=1000
 ph:PhI (kOf u.slots s.lock.cells) s.lock.cells.length s
theorem SI.mono{u:Setup}{N M:Int}{s:Section}(h:SI u N s)(hn:N<=M):SI u M s:={ h with lw:=LWF.mono h.lw hn }
theorem zZc{B:Int}{a:zy}{l:zbI}{k:Int}(hw:LWF B l)(hp:l.phase<=2)(h:(zaZ a l k).2.2=0):(zaZ a l k).2.1.phase<=3:=by
 unfold zaZ at h ⊢
 by_cases c0:l.phase=0
 ·rw[zabo c0] at h ⊢;unfold zmO at h ⊢
  split at h
  ·rename_i c1;rw[zabo c1]
   split
   ·simp only;split<;>omega
   ·simp only;split<;>omega
  ·rename_i c1;exact absurd h c1
 ·rw[zabn c0] at h ⊢
  by_cases c1:l.phase=1
  ·rw[zabo (.inl c1)] at h ⊢;unfold zkz at h ⊢
   split at h
   ·rename_i c2;rw[zabo c2];unfold zkw;simp only
    split
    ·simp only;omega
    ·rw[zabn zo];simp only;omega
   ·rename_i c2;exact absurd h c2
  ·have c4:¬(l.phase=1\/l.phase=4):=by omega
   rw[zabn c4] at h ⊢
   split at h
   ·rename_i c2;rw[zabo c2];simp only;split<;>omega
   ·cases h
structure zdv(s s':Section):Prop where
 cells:s'.lock.cells=s.lock.cells
 limit:s'.limit=s.limit
theorem z8F{u:Setup}{a:zy}{s:Section}{k N:Int}(ha:AI u a)(hs:SI u N s)(hp:s.phase=0)(e:(zhg a s k).2.2=0):
    AI u (zhg a s k).1/\SI u (N+1) (zhg a s k).2.1/\zdv s (zhg a s k).2.1:=by
 obtain⟨q1,q2,q3,q9⟩:=hs.ph.p0 hp;have hk:=zQE ha s;have he:(zaZ a s.lock k).2.2=0:=by
  unfold zhg at e
  split at e
  ·rename_i c;exact c.1
  ·exact e
 have hal:=ha.lock s.lock k he;obtain⟨w1,w2,_⟩:=zBa hs.lw he;have w3:=zZc hs.lw q1 he;have w4:=hs.lw.c1;unfold zhg;generalize zaZ a s.lock k=r at *;obtain⟨a2,l2,e2⟩:=r;simp only at he w1 w2 w3 hal;subst he
 by_cases c:l2.phase=3
 ·rw[zabo ⟨rfl,c⟩];refine⟨hal,?_,?_⟩
  ·by_cases c0:zdp a s=0
   ·rw[zabo c0];have k0:kOf u.slots s.lock.cells=0:=by rw[c0] at hk;omega
    refine { hs with lw:=w1,cr:=by simp only[z5];rw[w2];exact hs.cr,ca:=by simp only[z5];rw[w2];exact hs.ca,oo:=by simp only[z5];rw[w2];exact hs.oo,ph:= ?_ };simp only[z5];rw[w2,k0];constructor<;>simp only<;>intro h<;>first|omega|(refine⟨c,?_⟩;rw[q2,q3];simp;omega)
   ·rw[zabn c0];have k0:kOf u.slots s.lock.cells≠0:=fun q=>c0 (by rw[hk,q];rfl);refine { hs with lw:=w1,cr:=by simp only[z5];rw[w2];exact hs.cr,ca:=by simp only[z5];rw[w2];exact hs.ca,oo:=by simp only[z5];rw[w2];exact hs.oo,ph:= ?_ };simp only[z5];rw[w2];constructor<;>simp only<;>intro h<;>first|omega|(refine⟨c,?_⟩;rw[q2,q3];simp;omega)
  ·split<;>exact⟨w2,rfl⟩
 ·rw[zabn (fun q=>c q.2)];refine⟨hal,?_,⟨w2,rfl⟩⟩;refine { hs with lw:=w1,cr:=by simp only;rw[w2];exact hs.cr,ca:=by simp only;rw[w2];exact hs.ca,oo:=by simp only;rw[w2];exact hs.oo,ph:= ?_ };simp only;rw[w2];constructor<;>simp only<;>intro h<;>first|omega|exact⟨by omega,q2,q3,q9⟩
theorem z8J{u:Setup}{a:zy}{s:Section}{n N:Int}(ha:AI u a)(hs:SI u N s)(hp:s.phase=3)(e:(zih a s n).2.2=0):
    AI u (zih a s n).1/\SI u (N+1) (zih a s n).2.1/\zdv s (zih a s n).2.1:=by
 obtain⟨q1,q2,q3,q4,q5⟩:=hs.ph.p3 hp;have hsn:=hs.sn;have h1:=ha.ep;have h2:=ha.ck;have hs:=hs.mono (show N<=N+1 by omega);unfold zih at e ⊢;simp only at e ⊢;have key:(0<=(zc7 a s.snap n).1.epoch/\(zc7 a s.snap n).1.epoch<=65536)/\(0<=(zc7 a s.snap n).1.clock/\(zc7 a s.snap n).1.clock<=1073741824)/\0<=(zc7 a s.snap n).1.phase/\(zc7 a s.snap n).1.phase<=3:=by
  unfold zc7 at e ⊢
  split
  ·simp only;omega
  ·split
   ·simp only;omega
   ·split
    ·split
     ·simp only;omega
     ·simp only;omega
    ·exfalso;omega
 generalize zc7 a s.snap n=r at *;obtain⟨x,e2⟩:=r;simp only at e key ⊢;subst e;obtain⟨k1,k2,k3,k4⟩:=key;refine⟨ha,?_,?_⟩
 ·by_cases c:x.phase=3
  ·rw[zabo ⟨rfl,c⟩];refine { hs with sn:=⟨k1,k2⟩,ph:= ?_ };simp only[z5];constructor<;>simp only<;>intro h<;>first|omega|exact⟨q1,q2,q3⟩
  ·rw[zabn (fun q=>c q.2)];refine { hs with sn:=⟨k1,k2⟩,ph:= ?_ };simp only;constructor<;>simp only<;>intro h<;>first|omega|exact⟨q1,q2,q3,k3,by omega⟩
 ·split<;>exact⟨rfl,rfl⟩
theorem z8E{u:Setup}{a:zy}{s:Section}{N:Int}(ha:AI u a)(hs:SI u N s)(hp:s.phase=2)(e:(zfq a s).2.2=0):
    AI u (zfq a s).1/\SI u (N+1) (zfq a s).2.1/\zdv s (zfq a s).2.1:=by
 obtain⟨q1,q2,q3,q4,q5,q9⟩:=hs.ph.p2 hp;have hsl:=ha.sl;have hlt:s.at_.toNat<s.lock.cells.length:=by omega
 have hc:zcv s s.at_=s.lock.cells[s.at_.toNat]:=by unfold zcv;rw[zh hlt]
 have hcr:=hs.cr _ (zabC hlt);have hka:=zLS (n:=u.slots) hs.ca s.at_.toNat hlt;have hkl:=zmC u.slots s.lock.cells;rw[<- hc] at hcr hka;have hsv:=hs.sv;have hs:=hs.mono (show N<=N+1 by omega);unfold zfq at e ⊢;simp only at e ⊢;generalize zcv s s.at_=c at *;refine⟨ha,?_,?_⟩
 ·by_cases c0:c=a.slots.length
  ·rw[zabo c0];have hk:kOf u.slots s.lock.cells<=s.at_.toNat:=by omega
   have hdl:a.dead.dead.l.length<=24:=by
    have hd:=ha.dd;unfold zcm at hd
    split at hd
    ·cases hd
    ·split at hd
     ·cases hd
     ·omega
   by_cases c1:s.at_+1=s.lock.cells.length
   ·simp only[c1,if_true];refine { hs with dv:=hdl,ph:= ?_ };simp only[z5];constructor<;>simp only<;>intro h<;>first|omega|exact⟨q1,q4,by omega,by omega,by omega⟩
   ·simp only[c1,if_false];refine { hs with dv:=hdl,ph:= ?_ };simp only;constructor<;>simp only<;>intro h<;>first|omega|exact⟨q1,by omega,by omega,q4,by omega,q9⟩
  ·rw[zabn c0];have hcl:c<a.slots.length:=by omega
   have hk:s.at_.toNat<kOf u.slots s.lock.cells:=hka.2 zo;have hld:(zg2 a c).1=(a.slots.getD c.toNat zfC).shard:=by
    unfold zg2;rw[zabo (ztE.2 ⟨hcr.1,hcl⟩)]
   have hnew:∀x∈s.shards++[(zg2 a c).1],zY x=0/\(x.ready.cells.length:Int)=u.capacity:=by
    intro x hx
    rcases zabS.1 hx with hx|hx
    ·exact hsv x hx
    ·rw[zab1.1 hx,hld];exact ha.sh _ (zCQ (a:=a) hcr.1 hcl)
   by_cases c1:s.at_+1=s.lock.cells.length
   ·simp only[c1,if_true];refine { hs with sv:=hnew,ph:= ?_ };simp only[z5];constructor<;>simp only<;>intro h<;>first|omega|exact⟨q1,q4,by simp only[zabv,zab3];omega,by omega,by omega⟩
   ·simp only[c1,if_false];refine { hs with sv:=hnew,ph:= ?_ };simp only;constructor<;>simp only<;>intro h<;>first|omega|exact⟨q1,by omega,by omega,q4,by simp only[zabv,zab3];omega,q9⟩
 ·constructor
  ·split<;>split<;>rfl
  ·split<;>split<;>rfl
theorem z8G{u:Setup}{a:zy}{s:Section}{k N:Int}(ha:AI u a)(hs:SI u N s)(hp:s.phase=1)(e:(zfr a s k).2.2=0):
    AI u (zfr a s k).1/\SI u (N+1) (zfr a s k).2.1/\zdv s (zfr a s k).2.1:=by
 obtain⟨q1,q2,q3,q4,q5,q6⟩:=hs.ph.p1 hp;have hkl:=zmC u.slots s.lock.cells;have hs:=hs.mono (show N<=N+1 by omega);have e1:s.at_.tmod 2=s.at_ % 2:=zaem q2;have e2:s.at_.tdiv 2=s.at_ / 2:=zac2 q2;unfold zfr at e ⊢;simp only[e1,e2] at e ⊢
 by_cases c:s.at_ % 2=0
 ·rw[zabo c];refine⟨ha,?_,⟨rfl,rfl⟩⟩;refine { hs with ph:= ?_ };simp only;constructor<;>simp only<;>intro h<;>first|omega|exact⟨q1,by omega,by omega,by simp only[zabv,zab3];omega,q5,q6⟩
 ·rw[zabn c] at e ⊢
  split at e
  ·rename_i c1;exact absurd e c1
  ·rename_i c1;rw[zabn c1];simp only at e ⊢;have hst:=ha.stStripe _ _ _ e;have hkl2:=fun s2=>zQE hst s2;refine⟨hst,?_,?_⟩
   ·have hlen:(List.take (s.at_ / 2).toNat s.stripes++[(zhr (s.stripes.getD (s.at_ / 2).toNat zb0)).1]).length=(s.at_ / 2).toNat+1:=by
       rw[zabv,zac9,zab3];omega
    by_cases c2:s.at_+1=2 * (kOf u.slots s.lock.cells:Int)
    ·rw[zabo ⟨e,by rw[hkl2];exact c2⟩];refine { hs with ph:= ?_ };simp only[z5];have c1':=hs.lw.c1;constructor<;>simp only<;>intro h<;>first|omega|exact⟨q1,by omega,by omega,by omega,by rw[q5];simp,q6⟩
    ·rw[zabn (fun q=>c2 (by have:=q.2;rw[hkl2] at this;exact this))];refine { hs with ph:= ?_ };simp only;constructor<;>simp only<;>intro h<;>first|omega|exact⟨q1,by omega,by omega,by omega,q5,q6⟩
   ·constructor
    ·split<;>rfl
    ·split<;>rfl
theorem zWj{u:Setup}{N:Int}{s:Section}(hs:SI u N s)(h3:s.lock.phase=3)(hk:s.shards.length=kOf u.slots s.lock.cells)(ho:s.out.shards.length=kOf u.slots s.lock.cells)(e:(zcG s).2=0):
    SI u N (zcG s).1/\zdv s (zcG s).1:=by
 obtain⟨w1,w2⟩:=zsN hs.lw h3;have hf:(zcb s.lock).2=0/\(zcb s.lock).1.phase=4:=by unfold zcb;rw[zabo h3];exact⟨rfl,rfl⟩
 unfold zcG;rw[zabn (fun q=>q hf.1)];refine⟨?_,⟨w2,rfl⟩⟩;refine { hs with lw:=w1,cr:=by simp only[z5];rw[w2];exact hs.cr,ca:=by simp only[z5];rw[w2];exact hs.ca,oo:=by simp only[z5];rw[w2];exact hs.oo,ph:= ?_ };simp only[z5];rw[w2];constructor<;>simp only<;>intro h<;>first|omega|exact⟨hf.2,hk,ho⟩
theorem zaaN{u:Setup}{a:zy}{N:Int}{s:Section}(ha:AI u a)(hs:SI u N s)(h3:s.lock.phase=3)(hst:s.stripes.length=kOf u.slots s.lock.cells)(hk:s.shards.length=kOf u.slots s.lock.cells)(ho:s.out.shards.length=kOf u.slots s.lock.cells)(e:(zcn a s).2.2=0):
    AI u (zcn a s).1/\SI u N (zcn a s).2.1/\zdv s (zcn a s).2.1:=by
 unfold zcn at e ⊢
 split
 ·rename_i c;refine⟨ha,?_,⟨rfl,rfl⟩⟩;refine { hs with ph:= ?_ };simp only[z5];constructor<;>simp only<;>intro h<;>first|omega|exact⟨h3,hst,hk,ho,by omega,by omega⟩
 ·rename_i c;rw[zabn c] at e;obtain⟨f1,f2⟩:=zWj hs h3 hk ho e;exact⟨ha,f1,f2⟩
theorem z8M{u:Setup}{a:zy}{s:Section}{k N:Int}(ha:AI u a)(hs:SI u N s)(hp:s.phase=5)(e:(zft a s k).2.2=0)(he:s.out.edits.length<=1):
    AI u (zft a s k).1/\SI u (N+1) (zft a s k).2.1/\zdv s (zft a s k).2.1:=by
 obtain⟨q1,q2,q3,q4,q5,q6⟩:=hs.ph.p5 hp;have hs:=hs.mono (show N<=N+1 by omega);unfold zft at e ⊢;simp only at e ⊢;generalize hr:(if zcv s (s.out.order.getD s.at_.toNat 0)=(a.slots.length:Int) then stDead a k s.out.dead else stSlot a (zcv s (s.out.order.getD s.at_.toNat 0)) k (s.out.shards.getD (s.out.order.getD s.at_.toNat 0).toNat zJ))=r at *
 by_cases c:r.2=0
 ·have har:AI u r.1:=by
     split at hr
     ·subst hr;exact ha.stDead _ _ c
     ·subst hr;exact ha.stSlot _ _ _ c
  rw[zabn (fun q=>q c)] at e ⊢
  by_cases c1:s.at_+1<(s.out.order.length:Int)
  ·rw[zabo c1];refine⟨har,?_,⟨rfl,rfl⟩⟩;refine { hs with oc:=⟨hs.oc.1,hs.oc.1⟩,ph:= ?_ };simp only;constructor<;>simp only<;>intro h<;>first|omega|exact⟨q1,q2,q3,q4,by omega,by omega⟩
  ·rw[zabn c1] at e ⊢;have hs2:SI u (N+1) { s with at_:=s.at_+1,carry:=[] }\/True:= .inr trivial
   by_cases c2:0<s.out.edits.length
   ·rw[zabo c2];refine⟨har,?_,⟨rfl,rfl⟩⟩;refine { hs with oc:=⟨hs.oc.1,by simp [z5]⟩,ph:= ?_ };simp only[z5];constructor<;>simp only<;>intro h<;>first|omega|exact⟨q1,q2,q3,q4,by omega,by omega,by omega⟩
   ·rw[zabn c2] at e ⊢;unfold zcn at e ⊢;simp only at e ⊢
    split
    ·rename_i c3;refine⟨har,?_,⟨rfl,rfl⟩⟩;refine { hs with oc:=⟨hs.oc.1,by simp [z5]⟩,ph:= ?_ };simp only[z5];constructor<;>simp only<;>intro h<;>first|omega|exact⟨q1,q2,q3,q4,by omega,by omega⟩
    ·rename_i c3;obtain⟨w1,w2⟩:=zsN hs.lw q1;have hf:(zcb s.lock).2=0/\(zcb s.lock).1.phase=4:=by unfold zcb;rw[zabo q1];exact⟨rfl,rfl⟩
     unfold zcG;simp only;rw[zabn (fun q=>q hf.1)];refine⟨har,?_,⟨w2,rfl⟩⟩;refine { hs with lw:=w1,cr:=by simp only[z5];rw[w2];exact hs.cr,ca:=by simp only[z5];rw[w2];exact hs.ca,oo:=by simp only[z5];rw[w2];exact hs.oo,oc:=⟨hs.oc.1,by simp [z5]⟩,ph:= ?_ };simp only[z5];rw[w2];constructor<;>simp only<;>intro h<;>first|omega|exact⟨hf.2,q3,q4⟩
 ·rw[zabo c] at e;exact absurd e c
theorem zaan:∀(l:List Span) (n m:Int),zdb n l=some m->(l.length:Int)<=m - n:=by
 intro l
 induction l with
 | nil=>intro n m h;simp only[zdb,Option.some.injEq] at h;simp only[zabw];omega
 | cons x l ih=>
  intro n m h;unfold zdb at h
  split at h
  ·rename_i c;have:=ih _ _ h;simp only[zabu];omega
  ·cases h
theorem zfN{d:zabk}(h:zbl d=0):d.l.length<=65536:=by
 unfold zbl at h
 split at h
 ·cases h
 ·split at h
  ·cases h
  ·rename_i c;have:=zaan _ _ _ (zabG.1 c);omega
theorem z8C{u:Setup}{a:zy}{s:Section}{N:Int}(ha:AI u a)(hs:SI u N s)(hp:s.phase=6)(e:(zfp a s).2.2=0):
    AI u (zfp a s).1/\SI u (N+1) (zfp a s).2.1/\zdv s (zfp a s).2.1:=by
 obtain⟨q1,q2,q3,q4,q5,q6,q7⟩:=hs.ph.p6 hp;have hs:=hs.mono (show N<=N+1 by omega);unfold zfp at e ⊢
 by_cases c:s.at_=0
 ·rw[zabo c];refine⟨ha,?_,⟨rfl,rfl⟩⟩;refine { hs with di:=zfN ha.dv,ph:= ?_ };simp only;constructor<;>simp only<;>intro h<;>first|omega|exact⟨q1,q2,q3,q4,q5,by omega,by omega⟩
 ·rw[zabn c] at e ⊢;simp only at e ⊢
  by_cases c1:(zgG s.dir (s.out.edits.getD 0 ztX)).2≠0
  ·rw[zabo c1] at e;exact absurd e c1
  ·rw[zabn c1] at e ⊢;generalize zgG s.dir (s.out.edits.getD 0 ztX)=d at *;have hcd:=ha.casDir s.dir.version d.1;have hdv:(casDir a s.dir.version d.1).2.2=0->zbl d.1=0:=by
    intro h;unfold Go.Proofs.YtcembpbhkcbnhaaGreat.casDir at h
    split at h
    ·rename_i h1;exact absurd h h1
    ·rename_i h1;exact zabG.1 h1
   generalize casDir a s.dir.version d.1=r at *
   by_cases c2:r.2.2≠0
   ·rw[zabo c2] at e;exact absurd e c2
   ·rw[zabn c2] at e ⊢;have c2:=zabG.1 c2;have har:=hcd c2;have hd:=zfN (hdv c2)
    by_cases c3:r.2.1=false
    ·rw[zabo c3];refine⟨har,?_,⟨rfl,rfl⟩⟩;refine { hs with ph:= ?_ };simp only;constructor<;>simp only<;>intro h<;>first|omega|exact⟨q1,q2,q3,q4,q5,by omega,by omega⟩
    ·rw[zabn c3] at e ⊢;have hs2:SI u (N+1) { s with dir:=d.1 }:=by
      refine { hs with di:=hd,ph:= ?_ };have hph:=hs.ph;exact⟨hph.p0,hph.p1,hph.p2,hph.p3,hph.p4,hph.p5,hph.p6,hph.p7,hph.p8,hph.p9⟩
     obtain⟨f1,f2,f3⟩:=zaaN (s:={ s with dir:=d.1 }) har hs2 q1 q2 q3 q4 e;exact⟨f1,f2,⟨f3.cells,f3.limit⟩⟩
theorem z8N{u:Setup}{a:zy}{s:Section}{k N:Int}(ha:AI u a)(hs:SI u N s)(hp:s.phase=7)(e:(zfu a s k).2.2=0):
    AI u (zfu a s k).1/\SI u (N+1) (zfu a s k).2.1/\zdv s (zfu a s k).2.1:=by
 obtain⟨q1,q2,q3,q4,q5,q6⟩:=hs.ph.p7 hp;have hs:=hs.mono (show N<=N+1 by omega);unfold zfu at e ⊢;simp only at e ⊢;generalize ziF (s.stripes.getD s.at_.toNat zb0) (if zjl s s.at_=true then s.out.shards.getD s.at_.toNat zJ else s.shards.getD s.at_.toNat zJ) s.snap.epoch s.limit=x at *
 by_cases c1:x.2≠0
 ·rw[zabo c1] at e;exact absurd e c1
 ·rw[zabn c1] at e ⊢;have hst:=ha.stStripe (zcv s s.at_) k x.1;generalize stStripe a (zcv s s.at_) k x.1=r at *
  by_cases c2:r.2≠0
  ·rw[zabo c2] at e;exact absurd e c2
  ·rw[zabn c2] at e ⊢;have har:=hst (zabG.1 c2)
   by_cases c3:s.at_+1=(s.stripes.length:Int)
   ·rw[zabo c3] at e ⊢;unfold zcG at e ⊢;simp only at e ⊢;obtain⟨w1,w2⟩:=zsN hs.lw q1;have hf:(zcb s.lock).2=0/\(zcb s.lock).1.phase=4:=by unfold zcb;rw[zabo q1];exact⟨rfl,rfl⟩
    rw[zabn (fun q=>q hf.1)];refine⟨har,?_,⟨w2,rfl⟩⟩;refine { hs with lw:=w1,cr:=by simp only[z5];rw[w2];exact hs.cr,ca:=by simp only[z5];rw[w2];exact hs.ca,oo:=by simp only[z5];rw[w2];exact hs.oo,ph:= ?_ };simp only[z5];rw[w2];constructor<;>simp only<;>intro h<;>first|omega|exact⟨hf.2,q3,q4⟩
   ·rw[zabn c3];refine⟨har,?_,⟨rfl,rfl⟩⟩;refine { hs with ph:= ?_ };simp only;constructor<;>simp only<;>intro h<;>first|omega|exact⟨q1,q2,q3,q4,by omega,by omega⟩
theorem zZd{a:zy}{l:zbI}{k:Int}(hp:l.phase=4)(h:(zaZ a l k).2.2=0):(zaZ a l k).2.1.phase=4\/(zaZ a l k).2.1.phase=5:=by
 unfold zaZ at h ⊢;rw[zabn zo,zabo (.inr hp)] at h ⊢;unfold zkz at h ⊢
 split at h
 ·rename_i c2;rw[zabo c2];unfold zkw;simp only
  split
  ·simp only;omega
  ·exact .inr rfl
 ·rename_i c2;exact absurd h c2
theorem z8D{u:Setup}{a:zy}{s:Section}{k N:Int}(ha:AI u a)(hs:SI u N s)(hp:s.phase=8)(e:(zhf a s k).2.2=0):
    AI u (zhf a s k).1/\SI u (N+1) (zhf a s k).2.1/\zdv s (zhf a s k).2.1:=by
 obtain⟨q1,q2,q3⟩:=hs.ph.p8 hp;have he:(zaZ a s.lock k).2.2=0:=by
  unfold zhf at e
  split at e
  ·rename_i c;exact c.1
  ·exact e
 have hal:=ha.lock s.lock k he;obtain⟨w1,w2,_⟩:=zBa hs.lw he;have w3:=zZd q1 he;unfold zhf;generalize zaZ a s.lock k=r at *;obtain⟨a2,l2,e2⟩:=r;simp only at he w1 w2 w3 hal;subst he
 by_cases c:l2.phase=5
 ·rw[zabo ⟨rfl,c⟩];refine⟨hal,?_,⟨w2,rfl⟩⟩;refine { hs with lw:=w1,cr:=by simp only[z5];rw[w2];exact hs.cr,ca:=by simp only[z5];rw[w2];exact hs.ca,oo:=by simp only[z5];rw[w2];exact hs.oo,ph:= ?_ };simp only[z5];rw[w2];constructor<;>simp only<;>intro h<;>first|omega|exact⟨q2,q3⟩
 ·rw[zabn (fun q=>c q.2)];refine⟨hal,?_,⟨w2,rfl⟩⟩;refine { hs with lw:=w1,cr:=by simp only;rw[w2];exact hs.cr,ca:=by simp only;rw[w2];exact hs.ca,oo:=by simp only;rw[w2];exact hs.oo,ph:= ?_ };simp only;rw[w2];constructor<;>simp only<;>intro h<;>first|omega|exact⟨by omega,q2,q3⟩
theorem z8K{u:Setup}{a:zy}{s:Section}{k n N:Int}(ha:AI u a)(hs:SI u N s)(hed:s.out.edits.length<=1)(e:(zct a s k n).2.2=0):
    AI u (zct a s k n).1/\SI u (N+1) (zct a s k n).2.1/\zdv s (zct a s k n).2.1:=by
 unfold zct at e ⊢
 by_cases c:(zfs a s k n).2.2≠0
 ·rw[zabo c] at e;exact absurd e c
 ·rw[zabn c] at e ⊢;clear c;unfold zfs at e ⊢
  by_cases c0:s.phase=0
  ·rw[zabo c0] at e ⊢; exact z8F ha hs c0 e
  rw[zabn c0] at e ⊢
  by_cases c1:s.phase=1
  ·rw[zabo c1] at e ⊢; exact z8G ha hs c1 e
  rw[zabn c1] at e ⊢
  by_cases c2:s.phase=2
  ·rw[zabo c2] at e ⊢; exact z8E ha hs c2 e
  rw[zabn c2] at e ⊢
  by_cases c3:s.phase=3
  ·rw[zabo c3] at e ⊢; exact z8J ha hs c3 e
  rw[zabn c3] at e ⊢
  by_cases c5:s.phase=5
  ·rw[zabo c5] at e ⊢; exact z8M ha hs c5 e hed
  rw[zabn c5] at e ⊢
  by_cases c6:s.phase=6
  ·rw[zabo c6] at e ⊢; exact z8C ha hs c6 e
  rw[zabn c6] at e ⊢
  by_cases c7:s.phase=7
  ·rw[zabo c7] at e ⊢; exact z8N ha hs c7 e
  rw[zabn c7] at e ⊢
  by_cases c8:s.phase=8
  ·rw[zabo c8] at e ⊢; exact z8D ha hs c8 e
  rw[zabn c8] at e
  cases e
structure OI(s:Section)(o:zb1):Prop where
 sh:o.shards.length=s.shards.length
 fit:∀x∈o.shards,zlj x
 dd:o.dead.l.length<=1000
 ord:∀i∈o.order,0<=i/\i<s.lock.cells.length
 nd:o.order.Nodup
 ol:o.order.length<=3
 ca:o.carry.length<=1000
 ed:o.edits.length<=1
theorem zTO{u:Setup}{N:Int}{s:Section}{o:zb1}(hs:SI u N s)(hp:s.phase=4)(ho:OI s o):
    (zeK s o).2=0/\SI u N (zeK s o).1/\zdv s (zeK s o).1/\(zeK s o).1.out=o:=by
 obtain⟨q1,q2,q3⟩:=hs.ph.p4 hp;have hsl:=ho.sh;have hel:=ho.ed;have hkc:=hs.lw.c1;unfold zeK;rw[zabn (fun q=>q hp),zabn (show ¬(o.shards.length≠s.shards.length\/1<o.edits.length) by omega)];rw[zabn (show ¬zkO s.lock.cells.length o.order=false by
  unfold zkO;rw[zabM (show (∀i∈o.order,0<=i/\i<(s.lock.cells.length:Int))/\o.order.Nodup from ⟨ho.ord,ho.nd⟩)];simp)]
 have hs2:∀ph at_,PhI (kOf u.slots s.lock.cells) s.lock.cells.length { s with out:=o,phase:=ph,at_:=at_ }->SI u N { s with out:=o,phase:=ph,at_:=at_ }:=by
  intro ph at_ h;exact { hs with os:=ho.fit,od:=ho.dd,oo:=⟨ho.ord,ho.ol⟩,oc:=⟨ho.ca,hs.oc.2⟩,ph:=h }
 by_cases c1:0<o.order.length
 ·rw[zabo c1];refine⟨rfl,?_,⟨rfl,rfl⟩,rfl⟩;refine hs2 5 0 ?_;constructor<;>simp only<;>intro h<;>first|omega|exact⟨q1,q2,q3,by omega,by omega,by omega⟩
 rw[zabn c1]
 by_cases c2:0<o.edits.length
 ·rw[zabo c2];refine⟨rfl,?_,⟨rfl,rfl⟩,rfl⟩;refine hs2 6 0 ?_;constructor<;>simp only<;>intro h<;>first|omega|exact⟨q1,q2,q3,by omega,by omega,by omega,by omega⟩
 rw[zabn c2];unfold zcn
 by_cases c3:0<s.stripes.length
 ·rw[zabo c3];refine⟨rfl,?_,⟨rfl,rfl⟩,rfl⟩;refine hs2 7 0 ?_;constructor<;>simp only<;>intro h<;>first|omega|exact⟨q1,q2,q3,by omega,by omega,by omega⟩
 ·rw[zabn c3];obtain⟨w1,w2⟩:=zsN hs.lw q1;have hf:(zcb s.lock).2=0/\(zcb s.lock).1.phase=4:=by unfold zcb;rw[zabo q1];exact⟨rfl,rfl⟩
  unfold zcG;simp only;rw[zabn (fun q=>q hf.1)];refine⟨rfl,?_,⟨w2,rfl⟩,rfl⟩;refine { hs with lw:=w1,cr:=by simp only[z5];rw[w2];exact hs.cr,ca:=by simp only[z5];rw[w2];exact hs.ca,os:=ho.fit,od:=ho.dd,oo:=by simp only[z5];rw[w2];exact⟨ho.ord,ho.ol⟩,oc:=⟨ho.ca,hs.oc.2⟩,ph:= ?_ };simp only[z5];rw[w2];constructor<;>simp only<;>intro h<;>first|omega|exact⟨hf.2,q3,by omega⟩
theorem z8H{u:Setup}{N:Int}{cells:List Int}{lim:Int}(hc:zga cells u.slots)(hn:u.slots<=6)(h1:1<=cells.length)(hl:1<=lim/\lim<=8)(hN:0<=N):
    (zdl cells lim).2=0/\SI u N (zdl cells lim).1/\(zdl cells lim).1.lock.cells=cells/\(zdl cells lim).1.limit=lim/\(zdl cells lim).1.phase=0/\(zdl cells lim).1.out.edits=[]:=by
 unfold zdl;rw[zZb hc hn h1,zabn (fun q=>q rfl),zabn zo];have h3:=hc.l;refine⟨rfl,?_,rfl,rfl,rfl,rfl⟩;constructor
 ·constructor<;>simp only<;>omega
 ·exact hc.b
 ·exact hc.p
 ·intro x h;cases h
 ·simp [zbe,zaH]
 ·exact hl
 ·simp [zbe,zeB]
 ·simp [zbe,zcF]
 ·intro x h;cases h
 ·simp [zbe,zfB,zaH]
 ·exact⟨fun x h=>(by cases h),by simp [zbe,zfB]⟩
 ·exact⟨by simp [zbe,zfB],by simp [zbe]⟩
 ·constructor<;>intro h
  ·exact⟨by simp only;omega,rfl,rfl,rfl⟩
  all_goals exact absurd h (by simp [zbe])
theorem zHO(s:Section):(zcG s).1.out=s.out:=by
 unfold zcG z5
 split<;>rfl
theorem zRa(a:zy)(s:Section):(zcn a s).2.1.out=s.out:=by
 unfold zcn z5
 split
 ·rfl
 ·exact zHO s
theorem z8L{a:zy}{s:Section}{k n:Int}(e:(zct a s k n).2.2=0):(zct a s k n).2.1.out=s.out:=by
 unfold zct at e ⊢
 by_cases c:(zfs a s k n).2.2≠0
 ·rw[zabo c] at e;exact absurd e c
 rw[zabn c];clear c e;unfold zfs
 split
 ·unfold zhg z5
  split
  ·simp only;split<;>rfl
  ·rfl
 split
 ·unfold zfr z5
  split
  ·rfl
  split
  ·rfl
  simp only
  split<;>rfl
 split
 ·unfold zfq z5;simp only
  split
  ·split<;>rfl
  ·split<;>rfl
 split
 ·unfold zih z5;simp only
  split<;>rfl
 split
 ·unfold zft z5;simp only;generalize (if zcv s (s.out.order.getD s.at_.toNat 0)=(a.slots.length:Int) then stDead a k s.out.dead else stSlot a (zcv s (s.out.order.getD s.at_.toNat 0)) k (s.out.shards.getD (s.out.order.getD s.at_.toNat 0).toNat zJ))=r
  split
  ·rfl
  split
  ·rfl
  split
  ·rfl
  exact zRa _ _
 split
 ·unfold zfp
  split
  ·rfl
  simp only
  split
  ·rfl
  split
  ·rfl
  split
  ·rfl
  exact zRa _ _
 split
 ·unfold zfu;simp only;generalize ziF (s.stripes.getD s.at_.toNat zb0) (if zjl s s.at_=true then s.out.shards.getD s.at_.toNat zJ else s.shards.getD s.at_.toNat zJ) s.snap.epoch s.limit=x
  split
  ·rfl
  split
  ·rfl
  split
  ·exact zHO _
  ·rfl
 split
 ·unfold zhf z5
  split<;>rfl
 ·rfl
theorem zms{u:Setup}{a:zy}{t:Task}{n N:Int}(ha:AI u a)(hs:SI u N t.sec)(hed:t.sec.out.edits.length<=1)(e:(goT a t n).2.2.2.2=0):
    AI u (goT a t n).1/\∃s,(goT a t n).2.1={ t with sec:=s }/\SI u (N+1) s/\zdv t.sec s/\s.out=t.sec.out/\((goT a t n).2.2.1=true↔s.phase=4)/\((goT a t n).2.2.2.1=true↔s.phase=9):=by
 unfold goT at e ⊢
 by_cases c:(zct a t.sec t.number n).2.2≠0
 ·rw[zabo c] at e;exact absurd e c
 rw[zabn c];have c:=zabG.1 c;obtain⟨h1,h2,h3⟩:=z8K ha hs hed c;exact⟨h1,_,rfl,h2,h3,z8L c,decide_eq_true_iff,decide_eq_true_iff⟩
theorem zaam:∀(l:List Span) (n m r:Int),zdb n l=some m->n<=r->r<m->∃x∈l,inS r x=true:=by
 intro l
 induction l with
 | nil=>intro n m r h h1 h2;simp only[zdb,Option.some.injEq] at h;omega
 | cons x l ih=>
  intro n m r h h1 h2;unfold zdb at h
  split at h
  ·rename_i c
   by_cases hr:r<=x.high
   ·exact⟨x,.head _,by unfold inS;rw[zabM (show x.low<=r by omega),zabM hr];rfl⟩
   ·obtain⟨y,hy,hy2⟩:=ih _ _ r h zo h2;exact⟨y,.tail _ hy,hy2⟩
  ·cases h
theorem zTT{d:zabk}(h:zbl d=0):∀x∈d.l,0<=x.shard/\x.shard<d.forward.length:=by
 unfold zbl at h
 split at h
 ·cases h
 split at h
 ·cases h
 split at h
 ·cases h
 rename_i c;intro x hx;have:=zacC.1 (zadY.2 c) x hx;unfold zhZ at this;rw[zacj,decide_eq_true_eq,decide_eq_true_eq] at this;omega
theorem zMS{d:zabk}(h:zbl d=0){r:Int}(h0:0<=r)(h1:r<65536):0<=zem d r/\zem d r<d.forward.length:=by
 unfold zem;rw[zabo h];obtain⟨x,hx,hx2⟩:=zaam d.l 0 65536 r (zvb h) h0 h1
 cases hf:d.l.findIdx? (inS r) with
 | none=>
  rw[zadv] at hf;have:=hf x hx;rw[hx2] at this
  cases this
 | some i=>
  have hi:=(zact.1 hf).1;simp only;rw[zh hi];exact zTT h _ (zabC hi)
theorem zXK{d:zabk}(hf:∀a∈d.forward, -1<=a/\a<d.forward.length):∀(m:Nat) (a:Int), -1<=a->a<d.forward.length-> -1<=zgl d m a/\zgl d m a<d.forward.length:=by
 intro m
 induction m with
 | zero=>intro a h0 h1;exact⟨h0,h1⟩
 | succ m ih=>
  intro a h0 h1;unfold zgl
  split
  ·rename_i c;have hi:a.toNat<d.forward.length:=by omega
   rw[zh hi];have:=hf _ (zabC hi);exact ih _ this.1 this.2
  ·exact⟨h0,h1⟩
theorem zLG{d:zabk}(h:zbl d=0)(a:Int):0<=zcZ d a/\zcZ d a<d.forward.length:=by
 have hl:=zjZ h;have hw:=(zHV h ⟨hl.2.1,by have:=zfN h;omega⟩).1;have ho:=zMS h (r:=0) zo zo;unfold zcZ
 split
 ·rename_i c;refine⟨c,?_⟩;unfold zki at c ⊢
  split at c
  ·omega
  ·rename_i c2;rw[zabn c2];exact (zXK hw _ a zo zo).2
 ·exact ho
theorem zWc{s:zt}(h:zaK s):zlj s:=⟨by have:=h.1;omega,by have:=h.2.1;omega,by have:=h.2.2;omega⟩
theorem zbT{s:zt}(h:zY s=0):zaK s:=by
 have h1:zaE s.ready=0:=by
  have q:=h;unfold zY at q
  split at q
  ·rename_i c;exact absurd q c
  ·rename_i c;exact zabG.1 c
 have h2:zao s.leases=0:=by
  have q:=h;unfold zY at q;rw[zabn (fun c=>c h1)] at q
  split at q
  ·rename_i c;exact absurd q c
  ·rename_i c;exact zabG.1 c
 exact⟨(zcC h1).2.1,zjn h2⟩
theorem zfH{s:zt}(q:zaK s):za4 s:=⟨by have:=q.1;omega,by have:=q.2.1;omega,by have:=q.2.2;omega⟩
theorem zbS:zaK zJ:=⟨by simp [zJ],by simp [zJ],by simp [zJ]⟩
theorem ztw(r:zah)(id:Int):(rmD r id).1.cells.length<=r.cells.length:=by
 unfold rmD
 split
 ·simp only;rw[zic];exact zabR _
 ·simp [zay]
theorem zBF(r:zah)(m:zj):(pbD r m).1.cells.length<=r.cells.length:=by
 unfold pbD
 split
 ·simp only;rw[zic];exact zabR _
 ·simp [zay]
theorem z7L(ep:Int):∀(l:List zj) (r:zah),(rmP ep l r).cells.length<=r.cells.length:=by
 intro l
 induction l with
 | nil=>intro r;exact zabR _
 | cons m l ih=>
  intro r;unfold rmP
  split
  ·exact zaca (ih _) (ztw _ _)
  ·exact ih _
theorem zQl(t:zN)(id:Int):(zaf t id).1.l.length<=12/\(zaf t id).1.heap.length<=12:=by
 by_cases h:(zaf t id).2.2=0
 ·exact zjn (zCE h).1
 ·have:zaf t id=(zal,zaa,zeX t id):=by
     unfold zaf at h ⊢
     split at h
     ·exact absurd rfl h
     ·rename_i hc;rw[zabn hc]
  rw[this];exact⟨by simp [zal],by simp [zal]⟩
theorem z7p(ep:Int):∀(l:List zG) (t:zN),t.l.length<=12/\t.heap.length<=12->(zfn ep l t).l.length<=12/\(zfn ep l t).heap.length<=12:=by
 intro l
 induction l with
 | nil=>intro t h;exact h
 | cons y l ih=>
  intro t h;unfold zfn
  split
  ·exact ih _ (zQl _ _)
  ·exact ih _ h
theorem zYy{s:zt}(h:zaK s)(ep:Int):zaK (zhw s ep).1:=by
 unfold zhw
 split
 ·exact zbS
 split
 ·exact zbS
 obtain⟨h1,h2,h3⟩:=h;have:=z7p ep s.leases.l s.leases ⟨h2,h3⟩;exact⟨zaca (z7L _ _ _) h1,this.1,this.2⟩
theorem zYz{s:zt}(h:zaK s)(k:Int):zaK (zfM s k).1:=by
 unfold zfM
 split
 ·exact zbS
 split
 ·exact zbS
 obtain⟨h1,h2,h3⟩:=h;refine⟨?_,h2,h3⟩;show (zeL s.ready k).1.cells.length<=12;unfold zeL
 split
 ·simp [zay]
 split
 ·simp [zay]
 simp only;rw[zic];exact h1
theorem zsk{s:zt}(h:zaK s)(m:zj):zaK (zcB s m).1:=by
 obtain⟨h1,h2,h3⟩:=h;unfold zcB
 repeat' split
 all_goals first|exact zbS|exact⟨zaca (zBF _ _) h1,h2,h3⟩
theorem zYw(lo hi:Int):∀(l:List zj) (s:zt),zaK s->zaK (zeG lo hi l s).1:=by
 intro l
 induction l with
 | nil=>intro s h;exact h
 | cons m l ih=>
  intro s h;unfold zeG
  split
  ·exact zbS
  ·exact ih _ (zsk h _)
theorem zAy{s:zt}(h:zaK s)(l:List zj):zaK (zgc s l).1:=by
 unfold zgc
 split
 ·exact zbS
 split
 ·exact zbS
 exact zYw _ _ _ _ h
theorem zDN(k ep lim:Int):∀(l:List zj) (r:zah) (out:List zj),(zd4 k ep lim l r out).1.cells.length<=r.cells.length/\(zd4 k ep lim l r out).2.length<=out.length+l.length:=by
 intro l
 induction l with
 | nil=>intro r out;exact⟨zabR _,zabR _⟩
 | cons m l ih=>
  intro r out;unfold zd4
  split
  ·exact⟨zabR _,by simp only;omega⟩
  split
  ·have:=ih (rmD r m.id).1 (out++[m]);have q:=ztw r m.id;simp only[zabv,zabu,zabw] at this ⊢;omega
  ·have:=ih r out;simp only[zabu];omega
theorem zYx{s:zt}(h:zaK s)(k ep lim:Int):zaK (zfI s k ep lim).1:=by
 unfold zfI
 split
 ·exact zbS
 split
 ·exact zbS
 obtain⟨h1,h2,h3⟩:=h;exact⟨zaca (zDN _ _ _ _ _ _).1 h1,h2,h3⟩
theorem zVQ(lo hi:Int):∀(l:List zj) (r:zah),(zbA lo hi l r).cells.length<=r.cells.length:=by
 intro l
 induction l with
 | nil=>intro r;exact zabR _
 | cons m l ih=>
  intro r;unfold zbA
  split
  ·exact zaca (ih _) (zBF _ _)
  ·exact ih _
theorem zHy(lo hi:Int):∀(l:List zG) (t:zN),t.l.length<=12/\t.heap.length<=12->(zd7 lo hi l t).l.length<=12/\(zd7 lo hi l t).heap.length<=12:=by
 intro l
 induction l with
 | nil=>intro t h;exact h
 | cons y l ih=>
  intro t h;unfold zd7
  split
  ·exact ih _ (zXG _ _ _)
  ·exact ih _ h
theorem zAz{s:zt}(h:zaK s)(l:List zj)(y:List zG):zaK (zgg s l y):=by
 obtain⟨h1,h2,h3⟩:=h;have:=zHy s.low s.high y s.leases ⟨h2,h3⟩;exact⟨zaca (zVQ _ _ _ _) h1,this.1,this.2⟩
theorem zsj(n lo hi:Int):zaK (zb5 n lo hi).1:=by
 unfold zb5
 split
 ·exact zbS
 split
 ·exact zbS
 refine⟨?_,by simp [zal],by simp [zal]⟩;simp only[zacp];omega
theorem zYA(n:Int):zaK (zfX n).1:=by
 unfold zfX
 split
 ·exact zbS
 refine⟨?_,by simp [zal],by simp [zal]⟩;simp only[zacp];omega
theorem zsi(s:zt)(mid:Int):zaK (zdA s mid).1/\zaK (zdA s mid).2.1:=by
 unfold zdA
 split
 ·exact⟨zbS,zbS⟩
 split
 ·exact⟨zbS,zbS⟩
 exact⟨zAz (zsj _ _ _) _ _,zAz (zsj _ _ _) _ _⟩
theorem zYB{a:zt}(h:zaK a)(b:zt):zaK (zil a b).1:=by
 unfold zil
 split
 ·exact zbS
 split
 ·exact zbS
 split
 ·exact zbS
 split
 ·exact zbS
 split
 ·exact zbS
 exact zAz (s:={ a with low:=if a.low<b.low then a.low else b.low,high:=if a.high<b.high then b.high else a.high }) h _ _
theorem zLU(s:zt)(now ep lim:Int):zaK (zcw s now ep lim).1:=by
 by_cases c:(zcw s now ep lim).2.2=0
 ·exact zbT (zTe c).1
 ·have e:(zcw s now ep lim).1=zJ:=by
     unfold zcw at c ⊢
     split
     ·rfl
     ·rename_i c1;rw[zabn c1] at c
      split
      ·rename_i c2;rw[zabo c2] at c;exact absurd rfl c
      ·rfl
  rw[e];exact zbS
theorem zmc{x:zt}(h:zaK x):zlj x:=zWc h
theorem zLR{n c:Int}(h:c<n):kOf n [c]=1:=by simp [kOf,h]
theorem zsg{n a b:Int}(h1:a<n)(h2:b<n):kOf n [a,b]=2:=by simp [kOf,h1,h2]
theorem zsh{n c:Int}(h:c<n):kOf n [c,n]=1:=by simp [kOf,h]
theorem SI.un{u:Setup}{N:Int}{s:Section}(hs:SI u N s):OI s (z8 s):=by
 have hd:=hs.dv;constructor
 ·rfl
 ·intro x hx;exact zmc (zbT (hs.sv x hx).1)
 ·simp only[z8];omega
 ·intro i hi;cases hi
 ·exact zad7
 ·simp [z8]
 ·simp [z8]
 ·simp [z8]
theorem SI.one{u:Setup}{N:Int}{s:Section}(hs:SI u N s)(hk:s.shards.length=1){x:zt}(hx:zaK x):OI s { z8 s with shards:=[x],order:=[0] }:=by
 have hd:=hs.dv;have hc:=hs.lw.c1;constructor
 ·simp only[zabu,zabw];omega
 ·intro y hy;rw[zab1.1 hy];exact zmc hx
 ·simp only[z8];omega
 ·intro i hi;rw[zab1.1 hi];omega
 ·simp
 ·simp
 ·simp [z8]
 ·simp [z8]
theorem SI.two {u:Setup} {N:Int} {s:Section} (hs:SI u N s) (hk:s.shards.length=2) (hn:s.lock.cells.length=2) {x y:zt} (hx:zaK x) (hy:zaK y) {ord:List Int} (ho:ord=[0,1]\/ord=[1,0]) {l:List zt} (hl:l=[x,y]\/l=[y,x])
    {ca:List zj} (hc:ca.length<=1000) {ed:List Edit} (he:ed.length<=1):OI s ⟨l,s.dead,ord,ca,ed⟩:=by
 have hd:=hs.dv;constructor
 ·rcases hl with h|h<;>rw[h,hk]<;>rfl
 ·intro z hz
  rcases hl with h|h<;>rw[h] at hz<;>simp only[zab4,zadi,zacP] at hz<;>rcases hz with h|h<;>rw[h]<;>first|exact zmc hx|exact zmc hy
 ·simp only;omega
 ·intro i hi;rw[hn]
  rcases ho with h|h<;>rw[h] at hi<;>simp only[zab4,zadi,zacP] at hi<;>omega
 ·rcases ho with h|h<;>rw[h]<;>simp
 ·rcases ho with h|h<;>rw[h]<;>simp
 ·exact hc
 ·exact he
theorem SI.dead {u:Setup} {N:Int} {s:Section} (hs:SI u N s) (hk:s.shards.length=1) (hn:s.lock.cells.length=2) {x:zt} (hx:zaK x) {d:za7} (hd:d.l.length<=1000) {ord:List Int} (ho:ord=[0,1]\/ord=[1,0])
    {ca:List zj} (hc:ca.length<=1000):OI s ⟨[x],d,ord,ca,[]⟩:=by
 constructor
 ·rw[hk];rfl
 ·intro z hz;rw[zab1.1 hz];exact zmc hx
 ·exact hd
 ·intro i hi;rw[hn]
  rcases ho with h|h<;>rw[h] at hi<;>simp only[zab4,zadi,zacP] at hi<;>omega
 ·rcases ho with h|h<;>rw[h]<;>simp
 ·rcases ho with h|h<;>rw[h]<;>simp
 ·exact hc
 ·simp
theorem zk8{u:Setup}{N:Int}{t:Task}(hs:SI u N t.sec):zaK (sh0 t):=by
 unfold sh0
 cases h:t.sec.shards with
 | nil=>exact zbS
 | cons x l=>exact zbT (hs.sv x (by rw[h];exact .head _)).1
theorem ztB{u:Setup}{N:Int}{t:Task}(hs:SI u N t.sec)(i:Nat):zaK (t.sec.shards.getD i zJ):=by
 by_cases h:i<t.sec.shards.length
 ·rw[zh h];exact zbT (hs.sv _ (zabC h)).1
 ·rw[zab0,zadl zo];exact zbS
theorem zLW(s:zt)(mx now vis ep lim:Int):zaK (zcD s mx now vis ep lim).1:=by
 by_cases c:(zcD s mx now vis ep lim).2.2=0
 ·exact zbT (zTg c).1
 ·have e:(zcD s mx now vis ep lim).1=zJ:=by
     unfold zcD at c ⊢
     split
     ·rfl
     ·rename_i c1;rw[zabn c1] at c
      split
      ·rfl
      ·rename_i c2;rw[zabn c2] at c;exact (zaao mx (now+vis) ep lim (zD s.ready) s [] c).1
  rw[e];exact zbS
theorem zLV{t:Task}(h:(zdo t).2=0):zaK (zdo t).1:=by
 unfold zdo at h ⊢
 split
 ·rename_i c;rw[zabo c] at h;exact zbT (zTc h).1
 ·rename_i c;rw[zabn c] at h
  split
  ·rename_i c2;rw[zabo c2] at h;exact zbT (zTf h).1
  ·rename_i c2;rw[zabn c2] at h;exact zbT (zTd h).1
def zim(u:Setup)(N:Int)(s s':Section):Prop:=SI u N s'/\zdv s s'/\s'.out.edits.length<=1
theorem zcW{u:Setup}{N:Int}{t:Task}{o:zb1}(hs:SI u N t.sec)(hp:t.sec.phase=4)(ho:OI t.sec o):zim u N t.sec (za5 t o).sec:=by
 obtain⟨_,h2,h3,h4⟩:=zTO hs hp ho;exact⟨h2,h3,by show (zeK t.sec o).1.out.edits.length<=1;rw[h4];exact ho.ed⟩
theorem z8P(K:Tok){u:Setup}{N:Int}{t:Task}(hs:SI u N t.sec)(hp:t.sec.phase=4)(hk:t.sec.shards.length=1):zim u N t.sec (zdm K t).1.sec:=by
 have h0:=zk8 hs;unfold zdm;simp only
 split
 ·exact zcW (t:={ t with loaded:=0 }) hs hp hs.un
 split
 ·split
  ·exact zcW (t:={ t with loaded:=0,walk:=(zfz t.walk (sh0 t).low (sh0 t).high).1 }) hs hp hs.un
  ·exact zcW (t:={ t with loaded:=2,walk:=(zfz t.walk (sh0 t).low (sh0 t).high).1 }) hs hp hs.un
 ·exact zcW (t:={ t with loaded:=1 }) hs hp (hs.one hk (zsk h0 _))
theorem z6Y{u:Setup}{N:Int}{t:Task}(hs:SI u N t.sec)(hp:t.sec.phase=4)(hk:t.sec.shards.length=1):zim u N t.sec (zdj t).1.sec:=by
 unfold zdj;simp only
 split
 ·exact zcW (t:={ t with loaded:=0 }) hs hp hs.un
 split
 ·exact zcW (t:={ t with loaded:=3 }) hs hp hs.un
 have hx:∀r:zt×List Int×List zG,zaK r.1->OI t.sec (if 0<r.2.1.length\/0<r.2.2.length then { z8 t.sec with shards:=[r.1],order:=[0] } else z8 t.sec):=by
  intro r hr
  split
  ·exact hs.one hk hr
  ·exact hs.un
 have ho:=hx (zda { t with loaded:=0 }) (zLW _ _ _ _ _ _)
 split
 ·exact zcW (t:={ t with loaded:=1,walk:=_ }) hs hp ho
 split
 ·exact zcW (t:={ t with loaded:=2,walk:=_ }) hs hp ho
 ·exact zcW (t:={ t with loaded:=0,walk:=_ }) hs hp ho
theorem z83{u:Setup}{N:Int}{t:Task}(hs:SI u N t.sec)(hp:t.sec.phase=4)(hk:t.sec.shards.length=1):zim u N t.sec (zdn t).1.sec:=by
 unfold zdn;simp only
 split
 ·exact zcW hs hp hs.un
 ·by_cases c:(zdo t).2=0
  ·simp only[c,if_true];exact zcW hs hp (hs.one hk (zLV c))
  ·simp only[c,if_false];exact zcW hs hp hs.un
theorem zgp{s:zt}(h:zab s=0):zY s=0:=by
 unfold zab at h
 split at h
 ·rename_i c;exact absurd h c
 ·rename_i c;exact zabG.1 c
theorem zha{s:zt}(h:zY s=0):(zD s.ready).length<=12:=by
 have h1:zaE s.ready=0:=by
  unfold zY at h
  split at h
  ·rename_i c;exact absurd h c
  ·rename_i c;exact zabG.1 c
 obtain⟨q1,q2,q3,q4,q5,q6⟩:=zcC h1;rw[zg9];omega
theorem zBo{s:zt}(h:zY s=0):(zaP s).length<=24:=by
 have h1:=zha h;have h2:=(zbT h).2.1;unfold zaP;simp only[zabv,zabE];omega
theorem zGP(s:zt)(k:Int):(zfM s k).2.1.length<=12:=by
 unfold zfM
 split
 ·simp
 split
 ·simp
 rename_i c _;have:=zha (zgp (zabG.1 c));show (zeL s.ready k).2.1.length<=12;unfold zeL
 split
 ·simp
 split
 ·simp
 simp only[zadA];omega
theorem z4P(r:zah)(m:zj):(pbD r m).1.size.toNat<=r.size.toNat+1:=by
 unfold pbD
 split
 ·simp only[rg,zabv,zg9,zabu,zabw];omega
 ·simp [zay]
theorem zVR(lo hi:Int):∀(l:List zj) (r:zah),(zbA lo hi l r).size.toNat<=r.size.toNat+l.length:=by
 intro l
 induction l with
 | nil=>intro r;exact zabR _
 | cons m l ih=>
  intro r;unfold zbA;simp only[zabu]
  split
  ·have:=ih (pbD r m).1;have:=z4P r m;omega
  ·have:=ih r;omega
theorem zT2(s:zt)(mid:Int):(zaP (zdA s mid).2.1).length<=24:=by
 have hl:=(zsi s mid).2.2.1;have:(zD (zdA s mid).2.1.ready).length<=12:=by
  rw[zg9];unfold zdA
  split
  ·simp [zJ]
  split
  ·simp [zJ]
  rename_i c _;have h1:=zha (zgp (zabG.1 c));have h2:=zVR (zb5 s.ready.cells.length (mid+1) s.high).1.low (zb5 s.ready.cells.length (mid+1) s.high).1.high (zD s.ready) (zb5 s.ready.cells.length (mid+1) s.high).1.ready;have h3:(zb5 s.ready.cells.length (mid+1) s.high).1.ready.size=0:=by
   unfold zb5
   split
   ·rfl
   split
   ·rfl
   rfl
  rw[h3] at h2;simp only[zgg];simp only[Int.toNat_zero] at h2;omega
 unfold zaP;simp only[zabv,zabE];omega
theorem zQL(k ep:Int):∀(l rest out:List zj),(zdU k ep l rest out).1.length+(zdU k ep l rest out).2.length=l.length+rest.length+out.length:=by
 intro l
 induction l with
 | nil=>intro rest out;simp [zdU]
 | cons m l ih=>
  intro rest out;unfold zdU
  split
  ·rw[ih];simp only[zabv,zabu,zabw];omega
  ·rw[ih];simp only[zabv,zabu,zabw];omega
theorem zQW(d:za7)(k ep:Int):(zhm d k ep).1.l.length<=d.l.length/\(zhm d k ep).2.1.length<=d.l.length:=by
 have:=zQL k ep d.l [] [];simp only[zabw] at this;unfold zhm
 split
 ·simp [zaH]
 split
 ·simp [zaH]
 simp only;omega
theorem zS0(d:za7)(ep:Int):(zhv d ep).1.l.length<=d.l.length:=by
 unfold zhv
 split
 ·simp [zaH]
 split
 ·simp [zaH]
 exact zacF _ _
theorem z5u(d:za7)(l:List zj):(zi9 d l).1.l.length<=d.l.length+l.length:=by
 unfold zi9
 split
 ·simp [zaH]
 split
 ·simp [zaH]
 split
 ·simp [zaH]
 simp only[zabv];omega
theorem zDO(s:zt)(k ep lim:Int):(zfI s k ep lim).2.1.length<=12:=by
 unfold zfI
 split
 ·simp
 split
 ·simp
 rename_i c _;have h1:=zha (zgp (zabG.1 c));have h2:=(zDN k ep lim (zD s.ready) s.ready []).2;simp only[zabw] at h2 ⊢;omega
theorem z66{u:Setup}{N:Int}{t:Task}(hs:SI u N t.sec)(hp:t.sec.phase=4)(hk:t.sec.shards.length=1)(hn:t.sec.lock.cells.length=2):zim u N t.sec (zdk t).1.sec:=by
 have hd:=hs.dv;have h0:=zk8 hs;unfold zdk;simp only
 split
 ·exact zcW hs hp hs.un
 split
 ·exact zcW hs hp hs.un
 split
 ·exact zcW hs hp hs.un
 ·have:=zQW t.sec.dead (zf9 t) t.sec.snap.epoch;exact zcW hs hp (hs.dead hk hn (zAy h0 _) zo (.inr rfl) (by rw[zabE];omega))
theorem zBH(t:Task)(x y:zt):zdM t x y=[x,y]\/zdM t x y=[y,x]:=by
 unfold zdM
 split
 ·exact .inl rfl
 ·exact .inr rfl
theorem zBA(t:Task):zcL t=[0,1]\/zcL t=[1,0]:=by
 unfold zcL
 split
 ·exact .inl rfl
 ·exact .inr rfl
theorem zHR{u:Setup}{N:Int}{t:Task}(hs:SI u N t.sec):zaK (zV t):=by
 unfold zV
 split
 ·exact ztB hs 0
 ·exact ztB hs 1
theorem zC9{u:Setup}{N:Int}{t:Task}(hs:SI u N t.sec):zaK (zaN t):=by
 unfold zaN
 split
 ·exact ztB hs 1
 ·exact ztB hs 0
theorem zQO{u:Setup}{N:Int}{t:Task}(hs:SI u N t.sec)(hk:t.sec.shards.length=2)(hn:t.sec.lock.cells.length=2):OI t.sec (zey t).1:=by
 unfold zey;simp only
 split
 ·exact hs.un
 split
 ·exact hs.un
 ·exact hs.two hk hn (zYz (zHR hs) _) (zAy (zC9 hs) _) (zBA t) (zBH _ _ _) (by have:=zGP (zV t) (zhY (((zV t).ready.size+1).tdiv 2) ((zaN t).ready.cells.length - zbb (zaN t)));omega) (by simp [z8])
theorem zQM{u:Setup}{N:Int}{t:Task}(hs:SI u N t.sec)(hk:t.sec.shards.length=2)(hn:t.sec.lock.cells.length=2):OI t.sec (zew t).1:=by
 unfold zew;simp only
 split
 ·exact hs.un
 ·have h:=zsi (zV t) (((zV t).low+(zV t).high).tdiv 2);have h2:=zT2 (zV t) (((zV t).low+(zV t).high).tdiv 2);exact hs.two hk hn h.1 h.2 (zBA t) (zBH _ _ _) zo (by simp)
theorem zMo{u:Setup}{N:Int}{t:Task}(hs:SI u N t.sec)(hk:t.sec.shards.length=2)(hn:t.sec.lock.cells.length=2):OI t.sec (zek t).1:=by
 unfold zek;simp only
 split
 ·exact hs.un
 ·rename_i c;have hv:zY (zV t)=0:=by
   have c:=zabG.1 c;unfold zil at c
   split at c
   ·rename_i c1;exact absurd c c1
   split at c
   ·rename_i c2;exact absurd c c2
   ·rename_i c2;exact zabG.1 c2
  have:=zBo hv;exact hs.two hk hn (zYA _) (zYB (zC9 hs) _) (zBA t) (zBH _ _ _) zo (by simp)
theorem zQT{u:Setup}{N:Int}{t:Task}(hs:SI u N t.sec)(hk:t.sec.shards.length<=1):OI t.sec (zdW t).1:=by
 have hd:=hs.dv;have hc:=hs.lw.c1;unfold zdW;simp only
 split
 ·rename_i c
  split
  ·have:=zS0 t.sec.dead t.sec.snap.epoch;have hu:=hs.un;refine { hu with dd:=by simp only;omega,ord:= ?_,nd:=by simp,ol:=by simp };intro i hi;rw[zab1.1 hi];omega
  ·exact hs.un
 rename_i c;have hk1:t.sec.shards.length=1:=by omega
 split
 ·exact hs.un
 split
 ·split
  ·exact hs.one hk1 (zYy (zk8 hs) _)
  ·exact hs.un
 ·split
  ·exact hs.un
  ·exact hs.one hk1 (zLU _ _ _ _)
theorem zDP{u:Setup}{N:Int}{t:Task}(hs:SI u N t.sec)(hk:t.sec.shards.length=1)(hn:t.sec.lock.cells.length=2):OI t.sec (zdx t).1:=by
 have hd:=hs.dv;unfold zdx;simp only
 split
 ·exact hs.un
 split
 ·exact hs.un
 ·have h1:=zDO (sh0 t) (zgu t.sec.dead) t.sec.snap.epoch t.setup.limit;have h2:=z5u t.sec.dead (zfI (sh0 t) (zgu t.sec.dead) t.sec.snap.epoch t.setup.limit).2.1;exact hs.dead hk hn (zYx (zk8 hs) _ _ _) zo (.inl rfl) zo
def onP(k pc:Int):Prop:=pc≠0/\(k=1/\pc≠1/\pc≠2\/k=2/\pc≠2\/3<=k/\k<=5/\pc≠1\/8<=k)
structure zbd(u:Setup)(N:Int)(i:zaeE)(s:Section):Prop where
 si:SI u N s
 ed:s.out.edits.length<=1
 c1:1<=i.kind/\i.kind<=5->∃c,0<=c/\c<u.slots/\s.lock.cells=[c]
 c8:i.kind=8->∃c,0<=c/\c<u.slots/\s.lock.cells=[c,u.slots]
 c9:9<=i.kind/\i.kind<=11->s.lock.cells=zeo i.from_ i.to
 c12:12<=i.kind/\i.kind<=13->s.lock.cells=[i.from_]
 c14:i.kind=14->s.lock.cells=[i.from_,u.slots]
theorem zbd.keep{u:Setup}{N M:Int}{i:zaeE}{s s':Section}(h:zbd u N i s)(h1:SI u M s')(h2:zdv s s')(h3:s'.out.edits.length<=1):zbd u M i s':=by
 have e:=h2.cells;exact⟨h1,h3,by rw[e];exact h.c1,by rw[e];exact h.c8,by rw[e];exact h.c9,by rw[e];exact h.c12,by rw[e];exact h.c14⟩
theorem zbd.mono{u:Setup}{N M:Int}{i:zaeE}{s:Section}(h:zbd u N i s)(hn:N<=M):zbd u M i s:=h.keep (h.si.mono hn) ⟨rfl,rfl⟩ h.ed
theorem zbd.dec{u:Setup}{N:Int}{i:zaeE}{s s':Section}(h:zbd u N i s)(d:zim u N s s'):zbd u N i s':=h.keep d.1 d.2.1 d.2.2
structure TI(u:Setup)(N:Int)(t:Task):Prop where
 nm:1<=t.number/\t.number<=200
 iv:zbM t.inv u=0
 su:t.setup=u
 e0:0<=t.entry
 e1:t.done=false->t.entry<zcX t.inv
 e2:(t.results.length:Int)=t.entry
 wk:0<=t.walk.next/\t.walk.next<65536/\0<=t.walk.covered/\t.walk.covered<=131072
 ld:0<=t.loaded/\t.loaded<=1073741824
 id:0<=t.id/\t.id<=1073741824+N
 hd:0<=t.handle.route/\t.handle.route<65536
 fs:(t.first.length:Int)<=u.slots/\(t.second.length:Int)<=u.slots
 di:t.dir.l.length<=65536/\t.dir.forward.length<=6
 nn:0<=N
 se:onP t.inv.kind t.pc->zbd u N t.inv t.sec
theorem TI.mono{u:Setup}{N M:Int}{t:Task}(h:TI u N t)(hn:N<=M):TI u M t:={ h with id:=⟨h.id.1,by have:=h.id.2;omega⟩,nn:=by have:=h.nn;omega,se:=fun q=>(h.se q).mono hn }
theorem zny{u:Setup}(h:za3 u=true):(1<=u.slots/\u.slots<=6)/\1<=u.limit/\u.limit<=8:=by
 unfold za3 inI at h;simp only[zabH,decide_eq_true_eq] at h;omega
theorem zkl{i:zaeE}{s:Setup}(h:zbM i s=0)(hk:9<=i.kind/\i.kind<=11):(0<=i.from_/\i.from_<s.slots)/\(0<=i.to/\i.to<s.slots)/\i.from_≠i.to:=by
 unfold zbM at h;rw[zabn zo,zabn zo,zabn zo,zabo hk] at h
 split at h
 ·cases h
 ·rename_i c;unfold inI at c;simp only[decide_eq_false_iff_not] at c;omega
theorem zkk{i:zaeE}{s:Setup}(h:zbM i s=0)(hk:i.kind=12\/i.kind=14):0<=i.from_/\i.from_<s.slots:=by
 unfold zbM at h;rw[zabn zo,zabn zo,zabn zo,zabn zo,zabo hk] at h
 split at h
 ·cases h
 ·rename_i c;unfold inI at c;simp only[decide_eq_false_iff_not] at c;omega
theorem zLN{i:zaeE}{s:Setup}(h:zbM i s=0)(hk:i.kind=13):0<=i.from_/\i.from_<=s.slots:=by
 unfold zbM at h;rw[zabn zo,zabn zo,zabn zo,zabn zo,zabn zo,zabo hk] at h
 split at h
 ·cases h
 ·omega
theorem zLO{i:zaeE}{s:Setup}(h:zbM i s=0):1<=i.kind/\i.kind<=14:=by
 unfold zbM at h
 by_cases c:1<=i.kind/\i.kind<=14
 ·exact c
 ·rw[zabn zo,zabn zo,zabn zo,zabn zo,zabn zo,zabn zo,zabn zo] at h
  cases h
theorem zeV{u:Setup}{N:Int}{t:Task}(h:TI u N t)(hd:t.done=false)(r:Result)(n:Int):TI u N (zba t r n):=by
 have h1:=h.e1 hd;have h0:=h.e0;have hf:=h.fs;have hn:=h.nn;unfold zba;refine { nm:=h.nm,iv:=h.iv,su:=h.su,e0:=by simp only;omega,e1:= ?_,e2:= ?_,wk:=by simp [zE],ld:=by simp [zE],id:=⟨by simp [zE],by simp only[zE];omega⟩,hd:=by simp [zE],fs:=⟨by simp only[zE,zabw];omega,by simp only[zE,zabw];omega⟩,di:=by simp [zE],nn:=hn,se:=fun q=>absurd rfl q.1 }
 ·simp only;intro q
  split at q
  ·cases q
  ·omega
 ·simp only[zabv,zabu,zabw];have:=h.e2;omega
theorem zua{c n:Int}(h:0<=c/\c<=n):zga [c] n:=⟨List.pairwise_singleton _ _,fun x hx=>by rw[zab1.1 hx];exact h,by simp⟩
theorem zlY{c d n:Int}(h0:0<=c)(h1:c<d)(h2:d<=n):zga [c,d] n:=
 ⟨by simpa using h1,fun x hx=>by simp only[zab4,zadi,zacP] at hx;rcases hx with h|h<;>omega,by simp⟩
theorem zqD{a b n:Int}(h0:0<=a/\a<n)(h1:0<=b/\b<n)(h2:a≠b):zga (zeo a b) n:=by
 unfold zeo
 split
 ·exact zlY zo zo zo
 ·exact zlY zo zo zo
theorem ztA{u:Setup}{N lim:Int}{cells:List Int}(hq:za3 u=true)(hl:lim=u.limit)(hN:0<=N)(hc:zga cells u.slots)(h1:1<=cells.length):SI u N (zdl cells lim).1/\(zdl cells lim).1.out.edits.length<=1/\(zdl cells lim).1.lock.cells=cells:=by
 have hb:=zny hq;subst hl;obtain⟨_,q2,q3,_,_,q4⟩:=z8H (N:=N) hc hb.1.2 h1 hb.2 hN;exact⟨q2,by rw[q4];simp,q3⟩
theorem zeQ{t:Task}{lo hi:Int}(h:zan t lo hi=0):t.done=false/\lo<=t.inv.kind/\t.inv.kind<=hi:=by
 unfold zan at h
 split at h
 ·cases h
 ·rename_i c
  split at h
  ·cases h
  ·exact⟨zadY.2 c,by omega,by omega⟩
theorem zkJ{k pc:Int}(h:6<=k/\k<=7):¬onP k pc:=by
 intro q;unfold onP at q;omega
theorem z5n{u:Setup}{a:zy}{t:Task}{n N:Int}(ha:AI u a)(ht:TI u N t)(e:(zci a t n).2.2.2=0):AI u (zci a t n).1/\TI u (N+1) (zci a t n).2.1:=by
 have ht:=ht.mono (show N<=N+1 by omega);have hep:=ha.ep;unfold zci at e ⊢
 by_cases c:zan t 6 6=0
 ·rw[zabn (fun q=>q c)] at e ⊢;obtain⟨g1,g2⟩:=zeQ c
  by_cases c1:t.pc=0
  ·rw[zabo c1];have hl:TI u (N+1) { t with loaded:=a.epoch }:={ ht with ld:=⟨hep.1,by simp only;omega⟩ }
   split
   ·exact⟨ha,zeV hl g1 _ _⟩
   ·exact⟨ha,{ hl with se:=fun q=>absurd q (zkJ (by simp only;omega)) }⟩
  ·rw[zabn c1] at e ⊢;simp only at e ⊢;have hc:=ha.casWord 1 t.loaded (t.loaded+1);generalize casWord a 1 t.loaded (t.loaded+1)=r at *
   by_cases c2:r.2.2=0
   ·rw[zabn (fun q=>q c2)] at e ⊢
    split
    ·exact⟨hc c2,{ ht with se:=fun q=>absurd q (zkJ (by simp only;omega)) }⟩
    ·exact⟨hc c2,zeV ht g1 _ _⟩
   ·rw[zabo c2] at e;exact absurd e c2
 ·rw[zabo c] at e;exact absurd e c
theorem zL2{u:Setup}{a:zy}(ha:AI u a){i:Int}(h:(zed a i).2=0):0<=i/\i<u.slots:=by
 unfold zed at h
 split at h
 ·rename_i c;have:=ztE.1 c;have:=ha.sl;omega
 ·cases h
theorem zTl{u:Setup}{a:zy}{t:Task}{n N:Int}(ha:AI u a)(ht:TI u N t)(hn:0<=n/\n<=N+1)(e:(zdy a t n).2.2.2=0):AI u (zdy a t n).1/\TI u (N+1) (zdy a t n).2.1:=by
 have ht:=ht.mono (show N<=N+1 by omega);have hep:=ha.ep;have hfs:=ht.fs;have hid:=ht.id;unfold zdy at e ⊢
 by_cases c:zan t 7 7=0
 ·rw[zabn (fun q=>q c)] at e ⊢;obtain⟨g1,g2⟩:=zeQ c
  by_cases c1:t.pc=0
  ·rw[zabo c1];exact⟨ha,{ ht with ld:=⟨hep.1,by simp only;omega⟩,fs:=⟨by simp only[zabw];omega,by simp only[zabw];omega⟩,se:=fun q=>absurd q (zkJ (by simp only;omega)) }⟩
  rw[zabn c1] at e ⊢
  by_cases c2:t.pc=1
  ·rw[zabo c2] at e ⊢;simp only at e ⊢;have hl:=zL2 ha (i:=t.first.length);generalize zed a t.first.length=r at *
   by_cases c3:r.2=0
   ·rw[zabn (fun q=>q c3)];have:=hl c3;exact⟨ha,{ ht with fs:=⟨by simp only[zabv,zabu,zabw];omega,hfs.2⟩,se:=fun q=>absurd q (zkJ (by simp only;omega)) }⟩
   ·rw[zabo c3] at e;exact absurd e c3
  rw[zabn c2] at e ⊢
  by_cases c4:t.pc=2
  ·rw[zabo c4] at e ⊢;simp only at e ⊢;have hl:=zL2 ha (i:=t.second.length);generalize zed a t.second.length=r at *
   by_cases c3:r.2=0
   ·rw[zabn (fun q=>q c3)];have:=hl c3;exact⟨ha,{ ht with id:=by simp only;split<;>omega,fs:=⟨hfs.1,by simp only[zabv,zabu,zabw];omega⟩,se:=fun q=>absurd q (zkJ (by simp only;omega)) }⟩
   ·rw[zabo c3] at e;exact absurd e c3
  rw[zabn c4] at e ⊢
  split
  ·exact⟨ha,{ ht with se:=fun q=>absurd q (zkJ (by simp only;omega)) }⟩
  ·exact⟨ha,zeV ht g1 _ _⟩
 ·rw[zabo c] at e;exact absurd e c
theorem zkh{u:Setup}{a:zy}{t:Task}{n N:Int}(ha:AI u a)(hs:zbd u N t.inv t.sec)(e:(goT a t n).2.2.2.2=0):
    AI u (goT a t n).1/\∃s,(goT a t n).2.1={ t with sec:=s }/\zbd u (N+1) t.inv s/\((goT a t n).2.2.1=true↔s.phase=4):=by
 obtain⟨h1,s,h2,h3,h4,h5,h6,_⟩:=zms ha hs.si hs.ed e;exact⟨h1,s,h2,hs.keep h3 h4 (by rw[h5];exact hs.ed),h6⟩
theorem TI.sec{u:Setup}{N:Int}{t:Task}{s:Section}(ht:TI u N t)(hs:zbd u N t.inv s):TI u N { t with sec:=s }:={ ht with se:=fun _=>hs }
theorem zAw{u:Setup}{N:Int}{i:zaeE}{s:Section}(h:zbd u N i s)(hk:1<=i.kind/\i.kind<=5)(hp:s.phase=4):s.shards.length=1:=by
 obtain⟨c,c0,c1,c2⟩:=h.c1 hk;have:=(h.si.ph.p4 hp).2.2;rw[this,c2,zLR c1]
theorem zAx{u:Setup}{N:Int}{i:zaeE}{s:Section}(h:zbd u N i s)(hk:9<=i.kind/\i.kind<=11)(hv:zbM i u=0)(hp:s.phase=4):s.shards.length=2/\s.lock.cells.length=2:=by
 have c:=h.c9 hk;have:=(h.si.ph.p4 hp).2.2;obtain⟨v1,v2,v3⟩:=zkl hv hk;rw[this,c];unfold zeo
 split
 ·exact⟨zsg v1.2 v2.2,rfl⟩
 ·exact⟨zsg v2.2 v1.2,rfl⟩
theorem zYs{u:Setup}{N:Int}{i:zaeE}{s:Section}(h:zbd u N i s)(hk:i.kind=8)(hp:s.phase=4):s.shards.length=1/\s.lock.cells.length=2:=by
 obtain⟨c,c0,c1,c2⟩:=h.c8 hk;have:=(h.si.ph.p4 hp).2.2;rw[this,c2];exact⟨zsh c1,rfl⟩
theorem zYq{u:Setup}{N:Int}{i:zaeE}{s:Section}(h:zbd u N i s)(hk:i.kind=14)(hv:zbM i u=0)(hp:s.phase=4):s.shards.length=1/\s.lock.cells.length=2:=by
 have c:=h.c14 hk;have:=(h.si.ph.p4 hp).2.2;have v:=zkk hv (.inr hk);rw[this,c];exact⟨zsh v.2,rfl⟩
theorem zYp{u:Setup}{N:Int}{i:zaeE}{s:Section}(h:zbd u N i s)(hk:12<=i.kind/\i.kind<=13)(hp:s.phase=4):s.shards.length<=1:=by
 have c:=h.c12 hk;have:=(h.si.ph.p4 hp).2.2;have q:=zmC u.slots s.lock.cells;rw[c] at q this;simp only[zabu,zabw] at q;omega
theorem zm5 {u:Setup} {a:zy} {t:Task} {n N lo hi:Int} {plan:Task->Pln} {cells:Task->List Int} (hu:za3 u=true) (ha:AI u a) (ht:TI u N t) (hlo:9<=lo)
    (hc:∀t,TI u N t->lo<=t.inv.kind/\t.inv.kind<=hi->zga (cells t) u.slots/\1<=(cells t).length/\∀s,SI u N s->s.out.edits.length<=1->s.lock.cells=cells t->zbd u N t.inv s)
    (ho:∀t,TI u (N+1) t->lo<=t.inv.kind/\t.inv.kind<=hi->zbd u (N+1) t.inv t.sec->t.sec.phase=4->OI t.sec (plan t).1)
    (e:(zbf plan lo hi cells a t n).2.2.2=0):AI u (zbf plan lo hi cells a t n).1/\TI u (N+1) (zbf plan lo hi cells a t n).2.1:=by
 unfold zbf at e ⊢
 by_cases c:zan t lo hi=0
 ·rw[zabn (fun q=>q c)] at e ⊢;obtain⟨g1,g2⟩:=zeQ c;simp only at e ⊢;have key:∀t':Task,t'=(if t.pc=0 then zb8 t (cells t) 1 else t)->t'.done=false/\t'.inv=t.inv/\TI u N t'/\zbd u N t'.inv t'.sec:=by
   intro t' h
   by_cases c1:t.pc=0
   ·rw[zabo c1] at h;subst h;obtain⟨a1,a2,a3⟩:=hc t ht g2;obtain⟨s1,s2,s3⟩:=ztA (N:=N) hu (show t.setup.limit=u.limit by rw[ht.su]) ht.nn a1 a2;have hS:=a3 _ s1 s2 s3;exact⟨g1,rfl,{ ht with se:=fun _=>hS },hS⟩
   ·rw[zabn c1] at h;subst h;exact⟨g1,rfl,ht,ht.se ⟨c1,by omega⟩⟩
  generalize (if t.pc=0 then zb8 t (cells t) 1 else t)=t' at *;obtain⟨k1,k2,k3,k4⟩:=key t' rfl;have hg:=zkh (n:=n) ha k4;generalize goT a t' n=g at *
  by_cases c2:g.2.2.2.2=0
  ·rw[zabn (fun q=>q c2)];obtain⟨h1,s,h2,h3,h4⟩:=hg c2;have k5:=(k3.mono (show N<=N+1 by omega)).sec h3;rw[<- h2] at k5;have hd:g.2.1.done=false:=by rw[h2];exact k1
   have hi2:g.2.1.inv=t'.inv:=by rw[h2]
   have hsc:g.2.1.sec=s:=by rw[h2]
   split
   ·rename_i c3;refine⟨h1,?_⟩;have hS:zbd u (N+1) g.2.1.inv g.2.1.sec:=by rw[hi2,hsc];exact h3
    have h4':g.2.1.sec.phase=4:=by rw[hsc];exact h4.1 c3
    have hdec:=zcW (t:=g.2.1) hS.si h4' (ho g.2.1 k5 (by rw[hi2,k2];exact g2) hS h4');exact k5.sec (hS.dec hdec)
   ·split
    ·exact⟨h1,k5⟩
    ·exact⟨h1,zeV k5 hd _ _⟩
  ·rw[zabo c2] at e;exact absurd e c2
 ·rw[zabo c] at e;exact absurd e c
structure zis(K:Tok):Prop where
 route:∀i,0<=K.route i/\K.route i<65536
 par:∀b,(K.par b).2=0->(0<=(K.par b).1.route/\(K.par b).1.route<65536)/\0<=(K.par b).1.hint
theorem z9H{u:Setup}{a:zy}{t:Task}{n N:Int}(hu:za3 u=true)(ha:AI u a)(ht:TI u N t)(e:(zbf zey 9 9 zbG a t n).2.2.2=0):
    AI u (zbf zey 9 9 zbG a t n).1/\TI u (N+1) (zbf zey 9 9 zbG a t n).2.1:=by
 refine zm5 hu ha ht zo (fun t ht hk=> ?_) (fun t ht hk hS hp=> ?_) e
 ·obtain⟨v1,v2,v3⟩:=zkl ht.iv zo;exact⟨zqD v1 v2 v3,by unfold zbG zeo;split<;>simp,fun s s1 s2 s3=>⟨s1,s2,fun q=>by omega,fun q=>by omega,fun _=>s3,fun q=>by omega,fun q=>by omega⟩⟩
 ·obtain⟨k1,k2⟩:=zAx hS zo ht.iv hp;exact zQO hS.si k1 k2
theorem z9v{u:Setup}{a:zy}{t:Task}{n N:Int}(hu:za3 u=true)(ha:AI u a)(ht:TI u N t)(e:(zbf zew 10 10 zbG a t n).2.2.2=0):
    AI u (zbf zew 10 10 zbG a t n).1/\TI u (N+1) (zbf zew 10 10 zbG a t n).2.1:=by
 refine zm5 hu ha ht zo (fun t ht hk=> ?_) (fun t ht hk hS hp=> ?_) e
 ·obtain⟨v1,v2,v3⟩:=zkl ht.iv zo;exact⟨zqD v1 v2 v3,by unfold zbG zeo;split<;>simp,fun s s1 s2 s3=>⟨s1,s2,fun q=>by omega,fun q=>by omega,fun _=>s3,fun q=>by omega,fun q=>by omega⟩⟩
 ·obtain⟨k1,k2⟩:=zAx hS zo ht.iv hp;exact zQM hS.si k1 k2
theorem zZK{u:Setup}{a:zy}{t:Task}{n N:Int}(hu:za3 u=true)(ha:AI u a)(ht:TI u N t)(e:(zbf zek 11 11 zbG a t n).2.2.2=0):
    AI u (zbf zek 11 11 zbG a t n).1/\TI u (N+1) (zbf zek 11 11 zbG a t n).2.1:=by
 refine zm5 hu ha ht zo (fun t ht hk=> ?_) (fun t ht hk hS hp=> ?_) e
 ·obtain⟨v1,v2,v3⟩:=zkl ht.iv zo;exact⟨zqD v1 v2 v3,by unfold zbG zeo;split<;>simp,fun s s1 s2 s3=>⟨s1,s2,fun q=>by omega,fun q=>by omega,fun _=>s3,fun q=>by omega,fun q=>by omega⟩⟩
 ·obtain⟨k1,k2⟩:=zAx hS zo ht.iv hp;exact zMo hS.si k1 k2
theorem z90{u:Setup}{a:zy}{t:Task}{n N:Int}(hu:za3 u=true)(ha:AI u a)(ht:TI u N t)(e:(zbf zdW 12 13 (fun t=>[t.inv.from_]) a t n).2.2.2=0):
    AI u (zbf zdW 12 13 (fun t=>[t.inv.from_]) a t n).1/\TI u (N+1) (zbf zdW 12 13 (fun t=>[t.inv.from_]) a t n).2.1:=by
 refine zm5 hu ha ht zo (fun t ht hk=> ?_) (fun t ht hk hS hp=> ?_) e
 ·have v:0<=t.inv.from_/\t.inv.from_<=u.slots:=by
     by_cases h:t.inv.kind=12
     ·have:=zkk ht.iv (.inl h);omega
     ·exact zLN ht.iv zo
  exact⟨zua v,by simp,fun s s1 s2 s3=>⟨s1,s2,fun q=>by omega,fun q=>by omega,fun q=>by omega,fun _=>s3,fun q=>by omega⟩⟩
 ·exact zQT hS.si (zYp hS zo hp)
theorem zSy{u:Setup}{a:zy}{t:Task}{n N:Int}(hu:za3 u=true)(ha:AI u a)(ht:TI u N t)(e:(zbf zdx 14 14 (fun t=>[t.inv.from_,t.setup.slots]) a t n).2.2.2=0):
    AI u (zbf zdx 14 14 (fun t=>[t.inv.from_,t.setup.slots]) a t n).1/\TI u (N+1) (zbf zdx 14 14 (fun t=>[t.inv.from_,t.setup.slots]) a t n).2.1:=by
 refine zm5 hu ha ht zo (fun t ht hk=> ?_) (fun t ht hk hS hp=> ?_) e
 ·have v:=zkk ht.iv (.inr zo);rw[ht.su];exact⟨zlY v.1 v.2 zo,by simp,fun s s1 s2 s3=>⟨s1,s2,fun q=>by omega,fun q=>by omega,fun q=>by omega,fun q=>by omega,fun _=>s3⟩⟩
 ·obtain⟨k1,k2⟩:=zYq hS zo ht.iv hp;exact zDP hS.si k1 k2
theorem z69{u:Setup}{a:zy}{t:Task}{n N:Int}(hu:za3 u=true)(ha:AI u a)(ht:TI u N t)(e:(zdO a t n).2.2.2=0):AI u (zdO a t n).1/\TI u (N+1) (zdO a t n).2.1:=by
 unfold zdO at e ⊢
 by_cases c:zan t 8 8=0
 ·rw[zabn (fun q=>q c)] at e ⊢;obtain⟨g1,g2⟩:=zeQ c
  by_cases c1:t.pc=0
  ·rw[zabo c1];have hh:=zLG ha.dv t.inv.home;rw[ha.df] at hh;have hsl:=ha.sl;have ht:=ht.mono (show N<=N+1 by omega);obtain⟨s1,s2,s3⟩:=ztA (N:=N+1) (lim:=t.setup.limit) (cells:=[zcZ a.dir t.inv.home,t.setup.slots]) hu (by rw[ht.su]) ht.nn (by rw[ht.su];exact zlY hh.1 zo zo) (by simp);refine⟨ha,{ ht with di:=⟨zfN ha.dv,(zjZ ha.dv).2.1⟩,se:=fun _=>⟨s1,s2,fun q=> ?_,fun _=>⟨zcZ a.dir t.inv.home,hh.1,by omega,?_⟩,fun q=> ?_,fun q=> ?_,fun q=> ?_⟩ }⟩
   ·simp only[zb8] at q;omega
   ·show (zdl _ _).1.lock.cells=_;rw[s3,ht.su]
   ·simp only[zb8] at q;omega
   ·simp only[zb8] at q;omega
   ·simp only[zb8] at q;omega
  rw[zabn c1] at e ⊢;simp only at e ⊢;have k4:=ht.se ⟨c1,by omega⟩;have hg:=zkh (n:=n) ha k4;generalize goT a t n=g at *
  by_cases c2:g.2.2.2.2=0
  ·rw[zabn (fun q=>q c2)];obtain⟨h1,s,h2,h3,h4⟩:=hg c2;have k5:=(ht.mono (show N<=N+1 by omega)).sec h3;rw[<- h2] at k5;have hd:g.2.1.done=false:=by rw[h2];exact g1
   have hi2:g.2.1.inv=t.inv:=by rw[h2]
   have hsc:g.2.1.sec=s:=by rw[h2]
   split
   ·rename_i c3;refine⟨h1,?_⟩;have hS:zbd u (N+1) g.2.1.inv g.2.1.sec:=by rw[hi2,hsc];exact h3
    have h4':g.2.1.sec.phase=4:=by rw[hsc];exact h4.1 c3
    obtain⟨l1,l2⟩:=zYs hS (by rw[hi2];omega) h4';have hdec:=z66 (t:=g.2.1) hS.si h4' l1 l2;have e1:(zdk g.2.1).1={ g.2.1 with sec:=(zdk g.2.1).1.sec }:=by
     unfold zdk;simp only
     split
     ·rfl
     split
     ·rfl
     split<;>rfl
    rw[e1];exact k5.sec (hS.dec hdec)
   ·split
    ·exact⟨h1,k5⟩
    split
    ·exact⟨h1,{ k5 with se:=fun q=>absurd rfl q.1 }⟩
    ·exact⟨h1,zeV k5 hd _ _⟩
  ·rw[zabo c2] at e;exact absurd e c2
 ·rw[zabo c] at e;exact absurd e c
end Go.Proofs.YtcembpbhkcbnhaaGreat
