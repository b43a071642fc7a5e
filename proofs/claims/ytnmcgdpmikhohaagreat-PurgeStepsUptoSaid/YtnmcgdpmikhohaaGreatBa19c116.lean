/-
  The law PurgeSteps.
-/
import Derived.Test.YtnmcgdpmikhohaaGreatB2615e2c
import Derived.Test.YtnmcgdpmikhohaaGreatB36e0da5
import Derived.Test.YtnmcgdpmikhohaaGreatBbf76a49
import Derived.Test.YtnmcgdpmikhohaaGreatB8090f11
import Derived.Test.YtnmcgdpmikhohaaGreatB546fee5
set_option linter.unusedSimpArgs false
set_option linter.unusedVariables false
set_option maxHeartbeats 10000000
set_option maxRecDepth 100000
namespace Go.Proofs.YtnmcgdpmikhohaaGreat
open Go Go.Sim
theorem zSj(x y:Int):zi G zqz [.ref 1000000 0 0,.d (.int .i64 y)] [(1000000,.row [.d (.agg [.int .i64 x])])]=some (.d (.tup []),[(1000000,.row [.d (.int .i64 y)])]):=by
 exact zW zXv
theorem zSi(x:Int):zi G zqy [.ref 1000000 0 0] [(1000000,.row [.d (.int .i64 x)])]=some (.d (.int .i64 x),[(1000000,.row [.d (.int .i64 x)])]):=by
 exact zW zXu
theorem zSh(x y z:Int):zi G zqx [.ref 1000000 0 0,.d (.int .i64 y),.d (.int .i64 z)] [(1000000,.row [.d (.int .i64 x)])]=some (.d (.bool (decide (x=y))),[(1000000,.row [.d (.int .i64 (if x=y then z else x))])]):=by
 by_cases h:x=y
 ·simp only[h,decide_true,if_true];exact zW zIP
 ·simp only[h,decide_false,if_false];exact zW zIP
theorem z4T(a:zy)(old next:Int):zi G znS [.d (zx a),.d (.int .i64 1),.d (.int .i64 old),.d (.int .i64 next)] []=some (.d (.tup [zx (casWord a 1 old next).1,.bool (casWord a 1 old next).2.1,.int .i64 (casWord a 1 old next).2.2]),[]):=by
 have h0:=zRJ next 0 65536
 have hs:=zSj 0;have hl:=zSi;have hc:=zSh;unfold casWord;rw[zabn (by simp)]
 by_cases h2:0<=next/\next<=65536
 ·rw[zabn zo];rw[zabM h2.1,zabM h2.2] at h0;simp only[zgn,if_true]
  by_cases h3:a.epoch=old
  ·rw[zabn zo];subst h3;clear h2;simp only[zx] at *;exact zW zy8
  ·rw[zabo zo];clear h2;simp only[zx] at *;exact zW zy8
 ·rw[zabo (.inl ⟨rfl,h2⟩)];have e:(decide (0<=next)&&decide (next<=65536))=false:=by
   rw[<- zadD];exact zabP h2
  rw[e] at h0;clear h2 e;simp only[zx,zM,zabq,ze6,zT,zC] at *;exact zW zy8
theorem z5i(t:zq):zi G zn6 [.d (zf t)] []=some (.d (.int .i64 (zan t 6 6)),[]):=by
 unfold zan
 cases c:t.done
 ·rw[zabn (by simp)]
  by_cases k:t.inv.kind=6
  ·rw[zabn zo];simp only[zf];exact zW zza
  ·rw[zabo zo];simp only[zf];exact zW zza
 ·rw[zabo rfl];simp only[zf];exact zW zza
theorem z5g(a:zy)(t:zq)(n:Int)(he:0<=t.entry/\t.entry<=1000)(hl:t.results.length<=1000)(hd:0<=t.loaded/\t.loaded<=1073741824)(hpc:t.pc=0\/t.pc=1):zi G zlo [.d (zx a),.d (zf t),.d (.int .i64 n)] []=some (.d (.tup [zx (zci a t n).1,zf (zci a t n).2.1,.sl ((zci a t n).2.2.1.map zaw),.int .i64 (zci a t n).2.2.2]),[]):=by
 have hg:=z5i t;have hw:=z5c a;unfold zci;generalize zan t 6 6=ge at *
 by_cases c0:ge=0
 ·subst c0;simp only[ne_eq,zabD,if_false]
  by_cases c1:t.pc=0
  ·rw[zabo c1];replace c1:=zabA c1
   by_cases c2:a.epoch=65536
   ·rw[zabo c2];have hn1:=zMX { t with loaded:=a.epoch } (zaO 6) n he hl;generalize zba { t with loaded:=a.epoch } (zaO 6) n=t2 at *;have sz_t2:=zQ t2;generalize zf t2=D_t2 at *;replace c2:=zabA c2;simp only[zf,zaO,z7,zac,evT,zbw,zabq,zabs,zaw] at *;exact zW zka
   ·rw[zabn c2];replace c2:=zabt c2;simp only[zf,evT,zbw,zabq,zaw] at *;exact zW zka
  ·rw[zabn c1];have hp1:t.pc=1:=by omega
   have hn1:=zMX t zac n he hl;have hc:=z4T a t.loaded (t.loaded+1);generalize zba t zac n=tn at *;generalize casWord a 1 t.loaded (t.loaded+1)=c at *;clear c1 hpc hw;obtain⟨c1,c2,c3⟩:=c;obtain⟨u1,u2,u3,u4,u5,u6,u7,u8,u9,w1,w2,w3,w4,w5,w6,w7,w8,w9⟩:=t;simp only at *;subst hp1
   by_cases c4:c3=0
   ·subst c4;simp only[ne_eq,zabD,if_false] at *
    cases c2
    ·simp only[if_true] at *;simp only[zf,evT,zbw,zabq,zaw] at *;exact zW zka
    ·simp only[zacf,if_false] at *;have sz_tn:=zQ tn;generalize zf tn=D_tn at *;simp only[zf,z7,zac,evT,zbw,zabq,zabs,zaw] at *;exact zW zka
   ·rw[zabo c4];replace c4:=zabt c4;clear hn1;simp only[zf,zE,zx,zM,zabq,zbg,zfA,zdt,zaJ,zbe,zA,zb2,zd1,zeM,zeB,zU,zfB,zaT,zcF,zbW,zdc,zat,zds,ze6,zT,zaH,zC] at *;exact zW zka
 ·rw[zabo c0];replace c0:=zabt c0;clear hw;simp only[zf,zE,zx,zM,zabq,zbg,zfA,zdt,zaJ,zbe,zA,zb2,zd1,zeM,zeB,zU,zfB,zaT,zcF,zbW,zdc,zat,zds,ze6,zT,zaH,zC] at *;exact zW zka
theorem zag1:zi G zae7 [.d (.sl []),.d (.sl [])] []=some (.d (.bool true),[]):=by
 have zk0:= @zaC;have zk1:=zagv.eq_1;exact zW zahs
theorem zag2:zi G zae8 [.d (.sl []),.d (.sl [])] []=some (.d (.bool true),[]):=by
 have zk0:= @zaC;have zk1:=zagw.eq_1;exact zW zaht
theorem zah7:zi G zaeF [.d (.sl []),.d (.sl [])] []=some (.d (.bool true),[]):=by
 have zk0:= @zaC;have zk1:=zafd.eq_1;exact zW zafb
theorem zah8:zi G zaeG [.d (.sl []),.d (.sl [])] []=some (.d (.bool true),[]):=by
 have zk0:= @zaC;have zk1:=zafS.eq_1;exact zW zagj
theorem zah9(e i a b m:Int):zi G zaeG [.d (.sl [.agg [.int .i64 e,.int .i64 i,.sl [],.sl [],.int .i64 a,.int .i64 b,.int .i64 m]]),.d (.sl [.agg [.int .i64 e,.int .i64 i,.sl [],.sl [],.int .i64 a,.int .i64 b,.int .i64 m]])] []=some (.d (.bool true),[]):=by
 have h1:=zag1;have h2:=zag2;have zk0:= @zaC;have zk1:=zafS.eq_1;exact zW zagj
theorem zah6(k h m v f t:Int):zi G zaeQ [.d (.agg [.int .i64 k,.int .i64 h,.int .i64 m,.int .i64 v,.int .i64 f,.int .i64 t,.sl [],.sl []]),.d (.agg [.int .i64 k,.int .i64 h,.int .i64 m,.int .i64 v,.int .i64 f,.int .i64 t,.sl [],.sl []])] []=some (.d (.bool true),[]):=by
 have h1:=zag1;have h2:=zag2;exact zW zahr
theorem zag0(t:zq)(h1:t.inv.bodies=[])(h2:t.inv.tokens=[])(h3:t.sec.carry=[])(h4:t.results=[]\/∃r:Result,t.results=[r]/\r.tokens=[]/\r.bodies=[]):zi G zafa [.d (zf t),.d (zf t)] []=some (.d (.bool true),[]):=by
 have i1:=zah6;have i2:=zah7;have i3:=zah8;have i4:=zah9;simp only[zf,h1,h2,h3,zabq];clear h1 h2 h3
 rcases h4 with h4|⟨r,h4,h5,h6⟩
 ·rw[h4];clear h4;simp only[zabq];exact zW zagl
 ·rw[h4];simp only[zabs,zabq,z7,h5,h6];clear h4 h5 h6;exact zW zagl
theorem zagY:zi G zaeR [.d (.sl []),.d (.sl [])] []=some (.d (.bool true),[]):=by
 have zk0:= @zaC;have zk1:=zafT.eq_1;exact zW zagk
theorem zah5(a b c d e f g h i:Int):zi G zae9 [.d (.agg [.int .i64 a,.int .i64 b,.int .i64 c,.int .i64 d,.int .i64 e,.int .i64 f,.int .i64 g,.sl [],.int .i64 h,.int .i64 i]),.d (.agg [.int .i64 a,.int .i64 b,.int .i64 c,.int .i64 d,.int .i64 e,.int .i64 f,.int .i64 g,.sl [],.int .i64 h,.int .i64 i])] []=some (.d (.bool true),[]):=by
 have zk0:= @zaC;have zk1:=zagx.eq_1;exact zW zahu
theorem zagZ(v:Event)(h:v.l=[]):zi G zaeR [.d (.sl [zaw v]),.d (.sl [zaw v])] []=some (.d (.bool true),[]):=by
 have h1:=zah5;simp only[zaw,h,zabq];clear h;have zk0:= @zaC;have zk1:=zafT.eq_1;exact zW zagk
def pAgg(a:zy)(T:Go.Sim.AV)(n:Int):Go.Sim.AV:= .agg [.d (.sl (a.slots.map zfU)),.d (.sl (a.stripes.map zax)),.d (.int .i64 a.dead.owner),.d (.int .i64 a.dead.dead.cap),.d (.sl (a.dead.dead.l.map zm)),.d (.int .i64 a.dir.version),.d (.sl (a.dir.l.map zca)),.d (.sl (zC a.dir.forward)),.d (.int .i64 a.epoch),.d (.int .i64 a.clock),.d (.int .i64 a.nextID),T,.d (.int .i64 n)]
theorem zahY(w:World)(l:List Int)(a:Nat)(hl:w.tasks.length<=1000):zi G zaeW [.ref 1000000 0 0,.d (zF w)] [(1000000,zB l a)]=some (.ref 0 0 0,[(1000000,zB l a),(0,.row [pAgg w.arena (.acc 1 (w.tasks.map zf)) w.steps]),(1,.acc w.tasks.length)]):=by
 obtain⟨s,wa,tasks,log,steps,handles⟩:=w;simp only[zF,zx,zB,pAgg] at *;exact zW zahl
theorem zahv(w:World)(l:List Int)(a:Nat):zi G zaeV [.ref 1000000 0 0,.d (.int .i64 6),.d (zF w)] [(1000000,zB l a)]=some (.d (zbg ⟨6,0,0,0,0,0,[],[]⟩),[(1000000,zB l a)]):=by
 obtain⟨s,wa,tasks,log,steps,handles⟩:=w;simp only[zF,zx,zB,zbg,zabq] at *;exact zW zahk
theorem zagg:∀o:List Int,AV.flatL ((o.map (D.int .i64)).map .d)=true
 | []=>rfl
 | x::o=>by
  show (AV.flat (.d (.int .i64 x))&&AV.flatL ((o.map (D.int .i64)).map .d))=true;rw[zagg o];rfl
structure PI(u:Setup)(N:Int)(a:zy)(ts:List zq):Prop where
 hu:za3 u=true
 ar:AI u a
 ti:∀t∈ts,TI u N t
 tk:∀t∈ts,∀b∈t.inv.tokens,b.length<=16
 tl:ts.length<=200
 nn:0<=N/\N<=200000
def rvH(l:List Int)(x:Nat)(a:zy)(ts:List zq)(N:Int):zd:=[(1000000,zB l x),(1000001,.row [pAgg a (.osl 1000002 0 ts.length) N]),(1000002,.row ((ts.map zf).map .d))]
theorem PI.step{u:Setup}{N:Int}{a:zy}{ts:List zq}(h:PI u N a ts)(hN:N<=199999){a':zy}(ha:AI u a'):PI u (N+1) a' ts:=
 { hu:=h.hu,ar:=ha,ti:=fun t ht=>(h.ti t ht).mono zo,tk:=h.tk,tl:=h.tl,nn:=by have:=h.nn;omega }
theorem PI.task{u:Setup}{N:Int}{a:zy}{ts:List zq}(h:PI u N a ts)(hN:N<=199999){i:Nat}(hi:i<ts.length)(e:(zbZ zaB a ts[i] (N+1)).2.2.2=0):PI u (N+1) (zbZ zaB a ts[i] (N+1)).1 (ts.set i (zbZ zaB a ts[i] (N+1)).2.1):=by
 have hn:=h.nn;have hk:=zaab zlh.ok h.hu h.ar (h.ti _ (zabC hi)) (n:=N+1) zo e;have hr:=zQZ ztM a ts[i] (N+1) e;refine { hu:=h.hu,ar:=hk.1,ti:=fun t ht=> ?_,tk:=fun t ht=> ?_,tl:=by rw[zacb];exact h.tl,nn:=by omega }
 ·rcases zmR ht with ht|ht
  ·rw[ht];exact hk.2
  ·exact (h.ti t ht).mono zo
 ·rcases zmR ht with ht|ht
  ·rw[ht,hr.1];exact h.tk _ (zabC hi)
  ·exact h.tk t ht
def zabk(u:Setup)(l:List Int)(N:Int)(n:Nat)(r:Option (Go.Sim.AV×zd)):Prop:=∃(a':zy) (ts':List zq) (x':Nat),PI u (N+1) a' ts'/\ts'.length=n/\r=some (.d (.tup []),rvH l x' a' ts' (N+1))
theorem zah4{u:Setup}{N:Int}{a:zy}{ts:List zq}(h:PI u N a ts)(hN:N<=199999)(h0:ts≠[])(l:List Int)(x:Nat)(hL:l.length<=4000):zfF (zabk u l N ts.length) (zi G zaeP [.ref 1000000 0 0,.ref 1000001 0 0] (rvH l x a ts N)):=by
 have hn:=fun at1 m=>zgr l at1 m hL;have n1:=zbE l x (n:=12) zo;have hnn:=h.nn;obtain⟨x2,q2⟩:∃x2,(za0 l x).2=x2:=⟨_,rfl⟩;have hck:=h.ar.ck;have hep:=h.ar.ep;have hlen:ts.length<=200:=h.tl
 by_cases c10:nD l x 12=10
 ·by_cases ck:a.clock<1073741814
  ·have hi:=zbE l x2 (n:=6) zo;have hp:=h.step hN (a':={ a with clock:=a.clock+nD l x2 6 }) { h.ar with ck:=by simp only;omega };have fin:zfF (zabk u l N ts.length) (some (.d (.tup []),rvH l (za0 l x2).2 { a with clock:=a.clock+nD l x2 6 } ts (N+1))):=⟨_,ts,_,hp,rfl,rfl⟩;clear hp h;simp only[rvH,pAgg,zB] at *;rw[zI zaaY (by simp)];exact zS
  ·have fin:zfF (zabk u l N ts.length) (some (.d (.tup []),rvH l x2 a ts (N+1))):=⟨a,ts,x2,h.step hN h.ar,rfl,rfl⟩;clear h;simp only[rvH,pAgg,zB] at *;rw[zI zaaY (by simp)];exact zS
 by_cases c11:nD l x 12=11
 ·by_cases ce:a.epoch<65536
  ·by_cases c4:nD l x2 4=3
   ·have hp:=h.step hN (a':={ a with epoch:=a.epoch+1 }) { h.ar with ep:=by simp only;omega };have fin:zfF (zabk u l N ts.length) (some (.d (.tup []),rvH l (za0 l x2).2 { a with epoch:=a.epoch+1 } ts (N+1))):=⟨_,ts,_,hp,rfl,rfl⟩;clear hp h;simp only[rvH,pAgg,zB] at *;rw[zI zaaY (by simp)];exact zS
   ·have fin:zfF (zabk u l N ts.length) (some (.d (.tup []),rvH l (za0 l x2).2 a ts (N+1))):=⟨a,ts,_,h.step hN h.ar,rfl,rfl⟩;clear h;simp only[rvH,pAgg,zB] at *;rw[zI zaaY (by simp)];exact zS
  ·have fin:zfF (zabk u l N ts.length) (some (.d (.tup []),rvH l x2 a ts (N+1))):=⟨a,ts,x2,h.step hN h.ar,rfl,rfl⟩;clear h;simp only[rvH,pAgg,zB] at *;rw[zI zaaY (by simp)];exact zS
 have hoN:=zBy { zbc with tasks:=ts } (by simp only;omega);have hoC:=zBx { zbc with tasks:=ts } (by simp only;omega);have hol:=zBz { zbc with tasks:=ts };have hoo:=zMH { zbc with tasks:=ts };simp only at hoN hoC hol hoo;have hat:=fun k hk=>zMK (w:={ zbc with tasks:=ts }) (k:=k) hk;simp only at hat;have hOl:(zbj { zbc with tasks:=ts }).length<=ts.length:=by
  unfold zbj;exact zaca (zacF _ _) (by simp)
 generalize zbj { zbc with tasks:=ts }=O at *;generalize opL ts ts.length=o at *
 rcases o with _|⟨o1,o⟩
 ·have h2:=hoN rfl;have fin:zfF (zabk u l N ts.length) (some (.d (.tup []),rvH l x2 a ts (N+1))):=⟨a,ts,x2,h.step hN h.ar,rfl,rfl⟩;clear h hoN hoC hat hol hoo;simp only[rvH,pAgg,zB,zF,zbc,zdt,zM,zx,zaJ,ze6,zT,zabq,zC] at *;rw[zI zaaY (by simp)];exact zS
 ·have h2:=hoC o1 o rfl;simp only[zabu] at hol;have hob:o.length<=200:=by omega
  have nj:=zbE l x2 (n:=(o.length:Int)+1) zo;obtain⟨j,hj⟩:∃j:Nat,nD l x2 ((o.length:Int)+1)=j:=⟨(nD l x2 ((o.length:Int)+1)).toNat,by omega⟩;have hi:=hat j zo;have hj2:j<o.length+1:=by omega
  have hg2:(AV.d (D.int .i64 o1)::(zC o).map AV.d)[j]? = some (.d (.int .i64 (O.getD j 0:Nat))):=by
   show (((o1::o).map (D.int .i64)).map AV.d)[j]? = _;rw[hoo,zabI,zabI,zabI,zab0,zabx zo];rfl
  generalize O.getD j 0=i at *;have hst:=zaac (n:=N+1) zlh h.hu h.ar (h.ti _ (zabC hi)) zo (fun b hb=>by have:=h.tk _ (zabC hi) b hb;omega);have hpt:=h.task hN hi;have fin0:zfF (zabk u l N ts.length) (some (.d (.tup []),rvH l (za0 l x2).2 a ts (N+1))):=⟨a,ts,_,h.step hN h.ar,rfl,rfl⟩;have fin1:(zbZ zaB a ts[i] (N+1)).2.2.2=0->zfF (zabk u l N ts.length) (some (.d (.tup []),rvH l (za0 l x2).2 (zbZ zaB a ts[i] (N+1)).1 (ts.set i (zbZ zaB a ts[i] (N+1)).2.1) (N+1))):=fun e=>⟨_,_,_,hpt e,zacb,rfl⟩;have hf:=zagg o;clear h hoN hoC hat hpt nj hol hoo hOl;generalize hT:ts[i]=t at *;generalize zbZ zaB a t (N+1)=r at *;obtain⟨a2,t2,ev,e⟩:=r;simp only at hst fin1
  by_cases ce:e=0
  ·subst ce;have fin:=fin1 rfl;clear fin1 fin0;have em:(ts.set i t2).map zf=(ts.map zf).set i (zf t2):=by rw[zacw]
   simp only[rvH,zacb,em] at fin;clear em;have sz_t2:=zQ t2;generalize zf t2=D_t2 at *;simp only[rvH,pAgg,zB,zF,zbc,zdt,zM,zx,zaJ,ze6,zT,zabq,zC] at *;rw[zI zaaY (by simp)];exact zS
  ·replace ce:=zabt ce;clear fin1;have sz_t2:=zQ t2;generalize zf t2=D_t2 at *;simp only[rvH,pAgg,zB,zF,zbc,zdt,zM,zx,zaJ,ze6,zT,zabq,zC] at *;rw[zI zaaY (by simp)];exact zS
def rv0(l:List Int)(x:Nat)(a:zy)(N:Int):zd:=[(1000000,zB l x),(1000001,.row [pAgg a (.xsl []) N])]
def zaeE(u:Setup)(l:List Int)(N:Int)(r:Option (Go.Sim.AV×zd)):Prop:=∃(a':zy) (x':Nat),PI u (N+1) a' []/\r=some (.d (.tup []),rv0 l x' a' (N+1))
theorem zah3{u:Setup}{N:Int}{a:zy}(h:PI u N a [])(hN:N<=199999)(l:List Int)(x:Nat)(hL:l.length<=4000):zfF (zaeE u l N) (zi G zaeP [.ref 1000000 0 0,.ref 1000001 0 0] (rv0 l x a N)):=by
 have hn:=fun at1 m=>zgr l at1 m hL;have n1:=zbE l x (n:=12) zo;have hnn:=h.nn;obtain⟨x2,q2⟩:∃x2,(za0 l x).2=x2:=⟨_,rfl⟩;have hck:=h.ar.ck;have hep:=h.ar.ep
 by_cases c10:nD l x 12=10
 ·by_cases ck:a.clock<1073741814
  ·have hi:=zbE l x2 (n:=6) zo;have hp:=h.step hN (a':={ a with clock:=a.clock+nD l x2 6 }) { h.ar with ck:=by simp only;omega };have fin:zfF (zaeE u l N) (some (.d (.tup []),rv0 l (za0 l x2).2 { a with clock:=a.clock+nD l x2 6 } (N+1))):=⟨_,_,hp,rfl⟩;clear hp h;simp only[rv0,pAgg,zB] at *;rw[zI zaaY (by simp)];exact zS
  ·have fin:zfF (zaeE u l N) (some (.d (.tup []),rv0 l x2 a (N+1))):=⟨a,x2,h.step hN h.ar,rfl⟩;clear h;simp only[rv0,pAgg,zB] at *;rw[zI zaaY (by simp)];exact zS
 by_cases c11:nD l x 12=11
 ·by_cases ce:a.epoch<65536
  ·by_cases c4:nD l x2 4=3
   ·have hp:=h.step hN (a':={ a with epoch:=a.epoch+1 }) { h.ar with ep:=by simp only;omega };have fin:zfF (zaeE u l N) (some (.d (.tup []),rv0 l (za0 l x2).2 { a with epoch:=a.epoch+1 } (N+1))):=⟨_,_,hp,rfl⟩;clear hp h;simp only[rv0,pAgg,zB] at *;rw[zI zaaY (by simp)];exact zS
   ·have fin:zfF (zaeE u l N) (some (.d (.tup []),rv0 l (za0 l x2).2 a (N+1))):=⟨a,_,h.step hN h.ar,rfl⟩;clear h;simp only[rv0,pAgg,zB] at *;rw[zI zaaY (by simp)];exact zS
  ·have fin:zfF (zaeE u l N) (some (.d (.tup []),rv0 l x2 a (N+1))):=⟨a,x2,h.step hN h.ar,rfl⟩;clear h;simp only[rv0,pAgg,zB] at *;rw[zI zaaY (by simp)];exact zS
 have h2:=zBy zbc (by simp [zbc]) rfl;have fin:zfF (zaeE u l N) (some (.d (.tup []),rv0 l x2 a (N+1))):=⟨a,x2,h.step hN h.ar,rfl⟩;clear h;simp only[rv0,pAgg,zB,zF,zbc,zdt,zM,zx,zaJ,ze6,zT,zabq,zC] at *;rw[zI zaaY (by simp)];exact zS
theorem zag5{d:za7}(h:zcm d=0):d.l.length<=24:=by
 unfold zcm at h
 split at h
 ·cases h
 ·rename_i c;omega
theorem zagf{u:Setup}{a:zy}(hu:za3 u=true)(h:AI u a):FitA a:=by
 have hs:=zny hu;have h1:=h.sl;have h2:=h.st;have h3:=zjZ h.dv;have h4:=zag5 h.dd;exact { sl:=by omega,sh:=fun i hi=>zWc (zbT (h.sh _ (zabC hi)).1),st:=by omega,de:=by omega,dl:=by have:=zfN h.dv;omega,df:=by omega }
def MT(t:zq):Prop:=t.inv=⟨6,0,0,0,0,0,[],[]⟩/\t.sec.carry=[]/\(t.done=true\/(t.done=false/\t.entry=0/\t.results=[]/\(t.pc=0\/(t.pc=1/\t.loaded<65536))/\0<=t.loaded/\t.loaded<=65536))
def okR(l:List Result):Prop:=l=[]\/∃r:Result,l=[r]/\r.tokens=[]/\r.bodies=[]
def okV(l:List Event):Prop:=l=[]\/∃v:Event,l=[v]/\v.l=[]
theorem zagz{u:Setup}{a:zy}{t:zq}{n:Int}(ha:AI u a)(h:MT t)(hd:t.done=false):(zci a t n).2.2.2=0/\AI u (zci a t n).1/\MT (zci a t n).2.1/\okR (zci a t n).2.1.results/\okV (zci a t n).2.2.1:=by
 obtain⟨h1,h2,h3⟩:=h
 rcases h3 with h3|⟨_,h4,h5,h6,h7,h8⟩
 ·rw[h3] at hd;cases hd
 have he:=ha.ep;have hg:zan t 6 6=0:=by
  unfold zan;rw[hd,h1];simp
 have hdn:∀t2:zq,t2.inv=t.inv->t2.entry=0->∀r n,(zba t2 r n).done=true:=by
  intro t2 q1 q2 r n;unfold zba zcX;simp [q1,q2,h1]
 unfold zci;rw[zabn (by rw[hg];simp)]
 by_cases c:t.pc=0
 ·rw[zabo c]
  by_cases c2:a.epoch=65536
  ·rw[zabo c2];exact⟨rfl,ha,⟨h1,rfl,.inl (hdn { t with loaded:=a.epoch } rfl h4 _ _)⟩,.inr ⟨zaO 6,by simp [zba,h5],rfl,rfl⟩,.inr ⟨_,rfl,rfl⟩⟩
  ·rw[zabn c2];exact⟨rfl,ha,⟨h1,h2,.inr ⟨hd,h4,h5,.inr ⟨rfl,by simp only;omega⟩,by simp only;omega,by simp only;omega⟩⟩,.inl h5,.inl rfl⟩
 ·rw[zabn c];have hw:=ha.casWord 1 t.loaded (t.loaded+1);have hz:(casWord a 1 t.loaded (t.loaded+1)).2.2=0:=by
   unfold casWord;rw[zabn (by simp),zabn zo]
   split
   ·rfl
   split<;>rfl
  have hw:=hw hz;simp only[hz];generalize casWord a 1 t.loaded (t.loaded+1)=r at *;rw[zabn (by simp)]
  split
  ·exact⟨rfl,hw,⟨h1,h2,.inr ⟨hd,h4,h5,.inl rfl,h7,h8⟩⟩,.inl h5,.inl rfl⟩
  ·exact⟨rfl,hw,⟨h1,rfl,.inl (hdn t rfl h4 _ _)⟩,.inr ⟨zac,by simp [zba,h5],rfl,rfl⟩,.inr ⟨_,rfl,rfl⟩⟩
structure MS where
 k:Nat
 x:Nat
 a:zy
 ts:List zq
 N:Int
 t:zq
def zagy(r:Option (zX×St)):Prop:=∃ts:List zq,r=some (.exit 0,⟨[],[(10053,.row ((ts.map zf).map .d))]⟩)
def mtS1(l:List Int)(p:MS):St:=⟨[(5,.ref 21 0 0),(7,.ref 7 0 0),(9,.ref 9 0 0),(10,.ref 53 0 0),(11,.d (.int .i64 p.k))],[(7,.row [.d (zf p.t)]),(9,.row [.d (zf p.t)]),(21,zB l p.x),(53,.row [pAgg p.a (.osl 10053 0 p.ts.length) p.N]),(10053,.row ((p.ts.map zf).map .d))]⟩
theorem zahB(l:List Int)(hL:l.length<=4000)(u:Setup):∀p:MS,(p.k<=160/\p.N<=102000+p.k/\PI u p.N p.a p.ts/\MT p.t/\p.ts≠[])->zfF zagy (z6 G [] zaa9 (mtS1 l p)):=by
 refine zsO (fun p:MS=>160 - p.k) _ (mtS1 l) (fun _=>zfF zagy) fun⟨k,x,a,ts,N,t⟩ ⟨h1,h2,hp,hm,h0⟩ L ih=> ?_;simp only at h1 h2 hp hm h0;have hn:=fun at1 m=>zgr l at1 m hL;have hmo:=zZP l x hL;have hnn:=hp.nn
 by_cases c:k<160/\t.done=false/\(k<12\/(x:Int)<l.length)
 rotate_left
 ·clear ih hp hm h0;simp only[mtS1,zaa9,pAgg,zB]
  by_cases k1:k<160
  ·cases d:t.done with
   | true=>
    clear hmo c;simp only[zf,d]
    (try simp -implicitDefEqProofs (maxSteps:=4000000) (disch:=omega) only[zh,go_sem, *]);(try simp only[zPr]);repeat' (first|done|rfl|((first|refine zad (fun hq=> ?_) (fun hq=> ?_)|refine zaj (fun hq=> ?_) (fun hq=> ?_))<;>(try (first|(exfalso;omega)|contradiction))<;>(try simp -implicitDefEqProofs (maxSteps:=4000000) (disch:=omega) only[zh,go_sem, *])<;>(try simp only[zPr])));(all_goals try rfl);(all_goals try (repeat' (first|done|rfl|(exfalso;omega)|contradiction|(refine zae (fun hq=> ?_) (fun hq=> ?_)))))
    all_goals exact⟨ts,rfl⟩
   | false=>
    have k2:¬k<12:=fun q=>c ⟨k1,d,.inl q⟩;have k3:¬(x:Int)<l.length:=fun q=>c ⟨k1,d,.inr q⟩;rw[zabP k3] at hmo;clear c k3;simp only[zf,d,zB] at *
    (try simp -implicitDefEqProofs (maxSteps:=4000000) (disch:=omega) only[zh,go_sem, *]);(try simp only[zPr]);repeat' (first|done|rfl|((first|refine zad (fun hq=> ?_) (fun hq=> ?_)|refine zaj (fun hq=> ?_) (fun hq=> ?_))<;>(try (first|(exfalso;omega)|contradiction))<;>(try simp -implicitDefEqProofs (maxSteps:=4000000) (disch:=omega) only[zh,go_sem, *])<;>(try simp only[zPr])));(all_goals try rfl);(all_goals try (repeat' (first|done|rfl|(exfalso;omega)|contradiction|(refine zae (fun hq=> ?_) (fun hq=> ?_)))))
    all_goals exact⟨ts,rfl⟩
  ·clear hmo c;simp only[zf]
   (try simp -implicitDefEqProofs (maxSteps:=4000000) (disch:=omega) only[zh,go_sem, *]);(try simp only[zPr]);repeat' (first|done|rfl|((first|refine zad (fun hq=> ?_) (fun hq=> ?_)|refine zaj (fun hq=> ?_) (fun hq=> ?_))<;>(try (first|(exfalso;omega)|contradiction))<;>(try simp -implicitDefEqProofs (maxSteps:=4000000) (disch:=omega) only[zh,go_sem, *])<;>(try simp only[zPr])));(all_goals try rfl);(all_goals try (repeat' (first|done|rfl|(exfalso;omega)|contradiction|(refine zae (fun hq=> ?_) (fun hq=> ?_)))))
   all_goals exact⟨ts,rfl⟩
 obtain⟨k1,hd,kc⟩:=c;have hmo2:(x:Int)<l.length->zi G znV [.d (.pd (.agg [.sl (zC l),.int .i64 x]))] []=some (.d (.bool true),[]):=fun q=>by rw[zabM q] at hmo;exact hmo
 clear hmo;obtain⟨x2,q2⟩:∃x2,(za0 l x).2=x2:=⟨_,rfl⟩
 by_cases c2:nD l x 3=2
 ·obtain⟨a2,ts2,x3,hp2,hlen,hr⟩:=zah4 hp zo h0 l x2 hL;have i1:=ih ⟨k+1,x3,a2,ts2,N+1,t⟩ ⟨by simp only;omega,by simp only;omega,hp2,hm,fun q=>h0 (zacc.1 (by have q3:ts2=[]:=q;rw[<- hlen,q3];rfl))⟩ (by simp only;omega);simp only[rvH] at hr;rw[hlen] at hr;simp only[mtS1,hlen] at i1;clear hp hp2 hm ih h0 hlen;simp only[mtS1,zaa9,zf,hd,pAgg,zB,rvH,rv0] at *;simp only[zNr,zB] at i1
  by_cases k12:k<12
  ·clear hmo2 kc;exact zS
  ·have hmo:=hmo2 (kc.resolve_left k12);clear hmo2 kc;exact zS
 ·have pk:True:=trivial;obtain⟨m1,m2,m3⟩:=hm;have m4:t.done=false/\t.entry=0/\t.results=[]/\(t.pc=0\/(t.pc=1/\t.loaded<65536))/\0<=t.loaded/\t.loaded<=65536:=by
   rcases m3 with q|q
   ·rw[hd] at q;cases q
   ·exact q
  have hpm:=zagz (n:=N+1) hp.ar ⟨m1,m2,m3⟩ hd;have e1:=z5g a t (N+1) zo (by rw[m4.2.2.1];simp) zo zo;have e2:=z5j a t (N+1) zo (by rw[m4.2.2.1];simp) zo;clear m1 m2 m3 m4;generalize zci a t (N+1)=r at *;obtain⟨a2,t2,ev,e⟩:=r;simp only at hpm e1 e2;obtain⟨rfl,g1,g2,g3,g4⟩:=hpm;have i1:=ih ⟨k+1,x2,a2,ts,N+1,t2⟩ ⟨by simp only;omega,by simp only;omega,hp.step zo g1,g2,h0⟩ (by simp only;omega);have s1:=zag3 a2 a2 (zagf hp.hu g1);have s2:=zag0 t2 (by rw[g2.1]) (by rw[g2.1]) g2.2.1 g3;simp only[decide_true] at s1;clear hp ih g1 g2 g3 h0;simp only[mtS1] at i1;have sz_t2:=zQ t2;generalize zf t2=D_t2 at *
  rcases g4 with rfl|⟨v,rfl,gv⟩
  ·have s3:=zagY;simp only[mtS1,zaa9,zf,zx,hd,pAgg,zB,zabs,zabq] at *;simp only[zNr,zB] at i1
   by_cases k12:k<12
   ·clear hmo2 kc;exact zS
   ·have hmo:=hmo2 (kc.resolve_left k12);clear hmo2 kc;exact zS
  ·have s3:=zagZ v gv;clear gv;simp only[zabs,zabq] at e1 e2;have sz_v:=zagd v;generalize zaw v=D_v at *;simp only[mtS1,zaa9,zf,zx,hd,pAgg,zB,zabs,zabq] at *;simp only[zNr,zB] at i1
   by_cases k12:k<12
   ·clear hmo2 kc;exact zS
   ·have hmo:=hmo2 (kc.resolve_left k12);clear hmo2 kc;exact zS
def mtS0(l:List Int)(p:MS):St:=⟨[(5,.ref 21 0 0),(7,.ref 7 0 0),(9,.ref 9 0 0),(10,.ref 53 0 0),(11,.d (.int .i64 p.k))],[(7,.row [.d (zf p.t)]),(9,.row [.d (zf p.t)]),(21,zB l p.x),(53,.row [pAgg p.a (.xsl []) p.N])]⟩
theorem zahA(l:List Int)(hL:l.length<=4000)(u:Setup):∀p:MS,(p.k<=160/\p.N<=102000+p.k/\PI u p.N p.a p.ts/\MT p.t/\p.ts=[])->z6 G [] zaa9 (mtS0 l p)=some (.exit 0,⟨[],[]⟩):=by
 refine zaL (fun p:MS=>160 - p.k) _ _ _ fun⟨k,x,a,ts,N,t⟩ ⟨h1,h2,hp,hm,h0⟩ L ih=> ?_;simp only at h1 h2 hp hm h0;have hn:=fun at1 m=>zgr l at1 m hL;have hmo:=zZP l x hL;have hnn:=hp.nn
 by_cases c:k<160/\t.done=false/\(k<12\/(x:Int)<l.length)
 rotate_left
 ·clear ih hp hm h0;simp only[mtS0,zaa9,pAgg,zB]
  by_cases k1:k<160
  ·cases d:t.done with
   | true=>
    clear hmo c;simp only[zf,d];exact zS
   | false=>
    have k2:¬k<12:=fun q=>c ⟨k1,d,.inl q⟩;have k3:¬(x:Int)<l.length:=fun q=>c ⟨k1,d,.inr q⟩;rw[zabP k3] at hmo;clear c k3;simp only[zf,d,zB] at *;exact zS
  ·clear hmo c;simp only[zf];exact zS
 obtain⟨k1,hd,kc⟩:=c;have hmo2:(x:Int)<l.length->zi G znV [.d (.pd (.agg [.sl (zC l),.int .i64 x]))] []=some (.d (.bool true),[]):=fun q=>by rw[zabM q] at hmo;exact hmo
 clear hmo;obtain⟨x2,q2⟩:∃x2,(za0 l x).2=x2:=⟨_,rfl⟩
 by_cases c2:nD l x 3=2
 ·subst h0;obtain⟨a2,x3,hp2,hr⟩:=zah3 hp zo l x2 hL;have i1:=ih ⟨k+1,x3,a2,[],N+1,t⟩ ⟨by simp only;omega,by simp only;omega,hp2,hm,rfl⟩ (by simp only;omega);simp only[rv0] at hr;simp only[mtS0] at i1;clear hp hp2 hm ih;simp only[mtS0,zaa9,zf,hd,pAgg,zB,rvH,rv0] at *;simp only[zNr,zB] at i1
  by_cases k12:k<12
  ·clear hmo2 kc;exact zS
  ·have hmo:=hmo2 (kc.resolve_left k12);clear hmo2 kc;exact zS
 ·have pk:True:=trivial;obtain⟨m1,m2,m3⟩:=hm;have m4:t.done=false/\t.entry=0/\t.results=[]/\(t.pc=0\/(t.pc=1/\t.loaded<65536))/\0<=t.loaded/\t.loaded<=65536:=by
   rcases m3 with q|q
   ·rw[hd] at q;cases q
   ·exact q
  have hpm:=zagz (n:=N+1) hp.ar ⟨m1,m2,m3⟩ hd;have e1:=z5g a t (N+1) zo (by rw[m4.2.2.1];simp) zo zo;have e2:=z5j a t (N+1) zo (by rw[m4.2.2.1];simp) zo;clear m1 m2 m3 m4;generalize zci a t (N+1)=r at *;obtain⟨a2,t2,ev,e⟩:=r;simp only at hpm e1 e2;obtain⟨rfl,g1,g2,g3,g4⟩:=hpm;have i1:=ih ⟨k+1,x2,a2,ts,N+1,t2⟩ ⟨by simp only;omega,by simp only;omega,hp.step zo g1,g2,h0⟩ (by simp only;omega);have s1:=zag3 a2 a2 (zagf hp.hu g1);have s2:=zag0 t2 (by rw[g2.1]) (by rw[g2.1]) g2.2.1 g3;simp only[decide_true] at s1;clear hp ih g1 g2 g3;simp only[mtS0] at i1;have sz_t2:=zQ t2;generalize zf t2=D_t2 at *
  rcases g4 with rfl|⟨v,rfl,gv⟩
  ·have s3:=zagY;simp only[mtS0,zaa9,zf,zx,hd,pAgg,zB,zabs,zabq] at *;simp only[zNr,zB] at i1
   by_cases k12:k<12
   ·clear hmo2 kc;exact zS
   ·have hmo:=hmo2 (kc.resolve_left k12);clear hmo2 kc;exact zS
  ·have s3:=zagZ v gv;clear gv;simp only[zabs,zabq] at e1 e2;have sz_v:=zagd v;generalize zaw v=D_v at *;simp only[mtS0,zaa9,zf,zx,hd,pAgg,zB,zabs,zabq] at *;simp only[zNr,zB] at i1
   by_cases k12:k<12
   ·clear hmo2 kc;exact zS
   ·have hmo:=hmo2 (kc.resolve_left k12);clear hmo2 kc;exact zS
theorem zahz(l:List Int)(hL:l.length<=LIM):zi G zaeY [.d (.sl (zC l)),.d (.int .i64 6)] []=some (.d (.bool true),[]):=by
 have hnew:=zZ2 l hL;have hl4:(l.take 4000).length<=4000:=by simp;omega
 obtain⟨w,u,a',hu4,hq,hw⟩:=zaaX (l.take 4000) 0 24 hl4 zo;have hst0:=hq.wi.st;have hst1:=hq.lb.st;have htl:=hq.wi.tl;have hsu:=hq.wi.su;have hu:=hq.wi.hu;have hpi:PI u w.steps w.arena w.tasks:=⟨hu,hq.wi.ar,hq.wi.ts,fun t h=>(hq.tk t h).2,htl,by omega⟩;have hinv:=zahv w (l.take 4000) a';have hpl:=zahY w (l.take 4000) a' zo;have hst:=z9E 199 w.steps (i:=⟨6,0,0,0,0,0,[],[]⟩) (s:=w.setup) (by rw[hsu];exact hu4) (by simp) (by simp);have e1:zex 199 ⟨6,0,0,0,0,0,[],[]⟩ w.setup w.steps=({ zE with number:=199,inv:=⟨6,0,0,0,0,0,[],[]⟩,setup:=w.setup,invoked:=w.steps },0):=by
  unfold zex;rw[zabn zo,hsu,zabn (by rw[hu];decide)];rfl
 rw[e1] at hst;obtain⟨t0,ht0⟩:∃t0:zq,t0={ zE with number:=199,inv:=⟨6,0,0,0,0,0,[],[]⟩,setup:=w.setup,invoked:=w.steps }:=⟨_,rfl⟩;have hmt:MT t0:=by rw[ht0];exact⟨rfl,rfl,.inr ⟨rfl,rfl,rfl,.inl rfl,by show (0:Int)<=0;decide,by show (0:Int)<=65536;decide⟩⟩
 rw[<- ht0] at hst;clear ht0 e1 hq hL;generalize l.take 4000=l4 at *;obtain⟨s,wa,tasks,log,steps,handles⟩:=w;simp only at *;clear hsu hu hu4
 rcases tasks with _|⟨t1,ts⟩
 ·have hlp:=zahA l4 hl4 u ⟨0,a',wa,[],steps,t0⟩ ⟨by simp,by simp only;omega,hpi,hmt,rfl⟩;clear hpi hmt;simp only[mtS0] at hlp;have sz_t0:=zQ t0;generalize zf t0=D_t0 at *;simp only[mtS0,zabQ,zadf,zaJ,zF,zB,pAgg,zbg,zabq,zabw,zx] at *;exact zW zagi
 ·have hlp:=zahB l4 hl4 u ⟨0,a',wa,t1::ts,steps,t0⟩ ⟨by simp,by simp only;omega,hpi,hmt,by simp⟩;clear hpi hmt;obtain⟨R,hR⟩:∃R,R=z6 G [] zaa9 (mtS1 l4 ⟨0,a',wa,t1::ts,steps,t0⟩):=⟨_,rfl⟩;rw[<- hR] at hlp;obtain⟨ts2,hlp⟩:=hlp;rw[hR] at hlp;clear hR;simp only[mtS1] at hlp;have sz_t0:=zQ t0;generalize zf t0=D_t0 at *;simp only[mtS1,zabQ,zadf,zaJ,zF,zB,pAgg,zbg,zabq,zabs,zabu,zx] at *;exact zW zagi
theorem zaim(l:List Int)(hL:l.length<=LIM):zi G zaeX [.d (.sl (zC l))] []=some (.d (.bool true),[]):=by
 have h1:=zahz l hL;have h2:=zSn;exact zW zahm
end Go.Proofs.YtnmcgdpmikhohaaGreat
