/-
  A count among others.
-/
import Derived.Test.YtnmcgdpmikhohaaGreatBc8d43d5
import Derived.Test.YtnmcgdpmikhohaaGreatB19b8ff4
import Derived.Test.YtnmcgdpmikhohaaGreatB13db0db
import Derived.Test.YtnmcgdpmikhohaaGreatB643d10c
import Derived.Test.YtnmcgdpmikhohaaGreatBde55126
set_option linter.unusedSimpArgs false
set_option linter.unusedVariables false
set_option maxHeartbeats 10000000
set_option maxRecDepth 100000
namespace Go.Proofs.YtnmcgdpmikhohaaGreat
open Go Go.Sim
theorem zaiM:zi G zafl [.d (.sl []),.d (.sl [])] []=some (.d (.bool true),[]):=by
 have zk0:= @zaC;have zk1:=zah2.eq_1;exact zW zajx
theorem zaiN:zi G zafm [.d (.sl []),.d (.sl [])] []=some (.d (.bool true),[]):=by
 have zk0:= @zaC;have zk1:=zah3.eq_1;exact zW zajy
theorem zakI:zi G zaeH [.d (.sl []),.d (.sl [])] []=some (.d (.bool true),[]):=by
 have zk0:= @zaC;have zk1:=zafz.eq_1;exact zW zafx
theorem zakJ:zi G zaeI [.d (.sl []),.d (.sl [])] []=some (.d (.bool true),[]):=by
 have zk0:= @zaC;have zk1:=zagK.eq_1;exact zW zahz
theorem zakK(e i a b m:Int):zi G zaeI [.d (.sl [.agg [.int .i64 e,.int .i64 i,.sl [],.sl [],.int .i64 a,.int .i64 b,.int .i64 m]]),.d (.sl [.agg [.int .i64 e,.int .i64 i,.sl [],.sl [],.int .i64 a,.int .i64 b,.int .i64 m]])] []=some (.d (.bool true),[]):=by
 have h1:=zaiM;have h2:=zaiN;have zk0:= @zaC;have zk1:=zagK.eq_1;exact zW zahz
theorem zakH(k h m v f t:Int):zi G zaeT [.d (.agg [.int .i64 k,.int .i64 h,.int .i64 m,.int .i64 v,.int .i64 f,.int .i64 t,.sl [],.sl []]),.d (.agg [.int .i64 k,.int .i64 h,.int .i64 m,.int .i64 v,.int .i64 f,.int .i64 t,.sl [],.sl []])] []=some (.d (.bool true),[]):=by
 have h1:=zaiM;have h2:=zaiN;exact zW zajw
theorem zaiL(t:zq)(h1:t.inv.bodies=[])(h2:t.inv.tokens=[])(h3:t.sec.carry=[])(h4:t.results=[]\/∃r:Result,t.results=[r]/\r.tokens=[]/\r.bodies=[]):zi G zafo [.d (zf t),.d (zf t)] []=some (.d (.bool true),[]):=by
 have i1:=zakH;have i2:=zakI;have i3:=zakJ;have i4:=zakK;simp only[zf,h1,h2,h3,zabq];clear h1 h2 h3
 rcases h4 with h4|⟨r,h4,h5,h6⟩
 ·rw[h4];clear h4;simp only[zabq];exact zW zahB
 ·rw[h4];simp only[zabs,zabq,z7,h5,h6];clear h4 h5 h6;exact zW zahB
theorem zaiJ:zi G zaeU [.d (.sl []),.d (.sl [])] []=some (.d (.bool true),[]):=by
 have zk0:= @zaC;have zk1:=zagL.eq_1;exact zW zahA
theorem zakG(a b c d e f g h i:Int):zi G zafn [.d (.agg [.int .i64 a,.int .i64 b,.int .i64 c,.int .i64 d,.int .i64 e,.int .i64 f,.int .i64 g,.sl [],.int .i64 h,.int .i64 i]),.d (.agg [.int .i64 a,.int .i64 b,.int .i64 c,.int .i64 d,.int .i64 e,.int .i64 f,.int .i64 g,.sl [],.int .i64 h,.int .i64 i])] []=some (.d (.bool true),[]):=by
 have zk0:= @zaC;have zk1:=zah4.eq_1;exact zW zajz
theorem zaiK(v:Event)(h:v.l=[]):zi G zaeU [.d (.sl [zaw v]),.d (.sl [zaw v])] []=some (.d (.bool true),[]):=by
 have h1:=zakG;simp only[zaw,h,zabq];clear h;have zk0:= @zaC;have zk1:=zagL.eq_1;exact zW zahA
def pAgg(a:zy)(T:Go.Sim.AV)(n:Int):Go.Sim.AV:= .agg [.d (.sl (a.slots.map zfU)),.d (.sl (a.stripes.map zax)),.d (.int .i64 a.dead.owner),.d (.int .i64 a.dead.dead.cap),.d (.sl (a.dead.dead.l.map zm)),.d (.int .i64 a.dir.version),.d (.sl (a.dir.l.map zca)),.d (.sl (zC a.dir.forward)),.d (.int .i64 a.epoch),.d (.int .i64 a.clock),.d (.int .i64 a.nextID),T,.d (.int .i64 n)]
theorem zaks(w:World)(l:List Int)(a:Nat)(hl:w.tasks.length<=1000):zi G zae4 [.ref 1000000 0 0,.d (zF w)] [(1000000,zB l a)]=some (.ref 0 0 0,[(1000000,zB l a),(0,.row [pAgg w.arena (.acc 1 (w.tasks.map zf)) w.steps]),(1,.acc w.tasks.length)]):=by
 obtain⟨s,wa,tasks,log,steps,handles⟩:=w;simp only[zF,zx,zB,pAgg] at *;exact zW zajp
theorem zahs:∀o:List Int,AV.flatL ((o.map (D.int .i64)).map .d)=true
 | []=>rfl
 | x::o=>by
  show (AV.flat (.d (.int .i64 x))&&AV.flatL ((o.map (D.int .i64)).map .d))=true;rw[zahs o];rfl
structure PI(u:Setup)(N:Int)(a:zy)(ts:List zq):Prop where
 hu:za3 u=true
 ar:AI u a
 ti:∀t∈ts,TI u N t
 tk:∀t∈ts,∀b∈t.inv.tokens,b.length<=16
 tl:ts.length<=200
 nn:0<=N/\N<=200000
def rvH(l:List Int)(x:Nat)(a:zy)(ts:List zq)(N:Int):zd:=[(1000000,zB l x),(1000001,.row [pAgg a (.osl 1000002 0 ts.length) N]),(1000002,.row ((ts.map zf).map .d))]
theorem PI.step{u:Setup}{N:Int}{a:zy}{ts:List zq}(h:PI u N a ts)(hN:N<=199999){a':zy}(ha:AI u a'):PI u (N+1) a' ts:=
 { hu:=h.hu,ar:=ha,ti:=fun t ht=>(h.ti t ht).mono zo,tk:=h.tk,tl:=h.tl,nn:=by have:=h.nn;omega }
theorem PI.task{u:Setup}{N:Int}{a:zy}{ts:List zq}(h:PI u N a ts)(hN:N<=199999){i:Nat}(hi:i<ts.length)(e:(zbZ zaB a ts[i] (N+1)).2.2.2=0):PI u (N+1) (zbZ zaB a ts[i] (N+1)).1 (ts.set i (zbZ zaB a ts[i] (N+1)).2.1):=by
 have hn:=h.nn;have hk:=zaab zlh.ok h.hu h.ar (h.ti _ (zabC hi)) (n:=N+1) zo e;have hr:=zQZ ztM a ts[i] (N+1) e;refine { hu:=h.hu,ar:=hk.1,ti:=fun t ht=> ?_,tk:=fun t ht=> ?_,tl:=by rw[zacb];exact h.tl,nn:=by omega }
 ·rcases zmR ht with ht|ht
  ·rw[ht];exact hk.2
  ·exact (h.ti t ht).mono zo
 ·rcases zmR ht with ht|ht
  ·rw[ht,hr.1];exact h.tk _ (zabC hi)
  ·exact h.tk t ht
def zabk(u:Setup)(l:List Int)(N:Int)(n:Nat)(r:Option (Go.Sim.AV×zd)):Prop:=∃(a':zy) (ts':List zq) (x':Nat),PI u (N+1) a' ts'/\ts'.length=n/\r=some (.d (.tup []),rvH l x' a' ts' (N+1))
theorem zakD{u:Setup}{N:Int}{a:zy}{ts:List zq}(h:PI u N a ts)(hN:N<=199999)(h0:ts≠[])(l:List Int)(x:Nat)(hL:l.length<=4000):zfF (zabk u l N ts.length) (zi G zaeS [.ref 1000000 0 0,.ref 1000001 0 0] (rvH l x a ts N)):=by
 have hn:=fun at1 m=>zgr l at1 m hL;have n1:=zbE l x (n:=12) zo;have hnn:=h.nn;obtain⟨x2,q2⟩:∃x2,(za0 l x).2=x2:=⟨_,rfl⟩;have hck:=h.ar.ck;have hep:=h.ar.ep;have hlen:ts.length<=200:=h.tl
 by_cases c10:nD l x 12=10
 ·by_cases ck:a.clock<1073741814
  ·have hi:=zbE l x2 (n:=6) zo;have hp:=h.step hN (a':={ a with clock:=a.clock+nD l x2 6 }) { h.ar with ck:=by simp only;omega };have fin:zfF (zabk u l N ts.length) (some (.d (.tup []),rvH l (za0 l x2).2 { a with clock:=a.clock+nD l x2 6 } ts (N+1))):=⟨_,ts,_,hp,rfl,rfl⟩;clear hp h;simp only[rvH,pAgg,zB] at *;rw[zI zaaY (by simp)];exact zS
  ·have fin:zfF (zabk u l N ts.length) (some (.d (.tup []),rvH l x2 a ts (N+1))):=⟨a,ts,x2,h.step hN h.ar,rfl,rfl⟩;clear h;simp only[rvH,pAgg,zB] at *;rw[zI zaaY (by simp)];exact zS
 by_cases c11:nD l x 12=11
 ·by_cases ce:a.epoch<65536
  ·by_cases c4:nD l x2 4=3
   ·have hp:=h.step hN (a':={ a with epoch:=a.epoch+1 }) { h.ar with ep:=by simp only;omega };have fin:zfF (zabk u l N ts.length) (some (.d (.tup []),rvH l (za0 l x2).2 { a with epoch:=a.epoch+1 } ts (N+1))):=⟨_,ts,_,hp,rfl,rfl⟩;clear hp h;simp only[rvH,pAgg,zB] at *;rw[zI zaaY (by simp)];exact zS
   ·have fin:zfF (zabk u l N ts.length) (some (.d (.tup []),rvH l (za0 l x2).2 a ts (N+1))):=⟨a,ts,_,h.step hN h.ar,rfl,rfl⟩;clear h;simp only[rvH,pAgg,zB] at *;rw[zI zaaY (by simp)];exact zS
  ·have fin:zfF (zabk u l N ts.length) (some (.d (.tup []),rvH l x2 a ts (N+1))):=⟨a,ts,x2,h.step hN h.ar,rfl,rfl⟩;clear h;simp only[rvH,pAgg,zB] at *;rw[zI zaaY (by simp)];exact zS
 have hoN:=zBy { zbc with tasks:=ts } (by simp only;omega);have hoC:=zBx { zbc with tasks:=ts } (by simp only;omega);have hol:=zBz { zbc with tasks:=ts };have hoo:=zMH { zbc with tasks:=ts };simp only at hoN hoC hol hoo;have hat:=fun k hk=>zMK (w:={ zbc with tasks:=ts }) (k:=k) hk;simp only at hat;have hOl:(zbj { zbc with tasks:=ts }).length<=ts.length:=by
  unfold zbj;exact zaca (zacF _ _) (by simp)
 generalize zbj { zbc with tasks:=ts }=O at *;generalize opL ts ts.length=o at *
 rcases o with _|⟨o1,o⟩
 ·have h2:=hoN rfl;have fin:zfF (zabk u l N ts.length) (some (.d (.tup []),rvH l x2 a ts (N+1))):=⟨a,ts,x2,h.step hN h.ar,rfl,rfl⟩;clear h hoN hoC hat hol hoo;simp only[rvH,pAgg,zB,zF,zbc,zdt,zM,zx,zaJ,ze6,zT,zabq,zC] at *;rw[zI zaaY (by simp)];exact zS
 ·have h2:=hoC o1 o rfl;simp only[zabu] at hol;have hob:o.length<=200:=by omega
  have nj:=zbE l x2 (n:=(o.length:Int)+1) zo;obtain⟨j,hj⟩:∃j:Nat,nD l x2 ((o.length:Int)+1)=j:=⟨(nD l x2 ((o.length:Int)+1)).toNat,by omega⟩;have hi:=hat j zo;have hj2:j<o.length+1:=by omega
  have hg2:(AV.d (D.int .i64 o1)::(zC o).map AV.d)[j]? = some (.d (.int .i64 (O.getD j 0:Nat))):=by
   show (((o1::o).map (D.int .i64)).map AV.d)[j]? = _;rw[hoo,zabI,zabI,zabI,zab0,zabx zo];rfl
  generalize O.getD j 0=i at *;have hst:=zaac (n:=N+1) zlh h.hu h.ar (h.ti _ (zabC hi)) zo (fun b hb=>by have:=h.tk _ (zabC hi) b hb;omega);have hpt:=h.task hN hi;have fin0:zfF (zabk u l N ts.length) (some (.d (.tup []),rvH l (za0 l x2).2 a ts (N+1))):=⟨a,ts,_,h.step hN h.ar,rfl,rfl⟩;have fin1:(zbZ zaB a ts[i] (N+1)).2.2.2=0->zfF (zabk u l N ts.length) (some (.d (.tup []),rvH l (za0 l x2).2 (zbZ zaB a ts[i] (N+1)).1 (ts.set i (zbZ zaB a ts[i] (N+1)).2.1) (N+1))):=fun e=>⟨_,_,_,hpt e,zacb,rfl⟩;have hf:=zahs o;clear h hoN hoC hat hpt nj hol hoo hOl;generalize hT:ts[i]=t at *;generalize zbZ zaB a t (N+1)=r at *;obtain⟨a2,t2,ev,e⟩:=r;simp only at hst fin1
  by_cases ce:e=0
  ·subst ce;have fin:=fin1 rfl;clear fin1 fin0;have em:(ts.set i t2).map zf=(ts.map zf).set i (zf t2):=by rw[zacw]
   simp only[rvH,zacb,em] at fin;clear em;have sz_t2:=zQ t2;generalize zf t2=D_t2 at *;simp only[rvH,pAgg,zB,zF,zbc,zdt,zM,zx,zaJ,ze6,zT,zabq,zC] at *;rw[zI zaaY (by simp)];exact zS
  ·replace ce:=zabt ce;clear fin1;have sz_t2:=zQ t2;generalize zf t2=D_t2 at *;simp only[rvH,pAgg,zB,zF,zbc,zdt,zM,zx,zaJ,ze6,zT,zabq,zC] at *;rw[zI zaaY (by simp)];exact zS
def rv0(l:List Int)(x:Nat)(a:zy)(N:Int):zd:=[(1000000,zB l x),(1000001,.row [pAgg a (.xsl []) N])]
def zaeE(u:Setup)(l:List Int)(N:Int)(r:Option (Go.Sim.AV×zd)):Prop:=∃(a':zy) (x':Nat),PI u (N+1) a' []/\r=some (.d (.tup []),rv0 l x' a' (N+1))
theorem zakC{u:Setup}{N:Int}{a:zy}(h:PI u N a [])(hN:N<=199999)(l:List Int)(x:Nat)(hL:l.length<=4000):zfF (zaeE u l N) (zi G zaeS [.ref 1000000 0 0,.ref 1000001 0 0] (rv0 l x a N)):=by
 have hn:=fun at1 m=>zgr l at1 m hL;have n1:=zbE l x (n:=12) zo;have hnn:=h.nn;obtain⟨x2,q2⟩:∃x2,(za0 l x).2=x2:=⟨_,rfl⟩;have hck:=h.ar.ck;have hep:=h.ar.ep
 by_cases c10:nD l x 12=10
 ·by_cases ck:a.clock<1073741814
  ·have hi:=zbE l x2 (n:=6) zo;have hp:=h.step hN (a':={ a with clock:=a.clock+nD l x2 6 }) { h.ar with ck:=by simp only;omega };have fin:zfF (zaeE u l N) (some (.d (.tup []),rv0 l (za0 l x2).2 { a with clock:=a.clock+nD l x2 6 } (N+1))):=⟨_,_,hp,rfl⟩;clear hp h;simp only[rv0,pAgg,zB] at *;rw[zI zaaY (by simp)];exact zS
  ·have fin:zfF (zaeE u l N) (some (.d (.tup []),rv0 l x2 a (N+1))):=⟨a,x2,h.step hN h.ar,rfl⟩;clear h;simp only[rv0,pAgg,zB] at *;rw[zI zaaY (by simp)];exact zS
 by_cases c11:nD l x 12=11
 ·by_cases ce:a.epoch<65536
  ·by_cases c4:nD l x2 4=3
   ·have hp:=h.step hN (a':={ a with epoch:=a.epoch+1 }) { h.ar with ep:=by simp only;omega };have fin:zfF (zaeE u l N) (some (.d (.tup []),rv0 l (za0 l x2).2 { a with epoch:=a.epoch+1 } (N+1))):=⟨_,_,hp,rfl⟩;clear hp h;simp only[rv0,pAgg,zB] at *;rw[zI zaaY (by simp)];exact zS
   ·have fin:zfF (zaeE u l N) (some (.d (.tup []),rv0 l (za0 l x2).2 a (N+1))):=⟨a,_,h.step hN h.ar,rfl⟩;clear h;simp only[rv0,pAgg,zB] at *;rw[zI zaaY (by simp)];exact zS
  ·have fin:zfF (zaeE u l N) (some (.d (.tup []),rv0 l x2 a (N+1))):=⟨a,x2,h.step hN h.ar,rfl⟩;clear h;simp only[rv0,pAgg,zB] at *;rw[zI zaaY (by simp)];exact zS
 have h2:=zBy zbc (by simp [zbc]) rfl;have fin:zfF (zaeE u l N) (some (.d (.tup []),rv0 l x2 a (N+1))):=⟨a,x2,h.step hN h.ar,rfl⟩;clear h;simp only[rv0,pAgg,zB,zF,zbc,zdt,zM,zx,zaJ,ze6,zT,zabq,zC] at *;rw[zI zaaY (by simp)];exact zS
theorem zai4{d:za7}(h:zcm d=0):d.l.length<=24:=by
 unfold zcm at h
 split at h
 ·cases h
 ·rename_i c;omega
theorem zahr{u:Setup}{a:zy}(hu:za3 u=true)(h:AI u a):FitA a:=by
 have hs:=zny hu;have h1:=h.sl;have h2:=h.st;have h3:=zjZ h.dv;have h4:=zai4 h.dd;exact { sl:=by omega,sh:=fun i hi=>zWc (zbT (h.sh _ (zabC hi)).1),st:=by omega,de:=by omega,dl:=by have:=zfN h.dv;omega,df:=by omega }
def okR(l:List Result):Prop:=l=[]\/∃r:Result,l=[r]/\r.tokens=[]/\r.bodies=[]
def okV(l:List Event):Prop:=l=[]\/∃v:Event,l=[v]/\v.l=[]
theorem zaiY(t:zq):zi G zae7 [.d (zf t)] []=some (.d (.int .i64 (zan t 7 7)),[]):=by
 unfold zan
 cases c:t.done
 ·rw[zabn (by simp)]
  by_cases k:t.inv.kind=7
  ·rw[zabn zo];simp only[zf];exact zW zagu
  ·rw[zabo zo];simp only[zf];exact zW zagu
 ·rw[zabo rfl];simp only[zf];exact zW zagu
theorem zakt(a:zy)(i:Nat)(h1:a.stripes.length=a.slots.length)(h2:a.stripes.length<=1000):zi G zae2 [.d (zx a),.d (.int .i64 i)] []=some (.d (.tup [zax (zed a i).1,.int .i64 (zed a i).2]),[]):=by
 unfold zed zeY
 by_cases c:i<a.stripes.length
 ·have hi:i<a.slots.length:=by omega
  rw[zabo (zabM ⟨by omega,by omega⟩)];rw[show ((i:Int)).toNat=i by omega,zh c];simp only[zx,zax] at *;exact zW zahv
 ·have hi:¬i<a.slots.length:=by omega
  rw[zabn (by simp;omega)];simp only[zx,zax,zb0] at *;exact zW zahv
theorem zahl(a:zy)(l:List Stripe)(h1:a.stripes.length=a.slots.length)(h2:a.stripes.length<=1000)(h3:l.length<=1000)(hz:(zed a l.length).2=0):zi G zae6 [.d (zx a),.d (.sl (l.map zax))] []=some (.d (.tup [.sl ((l++[(zed a l.length).1]).map zax),.int .i64 0]),[]):=by
 have hl:=zakt a l.length h1 h2;rw[hz] at hl;generalize (zed a l.length).1=x at *;simp only[zx,zabF,zabs,zabq] at *
 by_cases h4:l=[]
 ·subst h4;simp only[zabw,zabq,zabJ,zabQ] at *;exact zW zahw
 ·exact zW zahw
def c1T(a:zy)(t:zq):zq:={ t with first:=t.first++[(zed a t.first.length).1],pc:=if ((t.first++[(zed a t.first.length).1]).length:Int)=t.setup.slots then (if zs0 (t.first++[(zed a t.first.length).1])=true then 2 else 0) else t.pc }
theorem zaiT(a:zy)(t:zq)(h1:a.stripes.length=a.slots.length)(h2:a.stripes.length<=1000)(h3:t.first.length<=100)(hz:(zed a t.first.length).2=0):zi G zae5 [.d (zx a),.d (zf t)] []=some (.d (.tup [zf (c1T a t),.int .i64 0]),[]):=by
 have hl:=zahl a t.first h1 h2 zo hz;unfold c1T;generalize (zed a t.first.length).1=x at *;have hq:=zakB (t.first++[x]) (by simp only[zabv,zab3];omega);rw[z6y] at hq;generalize zs0 (t.first++[x])=q at *;clear h1 h2 hz;have sz_a:=zby a;generalize zx a=D_a at *
 by_cases c4:((t.first++[x]).length:Int)=t.setup.slots
 ·simp only[c4,if_true];have c5:((t.first.length:Int)+1=t.setup.slots)=True:=zabA (by simpa using c4);clear c4
  cases q
  ·simp only[zabz,if_false,zf,zabF,zabs,zabq] at *;exact zW zagt
  ·simp only[if_true,zf,zabF,zabs,zabq] at *;exact zW zagt
 ·simp only[c4,if_false];have c5:((t.first.length:Int)+1=t.setup.slots)=False:=zabt (by simpa using c4);clear c4 hq;simp only[zf,zabF,zabs,zabq] at *;exact zW zagt
def c2T(a:zy)(t:zq)(n:Int):zq:={ t with id:=if t.second.length=0 then n else t.id,second:=t.second++[(zed a t.second.length).1],pc:=if ((t.second++[(zed a t.second.length).1]).length:Int)=t.setup.slots then (if t.first=t.second++[(zed a t.second.length).1] then 3 else 0) else t.pc }
theorem zaiZ(a:zy)(t:zq)(n:Int)(h1:a.stripes.length=a.slots.length)(h2:a.stripes.length<=1000)(h3:t.first.length<=100/\t.second.length<=100)(hz:(zed a t.second.length).2=0):zi G zae8 [.d (zx a),.d (zf t),.d (.int .i64 n)] []=some (.d (.tup [zf (c2T a t n),.int .i64 0]),[]):=by
 have hl:=zahl a t.second h1 h2 zo hz;unfold c2T;generalize (zed a t.second.length).1=x at *;have hq:=zakW t.first (t.second++[x]) zo (by simp only[zabv,zab3];omega);clear h1 h2 hz;have sz_a:=zby a;generalize zx a=D_a at *;have d1:(t.second.length=0)=((t.second.length:Int)+1=1):=propext zo;simp only[d1];clear d1;have hid:∀v:Int,(v=if (t.second.length:Int)+1=1 then n else t.id)->((t.second.length:Int)+1=1/\v=n\/¬(t.second.length:Int)+1=1/\v=t.id):=fun v hv=>by split at hv<;>simp_all
 obtain⟨v,hv⟩:∃v:Int,v=if (t.second.length:Int)+1=1 then n else t.id:=⟨_,rfl⟩
 have hid:=hid v hv;rw[<- hv];clear hv
 by_cases c4:((t.second++[x]).length:Int)=t.setup.slots
 ·simp only[c4,if_true];have c5:((t.second.length:Int)+1=t.setup.slots)=True:=zabA (by simpa using c4);clear c4
  by_cases c6:t.first=t.second++[x]
  ·rw[zabM c6] at hq;rw[zabo c6];clear c6
   rcases hid with ⟨c7,rfl⟩|⟨c7,rfl⟩
   ·replace c7:=zabA c7;simp only[zf,zabF,zabs,zabq] at *;exact zW zaeM
   ·replace c7:=zabt c7;simp only[zf,zabF,zabs,zabq] at *;exact zW zaeM
  ·rw[zabP c6] at hq;rw[zabn c6];clear c6
   rcases hid with ⟨c7,rfl⟩|⟨c7,rfl⟩
   ·replace c7:=zabA c7;simp only[zf,zabF,zabs,zabq] at *;exact zW zaeM
   ·replace c7:=zabt c7;simp only[zf,zabF,zabs,zabq] at *;exact zW zaeM
 ·simp only[c4,if_false];have c5:((t.second.length:Int)+1=t.setup.slots)=False:=zabt (by simpa using c4);clear c4 hq
  rcases hid with ⟨c7,rfl⟩|⟨c7,rfl⟩
  ·replace c7:=zabA c7;simp only[zf,zabF,zabs,zabq] at *;exact zW zaeM
  ·replace c7:=zabt c7;simp only[zf,zabF,zabs,zabq] at *;exact zW zaeM
theorem zai1(a:zy)(t:zq)(n:Int)(he:0<=t.entry/\t.entry<=1000)(hl:t.results.length<=1000)(hf:t.first.length<=100):zi G zae9 [.d (zx a),.d (zf t),.d (.int .i64 n)] []=some (.d (if a.epoch=t.loaded then .tup [zf (zba t { zac with ready:=(zdV t.first a.epoch t.first.length).1,leased:=(zdV t.first a.epoch t.first.length).2 } n),.sl [zaw { evT t 8 t.id with epoch:=a.epoch,ready:=(zdV t.first a.epoch t.first.length).1,leased:=(zdV t.first a.epoch t.first.length).2 }],.int .i64 0] else .tup [zf { t with pc:=0 },.sl [],.int .i64 0]),[]):=by
 have hw:=z5c a
 by_cases c:a.epoch=t.loaded
 ·rw[zabo c];have hs:=zak0 t.first t.loaded zo;rw[c] at hw ⊢;generalize zdV t.first t.loaded t.first.length=p at *;obtain⟨p1,p2⟩:=p;simp only at hs ⊢;have hnx:=zMX t { zac with ready:=p1,leased:=p2 } n he hl;generalize zba t { zac with ready:=p1,leased:=p2 } n=t2 at *;have sz_t2:=zQ t2;generalize zf t2=D_t2 at *;have sz_a:=zby a;generalize zx a=D_a at *;clear he hl hf c;simp only[zf,zaw,evT,zbw,z7,zac,zabq,zabs] at *;exact zW zahx
 ·rw[zabn c];replace c:=zabt c;clear he hl hf;simp only[zf] at *;exact zW zahx
theorem zajF(w:World)(l:List Int)(a:Nat):zi G zae3 [.ref 1000000 0 0,.d (.int .i64 7),.d (zF w)] [(1000000,zB l a)]=some (.d (zbg ⟨7,0,0,0,0,0,[],[]⟩),[(1000000,zB l a)]):=by
 obtain⟨s,wa,tasks,log,steps,handles⟩:=w;simp only[zF,zx,zB,zbg,zabq] at *;exact zW zajo
def CT(u:Setup)(N:Int)(t:zq):Prop:=t.inv=⟨7,0,0,0,0,0,[],[]⟩/\t.sec.carry=[]/\TI u N t/\(t.done=true\/(t.done=false/\t.entry=0/\t.results=[]/\(0<=t.pc/\t.pc<=3)/\(t.pc=1->(t.first.length:Int)<u.slots/\t.second.length=0)/\(t.pc=2->(t.second.length:Int)<u.slots)))
theorem zaho{u:Setup}{N:Int}{t:zq}(h:CT u N t):CT u (N+1) t:=⟨h.1,h.2.1,h.2.2.1.mono zo,h.2.2.2⟩
theorem zafF{u:Setup}{a:zy}(ha:AI u a){i:Nat}(h:(i:Int)<u.slots):(zed a i).2=0:=by
 have:=ha.sl;unfold zed zeY;rw[zabo (zabM ⟨by omega,by omega⟩)]
theorem zahm{u:Setup}{a:zy}{t:zq}{N:Int}(hu:za3 u=true)(ha:AI u a)(h:CT u N t)(hd:t.done=false):(zdy a t (N+1)).2.2.2=0/\AI u (zdy a t (N+1)).1/\CT u (N+1) (zdy a t (N+1)).2.1/\okR (zdy a t (N+1)).2.1.results/\okV (zdy a t (N+1)).2.2.1:=by
 obtain⟨h1,h2,h3,h4⟩:=h
 rcases h4 with h4|⟨_,h5,h6,h7,h8,h9⟩
 ·rw[h4] at hd;cases hd
 have hg:zan t 7 7=0:=by
  unfold zan;rw[hd,h1];simp
 have hnn:=h3.nn;have hfs:=h3.fs;have hsu:t.setup.slots=u.slots:=by rw[h3.su]
 have hus:=zny hu;have hk:=zTl (n:=N+1) ha h3 ⟨by omega,by omega⟩;have hdn:∀(t2:zq) (r:Result) (n:Int),t2.inv=t.inv->t2.entry=0->(zba t2 r n).done=true:=by
  intro t2 r n q1 q2;unfold zba zcX;simp [q1,q2,h1]
 suffices key:(zdy a t (N+1)).2.2.2=0/\(zdy a t (N+1)).2.1.inv=t.inv/\(zdy a t (N+1)).2.1.sec.carry=[]/\((zdy a t (N+1)).2.1.done=true\/((zdy a t (N+1)).2.1.done=false/\(zdy a t (N+1)).2.1.entry=0/\(zdy a t (N+1)).2.1.results=[]/\(0<=(zdy a t (N+1)).2.1.pc/\(zdy a t (N+1)).2.1.pc<=3)/\((zdy a t (N+1)).2.1.pc=1->((zdy a t (N+1)).2.1.first.length:Int)<u.slots/\(zdy a t (N+1)).2.1.second.length=0)/\((zdy a t (N+1)).2.1.pc=2->((zdy a t (N+1)).2.1.second.length:Int)<u.slots)))/\okR (zdy a t (N+1)).2.1.results/\okV (zdy a t (N+1)).2.2.1 by
  obtain⟨k1,k2,k3,k4,k5,k6⟩:=key;obtain⟨k7,k8⟩:=hk k1;exact⟨k1,k7,⟨k2.trans h1,k3,k8,k4⟩,k5,k6⟩
 clear hk;unfold zdy;rw[zabn (by rw[hg];simp)]
 by_cases c0:t.pc=0
 ·rw[zabo c0];exact⟨rfl,rfl,h2,.inr ⟨hd,h5,h6,⟨by simp only;omega,by simp only;omega⟩,fun _=>⟨by simp only[zabw];omega,rfl⟩,fun q=>absurd q (by simp)⟩,.inl h6,.inl rfl⟩
 rw[zabn c0]
 by_cases c1:t.pc=1
 ·rw[zabo c1];obtain⟨f1,f2⟩:=h8 c1;have hz:=zafF ha f1;simp only[hz,ne_eq,zabD,if_false];generalize (zed a t.first.length).1=s;refine⟨trivial,trivial,h2,.inr ⟨hd,h5,h6,?_,?_,?_⟩,.inl h6,.inl rfl⟩
  ·split
   ·split<;>omega
   ·omega
  ·intro q
   split at q
   ·split at q<;>omega
   ·rename_i w;simp only[zabv,zab3] at w ⊢;omega
  ·intro q;omega
 rw[zabn c1]
 by_cases c2:t.pc=2
 ·rw[zabo c2];have f1:=h9 c2;have hz:=zafF ha f1;simp only[hz,ne_eq,zabD,if_false];generalize (zed a t.second.length).1=s;refine⟨trivial,trivial,h2,.inr ⟨hd,h5,h6,?_,?_,?_⟩,.inl h6,.inl rfl⟩
  ·split
   ·split<;>omega
   ·omega
  ·intro q
   split at q
   ·split at q<;>omega
   ·omega
  ·intro q
   split at q
   ·split at q<;>omega
   ·rename_i w;simp only[zabv,zab3] at w ⊢;omega
 rw[zabn c2]
 split
 ·exact⟨rfl,rfl,h2,.inr ⟨hd,h5,h6,⟨by simp only;omega,by simp only;omega⟩,fun q=>absurd q (by simp),fun q=>absurd q (by simp)⟩,.inl h6,.inl rfl⟩
 ·exact⟨rfl,rfl,rfl,.inl (hdn t _ _ rfl h5),.inr ⟨_,by simp [zba,h6];rfl,rfl,rfl⟩,.inr ⟨_,rfl,rfl⟩⟩
theorem zah5{u:Setup}{a:zy}{t:zq}{n N:Int}(hu:za3 u=true)(ha:AI u a)(h:CT u N t)(hd:t.done=false):zi G zaeG [.d (zx a),.d (zf t),.d (.int .i64 n)] []=some (.d (.tup [zx (zdy a t n).1,zf (zdy a t n).2.1,.sl ((zdy a t n).2.2.1.map zaw),.int .i64 (zdy a t n).2.2.2]),[]):=by
 obtain⟨h1,h2,h3,h4⟩:=h
 rcases h4 with h4|⟨h0,h5,h6,h7,h8,h9⟩
 ·rw[h4] at hd;cases hd
 have hg:zan t 7 7=0:=by
  unfold zan;rw[hd,h1];simp
 have hr:=zaiY t;rw[hg] at hr;have hfs:=h3.fs;have hus:=zny hu;have hsl:=ha.sl;have hst:=ha.st;unfold zdy;rw[zabn (by rw[hg];simp)]
 by_cases c0:t.pc=0
 ·rw[zabo c0];have hw:=z5c a;replace c0:=zabA c0;clear h0 h1 h2 h3 h5 h6 h7 h8 h9 hd hg ha hu;simp only[zf,zabq] at *;exact zW zaeW
 rw[zabn c0]
 by_cases c1:t.pc=1
 ·rw[zabo c1];have hz:=zafF ha (h8 c1).1;have hf:=zaiT a t hst zo zo hz;simp only[hz,ne_eq,zabD,if_false];change zi G zaeG _ _=some (.d (.tup [zx a,zf (c1T a t),_,_]),[]);generalize c1T a t=t2 at *;replace c1:=zabA c1;replace c0:=zabt c0;clear h0 h1 h2 h3 h5 h6 h7 h8 h9 hd hg ha hu hz hst hsl;have sz_t2:=zQ t2;generalize zf t2=D_t2 at *;have sz_a:=zby a;generalize zx a=D_a at *;simp only[zf,zabq] at *;exact zW zaeW
 rw[zabn c1]
 by_cases c2:t.pc=2
 ·rw[zabo c2];have hz:=zafF ha (h9 c2);have hf:=zaiZ a t n hst zo zo hz;simp only[hz,ne_eq,zabD,if_false];change zi G zaeG _ _=some (.d (.tup [zx a,zf (c2T a t n),_,_]),[]);generalize c2T a t n=t2 at *;replace c2:=zabA c2;replace c0:=zabt c0;replace c1:=zabt c1;clear h0 h1 h2 h3 h5 h6 h7 h8 h9 hd hg ha hu hz hst hsl;have sz_t2:=zQ t2;generalize zf t2=D_t2 at *;have sz_a:=zby a;generalize zx a=D_a at *;simp only[zf,zabq] at *;exact zW zaeW
 rw[zabn c2];have c3:t.pc=3:=by omega
 have hs:=zai1 a t n zo (by rw[h6];simp) zo;replace c3:=zabA c3;replace c0:=zabt c0;replace c1:=zabt c1;replace c2:=zabt c2;clear h0 h1 h2 h3 h5 h6 h7 h8 h9 hd hg ha hu hst hsl
 by_cases c4:a.epoch=t.loaded
 ·rw[zabo c4] at hs;rw[zabn (fun q=>q c4)];simp only;generalize zdV t.first a.epoch t.first.length=p at *;generalize zba t { zac with ready:=p.1,leased:=p.2 } n=t2 at *;obtain⟨v,hv⟩:∃v:Event,v={ evT t 8 t.id with epoch:=a.epoch,ready:=p.1,leased:=p.2 }:=⟨_,rfl⟩;rw[<- hv] at hs ⊢;clear hv c4;simp only[zabs,zabq];have sz_t2:=zQ t2;generalize zf t2=D_t2 at *;have sz_a:=zby a;generalize zx a=D_a at *;have sz_v:=zafR v;generalize zaw v=D_v at *;simp only[zf,zabq,zabs] at *;exact zW zaeW
 ·rw[zabn c4] at hs;rw[zabo c4];clear c4;obtain⟨t2,ht2⟩:∃t2:zq,t2={ t with pc:=0 }:=⟨_,rfl⟩;rw[<- ht2] at hs ⊢;clear ht2;have sz_t2:=zQ t2;generalize zf t2=D_t2 at *;have sz_a:=zby a;generalize zx a=D_a at *;simp only[zf,zabq] at *;exact zW zaeW
structure CS where
 k:Nat
 x:Nat
 a:zy
 ts:List zq
 N:Int
 t:zq
def zahn(r:Option (zX×St)):Prop:=∃ts:List zq,r=some (.exit 0,⟨[],[(10053,.row ((ts.map zf).map .d))]⟩)
def ctS1(l:List Int)(p:CS):St:=⟨[(5,.ref 21 0 0),(7,.ref 7 0 0),(9,.ref 9 0 0),(10,.ref 53 0 0),(11,.d (.int .i64 p.k))],[(7,.row [.d (zf p.t)]),(9,.row [.d (zf p.t)]),(21,zB l p.x),(53,.row [pAgg p.a (.osl 10053 0 p.ts.length) p.N]),(10053,.row ((p.ts.map zf).map .d))]⟩
theorem zai3(l:List Int)(hL:l.length<=4000)(u:Setup):∀p:CS,(p.k<=160/\p.N<=102000+p.k/\PI u p.N p.a p.ts/\CT u p.N p.t/\p.ts≠[])->zfF zahn (z6 G [] zaa9 (ctS1 l p)):=by
 refine zsO (fun p:CS=>160 - p.k) _ (ctS1 l) (fun _=>zfF zahn) fun⟨k,x,a,ts,N,t⟩ ⟨h1,h2,hp,hm,h0⟩ L ih=> ?_;simp only at h1 h2 hp hm h0;have hn:=fun at1 m=>zgr l at1 m hL;have hmo:=zZP l x hL;have hnn:=hp.nn
 by_cases c:k<160/\t.done=false/\(k<12\/(x:Int)<l.length)
 rotate_left
 ·clear ih hp hm h0;simp only[ctS1,zaa9,pAgg,zB]
  by_cases k1:k<160
  ·cases d:t.done with
   | true=>
    clear hmo c;simp only[zf,d]
    (try simp -implicitDefEqProofs (maxSteps:=4000000) (disch:=omega) only[zh,go_sem, *]);(try simp only[zPr]);repeat' (first|done|rfl|((first|refine zad (fun hq=> ?_) (fun hq=> ?_)|refine zaj (fun hq=> ?_) (fun hq=> ?_))<;>(try (first|(exfalso;omega)|contradiction))<;>(try simp -implicitDefEqProofs (maxSteps:=4000000) (disch:=omega) only[zh,go_sem, *])<;>(try simp only[zPr])));(all_goals try rfl);(all_goals try (repeat' (first|done|rfl|(exfalso;omega)|contradiction|(refine zae (fun hq=> ?_) (fun hq=> ?_)))))
    all_goals exact⟨ts,rfl⟩
   | false=>
    have k2:¬k<12:=fun q=>c ⟨k1,d,.inl q⟩;have k3:¬(x:Int)<l.length:=fun q=>c ⟨k1,d,.inr q⟩;rw[zabP k3] at hmo;clear c k3;simp only[zf,d,zB] at *
    (try simp -implicitDefEqProofs (maxSteps:=4000000) (disch:=omega) only[zh,go_sem, *]);(try simp only[zPr]);repeat' (first|done|rfl|((first|refine zad (fun hq=> ?_) (fun hq=> ?_)|refine zaj (fun hq=> ?_) (fun hq=> ?_))<;>(try (first|(exfalso;omega)|contradiction))<;>(try simp -implicitDefEqProofs (maxSteps:=4000000) (disch:=omega) only[zh,go_sem, *])<;>(try simp only[zPr])));(all_goals try rfl);(all_goals try (repeat' (first|done|rfl|(exfalso;omega)|contradiction|(refine zae (fun hq=> ?_) (fun hq=> ?_)))))
    all_goals exact⟨ts,rfl⟩
  ·clear hmo c;simp only[zf]
   (try simp -implicitDefEqProofs (maxSteps:=4000000) (disch:=omega) only[zh,go_sem, *]);(try simp only[zPr]);repeat' (first|done|rfl|((first|refine zad (fun hq=> ?_) (fun hq=> ?_)|refine zaj (fun hq=> ?_) (fun hq=> ?_))<;>(try (first|(exfalso;omega)|contradiction))<;>(try simp -implicitDefEqProofs (maxSteps:=4000000) (disch:=omega) only[zh,go_sem, *])<;>(try simp only[zPr])));(all_goals try rfl);(all_goals try (repeat' (first|done|rfl|(exfalso;omega)|contradiction|(refine zae (fun hq=> ?_) (fun hq=> ?_)))))
   all_goals exact⟨ts,rfl⟩
 obtain⟨k1,hd,kc⟩:=c;have hmo2:(x:Int)<l.length->zi G znV [.d (.pd (.agg [.sl (zC l),.int .i64 x]))] []=some (.d (.bool true),[]):=fun q=>by rw[zabM q] at hmo;exact hmo
 clear hmo;obtain⟨x2,q2⟩:∃x2,(za0 l x).2=x2:=⟨_,rfl⟩
 by_cases c2:nD l x 3=2
 ·obtain⟨a2,ts2,x3,hp2,hlen,hr⟩:=zakD hp zo h0 l x2 hL;have i1:=ih ⟨k+1,x3,a2,ts2,N+1,t⟩ ⟨by simp only;omega,by simp only;omega,hp2,(zaho hm),fun q=>h0 (zacc.1 (by have q3:ts2=[]:=q;rw[<- hlen,q3];rfl))⟩ (by simp only;omega);simp only[rvH] at hr;rw[hlen] at hr;simp only[ctS1,hlen] at i1;clear hp hp2 hm ih h0 hlen;simp only[ctS1,zaa9,zf,hd,pAgg,zB,rvH,rv0] at *;simp only[zNr,zB] at i1
  by_cases k12:k<12
  ·clear hmo2 kc;exact zS
  ·have hmo:=hmo2 (kc.resolve_left k12);clear hmo2 kc;exact zS
 ·have pk:True:=trivial;have hpm:=zahm hp.hu hp.ar hm hd;have e1:=zah5 (n:=N+1) hp.hu hp.ar hm hd;have e2:=zTm (n:=N+1) hp.hu hp.ar hm.2.2.1;clear hm;generalize zdy a t (N+1)=r at *;obtain⟨a2,t2,ev,e⟩:=r;simp only at hpm e1 e2;obtain⟨rfl,g1,g2,g3,g4⟩:=hpm;have i1:=ih ⟨k+1,x2,a2,ts,N+1,t2⟩ ⟨by simp only;omega,by simp only;omega,hp.step zo g1,g2,h0⟩ (by simp only;omega);have s1:=zaiO a2 a2 (zahr hp.hu g1);have s2:=zaiL t2 (by rw[g2.1]) (by rw[g2.1]) g2.2.1 g3;simp only[decide_true] at s1;clear hp ih g1 g2 g3 h0;simp only[ctS1] at i1;have sz_t2:=zQ t2;generalize zf t2=D_t2 at *
  rcases g4 with rfl|⟨v,rfl,gv⟩
  ·have s3:=zaiJ;simp only[ctS1,zaa9,zf,zx,hd,pAgg,zB,zabs,zabq] at *;simp only[zNr,zB] at i1
   by_cases k12:k<12
   ·clear hmo2 kc;exact zS
   ·have hmo:=hmo2 (kc.resolve_left k12);clear hmo2 kc;exact zS
  ·have s3:=zaiK v gv;clear gv;simp only[zabs,zabq] at e1 e2;have sz_v:=zafR v;generalize zaw v=D_v at *;simp only[ctS1,zaa9,zf,zx,hd,pAgg,zB,zabs,zabq] at *;simp only[zNr,zB] at i1
   by_cases k12:k<12
   ·clear hmo2 kc;exact zS
   ·have hmo:=hmo2 (kc.resolve_left k12);clear hmo2 kc;exact zS
def ctS0(l:List Int)(p:CS):St:=⟨[(5,.ref 21 0 0),(7,.ref 7 0 0),(9,.ref 9 0 0),(10,.ref 53 0 0),(11,.d (.int .i64 p.k))],[(7,.row [.d (zf p.t)]),(9,.row [.d (zf p.t)]),(21,zB l p.x),(53,.row [pAgg p.a (.xsl []) p.N])]⟩
theorem zai2(l:List Int)(hL:l.length<=4000)(u:Setup):∀p:CS,(p.k<=160/\p.N<=102000+p.k/\PI u p.N p.a p.ts/\CT u p.N p.t/\p.ts=[])->z6 G [] zaa9 (ctS0 l p)=some (.exit 0,⟨[],[]⟩):=by
 refine zaL (fun p:CS=>160 - p.k) _ _ _ fun⟨k,x,a,ts,N,t⟩ ⟨h1,h2,hp,hm,h0⟩ L ih=> ?_;simp only at h1 h2 hp hm h0;have hn:=fun at1 m=>zgr l at1 m hL;have hmo:=zZP l x hL;have hnn:=hp.nn
 by_cases c:k<160/\t.done=false/\(k<12\/(x:Int)<l.length)
 rotate_left
 ·clear ih hp hm h0;simp only[ctS0,zaa9,pAgg,zB]
  by_cases k1:k<160
  ·cases d:t.done with
   | true=>
    clear hmo c;simp only[zf,d];exact zS
   | false=>
    have k2:¬k<12:=fun q=>c ⟨k1,d,.inl q⟩;have k3:¬(x:Int)<l.length:=fun q=>c ⟨k1,d,.inr q⟩;rw[zabP k3] at hmo;clear c k3;simp only[zf,d,zB] at *;exact zS
  ·clear hmo c;simp only[zf];exact zS
 obtain⟨k1,hd,kc⟩:=c;have hmo2:(x:Int)<l.length->zi G znV [.d (.pd (.agg [.sl (zC l),.int .i64 x]))] []=some (.d (.bool true),[]):=fun q=>by rw[zabM q] at hmo;exact hmo
 clear hmo;obtain⟨x2,q2⟩:∃x2,(za0 l x).2=x2:=⟨_,rfl⟩
 by_cases c2:nD l x 3=2
 ·subst h0;obtain⟨a2,x3,hp2,hr⟩:=zakC hp zo l x2 hL;have i1:=ih ⟨k+1,x3,a2,[],N+1,t⟩ ⟨by simp only;omega,by simp only;omega,hp2,(zaho hm),rfl⟩ (by simp only;omega);simp only[rv0] at hr;simp only[ctS0] at i1;clear hp hp2 hm ih;simp only[ctS0,zaa9,zf,hd,pAgg,zB,rvH,rv0] at *;simp only[zNr,zB] at i1
  by_cases k12:k<12
  ·clear hmo2 kc;exact zS
  ·have hmo:=hmo2 (kc.resolve_left k12);clear hmo2 kc;exact zS
 ·have pk:True:=trivial;have hpm:=zahm hp.hu hp.ar hm hd;have e1:=zah5 (n:=N+1) hp.hu hp.ar hm hd;have e2:=zTm (n:=N+1) hp.hu hp.ar hm.2.2.1;clear hm;generalize zdy a t (N+1)=r at *;obtain⟨a2,t2,ev,e⟩:=r;simp only at hpm e1 e2;obtain⟨rfl,g1,g2,g3,g4⟩:=hpm;have i1:=ih ⟨k+1,x2,a2,ts,N+1,t2⟩ ⟨by simp only;omega,by simp only;omega,hp.step zo g1,g2,h0⟩ (by simp only;omega);have s1:=zaiO a2 a2 (zahr hp.hu g1);have s2:=zaiL t2 (by rw[g2.1]) (by rw[g2.1]) g2.2.1 g3;simp only[decide_true] at s1;clear hp ih g1 g2 g3;simp only[ctS0] at i1;have sz_t2:=zQ t2;generalize zf t2=D_t2 at *
  rcases g4 with rfl|⟨v,rfl,gv⟩
  ·have s3:=zaiJ;simp only[ctS0,zaa9,zf,zx,hd,pAgg,zB,zabs,zabq] at *;simp only[zNr,zB] at i1
   by_cases k12:k<12
   ·clear hmo2 kc;exact zS
   ·have hmo:=hmo2 (kc.resolve_left k12);clear hmo2 kc;exact zS
  ·have s3:=zaiK v gv;clear gv;simp only[zabs,zabq] at e1 e2;have sz_v:=zafR v;generalize zaw v=D_v at *;simp only[ctS0,zaa9,zf,zx,hd,pAgg,zB,zabs,zabq] at *;simp only[zNr,zB] at i1
   by_cases k12:k<12
   ·clear hmo2 kc;exact zS
   ·have hmo:=hmo2 (kc.resolve_left k12);clear hmo2 kc;exact zS
end Go.Proofs.YtnmcgdpmikhohaaGreat
