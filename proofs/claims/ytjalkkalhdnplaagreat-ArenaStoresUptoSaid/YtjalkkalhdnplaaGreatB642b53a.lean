/-
  The script.
-/
import Derived.Test.YtjalkkalhdnplaaGreatB568fc85
import Derived.Test.YtjalkkalhdnplaaGreatB59b4b68
import Derived.Test.YtjalkkalhdnplaaGreatB4d72af9
import Derived.Test.YtjalkkalhdnplaaGreatB2a7f320
set_option linter.unusedSimpArgs false
set_option linter.unusedVariables false
set_option maxHeartbeats 10000000
set_option maxRecDepth 100000
namespace Go.Proofs.YtjalkkalhdnplaaGreat
open Go Go.Sim
theorem zTV(a:zm)(t:zq)(n:Int)(h:zan t 2 2≠0):zd G 101 [.d (zl a),.d (zh t),.d (.int .i64 n)] []=some (.d (.tup [zl zx,zh zJ,.sl [],.int .i64 (zan t 2 2)]),[]):=by
 have hg:=zeV t 2 2;have hf:=zc4 (zan t 2 2);generalize zan t 2 2=ge at *;have sz_zTask:=zO zJ;generalize zh zJ=D_zTask at *;have sz_t:=zO t;generalize zh t=D_t at *;have sz_zArena:=zay zx;generalize zl zx=D_zArena at *;exact zW
theorem zTX{K:Tok}(hK:zgO K){u:Setup}{a:zm}{t:zq}{n N:Int}(hu:zaX u=true)(ha:AI u a)(ht:TI u N t)(hN:N<=999999):zd G 101 [.d (zl a),.d (zh t),.d (.int .i64 n)] []=some (.d (.tup [zl (zd0 K a t n).1,zh (zd0 K a t n).2.1,.sl ((zd0 K a t n).2.2.1.map zaE),.int .i64 (zd0 K a t n).2.2.2]),[]):=by
 unfold zd0
 by_cases c0:zan t 2 2=0
 rotate_left
 ·rw[zYQ c0];exact zTV a t n c0
 rw[zYP (fun q=>q c0)];have hg:=zeV t 2 2;rw[c0] at hg;obtain⟨g1,g2⟩:=zeW c0;have hen:=zh8 ht g1;clear g1
 by_cases c1:t.pc=0
 ·rw[zYQ c1];have hdl:=zfc ha.dv;have hld:=zoB a;have hho:=zBA a.dir t.inv.home zo;have hspn:=zTF a.dir (zc6 a.dir t.inv.home) zo;generalize zc6 a.dir t.inv.home=k at *;generalize zkO a.dir k=sp at *;obtain⟨sp,sb⟩:=sp;have hwb:=zET sp.low;simp only at *;generalize zgK sp.low=wb at *;obtain⟨wb,we⟩:=wb;simp only at *;have hse:=zmA { t with dir:=a.dir,slot:=k,walk:=wb } [k] 1 (by simp);generalize zcc { t with dir:=a.dir,slot:=k,walk:=wb } [k] 1=t2 at *;have sz_t2:=zO t2;generalize zh t2=D_t2 at *;replace c1:=zY8 c1;clear ht ha hu;simp only[zh,zat,zbW,zcC,zt,zYU,zYS] at *;exact zW
 rw[zYP c1]
 by_cases c2:t.pc=2
 ·rw[zYQ c2];have hlk:=zsm a t t.walk.next 1 (by have:=zfc ha.dv;omega);generalize zg3 a t t.walk.next 1=t2 at *;have sz_t2:=zO t2;generalize zh t2=D_t2 at *;replace c2:=zY8 c2;replace c1:=zYV c1;clear ht ha hu;simp only[zh] at *;exact zW
 rw[zYP c2];have k4:=ht.se ⟨c1,by omega⟩;have hgo:=zlw a t n (zmz hu ha k4.si zo);have hgk:=zlx (n:=n) ha k4.si k4.ed;simp only;generalize goT a t n=g at *;obtain⟨a2,t2,b1,b2,e⟩:=g;simp only at *;replace c1:=zYV c1;replace c2:=zYV c2
 by_cases c4:e=0
 rotate_left
 ·rw[zYQ c4];have hf:=zc4 e;unfold zbu;clear hgk ht ha hu k4;have sz_zTask:=zO zJ;generalize zh zJ=D_zTask at *;have sz_zArena:=zay zx;generalize zl zx=D_zArena at *;have sz_t2:=zO t2;generalize zh t2=D_t2 at *;have sz_a2:=zay a2;generalize zl a2=D_a2 at *;simp only[zh] at *;exact zW
 subst c4;simp only[ne_eq,zY2,if_false];obtain⟨h1,s,h2,hSI,hKe,ho,h4,h9⟩:=hgk rfl;clear hgk;have h3:zbe u (N+1) t.inv s:=k4.keep hSI hKe (by rw[ho];exact k4.ed);have hen2:t2.entry=t.entry/\t2.results=t.results/\t2.inv=t.inv/\t2.sec=s:=by rw[h2];exact⟨rfl,rfl,rfl,rfl⟩
 obtain⟨q1,q2,q3,q4⟩:=hen2
 cases b1
 rotate_left
 ·simp only[if_true];have hk:t2.sec.shards.length=1:=by rw[q4];exact (zgE h3 ht.iv (.inl (h4.1 rfl))).1 zo
  have hd:=zTS (t:=t2) (by rw[q4];exact h3.si) hk (by rw[q3];exact zER ht.iv (.inl zo));generalize zdt t2=r at *;obtain⟨t3,l⟩:=r;clear ht ha hu k4 h1 h2 h3 h4 h9 ho hSI hKe q1 q2 q3 q4 hk;simp only at *;have sz_t2:=zO t2;generalize zh t2=D_t2 at *;have sz_t3:=zO t3;generalize zh t3=D_t3 at *;simp only[zh] at *;exact zW
 ·simp only[zYX,if_false]
  cases b2
  ·simp only[if_true];clear ht ha hu k4 h1 h2 h3 h4 h9 ho hSI hKe q1 q2 q3 q4;have sz_t2:=zO t2;generalize zh t2=D_t2 at *;simp only[zh] at *;exact zW
  ·simp only[zZK,if_false];have hk:t2.sec.shards.length=1:=by rw[q4];exact (zgE h3 ht.iv (.inr (h9.1 rfl))).1 zo
   have hbg:za0 t2.sec.shards[0]:=zdc hk ▸ zmC (u:=u) (N:=N+1) (by rw[q4];exact h3.si);have hrs:=zUy hK hk hbg;have hn1:=ze1 t2 (zaW 6) n (by rw[q1];exact hen.1) (by rw[q2];exact hen.2);have hn2:=ze1 t2 zah n (by rw[q1];exact hen.1) (by rw[q2];exact hen.2);have hn3:=ze1 t2 (zhX K t2) n (by rw[q1];exact hen.1) (by rw[q2];exact hen.2);generalize zhX K t2=rr at *;clear ht ha hu k4 h1 h2 h3 h4 h9 ho hSI hKe q1 q2 q3 q4 hbg hk
   by_cases d3:t2.loaded=3
   ·rw[zYQ d3];clear hn2 hn3 hrs;generalize zbo t2 (zaW 6) n=t3 at *;have sz_t3:=zO t3;generalize zh t3=D_t3 at *;replace d3:=zY8 d3;simp only[zh,zaj,zaW,zah,zYS] at *;exact zW
   rw[zYP d3];replace d3:=zYV d3
   by_cases d2:t2.loaded=2
   ·rw[zYQ d2];clear hn1 hn3 hrs;generalize zbo t2 zah n=t3 at *;have sz_t3:=zO t3;generalize zh t3=D_t3 at *;replace d2:=zY8 d2;simp only[zh,zaj,zah,zYS] at *;exact zW
   rw[zYP d2];replace d2:=zYV d2
   by_cases d1:t2.loaded=1
   ·rw[zYQ d1];clear hn1 hn2;generalize zbo t2 rr n=t3 at *;have sz_t3:=zO t3;generalize zh t3=D_t3 at *;have sz_rr:=zlp rr;generalize zaj rr=D_rr at *;replace d1:=zY8 d1;simp only[zh] at *;exact zW
   ·rw[zYP d1];clear hn1 hn2 hn3 hrs;replace d1:=zYV d1;simp only[zh] at *;exact zW
theorem zT0{u:Setup}{N:Int}{t:zq}(hs:SI u N t.sec)(hk:t.sec.shards.length=1)(hn:t.sec.lock.cells.length=2):zd G 170 [.d (zh t)] []=some (.d (.tup [zh (zdu t).1,.sl ((zdu t).2.map zaE)]),[]):=by
 have hv:=(hs.sv _ (zY4 (show 0<t.sec.shards.length by omega))).1;have hb:za0 t.sec.shards[0]:=zfK (zbJ hv);have hu:=zhk t.sec;have hrm:=zDE hk hv;have hsn:=zkL t 9;have hdv:=hs.dv;have hl12:=zbJ hv;have hun:=hs.un;unfold zdu;simp only;rw[zdc hk]
 by_cases c0:t.sec.shards[0].live=false
 ·rw[zYQ c0];have hd:=zcu (t:=t) hs hun;generalize za5 t (z7 t.sec)=t2 at *;have sz_t2:=zO t2;generalize zh t2=D_t2 at *;clear hs hb hrm hsn hv hl12 hun hn;simp only[zh,zr,z6,z7,zYS,zt] at *;exact zW
 rw[zYP c0];replace c0:t.sec.shards[0].live=true:=by simpa using c0
 by_cases c1:zf8 t=0
 ·rw[zYQ c1];rw[c1] at hrm;have hd:=zcu (t:=t) hs hun;generalize za5 t (z7 t.sec)=t2 at *;have sz_t2:=zO t2;generalize zh t2=D_t2 at *;clear hs hb hv hl12 hun hn c1;simp only[zh,zr,z6,z7,zeD,zcd,zaE,zbS,zYS,zYU,zt] at *;exact zW
 rw[zYP c1];have htk:=zXv t.sec.dead (zf8 t) t.sec.snap.epoch zo;have htl:=zEb t.sec.dead (zf8 t) t.sec.snap.epoch;generalize zf8 t=rm at *;generalize zhj t.sec.dead rm t.sec.snap.epoch=d at *;obtain⟨d1,l,d3⟩:=d;simp only at *
 by_cases c2:l.length=0
 ·rw[zYQ c2];have e0:l=[]:=zZC.1 c2;subst e0;have hd:=zcu (t:=t) hs hun;generalize za5 t (z7 t.sec)=t2 at *;have sz_t2:=zO t2;generalize zh t2=D_t2 at *;clear hs hb hv hl12 hun hn htl;simp only[zh,zr,z6,zF,z7,zeD,zcd,zaE,zbS,zYS,zYU,zt] at *;exact zW
 ·rw[zYP c2];have hlp:=zTP t t.sec.shards[0] d1 l zo ⟨[],0⟩ ⟨by simp,by simp⟩;have hab:=zt0 t.sec.shards[0] (l.map zbA) hb (by rw[zY3];omega);have hla:=zrC hl12 (l.map zbA);have hoi:OI t.sec { z7 t.sec with carry:=l.map zbA,shards:=[(zge t.sec.shards[0] (l.map zbA)).1],dead:=d1,order:=[1,0] }:=by
   have q:=hs.dead hk hn hla (d:=d1) zo (ord:=[1,0]) (.inr rfl) (ca:=l.map zbA) (by rw[zY3];omega);exact q
  have hd:=zcu (t:=t) hs hoi;clear hoi hla;generalize zge t.sec.shards[0] (l.map zbA)=y at *;obtain⟨y1,y2⟩:=y;simp only at *;have eg:(l.map fun m=>(⟨m.id,m.gen,(zcb (zbA m) t.sec.shards[0].low t.sec.shards[0].high).route,0⟩:Grant))=l.map (rdG t.sec.shards[0]):=rfl;rw[eg];clear eg;generalize za5 t { z7 t.sec with carry:=l.map zbA,shards:=[y1],dead:=d1,order:=[1,0] }=t2 at *;have sz_t2:=zO t2;generalize zh t2=D_t2 at *;clear hs hb hv hl12 hun hn
  cases l with
  | nil=>exact absurd rfl c2
  | cons l0 ls=>
   clear c2;simp only[zi6,zmm,accC,zai,evA,tkZ,zh,zr,z6,zF,z7,zeD,zcd,zaE,zbS,zZq,zZb,zZd,zZh,zYW,zY3,zYS,zYU,zt,zZg] at *;exact zW
theorem zT3(a:zm)(t:zq)(n:Int)(h:zan t 8 8≠0):zd G 105 [.d (zl a),.d (zh t),.d (.int .i64 n)] []=some (.d (.tup [zl zx,zh zJ,.sl [],.int .i64 (zan t 8 8)]),[]):=by
 have hg:=zeV t 8 8;have hf:=zc4 (zan t 8 8);generalize zan t 8 8=ge at *;have sz_zTask:=zO zJ;generalize zh zJ=D_zTask at *;have sz_t:=zO t;generalize zh t=D_t at *;have sz_zArena:=zay zx;generalize zl zx=D_zArena at *;exact zW
theorem zT5{u:Setup}{a:zm}{t:zq}{n N:Int}(hu:zaX u=true)(ha:AI u a)(ht:TI u N t)(hN:N<=999999):zd G 105 [.d (zl a),.d (zh t),.d (.int .i64 n)] []=some (.d (.tup [zl (zd1 a t n).1,zh (zd1 a t n).2.1,.sl ((zd1 a t n).2.2.1.map zaE),.int .i64 (zd1 a t n).2.2.2]),[]):=by
 unfold zd1
 by_cases c0:zan t 8 8=0
 rotate_left
 ·rw[zYQ c0];exact zT3 a t n c0
 rw[zYP (fun q=>q c0)];have hg:=zeV t 8 8;rw[c0] at hg;obtain⟨g1,g2⟩:=zeW c0;have hen:=zh8 ht g1;clear g1
 by_cases c1:t.pc=0
 ·rw[zYQ c1];have hdl:=zfc ha.dv;have hld:=zoB a;have hho:=zBA a.dir t.inv.home zo;generalize zc6 a.dir t.inv.home=k at *;have hse:=zmA { t with dir:=a.dir,slot:=k } [k,t.setup.slots] 1 (by simp);generalize zcc { t with dir:=a.dir,slot:=k } [k,t.setup.slots] 1=t2 at *;have sz_t2:=zO t2;generalize zh t2=D_t2 at *;replace c1:=zY8 c1;clear ht ha hu;simp only[zh,zat,zt,zYU,zYS] at *;exact zW
 rw[zYP c1];have k4:=ht.se ⟨c1,by omega⟩;have hgo:=zlw a t n (zmz hu ha k4.si zo);have hgk:=zlx (n:=n) ha k4.si k4.ed;simp only;generalize goT a t n=g at *;obtain⟨a2,t2,b1,b2,e⟩:=g;simp only at *;replace c1:=zYV c1
 by_cases c4:e=0
 rotate_left
 ·rw[zYQ c4];have hf:=zc4 e;unfold zbu;clear hgk ht ha hu k4;have sz_zTask:=zO zJ;generalize zh zJ=D_zTask at *;have sz_zArena:=zay zx;generalize zl zx=D_zArena at *;have sz_t2:=zO t2;generalize zh t2=D_t2 at *;have sz_a2:=zay a2;generalize zl a2=D_a2 at *;simp only[zh] at *;exact zW
 subst c4;simp only[ne_eq,zY2,if_false];obtain⟨h1,s,h2,hSI,hKe,ho,h4,h9⟩:=hgk rfl;have h3:zbe u (N+1) t.inv s:=k4.keep hSI hKe (by rw[ho];exact k4.ed);have hen2:t2.entry=t.entry/\t2.results=t.results/\t2.inv=t.inv/\t2.sec=s:=by rw[h2];exact⟨rfl,rfl,rfl,rfl⟩
 obtain⟨q1,q2,q3,q4⟩:=hen2
 cases b1
 rotate_left
 ·simp only[if_true];have hk:t2.sec.shards.length=1:=by rw[q4];exact (zgE h3 ht.iv (.inl (h4.1 rfl))).2.1 zo
  have hn:t2.sec.lock.cells.length=2:=by
   rw[q4];obtain⟨c,_,_,e⟩:=h3.c8 zo;rw[e];rfl
  have hd:=zT0 (t:=t2) (by rw[q4];exact h3.si) hk hn;generalize zdu t2=r at *;obtain⟨t3,l⟩:=r;clear ht ha hu k4 h1 h2 h3 h4 h9 ho hSI hKe q1 q2 q3 q4 hk hn;simp only at *;have sz_t2:=zO t2;generalize zh t2=D_t2 at *;have sz_t3:=zO t3;generalize zh t3=D_t3 at *;simp only[zh] at *;exact zW
 ·simp only[zYX,if_false]
  cases b2
  ·simp only[if_true];clear ht ha hu k4 h1 h2 h3 h4 h9 ho hSI hKe q1 q2 q3 q4;have sz_t2:=zO t2;generalize zh t2=D_t2 at *;simp only[zh] at *;exact zW
  ·simp only[zZK,if_false];have hk:t2.sec.shards.length=1:=by rw[q4];exact (zgE h3 ht.iv (.inr (h9.1 rfl))).2.1 zo
   have hv:zU t2.sec.shards[0]=0:=by
    have hs:SI u (N+1) t2.sec:=by rw[q4];exact h3.si
    exact (hs.sv _ (zY4 (show 0<t2.sec.shards.length by omega))).1
   have hrm:=zDE hk hv;have hoc:t2.sec.out.carry.length<=1000:=by rw[q4];exact h3.si.oc.1
   rw[zdc hk]
   by_cases c5:t2.sec.shards[0].live=false
   ·rw[zYQ c5];clear ht ha hu k4 h1 h2 h3 h4 h9 ho hSI hKe q1 q2 q3 q4 hv hrm;simp only[zh] at *;exact zW
   ·rw[zYP c5];replace c5:t2.sec.shards[0].live=true:=by simpa using c5
    generalize zf8 t2=rm at *;have hnx:=ze1 t2 { zah with moved:=t2.sec.out.carry.length,err:=if rm=0 then 3 else 0 } n (by rw[q1];exact hen.1) (by rw[q2];exact hen.2);clear ht ha hu k4 h1 h2 h3 h4 h9 ho hSI hKe q1 q2 q3 q4 hv
    by_cases c6:rm=0
    ·subst c6;simp only[if_true] at *;generalize zbo t2 { zah with moved:=t2.sec.out.carry.length,err:=3 } n=t3 at *;have sz_t3:=zO t3;generalize zh t3=D_t3 at *;simp only[zh,zaj,zah,zYS] at *;exact zW
    ·rw[zYP c6] at hnx ⊢;generalize zbo t2 { zah with moved:=t2.sec.out.carry.length,err:=0 } n=t3 at *;have sz_t3:=zO t3;generalize zh t3=D_t3 at *;simp only[zh,zaj,zah,zYS] at *;exact zW
theorem zG1(a:zm)(t:zq)(n:Int)(h:zan t 7 7≠0):zd G 104 [.d (zl a),.d (zh t),.d (.int .i64 n)] []=some (.d (.tup [zl zx,zh zJ,.sl [],.int .i64 (zan t 7 7)]),[]):=by
 have hg:=zeV t 7 7;have hf:=zc4 (zan t 7 7);generalize zan t 7 7=ge at *;have sz_zTask:=zO zJ;generalize zh zJ=D_zTask at *;have sz_t:=zO t;generalize zh t=D_t at *;have sz_zArena:=zay zx;generalize zl zx=D_zArena at *;exact zW
theorem zTt(l:List Stripe):(!l.any zhR)=zo0 l:=by
 unfold zo0
 induction l with
 | nil=>rfl
 | cons x l ih=>rw[z0l,zZ0,Bool.not_or,ih]
theorem zG3{u:Setup}{a:zm}{t:zq}{n N:Int}(hu:zaX u=true)(ha:AI u a)(ht:TI u N t):zd G 104 [.d (zl a),.d (zh t),.d (.int .i64 n)] []=some (.d (.tup [zl (zdH a t n).1,zh (zdH a t n).2.1,.sl ((zdH a t n).2.2.1.map zaE),.int .i64 (zdH a t n).2.2.2]),[]):=by
 unfold zdH
 by_cases c0:zan t 7 7=0
 rotate_left
 ·rw[zYQ c0];exact zG1 a t n c0
 rw[zYP (fun q=>q c0)];have hg:=zeV t 7 7;rw[c0] at hg;obtain⟨g1,g2⟩:=zeW c0;have hen:=zh8 ht g1;clear g1;have hb:=zkH hu;have hsl:=ha.sl;have hst:=ha.st;have hfs:=ht.fs;have hsu:t.setup.slots=u.slots:=by rw[ht.su]
 have hw:=zj6 a 1;simp only[zgZ,if_true] at hw
 by_cases c1:t.pc=0
 ·rw[zYQ c1];replace c1:=zY8 c1;clear ht ha hu hsu;simp only[zh,zYS] at *;exact zW
 rw[zYP c1]
 by_cases c2:t.pc=1
 ·rw[zYQ c2];have hl:=zoC a t.first.length zo hst;simp only;generalize zcm a t.first.length=r at *;obtain⟨x,e⟩:=r;simp only at *
  by_cases c3:e=0
  ·subst c3;simp only[ne_eq,zY2,if_false];have hq:=zTs (t.first++[x]) (by simp only[zYZ,zZp];omega);rw[zTt] at hq;generalize zo0 (t.first++[x])=q at *;replace c1:=zYV c1;replace c2:=zY8 c2
   by_cases c4:((t.first++[x]).length:Int)=t.setup.slots
   ·simp only[c4,if_true];have c5:((t.first.length:Int)+1=t.setup.slots)=True:=zY8 (by simpa using c4);clear ht ha hu hsu c4
    cases q
    ·simp only[zYX,if_false,zh,zY5,zYU,zYS] at *;exact zW
    ·simp only[if_true,zh,zY5,zYU,zYS] at *;exact zW
   ·simp only[c4,if_false];have c5:((t.first.length:Int)+1=t.setup.slots)=False:=zYV (by simpa using c4);clear ht ha hu hsu c4 hq;simp only[zh,zY5,zYU,zYS] at *;exact zW
  ·rw[zYQ c3];have hf:=zc4 e;clear ht ha hu hsu;replace c1:=zYV c1;replace c2:=zY8 c2;have sz_zTask:=zO zJ;generalize zh zJ=D_zTask at *;have sz_zArena:=zay zx;generalize zl zx=D_zArena at *;simp only[zh] at *;exact zW
 rw[zYP c2]
 by_cases c3:t.pc=2
 ·rw[zYQ c3];have hl:=zoC a t.second.length zo hst;simp only;generalize zcm a t.second.length=r at *;obtain⟨x,e⟩:=r;simp only at *
  by_cases c4:e=0
  ·subst c4;simp only[ne_eq,zY2,if_false];have hq:=zVy t.first (t.second++[x]) zo (by simp only[zYZ,zZp];omega);replace c1:=zYV c1;replace c2:=zYV c2;replace c3:=zY8 c3;have d1:(t.second.length=0)=(((t.second.length:Int)=0)):=propext zo;simp only[d1];clear d1
   by_cases c5:((t.second++[x]).length:Int)=t.setup.slots
   ·simp only[c5,if_true];have c6:((t.second.length:Int)+1=t.setup.slots)=True:=zY8 (by simpa using c5);clear ht ha hu hsu c5
    by_cases c7:t.first=t.second++[x]
    ·rw[zZe c7] at hq;rw[zYQ c7]
     by_cases c8:(t.second.length:Int)=0
     ·simp only[c8,if_true];replace c8:=zY8 c8;clear c7;simp only[zh,zY5,zYU,zYS] at *;exact zW
     ·simp only[c8,if_false];replace c8:=zYV c8;clear c7;simp only[zh,zY5,zYU,zYS] at *;exact zW
    ·rw[zZc c7] at hq;simp only[c7,if_false]
     by_cases c8:(t.second.length:Int)=0
     ·simp only[c8,if_true];replace c8:=zY8 c8;clear c7;simp only[zh,zY5,zYU,zYS] at *;exact zW
     ·simp only[c8,if_false];replace c8:=zYV c8;clear c7;simp only[zh,zY5,zYU,zYS] at *;exact zW
   ·simp only[c5,if_false];have c6:((t.second.length:Int)+1=t.setup.slots)=False:=zYV (by simpa using c5);clear ht ha hu hsu c5 hq
    by_cases c8:(t.second.length:Int)=0
    ·simp only[c8,if_true];replace c8:=zY8 c8;simp only[zh,zY5,zYU,zYS] at *;exact zW
    ·simp only[c8,if_false];replace c8:=zYV c8;simp only[zh,zY5,zYU,zYS] at *;exact zW
  ·rw[zYQ c4];have hf:=zc4 e;clear ht ha hu hsu;replace c1:=zYV c1;replace c2:=zYV c2;replace c3:=zY8 c3;have sz_zTask:=zO zJ;generalize zh zJ=D_zTask at *;have sz_zArena:=zay zx;generalize zl zx=D_zArena at *;simp only[zh] at *;exact zW
 rw[zYP c3]
 by_cases c4:a.epoch=t.loaded
 ·rw[zYP (fun q=>q c4)];have hs:=zXk t.first a.epoch zo;have hev:=znw t 8 t.id;simp only;generalize zd7 t.first a.epoch t.first.length=p at *;obtain⟨p1,p2⟩:=p;simp only at *;have hnx:=ze1 t { zah with ready:=p1,leased:=p2 } n hen.1 hen.2;generalize zbo t { zah with ready:=p1,leased:=p2 } n=t2 at *;have sz_t2:=zO t2;generalize zh t2=D_t2 at *;clear ht ha hu hsu;replace c1:=zYV c1;replace c2:=zYV c2;replace c3:=zYV c3;replace c4:=zY8 c4;simp only[zh,zaE,evT,zbS,zaj,zah,zYS,zYU] at *;exact zW
 ·rw[zYQ c4];clear ht ha hu hsu;replace c1:=zYV c1;replace c2:=zYV c2;replace c3:=zYV c3;replace c4:=zYV c4;simp only[zh] at *;exact zW
theorem zTd(a:zm)(t:zq)(n:Int)(he:0<=t.entry/\t.entry<=1000)(hl:t.results.length<=1000)(hd:0<=t.loaded/\t.loaded<=1073741824):zd G 103 [.d (zl a),.d (zh t),.d (.int .i64 n)] []=some (.d (.tup [zl (zdZ a t n).1,zh (zdZ a t n).2.1,.sl ((zdZ a t n).2.2.1.map zaE),.int .i64 (zdZ a t n).2.2.2]),[]):=by
 have hg:=zeV t 6 6;have hf1:=zc4 (zan t 6 6);have hv:=znw t 7 n;have hw:=zj6 a 1;simp only[zgZ,if_true] at hw;unfold zdZ;generalize zan t 6 6=ge at *
 by_cases c0:ge=0
 ·subst c0;simp only[ne_eq,zY2,if_false];clear hf1
  by_cases c1:t.pc=0
  ·rw[zYQ c1];replace c1:=zY8 c1
   by_cases c2:a.epoch=65536
   ·rw[zYQ c2];have hn1:=ze1 { t with loaded:=a.epoch } (zaW 6) n he hl;generalize zbo { t with loaded:=a.epoch } (zaW 6) n=t2 at *;have sz_t2:=zO t2;generalize zh t2=D_t2 at *;replace c2:=zY8 c2;simp only[zh,zaW,zaj,zah,evT,zbS,zYS,zYU,zaE] at *;exact zW
   ·rw[zYP c2];replace c2:=zYV c2;simp only[zh,evT,zbS,zYS,zaE] at *;exact zW
  ·rw[zYP c1];replace c1:=zYV c1;have hc:=zyy a 1 t.loaded (t.loaded+1);generalize casWord a 1 t.loaded (t.loaded+1)=c at *;obtain⟨c1,c2,c3⟩:=c
   by_cases c4:c3=0
   ·subst c4;simp only[ne_eq,zY2,if_false] at *
    cases c2
    ·simp only[if_true] at *;simp only[zh,evT,zbS,zYS,zaE] at *;exact zW
    ·simp only[zZK,if_false] at *;have hn1:=ze1 t zah n he hl;generalize zbo t zah n=t2 at *;have sz_t2:=zO t2;generalize zh t2=D_t2 at *;simp only[zh,zaj,zah,evT,zbS,zYS,zYU,zaE] at *;exact zW
   ·simp only at *;rw[zYQ c4];have hf1:=zc4 c3;have sz_zTask:=zO zJ;generalize zh zJ=D_zTask at *;simp only[zh,evT,zbS,zYS,zaE] at *;exact zW
 ·rw[zYQ c0];have sz_zTask:=zO zJ;generalize zh zJ=D_zTask at *;simp only[zh,evT,zbS,zYS,zaE] at *;exact zW
theorem zS2{u:Setup}{N:Int}{t:zq}(hs:SI u N t.sec)(hk:t.sec.shards.length=1):zd G 178 [.d (zh t)] []=some (.d (.tup [z6 (zdF t).1,zaj (zdF t).2.1,.sl ((zdF t).2.2.map zaE)]),[]):=by
 have hu:=zhk t.sec;have hv:=(hs.sv _ (zY4 (show 0<t.sec.shards.length by omega))).1;have hb:za0 t.sec.shards[0]:=zfK (zbJ hv);have hdd:=hs.dv;unfold zdF;simp only;rw[zdc hk];clear hs hv
 by_cases c1:t.sec.shards[0].live=false
 ·rw[zYQ c1];simp only[zh,zr,z6,z7,zaW,zaj,zah,zYS,zt] at *;exact zW
 rw[zYP c1];replace c1:t.sec.shards[0].live=true:=by simpa using c1
 have hrm:=zDF t.sec.dead zo;have hbu:=zF8 t.sec.shards[0] (zgB t.sec.dead) t.sec.snap.epoch t.setup.limit hb;have hbl:=zuu t.sec.shards[0] (zgB t.sec.dead) t.sec.snap.epoch t.setup.limit;generalize zgB t.sec.dead=rm at *;generalize zfL t.sec.shards[0] rm t.sec.snap.epoch t.setup.limit=x at *;obtain⟨x1,l,x3⟩:=x;simp only at *
 by_cases c2:l.length=0
 ·rw[zYQ c2];have e0:l=[]:=zZC.1 c2;subst e0;simp only[zh,zr,z6,z7,zaW,zaj,zah,zF,zYS,zt] at *;exact zW
 ·rw[zYP c2];have hpt:=zTl t.sec.dead l zo zo zo;generalize zi3 t.sec.dead l=d at *;obtain⟨d1,d2⟩:=d;simp only[zh,zr,z6,z7,zaW,zaj,zah,zF,zYS,zYU,zt] at *;exact zW
def PF(F Fp:Nat)(lo hi:Int)(cl:zq->List Int):Prop:=(F=106/\Fp=173/\lo=9/\hi=9/\cl=zbE)\/(F=107/\Fp=175/\lo=10/\hi=10/\cl=zbE)\/(F=108/\Fp=176/\lo=11/\hi=11/\cl=zbE)\/(F=109/\Fp=177/\lo=12/\hi=13/\cl=fun t=>[t.inv.from_])\/(F=110/\Fp=178/\lo=14/\hi=14/\cl=fun t=>[t.inv.from_,t.setup.slots])
theorem pfl{F Fp:Nat}{lo hi:Int}{cl:zq->List Int}(hF:PF F Fp lo hi cl)(a:zm)(t:zq)(n:Int)(h:zan t lo hi≠0):zd G F [.d (zl a),.d (zh t),.d (.int .i64 n)] []=some (.d (.tup [zl zx,zh zJ,.sl [],.int .i64 (zan t lo hi)]),[]):=by
 have hg:=zeV t lo hi;have hf:=zc4 (zan t lo hi);generalize zan t lo hi=ge at *;replace h:=zYV h;have sz_zTask:=zO zJ;generalize zh zJ=D_zTask at *;have sz_t:=zO t;generalize zh t=D_t at *;have sz_zArena:=zay zx;generalize zl zx=D_zArena at *
 rcases hF with hF|hF|hF|hF|hF<;>obtain⟨rfl,rfl,rfl,rfl,rfl⟩:=hF
 ·exact zW
 ·exact zW
 ·exact zW
 ·exact zW
 ·exact zW
theorem pw {F Fp:Nat} {lo hi:Int} {cl:zq->List Int} (hF:PF F Fp lo hi cl) (a a2:zm) (t t1 t2:zq) (n e:Int) (b1 b2:Bool) (R:D) (hg:zd G 148 [.d (zh t),.d (.int .i64 lo),.d (.int .i64 hi)] []=some (.d (.int .i64 0),[]))
    (hse:t.pc=0->zd G 161 [.d (zh t),.d (.sl (zt (cl t))),.d (.int .i64 1)] []=some (.d (zh t1),[])) (hs0:¬t.pc=0->t1=t)
    (hgo:zd G 156 [.d (zl a),.d (zh t1),.d (.int .i64 n)] []=some (.d (.tup [zl a2,zh t2,.bool b1,.bool b2,.int .i64 e]),[]))
    (hR:(¬e=0/\R= .tup [zl zx,zh zJ,.sl [],.int .i64 e])\/(e=0/\b1=true/\∃(o:zb5) (r:Result) (l:List D) (t3:zq),zd G Fp [.d (zh t2)] []=some (.d (.tup [z6 o,zaj r,.sl l]),[])/\zd G 174 [.d (zh t2),.d (z6 o)] []=some (.d (zh t3),[])/\R= .tup [zl a2,zh t3,.sl l,.int .i64 0])\/(e=0/\b1=false/\b2=false/\R= .tup [zl a2,zh t2,.sl [],.int .i64 0])
     \/ (e=0/\b1=false/\b2=true/\∃(o:zb5) (r:Result) (l:List D) (t3:zq),zd G Fp [.d (zh t2)] []=some (.d (.tup [z6 o,zaj r,.sl l]),[])/\zd G 151 [.d (zh t2),.d (zaj r),.d (.int .i64 n)] []=some (.d (zh t3),[])/\R= .tup [zl a2,zh t3,.sl [],.int .i64 0])):zd G F [.d (zl a),.d (zh t),.d (.int .i64 n)] []=some (.d R,[]):=by
 have hpa:=zSG t.inv.from_ t.inv.to;have hf:=zc4 e;have sz_zTask:=zO zJ;generalize zh zJ=D_zTask at *;have sz_zArena:=zay zx;generalize zl zx=D_zArena at *;have sz_a2:=zay a2;generalize zl a2=D_a2 at *;have sz_t2:=zO t2;generalize zh t2=D_t2 at *
 by_cases c1:t.pc=0
 ·replace hse:=hse c1;replace c1:=zY8 c1;clear hs0;have sz_t1:=zO t1;generalize zh t1=D_t1 at *
  rcases hR with ⟨c2,rfl⟩|⟨rfl,rfl,o,r,l,t3,hp,hd,rfl⟩|⟨rfl,rfl,rfl,rfl⟩|⟨rfl,rfl,rfl,o,r,l,t3,hp,hd,rfl⟩
  ·replace c2:=zYV c2
   rcases hF with hF|hF|hF|hF|hF<;>obtain⟨rfl,rfl,rfl,rfl,rfl⟩:=hF
   all_goals simp only[zh,zbE,zt,zYU,zYS] at *
   all_goals first|(exact zW)|(exact zW)|(exact zW)|(exact zW)|(exact zW)
  ·have sz_o:=zns o;generalize z6 o=D_o at *;have sz_r:=zlp r;generalize zaj r=D_r at *;have sz_t3:=zO t3;generalize zh t3=D_t3 at *
   rcases hF with hF|hF|hF|hF|hF<;>obtain⟨rfl,rfl,rfl,rfl,rfl⟩:=hF
   all_goals simp only[zh,zbE,zt,zYU,zYS] at *
   all_goals first|(exact zW)|(exact zW)|(exact zW)|(exact zW)|(exact zW)
  ·rcases hF with hF|hF|hF|hF|hF<;>obtain⟨rfl,rfl,rfl,rfl,rfl⟩:=hF
   all_goals simp only[zh,zbE,zt,zYU,zYS] at *
   all_goals first|(exact zW)|(exact zW)|(exact zW)|(exact zW)|(exact zW)
  ·have sz_o:=zns o;generalize z6 o=D_o at *;have sz_r:=zlp r;generalize zaj r=D_r at *;have sz_t3:=zO t3;generalize zh t3=D_t3 at *
   rcases hF with hF|hF|hF|hF|hF<;>obtain⟨rfl,rfl,rfl,rfl,rfl⟩:=hF
   all_goals simp only[zh,zbE,zt,zYU,zYS] at *
   all_goals first|(exact zW)|(exact zW)|(exact zW)|(exact zW)|(exact zW)
 ·replace hs0:=hs0 c1;subst hs0;replace c1:=zYV c1;clear hse
  rcases hR with ⟨c2,rfl⟩|⟨rfl,rfl,o,r,l,t3,hp,hd,rfl⟩|⟨rfl,rfl,rfl,rfl⟩|⟨rfl,rfl,rfl,o,r,l,t3,hp,hd,rfl⟩
  ·replace c2:=zYV c2
   rcases hF with hF|hF|hF|hF|hF<;>obtain⟨rfl,rfl,rfl,rfl,rfl⟩:=hF
   all_goals simp only[zh,zbE,zt,zYU,zYS] at *
   all_goals first|(exact zW)|(exact zW)|(exact zW)|(exact zW)|(exact zW)
  ·have sz_o:=zns o;generalize z6 o=D_o at *;have sz_r:=zlp r;generalize zaj r=D_r at *;have sz_t3:=zO t3;generalize zh t3=D_t3 at *
   rcases hF with hF|hF|hF|hF|hF<;>obtain⟨rfl,rfl,rfl,rfl,rfl⟩:=hF
   all_goals simp only[zh,zbE,zt,zYU,zYS] at *
   all_goals first|(exact zW)|(exact zW)|(exact zW)|(exact zW)|(exact zW)
  ·rcases hF with hF|hF|hF|hF|hF<;>obtain⟨rfl,rfl,rfl,rfl,rfl⟩:=hF
   all_goals simp only[zh,zbE,zt,zYU,zYS] at *
   all_goals first|(exact zW)|(exact zW)|(exact zW)|(exact zW)|(exact zW)
  ·have sz_o:=zns o;generalize z6 o=D_o at *;have sz_r:=zlp r;generalize zaj r=D_r at *;have sz_t3:=zO t3;generalize zh t3=D_t3 at *
   rcases hF with hF|hF|hF|hF|hF<;>obtain⟨rfl,rfl,rfl,rfl,rfl⟩:=hF
   all_goals simp only[zh,zbE,zt,zYU,zYS] at *
   all_goals first|(exact zW)|(exact zW)|(exact zW)|(exact zW)|(exact zW)
structure zmU(u:Setup)(Fp:Nat)(P:zq->Pln)(lo hi:Int)(cl:zq->List Int):Prop where
 cells:∀ {N:Int} {t:zq},TI u N t->lo<=t.inv.kind/\t.inv.kind<=hi->zgb (cl t) u.slots/\1<=(cl t).length/\(cl t).length<=2/\∀s,SI u N s->s.out.edits.length<=1->s.lock.cells=cl t->zbe u N t.inv s
 plan:∀ {N:Int} {t:zq},zbe u N t.inv t.sec->zbO t.inv u=0->lo<=t.inv.kind/\t.inv.kind<=hi->t.sec.phase=4\/t.sec.phase=9->zd G Fp [.d (zh t)] []=some (.d (.tup [z6 (P t).1,zaj (P t).2.1,.sl ((P t).2.2.map zaE)]),[])/\OI t.sec (P t).1
theorem zmf{u:Setup}{F Fp:Nat}{P:zq->Pln}{lo hi:Int}{cl:zq->List Int}(hF:PF F Fp lo hi cl)(hP:zmU u Fp P lo hi cl)(hlo:9<=lo){a:zm}{t:zq}{n N:Int}(hu:zaX u=true)(ha:AI u a)(ht:TI u N t)(hN:N<=999999):zd G F [.d (zl a),.d (zh t),.d (.int .i64 n)] []=some (.d (.tup [zl (zbg P lo hi cl a t n).1,zh (zbg P lo hi cl a t n).2.1,.sl ((zbg P lo hi cl a t n).2.2.1.map zaE),.int .i64 (zbg P lo hi cl a t n).2.2.2]),[]):=by
 unfold zbg
 by_cases c0:zan t lo hi=0
 rotate_left
 ·rw[zYQ c0];exact pfl hF a t n c0
 rw[zYP (fun q=>q c0)];have hg:=zeV t lo hi;rw[c0] at hg;obtain⟨g1,g2⟩:=zeW c0;have hen:=zh8 ht g1;clear g1;simp only;obtain⟨t1,ht1⟩:∃t1,t1=(if t.pc=0 then zcc t (cl t) 1 else t):=⟨_,rfl⟩;rw[<- ht1];obtain⟨a1,a2,a4,a3⟩:=hP.cells ht g2;have hT:zbe u N t1.inv t1.sec/\t1.entry=t.entry/\t1.results=t.results/\t1.inv=t.inv:=by
  rw[ht1]
  by_cases c1:t.pc=0
  ·rw[zYQ c1];obtain⟨s1,s2,s3⟩:=zpf (N:=N) hu (show t.setup.limit=u.limit by rw[ht.su]) ht.nn a1 a2;exact⟨a3 _ s1 s2 s3,rfl,rfl,rfl⟩
  ·rw[zYP c1];exact⟨ht.se ⟨c1,by omega⟩,rfl,rfl,rfl⟩
 obtain⟨k4,e1,e2,e3⟩:=hT;have hgk:=zlx (n:=n) ha k4.si k4.ed;refine pw hF a (goT a t1 n).1 t t1 (goT a t1 n).2.1 n _ _ _ _ hg (fun c=> ?_) (fun c=>by rw[ht1,zYP c]) (zlw a t1 n (zmz hu ha k4.si zo)) ?_
 ·rw[ht1,zYQ c];exact zmA t (cl t) 1 zo
 clear hg ht1 a1 a2 a3 a4;generalize goT a t1 n=g at *;obtain⟨a2,t2,b1,b2,e⟩:=g;simp only at *
 by_cases c4:e=0
 rotate_left
 ·exact .inl ⟨c4,by rw[zYQ c4];rfl⟩
 subst c4;obtain⟨h1,s,h2,hSI,hK,ho,h4,h9⟩:=hgk rfl;have h3:zbe u (N+1) t1.inv s:=k4.keep hSI hK (by rw[ho];exact k4.ed);have hen2:t2.entry=t.entry/\t2.results=t.results/\t2.inv=t1.inv/\t2.sec=s:=by rw[h2];exact⟨e1,e2,rfl,rfl⟩
 obtain⟨q1,q2,q3,q4⟩:=hen2;have hp:=hP.plan (N:=N+1) (t:=t2) (by rw[q3,q4];exact h3) (by rw[q3,e3];exact ht.iv) (by rw[q3,e3];exact g2);rw[q4] at hp;rw[zYP (fun q=>q rfl)]
 cases b1
 ·cases b2
  ·exact .inr (.inr (.inl ⟨rfl,rfl,rfl,rfl⟩))
  ·exact .inr (.inr (.inr ⟨rfl,rfl,rfl,_,_,_,_,(hp (.inr (h9.1 rfl))).1,ze1 t2 _ n (by rw[q1];exact hen.1) (by rw[q2];exact hen.2),rfl⟩))
 ·obtain⟨p1,p2⟩:=hp (.inl (h4.1 rfl));exact .inr (.inl ⟨rfl,rfl,_,_,_,_,p1,zcu (t:=t2) (by rw[q4];exact h3.si) (by rw[q4];exact p2),rfl⟩)
theorem zsU{u:Setup}{Fp:Nat}{P:zq->Pln}{k:Int}(hk:9<=k/\k<=11)(h1:∀ {N:Int} {t:zq},SI u N t.sec->t.sec.shards.length=2->zd G Fp [.d (zh t)] []=some (.d (.tup [z6 (P t).1,zaj (P t).2.1,.sl ((P t).2.2.map zaE)]),[]))(h2:∀ {N:Int} {t:zq},SI u N t.sec->t.sec.shards.length=2->t.sec.lock.cells.length=2->OI t.sec (P t).1):zmU u Fp P k k zbE:=
 ⟨fun {N t} ht g=>by
  obtain⟨v1,v2,v3⟩:=zjV ht.iv zo;exact⟨zmY v1 v2 v3,by unfold zbE zey;split<;>simp,by unfold zbE zey;split<;>simp,fun s s1 s2 s3=>⟨s1,s2,fun q=>by omega,fun q=>by omega,fun _=>s3,fun q=>by omega,fun q=>by omega⟩⟩,
 fun {N t} h iv g hp=>by
  have kk:=(zgE h iv hp).2.2.1 zo;exact⟨h1 h.si kk,h2 h.si kk (by rw[h.c9 zo];unfold zey;split<;>rfl)⟩⟩
theorem zSL{u:Setup}:zmU u 177 zd8 12 13 (fun t=>[t.inv.from_]):=
 ⟨fun {N t} ht g=>by
  have v:0<=t.inv.from_/\t.inv.from_<=u.slots:=by
   by_cases q:t.inv.kind=13
   ·exact zBJ ht.iv q
   ·have:=zjU ht.iv (.inl zo);omega
  exact⟨zpS v,by simp,by simp,fun s s1 s2 s3=>⟨s1,s2,fun q=>by omega,fun q=>by omega,fun q=>by omega,fun _=>s3,fun q=>by omega⟩⟩,
 fun {N t} h iv g hp=>by
  have kk:=(zgE h iv hp).2.2.2.1 zo;exact⟨zS1 h.si kk,zD8 h.si kk⟩⟩
theorem zSM{u:Setup}:zmU u 178 zdF 14 14 (fun t=>[t.inv.from_,t.setup.slots]):=
 ⟨fun {N t} ht g=>by
  have v:=zjU ht.iv (.inr zo);exact⟨zk5 v.1 (by rw[ht.su];exact v.2) (by rw[ht.su];exact z01 _),by simp,by simp,fun s s1 s2 s3=>⟨s1,s2,fun q=>by omega,fun q=>by omega,fun q=>by omega,fun q=>by omega,fun _=>by rw[s3,ht.su]⟩⟩,
 fun {N t} h iv g hp=>by
  have kk:=(zgE h iv hp).2.2.2.2 zo;exact⟨zS2 h.si kk,zuv h.si kk (by rw[h.c14 zo];rfl)⟩⟩
theorem zfQ {F:Nat} {a:zm} {t:zq} {n:Int} (r:Stp) (d0:t.done=false) (h:zd G F [.d (zl a),.d (zh t),.d (.int .i64 n)] []=some (.d (.tup [zl r.1,zh r.2.1,.sl (r.2.2.1.map zaE),.int .i64 r.2.2.2]),[]))
    (hF:(t.inv.kind=1/\F=100)\/(t.inv.kind=2/\F=101)\/(t.inv.kind=3/\F=102)\/(t.inv.kind=4/\F=102)\/(t.inv.kind=5/\F=102)\/(t.inv.kind=6/\F=103)\/(t.inv.kind=7/\F=104)\/(t.inv.kind=8/\F=105)\/(t.inv.kind=9/\F=106)\/(t.inv.kind=10/\F=107)\/(t.inv.kind=11/\F=108)\/(t.inv.kind=12/\F=109)\/(t.inv.kind=13/\F=109)\/(t.inv.kind=14/\F=110)):zd G 56 [.d (zl a),.d (zh t),.d (.int .i64 n)] []=some (.d (.tup [zl r.1,zh r.2.1,.sl (r.2.2.1.map zaE),.int .i64 r.2.2.2]),[]):=by
 obtain⟨r1,r2,r3,r4⟩:=r;simp only at *;have sz_r1:=zay r1;generalize zl r1=D_r1 at *;have sz_r2:=zO r2;generalize zh r2=D_r2 at *;obtain⟨nu,iv,t3,t4,t5,t6,t7,t8,t9,t10,t11,t12,t13,t14,t15,t16,t17,t18⟩:=t;obtain⟨v1,v2,v3,v4,v5,v6,v7,v8⟩:=iv;simp only at d0 hF;subst d0
 rcases hF with hF|hF|hF|hF|hF|hF|hF|hF|hF|hF|hF|hF|hF|hF<;>obtain⟨rfl,rfl⟩:=hF
 all_goals simp only[zh,zbV] at *
 all_goals (exact zW)
theorem zXC{K:Tok}(hK:zgO K){u:Setup}{a:zm}{t:zq}{n N:Int}(hu:zaX u=true)(ha:AI u a)(ht:TI u N t)(hN:N<=999999)(hb:∀b∈t.inv.tokens,b.length<=4294967296):zd G 56 [.d (zl a),.d (zh t),.d (.int .i64 n)] []=some (.d (.tup [zl (zbL K a t n).1,zh (zbL K a t n).2.1,.sl ((zbL K a t n).2.2.1.map zaE),.int .i64 (zbL K a t n).2.2.2]),[]):=by
 have hk:=zBK ht.iv;unfold zbL
 by_cases c0:t.done=true
 ·rw[zYQ c0];have hf:=zc4 7;unfold zbu;have sz_zTask:=zO zJ;generalize zh zJ=D_zTask at *;have sz_zArena:=zay zx;generalize zl zx=D_zArena at *;clear hk ht hb;simp only[zh,c0];exact zW
 rw[zYP c0];have d0:t.done=false:=by simpa using c0
 by_cases k1:t.inv.kind=1
 ·rw[zYQ k1];exact zfQ _ d0 (zWa hK hu ha ht hN) (by rw[k1];decide)
 rw[zYP k1]
 by_cases k2:t.inv.kind=2
 ·rw[zYQ k2];exact zfQ _ d0 (zTX hK hu ha ht hN) (by rw[k2];decide)
 rw[zYP k2]
 by_cases k3:3<=t.inv.kind/\t.inv.kind<=5
 ·rw[zYQ k3];have q:t.inv.kind=3\/t.inv.kind=4\/t.inv.kind=5:=by omega
  exact zfQ _ d0 (zWn hK hu ha ht hN hb) (by rcases q with q|q|q<;>rw[q]<;>decide)
 rw[zYP k3]
 by_cases k4:t.inv.kind=6
 ·rw[zYQ k4];exact zfQ _ d0 (zTd a t n (zh8 ht d0).1 (zh8 ht d0).2 ht.ld) (by rw[k4];decide)
 rw[zYP k4]
 by_cases k5:t.inv.kind=7
 ·rw[zYQ k5];exact zfQ _ d0 (zG3 hu ha ht) (by rw[k5];decide)
 rw[zYP k5]
 by_cases k6:t.inv.kind=8
 ·rw[zYQ k6];exact zfQ _ d0 (zT5 hu ha ht hN) (by rw[k6];decide)
 rw[zYP k6]
 by_cases k7:t.inv.kind=9
 ·rw[zYQ k7];exact zfQ _ d0 (zmf (.inl ⟨rfl,rfl,rfl,rfl,rfl⟩) (zsU zo zSY zD3) zo hu ha ht hN) (by rw[k7];decide)
 rw[zYP k7]
 by_cases k8:t.inv.kind=10
 ·rw[zYQ k8];exact zfQ _ d0 (zmf (.inr (.inl ⟨rfl,rfl,rfl,rfl,rfl⟩)) (zsU zo zSZ zD0) zo hu ha ht hN) (by rw[k8];decide)
 rw[zYP k8]
 by_cases k9:t.inv.kind=11
 ·rw[zYQ k9];exact zfQ _ d0 (zmf (.inr (.inr (.inl ⟨rfl,rfl,rfl,rfl,rfl⟩))) (zsU zo zS0 zCs) zo hu ha ht hN) (by rw[k9];decide)
 rw[zYP k9]
 by_cases k10:t.inv.kind=12\/t.inv.kind=13
 ·rw[zYQ k10];exact zfQ _ d0 (zmf (.inr (.inr (.inr (.inl ⟨rfl,rfl,rfl,rfl,rfl⟩)))) zSL zo hu ha ht hN) (by rcases k10 with q|q<;>rw[q]<;>decide)
 rw[zYP k10];have k11:t.inv.kind=14:=by omega
 rw[zYQ k11];exact zfQ _ d0 (zmf (.inr (.inr (.inr (.inr ⟨rfl,rfl,rfl,rfl,rfl⟩)))) zSM zo hu ha ht hN) (by rw[k11];decide)
theorem zGu(b:List UInt8)(hb:b.length<=100):∃h:Int,0<=h/\h<=4294967295/\zd G 270 [.d (.sl (byD b))] []=some (.d (.int .i64 h),[]):=by
 obtain⟨h,g0,g1,hs⟩:=zD7 (90::b) (by simp;omega);refine⟨h,g0,g1,?_⟩;have hlen:(byD b).length=b.length:=by unfold byD;simp
 have hS:=byS b;have hc:byD (90::b)= .int .u8 90::byD b:=rfl;rw[hc] at hs;generalize byD b=bb at *
 rcases bb with _|⟨x,bb⟩
 ·exact zW
 ·exact zW
theorem zzx(h:za3)(q:¬(1<=h.id/\h.id<=1073741824/\1<=h.gen/\h.gen<=65536/\0<=h.route/\h.route<65536/\0<=h.hint/\h.hint<6)):zd G 203 [.d (zaB h)] []=some (.d (.tup [zaD [],.int .i64 1]),[]):=by
 have e:byD []=[]:=rfl;unfold zaD;rw[e];obtain⟨a,b,c,d⟩:=h;simp only[zaB] at *
 by_cases c1:a<1
 ·clear q;exact zW
 by_cases c2:1073741824<a
 ·clear q;exact zW
 by_cases c3:b<1
 ·clear q;exact zW
 by_cases c4:65536<b
 ·clear q;exact zW
 by_cases c5:c<0
 ·clear q;exact zW
 by_cases c6:65536<=c
 ·clear q;exact zW
 by_cases c7:d<0
 ·clear q;exact zW
 by_cases c8:6<=d
 ·clear q;exact zW
 ·omega
theorem zzy(h:za3)(q:1<=h.id/\h.id<=1073741824/\1<=h.gen/\h.gen<=65536/\0<=h.route/\h.route<65536/\0<=h.hint/\h.hint<6):∃c:List UInt8,c.length=16/\zd G 203 [.d (zaB h)] []=some (.d (.tup [zaD c,.int .i64 0]),[]):=by
 obtain⟨a,b,c,d⟩:=h;obtain⟨a1,a2,b1,b2,c1,c2,d1,d2⟩:=q;simp only at a1 a2 b1 b2 c1 c2 d1 d2;obtain⟨x1,l1,p1⟩:=zs0 [113] (by simp) a zo zo;obtain⟨x2,l2,p2⟩:=zTk ([113]++x1) (by simp;omega) b zo zo;obtain⟨x3,l3,p3⟩:=zTj ([113]++x1++x2) (by simp;omega) c zo zo;obtain⟨u,hu⟩:=zgI d;obtain⟨k,k0,k1,hk⟩:=zGu ([113]++x1++x2++x3++[u,0]) (by simp;omega);obtain⟨x4,l4,p4⟩:=zs0 ([113]++x1++x2++x3++[u,0]) (by simp;omega) k k0 k1;refine⟨[113]++x1++x2++x3++[u,0]++x4,by simp;omega,?_⟩;have hb:∀x y:List UInt8,byD (x++y)=byD x++byD y:=fun x y=>by unfold byD;simp
 have e1:byD [113]=[.int .u8 113]:=rfl;have e2:byD [u,0]=[.int .u8 u.toNat,.int .u8 0]:=rfl;have hl:∀x:List UInt8,(byD x).length=x.length:=fun x=>by unfold byD;simp
 unfold zaD;simp only[hb,e1,e2] at *;have y1:=hl x1;have y2:=hl x2;have y3:=hl x3;have y4:=hl x4;have z1:=byS x1;have z2:=byS x2;have z3:=byS x3;have z4:=byS x4;rw[l1] at y1;rw[l2] at y2;rw[l3] at y3;rw[l4] at y4;simp only[zYZ,zYW,zYY,l1,l2,l3,Nat.reduceAdd] at p1 p2 p3 p4;clear hb hl e1 e2;generalize byD x1=w1 at *;generalize byD x2=w2 at *;generalize byD x3=w3 at *;generalize byD x4=w4 at *;simp only[zaB,zZh,zZb,zZF] at *;have hA:∀z:List D,w1++(w2++(w3++z))=w1++(w2++w3)++z:=fun z=>by simp
 rw[hA] at hk;rw[hA] at p4;exact zW
theorem znP(b:List UInt8)(hb:b.length=16)(i k:Int)(q:(i=1/\k=4)\/(i=5/\k=3)\/(i=8/\k=2)\/(i=10/\k=1)):∃v:Int,zd G 221 [.d (.sl (byD b)),.d (.int .i64 i),.d (.int .i64 k)] []=some (.d (.tup [.int .i64 v,.int .i64 0]),[]):=by
 have hlen:(byD b).length=16:=by unfold byD;simp [hb]
 have hg:∀j:Nat,j<16->∃x:UInt8,(byD b)[j]? = some (.int .u8 x.toNat):=fun j hj=>⟨b[j],by unfold byD;simp [zY1 (show j<b.length by omega)]⟩;obtain⟨x1,g1⟩:=hg 1 zo;obtain⟨x2,g2⟩:=hg 2 zo;obtain⟨x3,g3⟩:=hg 3 zo;obtain⟨x4,g4⟩:=hg 4 zo;obtain⟨x5,g5⟩:=hg 5 zo;obtain⟨x6,g6⟩:=hg 6 zo;obtain⟨x7,g7⟩:=hg 7 zo;obtain⟨x8,g8⟩:=hg 8 zo;obtain⟨x9,g9⟩:=hg 9 zo;obtain⟨xa,ga⟩:=hg 10 zo;clear hg;generalize byD b=bb at *
 rcases q with ⟨rfl,rfl⟩|⟨rfl,rfl⟩|⟨rfl,rfl⟩|⟨rfl,rfl⟩
 ·rw[zB znO (by simp)];simp -implicitDefEqProofs (maxSteps:=4000000) (disch:=omega) only[zju,zaC,zgY,zg,go_sem, *];(try simp only[zPr]);repeat' (first|done|rfl|((first|refine zG (fun hq=> ?_) (fun hq=> ?_)|refine zM (fun hq=> ?_) (fun hq=> ?_))<;>(try (first|(exfalso;omega)|contradiction))<;>(try simp -implicitDefEqProofs (maxSteps:=4000000) (disch:=omega) only[zaC,zgY,zg,go_sem, *])<;>(try simp only[zPr])));(all_goals try rfl);(all_goals try (repeat' (first|done|rfl|(exfalso;omega)|contradiction|(refine zI (fun hq=> ?_) (fun hq=> ?_)))))
  all_goals exact⟨_,rfl⟩
 ·rw[zB znO (by simp)];simp -implicitDefEqProofs (maxSteps:=4000000) (disch:=omega) only[zju,zaC,zgY,zg,go_sem, *];(try simp only[zPr]);repeat' (first|done|rfl|((first|refine zG (fun hq=> ?_) (fun hq=> ?_)|refine zM (fun hq=> ?_) (fun hq=> ?_))<;>(try (first|(exfalso;omega)|contradiction))<;>(try simp -implicitDefEqProofs (maxSteps:=4000000) (disch:=omega) only[zaC,zgY,zg,go_sem, *])<;>(try simp only[zPr])));(all_goals try rfl);(all_goals try (repeat' (first|done|rfl|(exfalso;omega)|contradiction|(refine zI (fun hq=> ?_) (fun hq=> ?_)))))
  all_goals exact⟨_,rfl⟩
 ·rw[zB znO (by simp)];simp -implicitDefEqProofs (maxSteps:=4000000) (disch:=omega) only[zju,zaC,zgY,zg,go_sem, *];(try simp only[zPr]);repeat' (first|done|rfl|((first|refine zG (fun hq=> ?_) (fun hq=> ?_)|refine zM (fun hq=> ?_) (fun hq=> ?_))<;>(try (first|(exfalso;omega)|contradiction))<;>(try simp -implicitDefEqProofs (maxSteps:=4000000) (disch:=omega) only[zaC,zgY,zg,go_sem, *])<;>(try simp only[zPr])));(all_goals try rfl);(all_goals try (repeat' (first|done|rfl|(exfalso;omega)|contradiction|(refine zI (fun hq=> ?_) (fun hq=> ?_)))))
  all_goals exact⟨_,rfl⟩
 ·rw[zB znO (by simp)];simp -implicitDefEqProofs (maxSteps:=4000000) (disch:=omega) only[zju,zaC,zgY,zg,go_sem, *];(try simp only[zPr]);repeat' (first|done|rfl|((first|refine zG (fun hq=> ?_) (fun hq=> ?_)|refine zM (fun hq=> ?_) (fun hq=> ?_))<;>(try (first|(exfalso;omega)|contradiction))<;>(try simp -implicitDefEqProofs (maxSteps:=4000000) (disch:=omega) only[zaC,zgY,zg,go_sem, *])<;>(try simp only[zPr])));(all_goals try rfl);(all_goals try (repeat' (first|done|rfl|(exfalso;omega)|contradiction|(refine zI (fun hq=> ?_) (fun hq=> ?_)))))
  all_goals exact⟨_,rfl⟩
theorem zVE(a b:List UInt8)(ha:a.length=16)(hb:b.length=16):∃x:Bool,zd G 222 [.d (.sl (byD a)),.d (.sl (byD b))] []=some (.d (.bool x),[]):=by
 have hla:(byD a).length=16:=by unfold byD;simp [ha]
 have hlb:(byD b).length=16:=by unfold byD;simp [hb]
 have za:=byS a;have zb:=byS b;have ya:=_root_.Go.Proofs.YtjalkkalhdnplaaGreat.bytesD_ok a;have yb:=_root_.Go.Proofs.YtjalkkalhdnplaaGreat.bytesD_ok b;generalize byD a=aa at *;generalize byD b=bb at *;rw[zB zOG (by simp)];simp -implicitDefEqProofs (maxSteps:=4000000) (disch:=omega) only[zqi,zg,go_sem, *];(try simp only[zPr]);repeat' (first|done|rfl|((first|refine zG (fun hq=> ?_) (fun hq=> ?_)|refine zM (fun hq=> ?_) (fun hq=> ?_))<;>(try (first|(exfalso;omega)|contradiction))<;>(try simp -implicitDefEqProofs (maxSteps:=4000000) (disch:=omega) only[zg,go_sem, *])<;>(try simp only[zPr])));(all_goals try rfl);(all_goals try (repeat' (first|done|rfl|(exfalso;omega)|contradiction|(refine zI (fun hq=> ?_) (fun hq=> ?_)))))
 all_goals exact⟨_,rfl⟩
theorem zSH(b:List UInt8)(hb:b.length<=4294967296):∃(h:za3) (e:Int),(e=0->((0<=h.route/\h.route<65536)/\0<=h.hint)/\b.length=16/\1<=h.gen/\h.gen<=65536)/\zd G 164 [.d (zaD b)] []=some (.d (.tup [zaB h,.int .i64 e]),[]):=by
 have hlen:(byD b).length=b.length:=by unfold byD;simp
 by_cases c:b.length=16
 ·obtain⟨v1,g1⟩:=znP b c 1 4 zo;obtain⟨v2,g2⟩:=znP b c 5 3 zo;obtain⟨v3,g3⟩:=znP b c 8 2 zo;obtain⟨v4,g4⟩:=znP b c 10 1 zo;rw[c] at hlen;unfold zaD
  by_cases q:1<=v1/\v1<=1073741824/\1<=v2/\v2<=65536/\0<=v3/\v3<65536/\0<=v4/\v4<6
  ·obtain⟨x,lx,hx⟩:=zzy ⟨v1,v2,v3,v4⟩ q;obtain⟨s,hs⟩:=zVE x b lx c;simp only[zaB,zaD] at hx
   rcases s with _|_
   ·refine⟨zfG,8,fun q=>by omega,?_⟩;simp only[zaB,zfG];generalize byD b=bb at *;generalize byD x=bx at *;clear c hb q;exact zW
   ·refine⟨⟨v1,v2,v3,v4⟩,0,fun _=>⟨⟨⟨q.2.2.2.2.1,q.2.2.2.2.2.1⟩,q.2.2.2.2.2.2.1⟩,c,q.2.2.1,q.2.2.2.1⟩,?_⟩;simp only[zaB];generalize byD b=bb at *;generalize byD x=bx at *;clear c hb q;exact zW
  ·have hx:=zzx ⟨v1,v2,v3,v4⟩ q;have e:byD []=[]:=rfl;simp only[zaB,zaD,e] at hx;refine⟨zfG,8,fun q=>by omega,?_⟩;simp only[zaB,zfG];generalize byD b=bb at *;clear c hb q;exact zW
 ·refine⟨zfG,8,fun q=>by omega,?_⟩;have hc:¬(b.length:Int)=16:=by omega
  simp only[zaB,zfG,zaD];generalize byD b=bb at *;exact zW
theorem zqU(h:za3):∃p:List UInt8×Int,p.1.length<=16/\zd G 203 [.d (zaB h)] []=some (.d (.tup [zaD p.1,.int .i64 p.2]),[]):=by
 by_cases q:1<=h.id/\h.id<=1073741824/\1<=h.gen/\h.gen<=65536/\0<=h.route/\h.route<65536/\0<=h.hint/\h.hint<6
 ·obtain⟨c,l,e⟩:=zzy h q;exact⟨(c,0),by simp only;omega,e⟩
 ·exact⟨([],1),by simp,zzx h q⟩
theorem zoX(b:List UInt8):∃p:za3×Int,(p.2=0->((0<=p.1.route/\p.1.route<65536)/\0<=p.1.hint)/\b.length=16/\1<=p.1.gen/\p.1.gen<=65536)/\(b.length<=4294967296->zd G 164 [.d (zaD b)] []=some (.d (.tup [zaB p.1,.int .i64 p.2]),[])):=by
 by_cases c:b.length<=4294967296
 ·obtain⟨h,e,q,r⟩:=zSH b c;exact⟨(h,e),q,fun _=>r⟩
 ·exact⟨(zfG,8),fun q=>by simp at q,fun q=>absurd q c⟩
noncomputable def zax:Tok:=⟨fun i=>Classical.choose (zmv i),fun h=>Classical.choose (zqU h),fun b=>Classical.choose (zoX b)⟩
theorem zjg:zgO zax:=by
 refine⟨⟨fun i=> ?_,fun b=> ?_⟩,fun i=> ?_,fun h=> ?_,fun b hb=> ?_⟩
 ·exact⟨(zZQ (zmv i)).1,(zZQ (zmv i)).2.1⟩
 ·exact fun q=>((zZQ (zoX b)).1 q).1
 ·exact (zZQ (zmv i)).2.2
 ·exact (zZQ (zqU h)).2
 ·exact (zZQ (zoX b)).2 hb
theorem zmL(h:za3):(zax.enc h).1.length<=16:=(zZQ (zqU h)).1
theorem zXH(b:List UInt8)(q:(zax.par b).2=0):b.length=16/\1<=(zax.par b).1.gen/\(zax.par b).1.gen<=65536:=((zZQ (zoX b)).1 q).2
theorem zRy(n l:Int)(h:1<=l/\l<=n/\n<=4):zd G 94 [.d (.int .i64 n),.d (.int .i64 l)] []=some (.d (.tup [zat (zkf n l).1,.int .i64 0]),[]):=by
 have hn:n=1\/n=2\/n=3\/n=4:=by omega
 have hl:l=1\/l=2\/l=3\/l=4:=by omega
 rcases hn with rfl|rfl|rfl|rfl<;>rcases hl with rfl|rfl|rfl|rfl<;>(try (exfalso;omega))
 all_goals clear h
 all_goals (have zk0:= @zaC;have zk1:=zBW.eq_1;have zk2:=zBX.eq_1;exact zW)
theorem zCD(s:Setup)(h4:s.slots<=4):zd G 45 [.d (zaU s)] []=some (.d (.tup [zl (zbN s).1,.int .i64 (zbN s).2]),[]):=by
 obtain⟨n,l,c,d,li,k,i,e⟩:=s;have g1:=zdP n 1 6;have g2:=zdP l 1 n;have g3:=zdP c 1 12;have g4:=zdP d 1 24;have g5:=zdP li 1 8;have g6:=zdP k 0 1073741824;have g7:=zdP i 1 1073741824;have g8:=zdP e 0 65536
 by_cases q:zaX ⟨n,l,c,d,li,k,i,e⟩=true
 ·have hz:=zRz d;have hf:=zAI c;have hs:=zoO c;have hd:=zRy n l;have hN:∃D0,zkf n l=D0:=⟨_,rfl⟩;obtain⟨R,hR⟩:∃R,zbN ⟨n,l,c,d,li,k,i,e⟩=R:=⟨_,rfl⟩;rw[hR];have p:=q;unfold zaX at p;simp only[zY6] at p;obtain⟨i1,i2,i3,i4,i5,i6,i7,i8⟩:=p;rw[i1] at g1;rw[i2] at g2;rw[i3] at g3;rw[i4] at g4;rw[i5] at g5;rw[i6] at g6;rw[i7] at g7;rw[i8] at g8;unfold inI at i1 i2 i4;simp only[decide_eq_true_eq] at i1 i2 i4 h4;rw[zYP zo,zYP zo] at hz;replace hd:=hd zo;clear i3 i4 i5 i6 i7 i8;have hn:n=1\/n=2\/n=3\/n=4:=by omega
  have hl:l=1\/l=2\/l=3\/l=4:=by omega
  rcases hn with rfl|rfl|rfl|rfl<;>rcases hl with rfl|rfl|rfl|rfl<;>(try (exfalso;omega))
  all_goals
   clear i1 i2 h4;obtain⟨D0,hN⟩:=hN;rw[hN] at hd;have hM:=hN;simp [zkf,zfb,zpl,zDW,List.range,List.range.loop,List.replicate] at hM;subst hM;simp only[zat,zbW,zt,zYU,zYS] at hd;simp only[zaU]
  all_goals (rw[zB zOM (by simp)];simp -implicitDefEqProofs (maxSteps:=4000000) (disch:=omega) only[zqo,zaC,zr4,zg,go_sem, *];(try simp only[zPr]);repeat' (first|done|rfl|((first|refine zG (fun hq=> ?_) (fun hq=> ?_)|refine zM (fun hq=> ?_) (fun hq=> ?_))<;>(try (first|(exfalso;omega)|contradiction))<;>(try simp -implicitDefEqProofs (maxSteps:=4000000) (disch:=omega) only[zaC,zr4,zg,go_sem, *])<;>(try simp only[zPr])));(all_goals try rfl);(all_goals try (repeat' (first|done|rfl|(exfalso;omega)|contradiction|(refine zI (fun hq=> ?_) (fun hq=> ?_))))))
  all_goals (rw[<- hR];unfold zbN;rw[zYP (by rw[q];decide)];simp only[hN];rfl)
 ·have e0:zbN ⟨n,l,c,d,li,k,i,e⟩=(zx,1):=by
     unfold zbN;rw[zYQ (by simpa using q)]
  rw[e0];unfold zaX at q;simp only at q;have hz:zl zx= .agg [.sl [],.sl [],.int .i64 0,.int .i64 0,.sl [],.int .i64 0,.sl [],.sl [],.int .i64 0,.int .i64 0,.int .i64 0]:=rfl;simp only[hz];generalize inI n 1 6=b1 at *;generalize inI l 1 n=b2 at *;generalize inI c 1 12=b3 at *;generalize inI d 1 24=b4 at *;generalize inI li 1 8=b5 at *;generalize inI k 0 1073741824=b6 at *;generalize inI i 1 1073741824=b7 at *;generalize inI e 0 65536=b8 at *;simp only[zaU]
  cases b1
  ·clear q;exact zW
  cases b2
  ·clear q;exact zW
  cases b3
  ·clear q;exact zW
  cases b4
  ·clear q;exact zW
  cases b5
  ·clear q;exact zW
  cases b6
  ·clear q;exact zW
  cases b7
  ·clear q;exact zW
  cases b8
  ·clear q;exact zW
  exact absurd rfl q
def vlS(hp:zf)(k:Nat):St:=⟨[(2,.ref 2 0 0),(6,.d (.int .i64 k))],hp⟩
theorem zYi(v7 v8:List (List UInt8))(v2 v3 v4 v5 v6:Int)(hB:v7.length<=6)(hp:zf)(hh:hp=[(2,.row [.d (.agg [.int .i64 1,.int .i64 v2,.int .i64 v3,.int .i64 v4,.int .i64 v5,.int .i64 v6,.sl (v7.map .str),.sl (v8.map zaD)])])]):∀k:Nat,k<=v7.length->zP G [] zr7 (vlS hp k)=if ((v7.drop k).any fun b=>decide (16<b.length))=true then some (.ret,⟨[(4,.d (.int .i64 2))],[]⟩) else some (.exit 1,⟨[],[]⟩):=by
 refine zaq (fun k=>v7.length - k) _ _ _ fun k hk L ih=> ?_;simp only[vlS,hh,zr7] at ih ⊢
 by_cases h0:k<v7.length
 ·have i1:=ih (k+1) zo zo;have hd:v7.drop k=v7[k]::v7.drop (k+1):=zZr h0;rw[hd,z0l];clear ih hd
  by_cases c:16<v7[k].length
  ·rw[zYQ (by simp [c])];clear i1;exact zS
  ·have e:(decide (16<v7[k].length)||(v7.drop (k+1)).any fun b=>decide (16<b.length))=(v7.drop (k+1)).any fun b=>decide (16<b.length):=by simp [c]
   rw[e];generalize ((v7.drop (k+1)).any fun b=>decide (16<b.length))=w at *;clear e;simp only[zNr,zp] at i1;exact zS
 ·have:k=v7.length:=by omega
  subst this;clear ih;rw[zYP (by simp)];exact zS
theorem zYk{i:zaY}{s:Setup}(hs:1<=s.slots/\s.slots<=6)(hT:i.tokens.length<=4294967296)(hB:i.bodies.length<=4294967296):zd G 46 [.d (zbV i),.d (zaU s)] []=some (.d (.int .i64 (zbO i s)),[]):=by
 obtain⟨k,v2,v3,v4,v5,v6,v7,v8⟩:=i;obtain⟨s1,s2,s3,s4,s5,s6,s7,s8⟩:=s;simp only at *;have h1:=zlE v2 0 (s1 - 1);have h2:=zlE v3 1 6;have h3:=zlE v4 0 1000;have h4:=zlE v5 0 (s1 - 1);have h5:=zlE v6 0 (s1 - 1);unfold zbO;simp only[zbV,zaU];generalize inI v2 0 (s1 - 1)=b1 at *;generalize inI v3 1 6=b2 at *;generalize inI v4 0 1000=b3 at *;generalize inI v5 0 (s1 - 1)=b4 at *;generalize inI v6 0 (s1 - 1)=b5 at *
 by_cases g:1<=k/\k<=14
 rotate_left
 ·rw[zYP zo,zYP zo,zYP zo,zYP zo,zYP zo,zYP zo,zYP zo];obtain⟨a1,a2,a3,a4,a5,a6,a7,a8,a9,d0,d1,d2,d3,d4⟩:¬k=1/\¬k=2/\¬k=3/\¬k=4/\¬k=5/\¬k=6/\¬k=7/\¬k=8/\¬k=9/\¬k=10/\¬k=11/\¬k=12/\¬k=13/\¬k=14:=by omega
  clear g h1 h2 h3 h4 h5;exact zW
 by_cases k1:k=1
 ·subst k1;rw[zYQ rfl];clear h1 h2 h3 h4 h5 g
  by_cases c0:v7.length=0
  ·rw[zYQ zo];exact zW
  by_cases c1:6<v7.length
  ·rw[zYQ zo];exact zW
  rw[zYP zo];have hl:=zYi v7 v8 v2 v3 v4 v5 v6 zo _ rfl 0 zo;simp only[vlS,zZq,zZg] at hl
  by_cases c:(v7.any fun b=>decide (16<b.length))=true
  ·rw[zYQ c] at hl;rw[zYQ c];clear c;exact zW
  ·rw[zYP c] at hl;rw[zYP c];clear c;exact zW
 rw[zYP k1]
 by_cases k2:k=2\/k=8
 ·rw[zYQ k2];clear k1 g h4 h5
  rcases k2 with rfl|rfl<;>cases b1<;>cases b2<;>cases b3
  all_goals (exact zW)
 rw[zYP k2]
 by_cases k3:3<=k/\k<=5
 ·rw[zYQ k3];have q:k=3\/k=4\/k=5:=by omega
  clear k1 k2 k3 g h1 h2 h4 h5
  by_cases c0:v8.length=0
  ·rw[zYQ zo]
   rcases q with rfl|rfl|rfl
   all_goals (exact zW)
  by_cases c1:6<v8.length
  ·rw[zYQ zo]
   rcases q with rfl|rfl|rfl
   all_goals (exact zW)
  rw[zYP zo]
  rcases q with rfl|rfl|rfl<;>cases b3
  all_goals (exact zW)
 rw[zYP k3];clear h1 h2 h3
 by_cases k4:9<=k/\k<=11
 ·rw[zYQ k4];have q:k=9\/k=10\/k=11:=by omega
  clear k1 k2 k3 k4 g
  by_cases c:v5=v6
  ·subst c
   rcases q with rfl|rfl|rfl<;>cases b4<;>cases b5
   all_goals (exact zW)
  ·replace c:=zYV c
   rcases q with rfl|rfl|rfl<;>cases b4<;>cases b5
   all_goals (exact zW)
 rw[zYP k4];clear h5
 by_cases k5:k=12\/k=14
 ·rw[zYQ k5];clear k1 k2 k3 k4 g
  rcases k5 with rfl|rfl<;>cases b4
  all_goals (exact zW)
 rw[zYP k5];clear h4
 by_cases k6:k=13
 ·subst k6;rw[zYQ rfl]
  by_cases c1:v5<0
  ·exact zW
  by_cases c2:s1<v5
  ·exact zW
  ·exact zW
 rw[zYP k6,zYQ zo];have q:k=6\/k=7:=by omega
 clear k1 k2 k3 k4 k5 k6 g
 rcases q with rfl|rfl
 all_goals (exact zW)
theorem zW2(m n:Int){i:zaY}{s:Setup}(h4:s.slots<=4)(hT:i.tokens.length<=4294967296)(hB:i.bodies.length<=4294967296):zd G 9 [.d (.int .i64 m),.d (zbV i),.d (zaU s),.d (.int .i64 n)] []=some (.d (.tup [zh (zeF m i s n).1,.int .i64 (zeF m i s n).2]),[]):=by
 have hn:=zCD s h4;unfold zeF;have hz:zh zJ=(zh zJ:D):=rfl
 by_cases c0:m<1\/200<m\/n<0
 ·rw[zYQ c0];clear hn hz
  rcases c0 with c0|c0|c0
  all_goals simp only[zh,zJ,zbV,zib,zfH,zaU,zbG,zr,zcv,zf9,zgT,zhm,z6,zic,zat,zdk,zcC,zga,zaB,zfG,zF,zaL,zt,zYS]
  all_goals (exact zW)
 have c1:¬m<1:=by omega
 have c2:¬200<m:=by omega
 have c3:¬n<0:=by omega
 rw[zYP c0];clear c0
 by_cases q:zaX s=false
 ·rw[zYQ q];have e0:zbN s=(zx,1):=by
   unfold zbN;rw[zYQ q]
  rw[e0] at hn;clear e0 q hz;have sz_zArena:=zay zx;generalize zl zx=D_zArena at *;simp only[zh,zJ,zbV,zib,zfH,zaU,zbG,zr,zcv,zf9,zgT,zhm,z6,zic,zat,zdk,zcC,zga,zaB,zfG,zF,zaL,zt,zYS] at *;exact zW
 rw[zYP q];have hs:1<=s.slots/\s.slots<=6:=by
  have p:zaX s=true:=by simpa using q
  unfold zaX at p;simp only[zY6,inI,decide_eq_true_eq] at p;exact p.1
 have e1:(zbN s).2=0:=by
  unfold zbN;rw[zYP q]
 rw[e1] at hn;have hv:=zYk hs hT hB;clear q e1 hs hz h4;generalize zbN s=r at *;obtain⟨r,re⟩:=r;simp only at hn;have sz_r:=zay r;generalize zl r=D_r at *;generalize zbO i s=w at *;clear hT hB
 by_cases c4:w=0
 ·subst c4;rw[zYP (by simp)];simp only[zh,zJ,zbV,zib,zfH,zaU,zbG,zr,zcv,zf9,zgT,zhm,z6,zic,zat,zdk,zcC,zga,zaB,zfG,zF,zaL,zt,zYS] at *;exact zW
 ·rw[zYQ c4];replace c4:=zYV c4;simp only[zh,zJ,zbV,zib,zfH,zaU,zbG,zr,zcv,zf9,zgT,zhm,z6,zic,zat,zdk,zcC,zga,zaB,zfG,zF,zaL,zt,zYS] at *;exact zW
def zc8(s:Setup):World×Int:=if (zbN s).2≠0 then (zbd,(zbN s).2) else ({ zbd with setup:=s,arena:=(zbN s).1 },0)
theorem zCE(s:Setup)(h4:s.slots<=4):zd G 44 [.d (zaU s)] []=some (.d (.tup [zD (zc8 s).1,.int .i64 (zc8 s).2]),[]):=by
 have hn:=zCD s h4;unfold zc8;generalize zbN s=r at *;obtain⟨a,e⟩:=r;simp only at *
 by_cases c:e=0
 ·subst c;rw[zYP (by simp)];simp only[zD,zaU,zbd,zl,zYS] at *;exact zW
 ·rw[zYQ c];replace c:=zYV c;simp only[zD,zaU,zbd,zfH,zl,zx,zYS,ziw,zF,zt] at *;exact zW
theorem zXJ(w:World)(b:Int)(hc:0<=w.arena.clock/\w.arena.clock<=1073741824)(hs:0<=w.steps/\w.steps<=1000000)(hl:w.log.length<=1000000):zd G 143 [.d (zD w),.d (.int .i64 b)] []=some (.d (.tup [zD (zd9 w b).1,.int .i64 (zd9 w b).2]),[]):=by
 have ht:=zXI w.arena b hc;unfold zd9;generalize zeI w.arena b=r at *;obtain⟨a,e⟩:=r;simp only at *
 by_cases c:e=0
 ·subst c;rw[zYP (by simp)];obtain⟨s,wa,tasks,handles,log,steps⟩:=w;simp only[zD,zaU,zl,zaE,zbS,zYS,zY5,zYU] at *;exact zW
 ·rw[zYQ c];replace c:=zYV c;simp only[zD,zaU,zbd,zfH,zl,zx,zYS,ziw,zF,zt] at *;exact zW
def opL(l:List zq)(k:Nat):List Int:=((List.range k).filter fun i=> !(l.getD i zJ).done).map fun i:Nat=>(i:Int)
theorem zSv(l:List zq)(k:Nat)(h:k<l.length):opL l (k+1)=if l[k].done=true then opL l k else opL l k++[(k:Int)]:=by
 unfold opL;rw[z11,z1Z,zY5]
 cases c:l[k].done<;>simp [z0m,zY1 h,c]
theorem zSu(l:List zq)(k:Nat):(opL l k).length<=k:=by
 unfold opL;rw[zY3];exact zZG (z0h _ _) (by simp)
def opS(w:World)(k:Nat):St:=⟨[(1,.ref 1 0 0),(3,.acc 3 (zt (opL w.tasks k))),(4,.d (.int .i64 k))],[(1,.row [.d (zD w)]),(3,.acc (opL w.tasks k).length)]⟩
theorem zCW(w:World)(hl:w.tasks.length<=1000):∀k:Nat,k<=w.tasks.length->zP G [] zr8 (opS w k)=some (.exit 0,⟨[(3,.acc 3 (zt (opL w.tasks w.tasks.length)))],[(3,.acc (opL w.tasks w.tasks.length).length)]⟩):=by
 refine zaq (fun k=>w.tasks.length - k) _ _ _ fun k hk L ih=> ?_;simp only[opS,zr8] at ih ⊢
 by_cases h0:k<w.tasks.length
 ·have i1:=ih (k+1) zo zo;clear ih;have hn:=zSu w.tasks k;rw[zSv w.tasks k h0] at i1;generalize opL w.tasks w.tasks.length=z at *;generalize opL w.tasks k=o at *;obtain⟨s,wa,tasks,log,steps,handles⟩:=w;simp only at h0;simp only[zD] at *
  cases c:tasks[k].done
  ·rw[c] at i1;simp only[zYX,if_false,zt,zY5,zYU,zYS,zYZ] at i1 ⊢;simp only[zNr,zp] at i1;have zk0:=zh.eq_1;exact zS
  ·rw[c] at i1;simp only[if_true] at i1;simp only[zNr,zp] at i1;have zk0:=zh.eq_1;exact zS
 ·have e:k=w.tasks.length:=by omega
  rw[<- e];clear ih;have h1:(w.tasks.length:Int)<=k:=by omega
  generalize opL w.tasks k=o at *;obtain⟨s,wa,tasks,log,steps,handles⟩:=w;simp only[zD] at *;clear e;exact zS
theorem zsM(w:World)(hl:w.tasks.length<=1000)(q:opL w.tasks w.tasks.length=[]):zd G 55 [.d (zD w)] []=some (.xsl [],[]):=by
 have h:=zCW w hl 0 zo;have e:opL w.tasks 0=[]:=rfl;simp only[opS,e,zYS,zYY,zZg] at h;clear e;rw[q] at h;clear q;obtain⟨s,wa,tasks,log,steps,handles⟩:=w;simp only[zD,zt,zYS,zYY] at *;exact zW
theorem zsL(w:World)(hl:w.tasks.length<=1000)(o1:Int)(o:List Int)(q:opL w.tasks w.tasks.length=o1::o):zd G 55 [.d (zD w)] []=some (.osl 0 0 (o.length+1),[(0,.row (.d (.int .i64 o1)::(zt o).map .d))]):=by
 have h:=zCW w hl 0 zo;have e:opL w.tasks 0=[]:=rfl;simp only[opS,e,zYS,zYY,zZg] at h;clear e;rw[q] at h;clear q;obtain⟨s,wa,tasks,log,steps,handles⟩:=w;simp only[zD,zt,zYU,zYS,zYW,zYY] at *;exact zW
theorem zCS(w:World):opL w.tasks w.tasks.length=(zbj w).map fun i:Nat=>(i:Int):=rfl
theorem zsN(w:World):(opL w.tasks w.tasks.length).length=(zbj w).length:=by
 rw[zCS,zY3]
theorem zBM(w:World){i:zaY}(h4:w.setup.slots<=4)(hl:w.tasks.length<=200)(hT:i.tokens.length<=4294967296)(hB:i.bodies.length<=4294967296):zd G 116 [.d (zD w),.d (zbV i)] []=some (.d (.tup [zD (zcO w i).1,.int .i64 (zcO w i).2.1,.int .i64 (zcO w i).2.2]),[]):=by
 have hn:=zsM w zo;have hc:=zsL w zo;have hs:=zW2 (w.tasks.length+1) w.steps (i:=i) (s:=w.setup) h4 hT hB;have hol:=zsN w;clear hT hB h4;unfold zcO;generalize zeF (w.tasks.length+1) i w.setup w.steps=r at *;obtain⟨t,e⟩:=r;simp only at *;have sz_i:=zIn i;generalize zbV i=D_i at *
 by_cases c0:200<=w.tasks.length
 ·rw[zYQ (Or.inl c0)];clear hn hc hs hol;obtain⟨s,wa,tasks,log,steps,handles⟩:=w;simp only at c0;simp only[zD,zaU,zbd,zfH,zl,zx,zYS,ziw,zF,zt] at *;exact zW
 by_cases c1:8<=(zbj w).length
 ·rw[zYQ (Or.inr c1)];rw[<- hol] at c1;clear hn hs hol;generalize opL w.tasks w.tasks.length=o at *
  rcases o with _|⟨o1,o⟩
  ·simp at c1
  have h:=hc o1 o rfl;clear hc;obtain⟨s,wa,tasks,log,steps,handles⟩:=w;simp only[zYW] at c0 c1;simp only[zD,zaU,zbd,zfH,zl,zx,zYS,ziw,zF,zt] at *;exact zW
 rw[zYP zo];rw[<- hol] at c1;clear hol;generalize opL w.tasks w.tasks.length=o at *
 rcases o with _|⟨o1,o⟩
 ·have h:=hn rfl;clear hn hc c1
  by_cases c2:e=0
  ·subst c2;rw[zYP (by simp)];obtain⟨s,wa,tasks,log,steps,handles⟩:=w;simp only at c0;simp only[zD,zaU,zY5,zYU,zYS] at *;have sz_t:=zO t;generalize zh t=D_t at *;exact zW
  ·rw[zYQ c2];replace c2:=zYV c2;obtain⟨s,wa,tasks,log,steps,handles⟩:=w;simp only at c0;simp only[zD,zaU,zbd,zfH,zl,zx,zYS,ziw,zF,zt] at *;have sz_t:=zO t;generalize zh t=D_t at *;exact zW
 ·have h:=hc o1 o rfl;clear hn hc
  by_cases c2:e=0
  ·subst c2;rw[zYP (by simp)];obtain⟨s,wa,tasks,log,steps,handles⟩:=w;simp only[zYW] at c0 c1;simp only[zD,zaU,zY5,zYU,zYS] at *;have sz_t:=zO t;generalize zh t=D_t at *;exact zW
  ·rw[zYQ c2];replace c2:=zYV c2;obtain⟨s,wa,tasks,log,steps,handles⟩:=w;simp only[zYW] at c0 c1;simp only[zD,zaU,zbd,zfH,zl,zx,zYS,ziw,zF,zt] at *;have sz_t:=zO t;generalize zh t=D_t at *;exact zW
theorem zW8{K:Tok}(hK:zgO K){u:Setup}{w:World}{i:Nat}(hw:WI u w)(hi:i<w.tasks.length)(hN:w.steps<=999998)(hL:w.log.length<=1000000)(hev:(zbL K w.arena w.tasks[i] (w.steps+1)).2.2.1.length<=1000)(hres:(zbL K w.arena w.tasks[i] (w.steps+1)).2.2.2=0->(zbL K w.arena w.tasks[i] (w.steps+1)).2.1.results=w.tasks[i].results\/∃r:Result,r.tokens.length<=1000/\(zbL K w.arena w.tasks[i] (w.steps+1)).2.1.results=w.tasks[i].results++[r])(hrl:w.tasks[i].results.length<=1000)(hH:w.handles.length<=10000000)(hb:∀b∈(w.tasks[i]).inv.tokens,b.length<=4294967296):zd G 186 [.d (zD w),.d (.int .i64 i)] []=some (.d (.tup [zD (zcV K w i).1,.int .i64 (zcV K w i).2]),[]):=by
 have h:=zXC (n:=w.steps+1) hK hw.hu hw.ar (hw.ts _ (zY4 hi)) zo hb;have hs:=hw.st;have hl:=hw.tl;unfold zcV;have e0:w.tasks.getD i zJ=w.tasks[i]:=by rw[zZw,zY1 hi];rfl
 simp only[e0];clear hw hb e0;generalize hr:zbL K w.arena w.tasks[i] (w.steps+1)=r at *;obtain⟨a2,t2,ev,e⟩:=r;clear hr;simp only at *
 by_cases c:e=0
 ·subst c;rw[zYP (by simp)];obtain⟨s,wa,tasks,log,steps,handles⟩:=w;simp only at hi hN hL hs hl hH hres hrl;generalize ht:tasks[i]=t at *;obtain⟨u1,u2,u3,u4,u5,u6,u7,u8,u9,w1,w2,w3,w4,w5,w6,w7,w8,w9⟩:=t2;have hres:=hres trivial
  rcases hres with q|⟨x,hx,q⟩
  ·subst q;simp only[zZA,zYS,z02,zZd];clear hK;simp only[zD,zaU,zl,zh,zY5,zYU,zYS] at *;have zk0:=zh.eq_1;have zk1:= @zaC;have zk2:=zr9.eq_1;exact zW
  ·subst q;have hg:(List.map zaj t.results++[D.agg [.int .i64 x.err,.int .i64 x.id,.sl (x.tokens.map zaD),.sl (x.bodies.map .str),.int .i64 x.ready,.int .i64 x.leased,.int .i64 x.moved]])[t.results.length]? = some (D.agg [.int .i64 x.err,.int .i64 x.id,.sl (x.tokens.map zaD),.sl (x.bodies.map .str),.int .i64 x.ready,.int .i64 x.leased,.int .i64 x.moved]):=by
    rw[z0d (by simp)];simp
   simp only[z2b,zYU,zYS,z2c,z02,zZd];clear hK;simp only[zD,zaU,zl,zh,zY5,zYU,zYS,zaj] at *;have zk0:=zh.eq_1;have zk1:=zaj.eq_1;have zk2:= @zaC;have zk3:=zr9.eq_1;exact zW
 ·rw[zYQ c];replace c:=zYV c;obtain⟨s,wa,tasks,log,steps,handles⟩:=w;simp only at hi hN hL hs hl;generalize ht:tasks[i]=t at *;simp only[zD,zaU,zbd,zfH,zl,zx,zYS,ziw,zF,zt] at *;exact zW
theorem zSO{K:Tok}{u:Setup}{w:World}{k:Int}(hw:WI u w)(hstep:∀i:Nat,i<w.tasks.length->zd G 186 [.d (zD w),.d (.int .i64 i)] []=some (.d (.tup [zD (zcV K w i).1,.int .i64 (zcV K w i).2]),[])):zd G 142 [.d (zD w),.d (.int .i64 k)] []=some (.d (.tup [zD (zc9 K w k).1,.int .i64 (zc9 K w k).2]),[]):=by
 have hl:=hw.tl;have hn:=zsM w zo;have hc:=zsL w zo;have hol:=zsN w;have hoo:=zCS w;unfold zc9;clear hw
 by_cases c:k<0\/((zbj w).length:Int)<=k
 ·rw[zYQ c];rw[<- hol] at c;clear hstep hol hoo;generalize opL w.tasks w.tasks.length=o at *;have hz:zD zbd= .agg [.int .i64 0,.int .i64 0,.int .i64 0,.int .i64 0,.int .i64 0,.int .i64 0,.int .i64 0,.int .i64 0,.sl [],.sl [],.int .i64 0,.int .i64 0,.sl [],.int .i64 0,.sl [],.sl [],.int .i64 0,.int .i64 0,.int .i64 0,.sl [],.sl [],.int .i64 0,.sl []]:=rfl;simp only[hz];clear hz
  rcases o with _|⟨o1,o⟩
  ·have h:=hn rfl;clear hn hc;have sz_w:=za8 w;generalize zD w=D_w at *
   by_cases c0:k<0
   ·clear c;exact zW
   ·simp only[zYY] at c;have c1:0<=k:=by omega
    clear c;exact zW
  ·have h:=hc o1 o rfl;clear hn hc;simp only[zYW] at c;have sz_w:=za8 w;generalize zD w=D_w at *
   by_cases c0:k<0
   ·clear c;exact zW
   ·have c1:(o.length:Int)+1<=k:=by omega
    clear c;exact zW
 ·rw[zYP c];have hk:k.toNat<(zbj w).length:=by omega
  have hs:=hstep _ (zCV hk);have hg:(opL w.tasks w.tasks.length)[k.toNat]? = some (((zbj w).getD k.toNat 0:Nat):Int):=by
   rw[hoo,zZa,zZw,zY1 hk];rfl
  rw[<- hol] at c hk;generalize (zbj w).getD k.toNat 0=i at *;clear hstep hol hoo;generalize zcV K w i=r at *;obtain⟨r,e⟩:=r;simp only at hs;generalize opL w.tasks w.tasks.length=o at *
  rcases o with _|⟨o1,o⟩
  ·simp at hk
  have h:=hc o1 o rfl;clear hn hc;simp only;have sz_r:=za8 r;generalize zD r=D_r at *;have sz_w:=za8 w;generalize zD w=D_w at *;obtain⟨k2,rfl⟩:∃k2:Nat,k=k2:=⟨k.toNat,by omega⟩;simp only[zZz,zYW] at hg c hk;clear c;have hg2:(AV.d (D.int .i64 o1)::(zt o).map AV.d)[k2]? = some (.d (.int .i64 i)):=by
   show (((o1::o).map (D.int .i64)).map AV.d)[k2]? = _;rw[zZa,zZa,hg];rfl
  clear hg;exact zW
def zWr:Go.Sim.Obj:= .row [AV.agg [.d (.int .i64 0),.d (.int .i64 0),.d (.int .i64 0),.d (.int .i64 0),.d (.int .i64 0),.d (.int .i64 0),.d (.int .i64 0),.d (.int .i64 0),.xsl [],.xsl [],.d (.int .i64 0),.d (.int .i64 0),.xsl [],.d (.int .i64 0),.xsl [],.xsl [],.d (.int .i64 0),.d (.int .i64 0),.d (.int .i64 0),.xsl [],.xsl [],.d (.int .i64 0),.xsl []]]
def rnS(l:List Command)(p:Nat×World):St:=⟨[(1,.d (.sl (l.map zaT))),(4,.ref 4 0 0),(6,.ref 6 0 0),(8,.d (.int .i64 p.1))],[(4,zWr),(6,.row [.d (zD p.2)])]⟩
def rnR(r:World×Int):Option (zR×St):=if r.2=0 then some (.exit 0,⟨[(4,.ref 4 0 0),(6,.ref 6 0 0)],[(4,zWr),(6,.row [.d (zD r.1)])]⟩) else some (.ret,⟨[(4,.ref 4 0 0),(5,.d (.int .i64 r.2))],[(4,zWr)]⟩)
theorem zUV{K:Tok}{l:List Command}(P:Nat->World->Prop)(hl:l.length<=400)(hdo:∀k w,∀c∈l,k<l.length->P k w->zd G 92 [.d (zD w),.d (zaT c)] []=some (.d (.tup [zD (doW K w c).1,.int .i64 (doW K w c).2]),[]))(hk:∀k w,∀c∈l,k<l.length->P k w->(doW K w c).2=0->P (k+1) (doW K w c).1):∀p:Nat×World,p.1<=l.length/\P p.1 p.2->zP G [] zsb (rnS l p)=rnR (zez K (l.drop p.1) p.2):=by
 refine zaq (fun p:Nat×World=>l.length - p.1) _ _ _ fun⟨k,w⟩ ⟨h1,h2⟩ L ih=> ?_;simp only at h1 h2;simp only[rnS,zsb] at ih ⊢
 by_cases h0:k<l.length
 ·have hd:=hdo k w l[k] (zY4 h0) h0 h2;have hke:=hk k w l[k] (zY4 h0) h0 h2;have e1:l.drop k=l[k]::l.drop (k+1):=zZr h0;rw[e1];unfold zez;generalize doW K w l[k]=r at *;obtain⟨w2,e⟩:=r;simp only at *
  by_cases c:e=0
  ·subst c;have i1:=ih (k+1,w2) ⟨by simp only;omega,hke rfl⟩ (by simp only;omega);rw[zYP (by simp)];simp only at i1;clear ih hke hdo hk e1;generalize zez K (l.drop (k+1)) w2=z at *;unfold rnR at *;have sz_w:=za8 w;generalize zD w=D_w at *;have sz_w2:=za8 w2;generalize zD w2=D_w2 at *;unfold zWr at *;simp only[zNr,zp] at i1;exact zS
  ·rw[zYQ c];clear ih hke hdo hk e1;unfold rnR;rw[zYP c];replace c:=zYV c;have sz_w:=za8 w;generalize zD w=D_w at *;have sz_w2:=za8 w2;generalize zD w2=D_w2 at *;unfold zWr at *;exact zS
 ·have e1:l.drop k=[]:=z1X zo;rw[e1];clear ih hdo hk e1;unfold zez rnR;have sz_w:=za8 w;generalize zD w=D_w at *;unfold zWr at *;exact zS
theorem zUS{K:Tok}:∀(l:List Command) (w:World),(zez K l w).2≠0->(zez K l w).1=zbd:=by
 intro l
 induction l with
 | nil=>intro w h;exact absurd rfl h
 | cons c l ih=>
  intro w h;unfold zez at h ⊢
  by_cases c1:(doW K w c).2=0
  ·rw[zYP (fun q=>q c1)] at h ⊢;exact ih _ h
  ·rw[zYQ c1]
theorem zUQ{K:Tok}{s:Setup}{l:List Command}(P:Nat->World->Prop)(h4:s.slots<=4)(hL:l.length<=400)(h0:(zc8 s).2=0->P 0 (zc8 s).1)(hdo:∀k w,∀c∈l,k<l.length->P k w->zd G 92 [.d (zD w),.d (zaT c)] []=some (.d (.tup [zD (doW K w c).1,.int .i64 (doW K w c).2]),[]))(hk:∀k w,∀c∈l,k<l.length->P k w->(doW K w c).2=0->P (k+1) (doW K w c).1):zd G 41 [.d (zaU s),.d (.sl (l.map zaT))] []=some (.d (.tup [zD (zgD K s l).1,.int .i64 (zgD K s l).2]),[]):=by
 have hn:=zCE s h4;have e0:zgD K s l=if (zc8 s).2≠0 then (zbd,(zc8 s).2) else if 400<l.length then (zbd,2) else zez K l (zc8 s).1:=by
  unfold zgD zc8
  by_cases c:(zbN s).2=0
  ·simp [c]
  ·simp [c]
 rw[e0];clear e0;have hz:zD zbd= .agg [.int .i64 0,.int .i64 0,.int .i64 0,.int .i64 0,.int .i64 0,.int .i64 0,.int .i64 0,.int .i64 0,.sl [],.sl [],.int .i64 0,.int .i64 0,.sl [],.int .i64 0,.sl [],.sl [],.int .i64 0,.int .i64 0,.int .i64 0,.sl [],.sl [],.int .i64 0,.sl []]:=rfl;generalize zc8 s=r at *;obtain⟨w,e⟩:=r;simp only at *
 by_cases c:e=0
 ·subst c;rw[zYP (by simp)]
  by_cases c1:400<l.length
  ·omega
  ·rw[zYP c1];have h:=zUV P zo hdo hk (0,w) ⟨by simp,h0 rfl⟩;simp only[rnS,zZq,zZg] at h;have hre:=zUS (K:=K) l w;clear h0 hdo hk;generalize zez K l w=z at *;obtain⟨z,ze⟩:=z;unfold rnR zWr at h;simp only at *;have sz_w:=za8 w;generalize zD w=D_w at *
   by_cases c2:ze=0
   ·subst c2;rw[zYQ rfl] at h;clear hz hre;have sz_z:=za8 z;generalize zD z=D_z at *;exact zW
   ·rw[zYP c2] at h;rw[hre c2,hz];clear hz hre;replace c2:=zYV c2;exact zW
 ·rw[zYQ c,hz];clear h0 hdo hk hz;replace c:=zYV c;have sz_w:=za8 w;generalize zD w=D_w at *;exact zW
theorem zHT{K:Tok}{u:Setup}{w:World}{c:Command}(hw:WI u w)(hs:w.steps<=1000000)(hl:w.log.length<=1000000)(hk:c.kind=2):zd G 92 [.d (zD w),.d (zaT c)] []=some (.d (.tup [zD (doW K w c).1,.int .i64 (doW K w c).2]),[]):=by
 have ht:=zXJ w (zbn 0 (zf1 c.by_ 255)) hw.ar.ck ⟨hw.st,hs⟩ hl;have hm:(if 0<(if 255<c.by_ then 255 else c.by_) then (if 255<c.by_ then 255 else c.by_) else 0)=zbn 0 (zf1 c.by_ 255):=by
  unfold zbn zf1
  by_cases q1:c.by_<255<;>by_cases q2:255<c.by_<;>simp only[q1,q2,if_true,if_false]<;>split<;>omega
 unfold doW;generalize zbn 0 (zf1 c.by_ 255)=m at *;rw[zYP zo,zYQ hk];clear hw hs hl;generalize zd9 w m=r at *;obtain⟨r,e⟩:=r;simp only at *;obtain⟨k,pk,by_,iv,rf⟩:=c;simp only at *;subst hk;simp only[zaT]
 by_cases c:e=0
 ·subst c;rw[zYQ rfl];have sz_r:=za8 r;generalize zD r=D_r at *;have sz_w:=za8 w;generalize zD w=D_w at *;exact zW
 ·rw[zYP c];replace c:=zYV c;have sz_r:=za8 r;generalize zD r=D_r at *;have sz_w:=za8 w;generalize zD w=D_w at *;exact zW
theorem zHQ{K:Tok}{w:World}{c:Command}(h1:¬c.kind=1)(h2:¬c.kind=2)(h3:¬c.kind=3):zd G 92 [.d (zD w),.d (zaT c)] []=some (.d (.tup [zD (doW K w c).1,.int .i64 (doW K w c).2]),[]):=by
 unfold doW;rw[zYP h1,zYP h2,zYP h3];obtain⟨k,pk,by_,iv,rf⟩:=c;simp only at *;simp only[zaT];have sz_w:=za8 w;generalize zD w=D_w at *;exact zW
theorem zHO{K:Tok}{w:World}{c:Command}(h4:w.setup.slots<=4)(hl:w.tasks.length<=200)(hT:c.inv.tokens.length<=4294967296)(hB:c.inv.bodies.length<=4294967296)(hk:c.kind=3)(hr:c.refs=[]):zd G 92 [.d (zD w),.d (zaT c)] []=some (.d (.tup [zD (doW K w c).1,.int .i64 (doW K w c).2]),[]):=by
 have h:=zBM w h4 hl hT hB;unfold doW;rw[zYP zo,zYP zo,zYQ hk];have e0:¬(0<c.refs.length):=by rw[hr];simp
 simp only[zYP e0];clear e0 hT hB hl h4;obtain⟨k,pk,by_,iv,rf⟩:=c;simp only at *;subst hk hr;generalize zcO w iv=r at *;obtain⟨r,n,e⟩:=r;simp only at *;simp only[zaT,zbV,zYS] at *
 by_cases c:e=0
 ·subst c;rw[zYQ rfl];have sz_r:=za8 r;generalize zD r=D_r at *;have sz_w:=za8 w;generalize zD w=D_w at *;exact zW
 ·rw[zYP c];replace c:=zYV c;have sz_r:=za8 r;generalize zD r=D_r at *;have sz_w:=za8 w;generalize zD w=D_w at *;exact zW
def RS(t x:zq):Prop:=x.inv=t.inv/\(x.results=t.results\/∃r:Result,(r.tokens.length<=12/\∀b∈r.tokens,b.length<=16)/\x.results=t.results++[r])
theorem RS.same{t x:zq}(h1:x.inv=t.inv)(h2:x.results=t.results):RS t x:=⟨h1,.inl h2⟩
theorem RS.next{t x:zq}(r:Result)(n:Int)(h1:x.inv=t.inv)(h2:x.results=t.results)(h3:r.tokens.length<=12/\∀b∈r.tokens,b.length<=16):RS t (zbo x r n):=
 ⟨h1,.inr ⟨r,h3,by show x.results++[r]=_;rw[h2]⟩⟩
theorem zfn{r:Result}(h:r.tokens=[]):r.tokens.length<=12/\∀b∈r.tokens,b.length<=16:=by rw[h];simp
theorem zly(a:zm)(t:zq)(n:Int)(e:(goT a t n).2.2.2.2=0):(goT a t n).2.1.inv=t.inv/\(goT a t n).2.1.results=t.results:=by
 unfold goT at e ⊢
 split
 ·rename_i c;rw[zYQ c] at e;exact absurd e c
 ·exact⟨rfl,rfl⟩
theorem zmd{plan:zq->Pln}(h:∀t,(plan t).2.1.tokens=[])(lo hi:Int)(cells:zq->List Int)(a:zm)(t:zq)(n:Int)(e:(zbg plan lo hi cells a t n).2.2.2=0):RS t (zbg plan lo hi cells a t n).2.1:=by
 unfold zbg zbu at *;simp only at *
 split
 ·rename_i c;rw[zYQ c] at e;exact absurd e c
 rename_i c;rw[zYP c] at e;have h0:(if t.pc=0 then zcc t (cells t) 1 else t).inv=t.inv/\(if t.pc=0 then zcc t (cells t) 1 else t).results=t.results:=by split<;>exact⟨rfl,rfl⟩
 generalize (if t.pc=0 then zcc t (cells t) 1 else t)=t' at *;have hg:=zly a t' n;generalize goT a t' n=g at *
 split
 ·rename_i c;rw[zYQ c] at e;exact absurd e c
 rename_i c;have hg:=hg (zY9.1 c)
 split
 ·exact .same (hg.1.trans h0.1) (hg.2.trans h0.2)
 split
 ·exact .same (hg.1.trans h0.1) (hg.2.trans h0.2)
 ·exact .next _ _ (hg.1.trans h0.1) (hg.2.trans h0.2) (zfn (h _))
theorem zTg(a:zm)(t:zq)(n:Int)(e:(zdZ a t n).2.2.2=0):RS t (zdZ a t n).2.1:=by
 unfold zdZ at *;simp only at *
 split
 ·rename_i c;rw[zYQ c] at e;exact absurd e c
 rename_i c;rw[zYP c] at e
 split
 ·split
  ·exact .next _ _ rfl rfl (zfn rfl)
  ·exact .same rfl rfl
 rename_i c;rw[zYP c] at e
 split
 ·rename_i c;rw[zYQ c] at e;exact absurd e c
 split
 ·exact .same rfl rfl
 ·exact .next _ _ rfl rfl (zfn rfl)
theorem zG4(a:zm)(t:zq)(n:Int)(e:(zdH a t n).2.2.2=0):RS t (zdH a t n).2.1:=by
 unfold zdH at *;simp only at *
 split
 ·rename_i c;rw[zYQ c] at e;exact absurd e c
 rename_i c;rw[zYP c] at e
 split
 ·exact .same rfl rfl
 rename_i c;rw[zYP c] at e
 split
 ·rename_i c;rw[zYQ c] at e
  split
  ·rename_i c;rw[zYQ c] at e;exact absurd e c
  ·exact .same rfl rfl
 rename_i c;rw[zYP c] at e
 split
 ·rename_i c;rw[zYQ c] at e
  split
  ·rename_i c;rw[zYQ c] at e;exact absurd e c
  ·exact .same rfl rfl
 split
 ·exact .same rfl rfl
 ·exact .next _ _ rfl rfl (zfn rfl)
theorem zT6(a:zm)(t:zq)(n:Int)(e:(zd1 a t n).2.2.2=0):RS t (zd1 a t n).2.1:=by
 have h:∀t,(zdu t).1.inv=t.inv/\(zdu t).1.results=t.results:=by
  intro t;unfold zdu;simp only
  split
  ·exact⟨rfl,rfl⟩
  split
  ·exact⟨rfl,rfl⟩
  split<;>exact⟨rfl,rfl⟩
 unfold zd1 zbu at *;simp only at *
 split
 ·rename_i c;rw[zYQ c] at e;exact absurd e c
 rename_i c;rw[zYP c] at e
 split
 ·exact .same rfl rfl
 rename_i c;rw[zYP c] at e;have hg:=zly a t n;generalize goT a t n=g at *
 split
 ·rename_i c;rw[zYQ c] at e;exact absurd e c
 rename_i c;have hg:=hg (zY9.1 c)
 split
 ·exact .same ((h _).1.trans hg.1) ((h _).2.trans hg.2)
 split
 ·exact .same hg.1 hg.2
 split
 ·exact .same hg.1 hg.2
 ·exact .next _ _ hg.1 hg.2 (zfn rfl)
theorem zWp(K:Tok)(a:zm)(t:zq)(n:Int)(e:(zd5 K a t n).2.2.2=0):RS t (zd5 K a t n).2.1:=by
 have h:∀t,(zdy t).1.inv=t.inv/\(zdy t).1.results=t.results:=by
  intro t;unfold zdy;simp only
  split<;>exact⟨rfl,rfl⟩
 unfold zd5 zbu at *;simp only at *
 split
 ·rename_i c;rw[zYQ c] at e;exact absurd e c
 rename_i c;rw[zYP c] at e
 split
 ·split
  ·exact .next _ _ rfl rfl (zfn rfl)
  ·simp only
   split<;>exact .same rfl rfl
 rename_i c;rw[zYP c] at e
 split
 ·exact .same rfl rfl
 rename_i c;rw[zYP c] at e;have hg:=zly a t n;generalize goT a t n=g at *
 split
 ·rename_i c;rw[zYQ c] at e;exact absurd e c
 rename_i c;have hg:=hg (zY9.1 c)
 split
 ·exact .same ((h _).1.trans hg.1) ((h _).2.trans hg.2)
 split
 ·exact .same hg.1 hg.2
 split
 ·exact .same hg.1 hg.2
 ·exact .next _ _ hg.1 hg.2 (zfn rfl)
theorem zWc(K:Tok)(a:zm)(t:zq)(n:Int)(e:(zd3 K a t n).2.2.2=0):RS t (zd3 K a t n).2.1:=by
 have h:∀t,(zdx K t).1.inv=t.inv/\(zdx K t).1.results=t.results:=by
  intro t;unfold zdx;simp only
  split
  ·exact⟨rfl,rfl⟩
  split
  ·split<;>exact⟨rfl,rfl⟩
  ·exact⟨rfl,rfl⟩
 unfold zd3 zbu at *;simp only at *
 split
 ·rename_i c;rw[zYQ c] at e;exact absurd e c
 rename_i c;rw[zYP c] at e
 split
 ·split
  ·exact .next _ _ rfl rfl (zfn rfl)
  ·exact .same rfl rfl
 rename_i c;rw[zYP c] at e
 split
 ·rename_i c;rw[zYQ c] at e
  split
  ·rename_i c;rw[zYQ c] at e;exact absurd e c
  ·simp only
   split<;>exact .same rfl rfl
 rename_i c;rw[zYP c] at e
 split
 ·exact .same rfl rfl
 rename_i c;rw[zYP c] at e;have hg:=zly a t n;generalize goT a t n=g at *
 split
 ·rename_i c;rw[zYQ c] at e;exact absurd e c
 rename_i c;have hg:=hg (zY9.1 c)
 split
 ·exact .same ((h _).1.trans hg.1) ((h _).2.trans hg.2)
 split
 ·exact .same hg.1 hg.2
 split
 ·exact .next _ _ hg.1 hg.2 (zfn rfl)
 split
 ·exact .next _ _ hg.1 hg.2 (zfn rfl)
 ·exact .same hg.1 hg.2
theorem zTZ{K:Tok}(hK:∀h,(K.enc h).1.length<=16)(a:zm)(t:zq)(n:Int)(e:(zd0 K a t n).2.2.2=0):RS t (zd0 K a t n).2.1:=by
 have h:∀t,(zdt t).1.inv=t.inv/\(zdt t).1.results=t.results:=by
  intro t;unfold zdt;simp only
  split
  ·exact⟨rfl,rfl⟩
  split
  ·exact⟨rfl,rfl⟩
  split
  ·exact⟨rfl,rfl⟩
  split<;>exact⟨rfl,rfl⟩
 have ht:∀t,(zhX K t).tokens.length<=12/\∀b∈(zhX K t).tokens,b.length<=16:=by
  intro t;unfold zhX;simp only[zY3];refine⟨zEa _ _ _ _ _ _,fun b hb=> ?_⟩;obtain⟨y,_,rfl⟩:=zY0.1 hb;exact hK _
 unfold zd0 zbu at *;simp only at *
 split
 ·rename_i c;rw[zYQ c] at e;exact absurd e c
 rename_i c;rw[zYP c] at e
 split
 ·exact .same rfl rfl
 rename_i c;rw[zYP c] at e
 split
 ·exact .same rfl rfl
 rename_i c;rw[zYP c] at e;have hg:=zly a t n;generalize goT a t n=g at *
 split
 ·rename_i c;rw[zYQ c] at e;exact absurd e c
 rename_i c;have hg:=hg (zY9.1 c)
 split
 ·exact .same ((h _).1.trans hg.1) ((h _).2.trans hg.2)
 split
 ·exact .same hg.1 hg.2
 split
 ·exact .next _ _ hg.1 hg.2 (zfn rfl)
 split
 ·exact .next _ _ hg.1 hg.2 (zfn rfl)
 split
 ·exact .next _ _ hg.1 hg.2 (ht _)
 ·exact .same hg.1 hg.2
theorem ztx{K:Tok}(hK:∀h,(K.enc h).1.length<=16)(a:zm)(t:zq)(n:Int)(e:(zbL K a t n).2.2.2=0):RS t (zbL K a t n).2.1:=by
 have steal_tk:∀t,(zeG t).2.1.tokens=[]:=by
  intro t;unfold zeG;simp only;split
  ·rfl
  split<;>rfl
 have split_tk:∀t,(zeE t).2.1.tokens=[]:=by
  intro t;unfold zeE;simp only;split<;>rfl
 have merge_tk:∀t,(zeu t).2.1.tokens=[]:=by
  intro t;unfold zeu;simp only;split<;>rfl
 have sweep_tk:∀t,(zd8 t).2.1.tokens=[]:=by
  intro t;unfold zd8;simp only;split
  ·rfl
  split
  ·rfl
  split
  ·rfl
  split<;>rfl
 have bury_tk:∀t,(zdF t).2.1.tokens=[]:=by
  intro t;unfold zdF;simp only;split
  ·rfl
  split<;>rfl
 unfold zbL at *
 by_cases c:t.done=true
 ·rw[zYQ c] at e;exact absurd e (by decide)
 rw[zYP c] at e ⊢
 by_cases c0:t.inv.kind=1
 ·rw[zYQ c0] at e ⊢; exact zWc K a t n e
 rw[zYP c0] at e ⊢
 by_cases c1:t.inv.kind=2
 ·rw[zYQ c1] at e ⊢; exact zTZ hK a t n e
 rw[zYP c1] at e ⊢
 by_cases c2:3<=t.inv.kind/\t.inv.kind<=5
 ·rw[zYQ c2] at e ⊢; exact zWp K a t n e
 rw[zYP c2] at e ⊢
 by_cases c3:t.inv.kind=6
 ·rw[zYQ c3] at e ⊢; exact zTg a t n e
 rw[zYP c3] at e ⊢
 by_cases c4:t.inv.kind=7
 ·rw[zYQ c4] at e ⊢; exact zG4 a t n e
 rw[zYP c4] at e ⊢
 by_cases c5:t.inv.kind=8
 ·rw[zYQ c5] at e ⊢; exact zT6 a t n e
 rw[zYP c5] at e ⊢
 by_cases c6:t.inv.kind=9
 ·rw[zYQ c6] at e ⊢; exact zmd steal_tk _ _ _ a t n e
 rw[zYP c6] at e ⊢
 by_cases c7:t.inv.kind=10
 ·rw[zYQ c7] at e ⊢; exact zmd split_tk _ _ _ a t n e
 rw[zYP c7] at e ⊢
 by_cases c8:t.inv.kind=11
 ·rw[zYQ c8] at e ⊢; exact zmd merge_tk _ _ _ a t n e
 rw[zYP c8] at e ⊢
 by_cases c9:t.inv.kind=12\/t.inv.kind=13
 ·rw[zYQ c9] at e ⊢; exact zmd sweep_tk _ _ _ a t n e
 rw[zYP c9] at e ⊢
 by_cases c10:t.inv.kind=14
 ·rw[zYQ c10] at e ⊢; exact zmd bury_tk _ _ _ a t n e
 rw[zYP c10] at e ⊢;exact absurd e (by decide)
theorem zIM{i:zaY}{s:Setup}(h:zbO i s=0):zej i<=6:=by
 unfold zbO at h;unfold zej
 by_cases c1:i.kind=1
 ·rw[zYQ c1] at h ⊢
  by_cases c:i.bodies.length=0\/6<i.bodies.length
  ·rw[zYQ c] at h;cases h
  ·omega
 rw[zYP c1] at h ⊢
 by_cases c3:3<=i.kind/\i.kind<=5
 ·rw[zYP zo,zYQ c3] at h;rw[zYQ c3]
  by_cases c:i.tokens.length=0\/6<i.tokens.length
  ·rw[zYQ c] at h;cases h
  ·omega
 ·rw[zYP c3];decide
structure QI(u:Setup)(B:Int)(w:World):Prop where
 wi:WI u w
 lb:LB B w
 hl:(w.handles.length:Int)<=12 * w.steps
 hb:∀b∈w.handles,b.length<=16
 tk:∀t∈w.tasks,t.results.length<=6/\∀b∈t.inv.tokens,b.length<=16
theorem QI.mono{u:Setup}{B C:Int}{w:World}(h:QI u B w)(hb:B<=C):QI u C w:={ h with lb:=h.lb.mono hb }
theorem zXc{K:Tok}(hK:zig K)(hE:∀h,(K.enc h).1.length<=16){u:Setup}{B:Int}{w:World}{i:Nat}(h:QI u B w)(hi:i<w.tasks.length)(e:(zcV K w i).2=0):QI u (B+1) (zcV K w i).1:=by
 refine { wi:=zXa hK h.wi hi e,lb:=zXb h.lb e,hl:= ?_,hb:= ?_,tk:= ?_ }
 all_goals
  have ht:=h.tk (w.tasks.getD i zJ) (by rw[zg hi];exact zY4 hi);have hT:=h.wi.ts (w.tasks.getD i zJ) (by rw[zg hi];exact zY4 hi);have h1:=h.hl;have h2:=h.hb;have h3:=h.tk;have hr:=ztx hE w.arena (w.tasks.getD i zJ) (w.steps+1);have hd:(zbL K w.arena (w.tasks.getD i zJ) (w.steps+1)).2.2.2=0->(w.tasks.getD i zJ).done=false:=by
   intro q
   cases hq:(w.tasks.getD i zJ).done with
   | false=>rfl
   | true=>unfold zbL at q;rw[zYQ hq] at q;exact absurd q (by decide)
  unfold zcV at e ⊢;simp only at e ⊢;generalize w.tasks.getD i zJ=t at *;generalize zbL K w.arena t (w.steps+1)=r at *
  by_cases c:r.2.2.2=0
  rotate_left
  ·rw[zYQ c] at e;exact absurd e c
  rw[zYP (fun q=>q c)];obtain⟨q1,q2⟩:=hr c;have hent:=hT.e1 (hd c);have hres:=hT.e2;have hsix:=zIM hT.iv;clear hr hd e c;simp only
 ·rcases q2 with q2|⟨x,hx,q2⟩
  ·rw[q2];simp only[zZA,zYS,z02,zZd];omega
  ·rw[q2];simp only[z2b,zYU,zYS,z2c,z02,zZd,zYZ];omega
 ·intro b hb
  rcases zZl.1 hb with hb|hb
  ·exact h2 b hb
  ·rcases q2 with q2|⟨x,hx,q2⟩
   ·rw[q2] at hb;simp only[zZA,zYS,z02] at hb;cases hb
   ·rw[q2] at hb;simp only[z2b,zYU,zYS,z2c,z02,zZd] at hb;exact hx.2 b hb
 ·intro x hx
  rcases ziS hx with hx|hx
  ·rw[hx,q1];refine⟨?_,ht.2⟩
   rcases q2 with q2|⟨x,hx,q2⟩
   ·rw[q2];omega
   ·rw[q2,zYZ,zZp];omega
  ·exact h3 x hx
theorem zC9{K:Tok}(hK:zig K)(hE:∀h,(K.enc h).1.length<=16){u:Setup}{B:Int}{w:World}{k:Int}(h:QI u B w)(e:(zc9 K w k).2=0):QI u (B+1) (zc9 K w k).1:=by
 unfold zc9 at e ⊢
 by_cases c:k<0\/((zbj w).length:Int)<=k
 ·rw[zYQ c] at e;cases e
 ·rw[zYP c] at e ⊢;exact zXc hK hE h (zCV zo) e
theorem zXM{u:Setup}{B:Int}{w:World}{by_:Int}(h:QI u B w)(e:(zd9 w by_).2=0):QI u (B+1) (zd9 w by_).1:=by
 have h1:=zXK h.wi e;have h2:=zXL h.lb e;have h3:=h.hl;unfold zd9 at e h1 h2 ⊢
 by_cases c:(zeI w.arena by_).2=0
 ·rw[zYP (fun q=>q c)] at h1 h2 ⊢;exact { wi:=h1,lb:=h2,hl:=by simp only;omega,hb:=h.hb,tk:=h.tk }
 ·rw[zYQ c] at e;exact absurd e c
theorem zPB{u:Setup}{B:Int}{w:World}{i:zaY}(h:QI u B w)(hi:∀b∈i.tokens,b.length<=16)(e:(zcO w i).2.2=0):QI u B (zcO w i).1:=by
 have h1:=zPz h.wi e;have h2:=zPA h.lb e;unfold zcO at e h1 h2 ⊢
 by_cases c:200<=w.tasks.length\/8<=(zbj w).length
 ·rw[zYQ c] at e;cases e
 rw[zYP c] at e h1 h2 ⊢
 by_cases c2:(zeF (w.tasks.length+1) i w.setup w.steps).2=0
 ·rw[zYP (fun q=>q c2)] at h1 h2 ⊢;refine { wi:=h1,lb:=h2,hl:=h.hl,hb:=h.hb,tk:=fun t ht=> ?_ }
  rcases zZl.1 ht with ht|ht
  ·exact h.tk t ht
  ·rw[zZt.1 ht];unfold zeF
   split
   ·exact⟨by simp [zJ],by simp [zJ,zib]⟩
   split
   ·exact⟨by simp [zJ],by simp [zJ,zib]⟩
   split
   ·exact⟨by simp [zJ],by simp [zJ,zib]⟩
   ·exact⟨by simp [zJ],hi⟩
 ·rw[zYQ c2] at e;exact absurd e c2
theorem zX0{K:Tok}(hE:∀h,(K.enc h).1.length<=16){r:Ref}{hs:List (List UInt8)}(h1:r.raw.length<=16)(h2:∀b∈hs,b.length<=16):(ze6 K r hs).length<=16:=by
 have hb:∀k,(hs.getD k []).length<=16:=fun k=>by
  rw[zZw]
  cases hq:hs[k]? with
  | none=>simp
  | some b=>exact h2 b (zZf hq)
 unfold ze6;simp only;generalize ((zbn r.index 0).tmod hs.length).toNat=k
 split
 ·exact h1
 split
 ·exact hb k
 split
 ·rw[zZu];exact hb k
 split
 ·generalize (if r.variant=2 then ({ (K.par (hs.getD k [])).1 with gen:=(K.par (hs.getD k [])).1.gen+1 }:za3) else if r.variant=3 then { (K.par (hs.getD k [])).1 with gen:=(K.par (hs.getD k [])).1.gen - 1 } else { (K.par (hs.getD k [])).1 with route:=((K.par (hs.getD k [])).1.route+1).tmod 65536 })=h
  split
  ·exact hb k
  ·exact hE h
 ·exact hb k
theorem zXe{u:Setup}{B:Int}{w:World}{i:Nat}(h:QI u B w)(hB:B<=200000)(hi:i<w.tasks.length):zd G 186 [.d (zD w),.d (.int .i64 i)] []=some (.d (.tup [zD (zcV zax w i).1,.int .i64 (zcV zax w i).2]),[]):=by
 have h1:=h.lb.st;have h2:=h.lb.lg;have h3:=h.hl;have h4:=h.tk _ (zY4 hi);have hr:=ztx zmL w.arena w.tasks[i] (w.steps+1);refine zW8 zjg h.wi hi zo zo ?_ (fun q=> ?_) zo zo (fun b hb=> ?_)
 ·have:=zEe zax w.arena w.tasks[i] (w.steps+1);omega
 ·rcases (hr q).2 with q2|⟨x,hx,q2⟩
  ·exact .inl q2
  ·exact .inr ⟨x,by omega,q2⟩
 ·have:=h4.2 b hb;omega
theorem zSR{u:Setup}{B:Int}{w:World}{k:Int}(h:QI u B w)(hB:B<=200000):zd G 142 [.d (zD w),.d (.int .i64 k)] []=some (.d (.tup [zD (zc9 zax w k).1,.int .i64 (zc9 zax w k).2]),[]):=
 zSO h.wi fun i hi=>zXe h hB hi
noncomputable def pkR(c:Command):Nat->World->Option (zR×St)
 | 0,w=>some (.exit 1,⟨[(2,.ref 2 0 0),(4,.ref 4 0 0)],[(2,.row [.d (zD w)]),(4,zWr)]⟩)
 | n+1,w=>if (zbj w).length=0 then some (.ret,⟨[(4,.ref 4 0 0),(5,.d (.int .i64 0))],[(4,.row [.d (zD w)])]⟩) else if (zc9 zax w ((zbn c.pick 0).tmod (zbj w).length)).2≠0 then some (.ret,⟨[(4,.ref 4 0 0),(5,.d (.int .i64 (zc9 zax w ((zbn c.pick 0).tmod (zbj w).length)).2))],[(4,zWr)]⟩) else pkR c n (zc9 zax w ((zbn c.pick 0).tmod (zbj w).length)).1
theorem zST(c:Command):∀(n:Nat) (w:World),(∃w',zhT zax c.pick n w=(w',0)/\(pkR c n w=some (.exit 1,⟨[(2,.ref 2 0 0),(4,.ref 4 0 0)],[(2,.row [.d (zD w')]),(4,zWr)]⟩)\/pkR c n w=some (.ret,⟨[(4,.ref 4 0 0),(5,.d (.int .i64 0))],[(4,.row [.d (zD w')])]⟩)))\/(∃e,e≠0/\zhT zax c.pick n w=(zbd,e)/\pkR c n w=some (.ret,⟨[(4,.ref 4 0 0),(5,.d (.int .i64 e))],[(4,zWr)]⟩)):=by
 intro n
 induction n with
 | zero=>intro w;exact .inl ⟨w,rfl,.inl rfl⟩
 | succ n ih=>
  intro w;unfold zhT pkR
  by_cases c1:(zbj w).length=0
  ·rw[zYQ c1,zYQ c1];exact .inl ⟨w,rfl,.inr rfl⟩
  rw[zYP c1,zYP c1]
  by_cases c2:(zc9 zax w ((zbn c.pick 0).tmod (zbj w).length)).2=0
  ·rw[zYP (fun q=>q c2),zYP (fun q=>q c2)];exact ih _
  ·rw[zYQ c2,zYQ c2];exact .inr ⟨_,c2,rfl,rfl⟩
def pkS(c:Command)(m:Nat)(p:Nat×World):St:=⟨[(2,.ref 2 0 0),(3,.ref 3 0 0),(4,.ref 4 0 0),(6,.d (.int .i64 m)),(7,.d (.int .i64 p.1))],[(2,.row [.d (zD p.2)]),(3,.row [.d (zaT c)]),(4,zWr)]⟩
theorem zSU{u:Setup}{c:Command}{m:Nat}(hm:m<=255){B:Int}(hB:B<=102000):∀p:Nat×World,(p.1<=m/\QI u (B+p.1) p.2)->zP G [] zsa (pkS c m p)=pkR c (m - p.1) p.2:=by
 refine zaq (fun p:Nat×World=>m - p.1) _ _ _ fun⟨k,w⟩ ⟨h1,h2⟩ L ih=> ?_;simp only at h1 h2;simp only[pkS,zsa] at ih ⊢
 by_cases h0:k<m
 ·have hk:=h2.wi.tl;have hn:=zsM w zo;have hc:=zsL w zo;have hol:=zsN w;have e1:m - k=(m - (k+1))+1:=by omega
  rw[e1];unfold pkR
  by_cases c1:(zbj w).length=0
  ·rw[zYQ c1];rw[<- hol] at c1;have h:=hn (zZC.1 c1);clear hn hc ih h2 hol c1 e1 hk;have sz_w:=za8 w;generalize zD w=D_w at *;simp only[zaT];unfold zWr;exact zS
  ·rw[zYP c1];have hp:=zSR (k:=(zbn c.pick 0).tmod (zbj w).length) h2 zo;have hq:=zC9 zjg.ok zmL (k:=(zbn c.pick 0).tmod (zbj w).length) h2;have hmx:(if c.pick<0 then 0 else c.pick)=zbn c.pick 0:=by
    unfold zbn;rfl
   generalize zbn c.pick 0=y at *;rw[<- hol] at *;generalize hO:opL w.tasks w.tasks.length=o at *
   rcases o with _|⟨o1,o⟩
   ·exact absurd rfl c1
   have h:=hc o1 o rfl;generalize zc9 zax w (y.tmod ((o1::o).length:Int))=r at *;obtain⟨w2,e⟩:=r;simp only[zYW] at hp hq c1
   by_cases c2:e=0
   ·subst c2;have i1:=ih (k+1,w2) ⟨by simp only;omega,by have:=hq rfl;rw[show B+((k+1:Nat):Int)=B+k+1 by omega];exact this⟩ (by simp only;omega);rw[zYP (by simp)];simp only at i1;clear hn hc ih h2 hol c1 e1 hk hq hO;generalize pkR c (m - (k+1)) w2=z at *;have sz_w:=za8 w;generalize zD w=D_w at *;have sz_w2:=za8 w2;generalize zD w2=D_w2 at *;obtain⟨ck,pk,by_,iv,rf⟩:=c;simp only[zaT] at *;unfold zWr at *;simp only[zNr,zp] at i1 hp;exact zS
   ·rw[zYQ c2];replace c2:=zYV c2;clear hn hc ih h2 hol c1 e1 hk hq hO;have sz_w:=za8 w;generalize zD w=D_w at *;have sz_w2:=za8 w2;generalize zD w2=D_w2 at *;obtain⟨ck,pk,by_,iv,rf⟩:=c;simp only[zaT] at *;unfold zWr at *;simp only[zNr,zp] at hp;exact zS
 ·have e1:m - k=0:=by omega
  rw[e1];clear ih h2;unfold pkR;have sz_w:=za8 w;generalize zD w=D_w at *;simp only[zaT];unfold zWr;exact zS
theorem zHR{u:Setup}{B:Int}{w:World}{c:Command}(h:QI u B w)(hB:B<=102000)(hk:c.kind=1):zd G 92 [.d (zD w),.d (zaT c)] []=some (.d (.tup [zD (doW zax w c).1,.int .i64 (doW zax w c).2]),[]):=by
 have hm:(if 0<(if 255<c.by_ then 255 else c.by_) then (if 255<c.by_ then 255 else c.by_) else 0)=zbn 0 (zf1 c.by_ 255):=by
  unfold zbn zf1
  by_cases q1:c.by_<255<;>by_cases q2:255<c.by_<;>simp only[q1,q2,if_true,if_false]<;>split<;>omega
 have hb:=zuw c.by_;have h0:0<=zbn 0 (zf1 c.by_ 255):=by unfold zbn;split<;>omega
 unfold doW;simp only;generalize zbn 0 (zf1 c.by_ 255)=m at *;obtain⟨n,rfl⟩:∃n:Nat,m=n:=⟨m.toNat,by omega⟩;rw[zYQ hk];simp only[zZz] at *;have hl:=zSU (c:=c) hb hB (0,w) ⟨by simp,by simpa using h⟩;have hc:=zST c n w;simp only[pkS,z0f,zZg] at hl;clear h hb;obtain⟨k,pk,by_,iv,rf⟩:=c;simp only at *;subst hk
 rcases hc with ⟨v,hp,hr⟩|⟨e,he,hp,hr⟩
 ·rw[hp]
  rcases hr with hr|hr
  all_goals
   rw[hr] at hl;clear hp hr;simp only;have sz_w:=za8 w;generalize zD w=D_w at *;have sz_v:=za8 v;generalize zD v=D_v at *;simp only[zaT] at *;unfold zWr at *
  ·exact zW
  ·exact zW
 ·rw[hp];rw[hr] at hl;have hz:zD zbd= .agg [.int .i64 0,.int .i64 0,.int .i64 0,.int .i64 0,.int .i64 0,.int .i64 0,.int .i64 0,.int .i64 0,.sl [],.sl [],.int .i64 0,.int .i64 0,.sl [],.int .i64 0,.sl [],.sl [],.int .i64 0,.int .i64 0,.int .i64 0,.sl [],.sl [],.int .i64 0,.sl []]:=rfl;simp only[hz];clear hp hr hz;replace he:=zYV he;have sz_w:=za8 w;generalize zD w=D_w at *;simp only[zaT] at *;unfold zWr at *;exact zW
end Go.Proofs.YtjalkkalhdnplaaGreat
