/-
  A step of a settlement.
-/
import Derived.Test.YtjalkkalhdnplaaGreatB568fc85
import Derived.Test.YtjalkkalhdnplaaGreatB2a7f320
import Derived.Test.YtjalkkalhdnplaaGreatB4d72af9
set_option linter.unusedSimpArgs false
set_option linter.unusedVariables false
set_option maxHeartbeats 10000000
set_option maxRecDepth 100000
namespace Go.Proofs.YtjalkkalhdnplaaGreat
open Go Go.Sim
def zsA:AV:= .agg [.d (.int .i64 0),.d (.int .i64 0),.xsl [],.d (.int .i64 0),.d (.int .i64 0),.d (.int .i64 0),.d (.int .i64 0),.d (.int .i64 0),.d (.int .i64 0),.d (.int .i64 0),.d (.int .i64 0),.xsl [],.d (.int .i64 0),.xsl [],.xsl [],.d (.int .i64 0),.xsl [],.xsl [],.xsl [],.d (.int .i64 0),.xsl [],.xsl [],.xsl [],.xsl [],.d (.int .i64 0),.xsl []]
def zma(n:Int)(l:List Int)(i:Nat):Bool:=decide (0<=l.getD i 0/\l.getD i 0<n)&&(List.range i).all fun k=> !decide (l.getD k 0=l.getD i 0)
theorem zSB(n:Int)(l:List Int):zkq n l=(List.range l.length).all (zma n l):=by
 unfold zkq;apply zZB.2;simp only[decide_eq_true_eq,zZi,zZJ,zma,zY6,zZL,decide_eq_false_iff_not];constructor
 ·rintro⟨h1,h2⟩ i hi;refine⟨by rw[zg hi];exact h1 _ (zY4 hi),fun k hk=> ?_⟩;rw[zg hi,zg (show k<l.length by omega)];intro e;have:=(z1A.1 h2);rw[zZ4] at this;exact this k i zo hi hk e
 ·intro h;refine⟨fun o ho=> ?_,?_⟩
  ·obtain⟨i,hi,rfl⟩:=z00.1 ho;have:=(h i hi).1
   rwa [zg hi] at this
  ·rw[z1A,zZ4];intro k i hk hi hki e;have:=(h i hi).2 k hki;rw[zg hi,zg hk] at this;exact this e
def dcH(s:Section)(o:zb5):zf:=[(2,.row [.d (zr s)]),(3,.row [.d (z6 o)]),(4,.row [zsA])]
def dcR:zR×St:=(.ret,⟨[(4,.ref 4 0 0),(5,.d (.int .i64 1))],[(4,.row [zsA])]⟩)
theorem zHp(s:Section)(o:zb5)(i:Nat)(hi:i<o.order.length)(hl:o.order.length<=3):zP G [] zot ⟨[(2,.ref 2 0 0),(3,.ref 3 0 0),(4,.ref 4 0 0),(6,.d (.int .i64 i)),(7,.d (.int .i64 (0:Nat)))],dcH s o⟩=some (if (List.range i).all (fun k=> !decide (o.order.getD k 0=o.order.getD i 0))=true then (.exit 2,⟨[(2,.ref 2 0 0),(3,.ref 3 0 0),(4,.ref 4 0 0),(6,.d (.int .i64 i))],dcH s o⟩) else dcR):=by
 refine zc7 (G:=G) i (fun k=> !decide (o.order.getD k 0=o.order.getD i 0)) (fun k=>⟨[(2,.ref 2 0 0),(3,.ref 3 0 0),(4,.ref 4 0 0),(6,.d (.int .i64 i)),(7,.d (.int .i64 k))],dcH s o⟩) _ _ fun k hk L=> ?_;simp only[zot,dcH,dcR,zsA,zr,z6,zbG];rw[zg hi]
 by_cases h0:k<i
 ·rw[zYQ h0,zg (show k<o.order.length by omega)]
  by_cases c:o.order[k]=o.order[i]
  ·rw[zZe c];replace c:=zY8 c;exact zS
  ·rw[zZc c];replace c:=zYV c;exact zS
 ·rw[zYP h0];exact zS
theorem zHq(s:Section)(o:zb5)(hl:o.order.length<=3)(hc:s.lock.cells.length<=3):zP G [] zou ⟨[(2,.ref 2 0 0),(3,.ref 3 0 0),(4,.ref 4 0 0),(6,.d (.int .i64 (0:Nat)))],dcH s o⟩=some (if (List.range o.order.length).all (zma s.lock.cells.length o.order)=true then (.exit 0,⟨[(2,.ref 2 0 0),(3,.ref 3 0 0),(4,.ref 4 0 0)],dcH s o⟩) else dcR):=by
 refine zc7 (G:=G) o.order.length (zma s.lock.cells.length o.order) (fun k=>⟨[(2,.ref 2 0 0),(3,.ref 3 0 0),(4,.ref 4 0 0),(6,.d (.int .i64 k))],dcH s o⟩) _ _ fun k hk L=> ?_
 by_cases h0:k<o.order.length
 ·have hi:=zHp s o k h0 hl;unfold zma;rw[zYQ h0];generalize (List.range k).all (fun j=> !decide (o.order.getD j 0=o.order.getD k 0))=b at *;rw[zg h0];simp only[zou,dcH,dcR,zsA,zr,z6] at *;simp only[zNr,zp] at hi
  by_cases c:0<=o.order[k]/\o.order[k]<(s.lock.cells.length:Int)
  ·rw[zZe c]
   cases b
   ·simp only[zZ5,zYX,if_false] at *;exact zS
   ·simp only[zZX,if_true] at *;exact zS
  ·rw[zZc c];clear hi;simp only[zZH,zYX,if_false];exact zS
 ·rw[zYP h0];simp only[zou,dcH,dcR,zsA,zr,z6];exact zS
theorem zHx(s:Section)(o:zb5)(hl:o.order.length<=3)(hc:s.lock.cells.length<=3):zd G 235 [.d (zr s),.d (z6 o)] []=some (.d (.tup [zr (zeR s o).1,.int .i64 (zeR s o).2]),[]):=by
 have hlp:=zHq s o hl hc;rw[<- zSB] at hlp;unfold zeR
 by_cases c0:s.phase≠4
 ·rw[zYQ c0];clear hlp;have c0:(s.phase=4)=False:=zYV c0;simp only[zr,z6,zbG] at *;exact zW
 rw[zYP c0];replace c0:(s.phase=4)=True:=zY8 (zY9.1 c0)
 by_cases c1:o.shards.length≠s.shards.length\/1<o.edits.length
 ·rw[zYQ c1];clear hlp;simp only[zr,z6,zbG] at *
  by_cases c2:o.shards.length=s.shards.length
  ·have c3:1<o.edits.length:=by omega
   clear c1;replace c2:((o.shards.length:Int)=s.shards.length)=True:=zY8 zo;exact zW
  ·clear c1;exact zW
 rw[zYP c1];have c2:((o.shards.length:Int)=s.shards.length)=True:=zY8 zo;have c3:¬1<o.edits.length:=by omega
 clear c1
 cases c4:zkq s.lock.cells.length o.order
 ·simp only[c4,if_true,zYX,if_false] at hlp ⊢;clear c4;simp only[dcH,dcR,zsA,zr,z6,zbG] at *;simp only[zNr,zp] at hlp;exact zW
 ·simp only[c4,if_true,zZK,if_false] at hlp ⊢;clear c4
  by_cases c5:0<o.order.length
  ·rw[zYQ c5];have he:=zfe { s with out:=o } 5;unfold z5 at *;simp only[dcH,dcR,zsA,zr,z6,zbG] at *;simp only[zNr,zp] at hlp;exact zW
  rw[zYP c5]
  by_cases c6:0<o.edits.length
  ·rw[zYQ c6];have he:=zfe { s with out:=o } 6;unfold z5 at *;simp only[dcH,dcR,zsA,zr,z6,zbG] at *;simp only[zNr,zp] at hlp;exact zW
  ·rw[zYP c6];have hu:=zpx zx { s with out:=o };generalize zcs zx { s with out:=o }=u at *;obtain⟨u1,u2,u3⟩:=u;simp only at *;have sz_u2:=zdL u2;generalize zr u2=D_u2 at *;have sz_u1:=zay u1;generalize zl u1=D_u1 at *;simp only[dcH,dcR,zsA,zr,z6,zl,zx,zaL,zYS] at *;simp only[zNr,zp] at hlp;exact zW
theorem zET(r:Int):zd G 153 [.d (.int .i64 r)] []=some (.d (.tup [zcC (zgK r).1,.int .i64 (zgK r).2]),[]):=by
 unfold zgK;have zk0:=zcC.eq_1;have zk1:=zga.eq_1;exact zW
theorem zES(w:zeM)(lo hi:Int):zd G 212 [.d (zcC w),.d (.int .i64 lo),.d (.int .i64 hi)] []=some (.d (.tup [zcC (zfF w lo hi).1,.int .i64 (zfF w lo hi).2]),[]):=by
 unfold zfF;simp only[zcC];have zk0:=zcC.eq_1;have zk1:=zga.eq_1;exact zW
theorem zEU(w:zeM):zd G 213 [.d (zcC w)] []=some (.d (.bool (zgL w)),[]):=by
 unfold zgL;simp only[zcC];exact zW
theorem zlE(n lo hi:Int):zd G 97 [.d (.int .i64 n),.d (.int .i64 lo),.d (.int .i64 hi)] []=some (.d (.bool (inI n lo hi)),[]):=by
 unfold inI;rw[zB zOQ (by simp)];simp -implicitDefEqProofs (maxSteps:=4000000) (disch:=omega) only[zqs,zg,go_sem, *];(try simp only[zPr]);repeat' (first|done|rfl|((first|refine zG (fun hq=> ?_) (fun hq=> ?_)|refine zM (fun hq=> ?_) (fun hq=> ?_))<;>(try (first|(exfalso;omega)|contradiction))<;>(try simp -implicitDefEqProofs (maxSteps:=4000000) (disch:=omega) only[zg,go_sem, *])<;>(try simp only[zPr])));(all_goals try rfl);(all_goals try (repeat' (first|done|rfl|(exfalso;omega)|contradiction|(refine zI (fun hq=> ?_) (fun hq=> ?_)))))
 simp only[z0R]
theorem zIL(i:zaY):zd G 204 [.d (zbV i)] []=some (.d (.int .i64 (zej i)),[]):=by
 unfold zej;obtain⟨kd,hm,mx,vs,fr,tt,bs,ts⟩:=i;simp only[zbV]
 by_cases k1:kd=1
 ·subst k1;exact zW
 rw[zYP k1]
 by_cases k2:3<=kd/\kd<=5
 ·rw[zYQ k2];have k3:kd=3\/kd=4\/kd=5:=by omega
  rcases k3 with rfl|rfl|rfl
  ·exact zW
  ·exact zW
  ·exact zW
 ·rw[zYP k2];exact zW
theorem ze1(t:zq)(r:Result)(n:Int)(he:0<=t.entry/\t.entry<=1000)(hl:t.results.length<=1000):zd G 151 [.d (zh t),.d (zaj r),.d (.int .i64 n)] []=some (.d (zh (zbo t r n)),[]):=by
 have hn:=zIL t.inv;unfold zbo;generalize zej t.inv=en at *;simp only[zh,zaj,zbV] at *
 by_cases c:t.entry+1=en
 ·rw[zYQ c,zYQ c];replace c:=zY8 c;have zk0:=zJ.eq_1;exact zW
 ·rw[zYP c,zYP c];have zk0:=zJ.eq_1;exact zW
theorem zeV(t:zq)(lo hi:Int):zd G 148 [.d (zh t),.d (.int .i64 lo),.d (.int .i64 hi)] []=some (.d (.int .i64 (zan t lo hi)),[]):=by
 unfold zan;generalize ht:zh t=et at *;simp only[zh] at ht;subst ht
 cases c:t.done
 ·exact zW
 ·exact zW
theorem zc4(e:Int):zd G 99 [.d (.int .i64 e)] []=some (.d (.tup [zl zx,zh zJ,.sl [],.int .i64 e]),[]):=by
 have zk0:=zl.eq_1;have zk1:=zh.eq_1;have zk2:=zx.eq_1;have zk3:=zJ.eq_1;exact zW
theorem zmA(t:zq)(cells:List Int)(pc:Int)(hL:cells.length<=1000):zd G 161 [.d (zh t),.d (.sl (zt cells)),.d (.int .i64 pc)] []=some (.d (zh (zcc t cells pc)),[]):=by
 have h:=zVT cells t.setup.limit hL;unfold zcc;generalize zdv cells t.setup.limit=r at *;obtain⟨s,e⟩:=r;simp only[zh,zr] at *;exact zW
theorem zSG(a b:Int):zd G 172 [.d (.int .i64 a),.d (.int .i64 b)] []=some (.d (.sl (zt (zey a b))),[]):=by
 unfold zey
 by_cases c:a<b
 ·rw[zYQ c];have zk0:=zt.eq_1;exact zW
 ·rw[zYP c]
  by_cases c2:b<a
  ·have zk0:=zt.eq_1;exact zW
  ·have c3:a=b:=by omega
   subst c3;have zk0:=zt.eq_1;exact zW
theorem znw(t:zq)(kind n:Int):zd G 150 [.d (zh t),.d (.int .i64 kind),.d (.int .i64 n)] []=some (.d (zaE (evT t kind n)),[]):=by
 simp only[zh,evT];have zk0:=zaE.eq_1;have zk1:=zbS.eq_1;exact zW
def zeD(t:zq)(kind:Int):AV:= .agg [.d (.int .i64 t.sec.snap.stamp),.d (.int .i64 t.number),.d (.int .i64 t.entry),.d (.int .i64 kind),.d (.int .i64 t.sec.snap.clock),.d (.int .i64 t.sec.snap.epoch),.d (.int .i64 0),.xsl [],.d (.int .i64 0),.d (.int .i64 0)]
theorem zkL(t:zq)(kind:Int):zd G 210 [.d (zh t),.d (.int .i64 kind)] []=some (zeD t kind,[]):=by
 simp only[zh,zeD];exact zW
theorem zHw(t:zq)(o:zb5)(hd:zd G 235 [.d (zr t.sec),.d (z6 o)] []=some (.d (.tup [zr (zeR t.sec o).1,.int .i64 (zeR t.sec o).2]),[])):zd G 174 [.d (zh t),.d (z6 o)] []=some (.d (zh (za5 t o)),[]):=by
 unfold za5;generalize zeR t.sec o=r at *;obtain⟨s,e⟩:=r;simp only[zh,zr,z6] at *;exact zW
theorem zsm(a:zm)(t:zq)(r pc:Int)(hL:a.dir.l.length<=4294967296):zd G 155 [.d (zl a),.d (zh t),.d (.int .i64 r),.d (.int .i64 pc)] []=some (.d (zh (zg3 a t r pc)),[]):=by
 have h1:=zoB a;have h2:=zDh a.dir r hL;have h3:=zmA { t with dir:=a.dir,slot:=zew a.dir r } [zew a.dir r] pc (by simp);unfold zg3;generalize zcc { t with dir:=a.dir,slot:=zew a.dir r } [zew a.dir r] pc=t2 at *;generalize zew a.dir r=o at *;have sz_t2:=zO t2;generalize zh t2=D_t2 at *;simp only[zh,zat,zt,zYU,zYS] at *;exact zW
theorem zmz{u:Setup}{N:Int}{a:zm}{s:Section}(hu:zaX u=true)(ha:AI u a)(hs:SI u N s)(hN:N<=1000000):zmV a s:=by
 have hb:=zkH hu;have hsl:=ha.sl;have c1:=hs.lw.c1;have c2:=hs.lw.c2;have hk:=zlH u.slots s.lock.cells;have hin:=zBP (n:=u.slots) hs.ca;refine { sl:=by omega,st:=ha.st,lw:=hs.lw.mono hN,p1:=fun q=> ?_,p2:=fun q=> ?_,p5:=fun q=> ?_,p6:=fun q=> ?_,p7:=fun q=> ?_,od:=hs.oo,f1:=fun x hx=> ?_,f2:=fun x hx=> ?_,dd:=hs.od,di:=hs.di }
 ·obtain⟨_,h1,h2,h3,_⟩:=hs.ph.p1 q;exact⟨h1,by omega,h3⟩
 ·obtain⟨_,h1,h2,h3,h4,_⟩:=hs.ph.p2 q;exact⟨h1,by omega,by omega⟩
 ·obtain⟨_,h1,h2,h3,h4,h5⟩:=hs.ph.p5 q;refine⟨h4,h5,fun o ho hne=> ?_⟩;obtain⟨o1,o2⟩:=hs.oo.1 o ho;rw[zli o1 o2] at hne;have hc:=hs.cr _ (zY4 (show o.toNat<s.lock.cells.length by omega));have hi:=(hin o.toNat zo).2 zo;omega
 ·obtain⟨_,h1,h2,h3,h4,h5,_⟩:=hs.ph.p6 q;exact⟨h5,h4⟩
 ·obtain⟨_,h1,h2,h3,h4,h5⟩:=hs.ph.p7 q;exact⟨h4,by omega,by omega,by omega,by omega,by omega⟩
 ·have h:=hs.os x hx;exact⟨by have:=h.1;omega,by have:=h.2;omega,by have:=h.3;omega⟩
 ·obtain⟨h1,h2⟩:=hs.sv x hx;exact zfK (zbJ h1)
theorem zmC{u:Setup}{N:Int}{t:zq}(hs:SI u N t.sec):za0 (sh0 t):=zfK (zkI hs)
theorem zcu{u:Setup}{N:Int}{t:zq}{o:zb5}(hs:SI u N t.sec)(ho:OI t.sec o):zd G 174 [.d (zh t),.d (z6 o)] []=some (.d (zh (za5 t o)),[]):=
 zHw t o (zHx t.sec o ho.ol hs.lw.c2)
theorem zPX{u:Setup}{N:Int}{s:Section}(h:SI u N s)(hp:s.phase=4\/s.phase=9):s.shards.length=kOf u.slots s.lock.cells:=by
 rcases hp with q|q
 ·exact (h.ph.p4 q).2.2
 ·exact (h.ph.p9 q).1
theorem zgE{u:Setup}{N:Int}{i:zaY}{s:Section}(h:zbe u N i s)(hv:zbO i u=0)(hp:s.phase=4\/s.phase=9):
    (1<=i.kind/\i.kind<=5->s.shards.length=1)/\(i.kind=8->s.shards.length=1)/\(9<=i.kind/\i.kind<=11->s.shards.length=2)/\(12<=i.kind/\i.kind<=13->s.shards.length<=1)/\(i.kind=14->s.shards.length=1):=by
 have hk:=zPX h.si hp;refine⟨fun q=> ?_,fun q=> ?_,fun q=> ?_,fun q=> ?_,fun q=> ?_⟩
 ·obtain⟨c,c0,c1,c2⟩:=h.c1 q;rw[hk,c2,zBO c1]
 ·obtain⟨c,c0,c1,c2⟩:=h.c8 q;rw[hk,c2,znZ c1]
 ·obtain⟨v1,v2,v3⟩:=zjV hv q;rw[hk,h.c9 q];unfold zey
  split
  ·exact znY v1.2 v2.2
  ·exact znY v2.2 v1.2
 ·have q2:=zlH u.slots s.lock.cells;rw[h.c12 q] at q2 hk;simp only[zYW,zYY] at q2;omega
 ·have v:=zjU hv (.inr q);rw[hk,h.c14 q,znZ v.2]
structure zgO(K:Tok):Prop where
 ok:zig K
 rt:∀i,zd G 154 [.d (.int .i64 i)] []=some (.d (.int .i64 (K.route i)),[])
 en:∀h,zd G 203 [.d (zaB h)] []=some (.d (.tup [zaD (K.enc h).1,.int .i64 (K.enc h).2]),[])
 pa:∀b:List UInt8,b.length<=4294967296->zd G 164 [.d (zaD b)] []=some (.d (.tup [zaB (K.par b).1,.int .i64 (K.par b).2]),[])
theorem zdc{t:zq}(hk:t.sec.shards.length=1):sh0 t=t.sec.shards[0]:=by
 unfold sh0;exact zg zo
theorem zV5{K:Tok}(hK:zgO K){u:Setup}{N:Int}{t:zq}(hs:SI u N t.sec)(hk:t.sec.shards.length=1)(hw:zgM t.walk)(he:0<=t.entry/\t.entry<t.inv.bodies.length):zd G 157 [.d (zh t)] []=some (.d (.tup [zh (zdx K t).1,.sl ((zdx K t).2.map zaE)]),[]):=by
 have hb:za0 t.sec.shards[0]:=zdc hk ▸ zmC hs;have hl12:zaJ t.sec.shards[0]:=zdc hk ▸ zkI hs;have hu:=zhk t.sec;have ho:=zoW t.sec.shards[0] t.walk.next hb;unfold zdx;simp only;rw[zdc hk];have hun:=hs.un
 by_cases c0:zex t.sec.shards[0] t.walk.next=false
 ·rw[zYQ c0];rw[c0] at ho;have hd:=zcu (t:={ t with loaded:=0 }) hs hun;generalize za5 { t with loaded:=0 } (z7 t.sec)=t2 at *;have sz_t2:=zO t2;generalize zh t2=D_t2 at *;clear hun hs hl12 hb c0;simp only[zh,zr,z6,z7,zYS,zt] at *;exact zW
 rw[zYP c0];replace c0:zex t.sec.shards[0] t.walk.next=true:=by simpa using c0
 rw[c0] at ho;have hst:=zhh t.sec.shards[0] hb;have hsn:=zkL { t with loaded:=0 } 2
 by_cases c1:zbc t.sec.shards[0]=t.sec.shards[0].ready.cells.length
 ·rw[zYQ c1];have ha:=zES t.walk t.sec.shards[0].low t.sec.shards[0].high;have hv:=zEU (zfF t.walk t.sec.shards[0].low t.sec.shards[0].high).1;generalize zfF t.walk t.sec.shards[0].low t.sec.shards[0].high=wk at *;obtain⟨wk,we⟩:=wk;simp only at *;rw[c1] at hst
  by_cases c2:zgL wk=false
  ·rw[zYQ c2];rw[c2] at hv;have hd:=zcu (t:={ t with loaded:=0,walk:=wk }) hs hun;generalize za5 { t with loaded:=0,walk:=wk } (z7 t.sec)=t2 at *;have sz_t2:=zO t2;generalize zh t2=D_t2 at *;clear hun hs hl12 hb c0 c1 c2;simp only[zh,zr,z6,z7,zcC,zcd,zeD,zaE,zbS,zYS,zt] at *;exact zW
  ·rw[zYP c2];replace c2:zgL wk=true:=by simpa using c2
   rw[c2] at hv;have hd:=zcu (t:={ t with loaded:=2,walk:=wk }) hs hun;generalize za5 { t with loaded:=2,walk:=wk } (z7 t.sec)=t2 at *;have sz_t2:=zO t2;generalize zh t2=D_t2 at *;clear hun hs hl12 hb c0 c1 c2;simp only[zh,zr,z6,z7,zcC,zcd,zeD,zaE,zbS,zYS,zYU,zt] at *;have zk0:=zbs.eq_1;exact zW
 ·rw[zYP c1];have hrt:=hK.rt t.id;have hin:=zBH (K.route t.id) t.sec.shards[0].low t.sec.shards[0].high;have hnm:=zRB t.id (zjT (K.route t.id) t.sec.shards[0].low t.sec.shards[0].high) t.sec.snap.epoch t.sec.snap.clock (t.inv.bodies.getD t.entry.toNat []);rw[zg (show t.entry.toNat<t.inv.bodies.length by omega)] at hnm ⊢;generalize K.route t.id=rt at *;generalize zjT rt t.sec.shards[0].low t.sec.shards[0].high=r2 at *;generalize zl2 t.id r2 t.sec.snap.epoch t.sec.snap.clock (t.inv.bodies[t.entry.toNat]'(by omega))=m at *;obtain⟨m,me⟩:=m;simp only at *;have hpt:=zDe t.sec.shards[0] m hb;have hl2:=zn2 hl12 m;generalize zcH t.sec.shards[0] m=x at *;obtain⟨x,xe⟩:=x;simp only at *;have hd:=zcu (t:={ t with loaded:=1 }) hs (hs.one hk hl2);generalize za5 { t with loaded:=1 } { z7 t.sec with shards:=[x],order:=[0] }=t2 at *;have sz_t2:=zO t2;generalize zh t2=D_t2 at *;clear hun hs hl12 hb c0 hl2;simp only[zh,zr,z6,z7,zcd,zeD,zaE,zbS,zj,zYS,zYU,zt] at *;have zk0:=zbs.eq_1;exact zW
theorem zIN{i:zaY}{u:Setup}(h:zbO i u=0):1<=zej i/\zej i<=6:=by
 unfold zej;unfold zbO at h
 by_cases c:i.kind=1
 ·rw[zYQ c] at h ⊢
  split at h
  ·cases h
  ·omega
 ·rw[zYP c] at h ⊢
  by_cases c2:i.kind=2\/i.kind=8
  ·rw[zYP zo];omega
  ·rw[zYP c2] at h
   by_cases c3:3<=i.kind/\i.kind<=5
   ·rw[zYQ c3] at h ⊢
    split at h
    ·cases h
    ·omega
   ·rw[zYP c3];omega
theorem zh8{u:Setup}{N:Int}{t:zq}(h:TI u N t)(hd:t.done=false):(0<=t.entry/\t.entry<=1000)/\t.results.length<=1000:=by
 have h1:=zIN h.iv;have h2:=h.e0;have h3:=h.e1 hd;have h4:=h.e2;omega
theorem zV8(a:zm)(t:zq)(n:Int)(h:zan t 1 1≠0):zd G 100 [.d (zl a),.d (zh t),.d (.int .i64 n)] []=some (.d (.tup [zl zx,zh zJ,.sl [],.int .i64 (zan t 1 1)]),[]):=by
 have hg:=zeV t 1 1;have hf:=zc4 (zan t 1 1);generalize zan t 1 1=ge at *;have sz_zTask:=zO zJ;generalize zh zJ=D_zTask at *;have sz_t:=zO t;generalize zh t=D_t at *;have sz_zArena:=zay zx;generalize zl zx=D_zArena at *;exact zW
theorem zWa{K:Tok}(hK:zgO K){u:Setup}{a:zm}{t:zq}{n N:Int}(hu:zaX u=true)(ha:AI u a)(ht:TI u N t)(hN:N<=999999):zd G 100 [.d (zl a),.d (zh t),.d (.int .i64 n)] []=some (.d (.tup [zl (zd3 K a t n).1,zh (zd3 K a t n).2.1,.sl ((zd3 K a t n).2.2.1.map zaE),.int .i64 (zd3 K a t n).2.2.2]),[]):=by
 unfold zd3
 by_cases c0:zan t 1 1=0
 rotate_left
 ·rw[zYQ c0];exact zV8 a t n c0
 rw[zYP (fun q=>q c0)];have hg:=zeV t 1 1;rw[c0] at hg;obtain⟨g1,g2⟩:=zeW c0;have hen:=zh8 ht g1;have he1:=ht.e1 g1;clear g1;have hld:=ht.ld;have hwk:=ht.wk
 by_cases c1:t.pc=0
 ·rw[zYQ c1];have hw:=zj6 a 3;simp only[zgZ,if_true,Int.reduceEq,if_false] at hw
  by_cases c2:a.nextID=1073741824
  ·rw[zYQ c2];have hv:=znw { t with loaded:=a.nextID } 2 n;have hn1:=ze1 { t with loaded:=a.nextID } (zaW 6) n hen.1 hen.2;generalize zbo { t with loaded:=a.nextID } (zaW 6) n=t2 at *;have sz_t2:=zO t2;generalize zh t2=D_t2 at *;replace c1:=zY8 c1;replace c2:=zY8 c2;clear ht ha hu;simp only[zh,zaW,zaj,zah,evT,zbS,zYS,zYU,zaE] at *;exact zW
  ·rw[zYP c2];replace c1:=zY8 c1;replace c2:=zYV c2;clear ht ha hu;simp only[zh] at *;exact zW
 rw[zYP c1]
 by_cases c2:t.pc=1
 ·rw[zYQ c2];have hc:=zyy a 3 t.loaded (t.loaded+1);have hf:=zc4 (casWord a 3 t.loaded (t.loaded+1)).2.2;have hrt:=hK.rt t.loaded;have hwb:=zET (K.route t.loaded);generalize K.route t.loaded=rt at *;generalize zgK rt=wb at *;obtain⟨wb,we⟩:=wb;generalize casWord a 3 t.loaded (t.loaded+1)=c at *;obtain⟨x1,x2,x3⟩:=c;replace c2:=zY8 c2;replace c1:=zYV c1;clear ht ha hu;simp only at *
  by_cases c4:x3=0
  ·subst c4;clear hf;simp only[ne_eq,zY2,if_false] at *
   cases x2
   ·simp only[zYX,if_false] at *;simp only[zh,zcC] at *;exact zW
   ·simp only[if_true] at *;simp only[zh,zcC] at *;exact zW
  ·rw[zYQ c4];unfold zbu;have sz_zTask:=zO zJ;generalize zh zJ=D_zTask at *;have sz_zArena:=zay zx;generalize zl zx=D_zArena at *;simp only[zh,zcC] at *;exact zW
 rw[zYP c2]
 by_cases c3:t.pc=2
 ·rw[zYQ c3];have hlk:=zsm a t t.walk.next 3 (by have:=zfc ha.dv;omega);generalize zg3 a t t.walk.next 3=t2 at *;have sz_t2:=zO t2;generalize zh t2=D_t2 at *;replace c3:=zY8 c3;replace c2:=zYV c2;replace c1:=zYV c1;clear ht ha hu;simp only[zh] at *;exact zW
 rw[zYP c3];have k4:=ht.se ⟨c1,by omega⟩;have hgo:=zlw a t n (zmz hu ha k4.si zo);have hgk:=zjR (n:=n) ha k4;simp only;generalize goT a t n=g at *;obtain⟨a2,t2,b1,b2,e⟩:=g;simp only at *
 by_cases c4:e=0
 rotate_left
 ·rw[zYQ c4];have hf:=zc4 e;unfold zbu;clear hgk ht ha hu k4;replace c3:=zYV c3;replace c2:=zYV c2;replace c1:=zYV c1;have sz_zTask:=zO zJ;generalize zh zJ=D_zTask at *;have sz_zArena:=zay zx;generalize zl zx=D_zArena at *;have sz_t2:=zO t2;generalize zh t2=D_t2 at *;have sz_a2:=zay a2;generalize zl a2=D_a2 at *;simp only[zh] at *;exact zW
 subst c4;simp only[ne_eq,zY2,if_false];obtain⟨h1,s,h2,h3,h4⟩:=hgk rfl;have hen2:t2.entry=t.entry/\t2.results=t.results/\t2.inv=t.inv/\t2.walk=t.walk/\t2.sec=s:=by rw[h2];exact⟨rfl,rfl,rfl,rfl,rfl⟩
 obtain⟨q1,q2,q3,q4,q5⟩:=hen2
 cases b1
 rotate_left
 ·simp only[if_true];have hp:s.phase=4:=h4.1 rfl;have hk:=(zgE h3 ht.iv (.inl hp)).1 zo;have hd:=zV5 hK (t:=t2) (by rw[q5];exact h3.si) (by rw[q5];exact hk) (by rw[q4];exact ht.wk) (by
   rw[q1,q3];refine⟨ht.e0,?_⟩;unfold zej at he1
   rwa [zYQ zo] at he1)
  generalize zdx K t2=r at *;obtain⟨t3,l⟩:=r;clear ht ha hu k4 h1 h2 h3 h4 q1 q2 q3 q4 q5 hp hk he1;replace c3:=zYV c3;replace c2:=zYV c2;replace c1:=zYV c1;simp only at *;have sz_t2:=zO t2;generalize zh t2=D_t2 at *;have sz_t3:=zO t3;generalize zh t3=D_t3 at *;simp only[zh] at *;exact zW
 ·simp only[zYX,if_false]
  cases b2
  ·simp only[if_true];clear ht ha hu k4 h1 h2 h3 h4 q1 q2 q3 q4 q5;replace c3:=zYV c3;replace c2:=zYV c2;replace c1:=zYV c1;have sz_t2:=zO t2;generalize zh t2=D_t2 at *;simp only[zh] at *;exact zW
  ·simp only[zZK,if_false];have hn1:=ze1 t2 { zah with id:=t2.id } n (by rw[q1];exact hen.1) (by rw[q2];exact hen.2);have hn2:=ze1 t2 (zaW 3) n (by rw[q1];exact hen.1) (by rw[q2];exact hen.2);clear ht ha hu k4 h1 h2 h3 h4 q1 q2 q3 q4 q5;replace c3:=zYV c3;replace c2:=zYV c2;replace c1:=zYV c1
   by_cases d1:t2.loaded=1
   ·rw[zYQ d1];clear hn2;generalize zbo t2 { zah with id:=t2.id } n=t3 at *;have sz_t3:=zO t3;generalize zh t3=D_t3 at *;replace d1:=zY8 d1;simp only[zh,zaj,zah,zYS] at *;exact zW
   rw[zYP d1]
   by_cases d2:t2.loaded=2
   ·rw[zYQ d2];clear hn1;generalize zbo t2 (zaW 3) n=t3 at *;have sz_t3:=zO t3;generalize zh t3=D_t3 at *;replace d1:=zYV d1;replace d2:=zY8 d2;simp only[zh,zaj,zaW,zah,zYS] at *;exact zW
   ·rw[zYP d2];clear hn1 hn2;replace d1:=zYV d1;replace d2:=zYV d2;simp only[zh] at *;exact zW
theorem zX4(a b:Shard)(l x:List Message)(hl:l.length<=24)(hx:x.length<=24):zP G [] zoh ⟨[(2,.ref 2 0 0),(3,.ref 3 0 0),(4,.ref 4 0 0),(8,.d (.sl (l.map zj))),(9,.d (.sl (x.map zj))),(10,.d (.int .i64 (0:Nat)))],[(2,.row [.d (zi a)]),(3,.row [.d (zi b)]),(4,.row [shZ])]⟩=some (if (List.range x.length).all (fun k=> !decide (0<=zaF l (x.getD k zX).id))=true then (.exit 0,⟨[(2,.ref 2 0 0),(3,.ref 3 0 0),(4,.ref 4 0 0)],[(2,.row [.d (zi a)]),(3,.row [.d (zi b)]),(4,.row [shZ])]⟩) else (.ret,⟨[(4,.ref 4 0 0),(5,.d (.int .i64 10))],[(4,.row [shZ])]⟩)):=by
 refine zc7 (G:=G) x.length (fun k=> !decide (0<=zaF l (x.getD k zX).id)) (fun k=>⟨[(2,.ref 2 0 0),(3,.ref 3 0 0),(4,.ref 4 0 0),(8,.d (.sl (l.map zj))),(9,.d (.sl (x.map zj))),(10,.d (.int .i64 k))],[(2,.row [.d (zi a)]),(3,.row [.d (zi b)]),(4,.row [shZ])]⟩) _ _ fun k hk L=> ?_
 by_cases h0:k<x.length
 ·rw[zYQ h0,zg h0];have hi:=ziG l x[k].id zo;generalize zaF l x[k].id=q at *;simp only[zoh,zi,shZ] at *
  by_cases c:0<=q
  ·rw[zZe c];have zk0:=zj.eq_1;exact zS
  ·rw[zZc c];have zk0:=zj.eq_1;exact zS
 ·rw[zYP h0];simp only[zoh,zi,shZ] at *;exact zS
theorem zX9(l x:List Message):(x.any fun m=>decide (0<=zaF l m.id))= !((List.range x.length).all (fun k=> !decide (0<=zaF l (x.getD k zX).id))):=by
 apply zZB.2;simp only[zZW,decide_eq_true_eq,zZL,List.all_eq_false,zZJ,z0g,z1W];constructor
 ·rintro⟨m,hm,h⟩;obtain⟨i,hi,rfl⟩:=z00.1 hm;exact⟨i,hi,by rw[zg hi];simpa using h⟩
 ·rintro⟨i,hi,h⟩;rw[zg hi] at h;exact⟨_,zY4 hi,by simpa using h⟩
theorem zmF{s:Shard}(h:zU s=0):0<=s.low/\s.high<65536/\s.low<=65536/\0<=s.high:=by
 cases hl:s.live with
 | true=>
  obtain⟨n,h',e,v⟩:=zfE h hl;have:=v.2.2.2.2.1;have:=v.2.2.2.2.2.1;have:=v.2.2.2.2.2.2.1
  omega
 | false=>
  have hr:=zh0 h;have ht:zac s.leases=0:=by
   unfold zU at h;rw[zYP (fun q=>q hr)] at h
   split at h
   ·rename_i c;exact absurd h c
   ·rename_i c;exact zY9.1 c
  rw[zkJ hr ht,zYQ hl] at h
  split at h
  ·cases h
  ·rename_i c;omega
theorem zYa(a b:Shard)(qa:za0 a)(qb:za0 b):zd G 241 [.d (zi a),.d (zi b)] []=some (.d (.tup [zi (zia a b).1,.int .i64 (zia a b).2]),[]):=by
 have ha:=zmj a qa.1 qa.2.1 qa.2.2;have hb:=zmj b qb.1 qb.2.1 qb.2.2;have sa:=zhh a qa;have sb:=zhh b qb;unfold zia
 by_cases c0:zU a=0
 ·rw[zYP (fun z=>z c0)]
  by_cases c1:zU b=0
  ·rw[zYP (fun z=>z c1)];have ra:=zh0 c0;have rb:=zh0 c1;have la:=zbJ c0;have lb:=zbJ c1;have ma:=zjm ra la.2.1;have mb:=zjm rb lb.2.1;have rdb:=zi7 rb;have na:=zsB c0;have nb:=zsB c1;have ob:=zg9 c1;have hlp:=zX4 a b (zav a) (zav b) na nb;have hba:=zmG c0;have hbb:=zmG c1;rw[zX9];rw[show (if a.low<b.low then a.low else b.low)=(if b.low<a.low then b.low else a.low) by split<;>split<;>omega];have hf:=zqY { a with low:=if b.low<a.low then b.low else a.low,high:=if a.high<b.high then b.high else a.high } (zu b.ready) b.leases.l la zo (by have:=lb.2.1;omega);rw[c0] at ha;rw[c1] at hb
   by_cases c2:a.live=false\/b.live=false\/a.high+1≠b.low/\b.high+1≠a.low
   ·rw[zYQ c2];clear hf hlp ma mb rdb;have hspa:=zmF c0;have hspb:=zmF c1;clear c0 c1 ra rb qa qb na nb ob la lb;generalize zbc a=na at *;generalize zbc b=nb at *;obtain⟨al,alo,ahi,⟨ac,ah,az⟩,⟨atl,ath⟩⟩:=a;obtain⟨bl,blo,bhi,⟨bc,bh,bz⟩,⟨btl,bth⟩⟩:=b;simp only[zi,zA,zaz,zV,zYS] at *
    cases al
    ·clear c2;exact zW
    cases bl
    ·clear c2;exact zW
    ·have c3:ahi+1≠blo/\bhi+1≠alo:=by simpa using c2
     clear c2;obtain⟨c2,c3⟩:=c3;exact zW
   ·rw[zYP c2];have l1:a.live=true:=by cases h:a.live;exact absurd (.inl h) c2;rfl
    have l2:b.live=true:=by cases h:b.live;exact absurd (.inr (.inl h)) c2;rfl
    have l3:a.high+1=b.low\/b.high+1=a.low:=by omega
    have hspa:=zmF c0;have hspb:=zmF c1;clear c2 c0 c1 ra rb qa qb na nb ob;generalize (List.range (zav b).length).all (fun k=> !decide (0<=zaF (zav a) ((zav b).getD k zX).id))=bl at *;generalize zav a=xa at *;generalize zav b=xb at *;generalize zu b.ready=w at *;generalize zbc a=na at *;generalize zbc b=nb at *;have hca:=la.1;clear la lb;obtain⟨al,alo,ahi,⟨ac,ah,az⟩,⟨atl,ath⟩⟩:=a;obtain⟨bv,blo,bhi,⟨bc,bh,bz⟩,⟨btl,bth⟩⟩:=b;simp only at *;subst l1 l2
    by_cases c3:(ac.length:Int)<na+nb
    ·rw[zYQ c3];clear hf hlp;simp only[zi,zA,zaz,zV,zYS] at *
     rcases l3 with l3|l3
     ·replace l3:=zY8 l3;exact zW
     ·by_cases l4:ahi+1=blo
      ·replace l4:=zY8 l4;exact zW
      ·replace l3:=zY8 l3;replace l4:=zYV l4;exact zW
    ·rw[zYP c3]
     cases bl
     ·clear hf;simp only[z1m,if_true,zYX,if_false] at hlp ⊢;simp only[zi,shZ,zA,zaz,zV,zYS,zZg] at *
      by_cases l4:ahi+1=blo
      ·replace l4:=zY8 l4;clear l3;exact zW
      ·have l5:bhi+1=alo:=by omega
       replace l5:=zY8 l5;replace l4:=zYV l4;clear l3;exact zW
     ·simp only[z1l,if_true,zYX,if_false] at hlp ⊢;generalize zgm ⟨true,if blo<alo then blo else alo,if ahi<bhi then bhi else ahi,⟨ac,ah,az⟩,⟨atl,ath⟩⟩ w btl=F at *;have sz_F:=za1 F;generalize zi F=D_F at *;simp only[zi,shZ,zZg] at *
      by_cases l4:ahi+1=blo
      ·replace l4:=zY8 l4;clear l3;exact zW
      ·have l5:bhi+1=alo:=by omega
       replace l5:=zY8 l5;replace l4:=zYV l4;clear l3;exact zW
  ·rw[zYQ c1];rw[c0] at ha;generalize zU b=v at *;simp only[zi,zA,zaz,zV,zYS] at *;exact zW
 ·rw[zYQ c0];generalize zU a=v at *;simp only[zi,zA,zaz,zV,zYS] at *;exact zW
theorem zCX(t:zq):zd G 234 [.d (zh t)] []=some (.d (.sl (zt (zcS t))),[]):=by
 unfold zcS;simp only[zh]
 by_cases c:t.inv.from_<t.inv.to
 ·rw[zYQ c];have zk0:=zt.eq_1;exact zW
 ·rw[zYP c];have zk0:=zt.eq_1;exact zW
theorem zWv(t:zq)(hk:t.sec.shards.length=2):zd G 231 [.d (zh t)] []=some (.d (.tup [zi (zY t),zi (zaK t)]),[]):=by
 have ho:=zCX t;unfold zY zaK;unfold zcS at ho;rw[zg (show 0<t.sec.shards.length by omega),zg (show 1<t.sec.shards.length by omega)]
 by_cases c:t.inv.from_<t.inv.to
 ·rw[zYQ c] at ho;rw[zYQ c,zYQ c];clear c;simp only[zh,zt,zYU,zYS] at *;have zk0:=zi.eq_1;exact zW
 ·rw[zYP c] at ho;rw[zYP c,zYP c];clear c;simp only[zh,zt,zYU,zYS] at *;have zk0:=zi.eq_1;exact zW
theorem zSV(t:zq)(x y:Shard):zd G 233 [.d (zh t),.d (zi x),.d (zi y)] []=some (.d (.sl ((zdY t x y).map zi)),[]):=by
 unfold zdY
 by_cases c:t.inv.from_<t.inv.to
 ·rw[zYQ c];simp only[zh,zYU,zYS];have sz_x:=za1 x;generalize zi x=D_x at *;have sz_y:=za1 y;generalize zi y=D_y at *;exact zW
 ·rw[zYP c];simp only[zh,zYU,zYS];have sz_x:=za1 x;generalize zi x=D_x at *;have sz_y:=za1 y;generalize zi y=D_y at *;exact zW
theorem znK{u:Setup}{N:Int}{t:zq}(hs:SI u N t.sec):za0 (zY t):=zfK (zAM hs)
theorem ztK{u:Setup}{N:Int}{t:zq}(hs:SI u N t.sec):za0 (zaK t):=zfK (ztL hs)
theorem zmZ{u:Setup}{N:Int}{s:Section}(hs:SI u N s){i:Nat}(h:i<s.shards.length):zU (s.shards.getD i zA)=0:=by
 rw[zg h];exact (hs.sv _ (zY4 h)).1
theorem zq9{u:Setup}{N:Int}{t:zq}(hs:SI u N t.sec)(hk:t.sec.shards.length=2):zU (zY t)=0/\zU (zaK t)=0:=by
 unfold zY zaK
 split
 ·exact⟨zmZ hs zo,zmZ hs zo⟩
 ·exact⟨zmZ hs zo,zmZ hs zo⟩
theorem zWC{s:Shard}(h:zU s=0):0<=s.ready.size/\s.ready.size<=12:=by
 obtain⟨a1,a2,a3,a4,a5,a6⟩:=zch (zh0 h);omega
theorem zSY{u:Setup}{N:Int}{t:zq}(hs:SI u N t.sec)(hk:t.sec.shards.length=2):zd G 173 [.d (zh t)] []=some (.d (.tup [z6 (zeG t).1,zaj (zeG t).2.1,.sl ((zeG t).2.2.map zaE)]),[]):=by
 have hu:=zhk t.sec;have hsh:=zWv t hk;have ho:=zCX t;obtain⟨v1,v2⟩:=zq9 hs hk;have hst:=zhh (zaK t) (ztK hs);have b1:=zWC v1;have b2:=zmG v2;have b3:=(zbJ v2).1;unfold zeG;simp only
 by_cases c0:(zY t).live=false\/(zaK t).live=false
 ·rw[zYQ c0];clear hs ho hst v1 v2 b1 b2 b3;generalize zY t=v at *;generalize zaK t=w at *;obtain⟨l1,vlo,vhi,⟨vc,vh,vz⟩,⟨vtl,vth⟩⟩:=v;obtain⟨l2,wlo,whi,⟨wc,wh,wz⟩,⟨wtl,wth⟩⟩:=w;simp only[zh,zr,z6,z7,zi,zaW,zaj,zah,zYS] at *
  cases l1
  ·exact zW
  cases l2
  ·exact zW
  ·simp at c0
 rw[zYP c0];have l1:(zY t).live=true:=by
  cases h:(zY t).live
  ·exact absurd (.inl h) c0
  ·rfl
 have l2:(zaK t).live=true:=by
  cases h:(zaK t).live
  ·exact absurd (.inr h) c0
  ·rfl
 clear c0;have e1:(((zY t).ready.size+1).tdiv 2)=((zY t).ready.size+1) / 2:=zZ9 zo;have hdt:=zHB (zY t) (zhN (((zY t).ready.size+1).tdiv 2) ((zaK t).ready.cells.length - zbc (zaK t))) (znK hs);have hdl:=zyN (zY t) (zhN (((zY t).ready.size+1).tdiv 2) ((zaK t).ready.cells.length - zbc (zaK t)));generalize hk2:zhN (((zY t).ready.size+1).tdiv 2) ((zaK t).ready.cells.length - zbc (zaK t))=k at *;have hk3:(if ((zaK t).ready.cells.length:Int) - zbc (zaK t)<((zY t).ready.size+1) / 2 then ((zaK t).ready.cells.length:Int) - zbc (zaK t) else ((zY t).ready.size+1) / 2)=k:=by
  unfold zhN at hk2;rw[<- hk2,e1]
  split<;>split<;>omega
 clear hk2
 by_cases c1:k=0
 ·rw[zYQ c1];subst c1;clear hs ho v1 v2 hdt hdl;generalize zY t=v at *;generalize zaK t=w at *;generalize zbc w=sd at *;obtain⟨l1',vlo,vhi,⟨vc,vh,vz⟩,⟨vtl,vth⟩⟩:=v;obtain⟨l2',wlo,whi,⟨wc,wh,wz⟩,⟨wtl,wth⟩⟩:=w;simp only at *;subst l1 l2;simp only[zh,zr,z6,z7,zi,zaW,zaj,zah,zYS] at *;exact zW
 ·rw[zYP c1];have hab:=zt0 (zaK t) (zfP (zY t) k).2.1 (ztK hs) zo;generalize zfP (zY t) k=d at *;obtain⟨d1,d2,d3⟩:=d;simp only at *;generalize zge (zaK t) d2=y at *;obtain⟨y1,y2⟩:=y;have hpl:=zSV t d1 y1;clear hs v1 v2 hdl;generalize zdY t d1 y1=pl at *;generalize zcS t=od at *;generalize zY t=v at *;generalize zaK t=w at *;generalize zbc w=sd at *;have sz_d1:=za1 d1;generalize zi d1=D_d1 at *;have sz_y1:=za1 y1;generalize zi y1=D_y1 at *;obtain⟨l1',vlo,vhi,⟨vc,vh,vz⟩,⟨vtl,vth⟩⟩:=v;obtain⟨l2',wlo,whi,⟨wc,wh,wz⟩,⟨wtl,wth⟩⟩:=w;simp only at *;subst l1 l2;simp only[zh,zr,z6,z7,zi,zaW,zaj,zah,zYS] at *;exact zW
theorem zCY(t:zq):zd G 239 [.d (zh t)] []=some (.d (.sl (zt (zcS t))),[]):=by
 unfold zcS;simp only[zh]
 by_cases c:t.inv.from_<t.inv.to
 ·rw[zYQ c];have zk0:=zt.eq_1;exact zW
 ·rw[zYP c];have zk0:=zt.eq_1;exact zW
theorem zWw(t:zq)(hk:t.sec.shards.length=2):zd G 236 [.d (zh t)] []=some (.d (.tup [zi (zY t),zi (zaK t)]),[]):=by
 have ho:=zCY t;unfold zY zaK;unfold zcS at ho;rw[zg (show 0<t.sec.shards.length by omega),zg (show 1<t.sec.shards.length by omega)]
 by_cases c:t.inv.from_<t.inv.to
 ·rw[zYQ c] at ho;rw[zYQ c,zYQ c];clear c;simp only[zh,zt,zYU,zYS] at *;have zk0:=zi.eq_1;exact zW
 ·rw[zYP c] at ho;rw[zYP c,zYP c];clear c;simp only[zh,zt,zYU,zYS] at *;have zk0:=zi.eq_1;exact zW
theorem zSW(t:zq)(x y:Shard):zd G 238 [.d (zh t),.d (zi x),.d (zi y)] []=some (.d (.sl ((zdY t x y).map zi)),[]):=by
 unfold zdY
 by_cases c:t.inv.from_<t.inv.to
 ·rw[zYQ c];simp only[zh,zYU,zYS];have sz_x:=za1 x;generalize zi x=D_x at *;have sz_y:=za1 y;generalize zi y=D_y at *;exact zW
 ·rw[zYP c];simp only[zh,zYU,zYS];have sz_x:=za1 x;generalize zi x=D_x at *;have sz_y:=za1 y;generalize zi y=D_y at *;exact zW
theorem zCZ(t:zq):zd G 243 [.d (zh t)] []=some (.d (.sl (zt (zcS t))),[]):=by
 unfold zcS;simp only[zh]
 by_cases c:t.inv.from_<t.inv.to
 ·rw[zYQ c];have zk0:=zt.eq_1;exact zW
 ·rw[zYP c];have zk0:=zt.eq_1;exact zW
theorem zWx(t:zq)(hk:t.sec.shards.length=2):zd G 240 [.d (zh t)] []=some (.d (.tup [zi (zY t),zi (zaK t)]),[]):=by
 have ho:=zCZ t;unfold zY zaK;unfold zcS at ho;rw[zg (show 0<t.sec.shards.length by omega),zg (show 1<t.sec.shards.length by omega)]
 by_cases c:t.inv.from_<t.inv.to
 ·rw[zYQ c] at ho;rw[zYQ c,zYQ c];clear c;simp only[zh,zt,zYU,zYS] at *;have zk0:=zi.eq_1;exact zW
 ·rw[zYP c] at ho;rw[zYP c,zYP c];clear c;simp only[zh,zt,zYU,zYS] at *;have zk0:=zi.eq_1;exact zW
theorem zSX(t:zq)(x y:Shard):zd G 242 [.d (zh t),.d (zi x),.d (zi y)] []=some (.d (.sl ((zdY t x y).map zi)),[]):=by
 unfold zdY
 by_cases c:t.inv.from_<t.inv.to
 ·rw[zYQ c];simp only[zh,zYU,zYS];have sz_x:=za1 x;generalize zi x=D_x at *;have sz_y:=za1 y;generalize zi y=D_y at *;exact zW
 ·rw[zYP c];simp only[zh,zYU,zYS];have sz_x:=za1 x;generalize zi x=D_x at *;have sz_y:=za1 y;generalize zi y=D_y at *;exact zW
def zjb(r:z8):Prop:=zau r=0\/r=zaz
theorem zSK{r:z8}(h:zjb r)(m:Message):zjb (pbD r m).1:=by
 unfold pbD
 split
 ·rename_i c;obtain⟨q1,q2,q3,q4⟩:=zmh c;obtain⟨n,h',e,a1,a2,a3,a4,a5,a6⟩:=zmt q1;left;have hc:r.cells.length=n:=by rw[e];exact zhZ _ _ _
  have hh:r.head.toNat=h':=by rw[e];rfl
  have hz:r.size=((zu r).length:Int):=congrArg z8.size e;rw[hc,hh];refine zmu a1 a2 a3 (by rw[zYZ,zZp];omega) (fun x hx=> ?_) ?_
  ·rcases zZl.1 hx with hx|hx
   ·exact a5 x hx
   ·rw[zZt.1 hx];exact q2
  ·rw[zY5,z0e];refine⟨a6,by simp,fun a ha b hb=> ?_⟩;simp only[zYU,zYS,zZt] at hb;subst hb;intro e2;subst e2;obtain⟨x,hx,ex⟩:=zY0.1 ha;have:=zq8 ⟨x,hx,ex⟩;omega
 ·exact .inr rfl
theorem zJN(lo hi:Int):∀(l:List Message) (r:z8),zjb r->zjb (zbz lo hi l r):=by
 intro l
 induction l with
 | nil=>intro r h;exact h
 | cons m l ih=>
  intro r h;rw[zbz]
  split
  ·exact ih _ (zSK h m)
  ·exact ih _ h
theorem zQA:zd G 98 [.d (zQ zaz)] []=some (.d (.sl []),[]):=by
 have hv:=zku zaz (by simp [zaz]);have e:zau zaz=1:=by decide+kernel
 rw[e] at hv;clear e;simp only[zQ,zaz,zYS] at *;exact zW
theorem zFo{s:Shard}(h:zjb s.ready)(hl:s.leases.l.length<=12):zd G 129 [.d (zi s)] []=some (.d (.sl ((zav s).map zj)),[]):=by
 rcases h with h|h
 ·exact zjm h hl
 ·have h1:=zQA;have hr:zd G 50 [.d (zi s)] []=some (.d (.sl []),[]):=by
   rw[<- h] at h1;clear h;simp only[zQ,zi] at *;exact zW
  have hld:=zoD (s:=s) hl;have e:zav s=s.leases.l.map (·.msg):=by
   unfold zav;rw[h];have:zu zaz=[]:=by decide+kernel
   rw[this];rfl
  rw[e];have hlw:(s.leases.l.map (·.msg)).length<=12:=by simpa using hl
  generalize s.leases.l.map (·.msg)=w at *;clear e h h1 hl;simp only[zi] at *;exact zW
theorem zHL{s:Shard}(hv:zU s=0)(mid:Int):zjb (zdJ s mid).2.1.ready/\(zdJ s mid).2.1.leases.l.length<=12:=by
 have h12:=(zn0 s mid).2;refine⟨?_,h12.2.1⟩;unfold zdJ
 split
 ·exact .inr rfl
 split
 ·exact .inr rfl
 ·show zjb (zbz _ _ _ (zbK _ _ _).1.ready);apply zJN;unfold zbK
  split
  ·exact .inr rfl
  split
  ·exact .inr rfl
  ·rename_i c _;exact .inl (zte zo zo)
theorem zSZ{u:Setup}{N:Int}{t:zq}(hs:SI u N t.sec)(hk:t.sec.shards.length=2):zd G 175 [.d (zh t)] []=some (.d (.tup [z6 (zeE t).1,zaj (zeE t).2.1,.sl ((zeE t).2.2.map zaE)]),[]):=by
 have hu:=zhk t.sec;have hsh:=zWw t hk;have ho:=zCY t;obtain⟨v1,v2⟩:=zq9 hs hk;have hsp:=zmF v1;unfold zeE;simp only
 by_cases c0:(zY t).live=false\/(zaK t).live=true\/(zY t).high<=(zY t).low
 ·rw[zYQ c0];clear hs ho v1 v2;generalize zY t=v at *;generalize zaK t=w at *;obtain⟨l1,vlo,vhi,⟨vc,vh,vz⟩,⟨vtl,vth⟩⟩:=v;obtain⟨l2,wlo,whi,⟨wc,wh,wz⟩,⟨wtl,wth⟩⟩:=w;simp only[zh,zr,z6,z7,zi,zaW,zaj,zah,zYS] at *
  cases l1
  ·exact zW
  cases l2
  rotate_left
  ·exact zW
  ·have c1:vhi<=vlo:=by simpa using c0
   clear c0;exact zW
 rw[zYP c0];have l1:(zY t).live=true:=by
  cases h:(zY t).live
  ·exact absurd (.inl h) c0
  ·rfl
 have l2:(zaK t).live=false:=by
  cases h:(zaK t).live
  ·rfl
  ·exact absurd (.inr (.inl h)) c0
 have c1:(zY t).low<(zY t).high:=by omega
 clear c0;have e1:((zY t).low+(zY t).high).tdiv 2=((zY t).low+(zY t).high) / 2:=zZ9 zo;rw[e1];have hdv:=zHM (zY t) (((zY t).low+(zY t).high) / 2) (znK hs);have hz:=zHL v1 (((zY t).low+(zY t).high) / 2);have hl:=(zn0 (zY t) (((zY t).low+(zY t).high) / 2)).2;generalize hmid:((zY t).low+(zY t).high) / 2=mid at *;generalize zdJ (zY t) mid=d at *;obtain⟨d1,d2,d3⟩:=d;simp only at *;have hst:=zhh d2 (zfK hl);have hal:=zFo hz.1 hz.2;have hpl:=zSW t d1 d2;clear hs v1 v2 hz hl;generalize zdY t d1 d2=pl at *;generalize zcS t=od at *;generalize zav d2=ms at *;generalize zbc d2=sd at *;generalize zY t=v at *;generalize zaK t=w at *;have sz_d1:=za1 d1;generalize zi d1=D_d1 at *;have sz_d2:=za1 d2;generalize zi d2=D_d2 at *;obtain⟨l1',vlo,vhi,⟨vc,vh,vz⟩,⟨vtl,vth⟩⟩:=v;obtain⟨l2',wlo,whi,⟨wc,wh,wz⟩,⟨wtl,wth⟩⟩:=w;simp only at *;subst l1 l2;simp only[zh,zr,z6,z7,zi,zaW,zaj,zah,zYS,zYU,zfU] at *;exact zW
theorem zS0{u:Setup}{N:Int}{t:zq}(hs:SI u N t.sec)(hk:t.sec.shards.length=2):zd G 176 [.d (zh t)] []=some (.d (.tup [z6 (zeu t).1,zaj (zeu t).2.1,.sl ((zeu t).2.2.map zaE)]),[]):=by
 have hu:=zhk t.sec;have hsh:=zWx t hk;have ho:=zCZ t;obtain⟨v1,v2⟩:=zq9 hs hk;have hun:=zYa (zaK t) (zY t) (ztK hs) (znK hs);have hfr:=zAI (zY t).ready.cells.length;have hst:=zhh (zY t) (znK hs);have hal:=zjm (zh0 v1) (zbJ v1).2.1;unfold zeu;simp only;generalize zia (zaK t) (zY t)=y at *;obtain⟨y,e⟩:=y;generalize zfX (zY t).ready.cells.length=f at *;obtain⟨f,fe⟩:=f;simp only at *;have hpl:=zSX t f y;clear hs v1 v2;generalize zdY t f y=pl at *;generalize zcS t=od at *;generalize zav (zY t)=ms at *;generalize zbc (zY t)=sd at *;generalize zY t=v at *;generalize zaK t=w at *
 by_cases c:e=0
 ·subst c;simp only[ne_eq,zY2,if_false];have sz_f:=za1 f;generalize zi f=D_f at *;have sz_y:=za1 y;generalize zi y=D_y at *;obtain⟨l1',vlo,vhi,⟨vc,vh,vz⟩,⟨vtl,vth⟩⟩:=v;simp only[zh,zr,z6,z7,zi,zaW,zaj,zah,zYS,zYU,zfU] at *;exact zW
 ·rw[zYQ c];have sz_f:=za1 f;generalize zi f=D_f at *;have sz_y:=za1 y;generalize zi y=D_y at *;simp only[zh,zr,z6,z7,zi,zaW,zaj,zah,zYS] at *;exact zW
def accC(o:Nat)(l:List D):AV:=match l with|[]=> .xsl []|x::l=> .acc o (x::l)
def zai(o:Nat)(l:List D):zf:=match l with|[]=>[]|x::l=>[(o,.acc (l.length+1))]
structure T8 where
 rest:List Message
 out:List Message
 i:Nat
def t8S(d:Dead)(k ep:Int)(p:T8):St:=⟨[(1,.d (.int .i64 k)),(2,.d (.int .i64 ep)),(3,.ref 3 0 0),(6,.ref 6 0 0),(10,.ref 10 0 0),(11,.acc 11 (p.out.map zj)),(12,.d (.int .i64 p.i))],[(3,.row [.d (zF d)]),(6,.row [.agg [.d (.int .i64 0),.xsl []]]),(10,.row [.agg [.d (.int .i64 d.cap),accC 500070 (p.rest.map zj)]]),(11,.acc p.out.length)]++zai 500070 (p.rest.map zj)⟩
def t8R(d:Dead)(x:List Message×List Message):zR×St:=(.exit 0,⟨[(6,.ref 6 0 0),(10,.ref 10 0 0),(11,.acc 11 (x.2.map zj))],[(6,.row [.agg [.d (.int .i64 0),.xsl []]]),(10,.row [.agg [.d (.int .i64 d.cap),accC 500070 (x.1.map zj)]]),(11,.acc x.2.length)]++zai 500070 (x.1.map zj)⟩)
theorem zXs(d:Dead)(k ep:Int)(hl:d.l.length<=1000):∀p:T8,(p.i<=d.l.length/\p.out.length<=p.i/\p.rest.length<=p.i)->zP G [] zgu (t8S d k ep p)=some (t8R d (zd6 k ep (d.l.drop p.i) p.rest p.out)):=by
 refine zaq (fun p:T8=>d.l.length - p.i) (fun p:T8=>(p.i<=d.l.length/\p.out.length<=p.i/\p.rest.length<=p.i)) (t8S d k ep) (fun p=>some (t8R d (zd6 k ep (d.l.drop p.i) p.rest p.out))) fun⟨rest,out,i⟩ ⟨hi,ho,hr⟩ L ih=> ?_;simp only at hi ho hr
 by_cases h0:i<d.l.length
 ·simp only;rw[zZr h0,zd6];have hp:=zhU d.l[i] ep
  by_cases c:(out.length:Int)<k/\¬d.l[i].epoch<ep
  ·rw[zYQ c];rw[zZc c.2] at hp;have c1:=c.1;have i1:=ih ⟨rest,out++[d.l[i]],i+1⟩ ⟨by simp only;omega,by simp only[zYZ,zZp];omega,by simp only;omega⟩ (by simp only;omega);clear ih c;simp only at i1;generalize t8R d (zd6 k ep (d.l.drop (i+1)) rest (out++[d.l[i]]))=R at *
   cases rest with
   | nil=>
    simp only[t8S,accC,zai,zgu,zF,zYS,zZd,zY5,zYU] at *;simp only[zNr,zp] at i1;exact zS
   | cons r0 rs=>
    simp only[t8S,accC,zai,zgu,zF,zYS,zY5,zYU,zY3,zZh,zZb,zYW] at *;simp only[zNr,zp] at i1;exact zS
  ·rw[zYP c];have i1:=ih ⟨rest++[d.l[i]],out,i+1⟩ ⟨by simp only;omega,by simp only;omega,by simp only[zYZ,zZp];omega⟩ (by simp only;omega);clear ih;simp only at i1;generalize t8R d (zd6 k ep (d.l.drop (i+1)) (rest++[d.l[i]]) out)=R at *
   by_cases c1:(out.length:Int)<k
   ·have c2:d.l[i].epoch<ep:=by omega
    rw[zZe c2] at hp;clear c c2
    cases rest with
    | nil=>
     simp only[t8S,accC,zai,zgu,zF,zYS,zZd,zZb,zZh,zY5,zYU,zYY] at *;simp only[zNr,zp] at i1;exact zS
    | cons r0 rs=>
     simp only[t8S,accC,zai,zgu,zF,zYS,zY5,zYU,zY3,zZh,zZb,zYW,zYZ,zYY] at *;simp only[zNr,zp] at i1;exact zS
   ·clear hp c
    cases rest with
    | nil=>
     simp only[t8S,accC,zai,zgu,zF,zYS,zZd,zZb,zZh,zY5,zYU,zYY] at *;simp only[zNr,zp] at i1;exact zS
    | cons r0 rs=>
     simp only[t8S,accC,zai,zgu,zF,zYS,zY5,zYU,zY3,zZh,zZb,zYW,zYZ,zYY] at *;simp only[zNr,zp] at i1;exact zS
 ·clear ih;obtain rfl:i=d.l.length:=by omega
  simp only[zZA,zd6,t8R]
  cases rest with
  | nil=>
   simp only[t8S,accC,zai,zgu,zF,zYS,zZd] at *;exact zS
  | cons r0 rs=>
   simp only[t8S,accC,zai,zgu,zF,zYU,zY3,zZh,zZb,zYW] at *;exact zS
theorem zXv(d:Dead)(k ep:Int)(hL:d.l.length<=1000):zd G 227 [.d (zF d),.d (.int .i64 k),.d (.int .i64 ep)] []=some (.d (.tup [zF (zhj d k ep).1,.sl ((zhj d k ep).2.1.map zj),.int .i64 (zhj d k ep).2.2]),[]):=by
 have hv:=zmP d hL;have hlp:=zXs d k ep hL ⟨[],[],0⟩ ⟨by simp,by simp,by simp⟩;have hln:=zDZ k ep d.l [] [];unfold zhj;generalize zbU d=v at *;simp only[zZq] at hlp;generalize zd6 k ep d.l [] []=R at *;obtain⟨rest,out⟩:=R;simp only[t8R,t8S,accC,zai,zYS,zZd,zYY,zZg,z0j] at *
 by_cases c0:v=0
 ·subst c0;simp only[ne_eq,zY2,if_false]
  by_cases c1:k<0\/ep<0\/65536<ep
  ·rw[zYQ c1];clear hlp;simp only[zF,zaL,zYS] at *;exact zW
  ·rw[zYP c1]
   cases rest with
   | nil=>
    simp only[zYS,zZd,zF,zaL] at *;exact zW
   | cons r0 rs=>
    simp only[zYU,zZh,zZb,zY3,zYW,zF,zaL] at *;exact zW
 ·rw[zYQ c0];clear hlp;simp only[zF,zaL,zYS] at *;exact zW
def c8S(d:Dead)(ep:Int)(rest:List Message)(i:Nat):St:=⟨[(1,.d (.int .i64 ep)),(2,.ref 2 0 0),(4,.ref 4 0 0),(8,.ref 8 0 0),(9,.d (.int .i64 i))],[(2,.row [.d (zF d)]),(4,.row [.agg [.d (.int .i64 0),.xsl []]]),(8,.row [.agg [.d (.int .i64 d.cap),accC 500049 (rest.map zj)]])]++zai 500049 (rest.map zj)⟩
def c8R(d:Dead)(rest:List Message):zR×St:=(.exit 0,⟨[(2,.ref 2 0 0),(4,.ref 4 0 0),(8,.ref 8 0 0)],[(2,.row [.d (zF d)]),(4,.row [.agg [.d (.int .i64 0),.xsl []]]),(8,.row [.agg [.d (.int .i64 d.cap),accC 500049 (rest.map zj)]])]++zai 500049 (rest.map zj)⟩)
theorem zGb(d:Dead)(ep:Int)(hl:d.l.length<=1000):∀p:List Message×Nat,(p.2<=d.l.length/\p.1.length<=p.2)->zP G [] zhL (c8S d ep p.1 p.2)=some (c8R d (p.1++(d.l.drop p.2).filter fun m=> !decide (m.epoch<ep))):=by
 refine zaq (fun p:List Message×Nat=>d.l.length - p.2) (fun p:List Message×Nat=>(p.2<=d.l.length/\p.1.length<=p.2)) (fun p=>c8S d ep p.1 p.2) (fun p=>some (c8R d (p.1++(d.l.drop p.2).filter fun m=> !decide (m.epoch<ep)))) fun⟨rest,i⟩ ⟨hi,hr⟩ L ih=> ?_;simp only at hi hr
 by_cases h0:i<d.l.length
 ·simp only;rw[zZr h0,z0m];have hp:=zhU d.l[i] ep
  by_cases c:d.l[i].epoch<ep
  ·rw[zZe c] at hp ⊢;simp only[z1l,zYX,if_false];have i1:=ih ⟨rest,i+1⟩ ⟨by simp only;omega,by simp only;omega⟩ (by simp only;omega);clear ih c;simp only at i1;generalize c8R d (rest++(d.l.drop (i+1)).filter fun m=> !decide (m.epoch<ep))=R at *
   cases rest with
   | nil=>
    simp only[c8S,accC,zai,zhL,zF,zYS,zZd] at *;simp only[zNr,zp] at i1;exact zS
   | cons r0 rs=>
    simp only[c8S,accC,zai,zhL,zF,zYU,zY3,zZh,zZb,zYW] at *;simp only[zNr,zp] at i1;exact zS
  ·rw[zZc c] at hp ⊢;simp only[z1m,if_true];have i1:=ih ⟨rest++[d.l[i]],i+1⟩ ⟨by simp only;omega,by simp only[zYZ,zZp];omega⟩ (by simp only;omega);clear ih c;simp only[zZF,z0M] at i1;generalize c8R d (rest++d.l[i]::(d.l.drop (i+1)).filter fun m=> !decide (m.epoch<ep))=R at *
   cases rest with
   | nil=>
    simp only[c8S,accC,zai,zhL,zF,zYS,zZd,zZb,zZh,zY5,zYU,zYY] at *;simp only[zNr,zp] at i1;exact zS
   | cons r0 rs=>
    simp only[c8S,accC,zai,zhL,zF,zYS,zY5,zYU,zY3,zZh,zZb,zYW,zYZ,zYY] at *;simp only[zNr,zp] at i1;exact zS
 ·clear ih;obtain rfl:i=d.l.length:=by omega
  simp only[zZA,z0E,zZd,c8R]
  cases rest with
  | nil=>
   simp only[c8S,accC,zai,zhL,zF,zYS,zZd] at *;exact zS
  | cons r0 rs=>
   simp only[c8S,accC,zai,zhL,zF,zYU,zY3,zZh,zZb,zYW] at *;exact zS
theorem zGC(d:Dead)(ep:Int)(hL:d.l.length<=1000):zd G 244 [.d (zF d),.d (.int .i64 ep)] []=some (.d (.tup [zF (zhw d ep).1,.int .i64 (zhw d ep).2.1,.int .i64 (zhw d ep).2.2]),[]):=by
 have hv:=zmP d hL;have hlp:=zGb d ep hL ⟨[],0⟩ ⟨by simp,by simp⟩;have hln:=z0h (fun m:Message=> !decide (m.epoch<ep)) d.l;unfold zhw;generalize zbU d=v at *;simp only[zZq,zZb] at hlp;generalize (d.l.filter fun m=> !decide (m.epoch<ep))=rest at *;simp only[c8R,c8S,accC,zai,zYS,zZd,zYY,zZg,z0j] at *
 by_cases c0:v=0
 ·subst c0;simp only[ne_eq,zY2,if_false]
  by_cases c1:ep<0\/65536<ep
  ·rw[zYQ c1];clear hlp;simp only[zF,zaL,zYS] at *;exact zW
  ·rw[zYP c1]
   cases rest with
   | nil=>
    simp only[zYS,zZd,zYY,zF,zaL] at *;exact zW
   | cons r0 rs=>
    simp only[zYU,zZh,zZb,zY3,zYW,zF,zaL] at *;exact zW
 ·rw[zYQ c0];clear hlp;simp only[zF,zaL,zYS] at *;exact zW
theorem VS.lapse{n h:Nat}{L:List Message}{t:Table}{lo hi:Int}(v:VS n h L t lo hi){y:zy}(hy:y∈t.l):
    ∃t' h2 L',zaf t y.msg.id=(t',y.msg,0)/\pbD (rg n h L) y.msg=(rg n h2 L',0)/\VS n h2 L' t' lo hi/\(y::t'.l).Perm t.l:=by
 obtain⟨t',r1,r2,r3⟩:=v.rel hy;have hmv:zZ y.msg=0:=((zfl t.l).1 (zhi v.2.2.2.2.2.2.2.2.1).2.1).2 _ hy |>.1;have hlen:=r3.length_eq;simp only[zYW] at hlen;obtain⟨h2,L',q1,q2,q3,q4⟩:=r2.back hmv (v.2.2.2.2.2.2.2.2.2.1 _ hy) (by have:=v.2.2.2.1;omega) (v.gone r3) y.msg.count;rw[<- zC6] at q1;have hr:(zaf t y.msg.id).2.2=0:=by
  have c:(zaI (mkS n h L t lo hi) y.msg.id).2.2=0:=by rw[r1]
  unfold zaI at c
  split at c
  ·rename_i q;exact q
  ·exact c
 unfold zaI at r1;rw[zYQ (show (zaf (mkS n h L t lo hi).leases y.msg.id).2.2=0 from hr)] at r1;have a1:=congrArg (fun p:Shard×Message×Int=>p.1.leases) r1;have a2:=congrArg (fun p:Shard×Message×Int=>p.2.1) r1;refine⟨t',h2,L',?_,q1,q2,r3⟩;change (zaf t y.msg.id).1=t' at a1;change (zaf t y.msg.id).2.1=y.msg at a2;rw[<- a1, <- a2, <- hr];exact Prod.ext rfl (Prod.ext (by simp only;rw[a2];exact a2) (by simp only;rw[a2]))
theorem zzB{n h:Nat}{L:List Message}{t:Table}{lo hi:Int}{y:zy}{t':Table}{h2:Nat}{L':List Message}(r1:zaf t y.msg.id=(t',y.msg,0))(r2:pbD (rg n h L) y.msg=(rg n h2 L',0))(l:List Int):
    zcE (y.msg.id::l) (mkS n h L t lo hi)=zcE l (mkS n h2 L' t' lo hi):=by
 have hs:zaI (mkS n h L t lo hi) y.msg.id=(mkS n h L t' lo hi,y.msg,0):=by
  unfold zaI;rw[zYQ (show (zaf (mkS n h L t lo hi).leases y.msg.id).2.2=0 by rw[show (mkS n h L t lo hi).leases=t from rfl,r1])];rw[show (mkS n h L t lo hi).leases=t from rfl,r1];rfl
 rw[zcE,hs];simp only[ne_eq,zY2,if_false];rw[show (mkS n h L t' lo hi).ready=rg n h L from rfl,r2];simp only[zY2,if_false];rfl
structure E7 where
 h:Nat
 L:List Message
 t:Table
 i:Nat
def e7S(n:Nat)(lo hi:Int)(u:List Int)(p:E7):St:=⟨[(4,.ref 4 0 0),(8,.ref 8 0 0),(12,.d (.sl (zt u))),(13,.d (.int .i64 p.i))],[(4,.row [.d (zi (mkS n p.h p.L p.t lo hi))]),(8,.row [shZ])]⟩
def e7R(u:List Int)(x:Shard×Int):zR×St:=(.exit 0,⟨[(4,.ref 4 0 0),(8,.ref 8 0 0),(12,.d (.sl (zt u)))],[(4,.row [.d (zi x.1)]),(8,.row [shZ])]⟩)
theorem zH8(n:Nat)(lo hi:Int)(u:List Int)(hu:u.length<=12):∀p:E7,(VS n p.h p.L p.t lo hi/\p.i<=u.length/\(∀id∈u.drop p.i,∃y∈p.t.l,y.msg.id=id)/\(u.drop p.i).Nodup)->zP G [] zof (e7S n lo hi u p)=some (e7R u (zcE (u.drop p.i) (mkS n p.h p.L p.t lo hi)))/\(zcE (u.drop p.i) (mkS n p.h p.L p.t lo hi)).2=0:=by
 have key:∀p:E7,(VS n p.h p.L p.t lo hi/\p.i<=u.length/\(∀id∈u.drop p.i,∃y∈p.t.l,y.msg.id=id)/\(u.drop p.i).Nodup)->(zcE (u.drop p.i) (mkS n p.h p.L p.t lo hi)).2=0:=by
  intro⟨h,L,t,i⟩ ⟨v,_,hm,hn⟩;simp only at *;generalize u.drop i=w at *
  induction w generalizing h L t with
  | nil=>rfl
  | cons id w ih=>
   obtain⟨y,hy,rfl⟩:=hm id (.head _);obtain⟨t',h2,L',r1,r2,r3,r4⟩:=v.lapse hy;rw[zzB r1 r2];rw[zZS] at hn;refine ih h2 L' t' r3 (fun id2 h2m=> ?_) hn.2;obtain⟨z,hz,ez⟩:=hm id2 (.tail _ h2m)
   rcases zZx.1 (r4.mem_iff.2 hz) with rfl|hz2
   ·exact absurd (ez ▸ h2m) hn.1
   ·exact⟨z,hz2,ez⟩
 intro p hp;refine⟨?_,key p hp⟩;revert p;refine zaq (fun p:E7=>u.length - p.i) (fun p:E7=>(VS n p.h p.L p.t lo hi/\p.i<=u.length/\(∀id∈u.drop p.i,∃y∈p.t.l,y.msg.id=id)/\(u.drop p.i).Nodup)) (e7S n lo hi u) (fun p=>some (e7R u (zcE (u.drop p.i) (mkS n p.h p.L p.t lo hi)))) fun⟨h,L,t,i⟩ hp LL ih=> ?_;obtain⟨v,hi1,hm,hn⟩:=hp;simp only at v hi1 hm hn
 by_cases h0:i<u.length
 ·have hd:=zZr h0;simp only;rw[hd] at hm hn ⊢;rw[zZS] at hn;obtain⟨y,hy,ey⟩:=hm u[i] (.head _);obtain⟨t',h2,L',r1,r2,r3,r4⟩:=v.lapse hy;have i1:=ih ⟨h2,L',t',i+1⟩ ⟨r3,by simp only;omega,fun id2 h2m=>by
   simp only at h2m;obtain⟨z,hz,ez⟩:=hm id2 (.tail _ h2m)
   rcases zZx.1 (r4.mem_iff.2 hz) with rfl|hz2
   ·exact absurd (by rw[<- ey,ez];exact h2m) hn.1
   ·exact⟨z,hz2,ez⟩,hn.2⟩ (by simp only;omega)
  have tl:=zh7 v.2.2.2.2.2.2.2.2.1;have c1:=zo2 t y.msg.id zo zo;have c2:=zo1 (rg n h L) y.msg (by have:=v.lens.1;show (mkS n h L t lo hi).ready.cells.length<=_;omega);rw[<- ey,zzB r1 r2];rw[r1] at c1;rw[r2] at c2;rw[ey] at c1;clear ih hm hn hd v r1 r2 r3 r4 tl;simp only at i1;generalize e7R u (zcE (u.drop (i+1)) (mkS n h2 L' t' lo hi))=R at *;simp only[e7S,mkS,zof] at *;generalize rg n h2 L'=ra at *;generalize rg n h L=rb at *;generalize y.msg=m at *;obtain⟨c2',hh2,z2⟩:=ra;obtain⟨c1',hh1,z1⟩:=rb;obtain⟨tl1,th1⟩:=t;obtain⟨tl2,th2⟩:=t';clear hy ey;simp only[zi,z9,zQ,zj,shZ] at *;simp only[zNr,zp] at i1;exact zS
 ·clear ih;obtain rfl:i=u.length:=by omega
  simp only[zZA,zcE,e7R,e7S,zof];generalize mkS n h L t lo hi=s at *;simp only[zi,shZ] at *;exact zS
theorem zYg{t:Table}(h:zac t=0)(now:Int):(zcK t.heap now).Nodup:=by
 obtain⟨q1,q2,q3,q4⟩:=(zdh t).1 h;unfold zcK;rw[zYQ ((zfD _).2 q3)];have hp:=(zkN t.heap 1 (fun p q hp hq=>by omega)).2;unfold zjD;have hn:(t.heap.map (·.2)).Nodup:=by
  have h1:=(q4.map (·.2)).nodup_iff.2;apply h1;rw[z0i];rw[z1A,z1C];exact (zg0 q2).imp (fun h=>by show _≠_;unfold zbx;simp only[Function.comp];omega)
 have h2:((zgH t.heap 1).map (·.2)).Nodup:=(hp.map (·.2)).nodup_iff.2 hn;exact h2.sublist ((List.filter_sublist).map _)
theorem zQh(t:Table)(now ep:Int):(zdp t now ep).Nodup:=by
 unfold zdp
 split
 ·rename_i h;exact (zYg h now).sublist List.filter_sublist
 ·exact z1v
theorem zQg{t:Table}{now ep id:Int}(h:id∈zdp t now ep):∃y∈t.l,y.msg.id=id:=by
 unfold zdp at h
 split at h
 ·rename_i ht;obtain⟨x,hx,e,_⟩:=(zEs ht now id).1 (z0y.1 h).1;exact⟨x,hx,e⟩
 ·cases h
theorem zzD(s:Shard)(now ep lim:Int)(q:za0 s):zd G 246 [.d (zi s),.d (.int .i64 now),.d (.int .i64 ep),.d (.int .i64 lim)] []=some (.d (.tup [zi (zcD s now ep lim).1,.sl (zt (zcD s now ep lim).2.1),.int .i64 (zcD s now ep lim).2.2]),[]):=by
 have hv:=zeZ s q.1 q.2.1 q.2.2;have h1:=zjE ep;have h2:=zn3 lim;have h3:=zpr now;unfold zcD
 by_cases c0:zab s=0
 ·have hus:∀b,usE s b=if b=true then 0 else 1:=fun b=>by unfold usE;rw[zYP (fun z=>z c0)]
  rw[hus];clear hus;have hb:=zgv c0;have hl:s.live=true:=by
   unfold zab at c0;rw[zYP (fun q=>q hb)] at c0
   split at c0
   ·assumption
   ·cases c0
  obtain⟨n,h',e,v⟩:=zfE hb hl;have hle:=zbJ hb;have hla:=zTz s.leases now ep (by have:=hle.2.1;omega) (by have:=hle.2.2;omega);have hu:=zBY s.leases now ep;have hlp:=zH8 n s.low s.high (zdp s.leases now ep) hu ⟨h',zu s.ready,s.leases,0⟩ ⟨v,by simp,fun id hid=>zQg (by simpa using hid),by simpa using zQh s.leases now ep⟩;simp only[zZq] at hlp;rw[<- e] at hlp;obtain⟨hlp,hz⟩:=hlp;rw[hz];simp only[if_true];unfold e7S e7R at hlp;simp only at hlp;rw[<- e] at hlp;rw[c0] at hv;clear c0 hb hz v e hle hl;generalize (zcE (zdp s.leases now ep) s).1=R at *;generalize zdp s.leases now ep=u at *;generalize tiQ now=b1 at *;generalize epQ ep=b2 at *;generalize liQ lim=b3 at *;simp only[zi,z9,shZ,zA,zaz,zV,zYS,zt,zZg] at *
  cases b1
  ·clear hlp;simp only[zZH,zYX,if_false,ne_eq,zZm,if_true,Int.reduceEq]
   cases b2
   ·exact zW
   cases b3
   ·exact zW
   ·exact zW
  cases b2
  ·clear hlp;simp only[zZH,zZ5,zYX,if_false,ne_eq,zZm,if_true,Int.reduceEq];exact zW
  cases b3
  ·clear hlp;simp only[zZ5,zYX,if_false,ne_eq,zZm,if_true,Int.reduceEq];exact zW
  ·simp only[zZX,if_true,ne_eq,zY2,if_false] at *;exact zW
 ·have hus:∀b,usE s b=zab s:=fun b=>by unfold usE;rw[zYQ c0]
  rw[hus,zYQ c0];clear hus;generalize zab s=v at *;simp only[zi,zA,zaz,zV,zYS,zt] at *;exact zW
def idG(i:Int):Grant:=⟨i,0,0,0⟩
def unA(s:Section):AV:= .agg [.d (.sl (s.shards.map zi)),.d (.int .i64 s.dead.cap),.d (.sl (s.dead.l.map zj)),.xsl [],.xsl [],.xsl []]
def evA(t:zq)(kind:Int)(c:AV):AV:= .agg [.d (.int .i64 t.sec.snap.stamp),.d (.int .i64 t.number),.d (.int .i64 t.entry),.d (.int .i64 kind),.d (.int .i64 t.sec.snap.clock),.d (.int .i64 t.sec.snap.epoch),.d (.int .i64 0),c,.d (.int .i64 0),.d (.int .i64 0)]
def zd2:AV:= .agg [.d (.int .i64 0),.d (.int .i64 0),.xsl [],.xsl [],.d (.int .i64 0),.d (.int .i64 0),.d (.int .i64 0)]
def zi2:AV:= .agg [.xsl [],.d (.int .i64 0),.xsl [],.xsl [],.xsl [],.xsl []]
def zjf(t:zq)(x:Shard)(u:List Int)(out:List Int)(i:Nat):St:=⟨[(2,.ref 2 0 0),(3,.ref 3 0 0),(5,.ref 5 0 0),(14,.ref 14 0 0),(15,.d (.sl (zt u))),(17,.ref 17 0 0),(18,.d (.int .i64 i))],[(2,.row [zi2]),(3,.row [zd2]),(5,.row [unA t.sec]),(14,.row [.d (zi x)]),(17,.row [evA t 10 (accC 500115 ((out.map idG).map zbs))])]++zai 500115 ((out.map idG).map zbs)⟩
def zmK(t:zq)(x:Shard)(u:List Int)(out:List Int):zR×St:=(.exit 0,⟨[(2,.ref 2 0 0),(3,.ref 3 0 0),(5,.ref 5 0 0),(14,.ref 14 0 0),(15,.d (.sl (zt u))),(17,.ref 17 0 0)],[(2,.row [zi2]),(3,.row [zd2]),(5,.row [unA t.sec]),(14,.row [.d (zi x)]),(17,.row [evA t 10 (accC 500115 ((out.map idG).map zbs))])]++zai 500115 ((out.map idG).map zbs)⟩)
theorem zXo(t:zq)(x:Shard)(u:List Int)(hu:u.length<=1000):∀p:List Int×Nat,(p.2<=u.length/\p.1.length<=p.2)->zP G [] zj5 (zjf t x u p.1 p.2)=some (zmK t x u (p.1++u.drop p.2)):=by
 refine zaq (fun p:List Int×Nat=>u.length - p.2) (fun p:List Int×Nat=>(p.2<=u.length/\p.1.length<=p.2)) (fun p=>zjf t x u p.1 p.2) (fun p=>some (zmK t x u (p.1++u.drop p.2))) fun⟨out,i⟩ ⟨hi,hr⟩ L ih=> ?_;simp only at hi hr
 by_cases h0:i<u.length
 ·simp only;rw[zZr h0];have i1:=ih ⟨out++[u[i]],i+1⟩ ⟨by simp only;omega,by simp only[zYZ,zZp];omega⟩ (by simp only;omega);clear ih;simp only[zZF,z0M] at i1;have hG:D.agg [D.int .i64 u[i],D.int .i64 0,D.int .i64 0,D.int .i64 0]=zbs (idG u[i]):=rfl;generalize zmK t x u (out++u[i]::u.drop (i+1))=R at *
  cases out with
  | nil=>
   simp only[zjf,accC,zai,evA,zd2,zi2,unA,zj5,zYS,zZd,zZb,zZh,zY5,zYU,zYY] at *;simp only[zNr,zp] at i1;exact zS
  | cons r0 rs=>
   simp only[zjf,accC,zai,evA,zd2,zi2,unA,zj5,zYS,zY5,zYU,zY3,zZh,zZb,zYW,zYZ,zYY] at *;simp only[zNr,zp] at i1;exact zS
 ·clear ih;obtain rfl:i=u.length:=by omega
  simp only[zZA,zZd,zmK]
  cases out with
  | nil=>
   simp only[zjf,accC,zai,evA,zd2,zi2,unA,zj5,zYS,zZd] at *;exact zS
  | cons r0 rs=>
   simp only[zjf,accC,zai,evA,zd2,zi2,unA,zj5,zYU,zY3,zZh,zZb,zYW] at *;exact zS
theorem zzC(s:Shard)(now ep lim:Int):(zcD s now ep lim).2.1.length<=12:=by
 unfold zcD
 split
 ·simp
 split
 ·exact zBY _ _ _
 ·simp
theorem zS1{u:Setup}{N:Int}{t:zq}(hs:SI u N t.sec)(hk:t.sec.shards.length<=1):zd G 177 [.d (zh t)] []=some (.d (.tup [z6 (zd8 t).1,zaj (zd8 t).2.1,.sl ((zd8 t).2.2.map zaE)]),[]):=by
 have hu:=zhk t.sec;unfold zd8;simp only
 by_cases c0:t.sec.shards.length=0
 ·rw[zYQ c0];have hcd:=zGC t.sec.dead t.sec.snap.epoch (by have:=hs.dv;omega);have e0:t.sec.shards=[]:=zZC.1 c0;generalize zhw t.sec.dead t.sec.snap.epoch=d at *;obtain⟨d1,d2,d3⟩:=d;simp only at *;clear hs hk c0
  by_cases c1:0<d2
  ·rw[zYQ c1];simp only[e0,zh,zr,z6,z7,zaW,zaj,zah,zF,zYS,zt,zYU] at *;clear e0;exact zW
  ·rw[zYP c1];simp only[e0,zh,zr,z6,z7,zaW,zaj,zah,zF,zYS,zt,zYU] at *;clear e0;exact zW
 rw[zYP c0];have hk1:t.sec.shards.length=1:=by omega
 rw[zdc hk1];have hv:=(hs.sv _ (zY4 (show 0<t.sec.shards.length by omega))).1;have hb:za0 t.sec.shards[0]:=zfK (zbJ hv);clear hs hk c0
 by_cases c1:t.sec.shards[0].live=false
 ·rw[zYQ c1];clear hv hb;simp only[zh,zr,z6,z7,zaW,zaj,zah,zYS,zt] at *;exact zW
 rw[zYP c1];replace c1:t.sec.shards[0].live=true:=by simpa using c1
 by_cases c2:t.inv.kind=13
 ·rw[zYQ c2];have hcl:=zGB t.sec.shards[0] t.sec.snap.epoch hb;generalize zhx t.sec.shards[0] t.sec.snap.epoch=x at *;obtain⟨x1,x2,x3⟩:=x;replace c2:=zY8 c2;clear hv hb;simp only at *
  by_cases c3:0<x2
  ·rw[zYQ c3];simp only[zh,zr,z6,z7,zaW,zaj,zah,zYS,zYU,zt] at *;exact zW
  ·rw[zYP c3];simp only[zh,zr,z6,z7,zaW,zaj,zah,zYS,zt] at *;exact zW
 ·rw[zYP c2];have hex:=zzD t.sec.shards[0] t.sec.snap.clock t.sec.snap.epoch t.setup.limit hb;have hel:=zzC t.sec.shards[0] t.sec.snap.clock t.sec.snap.epoch t.setup.limit;have hsn:=zkL t 10;generalize zcD t.sec.shards[0] t.sec.snap.clock t.sec.snap.epoch t.setup.limit=x at *;obtain⟨x1,u,x3⟩:=x;replace c2:=zYV c2;clear hv hb;simp only at *;have hlp:=zXo t x1 u zo ⟨[],0⟩ ⟨by simp,by simp⟩
  cases u with
  | nil=>
   clear hlp;simp only[zYY,if_true];simp only[zh,zr,z6,z7,zaW,zaj,zah,zYS,zt] at *;exact zW
  | cons u0 us=>
   rw[zYP (by simp)];simp only[zjf,zmK,accC,zai,evA,zeD,zd2,zi2,unA,idG,zcd,zbS,zaE,zbs,zh,zr,z6,z7,zaW,zaj,zah,zZq,zYS,zYU,z0i,zZb,zZd,zZh,zYW,zY3,zt,Function.comp_def,zZg] at *;exact zW
theorem zBA(d:zao)(h:Int)(hL:d.l.length<=4294967296):zd G 159 [.d (zat d),.d (.int .i64 h)] []=some (.d (.int .i64 (zc6 d h)),[]):=by
 have h1:=zTD d h hL;have h2:=zDh d 0 hL;unfold zc6;generalize zjS d h=v at *;simp only[zat] at *
 by_cases c:0<=v
 ·rw[zYQ c];exact zW
 ·rw[zYP c];exact zW
theorem zDE{t:zq}(hk:t.sec.shards.length=1)(hv:zU t.sec.shards[0]=0):zd G 171 [.d (zh t)] []=some (.d (.int .i64 (zf8 t)),[]):=by
 have hst:=zhh t.sec.shards[0] (zfK (zbJ hv));have hb:=zmG hv;have hl:=(zbJ hv).1;unfold zf8 zhN;rw[zdc hk];generalize zbc t.sec.shards[0]=sd at *;have e:(if t.inv.max<(t.sec.shards[0].ready.cells.length:Int) - sd then t.inv.max else (t.sec.shards[0].ready.cells.length:Int) - sd)=(if (t.sec.shards[0].ready.cells.length:Int) - sd<t.inv.max then (t.sec.shards[0].ready.cells.length:Int) - sd else t.inv.max):=by split<;>split<;>omega
 rw[e];clear e hv;simp only[zh] at *;exact zW
def rdG(s:Shard)(m:Message):Grant:=⟨m.id,m.gen,(zcb (zbA m) s.low s.high).route,0⟩
def zi6(t:zq)(s:Shard)(d:Dead)(l:List Message)(out:List Message)(m0:AV)(hm:zf)(i:Nat):St:=⟨[(1,.ref 1 0 0),(2,.ref 2 0 0),(4,.ref 4 0 0),(5,.ref 5 0 0),(6,.ref 6 0 0),(8,.ref 8 0 0),(9,.d (.sl (l.map zj))),(11,.d (.int .i64 i))],[(1,.row [.d (zh t)]),(2,.row [m0]),(4,.row [.d (zi s)]),(5,.row [.agg [.d (.sl (t.sec.shards.map zi)),.d (.int .i64 t.sec.dead.cap),.d (.sl (t.sec.dead.l.map zj)),.xsl [],accC 77 ((out.map zbA).map zj),.xsl []]]),(6,.row [evA t 9 (accC 500094 ((out.map (rdG s)).map zbs))]),(8,.row [.d (zF d)])]++zai 77 ((out.map zbA).map zj)++zai 500094 ((out.map (rdG s)).map zbs)⟩
def tkZ:AV:= .agg [.d (.int .i64 0),.d (.int .i64 0),.d (.int .i64 0),.d (.int .i64 0),.d (.int .i64 0),.d (.int .i64 0),.d (.int .i64 0),.xsl [],.xsl [],.d (.int .i64 0),.d (.bool false),.d (.int .i64 0),.d (.int .i64 0),.d (.int .i64 0),.xsl [],.d (.int .i64 0),.d (.int .i64 0),.d (.int .i64 0),.d (.int .i64 0),.d (.int .i64 0),.d (.int .i64 0),.d (.int .i64 0),.d (.int .i64 0),.d (.int .i64 0),.d (.int .i64 0),.xsl [],.d (.int .i64 0),.d (.int .i64 0),.d (.int .i64 0),.d (.int .i64 0),.d (.int .i64 0),.d (.int .i64 0),.d (.int .i64 0),.d (.int .i64 0),.xsl [],.d (.int .i64 0),.xsl [],.xsl [],.d (.int .i64 0),.xsl [],.xsl [],.xsl [],.d (.int .i64 0),.xsl [],.xsl [],.xsl [],.xsl [],.d (.int .i64 0),.xsl [],.d (.int .i64 0),.xsl [],.xsl [],.d (.int .i64 0),.d (.int .i64 0),.d (.int .i64 0),.d (.int .i64 0),.d (.int .i64 0),.d (.int .i64 0),.d (.int .i64 0),.d (.int .i64 0),.d (.int .i64 0),.xsl [],.xsl []]
def zmm(t:zq)(s:Shard)(d:Dead)(out:List Message):zR×St:=(.exit 0,⟨[(1,.ref 1 0 0),(2,.ref 2 0 0),(4,.ref 4 0 0),(5,.ref 5 0 0),(6,.ref 6 0 0),(8,.ref 8 0 0)],[(1,.row [.d (zh t)]),(2,.row [tkZ]),(4,.row [.d (zi s)]),(5,.row [.agg [.d (.sl (t.sec.shards.map zi)),.d (.int .i64 t.sec.dead.cap),.d (.sl (t.sec.dead.l.map zj)),.xsl [],accC 77 ((out.map zbA).map zj),.xsl []]]),(6,.row [evA t 9 (accC 500094 ((out.map (rdG s)).map zbs))]),(8,.row [.d (zF d)])]++zai 77 ((out.map zbA).map zj)++zai 500094 ((out.map (rdG s)).map zbs)⟩)
theorem zTP(t:zq)(s:Shard)(d:Dead)(l:List Message)(hl:l.length<=1000):∀p:List Message×Nat,(p.2<=l.length/\p.1.length<=p.2)->zP G [] zj4 (zi6 t s d l p.1 tkZ [] p.2)=some (zmm t s d (p.1++l.drop p.2)):=by
 refine zaq (fun p:List Message×Nat=>l.length - p.2) (fun p:List Message×Nat=>(p.2<=l.length/\p.1.length<=p.2)) (fun p=>zi6 t s d l p.1 tkZ [] p.2) (fun p=>some (zmm t s d (p.1++l.drop p.2))) fun⟨out,i⟩ ⟨hi,hr⟩ L ih=> ?_;simp only at hi hr
 by_cases h0:i<l.length
 ·simp only;rw[zZr h0];have hrv:=zUB l[i];have hrr:zd G 229 [.d (zj (zbA l[i])),.d (.int .i64 s.low),.d (.int .i64 s.high)] []=some (.d (.agg [.int .i64 (zcb (zbA l[i]) s.low s.high).id,.int .i64 (zcb (zbA l[i]) s.low s.high).route,.int .i64 (zcb (zbA l[i]) s.low s.high).epoch,.int .i64 (zcb (zbA l[i]) s.low s.high).count,.int .i64 (zcb (zbA l[i]) s.low s.high).gen,.int .i64 (zcb (zbA l[i]) s.low s.high).sent,.str (zcb (zbA l[i]) s.low s.high).body]),[]):=zDx (zbA l[i]) s.low s.high;have i1:=ih ⟨out++[l[i]],i+1⟩ ⟨by simp only;omega,by simp only[zYZ,zZp];omega⟩ (by simp only;omega);clear ih;simp only[zZF,z0M] at i1;have hG:D.agg [D.int .i64 (zbA l[i]).id,D.int .i64 (zbA l[i]).gen,D.int .i64 (zcb (zbA l[i]) s.low s.high).route,D.int .i64 0]=zbs (rdG s l[i]):=rfl;generalize zmm t s d (out++l[i]::l.drop (i+1))=R at *
  cases out with
  | nil=>
   simp only[zi6,accC,zai,evA,tkZ,zj4,zh,zYS,zZd,zZb,zZh,zY5,zYU,zYY] at *;simp only[zNr,zp] at i1;exact zS
  | cons r0 rs=>
   simp only[zi6,accC,zai,evA,tkZ,zj4,zh,zYS,zY5,zYU,zY3,zZh,zZb,zYW,zYZ,zYY] at *;simp only[zNr,zp] at i1;exact zS
 ·clear ih;obtain rfl:i=l.length:=by omega
  simp only[zZA,zZd,zmm]
  cases out with
  | nil=>
   simp only[zi6,accC,zai,evA,tkZ,zj4,zh,zYS,zZd] at *;exact zS
  | cons r0 rs=>
   simp only[zi6,accC,zai,evA,tkZ,zj4,zh,zYU,zY3,zZh,zZb,zYW] at *;exact zS
theorem zD9{t:zq}(hk:t.sec.shards.length=1)(hb:za0 t.sec.shards[0]):zd G 220 [.d (zh t)] []=some (.d (.tup [zi (zdi t).1,.sl (zt (zdi t).2.1),.sl ((zdi t).2.2.map zaw)]),[]):=by
 have h1:=zzD t.sec.shards[0] t.sec.snap.clock t.sec.snap.epoch t.setup.limit hb;have h2:=zXu (zcD t.sec.shards[0] t.sec.snap.clock t.sec.snap.epoch t.setup.limit).1 t.inv.max t.sec.snap.clock t.inv.visibility t.sec.snap.epoch t.setup.limit (zfK (zBR _ _ _ _));unfold zdi;simp only;rw[zdc hk];generalize zcD t.sec.shards[0] t.sec.snap.clock t.sec.snap.epoch t.setup.limit=e at *;obtain⟨e1,e2,e3⟩:=e;simp only at *;generalize zcJ e1 t.inv.max t.sec.snap.clock t.inv.visibility t.sec.snap.epoch t.setup.limit=k at *;obtain⟨k1,k2,k3⟩:=k;simp only at *;have sz_e1:=za1 e1;generalize zi e1=D_e1 at *;have sz_k1:=za1 k1;generalize zi k1=D_k1 at *;simp only[zh] at *;exact zW
def zgU(K:Tok)(slot:Int)(y:zy):List UInt8:=(K.enc ⟨y.msg.id,y.msg.gen,y.msg.route,slot⟩).1
def zh2(K:Tok)(t:zq)(l:List zy)(out:List zy)(i:Nat):St:=⟨[(1,.ref 1 0 0),(2,.ref 2 0 0),(3,.ref 3 0 0),(6,.d (.sl (l.map zaw))),(7,.d (.int .i64 i))],[(1,.row [.d (zh t)]),(2,.row [zd2]),(3,.row [.agg [.d (.int .i64 0),.d (.int .i64 0),accC 45 ((out.map (zgU K t.slot)).map zaD),accC 52 ((out.map (·.msg.body)).map .str),.d (.int .i64 0),.d (.int .i64 0),.d (.int .i64 0)]])]++zai 45 ((out.map (zgU K t.slot)).map zaD)++zai 52 ((out.map (·.msg.body)).map .str)⟩
def zkF(K:Tok)(t:zq)(out:List zy):zR×St:=(.exit 0,⟨[(2,.ref 2 0 0),(3,.ref 3 0 0)],[(2,.row [zd2]),(3,.row [.agg [.d (.int .i64 0),.d (.int .i64 0),accC 45 ((out.map (zgU K t.slot)).map zaD),accC 52 ((out.map (·.msg.body)).map .str),.d (.int .i64 0),.d (.int .i64 0),.d (.int .i64 0)]])]++zai 45 ((out.map (zgU K t.slot)).map zaD)++zai 52 ((out.map (·.msg.body)).map .str)⟩)
theorem zFq(l:List (List UInt8)):zap 1 (l.map zaD)=true:=by
 induction l with
 | nil=>rfl
 | cons x l ih=>rw[zYU,zmX,ih];rfl
theorem zUP{K:Tok}(hK:zgO K)(t:zq)(l:List zy)(hl:l.length<=1000):∀p:List zy×Nat,(p.2<=l.length/\p.1.length<=p.2)->zP G [] zj3 (zh2 K t l p.1 p.2)=some (zkF K t (p.1++l.drop p.2)):=by
 refine zaq (fun p:List zy×Nat=>l.length - p.2) (fun p:List zy×Nat=>(p.2<=l.length/\p.1.length<=p.2)) (fun p=>zh2 K t l p.1 p.2) (fun p=>some (zkF K t (p.1++l.drop p.2))) fun⟨out,i⟩ ⟨hi,hr⟩ L ih=> ?_;simp only at hi hr
 by_cases h0:i<l.length
 ·simp only;rw[zZr h0];have hen:=hK.en ⟨l[i].msg.id,l[i].msg.gen,l[i].msg.route,t.slot⟩;have i1:=ih ⟨out++[l[i]],i+1⟩ ⟨by simp only;omega,by simp only[zYZ,zZp];omega⟩ (by simp only;omega);clear ih;simp only[zZF,z0M] at i1;have hz:∀b,(zaD b).size=1:=fun _=>rfl;have hz2:∀b,(zaD b).isT=false:=fun _=>rfl;generalize zkF K t (out++l[i]::l.drop (i+1))=R at *;have hal:=zFq
  cases out with
  | nil=>
   simp only[zh2,accC,zai,zd2,zgU,zj3,zh,zaB,zYS,zZd,zZb,zZh,zY5,zYU,zYY] at *;simp only[zNr,zp] at i1;exact zS
  | cons r0 rs=>
   simp only[zh2,accC,zai,zd2,zgU,zj3,zh,zaB,zYS,zY5,zYU,zY3,zZh,zZb,zYW,zYZ,zYY] at *;simp only[zNr,zp] at i1;exact zS
 ·clear ih;obtain rfl:i=l.length:=by omega
  simp only[zZA,zZd,zkF]
  cases out with
  | nil=>
   simp only[zh2,accC,zai,zd2,zgU,zj3,zh,zYS,zZd] at *;exact zS
  | cons r0 rs=>
   simp only[zh2,accC,zai,zd2,zgU,zj3,zh,zYU,zY3,zZh,zZb,zYW] at *;exact zS
theorem zXR(mx d ep lim:Int):∀(l:List Message) (s:Shard) (out:List zy),(tkF mx d ep lim l s out).2.1.length<=out.length+l.length:=by
 intro l
 induction l with
 | nil=>intro s out;rw[tkF];simp
 | cons m l ih=>
  intro s out;rw[tkF]
  split
  ·have:=ih s out;simp only[zYW];omega
  split
  ·simp
  ·have:=ih (zfR s m d).1 (out++[(zfR s m d).2.1]);simp only[zYZ,zYW,zYY] at *;omega
theorem zEa(s:Shard)(mx now vis ep lim:Int):(zcJ s mx now vis ep lim).2.1.length<=12:=by
 unfold zcJ
 split
 ·simp
 split
 ·simp
 ·rename_i c _;have hl:zab s=0:=by
   have c:=zY9.1 c;unfold zkS at c;unfold usE at c
   split at c
   ·rename_i q;exact absurd c q
   ·rename_i q;exact zY9.1 q
  have:=zXR mx (now+vis) ep lim (zu s.ready) s [];have h12:=zg9 (zgv hl);simp only[zYY] at this;omega
theorem zEc(t:zq):(zdi t).2.1.length<=12/\(zdi t).2.2.length<=12:=by
 unfold zdi;simp only;refine⟨zzC _ _ _ _,?_⟩;exact zEa _ _ _ _ _ _
theorem zUy{K:Tok}(hK:zgO K){t:zq}(hk:t.sec.shards.length=1)(hb:za0 t.sec.shards[0]):zd G 163 [.d (zh t)] []=some (.d (zaj (zhX K t)),[]):=by
 have ht:=zD9 hk hb;have hl:=(zEc t).2;unfold zhX;have hlp:=zUP hK t (zdi t).2.2 zo ⟨[],0⟩ ⟨by simp,by simp⟩;have ee:((zdi t).2.2.map fun y=>(K.enc ⟨y.msg.id,y.msg.gen,y.msg.route,t.slot⟩).1)=(zdi t).2.2.map (zgU K t.slot):=rfl;rw[ee];clear ee;generalize zdi t=r at *;obtain⟨s,u,l⟩:=r;simp only at *;have sz_s:=za1 s;generalize zi s=D_s at *;clear hb
 cases l with
 | nil=>
  simp only[zh2,zkF,accC,zai,zd2,zh,zaj,zah,zZq,zYS,zZd,zZb,zZg] at *;exact zW
 | cons l0 ls=>
  simp only[zh2,zkF,accC,zai,zd2,zh,zaj,zah,zZq,zYS,zZd,zZb,zYU,zZh,zYW,zY3,zZg] at *;exact zW
def zi4(t:zq)(s x:Shard)(u:List Int)(l:List zy)(out:List Int)(i:Nat):St:=⟨[(1,.ref 1 0 0),(2,.ref 2 0 0),(4,.ref 4 0 0),(5,.ref 5 0 0),(6,.ref 6 0 0),(7,.ref 7 0 0),(8,.d (.sl (zt u))),(9,.d (.sl (l.map zaw))),(10,.acc 10 []),(11,.ref 11 0 0),(12,.d (.int .i64 i))],[(1,.row [.d (zh t)]),(2,.row [tkZ]),(4,.row [.d (zi s)]),(5,.row [unA t.sec]),(6,.row [evA t 3 (.xsl [])]),(7,.row [.d (zi x)]),(10,.acc 0),(11,.row [evA t 10 (accC 500076 ((out.map idG).map zbs))])]++zai 500076 ((out.map idG).map zbs)⟩
def zmk(t:zq)(s x:Shard)(u:List Int)(l:List zy)(out:List Int):zR×St:=(.exit 0,⟨[(1,.ref 1 0 0),(2,.ref 2 0 0),(4,.ref 4 0 0),(5,.ref 5 0 0),(6,.ref 6 0 0),(7,.ref 7 0 0),(8,.d (.sl (zt u))),(9,.d (.sl (l.map zaw))),(10,.acc 10 []),(11,.ref 11 0 0)],[(1,.row [.d (zh t)]),(2,.row [tkZ]),(4,.row [.d (zi s)]),(5,.row [unA t.sec]),(6,.row [evA t 3 (.xsl [])]),(7,.row [.d (zi x)]),(10,.acc 0),(11,.row [evA t 10 (accC 500076 ((out.map idG).map zbs))])]++zai 500076 ((out.map idG).map zbs)⟩)
theorem zTN(t:zq)(s x:Shard)(u:List Int)(l:List zy)(hu:u.length<=1000):∀p:List Int×Nat,(p.2<=u.length/\p.1.length<=p.2)->zP G [] zj1 (zi4 t s x u l p.1 p.2)=some (zmk t s x u l (p.1++u.drop p.2)):=by
 refine zaq (fun p:List Int×Nat=>u.length - p.2) (fun p:List Int×Nat=>(p.2<=u.length/\p.1.length<=p.2)) (fun p=>zi4 t s x u l p.1 p.2) (fun p=>some (zmk t s x u l (p.1++u.drop p.2))) fun⟨out,i⟩ ⟨hi,hr⟩ L ih=> ?_;simp only at hi hr
 by_cases h0:i<u.length
 ·simp only;rw[zZr h0];have i1:=ih ⟨out++[u[i]],i+1⟩ ⟨by simp only;omega,by simp only[zYZ,zZp];omega⟩ (by simp only;omega);clear ih;simp only[zZF,z0M] at i1;have hG:D.agg [D.int .i64 u[i],D.int .i64 0,D.int .i64 0,D.int .i64 0]=zbs (idG u[i]):=rfl;generalize zmk t s x u l (out++u[i]::u.drop (i+1))=R at *;have sz_t:=zO t;generalize zh t=D_t at *
  cases out with
  | nil=>
   simp only[zi4,accC,zai,evA,tkZ,unA,zj1,zYS,zZd,zZb,zZh,zY5,zYU,zYY] at *;simp only[zNr,zp] at i1;exact zS
  | cons r0 rs=>
   simp only[zi4,accC,zai,evA,tkZ,unA,zj1,zYS,zY5,zYU,zY3,zZh,zZb,zYW,zYZ,zYY] at *;simp only[zNr,zp] at i1;exact zS
 ·clear ih;obtain rfl:i=u.length:=by omega
  simp only[zZA,zZd,zmk]
  cases out with
  | nil=>
   simp only[zi4,accC,zai,evA,tkZ,unA,zj1,zYS,zZd] at *;exact zS
  | cons r0 rs=>
   simp only[zi4,accC,zai,evA,tkZ,unA,zj1,zYU,zY3,zZh,zZb,zYW] at *;exact zS
def ziZ(s:Section)(x:Shard):AV:= .agg [.xsl [zi x],.d (.int .i64 s.dead.cap),.d (.sl (s.dead.l.map zj)),.xsl [.int .i64 0],.xsl [],.xsl []]
def zi5(t:zq)(x:Shard)(l:List zy)(evs:List D)(out:List zy)(i:Nat):St:=⟨[(1,.ref 1 0 0),(2,.ref 2 0 0),(5,.ref 5 0 0),(6,.ref 6 0 0),(9,.d (.sl (l.map zaw))),(10,.acc 10 evs),(13,.d (.int .i64 i))],[(1,.row [.d (zh t)]),(2,.row [tkZ]),(5,.row [ziZ t.sec x]),(6,.row [evA t 3 (accC 500137 ((out.map zgW).map zbs))]),(10,.acc evs.length)]++zai 500137 ((out.map zgW).map zbs)⟩
def zml(t:zq)(x:Shard)(evs:List D)(out:List zy):zR×St:=(.exit 3,⟨[(1,.ref 1 0 0),(2,.ref 2 0 0),(5,.ref 5 0 0),(6,.ref 6 0 0),(10,.acc 10 evs)],[(1,.row [.d (zh t)]),(2,.row [tkZ]),(5,.row [ziZ t.sec x]),(6,.row [evA t 3 (accC 500137 ((out.map zgW).map zbs))]),(10,.acc evs.length)]++zai 500137 ((out.map zgW).map zbs)⟩)
theorem zDi(t:zq)(x:Shard)(l:List zy)(evs:List D)(hl:l.length<=1000):∀p:List zy×Nat,(p.2<=l.length/\p.1.length<=p.2)->zP G [] zj2 (zi5 t x l evs p.1 p.2)=some (zml t x evs (p.1++l.drop p.2)):=by
 refine zaq (fun p:List zy×Nat=>l.length - p.2) (fun p:List zy×Nat=>(p.2<=l.length/\p.1.length<=p.2)) (fun p=>zi5 t x l evs p.1 p.2) (fun p=>some (zml t x evs (p.1++l.drop p.2))) fun⟨out,i⟩ ⟨hi,hr⟩ L ih=> ?_;simp only at hi hr
 by_cases h0:i<l.length
 ·simp only;rw[zZr h0];have i1:=ih ⟨out++[l[i]],i+1⟩ ⟨by simp only;omega,by simp only[zYZ,zZp];omega⟩ (by simp only;omega);clear ih;simp only[zZF,z0M] at i1;have hG:D.agg [D.int .i64 l[i].msg.id,D.int .i64 l[i].msg.gen,D.int .i64 l[i].msg.route,D.int .i64 l[i].deadline]=zbs (zgW l[i]):=rfl;generalize zml t x evs (out++l[i]::l.drop (i+1))=R at *;have sz_t:=zO t;generalize zh t=D_t at *
  cases out with
  | nil=>
   simp only[zi5,accC,zai,evA,tkZ,ziZ,zj2,zYS,zZd,zZb,zZh,zY5,zYU,zYY] at *;simp only[zNr,zp] at i1;exact zS
  | cons r0 rs=>
   simp only[zi5,accC,zai,evA,tkZ,ziZ,zj2,zYS,zY5,zYU,zY3,zZh,zZb,zYW,zYZ,zYY] at *;simp only[zNr,zp] at i1;exact zS
 ·clear ih;obtain rfl:i=l.length:=by omega
  simp only[zZA,zZd,zml]
  cases out with
  | nil=>
   simp only[zi5,accC,zai,evA,tkZ,ziZ,zj2,zYS,zZd] at *;exact zS
  | cons r0 rs=>
   simp only[zi5,accC,zai,evA,tkZ,ziZ,zj2,zYU,zY3,zZh,zZb,zYW] at *;exact zS
theorem z40{p:Prop}(h:p:=by simp only[zi4,zmk,zi5,zml,accC,zai,evA,tkZ,unA,ziZ,zh,zr,z6,zcC,z7,zeD,zcd,zaE,zbS,idG,zbs,zgW,zZq,zZb,zZd,zZh,zYW,zYY,zY3,zYS,zYU,z0i,zt,Function.comp_def,zZg] at *; exact zW):p:=h
theorem zTS{u:Setup}{N:Int}{t:zq}(hs:SI u N t.sec)(hk:t.sec.shards.length=1)(hvs:0<=t.inv.visibility/\t.inv.visibility<=1000):zd G 162 [.d (zh t)] []=some (.d (.tup [zh (zdt t).1,.sl ((zdt t).2.map zaE)]),[]):=by
 have hb:za0 t.sec.shards[0]:=zdc hk ▸ zmC hs;have hun:=hs.un;have hu:=zhk t.sec;have ho:=zoW t.sec.shards[0] t.walk.next hb;have hcl:=hs.sn.2;unfold zdt;simp only;rw[zdc hk]
 by_cases c0:zex t.sec.shards[0] t.walk.next=false
 ·rw[zYQ c0];rw[c0] at ho;have hd:=zcu (t:={ t with loaded:=0 }) hs hun;generalize za5 { t with loaded:=0 } (z7 t.sec)=t2 at *;have sz_t2:=zO t2;generalize zh t2=D_t2 at *;clear hs hb c0 hun;simp only[zh,zr,z6,z7,zYS,zt] at *;exact zW
 rw[zYP c0];replace c0:zex t.sec.shards[0] t.walk.next=true:=by simpa using c0
 rw[c0] at ho;clear c0;have hsn:=zkL { t with loaded:=0 } 3
 by_cases c1:1073741824<t.sec.snap.clock+t.inv.visibility
 ·rw[zYQ c1];have hd:=zcu (t:={ t with loaded:=3 }) hs hun;generalize za5 { t with loaded:=3 } (z7 t.sec)=t2 at *;have sz_t2:=zO t2;generalize zh t2=D_t2 at *;clear hs hb hun;simp only[zh,zr,z6,z7,zeD,zcd,zaE,zbS,zYS,zYU,zt] at *;exact zW
 rw[zYP c1];have htk:=zD9 (t:={ t with loaded:=0 }) hk hb;have htl:=zEc { t with loaded:=0 };have hx:zaJ (zdi { t with loaded:=0 }).1:=zBT _ _ _ _ _ _;have hsx:=zkL { t with loaded:=0 } 10;have hwa:=zES t.walk t.sec.shards[0].low t.sec.shards[0].high;generalize zfF t.walk t.sec.shards[0].low t.sec.shards[0].high=wk at *;obtain⟨wk,we⟩:=wk;have hov:=zEU wk;generalize zdi { t with loaded:=0 }=r at *;obtain⟨x,ui,l⟩:=r;simp only at *;have hl0:=zTN { t with loaded:=0 } t.sec.shards[0] x ui l zo ⟨[],0⟩ ⟨by simp,by simp⟩;have hoi:=hs.one hk hx;have eg:(l.map zgW)=l.map zgW:=rfl;clear hx eg hb
 cases ui with
 | nil=>
  simp only[zYY,z2d,if_false,false_or]
  cases l with
  | nil=>
   simp only[zYY,z2d,if_false];clear hl0
   by_cases c5:zgL wk=true
   ·rw[zYQ c5];rw[c5] at hov;clear c5;have hd:=zcu (t:={ t with loaded:=2,walk:=wk }) hs hun;generalize za5 { t with loaded:=2,walk:=wk } (z7 t.sec)=t2 at *;have sz_t2:=zO t2;generalize zh t2=D_t2 at *;clear hs hun hoi;exact z40
   ·rw[zYP c5];replace c5:zgL wk=false:=by simpa using c5
    rw[c5] at hov;clear c5;have hd:=zcu (t:={ t with loaded:=0,walk:=wk }) hs hun;generalize za5 { t with loaded:=0,walk:=wk } (z7 t.sec)=t2 at *;have sz_t2:=zO t2;generalize zh t2=D_t2 at *;clear hs hun hoi;exact z40
  | cons l0 ls=>
   simp only[zYW,z1o,if_true];have hl1:=zDi { t with loaded:=1,walk:=wk } x (l0::ls) [] (by simp only[zYW] at *; omega) ⟨[],0⟩ ⟨by simp,by simp⟩;clear hl0;clear hov;have hd:=zcu (t:={ t with loaded:=1,walk:=wk }) hs hoi;generalize za5 { t with loaded:=1,walk:=wk } ({ z7 t.sec with shards:=[x],order:=[0] })=t2 at *;have sz_t2:=zO t2;generalize zh t2=D_t2 at *;clear hs hun hoi;exact z40
 | cons u0 us=>
  simp only[zYW,z1o,if_true,z0Y]
  cases l with
  | nil=>
   simp only[zYY,z2d,if_false]
   by_cases c5:zgL wk=true
   ·rw[zYQ c5];rw[c5] at hov;clear c5;have hd:=zcu (t:={ t with loaded:=2,walk:=wk }) hs hoi;generalize za5 { t with loaded:=2,walk:=wk } ({ z7 t.sec with shards:=[x],order:=[0] })=t2 at *;have sz_t2:=zO t2;generalize zh t2=D_t2 at *;clear hs hun hoi;exact z40
   ·rw[zYP c5];replace c5:zgL wk=false:=by simpa using c5
    rw[c5] at hov;clear c5;have hd:=zcu (t:={ t with loaded:=0,walk:=wk }) hs hoi;generalize za5 { t with loaded:=0,walk:=wk } ({ z7 t.sec with shards:=[x],order:=[0] })=t2 at *;have sz_t2:=zO t2;generalize zh t2=D_t2 at *;clear hs hun hoi;exact z40
  | cons l0 ls=>
   simp only[zYW,z1o,if_true];have hl1:=zDi { t with loaded:=1,walk:=wk } x (l0::ls) [zaE { zcd { t with loaded:=0 } 10 with l:=(u0::us).map idG }] (by simp only[zYW] at *; omega) ⟨[],0⟩ ⟨by simp,by simp⟩;clear hov;have hd:=zcu (t:={ t with loaded:=1,walk:=wk }) hs hoi;generalize za5 { t with loaded:=1,walk:=wk } ({ z7 t.sec with shards:=[x],order:=[0] })=t2 at *;have sz_t2:=zO t2;generalize zh t2=D_t2 at *;clear hs hun hoi;exact z40
theorem zBQ(k:Int):zd G 165 [.d (.int .i64 k)] []=some (.d (.int .i64 (ziy k)),[]):=by
 unfold ziy;exact zW
theorem zDP{t:zq}(hk:t.sec.shards.length=1)(hb:za0 t.sec.shards[0]):zd G 168 [.d (zh t)] []=some (.d (.tup [zi (zdz t).1,.int .i64 (zdz t).2]),[]):=by
 unfold zdz;rw[zdc hk]
 by_cases c1:t.inv.kind=3
 ·rw[zYQ c1];have h:=zFl t.sec.shards[0] t.handle t.sec.snap.clock t.sec.snap.epoch hb;generalize zc0 t.sec.shards[0] t.handle t.sec.snap.clock t.sec.snap.epoch=x at *;obtain⟨x1,x2⟩:=x;replace c1:=zY8 c1;simp only at *;have sz_x1:=za1 x1;generalize zi x1=D_x1 at *;simp only[zh,zaB] at *;exact zW
 rw[zYP c1]
 by_cases c2:t.inv.kind=4
 ·rw[zYQ c2];have h:=zRv t.sec.shards[0] t.handle t.sec.snap.clock t.sec.snap.epoch t.setup.limit hb;generalize zcR t.sec.shards[0] t.handle t.sec.snap.clock t.sec.snap.epoch t.setup.limit=x at *;obtain⟨x1,x2⟩:=x;replace c1:=zYV c1;replace c2:=zY8 c2;simp only at *;have sz_x1:=za1 x1;generalize zi x1=D_x1 at *;simp only[zh,zaB] at *;exact zW
 ·rw[zYP c2];have h:=zGv t.sec.shards[0] t.handle t.sec.snap.clock t.sec.snap.epoch t.inv.visibility hb;generalize ze9 t.sec.shards[0] t.handle t.sec.snap.clock t.sec.snap.epoch t.inv.visibility=x at *;obtain⟨x1,x2⟩:=x;replace c1:=zYV c1;replace c2:=zYV c2;simp only at *;have sz_x1:=za1 x1;generalize zi x1=D_x1 at *;simp only[zh,zaB] at *;exact zW
theorem zER{i:zaY}{u:Setup}(h:zbO i u=0)(hk:i.kind=2\/i.kind=5):0<=i.visibility/\i.visibility<=1000:=by
 unfold zbO inI at h;rw[zYP zo] at h
 rcases hk with hk|hk
 ·rw[zYQ (.inl hk)] at h
  split at h
  ·cases h
  ·rename_i c;have c2:=fun q=>c (.inr (.inr ⟨hk,q⟩));simp only[decide_eq_false_iff_not] at c2;exact zY9.1 c2
 ·rw[zYP zo,zYQ zo] at h
  split at h
  ·cases h
  ·split at h
   ·cases h
   ·rename_i _ c;have c2:=fun q=>c ⟨hk,q⟩;simp only[decide_eq_false_iff_not] at c2;exact zY9.1 c2
theorem zWi{u:Setup}{N:Int}{t:zq}(hs:SI u N t.sec)(hk:t.sec.shards.length=1)(hiv:zbO t.inv u=0):zd G 166 [.d (zh t)] []=some (.d (.tup [zh (zdy t).1,.sl ((zdy t).2.map zaE)]),[]):=by
 have hb:za0 t.sec.shards[0]:=zdc hk ▸ zmC hs;have hu:=zhk t.sec;have ho:=zoW t.sec.shards[0] t.handle.route hb;have hst:=zDP hk hb;have hl12:(zdz t).2=0->zaJ (zdz t).1:=fun q=>zBS q;have hki:=zBQ t.inv.kind;have hsn:=zkL t (ziy t.inv.kind);have hvs:=zER (i:=t.inv) hiv;have hcl:=hs.sn.2;unfold zdy;simp only;rw[zdc hk]
 by_cases c0:zex t.sec.shards[0] t.handle.route=false
 ·rw[zYQ c0];rw[c0] at ho;have hd:=zcu (t:=t) hs hs.un;generalize za5 t (z7 t.sec)=t2 at *;have sz_t2:=zO t2;generalize zh t2=D_t2 at *;clear hs hl12 hb c0 hst hki hsn hiv hvs hcl;simp only[zh,zr,z6,z7,zYS,zt] at *;exact zW
 rw[zYP c0];replace c0:zex t.sec.shards[0] t.handle.route=true:=by simpa using c0
 rw[c0] at ho;generalize ziy t.inv.kind=ek at *;generalize zdz t=x at *;obtain⟨x1,x2⟩:=x;simp only at *
 by_cases c1:x2=0
 ·subst c1;have hl:=hl12 rfl;simp only[zZZ,if_true];have hd:=zcu (t:=t) hs (hs.one hk hl);generalize za5 t { z7 t.sec with shards:=[x1],order:=[0] }=t2 at *;have sz_t2:=zO t2;generalize zh t2=D_t2 at *
  by_cases c2:t.inv.kind=5
  ·rw[zYQ c2];have hv:=hvs (.inr c2);replace c2:=zY8 c2;clear hs hl12 hb c0 hiv hvs hl;simp only[zh,zr,z6,z7,zcd,zeD,zaE,zbS,zbs,zYS,zYU,zt] at *;exact zW
  ·rw[zYP c2];replace c2:=zYV c2;clear hs hl12 hb c0 hiv hvs hl;simp only[zh,zr,z6,z7,zcd,zeD,zaE,zbS,zbs,zYS,zYU,zt] at *;exact zW
 ·rw[zYP c1,zYP (fun q=>c1 q.1)];have hd:=zcu (t:=t) hs hs.un;generalize za5 t (z7 t.sec)=t2 at *;have sz_t2:=zO t2;generalize zh t2=D_t2 at *;clear hs hl12 hb c0 hiv hvs;simp only[zh,zr,z6,z7,zcd,zeD,zaE,zbS,zbs,zYS,zYU,zt] at *;exact zW
theorem zWl(a:zm)(t:zq)(n:Int)(h:zan t 3 5≠0):zd G 102 [.d (zl a),.d (zh t),.d (.int .i64 n)] []=some (.d (.tup [zl zx,zh zJ,.sl [],.int .i64 (zan t 3 5)]),[]):=by
 have hg:=zeV t 3 5;have hf:=zc4 (zan t 3 5);generalize zan t 3 5=ge at *;have sz_zTask:=zO zJ;generalize zh zJ=D_zTask at *;have sz_t:=zO t;generalize zh t=D_t at *;have sz_zArena:=zay zx;generalize zl zx=D_zArena at *;exact zW
theorem zWn{K:Tok}(hK:zgO K){u:Setup}{a:zm}{t:zq}{n N:Int}(hu:zaX u=true)(ha:AI u a)(ht:TI u N t)(hN:N<=999999)(hb:∀b∈t.inv.tokens,b.length<=4294967296):zd G 102 [.d (zl a),.d (zh t),.d (.int .i64 n)] []=some (.d (.tup [zl (zd5 K a t n).1,zh (zd5 K a t n).2.1,.sl ((zd5 K a t n).2.2.1.map zaE),.int .i64 (zd5 K a t n).2.2.2]),[]):=by
 unfold zd5
 by_cases c0:zan t 3 5=0
 rotate_left
 ·rw[zYQ c0];exact zWl a t n c0
 rw[zYP (fun q=>q c0)];have hg:=zeV t 3 5;rw[c0] at hg;obtain⟨g1,g2⟩:=zeW c0;have hen:=zh8 ht g1;have he1:=ht.e1 g1;have he0:=ht.e0;unfold zej at he1;rw[zYP zo,zYQ g2] at he1;clear g1
 by_cases c1:t.pc=0
 ·rw[zYQ c1];have hi:t.entry.toNat<t.inv.tokens.length:=by omega
  rw[zg hi];have hp:=hK.pa (t.inv.tokens[t.entry.toNat]) (hb _ (zY4 hi));have hz1:(zaD (t.inv.tokens[t.entry.toNat])).size=1:=rfl;have hz2:(zaD (t.inv.tokens[t.entry.toNat])).isT=false:=rfl;have hz3:(zaD (t.inv.tokens[t.entry.toNat])).cells=[zaD (t.inv.tokens[t.entry.toNat])]:=rfl;have hki:=zBQ t.inv.kind;have hsu:t.setup.slots=u.slots:=by rw[ht.su]
  have hub:=(zkH hu).1;generalize ziy t.inv.kind=ek at *;simp only;generalize K.par t.inv.tokens[t.entry.toNat]=h at *;obtain⟨h,e⟩:=h;simp only at *
  by_cases c2:e=0
  ·subst c2;simp only[ne_eq,zY2,if_false]
   by_cases c3:h.hint<t.setup.slots
   ·rw[zYQ c3];have hse:=zmA { t with handle:=h,pc:=1 } [h.hint] 2 (by simp);generalize zcc { t with handle:=h,pc:=1 } [h.hint] 2=t2 at *;have sz_t2:=zO t2;generalize zh t2=D_t2 at *;replace c1:=zY8 c1;clear ht ha hu hb hsu;simp only[zh,zaB,zt,zYU,zYS] at *;exact zW
   ·rw[zYP c3];replace c1:=zY8 c1;clear ht ha hu hb hsu;simp only[zh,zaB] at *;exact zW
  ·rw[zYQ c2];have hev:=znw t ek n;have hnx:=ze1 t (zaW 5) n hen.1 hen.2;generalize zbo t (zaW 5) n=t2 at *;have sz_t2:=zO t2;generalize zh t2=D_t2 at *;replace c1:=zY8 c1;clear ht ha hu hb hsu;simp only[zh,zaB,zaE,evT,zbS,zaW,zaj,zah,zYU,zYS] at *;exact zW
 rw[zYP c1]
 by_cases c2:t.pc=1
 ·rw[zYQ c2];have hlk:=zsm a t t.handle.route 2 (by have:=zfc ha.dv;omega);generalize zg3 a t t.handle.route 2=t2 at *;have sz_t2:=zO t2;generalize zh t2=D_t2 at *;replace c2:=zY8 c2;replace c1:=zYV c1;clear ht ha hu;simp only[zh] at *;exact zW
 rw[zYP c2];have k4:=ht.se ⟨c1,by omega⟩;have hgo:=zlw a t n (zmz hu ha k4.si zo);have hgk:=zlx (n:=n) ha k4.si k4.ed;simp only;generalize goT a t n=g at *;obtain⟨a2,t2,b1,b2,e⟩:=g;simp only at *
 by_cases c4:e=0
 rotate_left
 ·rw[zYQ c4];have hf:=zc4 e;unfold zbu;clear hgk ht ha hu k4;replace c2:=zYV c2;replace c1:=zYV c1;have sz_zTask:=zO zJ;generalize zh zJ=D_zTask at *;have sz_zArena:=zay zx;generalize zl zx=D_zArena at *;have sz_t2:=zO t2;generalize zh t2=D_t2 at *;have sz_a2:=zay a2;generalize zl a2=D_a2 at *;simp only[zh] at *;exact zW
 subst c4;simp only[ne_eq,zY2,if_false];obtain⟨h1,s,h2,hSI,hKe,ho,h4,h9⟩:=hgk rfl;have h3:zbe u (N+1) t.inv s:=k4.keep hSI hKe (by rw[ho];exact k4.ed);have hen2:t2.entry=t.entry/\t2.results=t.results/\t2.inv=t.inv/\t2.sec=s:=by rw[h2];exact⟨rfl,rfl,rfl,rfl⟩
 obtain⟨q1,q2,q3,q4⟩:=hen2
 cases b1
 rotate_left
 ·simp only[if_true];have hp:s.phase=4\/s.phase=9:= .inl (h4.1 rfl);have hk:t2.sec.shards.length=1:=by rw[q4];exact (zgE h3 ht.iv hp).1 zo
  have hd:=zWi (t:=t2) (by rw[q4];exact h3.si) hk (by rw[q3];exact ht.iv);generalize zdy t2=r at *;obtain⟨t3,l⟩:=r;clear ht ha hu k4 h1 h2 h3 h4 h9 ho hSI hKe q1 q2 q3 q4 hp hk hb;replace c2:=zYV c2;replace c1:=zYV c1;simp only at *;have sz_t2:=zO t2;generalize zh t2=D_t2 at *;have sz_t3:=zO t3;generalize zh t3=D_t3 at *;simp only[zh] at *;exact zW
 ·simp only[zYX,if_false]
  cases b2
  ·simp only[if_true];clear ht ha hu k4 h1 h2 h3 h4 h9 ho hSI hKe q1 q2 q3 q4 hb;replace c2:=zYV c2;replace c1:=zYV c1;have sz_t2:=zO t2;generalize zh t2=D_t2 at *;simp only[zh] at *;exact zW
  ·simp only[zZK,if_false];have hp:s.phase=4\/s.phase=9:= .inr (h9.1 rfl);have hk:t2.sec.shards.length=1:=by rw[q4];exact (zgE h3 ht.iv hp).1 zo
   have hbg:za0 t2.sec.shards[0]:=zdc hk ▸ zmC (u:=u) (N:=N+1) (by rw[q4];exact h3.si);have how:=zoW t2.sec.shards[0] t2.handle.route hbg;have hse:=zDP hk hbg;rw[zdc hk];have hnx:=ze1 t2 { zah with err:=(zdz t2).2,id:=if (zdz t2).2=0 then t2.handle.id else 0 } n (by rw[q1];exact hen.1) (by rw[q2];exact hen.2);clear ht ha hu k4 h1 h2 h3 h4 h9 ho hSI hKe q1 q2 q3 q4 hp hb hbg;replace c2:=zYV c2;replace c1:=zYV c1
   by_cases c5:zex t2.sec.shards[0] t2.handle.route=false
   ·rw[zYQ c5];rw[c5] at how;clear hnx hse c5;simp only[zh] at *;exact zW
   ·rw[zYP c5];replace c5:zex t2.sec.shards[0] t2.handle.route=true:=by simpa using c5
    rw[c5] at how;clear c5;generalize zdz t2=x at *;obtain⟨x1,x2⟩:=x;simp only at *;have sz_x1:=za1 x1;generalize zi x1=D_x1 at *
    by_cases c6:x2=0
    ·subst c6;simp only[if_true] at *;generalize zbo t2 { zah with err:=0,id:=t2.handle.id } n=t3 at *;have sz_t3:=zO t3;generalize zh t3=D_t3 at *;simp only[zh,zaj,zah,zYS] at *;exact zW
    ·rw[zYP c6] at hnx ⊢;generalize zbo t2 { zah with err:=x2,id:=0 } n=t3 at *;have sz_t3:=zO t3;generalize zh t3=D_t3 at *;simp only[zh,zaj,zah,zYS] at *;exact zW
end Go.Proofs.YtjalkkalhdnplaaGreat
