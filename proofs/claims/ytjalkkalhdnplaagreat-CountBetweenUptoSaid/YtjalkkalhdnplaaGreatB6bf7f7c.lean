/-
  Shards at the layered table.
-/
import Derived.Test.YtjalkkalhdnplaaGreatB907f86f
import Derived.Test.YtjalkkalhdnplaaGreatB4cd137a
set_option linter.unusedSimpArgs false
set_option linter.unusedVariables false
set_option maxHeartbeats 10000000
set_option maxRecDepth 100000
namespace Go.Proofs.YtjalkkalhdnplaaGreat
open Go Go.Sim
theorem zBy(t:Table)(id:Int)(hL:t.l.length<=4294967296)(hH:t.heap.length<=4294967296):zh G 310 [.d (zan t),.d (.int .i64 id)] []=some (.d (.tup [zaE (zel t id).1,.bool (zel t id).2]),[]):=by
 have hv:=zkH t hL hH;rw[zk4] at hv;have hf:=zmn t id hL;have hlt:=znA t.l id;unfold zel
 by_cases h1:zah t=0
 ·by_cases h6:0<=zab t.l id
  ·obtain⟨k,hk⟩:∃k:Nat,zab t.l id=k:=⟨(zab t.l id).toNat,by omega⟩;have hkl:k<t.l.length:=by omega
   simp only[h1,h6,zXs,if_true];rw[hk,zXb,zq hkl];rw[hk] at hf;simp only[zan,zaE] at hv hf ⊢;rw[h1] at hv;clear hk h6;have zk0:=zaE.eq_1;exact zW
  ·simp only[h1,h6,zYo,if_false];simp only[zan,zaE,zbZ,z9] at hv hf ⊢;rw[h1] at hv;exact zW
 ·simp only[h1,zXF,if_false];simp only[zan,zaE,zbZ,z9] at hv hf ⊢;exact zW
theorem zoO(t:Table)(id:Int)(hL:t.l.length<=4294967296)(hH:t.heap.length<=4294967296):zh G 276 [.d (zan t),.d (.int .i64 id)] []=some (.d (.tup [zan (z8 t id).1,zk (z8 t id).2.1,.int .i64 (z8 t id).2.2]),[]):=by
 have hv:=zkH t hL hH;rw[zk4] at hv;have hf:=zmn t id hL;have hr:=zBH t.heap id hH;have hlt:=znA t.l id;simp only[eDE] at hr
 by_cases h1:zah t=0
 ·by_cases h6:0<=zab t.l id
  ·obtain⟨k,hk,e1,e2,e3,e4,e5⟩:=zkN h1 h6;have h12:=((zd9 t).1 h1).1;have e:z8 t id=(⟨zga t.l k,(zcj t.heap id).1⟩,t.l[k].msg,0):=by
    have:zfq t id=0:=by unfold zfq;rw[zWy (by simpa using h1),zWy zo,e3]
    unfold z8;rw[zWz this,e1,zXb,zq hk]
   rw[e];rw[e1] at hf;rw[e3] at hr;have hz1:=zjI (t.l.take k);have hz2:=zjI (t.l.drop (k+1));simp only[zan,zk,zga,zWQ] at hv hf ⊢;rw[h1] at hv;clear e e1 e2 e3 e5 h6;have zk0:=zaE.eq_1;exact zW
  ·have e:z8 t id=(zac,z9,4):=by simp [z8,zfq,h1,h6]
   rw[e];simp only[zan,zk,zac,z9] at hv hf ⊢;rw[h1] at hv;exact zW
 ·have e:z8 t id=(zac,z9,zah t):=by simp [z8,zfq,h1]
  rw[e];simp only[zan,zk,zac,z9] at hv hf ⊢;exact zW
theorem zRc(t:Table)(id d:Int)(hL:t.l.length<=4294967296)(hH:t.heap.length<=4294967296):zh G 279 [.d (zan t),.d (.int .i64 id),.d (.int .i64 d)] []=some (.d (.tup [zan (zbe t id d).1,.int .i64 (zbe t id d).2]),[]):=by
 have hv:=zkH t hL hH;rw[zk4] at hv;have hf:=zmn t id hL;have hr:=zBH t.heap id hH;have hlt:=znA t.l id;simp only[eDE] at hr
 by_cases h1:zah t=0
 ·by_cases h6:0<=zab t.l id
  ·by_cases h4:0<=d/\d<=1073741824
   ·obtain⟨k,hk,e1,e2,e3,e4,e5⟩:=zkN h1 h6;have h12:=((zd9 t).1 h1).1;have hs:=(zqs (id:=id) (d:=d) h1).2 ⟨h6,h4.1,h4.2⟩;have hE:zek t id d=0:=by
     unfold zbe at hs
     split at hs
     ·assumption
     ·rename_i hc;exact absurd hs hc
    have hp0:(zfP (zcj t.heap id).1 (d,id)).2=0:=by
     unfold zek at hE
     rwa [zWy (by simpa using h1),zWy zo,zWy zo,zWy (by simpa using e3)] at hE
    have e:zbe t id d=(⟨t.l.set k ⟨t.l[k].msg,d⟩,(zfP (zcj t.heap id).1 (d,id)).1⟩,0):=by
     unfold zbe;rw[zWz hE,e1,zXb,zB7 hk]
    have hp:=zBG (zcj t.heap id).1 (d,id) (zR2 _ _ hH);simp only[eDE,eD] at hp;rw[e];rw[e1] at hf;rw[e3] at hr;rw[hp0] at hp;have hz:=zjI t.l;simp only[zan,zXy] at hv hf ⊢;rw[h1] at hv;clear e e1 e2 e3 e5 h6 hs hE hp0;have zk0:=zaE.eq_1;exact zW
   ·have e:zbe t id d=(zac,1):=by simp [zbe,zek,h1,h6,h4]
    rw[e];simp only[zan,zac] at hv hf ⊢;rw[h1] at hv
    by_cases h5:d<0
    ·exact zW
    ·have h7:1073741824<d:=by omega
     exact zW
  ·have e:zbe t id d=(zac,4):=by simp [zbe,zek,h1,h6]
   rw[e];simp only[zan,zac] at hv hf ⊢;rw[h1] at hv;exact zW
 ·have e:zbe t id d=(zac,zah t):=by simp [zbe,zek,h1]
  rw[e];simp only[zan,zac] at hv hf ⊢;exact zW
def zrV(t:Table)(id:Int):Message:=(t.l.getD (zab t.l id).toNat zbZ).msg
def zfI(t:Table)(ep:Int)(id:Int):Bool:= !decide ((zrV t id).epoch<ep)
def zd2(t:Table)(now ep:Int):List Int:=if zah t=0 then (zdd t.heap now).filter (zfI t ep) else []
theorem zCQ{t:Table}(h:zah t=0)(now:Int)(id:Int):id∈zdd t.heap now↔∃x∈t.l,x.msg.id=id/\x.deadline<=now:=by
 obtain⟨q1,q2,q3,q4⟩:=(zd9 t).1 h;unfold zdd;rw[zWz ((zfY _).2 q3)];have hp:=(zkX t.heap 1 (fun p q hp hq=>by omega)).2;unfold zjZ;constructor
 ·intro hm;obtain⟨d,hd,e⟩:=zWP.1 hm;obtain⟨hd,hn⟩:=zX4.1 hd;obtain⟨x,hx,e2⟩:=zWP.1 (q4.mem_iff.1 (hp.mem_iff.1 hd));subst e2;exact⟨x,hx,e,of_decide_eq_true hn⟩
 ·rintro⟨x,hx,e,hn⟩;exact zWP.2 ⟨zbQ x,zX4.2 ⟨hp.mem_iff.2 (q4.mem_iff.2 (zWP.2 ⟨x,hx,rfl⟩)),zWY hn⟩,e⟩
theorem zVZ{t:Table}(h:zah t=0){now id:Int}(hm:id∈zdd t.heap now):0<=zab t.l id:=
 let ⟨x,hx,e,_⟩:=(zCQ h now id).1 hm
 (zhW id).2 ⟨x,hx,e⟩
theorem zCP{t:Table}(h:zah t=0)(now:Int):(zdd t.heap now).length<=12:=by
 obtain⟨q1,q2,q3,q4⟩:=(zd9 t).1 h;unfold zdd;rw[zWz ((zfY _).2 q3)];have hp:=(zkX t.heap 1 (fun p q hp hq=>by omega)).2.length_eq;have:=q3.len;unfold zjZ;rw[zWM];exact zXo (zXJ _ _) zo
def rlS(t:Table)(ep:Int)(u:List Int)(i:Nat):St:=⟨[(2,.d (.int .i64 ep)),(3,.ref 3 0 0),(7,.acc 7 (zt ((u.take i).filter (zfI t ep)))),(8,.d (.sl (zt u))),(9,.d (.int .i64 i))],[(3,.row [.d (zan t)]),(7,.acc ((u.take i).filter (zfI t ep)).length)]⟩
theorem zSo(t:Table)(ep now:Int)(u:List Int)(hu:u.length<=12)(h:zah t=0)(hf:∀id∈u,0<=zab t.l id)(hL:t.l.length<=4294967296)(hH:t.heap.length<=4294967296):∀i:Nat,i<=u.length->zN G [] zre (rlS t ep u i)=some (.exit 0,⟨[(7,.acc 7 (zt (u.filter (zfI t ep))))],[(7,.acc (u.filter (zfI t ep)).length)]⟩):=by
 refine zaB (fun i=>u.length - i) (fun i=>i<=u.length) (rlS t ep u) _ fun i hi L ih=> ?_;simp only[rlS,zan] at ih ⊢;simp only[zre]
 by_cases h0:i<u.length
 ·have i1:=ih (i+1) zo zo;clear ih;have ht:u.take (i+1)=u.take i++[u[i]]:=by rw[zYG,zWF h0];rfl
  rw[ht,zZL] at i1;have hF:=zBy t u[i] hL hH;have hfi:=hf u[i] (zWH h0);have e:zel t u[i]=(t.l.getD (zab t.l u[i]).toNat zbZ,true):=by unfold zel;rw[zWz ⟨h,hfi⟩]
  rw[e] at hF;have hP:=zBx (t.l.getD (zab t.l u[i]).toNat zbZ).msg ep;have hlen:((u.take i).filter (zfI t ep)).length<=12:=zXo (zXJ _ _) (by simp;omega)
  by_cases hk:(t.l.getD (zab t.l u[i]).toNat zbZ).msg.epoch<ep
  ·have e2:[u[i]].filter (zfI t ep)=[]:=by
      have:zfI t ep u[i]=false:=by unfold zfI zrV;rw[zWY hk];rfl
      rw[zX3,this];rfl
   rw[e2,zWZ] at i1;generalize (t.l.getD (zab t.l u[i]).toNat zbZ)=x at *;simp only[hk,decide_true,zan,zaE,zk] at hF hP;simp only[zNr,zp] at i1;clear e e2 hfi hf;exact zS
  ·have e2:[u[i]].filter (zfI t ep)=[u[i]]:=by
      have:zfI t ep u[i]=true:=by unfold zfI zrV;rw[zW0 hk];rfl
      rw[zX3,this];rfl
   rw[e2] at i1;generalize (t.l.getD (zab t.l u[i]).toNat zbZ)=x at *;simp only[hk,decide_false,zan,zaE,zk] at hF hP;simp only[zt] at i1;simp only[zNr,zp] at i1;clear e e2 hfi hf;exact zS
 ·have:i=u.length:=by omega
  subst this;clear ih;rw[zYq];exact zS
theorem zRe(t:Table)(now ep:Int)(hL:t.l.length<=4294967296)(hH:t.heap.length<=4294967296):zh G 286 [.d (zan t),.d (.int .i64 now),.d (.int .i64 ep)] []=some (.d (.sl (zt (zd2 t now ep))),[]):=by
 have hv:=zkH t hL hH;rw[zk4] at hv;have hu:=zRT t.heap now hH;unfold zd2
 by_cases h1:zah t=0
 ·have hl:=zSo t ep now (zdd t.heap now) (zCP h1 now) h1 (fun id hm=>zVZ h1 hm) hL hH 0 zo;simp only[rlS,zXv,zYv,zt,zWA,zWK] at hl;rw[zWz h1];simp only[zan] at hv hl ⊢;rw[h1] at hv;simp only[zNr,zp] at hl;exact zW
 ·rw[zWy h1];simp only[zan] at hv ⊢;exact zW
structure DF where
 i:Nat
 j:Nat
 R:List Int
def zcJ(r:zR)(m:Message):Int:=if zaI r≠0 then zaI r else if zak m≠0 then zak m else if r.size=r.cells.length then 3 else if 0<=zaF (zu r) m.id then 10 else 0
theorem zoM(r:zR)(m:Message)(hL:r.cells.length<=4294967296):zh G 300 [.d (z6 r),.d (zk m)] []=some (.d (.int .i64 (zcJ r m)),[]):=by
 have hv:=zkG r hL;have hm:=zih m;unfold zcJ
 by_cases e1:zaI r=0
 ·rw[e1] at hv;obtain⟨c,h,z,rfl,h1,h2,h3,h4⟩:=zmz (zcV e1);have hl:=zjj c h z h2 h3 h4;have hi:=ziZ (zaM c h z) m.id (by rw[zjh];omega);simp only[e1,ne_eq,zWR,if_false];rw[zie];clear e1;generalize zaF (zaM c h z) m.id=q at *;generalize zaM c h z=w at *
  by_cases e2:zak m=0
  ·rw[e2] at hm;simp only[e2,ne_eq,zWR,if_false];simp only[z6,zk] at hv hm hl hi ⊢
   by_cases e3:(z:Int)=c.length
   ·rw[zWz e3];obtain rfl:z=c.length:=by omega
    clear e3;exact zW
   ·simp only[e3,if_false]
    by_cases e4:0<=q
    ·simp only[e4,if_true];have zk0:=zk.eq_1;exact zW
    ·simp only[e4,if_false];have zk0:=zk.eq_1;exact zW
  ·simp only[e2,ne_eq,zXd,if_true];generalize zak m=v at *;simp only[z6,zk] at hv hm ⊢;exact zW
 ·simp only[e1,ne_eq,zXd,if_true];generalize zaI r=v at *;simp only[z6,zk] at hv ⊢;exact zW
theorem zO4(k:Nat)(h1:1<=k)(h2:k<=12):zh G 76 [.d (.int .i64 k)] []=some (.d (.tup [z6 ⟨List.replicate k z9,0,0⟩,.int .i64 0]),[]):=by
 have e:List.replicate k (Go.Sim.AV.d (zk z9))=(List.replicate k (zk z9)).map Go.Sim.AV.d:=by rw[zYI]
 simp only[z6,zYI];simp only[zk,z9] at e ⊢;rw[zO zMq (by simp)];simp -implicitDefEqProofs (maxSteps:=4000000) (disch:=omega) only[zpQ,zXw,Nat.min_self,List.take_replicate,zq,go_sem, *]
def wN(n h:Nat)(l:List Message)(i:Nat):List Message:=(List.range i).foldl (fun cs j=>cs.set ((h+j) % n) (l.getD j z9)) (List.replicate n z9)
theorem ztn(n h:Nat)(l:List Message)(i:Nat):wN n h l (i+1)=(wN n h l i).set ((h+i) % n) (l.getD i z9):=by
 unfold wN;rw[zZN,zZi];rfl
theorem zcA(n h:Nat)(l:List Message)(i:Nat):(wN n h l i).length=n:=by
 induction i with
 | zero=>simp [wN]
 | succ i ih=>rw[ztn,zW8,ih]
def wiS(n h:Nat)(l:List Message)(i:Nat):St:=⟨[(1,.d (.int .i64 h)),(2,.d (.sl (l.map zk))),(6,.ref 6 0 0),(7,.ref 7 0 0),(8,.d (.int .i64 i))],[(6,.row [.agg [.xsl [],.d (.int .i64 0),.d (.int .i64 0)]]),(7,.row [.agg [.osl 12 0 n,.d (.int .i64 h),.d (.int .i64 l.length)]]),(12,.row (((wN n h l i).map zk).map .d))]⟩
theorem zV4(n h:Nat)(l:List Message)(h1:1<=n)(h2:n<=12)(h3:h<=12)(h4:l.length<=n):∀i,i<=l.length->zN G [] zn2 (wiS n h l i)=some (.exit 0,⟨[(6,.ref 6 0 0),(7,.ref 7 0 0)],[(6,.row [.agg [.xsl [],.d (.int .i64 0),.d (.int .i64 0)]]),(7,.row [.agg [.osl 12 0 n,.d (.int .i64 h),.d (.int .i64 l.length)]]),(12,.row (((wN n h l l.length).map zk).map .d))]⟩):=by
 refine zaB (fun i=>l.length - i) (fun i=>i<=l.length) (wiS n h l) _ fun i hi L ih=> ?_
 by_cases h0:i<l.length
 ·have i1:=ih (i+1) zo zo;clear ih;have e:((h:Int)+i).tmod n=(((h+i) % n:Nat):Int):=by rw[<- zXO, <- zZm]
  have hj:(h+i) % n<n:=zXN _ zo;have hl:=zcA n h l i;generalize wN n h l l.length=z at *;rw[wiS,ztn,zq h0] at i1;generalize (h+i) % n=j at *;rw[zXy] at i1;simp only[wiS,zn2];generalize wN n h l i=w at *;simp only[zNr,zp] at i1;exact zS
 ·clear ih;have:i=l.length:=by omega
  subst this;simp only[wiS,zn2];exact zS
theorem zpo(c:List Message)(h0 z h:Nat)(l:List Message)(h1:1<=c.length)(h2:c.length<=12)(h3:h<=12)(h4:l.length<=c.length):zh G 301 [.d (.agg [.sl (c.map zk),.int .i64 h0,.int .i64 z]),.d (.int .i64 h),.d (.sl (l.map zk))] []=some (.d (z6 ⟨wN c.length h l l.length,h,l.length⟩),[]):=by
 have hl:=zV4 c.length h l h1 h2 h3 h4 0 zo;have hn:=zcA c.length h l l.length;simp only[z6];generalize wN c.length h l l.length=w at *;have ez:(List.replicate c.length z9).map zk=List.replicate c.length (zk z9):=zYI;have e:List.replicate c.length (Go.Sim.AV.d (zk z9))=(List.replicate c.length (zk z9)).map Go.Sim.AV.d:=by rw[zYI]
 simp only[wiS,wN,List.range_zero,zZK,ez,zWV] at hl;clear ez;simp only[show zk z9= .agg [.int .i64 0,.int .i64 0,.int .i64 0,.int .i64 0,.int .i64 0,.int .i64 0,.str []] from rfl] at hl e;have zk0:=zk.eq_1;exact zW
theorem zjl{r:zR}{m:Message}(h:zcJ r m=0):zaI r=0/\zak m=0/\r.size≠r.cells.length/\zaF (zu r) m.id<0:=by
 unfold zcJ at h
 by_cases e1:zaI r=0
 ·rw[zWy (fun hc=>hc e1)] at h
  by_cases e2:zak m=0
  ·rw[zWy (fun hc=>hc e2)] at h
   by_cases e3:r.size=r.cells.length
   ·rw[zWz e3] at h;exact absurd h (by decide)
   ·rw[zWy e3] at h
    by_cases e4:0<=zaF (zu r) m.id
    ·rw[zWz e4] at h;exact absurd h (by decide)
    ·exact⟨e1,e2,e3,by omega⟩
  ·rw[zWz e2] at h;exact absurd h e2
 ·rw[zWz e1] at h;exact absurd h e1
theorem zQW(c:List Message)(h z:Nat)(m:Message)(hp:zcJ ⟨c,h,z⟩ m=0):zh G 272 [.d (z6 ⟨c,h,z⟩),.d (zk m)] []=some (.d (.tup [z6 ⟨wN c.length h (zaM c h z++[m]) (z+1),h,(z+1:Nat)⟩,.int .i64 0]),[]):=by
 obtain⟨p1,p2,p3,p4⟩:=zjl hp;obtain⟨a1,a2,a3,a4,a5,a6⟩:=zcV p1;simp only at a1 a2 a3 a4 a5 a6 p3;have hpu:=zoM ⟨c,h,z⟩ m (by simp only;omega);have hl:=zjj c h z a2 zo zo;have hn:=zjh c h z;have hw:=zpo c h z h (zaM c h z++[m]) a1 a2 zo (by rw[zWJ,hn];simp;omega);rw[hp] at hpu;rw[zWJ,hn,zW6,zWQ] at hw;rw[hn] at hl;clear p1 p2 p4 hp;generalize wN c.length h (zaM c h z++[m]) (z+1)=q at *;generalize zaM c h z=w at *;simp only[z6,zk,zWD,zWA] at hpu hw hl ⊢;exact zW
theorem zQX(c:List Message)(h z:Nat)(m:Message)(hp:zcJ ⟨c,h,z⟩ m=0):zh G 277 [.d (z6 ⟨c,h,z⟩),.d (zk m)] []=some (.d (.tup [z6 ⟨wN c.length ((h+c.length - 1) % c.length) (m::zaM c h z) (z+1),((h+c.length - 1) % c.length:Nat),(z+1:Nat)⟩,.int .i64 0]),[]):=by
 obtain⟨p1,p2,p3,p4⟩:=zjl hp;obtain⟨a1,a2,a3,a4,a5,a6⟩:=zcV p1;simp only at a1 a2 a3 a4 a5 a6 p3;have hpu:=zoM ⟨c,h,z⟩ m (by simp only;omega);have hl:=zjj c h z a2 zo zo;have hn:=zjh c h z;have hj:(h+c.length - 1) % c.length<c.length:=zXN _ zo;have e:((h:Int)+c.length - 1).tmod c.length=(((h+c.length - 1) % c.length:Nat):Int):=by
  rw[show (h:Int)+c.length - 1=((h+c.length - 1:Nat):Int) by omega, <- zZm]
 have hw:=zpo c h z ((h+c.length - 1) % c.length) (m::zaM c h z) a1 a2 zo (by rw[zWI,hn];omega);rw[hp] at hpu;rw[zWI,hn,zWD] at hw;rw[hn] at hl;clear p1 p2 p4 hp;generalize (h+c.length - 1) % c.length=j at *;generalize wN c.length j (m::zaM c h z) (z+1)=q at *;generalize zaM c h z=w at *
 by_cases h0:w=[]
 ·subst h0;simp only[z6,zk,zWA] at hpu hw hl ⊢;exact zW
 ·have he:(w.map zk).isEmpty=false:=by cases w with|nil=>exact absurd rfl h0|cons x w=>rfl
  simp only[z6,zk] at hpu hw hl he ⊢;exact zW
theorem zhh{α:Type}(l:List α)(i j:Nat)(x d:α)(hi:i<l.length):(l.set i x).getD j d=if i=j then x else l.getD j d:=by
 rw[zWG,zWG,zYF]
 split
 ·rename_i e;subst e;simp
 ·rfl
theorem zOU{n h i j:Nat}(hi:i<n)(hj:j<n)(e:(h+i) % n=(h+j) % n):i=j:=by
 have h1:=zXN h (show 0<n by omega);rw[Nat.add_mod h i,Nat.add_mod h j,zXU hi,zXU hj] at e;generalize h % n=a at *
 by_cases c1:a+i<n
 ·rw[zXU c1] at e
  by_cases c2:a+j<n
  ·rw[zXU c2] at e;omega
  ·rw[show a+j=(a+j - n)+n by omega,zZq,zXU zo] at e;omega
 ·rw[show a+i=(a+i - n)+n by omega,zZq,zXU zo] at e
  by_cases c2:a+j<n
  ·rw[zXU c2] at e;omega
  ·rw[show a+j=(a+j - n)+n by omega,zZq,zXU zo] at e;omega
theorem ztm{n h:Nat}{l:List Message}(hn:1<=n):∀ {i:Nat},i<=n->∀ {j:Nat},j<n->(wN n h l i).getD ((h+j) % n) z9=if j<i then l.getD j z9 else z9:=by
 intro i
 induction i with
 | zero=>
  intro _ j hj;rw[zWy zo];have:(h+j) % n<n:=zXN _ zo;simp [wN,zWG,zY5,this]
 | succ i ih=>
  intro hi j hj;have hm:(h+i) % n<n:=zXN _ zo;rw[ztn,zhh _ _ _ _ _ (by rw[zcA];exact hm),ih zo hj]
  by_cases e:(h+i) % n=(h+j) % n
  ·obtain rfl:=zOU zo hj e;rw[zWz rfl,zWz zo]
  ·rw[zWy e]
   by_cases c:j<i
   ·rw[zWz c,zWz zo]
   ·rw[zWy c,zWy];intro h2;obtain rfl:j=i:=by omega
    exact e rfl
def rg(n h:Nat)(l:List Message):zR:=⟨wN n h l l.length,h,l.length⟩
theorem zji{n h:Nat}{l:List Message}(hn:1<=n)(hl:l.length<=n):zaM (wN n h l l.length) h l.length=l:=by
 unfold zaM;rw[zcA];refine zY1 (by simp) fun j h1 h2=> ?_;simp only[zY4,List.getElem_range];rw[ztm hn hl zo,zWz h2,zq h2]
theorem zIr{l:List Message}(h:∀m∈l,zak m=0):zch l=0:=by
 induction l with
 | nil=>rfl
 | cons m l ih=>
  unfold zch;rw[zWy (by simpa using h m (by simp))];exact ih fun x hx=>h x (by simp [hx])
theorem zsx{n h:Nat}{l:List Message}(hn:1<=n)(hn2:n<=12)(hh:h<n)(hl:l.length<=n)(hm:∀m∈l,zak m=0)(hd:(l.map (·.id)).Nodup):zaI (rg n h l)=0:=by
 have ho:zu (rg n h l)=l:=by rw[rg,zie,zji hn hl]
 unfold zaI;rw[ho];have hlen:(rg n h l).cells.length=n:=zcA _ _ _ _;rw[zWy (by rw[zWO];exact⟨by rw[hlen];omega,by rw[hlen];omega,by simp [rg],by rw[hlen];simp [rg];omega,by simp [rg],by rw[hlen];simp [rg];omega⟩)];rw[zWy,zWy (by rw[zIr hm];simp),zWy (by unfold zei;simpa using hd)];unfold zdM;rw[hlen];rw[zXG];rintro⟨j,h1,h2⟩;rw[zYH] at h1;have hz:(rg n h l).size.toNat=l.length:=by simp [rg]
 have e:=ztm (h:=h) (l:=l) hn hl (show j<n by omega);rw[zWy zo] at e;exact of_decide_eq_true h2 e
theorem zsh{n h:Nat}{l:List Message}{m:Message}(hn:1<=n)(hn2:n<=12)(hh:h<n)(hl:l.length<n)(hm:∀m∈l,zak m=0)(hd:(l.map (·.id)).Nodup)(hv:zak m=0)(hi:∀x∈l,x.id≠m.id):zcJ (rg n h l) m=0:=by
 unfold zcJ;rw[zWy (by rw[zsx hn hn2 hh zo hm hd];simp),zWy (by rw[hv];simp),zWy (by simp [rg,zcA];omega),zWy];rw[rg,zie,zji hn zo];have:zaF l m.id<0:=by
  unfold zaF;rw[znQ];intro x hx;simpa using hi x hx
 omega
theorem zQl{n h:Nat}{l:List Message}{m:Message}(hn:1<=n)(hn2:n<=12)(hh:h<n)(hl:l.length<n)(hm:∀m∈l,zak m=0)(hd:(l.map (·.id)).Nodup)(hv:zak m=0)(hi:∀x∈l,x.id≠m.id):zh G 272 [.d (z6 (rg n h l)),.d (zk m)] []=some (.d (.tup [z6 (rg n h (l++[m])),.int .i64 0]),[]):=by
 have hp:=zsh hn hn2 hh hl hm hd hv hi;have:=zQW (wN n h l l.length) h l.length m hp;rw[zji hn zo,zcA] at this;rw[show rg n h l=⟨wN n h l l.length,h,l.length⟩ from rfl,this];unfold rg;rw[zWJ,zW6]
theorem zQt{n h:Nat}{l:List Message}{m:Message}(hn:1<=n)(hn2:n<=12)(hh:h<n)(hl:l.length<n)(hm:∀m∈l,zak m=0)(hd:(l.map (·.id)).Nodup)(hv:zak m=0)(hi:∀x∈l,x.id≠m.id):zh G 277 [.d (z6 (rg n h l)),.d (zk m)] []=some (.d (.tup [z6 (rg n ((h+n - 1) % n) (m::l)),.int .i64 0]),[]):=by
 have hp:=zsh hn hn2 hh hl hm hd hv hi;have:=zQX (wN n h l l.length) h l.length m hp;rw[zji hn zo,zcA] at this;rw[show rg n h l=⟨wN n h l l.length,h,l.length⟩ from rfl,this];rfl
theorem zSr{n h p:Nat}(hn:1<=n)(hp:p<n):∃j,j<n/\(h+j) % n=p:=by
 have hh:h % n<n:=zXN _ zo
 by_cases c:h % n<=p
 ·refine⟨p - h % n,by omega,?_⟩;rw[<- Nat.mod_add_mod,show h % n+(p - h % n)=p by omega,zXU hp]
 ·refine⟨p+n - h % n,by omega,?_⟩;rw[<- Nat.mod_add_mod,show h % n+(p+n - h % n)=p+n by omega,zZq,zXU hp]
theorem zFl{n h:Nat}{a b:List Message}(hn:1<=n)(ha:a.length=n)(hb:b.length=n)(H:∀j,j<n->a.getD ((h+j) % n) z9=b.getD ((h+j) % n) z9):a=b:=by
 refine zY1 zo fun p h1 h2=> ?_;obtain⟨j,hj,e⟩:=zSr (h:=h) hn (show p<n by omega);have:=H j hj;rw[e] at this;simpa [zWG,h1,h2] using this
theorem zOV{n i:Nat}(hn:1<=n):i % n<n:=zXN _ zo
theorem zzD{l:List Message}{j:Nat}(h:j<l.length):l[j]=l.getD j z9:=by
 rw[zWG,zWF h];rfl
theorem zIq:∀ {l:List Message},zch l=0->∀m∈l,zak m=0:=by
 intro l
 induction l with
 | nil=>intro _ m hm;cases hm
 | cons x l ih=>
  intro h m hm;unfold zch at h
  split at h
  ·rename_i q;exact absurd h q
  ·rename_i q
   cases hm with
   | head=>simpa using q
   | tail _ hm=>exact ih h m hm
theorem zhz{r:zR}(hr:zaI r=0):∃n h:Nat,r=rg n h (zu r)/\1<=n/\n<=12/\h<n/\(zu r).length<=n/\(∀m∈zu r,zak m=0)/\((zu r).map (·.id)).Nodup:=by
 have hok:=zcV hr;obtain⟨c,h,z,rfl,h1,h2,h3,h4⟩:=zmz hok;rw[zBU hok] at hr;have ho:zu ⟨c,h,z⟩=zaM c h z:=zie c h z;rw[ho];have hl:(zaM c h z).length=z:=zjh c h z
 split at hr
 ·cases hr
 rename_i hrest
 split at hr
 ·rename_i q;exact absurd hr q
 rename_i hfirst
 split at hr
 ·cases hr
 rename_i hdup;refine⟨c.length,h,?_,h1,h2,h3,by omega,?_,?_⟩
 ·unfold rg;rw[hl]
  congr 1
  refine zFl (n:=c.length) (h:=h) h1 rfl (zcA _ _ _ _) fun j hj=> ?_;rw[ztm h1 h4 hj]
  by_cases cj:j<z
  ·rw[zWz cj];simp [zaM,zWG,cj]
  ·rw[zWy cj];have hr2:zdM ⟨c,h,z⟩ z c.length=false:=by simpa using hrest
   unfold zdM at hr2;rw[zXX] at hr2;have:=hr2 j (zYH.2 ⟨by omega,by omega⟩);simpa using this
 ·have hf:zch (zaM c h z)=0:=by simpa using hfirst
  generalize zaM c h z=w at *;clear hl ho hdup hrest;intro m hm;have:=zIq hf m hm;exact this
 ·have:zei ((zaM c h z).map (·.id))=false:=by simpa using hdup
  unfold zei at this;simpa using this
def pbD(r:zR)(m:Message):zR×Int:=if zcJ r m=0 then (rg r.cells.length r.head.toNat (zu r++[m]),0) else (zar,zcJ r m)
def rmE(r:zR)(id:Int):Int:=if zaI r≠0 then zaI r else if zaF (zu r) id<0 then 4 else 0
def rmD(r:zR)(id:Int):zR×Message×Int:=if rmE r id=0 then (rg r.cells.length r.head.toNat ((zu r).eraseIdx (zaF (zu r) id).toNat),(zu r).getD (zaF (zu r) id).toNat z9,0) else (zar,z9,rmE r id)
theorem zqy{l:List Message}{id:Int}(h:0<=zaF l id):(zaF l id).toNat<l.length:=by
 unfold zaF zb1 at h ⊢
 cases hc:l.findIdx? (fun m:Message=>decide (m.id=id)) with
 | none=>rw[hc] at h;simp at h
 | some i=>
  obtain⟨hi,_⟩:=zXP.1 hc;simpa using hi
def pfD(r:zR)(m:Message):zR×Int:=if zcJ r m=0 then (rg r.cells.length ((r.head.toNat+r.cells.length - 1) % r.cells.length) (m::zu r),0) else (zar,zcJ r m)
def usE(s:Shard)(b:Bool):Int:=if zaa s≠0 then zaa s else if b=true then 0 else 1
structure RO where
 h:Nat
 L:List Message
 id:Int
 a:Nat
 i:Nat
theorem zjz{t:Table}(h:zah t=0):t.l.length<=12/\t.heap.length<=12:=by
 obtain⟨q1,q2,q3,q4⟩:=(zd9 t).1 h;exact⟨q1,q3.len⟩
structure TB where
 t:Table
 id:Int
 a:Nat
 i:Nat
 b:Bool
def epQ(n:Int):Bool:=decide (0<=n/\n<=65536)
def liQ(n:Int):Bool:=decide (1<=n/\n<=8)
def tiQ(n:Int):Bool:=decide (0<=n/\n<=1073741824)
def viQ(n:Int):Bool:=decide (0<=n/\n<=1000)
def zaC(s:Shard)(id:Int):Shard×Message×Int:=if (z8 s.leases id).2.2=0 then ({ s with leases:=(z8 s.leases id).1 },(z8 s.leases id).2.1,0) else (zw,z9,(z8 s.leases id).2.2)
def zc5(s:Shard)(h:zaW)(now ep:Int):Bool:=(zel s.leases h.id).2&&(decide ((zel s.leases h.id).1.msg.gen=h.gen)&&(decide ((zel s.leases h.id).1.msg.route=h.route)&&(!decide ((zel s.leases h.id).1.msg.epoch<ep)&&decide (now<(zel s.leases h.id).1.deadline))))
def zcY(s:Shard)(h:zaW)(now ep:Int):Shard×Int:=if usE s (tiQ now&&epQ ep)≠0 then (zw,usE s (tiQ now&&epQ ep)) else if zc5 s h now ep=true then ((zaC s h.id).1,(zaC s h.id).2.2) else (zw,5)
theorem zti{s:Shard}{b:Bool}(h:usE s b=0):1<=s.ready.cells.length/\s.ready.cells.length<=12/\s.leases.l.length<=12/\s.leases.heap.length<=12:=by
 have hl:zaa s=0:=by
  unfold usE at h
  split at h
  ·rename_i q;exact absurd h q
  ·rename_i q;exact zWO.1 q
 have hv:zV s=0:=by
  unfold zaa at hl
  split at hl
  ·rename_i q;exact absurd hl q
  ·rename_i q;exact zWO.1 q
 unfold zV at hv
 split at hv
 ·rename_i q;exact absurd hv q
 ·rename_i q1
  split at hv
  ·rename_i q;exact absurd hv q
  ·rename_i q2;obtain⟨a1,a2,_⟩:=zcV (zWO.1 q1);obtain⟨b1,b2⟩:=zjz (zWO.1 q2);exact⟨a1,a2,b1,b2⟩
def zdV(s:Shard)(m:Message)(lim:Int):zR×Int:=if lim<=m.count then pbD s.ready m else pfD s.ready m
def zcS(s:Shard)(h:zaW)(now ep lim:Int):Shard×Int:=
 if usE s (tiQ now&&(epQ ep&&liQ lim))≠0 then (zw,usE s (tiQ now&&(epQ ep&&liQ lim)))
 else if zc5 s h now ep=true then (if (zaC s h.id).2.2≠0 then (zw,(zaC s h.id).2.2)
  else if (zdV (zaC s h.id).1 (zaC s h.id).2.1 lim).2≠0 then (zw,(zdV (zaC s h.id).1 (zaC s h.id).2.1 lim).2)
  else ({ (zaC s h.id).1 with ready:=(zdV (zaC s h.id).1 (zaC s h.id).2.1 lim).1 },0)) else (zw,5)
theorem zpn{s:Shard}{b:Bool}(h:usE s b=0):b=true:=by
 unfold usE at h
 split at h
 ·rename_i q;exact absurd h q
 ·split at h
  ·assumption
  ·cases h
def zeM(s:Shard)(h:zaW)(now ep vis:Int):Shard×Int:=
 if usE s (tiQ now&&(epQ ep&&viQ vis))≠0 then (zw,usE s (tiQ now&&(epQ ep&&viQ vis)))
 else if zc5 s h now ep=true then (if 1073741824<now+vis then (zw,6) else if (zbe s.leases h.id (now+vis)).2≠0 then (zw,(zbe s.leases h.id (now+vis)).2)
  else ({ s with leases:=(zbe s.leases h.id (now+vis)).1 },0)) else (zw,5)
def zdY(m:Message):Message×Int:=if zak m≠0 then (z9,zak m) else if m.gen=65536 then (z9,6) else if m.count=8 then (z9,7) else ({ m with count:=m.count+1,gen:=m.gen+1 },0)
def zgs(ep lim:Int)(m:Message):Bool:= !decide (m.epoch<ep)&&(!decide (lim<=m.count)&&decide (m.gen<65536))
def zfh(s:Shard)(m:Message)(d:Int):Shard×zx×Int:=
 if (rmD s.ready m.id).2.2≠0 then (s,zbZ,(rmD s.ready m.id).2.2)
 else if (zdY (rmD s.ready m.id).2.1).2≠0 then (s,zbZ,(zdY (rmD s.ready m.id).2.1).2)
 else if (zaG s.leases (zdY (rmD s.ready m.id).2.1).1 d).2≠0 then (s,zbZ,(zaG s.leases (zdY (rmD s.ready m.id).2.1).1 d).2)
 else ({ s with ready:=(rmD s.ready m.id).1,leases:=(zaG s.leases (zdY (rmD s.ready m.id).2.1).1 d).1 },⟨(zdY (rmD s.ready m.id).2.1).1,d⟩,0)
def tkF(mx d ep lim:Int):List Message->Shard->List zx->Shard×List zx×Int
 | [],s,out=>(s,out,0)
 | m::l,s,out=>if (out.length:Int)=mx\/zgs ep lim m=false then tkF mx d ep lim l s out else if (zfh s m d).2.2≠0 then (zw,[],(zfh s m d).2.2) else tkF mx d ep lim l (zfh s m d).1 (out++[(zfh s m d).2.1])
theorem zMK(t:Table)(m:Message)(d:Int):(zaG t m d).1.l.length<=12/\(zaG t m d).1.heap.length<=12:=by
 by_cases h:(zaG t m d).2=0
 ·exact zjz (zzG h).1
 ·have:zaG t m d=(zac,zeU t m d):=by
     unfold zaG at h ⊢
     split at h
     ·exact absurd rfl h
     ·rename_i hc;rw[zWy hc]
  rw[this];simp [zac]
structure TK where
 s:Shard
 out:List zx
 i:Nat
def shZ:Go.Sim.AV:= .agg [.d (.bool false),.d (.int .i64 0),.d (.int .i64 0),.xsl [],.d (.int .i64 0),.d (.int .i64 0),.xsl [],.xsl []]
def zk5(s:Shard)(mx now vis ep lim:Int):Int:=usE s (epQ ep&&(liQ lim&&(tiQ now&&(viQ vis&&decide (1<=mx/\mx<=6)))))
def zcN(s:Shard)(mx now vis ep lim:Int):Shard×List zx×Int:=if zk5 s mx now vis ep lim≠0 then (zw,[],zk5 s mx now vis ep lim) else if 1073741824<now+vis then (zw,[],6) else tkF mx (now+vis) ep lim (zu s.ready) s []
theorem ztj{s:Shard}{b:Bool}(h:usE s b=0):zaI s.ready=0:=by
 have hl:zaa s=0:=by
  unfold usE at h
  split at h
  ·rename_i q;exact absurd h q
  ·rename_i q;exact zWO.1 q
 have hv:zV s=0:=by
  unfold zaa at hl
  split at hl
  ·rename_i q;exact absurd hl q
  ·rename_i q;exact zWO.1 q
 unfold zV at hv
 split at hv
 ·rename_i q;exact absurd hv q
 ·rename_i q1;exact zWO.1 q1
theorem zVx(mx d ep lim:Int):∀(l:List Message) (s:Shard) (out:List zx),(tkF mx d ep lim l s out).2.2≠0->(tkF mx d ep lim l s out).1=zw/\(tkF mx d ep lim l s out).2.1=[]:=by
 intro l
 induction l with
 | nil=>intro s out h;exact absurd rfl h
 | cons m l ih=>
  intro s out h;rw[tkF] at h ⊢
  split at h
  ·rename_i q;rw[zWz q];exact ih _ _ h
  ·rename_i q;rw[zWy q]
   split at h
   ·rename_i q2;rw[zWz q2];exact⟨rfl,rfl⟩
   ·rename_i q2;rw[zWy q2];exact ih _ _ h
def zcF:List Int->Shard->Shard×Int
 | [],s=>(s,0)
 | id::l,s=>if (zaC s id).2.2≠0 then (zw,(zaC s id).2.2) else if (pbD (zaC s id).1.ready (zaC s id).2.1).2≠0 then (zw,(pbD (zaC s id).1.ready (zaC s id).2.1).2) else zcF l { (zaC s id).1 with ready:=(pbD (zaC s id).1.ready (zaC s id).2.1).1 }
def zcE(s:Shard)(now ep lim:Int):Shard×List Int×Int:=
 if usE s (tiQ now&&(epQ ep&&liQ lim))≠0 then (zw,[],usE s (tiQ now&&(epQ ep&&liQ lim)))
 else if (zcF (zd2 s.leases now ep) s).2=0 then ((zcF (zd2 s.leases now ep) s).1,zd2 s.leases now ep,0) else (zw,[],(zcF (zd2 s.leases now ep) s).2)
theorem zAp(t:Table)(now ep:Int):(zd2 t now ep).length<=12:=by
 unfold zd2
 split
 ·rename_i h;exact zXo (zXJ _ _) (zCP h now)
 ·simp
def zbl(s:Shard):Int:=if zV s=0 then s.ready.size+s.leases.l.length else 0
def VS(n h:Nat)(L:List Message)(t:Table)(lo hi:Int):Prop:=1<=n/\n<=12/\h<n/\L.length+t.l.length<=n/\0<=lo/\lo<=hi/\hi<65536/\(∀m∈L,zak m=0/\lo<=m.route/\m.route<=hi)/\zah t=0/\(∀y∈t.l,lo<=y.msg.route/\y.msg.route<=hi)/\(L.map (·.id)++t.l.map (fun y=>y.msg.id)).Nodup
def mkS(n h:Nat)(L:List Message)(t:Table)(lo hi:Int):Shard:=⟨true,lo,hi,rg n h L,t⟩
theorem VS.ring{n h:Nat}{L:List Message}{t:Table}{lo hi:Int}(v:VS n h L t lo hi):zaI (rg n h L)=0:=by
 obtain⟨a1,a2,a3,a4,_,_,_,b,_,_,c⟩:=v;exact zsx a1 a2 a3 zo (fun m hm=>(b m hm).1) (zYx.1 c).1
theorem VS.ord{n h:Nat}{L:List Message}{t:Table}{lo hi:Int}(v:VS n h L t lo hi):zu (rg n h L)=L:=by
 obtain⟨a1,a2,a3,a4,_⟩:=v;rw[rg,zie];exact zji a1 zo
theorem VS.val{n h:Nat}{L:List Message}{t:Table}{lo hi:Int}(v:VS n h L t lo hi):zV (mkS n h L t lo hi)=0:=by
 have hr:zaI (mkS n h L t lo hi).ready=0:=v.ring;have hm:zaO (mkS n h L t lo hi)=L++t.l.map (·.msg):=by unfold zaO mkS;rw[v.ord]
 obtain⟨a1,a2,a3,a4,a5,a6,a7,b1,b2,b3,c⟩:=v;rw[zmH hr b2,hm];rw[zWy (by simp [mkS]),zWy (by simp only[mkS];omega),zWy,zWy,zWy]
 ·unfold zei;simp only[decide_eq_true_eq,zWO,zWQ,zYb];exact c
 ·unfold zgS;simp only[zYs,zXX,decide_eq_true_eq,zWO,zW3,zWP];rintro m (hx|⟨y,hy,rfl⟩)
  ·exact (b1 m hx).2
  ·exact b3 y hy
 ·simp only[mkS,rg,zcA];omega
theorem zfZ{s:Shard}(hv:zV s=0)(hl:s.live=true):∃n h:Nat,s=mkS n h (zu s.ready) s.leases s.low s.high/\VS n h (zu s.ready) s.leases s.low s.high:=by
 have h1:zaI s.ready=0:=by
  have q:=hv;unfold zV at q
  split at q
  ·rename_i c;exact absurd q c
  ·rename_i c;exact zWO.1 c
 have h2:zah s.leases=0:=by
  have q:=hv;unfold zV at q;rw[zWy (fun c=>c h1)] at q
  split at q
  ·rename_i c;exact absurd q c
  ·rename_i c;exact zWO.1 c
 rw[zmH h1 h2,zWy (by rw[hl];simp)] at hv
 split at hv
 ·cases hv
 rename_i c1
 split at hv
 ·cases hv
 rename_i c2
 split at hv
 ·cases hv
 rename_i c3
 split at hv
 ·cases hv
 rename_i c4;obtain⟨n,h,hrg,d1,d2,d3,d4,d5,d6⟩:=zhz h1;have hc:s.ready.cells.length=n:=by rw[hrg];exact zcA _ _ _ _
 have hz:s.ready.size=((zu s.ready).length:Int):=by rw[zgT];have:=congrArg zR.size hrg;simp only[rg] at this;omega
 have c1:=zWO.1 c1;refine⟨n,h,?_,d1,d2,d3,by omega,c1.1,c1.2.1,c1.2.2,?_,h2,?_,?_⟩
 ·obtain⟨lv,lo,hi,r,t⟩:=s;simp only at hl hrg;subst hl;show _=Shard.mk true lo hi _ t
  congr 1
 ·intro m hm;refine⟨d5 m hm,?_⟩;unfold zgS at c3;simp only[zYs,zXX,decide_eq_true_eq,zWO,zaO,zW3,zWP] at c3;exact c3 m (.inl hm)
 ·intro y hy;unfold zgS at c3;simp only[zYs,zXX,decide_eq_true_eq,zWO,zaO,zW3,zWP] at c3;exact c3 y.msg (.inr ⟨y,hy,rfl⟩)
 ·unfold zei zaO at c4;simp only[decide_eq_true_eq,zWO,zWQ,zYb] at c4;exact c4
theorem zfU(n h:Nat)(L:List Message):(rg n h L).cells.length=n:=zcA _ _ _ _
theorem zqz{l:List Message}{id:Int}(h:∃m∈l,m.id=id):0<=zaF l id:=by
 unfold zaF zb1
 cases hc:l.findIdx? (fun m:Message=>decide (m.id=id)) with
 | some i=>simp
 | none=>
  obtain⟨m,hm,e⟩:=h;have:=(zYR.1 hc) m hm;simp [e] at this
theorem zMi{l:List Message}{id:Int}(h:0<=zaF l id):(l.getD (zaF l id).toNat z9).id=id:=by
 unfold zaF zb1 at h ⊢
 cases hc:l.findIdx? (fun m:Message=>decide (m.id=id)) with
 | none=>rw[hc] at h;simp at h
 | some i=>
  obtain⟨hi,hp,_⟩:=zXP.1 hc;simp only[zXb];rw[zWG,zWF hi];exact of_decide_eq_true hp
theorem zPm{l:List Message}(h:(l.map (·.id)).Nodup){a b:Message}(ha:a∈l)(hb:b∈l)(e:a.id=b.id):a=b:=by
 induction l with
 | nil=>cases ha
 | cons x l ih=>
  simp only[zWD,zXQ,zWP,not_exists,not_and] at h
  cases ha with
  | head=>
   cases hb with
   | head=>rfl
   | tail _ hb=>exact absurd e.symm (h.1 b hb)
  | tail _ ha=>
   cases hb with
   | head=>exact absurd e (h.1 a ha)
   | tail _ hb=>exact ih h.2 ha hb
theorem VS.rem{n h:Nat}{L:List Message}{t:Table}{lo hi:Int}(v:VS n h L t lo hi){m:Message}(hm:m∈L):∃k,∃hk:k<L.length,L[k]=m/\rmD (rg n h L) m.id=(rg n h (L.eraseIdx k),m,0):=by
 have h0:0<=zaF L m.id:=zqz ⟨m,hm,rfl⟩;have hk:=zqy h0;have hid:=zMi h0;have e:L.getD (zaF L m.id).toNat z9=m:=by
  refine zPm (zYx.1 v.2.2.2.2.2.2.2.2.2.2).1 ?_ hm hid;rw[zWG,zWF hk];exact zWH hk
 refine⟨_,hk,?_,?_⟩
 ·exact (zzD hk).trans e
 ·have hE:rmE (rg n h L) m.id=0:=by
     unfold rmE;rw[zWy (fun q=>q v.ring),v.ord,zWy zo]
  unfold rmD;rw[zWz hE,v.ord,zfU,e];rfl
theorem zxZ{m:Message}(h:zak m=0)(h1:m.gen<65536)(h2:m.count<8):zdY m=({ m with count:=m.count+1,gen:=m.gen+1 },0):=by
 unfold zdY;rw[zWy (fun q=>q h),zWy zo,zWy zo]
theorem zAU(m:Message):zak m=0↔(1<=m.id/\m.id<=1073741824/\0<=m.route/\m.route<=65535/\0<=m.epoch/\m.epoch<=65536/\0<=m.count/\m.count<=8/\m.count<=m.gen/\m.gen<=65536/\0<=m.sent/\m.sent<=1073741824)/\m.body.length<=16:=by
 unfold zak
 split
 ·rename_i c
  split
  ·rename_i c2;exact⟨(fun q=>by cases q),(fun q=>by omega)⟩
  ·rename_i c2;exact⟨fun _=>⟨c,by omega⟩,fun _=>rfl⟩
 ·rename_i c;exact⟨(fun q=>by cases q),(fun q=>absurd q.1 c)⟩
theorem znt{α:Type}(l:List α)(k:Nat)(hk:k<l.length):(l[k]::l.eraseIdx k).Perm l:=by
 rw[zZP];have e:l=l.take k++l[k]::l.drop (k+1):=by
  rw[<- zXf hk,zZQ]
 have:=(zYD (a:=l[k]) (l₁:=l.take k) (l₂:=l.drop (k+1))).symm;rw[<- e] at this;exact this
def upM(m:Message):Message:={ m with count:=m.count+1,gen:=m.gen+1 }
theorem zBC(ep lim:Int)(m:Message):zgs ep lim m=true↔ep<=m.epoch/\m.count<lim/\m.gen<65536:=by
 unfold zgs;simp only[zWS,zXt,decide_eq_false_iff_not,decide_eq_true_eq];omega
theorem VS.dlv{n h:Nat}{L:List Message}{t:Table}{lo hi:Int}(v:VS n h L t lo hi){m:Message}(hm:m∈L){ep lim d:Int}(hq:zgs ep lim m=true)(hlim:lim<=8)(hd0:0<=d)(hd1:d<=1073741824):
    ∃k,∃hk:k<L.length,L[k]=m/\zfh (mkS n h L t lo hi) m d=(mkS n h (L.eraseIdx k) (zaG t (upM m) d).1 lo hi,⟨upM m,d⟩,0)/\(zaG t (upM m) d).1.l=zeo t.l (upM m) d/\VS n h (L.eraseIdx k) (zaG t (upM m) d).1 lo hi:=by
 obtain⟨k,hk,ek,hr⟩:=v.rem hm;obtain⟨q1,q2,q3⟩:=(zBC ep lim m).1 hq;obtain⟨a1,a2,a3,a4,a5,a6,a7,b1,b2,b3,c⟩:=v;obtain⟨mv,mr1,mr2⟩:=b1 m hm;have hdel:=zxZ mv q3 zo;have mv2:=(zAU m).1 mv;have hu:zak (upM m)=0:=by
  rw[zAU];simp only[upM];omega
 have hnf:zab t.l (upM m).id<0:=by
  refine Classical.byContradiction fun hc=> ?_;obtain⟨x,hx,e⟩:=(zhW (l:=t.l) (upM m).id).1 zo;refine (zYx.1 c).2.2 m.id (zWP.2 ⟨m,hm,rfl⟩) x.msg.id (zWP.2 ⟨x,hx,rfl⟩) ?_;exact e.symm
 have hg:=zMJ b2 hu (by simp only[upM];omega) hd0 hd1 zo hnf;obtain⟨g1,_,g2,_⟩:=zzG hg;refine⟨k,hk,ek,?_,g2,a1,a2,a3,?_,a5,a6,a7,fun x hx=>b1 x (zZk hx),g1,?_,?_⟩
 ·unfold zfh;have r1:(rmD (mkS n h L t lo hi).ready m.id)=(rg n h (L.eraseIdx k),m,0):=hr;have d1:zdY m=(upM m,0):=hdel;have hg2:(zaG (mkS n h L t lo hi).leases (upM m) d).2=0:=hg;rw[r1];simp only[d1,hg2,ne_eq,zWR,if_false];rfl
 ·rw[g2,zZj,zWz hk,(zhj t.l (upM m) d).length_eq,zWI];omega
 ·intro y hy;rw[g2] at hy
  rcases zXe.1 ((zhj t.l (upM m) d).mem_iff.1 hy) with rfl|hy
  ·exact⟨mr1,mr2⟩
  ·exact b3 y hy
 ·rw[g2];have p1:((zeo t.l (upM m) d).map fun y=>y.msg.id).Perm (m.id::t.l.map fun y=>y.msg.id):=(zhj t.l (upM m) d).map _;have p2:(m.id::(L.eraseIdx k).map (·.id)).Perm (L.map (·.id)):=by
   have:=(znt L k hk).map (·.id);rw[ek] at this;exact this
  have p3:((L.eraseIdx k).map (·.id)++(zeo t.l (upM m) d).map fun y=>y.msg.id).Perm (L.map (·.id)++t.l.map fun y=>y.msg.id):=
   (p1.append_left _).trans (zYD.trans (p2.append_right _))
  exact p3.nodup_iff.2 c
def zeV(L:List Message)(t:Table):List Int:=L.map (·.id)++t.l.map (fun y=>y.msg.id)
theorem zz7{l:List zx}{m:Message}{d:Int}{y:zx}:y∈zeo l m d↔y=⟨m,d⟩\/y∈l:=by
 rw[(zhj l m d).mem_iff,zXe]
theorem VS.take{n h:Nat}{lo hi mx d ep lim:Int}(hlim:lim<=8)(hd0:0<=d)(hd1:d<=1073741824):∀(l L:List Message) (t:Table) (out:List zx),VS n h L t lo hi->(∀m∈l,m∈L)->(l.map (·.id)).Nodup->
    ∃L' t' out',tkF mx d ep lim l (mkS n h L t lo hi) out=(mkS n h L' t' lo hi,out++out',0)/\VS n h L' t' lo hi/\(zeV L' t').Perm (zeV L t)/\
     (∀y∈out',y.deadline=d/\y∈t'.l/\∃m∈L,y.msg=upM m/\zgs ep lim m=true)/\(∀y∈t.l,y∈t'.l):=by
 intro l
 induction l with
 | nil=>intro L t out v _ _;exact⟨L,t,[],by simp [tkF],v,List.Perm.refl _,by simp,fun y hy=>hy⟩
 | cons m l ih=>
  intro L t out v hl hn;simp only[zWD,zXQ] at hn;rw[tkF]
  by_cases c:(out.length:Int)=mx\/zgs ep lim m=false
  ·rw[zWz c];exact ih L t out v (fun x hx=>hl x (.tail _ hx)) hn.2
  ·rw[zWy c];have hq:zgs ep lim m=true:=by
    cases hq:zgs ep lim m with
    | true=>rfl
    | false=>exact absurd (.inr hq) c
   have hm:=hl m (.head _);obtain⟨k,hk,ek,e1,e2,v2⟩:=v.dlv hm hq hlim hd0 hd1;have hp:=znt L k hk;rw[ek] at hp;have hl2:∀x∈l,x∈L.eraseIdx k:=by
    intro x hx
    rcases zXe.1 (hp.mem_iff.2 (hl x (.tail _ hx))) with rfl|hx2
    ·exact absurd (zWP.2 ⟨x,hx,rfl⟩) hn.1
    ·exact hx2
   obtain⟨L',t',out',r1,r2,r3,r4,r5⟩:=ih (L.eraseIdx k) (zaG t (upM m) d).1 (out++[⟨upM m,d⟩]) v2 hl2 hn.2;rw[e1];simp only[ne_eq,zWR,if_false];refine⟨L',t',⟨upM m,d⟩::out',by rw[r1];simp,r2,?_,?_,?_⟩
   ·refine r3.trans ?_;unfold zeV;rw[e2];have p1:((zeo t.l (upM m) d).map fun y=>y.msg.id).Perm (m.id::t.l.map fun y=>y.msg.id):=(zhj t.l (upM m) d).map _;have p2:(m.id::(L.eraseIdx k).map (·.id)).Perm (L.map (·.id)):=by have:=hp.map (fun x:Message=>x.id);exact this
    exact (p1.append_left _).trans (zYD.trans (p2.append_right _))
   ·intro y hy
    rcases zXe.1 hy with rfl|hy
    ·exact⟨rfl,r5 _ (by rw[e2];exact zz7.2 (.inl rfl)),m,hm,rfl,hq⟩
    ·obtain⟨s1,s2,m2,s3,s4⟩:=r4 y hy;exact⟨s1,s2,m2,zZk s3,s4⟩
   ·intro y hy;exact r5 y (by rw[e2];exact zz7.2 (.inr hy))
theorem zIe{t:Table}(h:zah t=0){y:zx}(hy:y∈t.l):zel t y.msg.id=(y,true):=by
 have h0:0<=zab t.l y.msg.id:=(zhW (l:=t.l) y.msg.id).2 ⟨y,hy,rfl⟩;have ha:=zh6 (zhD h).2.1;obtain⟨hp,e⟩:=(zyO ha y.msg.id).1 h0;have e2:=zId ha h0;unfold zel;rw[zWz ⟨h,h0⟩,e2,zXb];have e3:t.l[zbx t.l y.msg.id]=y:=by
  obtain⟨j,hj,rfl⟩:=zYS.1 hy;have hpw:=zXu.1 ha
  rcases zZf (zbx t.l t.l[j].msg.id) j with c|c|c
  ·have:=hpw _ _ hp hj c;omega
  ·congr 1
  ·have:=hpw _ _ hj hp c;omega
 rw[zWG,zWF hp];simp only[zXl,e3]
theorem zMN{s:Shard}(ht:zah s.leases=0){y:zx}(hy:y∈s.leases.l)(h:zaW)(hid:h.id=y.msg.id)(now ep:Int):zc5 s h now ep=(decide (y.msg.gen=h.gen)&&(decide (y.msg.route=h.route)&&(!decide (y.msg.epoch<ep)&&decide (now<y.deadline)))):=by
 unfold zc5;rw[hid,zIe ht hy,zXR]
theorem VS.rel{n h:Nat}{L:List Message}{t:Table}{lo hi:Int}(v:VS n h L t lo hi){y:zx}(hy:y∈t.l):∃t',zaC (mkS n h L t lo hi) y.msg.id=(mkS n h L t' lo hi,y.msg,0)/\VS n h L t' lo hi/\(y::t'.l).Perm t.l:=by
 obtain⟨a1,a2,a3,a4,a5,a6,a7,b1,b2,b3,c⟩:=v;have h0:0<=zab t.l y.msg.id:=(zhW (l:=t.l) y.msg.id).2 ⟨y,hy,rfl⟩;have hr:=(zst (id:=y.msg.id) b2).2 h0;obtain⟨r1,_,k,hk,e1,e2,e3,e4⟩:=zsu hr;have ey:t.l[k]=y:=by
  have ha:=zh6 (zhD b2).2.1;obtain⟨j,hj,rfl⟩:=zYS.1 hy;have hpw:=zXu.1 ha
  rcases zZf k j with c|c|c
  ·have:=hpw _ _ hk hj c;omega
  ·congr 1
  ·have:=hpw _ _ hj hk c;omega
 have hp:(y::(z8 t y.msg.id).1.l).Perm t.l:=by
  rw[e3,zqh, <- ey];exact znt t.l k hk
 refine⟨(z8 t y.msg.id).1,?_,⟨a1,a2,a3,?_,a5,a6,a7,b1,r1,fun x hx=>b3 x (hp.mem_iff.1 (.tail _ hx)),?_⟩,hp⟩
 ·unfold zaC;rw[zWz (show (z8 (mkS n h L t lo hi).leases y.msg.id).2.2=0 from hr)];show (_,(z8 t y.msg.id).2.1,_)=_;rw[e4,ey];rfl
 ·have:=hp.length_eq;simp only[zWI] at this;omega
 ·have p:(L.map (·.id)++(y.msg.id::(z8 t y.msg.id).1.l.map fun x=>x.msg.id)).Perm (L.map (·.id)++t.l.map fun x=>x.msg.id):=(hp.map (fun x:zx=>x.msg.id)).append_left _;have q:=zYD.nodup_iff.1 (p.nodup_iff.2 c);exact (zXQ.1 q).2
theorem VS.back{n h:Nat}{L:List Message}{t:Table}{lo hi:Int}(v:VS n h L t lo hi){m:Message}(hm:zak m=0)(hr:lo<=m.route/\m.route<=hi)(hl:L.length+t.l.length<n)(hid:m.id∉zeV L t)(lim:Int):
    ∃h' L',zdV (mkS n h L t lo hi) m lim=(rg n h' L',0)/\VS n h' L' t lo hi/\L'.length=L.length+1/\(L'.map (·.id)).Perm (m.id::L.map (·.id)):=by
 have hord:=v.ord;obtain⟨a1,a2,a3,a4,a5,a6,a7,b1,b2,b3,c⟩:=v;have hni:∀x∈L,x.id≠m.id:=fun x hx e=>hid (zW3.2 (.inl (zWP.2 ⟨x,hx,e⟩)));have hp:zcJ (rg n h L) m=0:=zsh a1 a2 a3 zo (fun x hx=>(b1 x hx).1) (zYx.1 c).1 hm hni;have hnd:(m.id::(L.map (·.id)++t.l.map fun y=>y.msg.id)).Nodup:=zXQ.2 ⟨hid,c⟩
 by_cases c1:lim<=m.count
 ·have p:((L++[m]).map (·.id)).Perm (m.id::L.map (·.id)):=by
     rw[zWQ];exact zZo
  refine⟨h,L++[m],?_,⟨a1,a2,a3,by simp only[zWJ,zW6];omega,a5,a6,a7,fun x hx=> ?_,b2,b3,?_⟩,by simp,p⟩
  ·unfold zdV;rw[zWz c1];show pbD (rg n h L) m=_;unfold pbD;rw[zWz hp,hord,zfU];rfl
  ·rcases zW3.1 hx with hx|hx
   ·exact b1 x hx
   ·rw[zW7.1 hx];exact⟨hm,hr⟩
  ·exact (p.append_right _).nodup_iff.2 hnd
 ·refine⟨(h+n - 1) % n,m::L,?_,⟨a1,a2,zOV a1,by simp only[zWI];omega,a5,a6,a7,fun x hx=> ?_,b2,b3,hnd⟩,by simp,List.Perm.refl _⟩
  ·unfold zdV;rw[zWy c1];show pfD (rg n h L) m=_;unfold pfD;rw[zWz hp,hord,zfU];rfl
  ·cases hx with
   | head=>exact⟨hm,hr⟩
   | tail _ hx=>exact b1 x hx
theorem VS.us{n h:Nat}{L:List Message}{t:Table}{lo hi:Int}(v:VS n h L t lo hi)(b:Bool):usE (mkS n h L t lo hi) b=if b=true then 0 else 1:=by
 have hl:zaa (mkS n h L t lo hi)=0:=by
  unfold zaa;rw[zWy (fun q=>q v.val)];rfl
 unfold usE;rw[zWy (fun q=>q hl)]
theorem VS.lens{n h:Nat}{L:List Message}{t:Table}{lo hi:Int}(v:VS n h L t lo hi):(mkS n h L t lo hi).ready.cells.length<=12/\(mkS n h L t lo hi).leases.l.length<=12/\(mkS n h L t lo hi).leases.heap.length<=12:=by
 obtain⟨b1,b2⟩:=zjz v.2.2.2.2.2.2.2.2.1;exact⟨by show (rg n h L).cells.length<=12;rw[zfU];exact v.2.1,b1,b2⟩
def zem(m:Message):zaW:=⟨m.id,m.gen,m.route,0⟩
theorem VS.gone{n h:Nat}{L:List Message}{t t':Table}{lo hi:Int}(v:VS n h L t lo hi){y:zx}(hp:(y::t'.l).Perm t.l):y.msg.id∉zeV L t':=by
 have c:=v.2.2.2.2.2.2.2.2.2.2;have p:(L.map (·.id)++(y.msg.id::t'.l.map fun x=>x.msg.id)).Perm (L.map (·.id)++t.l.map fun x=>x.msg.id):=(hp.map (fun x:zx=>x.msg.id)).append_left _;exact (zXQ.1 (zYD.nodup_iff.1 (p.nodup_iff.2 c))).1
theorem VS.holds{n h:Nat}{L:List Message}{t:Table}{lo hi:Int}(v:VS n h L t lo hi){y:zx}(hy:y∈t.l){now ep:Int}(hd:now<y.deadline)(he:ep<=y.msg.epoch):zc5 (mkS n h L t lo hi) (zem y.msg) now ep=true:=by
 rw[zMN (s:=mkS n h L t lo hi) v.2.2.2.2.2.2.2.2.1 hy (zem y.msg) rfl];simp only[zem,decide_true,zXR,zWS,zXt,decide_eq_false_iff_not,decide_eq_true_eq];omega
theorem VS.ack{n h:Nat}{L:List Message}{t:Table}{lo hi:Int}(v:VS n h L t lo hi){y:zx}(hy:y∈t.l){now ep:Int}(hd:now<y.deadline)(he:ep<=y.msg.epoch)(hn:tiQ now=true)(hq:epQ ep=true):∃t',zcY (mkS n h L t lo hi) (zem y.msg) now ep=(mkS n h L t' lo hi,0)/\VS n h L t' lo hi/\(y::t'.l).Perm t.l:=by
 obtain⟨t',r1,r2,r3⟩:=v.rel hy;refine⟨t',?_,r2,r3⟩;have hu:usE (mkS n h L t lo hi) (tiQ now&&epQ ep)=0:=by rw[v.us,hn,hq];rfl
 unfold zcY;rw[zWy (fun q=>q hu),zWz (v.holds hy hd he)];show ((zaC (mkS n h L t lo hi) y.msg.id).1,(zaC (mkS n h L t lo hi) y.msg.id).2.2)=_;rw[r1]
theorem VS.nack{n h:Nat}{L:List Message}{t:Table}{lo hi:Int}(v:VS n h L t lo hi){y:zx}(hy:y∈t.l){now ep lim:Int}(hd:now<y.deadline)(he:ep<=y.msg.epoch)(hn:tiQ now=true)(hq:epQ ep=true)(hl:liQ lim=true):∃h' L' t',zcS (mkS n h L t lo hi) (zem y.msg) now ep lim=(mkS n h' L' t' lo hi,0)/\VS n h' L' t' lo hi/\L'.length+t'.l.length=L.length+t.l.length/\(y::t'.l).Perm t.l:=by
 obtain⟨t',r1,r2,r3⟩:=v.rel hy;have hlen:=r3.length_eq;simp only[zWI] at hlen;have hmv:zak y.msg=0:=((zfM t.l).1 (zhD v.2.2.2.2.2.2.2.2.1).2.1).2 y hy |>.1;obtain⟨h',L',q1,q2,q3,q4⟩:=r2.back hmv (v.2.2.2.2.2.2.2.2.2.1 y hy) (by have:=v.2.2.2.1;omega) (v.gone r3) lim;refine⟨h',L',t',?_,q2,by omega,r3⟩;have hu:usE (mkS n h L t lo hi) (tiQ now&&(epQ ep&&liQ lim))=0:=by rw[v.us,hn,hq,hl];rfl
 unfold zcS;rw[zWy (fun q=>q hu),zWz (v.holds hy hd he)];have e:zaC (mkS n h L t lo hi) (zem y.msg).id=(mkS n h L t' lo hi,y.msg,0):=r1;rw[e];simp only[q1,ne_eq,zWR,if_false];rfl
def allI(s:Shard):List Int:=(zaO s).map (·.id)
theorem VS.allI{n h:Nat}{L:List Message}{t:Table}{lo hi:Int}(v:VS n h L t lo hi):allI (mkS n h L t lo hi)=zeV L t:=by
 unfold _root_.Go.Proofs.YtjalkkalhdnplaaGreat.allI zaO zeV mkS;rw[v.ord,zWQ,zYb];rfl
theorem zfX{s:Shard}{b:Bool}(h:usE s b=0):zV s=0/\s.live=true:=by
 have hl:zaa s=0:=by
  unfold usE at h
  split at h
  ·rename_i q;exact absurd h q
  ·rename_i q;exact zWO.1 q
 unfold zaa at hl
 split at hl
 ·rename_i q;exact absurd hl q
 ·rename_i q
  split at hl
  ·rename_i q2;exact⟨zWO.1 q,q2⟩
  ·cases hl
theorem zlG{s:Shard}{h:zaW}{now ep:Int}(q:zc5 s h now ep=true):∃y∈s.leases.l,y.msg.id=h.id:=by
 unfold zc5 at q;rw[zWS] at q;have q:=q.1;unfold zel at q
 split at q
 ·rename_i c;exact (zhW (l:=s.leases.l) h.id).1 c.2
 ·cases q
theorem zE4{x:Shard}{mx now vis ep lim:Int}(h:(zcN x mx now vis ep lim).2.2=0):zV (zcN x mx now vis ep lim).1=0/\(allI (zcN x mx now vis ep lim).1).Perm (allI x):=by
 by_cases c:zk5 x mx now vis ep lim=0
 ·obtain⟨hv,hl⟩:=zfX (s:=x) c;have hn:=zpn (s:=x) c;simp only[zWS,liQ,tiQ,viQ,decide_eq_true_eq] at hn
  by_cases c2:1073741824<now+vis
  ·unfold zcN at h;rw[zWy (fun q=>q c),zWz c2] at h
   cases h
  ·obtain⟨n,h',e,v⟩:=zfZ hv hl;have et:zcN x mx now vis ep lim=tkF mx (now+vis) ep lim (zu x.ready) x []:=by
    unfold zcN;rw[zWy (fun q=>q c),zWy c2]
   rw[et];generalize zu x.ready=L at *;generalize x.leases=t at *;generalize x.low=lo at *;generalize x.high=hi at *;subst e;obtain⟨L',t',o',r1,r2,r3,_,_⟩:=VS.take (mx:=mx) (d:=now+vis) (ep:=ep) (lim:=lim) zo zo zo L L t [] v (fun m hm=>hm) (zYx.1 v.2.2.2.2.2.2.2.2.2.2).1;rw[r1];refine⟨r2.val,?_⟩;rw[r2.allI,v.allI];exact r3
 ·unfold zcN at h;rw[zWz c] at h;exact absurd h c
theorem VS.perm{L:List Message}{t t':Table}{y:zx}(hp:(y::t'.l).Perm t.l):(y.msg.id::zeV L t').Perm (zeV L t):=
 zYD.symm.trans ((hp.map (fun x:zx=>x.msg.id)).append_left _)
theorem zE3{x:Shard}{hd:zaW}{now ep lim:Int}(h:(zcS x hd now ep lim).2=0):zV (zcS x hd now ep lim).1=0/\(allI (zcS x hd now ep lim).1).Perm (allI x):=by
 by_cases c:usE x (tiQ now&&(epQ ep&&liQ lim))=0
 ·by_cases c2:zc5 x hd now ep=true
  ·obtain⟨hv,hl⟩:=zfX c;obtain⟨y,hy,ey⟩:=zlG c2;obtain⟨n,h',e,v⟩:=zfZ hv hl;have en:zcS x hd now ep lim=if (zaC x y.msg.id).2.2≠0 then (zw,(zaC x y.msg.id).2.2) else if (zdV (zaC x y.msg.id).1 (zaC x y.msg.id).2.1 lim).2≠0 then (zw,(zdV (zaC x y.msg.id).1 (zaC x y.msg.id).2.1 lim).2) else ({ (zaC x y.msg.id).1 with ready:=(zdV (zaC x y.msg.id).1 (zaC x y.msg.id).2.1 lim).1 },0):=by
    unfold zcS;rw[zWy (fun q=>q c),zWz c2,ey]
   rw[en];clear en h c c2;generalize zu x.ready=L at *;generalize x.leases=t at *;generalize x.low=lo at *;generalize x.high=hi at *;subst e;obtain⟨t',r1,r2,r3⟩:=v.rel hy;have hlen:=r3.length_eq;simp only[zWI] at hlen;have hmv:zak y.msg=0:=((zfM t.l).1 (zhD v.2.2.2.2.2.2.2.2.1).2.1).2 y hy |>.1;obtain⟨h2,L',q1,q2,q3,q4⟩:=r2.back hmv (v.2.2.2.2.2.2.2.2.2.1 y hy) (by have:=v.2.2.2.1;omega) (v.gone r3) lim;rw[r1];simp only[q1,ne_eq,zWR,if_false];have e2:({ mkS n h' L t' lo hi with ready:=rg n h2 L' }:Shard)=mkS n h2 L' t' lo hi:=rfl;rw[e2];refine⟨q2.val,?_⟩;rw[q2.allI,v.allI];exact (q4.append_right _).trans (VS.perm r3)
  ·unfold zcS at h;rw[zWy (fun q=>q c),zWy c2] at h
   cases h
 ·unfold zcS at h;rw[zWz c] at h;exact absurd h c
theorem zE0{x:Shard}{hd:zaW}{now ep:Int}(h:(zcY x hd now ep).2=0):zV (zcY x hd now ep).1=0/\(hd.id::allI (zcY x hd now ep).1).Perm (allI x):=by
 by_cases c:usE x (tiQ now&&epQ ep)=0
 ·by_cases c2:zc5 x hd now ep=true
  ·obtain⟨hv,hl⟩:=zfX c;obtain⟨y,hy,ey⟩:=zlG c2;obtain⟨n,h',e,v⟩:=zfZ hv hl;have en:zcY x hd now ep=((zaC x y.msg.id).1,(zaC x y.msg.id).2.2):=by
    unfold zcY;rw[zWy (fun q=>q c),zWz c2,ey]
   rw[en, <- ey];clear en h c c2;generalize zu x.ready=L at *;generalize x.leases=t at *;generalize x.low=lo at *;generalize x.high=hi at *;subst e;obtain⟨t',r1,r2,r3⟩:=v.rel hy;rw[r1];refine⟨r2.val,?_⟩;show (y.msg.id::_root_.Go.Proofs.YtjalkkalhdnplaaGreat.allI (mkS n h' L t' lo hi)).Perm _;rw[r2.allI,v.allI];exact VS.perm r3
  ·unfold zcY at h;rw[zWy (fun q=>q c),zWy c2] at h
   cases h
 ·unfold zcY at h;rw[zWz c] at h;exact absurd h c
theorem zT2{l:List zx}{k:Nat}(hk:k<l.length)(d:Int):((l.set k ⟨l[k].msg,d⟩).map fun y=>y.msg.id)=l.map fun y=>y.msg.id:=by
 refine zY1 (by simp) fun i h1 h2=> ?_;simp only[zY4,zZh]
 split
 ·rename_i e;subst e;rfl
 ·rfl
theorem VS.ext{n h:Nat}{L:List Message}{t:Table}{lo hi:Int}(v:VS n h L t lo hi){id d:Int}(he:(zbe t id d).2=0):VS n h L (zbe t id d).1 lo hi/\zeV L (zbe t id d).1=zeV L t:=by
 obtain⟨x1,_,k,hk,_,x4,x5⟩:=zHD he;have hids:((zbe t id d).1.l.map fun y=>y.msg.id)=t.l.map fun y=>y.msg.id:=by rw[x5];exact zT2 hk d
 have hlen:(zbe t id d).1.l.length=t.l.length:=by rw[x5,zW8]
 obtain⟨a1,a2,a3,a4,a5,a6,a7,b1,b2,b3,c⟩:=v;refine⟨⟨a1,a2,a3,by omega,a5,a6,a7,b1,x1,fun y hy=> ?_,by rw[hids];exact c⟩,by unfold zeV;rw[hids]⟩;rw[x5] at hy
 rcases zX7 hy with hy|rfl
 ·exact b3 y hy
 ·exact b3 t.l[k] (zWH hk)
theorem zE1{x:Shard}{hd:zaW}{now ep vis:Int}(h:(zeM x hd now ep vis).2=0):zV (zeM x hd now ep vis).1=0/\(allI (zeM x hd now ep vis).1).Perm (allI x):=by
 unfold zeM at h ⊢
 split at h
 ·rename_i c;exact absurd h c
 ·rename_i c;rw[zWy c];have c:=zWO.1 c
  split at h
  ·rename_i c2;rw[zWz c2]
   split at h
   ·cases h
   ·rename_i c3;rw[zWy c3]
    split at h
    ·rename_i c4;exact absurd h c4
    ·rename_i c4;rw[zWy c4];have c4:=zWO.1 c4;obtain⟨hv,hl⟩:=zfX c;obtain⟨n,h',e,v⟩:=zfZ hv hl;clear h c c2 c3;generalize zu x.ready=L at *;generalize x.leases=t at *;generalize x.low=lo at *;generalize x.high=hi at *;subst e;obtain⟨v2,e2⟩:=v.ext c4;have e3:({ mkS n h' L t lo hi with leases:=(zbe t hd.id (now+vis)).1 }:Shard)=mkS n h' L (zbe t hd.id (now+vis)).1 lo hi:=rfl;show zV ({ mkS n h' L t lo hi with leases:=(zbe t hd.id (now+vis)).1 }:Shard)=0/\(_root_.Go.Proofs.YtjalkkalhdnplaaGreat.allI ({ mkS n h' L t lo hi with leases:=(zbe t hd.id (now+vis)).1 }:Shard)).Perm _;rw[e3];refine⟨v2.val,?_⟩;rw[v2.allI,v.allI,e2]
  ·cases h
theorem zBn(n h:Nat)(L:List Message)(t:Table)(lo hi:Int)(m:Message):pbD (mkS n h L t lo hi).ready m=zdV (mkS n h L t lo hi) m m.count:=by
 unfold zdV;rw[zWz (zXh _)]
theorem VS.exp{n:Nat}{lo hi:Int}:∀(l:List Int) (h:Nat) (L:List Message) (t:Table),VS n h L t lo hi->(zcF l (mkS n h L t lo hi)).2=0->
    ∃h' L' t',(zcF l (mkS n h L t lo hi)).1=mkS n h' L' t' lo hi/\VS n h' L' t' lo hi/\(zeV L' t').Perm (zeV L t):=by
 intro l
 induction l with
 | nil=>intro h L t v _;exact⟨h,L,t,rfl,v,List.Perm.refl _⟩
 | cons id l ih=>
  intro h L t v hz;rw[zcF] at hz ⊢
  split at hz
  ·rename_i c;exact absurd hz c
  ·rename_i c;rw[zWy c];have c:=zWO.1 c;have hr:(z8 t id).2.2=0:=by
    unfold zaC at c
    split at c
    ·rename_i q;exact q
    ·exact c
   obtain⟨_,_,k,hk,_,ek,_,_⟩:=zsu hr;obtain⟨t',r1,r2,r3⟩:=v.rel (zWH hk);rw[ek] at r1;rw[r1] at hz ⊢;simp only at hz ⊢;have hmv:zak t.l[k].msg=0:=((zfM t.l).1 (zhD v.2.2.2.2.2.2.2.2.1).2.1).2 _ (zWH hk) |>.1;have hlen:=r3.length_eq;simp only[zWI] at hlen;obtain⟨h2,L',q1,q2,q3,q4⟩:=r2.back hmv (v.2.2.2.2.2.2.2.2.2.1 _ (zWH hk)) (by have:=v.2.2.2.1;omega) (v.gone r3) t.l[k].msg.count;rw[<- zBn] at q1;rw[q1] at hz ⊢;simp only[ne_eq,zWR,if_false] at hz ⊢;have e2:({ mkS n h L t' lo hi with ready:=rg n h2 L' }:Shard)=mkS n h2 L' t' lo hi:=rfl;rw[e2] at hz ⊢;obtain⟨h3,L3,t3,s1,s2,s3⟩:=ih h2 L' t' q2 hz;exact⟨h3,L3,t3,s1,s2,s3.trans ((q4.append_right _).trans (VS.perm r3))⟩
theorem zE2{x:Shard}{now ep lim:Int}(h:(zcE x now ep lim).2.2=0):zV (zcE x now ep lim).1=0/\(allI (zcE x now ep lim).1).Perm (allI x):=by
 unfold zcE at h ⊢
 split at h
 ·rename_i c;exact absurd h c
 ·rename_i c;rw[zWy c];have c:=zWO.1 c
  split at h
  ·rename_i c2;rw[zWz c2];obtain⟨hv,hl⟩:=zfX c;obtain⟨n,h',e,v⟩:=zfZ hv hl;clear h c;generalize zd2 x.leases now ep=l at *;generalize zu x.ready=L at *;generalize x.leases=t at *;generalize x.low=lo at *;generalize x.high=hi at *;subst e;obtain⟨h3,L3,t3,s1,s2,s3⟩:=VS.exp l h' L t v c2;show zV (zcF l (mkS n h' L t lo hi)).1=0/\(_root_.Go.Proofs.YtjalkkalhdnplaaGreat.allI (zcF l (mkS n h' L t lo hi)).1).Perm _;rw[s1];refine⟨s2.val,?_⟩;rw[s2.allI,v.allI];exact s3
  ·rename_i c2;exact absurd h c2
def hB(s:Shard)(h:zaW)(now ep:Int):Bool:=decide (usE s (tiQ now&&epQ ep)=0)&&zc5 s h now ep
def zaK(s:Shard):Prop:=s.ready.cells.length<=12/\s.leases.l.length<=12/\s.leases.heap.length<=12
structure LP(x y:Shard)(now vis ep lim:Int)(v:zx):Prop where
 dl:v.deadline=now+vis
 late:hB y (zem v.msg) (now+vis) ep=false
 held:0<vis->hB y (zem v.msg) (now+vis - 1) ep=true
 old:hB y { zem v.msg with gen:=v.msg.gen - 1 } now ep=false
 oth:hB y { zem v.msg with route:=(v.msg.route+1).tmod 65536 } now ep=false
 pre:hB x (zem v.msg) now ep=false
 gen:1<=v.msg.gen/\v.msg.gen<=65536
 rt:0<=v.msg.route/\v.msg.route<=65535
 ack:0<vis->∃z,zcY y (zem v.msg) now ep=(z,0)/\zaK z/\hB z (zem v.msg) now ep=false/\zbl z=zbl y - 1
 nack:0<vis->∃w,zcS y (zem v.msg) now ep lim=(w,0)/\zaK w/\hB w (zem v.msg) now ep=false/\zbl w=zbl y
theorem zoN(r:zR)(m:Message)(hL:r.cells.length<=4294967296):zh G 272 [.d (z6 r),.d (zk m)] []=some (.d (.tup [z6 (pbD r m).1,.int .i64 (pbD r m).2]),[]):=by
 unfold pbD
 by_cases e1:zcJ r m=0
 ·rw[zWz e1];have e2:=zjl e1;obtain⟨n,h,hrg,h1,h2,h3,h4,h5,h6⟩:=zhz e2.1;have hc:r.cells.length=n:=by rw[hrg];exact zcA _ _ _ _
  have hh:r.head.toNat=h:=by rw[hrg];rfl
  have hz:r.size=((zu r).length:Int):=by rw[zgT];have:=congrArg zR.size hrg;simp only[rg] at this;omega
  have hl:(zu r).length<n:=by have:=e2.2.2.1;omega
  have hi:∀x∈zu r,x.id≠m.id:=by
   intro x hx e;have h7:=e2.2.2.2;unfold zaF at h7;rw[znQ] at h7;have:=h7 x hx;simp [e] at this
  have hp:=zQl h1 h2 h3 hl h5 h6 e2.2.1 hi;rw[<- hrg] at hp;rw[hc,hh];exact hp
 ·rw[zWy e1];have hpu:=zoM r m hL;generalize zcJ r m=v at *;simp only[z6,zk,zar,zWA] at *;exact zW
theorem zRa(r:zR)(m:Message)(hL:r.cells.length<=4294967296):zh G 277 [.d (z6 r),.d (zk m)] []=some (.d (.tup [z6 (pfD r m).1,.int .i64 (pfD r m).2]),[]):=by
 unfold pfD
 by_cases e1:zcJ r m=0
 ·rw[zWz e1];have e2:=zjl e1;obtain⟨n,h,hrg,h1,h2,h3,h4,h5,h6⟩:=zhz e2.1;have hc:r.cells.length=n:=by rw[hrg];exact zcA _ _ _ _
  have hh:r.head.toNat=h:=by rw[hrg];rfl
  have hz:r.size=((zu r).length:Int):=by rw[zgT];have:=congrArg zR.size hrg;simp only[rg] at this;omega
  have hl:(zu r).length<n:=by have:=e2.2.2.1;omega
  have hi:∀x∈zu r,x.id≠m.id:=by
   intro x hx e;have h7:=e2.2.2.2;unfold zaF at h7;rw[znQ] at h7;have:=h7 x hx;simp [e] at this
  have hp:=zQt h1 h2 h3 hl h5 h6 e2.2.1 hi;rw[<- hrg] at hp;rw[hc,hh];exact hp
 ·rw[zWy e1];have hpu:=zoM r m hL;generalize zcJ r m=v at *;simp only[z6,zk,zar,zWA] at *;exact zW
theorem zV5(l:List Message)(i:Nat)(hi:i<l.length)(hL:l.length<=24):zh G 308 [.d (.sl (l.map zk)),.d (.int .i64 i)] []=some (.d (.sl ((l.eraseIdx i).map zk)),[]):=by
 have e:(l.eraseIdx i).map zk=(l.map zk).take i++(l.map zk).drop (i+1):=by rw[zZP,zWQ,zYy,zZd]
 rw[e];have z1:=zpy (l.take i);have z2:=zpy (l.drop (i+1));have hb:l.length - 1<=4294967296:=by omega
 by_cases c0:i=0
 ·subst c0
  by_cases c1:l.length=1
  ·rw[zO zzz (by simp)];simp -implicitDefEqProofs (maxSteps:=4000000) (disch:=omega) only[zm9,zXv,zWW,zq,go_sem, *]
  ·rw[zO zzz (by simp)];simp -implicitDefEqProofs (maxSteps:=4000000) (disch:=omega) only[zm9,zXv,zWW,zq,go_sem, *]
 ·by_cases c1:i+1=l.length
  ·exact zW
  ·exact zW
theorem zsm(r:zR)(id:Int)(hL:r.cells.length<=4294967296):zh G 284 [.d (z6 r),.d (.int .i64 id)] []=some (.d (.tup [z6 (rmD r id).1,zk (rmD r id).2.1,.int .i64 (rmD r id).2.2]),[]):=by
 have hv:=zkG r hL
 by_cases e1:zaI r=0
 ·obtain⟨n,h,hrg,h1,h2,h3,h4,h5,h6⟩:=zhz e1;have hc:r.cells.length=n:=by rw[hrg];exact zcA _ _ _ _
  have hh:r.head.toNat=h:=by rw[hrg];rfl
  have ho:=zjj (wN n h (zu r) (zu r).length) h (zu r).length (by rw[zcA];exact h2) (by rw[zcA];exact h3) (by rw[zcA];exact h4);rw[zji h1 h4] at ho;have hix:=ziZ (zu r) id zo;rw[e1] at hv
  by_cases e2:zaF (zu r) id<0
  ·have he:rmE r id=4:=by unfold rmE;rw[zWy (fun hc=>hc e1),zWz e2]
   have hd:rmD r id=(zar,z9,4):=by unfold rmD;rw[he,zWy (by decide)]
   rw[hd];clear he hd h5 h6 e1 hc hh;generalize zaF (zu r) id=q at *;generalize zu r=L at *;subst hrg;simp only[z6,rg,zar,z9,zk,zWA] at *;exact zW
  ·have he:rmE r id=0:=by unfold rmE;rw[zWy (fun hc=>hc e1),zWy e2]
   have hd:rmD r id=(rg n h ((zu r).eraseIdx (zaF (zu r) id).toNat),(zu r).getD (zaF (zu r) id).toNat z9,0):=by unfold rmD;rw[zWz he,hc,hh]
   have hk:=zqy (show 0<=zaF (zu r) id by omega);obtain⟨k,hkk⟩:∃k:Nat,zaF (zu r) id=k:=⟨(zaF (zu r) id).toNat,by omega⟩;rw[hd];rw[hkk] at hix hk e2 ⊢;rw[zXb] at hk ⊢;have hw:=zV5 (zu r) k hk zo;have hwi:=zpo (wN n h (zu r) (zu r).length) h (zu r).length h ((zu r).eraseIdx k) (by rw[zcA];omega) (by rw[zcA];omega) zo (by rw[zcA,zZj,zWz hk];omega);rw[zcA] at hwi;rw[zq hk];have e3:rg n h ((zu r).eraseIdx k)=⟨wN n h ((zu r).eraseIdx k) ((zu r).eraseIdx k).length,h,((zu r).eraseIdx k).length⟩:=rfl;rw[e3];clear he hd h5 h6 e1 hc hh hkk e2 e3;have hlen:((zu r).eraseIdx k).length<=12:=by rw[zZj,zWz hk];omega
   generalize wN n h ((zu r).eraseIdx k) ((zu r).eraseIdx k).length=w2 at *;generalize (zu r).eraseIdx k=l2 at *;generalize zu r=L at *;subst hrg;simp only[z6,rg,zk] at *;generalize wN n h L L.length=w at *;have zk0:=zk.eq_1;exact zW
 ·have he:rmE r id=zaI r:=by unfold rmE;rw[zWz e1]
  have hd:rmD r id=(zar,z9,zaI r):=by unfold rmD;rw[he,zWy e1]
  rw[hd];clear he hd;generalize zaI r=v at *;simp only[z6,zar,z9,zk,zWA] at *;exact zW
def zbc(s:Shard):Prop:=s.ready.cells.length<=4294967296/\s.leases.l.length<=4294967296/\s.leases.heap.length<=4294967296
theorem zpg(n:Int):zh G 285 [.d (.int .i64 n)] []=some (.d (.bool (tiQ n)),[]):=by
 unfold tiQ
 by_cases h:0<=n/\n<=1073741824
 ·rw[zWY h];obtain⟨h1,h2⟩:=h;exact zW
 ·rw[zW0 h]
  by_cases h1:0<=n
  ·have h2:¬n<=1073741824:=by omega
   clear h;exact zW
  ·clear h;exact zW
theorem zCV(n:Int):zh G 278 [.d (.int .i64 n)] []=some (.d (.bool (viQ n)),[]):=by
 unfold viQ
 by_cases h:0<=n/\n<=1000
 ·rw[zWY h];obtain⟨h1,h2⟩:=h;exact zW
 ·rw[zW0 h]
  by_cases h1:0<=n
  ·have h2:¬n<=1000:=by omega
   clear h;exact zW
  ·clear h;exact zW
theorem zj0(n:Int):zh Go.Proofs.YtjalkkalhdnplaaGreat.G 48 [.d (.int .i64 n)] []=some (.d (.bool (epQ n)),[]):=zyE n
theorem znX(n:Int):zh Go.Proofs.YtjalkkalhdnplaaGreat.G 49 [.d (.int .i64 n)] []=some (.d (.bool (liQ n)),[]):=zAw n
theorem zFF{s:Shard}(h:zV s=0)(hl:s.live=false):s.ready.size=0/\s.leases.l=[]:=by
 have h1:zaI s.ready=0:=by
  unfold zV at h
  split at h
  ·rename_i c;exact absurd h c
  ·rename_i c;exact zWO.1 c
 have hz:=(zcV h1);have h2:zah s.leases=0:=by
  have q:=h;unfold zV at q;rw[zWy (fun c=>c h1)] at q
  split at q
  ·rename_i c;exact absurd q c
  ·rename_i c;exact zWO.1 c
 rw[zmH h1 h2,zWz hl] at h
 split at h
 ·cases h
 ·rename_i c;have h3:s.ready.size+(s.leases.l.length:Int)<=0:=by
   refine Classical.byContradiction fun q=>c ?_;omega
  have h5:=hz.2.2.2.2.1;exact⟨by omega,zZW zo⟩
theorem zhC(s:Shard)(q:zbc s):zh G 211 [.d (zj s)] []=some (.d (.int .i64 (zbl s)),[]):=by
 obtain⟨h1,h2,h3⟩:=q;have h:=zfl s h1 h2 h3;unfold zbl
 by_cases c:zV s=0
 ·rw[zWz c]
  cases hl:s.live with
  | false=>
   obtain⟨d1,d2⟩:=zFF c hl;have hv:zaa s=7:=by unfold zaa;rw[zWy (fun q=>q c),hl];rfl
   rw[hv] at h;rw[d1,d2];clear c hv d1 d2;simp only[zj,hl] at *;exact zW
  | true=>
   have hv:zaa s=0:=by unfold zaa;rw[zWy (fun q=>q c),hl];rfl
   have hb:0<=s.ready.size/\s.ready.size<=12/\s.leases.l.length<=12:=by
    have hu:usE s true=0:=by unfold usE;rw[zWy (fun q=>q hv)];rfl
    obtain⟨d1,d2,d3,d4⟩:=zti hu;have hz:=zcV (ztj hu);exact⟨hz.2.2.2.2.1,by have:=hz.2.2.2.2.2;omega,d3⟩
   rw[hv] at h;clear c hv;obtain⟨b1,b2,b3⟩:=hb;simp only[zj,hl] at *;exact zW
 ·rw[zWy c];have hv:zaa s≠0:=by unfold zaa;rw[zWz c];exact c
  clear c;generalize zaa s=v at *;simp only[zj] at *;exact zW
def ze2(s:Shard)(r:Int):Bool:=decide (zaa s=0)&&decide (s.low<=r/\r<=s.high)
theorem zoJ(s:Shard)(r:Int)(q:zbc s):zh G 167 [.d (zj s),.d (.int .i64 r)] []=some (.d (.bool (ze2 s r)),[]):=by
 obtain⟨h1,h2,h3⟩:=q;have h:=zfl s h1 h2 h3;unfold ze2;generalize zaa s=v at *
 by_cases c:v=0
 ·subst c;rw[zWY rfl,zXR]
  by_cases c1:s.low<=r
  ·by_cases c2:r<=s.high
   ·rw[zWY ⟨c1,c2⟩];simp only[zj] at *;exact zW
   ·rw[zW0 zo];simp only[zj] at *;exact zW
  ·rw[zW0 zo];simp only[zj] at *;exact zW
 ·rw[zW0 c,zXr];simp only[zj] at *;exact zW
theorem zMM(s:Shard)(h:zaW)(now ep:Int)(q:zbc s):zh G 304 [.d (zj s),.d (zaz h),.d (.int .i64 now),.d (.int .i64 ep)] []=some (.d (.bool (hB s h now ep)),[]):=by
 obtain⟨h1,h2,h3⟩:=q;have hl:=zfl s h1 h2 h3;have e1:=zj0 ep;have e2:=zpg now;have hf:=zBy s.leases h.id h2 h3;have hp:=zig (zel s.leases h.id).1.msg ep;unfold hB usE zc5;generalize zaa s=v at *;generalize epQ ep=b1 at *;generalize tiQ now=b2 at *;generalize zel s.leases h.id=f at *;obtain⟨x,b⟩:=f
 by_cases c:v=0
 ·subst c
  cases b1
  ·cases b2
   ·simp only[zj,zaz] at *;exact zW
   ·simp only[zj,zaz] at *;exact zW
  ·cases b2
   ·simp only[zj,zaz] at *;exact zW
   ·simp only[zj,zaz,zan,zaE,zk,ne_eq,zWR,if_false,if_true,zXV,decide_true,zXR] at *
    cases b
    ·exact zW
    ·exact zW
 ·have e3:decide ((if v≠0 then v else if (b2&&b1)=true then 0 else 1)=0)=false:=by rw[zWz c,zW0 c]
  rw[e3,zXr];clear e3;simp only[zj,zaz] at *;exact zW
def zci(s:Shard)(h:zaW)(now ep:Int)(b:Bool):Int:=if usE s (tiQ now&&(epQ ep&&b))≠0 then usE s (tiQ now&&(epQ ep&&b)) else if zc5 s h now ep=true then 0 else 5
theorem zqR(s:Shard)(h:zaW)(now ep:Int)(b:Bool)(q:zbc s):zh G 275 [.d (zj s),.d (zaz h),.d (.int .i64 now),.d (.int .i64 ep),.d (.bool b)] []=some (.d (.int .i64 (zci s h now ep b)),[]):=by
 have hl:=(zfl s q.1 q.2.1 q.2.2);have e1:=(zj0 ep);have e2:=zpg now;have hh:=zMM s h now ep q;unfold zci usE;unfold hB usE at hh;generalize zaa s=v at *;generalize epQ ep=b1 at *;generalize tiQ now=b2 at *;generalize zc5 s h now ep=hb at *
 by_cases c:v=0
 ·subst c
  cases b1
  ·cases b2<;>cases b
   all_goals
    simp only[zXW,zXr,zXV,zWL,ne_eq,zWR,if_false,zXd,if_true] at *;clear hh;simp only[zj,zaz] at *
   all_goals (exact zW)
  ·cases b2
   ·cases b
    all_goals
     simp only[zXW,zXr,zXV,zWL,ne_eq,zWR,if_false,zXd,if_true] at *;clear hh;simp only[zj,zaz] at *
    all_goals (exact zW)
   ·cases b
    ·clear hh;simp only[zj,zaz] at *;exact zW
    ·simp only[zXV,ne_eq,zWR,if_false,if_true,decide_true,zXR] at *;simp only[zj,zaz] at *
     cases hb
     ·exact zW
     ·exact zW
 ·clear hh;rw[zWz c,zWz c];simp only[zj,zaz] at *;exact zW
theorem zqT{s:Shard}{h:zaW}{now ep:Int}{b:Bool}(c:usE s (tiQ now&&(epQ ep&&b))=0):zci s h now ep b=if zc5 s h now ep=true then 0 else 5:=by
 unfold zci;rw[zWy (fun q=>q c)]
theorem zqS{s:Shard}{h:zaW}{now ep:Int}{b:Bool}(c:usE s (tiQ now&&(epQ ep&&b))≠0):zci s h now ep b=usE s (tiQ now&&(epQ ep&&b)):=by
 unfold zci;rw[zWz c]
theorem zlF{s:Shard}{h:zaW}{now ep:Int}{b:Bool}(q:zci s h now ep b=0):usE s (tiQ now&&(epQ ep&&b))=0/\zc5 s h now ep=true:=by
 unfold zci at q
 split at q
 ·rename_i c;exact absurd q c
 ·rename_i c
  split at q
  ·rename_i c2;exact⟨zWO.1 c,c2⟩
  ·cases q
theorem znM{s:Shard}{h:zaW}{now ep:Int}{b:Bool}(q:zci s h now ep b=0):(z8 s.leases h.id).2.2=0/\zaK s:=by
 obtain⟨q1,q2⟩:=zlF q;have hv:=(zfX q1).1;have ht:zah s.leases=0:=by
  obtain⟨n,h',e,v⟩:=zfZ hv (zfX q1).2;exact v.2.2.2.2.2.2.2.2.1
 obtain⟨d1,d2,d3,d4⟩:=zti q1;obtain⟨y,hy,e⟩:=zlG q2;exact⟨(zst ht).2 ((zhW (l:=s.leases.l) h.id).2 ⟨y,hy,e⟩),d2,d3,d4⟩
theorem zDr(s:Shard)(h:zaW)(now ep:Int):zcY s h now ep=if zci s h now ep true=0 then ((zaC s h.id).1,(zaC s h.id).2.2) else (zw,zci s h now ep true):=by
 by_cases c:usE s (tiQ now&&(epQ ep&&true))=0
 ·rw[zqT c];rw[zYd] at c;unfold zcY;rw[zWy (fun q=>q c)]
  cases zc5 s h now ep
  ·rfl
  ·rfl
 ·rw[zqS c,zWy c];rw[zYd] at c ⊢;unfold zcY;rw[zWz c]
theorem zDq(s:Shard)(h:zaW)(now ep:Int)(q:zbc s):zh G 223 [.d (zj s),.d (zaz h),.d (.int .i64 now),.d (.int .i64 ep)] []=some (.d (.tup [zj (zcY s h now ep).1,.int .i64 (zcY s h now ep).2]),[]):=by
 have hh:=zqR s h now ep true q;rw[zDr]
 by_cases c:zci s h now ep true=0
 ·obtain⟨r1,r2⟩:=znM c;have hr:=zoO s.leases h.id q.2.1 q.2.2;rw[zWz c];rw[c] at hh;unfold zaC;rw[zWz r1];rw[r1] at hr;clear c r1;generalize z8 s.leases h.id=r at *;obtain⟨t,m,e⟩:=r;obtain⟨lv,lo,hi,⟨c,h',z⟩,⟨tl,th⟩⟩:=s;simp only[zj,zaz,zan,zk] at *;exact zW
 ·rw[zWy c];generalize zci s h now ep true=v at *;simp only[zj,zaz,zw,zWA] at *;exact zW
theorem zAV{s:Shard}{h:zaW}{now ep lim:Int}(q:zci s h now ep (liQ lim)=0):(zdV { s with leases:=(z8 s.leases h.id).1 } (z8 s.leases h.id).2.1 lim).2=0:=by
 obtain⟨q1,q2⟩:=zlF q;obtain⟨r0,_⟩:=znM q;obtain⟨hv,hl⟩:=zfX q1;obtain⟨y,hy,ey⟩:=zlG q2;obtain⟨n,h',e,v⟩:=zfZ hv hl;rw[<- ey] at r0 ⊢;clear q q1 q2;generalize zu s.ready=L at *;generalize s.leases=t at *;generalize s.low=lo at *;generalize s.high=hi at *;obtain⟨t',r1,r2,r3⟩:=v.rel hy;have hlen:=r3.length_eq;simp only[zWI] at hlen;have hmv:zak y.msg=0:=((zfM t.l).1 (zhD v.2.2.2.2.2.2.2.2.1).2.1).2 y hy |>.1;obtain⟨h2,L',k1,k2,k3,k4⟩:=r2.back hmv (v.2.2.2.2.2.2.2.2.2.1 y hy) (by have:=v.2.2.2.1;omega) (v.gone r3) lim;have e1:({ mkS n h' L t lo hi with leases:=(z8 t y.msg.id).1 },(z8 t y.msg.id).2.1)=(mkS n h' L t' lo hi,y.msg):=by
  unfold zaC at r1;rw[zWz (show (z8 (mkS n h' L t lo hi).leases y.msg.id).2.2=0 from r0)] at r1;have a1:=congrArg Prod.fst r1;have a2:=congrArg (fun p=>p.2.1) r1;exact Prod.ext a1 a2
 have e2:=congrArg (fun p:Shard×Message=>p.1.leases) e1;have e3:=congrArg Prod.snd e1;have er:s.ready=rg n h' L:=by rw[e];rfl
 show (zdV ⟨s.live,lo,hi,s.ready,(z8 t y.msg.id).1⟩ (z8 t y.msg.id).2.1 lim).2=0;change (z8 t y.msg.id).1=t' at e2;change (z8 t y.msg.id).2.1=y.msg at e3;rw[hl,er,e2,e3];exact congrArg Prod.snd k1
theorem zO1(s:Shard)(h:zaW)(now ep lim:Int):zcS s h now ep lim=if zci s h now ep (liQ lim)=0 then ({ s with leases:=(z8 s.leases h.id).1,ready:=(zdV { s with leases:=(z8 s.leases h.id).1 } (z8 s.leases h.id).2.1 lim).1 },0) else (zw,zci s h now ep (liQ lim)):=by
 by_cases c:zci s h now ep (liQ lim)=0
 ·rw[zWz c];have hb:=zAV c;obtain⟨q1,q2⟩:=zlF c;obtain⟨r0,_⟩:=znM c;unfold zcS zaC;rw[zWy (fun q=>q q1),zWz q2,zWz r0];simp only[ne_eq,zWR,if_false,hb]
 ·rw[zWy c]
  by_cases c1:usE s (tiQ now&&(epQ ep&&liQ lim))=0
  ·rw[zqT c1] at c ⊢;unfold zcS;rw[zWy (fun q=>q c1)]
   cases hb:zc5 s h now ep with
   | true=>rw[hb] at c;exact absurd rfl c
   | false=>rfl
  ·rw[zqS c1];unfold zcS;rw[zWz c1]
theorem zO0(s:Shard)(h:zaW)(now ep lim:Int)(q:zbc s):zh G 224 [.d (zj s),.d (zaz h),.d (.int .i64 now),.d (.int .i64 ep),.d (.int .i64 lim)] []=some (.d (.tup [zj (zcS s h now ep lim).1,.int .i64 (zcS s h now ep lim).2]),[]):=by
 have hh:=zqR s h now ep (liQ lim) q;have hli:=(znX lim);rw[zO1]
 by_cases c:zci s h now ep (liQ lim)=0
 ·obtain⟨r1,r2⟩:=znM c;have hr:=zoO s.leases h.id q.2.1 q.2.2;rw[zWz c];rw[c] at hh;rw[r1] at hr;have hp1:=(zoN s.ready (z8 s.leases h.id).2.1 q.1);have hp2:=(zRa s.ready (z8 s.leases h.id).2.1 q.1);have hsp:=(zpb (z8 s.leases h.id).2.1 lim);have hbe:=zAV c;unfold zdV at hbe ⊢;clear c r1;generalize liQ lim=bl at *
  by_cases c2:lim<=(z8 s.leases h.id).2.1.count
  ·rw[zWz c2] at hbe ⊢;rw[zWY c2] at hsp;simp only at hbe;rw[hbe] at hp1;clear hp2 hbe c2;simp only;generalize (pbD s.ready (z8 s.leases h.id).2.1).1=p at *;generalize z8 s.leases h.id=r at *;obtain⟨t,m,e⟩:=r;obtain⟨pc,ph,pz⟩:=p;obtain⟨lv,lo,hi,⟨c,h',z⟩,⟨tl,th⟩⟩:=s;simp only[zj,zaz,zan,zk,z6] at *;exact zW
  ·rw[zWy c2] at hbe ⊢;rw[zW0 c2] at hsp;simp only at hbe;rw[hbe] at hp2;clear hp1 hbe c2;simp only;generalize (pfD s.ready (z8 s.leases h.id).2.1).1=p at *;generalize z8 s.leases h.id=r at *;obtain⟨t,m,e⟩:=r;obtain⟨pc,ph,pz⟩:=p;obtain⟨lv,lo,hi,⟨c,h',z⟩,⟨tl,th⟩⟩:=s;simp only[zj,zaz,zan,zk,z6] at *;exact zW
 ·rw[zWy c];generalize zci s h now ep (liQ lim)=v at *;generalize liQ lim=bl at *;simp only[zj,zaz,zw,zWA] at *;exact zW
theorem zEG(s:Shard)(h:zaW)(now ep vis:Int):zeM s h now ep vis=if zci s h now ep (viQ vis)=0 then (if 1073741824<now+vis then (zw,6) else ({ s with leases:=(zbe s.leases h.id (now+vis)).1 },0)) else (zw,zci s h now ep (viQ vis)):=by
 by_cases c:zci s h now ep (viQ vis)=0
 ·rw[zWz c];obtain⟨q1,q2⟩:=zlF c;unfold zeM;rw[zWy (fun q=>q q1),zWz q2]
  by_cases c2:1073741824<now+vis
  ·rw[zWz c2,zWz c2]
  ·rw[zWy c2,zWy c2];have hn:=zpn q1;simp only[zWS,tiQ,viQ,decide_eq_true_eq] at hn;have ht:zah s.leases=0:=by
    obtain⟨n,h',e,v⟩:=zfZ (zfX q1).1 (zfX q1).2;exact v.2.2.2.2.2.2.2.2.1
   obtain⟨y,hy,e⟩:=zlG q2;have he:(zbe s.leases h.id (now+vis)).2=0:=(zqs ht).2 ⟨(zhW (l:=s.leases.l) h.id).2 ⟨y,hy,e⟩,by omega,by omega⟩;rw[he];rfl
 ·rw[zWy c]
  by_cases c1:usE s (tiQ now&&(epQ ep&&viQ vis))=0
  ·rw[zqT c1] at c ⊢;unfold zeM;rw[zWy (fun q=>q c1)]
   cases hb:zc5 s h now ep with
   | true=>rw[hb] at c;exact absurd rfl c
   | false=>rfl
  ·rw[zqS c1];unfold zeM;rw[zWz c1]
theorem zEF(s:Shard)(h:zaW)(now ep vis:Int)(q:zbc s):zh G 225 [.d (zj s),.d (zaz h),.d (.int .i64 now),.d (.int .i64 ep),.d (.int .i64 vis)] []=some (.d (.tup [zj (zeM s h now ep vis).1,.int .i64 (zeM s h now ep vis).2]),[]):=by
 have hh:=zqR s h now ep (viQ vis) q;have hvi:=zCV vis;rw[zEG]
 by_cases c:zci s h now ep (viQ vis)=0
 ·have hr:=zRc s.leases h.id (now+vis) q.2.1 q.2.2;have hn:=zpn (zlF c).1;simp only[zWS,tiQ,viQ,decide_eq_true_eq] at hn;obtain⟨n1,n2,n3⟩:=hn;clear n2;rw[zWz c];rw[c] at hh;clear c;generalize viQ vis=bl at *
  by_cases c2:1073741824<now+vis
  ·rw[zWz c2];clear hr;simp only[zj,zaz,zw,zWA] at *;exact zW
  ·rw[zWy c2];generalize zbe s.leases h.id (now+vis)=r at *;obtain⟨t,e⟩:=r;obtain⟨lv,lo,hi,⟨c,h',z⟩,⟨tl,th⟩⟩:=s;simp only[zj,zaz,zan] at *;exact zW
 ·rw[zWy c];generalize zci s h now ep (viQ vis)=v at *;generalize viQ vis=bl at *;simp only[zj,zaz,zw,zWA] at *;exact zW
theorem zRt(m:Message)(ep lim:Int):zh G 302 [.d (zk m),.d (.int .i64 ep),.d (.int .i64 lim)] []=some (.d (.bool (zgs ep lim m)),[]):=by
 have hp:=(zBx m ep);have hs:=(zpb m lim);unfold zgs;simp only[zk] at *;exact zW
theorem zFK(m:Message):zh G 303 [.d (zk m)] []=some (.d (.tup [zk (zdY m).1,.int .i64 (zdY m).2]),[]):=by
 have hv:=(zih m);unfold zdY
 by_cases c:zak m=0
 ·rw[c] at hv;rw[zWy (fun q=>q c)];have hb:m.count<=8/\0<=m.count/\m.gen<=65536/\0<=m.gen:=by
   unfold zak at c
   split at c
   ·omega
   ·cases c
  clear c
  by_cases c1:m.gen=65536
  ·rw[zWz c1];replace c1:=zWN c1;simp only[zk,z9] at hv ⊢;exact zW
  ·rw[zWy c1]
   by_cases c2:m.count=8
   ·rw[zWz c2];replace c2:=zWN c2;simp only[zk,z9] at hv ⊢;exact zW
   ·rw[zWy c2];simp only[zk] at *;exact zW
 ·rw[zWz c];generalize zak m=v at *;simp only[zk,z9] at *;exact zW
theorem zVy{mx d ep lim:Int}:∀(l:List Message) (s:Shard) (out:List zx),(out.length:Int)=mx->tkF mx d ep lim l s out=(s,out,0):=by
 intro l
 induction l with
 | nil=>intro s out _;rfl
 | cons m l ih=>intro s out h;rw[tkF,zWz (.inl h)];exact ih s out h
structure T7 where
 L:List Message
 t:Table
 out:List zx
 i:Nat
def t7S(n h:Nat)(lo hi:Int)(l:List Message)(mx now vis ep lim:Int)(p:T7):St:=⟨[(1,.d (.int .i64 mx)),(2,.d (.int .i64 now)),(3,.d (.int .i64 vis)),(4,.d (.int .i64 ep)),(5,.d (.int .i64 lim)),(6,.ref 6 0 0),(12,.ref 12 0 0),(16,.acc 16 (p.out.map zaE)),(17,.d (.sl (l.map zk))),(18,.d (.int .i64 p.i))],[(6,.row [.d (zj (mkS n h p.L p.t lo hi))]),(12,.row [shZ]),(16,.acc p.out.length)]⟩
def t7R(x:Shard×List zx×Int):zT×St:=(.exit 0,⟨[(6,.ref 6 0 0),(12,.ref 12 0 0),(16,.acc 16 (x.2.1.map zaE))],[(6,.row [.d (zj x.1)]),(12,.row [shZ]),(16,.acc x.2.1.length)]⟩)
def t7I(n h:Nat)(lo hi:Int)(l:List Message)(mx:Int)(p:T7):Prop:=VS n h p.L p.t lo hi/\p.i<=l.length/\p.out.length<=p.i/\(p.out.length:Int)<=mx/\(∀m∈l.drop p.i,m∈p.L)/\((l.drop p.i).map (·.id)).Nodup
theorem zU9(n h:Nat)(lo hi:Int)(l:List Message)(mx now vis ep lim:Int)(hl:l.length<=12)(hlim:lim<=8)(h1:0<=now/\now<=1073741824)(h2:0<=vis/\vis<=1000)(h3:now+vis<=1073741824):∀p,t7I n h lo hi l mx p->zN G [] zkf (t7S n h lo hi l mx now vis ep lim p)=some (t7R (tkF mx (now+vis) ep lim (l.drop p.i) (mkS n h p.L p.t lo hi) p.out)):=by
 refine zaB (fun p:T7=>l.length - p.i) (t7I n h lo hi l mx) (t7S n h lo hi l mx now vis ep lim) (fun p=>some (t7R (tkF mx (now+vis) ep lim (l.drop p.i) (mkS n h p.L p.t lo hi) p.out))) fun p hp L ih=> ?_;obtain⟨LL,t,out,i⟩:=p;obtain⟨v,hi1,ho,hmx,hm,hn⟩:=hp;simp only at v hi1 ho hmx hm hn
 by_cases h0:i<l.length
 ·have hd:=zXf h0;rw[hd] at hm hn;simp only[zWD,zXQ] at hn
  by_cases c0:(out.length:Int)=mx
  ·simp only;rw[zVy _ _ _ c0];have c1:¬(out.length:Int)<mx:=by omega
   clear ih hm hn hd v c0 hmx;simp only[t7S,t7R,zkf];generalize mkS n h LL t lo hi=s at *;simp only[zj,shZ] at *;exact zS
  ·have c1:(out.length:Int)<mx:=by omega
   have hr:=zRt l[i] ep lim;have hml:=hm l[i] (.head _);simp only;rw[hd,tkF]
   cases hq:zgs ep lim l[i] with
   | false=>
    rw[zWz (.inr rfl)];rw[hq] at hr;have i1:=ih ⟨LL,t,out,i+1⟩ ⟨v,by simp only;omega,by simp only;omega,hmx,fun m q=>hm m (.tail _ q),hn.2⟩ (by simp only;omega);clear ih hm hn hd v c0 hmx hml;simp only at i1;generalize t7R (tkF mx (now+vis) ep lim (l.drop (i+1)) (mkS n h LL t lo hi) out)=R at *;simp only[t7S,zkf] at *;generalize mkS n h LL t lo hi=s at *;simp only[zj,zk,shZ] at *;simp only[zNr,zp] at i1;have zk0:=zk.eq_1;exact zS
   | true=>
    rw[zWy (by rintro (q|q);exact c0 q;cases q)];rw[hq] at hr;obtain⟨k,hk,ek,e1,e2,v2⟩:=v.dlv hml hq hlim (d:=now+vis) zo zo;obtain⟨k2,hk2,ek2,hrm⟩:=v.rem hml;obtain⟨q1,q2,q3⟩:=(zBC ep lim l[i]).1 hq;have hdel:=zxZ (v.2.2.2.2.2.2.2.1 l[i] hml).1 q3 zo;have hp:=znt LL k hk;rw[ek] at hp;have hl2:∀x∈l.drop (i+1),x∈LL.eraseIdx k:=by
     intro x hx
     rcases zXe.1 (hp.mem_iff.2 (hm x (.tail _ hx))) with rfl|hx2
     ·exact absurd (zWP.2 ⟨_,hx,rfl⟩) hn.1
     ·exact hx2
    have c3:=zFK l[i];have c4:=(zsm (rg n h LL) l[i].id (by have:=v.lens.1;show (mkS n h LL t lo hi).ready.cells.length<=_;omega));have tl:=zjz v.2.2.2.2.2.2.2.2.1;have c5:=zBz t (upM l[i]) (now+vis) zo zo;have hlen:=v.lens;rw[e1];rw[zWy (by simp)];rw[hrm] at c4;rw[show zdY l[i]=(upM l[i],0) from hdel] at c3;have ekk:rg n h (LL.eraseIdx k2)=rg n h (LL.eraseIdx k):=by
     have a1:zfh (mkS n h LL t lo hi) l[i] (now+vis)=_:=e1;have a2:=congrArg (fun p:Shard×zx×Int=>p.1.ready) a1;unfold zfh at a2;rw[show rmD (mkS n h LL t lo hi).ready l[i].id=(rg n h (LL.eraseIdx k2),l[i],0) from hrm] at a2;have hg:(zaG t (upM l[i]) (now+vis)).2=0:=by
      have a3:=congrArg (fun p:Shard×zx×Int=>p.2.2) a1;unfold zfh at a3;rw[show rmD (mkS n h LL t lo hi).ready l[i].id=(rg n h (LL.eraseIdx k2),l[i],0) from hrm] at a3;simp only[show zdY l[i]=(upM l[i],0) from hdel,ne_eq,zWR,if_false] at a3
      by_cases hz:(zaG t (upM l[i]) (now+vis)).2=0
      ·exact hz
      ·rw[zWz (show ¬(zaG (mkS n h LL t lo hi).leases (upM l[i]) (now+vis)).2=0 from hz)] at a3;exact absurd a3 hz
     simp only[show zdY l[i]=(upM l[i],0) from hdel,ne_eq,zWR,if_false] at a2;rw[zWy (fun q=>q (show (zaG (mkS n h LL t lo hi).leases (upM l[i]) (now+vis)).2=0 from hg))] at a2;exact a2
    rw[ekk] at c4;have i1:=ih ⟨LL.eraseIdx k,(zaG t (upM l[i]) (now+vis)).1,out++[⟨upM l[i],now+vis⟩],i+1⟩ ⟨v2,by simp only;omega,by simp only[zWJ,zW6];omega,by simp only[zWJ,zW6];omega,hl2,hn.2⟩ (by simp only;omega);clear ih hm hn hd v v2 c0 hml e1 e2 hrm hdel hp hl2 ekk hk hk2 ek ek2;simp only at i1 ⊢;generalize t7R (tkF mx (now+vis) ep lim (l.drop (i+1)) (mkS n h (LL.eraseIdx k) (zaG t (upM l[i]) (now+vis)).1 lo hi) (out++[⟨upM l[i],now+vis⟩]))=R at *;simp only[t7S,mkS,zkf,zWQ,zWD,zWA] at *;generalize zaG t (upM l[i]) (now+vis)=g at *;generalize rg n h (LL.eraseIdx k)=r2 at *;generalize rg n h LL=r1 at *;obtain⟨t2,ge⟩:=g;obtain⟨c2,hh2,z2⟩:=r2;obtain⟨c1',hh1,z1⟩:=r1;obtain⟨tl1,th1⟩:=t;obtain⟨tl2,th2⟩:=t2;simp only[zj,zk,zaE,zan,z6,upM,shZ] at *;simp only[zNr,zp] at i1;have zk0:=zk.eq_1;exact zS
 ·clear ih;obtain rfl:i=l.length:=by omega
  simp only[zXp,tkF,t7R,t7S,zkf];generalize mkS n h LL t lo hi=s at *;simp only[zj,shZ] at *;exact zS
theorem zVb(s:Shard)(mx now vis ep lim:Int)(q:zbc s):zh G 274 [.d (zj s),.d (.int .i64 mx),.d (.int .i64 now),.d (.int .i64 vis),.d (.int .i64 ep),.d (.int .i64 lim)] []=some (.d (.tup [zj (zcN s mx now vis ep lim).1,.sl ((zcN s mx now vis ep lim).2.1.map zaE),.int .i64 (zcN s mx now vis ep lim).2.2]),[]):=by
 have hl:=(zfl s q.1 q.2.1 q.2.2);have e1:=(zj0 ep);have e2:=(znX lim);have e3:=zpg now;have e4:=zCV vis;unfold zcN
 by_cases c:zk5 s mx now vis ep lim=0
 ·rw[zWy (fun q=>q c)];obtain⟨hv,hlv⟩:=zfX (s:=s) c;have hn:=zpn (s:=s) c;have hring:=ztj (s:=s) c;have hrd:=(zjp hring);have hl0:zaa s=0:=by unfold zaa;rw[zWy (fun q=>q hv),hlv];rfl
  rw[hl0] at hl;simp only[zWS] at hn;obtain⟨n1,n2,n3,n4,n5⟩:=hn;rw[n1] at e1;rw[n2] at e2;rw[n3] at e3;rw[n4] at e4;simp only[liQ,tiQ,viQ,decide_eq_true_eq] at n2 n3 n4 n5;obtain⟨m1,m2⟩:=n3;obtain⟨m3,m4⟩:=n4;obtain⟨m5,m6⟩:=n5
  by_cases c2:1073741824<now+vis
  ·rw[zWz c2];clear hrd hl0 c hv hring n1 n2 q hlv;simp only[zj,zw,zWA] at *;exact zW
  ·rw[zWy c2];obtain⟨n,h,e,v⟩:=zfZ hv hlv;have hnd:=(zYx.1 v.2.2.2.2.2.2.2.2.2.2).1;have hLn:(zu s.ready).length<=12:=by have:=v.2.2.2.1;have:=v.2.1;omega
   have hlp:=zU9 n h s.low s.high (zu s.ready) mx now vis ep lim hLn n2.2 ⟨m1,m2⟩ ⟨m3,m4⟩ zo ⟨zu s.ready,s.leases,[],0⟩ ⟨v,by simp only;omega,by simp only[zWK];omega,by simp only[zWK];omega,fun m hm=>hm,hnd⟩;obtain⟨L',t',o',r1,_,_,_,_⟩:=VS.take (mx:=mx) (d:=now+vis) (ep:=ep) (lim:=lim) n2.2 zo zo (zu s.ready) (zu s.ready) s.leases [] v (fun m hm=>hm) hnd;simp only[t7S,t7R,zXg] at hlp;rw[<- e] at hlp r1;rw[r1] at hlp ⊢;clear e v r1 hl0 c hv hring n1 n2 q hnd hLn hlv;generalize mkS n h L' t' s.low s.high=s2 at *;generalize zu s.ready=W at *;simp only[zWW,zWA,zWK,zWV] at *;simp only[zj,shZ] at *;exact zW
 ·rw[zWz c];have hu:zk5 s mx now vis ep lim=if zaa s≠0 then zaa s else if (epQ ep&&(liQ lim&&(tiQ now&&(viQ vis&&decide (1<=mx/\mx<=6)))))=true then 0 else 1:=rfl
  rw[hu] at c ⊢;clear hu q
  by_cases c0:zaa s=0
  ·rw[zWy (fun q=>q c0)] at c ⊢;rw[c0] at hl;rw[zWy (fun q=>c (by rw[zWz q]))];have hb:(epQ ep&&(liQ lim&&(tiQ now&&(viQ vis&&decide (1<=mx/\mx<=6)))))=false:=zY0.2 fun q=>c (by rw[zWz q]);clear c c0;generalize epQ ep=b1 at *;generalize liQ lim=b2 at *;generalize tiQ now=b3 at *;generalize viQ vis=b4 at *;simp only[zj,zw,zWA] at *
   cases b1
   ·clear hb;exact zW
   ·cases b2
    ·clear hb;exact zW
    ·cases b3
     ·clear hb;exact zW
     ·cases b4
      ·clear hb;exact zW
      ·simp only[zXR,decide_eq_false_iff_not] at hb
       by_cases c1:mx<1
       ·clear hb;exact zW
       ·have c2:6<mx:=by omega
        clear hb;exact zW
  ·rw[zWz c0];clear c e1 e2 e3 e4;generalize zaa s=v at *;simp only[zj,zw,zWA] at *;exact zW
end Go.Proofs.YtjalkkalhdnplaaGreat
