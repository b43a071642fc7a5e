/-
  Heaps of deadlines, in plain terms.
-/
import Derived.Test.YtnmcgdpmikhohaaGreatB83c1336
set_option linter.unusedSimpArgs false
set_option linter.unusedVariables false
set_option maxHeartbeats 10000000
set_option maxRecDepth 100000
namespace Go.Proofs.YtnmcgdpmikhohaaGreat
open Go Go.Sim
def inB(n lo hi:Int):Bool:=decide (lo<=n)&&decide (n<=hi)
def zh5(a:zy)(c:Int):Int:=if c=a.slots.length then a.dead.owner else (a.slots.getD c.toNat zfC).owner
def zgz(k:Int):Bool:=inB k 1 200
theorem zRJ(n lo hi:Int):zi G znU [.d (.int .i64 n),.d (.int .i64 lo),.d (.int .i64 hi)] []=some (.d (.bool (decide (lo<=n)&&decide (n<=hi))),[]):=by
 exact zW zWC
def zhj(a:zy)(c k:Int):zy:=if c=a.slots.length then { a with dead:={ a.dead with owner:=k } } else { a with slots:=a.slots.set c.toNat { a.slots.getD c.toNat zfC with owner:=k } }
def zcp(a:zy)(c k:Int):zy×Bool×Int:=if c<0\/(a.slots.length:Int)<c\/zgz k=false then (zM,false,1) else if zh5 a c=0 then (zhj a c k,true,0) else (a,false,0)
def zd2(a:zy)(c k:Int):zy×Int:=if c<0\/(a.slots.length:Int)<c\/zgz k=false then (zM,1) else if zh5 a c=k then (zhj a c 0,0) else (zM,13)
theorem ztL(k:Int):zi G zpG [.d (.int .i64 k)] []=some (.d (.bool (zgz k)),[]):=by
 unfold zgz inB;exact zW zW9
theorem zMT(a:zy)(c:Int)(hL:a.slots.length<=1000)(h0:0<=c)(h1:c<=a.slots.length):zi G zpv [.d (zx a),.d (.int .i64 c)] []=some (.d (.int .i64 (zh5 a c)),[]):=by
 unfold zh5;exact zW zW5
theorem zMR(a:zy)(c k:Int)(hL:a.slots.length<=1000)(h0:0<=c)(h1:c<=a.slots.length):zi G zpD [.d (zx a),.d (.int .i64 c),.d (.int .i64 k)] []=some (.d (zx (zhj a c k)),[]):=by
 unfold zhj
 by_cases h:c=a.slots.length
 ·simp only[zx,h,if_true];exact zW zIr
 ·have hne:¬a.slots.length=0:=by omega
  simp only[zx,h,if_false];exact zW zIr
theorem zaaD(a:zy)(c k:Int)(hL:a.slots.length<=1000):zi G zpA [.d (zx a),.d (.int .i64 c),.d (.int .i64 k)] []=some (.d (.tup [zx (zcp a c k).1,.bool (zcp a c k).2.1,.int .i64 (zcp a c k).2.2]),[]):=by
 have h2:=ztL k;unfold zcp
 by_cases c1:c<0\/(a.slots.length:Int)<c
 ·rw[zabo zo];exact zW zzA
 ·have h1:=zMT a c hL zo zo;have h3:=zMR a c k hL zo zo
  cases c2:zgz k
  ·rw[zabo (by simp)];exact zW zzA
  ·rw[zabn (by simp;omega)];exact zW zzA
theorem zaaL(a:zy)(c k:Int)(hL:a.slots.length<=1000):zi G zpB [.d (zx a),.d (.int .i64 c),.d (.int .i64 k)] []=some (.d (.tup [zx (zd2 a c k).1,.int .i64 (zd2 a c k).2]),[]):=by
 have h2:=ztL k;unfold zd2
 by_cases c1:c<0\/(a.slots.length:Int)<c
 ·rw[zabo zo];exact zW zzB
 ·have h1:=zMT a c hL zo zo;have h3:=zMR a c 0 hL zo zo
  cases c2:zgz k
  ·rw[zabo (by simp)];exact zW zzB
  ·rw[zabn (by simp;omega)];exact zW zzB
def ziY(cells:List Int)(k:Nat):Bool:=decide (0<=cells.getD k 0/\cells.getD k 0<=6/\(k=0\/cells.getD (k - 1) 0<cells.getD k 0))
def zg3(cells:List Int):zbI×Int:=
 if cells.length=0\/3<cells.length then (zd1,2) else if (List.range cells.length).all (ziY cells)=true then (⟨cells,0,0,0,0⟩,0) else (zd1,1)
def zL:Nat×Go.Sim.Obj:=(2,.row [.agg [.xsl [],.d (.int .i64 0),.d (.int .i64 0),.d (.int .i64 0),.d (.int .i64 0)]])
theorem zM0{k:Nat}(h:0<k):((k:Int) - 1).toNat=k - 1:=by omega
theorem zYD(cells:List Int)(hL:cells.length<=3):z6 G [] zAV ⟨[(0,.d (.sl (zC cells))),(2,.ref 2 0 0),(4,.d (.int .i64 0))],[zL]⟩=some (if (List.range cells.length).all (ziY cells)=true then (.exit 0,⟨[(0,.d (.sl (zC cells))),(2,.ref 2 0 0)],[zL]⟩) else (.ret,⟨[(2,.ref 2 0 0),(3,.d (.int .i64 1))],[zL]⟩)):=by
 refine zg5 (G:=G) cells.length (ziY cells) (fun k=>⟨[(0,.d (.sl (zC cells))),(2,.ref 2 0 0),(4,.d (.int .i64 k))],[zL]⟩) _ _ fun k hk L=> ?_;simp only[zAV,zL,ziY]
 by_cases h0:k<cells.length
 ·simp only[h0,if_true];have zk0:= @zM0;exact zS
 ·simp -implicitDefEqProofs (maxSteps:=4000000) (disch:=omega) only[go_sem,zabU]
theorem zYE(cells:List Int)(hL:cells.length<=4294967296):zi G zpI [.d (.sl (zC cells))] []=some (.d (.tup [zb2 (zg3 cells).1,.int .i64 (zg3 cells).2]),[]):=by
 unfold zg3
 by_cases c1:cells.length=0\/3<cells.length
 ·rw[zabo c1];exact zW zzD
 ·rw[zabn c1];have hl:=zYD cells zo;simp only[zL] at hl
  by_cases c2:(List.range cells.length).all (ziY cells)=true
  ·simp only[c2,if_true] at hl ⊢;have zk0:=zC.eq_1;exact zW zzD
  ·simp only[c2,if_false] at hl ⊢;have zk0:=zC.eq_1;exact zW zzD
def zcb(l:zbI):zbI×Int:=if l.phase=3 then ({ l with phase:=4 },0) else (zd1,7)
theorem zYC(l:zbI):zi G zpH [.d (zb2 l)] []=some (.d (.tup [zb2 (zcb l).1,.int .i64 (zcb l).2]),[]):=by
 unfold zcb;exact zW zXa
structure LWF(B:Int)(l:zbI):Prop where
 c1:1<=l.cells.length
 c2:l.cells.length<=3
 h0:0<=l.have_
 h1:l.have_<=l.cells.length
 t0:l.phase=0->l.have_<l.cells.length
 t1:l.phase=1->1<=l.have_
 t2:l.phase=2->l.have_=0/\1<=l.wait/\l.wait<=3
 t3:l.phase=3->l.have_=l.cells.length
 t4:l.phase=4->1<=l.have_
 t5:0<=l.phase/\l.phase<=5
 t6:l.phase=5->l.have_=0
 b0:0<=l.tries
 b1:l.tries<=B
def zmO(a:zy)(l:zbI)(k:Int):zy×zbI×Int:=
 if (zcp a (l.cells.getD l.have_.toNat 0) k).2.2=0 then
  (if (zcp a (l.cells.getD l.have_.toNat 0) k).2.1=true then ((zcp a (l.cells.getD l.have_.toNat 0) k).1,{ l with have_:=l.have_+1,phase:=if l.have_+1=l.cells.length then 3 else l.phase },0)
   else ((zcp a (l.cells.getD l.have_.toNat 0) k).1,{ l with phase:=if 0<l.have_ then 1 else l.phase },0))
 else (zM,zd1,(zcp a (l.cells.getD l.have_.toNat 0) k).2.2)
def zkw(l:zbI):zbI:=
 if 0<l.have_ - 1 then { l with have_:=l.have_ - 1 } else if l.phase=4 then { l with have_:=l.have_ - 1,phase:=5 } else { l with have_:=l.have_ - 1,tries:=l.tries+1,wait:=if 3<l.tries+1 then 3 else l.tries+1,phase:=2 }
def zkz(a:zy)(l:zbI)(k:Int):zy×zbI×Int:=
 if (zd2 a (l.cells.getD (l.have_ - 1).toNat 0) k).2=0 then ((zd2 a (l.cells.getD (l.have_ - 1).toNat 0) k).1,zkw l,0) else (zM,zd1,(zd2 a (l.cells.getD (l.have_ - 1).toNat 0) k).2)
def zaZ(a:zy)(l:zbI)(k:Int):zy×zbI×Int:=
 if l.phase=0 then zmO a l k else if l.phase=1\/l.phase=4 then zkz a l k else if l.phase=2 then (a,{ l with wait:=l.wait - 1,phase:=if l.wait - 1=0 then 0 else 2 },0) else (zM,zd1,7)
theorem zLX(a:zy)(l:zbI)(k:Int)(hL:a.slots.length<=1000)(hw:LWF 1000000 l):zi G zpJ [.d (zx a),.d (zb2 l),.d (.int .i64 k)] []=some (.d (.tup [zx (zaZ a l k).1,zb2 (zaZ a l k).2.1,.int .i64 (zaZ a l k).2.2]),[]):=by
 obtain⟨w1,w2,w3,w4,w5,w6,w7,w8,w9,w10,w11,w12,w13⟩:=hw;unfold zaZ zmO zkz zkw
 by_cases c0:l.phase=0
 ·have ht:=zaaD a (l.cells.getD l.have_.toNat 0) k hL;have hh:=w5 c0;rw[zabo c0];generalize zcp a (l.cells.getD l.have_.toNat 0) k=r at ht ⊢;obtain⟨r1,r2,r3⟩:=r;obtain⟨l1,l2,l3,l4,l5⟩:=l;simp only at *;rw[zh zo] at ht
  by_cases c1:r3=0
  ·rw[zabo c1];subst c1
   cases r2
   ·simp only[zabz,if_false];exact zW zfY
   ·simp only[if_true];exact zW zfY
  ·rw[zabn c1];exact zW zfY
 rw[zabn c0]
 by_cases c14:l.phase=1\/l.phase=4
 ·have ht:=zaaL a (l.cells.getD (l.have_ - 1).toNat 0) k hL;have hh:1<=l.have_:=by rcases c14 with h|h;exact w6 h;exact w9 h
  rw[zabo c14];generalize zd2 a (l.cells.getD (l.have_ - 1).toNat 0) k=r at ht ⊢;obtain⟨r1,r3⟩:=r;obtain⟨l1,l2,l3,l4,l5⟩:=l;simp only at *;rw[zh zo] at ht
  by_cases c1:r3=0
  ·rw[zabo c1];subst c1
   by_cases c2:3<l4+1
   ·simp only[c2,if_true]
    rcases c14 with c5|c5
    ·exact zW zfY
    ·exact zW zfY
   ·simp only[c2,if_false]
    rcases c14 with c5|c5
    ·exact zW zfY
    ·exact zW zfY
  ·rw[zabn c1]
   rcases c14 with c5|c5
   ·exact zW zfY
   ·exact zW zfY
 rw[zabn c14]
 by_cases c2:l.phase=2
 ·have:=w7 c2;rw[zabo c2];exact zW zfY
 ·have q:¬l.phase=1/\¬l.phase=4:=by omega
  obtain⟨q1,q2⟩:=q;rw[zabn c2];exact zW zfY
theorem zRv(a:zy)(c k:Int)(h:(zcp a c k).2.2=0):((zcp a c k).1=a/\(zcp a c k).2.1=false/\zh5 a c≠0)\/((zcp a c k).1=zhj a c k/\(zcp a c k).2.1=true/\zh5 a c=0):=by
 unfold zcp at *
 split at h
 ·cases h
 ·rename_i h1;rw[zabn h1]
  split
  ·rename_i h2;exact .inr ⟨rfl,rfl,h2⟩
  ·rename_i h2;exact .inl ⟨rfl,rfl,h2⟩
theorem zRw(a:zy)(c k:Int)(h:(zd2 a c k).2=0):(zd2 a c k).1=zhj a c 0/\zh5 a c=k:=by
 unfold zd2 at *
 split at h
 ·cases h
 ·rename_i h1;rw[zabn h1]
  split at h
  ·rename_i h2;rw[zabo h2];exact⟨rfl,h2⟩
  ·cases h
theorem zBa{B:Int}{a:zy}{l:zbI}{k:Int}(hw:LWF B l)(h:(zaZ a l k).2.2=0):
    LWF (B+1) (zaZ a l k).2.1/\(zaZ a l k).2.1.cells=l.cells/\((zaZ a l k).1=a\/∃c o,(zaZ a l k).1=zhj a c o):=by
 obtain⟨w1,w2,w3,w4,w5,w6,w7,w8,w9,w10,w11,w12,w13⟩:=hw;unfold zaZ at *
 by_cases c0:l.phase=0
 ·have hh:=w5 c0;rw[zabo c0] at h ⊢;unfold zmO at *
  by_cases c1:(zcp a (l.cells.getD l.have_.toNat 0) k).2.2=0
  ·rw[zabo c1] at h ⊢
   rcases zRv _ _ _ c1 with ⟨e1,e2,_⟩|⟨e1,e2,_⟩
   ·rw[zabn (by rw[e2];simp)] at h ⊢;refine⟨?_,rfl,.inl e1⟩
    by_cases c2:0<l.have_
    ·simp only[c2,if_true];constructor<;>simp only<;>omega
    ·simp only[c2,if_false,c0];constructor<;>simp only<;>omega
   ·rw[zabo e2] at h ⊢;refine⟨?_,rfl,.inr ⟨_,_,e1⟩⟩
    by_cases c2:l.have_+1=l.cells.length
    ·simp only[c2,if_true];constructor<;>simp only<;>first|omega|exact fun _=>trivial
    ·simp only[c2,if_false,c0];constructor<;>simp only<;>omega
  ·rw[zabn c1] at h;exact absurd h c1
 rw[zabn c0] at h ⊢
 by_cases c14:l.phase=1\/l.phase=4
 ·have hh:1<=l.have_:=by rcases c14 with h|h;exact w6 h;exact w9 h
  rw[zabo c14] at h ⊢;unfold zkz at *
  by_cases c1:(zd2 a (l.cells.getD (l.have_ - 1).toNat 0) k).2=0
  ·rw[zabo c1] at h ⊢;have hk:=zRw _ _ _ c1;refine⟨?_,?_,.inr ⟨_,_,hk.1⟩⟩
   ·simp only[zkw]
    by_cases c2:0<l.have_ - 1
    ·rw[zabo c2];constructor<;>simp only<;>omega
    ·rw[zabn c2]
     by_cases c3:l.phase=4
     ·rw[zabo c3];constructor<;>simp only<;>omega
     ·rw[zabn c3]
      by_cases c4:3<l.tries+1
      ·rw[zabo c4];constructor<;>simp only<;>omega
      ·rw[zabn c4];constructor<;>simp only<;>omega
   ·simp only[zkw]
    by_cases c2:0<l.have_ - 1
    ·rw[zabo c2]
    ·rw[zabn c2]
     by_cases c3:l.phase=4
     ·rw[zabo c3]
     ·rw[zabn c3]
  ·rw[zabn c1] at h;exact absurd h c1
 rw[zabn c14] at h ⊢
 by_cases c2:l.phase=2
 ·have hh:=w7 c2;rw[zabo c2] at h ⊢;refine⟨?_,rfl,.inl rfl⟩
  by_cases c3:l.wait - 1=0
  ·simp only[c3,if_true];constructor<;>simp only<;>omega
  ·simp only[c3,if_false];constructor<;>simp only<;>omega
 ·rw[zabn c2] at h
  cases h
theorem LWF.mono{B B':Int}{l:zbI}(h:LWF B l)(hb:B<=B'):LWF B' l:=⟨h.c1,h.c2,h.h0,h.h1,h.t0,h.t1,h.t2,h.t3,h.t4,h.t5,h.t6,h.b0,by have:=h.b1;omega⟩
theorem zsN{B:Int}{l:zbI}(h:LWF B l)(hp:l.phase=3):LWF B (zcb l).1/\(zcb l).1.cells=l.cells:=by
 have h3:=h.t3 hp;obtain⟨w1,w2,w3,w4,w5,w6,w7,w8,w9,w10,w11,w12,w13⟩:=h;unfold zcb;rw[zabo hp];exact⟨by constructor<;>simp only<;>omega,rfl⟩
structure zga(cs:List Int)(n:Int):Prop where
 p:cs.Pairwise (· < ·)
 b:∀c∈cs,0<=c/\c<=n
 l:cs.length<=3
theorem zga.at{cs:List Int}{n:Int}(h:zga cs n)(hn:n<=6):(List.range cs.length).all (ziY cs)=true:=by
 rw[zabO];intro k hk;have hk:=zack.1 hk;unfold ziY;have h1:=h.b cs[k] (zabC hk);rw[zh hk];refine zabM ⟨h1.1,by omega,?_⟩
 by_cases h0:k=0
 ·exact .inl h0
 ·right;rw[zh zo];exact zacu.1 h.p (k - 1) k zo hk zo
theorem zZb{cs:List Int}{n:Int}(h:zga cs n)(hn:n<=6)(h0:1<=cs.length):zg3 cs=(⟨cs,0,0,0,0⟩,0):=by
 unfold zg3;have:=h.l;rw[zabn zo,zabo (h.at hn)]
theorem zahM(l:List Span)(g:Nat)(cs:List D)(p:Span->Bool)(hL:l.length<=4294967296)(hp:∀a∈l,zi G g (.d (zca a)::cs.map .d) []=some (.d (.bool (p a)),[])):zi G zafh [.d (.sl (l.map zca)),.d (.fn g cs)] []=some (.d (.int .i64 (zbP p l)),[]):=by
 have:=ziZ (G:=G) (x:=zagj) (ks:=[]) l.length (atB l p) (fun k=>⟨[(0,.d (.sl (l.map zca))),(1,.d (.fn g cs)),(7,.d (.int .i64 l.length)),(8,.d (.int .i64 k))],[]⟩) (fun k=>(.ret,⟨[(4,.d (.int .i64 k))],[]⟩)) (.exit 0,⟨[],[]⟩) (fun k hk L=>by
  simp only[zagj]
  by_cases h0:k<l.length
  ·have h1:=hp l[k] (zabC h0);simp only[zgH h0]
   cases h2:p l[k]
   ·rw[h2] at h1;simp -implicitDefEqProofs (maxSteps:=4000000) (disch:=omega) only[go_sem,h1,zHk,zUO]
   ·rw[h2] at h1;simp -implicitDefEqProofs (maxSteps:=4000000) (disch:=omega) only[go_sem,h1,zHk,zUO]
  ·simp -implicitDefEqProofs (maxSteps:=4000000) (disch:=omega) only[go_sem,zabU])
 rw[zj6] at this;simp only[zNr,zB] at this;unfold zbP
 cases h:l.findIdx? p with
 | none=>rw[h] at this;rw[zI zahm (by simp)];simp -implicitDefEqProofs (maxSteps:=4000000) (disch:=omega) only[zafj,zafv,go_sem,this]
 | some i=>rw[h] at this;rw[zI zahm (by simp)];simp -implicitDefEqProofs (maxSteps:=4000000) (disch:=omega) only[zafj,zafv,go_sem,this]
theorem zaio(l:List Span)(g:Nat)(cs:List D)(p:Span->Bool)(hL:l.length<=4294967296)(hp:∀a∈l,zi G g (.d (zca a)::cs.map .d) []=some (.d (.bool (p a)),[])):zi G zafg [.d (.sl (l.map zca)),.d (.fn g cs)] []=some (.d (.bool (l.any p)),[]):=by
 rw[zI zai6 (by simp)];simp -implicitDefEqProofs (maxSteps:=4000000) (disch:=omega) only[zafC,zagq,go_sem,zahM l g cs p hL hp,zLJ]
def zaV(l:List Span)(slot:Int):Int:=zbP (fun x=>decide (x.shard=slot)) l
def zdb:Int->List Span->Option Int
 | n,[]=>some n
 | n,x::l=>if x.low=n/\x.low<=x.high/\x.high<65536 then zdb (x.high+1) l else none
def zde(F:List Int):Nat->Int->Int
 | 0,a=>a
 | m+1,a=>zde F m (if 0<=a then F.getD a.toNat 0 else a)
def ziK(d:Directory)(i:Nat):Bool:= !((decide (0<=zaV d.l i)&& !decide (d.forward.getD i 0= -1))||decide (d.forward.getD i 0< -1)||decide ((d.forward.length:Int)<=d.forward.getD i 0))
def zy7(d:Directory):Bool:=((List.range d.forward.length).all (ziK d))&&(List.range d.forward.length).all fun i=>decide (zde d.forward d.forward.length i<0)
def zhZ(n:Nat)(x:Span):Bool:=decide (x.shard<0)||decide ((n:Int)<=x.shard)
def zl8(l:List Span)(i:Nat):Bool:=decide (zaV l (l.getD i zeC).shard=i)
def zbl(d:Directory):Int:=
 if d.version<1\/1099511627776<d.version\/d.forward.length<1\/6<d.forward.length then 1
 else if zdb 0 d.l≠some 65536 then 7
 else if d.l.any (zhZ d.forward.length)=true then 4
 else if (List.range d.l.length).all (zl8 d.l)=false then 10
 else if zy7 d=false then 7 else 0
theorem zait(x:Span)(j:Int):zi G zaeN [.d (zca x),.d (.pd (.int .i64 j))] []=some (.d (.bool (decide (x.shard=j))),[]):=by
 simp only[zca];rw[zI zai0 (by simp)];simp -implicitDefEqProofs (maxSteps:=4000000) (disch:=omega) only[zafz,zago,go_sem,zabU]
theorem zabk(l:List Span)(j:Int)(hL:l.length<=4294967296):zi G zae1 [.d (.sl (l.map zca)),.d (.int .i64 j)] []=some (.d (.int .i64 (zaV l j)),[]):=by
 have:=zahM l zaeN [.pd (.int .i64 j)] (fun x=>decide (x.shard=j)) hL (fun a _=>zait a j);rw[zI zaiZ (by simp)];simp -implicitDefEqProofs (maxSteps:=4000000) (disch:=omega) only[zafy,zagn,go_sem,this];rfl
def zags(l:List Span)(k:Nat)(n:Int):zX×St:=match zdb n (l.drop k) with|some m=>(.exit 0,⟨[(3,.d (.int .i64 m))],[]⟩)|none=>(.ret,⟨[(2,.d (.bool false))],[]⟩)
theorem zaka(l:List Span)(hL:l.length<=4294967296):∀p:Nat×Int,p.1<=l.length/\0<=p.2/\p.2<=65536->z6 G [] zagf ⟨[(3,.d (.int .i64 p.2)),(6,.d (.sl (l.map zca))),(7,.d (.int .i64 l.length)),(8,.d (.int .i64 p.1))],[]⟩=some (zags l p.1 p.2):=by
 refine zaL (fun p:Nat×Int=>l.length - p.1) _ (fun p:Nat×Int=>⟨[(3,.d (.int .i64 p.2)),(6,.d (.sl (l.map zca))),(7,.d (.int .i64 l.length)),(8,.d (.int .i64 p.1))],[]⟩) _ fun⟨k,n⟩ ⟨hk,h1,h2⟩ L ih=> ?_;simp only at ih hk h1 h2 ⊢;simp only[zagf];unfold zags
 by_cases h0:k<l.length
 ·rw[zabX h0,zdb]
  by_cases c1:l[k].low=n
  ·by_cases c2:l[k].low<=l[k].high
   ·by_cases c3:l[k].high<65536
    ·have:=ih (k+1,l[k].high+1) ⟨by simp only;omega,by simp only;omega,by simp only;omega⟩ (by simp only;omega);simp only[zNr,zB] at this;rw[zabo ⟨c1,c2,c3⟩];simp -implicitDefEqProofs (maxSteps:=4000000) (disch:=omega) only[go_sem,zca,this];rfl
    ·rw[zabn (fun h=>c3 h.2.2)];simp -implicitDefEqProofs (maxSteps:=4000000) (disch:=omega) only[go_sem,zca]
   ·rw[zabn (fun h=>c2 h.2.1)];simp -implicitDefEqProofs (maxSteps:=4000000) (disch:=omega) only[go_sem,zca]
  ·rw[zabn (fun h=>c1 h.1)];simp -implicitDefEqProofs (maxSteps:=4000000) (disch:=omega) only[go_sem,zca,c1]
 ·rw[zaef zo,zdb];simp -implicitDefEqProofs (maxSteps:=4000000) (disch:=omega) only[go_sem,zabU]
theorem zakb(l:List Span)(hL:l.length<=4294967296):zi G zae3 [.d (.sl (l.map zca))] []=some (.d (.bool (decide (zdb 0 l=some 65536))),[]):=by
 have:=zaka l hL (0,0) ⟨by omega,by omega,by omega⟩;simp only[zags,zabZ] at this;simp only[zNr,zB] at this
 cases h:zdb 0 l with
 | none=>rw[h] at this;rw[zI zahk (by simp)];simp -implicitDefEqProofs (maxSteps:=4000000) (disch:=omega) only[zafi,zafu,go_sem,this]
 | some m=>
  rw[h] at this;rw[zI zahk (by simp)];simp -implicitDefEqProofs (maxSteps:=4000000) (disch:=omega) only[zafi,zafu,go_sem,this];simp
def obD(o:Nat)(d:Directory):Nat×Go.Sim.Obj:=(o,.row [.d (zaT d)])
theorem zaiT(d:Directory)(hL:d.l.length<=4294967296)(hF:d.forward.length<=6):z6 G [] zafn ⟨[(1,.ref 1 0 0),(9,.d (.sl (zC d.forward))),(10,.d (.int .i64 d.forward.length)),(11,.d (.int .i64 0))],[obD 1 d]⟩=some (if (List.range d.forward.length).all (ziK d)=true then (.exit 0,⟨[(1,.ref 1 0 0)],[obD 1 d]⟩) else (.ret,⟨[(2,.d (.bool false))],[]⟩)):=by
 have:=zg5 (G:=G) (x:=zafn) (ks:=[]) d.forward.length (ziK d) (fun k=>⟨[(1,.ref 1 0 0),(9,.d (.sl (zC d.forward))),(10,.d (.int .i64 d.forward.length)),(11,.d (.int .i64 k))],[obD 1 d]⟩) (.ret,⟨[(2,.d (.bool false))],[]⟩) (.exit 0,⟨[(1,.ref 1 0 0)],[obD 1 d]⟩) (fun k hk L=>by
  simp only[zafn,obD,zaT]
  by_cases h0:k<d.forward.length
  ·have hg:(d.forward.map (D.int .i64))[k]? = some (.int .i64 (d.forward.getD k 0)):=by simp [zabx h0,h0]
   unfold ziK;generalize d.forward.getD k 0=t at *
   by_cases c1:0<=zaV d.l k
   ·by_cases c2:t= -1
    ·simp -implicitDefEqProofs (maxSteps:=4000000) (disch:=omega) only[go_sem,hg,zabk,c1,c2]
    ·simp -implicitDefEqProofs (maxSteps:=4000000) (disch:=omega) only[go_sem,hg,zabk,c1,c2]
   ·by_cases c3:t< -1
    ·simp -implicitDefEqProofs (maxSteps:=4000000) (disch:=omega) only[go_sem,hg,zabk,c1,c3]
    ·by_cases c4:(d.forward.length:Int)<=t
     ·simp -implicitDefEqProofs (maxSteps:=4000000) (disch:=omega) only[go_sem,hg,zabk,c1,c3,c4]
     ·simp -implicitDefEqProofs (maxSteps:=4000000) (disch:=omega) only[go_sem,hg,zabk,c1,c3,c4]
  ·simp -implicitDefEqProofs (maxSteps:=4000000) (disch:=omega) only[go_sem,zabU])
 simp only[zNr,zB] at this;exact this
theorem zain(d:Directory)(i:Nat)(hF:d.forward.length<=6)(hv:∀a∈d.forward, -1<=a/\a<d.forward.length):∀p:Nat×Int,p.1<=d.forward.length/\ -1<=p.2/\p.2<d.forward.length->z6 G [] zafo ⟨[(1,.ref 1 0 0),(7,.d (.int .i64 p.2)),(40,.d (.int .i64 d.forward.length)),(41,.d (.int .i64 i)),(47,.d (.int .i64 d.forward.length)),(48,.d (.int .i64 p.1))],[obD 1 d]⟩=some (.exit 4,⟨[(1,.ref 1 0 0),(7,.d (.int .i64 (zde d.forward (d.forward.length - p.1) p.2))),(40,.d (.int .i64 d.forward.length)),(41,.d (.int .i64 i))],[obD 1 d]⟩):=by
 refine zaL (fun p:Nat×Int=>d.forward.length - p.1) _ (fun p:Nat×Int=>⟨[(1,.ref 1 0 0),(7,.d (.int .i64 p.2)),(40,.d (.int .i64 d.forward.length)),(41,.d (.int .i64 i)),(47,.d (.int .i64 d.forward.length)),(48,.d (.int .i64 p.1))],[obD 1 d]⟩) _ fun⟨k,a⟩ ⟨hk,h1,h2⟩ L ih=> ?_;simp only[obD,zaT] at ih hk h1 h2 ⊢;simp only[zafo]
 by_cases h0:k<d.forward.length
 ·rw[show d.forward.length - k=(d.forward.length - (k+1))+1 by omega,zde]
  by_cases c1:0<=a
  ·have hlt:a.toNat<d.forward.length:=by omega
   have hg:(d.forward.map (D.int .i64))[a.toNat]? = some (.int .i64 (d.forward.getD a.toNat 0)):=by simp [zabx hlt,hlt]
   have hm:=hv (d.forward.getD a.toNat 0) (by simp [hlt]);have:=ih (k+1,d.forward.getD a.toNat 0) ⟨by simp only;omega,hm.1,hm.2⟩ (by simp only;omega);rw[zabo c1];simp only[zNr,zB] at this;simp -implicitDefEqProofs (maxSteps:=4000000) (disch:=omega) only[go_sem,hg,this]
  ·have:=ih (k+1,a) ⟨by simp only;omega,h1,h2⟩ (by simp only;omega);rw[zabn c1];simp only[zNr,zB] at this;simp -implicitDefEqProofs (maxSteps:=4000000) (disch:=omega) only[go_sem,this]
 ·rw[show d.forward.length - k=0 by omega,zde];simp -implicitDefEqProofs (maxSteps:=4000000) (disch:=omega) only[go_sem,zabU]
theorem zaiS{d:Directory}(h:(List.range d.forward.length).all (ziK d)=true):∀a∈d.forward, -1<=a/\a<d.forward.length:=by
 intro a ha;obtain⟨i,hi,rfl⟩:=zadu.1 ha;have:=zabO.1 h i (zack.2 hi);unfold ziK at this;have e:d.forward.getD i 0=d.forward[i]:=by simp [hi]
 rw[e] at this;simp only[zace,zacY,decide_eq_false_iff_not] at this;omega
theorem zaiU(d:Directory)(hF:d.forward.length<=6)(hv:∀a∈d.forward, -1<=a/\a<d.forward.length):z6 G [] zafp ⟨[(1,.ref 1 0 0),(40,.d (.int .i64 d.forward.length)),(41,.d (.int .i64 0))],[obD 1 d]⟩=some (if ((List.range d.forward.length).all fun i=>decide (zde d.forward d.forward.length i<0))=true then (.exit 2,⟨[],[]⟩) else (.ret,⟨[(2,.d (.bool false))],[]⟩)):=by
 have:=zg5 (G:=G) (x:=zafp) (ks:=[]) d.forward.length (fun i=>decide (zde d.forward d.forward.length i<0)) (fun k=>⟨[(1,.ref 1 0 0),(40,.d (.int .i64 d.forward.length)),(41,.d (.int .i64 k))],[obD 1 d]⟩) (.ret,⟨[(2,.d (.bool false))],[]⟩) (.exit 2,⟨[],[]⟩) (fun k hk L=>by
  simp only[zafp]
  by_cases h0:k<d.forward.length
  ·have hc:=zain d k hF hv (0,(k:Int)) ⟨by omega,by simp only;omega,by simp only;omega⟩;simp only[obD,zaT,zacO] at hc ⊢;simp only[zNr,zB] at hc
   by_cases c1:zde d.forward d.forward.length k<0
   ·simp -implicitDefEqProofs (maxSteps:=4000000) (disch:=omega) only[go_sem,hc,c1]
   ·simp -implicitDefEqProofs (maxSteps:=4000000) (disch:=omega) only[go_sem,hc,c1]
  ·simp only[obD,zaT];simp -implicitDefEqProofs (maxSteps:=4000000) (disch:=omega) only[go_sem,zabU])
 simp only[zNr,zB] at this;exact this
theorem zaiR(d:Directory)(hL:d.l.length<=4294967296)(hF:d.forward.length<=6):zi G zae2 [.d (zaT d)] []=some (.d (.bool (zy7 d)),[]):=by
 have h1:=zaiT d hL hF;simp only[obD,zaT] at h1 ⊢;unfold zy7
 cases c1:(List.range d.forward.length).all (ziK d)
 ·rw[c1] at h1;simp only[zabz,if_false] at h1;rw[zI zaf3 (by simp)];simp -implicitDefEqProofs (maxSteps:=4000000) (disch:=omega) only[zaeO,zaeR,go_sem,h1]
 ·rw[c1] at h1;simp only[if_true] at h1;have h2:=zaiU d hF (zaiS c1);simp only[obD,zaT] at h2
  cases c2:((List.range d.forward.length).all fun i=>decide (zde d.forward d.forward.length i<0))
  ·rw[c2] at h2;simp only[zabz,if_false] at h2;rw[zI zaf3 (by simp)];simp -implicitDefEqProofs (maxSteps:=4000000) (disch:=omega) only[zaeO,zaeR,go_sem,h1,h2]
  ·rw[c2] at h2;simp only[if_true] at h2;rw[zI zaf3 (by simp)];simp -implicitDefEqProofs (maxSteps:=4000000) (disch:=omega) only[zaeO,zaeR,go_sem,h1,h2]
theorem zaip(n:Nat)(x:Span):zi G zaeM [.d (zca x),.d (.pd (.int .i64 n))] []=some (.d (.bool (zhZ n x)),[]):=by
 simp only[zca];unfold zhZ;rw[zI zaiY (by simp)];simp -implicitDefEqProofs (maxSteps:=4000000) (disch:=omega) only[zafx,zagm,go_sem,zabU]
theorem zaiq(d:Directory)(hL:d.l.length<=4294967296):z6 G [] zafm ⟨[(1,.ref 1 0 0),(37,.d (.sl (d.l.map zca))),(38,.d (.int .i64 d.l.length)),(39,.d (.int .i64 0))],[obD 1 d]⟩=some (if (List.range d.l.length).all (zl8 d.l)=true then (.exit 1,⟨[(1,.ref 1 0 0)],[obD 1 d]⟩) else (.ret,⟨[(2,.d (.int .i64 10))],[]⟩)):=by
 have:=zg5 (G:=G) (x:=zafm) (ks:=[]) d.l.length (zl8 d.l) (fun k=>⟨[(1,.ref 1 0 0),(37,.d (.sl (d.l.map zca))),(38,.d (.int .i64 d.l.length)),(39,.d (.int .i64 k))],[obD 1 d]⟩) (.ret,⟨[(2,.d (.int .i64 10))],[]⟩) (.exit 1,⟨[(1,.ref 1 0 0)],[obD 1 d]⟩) (fun k hk L=>by
  simp only[zafm,obD,zaT]
  by_cases h0:k<d.l.length
  ·have hg:d.l.getD k zeC=d.l[k]:=by simp [h0]
   unfold zl8;rw[hg]
   by_cases c1:zaV d.l d.l[k].shard=k
   ·simp -implicitDefEqProofs (maxSteps:=4000000) (disch:=omega) only[go_sem,zca,zabk,c1]
   ·simp -implicitDefEqProofs (maxSteps:=4000000) (disch:=omega) only[go_sem,zca,zabk,c1]
  ·simp -implicitDefEqProofs (maxSteps:=4000000) (disch:=omega) only[go_sem,zabU])
 simp only[zNr,zB] at this;exact this
theorem zair(d:Directory)(hL:d.l.length<=4294967296)(hF:d.forward.length<=4294967296):zi G zae0 [.d (zaT d)] []=some (.d (.int .i64 (zbl d)),[]):=by
 unfold zbl
 by_cases c1:d.version<1
 ·rw[zabo (Or.inl c1)];simp only[zaT];rw[zI zabc (by simp)];simp -implicitDefEqProofs (maxSteps:=4000000) (disch:=omega) only[zaaY,zaa9,go_sem,zabU]
 by_cases c2:1099511627776<d.version
 ·rw[zabo (Or.inr (Or.inl c2))];simp only[zaT];rw[zI zabc (by simp)];simp -implicitDefEqProofs (maxSteps:=4000000) (disch:=omega) only[zaaY,zaa9,go_sem,zabU]
 by_cases c3:d.forward.length<1
 ·rw[zabo (Or.inr (Or.inr (Or.inl c3)))];simp only[zaT];rw[zI zabc (by simp)];simp -implicitDefEqProofs (maxSteps:=4000000) (disch:=omega) only[zaaY,zaa9,go_sem,zabU]
 by_cases c4:6<d.forward.length
 ·rw[zabo (Or.inr (Or.inr (Or.inr c4)))];simp only[zaT];rw[zI zabc (by simp)];simp -implicitDefEqProofs (maxSteps:=4000000) (disch:=omega) only[zaaY,zaa9,go_sem,zabU]
 rw[zabn zo];have ht:=zakb d.l hL;have hm:=zaio d.l zaeM [.pd (.int .i64 d.forward.length)] (zhZ d.forward.length) hL (fun a _=>zaip _ a);have hd:=zaiq d hL;have hf:=zaiR d hL zo;simp only[zaT,obD] at hd hf ⊢
 by_cases c5:zdb 0 d.l=some 65536
 ·simp only[c5,decide_true] at ht;simp only[c5,ne_eq,zabD,if_false]
  cases c6:d.l.any (zhZ d.forward.length)
  ·rw[c6] at hm
   cases c7:(List.range d.l.length).all (zl8 d.l)
   ·rw[c7] at hd;simp only[zabz,if_false] at hd;rw[zI zabc (by simp)];simp -implicitDefEqProofs (maxSteps:=4000000) (disch:=omega) only[zaaY,zaa9,go_sem,ht,hm,hd]
   ·rw[c7] at hd;simp only[if_true] at hd
    cases c8:zy7 d
    ·rw[c8] at hf;rw[zI zabc (by simp)];simp -implicitDefEqProofs (maxSteps:=4000000) (disch:=omega) only[zaaY,zaa9,go_sem,ht,hm,hd,hf]
    ·rw[c8] at hf;rw[zI zabc (by simp)];simp -implicitDefEqProofs (maxSteps:=4000000) (disch:=omega) only[zaaY,zaa9,go_sem,ht,hm,hd,hf]
  ·rw[c6] at hm;rw[zI zabc (by simp)];simp -implicitDefEqProofs (maxSteps:=4000000) (disch:=omega) only[zaaY,zaa9,go_sem,ht,hm]
 ·simp only[c5,decide_false] at ht;simp only[c5,ne_eq,zabV,if_true];rw[zI zabc (by simp)];simp -implicitDefEqProofs (maxSteps:=4000000) (disch:=omega) only[zaaY,zaa9,go_sem,ht]
def zld(d:Directory)(slot:Int):Span×Bool:=if zbl d=0/\0<=zaV d.l slot then (d.l.getD (zaV d.l slot).toNat zeC,true) else (zeC,false)
def rD(d:Directory)(o:Nat):Nat×Go.Sim.Obj:=(o,.row [.d (zaT d)])
theorem zkU(d:Directory)(j:Int)(hL:d.l.length<=4294967296):zi G zph [.d (zaT d),.d (.int .i64 j)] []=some (.d (.int .i64 (zaV d.l j)),[]):=by
 have:=ziZ (G:=G) (x:=zAS) (ks:=[]) d.l.length (atB d.l fun x=>decide (x.shard=j)) (fun k=>⟨[(1,.d (.int .i64 j)),(2,.ref 2 0 0),(5,.d (.int .i64 k))],[(2,.row [.d (zaT d)])]⟩) (fun k=>(.ret,⟨[(4,.d (.int .i64 k))],[]⟩)) (.exit 0,⟨[],[]⟩) (fun k hk L=>by
  simp only[zAS]
  by_cases h0:k<d.l.length
  ·simp only[h0,if_true,zgH h0];exact zS
  ·exact zS)
 rw[zj6] at this;simp only[zNr,zB] at this;unfold zaV zbP
 cases h:d.l.findIdx? (fun x=>decide (x.shard=j)) with
 | none=>rw[h] at this;clear h;exact zW zIl
 | some i=>rw[h] at this;clear h;exact zW zIl
theorem z6L(d:Directory)(n:Int)(hL:d.l.length<=4294967296):∀p:Nat×Int,p.1<=d.l.length/\0<=p.2/\p.2<=65536->z6 G [] zAP ⟨[(1,.ref 1 0 0),(3,.d (.int .i64 n)),(4,.d (.int .i64 p.2)),(5,.d (.int .i64 p.1))],[rD d 1]⟩=some (match zdb p.2 (d.l.drop p.1) with|some m=>(.exit 0,⟨[(1,.ref 1 0 0),(3,.d (.int .i64 n)),(4,.d (.int .i64 m))],[rD d 1]⟩)|none=>(.ret,⟨[(2,.d (.int .i64 7))],[]⟩)):=by
 refine zaL (fun p:Nat×Int=>d.l.length - p.1) _ (fun p:Nat×Int=>⟨[(1,.ref 1 0 0),(3,.d (.int .i64 n)),(4,.d (.int .i64 p.2)),(5,.d (.int .i64 p.1))],[rD d 1]⟩) _ fun⟨k,m⟩ ⟨hk,h1,h2⟩ L ih=> ?_;simp only at ih hk h1 h2 ⊢;simp only[zAP,rD] at ih ⊢
 by_cases h0:k<d.l.length
 ·rw[zabX h0,zdb]
  by_cases c:d.l[k].low=m/\d.l[k].low<=d.l[k].high/\d.l[k].high<65536
  ·have i1:=ih (k+1,d.l[k].high+1) ⟨by simp only;omega,by simp only;omega,by simp only;omega⟩ (by simp only;omega);simp only at i1;rw[zabo c];clear ih;generalize zdb (d.l[k].high+1) (d.l.drop (k+1))=z at *;simp only[zNr,zB] at i1
   cases z with
   | none=>exact zS
   | some z=>exact zS
  ·rw[zabn c];clear ih;exact zS
 ·rw[zaef zo,zdb];clear ih;exact zS
theorem z6M(d:Directory)(n:Nat)(hL:d.l.length<=4294967296)(hn:n<=6):z6 G [] zsD ⟨[(1,.ref 1 0 0),(3,.d (.int .i64 n)),(7,.d (.int .i64 0))],[rD d 1]⟩=some (if d.l.any (zhZ n)=true then (.ret,⟨[(2,.d (.int .i64 4))],[]⟩) else (.exit 2,⟨[(1,.ref 1 0 0),(3,.d (.int .i64 n))],[rD d 1]⟩)):=by
 have:=ziZ (G:=G) (x:=zsD) (ks:=[]) d.l.length (atB d.l (zhZ n)) (fun k=>⟨[(1,.ref 1 0 0),(3,.d (.int .i64 n)),(7,.d (.int .i64 k))],[rD d 1]⟩) (fun k=>(.ret,⟨[(2,.d (.int .i64 4))],[]⟩)) (.exit 2,⟨[(1,.ref 1 0 0),(3,.d (.int .i64 n))],[rD d 1]⟩) (fun k hk L=>by
  simp only[zsD,rD]
  by_cases h0:k<d.l.length
  ·simp only[h0,if_true,zgH h0];unfold zhZ;exact zS
  ·exact zS)
 rw[zj6] at this;simp only[zNr,zB] at this;rw[this]
 congr 1
 have e:=zLJ d.l (zhZ n);unfold zbP at e
 cases h:d.l.findIdx? (zhZ n) with
 | none=>rw[h] at e;rw[<- e];rfl
 | some i=>rw[h] at e;rw[<- e];simp
theorem z6N(d:Directory)(n:Nat)(hL:d.l.length<=4294967296):z6 G [] zAQ ⟨[(1,.ref 1 0 0),(3,.d (.int .i64 n)),(8,.d (.int .i64 0))],[rD d 1]⟩=some (if (List.range d.l.length).all (zl8 d.l)=true then (.exit 4,⟨[(1,.ref 1 0 0),(3,.d (.int .i64 n))],[rD d 1]⟩) else (.ret,⟨[(2,.d (.int .i64 10))],[]⟩)):=by
 refine zg5 (G:=G) d.l.length (zl8 d.l) (fun k=>⟨[(1,.ref 1 0 0),(3,.d (.int .i64 n)),(8,.d (.int .i64 k))],[rD d 1]⟩) _ _ fun k hk L=> ?_;simp only[zAQ,rD]
 by_cases h0:k<d.l.length
 ·have hi:=zkU d (d.l[k]).shard hL;simp only[h0,if_true];unfold zl8;rw[zh h0];exact zS
 ·exact zS
theorem z6O(d:Directory)(hL:d.l.length<=4294967296)(hF:d.forward.length<=6):z6 G [] zAR ⟨[(1,.ref 1 0 0),(3,.d (.int .i64 d.forward.length)),(9,.d (.int .i64 0))],[rD d 1]⟩=some (if (List.range d.forward.length).all (ziK d)=true then (.exit 6,⟨[(1,.ref 1 0 0),(3,.d (.int .i64 d.forward.length))],[rD d 1]⟩) else (.ret,⟨[(2,.d (.int .i64 7))],[]⟩)):=by
 refine zg5 (G:=G) d.forward.length (ziK d) (fun k=>⟨[(1,.ref 1 0 0),(3,.d (.int .i64 d.forward.length)),(9,.d (.int .i64 k))],[rD d 1]⟩) _ _ fun k hk L=> ?_;simp only[zAR,rD]
 by_cases h0:k<d.forward.length
 ·have hi:=zkU d k hL;simp only[h0,if_true];unfold ziK;rw[zh h0];exact zS
 ·exact zS
theorem zGF(F:List Int):∀(m:Nat) (a:Int),a<0->zde F m a=a
 | 0,a,_=>rfl
 | m+1,a,h=>by rw[zde,zabn zo,zGF F m a h]
theorem z6P(d:Directory)(i:Nat)(hF:d.forward.length<=6)(hv:∀a∈d.forward, -1<=a/\a<d.forward.length):∀p:Nat×Int,p.1<=d.forward.length/\ -1<=p.2/\p.2<d.forward.length->z6 G [] zsE ⟨[(1,.ref 1 0 0),(3,.d (.int .i64 d.forward.length)),(10,.d (.int .i64 i)),(11,.d (.int .i64 p.2)),(12,.d (.int .i64 p.1))],[rD d 1]⟩=some (.exit 10,⟨[(1,.ref 1 0 0),(3,.d (.int .i64 d.forward.length)),(10,.d (.int .i64 i)),(11,.d (.int .i64 (zde d.forward (d.forward.length - p.1) p.2)))],[rD d 1]⟩):=by
 refine zaL (fun p:Nat×Int=>d.forward.length - p.1) _ (fun p:Nat×Int=>⟨[(1,.ref 1 0 0),(3,.d (.int .i64 d.forward.length)),(10,.d (.int .i64 i)),(11,.d (.int .i64 p.2)),(12,.d (.int .i64 p.1))],[rD d 1]⟩) _ fun⟨k,a⟩ ⟨hk,h1,h2⟩ L ih=> ?_;simp only[rD] at ih hk h1 h2 ⊢;simp only[zsE]
 by_cases h0:k<d.forward.length
 ·by_cases c1:0<=a
  ·have hlt:a.toNat<d.forward.length:=by omega
   have hm:=hv (d.forward[a.toNat]) (zabC _);have i1:=ih (k+1,d.forward[a.toNat]) ⟨by simp only;omega,by simp only;omega,by simp only;omega⟩ (by simp only;omega);rw[show d.forward.length - k=(d.forward.length - (k+1))+1 by omega,zde,zabo c1,zh hlt];simp only at i1;generalize zde d.forward (d.forward.length - (k+1)) d.forward[a.toNat]=z at *;clear ih hv;simp only[zNr,zB] at i1;exact zS
  ·rw[zGF _ _ _ zo];clear ih hv;exact zS
 ·rw[show d.forward.length - k=0 by omega,zde];clear ih hv;exact zS
theorem z6Q(d:Directory)(hF:d.forward.length<=6)(hv:∀a∈d.forward, -1<=a/\a<d.forward.length):z6 G [] zsF ⟨[(1,.ref 1 0 0),(3,.d (.int .i64 d.forward.length)),(10,.d (.int .i64 0))],[rD d 1]⟩=some (if ((List.range d.forward.length).all fun i=>decide (zde d.forward d.forward.length i<0))=true then (.exit 8,⟨[],[]⟩) else (.ret,⟨[(2,.d (.int .i64 7))],[]⟩)):=by
 refine zg5 (G:=G) d.forward.length (fun i=>decide (zde d.forward d.forward.length i<0)) (fun k=>⟨[(1,.ref 1 0 0),(3,.d (.int .i64 d.forward.length)),(10,.d (.int .i64 k))],[rD d 1]⟩) _ _ fun k hk L=> ?_
 by_cases h0:k<d.forward.length
 ·have hl:=z6P d k hF hv (0,k) ⟨by omega,by omega,by omega⟩;simp only[zacO,rD] at hl;simp only[zsF,rD,h0,if_true];generalize zde d.forward d.forward.length k=z at *;clear hv;simp only[zNr,zB] at hl;exact zS
 ·clear hv;simp only[zsF,rD];exact zS
theorem zkV(d:Directory)(hL:d.l.length<=4294967296):zi G zpg [.d (zaT d)] []=some (.d (.int .i64 (zbl d)),[]):=by
 have l0:=fun n=>z6L d n hL (0,0) ⟨by omega,by omega,by omega⟩;simp only[zabZ,rD,zabQ] at l0;unfold zbl
 by_cases c1:d.version<1\/1099511627776<d.version\/d.forward.length<1\/6<d.forward.length
 ·rw[zabo c1];clear l0;exact zW zhM
 rw[zabn c1];have l1:=z6M d d.forward.length hL zo;have l2:=z6N d d.forward.length hL;have l3:=z6O d hL zo;simp only[rD] at l1 l2 l3;replace l0:=l0 d.forward.length
 by_cases c2:zdb 0 d.l=some 65536
 ·rw[zabn (by simp [c2])];rw[c2] at l0;simp only at l0
  cases c3:d.l.any (zhZ d.forward.length)
  ·rw[c3,zabn (by simp)] at l1;rw[zabn (by simp)]
   cases c4:(List.range d.l.length).all (zl8 d.l)
   ·rw[c4,zabn (by simp)] at l2;rw[zabo rfl];clear c2 c3 c4 l3;exact zW zhM
   ·rw[c4,zabo rfl] at l2;rw[zabn (by simp)];unfold zy7
    cases c5:(List.range d.forward.length).all (ziK d)
    ·rw[c5,zabn (by simp)] at l3;rw[zacd,zabo rfl];clear c2 c3 c4 c5;exact zW zhM
    ·rw[c5,zabo rfl] at l3;rw[zacA];have l5:=z6Q d zo (by
      intro a ha;obtain⟨i,hi,e⟩:=zadc ha;have:=(zabO.1 c5) i (zack.2 hi);unfold ziK at this;rw[zh hi,e] at this;simp only[zace,zacY,decide_eq_false_iff_not] at this;omega)
     simp only[rD] at l5
     cases c6:(List.range d.forward.length).all fun i=>decide (zde d.forward d.forward.length i<0)
     ·rw[c6,zabn (by simp)] at l5;rw[zabo rfl];clear c2 c3 c4 c5 c6;exact zW zhM
     ·rw[c6,zabo rfl] at l5;rw[zabn (by simp)];clear c2 c3 c4 c5 c6;exact zW zhM
  ·rw[c3,zabo rfl] at l1;rw[zabo rfl];clear c2 c3 l2 l3;exact zW zhM
 ·rw[zabo c2]
  cases c3:zdb 0 d.l with
  | none=>
   rw[c3] at l0;simp only at l0;clear c2 c3 l1 l2 l3;exact zW zhM
  | some m=>
   rw[c3] at l0;simp only at l0;have hm:¬m=65536:=fun e=>c2 (by rw[c3,e]);clear c2 c3 l1 l2 l3;exact zW zhM
def inS(r:Int)(x:Span):Bool:=decide (x.low<=r)&&decide (r<=x.high)
def zem(d:Directory)(r:Int):Int:=if zbl d=0 then (match d.l.findIdx? (inS r) with|some i=>(d.l.getD i zeC).shard|none=> -1) else -1
theorem z6J(d:Directory)(r:Int)(hL:d.l.length<=4294967296)(hv:zbl d=0):z6 G [] ziU ⟨[(1,.d (.int .i64 r)),(2,.ref 2 0 0),(5,.d (.int .i64 0))],[rD d 2]⟩=some (zhI d.l.length (atB d.l (inS r)) (fun k=>(.ret,⟨[(4,.d (.int .i64 (d.l.getD k zeC).shard))],[]⟩)) (.exit 0,⟨[],[]⟩)):=by
 have hval:=zkV d hL;rw[hv] at hval;refine ziZ (G:=G) d.l.length (atB d.l (inS r)) (fun k=>⟨[(1,.d (.int .i64 r)),(2,.ref 2 0 0),(5,.d (.int .i64 k))],[rD d 2]⟩) _ _ fun k hk L=> ?_;clear hv;simp only[ziU,rD]
 by_cases h0:k<d.l.length
 ·simp only[h0,if_true,zgH h0];unfold inS;exact zS
 ·exact zS
theorem zNq(d:Directory)(r:Int)(hL:d.l.length<=4294967296):zi G zpe [.d (zaT d),.d (.int .i64 r)] []=some (.d (.int .i64 (zem d r)),[]):=by
 unfold zem
 by_cases c:zbl d=0
 ·have hl:=z6J d r hL c;rw[zj6] at hl;rw[zabo c];simp only[rD] at hl
  cases h:d.l.findIdx? (inS r) with
  | none=>rw[h] at hl;clear h c;exact zW zrN
  | some i=>rw[h] at hl;clear h c;exact zW zrN
 ·rw[zabn c];have hval:=zkV d hL
  by_cases h0:0<d.l.length
  ·have zk0:= @zaC;have zk1:=ziU.eq_1;exact zW zrN
  ·have zk0:= @zaC;have zk1:=ziU.eq_1;exact zW zrN
theorem z6K(d:Directory)(j:Int)(hL:d.l.length<=4294967296):zi G zpf [.d (zaT d),.d (.int .i64 j)] []=some (.d (.tup [zca (zld d j).1,.bool (zld d j).2]),[]):=by
 have hval:=zkV d hL;have hi:=zkU d j hL;have hb:=zsd d.l (fun x=>decide (x.shard=j));change -1<=zaV d.l j/\zaV d.l j<d.l.length at hb;unfold zld
 by_cases c:zbl d=0/\0<=zaV d.l j
 ·obtain⟨c1,c2⟩:=c;rw[c1] at hval;rw[zabo ⟨c1,c2⟩];clear c1;exact zW zzx
 ·rw[zabn c]
  by_cases c1:zbl d=0
  ·have c2:¬0<=zaV d.l j:=fun h=>c ⟨c1,h⟩;rw[c1] at hval;clear c c1;exact zW zzx
  ·clear c;exact zW zzx
def zgl(d:Directory):Nat->Int->Int
 | 0,a=>a
 | m+1,a=>if 0<=a/\zaV d.l a<0 then zgl d m (d.forward.getD a.toNat 0) else a
def zki(d:Directory)(a:Int):Int:=if zbl d≠0\/a<0\/(d.forward.length:Int)<=a then -1 else zgl d d.forward.length a
theorem zHV{d:Directory}(h:zbl d=0):d.forward.length<=6/\d.l.length<=4294967296->(∀a∈d.forward, -1<=a/\a<d.forward.length)/\∀i:Nat,i<d.forward.length->zde d.forward d.forward.length i<0:=by
 intro _;unfold zbl at h
 split at h
 ·cases h
 split at h
 ·cases h
 split at h
 ·cases h
 split at h
 ·cases h
 split at h
 ·cases h
 rename_i h5;simp only[zaen] at h5;unfold zy7 at h5;rw[zabH] at h5;refine⟨fun a ha=> ?_,fun i hi=>by simpa using (zabO.1 h5.2) i (zack.2 hi)⟩;obtain⟨i,hi,e⟩:=zadc ha;have:=(zabO.1 h5.1) i (zack.2 hi);unfold ziK at this;rw[zh hi,e] at this;simp only[zace,zacY,decide_eq_false_iff_not] at this;omega
theorem zjZ{d:Directory}(h:zbl d=0):1<=d.forward.length/\d.forward.length<=6/\1<=d.version/\d.version<=1099511627776:=by
 unfold zbl at h
 split at h
 ·cases h
 ·omega
theorem z6H(d:Directory)(hL:d.l.length<=4294967296)(hv:∀a∈d.forward, -1<=a/\a<d.forward.length)(hF:d.forward.length<=6):∀p:Nat×Int,zde d.forward p.1 p.2<0/\ -1<=p.2/\p.2<d.forward.length->z6 G [18] zAM ⟨[(1,.d (.int .i64 p.2)),(2,.ref 2 0 0)],[rD d 2]⟩=some (.exit 0,⟨[(1,.d (.int .i64 (zgl d p.1 p.2)))],[]⟩):=by
 refine zaL (fun p:Nat×Int=>p.1) _ (fun p:Nat×Int=>⟨[(1,.d (.int .i64 p.2)),(2,.ref 2 0 0)],[rD d 2]⟩) _ fun⟨m,a⟩ ⟨hc,h1,h2⟩ L ih=> ?_;simp only[rD] at ih hc h1 h2 ⊢;simp only[zAM];have hi:=zkU d a hL
 by_cases c:0<=a/\zaV d.l a<0
 ·obtain⟨c1,c2⟩:=c
  rcases m with _|m
  ·simp only[zde] at hc;omega
  have hlt:a.toNat<d.forward.length:=by omega
  have hm:=hv (d.forward[a.toNat]) (zabC _);rw[zde,zabo c1,zh hlt] at hc;have i1:=ih (m,d.forward[a.toNat]) ⟨hc,hm.1,hm.2⟩ (by simp only;omega);rw[zgl,zabo ⟨c1,c2⟩,zh hlt];simp only at i1;generalize zgl d m d.forward[a.toNat]=z at *;clear ih hv hc;exact zS
 ·have e:zgl d m a=a:=by
     rcases m with _|m
     ·rfl
     ·rw[zgl,zabn c]
  rw[e];clear ih hv hc e
  by_cases c1:0<=a
  ·have c2:¬zaV d.l a<0:=fun h=>c ⟨c1,h⟩;clear c;exact zS
  ·clear c;exact zS
theorem z6I(d:Directory)(a:Int)(hL:d.l.length<=4294967296):zi G zpc [.d (zaT d),.d (.int .i64 a)] []=some (.d (.int .i64 (zki d a)),[]):=by
 have hval:=zkV d hL;unfold zki
 by_cases c0:zbl d=0
 ·have hl:=zjZ c0;have hv:=zHV c0 ⟨hl.2.1,hL⟩;rw[c0] at hval
  by_cases c:a<0\/(d.forward.length:Int)<=a
  ·rw[zabo (.inr c)];clear hv c0;exact zW zzw
  ·rw[zabn (by rw[c0];simp;omega)];have hc:=hv.2 a.toNat zo;rw[show ((a.toNat:Nat):Int)=a by omega] at hc;have hlp:=z6H d hL hv.1 hl.2.1 (d.forward.length,a) ⟨hc,by simp only;omega,by simp only;omega⟩;simp only[rD] at hlp;clear hv c0 hc;exact zW zzw
 ·rw[zabo (.inl c0)];exact zW zzw
theorem ztW{k n:Nat}(h:k<n)(hn:n<=LIM):IntKind.i64.wrap ((k:Int)+1)=((k+1:Nat):Int):=by
 unfold LIM at hn;rw[Go.IntWalk.i64_in _ zo];simp
def zrb(a b:Int):Int:=if a<b then -1 else if b<a then 1 else 0
def zGJ(a b:Due):Int:=if zrb a.1 b.1=0 then zrb a.2 b.2 else zrb a.1 b.1
def lt(a b:Due):Bool:=decide (zGJ a b<0)
def zdZ(d:Due):Bool:=decide (0<=d.1)&&(decide (d.1<=1073741824)&&(decide (1<=d.2)&&decide (d.2<=1073741824)))
def zbh(h:List Due)(j:Int):Int:=zbP (fun d=>decide (d.2=j)) h
def zhD(h:List Due)(i:Nat):Bool:=decide (zbh h (h.getD i (0,0)).2≠i)
def zh4(h:List Due)(i:Nat):Bool:=lt (h.getD i (0,0)) (h.getD ((i - 1) / 2) (0,0))
def zce(h:List Due):Int:=if 12<h.length then 2 else if h.any (fun d=> !zdZ d) then 1 else if (List.range' 0 h.length).any (zhD h) then 10 else if (List.range' 1 (h.length - 1)).any (zh4 h) then 11 else 0
def swp(l:List Due)(i j:Nat):List Due:=(l.set i (l.getD j (0,0))).set j (l.getD i (0,0))
theorem zcP(l:List Due)(i j:Nat):(swp l i j).length=l.length:=by simp [swp]
def upL(l:List Due)(i:Nat):List Due×Nat:=
 if 0<i then
  if lt (l.getD i (0,0)) (l.getD ((i - 1) / 2) (0,0)) then upL (swp l i ((i - 1) / 2)) ((i - 1) / 2) else (l,i)
 else (l,i)
termination_by i
decreasing_by omega
theorem zaaR(l:List Due)(i:Nat):(upL l i).1.length=l.length:=by
 fun_induction upL l i with
 | case1 l i h0 h1 ih=>rw[ih,zcP]
 | case2=>rfl
 | case3=>rfl
def zbs(l:List Due)(i:Nat):List Due:=
 if _h:2 * i+1<l.length then
  let k:=if 2 * i+1+1<l.length/\lt (l.getD (2 * i+1+1) (0,0)) (l.getD (2 * i+1) (0,0)) then 2 * i+1+1 else 2 * i+1
  if lt (l.getD k (0,0)) (l.getD i (0,0)) then zbs (swp l i k) k else l
 else l
termination_by l.length - i
decreasing_by simp only[zcP];split<;>omega
def zfk(h:List Due)(d:Due):List Due:=(upL (h++[d]) h.length).1
def zm9(h:List Due)(d:Due):Int:=if zce h≠0 then zce h else if zdZ d=false then 1 else if h.length=12 then 3 else if 0<=zbh h d.2 then 10 else 0
def zfj(h:List Due)(d:Due):List Due×Int:=(if zm9 h d=0 then zfk h d else [],zm9 h d)
def eDE(r:List Due×Int):D:= .tup [.sl (r.1.map eD),.int .i64 r.2]
theorem zDe{h:List Due}(h0:zce h=0):h.length<=12:=by
 unfold zce at h0
 split at h0
 ·cases h0
 ·omega
def zdB(h:List Due)(i:Nat):List Due:=
 if i=h.length - 1 then h.take (h.length - 1) else
 let l:=(h.take (h.length - 1)).set i (h.getD (h.length - 1) (0,0))
 if (upL l i).2=i then zbs (upL l i).1 i else (upL l i).1
def zb6(h:List Due)(id:Int):List Due×Int:=
 if zce h≠0 then ([],zce h) else if zbh h id<0 then ([],4) else (zdB h (zbh h id).toNat,0)
theorem zV1(h:List Due)(id:Int):zbh h id<h.length:=by
 unfold zbh zbP
 cases e:List.findIdx? (fun d:Due=>decide (d.2=id)) h with
 | none=>simp only;omega
 | some i=>have:=(zact.1 e).1;simp only;omega
abbrev dz:Due:=(0,0)
theorem zBe(a b:Due):lt a b=true↔a.1<b.1\/(a.1=b.1/\a.2<b.2):=by
 unfold lt zGJ zrb;rw[decide_eq_true_iff]
 repeat' split
 all_goals omega
theorem zg6(a b:Due):lt a b=false↔b.1<a.1\/(b.1=a.1/\b.2<=a.2):=by
 rw[<- zac3,zBe];omega
theorem zi0{a b:Due}(h:lt a b=true):lt b a=false:=by rw[zBe] at h;rw[zg6];omega
theorem ziV{a b c:Due}(h1:lt b a=false)(h2:lt c b=false):lt c a=false:=by rw[zg6] at *; omega
def zin(l:List Due):Prop:=∀k,1<=k->k<l.length->lt (l.getD k dz) (l.getD ((k - 1) / 2) dz)=false
theorem zCW(l:List Due)(i j k:Nat)(hi:i<l.length)(hj:j<l.length):(swp l i j).getD k dz=if k=j then l.getD i dz else if k=i then l.getD j dz else l.getD k dz:=by
 unfold swp;simp only[zab0,zadh,zacb]
 by_cases h1:j=k
 ·subst h1;simp [hj]
 ·rw[zabn h1,zabn (Ne.symm h1)]
  by_cases h2:i=k
  ·subst h2;simp [hi]
  ·rw[zabn h2,zabn (Ne.symm h2)]
theorem zCX(l:List Due)(i j:Nat)(hi:i<l.length)(hj:j<l.length):(swp l i j).Perm l:=by
 unfold swp;have:=List.set_set_perm hi hj;simpa [hi,hj] using this
theorem zRf(l:List Due)(i:Nat)(hi:i<l.length):(upL l i).1.Perm l:=by
 fun_induction upL l i with
 | case1 l i h0 h1 ih=>exact (ih (by rw[zcP];omega)).trans (zCX l _ _ hi zo)
 | case2=>exact .refl _
 | case3=>exact .refl _
theorem zRe (l:List Due) (i:Nat) (hi:i<l.length) (h1:∀k,1<=k->k<l.length->k≠i->lt (l.getD k dz) (l.getD ((k - 1) / 2) dz)=false)
    (h2:∀k,1<=k->k<l.length->(k - 1) / 2=i->1<=i->lt (l.getD k dz) (l.getD ((i - 1) / 2) dz)=false):zin (upL l i).1:=by
 fun_induction upL l i with
 | case1 l i h0 hlt ih=>
  have hp:(i - 1) / 2<l.length:=by omega
  have e:=fun k=>zCW l i ((i - 1) / 2) k hi hp;refine ih (by rw[zcP];omega) (fun k ha hb hc=> ?_) (fun k ha hb hc hd=> ?_)
  ·rw[zcP] at hb;rw[e,e]
   by_cases hk:k=i
   ·subst hk;rw[zabn zo,zabo rfl,zabo rfl];exact zi0 hlt
   ·rw[zabn hc,zabn hk]
    by_cases hq:(k - 1) / 2=(i - 1) / 2
    ·rw[zabo hq];have:=h1 k ha hb hk;rw[hq] at this;exact ziV (zi0 hlt) this
    ·rw[zabn hq]
     by_cases hr:(k - 1) / 2=i
     ·rw[zabo hr];exact h2 k ha hb hr zo
     ·rw[zabn hr];exact h1 k ha hb hk
  ·rw[zcP] at hb;rw[e,e,zabn (show k≠(i - 1) / 2 by omega),zabn (show ((i - 1) / 2 - 1) / 2≠(i - 1) / 2 by omega),zabn (show ((i - 1) / 2 - 1) / 2≠i by omega)];have hpp:=h1 ((i - 1) / 2) hd hp zo
   by_cases hk:k=i
   ·rw[zabo hk];exact hpp
   ·rw[zabn hk];have:=h1 k ha hb hk;rw[hc] at this;exact ziV hpp this
 | case2 l i h0 hlt=>
  intro k ha hb
  by_cases hk:k=i
  ·subst hk;simpa using hlt
  ·exact h1 k ha hb hk
 | case3 l i h0=>
  intro k ha hb;exact h1 k ha hb zo
theorem zUa(l:List Due)(i:Nat)(hi:i<l.length):(zbs l i).Perm l:=by
 fun_induction zbs l i with
 | case1 l i h k h1 ih=>
  have hk:k<l.length:=by simp only[k];split<;>omega
  exact (ih (by rw[zcP];exact hk)).trans (zCX l _ _ hi hk)
 | case2=>exact .refl _
 | case3=>exact .refl _
theorem zT9 (l:List Due) (i:Nat) (hi:i<l.length) (h1:∀k,1<=k->k<l.length->(k - 1) / 2≠i->lt (l.getD k dz) (l.getD ((k - 1) / 2) dz)=false)
    (h2:∀k,1<=k->k<l.length->(k - 1) / 2=i->1<=i->lt (l.getD k dz) (l.getD ((i - 1) / 2) dz)=false):zin (zbs l i):=by
 fun_induction zbs l i with
 | case1 l i h k hlt ih=>
  have hk:k<l.length/\i<k/\(k - 1) / 2=i/\∀q,1<=q->q<l.length->(q - 1) / 2=i->lt (l.getD q dz) (l.getD k dz)=false:=by
   simp only[k]
   split
   ·rename_i hc;refine⟨by omega,by omega,by omega,fun q ha hb hq=> ?_⟩;have:q=2 * i+1\/q=2 * i+1+1:=by omega
    rcases this with rfl|rfl
    ·exact zi0 hc.2
    ·rw[zg6];omega
   ·rename_i hc;refine⟨by omega,by omega,by omega,fun q ha hb hq=> ?_⟩;have:q=2 * i+1\/q=2 * i+1+1:=by omega
    rcases this with rfl|rfl
    ·rw[zg6];omega
    ·simp only[hb,zacB,zac3] at hc;exact hc
  obtain⟨hk1,hk2,hk3,hk4⟩:=hk
  clear_value k
  have e:=fun q=>zCW l i k q hi hk1;refine ih (by rw[zcP];exact hk1) (fun q ha hb hc=> ?_) (fun q ha hb hc hd=> ?_)
  ·rw[zcP] at hb;rw[e,e]
   by_cases hq:q=k
   ·subst hq;rw[zabo rfl,hk3,zabn zo,zabo rfl];exact zi0 hlt
   ·rw[zabn hq,zabn hc]
    by_cases hr:q=i
    ·subst hr;rw[zabo rfl,zabn zo];exact h2 k zo hk1 hk3 ha
    ·rw[zabn hr]
     by_cases hs:(q - 1) / 2=i
     ·rw[zabo hs];exact hk4 q ha hb hs
     ·rw[zabn hs];exact h1 q ha hb hs
  ·rw[zcP] at hb;rw[e,e,zabn (show q≠k by omega),zabn (show q≠i by omega),hk3,zabn zo,zabo rfl];have:=h1 q ha hb zo;rw[hc] at this;exact this
 | case2 l i h k hlt=>
  intro q ha hb
  by_cases hq:(q - 1) / 2=i
  ·have hlt:lt (l.getD k dz) (l.getD i dz)=false:=by simpa using hlt
   rw[hq];refine ziV hlt ?_;simp only[k];have:q=2 * i+1\/q=2 * i+1+1:=by omega
   split
   ·rename_i hc
    rcases this with rfl|rfl
    ·exact zi0 hc.2
    ·rw[zg6];omega
   ·rename_i hc
    rcases this with rfl|rfl
    ·rw[zg6];omega
    ·simp only[hb,zacB,zac3] at hc;exact hc
  ·exact h1 q ha hb hq
 | case3 l i h=>
  intro q ha hb;exact h1 q ha hb zo
end Go.Proofs.YtnmcgdpmikhohaaGreat
