/-
  Sorting by insertion, and Until.
-/
import Derived.Test.YtnmcgdpmikhohaaGreatB1b28f4a
set_option linter.unusedSimpArgs false
set_option linter.unusedVariables false
set_option maxHeartbeats 10000000
set_option maxRecDepth 100000
namespace Go.Proofs.YtnmcgdpmikhohaaGreat
open Go Go.Sim
def rD(d:Directory)(o:Nat):Nat×Go.Sim.Obj:=(o,.row [.d (zaT d)])
theorem zkU(d:Directory)(j:Int)(hL:d.l.length<=4294967296):zi G zph [.d (zaT d),.d (.int .i64 j)] []=some (.d (.int .i64 (zaV d.l j)),[]):=by
 have:=ziZ (G:=G) (x:=zAS) (ks:=[]) d.l.length (atB d.l fun x=>decide (x.shard=j)) (fun k=>⟨[(1,.d (.int .i64 j)),(2,.ref 2 0 0),(5,.d (.int .i64 k))],[(2,.row [.d (zaT d)])]⟩) (fun k=>(.ret,⟨[(4,.d (.int .i64 k))],[]⟩)) (.exit 0,⟨[],[]⟩) (fun k hk L=>by
  simp only[zAS]
  by_cases h0:k<d.l.length
  ·simp only[h0,if_true,zgH h0];exact zS
  ·exact zS)
 rw[zj6] at this;simp only[zNr,zB] at this;unfold zaV zbP
 cases h:d.l.findIdx? (fun x=>decide (x.shard=j)) with
 | none=>rw[h] at this;clear h;exact zW zIl
 | some i=>rw[h] at this;clear h;exact zW zIl
theorem z6L(d:Directory)(n:Int)(hL:d.l.length<=4294967296):∀p:Nat×Int,p.1<=d.l.length/\0<=p.2/\p.2<=65536->z6 G [] zAP ⟨[(1,.ref 1 0 0),(3,.d (.int .i64 n)),(4,.d (.int .i64 p.2)),(5,.d (.int .i64 p.1))],[rD d 1]⟩=some (match zdb p.2 (d.l.drop p.1) with|some m=>(.exit 0,⟨[(1,.ref 1 0 0),(3,.d (.int .i64 n)),(4,.d (.int .i64 m))],[rD d 1]⟩)|none=>(.ret,⟨[(2,.d (.int .i64 7))],[]⟩)):=by
 refine zaL (fun p:Nat×Int=>d.l.length - p.1) _ (fun p:Nat×Int=>⟨[(1,.ref 1 0 0),(3,.d (.int .i64 n)),(4,.d (.int .i64 p.2)),(5,.d (.int .i64 p.1))],[rD d 1]⟩) _ fun⟨k,m⟩ ⟨hk,h1,h2⟩ L ih=> ?_;simp only at ih hk h1 h2 ⊢;simp only[zAP,rD] at ih ⊢
 by_cases h0:k<d.l.length
 ·rw[zabX h0,zdb]
  by_cases c:d.l[k].low=m/\d.l[k].low<=d.l[k].high/\d.l[k].high<65536
  ·have i1:=ih (k+1,d.l[k].high+1) ⟨by simp only;omega,by simp only;omega,by simp only;omega⟩ (by simp only;omega);simp only at i1;rw[zabo c];clear ih;generalize zdb (d.l[k].high+1) (d.l.drop (k+1))=z at *;simp only[zNr,zB] at i1
   cases z with
   | none=>exact zS
   | some z=>exact zS
  ·rw[zabn c];clear ih;exact zS
 ·rw[zaef zo,zdb];clear ih;exact zS
theorem z6M(d:Directory)(n:Nat)(hL:d.l.length<=4294967296)(hn:n<=6):z6 G [] zsD ⟨[(1,.ref 1 0 0),(3,.d (.int .i64 n)),(7,.d (.int .i64 0))],[rD d 1]⟩=some (if d.l.any (zhZ n)=true then (.ret,⟨[(2,.d (.int .i64 4))],[]⟩) else (.exit 2,⟨[(1,.ref 1 0 0),(3,.d (.int .i64 n))],[rD d 1]⟩)):=by
 have:=ziZ (G:=G) (x:=zsD) (ks:=[]) d.l.length (atB d.l (zhZ n)) (fun k=>⟨[(1,.ref 1 0 0),(3,.d (.int .i64 n)),(7,.d (.int .i64 k))],[rD d 1]⟩) (fun k=>(.ret,⟨[(2,.d (.int .i64 4))],[]⟩)) (.exit 2,⟨[(1,.ref 1 0 0),(3,.d (.int .i64 n))],[rD d 1]⟩) (fun k hk L=>by
  simp only[zsD,rD]
  by_cases h0:k<d.l.length
  ·simp only[h0,if_true,zgH h0];unfold zhZ;exact zS
  ·exact zS)
 rw[zj6] at this;simp only[zNr,zB] at this;rw[this]
 congr 1
 have e:=zLJ d.l (zhZ n);unfold zbP at e
 cases h:d.l.findIdx? (zhZ n) with
 | none=>rw[h] at e;rw[<- e];rfl
 | some i=>rw[h] at e;rw[<- e];simp
theorem z6N(d:Directory)(n:Nat)(hL:d.l.length<=4294967296):z6 G [] zAQ ⟨[(1,.ref 1 0 0),(3,.d (.int .i64 n)),(8,.d (.int .i64 0))],[rD d 1]⟩=some (if (List.range d.l.length).all (zl8 d.l)=true then (.exit 4,⟨[(1,.ref 1 0 0),(3,.d (.int .i64 n))],[rD d 1]⟩) else (.ret,⟨[(2,.d (.int .i64 10))],[]⟩)):=by
 refine zg5 (G:=G) d.l.length (zl8 d.l) (fun k=>⟨[(1,.ref 1 0 0),(3,.d (.int .i64 n)),(8,.d (.int .i64 k))],[rD d 1]⟩) _ _ fun k hk L=> ?_;simp only[zAQ,rD]
 by_cases h0:k<d.l.length
 ·have hi:=zkU d (d.l[k]).shard hL;simp only[h0,if_true];unfold zl8;rw[zh h0];exact zS
 ·exact zS
theorem z6O(d:Directory)(hL:d.l.length<=4294967296)(hF:d.forward.length<=6):z6 G [] zAR ⟨[(1,.ref 1 0 0),(3,.d (.int .i64 d.forward.length)),(9,.d (.int .i64 0))],[rD d 1]⟩=some (if (List.range d.forward.length).all (ziK d)=true then (.exit 6,⟨[(1,.ref 1 0 0),(3,.d (.int .i64 d.forward.length))],[rD d 1]⟩) else (.ret,⟨[(2,.d (.int .i64 7))],[]⟩)):=by
 refine zg5 (G:=G) d.forward.length (ziK d) (fun k=>⟨[(1,.ref 1 0 0),(3,.d (.int .i64 d.forward.length)),(9,.d (.int .i64 k))],[rD d 1]⟩) _ _ fun k hk L=> ?_;simp only[zAR,rD]
 by_cases h0:k<d.forward.length
 ·have hi:=zkU d k hL;simp only[h0,if_true];unfold ziK;rw[zh h0];exact zS
 ·exact zS
theorem zGF(F:List Int):∀(m:Nat) (a:Int),a<0->zde F m a=a
 | 0,a,_=>rfl
 | m+1,a,h=>by rw[zde,zabn zo,zGF F m a h]
theorem z6P(d:Directory)(i:Nat)(hF:d.forward.length<=6)(hv:∀a∈d.forward, -1<=a/\a<d.forward.length):∀p:Nat×Int,p.1<=d.forward.length/\ -1<=p.2/\p.2<d.forward.length->z6 G [] zsE ⟨[(1,.ref 1 0 0),(3,.d (.int .i64 d.forward.length)),(10,.d (.int .i64 i)),(11,.d (.int .i64 p.2)),(12,.d (.int .i64 p.1))],[rD d 1]⟩=some (.exit 10,⟨[(1,.ref 1 0 0),(3,.d (.int .i64 d.forward.length)),(10,.d (.int .i64 i)),(11,.d (.int .i64 (zde d.forward (d.forward.length - p.1) p.2)))],[rD d 1]⟩):=by
 refine zaL (fun p:Nat×Int=>d.forward.length - p.1) _ (fun p:Nat×Int=>⟨[(1,.ref 1 0 0),(3,.d (.int .i64 d.forward.length)),(10,.d (.int .i64 i)),(11,.d (.int .i64 p.2)),(12,.d (.int .i64 p.1))],[rD d 1]⟩) _ fun⟨k,a⟩ ⟨hk,h1,h2⟩ L ih=> ?_;simp only[rD] at ih hk h1 h2 ⊢;simp only[zsE]
 by_cases h0:k<d.forward.length
 ·by_cases c1:0<=a
  ·have hlt:a.toNat<d.forward.length:=by omega
   have hm:=hv (d.forward[a.toNat]) (zabC _);have i1:=ih (k+1,d.forward[a.toNat]) ⟨by simp only;omega,by simp only;omega,by simp only;omega⟩ (by simp only;omega);rw[show d.forward.length - k=(d.forward.length - (k+1))+1 by omega,zde,zabo c1,zh hlt];simp only at i1;generalize zde d.forward (d.forward.length - (k+1)) d.forward[a.toNat]=z at *;clear ih hv;simp only[zNr,zB] at i1;exact zS
  ·rw[zGF _ _ _ zo];clear ih hv;exact zS
 ·rw[show d.forward.length - k=0 by omega,zde];clear ih hv;exact zS
theorem z6Q(d:Directory)(hF:d.forward.length<=6)(hv:∀a∈d.forward, -1<=a/\a<d.forward.length):z6 G [] zsF ⟨[(1,.ref 1 0 0),(3,.d (.int .i64 d.forward.length)),(10,.d (.int .i64 0))],[rD d 1]⟩=some (if ((List.range d.forward.length).all fun i=>decide (zde d.forward d.forward.length i<0))=true then (.exit 8,⟨[],[]⟩) else (.ret,⟨[(2,.d (.int .i64 7))],[]⟩)):=by
 refine zg5 (G:=G) d.forward.length (fun i=>decide (zde d.forward d.forward.length i<0)) (fun k=>⟨[(1,.ref 1 0 0),(3,.d (.int .i64 d.forward.length)),(10,.d (.int .i64 k))],[rD d 1]⟩) _ _ fun k hk L=> ?_
 by_cases h0:k<d.forward.length
 ·have hl:=z6P d k hF hv (0,k) ⟨by omega,by omega,by omega⟩;simp only[zacO,rD] at hl;simp only[zsF,rD,h0,if_true];generalize zde d.forward d.forward.length k=z at *;clear hv;simp only[zNr,zB] at hl;exact zS
 ·clear hv;simp only[zsF,rD];exact zS
theorem zkV(d:Directory)(hL:d.l.length<=4294967296):zi G zpg [.d (zaT d)] []=some (.d (.int .i64 (zbl d)),[]):=by
 have l0:=fun n=>z6L d n hL (0,0) ⟨by omega,by omega,by omega⟩;simp only[zabZ,rD,zabQ] at l0;unfold zbl
 by_cases c1:d.version<1\/1099511627776<d.version\/d.forward.length<1\/6<d.forward.length
 ·rw[zabo c1];clear l0;exact zW zhM
 rw[zabn c1];have l1:=z6M d d.forward.length hL zo;have l2:=z6N d d.forward.length hL;have l3:=z6O d hL zo;simp only[rD] at l1 l2 l3;replace l0:=l0 d.forward.length
 by_cases c2:zdb 0 d.l=some 65536
 ·rw[zabn (by simp [c2])];rw[c2] at l0;simp only at l0
  cases c3:d.l.any (zhZ d.forward.length)
  ·rw[c3,zabn (by simp)] at l1;rw[zabn (by simp)]
   cases c4:(List.range d.l.length).all (zl8 d.l)
   ·rw[c4,zabn (by simp)] at l2;rw[zabo rfl];clear c2 c3 c4 l3;exact zW zhM
   ·rw[c4,zabo rfl] at l2;rw[zabn (by simp)];unfold zy7
    cases c5:(List.range d.forward.length).all (ziK d)
    ·rw[c5,zabn (by simp)] at l3;rw[zacd,zabo rfl];clear c2 c3 c4 c5;exact zW zhM
    ·rw[c5,zabo rfl] at l3;rw[zacA];have l5:=z6Q d zo (by
      intro a ha;obtain⟨i,hi,e⟩:=zadc ha;have:=(zabO.1 c5) i (zack.2 hi);unfold ziK at this;rw[zh hi,e] at this;simp only[zace,zacY,decide_eq_false_iff_not] at this;omega)
     simp only[rD] at l5
     cases c6:(List.range d.forward.length).all fun i=>decide (zde d.forward d.forward.length i<0)
     ·rw[c6,zabn (by simp)] at l5;rw[zabo rfl];clear c2 c3 c4 c5 c6;exact zW zhM
     ·rw[c6,zabo rfl] at l5;rw[zabn (by simp)];clear c2 c3 c4 c5 c6;exact zW zhM
  ·rw[c3,zabo rfl] at l1;rw[zabo rfl];clear c2 c3 l2 l3;exact zW zhM
 ·rw[zabo c2]
  cases c3:zdb 0 d.l with
  | none=>
   rw[c3] at l0;simp only at l0;clear c2 c3 l1 l2 l3;exact zW zhM
  | some m=>
   rw[c3] at l0;simp only at l0;have hm:¬m=65536:=fun e=>c2 (by rw[c3,e]);clear c2 c3 l1 l2 l3;exact zW zhM
def inS(r:Int)(x:Span):Bool:=decide (x.low<=r)&&decide (r<=x.high)
def zem(d:Directory)(r:Int):Int:=if zbl d=0 then (match d.l.findIdx? (inS r) with|some i=>(d.l.getD i zeC).shard|none=> -1) else -1
theorem z6J(d:Directory)(r:Int)(hL:d.l.length<=4294967296)(hv:zbl d=0):z6 G [] ziU ⟨[(1,.d (.int .i64 r)),(2,.ref 2 0 0),(5,.d (.int .i64 0))],[rD d 2]⟩=some (zhI d.l.length (atB d.l (inS r)) (fun k=>(.ret,⟨[(4,.d (.int .i64 (d.l.getD k zeC).shard))],[]⟩)) (.exit 0,⟨[],[]⟩)):=by
 have hval:=zkV d hL;rw[hv] at hval;refine ziZ (G:=G) d.l.length (atB d.l (inS r)) (fun k=>⟨[(1,.d (.int .i64 r)),(2,.ref 2 0 0),(5,.d (.int .i64 k))],[rD d 2]⟩) _ _ fun k hk L=> ?_;clear hv;simp only[ziU,rD]
 by_cases h0:k<d.l.length
 ·simp only[h0,if_true,zgH h0];unfold inS;exact zS
 ·exact zS
theorem zNq(d:Directory)(r:Int)(hL:d.l.length<=4294967296):zi G zpe [.d (zaT d),.d (.int .i64 r)] []=some (.d (.int .i64 (zem d r)),[]):=by
 unfold zem
 by_cases c:zbl d=0
 ·have hl:=z6J d r hL c;rw[zj6] at hl;rw[zabo c];simp only[rD] at hl
  cases h:d.l.findIdx? (inS r) with
  | none=>rw[h] at hl;clear h c;exact zW zrN
  | some i=>rw[h] at hl;clear h c;exact zW zrN
 ·rw[zabn c];have hval:=zkV d hL
  by_cases h0:0<d.l.length
  ·have zk0:= @zaC;have zk1:=ziU.eq_1;exact zW zrN
  ·have zk0:= @zaC;have zk1:=ziU.eq_1;exact zW zrN
theorem z6K(d:Directory)(j:Int)(hL:d.l.length<=4294967296):zi G zpf [.d (zaT d),.d (.int .i64 j)] []=some (.d (.tup [zca (zld d j).1,.bool (zld d j).2]),[]):=by
 have hval:=zkV d hL;have hi:=zkU d j hL;have hb:=zsd d.l (fun x=>decide (x.shard=j));change -1<=zaV d.l j/\zaV d.l j<d.l.length at hb;unfold zld
 by_cases c:zbl d=0/\0<=zaV d.l j
 ·obtain⟨c1,c2⟩:=c;rw[c1] at hval;rw[zabo ⟨c1,c2⟩];clear c1;exact zW zzx
 ·rw[zabn c]
  by_cases c1:zbl d=0
  ·have c2:¬0<=zaV d.l j:=fun h=>c ⟨c1,h⟩;rw[c1] at hval;clear c c1;exact zW zzx
  ·clear c;exact zW zzx
def zgl(d:Directory):Nat->Int->Int
 | 0,a=>a
 | m+1,a=>if 0<=a/\zaV d.l a<0 then zgl d m (d.forward.getD a.toNat 0) else a
def zki(d:Directory)(a:Int):Int:=if zbl d≠0\/a<0\/(d.forward.length:Int)<=a then -1 else zgl d d.forward.length a
theorem zHV{d:Directory}(h:zbl d=0):d.forward.length<=6/\d.l.length<=4294967296->(∀a∈d.forward, -1<=a/\a<d.forward.length)/\∀i:Nat,i<d.forward.length->zde d.forward d.forward.length i<0:=by
 intro _;unfold zbl at h
 split at h
 ·cases h
 split at h
 ·cases h
 split at h
 ·cases h
 split at h
 ·cases h
 split at h
 ·cases h
 rename_i h5;simp only[zaen] at h5;unfold zy7 at h5;rw[zabH] at h5;refine⟨fun a ha=> ?_,fun i hi=>by simpa using (zabO.1 h5.2) i (zack.2 hi)⟩;obtain⟨i,hi,e⟩:=zadc ha;have:=(zabO.1 h5.1) i (zack.2 hi);unfold ziK at this;rw[zh hi,e] at this;simp only[zace,zacY,decide_eq_false_iff_not] at this;omega
theorem zjZ{d:Directory}(h:zbl d=0):1<=d.forward.length/\d.forward.length<=6/\1<=d.version/\d.version<=1099511627776:=by
 unfold zbl at h
 split at h
 ·cases h
 ·omega
theorem z6H(d:Directory)(hL:d.l.length<=4294967296)(hv:∀a∈d.forward, -1<=a/\a<d.forward.length)(hF:d.forward.length<=6):∀p:Nat×Int,zde d.forward p.1 p.2<0/\ -1<=p.2/\p.2<d.forward.length->z6 G [18] zAM ⟨[(1,.d (.int .i64 p.2)),(2,.ref 2 0 0)],[rD d 2]⟩=some (.exit 0,⟨[(1,.d (.int .i64 (zgl d p.1 p.2)))],[]⟩):=by
 refine zaL (fun p:Nat×Int=>p.1) _ (fun p:Nat×Int=>⟨[(1,.d (.int .i64 p.2)),(2,.ref 2 0 0)],[rD d 2]⟩) _ fun⟨m,a⟩ ⟨hc,h1,h2⟩ L ih=> ?_;simp only[rD] at ih hc h1 h2 ⊢;simp only[zAM];have hi:=zkU d a hL
 by_cases c:0<=a/\zaV d.l a<0
 ·obtain⟨c1,c2⟩:=c
  rcases m with _|m
  ·simp only[zde] at hc;omega
  have hlt:a.toNat<d.forward.length:=by omega
  have hm:=hv (d.forward[a.toNat]) (zabC _);rw[zde,zabo c1,zh hlt] at hc;have i1:=ih (m,d.forward[a.toNat]) ⟨hc,hm.1,hm.2⟩ (by simp only;omega);rw[zgl,zabo ⟨c1,c2⟩,zh hlt];simp only at i1;generalize zgl d m d.forward[a.toNat]=z at *;clear ih hv hc;exact zS
 ·have e:zgl d m a=a:=by
     rcases m with _|m
     ·rfl
     ·rw[zgl,zabn c]
  rw[e];clear ih hv hc e
  by_cases c1:0<=a
  ·have c2:¬zaV d.l a<0:=fun h=>c ⟨c1,h⟩;clear c;exact zS
  ·clear c;exact zS
theorem z6I(d:Directory)(a:Int)(hL:d.l.length<=4294967296):zi G zpc [.d (zaT d),.d (.int .i64 a)] []=some (.d (.int .i64 (zki d a)),[]):=by
 have hval:=zkV d hL;unfold zki
 by_cases c0:zbl d=0
 ·have hl:=zjZ c0;have hv:=zHV c0 ⟨hl.2.1,hL⟩;rw[c0] at hval
  by_cases c:a<0\/(d.forward.length:Int)<=a
  ·rw[zabo (.inr c)];clear hv c0;exact zW zzw
  ·rw[zabn (by rw[c0];simp;omega)];have hc:=hv.2 a.toNat zo;rw[show ((a.toNat:Nat):Int)=a by omega] at hc;have hlp:=z6H d hL hv.1 hl.2.1 (d.forward.length,a) ⟨hc,by simp only;omega,by simp only;omega⟩;simp only[rD] at hlp;clear hv c0 hc;exact zW zzw
 ·rw[zabo (.inl c0)];exact zW zzw
theorem ztW{k n:Nat}(h:k<n)(hn:n<=LIM):IntKind.i64.wrap ((k:Int)+1)=((k+1:Nat):Int):=by
 unfold LIM at hn;rw[Go.IntWalk.i64_in _ zo];simp
def zrb(a b:Int):Int:=if a<b then -1 else if b<a then 1 else 0
def zGJ(a b:Due):Int:=if zrb a.1 b.1=0 then zrb a.2 b.2 else zrb a.1 b.1
def lt(a b:Due):Bool:=decide (zGJ a b<0)
def zdZ(d:Due):Bool:=decide (0<=d.1)&&(decide (d.1<=1073741824)&&(decide (1<=d.2)&&decide (d.2<=1073741824)))
def zbh(h:List Due)(j:Int):Int:=zbP (fun d=>decide (d.2=j)) h
def zhD(h:List Due)(i:Nat):Bool:=decide (zbh h (h.getD i (0,0)).2≠i)
def zh4(h:List Due)(i:Nat):Bool:=lt (h.getD i (0,0)) (h.getD ((i - 1) / 2) (0,0))
def zce(h:List Due):Int:=if 12<h.length then 2 else if h.any (fun d=> !zdZ d) then 1 else if (List.range' 0 h.length).any (zhD h) then 10 else if (List.range' 1 (h.length - 1)).any (zh4 h) then 11 else 0
def swp(l:List Due)(i j:Nat):List Due:=(l.set i (l.getD j (0,0))).set j (l.getD i (0,0))
theorem zcP(l:List Due)(i j:Nat):(swp l i j).length=l.length:=by simp [swp]
def upL(l:List Due)(i:Nat):List Due×Nat:=
 if 0<i then
  if lt (l.getD i (0,0)) (l.getD ((i - 1) / 2) (0,0)) then upL (swp l i ((i - 1) / 2)) ((i - 1) / 2) else (l,i)
 else (l,i)
termination_by i
decreasing_by omega
theorem zaaR(l:List Due)(i:Nat):(upL l i).1.length=l.length:=by
 fun_induction upL l i with
 | case1 l i h0 h1 ih=>rw[ih,zcP]
 | case2=>rfl
 | case3=>rfl
def zbs(l:List Due)(i:Nat):List Due:=
 if _h:2 * i+1<l.length then
  let k:=if 2 * i+1+1<l.length/\lt (l.getD (2 * i+1+1) (0,0)) (l.getD (2 * i+1) (0,0)) then 2 * i+1+1 else 2 * i+1
  if lt (l.getD k (0,0)) (l.getD i (0,0)) then zbs (swp l i k) k else l
 else l
termination_by l.length - i
decreasing_by simp only[zcP];split<;>omega
def zfk(h:List Due)(d:Due):List Due:=(upL (h++[d]) h.length).1
def zm9(h:List Due)(d:Due):Int:=if zce h≠0 then zce h else if zdZ d=false then 1 else if h.length=12 then 3 else if 0<=zbh h d.2 then 10 else 0
def zfj(h:List Due)(d:Due):List Due×Int:=(if zm9 h d=0 then zfk h d else [],zm9 h d)
def eDE(r:List Due×Int):D:= .tup [.sl (r.1.map eD),.int .i64 r.2]
theorem zDe{h:List Due}(h0:zce h=0):h.length<=12:=by
 unfold zce at h0
 split at h0
 ·cases h0
 ·omega
def zdB(h:List Due)(i:Nat):List Due:=
 if i=h.length - 1 then h.take (h.length - 1) else
 let l:=(h.take (h.length - 1)).set i (h.getD (h.length - 1) (0,0))
 if (upL l i).2=i then zbs (upL l i).1 i else (upL l i).1
def zb6(h:List Due)(id:Int):List Due×Int:=
 if zce h≠0 then ([],zce h) else if zbh h id<0 then ([],4) else (zdB h (zbh h id).toNat,0)
theorem zV1(h:List Due)(id:Int):zbh h id<h.length:=by
 unfold zbh zbP
 cases e:List.findIdx? (fun d:Due=>decide (d.2=id)) h with
 | none=>simp only;omega
 | some i=>have:=(zact.1 e).1;simp only;omega
abbrev dz:Due:=(0,0)
theorem zBe(a b:Due):lt a b=true↔a.1<b.1\/(a.1=b.1/\a.2<b.2):=by
 unfold lt zGJ zrb;rw[decide_eq_true_iff]
 repeat' split
 all_goals omega
theorem zg6(a b:Due):lt a b=false↔b.1<a.1\/(b.1=a.1/\b.2<=a.2):=by
 rw[<- zac3,zBe];omega
theorem zi0{a b:Due}(h:lt a b=true):lt b a=false:=by rw[zBe] at h;rw[zg6];omega
theorem ziV{a b c:Due}(h1:lt b a=false)(h2:lt c b=false):lt c a=false:=by rw[zg6] at *; omega
def zin(l:List Due):Prop:=∀k,1<=k->k<l.length->lt (l.getD k dz) (l.getD ((k - 1) / 2) dz)=false
theorem zCW(l:List Due)(i j k:Nat)(hi:i<l.length)(hj:j<l.length):(swp l i j).getD k dz=if k=j then l.getD i dz else if k=i then l.getD j dz else l.getD k dz:=by
 unfold swp;simp only[zab0,zadh,zacb]
 by_cases h1:j=k
 ·subst h1;simp [hj]
 ·rw[zabn h1,zabn (Ne.symm h1)]
  by_cases h2:i=k
  ·subst h2;simp [hi]
  ·rw[zabn h2,zabn (Ne.symm h2)]
theorem zCX(l:List Due)(i j:Nat)(hi:i<l.length)(hj:j<l.length):(swp l i j).Perm l:=by
 unfold swp;have:=List.set_set_perm hi hj;simpa [hi,hj] using this
theorem zRf(l:List Due)(i:Nat)(hi:i<l.length):(upL l i).1.Perm l:=by
 fun_induction upL l i with
 | case1 l i h0 h1 ih=>exact (ih (by rw[zcP];omega)).trans (zCX l _ _ hi zo)
 | case2=>exact .refl _
 | case3=>exact .refl _
theorem zRe (l:List Due) (i:Nat) (hi:i<l.length) (h1:∀k,1<=k->k<l.length->k≠i->lt (l.getD k dz) (l.getD ((k - 1) / 2) dz)=false)
    (h2:∀k,1<=k->k<l.length->(k - 1) / 2=i->1<=i->lt (l.getD k dz) (l.getD ((i - 1) / 2) dz)=false):zin (upL l i).1:=by
 fun_induction upL l i with
 | case1 l i h0 hlt ih=>
  have hp:(i - 1) / 2<l.length:=by omega
  have e:=fun k=>zCW l i ((i - 1) / 2) k hi hp;refine ih (by rw[zcP];omega) (fun k ha hb hc=> ?_) (fun k ha hb hc hd=> ?_)
  ·rw[zcP] at hb;rw[e,e]
   by_cases hk:k=i
   ·subst hk;rw[zabn zo,zabo rfl,zabo rfl];exact zi0 hlt
   ·rw[zabn hc,zabn hk]
    by_cases hq:(k - 1) / 2=(i - 1) / 2
    ·rw[zabo hq];have:=h1 k ha hb hk;rw[hq] at this;exact ziV (zi0 hlt) this
    ·rw[zabn hq]
     by_cases hr:(k - 1) / 2=i
     ·rw[zabo hr];exact h2 k ha hb hr zo
     ·rw[zabn hr];exact h1 k ha hb hk
  ·rw[zcP] at hb;rw[e,e,zabn (show k≠(i - 1) / 2 by omega),zabn (show ((i - 1) / 2 - 1) / 2≠(i - 1) / 2 by omega),zabn (show ((i - 1) / 2 - 1) / 2≠i by omega)];have hpp:=h1 ((i - 1) / 2) hd hp zo
   by_cases hk:k=i
   ·rw[zabo hk];exact hpp
   ·rw[zabn hk];have:=h1 k ha hb hk;rw[hc] at this;exact ziV hpp this
 | case2 l i h0 hlt=>
  intro k ha hb
  by_cases hk:k=i
  ·subst hk;simpa using hlt
  ·exact h1 k ha hb hk
 | case3 l i h0=>
  intro k ha hb;exact h1 k ha hb zo
theorem zUa(l:List Due)(i:Nat)(hi:i<l.length):(zbs l i).Perm l:=by
 fun_induction zbs l i with
 | case1 l i h k h1 ih=>
  have hk:k<l.length:=by simp only[k];split<;>omega
  exact (ih (by rw[zcP];exact hk)).trans (zCX l _ _ hi hk)
 | case2=>exact .refl _
 | case3=>exact .refl _
theorem zT9 (l:List Due) (i:Nat) (hi:i<l.length) (h1:∀k,1<=k->k<l.length->(k - 1) / 2≠i->lt (l.getD k dz) (l.getD ((k - 1) / 2) dz)=false)
    (h2:∀k,1<=k->k<l.length->(k - 1) / 2=i->1<=i->lt (l.getD k dz) (l.getD ((i - 1) / 2) dz)=false):zin (zbs l i):=by
 fun_induction zbs l i with
 | case1 l i h k hlt ih=>
  have hk:k<l.length/\i<k/\(k - 1) / 2=i/\∀q,1<=q->q<l.length->(q - 1) / 2=i->lt (l.getD q dz) (l.getD k dz)=false:=by
   simp only[k]
   split
   ·rename_i hc;refine⟨by omega,by omega,by omega,fun q ha hb hq=> ?_⟩;have:q=2 * i+1\/q=2 * i+1+1:=by omega
    rcases this with rfl|rfl
    ·exact zi0 hc.2
    ·rw[zg6];omega
   ·rename_i hc;refine⟨by omega,by omega,by omega,fun q ha hb hq=> ?_⟩;have:q=2 * i+1\/q=2 * i+1+1:=by omega
    rcases this with rfl|rfl
    ·rw[zg6];omega
    ·simp only[hb,zacB,zac3] at hc;exact hc
  obtain⟨hk1,hk2,hk3,hk4⟩:=hk
  clear_value k
  have e:=fun q=>zCW l i k q hi hk1;refine ih (by rw[zcP];exact hk1) (fun q ha hb hc=> ?_) (fun q ha hb hc hd=> ?_)
  ·rw[zcP] at hb;rw[e,e]
   by_cases hq:q=k
   ·subst hq;rw[zabo rfl,hk3,zabn zo,zabo rfl];exact zi0 hlt
   ·rw[zabn hq,zabn hc]
    by_cases hr:q=i
    ·subst hr;rw[zabo rfl,zabn zo];exact h2 k zo hk1 hk3 ha
    ·rw[zabn hr]
     by_cases hs:(q - 1) / 2=i
     ·rw[zabo hs];exact hk4 q ha hb hs
     ·rw[zabn hs];exact h1 q ha hb hs
  ·rw[zcP] at hb;rw[e,e,zabn (show q≠k by omega),zabn (show q≠i by omega),hk3,zabn zo,zabo rfl];have:=h1 q ha hb zo;rw[hc] at this;exact this
 | case2 l i h k hlt=>
  intro q ha hb
  by_cases hq:(q - 1) / 2=i
  ·have hlt:lt (l.getD k dz) (l.getD i dz)=false:=by simpa using hlt
   rw[hq];refine ziV hlt ?_;simp only[k];have:q=2 * i+1\/q=2 * i+1+1:=by omega
   split
   ·rename_i hc
    rcases this with rfl|rfl
    ·exact zi0 hc.2
    ·rw[zg6];omega
   ·rename_i hc
    rcases this with rfl|rfl
    ·rw[zg6];omega
    ·simp only[hb,zacB,zac3] at hc;exact hc
  ·exact h1 q ha hb hq
 | case3 l i h=>
  intro q ha hb;exact h1 q ha hb zo
theorem zHA(h:List Due)(j:Int):zbh h j<h.length:=by
 unfold zbh zbP
 cases e:List.findIdx? (fun d:Due=>decide (d.2=j)) h with
 | none=>simp only;omega
 | some i=>have:=(zact.1 e).1;simp only;omega
theorem zVW(h:List Due)(j:Int)(h0:0<=zbh h j):(h.getD (zbh h j).toNat dz).2=j:=by
 revert h0;unfold zbh zbP
 cases e:List.findIdx? (fun d:Due=>decide (d.2=j)) h with
 | none=>simp
 | some i=>
  obtain⟨h1,h2,_⟩:=zact.1 e;simp only[zab5];intro _;simpa [h1] using h2
theorem zHB(h:List Due)(j:Int):zbh h j<0↔j∉h.map (·.2):=by
 unfold zbh zbP
 cases e:List.findIdx? (fun d:Due=>decide (d.2=j)) h with
 | none=>
  simp only[zadv,decide_eq_false_iff_not] at e;simp only[show ((-1:Int)<0) by omega,true_iff,zaby,not_exists,not_and];exact fun d hd=>e d hd
 | some i=>
  obtain⟨h1,h2,_⟩:=zact.1 e;simp only[decide_eq_true_eq] at h2;refine⟨fun h=>by simp only at h;omega,fun hn=>absurd (zaby.2 ⟨_,zabC h1,h2⟩) hn⟩
theorem zHz(h:List Due)(i:Nat)(hi:i<h.length)(hd:(h.map (·.2)).Nodup):zbh h (h.getD i dz).2=i:=by
 unfold zbh zbP;have:List.findIdx? (fun d:Due=>decide (d.2=(h.getD i dz).2)) h=some i:=by
  refine zact.2 ⟨hi,by simp [hi],fun j hj=> ?_⟩;have:=(zacu.1 hd) j i (by simp;omega) (by simpa using hi) hj;simpa [hi] using this
 rw[this]
theorem z0e(h:List Due)(hf:∀i,i<h.length->zbh h (h.getD i dz).2=i):(h.map (·.2)).Nodup:=by
 refine zacu.2 fun i j hi hj hij=> ?_;simp only[zabE] at hi hj;simp only[zadE];intro he;have h1:=hf i hi;have h2:=hf j hj;simp only[zab0,zabx hi,zabx hj,zacS] at h1 h2;rw[he] at h1;omega
structure Ok(h:List Due):Prop where
 len:h.length<=12
 val:∀d∈h,zdZ d=true
 ids:(h.map (·.2)).Nodup
 ord:zin h
theorem zfx(h:List Due):zce h=0↔Ok h:=by
 unfold zce
 by_cases h1:12<h.length
 ·rw[zabo h1];exact⟨fun h=>by omega,fun o=>absurd o.len zo⟩
 rw[zabn h1]
 by_cases h2:h.any (fun d=> !zdZ d)=true
 ·rw[zabo h2];refine⟨fun h=>by omega,fun o=> ?_⟩;obtain⟨d,hd,h3⟩:=zacm.1 h2;simp [o.val d hd] at h3
 rw[zabn h2];have h2:∀d∈h,zdZ d=true:=by simpa using h2
 by_cases h3:(List.range' 0 h.length).any (zhD h)=true
 ·rw[zabo h3];refine⟨fun h=>by omega,fun o=> ?_⟩;obtain⟨i,hi,h4⟩:=zacm.1 h3;simp only[zadj,zabU] at hi;simp [zhD,zHz h i hi.2 o.ids] at h4;exact absurd (zHz h i hi.2 o.ids) (by simpa [dz] using h4)
 rw[zabn h3];have h3:∀i,i<h.length->zbh h (h.getD i dz).2=i:=by
  intro i hi;simp only[zacm,not_exists,not_and,zadj] at h3;have:=h3 i ⟨by omega,by omega⟩;simpa [zhD] using this
 by_cases h4:(List.range' 1 (h.length - 1)).any (zh4 h)=true
 ·rw[zabo h4];refine⟨fun h=>by omega,fun o=> ?_⟩;obtain⟨i,hi,h5⟩:=zacm.1 h4;simp only[zadj] at hi;have:=o.ord i hi.1 zo;unfold zh4 at h5;rw[h5] at this;cases this
 rw[zabn h4];refine⟨fun _=>⟨by omega,h2,z0e h h3,fun k ha hb=> ?_⟩,fun _=>rfl⟩;simp only[zacm,not_exists,not_and,zadj] at h4;have:=h4 k ⟨by omega,by omega⟩;simpa [zh4] using this
theorem Ok.of_perm{h l:List Due}(hp:l.Perm h)(hl:h.length<=12)(hv:∀d∈h,zdZ d=true)(hi:(h.map (·.2)).Nodup)(ho:zin l):Ok l:=
 ⟨by rw[hp.length_eq];exact hl,fun d hd=>hv d (hp.mem_iff.1 hd),(hp.map _).nodup_iff.2 hi,ho⟩
theorem zIQ(h:List Due)(d:Due)(k:Nat):(h++[d]).getD k dz=if k<h.length then h.getD k dz else if k=h.length then d else dz:=by
 simp only[zab0,List.getElem?_append]
 split
 ·rfl
 ·rename_i hk
  by_cases hk2:k=h.length
  ·subst hk2;simp
  ·rw[zabn hk2,zadl (by simp;omega)];rfl
theorem zBJ{h:List Due}{d:Due}(o:Ok h)(hd:zdZ d=true)(hl:h.length<12)(hn:d.2∉h.map (·.2)):zfj h d=(zfk h d,0)/\Ok (zfk h d)/\(zfk h d).Perm (d::h):=by
 have hp:(zfk h d).Perm (d::h):=(zRf (h++[d]) h.length (by simp)).trans (zadX (l₂:=[d]));have he:zm9 h d=0:=by
  unfold zm9;rw[(zfx h).2 o,hd,zabn (by simp),zabn (by simp),zabn zo,zabn];have:=(zHB h d.2).2 hn;omega
 refine⟨by unfold zfj;rw[he,zabo rfl],.of_perm hp (by simp;omega) (fun x hx=>by rcases zab4.1 hx with rfl|hx;exact hd;exact o.val x hx) (by simpa using ⟨by simpa using hn,o.ids⟩) ?_,hp⟩;refine zRe _ _ (by simp) (fun k ha hb hc=> ?_) (fun k ha hb hc=> ?_)
 ·simp only[zabv,zabu,zabw] at hb;rw[zIQ,zIQ,zabo zo,zabo zo];exact o.ord k ha zo
 ·simp only[zabv,zabu,zabw] at hb;omega
theorem zQz:∀(l:List Due) (i:Nat) (b:Due),i<l.length->(l.getD i dz::l.set i b).Perm (b::l):=by
 intro l
 induction l with
 | nil=>intro i b h;simp at h
 | cons x xs ih=>
  intro i b h
  cases i with
  | zero=>exact .swap _ _ _
  | succ i=>
   simp only[zabu,Nat.add_lt_add_iff_right] at h;simp only[List.getD_cons_succ,List.set_cons_succ];exact (List.Perm.swap _ _ _).trans (((ih i b h).cons x).trans (.swap _ _ _))
theorem zaaa(h:List Due)(h0:0<h.length):h=h.take (h.length - 1)++[h.getD (h.length - 1) dz]:=by
 have:=List.take_append_getLast h (by intro hn;simp [hn] at h0);rw[List.getLast_eq_getElem] at this;simpa [show h.length - 1<h.length by omega] using this.symm
theorem zRd{l:List Due}{i:Nat}:(upL l i).2<=i/\((0<i/\lt (l.getD i dz) (l.getD ((i - 1) / 2) dz)=true/\(upL l i).2<i)\/(¬(0<i/\lt (l.getD i dz) (l.getD ((i - 1) / 2) dz)=true)/\upL l i=(l,i))):=by
 fun_induction upL l i with
 | case1 l i h0 hlt ih=>exact⟨by omega,.inl ⟨h0,hlt,by omega⟩⟩
 | case2 l i h0 hlt=>exact⟨by simp,.inr ⟨fun h=>hlt h.2,rfl⟩⟩
 | case3 l i h0=>exact⟨by simp,.inr ⟨fun h=>h0 h.1,rfl⟩⟩
theorem zl7{h:List Due}(o:Ok h)(i:Nat)(hi:i<h.length):Ok (zdB h i)/\(h.getD i dz::zdB h i).Perm h:=by
 have hlast:=zaaa h zo;obtain⟨m,hm⟩:∃m,m=h.length - 1:=⟨_,rfl⟩;obtain⟨t,ht⟩:∃t,t=h.take m:=⟨_,rfl⟩;have htl:t.length=m:=by simp [ht];omega
 have hg:∀k,k<m->t.getD k dz=h.getD k dz:=fun k hk=>by simp [ht,zaed,hk]
 rw[<- hm, <- ht] at hlast;unfold zdB;rw[<- hm, <- ht];have key:∀l:List Due,(h.getD i dz::l).Perm h->zin l->Ok l/\(h.getD i dz::l).Perm h:=fun l hp ho=>by
  refine⟨⟨?_,fun d hd=>o.val d (hp.mem_iff.1 (by simp [hd])),?_,ho⟩,hp⟩
  ·have:=hp.length_eq;simp at this;have:=o.len;omega
  ·have:=((hp.map (·.2)).nodup_iff).2 o.ids;rw[zabs,zacv] at this;exact this.2
 by_cases h1:i=m
 ·rw[zabo h1];refine key t ?_ fun k ha hb=> ?_
  ·subst h1
   conv=>rhs;rw[hlast]
   exact (zadX (l₁:=[_]))
  ·rw[htl] at hb;rw[hg _ hb,hg _ zo];exact o.ord k ha zo
 ·rw[zabn h1];have him:i<m:=by omega
  simp only;obtain⟨x,hx⟩:∃x,x=h.getD m dz:=⟨_,rfl⟩;obtain⟨l,hl⟩:∃l,l=t.set i x:=⟨_,rfl⟩;have hll:l.length=m:=by rw[hl,zacb,htl]
  have hlg:∀k,k<m->l.getD k dz=if k=i then x else h.getD k dz:=fun k hk=>by
   rw[<- hg k hk,hl];simp only[zab0,zadh,htl]
   by_cases hki:k=i
   ·subst hki;simp [hk]
   ·rw[zabn (Ne.symm hki),zabn hki]
  have hp:(h.getD i dz::l).Perm h:=by
   rw[<- hg i him,hl];refine (zQz t i x zo).trans ?_;rw[hlast,hx]
   conv=>rhs;rw[<- hlast]
   conv=>rhs;rw[hlast]
   exact zadX (l₁:=[_])
  rw[<- hx, <- hl];have ord:=o.ord;have hch:∀k,1<=k->k<l.length->(k - 1) / 2=i->1<=i->lt (l.getD k dz) (l.getD ((i - 1) / 2) dz)=false:=fun k ha hb hc hd=>by
   rw[hlg k zo,hlg _ zo,zabn zo,zabn zo];have a:=ord k ha zo;have b:=ord i hd zo;rw[hc] at a;exact ziV b a
  rcases (zRd (l:=l) (i:=i)).2 with ⟨h0,hlt,hmv⟩|⟨hno,heq⟩
  ·rw[zabn zo];refine key _ (((zRf l i zo).cons _).trans hp) (zRe l i zo (fun k ha hb hc=> ?_) hch)
   by_cases hq:(k - 1) / 2=i
   ·have a:=hch k ha hb hq zo;rw[hq];exact ziV (zi0 hlt) a
   ·rw[hlg k zo,hlg _ zo,zabn hc,zabn hq];exact ord k ha zo
  ·rw[heq,zabo rfl];refine key _ (((zUa l i zo).cons _).trans hp) (zT9 l i zo (fun k ha hb hc=> ?_) hch)
   by_cases hk:k=i
   ·subst hk;rw[<- zac3];exact fun h=>hno ⟨by omega,h⟩
   ·rw[hlg k zo,hlg _ zo,zabn hk,zabn hc];exact ord k ha zo
theorem zaaC{h:List Due}(o:zin h):∀k,k<h.length->lt (h.getD k dz) (h.getD 0 dz)=false:=by
 intro k
 induction k using Nat.strongRecOn with
 | ind k ih=>
  intro hk
  by_cases h0:k=0
  ·subst h0;rw[zg6];omega
  ·exact ziV (ih ((k - 1) / 2) zo zo) (o k zo hk)
theorem zQ6{h:List Due}(o:zin h)(d:Due)(hd:d∈h):lt d (h.getD 0 dz)=false:=by
 obtain⟨k,hk,rfl⟩:=zadu.1 hd;have:=zaaC o k hk;simpa [hk] using this
theorem zhc(a b:Due):zi G zor [.d (eD a),.d (eD b)] []=some (.d (.bool (lt a b)),[]):=by
 have key:lt a b=(decide (a.1<b.1)||(decide (a.1=b.1)&&decide (a.2<b.2))):=by
  have:=zBe a b
  cases h:lt a b
  ·rw[h] at this;simp at this;simp;omega
  ·rw[h] at this;simp at this;simp;omega
 rw[key];simp only[eD];clear key;exact zW zWS
theorem zQf(d:Due):zi G zou [.d (eD d)] []=some (.d (.bool (zdZ d)),[]):=by
 unfold zdZ;simp only[eD];exact zW zWU
def znk(h:List Due)(j:Int)(k:Nat):zX×St:=match (h.drop k).findIdx? (fun d=>decide (d.2=j)) with|some i=>(.ret,⟨[(4,.d (.int .i64 ((k+i:Nat):Int)))],[]⟩)|none=>(.exit 0,⟨[],[]⟩)
theorem z7e(h:List Due)(j:Int)(hL:h.length<=LIM):∀k,k<=h.length->z6 G [] zAG ⟨[(0,.d (.sl (h.map eD))),(1,.d (.int .i64 j)),(5,.d (.int .i64 k))],[]⟩=some (znk h j k):=by
 refine zaL (fun k=>h.length - k) (fun k=>k<=h.length) _ _ fun k hk L ih=> ?_;simp -implicitDefEqProofs (maxSteps:=4000000) (disch:=omega) only[zAG,go_sem]
 by_cases hlt:k<h.length
 ·simp -implicitDefEqProofs (maxSteps:=4000000) (disch:=omega) only[zabE,show ((k:Int)<(h.length:Int)) by omega,show (0:Int)<=(k:Int) by omega,zab5,zabI,zabx hlt,ze5,zfS,eD,ztW hlt hL,go_sem];unfold znk;rw[zabX hlt,List.findIdx?_cons]
  by_cases he:h[k].2=j
  ·simp [he]
  ·simp only[he,decide_false,zabz,if_false];have i1:=ih (k+1) zo zo;simp only[zacs,zacy] at i1;rw[i1];unfold znk
   cases (h.drop (k+1)).findIdx? (fun d=>decide (d.2=j)) with
   | none=>rfl
   | some i=>simp;omega
 ·have:k=h.length:=by omega
  subst this;simp -implicitDefEqProofs (maxSteps:=4000000) (disch:=omega) only[zabE,show ¬((h.length:Int)<(h.length:Int)) by omega,go_sem];simp [znk]
theorem zCx(h:List Due)(j:Int)(hL:h.length<=LIM):zi G zot [.d (.sl (h.map eD)),.d (.int .i64 j)] []=some (.d (.int .i64 (zbh h j)),[]):=by
 have:=z7e h j hL 0 zo;simp only[zabQ] at this;rw[zI zWT (by simp)];simp -implicitDefEqProofs (maxSteps:=4000000) (disch:=omega) only[zuA,zB7,go_sem,zabU];simp only[this];unfold znk zbh zbP;simp only[zabZ,zabU]
 cases h.findIdx? (fun d=>decide (d.2=j))<;>simp -implicitDefEqProofs (maxSteps:=4000000) (disch:=omega) only[go_sem]
def zaa9(h:List Due)(k:Nat):zX×St:=if (h.drop k).any (fun d=> !zdZ d) then (.ret,⟨[(2,.d (.int .i64 1))],[]⟩) else (.exit 0,⟨[(0,.d (.sl (h.map eD)))],[]⟩)
theorem z7i(h:List Due)(hL:h.length<=12):∀k,k<=h.length->z6 G [] zAD ⟨[(0,.d (.sl (h.map eD))),(3,.d (.int .i64 k))],[]⟩=some (zaa9 h k):=by
 refine zaL (fun k=>h.length - k) (fun k=>k<=h.length) _ _ fun k hk L ih=> ?_;simp -implicitDefEqProofs (maxSteps:=4000000) (disch:=omega) only[zAD,go_sem]
 by_cases hlt:k<h.length
 ·have hs:=zQf h[k];simp -implicitDefEqProofs (maxSteps:=4000000) (disch:=omega) only[zabE,show ((k:Int)<(h.length:Int)) by omega,show (0:Int)<=(k:Int) by omega,zab5,zabI,zabx hlt,ze5,zfS,hs,ztW hlt (show h.length<=LIM by simp [LIM];omega),go_sem];have i1:=ih (k+1) zo zo;simp only[zacs,zacy] at i1;rw[i1];unfold zaa9;rw[zabX hlt,zac4]
  cases zdZ h[k]<;>rfl
 ·have:k=h.length:=by omega
  subst this;simp -implicitDefEqProofs (maxSteps:=4000000) (disch:=omega) only[zabE,show ¬((h.length:Int)<(h.length:Int)) by omega,go_sem];simp [zaa9]
def znl(h:List Due)(k:Nat):zX×St:=if (List.range' k (h.length - k)).any (zhD h) then (.ret,⟨[(2,.d (.int .i64 10))],[]⟩) else (.exit 2,⟨[(0,.d (.sl (h.map eD)))],[]⟩)
theorem z7j(h:List Due)(hL:h.length<=12):∀k,k<=h.length->z6 G [] zAE ⟨[(0,.d (.sl (h.map eD))),(4,.d (.int .i64 k))],[]⟩=some (znl h k):=by
 refine zaL (fun k=>h.length - k) (fun k=>k<=h.length) _ _ fun k hk L ih=> ?_;simp -implicitDefEqProofs (maxSteps:=4000000) (disch:=omega) only[zAE,go_sem]
 by_cases hlt:k<h.length
 ·have hf:=zCx h h[k].2 (by simp [LIM];omega);simp -implicitDefEqProofs (maxSteps:=4000000) (disch:=omega) only[zabE,show ((k:Int)<(h.length:Int)) by omega,show (0:Int)<=(k:Int) by omega,zab5,zabI,zabx hlt,ze5,zfS,eD,hf,ztW hlt (show h.length<=LIM by simp [LIM];omega),go_sem];have i1:=ih (k+1) zo zo;simp only[zacs,zacy] at i1;rw[i1];unfold znl;rw[show h.length - k=(h.length - (k+1))+1 by omega,zacX,zac4];have hd:zhD h k= !decide (zbh h h[k].2=k):=by simp [zhD,hlt]
  rw[hd]
  cases decide (zbh h h[k].2=k)<;>rfl
 ·have:k=h.length:=by omega
  subst this;simp -implicitDefEqProofs (maxSteps:=4000000) (disch:=omega) only[zabE,show ¬((h.length:Int)<(h.length:Int)) by omega,go_sem];simp [znl]
def ztp(h:List Due)(k:Nat):zX×St:=if (List.range' k (h.length - k)).any (zh4 h) then (.ret,⟨[(2,.d (.int .i64 11))],[]⟩) else (.exit 4,⟨[],[]⟩)
theorem z7k(h:List Due)(hL:h.length<=12):∀k:Nat,1<=k->z6 G [] zAF ⟨[(0,.d (.sl (h.map eD))),(5,.d (.int .i64 k))],[]⟩=some (ztp h k):=by
 refine zaL (fun k=>h.length - k) (fun k=>1<=k) _ _ fun k hk L ih=> ?_;simp -implicitDefEqProofs (maxSteps:=4000000) (disch:=omega) only[zAF,go_sem]
 by_cases hlt:k<h.length
 ·have hq:IntKind.i64.wrap (((k:Int) - 1).tdiv 2)=(((k - 1) / 2:Nat):Int):=by
     rw[zRn (by rw[zac2 zo];omega) (by rw[zac2 zo];omega),zac2 zo];omega
  have hlt2:(k - 1) / 2<h.length:=by omega
  have hb:=zhc h[k] h[(k - 1) / 2];simp -implicitDefEqProofs (maxSteps:=4000000) (disch:=omega) only[zabE,show ((k:Int)<(h.length:Int)) by omega,show (((k - 1) / 2:Nat):Int)<(h.length:Int) by omega,zRn (show -4294967296<=(k:Int) - 1 by omega) zo,hq,hb,Int.natCast_nonneg,zab5,zabI,zabx hlt,zabx hlt2,ze5,zfS,ztW hlt (show h.length<=LIM by simp [LIM];omega),go_sem];have i1:=ih (k+1) zo zo;simp only[zacs,zacy] at i1;rw[i1];unfold ztp;rw[show h.length - k=(h.length - (k+1))+1 by omega,zacX,zac4];have hd:zh4 h k=lt h[k] h[(k - 1) / 2]:=by simp [zh4,hlt,hlt2]
  rw[hd]
  cases lt h[k] h[(k - 1) / 2]<;>rfl
 ·simp -implicitDefEqProofs (maxSteps:=4000000) (disch:=omega) only[zabE,show ¬((k:Int)<(h.length:Int)) by omega,go_sem];simp [ztp,show h.length - k=0 by omega]
theorem ztq(h:List Due)(hL:h.length<=LIM):zi G zoq [.d (.sl (h.map eD))] []=some (.d (.int .i64 (zce h)),[]):=by
 rw[zI zWR (by simp)];simp -implicitDefEqProofs (maxSteps:=4000000) (disch:=omega) only[zuz,zB6,go_sem,zabU];unfold zce
 by_cases h12:12<h.length
 ·simp -implicitDefEqProofs (maxSteps:=4000000) (disch:=omega) only[h12,zabE,show (12<(h.length:Int)) by omega,go_sem]
 ·have e0:=z7i h zo 0 zo;have e1:=z7j h zo 0 zo;have e2:=z7k h zo 1 zo;simp only[zabQ] at e0 e1;simp only[zacy] at e2;have hlen:¬(12<(h.length:Int)):=by omega
  cases hA:h.any (fun d=> !zdZ d)
  ·cases hB:(List.range' 0 h.length).any (zhD h)
   ·cases hC:(List.range' 1 (h.length - 1)).any (zh4 h)<;>
       simp -implicitDefEqProofs (maxSteps:=4000000) (disch:=omega) only[h12,zabE,hlen,e0,e1,e2,zaa9,znl,ztp,zabZ,zacO,hA,hB,hC,go_sem]
   ·simp -implicitDefEqProofs (maxSteps:=4000000) (disch:=omega) only[h12,zabE,hlen,e0,e1,zaa9,znl,zabZ,zacO,hA,hB,go_sem]
  ·simp -implicitDefEqProofs (maxSteps:=4000000) (disch:=omega) only[h12,zabE,hlen,e0,zaa9,zabZ,hA,go_sem]
theorem z8Z{h:List Due}{i j:Nat}(hi:i<h.length)(hj:j<h.length):(((h.map eD).set i (eD h[j])).map AV.d)[j]? = some (.d (eD h[j])):=by
 rw[zabI,zadh]
 by_cases e:i=j
 ·rw[zabo e,zabo (by simpa using hi)];rfl
 ·rw[zabn e,zabI,zabx hj];rfl
theorem zCy(h:List Due)(i j:Nat)(hi:i<h.length)(hj:j<h.length)(hL:h.length<=1000):zi G zov [.d (.sl (h.map eD)),.d (.int .i64 i),.d (.int .i64 j)] []=some (.d (.sl ((swp h i j).map eD)),[]):=by
 have hs:=zjJ h;have h2:=z8Z hi hj;have hz:¬h.length=0:=by omega
 unfold swp;rw[zh hi,zh hj];have hl:(((h.map eD).set i (eD h[j])).set j (eD h[i])).length=h.length:=by simp
 have ht:List.take h.length (((h.map eD).set i (eD h[j])).set j (eD h[i]))=((h.map eD).set i (eD h[j])).set j (eD h[i]):=zada (by rw[hl];exact zabR _);exact zW zWV
def zto(p:List Due×Nat):St:=⟨[(0,.d (.sl (p.1.map eD))),(1,.d (.int .i64 p.2))],[]⟩
theorem z7h:∀p:List Due×Nat,p.2<p.1.length/\p.1.length<=1000->z6 G [] zAH (zto p)=some (.exit 0,⟨[(0,.d (.sl ((upL p.1 p.2).1.map eD)))],[]⟩):=by
 refine zaL (fun p:List Due×Nat=>p.2) (fun p:List Due×Nat=>p.2<p.1.length/\p.1.length<=1000) zto _ fun⟨l,i⟩ ⟨hi,hL⟩ L ih=> ?_;simp only[zto] at hi hL ih ⊢;simp only[zAH];rw[upL]
 by_cases h0:0<i
 ·have hq:((i:Int) - 1).tdiv 2=(((i - 1) / 2:Nat):Int):=by rw[zac2 zo];omega
  have hj:(i - 1) / 2<l.length:=by omega
  have hb:=zhc l[i] l[(i - 1) / 2];have hsw:=zCy l i ((i - 1) / 2) hi hj hL;have fin:=ih (swp l i ((i - 1) / 2),(i - 1) / 2) ⟨by simp only[zcP];omega,by simp only[zcP];omega⟩ (by simp only;omega);simp only at fin;rw[zabo h0,zh hi,zh hj];have hsl:=zcP l i ((i - 1) / 2);generalize upL (swp l i ((i - 1) / 2)) ((i - 1) / 2)=r at *;generalize swp l i ((i - 1) / 2)=sw at *;clear ih
  cases hlt:lt l[i] l[(i - 1) / 2]
  ·rw[hlt] at hb;simp only[if_false,zabz];clear hlt fin hsw;exact zS
  ·rw[hlt] at hb;simp only[if_true];clear hlt;exact zS
 ·rw[zabn h0];clear ih;exact zS
theorem zQg(h:List Due)(i:Nat)(hi:i<h.length)(hL:h.length<=1000):zi G zow [.d (.sl (h.map eD)),.d (.int .i64 i)] []=some (.d (.sl ((upL h i).1.map eD)),[]):=by
 have:=z7h (h,i) ⟨hi,hL⟩;simp only[zto] at this;rw[zI zWW (by simp)];simp -implicitDefEqProofs (maxSteps:=4000000) (disch:=omega) only[zuB,zB8,go_sem,zabU];simp -implicitDefEqProofs (maxSteps:=4000000) (disch:=omega) only[this,go_sem]
theorem zQd(h:List Due)(d:Due)(hL:h.length<=LIM):zi G zon [.d (.sl (h.map eD)),.d (eD d)] []=some (.d (eDE (zfj h d)),[]):=by
 have hv:=ztq h hL;have hf:=zCx h d.2 hL;have hd:=zQf d;have hs:=zjJ h;have hL2:h.length<=4294967296:=hL;unfold zfj zm9 eDE
 by_cases h0:zce h=0
 ·have h12:=zDe h0;rw[h0] at hv;simp only[h0,ne_eq,zabD,if_false];clear h0
  cases h1:zdZ d
  ·rw[h1] at hd;simp only[if_true,zabq,show ((1:Int)=0)=False by simp,if_false];clear h1 hf;exact zW zmj
  ·rw[h1] at hd;simp only[zacf,if_false];clear h1
   by_cases h2:h.length=12
   ·simp only[h2,if_true,zabq,show ((3:Int)=0)=False by simp,if_false];clear hf;exact zW zmj
   ·simp only[h2,if_false]
    by_cases h3:0<=zbh h d.2
    ·simp only[h3,if_true,zabq,show ((10:Int)=0)=False by simp,if_false];exact zW zmj
    ·simp only[h3,if_false,if_true];obtain⟨l,hl⟩:∃l,l=h++[d]:=⟨_,rfl⟩;have e1:h.map eD++[D.agg [.int .i64 d.1,.int .i64 d.2]]=l.map eD:=by simp [eD,hl]
     have e2:l.length=h.length+1:=by simp [hl]
     have hu:=zQg l h.length zo zo;unfold zfk;rw[<- hl];have hul:=zaaR l h.length;have hsl:=zjJ l;generalize upL l h.length=r at *;simp only[eD] at hd ⊢;clear hl;exact zW zmj
 ·simp only[h0,ne_eq,zabV,if_true,if_false,zabq];clear hf hd;exact zW zmj
def zkZ(p:List Due×Nat):St:=⟨[(0,.d (.sl (p.1.map eD))),(1,.d (.int .i64 p.2))],[]⟩
theorem z7c:∀p:List Due×Nat,p.2<p.1.length/\p.1.length<=1000->∃e:zX,(e= .exit 0/\z6 G [] zsr (zkZ p)=some (.exit 0,⟨[(0,.d (.sl ((zbs p.1 p.2).map eD)))],[]⟩))\/(e= .ret/\z6 G [] zsr (zkZ p)=some (.ret,⟨[(4,.d (.sl ((zbs p.1 p.2).map eD)))],[]⟩)):=by
 refine zsO (fun p:List Due×Nat=>p.1.length - p.2) (fun p:List Due×Nat=>p.2<p.1.length/\p.1.length<=1000) zkZ (fun p r=>∃e:zX,(e= .exit 0/\r=some (.exit 0,⟨[(0,.d (.sl ((zbs p.1 p.2).map eD)))],[]⟩))\/(e= .ret/\r=some (.ret,⟨[(4,.d (.sl ((zbs p.1 p.2).map eD)))],[]⟩))) fun⟨l,i⟩ ⟨hi,hL⟩ L ih=> ?_;simp only[zkZ] at hi hL ih ⊢;simp only[zsr]
 by_cases h1:2 * i+1<l.length
 ·have fin:∀k:Nat,i<k->k<l.length->∃e:zX,(e= .exit 0/\L ⟨[(0,.d (.sl ((swp l i k).map eD))),(1,.d (.int .i64 k))],[]⟩=some (.exit 0,⟨[(0,.d (.sl ((zbs (swp l i k) k).map eD)))],[]⟩))\/(e= .ret/\L ⟨[(0,.d (.sl ((swp l i k).map eD))),(1,.d (.int .i64 k))],[]⟩=some (.ret,⟨[(4,.d (.sl ((zbs (swp l i k) k).map eD)))],[]⟩)):=fun k h1 h2=>
     ih (swp l i k,k) ⟨by simp only[zcP];omega,by simp only[zcP];omega⟩ (by simp only[zcP];omega)
  have hg:∀k:Nat,k<l.length->(List.map eD l)[k]? = some (eD (l.getD k (0,0))):=fun k hk=>by simp [zabI,zabx hk,hk]
  have g0:=hg i hi;have g1:=hg _ h1;have s1:=zCy l i (2 * i+1) hi h1 hL;have f1:=fin (2 * i+1) zo h1;simp only[zacs,zadC,zacy,zadf] at s1 f1;have t1:((2:Int) * (i:Int)+1).toNat=2 * i+1:=by omega
  have t2:((2:Int) * (i:Int)+1+1).toNat=2 * i+1+1:=by omega
  by_cases h2:2 * i+1+1<l.length
  ·have g2:=hg _ h2;have s2:=zCy l i (2 * i+1+1) hi h2 hL;have f2:=fin (2 * i+1+1) zo h2;simp only[zacs,zadC,zacy,zadf] at s2 f2
   cases hlt:lt (l.getD (2 * i+1+1) (0,0)) (l.getD (2 * i+1) (0,0))
   ·cases hlt2:lt (l.getD (2 * i+1) (0,0)) (l.getD i (0,0))
    ·simp -implicitDefEqProofs (maxSteps:=4000000) (disch:=omega) only[go_sem,g0,g1,g2,t1,t2,zhc,hlt,hlt2,ze5,zfS];have e:zbs l i=l:=by rw[zbs];simp only[h1,h2,hlt,hlt2,dite_true,dite_false,zacB,zacT,zacz,if_true,if_false,zabz,reduceCtorEq]
     exact⟨.ret,.inr ⟨rfl,by rw[e]⟩⟩
    ·simp -implicitDefEqProofs (maxSteps:=4000000) (disch:=omega) only[go_sem,g0,g1,g2,t1,t2,zhc,hlt,hlt2,s1,ze5,zfS];have e:zbs l i=zbs (swp l i (2 * i+1)) (2 * i+1):=by rw[zbs];simp only[h1,h2,hlt,hlt2,dite_true,dite_false,zacB,zacT,zacz,if_true,if_false,zabz,reduceCtorEq]
     rw[e];exact f1
   ·cases hlt2:lt (l.getD (2 * i+1+1) (0,0)) (l.getD i (0,0))
    ·simp -implicitDefEqProofs (maxSteps:=4000000) (disch:=omega) only[go_sem,g0,g1,g2,t1,t2,zhc,hlt,hlt2,ze5,zfS];have e:zbs l i=l:=by rw[zbs];simp only[h1,h2,hlt,hlt2,dite_true,dite_false,zacB,zacT,zacz,if_true,if_false,zabz,reduceCtorEq]
     exact⟨.ret,.inr ⟨rfl,by rw[e]⟩⟩
    ·simp -implicitDefEqProofs (maxSteps:=4000000) (disch:=omega) only[go_sem,g0,g1,g2,t1,t2,zhc,hlt,hlt2,s2,ze5,zfS];have e:zbs l i=zbs (swp l i (2 * i+1+1)) (2 * i+1+1):=by rw[zbs];simp only[h1,h2,hlt,hlt2,dite_true,dite_false,zacB,zacT,zacz,if_true,if_false,zabz,reduceCtorEq]
     rw[e];exact f2
  ·cases hlt2:lt (l.getD (2 * i+1) (0,0)) (l.getD i (0,0))
   ·simp -implicitDefEqProofs (maxSteps:=4000000) (disch:=omega) only[go_sem,g0,g1,t1,t2,zhc,hlt2,ze5,zfS];have e:zbs l i=l:=by rw[zbs];simp only[h1,h2,hlt2,dite_true,dite_false,zacB,zacT,zacz,if_true,if_false,zabz,reduceCtorEq]
    exact⟨.ret,.inr ⟨rfl,by rw[e]⟩⟩
   ·simp -implicitDefEqProofs (maxSteps:=4000000) (disch:=omega) only[go_sem,g0,g1,t1,t2,zhc,hlt2,s1,ze5,zfS];have e:zbs l i=zbs (swp l i (2 * i+1)) (2 * i+1):=by rw[zbs];simp only[h1,h2,hlt2,dite_true,dite_false,zacB,zacT,zacz,if_true,if_false,zabz,reduceCtorEq]
    rw[e];exact f1
 ·simp -implicitDefEqProofs (maxSteps:=4000000) (disch:=omega) only[go_sem,zabU];have e:zbs l i=l:=by rw[zbs];simp only[h1,dite_false]
  exact⟨.exit 0,.inl ⟨rfl,by rw[e]⟩⟩
theorem z7d(h:List Due)(i:Nat)(hi:i<h.length)(hL:h.length<=1000):zi G zos [.d (.sl (h.map eD)),.d (.int .i64 i)] []=some (.d (.sl ((zbs h i).map eD)),[]):=by
 obtain⟨e,h1|h1⟩:=z7c (h,i) ⟨hi,hL⟩
 ·have:=h1.2;simp only[zkZ] at this;rw[zI zH9 (by simp)];simp -implicitDefEqProofs (maxSteps:=4000000) (disch:=omega) only[zqO,zs7,go_sem,this]
 ·have:=h1.2;simp only[zkZ] at this;rw[zI zH9 (by simp)];simp -implicitDefEqProofs (maxSteps:=4000000) (disch:=omega) only[zqO,zs7,go_sem,this]
theorem zQc(h:List Due)(i:Nat)(hi:i<h.length)(hL:h.length<=1000):zi G zly [.d (.sl (h.map eD)),.d (.int .i64 i)] []=some (.d (.sl ((zdB h i).map eD)),[]):=by
 obtain⟨m,hm⟩:∃m,m=h.length - 1:=⟨_,rfl⟩;obtain⟨t,ht⟩:∃t,t=h.take m:=⟨_,rfl⟩;have htl:t.length=m:=by simp [ht];omega
 have e1:List.take m (h.map eD)=t.map eD:=by rw[ht,zac7]
 have w1:((h.length:Int) - 1)=(m:Int):=by omega
 have hmlt:m<h.length:=by omega
 have him:i<=m/\m<=1000:=by omega
 have him2:m<=4294967296:=by omega
 have hs:=zjJ h;have hs2:=zjJ t;unfold zdB;rw[<- hm, <- ht]
 by_cases hi2:i=m
 ·subst hi2;rw[zabo rfl];clear hm ht;exact zW zrF
 ·have hi3:i<m:=by omega
  rw[zabn hi2];obtain⟨l,hl⟩:∃l,l=t.set i (h.getD m (0,0)):=⟨_,rfl⟩;have hll:l.length=m:=by rw[hl,zacb,htl]
  have e5:(t.map eD).set i (eD (h[m]'hmlt))=l.map eD:=by rw[hl,zh hmlt,zacw]
  have hu:=zQg l i zo zo;have hd:=z7d l i zo zo;rw[<- hl];show zi G zly _ _=some (.d (.sl ((if (upL l i).2=i then zbs (upL l i).1 i else (upL l i).1).map eD)),[]);have hat:= @zRd l i;have hup:(¬0<i\/lt (l.getD i (0,0)) (l.getD ((i - 1) / 2) (0,0))=false)->upL l i=(l,i):=fun hc=>by
   rw[upL]
   rcases hc with hc|hc
   ·rw[zabn hc]
   ·split
    ·rw[zabn (by rw[hc];decide)]
    ·rfl
  have hm4:m<=1000:=by omega
  clear hl hm ht
  by_cases h0:0<i
  ·have hq:((i:Int) - 1).tdiv 2=(((i - 1) / 2:Nat):Int):=by rw[zac2 zo];omega
   have hj:(i - 1) / 2<l.length:=by omega
   have hil:i<l.length:=by omega
   have hbf:=zhc l[i] l[(i - 1) / 2]
   cases hlt:lt l[i] l[(i - 1) / 2]
   ·rw[hup (.inr (by rw[zh hil,zh hj];exact hlt))] at hu ⊢;rw[zabo rfl];rw[hlt] at hbf;clear hlt hup hat hu;exact zW zrF
   ·have:¬(upL l i).2=i:=by
       rcases hat.2 with hc|hc
       ·omega
       ·exact absurd ⟨h0,by rw[zh hil,zh hj];exact hlt⟩ hc.1
    rw[zabn this];rw[hlt] at hbf;generalize upL l i=r at *;clear hlt hup hat hd this;exact zW zrF
  ·rw[hup (.inl h0)];rw[zabo rfl];clear hup hat hu;exact zW zrF
theorem zQe(h:List Due)(id:Int)(hL:h.length<=LIM):zi G zoo [.d (.sl (h.map eD)),.d (.int .i64 id)] []=some (.d (eDE (zb6 h id)),[]):=by
 have hv:=ztq h hL;have hf:=zCx h id hL;unfold zb6 eDE
 by_cases h0:zce h=0
 ·have h12:=zDe h0
  by_cases hn:zbh h id<0
  ·rw[zI zzi (by simp)];simp -implicitDefEqProofs (maxSteps:=4000000) (disch:=omega) only[zl1,zne,go_sem,hv,h0,hf,hn,zabq]
  ·have hd:=zQc h (zbh h id).toNat (by have:=zV1 h id;omega) zo;rw[show (((zbh h id).toNat:Nat):Int)=zbh h id by omega] at hd;rw[zI zzi (by simp)];simp -implicitDefEqProofs (maxSteps:=4000000) (disch:=omega) only[zl1,zne,go_sem,hv,h0,hf,hn,hd]
 ·rw[zI zzi (by simp)];simp -implicitDefEqProofs (maxSteps:=4000000) (disch:=omega) only[zl1,zne,go_sem,hv,h0]
def Asc(l:List Due)(n:Nat):Prop:=∀p q,p<q->q<n->lt (l.getD q dz) (l.getD p dz)=false
def ziS(l:List Due)(j:Nat):List Due:=
 if 0<j then (if lt (l.getD j dz) (l.getD (j - 1) dz) then ziS (swp l j (j - 1)) (j - 1) else l) else l
termination_by j
theorem zLK(l:List Due)(j:Nat):(ziS l j).length=l.length:=by
 fun_induction ziS l j with
 | case1 l j h0 h1 ih=>rw[ih,zcP]
 | case2=>rfl
 | case3=>rfl
theorem zX4(l:List Due)(j i:Nat)(hi:i<l.length)(hj:j<=i)(h1:∀p q,p<q->q<=i->p≠j->q≠j->lt (l.getD q dz) (l.getD p dz)=false)(h2:∀q,j<q->q<=i->lt (l.getD q dz) (l.getD j dz)=false):Asc (ziS l j) (i+1)/\(ziS l j).Perm l:=by
 fun_induction ziS l j with
 | case1 l j h0 hlt ih=>
  have hs:∀k,(swp l j (j - 1)).getD k dz=if k=j - 1 then l.getD j dz else if k=j then l.getD (j - 1) dz else l.getD k dz:=fun k=>zCW l j (j - 1) k zo zo
  have ih':=ih (by rw[zcP];exact hi) zo (fun p q hpq hq hp hq2=>by
      rw[hs,hs]
      by_cases e1:q=j
      ·subst e1;rw[zabn zo,zabo rfl,zabn zo,zabn zo];exact h1 p (q - 1) zo zo zo zo
      ·by_cases e2:p=j
       ·subst e2;rw[zabn zo,zabn zo,zabn zo,zabo rfl];exact h1 (p - 1) q zo hq zo zo
       ·rw[zabn zo,zabn e1,zabn zo,zabn e2];exact h1 p q hpq hq e2 e1) (fun q hq1 hq2=>by
      rw[hs,hs,zabn zo,zabo rfl]
      by_cases e1:q=j
      ·rw[zabo e1];exact zi0 hlt
      ·rw[zabn e1];exact h2 q zo hq2)
  exact⟨ih'.1,ih'.2.trans (zCX l j (j - 1) zo zo)⟩
 | case2 l j h0 hlt=>
  refine⟨fun p q hpq hq=> ?_,.refl _⟩;have hjj:lt (l.getD j dz) (l.getD (j - 1) dz)=false:=by simpa using hlt
  by_cases e1:p=j
  ·subst e1;exact h2 q hpq zo
  ·by_cases e2:q=j
   ·subst e2
    by_cases e3:p=q - 1
    ·subst e3;exact hjj
    ·exact ziV (h1 p (q - 1) zo zo e1 zo) hjj
   ·exact h1 p q hpq zo e1 e2
 | case3 l j h0=>
  refine⟨fun p q hpq hq=> ?_,.refl _⟩
  by_cases e1:p=j
  ·subst e1;exact h2 q hpq zo
  ·exact h1 p q hpq zo e1 zo
def zgy(l:List Due)(i:Nat):List Due:=if i<l.length then zgy (ziS l i) (i+1) else l
termination_by l.length - i
decreasing_by rw[zLK];omega
theorem zlc(l:List Due)(i:Nat)(h:Asc l i):Asc (zgy l i) l.length/\(zgy l i).Perm l:=by
 fun_induction zgy l i with
 | case1 l i hi ih=>
  have:=zX4 l i i hi zo (fun p q hpq hq _ hq2=>h p q hpq zo) (fun q h1 h2=>by omega);have ih':=ih this.1;rw[zLK] at ih';exact⟨ih'.1,ih'.2.trans this.2⟩
 | case2 l i hi=>exact⟨fun p q hpq hq=>h p q hpq zo,.refl _⟩
def zj0(now:Int)(l:List Due):List Int:=(l.filter fun d=>decide (d.1<=now)).map (·.2)
def zcE(h:List Due)(now:Int):List Int:=if zce h=0 then zj0 now (zgy h 1) else []
end Go.Proofs.YtnmcgdpmikhohaaGreat
