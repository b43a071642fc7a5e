/-
  Sorting by insertion, and Until.
-/
import Derived.Test.YtdnlddoeamjcoaaGreatB842129c
set_option linter.unusedSimpArgs false
set_option linter.unusedVariables false
set_option maxHeartbeats 10000000
set_option maxRecDepth 100000
namespace Go.Proofs.YtdnlddoeamjcoaaGreat
open Go Go.Sim
def rD(d:zaM)(o:Nat):Nat×Go.Sim.Obj:=(o,.row [.d (zU d)])
theorem zk8(d:zaM)(j:Int)(hL:d.l.length<=4294967296):zg G zpk [.d (zU d),.d (.int .i64 j)] []=some (.d (.int .i64 (zbe d.l j)),[]):=by
 have:=zjo (G:=G) (x:=zA2) (ks:=[]) d.l.length (atB d.l fun x=>decide (x.shard=j)) (fun k=>⟨[(1,.d (.int .i64 j)),(2,.ref 2 0 0),(5,.d (.int .i64 k))],[(2,.row [.d (zU d)])]⟩) (fun k=>(.ret,⟨[(4,.d (.int .i64 k))],[]⟩)) (.exit 0,⟨[],[]⟩) (fun k hk L=>by
  simp only[zA2]
  by_cases h0:k<d.l.length
  ·simp only[h0,if_true,zg5 h0];exact zS
  ·exact zS)
 rw[zkl] at this;simp only[zNr,zE] at this;unfold zbe zce
 cases h:d.l.findIdx? (fun x=>decide (x.shard=j)) with
 | none=>rw[h] at this;clear h;exact zW zIy
 | some i=>rw[h] at this;clear h;exact zW zIy
theorem z8m(d:zaM)(n:Int)(hL:d.l.length<=4294967296):∀p:Nat×Int,p.1<=d.l.length/\0<=p.2/\p.2<=65536->zai G [] zAZ ⟨[(1,.ref 1 0 0),(3,.d (.int .i64 n)),(4,.d (.int .i64 p.2)),(5,.d (.int .i64 p.1))],[rD d 1]⟩=some (match zdM p.2 (d.l.drop p.1) with|some m=>(.exit 0,⟨[(1,.ref 1 0 0),(3,.d (.int .i64 n)),(4,.d (.int .i64 m))],[rD d 1]⟩)|none=>(.ret,⟨[(2,.d (.int .i64 7))],[]⟩)):=by
 refine za3 (fun p:Nat×Int=>d.l.length - p.1) _ (fun p:Nat×Int=>⟨[(1,.ref 1 0 0),(3,.d (.int .i64 n)),(4,.d (.int .i64 p.2)),(5,.d (.int .i64 p.1))],[rD d 1]⟩) _ fun⟨k,m⟩ ⟨hk,h1,h2⟩ L ih=> ?_;simp only at ih hk h1 h2 ⊢;simp only[zAZ,rD] at ih ⊢
 by_cases h0:k<d.l.length
 ·rw[zady h0,zdM]
  by_cases c:d.l[k].low=m/\d.l[k].low<=d.l[k].high/\d.l[k].high<65536
  ·have i1:=ih (k+1,d.l[k].high+1) ⟨by simp only;omega,by simp only;omega,by simp only;omega⟩ (by simp only;omega);simp only at i1;rw[zacY c];clear ih;generalize zdM (d.l[k].high+1) (d.l.drop (k+1))=z at *;simp only[zNr,zE] at i1
   cases z with
   | none=>exact zS
   | some z=>exact zS
  ·rw[zacX c];clear ih;exact zS
 ·rw[zafR zo,zdM];clear ih;exact zS
theorem z8n(d:zaM)(n:Nat)(hL:d.l.length<=4294967296)(hn:n<=6):zai G [] zsK ⟨[(1,.ref 1 0 0),(3,.d (.int .i64 n)),(7,.d (.int .i64 0))],[rD d 1]⟩=some (if d.l.any (zin n)=true then (.ret,⟨[(2,.d (.int .i64 4))],[]⟩) else (.exit 2,⟨[(1,.ref 1 0 0),(3,.d (.int .i64 n))],[rD d 1]⟩)):=by
 have:=zjo (G:=G) (x:=zsK) (ks:=[]) d.l.length (atB d.l (zin n)) (fun k=>⟨[(1,.ref 1 0 0),(3,.d (.int .i64 n)),(7,.d (.int .i64 k))],[rD d 1]⟩) (fun k=>(.ret,⟨[(2,.d (.int .i64 4))],[]⟩)) (.exit 2,⟨[(1,.ref 1 0 0),(3,.d (.int .i64 n))],[rD d 1]⟩) (fun k hk L=>by
  simp only[zsK,rD]
  by_cases h0:k<d.l.length
  ·simp only[h0,if_true,zg5 h0];unfold zin;exact zS
  ·exact zS)
 rw[zkl] at this;simp only[zNr,zE] at this;rw[this]
 congr 1
 have e:=zLV d.l (zin n);unfold zce at e
 cases h:d.l.findIdx? (zin n) with
 | none=>rw[h] at e;rw[<- e];rfl
 | some i=>rw[h] at e;rw[<- e];simp
theorem z8o(d:zaM)(n:Nat)(hL:d.l.length<=4294967296):zai G [] zA0 ⟨[(1,.ref 1 0 0),(3,.d (.int .i64 n)),(8,.d (.int .i64 0))],[rD d 1]⟩=some (if (List.range d.l.length).all (zmk d.l)=true then (.exit 4,⟨[(1,.ref 1 0 0),(3,.d (.int .i64 n))],[rD d 1]⟩) else (.ret,⟨[(2,.d (.int .i64 10))],[]⟩)):=by
 refine zhr (G:=G) d.l.length (zmk d.l) (fun k=>⟨[(1,.ref 1 0 0),(3,.d (.int .i64 n)),(8,.d (.int .i64 k))],[rD d 1]⟩) _ _ fun k hk L=> ?_;simp only[zA0,rD]
 by_cases h0:k<d.l.length
 ·have hi:=zk8 d (d.l[k]).shard hL;simp only[h0,if_true];unfold zmk;rw[zj h0];exact zS
 ·exact zS
theorem z8p(d:zaM)(hL:d.l.length<=4294967296)(hF:d.forward.length<=6):zai G [] zA1 ⟨[(1,.ref 1 0 0),(3,.d (.int .i64 d.forward.length)),(9,.d (.int .i64 0))],[rD d 1]⟩=some (if (List.range d.forward.length).all (zi9 d)=true then (.exit 6,⟨[(1,.ref 1 0 0),(3,.d (.int .i64 d.forward.length))],[rD d 1]⟩) else (.ret,⟨[(2,.d (.int .i64 7))],[]⟩)):=by
 refine zhr (G:=G) d.forward.length (zi9 d) (fun k=>⟨[(1,.ref 1 0 0),(3,.d (.int .i64 d.forward.length)),(9,.d (.int .i64 k))],[rD d 1]⟩) _ _ fun k hk L=> ?_;simp only[zA1,rD]
 by_cases h0:k<d.forward.length
 ·have hi:=zk8 d k hL;simp only[h0,if_true];unfold zi9;rw[zj h0];exact zS
 ·exact zS
theorem zGT(F:List Int):∀(m:Nat) (a:Int),a<0->zdP F m a=a
 | 0,a,_=>rfl
 | m+1,a,h=>by rw[zdP,zacX zo,zGT F m a h]
theorem z8q(d:zaM)(i:Nat)(hF:d.forward.length<=6)(hv:∀a∈d.forward, -1<=a/\a<d.forward.length):∀p:Nat×Int,p.1<=d.forward.length/\ -1<=p.2/\p.2<d.forward.length->zai G [] zsL ⟨[(1,.ref 1 0 0),(3,.d (.int .i64 d.forward.length)),(10,.d (.int .i64 i)),(11,.d (.int .i64 p.2)),(12,.d (.int .i64 p.1))],[rD d 1]⟩=some (.exit 10,⟨[(1,.ref 1 0 0),(3,.d (.int .i64 d.forward.length)),(10,.d (.int .i64 i)),(11,.d (.int .i64 (zdP d.forward (d.forward.length - p.1) p.2)))],[rD d 1]⟩):=by
 refine za3 (fun p:Nat×Int=>d.forward.length - p.1) _ (fun p:Nat×Int=>⟨[(1,.ref 1 0 0),(3,.d (.int .i64 d.forward.length)),(10,.d (.int .i64 i)),(11,.d (.int .i64 p.2)),(12,.d (.int .i64 p.1))],[rD d 1]⟩) _ fun⟨k,a⟩ ⟨hk,h1,h2⟩ L ih=> ?_;simp only[rD] at ih hk h1 h2 ⊢;simp only[zsL]
 by_cases h0:k<d.forward.length
 ·by_cases c1:0<=a
  ·have hlt:a.toNat<d.forward.length:=by omega
   have hm:=hv (d.forward[a.toNat]) (zadf _);have i1:=ih (k+1,d.forward[a.toNat]) ⟨by simp only;omega,by simp only;omega,by simp only;omega⟩ (by simp only;omega);rw[show d.forward.length - k=(d.forward.length - (k+1))+1 by omega,zdP,zacY c1,zj hlt];simp only at i1;generalize zdP d.forward (d.forward.length - (k+1)) d.forward[a.toNat]=z at *;clear ih hv;simp only[zNr,zE] at i1;exact zS
  ·rw[zGT _ _ _ zo];clear ih hv;exact zS
 ·rw[show d.forward.length - k=0 by omega,zdP];clear ih hv;exact zS
theorem z8r(d:zaM)(hF:d.forward.length<=6)(hv:∀a∈d.forward, -1<=a/\a<d.forward.length):zai G [] zsM ⟨[(1,.ref 1 0 0),(3,.d (.int .i64 d.forward.length)),(10,.d (.int .i64 0))],[rD d 1]⟩=some (if ((List.range d.forward.length).all fun i=>decide (zdP d.forward d.forward.length i<0))=true then (.exit 8,⟨[],[]⟩) else (.ret,⟨[(2,.d (.int .i64 7))],[]⟩)):=by
 refine zhr (G:=G) d.forward.length (fun i=>decide (zdP d.forward d.forward.length i<0)) (fun k=>⟨[(1,.ref 1 0 0),(3,.d (.int .i64 d.forward.length)),(10,.d (.int .i64 k))],[rD d 1]⟩) _ _ fun k hk L=> ?_
 by_cases h0:k<d.forward.length
 ·have hl:=z8q d k hF hv (0,k) ⟨by omega,by omega,by omega⟩;simp only[zaeq,rD] at hl;simp only[zsM,rD,h0,if_true];generalize zdP d.forward d.forward.length k=z at *;clear hv;simp only[zNr,zE] at hl;exact zS
 ·clear hv;simp only[zsM,rD];exact zS
theorem zk9(d:zaM)(hL:d.l.length<=4294967296):zg G zpj [.d (zU d)] []=some (.d (.int .i64 (zbC d)),[]):=by
 have l0:=fun n=>z8m d n hL (0,0) ⟨by omega,by omega,by omega⟩;simp only[zadu,rD,zado] at l0;unfold zbC
 by_cases c1:d.version<1\/1099511627776<d.version\/d.forward.length<1\/6<d.forward.length
 ·rw[zacY c1];clear l0;exact zW zh8
 rw[zacX c1];have l1:=z8n d d.forward.length hL zo;have l2:=z8o d d.forward.length hL;have l3:=z8p d hL zo;simp only[rD] at l1 l2 l3;replace l0:=l0 d.forward.length
 by_cases c2:zdM 0 d.l=some 65536
 ·rw[zacX (by simp [c2])];rw[c2] at l0;simp only at l0
  cases c3:d.l.any (zin d.forward.length)
  ·rw[c3,zacX (by simp)] at l1;rw[zacX (by simp)]
   cases c4:(List.range d.l.length).all (zmk d.l)
   ·rw[c4,zacX (by simp)] at l2;rw[zacY rfl];clear c2 c3 c4 l3;exact zW zh8
   ·rw[c4,zacY rfl] at l2;rw[zacX (by simp)];unfold zzi
    cases c5:(List.range d.forward.length).all (zi9 d)
    ·rw[c5,zacX (by simp)] at l3;rw[zadO,zacY rfl];clear c2 c3 c4 c5;exact zW zh8
    ·rw[c5,zacY rfl] at l3;rw[zaed];have l5:=z8r d zo (by
      intro a ha;obtain⟨i,hi,e⟩:=zaeN ha;have:=(zadp.1 c5) i (zadU.2 hi);unfold zi9 at this;rw[zj hi,e] at this;simp only[zadP,zaey,decide_eq_false_iff_not] at this;omega)
     simp only[rD] at l5
     cases c6:(List.range d.forward.length).all fun i=>decide (zdP d.forward d.forward.length i<0)
     ·rw[c6,zacX (by simp)] at l5;rw[zacY rfl];clear c2 c3 c4 c5 c6;exact zW zh8
     ·rw[c6,zacY rfl] at l5;rw[zacX (by simp)];clear c2 c3 c4 c5 c6;exact zW zh8
  ·rw[c3,zacY rfl] at l1;rw[zacY rfl];clear c2 c3 l2 l3;exact zW zh8
 ·rw[zacY c2]
  cases c3:zdM 0 d.l with
  | none=>
   rw[c3] at l0;simp only at l0;clear c2 c3 l1 l2 l3;exact zW zh8
  | some m=>
   rw[c3] at l0;simp only at l0;have hm:¬m=65536:=fun e=>c2 (by rw[c3,e]);clear c2 c3 l1 l2 l3;exact zW zh8
def inS(r:Int)(x:Span):Bool:=decide (x.low<=r)&&decide (r<=x.high)
def zeR(d:zaM)(r:Int):Int:=if zbC d=0 then (match d.l.findIdx? (inS r) with|some i=>(d.l.getD i ze6).shard|none=> -1) else -1
theorem z8k(d:zaM)(r:Int)(hL:d.l.length<=4294967296)(hv:zbC d=0):zai G [] zjj ⟨[(1,.d (.int .i64 r)),(2,.ref 2 0 0),(5,.d (.int .i64 0))],[rD d 2]⟩=some (zh4 d.l.length (atB d.l (inS r)) (fun k=>(.ret,⟨[(4,.d (.int .i64 (d.l.getD k ze6).shard))],[]⟩)) (.exit 0,⟨[],[]⟩)):=by
 have hval:=zk9 d hL;rw[hv] at hval;refine zjo (G:=G) d.l.length (atB d.l (inS r)) (fun k=>⟨[(1,.d (.int .i64 r)),(2,.ref 2 0 0),(5,.d (.int .i64 k))],[rD d 2]⟩) _ _ fun k hk L=> ?_;clear hv;simp only[zjj,rD]
 by_cases h0:k<d.l.length
 ·simp only[h0,if_true,zg5 h0];unfold inS;exact zS
 ·exact zS
theorem zNC(d:zaM)(r:Int)(hL:d.l.length<=4294967296):zg G zph [.d (zU d),.d (.int .i64 r)] []=some (.d (.int .i64 (zeR d r)),[]):=by
 unfold zeR
 by_cases c:zbC d=0
 ·have hl:=z8k d r hL c;rw[zkl] at hl;rw[zacY c];simp only[rD] at hl
  cases h:d.l.findIdx? (inS r) with
  | none=>rw[h] at hl;clear h c;exact zW zrV
  | some i=>rw[h] at hl;clear h c;exact zW zrV
 ·rw[zacX c];have hval:=zk9 d hL
  by_cases h0:0<d.l.length
  ·rw[zO zrV (by simp)];simp -implicitDefEqProofs (maxSteps:=4000000) (disch:=omega) only[zqY,ztk,za2,zjj,zj,go_sem, *];(try simp only[zPr]);repeat' (first|done|rfl|((first|refine zay (fun hq=> ?_) (fun hq=> ?_)|refine zaD (fun hq=> ?_) (fun hq=> ?_))<;>(try (first|(exfalso;omega)|contradiction))<;>(try simp -implicitDefEqProofs (maxSteps:=4000000) (disch:=omega) only[za2,zjj,zj,go_sem, *])<;>(try simp only[zPr])));(all_goals try rfl);(all_goals try (repeat' (first|done|rfl|(exfalso;omega)|contradiction|(refine zaz (fun hq=> ?_) (fun hq=> ?_)))))
  ·rw[zO zrV (by simp)];simp -implicitDefEqProofs (maxSteps:=4000000) (disch:=omega) only[zqY,ztk,za2,zjj,zj,go_sem, *];(try simp only[zPr]);repeat' (first|done|rfl|((first|refine zay (fun hq=> ?_) (fun hq=> ?_)|refine zaD (fun hq=> ?_) (fun hq=> ?_))<;>(try (first|(exfalso;omega)|contradiction))<;>(try simp -implicitDefEqProofs (maxSteps:=4000000) (disch:=omega) only[za2,zjj,zj,go_sem, *])<;>(try simp only[zPr])));(all_goals try rfl);(all_goals try (repeat' (first|done|rfl|(exfalso;omega)|contradiction|(refine zaz (fun hq=> ?_) (fun hq=> ?_)))))
theorem z8l(d:zaM)(j:Int)(hL:d.l.length<=4294967296):zg G zpi [.d (zU d),.d (.int .i64 j)] []=some (.d (.tup [zaw (zlr d j).1,.bool (zlr d j).2]),[]):=by
 have hval:=zk9 d hL;have hi:=zk8 d j hL;have hb:=zsk d.l (fun x=>decide (x.shard=j));change -1<=zbe d.l j/\zbe d.l j<d.l.length at hb;unfold zlr
 by_cases c:zbC d=0/\0<=zbe d.l j
 ·obtain⟨c1,c2⟩:=c;rw[c1] at hval;rw[zacY ⟨c1,c2⟩];clear c1;exact zW zzI
 ·rw[zacX c]
  by_cases c1:zbC d=0
  ·have c2:¬0<=zbe d.l j:=fun h=>c ⟨c1,h⟩;rw[c1] at hval;clear c c1;exact zW zzI
  ·clear c;exact zW zzI
def zgJ(d:zaM):Nat->Int->Int
 | 0,a=>a
 | m+1,a=>if 0<=a/\zbe d.l a<0 then zgJ d m (d.forward.getD a.toNat 0) else a
def zky(d:zaM)(a:Int):Int:=if zbC d≠0\/a<0\/(d.forward.length:Int)<=a then -1 else zgJ d d.forward.length a
theorem zH8{d:zaM}(h:zbC d=0):d.forward.length<=6/\d.l.length<=4294967296->(∀a∈d.forward, -1<=a/\a<d.forward.length)/\∀i:Nat,i<d.forward.length->zdP d.forward d.forward.length i<0:=by
 intro _;unfold zbC at h
 split at h
 ·cases h
 split at h
 ·cases h
 split at h
 ·cases h
 split at h
 ·cases h
 split at h
 ·cases h
 rename_i h5;simp only[zafZ] at h5;unfold zzi at h5;rw[zac7] at h5;refine⟨fun a ha=> ?_,fun i hi=>by simpa using (zadp.1 h5.2) i (zadU.2 hi)⟩;obtain⟨i,hi,e⟩:=zaeN ha;have:=(zadp.1 h5.1) i (zadU.2 hi);unfold zi9 at this;rw[zj hi,e] at this;simp only[zadP,zaey,decide_eq_false_iff_not] at this;omega
theorem zke{d:zaM}(h:zbC d=0):1<=d.forward.length/\d.forward.length<=6/\1<=d.version/\d.version<=1099511627776:=by
 unfold zbC at h
 split at h
 ·cases h
 ·omega
theorem z8i(d:zaM)(hL:d.l.length<=4294967296)(hv:∀a∈d.forward, -1<=a/\a<d.forward.length)(hF:d.forward.length<=6):∀p:Nat×Int,zdP d.forward p.1 p.2<0/\ -1<=p.2/\p.2<d.forward.length->zai G [18] zAW ⟨[(1,.d (.int .i64 p.2)),(2,.ref 2 0 0)],[rD d 2]⟩=some (.exit 0,⟨[(1,.d (.int .i64 (zgJ d p.1 p.2)))],[]⟩):=by
 refine za3 (fun p:Nat×Int=>p.1) _ (fun p:Nat×Int=>⟨[(1,.d (.int .i64 p.2)),(2,.ref 2 0 0)],[rD d 2]⟩) _ fun⟨m,a⟩ ⟨hc,h1,h2⟩ L ih=> ?_;simp only[rD] at ih hc h1 h2 ⊢;simp only[zAW];have hi:=zk8 d a hL
 by_cases c:0<=a/\zbe d.l a<0
 ·obtain⟨c1,c2⟩:=c
  rcases m with _|m
  ·simp only[zdP] at hc;omega
  have hlt:a.toNat<d.forward.length:=by omega
  have hm:=hv (d.forward[a.toNat]) (zadf _);rw[zdP,zacY c1,zj hlt] at hc;have i1:=ih (m,d.forward[a.toNat]) ⟨hc,hm.1,hm.2⟩ (by simp only;omega);rw[zgJ,zacY ⟨c1,c2⟩,zj hlt];simp only at i1;generalize zgJ d m d.forward[a.toNat]=z at *;clear ih hv hc;exact zS
 ·have e:zgJ d m a=a:=by
     rcases m with _|m
     ·rfl
     ·rw[zgJ,zacX c]
  rw[e];clear ih hv hc e
  by_cases c1:0<=a
  ·have c2:¬zbe d.l a<0:=fun h=>c ⟨c1,h⟩;clear c;exact zS
  ·clear c;exact zS
theorem z8j(d:zaM)(a:Int)(hL:d.l.length<=4294967296):zg G zpg [.d (zU d),.d (.int .i64 a)] []=some (.d (.int .i64 (zky d a)),[]):=by
 have hval:=zk9 d hL;unfold zky
 by_cases c0:zbC d=0
 ·have hl:=zke c0;have hv:=zH8 c0 ⟨hl.2.1,hL⟩;rw[c0] at hval
  by_cases c:a<0\/(d.forward.length:Int)<=a
  ·rw[zacY (.inr c)];clear hv c0;exact zW zzH
  ·rw[zacX (by rw[c0];simp;omega)];have hc:=hv.2 a.toNat zo;rw[show ((a.toNat:Nat):Int)=a by omega] at hc;have hlp:=z8i d hL hv.1 hl.2.1 (d.forward.length,a) ⟨hc,by simp only;omega,by simp only;omega⟩;simp only[rD] at hlp;clear hv c0 hc;exact zW zzH
 ·rw[zacY (.inl c0)];exact zW zzH
theorem zt6{k n:Nat}(h:k<n)(hn:n<=LIM):IntKind.i64.wrap ((k:Int)+1)=((k+1:Nat):Int):=by
 unfold LIM at hn;rw[Go.IntWalk.i64_in _ zo];simp
def zrk(a b:Int):Int:=if a<b then -1 else if b<a then 1 else 0
def zGX(a b:Due):Int:=if zrk a.1 b.1=0 then zrk a.2 b.2 else zrk a.1 b.1
def lt(a b:Due):Bool:=decide (zGX a b<0)
def zer(d:Due):Bool:=decide (0<=d.1)&&(decide (d.1<=1073741824)&&(decide (1<=d.2)&&decide (d.2<=1073741824)))
def zby(h:List Due)(j:Int):Int:=zce (fun d=>decide (d.2=j)) h
def zhZ(h:List Due)(i:Nat):Bool:=decide (zby h (h.getD i (0,0)).2≠i)
def zit(h:List Due)(i:Nat):Bool:=lt (h.getD i (0,0)) (h.getD ((i - 1) / 2) (0,0))
def zcy(h:List Due):Int:=if 12<h.length then 2 else if h.any (fun d=> !zer d) then 1 else if (List.range' 0 h.length).any (zhZ h) then 10 else if (List.range' 1 (h.length - 1)).any (zit h) then 11 else 0
def swp(l:List Due)(i j:Nat):List Due:=(l.set i (l.getD j (0,0))).set j (l.getD i (0,0))
theorem zdm(l:List Due)(i j:Nat):(swp l i j).length=l.length:=by simp [swp]
def upL(l:List Due)(i:Nat):List Due×Nat:=
 if 0<i then
  if lt (l.getD i (0,0)) (l.getD ((i - 1) / 2) (0,0)) then upL (swp l i ((i - 1) / 2)) ((i - 1) / 2) else (l,i)
 else (l,i)
termination_by i
decreasing_by omega
theorem zacs(l:List Due)(i:Nat):(upL l i).1.length=l.length:=by
 fun_induction upL l i with
 | case1 l i h0 h1 ih=>rw[ih,zdm]
 | case2=>rfl
 | case3=>rfl
def zbL(l:List Due)(i:Nat):List Due:=
 if _h:2 * i+1<l.length then
  let k:=if 2 * i+1+1<l.length/\lt (l.getD (2 * i+1+1) (0,0)) (l.getD (2 * i+1) (0,0)) then 2 * i+1+1 else 2 * i+1
  if lt (l.getD k (0,0)) (l.getD i (0,0)) then zbL (swp l i k) k else l
 else l
termination_by l.length - i
decreasing_by simp only[zdm];split<;>omega
def zfK(h:List Due)(d:Due):List Due:=(upL (h++[d]) h.length).1
def znh(h:List Due)(d:Due):Int:=if zcy h≠0 then zcy h else if zer d=false then 1 else if h.length=12 then 3 else if 0<=zby h d.2 then 10 else 0
def zfJ(h:List Due)(d:Due):List Due×Int:=(if znh h d=0 then zfK h d else [],znh h d)
def eDE(r:List Due×Int):D:= .tup [.sl (r.1.map eD),.int .i64 r.2]
theorem zDt{h:List Due}(h0:zcy h=0):h.length<=12:=by
 unfold zcy at h0
 split at h0
 ·cases h0
 ·omega
def zd9(h:List Due)(i:Nat):List Due:=
 if i=h.length - 1 then h.take (h.length - 1) else
 let l:=(h.take (h.length - 1)).set i (h.getD (h.length - 1) (0,0))
 if (upL l i).2=i then zbL (upL l i).1 i else (upL l i).1
def zcs(h:List Due)(id:Int):List Due×Int:=
 if zcy h≠0 then ([],zcy h) else if zby h id<0 then ([],4) else (zd9 h (zby h id).toNat,0)
theorem zWJ(h:List Due)(id:Int):zby h id<h.length:=by
 unfold zby zce
 cases e:List.findIdx? (fun d:Due=>decide (d.2=id)) h with
 | none=>simp only;omega
 | some i=>have:=(zad6.1 e).1;simp only;omega
abbrev dz:Due:=(0,0)
theorem zBo(a b:Due):lt a b=true↔a.1<b.1\/(a.1=b.1/\a.2<b.2):=by
 unfold lt zGX zrk;rw[decide_eq_true_iff]
 repeat' split
 all_goals omega
theorem zhs(a b:Due):lt a b=false↔b.1<a.1\/(b.1=a.1/\b.2<=a.2):=by
 rw[<- zaeD,zBo];omega
theorem zjp{a b:Due}(h:lt a b=true):lt b a=false:=by rw[zBo] at h;rw[zhs];omega
theorem zjk{a b c:Due}(h1:lt b a=false)(h2:lt c b=false):lt c a=false:=by rw[zhs] at *; omega
def ziM(l:List Due):Prop:=∀k,1<=k->k<l.length->lt (l.getD k dz) (l.getD ((k - 1) / 2) dz)=false
theorem zDb(l:List Due)(i j k:Nat)(hi:i<l.length)(hj:j<l.length):(swp l i j).getD k dz=if k=j then l.getD i dz else if k=i then l.getD j dz else l.getD k dz:=by
 unfold swp;simp only[zadC,zaeS,zadM]
 by_cases h1:j=k
 ·subst h1;simp [hj]
 ·rw[zacX h1,zacX (Ne.symm h1)]
  by_cases h2:i=k
  ·subst h2;simp [hi]
  ·rw[zacX h2,zacX (Ne.symm h2)]
theorem zDc(l:List Due)(i j:Nat)(hi:i<l.length)(hj:j<l.length):(swp l i j).Perm l:=by
 unfold swp;have:=List.set_set_perm hi hj;simpa [hi,hj] using this
theorem zRm(l:List Due)(i:Nat)(hi:i<l.length):(upL l i).1.Perm l:=by
 fun_induction upL l i with
 | case1 l i h0 h1 ih=>exact (ih (by rw[zdm];omega)).trans (zDc l _ _ hi zo)
 | case2=>exact .refl _
 | case3=>exact .refl _
theorem zRl (l:List Due) (i:Nat) (hi:i<l.length) (h1:∀k,1<=k->k<l.length->k≠i->lt (l.getD k dz) (l.getD ((k - 1) / 2) dz)=false)
    (h2:∀k,1<=k->k<l.length->(k - 1) / 2=i->1<=i->lt (l.getD k dz) (l.getD ((i - 1) / 2) dz)=false):ziM (upL l i).1:=by
 fun_induction upL l i with
 | case1 l i h0 hlt ih=>
  have hp:(i - 1) / 2<l.length:=by omega
  have e:=fun k=>zDb l i ((i - 1) / 2) k hi hp;refine ih (by rw[zdm];omega) (fun k ha hb hc=> ?_) (fun k ha hb hc hd=> ?_)
  ·rw[zdm] at hb;rw[e,e]
   by_cases hk:k=i
   ·subst hk;rw[zacX zo,zacY rfl,zacY rfl];exact zjp hlt
   ·rw[zacX hc,zacX hk]
    by_cases hq:(k - 1) / 2=(i - 1) / 2
    ·rw[zacY hq];have:=h1 k ha hb hk;rw[hq] at this;exact zjk (zjp hlt) this
    ·rw[zacX hq]
     by_cases hr:(k - 1) / 2=i
     ·rw[zacY hr];exact h2 k ha hb hr zo
     ·rw[zacX hr];exact h1 k ha hb hk
  ·rw[zdm] at hb;rw[e,e,zacX (show k≠(i - 1) / 2 by omega),zacX (show ((i - 1) / 2 - 1) / 2≠(i - 1) / 2 by omega),zacX (show ((i - 1) / 2 - 1) / 2≠i by omega)];have hpp:=h1 ((i - 1) / 2) hd hp zo
   by_cases hk:k=i
   ·rw[zacY hk];exact hpp
   ·rw[zacX hk];have:=h1 k ha hb hk;rw[hc] at this;exact zjk hpp this
 | case2 l i h0 hlt=>
  intro k ha hb
  by_cases hk:k=i
  ·subst hk;simpa using hlt
  ·exact h1 k ha hb hk
 | case3 l i h0=>
  intro k ha hb;exact h1 k ha hb zo
theorem zUS(l:List Due)(i:Nat)(hi:i<l.length):(zbL l i).Perm l:=by
 fun_induction zbL l i with
 | case1 l i h k h1 ih=>
  have hk:k<l.length:=by simp only[k];split<;>omega
  exact (ih (by rw[zdm];exact hk)).trans (zDc l _ _ hi hk)
 | case2=>exact .refl _
 | case3=>exact .refl _
theorem zUR (l:List Due) (i:Nat) (hi:i<l.length) (h1:∀k,1<=k->k<l.length->(k - 1) / 2≠i->lt (l.getD k dz) (l.getD ((k - 1) / 2) dz)=false)
    (h2:∀k,1<=k->k<l.length->(k - 1) / 2=i->1<=i->lt (l.getD k dz) (l.getD ((i - 1) / 2) dz)=false):ziM (zbL l i):=by
 fun_induction zbL l i with
 | case1 l i h k hlt ih=>
  have hk:k<l.length/\i<k/\(k - 1) / 2=i/\∀q,1<=q->q<l.length->(q - 1) / 2=i->lt (l.getD q dz) (l.getD k dz)=false:=by
   simp only[k]
   split
   ·rename_i hc;refine⟨by omega,by omega,by omega,fun q ha hb hq=> ?_⟩;have:q=2 * i+1\/q=2 * i+1+1:=by omega
    rcases this with rfl|rfl
    ·exact zjp hc.2
    ·rw[zhs];omega
   ·rename_i hc;refine⟨by omega,by omega,by omega,fun q ha hb hq=> ?_⟩;have:q=2 * i+1\/q=2 * i+1+1:=by omega
    rcases this with rfl|rfl
    ·rw[zhs];omega
    ·simp only[hb,zadZ,zaeD] at hc;exact hc
  obtain⟨hk1,hk2,hk3,hk4⟩:=hk
  clear_value k
  have e:=fun q=>zDb l i k q hi hk1;refine ih (by rw[zdm];exact hk1) (fun q ha hb hc=> ?_) (fun q ha hb hc hd=> ?_)
  ·rw[zdm] at hb;rw[e,e]
   by_cases hq:q=k
   ·subst hq;rw[zacY rfl,hk3,zacX zo,zacY rfl];exact zjp hlt
   ·rw[zacX hq,zacX hc]
    by_cases hr:q=i
    ·subst hr;rw[zacY rfl,zacX zo];exact h2 k zo hk1 hk3 ha
    ·rw[zacX hr]
     by_cases hs:(q - 1) / 2=i
     ·rw[zacY hs];exact hk4 q ha hb hs
     ·rw[zacX hs];exact h1 q ha hb hs
  ·rw[zdm] at hb;rw[e,e,zacX (show q≠k by omega),zacX (show q≠i by omega),hk3,zacX zo,zacY rfl];have:=h1 q ha hb zo;rw[hc] at this;exact this
 | case2 l i h k hlt=>
  intro q ha hb
  by_cases hq:(q - 1) / 2=i
  ·have hlt:lt (l.getD k dz) (l.getD i dz)=false:=by simpa using hlt
   rw[hq];refine zjk hlt ?_;simp only[k];have:q=2 * i+1\/q=2 * i+1+1:=by omega
   split
   ·rename_i hc
    rcases this with rfl|rfl
    ·exact zjp hc.2
    ·rw[zhs];omega
   ·rename_i hc
    rcases this with rfl|rfl
    ·rw[zhs];omega
    ·simp only[hb,zadZ,zaeD] at hc;exact hc
  ·exact h1 q ha hb hq
 | case3 l i h=>
  intro q ha hb;exact h1 q ha hb zo
theorem zHO(h:List Due)(j:Int):zby h j<h.length:=by
 unfold zby zce
 cases e:List.findIdx? (fun d:Due=>decide (d.2=j)) h with
 | none=>simp only;omega
 | some i=>have:=(zad6.1 e).1;simp only;omega
theorem zWE(h:List Due)(j:Int)(h0:0<=zby h j):(h.getD (zby h j).toNat dz).2=j:=by
 revert h0;unfold zby zce
 cases e:List.findIdx? (fun d:Due=>decide (d.2=j)) h with
 | none=>simp
 | some i=>
  obtain⟨h1,h2,_⟩:=zad6.1 e;simp only[zadG];intro _;simpa [h1] using h2
theorem zHP(h:List Due)(j:Int):zby h j<0↔j∉h.map (·.2):=by
 unfold zby zce
 cases e:List.findIdx? (fun d:Due=>decide (d.2=j)) h with
 | none=>
  simp only[zae6,decide_eq_false_iff_not] at e;simp only[show ((-1:Int)<0) by omega,true_iff,zadc,not_exists,not_and];exact fun d hd=>e d hd
 | some i=>
  obtain⟨h1,h2,_⟩:=zad6.1 e;simp only[decide_eq_true_eq] at h2;refine⟨fun h=>by simp only at h;omega,fun hn=>absurd (zadc.2 ⟨_,zadf h1,h2⟩) hn⟩
theorem zHN(h:List Due)(i:Nat)(hi:i<h.length)(hd:(h.map (·.2)).Nodup):zby h (h.getD i dz).2=i:=by
 unfold zby zce;have:List.findIdx? (fun d:Due=>decide (d.2=(h.getD i dz).2)) h=some i:=by
  refine zad6.2 ⟨hi,by simp [hi],fun j hj=> ?_⟩;have:=(zad7.1 hd) j i (by simp;omega) (by simpa using hi) hj;simpa [hi] using this
 rw[this]
theorem z1P(h:List Due)(hf:∀i,i<h.length->zby h (h.getD i dz).2=i):(h.map (·.2)).Nodup:=by
 refine zad7.2 fun i j hi hj hij=> ?_;simp only[zadd] at hi hj;simp only[zafg];intro he;have h1:=hf i hi;have h2:=hf j hj;simp only[zadC,zada hi,zada hj,zaes] at h1 h2;rw[he] at h1;omega
structure Ok(h:List Due):Prop where
 len:h.length<=12
 val:∀d∈h,zer d=true
 ids:(h.map (·.2)).Nodup
 ord:ziM h
theorem zf0(h:List Due):zcy h=0↔Ok h:=by
 unfold zcy
 by_cases h1:12<h.length
 ·rw[zacY h1];exact⟨fun h=>by omega,fun o=>absurd o.len zo⟩
 rw[zacX h1]
 by_cases h2:h.any (fun d=> !zer d)=true
 ·rw[zacY h2];refine⟨fun h=>by omega,fun o=> ?_⟩;obtain⟨d,hd,h3⟩:=zadY.1 h2;simp [o.val d hd] at h3
 rw[zacX h2];have h2:∀d∈h,zer d=true:=by simpa using h2
 by_cases h3:(List.range' 0 h.length).any (zhZ h)=true
 ·rw[zacY h3];refine⟨fun h=>by omega,fun o=> ?_⟩;obtain⟨i,hi,h4⟩:=zadY.1 h3;simp only[zaeV,zadv] at hi;simp [zhZ,zHN h i hi.2 o.ids] at h4;exact absurd (zHN h i hi.2 o.ids) (by simpa [dz] using h4)
 rw[zacX h3];have h3:∀i,i<h.length->zby h (h.getD i dz).2=i:=by
  intro i hi;simp only[zadY,not_exists,not_and,zaeV] at h3;have:=h3 i ⟨by omega,by omega⟩;simpa [zhZ] using this
 by_cases h4:(List.range' 1 (h.length - 1)).any (zit h)=true
 ·rw[zacY h4];refine⟨fun h=>by omega,fun o=> ?_⟩;obtain⟨i,hi,h5⟩:=zadY.1 h4;simp only[zaeV] at hi;have:=o.ord i hi.1 zo;unfold zit at h5;rw[h5] at this;cases this
 rw[zacX h4];refine⟨fun _=>⟨by omega,h2,z1P h h3,fun k ha hb=> ?_⟩,fun _=>rfl⟩;simp only[zadY,not_exists,not_and,zaeV] at h4;have:=h4 k ⟨by omega,by omega⟩;simpa [zit] using this
theorem Ok.of_perm{h l:List Due}(hp:l.Perm h)(hl:h.length<=12)(hv:∀d∈h,zer d=true)(hi:(h.map (·.2)).Nodup)(ho:ziM l):Ok l:=
 ⟨by rw[hp.length_eq];exact hl,fun d hd=>hv d (hp.mem_iff.1 hd),(hp.map _).nodup_iff.2 hi,ho⟩
theorem zI2(h:List Due)(d:Due)(k:Nat):(h++[d]).getD k dz=if k<h.length then h.getD k dz else if k=h.length then d else dz:=by
 simp only[zadC,List.getElem?_append]
 split
 ·rfl
 ·rename_i hk
  by_cases hk2:k=h.length
  ·subst hk2;simp
  ·rw[zacX hk2,zaeX (by simp;omega)];rfl
theorem zBT{h:List Due}{d:Due}(o:Ok h)(hd:zer d=true)(hl:h.length<12)(hn:d.2∉h.map (·.2)):zfJ h d=(zfK h d,0)/\Ok (zfK h d)/\(zfK h d).Perm (d::h):=by
 have hp:(zfK h d).Perm (d::h):=(zRm (h++[d]) h.length (by simp)).trans (zafz (l₂:=[d]));have he:znh h d=0:=by
  unfold znh;rw[(zf0 h).2 o,hd,zacX (by simp),zacX (by simp),zacX zo,zacX];have:=(zHP h d.2).2 hn;omega
 refine⟨by unfold zfJ;rw[he,zacY rfl],.of_perm hp (by simp;omega) (fun x hx=>by rcases zadB.1 hx with rfl|hx;exact hd;exact o.val x hx) (by simpa using ⟨by simpa using hn,o.ids⟩) ?_,hp⟩;refine zRl _ _ (by simp) (fun k ha hb hc=> ?_) (fun k ha hb hc=> ?_)
 ·simp only[zac6,zac4,zac5] at hb;rw[zI2,zI2,zacY zo,zacY zo];exact o.ord k ha zo
 ·simp only[zac6,zac4,zac5] at hb;omega
theorem zQK:∀(l:List Due) (i:Nat) (b:Due),i<l.length->(l.getD i dz::l.set i b).Perm (b::l):=by
 intro l
 induction l with
 | nil=>intro i b h;simp at h
 | cons x xs ih=>
  intro i b h
  cases i with
  | zero=>exact .swap _ _ _
  | succ i=>
   simp only[zac4,Nat.add_lt_add_iff_right] at h;simp only[List.getD_cons_succ,List.set_cons_succ];exact (List.Perm.swap _ _ _).trans (((ih i b h).cons x).trans (.swap _ _ _))
theorem zabL(h:List Due)(h0:0<h.length):h=h.take (h.length - 1)++[h.getD (h.length - 1) dz]:=by
 have:=List.take_append_getLast h (by intro hn;simp [hn] at h0);rw[List.getLast_eq_getElem] at this;simpa [show h.length - 1<h.length by omega] using this.symm
theorem zRk{l:List Due}{i:Nat}:(upL l i).2<=i/\((0<i/\lt (l.getD i dz) (l.getD ((i - 1) / 2) dz)=true/\(upL l i).2<i)\/(¬(0<i/\lt (l.getD i dz) (l.getD ((i - 1) / 2) dz)=true)/\upL l i=(l,i))):=by
 fun_induction upL l i with
 | case1 l i h0 hlt ih=>exact⟨by omega,.inl ⟨h0,hlt,by omega⟩⟩
 | case2 l i h0 hlt=>exact⟨by simp,.inr ⟨fun h=>hlt h.2,rfl⟩⟩
 | case3 l i h0=>exact⟨by simp,.inr ⟨fun h=>h0 h.1,rfl⟩⟩
theorem zmj{h:List Due}(o:Ok h)(i:Nat)(hi:i<h.length):Ok (zd9 h i)/\(h.getD i dz::zd9 h i).Perm h:=by
 have hlast:=zabL h zo;obtain⟨m,hm⟩:∃m,m=h.length - 1:=⟨_,rfl⟩;obtain⟨t,ht⟩:∃t,t=h.take m:=⟨_,rfl⟩;have htl:t.length=m:=by simp [ht];omega
 have hg:∀k,k<m->t.getD k dz=h.getD k dz:=fun k hk=>by simp [ht,zafP,hk]
 rw[<- hm, <- ht] at hlast;unfold zd9;rw[<- hm, <- ht];have key:∀l:List Due,(h.getD i dz::l).Perm h->ziM l->Ok l/\(h.getD i dz::l).Perm h:=fun l hp ho=>by
  refine⟨⟨?_,fun d hd=>o.val d (hp.mem_iff.1 (by simp [hd])),?_,ho⟩,hp⟩
  ·have:=hp.length_eq;simp at this;have:=o.len;omega
  ·have:=((hp.map (·.2)).nodup_iff).2 o.ids;rw[zac1,zad8] at this;exact this.2
 by_cases h1:i=m
 ·rw[zacY h1];refine key t ?_ fun k ha hb=> ?_
  ·subst h1
   conv=>rhs;rw[hlast]
   exact (zafz (l₁:=[_]))
  ·rw[htl] at hb;rw[hg _ hb,hg _ zo];exact o.ord k ha zo
 ·rw[zacX h1];have him:i<m:=by omega
  simp only;obtain⟨x,hx⟩:∃x,x=h.getD m dz:=⟨_,rfl⟩;obtain⟨l,hl⟩:∃l,l=t.set i x:=⟨_,rfl⟩;have hll:l.length=m:=by rw[hl,zadM,htl]
  have hlg:∀k,k<m->l.getD k dz=if k=i then x else h.getD k dz:=fun k hk=>by
   rw[<- hg k hk,hl];simp only[zadC,zaeS,htl]
   by_cases hki:k=i
   ·subst hki;simp [hk]
   ·rw[zacX (Ne.symm hki),zacX hki]
  have hp:(h.getD i dz::l).Perm h:=by
   rw[<- hg i him,hl];refine (zQK t i x zo).trans ?_;rw[hlast,hx]
   conv=>rhs;rw[<- hlast]
   conv=>rhs;rw[hlast]
   exact zafz (l₁:=[_])
  rw[<- hx, <- hl];have ord:=o.ord;have hch:∀k,1<=k->k<l.length->(k - 1) / 2=i->1<=i->lt (l.getD k dz) (l.getD ((i - 1) / 2) dz)=false:=fun k ha hb hc hd=>by
   rw[hlg k zo,hlg _ zo,zacX zo,zacX zo];have a:=ord k ha zo;have b:=ord i hd zo;rw[hc] at a;exact zjk b a
  rcases (zRk (l:=l) (i:=i)).2 with ⟨h0,hlt,hmv⟩|⟨hno,heq⟩
  ·rw[zacX zo];refine key _ (((zRm l i zo).cons _).trans hp) (zRl l i zo (fun k ha hb hc=> ?_) hch)
   by_cases hq:(k - 1) / 2=i
   ·have a:=hch k ha hb hq zo;rw[hq];exact zjk (zjp hlt) a
   ·rw[hlg k zo,hlg _ zo,zacX hc,zacX hq];exact ord k ha zo
  ·rw[heq,zacY rfl];refine key _ (((zUS l i zo).cons _).trans hp) (zUR l i zo (fun k ha hb hc=> ?_) hch)
   by_cases hk:k=i
   ·subst hk;rw[<- zaeD];exact fun h=>hno ⟨by omega,h⟩
   ·rw[hlg k zo,hlg _ zo,zacX hk,zacX hc];exact ord k ha zo
theorem zacd{h:List Due}(o:ziM h):∀k,k<h.length->lt (h.getD k dz) (h.getD 0 dz)=false:=by
 intro k
 induction k using Nat.strongRecOn with
 | ind k ih=>
  intro hk
  by_cases h0:k=0
  ·subst h0;rw[zhs];omega
  ·exact zjk (ih ((k - 1) / 2) zo zo) (o k zo hk)
theorem zRd{h:List Due}(o:ziM h)(d:Due)(hd:d∈h):lt d (h.getD 0 dz)=false:=by
 obtain⟨k,hk,rfl⟩:=zae5.1 hd;have:=zacd o k hk;simpa [hk] using this
theorem zhy(a b:Due):zg G zov [.d (eD a),.d (eD b)] []=some (.d (.bool (lt a b)),[]):=by
 have key:lt a b=(decide (a.1<b.1)||(decide (a.1=b.1)&&decide (a.2<b.2))):=by
  have:=zBo a b
  cases h:lt a b
  ·rw[h] at this;simp at this;simp;omega
  ·rw[h] at this;simp at this;simp;omega
 rw[key];simp only[eD];clear key;exact zW zXz
theorem zQq(d:Due):zg G zoy [.d (eD d)] []=some (.d (.bool (zer d)),[]):=by
 unfold zer;simp only[eD];exact zW zXB
def znq(h:List Due)(j:Int)(k:Nat):zac×St:=match (h.drop k).findIdx? (fun d=>decide (d.2=j)) with|some i=>(.ret,⟨[(4,.d (.int .i64 ((k+i:Nat):Int)))],[]⟩)|none=>(.exit 0,⟨[],[]⟩)
theorem z8P(h:List Due)(j:Int)(hL:h.length<=LIM):∀k,k<=h.length->zai G [] zAQ ⟨[(0,.d (.sl (h.map eD))),(1,.d (.int .i64 j)),(5,.d (.int .i64 k))],[]⟩=some (znq h j k):=by
 refine za3 (fun k=>h.length - k) (fun k=>k<=h.length) _ _ fun k hk L ih=> ?_;simp -implicitDefEqProofs (maxSteps:=4000000) (disch:=omega) only[zAQ,go_sem]
 by_cases hlt:k<h.length
 ·simp -implicitDefEqProofs (maxSteps:=4000000) (disch:=omega) only[zadd,show ((k:Int)<(h.length:Int)) by omega,show (0:Int)<=(k:Int) by omega,zadG,zadj,zada hlt,zfu,zgj,eD,zt6 hlt hL,go_sem];unfold znq;rw[zady hlt,List.findIdx?_cons]
  by_cases he:h[k].2=j
  ·simp [he]
  ·simp only[he,decide_false,zac8,if_false];have i1:=ih (k+1) zo zo;simp only[zad5,zaeb] at i1;rw[i1];unfold znq
   cases (h.drop (k+1)).findIdx? (fun d=>decide (d.2=j)) with
   | none=>rfl
   | some i=>simp;omega
 ·have:k=h.length:=by omega
  subst this;simp -implicitDefEqProofs (maxSteps:=4000000) (disch:=omega) only[zadd,show ¬((h.length:Int)<(h.length:Int)) by omega,go_sem];simp [znq]
theorem zCH(h:List Due)(j:Int)(hL:h.length<=LIM):zg G zox [.d (.sl (h.map eD)),.d (.int .i64 j)] []=some (.d (.int .i64 (zby h j)),[]):=by
 have:=z8P h j hL 0 zo;simp only[zado] at this;rw[zO zXA (by simp)];simp -implicitDefEqProofs (maxSteps:=4000000) (disch:=omega) only[zuL,zCh,go_sem,zadv];simp only[this];unfold znq zby zce;simp only[zadu,zadv]
 cases h.findIdx? (fun d=>decide (d.2=j))<;>simp -implicitDefEqProofs (maxSteps:=4000000) (disch:=omega) only[go_sem]
def zle(h:List Due)(k:Nat):zac×St:=if (h.drop k).any (fun d=> !zer d) then (.ret,⟨[(2,.d (.int .i64 1))],[]⟩) else (.exit 0,⟨[(0,.d (.sl (h.map eD)))],[]⟩)
theorem z8T(h:List Due)(hL:h.length<=12):∀k,k<=h.length->zai G [] zAN ⟨[(0,.d (.sl (h.map eD))),(3,.d (.int .i64 k))],[]⟩=some (zle h k):=by
 refine za3 (fun k=>h.length - k) (fun k=>k<=h.length) _ _ fun k hk L ih=> ?_;simp -implicitDefEqProofs (maxSteps:=4000000) (disch:=omega) only[zAN,go_sem]
 by_cases hlt:k<h.length
 ·have hs:=zQq h[k];simp -implicitDefEqProofs (maxSteps:=4000000) (disch:=omega) only[zadd,show ((k:Int)<(h.length:Int)) by omega,show (0:Int)<=(k:Int) by omega,zadG,zadj,zada hlt,zfu,zgj,hs,zt6 hlt (show h.length<=LIM by simp [LIM];omega),go_sem];have i1:=ih (k+1) zo zo;simp only[zad5,zaeb] at i1;rw[i1];unfold zle;rw[zady hlt,zaeE]
  cases zer h[k]<;>rfl
 ·have:k=h.length:=by omega
  subst this;simp -implicitDefEqProofs (maxSteps:=4000000) (disch:=omega) only[zadd,show ¬((h.length:Int)<(h.length:Int)) by omega,go_sem];simp [zle]
def znr(h:List Due)(k:Nat):zac×St:=if (List.range' k (h.length - k)).any (zhZ h) then (.ret,⟨[(2,.d (.int .i64 10))],[]⟩) else (.exit 2,⟨[(0,.d (.sl (h.map eD)))],[]⟩)
theorem z8U(h:List Due)(hL:h.length<=12):∀k,k<=h.length->zai G [] zAO ⟨[(0,.d (.sl (h.map eD))),(4,.d (.int .i64 k))],[]⟩=some (znr h k):=by
 refine za3 (fun k=>h.length - k) (fun k=>k<=h.length) _ _ fun k hk L ih=> ?_;simp -implicitDefEqProofs (maxSteps:=4000000) (disch:=omega) only[zAO,go_sem]
 by_cases hlt:k<h.length
 ·have hf:=zCH h h[k].2 (by simp [LIM];omega);simp -implicitDefEqProofs (maxSteps:=4000000) (disch:=omega) only[zadd,show ((k:Int)<(h.length:Int)) by omega,show (0:Int)<=(k:Int) by omega,zadG,zadj,zada hlt,zfu,zgj,eD,hf,zt6 hlt (show h.length<=LIM by simp [LIM];omega),go_sem];have i1:=ih (k+1) zo zo;simp only[zad5,zaeb] at i1;rw[i1];unfold znr;rw[show h.length - k=(h.length - (k+1))+1 by omega,zaex,zaeE];have hd:zhZ h k= !decide (zby h h[k].2=k):=by simp [zhZ,hlt]
  rw[hd]
  cases decide (zby h h[k].2=k)<;>rfl
 ·have:k=h.length:=by omega
  subst this;simp -implicitDefEqProofs (maxSteps:=4000000) (disch:=omega) only[zadd,show ¬((h.length:Int)<(h.length:Int)) by omega,go_sem];simp [znr]
def ztB(h:List Due)(k:Nat):zac×St:=if (List.range' k (h.length - k)).any (zit h) then (.ret,⟨[(2,.d (.int .i64 11))],[]⟩) else (.exit 4,⟨[],[]⟩)
theorem z8V(h:List Due)(hL:h.length<=12):∀k:Nat,1<=k->zai G [] zAP ⟨[(0,.d (.sl (h.map eD))),(5,.d (.int .i64 k))],[]⟩=some (ztB h k):=by
 refine za3 (fun k=>h.length - k) (fun k=>1<=k) _ _ fun k hk L ih=> ?_;simp -implicitDefEqProofs (maxSteps:=4000000) (disch:=omega) only[zAP,go_sem]
 by_cases hlt:k<h.length
 ·have hq:IntKind.i64.wrap (((k:Int) - 1).tdiv 2)=(((k - 1) / 2:Nat):Int):=by
     rw[zRu (by rw[zaeC zo];omega) (by rw[zaeC zo];omega),zaeC zo];omega
  have hlt2:(k - 1) / 2<h.length:=by omega
  have hb:=zhy h[k] h[(k - 1) / 2];simp -implicitDefEqProofs (maxSteps:=4000000) (disch:=omega) only[zadd,show ((k:Int)<(h.length:Int)) by omega,show (((k - 1) / 2:Nat):Int)<(h.length:Int) by omega,zRu (show -4294967296<=(k:Int) - 1 by omega) zo,hq,hb,Int.natCast_nonneg,zadG,zadj,zada hlt,zada hlt2,zfu,zgj,zt6 hlt (show h.length<=LIM by simp [LIM];omega),go_sem];have i1:=ih (k+1) zo zo;simp only[zad5,zaeb] at i1;rw[i1];unfold ztB;rw[show h.length - k=(h.length - (k+1))+1 by omega,zaex,zaeE];have hd:zit h k=lt h[k] h[(k - 1) / 2]:=by simp [zit,hlt,hlt2]
  rw[hd]
  cases lt h[k] h[(k - 1) / 2]<;>rfl
 ·simp -implicitDefEqProofs (maxSteps:=4000000) (disch:=omega) only[zadd,show ¬((k:Int)<(h.length:Int)) by omega,go_sem];simp [ztB,show h.length - k=0 by omega]
theorem ztC(h:List Due)(hL:h.length<=LIM):zg G zou [.d (.sl (h.map eD))] []=some (.d (.int .i64 (zcy h)),[]):=by
 rw[zO zXy (by simp)];simp -implicitDefEqProofs (maxSteps:=4000000) (disch:=omega) only[zuK,zCg,go_sem,zadv];unfold zcy
 by_cases h12:12<h.length
 ·simp -implicitDefEqProofs (maxSteps:=4000000) (disch:=omega) only[h12,zadd,show (12<(h.length:Int)) by omega,go_sem]
 ·have e0:=z8T h zo 0 zo;have e1:=z8U h zo 0 zo;have e2:=z8V h zo 1 zo;simp only[zado] at e0 e1;simp only[zaeb] at e2;have hlen:¬(12<(h.length:Int)):=by omega
  cases hA:h.any (fun d=> !zer d)
  ·cases hB:(List.range' 0 h.length).any (zhZ h)
   ·cases hC:(List.range' 1 (h.length - 1)).any (zit h)<;>
       simp -implicitDefEqProofs (maxSteps:=4000000) (disch:=omega) only[h12,zadd,hlen,e0,e1,e2,zle,znr,ztB,zadu,zaeq,hA,hB,hC,go_sem]
   ·simp -implicitDefEqProofs (maxSteps:=4000000) (disch:=omega) only[h12,zadd,hlen,e0,e1,zle,znr,zadu,zaeq,hA,hB,go_sem]
  ·simp -implicitDefEqProofs (maxSteps:=4000000) (disch:=omega) only[h12,zadd,hlen,e0,zle,zadu,hA,go_sem]
theorem zaaA{h:List Due}{i j:Nat}(hi:i<h.length)(hj:j<h.length):(((h.map eD).set i (eD h[j])).map AV.d)[j]? = some (.d (eD h[j])):=by
 rw[zadj,zaeS]
 by_cases e:i=j
 ·rw[zacY e,zacY (by simpa using hi)];rfl
 ·rw[zacX e,zadj,zada hj];rfl
theorem zCI(h:List Due)(i j:Nat)(hi:i<h.length)(hj:j<h.length)(hL:h.length<=1000):zg G zoz [.d (.sl (h.map eD)),.d (.int .i64 i),.d (.int .i64 j)] []=some (.d (.sl ((swp h i j).map eD)),[]):=by
 have hs:=zjX h;have h2:=zaaA hi hj;have hz:¬h.length=0:=by omega
 unfold swp;rw[zj hi,zj hj];have hl:(((h.map eD).set i (eD h[j])).set j (eD h[i])).length=h.length:=by simp
 have ht:List.take h.length (((h.map eD).set i (eD h[j])).set j (eD h[i]))=((h.map eD).set i (eD h[j])).set j (eD h[i]):=zaeL (by rw[hl];exact zadr _);exact zW zXC
def ztA(p:List Due×Nat):St:=⟨[(0,.d (.sl (p.1.map eD))),(1,.d (.int .i64 p.2))],[]⟩
theorem z8S:∀p:List Due×Nat,p.2<p.1.length/\p.1.length<=1000->zai G [] zAR (ztA p)=some (.exit 0,⟨[(0,.d (.sl ((upL p.1 p.2).1.map eD)))],[]⟩):=by
 refine za3 (fun p:List Due×Nat=>p.2) (fun p:List Due×Nat=>p.2<p.1.length/\p.1.length<=1000) ztA _ fun⟨l,i⟩ ⟨hi,hL⟩ L ih=> ?_;simp only[ztA] at hi hL ih ⊢;simp only[zAR];rw[upL]
 by_cases h0:0<i
 ·have hq:((i:Int) - 1).tdiv 2=(((i - 1) / 2:Nat):Int):=by rw[zaeC zo];omega
  have hj:(i - 1) / 2<l.length:=by omega
  have hb:=zhy l[i] l[(i - 1) / 2];have hsw:=zCI l i ((i - 1) / 2) hi hj hL;have fin:=ih (swp l i ((i - 1) / 2),(i - 1) / 2) ⟨by simp only[zdm];omega,by simp only[zdm];omega⟩ (by simp only;omega);simp only at fin;rw[zacY h0,zj hi,zj hj];have hsl:=zdm l i ((i - 1) / 2);generalize upL (swp l i ((i - 1) / 2)) ((i - 1) / 2)=r at *;generalize swp l i ((i - 1) / 2)=sw at *;clear ih
  cases hlt:lt l[i] l[(i - 1) / 2]
  ·rw[hlt] at hb;simp only[if_false,zac8];clear hlt fin hsw;exact zS
  ·rw[hlt] at hb;simp only[if_true];clear hlt;exact zS
 ·rw[zacX h0];clear ih;exact zS
theorem zQr(h:List Due)(i:Nat)(hi:i<h.length)(hL:h.length<=1000):zg G zoA [.d (.sl (h.map eD)),.d (.int .i64 i)] []=some (.d (.sl ((upL h i).1.map eD)),[]):=by
 have:=z8S (h,i) ⟨hi,hL⟩;simp only[ztA] at this;rw[zO zXD (by simp)];simp -implicitDefEqProofs (maxSteps:=4000000) (disch:=omega) only[zuM,zCi,go_sem,zadv];simp -implicitDefEqProofs (maxSteps:=4000000) (disch:=omega) only[this,go_sem]
theorem zQo(h:List Due)(d:Due)(hL:h.length<=LIM):zg G zor [.d (.sl (h.map eD)),.d (eD d)] []=some (.d (eDE (zfJ h d)),[]):=by
 have hv:=ztC h hL;have hf:=zCH h d.2 hL;have hd:=zQq d;have hs:=zjX h;have hL2:h.length<=4294967296:=hL;unfold zfJ znh eDE
 by_cases h0:zcy h=0
 ·have h12:=zDt h0;rw[h0] at hv;simp only[h0,ne_eq,zac9,if_false];clear h0
  cases h1:zer d
  ·rw[h1] at hd;simp only[if_true,zacZ,show ((1:Int)=0)=False by simp,if_false];clear h1 hf;exact zW zmu
  ·rw[h1] at hd;simp only[zadA,if_false];clear h1
   by_cases h2:h.length=12
   ·simp only[h2,if_true,zacZ,show ((3:Int)=0)=False by simp,if_false];clear hf;exact zW zmu
   ·simp only[h2,if_false]
    by_cases h3:0<=zby h d.2
    ·simp only[h3,if_true,zacZ,show ((10:Int)=0)=False by simp,if_false];exact zW zmu
    ·simp only[h3,if_false,if_true];obtain⟨l,hl⟩:∃l,l=h++[d]:=⟨_,rfl⟩;have e1:h.map eD++[D.agg [.int .i64 d.1,.int .i64 d.2]]=l.map eD:=by simp [eD,hl]
     have e2:l.length=h.length+1:=by simp [hl]
     have hu:=zQr l h.length zo zo;unfold zfK;rw[<- hl];have hul:=zacs l h.length;have hsl:=zjX l;generalize upL l h.length=r at *;simp only[eD] at hd ⊢;clear hl;exact zW zmu
 ·simp only[h0,ne_eq,zadw,if_true,if_false,zacZ];clear hf hd;exact zW zmu
def zld(p:List Due×Nat):St:=⟨[(0,.d (.sl (p.1.map eD))),(1,.d (.int .i64 p.2))],[]⟩
theorem z8N:∀p:List Due×Nat,p.2<p.1.length/\p.1.length<=1000->∃e:zac,(e= .exit 0/\zai G [] zsy (zld p)=some (.exit 0,⟨[(0,.d (.sl ((zbL p.1 p.2).map eD)))],[]⟩))\/(e= .ret/\zai G [] zsy (zld p)=some (.ret,⟨[(4,.d (.sl ((zbL p.1 p.2).map eD)))],[]⟩)):=by
 refine zsV (fun p:List Due×Nat=>p.1.length - p.2) (fun p:List Due×Nat=>p.2<p.1.length/\p.1.length<=1000) zld (fun p r=>∃e:zac,(e= .exit 0/\r=some (.exit 0,⟨[(0,.d (.sl ((zbL p.1 p.2).map eD)))],[]⟩))\/(e= .ret/\r=some (.ret,⟨[(4,.d (.sl ((zbL p.1 p.2).map eD)))],[]⟩))) fun⟨l,i⟩ ⟨hi,hL⟩ L ih=> ?_;simp only[zld] at hi hL ih ⊢;simp only[zsy]
 by_cases h1:2 * i+1<l.length
 ·have fin:∀k:Nat,i<k->k<l.length->∃e:zac,(e= .exit 0/\L ⟨[(0,.d (.sl ((swp l i k).map eD))),(1,.d (.int .i64 k))],[]⟩=some (.exit 0,⟨[(0,.d (.sl ((zbL (swp l i k) k).map eD)))],[]⟩))\/(e= .ret/\L ⟨[(0,.d (.sl ((swp l i k).map eD))),(1,.d (.int .i64 k))],[]⟩=some (.ret,⟨[(4,.d (.sl ((zbL (swp l i k) k).map eD)))],[]⟩)):=fun k h1 h2=>
     ih (swp l i k,k) ⟨by simp only[zdm];omega,by simp only[zdm];omega⟩ (by simp only[zdm];omega)
  have hg:∀k:Nat,k<l.length->(List.map eD l)[k]? = some (eD (l.getD k (0,0))):=fun k hk=>by simp [zadj,zada hk,hk]
  have g0:=hg i hi;have g1:=hg _ h1;have s1:=zCI l i (2 * i+1) hi h1 hL;have f1:=fin (2 * i+1) zo h1;simp only[zad5,zafe,zaeb,zaeQ] at s1 f1;have t1:((2:Int) * (i:Int)+1).toNat=2 * i+1:=by omega
  have t2:((2:Int) * (i:Int)+1+1).toNat=2 * i+1+1:=by omega
  by_cases h2:2 * i+1+1<l.length
  ·have g2:=hg _ h2;have s2:=zCI l i (2 * i+1+1) hi h2 hL;have f2:=fin (2 * i+1+1) zo h2;simp only[zad5,zafe,zaeb,zaeQ] at s2 f2
   cases hlt:lt (l.getD (2 * i+1+1) (0,0)) (l.getD (2 * i+1) (0,0))
   ·cases hlt2:lt (l.getD (2 * i+1) (0,0)) (l.getD i (0,0))
    ·simp -implicitDefEqProofs (maxSteps:=4000000) (disch:=omega) only[go_sem,g0,g1,g2,t1,t2,zhy,hlt,hlt2,zfu,zgj];have e:zbL l i=l:=by rw[zbL];simp only[h1,h2,hlt,hlt2,dite_true,dite_false,zadZ,zaet,zadX,if_true,if_false,zac8,reduceCtorEq]
     exact⟨.ret,.inr ⟨rfl,by rw[e]⟩⟩
    ·simp -implicitDefEqProofs (maxSteps:=4000000) (disch:=omega) only[go_sem,g0,g1,g2,t1,t2,zhy,hlt,hlt2,s1,zfu,zgj];have e:zbL l i=zbL (swp l i (2 * i+1)) (2 * i+1):=by rw[zbL];simp only[h1,h2,hlt,hlt2,dite_true,dite_false,zadZ,zaet,zadX,if_true,if_false,zac8,reduceCtorEq]
     rw[e];exact f1
   ·cases hlt2:lt (l.getD (2 * i+1+1) (0,0)) (l.getD i (0,0))
    ·simp -implicitDefEqProofs (maxSteps:=4000000) (disch:=omega) only[go_sem,g0,g1,g2,t1,t2,zhy,hlt,hlt2,zfu,zgj];have e:zbL l i=l:=by rw[zbL];simp only[h1,h2,hlt,hlt2,dite_true,dite_false,zadZ,zaet,zadX,if_true,if_false,zac8,reduceCtorEq]
     exact⟨.ret,.inr ⟨rfl,by rw[e]⟩⟩
    ·simp -implicitDefEqProofs (maxSteps:=4000000) (disch:=omega) only[go_sem,g0,g1,g2,t1,t2,zhy,hlt,hlt2,s2,zfu,zgj];have e:zbL l i=zbL (swp l i (2 * i+1+1)) (2 * i+1+1):=by rw[zbL];simp only[h1,h2,hlt,hlt2,dite_true,dite_false,zadZ,zaet,zadX,if_true,if_false,zac8,reduceCtorEq]
     rw[e];exact f2
  ·cases hlt2:lt (l.getD (2 * i+1) (0,0)) (l.getD i (0,0))
   ·simp -implicitDefEqProofs (maxSteps:=4000000) (disch:=omega) only[go_sem,g0,g1,t1,t2,zhy,hlt2,zfu,zgj];have e:zbL l i=l:=by rw[zbL];simp only[h1,h2,hlt2,dite_true,dite_false,zadZ,zaet,zadX,if_true,if_false,zac8,reduceCtorEq]
    exact⟨.ret,.inr ⟨rfl,by rw[e]⟩⟩
   ·simp -implicitDefEqProofs (maxSteps:=4000000) (disch:=omega) only[go_sem,g0,g1,t1,t2,zhy,hlt2,s1,zfu,zgj];have e:zbL l i=zbL (swp l i (2 * i+1)) (2 * i+1):=by rw[zbL];simp only[h1,h2,hlt2,dite_true,dite_false,zadZ,zaet,zadX,if_true,if_false,zac8,reduceCtorEq]
    rw[e];exact f1
 ·simp -implicitDefEqProofs (maxSteps:=4000000) (disch:=omega) only[go_sem,zadv];have e:zbL l i=l:=by rw[zbL];simp only[h1,dite_false]
  exact⟨.exit 0,.inl ⟨rfl,by rw[e]⟩⟩
theorem z8O(h:List Due)(i:Nat)(hi:i<h.length)(hL:h.length<=1000):zg G zow [.d (.sl (h.map eD)),.d (.int .i64 i)] []=some (.d (.sl ((zbL h i).map eD)),[]):=by
 obtain⟨e,h1|h1⟩:=z8N (h,i) ⟨hi,hL⟩
 ·have:=h1.2;simp only[zld] at this;rw[zO zIm (by simp)];simp -implicitDefEqProofs (maxSteps:=4000000) (disch:=omega) only[zqX,ztj,go_sem,this]
 ·have:=h1.2;simp only[zld] at this;rw[zO zIm (by simp)];simp -implicitDefEqProofs (maxSteps:=4000000) (disch:=omega) only[zqX,ztj,go_sem,this]
theorem zQn(h:List Due)(i:Nat)(hi:i<h.length)(hL:h.length<=1000):zg G zlM [.d (.sl (h.map eD)),.d (.int .i64 i)] []=some (.d (.sl ((zd9 h i).map eD)),[]):=by
 obtain⟨m,hm⟩:∃m,m=h.length - 1:=⟨_,rfl⟩;obtain⟨t,ht⟩:∃t,t=h.take m:=⟨_,rfl⟩;have htl:t.length=m:=by simp [ht];omega
 have e1:List.take m (h.map eD)=t.map eD:=by rw[ht,zaeH]
 have w1:((h.length:Int) - 1)=(m:Int):=by omega
 have hmlt:m<h.length:=by omega
 have him:i<=m/\m<=1000:=by omega
 have him2:m<=4294967296:=by omega
 have hs:=zjX h;have hs2:=zjX t;unfold zd9;rw[<- hm, <- ht]
 by_cases hi2:i=m
 ·subst hi2;rw[zacY rfl];clear hm ht;exact zW zrN
 ·have hi3:i<m:=by omega
  rw[zacX hi2];obtain⟨l,hl⟩:∃l,l=t.set i (h.getD m (0,0)):=⟨_,rfl⟩;have hll:l.length=m:=by rw[hl,zadM,htl]
  have e5:(t.map eD).set i (eD (h[m]'hmlt))=l.map eD:=by rw[hl,zj hmlt,zad9]
  have hu:=zQr l i zo zo;have hd:=z8O l i zo zo;rw[<- hl];show zg G zlM _ _=some (.d (.sl ((if (upL l i).2=i then zbL (upL l i).1 i else (upL l i).1).map eD)),[]);have hat:= @zRk l i;have hup:(¬0<i\/lt (l.getD i (0,0)) (l.getD ((i - 1) / 2) (0,0))=false)->upL l i=(l,i):=fun hc=>by
   rw[upL]
   rcases hc with hc|hc
   ·rw[zacX hc]
   ·split
    ·rw[zacX (by rw[hc];decide)]
    ·rfl
  have hm4:m<=1000:=by omega
  clear hl hm ht
  by_cases h0:0<i
  ·have hq:((i:Int) - 1).tdiv 2=(((i - 1) / 2:Nat):Int):=by rw[zaeC zo];omega
   have hj:(i - 1) / 2<l.length:=by omega
   have hil:i<l.length:=by omega
   have hbf:=zhy l[i] l[(i - 1) / 2]
   cases hlt:lt l[i] l[(i - 1) / 2]
   ·rw[hup (.inr (by rw[zj hil,zj hj];exact hlt))] at hu ⊢;rw[zacY rfl];rw[hlt] at hbf;clear hlt hup hat hu;exact zW zrN
   ·have:¬(upL l i).2=i:=by
       rcases hat.2 with hc|hc
       ·omega
       ·exact absurd ⟨h0,by rw[zj hil,zj hj];exact hlt⟩ hc.1
    rw[zacX this];rw[hlt] at hbf;generalize upL l i=r at *;clear hlt hup hat hd this;exact zW zrN
  ·rw[hup (.inl h0)];rw[zacY rfl];clear hup hat hu;exact zW zrN
theorem zQp(h:List Due)(id:Int)(hL:h.length<=LIM):zg G zos [.d (.sl (h.map eD)),.d (.int .i64 id)] []=some (.d (eDE (zcs h id)),[]):=by
 have hv:=ztC h hL;have hf:=zCH h id hL;unfold zcs eDE
 by_cases h0:zcy h=0
 ·have h12:=zDt h0
  by_cases hn:zby h id<0
  ·rw[zO zzt (by simp)];simp -implicitDefEqProofs (maxSteps:=4000000) (disch:=omega) only[zmd,znm,go_sem,hv,h0,hf,hn,zacZ]
  ·have hd:=zQn h (zby h id).toNat (by have:=zWJ h id;omega) zo;rw[show (((zby h id).toNat:Nat):Int)=zby h id by omega] at hd;rw[zO zzt (by simp)];simp -implicitDefEqProofs (maxSteps:=4000000) (disch:=omega) only[zmd,znm,go_sem,hv,h0,hf,hn,hd]
 ·rw[zO zzt (by simp)];simp -implicitDefEqProofs (maxSteps:=4000000) (disch:=omega) only[zmd,znm,go_sem,hv,h0]
def Asc(l:List Due)(n:Nat):Prop:=∀p q,p<q->q<n->lt (l.getD q dz) (l.getD p dz)=false
def zjh(l:List Due)(j:Nat):List Due:=
 if 0<j then (if lt (l.getD j dz) (l.getD (j - 1) dz) then zjh (swp l j (j - 1)) (j - 1) else l) else l
termination_by j
theorem zLW(l:List Due)(j:Nat):(zjh l j).length=l.length:=by
 fun_induction zjh l j with
 | case1 l j h0 h1 ih=>rw[ih,zdm]
 | case2=>rfl
 | case3=>rfl
theorem zYL(l:List Due)(j i:Nat)(hi:i<l.length)(hj:j<=i)(h1:∀p q,p<q->q<=i->p≠j->q≠j->lt (l.getD q dz) (l.getD p dz)=false)(h2:∀q,j<q->q<=i->lt (l.getD q dz) (l.getD j dz)=false):Asc (zjh l j) (i+1)/\(zjh l j).Perm l:=by
 fun_induction zjh l j with
 | case1 l j h0 hlt ih=>
  have hs:∀k,(swp l j (j - 1)).getD k dz=if k=j - 1 then l.getD j dz else if k=j then l.getD (j - 1) dz else l.getD k dz:=fun k=>zDb l j (j - 1) k zo zo
  have ih':=ih (by rw[zdm];exact hi) zo (fun p q hpq hq hp hq2=>by
      rw[hs,hs]
      by_cases e1:q=j
      ·subst e1;rw[zacX zo,zacY rfl,zacX zo,zacX zo];exact h1 p (q - 1) zo zo zo zo
      ·by_cases e2:p=j
       ·subst e2;rw[zacX zo,zacX zo,zacX zo,zacY rfl];exact h1 (p - 1) q zo hq zo zo
       ·rw[zacX zo,zacX e1,zacX zo,zacX e2];exact h1 p q hpq hq e2 e1) (fun q hq1 hq2=>by
      rw[hs,hs,zacX zo,zacY rfl]
      by_cases e1:q=j
      ·rw[zacY e1];exact zjp hlt
      ·rw[zacX e1];exact h2 q zo hq2)
  exact⟨ih'.1,ih'.2.trans (zDc l j (j - 1) zo zo)⟩
 | case2 l j h0 hlt=>
  refine⟨fun p q hpq hq=> ?_,.refl _⟩;have hjj:lt (l.getD j dz) (l.getD (j - 1) dz)=false:=by simpa using hlt
  by_cases e1:p=j
  ·subst e1;exact h2 q hpq zo
  ·by_cases e2:q=j
   ·subst e2
    by_cases e3:p=q - 1
    ·subst e3;exact hjj
    ·exact zjk (h1 p (q - 1) zo zo e1 zo) hjj
   ·exact h1 p q hpq zo e1 e2
 | case3 l j h0=>
  refine⟨fun p q hpq hq=> ?_,.refl _⟩
  by_cases e1:p=j
  ·subst e1;exact h2 q hpq zo
  ·exact h1 p q hpq zo e1 zo
def zgX(l:List Due)(i:Nat):List Due:=if i<l.length then zgX (zjh l i) (i+1) else l
termination_by l.length - i
decreasing_by rw[zLW];omega
theorem zlq(l:List Due)(i:Nat)(h:Asc l i):Asc (zgX l i) l.length/\(zgX l i).Perm l:=by
 fun_induction zgX l i with
 | case1 l i hi ih=>
  have:=zYL l i i hi zo (fun p q hpq hq _ hq2=>h p q hpq zo) (fun q h1 h2=>by omega);have ih':=ih this.1;rw[zLW] at ih';exact⟨ih'.1,ih'.2.trans this.2⟩
 | case2 l i hi=>exact⟨fun p q hpq hq=>h p q hpq zo,.refl _⟩
def zkf(now:Int)(l:List Due):List Int:=(l.filter fun d=>decide (d.1<=now)).map (·.2)
def zdb(h:List Due)(now:Int):List Int:=if zcy h=0 then zkf now (zgX h 1) else []
end Go.Proofs.YtdnlddoeamjcoaaGreat
