/-
  Witness.
-/
import Derived.Test.YtcembpbhkcbnhaaGreatB3e4d643
set_option linter.unusedSimpArgs false
set_option linter.unusedVariables false
set_option maxHeartbeats 10000000
set_option maxRecDepth 100000
namespace Go.Proofs.YtcembpbhkcbnhaaGreat
open Go Go.Sim
theorem zafD(es:List D)(hs:zas 6 es=true)(hL:es.length<=4294967296):zi G 38 [.d (.sl es)] []=some (.acc 0 es,[(0,.acc es.length)]):=by
 cases es with
 | nil=>
  refine zajo zaiu (by decide) ?_ ?_
  ·simp -implicitDefEqProofs only[zafU,go_sem]
  ·simp -implicitDefEqProofs only[zafU,Nat.zero_le,go_sem]
 | cons e es=>
  rw[zajn zaiu (by simp) (by decide)];simp only[zDx] at hs;simp only[zabu] at hL;simp -implicitDefEqProofs (maxSteps:=4000000) (disch:=omega) only[zafU,go_sem, *]
end Go.Proofs.YtcembpbhkcbnhaaGreat

namespace Go.Sim.Sort
def insB{α:Type}(f:α->Int):List α->α->List α
 | [],x=>[x]
 | y::l,x=>if ((y::l).all fun z=>decide (f x<f z)) then x::y::l else y::insB f l x
def sortS{α:Type}(f:α->Int)(l:List α):List α:=l.foldl (insB f) []
def bs(P:Nat->Bool):Nat->Nat->Nat->Nat
 | 0,i,_=>i
 | k+1,i,j=>if i<j then (if P ((i+j) / 2) then bs P k ((i+j) / 2+1) j else bs P k i ((i+j) / 2)) else i
theorem zalf{α:Type}(f:α->Int)(x z:α):∀l:List α,insB f (l++[z]) x=if f x<f z then insB f l x++[z] else l++[z,x]:=by
 intro l
 induction l with
 | nil=>
  simp only[zabJ,insB,zacn,List.all_nil,zadF,decide_eq_true_eq]
  by_cases c:f x<f z
  ·simp [c]
  ·simp [c]
 | cons y l ih=>
  rw[zabN,insB,ih]
  by_cases c:f x<f z
  ·rw[zabo c,zabo c,insB];have e:((y::(l++[z])).all fun w=>decide (f x<f w))=((y::l).all fun w=>decide (f x<f w)):=by
    simp [List.all_append,c]
   rw[e]
   by_cases q:((y::l).all fun w=>decide (f x<f w))=true
   ·rw[zabo q,zabo q];rfl
   ·rw[zabn q,zabn q];rfl
  ·rw[zabn c,zabn c];have e:((y::(l++[z])).all fun w=>decide (f x<f w))=false:=by
    rw[List.all_eq_false];exact⟨z,by simp,by simp [c]⟩
   rw[e];rfl
theorem zale{α:Type}(f:α->Int)(x:α):∀l:List α,(insB f l x).Perm (x::l):=by
 intro l
 induction l with
 | nil=>exact List.Perm.refl _
 | cons y l ih=>
  rw[insB]
  split
  ·exact List.Perm.refl _
  ·exact (List.Perm.cons y ih).trans (List.Perm.swap x y l)
theorem sortS_snoc{α:Type}(f:α->Int)(l:List α)(x:α):sortS f (l++[x])=insB f (sortS f l) x:=by
 unfold sortS;rw[List.foldl_append];rfl
theorem zai9{α:Type}{p:List α->Prop}(h0:p [])(h1:∀l x,p l->p (l++[x]))(l:List α):p l:=by
 have:∀n,∀l:List α,l.length=n->p l:=by
  intro n
  induction n with
  | zero=>intro l hl;rw[zacc.1 hl];exact h0
  | succ n ih=>
   intro l hl;have hne:l≠[]:=by intro e;rw[e] at hl;cases hl
   rw[<- List.dropLast_concat_getLast hne];exact h1 _ _ (ih _ (by rw[List.length_dropLast];omega))
 exact this _ l rfl
theorem sortS_perm{α:Type}(f:α->Int)(l:List α):(sortS f l).Perm l:=by
 refine zai9 (p:=fun l=>(sortS f l).Perm l) (List.Perm.refl _) (fun l x ih=> ?_) l;rw[sortS_snoc];exact (zale f x _).trans ((List.Perm.cons x ih).trans (List.perm_append_singleton x l).symm)
variable {α:Type} {f:α->Int} {R:α->α->Prop}
theorem zTr{A:List α}(hp:A.Pairwise R)(s:Nat){x y:α}(hx:x∈A.take s)(hy:y∈A.drop s):R x y:=by
 rw[<- zaet s A] at hp;exact (List.pairwise_append.1 hp).2.2 x hx y hy
def X(f:α->Int)(R:α->α->Prop)(A B:List α):Prop:=∀x∈A,∀y∈B,if f y<f x then R y x else R x y
end Go.Sim.Sort

namespace Go.Proofs.YtcembpbhkcbnhaaGreat
open Go Go.Sim
def inB(n lo hi:Int):Bool:=decide (lo<=n)&&decide (n<=hi)
def zh5(a:zy)(c:Int):Int:=if c=a.slots.length then a.dead.owner else (a.slots.getD c.toNat zfC).owner
def zgz(k:Int):Bool:=inB k 1 200
def zhj(a:zy)(c k:Int):zy:=if c=a.slots.length then { a with dead:={ a.dead with owner:=k } } else { a with slots:=a.slots.set c.toNat { a.slots.getD c.toNat zfC with owner:=k } }
def zcp(a:zy)(c k:Int):zy×Bool×Int:=if c<0\/(a.slots.length:Int)<c\/zgz k=false then (zM,false,1) else if zh5 a c=0 then (zhj a c k,true,0) else (a,false,0)
def zd2(a:zy)(c k:Int):zy×Int:=if c<0\/(a.slots.length:Int)<c\/zgz k=false then (zM,1) else if zh5 a c=k then (zhj a c 0,0) else (zM,13)
theorem ztL(k:Int):zi G 295 [.d (.int .i64 k)] []=some (.d (.bool (zgz k)),[]):=by
 unfold zgz inB;exact zW
theorem zMT(a:zy)(c:Int)(hL:a.slots.length<=1000)(h0:0<=c)(h1:c<=a.slots.length):zi G 296 [.d (zx a),.d (.int .i64 c)] []=some (.d (.int .i64 (zh5 a c)),[]):=by
 unfold zh5;exact zW
theorem zMR(a:zy)(c k:Int)(hL:a.slots.length<=1000)(h0:0<=c)(h1:c<=a.slots.length):zi G 297 [.d (zx a),.d (.int .i64 c),.d (.int .i64 k)] []=some (.d (zx (zhj a c k)),[]):=by
 unfold zhj
 by_cases h:c=a.slots.length
 ·simp only[zx,h,if_true];exact zW
 ·have hne:¬a.slots.length=0:=by omega
  simp only[zx,h,if_false];exact zW
theorem zaaD(a:zy)(c k:Int)(hL:a.slots.length<=1000):zi G 277 [.d (zx a),.d (.int .i64 c),.d (.int .i64 k)] []=some (.d (.tup [zx (zcp a c k).1,.bool (zcp a c k).2.1,.int .i64 (zcp a c k).2.2]),[]):=by
 have h2:=ztL k;unfold zcp
 by_cases c1:c<0\/(a.slots.length:Int)<c
 ·rw[zabo zo];exact zW
 ·have h1:=zMT a c hL zo zo;have h3:=zMR a c k hL zo zo
  cases c2:zgz k
  ·rw[zabo (by simp)];exact zW
  ·rw[zabn (by simp;omega)];exact zW
theorem zaaL(a:zy)(c k:Int)(hL:a.slots.length<=1000):zi G 278 [.d (zx a),.d (.int .i64 c),.d (.int .i64 k)] []=some (.d (.tup [zx (zd2 a c k).1,.int .i64 (zd2 a c k).2]),[]):=by
 have h2:=ztL k;unfold zd2
 by_cases c1:c<0\/(a.slots.length:Int)<c
 ·rw[zabo zo];exact zW
 ·have h1:=zMT a c hL zo zo;have h3:=zMR a c 0 hL zo zo
  cases c2:zgz k
  ·rw[zabo (by simp)];exact zW
  ·rw[zabn (by simp;omega)];exact zW
def ziY(cells:List Int)(k:Nat):Bool:=decide (0<=cells.getD k 0/\cells.getD k 0<=6/\(k=0\/cells.getD (k - 1) 0<cells.getD k 0))
def zg3(cells:List Int):zbI×Int:=
 if cells.length=0\/3<cells.length then (zd1,2) else if (List.range cells.length).all (ziY cells)=true then (⟨cells,0,0,0,0⟩,0) else (zd1,1)
def zL:Nat×Go.Sim.Obj:=(2,.row [.agg [.xsl [],.d (.int .i64 0),.d (.int .i64 0),.d (.int .i64 0),.d (.int .i64 0)]])
theorem zM0{k:Nat}(h:0<k):((k:Int) - 1).toNat=k - 1:=by omega
theorem zYD(cells:List Int)(hL:cells.length<=3):z6 G [] zAV ⟨[(0,.d (.sl (zC cells))),(2,.ref 2 0 0),(4,.d (.int .i64 0))],[zL]⟩=some (if (List.range cells.length).all (ziY cells)=true then (.exit 0,⟨[(0,.d (.sl (zC cells))),(2,.ref 2 0 0)],[zL]⟩) else (.ret,⟨[(2,.ref 2 0 0),(3,.d (.int .i64 1))],[zL]⟩)):=by
 refine zg5 (G:=G) cells.length (ziY cells) (fun k=>⟨[(0,.d (.sl (zC cells))),(2,.ref 2 0 0),(4,.d (.int .i64 k))],[zL]⟩) _ _ fun k hk L=> ?_;simp only[zAV,zL,ziY]
 by_cases h0:k<cells.length
 ·simp only[h0,if_true];have zk0:= @zM0;exact zS
 ·simp -implicitDefEqProofs (maxSteps:=4000000) (disch:=omega) only[go_sem,zabU]
theorem zYE(cells:List Int)(hL:cells.length<=4294967296):zi G 224 [.d (.sl (zC cells))] []=some (.d (.tup [zb2 (zg3 cells).1,.int .i64 (zg3 cells).2]),[]):=by
 unfold zg3
 by_cases c1:cells.length=0\/3<cells.length
 ·rw[zabo c1];exact zW
 ·rw[zabn c1];have hl:=zYD cells zo;simp only[zL] at hl
  by_cases c2:(List.range cells.length).all (ziY cells)=true
  ·simp only[c2,if_true] at hl ⊢;have zk0:=zC.eq_1;exact zW
  ·simp only[c2,if_false] at hl ⊢;have zk0:=zC.eq_1;exact zW
def zcb(l:zbI):zbI×Int:=if l.phase=3 then ({ l with phase:=4 },0) else (zd1,7)
theorem zYC(l:zbI):zi G 294 [.d (zb2 l)] []=some (.d (.tup [zb2 (zcb l).1,.int .i64 (zcb l).2]),[]):=by
 unfold zcb;exact zW
structure LWF(B:Int)(l:zbI):Prop where
 c1:1<=l.cells.length
 c2:l.cells.length<=3
 h0:0<=l.have_
 h1:l.have_<=l.cells.length
 t0:l.phase=0->l.have_<l.cells.length
 t1:l.phase=1->1<=l.have_
 t2:l.phase=2->l.have_=0/\1<=l.wait/\l.wait<=3
 t3:l.phase=3->l.have_=l.cells.length
 t4:l.phase=4->1<=l.have_
 t5:0<=l.phase/\l.phase<=5
 t6:l.phase=5->l.have_=0
 b0:0<=l.tries
 b1:l.tries<=B
def zmO(a:zy)(l:zbI)(k:Int):zy×zbI×Int:=
 if (zcp a (l.cells.getD l.have_.toNat 0) k).2.2=0 then
  (if (zcp a (l.cells.getD l.have_.toNat 0) k).2.1=true then ((zcp a (l.cells.getD l.have_.toNat 0) k).1,{ l with have_:=l.have_+1,phase:=if l.have_+1=l.cells.length then 3 else l.phase },0)
   else ((zcp a (l.cells.getD l.have_.toNat 0) k).1,{ l with phase:=if 0<l.have_ then 1 else l.phase },0))
 else (zM,zd1,(zcp a (l.cells.getD l.have_.toNat 0) k).2.2)
def zkw(l:zbI):zbI:=
 if 0<l.have_ - 1 then { l with have_:=l.have_ - 1 } else if l.phase=4 then { l with have_:=l.have_ - 1,phase:=5 } else { l with have_:=l.have_ - 1,tries:=l.tries+1,wait:=if 3<l.tries+1 then 3 else l.tries+1,phase:=2 }
def zkz(a:zy)(l:zbI)(k:Int):zy×zbI×Int:=
 if (zd2 a (l.cells.getD (l.have_ - 1).toNat 0) k).2=0 then ((zd2 a (l.cells.getD (l.have_ - 1).toNat 0) k).1,zkw l,0) else (zM,zd1,(zd2 a (l.cells.getD (l.have_ - 1).toNat 0) k).2)
def zaZ(a:zy)(l:zbI)(k:Int):zy×zbI×Int:=
 if l.phase=0 then zmO a l k else if l.phase=1\/l.phase=4 then zkz a l k else if l.phase=2 then (a,{ l with wait:=l.wait - 1,phase:=if l.wait - 1=0 then 0 else 2 },0) else (zM,zd1,7)
theorem zLX(a:zy)(l:zbI)(k:Int)(hL:a.slots.length<=1000)(hw:LWF 1000000 l):zi G 250 [.d (zx a),.d (zb2 l),.d (.int .i64 k)] []=some (.d (.tup [zx (zaZ a l k).1,zb2 (zaZ a l k).2.1,.int .i64 (zaZ a l k).2.2]),[]):=by
 obtain⟨w1,w2,w3,w4,w5,w6,w7,w8,w9,w10,w11,w12,w13⟩:=hw;unfold zaZ zmO zkz zkw
 by_cases c0:l.phase=0
 ·have ht:=zaaD a (l.cells.getD l.have_.toNat 0) k hL;have hh:=w5 c0;rw[zabo c0];generalize zcp a (l.cells.getD l.have_.toNat 0) k=r at ht ⊢;obtain⟨r1,r2,r3⟩:=r;obtain⟨l1,l2,l3,l4,l5⟩:=l;simp only at *;rw[zh zo] at ht
  by_cases c1:r3=0
  ·rw[zabo c1];subst c1
   cases r2
   ·simp only[zabz,if_false];exact zW
   ·simp only[if_true];exact zW
  ·rw[zabn c1];exact zW
 rw[zabn c0]
 by_cases c14:l.phase=1\/l.phase=4
 ·have ht:=zaaL a (l.cells.getD (l.have_ - 1).toNat 0) k hL;have hh:1<=l.have_:=by rcases c14 with h|h;exact w6 h;exact w9 h
  rw[zabo c14];generalize zd2 a (l.cells.getD (l.have_ - 1).toNat 0) k=r at ht ⊢;obtain⟨r1,r3⟩:=r;obtain⟨l1,l2,l3,l4,l5⟩:=l;simp only at *;rw[zh zo] at ht
  by_cases c1:r3=0
  ·rw[zabo c1];subst c1
   by_cases c2:3<l4+1
   ·simp only[c2,if_true]
    rcases c14 with c5|c5
    ·exact zW
    ·exact zW
   ·simp only[c2,if_false]
    rcases c14 with c5|c5
    ·exact zW
    ·exact zW
  ·rw[zabn c1]
   rcases c14 with c5|c5
   ·exact zW
   ·exact zW
 rw[zabn c14]
 by_cases c2:l.phase=2
 ·have:=w7 c2;rw[zabo c2];exact zW
 ·have q:¬l.phase=1/\¬l.phase=4:=by omega
  obtain⟨q1,q2⟩:=q;rw[zabn c2];exact zW
theorem zRv(a:zy)(c k:Int)(h:(zcp a c k).2.2=0):((zcp a c k).1=a/\(zcp a c k).2.1=false/\zh5 a c≠0)\/((zcp a c k).1=zhj a c k/\(zcp a c k).2.1=true/\zh5 a c=0):=by unfold zcp at *; exact zF
theorem zRw(a:zy)(c k:Int)(h:(zd2 a c k).2=0):(zd2 a c k).1=zhj a c 0/\zh5 a c=k:=by unfold zd2 at *; exact zF
theorem zBa{B:Int}{a:zy}{l:zbI}{k:Int}(hw:LWF B l)(h:(zaZ a l k).2.2=0):
    LWF (B+1) (zaZ a l k).2.1/\(zaZ a l k).2.1.cells=l.cells/\((zaZ a l k).1=a\/∃c o,(zaZ a l k).1=zhj a c o):=by
 obtain⟨w1,w2,w3,w4,w5,w6,w7,w8,w9,w10,w11,w12,w13⟩:=hw;unfold zaZ at *
 by_cases c0:l.phase=0
 ·have hh:=w5 c0;rw[zabo c0] at h ⊢;unfold zmO at *
  by_cases c1:(zcp a (l.cells.getD l.have_.toNat 0) k).2.2=0
  ·rw[zabo c1] at h ⊢
   rcases zRv _ _ _ c1 with ⟨e1,e2,_⟩|⟨e1,e2,_⟩
   ·rw[zabn (by rw[e2];simp)] at h ⊢;refine⟨?_,rfl,.inl e1⟩
    by_cases c2:0<l.have_
    ·simp only[c2,if_true];constructor<;>simp only<;>omega
    ·simp only[c2,if_false,c0];constructor<;>simp only<;>omega
   ·rw[zabo e2] at h ⊢;refine⟨?_,rfl,.inr ⟨_,_,e1⟩⟩
    by_cases c2:l.have_+1=l.cells.length
    ·simp only[c2,if_true];constructor<;>simp only<;>first|omega|exact fun _=>trivial
    ·simp only[c2,if_false,c0];constructor<;>simp only<;>omega
  ·rw[zabn c1] at h;exact absurd h c1
 rw[zabn c0] at h ⊢
 by_cases c14:l.phase=1\/l.phase=4
 ·have hh:1<=l.have_:=by rcases c14 with h|h;exact w6 h;exact w9 h
  rw[zabo c14] at h ⊢;unfold zkz at *
  by_cases c1:(zd2 a (l.cells.getD (l.have_ - 1).toNat 0) k).2=0
  ·rw[zabo c1] at h ⊢;have hk:=zRw _ _ _ c1;refine⟨?_,?_,.inr ⟨_,_,hk.1⟩⟩
   ·simp only[zkw]
    by_cases c2:0<l.have_ - 1
    ·rw[zabo c2];constructor<;>simp only<;>omega
    ·rw[zabn c2]
     by_cases c3:l.phase=4
     ·rw[zabo c3];constructor<;>simp only<;>omega
     ·rw[zabn c3]
      by_cases c4:3<l.tries+1
      ·rw[zabo c4];constructor<;>simp only<;>omega
      ·rw[zabn c4];constructor<;>simp only<;>omega
   ·simp only[zkw];exact zF
  ·rw[zabn c1] at h;exact absurd h c1
 rw[zabn c14] at h ⊢
 by_cases c2:l.phase=2
 ·have hh:=w7 c2;rw[zabo c2] at h ⊢;refine⟨?_,rfl,.inl rfl⟩
  by_cases c3:l.wait - 1=0
  ·simp only[c3,if_true];constructor<;>simp only<;>omega
  ·simp only[c3,if_false];constructor<;>simp only<;>omega
 ·rw[zabn c2] at h
  cases h
theorem LWF.mono{B B':Int}{l:zbI}(h:LWF B l)(hb:B<=B'):LWF B' l:=⟨h.c1,h.c2,h.h0,h.h1,h.t0,h.t1,h.t2,h.t3,h.t4,h.t5,h.t6,h.b0,by have:=h.b1;omega⟩
theorem zsN{B:Int}{l:zbI}(h:LWF B l)(hp:l.phase=3):LWF B (zcb l).1/\(zcb l).1.cells=l.cells:=by
 have h3:=h.t3 hp;obtain⟨w1,w2,w3,w4,w5,w6,w7,w8,w9,w10,w11,w12,w13⟩:=h;unfold zcb;rw[zabo hp];exact⟨by constructor<;>simp only<;>omega,rfl⟩
structure zga(cs:List Int)(n:Int):Prop where
 p:cs.Pairwise (· < ·)
 b:∀c∈cs,0<=c/\c<=n
 l:cs.length<=3
theorem zga.at{cs:List Int}{n:Int}(h:zga cs n)(hn:n<=6):(List.range cs.length).all (ziY cs)=true:=by
 rw[zabO];intro k hk;have hk:=zack.1 hk;unfold ziY;have h1:=h.b cs[k] (zabC hk);rw[zh hk];refine zabM ⟨h1.1,by omega,?_⟩
 by_cases h0:k=0
 ·exact .inl h0
 ·right;rw[zh zo];exact zacu.1 h.p (k - 1) k zo hk zo
theorem zZb{cs:List Int}{n:Int}(h:zga cs n)(hn:n<=6)(h0:1<=cs.length):zg3 cs=(⟨cs,0,0,0,0⟩,0):=by
 unfold zg3;have:=h.l;rw[zabn zo,zabo (h.at hn)]
def zaV(l:List Span)(slot:Int):Int:=zbP (fun x=>decide (x.shard=slot)) l
def zdb:Int->List Span->Option Int
 | n,[]=>some n
 | n,x::l=>if x.low=n/\x.low<=x.high/\x.high<65536 then zdb (x.high+1) l else none
def zde(F:List Int):Nat->Int->Int
 | 0,a=>a
 | m+1,a=>zde F m (if 0<=a then F.getD a.toNat 0 else a)
def ziK(d:zabk)(i:Nat):Bool:= !((decide (0<=zaV d.l i)&& !decide (d.forward.getD i 0= -1))||decide (d.forward.getD i 0< -1)||decide ((d.forward.length:Int)<=d.forward.getD i 0))
def zy7(d:zabk):Bool:=((List.range d.forward.length).all (ziK d))&&(List.range d.forward.length).all fun i=>decide (zde d.forward d.forward.length i<0)
def zhZ(n:Nat)(x:Span):Bool:=decide (x.shard<0)||decide ((n:Int)<=x.shard)
def zl8(l:List Span)(i:Nat):Bool:=decide (zaV l (l.getD i zeC).shard=i)
def zbl(d:zabk):Int:=
 if d.version<1\/1099511627776<d.version\/d.forward.length<1\/6<d.forward.length then 1
 else if zdb 0 d.l≠some 65536 then 7
 else if d.l.any (zhZ d.forward.length)=true then 4
 else if (List.range d.l.length).all (zl8 d.l)=false then 10
 else if zy7 d=false then 7 else 0
def zld(d:zabk)(slot:Int):Span×Bool:=if zbl d=0/\0<=zaV d.l slot then (d.l.getD (zaV d.l slot).toNat zeC,true) else (zeC,false)
def rD(d:zabk)(o:Nat):Nat×Go.Sim.Obj:=(o,.row [.d (zaT d)])
theorem zkU(d:zabk)(j:Int)(hL:d.l.length<=4294967296):zi G 182 [.d (zaT d),.d (.int .i64 j)] []=some (.d (.int .i64 (zaV d.l j)),[]):=by
 have:=ziZ (G:=G) (x:=zAS) (ks:=[]) d.l.length (atB d.l fun x=>decide (x.shard=j)) (fun k=>⟨[(1,.d (.int .i64 j)),(2,.ref 2 0 0),(5,.d (.int .i64 k))],[(2,.row [.d (zaT d)])]⟩) (fun k=>(.ret,⟨[(4,.d (.int .i64 k))],[]⟩)) (.exit 0,⟨[],[]⟩) (fun k hk L=>by
  simp only[zAS]
  by_cases h0:k<d.l.length
  ·simp only[h0,if_true,zgH h0];exact zS
  ·exact zS)
 rw[zj6] at this;simp only[zNr,srcO] at this;unfold zaV zbP
 cases h:d.l.findIdx? (fun x=>decide (x.shard=j)) with
 | none=>rw[h] at this;clear h;exact zW
 | some i=>rw[h] at this;clear h;exact zW
theorem z6L(d:zabk)(n:Int)(hL:d.l.length<=4294967296):∀p:Nat×Int,p.1<=d.l.length/\0<=p.2/\p.2<=65536->z6 G [] zAP ⟨[(1,.ref 1 0 0),(3,.d (.int .i64 n)),(4,.d (.int .i64 p.2)),(5,.d (.int .i64 p.1))],[rD d 1]⟩=some (match zdb p.2 (d.l.drop p.1) with|some m=>(.exit 0,⟨[(1,.ref 1 0 0),(3,.d (.int .i64 n)),(4,.d (.int .i64 m))],[rD d 1]⟩)|none=>(.ret,⟨[(2,.d (.int .i64 7))],[]⟩)):=by
 refine zaL (fun p:Nat×Int=>d.l.length - p.1) _ (fun p:Nat×Int=>⟨[(1,.ref 1 0 0),(3,.d (.int .i64 n)),(4,.d (.int .i64 p.2)),(5,.d (.int .i64 p.1))],[rD d 1]⟩) _ fun⟨k,m⟩ ⟨hk,h1,h2⟩ L ih=> ?_;simp only at ih hk h1 h2 ⊢;simp only[zAP,rD] at ih ⊢
 by_cases h0:k<d.l.length
 ·rw[zabX h0,zdb]
  by_cases c:d.l[k].low=m/\d.l[k].low<=d.l[k].high/\d.l[k].high<65536
  ·have i1:=ih (k+1,d.l[k].high+1) ⟨by simp only;omega,by simp only;omega,by simp only;omega⟩ (by simp only;omega);simp only at i1;rw[zabo c];clear ih;generalize zdb (d.l[k].high+1) (d.l.drop (k+1))=z at *;simp only[zNr,srcO] at i1
   cases z with
   | none=>exact zS
   | some z=>exact zS
  ·rw[zabn c];clear ih;exact zS
 ·rw[zaef zo,zdb];clear ih;exact zS
theorem z6M(d:zabk)(n:Nat)(hL:d.l.length<=4294967296)(hn:n<=6):z6 G [] zsD ⟨[(1,.ref 1 0 0),(3,.d (.int .i64 n)),(7,.d (.int .i64 0))],[rD d 1]⟩=some (if d.l.any (zhZ n)=true then (.ret,⟨[(2,.d (.int .i64 4))],[]⟩) else (.exit 2,⟨[(1,.ref 1 0 0),(3,.d (.int .i64 n))],[rD d 1]⟩)):=by
 have:=ziZ (G:=G) (x:=zsD) (ks:=[]) d.l.length (atB d.l (zhZ n)) (fun k=>⟨[(1,.ref 1 0 0),(3,.d (.int .i64 n)),(7,.d (.int .i64 k))],[rD d 1]⟩) (fun k=>(.ret,⟨[(2,.d (.int .i64 4))],[]⟩)) (.exit 2,⟨[(1,.ref 1 0 0),(3,.d (.int .i64 n))],[rD d 1]⟩) (fun k hk L=>by
  simp only[zsD,rD]
  by_cases h0:k<d.l.length
  ·simp only[h0,if_true,zgH h0];unfold zhZ;exact zS
  ·exact zS)
 rw[zj6] at this;simp only[zNr,srcO] at this
 grind
theorem z6N(d:zabk)(n:Nat)(hL:d.l.length<=4294967296):z6 G [] zAQ ⟨[(1,.ref 1 0 0),(3,.d (.int .i64 n)),(8,.d (.int .i64 0))],[rD d 1]⟩=some (if (List.range d.l.length).all (zl8 d.l)=true then (.exit 4,⟨[(1,.ref 1 0 0),(3,.d (.int .i64 n))],[rD d 1]⟩) else (.ret,⟨[(2,.d (.int .i64 10))],[]⟩)):=by
 refine zg5 (G:=G) d.l.length (zl8 d.l) (fun k=>⟨[(1,.ref 1 0 0),(3,.d (.int .i64 n)),(8,.d (.int .i64 k))],[rD d 1]⟩) _ _ fun k hk L=> ?_;simp only[zAQ,rD]
 by_cases h0:k<d.l.length
 ·have hi:=zkU d (d.l[k]).shard hL;simp only[h0,if_true];unfold zl8;rw[zh h0];exact zS
 ·exact zS
theorem z6O(d:zabk)(hL:d.l.length<=4294967296)(hF:d.forward.length<=6):z6 G [] zAR ⟨[(1,.ref 1 0 0),(3,.d (.int .i64 d.forward.length)),(9,.d (.int .i64 0))],[rD d 1]⟩=some (if (List.range d.forward.length).all (ziK d)=true then (.exit 6,⟨[(1,.ref 1 0 0),(3,.d (.int .i64 d.forward.length))],[rD d 1]⟩) else (.ret,⟨[(2,.d (.int .i64 7))],[]⟩)):=by
 refine zg5 (G:=G) d.forward.length (ziK d) (fun k=>⟨[(1,.ref 1 0 0),(3,.d (.int .i64 d.forward.length)),(9,.d (.int .i64 k))],[rD d 1]⟩) _ _ fun k hk L=> ?_;simp only[zAR,rD]
 by_cases h0:k<d.forward.length
 ·have hi:=zkU d k hL;simp only[h0,if_true];unfold ziK;rw[zh h0];exact zS
 ·exact zS
theorem zGF(F:List Int):∀(m:Nat) (a:Int),a<0->zde F m a=a
 | 0,a,_=>rfl
 | m+1,a,h=>by rw[zde,zabn zo,zGF F m a h]
theorem z6P(d:zabk)(i:Nat)(hF:d.forward.length<=6)(hv:∀a∈d.forward, -1<=a/\a<d.forward.length):∀p:Nat×Int,p.1<=d.forward.length/\ -1<=p.2/\p.2<d.forward.length->z6 G [] zsE ⟨[(1,.ref 1 0 0),(3,.d (.int .i64 d.forward.length)),(10,.d (.int .i64 i)),(11,.d (.int .i64 p.2)),(12,.d (.int .i64 p.1))],[rD d 1]⟩=some (.exit 10,⟨[(1,.ref 1 0 0),(3,.d (.int .i64 d.forward.length)),(10,.d (.int .i64 i)),(11,.d (.int .i64 (zde d.forward (d.forward.length - p.1) p.2)))],[rD d 1]⟩):=by
 refine zaL (fun p:Nat×Int=>d.forward.length - p.1) _ (fun p:Nat×Int=>⟨[(1,.ref 1 0 0),(3,.d (.int .i64 d.forward.length)),(10,.d (.int .i64 i)),(11,.d (.int .i64 p.2)),(12,.d (.int .i64 p.1))],[rD d 1]⟩) _ fun⟨k,a⟩ ⟨hk,h1,h2⟩ L ih=> ?_;simp only[rD] at ih hk h1 h2 ⊢;simp only[zsE]
 by_cases h0:k<d.forward.length
 ·by_cases c1:0<=a
  ·have hlt:a.toNat<d.forward.length:=by omega
   have hm:=hv (d.forward[a.toNat]) (zabC _);have i1:=ih (k+1,d.forward[a.toNat]) ⟨by simp only;omega,by simp only;omega,by simp only;omega⟩ (by simp only;omega);rw[show d.forward.length - k=(d.forward.length - (k+1))+1 by omega,zde,zabo c1,zh hlt];simp only at i1;generalize zde d.forward (d.forward.length - (k+1)) d.forward[a.toNat]=z at *;clear ih hv;simp only[zNr,srcO] at i1;exact zS
  ·rw[zGF _ _ _ zo];clear ih hv;exact zS
 ·rw[show d.forward.length - k=0 by omega,zde];clear ih hv;exact zS
theorem z6Q(d:zabk)(hF:d.forward.length<=6)(hv:∀a∈d.forward, -1<=a/\a<d.forward.length):z6 G [] zsF ⟨[(1,.ref 1 0 0),(3,.d (.int .i64 d.forward.length)),(10,.d (.int .i64 0))],[rD d 1]⟩=some (if ((List.range d.forward.length).all fun i=>decide (zde d.forward d.forward.length i<0))=true then (.exit 8,⟨[],[]⟩) else (.ret,⟨[(2,.d (.int .i64 7))],[]⟩)):=by
 refine zg5 (G:=G) d.forward.length (fun i=>decide (zde d.forward d.forward.length i<0)) (fun k=>⟨[(1,.ref 1 0 0),(3,.d (.int .i64 d.forward.length)),(10,.d (.int .i64 k))],[rD d 1]⟩) _ _ fun k hk L=> ?_
 by_cases h0:k<d.forward.length
 ·have hl:=z6P d k hF hv (0,k) ⟨by omega,by omega,by omega⟩;simp only[zacO,rD] at hl;simp only[zsF,rD,h0,if_true];generalize zde d.forward d.forward.length k=z at *;clear hv;simp only[zNr,srcO] at hl;exact zS
 ·clear hv;simp only[zsF,rD];exact zS
theorem zkV(d:zabk)(hL:d.l.length<=4294967296):zi G 183 [.d (zaT d)] []=some (.d (.int .i64 (zbl d)),[]):=by
 have l0:=fun n=>z6L d n hL (0,0) ⟨by omega,by omega,by omega⟩;simp only[zabZ,rD,zabQ] at l0;unfold zbl
 by_cases c1:d.version<1\/1099511627776<d.version\/d.forward.length<1\/6<d.forward.length
 ·rw[zabo c1];clear l0;exact zW
 rw[zabn c1];have l1:=z6M d d.forward.length hL zo;have l2:=z6N d d.forward.length hL;have l3:=z6O d hL zo;simp only[rD] at l1 l2 l3;replace l0:=l0 d.forward.length
 by_cases c2:zdb 0 d.l=some 65536
 ·rw[zabn (by simp [c2])];rw[c2] at l0;simp only at l0
  cases c3:d.l.any (zhZ d.forward.length)
  ·rw[c3,zabn (by simp)] at l1;rw[zabn (by simp)]
   cases c4:(List.range d.l.length).all (zl8 d.l)
   ·rw[c4,zabn (by simp)] at l2;rw[zabo rfl];clear c2 c3 c4 l3;exact zW
   ·rw[c4,zabo rfl] at l2;rw[zabn (by simp)];unfold zy7
    cases c5:(List.range d.forward.length).all (ziK d)
    ·rw[c5,zabn (by simp)] at l3;rw[zacd,zabo rfl];clear c2 c3 c4 c5;exact zW
    ·rw[c5,zabo rfl] at l3;rw[zacA];have l5:=z6Q d zo (by
      intro a ha;obtain⟨i,hi,e⟩:=zadc ha;have:=(zabO.1 c5) i (zack.2 hi);unfold ziK at this;rw[zh hi,e] at this;simp only[zace,zacY,decide_eq_false_iff_not] at this;omega)
     simp only[rD] at l5
     cases c6:(List.range d.forward.length).all fun i=>decide (zde d.forward d.forward.length i<0)
     ·rw[c6,zabn (by simp)] at l5;rw[zabo rfl];clear c2 c3 c4 c5 c6;exact zW
     ·rw[c6,zabo rfl] at l5;rw[zabn (by simp)];clear c2 c3 c4 c5 c6;exact zW
  ·rw[c3,zabo rfl] at l1;rw[zabo rfl];clear c2 c3 l2 l3;exact zW
 ·rw[zabo c2]
  cases c3:zdb 0 d.l with
  | none=>
   rw[c3] at l0;simp only at l0;clear c2 c3 l1 l2 l3;exact zW
  | some m=>
   rw[c3] at l0;simp only at l0;have hm:¬m=65536:=fun e=>c2 (by rw[c3,e]);clear c2 c3 l1 l2 l3;exact zW
def inS(r:Int)(x:Span):Bool:=decide (x.low<=r)&&decide (r<=x.high)
def zem(d:zabk)(r:Int):Int:=if zbl d=0 then (match d.l.findIdx? (inS r) with|some i=>(d.l.getD i zeC).shard|none=> -1) else -1
theorem z6J(d:zabk)(r:Int)(hL:d.l.length<=4294967296)(hv:zbl d=0):z6 G [] ziU ⟨[(1,.d (.int .i64 r)),(2,.ref 2 0 0),(5,.d (.int .i64 0))],[rD d 2]⟩=some (zhI d.l.length (atB d.l (inS r)) (fun k=>(.ret,⟨[(4,.d (.int .i64 (d.l.getD k zeC).shard))],[]⟩)) (.exit 0,⟨[],[]⟩)):=by
 have hval:=zkV d hL;rw[hv] at hval;refine ziZ (G:=G) d.l.length (atB d.l (inS r)) (fun k=>⟨[(1,.d (.int .i64 r)),(2,.ref 2 0 0),(5,.d (.int .i64 k))],[rD d 2]⟩) _ _ fun k hk L=> ?_;clear hv;simp only[ziU,rD]
 by_cases h0:k<d.l.length
 ·simp only[h0,if_true,zgH h0];unfold inS;exact zS
 ·exact zS
theorem zNq(d:zabk)(r:Int)(hL:d.l.length<=4294967296):zi G 171 [.d (zaT d),.d (.int .i64 r)] []=some (.d (.int .i64 (zem d r)),[]):=by
 unfold zem
 by_cases c:zbl d=0
 ·have hl:=z6J d r hL c;rw[zj6] at hl;rw[zabo c];simp only[rD] at hl
  cases h:d.l.findIdx? (inS r) with
  | none=>rw[h] at hl;clear h c;exact zW
  | some i=>rw[h] at hl;clear h c;exact zW
 ·rw[zabn c];have hval:=zkV d hL
  by_cases h0:0<d.l.length
  ·have zk0:= @zaC;have zk1:=ziU.eq_1;exact zW
  ·have zk0:= @zaC;have zk1:=ziU.eq_1;exact zW
theorem z6K(d:zabk)(j:Int)(hL:d.l.length<=4294967296):zi G 146 [.d (zaT d),.d (.int .i64 j)] []=some (.d (.tup [zca (zld d j).1,.bool (zld d j).2]),[]):=by
 have hval:=zkV d hL;have hi:=zkU d j hL;have hb:=zsd d.l (fun x=>decide (x.shard=j));change -1<=zaV d.l j/\zaV d.l j<d.l.length at hb;unfold zld
 by_cases c:zbl d=0/\0<=zaV d.l j
 ·obtain⟨c1,c2⟩:=c;rw[c1] at hval;rw[zabo ⟨c1,c2⟩];clear c1;exact zW
 ·rw[zabn c]
  by_cases c1:zbl d=0
  ·have c2:¬0<=zaV d.l j:=fun h=>c ⟨c1,h⟩;rw[c1] at hval;clear c c1;exact zW
  ·clear c;exact zW
def zgl(d:zabk):Nat->Int->Int
 | 0,a=>a
 | m+1,a=>if 0<=a/\zaV d.l a<0 then zgl d m (d.forward.getD a.toNat 0) else a
def zki(d:zabk)(a:Int):Int:=if zbl d≠0\/a<0\/(d.forward.length:Int)<=a then -1 else zgl d d.forward.length a
theorem zHV{d:zabk}(h:zbl d=0):d.forward.length<=6/\d.l.length<=4294967296->(∀a∈d.forward, -1<=a/\a<d.forward.length)/\∀i:Nat,i<d.forward.length->zde d.forward d.forward.length i<0:=by
 intro _;unfold zbl at h
 split at h
 ·cases h
 split at h
 ·cases h
 split at h
 ·cases h
 split at h
 ·cases h
 split at h
 ·cases h
 rename_i h5;simp only[zaen] at h5;unfold zy7 at h5;rw[zabH] at h5;refine⟨fun a ha=> ?_,fun i hi=>by simpa using (zabO.1 h5.2) i (zack.2 hi)⟩;obtain⟨i,hi,e⟩:=zadc ha;have:=(zabO.1 h5.1) i (zack.2 hi);unfold ziK at this;rw[zh hi,e] at this;simp only[zace,zacY,decide_eq_false_iff_not] at this;omega
theorem zjZ{d:zabk}(h:zbl d=0):1<=d.forward.length/\d.forward.length<=6/\1<=d.version/\d.version<=1099511627776:=by
 unfold zbl at h
 split at h
 ·cases h
 ·omega
theorem z6H(d:zabk)(hL:d.l.length<=4294967296)(hv:∀a∈d.forward, -1<=a/\a<d.forward.length)(hF:d.forward.length<=6):∀p:Nat×Int,zde d.forward p.1 p.2<0/\ -1<=p.2/\p.2<d.forward.length->z6 G [18] zAM ⟨[(1,.d (.int .i64 p.2)),(2,.ref 2 0 0)],[rD d 2]⟩=some (.exit 0,⟨[(1,.d (.int .i64 (zgl d p.1 p.2)))],[]⟩):=by
 refine zaL (fun p:Nat×Int=>p.1) _ (fun p:Nat×Int=>⟨[(1,.d (.int .i64 p.2)),(2,.ref 2 0 0)],[rD d 2]⟩) _ fun⟨m,a⟩ ⟨hc,h1,h2⟩ L ih=> ?_;simp only[rD] at ih hc h1 h2 ⊢;simp only[zAM];have hi:=zkU d a hL
 by_cases c:0<=a/\zaV d.l a<0
 ·obtain⟨c1,c2⟩:=c
  rcases m with _|m
  ·simp only[zde] at hc;omega
  have hlt:a.toNat<d.forward.length:=by omega
  have hm:=hv (d.forward[a.toNat]) (zabC _);rw[zde,zabo c1,zh hlt] at hc;have i1:=ih (m,d.forward[a.toNat]) ⟨hc,hm.1,hm.2⟩ (by simp only;omega);rw[zgl,zabo ⟨c1,c2⟩,zh hlt];simp only at i1;generalize zgl d m d.forward[a.toNat]=z at *;clear ih hv hc;exact zS
 ·have e:zgl d m a=a:=by
     rcases m with _|m
     ·rfl
     ·rw[zgl,zabn c]
  rw[e];clear ih hv hc e
  by_cases c1:0<=a
  ·have c2:¬zaV d.l a<0:=fun h=>c ⟨c1,h⟩;clear c;exact zS
  ·clear c;exact zS
theorem z6I(d:zabk)(a:Int)(hL:d.l.length<=4294967296):zi G 181 [.d (zaT d),.d (.int .i64 a)] []=some (.d (.int .i64 (zki d a)),[]):=by
 have hval:=zkV d hL;unfold zki
 by_cases c0:zbl d=0
 ·have hl:=zjZ c0;have hv:=zHV c0 ⟨hl.2.1,hL⟩;rw[c0] at hval
  by_cases c:a<0\/(d.forward.length:Int)<=a
  ·rw[zabo (.inr c)];clear hv c0;exact zW
  ·rw[zabn (by rw[c0];simp;omega)];have hc:=hv.2 a.toNat zo;rw[show ((a.toNat:Nat):Int)=a by omega] at hc;have hlp:=z6H d hL hv.1 hl.2.1 (d.forward.length,a) ⟨hc,by simp only;omega,by simp only;omega⟩;simp only[rD] at hlp;clear hv c0 hc;exact zW
 ·rw[zabo (.inl c0)];exact zW
theorem bytesD_ok(s:List UInt8):zge (byD s)=some s:=by
 unfold byD
 induction s with
 | nil=>rfl
 | cons b s ih=>
  simp only[zabs,zge,ih,zab8,zab5];simp
theorem zSt(l:List Int)(hL:l.length<=4000)(n:Nat)(hn:n<=3):∀p:Nat×Nat×List UInt8,p.1<=n/\p.2.2.length=n->∃a' bs,bs.length=n/\z6 G [] zAA ⟨[(0,.ref 1000000 0 0),(3,.osl 7 0 n),(4,.d (.int .i64 p.1)),(1000000,.ref 1000000 1 0)],[(7,.row ((byD p.2.2).map .d)),(1000000,srcO l p.2.1)]⟩=some (.exit 0,⟨[(3,.osl 7 0 n),(1000000,.ref 1000000 1 0)],[(7,.row ((byD bs).map .d)),(1000000,srcO l a')]⟩):=by
 refine zsO (fun p:Nat×Nat×List UInt8=>n - p.1) (fun p:Nat×Nat×List UInt8=>p.1<=n/\p.2.2.length=n) (fun p:Nat×Nat×List UInt8=>⟨[(0,.ref 1000000 0 0),(3,.osl 7 0 n),(4,.d (.int .i64 p.1)),(1000000,.ref 1000000 1 0)],[(7,.row ((byD p.2.2).map .d)),(1000000,srcO l p.2.1)]⟩) (fun p r=>∃a' bs,bs.length=n/\r=some (.exit 0,⟨[(3,.osl 7 0 n),(1000000,.ref 1000000 1 0)],[(7,.row ((byD bs).map .d)),(1000000,srcO l a')]⟩)) fun⟨k,a,bs⟩ ⟨hk,hb⟩ L ih=> ?_;simp only at ih hk hb;simp only[zAA]
 by_cases h0:k<n
 ·have n1:=zbE l a (n:=3) zo;obtain⟨c,hc⟩:∃c:UInt8,(c.toNat:Int)=97+nD l a 3:=⟨UInt8.ofNat (97+nD l a 3).toNat,by rw[UInt8.toNat_ofNat'];omega⟩;have hg:((byD bs).map AV.d)[k]? = some (.d (.int .u8 (bs.getD k 0).toNat)):=by
   unfold byD;simp [zabx (show k<bs.length by omega),show k<bs.length by omega]
  have hs:((byD bs).map AV.d).set k (.d (.int .u8 (97+nD l a 3)))=(byD (bs.set k c)).map AV.d:=by
   unfold byD;rw[<- hc,zacw,zacw]
  obtain⟨a',bs',h1,h2⟩:=ih (k+1,(za0 l a).2,bs.set k c) ⟨by simp only;omega,by simp only[zacb];exact hb⟩ (by simp only;omega);refine⟨a',bs',h1,?_⟩;simp only[zNr,srcO] at h2;simp -implicitDefEqProofs (maxSteps:=4000000) (disch:=omega) only[go_sem,zgr,hg,hs,h0];exact h2
 ·refine⟨a,bs,hb,?_⟩;simp -implicitDefEqProofs (maxSteps:=4000000) (disch:=omega) only[go_sem,h0]
theorem zuk(l:List Int)(a:Nat)(hL:l.length<=4000):∃s a',s.length<=3/\zi G 77 [.ref 1000000 0 0] [(1000000,srcO l a)]=some (.d (.str s),[(1000000,srcO l a')]):=by
 have n1:=zbE l a (n:=4) zo;obtain⟨n,hn⟩:∃n,n=(nD l a 4).toNat:=⟨_,rfl⟩;have e:nD l a 4=(n:Int):=by omega
 obtain⟨a',bs,h1,h2⟩:=zSt l hL n zo (0,(za0 l a).2,List.replicate n 0) ⟨by omega,by simp⟩;have hz:List.replicate n (AV.d (.int .u8 0))=(byD (List.replicate n 0)).map AV.d:=by unfold byD;simp
 refine⟨bs,a',by omega,?_⟩;have hl:(byD bs).length=n:=by unfold byD;simpa using h1
 have ht:List.take n ((byD bs).map AV.d)=(byD bs).map AV.d:=zada (by simp [hl]);simp only[zNr,srcO] at h2
 by_cases h0:n=0
 ·subst h0;have:bs=[]:=zacc.1 h1;subst this;simp only[List.replicate_zero,show byD []=[] from rfl,zabq] at h2;rw[zI zHX (by simp)];simp -implicitDefEqProofs (maxSteps:=4000000) (disch:=omega) only[zqK,go_sem,zgr,e,List.replicate_zero,h2]
 ·have hne:¬(List.map AV.d (byD bs)=[]):=by
     intro e2;have:=congrArg List.length e2;simp [hl] at this;exact h0 this
  rw[zI zHX (by simp)];simp -implicitDefEqProofs (maxSteps:=4000000) (disch:=omega) only[zqK,go_sem,zgr,e,hz,h2,hl,ht,bytesD_ok,hne]
theorem zDM:∃f:List Int->Nat->List UInt8×Nat,∀l a,l.length<=4000->(f l a).1.length<=3/\zi G 77 [.ref 1000000 0 0] [(1000000,srcO l a)]=some (.d (.str (f l a).1),[(1000000,srcO l (f l a).2)]):=by
 refine⟨fun l a=>if h:l.length<=4000 then (Classical.choose (zuk l a h),Classical.choose (zaci (zuk l a h))) else ([],0),fun l a h=> ?_⟩;simp only[h,dif_pos];exact zaci (zaci (zuk l a h))
noncomputable def zuj:List Int->Nat->List UInt8×Nat:=Classical.choose zDM
theorem zDL(l:List Int)(a:Nat)(hL:l.length<=4000):(zuj l a).1.length<=3/\zi G 77 [.ref 1000000 0 0] [(1000000,srcO l a)]=some (.d (.str (zuj l a).1),[(1000000,srcO l (zuj l a).2)]):=zaci zDM l a hL
def zQI(live:Int)(i:Nat):Span:=⟨(i:Int) * 65536 / live,((i:Int)+1) * 65536 / live - 1,i⟩
def ztG(live:Int)(k:Nat):List Span:=(List.range k).map (zQI live)
theorem z9t(live:Int)(k:Nat):(ztG live k).length=k:=by simp [ztG]
def ze4(slots live:Nat):zabk:=⟨1,ztG live live,List.replicate slots (-1)⟩
def zkD(slots live:Int):zabk×Int:=if live<1\/slots<live\/6<slots then (zcF,1) else (ze4 slots.toNat live.toNat,0)
theorem zTS:∀s l:Nat,1<=l->l<=s->s<=6->zbl (ze4 s l)=0/\(∀i,i<s->zaV (ze4 s l).l i=if i<l then (i:Int) else -1):=by
 have key:∀s,s<7->∀l,l<7->1<=l->l<=s->zbl (ze4 s l)=0/\(∀i,i<s->zaV (ze4 s l).l i=if i<l then (i:Int) else -1):=by decide
 intro s l h1 h2 h3;exact key s zo l zo h1 h2
theorem zZP(l:List Int)(a:Nat)(hL:l.length<=4000):zi G 42 [.d (.pd (.agg [.sl (zC l),.int .i64 a]))] []=some (.d (.bool (decide ((a:Int)<l.length))),[]):=by
 exact zW
theorem z9b(l:List Int)(a:Nat)(hL:l.length<=4000):∃x a',(1<=x.slots/\x.slots<=4/\1<=x.live/\x.live<=x.slots/\1<=x.capacity/\x.capacity<=5/\1<=x.dead/\x.dead<=4/\1<=x.limit/\x.limit<=3/\0<=x.clock/\x.clock<=1073741824/\1<=x.nextID/\x.nextID<=1073741824/\0<=x.epoch/\x.epoch<=65536)/\zi G 14 [.ref 1000000 0 0] [(1000000,srcO l a)]=some (.d (zaJ x),[(1000000,srcO l a')]):=by
 obtain⟨a1,q1⟩:∃a1,a1=(za0 l a).2:=⟨_,rfl⟩;obtain⟨a2,q2⟩:∃a2,a2=(za0 l a1).2:=⟨_,rfl⟩;obtain⟨a3,q3⟩:∃a3,a3=(za0 l a2).2:=⟨_,rfl⟩;obtain⟨a4,q4⟩:∃a4,a4=(za0 l a3).2:=⟨_,rfl⟩;obtain⟨a5,q5⟩:∃a5,a5=(za0 l a4).2:=⟨_,rfl⟩;obtain⟨a6,q6⟩:∃a6,a6=(za0 l a5).2:=⟨_,rfl⟩;have n1:=zbE l a (n:=4) zo;have n2:=zbE l a1 (n:=5) zo;have n3:=zbE l a2 (n:=4) zo;have n4:=zbE l a3 (n:=3) zo;have n5:=zbE l a4 (n:=1+nD l a 4 - 1+1) zo;have n6:=zbE l a5 (n:=12) zo;have n7:=zbE l a6 (n:=200) zo;have n8:=zbE l a6 (n:=4) zo;have n9:=zbE l a6 (n:=3) zo
 by_cases c1:nD l a5 12=9
 ·refine⟨⟨1+nD l a 4,1+nD l a4 (1+nD l a 4 - 1+1),1+nD l a1 5,1+nD l a2 4,1+nD l a3 3,1073741824 - nD l a6 200,1,0⟩,(za0 l a6).2,by simp only;omega,?_⟩;simp only[zaJ];rw[zI zrA (by simp)];simp -implicitDefEqProofs (maxSteps:=4000000) (disch:=omega) only[zjN,go_sem,zgr,zng, <- q1, <- q2, <- q3, <- q4, <- q5, <- q6,c1]
 by_cases c2:nD l a5 12=10
 ·refine⟨⟨1+nD l a 4,1+nD l a4 (1+nD l a 4 - 1+1),1+nD l a1 5,1+nD l a2 4,1+nD l a3 3,0,1073741824 - nD l a6 4,0⟩,(za0 l a6).2,by simp only;omega,?_⟩;simp only[zaJ];rw[zI zrA (by simp)];simp -implicitDefEqProofs (maxSteps:=4000000) (disch:=omega) only[zjN,go_sem,zgr,zng, <- q1, <- q2, <- q3, <- q4, <- q5, <- q6,c1,c2]
 by_cases c3:nD l a5 12=11
 ·refine⟨⟨1+nD l a 4,1+nD l a4 (1+nD l a 4 - 1+1),1+nD l a1 5,1+nD l a2 4,1+nD l a3 3,0,1,65536 - nD l a6 3⟩,(za0 l a6).2,by simp only;omega,?_⟩;simp only[zaJ];rw[zI zrA (by simp)];simp -implicitDefEqProofs (maxSteps:=4000000) (disch:=omega) only[zjN,go_sem,zgr,zng, <- q1, <- q2, <- q3, <- q4, <- q5, <- q6,c1,c2,c3]
 ·refine⟨⟨1+nD l a 4,1+nD l a4 (1+nD l a 4 - 1+1),1+nD l a1 5,1+nD l a2 4,1+nD l a3 3,0,1,0⟩,a6,by simp only;omega,?_⟩;simp only[zaJ];rw[zI zrA (by simp)];simp -implicitDefEqProofs (maxSteps:=4000000) (disch:=omega) only[zjN,go_sem,zgr,zng, <- q1, <- q2, <- q3, <- q4, <- q5, <- q6,c1,c2,c3]
end Go.Proofs.YtcembpbhkcbnhaaGreat

namespace Go.Sim.Sort
variable {α:Type} {f:α->Int}
theorem sortS_len(l:List α):(sortS f l).length=l.length:=(sortS_perm f l).length_eq
end Go.Sim.Sort

namespace Go.Sim.Sort
variable {α:Type} {f:α->Int}
end Go.Sim.Sort

namespace Go.Sim.Sort
variable {α:Type} {f:α->Int}
def insJ(f:α->Int)(x:α)(P:List α):Nat->Nat
 | 0=>0
 | k+1=>if ((P[k]?).any fun y=>decide (f x<f y))=true then insJ f x P k else k+1
theorem insJ_le(x:α)(P:List α):∀k,insJ f x P k<=k:=by
 intro k
 induction k with
 | zero=>exact zabR _
 | succ k ih=>unfold insJ;split<;>omega
theorem zalh(x z:α)(P:List α):∀k,k<=P.length->insJ f x (P++[z]) k=insJ f x P k:=by
 intro k
 induction k with
 | zero=>intro _;rfl
 | succ k ih=>
  intro h;unfold insJ;rw[zacN (by omega),ih (by omega)]
theorem insB_J(x:α)(P:List α):insB f P x=P.take (insJ f x P P.length)++x::P.drop (insJ f x P P.length):=by
 refine zai9 (p:=fun P:List α=>insB f P x=P.take (insJ f x P P.length)++x::P.drop (insJ f x P P.length)) rfl (fun l z ih=> ?_) P;rw[zalf,zabv,zab3];have e:insJ f x (l++[z]) (l.length+1)=if f x<f z then insJ f x l l.length else l.length+1:=by
  rw[insJ,zacE (zabR _),zadL,zalh _ _ _ _ (zabR _)];simp
 rw[e]
 by_cases c:f x<f z
 ·rw[zabo c,zabo c,ih];have h:=insJ_le (f:=f) x l l.length;rw[List.take_append_of_le_length h,List.drop_append_of_le_length h];simp
 ·rw[zabn c,zabn c,zada (by simp),zaeg (by simp)];simp
end Go.Sim.Sort

namespace Go.Proofs.YtcembpbhkcbnhaaGreat
open Go Go.Sim
def aO:D:= .int .i64 0
def aN(n:Int):D:= .int .i64 n
def aE:D:= .sl []
def aM:D:= .agg [aO,aO,aO,aO,aO,aO,.str []]
def aH(a b c d:D):D:= .sl [.agg [aO,.bool true,aO,aN 65535,.sl [a,aM],aO,b,c,d],.agg [aO,.bool false,aO,aO,.sl [aM,aM],aO,aO,aE,aE]]
def aZ(a b c d:Int):D:= .sl [.agg [aN a,aN b,aN c,aN d],.agg [aO,aO,aO,aO]]
def aS:List D:=[aN 2,aN 1,aN 2,aN 3,aN 1,aO,aN 1,aO]
def aT:D:= .agg aS
def aP:D:= .sl [.agg [aO,aN 65535,aO]]
def aQ:D:= .sl [aN (-1),aN (-1)]
def aA:D:=aH aM aO aE aE
def aB:D:=aH (.agg [aN 1,aN 47383,aO,aO,aO,aO,.str [97]]) (aN 1) aE aE
def aC:D:=aH aM aO (.sl [.agg [aN 1,aN 47383,aO,aN 1,aN 1,aO,.str [97],aN 3]]) (.sl [.agg [aN 3,aN 1]])
def aD:D:=aZ 0 0 0 0
def aF:D:=aZ 2 0 1 0
def aJ:D:=aZ 4 0 0 1
def aY:List D:=List.replicate 8 aO
def aK:List D:=aS++aO::aO::aE::aY++[aE,aO,aE,aE,aO,aE,aE,aE,aO,aE,aE,aE,aE,aO,aE,aO,aE,aE,aO]++aY++[aE,aE]
def a7(a b c d e:D)(l:List D):D:= .agg ([a,a,aO,b,c,aO,aO,d,aE,e]++l++aK)
def a8(n:Int)(a b:D):List D:=[.bool true,aN n,aO,aN 1,.sl [.agg [aO,a,b,.sl [.str [97]],aO,aO,aO]]]
def a9:List D:=[.bool false,aO,aO,aO,aE]
def aU:D:= .sl [.str [97]]
def b7:List D->D:=a7 (aN 1) aO aO aU aO
def b8:List D->D:=a7 (aN 2) (aN 1) (aN 3) aE (aN 13)
def aV:D:= .sl [b7 a9]
def b6:D:=b7 [.bool true,aN 13,aO,aN 1,.sl [.agg [aO,aN 1,aE,aE,aO,aO,aO]]]
def b1:D:= .sl [b6]
def b2:D:= .sl [b6,b8 a9]
def b0:D:= .sl (([113,0,0,0,1,0,0,1,185,23,0,0,224,26,251,122]:List Int).map (.int .u8))
def b3:D:= .sl [b6,b8 [.bool true,aN 24,aO,aN 1,.sl [.agg [aO,aO,.sl [b0],aU,aO,aO,aO]]]]
def aX(a b c d e f:D):D:= .agg [a,b,aO,c,aO,aO,aO,.sl [.agg [d,e,aN 47383,f]],aO,aO]
def b4:D:= .sl [aX (aN 9) (aN 1) (aN 2) (aN 1) aO aO]
def aL:D:= .sl [aX (aN 9) (aN 1) (aN 2) (aN 1) aO aO,aX (aN 20) (aN 2) (aN 3) (aN 1) (aN 1) (aN 3)]
def b5:D:= .sl [b0]
def aW(a b c d e f g:D):D:= .agg [aN 2,aN 1,aN 2,aN 3,aN 1,aO,aN 1,aO,a,b,aO,aN 3,aE,aN 1,aP,aQ,aO,aO,c,d,e,f,g]
def aW0:D:=aW aA aD (aN 1) aE aE aO aE
def aW1:D:=aW aA aD (aN 1) aV aE aO aE
def aW2:D:=aW aB aF (aN 2) b1 b4 (aN 13) aE
def aW3:D:=aW aB aF (aN 2) b2 b4 (aN 13) aE
def aW4:D:=aW aC aJ (aN 2) b3 aL (aN 24) b5
def aI1:D:= .agg [aN 1,aO,aO,aO,aO,aO,.sl [.str [97]],aE]
def aI2:D:= .agg [aN 2,aO,aN 1,aN 3,aO,aO,aE,aE]
theorem a1:za8 G 60 24 [.d (aN 1),.d (aN 2),.d (aN 1)] []=some (.d aT,[]):=by kernel_rfl
theorem a2:za8 G 60 22 [.d aT] []=some (.d (.tup [aW0,aO]),[]):=by kernel_rfl
theorem a3:za8 G 60 25 [.d aW0,.d aI1] []=some (.d (.tup [aW1,aN 1,aO]),[]):=by kernel_rfl
theorem a5:za8 G 60 25 [.d aW2,.d aI2] []=some (.d (.tup [aW3,aN 2,aO]),[]):=by kernel_rfl
theorem a4:za8 G 60 26 [.d aW1] []=some (.d (.tup [aW2,aN 13,aO]),[]):=by kernel_rfl
theorem a6:za8 G 60 26 [.d aW3] []=some (.d (.tup [aW4,aN 11,aO]),[]):=by kernel_rfl
end Go.Proofs.YtcembpbhkcbnhaaGreat
