/-
  Stripes.
-/
import Derived.Test.YtdnlddoeamjcoaaGreatBf5db6ef
import Derived.Test.YtdnlddoeamjcoaaGreatB842129c
import Derived.Test.YtdnlddoeamjcoaaGreatB18bd45f
import Derived.Test.YtdnlddoeamjcoaaGreatB970ba0c
set_option linter.unusedSimpArgs false
set_option linter.unusedVariables false
set_option maxHeartbeats 10000000
set_option maxRecDepth 100000
namespace Go.Sim
def zf6{α:Type}(φ:α->Prop)(r:α):Prop:=φ r
theorem zaD{α:Type}{φ:α->Prop}{c:Prop}[Decidable c]{A B:α}(h1:c->zf6 φ A)(h2:¬c->zf6 φ B):zf6 φ (if c then A else B):=by split<;>simp_all
theorem zf6.some{α:Type}{φ:Option α->Prop}{r:Option α}{a:α}(h:φ (some a))(e:r=some a):zf6 φ r:=by rw[e];exact h
attribute [go_sem] Nat.mul_one
end Go.Sim

namespace Go.Proofs.YtdnlddoeamjcoaaGreat
open Go Go.Sim
theorem zDd:∀(l:List Span) (n m:Int),0<=n->zdM n l=some m->∀x∈l,0<=x.low/\x.low<=x.high/\x.high<65536
 | [],_,_,_,_,x,hx=>by cases hx
 | y::l,n,m,h0,h,x,hx=>by
  rw[zdM] at h
  split at h
  ·rename_i hc
   cases hx with
   | head=>omega
   | tail _ hx=>exact zDd l _ m zo h x hx
  ·cases h
theorem zvm{d:zaM}(h:zbC d=0):zdM 0 d.l=some 65536:=by
 unfold zbC at h
 split at h
 ·cases h
 split at h
 ·cases h
 rename_i hc;simpa using hc
def zC3(d:zaM)(e:zeu):zaM×Int:=
 if zbe d.l e.from_<0\/0<=zbe d.l e.to then (zcN,7)
 else if e.mid<(d.l.getD (zbe d.l e.from_).toNat ze6).low\/(d.l.getD (zbe d.l e.from_).toNat ze6).high<=e.mid then (zcN,1)
 else (⟨d.version+1,d.l.take (zbe d.l e.from_).toNat++[⟨(d.l.getD (zbe d.l e.from_).toNat ze6).low,e.mid,e.from_⟩,⟨e.mid+1,(d.l.getD (zbe d.l e.from_).toNat ze6).high,e.to⟩]++d.l.drop ((zbe d.l e.from_).toNat+1),d.forward.set e.to.toNat (-1)⟩,0)
def zBv(d:zaM)(e:zeu):zaM×Int:=
 if zbe d.l e.from_<0\/zbe d.l e.to<0\/(¬zbe d.l e.from_ - zbe d.l e.to=1/\¬zbe d.l e.to - zbe d.l e.from_=1) then (zcN,7)
 else (⟨d.version+1,d.l.take (min (zbe d.l e.from_) (zbe d.l e.to)).toNat++[⟨(d.l.getD (min (zbe d.l e.from_) (zbe d.l e.to)).toNat ze6).low,(d.l.getD ((min (zbe d.l e.from_) (zbe d.l e.to)).toNat+1) ze6).high,e.to⟩]++d.l.drop ((min (zbe d.l e.from_) (zbe d.l e.to)).toNat+2),d.forward.set e.from_.toNat e.to⟩,0)
def zg4(d:zaM)(e:zeu):zaM×Int:=
 if zbC d≠0 then (zcN,zbC d)
 else if d.version=1099511627776 then (zcN,6)
 else if ¬e.kind=1/\¬e.kind=2 then (zcN,9)
 else if e.from_<0\/(d.forward.length:Int)<=e.from_\/e.to<0\/(d.forward.length:Int)<=e.to then (zcN,4)
 else if e.kind=1 then zC3 d e else zBv d e
theorem z8h(d:zaM)(e:zeu)(hL:d.l.length<=1000000):zg G zpf [.d (zU d),.d (zgk e)] []=some (.d (.tup [zU (zg4 d e).1,.int .i64 (zg4 d e).2]),[]):=by
 have hval:=zk9 d zo;have i1:=zk8 d e.from_ zo;have i2:=zk8 d e.to zo;have b1:=zsk d.l (fun x=>decide (x.shard=e.from_));have b2:=zsk d.l (fun x=>decide (x.shard=e.to));change -1<=zbe d.l e.from_/\zbe d.l e.from_<d.l.length at b1;change -1<=zbe d.l e.to/\zbe d.l e.to<d.l.length at b2;unfold zg4
 by_cases c0:zbC d=0
 ·have hl:=zke c0;rw[c0] at hval;rw[zacX (by rw[c0];simp)];have htl:=zDd d.l 0 65536 zo (zvm c0);clear c0
  by_cases c1:d.version=1099511627776
  ·rw[zacY c1];exact zW zeC
  rw[zacX c1]
  by_cases c2:¬e.kind=1/\¬e.kind=2
  ·rw[zacY c2];obtain⟨c2,c3⟩:=c2;exact zW zeC
  rw[zacX c2]
  by_cases c3:e.from_<0\/(d.forward.length:Int)<=e.from_\/e.to<0\/(d.forward.length:Int)<=e.to
  ·rw[zacY c3];have c4:e.kind=1\/e.kind=2:=by omega
   clear c2
   rcases c4 with c4|c4
   ·exact zW zeC
   ·exact zW zeC
  rw[zacX c3];unfold zC3 zBv;generalize zbe d.l e.from_=i at *;generalize zbe d.l e.to=k at *
  by_cases c4:e.kind=1
  ·rw[zacY c4];clear c2
   by_cases c5:i<0\/0<=k
   ·rw[zacY c5];exact zW zeC
   rw[zacX c5];have hlt:i.toNat<d.l.length:=by omega
   obtain⟨iN,hiN⟩:∃n:Nat,i=n:=⟨i.toNat,by omega⟩;subst hiN;simp only[zadG] at hlt ⊢;rw[zj hlt]
   by_cases c6:e.mid<d.l[iN].low\/d.l[iN].high<=e.mid
   ·rw[zacY c6];exact zW zeC
   rw[zacX c6];have hti:=htl d.l[iN] (zadf _);clear htl
   by_cases c7:iN=0
   ·subst c7;rw[zO zeC (by simp)];simp -implicitDefEqProofs (maxSteps:=4000000) (disch:=omega) only[zhP,ziy,zj,go_sem, *];(try simp only[zPr]);repeat' (first|done|rfl|((first|refine zay (fun hq=> ?_) (fun hq=> ?_)|refine zaD (fun hq=> ?_) (fun hq=> ?_))<;>(try (first|(exfalso;omega)|contradiction))<;>(try simp -implicitDefEqProofs (maxSteps:=4000000) (disch:=omega) only[zj,go_sem, *])<;>(try simp only[zPr])));(all_goals try rfl);(all_goals try (repeat' (first|done|rfl|(exfalso;omega)|contradiction|(refine zaz (fun hq=> ?_) (fun hq=> ?_)))))
    all_goals simp only[zU,zaw,zht,zac1,zadg,zacZ,zadi,zadQ,zadl]
   ·rw[zO zeC (by simp)];simp -implicitDefEqProofs (maxSteps:=4000000) (disch:=omega) only[zhP,ziy,zj,go_sem, *];(try simp only[zPr]);repeat' (first|done|rfl|((first|refine zay (fun hq=> ?_) (fun hq=> ?_)|refine zaD (fun hq=> ?_) (fun hq=> ?_))<;>(try (first|(exfalso;omega)|contradiction))<;>(try simp -implicitDefEqProofs (maxSteps:=4000000) (disch:=omega) only[zj,go_sem, *])<;>(try simp only[zPr])));(all_goals try rfl);(all_goals try (repeat' (first|done|rfl|(exfalso;omega)|contradiction|(refine zaz (fun hq=> ?_) (fun hq=> ?_)))))
    all_goals simp only[zU,zaw,zht,zac1,zadg,zacZ,zadi,zadQ,zadl,zadK]
  ·rw[zacX c4];have hk2:e.kind=2:=by omega
   clear c2
   by_cases c5:i<0\/k<0\/¬i - k=1/\¬k - i=1
   ·rw[zacY c5];exact zW zeC
   rw[zacX c5];obtain⟨iN,hiN⟩:∃n:Nat,i=n:=⟨i.toNat,by omega⟩;obtain⟨kN,hkN⟩:∃n:Nat,k=n:=⟨k.toNat,by omega⟩;subst hiN hkN;obtain⟨f,hf⟩:∃f:Nat,min (iN:Int) (kN:Int)=f:=⟨(min (iN:Int) (kN:Int)).toNat,by omega⟩;have hlt:f+1<d.l.length:=by omega
   have hti:=htl d.l[f] (zadf _);have hti2:=htl d.l[f+1] (zadf _);clear htl;rw[hf,zadG,zj (show f<d.l.length by omega),zj hlt];have hcase:(iN=f/\kN=f+1)\/(iN=f+1/\kN=f):=by omega
   have e2:((f:Int)+1).toNat=f+1:=by omega
   have e3:((f:Int)+2).toNat=f+2:=by omega
   clear hf
   rcases hcase with ⟨q1,q2⟩|⟨q1,q2⟩
   ·subst q1 q2
    by_cases c7:iN=0
    ·subst c7;rw[zO zeC (by simp)];simp -implicitDefEqProofs (maxSteps:=4000000) (disch:=omega) only[zhP,ziy,e2,e3,zj,go_sem, *];(try simp only[zPr]);repeat' (first|done|rfl|((first|refine zay (fun hq=> ?_) (fun hq=> ?_)|refine zaD (fun hq=> ?_) (fun hq=> ?_))<;>(try (first|(exfalso;omega)|contradiction))<;>(try simp -implicitDefEqProofs (maxSteps:=4000000) (disch:=omega) only[e2,e3,zj,go_sem, *])<;>(try simp only[zPr])));(all_goals try rfl);(all_goals try (repeat' (first|done|rfl|(exfalso;omega)|contradiction|(refine zaz (fun hq=> ?_) (fun hq=> ?_)))))
     all_goals simp only[zU,zaw,zht,zac1,zadg,zacZ,zadi,zadQ,zadl]
    ·rw[zO zeC (by simp)];simp -implicitDefEqProofs (maxSteps:=4000000) (disch:=omega) only[zhP,ziy,e2,e3,zj,go_sem, *];(try simp only[zPr]);repeat' (first|done|rfl|((first|refine zay (fun hq=> ?_) (fun hq=> ?_)|refine zaD (fun hq=> ?_) (fun hq=> ?_))<;>(try (first|(exfalso;omega)|contradiction))<;>(try simp -implicitDefEqProofs (maxSteps:=4000000) (disch:=omega) only[e2,e3,zj,go_sem, *])<;>(try simp only[zPr])));(all_goals try rfl);(all_goals try (repeat' (first|done|rfl|(exfalso;omega)|contradiction|(refine zaz (fun hq=> ?_) (fun hq=> ?_)))))
     all_goals simp only[zU,zaw,zht,zac1,zadg,zacZ,zadi,zadQ,zadl,zadK]
   ·subst q1 q2
    by_cases c7:kN=0
    ·subst c7;rw[zO zeC (by simp)];simp -implicitDefEqProofs (maxSteps:=4000000) (disch:=omega) only[zhP,ziy,e2,e3,zj,go_sem, *];(try simp only[zPr]);repeat' (first|done|rfl|((first|refine zay (fun hq=> ?_) (fun hq=> ?_)|refine zaD (fun hq=> ?_) (fun hq=> ?_))<;>(try (first|(exfalso;omega)|contradiction))<;>(try simp -implicitDefEqProofs (maxSteps:=4000000) (disch:=omega) only[e2,e3,zj,go_sem, *])<;>(try simp only[zPr])));(all_goals try rfl);(all_goals try (repeat' (first|done|rfl|(exfalso;omega)|contradiction|(refine zaz (fun hq=> ?_) (fun hq=> ?_)))))
     all_goals simp only[zU,zaw,zht,zac1,zadg,zacZ,zadi,zadQ,zadl]
    ·rw[zO zeC (by simp)];simp -implicitDefEqProofs (maxSteps:=4000000) (disch:=omega) only[zhP,ziy,e2,e3,zj,go_sem, *];(try simp only[zPr]);repeat' (first|done|rfl|((first|refine zay (fun hq=> ?_) (fun hq=> ?_)|refine zaD (fun hq=> ?_) (fun hq=> ?_))<;>(try (first|(exfalso;omega)|contradiction))<;>(try simp -implicitDefEqProofs (maxSteps:=4000000) (disch:=omega) only[e2,e3,zj,go_sem, *])<;>(try simp only[zPr])));(all_goals try rfl);(all_goals try (repeat' (first|done|rfl|(exfalso;omega)|contradiction|(refine zaz (fun hq=> ?_) (fun hq=> ?_)))))
     all_goals simp only[zU,zaw,zht,zac1,zadg,zacZ,zadi,zadQ,zadl,zadK]
 ·rw[zacY c0];exact zW zeC
def zea(ids:List Int):Bool:=decide (¬ids.Nodup)
def zcp(l:List zl):Int:=match l with
 | []=>0
 | m::l=>if zaC m≠0 then zaC m else zcp l
def zI(r:zat):List zl:=(List.range r.size.toNat).map fun i=>r.cells.getD ((r.head.toNat+i) % r.cells.length) zak
def zgT(r:zat):Prop:=1<=r.cells.length/\r.cells.length<=12/\0<=r.head/\r.head<r.cells.length/\0<=r.size/\r.size<=r.cells.length
instance (r:zat):Decidable (zgT r):=by unfold zgT;exact inferInstance
def zdG(r:zat)(i n:Nat):Bool:=(List.range' i (n - i)).any fun j=>decide (r.cells.getD ((r.head.toNat+j) % r.cells.length) zak≠zak)
def zaX(r:zat):Int:=if ¬zgT r then 1 else if zdG r r.size.toNat r.cells.length=true then 7 else if zcp (zI r)≠0 then zcp (zI r) else if zea ((zI r).map (·.id))=true then 10 else 0
theorem z9f(r:zat){i n:Nat}(h:i<n):zdG r i n=(decide (r.cells.getD ((r.head.toNat+i) % r.cells.length) zak≠zak)||zdG r (i+1) n):=by
 unfold zdG;rw[show n - i=(n - (i+1))+1 by omega,zaex,zaeE]
theorem z9e(r:zat){i n:Nat}(h:¬i<n):zdG r i n=false:=by
 unfold zdG;rw[show n - i=0 by omega];rfl
theorem zHS{l:List zl}{k:Nat}(h:k<l.length):zcp (l.drop k)=if zaC l[k]≠0 then zaC l[k] else zcp (l.drop (k+1)):=by
 rw[zady h];rfl
def zaV(l:List zl)(id:Int):Int:=zce (fun m:zl=>decide (m.id=id)) l
theorem zH7{l:List zl}{k:Nat}(h:k<l.length):zaV l l[k].id=k↔∀j (hj:j<k),l[j].id≠l[k].id:=by
 unfold zaV zce
 cases hf:l.findIdx? (fun m:zl=>decide (m.id=l[k].id)) with
 | none=>
  have:=zae6.1 hf l[k] (zadf h);simp at this
 | some i=>
  obtain⟨hi,e,hn⟩:=zad6.1 hf;simp only[decide_eq_true_eq] at e hn;constructor
  ·intro e2 j hj;have:i=k:=by simp at e2;omega
   subst this;exact hn j hj
  ·intro ha
   by_cases h1:i<k
   ·exact absurd e (ha i h1)
   ·by_cases h2:k<i
    ·exact absurd rfl (hn k h2)
    ·simp;omega
def zfh(l:List zl)(k:Nat):Bool:=(List.range' k (l.length - k)).any fun i=>decide (zaV l (l.getD i zak).id≠i)
theorem zBd(l:List zl){k:Nat}(h:k<l.length):zfh l k=(decide (zaV l l[k].id≠k)||zfh l (k+1)):=by
 unfold zfh;rw[show l.length - k=(l.length - (k+1))+1 by omega,zaex,zaeE,zj h]
theorem zBc(l:List zl){k:Nat}(h:¬k<l.length):zfh l k=false:=by
 unfold zfh;rw[show l.length - k=0 by omega];rfl
theorem zBb(l:List zl):zfh l 0=zea (l.map (·.id)):=by
 apply zaef.2;unfold zfh zea;simp only[zaeq,zadY,zaeV,decide_eq_true_eq,zafy,zad7,zadd,zafg];constructor
 ·rintro⟨i,⟨_,hi⟩,hne⟩ hall;simp only[zadv] at hi;rw[zj hi] at hne;exact hne ((zH7 hi).2 fun j hj=>hall j i zo hi hj)
 ·intro hn;refine Classical.byContradiction fun hc=>hn fun i j hi hj hij=> ?_;have:zaV l l[j].id=j:=Classical.byContradiction fun hc2=>hc ⟨j,⟨by omega,by omega⟩,by rw[zj hj];exact hc2⟩;exact (zH7 hj).1 this i hij
def za9(s:zu):List zl:=zI s.ready++s.leases.l.map (·.msg)
def z0O(s:zu)(l:List zl):Bool:=l.any fun m=>decide (¬(s.low<=m.route/\m.route<=s.high))
def zC8(s:zu):Int:=s.ready.size+s.leases.l.length
def zaf(s:zu):Int:=
 if zaX s.ready≠0 then zaX s.ready
 else if zaA s.leases≠0 then zaA s.leases
 else if s.live=false then (if s.low≠0\/s.high≠0\/0<zC8 s then 7 else 0)
 else if ¬(0<=s.low/\s.low<=s.high/\s.high<65536) then 1
 else if s.ready.cells.length<zC8 s then 3
 else if z0O s (za9 s)=true then 12
 else if zea ((za9 s).map (·.id))=true then 10 else 0
theorem zhv(r:zat):(zI r).length=r.size.toNat:=by simp [zI]
theorem zc8{r:zat}(h:zaX r=0):zgT r:=by
 unfold zaX at h
 split at h
 ·exact absurd h (by decide)
 ·rename_i hc;exact zadh.1 hc
def za5(c:List zl)(h k:Nat):List zl:=(List.range k).map fun i=>c.getD ((h+i) % c.length) zak
theorem z6g(c:List zl)(h k:Nat):za5 c h (k+1)=za5 c h k++[c.getD ((h+k) % c.length) zak]:=by
 simp [za5,zafV]
theorem zju(c:List zl)(h k:Nat):(za5 c h k).length=k:=by simp [za5]
theorem zjf(l:List zl)(id:Int)(hL:l.length<=4294967296):zg G zlF [.d (.sl (l.map zn)),.d (.int .i64 id)] []=some (.d (.int .i64 (zaV l id)),[]):=by
 have:=zjo (G:=G) (x:=zAM) (ks:=[]) l.length (atB l fun m:zl=>decide (m.id=id)) (fun k=>⟨[(0,.d (.sl (l.map zn))),(1,.d (.int .i64 id)),(5,.d (.int .i64 k))],[]⟩) (fun k=>(.ret,⟨[(4,.d (.int .i64 k))],[]⟩)) (.exit 0,⟨[],[]⟩) (fun k hk L=>by
  simp only[zAM]
  by_cases h0:k<l.length
  ·rw[zacY h0];simp only[zg5 h0]
   by_cases h1:l[k].id=id
   ·simp only[h1,decide_true,if_true];simp -implicitDefEqProofs (maxSteps:=4000000) (disch:=omega) only[zn,zj,go_sem, *]
   ·simp only[h1,decide_false,zac8,if_false];simp -implicitDefEqProofs (maxSteps:=4000000) (disch:=omega) only[zn,zj,go_sem, *]
  ·rw[zacX h0];exact zS)
 rw[zkl] at this;simp only[zNr,zE] at this;unfold zaV zce
 cases h:l.findIdx? (fun m:zl=>decide (m.id=id)) with
 | none=>rw[h] at this;exact zW zIg
 | some i=>rw[h] at this;exact zW zIg
def zk3(c:List zl)(h z i:Nat):St:=⟨[(1,.ref 1 0 0),(3,.acc 3 ((za5 c h i).map zn)),(4,.d (.int .i64 i))],[(1,.row [.d (.agg [.sl (c.map zn),.int .i64 h,.int .i64 z])]),(3,.acc (za5 c h i).length)]⟩
theorem z6i(c:List zl)(h z:Nat)(h1:c.length<=12)(h2:h<c.length)(h3:z<=c.length):∀i,i<=z->zai G [] zsw (zk3 c h z i)=some (.exit 0,⟨[(3,.acc 3 ((za5 c h z).map zn))],[(3,.acc (za5 c h z).length)]⟩):=by
 refine za3 (fun i=>z - i) (fun i=>i<=z) (zk3 c h z) _ fun i hi L ih=> ?_
 by_cases h0:i<z
 ·have i1:=ih (i+1) zo zo;clear ih;have e:((h:Int)+i).tmod c.length=(((h+i) % c.length:Nat):Int):=by rw[<- zad5, <- zafx]
  have hj:(h+i) % c.length<c.length:=zad4 _ zo;have hl:=zju c h i;rw[zk3,z6g] at i1;generalize (h+i) % c.length=j at *;rw[zj hj] at i1;simp only[zadg,zac1,zacZ,zac6,zadF,hl] at i1;simp only[zk3,hl,zsw];generalize za5 c h i=w at *;simp only[zNr,zE] at i1;exact zS
 ·clear ih;have:i=z:=by omega
  subst this;simp only[zk3,zsw];exact zS
theorem zjv(c:List zl)(h z:Nat)(h1:c.length<=12)(h2:h<c.length)(h3:z<=c.length):zg G zlL [.d (.agg [.sl (c.map zn),.int .i64 h,.int .i64 z])] []=some (.acc 0 ((za5 c h z).map zn),[(0,.acc (za5 c h z).length)]):=by
 have hl:=z6i c h z h1 h2 h3 0 zo;simp only[zk3,za5,List.range_zero,zacZ,zac5] at hl;simp only[zNr,zE] at hl;rw[zO zXv (by simp)];simp -implicitDefEqProofs (maxSteps:=4000000) (disch:=omega) only[zuH,zCd,za5,zj,go_sem, *]
theorem zacU{m:zl}(h:¬(¬m.id=0\/¬m.route=0\/¬m.epoch=0\/¬m.count=0\/¬m.gen=0\/¬m.sent=0\/¬m.body=[])):m=zak:=by
 simp only[not_or,zadh] at h;obtain⟨a,b,c,d,e,f,g⟩:=h
 cases m
 simp only at a b c d e f g;subst a b c d e f g;rfl
theorem z9g(c:List zl)(h:Nat)(z:Int){i n:Nat}(h0:i<n):zdG ⟨c,h,z⟩ i n=(decide (c.getD ((h+i) % c.length) zak≠zak)||zdG ⟨c,h,z⟩ (i+1) n):=z9f ⟨c,h,z⟩ h0
def rgR(c:List zl)(h z i:Nat):zac×St:=if zdG ⟨c,h,z⟩ i c.length=true then (.ret,⟨[(2,.d (.int .i64 7))],[]⟩) else (.exit 0,⟨[(1,.ref 1 0 0)],[(1,.row [.d (.agg [.sl (c.map zn),.int .i64 h,.int .i64 z])])]⟩)
theorem zjt(c:List zl)(h z:Nat):zI ⟨c,h,z⟩=za5 c h z:=rfl
theorem znx{r:zat}(hr:zgT r):∃(c:List zl) (h z:Nat),r=⟨c,h,z⟩/\1<=c.length/\c.length<=12/\h<c.length/\z<=c.length:=by
 obtain⟨c,h,z⟩:=r;obtain⟨h1,h2,h3,h4,h5,h6⟩:=hr;simp only at h1 h2 h3 h4 h5 h6;exact⟨c,h.toNat,z.toNat,by rw[zaf0 h3,zaf0 h5],h1,h2,by omega,by omega⟩
theorem zQC{c:List zl}{h z:Nat}(hok:zgT ⟨c,h,z⟩):zaX ⟨c,h,z⟩=if zdG ⟨c,h,z⟩ z c.length=true then 7 else if zcp (za5 c h z)≠0 then zcp (za5 c h z) else if zea ((za5 c h z).map (·.id))=true then 10 else 0:=by
 unfold zaX;rw[zacX (fun hc=>hc hok)];rfl
def r4S(c:List zl)(h z i:Nat):St:=⟨[(1,.ref 1 0 0),(3,.d (.int .i64 c.length)),(4,.d (.int .i64 i))],[(1,.row [.d (.agg [.sl (c.map zn),.int .i64 h,.int .i64 z])])]⟩
theorem z9d(c:List zl)(h z:Nat)(h1:c.length<=12)(h2:h<c.length):∀i,i<=c.length->zai G [] zst (r4S c h z i)=some (rgR c h z i):=by
 refine za3 (fun i=>c.length - i) (fun i=>i<=c.length) (r4S c h z) (fun i=>some (rgR c h z i)) fun i hi L ih=> ?_
 by_cases h0:i<c.length
 ·have i1:=ih (i+1) zo zo;clear ih;have e:((h:Int)+i).tmod c.length=(((h+i) % c.length:Nat):Int):=by rw[<- zad5, <- zafx]
  have hj:(h+i) % c.length<c.length:=zad4 _ zo;unfold rgR at i1 ⊢;rw[z9g _ _ _ h0];generalize (h+i) % c.length=j at *;rw[zj hj];generalize zdG ⟨c,h,z⟩ (i+1) c.length=bb at *;simp only[r4S] at i1;simp only[zNr,zE] at i1;simp only[r4S,zst]
  by_cases hm:c[j]=zak
  ·rw[hm];simp only[ne_eq,zac9,decide_false,zaej];simp -implicitDefEqProofs (maxSteps:=4000000) (disch:=omega) only[hm,zak,zn,zj,go_sem, *]
  ·simp only[ne_eq,hm,zadw,decide_true,zaeW,if_true]
   (try simp -implicitDefEqProofs (maxSteps:=4000000) (disch:=omega) only[zn,zj,go_sem, *]);(try simp only[zPr]);repeat' (first|done|rfl|((first|refine zay (fun hq=> ?_) (fun hq=> ?_)|refine zaD (fun hq=> ?_) (fun hq=> ?_))<;>(try (first|(exfalso;omega)|contradiction))<;>(try simp -implicitDefEqProofs (maxSteps:=4000000) (disch:=omega) only[zn,zj,go_sem, *])<;>(try simp only[zPr])));(all_goals try rfl);(all_goals try (repeat' (first|done|rfl|(exfalso;omega)|contradiction|(refine zaz (fun hq=> ?_) (fun hq=> ?_)))))
   exact absurd (zacU (by assumption)) hm
 ·clear ih;unfold rgR;rw[z9e _ h0];simp only[r4S,zst,zac8,if_false];exact zS
def f4S(l:List zl)(i:Nat):St:=⟨[(5,.acc 60 (l.map zn)),(6,.d (.int .i64 i))],[(60,.acc l.length)]⟩
def f4R(l:List zl)(i:Nat):zac×St:=if zcp (l.drop i)≠0 then (.ret,⟨[(2,.d (.int .i64 (zcp (l.drop i))))],[]⟩) else (.exit 2,⟨[(5,.acc 60 (l.map zn))],[(60,.acc l.length)]⟩)
theorem zWR(l:List zl)(h1:l.length<=12):∀i,i<=l.length->zai G [] zsu (f4S l i)=some (f4R l i):=by
 refine za3 (fun i=>l.length - i) (fun i=>i<=l.length) (f4S l) (fun i=>some (f4R l i)) fun i hi L ih=> ?_
 by_cases h0:i<l.length
 ·have i1:=ih (i+1) zo zo;clear ih;have hm:=zix l[i];unfold f4R at i1 ⊢;rw[zHS h0];unfold f4S at i1;generalize zcp (l.drop (i+1))=fe at *;simp only[f4S,zsu];simp only[zn] at hm;simp only[zNr,zE] at i1
  by_cases hv:zaC l[i]=0
  ·rw[hv] at hm;simp only[hv,ne_eq,zac9,if_false];simp -implicitDefEqProofs (maxSteps:=4000000) (disch:=omega) only[zn,zj,go_sem, *]
  ·simp only[ne_eq,hv,zadw,if_true];clear i1;simp -implicitDefEqProofs (maxSteps:=4000000) (disch:=omega) only[zn,zj,go_sem, *]
 ·clear ih;have:i=l.length:=by omega
  subst this;unfold f4R;rw[zadI];simp only[f4S,zcp,ne_eq,zac9,if_false,zsu];exact zS
def d4S(l:List zl)(i:Nat):St:=⟨[(5,.acc 60 (l.map zn)),(8,.d (.int .i64 i))],[(60,.acc l.length)]⟩
def d4R(l:List zl)(i:Nat):zac×St:=if zfh l i=true then (.ret,⟨[(2,.d (.int .i64 10))],[]⟩) else (.exit 4,⟨[],[]⟩)
theorem zUZ(l:List zl)(h1:l.length<=12):∀i,i<=l.length->zai G [] zsv (d4S l i)=some (d4R l i):=by
 refine za3 (fun i=>l.length - i) (fun i=>i<=l.length) (d4S l) (fun i=>some (d4R l i)) fun i hi L ih=> ?_
 by_cases h0:i<l.length
 ·have i1:=ih (i+1) zo zo;clear ih;have hx:=zjf l l[i].id zo;unfold d4R at i1 ⊢;rw[zBd _ h0];unfold d4S at i1;generalize zfh l (i+1)=fe at *;simp only[d4S,zsv];simp only[zNr,zE] at i1;generalize zaV l l[i].id=q at *
  by_cases hv:q=i
  ·subst hv;simp only[ne_eq,zac9,decide_false,zaej];simp -implicitDefEqProofs (maxSteps:=4000000) (disch:=omega) only[zn,zj,go_sem, *]
  ·simp only[ne_eq,hv,zadw,decide_true,zaeW,if_true];clear i1;simp -implicitDefEqProofs (maxSteps:=4000000) (disch:=omega) only[zn,zj,go_sem, *]
 ·clear ih;unfold d4R;rw[zBc _ h0];simp only[d4S,zsv,zac8,if_false];exact zS
theorem zk6(r:zat)(hL:r.cells.length<=4294967296):zg G zoo [.d (zau r)] []=some (.d (.int .i64 (zaX r)),[]):=by
 by_cases hok:zgT r
 ·obtain⟨c,h,z,rfl,h1,h2,h3,h4⟩:=znx hok;have hr:=z9d c h z h2 h3 z h4;have hl:=zjv c h z h2 h3 h4;have hn:=zju c h z;have hv:=zWR (za5 c h z) zo 0 zo;have hd:=zUZ (za5 c h z) zo 0 zo;rw[zQC hok];unfold rgR at hr;unfold f4R at hv;unfold d4R at hd;rw[zBb] at hd;simp only[zadu] at hv;simp only[r4S] at hr;simp only[f4S,zado,hn] at hv;simp only[d4S,zado,hn] at hd;rw[hn] at hl;simp only[zau];generalize zdG ⟨c,h,z⟩ z c.length=b1 at *;generalize zcp (za5 c h z)=fe at *;generalize zea ((za5 c h z).map (·.id))=dd at *;generalize za5 c h z=w at *;clear hok
  cases b1 with
  | true=>
   simp only[if_true] at hr ⊢;exact zW zms
  | false=>
   simp only[zac8,if_false] at hr ⊢
   by_cases e:fe=0
   ·subst e;simp only[ne_eq,zac9,if_false] at hv ⊢
    cases dd
    ·simp only[zac8,if_false] at hd ⊢;exact zW zms
    ·simp only[if_true] at hd ⊢;exact zW zms
   ·simp only[ne_eq,e,zadw,if_true] at hv ⊢;exact zW zms
 ·unfold zaX;rw[zacY hok];obtain⟨c,h,z⟩:=r;simp only[zgT] at hok hL;simp only[zau];exact zW zms
theorem z8a{r:zat}(hr:zaX r=0):zg G zlJ [.d (zau r)] []=some (.d (.sl ((zI r).map zn)),[]):=by
 have hv:=zk6 r (by have:=(zc8 hr).2.1;omega);obtain⟨c,h,z,rfl,h1,h2,h3,h4⟩:=znx (zc8 hr);have hl:=zjv c h z h2 h3 h4;rw[hr] at hv;rw[zjt];clear hr;simp only[zau] at hv ⊢;generalize za5 c h z=w at *;exact zW zIj
theorem zjA{s:zu}(hr:zaX s.ready=0):zg G zlO [.d (zk s)] []=some (.d (.sl ((zI s.ready).map zn)),[]):=by
 have hl:=z8a hr;generalize zI s.ready=w at *;simp only[zau,zk] at hl ⊢;exact zW zIs
def zeQ(b:List zl)(l:List zN)(i:Nat):List zl:=b++(l.take i).map (·.msg)
theorem z0Q(b:List zl){l:List zN}{i:Nat}(h:i<l.length):zeQ b l (i+1)=zeQ b l i++[l[i].msg]:=by
 unfold zeQ;rw[zafw,zada h,zadg,zadK];rfl
theorem z0P(b:List zl){l:List zN}{i:Nat}(h:i<=l.length):(zeQ b l i).length=b.length+i:=by
 simp [zeQ];omega
def l7S(s:zu)(i:Nat):St:=⟨[(1,.ref 1 0 0),(3,.acc 3 ((zeQ [] s.leases.l i).map zn)),(4,.d (.int .i64 i))],[(1,.row [.d (zk s)]),(3,.acc (zeQ [] s.leases.l i).length)]⟩
theorem zZC(s:zu)(h1:s.leases.l.length<=12):∀i,i<=s.leases.l.length->zai G [] zsE (l7S s i)=some (.exit 0,⟨[(3,.acc 3 ((zeQ [] s.leases.l s.leases.l.length).map zn))],[(3,.acc (zeQ [] s.leases.l s.leases.l.length).length)]⟩):=by
 refine za3 (fun i=>s.leases.l.length - i) (fun i=>i<=s.leases.l.length) (l7S s) _ fun i hi L ih=> ?_
 by_cases h0:i<s.leases.l.length
 ·have i1:=ih (i+1) zo zo;clear ih;have hl:=z0P [] (l:=s.leases.l) (i:=i) zo;rw[l7S,z0Q [] h0] at i1;generalize zeQ [] s.leases.l s.leases.l.length=z at *;simp only[zadg,zac1,zacZ,zac6,zadF,hl] at i1;simp only[l7S,hl,zsE];generalize zeQ [] s.leases.l i=w at *;simp only[zn,zk] at i1 ⊢;simp only[zNr,zE] at i1;simp -implicitDefEqProofs (maxSteps:=4000000) (disch:=omega) only[za0,zn,zj,go_sem, *]
 ·clear ih;have:i=s.leases.l.length:=by omega
  subst this;simp only[l7S,zk,zsE];exact zS
theorem zsT{s:zu}(h1:s.leases.l.length<=12):zg G zoT [.d (zk s)] []=some (.d (.sl ((s.leases.l.map (·.msg)).map zn)),[]):=by
 have hm:=zZC s h1 0 zo;have e:zeQ [] s.leases.l s.leases.l.length=s.leases.l.map (·.msg):=by simp [zeQ]
 rw[e] at hm;generalize s.leases.l.map (·.msg)=w at *;simp only[l7S,zeQ,zadQ,zacZ,zadk,zk] at hm;simp only[zk];simp only[zNr,zE] at hm;exact zW zXE
theorem zjV{s:zu}(hr:zaX s.ready=0)(h1:s.leases.l.length<=12):zg G zlN [.d (zk s)] []=some (.d (.sl ((za9 s).map zn)),[]):=by
 have h2:=zjA hr;have h3:=zsT h1;have hb:(zI s.ready).length<=12:=by
  rw[zhv];have:=zc8 hr;obtain⟨a1,a2,a3,a4,a5,a6⟩:=this;omega
 have hc:(s.leases.l.map (·.msg)).length<=12:=by simpa using h1
 simp only[za9,zadg];generalize s.leases.l.map (·.msg)=w at *;generalize zI s.ready=w2 at *;simp only[zk] at h2 h3 ⊢;exact zW zIq
theorem zQ7{t:zT}(h:zaA t=0):t.l.length<=12:=by
 refine Classical.byContradiction fun hc=> ?_;unfold zaA at h;rw[zacY zo] at h;exact absurd h (by decide)
def zgO(lo hi:Int)(l:List zl):Bool:=l.any fun m=>decide (¬(lo<=m.route/\m.route<=hi))
theorem z0N(lo hi:Int){l:List zl}{k:Nat}(h:k<l.length):zgO lo hi (l.drop k)=(decide (¬(lo<=l[k].route/\l[k].route<=hi))||zgO lo hi (l.drop (k+1))):=by
 rw[zady h];rfl
theorem zQS(lo hi:Int):zg G zo5 [.d (.int .i64 lo),.d (.int .i64 hi)] []=some (.d (.bool (decide (0<=lo/\lo<=hi/\hi<65536))),[]):=by
 by_cases h:0<=lo/\lo<=hi/\hi<65536
 ·rw[zadn h];exact zW zIv
 ·rw[zadq h];have e:(decide (0<=lo)&&(decide (lo<=hi)&&decide (hi<65536)))=false:=by simp;omega
  rw[zO zIv (by simp)];simp -implicitDefEqProofs (maxSteps:=4000000) (disch:=omega) only[zuT,zCp,e,zj,go_sem, *]
theorem zQM{s:zu}(hr:zaX s.ready=0)(h1:s.leases.l.length<=12):(za9 s).length<=24:=by
 obtain⟨a1,a2,a3,a4,a5,a6⟩:=zc8 hr;simp only[za9,zac6,zadd,zhv];omega
theorem znE{s:zu}(hr:zaX s.ready=0)(ht:zaA s.leases=0):zaf s=if s.live=false then (if s.low≠0\/s.high≠0\/0<s.ready.size+s.leases.l.length then 7 else 0)
 else if ¬(0<=s.low/\s.low<=s.high/\s.high<65536) then 1
 else if s.ready.cells.length<s.ready.size+s.leases.l.length then 3
 else if zgO s.low s.high (za9 s)=true then 12
 else if zea ((za9 s).map (·.id))=true then 10 else 0:=by
 unfold zaf;rw[zacX (fun hc=>hc hr),zacX (fun hc=>hc ht)];rfl
def m7S(s:zu)(l:List zl)(i:Nat):St:=⟨[(1,.ref 1 0 0),(6,.d (.sl (l.map zn))),(7,.d (.int .i64 i))],[(1,.row [.d (zk s)])]⟩
def m7R(s:zu)(l:List zl)(i:Nat):zac×St:=if zgO s.low s.high (l.drop i)=true then (.ret,⟨[(2,.d (.int .i64 12))],[]⟩) else (.exit 0,⟨[(6,.d (.sl (l.map zn)))],[]⟩)
theorem z0m(s:zu)(l:List zl)(h1:l.length<=24):∀i,i<=l.length->zai G [] zsG (m7S s l i)=some (m7R s l i):=by
 refine za3 (fun i=>l.length - i) (fun i=>i<=l.length) (m7S s l) (fun i=>some (m7R s l i)) fun i hi L ih=> ?_
 by_cases h0:i<l.length
 ·have i1:=ih (i+1) zo zo;clear ih;unfold m7R at i1 ⊢;rw[z0N _ _ h0];unfold m7S at i1;generalize zgO s.low s.high (l.drop (i+1))=fe at *;simp only[m7S,zk,zsG] at i1 ⊢;simp only[zNr,zE] at i1
  by_cases hv:s.low<=l[i].route/\l[i].route<=s.high
  ·simp only[hv,zac9,zaem,decide_false,zaej];simp -implicitDefEqProofs (maxSteps:=4000000) (disch:=omega) only[zn,zj,go_sem, *]
  ·simp only[hv,zadw,decide_true,zaeW,if_true];clear i1
   (try simp -implicitDefEqProofs (maxSteps:=4000000) (disch:=omega) only[zn,zj,go_sem, *]);(try simp only[zPr]);repeat' (first|done|rfl|((first|refine zay (fun hq=> ?_) (fun hq=> ?_)|refine zaD (fun hq=> ?_) (fun hq=> ?_))<;>(try (first|(exfalso;omega)|contradiction))<;>(try simp -implicitDefEqProofs (maxSteps:=4000000) (disch:=omega) only[zn,zj,go_sem, *])<;>(try simp only[zPr])));(all_goals try rfl);(all_goals try (repeat' (first|done|rfl|(exfalso;omega)|contradiction|(refine zaz (fun hq=> ?_) (fun hq=> ?_)))))
 ·clear ih;have:i=l.length:=by omega
  subst this;unfold m7R;rw[zadI];simp only[m7S,zgO,List.any_nil,zac8,if_false,zsG,zk];exact zS
def d7S(l:List zl)(i:Nat):St:=⟨[(6,.d (.sl (l.map zn))),(8,.d (.int .i64 i))],[]⟩
def d7R(l:List zl)(i:Nat):zac×St:=if zfh l i=true then (.ret,⟨[(2,.d (.int .i64 10))],[]⟩) else (.exit 2,⟨[],[]⟩)
theorem zU0(l:List zl)(h1:l.length<=24):∀i,i<=l.length->zai G [] zsH (d7S l i)=some (d7R l i):=by
 refine za3 (fun i=>l.length - i) (fun i=>i<=l.length) (d7S l) (fun i=>some (d7R l i)) fun i hi L ih=> ?_
 by_cases h0:i<l.length
 ·have i1:=ih (i+1) zo zo;clear ih;have hx:=zjf l l[i].id zo;unfold d7R at i1 ⊢;rw[zBd _ h0];unfold d7S at i1;generalize zfh l (i+1)=fe at *;simp only[d7S,zsH];simp only[zNr,zE] at i1;generalize zaV l l[i].id=q at *
  by_cases hv:q=i
  ·subst hv;simp only[ne_eq,zac9,decide_false,zaej];simp -implicitDefEqProofs (maxSteps:=4000000) (disch:=omega) only[zn,zj,go_sem, *]
  ·simp only[ne_eq,hv,zadw,decide_true,zaeW,if_true];clear i1;simp -implicitDefEqProofs (maxSteps:=4000000) (disch:=omega) only[zn,zj,go_sem, *]
 ·clear ih;unfold d7R;rw[zBc _ h0];simp only[d7S,zsH,zac8,if_false];exact zS
theorem znk(s:zu)(h1:s.ready.cells.length<=4294967296)(h2:s.leases.l.length<=4294967296)(h3:s.leases.heap.length<=4294967296):zg G zo2 [.d (zk s)] []=some (.d (.int .i64 (zaf s)),[]):=by
 have hv:=zk6 s.ready h1;have ht:=zk7 s.leases h2 h3;rw[zlt] at ht
 by_cases e1:zaX s.ready=0
 ·by_cases e2:zaA s.leases=0
  ·rw[znE e1 e2];rw[e1] at hv;rw[e2] at ht;have hl:=zQ7 e2;obtain⟨a1,a2,a3,a4,a5,a6⟩:=zc8 e1;have hsp:=zQS s.low s.high;have hm:=zjV e1 hl;have hml:=zQM e1 hl;have hlp:=z0m s (za9 s) hml 0 zo;have hdp:=zU0 (za9 s) hml 0 zo;unfold m7R at hlp;unfold d7R at hdp;rw[zBb] at hdp;simp only[m7S,zadu] at hlp;simp only[d7S] at hdp;generalize zgO s.low s.high (za9 s)=b1 at *;generalize zea ((za9 s).map (·.id))=b2 at *;generalize za9 s=w at *;clear e1 e2;obtain⟨lv,lo,hi,⟨c,h,z⟩,⟨tl,th⟩⟩:=s;simp only[zk,zau,zaJ] at hv ht hsp hm hlp a1 a2 a3 a4 a5 a6 hl h1 h2 h3 ⊢;simp only[zNr,zE] at hlp hdp
   cases lv with
   | false=>
    simp only[if_true]
    by_cases c1:lo≠0\/hi≠0\/0<z+tl.length
    ·rw[zacY c1];exact zW zhe
    ·rw[zacX c1];exact zW zhe
   | true=>
    simp only[zadA,if_false]
    by_cases c1:0<=lo/\lo<=hi/\hi<65536
    ·rw[zadn c1] at hsp;rw[zacX (fun hc=>hc c1)]
     by_cases c2:(c.length:Int)<z+tl.length
     ·rw[zacY c2];exact zW zhe
     ·rw[zacX c2]
      cases b1
      ·cases b2
       ·simp only[zac8,if_false] at hlp hdp ⊢;exact zW zhe
       ·simp only[zac8,if_false,if_true] at hlp hdp ⊢;exact zW zhe
      ·simp only[if_true] at hlp ⊢;exact zW zhe
    ·rw[zadq c1] at hsp;rw[zacY c1];exact zW zhe
  ·unfold zaf;rw[zacX (fun hc=>hc e1),zacY e2];rw[e1] at hv;generalize zaA s.leases=v at *;obtain⟨lv,lo,hi,⟨c,h,z⟩,⟨tl,th⟩⟩:=s;simp only[zk,zau,zaJ] at hv ht h1 h2 h3 ⊢;exact zW zhe
 ·unfold zaf;rw[zacY e1];clear ht;generalize zaX s.ready=v at *;obtain⟨lv,lo,hi,⟨c,h,z⟩,⟨tl,th⟩⟩:=s;simp only[zk,zau] at hv h1 h2 h3 ⊢;exact zW zhe
def zbV{α:Type}(p:α->Bool)(l:List α)(i:Nat):Nat:=((l.take i).filter p).length
theorem zvf{α:Type}(p:α->Bool){l:List α}{i:Nat}(h:i<l.length):zbV p l (i+1)=zbV p l i+(if p l[i]=true then 1 else 0):=by
 unfold zbV;rw[zafw,zada h,zafW,zac6]
 congr 1
 simp only[Option.toList,zaen]
 split<;>rfl
theorem zve{α:Type}(p:α->Bool)(l:List α)(i:Nat):zbV p l i<=i:=zadL (zaeh _ _) (by simp;omega)
def rdQ(ep lim:Int)(m:zl):Bool:=decide (¬m.epoch<ep)&&decide (¬lim<=m.count)
def lsQ(ep:Int)(x:zN):Bool:=decide (¬x.msg.epoch<ep)
def zal(s:zu):Int:=if zaf s≠0 then zaf s else if s.live=true then 0 else 7
theorem zfi(s:zu)(h1:s.ready.cells.length<=4294967296)(h2:s.leases.l.length<=4294967296)(h3:s.leases.heap.length<=4294967296):zg G zoU [.d (zk s)] []=some (.d (.int .i64 (zal s)),[]):=by
 have hv:=znk s h1 h2 h3;unfold zal;generalize zaf s=v at *;obtain⟨lv,lo,hi,⟨c,h,z⟩,⟨tl,th⟩⟩:=s;simp only[zk] at hv ⊢
 by_cases e:v=0
 ·subst e
  cases lv
  ·exact zW zzA
  ·exact zW zzA
 ·rw[zacY e];exact zW zzA
theorem ziw(m:zl)(ep:Int):zg G zlG [.d (zn m),.d (.int .i64 ep)] []=some (.d (.bool (decide (m.epoch<ep))),[]):=by
 simp only[zn];exact zW zIi
theorem ztR(m:zl)(lim:Int):zg G zoj [.d (zn m),.d (.int .i64 lim)] []=some (.d (.bool (decide (lim<=m.count))),[]):=by
 simp only[zn];exact zW zXu
def mQ(ep:Int)(m:zl):Bool:=decide (¬m.epoch<ep)
theorem zTy(ep:Int)(l:List zN)(i:Nat):zbV (mQ ep) (l.map (·.msg)) i=zbV (lsQ ep) l i:=by
 unfold zbV;rw[<- zaeH,List.filter_map,zadd];rfl
theorem zHH(n:Int):zg G zlP [.d (.int .i64 n)] []=some (.d (.bool (decide (0<=n/\n<=65536))),[]):=by
 by_cases h:0<=n/\n<=65536
 ·rw[zadn h];exact zW zIt
 ·rw[zadq h];have e:(decide (0<=n)&&decide (n<=65536))=false:=by simp;omega
  rw[zO zIt (by simp)];simp -implicitDefEqProofs (maxSteps:=4000000) (disch:=omega) only[zuR,zCn,e,zj,go_sem, *]
theorem zMg(n:Int):zg G zlQ [.d (.int .i64 n)] []=some (.d (.bool (decide (1<=n/\n<=8))),[]):=by
 by_cases h:1<=n/\n<=8
 ·rw[zadn h];exact zW zIu
 ·rw[zadq h];have e:(decide (1<=n)&&decide (n<=8))=false:=by simp;omega
  rw[zO zIu (by simp)];simp -implicitDefEqProofs (maxSteps:=4000000) (disch:=omega) only[zuS,zCo,e,zj,go_sem, *]
def k0S(l w:List zl)(ep lim:Int)(i:Nat):St:=⟨[(1,.d (.int .i64 ep)),(2,.d (.int .i64 lim)),(8,.d (.int .i64 (zbV (rdQ ep lim) l i))),(9,.d (.int .i64 0)),(10,.d (.sl (l.map zn))),(11,.d (.sl (w.map zn))),(12,.d (.int .i64 i))],[]⟩
theorem zZl(l w:List zl)(ep lim:Int)(h1:l.length<=24):∀i,i<=l.length->zai G [] zsB (k0S l w ep lim i)=some (.exit 0,⟨[(1,.d (.int .i64 ep)),(8,.d (.int .i64 (zbV (rdQ ep lim) l l.length))),(9,.d (.int .i64 0)),(11,.d (.sl (w.map zn)))],[]⟩):=by
 refine za3 (fun i=>l.length - i) (fun i=>i<=l.length) (k0S l w ep lim) _ fun i hi L ih=> ?_
 by_cases h0:i<l.length
 ·have i1:=ih (i+1) zo zo;clear ih;have hp:=ziw l[i] ep;have hs:=ztR l[i] lim;have hle:=zve (rdQ ep lim) l i;generalize zbV (rdQ ep lim) l l.length=z at *;rw[k0S,zvf _ h0] at i1;simp only[k0S,zsB];generalize zbV (rdQ ep lim) l i=n at *;generalize w.map zn=ww at *;simp only[zn] at hp hs;unfold rdQ at i1
  by_cases c1:l[i].epoch<ep
  ·simp only[c1,zac9,decide_true,decide_false,zadO,zac8,if_false,zaek] at i1 hp;simp only[zNr,zE] at i1;simp -implicitDefEqProofs (maxSteps:=4000000) (disch:=omega) only[zn,zj,go_sem, *]
  ·by_cases c2:lim<=l[i].count
   ·simp only[c1,c2,zac9,zadw,decide_true,decide_false,zael,zac8,if_false,zaek] at i1 hp hs;simp only[zNr,zE] at i1;simp -implicitDefEqProofs (maxSteps:=4000000) (disch:=omega) only[zn,zj,go_sem, *]
   ·simp only[c1,c2,zadw,decide_true,decide_false,zaei,if_true] at i1 hp hs;simp only[zNr,zE] at i1;simp -implicitDefEqProofs (maxSteps:=4000000) (disch:=omega) only[zn,zj,go_sem, *]
 ·clear ih;have:i=l.length:=by omega
  subst this;simp only[k0S,zsB];exact zS
def k1S(w:List zl)(ep n:Int)(i:Nat):St:=⟨[(1,.d (.int .i64 ep)),(8,.d (.int .i64 n)),(9,.d (.int .i64 (zbV (mQ ep) w i))),(11,.d (.sl (w.map zn))),(13,.d (.int .i64 i))],[]⟩
theorem zZo(w:List zl)(ep n:Int)(h1:w.length<=24):∀i,i<=w.length->zai G [] zsC (k1S w ep n i)=some (.exit 2,⟨[(8,.d (.int .i64 n)),(9,.d (.int .i64 (zbV (mQ ep) w w.length)))],[]⟩):=by
 refine za3 (fun i=>w.length - i) (fun i=>i<=w.length) (k1S w ep n) _ fun i hi L ih=> ?_
 by_cases h0:i<w.length
 ·have i1:=ih (i+1) zo zo;clear ih;have hp:=ziw w[i] ep;have hle:=zve (mQ ep) w i;generalize zbV (mQ ep) w w.length=z at *;rw[k1S,zvf _ h0] at i1;simp only[k1S,zsC];generalize zbV (mQ ep) w i=q at *;simp only[zn] at hp;unfold mQ at i1
  by_cases c1:w[i].epoch<ep
  ·simp only[c1,zac9,decide_true,decide_false,zac8,if_false,zaek] at i1 hp;simp only[zNr,zE] at i1;simp -implicitDefEqProofs (maxSteps:=4000000) (disch:=omega) only[zn,zj,go_sem, *]
  ·simp only[c1,zadw,decide_true,decide_false,if_true] at i1 hp;simp only[zNr,zE] at i1;simp -implicitDefEqProofs (maxSteps:=4000000) (disch:=omega) only[zn,zj,go_sem, *]
 ·clear ih;have:i=w.length:=by omega
  subst this;simp only[k1S,zsC];exact zS
def zi0(s:zu)(ep lim:Int):Int×Int:=
 if zal s=0/\(0<=ep/\ep<=65536)/\1<=lim/\lim<=8 then ((zbV (rdQ ep lim) (zI s.ready) (zI s.ready).length:Nat),(zbV (lsQ ep) s.leases.l s.leases.l.length:Nat)) else (0,0)
theorem zZ3{s:zu}(h:zal s=0):zaX s.ready=0/\zaA s.leases=0:=by
 have h0:zaf s=0:=Classical.byContradiction fun hc=>by unfold zal at h;rw[zacY hc] at h;exact hc h
 by_cases e1:zaX s.ready=0
 ·refine⟨e1,Classical.byContradiction fun e2=> ?_⟩;unfold zaf at h0;rw[zacX (fun hc=>hc e1),zacY e2] at h0;exact e2 h0
 ·unfold zaf at h0;rw[zacY e1] at h0;exact absurd h0 e1
theorem zTQ(s:zu)(ep lim:Int)(h1:s.ready.cells.length<=4294967296)(h2:s.leases.l.length<=4294967296)(h3:s.leases.heap.length<=4294967296):zg G zoN [.d (zk s),.d (.int .i64 ep),.d (.int .i64 lim)] []=some (.d (.tup [.int .i64 (zi0 s ep lim).1,.int .i64 (zi0 s ep lim).2]),[]):=by
 have he:=zHH ep;have hli:=zMg lim;have hu:=zfi s h1 h2 h3
 by_cases c:zal s=0/\(0<=ep/\ep<=65536)/\1<=lim/\lim<=8
 ·unfold zi0;rw[zacY c];obtain⟨c0,c1,c2⟩:=c;rw[zadn c1] at he;rw[zadn c2] at hli;rw[c0] at hu;obtain⟨e1,e2⟩:=zZ3 c0;have hl:=zQ7 e2;have hb:(zI s.ready).length<=24:=by
   rw[zhv];obtain⟨a1,a2,a3,a4,a5,a6⟩:=zc8 e1;omega
  have hr:=zjA e1;have hle:=zsT hl;have hl0:=zZl (zI s.ready) (s.leases.l.map (·.msg)) ep lim hb 0 zo;generalize hn:zbV (rdQ ep lim) (zI s.ready) (zI s.ready).length=n at *;have hl1:=zZo (s.leases.l.map (·.msg)) ep n (by simp;omega) 0 zo;rw[zTy ep s.leases.l,zadd] at hl1;simp only[k0S,zbV,zadQ,zaeF,zac5] at hl0;simp only[k1S,zbV,zadQ,zaeF,zac5] at hl1;clear hn c0 e1 e2;generalize zI s.ready=w at *;generalize s.leases.l.map (·.msg)=w2 at *;simp only[zbV];obtain⟨lv,lo,hi,⟨cs,h,z⟩,⟨tl,th⟩⟩:=s;simp only[zk] at hu hr hle hl0 hl1 hl h1 h2 h3 ⊢;simp only[zNr,zE] at hl0 hl1;exact zW zrP
 ·unfold zi0;rw[zacX c]
  by_cases c0:zal s=0
  ·rw[c0] at hu
   by_cases c1:0<=ep/\ep<=65536
   ·rw[zadn c1] at he;rw[zadq (fun hc=>c ⟨c0,c1,hc⟩)] at hli;clear c c0;simp only[zk] at hu ⊢;exact zW zrP
   ·rw[zadq c1] at he;clear c c0;simp only[zk] at hu ⊢;exact zW zrP
  ·clear c;generalize zal s=v at *;simp only[zk] at hu ⊢;exact zW zrP
def zck(n:Int):Prop:=0<=n/\n<=1099511627776
instance (n:Int):Decidable (zck n):=by unfold zck;exact inferInstance
theorem zvi(n:Int):zg G zpp [.d (.int .i64 n)] []=some (.d (.bool (decide (zck n))),[]):=by
 by_cases h:zck n
 ·rw[zadn h];unfold zck at h;exact zW zIA
 ·rw[zadq h];unfold zck at h;have e:(decide (0<=n)&&decide (n<=1099511627776))=false:=by simp;omega
  rw[zO zIA (by simp)];simp -implicitDefEqProofs (maxSteps:=4000000) (disch:=omega) only[zuW,zCr,e,zj,go_sem, *]
def zhO(s:zbl):zbl×Int:=if ¬zck s.seq then (zco,1) else if s.seq.tmod 2=1 then (zco,7) else if 1099511627774<s.seq then (zco,6) else (⟨s.seq+1,s.epoch,s.ready,s.leased⟩,0)
theorem zSQ(s:zbl):zg G zpl [.d (zae s)] []=some (.d (.tup [zae (zhO s).1,.int .i64 (zhO s).2]),[]):=by
 unfold zhO
 by_cases h:zck s.seq
 ·rw[zacX (fun hc=>hc h)];unfold zck at h
  by_cases h1:s.seq.tmod 2=1
  ·simp only[h1,if_true,zae,zco];exact zW zrW
  ·simp only[h1,if_false]
   by_cases h2:1099511627774<s.seq
   ·simp only[h2,if_true,zae,zco];exact zW zrW
   ·simp only[h2,if_false,zae];exact zW zrW
 ·rw[zacY h];unfold zck at h;simp only[zae,zco];exact zW zrW
def zi4(s:zbl)(x:zu)(ep lim:Int):zbl×Int:=if ¬zck s.seq then (zco,1) else if s.seq.tmod 2=0 then (zco,7) else if zaf x≠0 then (zco,zaf x) else if ¬(0<=ep/\ep<=65536/\1<=lim/\lim<=8) then (zco,1) else (⟨s.seq+1,ep,(zi0 x ep lim).1,(zi0 x ep lim).2⟩,0)
theorem zVD(s:zbl)(x:zu)(ep lim:Int)(h1:x.ready.cells.length<=4294967296)(h2:x.leases.l.length<=4294967296)(h3:x.leases.heap.length<=4294967296):zg G zlR [.d (zae s),.d (zk x),.d (.int .i64 ep),.d (.int .i64 lim)] []=some (.d (.tup [zae (zi4 s x ep lim).1,.int .i64 (zi4 s x ep lim).2]),[]):=by
 have hv:=znk x h1 h2 h3;have hc:=zTQ x ep lim h1 h2 h3;unfold zi4;generalize zi0 x ep lim=cc at *;obtain⟨cc1,cc2⟩:=cc;generalize zaf x=v at *
 by_cases h:zck s.seq
 ·rw[zacX (fun hc=>hc h)];unfold zck at h
  by_cases e1:s.seq.tmod 2=0
  ·simp only[e1,if_true,zae,zco,zk];exact zW zmx
  ·simp only[e1,if_false]
   by_cases e2:v=0
   ·subst e2;simp only[ne_eq,zac9,if_false]
    by_cases e3:0<=ep/\ep<=65536/\1<=lim/\lim<=8
    ·rw[zacX (fun hc=>hc e3)];simp only[zae,zk] at hv hc ⊢;exact zW zmx
    ·rw[zacY e3];simp only[zae,zco,zk] at hv ⊢;clear hc;exact zW zmx
   ·simp only[ne_eq,e2,zadw,if_true,zae,zco,zk] at hv ⊢;clear hc;exact zW zmx
 ·rw[zacY h];unfold zck at h;clear hc hv;simp only[zae,zco,zk];exact zW zmx
def zC6(ep:Int)(p:Int×Int)(s:zbl):Int×Int:=if s.epoch=ep/\zck s.seq/\zck s.ready/\zck s.leased then (IntKind.i64.wrap (p.1+s.ready),IntKind.i64.wrap (p.2+s.leased)) else p
def zeo(l:List zbl)(ep:Int)(i:Nat):Int×Int:=(l.take i).foldl (zC6 ep) (0,0)
theorem zabx{l:List zbl}(ep:Int){i:Nat}(h:i<l.length):zeo l ep (i+1)=zC6 ep (zeo l ep i) l[i]:=by
 unfold zeo;rw[zafw,zada h,List.foldl_append];rfl
def zll(l:List zbl)(ep:Int)(i:Nat):St:=⟨[(0,.d (.sl (l.map zae))),(1,.d (.int .i64 ep)),(6,.d (.int .i64 (zeo l ep i).1)),(7,.d (.int .i64 (zeo l ep i).2)),(8,.d (.int .i64 i))],[]⟩
theorem z9C(l:List zbl)(ep:Int)(h1:l.length<=4294967296):∀i,i<=l.length->zai G [] zsO (zll l ep i)=some (.exit 0,⟨[(6,.d (.int .i64 (zeo l ep l.length).1)),(7,.d (.int .i64 (zeo l ep l.length).2))],[]⟩):=by
 refine za3 (fun i=>l.length - i) (fun i=>i<=l.length) (zll l ep) _ fun i hi L ih=> ?_
 by_cases h0:i<l.length
 ·have i1:=ih (i+1) zo zo;clear ih;have n1:=zvi l[i].seq;have n2:=zvi l[i].ready;have n3:=zvi l[i].leased;generalize zeo l ep l.length=z at *;rw[zll,zabx ep h0] at i1;simp only[zll,zsO];generalize zeo l ep i=q at *;obtain⟨q1,q2⟩:=q;unfold zC6 at i1
  by_cases c1:l[i].epoch=ep
  ·by_cases c2:zck l[i].seq
   ·by_cases c3:zck l[i].ready
    ·by_cases c4:zck l[i].leased
     ·simp only[c1,c2,c3,c4,zaem,if_true,decide_true] at i1 n1 n2 n3;simp only[zNr,zE] at i1;simp -implicitDefEqProofs (maxSteps:=4000000) (disch:=omega) only[zae,c1,zj,go_sem, *]
     ·simp only[c1,c2,c3,c4,zae2,zaem,if_false,decide_true,decide_false] at i1 n1 n2 n3;simp only[zNr,zE] at i1;simp -implicitDefEqProofs (maxSteps:=4000000) (disch:=omega) only[zae,c1,zj,go_sem, *]
    ·simp only[c1,c2,c3,zae2,zadX,zaem,if_false,decide_true,decide_false] at i1 n1 n2;simp only[zNr,zE] at i1;simp -implicitDefEqProofs (maxSteps:=4000000) (disch:=omega) only[zae,c1,zj,go_sem, *]
   ·simp only[c1,c2,zae2,zadX,zaem,if_false,decide_true,decide_false] at i1 n1;simp only[zNr,zE] at i1;simp -implicitDefEqProofs (maxSteps:=4000000) (disch:=omega) only[zae,c1,zj,go_sem, *]
  ·simp only[c1,zadX,if_false] at i1;simp only[zNr,zE] at i1;simp -implicitDefEqProofs (maxSteps:=4000000) (disch:=omega) only[zae,zj,go_sem, *]
 ·clear ih;have:i=l.length:=by omega
  subst this;simp only[zll,zsO];exact zS
theorem zabw(l:List zbl)(ep:Int)(h1:l.length<=4294967296):zg G zpo [.d (.sl (l.map zae)),.d (.int .i64 ep)] []=some (.d (.tup [.int .i64 (zeo l ep l.length).1,.int .i64 (zeo l ep l.length).2]),[]):=by
 have hl:=z9C l ep h1 0 zo;generalize zeo l ep l.length=z at *;simp only[zll,zeo,zadQ,List.foldl_nil,zado] at hl;exact zW zXI
def zis(s:zbl):Bool:=decide (¬s.seq.tmod 2=0)
theorem z78(l:List zbl)(h1:l.length<=4294967296):zg G zpm [.d (.sl (l.map zae))] []=some (.d (.bool (!l.any zis)),[]):=by
 have:=zjo (G:=G) (x:=zA3) (ks:=[]) l.length (atB l zis) (fun k=>⟨[(0,.d (.sl (l.map zae))),(3,.d (.int .i64 k))],[]⟩) (fun k=>(.ret,⟨[(2,.d (.bool false))],[]⟩)) (.exit 0,⟨[],[]⟩) (fun k hk L=>by
  simp only[zA3]
  by_cases h0:k<l.length
  ·rw[zacY h0];simp only[zg5 h0];unfold zis
   by_cases h1:l[k].seq.tmod 2=0
   ·simp only[h1,zac9,decide_false,zac8,if_false];simp -implicitDefEqProofs (maxSteps:=4000000) (disch:=omega) only[zae,h1,zj,go_sem, *]
   ·simp only[h1,zadw,decide_true,if_true];simp -implicitDefEqProofs (maxSteps:=4000000) (disch:=omega) only[zae,zj,go_sem, *]
  ·rw[zacX h0];exact zS)
 rw[zkl] at this;simp only[zNr,zE] at this
 cases h:l.findIdx? zis with
 | none=>
  have e:l.any zis=false:=zaee.2 fun x hx=>by simpa using zae6.1 h x hx
  rw[h] at this;rw[e];exact zW zIz
 | some i=>
  obtain⟨hi,e,_⟩:=zad6.1 h;have e:l.any zis=true:=zadY.2 ⟨_,zadf hi,e⟩;rw[h] at this;rw[e];exact zW zIz
theorem zabe{a b:zbl}(h:¬(¬a.seq=b.seq\/¬a.epoch=b.epoch\/¬a.ready=b.ready\/¬a.leased=b.leased)):a=b:=by
 simp only[not_or,zadh] at h;obtain⟨h1,h2,h3,h4⟩:=h
 cases a;cases b
 simp only at h1 h2 h3 h4;subst h1 h2 h3 h4;rfl
def ziF(a b:List zbl)(i:Nat):Bool:=decide (a.drop i=b.drop i)
theorem z99{a b:List zbl}{i:Nat}(h0:i<a.length)(h3:i<b.length):ziF a b i=(decide (a[i]=b[i])&&ziF a b (i+1)):=by
 unfold ziF;apply zaef.2;simp only[zac7,decide_eq_true_eq];rw[zady h0,zady h3,List.cons.injEq]
theorem z98{a b:List zbl}{i:Nat}(h0:a.length<=i)(h3:b.length<=i):ziF a b i=true:=by
 unfold ziF;rw[zafS h0,zafS h3];rfl
def eqR(a b:List zbl)(i:Nat):zac×St:=if ziF a b i=true then (.exit 0,⟨[],[]⟩) else (.ret,⟨[(4,.d (.bool false))],[]⟩)
def sqS(a b:List zbl)(i:Nat):St:=⟨[(0,.d (.sl (a.map zae))),(1,.d (.sl (b.map zae))),(5,.d (.int .i64 i))],[]⟩
theorem zaa7(a b:List zbl)(h1:a.length<=4294967296)(h2:b.length=a.length):∀i,i<=a.length->zai G [] zsN (sqS a b i)=some (eqR a b i):=by
 refine za3 (fun i=>a.length - i) (fun i=>i<=a.length) (sqS a b) (fun i=>some (eqR a b i)) fun i hi L ih=> ?_
 by_cases h0:i<a.length
 ·have i1:=ih (i+1) zo zo;clear ih;have h3:i<b.length:=by omega
  unfold eqR at i1 ⊢;rw[z99 h0 h3];generalize ziF a b (i+1)=bd at *;simp only[sqS] at i1;simp only[zNr,zE] at i1;simp only[sqS,zsN]
  by_cases hm:a[i]=b[i]
  ·simp only[hm,decide_true,zaed]
   (try simp -implicitDefEqProofs (maxSteps:=4000000) (disch:=omega) only[hm,zae,zj,go_sem, *]);(try simp only[zPr]);repeat' (first|done|rfl|((first|refine zay (fun hq=> ?_) (fun hq=> ?_)|refine zaD (fun hq=> ?_) (fun hq=> ?_))<;>(try (first|(exfalso;omega)|contradiction))<;>(try simp -implicitDefEqProofs (maxSteps:=4000000) (disch:=omega) only[hm,zae,zj,go_sem, *])<;>(try simp only[zPr])));(all_goals try rfl);(all_goals try (repeat' (first|done|rfl|(exfalso;omega)|contradiction|(refine zaz (fun hq=> ?_) (fun hq=> ?_)))))
  ·simp only[hm,decide_false,zadO,zac8,if_false]
   (try simp -implicitDefEqProofs (maxSteps:=4000000) (disch:=omega) only[zae,zj,go_sem, *]);(try simp only[zPr]);repeat' (first|done|rfl|((first|refine zay (fun hq=> ?_) (fun hq=> ?_)|refine zaD (fun hq=> ?_) (fun hq=> ?_))<;>(try (first|(exfalso;omega)|contradiction))<;>(try simp -implicitDefEqProofs (maxSteps:=4000000) (disch:=omega) only[zae,zj,go_sem, *])<;>(try simp only[zPr])));(all_goals try rfl);(all_goals try (repeat' (first|done|rfl|(exfalso;omega)|contradiction|(refine zaz (fun hq=> ?_) (fun hq=> ?_)))))
   exact absurd (zabe (by assumption)) hm
 ·clear ih;unfold eqR;rw[z98 zo zo];simp only[sqS,zsN,if_true];exact zS
theorem z97(a b:List zbl)(h1:a.length<=4294967296)(h2:b.length<=4294967296):zg G zpn [.d (.sl (a.map zae)),.d (.sl (b.map zae))] []=some (.d (.bool (decide (a=b))),[]):=by
 by_cases h:b.length=a.length
 ·have hl:=zaa7 a b h1 h 0 zo;unfold eqR at hl;simp only[sqS,zado] at hl;simp only[ziF,zadu] at hl;generalize decide (a=b)=q at *
  cases q
  ·simp only[zac8,if_false] at hl;exact zW zzJ
  ·simp only[if_true] at hl;exact zW zzJ
 ·rw[zadq (fun e=>h (by rw[e]))];exact zW zzJ
end Go.Proofs.YtdnlddoeamjcoaaGreat
