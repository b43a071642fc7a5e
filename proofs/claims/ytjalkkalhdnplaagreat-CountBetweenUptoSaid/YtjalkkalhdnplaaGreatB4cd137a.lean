/-
  The reference's Grant.
-/
import Derived.Test.YtjalkkalhdnplaaGreatBd88cefc
import Derived.Test.YtjalkkalhdnplaaGreatB907f86f
import Derived.Test.YtjalkkalhdnplaaGreatBbac9897
set_option linter.unusedSimpArgs false
set_option linter.unusedVariables false
set_option maxHeartbeats 10000000
set_option maxRecDepth 100000
namespace Go.Sim
def zbV{α:Type}(φ:α->Prop)(r:α):Prop:=φ r
theorem zbd{α:Type}{φ:α->Prop}{c:Prop}[Decidable c]{A B:α}(h1:c->zbV φ A)(h2:¬c->zbV φ B):zbV φ (if c then A else B):=by split<;>simp_all
theorem zbV.some{α:Type}{φ:Option α->Prop}{r:Option α}{a:α}(h:φ (some a))(e:r=some a):zbV φ r:=by rw[e];exact h
theorem zQe{cs:List D}{k:Nat}{k':IntKind}{v:Int}(h:k<cs.length)(h1:cs.length≠1):zc7 (.d (.agg cs)) k (.d (.int k' v))=some (.d (.agg (cs.set k (.int k' v)))):=by
 unfold zc7;rw[zWy (by simp [AV.size,D.size,D.cells];omega),zWz (by simp [AV.size,D.size,D.cells];omega)];have:zd6 (AV.cells (.d (.agg cs))) k (AV.cells (.d (.int k' v)))=(cs.set k (.int k' v)).map .d:=by
  simp only[AV.cells,D.cells,zWD,zWA];rw[zd6,zXy,zZY,zWz (by simpa using h)];simp
 rw[this,AV.mkAgg,zlc]
attribute [go_sem] Nat.mul_one
end Go.Sim

namespace Go.Proofs.YtjalkkalhdnplaaGreat
open Go Go.Sim
theorem zs1:∀(l:List Span) (n m:Int),0<=n->zdR n l=some m->∀x∈l,0<=x.low/\x.low<=x.high/\x.high<65536
 | [],_,_,_,_,x,hx=>by cases hx
 | y::l,n,m,h0,h,x,hx=>by
  rw[zdR] at h
  split at h
  ·rename_i hc
   cases hx with
   | head=>omega
   | tail _ hx=>exact zs1 l _ m zo h x hx
  ·cases h
theorem zqd{d:zal}(h:zbz d=0):zdR 0 d.l=some 65536:=by
 unfold zbz at h
 split at h
 ·cases h
 split at h
 ·cases h
 rename_i hc;simpa using hc
def zsK(d:zal)(e:zeI):zal×Int:=
 if zaX d.l e.from_<0\/0<=zaX d.l e.to then (zeH,7)
 else if e.mid<(d.l.getD (zaX d.l e.from_).toNat zcX).low\/(d.l.getD (zaX d.l e.from_).toNat zcX).high<=e.mid then (zeH,1)
 else (⟨d.version+1,d.l.take (zaX d.l e.from_).toNat++[⟨(d.l.getD (zaX d.l e.from_).toNat zcX).low,e.mid,e.from_⟩,⟨e.mid+1,(d.l.getD (zaX d.l e.from_).toNat zcX).high,e.to⟩]++d.l.drop ((zaX d.l e.from_).toNat+1),d.forward.set e.to.toNat (-1)⟩,0)
def zrQ(d:zal)(e:zeI):zal×Int:=
 if zaX d.l e.from_<0\/zaX d.l e.to<0\/(¬zaX d.l e.from_ - zaX d.l e.to=1/\¬zaX d.l e.to - zaX d.l e.from_=1) then (zeH,7)
 else (⟨d.version+1,d.l.take (min (zaX d.l e.from_) (zaX d.l e.to)).toNat++[⟨(d.l.getD (min (zaX d.l e.from_) (zaX d.l e.to)).toNat zcX).low,(d.l.getD ((min (zaX d.l e.from_) (zaX d.l e.to)).toNat+1) zcX).high,e.to⟩]++d.l.drop ((min (zaX d.l e.from_) (zaX d.l e.to)).toNat+2),d.forward.set e.from_.toNat e.to⟩,0)
def zcZ(d:zal)(e:zeI):zal×Int:=
 if zbz d≠0 then (zeH,zbz d)
 else if d.version=1099511627776 then (zeH,6)
 else if ¬e.kind=1/\¬e.kind=2 then (zeH,9)
 else if e.from_<0\/(d.forward.length:Int)<=e.from_\/e.to<0\/(d.forward.length:Int)<=e.to then (zeH,4)
 else if e.kind=1 then zsK d e else zrQ d e
theorem zRg(d:zal)(e:zeI)(hL:d.l.length<=1000000):zh G 316 [.d (zat d),.d (zgd e)] []=some (.d (.tup [zat (zcZ d e).1,.int .i64 (zcZ d e).2]),[]):=by
 have hval:=zkJ d zo;have i1:=zkI d e.from_ zo;have i2:=zkI d e.to zo;have b1:=znP d.l (fun x=>decide (x.shard=e.from_));have b2:=znP d.l (fun x=>decide (x.shard=e.to));change -1<=zaX d.l e.from_/\zaX d.l e.from_<d.l.length at b1;change -1<=zaX d.l e.to/\zaX d.l e.to<d.l.length at b2;unfold zcZ
 by_cases c0:zbz d=0
 ·have hl:=ziP c0;rw[c0] at hval;rw[zWy (by rw[c0];simp)];have htl:=zs1 d.l 0 65536 zo (zqd c0);clear c0
  by_cases c1:d.version=1099511627776
  ·rw[zWz c1];exact zW
  rw[zWy c1]
  by_cases c2:¬e.kind=1/\¬e.kind=2
  ·rw[zWz c2];obtain⟨c2,c3⟩:=c2;exact zW
  rw[zWy c2]
  by_cases c3:e.from_<0\/(d.forward.length:Int)<=e.from_\/e.to<0\/(d.forward.length:Int)<=e.to
  ·rw[zWz c3];have c4:e.kind=1\/e.kind=2:=by omega
   clear c2
   rcases c4 with c4|c4
   ·exact zW
   ·exact zW
  rw[zWy c3];unfold zsK zrQ;generalize zaX d.l e.from_=i at *;generalize zaX d.l e.to=k at *
  by_cases c4:e.kind=1
  ·rw[zWz c4];clear c2
   by_cases c5:i<0\/0<=k
   ·rw[zWz c5];exact zW
   rw[zWy c5];have hlt:i.toNat<d.l.length:=by omega
   obtain⟨iN,hiN⟩:∃n:Nat,i=n:=⟨i.toNat,by omega⟩;subst hiN;simp only[zXb] at hlt ⊢;rw[zq hlt]
   by_cases c6:e.mid<d.l[iN].low\/d.l[iN].high<=e.mid
   ·rw[zWz c6];exact zW
   rw[zWy c6];have hti:=htl d.l[iN] (zWH _);clear htl
   by_cases c7:iN=0
   ·subst c7;rw[zO zj8 (by simp)];simp -implicitDefEqProofs (maxSteps:=4000000) (disch:=omega) only[zhK,zq,go_sem, *];(try simp only[zPr]);repeat' (first|done|rfl|((first|refine za5 (fun hq=> ?_) (fun hq=> ?_)|refine zbd (fun hq=> ?_) (fun hq=> ?_))<;>(try (first|(exfalso;omega)|contradiction))<;>(try simp -implicitDefEqProofs (maxSteps:=4000000) (disch:=omega) only[zq,go_sem, *])<;>(try simp only[zPr])));(all_goals try rfl);(all_goals try (repeat' (first|done|rfl|(exfalso;omega)|contradiction|(refine za6 (fun hq=> ?_) (fun hq=> ?_)))))
    all_goals simp only[zat,zbR,zhq,zWD,zWQ,zWA,zWW,zXv,zW1]
   ·rw[zO zj8 (by simp)];simp -implicitDefEqProofs (maxSteps:=4000000) (disch:=omega) only[zhK,zq,go_sem, *];(try simp only[zPr]);repeat' (first|done|rfl|((first|refine za5 (fun hq=> ?_) (fun hq=> ?_)|refine zbd (fun hq=> ?_) (fun hq=> ?_))<;>(try (first|(exfalso;omega)|contradiction))<;>(try simp -implicitDefEqProofs (maxSteps:=4000000) (disch:=omega) only[zq,go_sem, *])<;>(try simp only[zPr])));(all_goals try rfl);(all_goals try (repeat' (first|done|rfl|(exfalso;omega)|contradiction|(refine za6 (fun hq=> ?_) (fun hq=> ?_)))))
    all_goals simp only[zat,zbR,zhq,zWD,zWQ,zWA,zWW,zXv,zW1,zXq]
  ·rw[zWy c4];have hk2:e.kind=2:=by omega
   clear c2
   by_cases c5:i<0\/k<0\/¬i - k=1/\¬k - i=1
   ·rw[zWz c5];exact zW
   rw[zWy c5];obtain⟨iN,hiN⟩:∃n:Nat,i=n:=⟨i.toNat,by omega⟩;obtain⟨kN,hkN⟩:∃n:Nat,k=n:=⟨k.toNat,by omega⟩;subst hiN hkN;obtain⟨f,hf⟩:∃f:Nat,min (iN:Int) (kN:Int)=f:=⟨(min (iN:Int) (kN:Int)).toNat,by omega⟩;have hlt:f+1<d.l.length:=by omega
   have hti:=htl d.l[f] (zWH _);have hti2:=htl d.l[f+1] (zWH _);clear htl;rw[hf,zXb,zq (show f<d.l.length by omega),zq hlt];have hcase:(iN=f/\kN=f+1)\/(iN=f+1/\kN=f):=by omega
   have e2:((f:Int)+1).toNat=f+1:=by omega
   have e3:((f:Int)+2).toNat=f+2:=by omega
   clear hf
   rcases hcase with ⟨q1,q2⟩|⟨q1,q2⟩
   ·subst q1 q2
    by_cases c7:iN=0
    ·subst c7;rw[zO zj8 (by simp)];simp -implicitDefEqProofs (maxSteps:=4000000) (disch:=omega) only[zhK,e2,e3,zq,go_sem, *];(try simp only[zPr]);repeat' (first|done|rfl|((first|refine za5 (fun hq=> ?_) (fun hq=> ?_)|refine zbd (fun hq=> ?_) (fun hq=> ?_))<;>(try (first|(exfalso;omega)|contradiction))<;>(try simp -implicitDefEqProofs (maxSteps:=4000000) (disch:=omega) only[e2,e3,zq,go_sem, *])<;>(try simp only[zPr])));(all_goals try rfl);(all_goals try (repeat' (first|done|rfl|(exfalso;omega)|contradiction|(refine za6 (fun hq=> ?_) (fun hq=> ?_)))))
     all_goals simp only[zat,zbR,zhq,zWD,zWQ,zWA,zWW,zXv,zW1]
    ·rw[zO zj8 (by simp)];simp -implicitDefEqProofs (maxSteps:=4000000) (disch:=omega) only[zhK,e2,e3,zq,go_sem, *];(try simp only[zPr]);repeat' (first|done|rfl|((first|refine za5 (fun hq=> ?_) (fun hq=> ?_)|refine zbd (fun hq=> ?_) (fun hq=> ?_))<;>(try (first|(exfalso;omega)|contradiction))<;>(try simp -implicitDefEqProofs (maxSteps:=4000000) (disch:=omega) only[e2,e3,zq,go_sem, *])<;>(try simp only[zPr])));(all_goals try rfl);(all_goals try (repeat' (first|done|rfl|(exfalso;omega)|contradiction|(refine za6 (fun hq=> ?_) (fun hq=> ?_)))))
     all_goals simp only[zat,zbR,zhq,zWD,zWQ,zWA,zWW,zXv,zW1,zXq]
   ·subst q1 q2
    by_cases c7:kN=0
    ·subst c7;rw[zO zj8 (by simp)];simp -implicitDefEqProofs (maxSteps:=4000000) (disch:=omega) only[zhK,e2,e3,zq,go_sem, *];(try simp only[zPr]);repeat' (first|done|rfl|((first|refine za5 (fun hq=> ?_) (fun hq=> ?_)|refine zbd (fun hq=> ?_) (fun hq=> ?_))<;>(try (first|(exfalso;omega)|contradiction))<;>(try simp -implicitDefEqProofs (maxSteps:=4000000) (disch:=omega) only[e2,e3,zq,go_sem, *])<;>(try simp only[zPr])));(all_goals try rfl);(all_goals try (repeat' (first|done|rfl|(exfalso;omega)|contradiction|(refine za6 (fun hq=> ?_) (fun hq=> ?_)))))
     all_goals simp only[zat,zbR,zhq,zWD,zWQ,zWA,zWW,zXv,zW1]
    ·rw[zO zj8 (by simp)];simp -implicitDefEqProofs (maxSteps:=4000000) (disch:=omega) only[zhK,e2,e3,zq,go_sem, *];(try simp only[zPr]);repeat' (first|done|rfl|((first|refine za5 (fun hq=> ?_) (fun hq=> ?_)|refine zbd (fun hq=> ?_) (fun hq=> ?_))<;>(try (first|(exfalso;omega)|contradiction))<;>(try simp -implicitDefEqProofs (maxSteps:=4000000) (disch:=omega) only[e2,e3,zq,go_sem, *])<;>(try simp only[zPr])));(all_goals try rfl);(all_goals try (repeat' (first|done|rfl|(exfalso;omega)|contradiction|(refine za6 (fun hq=> ?_) (fun hq=> ?_)))))
     all_goals simp only[zat,zbR,zhq,zWD,zWQ,zWA,zWW,zXv,zW1,zXq]
 ·rw[zWz c0];exact zW
def zei(ids:List Int):Bool:=decide (¬ids.Nodup)
def zch(l:List Message):Int:=match l with
 | []=>0
 | m::l=>if zak m≠0 then zak m else zch l
def zu(r:zR):List Message:=(List.range r.size.toNat).map fun i=>r.cells.getD ((r.head.toNat+i) % r.cells.length) z9
def zgW(r:zR):Prop:=1<=r.cells.length/\r.cells.length<=12/\0<=r.head/\r.head<r.cells.length/\0<=r.size/\r.size<=r.cells.length
instance (r:zR):Decidable (zgW r):=by unfold zgW;exact inferInstance
def zdM(r:zR)(i n:Nat):Bool:=(List.range' i (n - i)).any fun j=>decide (r.cells.getD ((r.head.toNat+j) % r.cells.length) z9≠z9)
def zaI(r:zR):Int:=if ¬zgW r then 1 else if zdM r r.size.toNat r.cells.length=true then 7 else if zch (zu r)≠0 then zch (zu r) else if zei ((zu r).map (·.id))=true then 10 else 0
theorem zSg(r:zR){i n:Nat}(h:i<n):zdM r i n=(decide (r.cells.getD ((r.head.toNat+i) % r.cells.length) z9≠z9)||zdM r (i+1) n):=by
 unfold zdM;rw[show n - i=(n - (i+1))+1 by omega,zYg,zYu]
theorem zSf(r:zR){i n:Nat}(h:¬i<n):zdM r i n=false:=by
 unfold zdM;rw[show n - i=0 by omega];rfl
theorem zyQ{l:List Message}{k:Nat}(h:k<l.length):zch (l.drop k)=if zak l[k]≠0 then zak l[k] else zch (l.drop (k+1)):=by
 rw[zXf h];rfl
def zaF(l:List Message)(id:Int):Int:=zb1 (fun m:Message=>decide (m.id=id)) l
theorem zzv{l:List Message}{k:Nat}(h:k<l.length):zaF l l[k].id=k↔∀j (hj:j<k),l[j].id≠l[k].id:=by
 unfold zaF zb1
 cases hf:l.findIdx? (fun m:Message=>decide (m.id=l[k].id)) with
 | none=>
  have:=zYR.1 hf l[k] (zWH h);simp at this
 | some i=>
  obtain⟨hi,e,hn⟩:=zXP.1 hf;simp only[decide_eq_true_eq] at e hn;constructor
  ·intro e2 j hj;have:i=k:=by simp at e2;omega
   subst this;exact hn j hj
  ·intro ha
   by_cases h1:i<k
   ·exact absurd e (ha i h1)
   ·by_cases h2:k<i
    ·exact absurd rfl (hn k h2)
    ·simp;omega
def zfk(l:List Message)(k:Nat):Bool:=(List.range' k (l.length - k)).any fun i=>decide (zaF l (l.getD i z9).id≠i)
theorem zrz(l:List Message){k:Nat}(h:k<l.length):zfk l k=(decide (zaF l l[k].id≠k)||zfk l (k+1)):=by
 unfold zfk;rw[show l.length - k=(l.length - (k+1))+1 by omega,zYg,zYu,zq h]
theorem zry(l:List Message){k:Nat}(h:¬k<l.length):zfk l k=false:=by
 unfold zfk;rw[show l.length - k=0 by omega];rfl
theorem zrx(l:List Message):zfk l 0=zei (l.map (·.id)):=by
 apply zXm.2;unfold zfk zei;simp only[zX8,zXG,zYH,decide_eq_true_eq,zZn,zXu,zWM,zY4];constructor
 ·rintro⟨i,⟨_,hi⟩,hne⟩ hall;simp only[zW4] at hi;rw[zq hi] at hne;exact hne ((zzv hi).2 fun j hj=>hall j i zo hi hj)
 ·intro hn;refine Classical.byContradiction fun hc=>hn fun i j hi hj hij=> ?_;have:zaF l l[j].id=j:=Classical.byContradiction fun hc2=>hc ⟨j,⟨by omega,by omega⟩,by rw[zq hj];exact hc2⟩;exact (zzv hj).1 this i hij
def zaO(s:Shard):List Message:=zu s.ready++s.leases.l.map (·.msg)
def zOX(s:Shard)(l:List Message):Bool:=l.any fun m=>decide (¬(s.low<=m.route/\m.route<=s.high))
def zsR(s:Shard):Int:=s.ready.size+s.leases.l.length
def zV(s:Shard):Int:=
 if zaI s.ready≠0 then zaI s.ready
 else if zah s.leases≠0 then zah s.leases
 else if s.live=false then (if s.low≠0\/s.high≠0\/0<zsR s then 7 else 0)
 else if ¬(0<=s.low/\s.low<=s.high/\s.high<65536) then 1
 else if s.ready.cells.length<zsR s then 3
 else if zOX s (zaO s)=true then 12
 else if zei ((zaO s).map (·.id))=true then 10 else 0
theorem zgT(r:zR):(zu r).length=r.size.toNat:=by simp [zu]
theorem zcV{r:zR}(h:zaI r=0):zgW r:=by
 unfold zaI at h
 split at h
 ·exact absurd h (by decide)
 ·rename_i hc;exact zWO.1 hc
def zaM(c:List Message)(h k:Nat):List Message:=(List.range k).map fun i=>c.getD ((h+i) % c.length) z9
theorem zP9(c:List Message)(h k:Nat):zaM c h (k+1)=zaM c h k++[c.getD ((h+k) % c.length) z9]:=by
 simp [zaM,zZN]
theorem zjh(c:List Message)(h k:Nat):(zaM c h k).length=k:=by simp [zaM]
theorem ziZ(l:List Message)(id:Int)(hL:l.length<=4294967296):zh G 130 [.d (.sl (l.map zk)),.d (.int .i64 id)] []=some (.d (.int .i64 (zaF l id)),[]):=by
 have:=zh8 (G:=G) (x:=zq5) (ks:=[]) l.length (atB l fun m:Message=>decide (m.id=id)) (fun k=>⟨[(0,.d (.sl (l.map zk))),(1,.d (.int .i64 id)),(5,.d (.int .i64 k))],[]⟩) (fun k=>(.ret,⟨[(4,.d (.int .i64 k))],[]⟩)) (.exit 0,⟨[],[]⟩) (fun k hk L=>by
  simp only[zq5]
  by_cases h0:k<l.length
  ·rw[zWz h0];simp only[zgA h0]
   by_cases h1:l[k].id=id
   ·simp only[h1,decide_true,if_true];have zk0:=zk.eq_1;exact zS
   ·simp only[h1,decide_false,zWL,if_false];have zk0:=zk.eq_1;exact zS
  ·rw[zWy h0];exact zS)
 rw[ziV] at this;simp only[zNr,zp] at this;unfold zaF zb1
 cases h:l.findIdx? (fun m:Message=>decide (m.id=id)) with
 | none=>rw[h] at this;exact zW
 | some i=>rw[h] at this;exact zW
def zkD(c:List Message)(h z i:Nat):St:=⟨[(1,.ref 1 0 0),(3,.acc 3 ((zaM c h i).map zk)),(4,.d (.int .i64 i))],[(1,.row [.d (.agg [.sl (c.map zk),.int .i64 h,.int .i64 z])]),(3,.acc (zaM c h i).length)]⟩
theorem zQb(c:List Message)(h z:Nat)(h1:c.length<=12)(h2:h<c.length)(h3:z<=c.length):∀i,i<=z->zN G [] zn1 (zkD c h z i)=some (.exit 0,⟨[(3,.acc 3 ((zaM c h z).map zk))],[(3,.acc (zaM c h z).length)]⟩):=by
 refine zaB (fun i=>z - i) (fun i=>i<=z) (zkD c h z) _ fun i hi L ih=> ?_
 by_cases h0:i<z
 ·have i1:=ih (i+1) zo zo;clear ih;have e:((h:Int)+i).tmod c.length=(((h+i) % c.length:Nat):Int):=by rw[<- zXO, <- zZm]
  have hj:(h+i) % c.length<c.length:=zXN _ zo;have hl:=zjh c h i;rw[zkD,zP9] at i1;generalize (h+i) % c.length=j at *;rw[zq hj] at i1;simp only[zWQ,zWD,zWA,zWJ,zW6,hl] at i1;simp only[zkD,hl,zn1];generalize zaM c h i=w at *;simp only[zNr,zp] at i1;exact zS
 ·clear ih;have:i=z:=by omega
  subst this;simp only[zkD,zn1];exact zS
theorem zjj(c:List Message)(h z:Nat)(h1:c.length<=12)(h2:h<c.length)(h3:z<=c.length):zh G 147 [.d (.agg [.sl (c.map zk),.int .i64 h,.int .i64 z])] []=some (.acc 0 ((zaM c h z).map zk),[(0,.acc (zaM c h z).length)]):=by
 have hl:=zQb c h z h1 h2 h3 0 zo;simp only[zkD,zaM,List.range_zero,zWA,zWK] at hl;simp only[zNr,zp] at hl;have zk0:=zaM.eq_1;exact zW
theorem zWv{m:Message}(h:¬(¬m.id=0\/¬m.route=0\/¬m.epoch=0\/¬m.count=0\/¬m.gen=0\/¬m.sent=0\/¬m.body=[])):m=z9:=by
 simp only[not_or,zWO] at h;obtain⟨a,b,c,d,e,f,g⟩:=h
 cases m
 simp only at a b c d e f g;subst a b c d e f g;rfl
theorem zSh(c:List Message)(h:Nat)(z:Int){i n:Nat}(h0:i<n):zdM ⟨c,h,z⟩ i n=(decide (c.getD ((h+i) % c.length) z9≠z9)||zdM ⟨c,h,z⟩ (i+1) n):=zSg ⟨c,h,z⟩ h0
def rgR(c:List Message)(h z i:Nat):zT×St:=if zdM ⟨c,h,z⟩ i c.length=true then (.ret,⟨[(2,.d (.int .i64 7))],[]⟩) else (.exit 0,⟨[(1,.ref 1 0 0)],[(1,.row [.d (.agg [.sl (c.map zk),.int .i64 h,.int .i64 z])])]⟩)
theorem zie(c:List Message)(h z:Nat):zu ⟨c,h,z⟩=zaM c h z:=rfl
theorem zmz{r:zR}(hr:zgW r):∃(c:List Message) (h z:Nat),r=⟨c,h,z⟩/\1<=c.length/\c.length<=12/\h<c.length/\z<=c.length:=by
 obtain⟨c,h,z⟩:=r;obtain⟨h1,h2,h3,h4,h5,h6⟩:=hr;simp only at h1 h2 h3 h4 h5 h6;exact⟨c,h.toNat,z.toNat,by rw[zZM h3,zZM h5],h1,h2,by omega,by omega⟩
theorem zBU{c:List Message}{h z:Nat}(hok:zgW ⟨c,h,z⟩):zaI ⟨c,h,z⟩=if zdM ⟨c,h,z⟩ z c.length=true then 7 else if zch (zaM c h z)≠0 then zch (zaM c h z) else if zei ((zaM c h z).map (·.id))=true then 10 else 0:=by
 unfold zaI;rw[zWy (fun hc=>hc hok)];rfl
def r4S(c:List Message)(h z i:Nat):St:=⟨[(1,.ref 1 0 0),(3,.d (.int .i64 c.length)),(4,.d (.int .i64 i))],[(1,.row [.d (.agg [.sl (c.map zk),.int .i64 h,.int .i64 z])])]⟩
theorem zSe(c:List Message)(h z:Nat)(h1:c.length<=12)(h2:h<c.length):∀i,i<=c.length->zN G [] znY (r4S c h z i)=some (rgR c h z i):=by
 refine zaB (fun i=>c.length - i) (fun i=>i<=c.length) (r4S c h z) (fun i=>some (rgR c h z i)) fun i hi L ih=> ?_
 by_cases h0:i<c.length
 ·have i1:=ih (i+1) zo zo;clear ih;have e:((h:Int)+i).tmod c.length=(((h+i) % c.length:Nat):Int):=by rw[<- zXO, <- zZm]
  have hj:(h+i) % c.length<c.length:=zXN _ zo;unfold rgR at i1 ⊢;rw[zSh _ _ _ h0];generalize (h+i) % c.length=j at *;rw[zq hj];generalize zdM ⟨c,h,z⟩ (i+1) c.length=bb at *;simp only[r4S] at i1;simp only[zNr,zp] at i1;simp only[r4S,znY]
  by_cases hm:c[j]=z9
  ·rw[hm];simp only[ne_eq,zWR,decide_false,zX0];have zk1:=z9.eq_1;have zk2:=zk.eq_1;exact zS
  ·simp only[ne_eq,hm,zXd,decide_true,zYJ,if_true]
   (try simp -implicitDefEqProofs (maxSteps:=4000000) (disch:=omega) only[zk,zq,go_sem, *]);(try simp only[zPr]);repeat' (first|done|rfl|((first|refine za5 (fun hq=> ?_) (fun hq=> ?_)|refine zbd (fun hq=> ?_) (fun hq=> ?_))<;>(try (first|(exfalso;omega)|contradiction))<;>(try simp -implicitDefEqProofs (maxSteps:=4000000) (disch:=omega) only[zk,zq,go_sem, *])<;>(try simp only[zPr])));(all_goals try rfl);(all_goals try (repeat' (first|done|rfl|(exfalso;omega)|contradiction|(refine za6 (fun hq=> ?_) (fun hq=> ?_)))))
   exact absurd (zWv (by assumption)) hm
 ·clear ih;unfold rgR;rw[zSf _ h0];simp only[r4S,znY,zWL,if_false];simp -implicitDefEqProofs (maxSteps:=4000000) (disch:=omega) only[zq,go_sem, *]
def f4S(l:List Message)(i:Nat):St:=⟨[(5,.acc 60 (l.map zk)),(6,.d (.int .i64 i))],[(60,.acc l.length)]⟩
def f4R(l:List Message)(i:Nat):zT×St:=if zch (l.drop i)≠0 then (.ret,⟨[(2,.d (.int .i64 (zch (l.drop i))))],[]⟩) else (.exit 2,⟨[(5,.acc 60 (l.map zk))],[(60,.acc l.length)]⟩)
theorem zIp(l:List Message)(h1:l.length<=12):∀i,i<=l.length->zN G [] znZ (f4S l i)=some (f4R l i):=by
 refine zaB (fun i=>l.length - i) (fun i=>i<=l.length) (f4S l) (fun i=>some (f4R l i)) fun i hi L ih=> ?_
 by_cases h0:i<l.length
 ·have i1:=ih (i+1) zo zo;clear ih;have hm:=zih l[i];unfold f4R at i1 ⊢;rw[zyQ h0];unfold f4S at i1;generalize zch (l.drop (i+1))=fe at *;simp only[f4S,znZ];simp only[zk] at hm;simp only[zNr,zp] at i1
  by_cases hv:zak l[i]=0
  ·rw[hv] at hm;simp only[hv,ne_eq,zWR,if_false];have zk0:=zk.eq_1;exact zS
  ·simp only[ne_eq,hv,zXd,if_true];clear i1;have zk0:=zk.eq_1;exact zS
 ·clear ih;have:i=l.length:=by omega
  subst this;unfold f4R;rw[zXp];simp only[f4S,zch,ne_eq,zWR,if_false,znZ];exact zS
def d4S(l:List Message)(i:Nat):St:=⟨[(5,.acc 60 (l.map zk)),(8,.d (.int .i64 i))],[(60,.acc l.length)]⟩
def d4R(l:List Message)(i:Nat):zT×St:=if zfk l i=true then (.ret,⟨[(2,.d (.int .i64 10))],[]⟩) else (.exit 4,⟨[],[]⟩)
theorem zGd(l:List Message)(h1:l.length<=12):∀i,i<=l.length->zN G [] zn0 (d4S l i)=some (d4R l i):=by
 refine zaB (fun i=>l.length - i) (fun i=>i<=l.length) (d4S l) (fun i=>some (d4R l i)) fun i hi L ih=> ?_
 by_cases h0:i<l.length
 ·have i1:=ih (i+1) zo zo;clear ih;have hx:=ziZ l l[i].id zo;unfold d4R at i1 ⊢;rw[zrz _ h0];unfold d4S at i1;generalize zfk l (i+1)=fe at *;simp only[d4S,zn0];simp only[zNr,zp] at i1;generalize zaF l l[i].id=q at *
  by_cases hv:q=i
  ·subst hv;simp only[ne_eq,zWR,decide_false,zX0];have zk0:=zk.eq_1;exact zS
  ·simp only[ne_eq,hv,zXd,decide_true,zYJ,if_true];clear i1;have zk0:=zk.eq_1;exact zS
 ·clear ih;unfold d4R;rw[zry _ h0];simp only[d4S,zn0,zWL,if_false];exact zS
theorem zkG(r:zR)(hL:r.cells.length<=4294967296):zh G 127 [.d (z6 r)] []=some (.d (.int .i64 (zaI r)),[]):=by
 by_cases hok:zgW r
 ·obtain⟨c,h,z,rfl,h1,h2,h3,h4⟩:=zmz hok;have hr:=zSe c h z h2 h3 z h4;have hl:=zjj c h z h2 h3 h4;have hn:=zjh c h z;have hv:=zIp (zaM c h z) zo 0 zo;have hd:=zGd (zaM c h z) zo 0 zo;rw[zBU hok];unfold rgR at hr;unfold f4R at hv;unfold d4R at hd;rw[zrx] at hd;simp only[zXg] at hv;simp only[r4S] at hr;simp only[f4S,zWV,hn] at hv;simp only[d4S,zWV,hn] at hd;rw[hn] at hl;simp only[z6];generalize zdM ⟨c,h,z⟩ z c.length=b1 at *;generalize zch (zaM c h z)=fe at *;generalize zei ((zaM c h z).map (·.id))=dd at *;generalize zaM c h z=w at *;clear hok
  cases b1 with
  | true=>
   simp only[if_true] at hr ⊢;exact zW
  | false=>
   simp only[zWL,if_false] at hr ⊢
   by_cases e:fe=0
   ·subst e;simp only[ne_eq,zWR,if_false] at hv ⊢
    cases dd
    ·simp only[zWL,if_false] at hd ⊢;exact zW
    ·simp only[if_true] at hd ⊢;exact zW
   ·simp only[ne_eq,e,zXd,if_true] at hv ⊢;exact zW
 ·unfold zaI;rw[zWz hok];obtain⟨c,h,z⟩:=r;simp only[zgW] at hok hL;simp only[z6];exact zW
theorem zQ9{r:zR}(hr:zaI r=0):zh G 98 [.d (z6 r)] []=some (.d (.sl ((zu r).map zk)),[]):=by
 have hv:=zkG r (by have:=(zcV hr).2.1;omega);obtain⟨c,h,z,rfl,h1,h2,h3,h4⟩:=zmz (zcV hr);have hl:=zjj c h z h2 h3 h4;rw[hr] at hv;rw[zie];clear hr;simp only[z6] at hv ⊢;generalize zaM c h z=w at *;exact zW
theorem zjp{s:Shard}(hr:zaI s.ready=0):zh G 50 [.d (zj s)] []=some (.d (.sl ((zu s.ready).map zk)),[]):=by
 have hl:=zQ9 hr;generalize zu s.ready=w at *;simp only[z6,zj] at hl ⊢;exact zW
def zeZ(b:List Message)(l:List zx)(i:Nat):List Message:=b++(l.take i).map (·.msg)
theorem zOZ(b:List Message){l:List zx}{i:Nat}(h:i<l.length):zeZ b l (i+1)=zeZ b l i++[l[i].msg]:=by
 unfold zeZ;rw[zYG,zWF h,zWQ,zXq];rfl
theorem zOY(b:List Message){l:List zx}{i:Nat}(h:i<=l.length):(zeZ b l i).length=b.length+i:=by
 simp [zeZ];omega
def l7S(s:Shard)(i:Nat):St:=⟨[(1,.ref 1 0 0),(3,.acc 3 ((zeZ [] s.leases.l i).map zk)),(4,.d (.int .i64 i))],[(1,.row [.d (zj s)]),(3,.acc (zeZ [] s.leases.l i).length)]⟩
theorem zNK(s:Shard)(h1:s.leases.l.length<=12):∀i,i<=s.leases.l.length->zN G [] zn8 (l7S s i)=some (.exit 0,⟨[(3,.acc 3 ((zeZ [] s.leases.l s.leases.l.length).map zk))],[(3,.acc (zeZ [] s.leases.l s.leases.l.length).length)]⟩):=by
 refine zaB (fun i=>s.leases.l.length - i) (fun i=>i<=s.leases.l.length) (l7S s) _ fun i hi L ih=> ?_
 by_cases h0:i<s.leases.l.length
 ·have i1:=ih (i+1) zo zo;clear ih;have hl:=zOY [] (l:=s.leases.l) (i:=i) zo;rw[l7S,zOZ [] h0] at i1;generalize zeZ [] s.leases.l s.leases.l.length=z at *;simp only[zWQ,zWD,zWA,zWJ,zW6,hl] at i1;simp only[l7S,hl,zn8];generalize zeZ [] s.leases.l i=w at *;simp only[zk,zj] at i1 ⊢;simp only[zNr,zp] at i1;have zk0:=zaE.eq_1;have zk1:=zk.eq_1;exact zS
 ·clear ih;have:i=s.leases.l.length:=by omega
  subst this;simp only[l7S,zj,zn8];exact zS
theorem zos{s:Shard}(h1:s.leases.l.length<=12):zh G 51 [.d (zj s)] []=some (.d (.sl ((s.leases.l.map (·.msg)).map zk)),[]):=by
 have hm:=zNK s h1 0 zo;have e:zeZ [] s.leases.l s.leases.l.length=s.leases.l.map (·.msg):=by simp [zeZ]
 rw[e] at hm;generalize s.leases.l.map (·.msg)=w at *;simp only[l7S,zeZ,zXv,zWA,zWZ,zj] at hm;simp only[zj];simp only[zNr,zp] at hm;exact zW
theorem zjH{s:Shard}(hr:zaI s.ready=0)(h1:s.leases.l.length<=12):zh G 129 [.d (zj s)] []=some (.d (.sl ((zaO s).map zk)),[]):=by
 have h2:=zjp hr;have h3:=zos h1;have hb:(zu s.ready).length<=12:=by
  rw[zgT];have:=zcV hr;obtain⟨a1,a2,a3,a4,a5,a6⟩:=this;omega
 have hc:(s.leases.l.map (·.msg)).length<=12:=by simpa using h1
 simp only[zaO,zWQ];generalize s.leases.l.map (·.msg)=w at *;generalize zu s.ready=w2 at *;simp only[zj] at h2 h3 ⊢;exact zW
theorem zs2{t:Table}(h:zah t=0):t.l.length<=12:=by
 refine Classical.byContradiction fun hc=> ?_;unfold zah at h;rw[zWz zo] at h;exact absurd h (by decide)
def zgS(lo hi:Int)(l:List Message):Bool:=l.any fun m=>decide (¬(lo<=m.route/\m.route<=hi))
theorem zOW(lo hi:Int){l:List Message}{k:Nat}(h:k<l.length):zgS lo hi (l.drop k)=(decide (¬(lo<=l[k].route/\l[k].route<=hi))||zgS lo hi (l.drop (k+1))):=by
 rw[zXf h];rfl
theorem zCg(lo hi:Int):zh G 77 [.d (.int .i64 lo),.d (.int .i64 hi)] []=some (.d (.bool (decide (0<=lo/\lo<=hi/\hi<65536))),[]):=by
 by_cases h:0<=lo/\lo<=hi/\hi<65536
 ·rw[zWY h];exact zW
 ·rw[zW0 h];have e:(decide (0<=lo)&&(decide (lo<=hi)&&decide (hi<65536)))=false:=by simp;omega
  exact zW
theorem zCb{s:Shard}(hr:zaI s.ready=0)(h1:s.leases.l.length<=12):(zaO s).length<=24:=by
 obtain⟨a1,a2,a3,a4,a5,a6⟩:=zcV hr;simp only[zaO,zWJ,zWM,zgT];omega
theorem zmH{s:Shard}(hr:zaI s.ready=0)(ht:zah s.leases=0):zV s=if s.live=false then (if s.low≠0\/s.high≠0\/0<s.ready.size+s.leases.l.length then 7 else 0)
 else if ¬(0<=s.low/\s.low<=s.high/\s.high<65536) then 1
 else if s.ready.cells.length<s.ready.size+s.leases.l.length then 3
 else if zgS s.low s.high (zaO s)=true then 12
 else if zei ((zaO s).map (·.id))=true then 10 else 0:=by
 unfold zV;rw[zWy (fun hc=>hc hr),zWy (fun hc=>hc ht)];rfl
def m7S(s:Shard)(l:List Message)(i:Nat):St:=⟨[(1,.ref 1 0 0),(6,.d (.sl (l.map zk))),(7,.d (.int .i64 i))],[(1,.row [.d (zj s)])]⟩
def m7R(s:Shard)(l:List Message)(i:Nat):zT×St:=if zgS s.low s.high (l.drop i)=true then (.ret,⟨[(2,.d (.int .i64 12))],[]⟩) else (.exit 0,⟨[(6,.d (.sl (l.map zk)))],[]⟩)
theorem zOv(s:Shard)(l:List Message)(h1:l.length<=24):∀i,i<=l.length->zN G [] zoa (m7S s l i)=some (m7R s l i):=by
 refine zaB (fun i=>l.length - i) (fun i=>i<=l.length) (m7S s l) (fun i=>some (m7R s l i)) fun i hi L ih=> ?_
 by_cases h0:i<l.length
 ·have i1:=ih (i+1) zo zo;clear ih;unfold m7R at i1 ⊢;rw[zOW _ _ h0];unfold m7S at i1;generalize zgS s.low s.high (l.drop (i+1))=fe at *;simp only[m7S,zj,zoa] at i1 ⊢;simp only[zNr,zp] at i1
  by_cases hv:s.low<=l[i].route/\l[i].route<=s.high
  ·simp only[hv,zWR,zXs,decide_false,zX0];have zk0:=zk.eq_1;exact zS
  ·simp only[hv,zXd,decide_true,zYJ,if_true];clear i1;have zk0:=zk.eq_1;exact zS
 ·clear ih;have:i=l.length:=by omega
  subst this;unfold m7R;rw[zXp];simp only[m7S,zgS,List.any_nil,zWL,if_false,zoa,zj];exact zS
def d7S(l:List Message)(i:Nat):St:=⟨[(6,.d (.sl (l.map zk))),(8,.d (.int .i64 i))],[]⟩
def d7R(l:List Message)(i:Nat):zT×St:=if zfk l i=true then (.ret,⟨[(2,.d (.int .i64 10))],[]⟩) else (.exit 2,⟨[],[]⟩)
theorem zGe(l:List Message)(h1:l.length<=24):∀i,i<=l.length->zN G [] zob (d7S l i)=some (d7R l i):=by
 refine zaB (fun i=>l.length - i) (fun i=>i<=l.length) (d7S l) (fun i=>some (d7R l i)) fun i hi L ih=> ?_
 by_cases h0:i<l.length
 ·have i1:=ih (i+1) zo zo;clear ih;have hx:=ziZ l l[i].id zo;unfold d7R at i1 ⊢;rw[zrz _ h0];unfold d7S at i1;generalize zfk l (i+1)=fe at *;simp only[d7S,zob];simp only[zNr,zp] at i1;generalize zaF l l[i].id=q at *
  by_cases hv:q=i
  ·subst hv;simp only[ne_eq,zWR,decide_false,zX0];have zk0:=zk.eq_1;exact zS
  ·simp only[ne_eq,hv,zXd,decide_true,zYJ,if_true];clear i1;have zk0:=zk.eq_1;exact zS
 ·clear ih;unfold d7R;rw[zry _ h0];simp only[d7S,zob,zWL,if_false];exact zS
theorem zmo(s:Shard)(h1:s.ready.cells.length<=4294967296)(h2:s.leases.l.length<=4294967296)(h3:s.leases.heap.length<=4294967296):zh G 82 [.d (zj s)] []=some (.d (.int .i64 (zV s)),[]):=by
 have hv:=zkG s.ready h1;have ht:=zkH s.leases h2 h3;rw[zk4] at ht
 by_cases e1:zaI s.ready=0
 ·by_cases e2:zah s.leases=0
  ·rw[zmH e1 e2];rw[e1] at hv;rw[e2] at ht;have hl:=zs2 e2;obtain⟨a1,a2,a3,a4,a5,a6⟩:=zcV e1;have hsp:=zCg s.low s.high;have hm:=zjH e1 hl;have hml:=zCb e1 hl;have hlp:=zOv s (zaO s) hml 0 zo;have hdp:=zGe (zaO s) hml 0 zo;unfold m7R at hlp;unfold d7R at hdp;rw[zrx] at hdp;simp only[m7S,zXg] at hlp;simp only[d7S] at hdp;generalize zgS s.low s.high (zaO s)=b1 at *;generalize zei ((zaO s).map (·.id))=b2 at *;generalize zaO s=w at *;clear e1 e2;obtain⟨lv,lo,hi,⟨c,h,z⟩,⟨tl,th⟩⟩:=s;simp only[zj,z6,zan] at hv ht hsp hm hlp a1 a2 a3 a4 a5 a6 hl h1 h2 h3 ⊢;simp only[zNr,zp] at hlp hdp
   cases lv with
   | false=>
    simp only[if_true]
    by_cases c1:lo≠0\/hi≠0\/0<z+tl.length
    ·rw[zWz c1];exact zW
    ·rw[zWy c1];exact zW
   | true=>
    simp only[zXB,if_false]
    by_cases c1:0<=lo/\lo<=hi/\hi<65536
    ·rw[zWY c1] at hsp;rw[zWy (fun hc=>hc c1)]
     by_cases c2:(c.length:Int)<z+tl.length
     ·rw[zWz c2];exact zW
     ·rw[zWy c2]
      cases b1
      ·cases b2
       ·simp only[zWL,if_false] at hlp hdp ⊢;exact zW
       ·simp only[zWL,if_false,if_true] at hlp hdp ⊢;exact zW
      ·simp only[if_true] at hlp ⊢;exact zW
    ·rw[zW0 c1] at hsp;rw[zWz c1];exact zW
  ·unfold zV;rw[zWy (fun hc=>hc e1),zWz e2];rw[e1] at hv;generalize zah s.leases=v at *;obtain⟨lv,lo,hi,⟨c,h,z⟩,⟨tl,th⟩⟩:=s;simp only[zj,z6,zan] at hv ht h1 h2 h3 ⊢;exact zW
 ·unfold zV;rw[zWz e1];clear ht;generalize zaI s.ready=v at *;obtain⟨lv,lo,hi,⟨c,h,z⟩,⟨tl,th⟩⟩:=s;simp only[zj,z6] at hv h1 h2 h3 ⊢;exact zW
def zbs{α:Type}(p:α->Bool)(l:List α)(i:Nat):Nat:=((l.take i).filter p).length
theorem zp5{α:Type}(p:α->Bool){l:List α}{i:Nat}(h:i<l.length):zbs p l (i+1)=zbs p l i+(if p l[i]=true then 1 else 0):=by
 unfold zbs;rw[zYG,zWF h,zZL,zWJ]
 congr 1
 simp only[Option.toList,zX3]
 split<;>rfl
theorem zp4{α:Type}(p:α->Bool)(l:List α)(i:Nat):zbs p l i<=i:=zXo (zXJ _ _) (by simp;omega)
def rdQ(ep lim:Int)(m:Message):Bool:=decide (¬m.epoch<ep)&&decide (¬lim<=m.count)
def lsQ(ep:Int)(x:zx):Bool:=decide (¬x.msg.epoch<ep)
def zaa(s:Shard):Int:=if zV s≠0 then zV s else if s.live=true then 0 else 7
theorem zfl(s:Shard)(h1:s.ready.cells.length<=4294967296)(h2:s.leases.l.length<=4294967296)(h3:s.leases.heap.length<=4294967296):zh G 47 [.d (zj s)] []=some (.d (.int .i64 (zaa s)),[]):=by
 have hv:=zmo s h1 h2 h3;unfold zaa;generalize zV s=v at *;obtain⟨lv,lo,hi,⟨c,h,z⟩,⟨tl,th⟩⟩:=s;simp only[zj] at hv ⊢
 by_cases e:v=0
 ·subst e
  cases lv
  ·exact zW
  ·exact zW
 ·rw[zWz e];exact zW
theorem zig(m:Message)(ep:Int):zh G 52 [.d (zk m),.d (.int .i64 ep)] []=some (.d (.bool (decide (m.epoch<ep))),[]):=by
 simp only[zk];exact zW
theorem zpb(m:Message)(lim:Int):zh G 53 [.d (zk m),.d (.int .i64 lim)] []=some (.d (.bool (decide (lim<=m.count))),[]):=by
 simp only[zk];exact zW
def mQ(ep:Int)(m:Message):Bool:=decide (¬m.epoch<ep)
theorem zET(ep:Int)(l:List zx)(i:Nat):zbs (mQ ep) (l.map (·.msg)) i=zbs (lsQ ep) l i:=by
 unfold zbs;rw[<- zYy,List.filter_map,zWM];rfl
theorem zyE(n:Int):zh G 48 [.d (.int .i64 n)] []=some (.d (.bool (decide (0<=n/\n<=65536))),[]):=by
 by_cases h:0<=n/\n<=65536
 ·rw[zWY h];exact zW
 ·rw[zW0 h];have e:(decide (0<=n)&&decide (n<=65536))=false:=by simp;omega
  exact zW
theorem zAw(n:Int):zh G 49 [.d (.int .i64 n)] []=some (.d (.bool (decide (1<=n/\n<=8))),[]):=by
 by_cases h:1<=n/\n<=8
 ·rw[zWY h];exact zW
 ·rw[zW0 h];have e:(decide (1<=n)&&decide (n<=8))=false:=by simp;omega
  exact zW
def k0S(l w:List Message)(ep lim:Int)(i:Nat):St:=⟨[(1,.d (.int .i64 ep)),(2,.d (.int .i64 lim)),(8,.d (.int .i64 (zbs (rdQ ep lim) l i))),(9,.d (.int .i64 0)),(10,.d (.sl (l.map zk))),(11,.d (.sl (w.map zk))),(12,.d (.int .i64 i))],[]⟩
theorem zNw(l w:List Message)(ep lim:Int)(h1:l.length<=24):∀i,i<=l.length->zN G [] zn5 (k0S l w ep lim i)=some (.exit 0,⟨[(1,.d (.int .i64 ep)),(8,.d (.int .i64 (zbs (rdQ ep lim) l l.length))),(9,.d (.int .i64 0)),(11,.d (.sl (w.map zk)))],[]⟩):=by
 refine zaB (fun i=>l.length - i) (fun i=>i<=l.length) (k0S l w ep lim) _ fun i hi L ih=> ?_
 by_cases h0:i<l.length
 ·have i1:=ih (i+1) zo zo;clear ih;have hp:=zig l[i] ep;have hs:=zpb l[i] lim;have hle:=zp4 (rdQ ep lim) l i;generalize zbs (rdQ ep lim) l l.length=z at *;rw[k0S,zp5 _ h0] at i1;simp only[k0S,zn5];generalize zbs (rdQ ep lim) l i=n at *;generalize w.map zk=ww at *;simp only[zk] at hp hs;unfold rdQ at i1
  by_cases c1:l[i].epoch<ep
  ·simp only[c1,zWR,decide_true,decide_false,zXr,zWL,if_false,zX1] at i1 hp;simp only[zNr,zp] at i1;have zk0:=zk.eq_1;exact zS
  ·by_cases c2:lim<=l[i].count
   ·simp only[c1,c2,zWR,zXd,decide_true,decide_false,zXW,zWL,if_false,zX1] at i1 hp hs;simp only[zNr,zp] at i1;have zk0:=zk.eq_1;exact zS
   ·simp only[c1,c2,zXd,decide_true,decide_false,zXV,if_true] at i1 hp hs;simp only[zNr,zp] at i1;have zk0:=zk.eq_1;exact zS
 ·clear ih;have:i=l.length:=by omega
  subst this;simp only[k0S,zn5];exact zS
def k1S(w:List Message)(ep n:Int)(i:Nat):St:=⟨[(1,.d (.int .i64 ep)),(8,.d (.int .i64 n)),(9,.d (.int .i64 (zbs (mQ ep) w i))),(11,.d (.sl (w.map zk))),(13,.d (.int .i64 i))],[]⟩
theorem zNx(w:List Message)(ep n:Int)(h1:w.length<=24):∀i,i<=w.length->zN G [] zn6 (k1S w ep n i)=some (.exit 2,⟨[(8,.d (.int .i64 n)),(9,.d (.int .i64 (zbs (mQ ep) w w.length)))],[]⟩):=by
 refine zaB (fun i=>w.length - i) (fun i=>i<=w.length) (k1S w ep n) _ fun i hi L ih=> ?_
 by_cases h0:i<w.length
 ·have i1:=ih (i+1) zo zo;clear ih;have hp:=zig w[i] ep;have hle:=zp4 (mQ ep) w i;generalize zbs (mQ ep) w w.length=z at *;rw[k1S,zp5 _ h0] at i1;simp only[k1S,zn6];generalize zbs (mQ ep) w i=q at *;simp only[zk] at hp;unfold mQ at i1
  by_cases c1:w[i].epoch<ep
  ·simp only[c1,zWR,decide_true,decide_false,zWL,if_false,zX1] at i1 hp;simp only[zNr,zp] at i1;have zk0:=zk.eq_1;exact zS
  ·simp only[c1,zXd,decide_true,decide_false,if_true] at i1 hp;simp only[zNr,zp] at i1;have zk0:=zk.eq_1;exact zS
 ·clear ih;have:i=w.length:=by omega
  subst this;simp only[k1S,zn6];exact zS
def zbP(s:Shard)(ep lim:Int):Int×Int:=
 if zaa s=0/\(0<=ep/\ep<=65536)/\1<=lim/\lim<=8 then ((zbs (rdQ ep lim) (zu s.ready) (zu s.ready).length:Nat),(zbs (lsQ ep) s.leases.l s.leases.l.length:Nat)) else (0,0)
theorem zAz{s:Shard}(h:zaa s=0):zaI s.ready=0/\zah s.leases=0:=by
 have h0:zV s=0:=Classical.byContradiction fun hc=>by unfold zaa at h;rw[zWz hc] at h;exact hc h
 by_cases e1:zaI s.ready=0
 ·refine⟨e1,Classical.byContradiction fun e2=> ?_⟩;unfold zV at h0;rw[zWy (fun hc=>hc e1),zWz e2] at h0;exact e2 h0
 ·unfold zV at h0;rw[zWz e1] at h0;exact absurd h0 e1
theorem zqa(s:Shard)(ep lim:Int)(h1:s.ready.cells.length<=4294967296)(h2:s.leases.l.length<=4294967296)(h3:s.leases.heap.length<=4294967296):zh G 12 [.d (zj s),.d (.int .i64 ep),.d (.int .i64 lim)] []=some (.d (.tup [.int .i64 (zbP s ep lim).1,.int .i64 (zbP s ep lim).2]),[]):=by
 have he:=zyE ep;have hli:=zAw lim;have hu:=zfl s h1 h2 h3
 by_cases c:zaa s=0/\(0<=ep/\ep<=65536)/\1<=lim/\lim<=8
 ·unfold zbP;rw[zWz c];obtain⟨c0,c1,c2⟩:=c;rw[zWY c1] at he;rw[zWY c2] at hli;rw[c0] at hu;obtain⟨e1,e2⟩:=zAz c0;have hl:=zs2 e2;have hb:(zu s.ready).length<=24:=by
   rw[zgT];obtain⟨a1,a2,a3,a4,a5,a6⟩:=zcV e1;omega
  have hr:=zjp e1;have hle:=zos hl;have hl0:=zNw (zu s.ready) (s.leases.l.map (·.msg)) ep lim hb 0 zo;generalize hn:zbs (rdQ ep lim) (zu s.ready) (zu s.ready).length=n at *;have hl1:=zNx (s.leases.l.map (·.msg)) ep n (by simp;omega) 0 zo;rw[zET ep s.leases.l,zWM] at hl1;simp only[k0S,zbs,zXv,zYv,zWK] at hl0;simp only[k1S,zbs,zXv,zYv,zWK] at hl1;clear hn c0 e1 e2;generalize zu s.ready=w at *;generalize s.leases.l.map (·.msg)=w2 at *;simp only[zbs];obtain⟨lv,lo,hi,⟨cs,h,z⟩,⟨tl,th⟩⟩:=s;simp only[zj] at hu hr hle hl0 hl1 hl h1 h2 h3 ⊢;simp only[zNr,zp] at hl0 hl1;exact zW
 ·unfold zbP;rw[zWy c]
  by_cases c0:zaa s=0
  ·rw[c0] at hu
   by_cases c1:0<=ep/\ep<=65536
   ·rw[zWY c1] at he;rw[zW0 (fun hc=>c ⟨c0,c1,hc⟩)] at hli;clear c c0;simp only[zj] at hu ⊢;exact zW
   ·rw[zW0 c1] at he;clear c c0;simp only[zj] at hu ⊢;exact zW
  ·clear c;generalize zaa s=v at *;simp only[zj] at hu ⊢;exact zW
def zbo(n:Int):Prop:=0<=n/\n<=1099511627776
instance (n:Int):Decidable (zbo n):=by unfold zbo;exact inferInstance
theorem zr2(n:Int):zh G 182 [.d (.int .i64 n)] []=some (.d (.bool (decide (zbo n))),[]):=by
 by_cases h:zbo n
 ·rw[zWY h];unfold zbo at h;exact zW
 ·rw[zW0 h];unfold zbo at h;have e:(decide (0<=n)&&decide (n<=1099511627776))=false:=by simp;omega
  exact zW
theorem zp9(n:Int):zh G 226 [.d (.int .i64 n)] []=some (.d (.bool (decide (zbo n))),[]):=by
 by_cases h:zbo n
 ·rw[zWY h];unfold zbo at h;exact zW
 ·rw[zW0 h];unfold zbo at h;have e:(decide (0<=n)&&decide (n<=1099511627776))=false:=by simp;omega
  exact zW
def zff(s:Stripe):Stripe×Int:=if ¬zbo s.seq then (zbh,1) else if s.seq.tmod 2=1 then (zbh,7) else if 1099511627774<s.seq then (zbh,6) else (⟨s.seq+1,s.epoch,s.ready,s.leased⟩,0)
theorem zD2(s:Stripe):zh G 314 [.d (zG s)] []=some (.d (.tup [zG (zff s).1,.int .i64 (zff s).2]),[]):=by
 unfold zff
 by_cases h:zbo s.seq
 ·rw[zWy (fun hc=>hc h)];unfold zbo at h
  by_cases h1:s.seq.tmod 2=1
  ·simp only[h1,if_true,zG,zbh];exact zW
  ·simp only[h1,if_false]
   by_cases h2:1099511627774<s.seq
   ·simp only[h2,if_true,zG,zbh];exact zW
   ·simp only[h2,if_false,zG];exact zW
 ·rw[zWz h];unfold zbo at h;simp only[zG,zbh];exact zW
def zfi(s:Stripe)(x:Shard)(ep lim:Int):Stripe×Int:=if ¬zbo s.seq then (zbh,1) else if s.seq.tmod 2=0 then (zbh,7) else if zV x≠0 then (zbh,zV x) else if ¬(0<=ep/\ep<=65536/\1<=lim/\lim<=8) then (zbh,1) else (⟨s.seq+1,ep,(zbP x ep lim).1,(zbP x ep lim).2⟩,0)
theorem zGX(s:Stripe)(x:Shard)(ep lim:Int)(h1:x.ready.cells.length<=4294967296)(h2:x.leases.l.length<=4294967296)(h3:x.leases.heap.length<=4294967296):zh G 319 [.d (zG s),.d (zj x),.d (.int .i64 ep),.d (.int .i64 lim)] []=some (.d (.tup [zG (zfi s x ep lim).1,.int .i64 (zfi s x ep lim).2]),[]):=by
 have hv:=zmo x h1 h2 h3;have hc:=zqa x ep lim h1 h2 h3;unfold zfi;generalize zbP x ep lim=cc at *;obtain⟨cc1,cc2⟩:=cc;generalize zV x=v at *
 by_cases h:zbo s.seq
 ·rw[zWy (fun hc=>hc h)];unfold zbo at h
  by_cases e1:s.seq.tmod 2=0
  ·simp only[e1,if_true,zG,zbh,zj];exact zW
  ·simp only[e1,if_false]
   by_cases e2:v=0
   ·subst e2;simp only[ne_eq,zWR,if_false]
    by_cases e3:0<=ep/\ep<=65536/\1<=lim/\lim<=8
    ·rw[zWy (fun hc=>hc e3)];simp only[zG,zj] at hv hc ⊢;exact zW
    ·rw[zWz e3];simp only[zG,zbh,zj] at hv ⊢;clear hc;exact zW
   ·simp only[ne_eq,e2,zXd,if_true,zG,zbh,zj] at hv ⊢;clear hc;exact zW
 ·rw[zWz h];unfold zbo at h;clear hc hv;simp only[zG,zbh,zj];exact zW
theorem zM7(l:List Stripe)(g:Nat)(cs:List D)(p:Stripe->Bool)(hL:l.length<=4294967296)(hp:∀a∈l,zh G g (.d (zG a)::cs.map .d) []=some (.d (.bool (p a)),[])):zh G 250 [.d (.sl (l.map zG)),.d (.fn g cs)] []=some (.d (.int .i64 (zb1 p l)),[]):=by
 have:=zh8 (G:=G) (x:=zrw) (ks:=[]) l.length (atB l p) (fun k=>⟨[(0,.d (.sl (l.map zG))),(1,.d (.fn g cs)),(7,.d (.int .i64 l.length)),(8,.d (.int .i64 k))],[]⟩) (fun k=>(.ret,⟨[(4,.d (.int .i64 k))],[]⟩)) (.exit 0,⟨[],[]⟩) (fun k hk L=>by
  simp only[zrw]
  by_cases h0:k<l.length
  ·have h1:=hp l[k] (zWH h0);simp only[zgA h0]
   cases h2:p l[k]
   ·rw[h2] at h1;simp -implicitDefEqProofs (maxSteps:=4000000) (disch:=omega) only[go_sem,h1,zqn]
   ·rw[h2] at h1;simp -implicitDefEqProofs (maxSteps:=4000000) (disch:=omega) only[go_sem,h1,zqn]
  ·simp -implicitDefEqProofs (maxSteps:=4000000) (disch:=omega) only[go_sem,zW4])
 rw[ziV] at this;simp only[zNr,zp] at this;unfold zb1
 cases h:l.findIdx? p with
 | none=>rw[h] at this;rw[zO zzB (by simp)];simp -implicitDefEqProofs (maxSteps:=4000000) (disch:=omega) only[znb,go_sem,this]
 | some i=>rw[h] at this;rw[zO zzB (by simp)];simp -implicitDefEqProofs (maxSteps:=4000000) (disch:=omega) only[znb,go_sem,this]
theorem zE7(l:List Stripe)(g:Nat)(cs:List D)(p:Stripe->Bool)(hL:l.length<=4294967296)(hp:∀a∈l,zh G g (.d (zG a)::cs.map .d) []=some (.d (.bool (p a)),[])):zh G 179 [.d (.sl (l.map zG)),.d (.fn g cs)] []=some (.d (.bool (l.any p)),[]):=by
 rw[zO zMB (by simp)];simp -implicitDefEqProofs (maxSteps:=4000000) (disch:=omega) only[zp1,go_sem,zM7 l g cs p hL hp,zqW]
def zg2(ep:Int)(p:Int×Int)(s:Stripe):Int×Int:=if s.epoch=ep/\zbo s.seq/\zbo s.ready/\zbo s.leased then (IntKind.i64.wrap (p.1+s.ready),IntKind.i64.wrap (p.2+s.leased)) else p
def zbb(l:List Stripe)(ep:Int)(i:Nat):Int×Int:=(l.take i).foldl (zg2 ep) (0,0)
theorem zsT{l:List Stripe}(ep:Int){i:Nat}(h:i<l.length):zbb l ep (i+1)=zg2 ep (zbb l ep i) l[i]:=by
 unfold zbb;rw[zYG,zWF h,zZi];rfl
def suS(l:List Stripe)(ep:Int)(i:Nat):St:=⟨[(1,.d (.int .i64 ep)),(4,.d (.int .i64 (zbb l ep i).1)),(5,.d (.int .i64 (zbb l ep i).2)),(8,.d (.sl (l.map zG))),(9,.d (.int .i64 l.length)),(10,.d (.int .i64 i))],[]⟩
theorem zU0(l:List Stripe)(ep:Int)(h1:l.length<=4294967296):∀i,i<=l.length->zN G [] zop (suS l ep i)=some (.exit 0,⟨[(4,.d (.int .i64 (zbb l ep l.length).1)),(5,.d (.int .i64 (zbb l ep l.length).2))],[]⟩):=by
 refine zaB (fun i=>l.length - i) (fun i=>i<=l.length) (suS l ep) _ fun i hi L ih=> ?_
 by_cases h0:i<l.length
 ·have i1:=ih (i+1) zo zo;clear ih;have n1:=zr2 l[i].seq;have n2:=zr2 l[i].ready;have n3:=zr2 l[i].leased;generalize zbb l ep l.length=z at *;rw[suS,zsT ep h0] at i1;simp only[suS,zop];generalize zbb l ep i=q at *;obtain⟨q1,q2⟩:=q;unfold zg2 at i1
  by_cases c1:l[i].epoch=ep
  ·by_cases c2:zbo l[i].seq
   ·by_cases c3:zbo l[i].ready
    ·by_cases c4:zbo l[i].leased
     ·simp only[c1,c2,c3,c4,zXs,if_true,decide_true] at i1 n1 n2 n3;simp only[zNr,zp] at i1;have zk0:=zG.eq_1;exact zS
     ·simp only[c1,c2,c3,c4,zYo,zXs,if_false,decide_true,decide_false] at i1 n1 n2 n3;simp only[zNr,zp] at i1;have zk0:=zG.eq_1;exact zS
    ·simp only[c1,c2,c3,zYo,zXF,zXs,if_false,decide_true,decide_false] at i1 n1 n2;simp only[zNr,zp] at i1;have zk0:=zG.eq_1;exact zS
   ·simp only[c1,c2,zYo,zXF,zXs,if_false,decide_true,decide_false] at i1 n1;simp only[zNr,zp] at i1;have zk0:=zG.eq_1;exact zS
  ·simp only[c1,zXF,if_false] at i1;simp only[zNr,zp] at i1;have zk0:=zG.eq_1;exact zS
 ·clear ih;have:i=l.length:=by omega
  subst this;simp only[suS,zop];exact zS
theorem zU3(l:List Stripe)(ep:Int)(h1:l.length<=4294967296):zh G 114 [.d (.sl (l.map zG)),.d (.int .i64 ep)] []=some (.d (.tup [.int .i64 (zbb l ep l.length).1,.int .i64 (zbb l ep l.length).2]),[]):=by
 have hl:=zU0 l ep h1 0 zo;generalize zbb l ep l.length=z at *;simp only[suS,zbb,zXv,zZK,zWV] at hl;exact zW
def zkS(l:List Stripe)(ep:Int)(i:Nat):St:=⟨[(0,.d (.sl (l.map zG))),(1,.d (.int .i64 ep)),(6,.d (.int .i64 (zbb l ep i).1)),(7,.d (.int .i64 (zbb l ep i).2)),(8,.d (.int .i64 i))],[]⟩
theorem zSI(l:List Stripe)(ep:Int)(h1:l.length<=4294967296):∀i,i<=l.length->zN G [] zoj (zkS l ep i)=some (.exit 0,⟨[(6,.d (.int .i64 (zbb l ep l.length).1)),(7,.d (.int .i64 (zbb l ep l.length).2))],[]⟩):=by
 refine zaB (fun i=>l.length - i) (fun i=>i<=l.length) (zkS l ep) _ fun i hi L ih=> ?_
 by_cases h0:i<l.length
 ·have i1:=ih (i+1) zo zo;clear ih;have n1:=zp9 l[i].seq;have n2:=zp9 l[i].ready;have n3:=zp9 l[i].leased;generalize zbb l ep l.length=z at *;rw[zkS,zsT ep h0] at i1;simp only[zkS,zoj];generalize zbb l ep i=q at *;obtain⟨q1,q2⟩:=q;unfold zg2 at i1
  by_cases c1:l[i].epoch=ep
  ·by_cases c2:zbo l[i].seq
   ·by_cases c3:zbo l[i].ready
    ·by_cases c4:zbo l[i].leased
     ·simp only[c1,c2,c3,c4,zXs,if_true,decide_true] at i1 n1 n2 n3;simp only[zNr,zp] at i1;have zk0:=zG.eq_1;exact zS
     ·simp only[c1,c2,c3,c4,zYo,zXs,if_false,decide_true,decide_false] at i1 n1 n2 n3;simp only[zNr,zp] at i1;have zk0:=zG.eq_1;exact zS
    ·simp only[c1,c2,c3,zYo,zXF,zXs,if_false,decide_true,decide_false] at i1 n1 n2;simp only[zNr,zp] at i1;have zk0:=zG.eq_1;exact zS
   ·simp only[c1,c2,zYo,zXF,zXs,if_false,decide_true,decide_false] at i1 n1;simp only[zNr,zp] at i1;have zk0:=zG.eq_1;exact zS
  ·simp only[c1,zXF,if_false] at i1;simp only[zNr,zp] at i1;have zk0:=zG.eq_1;exact zS
 ·clear ih;have:i=l.length:=by omega
  subst this;simp only[zkS,zoj];exact zS
theorem zU1(l:List Stripe)(ep:Int)(h1:l.length<=4294967296):zh G 169 [.d (.sl (l.map zG)),.d (.int .i64 ep)] []=some (.d (.tup [.int .i64 (zbb l ep l.length).1,.int .i64 (zbb l ep l.length).2]),[]):=by
 have hl:=zSI l ep h1 0 zo;generalize zbb l ep l.length=z at *;simp only[zkS,zbb,zXv,zZK,zWV] at hl;exact zW
def ze1(s:Stripe):Bool:=decide (¬s.seq.tmod 2=0)
theorem zQ7(s:Stripe):zh G 180 [.d (zG s)] []=some (.d (.bool (ze1 s)),[]):=by
 unfold ze1;simp only[zG]
 by_cases h:s.seq.tmod 2=0
 ·simp only[h,zWR,decide_false];exact zW
 ·simp only[h,zXd,decide_true];exact zW
theorem zQ8(l:List Stripe)(h1:l.length<=4294967296):zh G 112 [.d (.sl (l.map zG))] []=some (.d (.bool (!l.any ze1)),[]):=by
 have h:=zE7 l 180 [] ze1 h1 (fun a _=>zQ7 a);exact zW
theorem zsl(l:List Stripe)(h1:l.length<=4294967296):zh G 11 [.d (.sl (l.map zG))] []=some (.d (.bool (!l.any ze1)),[]):=by
 have:=zh8 (G:=G) (x:=zrn) (ks:=[]) l.length (atB l ze1) (fun k=>⟨[(0,.d (.sl (l.map zG))),(3,.d (.int .i64 k))],[]⟩) (fun k=>(.ret,⟨[(2,.d (.bool false))],[]⟩)) (.exit 0,⟨[],[]⟩) (fun k hk L=>by
  simp only[zrn]
  by_cases h0:k<l.length
  ·rw[zWz h0];simp only[zgA h0];unfold ze1
   by_cases h1:l[k].seq.tmod 2=0
   ·simp only[h1,zWR,decide_false,zWL,if_false];have zk0:=zG.eq_1;exact zS
   ·simp only[h1,zXd,decide_true,if_true];have zk0:=zG.eq_1;exact zS
  ·rw[zWy h0];exact zS)
 rw[ziV] at this;simp only[zNr,zp] at this
 cases h:l.findIdx? ze1 with
 | none=>
  have e:l.any ze1=false:=zXX.2 fun x hx=>by simpa using zYR.1 h x hx
  rw[h] at this;rw[e];exact zW
 | some i=>
  obtain⟨hi,e,_⟩:=zXP.1 h;have e:l.any ze1=true:=zXG.2 ⟨_,zWH hi,e⟩;rw[h] at this;rw[e];exact zW
theorem zCo{a b:Stripe}(h:¬(¬a.seq=b.seq\/¬a.epoch=b.epoch\/¬a.ready=b.ready\/¬a.leased=b.leased)):a=b:=by
 simp only[not_or,zWO] at h;obtain⟨h1,h2,h3,h4⟩:=h
 cases a;cases b
 simp only at h1 h2 h3 h4;subst h1 h2 h3 h4;rfl
def eqS(a b:List Stripe)(i:Nat):St:=⟨[(0,.d (.sl (a.map zG))),(1,.d (.sl (b.map zG))),(12,.d (.int .i64 a.length)),(13,.d (.int .i64 i))],[]⟩
def zgY(a b:List Stripe)(i:Nat):Bool:=decide (a.drop i=b.drop i)
theorem zB1{a b:List Stripe}{i:Nat}(h0:i<a.length)(h3:i<b.length):zgY a b i=(decide (a[i]=b[i])&&zgY a b (i+1)):=by
 unfold zgY;apply zXm.2;simp only[zWS,decide_eq_true_eq];rw[zXf h0,zXf h3,List.cons.injEq]
theorem zB0{a b:List Stripe}{i:Nat}(h0:a.length<=i)(h3:b.length<=i):zgY a b i=true:=by
 unfold zgY;rw[zZJ h0,zZJ h3];rfl
def eqR(a b:List Stripe)(i:Nat):zT×St:=if zgY a b i=true then (.exit 0,⟨[],[]⟩) else (.ret,⟨[(4,.d (.bool false))],[]⟩)
theorem zG8(a b:List Stripe)(h1:a.length<=4294967296)(h2:b.length=a.length):∀i,i<=a.length->zN G [] zoo (eqS a b i)=some (eqR a b i):=by
 refine zaB (fun i=>a.length - i) (fun i=>i<=a.length) (eqS a b) (fun i=>some (eqR a b i)) fun i hi L ih=> ?_
 by_cases h0:i<a.length
 ·have i1:=ih (i+1) zo zo;clear ih;have h3:i<b.length:=by omega
  unfold eqR at i1 ⊢;rw[zB1 h0 h3];generalize zgY a b (i+1)=bd at *;simp only[eqS] at i1;simp only[zNr,zp] at i1;simp only[eqS,zoo]
  by_cases hm:a[i]=b[i]
  ·simp only[hm,decide_true,zXR];have zk1:=zG.eq_1;exact zS
  ·simp only[hm,decide_false,zXr,zWL,if_false]
   (try simp -implicitDefEqProofs (maxSteps:=4000000) (disch:=omega) only[zG,zq,go_sem, *]);(try simp only[zPr]);repeat' (first|done|rfl|((first|refine za5 (fun hq=> ?_) (fun hq=> ?_)|refine zbd (fun hq=> ?_) (fun hq=> ?_))<;>(try (first|(exfalso;omega)|contradiction))<;>(try simp -implicitDefEqProofs (maxSteps:=4000000) (disch:=omega) only[zG,zq,go_sem, *])<;>(try simp only[zPr])));(all_goals try rfl);(all_goals try (repeat' (first|done|rfl|(exfalso;omega)|contradiction|(refine za6 (fun hq=> ?_) (fun hq=> ?_)))))
   exact absurd (zCo (by assumption)) hm
 ·clear ih;unfold eqR;rw[zB0 zo zo];simp only[eqS,zoo,if_true];simp -implicitDefEqProofs (maxSteps:=4000000) (disch:=omega) only[zq,go_sem, *]
theorem zHm(a b:List Stripe)(h1:a.length<=4294967296)(h2:b.length<=4294967296):zh G 181 [.d (.sl (a.map zG)),.d (.sl (b.map zG))] []=some (.d (.bool (decide (a=b))),[]):=by
 by_cases h:b.length=a.length
 ·have hl:=zG8 a b h1 h 0 zo;unfold eqR at hl;simp only[eqS,zWV] at hl;simp only[zgY,zXg] at hl;generalize decide (a=b)=q at *
  cases q
  ·simp only[zWL,if_false] at hl;exact zW
  ·simp only[if_true] at hl;exact zW
 ·rw[zW0 (fun e=>h (by rw[e]))];exact zW
theorem zTo(a b:List Stripe)(h1:a.length<=4294967296)(h2:b.length<=4294967296):zh G 113 [.d (.sl (a.map zG)),.d (.sl (b.map zG))] []=some (.d (.bool (decide (a=b))),[]):=by
 have h:=zHm a b h1 h2;generalize decide (a=b)=q at *;exact zW
def sqS(a b:List Stripe)(i:Nat):St:=⟨[(0,.d (.sl (a.map zG))),(1,.d (.sl (b.map zG))),(5,.d (.int .i64 i))],[]⟩
theorem zUA(a b:List Stripe)(h1:a.length<=4294967296)(h2:b.length=a.length):∀i,i<=a.length->zN G [] zkg (sqS a b i)=some (eqR a b i):=by
 refine zaB (fun i=>a.length - i) (fun i=>i<=a.length) (sqS a b) (fun i=>some (eqR a b i)) fun i hi L ih=> ?_
 by_cases h0:i<a.length
 ·have i1:=ih (i+1) zo zo;clear ih;have h3:i<b.length:=by omega
  unfold eqR at i1 ⊢;rw[zB1 h0 h3];generalize zgY a b (i+1)=bd at *;simp only[sqS] at i1;simp only[zNr,zp] at i1;simp only[sqS,zkg]
  by_cases hm:a[i]=b[i]
  ·simp only[hm,decide_true,zXR];have zk1:=zG.eq_1;exact zS
  ·simp only[hm,decide_false,zXr,zWL,if_false]
   (try simp -implicitDefEqProofs (maxSteps:=4000000) (disch:=omega) only[zG,zq,go_sem, *]);(try simp only[zPr]);repeat' (first|done|rfl|((first|refine za5 (fun hq=> ?_) (fun hq=> ?_)|refine zbd (fun hq=> ?_) (fun hq=> ?_))<;>(try (first|(exfalso;omega)|contradiction))<;>(try simp -implicitDefEqProofs (maxSteps:=4000000) (disch:=omega) only[zG,zq,go_sem, *])<;>(try simp only[zPr])));(all_goals try rfl);(all_goals try (repeat' (first|done|rfl|(exfalso;omega)|contradiction|(refine za6 (fun hq=> ?_) (fun hq=> ?_)))))
   exact absurd (zCo (by assumption)) hm
 ·clear ih;unfold eqR;rw[zB0 zo zo];simp only[sqS,zkg,if_true];simp -implicitDefEqProofs (maxSteps:=4000000) (disch:=omega) only[zq,go_sem, *]
theorem zTe(a b:List Stripe)(h1:a.length<=4294967296)(h2:b.length<=4294967296):zh G 62 [.d (.sl (a.map zG)),.d (.sl (b.map zG))] []=some (.d (.bool (decide (a=b))),[]):=by
 by_cases h:b.length=a.length
 ·have hl:=zUA a b h1 h 0 zo;unfold eqR at hl;simp only[sqS,zWV] at hl;simp only[zgY,zXg] at hl;generalize decide (a=b)=q at *
  cases q
  ·simp only[zWL,if_false] at hl;exact zW
  ·simp only[if_true] at hl;exact zW
 ·rw[zW0 (fun e=>h (by rw[e]))];exact zW
def zjw(l:List Message):Int:=if zch l≠0 then zch l else if zei (l.map (·.id))=true then 10 else 0
def zcm(d:Dead):Int:=if d.cap<1\/24<d.cap then 1 else if d.cap<d.l.length then 2 else zjw d.l
def zgt(d:Dead):Int:=if zcm d≠0 then 0 else d.cap - d.l.length
def zhw(d:Dead)(l:List Message):Dead×Int:=
 if zcm d≠0 then (za3,zcm d) else if zgt d<l.length then (za3,3) else if zjw (d.l++l)≠0 then (za3,zjw (d.l++l)) else (⟨d.cap,d.l++l⟩,0)
def zdt(k ep:Int):List Message->List Message->List Message->List Message×List Message
 | [],rest,out=>(rest,out)
 | m::l,rest,out=>if (out.length:Int)<k/\¬m.epoch<ep then zdt k ep l rest (out++[m]) else zdt k ep l (rest++[m]) out
def zfV(d:Dead)(k ep:Int):Dead×List Message×Int:=
 if zcm d≠0 then (za3,[],zcm d) else if k<0\/ep<0\/65536<ep then (za3,[],1) else (⟨d.cap,(zdt k ep d.l [] []).1⟩,(zdt k ep d.l [] []).2,0)
def zgF(d:Dead)(ep:Int):Dead×Int×Int:=
 if zcm d≠0 then (za3,0,zcm d) else if ep<0\/65536<ep then (za3,0,1) else (⟨d.cap,d.l.filter fun m=> !decide (m.epoch<ep)⟩,d.l.length - (d.l.filter fun m=> !decide (m.epoch<ep)).length,0)
def zcr(a:zg)(i:Int):Bool:=decide (0<=i/\i<a.slots.length)
def zfK(a:zg)(i:Int):Shard×Int:=if zcr a i=true then ((a.slots.getD i.toNat zdS).shard,0) else (zw,1)
def zaJ(a:zg)(i:Int):Stripe×Int:=if zcr a i=true then (a.stripes.getD i.toNat zbh,0) else (zbh,1)
def zd8(a:zg)(i k:Int):Int:=if zcr a i=false\/zfW k=false then 1 else if (a.slots.getD i.toNat zdS).owner=k then 0 else 13
def stSlot(a:zg)(i k:Int)(s:Shard):zg×Int:=
 if zd8 a i k≠0 then (zB,zd8 a i k) else if zV s≠0 then (zB,zV s) else if s.ready.cells.length≠(a.slots.getD i.toNat zdS).shard.ready.cells.length then (zB,1)
 else ({ a with slots:=a.slots.set i.toNat ⟨(a.slots.getD i.toNat zdS).owner,s⟩ },0)
def zjx(s:Stripe):Bool:=decide (zbo s.seq/\zbo s.epoch/\zbo s.ready/\zbo s.leased)
def stStripe(a:zg)(i k:Int)(s:Stripe):zg×Int:=
 if zd8 a i k≠0 then (zB,zd8 a i k) else if zjx s=false then (zB,1) else ({ a with stripes:=a.stripes.set i.toNat s },0)
def stDead(a:zg)(k:Int)(d:Dead):zg×Int:=
 if zfW k=false then (zB,1) else if a.dead.owner≠k then (zB,13) else if zcm d≠0 then (zB,zcm d) else if d.cap≠a.dead.dead.cap then (zB,1) else ({ a with dead:=⟨a.dead.owner,d⟩ },0)
def casDir(a:zg)(v:Int)(d:zal):zg×Bool×Int:=
 if zbz d≠0 then (zB,false,zbz d) else if d.forward.length≠a.slots.length then (zB,false,1) else if a.dir.version≠v then (a,false,0) else ({ a with dir:=d },true,0)
def zgP(a:zg)(w:Int):Int×Int:=if w=1 then (a.epoch,0) else if w=2 then (a.clock,0) else if w=3 then (a.nextID,0) else (0,9)
def casWord(a:zg)(w old next:Int):zg×Bool×Int:=
 if w≠1/\w≠3 then (zB,false,9) else if w=1/\¬(0<=next/\next<=65536)\/w=3/\¬(1<=next/\next<=1073741824) then (zB,false,1)
 else if (zgP a w).1≠old then (a,false,0) else if w=1 then ({ a with epoch:=next },true,0) else ({ a with nextID:=next },true,0)
def zea(a:zg)(by_:Int):zg×Int:=if ¬(0<=by_/\by_<=1099511627776) then (zB,1) else if 1073741824<a.clock+by_ then (zB,6) else ({ a with clock:=a.clock+by_ },0)
def zcL(a:zg)(s:ziz)(n:Int):ziz×Int:=
 if s.phase=0 then ({ s with epoch:=a.epoch,phase:=1 },0) else if s.phase=1 then ({ s with clock:=a.clock,stamp:=n,phase:=2 },0)
 else if s.phase=2 then (if a.epoch=s.epoch then ({ s with phase:=3 },0) else ({ s with epoch:=a.epoch,phase:=1 },0)) else if s.phase=3 then (zhG,7) else (zhG,1)
def zcp(cells:List Int)(lim:Int):Section×Int:=
 if (zgk cells).2≠0 then (zbU,(zgk cells).2) else if lim<1\/8<lim then (zbU,1) else ({ zbU with lock:=(zgk cells).1,limit:=lim },0)
def zI(s:Section)(ph:Int):Section:={ s with phase:=ph,at_:=0 }
def zds(a:zg)(s:Section):Int:=(s.lock.cells.filter fun c=>decide (c<(a.slots.length:Int))).length
def zft(a:zg)(s:Section)(k:Int):zg×Section×Int:=
 if (zao a s.lock k).2.2=0/\(zao a s.lock k).2.1.phase=3
 then ((zao a s.lock k).1,if zds a s=0 then zI { s with lock:=(zao a s.lock k).2.1 } 2 else zI { s with lock:=(zao a s.lock k).2.1 } 1,0)
 else ((zao a s.lock k).1,{ s with lock:=(zao a s.lock k).2.1 },(zao a s.lock k).2.2)
def zbO(s:Section)(i:Int):Int:=s.lock.cells.getD i.toNat 0
def zez(a:zg)(s:Section)(k:Int):zg×Section×Int:=
 if s.at_.tmod 2=0 then (a,{ s with stripes:=s.stripes++[(zaJ a (zbO s (s.at_.tdiv 2))).1],at_:=s.at_+1 },(zaJ a (zbO s (s.at_.tdiv 2))).2)
 else if (zff (s.stripes.getD (s.at_.tdiv 2).toNat zbh)).2≠0 then (a,s,(zff (s.stripes.getD (s.at_.tdiv 2).toNat zbh)).2)
 else
  let x:=(zff (s.stripes.getD (s.at_.tdiv 2).toNat zbh)).1
  let r:=stStripe a (zbO s (s.at_.tdiv 2)) k x
  let s1:Section:={ s with stripes:=s.stripes.take (s.at_.tdiv 2).toNat++[x],at_:=s.at_+1 }
  (r.1,if r.2=0/\s1.at_=2 * zds r.1 s1 then zI s1 2 else s1,r.2)
def zey(a:zg)(s:Section):zg×Section×Int:=
 let c:=zbO s s.at_
 let s1:Section:=if c=a.slots.length then { s with dead:=a.dead.dead,at_:=s.at_+1 } else { s with shards:=s.shards++[(zfK a c).1],at_:=s.at_+1 }
 (a,if s1.at_=s.lock.cells.length then zI s1 3 else s1,if c=a.slots.length then 0 else (zfK a c).2)
def zgu(a:zg)(s:Section)(n:Int):zg×Section×Int:=
 (a,if (zcL a s.snap n).2=0/\(zcL a s.snap n).1.phase=3 then zI { s with snap:=(zcL a s.snap n).1 } 4 else { s with snap:=(zcL a s.snap n).1 },(zcL a s.snap n).2)
def zcG(s:Section):Section×Int:=if (zb5 s.lock).2≠0 then (s,(zb5 s.lock).2) else (zI { s with lock:=(zb5 s.lock).1 } 8,0)
def zcl(a:zg)(s:Section):zg×Section×Int:=if 0<s.stripes.length then (a,zI s 7,0) else (a,(zcG s).1,(zcG s).2)
def zeB(a:zg)(s:Section)(k:Int):zg×Section×Int:=
 let o:=s.out.order.getD s.at_.toNat 0
 let c:=zbO s o
 let r:=if c=a.slots.length then stDead a k s.out.dead else stSlot a c k (s.out.shards.getD o.toNat zw)
 if r.2≠0 then (r.1,s,r.2)
 else if s.at_+1<s.out.order.length then (r.1,{ s with at_:=s.at_+1,carry:=s.out.carry },0)
 else if 0<s.out.edits.length then (r.1,zI { s with at_:=s.at_+1,carry:=[] } 6,0)
 else zcl r.1 { s with at_:=s.at_+1,carry:=[] }
def zex(a:zg)(s:Section):zg×Section×Int:=
 if s.at_=0 then (a,{ s with dir:=a.dir,at_:=1 },0)
 else
  let d:=zcZ s.dir (s.out.edits.getD 0 zfa)
  if d.2≠0 then (a,s,d.2)
  else
   let r:=casDir a s.dir.version d.1
   if r.2.2≠0 then (a,s,r.2.2) else if r.2.1=false then (r.1,{ s with at_:=0 },0) else zcl r.1 { s with dir:=d.1 }
def zg3(s:Section)(k:Int):Bool:=s.out.order.any fun o=>decide (o=k)
def zeC(a:zg)(s:Section)(k:Int):zg×Section×Int:=
 let now:=if zg3 s s.at_=true then s.out.shards.getD s.at_.toNat zw else s.shards.getD s.at_.toNat zw
 let x:=zfi (s.stripes.getD s.at_.toNat zbh) now s.snap.epoch s.limit
 if x.2≠0 then (a,s,x.2)
 else
  let r:=stStripe a (zbO s s.at_) k x.1
  if r.2≠0 then (r.1,s,r.2)
  else if s.at_+1=s.stripes.length then (r.1,(zcG { s with at_:=s.at_+1 }).1,(zcG { s with at_:=s.at_+1 }).2) else (r.1,{ s with at_:=s.at_+1 },0)
def zfs(a:zg)(s:Section)(k:Int):zg×Section×Int:=
 if (zao a s.lock k).2.2=0/\(zao a s.lock k).2.1.phase=5 then ((zao a s.lock k).1,zI { s with lock:=(zao a s.lock k).2.1 } 9,0)
 else ((zao a s.lock k).1,{ s with lock:=(zao a s.lock k).2.1 },(zao a s.lock k).2.2)
def zeA(a:zg)(s:Section)(k n:Int):zg×Section×Int:=
 if s.phase=0 then zft a s k else if s.phase=1 then zez a s k else if s.phase=2 then zey a s else if s.phase=3 then zgu a s n else if s.phase=5 then zeB a s k
 else if s.phase=6 then zex a s else if s.phase=7 then zeC a s k else if s.phase=8 then zfs a s k else (a,s,7)
def zcb(a:zg)(s:Section)(k n:Int):zg×Section×Int:=if (zeA a s k n).2.2≠0 then (zB,zbU,(zeA a s k n).2.2) else zeA a s k n
def zU(s:Section):zb3:=⟨s.shards,s.dead,[],[],[]⟩
def zif(n:Int)(l:List Int):Bool:=decide ((∀o∈l,0<=o/\o<n)/\l.Nodup)
def zeg(s:Section)(o:zb3):Section×Int:=
 if s.phase≠4 then (zbU,7) else if o.shards.length≠s.shards.length\/1<o.edits.length then (zbU,1) else if zif s.lock.cells.length o.order=false then (zbU,1)
 else if 0<o.order.length then (zI { s with out:=o } 5,0) else if 0<o.edits.length then (zI { s with out:=o } 6,0)
 else ((zcl zB { s with out:=o }).2.1,(zcl zB { s with out:=o }).2.2)
def inI(n lo hi:Int):Bool:=decide (lo<=n/\n<=hi)
def zg6(r:Int):zfd×Int:=if r<0\/65536<=r then (zgx,1) else (⟨r,0⟩,0)
def ze9(w:zfd)(lo hi:Int):zfd×Int:=if lo<0\/w.next<lo\/hi<w.next\/65536<=hi\/w.covered<0\/65536<=w.covered then (zgx,1) else (⟨(hi+1).tmod 65536,w.covered+hi - w.next+1⟩,0)
def zg7(w:zfd):Bool:=decide (65536<=w.covered)
def zb4(i:zaS)(s:Setup):Int:=
 if i.kind=1 then (if i.bodies.length=0\/6<i.bodies.length then 2 else if (i.bodies.any fun b=>decide (16<b.length))=true then 2 else 0)
 else if i.kind=2\/i.kind=8 then (if inI i.home 0 (s.slots - 1)=false\/inI i.max 1 6=false\/i.kind=2/\inI i.visibility 0 1000=false then 1 else 0)
 else if 3<=i.kind/\i.kind<=5 then (if i.tokens.length=0\/6<i.tokens.length then 2 else if i.kind=5/\inI i.visibility 0 1000=false then 1 else 0)
 else if 9<=i.kind/\i.kind<=11 then (if inI i.from_ 0 (s.slots - 1)=false\/inI i.to 0 (s.slots - 1)=false\/i.from_=i.to then 1 else 0)
 else if i.kind=12\/i.kind=14 then (if inI i.from_ 0 (s.slots - 1)=false then 1 else 0)
 else if i.kind=13 then (if i.from_<0\/s.slots<i.from_ then 1 else 0)
 else if i.kind=6\/i.kind=7 then 0 else 9
def zc3(i:zaS):Int:=if i.kind=1 then i.bodies.length else if 3<=i.kind/\i.kind<=5 then i.tokens.length else 1
def zav(s:Setup):Bool:=inI s.slots 1 6&&(inI s.live 1 s.slots&&(inI s.capacity 1 12&&(inI s.dead 1 24&&(inI s.limit 1 8&&(inI s.clock 0 1073741824&&(inI s.nextID 1 1073741824&&inI s.epoch 0 65536))))))
def zcz(number:Int)(i:zaS)(s:Setup)(n:Int):zi×Int:=
 if number<1\/200<number\/n<0 then (zC,1) else if zav s=false then (zC,1) else if zb4 i s≠0 then (zC,zb4 i s) else ({ zC with number:=number,inv:=i,setup:=s,invoked:=n },0)
def zaY(t:zi)(r:Result)(n:Int):zi:=
 { zC with number:=t.number,inv:=t.inv,setup:=t.setup,invoked:=t.invoked,entry:=t.entry+1,done:=if t.entry+1=zc3 t.inv then true else t.done,ended:=if t.entry+1=zc3 t.inv then n else t.ended,results:=t.results++[r] }
def zX(t:zi)(lo hi:Int):Int:=if t.done=true then 7 else if t.inv.kind<lo\/hi<t.inv.kind then 9 else 0
def zcc(t:zi)(cells:List Int)(pc:Int):zi:={ t with sec:=(zcp cells t.setup.limit).1,pc:=pc }
def zdJ(a b:Int):List Int:=if a<b then [a,b] else [b,a]
def goT(a:zg)(t:zi)(n:Int):zg×zi×Bool×Bool×Int:=
 if (zcb a t.sec t.number n).2.2≠0 then (zB,zC,false,false,(zcb a t.sec t.number n).2.2)
 else ((zcb a t.sec t.number n).1,{ t with sec:=(zcb a t.sec t.number n).2.1 },decide ((zcb a t.sec t.number n).2.1.phase=4),decide ((zcb a t.sec t.number n).2.1.phase=9),0)
def za8(t:zi)(o:zb3):zi:={ t with sec:=(zeg t.sec o).1 }
def evT(t:zi)(kind n:Int):Event:={ zbT with stamp:=n,task:=t.number,entry:=t.entry,kind:=kind }
def zck(t:zi)(kind:Int):Event:={ zbT with stamp:=t.sec.snap.stamp,task:=t.number,entry:=t.entry,kind:=kind,now:=t.sec.snap.clock,epoch:=t.sec.snap.epoch }
def zho(a:zg)(t:zi)(route pc:Int):zi:=zcc { t with dir:=a.dir,slot:=zeu a.dir route } [zeu a.dir route] pc
def za2(e:Int):Result:={ z5 with err:=e }
def zdk(a:zg)(t:zi)(n:Int):zg×zi×List Event×Int:=
 if zX t 6 6≠0 then (zB,zC,[],zX t 6 6)
 else if t.pc=0 then (if a.epoch=65536 then (a,zaY { t with loaded:=a.epoch } (za2 6) n,[{ evT t 7 n with err:=6 }],0) else (a,{ t with loaded:=a.epoch,pc:=1 },[],0))
 else
  let c:=casWord a 1 t.loaded (t.loaded+1)
  if c.2.2≠0 then (zB,zC,[],c.2.2) else if c.2.1=false then (c.1,{ t with pc:=0 },[],0) else (c.1,zaY t z5 n,[{ evT t 7 n with epoch:=t.loaded+1 }],0)
def zco(l:List Stripe):Bool:=l.all fun s=> !ze1 s
def zaj(a:zg)(t:zi)(n:Int):zg×zi×List Event×Int:=
 if zX t 7 7≠0 then (zB,zC,[],zX t 7 7)
 else if t.pc=0 then (a,{ t with loaded:=a.epoch,first:=[],second:=[],pc:=1 },[],0)
 else if t.pc=1 then
  (let s:=zaJ a t.first.length
   if s.2≠0 then (zB,zC,[],s.2)
   else
    let l:=t.first++[s.1]
    (a,{ t with first:=l,pc:=if (l.length:Int)=t.setup.slots then (if zco l=true then 2 else 0) else t.pc },[],0))
 else if t.pc=2 then
  (let s:=zaJ a t.second.length
   if s.2≠0 then (zB,zC,[],s.2)
   else
    let l:=t.second++[s.1]
    (a,{ t with id:=if t.second.length=0 then n else t.id,second:=l,pc:=if (l.length:Int)=t.setup.slots then (if t.first=l then 3 else 0) else t.pc },[],0))
 else if a.epoch≠t.loaded then (a,{ t with pc:=0 },[],0)
 else
  let p:=zbb t.first a.epoch t.first.length
  (a,zaY t { z5 with ready:=p.1,leased:=p.2 } n,[{ evT t 8 t.id with epoch:=a.epoch,ready:=p.1,leased:=p.2 }],0)
theorem ztE(a:Int)(m:Int)(h0:0<=m)(h1:m<=4294967295):0<=zjL .i64 a m/\zjL .i64 a m<=m:=by
 unfold zjL;have e:(BitVec.ofInt IntKind.i64.bits m).toNat=m.toNat:=by
  show (BitVec.ofInt 64 m).toNat=m.toNat;rw[BitVec.toNat_ofInt];omega
 have h2:(BitVec.ofInt IntKind.i64.bits a &&& BitVec.ofInt IntKind.i64.bits m).toNat<=m.toNat:=by
  rw[BitVec.toNat_and,e];exact Nat.and_le_right
 rw[wr zo];omega
theorem zWm(a b:Int)(ha:0<=a/\a<65536)(hb:0<=b/\b<65536):0<=zjB .i64 a b/\zjB .i64 a b<65536:=by
 unfold zjB;have e:∀m:Int,0<=m->m<65536->(BitVec.ofInt IntKind.i64.bits m).toNat=m.toNat:=fun m h0 h1=>by
  show (BitVec.ofInt 64 m).toNat=m.toNat;rw[BitVec.toNat_ofInt];omega
 have h2:(BitVec.ofInt IntKind.i64.bits a ^^^ BitVec.ofInt IntKind.i64.bits b).toNat<65536:=by
  rw[BitVec.toNat_xor,e a ha.1 ha.2,e b hb.1 hb.2];exact Nat.xor_lt_two_pow (n:=16) zo zo
 rw[wr zo];omega
def zpd(b:List UInt8)(p:Nat×Int):St:=⟨[(0,.d (.sl (byD b))),(3,.d (.int .i64 p.2)),(4,.d (.int .i64 p.1))],[]⟩
def zCv(r:Option (zT×St)):Prop:=∃h:Int,0<=h/\h<=4294967295/\r=some (.exit 0,⟨[(3,.d (.int .i64 h))],[]⟩)
theorem zU2(b:List UInt8)(hL:b.length<=1000):∀p:Nat×Int,p.1<=b.length/\0<=p.2/\p.2<=4294967295->zCv (zN G [] zq4 (zpd b p)):=by
 refine zl0 (fun p:Nat×Int=>b.length - p.1) _ (zpd b) (fun _=>zbV zCv) fun⟨i,h⟩ ⟨h1,h2,h3⟩ L ih=> ?_;simp only at h1 h2 h3;simp only[zpd,zq4] at ih ⊢
 by_cases h0:i<b.length
 ·have hlt:=b[i].toNat_lt;have hg:(byD b)[i]? = some (.int .u8 b[i].toNat):=by unfold byD;simp [zWF h0]
  have hlen:(byD b).length=b.length:=by unfold byD;simp
  have ha:=fun a=>ztE a 4294967295 zo zo;simp -implicitDefEqProofs (maxSteps:=4000000) (disch:=omega) only[zq,go_sem, *];exact ih (i+1,_) ⟨by simp only;omega,(ha _).1,(ha _).2⟩ (by simp only;omega)
 ·have hlen:(byD b).length=b.length:=by unfold byD;simp
  clear ih;simp -implicitDefEqProofs (maxSteps:=4000000) (disch:=omega) only[zq,go_sem, *];exact⟨h,h2,h3,rfl⟩
theorem zCw(b:List UInt8)(hL:b.length<=1000):∃h:Int,0<=h/\h<=4294967295/\zh G 206 [.d (.sl (byD b))] []=some (.d (.int .i64 h),[]):=by
 obtain⟨h,h1,h2,hl⟩:=zU2 b hL (0,2166136261) ⟨by simp,by simp,by simp⟩;simp only[zpd] at hl;simp only[zNr,zp] at hl;refine⟨h,h1,h2,?_⟩;exact zW
theorem zg4(x:Int):∃c:UInt8,IntKind.u8.wrap x=c.toNat:=by
 have h:=zfG .u8 x;simp only[IntKind.has,IntKind.min,IntKind.max,IntKind.bits,IntKind.signed] at h;simp at h;exact⟨UInt8.ofNat (IntKind.u8.wrap x).toNat,by rw[UInt8.toNat_ofNat'];omega⟩
theorem byS(b:List UInt8):zas 1 (byD b)=true:=by
 unfold byD
 induction b with
 | nil=>rfl
 | cons a l ih=>simp only[zWD,zas,zXL];exact Bool.and_eq_true_iff.2 ⟨rfl,ih⟩
theorem zsk(b:List UInt8)(hb:b.length<=100)(n:Int)(h0:0<=n)(h1:n<=4294967295):∃c:List UInt8,c.length=4/\zh G 205 [.d (.sl (byD b)),.d (.int .i64 n),.d (.int .i64 4)] []=some (.tup [.acc 0 (byD b++byD c),.d (.int .i64 0)],[(0,.acc (b.length+4))]):=by
 have hlen:(byD b).length=b.length:=by unfold byD;simp
 have hS:=byS b;obtain⟨c1,e1⟩:=zg4 (n.fdiv (2 ^ (min 24 64:Nat)));obtain⟨c2,e2⟩:=zg4 (n.fdiv (2 ^ (min 16 64:Nat)));obtain⟨c3,e3⟩:=zg4 (n.fdiv (2 ^ (min 8 64:Nat)));obtain⟨c4,e4⟩:=zg4 (n.fdiv (2 ^ (min 0 64:Nat)));have hw:¬IntKind.i64.wrap (1 * 2 ^ (min 32 64:Nat))<=n:=by
  have:IntKind.i64.wrap (1 * 2 ^ (min 32 64:Nat))=4294967296:=by decide
  omega
 refine⟨[c1,c2,c3,c4],rfl,?_⟩;have hc:byD [c1,c2,c3,c4]=[.int .u8 c1.toNat,.int .u8 c2.toNat,.int .u8 c3.toNat,.int .u8 c4.toNat]:=rfl;rw[hc];generalize byD b=bb at *;rw[zO zqC (by simp)];simp -implicitDefEqProofs (maxSteps:=4000000) (disch:=omega) only[zlg,za0,zlR,zq,go_sem, *];(try simp only[zPr]);repeat' (first|done|rfl|((first|refine za5 (fun hq=> ?_) (fun hq=> ?_)|refine zbd (fun hq=> ?_) (fun hq=> ?_))<;>(try (first|(exfalso;omega)|contradiction))<;>(try simp -implicitDefEqProofs (maxSteps:=4000000) (disch:=omega) only[za0,zlR,zq,go_sem, *])<;>(try simp only[zPr])));(all_goals try rfl);(all_goals try (repeat' (first|done|rfl|(exfalso;omega)|contradiction|(refine za6 (fun hq=> ?_) (fun hq=> ?_)))))
 simp only[zXq,zW1,zWW]
theorem zQZ(b:List UInt8)(hb:b.length<=100)(n:Int)(h0:0<=n)(h1:n<=16777215):∃c:List UInt8,c.length=3/\zh G 205 [.d (.sl (byD b)),.d (.int .i64 n),.d (.int .i64 3)] []=some (.tup [.acc 0 (byD b++byD c),.d (.int .i64 0)],[(0,.acc (b.length+3))]):=by
 have hlen:(byD b).length=b.length:=by unfold byD;simp
 have hS:=byS b;obtain⟨c1,e1⟩:=zg4 (n.fdiv (2 ^ (min 16 64:Nat)));obtain⟨c2,e2⟩:=zg4 (n.fdiv (2 ^ (min 8 64:Nat)));obtain⟨c3,e3⟩:=zg4 (n.fdiv (2 ^ (min 0 64:Nat)));have hw:¬IntKind.i64.wrap (1 * 2 ^ (min 24 64:Nat))<=n:=by
  have:IntKind.i64.wrap (1 * 2 ^ (min 24 64:Nat))=16777216:=by decide
  omega
 refine⟨[c1,c2,c3],rfl,?_⟩;have hc:byD [c1,c2,c3]=[.int .u8 c1.toNat,.int .u8 c2.toNat,.int .u8 c3.toNat]:=rfl;rw[hc];generalize byD b=bb at *;rw[zO zqC (by simp)];simp -implicitDefEqProofs (maxSteps:=4000000) (disch:=omega) only[zlg,za0,zlR,zq,go_sem, *];simp only[zXq,zW1,zWW]
theorem zQY(b:List UInt8)(hb:b.length<=100)(n:Int)(h0:0<=n)(h1:n<=65535):∃c:List UInt8,c.length=2/\zh G 205 [.d (.sl (byD b)),.d (.int .i64 n),.d (.int .i64 2)] []=some (.tup [.acc 0 (byD b++byD c),.d (.int .i64 0)],[(0,.acc (b.length+2))]):=by
 have hlen:(byD b).length=b.length:=by unfold byD;simp
 have hS:=byS b;obtain⟨c1,e1⟩:=zg4 (n.fdiv (2 ^ (min 8 64:Nat)));obtain⟨c2,e2⟩:=zg4 (n.fdiv (2 ^ (min 0 64:Nat)));have hw:¬IntKind.i64.wrap (1 * 2 ^ (min 16 64:Nat))<=n:=by
  have:IntKind.i64.wrap (1 * 2 ^ (min 16 64:Nat))=65536:=by decide
  omega
 refine⟨[c1,c2],rfl,?_⟩;have hc:byD [c1,c2]=[.int .u8 c1.toNat,.int .u8 c2.toNat]:=rfl;rw[hc];generalize byD b=bb at *;rw[zO zqC (by simp)];simp -implicitDefEqProofs (maxSteps:=4000000) (disch:=omega) only[zlg,za0,zlR,zq,go_sem, *];simp only[zXq,zW1,zWW]
theorem zoZ(id:Int):∃r:Int,0<=r/\r<65536/\zh G 154 [.d (.int .i64 id)] []=some (.d (.int .i64 r),[]):=by
 by_cases h0:id<0
 ·refine⟨0,by omega,by omega,?_⟩;exact zW
 ·by_cases h1:1073741824<id
  ·refine⟨0,by omega,by omega,?_⟩;exact zW
  ·obtain⟨b,hb,hp⟩:=zsk [] (by simp) id zo zo;have hn:byD []=[]:=rfl;rw[hn] at hp;simp only[zWW,zWK,zW4] at hp;obtain⟨h,g0,g1,hs⟩:=zCw b zo;have hf:Int.fdiv h (2 ^ (min 16 64:Nat))=h / 65536:=by
    show Int.fdiv h 65536=h / 65536;rw[zZX _ zo]
   have hx:=zWm (h / 65536) (zjL .i64 h 65535) zo (by have:=ztE h 65535 zo zo;omega);refine⟨zjB .i64 (h / 65536) (zjL .i64 h 65535),hx.1,hx.2,?_⟩;exact zW
def zqX(r lo hi:Int):Int:=if lo<=r/\r<=hi then r else lo+r.tmod (hi - lo+1)
theorem zNb(r lo hi:Int)(h0:0<=r)(h1:r<65536)(h2:0<=lo)(h3:lo<=hi)(h4:hi<65536):zh G 198 [.d (.int .i64 r),.d (.int .i64 lo),.d (.int .i64 hi)] []=some (.d (.int .i64 (zqX r lo hi)),[]):=by
 unfold zqX;have hm:=zZl r (show 0<hi - lo+1 by omega);have hm2:=zZg (hi - lo+1) h0;have hne:¬hi - lo+1=0:=by omega
 by_cases c:lo<=r/\r<=hi
 ·rw[zWz c];obtain⟨c1,c2⟩:=c;exact zW
 ·rw[zWy c]
  by_cases c1:lo<=r
  ·have c2:¬r<=hi:=fun h=>c ⟨c1,h⟩;clear c;exact zW
  ·clear c;exact zW
def zbx(l:List zx)(id:Int):Nat:=(l.filter fun x=>decide (x.msg.id<id)).length
theorem zBs(l:List zx)(id:Int):zbx l id<=l.length:=zXJ _ _
theorem zgU{l:List zx}(h:l.Pairwise fun x y=>x.msg.id<y.msg.id){id:Int}:∀ {k:Nat} (hk:k<l.length),k<zbx l id↔l[k].msg.id<id:=by
 induction l with
 | nil=>intro k hk;exact absurd hk (by simp)
 | cons x l ih=>
  intro k hk;obtain⟨h1,h2⟩:=zYC.1 h
  by_cases hx:x.msg.id<id
  ·have e:zbx (x::l) id=zbx l id+1:=by simp [zbx,hx]
   rw[e]
   cases k with
   | zero=>simp [hx]
   | succ k=>have:=ih h2 (k:=k) (by simpa using hk);simp only[zZp];rw[<- this];omega
  ·have e:zbx (x::l) id=0:=by
      unfold zbx;rw[zXk,zY2];intro y hy;simp only[decide_eq_true_eq]
      rcases zXe.1 hy with rfl|hy
      ·exact hx
      ·have:=h1 y hy;omega
   rw[e];have hle:id<=((x::l)[k]).msg.id:=by
    cases k with
    | zero=>simp only[List.getElem_cons_zero];omega
    | succ k=>simp only[zZp];have:=h1 _ (zWH (l:=l) (n:=k) (by simpa using hk));omega
   omega
theorem zyO{l:List zx}(h:l.Pairwise fun x y=>x.msg.id<y.msg.id)(id:Int):(0<=zab l id)↔∃hp:zbx l id<l.length,l[zbx l id].msg.id=id:=by
 constructor
 ·intro h0;obtain⟨k,hk,e1,e2⟩:=zlw h0;have a1:=zgU h (id:=id) hk;have hle:zbx l id<=k:=by omega
  have hpl:zbx l id<l.length:=by omega
  have a2:=zgU h (id:=id) hpl;refine⟨hpl,?_⟩;have:¬zbx l id<k:=fun hlt=>by
   have:=zXu.1 h (zbx l id) k hpl hk hlt;omega
  have:zbx l id=k:=by omega
  simp only[this,e2]
 ·rintro⟨hp,e⟩;have:=zqu h hp;rw[e] at this;omega
theorem zId{l:List zx}(h:l.Pairwise fun x y=>x.msg.id<y.msg.id){id:Int}(h0:0<=zab l id):zab l id=zbx l id:=by
 obtain⟨hp,e⟩:=(zyO h id).1 h0;have:=zqu h hp
 rwa [e] at this
theorem zhD{t:Table}(h:zah t=0):t.l.length<=12/\zeW t.l=0/\zct t.heap=0/\zks t=true:=by
 unfold zah at h
 split at h
 ·cases h
 split at h
 ·omega
 split at h
 ·omega
 split at h
 ·rename_i h1 h2 h3 h4;exact⟨by omega,by simpa using h2,by simpa using h3,h4⟩
 ·cases h
theorem zR2(h:List Due)(id:Int)(hL:h.length<=4294967296):(zcj h id).1.length<=4294967296:=by
 unfold zcj
 split
 ·simp
 ·rename_i h0;have o:=(zfY h).1 (by simpa using h0)
  split
  ·simp
  ·rename_i h1;have hlt:=zyM h id;have:=(zls o (zbt h id).toNat zo).2.length_eq;simp only[zWI] at this;have hh:=o.len;show (zeh h (zbt h id).toNat).length<=_;omega
def zeo(l:List zx)(m:Message)(d:Int):List zx:=l.take (zbx l m.id)++[⟨m,d⟩]++l.drop (zbx l m.id)
def zeU(t:Table)(m:Message)(d:Int):Int:=
 if zah t≠0 then zah t else if zak m≠0 then zak m else if m.gen=0 then 7 else if ¬(0<=d/\d<=1073741824) then 1 else if t.l.length=12 then 3 else if 0<=zab t.l m.id then 10 else (zfP t.heap (d,m.id)).2
def zaG(t:Table)(m:Message)(d:Int):Table×Int:=if zeU t m d=0 then (⟨zeo t.l m d,(zfP t.heap (d,m.id)).1⟩,0) else (zac,zeU t m d)
def zel(t:Table)(id:Int):zx×Bool:=if zah t=0/\0<=zab t.l id then (t.l.getD (zab t.l id).toNat zbZ,true) else (zbZ,false)
def zga(l:List zx)(i:Nat):List zx:=l.take i++l.drop (i+1)
def zfq(t:Table)(id:Int):Int:=if zah t≠0 then zah t else if ¬0<=zab t.l id then 4 else (zcj t.heap id).2
def z8(t:Table)(id:Int):Table×Message×Int:=if zfq t id=0 then (⟨zga t.l (zab t.l id).toNat,(zcj t.heap id).1⟩,(t.l.getD (zab t.l id).toNat zbZ).msg,0) else (zac,z9,zfq t id)
def zek(t:Table)(id d:Int):Int:=if zah t≠0 then zah t else if ¬0<=zab t.l id then 4 else if ¬(0<=d/\d<=1073741824) then 1 else if (zcj t.heap id).2≠0 then (zcj t.heap id).2 else (zfP (zcj t.heap id).1 (d,id)).2
def zkT(l:List zx)(i:Nat)(d:Int):List zx:=l.set i { l.getD i zbZ with deadline:=d }
def zbe(t:Table)(id d:Int):Table×Int:=if zek t id d=0 then (⟨zkT t.l (zab t.l id).toNat d,(zfP (zcj t.heap id).1 (d,id)).1⟩,0) else (zac,zek t id d)
theorem zfM(l:List zx):zeW l=0↔(l.Pairwise fun x y=>x.msg.id<y.msg.id)/\∀x∈l,zak x.msg=0/\x.msg.gen≠0/\0<=x.deadline/\x.deadline<=1073741824:=by
 have h0:zeW l=0↔∀i,i<l.length->zfL l i=0:=by
  rcases zrC l with ⟨k,h1,h2,h3⟩|⟨h1,h2⟩
  ·constructor
   ·intro h;omega
   ·intro h;have:=List.mem_of_find?_eq_some h1;exact absurd (h k (zXx.1 this)) h2
  ·refine⟨fun _ i hi=> ?_,fun _=>h2⟩;have:=List.find?_eq_none.1 h1 i (zXx.2 hi);unfold zgQ at this;simpa using this
 constructor
 ·intro h;refine⟨zh6 h,fun x hx=> ?_⟩;obtain⟨i,hi,rfl⟩:=zYr hx;have:=h0.1 h i hi;unfold zfL at this;rw[zq hi] at this
  split at this
  ·omega
  split at this
  ·omega
  split at this
  ·omega
  rename_i q1 q2 q3;exact⟨by simpa using q1,q2,by omega,by omega⟩
 ·rintro⟨ha,hx⟩;refine h0.2 fun i hi=> ?_;obtain⟨p1,p2,p3,p4⟩:=hx _ (zWH hi);unfold zfL;rw[zq hi,zWy (by simpa using p1),zWy p2,zWy zo,zWy];rintro⟨q1,q2⟩;rw[zq (show i - 1<l.length by omega)] at q2;have:=zXu.1 ha (i - 1) i zo hi zo;omega
theorem zd9(t:Table):zah t=0↔t.l.length<=12/\zeW t.l=0/\Ok t.heap/\t.heap.Perm (t.l.map zbQ):=by
 constructor
 ·intro h;obtain⟨h1,h2,h3,h4⟩:=zhD h;have o:=(zfY _).1 h3;have ha:=zh6 h2;have hR:zkt t=true:=by rw[<- zAR h2 h3];exact h4
  obtain⟨e,q⟩:=(zAQ ha).1 hR;obtain⟨_,q2⟩:=zrO.1 h4;refine⟨h1,h2,o,(List.perm_ext_iff_of_nodup ?_ (ztK ha)).2 fun d=>⟨q d,q2 d⟩⟩;exact List.Pairwise.of_map (fun d:Due=>d.2) (fun a b hab e=>hab (by rw[e])) o.ids
 ·rintro⟨h1,h2,o,hp⟩;have h3:=(zfY _).2 o;have h4:zks t=true:=zrO.2 ⟨by rw[hp.length_eq];simp,fun d hd=>hp.mem_iff.2 hd⟩;unfold zah;rw[zWy zo,zWy (by simpa using h2),zWy (by simpa using h3),zWz h4]
theorem zz5{t:Table}(h:t.heap.Perm (t.l.map zbQ))(id:Int):id∈t.heap.map (·.2)↔∃x∈t.l,x.msg.id=id:=by
 constructor
 ·intro hm;obtain⟨d,hd,e⟩:=zWP.1 hm;obtain⟨x,hx,e2⟩:=zWP.1 (h.mem_iff.1 hd);exact⟨x,hx,by rw[<- e, <- e2];rfl⟩
 ·rintro⟨x,hx,e⟩;exact zWP.2 ⟨zbQ x,h.mem_iff.2 (zWP.2 ⟨x,hx,rfl⟩),e⟩
theorem zhW{l:List zx}(id:Int):0<=zab l id↔∃x∈l,x.msg.id=id:=by
 constructor
 ·intro h;obtain⟨k,hk,_,e⟩:=zlw h;exact⟨l[k],zWH hk,e⟩
 ·rintro⟨x,hx,e⟩
  by_cases h:0<=zab l id
  ·exact h
  ·exact absurd e (zqv zo x hx)
theorem ztk{m:Message}{d:Int}(hm:zak m=0)(h0:0<=d)(h1:d<=1073741824):zeF (d,m.id)=true:=by
 unfold zak at hm
 split at hm
 ·rename_i h;unfold zeF;simp;omega
 ·cases hm
theorem zsj{t:Table}{m:Message}{d:Int}(h:zah t=0)(hm:zak m=0)(h0:0<=d)(h1:d<=1073741824)(hl:t.l.length≠12)(hf:zab t.l m.id<0):
    zfP t.heap (d,m.id)=(zfQ t.heap (d,m.id),0)/\Ok (zfQ t.heap (d,m.id))/\(zfQ t.heap (d,m.id)).Perm ((d,m.id)::t.heap):=by
 obtain⟨q1,q2,q3,q4⟩:=(zd9 t).1 h;refine zsi q3 (ztk hm h0 h1) (by have:=q4.length_eq;simp at this;omega) fun hc=> ?_;have:=(zhW m.id).2 ((zz5 q4 m.id).1 hc);omega
theorem zhj(l:List zx)(m:Message)(d:Int):(zeo l m d).Perm (⟨m,d⟩::l):=by
 unfold zeo;have:=zYD (a:=(⟨m,d⟩:zx)) (l₁:=l.take (zbx l m.id)) (l₂:=l.drop (zbx l m.id));rw[zZQ] at this;rw[zXq];exact this
theorem zM8{l:List zx}(h:l.Pairwise fun x y=>x.msg.id<y.msg.id){m:Message}{d:Int}(hn:∀x∈l,x.msg.id≠m.id):(zeo l m d).Pairwise fun x y=>x.msg.id<y.msg.id:=by
 unfold zeo;have hlt:∀x∈l.take (zbx l m.id),x.msg.id<m.id:=fun x hx=>by
  obtain⟨k,hk,rfl⟩:=zYr hx;simp only[zXY] at hk;rw[List.getElem_take];exact (zgU h zo).1 zo
 have hgt:∀x∈l.drop (zbx l m.id),m.id<x.msg.id:=fun x hx=>by
  obtain⟨k,hk,rfl⟩:=zYr hx;simp only[zYY] at hk;rw[List.getElem_drop];have h1:=zgU h (id:=m.id) (k:=zbx l m.id+k) zo;have h2:=hn _ (zWH (l:=l) (n:=zbx l m.id+k) zo);omega
 rw[zXq,List.pairwise_append];refine⟨h.sublist (List.take_sublist ..),?_,fun a ha b hb=> ?_⟩
 ·rw[zYE,zYC];exact⟨fun x hx=>hgt x hx,h.sublist (List.drop_sublist ..)⟩
 ·rw[zYE,zXe] at hb;have h1:=hlt a ha
  rcases hb with rfl|hb
  ·exact h1
  ·have:=hgt b hb;omega
theorem zzG{t:Table}{m:Message}{d:Int}(h:(zaG t m d).2=0):zah (zaG t m d).1=0/\zah t=0/\(zaG t m d).1.l=zeo t.l m d/\zab t.l m.id<0:=by
 have hE:zeU t m d=0:=by
  unfold zaG at h
  split at h
  ·assumption
  ·rename_i hc;exact absurd h hc
 unfold zaG;rw[zWz hE];unfold zeU at hE
 split at hE
 ·omega
 split at hE
 ·omega
 split at hE
 ·cases hE
 split at hE
 ·cases hE
 split at hE
 ·cases hE
 split at hE
 ·cases hE
 rename_i h1 h2 h3 h4 h5 h6;have h1:zah t=0:=by simpa using h1
 have h2:zak m=0:=by simpa using h2
 obtain⟨p1,p2,p3⟩:=zsj h1 h2 zo (by omega:d<=1073741824) h5 zo;obtain⟨q1,q2,q3,q4⟩:=(zd9 t).1 h1;obtain⟨r1,r2⟩:=(zfM _).1 q2;have hn:∀x∈t.l,x.msg.id≠m.id:=zqv zo;refine⟨(zd9 _).2 ⟨?_,(zfM _).2 ⟨zM8 r1 hn,fun x hx=> ?_⟩,?_,?_⟩,h1,rfl,by omega⟩
 ·have:=(zhj t.l m d).length_eq;simp only[zWI] at this;show (zeo t.l m d).length<=12;omega
 ·rcases zXe.1 ((zhj t.l m d).mem_iff.1 hx) with rfl|hx
  ·exact⟨h2,h3,by simp only;omega,by simp only;omega⟩
  ·exact r2 x hx
 ·rw[p1];exact p2
 ·rw[p1];show (zfQ t.heap (d,m.id)).Perm ((zeo t.l m d).map zbQ);exact p3.trans (((List.Perm.cons _ q4)).trans ((zhj t.l m d).map zbQ).symm)
theorem zMJ{t:Table}{m:Message}{d:Int}(h:zah t=0)(hm:zak m=0)(hg:m.gen≠0)(h0:0<=d)(h1:d<=1073741824)(hl:t.l.length≠12)(hf:zab t.l m.id<0):(zaG t m d).2=0:=by
 have hp:=(zsj h hm h0 h1 hl hf).1;have:zeU t m d=0:=by
  unfold zeU;rw[zWy (by simpa using h),zWy (by simpa using hm),zWy hg,zWy zo,zWy hl,zWy zo,hp]
 unfold zaG;rw[zWz this]
theorem zqh(l:List zx)(i:Nat):zga l i=l.eraseIdx i:=by rw[zga,zZP]
theorem zqi{l:List zx}{i:Nat}(hi:i<l.length):(l[i]::zga l i).Perm l:=by
 have h1:=zYD (a:=l[i]) (l₁:=l.take i) (l₂:=l.drop (i+1));rw[<- zXf hi,zZQ] at h1;exact h1.symm
theorem zGc{t:Table}(h:zah t=0){k:Nat}(hk:k<t.l.length){d:Due}(hd:d∈t.heap)(e:d.2=t.l[k].msg.id):d=zbQ t.l[k]:=by
 obtain⟨q1,q2,q3,q4⟩:=(zd9 t).1 h;obtain⟨x,hx,e2⟩:=zWP.1 (q4.mem_iff.1 hd);obtain⟨j,hj,rfl⟩:=zYr hx;have:j=k:=ztJ (zh6 q2) hj hk (by rw[<- e, <- e2];rfl);subst this;exact e2.symm
theorem zkN{t:Table}{id:Int}(h:zah t=0)(hf:0<=zab t.l id):∃k,∃hk:k<t.l.length,zab t.l id=k/\t.l[k].msg.id=id/\(zcj t.heap id).2=0/\Ok (zcj t.heap id).1/\(zbQ t.l[k]::(zcj t.heap id).1).Perm t.heap:=by
 obtain⟨q1,q2,q3,q4⟩:=(zd9 t).1 h;obtain⟨k,hk,e1,e2⟩:=zlw hf;refine⟨k,hk,e1,e2,?_⟩;have hin:id∈t.heap.map (·.2):=(zz5 q4 id).2 ⟨_,zWH hk,e2⟩;have h0:¬zbt t.heap id<0:=fun hc=>(zyN _ _).1 hc hin;have hlt:=zyM t.heap id;obtain⟨d1,d2⟩:=zls q3 (zbt t.heap id).toNat zo;have hat:=zIc t.heap id zo;have hr:zcj t.heap id=(zeh t.heap (zbt t.heap id).toNat,0):=by
  unfold zcj;rw[zWy (by simpa using (zfY _).2 q3),zWy h0]
 rw[hr];refine⟨rfl,d1,?_⟩;have:t.heap.getD (zbt t.heap id).toNat dz=zbQ t.l[k]:=by
  refine zGc h hk ?_ (by rw[hat,e2]);rw[zq (show (zbt t.heap id).toNat<t.heap.length by omega)];exact zWH _
 rw[<- this];exact d2
theorem zst{t:Table}{id:Int}(h:zah t=0):(z8 t id).2.2=0↔0<=zab t.l id:=by
 constructor
 ·intro h0
  by_cases hf:0<=zab t.l id
  ·exact hf
  ·have e:zfq t id=4:=by unfold zfq;rw[zWy (by simpa using h),zWz hf]
   unfold z8 at h0;rw[e,zWy (by decide)] at h0
   cases h0
 ·intro hf;obtain⟨k,hk,e1,e2,e3,_⟩:=zkN h hf;have e:zfq t id=0:=by unfold zfq;rw[zWy (by simpa using h),zWy zo,e3]
  unfold z8;rw[zWz e]
theorem zsu{t:Table}{id:Int}(h:(z8 t id).2.2=0):zah (z8 t id).1=0/\zah t=0/\∃k,∃hk:k<t.l.length,zab t.l id=k/\t.l[k].msg.id=id/\(z8 t id).1.l=zga t.l k/\(z8 t id).2.1=t.l[k].msg:=by
 have hE:zfq t id=0:=by
  unfold z8 at h
  split at h
  ·assumption
  ·rename_i hc;exact absurd h hc
 have h1:zah t=0:=by
  unfold zfq at hE
  split at hE
  ·omega
  ·rename_i hc;simpa using hc
 have hf:0<=zab t.l id:=(zst h1).1 h;obtain⟨k,hk,e1,e2,e3,e4,e5⟩:=zkN h1 hf;obtain⟨q1,q2,q3,q4⟩:=(zd9 t).1 h1;obtain⟨r1,r2⟩:=(zfM _).1 q2;have hd:z8 t id=(⟨zga t.l k,(zcj t.heap id).1⟩,t.l[k].msg,0):=by
  unfold z8;rw[zWz hE,e1,zXb,zq hk]
 rw[hd];refine⟨(zd9 _).2 ⟨?_,(zfM _).2 ⟨?_,fun x hx=> ?_⟩,e4,?_⟩,h1,k,hk,e1,e2,rfl,rfl⟩
 ·have:=(zqi hk).length_eq;simp only[zWI] at this;show (zga t.l k).length<=12;omega
 ·show (zga t.l k).Pairwise _;rw[zqh];exact r1.sublist (List.eraseIdx_sublist ..)
 ·exact r2 x ((zqi hk).mem_iff.1 (zZO _ hx))
 ·show (zcj t.heap id).1.Perm ((zga t.l k).map zbQ);have h1:=e5.trans (q4.trans ((zqi hk).map zbQ).symm);exact List.Perm.cons_inv h1
theorem zB7{l:List zx}{k:Nat}(hk:k<l.length)(d:Int):zkT l k d=l.set k ⟨l[k].msg,d⟩:=by
 unfold zkT;rw[zq hk]
theorem zT3{l:List Due}{k:Nat}(hk:k<l.length)(b:Due):(l[k]::l.set k b).Perm (b::l):=by
 have:=zB8 l k b hk
 rwa [zq hk] at this
theorem zqs{t:Table}{id d:Int}(h:zah t=0):(zbe t id d).2=0↔0<=zab t.l id/\0<=d/\d<=1073741824:=by
 constructor
 ·intro h0
  by_cases hf:0<=zab t.l id
  ·by_cases hd:0<=d/\d<=1073741824
   ·exact⟨hf,hd⟩
   ·have e:zek t id d=1:=by unfold zek;rw[zWy (by simpa using h),zWy (by simpa using hf),zWz hd]
    unfold zbe at h0;rw[e,zWy (by decide)] at h0
    cases h0
  ·have e:zek t id d=4:=by unfold zek;rw[zWy (by simpa using h),zWz hf]
   unfold zbe at h0;rw[e,zWy (by decide)] at h0
   cases h0
 ·rintro⟨hf,h0,h1⟩;obtain⟨k,hk,e1,e2,e3,e4,e5⟩:=zkN h hf;obtain⟨q1,q2,q3,q4⟩:=(zd9 t).1 h;obtain⟨r1,r2⟩:=(zfM _).1 q2;have hlen:=e5.length_eq;simp only[zWI] at hlen;have hnod:=(List.Perm.nodup_iff (e5.map (·.2))).2 q3.ids;simp only[zWD,zXQ] at hnod;have hp:=zsi e4 (d:=(d,id)) (by have:=ztk (r2 _ (zWH hk)).1 h0 h1;rwa [e2] at this) (by have:=q4.length_eq;simp at this;omega) (by simpa [zbQ,e2] using hnod.1);have e:zek t id d=0:=by unfold zek;rw[zWy (by simpa using h),zWy zo,zWy zo,zWy (by simpa using e3),hp.1]
  unfold zbe;rw[zWz e]
theorem zHD{t:Table}{id d:Int}(h:(zbe t id d).2=0):zah (zbe t id d).1=0/\zah t=0/\∃k,∃hk:k<t.l.length,zab t.l id=k/\t.l[k].msg.id=id/\(zbe t id d).1.l=t.l.set k ⟨t.l[k].msg,d⟩:=by
 have hE:zek t id d=0:=by
  unfold zbe at h
  split at h
  ·assumption
  ·rename_i hc;exact absurd h hc
 have h1:zah t=0:=by
  unfold zek at hE
  split at hE
  ·omega
  ·rename_i hc;simpa using hc
 obtain⟨hf,h0,h2⟩:=(zqs h1).1 h;obtain⟨k,hk,e1,e2,e3,e4,e5⟩:=zkN h1 hf;obtain⟨q1,q2,q3,q4⟩:=(zd9 t).1 h1;obtain⟨r1,r2⟩:=(zfM _).1 q2;have hlen:=e5.length_eq;simp only[zWI] at hlen;have hnod:=(List.Perm.nodup_iff (e5.map (·.2))).2 q3.ids;simp only[zWD,zXQ] at hnod;have hp:=zsi e4 (d:=(d,id)) (by have:=ztk (r2 _ (zWH hk)).1 h0 h2;rwa [e2] at this) (by have:=q4.length_eq;simp at this;omega) (by simpa [zbQ,e2] using hnod.1);have hd:zbe t id d=(⟨t.l.set k ⟨t.l[k].msg,d⟩,zfQ (zcj t.heap id).1 (d,id)⟩,0):=by
  unfold zbe;rw[zWz hE,e1,zXb,zB7 hk,hp.1]
 rw[hd];refine⟨(zd9 _).2 ⟨by simpa using q1,(zfM _).2 ⟨?_,fun x hx=> ?_⟩,hp.2.1,?_⟩,h1,k,hk,e1,e2,rfl⟩
 ·show (t.l.set k ⟨t.l[k].msg,d⟩).Pairwise _;have hm:(t.l.set k ⟨t.l[k].msg,d⟩).map (fun x=>x.msg.id)=t.l.map fun x=>x.msg.id:=by
   rw[zXy];have:(t.l[k].msg.id)=(t.l.map fun x=>x.msg.id)[k]'(by simpa using hk):=by simp
   rw[this,List.set_getElem_self]
  have:=zZR (f:=fun x:zx=>x.msg.id) (R:=fun a b=>a<b) (l:=t.l.set k ⟨t.l[k].msg,d⟩);rw[hm] at this;exact this.1 (zZR.2 r1)
 ·rcases zX7 hx with hx|rfl
  ·exact r2 x hx
  ·obtain⟨a1,a2,_,_⟩:=r2 _ (zWH hk);exact⟨a1,a2,h0,h2⟩
 ·show (zfQ (zcj t.heap id).1 (d,id)).Perm ((t.l.set k ⟨t.l[k].msg,d⟩).map zbQ);refine hp.2.2.trans ?_;rw[zXy];have h3:=zT3 (l:=t.l.map zbQ) (k:=k) (by simpa using hk) (zbQ ⟨t.l[k].msg,d⟩);rw[zY4] at h3;have h4:(zbQ t.l[k]::(d,id)::(zcj t.heap id).1).Perm (zbQ t.l[k]::(t.l.map zbQ).set k (zbQ ⟨t.l[k].msg,d⟩)):=by
   refine (List.Perm.swap ..).trans ?_;refine (List.Perm.cons _ (e5.trans q4)).trans ?_;have:((d,id):Due)=zbQ ⟨t.l[k].msg,d⟩:=by simp [zbQ,e2]
   rw[this];exact h3.symm
  exact List.Perm.cons_inv h4
def gS(t:Table)(m:Message)(d:Int)(k:Nat):St:=⟨[(2,.d (.int .i64 d)),(3,.ref 3 0 0),(4,.ref 4 0 0),(6,.ref 6 0 0),(10,.d (.int .i64 k))],[(3,.row [.d (zan t)]),(4,.row [.d (zk m)]),(6,.row [.agg [.xsl [],.xsl []]])]⟩
theorem zRd(t:Table)(m:Message)(d:Int)(hL:t.l.length<=1000)(h:t.l.Pairwise fun x y=>x.msg.id<y.msg.id):∀k:Nat,k<=zbx t.l m.id->zN G [] zrd (gS t m d k)=some (.exit 1,gS t m d (zbx t.l m.id)):=by
 refine zaB (fun k=>zbx t.l m.id - k) (fun k=>k<=zbx t.l m.id) (gS t m d) _ fun k hk L ih=> ?_;have hpl:=zBs t.l m.id;simp only[gS,zan,zk] at ih ⊢;simp only[zrd]
 by_cases h0:k<t.l.length
 ·have hp:=zgU h (id:=m.id) h0
  by_cases h1:t.l[k].msg.id<m.id
  ·have i1:=ih (k+1) zo zo;clear ih;simp only[zNr,zp] at i1;have zk0:=zaE.eq_1;exact zS
  ·have:k=zbx t.l m.id:=by omega
   subst this;clear ih hp;have zk0:=zaE.eq_1;exact zS
 ·have:k=zbx t.l m.id:=by omega
  subst this;clear ih;have zk0:=zaE.eq_1;exact zS
theorem zBz(t:Table)(m:Message)(d:Int)(hL:t.l.length<=4294967296)(hH:t.heap.length<=4294967296):zh G 287 [.d (zan t),.d (zk m),.d (.int .i64 d)] []=some (.d (.tup [zan (zaG t m d).1,.int .i64 (zaG t m d).2]),[]):=by
 have hv:=zkH t hL hH;rw[zk4] at hv;have hm:=zih m;have hf:=zmn t m.id hL;have hp:=zBG t.heap (d,m.id) hH;simp only[zan,zk,eD,eDE] at hv hm hf hp
 by_cases h1:zah t=0
 ·obtain⟨h12,hE,hD,hM⟩:=zhD h1;have ha:=zh6 hE;have hl:=zRd t m d zo ha 0 zo;simp only[gS,zan,zk] at hl;simp only[zNr,zp] at hl;have hpl:=zBs t.l m.id
  by_cases h2:zak m=0
  ·by_cases h3:m.gen=0
   ·have e:zaG t m d=(zac,7):=by simp [zaG,zeU,h1,h2,h3]
    rw[e];simp only[zan,zk,zac];rw[h1] at hv;rw[h2] at hm;simp only[h3] at hm ⊢;clear hl;exact zW
   ·by_cases h4:0<=d/\d<=1073741824
    ·by_cases h5:t.l.length=12
     ·have e:zaG t m d=(zac,3):=by simp [zaG,zeU,h1,h2,h3,h4,h5]
      rw[e];simp only[zan,zk,zac];clear hl;exact zW
     ·by_cases h6:0<=zab t.l m.id
      ·have e:zaG t m d=(zac,10):=by simp [zaG,zeU,h1,h2,h3,h4,h5,h6]
       rw[e];simp only[zan,zk,zac];clear hl;exact zW
      ·have hps:=(zsj h1 h2 h4.1 h4.2 h5 zo).1;have e:zaG t m d=(⟨zeo t.l m d,(zfP t.heap (d,m.id)).1⟩,0):=by simp [zaG,zeU,h1,h2,h3,h4,h5,h6,hps]
       rw[e];simp only[hps] at hp;simp only[hps,zan,zk,zeo,zWQ,zWD,zWA];have hz1:=zjI (t.l.take (zbx t.l m.id));have hz2:=zjI (t.l.drop (zbx t.l m.id));clear hps e;have zk0:=zaE.eq_1;exact zW
    ·have e:zaG t m d=(zac,1):=by simp [zaG,zeU,h1,h2,h3,h4]
     rw[e];simp only[zan,zk,zac];clear hl
     by_cases h5:d<0
     ·exact zW
     ·have h6:1073741824<d:=by omega
      exact zW
  ·have e:zaG t m d=(zac,zak m):=by simp [zaG,zeU,h1,h2]
   rw[e];simp only[zan,zk,zac];clear hl;exact zW
 ·have e:zaG t m d=(zac,zah t):=by simp [zaG,zeU,h1]
  rw[e];simp only[zan,zk,zac];exact zW
end Go.Proofs.YtjalkkalhdnplaaGreat
