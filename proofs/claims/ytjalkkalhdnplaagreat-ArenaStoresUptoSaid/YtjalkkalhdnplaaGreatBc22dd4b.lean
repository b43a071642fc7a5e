/-
  lease.
-/
import Derived.Test.YtjalkkalhdnplaaGreatB6fbd034
import Derived.Test.YtjalkkalhdnplaaGreatB568fc85
import Derived.Test.YtjalkkalhdnplaaGreatB887f6d6
set_option linter.unusedSimpArgs false
set_option linter.unusedVariables false
set_option maxHeartbeats 10000000
set_option maxRecDepth 100000
namespace Go.Sim
def zdl{α:Type}(φ:α->Prop)(r:α):Prop:=φ r
theorem zM{α:Type}{φ:α->Prop}{c:Prop}[Decidable c]{A B:α}(h1:c->zdl φ A)(h2:¬c->zdl φ B):zdl φ (if c then A else B):=by split<;>simp_all
theorem zdl.some{α:Type}{φ:Option α->Prop}{r:Option α}{a:α}(h:φ (some a))(e:r=some a):zdl φ r:=by rw[e];exact h
attribute [go_sem] Nat.mul_one
end Go.Sim

namespace Go.Proofs.YtjalkkalhdnplaaGreat
open Go Go.Sim
theorem zty:∀(l:List Span) (n m:Int),0<=n->zdj n l=some m->∀x∈l,0<=x.low/\x.low<=x.high/\x.high<65536
 | [],_,_,_,_,x,hx=>by cases hx
 | y::l,n,m,h0,h,x,hx=>by
  rw[zdj] at h
  split at h
  ·rename_i hc
   cases hx with
   | head=>omega
   | tail _ hx=>exact zty l _ m zo h x hx
  ·cases h
theorem zqH{d:zao}(h:zbl d=0):zdj 0 d.l=some 65536:=by
 unfold zbl at h
 split at h
 ·cases h
 split at h
 ·cases h
 rename_i hc;simpa using hc
def ztq(d:zao)(e:zec):zao×Int:=
 if zaR d.l e.from_<0\/0<=zaR d.l e.to then (zdk,7)
 else if e.mid<(d.l.getD (zaR d.l e.from_).toNat zeJ).low\/(d.l.getD (zaR d.l e.from_).toNat zeJ).high<=e.mid then (zdk,1)
 else (⟨d.version+1,d.l.take (zaR d.l e.from_).toNat++[⟨(d.l.getD (zaR d.l e.from_).toNat zeJ).low,e.mid,e.from_⟩,⟨e.mid+1,(d.l.getD (zaR d.l e.from_).toNat zeJ).high,e.to⟩]++d.l.drop ((zaR d.l e.from_).toNat+1),d.forward.set e.to.toNat (-1)⟩,0)
def zsv(d:zao)(e:zec):zao×Int:=
 if zaR d.l e.from_<0\/zaR d.l e.to<0\/(¬zaR d.l e.from_ - zaR d.l e.to=1/\¬zaR d.l e.to - zaR d.l e.from_=1) then (zdk,7)
 else (⟨d.version+1,d.l.take (min (zaR d.l e.from_) (zaR d.l e.to)).toNat++[⟨(d.l.getD (min (zaR d.l e.from_) (zaR d.l e.to)).toNat zeJ).low,(d.l.getD ((min (zaR d.l e.from_) (zaR d.l e.to)).toNat+1) zeJ).high,e.to⟩]++d.l.drop ((min (zaR d.l e.from_) (zaR d.l e.to)).toNat+2),d.forward.set e.from_.toNat e.to⟩,0)
def zgP(d:zao)(e:zec):zao×Int:=
 if zbl d≠0 then (zdk,zbl d)
 else if d.version=1099511627776 then (zdk,6)
 else if ¬e.kind=1/\¬e.kind=2 then (zdk,9)
 else if e.from_<0\/(d.forward.length:Int)<=e.from_\/e.to<0\/(d.forward.length:Int)<=e.to then (zdk,4)
 else if e.kind=1 then ztq d e else zsv d e
theorem zTB(d:zao)(e:zec)(hL:d.l.length<=1000000):zd G 316 [.d (zat d),.d (zfU e)] []=some (.d (.tup [zat (zgP d e).1,.int .i64 (zgP d e).2]),[]):=by
 have hval:=zkx d zo;have i1:=zkw d e.from_ zo;have i2:=zkw d e.to zo;have b1:=znU d.l (fun x=>decide (x.shard=e.from_));have b2:=znU d.l (fun x=>decide (x.shard=e.to));change -1<=zaR d.l e.from_/\zaR d.l e.from_<d.l.length at b1;change -1<=zaR d.l e.to/\zaR d.l e.to<d.l.length at b2;unfold zgP
 by_cases c0:zbl d=0
 ·have hl:=ziu c0;rw[c0] at hval;rw[zYP (by rw[c0];simp)];have htl:=zty d.l 0 65536 zo (zqH c0);clear c0
  by_cases c1:d.version=1099511627776
  ·rw[zYQ c1];exact zW
  rw[zYP c1]
  by_cases c2:¬e.kind=1/\¬e.kind=2
  ·rw[zYQ c2];obtain⟨c2,c3⟩:=c2;exact zW
  rw[zYP c2]
  by_cases c3:e.from_<0\/(d.forward.length:Int)<=e.from_\/e.to<0\/(d.forward.length:Int)<=e.to
  ·rw[zYQ c3];have c4:e.kind=1\/e.kind=2:=by omega
   clear c2
   rcases c4 with c4|c4
   ·exact zW
   ·exact zW
  rw[zYP c3];unfold ztq zsv;generalize zaR d.l e.from_=i at *;generalize zaR d.l e.to=k at *
  by_cases c4:e.kind=1
  ·rw[zYQ c4];clear c2
   by_cases c5:i<0\/0<=k
   ·rw[zYQ c5];exact zW
   rw[zYP c5];have hlt:i.toNat<d.l.length:=by omega
   obtain⟨iN,hiN⟩:∃n:Nat,i=n:=⟨i.toNat,by omega⟩;subst hiN;simp only[zZz] at hlt ⊢;rw[zg hlt]
   by_cases c6:e.mid<d.l[iN].low\/d.l[iN].high<=e.mid
   ·rw[zYQ c6];exact zW
   rw[zYP c6];have hti:=htl d.l[iN] (zY4 _);clear htl
   by_cases c7:iN=0
   ·subst c7;rw[zB zjQ (by simp)];simp -implicitDefEqProofs (maxSteps:=4000000) (disch:=omega) only[zhu,zg,go_sem, *];(try simp only[zPr]);repeat' (first|done|rfl|((first|refine zG (fun hq=> ?_) (fun hq=> ?_)|refine zM (fun hq=> ?_) (fun hq=> ?_))<;>(try (first|(exfalso;omega)|contradiction))<;>(try simp -implicitDefEqProofs (maxSteps:=4000000) (disch:=omega) only[zg,go_sem, *])<;>(try simp only[zPr])));(all_goals try rfl);(all_goals try (repeat' (first|done|rfl|(exfalso;omega)|contradiction|(refine zI (fun hq=> ?_) (fun hq=> ?_)))))
    all_goals simp only[zat,zbW,zg6,zYU,zY5,zYS,zZb,zZE,zZh]
   ·rw[zB zjQ (by simp)];simp -implicitDefEqProofs (maxSteps:=4000000) (disch:=omega) only[zhu,zg,go_sem, *];(try simp only[zPr]);repeat' (first|done|rfl|((first|refine zG (fun hq=> ?_) (fun hq=> ?_)|refine zM (fun hq=> ?_) (fun hq=> ?_))<;>(try (first|(exfalso;omega)|contradiction))<;>(try simp -implicitDefEqProofs (maxSteps:=4000000) (disch:=omega) only[zg,go_sem, *])<;>(try simp only[zPr])));(all_goals try rfl);(all_goals try (repeat' (first|done|rfl|(exfalso;omega)|contradiction|(refine zI (fun hq=> ?_) (fun hq=> ?_)))))
    all_goals simp only[zat,zbW,zg6,zYU,zY5,zYS,zZb,zZE,zZh,zZF]
  ·rw[zYP c4];have hk2:e.kind=2:=by omega
   clear c2
   by_cases c5:i<0\/k<0\/¬i - k=1/\¬k - i=1
   ·rw[zYQ c5];exact zW
   rw[zYP c5];obtain⟨iN,hiN⟩:∃n:Nat,i=n:=⟨i.toNat,by omega⟩;obtain⟨kN,hkN⟩:∃n:Nat,k=n:=⟨k.toNat,by omega⟩;subst hiN hkN;obtain⟨f,hf⟩:∃f:Nat,min (iN:Int) (kN:Int)=f:=⟨(min (iN:Int) (kN:Int)).toNat,by omega⟩;have hlt:f+1<d.l.length:=by omega
   have hti:=htl d.l[f] (zY4 _);have hti2:=htl d.l[f+1] (zY4 _);clear htl;rw[hf,zZz,zg (show f<d.l.length by omega),zg hlt];have hcase:(iN=f/\kN=f+1)\/(iN=f+1/\kN=f):=by omega
   have e2:((f:Int)+1).toNat=f+1:=by omega
   have e3:((f:Int)+2).toNat=f+2:=by omega
   clear hf
   rcases hcase with ⟨q1,q2⟩|⟨q1,q2⟩
   ·subst q1 q2
    by_cases c7:iN=0
    ·subst c7;rw[zB zjQ (by simp)];simp -implicitDefEqProofs (maxSteps:=4000000) (disch:=omega) only[zhu,e2,e3,zg,go_sem, *];(try simp only[zPr]);repeat' (first|done|rfl|((first|refine zG (fun hq=> ?_) (fun hq=> ?_)|refine zM (fun hq=> ?_) (fun hq=> ?_))<;>(try (first|(exfalso;omega)|contradiction))<;>(try simp -implicitDefEqProofs (maxSteps:=4000000) (disch:=omega) only[e2,e3,zg,go_sem, *])<;>(try simp only[zPr])));(all_goals try rfl);(all_goals try (repeat' (first|done|rfl|(exfalso;omega)|contradiction|(refine zI (fun hq=> ?_) (fun hq=> ?_)))))
     all_goals simp only[zat,zbW,zg6,zYU,zY5,zYS,zZb,zZE,zZh]
    ·rw[zB zjQ (by simp)];simp -implicitDefEqProofs (maxSteps:=4000000) (disch:=omega) only[zhu,e2,e3,zg,go_sem, *];(try simp only[zPr]);repeat' (first|done|rfl|((first|refine zG (fun hq=> ?_) (fun hq=> ?_)|refine zM (fun hq=> ?_) (fun hq=> ?_))<;>(try (first|(exfalso;omega)|contradiction))<;>(try simp -implicitDefEqProofs (maxSteps:=4000000) (disch:=omega) only[e2,e3,zg,go_sem, *])<;>(try simp only[zPr])));(all_goals try rfl);(all_goals try (repeat' (first|done|rfl|(exfalso;omega)|contradiction|(refine zI (fun hq=> ?_) (fun hq=> ?_)))))
     all_goals simp only[zat,zbW,zg6,zYU,zY5,zYS,zZb,zZE,zZh,zZF]
   ·subst q1 q2
    by_cases c7:kN=0
    ·subst c7;rw[zB zjQ (by simp)];simp -implicitDefEqProofs (maxSteps:=4000000) (disch:=omega) only[zhu,e2,e3,zg,go_sem, *];(try simp only[zPr]);repeat' (first|done|rfl|((first|refine zG (fun hq=> ?_) (fun hq=> ?_)|refine zM (fun hq=> ?_) (fun hq=> ?_))<;>(try (first|(exfalso;omega)|contradiction))<;>(try simp -implicitDefEqProofs (maxSteps:=4000000) (disch:=omega) only[e2,e3,zg,go_sem, *])<;>(try simp only[zPr])));(all_goals try rfl);(all_goals try (repeat' (first|done|rfl|(exfalso;omega)|contradiction|(refine zI (fun hq=> ?_) (fun hq=> ?_)))))
     all_goals simp only[zat,zbW,zg6,zYU,zY5,zYS,zZb,zZE,zZh]
    ·rw[zB zjQ (by simp)];simp -implicitDefEqProofs (maxSteps:=4000000) (disch:=omega) only[zhu,e2,e3,zg,go_sem, *];(try simp only[zPr]);repeat' (first|done|rfl|((first|refine zG (fun hq=> ?_) (fun hq=> ?_)|refine zM (fun hq=> ?_) (fun hq=> ?_))<;>(try (first|(exfalso;omega)|contradiction))<;>(try simp -implicitDefEqProofs (maxSteps:=4000000) (disch:=omega) only[e2,e3,zg,go_sem, *])<;>(try simp only[zPr])));(all_goals try rfl);(all_goals try (repeat' (first|done|rfl|(exfalso;omega)|contradiction|(refine zI (fun hq=> ?_) (fun hq=> ?_)))))
     all_goals simp only[zat,zbW,zg6,zYU,zY5,zYS,zZb,zZE,zZh,zZF]
 ·rw[zYQ c0];exact zW
theorem zRp(n k:Int)(x:D)(es:List (Int×D)):zcQ n (zdW k x es)=if k=n then some x else zcQ n es:=by
 induction es with
 | nil=>simp only[zdW,zcQ]
 | cons p es ih=>
  obtain⟨j,y⟩:=p;simp only[zdW]
  by_cases h:j=k
  ·subst h;simp only[if_true,zcQ]
   by_cases h2:j=n
   ·simp only[h2,if_true]
   ·simp only[h2,if_false]
  ·simp only[h,if_false,zcQ,ih]
   by_cases h2:j=n
   ·subst h2;simp only[if_true,show ¬k=j from fun e=>h e.symm,if_false]
   ·simp only[h2,if_false]
def zdw(ids:List Int):List (Int×D):=ids.foldl (fun es n=>zdW n (.bool true) es) []
theorem zth(ids:List Int)(n:Int):zdw (ids++[n])=zdW n (.bool true) (zdw ids):=by simp [zdw,z1Y]
theorem zRo(n:Int)(ids:List Int)(es:List (Int×D)):zcQ n (ids.foldl (fun es n=>zdW n (.bool true) es) es)=if n∈ids then some (.bool true) else zcQ n es:=by
 induction ids generalizing es with
 | nil=>simp
 | cons a ids ih=>
  rw[z1M,ih,zRp]
  by_cases h:n∈ids
  ·simp [h]
  ·by_cases h2:a=n
   ·simp [h2]
   ·simp [h,h2,show ¬n=a from fun e=>h2 e.symm]
theorem zsx(n:Int)(ids:List Int):zcQ n (zdw ids)=if n∈ids then some (.bool true) else none:=by
 unfold zdw;rw[zRo];rfl
def zaS(ids:List Int):Bool:=decide (¬ids.Nodup)
theorem zqM(ids:List Int)(n:Int):zaS (ids++[n])=(zaS ids||decide (n∈ids)):=by
 unfold zaS;apply zZB.2;simp only[zZM,decide_eq_true_eq,z0e,zZS,z0J,zZm,z1v,zZI,zZZ,zZt,forall_eq];constructor
 ·intro h
  by_cases h1:ids.Nodup
  ·right;refine Classical.byContradiction fun h2=>h ⟨h1,fun a ha e=>h2 (e ▸ ha)⟩
  ·exact .inl h1
 ·rintro (h|h) ⟨h1,h2⟩
  ·exact h h1
  ·exact h2 n h rfl
def zbb(l:List Message):Int:=match l with
 | []=>0
 | m::l=>if zZ m≠0 then zZ m else zbb l
def zu(r:z8):List Message:=(List.range r.size.toNat).map fun i=>r.cells.getD ((r.head.toNat+i) % r.cells.length) zX
def zfu(r:z8):Prop:=1<=r.cells.length/\r.cells.length<=12/\0<=r.head/\r.head<r.cells.length/\0<=r.size/\r.size<=r.cells.length
instance (r:z8):Decidable (zfu r):=by unfold zfu;exact inferInstance
def zcI(r:z8)(i n:Nat):Bool:=(List.range' i (n - i)).any fun j=>decide (r.cells.getD ((r.head.toNat+j) % r.cells.length) zX≠zX)
def zau(r:z8):Int:=if ¬zfu r then 1 else if zcI r r.size.toNat r.cells.length=true then 7 else if zbb (zu r)≠0 then zbb (zu r) else if zaS ((zu r).map (·.id))=true then 10 else 0
theorem zUw(r:z8){i n:Nat}(h:i<n):zcI r i n=(decide (r.cells.getD ((r.head.toNat+i) % r.cells.length) zX≠zX)||zcI r (i+1) n):=by
 unfold zcI;rw[show n - i=(n - (i+1))+1 by omega,z0c,z0l]
theorem zDz(r:z8){i n:Nat}(h:¬i<n):zcI r i n=false:=by
 unfold zcI;rw[show n - i=0 by omega];rfl
theorem znF{l:List Message}{k:Nat}(h:k<l.length):zbb (l.drop k)=if zZ l[k]≠0 then zZ l[k] else zbb (l.drop (k+1)):=by
 rw[zZr h];rfl
def zaF(l:List Message)(id:Int):Int:=zbf (fun m:Message=>decide (m.id=id)) l
theorem zAP{l:List Message}{k:Nat}(h:k<l.length):zaF l l[k].id=k↔∀j (hj:j<k),l[j].id≠l[k].id:=by
 unfold zaF zbf
 cases hf:l.findIdx? (fun m:Message=>decide (m.id=l[k].id)) with
 | none=>
  have:=z0Z.1 hf l[k] (zY4 h);simp at this
 | some i=>
  obtain⟨hi,e,hn⟩:=zZV.1 hf;simp only[decide_eq_true_eq] at e hn;constructor
  ·intro e2 j hj;have:i=k:=by simp at e2;omega
   subst this;exact hn j hj
  ·intro ha
   by_cases h1:i<k
   ·exact absurd e (ha i h1)
   ·by_cases h2:k<i
    ·exact absurd rfl (hn k h2)
    ·simp;omega
def zeX(l:List Message)(k:Nat):Bool:=(List.range' k (l.length - k)).any fun i=>decide (zaF l (l.getD i zX).id≠i)
theorem zsg(l:List Message){k:Nat}(h:k<l.length):zeX l k=(decide (zaF l l[k].id≠k)||zeX l (k+1)):=by
 unfold zeX;rw[show l.length - k=(l.length - (k+1))+1 by omega,z0c,z0l,zg h]
theorem zsf(l:List Message){k:Nat}(h:¬k<l.length):zeX l k=false:=by
 unfold zeX;rw[show l.length - k=0 by omega];rfl
theorem zse(l:List Message):zeX l 0=zaS (l.map (·.id)):=by
 apply zZB.2;unfold zeX zaS;simp only[z0f,zZW,z0S,decide_eq_true_eq,z1A,zZ4,zY3,z1k];constructor
 ·rintro⟨i,⟨_,hi⟩,hne⟩ hall;simp only[zZj] at hi;rw[zg hi] at hne;exact hne ((zAP hi).2 fun j hj=>hall j i zo hi hj)
 ·intro hn;refine Classical.byContradiction fun hc=>hn fun i j hi hj hij=> ?_;have:zaF l l[j].id=j:=Classical.byContradiction fun hc2=>hc ⟨j,⟨by omega,by omega⟩,by rw[zg hj];exact hc2⟩;exact (zAP hj).1 this i hij
def zav(s:Shard):List Message:=zu s.ready++s.leases.l.map (·.msg)
def zCw(s:Shard)(l:List Message):Bool:=l.any fun m=>decide (¬(s.low<=m.route/\m.route<=s.high))
def zmH(s:Shard):Int:=s.ready.size+s.leases.l.length
def zU(s:Shard):Int:=
 if zau s.ready≠0 then zau s.ready
 else if zac s.leases≠0 then zac s.leases
 else if s.live=false then (if s.low≠0\/s.high≠0\/0<zmH s then 7 else 0)
 else if ¬(0<=s.low/\s.low<=s.high/\s.high<65536) then 1
 else if s.ready.cells.length<zmH s then 3
 else if zCw s (zav s)=true then 12
 else if zaS ((zav s).map (·.id))=true then 10 else 0
theorem zgw(r:z8):(zu r).length=r.size.toNat:=by simp [zu]
theorem zch{r:z8}(h:zau r=0):zfu r:=by
 unfold zau at h
 split at h
 ·exact absurd h (by decide)
 ·rename_i hc;exact zY9.1 hc
def zak(c:List Message)(h k:Nat):List Message:=(List.range k).map fun i=>c.getD ((h+i) % c.length) zX
theorem zC0(c:List Message)(h k:Nat):zak c h (k+1)=zak c h k++[c.getD ((h+k) % c.length) zX]:=by
 simp [zak,z11]
theorem zgx(c:List Message)(h k:Nat):(zak c h k).length=k:=by simp [zak]
theorem zyA(c:List Message)(h z i:Nat)(h0:0<c.length)(h1:c.length<=12)(h2:h<=12)(h3:i<=12):zd G 188 [.d (.agg [.sl (c.map zj),.int .i64 h,.int .i64 z]),.d (.int .i64 i)] []=some (.d (.int .i64 ((h+i) % c.length:Nat)),[]):=by
 have e:((h:Int)+i).tmod c.length=(((h+i) % c.length:Nat):Int):=by rw[<- zZR, <- z1j]
 exact zW
def zka(c:List Message)(h z i:Nat):St:=⟨[(1,.ref 1 0 0),(3,.acc 3 ((zak c h i).map zj)),(6,.d (.int .i64 z)),(7,.d (.int .i64 i))],[(1,.row [.d (.agg [.sl (c.map zj),.int .i64 h,.int .i64 z])]),(3,.acc (zak c h i).length)]⟩
theorem zQB(c:List Message)(h z:Nat)(h1:c.length<=12)(h2:h<c.length)(h3:z<=c.length):∀i,i<=z->zP G [] zoy (zka c h z i)=some (.exit 0,⟨[(3,.acc 3 ((zak c h z).map zj))],[(3,.acc (zak c h z).length)]⟩):=by
 refine zaq (fun i=>z - i) (fun i=>i<=z) (zka c h z) _ fun i hi L ih=> ?_
 by_cases h0:i<z
 ·have i1:=ih (i+1) zo zo;clear ih;have hc:=zyA c h z i zo h1 zo zo;have hj:(h+i) % c.length<c.length:=zZO _ zo;have hl:=zgx c h i;rw[zka,zC0] at i1;generalize (h+i) % c.length=j at *;rw[zg hj] at i1;simp only[zY5,zYU,zYS,zYZ,zZp,hl] at i1;simp only[zka,hl,zoy];generalize zak c h i=w at *;simp only[zNr,zp] at i1;exact zS
 ·clear ih;have:i=z:=by omega
  subst this;simp only[zka,zoy];exact zS
theorem zB9(c:List Message)(h z:Nat)(h1:c.length<=12)(h2:h<c.length)(h3:z<=c.length):zd G 189 [.d (.agg [.sl (c.map zj),.int .i64 h,.int .i64 z])] []=some (.acc 0 ((zak c h z).map zj),[(0,.acc (zak c h z).length)]):=by
 have hl:=zQB c h z h1 h2 h3 0 zo;simp only[zka,zak,z12,zYS,zYY] at hl;simp only[zNr,zp] at hl;have zk0:=zak.eq_1;exact zW
theorem ziG(l:List Message)(id:Int)(hL:l.length<=4294967296):zd G 130 [.d (.sl (l.map zj)),.d (.int .i64 id)] []=some (.d (.int .i64 (zaF l id)),[]):=by
 have:=zg4 (G:=G) (x:=zrL) (ks:=[]) l.length (atB l fun m:Message=>decide (m.id=id)) (fun k=>⟨[(0,.d (.sl (l.map zj))),(1,.d (.int .i64 id)),(5,.d (.int .i64 k))],[]⟩) (fun k=>(.ret,⟨[(4,.d (.int .i64 k))],[]⟩)) (.exit 0,⟨[],[]⟩) (fun k hk L=>by
  simp only[zrL]
  by_cases h0:k<l.length
  ·rw[zYQ h0];simp only[zeO h0]
   by_cases h1:l[k].id=id
   ·simp only[h1,decide_true,if_true];have zk0:=zj.eq_1;exact zS
   ·simp only[h1,decide_false,zYX,if_false];have zk0:=zj.eq_1;exact zS
  ·rw[zYP h0];exact zS)
 rw[ziB] at this;simp only[zNr,zp] at this;unfold zaF zbf
 cases h:l.findIdx? (fun m:Message=>decide (m.id=id)) with
 | none=>rw[h] at this;exact zW
 | some i=>rw[h] at this;exact zW
def zkr(c:List Message)(h z i:Nat):St:=⟨[(1,.ref 1 0 0),(3,.acc 3 ((zak c h i).map zj)),(4,.d (.int .i64 i))],[(1,.row [.d (.agg [.sl (c.map zj),.int .i64 h,.int .i64 z])]),(3,.acc (zak c h i).length)]⟩
theorem zSC(c:List Message)(h z:Nat)(h1:c.length<=12)(h2:h<c.length)(h3:z<=c.length):∀i,i<=z->zP G [] zn9 (zkr c h z i)=some (.exit 0,⟨[(3,.acc 3 ((zak c h z).map zj))],[(3,.acc (zak c h z).length)]⟩):=by
 refine zaq (fun i=>z - i) (fun i=>i<=z) (zkr c h z) _ fun i hi L ih=> ?_
 by_cases h0:i<z
 ·have i1:=ih (i+1) zo zo;clear ih;have e:((h:Int)+i).tmod c.length=(((h+i) % c.length:Nat):Int):=by rw[<- zZR, <- z1j]
  have hj:(h+i) % c.length<c.length:=zZO _ zo;have hl:=zgx c h i;rw[zkr,zC0] at i1;generalize (h+i) % c.length=j at *;rw[zg hj] at i1;simp only[zY5,zYU,zYS,zYZ,zZp,hl] at i1;simp only[zkr,hl,zn9];generalize zak c h i=w at *;simp only[zNr,zp] at i1;exact zS
 ·clear ih;have:i=z:=by omega
  subst this;simp only[zkr,zn9];exact zS
theorem zi1(c:List Message)(h z:Nat)(h1:c.length<=12)(h2:h<c.length)(h3:z<=c.length):zd G 147 [.d (.agg [.sl (c.map zj),.int .i64 h,.int .i64 z])] []=some (.acc 0 ((zak c h z).map zj),[(0,.acc (zak c h z).length)]):=by
 have hl:=zSC c h z h1 h2 h3 0 zo;simp only[zkr,zak,z12,zYS,zYY] at hl;simp only[zNr,zp] at hl;have zk0:=zak.eq_1;exact zW
theorem zE2{m:Message}(h:¬(¬m.id=0\/¬m.route=0\/¬m.epoch=0\/¬m.count=0\/¬m.gen=0\/¬m.sent=0\/¬m.body=[])):m=zX:=by
 simp only[not_or,zY9] at h;obtain⟨a,b,c,d,e,f,g⟩:=h
 cases m
 simp only at a b c d e f g;subst a b c d e f g;rfl
theorem zDA(c:List Message)(h:Nat)(z:Int){i n:Nat}(h0:i<n):zcI ⟨c,h,z⟩ i n=(decide (c.getD ((h+i) % c.length) zX≠zX)||zcI ⟨c,h,z⟩ (i+1) n):=zUw ⟨c,h,z⟩ h0
def rgS(c:List Message)(h z i:Nat):St:=⟨[(1,.ref 1 0 0),(3,.d (.int .i64 c.length)),(4,.d (.int .i64 i))],[(1,.row [.d (.agg [.sl (c.map zj),.int .i64 h,.int .i64 z])])]⟩
def rgR(c:List Message)(h z i:Nat):zR×St:=if zcI ⟨c,h,z⟩ i c.length=true then (.ret,⟨[(2,.d (.int .i64 7))],[]⟩) else (.exit 0,⟨[(1,.ref 1 0 0)],[(1,.row [.d (.agg [.sl (c.map zj),.int .i64 h,.int .i64 z])])]⟩)
theorem zUx(c:List Message)(h z:Nat)(h1:c.length<=12)(h2:h<c.length):∀i,i<=c.length->zP G [] zow (rgS c h z i)=some (rgR c h z i):=by
 refine zaq (fun i=>c.length - i) (fun i=>i<=c.length) (rgS c h z) (fun i=>some (rgR c h z i)) fun i hi L ih=> ?_
 by_cases h0:i<c.length
 ·have i1:=ih (i+1) zo zo;clear ih;have hc:=zyA c h z i zo h1 zo zo;have hj:(h+i) % c.length<c.length:=zZO _ zo;unfold rgR at i1 ⊢;rw[zDA _ _ _ h0];generalize (h+i) % c.length=j at *;rw[zg hj];generalize zcI ⟨c,h,z⟩ (i+1) c.length=bb at *;simp only[rgS] at i1;simp only[zNr,zp] at i1;simp only[rgS,zow]
  by_cases hm:c[j]=zX
  ·rw[hm];simp only[ne_eq,zY2,decide_false,zZY];simp -implicitDefEqProofs (maxSteps:=4000000) (disch:=omega) only[hm,zX,zj,zg,go_sem, *]
  ·simp only[ne_eq,hm,zZm,decide_true,z0t,if_true]
   (try simp -implicitDefEqProofs (maxSteps:=4000000) (disch:=omega) only[zj,zg,go_sem, *]);(try simp only[zPr]);repeat' (first|done|rfl|((first|refine zG (fun hq=> ?_) (fun hq=> ?_)|refine zM (fun hq=> ?_) (fun hq=> ?_))<;>(try (first|(exfalso;omega)|contradiction))<;>(try simp -implicitDefEqProofs (maxSteps:=4000000) (disch:=omega) only[zj,zg,go_sem, *])<;>(try simp only[zPr])));(all_goals try rfl);(all_goals try (repeat' (first|done|rfl|(exfalso;omega)|contradiction|(refine zI (fun hq=> ?_) (fun hq=> ?_)))))
   exact absurd (zE2 (by assumption)) hm
 ·clear ih;unfold rgR;rw[zDz _ h0];simp only[rgS,zow,zYX,if_false];simp -implicitDefEqProofs (maxSteps:=4000000) (disch:=omega) only[zg,go_sem, *]
def za7(l:List Message)(i:Nat):List Int:=(l.take i).map (·.id)
theorem znT{l:List Message}{i:Nat}(h:i<l.length):za7 l (i+1)=za7 l i++[l[i].id]:=by
 unfold za7;rw[z1i,zY1 h,zY5];rfl
def rvS(l:List Message)(i:Nat):St:=⟨[(5,.mpr 57),(6,.d (.bool (zaS (za7 l i)))),(59,.acc 59 (l.map zj)),(60,.d (.int .i64 l.length)),(61,.d (.int .i64 i))],[(57,.mp (zdw (za7 l i))),(59,.acc l.length)]⟩
def rvR(l:List Message)(i:Nat):zR×St:=if zbb (l.drop i)≠0 then (.ret,⟨[(2,.d (.int .i64 (zbb (l.drop i))))],[]⟩) else (.exit 2,⟨[(6,.d (.bool (zaS (l.map (·.id)))))],[]⟩)
theorem zUW(l:List Message)(h1:l.length<=12):∀i,i<=l.length->zP G [] zox (rvS l i)=some (rvR l i):=by
 refine zaq (fun i=>l.length - i) (fun i=>i<=l.length) (rvS l) (fun i=>some (rvR l i)) fun i hi L ih=> ?_
 by_cases h0:i<l.length
 ·have i1:=ih (i+1) zo zo;clear ih;have hm:=zsC l[i];unfold rvR at i1 ⊢;rw[znF h0];unfold rvS at i1;rw[znT h0,zth,zqM] at i1;have hg:=zsx l[i].id (za7 l i);generalize zbb (l.drop (i+1))=fe at *;generalize zaS (l.map (·.id))=dd at *;simp only[rvS,zox];generalize zdw (za7 l i)=sm at *;simp only[zj] at hm
  by_cases hv:zZ l[i]=0
  ·rw[hv] at hm;simp only[hv,ne_eq,zY2,if_false]
   by_cases hmem:l[i].id∈za7 l i
   ·simp only[hmem,if_true,decide_true,z03] at hg i1;generalize zaS (za7 l i)=d0 at *;generalize za7 l i=w at *;simp only[zNr,zp] at i1
    cases d0
    ·simp -implicitDefEqProofs (maxSteps:=4000000) (disch:=omega) only[zj,zg,go_sem, *]
    ·simp -implicitDefEqProofs (maxSteps:=4000000) (disch:=omega) only[zj,zg,go_sem, *]
   ·simp only[hmem,if_false,decide_false,z04] at hg i1;generalize zaS (za7 l i)=d0 at *;generalize za7 l i=w at *;simp only[zNr,zp] at i1
    cases d0
    ·simp -implicitDefEqProofs (maxSteps:=4000000) (disch:=omega) only[zj,zg,go_sem, *]
    ·simp -implicitDefEqProofs (maxSteps:=4000000) (disch:=omega) only[zj,zg,go_sem, *]
  ·simp only[ne_eq,hv,zZm,if_true];clear i1 hg;simp -implicitDefEqProofs (maxSteps:=4000000) (disch:=omega) only[zj,zg,go_sem, *]
 ·clear ih;have:i=l.length:=by omega
  subst this;unfold rvR;rw[zZA];simp only[rvS,za7,z1f,zbb,ne_eq,zY2,if_false,zox];simp -implicitDefEqProofs (maxSteps:=4000000) (disch:=omega) only[zj,zg,go_sem, *]
theorem zg8(c:List Message)(h z:Nat):zu ⟨c,h,z⟩=zak c h z:=rfl
theorem zja{r:z8}(hr:zfu r):∃(c:List Message) (h z:Nat),r=⟨c,h,z⟩/\1<=c.length/\c.length<=12/\h<c.length/\z<=c.length:=by
 obtain⟨c,h,z⟩:=r;obtain⟨h1,h2,h3,h4,h5,h6⟩:=hr;simp only at h1 h2 h3 h4 h5 h6;exact⟨c,h.toNat,z.toNat,by rw[z10 h3,z10 h5],h1,h2,by omega,by omega⟩
theorem ztd{c:List Message}{h z:Nat}(hok:zfu ⟨c,h,z⟩):zau ⟨c,h,z⟩=if zcI ⟨c,h,z⟩ z c.length=true then 7 else if zbb (zak c h z)≠0 then zbb (zak c h z) else if zaS ((zak c h z).map (·.id))=true then 10 else 0:=by
 unfold zau;rw[zYP (fun hc=>hc hok)];rfl
theorem zDB(r:z8)(hL:r.cells.length<=4294967296):zd G 121 [.d (zQ r)] []=some (.d (.int .i64 (zau r)),[]):=by
 by_cases hok:zfu r
 ·obtain⟨c,h,z,rfl,h1,h2,h3,h4⟩:=zja hok;have hr:=zUx c h z h2 h3 z h4;have hl:=zB9 c h z h2 h3 h4;have hv:=zUW (zak c h z) (by rw[zgx];omega) 0 zo;have hn:=zgx c h z;rw[ztd hok];unfold rgR at hr;unfold rvR at hv;simp only[zZq] at hv;simp only[rgS] at hr;simp only[rvS,za7,zZE,zYS,zdw,z1g,show zaS []=false by decide,hn] at hv;rw[hn] at hl;simp only[zQ];generalize zcI ⟨c,h,z⟩ z c.length=b1 at *;generalize zbb (zak c h z)=fe at *;generalize zaS ((zak c h z).map (·.id))=dd at *;generalize zak c h z=w at *;clear hok;simp only[zNr,zp] at hv
  cases b1 with
  | true=>
   simp only[if_true] at hr ⊢;exact zW
  | false=>
   simp only[zYX,if_false] at hr ⊢
   by_cases e:fe=0
   ·subst e;simp only[ne_eq,zY2,if_false] at hv ⊢
    cases dd
    ·exact zW
    ·exact zW
   ·simp only[ne_eq,e,zZm,if_true] at hv ⊢;exact zW
 ·unfold zau;rw[zYQ hok];obtain⟨c,h,z⟩:=r;simp only[zfu] at hok hL;simp only[zQ];exact zW
def r4S(c:List Message)(h z i:Nat):St:=⟨[(1,.ref 1 0 0),(3,.d (.int .i64 c.length)),(4,.d (.int .i64 i))],[(1,.row [.d (.agg [.sl (c.map zj),.int .i64 h,.int .i64 z])])]⟩
theorem zUv(c:List Message)(h z:Nat)(h1:c.length<=12)(h2:h<c.length):∀i,i<=c.length->zP G [] zn6 (r4S c h z i)=some (rgR c h z i):=by
 refine zaq (fun i=>c.length - i) (fun i=>i<=c.length) (r4S c h z) (fun i=>some (rgR c h z i)) fun i hi L ih=> ?_
 by_cases h0:i<c.length
 ·have i1:=ih (i+1) zo zo;clear ih;have e:((h:Int)+i).tmod c.length=(((h+i) % c.length:Nat):Int):=by rw[<- zZR, <- z1j]
  have hj:(h+i) % c.length<c.length:=zZO _ zo;unfold rgR at i1 ⊢;rw[zDA _ _ _ h0];generalize (h+i) % c.length=j at *;rw[zg hj];generalize zcI ⟨c,h,z⟩ (i+1) c.length=bb at *;simp only[r4S] at i1;simp only[zNr,zp] at i1;simp only[r4S,zn6]
  by_cases hm:c[j]=zX
  ·rw[hm];simp only[ne_eq,zY2,decide_false,zZY];have zk1:=zX.eq_1;have zk2:=zj.eq_1;exact zS
  ·simp only[ne_eq,hm,zZm,decide_true,z0t,if_true]
   (try simp -implicitDefEqProofs (maxSteps:=4000000) (disch:=omega) only[zj,zg,go_sem, *]);(try simp only[zPr]);repeat' (first|done|rfl|((first|refine zG (fun hq=> ?_) (fun hq=> ?_)|refine zM (fun hq=> ?_) (fun hq=> ?_))<;>(try (first|(exfalso;omega)|contradiction))<;>(try simp -implicitDefEqProofs (maxSteps:=4000000) (disch:=omega) only[zj,zg,go_sem, *])<;>(try simp only[zPr])));(all_goals try rfl);(all_goals try (repeat' (first|done|rfl|(exfalso;omega)|contradiction|(refine zI (fun hq=> ?_) (fun hq=> ?_)))))
   exact absurd (zE2 (by assumption)) hm
 ·clear ih;unfold rgR;rw[zDz _ h0];simp only[r4S,zn6,zYX,if_false];simp -implicitDefEqProofs (maxSteps:=4000000) (disch:=omega) only[zg,go_sem, *]
def f4S(l:List Message)(i:Nat):St:=⟨[(5,.acc 60 (l.map zj)),(6,.d (.int .i64 i))],[(60,.acc l.length)]⟩
def f4R(l:List Message)(i:Nat):zR×St:=if zbb (l.drop i)≠0 then (.ret,⟨[(2,.d (.int .i64 (zbb (l.drop i))))],[]⟩) else (.exit 2,⟨[(5,.acc 60 (l.map zj))],[(60,.acc l.length)]⟩)
theorem zJ5(l:List Message)(h1:l.length<=12):∀i,i<=l.length->zP G [] zn7 (f4S l i)=some (f4R l i):=by
 refine zaq (fun i=>l.length - i) (fun i=>i<=l.length) (f4S l) (fun i=>some (f4R l i)) fun i hi L ih=> ?_
 by_cases h0:i<l.length
 ·have i1:=ih (i+1) zo zo;clear ih;have hm:=zhV l[i];unfold f4R at i1 ⊢;rw[znF h0];unfold f4S at i1;generalize zbb (l.drop (i+1))=fe at *;simp only[f4S,zn7];simp only[zj] at hm;simp only[zNr,zp] at i1
  by_cases hv:zZ l[i]=0
  ·rw[hv] at hm;simp only[hv,ne_eq,zY2,if_false];have zk0:=zj.eq_1;exact zS
  ·simp only[ne_eq,hv,zZm,if_true];clear i1;have zk0:=zj.eq_1;exact zS
 ·clear ih;have:i=l.length:=by omega
  subst this;unfold f4R;rw[zZA];simp only[f4S,zbb,ne_eq,zY2,if_false,zn7];exact zS
def d4S(l:List Message)(i:Nat):St:=⟨[(5,.acc 60 (l.map zj)),(8,.d (.int .i64 i))],[(60,.acc l.length)]⟩
def d4R(l:List Message)(i:Nat):zR×St:=if zeX l i=true then (.ret,⟨[(2,.d (.int .i64 10))],[]⟩) else (.exit 4,⟨[],[]⟩)
theorem zH5(l:List Message)(h1:l.length<=12):∀i,i<=l.length->zP G [] zn8 (d4S l i)=some (d4R l i):=by
 refine zaq (fun i=>l.length - i) (fun i=>i<=l.length) (d4S l) (fun i=>some (d4R l i)) fun i hi L ih=> ?_
 by_cases h0:i<l.length
 ·have i1:=ih (i+1) zo zo;clear ih;have hx:=ziG l l[i].id zo;unfold d4R at i1 ⊢;rw[zsg _ h0];unfold d4S at i1;generalize zeX l (i+1)=fe at *;simp only[d4S,zn8];simp only[zNr,zp] at i1;generalize zaF l l[i].id=q at *
  by_cases hv:q=i
  ·subst hv;simp only[ne_eq,zY2,decide_false,zZY];have zk0:=zj.eq_1;exact zS
  ·simp only[ne_eq,hv,zZm,decide_true,z0t,if_true];clear i1;have zk0:=zj.eq_1;exact zS
 ·clear ih;unfold d4R;rw[zsf _ h0];simp only[d4S,zn8,zYX,if_false];exact zS
theorem zku(r:z8)(hL:r.cells.length<=4294967296):zd G 127 [.d (zQ r)] []=some (.d (.int .i64 (zau r)),[]):=by
 by_cases hok:zfu r
 ·obtain⟨c,h,z,rfl,h1,h2,h3,h4⟩:=zja hok;have hr:=zUv c h z h2 h3 z h4;have hl:=zi1 c h z h2 h3 h4;have hn:=zgx c h z;have hv:=zJ5 (zak c h z) zo 0 zo;have hd:=zH5 (zak c h z) zo 0 zo;rw[ztd hok];unfold rgR at hr;unfold f4R at hv;unfold d4R at hd;rw[zse] at hd;simp only[zZq] at hv;simp only[r4S] at hr;simp only[f4S,zZg,hn] at hv;simp only[d4S,zZg,hn] at hd;rw[hn] at hl;simp only[zQ];generalize zcI ⟨c,h,z⟩ z c.length=b1 at *;generalize zbb (zak c h z)=fe at *;generalize zaS ((zak c h z).map (·.id))=dd at *;generalize zak c h z=w at *;clear hok
  cases b1 with
  | true=>
   simp only[if_true] at hr ⊢;exact zW
  | false=>
   simp only[zYX,if_false] at hr ⊢
   by_cases e:fe=0
   ·subst e;simp only[ne_eq,zY2,if_false] at hv ⊢
    cases dd
    ·simp only[zYX,if_false] at hd ⊢;exact zW
    ·simp only[if_true] at hd ⊢;exact zW
   ·simp only[ne_eq,e,zZm,if_true] at hv ⊢;exact zW
 ·unfold zau;rw[zYQ hok];obtain⟨c,h,z⟩:=r;simp only[zfu] at hok hL;simp only[zQ];exact zW
theorem zUC{r:z8}(hr:zau r=0):zd G 194 [.d (zQ r)] []=some (.acc 0 ((zu r).map zj),[(0,.acc (zu r).length)]):=by
 have hv:=zDB r (by have:=(zch hr).2.1;omega);obtain⟨c,h,z,rfl,h1,h2,h3,h4⟩:=zja (zch hr);have hl:=zB9 c h z h2 h3 h4;rw[hr] at hv;rw[zg8];clear hr;simp only[zQ] at hv ⊢;generalize zak c h z=w at *;exact zW
theorem zTu{r:z8}(hr:zau r=0):zd G 98 [.d (zQ r)] []=some (.d (.sl ((zu r).map zj)),[]):=by
 have hv:=zku r (by have:=(zch hr).2.1;omega);obtain⟨c,h,z,rfl,h1,h2,h3,h4⟩:=zja (zch hr);have hl:=zi1 c h z h2 h3 h4;rw[hr] at hv;rw[zg8];clear hr;simp only[zQ] at hv ⊢;generalize zak c h z=w at *;exact zW
theorem zi7{s:Shard}(hr:zau s.ready=0):zd G 50 [.d (zi s)] []=some (.d (.sl ((zu s.ready).map zj)),[]):=by
 have hl:=zTu hr;generalize zu s.ready=w at *;simp only[zQ,zi] at hl ⊢;exact zW
def zcg(b:List Message)(l:List zy)(i:Nat):List Message:=b++(l.take i).map (·.msg)
theorem zCy(b:List Message){l:List zy}{i:Nat}(h:i<l.length):zcg b l (i+1)=zcg b l i++[l[i].msg]:=by
 unfold zcg;rw[z1i,zY1 h,zY5,zZF];rfl
theorem zCx(b:List Message){l:List zy}{i:Nat}(h:i<=l.length):(zcg b l i).length=b.length+i:=by
 simp [zcg];omega
def smS(b:List Message)(l:List zy)(i:Nat):St:=⟨[(3,.acc 8 ((zcg b l i).map zj)),(11,.d (.sl (l.map zaw))),(12,.d (.int .i64 l.length)),(13,.d (.int .i64 i))],[(8,.acc (zcg b l i).length)]⟩
theorem zWM(b:List Message)(l:List zy)(h1:l.length<=12)(h2:b.length<=12):∀i,i<=l.length->zP G [] zoA (smS b l i)=some (.exit 0,⟨[(3,.acc 8 ((zcg b l l.length).map zj))],[(8,.acc (zcg b l l.length).length)]⟩):=by
 refine zaq (fun i=>l.length - i) (fun i=>i<=l.length) (smS b l) _ fun i hi L ih=> ?_
 by_cases h0:i<l.length
 ·have i1:=ih (i+1) zo zo;clear ih;have hl:=zCx b (l:=l) (i:=i) zo;rw[smS,zCy b h0] at i1;generalize zcg b l l.length=z at *;simp only[zY5,zYU,zYS,zYZ,zZp,hl] at i1;simp only[smS,hl,zoA];generalize zcg b l i=w at *;simp only[zj] at i1;simp only[zNr,zp] at i1;have zk0:=zaw.eq_1;have zk1:=zj.eq_1;exact zS
 ·clear ih;have:i=l.length:=by omega
  subst this;simp only[smS,zoA];exact zS
theorem zRn{s:Shard}(hr:zau s.ready=0)(h1:s.leases.l.length<=12):zd G 125 [.d (zi s)] []=some (.d (.sl ((zav s).map zj)),[]):=by
 have hl:=zUC hr;have hb:(zu s.ready).length<=12:=by
  rw[zgw];have:=zch hr;obtain⟨a1,a2,a3,a4,a5,a6⟩:=this;omega
 have hm:=zWM (zu s.ready) s.leases.l h1 hb 0 zo;have e:zcg (zu s.ready) s.leases.l s.leases.l.length=zav s:=by simp [zcg,zav]
 rw[e] at hm;simp only[smS,zcg,zZE,zYS,zZd] at hm;generalize zav s=w at *;generalize zu s.ready=w2 at *;simp only[zQ,zi] at hl ⊢;simp only[zNr,zp] at hm;exact zW
def l7S(s:Shard)(i:Nat):St:=⟨[(1,.ref 1 0 0),(3,.acc 3 ((zcg [] s.leases.l i).map zj)),(4,.d (.int .i64 i))],[(1,.row [.d (zi s)]),(3,.acc (zcg [] s.leases.l i).length)]⟩
theorem zP7(s:Shard)(h1:s.leases.l.length<=12):∀i,i<=s.leases.l.length->zP G [] zog (l7S s i)=some (.exit 0,⟨[(3,.acc 3 ((zcg [] s.leases.l s.leases.l.length).map zj))],[(3,.acc (zcg [] s.leases.l s.leases.l.length).length)]⟩):=by
 refine zaq (fun i=>s.leases.l.length - i) (fun i=>i<=s.leases.l.length) (l7S s) _ fun i hi L ih=> ?_
 by_cases h0:i<s.leases.l.length
 ·have i1:=ih (i+1) zo zo;clear ih;have hl:=zCx [] (l:=s.leases.l) (i:=i) zo;rw[l7S,zCy [] h0] at i1;generalize zcg [] s.leases.l s.leases.l.length=z at *;simp only[zY5,zYU,zYS,zYZ,zZp,hl] at i1;simp only[l7S,hl,zog];generalize zcg [] s.leases.l i=w at *;simp only[zj,zi] at i1 ⊢;simp only[zNr,zp] at i1;have zk0:=zaw.eq_1;have zk1:=zj.eq_1;exact zS
 ·clear ih;have:i=s.leases.l.length:=by omega
  subst this;simp only[l7S,zi,zog];exact zS
theorem zoD{s:Shard}(h1:s.leases.l.length<=12):zd G 51 [.d (zi s)] []=some (.d (.sl ((s.leases.l.map (·.msg)).map zj)),[]):=by
 have hm:=zP7 s h1 0 zo;have e:zcg [] s.leases.l s.leases.l.length=s.leases.l.map (·.msg):=by simp [zcg]
 rw[e] at hm;generalize s.leases.l.map (·.msg)=w at *;simp only[l7S,zcg,zZE,zYS,zZd,zi] at hm;simp only[zi];simp only[zNr,zp] at hm;exact zW
theorem zjm{s:Shard}(hr:zau s.ready=0)(h1:s.leases.l.length<=12):zd G 129 [.d (zi s)] []=some (.d (.sl ((zav s).map zj)),[]):=by
 have h2:=zi7 hr;have h3:=zoD h1;have hb:(zu s.ready).length<=12:=by
  rw[zgw];have:=zch hr;obtain⟨a1,a2,a3,a4,a5,a6⟩:=this;omega
 have hc:(s.leases.l.map (·.msg)).length<=12:=by simpa using h1
 simp only[zav,zY5];generalize s.leases.l.map (·.msg)=w at *;generalize zu s.ready=w2 at *;simp only[zi] at h2 h3 ⊢;exact zW
theorem ztz{t:Table}(h:zac t=0):t.l.length<=12:=by
 refine Classical.byContradiction fun hc=> ?_;unfold zac at h;rw[zYQ zo] at h;exact absurd h (by decide)
def zev(lo hi:Int)(l:List Message):Bool:=l.any fun m=>decide (¬(lo<=m.route/\m.route<=hi))
theorem zCv(lo hi:Int){l:List Message}{k:Nat}(h:k<l.length):zev lo hi (l.drop k)=(decide (¬(lo<=l[k].route/\l[k].route<=hi))||zev lo hi (l.drop (k+1))):=by
 rw[zZr h];rfl
theorem zWB(n lo hi:Int):zd G 126 [.d (.int .i64 n),.d (.int .i64 lo),.d (.int .i64 hi)] []=some (.d (.bool (decide (lo<=n/\n<=hi))),[]):=by
 by_cases h:lo<=n
 ·by_cases h2:n<=hi
  ·rw[zZe ⟨h,h2⟩];exact zW
  ·rw[zZc zo];exact zW
 ·rw[zZc zo];exact zW
theorem zWS(lo hi:Int):zd G 124 [.d (.int .i64 lo),.d (.int .i64 hi)] []=some (.d (.bool (decide (0<=lo/\lo<=hi/\hi<65536))),[]):=by
 by_cases h:0<=lo/\lo<=hi/\hi<65536
 ·rw[zZe h];exact zW
 ·rw[zZc h];have e:(decide (0<=lo)&&(decide (lo<=hi)&&decide (hi<65536)))=false:=by simp;omega
  exact zW
theorem zDV(lo hi:Int):zd G 77 [.d (.int .i64 lo),.d (.int .i64 hi)] []=some (.d (.bool (decide (0<=lo/\lo<=hi/\hi<65536))),[]):=by
 by_cases h:0<=lo/\lo<=hi/\hi<65536
 ·rw[zZe h];exact zW
 ·rw[zZc h];have e:(decide (0<=lo)&&(decide (lo<=hi)&&decide (hi<65536)))=false:=by simp;omega
  exact zW
theorem zXi(s:Shard)(h1:s.leases.l.length<=12)(h2:0<=s.ready.size)(h3:s.ready.size<=12):zd G 123 [.d (zi s)] []=some (.d (.int .i64 (s.ready.size+s.leases.l.length)),[]):=by
 simp only[zi];exact zW
def svS(s:Shard)(l:List Message)(i:Nat):St:=⟨[(1,.ref 1 0 0),(5,.mpr 52),(6,.d (.bool (zaS (za7 l i)))),(54,.d (.sl (l.map zj))),(55,.d (.int .i64 l.length)),(56,.d (.int .i64 i))],[(1,.row [.d (zi s)]),(52,.mp (zdw (za7 l i)))]⟩
def svR(s:Shard)(l:List Message)(i:Nat):zR×St:=if zev s.low s.high (l.drop i)=true then (.ret,⟨[(2,.d (.int .i64 12))],[]⟩) else (.exit 1,⟨[(6,.d (.bool (zaS (l.map (·.id)))))],[]⟩)
theorem zXn(s:Shard)(l:List Message)(h1:l.length<=24):∀i,i<=l.length->zP G [] zoz (svS s l i)=some (svR s l i):=by
 refine zaq (fun i=>l.length - i) (fun i=>i<=l.length) (svS s l) (fun i=>some (svR s l i)) fun i hi L ih=> ?_
 by_cases h0:i<l.length
 ·have i1:=ih (i+1) zo zo;clear ih;have hm:=zWB l[i].route s.low s.high;unfold svR at i1 ⊢;rw[zCv _ _ h0];unfold svS at i1;rw[znT h0,zth,zqM] at i1;have hg:=zsx l[i].id (za7 l i);generalize zev s.low s.high (l.drop (i+1))=fe at *;generalize zaS (l.map (·.id))=dd at *;simp only[svS,zi,zoz] at i1 ⊢;generalize zdw (za7 l i)=sm at *
  by_cases hv:s.low<=l[i].route/\l[i].route<=s.high
  ·rw[zZe hv] at hm;simp only[hv,zY2,zZI,decide_false,zZY]
   by_cases hmem:l[i].id∈za7 l i
   ·simp only[hmem,if_true,decide_true,z03] at hg i1;generalize zaS (za7 l i)=d0 at *;generalize za7 l i=w at *;simp only[zNr,zp] at i1
    cases d0
    ·have zk0:=zj.eq_1;exact zS
    ·have zk0:=zj.eq_1;exact zS
   ·simp only[hmem,if_false,decide_false,z04] at hg i1;generalize zaS (za7 l i)=d0 at *;generalize za7 l i=w at *;simp only[zNr,zp] at i1
    cases d0
    ·have zk0:=zj.eq_1;exact zS
    ·have zk0:=zj.eq_1;exact zS
  ·rw[zZc hv] at hm;simp only[hv,zZm,decide_true,z0t,if_true];clear i1 hg;have zk0:=zj.eq_1;exact zS
 ·clear ih;have:i=l.length:=by omega
  subst this;unfold svR;rw[zZA];simp only[svS,za7,z1f,zev,z1n,zYX,if_false,zoz,zi];exact zS
theorem ztl{s:Shard}(hr:zau s.ready=0)(h1:s.leases.l.length<=12):(zav s).length<=24:=by
 obtain⟨a1,a2,a3,a4,a5,a6⟩:=zch hr;simp only[zav,zYZ,zY3,zgw];omega
theorem zkJ{s:Shard}(hr:zau s.ready=0)(ht:zac s.leases=0):zU s=if s.live=false then (if s.low≠0\/s.high≠0\/0<s.ready.size+s.leases.l.length then 7 else 0)
 else if ¬(0<=s.low/\s.low<=s.high/\s.high<65536) then 1
 else if s.ready.cells.length<s.ready.size+s.leases.l.length then 3
 else if zev s.low s.high (zav s)=true then 12
 else if zaS ((zav s).map (·.id))=true then 10 else 0:=by
 unfold zU;rw[zYP (fun hc=>hc hr),zYP (fun hc=>hc ht)];rfl
theorem zWz(s:Shard)(h1:s.ready.cells.length<=4294967296)(h2:s.leases.l.length<=4294967296)(h3:s.leases.heap.length<=4294967296):zd G 79 [.d (zi s)] []=some (.d (.int .i64 (zU s)),[]):=by
 have hv:=zDB s.ready h1;have ht:=zQY s.leases h2 h3
 by_cases e1:zau s.ready=0
 ·by_cases e2:zac s.leases=0
  ·rw[zkJ e1 e2];rw[e1] at hv;rw[e2] at ht;have hl:=ztz e2;obtain⟨a1,a2,a3,a4,a5,a6⟩:=zch e1;have hs:=zXi s hl a5 zo;have hsp:=zWS s.low s.high;have hm:=zRn e1 hl;have hml:=ztl e1 hl;have hlp:=zXn s (zav s) hml 0 zo;unfold svR at hlp;simp only[svS,za7,zZE,zYS,zdw,z1g,show zaS []=false by decide,zZq] at hlp;generalize zev s.low s.high (zav s)=b1 at *;generalize zaS ((zav s).map (·.id))=b2 at *;generalize zav s=w at *;clear e1 e2;obtain⟨lv,lo,hi,⟨c,h,z⟩,⟨tl,th⟩⟩:=s;simp only[zi,zQ,z9] at hv ht hs hsp hm hlp a1 a2 a3 a4 a5 a6 hl h1 h2 h3 ⊢;simp only[zNr,zp] at hlp
   cases lv with
   | false=>
    simp only[if_true]
    by_cases c1:lo≠0\/hi≠0\/0<z+tl.length
    ·rw[zYQ c1];exact zW
    ·rw[zYP c1];exact zW
   | true=>
    simp only[zZK,if_false]
    by_cases c1:0<=lo/\lo<=hi/\hi<65536
    ·rw[zZe c1] at hsp;rw[zYP (fun hc=>hc c1)]
     by_cases c2:(c.length:Int)<z+tl.length
     ·rw[zYQ c2];exact zW
     ·rw[zYP c2]
      cases b1
      ·cases b2
       ·simp only[zYX,if_false] at hlp ⊢;exact zW
       ·simp only[zYX,if_false,if_true] at hlp ⊢;exact zW
      ·simp only[if_true] at hlp ⊢;exact zW
    ·rw[zZc c1] at hsp;rw[zYQ c1];exact zW
  ·unfold zU;rw[zYP (fun hc=>hc e1),zYQ e2];rw[e1] at hv;generalize zac s.leases=v at *;obtain⟨lv,lo,hi,⟨c,h,z⟩,⟨tl,th⟩⟩:=s;simp only[zi,zQ,z9] at hv ht h1 h2 h3 ⊢;exact zW
 ·unfold zU;rw[zYQ e1];clear ht;generalize zau s.ready=v at *;obtain⟨lv,lo,hi,⟨c,h,z⟩,⟨tl,th⟩⟩:=s;simp only[zi,zQ] at hv h1 h2 h3 ⊢;exact zW
def m7S(s:Shard)(l:List Message)(i:Nat):St:=⟨[(1,.ref 1 0 0),(6,.d (.sl (l.map zj))),(7,.d (.int .i64 i))],[(1,.row [.d (zi s)])]⟩
def m7R(s:Shard)(l:List Message)(i:Nat):zR×St:=if zev s.low s.high (l.drop i)=true then (.ret,⟨[(2,.d (.int .i64 12))],[]⟩) else (.exit 0,⟨[(6,.d (.sl (l.map zj)))],[]⟩)
theorem zQZ(s:Shard)(l:List Message)(h1:l.length<=24):∀i,i<=l.length->zP G [] zoi (m7S s l i)=some (m7R s l i):=by
 refine zaq (fun i=>l.length - i) (fun i=>i<=l.length) (m7S s l) (fun i=>some (m7R s l i)) fun i hi L ih=> ?_
 by_cases h0:i<l.length
 ·have i1:=ih (i+1) zo zo;clear ih;unfold m7R at i1 ⊢;rw[zCv _ _ h0];unfold m7S at i1;generalize zev s.low s.high (l.drop (i+1))=fe at *;simp only[m7S,zi,zoi] at i1 ⊢;simp only[zNr,zp] at i1
  by_cases hv:s.low<=l[i].route/\l[i].route<=s.high
  ·simp only[hv,zY2,zZI,decide_false,zZY];have zk0:=zj.eq_1;exact zS
  ·simp only[hv,zZm,decide_true,z0t,if_true];clear i1;have zk0:=zj.eq_1;exact zS
 ·clear ih;have:i=l.length:=by omega
  subst this;unfold m7R;rw[zZA];simp only[m7S,zev,z1n,zYX,if_false,zoi,zi];exact zS
def d7S(l:List Message)(i:Nat):St:=⟨[(6,.d (.sl (l.map zj))),(8,.d (.int .i64 i))],[]⟩
def d7R(l:List Message)(i:Nat):zR×St:=if zeX l i=true then (.ret,⟨[(2,.d (.int .i64 10))],[]⟩) else (.exit 2,⟨[],[]⟩)
theorem zH6(l:List Message)(h1:l.length<=24):∀i,i<=l.length->zP G [] zoj (d7S l i)=some (d7R l i):=by
 refine zaq (fun i=>l.length - i) (fun i=>i<=l.length) (d7S l) (fun i=>some (d7R l i)) fun i hi L ih=> ?_
 by_cases h0:i<l.length
 ·have i1:=ih (i+1) zo zo;clear ih;have hx:=ziG l l[i].id zo;unfold d7R at i1 ⊢;rw[zsg _ h0];unfold d7S at i1;generalize zeX l (i+1)=fe at *;simp only[d7S,zoj];simp only[zNr,zp] at i1;generalize zaF l l[i].id=q at *
  by_cases hv:q=i
  ·subst hv;simp only[ne_eq,zY2,decide_false,zZY];have zk0:=zj.eq_1;exact zS
  ·simp only[ne_eq,hv,zZm,decide_true,z0t,if_true];clear i1;have zk0:=zj.eq_1;exact zS
 ·clear ih;unfold d7R;rw[zsf _ h0];simp only[d7S,zoj,zYX,if_false];exact zS
theorem zmj(s:Shard)(h1:s.ready.cells.length<=4294967296)(h2:s.leases.l.length<=4294967296)(h3:s.leases.heap.length<=4294967296):zd G 82 [.d (zi s)] []=some (.d (.int .i64 (zU s)),[]):=by
 have hv:=zku s.ready h1;have ht:=zkv s.leases h2 h3;rw[zkR] at ht
 by_cases e1:zau s.ready=0
 ·by_cases e2:zac s.leases=0
  ·rw[zkJ e1 e2];rw[e1] at hv;rw[e2] at ht;have hl:=ztz e2;obtain⟨a1,a2,a3,a4,a5,a6⟩:=zch e1;have hsp:=zDV s.low s.high;have hm:=zjm e1 hl;have hml:=ztl e1 hl;have hlp:=zQZ s (zav s) hml 0 zo;have hdp:=zH6 (zav s) hml 0 zo;unfold m7R at hlp;unfold d7R at hdp;rw[zse] at hdp;simp only[m7S,zZq] at hlp;simp only[d7S] at hdp;generalize zev s.low s.high (zav s)=b1 at *;generalize zaS ((zav s).map (·.id))=b2 at *;generalize zav s=w at *;clear e1 e2;obtain⟨lv,lo,hi,⟨c,h,z⟩,⟨tl,th⟩⟩:=s;simp only[zi,zQ,z9] at hv ht hsp hm hlp a1 a2 a3 a4 a5 a6 hl h1 h2 h3 ⊢;simp only[zNr,zp] at hlp hdp
   cases lv with
   | false=>
    simp only[if_true]
    by_cases c1:lo≠0\/hi≠0\/0<z+tl.length
    ·rw[zYQ c1];exact zW
    ·rw[zYP c1];exact zW
   | true=>
    simp only[zZK,if_false]
    by_cases c1:0<=lo/\lo<=hi/\hi<65536
    ·rw[zZe c1] at hsp;rw[zYP (fun hc=>hc c1)]
     by_cases c2:(c.length:Int)<z+tl.length
     ·rw[zYQ c2];exact zW
     ·rw[zYP c2]
      cases b1
      ·cases b2
       ·simp only[zYX,if_false] at hlp hdp ⊢;exact zW
       ·simp only[zYX,if_false,if_true] at hlp hdp ⊢;exact zW
      ·simp only[if_true] at hlp ⊢;exact zW
    ·rw[zZc c1] at hsp;rw[zYQ c1];exact zW
  ·unfold zU;rw[zYP (fun hc=>hc e1),zYQ e2];rw[e1] at hv;generalize zac s.leases=v at *;obtain⟨lv,lo,hi,⟨c,h,z⟩,⟨tl,th⟩⟩:=s;simp only[zi,zQ,z9] at hv ht h1 h2 h3 ⊢;exact zW
 ·unfold zU;rw[zYQ e1];clear ht;generalize zau s.ready=v at *;obtain⟨lv,lo,hi,⟨c,h,z⟩,⟨tl,th⟩⟩:=s;simp only[zi,zQ] at hv h1 h2 h3 ⊢;exact zW
def zbB{α:Type}(p:α->Bool)(l:List α)(i:Nat):Nat:=((l.take i).filter p).length
theorem zqz{α:Type}(p:α->Bool){l:List α}{i:Nat}(h:i<l.length):zbB p l (i+1)=zbB p l i+(if p l[i]=true then 1 else 0):=by
 unfold zbB;rw[z1i,zY1 h,z1Z,zYZ]
 congr 1
 simp only[Option.toList,z0m]
 split<;>rfl
theorem zqy{α:Type}(p:α->Bool)(l:List α)(i:Nat):zbB p l i<=i:=zZG (z0h _ _) (by simp;omega)
def rdQ(ep lim:Int)(m:Message):Bool:=decide (¬m.epoch<ep)&&decide (¬lim<=m.count)
def lsQ(ep:Int)(x:zy):Bool:=decide (¬x.msg.epoch<ep)
def zab(s:Shard):Int:=if zU s≠0 then zU s else if s.live=true then 0 else 7
theorem zeZ(s:Shard)(h1:s.ready.cells.length<=4294967296)(h2:s.leases.l.length<=4294967296)(h3:s.leases.heap.length<=4294967296):zd G 47 [.d (zi s)] []=some (.d (.int .i64 (zab s)),[]):=by
 have hv:=zmj s h1 h2 h3;unfold zab;generalize zU s=v at *;obtain⟨lv,lo,hi,⟨c,h,z⟩,⟨tl,th⟩⟩:=s;simp only[zi] at hv ⊢
 by_cases e:v=0
 ·subst e
  cases lv
  ·exact zW
  ·exact zW
 ·rw[zYQ e];exact zW
theorem zhU(m:Message)(ep:Int):zd G 52 [.d (zj m),.d (.int .i64 ep)] []=some (.d (.bool (decide (m.epoch<ep))),[]):=by
 simp only[zj];exact zW
theorem zpm(m:Message)(lim:Int):zd G 53 [.d (zj m),.d (.int .i64 lim)] []=some (.d (.bool (decide (lim<=m.count))),[]):=by
 simp only[zj];exact zW
def mQ(ep:Int)(m:Message):Bool:=decide (¬m.epoch<ep)
theorem zGL(ep:Int)(l:List zy)(i:Nat):zbB (mQ ep) (l.map (·.msg)) i=zbB (lsQ ep) l i:=by
 unfold zbB;rw[<- z0G,List.filter_map,zY3];rfl
theorem zzz(n:Int):zd G 48 [.d (.int .i64 n)] []=some (.d (.bool (decide (0<=n/\n<=65536))),[]):=by
 by_cases h:0<=n/\n<=65536
 ·rw[zZe h];exact zW
 ·rw[zZc h];have e:(decide (0<=n)&&decide (n<=65536))=false:=by simp;omega
  exact zW
theorem zB5(n:Int):zd G 49 [.d (.int .i64 n)] []=some (.d (.bool (decide (1<=n/\n<=8))),[]):=by
 by_cases h:1<=n/\n<=8
 ·rw[zZe h];exact zW
 ·rw[zZc h];have e:(decide (1<=n)&&decide (n<=8))=false:=by simp;omega
  exact zW
def k0S(l w:List Message)(ep lim:Int)(i:Nat):St:=⟨[(1,.d (.int .i64 ep)),(2,.d (.int .i64 lim)),(8,.d (.int .i64 (zbB (rdQ ep lim) l i))),(9,.d (.int .i64 0)),(10,.d (.sl (l.map zj))),(11,.d (.sl (w.map zj))),(12,.d (.int .i64 i))],[]⟩
theorem zPQ(l w:List Message)(ep lim:Int)(h1:l.length<=24):∀i,i<=l.length->zP G [] zod (k0S l w ep lim i)=some (.exit 0,⟨[(1,.d (.int .i64 ep)),(8,.d (.int .i64 (zbB (rdQ ep lim) l l.length))),(9,.d (.int .i64 0)),(11,.d (.sl (w.map zj)))],[]⟩):=by
 refine zaq (fun i=>l.length - i) (fun i=>i<=l.length) (k0S l w ep lim) _ fun i hi L ih=> ?_
 by_cases h0:i<l.length
 ·have i1:=ih (i+1) zo zo;clear ih;have hp:=zhU l[i] ep;have hs:=zpm l[i] lim;have hle:=zqy (rdQ ep lim) l i;generalize zbB (rdQ ep lim) l l.length=z at *;rw[k0S,zqz _ h0] at i1;simp only[k0S,zod];generalize zbB (rdQ ep lim) l i=n at *;generalize w.map zj=ww at *;simp only[zj] at hp hs;unfold rdQ at i1
  by_cases c1:l[i].epoch<ep
  ·simp only[c1,zY2,decide_true,decide_false,zZH,zYX,if_false,z0j] at i1 hp;simp only[zNr,zp] at i1;have zk0:=zj.eq_1;exact zS
  ·by_cases c2:lim<=l[i].count
   ·simp only[c1,c2,zY2,zZm,decide_true,decide_false,zZ5,zYX,if_false,z0j] at i1 hp hs;simp only[zNr,zp] at i1;have zk0:=zj.eq_1;exact zS
   ·simp only[c1,c2,zZm,decide_true,decide_false,zZX,if_true] at i1 hp hs;simp only[zNr,zp] at i1;have zk0:=zj.eq_1;exact zS
 ·clear ih;have:i=l.length:=by omega
  subst this;simp only[k0S,zod];exact zS
def k1S(w:List Message)(ep n:Int)(i:Nat):St:=⟨[(1,.d (.int .i64 ep)),(8,.d (.int .i64 n)),(9,.d (.int .i64 (zbB (mQ ep) w i))),(11,.d (.sl (w.map zj))),(13,.d (.int .i64 i))],[]⟩
theorem zPT(w:List Message)(ep n:Int)(h1:w.length<=24):∀i,i<=w.length->zP G [] zoe (k1S w ep n i)=some (.exit 2,⟨[(8,.d (.int .i64 n)),(9,.d (.int .i64 (zbB (mQ ep) w w.length)))],[]⟩):=by
 refine zaq (fun i=>w.length - i) (fun i=>i<=w.length) (k1S w ep n) _ fun i hi L ih=> ?_
 by_cases h0:i<w.length
 ·have i1:=ih (i+1) zo zo;clear ih;have hp:=zhU w[i] ep;have hle:=zqy (mQ ep) w i;generalize zbB (mQ ep) w w.length=z at *;rw[k1S,zqz _ h0] at i1;simp only[k1S,zoe];generalize zbB (mQ ep) w i=q at *;simp only[zj] at hp;unfold mQ at i1
  by_cases c1:w[i].epoch<ep
  ·simp only[c1,zY2,decide_true,decide_false,zYX,if_false,z0j] at i1 hp;simp only[zNr,zp] at i1;have zk0:=zj.eq_1;exact zS
  ·simp only[c1,zZm,decide_true,decide_false,if_true] at i1 hp;simp only[zNr,zp] at i1;have zk0:=zj.eq_1;exact zS
 ·clear ih;have:i=w.length:=by omega
  subst this;simp only[k1S,zoe];exact zS
def zir(s:Shard)(ep lim:Int):Int×Int:=
 if zab s=0/\(0<=ep/\ep<=65536)/\1<=lim/\lim<=8 then ((zbB (rdQ ep lim) (zu s.ready) (zu s.ready).length:Nat),(zbB (lsQ ep) s.leases.l s.leases.l.length:Nat)) else (0,0)
theorem zQC{s:Shard}(h:zab s=0):zau s.ready=0/\zac s.leases=0:=by
 have h0:zU s=0:=Classical.byContradiction fun hc=>by unfold zab at h;rw[zYQ hc] at h;exact hc h
 by_cases e1:zau s.ready=0
 ·refine⟨e1,Classical.byContradiction fun e2=> ?_⟩;unfold zU at h0;rw[zYP (fun hc=>hc e1),zYQ e2] at h0;exact e2 h0
 ·unfold zU at h0;rw[zYQ e1] at h0;exact absurd h0 e1
theorem zG5(s:Shard)(ep lim:Int)(h1:s.ready.cells.length<=4294967296)(h2:s.leases.l.length<=4294967296)(h3:s.leases.heap.length<=4294967296):zd G 12 [.d (zi s),.d (.int .i64 ep),.d (.int .i64 lim)] []=some (.d (.tup [.int .i64 (zir s ep lim).1,.int .i64 (zir s ep lim).2]),[]):=by
 have he:=zzz ep;have hli:=zB5 lim;have hu:=zeZ s h1 h2 h3
 by_cases c:zab s=0/\(0<=ep/\ep<=65536)/\1<=lim/\lim<=8
 ·unfold zir;rw[zYQ c];obtain⟨c0,c1,c2⟩:=c;rw[zZe c1] at he;rw[zZe c2] at hli;rw[c0] at hu;obtain⟨e1,e2⟩:=zQC c0;have hl:=ztz e2;have hb:(zu s.ready).length<=24:=by
   rw[zgw];obtain⟨a1,a2,a3,a4,a5,a6⟩:=zch e1;omega
  have hr:=zi7 e1;have hle:=zoD hl;have hl0:=zPQ (zu s.ready) (s.leases.l.map (·.msg)) ep lim hb 0 zo;generalize hn:zbB (rdQ ep lim) (zu s.ready) (zu s.ready).length=n at *;have hl1:=zPT (s.leases.l.map (·.msg)) ep n (by simp;omega) 0 zo;rw[zGL ep s.leases.l,zY3] at hl1;simp only[k0S,zbB,zZE,z0E,zYY] at hl0;simp only[k1S,zbB,zZE,z0E,zYY] at hl1;clear hn c0 e1 e2;generalize zu s.ready=w at *;generalize s.leases.l.map (·.msg)=w2 at *;simp only[zbB];obtain⟨lv,lo,hi,⟨cs,h,z⟩,⟨tl,th⟩⟩:=s;simp only[zi] at hu hr hle hl0 hl1 hl h1 h2 h3 ⊢;simp only[zNr,zp] at hl0 hl1;exact zW
 ·unfold zir;rw[zYP c]
  by_cases c0:zab s=0
  ·rw[c0] at hu
   by_cases c1:0<=ep/\ep<=65536
   ·rw[zZe c1] at he;rw[zZc (fun hc=>c ⟨c0,c1,hc⟩)] at hli;clear c c0;simp only[zi] at hu ⊢;exact zW
   ·rw[zZc c1] at he;clear c c0;simp only[zi] at hu ⊢;exact zW
  ·clear c;generalize zab s=v at *;simp only[zi] at hu ⊢;exact zW
def zbR(n:Int):Prop:=0<=n/\n<=1099511627776
instance (n:Int):Decidable (zbR n):=by unfold zbR;exact inferInstance
theorem zqC(n:Int):zd G 226 [.d (.int .i64 n)] []=some (.d (.bool (decide (zbR n))),[]):=by
 by_cases h:zbR n
 ·rw[zZe h];unfold zbR at h;exact zW
 ·rw[zZc h];unfold zbR at h;have e:(decide (0<=n)&&decide (n<=1099511627776))=false:=by simp;omega
  exact zW
def zhr(s:Stripe):Stripe×Int:=if ¬zbR s.seq then (zb1,1) else if s.seq.tmod 2=1 then (zb1,7) else if 1099511627774<s.seq then (zb1,6) else (⟨s.seq+1,s.epoch,s.ready,s.leased⟩,0)
theorem zF1(s:Stripe):zd G 314 [.d (zE s)] []=some (.d (.tup [zE (zhr s).1,.int .i64 (zhr s).2]),[]):=by
 unfold zhr
 by_cases h:zbR s.seq
 ·rw[zYP (fun hc=>hc h)];unfold zbR at h
  by_cases h1:s.seq.tmod 2=1
  ·simp only[h1,if_true,zE,zb1];exact zW
  ·simp only[h1,if_false]
   by_cases h2:1099511627774<s.seq
   ·simp only[h2,if_true,zE,zb1];exact zW
   ·simp only[h2,if_false,zE];exact zW
 ·rw[zYQ h];unfold zbR at h;simp only[zE,zb1];exact zW
def zix(s:Stripe)(x:Shard)(ep lim:Int):Stripe×Int:=if ¬zbR s.seq then (zb1,1) else if s.seq.tmod 2=0 then (zb1,7) else if zU x≠0 then (zb1,zU x) else if ¬(0<=ep/\ep<=65536/\1<=lim/\lim<=8) then (zb1,1) else (⟨s.seq+1,ep,(zir x ep lim).1,(zir x ep lim).2⟩,0)
theorem zIJ(s:Stripe)(x:Shard)(ep lim:Int)(h1:x.ready.cells.length<=4294967296)(h2:x.leases.l.length<=4294967296)(h3:x.leases.heap.length<=4294967296):zd G 319 [.d (zE s),.d (zi x),.d (.int .i64 ep),.d (.int .i64 lim)] []=some (.d (.tup [zE (zix s x ep lim).1,.int .i64 (zix s x ep lim).2]),[]):=by
 have hv:=zmj x h1 h2 h3;have hc:=zG5 x ep lim h1 h2 h3;unfold zix;generalize zir x ep lim=cc at *;obtain⟨cc1,cc2⟩:=cc;generalize zU x=v at *
 by_cases h:zbR s.seq
 ·rw[zYP (fun hc=>hc h)];unfold zbR at h
  by_cases e1:s.seq.tmod 2=0
  ·simp only[e1,if_true,zE,zb1,zi];exact zW
  ·simp only[e1,if_false]
   by_cases e2:v=0
   ·subst e2;simp only[ne_eq,zY2,if_false]
    by_cases e3:0<=ep/\ep<=65536/\1<=lim/\lim<=8
    ·rw[zYP (fun hc=>hc e3)];simp only[zE,zi] at hv hc ⊢;exact zW
    ·rw[zYQ e3];simp only[zE,zb1,zi] at hv ⊢;clear hc;exact zW
   ·simp only[ne_eq,e2,zZm,if_true,zE,zb1,zi] at hv ⊢;clear hc;exact zW
 ·rw[zYQ h];unfold zbR at h;clear hc hv;simp only[zE,zb1,zi];exact zW
def zts(ep:Int)(p:Int×Int)(s:Stripe):Int×Int:=if s.epoch=ep/\zbR s.seq/\zbR s.ready/\zbR s.leased then (IntKind.i64.wrap (p.1+s.ready),IntKind.i64.wrap (p.2+s.leased)) else p
def zd7(l:List Stripe)(ep:Int)(i:Nat):Int×Int:=(l.take i).foldl (zts ep) (0,0)
theorem zXl{l:List Stripe}(ep:Int){i:Nat}(h:i<l.length):zd7 l ep (i+1)=zts ep (zd7 l ep i) l[i]:=by
 unfold zd7;rw[z1i,zY1 h,z1Y];rfl
def zkG(l:List Stripe)(ep:Int)(i:Nat):St:=⟨[(0,.d (.sl (l.map zE))),(1,.d (.int .i64 ep)),(6,.d (.int .i64 (zd7 l ep i).1)),(7,.d (.int .i64 (zd7 l ep i).2)),(8,.d (.int .i64 i))],[]⟩
theorem zUX(l:List Stripe)(ep:Int)(h1:l.length<=4294967296):∀i,i<=l.length->zP G [] zor (zkG l ep i)=some (.exit 0,⟨[(6,.d (.int .i64 (zd7 l ep l.length).1)),(7,.d (.int .i64 (zd7 l ep l.length).2))],[]⟩):=by
 refine zaq (fun i=>l.length - i) (fun i=>i<=l.length) (zkG l ep) _ fun i hi L ih=> ?_
 by_cases h0:i<l.length
 ·have i1:=ih (i+1) zo zo;clear ih;have n1:=zqC l[i].seq;have n2:=zqC l[i].ready;have n3:=zqC l[i].leased;generalize zd7 l ep l.length=z at *;rw[zkG,zXl ep h0] at i1;simp only[zkG,zor];generalize zd7 l ep i=q at *;obtain⟨q1,q2⟩:=q;unfold zts at i1
  by_cases c1:l[i].epoch=ep
  ·by_cases c2:zbR l[i].seq
   ·by_cases c3:zbR l[i].ready
    ·by_cases c4:zbR l[i].leased
     ·simp only[c1,c2,c3,c4,zZI,if_true,decide_true] at i1 n1 n2 n3;simp only[zNr,zp] at i1;have zk0:=zE.eq_1;exact zS
     ·simp only[c1,c2,c3,c4,z0P,zZI,if_false,decide_true,decide_false] at i1 n1 n2 n3;simp only[zNr,zp] at i1;have zk0:=zE.eq_1;exact zS
    ·simp only[c1,c2,c3,z0P,zZ3,zZI,if_false,decide_true,decide_false] at i1 n1 n2;simp only[zNr,zp] at i1;have zk0:=zE.eq_1;exact zS
   ·simp only[c1,c2,z0P,zZ3,zZI,if_false,decide_true,decide_false] at i1 n1;simp only[zNr,zp] at i1;have zk0:=zE.eq_1;exact zS
  ·simp only[c1,zZ3,if_false] at i1;simp only[zNr,zp] at i1;have zk0:=zE.eq_1;exact zS
 ·clear ih;have:i=l.length:=by omega
  subst this;simp only[zkG,zor];exact zS
theorem zXk(l:List Stripe)(ep:Int)(h1:l.length<=4294967296):zd G 169 [.d (.sl (l.map zE)),.d (.int .i64 ep)] []=some (.d (.tup [.int .i64 (zd7 l ep l.length).1,.int .i64 (zd7 l ep l.length).2]),[]):=by
 have hl:=zUX l ep h1 0 zo;generalize zd7 l ep l.length=z at *;simp only[zkG,zd7,zZE,z1g,zZg] at hl;exact zW
def zhR(s:Stripe):Bool:=decide (¬s.seq.tmod 2=0)
theorem zTs(l:List Stripe)(h1:l.length<=4294967296):zd G 11 [.d (.sl (l.map zE))] []=some (.d (.bool (!l.any zhR)),[]):=by
 have:=zg4 (G:=G) (x:=zr3) (ks:=[]) l.length (atB l zhR) (fun k=>⟨[(0,.d (.sl (l.map zE))),(3,.d (.int .i64 k))],[]⟩) (fun k=>(.ret,⟨[(2,.d (.bool false))],[]⟩)) (.exit 0,⟨[],[]⟩) (fun k hk L=>by
  simp only[zr3]
  by_cases h0:k<l.length
  ·rw[zYQ h0];simp only[zeO h0];unfold zhR
   by_cases h1:l[k].seq.tmod 2=0
   ·simp only[h1,zY2,decide_false,zYX,if_false];have zk0:=zE.eq_1;exact zS
   ·simp only[h1,zZm,decide_true,if_true];have zk0:=zE.eq_1;exact zS
  ·rw[zYP h0];exact zS)
 rw[ziB] at this;simp only[zNr,zp] at this
 cases h:l.findIdx? zhR with
 | none=>
  have e:l.any zhR=false:=zZ6.2 fun x hx=>by simpa using z0Z.1 h x hx
  rw[h] at this;rw[e];exact zW
 | some i=>
  obtain⟨hi,e,_⟩:=zZV.1 h;have e:l.any zhR=true:=zZW.2 ⟨_,zY4 hi,e⟩;rw[h] at this;rw[e];exact zW
theorem zW1{a b:Stripe}(h:¬(¬a.seq=b.seq\/¬a.epoch=b.epoch\/¬a.ready=b.ready\/¬a.leased=b.leased)):a=b:=by
 simp only[not_or,zY9] at h;obtain⟨h1,h2,h3,h4⟩:=h
 cases a;cases b
 simp only at h1 h2 h3 h4;subst h1 h2 h3 h4;rfl
def zh3(a b:List Stripe)(i:Nat):Bool:=decide (a.drop i=b.drop i)
theorem zVA{a b:List Stripe}{i:Nat}(h0:i<a.length)(h3:i<b.length):zh3 a b i=(decide (a[i]=b[i])&&zh3 a b (i+1)):=by
 unfold zh3;apply zZB.2;simp only[zY6,decide_eq_true_eq];rw[zZr h0,zZr h3,List.cons.injEq]
theorem zVz{a b:List Stripe}{i:Nat}(h0:a.length<=i)(h3:b.length<=i):zh3 a b i=true:=by
 unfold zh3;rw[z1X h0,z1X h3];rfl
def eqR(a b:List Stripe)(i:Nat):zR×St:=if zh3 a b i=true then (.exit 0,⟨[],[]⟩) else (.ret,⟨[(4,.d (.bool false))],[]⟩)
def sqS(a b:List Stripe)(i:Nat):St:=⟨[(0,.d (.sl (a.map zE))),(1,.d (.sl (b.map zE))),(5,.d (.int .i64 i))],[]⟩
theorem zWV(a b:List Stripe)(h1:a.length<=4294967296)(h2:b.length=a.length):∀i,i<=a.length->zP G [] zj0 (sqS a b i)=some (eqR a b i):=by
 refine zaq (fun i=>a.length - i) (fun i=>i<=a.length) (sqS a b) (fun i=>some (eqR a b i)) fun i hi L ih=> ?_
 by_cases h0:i<a.length
 ·have i1:=ih (i+1) zo zo;clear ih;have h3:i<b.length:=by omega
  unfold eqR at i1 ⊢;rw[zVA h0 h3];generalize zh3 a b (i+1)=bd at *;simp only[sqS] at i1;simp only[zNr,zp] at i1;simp only[sqS,zj0]
  by_cases hm:a[i]=b[i]
  ·simp only[hm,decide_true,z0b];have zk1:=zE.eq_1;exact zS
  ·simp only[hm,decide_false,zZH,zYX,if_false]
   (try simp -implicitDefEqProofs (maxSteps:=4000000) (disch:=omega) only[zE,zg,go_sem, *]);(try simp only[zPr]);repeat' (first|done|rfl|((first|refine zG (fun hq=> ?_) (fun hq=> ?_)|refine zM (fun hq=> ?_) (fun hq=> ?_))<;>(try (first|(exfalso;omega)|contradiction))<;>(try simp -implicitDefEqProofs (maxSteps:=4000000) (disch:=omega) only[zE,zg,go_sem, *])<;>(try simp only[zPr])));(all_goals try rfl);(all_goals try (repeat' (first|done|rfl|(exfalso;omega)|contradiction|(refine zI (fun hq=> ?_) (fun hq=> ?_)))))
   exact absurd (zW1 (by assumption)) hm
 ·clear ih;unfold eqR;rw[zVz zo zo];simp only[sqS,zj0,if_true];simp -implicitDefEqProofs (maxSteps:=4000000) (disch:=omega) only[zg,go_sem, *]
theorem zVy(a b:List Stripe)(h1:a.length<=4294967296)(h2:b.length<=4294967296):zd G 62 [.d (.sl (a.map zE)),.d (.sl (b.map zE))] []=some (.d (.bool (decide (a=b))),[]):=by
 by_cases h:b.length=a.length
 ·have hl:=zWV a b h1 h 0 zo;unfold eqR at hl;simp only[sqS,zZg] at hl;simp only[zh3,zZq] at hl;generalize decide (a=b)=q at *
  cases q
  ·simp only[zYX,if_false] at hl;exact zW
  ·simp only[if_true] at hl;exact zW
 ·rw[zZc (fun e=>h (by rw[e]))];exact zW
def zh6(l:List Message):Int:=if zbb l≠0 then zbb l else if zaS (l.map (·.id))=true then 10 else 0
def zbU(d:Dead):Int:=if d.cap<1\/24<d.cap then 1 else if d.cap<d.l.length then 2 else zh6 d.l
def zgB(d:Dead):Int:=if zbU d≠0 then 0 else d.cap - d.l.length
def zi3(d:Dead)(l:List Message):Dead×Int:=
 if zbU d≠0 then (zaL,zbU d) else if zgB d<l.length then (zaL,3) else if zh6 (d.l++l)≠0 then (zaL,zh6 (d.l++l)) else (⟨d.cap,d.l++l⟩,0)
def zd6(k ep:Int):List Message->List Message->List Message->List Message×List Message
 | [],rest,out=>(rest,out)
 | m::l,rest,out=>if (out.length:Int)<k/\¬m.epoch<ep then zd6 k ep l rest (out++[m]) else zd6 k ep l (rest++[m]) out
def zhj(d:Dead)(k ep:Int):Dead×List Message×Int:=
 if zbU d≠0 then (zaL,[],zbU d) else if k<0\/ep<0\/65536<ep then (zaL,[],1) else (⟨d.cap,(zd6 k ep d.l [] []).1⟩,(zd6 k ep d.l [] []).2,0)
def zhw(d:Dead)(ep:Int):Dead×Int×Int:=
 if zbU d≠0 then (zaL,0,zbU d) else if ep<0\/65536<ep then (zaL,0,1) else (⟨d.cap,d.l.filter fun m=> !decide (m.epoch<ep)⟩,d.l.length - (d.l.filter fun m=> !decide (m.epoch<ep)).length,0)
def zcU(a:zm)(i:Int):Bool:=decide (0<=i/\i<a.slots.length)
def zbv(a:zm)(i:Int):Shard×Int:=if zcU a i=true then ((a.slots.getD i.toNat ze7).shard,0) else (zA,1)
def zcm(a:zm)(i:Int):Stripe×Int:=if zcU a i=true then (a.stripes.getD i.toNat zb1,0) else (zb1,1)
def zco(a:zm)(i k:Int):Int:=if zcU a i=false\/zeH k=false then 1 else if (a.slots.getD i.toNat ze7).owner=k then 0 else 13
def stSlot(a:zm)(i k:Int)(s:Shard):zm×Int:=
 if zco a i k≠0 then (zx,zco a i k) else if zU s≠0 then (zx,zU s) else if s.ready.cells.length≠(a.slots.getD i.toNat ze7).shard.ready.cells.length then (zx,1)
 else ({ a with slots:=a.slots.set i.toNat ⟨(a.slots.getD i.toNat ze7).owner,s⟩ },0)
def zje(s:Stripe):Bool:=decide (zbR s.seq/\zbR s.epoch/\zbR s.ready/\zbR s.leased)
def stStripe(a:zm)(i k:Int)(s:Stripe):zm×Int:=
 if zco a i k≠0 then (zx,zco a i k) else if zje s=false then (zx,1) else ({ a with stripes:=a.stripes.set i.toNat s },0)
def stDead(a:zm)(k:Int)(d:Dead):zm×Int:=
 if zeH k=false then (zx,1) else if a.dead.owner≠k then (zx,13) else if zbU d≠0 then (zx,zbU d) else if d.cap≠a.dead.dead.cap then (zx,1) else ({ a with dead:=⟨a.dead.owner,d⟩ },0)
def casDir(a:zm)(v:Int)(d:zao):zm×Bool×Int:=
 if zbl d≠0 then (zx,false,zbl d) else if d.forward.length≠a.slots.length then (zx,false,1) else if a.dir.version≠v then (a,false,0) else ({ a with dir:=d },true,0)
def zgZ(a:zm)(w:Int):Int×Int:=if w=1 then (a.epoch,0) else if w=2 then (a.clock,0) else if w=3 then (a.nextID,0) else (0,9)
def casWord(a:zm)(w old next:Int):zm×Bool×Int:=
 if w≠1/\w≠3 then (zx,false,9) else if w=1/\¬(0<=next/\next<=65536)\/w=3/\¬(1<=next/\next<=1073741824) then (zx,false,1)
 else if (zgZ a w).1≠old then (a,false,0) else if w=1 then ({ a with epoch:=next },true,0) else ({ a with nextID:=next },true,0)
def zeI(a:zm)(by_:Int):zm×Int:=if ¬(0<=by_/\by_<=1099511627776) then (zx,1) else if 1073741824<a.clock+by_ then (zx,6) else ({ a with clock:=a.clock+by_ },0)
def zde(a:zm)(s:zif)(n:Int):zif×Int:=
 if s.phase=0 then ({ s with epoch:=a.epoch,phase:=1 },0) else if s.phase=1 then ({ s with clock:=a.clock,stamp:=n,phase:=2 },0)
 else if s.phase=2 then (if a.epoch=s.epoch then ({ s with phase:=3 },0) else ({ s with epoch:=a.epoch,phase:=1 },0)) else if s.phase=3 then (zhm,7) else (zhm,1)
def zdv(cells:List Int)(lim:Int):Section×Int:=
 if (zg2 cells).2≠0 then (zbG,(zg2 cells).2) else if lim<1\/8<lim then (zbG,1) else ({ zbG with lock:=(zg2 cells).1,limit:=lim },0)
def z5(s:Section)(ph:Int):Section:={ s with phase:=ph,at_:=0 }
def zdA(a:zm)(s:Section):Int:=(s.lock.cells.filter fun c=>decide (c<(a.slots.length:Int))).length
def zhf(a:zm)(s:Section)(k:Int):zm×Section×Int:=
 if (za2 a s.lock k).2.2=0/\(za2 a s.lock k).2.1.phase=3
 then ((za2 a s.lock k).1,if zdA a s=0 then z5 { s with lock:=(za2 a s.lock k).2.1 } 2 else z5 { s with lock:=(za2 a s.lock k).2.1 } 1,0)
 else ((za2 a s.lock k).1,{ s with lock:=(za2 a s.lock k).2.1 },(za2 a s.lock k).2.2)
def zcA(s:Section)(i:Int):Int:=s.lock.cells.getD i.toNat 0
def zfx(a:zm)(s:Section)(k:Int):zm×Section×Int:=
 if s.at_.tmod 2=0 then (a,{ s with stripes:=s.stripes++[(zcm a (zcA s (s.at_.tdiv 2))).1],at_:=s.at_+1 },(zcm a (zcA s (s.at_.tdiv 2))).2)
 else if (zhr (s.stripes.getD (s.at_.tdiv 2).toNat zb1)).2≠0 then (a,s,(zhr (s.stripes.getD (s.at_.tdiv 2).toNat zb1)).2)
 else
  let x:=(zhr (s.stripes.getD (s.at_.tdiv 2).toNat zb1)).1
  let r:=stStripe a (zcA s (s.at_.tdiv 2)) k x
  let s1:Section:={ s with stripes:=s.stripes.take (s.at_.tdiv 2).toNat++[x],at_:=s.at_+1 }
  (r.1,if r.2=0/\s1.at_=2 * zdA r.1 s1 then z5 s1 2 else s1,r.2)
def zfw(a:zm)(s:Section):zm×Section×Int:=
 let c:=zcA s s.at_
 let s1:Section:=if c=a.slots.length then { s with dead:=a.dead.dead,at_:=s.at_+1 } else { s with shards:=s.shards++[(zbv a c).1],at_:=s.at_+1 }
 (a,if s1.at_=s.lock.cells.length then z5 s1 3 else s1,if c=a.slots.length then 0 else (zbv a c).2)
def zh4(a:zm)(s:Section)(n:Int):zm×Section×Int:=
 (a,if (zde a s.snap n).2=0/\(zde a s.snap n).1.phase=3 then z5 { s with snap:=(zde a s.snap n).1 } 4 else { s with snap:=(zde a s.snap n).1 },(zde a s.snap n).2)
def zcL(s:Section):Section×Int:=if (zcf s.lock).2≠0 then (s,(zcf s.lock).2) else (z5 { s with lock:=(zcf s.lock).1 } 8,0)
def zcs(a:zm)(s:Section):zm×Section×Int:=if 0<s.stripes.length then (a,z5 s 7,0) else (a,(zcL s).1,(zcL s).2)
def zfz(a:zm)(s:Section)(k:Int):zm×Section×Int:=
 let o:=s.out.order.getD s.at_.toNat 0
 let c:=zcA s o
 let r:=if c=a.slots.length then stDead a k s.out.dead else stSlot a c k (s.out.shards.getD o.toNat zA)
 if r.2≠0 then (r.1,s,r.2)
 else if s.at_+1<s.out.order.length then (r.1,{ s with at_:=s.at_+1,carry:=s.out.carry },0)
 else if 0<s.out.edits.length then (r.1,z5 { s with at_:=s.at_+1,carry:=[] } 6,0)
 else zcs r.1 { s with at_:=s.at_+1,carry:=[] }
def zfv(a:zm)(s:Section):zm×Section×Int:=
 if s.at_=0 then (a,{ s with dir:=a.dir,at_:=1 },0)
 else
  let d:=zgP s.dir (s.out.edits.getD 0 zpF)
  if d.2≠0 then (a,s,d.2)
  else
   let r:=casDir a s.dir.version d.1
   if r.2.2≠0 then (a,s,r.2.2) else if r.2.1=false then (r.1,{ s with at_:=0 },0) else zcs r.1 { s with dir:=d.1 }
def zjd(s:Section)(k:Int):Bool:=s.out.order.any fun o=>decide (o=k)
def zfA(a:zm)(s:Section)(k:Int):zm×Section×Int:=
 let now:=if zjd s s.at_=true then s.out.shards.getD s.at_.toNat zA else s.shards.getD s.at_.toNat zA
 let x:=zix (s.stripes.getD s.at_.toNat zb1) now s.snap.epoch s.limit
 if x.2≠0 then (a,s,x.2)
 else
  let r:=stStripe a (zcA s s.at_) k x.1
  if r.2≠0 then (r.1,s,r.2)
  else if s.at_+1=s.stripes.length then (r.1,(zcL { s with at_:=s.at_+1 }).1,(zcL { s with at_:=s.at_+1 }).2) else (r.1,{ s with at_:=s.at_+1 },0)
def zhe(a:zm)(s:Section)(k:Int):zm×Section×Int:=
 if (za2 a s.lock k).2.2=0/\(za2 a s.lock k).2.1.phase=5 then ((za2 a s.lock k).1,z5 { s with lock:=(za2 a s.lock k).2.1 } 9,0)
 else ((za2 a s.lock k).1,{ s with lock:=(za2 a s.lock k).2.1 },(za2 a s.lock k).2.2)
def zfy(a:zm)(s:Section)(k n:Int):zm×Section×Int:=
 if s.phase=0 then zhf a s k else if s.phase=1 then zfx a s k else if s.phase=2 then zfw a s else if s.phase=3 then zh4 a s n else if s.phase=5 then zfz a s k
 else if s.phase=6 then zfv a s else if s.phase=7 then zfA a s k else if s.phase=8 then zhe a s k else (a,s,7)
def zcx(a:zm)(s:Section)(k n:Int):zm×Section×Int:=if (zfy a s k n).2.2≠0 then (zx,zbG,(zfy a s k n).2.2) else zfy a s k n
def z7(s:Section):zb5:=⟨s.shards,s.dead,[],[],[]⟩
def zkq(n:Int)(l:List Int):Bool:=decide ((∀o∈l,0<=o/\o<n)/\l.Nodup)
def zeR(s:Section)(o:zb5):Section×Int:=
 if s.phase≠4 then (zbG,7) else if o.shards.length≠s.shards.length\/1<o.edits.length then (zbG,1) else if zkq s.lock.cells.length o.order=false then (zbG,1)
 else if 0<o.order.length then (z5 { s with out:=o } 5,0) else if 0<o.edits.length then (z5 { s with out:=o } 6,0)
 else ((zcs zx { s with out:=o }).2.1,(zcs zx { s with out:=o }).2.2)
def inI(n lo hi:Int):Bool:=decide (lo<=n/\n<=hi)
def zgK(r:Int):zeM×Int:=if r<0\/65536<=r then (zga,1) else (⟨r,0⟩,0)
def zfF(w:zeM)(lo hi:Int):zeM×Int:=if lo<0\/w.next<lo\/hi<w.next\/65536<=hi\/w.covered<0\/65536<=w.covered then (zga,1) else (⟨(hi+1).tmod 65536,w.covered+hi - w.next+1⟩,0)
def zgL(w:zeM):Bool:=decide (65536<=w.covered)
def zbO(i:zaY)(s:Setup):Int:=
 if i.kind=1 then (if i.bodies.length=0\/6<i.bodies.length then 2 else if (i.bodies.any fun b=>decide (16<b.length))=true then 2 else 0)
 else if i.kind=2\/i.kind=8 then (if inI i.home 0 (s.slots - 1)=false\/inI i.max 1 6=false\/i.kind=2/\inI i.visibility 0 1000=false then 1 else 0)
 else if 3<=i.kind/\i.kind<=5 then (if i.tokens.length=0\/6<i.tokens.length then 2 else if i.kind=5/\inI i.visibility 0 1000=false then 1 else 0)
 else if 9<=i.kind/\i.kind<=11 then (if inI i.from_ 0 (s.slots - 1)=false\/inI i.to 0 (s.slots - 1)=false\/i.from_=i.to then 1 else 0)
 else if i.kind=12\/i.kind=14 then (if inI i.from_ 0 (s.slots - 1)=false then 1 else 0)
 else if i.kind=13 then (if i.from_<0\/s.slots<i.from_ then 1 else 0)
 else if i.kind=6\/i.kind=7 then 0 else 9
def zej(i:zaY):Int:=if i.kind=1 then i.bodies.length else if 3<=i.kind/\i.kind<=5 then i.tokens.length else 1
def zaX(s:Setup):Bool:=inI s.slots 1 6&&(inI s.live 1 s.slots&&(inI s.capacity 1 12&&(inI s.dead 1 24&&(inI s.limit 1 8&&(inI s.clock 0 1073741824&&(inI s.nextID 1 1073741824&&inI s.epoch 0 65536))))))
def zeF(number:Int)(i:zaY)(s:Setup)(n:Int):zq×Int:=
 if number<1\/200<number\/n<0 then (zJ,1) else if zaX s=false then (zJ,1) else if zbO i s≠0 then (zJ,zbO i s) else ({ zJ with number:=number,inv:=i,setup:=s,invoked:=n },0)
def zbo(t:zq)(r:Result)(n:Int):zq:=
 { zJ with number:=t.number,inv:=t.inv,setup:=t.setup,invoked:=t.invoked,entry:=t.entry+1,done:=if t.entry+1=zej t.inv then true else t.done,ended:=if t.entry+1=zej t.inv then n else t.ended,results:=t.results++[r] }
def zan(t:zq)(lo hi:Int):Int:=if t.done=true then 7 else if t.inv.kind<lo\/hi<t.inv.kind then 9 else 0
def zcc(t:zq)(cells:List Int)(pc:Int):zq:={ t with sec:=(zdv cells t.setup.limit).1,pc:=pc }
def zey(a b:Int):List Int:=if a<b then [a,b] else [b,a]
def goT(a:zm)(t:zq)(n:Int):zm×zq×Bool×Bool×Int:=
 if (zcx a t.sec t.number n).2.2≠0 then (zx,zJ,false,false,(zcx a t.sec t.number n).2.2)
 else ((zcx a t.sec t.number n).1,{ t with sec:=(zcx a t.sec t.number n).2.1 },decide ((zcx a t.sec t.number n).2.1.phase=4),decide ((zcx a t.sec t.number n).2.1.phase=9),0)
def za5(t:zq)(o:zb5):zq:={ t with sec:=(zeR t.sec o).1 }
def evT(t:zq)(kind n:Int):Event:={ zbS with stamp:=n,task:=t.number,entry:=t.entry,kind:=kind }
def zcd(t:zq)(kind:Int):Event:={ zbS with stamp:=t.sec.snap.stamp,task:=t.number,entry:=t.entry,kind:=kind,now:=t.sec.snap.clock,epoch:=t.sec.snap.epoch }
def zg3(a:zm)(t:zq)(route pc:Int):zq:=zcc { t with dir:=a.dir,slot:=zew a.dir route } [zew a.dir route] pc
def zaW(e:Int):Result:={ zah with err:=e }
def zdZ(a:zm)(t:zq)(n:Int):zm×zq×List Event×Int:=
 if zan t 6 6≠0 then (zx,zJ,[],zan t 6 6)
 else if t.pc=0 then (if a.epoch=65536 then (a,zbo { t with loaded:=a.epoch } (zaW 6) n,[{ evT t 7 n with err:=6 }],0) else (a,{ t with loaded:=a.epoch,pc:=1 },[],0))
 else
  let c:=casWord a 1 t.loaded (t.loaded+1)
  if c.2.2≠0 then (zx,zJ,[],c.2.2) else if c.2.1=false then (c.1,{ t with pc:=0 },[],0) else (c.1,zbo t zah n,[{ evT t 7 n with epoch:=t.loaded+1 }],0)
def zo0(l:List Stripe):Bool:=l.all fun s=> !zhR s
def zdH(a:zm)(t:zq)(n:Int):zm×zq×List Event×Int:=
 if zan t 7 7≠0 then (zx,zJ,[],zan t 7 7)
 else if t.pc=0 then (a,{ t with loaded:=a.epoch,first:=[],second:=[],pc:=1 },[],0)
 else if t.pc=1 then
  (let s:=zcm a t.first.length
   if s.2≠0 then (zx,zJ,[],s.2)
   else
    let l:=t.first++[s.1]
    (a,{ t with first:=l,pc:=if (l.length:Int)=t.setup.slots then (if zo0 l=true then 2 else 0) else t.pc },[],0))
 else if t.pc=2 then
  (let s:=zcm a t.second.length
   if s.2≠0 then (zx,zJ,[],s.2)
   else
    let l:=t.second++[s.1]
    (a,{ t with id:=if t.second.length=0 then n else t.id,second:=l,pc:=if (l.length:Int)=t.setup.slots then (if t.first=l then 3 else 0) else t.pc },[],0))
 else if a.epoch≠t.loaded then (a,{ t with pc:=0 },[],0)
 else
  let p:=zd7 t.first a.epoch t.first.length
  (a,zbo t { zah with ready:=p.1,leased:=p.2 } n,[{ evT t 8 t.id with epoch:=a.epoch,ready:=p.1,leased:=p.2 }],0)
theorem zua(a:Int)(m:Int)(h0:0<=m)(h1:m<=4294967295):0<=zjq .i64 a m/\zjq .i64 a m<=m:=by
 unfold zjq;have e:(BitVec.ofInt IntKind.i64.bits m).toNat=m.toNat:=by
  show (BitVec.ofInt 64 m).toNat=m.toNat;rw[BitVec.toNat_ofInt];omega
 have h2:(BitVec.ofInt IntKind.i64.bits a &&& BitVec.ofInt IntKind.i64.bits m).toNat<=m.toNat:=by
  rw[BitVec.toNat_and,e];exact Nat.and_le_right
 rw[wr zo];omega
theorem zYG(a b:Int)(ha:0<=a/\a<65536)(hb:0<=b/\b<65536):0<=zji .i64 a b/\zji .i64 a b<65536:=by
 unfold zji;have e:∀m:Int,0<=m->m<65536->(BitVec.ofInt IntKind.i64.bits m).toNat=m.toNat:=fun m h0 h1=>by
  show (BitVec.ofInt 64 m).toNat=m.toNat;rw[BitVec.toNat_ofInt];omega
 have h2:(BitVec.ofInt IntKind.i64.bits a ^^^ BitVec.ofInt IntKind.i64.bits b).toNat<65536:=by
  rw[BitVec.toNat_xor,e a ha.1 ha.2,e b hb.1 hb.2];exact Nat.xor_lt_two_pow (n:=16) zo zo
 rw[wr zo];omega
def zpo(b:List UInt8)(p:Nat×Int):St:=⟨[(0,.d (.sl (byD b))),(3,.d (.int .i64 p.2)),(4,.d (.int .i64 p.1))],[]⟩
def zD6(r:Option (zR×St)):Prop:=∃h:Int,0<=h/\h<=4294967295/\r=some (.exit 0,⟨[(3,.d (.int .i64 h))],[]⟩)
theorem zXm(b:List UInt8)(hL:b.length<=1000):∀p:Nat×Int,p.1<=b.length/\0<=p.2/\p.2<=4294967295->zD6 (zP G [] zrK (zpo b p)):=by
 refine ziQ (fun p:Nat×Int=>b.length - p.1) _ (zpo b) (fun _=>zdl zD6) fun⟨i,h⟩ ⟨h1,h2,h3⟩ L ih=> ?_;simp only at h1 h2 h3;simp only[zpo,zrK] at ih ⊢
 by_cases h0:i<b.length
 ·have hlt:=b[i].toNat_lt;have hg:(byD b)[i]? = some (.int .u8 b[i].toNat):=by unfold byD;simp [zY1 h0]
  have hlen:(byD b).length=b.length:=by unfold byD;simp
  have ha:=fun a=>zua a 4294967295 zo zo;simp -implicitDefEqProofs (maxSteps:=4000000) (disch:=omega) only[zg,go_sem, *];exact ih (i+1,_) ⟨by simp only;omega,(ha _).1,(ha _).2⟩ (by simp only;omega)
 ·have hlen:(byD b).length=b.length:=by unfold byD;simp
  clear ih;simp -implicitDefEqProofs (maxSteps:=4000000) (disch:=omega) only[zg,go_sem, *];exact⟨h,h2,h3,rfl⟩
theorem zD7(b:List UInt8)(hL:b.length<=1000):∃h:Int,0<=h/\h<=4294967295/\zd G 206 [.d (.sl (byD b))] []=some (.d (.int .i64 h),[]):=by
 obtain⟨h,h1,h2,hl⟩:=zXm b hL (0,2166136261) ⟨by simp,by simp,by simp⟩;simp only[zpo] at hl;simp only[zNr,zp] at hl;refine⟨h,h1,h2,?_⟩;exact zW
theorem zgI(x:Int):∃c:UInt8,IntKind.u8.wrap x=c.toNat:=by
 have h:=zfi .u8 x;simp only[IntKind.has,IntKind.min,IntKind.max,IntKind.bits,IntKind.signed] at h;simp at h;exact⟨UInt8.ofNat (IntKind.u8.wrap x).toNat,by rw[UInt8.toNat_ofNat'];omega⟩
theorem byS(b:List UInt8):zap 1 (byD b)=true:=by
 unfold byD
 induction b with
 | nil=>rfl
 | cons a l ih=>simp only[zYU,zap,zZ0];exact Bool.and_eq_true_iff.2 ⟨rfl,ih⟩
theorem zs0(b:List UInt8)(hb:b.length<=100)(n:Int)(h0:0<=n)(h1:n<=4294967295):∃c:List UInt8,c.length=4/\zd G 205 [.d (.sl (byD b)),.d (.int .i64 n),.d (.int .i64 4)] []=some (.tup [.acc 0 (byD b++byD c),.d (.int .i64 0)],[(0,.acc (b.length+4))]):=by
 have hlen:(byD b).length=b.length:=by unfold byD;simp
 have hS:=byS b;obtain⟨c1,e1⟩:=zgI (n.fdiv (2 ^ (min 24 64:Nat)));obtain⟨c2,e2⟩:=zgI (n.fdiv (2 ^ (min 16 64:Nat)));obtain⟨c3,e3⟩:=zgI (n.fdiv (2 ^ (min 8 64:Nat)));obtain⟨c4,e4⟩:=zgI (n.fdiv (2 ^ (min 0 64:Nat)));have hw:¬IntKind.i64.wrap (1 * 2 ^ (min 32 64:Nat))<=n:=by
  have:IntKind.i64.wrap (1 * 2 ^ (min 32 64:Nat))=4294967296:=by decide
  omega
 refine⟨[c1,c2,c3,c4],rfl,?_⟩;have hc:byD [c1,c2,c3,c4]=[.int .u8 c1.toNat,.int .u8 c2.toNat,.int .u8 c3.toNat,.int .u8 c4.toNat]:=rfl;rw[hc];generalize byD b=bb at *;rw[zB zre (by simp)];simp -implicitDefEqProofs (maxSteps:=4000000) (disch:=omega) only[zla,zaC,zlM,zg,go_sem, *];(try simp only[zPr]);repeat' (first|done|rfl|((first|refine zG (fun hq=> ?_) (fun hq=> ?_)|refine zM (fun hq=> ?_) (fun hq=> ?_))<;>(try (first|(exfalso;omega)|contradiction))<;>(try simp -implicitDefEqProofs (maxSteps:=4000000) (disch:=omega) only[zaC,zlM,zg,go_sem, *])<;>(try simp only[zPr])));(all_goals try rfl);(all_goals try (repeat' (first|done|rfl|(exfalso;omega)|contradiction|(refine zI (fun hq=> ?_) (fun hq=> ?_)))))
 simp only[zZF,zZh,zZb]
theorem zTk(b:List UInt8)(hb:b.length<=100)(n:Int)(h0:0<=n)(h1:n<=16777215):∃c:List UInt8,c.length=3/\zd G 205 [.d (.sl (byD b)),.d (.int .i64 n),.d (.int .i64 3)] []=some (.tup [.acc 0 (byD b++byD c),.d (.int .i64 0)],[(0,.acc (b.length+3))]):=by
 have hlen:(byD b).length=b.length:=by unfold byD;simp
 have hS:=byS b;obtain⟨c1,e1⟩:=zgI (n.fdiv (2 ^ (min 16 64:Nat)));obtain⟨c2,e2⟩:=zgI (n.fdiv (2 ^ (min 8 64:Nat)));obtain⟨c3,e3⟩:=zgI (n.fdiv (2 ^ (min 0 64:Nat)));have hw:¬IntKind.i64.wrap (1 * 2 ^ (min 24 64:Nat))<=n:=by
  have:IntKind.i64.wrap (1 * 2 ^ (min 24 64:Nat))=16777216:=by decide
  omega
 refine⟨[c1,c2,c3],rfl,?_⟩;have hc:byD [c1,c2,c3]=[.int .u8 c1.toNat,.int .u8 c2.toNat,.int .u8 c3.toNat]:=rfl;rw[hc];generalize byD b=bb at *;rw[zB zre (by simp)];simp -implicitDefEqProofs (maxSteps:=4000000) (disch:=omega) only[zla,zaC,zlM,zg,go_sem, *];simp only[zZF,zZh,zZb]
theorem zTj(b:List UInt8)(hb:b.length<=100)(n:Int)(h0:0<=n)(h1:n<=65535):∃c:List UInt8,c.length=2/\zd G 205 [.d (.sl (byD b)),.d (.int .i64 n),.d (.int .i64 2)] []=some (.tup [.acc 0 (byD b++byD c),.d (.int .i64 0)],[(0,.acc (b.length+2))]):=by
 have hlen:(byD b).length=b.length:=by unfold byD;simp
 have hS:=byS b;obtain⟨c1,e1⟩:=zgI (n.fdiv (2 ^ (min 8 64:Nat)));obtain⟨c2,e2⟩:=zgI (n.fdiv (2 ^ (min 0 64:Nat)));have hw:¬IntKind.i64.wrap (1 * 2 ^ (min 16 64:Nat))<=n:=by
  have:IntKind.i64.wrap (1 * 2 ^ (min 16 64:Nat))=65536:=by decide
  omega
 refine⟨[c1,c2],rfl,?_⟩;have hc:byD [c1,c2]=[.int .u8 c1.toNat,.int .u8 c2.toNat]:=rfl;rw[hc];generalize byD b=bb at *;rw[zB zre (by simp)];simp -implicitDefEqProofs (maxSteps:=4000000) (disch:=omega) only[zla,zaC,zlM,zg,go_sem, *];simp only[zZF,zZh,zZb]
theorem zmv(id:Int):∃r:Int,0<=r/\r<65536/\zd G 154 [.d (.int .i64 id)] []=some (.d (.int .i64 r),[]):=by
 by_cases h0:id<0
 ·refine⟨0,by omega,by omega,?_⟩;exact zW
 ·by_cases h1:1073741824<id
  ·refine⟨0,by omega,by omega,?_⟩;exact zW
  ·obtain⟨b,hb,hp⟩:=zs0 [] (by simp) id zo zo;have hn:byD []=[]:=rfl;rw[hn] at hp;simp only[zZb,zYY,zZj] at hp;obtain⟨h,g0,g1,hs⟩:=zD7 b zo;have hf:Int.fdiv h (2 ^ (min 16 64:Nat))=h / 65536:=by
    show Int.fdiv h 65536=h / 65536;rw[z2h _ zo]
   have hx:=zYG (h / 65536) (zjq .i64 h 65535) zo (by have:=zua h 65535 zo zo;omega);refine⟨zji .i64 (h / 65536) (zjq .i64 h 65535),hx.1,hx.2,?_⟩;exact zW
def ziJ(r lo hi:Int):Int:=if lo<=r/\r<=hi then r else lo+r.tmod (hi - lo+1)
theorem zBI(r lo hi:Int)(h0:0<=r)(h1:r<65536)(h2:0<=lo)(h3:lo<=hi)(h4:hi<65536):zd G 198 [.d (.int .i64 r),.d (.int .i64 lo),.d (.int .i64 hi)] []=some (.d (.int .i64 (ziJ r lo hi)),[]):=by
 unfold ziJ;have hm:=z1h r (show 0<hi - lo+1 by omega);have hm2:=z1a (hi - lo+1) h0;have hne:¬hi - lo+1=0:=by omega
 by_cases c:lo<=r/\r<=hi
 ·rw[zYQ c];obtain⟨c1,c2⟩:=c;exact zW
 ·rw[zYP c]
  by_cases c1:lo<=r
  ·have c2:¬r<=hi:=fun h=>c ⟨c1,h⟩;clear c;exact zW
  ·clear c;exact zW
theorem zPx{r lo hi:Int}(h0:0<=r)(h3:lo<=hi):lo<=ziJ r lo hi/\ziJ r lo hi<=hi:=by
 unfold ziJ;have hm:=z1h r (show 0<hi - lo+1 by omega);have hm2:=z1a (hi - lo+1) h0
 split<;>omega
def zoJ(m:Message)(id lo hi:Int):Prop:=m.id=id/\lo<=m.route/\m.route<=hi/\0<=m.epoch/\m.epoch<=2/\0<=m.count/\m.count<=3/\0<=m.sent/\m.sent<=49/\m.body.length<=3/\m.count<=m.gen/\m.gen<=65536
theorem zsw(l:List Int)(a:Nat)(id lo hi:Int)(hL:l.length<=4000)(h2:0<=lo)(h3:lo<=hi)(h4:hi<65536):∃m a',zoJ m id lo hi/\zd G 131 [.ref 1000000 0 0,.d (.int .i64 id),.d (.int .i64 lo),.d (.int .i64 hi)] [(1000000,zp l a)]=some (.d (zj m),[(1000000,zp l a')]):=by
 obtain⟨r,r0,r1,hr⟩:=zmv id;have hi1:=zBI r lo hi r0 r1 h2 h3 h4;have hi2:=zPx (hi:=hi) r0 h3;generalize ziJ r lo hi=ro at *;have hn:=fun at1 m=>zbP l at1 m hL;obtain⟨a1,q1⟩:∃a1,(zae l a).2=a1:=⟨_,rfl⟩;obtain⟨a2,q2⟩:∃a2,(zae l a1).2=a2:=⟨_,rfl⟩;obtain⟨a3,q3⟩:∃a3,(zae l a2).2=a3:=⟨_,rfl⟩;obtain⟨b1,hb⟩:=zpY l a3 hL;obtain⟨a4,q4⟩:∃a4,(zk7 l a3).2=a4:=⟨_,rfl⟩;generalize (zk7 l a3).1=bd at *;obtain⟨a5,q5⟩:∃a5,(zae l a4).2=a5:=⟨_,rfl⟩;obtain⟨a6,q6⟩:∃a6,(zae l a5).2=a6:=⟨_,rfl⟩;have n1:=zaG l a (n:=3) zo;have n2:=zaG l a1 (n:=4) zo;have n3:=zaG l a2 (n:=50) zo;have n4:=zaG l a4 (n:=3) zo
 by_cases c:nD l a5 20=19
 ·refine⟨⟨id,ro,nD l a 3,nD l a1 4,65536,nD l a2 50,bd⟩,a6,⟨rfl,by simp only;omega,by simp only;omega,n1.1,by simp only;omega,n2.1,by simp only;omega,n3.1,by simp only;omega,b1,by simp only;omega,by simp⟩,?_⟩;simp only[zj];exact zW
 ·refine⟨⟨id,ro,nD l a 3,nD l a1 4,nD l a1 4+nD l a4 3,nD l a2 50,bd⟩,a6,⟨rfl,by simp only;omega,by simp only;omega,n1.1,by simp only;omega,n2.1,by simp only;omega,n3.1,by simp only;omega,b1,by simp only;omega,by simp only;omega⟩,?_⟩;simp only[zj];exact zW
def zbk(l:List zy)(id:Int):Nat:=(l.filter fun x=>decide (x.msg.id<id)).length
theorem zDc(l:List zy)(id:Int):zbk l id<=l.length:=z0h _ _
theorem zgy{l:List zy}(h:l.Pairwise fun x y=>x.msg.id<y.msg.id){id:Int}:∀ {k:Nat} (hk:k<l.length),k<zbk l id↔l[k].msg.id<id:=by
 induction l with
 | nil=>intro k hk;exact absurd hk (by simp)
 | cons x l ih=>
  intro k hk;obtain⟨h1,h2⟩:=z0K.1 h
  by_cases hx:x.msg.id<id
  ·have e:zbk (x::l) id=zbk l id+1:=by simp [zbk,hx]
   rw[e]
   cases k with
   | zero=>simp [hx]
   | succ k=>have:=ih h2 (k:=k) (by simpa using hk);simp only[z1D];rw[<- this];omega
  ·have e:zbk (x::l) id=0:=by
      unfold zbk;rw[zZC,z14];intro y hy;simp only[decide_eq_true_eq]
      rcases zZx.1 hy with rfl|hy
      ·exact hx
      ·have:=h1 y hy;omega
   rw[e];have hle:id<=((x::l)[k]).msg.id:=by
    cases k with
    | zero=>simp only[List.getElem_cons_zero];omega
    | succ k=>simp only[z1D];have:=h1 _ (zY4 (l:=l) (n:=k) (by simpa using hk));omega
   omega
theorem zzJ{l:List zy}(h:l.Pairwise fun x y=>x.msg.id<y.msg.id)(id:Int):(0<=zad l id)↔∃hp:zbk l id<l.length,l[zbk l id].msg.id=id:=by
 constructor
 ·intro h0;obtain⟨k,hk,e1,e2⟩:=zlr h0;have a1:=zgy h (id:=id) hk;have hle:zbk l id<=k:=by omega
  have hpl:zbk l id<l.length:=by omega
  have a2:=zgy h (id:=id) hpl;refine⟨hpl,?_⟩;have:¬zbk l id<k:=fun hlt=>by
   have:=zZ4.1 h (zbk l id) k hpl hk hlt;omega
  have:zbk l id=k:=by omega
  simp only[this,e2]
 ·rintro⟨hp,e⟩;have:=zqZ h hp;rw[e] at this;omega
theorem zJT{l:List zy}(h:l.Pairwise fun x y=>x.msg.id<y.msg.id){id:Int}(h0:0<=zad l id):zad l id=zbk l id:=by
 obtain⟨hp,e⟩:=(zzJ h id).1 h0;have:=zqZ h hp
 rwa [e] at this
theorem zhi{t:Table}(h:zac t=0):t.l.length<=12/\zer t.l=0/\zb0 t.heap=0/\zg7 t=true:=by
 unfold zac at h
 split at h
 ·cases h
 split at h
 ·omega
 split at h
 ·omega
 split at h
 ·rename_i h1 h2 h3 h4;exact⟨by omega,by simpa using h2,by simpa using h3,h4⟩
 ·cases h
theorem zUk(h:List Due)(id:Int)(hL:h.length<=4294967296):(zca h id).1.length<=4294967296:=by
 unfold zca
 split
 ·simp
 ·rename_i h0;have o:=(zfD h).1 (by simpa using h0)
  split
  ·simp
  ·rename_i h1;have hlt:=zzH h id;have:=(zln o (zba h id).toNat zo).2.length_eq;simp only[zYW] at this;have hh:=o.len;show (zdK h (zba h id).toNat).length<=_;omega
def zdQ(l:List zy)(m:Message)(d:Int):List zy:=l.take (zbk l m.id)++[⟨m,d⟩]++l.drop (zbk l m.id)
def zep(t:Table)(m:Message)(d:Int):Int:=
 if zac t≠0 then zac t else if zZ m≠0 then zZ m else if m.gen=0 then 7 else if ¬(0<=d/\d<=1073741824) then 1 else if t.l.length=12 then 3 else if 0<=zad t.l m.id then 10 else (zfp t.heap (d,m.id)).2
def zaH(t:Table)(m:Message)(d:Int):Table×Int:=if zep t m d=0 then (⟨zdQ t.l m d,(zfp t.heap (d,m.id)).1⟩,0) else (zV,zep t m d)
def zdN(t:Table)(id:Int):zy×Bool:=if zac t=0/\0<=zad t.l id then (t.l.getD (zad t.l id).toNat zbF,true) else (zbF,false)
def zfT(l:List zy)(i:Nat):List zy:=l.take i++l.drop (i+1)
def ze4(t:Table)(id:Int):Int:=if zac t≠0 then zac t else if ¬0<=zad t.l id then 4 else (zca t.heap id).2
def zaf(t:Table)(id:Int):Table×Message×Int:=if ze4 t id=0 then (⟨zfT t.l (zad t.l id).toNat,(zca t.heap id).1⟩,(t.l.getD (zad t.l id).toNat zbF).msg,0) else (zV,zX,ze4 t id)
def zdM(t:Table)(id d:Int):Int:=if zac t≠0 then zac t else if ¬0<=zad t.l id then 4 else if ¬(0<=d/\d<=1073741824) then 1 else if (zca t.heap id).2≠0 then (zca t.heap id).2 else (zfp (zca t.heap id).1 (d,id)).2
def zmB(l:List zy)(i:Nat)(d:Int):List zy:=l.set i { l.getD i zbF with deadline:=d }
def za9(t:Table)(id d:Int):Table×Int:=if zdM t id d=0 then (⟨zmB t.l (zad t.l id).toNat d,(zfp (zca t.heap id).1 (d,id)).1⟩,0) else (zV,zdM t id d)
end Go.Proofs.YtjalkkalhdnplaaGreat
