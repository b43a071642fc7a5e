/-
  A sweep's plan.
-/
import Derived.Test.YtnmcgdpmikhohaaGreatBc8d43d5
import Derived.Test.YtnmcgdpmikhohaaGreatB3dc7559
set_option linter.unusedSimpArgs false
set_option linter.unusedVariables false
set_option maxHeartbeats 10000000
set_option maxRecDepth 100000
namespace Go.Proofs.YtnmcgdpmikhohaaGreat
open Go Go.Sim
def zjS(s:zt)(l x:List zj)(ep n:Int)(r:zah)(i:Nat):St:=⟨[(1,.d (.int .i64 ep)),(2,.ref 2 0 0),(4,.ref 4 0 0),(8,.d (.int .i64 n)),(9,.d (.sl (l.map zm))),(10,.d (.sl (x.map zm))),(11,.d (.int .i64 i))],[(2,.row [.d (zk { s with ready:=r })]),(4,.row [shZ])]⟩
def cnP(ep:Int)(l:List zj):Nat:=(l.filter fun m=>decide (m.epoch<ep)).length
theorem zS5(ep:Int)(m:zj)(l:List zj):cnP ep (m::l)=(if m.epoch<ep then 1 else 0)+cnP ep l:=by
 unfold cnP;rw[zacL]
 by_cases c:m.epoch<ep
 ·rw[zabo (by simpa using c),zabo c,zabu];omega
 ·rw[zabn (by simpa using c),zabn c];omega
theorem zSV(s:zt)(l x:List zj)(ep:Int)(hl:l.length<=12):∀p:Int×zah×Nat,(p.2.2<=l.length/\p.2.1.cells.length<=12/\0<=p.1/\p.1<=p.2.2)->z6 G [] zmJ (zjS s l x ep p.1 p.2.1 p.2.2)=some (.exit 0,⟨[(1,.d (.int .i64 ep)),(2,.ref 2 0 0),(4,.ref 4 0 0),(8,.d (.int .i64 (p.1+cnP ep (l.drop p.2.2)))),(10,.d (.sl (x.map zm)))],[(2,.row [.d (zk { s with ready:=rmP ep (l.drop p.2.2) p.2.1 })]),(4,.row [shZ])]⟩):=by
 refine zaL (fun p=>l.length - p.2.2) (fun p:Int×zah×Nat=>(p.2.2<=l.length/\p.2.1.cells.length<=12/\0<=p.1/\p.1<=p.2.2)) (fun p=>zjS s l x ep p.1 p.2.1 p.2.2) (fun p=>_) fun⟨n,r,i⟩ ⟨hi1,hr,hn0,hn1⟩ L ih=> ?_;simp only at hi1 hr hn0 hn1
 by_cases h0:i<l.length
 ·have hp:=zh7 l[i] ep;simp only;rw[zabX h0,rmP,zS5]
  by_cases c:l[i].epoch<ep
  ·rw[zabo c,zabo c];rw[zabM c] at hp;have hm:=zBX r l[i].id zo;have hc:=ztw r l[i].id;have i1:=ih ⟨n+1,(rmD r l[i].id).1,i+1⟩ ⟨by simp only;omega,by simp only;omega,by simp only;omega,by simp only;omega⟩ (by simp only;omega);clear ih c;simp only at i1;rw[show n+((1+cnP ep (l.drop (i+1)):Nat):Int)=n+1+(cnP ep (l.drop (i+1)):Nat) by omega];generalize rmP ep (l.drop (i+1)) (rmD r l[i].id).1=R at *;generalize n+1+((cnP ep (l.drop (i+1)):Nat):Int)=N at *;generalize rmD r l[i].id=q at *;obtain⟨⟨qc,qh,qz⟩,qm,qe⟩:=q;obtain⟨rc,rh,rz⟩:=r;simp only[zjS,zmJ,zk,zai,zm,shZ] at *;simp only[zNr,zB] at i1;simp -implicitDefEqProofs (maxSteps:=4000000) (disch:=omega) only[zm,zh,go_sem, *]
  ·rw[zabn c,zabn c];rw[zabP c] at hp;have i1:=ih ⟨n,r,i+1⟩ ⟨by simp only;omega,hr,hn0,by simp only;omega⟩ (by simp only;omega);clear ih c;simp only at i1;rw[zabU];generalize rmP ep (l.drop (i+1)) r=R at *;generalize n+((cnP ep (l.drop (i+1)):Nat):Int)=N at *;simp only[zjS,zmJ,zk,zm,shZ] at *;simp only[zNr,zB] at i1;simp -implicitDefEqProofs (maxSteps:=4000000) (disch:=omega) only[zm,zh,go_sem, *]
 ·clear ih;obtain rfl:i=l.length:=by omega
  simp only[zab7,rmP,cnP,zac5,zabw,zabQ,Int.add_zero,zjS,zmJ,zk,shZ];exact zS
def zjU(s:zt)(x:List zG)(ep n:Int)(t:zN)(i:Nat):St:=⟨[(1,.d (.int .i64 ep)),(2,.ref 2 0 0),(4,.ref 4 0 0),(8,.d (.int .i64 n)),(10,.d (.sl ((x.map (·.msg)).map zm))),(12,.d (.int .i64 i))],[(2,.row [.d (zk { s with leases:=t })]),(4,.row [shZ])]⟩
def cnL(ep:Int)(l:List zG):Nat:=(l.filter fun y=>decide (y.msg.epoch<ep)).length
theorem zS4(ep:Int)(m:zG)(l:List zG):cnL ep (m::l)=(if m.msg.epoch<ep then 1 else 0)+cnL ep l:=by
 unfold cnL;rw[zacL]
 by_cases c:m.msg.epoch<ep
 ·rw[zabo (by simpa using c),zabo c,zabu];omega
 ·rw[zabn (by simpa using c),zabn c];omega
theorem zS1(s:zt)(x:List zG)(ep:Int)(hl:x.length<=12):∀p:Int×zN×Nat,(p.2.2<=x.length/\(p.2.1.l.length<=12/\p.2.1.heap.length<=12)/\0<=p.1/\p.1<=100+p.2.2)->z6 G [] zmK (zjU s x ep p.1 p.2.1 p.2.2)=some (.exit 2,⟨[(2,.ref 2 0 0),(4,.ref 4 0 0),(8,.d (.int .i64 (p.1+cnL ep (x.drop p.2.2))))],[(2,.row [.d (zk { s with leases:=zfn ep (x.drop p.2.2) p.2.1 })]),(4,.row [shZ])]⟩):=by
 refine zaL (fun p=>x.length - p.2.2) (fun p:Int×zN×Nat=>(p.2.2<=x.length/\(p.2.1.l.length<=12/\p.2.1.heap.length<=12)/\0<=p.1/\p.1<=100+p.2.2)) (fun p=>zjU s x ep p.1 p.2.1 p.2.2) (fun p=>_) fun⟨n,t,i⟩ ⟨hi1,ht,hn0,hn1⟩ L ih=> ?_;simp only at hi1 ht hn0 hn1
 by_cases h0:i<x.length
 ·have hp:=zh7 x[i].msg ep;have hg:(x.map (·.msg))[i]'(by simpa using h0)=x[i].msg:=by simp
  simp only;rw[zabX h0,zfn,zS4]
  by_cases c:x[i].msg.epoch<ep
  ·rw[zabo c,zabo c];rw[zabM c] at hp;have hm:=zs2 t x[i].msg.id zo zo;have hc:=zQl t x[i].msg.id;have i1:=ih ⟨n+1,(zaf t x[i].msg.id).1,i+1⟩ ⟨by simp only;omega,hc,by simp only;omega,by simp only;omega⟩ (by simp only;omega);clear ih c;simp only at i1;rw[show n+((1+cnL ep (x.drop (i+1)):Nat):Int)=n+1+(cnL ep (x.drop (i+1)):Nat) by omega];generalize zfn ep (x.drop (i+1)) (zaf t x[i].msg.id).1=R at *;generalize n+1+((cnL ep (x.drop (i+1)):Nat):Int)=N at *;generalize zaf t x[i].msg.id=q at *;obtain⟨⟨qc,qh⟩,qm,qe⟩:=q;obtain⟨tc,th⟩:=t;simp only[zjU,zmK,zk,zau,zm,shZ] at *;simp only[zNr,zB] at i1;simp -implicitDefEqProofs (maxSteps:=4000000) (disch:=omega) only[zm,zh,go_sem, *]
  ·rw[zabn c,zabn c];rw[zabP c] at hp;have i1:=ih ⟨n,t,i+1⟩ ⟨by simp only;omega,ht,hn0,by simp only;omega⟩ (by simp only;omega);clear ih c;simp only at i1;rw[zabU];generalize zfn ep (x.drop (i+1)) t=R at *;generalize n+((cnL ep (x.drop (i+1)):Nat):Int)=N at *;simp only[zjU,zmK,zk,zm,shZ] at *;simp only[zNr,zB] at i1;simp -implicitDefEqProofs (maxSteps:=4000000) (disch:=omega) only[zm,zh,go_sem, *]
 ·clear ih;obtain rfl:i=x.length:=by omega
  simp only[zab7,zfn,cnL,zac5,zabw,zabQ,Int.add_zero,zjU,zmK,zk,shZ];exact zS
theorem zSY(s:zt)(ep:Int)(q:za4 s):zi G zoI [.d (zk s),.d (.int .i64 ep)] []=some (.d (.tup [zk (zhw s ep).1,.int .i64 (zhw s ep).2.1,.int .i64 (zhw s ep).2.2]),[]):=by
 have hv:=zeS s q.1 q.2.1 q.2.2;have h1:=zj1 ep;unfold zhw
 by_cases c0:zab s=0
 ·rw[zabn (fun z=>z c0)];have hb:=zgp c0;have hr:=zid hb;have h12:=zha hb;have hle:=zbT hb;have hrd:=zje hr;have hld:=zsM (s:=s) hle.2.1;have hl1:=zSV s (zD s.ready) (s.leases.l.map (·.msg)) ep h12 ⟨0,s.ready,0⟩ ⟨by simp,hle.1,by simp,by simp⟩;have hcb:cnP ep (zD s.ready)<=12:=zaca (zacF _ _) h12;have hl2:=zS1 { s with ready:=rmP ep (zD s.ready) s.ready } s.leases.l ep hle.2.1 ⟨cnP ep (zD s.ready),s.leases,0⟩ ⟨by simp,hle.2,by simp,by simp only;omega⟩;rw[c0] at hv;clear c0 hb hr h12;have e1:((zD s.ready).filter fun m=>decide (m.epoch<ep)).length=cnP ep (zD s.ready):=rfl;have e2:(s.leases.l.filter fun y=>decide (y.msg.epoch<ep)).length=cnL ep s.leases.l:=rfl;rw[e1,e2];clear e1 e2;simp only[zabZ,Int.zero_add] at hl1 hl2;generalize cnP ep (zD s.ready)=n1 at *;generalize cnL ep s.leases.l=n2 at *;generalize rmP ep (zD s.ready) s.ready=R at *;generalize zfn ep s.leases.l s.leases=T at *;generalize zD s.ready=w at *;generalize epQ ep=b1 at *;obtain⟨rc,rh,rz⟩:=R;obtain⟨tl,th⟩:=T;simp only[zjS,zjU,zk,shZ,zJ,zay,zal,zabq,zabQ] at *
  cases b1
  ·clear hl1 hl2;simp only[if_true];exact zW zzm
  ·simp only[zacf,if_false];exact zW zzm
 ·rw[zabo c0];generalize zab s=v at *;simp only[zk,zJ,zay,zal,zabq] at *;exact zW zzm
def zj5(s:zt)(l:List zj)(y:List zG)(r:zah)(i:Nat):St:=⟨[(1,.d (.sl (l.map zm))),(2,.d (.sl (y.map zaI))),(3,.ref 3 0 0),(6,.ref 6 0 0),(7,.d (.int .i64 i))],[(3,.row [.d (zk { s with ready:=r })]),(6,.row [shZ])]⟩
theorem zVO(s:zt)(l:List zj)(y:List zG)(hl:l.length<=1000):∀p:zah×Nat,(p.2<=l.length/\p.1.cells.length<=12)->z6 G [] zmL (zj5 s l y p.1 p.2)=some (.exit 0,⟨[(2,.d (.sl (y.map zaI))),(3,.ref 3 0 0),(6,.ref 6 0 0)],[(3,.row [.d (zk { s with ready:=zbA s.low s.high (l.drop p.2) p.1 })]),(6,.row [shZ])]⟩):=by
 refine zaL (fun p=>l.length - p.2) (fun p:zah×Nat=>(p.2<=l.length/\p.1.cells.length<=12)) (fun p=>zj5 s l y p.1 p.2) (fun p=>_) fun⟨r,i⟩ ⟨hi1,hr⟩ L ih=> ?_;simp only at hi1 hr
 by_cases h0:i<l.length
 ·simp only;rw[zabX h0,zbA]
  by_cases c:s.low<=l[i].route/\l[i].route<=s.high
  ·rw[zabo c];have hm:=zs1 r l[i] zo;have hc:=zBF r l[i];have i1:=ih ⟨(pbD r l[i]).1,i+1⟩ ⟨by simp only;omega,by simp only;omega⟩ (by simp only;omega);clear ih;simp only at i1;generalize zbA s.low s.high (l.drop (i+1)) (pbD r l[i]).1=R at *;generalize pbD r l[i]=q at *;obtain⟨⟨qc,qh,qz⟩,qe⟩:=q;obtain⟨rc,rh,rz⟩:=r;simp only[zj5,zmL,zk,zai,zm,shZ] at *;simp only[zNr,zB] at i1;have zk0:=zm.eq_1;exact zS
  ·rw[zabn c];have i1:=ih ⟨r,i+1⟩ ⟨by simp only;omega,hr⟩ (by simp only;omega);clear ih;simp only at i1;generalize zbA s.low s.high (l.drop (i+1)) r=R at *;simp only[zj5,zmL,zk,zm,shZ] at *;simp only[zNr,zB] at i1;have zk0:=zm.eq_1;exact zS
 ·clear ih;obtain rfl:i=l.length:=by omega
  simp only[zab7,zbA,zj5,zmL,zk,shZ];exact zS
def zj8(s:zt)(y:List zG)(t:zN)(i:Nat):St:=⟨[(2,.d (.sl (y.map zaI))),(3,.ref 3 0 0),(6,.ref 6 0 0),(8,.d (.int .i64 i))],[(3,.row [.d (zk { s with leases:=t })]),(6,.row [shZ])]⟩
theorem zWe(s:zt)(y:List zG)(hl:y.length<=1000):∀p:zN×Nat,(p.2<=y.length/\(p.1.l.length<=12/\p.1.heap.length<=12))->z6 G [] zmM (zj8 s y p.1 p.2)=some (.exit 2,⟨[(3,.ref 3 0 0),(6,.ref 6 0 0)],[(3,.row [.d (zk { s with leases:=zd7 s.low s.high (y.drop p.2) p.1 })]),(6,.row [shZ])]⟩):=by
 refine zaL (fun p=>y.length - p.2) (fun p:zN×Nat=>(p.2<=y.length/\(p.1.l.length<=12/\p.1.heap.length<=12))) (fun p=>zj8 s y p.1 p.2) (fun p=>_) fun⟨t,i⟩ ⟨hi1,ht⟩ L ih=> ?_;simp only at hi1 ht
 by_cases h0:i<y.length
 ·simp only;rw[zabX h0,zd7]
  by_cases c:s.low<=y[i].msg.route/\y[i].msg.route<=s.high
  ·rw[zabo c];have hm:=zNp t y[i].msg y[i].deadline zo zo;have hc:=zHy s.low s.high [y[i]] t ht;rw[zd7,zabo c,zd7] at hc;have i1:=ih ⟨(zaF t y[i].msg y[i].deadline).1,i+1⟩ ⟨by simp only;omega,hc⟩ (by simp only;omega);clear ih;simp only at i1;generalize zd7 s.low s.high (y.drop (i+1)) (zaF t y[i].msg y[i].deadline).1=R at *;generalize zaF t y[i].msg y[i].deadline=q at *;obtain⟨⟨qc,qh⟩,qe⟩:=q;obtain⟨tc,th⟩:=t;simp only[zj8,zmM,zk,zau,zm,shZ] at *;simp only[zNr,zB] at i1;have zk0:=zaI.eq_1;exact zS
  ·rw[zabn c];have i1:=ih ⟨t,i+1⟩ ⟨by simp only;omega,ht⟩ (by simp only;omega);clear ih;simp only at i1;generalize zd7 s.low s.high (y.drop (i+1)) t=R at *;simp only[zj8,zmM,zk,zm,shZ] at *;simp only[zNr,zB] at i1;have zk0:=zaI.eq_1;exact zS
 ·clear ih;obtain rfl:i=y.length:=by omega
  simp only[zab7,zd7,zj8,zmM,zk,shZ];exact zS
theorem zvp(s:zt)(l:List zj)(y:List zG)(hs:zaK s)(hl:l.length<=1000)(hy:y.length<=1000):zi G zoZ [.d (zk s),.d (.sl (l.map zm)),.d (.sl (y.map zaI))] []=some (.d (zk (zgg s l y)),[]):=by
 have h1:=zVO s l y hl ⟨s.ready,0⟩ ⟨by simp,hs.1⟩;have h2:=zWe { s with ready:=zbA s.low s.high l s.ready } y hy ⟨s.leases,0⟩ ⟨by simp,hs.2⟩;unfold zgg;simp only[zabZ] at h1 h2;generalize zbA s.low s.high l s.ready=R at *;generalize zd7 s.low s.high y s.leases=T at *;simp only[zj5,zj8,zk,shZ,zabQ] at *;exact zW zWY
theorem zMw(n:Int):zi G zlw [.d (.int .i64 n)] []=some (.d (.tup [zai (if n<1\/12<n then zay else ⟨List.replicate n.toNat zaa,0,0⟩),.int .i64 (if n<1\/12<n then 1 else 0)]),[]):=by
 by_cases c:n<1\/12<n
 ·rw[zabo c,zabo c];simp only[zai,zay,zabq];exact zW zH7
 ·rw[zabn c,zabn c];have h:=zZY n.toNat zo zo;rw[zaeo zo] at h;exact h
theorem zBq(n lo hi:Int):zi G zoS [.d (.int .i64 n),.d (.int .i64 lo),.d (.int .i64 hi)] []=some (.d (.tup [zk (zb5 n lo hi).1,.int .i64 (zb5 n lo hi).2]),[]):=by
 have h1:=zMw n;have h2:=zQH lo hi;unfold zb5
 by_cases c:n<1\/12<n
 ·rw[zabo c] at h1 ⊢;rw[zabo c] at h1;simp only[zk,zai,zJ,zay,zal,zabq] at *;exact zW zzr
 ·rw[zabn c] at h1 ⊢;rw[zabn c] at h1;generalize List.replicate n.toNat zaa=w at *
  by_cases c2:0<=lo/\lo<=hi/\hi<65536
  ·rw[zabn (fun q=>q c2)];rw[zabM c2] at h2;simp only[zk,zai,zJ,zay,zal,zabq] at *;exact zW zzr
  ·rw[zabo c2];rw[zabP c2] at h2;simp only[zk,zai,zJ,zay,zal,zabq] at *;exact zW zzr
theorem zHN(n:Int):zi G zoN [.d (.int .i64 n)] []=some (.d (.tup [zk (zfX n).1,.int .i64 (zfX n).2]),[]):=by
 have h1:=zMw n;unfold zfX
 by_cases c:n<1\/12<n
 ·rw[zabo c] at h1 ⊢;rw[zabo c] at h1;simp only[zk,zai,zJ,zay,zal,zabq] at *;exact zW zIe
 ·rw[zabn c] at h1 ⊢;rw[zabn c] at h1;generalize List.replicate n.toNat zaa=w at *;simp only[zk,zai,zJ,zay,zal,zabq] at *;exact zW zIe
theorem zY7{s:zt}(h:zab s=0):0<=s.low/\s.low<=s.high/\s.high<65536:=by
 have hv:=zgp h;have hl:s.live=true:=by
  unfold zab at h;rw[zabn (fun q=>q hv)] at h
  split at h
  ·assumption
  ·cases h
 obtain⟨n,h',e,v⟩:=zfy hv hl;exact⟨v.2.2.2.2.1,v.2.2.2.2.2.1,v.2.2.2.2.2.2.1⟩
theorem zT1(s:zt)(mid:Int)(q:za4 s):zi G zoL [.d (zk s),.d (.int .i64 mid)] []=some (.d (.tup [zk (zdA s mid).1,zk (zdA s mid).2.1,.int .i64 (zdA s mid).2.2]),[]):=by
 have hv:=zeS s q.1 q.2.1 q.2.2;unfold zdA
 by_cases c0:zab s=0
 ·rw[zabn (fun z=>z c0)];have hb:=zgp c0;have hr:=zid hb;have h12:=zha hb;have hle:=zbT hb;have hrd:=zje hr;have hn1:=zBq s.ready.cells.length s.low mid;have hn2:=zBq s.ready.cells.length (mid+1) s.high;have hf1:=zvp (zb5 s.ready.cells.length s.low mid).1 (zD s.ready) s.leases.l (zsj _ _ _) zo (by have:=hle.2.1;omega);have hf2:=zvp (zb5 s.ready.cells.length (mid+1) s.high).1 (zD s.ready) s.leases.l (zsj _ _ _) zo (by have:=hle.2.1;omega);have hhi:=zY7 c0;rw[c0] at hv;clear c0 hb hr h12;generalize zgg (zb5 s.ready.cells.length s.low mid).1 (zD s.ready) s.leases.l=F1 at *;generalize zgg (zb5 s.ready.cells.length (mid+1) s.high).1 (zD s.ready) s.leases.l=F2 at *;generalize zb5 s.ready.cells.length s.low mid=N1 at *;generalize zb5 s.ready.cells.length (mid+1) s.high=N2 at *;generalize zD s.ready=w at *;obtain⟨N1,e1⟩:=N1;obtain⟨N2,e2⟩:=N2;simp only at *
  by_cases c1:mid<s.low\/s.high<=mid
  ·rw[zabo c1];clear hf1 hf2 hn1 hn2;simp only[zk,zJ,zay,zal,zabq] at *;exact zW zzo
  ·rw[zabn c1];have sz_F1:=zbm F1;generalize zk F1=D_F1 at *;have sz_F2:=zbm F2;generalize zk F2=D_F2 at *;have sz_N1:=zbm N1;generalize zk N1=D_N1 at *;have sz_N2:=zbm N2;generalize zk N2=D_N2 at *;simp only[zk] at *;exact zW zzo
 ·rw[zabo c0];generalize zab s=v at *;simp only[zk,zJ,zay,zal,zabq] at *;exact zW zzo
theorem zaaE(a b:zt)(l x:List zj)(hl:l.length<=24)(hx:x.length<=24):z6 G [] zsx ⟨[(2,.ref 2 0 0),(3,.ref 3 0 0),(4,.ref 4 0 0),(8,.d (.sl (l.map zm))),(9,.d (.sl (x.map zm))),(10,.d (.int .i64 (0:Nat)))],[(2,.row [.d (zk a)]),(3,.row [.d (zk b)]),(4,.row [shZ])]⟩=some (if (List.range x.length).all (fun k=> !decide (0<=zaD l (x.getD k zaa).id))=true then (.exit 0,⟨[(2,.ref 2 0 0),(3,.ref 3 0 0),(4,.ref 4 0 0)],[(2,.row [.d (zk a)]),(3,.row [.d (zk b)]),(4,.row [shZ])]⟩) else (.ret,⟨[(4,.ref 4 0 0),(5,.d (.int .i64 10))],[(4,.row [shZ])]⟩)):=by
 refine zg5 (G:=G) x.length (fun k=> !decide (0<=zaD l (x.getD k zaa).id)) (fun k=>⟨[(2,.ref 2 0 0),(3,.ref 3 0 0),(4,.ref 4 0 0),(8,.d (.sl (l.map zm))),(9,.d (.sl (x.map zm))),(10,.d (.int .i64 k))],[(2,.row [.d (zk a)]),(3,.row [.d (zk b)]),(4,.row [shZ])]⟩) _ _ fun k hk L=> ?_
 by_cases h0:k<x.length
 ·rw[zabo h0,zh h0];have hi:=ziQ l x[k].id zo;generalize zaD l x[k].id=q at *;simp only[zsx,zk,shZ] at *
  by_cases c:0<=q
  ·rw[zabM c];simp -implicitDefEqProofs (maxSteps:=4000000) (disch:=omega) only[zm,zh,go_sem, *]
  ·rw[zabP c];simp -implicitDefEqProofs (maxSteps:=4000000) (disch:=omega) only[zm,zh,go_sem, *]
 ·rw[zabn h0];simp only[zsx,zk,shZ] at *;exact zS
theorem zaaJ(l x:List zj):(x.any fun m=>decide (0<=zaD l m.id))= !((List.range x.length).all (fun k=> !decide (0<=zaD l (x.getD k zaa).id))):=by
 apply zacD.2;simp only[zacm,decide_eq_true_eq,zace,List.all_eq_false,zack,zac3,zaen];constructor
 ·rintro⟨m,hm,h⟩;obtain⟨i,hi,rfl⟩:=zadu.1 hm;exact⟨i,hi,by rw[zh hi];simpa using h⟩
 ·rintro⟨i,hi,h⟩;rw[zh hi] at h;exact⟨_,zabC hi,by simpa using h⟩
theorem znE{s:zt}(h:zY s=0):0<=s.low/\s.high<65536/\s.low<=65536/\0<=s.high:=by
 cases hl:s.live with
 | true=>
  obtain⟨n,h',e,v⟩:=zfy h hl;have:=v.2.2.2.2.1;have:=v.2.2.2.2.2.1;have:=v.2.2.2.2.2.2.1
  omega
 | false=>
  have hr:=zid h;have ht:zao s.leases=0:=by
   unfold zY at h;rw[zabn (fun q=>q hr)] at h
   split at h
   ·rename_i c;exact absurd h c
   ·rename_i c;exact zabG.1 c
  rw[znA hr ht,zabo hl] at h
  split at h
  ·cases h
  ·rename_i c;omega
theorem zaaK(a b:zt)(qa:za4 a)(qb:za4 b):zi G zoX [.d (zk a),.d (zk b)] []=some (.d (.tup [zk (zil a b).1,.int .i64 (zil a b).2]),[]):=by
 have ha:=znc a qa.1 qa.2.1 qa.2.2;have hb:=znc b qb.1 qb.2.1 qb.2.2;have sa:=zhk a qa;have sb:=zhk b qb;unfold zil
 by_cases c0:zY a=0
 ·rw[zabn (fun z=>z c0)]
  by_cases c1:zY b=0
  ·rw[zabn (fun z=>z c1)];have ra:=zid c0;have rb:=zid c1;have la:=zbT c0;have lb:=zbT c1;have ma:=zjH ra la.2.1;have mb:=zjH rb lb.2.1;have rdb:=zje rb;have na:=zBo c0;have nb:=zBo c1;have ob:=zha c1;have hlp:=zaaE a b (zaP a) (zaP b) na nb;have hba:=znF c0;have hbb:=znF c1;rw[zaaJ];rw[show (if a.low<b.low then a.low else b.low)=(if b.low<a.low then b.low else a.low) by split<;>split<;>omega];have hf:=zvp { a with low:=if b.low<a.low then b.low else a.low,high:=if a.high<b.high then b.high else a.high } (zD b.ready) b.leases.l la zo (by have:=lb.2.1;omega);rw[c0] at ha;rw[c1] at hb
   by_cases c2:a.live=false\/b.live=false\/a.high+1≠b.low/\b.high+1≠a.low
   ·rw[zabo c2];clear hf hlp ma mb rdb;have hspa:=znE c0;have hspb:=znE c1;clear c0 c1 ra rb qa qb na nb ob la lb;generalize zbb a=na at *;generalize zbb b=nb at *;obtain⟨al,alo,ahi,⟨ac,ah,az⟩,⟨atl,ath⟩⟩:=a;obtain⟨bl,blo,bhi,⟨bc,bh,bz⟩,⟨btl,bth⟩⟩:=b;simp only[zk,zJ,zay,zal,zabq] at *
    cases al
    ·clear c2;exact zW ze9
    cases bl
    ·clear c2;exact zW ze9
    ·have c3:ahi+1≠blo/\bhi+1≠alo:=by simpa using c2
     clear c2;obtain⟨c2,c3⟩:=c3;exact zW ze9
   ·rw[zabn c2];have l1:a.live=true:=by cases h:a.live;exact absurd (.inl h) c2;rfl
    have l2:b.live=true:=by cases h:b.live;exact absurd (.inr (.inl h)) c2;rfl
    have l3:a.high+1=b.low\/b.high+1=a.low:=by omega
    have hspa:=znE c0;have hspb:=znE c1;clear c2 c0 c1 ra rb qa qb na nb ob;generalize (List.range (zaP b).length).all (fun k=> !decide (0<=zaD (zaP a) ((zaP b).getD k zaa).id))=bl at *;generalize zaP a=xa at *;generalize zaP b=xb at *;generalize zD b.ready=w at *;generalize zbb a=na at *;generalize zbb b=nb at *;have hca:=la.1;clear la lb;obtain⟨al,alo,ahi,⟨ac,ah,az⟩,⟨atl,ath⟩⟩:=a;obtain⟨bv,blo,bhi,⟨bc,bh,bz⟩,⟨btl,bth⟩⟩:=b;simp only at *;subst l1 l2
    by_cases c3:(ac.length:Int)<na+nb
    ·rw[zabo c3];clear hf hlp;simp only[zk,zJ,zay,zal,zabq] at *
     rcases l3 with l3|l3
     ·replace l3:=zabA l3;exact zW ze9
     ·by_cases l4:ahi+1=blo
      ·replace l4:=zabA l4;exact zW ze9
      ·replace l3:=zabA l3;replace l4:=zabt l4;exact zW ze9
    ·rw[zabn c3]
     cases bl
     ·clear hf;simp only[zad4,if_true,zabz,if_false] at hlp ⊢;simp only[zk,shZ,zJ,zay,zal,zabq,zabQ] at *
      by_cases l4:ahi+1=blo
      ·replace l4:=zabA l4;clear l3;exact zW ze9
      ·have l5:bhi+1=alo:=by omega
       replace l5:=zabA l5;replace l4:=zabt l4;clear l3;exact zW ze9
     ·simp only[zad3,if_true,zabz,if_false] at hlp ⊢;generalize zgg ⟨true,if blo<alo then blo else alo,if ahi<bhi then bhi else ahi,⟨ac,ah,az⟩,⟨atl,ath⟩⟩ w btl=F at *;have sz_F:=zbm F;generalize zk F=D_F at *;simp only[zk,shZ,zabQ] at *
      by_cases l4:ahi+1=blo
      ·replace l4:=zabA l4;clear l3;exact zW ze9
      ·have l5:bhi+1=alo:=by omega
       replace l5:=zabA l5;replace l4:=zabt l4;clear l3;exact zW ze9
  ·rw[zabo c1];rw[c0] at ha;generalize zY b=v at *;simp only[zk,zJ,zay,zal,zabq] at *;exact zW ze9
 ·rw[zabo c0];generalize zY a=v at *;simp only[zk,zJ,zay,zal,zabq] at *;exact zW ze9
theorem zMM(t:zq):zi G zql [.d (zf t)] []=some (.d (.sl (zC (zcL t))),[]):=by
 unfold zcL;simp only[zf]
 by_cases c:t.inv.from_<t.inv.to
 ·rw[zabo c];rw[zI zIB (by simp)];simp -implicitDefEqProofs (maxSteps:=4000000) (disch:=omega) only[zqX,ztg,zC,zh,go_sem, *]
 ·rw[zabn c];rw[zI zIB (by simp)];simp -implicitDefEqProofs (maxSteps:=4000000) (disch:=omega) only[zqX,ztg,zC,zh,go_sem, *]
theorem z9c(t:zq)(hk:t.sec.shards.length=2):zi G zqn [.d (zf t)] []=some (.d (.tup [zk (zV t),zk (zaN t)]),[]):=by
 have ho:=zMM t;unfold zV zaN;unfold zcL at ho;rw[zh (show 0<t.sec.shards.length by omega),zh (show 1<t.sec.shards.length by omega)]
 by_cases c:t.inv.from_<t.inv.to
 ·rw[zabo c] at ho;rw[zabo c,zabo c];clear c;simp only[zf,zC,zabs,zabq] at *;rw[zI zID (by simp)];simp -implicitDefEqProofs (maxSteps:=4000000) (disch:=omega) only[zqY,zth,zk,zh,go_sem, *]
 ·rw[zabn c] at ho;rw[zabn c,zabn c];clear c;simp only[zf,zC,zabs,zabq] at *;rw[zI zID (by simp)];simp -implicitDefEqProofs (maxSteps:=4000000) (disch:=omega) only[zqY,zth,zk,zh,go_sem, *]
theorem z44(t:zq)(x y:zt):zi G zqm [.d (zf t),.d (zk x),.d (zk y)] []=some (.d (.sl ((zdM t x y).map zk)),[]):=by
 unfold zdM
 by_cases c:t.inv.from_<t.inv.to
 ·rw[zabo c];simp only[zf,zabs,zabq];have sz_x:=zbm x;generalize zk x=D_x at *;have sz_y:=zbm y;generalize zk y=D_y at *;exact zW zIC
 ·rw[zabn c];simp only[zf,zabs,zabq];have sz_x:=zbm x;generalize zk x=D_x at *;have sz_y:=zbm y;generalize zk y=D_y at *;exact zW zIC
theorem zry{u:Setup}{N:Int}{t:zq}(hs:SI u N t.sec):za4 (zV t):=zfH (zHR hs)
theorem zC8{u:Setup}{N:Int}{t:zq}(hs:SI u N t.sec):za4 (zaN t):=zfH (zC9 hs)
theorem zqE{u:Setup}{N:Int}{s:Section}(hs:SI u N s){i:Nat}(h:i<s.shards.length):zY (s.shards.getD i zJ)=0:=by
 rw[zh h];exact (hs.sv _ (zabC h)).1
theorem zy6{u:Setup}{N:Int}{t:zq}(hs:SI u N t.sec)(hk:t.sec.shards.length=2):zY (zV t)=0/\zY (zaN t)=0:=by
 unfold zV zaN
 split
 ·exact⟨zqE hs zo,zqE hs zo⟩
 ·exact⟨zqE hs zo,zqE hs zo⟩
theorem z9g{s:zt}(h:zY s=0):0<=s.ready.size/\s.ready.size<=12:=by
 obtain⟨a1,a2,a3,a4,a5,a6⟩:=zcC (zid h);omega
theorem z47{u:Setup}{N:Int}{t:zq}(hs:SI u N t.sec)(hk:t.sec.shards.length=2):zi G zlL [.d (zf t)] []=some (.d (.tup [zU (zey t).1,z7 (zey t).2.1,.sl ((zey t).2.2.map zaw)]),[]):=by
 have hu:=zhn t.sec;have hsh:=z9c t hk;have ho:=zMM t;obtain⟨v1,v2⟩:=zy6 hs hk;have hst:=zhk (zaN t) (zC8 hs);have b1:=z9g v1;have b2:=znF v2;have b3:=(zbT v2).1;unfold zey;simp only
 by_cases c0:(zV t).live=false\/(zaN t).live=false
 ·rw[zabo c0];clear hs ho hst v1 v2 b1 b2 b3;generalize zV t=v at *;generalize zaN t=w at *;obtain⟨l1,vlo,vhi,⟨vc,vh,vz⟩,⟨vtl,vth⟩⟩:=v;obtain⟨l2,wlo,whi,⟨wc,wh,wz⟩,⟨wtl,wth⟩⟩:=w;simp only[zf,zA,zU,z8,zk,zaO,z7,zac,zabq] at *
  cases l1
  ·exact zW zrV
  cases l2
  ·exact zW zrV
  ·simp at c0
 rw[zabn c0];have l1:(zV t).live=true:=by
  cases h:(zV t).live
  ·exact absurd (.inl h) c0
  ·rfl
 have l2:(zaN t).live=true:=by
  cases h:(zaN t).live
  ·exact absurd (.inr h) c0
  ·rfl
 clear c0;have e1:(((zV t).ready.size+1).tdiv 2)=((zV t).ready.size+1) / 2:=zac2 zo;have hdt:=zTR (zV t) (zhY (((zV t).ready.size+1).tdiv 2) ((zaN t).ready.cells.length - zbb (zaN t))) (zry hs);have hdl:=zGP (zV t) (zhY (((zV t).ready.size+1).tdiv 2) ((zaN t).ready.cells.length - zbb (zaN t)));generalize hk2:zhY (((zV t).ready.size+1).tdiv 2) ((zaN t).ready.cells.length - zbb (zaN t))=k at *;have hk3:(if ((zaN t).ready.cells.length:Int) - zbb (zaN t)<((zV t).ready.size+1) / 2 then ((zaN t).ready.cells.length:Int) - zbb (zaN t) else ((zV t).ready.size+1) / 2)=k:=by
  unfold zhY at hk2;rw[<- hk2,e1]
  split<;>split<;>omega
 clear hk2
 by_cases c1:k=0
 ·rw[zabo c1];subst c1;clear hs ho v1 v2 hdt hdl;generalize zV t=v at *;generalize zaN t=w at *;generalize zbb w=sd at *;obtain⟨l1',vlo,vhi,⟨vc,vh,vz⟩,⟨vtl,vth⟩⟩:=v;obtain⟨l2',wlo,whi,⟨wc,wh,wz⟩,⟨wtl,wth⟩⟩:=w;simp only at *;subst l1 l2;simp only[zf,zA,zU,z8,zk,zaO,z7,zac,zabq] at *;exact zW zrV
 ·rw[zabn c1];have hab:=zDq (zaN t) (zfM (zV t) k).2.1 (zC8 hs) zo;generalize zfM (zV t) k=d at *;obtain⟨d1,d2,d3⟩:=d;simp only at *;generalize zgc (zaN t) d2=y at *;obtain⟨y1,y2⟩:=y;have hpl:=z44 t d1 y1;clear hs v1 v2 hdl;generalize zdM t d1 y1=pl at *;generalize zcL t=od at *;generalize zV t=v at *;generalize zaN t=w at *;generalize zbb w=sd at *;have sz_d1:=zbm d1;generalize zk d1=D_d1 at *;have sz_y1:=zbm y1;generalize zk y1=D_y1 at *;obtain⟨l1',vlo,vhi,⟨vc,vh,vz⟩,⟨vtl,vth⟩⟩:=v;obtain⟨l2',wlo,whi,⟨wc,wh,wz⟩,⟨wtl,wth⟩⟩:=w;simp only at *;subst l1 l2;simp only[zf,zA,zU,z8,zk,zaO,z7,zac,zabq] at *;exact zW zrV
theorem zMN(t:zq):zi G zqo [.d (zf t)] []=some (.d (.sl (zC (zcL t))),[]):=by
 unfold zcL;simp only[zf]
 by_cases c:t.inv.from_<t.inv.to
 ·rw[zabo c];rw[zI zIE (by simp)];simp -implicitDefEqProofs (maxSteps:=4000000) (disch:=omega) only[zqZ,zti,zC,zh,go_sem, *]
 ·rw[zabn c];rw[zI zIE (by simp)];simp -implicitDefEqProofs (maxSteps:=4000000) (disch:=omega) only[zqZ,zti,zC,zh,go_sem, *]
theorem z9d(t:zq)(hk:t.sec.shards.length=2):zi G zqq [.d (zf t)] []=some (.d (.tup [zk (zV t),zk (zaN t)]),[]):=by
 have ho:=zMN t;unfold zV zaN;unfold zcL at ho;rw[zh (show 0<t.sec.shards.length by omega),zh (show 1<t.sec.shards.length by omega)]
 by_cases c:t.inv.from_<t.inv.to
 ·rw[zabo c] at ho;rw[zabo c,zabo c];clear c;simp only[zf,zC,zabs,zabq] at *;rw[zI zIG (by simp)];simp -implicitDefEqProofs (maxSteps:=4000000) (disch:=omega) only[zq0,ztj,zk,zh,go_sem, *]
 ·rw[zabn c] at ho;rw[zabn c,zabn c];clear c;simp only[zf,zC,zabs,zabq] at *;rw[zI zIG (by simp)];simp -implicitDefEqProofs (maxSteps:=4000000) (disch:=omega) only[zq0,ztj,zk,zh,go_sem, *]
theorem z45(t:zq)(x y:zt):zi G zqp [.d (zf t),.d (zk x),.d (zk y)] []=some (.d (.sl ((zdM t x y).map zk)),[]):=by
 unfold zdM
 by_cases c:t.inv.from_<t.inv.to
 ·rw[zabo c];simp only[zf,zabs,zabq];have sz_x:=zbm x;generalize zk x=D_x at *;have sz_y:=zbm y;generalize zk y=D_y at *;exact zW zIF
 ·rw[zabn c];simp only[zf,zabs,zabq];have sz_x:=zbm x;generalize zk x=D_x at *;have sz_y:=zbm y;generalize zk y=D_y at *;exact zW zIF
theorem zMO(t:zq):zi G zqr [.d (zf t)] []=some (.d (.sl (zC (zcL t))),[]):=by
 unfold zcL;simp only[zf]
 by_cases c:t.inv.from_<t.inv.to
 ·rw[zabo c];rw[zI zIH (by simp)];simp -implicitDefEqProofs (maxSteps:=4000000) (disch:=omega) only[zq1,ztk,zC,zh,go_sem, *]
 ·rw[zabn c];rw[zI zIH (by simp)];simp -implicitDefEqProofs (maxSteps:=4000000) (disch:=omega) only[zq1,ztk,zC,zh,go_sem, *]
theorem z9e(t:zq)(hk:t.sec.shards.length=2):zi G zqt [.d (zf t)] []=some (.d (.tup [zk (zV t),zk (zaN t)]),[]):=by
 have ho:=zMO t;unfold zV zaN;unfold zcL at ho;rw[zh (show 0<t.sec.shards.length by omega),zh (show 1<t.sec.shards.length by omega)]
 by_cases c:t.inv.from_<t.inv.to
 ·rw[zabo c] at ho;rw[zabo c,zabo c];clear c;simp only[zf,zC,zabs,zabq] at *;rw[zI zIK (by simp)];simp -implicitDefEqProofs (maxSteps:=4000000) (disch:=omega) only[zq2,ztl,zk,zh,go_sem, *]
 ·rw[zabn c] at ho;rw[zabn c,zabn c];clear c;simp only[zf,zC,zabs,zabq] at *;rw[zI zIK (by simp)];simp -implicitDefEqProofs (maxSteps:=4000000) (disch:=omega) only[zq2,ztl,zk,zh,go_sem, *]
theorem z46(t:zq)(x y:zt):zi G zqs [.d (zf t),.d (zk x),.d (zk y)] []=some (.d (.sl ((zdM t x y).map zk)),[]):=by
 unfold zdM
 by_cases c:t.inv.from_<t.inv.to
 ·rw[zabo c];simp only[zf,zabs,zabq];have sz_x:=zbm x;generalize zk x=D_x at *;have sz_y:=zbm y;generalize zk y=D_y at *;exact zW zII
 ·rw[zabn c];simp only[zf,zabs,zabq];have sz_x:=zbm x;generalize zk x=D_x at *;have sz_y:=zbm y;generalize zk y=D_y at *;exact zW zII
def zji(r:zah):Prop:=zaE r=0\/r=zay
theorem z4Q{r:zah}(h:zji r)(m:zj):zji (pbD r m).1:=by
 unfold pbD
 split
 ·rename_i c;obtain⟨q1,q2,q3,q4⟩:=zna c;obtain⟨n,h',e,a1,a2,a3,a4,a5,a6⟩:=znq q1;left;have hc:r.cells.length=n:=by rw[e];exact zic _ _ _
  have hh:r.head.toNat=h':=by rw[e];rfl
  have hz:r.size=((zD r).length:Int):=congrArg zah.size e;rw[hc,hh];refine zCI a1 a2 a3 (by rw[zabv,zab3];omega) (fun x hx=> ?_) ?_
  ·rcases zabS.1 hx with hx|hx
   ·exact a5 x hx
   ·rw[zab1.1 hx];exact q2
  ·rw[zabF,zac6];refine⟨a6,by simp,fun a ha b hb=> ?_⟩;simp only[zabs,zabq,zab1] at hb;subst hb;intro e2;subst e2;obtain⟨x,hx,ex⟩:=zaby.1 ha;have:=zy5 ⟨x,hx,ex⟩;omega
 ·exact .inr rfl
theorem zVS(lo hi:Int):∀(l:List zj) (r:zah),zji r->zji (zbA lo hi l r):=by
 intro l
 induction l with
 | nil=>intro r h;exact h
 | cons m l ih=>
  intro r h;rw[zbA]
  split
  ·exact ih _ (z4Q h m)
  ·exact ih _ h
theorem zY5:zi G zlv [.d (zai zay)] []=some (.d (.sl []),[]):=by
 have hv:=zkS zay (by simp [zay]);have e:zaE zay=1:=by decide+kernel
 rw[e] at hv;clear e;simp only[zai,zay,zabq] at *;exact zW zH6
theorem zRK{s:zt}(h:zji s.ready)(hl:s.leases.l.length<=12):zi G zlz [.d (zk s)] []=some (.d (.sl ((zaP s).map zm)),[]):=by
 rcases h with h|h
 ·exact zjH h hl
 ·have h1:=zY5;have hr:zi G zlA [.d (zk s)] []=some (.d (.sl []),[]):=by
   rw[<- h] at h1;clear h;simp only[zai,zk] at *;exact zW zIf
  have hld:=zsM (s:=s) hl;have e:zaP s=s.leases.l.map (·.msg):=by
   unfold zaP;rw[h];have:zD zay=[]:=by decide+kernel
   rw[this];rfl
  rw[e];have hlw:(s.leases.l.map (·.msg)).length<=12:=by simpa using hl
  generalize s.leases.l.map (·.msg)=w at *;clear e h h1 hl;simp only[zk] at *;exact zW zId
theorem zT0{s:zt}(hv:zY s=0)(mid:Int):zji (zdA s mid).2.1.ready/\(zdA s mid).2.1.leases.l.length<=12:=by
 have h12:=(zsi s mid).2;refine⟨?_,h12.2.1⟩;unfold zdA
 split
 ·exact .inr rfl
 split
 ·exact .inr rfl
 ·show zji (zbA _ _ _ (zb5 _ _ _).1.ready);apply zVS;unfold zb5
  split
  ·exact .inr rfl
  split
  ·exact .inr rfl
  ·rename_i c _;exact .inl (zCJ zo zo)
theorem z48{u:Setup}{N:Int}{t:zq}(hs:SI u N t.sec)(hk:t.sec.shards.length=2):zi G zlN [.d (zf t)] []=some (.d (.tup [zU (zew t).1,z7 (zew t).2.1,.sl ((zew t).2.2.map zaw)]),[]):=by
 have hu:=zhn t.sec;have hsh:=z9d t hk;have ho:=zMN t;obtain⟨v1,v2⟩:=zy6 hs hk;have hsp:=znE v1;unfold zew;simp only
 by_cases c0:(zV t).live=false\/(zaN t).live=true\/(zV t).high<=(zV t).low
 ·rw[zabo c0];clear hs ho v1 v2;generalize zV t=v at *;generalize zaN t=w at *;obtain⟨l1,vlo,vhi,⟨vc,vh,vz⟩,⟨vtl,vth⟩⟩:=v;obtain⟨l2,wlo,whi,⟨wc,wh,wz⟩,⟨wtl,wth⟩⟩:=w;simp only[zf,zA,zU,z8,zk,zaO,z7,zac,zabq] at *
  cases l1
  ·exact zW zrW
  cases l2
  rotate_left
  ·exact zW zrW
  ·have c1:vhi<=vlo:=by simpa using c0
   clear c0;exact zW zrW
 rw[zabn c0];have l1:(zV t).live=true:=by
  cases h:(zV t).live
  ·exact absurd (.inl h) c0
  ·rfl
 have l2:(zaN t).live=false:=by
  cases h:(zaN t).live
  ·rfl
  ·exact absurd (.inr (.inl h)) c0
 have c1:(zV t).low<(zV t).high:=by omega
 clear c0;have e1:((zV t).low+(zV t).high).tdiv 2=((zV t).low+(zV t).high) / 2:=zac2 zo;rw[e1];have hdv:=zT1 (zV t) (((zV t).low+(zV t).high) / 2) (zry hs);have hz:=zT0 v1 (((zV t).low+(zV t).high) / 2);have hl:=(zsi (zV t) (((zV t).low+(zV t).high) / 2)).2;generalize hmid:((zV t).low+(zV t).high) / 2=mid at *;generalize zdA (zV t) mid=d at *;obtain⟨d1,d2,d3⟩:=d;simp only at *;have hst:=zhk d2 (zfH hl);have hal:=zRK hz.1 hz.2;have hpl:=z45 t d1 d2;clear hs v1 v2 hz hl;generalize zdM t d1 d2=pl at *;generalize zcL t=od at *;generalize zaP d2=ms at *;generalize zbb d2=sd at *;generalize zV t=v at *;generalize zaN t=w at *;have sz_d1:=zbm d1;generalize zk d1=D_d1 at *;have sz_d2:=zbm d2;generalize zk d2=D_d2 at *;obtain⟨l1',vlo,vhi,⟨vc,vh,vz⟩,⟨vtl,vth⟩⟩:=v;obtain⟨l2',wlo,whi,⟨wc,wh,wz⟩,⟨wtl,wth⟩⟩:=w;simp only at *;subst l1 l2;simp only[zf,zA,zU,z8,zk,zaO,z7,zac,zabq,zabs,zfT] at *;exact zW zrW
theorem z49{u:Setup}{N:Int}{t:zq}(hs:SI u N t.sec)(hk:t.sec.shards.length=2):zi G zlP [.d (zf t)] []=some (.d (.tup [zU (zek t).1,z7 (zek t).2.1,.sl ((zek t).2.2.map zaw)]),[]):=by
 have hu:=zhn t.sec;have hsh:=z9e t hk;have ho:=zMO t;obtain⟨v1,v2⟩:=zy6 hs hk;have hun:=zaaK (zaN t) (zV t) (zC8 hs) (zry hs);have hfr:=zHN (zV t).ready.cells.length;have hst:=zhk (zV t) (zry hs);have hal:=zjH (zid v1) (zbT v1).2.1;unfold zek;simp only;generalize zil (zaN t) (zV t)=y at *;obtain⟨y,e⟩:=y;generalize zfX (zV t).ready.cells.length=f at *;obtain⟨f,fe⟩:=f;simp only at *;have hpl:=z46 t f y;clear hs v1 v2;generalize zdM t f y=pl at *;generalize zcL t=od at *;generalize zaP (zV t)=ms at *;generalize zbb (zV t)=sd at *;generalize zV t=v at *;generalize zaN t=w at *
 by_cases c:e=0
 ·subst c;simp only[ne_eq,zabD,if_false];have sz_f:=zbm f;generalize zk f=D_f at *;have sz_y:=zbm y;generalize zk y=D_y at *;obtain⟨l1',vlo,vhi,⟨vc,vh,vz⟩,⟨vtl,vth⟩⟩:=v;simp only[zf,zA,zU,z8,zk,zaO,z7,zac,zabq,zabs,zfT] at *;exact zW zIJ
 ·rw[zabo c];have sz_f:=zbm f;generalize zk f=D_f at *;have sz_y:=zbm y;generalize zk y=D_y at *;simp only[zf,zA,zU,z8,zk,zaO,z7,zac,zabq] at *;exact zW zIJ
def accC(o:Nat)(l:List D):AV:=match l with|[]=> .xsl []|x::l=> .acc o (x::l)
def zam(o:Nat)(l:List D):zd:=match l with|[]=>[]|x::l=>[(o,.acc (l.length+1))]
structure T8 where
 rest:List zj
 out:List zj
 i:Nat
def t8S(d:za7)(k ep:Int)(p:T8):St:=⟨[(1,.d (.int .i64 k)),(2,.d (.int .i64 ep)),(3,.ref 3 0 0),(6,.ref 6 0 0),(10,.ref 10 0 0),(11,.acc 11 (p.out.map zm)),(12,.d (.int .i64 p.i))],[(3,.row [.d (zT d)]),(6,.row [.agg [.d (.int .i64 0),.xsl []]]),(10,.row [.agg [.d (.int .i64 d.cap),accC 500070 (p.rest.map zm)]]),(11,.acc p.out.length)]++zam 500070 (p.rest.map zm)⟩
def t8R(d:za7)(x:List zj×List zj):zX×St:=(.exit 0,⟨[(6,.ref 6 0 0),(10,.ref 10 0 0),(11,.acc 11 (x.2.map zm))],[(6,.row [.agg [.d (.int .i64 0),.xsl []]]),(10,.row [.agg [.d (.int .i64 d.cap),accC 500070 (x.1.map zm)]]),(11,.acc x.2.length)]++zam 500070 (x.1.map zm)⟩)
theorem z92(d:za7)(k ep:Int)(hl:d.l.length<=1000):∀p:T8,(p.i<=d.l.length/\p.out.length<=p.i/\p.rest.length<=p.i)->z6 G [] zgm (t8S d k ep p)=some (t8R d (zdU k ep (d.l.drop p.i) p.rest p.out)):=by
 refine zaL (fun p:T8=>d.l.length - p.i) (fun p:T8=>(p.i<=d.l.length/\p.out.length<=p.i/\p.rest.length<=p.i)) (t8S d k ep) (fun p=>some (t8R d (zdU k ep (d.l.drop p.i) p.rest p.out))) fun⟨rest,out,i⟩ ⟨hi,ho,hr⟩ L ih=> ?_;simp only at hi ho hr
 by_cases h0:i<d.l.length
 ·simp only;rw[zabX h0,zdU];have hp:=zh7 d.l[i] ep
  by_cases c:(out.length:Int)<k/\¬d.l[i].epoch<ep
  ·rw[zabo c];rw[zabP c.2] at hp;have c1:=c.1;have i1:=ih ⟨rest,out++[d.l[i]],i+1⟩ ⟨by simp only;omega,by simp only[zabv,zab3];omega,by simp only;omega⟩ (by simp only;omega);clear ih c;simp only at i1;generalize t8R d (zdU k ep (d.l.drop (i+1)) rest (out++[d.l[i]]))=R at *
   cases rest with
   | nil=>
    simp only[t8S,accC,zam,zgm,zT,zabq,zabL,zabF,zabs] at *;simp only[zNr,zB] at i1;exact zS
   | cons r0 rs=>
    simp only[t8S,accC,zam,zgm,zT,zabq,zabF,zabs,zabE,zabN,zabJ,zabu] at *;simp only[zNr,zB] at i1;exact zS
  ·rw[zabn c];have i1:=ih ⟨rest++[d.l[i]],out,i+1⟩ ⟨by simp only;omega,by simp only;omega,by simp only[zabv,zab3];omega⟩ (by simp only;omega);clear ih;simp only at i1;generalize t8R d (zdU k ep (d.l.drop (i+1)) (rest++[d.l[i]]) out)=R at *
   by_cases c1:(out.length:Int)<k
   ·have c2:d.l[i].epoch<ep:=by omega
    rw[zabM c2] at hp;clear c c2
    cases rest with
    | nil=>
     simp only[t8S,accC,zam,zgm,zT,zabq,zabL,zabJ,zabN,zabF,zabs,zabw] at *;simp only[zNr,zB] at i1;exact zS
    | cons r0 rs=>
     simp only[t8S,accC,zam,zgm,zT,zabq,zabF,zabs,zabE,zabN,zabJ,zabu,zabv,zabw] at *;simp only[zNr,zB] at i1;exact zS
   ·clear hp c
    cases rest with
    | nil=>
     simp only[t8S,accC,zam,zgm,zT,zabq,zabL,zabJ,zabN,zabF,zabs,zabw] at *;simp only[zNr,zB] at i1;exact zS
    | cons r0 rs=>
     simp only[t8S,accC,zam,zgm,zT,zabq,zabF,zabs,zabE,zabN,zabJ,zabu,zabv,zabw] at *;simp only[zNr,zB] at i1;exact zS
 ·clear ih;obtain rfl:i=d.l.length:=by omega
  simp only[zab7,zdU,t8R]
  cases rest with
  | nil=>
   simp only[t8S,accC,zam,zgm,zT,zabq,zabL] at *;exact zS
  | cons r0 rs=>
   simp only[t8S,accC,zam,zgm,zT,zabs,zabE,zabN,zabJ,zabu] at *;exact zS
theorem z94(d:za7)(k ep:Int)(hL:d.l.length<=1000):zi G zo8 [.d (zT d),.d (.int .i64 k),.d (.int .i64 ep)] []=some (.d (.tup [zT (zhm d k ep).1,.sl ((zhm d k ep).2.1.map zm),.int .i64 (zhm d k ep).2.2]),[]):=by
 have hv:=znO d hL;have hlp:=z92 d k ep hL ⟨[],[],0⟩ ⟨by simp,by simp,by simp⟩;have hln:=zQL k ep d.l [] [];unfold zhm;generalize zcm d=v at *;simp only[zabZ] at hlp;generalize zdU k ep d.l [] []=R at *;obtain⟨rest,out⟩:=R;simp only[t8R,t8S,accC,zam,zabq,zabL,zabw,zabQ,zacI] at *
 by_cases c0:v=0
 ·subst c0;simp only[ne_eq,zabD,if_false]
  by_cases c1:k<0\/ep<0\/65536<ep
  ·rw[zabo c1];clear hlp;simp only[zT,zaH,zabq] at *;exact zW zrL
  ·rw[zabn c1]
   cases rest with
   | nil=>
    simp only[zabq,zabL,zT,zaH] at *;exact zW zrL
   | cons r0 rs=>
    simp only[zabs,zabN,zabJ,zabE,zabu,zT,zaH] at *;exact zW zrL
 ·rw[zabo c0];clear hlp;simp only[zT,zaH,zabq] at *;exact zW zrL
def c8S(d:za7)(ep:Int)(rest:List zj)(i:Nat):St:=⟨[(1,.d (.int .i64 ep)),(2,.ref 2 0 0),(4,.ref 4 0 0),(8,.ref 8 0 0),(9,.d (.int .i64 i))],[(2,.row [.d (zT d)]),(4,.row [.agg [.d (.int .i64 0),.xsl []]]),(8,.row [.agg [.d (.int .i64 d.cap),accC 500049 (rest.map zm)]])]++zam 500049 (rest.map zm)⟩
def c8R(d:za7)(rest:List zj):zX×St:=(.exit 0,⟨[(2,.ref 2 0 0),(4,.ref 4 0 0),(8,.ref 8 0 0)],[(2,.row [.d (zT d)]),(4,.row [.agg [.d (.int .i64 0),.xsl []]]),(8,.row [.agg [.d (.int .i64 d.cap),accC 500049 (rest.map zm)]])]++zam 500049 (rest.map zm)⟩)
theorem zSz(d:za7)(ep:Int)(hl:d.l.length<=1000):∀p:List zj×Nat,(p.2<=d.l.length/\p.1.length<=p.2)->z6 G [] zhV (c8S d ep p.1 p.2)=some (c8R d (p.1++(d.l.drop p.2).filter fun m=> !decide (m.epoch<ep))):=by
 refine zaL (fun p:List zj×Nat=>d.l.length - p.2) (fun p:List zj×Nat=>(p.2<=d.l.length/\p.1.length<=p.2)) (fun p=>c8S d ep p.1 p.2) (fun p=>some (c8R d (p.1++(d.l.drop p.2).filter fun m=> !decide (m.epoch<ep)))) fun⟨rest,i⟩ ⟨hi,hr⟩ L ih=> ?_;simp only at hi hr
 by_cases h0:i<d.l.length
 ·simp only;rw[zabX h0,zacL];have hp:=zh7 d.l[i] ep
  by_cases c:d.l[i].epoch<ep
  ·rw[zabM c] at hp ⊢;simp only[zad3,zabz,if_false];have i1:=ih ⟨rest,i+1⟩ ⟨by simp only;omega,by simp only;omega⟩ (by simp only;omega);clear ih c;simp only at i1;generalize c8R d (rest++(d.l.drop (i+1)).filter fun m=> !decide (m.epoch<ep))=R at *
   cases rest with
   | nil=>
    simp only[c8S,accC,zam,zhV,zT,zabq,zabL] at *;simp only[zNr,zB] at i1;exact zS
   | cons r0 rs=>
    simp only[c8S,accC,zam,zhV,zT,zabs,zabE,zabN,zabJ,zabu] at *;simp only[zNr,zB] at i1;exact zS
  ·rw[zabP c] at hp ⊢;simp only[zad4,if_true];have i1:=ih ⟨rest++[d.l[i]],i+1⟩ ⟨by simp only;omega,by simp only[zabv,zab3];omega⟩ (by simp only;omega);clear ih c;simp only[zab9,zadb] at i1;generalize c8R d (rest++d.l[i]::(d.l.drop (i+1)).filter fun m=> !decide (m.epoch<ep))=R at *
   cases rest with
   | nil=>
    simp only[c8S,accC,zam,zhV,zT,zabq,zabL,zabJ,zabN,zabF,zabs,zabw] at *;simp only[zNr,zB] at i1;exact zS
   | cons r0 rs=>
    simp only[c8S,accC,zam,zhV,zT,zabq,zabF,zabs,zabE,zabN,zabJ,zabu,zabv,zabw] at *;simp only[zNr,zB] at i1;exact zS
 ·clear ih;obtain rfl:i=d.l.length:=by omega
  simp only[zab7,zac5,zabL,c8R]
  cases rest with
  | nil=>
   simp only[c8S,accC,zam,zhV,zT,zabq,zabL] at *;exact zS
  | cons r0 rs=>
   simp only[c8S,accC,zam,zhV,zT,zabs,zabE,zabN,zabJ,zabu] at *;exact zS
theorem zSZ(d:za7)(ep:Int)(hL:d.l.length<=1000):zi G zo4 [.d (zT d),.d (.int .i64 ep)] []=some (.d (.tup [zT (zhv d ep).1,.int .i64 (zhv d ep).2.1,.int .i64 (zhv d ep).2.2]),[]):=by
 have hv:=znO d hL;have hlp:=zSz d ep hL ⟨[],0⟩ ⟨by simp,by simp⟩;have hln:=zacF (fun m:zj=> !decide (m.epoch<ep)) d.l;unfold zhv;generalize zcm d=v at *;simp only[zabZ,zabJ] at hlp;generalize (d.l.filter fun m=> !decide (m.epoch<ep))=rest at *;simp only[c8R,c8S,accC,zam,zabq,zabL,zabw,zabQ,zacI] at *
 by_cases c0:v=0
 ·subst c0;simp only[ne_eq,zabD,if_false]
  by_cases c1:ep<0\/65536<ep
  ·rw[zabo c1];clear hlp;simp only[zT,zaH,zabq] at *;exact zW zrJ
  ·rw[zabn c1]
   cases rest with
   | nil=>
    simp only[zabq,zabL,zabw,zT,zaH] at *;exact zW zrJ
   | cons r0 rs=>
    simp only[zabs,zabN,zabJ,zabE,zabu,zT,zaH] at *;exact zW zrJ
 ·rw[zabo c0];clear hlp;simp only[zT,zaH,zabq] at *;exact zW zrJ
theorem VS.lapse{n h:Nat}{L:List zj}{t:zN}{lo hi:Int}(v:VS n h L t lo hi){y:zG}(hy:y∈t.l):
    ∃t' h2 L',zaf t y.msg.id=(t',y.msg,0)/\pbD (rg n h L) y.msg=(rg n h2 L',0)/\VS n h2 L' t' lo hi/\(y::t'.l).Perm t.l:=by
 obtain⟨t',r1,r2,r3⟩:=v.rel hy;have hmv:zap y.msg=0:=((zfg t.l).1 (zhl v.2.2.2.2.2.2.2.2.1).2.1).2 _ hy |>.1;have hlen:=r3.length_eq;simp only[zabu] at hlen;obtain⟨h2,L',q1,q2,q3,q4⟩:=r2.back hmv (v.2.2.2.2.2.2.2.2.2.1 _ hy) (by have:=v.2.2.2.1;omega) (v.gone r3) y.msg.count;rw[<- zMU] at q1;have hr:(zaf t y.msg.id).2.2=0:=by
  have c:(zaG (mkS n h L t lo hi) y.msg.id).2.2=0:=by rw[r1]
  unfold zaG at c
  split at c
  ·rename_i q;exact q
  ·exact c
 unfold zaG at r1;rw[zabo (show (zaf (mkS n h L t lo hi).leases y.msg.id).2.2=0 from hr)] at r1;have a1:=congrArg (fun p:zt×zj×Int=>p.1.leases) r1;have a2:=congrArg (fun p:zt×zj×Int=>p.2.1) r1;refine⟨t',h2,L',?_,q1,q2,r3⟩;change (zaf t y.msg.id).1=t' at a1;change (zaf t y.msg.id).2.1=y.msg at a2;rw[<- a1, <- a2, <- hr];exact Prod.ext rfl (Prod.ext (by simp only;rw[a2];exact a2) (by simp only;rw[a2]))
theorem zHu{n h:Nat}{L:List zj}{t:zN}{lo hi:Int}{y:zG}{t':zN}{h2:Nat}{L':List zj}(r1:zaf t y.msg.id=(t',y.msg,0))(r2:pbD (rg n h L) y.msg=(rg n h2 L',0))(l:List Int):
    zcx (y.msg.id::l) (mkS n h L t lo hi)=zcx l (mkS n h2 L' t' lo hi):=by
 have hs:zaG (mkS n h L t lo hi) y.msg.id=(mkS n h L t' lo hi,y.msg,0):=by
  unfold zaG;rw[zabo (show (zaf (mkS n h L t lo hi).leases y.msg.id).2.2=0 by rw[show (mkS n h L t lo hi).leases=t from rfl,r1])];rw[show (mkS n h L t lo hi).leases=t from rfl,r1];rfl
 rw[zcx,hs];simp only[ne_eq,zabD,if_false];rw[show (mkS n h L t' lo hi).ready=rg n h L from rfl,r2];simp only[zabD,if_false];rfl
structure E7 where
 h:Nat
 L:List zj
 t:zN
 i:Nat
def e7S(n:Nat)(lo hi:Int)(u:List Int)(p:E7):St:=⟨[(4,.ref 4 0 0),(8,.ref 8 0 0),(12,.d (.sl (zC u))),(13,.d (.int .i64 p.i))],[(4,.row [.d (zk (mkS n p.h p.L p.t lo hi))]),(8,.row [shZ])]⟩
def e7R(u:List Int)(x:zt×Int):zX×St:=(.exit 0,⟨[(4,.ref 4 0 0),(8,.ref 8 0 0),(12,.d (.sl (zC u)))],[(4,.row [.d (zk x.1)]),(8,.row [shZ])]⟩)
theorem zUk(n:Nat)(lo hi:Int)(u:List Int)(hu:u.length<=12):∀p:E7,(VS n p.h p.L p.t lo hi/\p.i<=u.length/\(∀id∈u.drop p.i,∃y∈p.t.l,y.msg.id=id)/\(u.drop p.i).Nodup)->z6 G [] zsv (e7S n lo hi u p)=some (e7R u (zcx (u.drop p.i) (mkS n p.h p.L p.t lo hi)))/\(zcx (u.drop p.i) (mkS n p.h p.L p.t lo hi)).2=0:=by
 have key:∀p:E7,(VS n p.h p.L p.t lo hi/\p.i<=u.length/\(∀id∈u.drop p.i,∃y∈p.t.l,y.msg.id=id)/\(u.drop p.i).Nodup)->(zcx (u.drop p.i) (mkS n p.h p.L p.t lo hi)).2=0:=by
  intro⟨h,L,t,i⟩ ⟨v,_,hm,hn⟩;simp only at *;generalize u.drop i=w at *
  induction w generalizing h L t with
  | nil=>rfl
  | cons id w ih=>
   obtain⟨y,hy,rfl⟩:=hm id (.head _);obtain⟨t',h2,L',r1,r2,r3,r4⟩:=v.lapse hy;rw[zHu r1 r2];rw[zacv] at hn;refine ih h2 L' t' r3 (fun id2 h2m=> ?_) hn.2;obtain⟨z,hz,ez⟩:=hm id2 (.tail _ h2m)
   rcases zab4.1 (r4.mem_iff.2 hz) with rfl|hz2
   ·exact absurd (ez ▸ h2m) hn.1
   ·exact⟨z,hz2,ez⟩
 intro p hp;refine⟨?_,key p hp⟩;revert p;refine zaL (fun p:E7=>u.length - p.i) (fun p:E7=>(VS n p.h p.L p.t lo hi/\p.i<=u.length/\(∀id∈u.drop p.i,∃y∈p.t.l,y.msg.id=id)/\(u.drop p.i).Nodup)) (e7S n lo hi u) (fun p=>some (e7R u (zcx (u.drop p.i) (mkS n p.h p.L p.t lo hi)))) fun⟨h,L,t,i⟩ hp LL ih=> ?_;obtain⟨v,hi1,hm,hn⟩:=hp;simp only at v hi1 hm hn
 by_cases h0:i<u.length
 ·have hd:=zabX h0;simp only;rw[hd] at hm hn ⊢;rw[zacv] at hn;obtain⟨y,hy,ey⟩:=hm u[i] (.head _);obtain⟨t',h2,L',r1,r2,r3,r4⟩:=v.lapse hy;have i1:=ih ⟨h2,L',t',i+1⟩ ⟨r3,by simp only;omega,fun id2 h2m=>by
   simp only at h2m;obtain⟨z,hz,ez⟩:=hm id2 (.tail _ h2m)
   rcases zab4.1 (r4.mem_iff.2 hz) with rfl|hz2
   ·exact absurd (by rw[<- ey,ez];exact h2m) hn.1
   ·exact⟨z,hz2,ez⟩,hn.2⟩ (by simp only;omega)
  have tl:=zjn v.2.2.2.2.2.2.2.2.1;have c1:=zs2 t y.msg.id zo zo;have c2:=zs1 (rg n h L) y.msg (by have:=v.lens.1;show (mkS n h L t lo hi).ready.cells.length<=_;omega);rw[<- ey,zHu r1 r2];rw[r1] at c1;rw[r2] at c2;rw[ey] at c1;clear ih hm hn hd v r1 r2 r3 r4 tl;simp only at i1;generalize e7R u (zcx (u.drop (i+1)) (mkS n h2 L' t' lo hi))=R at *;simp only[e7S,mkS,zsv] at *;generalize rg n h2 L'=ra at *;generalize rg n h L=rb at *;generalize y.msg=m at *;obtain⟨c2',hh2,z2⟩:=ra;obtain⟨c1',hh1,z1⟩:=rb;obtain⟨tl1,th1⟩:=t;obtain⟨tl2,th2⟩:=t';clear hy ey;simp only[zk,zau,zai,zm,shZ] at *;simp only[zNr,zB] at i1;exact zS
 ·clear ih;obtain rfl:i=u.length:=by omega
  simp only[zab7,zcx,e7R,e7S,zsv];generalize mkS n h L t lo hi=s at *;simp only[zk,shZ] at *;exact zS
theorem zaaQ{t:zN}(h:zao t=0)(now:Int):(zcE t.heap now).Nodup:=by
 obtain⟨q1,q2,q3,q4⟩:=(zdr t).1 h;unfold zcE;rw[zabo ((zfx _).2 q3)];have hp:=(zlc t.heap 1 (fun p q hp hq=>by omega)).2;unfold zj0;have hn:(t.heap.map (·.2)).Nodup:=by
  have h1:=(q4.map (·.2)).nodup_iff.2;apply h1;rw[zacQ];rw[zadW,zaev];exact (zhW q2).imp (fun h=>by show _≠_;unfold zbx;simp only[Function.comp];omega)
 have h2:((zgy t.heap 1).map (·.2)).Nodup:=(hp.map (·.2)).nodup_iff.2 hn;exact h2.sublist ((List.filter_sublist).map _)
theorem zYL(t:zN)(now ep:Int):(zdh t now ep).Nodup:=by
 unfold zdh
 split
 ·rename_i h;exact (zaaQ h now).sublist List.filter_sublist
 ·exact zad7
theorem zYK{t:zN}{now ep id:Int}(h:id∈zdh t now ep):∃y∈t.l,y.msg.id=id:=by
 unfold zdh at h
 split at h
 ·rename_i ht;obtain⟨x,hx,e,_⟩:=(zRc ht now id).1 (zacW.1 h).1;exact⟨x,hx,e⟩
 ·cases h
theorem zHw(s:zt)(now ep lim:Int)(q:za4 s):zi G zoM [.d (zk s),.d (.int .i64 now),.d (.int .i64 ep),.d (.int .i64 lim)] []=some (.d (.tup [zk (zcw s now ep lim).1,.sl (zC (zcw s now ep lim).2.1),.int .i64 (zcw s now ep lim).2.2]),[]):=by
 have hv:=zeS s q.1 q.2.1 q.2.2;have h1:=zj1 ep;have h2:=zsl lim;have h3:=ztN now;unfold zcw
 by_cases c0:zab s=0
 ·have hus:∀b,usE s b=if b=true then 0 else 1:=fun b=>by unfold usE;rw[zabn (fun z=>z c0)]
  rw[hus];clear hus;have hb:=zgp c0;have hl:s.live=true:=by
   unfold zab at c0;rw[zabn (fun q=>q hb)] at c0
   split at c0
   ·assumption
   ·cases c0
  obtain⟨n,h',e,v⟩:=zfy hb hl;have hle:=zbT hb;have hla:=z6E s.leases now ep (by have:=hle.2.1;omega) (by have:=hle.2.2;omega);have hu:=zLZ s.leases now ep;have hlp:=zUk n s.low s.high (zdh s.leases now ep) hu ⟨h',zD s.ready,s.leases,0⟩ ⟨v,by simp,fun id hid=>zYK (by simpa using hid),by simpa using zYL s.leases now ep⟩;simp only[zabZ] at hlp;rw[<- e] at hlp;obtain⟨hlp,hz⟩:=hlp;rw[hz];simp only[if_true];unfold e7S e7R at hlp;simp only at hlp;rw[<- e] at hlp;rw[c0] at hv;clear c0 hb hz v e hle hl;generalize (zcx (zdh s.leases now ep) s).1=R at *;generalize zdh s.leases now ep=u at *;generalize tiQ now=b1 at *;generalize epQ ep=b2 at *;generalize liQ lim=b3 at *;simp only[zk,zau,shZ,zJ,zay,zal,zabq,zC,zabQ] at *
  cases b1
  ·clear hlp;simp only[zacd,zabz,if_false,ne_eq,zabV,if_true,Int.reduceEq]
   cases b2
   ·exact zW ziL
   cases b3
   ·exact zW ziL
   ·exact zW ziL
  cases b2
  ·clear hlp;simp only[zacd,zacJ,zabz,if_false,ne_eq,zabV,if_true,Int.reduceEq];exact zW ziL
  cases b3
  ·clear hlp;simp only[zacJ,zabz,if_false,ne_eq,zabV,if_true,Int.reduceEq];exact zW ziL
  ·simp only[zacG,if_true,ne_eq,zabD,if_false] at *;exact zW ziL
 ·have hus:∀b,usE s b=zab s:=fun b=>by unfold usE;rw[zabo c0]
  rw[hus,zabo c0];clear hus;generalize zab s=v at *;simp only[zk,zJ,zay,zal,zabq,zC] at *;exact zW ziL
def idG(i:Int):Grant:=⟨i,0,0,0⟩
def unA(s:Section):AV:= .agg [.d (.sl (s.shards.map zk)),.d (.int .i64 s.dead.cap),.d (.sl (s.dead.l.map zm)),.xsl [],.xsl [],.xsl []]
def evA(t:zq)(kind:Int)(c:AV):AV:= .agg [.d (.int .i64 t.sec.snap.stamp),.d (.int .i64 t.number),.d (.int .i64 t.entry),.d (.int .i64 kind),.d (.int .i64 t.sec.snap.clock),.d (.int .i64 t.sec.snap.epoch),.d (.int .i64 0),c,.d (.int .i64 0),.d (.int .i64 0)]
def zdP:AV:= .agg [.d (.int .i64 0),.d (.int .i64 0),.xsl [],.xsl [],.d (.int .i64 0),.d (.int .i64 0),.d (.int .i64 0)]
def zi8:AV:= .agg [.xsl [],.d (.int .i64 0),.xsl [],.xsl [],.xsl [],.xsl []]
def zjm(t:zq)(x:zt)(u:List Int)(out:List Int)(i:Nat):St:=⟨[(2,.ref 2 0 0),(3,.ref 3 0 0),(5,.ref 5 0 0),(14,.ref 14 0 0),(15,.d (.sl (zC u))),(17,.ref 17 0 0),(18,.d (.int .i64 i))],[(2,.row [zi8]),(3,.row [zdP]),(5,.row [unA t.sec]),(14,.row [.d (zk x)]),(17,.row [evA t 10 (accC 500115 ((out.map idG).map zbt))])]++zam 500115 ((out.map idG).map zbt)⟩
def znJ(t:zq)(x:zt)(u:List Int)(out:List Int):zX×St:=(.exit 0,⟨[(2,.ref 2 0 0),(3,.ref 3 0 0),(5,.ref 5 0 0),(14,.ref 14 0 0),(15,.d (.sl (zC u))),(17,.ref 17 0 0)],[(2,.row [zi8]),(3,.row [zdP]),(5,.row [unA t.sec]),(14,.row [.d (zk x)]),(17,.row [evA t 10 (accC 500115 ((out.map idG).map zbt))])]++zam 500115 ((out.map idG).map zbt)⟩)
theorem z9Y(t:zq)(x:zt)(u:List Int)(hu:u.length<=1000):∀p:List Int×Nat,(p.2<=u.length/\p.1.length<=p.2)->z6 G [] zkt (zjm t x u p.1 p.2)=some (znJ t x u (p.1++u.drop p.2)):=by
 refine zaL (fun p:List Int×Nat=>u.length - p.2) (fun p:List Int×Nat=>(p.2<=u.length/\p.1.length<=p.2)) (fun p=>zjm t x u p.1 p.2) (fun p=>some (znJ t x u (p.1++u.drop p.2))) fun⟨out,i⟩ ⟨hi,hr⟩ L ih=> ?_;simp only at hi hr
 by_cases h0:i<u.length
 ·simp only;rw[zabX h0];have i1:=ih ⟨out++[u[i]],i+1⟩ ⟨by simp only;omega,by simp only[zabv,zab3];omega⟩ (by simp only;omega);clear ih;simp only[zab9,zadb] at i1;have hG:D.agg [D.int .i64 u[i],D.int .i64 0,D.int .i64 0,D.int .i64 0]=zbt (idG u[i]):=rfl;generalize znJ t x u (out++u[i]::u.drop (i+1))=R at *
  cases out with
  | nil=>
   simp only[zjm,accC,zam,evA,zdP,zi8,unA,zkt,zabq,zabL,zabJ,zabN,zabF,zabs,zabw] at *;simp only[zNr,zB] at i1;exact zS
  | cons r0 rs=>
   simp only[zjm,accC,zam,evA,zdP,zi8,unA,zkt,zabq,zabF,zabs,zabE,zabN,zabJ,zabu,zabv,zabw] at *;simp only[zNr,zB] at i1;exact zS
 ·clear ih;obtain rfl:i=u.length:=by omega
  simp only[zab7,zabL,znJ]
  cases out with
  | nil=>
   simp only[zjm,accC,zam,evA,zdP,zi8,unA,zkt,zabq,zabL] at *;exact zS
  | cons r0 rs=>
   simp only[zjm,accC,zam,evA,zdP,zi8,unA,zkt,zabs,zabE,zabN,zabJ,zabu] at *;exact zS
theorem zHv(s:zt)(now ep lim:Int):(zcw s now ep lim).2.1.length<=12:=by
 unfold zcw
 split
 ·simp
 split
 ·exact zLZ _ _ _
 ·simp
theorem z5a{u:Setup}{N:Int}{t:zq}(hs:SI u N t.sec)(hk:t.sec.shards.length<=1):zi G zjC [.d (zf t)] []=some (.d (.tup [zU (zdW t).1,z7 (zdW t).2.1,.sl ((zdW t).2.2.map zaw)]),[]):=by
 have hu:=zhn t.sec;unfold zdW;simp only
 by_cases c0:t.sec.shards.length=0
 ·rw[zabo c0];have hcd:=zSZ t.sec.dead t.sec.snap.epoch (by have:=hs.dv;omega);have e0:t.sec.shards=[]:=zacc.1 c0;generalize zhv t.sec.dead t.sec.snap.epoch=d at *;obtain⟨d1,d2,d3⟩:=d;simp only at *;clear hs hk c0
  by_cases c1:0<d2
  ·rw[zabo c1];simp only[e0,zf,zA,zU,z8,zaO,z7,zac,zT,zabq,zC,zabs] at *;clear e0;exact zW ziP
  ·rw[zabn c1];simp only[e0,zf,zA,zU,z8,zaO,z7,zac,zT,zabq,zC,zabs] at *;clear e0;exact zW ziP
 rw[zabn c0];have hk1:t.sec.shards.length=1:=by omega
 rw[zc6 hk1];have hv:=(hs.sv _ (zabC (show 0<t.sec.shards.length by omega))).1;have hb:za4 t.sec.shards[0]:=zfH (zbT hv);clear hs hk c0
 by_cases c1:t.sec.shards[0].live=false
 ·rw[zabo c1];clear hv hb;simp only[zf,zA,zU,z8,zaO,z7,zac,zabq,zC] at *;exact zW ziP
 rw[zabn c1];replace c1:t.sec.shards[0].live=true:=by simpa using c1
 by_cases c2:t.inv.kind=13
 ·rw[zabo c2];have hcl:=zSY t.sec.shards[0] t.sec.snap.epoch hb;generalize zhw t.sec.shards[0] t.sec.snap.epoch=x at *;obtain⟨x1,x2,x3⟩:=x;replace c2:=zabA c2;clear hv hb;simp only at *
  by_cases c3:0<x2
  ·rw[zabo c3];simp only[zf,zA,zU,z8,zaO,z7,zac,zabq,zabs,zC] at *;exact zW ziP
  ·rw[zabn c3];simp only[zf,zA,zU,z8,zaO,z7,zac,zabq,zC] at *;exact zW ziP
 ·rw[zabn c2];have hex:=zHw t.sec.shards[0] t.sec.snap.clock t.sec.snap.epoch t.setup.limit hb;have hel:=zHv t.sec.shards[0] t.sec.snap.clock t.sec.snap.epoch t.setup.limit;have hsn:=zla t 10;generalize zcw t.sec.shards[0] t.sec.snap.clock t.sec.snap.epoch t.setup.limit=x at *;obtain⟨x1,u,x3⟩:=x;replace c2:=zabt c2;clear hv hb;simp only at *;have hlp:=z9Y t x1 u zo ⟨[],0⟩ ⟨by simp,by simp⟩
  cases u with
  | nil=>
   clear hlp;simp only[zabw,if_true];simp only[zf,zA,zU,z8,zaO,z7,zac,zabq,zC] at *;exact zW ziP
  | cons u0 us=>
   rw[zabn (by simp)];simp only[zjm,znJ,accC,zam,evA,zev,zdP,zi8,unA,idG,zb9,zbw,zaw,zbt,zf,zA,zU,z8,zaO,z7,zac,zabZ,zabq,zabs,zacQ,zabJ,zabL,zabN,zabu,zabE,zC,Function.comp_def,zabQ] at *;exact zW ziP
end Go.Proofs.YtnmcgdpmikhohaaGreat
