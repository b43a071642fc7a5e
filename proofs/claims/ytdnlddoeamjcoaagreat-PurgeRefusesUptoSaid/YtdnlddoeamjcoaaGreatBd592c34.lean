/-
  The reference's shards.
-/
import Derived.Test.YtdnlddoeamjcoaaGreatB842129c
import Derived.Test.YtdnlddoeamjcoaaGreatBb3fd0a8
set_option linter.unusedSimpArgs false
set_option linter.unusedVariables false
set_option maxHeartbeats 10000000
set_option maxRecDepth 100000
namespace Go.Proofs.YtdnlddoeamjcoaaGreat
open Go Go.Sim
def zj7(s:zu)(l x:List zl)(ep n:Int)(r:zat)(i:Nat):St:=⟨[(1,.d (.int .i64 ep)),(2,.ref 2 0 0),(4,.ref 4 0 0),(8,.d (.int .i64 n)),(9,.d (.sl (l.map zn))),(10,.d (.sl (x.map zn))),(11,.d (.int .i64 i))],[(2,.row [.d (zk { s with ready:=r })]),(4,.row [shZ])]⟩
def cnP(ep:Int)(l:List zl):Nat:=(l.filter fun m=>decide (m.epoch<ep)).length
theorem zTx(ep:Int)(m:zl)(l:List zl):cnP ep (m::l)=(if m.epoch<ep then 1 else 0)+cnP ep l:=by
 unfold cnP;rw[zaen]
 by_cases c:m.epoch<ep
 ·rw[zacY (by simpa using c),zacY c,zac4];omega
 ·rw[zacX (by simpa using c),zacX c];omega
theorem zTn(s:zu)(l x:List zl)(ep:Int)(hl:l.length<=12):∀p:Int×zat×Nat,(p.2.2<=l.length/\p.2.1.cells.length<=12/\0<=p.1/\p.1<=p.2.2)->zai G [] zmR (zj7 s l x ep p.1 p.2.1 p.2.2)=some (.exit 0,⟨[(1,.d (.int .i64 ep)),(2,.ref 2 0 0),(4,.ref 4 0 0),(8,.d (.int .i64 (p.1+cnP ep (l.drop p.2.2)))),(10,.d (.sl (x.map zn)))],[(2,.row [.d (zk { s with ready:=rmP ep (l.drop p.2.2) p.2.1 })]),(4,.row [shZ])]⟩):=by
 refine za3 (fun p=>l.length - p.2.2) (fun p:Int×zat×Nat=>(p.2.2<=l.length/\p.2.1.cells.length<=12/\0<=p.1/\p.1<=p.2.2)) (fun p=>zj7 s l x ep p.1 p.2.1 p.2.2) (fun p=>_) fun⟨n,r,i⟩ ⟨hi1,hr,hn0,hn1⟩ L ih=> ?_;simp only at hi1 hr hn0 hn1
 by_cases h0:i<l.length
 ·have hp:=ziw l[i] ep;simp only;rw[zady h0,rmP,zTx]
  by_cases c:l[i].epoch<ep
  ·rw[zacY c,zacY c];rw[zadn c] at hp;have hm:=zB7 r l[i].id zo;have hc:=ztI r l[i].id;have i1:=ih ⟨n+1,(rmD r l[i].id).1,i+1⟩ ⟨by simp only;omega,by simp only;omega,by simp only;omega,by simp only;omega⟩ (by simp only;omega);clear ih c;simp only at i1;rw[show n+((1+cnP ep (l.drop (i+1)):Nat):Int)=n+1+(cnP ep (l.drop (i+1)):Nat) by omega];generalize rmP ep (l.drop (i+1)) (rmD r l[i].id).1=R at *;generalize n+1+((cnP ep (l.drop (i+1)):Nat):Int)=N at *;generalize rmD r l[i].id=q at *;obtain⟨⟨qc,qh,qz⟩,qm,qe⟩:=q;obtain⟨rc,rh,rz⟩:=r;simp only[zj7,zmR,zk,zau,zn,shZ] at *;simp only[zNr,zE] at i1;simp -implicitDefEqProofs (maxSteps:=4000000) (disch:=omega) only[zn,zj,go_sem, *]
  ·rw[zacX c,zacX c];rw[zadq c] at hp;have i1:=ih ⟨n,r,i+1⟩ ⟨by simp only;omega,hr,hn0,by simp only;omega⟩ (by simp only;omega);clear ih c;simp only at i1;rw[zadv];generalize rmP ep (l.drop (i+1)) r=R at *;generalize n+((cnP ep (l.drop (i+1)):Nat):Int)=N at *;simp only[zj7,zmR,zk,zn,shZ] at *;simp only[zNr,zE] at i1;simp -implicitDefEqProofs (maxSteps:=4000000) (disch:=omega) only[zn,zj,go_sem, *]
 ·clear ih;obtain rfl:i=l.length:=by omega
  simp only[zadI,rmP,cnP,zaeF,zac5,zado,Int.add_zero,zj7,zmR,zk,shZ];exact zS
def zj9(s:zu)(x:List zN)(ep n:Int)(t:zT)(i:Nat):St:=⟨[(1,.d (.int .i64 ep)),(2,.ref 2 0 0),(4,.ref 4 0 0),(8,.d (.int .i64 n)),(10,.d (.sl ((x.map (·.msg)).map zn))),(12,.d (.int .i64 i))],[(2,.row [.d (zk { s with leases:=t })]),(4,.row [shZ])]⟩
def cnL(ep:Int)(l:List zN):Nat:=(l.filter fun y=>decide (y.msg.epoch<ep)).length
theorem zTw(ep:Int)(m:zN)(l:List zN):cnL ep (m::l)=(if m.msg.epoch<ep then 1 else 0)+cnL ep l:=by
 unfold cnL;rw[zaen]
 by_cases c:m.msg.epoch<ep
 ·rw[zacY (by simpa using c),zacY c,zac4];omega
 ·rw[zacX (by simpa using c),zacX c];omega
theorem zTt(s:zu)(x:List zN)(ep:Int)(hl:x.length<=12):∀p:Int×zT×Nat,(p.2.2<=x.length/\(p.2.1.l.length<=12/\p.2.1.heap.length<=12)/\0<=p.1/\p.1<=100+p.2.2)->zai G [] zmS (zj9 s x ep p.1 p.2.1 p.2.2)=some (.exit 2,⟨[(2,.ref 2 0 0),(4,.ref 4 0 0),(8,.d (.int .i64 (p.1+cnL ep (x.drop p.2.2))))],[(2,.row [.d (zk { s with leases:=zfP ep (x.drop p.2.2) p.2.1 })]),(4,.row [shZ])]⟩):=by
 refine za3 (fun p=>x.length - p.2.2) (fun p:Int×zT×Nat=>(p.2.2<=x.length/\(p.2.1.l.length<=12/\p.2.1.heap.length<=12)/\0<=p.1/\p.1<=100+p.2.2)) (fun p=>zj9 s x ep p.1 p.2.1 p.2.2) (fun p=>_) fun⟨n,t,i⟩ ⟨hi1,ht,hn0,hn1⟩ L ih=> ?_;simp only at hi1 ht hn0 hn1
 by_cases h0:i<x.length
 ·have hp:=ziw x[i].msg ep;have hg:(x.map (·.msg))[i]'(by simpa using h0)=x[i].msg:=by simp
  simp only;rw[zady h0,zfP,zTw]
  by_cases c:x[i].msg.epoch<ep
  ·rw[zacY c,zacY c];rw[zadn c] at hp;have hm:=zte t x[i].msg.id zo zo;have hc:=zQw t x[i].msg.id;have i1:=ih ⟨n+1,(zap t x[i].msg.id).1,i+1⟩ ⟨by simp only;omega,hc,by simp only;omega,by simp only;omega⟩ (by simp only;omega);clear ih c;simp only at i1;rw[show n+((1+cnL ep (x.drop (i+1)):Nat):Int)=n+1+(cnL ep (x.drop (i+1)):Nat) by omega];generalize zfP ep (x.drop (i+1)) (zap t x[i].msg.id).1=R at *;generalize n+1+((cnL ep (x.drop (i+1)):Nat):Int)=N at *;generalize zap t x[i].msg.id=q at *;obtain⟨⟨qc,qh⟩,qm,qe⟩:=q;obtain⟨tc,th⟩:=t;simp only[zj9,zmS,zk,zaJ,zn,shZ] at *;simp only[zNr,zE] at i1;simp -implicitDefEqProofs (maxSteps:=4000000) (disch:=omega) only[zn,zj,go_sem, *]
  ·rw[zacX c,zacX c];rw[zadq c] at hp;have i1:=ih ⟨n,t,i+1⟩ ⟨by simp only;omega,ht,hn0,by simp only;omega⟩ (by simp only;omega);clear ih c;simp only at i1;rw[zadv];generalize zfP ep (x.drop (i+1)) t=R at *;generalize n+((cnL ep (x.drop (i+1)):Nat):Int)=N at *;simp only[zj9,zmS,zk,zn,shZ] at *;simp only[zNr,zE] at i1;simp -implicitDefEqProofs (maxSteps:=4000000) (disch:=omega) only[zn,zj,go_sem, *]
 ·clear ih;obtain rfl:i=x.length:=by omega
  simp only[zadI,zfP,cnL,zaeF,zac5,zado,Int.add_zero,zj9,zmS,zk,shZ];exact zS
theorem zTq(s:zu)(ep:Int)(q:zbn s):zg G zoM [.d (zk s),.d (.int .i64 ep)] []=some (.d (.tup [zk (zhT s ep).1,.int .i64 (zhT s ep).2.1,.int .i64 (zhT s ep).2.2]),[]):=by
 have hv:=zfi s q.1 q.2.1 q.2.2;have h1:=zkg ep;unfold zhT
 by_cases c0:zal s=0
 ·rw[zacX (fun z=>z c0)];have hb:=zgN c0;have hr:=ziC hb;have h12:=zhw hb;have hle:=zci hb;have hrd:=zjA hr;have hld:=zsT (s:=s) hle.2.1;have hl1:=zTn s (zI s.ready) (s.leases.l.map (·.msg)) ep h12 ⟨0,s.ready,0⟩ ⟨by simp,hle.1,by simp,by simp⟩;have hcb:cnP ep (zI s.ready)<=12:=zadL (zaeh _ _) h12;have hl2:=zTt { s with ready:=rmP ep (zI s.ready) s.ready } s.leases.l ep hle.2.1 ⟨cnP ep (zI s.ready),s.leases,0⟩ ⟨by simp,hle.2,by simp,by simp only;omega⟩;rw[c0] at hv;clear c0 hb hr h12;have e1:((zI s.ready).filter fun m=>decide (m.epoch<ep)).length=cnP ep (zI s.ready):=rfl;have e2:(s.leases.l.filter fun y=>decide (y.msg.epoch<ep)).length=cnL ep s.leases.l:=rfl;rw[e1,e2];clear e1 e2;simp only[zadu,Int.zero_add] at hl1 hl2;generalize cnP ep (zI s.ready)=n1 at *;generalize cnL ep s.leases.l=n2 at *;generalize rmP ep (zI s.ready) s.ready=R at *;generalize zfP ep s.leases.l s.leases=T at *;generalize zI s.ready=w at *;generalize epQ ep=b1 at *;obtain⟨rc,rh,rz⟩:=R;obtain⟨tl,th⟩:=T;simp only[zj7,zj9,zk,shZ,zP,zaP,zax,zacZ,zado] at *
  cases b1
  ·clear hl1 hl2;simp only[if_true];exact zW zzx
  ·simp only[zadA,if_false];exact zW zzx
 ·rw[zacY c0];generalize zal s=v at *;simp only[zk,zP,zaP,zax,zacZ] at *;exact zW zzx
def zkk(s:zu)(l:List zl)(y:List zN)(r:zat)(i:Nat):St:=⟨[(1,.d (.sl (l.map zn))),(2,.d (.sl (y.map za0))),(3,.ref 3 0 0),(6,.ref 6 0 0),(7,.d (.int .i64 i))],[(3,.row [.d (zk { s with ready:=r })]),(6,.row [shZ])]⟩
theorem zWw(s:zu)(l:List zl)(y:List zN)(hl:l.length<=1000):∀p:zat×Nat,(p.2<=l.length/\p.1.cells.length<=12)->zai G [] zmT (zkk s l y p.1 p.2)=some (.exit 0,⟨[(2,.d (.sl (y.map za0))),(3,.ref 3 0 0),(6,.ref 6 0 0)],[(3,.row [.d (zk { s with ready:=zbQ s.low s.high (l.drop p.2) p.1 })]),(6,.row [shZ])]⟩):=by
 refine za3 (fun p=>l.length - p.2) (fun p:zat×Nat=>(p.2<=l.length/\p.1.cells.length<=12)) (fun p=>zkk s l y p.1 p.2) (fun p=>_) fun⟨r,i⟩ ⟨hi1,hr⟩ L ih=> ?_;simp only at hi1 hr
 by_cases h0:i<l.length
 ·simp only;rw[zady h0,zbQ]
  by_cases c:s.low<=l[i].route/\l[i].route<=s.high
  ·rw[zacY c];have hm:=ztd r l[i] zo;have hc:=zBQ r l[i];have i1:=ih ⟨(pbD r l[i]).1,i+1⟩ ⟨by simp only;omega,by simp only;omega⟩ (by simp only;omega);clear ih;simp only at i1;generalize zbQ s.low s.high (l.drop (i+1)) (pbD r l[i]).1=R at *;generalize pbD r l[i]=q at *;obtain⟨⟨qc,qh,qz⟩,qe⟩:=q;obtain⟨rc,rh,rz⟩:=r;simp only[zkk,zmT,zk,zau,zn,shZ] at *;simp only[zNr,zE] at i1;simp -implicitDefEqProofs (maxSteps:=4000000) (disch:=omega) only[zn,zj,go_sem, *]
  ·rw[zacX c];have i1:=ih ⟨r,i+1⟩ ⟨by simp only;omega,hr⟩ (by simp only;omega);clear ih;simp only at i1;generalize zbQ s.low s.high (l.drop (i+1)) r=R at *;simp only[zkk,zmT,zk,zn,shZ] at *;simp only[zNr,zE] at i1
   (try simp -implicitDefEqProofs (maxSteps:=4000000) (disch:=omega) only[zn,zj,go_sem, *]);(try simp only[zPr]);repeat' (first|done|rfl|((first|refine zay (fun hq=> ?_) (fun hq=> ?_)|refine zaD (fun hq=> ?_) (fun hq=> ?_))<;>(try (first|(exfalso;omega)|contradiction))<;>(try simp -implicitDefEqProofs (maxSteps:=4000000) (disch:=omega) only[zn,zj,go_sem, *])<;>(try simp only[zPr])));(all_goals try rfl);(all_goals try (repeat' (first|done|rfl|(exfalso;omega)|contradiction|(refine zaz (fun hq=> ?_) (fun hq=> ?_)))))
 ·clear ih;obtain rfl:i=l.length:=by omega
  simp only[zadI,zbQ,zkk,zmT,zk,shZ];exact zS
def zkn(s:zu)(y:List zN)(t:zT)(i:Nat):St:=⟨[(2,.d (.sl (y.map za0))),(3,.ref 3 0 0),(6,.ref 6 0 0),(8,.d (.int .i64 i))],[(3,.row [.d (zk { s with leases:=t })]),(6,.row [shZ])]⟩
theorem zWW(s:zu)(y:List zN)(hl:y.length<=1000):∀p:zT×Nat,(p.2<=y.length/\(p.1.l.length<=12/\p.1.heap.length<=12))->zai G [] zmU (zkn s y p.1 p.2)=some (.exit 2,⟨[(3,.ref 3 0 0),(6,.ref 6 0 0)],[(3,.row [.d (zk { s with leases:=zeA s.low s.high (y.drop p.2) p.1 })]),(6,.row [shZ])]⟩):=by
 refine za3 (fun p=>y.length - p.2) (fun p:zT×Nat=>(p.2<=y.length/\(p.1.l.length<=12/\p.1.heap.length<=12))) (fun p=>zkn s y p.1 p.2) (fun p=>_) fun⟨t,i⟩ ⟨hi1,ht⟩ L ih=> ?_;simp only at hi1 ht
 by_cases h0:i<y.length
 ·simp only;rw[zady h0,zeA]
  by_cases c:s.low<=y[i].msg.route/\y[i].msg.route<=s.high
  ·rw[zacY c];have hm:=zNB t y[i].msg y[i].deadline zo zo;have hc:=zHM s.low s.high [y[i]] t ht;rw[zeA,zacY c,zeA] at hc;have i1:=ih ⟨(zaY t y[i].msg y[i].deadline).1,i+1⟩ ⟨by simp only;omega,hc⟩ (by simp only;omega);clear ih;simp only at i1;generalize zeA s.low s.high (y.drop (i+1)) (zaY t y[i].msg y[i].deadline).1=R at *;generalize zaY t y[i].msg y[i].deadline=q at *;obtain⟨⟨qc,qh⟩,qe⟩:=q;obtain⟨tc,th⟩:=t;simp only[zkn,zmU,zk,zaJ,zn,shZ] at *;simp only[zNr,zE] at i1;simp -implicitDefEqProofs (maxSteps:=4000000) (disch:=omega) only[za0,zj,go_sem, *]
  ·rw[zacX c];have i1:=ih ⟨t,i+1⟩ ⟨by simp only;omega,ht⟩ (by simp only;omega);clear ih;simp only at i1;generalize zeA s.low s.high (y.drop (i+1)) t=R at *;simp only[zkn,zmU,zk,zn,shZ] at *;simp only[zNr,zE] at i1
   (try simp -implicitDefEqProofs (maxSteps:=4000000) (disch:=omega) only[za0,zj,go_sem, *]);(try simp only[zPr]);repeat' (first|done|rfl|((first|refine zay (fun hq=> ?_) (fun hq=> ?_)|refine zaD (fun hq=> ?_) (fun hq=> ?_))<;>(try (first|(exfalso;omega)|contradiction))<;>(try simp -implicitDefEqProofs (maxSteps:=4000000) (disch:=omega) only[za0,zj,go_sem, *])<;>(try simp only[zPr])));(all_goals try rfl);(all_goals try (repeat' (first|done|rfl|(exfalso;omega)|contradiction|(refine zaz (fun hq=> ?_) (fun hq=> ?_)))))
 ·clear ih;obtain rfl:i=y.length:=by omega
  simp only[zadI,zeA,zkn,zmU,zk,shZ];exact zS
theorem zvA(s:zu)(l:List zl)(y:List zN)(hs:za1 s)(hl:l.length<=1000)(hy:y.length<=1000):zg G zo3 [.d (zk s),.d (.sl (l.map zn)),.d (.sl (y.map za0))] []=some (.d (zk (zgE s l y)),[]):=by
 have h1:=zWw s l y hl ⟨s.ready,0⟩ ⟨by simp,hs.1⟩;have h2:=zWW { s with ready:=zbQ s.low s.high l s.ready } y hy ⟨s.leases,0⟩ ⟨by simp,hs.2⟩;unfold zgE;simp only[zadu] at h1 h2;generalize zbQ s.low s.high l s.ready=R at *;generalize zeA s.low s.high y s.leases=T at *;simp only[zkk,zkn,zk,shZ,zado] at *;exact zW zXF
theorem zMG(n:Int):zg G zlK [.d (.int .i64 n)] []=some (.d (.tup [zau (if n<1\/12<n then zaP else ⟨List.replicate n.toNat zak,0,0⟩),.int .i64 (if n<1\/12<n then 1 else 0)]),[]):=by
 by_cases c:n<1\/12<n
 ·rw[zacY c,zacY c];simp only[zau,zaP,zacZ];exact zW zIk
 ·rw[zacX c,zacX c];have h:=z1A n.toNat zo zo;rw[zaf0 zo] at h;exact h
theorem zaF(n lo hi:Int):zg G zoW [.d (.int .i64 n),.d (.int .i64 lo),.d (.int .i64 hi)] []=some (.d (.tup [zk (zG n lo hi).1,.int .i64 (zG n lo hi).2]),[]):=by
 have h1:=zMG n;have h2:=zQS lo hi;unfold zG
 by_cases c:n<1\/12<n
 ·rw[zacY c] at h1 ⊢;rw[zacY c] at h1;simp only[zk,zau,zP,zaP,zax,zacZ] at *;exact zW zzC
 ·rw[zacX c] at h1 ⊢;rw[zacX c] at h1;generalize List.replicate n.toNat zak=w at *
  by_cases c2:0<=lo/\lo<=hi/\hi<65536
  ·rw[zacX (fun q=>q c2)];rw[zadn c2] at h2;simp only[zk,zau,zP,zaP,zax,zacZ] at *;exact zW zzC
  ·rw[zacY c2];rw[zadq c2] at h2;simp only[zk,zau,zP,zaP,zax,zacZ] at *;exact zW zzC
theorem zcC(n:Int):zg G zoR [.d (.int .i64 n)] []=some (.d (.tup [zk (zao n).1,.int .i64 (zao n).2]),[]):=by
 have h1:=zMG n;unfold zao
 by_cases c:n<1\/12<n
 ·rw[zacY c] at h1 ⊢;rw[zacY c] at h1;simp only[zk,zau,zP,zaP,zax,zacZ] at *;exact zW zIr
 ·rw[zacX c] at h1 ⊢;rw[zacX c] at h1;generalize List.replicate n.toNat zak=w at *;simp only[zk,zau,zP,zaP,zax,zacZ] at *;exact zW zIr
theorem zZ4{s:zu}(h:zal s=0):0<=s.low/\s.low<=s.high/\s.high<65536:=by
 have hv:=zgN h;have hl:s.live=true:=by
  unfold zal at h;rw[zacX (fun q=>q hv)] at h
  split at h
  ·assumption
  ·cases h
 obtain⟨n,h',e,v⟩:=zf1 hv hl;exact⟨v.2.2.2.2.1,v.2.2.2.2.2.1,v.2.2.2.2.2.2.1⟩
theorem zUJ(s:zu)(mid:Int)(q:zbn s):zg G zoP [.d (zk s),.d (.int .i64 mid)] []=some (.d (.tup [zk (zd8 s mid).1,zk (zd8 s mid).2.1,.int .i64 (zd8 s mid).2.2]),[]):=by
 have hv:=zfi s q.1 q.2.1 q.2.2;unfold zd8
 by_cases c0:zal s=0
 ·rw[zacX (fun z=>z c0)];have hb:=zgN c0;have hr:=ziC hb;have h12:=zhw hb;have hle:=zci hb;have hrd:=zjA hr;have hn1:=zaF s.ready.cells.length s.low mid;have hn2:=zaF s.ready.cells.length (mid+1) s.high;have hf1:=zvA (zG s.ready.cells.length s.low mid).1 (zI s.ready) s.leases.l (zsq _ _ _) zo (by have:=hle.2.1;omega);have hf2:=zvA (zG s.ready.cells.length (mid+1) s.high).1 (zI s.ready) s.leases.l (zsq _ _ _) zo (by have:=hle.2.1;omega);have hhi:=zZ4 c0;rw[c0] at hv;clear c0 hb hr h12;generalize zgE (zG s.ready.cells.length s.low mid).1 (zI s.ready) s.leases.l=F1 at *;generalize zgE (zG s.ready.cells.length (mid+1) s.high).1 (zI s.ready) s.leases.l=F2 at *;generalize zG s.ready.cells.length s.low mid=N1 at *;generalize zG s.ready.cells.length (mid+1) s.high=N2 at *;generalize zI s.ready=w at *;obtain⟨N1,e1⟩:=N1;obtain⟨N2,e2⟩:=N2;simp only at *
  by_cases c1:mid<s.low\/s.high<=mid
  ·rw[zacY c1];clear hf1 hf2 hn1 hn2;simp only[zk,zP,zaP,zax,zacZ] at *;exact zW zzz
  ·rw[zacX c1];have sz_F1:=zbD F1;generalize zk F1=D_F1 at *;have sz_F2:=zbD F2;generalize zk F2=D_F2 at *;have sz_N1:=zbD N1;generalize zk N1=D_N1 at *;have sz_N2:=zbD N2;generalize zk N2=D_N2 at *;simp only[zk] at *;exact zW zzz
 ·rw[zacY c0];generalize zal s=v at *;simp only[zk,zP,zaP,zax,zacZ] at *;exact zW zzz
theorem zacf(a b:zu)(l x:List zl)(hl:l.length<=24)(hx:x.length<=24):zai G [] zsF ⟨[(2,.ref 2 0 0),(3,.ref 3 0 0),(4,.ref 4 0 0),(8,.d (.sl (l.map zn))),(9,.d (.sl (x.map zn))),(10,.d (.int .i64 (0:Nat)))],[(2,.row [.d (zk a)]),(3,.row [.d (zk b)]),(4,.row [shZ])]⟩=some (if (List.range x.length).all (fun k=> !decide (0<=zaV l (x.getD k zak).id))=true then (.exit 0,⟨[(2,.ref 2 0 0),(3,.ref 3 0 0),(4,.ref 4 0 0)],[(2,.row [.d (zk a)]),(3,.row [.d (zk b)]),(4,.row [shZ])]⟩) else (.ret,⟨[(4,.ref 4 0 0),(5,.d (.int .i64 10))],[(4,.row [shZ])]⟩)):=by
 refine zhr (G:=G) x.length (fun k=> !decide (0<=zaV l (x.getD k zak).id)) (fun k=>⟨[(2,.ref 2 0 0),(3,.ref 3 0 0),(4,.ref 4 0 0),(8,.d (.sl (l.map zn))),(9,.d (.sl (x.map zn))),(10,.d (.int .i64 k))],[(2,.row [.d (zk a)]),(3,.row [.d (zk b)]),(4,.row [shZ])]⟩) _ _ fun k hk L=> ?_
 by_cases h0:k<x.length
 ·rw[zacY h0,zj h0];have hi:=zjf l x[k].id zo;generalize zaV l x[k].id=q at *;simp only[zsF,zk,shZ] at *
  by_cases c:0<=q
  ·rw[zadn c];simp -implicitDefEqProofs (maxSteps:=4000000) (disch:=omega) only[zn,zj,go_sem, *]
  ·rw[zadq c];simp -implicitDefEqProofs (maxSteps:=4000000) (disch:=omega) only[zn,zj,go_sem, *]
 ·rw[zacX h0];simp only[zsF,zk,shZ] at *;exact zS
theorem zack(l x:List zl):(x.any fun m=>decide (0<=zaV l m.id))= !((List.range x.length).all (fun k=> !decide (0<=zaV l (x.getD k zak).id))):=by
 apply zaef.2;simp only[zadY,decide_eq_true_eq,zadP,List.all_eq_false,zadU,zaeD,zafZ];constructor
 ·rintro⟨m,hm,h⟩;obtain⟨i,hi,rfl⟩:=zae5.1 hm;exact⟨i,hi,by rw[zj hi];simpa using h⟩
 ·rintro⟨i,hi,h⟩;rw[zj hi] at h;exact⟨_,zadf hi,by simpa using h⟩
theorem znI{s:zu}(h:zaf s=0):0<=s.low/\s.high<65536/\s.low<=65536/\0<=s.high:=by
 cases hl:s.live with
 | true=>
  obtain⟨n,h',e,v⟩:=zf1 h hl;have:=v.2.2.2.2.1;have:=v.2.2.2.2.2.1;have:=v.2.2.2.2.2.2.1
  omega
 | false=>
  have hr:=ziC h;have ht:zaA s.leases=0:=by
   unfold zaf at h;rw[zacX (fun q=>q hr)] at h
   split at h
   ·rename_i c;exact absurd h c
   ·rename_i c;exact zadh.1 c
  rw[znE hr ht,zacY hl] at h
  split at h
  ·cases h
  ·rename_i c;omega
theorem zacl(a b:zu)(qa:zbn a)(qb:zbn b):zg G zo1 [.d (zk a),.d (zk b)] []=some (.d (.tup [zk (ziK a b).1,.int .i64 (ziK a b).2]),[]):=by
 have ha:=znk a qa.1 qa.2.1 qa.2.2;have hb:=znk b qb.1 qb.2.1 qb.2.2;have sa:=zhH a qa;have sb:=zhH b qb;unfold ziK
 by_cases c0:zaf a=0
 ·rw[zacX (fun z=>z c0)]
  by_cases c1:zaf b=0
  ·rw[zacX (fun z=>z c1)];have ra:=ziC c0;have rb:=ziC c1;have la:=zci c0;have lb:=zci c1;have ma:=zjV ra la.2.1;have mb:=zjV rb lb.2.1;have rdb:=zjA rb;have na:=zBz c0;have nb:=zBz c1;have ob:=zhw c1;have hlp:=zacf a b (za9 a) (za9 b) na nb;have hba:=znJ c0;have hbb:=znJ c1;rw[zack];rw[show (if a.low<b.low then a.low else b.low)=(if b.low<a.low then b.low else a.low) by split<;>split<;>omega];have hf:=zvA { a with low:=if b.low<a.low then b.low else a.low,high:=if a.high<b.high then b.high else a.high } (zI b.ready) b.leases.l la zo (by have:=lb.2.1;omega);rw[c0] at ha;rw[c1] at hb
   by_cases c2:a.live=false\/b.live=false\/a.high+1≠b.low/\b.high+1≠a.low
   ·rw[zacY c2];clear hf hlp ma mb rdb;have hspa:=znI c0;have hspb:=znI c1;clear c0 c1 ra rb qa qb na nb ob la lb;generalize zbs a=na at *;generalize zbs b=nb at *;obtain⟨al,alo,ahi,⟨ac,ah,az⟩,⟨atl,ath⟩⟩:=a;obtain⟨bl,blo,bhi,⟨bc,bh,bz⟩,⟨btl,bth⟩⟩:=b;simp only[zk,zP,zaP,zax,zacZ] at *
    cases al
    ·clear c2;exact zW zfy
    cases bl
    ·clear c2;exact zW zfy
    ·have c3:ahi+1≠blo/\bhi+1≠alo:=by simpa using c2
     clear c2;obtain⟨c2,c3⟩:=c3;exact zW zfy
   ·rw[zacX c2];have l1:a.live=true:=by cases h:a.live;exact absurd (.inl h) c2;rfl
    have l2:b.live=true:=by cases h:b.live;exact absurd (.inr (.inl h)) c2;rfl
    have l3:a.high+1=b.low\/b.high+1=a.low:=by omega
    have hspa:=znI c0;have hspb:=znI c1;clear c2 c0 c1 ra rb qa qb na nb ob;generalize (List.range (za9 b).length).all (fun k=> !decide (0<=zaV (za9 a) ((za9 b).getD k zak).id))=bl at *;generalize za9 a=xa at *;generalize za9 b=xb at *;generalize zI b.ready=w at *;generalize zbs a=na at *;generalize zbs b=nb at *;have hca:=la.1;clear la lb;obtain⟨al,alo,ahi,⟨ac,ah,az⟩,⟨atl,ath⟩⟩:=a;obtain⟨bv,blo,bhi,⟨bc,bh,bz⟩,⟨btl,bth⟩⟩:=b;simp only at *;subst l1 l2
    by_cases c3:(ac.length:Int)<na+nb
    ·rw[zacY c3];clear hf hlp;simp only[zk,zP,zaP,zax,zacZ] at *
     rcases l3 with l3|l3
     ·replace l3:=zadb l3;exact zW zfy
     ·by_cases l4:ahi+1=blo
      ·replace l4:=zadb l4;exact zW zfy
      ·replace l3:=zadb l3;replace l4:=zac3 l4;exact zW zfy
    ·rw[zacX c3]
     cases bl
     ·clear hf;simp only[zafG,if_true,zac8,if_false] at hlp ⊢;simp only[zk,shZ,zP,zaP,zax,zacZ,zado] at *
      by_cases l4:ahi+1=blo
      ·replace l4:=zadb l4;clear l3;exact zW zfy
      ·have l5:bhi+1=alo:=by omega
       replace l5:=zadb l5;replace l4:=zac3 l4;clear l3;exact zW zfy
     ·simp only[zafF,if_true,zac8,if_false] at hlp ⊢;generalize zgE ⟨true,if blo<alo then blo else alo,if ahi<bhi then bhi else ahi,⟨ac,ah,az⟩,⟨atl,ath⟩⟩ w btl=F at *;have sz_F:=zbD F;generalize zk F=D_F at *;simp only[zk,shZ,zado] at *
      by_cases l4:ahi+1=blo
      ·replace l4:=zadb l4;clear l3;exact zW zfy
      ·have l5:bhi+1=alo:=by omega
       replace l5:=zadb l5;replace l4:=zac3 l4;clear l3;exact zW zfy
  ·rw[zacY c1];rw[c0] at ha;generalize zaf b=v at *;simp only[zk,zP,zaP,zax,zacZ] at *;exact zW zfy
 ·rw[zacY c0];generalize zaf a=v at *;simp only[zk,zP,zaP,zax,zacZ] at *;exact zW zfy
theorem zMW(t:zq):zg G zqr [.d (zd t)] []=some (.d (.sl (zB (zdi t))),[]):=by
 unfold zdi;simp only[zd]
 by_cases c:t.inv.from_<t.inv.to
 ·rw[zacY c];rw[zO zIO (by simp)];simp -implicitDefEqProofs (maxSteps:=4000000) (disch:=omega) only[zq6,zts,zB,zj,go_sem, *]
 ·rw[zacX c];rw[zO zIO (by simp)];simp -implicitDefEqProofs (maxSteps:=4000000) (disch:=omega) only[zq6,zts,zB,zj,go_sem, *]
theorem zaaM(t:zq)(hk:t.sec.shards.length=2):zg G zqu [.d (zd t)] []=some (.d (.tup [zk (zab t),zk (za6 t)]),[]):=by
 have ho:=zMW t;unfold zab za6;unfold zdi at ho;rw[zj (show 0<t.sec.shards.length by omega),zj (show 1<t.sec.shards.length by omega)]
 by_cases c:t.inv.from_<t.inv.to
 ·rw[zacY c] at ho;rw[zacY c,zacY c];clear c;simp only[zd,zB,zac1,zacZ] at *;rw[zO zIQ (by simp)];simp -implicitDefEqProofs (maxSteps:=4000000) (disch:=omega) only[zq7,ztt,zk,zj,go_sem, *]
 ·rw[zacX c] at ho;rw[zacX c,zacX c];clear c;simp only[zd,zB,zac1,zacZ] at *;rw[zO zIQ (by simp)];simp -implicitDefEqProofs (maxSteps:=4000000) (disch:=omega) only[zq7,ztt,zk,zj,go_sem, *]
theorem z6G(t:zq)(x y:zu):zg G zqs [.d (zd t),.d (zk x),.d (zk y)] []=some (.d (.sl ((zek t x y).map zk)),[]):=by
 unfold zek
 by_cases c:t.inv.from_<t.inv.to
 ·rw[zacY c];simp only[zd,zac1,zacZ];have sz_x:=zbD x;generalize zk x=D_x at *;have sz_y:=zbD y;generalize zk y=D_y at *;exact zW zIP
 ·rw[zacX c];simp only[zd,zac1,zacZ];have sz_x:=zbD x;generalize zk x=D_x at *;have sz_y:=zbD y;generalize zk y=D_y at *;exact zW zIP
theorem zrG{u:Setup}{N:Int}{t:zq}(hs:SI u N t.sec):zbn (zab t):=zf8 (zH4 hs)
theorem zDn{u:Setup}{N:Int}{t:zq}(hs:SI u N t.sec):zbn (za6 t):=zf8 (zDo hs)
theorem zqN{u:Setup}{N:Int}{s:Section}(hs:SI u N s){i:Nat}(h:i<s.shards.length):zaf (s.shards.getD i zP)=0:=by
 rw[zj h];exact (hs.sv _ (zadf h)).1
theorem zzh{u:Setup}{N:Int}{t:zq}(hs:SI u N t.sec)(hk:t.sec.shards.length=2):zaf (zab t)=0/\zaf (za6 t)=0:=by
 unfold zab za6
 split
 ·exact⟨zqN hs zo,zqN hs zo⟩
 ·exact⟨zqN hs zo,zqN hs zo⟩
theorem zaaQ{s:zu}(h:zaf s=0):0<=s.ready.size/\s.ready.size<=12:=by
 obtain⟨a1,a2,a3,a4,a5,a6⟩:=zc8 (ziC h);omega
theorem zs5{u:Setup}{N:Int}{t:zq}(hs:SI u N t.sec)(hk:t.sec.shards.length=2):zg G zqt [.d (zd t)] []=some (.d (.tup [zZ (zb2 t).1,z6 (zb2 t).2.1,.sl ((zb2 t).2.2.map zad)]),[]):=by
 have hu:=zhK t.sec;have hsh:=zaaM t hk;have ho:=zMW t;obtain⟨v1,v2⟩:=zzh hs hk;have hst:=zhH (za6 t) (zDn hs);have b1:=zaaQ v1;have b2:=znJ v2;have b3:=(zci v2).1;unfold zb2;simp only
 by_cases c0:(zab t).live=false\/(za6 t).live=false
 ·rw[zacY c0];clear hs ho hst v1 v2 b1 b2 b3;generalize zab t=v at *;generalize za6 t=w at *;obtain⟨l1,vlo,vhi,⟨vc,vh,vz⟩,⟨vtl,vth⟩⟩:=v;obtain⟨l2,wlo,whi,⟨wc,wh,wz⟩,⟨wtl,wth⟩⟩:=w;simp only[zd,zC,zZ,zaa,zk,za8,z6,zam,zacZ] at *
  cases l1
  ·exact zW zr2
  cases l2
  ·exact zW zr2
  ·simp at c0
 rw[zacX c0];have l1:(zab t).live=true:=by
  cases h:(zab t).live
  ·exact absurd (.inl h) c0
  ·rfl
 have l2:(za6 t).live=true:=by
  cases h:(za6 t).live
  ·exact absurd (.inr h) c0
  ·rfl
 clear c0;have e1:(((zab t).ready.size+1).tdiv 2)=((zab t).ready.size+1) / 2:=zaeC zo;have hdt:=zUj (zab t) (zim (((zab t).ready.size+1).tdiv 2) ((za6 t).ready.cells.length - zbs (za6 t))) (zrG hs);have hdl:=zG3 (zab t) (zim (((zab t).ready.size+1).tdiv 2) ((za6 t).ready.cells.length - zbs (za6 t)));generalize hk2:zim (((zab t).ready.size+1).tdiv 2) ((za6 t).ready.cells.length - zbs (za6 t))=k at *;have hk3:(if ((za6 t).ready.cells.length:Int) - zbs (za6 t)<((zab t).ready.size+1) / 2 then ((za6 t).ready.cells.length:Int) - zbs (za6 t) else ((zab t).ready.size+1) / 2)=k:=by
  unfold zim at hk2;rw[<- hk2,e1]
  split<;>split<;>omega
 clear hk2
 by_cases c1:k=0
 ·rw[zacY c1];subst c1;clear hs ho v1 v2 hdt hdl;generalize zab t=v at *;generalize za6 t=w at *;generalize zbs w=sd at *;obtain⟨l1',vlo,vhi,⟨vc,vh,vz⟩,⟨vtl,vth⟩⟩:=v;obtain⟨l2',wlo,whi,⟨wc,wh,wz⟩,⟨wtl,wth⟩⟩:=w;simp only at *;subst l1 l2;simp only[zd,zC,zZ,zaa,zk,za8,z6,zam,zacZ] at *;exact zW zr2
 ·rw[zacX c1];have hab:=zDF (za6 t) (zgd (zab t) k).2.1 (zDn hs) zo;generalize zgd (zab t) k=d at *;obtain⟨d1,d2,d3⟩:=d;simp only at *;generalize zgA (za6 t) d2=y at *;obtain⟨y1,y2⟩:=y;have hpl:=z6G t d1 y1;clear hs v1 v2 hdl;generalize zek t d1 y1=pl at *;generalize zdi t=od at *;generalize zab t=v at *;generalize za6 t=w at *;generalize zbs w=sd at *;have sz_d1:=zbD d1;generalize zk d1=D_d1 at *;have sz_y1:=zbD y1;generalize zk y1=D_y1 at *;obtain⟨l1',vlo,vhi,⟨vc,vh,vz⟩,⟨vtl,vth⟩⟩:=v;obtain⟨l2',wlo,whi,⟨wc,wh,wz⟩,⟨wtl,wth⟩⟩:=w;simp only at *;subst l1 l2;simp only[zd,zC,zZ,zaa,zk,za8,z6,zam,zacZ] at *;exact zW zr2
theorem zMX(t:zq):zg G zqv [.d (zd t)] []=some (.d (.sl (zB (zdi t))),[]):=by
 unfold zdi;simp only[zd]
 by_cases c:t.inv.from_<t.inv.to
 ·rw[zacY c];rw[zO zIR (by simp)];simp -implicitDefEqProofs (maxSteps:=4000000) (disch:=omega) only[zq8,ztu,zB,zj,go_sem, *]
 ·rw[zacX c];rw[zO zIR (by simp)];simp -implicitDefEqProofs (maxSteps:=4000000) (disch:=omega) only[zq8,ztu,zB,zj,go_sem, *]
theorem zaaN(t:zq)(hk:t.sec.shards.length=2):zg G zqy [.d (zd t)] []=some (.d (.tup [zk (zab t),zk (za6 t)]),[]):=by
 have ho:=zMX t;unfold zab za6;unfold zdi at ho;rw[zj (show 0<t.sec.shards.length by omega),zj (show 1<t.sec.shards.length by omega)]
 by_cases c:t.inv.from_<t.inv.to
 ·rw[zacY c] at ho;rw[zacY c,zacY c];clear c;simp only[zd,zB,zac1,zacZ] at *;rw[zO zIT (by simp)];simp -implicitDefEqProofs (maxSteps:=4000000) (disch:=omega) only[zq9,ztv,zk,zj,go_sem, *]
 ·rw[zacX c] at ho;rw[zacX c,zacX c];clear c;simp only[zd,zB,zac1,zacZ] at *;rw[zO zIT (by simp)];simp -implicitDefEqProofs (maxSteps:=4000000) (disch:=omega) only[zq9,ztv,zk,zj,go_sem, *]
theorem z6H(t:zq)(x y:zu):zg G zqw [.d (zd t),.d (zk x),.d (zk y)] []=some (.d (.sl ((zek t x y).map zk)),[]):=by
 unfold zek
 by_cases c:t.inv.from_<t.inv.to
 ·rw[zacY c];simp only[zd,zac1,zacZ];have sz_x:=zbD x;generalize zk x=D_x at *;have sz_y:=zbD y;generalize zk y=D_y at *;exact zW zIS
 ·rw[zacX c];simp only[zd,zac1,zacZ];have sz_x:=zbD x;generalize zk x=D_x at *;have sz_y:=zbD y;generalize zk y=D_y at *;exact zW zIS
theorem zMY(t:zq):zg G zqz [.d (zd t)] []=some (.d (.sl (zB (zdi t))),[]):=by
 unfold zdi;simp only[zd]
 by_cases c:t.inv.from_<t.inv.to
 ·rw[zacY c];rw[zO zIU (by simp)];simp -implicitDefEqProofs (maxSteps:=4000000) (disch:=omega) only[zra,ztw,zB,zj,go_sem, *]
 ·rw[zacX c];rw[zO zIU (by simp)];simp -implicitDefEqProofs (maxSteps:=4000000) (disch:=omega) only[zra,ztw,zB,zj,go_sem, *]
theorem zaaO(t:zq)(hk:t.sec.shards.length=2):zg G zqC [.d (zd t)] []=some (.d (.tup [zk (zab t),zk (za6 t)]),[]):=by
 have ho:=zMY t;unfold zab za6;unfold zdi at ho;rw[zj (show 0<t.sec.shards.length by omega),zj (show 1<t.sec.shards.length by omega)]
 by_cases c:t.inv.from_<t.inv.to
 ·rw[zacY c] at ho;rw[zacY c,zacY c];clear c;simp only[zd,zB,zac1,zacZ] at *;rw[zO zIX (by simp)];simp -implicitDefEqProofs (maxSteps:=4000000) (disch:=omega) only[zrb,ztx,zk,zj,go_sem, *]
 ·rw[zacX c] at ho;rw[zacX c,zacX c];clear c;simp only[zd,zB,zac1,zacZ] at *;rw[zO zIX (by simp)];simp -implicitDefEqProofs (maxSteps:=4000000) (disch:=omega) only[zrb,ztx,zk,zj,go_sem, *]
theorem z6I(t:zq)(x y:zu):zg G zqA [.d (zd t),.d (zk x),.d (zk y)] []=some (.d (.sl ((zek t x y).map zk)),[]):=by
 unfold zek
 by_cases c:t.inv.from_<t.inv.to
 ·rw[zacY c];simp only[zd,zac1,zacZ];have sz_x:=zbD x;generalize zk x=D_x at *;have sz_y:=zbD y;generalize zk y=D_y at *;exact zW zIV
 ·rw[zacX c];simp only[zd,zac1,zacZ];have sz_x:=zbD x;generalize zk x=D_x at *;have sz_y:=zbD y;generalize zk y=D_y at *;exact zW zIV
def zjE(r:zat):Prop:=zaX r=0\/r=zaP
theorem z6q{r:zat}(h:zjE r)(m:zl):zjE (pbD r m).1:=by
 unfold pbD
 split
 ·rename_i c;obtain⟨q1,q2,q3,q4⟩:=zni c;obtain⟨n,h',e,a1,a2,a3,a4,a5,a6⟩:=znw q1;left;have hc:r.cells.length=n:=by rw[e];exact ziB _ _ _
  have hh:r.head.toNat=h':=by rw[e];rfl
  have hz:r.size=((zI r).length:Int):=congrArg zat.size e;rw[hc,hh];refine zCS a1 a2 a3 (by rw[zac6,zadF];omega) (fun x hx=> ?_) ?_
  ·rcases zads.1 hx with hx|hx
   ·exact a5 x hx
   ·rw[zadD.1 hx];exact q2
  ·rw[zadg,zaeG];refine⟨a6,by simp,fun a ha b hb=> ?_⟩;simp only[zac1,zacZ,zadD] at hb;subst hb;intro e2;subst e2;obtain⟨x,hx,ex⟩:=zadc.1 ha;have:=zzg ⟨x,hx,ex⟩;omega
 ·exact .inr rfl
theorem zWA(lo hi:Int):∀(l:List zl) (r:zat),zjE r->zjE (zbQ lo hi l r):=by
 intro l
 induction l with
 | nil=>intro r h;exact h
 | cons m l ih=>
  intro r h;rw[zbQ]
  split
  ·exact ih _ (z6q h m)
  ·exact ih _ h
theorem zZ2:zg G zlJ [.d (zau zaP)] []=some (.d (.sl []),[]):=by
 have hv:=zk6 zaP (by simp [zaP]);have e:zaX zaP=1:=by decide+kernel
 rw[e] at hv;clear e;simp only[zau,zaP,zacZ] at *;exact zW zIj
theorem zRR{s:zu}(h:zjE s.ready)(hl:s.leases.l.length<=12):zg G zlN [.d (zk s)] []=some (.d (.sl ((za9 s).map zn)),[]):=by
 rcases h with h|h
 ·exact zjV h hl
 ·have h1:=zZ2;have hr:zg G zlO [.d (zk s)] []=some (.d (.sl []),[]):=by
   rw[<- h] at h1;clear h;simp only[zau,zk] at *;exact zW zIs
  have hld:=zsT (s:=s) hl;have e:za9 s=s.leases.l.map (·.msg):=by
   unfold za9;rw[h];have:zI zaP=[]:=by decide+kernel
   rw[this];rfl
  rw[e];have hlw:(s.leases.l.map (·.msg)).length<=12:=by simpa using hl
  generalize s.leases.l.map (·.msg)=w at *;clear e h h1 hl;simp only[zk] at *;exact zW zIq
theorem zUI{s:zu}(hv:zaf s=0)(mid:Int):zjE (zd8 s mid).2.1.ready/\(zd8 s mid).2.1.leases.l.length<=12:=by
 have h12:=(zsp s mid).2;refine⟨?_,h12.2.1⟩;unfold zd8
 split
 ·exact .inr rfl
 split
 ·exact .inr rfl
 ·show zjE (zbQ _ _ _ (zG _ _ _).1.ready);apply zWA;unfold zG
  split
  ·exact .inr rfl
  split
  ·exact .inr rfl
  ·rename_i c _;exact .inl (zCT zo zo)
theorem zs6{u:Setup}{N:Int}{t:zq}(hs:SI u N t.sec)(hk:t.sec.shards.length=2):zg G zqx [.d (zd t)] []=some (.d (.tup [zZ (zb1 t).1,z6 (zb1 t).2.1,.sl ((zb1 t).2.2.map zad)]),[]):=by
 have hu:=zhK t.sec;have hsh:=zaaN t hk;have ho:=zMX t;obtain⟨v1,v2⟩:=zzh hs hk;have hsp:=znI v1;unfold zb1;simp only
 by_cases c0:(zab t).live=false\/(za6 t).live=true\/(zab t).high<=(zab t).low
 ·rw[zacY c0];clear hs ho v1 v2;generalize zab t=v at *;generalize za6 t=w at *;obtain⟨l1,vlo,vhi,⟨vc,vh,vz⟩,⟨vtl,vth⟩⟩:=v;obtain⟨l2,wlo,whi,⟨wc,wh,wz⟩,⟨wtl,wth⟩⟩:=w;simp only[zd,zC,zZ,zaa,zk,za8,z6,zam,zacZ] at *
  cases l1
  ·exact zW zr3
  cases l2
  rotate_left
  ·exact zW zr3
  ·have c1:vhi<=vlo:=by simpa using c0
   clear c0;exact zW zr3
 rw[zacX c0];have l1:(zab t).live=true:=by
  cases h:(zab t).live
  ·exact absurd (.inl h) c0
  ·rfl
 have l2:(za6 t).live=false:=by
  cases h:(za6 t).live
  ·rfl
  ·exact absurd (.inr (.inl h)) c0
 have c1:(zab t).low<(zab t).high:=by omega
 clear c0;have e1:((zab t).low+(zab t).high).tdiv 2=((zab t).low+(zab t).high) / 2:=zaeC zo;rw[e1];have hdv:=zUJ (zab t) (((zab t).low+(zab t).high) / 2) (zrG hs);have hz:=zUI v1 (((zab t).low+(zab t).high) / 2);have hl:=(zsp (zab t) (((zab t).low+(zab t).high) / 2)).2;generalize hmid:((zab t).low+(zab t).high) / 2=mid at *;generalize zd8 (zab t) mid=d at *;obtain⟨d1,d2,d3⟩:=d;simp only at *;have hst:=zhH d2 (zf8 hl);have hal:=zRR hz.1 hz.2;have hpl:=z6H t d1 d2;clear hs v1 v2 hz hl;generalize zek t d1 d2=pl at *;generalize zdi t=od at *;generalize za9 d2=ms at *;generalize zbs d2=sd at *;generalize zab t=v at *;generalize za6 t=w at *;have sz_d1:=zbD d1;generalize zk d1=D_d1 at *;have sz_d2:=zbD d2;generalize zk d2=D_d2 at *;obtain⟨l1',vlo,vhi,⟨vc,vh,vz⟩,⟨vtl,vth⟩⟩:=v;obtain⟨l2',wlo,whi,⟨wc,wh,wz⟩,⟨wtl,wth⟩⟩:=w;simp only at *;subst l1 l2;simp only[zd,zC,zZ,zaa,zk,za8,z6,zam,zacZ,zac1,zgk] at *;exact zW zr3
theorem zs7{u:Setup}{N:Int}{t:zq}(hs:SI u N t.sec)(hk:t.sec.shards.length=2):zg G zqB [.d (zd t)] []=some (.d (.tup [zZ (zbX t).1,z6 (zbX t).2.1,.sl ((zbX t).2.2.map zad)]),[]):=by
 have hu:=zhK t.sec;have hsh:=zaaO t hk;have ho:=zMY t;obtain⟨v1,v2⟩:=zzh hs hk;have hun:=zacl (za6 t) (zab t) (zDn hs) (zrG hs);have hfr:=zcC (zab t).ready.cells.length;have hst:=zhH (zab t) (zrG hs);have hal:=zjV (ziC v1) (zci v1).2.1;unfold zbX;simp only;generalize ziK (za6 t) (zab t)=y at *;obtain⟨y,e⟩:=y;generalize zao (zab t).ready.cells.length=f at *;obtain⟨f,fe⟩:=f;simp only at *;have hpl:=z6I t f y;clear hs v1 v2;generalize zek t f y=pl at *;generalize zdi t=od at *;generalize za9 (zab t)=ms at *;generalize zbs (zab t)=sd at *;generalize zab t=v at *;generalize za6 t=w at *
 by_cases c:e=0
 ·subst c;simp only[ne_eq,zac9,if_false];have sz_f:=zbD f;generalize zk f=D_f at *;have sz_y:=zbD y;generalize zk y=D_y at *;obtain⟨l1',vlo,vhi,⟨vc,vh,vz⟩,⟨vtl,vth⟩⟩:=v;simp only[zd,zC,zZ,zaa,zk,za8,z6,zam,zacZ,zac1,zgk] at *;exact zW zIW
 ·rw[zacY c];have sz_f:=zbD f;generalize zk f=D_f at *;have sz_y:=zbD y;generalize zk y=D_y at *;simp only[zd,zC,zZ,zaa,zk,za8,z6,zam,zacZ] at *;exact zW zIW
def accC(o:Nat)(l:List D):AV:=match l with|[]=> .xsl []|x::l=> .acc o (x::l)
def zan(o:Nat)(l:List D):zf:=match l with|[]=>[]|x::l=>[(o,.acc (l.length+1))]
structure T8 where
 rest:List zl
 out:List zl
 i:Nat
def t8S(d:zbw)(k ep:Int)(p:T8):St:=⟨[(1,.d (.int .i64 k)),(2,.d (.int .i64 ep)),(3,.ref 3 0 0),(6,.ref 6 0 0),(10,.ref 10 0 0),(11,.acc 11 (p.out.map zn)),(12,.d (.int .i64 p.i))],[(3,.row [.d (zX d)]),(6,.row [.agg [.d (.int .i64 0),.xsl []]]),(10,.row [.agg [.d (.int .i64 d.cap),accC 500070 (p.rest.map zn)]]),(11,.acc p.out.length)]++zan 500070 (p.rest.map zn)⟩
def t8R(d:zbw)(x:List zl×List zl):zac×St:=(.exit 0,⟨[(6,.ref 6 0 0),(10,.ref 10 0 0),(11,.acc 11 (x.2.map zn))],[(6,.row [.agg [.d (.int .i64 0),.xsl []]]),(10,.row [.agg [.d (.int .i64 d.cap),accC 500070 (x.1.map zn)]]),(11,.acc x.2.length)]++zan 500070 (x.1.map zn)⟩)
theorem zabD(d:zbw)(k ep:Int)(hl:d.l.length<=1000):∀p:T8,(p.i<=d.l.length/\p.out.length<=p.i/\p.rest.length<=p.i)->zai G [] zgK (t8S d k ep p)=some (t8R d (zen k ep (d.l.drop p.i) p.rest p.out)):=by
 refine za3 (fun p:T8=>d.l.length - p.i) (fun p:T8=>(p.i<=d.l.length/\p.out.length<=p.i/\p.rest.length<=p.i)) (t8S d k ep) (fun p=>some (t8R d (zen k ep (d.l.drop p.i) p.rest p.out))) fun⟨rest,out,i⟩ ⟨hi,ho,hr⟩ L ih=> ?_;simp only at hi ho hr
 by_cases h0:i<d.l.length
 ·simp only;rw[zady h0,zen];have hp:=ziw d.l[i] ep
  by_cases c:(out.length:Int)<k/\¬d.l[i].epoch<ep
  ·rw[zacY c];rw[zadq c.2] at hp;have c1:=c.1;have i1:=ih ⟨rest,out++[d.l[i]],i+1⟩ ⟨by simp only;omega,by simp only[zac6,zadF];omega,by simp only;omega⟩ (by simp only;omega);clear ih c;simp only at i1;generalize t8R d (zen k ep (d.l.drop (i+1)) rest (out++[d.l[i]]))=R at *
   cases rest with
   | nil=>
    simp only[t8S,accC,zan,zgK,zX,zacZ,zadk,zadg,zac1] at *;simp only[zNr,zE] at i1;exact zS
   | cons r0 rs=>
    simp only[t8S,accC,zan,zgK,zX,zacZ,zadg,zac1,zadd,zadl,zadi,zac4] at *;simp only[zNr,zE] at i1;exact zS
  ·rw[zacX c];have i1:=ih ⟨rest++[d.l[i]],out,i+1⟩ ⟨by simp only;omega,by simp only;omega,by simp only[zac6,zadF];omega⟩ (by simp only;omega);clear ih;simp only at i1;generalize t8R d (zen k ep (d.l.drop (i+1)) (rest++[d.l[i]]) out)=R at *
   by_cases c1:(out.length:Int)<k
   ·have c2:d.l[i].epoch<ep:=by omega
    rw[zadn c2] at hp;clear c c2
    cases rest with
    | nil=>
     simp only[t8S,accC,zan,zgK,zX,zacZ,zadk,zadi,zadl,zadg,zac1,zac5] at *;simp only[zNr,zE] at i1;exact zS
    | cons r0 rs=>
     simp only[t8S,accC,zan,zgK,zX,zacZ,zadg,zac1,zadd,zadl,zadi,zac4,zac6,zac5] at *;simp only[zNr,zE] at i1;exact zS
   ·clear hp c
    cases rest with
    | nil=>
     simp only[t8S,accC,zan,zgK,zX,zacZ,zadk,zadi,zadl,zadg,zac1,zac5] at *;simp only[zNr,zE] at i1;exact zS
    | cons r0 rs=>
     simp only[t8S,accC,zan,zgK,zX,zacZ,zadg,zac1,zadd,zadl,zadi,zac4,zac6,zac5] at *;simp only[zNr,zE] at i1;exact zS
 ·clear ih;obtain rfl:i=d.l.length:=by omega
  simp only[zadI,zen,t8R]
  cases rest with
  | nil=>
   simp only[t8S,accC,zan,zgK,zX,zacZ,zadk] at *;exact zS
  | cons r0 rs=>
   simp only[t8S,accC,zan,zgK,zX,zac1,zadd,zadl,zadi,zac4] at *;exact zS
theorem zabF(d:zbw)(k ep:Int)(hL:d.l.length<=1000):zg G zpc [.d (zX d),.d (.int .i64 k),.d (.int .i64 ep)] []=some (.d (.tup [zX (zhJ d k ep).1,.sl ((zhJ d k ep).2.1.map zn),.int .i64 (zhJ d k ep).2.2]),[]):=by
 have hv:=znS d hL;have hlp:=zabD d k ep hL ⟨[],[],0⟩ ⟨by simp,by simp,by simp⟩;have hln:=zQV k ep d.l [] [];unfold zhJ;generalize zcI d=v at *;simp only[zadu] at hlp;generalize zen k ep d.l [] []=R at *;obtain⟨rest,out⟩:=R;simp only[t8R,t8S,accC,zan,zacZ,zadk,zac5,zado,zaek] at *
 by_cases c0:v=0
 ·subst c0;simp only[ne_eq,zac9,if_false]
  by_cases c1:k<0\/ep<0\/65536<ep
  ·rw[zacY c1];clear hlp;simp only[zX,zaW,zacZ] at *;exact zW zrT
  ·rw[zacX c1]
   cases rest with
   | nil=>
    simp only[zacZ,zadk,zX,zaW] at *;exact zW zrT
   | cons r0 rs=>
    simp only[zac1,zadl,zadi,zadd,zac4,zX,zaW] at *;exact zW zrT
 ·rw[zacY c0];clear hlp;simp only[zX,zaW,zacZ] at *;exact zW zrT
def c8S(d:zbw)(ep:Int)(rest:List zl)(i:Nat):St:=⟨[(1,.d (.int .i64 ep)),(2,.ref 2 0 0),(4,.ref 4 0 0),(8,.ref 8 0 0),(9,.d (.int .i64 i))],[(2,.row [.d (zX d)]),(4,.row [.agg [.d (.int .i64 0),.xsl []]]),(8,.row [.agg [.d (.int .i64 d.cap),accC 500049 (rest.map zn)]])]++zan 500049 (rest.map zn)⟩
def c8R(d:zbw)(rest:List zl):zac×St:=(.exit 0,⟨[(2,.ref 2 0 0),(4,.ref 4 0 0),(8,.ref 8 0 0)],[(2,.row [.d (zX d)]),(4,.row [.agg [.d (.int .i64 0),.xsl []]]),(8,.row [.agg [.d (.int .i64 d.cap),accC 500049 (rest.map zn)]])]++zan 500049 (rest.map zn)⟩)
theorem zS1(d:zbw)(ep:Int)(hl:d.l.length<=1000):∀p:List zl×Nat,(p.2<=d.l.length/\p.1.length<=p.2)->zai G [] zij (c8S d ep p.1 p.2)=some (c8R d (p.1++(d.l.drop p.2).filter fun m=> !decide (m.epoch<ep))):=by
 refine za3 (fun p:List zl×Nat=>d.l.length - p.2) (fun p:List zl×Nat=>(p.2<=d.l.length/\p.1.length<=p.2)) (fun p=>c8S d ep p.1 p.2) (fun p=>some (c8R d (p.1++(d.l.drop p.2).filter fun m=> !decide (m.epoch<ep)))) fun⟨rest,i⟩ ⟨hi,hr⟩ L ih=> ?_;simp only at hi hr
 by_cases h0:i<d.l.length
 ·simp only;rw[zady h0,zaen];have hp:=ziw d.l[i] ep
  by_cases c:d.l[i].epoch<ep
  ·rw[zadn c] at hp ⊢;simp only[zafF,zac8,if_false];have i1:=ih ⟨rest,i+1⟩ ⟨by simp only;omega,by simp only;omega⟩ (by simp only;omega);clear ih c;simp only at i1;generalize c8R d (rest++(d.l.drop (i+1)).filter fun m=> !decide (m.epoch<ep))=R at *
   cases rest with
   | nil=>
    simp only[c8S,accC,zan,zij,zX,zacZ,zadk] at *;simp only[zNr,zE] at i1;exact zS
   | cons r0 rs=>
    simp only[c8S,accC,zan,zij,zX,zac1,zadd,zadl,zadi,zac4] at *;simp only[zNr,zE] at i1;exact zS
  ·rw[zadq c] at hp ⊢;simp only[zafG,if_true];have i1:=ih ⟨rest++[d.l[i]],i+1⟩ ⟨by simp only;omega,by simp only[zac6,zadF];omega⟩ (by simp only;omega);clear ih c;simp only[zadK,zaeM] at i1;generalize c8R d (rest++d.l[i]::(d.l.drop (i+1)).filter fun m=> !decide (m.epoch<ep))=R at *
   cases rest with
   | nil=>
    simp only[c8S,accC,zan,zij,zX,zacZ,zadk,zadi,zadl,zadg,zac1,zac5] at *;simp only[zNr,zE] at i1;exact zS
   | cons r0 rs=>
    simp only[c8S,accC,zan,zij,zX,zacZ,zadg,zac1,zadd,zadl,zadi,zac4,zac6,zac5] at *;simp only[zNr,zE] at i1;exact zS
 ·clear ih;obtain rfl:i=d.l.length:=by omega
  simp only[zadI,zaeF,zadk,c8R]
  cases rest with
  | nil=>
   simp only[c8S,accC,zan,zij,zX,zacZ,zadk] at *;exact zS
  | cons r0 rs=>
   simp only[c8S,accC,zan,zij,zX,zac1,zadd,zadl,zadi,zac4] at *;exact zS
theorem zTr(d:zbw)(ep:Int)(hL:d.l.length<=1000):zg G zo8 [.d (zX d),.d (.int .i64 ep)] []=some (.d (.tup [zX (zhS d ep).1,.int .i64 (zhS d ep).2.1,.int .i64 (zhS d ep).2.2]),[]):=by
 have hv:=znS d hL;have hlp:=zS1 d ep hL ⟨[],0⟩ ⟨by simp,by simp⟩;have hln:=zaeh (fun m:zl=> !decide (m.epoch<ep)) d.l;unfold zhS;generalize zcI d=v at *;simp only[zadu,zadi] at hlp;generalize (d.l.filter fun m=> !decide (m.epoch<ep))=rest at *;simp only[c8R,c8S,accC,zan,zacZ,zadk,zac5,zado,zaek] at *
 by_cases c0:v=0
 ·subst c0;simp only[ne_eq,zac9,if_false]
  by_cases c1:ep<0\/65536<ep
  ·rw[zacY c1];clear hlp;simp only[zX,zaW,zacZ] at *;exact zW zrR
  ·rw[zacX c1]
   cases rest with
   | nil=>
    simp only[zacZ,zadk,zac5,zX,zaW] at *;exact zW zrR
   | cons r0 rs=>
    simp only[zac1,zadl,zadi,zadd,zac4,zX,zaW] at *;exact zW zrR
 ·rw[zacY c0];clear hlp;simp only[zX,zaW,zacZ] at *;exact zW zrR
theorem VS.lapse{n h:Nat}{L:List zl}{t:zT}{lo hi:Int}(v:VS n h L t lo hi){y:zN}(hy:y∈t.l):
    ∃t' h2 L',zap t y.msg.id=(t',y.msg,0)/\pbD (rg n h L) y.msg=(rg n h2 L',0)/\VS n h2 L' t' lo hi/\(y::t'.l).Perm t.l:=by
 obtain⟨t',r1,r2,r3⟩:=v.rel hy;have hmv:zaC y.msg=0:=((zfF t.l).1 (zhI v.2.2.2.2.2.2.2.2.1).2.1).2 _ hy |>.1;have hlen:=r3.length_eq;simp only[zac4] at hlen;obtain⟨h2,L',q1,q2,q3,q4⟩:=r2.back hmv (v.2.2.2.2.2.2.2.2.2.1 _ hy) (by have:=v.2.2.2.1;omega) (v.gone r3) y.msg.count;rw[<- zM4] at q1;have hr:(zap t y.msg.id).2.2=0:=by
  have c:(zaZ (mkS n h L t lo hi) y.msg.id).2.2=0:=by rw[r1]
  unfold zaZ at c
  split at c
  ·rename_i q;exact q
  ·exact c
 unfold zaZ at r1;rw[zacY (show (zap (mkS n h L t lo hi).leases y.msg.id).2.2=0 from hr)] at r1;have a1:=congrArg (fun p:zu×zl×Int=>p.1.leases) r1;have a2:=congrArg (fun p:zu×zl×Int=>p.2.1) r1;refine⟨t',h2,L',?_,q1,q2,r3⟩;change (zap t y.msg.id).1=t' at a1;change (zap t y.msg.id).2.1=y.msg at a2;rw[<- a1, <- a2, <- hr];exact Prod.ext rfl (Prod.ext (by simp only;rw[a2];exact a2) (by simp only;rw[a2]))
theorem zHI{n h:Nat}{L:List zl}{t:zT}{lo hi:Int}{y:zN}{t':zT}{h2:Nat}{L':List zl}(r1:zap t y.msg.id=(t',y.msg,0))(r2:pbD (rg n h L) y.msg=(rg n h2 L',0))(l:List Int):
    zc3 (y.msg.id::l) (mkS n h L t lo hi)=zc3 l (mkS n h2 L' t' lo hi):=by
 have hs:zaZ (mkS n h L t lo hi) y.msg.id=(mkS n h L t' lo hi,y.msg,0):=by
  unfold zaZ;rw[zacY (show (zap (mkS n h L t lo hi).leases y.msg.id).2.2=0 by rw[show (mkS n h L t lo hi).leases=t from rfl,r1])];rw[show (mkS n h L t lo hi).leases=t from rfl,r1];rfl
 rw[zc3,hs];simp only[ne_eq,zac9,if_false];rw[show (mkS n h L t' lo hi).ready=rg n h L from rfl,r2];simp only[zac9,if_false];rfl
structure E7 where
 h:Nat
 L:List zl
 t:zT
 i:Nat
def e7S(n:Nat)(lo hi:Int)(u:List Int)(p:E7):St:=⟨[(4,.ref 4 0 0),(8,.ref 8 0 0),(12,.d (.sl (zB u))),(13,.d (.int .i64 p.i))],[(4,.row [.d (zk (mkS n p.h p.L p.t lo hi))]),(8,.row [shZ])]⟩
def e7R(u:List Int)(x:zu×Int):zac×St:=(.exit 0,⟨[(4,.ref 4 0 0),(8,.ref 8 0 0),(12,.d (.sl (zB u)))],[(4,.row [.d (zk x.1)]),(8,.row [shZ])]⟩)
theorem zU2(n:Nat)(lo hi:Int)(u:List Int)(hu:u.length<=12):∀p:E7,(VS n p.h p.L p.t lo hi/\p.i<=u.length/\(∀id∈u.drop p.i,∃y∈p.t.l,y.msg.id=id)/\(u.drop p.i).Nodup)->zai G [] zsD (e7S n lo hi u p)=some (e7R u (zc3 (u.drop p.i) (mkS n p.h p.L p.t lo hi)))/\(zc3 (u.drop p.i) (mkS n p.h p.L p.t lo hi)).2=0:=by
 have key:∀p:E7,(VS n p.h p.L p.t lo hi/\p.i<=u.length/\(∀id∈u.drop p.i,∃y∈p.t.l,y.msg.id=id)/\(u.drop p.i).Nodup)->(zc3 (u.drop p.i) (mkS n p.h p.L p.t lo hi)).2=0:=by
  intro⟨h,L,t,i⟩ ⟨v,_,hm,hn⟩;simp only at *;generalize u.drop i=w at *
  induction w generalizing h L t with
  | nil=>rfl
  | cons id w ih=>
   obtain⟨y,hy,rfl⟩:=hm id (.head _);obtain⟨t',h2,L',r1,r2,r3,r4⟩:=v.lapse hy;rw[zHI r1 r2];rw[zad8] at hn;refine ih h2 L' t' r3 (fun id2 h2m=> ?_) hn.2;obtain⟨z,hz,ez⟩:=hm id2 (.tail _ h2m)
   rcases zadB.1 (r4.mem_iff.2 hz) with rfl|hz2
   ·exact absurd (ez ▸ h2m) hn.1
   ·exact⟨z,hz2,ez⟩
 intro p hp;refine⟨?_,key p hp⟩;revert p;refine za3 (fun p:E7=>u.length - p.i) (fun p:E7=>(VS n p.h p.L p.t lo hi/\p.i<=u.length/\(∀id∈u.drop p.i,∃y∈p.t.l,y.msg.id=id)/\(u.drop p.i).Nodup)) (e7S n lo hi u) (fun p=>some (e7R u (zc3 (u.drop p.i) (mkS n p.h p.L p.t lo hi)))) fun⟨h,L,t,i⟩ hp LL ih=> ?_;obtain⟨v,hi1,hm,hn⟩:=hp;simp only at v hi1 hm hn
 by_cases h0:i<u.length
 ·have hd:=zady h0;simp only;rw[hd] at hm hn ⊢;rw[zad8] at hn;obtain⟨y,hy,ey⟩:=hm u[i] (.head _);obtain⟨t',h2,L',r1,r2,r3,r4⟩:=v.lapse hy;have i1:=ih ⟨h2,L',t',i+1⟩ ⟨r3,by simp only;omega,fun id2 h2m=>by
   simp only at h2m;obtain⟨z,hz,ez⟩:=hm id2 (.tail _ h2m)
   rcases zadB.1 (r4.mem_iff.2 hz) with rfl|hz2
   ·exact absurd (by rw[<- ey,ez];exact h2m) hn.1
   ·exact⟨z,hz2,ez⟩,hn.2⟩ (by simp only;omega)
  have tl:=zjJ v.2.2.2.2.2.2.2.2.1;have c1:=zte t y.msg.id zo zo;have c2:=ztd (rg n h L) y.msg (by have:=v.lens.1;show (mkS n h L t lo hi).ready.cells.length<=_;omega);rw[<- ey,zHI r1 r2];rw[r1] at c1;rw[r2] at c2;rw[ey] at c1;clear ih hm hn hd v r1 r2 r3 r4 tl;simp only at i1;generalize e7R u (zc3 (u.drop (i+1)) (mkS n h2 L' t' lo hi))=R at *;simp only[e7S,mkS,zsD] at *;generalize rg n h2 L'=ra at *;generalize rg n h L=rb at *;generalize y.msg=m at *;obtain⟨c2',hh2,z2⟩:=ra;obtain⟨c1',hh1,z1⟩:=rb;obtain⟨tl1,th1⟩:=t;obtain⟨tl2,th2⟩:=t';clear hy ey;simp only[zk,zaJ,zau,zn,shZ] at *;simp only[zNr,zE] at i1;exact zS
 ·clear ih;obtain rfl:i=u.length:=by omega
  simp only[zadI,zc3,e7R,e7S,zsD];generalize mkS n h L t lo hi=s at *;simp only[zk,shZ] at *;exact zS
theorem zacr{t:zT}(h:zaA t=0)(now:Int):(zdb t.heap now).Nodup:=by
 obtain⟨q1,q2,q3,q4⟩:=(zd2 t).1 h;unfold zdb;rw[zacY ((zf0 _).2 q3)];have hp:=(zlq t.heap 1 (fun p q hp hq=>by omega)).2;unfold zkf;have hn:(t.heap.map (·.2)).Nodup:=by
  have h1:=(q4.map (·.2)).nodup_iff.2;apply h1;rw[zadV];rw[zafy,zaf7];exact (zik q2).imp (fun h=>by show _≠_;unfold zbO;simp only[Function.comp];omega)
 have h2:((zgX t.heap 1).map (·.2)).Nodup:=(hp.map (·.2)).nodup_iff.2 hn;exact h2.sublist ((List.filter_sublist).map _)
theorem zZI(t:zT)(now ep:Int):(zdS t now ep).Nodup:=by
 unfold zdS
 split
 ·rename_i h;exact (zacr h now).sublist List.filter_sublist
 ·exact zafJ
theorem zZH{t:zT}{now ep id:Int}(h:id∈zdS t now ep):∃y∈t.l,y.msg.id=id:=by
 unfold zdS at h
 split at h
 ·rename_i ht;obtain⟨x,hx,e,_⟩:=(zRj ht now id).1 (zaew.1 h).1;exact⟨x,hx,e⟩
 ·cases h
theorem zHK(s:zu)(now ep lim:Int)(q:zbn s):zg G zoQ [.d (zk s),.d (.int .i64 now),.d (.int .i64 ep),.d (.int .i64 lim)] []=some (.d (.tup [zk (zc2 s now ep lim).1,.sl (zB (zc2 s now ep lim).2.1),.int .i64 (zc2 s now ep lim).2.2]),[]):=by
 have hv:=zfi s q.1 q.2.1 q.2.2;have h1:=zkg ep;have h2:=zss lim;have h3:=ztX now;unfold zc2
 by_cases c0:zal s=0
 ·have hus:∀b,usE s b=if b=true then 0 else 1:=fun b=>by unfold usE;rw[zacX (fun z=>z c0)]
  rw[hus];clear hus;have hb:=zgN c0;have hl:s.live=true:=by
   unfold zal at c0;rw[zacX (fun q=>q hb)] at c0
   split at c0
   ·assumption
   ·cases c0
  obtain⟨n,h',e,v⟩:=zf1 hb hl;have hle:=zci hb;have hla:=z8f s.leases now ep (by have:=hle.2.1;omega) (by have:=hle.2.2;omega);have hu:=zMa s.leases now ep;have hlp:=zU2 n s.low s.high (zdS s.leases now ep) hu ⟨h',zI s.ready,s.leases,0⟩ ⟨v,by simp,fun id hid=>zZH (by simpa using hid),by simpa using zZI s.leases now ep⟩;simp only[zadu] at hlp;rw[<- e] at hlp;obtain⟨hlp,hz⟩:=hlp;rw[hz];simp only[if_true];unfold e7S e7R at hlp;simp only at hlp;rw[<- e] at hlp;rw[c0] at hv;clear c0 hb hz v e hle hl;generalize (zc3 (zdS s.leases now ep) s).1=R at *;generalize zdS s.leases now ep=u at *;generalize tiQ now=b1 at *;generalize epQ ep=b2 at *;generalize liQ lim=b3 at *;simp only[zk,zaJ,shZ,zP,zaP,zax,zacZ,zB,zado] at *
  cases b1
  ·clear hlp;simp only[zadO,zac8,if_false,ne_eq,zadw,if_true,Int.reduceEq]
   cases b2
   ·exact zW zja
   cases b3
   ·exact zW zja
   ·exact zW zja
  cases b2
  ·clear hlp;simp only[zadO,zael,zac8,if_false,ne_eq,zadw,if_true,Int.reduceEq];exact zW zja
  cases b3
  ·clear hlp;simp only[zael,zac8,if_false,ne_eq,zadw,if_true,Int.reduceEq];exact zW zja
  ·simp only[zaei,if_true,ne_eq,zac9,if_false] at *;exact zW zja
 ·have hus:∀b,usE s b=zal s:=fun b=>by unfold usE;rw[zacY c0]
  rw[hus,zacY c0];clear hus;generalize zal s=v at *;simp only[zk,zP,zaP,zax,zacZ,zB] at *;exact zW zja
end Go.Proofs.YtdnlddoeamjcoaaGreat
