/-
  A receive decides.
-/
import Derived.Test.YtjalkkalhdnplaaGreatB907f86f
import Derived.Test.YtjalkkalhdnplaaGreatBae8e4d4
set_option linter.unusedSimpArgs false
set_option linter.unusedVariables false
set_option maxHeartbeats 10000000
set_option maxRecDepth 100000
namespace Go.Proofs.YtjalkkalhdnplaaGreat
open Go Go.Sim
theorem zG2{i:zaS}{u:Setup}(h:zb4 i u=0):1<=zc3 i/\zc3 i<=6:=by
 unfold zc3;unfold zb4 at h
 by_cases c:i.kind=1
 ·rw[zWz c] at h ⊢
  split at h
  ·cases h
  ·omega
 ·rw[zWy c] at h ⊢
  by_cases c2:i.kind=2\/i.kind=8
  ·rw[zWy zo];omega
  ·rw[zWy c2] at h
   by_cases c3:3<=i.kind/\i.kind<=5
   ·rw[zWz c3] at h ⊢
    split at h
    ·cases h
    ·omega
   ·rw[zWy c3];omega
theorem zis{u:Setup}{N:Int}{t:zi}(h:TI u N t)(hd:t.done=false):(0<=t.entry/\t.entry<=1000)/\t.results.length<=1000:=by
 have h1:=zG2 h.iv;have h2:=h.e0;have h3:=h.e1 hd;have h4:=h.e2;omega
theorem zTS(a:zg)(t:zi)(n:Int)(h:zX t 1 1≠0):zh G 100 [.d (zn a),.d (zd t),.d (.int .i64 n)] []=some (.d (.tup [zn zB,zd zC,.sl [],.int .i64 (zX t 1 1)]),[]):=by
 have hg:=zfj t 1 1;have hf:=zdH (zX t 1 1);generalize zX t 1 1=ge at *;have sz_zTask:=zE zC;generalize zd zC=D_zTask at *;have sz_t:=zE t;generalize zd t=D_t at *;have sz_zArena:=zbj zB;generalize zn zB=D_zArena at *;exact zW
theorem zTV{K:Tok}(hK:zha K){u:Setup}{a:zg}{t:zi}{n N:Int}(hu:zav u=true)(ha:AI u a)(ht:TI u N t)(hN:N<=999999):zh G 100 [.d (zn a),.d (zd t),.d (.int .i64 n)] []=some (.d (.tup [zn (zdp K a t n).1,zd (zdp K a t n).2.1,.sl ((zdp K a t n).2.2.1.map zad),.int .i64 (zdp K a t n).2.2.2]),[]):=by
 unfold zdp
 by_cases c0:zX t 1 1=0
 rotate_left
 ·rw[zWz c0];exact zTS a t n c0
 rw[zWy (fun q=>q c0)];have hg:=zfj t 1 1;rw[c0] at hg;obtain⟨g1,g2⟩:=zcR c0;have hen:=zis ht g1;have he1:=ht.e1 g1;clear g1;have hld:=ht.ld;have hwk:=ht.wk
 by_cases c1:t.pc=0
 ·rw[zWz c1];have hw:=zkm a 3;simp only[zgP,if_true,Int.reduceEq,if_false] at hw
  by_cases c2:a.nextID=1073741824
  ·rw[zWz c2];have hv:=znu { t with loaded:=a.nextID } 2 n;have hn1:=zfn { t with loaded:=a.nextID } (za2 6) n hen.1 hen.2;generalize zaY { t with loaded:=a.nextID } (za2 6) n=t2 at *;have sz_t2:=zE t2;generalize zd t2=D_t2 at *;replace c1:=zWN c1;replace c2:=zWN c2;clear ht ha hu;simp only[zd,za2,zZ,z5,evT,zbT,zWA,zWD,zad] at *;exact zW
  ·rw[zWy c2];replace c1:=zWN c1;replace c2:=zWE c2;clear ht ha hu;simp only[zd] at *;exact zW
 rw[zWy c1]
 by_cases c2:t.pc=1
 ·rw[zWz c2];have hc:=zxC a 3 t.loaded (t.loaded+1);have hf:=zdH (casWord a 3 t.loaded (t.loaded+1)).2.2;have hrt:=hK.rt t.loaded;have hwb:=zCY (K.route t.loaded);generalize K.route t.loaded=rt at *;generalize zg6 rt=wb at *;obtain⟨wb,we⟩:=wb;generalize casWord a 3 t.loaded (t.loaded+1)=c at *;obtain⟨x1,x2,x3⟩:=c;replace c2:=zWN c2;replace c1:=zWE c1;clear ht ha hu;simp only at *
  by_cases c4:x3=0
  ·subst c4;clear hf;simp only[ne_eq,zWR,if_false] at *
   cases x2
   ·simp only[zWL,if_false] at *;simp only[zd,zc2] at *;exact zW
   ·simp only[if_true] at *;simp only[zd,zc2] at *;exact zW
  ·rw[zWz c4];unfold zbM;have sz_zTask:=zE zC;generalize zd zC=D_zTask at *;have sz_zArena:=zbj zB;generalize zn zB=D_zArena at *;simp only[zd,zc2] at *;exact zW
 rw[zWy c2]
 by_cases c3:t.pc=2
 ·rw[zWz c3];have hlk:=zrG a t t.walk.next 3 (by have:=zfB ha.dv;omega);generalize zho a t t.walk.next 3=t2 at *;have sz_t2:=zE t2;generalize zd t2=D_t2 at *;replace c3:=zWN c3;replace c2:=zWE c2;replace c1:=zWE c1;clear ht ha hu;simp only[zd] at *;exact zW
 rw[zWy c3];have k4:=ht.se ⟨c1,by omega⟩;have hgo:=zlB a t n (zmD hu ha k4.si zo);have hgk:=zgi (n:=n) ha k4;simp only;generalize goT a t n=g at *;obtain⟨a2,t2,b1,b2,e⟩:=g;simp only at *
 by_cases c4:e=0
 rotate_left
 ·rw[zWz c4];have hf:=zdH e;unfold zbM;clear hgk ht ha hu k4;replace c3:=zWE c3;replace c2:=zWE c2;replace c1:=zWE c1;have sz_zTask:=zE zC;generalize zd zC=D_zTask at *;have sz_zArena:=zbj zB;generalize zn zB=D_zArena at *;have sz_t2:=zE t2;generalize zd t2=D_t2 at *;have sz_a2:=zbj a2;generalize zn a2=D_a2 at *;simp only[zd] at *;exact zW
 subst c4;simp only[ne_eq,zWR,if_false];obtain⟨h1,s,h2,h3,h4⟩:=hgk rfl;have hen2:t2.entry=t.entry/\t2.results=t.results/\t2.inv=t.inv/\t2.walk=t.walk/\t2.sec=s:=by rw[h2];exact⟨rfl,rfl,rfl,rfl,rfl⟩
 obtain⟨q1,q2,q3,q4,q5⟩:=hen2
 cases b1
 rotate_left
 ·simp only[if_true];have hp:s.phase=4:=h4.1 rfl;have hk:=(zgZ h3 ht.iv (.inl hp)).1 zo;have hd:=zTP hK (t:=t2) (by rw[q5];exact h3.si) (by rw[q5];exact hk) (by rw[q4];exact ht.wk) (by
   rw[q1,q3];refine⟨ht.e0,?_⟩;unfold zc3 at he1
   rwa [zWz zo] at he1)
  generalize zc9 K t2=r at *;obtain⟨t3,l⟩:=r;clear ht ha hu k4 h1 h2 h3 h4 q1 q2 q3 q4 q5 hp hk he1;replace c3:=zWE c3;replace c2:=zWE c2;replace c1:=zWE c1;simp only at *;have sz_t2:=zE t2;generalize zd t2=D_t2 at *;have sz_t3:=zE t3;generalize zd t3=D_t3 at *;simp only[zd] at *;exact zW
 ·simp only[zWL,if_false]
  cases b2
  ·simp only[if_true];clear ht ha hu k4 h1 h2 h3 h4 q1 q2 q3 q4 q5;replace c3:=zWE c3;replace c2:=zWE c2;replace c1:=zWE c1;have sz_t2:=zE t2;generalize zd t2=D_t2 at *;simp only[zd] at *;exact zW
  ·simp only[zXB,if_false];have hn1:=zfn t2 { z5 with id:=t2.id } n (by rw[q1];exact hen.1) (by rw[q2];exact hen.2);have hn2:=zfn t2 (za2 3) n (by rw[q1];exact hen.1) (by rw[q2];exact hen.2);clear ht ha hu k4 h1 h2 h3 h4 q1 q2 q3 q4 q5;replace c3:=zWE c3;replace c2:=zWE c2;replace c1:=zWE c1
   by_cases d1:t2.loaded=1
   ·rw[zWz d1];clear hn2;generalize zaY t2 { z5 with id:=t2.id } n=t3 at *;have sz_t3:=zE t3;generalize zd t3=D_t3 at *;replace d1:=zWN d1;simp only[zd,zZ,z5,zWA] at *;exact zW
   rw[zWy d1]
   by_cases d2:t2.loaded=2
   ·rw[zWz d2];clear hn1;generalize zaY t2 (za2 3) n=t3 at *;have sz_t3:=zE t3;generalize zd t3=D_t3 at *;replace d1:=zWE d1;replace d2:=zWN d2;simp only[zd,zZ,za2,z5,zWA] at *;exact zW
   ·rw[zWy d2];clear hn1 hn2;replace d1:=zWE d1;replace d2:=zWE d2;simp only[zd] at *;exact zW
theorem zFL(r:zR)(k:Int)(hL:r.cells.length<=4294967296):zh G 280 [.d (z6 r),.d (.int .i64 k)] []=some (.d (.tup [z6 (zeN r k).1,.sl ((zeN r k).2.1.map zk),.int .i64 (zeN r k).2.2]),[]):=by
 have hv:=zkG r hL;unfold zeN
 by_cases c0:zaI r=0
 ·rw[zWy (fun q=>q c0)];rw[c0] at hv;obtain⟨c,h,z,rfl,h1,h2,h3,h4⟩:=zmz (zcV c0)
  by_cases c1:k<0\/(z:Int)<k
  ·rw[zWz c1];simp only[z6,zar,zWA] at *;exact zW
  ·rw[zWy c1];have ho:=zjj c h z h2 h3 h4;have hz:(zaM c h z).length=z:=zjh c h z;have hw:=zpo c h z h ((zaM c h z).take (z - k.toNat)) h1 h2 zo (by rw[zXY];omega);rw[zie];rw[hz];simp only[rg,zXb];generalize zaM c h z=w at *;generalize hl:wN c.length h (w.take (z - k.toNat)) (w.take (z - k.toNat)).length=w2 at *;have hlen:(w.take (z - k.toNat)).length=z - k.toNat:=by rw[zXY];omega
   rw[hlen] at hw ⊢;have e2:((z - k.toNat:Nat):Int)=z - k:=by omega
   rw[e2] at hw ⊢;have e3:z - k.toNat=((z:Int) - k).toNat:=by omega
   rw[e3] at hw ⊢;clear c0 hl hlen e2 e3;simp only[z6] at *;rw[hz] at ho
   try simp only[zNr,zp] at hw
   exact zW
 ·rw[zWz c0];generalize zaI r=v at *;simp only[z6,zar,zWA] at *;exact zW
theorem zFM(s:Shard)(k:Int)(q:zbc s):zh G 232 [.d (zj s),.d (.int .i64 k)] []=some (.d (.tup [zj (zeO s k).1,.sl ((zeO s k).2.1.map zk),.int .i64 (zeO s k).2.2]),[]):=by
 have hl:=zfl s q.1 q.2.1 q.2.2;have hd:=zFL s.ready k q.1;unfold zeO;generalize zaa s=v at *;generalize zeN s.ready k=d at *;obtain⟨r,l,e⟩:=d
 by_cases c0:v=0
 ·subst c0;simp only[ne_eq,zWR,if_false]
  by_cases c1:e=0
  ·subst c1;simp only[zj,z6] at *;exact zW
  ·rw[zWz c1];simp only[zj,z6,zw,zar,zac,zWA] at *;exact zW
 ·rw[zWz c0];clear hd;simp only[zj,z6,zw,zar,zac,zWA] at *;exact zW
theorem zBR(m:Message)(lo hi:Int):zh G 229 [.d (zk m),.d (.int .i64 lo),.d (.int .i64 hi)] []=some (.d (zk (zcf m lo hi)),[]):=by
 have h:=zz8 m.route lo hi;unfold zcf;simp only[zk] at *;exact zW
theorem zSl(m:Message):zh G 228 [.d (zk m)] []=some (.d (zk (zbN m)),[]):=by
 unfold zbN;simp only[zk] at *;exact zW
def ziA(l:List Message)(s:Shard)(i:Nat):St:=⟨[(1,.d (.sl (l.map zk))),(2,.ref 2 0 0),(4,.ref 4 0 0),(7,.d (.int .i64 i))],[(2,.row [.d (zj s)]),(4,.row [shZ])]⟩
def zjF(x:Shard×Int):zT×St:=if x.2=0 then (.exit 0,⟨[(2,.ref 2 0 0),(4,.ref 4 0 0)],[(2,.row [.d (zj x.1)]),(4,.row [shZ])]⟩) else (.ret,⟨[(4,.ref 4 0 0),(5,.d (.int .i64 x.2))],[(4,.row [shZ])]⟩)
theorem zQ5{s:Shard}{m:Message}(h:(zcK s m).2=0):(zcK s m).1.low=s.low/\(zcK s m).1.high=s.high:=by
 unfold zcK at h ⊢
 by_cases c1:zaa s≠0
 ·rw[zWz c1] at h;exact absurd h c1
 rw[zWy c1] at h ⊢
 by_cases c2:zak m≠0
 ·rw[zWz c2] at h;exact absurd h c2
 rw[zWy c2] at h ⊢
 by_cases c3:¬(s.low<=m.route/\m.route<=s.high)
 ·rw[zWz c3] at h;cases h
 rw[zWy c3] at h ⊢
 by_cases c4:s.ready.size+s.leases.l.length=s.ready.cells.length
 ·rw[zWz c4] at h;cases h
 rw[zWy c4] at h ⊢
 split at h
 ·cases h
 ·rename_i c5;rw[zWy c5];exact⟨rfl,rfl⟩
theorem zDc(l:List Message)(hl:l.length<=1000)(lo hi:Int):∀p:Shard×Nat,p.2<=l.length/\zaK p.1/\p.1.low=lo/\p.1.high=hi->zN G [] zlT (ziA l p.1 p.2)=some (zjF (zee lo hi (l.drop p.2) p.1)):=by
 refine zaB (fun p=>l.length - p.2) (fun p:Shard×Nat=>p.2<=l.length/\zaK p.1/\p.1.low=lo/\p.1.high=hi) (fun p=>ziA l p.1 p.2) (fun p=>some (zjF (zee lo hi (l.drop p.2) p.1))) fun⟨s,i⟩ ⟨hi1,hs,e1,e2⟩ L ih=> ?_;simp only at hi1 hs e1 e2
 by_cases h0:i<l.length
 ·simp only;rw[zXf h0,zee];have hr:=zBR l[i] lo hi;have hp:=zBu s (zcf l[i] lo hi) (zf4 hs)
  by_cases c:(zcK s (zcf l[i] lo hi)).2=0
  ·rw[zWy (fun q=>q c)];have hsp:=zQ5 c;have i1:=ih ⟨(zcK s (zcf l[i] lo hi)).1,i+1⟩ ⟨by simp only;omega,zlO hs _,by rw[hsp.1];exact e1,by rw[hsp.2];exact e2⟩ (by simp only;omega);clear ih hsp;simp only at i1;generalize zee lo hi (l.drop (i+1)) (zcK s (zcf l[i] lo hi)).1=R at *;generalize zcK s (zcf l[i] lo hi)=p at *;generalize zcf l[i] lo hi=m at *;obtain⟨s2,e⟩:=p;subst e1 e2;simp only[ziA,zlT] at *;subst c;generalize zjF R=R2 at *;simp only[zj,shZ] at *;simp only[zNr,zp] at i1;exact zS
  ·rw[zWz c];clear ih;generalize zcK s (zcf l[i] lo hi)=p at *;generalize zcf l[i] lo hi=m at *;obtain⟨s2,e⟩:=p;subst e1 e2;simp only[ziA,zjF,zlT] at *;rw[zWy c];simp only[zj,shZ] at *;exact zS
 ·clear ih;obtain rfl:i=l.length:=by omega
  simp only[zXp,zee,zjF,ziA,zlT,if_true];simp only[zj,shZ] at *;exact zS
theorem zDd{lo hi:Int}:∀(l:List Message) (s:Shard),(zee lo hi l s).2≠0->(zee lo hi l s).1=zw:=by
 intro l
 induction l with
 | nil=>intro s h;exact absurd rfl h
 | cons m l ih=>
  intro s h;rw[zee] at h ⊢
  split at h
  ·rename_i c;rw[zWz c]
  ·rename_i c;rw[zWy c];exact ih _ h
theorem zmM{s:Shard}(h:zV s=0):0<=zbl s/\zbl s<=24:=by
 have h1:=zbv h;unfold zbl;rw[zWz h];unfold zV at h
 split at h
 ·rename_i c;exact absurd h c
 ·rename_i c;obtain⟨a1,a2,a3,a4,a5,a6⟩:=zcV (zWO.1 c);have:=h1.1;have:=h1.2.1;omega
theorem ztv(s:Shard)(l:List Message)(q:zbc s)(hl:l.length<=1000):zh G 230 [.d (zj s),.d (.sl (l.map zk))] []=some (.d (.tup [zj (zfx s l).1,.int .i64 (zfx s l).2]),[]):=by
 have hv:=zfl s q.1 q.2.1 q.2.2;have hst:=zhC s q;unfold zfx
 by_cases c0:zaa s=0
 ·rw[zWy (fun z=>z c0)];have hb:=zgR c0;have h12:=zbv hb;have hb2:=zmM hb;have hlp:=zDc l hl s.low s.high ⟨s,0⟩ ⟨by simp,h12,rfl,rfl⟩;have her:=zDd (lo:=s.low) (hi:=s.high) l s;rw[c0] at hv;clear c0;simp only[zXg] at hlp;generalize zee s.low s.high l s=R at *;generalize zbl s=sd at *;have h1:=h12.1;clear h12 hb;obtain⟨s2,e⟩:=R;unfold zjF at hlp;simp only at *
  by_cases c1:(s.ready.cells.length:Int) - sd<l.length
  ·rw[zWz c1];clear hlp;simp only[zj,zw,zar,zac,zWA] at *;exact zW
  ·rw[zWy c1]
   by_cases c2:e=0
   ·subst c2;simp only[ziA,shZ,if_true] at *;simp only[zj,zWV] at *;exact zW
   ·rw[zWy c2] at hlp;have q1:=her c2;subst q1;clear her;simp only[ziA,shZ] at *;simp only[zj,zWV,zw,zar,zac,zWA] at *;exact zW
 ·rw[zWz c0];clear hst;generalize zaa s=v at *;simp only[zj,zw,zar,zac,zWA] at *;exact zW
theorem zim{s:Shard}(h:zV s=0):zaI s.ready=0:=by
 unfold zV at h
 split at h
 ·rename_i c;exact absurd h c
 ·rename_i c;exact zWO.1 c
def ziI(s:Shard)(l:List Message)(k ep lim:Int)(r:zR)(out:List Message)(i:Nat):St:=⟨[(1,.d (.int .i64 k)),(2,.d (.int .i64 ep)),(3,.d (.int .i64 lim)),(4,.ref 4 0 0),(8,.ref 8 0 0),(12,.acc 12 (out.map zk)),(13,.d (.sl (l.map zk))),(14,.d (.int .i64 i))],[(4,.row [.d (zj { s with ready:=r })]),(8,.row [shZ]),(12,.acc out.length)]⟩
def ziH(s:Shard)(x:zR×List Message):zT×St:=(.exit 0,⟨[(4,.ref 4 0 0),(8,.ref 8 0 0),(12,.acc 12 (x.2.map zk))],[(4,.row [.d (zj { s with ready:=x.1 })]),(8,.row [shZ]),(12,.acc x.2.length)]⟩)
theorem zD9(s:Shard)(l:List Message)(k ep lim:Int)(hl:l.length<=12):∀p:zR×List Message×Nat,p.2.2<=l.length/\p.1.cells.length<=12/\p.2.1.length<=p.2.2->zN G [] zke (ziI s l k ep lim p.1 p.2.1 p.2.2)=some (ziH s (zdD k ep lim (l.drop p.2.2) p.1 p.2.1)):=by
 refine zaB (fun p=>l.length - p.2.2) (fun p:zR×List Message×Nat=>p.2.2<=l.length/\p.1.cells.length<=12/\p.2.1.length<=p.2.2) (fun p=>ziI s l k ep lim p.1 p.2.1 p.2.2) (fun p=>some (ziH s (zdD k ep lim (l.drop p.2.2) p.1 p.2.1))) fun⟨r,out,i⟩ ⟨hi1,hr,ho⟩ L ih=> ?_;simp only at hi1 hr ho
 by_cases h0:i<l.length
 ·simp only;rw[zXf h0,zdD]
  by_cases c0:¬(out.length:Int)<k
  ·rw[zWz c0];clear ih;simp only[ziI,ziH,zke,zj,shZ] at *;exact zS
  ·rw[zWy c0];have hp:=zig l[i] ep;have hs:=zpb l[i] lim
   by_cases c1:lim<=l[i].count/\¬l[i].epoch<ep
   ·rw[zWz c1];rw[zWY c1.1] at hs;rw[zW0 c1.2] at hp;have hm:=zsm r l[i].id zo;have hc:=zoY r l[i].id;have i1:=ih ⟨(rmD r l[i].id).1,out++[l[i]],i+1⟩ ⟨by simp only;omega,by simp only;omega,by simp only[zWJ,zW6];omega⟩ (by simp only;omega);clear ih c1;simp only at i1;generalize zdD k ep lim (l.drop (i+1)) (rmD r l[i].id).1 (out++[l[i]])=R at *;generalize ziH s R=R2 at *;generalize rmD r l[i].id=q at *;obtain⟨⟨qc,qh,qz⟩,qm,qe⟩:=q;obtain⟨rc,rh,rz⟩:=r;simp only[ziI,zke,zj,z6,zk,shZ,zWQ,zWD,zWA] at *;simp only[zNr,zp] at i1;have zk0:=zk.eq_1;exact zS
   ·rw[zWy c1];have i1:=ih ⟨r,out,i+1⟩ ⟨by simp only;omega,hr,by simp only;omega⟩ (by simp only;omega);clear ih;simp only at i1;generalize zdD k ep lim (l.drop (i+1)) r out=R at *;generalize ziH s R=R2 at *;simp only[ziI,zke,zj,zk,shZ] at *;simp only[zNr,zp] at i1
    by_cases c2:lim<=l[i].count
    ·rw[zWY c2] at hs;have c3:l[i].epoch<ep:=by omega
     rw[zWY c3] at hp;clear c1 c2 c3;have zk0:=zk.eq_1;exact zS
    ·rw[zW0 c2] at hs;clear c1 c2;have zk0:=zk.eq_1;exact zS
 ·clear ih;obtain rfl:i=l.length:=by omega
  simp only[zXp,zdD,ziH,ziI,zke];simp only[zj,shZ] at *;exact zS
theorem zEb(s:Shard)(k ep lim:Int)(q:zbc s):zh G 247 [.d (zj s),.d (.int .i64 k),.d (.int .i64 ep),.d (.int .i64 lim)] []=some (.d (.tup [zj (zeJ s k ep lim).1,.sl ((zeJ s k ep lim).2.1.map zk),.int .i64 (zeJ s k ep lim).2.2]),[]):=by
 have hv:=zfl s q.1 q.2.1 q.2.2;have h1:=zj0 ep;have h2:=znX lim;unfold zeJ
 by_cases c0:zaa s=0
 ·rw[zWy (fun z=>z c0)];have hb:=zgR c0;have hr:=zim hb;have h12:=zhu hb;have hrd:=zjp hr;have hlp:=zD9 s (zu s.ready) k ep lim h12 ⟨s.ready,[],0⟩ ⟨by simp,(zbv hb).1,by simp⟩;rw[c0] at hv;clear c0 hb hr h12;simp only[zXg] at hlp;generalize zdD k ep lim (zu s.ready) s.ready []=R at *;generalize zu s.ready=w at *;generalize epQ ep=b1 at *;generalize liQ lim=b2 at *;obtain⟨⟨rc,rh,rz⟩,out⟩:=R;simp only[ziI,ziH,zj,shZ,zw,zar,zac,zWA,zWK,zWV] at *
  cases b1
  ·clear hlp;simp only[zYP,if_true];exact zW
  cases b2
  ·clear hlp;simp only[zYP,or_true,if_true];exact zW
  ·by_cases c2:k<0
   ·clear hlp;simp only[c2,or_true,if_true];exact zW
   ·simp only[c2,zXB,or_self,if_false];exact zW
 ·rw[zWz c0];generalize zaa s=v at *;simp only[zj,zw,zar,zac,zWA] at *;exact zW
def zjS(s:Shard)(l x:List Message)(ep n:Int)(r:zR)(i:Nat):St:=⟨[(1,.d (.int .i64 ep)),(2,.ref 2 0 0),(4,.ref 4 0 0),(8,.d (.int .i64 n)),(9,.d (.sl (l.map zk))),(10,.d (.sl (x.map zk))),(11,.d (.int .i64 i))],[(2,.row [.d (zj { s with ready:=r })]),(4,.row [shZ])]⟩
def cnP(ep:Int)(l:List Message):Nat:=(l.filter fun m=>decide (m.epoch<ep)).length
theorem zES(ep:Int)(m:Message)(l:List Message):cnP ep (m::l)=(if m.epoch<ep then 1 else 0)+cnP ep l:=by
 unfold cnP;rw[zX3]
 by_cases c:m.epoch<ep
 ·rw[zWz (by simpa using c),zWz c,zWI];omega
 ·rw[zWy (by simpa using c),zWy c];omega
theorem zEI(s:Shard)(l x:List Message)(ep:Int)(hl:l.length<=12):∀p:Int×zR×Nat,(p.2.2<=l.length/\p.2.1.cells.length<=12/\0<=p.1/\p.1<=p.2.2)->zN G [] zlU (zjS s l x ep p.1 p.2.1 p.2.2)=some (.exit 0,⟨[(1,.d (.int .i64 ep)),(2,.ref 2 0 0),(4,.ref 4 0 0),(8,.d (.int .i64 (p.1+cnP ep (l.drop p.2.2)))),(10,.d (.sl (x.map zk)))],[(2,.row [.d (zj { s with ready:=rmP ep (l.drop p.2.2) p.2.1 })]),(4,.row [shZ])]⟩):=by
 refine zaB (fun p=>l.length - p.2.2) (fun p:Int×zR×Nat=>(p.2.2<=l.length/\p.2.1.cells.length<=12/\0<=p.1/\p.1<=p.2.2)) (fun p=>zjS s l x ep p.1 p.2.1 p.2.2) (fun p=>_) fun⟨n,r,i⟩ ⟨hi1,hr,hn0,hn1⟩ L ih=> ?_;simp only at hi1 hr hn0 hn1
 by_cases h0:i<l.length
 ·have hp:=zig l[i] ep;simp only;rw[zXf h0,rmP,zES]
  by_cases c:l[i].epoch<ep
  ·rw[zWz c,zWz c];rw[zWY c] at hp;have hm:=zsm r l[i].id zo;have hc:=zoY r l[i].id;have i1:=ih ⟨n+1,(rmD r l[i].id).1,i+1⟩ ⟨by simp only;omega,by simp only;omega,by simp only;omega,by simp only;omega⟩ (by simp only;omega);clear ih c;simp only at i1;rw[show n+((1+cnP ep (l.drop (i+1)):Nat):Int)=n+1+(cnP ep (l.drop (i+1)):Nat) by omega];generalize rmP ep (l.drop (i+1)) (rmD r l[i].id).1=R at *;generalize n+1+((cnP ep (l.drop (i+1)):Nat):Int)=N at *;generalize rmD r l[i].id=q at *;obtain⟨⟨qc,qh,qz⟩,qm,qe⟩:=q;obtain⟨rc,rh,rz⟩:=r;simp only[zjS,zlU,zj,z6,zk,shZ] at *;simp only[zNr,zp] at i1;have zk0:=zk.eq_1;exact zS
  ·rw[zWy c,zWy c];rw[zW0 c] at hp;have i1:=ih ⟨n,r,i+1⟩ ⟨by simp only;omega,hr,hn0,by simp only;omega⟩ (by simp only;omega);clear ih c;simp only at i1;rw[zW4];generalize rmP ep (l.drop (i+1)) r=R at *;generalize n+((cnP ep (l.drop (i+1)):Nat):Int)=N at *;simp only[zjS,zlU,zj,zk,shZ] at *;simp only[zNr,zp] at i1;have zk0:=zk.eq_1;exact zS
 ·clear ih;obtain rfl:i=l.length:=by omega
  simp only[zXp,rmP,cnP,zYv,zWK,zWV,Int.add_zero,zjS,zlU,zj,shZ];exact zS
def zjU(s:Shard)(x:List zx)(ep n:Int)(t:Table)(i:Nat):St:=⟨[(1,.d (.int .i64 ep)),(2,.ref 2 0 0),(4,.ref 4 0 0),(8,.d (.int .i64 n)),(10,.d (.sl ((x.map (·.msg)).map zk))),(12,.d (.int .i64 i))],[(2,.row [.d (zj { s with leases:=t })]),(4,.row [shZ])]⟩
def cnL(ep:Int)(l:List zx):Nat:=(l.filter fun y=>decide (y.msg.epoch<ep)).length
theorem zER(ep:Int)(m:zx)(l:List zx):cnL ep (m::l)=(if m.msg.epoch<ep then 1 else 0)+cnL ep l:=by
 unfold cnL;rw[zX3]
 by_cases c:m.msg.epoch<ep
 ·rw[zWz (by simpa using c),zWz c,zWI];omega
 ·rw[zWy (by simpa using c),zWy c];omega
theorem zEO(s:Shard)(x:List zx)(ep:Int)(hl:x.length<=12):∀p:Int×Table×Nat,(p.2.2<=x.length/\(p.2.1.l.length<=12/\p.2.1.heap.length<=12)/\0<=p.1/\p.1<=100+p.2.2)->zN G [] zlV (zjU s x ep p.1 p.2.1 p.2.2)=some (.exit 2,⟨[(2,.ref 2 0 0),(4,.ref 4 0 0),(8,.d (.int .i64 (p.1+cnL ep (x.drop p.2.2))))],[(2,.row [.d (zj { s with leases:=relP ep (x.drop p.2.2) p.2.1 })]),(4,.row [shZ])]⟩):=by
 refine zaB (fun p=>x.length - p.2.2) (fun p:Int×Table×Nat=>(p.2.2<=x.length/\(p.2.1.l.length<=12/\p.2.1.heap.length<=12)/\0<=p.1/\p.1<=100+p.2.2)) (fun p=>zjU s x ep p.1 p.2.1 p.2.2) (fun p=>_) fun⟨n,t,i⟩ ⟨hi1,ht,hn0,hn1⟩ L ih=> ?_;simp only at hi1 ht hn0 hn1
 by_cases h0:i<x.length
 ·have hp:=zig x[i].msg ep;have hg:(x.map (·.msg))[i]'(by simpa using h0)=x[i].msg:=by simp
  simp only;rw[zXf h0,relP,zER]
  by_cases c:x[i].msg.epoch<ep
  ·rw[zWz c,zWz c];rw[zWY c] at hp;have hm:=zoO t x[i].msg.id zo zo;have hc:=zBO t x[i].msg.id;have i1:=ih ⟨n+1,(z8 t x[i].msg.id).1,i+1⟩ ⟨by simp only;omega,hc,by simp only;omega,by simp only;omega⟩ (by simp only;omega);clear ih c;simp only at i1;rw[show n+((1+cnL ep (x.drop (i+1)):Nat):Int)=n+1+(cnL ep (x.drop (i+1)):Nat) by omega];generalize relP ep (x.drop (i+1)) (z8 t x[i].msg.id).1=R at *;generalize n+1+((cnL ep (x.drop (i+1)):Nat):Int)=N at *;generalize z8 t x[i].msg.id=q at *;obtain⟨⟨qc,qh⟩,qm,qe⟩:=q;obtain⟨tc,th⟩:=t;simp only[zjU,zlV,zj,zan,zk,shZ] at *;simp only[zNr,zp] at i1;have zk0:=zk.eq_1;exact zS
  ·rw[zWy c,zWy c];rw[zW0 c] at hp;have i1:=ih ⟨n,t,i+1⟩ ⟨by simp only;omega,ht,hn0,by simp only;omega⟩ (by simp only;omega);clear ih c;simp only at i1;rw[zW4];generalize relP ep (x.drop (i+1)) t=R at *;generalize n+((cnL ep (x.drop (i+1)):Nat):Int)=N at *;simp only[zjU,zlV,zj,zk,shZ] at *;simp only[zNr,zp] at i1;have zk0:=zk.eq_1;exact zS
 ·clear ih;obtain rfl:i=x.length:=by omega
  simp only[zXp,relP,cnL,zYv,zWK,zWV,Int.add_zero,zjU,zlV,zj,shZ];exact zS
theorem zEL(s:Shard)(ep:Int)(q:zbc s):zh G 245 [.d (zj s),.d (.int .i64 ep)] []=some (.d (.tup [zj (zgG s ep).1,.int .i64 (zgG s ep).2.1,.int .i64 (zgG s ep).2.2]),[]):=by
 have hv:=zfl s q.1 q.2.1 q.2.2;have h1:=zj0 ep;unfold zgG
 by_cases c0:zaa s=0
 ·rw[zWy (fun z=>z c0)];have hb:=zgR c0;have hr:=zim hb;have h12:=zhu hb;have hle:=zbv hb;have hrd:=zjp hr;have hld:=zos (s:=s) hle.2.1;have hl1:=zEI s (zu s.ready) (s.leases.l.map (·.msg)) ep h12 ⟨0,s.ready,0⟩ ⟨by simp,hle.1,by simp,by simp⟩;have hcb:cnP ep (zu s.ready)<=12:=zXo (zXJ _ _) h12;have hl2:=zEO { s with ready:=rmP ep (zu s.ready) s.ready } s.leases.l ep hle.2.1 ⟨cnP ep (zu s.ready),s.leases,0⟩ ⟨by simp,hle.2,by simp,by simp only;omega⟩;rw[c0] at hv;clear c0 hb hr h12;have e1:((zu s.ready).filter fun m=>decide (m.epoch<ep)).length=cnP ep (zu s.ready):=rfl;have e2:(s.leases.l.filter fun y=>decide (y.msg.epoch<ep)).length=cnL ep s.leases.l:=rfl;rw[e1,e2];clear e1 e2;simp only[zXg,Int.zero_add] at hl1 hl2;generalize cnP ep (zu s.ready)=n1 at *;generalize cnL ep s.leases.l=n2 at *;generalize rmP ep (zu s.ready) s.ready=R at *;generalize relP ep s.leases.l s.leases=T at *;generalize zu s.ready=w at *;generalize epQ ep=b1 at *;obtain⟨rc,rh,rz⟩:=R;obtain⟨tl,th⟩:=T;simp only[zjS,zjU,zj,shZ,zw,zar,zac,zWA,zWV] at *
  cases b1
  ·clear hl1 hl2;simp only[if_true];exact zW
  ·simp only[zXB,if_false];exact zW
 ·rw[zWz c0];generalize zaa s=v at *;simp only[zj,zw,zar,zac,zWA] at *;exact zW
def zj3(s:Shard)(l:List Message)(y:List zx)(r:zR)(i:Nat):St:=⟨[(1,.d (.sl (l.map zk))),(2,.d (.sl (y.map zaE))),(3,.ref 3 0 0),(6,.ref 6 0 0),(7,.d (.int .i64 i))],[(3,.row [.d (zj { s with ready:=r })]),(6,.row [shZ])]⟩
theorem zH2(s:Shard)(l:List Message)(y:List zx)(hl:l.length<=1000):∀p:zR×Nat,(p.2<=l.length/\p.1.cells.length<=12)->zN G [] zlW (zj3 s l y p.1 p.2)=some (.exit 0,⟨[(2,.d (.sl (y.map zaE))),(3,.ref 3 0 0),(6,.ref 6 0 0)],[(3,.row [.d (zj { s with ready:=zbB s.low s.high (l.drop p.2) p.1 })]),(6,.row [shZ])]⟩):=by
 refine zaB (fun p=>l.length - p.2) (fun p:zR×Nat=>(p.2<=l.length/\p.1.cells.length<=12)) (fun p=>zj3 s l y p.1 p.2) (fun p=>_) fun⟨r,i⟩ ⟨hi1,hr⟩ L ih=> ?_;simp only at hi1 hr
 by_cases h0:i<l.length
 ·simp only;rw[zXf h0,zbB]
  by_cases c:s.low<=l[i].route/\l[i].route<=s.high
  ·rw[zWz c];have hm:=zoN r l[i] zo;have hc:=zse r l[i];have i1:=ih ⟨(pbD r l[i]).1,i+1⟩ ⟨by simp only;omega,by simp only;omega⟩ (by simp only;omega);clear ih;simp only at i1;generalize zbB s.low s.high (l.drop (i+1)) (pbD r l[i]).1=R at *;generalize pbD r l[i]=q at *;obtain⟨⟨qc,qh,qz⟩,qe⟩:=q;obtain⟨rc,rh,rz⟩:=r;simp only[zj3,zlW,zj,z6,zk,shZ] at *;simp only[zNr,zp] at i1;have zk0:=zk.eq_1;exact zS
  ·rw[zWy c];have i1:=ih ⟨r,i+1⟩ ⟨by simp only;omega,hr⟩ (by simp only;omega);clear ih;simp only at i1;generalize zbB s.low s.high (l.drop (i+1)) r=R at *;simp only[zj3,zlW,zj,zk,shZ] at *;simp only[zNr,zp] at i1;have zk0:=zk.eq_1;exact zS
 ·clear ih;obtain rfl:i=l.length:=by omega
  simp only[zXp,zbB,zj3,zlW,zj,shZ];exact zS
def zj6(s:Shard)(y:List zx)(t:Table)(i:Nat):St:=⟨[(2,.d (.sl (y.map zaE))),(3,.ref 3 0 0),(6,.ref 6 0 0),(8,.d (.int .i64 i))],[(3,.row [.d (zj { s with leases:=t })]),(6,.row [shZ])]⟩
theorem zIt(s:Shard)(y:List zx)(hl:y.length<=1000):∀p:Table×Nat,(p.2<=y.length/\(p.1.l.length<=12/\p.1.heap.length<=12))->zN G [] zlX (zj6 s y p.1 p.2)=some (.exit 2,⟨[(3,.ref 3 0 0),(6,.ref 6 0 0)],[(3,.row [.d (zj { s with leases:=zd1 s.low s.high (y.drop p.2) p.1 })]),(6,.row [shZ])]⟩):=by
 refine zaB (fun p=>y.length - p.2) (fun p:Table×Nat=>(p.2<=y.length/\(p.1.l.length<=12/\p.1.heap.length<=12))) (fun p=>zj6 s y p.1 p.2) (fun p=>_) fun⟨t,i⟩ ⟨hi1,ht⟩ L ih=> ?_;simp only at hi1 ht
 by_cases h0:i<y.length
 ·simp only;rw[zXf h0,zd1]
  by_cases c:s.low<=y[i].msg.route/\y[i].msg.route<=s.high
  ·rw[zWz c];have hm:=zBz t y[i].msg y[i].deadline zo zo;have hc:=zyK s.low s.high [y[i]] t ht;rw[zd1,zWz c,zd1] at hc;have i1:=ih ⟨(zaG t y[i].msg y[i].deadline).1,i+1⟩ ⟨by simp only;omega,hc⟩ (by simp only;omega);clear ih;simp only at i1;generalize zd1 s.low s.high (y.drop (i+1)) (zaG t y[i].msg y[i].deadline).1=R at *;generalize zaG t y[i].msg y[i].deadline=q at *;obtain⟨⟨qc,qh⟩,qe⟩:=q;obtain⟨tc,th⟩:=t;simp only[zj6,zlX,zj,zan,zk,shZ] at *;simp only[zNr,zp] at i1;have zk0:=zaE.eq_1;exact zS
  ·rw[zWy c];have i1:=ih ⟨t,i+1⟩ ⟨by simp only;omega,ht⟩ (by simp only;omega);clear ih;simp only at i1;generalize zd1 s.low s.high (y.drop (i+1)) t=R at *;simp only[zj6,zlX,zj,zk,shZ] at *;simp only[zNr,zp] at i1;have zk0:=zaE.eq_1;exact zS
 ·clear ih;obtain rfl:i=y.length:=by omega
  simp only[zXp,zd1,zj6,zlX,zj,shZ];exact zS
theorem zqt(s:Shard)(l:List Message)(y:List zx)(hs:zaK s)(hl:l.length<=1000)(hy:y.length<=1000):zh G 283 [.d (zj s),.d (.sl (l.map zk)),.d (.sl (y.map zaE))] []=some (.d (zj (zgf s l y)),[]):=by
 have h1:=zH2 s l y hl ⟨s.ready,0⟩ ⟨by simp,hs.1⟩;have h2:=zIt { s with ready:=zbB s.low s.high l s.ready } y hy ⟨s.leases,0⟩ ⟨by simp,hs.2⟩;unfold zgf;simp only[zXg] at h1 h2;generalize zbB s.low s.high l s.ready=R at *;generalize zd1 s.low s.high y s.leases=T at *;simp only[zj3,zj6,zj,shZ,zWV] at *;exact zW
theorem zAZ(n:Int):zh G 76 [.d (.int .i64 n)] []=some (.d (.tup [z6 (if n<1\/12<n then zar else ⟨List.replicate n.toNat z9,0,0⟩),.int .i64 (if n<1\/12<n then 1 else 0)]),[]):=by
 by_cases c:n<1\/12<n
 ·rw[zWz c,zWz c];simp only[z6,zar,zWA];exact zW
 ·rw[zWy c,zWy c];have h:=zO4 n.toNat zo zo;rw[zZM zo] at h;exact h
theorem zrY(n lo hi:Int):zh G 31 [.d (.int .i64 n),.d (.int .i64 lo),.d (.int .i64 hi)] []=some (.d (.tup [zj (zbD n lo hi).1,.int .i64 (zbD n lo hi).2]),[]):=by
 have h1:=zAZ n;have h2:=zCg lo hi;unfold zbD
 by_cases c:n<1\/12<n
 ·rw[zWz c] at h1 ⊢;rw[zWz c] at h1;simp only[zj,z6,zw,zar,zac,zWA] at *;exact zW
 ·rw[zWy c] at h1 ⊢;rw[zWy c] at h1;generalize List.replicate n.toNat z9=w at *
  by_cases c2:0<=lo/\lo<=hi/\hi<65536
  ·rw[zWy (fun q=>q c2)];rw[zWY c2] at h2;simp only[zj,z6,zw,zar,zac,zWA] at *;exact zW
  ·rw[zWz c2];rw[zW0 c2] at h2;simp only[zj,z6,zw,zar,zac,zWA] at *;exact zW
theorem zzp(n:Int):zh G 95 [.d (.int .i64 n)] []=some (.d (.tup [zj (zc4 n).1,.int .i64 (zc4 n).2]),[]):=by
 have h1:=zAZ n;unfold zc4
 by_cases c:n<1\/12<n
 ·rw[zWz c] at h1 ⊢;rw[zWz c] at h1;simp only[zj,z6,zw,zar,zac,zWA] at *;exact zW
 ·rw[zWy c] at h1 ⊢;rw[zWy c] at h1;generalize List.replicate n.toNat z9=w at *;simp only[zj,z6,zw,zar,zac,zWA] at *;exact zW
theorem zOc{s:Shard}(h:zaa s=0):0<=s.low/\s.low<=s.high/\s.high<65536:=by
 have hv:=zgR h;have hl:s.live=true:=by
  unfold zaa at h;rw[zWy (fun q=>q hv)] at h
  split at h
  ·assumption
  ·cases h
 obtain⟨n,h',e,v⟩:=zfZ hv hl;exact⟨v.2.2.2.2.1,v.2.2.2.2.2.1,v.2.2.2.2.2.2.1⟩
theorem zFW(s:Shard)(mid:Int)(q:zbc s):zh G 237 [.d (zj s),.d (.int .i64 mid)] []=some (.d (.tup [zj (zde s mid).1,zj (zde s mid).2.1,.int .i64 (zde s mid).2.2]),[]):=by
 have hv:=zfl s q.1 q.2.1 q.2.2;unfold zde
 by_cases c0:zaa s=0
 ·rw[zWy (fun z=>z c0)];have hb:=zgR c0;have hr:=zim hb;have h12:=zhu hb;have hle:=zbv hb;have hrd:=zjp hr;have hn1:=zrY s.ready.cells.length s.low mid;have hn2:=zrY s.ready.cells.length (mid+1) s.high;have hf1:=zqt (zbD s.ready.cells.length s.low mid).1 (zu s.ready) s.leases.l (znW _ _ _) zo (by have:=hle.2.1;omega);have hf2:=zqt (zbD s.ready.cells.length (mid+1) s.high).1 (zu s.ready) s.leases.l (znW _ _ _) zo (by have:=hle.2.1;omega);have hhi:=zOc c0;rw[c0] at hv;clear c0 hb hr h12;generalize zgf (zbD s.ready.cells.length s.low mid).1 (zu s.ready) s.leases.l=F1 at *;generalize zgf (zbD s.ready.cells.length (mid+1) s.high).1 (zu s.ready) s.leases.l=F2 at *;generalize zbD s.ready.cells.length s.low mid=N1 at *;generalize zbD s.ready.cells.length (mid+1) s.high=N2 at *;generalize zu s.ready=w at *;obtain⟨N1,e1⟩:=N1;obtain⟨N2,e2⟩:=N2;simp only at *
  by_cases c1:mid<s.low\/s.high<=mid
  ·rw[zWz c1];clear hf1 hf2 hn1 hn2;simp only[zj,zw,zar,zac,zWA] at *;exact zW
  ·rw[zWy c1];have sz_F1:=zbA F1;generalize zj F1=D_F1 at *;have sz_F2:=zbA F2;generalize zj F2=D_F2 at *;have sz_N1:=zbA N1;generalize zj N1=D_N1 at *;have sz_N2:=zbA N2;generalize zj N2=D_N2 at *;simp only[zj] at *;exact zW
 ·rw[zWz c0];generalize zaa s=v at *;simp only[zj,zw,zar,zac,zWA] at *;exact zW
theorem zVO(a b:Shard)(l x:List Message)(hl:l.length<=24)(hx:x.length<=24):zN G [] zn9 ⟨[(2,.ref 2 0 0),(3,.ref 3 0 0),(4,.ref 4 0 0),(8,.d (.sl (l.map zk))),(9,.d (.sl (x.map zk))),(10,.d (.int .i64 (0:Nat)))],[(2,.row [.d (zj a)]),(3,.row [.d (zj b)]),(4,.row [shZ])]⟩=some (if (List.range x.length).all (fun k=> !decide (0<=zaF l (x.getD k z9).id))=true then (.exit 0,⟨[(2,.ref 2 0 0),(3,.ref 3 0 0),(4,.ref 4 0 0)],[(2,.row [.d (zj a)]),(3,.row [.d (zj b)]),(4,.row [shZ])]⟩) else (.ret,⟨[(4,.ref 4 0 0),(5,.d (.int .i64 10))],[(4,.row [shZ])]⟩)):=by
 refine zd5 (G:=G) x.length (fun k=> !decide (0<=zaF l (x.getD k z9).id)) (fun k=>⟨[(2,.ref 2 0 0),(3,.ref 3 0 0),(4,.ref 4 0 0),(8,.d (.sl (l.map zk))),(9,.d (.sl (x.map zk))),(10,.d (.int .i64 k))],[(2,.row [.d (zj a)]),(3,.row [.d (zj b)]),(4,.row [shZ])]⟩) _ _ fun k hk L=> ?_
 by_cases h0:k<x.length
 ·rw[zWz h0,zq h0];have hi:=ziZ l x[k].id zo;generalize zaF l x[k].id=q at *;simp only[zn9,zj,shZ] at *
  by_cases c:0<=q
  ·rw[zWY c];have zk0:=zk.eq_1;exact zS
  ·rw[zW0 c];have zk0:=zk.eq_1;exact zS
 ·rw[zWy h0];simp only[zn9,zj,shZ] at *;exact zS
theorem zVT(l x:List Message):(x.any fun m=>decide (0<=zaF l m.id))= !((List.range x.length).all (fun k=> !decide (0<=zaF l (x.getD k z9).id))):=by
 apply zXm.2;simp only[zXG,decide_eq_true_eq,zXt,List.all_eq_false,zXx,zYs,zZI];constructor
 ·rintro⟨m,hm,h⟩;obtain⟨i,hi,rfl⟩:=zYS.1 hm;exact⟨i,hi,by rw[zq hi];simpa using h⟩
 ·rintro⟨i,hi,h⟩;rw[zq hi] at h;exact⟨_,zWH hi,by simpa using h⟩
theorem zmL{s:Shard}(h:zV s=0):0<=s.low/\s.high<65536/\s.low<=65536/\0<=s.high:=by
 cases hl:s.live with
 | true=>
  obtain⟨n,h',e,v⟩:=zfZ h hl;have:=v.2.2.2.2.1;have:=v.2.2.2.2.2.1;have:=v.2.2.2.2.2.2.1
  omega
 | false=>
  have hr:=zim h;have ht:zah s.leases=0:=by
   unfold zV at h;rw[zWy (fun q=>q hr)] at h
   split at h
   ·rename_i c;exact absurd h c
   ·rename_i c;exact zWO.1 c
  rw[zmH hr ht,zWz hl] at h
  split at h
  ·cases h
  ·rename_i c;omega
theorem zVU(a b:Shard)(qa:zbc a)(qb:zbc b):zh G 241 [.d (zj a),.d (zj b)] []=some (.d (.tup [zj (zg5 a b).1,.int .i64 (zg5 a b).2]),[]):=by
 have ha:=zmo a qa.1 qa.2.1 qa.2.2;have hb:=zmo b qb.1 qb.2.1 qb.2.2;have sa:=zhC a qa;have sb:=zhC b qb;unfold zg5
 by_cases c0:zV a=0
 ·rw[zWy (fun z=>z c0)]
  by_cases c1:zV b=0
  ·rw[zWy (fun z=>z c1)];have ra:=zim c0;have rb:=zim c1;have la:=zbv c0;have lb:=zbv c1;have ma:=zjH ra la.2.1;have mb:=zjH rb lb.2.1;have rdb:=zjp rb;have na:=zrW c0;have nb:=zrW c1;have ob:=zhu c1;have hlp:=zVO a b (zaO a) (zaO b) na nb;have hba:=zmM c0;have hbb:=zmM c1;rw[zVT];rw[show (if a.low<b.low then a.low else b.low)=(if b.low<a.low then b.low else a.low) by split<;>split<;>omega];have hf:=zqt { a with low:=if b.low<a.low then b.low else a.low,high:=if a.high<b.high then b.high else a.high } (zu b.ready) b.leases.l la zo (by have:=lb.2.1;omega);rw[c0] at ha;rw[c1] at hb
   by_cases c2:a.live=false\/b.live=false\/a.high+1≠b.low/\b.high+1≠a.low
   ·rw[zWz c2];clear hf hlp ma mb rdb;have hspa:=zmL c0;have hspb:=zmL c1;clear c0 c1 ra rb qa qb na nb ob la lb;generalize zbl a=na at *;generalize zbl b=nb at *;obtain⟨al,alo,ahi,⟨ac,ah,az⟩,⟨atl,ath⟩⟩:=a;obtain⟨bl,blo,bhi,⟨bc,bh,bz⟩,⟨btl,bth⟩⟩:=b;simp only[zj,zw,zar,zac,zWA] at *
    cases al
    ·clear c2;exact zW
    cases bl
    ·clear c2;exact zW
    ·have c3:ahi+1≠blo/\bhi+1≠alo:=by simpa using c2
     clear c2;obtain⟨c2,c3⟩:=c3;exact zW
   ·rw[zWy c2];have l1:a.live=true:=by cases h:a.live;exact absurd (.inl h) c2;rfl
    have l2:b.live=true:=by cases h:b.live;exact absurd (.inr (.inl h)) c2;rfl
    have l3:a.high+1=b.low\/b.high+1=a.low:=by omega
    have hspa:=zmL c0;have hspb:=zmL c1;clear c2 c0 c1 ra rb qa qb na nb ob;generalize (List.range (zaO b).length).all (fun k=> !decide (0<=zaF (zaO a) ((zaO b).getD k z9).id))=bl at *;generalize zaO a=xa at *;generalize zaO b=xb at *;generalize zu b.ready=w at *;generalize zbl a=na at *;generalize zbl b=nb at *;have hca:=la.1;clear la lb;obtain⟨al,alo,ahi,⟨ac,ah,az⟩,⟨atl,ath⟩⟩:=a;obtain⟨bv,blo,bhi,⟨bc,bh,bz⟩,⟨btl,bth⟩⟩:=b;simp only at *;subst l1 l2
    by_cases c3:(ac.length:Int)<na+nb
    ·rw[zWz c3];clear hf hlp;simp only[zj,zw,zar,zac,zWA] at *
     rcases l3 with l3|l3
     ·replace l3:=zWN l3;exact zW
     ·by_cases l4:ahi+1=blo
      ·replace l4:=zWN l4;exact zW
      ·replace l3:=zWN l3;replace l4:=zWE l4;exact zW
    ·rw[zWy c3]
     cases bl
     ·clear hf;simp only[zZt,if_true,zWL,if_false] at hlp ⊢;simp only[zj,shZ,zw,zar,zac,zWA,zWV] at *
      by_cases l4:ahi+1=blo
      ·replace l4:=zWN l4;clear l3;exact zW
      ·have l5:bhi+1=alo:=by omega
       replace l5:=zWN l5;replace l4:=zWE l4;clear l3;exact zW
     ·simp only[zZs,if_true,zWL,if_false] at hlp ⊢;generalize zgf ⟨true,if blo<alo then blo else alo,if ahi<bhi then bhi else ahi,⟨ac,ah,az⟩,⟨atl,ath⟩⟩ w btl=F at *;have sz_F:=zbA F;generalize zj F=D_F at *;simp only[zj,shZ,zWV] at *
      by_cases l4:ahi+1=blo
      ·replace l4:=zWN l4;clear l3;exact zW
      ·have l5:bhi+1=alo:=by omega
       replace l5:=zWN l5;replace l4:=zWE l4;clear l3;exact zW
  ·rw[zWz c1];rw[c0] at ha;generalize zV b=v at *;simp only[zj,zw,zar,zac,zWA] at *;exact zW
 ·rw[zWz c0];generalize zV a=v at *;simp only[zj,zw,zar,zac,zWA] at *;exact zW
theorem zBg(t:zi):zh G 234 [.d (zd t)] []=some (.d (.sl (zt (zdj t))),[]):=by
 unfold zdj;simp only[zd]
 by_cases c:t.inv.from_<t.inv.to
 ·rw[zWz c];have zk0:=zt.eq_1;exact zW
 ·rw[zWy c];have zk0:=zt.eq_1;exact zW
theorem zUf(t:zi)(hk:t.sec.shards.length=2):zh G 231 [.d (zd t)] []=some (.d (.tup [zj (zQ t),zj (zaD t)]),[]):=by
 have ho:=zBg t;unfold zQ zaD;unfold zdj at ho;rw[zq (show 0<t.sec.shards.length by omega),zq (show 1<t.sec.shards.length by omega)]
 by_cases c:t.inv.from_<t.inv.to
 ·rw[zWz c] at ho;rw[zWz c,zWz c];clear c;simp only[zd,zt,zWD,zWA] at *;have zk0:=zj.eq_1;exact zW
 ·rw[zWy c] at ho;rw[zWy c,zWy c];clear c;simp only[zd,zt,zWD,zWA] at *;have zk0:=zj.eq_1;exact zW
theorem zQD(t:zi)(x y:Shard):zh G 233 [.d (zd t),.d (zj x),.d (zj y)] []=some (.d (.sl ((zdK t x y).map zj)),[]):=by
 unfold zdK
 by_cases c:t.inv.from_<t.inv.to
 ·rw[zWz c];simp only[zd,zWD,zWA];have sz_x:=zbA x;generalize zj x=D_x at *;have sz_y:=zbA y;generalize zj y=D_y at *;exact zW
 ·rw[zWy c];simp only[zd,zWD,zWA];have sz_x:=zbA x;generalize zj x=D_x at *;have sz_y:=zbA y;generalize zj y=D_y at *;exact zW
theorem znF{u:Setup}{N:Int}{t:zi}(hs:SI u N t.sec):zbc (zQ t):=zf4 (zzt hs)
theorem ztd{u:Setup}{N:Int}{t:zi}(hs:SI u N t.sec):zbc (zaD t):=zf4 (zte hs)
theorem zm4{u:Setup}{N:Int}{s:Section}(hs:SI u N s){i:Nat}(h:i<s.shards.length):zV (s.shards.getD i zw)=0:=by
 rw[zq h];exact (hs.sv _ (zWH h)).1
theorem zqA{u:Setup}{N:Int}{t:zi}(hs:SI u N t.sec)(hk:t.sec.shards.length=2):zV (zQ t)=0/\zV (zaD t)=0:=by
 unfold zQ zaD
 split
 ·exact⟨zm4 hs zo,zm4 hs zo⟩
 ·exact⟨zm4 hs zo,zm4 hs zo⟩
theorem zUj{s:Shard}(h:zV s=0):0<=s.ready.size/\s.ready.size<=12:=by
 obtain⟨a1,a2,a3,a4,a5,a6⟩:=zcV (zim h);omega
theorem zQG{u:Setup}{N:Int}{t:zi}(hs:SI u N t.sec)(hk:t.sec.shards.length=2):zh G 173 [.d (zd t)] []=some (.d (.tup [zY (zdv t).1,zZ (zdv t).2.1,.sl ((zdv t).2.2.map zad)]),[]):=by
 have hu:=zhE t.sec;have hsh:=zUf t hk;have ho:=zBg t;obtain⟨v1,v2⟩:=zqA hs hk;have hst:=zhC (zaD t) (ztd hs);have b1:=zUj v1;have b2:=zmM v2;have b3:=(zbv v2).1;unfold zdv;simp only
 by_cases c0:(zQ t).live=false\/(zaD t).live=false
 ·rw[zWz c0];clear hs ho hst v1 v2 b1 b2 b3;generalize zQ t=v at *;generalize zaD t=w at *;obtain⟨l1,vlo,vhi,⟨vc,vh,vz⟩,⟨vtl,vth⟩⟩:=v;obtain⟨l2,wlo,whi,⟨wc,wh,wz⟩,⟨wtl,wth⟩⟩:=w;simp only[zd,zr,zY,zU,zj,za2,zZ,z5,zWA] at *
  cases l1
  ·exact zW
  cases l2
  ·exact zW
  ·simp at c0
 rw[zWy c0];have l1:(zQ t).live=true:=by
  cases h:(zQ t).live
  ·exact absurd (.inl h) c0
  ·rfl
 have l2:(zaD t).live=true:=by
  cases h:(zaD t).live
  ·exact absurd (.inr h) c0
  ·rfl
 clear c0;have e1:(((zQ t).ready.size+1).tdiv 2)=((zQ t).ready.size+1) / 2:=zX9 zo;have hdt:=zFM (zQ t) (zhs (((zQ t).ready.size+1).tdiv 2) ((zaD t).ready.cells.length - zbl (zaD t))) (znF hs);have hdl:=zx0 (zQ t) (zhs (((zQ t).ready.size+1).tdiv 2) ((zaD t).ready.cells.length - zbl (zaD t)));generalize hk2:zhs (((zQ t).ready.size+1).tdiv 2) ((zaD t).ready.cells.length - zbl (zaD t))=k at *;have hk3:(if ((zaD t).ready.cells.length:Int) - zbl (zaD t)<((zQ t).ready.size+1) / 2 then ((zaD t).ready.cells.length:Int) - zbl (zaD t) else ((zQ t).ready.size+1) / 2)=k:=by
  unfold zhs at hk2;rw[<- hk2,e1]
  split<;>split<;>omega
 clear hk2
 by_cases c1:k=0
 ·rw[zWz c1];subst c1;clear hs ho v1 v2 hdt hdl;generalize zQ t=v at *;generalize zaD t=w at *;generalize zbl w=sd at *;obtain⟨l1',vlo,vhi,⟨vc,vh,vz⟩,⟨vtl,vth⟩⟩:=v;obtain⟨l2',wlo,whi,⟨wc,wh,wz⟩,⟨wtl,wth⟩⟩:=w;simp only at *;subst l1 l2;simp only[zd,zr,zY,zU,zj,za2,zZ,z5,zWA] at *;exact zW
 ·rw[zWy c1];have hab:=ztv (zaD t) (zeO (zQ t) k).2.1 (ztd hs) zo;generalize zeO (zQ t) k=d at *;obtain⟨d1,d2,d3⟩:=d;simp only at *;generalize zfx (zaD t) d2=y at *;obtain⟨y1,y2⟩:=y;have hpl:=zQD t d1 y1;clear hs v1 v2 hdl;generalize zdK t d1 y1=pl at *;generalize zdj t=od at *;generalize zQ t=v at *;generalize zaD t=w at *;generalize zbl w=sd at *;have sz_d1:=zbA d1;generalize zj d1=D_d1 at *;have sz_y1:=zbA y1;generalize zj y1=D_y1 at *;obtain⟨l1',vlo,vhi,⟨vc,vh,vz⟩,⟨vtl,vth⟩⟩:=v;obtain⟨l2',wlo,whi,⟨wc,wh,wz⟩,⟨wtl,wth⟩⟩:=w;simp only at *;subst l1 l2;simp only[zd,zr,zY,zU,zj,za2,zZ,z5,zWA] at *;exact zW
theorem zBh(t:zi):zh G 239 [.d (zd t)] []=some (.d (.sl (zt (zdj t))),[]):=by
 unfold zdj;simp only[zd]
 by_cases c:t.inv.from_<t.inv.to
 ·rw[zWz c];have zk0:=zt.eq_1;exact zW
 ·rw[zWy c];have zk0:=zt.eq_1;exact zW
theorem zUg(t:zi)(hk:t.sec.shards.length=2):zh G 236 [.d (zd t)] []=some (.d (.tup [zj (zQ t),zj (zaD t)]),[]):=by
 have ho:=zBh t;unfold zQ zaD;unfold zdj at ho;rw[zq (show 0<t.sec.shards.length by omega),zq (show 1<t.sec.shards.length by omega)]
 by_cases c:t.inv.from_<t.inv.to
 ·rw[zWz c] at ho;rw[zWz c,zWz c];clear c;simp only[zd,zt,zWD,zWA] at *;have zk0:=zj.eq_1;exact zW
 ·rw[zWy c] at ho;rw[zWy c,zWy c];clear c;simp only[zd,zt,zWD,zWA] at *;have zk0:=zj.eq_1;exact zW
theorem zQE(t:zi)(x y:Shard):zh G 238 [.d (zd t),.d (zj x),.d (zj y)] []=some (.d (.sl ((zdK t x y).map zj)),[]):=by
 unfold zdK
 by_cases c:t.inv.from_<t.inv.to
 ·rw[zWz c];simp only[zd,zWD,zWA];have sz_x:=zbA x;generalize zj x=D_x at *;have sz_y:=zbA y;generalize zj y=D_y at *;exact zW
 ·rw[zWy c];simp only[zd,zWD,zWA];have sz_x:=zbA x;generalize zj x=D_x at *;have sz_y:=zbA y;generalize zj y=D_y at *;exact zW
theorem zBi(t:zi):zh G 243 [.d (zd t)] []=some (.d (.sl (zt (zdj t))),[]):=by
 unfold zdj;simp only[zd]
 by_cases c:t.inv.from_<t.inv.to
 ·rw[zWz c];have zk0:=zt.eq_1;exact zW
 ·rw[zWy c];have zk0:=zt.eq_1;exact zW
theorem zUh(t:zi)(hk:t.sec.shards.length=2):zh G 240 [.d (zd t)] []=some (.d (.tup [zj (zQ t),zj (zaD t)]),[]):=by
 have ho:=zBi t;unfold zQ zaD;unfold zdj at ho;rw[zq (show 0<t.sec.shards.length by omega),zq (show 1<t.sec.shards.length by omega)]
 by_cases c:t.inv.from_<t.inv.to
 ·rw[zWz c] at ho;rw[zWz c,zWz c];clear c;simp only[zd,zt,zWD,zWA] at *;have zk0:=zj.eq_1;exact zW
 ·rw[zWy c] at ho;rw[zWy c,zWy c];clear c;simp only[zd,zt,zWD,zWA] at *;have zk0:=zj.eq_1;exact zW
theorem zQF(t:zi)(x y:Shard):zh G 242 [.d (zd t),.d (zj x),.d (zj y)] []=some (.d (.sl ((zdK t x y).map zj)),[]):=by
 unfold zdK
 by_cases c:t.inv.from_<t.inv.to
 ·rw[zWz c];simp only[zd,zWD,zWA];have sz_x:=zbA x;generalize zj x=D_x at *;have sz_y:=zbA y;generalize zj y=D_y at *;exact zW
 ·rw[zWy c];simp only[zd,zWD,zWA];have sz_x:=zbA x;generalize zj x=D_x at *;have sz_y:=zbA y;generalize zj y=D_y at *;exact zW
def zjs(r:zR):Prop:=zaI r=0\/r=zar
theorem zQn{r:zR}(h:zjs r)(m:Message):zjs (pbD r m).1:=by
 unfold pbD
 split
 ·rename_i c;obtain⟨q1,q2,q3,q4⟩:=zjl c;obtain⟨n,h',e,a1,a2,a3,a4,a5,a6⟩:=zhz q1;left;have hc:r.cells.length=n:=by rw[e];exact zfU _ _ _
  have hh:r.head.toNat=h':=by rw[e];rfl
  have hz:r.size=((zu r).length:Int):=congrArg zR.size e;rw[hc,hh];refine zsx a1 a2 a3 (by rw[zWJ,zW6];omega) (fun x hx=> ?_) ?_
  ·rcases zW3.1 hx with hx|hx
   ·exact a5 x hx
   ·rw[zW7.1 hx];exact q2
  ·rw[zWQ,zYx];refine⟨a6,by simp,fun a ha b hb=> ?_⟩;simp only[zWD,zWA,zW7] at hb;subst hb;intro e2;subst e2;obtain⟨x,hx,ex⟩:=zWP.1 ha;have:=zqz ⟨x,hx,ex⟩;omega
 ·exact .inr rfl
theorem zH6(lo hi:Int):∀(l:List Message) (r:zR),zjs r->zjs (zbB lo hi l r):=by
 intro l
 induction l with
 | nil=>intro r h;exact h
 | cons m l ih=>
  intro r h;rw[zbB]
  split
  ·exact ih _ (zQn h m)
  ·exact ih _ h
theorem zOb:zh G 98 [.d (z6 zar)] []=some (.d (.sl []),[]):=by
 have hv:=zkG zar (by simp [zar]);have e:zaI zar=1:=by decide+kernel
 rw[e] at hv;clear e;simp only[z6,zar,zWA] at *;exact zW
theorem zDt{s:Shard}(h:zjs s.ready)(hl:s.leases.l.length<=12):zh G 129 [.d (zj s)] []=some (.d (.sl ((zaO s).map zk)),[]):=by
 rcases h with h|h
 ·exact zjH h hl
 ·have h1:=zOb;have hr:zh G 50 [.d (zj s)] []=some (.d (.sl []),[]):=by
   rw[<- h] at h1;clear h;simp only[z6,zj] at *;exact zW
  have hld:=zos (s:=s) hl;have e:zaO s=s.leases.l.map (·.msg):=by
   unfold zaO;rw[h];have:zu zar=[]:=by decide+kernel
   rw[this];rfl
  rw[e];have hlw:(s.leases.l.map (·.msg)).length<=12:=by simpa using hl
  generalize s.leases.l.map (·.msg)=w at *;clear e h h1 hl;simp only[zj] at *;exact zW
theorem zFV{s:Shard}(hv:zV s=0)(mid:Int):zjs (zde s mid).2.1.ready/\(zde s mid).2.1.leases.l.length<=12:=by
 have h12:=(znV s mid).2;refine⟨?_,h12.2.1⟩;unfold zde
 split
 ·exact .inr rfl
 split
 ·exact .inr rfl
 ·show zjs (zbB _ _ _ (zbD _ _ _).1.ready);apply zH6;unfold zbD
  split
  ·exact .inr rfl
  split
  ·exact .inr rfl
  ·rename_i c _;exact .inl (zsy zo zo)
theorem zQH{u:Setup}{N:Int}{t:zi}(hs:SI u N t.sec)(hk:t.sec.shards.length=2):zh G 175 [.d (zd t)] []=some (.d (.tup [zY (zdu t).1,zZ (zdu t).2.1,.sl ((zdu t).2.2.map zad)]),[]):=by
 have hu:=zhE t.sec;have hsh:=zUg t hk;have ho:=zBh t;obtain⟨v1,v2⟩:=zqA hs hk;have hsp:=zmL v1;unfold zdu;simp only
 by_cases c0:(zQ t).live=false\/(zaD t).live=true\/(zQ t).high<=(zQ t).low
 ·rw[zWz c0];clear hs ho v1 v2;generalize zQ t=v at *;generalize zaD t=w at *;obtain⟨l1,vlo,vhi,⟨vc,vh,vz⟩,⟨vtl,vth⟩⟩:=v;obtain⟨l2,wlo,whi,⟨wc,wh,wz⟩,⟨wtl,wth⟩⟩:=w;simp only[zd,zr,zY,zU,zj,za2,zZ,z5,zWA] at *
  cases l1
  ·exact zW
  cases l2
  rotate_left
  ·exact zW
  ·have c1:vhi<=vlo:=by simpa using c0
   clear c0;exact zW
 rw[zWy c0];have l1:(zQ t).live=true:=by
  cases h:(zQ t).live
  ·exact absurd (.inl h) c0
  ·rfl
 have l2:(zaD t).live=false:=by
  cases h:(zaD t).live
  ·rfl
  ·exact absurd (.inr (.inl h)) c0
 have c1:(zQ t).low<(zQ t).high:=by omega
 clear c0;have e1:((zQ t).low+(zQ t).high).tdiv 2=((zQ t).low+(zQ t).high) / 2:=zX9 zo;rw[e1];have hdv:=zFW (zQ t) (((zQ t).low+(zQ t).high) / 2) (znF hs);have hz:=zFV v1 (((zQ t).low+(zQ t).high) / 2);have hl:=(znV (zQ t) (((zQ t).low+(zQ t).high) / 2)).2;generalize hmid:((zQ t).low+(zQ t).high) / 2=mid at *;generalize zde (zQ t) mid=d at *;obtain⟨d1,d2,d3⟩:=d;simp only at *;have hst:=zhC d2 (zf4 hl);have hal:=zDt hz.1 hz.2;have hpl:=zQE t d1 d2;clear hs v1 v2 hz hl;generalize zdK t d1 d2=pl at *;generalize zdj t=od at *;generalize zaO d2=ms at *;generalize zbl d2=sd at *;generalize zQ t=v at *;generalize zaD t=w at *;have sz_d1:=zbA d1;generalize zj d1=D_d1 at *;have sz_d2:=zbA d2;generalize zj d2=D_d2 at *;obtain⟨l1',vlo,vhi,⟨vc,vh,vz⟩,⟨vtl,vth⟩⟩:=v;obtain⟨l2',wlo,whi,⟨wc,wh,wz⟩,⟨wtl,wth⟩⟩:=w;simp only at *;subst l1 l2;simp only[zd,zr,zY,zU,zj,za2,zZ,z5,zWA,zWD,zgd] at *;exact zW
theorem zQI{u:Setup}{N:Int}{t:zi}(hs:SI u N t.sec)(hk:t.sec.shards.length=2):zh G 176 [.d (zd t)] []=some (.d (.tup [zY (zdi t).1,zZ (zdi t).2.1,.sl ((zdi t).2.2.map zad)]),[]):=by
 have hu:=zhE t.sec;have hsh:=zUh t hk;have ho:=zBi t;obtain⟨v1,v2⟩:=zqA hs hk;have hun:=zVU (zaD t) (zQ t) (ztd hs) (znF hs);have hfr:=zzp (zQ t).ready.cells.length;have hst:=zhC (zQ t) (znF hs);have hal:=zjH (zim v1) (zbv v1).2.1;unfold zdi;simp only;generalize zg5 (zaD t) (zQ t)=y at *;obtain⟨y,e⟩:=y;generalize zc4 (zQ t).ready.cells.length=f at *;obtain⟨f,fe⟩:=f;simp only at *;have hpl:=zQF t f y;clear hs v1 v2;generalize zdK t f y=pl at *;generalize zdj t=od at *;generalize zaO (zQ t)=ms at *;generalize zbl (zQ t)=sd at *;generalize zQ t=v at *;generalize zaD t=w at *
 by_cases c:e=0
 ·subst c;simp only[ne_eq,zWR,if_false];have sz_f:=zbA f;generalize zj f=D_f at *;have sz_y:=zbA y;generalize zj y=D_y at *;obtain⟨l1',vlo,vhi,⟨vc,vh,vz⟩,⟨vtl,vth⟩⟩:=v;simp only[zd,zr,zY,zU,zj,za2,zZ,z5,zWA,zWD,zgd] at *;exact zW
 ·rw[zWz c];have sz_f:=zbA f;generalize zj f=D_f at *;have sz_y:=zbA y;generalize zj y=D_y at *;simp only[zd,zr,zY,zU,zj,za2,zZ,z5,zWA] at *;exact zW
def accC(o:Nat)(l:List D):AV:=match l with|[]=> .xsl []|x::l=> .acc o (x::l)
def zaf(o:Nat)(l:List D):zf:=match l with|[]=>[]|x::l=>[(o,.acc (l.length+1))]
structure T8 where
 rest:List Message
 out:List Message
 i:Nat
def t8S(d:Dead)(k ep:Int)(p:T8):St:=⟨[(1,.d (.int .i64 k)),(2,.d (.int .i64 ep)),(3,.ref 3 0 0),(6,.ref 6 0 0),(10,.ref 10 0 0),(11,.acc 11 (p.out.map zk)),(12,.d (.int .i64 p.i))],[(3,.row [.d (zP d)]),(6,.row [.agg [.d (.int .i64 0),.xsl []]]),(10,.row [.agg [.d (.int .i64 d.cap),accC 500070 (p.rest.map zk)]]),(11,.acc p.out.length)]++zaf 500070 (p.rest.map zk)⟩
def t8R(d:Dead)(x:List Message×List Message):zT×St:=(.exit 0,⟨[(6,.ref 6 0 0),(10,.ref 10 0 0),(11,.acc 11 (x.2.map zk))],[(6,.row [.agg [.d (.int .i64 0),.xsl []]]),(10,.row [.agg [.d (.int .i64 d.cap),accC 500070 (x.1.map zk)]]),(11,.acc x.2.length)]++zaf 500070 (x.1.map zk)⟩)
theorem zVa(d:Dead)(k ep:Int)(hl:d.l.length<=1000):∀p:T8,(p.i<=d.l.length/\p.out.length<=p.i/\p.rest.length<=p.i)->zN G [] zgO (t8S d k ep p)=some (t8R d (zdt k ep (d.l.drop p.i) p.rest p.out)):=by
 refine zaB (fun p:T8=>d.l.length - p.i) (fun p:T8=>(p.i<=d.l.length/\p.out.length<=p.i/\p.rest.length<=p.i)) (t8S d k ep) (fun p=>some (t8R d (zdt k ep (d.l.drop p.i) p.rest p.out))) fun⟨rest,out,i⟩ ⟨hi,ho,hr⟩ L ih=> ?_;simp only at hi ho hr
 by_cases h0:i<d.l.length
 ·simp only;rw[zXf h0,zdt];have hp:=zig d.l[i] ep
  by_cases c:(out.length:Int)<k/\¬d.l[i].epoch<ep
  ·rw[zWz c];rw[zW0 c.2] at hp;have c1:=c.1;have i1:=ih ⟨rest,out++[d.l[i]],i+1⟩ ⟨by simp only;omega,by simp only[zWJ,zW6];omega,by simp only;omega⟩ (by simp only;omega);clear ih c;simp only at i1;generalize t8R d (zdt k ep (d.l.drop (i+1)) rest (out++[d.l[i]]))=R at *
   cases rest with
   | nil=>
    simp only[t8S,accC,zaf,zgO,zP,zWA,zWZ,zWQ,zWD] at *;simp only[zNr,zp] at i1;exact zS
   | cons r0 rs=>
    simp only[t8S,accC,zaf,zgO,zP,zWA,zWQ,zWD,zWM,zW1,zWW,zWI] at *;simp only[zNr,zp] at i1;exact zS
  ·rw[zWy c];have i1:=ih ⟨rest++[d.l[i]],out,i+1⟩ ⟨by simp only;omega,by simp only;omega,by simp only[zWJ,zW6];omega⟩ (by simp only;omega);clear ih;simp only at i1;generalize t8R d (zdt k ep (d.l.drop (i+1)) (rest++[d.l[i]]) out)=R at *
   by_cases c1:(out.length:Int)<k
   ·have c2:d.l[i].epoch<ep:=by omega
    rw[zWY c2] at hp;clear c c2
    cases rest with
    | nil=>
     simp only[t8S,accC,zaf,zgO,zP,zWA,zWZ,zWW,zW1,zWQ,zWD,zWK] at *;simp only[zNr,zp] at i1;exact zS
    | cons r0 rs=>
     simp only[t8S,accC,zaf,zgO,zP,zWA,zWQ,zWD,zWM,zW1,zWW,zWI,zWJ,zWK] at *;simp only[zNr,zp] at i1;exact zS
   ·clear hp c
    cases rest with
    | nil=>
     simp only[t8S,accC,zaf,zgO,zP,zWA,zWZ,zWW,zW1,zWQ,zWD,zWK] at *;simp only[zNr,zp] at i1;exact zS
    | cons r0 rs=>
     simp only[t8S,accC,zaf,zgO,zP,zWA,zWQ,zWD,zWM,zW1,zWW,zWI,zWJ,zWK] at *;simp only[zNr,zp] at i1;exact zS
 ·clear ih;obtain rfl:i=d.l.length:=by omega
  simp only[zXp,zdt,t8R]
  cases rest with
  | nil=>
   simp only[t8S,accC,zaf,zgO,zP,zWA,zWZ] at *;exact zS
  | cons r0 rs=>
   simp only[t8S,accC,zaf,zgO,zP,zWD,zWM,zW1,zWW,zWI] at *;exact zS
theorem zVc(d:Dead)(k ep:Int)(hL:d.l.length<=1000):zh G 227 [.d (zP d),.d (.int .i64 k),.d (.int .i64 ep)] []=some (.d (.tup [zP (zfV d k ep).1,.sl ((zfV d k ep).2.1.map zk),.int .i64 (zfV d k ep).2.2]),[]):=by
 have hv:=zmV d hL;have hlp:=zVa d k ep hL ⟨[],[],0⟩ ⟨by simp,by simp,by simp⟩;have hln:=zCk k ep d.l [] [];unfold zfV;generalize zcm d=v at *;simp only[zXg] at hlp;generalize zdt k ep d.l [] []=R at *;obtain⟨rest,out⟩:=R;simp only[t8R,t8S,accC,zaf,zWA,zWZ,zWK,zWV,zX1] at *
 by_cases c0:v=0
 ·subst c0;simp only[ne_eq,zWR,if_false]
  by_cases c1:k<0\/ep<0\/65536<ep
  ·rw[zWz c1];clear hlp;simp only[zP,za3,zWA] at *;exact zW
  ·rw[zWy c1]
   cases rest with
   | nil=>
    simp only[zWA,zWZ,zP,za3] at *;exact zW
   | cons r0 rs=>
    simp only[zWD,zW1,zWW,zWM,zWI,zP,za3] at *;exact zW
 ·rw[zWz c0];clear hlp;simp only[zP,za3,zWA] at *;exact zW
def c8S(d:Dead)(ep:Int)(rest:List Message)(i:Nat):St:=⟨[(1,.d (.int .i64 ep)),(2,.ref 2 0 0),(4,.ref 4 0 0),(8,.ref 8 0 0),(9,.d (.int .i64 i))],[(2,.row [.d (zP d)]),(4,.row [.agg [.d (.int .i64 0),.xsl []]]),(8,.row [.agg [.d (.int .i64 d.cap),accC 500049 (rest.map zk)]])]++zaf 500049 (rest.map zk)⟩
def c8R(d:Dead)(rest:List Message):zT×St:=(.exit 0,⟨[(2,.ref 2 0 0),(4,.ref 4 0 0),(8,.ref 8 0 0)],[(2,.row [.d (zP d)]),(4,.row [.agg [.d (.int .i64 0),.xsl []]]),(8,.row [.agg [.d (.int .i64 d.cap),accC 500049 (rest.map zk)]])]++zaf 500049 (rest.map zk)⟩)
theorem zEf(d:Dead)(ep:Int)(hl:d.l.length<=1000):∀p:List Message×Nat,(p.2<=d.l.length/\p.1.length<=p.2)->zN G [] zh5 (c8S d ep p.1 p.2)=some (c8R d (p.1++(d.l.drop p.2).filter fun m=> !decide (m.epoch<ep))):=by
 refine zaB (fun p:List Message×Nat=>d.l.length - p.2) (fun p:List Message×Nat=>(p.2<=d.l.length/\p.1.length<=p.2)) (fun p=>c8S d ep p.1 p.2) (fun p=>some (c8R d (p.1++(d.l.drop p.2).filter fun m=> !decide (m.epoch<ep)))) fun⟨rest,i⟩ ⟨hi,hr⟩ L ih=> ?_;simp only at hi hr
 by_cases h0:i<d.l.length
 ·simp only;rw[zXf h0,zX3];have hp:=zig d.l[i] ep
  by_cases c:d.l[i].epoch<ep
  ·rw[zWY c] at hp ⊢;simp only[zZs,zWL,if_false];have i1:=ih ⟨rest,i+1⟩ ⟨by simp only;omega,by simp only;omega⟩ (by simp only;omega);clear ih c;simp only at i1;generalize c8R d (rest++(d.l.drop (i+1)).filter fun m=> !decide (m.epoch<ep))=R at *
   cases rest with
   | nil=>
    simp only[c8S,accC,zaf,zh5,zP,zWA,zWZ] at *;simp only[zNr,zp] at i1;exact zS
   | cons r0 rs=>
    simp only[c8S,accC,zaf,zh5,zP,zWD,zWM,zW1,zWW,zWI] at *;simp only[zNr,zp] at i1;exact zS
  ·rw[zW0 c] at hp ⊢;simp only[zZt,if_true];have i1:=ih ⟨rest++[d.l[i]],i+1⟩ ⟨by simp only;omega,by simp only[zWJ,zW6];omega⟩ (by simp only;omega);clear ih c;simp only[zXq,zYE] at i1;generalize c8R d (rest++d.l[i]::(d.l.drop (i+1)).filter fun m=> !decide (m.epoch<ep))=R at *
   cases rest with
   | nil=>
    simp only[c8S,accC,zaf,zh5,zP,zWA,zWZ,zWW,zW1,zWQ,zWD,zWK] at *;simp only[zNr,zp] at i1;exact zS
   | cons r0 rs=>
    simp only[c8S,accC,zaf,zh5,zP,zWA,zWQ,zWD,zWM,zW1,zWW,zWI,zWJ,zWK] at *;simp only[zNr,zp] at i1;exact zS
 ·clear ih;obtain rfl:i=d.l.length:=by omega
  simp only[zXp,zYv,zWZ,c8R]
  cases rest with
  | nil=>
   simp only[c8S,accC,zaf,zh5,zP,zWA,zWZ] at *;exact zS
  | cons r0 rs=>
   simp only[c8S,accC,zaf,zh5,zP,zWD,zWM,zW1,zWW,zWI] at *;exact zS
theorem zEM(d:Dead)(ep:Int)(hL:d.l.length<=1000):zh G 244 [.d (zP d),.d (.int .i64 ep)] []=some (.d (.tup [zP (zgF d ep).1,.int .i64 (zgF d ep).2.1,.int .i64 (zgF d ep).2.2]),[]):=by
 have hv:=zmV d hL;have hlp:=zEf d ep hL ⟨[],0⟩ ⟨by simp,by simp⟩;have hln:=zXJ (fun m:Message=> !decide (m.epoch<ep)) d.l;unfold zgF;generalize zcm d=v at *;simp only[zXg,zWW] at hlp;generalize (d.l.filter fun m=> !decide (m.epoch<ep))=rest at *;simp only[c8R,c8S,accC,zaf,zWA,zWZ,zWK,zWV,zX1] at *
 by_cases c0:v=0
 ·subst c0;simp only[ne_eq,zWR,if_false]
  by_cases c1:ep<0\/65536<ep
  ·rw[zWz c1];clear hlp;simp only[zP,za3,zWA] at *;exact zW
  ·rw[zWy c1]
   cases rest with
   | nil=>
    simp only[zWA,zWZ,zWK,zP,za3] at *;exact zW
   | cons r0 rs=>
    simp only[zWD,zW1,zWW,zWM,zWI,zP,za3] at *;exact zW
 ·rw[zWz c0];clear hlp;simp only[zP,za3,zWA] at *;exact zW
theorem VS.lapse{n h:Nat}{L:List Message}{t:Table}{lo hi:Int}(v:VS n h L t lo hi){y:zx}(hy:y∈t.l):
    ∃t' h2 L',z8 t y.msg.id=(t',y.msg,0)/\pbD (rg n h L) y.msg=(rg n h2 L',0)/\VS n h2 L' t' lo hi/\(y::t'.l).Perm t.l:=by
 obtain⟨t',r1,r2,r3⟩:=v.rel hy;have hmv:zak y.msg=0:=((zfM t.l).1 (zhD v.2.2.2.2.2.2.2.2.1).2.1).2 _ hy |>.1;have hlen:=r3.length_eq;simp only[zWI] at hlen;obtain⟨h2,L',q1,q2,q3,q4⟩:=r2.back hmv (v.2.2.2.2.2.2.2.2.2.1 _ hy) (by have:=v.2.2.2.1;omega) (v.gone r3) y.msg.count;rw[<- zBn] at q1;have hr:(z8 t y.msg.id).2.2=0:=by
  have c:(zaC (mkS n h L t lo hi) y.msg.id).2.2=0:=by rw[r1]
  unfold zaC at c
  split at c
  ·rename_i q;exact q
  ·exact c
 unfold zaC at r1;rw[zWz (show (z8 (mkS n h L t lo hi).leases y.msg.id).2.2=0 from hr)] at r1;have a1:=congrArg (fun p:Shard×Message×Int=>p.1.leases) r1;have a2:=congrArg (fun p:Shard×Message×Int=>p.2.1) r1;refine⟨t',h2,L',?_,q1,q2,r3⟩;change (z8 t y.msg.id).1=t' at a1;change (z8 t y.msg.id).2.1=y.msg at a2;rw[<- a1, <- a2, <- hr];exact Prod.ext rfl (Prod.ext (by simp only;rw[a2];exact a2) (by simp only;rw[a2]))
theorem zyF{n h:Nat}{L:List Message}{t:Table}{lo hi:Int}{y:zx}{t':Table}{h2:Nat}{L':List Message}(r1:z8 t y.msg.id=(t',y.msg,0))(r2:pbD (rg n h L) y.msg=(rg n h2 L',0))(l:List Int):
    zcF (y.msg.id::l) (mkS n h L t lo hi)=zcF l (mkS n h2 L' t' lo hi):=by
 have hs:zaC (mkS n h L t lo hi) y.msg.id=(mkS n h L t' lo hi,y.msg,0):=by
  unfold zaC;rw[zWz (show (z8 (mkS n h L t lo hi).leases y.msg.id).2.2=0 by rw[show (mkS n h L t lo hi).leases=t from rfl,r1])];rw[show (mkS n h L t lo hi).leases=t from rfl,r1];rfl
 rw[zcF,hs];simp only[ne_eq,zWR,if_false];rw[show (mkS n h L t' lo hi).ready=rg n h L from rfl,r2];simp only[zWR,if_false];rfl
structure E7 where
 h:Nat
 L:List Message
 t:Table
 i:Nat
def e7S(n:Nat)(lo hi:Int)(u:List Int)(p:E7):St:=⟨[(4,.ref 4 0 0),(8,.ref 8 0 0),(12,.d (.sl (zt u))),(13,.d (.int .i64 p.i))],[(4,.row [.d (zj (mkS n p.h p.L p.t lo hi))]),(8,.row [shZ])]⟩
def e7R(u:List Int)(x:Shard×Int):zT×St:=(.exit 0,⟨[(4,.ref 4 0 0),(8,.ref 8 0 0),(12,.d (.sl (zt u)))],[(4,.row [.d (zj x.1)]),(8,.row [shZ])]⟩)
theorem zGg(n:Nat)(lo hi:Int)(u:List Int)(hu:u.length<=12):∀p:E7,(VS n p.h p.L p.t lo hi/\p.i<=u.length/\(∀id∈u.drop p.i,∃y∈p.t.l,y.msg.id=id)/\(u.drop p.i).Nodup)->zN G [] zn7 (e7S n lo hi u p)=some (e7R u (zcF (u.drop p.i) (mkS n p.h p.L p.t lo hi)))/\(zcF (u.drop p.i) (mkS n p.h p.L p.t lo hi)).2=0:=by
 have key:∀p:E7,(VS n p.h p.L p.t lo hi/\p.i<=u.length/\(∀id∈u.drop p.i,∃y∈p.t.l,y.msg.id=id)/\(u.drop p.i).Nodup)->(zcF (u.drop p.i) (mkS n p.h p.L p.t lo hi)).2=0:=by
  intro⟨h,L,t,i⟩ ⟨v,_,hm,hn⟩;simp only at *;generalize u.drop i=w at *
  induction w generalizing h L t with
  | nil=>rfl
  | cons id w ih=>
   obtain⟨y,hy,rfl⟩:=hm id (.head _);obtain⟨t',h2,L',r1,r2,r3,r4⟩:=v.lapse hy;rw[zyF r1 r2];rw[zXQ] at hn;refine ih h2 L' t' r3 (fun id2 h2m=> ?_) hn.2;obtain⟨z,hz,ez⟩:=hm id2 (.tail _ h2m)
   rcases zXe.1 (r4.mem_iff.2 hz) with rfl|hz2
   ·exact absurd (ez ▸ h2m) hn.1
   ·exact⟨z,hz2,ez⟩
 intro p hp;refine⟨?_,key p hp⟩;revert p;refine zaB (fun p:E7=>u.length - p.i) (fun p:E7=>(VS n p.h p.L p.t lo hi/\p.i<=u.length/\(∀id∈u.drop p.i,∃y∈p.t.l,y.msg.id=id)/\(u.drop p.i).Nodup)) (e7S n lo hi u) (fun p=>some (e7R u (zcF (u.drop p.i) (mkS n p.h p.L p.t lo hi)))) fun⟨h,L,t,i⟩ hp LL ih=> ?_;obtain⟨v,hi1,hm,hn⟩:=hp;simp only at v hi1 hm hn
 by_cases h0:i<u.length
 ·have hd:=zXf h0;simp only;rw[hd] at hm hn ⊢;rw[zXQ] at hn;obtain⟨y,hy,ey⟩:=hm u[i] (.head _);obtain⟨t',h2,L',r1,r2,r3,r4⟩:=v.lapse hy;have i1:=ih ⟨h2,L',t',i+1⟩ ⟨r3,by simp only;omega,fun id2 h2m=>by
   simp only at h2m;obtain⟨z,hz,ez⟩:=hm id2 (.tail _ h2m)
   rcases zXe.1 (r4.mem_iff.2 hz) with rfl|hz2
   ·exact absurd (by rw[<- ey,ez];exact h2m) hn.1
   ·exact⟨z,hz2,ez⟩,hn.2⟩ (by simp only;omega)
  have tl:=zjz v.2.2.2.2.2.2.2.2.1;have c1:=zoO t y.msg.id zo zo;have c2:=zoN (rg n h L) y.msg (by have:=v.lens.1;show (mkS n h L t lo hi).ready.cells.length<=_;omega);rw[<- ey,zyF r1 r2];rw[r1] at c1;rw[r2] at c2;rw[ey] at c1;clear ih hm hn hd v r1 r2 r3 r4 tl;simp only at i1;generalize e7R u (zcF (u.drop (i+1)) (mkS n h2 L' t' lo hi))=R at *;simp only[e7S,mkS,zn7] at *;generalize rg n h2 L'=ra at *;generalize rg n h L=rb at *;generalize y.msg=m at *;obtain⟨c2',hh2,z2⟩:=ra;obtain⟨c1',hh1,z1⟩:=rb;obtain⟨tl1,th1⟩:=t;obtain⟨tl2,th2⟩:=t';clear hy ey;simp only[zj,zan,z6,zk,shZ] at *;simp only[zNr,zp] at i1;exact zS
 ·clear ih;obtain rfl:i=u.length:=by omega
  simp only[zXp,zcF,e7R,e7S,zn7];generalize mkS n h L t lo hi=s at *;simp only[zj,shZ] at *;exact zS
theorem zV0{t:Table}(h:zah t=0)(now:Int):(zdd t.heap now).Nodup:=by
 obtain⟨q1,q2,q3,q4⟩:=(zd9 t).1 h;unfold zdd;rw[zWz ((zfY _).2 q3)];have hp:=(zkX t.heap 1 (fun p q hp hq=>by omega)).2;unfold zjZ;have hn:(t.heap.map (·.2)).Nodup:=by
  have h1:=(q4.map (·.2)).nodup_iff.2;apply h1;rw[zYb];rw[zZn,zZR];exact (zh6 q2).imp (fun h=>by show _≠_;unfold zbQ;simp only[Function.comp];omega)
 have h2:((zg1 t.heap 1).map (·.2)).Nodup:=(hp.map (·.2)).nodup_iff.2 hn;exact h2.sublist ((List.filter_sublist).map _)
theorem zNP(t:Table)(now ep:Int):(zd2 t now ep).Nodup:=by
 unfold zd2
 split
 ·rename_i h;exact (zV0 h now).sublist List.filter_sublist
 ·exact zZw
theorem zNO{t:Table}{now ep id:Int}(h:id∈zd2 t now ep):∃y∈t.l,y.msg.id=id:=by
 unfold zd2 at h
 split at h
 ·rename_i ht;obtain⟨x,hx,e,_⟩:=(zCQ ht now id).1 (zX4.1 h).1;exact⟨x,hx,e⟩
 ·cases h
theorem zyH(s:Shard)(now ep lim:Int)(q:zbc s):zh G 246 [.d (zj s),.d (.int .i64 now),.d (.int .i64 ep),.d (.int .i64 lim)] []=some (.d (.tup [zj (zcE s now ep lim).1,.sl (zt (zcE s now ep lim).2.1),.int .i64 (zcE s now ep lim).2.2]),[]):=by
 have hv:=zfl s q.1 q.2.1 q.2.2;have h1:=zj0 ep;have h2:=znX lim;have h3:=zpg now;unfold zcE
 by_cases c0:zaa s=0
 ·have hus:∀b,usE s b=if b=true then 0 else 1:=fun b=>by unfold usE;rw[zWy (fun z=>z c0)]
  rw[hus];clear hus;have hb:=zgR c0;have hl:s.live=true:=by
   unfold zaa at c0;rw[zWy (fun q=>q hb)] at c0
   split at c0
   ·assumption
   ·cases c0
  obtain⟨n,h',e,v⟩:=zfZ hb hl;have hle:=zbv hb;have hla:=zRe s.leases now ep (by have:=hle.2.1;omega) (by have:=hle.2.2;omega);have hu:=zAp s.leases now ep;have hlp:=zGg n s.low s.high (zd2 s.leases now ep) hu ⟨h',zu s.ready,s.leases,0⟩ ⟨v,by simp,fun id hid=>zNO (by simpa using hid),by simpa using zNP s.leases now ep⟩;simp only[zXg] at hlp;rw[<- e] at hlp;obtain⟨hlp,hz⟩:=hlp;rw[hz];simp only[if_true];unfold e7S e7R at hlp;simp only at hlp;rw[<- e] at hlp;rw[c0] at hv;clear c0 hb hz v e hle hl;generalize (zcF (zd2 s.leases now ep) s).1=R at *;generalize zd2 s.leases now ep=u at *;generalize tiQ now=b1 at *;generalize epQ ep=b2 at *;generalize liQ lim=b3 at *;simp only[zj,zan,shZ,zw,zar,zac,zWA,zt,zWV] at *
  cases b1
  ·clear hlp;simp only[zXr,zWL,if_false,ne_eq,zXd,if_true,Int.reduceEq]
   cases b2
   ·exact zW
   cases b3
   ·exact zW
   ·exact zW
  cases b2
  ·clear hlp;simp only[zXr,zXW,zWL,if_false,ne_eq,zXd,if_true,Int.reduceEq];exact zW
  cases b3
  ·clear hlp;simp only[zXW,zWL,if_false,ne_eq,zXd,if_true,Int.reduceEq];exact zW
  ·simp only[zXV,if_true,ne_eq,zWR,if_false] at *;exact zW
 ·have hus:∀b,usE s b=zaa s:=fun b=>by unfold usE;rw[zWz c0]
  rw[hus,zWz c0];clear hus;generalize zaa s=v at *;simp only[zj,zw,zar,zac,zWA,zt] at *;exact zW
def idG(i:Int):Grant:=⟨i,0,0,0⟩
def unA(s:Section):AV:= .agg [.d (.sl (s.shards.map zj)),.d (.int .i64 s.dead.cap),.d (.sl (s.dead.l.map zk)),.xsl [],.xsl [],.xsl []]
def evA(t:zi)(kind:Int)(c:AV):AV:= .agg [.d (.int .i64 t.sec.snap.stamp),.d (.int .i64 t.number),.d (.int .i64 t.entry),.d (.int .i64 kind),.d (.int .i64 t.sec.snap.clock),.d (.int .i64 t.sec.snap.epoch),.d (.int .i64 0),c,.d (.int .i64 0),.d (.int .i64 0)]
def zev:AV:= .agg [.d (.int .i64 0),.d (.int .i64 0),.xsl [],.xsl [],.d (.int .i64 0),.d (.int .i64 0),.d (.int .i64 0)]
def zjk:AV:= .agg [.xsl [],.d (.int .i64 0),.xsl [],.xsl [],.xsl [],.xsl []]
def zjy(t:zi)(x:Shard)(u:List Int)(out:List Int)(i:Nat):St:=⟨[(2,.ref 2 0 0),(3,.ref 3 0 0),(5,.ref 5 0 0),(14,.ref 14 0 0),(15,.d (.sl (zt u))),(17,.ref 17 0 0),(18,.d (.int .i64 i))],[(2,.row [zjk]),(3,.row [zev]),(5,.row [unA t.sec]),(14,.row [.d (zj x)]),(17,.row [evA t 10 (accC 500115 ((out.map idG).map zbJ))])]++zaf 500115 ((out.map idG).map zbJ)⟩
def zmP(t:zi)(x:Shard)(u:List Int)(out:List Int):zT×St:=(.exit 0,⟨[(2,.ref 2 0 0),(3,.ref 3 0 0),(5,.ref 5 0 0),(14,.ref 14 0 0),(15,.d (.sl (zt u))),(17,.ref 17 0 0)],[(2,.row [zjk]),(3,.row [zev]),(5,.row [unA t.sec]),(14,.row [.d (zj x)]),(17,.row [evA t 10 (accC 500115 ((out.map idG).map zbJ))])]++zaf 500115 ((out.map idG).map zbJ)⟩)
theorem zU5(t:zi)(x:Shard)(u:List Int)(hu:u.length<=1000):∀p:List Int×Nat,(p.2<=u.length/\p.1.length<=p.2)->zN G [] zkl (zjy t x u p.1 p.2)=some (zmP t x u (p.1++u.drop p.2)):=by
 refine zaB (fun p:List Int×Nat=>u.length - p.2) (fun p:List Int×Nat=>(p.2<=u.length/\p.1.length<=p.2)) (fun p=>zjy t x u p.1 p.2) (fun p=>some (zmP t x u (p.1++u.drop p.2))) fun⟨out,i⟩ ⟨hi,hr⟩ L ih=> ?_;simp only at hi hr
 by_cases h0:i<u.length
 ·simp only;rw[zXf h0];have i1:=ih ⟨out++[u[i]],i+1⟩ ⟨by simp only;omega,by simp only[zWJ,zW6];omega⟩ (by simp only;omega);clear ih;simp only[zXq,zYE] at i1;have hG:D.agg [D.int .i64 u[i],D.int .i64 0,D.int .i64 0,D.int .i64 0]=zbJ (idG u[i]):=rfl;generalize zmP t x u (out++u[i]::u.drop (i+1))=R at *
  cases out with
  | nil=>
   simp only[zjy,accC,zaf,evA,zev,zjk,unA,zkl,zWA,zWZ,zWW,zW1,zWQ,zWD,zWK] at *;simp only[zNr,zp] at i1;exact zS
  | cons r0 rs=>
   simp only[zjy,accC,zaf,evA,zev,zjk,unA,zkl,zWA,zWQ,zWD,zWM,zW1,zWW,zWI,zWJ,zWK] at *;simp only[zNr,zp] at i1;exact zS
 ·clear ih;obtain rfl:i=u.length:=by omega
  simp only[zXp,zWZ,zmP]
  cases out with
  | nil=>
   simp only[zjy,accC,zaf,evA,zev,zjk,unA,zkl,zWA,zWZ] at *;exact zS
  | cons r0 rs=>
   simp only[zjy,accC,zaf,evA,zev,zjk,unA,zkl,zWD,zWM,zW1,zWW,zWI] at *;exact zS
theorem zyG(s:Shard)(now ep lim:Int):(zcE s now ep lim).2.1.length<=12:=by
 unfold zcE
 split
 ·simp
 split
 ·exact zAp _ _ _
 ·simp
theorem zQJ{u:Setup}{N:Int}{t:zi}(hs:SI u N t.sec)(hk:t.sec.shards.length<=1):zh G 177 [.d (zd t)] []=some (.d (.tup [zY (zdb t).1,zZ (zdb t).2.1,.sl ((zdb t).2.2.map zad)]),[]):=by
 have hu:=zhE t.sec;unfold zdb;simp only
 by_cases c0:t.sec.shards.length=0
 ·rw[zWz c0];have hcd:=zEM t.sec.dead t.sec.snap.epoch (by have:=hs.dv;omega);have e0:t.sec.shards=[]:=zXk.1 c0;generalize zgF t.sec.dead t.sec.snap.epoch=d at *;obtain⟨d1,d2,d3⟩:=d;simp only at *;clear hs hk c0
  by_cases c1:0<d2
  ·rw[zWz c1];simp only[e0,zd,zr,zY,zU,za2,zZ,z5,zP,zWA,zt,zWD] at *;clear e0;exact zW
  ·rw[zWy c1];simp only[e0,zd,zr,zY,zU,za2,zZ,z5,zP,zWA,zt,zWD] at *;clear e0;exact zW
 rw[zWy c0];have hk1:t.sec.shards.length=1:=by omega
 rw[zdN hk1];have hv:=(hs.sv _ (zWH (show 0<t.sec.shards.length by omega))).1;have hb:zbc t.sec.shards[0]:=zf4 (zbv hv);clear hs hk c0
 by_cases c1:t.sec.shards[0].live=false
 ·rw[zWz c1];clear hv hb;simp only[zd,zr,zY,zU,za2,zZ,z5,zWA,zt] at *;exact zW
 rw[zWy c1];replace c1:t.sec.shards[0].live=true:=by simpa using c1
 by_cases c2:t.inv.kind=13
 ·rw[zWz c2];have hcl:=zEL t.sec.shards[0] t.sec.snap.epoch hb;generalize zgG t.sec.shards[0] t.sec.snap.epoch=x at *;obtain⟨x1,x2,x3⟩:=x;replace c2:=zWN c2;clear hv hb;simp only at *
  by_cases c3:0<x2
  ·rw[zWz c3];simp only[zd,zr,zY,zU,za2,zZ,z5,zWA,zWD,zt] at *;exact zW
  ·rw[zWy c3];simp only[zd,zr,zY,zU,za2,zZ,z5,zWA,zt] at *;exact zW
 ·rw[zWy c2];have hex:=zyH t.sec.shards[0] t.sec.snap.clock t.sec.snap.epoch t.setup.limit hb;have hel:=zyG t.sec.shards[0] t.sec.snap.clock t.sec.snap.epoch t.setup.limit;have hsn:=zkV t 10;generalize zcE t.sec.shards[0] t.sec.snap.clock t.sec.snap.epoch t.setup.limit=x at *;obtain⟨x1,u,x3⟩:=x;replace c2:=zWE c2;clear hv hb;simp only at *;have hlp:=zU5 t x1 u zo ⟨[],0⟩ ⟨by simp,by simp⟩
  cases u with
  | nil=>
   clear hlp;simp only[zWK,if_true];simp only[zd,zr,zY,zU,za2,zZ,z5,zWA,zt] at *;exact zW
  | cons u0 us=>
   rw[zWy (by simp)];simp only[zjy,zmP,accC,zaf,evA,ze7,zev,zjk,unA,idG,zck,zbT,zad,zbJ,zd,zr,zY,zU,za2,zZ,z5,zXg,zWA,zWD,zYb,zWW,zWZ,zW1,zWI,zWM,zt,Function.comp_def,zWV] at *;exact zW
theorem zz3(d:zal)(h:Int)(hL:d.l.length<=4294967296):zh G 159 [.d (zat d),.d (.int .i64 h)] []=some (.d (.int .i64 (zdf d h)),[]):=by
 have h1:=zRi d h hL;have h2:=zBA d 0 hL;unfold zdf;generalize zj9 d h=v at *;simp only[zat] at *
 by_cases c:0<=v
 ·rw[zWz c];exact zW
 ·rw[zWy c];exact zW
theorem zBV{t:zi}(hk:t.sec.shards.length=1)(hv:zV t.sec.shards[0]=0):zh G 171 [.d (zd t)] []=some (.d (.int .i64 (zfr t)),[]):=by
 have hst:=zhC t.sec.shards[0] (zf4 (zbv hv));have hb:=zmM hv;have hl:=(zbv hv).1;unfold zfr zhs;rw[zdN hk];generalize zbl t.sec.shards[0]=sd at *;have e:(if t.inv.max<(t.sec.shards[0].ready.cells.length:Int) - sd then t.inv.max else (t.sec.shards[0].ready.cells.length:Int) - sd)=(if (t.sec.shards[0].ready.cells.length:Int) - sd<t.inv.max then (t.sec.shards[0].ready.cells.length:Int) - sd else t.inv.max):=by split<;>split<;>omega
 rw[e];clear e hv;simp only[zd] at *;exact zW
def rdG(s:Shard)(m:Message):Grant:=⟨m.id,m.gen,(zcf (zbN m) s.low s.high).route,0⟩
def zjo(t:zi)(s:Shard)(d:Dead)(l:List Message)(out:List Message)(m0:AV)(hm:zf)(i:Nat):St:=⟨[(1,.ref 1 0 0),(2,.ref 2 0 0),(4,.ref 4 0 0),(5,.ref 5 0 0),(6,.ref 6 0 0),(8,.ref 8 0 0),(9,.d (.sl (l.map zk))),(11,.d (.int .i64 i))],[(1,.row [.d (zd t)]),(2,.row [m0]),(4,.row [.d (zj s)]),(5,.row [.agg [.d (.sl (t.sec.shards.map zj)),.d (.int .i64 t.sec.dead.cap),.d (.sl (t.sec.dead.l.map zk)),.xsl [],accC 77 ((out.map zbN).map zk),.xsl []]]),(6,.row [evA t 9 (accC 500094 ((out.map (rdG s)).map zbJ))]),(8,.row [.d (zP d)])]++zaf 77 ((out.map zbN).map zk)++zaf 500094 ((out.map (rdG s)).map zbJ)⟩
def tkZ:AV:= .agg [.d (.int .i64 0),.d (.int .i64 0),.d (.int .i64 0),.d (.int .i64 0),.d (.int .i64 0),.d (.int .i64 0),.d (.int .i64 0),.xsl [],.xsl [],.d (.int .i64 0),.d (.bool false),.d (.int .i64 0),.d (.int .i64 0),.d (.int .i64 0),.xsl [],.d (.int .i64 0),.d (.int .i64 0),.d (.int .i64 0),.d (.int .i64 0),.d (.int .i64 0),.d (.int .i64 0),.d (.int .i64 0),.d (.int .i64 0),.d (.int .i64 0),.d (.int .i64 0),.xsl [],.d (.int .i64 0),.d (.int .i64 0),.d (.int .i64 0),.d (.int .i64 0),.d (.int .i64 0),.d (.int .i64 0),.d (.int .i64 0),.d (.int .i64 0),.xsl [],.d (.int .i64 0),.xsl [],.xsl [],.d (.int .i64 0),.xsl [],.xsl [],.xsl [],.d (.int .i64 0),.xsl [],.xsl [],.xsl [],.xsl [],.d (.int .i64 0),.xsl [],.d (.int .i64 0),.xsl [],.xsl [],.d (.int .i64 0),.d (.int .i64 0),.d (.int .i64 0),.d (.int .i64 0),.d (.int .i64 0),.d (.int .i64 0),.d (.int .i64 0),.d (.int .i64 0),.d (.int .i64 0),.xsl [],.xsl []]
def zms(t:zi)(s:Shard)(d:Dead)(out:List Message):zT×St:=(.exit 0,⟨[(1,.ref 1 0 0),(2,.ref 2 0 0),(4,.ref 4 0 0),(5,.ref 5 0 0),(6,.ref 6 0 0),(8,.ref 8 0 0)],[(1,.row [.d (zd t)]),(2,.row [tkZ]),(4,.row [.d (zj s)]),(5,.row [.agg [.d (.sl (t.sec.shards.map zj)),.d (.int .i64 t.sec.dead.cap),.d (.sl (t.sec.dead.l.map zk)),.xsl [],accC 77 ((out.map zbN).map zk),.xsl []]]),(6,.row [evA t 9 (accC 500094 ((out.map (rdG s)).map zbJ))]),(8,.row [.d (zP d)])]++zaf 77 ((out.map zbN).map zk)++zaf 500094 ((out.map (rdG s)).map zbJ)⟩)
theorem zRu(t:zi)(s:Shard)(d:Dead)(l:List Message)(hl:l.length<=1000):∀p:List Message×Nat,(p.2<=l.length/\p.1.length<=p.2)->zN G [] zkk (zjo t s d l p.1 tkZ [] p.2)=some (zms t s d (p.1++l.drop p.2)):=by
 refine zaB (fun p:List Message×Nat=>l.length - p.2) (fun p:List Message×Nat=>(p.2<=l.length/\p.1.length<=p.2)) (fun p=>zjo t s d l p.1 tkZ [] p.2) (fun p=>some (zms t s d (p.1++l.drop p.2))) fun⟨out,i⟩ ⟨hi,hr⟩ L ih=> ?_;simp only at hi hr
 by_cases h0:i<l.length
 ·simp only;rw[zXf h0];have hrv:=zSl l[i];have hrr:zh G 229 [.d (zk (zbN l[i])),.d (.int .i64 s.low),.d (.int .i64 s.high)] []=some (.d (.agg [.int .i64 (zcf (zbN l[i]) s.low s.high).id,.int .i64 (zcf (zbN l[i]) s.low s.high).route,.int .i64 (zcf (zbN l[i]) s.low s.high).epoch,.int .i64 (zcf (zbN l[i]) s.low s.high).count,.int .i64 (zcf (zbN l[i]) s.low s.high).gen,.int .i64 (zcf (zbN l[i]) s.low s.high).sent,.str (zcf (zbN l[i]) s.low s.high).body]),[]):=zBR (zbN l[i]) s.low s.high;have i1:=ih ⟨out++[l[i]],i+1⟩ ⟨by simp only;omega,by simp only[zWJ,zW6];omega⟩ (by simp only;omega);clear ih;simp only[zXq,zYE] at i1;have hG:D.agg [D.int .i64 (zbN l[i]).id,D.int .i64 (zbN l[i]).gen,D.int .i64 (zcf (zbN l[i]) s.low s.high).route,D.int .i64 0]=zbJ (rdG s l[i]):=rfl;generalize zms t s d (out++l[i]::l.drop (i+1))=R at *
  cases out with
  | nil=>
   simp only[zjo,accC,zaf,evA,tkZ,zkk,zd,zWA,zWZ,zWW,zW1,zWQ,zWD,zWK] at *;simp only[zNr,zp] at i1;exact zS
  | cons r0 rs=>
   simp only[zjo,accC,zaf,evA,tkZ,zkk,zd,zWA,zWQ,zWD,zWM,zW1,zWW,zWI,zWJ,zWK] at *;simp only[zNr,zp] at i1;exact zS
 ·clear ih;obtain rfl:i=l.length:=by omega
  simp only[zXp,zWZ,zms]
  cases out with
  | nil=>
   simp only[zjo,accC,zaf,evA,tkZ,zkk,zd,zWA,zWZ] at *;exact zS
  | cons r0 rs=>
   simp only[zjo,accC,zaf,evA,tkZ,zkk,zd,zWD,zWM,zW1,zWW,zWI] at *;exact zS
theorem zCx{t:zi}(hk:t.sec.shards.length=1)(hb:zbc t.sec.shards[0]):zh G 220 [.d (zd t)] []=some (.d (.tup [zj (zdx t).1,.sl (zt (zdx t).2.1),.sl ((zdx t).2.2.map zaE)]),[]):=by
 have h1:=zyH t.sec.shards[0] t.sec.snap.clock t.sec.snap.epoch t.setup.limit hb;have h2:=zVb (zcE t.sec.shards[0] t.sec.snap.clock t.sec.snap.epoch t.setup.limit).1 t.inv.max t.sec.snap.clock t.inv.visibility t.sec.snap.epoch t.setup.limit (zf4 (zAj _ _ _ _));unfold zdx;simp only;rw[zdN hk];generalize zcE t.sec.shards[0] t.sec.snap.clock t.sec.snap.epoch t.setup.limit=e at *;obtain⟨e1,e2,e3⟩:=e;simp only at *;generalize zcN e1 t.inv.max t.sec.snap.clock t.inv.visibility t.sec.snap.epoch t.setup.limit=k at *;obtain⟨k1,k2,k3⟩:=k;simp only at *;have sz_e1:=zbA e1;generalize zj e1=D_e1 at *;have sz_k1:=zbA k1;generalize zj k1=D_k1 at *;simp only[zd] at *;exact zW
def zhg(K:Tok)(slot:Int)(y:zx):List UInt8:=(K.enc ⟨y.msg.id,y.msg.gen,y.msg.route,slot⟩).1
def zio(K:Tok)(t:zi)(l:List zx)(out:List zx)(i:Nat):St:=⟨[(1,.ref 1 0 0),(2,.ref 2 0 0),(3,.ref 3 0 0),(6,.d (.sl (l.map zaE))),(7,.d (.int .i64 i))],[(1,.row [.d (zd t)]),(2,.row [zev]),(3,.row [.agg [.d (.int .i64 0),.d (.int .i64 0),accC 45 ((out.map (zhg K t.slot)).map zax),accC 52 ((out.map (·.msg.body)).map .str),.d (.int .i64 0),.d (.int .i64 0),.d (.int .i64 0)]])]++zaf 45 ((out.map (zhg K t.slot)).map zax)++zaf 52 ((out.map (·.msg.body)).map .str)⟩
def zkR(K:Tok)(t:zi)(out:List zx):zT×St:=(.exit 0,⟨[(2,.ref 2 0 0),(3,.ref 3 0 0)],[(2,.row [zev]),(3,.row [.agg [.d (.int .i64 0),.d (.int .i64 0),accC 45 ((out.map (zhg K t.slot)).map zax),accC 52 ((out.map (·.msg.body)).map .str),.d (.int .i64 0),.d (.int .i64 0),.d (.int .i64 0)]])]++zaf 45 ((out.map (zhg K t.slot)).map zax)++zaf 52 ((out.map (·.msg.body)).map .str)⟩)
theorem zDv(l:List (List UInt8)):zas 1 (l.map zax)=true:=by
 induction l with
 | nil=>rfl
 | cons x l ih=>rw[zWD,ztD,ih];rfl
theorem zSz{K:Tok}(hK:zha K)(t:zi)(l:List zx)(hl:l.length<=1000):∀p:List zx×Nat,(p.2<=l.length/\p.1.length<=p.2)->zN G [] zkj (zio K t l p.1 p.2)=some (zkR K t (p.1++l.drop p.2)):=by
 refine zaB (fun p:List zx×Nat=>l.length - p.2) (fun p:List zx×Nat=>(p.2<=l.length/\p.1.length<=p.2)) (fun p=>zio K t l p.1 p.2) (fun p=>some (zkR K t (p.1++l.drop p.2))) fun⟨out,i⟩ ⟨hi,hr⟩ L ih=> ?_;simp only at hi hr
 by_cases h0:i<l.length
 ·simp only;rw[zXf h0];have hen:=hK.en ⟨l[i].msg.id,l[i].msg.gen,l[i].msg.route,t.slot⟩;have i1:=ih ⟨out++[l[i]],i+1⟩ ⟨by simp only;omega,by simp only[zWJ,zW6];omega⟩ (by simp only;omega);clear ih;simp only[zXq,zYE] at i1;have hz:∀b,(zax b).size=1:=fun _=>rfl;have hz2:∀b,(zax b).isT=false:=fun _=>rfl;generalize zkR K t (out++l[i]::l.drop (i+1))=R at *;have hal:=zDv
  cases out with
  | nil=>
   simp only[zio,accC,zaf,zev,zhg,zkj,zd,zaz,zWA,zWZ,zWW,zW1,zWQ,zWD,zWK] at *;simp only[zNr,zp] at i1;exact zS
  | cons r0 rs=>
   simp only[zio,accC,zaf,zev,zhg,zkj,zd,zaz,zWA,zWQ,zWD,zWM,zW1,zWW,zWI,zWJ,zWK] at *;simp only[zNr,zp] at i1;exact zS
 ·clear ih;obtain rfl:i=l.length:=by omega
  simp only[zXp,zWZ,zkR]
  cases out with
  | nil=>
   simp only[zio,accC,zaf,zev,zhg,zkj,zd,zWA,zWZ] at *;exact zS
  | cons r0 rs=>
   simp only[zio,accC,zaf,zev,zhg,zkj,zd,zWD,zWM,zW1,zWW,zWI] at *;exact zS
theorem zVz(mx d ep lim:Int):∀(l:List Message) (s:Shard) (out:List zx),(tkF mx d ep lim l s out).2.1.length<=out.length+l.length:=by
 intro l
 induction l with
 | nil=>intro s out;rw[tkF];simp
 | cons m l ih=>
  intro s out;rw[tkF]
  split
  ·have:=ih s out;simp only[zWI];omega
  split
  ·simp
  ·have:=ih (zfh s m d).1 (out++[(zfh s m d).2.1]);simp only[zWJ,zWI,zWK] at *;omega
theorem zCy(s:Shard)(mx now vis ep lim:Int):(zcN s mx now vis ep lim).2.1.length<=12:=by
 unfold zcN
 split
 ·simp
 split
 ·simp
 ·rename_i c _;have hl:zaa s=0:=by
   have c:=zWO.1 c;unfold zk5 at c;unfold usE at c
   split at c
   ·rename_i q;exact absurd c q
   ·rename_i q;exact zWO.1 q
  have:=zVz mx (now+vis) ep lim (zu s.ready) s [];have h12:=zhu (zgR hl);simp only[zWK] at this;omega
theorem zCz(t:zi):(zdx t).2.1.length<=12/\(zdx t).2.2.length<=12:=by
 unfold zdx;simp only;refine⟨zyG _ _ _ _,?_⟩;exact zCy _ _ _ _ _ _
theorem zSi{K:Tok}(hK:zha K){t:zi}(hk:t.sec.shards.length=1)(hb:zbc t.sec.shards[0]):zh G 163 [.d (zd t)] []=some (.d (zZ (zij K t)),[]):=by
 have ht:=zCx hk hb;have hl:=(zCz t).2;unfold zij;have hlp:=zSz hK t (zdx t).2.2 zo ⟨[],0⟩ ⟨by simp,by simp⟩;have ee:((zdx t).2.2.map fun y=>(K.enc ⟨y.msg.id,y.msg.gen,y.msg.route,t.slot⟩).1)=(zdx t).2.2.map (zhg K t.slot):=rfl;rw[ee];clear ee;generalize zdx t=r at *;obtain⟨s,u,l⟩:=r;simp only at *;have sz_s:=zbA s;generalize zj s=D_s at *;clear hb
 cases l with
 | nil=>
  simp only[zio,zkR,accC,zaf,zev,zd,zZ,z5,zXg,zWA,zWZ,zWW,zWV] at *;exact zW
 | cons l0 ls=>
  simp only[zio,zkR,accC,zaf,zev,zd,zZ,z5,zXg,zWA,zWZ,zWW,zWD,zW1,zWI,zWM,zWV] at *;exact zW
def zjm(t:zi)(s x:Shard)(u:List Int)(l:List zx)(out:List Int)(i:Nat):St:=⟨[(1,.ref 1 0 0),(2,.ref 2 0 0),(4,.ref 4 0 0),(5,.ref 5 0 0),(6,.ref 6 0 0),(7,.ref 7 0 0),(8,.d (.sl (zt u))),(9,.d (.sl (l.map zaE))),(10,.acc 10 []),(11,.ref 11 0 0),(12,.d (.int .i64 i))],[(1,.row [.d (zd t)]),(2,.row [tkZ]),(4,.row [.d (zj s)]),(5,.row [unA t.sec]),(6,.row [evA t 3 (.xsl [])]),(7,.row [.d (zj x)]),(10,.acc 0),(11,.row [evA t 10 (accC 500076 ((out.map idG).map zbJ))])]++zaf 500076 ((out.map idG).map zbJ)⟩
def zmq(t:zi)(s x:Shard)(u:List Int)(l:List zx)(out:List Int):zT×St:=(.exit 0,⟨[(1,.ref 1 0 0),(2,.ref 2 0 0),(4,.ref 4 0 0),(5,.ref 5 0 0),(6,.ref 6 0 0),(7,.ref 7 0 0),(8,.d (.sl (zt u))),(9,.d (.sl (l.map zaE))),(10,.acc 10 []),(11,.ref 11 0 0)],[(1,.row [.d (zd t)]),(2,.row [tkZ]),(4,.row [.d (zj s)]),(5,.row [unA t.sec]),(6,.row [evA t 3 (.xsl [])]),(7,.row [.d (zj x)]),(10,.acc 0),(11,.row [evA t 10 (accC 500076 ((out.map idG).map zbJ))])]++zaf 500076 ((out.map idG).map zbJ)⟩)
theorem zRs(t:zi)(s x:Shard)(u:List Int)(l:List zx)(hu:u.length<=1000):∀p:List Int×Nat,(p.2<=u.length/\p.1.length<=p.2)->zN G [] zkh (zjm t s x u l p.1 p.2)=some (zmq t s x u l (p.1++u.drop p.2)):=by
 refine zaB (fun p:List Int×Nat=>u.length - p.2) (fun p:List Int×Nat=>(p.2<=u.length/\p.1.length<=p.2)) (fun p=>zjm t s x u l p.1 p.2) (fun p=>some (zmq t s x u l (p.1++u.drop p.2))) fun⟨out,i⟩ ⟨hi,hr⟩ L ih=> ?_;simp only at hi hr
 by_cases h0:i<u.length
 ·simp only;rw[zXf h0];have i1:=ih ⟨out++[u[i]],i+1⟩ ⟨by simp only;omega,by simp only[zWJ,zW6];omega⟩ (by simp only;omega);clear ih;simp only[zXq,zYE] at i1;have hG:D.agg [D.int .i64 u[i],D.int .i64 0,D.int .i64 0,D.int .i64 0]=zbJ (idG u[i]):=rfl;generalize zmq t s x u l (out++u[i]::u.drop (i+1))=R at *;have sz_t:=zE t;generalize zd t=D_t at *
  cases out with
  | nil=>
   simp only[zjm,accC,zaf,evA,tkZ,unA,zkh,zWA,zWZ,zWW,zW1,zWQ,zWD,zWK] at *;simp only[zNr,zp] at i1;exact zS
  | cons r0 rs=>
   simp only[zjm,accC,zaf,evA,tkZ,unA,zkh,zWA,zWQ,zWD,zWM,zW1,zWW,zWI,zWJ,zWK] at *;simp only[zNr,zp] at i1;exact zS
 ·clear ih;obtain rfl:i=u.length:=by omega
  simp only[zXp,zWZ,zmq]
  cases out with
  | nil=>
   simp only[zjm,accC,zaf,evA,tkZ,unA,zkh,zWA,zWZ] at *;exact zS
  | cons r0 rs=>
   simp only[zjm,accC,zaf,evA,tkZ,unA,zkh,zWD,zWM,zW1,zWW,zWI] at *;exact zS
def zjg(s:Section)(x:Shard):AV:= .agg [.xsl [zj x],.d (.int .i64 s.dead.cap),.d (.sl (s.dead.l.map zk)),.xsl [.int .i64 0],.xsl [],.xsl []]
def zjn(t:zi)(x:Shard)(l:List zx)(evs:List D)(out:List zx)(i:Nat):St:=⟨[(1,.ref 1 0 0),(2,.ref 2 0 0),(5,.ref 5 0 0),(6,.ref 6 0 0),(9,.d (.sl (l.map zaE))),(10,.acc 10 evs),(13,.d (.int .i64 i))],[(1,.row [.d (zd t)]),(2,.row [tkZ]),(5,.row [zjg t.sec x]),(6,.row [evA t 3 (accC 500137 ((out.map zhi).map zbJ))]),(10,.acc evs.length)]++zaf 500137 ((out.map zhi).map zbJ)⟩
def zmr(t:zi)(x:Shard)(evs:List D)(out:List zx):zT×St:=(.exit 3,⟨[(1,.ref 1 0 0),(2,.ref 2 0 0),(5,.ref 5 0 0),(6,.ref 6 0 0),(10,.acc 10 evs)],[(1,.row [.d (zd t)]),(2,.row [tkZ]),(5,.row [zjg t.sec x]),(6,.row [evA t 3 (accC 500137 ((out.map zhi).map zbJ))]),(10,.acc evs.length)]++zaf 500137 ((out.map zhi).map zbJ)⟩)
theorem zBB(t:zi)(x:Shard)(l:List zx)(evs:List D)(hl:l.length<=1000):∀p:List zx×Nat,(p.2<=l.length/\p.1.length<=p.2)->zN G [] zki (zjn t x l evs p.1 p.2)=some (zmr t x evs (p.1++l.drop p.2)):=by
 refine zaB (fun p:List zx×Nat=>l.length - p.2) (fun p:List zx×Nat=>(p.2<=l.length/\p.1.length<=p.2)) (fun p=>zjn t x l evs p.1 p.2) (fun p=>some (zmr t x evs (p.1++l.drop p.2))) fun⟨out,i⟩ ⟨hi,hr⟩ L ih=> ?_;simp only at hi hr
 by_cases h0:i<l.length
 ·simp only;rw[zXf h0];have i1:=ih ⟨out++[l[i]],i+1⟩ ⟨by simp only;omega,by simp only[zWJ,zW6];omega⟩ (by simp only;omega);clear ih;simp only[zXq,zYE] at i1;have hG:D.agg [D.int .i64 l[i].msg.id,D.int .i64 l[i].msg.gen,D.int .i64 l[i].msg.route,D.int .i64 l[i].deadline]=zbJ (zhi l[i]):=rfl;generalize zmr t x evs (out++l[i]::l.drop (i+1))=R at *;have sz_t:=zE t;generalize zd t=D_t at *
  cases out with
  | nil=>
   simp only[zjn,accC,zaf,evA,tkZ,zjg,zki,zWA,zWZ,zWW,zW1,zWQ,zWD,zWK] at *;simp only[zNr,zp] at i1;exact zS
  | cons r0 rs=>
   simp only[zjn,accC,zaf,evA,tkZ,zjg,zki,zWA,zWQ,zWD,zWM,zW1,zWW,zWI,zWJ,zWK] at *;simp only[zNr,zp] at i1;exact zS
 ·clear ih;obtain rfl:i=l.length:=by omega
  simp only[zXp,zWZ,zmr]
  cases out with
  | nil=>
   simp only[zjn,accC,zaf,evA,tkZ,zjg,zki,zWA,zWZ] at *;exact zS
  | cons r0 rs=>
   simp only[zjn,accC,zaf,evA,tkZ,zjg,zki,zWD,zWM,zW1,zWW,zWI] at *;exact zS
theorem z40{p:Prop}(h:p:=by simp only[zjm,zmq,zjn,zmr,accC,zaf,evA,tkZ,unA,zjg,zd,zr,zY,zc2,zU,ze7,zck,zad,zbT,idG,zbJ,zhi,zXg,zWW,zWZ,zW1,zWI,zWK,zWM,zWA,zWD,zYb,zt,Function.comp_def,zWV] at *; exact zW):p:=h
theorem zRx{u:Setup}{N:Int}{t:zi}(hs:SI u N t.sec)(hk:t.sec.shards.length=1)(hvs:0<=t.inv.visibility/\t.inv.visibility<=1000):zh G 162 [.d (zd t)] []=some (.d (.tup [zd (zc8 t).1,.sl ((zc8 t).2.map zad)]),[]):=by
 have hb:zbc t.sec.shards[0]:=zdN hk ▸ zmG hs;have hun:=hs.un;have hu:=zhE t.sec;have ho:=zoJ t.sec.shards[0] t.walk.next hb;have hcl:=hs.sn.2;unfold zc8;simp only;rw[zdN hk]
 by_cases c0:ze2 t.sec.shards[0] t.walk.next=false
 ·rw[zWz c0];rw[c0] at ho;have hd:=zcP (t:={ t with loaded:=0 }) hs hun;generalize za8 { t with loaded:=0 } (zU t.sec)=t2 at *;have sz_t2:=zE t2;generalize zd t2=D_t2 at *;clear hs hb c0 hun;simp only[zd,zr,zY,zU,zWA,zt] at *;exact zW
 rw[zWy c0];replace c0:ze2 t.sec.shards[0] t.walk.next=true:=by simpa using c0
 rw[c0] at ho;clear c0;have hsn:=zkV { t with loaded:=0 } 3
 by_cases c1:1073741824<t.sec.snap.clock+t.inv.visibility
 ·rw[zWz c1];have hd:=zcP (t:={ t with loaded:=3 }) hs hun;generalize za8 { t with loaded:=3 } (zU t.sec)=t2 at *;have sz_t2:=zE t2;generalize zd t2=D_t2 at *;clear hs hb hun;simp only[zd,zr,zY,zU,ze7,zck,zad,zbT,zWA,zWD,zt] at *;exact zW
 rw[zWy c1];have htk:=zCx (t:={ t with loaded:=0 }) hk hb;have htl:=zCz { t with loaded:=0 };have hx:zaK (zdx { t with loaded:=0 }).1:=zq2 _ _ _ _ _ _;have hsx:=zkV { t with loaded:=0 } 10;have hwa:=zCX t.walk t.sec.shards[0].low t.sec.shards[0].high;generalize ze9 t.walk t.sec.shards[0].low t.sec.shards[0].high=wk at *;obtain⟨wk,we⟩:=wk;have hov:=zCZ wk;generalize zdx { t with loaded:=0 }=r at *;obtain⟨x,ui,l⟩:=r;simp only at *;have hl0:=zRs { t with loaded:=0 } t.sec.shards[0] x ui l zo ⟨[],0⟩ ⟨by simp,by simp⟩;have hoi:=hs.one hk hx;have eg:(l.map zhi)=l.map zhi:=rfl;clear hx eg hb
 cases ui with
 | nil=>
  simp only[zWK,zZU,if_false,false_or]
  cases l with
  | nil=>
   simp only[zWK,zZU,if_false];clear hl0
   by_cases c5:zg7 wk=true
   ·rw[zWz c5];rw[c5] at hov;clear c5;have hd:=zcP (t:={ t with loaded:=2,walk:=wk }) hs hun;generalize za8 { t with loaded:=2,walk:=wk } (zU t.sec)=t2 at *;have sz_t2:=zE t2;generalize zd t2=D_t2 at *;clear hs hun hoi;exact z40
   ·rw[zWy c5];replace c5:zg7 wk=false:=by simpa using c5
    rw[c5] at hov;clear c5;have hd:=zcP (t:={ t with loaded:=0,walk:=wk }) hs hun;generalize za8 { t with loaded:=0,walk:=wk } (zU t.sec)=t2 at *;have sz_t2:=zE t2;generalize zd t2=D_t2 at *;clear hs hun hoi;exact z40
  | cons l0 ls=>
   simp only[zWI,zY6,if_true];have hl1:=zBB { t with loaded:=1,walk:=wk } x (l0::ls) [] (by simp only[zWI] at *; omega) ⟨[],0⟩ ⟨by simp,by simp⟩;clear hl0;clear hov;have hd:=zcP (t:={ t with loaded:=1,walk:=wk }) hs hoi;generalize za8 { t with loaded:=1,walk:=wk } ({ zU t.sec with shards:=[x],order:=[0] })=t2 at *;have sz_t2:=zE t2;generalize zd t2=D_t2 at *;clear hs hun hoi;exact z40
 | cons u0 us=>
  simp only[zWI,zY6,if_true,zYP]
  cases l with
  | nil=>
   simp only[zWK,zZU,if_false]
   by_cases c5:zg7 wk=true
   ·rw[zWz c5];rw[c5] at hov;clear c5;have hd:=zcP (t:={ t with loaded:=2,walk:=wk }) hs hoi;generalize za8 { t with loaded:=2,walk:=wk } ({ zU t.sec with shards:=[x],order:=[0] })=t2 at *;have sz_t2:=zE t2;generalize zd t2=D_t2 at *;clear hs hun hoi;exact z40
   ·rw[zWy c5];replace c5:zg7 wk=false:=by simpa using c5
    rw[c5] at hov;clear c5;have hd:=zcP (t:={ t with loaded:=0,walk:=wk }) hs hoi;generalize za8 { t with loaded:=0,walk:=wk } ({ zU t.sec with shards:=[x],order:=[0] })=t2 at *;have sz_t2:=zE t2;generalize zd t2=D_t2 at *;clear hs hun hoi;exact z40
  | cons l0 ls=>
   simp only[zWI,zY6,if_true];have hl1:=zBB { t with loaded:=1,walk:=wk } x (l0::ls) [zad { zck { t with loaded:=0 } 10 with l:=(u0::us).map idG }] (by simp only[zWI] at *; omega) ⟨[],0⟩ ⟨by simp,by simp⟩;clear hov;have hd:=zcP (t:={ t with loaded:=1,walk:=wk }) hs hoi;generalize za8 { t with loaded:=1,walk:=wk } ({ zU t.sec with shards:=[x],order:=[0] })=t2 at *;have sz_t2:=zE t2;generalize zd t2=D_t2 at *;clear hs hun hoi;exact z40
end Go.Proofs.YtjalkkalhdnplaaGreat
