/-
  Sections.
-/
import Derived.Test.YtcembpbhkcbnhaaGreatB3e4d643
import Derived.Test.YtcembpbhkcbnhaaGreatBbe6df30
import Derived.Test.YtcembpbhkcbnhaaGreatB6f49cc6
import Derived.Test.YtcembpbhkcbnhaaGreatB15a29b9
set_option linter.unusedSimpArgs false
set_option linter.unusedVariables false
set_option maxHeartbeats 10000000
set_option maxRecDepth 100000
namespace Go.Proofs.YtcembpbhkcbnhaaGreat
open Go Go.Sim
def allI(s:zt):List Int:=(zaP s).map (·.id)
theorem VS.allI{n h:Nat}{L:List zj}{t:zN}{lo hi:Int}(v:VS n h L t lo hi):allI (mkS n h L t lo hi)=zeb L t:=by
 unfold _root_.Go.Proofs.YtcembpbhkcbnhaaGreat.allI zaP zeb mkS;rw[v.ord,zabF,zacQ];rfl
theorem zfw{s:zt}{b:Bool}(h:usE s b=0):zY s=0/\s.live=true:=by unfold usE zab at *; exact zF
theorem zmw{s:zt}{h:za1}{now ep:Int}(q:zcy s h now ep=true):∃y∈s.leases.l,y.msg.id=h.id:=by
 unfold zcy at q;rw[zabH] at q;have q:=q.1;unfold zdF at q
 split at q
 ·rename_i c;exact (zhH (l:=s.leases.l) h.id).1 c.2
 ·cases q
theorem zTg{x:zt}{mx now vis ep lim:Int}(h:(zcD x mx now vis ep lim).2.2=0):zY (zcD x mx now vis ep lim).1=0/\(allI (zcD x mx now vis ep lim).1).Perm (allI x):=by
 by_cases c:zlg x mx now vis ep lim=0
 ·obtain⟨hv,hl⟩:=zfw (s:=x) c;have hn:=ztU (s:=x) c;simp only[zabH,liQ,tiQ,viQ,decide_eq_true_eq] at hn
  by_cases c2:1073741824<now+vis
  ·unfold zcD at *; exact zF
  ·obtain⟨n,h',e,v⟩:=zfy hv hl;have et:zcD x mx now vis ep lim=tkF mx (now+vis) ep lim (zD x.ready) x []:=by
    unfold zcD;rw[zabn (fun q=>q c),zabn c2]
   rw[et];generalize zD x.ready=L at *;generalize x.leases=t at *;generalize x.low=lo at *;generalize x.high=hi at *;subst e;obtain⟨L',t',o',r1,r2,r3,_,_⟩:=VS.take (mx:=mx) (d:=now+vis) (ep:=ep) (lim:=lim) zo zo zo L L t [] v (fun m hm=>hm) (zac6.1 v.2.2.2.2.2.2.2.2.2.2).1;rw[r1];refine⟨r2.val,?_⟩;rw[r2.allI,v.allI];exact r3
 unfold zcD at *; exact zF
theorem VS.perm{L:List zj}{t t':zN}{y:zG}(hp:(y::t'.l).Perm t.l):(y.msg.id::zeb L t').Perm (zeb L t):=
 zade.symm.trans ((hp.map (fun x:zG=>x.msg.id)).append_left _)
theorem zTf{x:zt}{hd:za1}{now ep lim:Int}(h:(zcK x hd now ep lim).2=0):zY (zcK x hd now ep lim).1=0/\(allI (zcK x hd now ep lim).1).Perm (allI x):=by
 by_cases c:usE x (tiQ now&&(epQ ep&&liQ lim))=0
 ·by_cases c2:zcy x hd now ep=true
  ·obtain⟨hv,hl⟩:=zfw c;obtain⟨y,hy,ey⟩:=zmw c2;obtain⟨n,h',e,v⟩:=zfy hv hl;have en:zcK x hd now ep lim=if (zaG x y.msg.id).2.2≠0 then (zJ,(zaG x y.msg.id).2.2) else if (zdw (zaG x y.msg.id).1 (zaG x y.msg.id).2.1 lim).2≠0 then (zJ,(zdw (zaG x y.msg.id).1 (zaG x y.msg.id).2.1 lim).2) else ({ (zaG x y.msg.id).1 with ready:=(zdw (zaG x y.msg.id).1 (zaG x y.msg.id).2.1 lim).1 },0):=by
    unfold zcK;rw[zabn (fun q=>q c),zabo c2,ey]
   rw[en];clear en h c c2;generalize zD x.ready=L at *;generalize x.leases=t at *;generalize x.low=lo at *;generalize x.high=hi at *;subst e;obtain⟨t',r1,r2,r3⟩:=v.rel hy;have hlen:=r3.length_eq;simp only[zabu] at hlen;have hmv:zap y.msg=0:=((zfg t.l).1 (zhl v.2.2.2.2.2.2.2.2.1).2.1).2 y hy |>.1;obtain⟨h2,L',q1,q2,q3,q4⟩:=r2.back hmv (v.2.2.2.2.2.2.2.2.2.1 y hy) (by have:=v.2.2.2.1;omega) (v.gone r3) lim;rw[r1];simp only[q1,ne_eq,zabD,if_false];have e2:({ mkS n h' L t' lo hi with ready:=rg n h2 L' }:zt)=mkS n h2 L' t' lo hi:=rfl;rw[e2];refine⟨q2.val,?_⟩;rw[q2.allI,v.allI];exact (q4.append_right _).trans (VS.perm r3)
  unfold zcK at *; exact zF
 unfold zcK at *; exact zF
theorem zTc{x:zt}{hd:za1}{now ep:Int}(h:(zcS x hd now ep).2=0):zY (zcS x hd now ep).1=0/\(hd.id::allI (zcS x hd now ep).1).Perm (allI x):=by
 by_cases c:usE x (tiQ now&&epQ ep)=0
 ·by_cases c2:zcy x hd now ep=true
  ·obtain⟨hv,hl⟩:=zfw c;obtain⟨y,hy,ey⟩:=zmw c2;obtain⟨n,h',e,v⟩:=zfy hv hl;have en:zcS x hd now ep=((zaG x y.msg.id).1,(zaG x y.msg.id).2.2):=by
    unfold zcS;rw[zabn (fun q=>q c),zabo c2,ey]
   rw[en, <- ey];clear en h c c2;generalize zD x.ready=L at *;generalize x.leases=t at *;generalize x.low=lo at *;generalize x.high=hi at *;subst e;obtain⟨t',r1,r2,r3⟩:=v.rel hy;rw[r1];refine⟨r2.val,?_⟩;show (y.msg.id::_root_.Go.Proofs.YtcembpbhkcbnhaaGreat.allI (mkS n h' L t' lo hi)).Perm _;rw[r2.allI,v.allI];exact VS.perm r3
  unfold zcS at *; exact zF
 unfold zcS at *; exact zF
theorem z80{l:List zG}{k:Nat}(hk:k<l.length)(d:Int):((l.set k ⟨l[k].msg,d⟩).map fun y=>y.msg.id)=l.map fun y=>y.msg.id:=by
 refine zaer (by simp) fun i h1 h2=> ?_
 grind
theorem VS.ext{n h:Nat}{L:List zj}{t:zN}{lo hi:Int}(v:VS n h L t lo hi){id d:Int}(he:(za9 t id d).2=0):VS n h L (za9 t id d).1 lo hi/\zeb L (za9 t id d).1=zeb L t:=by
 obtain⟨x1,_,k,hk,_,x4,x5⟩:=zVr he;have hids:((za9 t id d).1.l.map fun y=>y.msg.id)=t.l.map fun y=>y.msg.id:=by rw[x5];exact z80 hk d
 have hlen:(za9 t id d).1.l.length=t.l.length:=by rw[x5,zacb]
 obtain⟨a1,a2,a3,a4,a5,a6,a7,b1,b2,b3,c⟩:=v;refine⟨⟨a1,a2,a3,by omega,a5,a6,a7,b1,x1,fun y hy=> ?_,by rw[hids];exact c⟩,by unfold zeb;rw[hids]⟩
 grind
theorem zTd{x:zt}{hd:za1}{now ep vis:Int}(h:(ze1 x hd now ep vis).2=0):zY (ze1 x hd now ep vis).1=0/\(allI (ze1 x hd now ep vis).1).Perm (allI x):=by
 unfold ze1 at h ⊢
 split at h
 ·rename_i c;exact absurd h c
 ·rename_i c;rw[zabn c];have c:=zabG.1 c
  split at h
  ·rename_i c2;rw[zabo c2]
   split at h
   ·cases h
   ·rename_i c3;rw[zabn c3]
    split at h
    ·rename_i c4;exact absurd h c4
    ·rename_i c4;rw[zabn c4];have c4:=zabG.1 c4;obtain⟨hv,hl⟩:=zfw c;obtain⟨n,h',e,v⟩:=zfy hv hl;clear h c c2 c3;generalize zD x.ready=L at *;generalize x.leases=t at *;generalize x.low=lo at *;generalize x.high=hi at *;subst e;obtain⟨v2,e2⟩:=v.ext c4;have e3:({ mkS n h' L t lo hi with leases:=(za9 t hd.id (now+vis)).1 }:zt)=mkS n h' L (za9 t hd.id (now+vis)).1 lo hi:=rfl;show zY ({ mkS n h' L t lo hi with leases:=(za9 t hd.id (now+vis)).1 }:zt)=0/\(_root_.Go.Proofs.YtcembpbhkcbnhaaGreat.allI ({ mkS n h' L t lo hi with leases:=(za9 t hd.id (now+vis)).1 }:zt)).Perm _;rw[e3];refine⟨v2.val,?_⟩;rw[v2.allI,v.allI,e2]
  ·cases h
theorem zMU(n h:Nat)(L:List zj)(t:zN)(lo hi:Int)(m:zj):pbD (mkS n h L t lo hi).ready m=zdw (mkS n h L t lo hi) m m.count:=by
 unfold zdw;rw[zabo (zads _)]
theorem VS.exp{n:Nat}{lo hi:Int}:∀(l:List Int) (h:Nat) (L:List zj) (t:zN),VS n h L t lo hi->(zcx l (mkS n h L t lo hi)).2=0->
    ∃h' L' t',(zcx l (mkS n h L t lo hi)).1=mkS n h' L' t' lo hi/\VS n h' L' t' lo hi/\(zeb L' t').Perm (zeb L t):=by
 intro l
 induction l with
 | nil=>intro h L t v _;exact⟨h,L,t,rfl,v,List.Perm.refl _⟩
 | cons id l ih=>
  intro h L t v hz;rw[zcx] at hz ⊢
  split at hz
  ·rename_i c;exact absurd hz c
  ·rename_i c;rw[zabn c];have c:=zabG.1 c;have hr:(zaf t id).2.2=0:=by
    unfold zaG at c
    split at c
    ·rename_i q;exact q
    ·exact c
   obtain⟨_,_,k,hk,_,ek,_,_⟩:=zCE hr;obtain⟨t',r1,r2,r3⟩:=v.rel (zabC hk);rw[ek] at r1;rw[r1] at hz ⊢;simp only at hz ⊢;have hmv:zap t.l[k].msg=0:=((zfg t.l).1 (zhl v.2.2.2.2.2.2.2.2.1).2.1).2 _ (zabC hk) |>.1;have hlen:=r3.length_eq;simp only[zabu] at hlen;obtain⟨h2,L',q1,q2,q3,q4⟩:=r2.back hmv (v.2.2.2.2.2.2.2.2.2.1 _ (zabC hk)) (by have:=v.2.2.2.1;omega) (v.gone r3) t.l[k].msg.count;rw[<- zMU] at q1;rw[q1] at hz ⊢;simp only[ne_eq,zabD,if_false] at hz ⊢;have e2:({ mkS n h L t' lo hi with ready:=rg n h2 L' }:zt)=mkS n h2 L' t' lo hi:=rfl;rw[e2] at hz ⊢;obtain⟨h3,L3,t3,s1,s2,s3⟩:=ih h2 L' t' q2 hz;exact⟨h3,L3,t3,s1,s2,s3.trans ((q4.append_right _).trans (VS.perm r3))⟩
theorem zTe{x:zt}{now ep lim:Int}(h:(zcw x now ep lim).2.2=0):zY (zcw x now ep lim).1=0/\(allI (zcw x now ep lim).1).Perm (allI x):=by
 unfold zcw at h ⊢
 split at h
 ·rename_i c;exact absurd h c
 ·rename_i c;rw[zabn c];have c:=zabG.1 c
  split at h
  ·rename_i c2;rw[zabo c2];obtain⟨hv,hl⟩:=zfw c;obtain⟨n,h',e,v⟩:=zfy hv hl;clear h c;generalize zdh x.leases now ep=l at *;generalize zD x.ready=L at *;generalize x.leases=t at *;generalize x.low=lo at *;generalize x.high=hi at *;subst e;obtain⟨h3,L3,t3,s1,s2,s3⟩:=VS.exp l h' L t v c2;show zY (zcx l (mkS n h' L t lo hi)).1=0/\(_root_.Go.Proofs.YtcembpbhkcbnhaaGreat.allI (zcx l (mkS n h' L t lo hi)).1).Perm _;rw[s1];refine⟨s2.val,?_⟩;rw[s2.allI,v.allI];exact s3
  ·rename_i c2;exact absurd h c2
def hB(s:zt)(h:za1)(now ep:Int):Bool:=decide (usE s (tiQ now&&epQ ep)=0)&&zcy s h now ep
def zaK(s:zt):Prop:=s.ready.cells.length<=12/\s.leases.l.length<=12/\s.leases.heap.length<=12
structure LP(x y:zt)(now vis ep lim:Int)(v:zG):Prop where
 dl:v.deadline=now+vis
 late:hB y (zdH v.msg) (now+vis) ep=false
 held:0<vis->hB y (zdH v.msg) (now+vis - 1) ep=true
 old:hB y { zdH v.msg with gen:=v.msg.gen - 1 } now ep=false
 oth:hB y { zdH v.msg with route:=(v.msg.route+1).tmod 65536 } now ep=false
 pre:hB x (zdH v.msg) now ep=false
 gen:1<=v.msg.gen/\v.msg.gen<=65536
 rt:0<=v.msg.route/\v.msg.route<=65535
 ack:0<vis->∃z,zcS y (zdH v.msg) now ep=(z,0)/\zaK z/\hB z (zdH v.msg) now ep=false/\zbb z=zbb y - 1
 nack:0<vis->∃w,zcK y (zdH v.msg) now ep lim=(w,0)/\zaK w/\hB w (zdH v.msg) now ep=false/\zbb w=zbb y
theorem zs1(r:zah)(m:zj)(hL:r.cells.length<=4294967296):zi G 223 [.d (zai r),.d (zm m)] []=some (.d (.tup [zai (pbD r m).1,.int .i64 (pbD r m).2]),[]):=by
 unfold pbD
 by_cases e1:zc3 r m=0
 ·rw[zabo e1];have e2:=zna e1;obtain⟨n,h,hrg,h1,h2,h3,h4,h5,h6⟩:=znq e2.1;have hc:r.cells.length=n:=by rw[hrg];exact zck _ _ _ _
  have hh:r.head.toNat=h:=by rw[hrg];rfl
  have hz:r.size=((zD r).length:Int):=by rw[zg9];have:=congrArg zah.size hrg;simp only[rg] at this;omega
  have hl:(zD r).length<n:=by have:=e2.2.2.1;omega
  have hi:∀x∈zD r,x.id≠m.id:=by
   intro x hx e;have h7:=e2.2.2.2;unfold zaD at h7;rw[zse] at h7;have:=h7 x hx;simp [e] at this
  have hp:=z4O h1 h2 h3 hl h5 h6 e2.2.1 hi;rw[<- hrg] at hp;rw[hc,hh];exact hp
 ·rw[zabn e1];have hpu:=zsY r m hL;generalize zc3 r m=v at *;simp only[zai,zm,zay,zabq] at *;exact zW
theorem z6A(r:zah)(m:zj)(hL:r.cells.length<=4294967296):zi G 231 [.d (zai r),.d (zm m)] []=some (.d (.tup [zai (pfD r m).1,.int .i64 (pfD r m).2]),[]):=by
 unfold pfD
 by_cases e1:zc3 r m=0
 ·rw[zabo e1];have e2:=zna e1;obtain⟨n,h,hrg,h1,h2,h3,h4,h5,h6⟩:=znq e2.1;have hc:r.cells.length=n:=by rw[hrg];exact zck _ _ _ _
  have hh:r.head.toNat=h:=by rw[hrg];rfl
  have hz:r.size=((zD r).length:Int):=by rw[zg9];have:=congrArg zah.size hrg;simp only[rg] at this;omega
  have hl:(zD r).length<n:=by have:=e2.2.2.1;omega
  have hi:∀x∈zD r,x.id≠m.id:=by
   intro x hx e;have h7:=e2.2.2.2;unfold zaD at h7;rw[zse] at h7;have:=h7 x hx;simp [e] at this
  have hp:=z4W h1 h2 h3 hl h5 h6 e2.2.1 hi;rw[<- hrg] at hp;rw[hc,hh];exact hp
 ·rw[zabn e1];have hpu:=zsY r m hL;generalize zc3 r m=v at *;simp only[zai,zm,zay,zabq] at *;exact zW
theorem zaaW(l:List zj)(i:Nat)(hi:i<l.length)(hL:l.length<=24):zi G 273 [.d (.sl (l.map zm)),.d (.int .i64 i)] []=some (.d (.sl ((l.eraseIdx i).map zm)),[]):=by
 have e:(l.eraseIdx i).map zm=(l.map zm).take i++(l.map zm).drop (i+1):=by rw[zaes,zabF,zac7,zadO]
 rw[e];have z1:=zt5 (l.take i);have z2:=zt5 (l.drop (i+1));have hb:l.length - 1<=4294967296:=by omega
 by_cases c0:i=0
 ·subst c0
  by_cases c1:l.length=1
  ·rw[zI zrE (by simp)];simp -implicitDefEqProofs (maxSteps:=4000000) (disch:=omega) only[zqM,zacg,zabJ,zh,go_sem, *]
  ·rw[zI zrE (by simp)];simp -implicitDefEqProofs (maxSteps:=4000000) (disch:=omega) only[zqM,zacg,zabJ,zh,go_sem, *]
 ·by_cases c1:i+1=l.length
  ·exact zW
  ·exact zW
theorem zBX(r:zah)(id:Int)(hL:r.cells.length<=4294967296):zi G 243 [.d (zai r),.d (.int .i64 id)] []=some (.d (.tup [zai (rmD r id).1,zm (rmD r id).2.1,.int .i64 (rmD r id).2.2]),[]):=by
 have hv:=zkS r hL
 by_cases e1:zaE r=0
 ·obtain⟨n,h,hrg,h1,h2,h3,h4,h5,h6⟩:=znq e1;have hc:r.cells.length=n:=by rw[hrg];exact zck _ _ _ _
  have hh:r.head.toNat=h:=by rw[hrg];rfl
  have ho:=zi7 (wN n h (zD r) (zD r).length) h (zD r).length (by rw[zck];exact h2) (by rw[zck];exact h3) (by rw[zck];exact h4);rw[zkN h1 h4] at ho;have hix:=ziQ (zD r) id zo;rw[e1] at hv
  by_cases e2:zaD (zD r) id<0
  ·have he:rmE r id=4:=by unfold rmE;rw[zabn (fun hc=>hc e1),zabo e2]
   have hd:rmD r id=(zay,zaa,4):=by unfold rmD;rw[he,zabn (by decide)]
   rw[hd];clear he hd h5 h6 e1 hc hh;generalize zaD (zD r) id=q at *;generalize zD r=L at *;subst hrg;simp only[zai,rg,zay,zaa,zm,zabq] at *;exact zW
  ·have he:rmE r id=0:=by unfold rmE;rw[zabn (fun hc=>hc e1),zabn e2]
   have hd:rmD r id=(rg n h ((zD r).eraseIdx (zaD (zD r) id).toNat),(zD r).getD (zaD (zD r) id).toNat zaa,0):=by unfold rmD;rw[zabo he,hc,hh]
   have hk:=zHT (show 0<=zaD (zD r) id by omega);obtain⟨k,hkk⟩:∃k:Nat,zaD (zD r) id=k:=⟨(zaD (zD r) id).toNat,by omega⟩;rw[hd];rw[hkk] at hix hk e2 ⊢;rw[zab5] at hk ⊢;have hw:=zaaW (zD r) k hk zo;have hwi:=ztV (wN n h (zD r) (zD r).length) h (zD r).length h ((zD r).eraseIdx k) (by rw[zck];omega) (by rw[zck];omega) zo (by rw[zck,zaeu,zabo hk];omega);rw[zck] at hwi;rw[zh hk];have e3:rg n h ((zD r).eraseIdx k)=⟨wN n h ((zD r).eraseIdx k) ((zD r).eraseIdx k).length,h,((zD r).eraseIdx k).length⟩:=rfl;rw[e3];clear he hd h5 h6 e1 hc hh hkk e2 e3;have hlen:((zD r).eraseIdx k).length<=12:=by rw[zaeu,zabo hk];omega
   generalize wN n h ((zD r).eraseIdx k) ((zD r).eraseIdx k).length=w2 at *;generalize (zD r).eraseIdx k=l2 at *;generalize zD r=L at *;subst hrg;simp only[zai,rg,zm] at *;generalize wN n h L L.length=w at *;have zk0:=zm.eq_1;exact zW
 ·have he:rmE r id=zaE r:=by unfold rmE;rw[zabo e1]
  have hd:rmD r id=(zay,zaa,zaE r):=by unfold rmD;rw[he,zabn e1]
  rw[hd];clear he hd;generalize zaE r=v at *;simp only[zai,zay,zaa,zm,zabq] at *;exact zW
def za4(s:zt):Prop:=s.ready.cells.length<=4294967296/\s.leases.l.length<=4294967296/\s.leases.heap.length<=4294967296
theorem ztN(n:Int):zi G 244 [.d (.int .i64 n)] []=some (.d (.bool (tiQ n)),[]):=by
 unfold tiQ
 by_cases h:0<=n/\n<=1073741824
 ·rw[zabM h];obtain⟨h1,h2⟩:=h;exact zW
 ·rw[zabP h]
  by_cases h1:0<=n
  ·have h2:¬n<=1073741824:=by omega
   clear h;exact zW
  ·clear h;exact zW
theorem zRg(n:Int):zi G 232 [.d (.int .i64 n)] []=some (.d (.bool (viQ n)),[]):=by
 unfold viQ
 by_cases h:0<=n/\n<=1000
 ·rw[zabM h];obtain⟨h1,h2⟩:=h;exact zW
 ·rw[zabP h]
  by_cases h1:0<=n
  ·have h2:¬n<=1000:=by omega
   clear h;exact zW
  ·clear h;exact zW
theorem zj1(n:Int):zi Go.Proofs.YtcembpbhkcbnhaaGreat.G 242 [.d (.int .i64 n)] []=some (.d (.bool (epQ n)),[]):=zHt n
theorem zsl(n:Int):zi Go.Proofs.YtcembpbhkcbnhaaGreat.G 229 [.d (.int .i64 n)] []=some (.d (.bool (liQ n)),[]):=zL5 n
theorem zTL{s:zt}(h:zY s=0)(hl:s.live=false):s.ready.size=0/\s.leases.l=[]:=by
 have h1:zaE s.ready=0:=by
  unfold zY at h
  split at h
  ·rename_i c;exact absurd h c
  ·rename_i c;exact zabG.1 c
 have hz:=(zcC h1);have h2:zao s.leases=0:=by
  have q:=h;unfold zY at q;rw[zabn (fun c=>c h1)] at q
  split at q
  ·rename_i c;exact absurd q c
  ·rename_i c;exact zabG.1 c
 rw[znA h1 h2,zabo hl] at h
 split at h
 ·cases h
 ·rename_i c;have h3:s.ready.size+(s.leases.l.length:Int)<=0:=by
   refine Classical.byContradiction fun q=>c ?_;omega
  have h5:=hz.2.2.2.2.1;exact⟨by omega,zaey zo⟩
theorem zhk(s:zt)(q:za4 s):zi G 175 [.d (zk s)] []=some (.d (.int .i64 (zbb s)),[]):=by
 obtain⟨h1,h2,h3⟩:=q;have h:=zeS s h1 h2 h3;unfold zbb
 by_cases c:zY s=0
 ·rw[zabo c]
  cases hl:s.live with
  | false=>
   obtain⟨d1,d2⟩:=zTL c hl;have hv:zab s=7:=by unfold zab;rw[zabn (fun q=>q c),hl];rfl
   rw[hv] at h;rw[d1,d2];clear c hv d1 d2;simp only[zk,hl] at *;exact zW
  | true=>
   have hv:zab s=0:=by unfold zab;rw[zabn (fun q=>q c),hl];rfl
   have hb:0<=s.ready.size/\s.ready.size<=12/\s.leases.l.length<=12:=by
    have hu:usE s true=0:=by unfold usE;rw[zabn (fun q=>q hv)];rfl
    obtain⟨d1,d2,d3,d4⟩:=zDb hu;have hz:=zcC (zDc hu);exact⟨hz.2.2.2.2.1,by have:=hz.2.2.2.2.2;omega,d3⟩
   rw[hv] at h;clear c hv;obtain⟨b1,b2,b3⟩:=hb;simp only[zk,hl] at *;exact zW
 ·rw[zabn c];have hv:zab s≠0:=by unfold zab;rw[zabo c];exact c
  clear c;generalize zab s=v at *;simp only[zk] at *;exact zW
def zen(s:zt)(r:Int):Bool:=decide (zab s=0)&&decide (s.low<=r/\r<=s.high)
theorem zsV(s:zt)(r:Int)(q:za4 s):zi G 152 [.d (zk s),.d (.int .i64 r)] []=some (.d (.bool (zen s r)),[]):=by
 obtain⟨h1,h2,h3⟩:=q;have h:=zeS s h1 h2 h3;unfold zen;generalize zab s=v at *
 by_cases c:v=0
 ·subst c;rw[zabM rfl,zacA]
  by_cases c1:s.low<=r
  ·by_cases c2:r<=s.high
   ·rw[zabM ⟨c1,c2⟩];simp only[zk] at *;exact zW
   ·rw[zabP zo];simp only[zk] at *;exact zW
  ·rw[zabP zo];simp only[zk] at *;exact zW
 ·rw[zabP c,zacd];simp only[zk] at *;exact zW
theorem zXI(s:zt)(h:za1)(now ep:Int)(q:za4 s):zi G 267 [.d (zk s),.d (zat h),.d (.int .i64 now),.d (.int .i64 ep)] []=some (.d (.bool (hB s h now ep)),[]):=by
 obtain⟨h1,h2,h3⟩:=q;have hl:=zeS s h1 h2 h3;have e1:=zj1 ep;have e2:=ztN now;have hf:=zNo s.leases h.id h2 h3;have hp:=zh7 (zdF s.leases h.id).1.msg ep;unfold hB usE zcy;generalize zab s=v at *;generalize epQ ep=b1 at *;generalize tiQ now=b2 at *;generalize zdF s.leases h.id=f at *;obtain⟨x,b⟩:=f
 by_cases c:v=0
 ·subst c
  cases b1
  ·cases b2
   ·simp only[zk,zat] at *;exact zW
   ·simp only[zk,zat] at *;exact zW
  ·cases b2
   ·simp only[zk,zat] at *;exact zW
   ·simp only[zk,zat,zau,zaI,zm,ne_eq,zabD,if_false,if_true,zacG,decide_true,zacA] at *
    cases b
    ·exact zW
    ·exact zW
 ·have e3:decide ((if v≠0 then v else if (b2&&b1)=true then 0 else 1)=0)=false:=by rw[zabo c,zabP c]
  rw[e3,zacd];clear e3;simp only[zk,zat] at *;exact zW
def zb4(s:zt)(h:za1)(now ep:Int)(b:Bool):Int:=if usE s (tiQ now&&(epQ ep&&b))≠0 then usE s (tiQ now&&(epQ ep&&b)) else if zcy s h now ep=true then 0 else 5
theorem zAp(s:zt)(h:za1)(now ep:Int)(b:Bool)(q:za4 s):zi G 227 [.d (zk s),.d (zat h),.d (.int .i64 now),.d (.int .i64 ep),.d (.bool b)] []=some (.d (.int .i64 (zb4 s h now ep b)),[]):=by
 have hl:=(zeS s q.1 q.2.1 q.2.2);have e1:=(zj1 ep);have e2:=ztN now;have hh:=zXI s h now ep q;unfold zb4 usE;unfold hB usE at hh;generalize zab s=v at *;generalize epQ ep=b1 at *;generalize tiQ now=b2 at *;generalize zcy s h now ep=hb at *
 by_cases c:v=0
 ·subst c
  cases b1
  ·cases b2<;>cases b
   all_goals
    simp only[zacJ,zacd,zacG,zabz,ne_eq,zabD,if_false,zabV,if_true] at *;clear hh;simp only[zk,zat] at *
   all_goals (exact zW)
  ·cases b2
   ·cases b
    all_goals
     simp only[zacJ,zacd,zacG,zabz,ne_eq,zabD,if_false,zabV,if_true] at *;clear hh;simp only[zk,zat] at *
    all_goals (exact zW)
   ·cases b
    ·clear hh;simp only[zk,zat] at *;exact zW
    ·simp only[zacG,ne_eq,zabD,if_false,if_true,decide_true,zacA] at *;simp only[zk,zat] at *
     cases hb
     ·exact zW
     ·exact zW
 ·clear hh;rw[zabo c,zabo c];simp only[zk,zat] at *;exact zW
theorem zAr{s:zt}{h:za1}{now ep:Int}{b:Bool}(c:usE s (tiQ now&&(epQ ep&&b))=0):zb4 s h now ep b=if zcy s h now ep=true then 0 else 5:=by
 unfold zb4;rw[zabn (fun q=>q c)]
theorem zAq{s:zt}{h:za1}{now ep:Int}{b:Bool}(c:usE s (tiQ now&&(epQ ep&&b))≠0):zb4 s h now ep b=usE s (tiQ now&&(epQ ep&&b)):=by
 unfold zb4;rw[zabo c]
theorem zmv{s:zt}{h:za1}{now ep:Int}{b:Bool}(q:zb4 s h now ep b=0):usE s (tiQ now&&(epQ ep&&b))=0/\zcy s h now ep=true:=by unfold zb4 at *; exact zF
theorem zsb{s:zt}{h:za1}{now ep:Int}{b:Bool}(q:zb4 s h now ep b=0):(zaf s.leases h.id).2.2=0/\zaK s:=by
 obtain⟨q1,q2⟩:=zmv q;have hv:=(zfw q1).1;have ht:zao s.leases=0:=by
  obtain⟨n,h',e,v⟩:=zfy hv (zfw q1).2;exact v.2.2.2.2.2.2.2.2.1
 obtain⟨d1,d2,d3,d4⟩:=zDb q1;obtain⟨y,hy,e⟩:=zmw q2;exact⟨(zCD ht).2 ((zhH (l:=s.leases.l) h.id).2 ⟨y,hy,e⟩),d2,d3,d4⟩
theorem zRH(s:zt)(h:za1)(now ep:Int):zcS s h now ep=if zb4 s h now ep true=0 then ((zaG s h.id).1,(zaG s h.id).2.2) else (zJ,zb4 s h now ep true):=by
 by_cases c:usE s (tiQ now&&(epQ ep&&true))=0
 ·rw[zAr c];unfold zcS at *; exact zF
 ·rw[zAq c,zabn c];unfold zcS at *; exact zF
theorem zRG(s:zt)(h:za1)(now ep:Int)(q:za4 s):zi G 187 [.d (zk s),.d (zat h),.d (.int .i64 now),.d (.int .i64 ep)] []=some (.d (.tup [zk (zcS s h now ep).1,.int .i64 (zcS s h now ep).2]),[]):=by
 have hh:=zAp s h now ep true q;rw[zRH]
 by_cases c:zb4 s h now ep true=0
 ·obtain⟨r1,r2⟩:=zsb c;have hr:=zs2 s.leases h.id q.2.1 q.2.2;rw[zabo c];rw[c] at hh;unfold zaG;rw[zabo r1];rw[r1] at hr;clear c r1;generalize zaf s.leases h.id=r at *;obtain⟨t,m,e⟩:=r;obtain⟨lv,lo,hi,⟨c,h',z⟩,⟨tl,th⟩⟩:=s;simp only[zk,zat,zau,zm] at *;exact zW
 ·rw[zabn c];generalize zb4 s h now ep true=v at *;simp only[zk,zat,zJ,zabq] at *;exact zW
theorem zMs{s:zt}{h:za1}{now ep lim:Int}(q:zb4 s h now ep (liQ lim)=0):(zdw { s with leases:=(zaf s.leases h.id).1 } (zaf s.leases h.id).2.1 lim).2=0:=by
 obtain⟨q1,q2⟩:=zmv q;obtain⟨r0,_⟩:=zsb q;obtain⟨hv,hl⟩:=zfw q1;obtain⟨y,hy,ey⟩:=zmw q2;obtain⟨n,h',e,v⟩:=zfy hv hl;rw[<- ey] at r0 ⊢;clear q q1 q2;generalize zD s.ready=L at *;generalize s.leases=t at *;generalize s.low=lo at *;generalize s.high=hi at *;obtain⟨t',r1,r2,r3⟩:=v.rel hy;have hlen:=r3.length_eq;simp only[zabu] at hlen;have hmv:zap y.msg=0:=((zfg t.l).1 (zhl v.2.2.2.2.2.2.2.2.1).2.1).2 y hy |>.1;obtain⟨h2,L',k1,k2,k3,k4⟩:=r2.back hmv (v.2.2.2.2.2.2.2.2.2.1 y hy) (by have:=v.2.2.2.1;omega) (v.gone r3) lim;have e1:({ mkS n h' L t lo hi with leases:=(zaf t y.msg.id).1 },(zaf t y.msg.id).2.1)=(mkS n h' L t' lo hi,y.msg):=by
  unfold zaG at r1;rw[zabo (show (zaf (mkS n h' L t lo hi).leases y.msg.id).2.2=0 from r0)] at r1;have a1:=congrArg Prod.fst r1;have a2:=congrArg (fun p=>p.2.1) r1;exact Prod.ext a1 a2
 have e2:=congrArg (fun p:zt×zj=>p.1.leases) e1;have e3:=congrArg Prod.snd e1;have er:s.ready=rg n h' L:=by rw[e];rfl
 show (zdw ⟨s.live,lo,hi,s.ready,(zaf t y.msg.id).1⟩ (zaf t y.msg.id).2.1 lim).2=0;change (zaf t y.msg.id).1=t' at e2;change (zaf t y.msg.id).2.1=y.msg at e3;rw[hl,er,e2,e3];exact congrArg Prod.snd k1
theorem zZV(s:zt)(h:za1)(now ep lim:Int):zcK s h now ep lim=if zb4 s h now ep (liQ lim)=0 then ({ s with leases:=(zaf s.leases h.id).1,ready:=(zdw { s with leases:=(zaf s.leases h.id).1 } (zaf s.leases h.id).2.1 lim).1 },0) else (zJ,zb4 s h now ep (liQ lim)):=by
 by_cases c:zb4 s h now ep (liQ lim)=0
 ·rw[zabo c];have hb:=zMs c;obtain⟨q1,q2⟩:=zmv c;obtain⟨r0,_⟩:=zsb c;unfold zcK zaG at *; exact zF
 ·rw[zabn c]
  by_cases c1:usE s (tiQ now&&(epQ ep&&liQ lim))=0
  ·rw[zAr c1] at c ⊢;unfold zcK at *; exact zF
  ·rw[zAq c1];unfold zcK;rw[zabo c1]
theorem zZU(s:zt)(h:za1)(now ep lim:Int)(q:za4 s):zi G 188 [.d (zk s),.d (zat h),.d (.int .i64 now),.d (.int .i64 ep),.d (.int .i64 lim)] []=some (.d (.tup [zk (zcK s h now ep lim).1,.int .i64 (zcK s h now ep lim).2]),[]):=by
 have hh:=zAp s h now ep (liQ lim) q;have hli:=(zsl lim);rw[zZV]
 by_cases c:zb4 s h now ep (liQ lim)=0
 ·obtain⟨r1,r2⟩:=zsb c;have hr:=zs2 s.leases h.id q.2.1 q.2.2;rw[zabo c];rw[c] at hh;rw[r1] at hr;have hp1:=(zs1 s.ready (zaf s.leases h.id).2.1 q.1);have hp2:=(z6A s.ready (zaf s.leases h.id).2.1 q.1);have hsp:=(ztH (zaf s.leases h.id).2.1 lim);have hbe:=zMs c;unfold zdw at hbe ⊢;clear c r1;generalize liQ lim=bl at *
  by_cases c2:lim<=(zaf s.leases h.id).2.1.count
  ·rw[zabo c2] at hbe ⊢;rw[zabM c2] at hsp;simp only at hbe;rw[hbe] at hp1;clear hp2 hbe c2;simp only;generalize (pbD s.ready (zaf s.leases h.id).2.1).1=p at *;generalize zaf s.leases h.id=r at *;obtain⟨t,m,e⟩:=r;obtain⟨pc,ph,pz⟩:=p;obtain⟨lv,lo,hi,⟨c,h',z⟩,⟨tl,th⟩⟩:=s;simp only[zk,zat,zau,zm,zai] at *;exact zW
  ·rw[zabn c2] at hbe ⊢;rw[zabP c2] at hsp;simp only at hbe;rw[hbe] at hp2;clear hp1 hbe c2;simp only;generalize (pfD s.ready (zaf s.leases h.id).2.1).1=p at *;generalize zaf s.leases h.id=r at *;obtain⟨t,m,e⟩:=r;obtain⟨pc,ph,pz⟩:=p;obtain⟨lv,lo,hi,⟨c,h',z⟩,⟨tl,th⟩⟩:=s;simp only[zk,zat,zau,zm,zai] at *;exact zW
 ·rw[zabn c];generalize zb4 s h now ep (liQ lim)=v at *;generalize liQ lim=bl at *;simp only[zk,zat,zJ,zabq] at *;exact zW
theorem zST(s:zt)(h:za1)(now ep vis:Int):ze1 s h now ep vis=if zb4 s h now ep (viQ vis)=0 then (if 1073741824<now+vis then (zJ,6) else ({ s with leases:=(za9 s.leases h.id (now+vis)).1 },0)) else (zJ,zb4 s h now ep (viQ vis)):=by
 by_cases c:zb4 s h now ep (viQ vis)=0
 ·rw[zabo c];obtain⟨q1,q2⟩:=zmv c;unfold ze1;rw[zabn (fun q=>q q1),zabo q2]
  by_cases c2:1073741824<now+vis
  ·rw[zabo c2,zabo c2]
  ·rw[zabn c2,zabn c2];have hn:=ztU q1;simp only[zabH,tiQ,viQ,decide_eq_true_eq] at hn;have ht:zao s.leases=0:=by
    obtain⟨n,h',e,v⟩:=zfy (zfw q1).1 (zfw q1).2;exact v.2.2.2.2.2.2.2.2.1
   obtain⟨y,hy,e⟩:=zmw q2;have he:(za9 s.leases h.id (now+vis)).2=0:=(zvo ht).2 ⟨(zhH (l:=s.leases.l) h.id).2 ⟨y,hy,e⟩,by omega,by omega⟩;rw[he];rfl
 ·rw[zabn c]
  by_cases c1:usE s (tiQ now&&(epQ ep&&viQ vis))=0
  ·rw[zAr c1] at c ⊢;unfold ze1 at *; exact zF
  ·rw[zAq c1];unfold ze1;rw[zabo c1]
theorem zSS(s:zt)(h:za1)(now ep vis:Int)(q:za4 s):zi G 189 [.d (zk s),.d (zat h),.d (.int .i64 now),.d (.int .i64 ep),.d (.int .i64 vis)] []=some (.d (.tup [zk (ze1 s h now ep vis).1,.int .i64 (ze1 s h now ep vis).2]),[]):=by
 have hh:=zAp s h now ep (viQ vis) q;have hvi:=zRg vis;rw[zST]
 by_cases c:zb4 s h now ep (viQ vis)=0
 ·have hr:=z6C s.leases h.id (now+vis) q.2.1 q.2.2;have hn:=ztU (zmv c).1;simp only[zabH,tiQ,viQ,decide_eq_true_eq] at hn;obtain⟨n1,n2,n3⟩:=hn;clear n2;rw[zabo c];rw[c] at hh;clear c;generalize viQ vis=bl at *
  by_cases c2:1073741824<now+vis
  ·rw[zabo c2];clear hr;simp only[zk,zat,zJ,zabq] at *;exact zW
  ·rw[zabn c2];generalize za9 s.leases h.id (now+vis)=r at *;obtain⟨t,e⟩:=r;obtain⟨lv,lo,hi,⟨c,h',z⟩,⟨tl,th⟩⟩:=s;simp only[zk,zat,zau] at *;exact zW
 ·rw[zabn c];generalize zb4 s h now ep (viQ vis)=v at *;generalize viQ vis=bl at *;simp only[zk,zat,zJ,zabq] at *;exact zW
theorem z6T(m:zj)(ep lim:Int):zi G 262 [.d (zm m),.d (.int .i64 ep),.d (.int .i64 lim)] []=some (.d (.bool (zf8 ep lim m)),[]):=by
 have hp:=(zNn m ep);have hs:=(ztH m lim);unfold zf8;simp only[zm] at *;exact zW
theorem zTP(m:zj):zi G 263 [.d (zm m)] []=some (.d (.tup [zm (zdz m).1,.int .i64 (zdz m).2]),[]):=by
 have hv:=(zh8 m);unfold zdz
 by_cases c:zap m=0
 ·rw[c] at hv;rw[zabn (fun q=>q c)];have hb:m.count<=8/\0<=m.count/\m.gen<=65536/\0<=m.gen:=by
   unfold zap at *; exact zF
  clear c
  by_cases c1:m.gen=65536
  ·rw[zabo c1];replace c1:=zabA c1;simp only[zm,zaa] at hv ⊢;exact zW
  ·rw[zabn c1]
   by_cases c2:m.count=8
   ·rw[zabo c2];replace c2:=zabA c2;simp only[zm,zaa] at hv ⊢;exact zW
   ·rw[zabn c2];simp only[zm] at *;exact zW
 ·rw[zabo c];generalize zap m=v at *;simp only[zm,zaa] at *;exact zW
theorem zaap{mx d ep lim:Int}:∀(l:List zj) (s:zt) (out:List zG),(out.length:Int)=mx->tkF mx d ep lim l s out=(s,out,0):=by
 intro l
 induction l with
 | nil=>intro s out _;rfl
 | cons m l ih=>intro s out h;rw[tkF,zabo (.inl h)];exact ih s out h
structure T7 where
 L:List zj
 t:zN
 out:List zG
 i:Nat
def t7S(n h:Nat)(lo hi:Int)(l:List zj)(mx now vis ep lim:Int)(p:T7):St:=⟨[(1,.d (.int .i64 mx)),(2,.d (.int .i64 now)),(3,.d (.int .i64 vis)),(4,.d (.int .i64 ep)),(5,.d (.int .i64 lim)),(6,.ref 6 0 0),(12,.ref 12 0 0),(16,.acc 16 (p.out.map zaI)),(17,.d (.sl (l.map zm))),(18,.d (.int .i64 p.i))],[(6,.row [.d (zk (mkS n h p.L p.t lo hi))]),(12,.row [shZ]),(16,.acc p.out.length)]⟩
def t7R(x:zt×List zG×Int):zX×St:=(.exit 0,⟨[(6,.ref 6 0 0),(12,.ref 12 0 0),(16,.acc 16 (x.2.1.map zaI))],[(6,.row [.d (zk x.1)]),(12,.row [shZ]),(16,.acc x.2.1.length)]⟩)
def t7I(n h:Nat)(lo hi:Int)(l:List zj)(mx:Int)(p:T7):Prop:=VS n h p.L p.t lo hi/\p.i<=l.length/\p.out.length<=p.i/\(p.out.length:Int)<=mx/\(∀m∈l.drop p.i,m∈p.L)/\((l.drop p.i).map (·.id)).Nodup
theorem z91(n h:Nat)(lo hi:Int)(l:List zj)(mx now vis ep lim:Int)(hl:l.length<=12)(hlim:lim<=8)(h1:0<=now/\now<=1073741824)(h2:0<=vis/\vis<=1000)(h3:now+vis<=1073741824):∀p,t7I n h lo hi l mx p->z6 G [] zko (t7S n h lo hi l mx now vis ep lim p)=some (t7R (tkF mx (now+vis) ep lim (l.drop p.i) (mkS n h p.L p.t lo hi) p.out)):=by
 refine zaL (fun p:T7=>l.length - p.i) (t7I n h lo hi l mx) (t7S n h lo hi l mx now vis ep lim) (fun p=>some (t7R (tkF mx (now+vis) ep lim (l.drop p.i) (mkS n h p.L p.t lo hi) p.out))) fun p hp L ih=> ?_;obtain⟨LL,t,out,i⟩:=p;obtain⟨v,hi1,ho,hmx,hm,hn⟩:=hp;simp only at v hi1 ho hmx hm hn
 by_cases h0:i<l.length
 ·have hd:=zabX h0;rw[hd] at hm hn;simp only[zabs,zacv] at hn
  by_cases c0:(out.length:Int)=mx
  ·simp only;rw[zaap _ _ _ c0];have c1:¬(out.length:Int)<mx:=by omega
   clear ih hm hn hd v c0 hmx;simp only[t7S,t7R,zko];generalize mkS n h LL t lo hi=s at *;simp only[zk,shZ] at *;exact zS
  ·have c1:(out.length:Int)<mx:=by omega
   have hr:=z6T l[i] ep lim;have hml:=hm l[i] (.head _);simp only;rw[hd,tkF]
   cases hq:zf8 ep lim l[i] with
   | false=>
    rw[zabo (.inr rfl)];rw[hq] at hr;have i1:=ih ⟨LL,t,out,i+1⟩ ⟨v,by simp only;omega,by simp only;omega,hmx,fun m q=>hm m (.tail _ q),hn.2⟩ (by simp only;omega);clear ih hm hn hd v c0 hmx hml;simp only at i1;generalize t7R (tkF mx (now+vis) ep lim (l.drop (i+1)) (mkS n h LL t lo hi) out)=R at *;simp only[t7S,zko] at *;generalize mkS n h LL t lo hi=s at *;simp only[zk,zm,shZ] at *;simp only[zNr,srcO] at i1;have zk0:=zm.eq_1;exact zS
   | true=>
    rw[zabn (by rintro (q|q);exact c0 q;cases q)];rw[hq] at hr;obtain⟨k,hk,ek,e1,e2,v2⟩:=v.dlv hml hq hlim (d:=now+vis) zo zo;obtain⟨k2,hk2,ek2,hrm⟩:=v.rem hml;obtain⟨q1,q2,q3⟩:=(zQa ep lim l[i]).1 hq;have hdel:=zGO (v.2.2.2.2.2.2.2.1 l[i] hml).1 q3 zo;have hp:=zrm LL k hk;rw[ek] at hp;have hl2:∀x∈l.drop (i+1),x∈LL.eraseIdx k:=by
     grind
    have c3:=zTP l[i];have c4:=(zBX (rg n h LL) l[i].id (by have:=v.lens.1;show (mkS n h LL t lo hi).ready.cells.length<=_;omega));have tl:=zjn v.2.2.2.2.2.2.2.2.1;have c5:=zNp t (upM l[i]) (now+vis) zo zo;have hlen:=v.lens;rw[e1];rw[zabn (by simp)];rw[hrm] at c4;rw[show zdz l[i]=(upM l[i],0) from hdel] at c3;have ekk:rg n h (LL.eraseIdx k2)=rg n h (LL.eraseIdx k):=by
     have a1:zfP (mkS n h LL t lo hi) l[i] (now+vis)=_:=e1;have a2:=congrArg (fun p:zt×zG×Int=>p.1.ready) a1;unfold zfP at a2;rw[show rmD (mkS n h LL t lo hi).ready l[i].id=(rg n h (LL.eraseIdx k2),l[i],0) from hrm] at a2;have hg:(zaF t (upM l[i]) (now+vis)).2=0:=by
      have a3:=congrArg (fun p:zt×zG×Int=>p.2.2) a1;unfold zfP at a3;rw[show rmD (mkS n h LL t lo hi).ready l[i].id=(rg n h (LL.eraseIdx k2),l[i],0) from hrm] at a3;simp only[show zdz l[i]=(upM l[i],0) from hdel,ne_eq,zabD,if_false] at a3
      by_cases hz:(zaF t (upM l[i]) (now+vis)).2=0
      ·exact hz
      ·rw[zabo (show ¬(zaF (mkS n h LL t lo hi).leases (upM l[i]) (now+vis)).2=0 from hz)] at a3;exact absurd a3 hz
     simp only[show zdz l[i]=(upM l[i],0) from hdel,ne_eq,zabD,if_false] at a2;rw[zabn (fun q=>q (show (zaF (mkS n h LL t lo hi).leases (upM l[i]) (now+vis)).2=0 from hg))] at a2;exact a2
    rw[ekk] at c4;have i1:=ih ⟨LL.eraseIdx k,(zaF t (upM l[i]) (now+vis)).1,out++[⟨upM l[i],now+vis⟩],i+1⟩ ⟨v2,by simp only;omega,by simp only[zabv,zab3];omega,by simp only[zabv,zab3];omega,hl2,hn.2⟩ (by simp only;omega);clear ih hm hn hd v v2 c0 hml e1 e2 hrm hdel hp hl2 ekk hk hk2 ek ek2;simp only at i1 ⊢;generalize t7R (tkF mx (now+vis) ep lim (l.drop (i+1)) (mkS n h (LL.eraseIdx k) (zaF t (upM l[i]) (now+vis)).1 lo hi) (out++[⟨upM l[i],now+vis⟩]))=R at *;simp only[t7S,mkS,zko,zabF,zabs,zabq] at *;generalize zaF t (upM l[i]) (now+vis)=g at *;generalize rg n h (LL.eraseIdx k)=r2 at *;generalize rg n h LL=r1 at *;obtain⟨t2,ge⟩:=g;obtain⟨c2,hh2,z2⟩:=r2;obtain⟨c1',hh1,z1⟩:=r1;obtain⟨tl1,th1⟩:=t;obtain⟨tl2,th2⟩:=t2;simp only[zk,zm,zaI,zau,zai,upM,shZ] at *;simp only[zNr,srcO] at i1;have zk0:=zm.eq_1;exact zS
 ·clear ih;obtain rfl:i=l.length:=by omega
  simp only[zab7,tkF,t7R,t7S,zko];generalize mkS n h LL t lo hi=s at *;simp only[zk,shZ] at *;exact zS
theorem z93(s:zt)(mx now vis ep lim:Int)(q:za4 s):zi G 225 [.d (zk s),.d (.int .i64 mx),.d (.int .i64 now),.d (.int .i64 vis),.d (.int .i64 ep),.d (.int .i64 lim)] []=some (.d (.tup [zk (zcD s mx now vis ep lim).1,.sl ((zcD s mx now vis ep lim).2.1.map zaI),.int .i64 (zcD s mx now vis ep lim).2.2]),[]):=by
 have hl:=(zeS s q.1 q.2.1 q.2.2);have e1:=(zj1 ep);have e2:=(zsl lim);have e3:=ztN now;have e4:=zRg vis;unfold zcD
 by_cases c:zlg s mx now vis ep lim=0
 ·rw[zabn (fun q=>q c)];obtain⟨hv,hlv⟩:=zfw (s:=s) c;have hn:=ztU (s:=s) c;have hring:=zDc (s:=s) c;have hrd:=(zje hring);have hl0:zab s=0:=by unfold zab;rw[zabn (fun q=>q hv),hlv];rfl
  rw[hl0] at hl;simp only[zabH] at hn;obtain⟨n1,n2,n3,n4,n5⟩:=hn;rw[n1] at e1;rw[n2] at e2;rw[n3] at e3;rw[n4] at e4;simp only[liQ,tiQ,viQ,decide_eq_true_eq] at n2 n3 n4 n5;obtain⟨m1,m2⟩:=n3;obtain⟨m3,m4⟩:=n4;obtain⟨m5,m6⟩:=n5
  by_cases c2:1073741824<now+vis
  ·rw[zabo c2];clear hrd hl0 c hv hring n1 n2 q hlv;simp only[zk,zJ,zabq] at *;exact zW
  ·rw[zabn c2];obtain⟨n,h,e,v⟩:=zfy hv hlv;have hnd:=(zac6.1 v.2.2.2.2.2.2.2.2.2.2).1;have hLn:(zD s.ready).length<=12:=by have:=v.2.2.2.1;have:=v.2.1;omega
   have hlp:=z91 n h s.low s.high (zD s.ready) mx now vis ep lim hLn n2.2 ⟨m1,m2⟩ ⟨m3,m4⟩ zo ⟨zD s.ready,s.leases,[],0⟩ ⟨v,by simp only;omega,by simp only[zabw];omega,by simp only[zabw];omega,fun m hm=>hm,hnd⟩;obtain⟨L',t',o',r1,_,_,_,_⟩:=VS.take (mx:=mx) (d:=now+vis) (ep:=ep) (lim:=lim) n2.2 zo zo (zD s.ready) (zD s.ready) s.leases [] v (fun m hm=>hm) hnd;simp only[t7S,t7R,zabZ] at hlp;rw[<- e] at hlp r1;rw[r1] at hlp ⊢;clear e v r1 hl0 c hv hring n1 n2 q hnd hLn hlv;generalize mkS n h L' t' s.low s.high=s2 at *;generalize zD s.ready=W at *;simp only[zabJ,zabq,zabw,zabQ] at *;simp only[zk,shZ] at *;exact zW
 ·rw[zabo c];have hu:zlg s mx now vis ep lim=if zab s≠0 then zab s else if (epQ ep&&(liQ lim&&(tiQ now&&(viQ vis&&decide (1<=mx/\mx<=6)))))=true then 0 else 1:=rfl
  rw[hu] at c ⊢;clear hu q
  by_cases c0:zab s=0
  ·rw[zabn (fun q=>q c0)] at c ⊢;rw[c0] at hl;rw[zabn (fun q=>c (by rw[zabo q]))];have hb:(epQ ep&&(liQ lim&&(tiQ now&&(viQ vis&&decide (1<=mx/\mx<=6)))))=false:=zadY.2 fun q=>c (by rw[zabo q]);clear c c0;generalize epQ ep=b1 at *;generalize liQ lim=b2 at *;generalize tiQ now=b3 at *;generalize viQ vis=b4 at *;simp only[zk,zJ,zabq] at *
   cases b1
   ·clear hb;exact zW
   ·cases b2
    ·clear hb;exact zW
    ·cases b3
     ·clear hb;exact zW
     ·cases b4
      ·clear hb;exact zW
      ·simp only[zacA,decide_eq_false_iff_not] at hb
       by_cases c1:mx<1
       ·clear hb;exact zW
       ·have c2:6<mx:=by omega
        clear hb;exact zW
  ·rw[zabo c0];clear c e1 e2 e3 e4;generalize zab s=v at *;simp only[zk,zJ,zabq] at *;exact zW
def zcB(s:zt)(m:zj):zt×Int:=
 if zab s≠0 then (zJ,zab s) else if zap m≠0 then (zJ,zap m) else if ¬(s.low<=m.route/\m.route<=s.high) then (zJ,12)
 else if s.ready.size+s.leases.l.length=s.ready.cells.length then (zJ,3) else if ((zaP s).any fun x=>decide (x.id=m.id))=true then (zJ,10) else ({ s with ready:=(pbD s.ready m).1 },0)
theorem zR1(l:List zj)(id:Int):(l.any fun m=>decide (m.id=id))=decide (0<=zaD l id):=by
 by_cases h:∃m∈l,m.id=id
 ·rw[zabM (zy5 h)];obtain⟨m,hm,e⟩:=h;exact zacm.2 ⟨m,hm,by simp [e]⟩
 ·have:zaD l id<0:=by
     unfold zaD;rw[zse];intro m hm;have:¬m.id=id:=fun e=>h ⟨m,hm,e⟩;simp [this]
  rw[zabP zo];refine zadY.2 fun q=>h ?_;obtain⟨m,hm,e⟩:=zacm.1 q;exact⟨m,hm,of_decide_eq_true e⟩
theorem zY8{s:zt}(h:zab s=0):usE s true=0:=by unfold usE;rw[zabn (fun q=>q h)];rfl
theorem zM1(s:zt)(m:zj)(q:za4 s):zi G 180 [.d (zk s),.d (zm m)] []=some (.d (.tup [zk (zcB s m).1,.int .i64 (zcB s m).2]),[]):=by
 have hlv:=(zeS s q.1 q.2.1 q.2.2);unfold zcB
 by_cases c0:zab s=0
 ·rw[zabn (fun q=>q c0)];have hu:=zY8 c0;obtain⟨d1,d2,d3,d4⟩:=zDb hu;have hring:=zDc hu;have hz:=zcC hring;have hv2:=(zh8 m);have hst:=zhk s q;have hsv:zbb s=s.ready.size+s.leases.l.length:=by unfold zbb;rw[zabo (zfw hu).1]
  rw[hsv] at hst;have hall:=(zjH hring d3);have hlm:=zQB hring d3;have hix:=(ziQ (zaP s) m.id zo);have haf:=zR1 (zaP s) m.id;have hpb:=(zs1 s.ready m zo);have hsz:s.ready.size<=12/\0<=s.ready.size:=⟨by have:=hz.2.2.2.2.2;omega,hz.2.2.2.2.1⟩;rw[c0] at hlv;rw[haf];clear hu hring hz hsv haf c0 q
  by_cases c1:zap m=0
  ·rw[zabn (fun q=>q c1)];rw[c1] at hv2
   by_cases c2:s.low<=m.route/\m.route<=s.high
   ·rw[zabn (fun q=>q c2)];obtain⟨c21,c22⟩:=c2
    by_cases c3:s.ready.size+s.leases.l.length=s.ready.cells.length
    ·rw[zabo c3];rw[c3] at hst;clear hpb hix hall c1 c3;obtain⟨lv,lo,hi,⟨c,h,z⟩,⟨tl,th⟩⟩:=s;simp only[zk,zm,zJ,zabq] at *;exact zW
    ·rw[zabn c3];generalize zaD (zaP s) m.id=fi at *;generalize zaP s=w at *;obtain⟨sz,esz⟩:∃sz,s.ready.size+s.leases.l.length=sz:=⟨_,rfl⟩;rw[esz] at hst c3;clear esz
     by_cases c5:0<=fi
     ·rw[zabM c5,zabo rfl];clear hpb c1;obtain⟨lv,lo,hi,⟨c,h,z⟩,⟨tl,th⟩⟩:=s;simp only[zk,zm,zJ,zabq] at *;exact zW
     ·rw[zabP c5,zabn (by simp)];clear c1;generalize pbD s.ready m=p at *;obtain⟨r2,e2⟩:=p;obtain⟨lv,lo,hi,⟨c,h,z⟩,⟨tl,th⟩⟩:=s;obtain⟨c2,h2,z2⟩:=r2;simp only[zk,zm,zai,zJ,zabq] at *;exact zW
   ·rw[zabo c2];clear hpb hix hall hst c1;obtain⟨lv,lo,hi,⟨c,h,z⟩,⟨tl,th⟩⟩:=s;simp only[zk,zm,zJ,zabq] at *
    by_cases c3:m.route<lo
    ·exact zW
    ·have c4:hi<m.route:=by omega
     clear c2;exact zW
  ·rw[zabo c1];clear hpb hix hall hst;generalize zap m=mv at *;obtain⟨lv,lo,hi,⟨c,h,z⟩,⟨tl,th⟩⟩:=s;simp only[zk,zm,zJ,zabq] at *;exact zW
 ·rw[zabo c0];generalize zab s=v at *;simp only[zk,zm,zJ,zabq] at *;exact zW
def zkj(r lo hi:Int):Int:=if r<0\/65536<=r\/lo<0\/65536<=hi\/hi<lo then 0 else zAu r lo hi
def zb7(m:zj)(lo hi:Int):zj:={ m with route:=zkj m.route lo hi }
def zbB(m:zj):zj:={ m with count:=0 }
def zmU(id route ep now:Int)(body:List UInt8):zj×Int:=
 if zap ⟨id,route,ep,0,0,now,body⟩≠0 then (zaa,zap ⟨id,route,ep,0,0,now,body⟩) else (⟨id,route,ep,0,0,now,body⟩,0)
def zb5(n:Int)(lo hi:Int):zt×Int:=
 if n<1\/12<n then (zJ,1) else if ¬(0<=lo/\lo<=hi/\hi<65536) then (zJ,1) else (⟨true,lo,hi,⟨List.replicate n.toNat zaa,0,0⟩,zal⟩,0)
def zfX(n:Int):zt×Int:=if n<1\/12<n then (zJ,1) else (⟨false,0,0,⟨List.replicate n.toNat zaa,0,0⟩,zal⟩,0)
def rmP(ep:Int):List zj->zah->zah
 | [],r=>r
 | m::l,r=>if m.epoch<ep then rmP ep l (rmD r m.id).1 else rmP ep l r
def zfn(ep:Int):List zG->zN->zN
 | [],t=>t
 | y::l,t=>if y.msg.epoch<ep then zfn ep l (zaf t y.msg.id).1 else zfn ep l t
def zhw(s:zt)(ep:Int):zt×Int×Int:=
 if zab s≠0 then (zJ,0,zab s) else if epQ ep=false then (zJ,0,1)
 else ({ s with ready:=rmP ep (zD s.ready) s.ready,leases:=zfn ep s.leases.l s.leases },((zD s.ready).filter fun m=>decide (m.epoch<ep)).length+(s.leases.l.filter fun y=>decide (y.msg.epoch<ep)).length,0)
def zeL(r:zah)(k:Int):zah×List zj×Int:=
 if zaE r≠0 then (zay,[],zaE r) else if k<0\/r.size<k then (zay,[],1)
 else (rg r.cells.length r.head.toNat ((zD r).take ((zD r).length - k.toNat)),(zD r).drop ((zD r).length - k.toNat),0)
def zfM(s:zt)(k:Int):zt×List zj×Int:=
 if zab s≠0 then (zJ,[],zab s) else if (zeL s.ready k).2.2≠0 then (zJ,[],(zeL s.ready k).2.2) else ({ s with ready:=(zeL s.ready k).1 },(zeL s.ready k).2.1,0)
def zeG(lo hi:Int):List zj->zt->zt×Int
 | [],s=>(s,0)
 | m::l,s=>if (zcB s (zb7 m lo hi)).2≠0 then (zJ,(zcB s (zb7 m lo hi)).2) else zeG lo hi l (zcB s (zb7 m lo hi)).1
def zgc(s:zt)(l:List zj):zt×Int:=
 if zab s≠0 then (zJ,zab s) else if (s.ready.cells.length:Int) - zbb s<l.length then (zJ,3) else zeG s.low s.high l s
def zd4(k ep lim:Int):List zj->zah->List zj->zah×List zj
 | [],r,out=>(r,out)
 | m::l,r,out=>if ¬(out.length:Int)<k then (r,out) else if lim<=m.count/\¬m.epoch<ep then zd4 k ep lim l (rmD r m.id).1 (out++[m]) else zd4 k ep lim l r out
def zfI(s:zt)(k ep lim:Int):zt×List zj×Int:=
 if zab s≠0 then (zJ,[],zab s) else if epQ ep=false\/liQ lim=false\/k<0 then (zJ,[],1)
 else ({ s with ready:=(zd4 k ep lim (zD s.ready) s.ready []).1 },(zd4 k ep lim (zD s.ready) s.ready []).2,0)
def zbA(lo hi:Int):List zj->zah->zah
 | [],r=>r
 | m::l,r=>if lo<=m.route/\m.route<=hi then zbA lo hi l (pbD r m).1 else zbA lo hi l r
def zd7(lo hi:Int):List zG->zN->zN
 | [],t=>t
 | y::l,t=>if lo<=y.msg.route/\y.msg.route<=hi then zd7 lo hi l (zaF t y.msg y.deadline).1 else zd7 lo hi l t
def zgg(s:zt)(l:List zj)(y:List zG):zt:={ s with ready:=zbA s.low s.high l s.ready,leases:=zd7 s.low s.high y s.leases }
def zdA(s:zt)(mid:Int):zt×zt×Int:=
 if zab s≠0 then (zJ,zJ,zab s) else if mid<s.low\/s.high<=mid then (zJ,zJ,1)
 else (zgg (zb5 s.ready.cells.length s.low mid).1 (zD s.ready) s.leases.l,zgg (zb5 s.ready.cells.length (mid+1) s.high).1 (zD s.ready) s.leases.l,0)
def zil(a b:zt):zt×Int:=
 if zY a≠0 then (zJ,zY a) else if zY b≠0 then (zJ,zY b)
 else if a.live=false\/b.live=false\/a.high+1≠b.low/\b.high+1≠a.low then (zJ,7)
 else if (a.ready.cells.length:Int)<zbb a+zbb b then (zJ,3)
 else if ((zaP b).any fun m=>decide (0<=zaD (zaP a) m.id))=true then (zJ,10)
 else (zgg { a with low:=if a.low<b.low then a.low else b.low,high:=if a.high<b.high then b.high else a.high } (zD b.ready) b.leases.l,0)
abbrev Stp:=zy×Task×List Event×Int
def zbv(e:Int):Stp:=(zM,zE,[],e)
structure Tok where
 route:Int->Int
 enc:za1->List UInt8×Int
 par:List UInt8->za1×Int
def sh0(t:Task):zt:=t.sec.shards.getD 0 zJ
def zdm(K:Tok)(t0:Task):Task×List Event:=
 let s:=sh0 t0
 let t:Task:={ t0 with loaded:=0 }
 let o:=z8 t.sec
 if zen s t.walk.next=false then (za5 t o,[])
 else if zbb s=s.ready.cells.length then
  (let t2:Task:={ t with walk:=(zfz t.walk s.low s.high).1 }
   if zgC t2.walk=false then (za5 t2 o,[])
   else (za5 { t2 with loaded:=2 } o,[{ zb9 t 2 with err:=3,l:=[⟨t.id,0,0,0⟩] }]))
 else
  let m:=(zmU t.id (zkj (K.route t.id) s.low s.high) t.sec.snap.epoch t.sec.snap.clock (t.inv.bodies.getD t.entry.toNat [])).1
  (za5 { t with loaded:=1 } { o with shards:=[(zcB s m).1],order:=[0] },[{ zb9 t 2 with l:=[⟨t.id,0,m.route,0⟩] }])
def zdQ(K:Tok)(a:zy)(t:Task)(n:Int):Stp:=
 if zan t 1 1≠0 then zbv (zan t 1 1)
 else if t.pc=0 then (if a.nextID=1073741824 then (a,zba { t with loaded:=a.nextID } (zaO 6) n,[{ evT t 2 n with err:=6 }],0) else (a,{ t with loaded:=a.nextID,pc:=1 },[],0))
 else if t.pc=1 then
  (let c:=casWord a 3 t.loaded (t.loaded+1)
   if c.2.2≠0 then zbv c.2.2 else (c.1,if c.2.1=true then { t with id:=t.loaded,pc:=2,walk:=(zgB (K.route t.loaded)).1 } else { t with pc:=0 },[],0))
 else if t.pc=2 then (a,zg4 a t t.walk.next 3,[],0)
 else
  let g:=goT a t n
  if g.2.2.2.2≠0 then zbv g.2.2.2.2
  else if g.2.2.1=true then (g.1,(zdm K g.2.1).1,(zdm K g.2.1).2,0)
  else if g.2.2.2.1=false then (g.1,g.2.1,[],0)
  else if g.2.1.loaded=1 then (g.1,zba g.2.1 { zac with id:=g.2.1.id } n,[],0)
  else if g.2.1.loaded=2 then (g.1,zba g.2.1 (zaO 3) n,[],0)
  else (g.1,{ g.2.1 with pc:=2 },[],0)
def zcZ(d:zabk)(h:Int):Int:=if 0<=zki d h then zki d h else zem d 0
def zda(t:Task):zt×List Int×List zG:=
 let e:=zcw (sh0 t) t.sec.snap.clock t.sec.snap.epoch t.setup.limit
 let k:=zcD e.1 t.inv.max t.sec.snap.clock t.inv.visibility t.sec.snap.epoch t.setup.limit
 (k.1,e.2.1,k.2.1)
def zib(K:Tok)(t:Task):Result:=
 { zac with tokens:=(zda t).2.2.map fun y=>(K.enc ⟨y.msg.id,y.msg.gen,y.msg.route,t.slot⟩).1,bodies:=(zda t).2.2.map fun y=>y.msg.body }
def zgY(y:zG):Grant:=⟨y.msg.id,y.msg.gen,y.msg.route,y.deadline⟩
def zdj(t0:Task):Task×List Event:=
 let s:=sh0 t0
 let t:Task:={ t0 with loaded:=0 }
 let o:=z8 t.sec
 if zen s t.walk.next=false then (za5 t o,[])
 else if 1073741824<t.sec.snap.clock+t.inv.visibility then (za5 { t with loaded:=3 } o,[{ zb9 t 3 with err:=6 }])
 else
  let r:=zda t
  let ev1:List Event:=if 0<r.2.1.length then [{ zb9 t 10 with l:=r.2.1.map fun i=>⟨i,0,0,0⟩ }] else []
  let o2:zb1:=if 0<r.2.1.length\/0<r.2.2.length then { o with shards:=[r.1],order:=[0] } else o
  let t2:Task:={ t with walk:=(zfz t.walk s.low s.high).1 }
  if 0<r.2.2.length then (za5 { t2 with loaded:=1 } o2,ev1++[{ zb9 t 3 with l:=r.2.2.map zgY }])
  else if zgC t2.walk=true then (za5 { t2 with loaded:=2 } o2,ev1++[zb9 t 3]) else (za5 t2 o2,ev1)
def zdN(K:Tok)(a:zy)(t:Task)(n:Int):Stp:=
 if zan t 2 2≠0 then zbv (zan t 2 2)
 else if t.pc=0 then (a,zb8 { t with dir:=a.dir,slot:=zcZ a.dir t.inv.home,walk:=(zgB (zld a.dir (zcZ a.dir t.inv.home)).1.low).1 } [zcZ a.dir t.inv.home] 1,[],0)
 else if t.pc=2 then (a,zg4 a t t.walk.next 1,[],0)
 else
  let g:=goT a t n
  if g.2.2.2.2≠0 then zbv g.2.2.2.2
  else if g.2.2.1=true then (g.1,(zdj g.2.1).1,(zdj g.2.1).2,0)
  else if g.2.2.2.1=false then (g.1,g.2.1,[],0)
  else if g.2.1.loaded=3 then (g.1,zba g.2.1 (zaO 6) n,[],0)
  else if g.2.1.loaded=2 then (g.1,zba g.2.1 zac n,[],0)
  else if g.2.1.loaded=1 then (g.1,zba g.2.1 (zib K g.2.1) n,[],0)
  else (g.1,{ g.2.1 with pc:=2 },[],0)
def ziG(op:Int):Int:=if op=3 then 4 else if op=4 then 5 else 6
def zdo(t:Task):zt×Int:=
 if t.inv.kind=3 then zcS (sh0 t) t.handle t.sec.snap.clock t.sec.snap.epoch
 else if t.inv.kind=4 then zcK (sh0 t) t.handle t.sec.snap.clock t.sec.snap.epoch t.setup.limit
 else ze1 (sh0 t) t.handle t.sec.snap.clock t.sec.snap.epoch t.inv.visibility
def zdn(t:Task):Task×List Event:=
 let o:=z8 t.sec
 if zen (sh0 t) t.handle.route=false then (za5 t o,[])
 else
  let x:=zdo t
  let g:Grant:=⟨t.handle.id,t.handle.gen,t.handle.route,if x.2=0/\t.inv.kind=5 then t.sec.snap.clock+t.inv.visibility else 0⟩
  (za5 t (if x.2=0 then { o with shards:=[x.1],order:=[0] } else o),[{ zb9 t (ziG t.inv.kind) with err:=x.2,l:=[g] }])
def zdS(K:Tok)(a:zy)(t:Task)(n:Int):Stp:=
 if zan t 3 5≠0 then zbv (zan t 3 5)
 else if t.pc=0 then
  (let h:=K.par (t.inv.tokens.getD t.entry.toNat [])
   if h.2≠0 then (a,zba t (zaO 5) n,[{ evT t (ziG t.inv.kind) n with err:=5 }],0)
   else (a,if h.1.hint<t.setup.slots then zb8 { t with handle:=h.1,pc:=1 } [h.1.hint] 2 else { t with handle:=h.1,pc:=1 },[],0))
 else if t.pc=1 then (a,zg4 a t t.handle.route 2,[],0)
 else
  let g:=goT a t n
  if g.2.2.2.2≠0 then zbv g.2.2.2.2
  else if g.2.2.1=true then (g.1,(zdn g.2.1).1,(zdn g.2.1).2,0)
  else if g.2.2.2.1=false then (g.1,g.2.1,[],0)
  else if zen (sh0 g.2.1) g.2.1.handle.route=false then (g.1,{ g.2.1 with pc:=1 },[],0)
  else (g.1,zba g.2.1 { zac with err:=(zdo g.2.1).2,id:=if (zdo g.2.1).2=0 then g.2.1.handle.id else 0 } n,[],0)
def zhY(a b:Int):Int:=if a<b then a else b
def zf9(t:Task):Int:=zhY t.inv.max ((sh0 t).ready.cells.length - zbb (sh0 t))
def zdk(t:Task):Task×List Event:=
 let s:=sh0 t
 let o:=z8 t.sec
 if s.live=false then (za5 t o,[])
 else if zf9 t=0 then (za5 t o,[{ zb9 t 9 with err:=3 }])
 else
  let d:=zhm t.sec.dead (zf9 t) t.sec.snap.epoch
  if d.2.1.length=0 then (za5 t o,[zb9 t 9])
  else (za5 t { o with carry:=d.2.1.map zbB,shards:=[(zgc s (d.2.1.map zbB)).1],dead:=d.1,order:=[1,0] },[{ zb9 t 9 with l:=d.2.1.map fun m=>⟨m.id,m.gen,(zb7 (zbB m) s.low s.high).route,0⟩ }])
def zdO(a:zy)(t:Task)(n:Int):Stp:=
 if zan t 8 8≠0 then zbv (zan t 8 8)
 else if t.pc=0 then (a,zb8 { t with dir:=a.dir,slot:=zcZ a.dir t.inv.home } [zcZ a.dir t.inv.home,t.setup.slots] 1,[],0)
 else
  let g:=goT a t n
  if g.2.2.2.2≠0 then zbv g.2.2.2.2
  else if g.2.2.1=true then (g.1,(zdk g.2.1).1,(zdk g.2.1).2,0)
  else if g.2.2.2.1=false then (g.1,g.2.1,[],0)
  else if (sh0 g.2.1).live=false then (g.1,{ g.2.1 with pc:=0 },[],0)
  else (g.1,zba g.2.1 { zac with moved:=g.2.1.sec.out.carry.length,err:=if zf9 g.2.1=0 then 3 else 0 } n,[],0)
abbrev Pln:=zb1×Result×List Event
def zbf(plan:Task->Pln)(lo hi:Int)(cells:Task->List Int)(a:zy)(t0:Task)(n:Int):Stp:=
 if zan t0 lo hi≠0 then zbv (zan t0 lo hi)
 else
  let t:=if t0.pc=0 then zb8 t0 (cells t0) 1 else t0
  let g:=goT a t n
  if g.2.2.2.2≠0 then zbv g.2.2.2.2
  else if g.2.2.1=true then (g.1,za5 g.2.1 (plan g.2.1).1,(plan g.2.1).2.2,0)
  else if g.2.2.2.1=false then (g.1,g.2.1,[],0)
  else (g.1,zba g.2.1 (plan g.2.1).2.1 n,[],0)
def zcL(t:Task):List Int:=if t.inv.from_<t.inv.to then [0,1] else [1,0]
def zV(t:Task):zt:=if t.inv.from_<t.inv.to then t.sec.shards.getD 0 zJ else t.sec.shards.getD 1 zJ
def zaN(t:Task):zt:=if t.inv.from_<t.inv.to then t.sec.shards.getD 1 zJ else t.sec.shards.getD 0 zJ
def zdM(t:Task)(x y:zt):List zt:=if t.inv.from_<t.inv.to then [x,y] else [y,x]
def zey(t:Task):Pln:=
 let o:=z8 t.sec
 if (zV t).live=false\/(zaN t).live=false then (o,zaO 7,[])
 else
  let k:=zhY (((zV t).ready.size+1).tdiv 2) ((zaN t).ready.cells.length - zbb (zaN t))
  if k=0 then (o,zac,[])
  else
   let d:=zfM (zV t) k
   ({ o with shards:=zdM t d.1 (zgc (zaN t) d.2.1).1,order:=zcL t,carry:=d.2.1 },{ zac with moved:=k },[])
def zew(t:Task):Pln:=
 let o:=z8 t.sec
 let s:=zV t
 if s.live=false\/(zaN t).live=true\/s.high<=s.low then (o,zaO 7,[])
 else
  let mid:=(s.low+s.high).tdiv 2
  let d:=zdA s mid
  ({ o with shards:=zdM t d.1 d.2.1,order:=zcL t,carry:=zaP d.2.1,edits:=[⟨1,t.inv.from_,t.inv.to,mid⟩] },{ zac with moved:=zbb d.2.1 },[])
def zek(t:Task):Pln:=
 let o:=z8 t.sec
 let y:=zil (zaN t) (zV t)
 if y.2≠0 then (o,zaO y.2,[])
 else ({ o with shards:=zdM t (zfX (zV t).ready.cells.length).1 y.1,order:=zcL t,carry:=zaP (zV t),edits:=[⟨2,t.inv.from_,t.inv.to,0⟩] },{ zac with moved:=zbb (zV t) },[])
def zdW(t:Task):Pln:=
 let o:=z8 t.sec
 if t.sec.shards.length=0 then
  (let d:=zhv t.sec.dead t.sec.snap.epoch
   (if 0<d.2.1 then { o with dead:=d.1,order:=[0] } else o,{ zac with moved:=d.2.1 },[]))
 else
  let s:=sh0 t
  if s.live=false then (o,zaO 7,[])
  else if t.inv.kind=13 then
   (let x:=zhw s t.sec.snap.epoch
    (if 0<x.2.1 then { o with shards:=[x.1],order:=[0] } else o,{ zac with moved:=x.2.1 },[]))
  else
   let x:=zcw s t.sec.snap.clock t.sec.snap.epoch t.setup.limit
   if x.2.1.length=0 then (o,zac,[])
   else ({ o with shards:=[x.1],order:=[0] },{ zac with moved:=x.2.1.length },[{ zb9 t 10 with l:=x.2.1.map fun i=>⟨i,0,0,0⟩ }])
def zdx(t:Task):Pln:=
 let o:=z8 t.sec
 let s:=sh0 t
 if s.live=false then (o,zaO 7,[])
 else
  let x:=zfI s (zgu t.sec.dead) t.sec.snap.epoch t.setup.limit
  if x.2.1.length=0 then (o,zac,[])
  else ({ o with shards:=[x.1],dead:=(zi9 t.sec.dead x.2.1).1,order:=[0,1],carry:=x.2.1 },{ zac with moved:=x.2.1.length },[])
def zbG(t:Task):List Int:=zeo t.inv.from_ t.inv.to
def zbZ(K:Tok)(a:zy)(t:Task)(n:Int):Stp:=
 if t.done=true then zbv 7
 else if t.inv.kind=1 then zdQ K a t n else if t.inv.kind=2 then zdN K a t n else if 3<=t.inv.kind/\t.inv.kind<=5 then zdS K a t n
 else if t.inv.kind=6 then zci a t n else if t.inv.kind=7 then zdy a t n else if t.inv.kind=8 then zdO a t n
 else if t.inv.kind=9 then zbf zey 9 9 zbG a t n else if t.inv.kind=10 then zbf zew 10 10 zbG a t n else if t.inv.kind=11 then zbf zek 11 11 zbG a t n
 else if t.inv.kind=12\/t.inv.kind=13 then zbf zdW 12 13 (fun t=>[t.inv.from_]) a t n else if t.inv.kind=14 then zbf zdx 14 14 (fun t=>[t.inv.from_,t.setup.slots]) a t n
 else zbv 9
def zbL(s:Setup):zy×Int:=
 if za3 s=false then (zM,1)
 else
  let d:=(zkD s.slots s.live).1
  ({ zM with dir:=d,epoch:=s.epoch,clock:=s.clock,nextID:=s.nextID,dead:=⟨0,⟨s.dead,[]⟩⟩,slots:=(List.range s.slots.toNat).map (fun i:Nat=>(⟨0,if (i:Int)<s.live then (zb5 s.capacity (d.l.getD i zeC).low (d.l.getD i zeC).high).1 else (zfX s.capacity).1⟩:Slot)),stripes:=List.replicate s.slots.toNat ⟨0,s.epoch,0,0⟩ },0)
def zbj(w:World):List Nat:=(List.range w.tasks.length).filter fun i=> !(w.tasks.getD i zE).done
def zcJ(w:World)(i:zaeE):World×Int×Int:=
 if 200<=w.tasks.length\/8<=(zbj w).length then (zbc,0,3)
 else if (zex (w.tasks.length+1) i w.setup w.steps).2≠0 then (zbc,0,(zex (w.tasks.length+1) i w.setup w.steps).2)
 else ({ w with tasks:=w.tasks++[(zex (w.tasks.length+1) i w.setup w.steps).1] },w.tasks.length+1,0)
def zcO(K:Tok)(w:World)(i:Nat):World×Int:=
 let t:=w.tasks.getD i zE
 let r:=zbZ K w.arena t (w.steps+1)
 if r.2.2.2≠0 then (zbc,r.2.2.2)
 else ({ w with steps:=w.steps+1,arena:=r.1,tasks:=w.tasks.set i r.2.1,log:=w.log++r.2.2.1,handles:=w.handles++((r.2.1.results.drop t.results.length).map fun x=>x.tokens).flatten },0)
def zc2(K:Tok)(w:World)(k:Int):World×Int:=
 if k<0\/((zbj w).length:Int)<=k then (zbc,4) else zcO K w ((zbj w).getD k.toNat 0)
def zdX(w:World)(by_:Int):World×Int:=
 if (zeA w.arena by_).2≠0 then (zbc,(zeA w.arena by_).2)
 else ({ w with steps:=w.steps+1,arena:=(zeA w.arena by_).1,log:=w.log++[{ zbw with stamp:=w.steps+1,kind:=1,now:=(zeA w.arena by_).1.clock }] },0)
def zf4(a b:Int):Int:=if a<b then a else b
def zbo(a b:Int):Int:=if a<b then b else a
def zeZ(K:Tok)(r:Ref)(hs:List (List UInt8)):List UInt8:=
 if r.variant=7\/hs.length=0 then r.raw
 else
  let b:=hs.getD ((zbo r.index 0).tmod hs.length).toNat []
  let h:=K.par b
  if h.2≠0 then b
  else if r.variant=5 then b.set (b.length - 1) (b.getD (b.length - 1) 0 ^^^ 1)
  else if r.variant=2\/r.variant=3\/r.variant=4 then
   (let h2:za1:=if r.variant=2 then { h.1 with gen:=h.1.gen+1 } else if r.variant=3 then { h.1 with gen:=h.1.gen - 1 } else { h.1 with route:=(h.1.route+1).tmod 65536 }
    if (K.enc h2).2≠0 then b else (K.enc h2).1)
  else b
def zh6(K:Tok)(k:Int):Nat->World->World×Int
 | 0,w=>(w,0)
 | n+1,w=>if (zbj w).length=0 then (w,0) else if (zc2 K w ((zbo k 0).tmod (zbj w).length)).2≠0 then (zbc,(zc2 K w ((zbo k 0).tmod (zbj w).length)).2) else zh6 K k n (zc2 K w ((zbo k 0).tmod (zbj w).length)).1
def doW(K:Tok)(w:World)(c:Command):World×Int:=
 let by_:=zbo 0 (zf4 c.by_ 255)
 if c.kind=1 then zh6 K c.pick by_.toNat w
 else if c.kind=2 then (if (zdX w by_).2=0 then ((zdX w by_).1,0) else (w,0))
 else if c.kind=3 then
  (let v:zaeE:=if 0<c.refs.length then { c.inv with tokens:=c.refs.map fun r=>zeZ K r w.handles } else c.inv
   if (zcJ w v).2.2=0 then ((zcJ w v).1,0) else (w,0))
 else (w,0)
def zer(K:Tok):List Command->World->World×Int
 | [],w=>(w,0)
 | c::l,w=>if (doW K w c).2≠0 then (zbc,(doW K w c).2) else zer K l (doW K w c).1
def zgw(K:Tok)(s:Setup)(l:List Command):World×Int:=
 if (zbL s).2≠0 then (zbc,(zbL s).2) else if 400<l.length then (zbc,2) else zer K l { zbc with setup:=s,arena:=(zbL s).1 }
theorem zdI(n lo hi:Int):zi G 79 [.d (.int .i64 n),.d (.int .i64 lo),.d (.int .i64 hi)] []=some (.d (.bool (inI n lo hi)),[]):=by
 unfold inI;rw[zI zW7 (by simp)];simp -implicitDefEqProofs (maxSteps:=4000000) (disch:=omega) only[zuP,zh,go_sem, *];(try simp only[zPr]);repeat' (first|done|rfl|((first|refine zad (fun hq=> ?_) (fun hq=> ?_)|refine zaj (fun hq=> ?_) (fun hq=> ?_))<;>(try (first|(exfalso;omega)|contradiction))<;>(try simp -implicitDefEqProofs (maxSteps:=4000000) (disch:=omega) only[zh,go_sem, *])<;>(try simp only[zPr])));(all_goals try rfl);(all_goals try (repeat' (first|done|rfl|(exfalso;omega)|contradiction|(refine zae (fun hq=> ?_) (fun hq=> ?_)))))
 simp only[zadD]
theorem zCP(a:zy)(i:Int)(hL:a.slots.length<=1000):zi G 190 [.d (zx a),.d (.int .i64 i)] []=some (.d (.bool (zeY a i)),[]):=by
 unfold zeY;simp only[zx];rw[zI zW8 (by simp)];simp -implicitDefEqProofs (maxSteps:=4000000) (disch:=omega) only[zuQ,zh,go_sem, *];(try simp only[zPr]);repeat' (first|done|rfl|((first|refine zad (fun hq=> ?_) (fun hq=> ?_)|refine zaj (fun hq=> ?_) (fun hq=> ?_))<;>(try (first|(exfalso;omega)|contradiction))<;>(try simp -implicitDefEqProofs (maxSteps:=4000000) (disch:=omega) only[zh,go_sem, *])<;>(try simp only[zPr])));(all_goals try rfl);(all_goals try (repeat' (first|done|rfl|(exfalso;omega)|contradiction|(refine zae (fun hq=> ?_) (fun hq=> ?_)))))
 simp only[zadD]
theorem znC{a:zy}{i:Int}(h:zeY a i=true):0<=i/\i<a.slots.length:=of_decide_eq_true h
theorem zYP(a:zy)(i:Int)(hL:a.slots.length<=1000):zi G 282 [.d (zx a),.d (.int .i64 i)] []=some (.d (.tup [zk (zg2 a i).1,.int .i64 (zg2 a i).2]),[]):=by
 have h:=zCP a i hL;unfold zg2
 cases c:zeY a i with
 | true=>
  have hq:=znC c;rw[c] at h;simp only[zx,zk,if_true] at *;have zk0:=zfU.eq_1;exact zW
 | false=>
  rw[c] at h;simp only[zx,zk,zJ,zay,zal,zabq,zabz,if_false] at *;exact zW
theorem zA4(a:zy)(i:Int)(hL:a.slots.length<=1000)(hs:a.stripes.length=a.slots.length):zi G 154 [.d (zx a),.d (.int .i64 i)] []=some (.d (.tup [zax (zed a i).1,.int .i64 (zed a i).2]),[]):=by
 have h:=zCP a i hL;unfold zed
 cases c:zeY a i with
 | true=>
  have hq:=znC c;rw[c] at h;simp only[zx,if_true] at *;exact zW
 | false=>
  rw[c] at h;simp only[zx,zax,zb0,zabq,zabz,if_false] at *;exact zW
theorem zQQ(a:zy)(i k:Int)(hL:a.slots.length<=1000):zi G 298 [.d (zx a),.d (.int .i64 i),.d (.int .i64 k)] []=some (.d (.int .i64 (zez a i k)),[]):=by
 have h:=zCP a i hL;have ht:=ztL k;unfold zez
 cases c:zeY a i with
 | true=>
  have hq:=znC c;rw[c] at h;generalize zgz k=tb at *
  cases tb
  ·simp only[zx,or_true,if_true] at *;exact zW
  ·simp only[zx,zacf,zacP,if_false] at *;have zk0:=zfU.eq_1;exact zW
 | false=>
  rw[c] at h;simp only[zx,zadq,if_true] at *;exact zW
theorem zYO(a:zy):zi G 281 [.d (zx a)] []=some (.d (zT a.dead.dead),[]):=by
 simp only[zx,zT];exact zW
theorem zsL(a:zy):zi G 144 [.d (zx a)] []=some (.d (zaT a.dir),[]):=by
 simp only[zx,zaT];exact zW
theorem zku(a:zy)(w:Int):zi G 135 [.d (zx a),.d (.int .i64 w)] []=some (.d (.tup [.int .i64 (zgn a w).1,.int .i64 (zgn a w).2]),[]):=by
 unfold zgn;simp only[zx];exact zW
theorem zGD(a:zy)(w old next:Int):zi G 138 [.d (zx a),.d (.int .i64 w),.d (.int .i64 old),.d (.int .i64 next)] []=some (.d (.tup [zx (casWord a w old next).1,.bool (casWord a w old next).2.1,.int .i64 (casWord a w old next).2.2]),[]):=by
 have hl:=zku a w;have h1:=zdI next 0 65536
 have h2:=zdI next 1 1073741824
 unfold casWord;unfold inI at h1 h2;generalize zgn a w=v at *;obtain⟨v1,v2⟩:=v
 by_cases c1:w≠1/\w≠3
 ·rw[zabo c1];simp only[zx,zM,zabq] at *;exact zW
 rw[zabn c1]
 by_cases c2:w=1/\¬(0<=next/\next<=65536)\/w=3/\¬(1<=next/\next<=1073741824)
 ·rw[zabo c2];simp only[zx,zM,zabq] at *
  rcases c2 with ⟨d1,d2⟩|⟨d1,d2⟩
  ·subst d1;rw[zabP d2] at h1;clear c1;exact zW
  ·subst d1;rw[zabP d2] at h2;clear c1;exact zW
 rw[zabn c2]
 by_cases c3:v1≠old
 ·rw[zabo c3];simp only[zx] at *
  by_cases d1:w=1
  ·subst d1;rw[zabM zo] at h1;clear c1 c2;exact zW
  ·have d2:w=3:=by omega
   subst d2;rw[zabM zo] at h2;clear c1 c2;exact zW
 rw[zabn c3];have c3:v1=old:=by omega
 subst c3;simp only[zx] at *
 by_cases d1:w=1
 ·subst d1;rw[zabM zo] at h1;clear c1 c2;exact zW
 ·have d2:w=3:=by omega
  subst d2;rw[zabM zo] at h2;clear c1 c2;exact zW
theorem zaah(a:zy)(b:Int)(hc:0<=a.clock/\a.clock<=1073741824):zi G 90 [.d (zx a),.d (.int .i64 b)] []=some (.d (.tup [zx (zeA a b).1,.int .i64 (zeA a b).2]),[]):=by
 have h1:=zdI b 0 1099511627776;unfold zeA;unfold inI at h1;simp only[zx] at *;have zk0:=zM.eq_1;have zk1:=zaH.eq_1;exact zW
theorem zQN(a:zy)(i k:Int)(s:zaeF)(hL:a.slots.length<=1000)(hs:a.stripes.length=a.slots.length):zi G 280 [.d (zx a),.d (.int .i64 i),.d (.int .i64 k),.d (zax s)] []=some (.d (.tup [zx (stStripe a i k s).1,.int .i64 (stStripe a i k s).2]),[]):=by
 have h:=zQQ a i k hL;have e1:=zdI s.seq 0 1099511627776;have e2:=zdI s.epoch 0 1099511627776;have e3:=zdI s.ready 0 1099511627776;have e4:=zdI s.leased 0 1099511627776;unfold stStripe
 by_cases c:zez a i k=0
 ·have hq:0<=i/\i<a.slots.length:=by
     unfold zez at c
     split at c
     ·cases c
     ·rename_i q;exact znC (by simpa using fun z=>q (.inl z))
  rw[c] at h;rw[zabn (fun z=>z c)];have hne:¬a.stripes.length=0:=by omega
  have hsq:znH s=(inI s.seq 0 1099511627776&&(inI s.epoch 0 1099511627776&&(inI s.ready 0 1099511627776&&inI s.leased 0 1099511627776))):=by
   unfold znH zbV inI;simp only[zadD]
  rw[hsq];clear hsq c;generalize inI s.seq 0 1099511627776=b1 at *;generalize inI s.epoch 0 1099511627776=b2 at *;generalize inI s.ready 0 1099511627776=b3 at *;generalize inI s.leased 0 1099511627776=b4 at *
  cases b1
  ·simp only[zacd,if_true,zx,zax,zM,zabq] at *;exact zW
  cases b2
  ·simp only[zacd,zacJ,if_true,zx,zax,zM,zabq] at *;exact zW
  cases b3
  ·simp only[zacd,zacJ,if_true,zx,zax,zM,zabq] at *;exact zW
  cases b4
  ·simp only[zacJ,if_true,zx,zax,zM,zabq] at *;exact zW
  ·simp only[zacG,zacf,if_false,zx,zax] at *;exact zW
 ·rw[zabo c];generalize zez a i k=v at *;simp only[zx,zM,zax] at *;exact zW
theorem z9q(a:zy)(s:zir)(n:Int):zi G 254 [.d (zx a),.d (zeM s),.d (.int .i64 n)] []=some (.d (.tup [zeM (zc7 a s n).1,.int .i64 (zc7 a s n).2]),[]):=by
 have h1:=zku a 1;have h2:=zku a 2;simp only[zgn,if_true,Int.reduceEq,if_false] at h1 h2;unfold zc7;generalize a.epoch=ep at *;generalize a.clock=ck at *;simp only[zeM] at *;have zk0:=zeB.eq_1;exact zW
theorem z8I(cells:List Int)(lim:Int)(hL:cells.length<=1000):zi G 184 [.d (.sl (zC cells)),.d (.int .i64 lim)] []=some (.d (.tup [zA (zdl cells lim).1,.int .i64 (zdl cells lim).2]),[]):=by
 have h:=zYE cells zo;unfold zdl;generalize zg3 cells=r at *;obtain⟨l,e⟩:=r;simp only[zb2] at *
 by_cases c:e=0
 ·subst c;have zk0:=zA.eq_1;have zk1:=zbe.eq_1;exact zW
 ·rw[zabo c];have zk0:=zA.eq_1;have zk1:=zbe.eq_1;exact zW
theorem ze7(s:Section)(ph:Int):zi G 237 [.d (zA s),.d (.int .i64 ph)] []=some (.d (zA (z5 s ph)),[]):=by
 simp only[zA,z5];exact zW
theorem zHM(s:Section):zi G 271 [.d (zA s)] []=some (.d (.tup [zA (zcG s).1,.int .i64 (zcG s).2]),[]):=by
 have h:=zYC s.lock;have he:=ze7 { s with lock:=(zcb s.lock).1 } 8;unfold zcG;generalize zcb s.lock=r at *;obtain⟨l,e⟩:=r;unfold z5 at *;simp only[zA,zb2] at *;exact zW
theorem ztT(a:zy)(s:Section):zi G 238 [.d (zx a),.d (zA s)] []=some (.d (.tup [zx (zcn a s).1,zA (zcn a s).2.1,.int .i64 (zcn a s).2.2]),[]):=by
 have h:=zHM s;have he:=ze7 s 7;unfold zcn;generalize zcG s=r at *;obtain⟨s2,e⟩:=r;generalize z5 s 7=s3 at *
 by_cases c:0<s.stripes.length
 ·rw[zabo c];have sz_s3:=zdD s3;generalize zA s3=D_s3 at *;simp only[zA] at *;exact zW
 ·rw[zabn c];simp only;have sz_s2:=zdD s2;generalize zA s2=D_s2 at *;simp only[zA] at *;exact zW
theorem zhn(s:Section):zi G 173 [.d (zA s)] []=some (.agg [.d (.sl (s.shards.map zk)),.d (.int .i64 s.dead.cap),.d (.sl (s.dead.l.map zm)),.xsl [],.xsl [],.xsl []],[]):=by
 simp only[zA];exact zW
def slP(n:Nat)(c:Int):Bool:=decide (c<(n:Int))
def znB(a:zy)(s:Section)(i:Nat):St:=⟨[(2,.ref 2 0 0),(3,.ref 3 0 0),(5,.d (.int .i64 (zbD (slP a.slots.length) s.lock.cells i:Nat))),(6,.d (.int .i64 i))],[(2,.row [.d (zx a)]),(3,.row [.d (zA s)])]⟩
theorem z9p(a:zy)(s:Section)(hL:s.lock.cells.length<=1000):∀i,i<=s.lock.cells.length->z6 G [] zsK (znB a s i)=some (.exit 0,⟨[(5,.d (.int .i64 (zbD (slP a.slots.length) s.lock.cells s.lock.cells.length:Nat)))],[]⟩):=by
 refine zaL (fun i=>s.lock.cells.length - i) (fun i=>i<=s.lock.cells.length) (znB a s) (fun _=>_) fun i hi L ih=> ?_;have hle:=zu3 (slP a.slots.length) s.lock.cells i
 by_cases h0:i<s.lock.cells.length
 ·have i1:=ih (i+1) zo zo;clear ih;unfold znB at i1 ⊢;rw[zu4 _ h0] at i1;generalize zbD (slP a.slots.length) s.lock.cells i=k at *;generalize zbD (slP a.slots.length) s.lock.cells s.lock.cells.length=kk at *;unfold slP at i1;simp only[zsK,zx,zA] at i1 ⊢
  by_cases c:s.lock.cells[i]<(a.slots.length:Int)
  ·rw[zabM c] at i1;simp only[if_true] at i1;simp only[zNr,srcO] at i1;exact zS
  ·rw[zabP c] at i1;simp only[zabz,if_false,zacI] at i1;simp only[zNr,srcO] at i1;exact zS
 ·clear ih;have:i=s.lock.cells.length:=by omega
  subst this;simp only[znB,zsK,zx,zA];exact zS
theorem zQD(a:zy)(s:Section)(hL:s.lock.cells.length<=1000):zi G 251 [.d (zx a),.d (zA s)] []=some (.d (.int .i64 (zdp a s)),[]):=by
 have h:=z9p a s hL 0 zo;have e:(zdp a s)=(zbD (slP a.slots.length) s.lock.cells s.lock.cells.length:Nat):=by
  unfold zdp zbD slP;rw[List.take_length]
 rw[e];generalize zbD (slP a.slots.length) s.lock.cells s.lock.cells.length=kk at *;simp only[znB,zbD,zacg,zac5,zabw] at h;simp only[zNr,srcO] at h;exact zW
theorem z9T(s:Section)(k:Int)(hL:s.out.order.length<=3):zi G 287 [.d (zA s),.d (.int .i64 k)] []=some (.d (.bool (zjl s k)),[]):=by
 have hl:z6 G [] zAW ⟨[(1,.d (.int .i64 k)),(2,.ref 2 0 0),(5,.d (.int .i64 (0:Nat)))],[(2,.row [.d (zA s)])]⟩=some (if (List.range s.out.order.length).all (fun i=> !decide (s.out.order.getD i 0=k))=true then (.exit 0,⟨[],[]⟩) else (.ret,⟨[(4,.d (.bool true))],[]⟩)):=by
  refine zg5 (G:=G) s.out.order.length (fun i=> !decide (s.out.order.getD i 0=k)) (fun i=>⟨[(1,.d (.int .i64 k)),(2,.ref 2 0 0),(5,.d (.int .i64 i))],[(2,.row [.d (zA s)])]⟩) _ _ fun i hi L=> ?_;simp only[zAW,zA]
  by_cases h0:i<s.out.order.length
  ·rw[zabo h0,zh h0]
   by_cases c:s.out.order[i]=k
   ·subst c;exact zS
   ·exact zS
  ·rw[zabn h0];exact zS
 have e:zjl s k= !((List.range s.out.order.length).all (fun i=> !decide (s.out.order.getD i 0=k))):=by
  unfold zjl;apply zacD.2;simp only[zacm,decide_eq_true_eq,zace,List.all_eq_false,zack,Bool.not_eq_false',zac3,zaen];constructor
  ·rintro⟨x,hx,rfl⟩;obtain⟨i,hi,rfl⟩:=zadu.1 hx;exact⟨i,hi,by rw[zh hi]⟩
  ·rintro⟨i,hi,h⟩;rw[zh hi] at h;exact⟨_,zabC hi,by simpa using h⟩
 rw[e];generalize (List.range s.out.order.length).all (fun i=> !decide (s.out.order.getD i 0=k))=b at *;simp only[zA] at *;simp only[zNr,srcO] at hl
 cases b
 ·simp only[zabz,if_false] at hl;exact zW
 ·simp only[if_true] at hl;exact zW
theorem zZZ(c:Int):zi G 83 [.d (.int .i64 c)] []=some (.d (.tup [zT (if c<1\/24<c then zaH else ⟨c,[]⟩),.int .i64 (if c<1\/24<c then 1 else 0)]),[]):=by
 by_cases h:c<1\/24<c
 ·rw[zabo h,zabo h];simp only[zT,zaH,zabq];exact zW
 ·rw[zabn h,zabn h];simp only[zT,zaH,zabq];exact zW
def zlb(l:List zj)(i:Nat):St:=⟨[(0,.d (.sl (l.map zm))),(3,.d (.int .i64 i))],[]⟩
def znD(l:List zj)(i:Nat):zX×St:=if zb3 (l.drop i)≠0 then (.ret,⟨[(2,.d (.int .i64 (zb3 (l.drop i))))],[]⟩) else (.exit 0,⟨[(0,.d (.sl (l.map zm)))],[]⟩)
theorem z9r(l:List zj)(h1:l.length<=1000):∀i,i<=l.length->z6 G [] zsB (zlb l i)=some (znD l i):=by
 refine zaL (fun i=>l.length - i) (fun i=>i<=l.length) (zlb l) (fun i=>some (znD l i)) fun i hi L ih=> ?_
 by_cases h0:i<l.length
 ·have i1:=ih (i+1) zo zo;clear ih;have hv:=zh8 l[i];unfold znD at i1 ⊢;rw[zHE h0];unfold zlb at i1;generalize zb3 (l.drop (i+1))=fe at *;simp only[zlb,zsB];simp only[zNr,srcO] at i1;generalize zap l[i]=v at *
  by_cases c:v=0
  ·subst c;simp only[ne_eq,zabD,if_false];exact zS
  ·rw[zabo c,zabo c];clear i1;exact zS
 ·clear ih;have:i=l.length:=by omega
  subst this;unfold znD;rw[zab7];simp only[zlb,zb3,ne_eq,zabD,if_false,zsB];exact zS
def d8S(l:List zj)(i:Nat):St:=⟨[(0,.d (.sl (l.map zm))),(5,.d (.int .i64 i))],[]⟩
def d8R(l:List zj)(i:Nat):zX×St:=if zeR l i=true then (.ret,⟨[(2,.d (.int .i64 10))],[]⟩) else (.exit 2,⟨[],[]⟩)
theorem zUj(l:List zj)(h1:l.length<=1000):∀i,i<=l.length->z6 G [] zsC (d8S l i)=some (d8R l i):=by
 refine zaL (fun i=>l.length - i) (fun i=>i<=l.length) (d8S l) (fun i=>some (d8R l i)) fun i hi L ih=> ?_
 by_cases h0:i<l.length
 ·have i1:=ih (i+1) zo zo;clear ih;have hx:=ziQ l l[i].id zo;unfold d8R at i1 ⊢;rw[zA3 _ h0];unfold d8S at i1;generalize zeR l (i+1)=fe at *;simp only[d8S,zsC];simp only[zNr,srcO] at i1;generalize zaD l l[i].id=q at *
  by_cases hv:q=i
  ·subst hv;simp only[ne_eq,zabD,decide_false,zacH];have zk0:=zm.eq_1;exact zS
  ·simp only[ne_eq,hv,zabV,decide_true,zadk,if_true];clear i1;have zk0:=zm.eq_1;exact zS
 ·clear ih;unfold d8R;rw[zA2 _ h0];simp only[d8S,zsC,zabz,if_false];exact zS
theorem zQG(l:List zj)(h:l.length<=1000):zi G 246 [.d (.sl (l.map zm))] []=some (.d (.int .i64 (zjk l)),[]):=by
 have h1:=z9r l h 0 zo;have h2:=zUj l h 0 zo;unfold znD at h1;unfold d8R at h2;rw[zA1] at h2;simp only[zlb,zabZ] at h1;simp only[d8S] at h2;unfold zjk;generalize zb3 l=fe at *;generalize zdC (l.map (·.id))=du at *;simp only[zNr,srcO] at h1 h2
 by_cases c:fe=0
 ·subst c;simp only[ne_eq,zabD,if_false] at *
  cases du
  ·simp only[zabz,if_false] at *;exact zW
  ·simp only[if_true] at *;exact zW
 ·rw[zabo c] at h1 ⊢;clear h2;exact zW
theorem znO(d:za7)(hL:d.l.length<=1000):zi G 234 [.d (zT d)] []=some (.d (.int .i64 (zcm d)),[]):=by
 have hs:=zQG d.l hL;unfold zcm;obtain⟨c,l⟩:=d;simp only[zT] at *;generalize zjk l=v at *;exact zW
theorem zQt(d:za7)(hL:d.l.length<=1000):zi G 214 [.d (zT d)] []=some (.d (.int .i64 (zgu d)),[]):=by
 have hs:=znO d hL;have hc:zcm d=0->1<=d.cap/\d.cap<=24:=by
  intro h;unfold zcm at h
  split at h
  ·cases h
  ·omega
 unfold zgu;generalize zcm d=v at *;obtain⟨c,l⟩:=d;simp only[zT] at *
 by_cases h:v=0
 ·have:=hc h;subst h;exact zW
 ·rw[zabo h];exact zW
theorem z5t(d:za7)(l:List zj)(hL:d.l.length<=1000)(h2:l.length<=1000)(h3:d.l.length+l.length<=1000):zi G 215 [.d (zT d),.d (.sl (l.map zm))] []=some (.d (.tup [zT (zi9 d l).1,.int .i64 (zi9 d l).2]),[]):=by
 have hv:=znO d hL;have hr:=zQt d hL;have hs:=zQG (d.l++l) (by simpa using h3);unfold zi9;generalize zcm d=v at *;generalize zgu d=r at *;generalize zjk (d.l++l)=s at *;obtain⟨c,dl⟩:=d;simp only[zT] at *
 by_cases h:v=0
 ·subst h;simp only[ne_eq,zabD,if_false]
  by_cases c1:r<l.length
  ·rw[zabo c1];simp only[zaH,zabq];exact zW
  ·rw[zabn c1]
   by_cases c2:s=0
   ·subst c2;simp only[ne_eq,zabD,if_false];simp only[zNr,srcO] at hs;exact zW
   ·rw[zabo c2];simp only[zaH,zabq];simp only[zNr,srcO] at hs;exact zW
 ·rw[zabo h];simp only[zaH,zabq];exact zW
theorem z9B(a:zy)(i k:Int)(s:zt)(hL:a.slots.length<=1000)(q:za4 s):zi G 284 [.d (zx a),.d (.int .i64 i),.d (.int .i64 k),.d (zk s)] []=some (.d (.tup [zx (stSlot a i k s).1,.int .i64 (stSlot a i k s).2]),[]):=by
 have h:=zQQ a i k hL;have hv:=znc s q.1 q.2.1 q.2.2;unfold stSlot
 by_cases c:zez a i k=0
 ·have hq:0<=i/\i<a.slots.length:=by
     unfold zez at c
     split at c
     ·cases c
     ·rename_i q;exact znC (by simpa using fun z=>q (.inl z))
  rw[c] at h;rw[zabn (fun z=>z c)];have hne:¬a.slots.length=0:=by omega
  by_cases c1:zY s=0
  ·rw[c1] at hv;rw[zabn (fun z=>z c1)];clear c c1
   by_cases c2:s.ready.cells.length=(a.slots.getD i.toNat zfC).shard.ready.cells.length
   ·rw[zabn (fun z=>z c2)];rw[zh zo] at c2 ⊢;simp only[zx,zk] at *;have zk0:=zfU.eq_1;exact zW
   ·rw[zabo c2];rw[zh zo] at c2;simp only[zx,zk,zM] at *;have zk0:=zfU.eq_1;exact zW
  ·rw[zabo c1];generalize zY s=v at *;simp only[zx,zM,zk] at *;exact zW
 ·rw[zabo c];generalize zez a i k=v at *;simp only[zx,zM,zk] at *;exact zW
theorem z9A(a:zy)(k:Int)(d:za7)(hL:d.l.length<=1000):zi G 283 [.d (zx a),.d (.int .i64 k),.d (zT d)] []=some (.d (.tup [zx (stDead a k d).1,.int .i64 (stDead a k d).2]),[]):=by
 have ht:=ztL k;have hv:=znO d hL;unfold stDead;generalize zgz k=tb at *;generalize zcm d=v at *;simp only[zx,zT] at *
 cases tb
 ·have zk0:=zM.eq_1;have zk1:=zaH.eq_1;exact zW
 ·simp only[zacf,if_false];have zk0:=zM.eq_1;have zk1:=zaH.eq_1;exact zW
theorem zSL(a:zy)(v:Int)(d:zabk)(hL:d.l.length<=4294967296):zi G 286 [.d (zx a),.d (.int .i64 v),.d (zaT d)] []=some (.d (.tup [zx (casDir a v d).1,.bool (casDir a v d).2.1,.int .i64 (casDir a v d).2.2]),[]):=by
 have hv:=zkV d hL;unfold casDir;generalize zbl d=w at *;simp only[zx,zaT] at *
 by_cases c0:w=0
 ·subst c0;simp only[ne_eq,zabD,if_false]
  by_cases c:d.forward.length=a.slots.length
  ·rw[zabn (fun q=>q c)];exact zW
  ·rw[zabo c];have zk0:=zM.eq_1;have zk1:=zaH.eq_1;exact zW
 ·rw[zabo c0];have zk0:=zM.eq_1;have zk1:=zaH.eq_1;exact zW
theorem z9o(a:zy)(s:Section):0<=zdp a s/\zdp a s<=s.lock.cells.length:=by
 unfold zdp;have:=zacF (fun c=>decide (c<(a.slots.length:Int))) s.lock.cells;omega
theorem zR5(d:zabk)(e:Edit):(zgG d e).1.l.length<=d.l.length+2:=by
 unfold zgG zCR zBl
 (repeat' split)
 all_goals (try (simp [zcF];done))
 all_goals (try (simp;omega))
theorem zl3{s:Section}{i:Int}(h0:0<=i)(h1:i<s.lock.cells.length):zcv s i=s.lock.cells[i.toNat]'(by omega):=by
 unfold zcv;exact zh zo
theorem zZx(a:zy)(s:Section)(k:Int)(hL:a.slots.length<=1000)(hs:a.stripes.length=a.slots.length)(h0:0<=s.at_)(h1:s.at_<2 * s.lock.cells.length)(hc:s.lock.cells.length<=3)(h2:(s.stripes.length:Int)=(s.at_+1) / 2):zi G 252 [.d (zx a),.d (zA s),.d (.int .i64 k)] []=some (.d (.tup [zx (zfr a s k).1,zA (zfr a s k).2.1,.int .i64 (zfr a s k).2.2]),[]):=by
 have e1:s.at_.tdiv 2=s.at_ / 2:=zac2 h0;have e2:s.at_.tmod 2=s.at_ % 2:=zaem h0;unfold zfr;rw[e1,e2,zl3 zo zo]
 by_cases c:s.at_ % 2=0
 ·rw[zabo c];have hl:=zA4 a (s.lock.cells[(s.at_ / 2).toNat]'(by omega)) hL hs;generalize zed a (s.lock.cells[(s.at_ / 2).toNat]'(by omega))=r at *;obtain⟨x,e⟩:=r;replace c:=zabA c;simp only[zA] at *;exact zW
 ·rw[zabn c];have hi:(s.at_ / 2).toNat<s.stripes.length:=by omega
  rw[zh hi];have hb:=zSo (s.stripes[(s.at_ / 2).toNat]);replace c:=zabt c;generalize zhr (s.stripes[(s.at_ / 2).toNat])=b at *;obtain⟨x,e⟩:=b
  by_cases c1:e=0
  ·subst c1;have hst:=zQN a (s.lock.cells[(s.at_ / 2).toNat]'(by omega)) k x hL hs;simp only[ne_eq,zabD,if_false];generalize stStripe a (s.lock.cells[(s.at_ / 2).toNat]'(by omega)) k x=r at *;obtain⟨a2,e⟩:=r;have hsl:=zQD a2 { s with stripes:=s.stripes.take (s.at_ / 2).toNat++[x],at_:=s.at_+1 } (by simpa using (by omega:s.lock.cells.length<=1000));have hen:=ze7 { s with stripes:=s.stripes.take (s.at_ / 2).toNat++[x],at_:=s.at_+1 } 2;have hsn:=z9o a2 { s with stripes:=s.stripes.take (s.at_ / 2).toNat++[x],at_:=s.at_+1 };unfold z5 at *;simp only at *;generalize zdp a2 { s with stripes:=s.stripes.take (s.at_ / 2).toNat++[x],at_:=s.at_+1 }=sn at *
   by_cases c2:e=0/\s.at_+1=2 * sn
   ·rw[zabo c2];obtain⟨rfl,c3⟩:=c2;replace c3:=zabA c3;simp only[zA,zabF,zabs,zabq] at *;exact zW
   ·rw[zabn c2];simp only[zA,zabF,zabs,zabq] at *
    by_cases c4:e=0
    ·subst c4;have c5:(s.at_+1=2 * sn)=False:=zabt (fun q=>c2 ⟨rfl,q⟩);clear c2;exact zW
    ·clear c2;exact zW
  ·rw[zabo c1];simp only[zA] at *;exact zW
theorem zZa(a:zy)(s:Section)(hL:a.slots.length<=1000)(h0:0<=s.at_)(h1:s.at_<s.lock.cells.length)(hc:s.lock.cells.length<=3)(h2:s.shards.length<=100):zi G 253 [.d (zx a),.d (zA s)] []=some (.d (.tup [zx (zfq a s).1,zA (zfq a s).2.1,.int .i64 (zfq a s).2.2]),[]):=by
 unfold zfq;rw[zl3 h0 h1];have hd:=zYO a
 by_cases c:(s.lock.cells[s.at_.toNat]'(by omega))=a.slots.length
 ·simp only[c,if_true]
  by_cases c2:s.at_+1=s.lock.cells.length
  ·have he:=ze7 { s with dead:=a.dead.dead,at_:=s.at_+1 } 3;rw[zabo c2];replace c2:=zabA c2;unfold z5 at *;simp only[zA,zx,zT] at *;exact zW
  ·rw[zabn c2];simp only[zA,zx,zT] at *;exact zW
 ·have hl:=zYP a (s.lock.cells[s.at_.toNat]'(by omega)) hL;simp only[c,if_false];generalize zg2 a (s.lock.cells[s.at_.toNat]'(by omega))=r at *;obtain⟨x,e⟩:=r
  by_cases c2:s.at_+1=s.lock.cells.length
  ·have he:=ze7 { s with shards:=s.shards++[x],at_:=s.at_+1 } 3;rw[zabo c2];replace c2:=zabA c2;unfold z5 at *;simp only[zA,zx,zabF,zabs,zabq] at *;exact zW
  ·rw[zabn c2];simp only[zA,zx,zabF,zabs,zabq] at *;exact zW
theorem zUX(a:zy)(s:Section)(hd:s.dir.l.length<=65536)(h0:0<=s.at_)(h1:s.out.edits.length=1):zi G 256 [.d (zx a),.d (zA s)] []=some (.d (.tup [zx (zfp a s).1,zA (zfp a s).2.1,.int .i64 (zfp a s).2.2]),[]):=by
 have hld:=zsL a;unfold zfp
 by_cases c:s.at_=0
 ·rw[zabo c];replace c:=zabA c;simp only[zA,zaT] at *;exact zW
 ·rw[zabn c];replace c:=zabt c;have hap:=z6G s.dir (s.out.edits[0]'(by omega)) zo;rw[zh (show 0<s.out.edits.length by omega)];have hlen:=zR5 s.dir (s.out.edits[0]'(by omega));generalize zgG s.dir (s.out.edits[0]'(by omega))=r at *;obtain⟨d,e⟩:=r;simp only at *
  by_cases c1:e=0
  ·rw[zabn (fun q=>q c1)];subst c1;have hcd:=zSL a s.dir.version d zo;generalize casDir a s.dir.version d=r at *;obtain⟨a2,b,e⟩:=r;have hum:=ztT a2 { s with dir:=d };generalize zcn a2 { s with dir:=d }=r2 at *;obtain⟨a3,s3,e3⟩:=r2;simp only at *
   by_cases c4:e=0
   ·subst c4;simp only[ne_eq,zabD,if_false]
    cases b
    ·simp only[if_true];clear hum;simp only[zA,zaT] at *;exact zW
    ·simp only[zacf,if_false];have sz_s3:=zdD s3;generalize zA s3=D_s3 at *;simp only[zA,zaT] at *;exact zW
   ·rw[zabo c4];clear hum;simp only[zA,zaT] at *;exact zW
  ·rw[zabo c1];simp only[zA,zaT] at *;exact zW
theorem z9S(a:zy)(s:Section)(k:Int)(hL:a.slots.length<=1000)(h0:0<=s.at_)(h1:s.at_<s.out.order.length)(ho:∀o∈s.out.order,0<=o/\o<s.lock.cells.length)(hol:s.out.order.length<=3)(hsh:∀o∈s.out.order,zcv s o≠a.slots.length->o<s.out.shards.length)(hf:∀x∈s.out.shards,za4 x)(hd:s.out.dead.l.length<=1000):zi G 255 [.d (zx a),.d (zA s),.d (.int .i64 k)] []=some (.d (.tup [zx (zft a s k).1,zA (zft a s k).2.1,.int .i64 (zft a s k).2.2]),[]):=by
 have hi:s.at_.toNat<s.out.order.length:=by omega
 have hm:=ho _ (zabC hi);have hsh:=hsh _ (zabC hi);unfold zft;simp only;rw[zh hi];have hen:=ze7 { s with at_:=s.at_+1,carry:=[] } 6;unfold z5 at *;rw[zl3 hm.1 hm.2] at *;generalize ho':s.out.order[s.at_.toNat]=o at *;have ho2:s.out.order[s.at_.toNat]? = some o:=by rw[zabx hi,ho']
 by_cases c:(s.lock.cells[o.toNat]'(by omega))=a.slots.length
 ·have hst:=z9A a k s.out.dead hd;simp only[c,if_true];generalize stDead a k s.out.dead=r at *;obtain⟨a2,e⟩:=r;simp only at *
  by_cases c1:e=0
  ·subst c1;simp only[ne_eq,zabD,if_false]
   by_cases c2:s.at_+1<s.out.order.length
   ·rw[zabo c2];clear hen;simp only[zx,zA,zT] at *;exact zW
   ·rw[zabn c2]
    by_cases c3:0<s.out.edits.length
    ·rw[zabo c3];simp only[zx,zA,zT,zabq] at *;exact zW
    ·rw[zabn c3];have hum:=ztT a2 { s with at_:=s.at_+1,carry:=[] };generalize zcn a2 { s with at_:=s.at_+1,carry:=[] }=u at *;obtain⟨u1,u2,u3⟩:=u;simp only at *;have sz_u2:=zdD u2;generalize zA u2=D_u2 at *;have sz_u1:=zby u1;generalize zx u1=D_u1 at *;clear hen;simp only[zx,zA,zT,zabq] at *;exact zW
  ·rw[zabo c1];clear hen;simp only[zx,zA,zT] at *;exact zW
 ·have hs2:o.toNat<s.out.shards.length:=by have:=hsh c;omega
  have hst:=z9B a (s.lock.cells[o.toNat]'(by omega)) k s.out.shards[o.toNat] hL (hf _ (zabC hs2));simp only[c,if_false];rw[zh hs2];generalize stSlot a (s.lock.cells[o.toNat]'(by omega)) k s.out.shards[o.toNat]=r at *;obtain⟨a2,e⟩:=r;simp only at *
  by_cases c1:e=0
  ·subst c1;simp only[ne_eq,zabD,if_false]
   by_cases c2:s.at_+1<s.out.order.length
   ·rw[zabo c2];clear hen;simp only[zx,zA,zT] at *;exact zW
   ·rw[zabn c2]
    by_cases c3:0<s.out.edits.length
    ·rw[zabo c3];simp only[zx,zA,zT,zabq] at *;exact zW
    ·rw[zabn c3];have hum:=ztT a2 { s with at_:=s.at_+1,carry:=[] };generalize zcn a2 { s with at_:=s.at_+1,carry:=[] }=u at *;obtain⟨u1,u2,u3⟩:=u;simp only at *;have sz_u2:=zdD u2;generalize zA u2=D_u2 at *;have sz_u1:=zby u1;generalize zx u1=D_u1 at *;clear hen;simp only[zx,zA,zT,zabq] at *;exact zW
  ·rw[zabo c1];clear hen;simp only[zx,zA,zT] at *;exact zW
theorem zaaM(a:zy)(s:Section)(k:Int)(hL:a.slots.length<=1000)(hsl:a.stripes.length=a.slots.length)(h0:0<=s.at_)(h1:s.at_<s.stripes.length)(h2:s.at_<s.shards.length)(h3:s.at_<s.out.shards.length)(h4:s.at_<s.lock.cells.length)(h5:s.stripes.length<=100)(hol:s.out.order.length<=3)(hf:∀x∈s.out.shards,za4 x)(hg:∀x∈s.shards,za4 x):zi G 257 [.d (zx a),.d (zA s),.d (.int .i64 k)] []=some (.d (.tup [zx (zfu a s k).1,zA (zfu a s k).2.1,.int .i64 (zfu a s k).2.2]),[]):=by
 have hq:=z9T s s.at_ hol;have i1:s.at_.toNat<s.stripes.length:=by omega
 have i2:s.at_.toNat<s.shards.length:=by omega
 have i3:s.at_.toNat<s.out.shards.length:=by omega
 have hfr:=zHM { s with at_:=s.at_+1 };unfold zfu;simp only;rw[zl3 h0 h4,zh i1,zh i2,zh i3];generalize zcG { s with at_:=s.at_+1 }=f at *;obtain⟨f1,f2⟩:=f;generalize zjl s s.at_=q at *;have hen:∀x,za4 x->_:=fun x hx=>zUY s.stripes[s.at_.toNat] x s.snap.epoch s.limit hx.1 hx.2.1 hx.2.2;have hen:zi G 288 [.d (zax s.stripes[s.at_.toNat]),.d (zk (if q=true then s.out.shards[s.at_.toNat] else s.shards[s.at_.toNat])),.d (.int .i64 s.snap.epoch),.d (.int .i64 s.limit)] []=_:=hen _ (by cases q;exact hg _ (zabC i2);exact hf _ (zabC i3));generalize ziF s.stripes[s.at_.toNat] (if q=true then s.out.shards[s.at_.toNat] else s.shards[s.at_.toNat]) s.snap.epoch s.limit=x at *;obtain⟨x,e⟩:=x;have hst:=zQN a (s.lock.cells[s.at_.toNat]'(by omega)) k x hL hsl;generalize stStripe a (s.lock.cells[s.at_.toNat]'(by omega)) k x=r at *;obtain⟨a2,e2⟩:=r;simp only at *
 by_cases c:e=0
 ·subst c;simp only[ne_eq,zabD,if_false]
  by_cases c2:e2=0
  ·subst c2;simp only[ne_eq,zabD,if_false]
   by_cases c3:s.at_+1=s.stripes.length
   ·rw[zabo c3];replace c3:=zabA c3;have sz_f1:=zdD f1;generalize zA f1=D_f1 at *
    cases q
    ·simp only[zA,zabz,if_false] at *;exact zW
    ·simp only[zA,if_true] at *;exact zW
   ·rw[zabn c3];replace c3:=zabt c3;clear hfr
    cases q
    ·simp only[zA,zabz,if_false] at *;exact zW
    ·simp only[zA,if_true] at *;exact zW
  ·rw[zabo c2]
   cases q
   ·simp only[zA,zabz,if_false] at *;exact zW
   ·simp only[zA,if_true] at *;exact zW
 ·rw[zabo c]
  cases q
  ·simp only[zA,zabz,if_false] at *;exact zW
  ·simp only[zA,if_true] at *;exact zW
structure zqB(a:zy)(s:Section):Prop where
 sl:a.slots.length<=1000
 st:a.stripes.length=a.slots.length
 lw:LWF 1000000 s.lock
 p1:s.phase=1->0<=s.at_/\s.at_<2 * s.lock.cells.length/\(s.stripes.length:Int)=(s.at_+1) / 2
 p2:s.phase=2->0<=s.at_/\s.at_<s.lock.cells.length/\s.shards.length<=100
 p5:s.phase=5->0<=s.at_/\s.at_<s.out.order.length/\(∀o∈s.out.order,zcv s o≠a.slots.length->o<s.out.shards.length)
 p6:s.phase=6->0<=s.at_/\s.out.edits.length=1
 p7:s.phase=7->0<=s.at_/\s.at_<s.stripes.length/\s.at_<s.shards.length/\s.at_<s.out.shards.length/\s.at_<s.lock.cells.length/\s.stripes.length<=100
 od:(∀o∈s.out.order,0<=o/\o<s.lock.cells.length)/\s.out.order.length<=3
 f1:∀x∈s.out.shards,za4 x
 f2:∀x∈s.shards,za4 x
 dd:s.out.dead.l.length<=1000
 di:s.dir.l.length<=65536
end Go.Proofs.YtcembpbhkcbnhaaGreat
