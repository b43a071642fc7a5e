/-
  Loads and stores of an arena by the program.
-/
import Derived.Test.YtjalkkalhdnplaaGreatB93754df
import Derived.Test.YtjalkkalhdnplaaGreatB568fc85
import Derived.Test.YtjalkkalhdnplaaGreatBc22dd4b
import Derived.Test.YtjalkkalhdnplaaGreatB887f6d6
set_option linter.unusedSimpArgs false
set_option linter.unusedVariables false
set_option maxHeartbeats 10000000
set_option maxRecDepth 100000
namespace Go.Proofs.YtjalkkalhdnplaaGreat
open Go Go.Sim
def hB(s:Shard)(h:za3)(now ep:Int):Bool:=decide (usE s (tiQ now&&epQ ep)=0)&&zcF s h now ep
def zaJ(s:Shard):Prop:=s.ready.cells.length<=12/\s.leases.l.length<=12/\s.leases.heap.length<=12
structure LP(x y:Shard)(now vis ep lim:Int)(v:zy):Prop where
 dl:v.deadline=now+vis
 late:hB y (zdO v.msg) (now+vis) ep=false
 held:0<vis->hB y (zdO v.msg) (now+vis - 1) ep=true
 old:hB y { zdO v.msg with gen:=v.msg.gen - 1 } now ep=false
 oth:hB y { zdO v.msg with route:=(v.msg.route+1).tmod 65536 } now ep=false
 pre:hB x (zdO v.msg) now ep=false
 gen:1<=v.msg.gen/\v.msg.gen<=65536
 rt:0<=v.msg.route/\v.msg.route<=65535
 ack:0<vis->∃z,zc0 y (zdO v.msg) now ep=(z,0)/\zaJ z/\hB z (zdO v.msg) now ep=false/\zbc z=zbc y - 1
 nack:0<vis->∃w,zcR y (zdO v.msg) now ep lim=(w,0)/\zaJ w/\hB w (zdO v.msg) now ep=false/\zbc w=zbc y
theorem zo1(r:z8)(m:Message)(hL:r.cells.length<=4294967296):zd G 272 [.d (zQ r),.d (zj m)] []=some (.d (.tup [zQ (pbD r m).1,.int .i64 (pbD r m).2]),[]):=by
 unfold pbD
 by_cases e1:zda r m=0
 ·rw[zYQ e1];have e2:=zmh e1;obtain⟨n,h,hrg,h1,h2,h3,h4,h5,h6⟩:=zmt e2.1;have hc:r.cells.length=n:=by rw[hrg];exact zce _ _ _ _
  have hh:r.head.toNat=h:=by rw[hrg];rfl
  have hz:r.size=((zu r).length:Int):=by rw[zgw];have:=congrArg z8.size hrg;simp only[rg] at this;omega
  have hl:(zu r).length<n:=by have:=e2.2.2.1;omega
  have hi:∀x∈zu r,x.id≠m.id:=by
   intro x hx e;have h7:=e2.2.2.2;unfold zaF at h7;rw[zlC] at h7;have:=h7 x hx;simp [e] at this
  have hp:=zC7 h1 h2 h3 hl h5 h6 e2.2.1 hi;rw[<- hrg] at hp;rw[hc,hh];exact hp
 ·rw[zYP e1];have hpu:=zoZ r m hL;generalize zda r m=v at *;simp only[zQ,zj,zaz,zYS] at *;exact zW
theorem zTv(r:z8)(m:Message)(hL:r.cells.length<=4294967296):zd G 277 [.d (zQ r),.d (zj m)] []=some (.d (.tup [zQ (pfD r m).1,.int .i64 (pfD r m).2]),[]):=by
 unfold pfD
 by_cases e1:zda r m=0
 ·rw[zYQ e1];have e2:=zmh e1;obtain⟨n,h,hrg,h1,h2,h3,h4,h5,h6⟩:=zmt e2.1;have hc:r.cells.length=n:=by rw[hrg];exact zce _ _ _ _
  have hh:r.head.toNat=h:=by rw[hrg];rfl
  have hz:r.size=((zu r).length:Int):=by rw[zgw];have:=congrArg z8.size hrg;simp only[rg] at this;omega
  have hl:(zu r).length<n:=by have:=e2.2.2.1;omega
  have hi:∀x∈zu r,x.id≠m.id:=by
   intro x hx e;have h7:=e2.2.2.2;unfold zaF at h7;rw[zlC] at h7;have:=h7 x hx;simp [e] at this
  have hp:=zC8 h1 h2 h3 hl h5 h6 e2.2.1 hi;rw[<- hrg] at hp;rw[hc,hh];exact hp
 ·rw[zYP e1];have hpu:=zoZ r m hL;generalize zda r m=v at *;simp only[zQ,zj,zaz,zYS] at *;exact zW
theorem zYp(l:List Message)(i:Nat)(hi:i<l.length)(hL:l.length<=24):zd G 308 [.d (.sl (l.map zj)),.d (.int .i64 i)] []=some (.d (.sl ((l.eraseIdx i).map zj)),[]):=by
 have e:(l.eraseIdx i).map zj=(l.map zj).take i++(l.map zj).drop (i+1):=by rw[z16,zY5,z0G,z1w]
 rw[e];have z1:=zpN (l.take i);have z2:=zpN (l.drop (i+1));have hb:l.length - 1<=4294967296:=by omega
 by_cases c0:i=0
 ·subst c0
  by_cases c1:l.length=1
  ·rw[zB zA0 (by simp)];simp -implicitDefEqProofs (maxSteps:=4000000) (disch:=omega) only[zna,zZE,zZb,zg,go_sem, *]
  ·rw[zB zA0 (by simp)];simp -implicitDefEqProofs (maxSteps:=4000000) (disch:=omega) only[zna,zZE,zZb,zg,go_sem, *]
 ·by_cases c1:i+1=l.length
  ·exact zW
  ·exact zW
theorem zs1(r:z8)(id:Int)(hL:r.cells.length<=4294967296):zd G 284 [.d (zQ r),.d (.int .i64 id)] []=some (.d (.tup [zQ (rmD r id).1,zj (rmD r id).2.1,.int .i64 (rmD r id).2.2]),[]):=by
 have hv:=zku r hL
 by_cases e1:zau r=0
 ·obtain⟨n,h,hrg,h1,h2,h3,h4,h5,h6⟩:=zmt e1;have hc:r.cells.length=n:=by rw[hrg];exact zce _ _ _ _
  have hh:r.head.toNat=h:=by rw[hrg];rfl
  have ho:=zi1 (wN n h (zu r) (zu r).length) h (zu r).length (by rw[zce];exact h2) (by rw[zce];exact h3) (by rw[zce];exact h4);rw[zi0 h1 h4] at ho;have hix:=ziG (zu r) id zo;rw[e1] at hv
  by_cases e2:zaF (zu r) id<0
  ·have he:rmE r id=4:=by unfold rmE;rw[zYP (fun hc=>hc e1),zYQ e2]
   have hd:rmD r id=(zaz,zX,4):=by unfold rmD;rw[he,zYP (by decide)]
   rw[hd];clear he hd h5 h6 e1 hc hh;generalize zaF (zu r) id=q at *;generalize zu r=L at *;subst hrg;simp only[zQ,rg,zaz,zX,zj,zYS] at *;exact zW
  ·have he:rmE r id=0:=by unfold rmE;rw[zYP (fun hc=>hc e1),zYP e2]
   have hd:rmD r id=(rg n h ((zu r).eraseIdx (zaF (zu r) id).toNat),(zu r).getD (zaF (zu r) id).toNat zX,0):=by unfold rmD;rw[zYQ he,hc,hh]
   have hk:=zAO (show 0<=zaF (zu r) id by omega);obtain⟨k,hkk⟩:∃k:Nat,zaF (zu r) id=k:=⟨(zaF (zu r) id).toNat,by omega⟩;rw[hd];rw[hkk] at hix hk e2 ⊢;rw[zZz] at hk ⊢;have hw:=zYp (zu r) k hk zo;have hwi:=zpD (wN n h (zu r) (zu r).length) h (zu r).length h ((zu r).eraseIdx k) (by rw[zce];omega) (by rw[zce];omega) zo (by rw[zce,z18,zYQ hk];omega);rw[zce] at hwi;rw[zg hk];have e3:rg n h ((zu r).eraseIdx k)=⟨wN n h ((zu r).eraseIdx k) ((zu r).eraseIdx k).length,h,((zu r).eraseIdx k).length⟩:=rfl;rw[e3];clear he hd h5 h6 e1 hc hh hkk e2 e3;have hlen:((zu r).eraseIdx k).length<=12:=by rw[z18,zYQ hk];omega
   generalize wN n h ((zu r).eraseIdx k) ((zu r).eraseIdx k).length=w2 at *;generalize (zu r).eraseIdx k=l2 at *;generalize zu r=L at *;subst hrg;simp only[zQ,rg,zj] at *;generalize wN n h L L.length=w at *;have zk0:=zj.eq_1;exact zW
 ·have he:rmE r id=zau r:=by unfold rmE;rw[zYQ e1]
  have hd:rmD r id=(zaz,zX,zau r):=by unfold rmD;rw[he,zYP e1]
  rw[hd];clear he hd;generalize zau r=v at *;simp only[zQ,zaz,zX,zj,zYS] at *;exact zW
def za0(s:Shard):Prop:=s.ready.cells.length<=4294967296/\s.leases.l.length<=4294967296/\s.leases.heap.length<=4294967296
theorem zpr(n:Int):zd G 285 [.d (.int .i64 n)] []=some (.d (.bool (tiQ n)),[]):=by
 unfold tiQ
 by_cases h:0<=n/\n<=1073741824
 ·rw[zZe h];obtain⟨h1,h2⟩:=h;exact zW
 ·rw[zZc h]
  by_cases h1:0<=n
  ·have h2:¬n<=1073741824:=by omega
   clear h;exact zW
  ·clear h;exact zW
theorem zEQ(n:Int):zd G 278 [.d (.int .i64 n)] []=some (.d (.bool (viQ n)),[]):=by
 unfold viQ
 by_cases h:0<=n/\n<=1000
 ·rw[zZe h];obtain⟨h1,h2⟩:=h;exact zW
 ·rw[zZc h]
  by_cases h1:0<=n
  ·have h2:¬n<=1000:=by omega
   clear h;exact zW
  ·clear h;exact zW
theorem zjE(n:Int):zd Go.Proofs.YtjalkkalhdnplaaGreat.G 48 [.d (.int .i64 n)] []=some (.d (.bool (epQ n)),[]):=zzz n
theorem zn3(n:Int):zd Go.Proofs.YtjalkkalhdnplaaGreat.G 49 [.d (.int .i64 n)] []=some (.d (.bool (liQ n)),[]):=zB5 n
theorem zHv{s:Shard}(h:zU s=0)(hl:s.live=false):s.ready.size=0/\s.leases.l=[]:=by
 have h1:zau s.ready=0:=by
  unfold zU at h
  split at h
  ·rename_i c;exact absurd h c
  ·rename_i c;exact zY9.1 c
 have hz:=(zch h1);have h2:zac s.leases=0:=by
  have q:=h;unfold zU at q;rw[zYP (fun c=>c h1)] at q
  split at q
  ·rename_i c;exact absurd q c
  ·rename_i c;exact zY9.1 c
 rw[zkJ h1 h2,zYQ hl] at h
 split at h
 ·cases h
 ·rename_i c;have h3:s.ready.size+(s.leases.l.length:Int)<=0:=by
   refine Classical.byContradiction fun q=>c ?_;omega
  have h5:=hz.2.2.2.2.1;exact⟨by omega,z2f zo⟩
theorem zhh(s:Shard)(q:za0 s):zd G 211 [.d (zi s)] []=some (.d (.int .i64 (zbc s)),[]):=by
 obtain⟨h1,h2,h3⟩:=q;have h:=zeZ s h1 h2 h3;unfold zbc
 by_cases c:zU s=0
 ·rw[zYQ c]
  cases hl:s.live with
  | false=>
   obtain⟨d1,d2⟩:=zHv c hl;have hv:zab s=7:=by unfold zab;rw[zYP (fun q=>q c),hl];rfl
   rw[hv] at h;rw[d1,d2];clear c hv d1 d2;simp only[zi,hl] at *;exact zW
  | true=>
   have hv:zab s=0:=by unfold zab;rw[zYP (fun q=>q c),hl];rfl
   have hb:0<=s.ready.size/\s.ready.size<=12/\s.leases.l.length<=12:=by
    have hu:usE s true=0:=by unfold usE;rw[zYP (fun q=>q hv)];rfl
    obtain⟨d1,d2,d3,d4⟩:=ztP hu;have hz:=zch (ztQ hu);exact⟨hz.2.2.2.2.1,by have:=hz.2.2.2.2.2;omega,d3⟩
   rw[hv] at h;clear c hv;obtain⟨b1,b2,b3⟩:=hb;simp only[zi,hl] at *;exact zW
 ·rw[zYP c];have hv:zab s≠0:=by unfold zab;rw[zYQ c];exact c
  clear c;generalize zab s=v at *;simp only[zi] at *;exact zW
def zex(s:Shard)(r:Int):Bool:=decide (zab s=0)&&decide (s.low<=r/\r<=s.high)
theorem zoW(s:Shard)(r:Int)(q:za0 s):zd G 167 [.d (zi s),.d (.int .i64 r)] []=some (.d (.bool (zex s r)),[]):=by
 obtain⟨h1,h2,h3⟩:=q;have h:=zeZ s h1 h2 h3;unfold zex;generalize zab s=v at *
 by_cases c:v=0
 ·subst c;rw[zZe rfl,z0b]
  by_cases c1:s.low<=r
  ·by_cases c2:r<=s.high
   ·rw[zZe ⟨c1,c2⟩];simp only[zi] at *;exact zW
   ·rw[zZc zo];simp only[zi] at *;exact zW
  ·rw[zZc zo];simp only[zi] at *;exact zW
 ·rw[zZc c,zZH];simp only[zi] at *;exact zW
theorem zO6(s:Shard)(h:za3)(now ep:Int)(q:za0 s):zd G 304 [.d (zi s),.d (zaB h),.d (.int .i64 now),.d (.int .i64 ep)] []=some (.d (.bool (hB s h now ep)),[]):=by
 obtain⟨h1,h2,h3⟩:=q;have hl:=zeZ s h1 h2 h3;have e1:=zjE ep;have e2:=zpr now;have hf:=zDg s.leases h.id h2 h3;have hp:=zhU (zdN s.leases h.id).1.msg ep;unfold hB usE zcF;generalize zab s=v at *;generalize epQ ep=b1 at *;generalize tiQ now=b2 at *;generalize zdN s.leases h.id=f at *;obtain⟨x,b⟩:=f
 by_cases c:v=0
 ·subst c
  cases b1
  ·cases b2
   ·simp only[zi,zaB] at *;exact zW
   ·simp only[zi,zaB] at *;exact zW
  ·cases b2
   ·simp only[zi,zaB] at *;exact zW
   ·simp only[zi,zaB,z9,zaw,zj,ne_eq,zY2,if_false,if_true,zZX,decide_true,z0b] at *
    cases b
    ·exact zW
    ·exact zW
 ·have e3:decide ((if v≠0 then v else if (b2&&b1)=true then 0 else 1)=0)=false:=by rw[zYQ c,zZc c]
  rw[e3,zZH];clear e3;simp only[zi,zaB] at *;exact zW
def zb6(s:Shard)(h:za3)(now ep:Int)(b:Bool):Int:=if usE s (tiQ now&&(epQ ep&&b))≠0 then usE s (tiQ now&&(epQ ep&&b)) else if zcF s h now ep=true then 0 else 5
theorem zrt(s:Shard)(h:za3)(now ep:Int)(b:Bool)(q:za0 s):zd G 275 [.d (zi s),.d (zaB h),.d (.int .i64 now),.d (.int .i64 ep),.d (.bool b)] []=some (.d (.int .i64 (zb6 s h now ep b)),[]):=by
 have hl:=(zeZ s q.1 q.2.1 q.2.2);have e1:=(zjE ep);have e2:=zpr now;have hh:=zO6 s h now ep q;unfold zb6 usE;unfold hB usE at hh;generalize zab s=v at *;generalize epQ ep=b1 at *;generalize tiQ now=b2 at *;generalize zcF s h now ep=hb at *
 by_cases c:v=0
 ·subst c
  cases b1
  ·cases b2<;>cases b
   all_goals
    simp only[zZ5,zZH,zZX,zYX,ne_eq,zY2,if_false,zZm,if_true] at *;clear hh;simp only[zi,zaB] at *
   all_goals (exact zW)
  ·cases b2
   ·cases b
    all_goals
     simp only[zZ5,zZH,zZX,zYX,ne_eq,zY2,if_false,zZm,if_true] at *;clear hh;simp only[zi,zaB] at *
    all_goals (exact zW)
   ·cases b
    ·clear hh;simp only[zi,zaB] at *;exact zW
    ·simp only[zZX,ne_eq,zY2,if_false,if_true,decide_true,z0b] at *;simp only[zi,zaB] at *
     cases hb
     ·exact zW
     ·exact zW
 ·clear hh;rw[zYQ c,zYQ c];simp only[zi,zaB] at *;exact zW
theorem zrv{s:Shard}{h:za3}{now ep:Int}{b:Bool}(c:usE s (tiQ now&&(epQ ep&&b))=0):zb6 s h now ep b=if zcF s h now ep=true then 0 else 5:=by
 unfold zb6;rw[zYP (fun q=>q c)]
theorem zru{s:Shard}{h:za3}{now ep:Int}{b:Bool}(c:usE s (tiQ now&&(epQ ep&&b))≠0):zb6 s h now ep b=usE s (tiQ now&&(epQ ep&&b)):=by
 unfold zb6;rw[zYQ c]
theorem zlz{s:Shard}{h:za3}{now ep:Int}{b:Bool}(q:zb6 s h now ep b=0):usE s (tiQ now&&(epQ ep&&b))=0/\zcF s h now ep=true:=by
 unfold zb6 at q
 split at q
 ·rename_i c;exact absurd q c
 ·rename_i c
  split at q
  ·rename_i c2;exact⟨zY9.1 c,c2⟩
  ·cases q
theorem znR{s:Shard}{h:za3}{now ep:Int}{b:Bool}(q:zb6 s h now ep b=0):(zaf s.leases h.id).2.2=0/\zaJ s:=by
 obtain⟨q1,q2⟩:=zlz q;have hv:=(zfC q1).1;have ht:zac s.leases=0:=by
  obtain⟨n,h',e,v⟩:=zfE hv (zfC q1).2;exact v.2.2.2.2.2.2.2.2.1
 obtain⟨d1,d2,d3,d4⟩:=ztP q1;obtain⟨y,hy,e⟩:=zlA q2;exact⟨(zs9 ht).2 ((zhG (l:=s.leases.l) h.id).2 ⟨y,hy,e⟩),d2,d3,d4⟩
theorem zFm(s:Shard)(h:za3)(now ep:Int):zc0 s h now ep=if zb6 s h now ep true=0 then ((zaI s h.id).1,(zaI s h.id).2.2) else (zA,zb6 s h now ep true):=by
 by_cases c:usE s (tiQ now&&(epQ ep&&true))=0
 ·rw[zrv c];rw[z0u] at c;unfold zc0;rw[zYP (fun q=>q c)]
  cases zcF s h now ep
  ·rfl
  ·rfl
 ·rw[zru c,zYP c];rw[z0u] at c ⊢;unfold zc0;rw[zYQ c]
theorem zFl(s:Shard)(h:za3)(now ep:Int)(q:za0 s):zd G 223 [.d (zi s),.d (zaB h),.d (.int .i64 now),.d (.int .i64 ep)] []=some (.d (.tup [zi (zc0 s h now ep).1,.int .i64 (zc0 s h now ep).2]),[]):=by
 have hh:=zrt s h now ep true q;rw[zFm]
 by_cases c:zb6 s h now ep true=0
 ·obtain⟨r1,r2⟩:=znR c;have hr:=zo2 s.leases h.id q.2.1 q.2.2;rw[zYQ c];rw[c] at hh;unfold zaI;rw[zYQ r1];rw[r1] at hr;clear c r1;generalize zaf s.leases h.id=r at *;obtain⟨t,m,e⟩:=r;obtain⟨lv,lo,hi,⟨c,h',z⟩,⟨tl,th⟩⟩:=s;simp only[zi,zaB,z9,zj] at *;exact zW
 ·rw[zYP c];generalize zb6 s h now ep true=v at *;simp only[zi,zaB,zA,zYS] at *;exact zW
theorem zCB{s:Shard}{h:za3}{now ep lim:Int}(q:zb6 s h now ep (liQ lim)=0):(zdE { s with leases:=(zaf s.leases h.id).1 } (zaf s.leases h.id).2.1 lim).2=0:=by
 obtain⟨q1,q2⟩:=zlz q;obtain⟨r0,_⟩:=znR q;obtain⟨hv,hl⟩:=zfC q1;obtain⟨y,hy,ey⟩:=zlA q2;obtain⟨n,h',e,v⟩:=zfE hv hl;rw[<- ey] at r0 ⊢;clear q q1 q2;generalize zu s.ready=L at *;generalize s.leases=t at *;generalize s.low=lo at *;generalize s.high=hi at *;obtain⟨t',r1,r2,r3⟩:=v.rel hy;have hlen:=r3.length_eq;simp only[zYW] at hlen;have hmv:zZ y.msg=0:=((zfl t.l).1 (zhi v.2.2.2.2.2.2.2.2.1).2.1).2 y hy |>.1;obtain⟨h2,L',k1,k2,k3,k4⟩:=r2.back hmv (v.2.2.2.2.2.2.2.2.2.1 y hy) (by have:=v.2.2.2.1;omega) (v.gone r3) lim;have e1:({ mkS n h' L t lo hi with leases:=(zaf t y.msg.id).1 },(zaf t y.msg.id).2.1)=(mkS n h' L t' lo hi,y.msg):=by
  unfold zaI at r1;rw[zYQ (show (zaf (mkS n h' L t lo hi).leases y.msg.id).2.2=0 from r0)] at r1;have a1:=congrArg Prod.fst r1;have a2:=congrArg (fun p=>p.2.1) r1;exact Prod.ext a1 a2
 have e2:=congrArg (fun p:Shard×Message=>p.1.leases) e1;have e3:=congrArg Prod.snd e1;have er:s.ready=rg n h' L:=by rw[e];rfl
 show (zdE ⟨s.live,lo,hi,s.ready,(zaf t y.msg.id).1⟩ (zaf t y.msg.id).2.1 lim).2=0;change (zaf t y.msg.id).1=t' at e2;change (zaf t y.msg.id).2.1=y.msg at e3;rw[hl,er,e2,e3];exact congrArg Prod.snd k1
theorem zRw(s:Shard)(h:za3)(now ep lim:Int):zcR s h now ep lim=if zb6 s h now ep (liQ lim)=0 then ({ s with leases:=(zaf s.leases h.id).1,ready:=(zdE { s with leases:=(zaf s.leases h.id).1 } (zaf s.leases h.id).2.1 lim).1 },0) else (zA,zb6 s h now ep (liQ lim)):=by
 by_cases c:zb6 s h now ep (liQ lim)=0
 ·rw[zYQ c];have hb:=zCB c;obtain⟨q1,q2⟩:=zlz c;obtain⟨r0,_⟩:=znR c;unfold zcR zaI;rw[zYP (fun q=>q q1),zYQ q2,zYQ r0];simp only[ne_eq,zY2,if_false,hb]
 ·rw[zYP c]
  by_cases c1:usE s (tiQ now&&(epQ ep&&liQ lim))=0
  ·rw[zrv c1] at c ⊢;unfold zcR;rw[zYP (fun q=>q c1)]
   cases hb:zcF s h now ep with
   | true=>rw[hb] at c;exact absurd rfl c
   | false=>rfl
  ·rw[zru c1];unfold zcR;rw[zYQ c1]
theorem zRv(s:Shard)(h:za3)(now ep lim:Int)(q:za0 s):zd G 224 [.d (zi s),.d (zaB h),.d (.int .i64 now),.d (.int .i64 ep),.d (.int .i64 lim)] []=some (.d (.tup [zi (zcR s h now ep lim).1,.int .i64 (zcR s h now ep lim).2]),[]):=by
 have hh:=zrt s h now ep (liQ lim) q;have hli:=(zn3 lim);rw[zRw]
 by_cases c:zb6 s h now ep (liQ lim)=0
 ·obtain⟨r1,r2⟩:=znR c;have hr:=zo2 s.leases h.id q.2.1 q.2.2;rw[zYQ c];rw[c] at hh;rw[r1] at hr;have hp1:=(zo1 s.ready (zaf s.leases h.id).2.1 q.1);have hp2:=(zTv s.ready (zaf s.leases h.id).2.1 q.1);have hsp:=(zpm (zaf s.leases h.id).2.1 lim);have hbe:=zCB c;unfold zdE at hbe ⊢;clear c r1;generalize liQ lim=bl at *
  by_cases c2:lim<=(zaf s.leases h.id).2.1.count
  ·rw[zYQ c2] at hbe ⊢;rw[zZe c2] at hsp;simp only at hbe;rw[hbe] at hp1;clear hp2 hbe c2;simp only;generalize (pbD s.ready (zaf s.leases h.id).2.1).1=p at *;generalize zaf s.leases h.id=r at *;obtain⟨t,m,e⟩:=r;obtain⟨pc,ph,pz⟩:=p;obtain⟨lv,lo,hi,⟨c,h',z⟩,⟨tl,th⟩⟩:=s;simp only[zi,zaB,z9,zj,zQ] at *;exact zW
  ·rw[zYP c2] at hbe ⊢;rw[zZc c2] at hsp;simp only at hbe;rw[hbe] at hp2;clear hp1 hbe c2;simp only;generalize (pfD s.ready (zaf s.leases h.id).2.1).1=p at *;generalize zaf s.leases h.id=r at *;obtain⟨t,m,e⟩:=r;obtain⟨pc,ph,pz⟩:=p;obtain⟨lv,lo,hi,⟨c,h',z⟩,⟨tl,th⟩⟩:=s;simp only[zi,zaB,z9,zj,zQ] at *;exact zW
 ·rw[zYP c];generalize zb6 s h now ep (liQ lim)=v at *;generalize liQ lim=bl at *;simp only[zi,zaB,zA,zYS] at *;exact zW
theorem zGw(s:Shard)(h:za3)(now ep vis:Int):ze9 s h now ep vis=if zb6 s h now ep (viQ vis)=0 then (if 1073741824<now+vis then (zA,6) else ({ s with leases:=(za9 s.leases h.id (now+vis)).1 },0)) else (zA,zb6 s h now ep (viQ vis)):=by
 by_cases c:zb6 s h now ep (viQ vis)=0
 ·rw[zYQ c];obtain⟨q1,q2⟩:=zlz c;unfold ze9;rw[zYP (fun q=>q q1),zYQ q2]
  by_cases c2:1073741824<now+vis
  ·rw[zYQ c2,zYQ c2]
  ·rw[zYP c2,zYP c2];have hn:=zpA q1;simp only[zY6,tiQ,viQ,decide_eq_true_eq] at hn;have ht:zac s.leases=0:=by
    obtain⟨n,h',e,v⟩:=zfE (zfC q1).1 (zfC q1).2;exact v.2.2.2.2.2.2.2.2.1
   obtain⟨y,hy,e⟩:=zlA q2;have he:(za9 s.leases h.id (now+vis)).2=0:=(zqX ht).2 ⟨(zhG (l:=s.leases.l) h.id).2 ⟨y,hy,e⟩,by omega,by omega⟩;rw[he];rfl
 ·rw[zYP c]
  by_cases c1:usE s (tiQ now&&(epQ ep&&viQ vis))=0
  ·rw[zrv c1] at c ⊢;unfold ze9;rw[zYP (fun q=>q c1)]
   cases hb:zcF s h now ep with
   | true=>rw[hb] at c;exact absurd rfl c
   | false=>rfl
  ·rw[zru c1];unfold ze9;rw[zYQ c1]
theorem zGv(s:Shard)(h:za3)(now ep vis:Int)(q:za0 s):zd G 225 [.d (zi s),.d (zaB h),.d (.int .i64 now),.d (.int .i64 ep),.d (.int .i64 vis)] []=some (.d (.tup [zi (ze9 s h now ep vis).1,.int .i64 (ze9 s h now ep vis).2]),[]):=by
 have hh:=zrt s h now ep (viQ vis) q;have hvi:=zEQ vis;rw[zGw]
 by_cases c:zb6 s h now ep (viQ vis)=0
 ·have hr:=zTx s.leases h.id (now+vis) q.2.1 q.2.2;have hn:=zpA (zlz c).1;simp only[zY6,tiQ,viQ,decide_eq_true_eq] at hn;obtain⟨n1,n2,n3⟩:=hn;clear n2;rw[zYQ c];rw[c] at hh;clear c;generalize viQ vis=bl at *
  by_cases c2:1073741824<now+vis
  ·rw[zYQ c2];clear hr;simp only[zi,zaB,zA,zYS] at *;exact zW
  ·rw[zYP c2];generalize za9 s.leases h.id (now+vis)=r at *;obtain⟨t,e⟩:=r;obtain⟨lv,lo,hi,⟨c,h',z⟩,⟨tl,th⟩⟩:=s;simp only[zi,zaB,z9] at *;exact zW
 ·rw[zYP c];generalize zb6 s h now ep (viQ vis)=v at *;generalize viQ vis=bl at *;simp only[zi,zaB,zA,zYS] at *;exact zW
theorem zTO(m:Message)(ep lim:Int):zd G 302 [.d (zj m),.d (.int .i64 ep),.d (.int .i64 lim)] []=some (.d (.bool (zf6 ep lim m)),[]):=by
 have hp:=(zDf m ep);have hs:=(zpm m lim);unfold zf6;simp only[zj] at *;exact zW
theorem zHz(m:Message):zd G 303 [.d (zj m)] []=some (.d (.tup [zj (zdI m).1,.int .i64 (zdI m).2]),[]):=by
 have hv:=(zhV m);unfold zdI
 by_cases c:zZ m=0
 ·rw[c] at hv;rw[zYP (fun q=>q c)];have hb:m.count<=8/\0<=m.count/\m.gen<=65536/\0<=m.gen:=by
   unfold zZ at c
   split at c
   ·omega
   ·cases c
  clear c
  by_cases c1:m.gen=65536
  ·rw[zYQ c1];replace c1:=zY8 c1;simp only[zj,zX] at hv ⊢;exact zW
  ·rw[zYP c1]
   by_cases c2:m.count=8
   ·rw[zYQ c2];replace c2:=zY8 c2;simp only[zj,zX] at hv ⊢;exact zW
   ·rw[zYP c2];simp only[zj] at *;exact zW
 ·rw[zYQ c];generalize zZ m=v at *;simp only[zj,zX] at *;exact zW
theorem zXQ{mx d ep lim:Int}:∀(l:List Message) (s:Shard) (out:List zy),(out.length:Int)=mx->tkF mx d ep lim l s out=(s,out,0):=by
 intro l
 induction l with
 | nil=>intro s out _;rfl
 | cons m l ih=>intro s out h;rw[tkF,zYQ (.inl h)];exact ih s out h
structure T7 where
 L:List Message
 t:Table
 out:List zy
 i:Nat
def t7S(n h:Nat)(lo hi:Int)(l:List Message)(mx now vis ep lim:Int)(p:T7):St:=⟨[(1,.d (.int .i64 mx)),(2,.d (.int .i64 now)),(3,.d (.int .i64 vis)),(4,.d (.int .i64 ep)),(5,.d (.int .i64 lim)),(6,.ref 6 0 0),(12,.ref 12 0 0),(16,.acc 16 (p.out.map zaw)),(17,.d (.sl (l.map zj))),(18,.d (.int .i64 p.i))],[(6,.row [.d (zi (mkS n h p.L p.t lo hi))]),(12,.row [shZ]),(16,.acc p.out.length)]⟩
def t7R(x:Shard×List zy×Int):zR×St:=(.exit 0,⟨[(6,.ref 6 0 0),(12,.ref 12 0 0),(16,.acc 16 (x.2.1.map zaw))],[(6,.row [.d (zi x.1)]),(12,.row [shZ]),(16,.acc x.2.1.length)]⟩)
def t7I(n h:Nat)(lo hi:Int)(l:List Message)(mx:Int)(p:T7):Prop:=VS n h p.L p.t lo hi/\p.i<=l.length/\p.out.length<=p.i/\(p.out.length:Int)<=mx/\(∀m∈l.drop p.i,m∈p.L)/\((l.drop p.i).map (·.id)).Nodup
theorem zXr(n h:Nat)(lo hi:Int)(l:List Message)(mx now vis ep lim:Int)(hl:l.length<=12)(hlim:lim<=8)(h1:0<=now/\now<=1073741824)(h2:0<=vis/\vis<=1000)(h3:now+vis<=1073741824):∀p,t7I n h lo hi l mx p->zP G [] zjZ (t7S n h lo hi l mx now vis ep lim p)=some (t7R (tkF mx (now+vis) ep lim (l.drop p.i) (mkS n h p.L p.t lo hi) p.out)):=by
 refine zaq (fun p:T7=>l.length - p.i) (t7I n h lo hi l mx) (t7S n h lo hi l mx now vis ep lim) (fun p=>some (t7R (tkF mx (now+vis) ep lim (l.drop p.i) (mkS n h p.L p.t lo hi) p.out))) fun p hp L ih=> ?_;obtain⟨LL,t,out,i⟩:=p;obtain⟨v,hi1,ho,hmx,hm,hn⟩:=hp;simp only at v hi1 ho hmx hm hn
 by_cases h0:i<l.length
 ·have hd:=zZr h0;rw[hd] at hm hn;simp only[zYU,zZS] at hn
  by_cases c0:(out.length:Int)=mx
  ·simp only;rw[zXQ _ _ _ c0];have c1:¬(out.length:Int)<mx:=by omega
   clear ih hm hn hd v c0 hmx;simp only[t7S,t7R,zjZ];generalize mkS n h LL t lo hi=s at *;simp only[zi,shZ] at *;exact zS
  ·have c1:(out.length:Int)<mx:=by omega
   have hr:=zTO l[i] ep lim;have hml:=hm l[i] (.head _);simp only;rw[hd,tkF]
   cases hq:zf6 ep lim l[i] with
   | false=>
    rw[zYQ (.inr rfl)];rw[hq] at hr;have i1:=ih ⟨LL,t,out,i+1⟩ ⟨v,by simp only;omega,by simp only;omega,hmx,fun m q=>hm m (.tail _ q),hn.2⟩ (by simp only;omega);clear ih hm hn hd v c0 hmx hml;simp only at i1;generalize t7R (tkF mx (now+vis) ep lim (l.drop (i+1)) (mkS n h LL t lo hi) out)=R at *;simp only[t7S,zjZ] at *;generalize mkS n h LL t lo hi=s at *;simp only[zi,zj,shZ] at *;simp only[zNr,zp] at i1;have zk0:=zj.eq_1;exact zS
   | true=>
    rw[zYP (by rintro (q|q);exact c0 q;cases q)];rw[hq] at hr;obtain⟨k,hk,ek,e1,e2,v2⟩:=v.dlv hml hq hlim (d:=now+vis) zo zo;obtain⟨k2,hk2,ek2,hrm⟩:=v.rem hml;obtain⟨q1,q2,q3⟩:=(zDj ep lim l[i]).1 hq;have hdel:=zyM (v.2.2.2.2.2.2.2.1 l[i] hml).1 q3 zo;have hp:=znv LL k hk;rw[ek] at hp;have hl2:∀x∈l.drop (i+1),x∈LL.eraseIdx k:=by
     intro x hx
     rcases zZx.1 (hp.mem_iff.2 (hm x (.tail _ hx))) with rfl|hx2
     ·exact absurd (zY0.2 ⟨_,hx,rfl⟩) hn.1
     ·exact hx2
    have c3:=zHz l[i];have c4:=(zs1 (rg n h LL) l[i].id (by have:=v.lens.1;show (mkS n h LL t lo hi).ready.cells.length<=_;omega));have tl:=zh7 v.2.2.2.2.2.2.2.2.1;have c5:=zs2 t (upM l[i]) (now+vis) zo zo;have hlen:=v.lens;rw[e1];rw[zYP (by simp)];rw[hrm] at c4;rw[show zdI l[i]=(upM l[i],0) from hdel] at c3;have ekk:rg n h (LL.eraseIdx k2)=rg n h (LL.eraseIdx k):=by
     have a1:zfR (mkS n h LL t lo hi) l[i] (now+vis)=_:=e1;have a2:=congrArg (fun p:Shard×zy×Int=>p.1.ready) a1;unfold zfR at a2;rw[show rmD (mkS n h LL t lo hi).ready l[i].id=(rg n h (LL.eraseIdx k2),l[i],0) from hrm] at a2;have hg:(zaH t (upM l[i]) (now+vis)).2=0:=by
      have a3:=congrArg (fun p:Shard×zy×Int=>p.2.2) a1;unfold zfR at a3;rw[show rmD (mkS n h LL t lo hi).ready l[i].id=(rg n h (LL.eraseIdx k2),l[i],0) from hrm] at a3;simp only[show zdI l[i]=(upM l[i],0) from hdel,ne_eq,zY2,if_false] at a3
      by_cases hz:(zaH t (upM l[i]) (now+vis)).2=0
      ·exact hz
      ·rw[zYQ (show ¬(zaH (mkS n h LL t lo hi).leases (upM l[i]) (now+vis)).2=0 from hz)] at a3;exact absurd a3 hz
     simp only[show zdI l[i]=(upM l[i],0) from hdel,ne_eq,zY2,if_false] at a2;rw[zYP (fun q=>q (show (zaH (mkS n h LL t lo hi).leases (upM l[i]) (now+vis)).2=0 from hg))] at a2;exact a2
    rw[ekk] at c4;have i1:=ih ⟨LL.eraseIdx k,(zaH t (upM l[i]) (now+vis)).1,out++[⟨upM l[i],now+vis⟩],i+1⟩ ⟨v2,by simp only;omega,by simp only[zYZ,zZp];omega,by simp only[zYZ,zZp];omega,hl2,hn.2⟩ (by simp only;omega);clear ih hm hn hd v v2 c0 hml e1 e2 hrm hdel hp hl2 ekk hk hk2 ek ek2;simp only at i1 ⊢;generalize t7R (tkF mx (now+vis) ep lim (l.drop (i+1)) (mkS n h (LL.eraseIdx k) (zaH t (upM l[i]) (now+vis)).1 lo hi) (out++[⟨upM l[i],now+vis⟩]))=R at *;simp only[t7S,mkS,zjZ,zY5,zYU,zYS] at *;generalize zaH t (upM l[i]) (now+vis)=g at *;generalize rg n h (LL.eraseIdx k)=r2 at *;generalize rg n h LL=r1 at *;obtain⟨t2,ge⟩:=g;obtain⟨c2,hh2,z2⟩:=r2;obtain⟨c1',hh1,z1⟩:=r1;obtain⟨tl1,th1⟩:=t;obtain⟨tl2,th2⟩:=t2;simp only[zi,zj,zaw,z9,zQ,upM,shZ] at *;simp only[zNr,zp] at i1;have zk0:=zj.eq_1;exact zS
 ·clear ih;obtain rfl:i=l.length:=by omega
  simp only[zZA,tkF,t7R,t7S,zjZ];generalize mkS n h LL t lo hi=s at *;simp only[zi,shZ] at *;exact zS
theorem zXu(s:Shard)(mx now vis ep lim:Int)(q:za0 s):zd G 274 [.d (zi s),.d (.int .i64 mx),.d (.int .i64 now),.d (.int .i64 vis),.d (.int .i64 ep),.d (.int .i64 lim)] []=some (.d (.tup [zi (zcJ s mx now vis ep lim).1,.sl ((zcJ s mx now vis ep lim).2.1.map zaw),.int .i64 (zcJ s mx now vis ep lim).2.2]),[]):=by
 have hl:=(zeZ s q.1 q.2.1 q.2.2);have e1:=(zjE ep);have e2:=(zn3 lim);have e3:=zpr now;have e4:=zEQ vis;unfold zcJ
 by_cases c:zkS s mx now vis ep lim=0
 ·rw[zYP (fun q=>q c)];obtain⟨hv,hlv⟩:=zfC (s:=s) c;have hn:=zpA (s:=s) c;have hring:=ztQ (s:=s) c;have hrd:=(zi7 hring);have hl0:zab s=0:=by unfold zab;rw[zYP (fun q=>q hv),hlv];rfl
  rw[hl0] at hl;simp only[zY6] at hn;obtain⟨n1,n2,n3,n4,n5⟩:=hn;rw[n1] at e1;rw[n2] at e2;rw[n3] at e3;rw[n4] at e4;simp only[liQ,tiQ,viQ,decide_eq_true_eq] at n2 n3 n4 n5;obtain⟨m1,m2⟩:=n3;obtain⟨m3,m4⟩:=n4;obtain⟨m5,m6⟩:=n5
  by_cases c2:1073741824<now+vis
  ·rw[zYQ c2];clear hrd hl0 c hv hring n1 n2 q hlv;simp only[zi,zA,zYS] at *;exact zW
  ·rw[zYP c2];obtain⟨n,h,e,v⟩:=zfE hv hlv;have hnd:=(z0e.1 v.2.2.2.2.2.2.2.2.2.2).1;have hLn:(zu s.ready).length<=12:=by have:=v.2.2.2.1;have:=v.2.1;omega
   have hlp:=zXr n h s.low s.high (zu s.ready) mx now vis ep lim hLn n2.2 ⟨m1,m2⟩ ⟨m3,m4⟩ zo ⟨zu s.ready,s.leases,[],0⟩ ⟨v,by simp only;omega,by simp only[zYY];omega,by simp only[zYY];omega,fun m hm=>hm,hnd⟩;obtain⟨L',t',o',r1,_,_,_,_⟩:=VS.take (mx:=mx) (d:=now+vis) (ep:=ep) (lim:=lim) n2.2 zo zo (zu s.ready) (zu s.ready) s.leases [] v (fun m hm=>hm) hnd;simp only[t7S,t7R,zZq] at hlp;rw[<- e] at hlp r1;rw[r1] at hlp ⊢;clear e v r1 hl0 c hv hring n1 n2 q hnd hLn hlv;generalize mkS n h L' t' s.low s.high=s2 at *;generalize zu s.ready=W at *;simp only[zZb,zYS,zYY,zZg] at *;simp only[zi,shZ] at *;exact zW
 ·rw[zYQ c];have hu:zkS s mx now vis ep lim=if zab s≠0 then zab s else if (epQ ep&&(liQ lim&&(tiQ now&&(viQ vis&&decide (1<=mx/\mx<=6)))))=true then 0 else 1:=rfl
  rw[hu] at c ⊢;clear hu q
  by_cases c0:zab s=0
  ·rw[zYP (fun q=>q c0)] at c ⊢;rw[c0] at hl;rw[zYP (fun q=>c (by rw[zYQ q]))];have hb:(epQ ep&&(liQ lim&&(tiQ now&&(viQ vis&&decide (1<=mx/\mx<=6)))))=false:=z1d.2 fun q=>c (by rw[zYQ q]);clear c c0;generalize epQ ep=b1 at *;generalize liQ lim=b2 at *;generalize tiQ now=b3 at *;generalize viQ vis=b4 at *;simp only[zi,zA,zYS] at *
   cases b1
   ·clear hb;exact zW
   ·cases b2
    ·clear hb;exact zW
    ·cases b3
     ·clear hb;exact zW
     ·cases b4
      ·clear hb;exact zW
      ·simp only[z0b,decide_eq_false_iff_not] at hb
       by_cases c1:mx<1
       ·clear hb;exact zW
       ·have c2:6<mx:=by omega
        clear hb;exact zW
  ·rw[zYQ c0];clear c e1 e2 e3 e4;generalize zab s=v at *;simp only[zi,zA,zYS] at *;exact zW
def zcH(s:Shard)(m:Message):Shard×Int:=
 if zab s≠0 then (zA,zab s) else if zZ m≠0 then (zA,zZ m) else if ¬(s.low<=m.route/\m.route<=s.high) then (zA,12)
 else if s.ready.size+s.leases.l.length=s.ready.cells.length then (zA,3) else if ((zav s).any fun x=>decide (x.id=m.id))=true then (zA,10) else ({ s with ready:=(pbD s.ready m).1 },0)
theorem zFD(l:List Message)(id:Int):(l.any fun m=>decide (m.id=id))=decide (0<=zaF l id):=by
 by_cases h:∃m∈l,m.id=id
 ·rw[zZe (zq8 h)];obtain⟨m,hm,e⟩:=h;exact zZW.2 ⟨m,hm,by simp [e]⟩
 ·have:zaF l id<0:=by
     unfold zaF;rw[zlC];intro m hm;have:¬m.id=id:=fun e=>h ⟨m,hm,e⟩;simp [this]
  rw[zZc zo];refine z1d.2 fun q=>h ?_;obtain⟨m,hm,e⟩:=zZW.1 q;exact⟨m,hm,of_decide_eq_true e⟩
theorem zQF{s:Shard}(h:zab s=0):usE s true=0:=by unfold usE;rw[zYP (fun q=>q h)];rfl
theorem zDe(s:Shard)(m:Message)(q:za0 s):zd G 215 [.d (zi s),.d (zj m)] []=some (.d (.tup [zi (zcH s m).1,.int .i64 (zcH s m).2]),[]):=by
 have hlv:=(zeZ s q.1 q.2.1 q.2.2);unfold zcH
 by_cases c0:zab s=0
 ·rw[zYP (fun q=>q c0)];have hu:=zQF c0;obtain⟨d1,d2,d3,d4⟩:=ztP hu;have hring:=ztQ hu;have hz:=zch hring;have hv2:=(zhV m);have hst:=zhh s q;have hsv:zbc s=s.ready.size+s.leases.l.length:=by unfold zbc;rw[zYQ (zfC hu).1]
  rw[hsv] at hst;have hall:=(zjm hring d3);have hlm:=ztl hring d3;have hix:=(ziG (zav s) m.id zo);have haf:=zFD (zav s) m.id;have hpb:=(zo1 s.ready m zo);have hsz:s.ready.size<=12/\0<=s.ready.size:=⟨by have:=hz.2.2.2.2.2;omega,hz.2.2.2.2.1⟩;rw[c0] at hlv;rw[haf];clear hu hring hz hsv haf c0 q
  by_cases c1:zZ m=0
  ·rw[zYP (fun q=>q c1)];rw[c1] at hv2
   by_cases c2:s.low<=m.route/\m.route<=s.high
   ·rw[zYP (fun q=>q c2)];obtain⟨c21,c22⟩:=c2
    by_cases c3:s.ready.size+s.leases.l.length=s.ready.cells.length
    ·rw[zYQ c3];rw[c3] at hst;clear hpb hix hall c1 c3;obtain⟨lv,lo,hi,⟨c,h,z⟩,⟨tl,th⟩⟩:=s;simp only[zi,zj,zA,zYS] at *;exact zW
    ·rw[zYP c3];generalize zaF (zav s) m.id=fi at *;generalize zav s=w at *;obtain⟨sz,esz⟩:∃sz,s.ready.size+s.leases.l.length=sz:=⟨_,rfl⟩;rw[esz] at hst c3;clear esz
     by_cases c5:0<=fi
     ·rw[zZe c5,zYQ rfl];clear hpb c1;obtain⟨lv,lo,hi,⟨c,h,z⟩,⟨tl,th⟩⟩:=s;simp only[zi,zj,zA,zYS] at *;exact zW
     ·rw[zZc c5,zYP (by simp)];clear c1;generalize pbD s.ready m=p at *;obtain⟨r2,e2⟩:=p;obtain⟨lv,lo,hi,⟨c,h,z⟩,⟨tl,th⟩⟩:=s;obtain⟨c2,h2,z2⟩:=r2;simp only[zi,zj,zQ,zA,zYS] at *;exact zW
   ·rw[zYQ c2];clear hpb hix hall hst c1;obtain⟨lv,lo,hi,⟨c,h,z⟩,⟨tl,th⟩⟩:=s;simp only[zi,zj,zA,zYS] at *
    by_cases c3:m.route<lo
    ·exact zW
    ·have c4:hi<m.route:=by omega
     clear c2;exact zW
  ·rw[zYQ c1];clear hpb hix hall hst;generalize zZ m=mv at *;obtain⟨lv,lo,hi,⟨c,h,z⟩,⟨tl,th⟩⟩:=s;simp only[zi,zj,zA,zYS] at *;exact zW
 ·rw[zYQ c0];generalize zab s=v at *;simp only[zi,zj,zA,zYS] at *;exact zW
def zjT(r lo hi:Int):Int:=if r<0\/65536<=r\/lo<0\/65536<=hi\/hi<lo then 0 else ziJ r lo hi
def zcb(m:Message)(lo hi:Int):Message:={ m with route:=zjT m.route lo hi }
def zbA(m:Message):Message:={ m with count:=0 }
def zl2(id route ep now:Int)(body:List UInt8):Message×Int:=
 if zZ ⟨id,route,ep,0,0,now,body⟩≠0 then (zX,zZ ⟨id,route,ep,0,0,now,body⟩) else (⟨id,route,ep,0,0,now,body⟩,0)
def zbK(n:Int)(lo hi:Int):Shard×Int:=
 if n<1\/12<n then (zA,1) else if ¬(0<=lo/\lo<=hi/\hi<65536) then (zA,1) else (⟨true,lo,hi,⟨List.replicate n.toNat zX,0,0⟩,zV⟩,0)
def zfX(n:Int):Shard×Int:=if n<1\/12<n then (zA,1) else (⟨false,0,0,⟨List.replicate n.toNat zX,0,0⟩,zV⟩,0)
def rmP(ep:Int):List Message->z8->z8
 | [],r=>r
 | m::l,r=>if m.epoch<ep then rmP ep l (rmD r m.id).1 else rmP ep l r
def zft(ep:Int):List zy->Table->Table
 | [],t=>t
 | y::l,t=>if y.msg.epoch<ep then zft ep l (zaf t y.msg.id).1 else zft ep l t
def zhx(s:Shard)(ep:Int):Shard×Int×Int:=
 if zab s≠0 then (zA,0,zab s) else if epQ ep=false then (zA,0,1)
 else ({ s with ready:=rmP ep (zu s.ready) s.ready,leases:=zft ep s.leases.l s.leases },((zu s.ready).filter fun m=>decide (m.epoch<ep)).length+(s.leases.l.filter fun y=>decide (y.msg.epoch<ep)).length,0)
def zeS(r:z8)(k:Int):z8×List Message×Int:=
 if zau r≠0 then (zaz,[],zau r) else if k<0\/r.size<k then (zaz,[],1)
 else (rg r.cells.length r.head.toNat ((zu r).take ((zu r).length - k.toNat)),(zu r).drop ((zu r).length - k.toNat),0)
def zfP(s:Shard)(k:Int):Shard×List Message×Int:=
 if zab s≠0 then (zA,[],zab s) else if (zeS s.ready k).2.2≠0 then (zA,[],(zeS s.ready k).2.2) else ({ s with ready:=(zeS s.ready k).1 },(zeS s.ready k).2.1,0)
def zeN(lo hi:Int):List Message->Shard->Shard×Int
 | [],s=>(s,0)
 | m::l,s=>if (zcH s (zcb m lo hi)).2≠0 then (zA,(zcH s (zcb m lo hi)).2) else zeN lo hi l (zcH s (zcb m lo hi)).1
def zge(s:Shard)(l:List Message):Shard×Int:=
 if zab s≠0 then (zA,zab s) else if (s.ready.cells.length:Int) - zbc s<l.length then (zA,3) else zeN s.low s.high l s
def zee(k ep lim:Int):List Message->z8->List Message->z8×List Message
 | [],r,out=>(r,out)
 | m::l,r,out=>if ¬(out.length:Int)<k then (r,out) else if lim<=m.count/\¬m.epoch<ep then zee k ep lim l (rmD r m.id).1 (out++[m]) else zee k ep lim l r out
def zfL(s:Shard)(k ep lim:Int):Shard×List Message×Int:=
 if zab s≠0 then (zA,[],zab s) else if epQ ep=false\/liQ lim=false\/k<0 then (zA,[],1)
 else ({ s with ready:=(zee k ep lim (zu s.ready) s.ready []).1 },(zee k ep lim (zu s.ready) s.ready []).2,0)
def zbz(lo hi:Int):List Message->z8->z8
 | [],r=>r
 | m::l,r=>if lo<=m.route/\m.route<=hi then zbz lo hi l (pbD r m).1 else zbz lo hi l r
def zen(lo hi:Int):List zy->Table->Table
 | [],t=>t
 | y::l,t=>if lo<=y.msg.route/\y.msg.route<=hi then zen lo hi l (zaH t y.msg y.deadline).1 else zen lo hi l t
def zgm(s:Shard)(l:List Message)(y:List zy):Shard:={ s with ready:=zbz s.low s.high l s.ready,leases:=zen s.low s.high y s.leases }
def zdJ(s:Shard)(mid:Int):Shard×Shard×Int:=
 if zab s≠0 then (zA,zA,zab s) else if mid<s.low\/s.high<=mid then (zA,zA,1)
 else (zgm (zbK s.ready.cells.length s.low mid).1 (zu s.ready) s.leases.l,zgm (zbK s.ready.cells.length (mid+1) s.high).1 (zu s.ready) s.leases.l,0)
def zia(a b:Shard):Shard×Int:=
 if zU a≠0 then (zA,zU a) else if zU b≠0 then (zA,zU b)
 else if a.live=false\/b.live=false\/a.high+1≠b.low/\b.high+1≠a.low then (zA,7)
 else if (a.ready.cells.length:Int)<zbc a+zbc b then (zA,3)
 else if ((zav b).any fun m=>decide (0<=zaF (zav a) m.id))=true then (zA,10)
 else (zgm { a with low:=if a.low<b.low then a.low else b.low,high:=if a.high<b.high then b.high else a.high } (zu b.ready) b.leases.l,0)
abbrev Stp:=zm×zq×List Event×Int
def zbu(e:Int):Stp:=(zx,zJ,[],e)
structure Tok where
 route:Int->Int
 enc:za3->List UInt8×Int
 par:List UInt8->za3×Int
def sh0(t:zq):Shard:=t.sec.shards.getD 0 zA
def zdx(K:Tok)(t0:zq):zq×List Event:=
 let s:=sh0 t0
 let t:zq:={ t0 with loaded:=0 }
 let o:=z7 t.sec
 if zex s t.walk.next=false then (za5 t o,[])
 else if zbc s=s.ready.cells.length then
  (let t2:zq:={ t with walk:=(zfF t.walk s.low s.high).1 }
   if zgL t2.walk=false then (za5 t2 o,[])
   else (za5 { t2 with loaded:=2 } o,[{ zcd t 2 with err:=3,l:=[⟨t.id,0,0,0⟩] }]))
 else
  let m:=(zl2 t.id (zjT (K.route t.id) s.low s.high) t.sec.snap.epoch t.sec.snap.clock (t.inv.bodies.getD t.entry.toNat [])).1
  (za5 { t with loaded:=1 } { o with shards:=[(zcH s m).1],order:=[0] },[{ zcd t 2 with l:=[⟨t.id,0,m.route,0⟩] }])
def zd3(K:Tok)(a:zm)(t:zq)(n:Int):Stp:=
 if zan t 1 1≠0 then zbu (zan t 1 1)
 else if t.pc=0 then (if a.nextID=1073741824 then (a,zbo { t with loaded:=a.nextID } (zaW 6) n,[{ evT t 2 n with err:=6 }],0) else (a,{ t with loaded:=a.nextID,pc:=1 },[],0))
 else if t.pc=1 then
  (let c:=casWord a 3 t.loaded (t.loaded+1)
   if c.2.2≠0 then zbu c.2.2 else (c.1,if c.2.1=true then { t with id:=t.loaded,pc:=2,walk:=(zgK (K.route t.loaded)).1 } else { t with pc:=0 },[],0))
 else if t.pc=2 then (a,zg3 a t t.walk.next 3,[],0)
 else
  let g:=goT a t n
  if g.2.2.2.2≠0 then zbu g.2.2.2.2
  else if g.2.2.1=true then (g.1,(zdx K g.2.1).1,(zdx K g.2.1).2,0)
  else if g.2.2.2.1=false then (g.1,g.2.1,[],0)
  else if g.2.1.loaded=1 then (g.1,zbo g.2.1 { zah with id:=g.2.1.id } n,[],0)
  else if g.2.1.loaded=2 then (g.1,zbo g.2.1 (zaW 3) n,[],0)
  else (g.1,{ g.2.1 with pc:=2 },[],0)
def zc6(d:zao)(h:Int):Int:=if 0<=zjS d h then zjS d h else zew d 0
def zdi(t:zq):Shard×List Int×List zy:=
 let e:=zcD (sh0 t) t.sec.snap.clock t.sec.snap.epoch t.setup.limit
 let k:=zcJ e.1 t.inv.max t.sec.snap.clock t.inv.visibility t.sec.snap.epoch t.setup.limit
 (k.1,e.2.1,k.2.1)
def zhX(K:Tok)(t:zq):Result:=
 { zah with tokens:=(zdi t).2.2.map fun y=>(K.enc ⟨y.msg.id,y.msg.gen,y.msg.route,t.slot⟩).1,bodies:=(zdi t).2.2.map fun y=>y.msg.body }
def zgW(y:zy):Grant:=⟨y.msg.id,y.msg.gen,y.msg.route,y.deadline⟩
def zdt(t0:zq):zq×List Event:=
 let s:=sh0 t0
 let t:zq:={ t0 with loaded:=0 }
 let o:=z7 t.sec
 if zex s t.walk.next=false then (za5 t o,[])
 else if 1073741824<t.sec.snap.clock+t.inv.visibility then (za5 { t with loaded:=3 } o,[{ zcd t 3 with err:=6 }])
 else
  let r:=zdi t
  let ev1:List Event:=if 0<r.2.1.length then [{ zcd t 10 with l:=r.2.1.map fun i=>⟨i,0,0,0⟩ }] else []
  let o2:zb5:=if 0<r.2.1.length\/0<r.2.2.length then { o with shards:=[r.1],order:=[0] } else o
  let t2:zq:={ t with walk:=(zfF t.walk s.low s.high).1 }
  if 0<r.2.2.length then (za5 { t2 with loaded:=1 } o2,ev1++[{ zcd t 3 with l:=r.2.2.map zgW }])
  else if zgL t2.walk=true then (za5 { t2 with loaded:=2 } o2,ev1++[zcd t 3]) else (za5 t2 o2,ev1)
def zd0(K:Tok)(a:zm)(t:zq)(n:Int):Stp:=
 if zan t 2 2≠0 then zbu (zan t 2 2)
 else if t.pc=0 then (a,zcc { t with dir:=a.dir,slot:=zc6 a.dir t.inv.home,walk:=(zgK (zkO a.dir (zc6 a.dir t.inv.home)).1.low).1 } [zc6 a.dir t.inv.home] 1,[],0)
 else if t.pc=2 then (a,zg3 a t t.walk.next 1,[],0)
 else
  let g:=goT a t n
  if g.2.2.2.2≠0 then zbu g.2.2.2.2
  else if g.2.2.1=true then (g.1,(zdt g.2.1).1,(zdt g.2.1).2,0)
  else if g.2.2.2.1=false then (g.1,g.2.1,[],0)
  else if g.2.1.loaded=3 then (g.1,zbo g.2.1 (zaW 6) n,[],0)
  else if g.2.1.loaded=2 then (g.1,zbo g.2.1 zah n,[],0)
  else if g.2.1.loaded=1 then (g.1,zbo g.2.1 (zhX K g.2.1) n,[],0)
  else (g.1,{ g.2.1 with pc:=2 },[],0)
def ziy(op:Int):Int:=if op=3 then 4 else if op=4 then 5 else 6
def zdz(t:zq):Shard×Int:=
 if t.inv.kind=3 then zc0 (sh0 t) t.handle t.sec.snap.clock t.sec.snap.epoch
 else if t.inv.kind=4 then zcR (sh0 t) t.handle t.sec.snap.clock t.sec.snap.epoch t.setup.limit
 else ze9 (sh0 t) t.handle t.sec.snap.clock t.sec.snap.epoch t.inv.visibility
def zdy(t:zq):zq×List Event:=
 let o:=z7 t.sec
 if zex (sh0 t) t.handle.route=false then (za5 t o,[])
 else
  let x:=zdz t
  let g:Grant:=⟨t.handle.id,t.handle.gen,t.handle.route,if x.2=0/\t.inv.kind=5 then t.sec.snap.clock+t.inv.visibility else 0⟩
  (za5 t (if x.2=0 then { o with shards:=[x.1],order:=[0] } else o),[{ zcd t (ziy t.inv.kind) with err:=x.2,l:=[g] }])
def zd5(K:Tok)(a:zm)(t:zq)(n:Int):Stp:=
 if zan t 3 5≠0 then zbu (zan t 3 5)
 else if t.pc=0 then
  (let h:=K.par (t.inv.tokens.getD t.entry.toNat [])
   if h.2≠0 then (a,zbo t (zaW 5) n,[{ evT t (ziy t.inv.kind) n with err:=5 }],0)
   else (a,if h.1.hint<t.setup.slots then zcc { t with handle:=h.1,pc:=1 } [h.1.hint] 2 else { t with handle:=h.1,pc:=1 },[],0))
 else if t.pc=1 then (a,zg3 a t t.handle.route 2,[],0)
 else
  let g:=goT a t n
  if g.2.2.2.2≠0 then zbu g.2.2.2.2
  else if g.2.2.1=true then (g.1,(zdy g.2.1).1,(zdy g.2.1).2,0)
  else if g.2.2.2.1=false then (g.1,g.2.1,[],0)
  else if zex (sh0 g.2.1) g.2.1.handle.route=false then (g.1,{ g.2.1 with pc:=1 },[],0)
  else (g.1,zbo g.2.1 { zah with err:=(zdz g.2.1).2,id:=if (zdz g.2.1).2=0 then g.2.1.handle.id else 0 } n,[],0)
def zhN(a b:Int):Int:=if a<b then a else b
def zf8(t:zq):Int:=zhN t.inv.max ((sh0 t).ready.cells.length - zbc (sh0 t))
def zdu(t:zq):zq×List Event:=
 let s:=sh0 t
 let o:=z7 t.sec
 if s.live=false then (za5 t o,[])
 else if zf8 t=0 then (za5 t o,[{ zcd t 9 with err:=3 }])
 else
  let d:=zhj t.sec.dead (zf8 t) t.sec.snap.epoch
  if d.2.1.length=0 then (za5 t o,[zcd t 9])
  else (za5 t { o with carry:=d.2.1.map zbA,shards:=[(zge s (d.2.1.map zbA)).1],dead:=d.1,order:=[1,0] },[{ zcd t 9 with l:=d.2.1.map fun m=>⟨m.id,m.gen,(zcb (zbA m) s.low s.high).route,0⟩ }])
def zd1(a:zm)(t:zq)(n:Int):Stp:=
 if zan t 8 8≠0 then zbu (zan t 8 8)
 else if t.pc=0 then (a,zcc { t with dir:=a.dir,slot:=zc6 a.dir t.inv.home } [zc6 a.dir t.inv.home,t.setup.slots] 1,[],0)
 else
  let g:=goT a t n
  if g.2.2.2.2≠0 then zbu g.2.2.2.2
  else if g.2.2.1=true then (g.1,(zdu g.2.1).1,(zdu g.2.1).2,0)
  else if g.2.2.2.1=false then (g.1,g.2.1,[],0)
  else if (sh0 g.2.1).live=false then (g.1,{ g.2.1 with pc:=0 },[],0)
  else (g.1,zbo g.2.1 { zah with moved:=g.2.1.sec.out.carry.length,err:=if zf8 g.2.1=0 then 3 else 0 } n,[],0)
abbrev Pln:=zb5×Result×List Event
def zbg(plan:zq->Pln)(lo hi:Int)(cells:zq->List Int)(a:zm)(t0:zq)(n:Int):Stp:=
 if zan t0 lo hi≠0 then zbu (zan t0 lo hi)
 else
  let t:=if t0.pc=0 then zcc t0 (cells t0) 1 else t0
  let g:=goT a t n
  if g.2.2.2.2≠0 then zbu g.2.2.2.2
  else if g.2.2.1=true then (g.1,za5 g.2.1 (plan g.2.1).1,(plan g.2.1).2.2,0)
  else if g.2.2.2.1=false then (g.1,g.2.1,[],0)
  else (g.1,zbo g.2.1 (plan g.2.1).2.1 n,[],0)
def zcS(t:zq):List Int:=if t.inv.from_<t.inv.to then [0,1] else [1,0]
def zY(t:zq):Shard:=if t.inv.from_<t.inv.to then t.sec.shards.getD 0 zA else t.sec.shards.getD 1 zA
def zaK(t:zq):Shard:=if t.inv.from_<t.inv.to then t.sec.shards.getD 1 zA else t.sec.shards.getD 0 zA
def zdY(t:zq)(x y:Shard):List Shard:=if t.inv.from_<t.inv.to then [x,y] else [y,x]
def zeG(t:zq):Pln:=
 let o:=z7 t.sec
 if (zY t).live=false\/(zaK t).live=false then (o,zaW 7,[])
 else
  let k:=zhN (((zY t).ready.size+1).tdiv 2) ((zaK t).ready.cells.length - zbc (zaK t))
  if k=0 then (o,zah,[])
  else
   let d:=zfP (zY t) k
   ({ o with shards:=zdY t d.1 (zge (zaK t) d.2.1).1,order:=zcS t,carry:=d.2.1 },{ zah with moved:=k },[])
def zeE(t:zq):Pln:=
 let o:=z7 t.sec
 let s:=zY t
 if s.live=false\/(zaK t).live=true\/s.high<=s.low then (o,zaW 7,[])
 else
  let mid:=(s.low+s.high).tdiv 2
  let d:=zdJ s mid
  ({ o with shards:=zdY t d.1 d.2.1,order:=zcS t,carry:=zav d.2.1,edits:=[⟨1,t.inv.from_,t.inv.to,mid⟩] },{ zah with moved:=zbc d.2.1 },[])
def zeu(t:zq):Pln:=
 let o:=z7 t.sec
 let y:=zia (zaK t) (zY t)
 if y.2≠0 then (o,zaW y.2,[])
 else ({ o with shards:=zdY t (zfX (zY t).ready.cells.length).1 y.1,order:=zcS t,carry:=zav (zY t),edits:=[⟨2,t.inv.from_,t.inv.to,0⟩] },{ zah with moved:=zbc (zY t) },[])
def zd8(t:zq):Pln:=
 let o:=z7 t.sec
 if t.sec.shards.length=0 then
  (let d:=zhw t.sec.dead t.sec.snap.epoch
   (if 0<d.2.1 then { o with dead:=d.1,order:=[0] } else o,{ zah with moved:=d.2.1 },[]))
 else
  let s:=sh0 t
  if s.live=false then (o,zaW 7,[])
  else if t.inv.kind=13 then
   (let x:=zhx s t.sec.snap.epoch
    (if 0<x.2.1 then { o with shards:=[x.1],order:=[0] } else o,{ zah with moved:=x.2.1 },[]))
  else
   let x:=zcD s t.sec.snap.clock t.sec.snap.epoch t.setup.limit
   if x.2.1.length=0 then (o,zah,[])
   else ({ o with shards:=[x.1],order:=[0] },{ zah with moved:=x.2.1.length },[{ zcd t 10 with l:=x.2.1.map fun i=>⟨i,0,0,0⟩ }])
def zdF(t:zq):Pln:=
 let o:=z7 t.sec
 let s:=sh0 t
 if s.live=false then (o,zaW 7,[])
 else
  let x:=zfL s (zgB t.sec.dead) t.sec.snap.epoch t.setup.limit
  if x.2.1.length=0 then (o,zah,[])
  else ({ o with shards:=[x.1],dead:=(zi3 t.sec.dead x.2.1).1,order:=[0,1],carry:=x.2.1 },{ zah with moved:=x.2.1.length },[])
def zbE(t:zq):List Int:=zey t.inv.from_ t.inv.to
def zbL(K:Tok)(a:zm)(t:zq)(n:Int):Stp:=
 if t.done=true then zbu 7
 else if t.inv.kind=1 then zd3 K a t n else if t.inv.kind=2 then zd0 K a t n else if 3<=t.inv.kind/\t.inv.kind<=5 then zd5 K a t n
 else if t.inv.kind=6 then zdZ a t n else if t.inv.kind=7 then zdH a t n else if t.inv.kind=8 then zd1 a t n
 else if t.inv.kind=9 then zbg zeG 9 9 zbE a t n else if t.inv.kind=10 then zbg zeE 10 10 zbE a t n else if t.inv.kind=11 then zbg zeu 11 11 zbE a t n
 else if t.inv.kind=12\/t.inv.kind=13 then zbg zd8 12 13 (fun t=>[t.inv.from_]) a t n else if t.inv.kind=14 then zbg zdF 14 14 (fun t=>[t.inv.from_,t.setup.slots]) a t n
 else zbu 9
def zbN(s:Setup):zm×Int:=
 if zaX s=false then (zx,1)
 else
  let d:=(zkf s.slots s.live).1
  ({ zx with dir:=d,epoch:=s.epoch,clock:=s.clock,nextID:=s.nextID,dead:=⟨0,⟨s.dead,[]⟩⟩,slots:=(List.range s.slots.toNat).map (fun i:Nat=>(⟨0,if (i:Int)<s.live then (zbK s.capacity (d.l.getD i zeJ).low (d.l.getD i zeJ).high).1 else (zfX s.capacity).1⟩:Slot)),stripes:=List.replicate s.slots.toNat ⟨0,s.epoch,0,0⟩ },0)
def zbj(w:World):List Nat:=(List.range w.tasks.length).filter fun i=> !(w.tasks.getD i zJ).done
def zcO(w:World)(i:zaY):World×Int×Int:=
 if 200<=w.tasks.length\/8<=(zbj w).length then (zbd,0,3)
 else if (zeF (w.tasks.length+1) i w.setup w.steps).2≠0 then (zbd,0,(zeF (w.tasks.length+1) i w.setup w.steps).2)
 else ({ w with tasks:=w.tasks++[(zeF (w.tasks.length+1) i w.setup w.steps).1] },w.tasks.length+1,0)
def zcV(K:Tok)(w:World)(i:Nat):World×Int:=
 let t:=w.tasks.getD i zJ
 let r:=zbL K w.arena t (w.steps+1)
 if r.2.2.2≠0 then (zbd,r.2.2.2)
 else ({ w with steps:=w.steps+1,arena:=r.1,tasks:=w.tasks.set i r.2.1,log:=w.log++r.2.2.1,handles:=w.handles++((r.2.1.results.drop t.results.length).map fun x=>x.tokens).flatten },0)
def zc9(K:Tok)(w:World)(k:Int):World×Int:=
 if k<0\/((zbj w).length:Int)<=k then (zbd,4) else zcV K w ((zbj w).getD k.toNat 0)
def zd9(w:World)(by_:Int):World×Int:=
 if (zeI w.arena by_).2≠0 then (zbd,(zeI w.arena by_).2)
 else ({ w with steps:=w.steps+1,arena:=(zeI w.arena by_).1,log:=w.log++[{ zbS with stamp:=w.steps+1,kind:=1,now:=(zeI w.arena by_).1.clock }] },0)
def zf1(a b:Int):Int:=if a<b then a else b
def zbn(a b:Int):Int:=if a<b then b else a
def ze6(K:Tok)(r:Ref)(hs:List (List UInt8)):List UInt8:=
 if r.variant=7\/hs.length=0 then r.raw
 else
  let b:=hs.getD ((zbn r.index 0).tmod hs.length).toNat []
  let h:=K.par b
  if h.2≠0 then b
  else if r.variant=5 then b.set (b.length - 1) (b.getD (b.length - 1) 0 ^^^ 1)
  else if r.variant=2\/r.variant=3\/r.variant=4 then
   (let h2:za3:=if r.variant=2 then { h.1 with gen:=h.1.gen+1 } else if r.variant=3 then { h.1 with gen:=h.1.gen - 1 } else { h.1 with route:=(h.1.route+1).tmod 65536 }
    if (K.enc h2).2≠0 then b else (K.enc h2).1)
  else b
def zhT(K:Tok)(k:Int):Nat->World->World×Int
 | 0,w=>(w,0)
 | n+1,w=>if (zbj w).length=0 then (w,0) else if (zc9 K w ((zbn k 0).tmod (zbj w).length)).2≠0 then (zbd,(zc9 K w ((zbn k 0).tmod (zbj w).length)).2) else zhT K k n (zc9 K w ((zbn k 0).tmod (zbj w).length)).1
def doW(K:Tok)(w:World)(c:Command):World×Int:=
 let by_:=zbn 0 (zf1 c.by_ 255)
 if c.kind=1 then zhT K c.pick by_.toNat w
 else if c.kind=2 then (if (zd9 w by_).2=0 then ((zd9 w by_).1,0) else (w,0))
 else if c.kind=3 then
  (let v:zaY:=if 0<c.refs.length then { c.inv with tokens:=c.refs.map fun r=>ze6 K r w.handles } else c.inv
   if (zcO w v).2.2=0 then ((zcO w v).1,0) else (w,0))
 else (w,0)
def zez(K:Tok):List Command->World->World×Int
 | [],w=>(w,0)
 | c::l,w=>if (doW K w c).2≠0 then (zbd,(doW K w c).2) else zez K l (doW K w c).1
def zgD(K:Tok)(s:Setup)(l:List Command):World×Int:=
 if (zbN s).2≠0 then (zbd,(zbN s).2) else if 400<l.length then (zbd,2) else zez K l { zbd with setup:=s,arena:=(zbN s).1 }
theorem zRz(c:Int):zd G 96 [.d (.int .i64 c)] []=some (.d (.tup [zF (if c<1\/24<c then zaL else ⟨c,[]⟩),.int .i64 (if c<1\/24<c then 1 else 0)]),[]):=by
 by_cases h:c<1\/24<c
 ·rw[zYQ h,zYQ h];simp only[zF,zaL,zYS];exact zW
 ·rw[zYP h,zYP h];simp only[zF,zaL,zYS];exact zW
def zkM(l:List Message)(i:Nat):St:=⟨[(0,.d (.sl (l.map zj))),(3,.d (.int .i64 i))],[]⟩
def zmE(l:List Message)(i:Nat):zR×St:=if zbb (l.drop i)≠0 then (.ret,⟨[(2,.d (.int .i64 (zbb (l.drop i))))],[]⟩) else (.exit 0,⟨[(0,.d (.sl (l.map zj)))],[]⟩)
theorem zWO(l:List Message)(h1:l.length<=1000):∀i,i<=l.length->zP G [] zok (zkM l i)=some (zmE l i):=by
 refine zaq (fun i=>l.length - i) (fun i=>i<=l.length) (zkM l) (fun i=>some (zmE l i)) fun i hi L ih=> ?_
 by_cases h0:i<l.length
 ·have i1:=ih (i+1) zo zo;clear ih;have hv:=zhV l[i];unfold zmE at i1 ⊢;rw[znF h0];unfold zkM at i1;generalize zbb (l.drop (i+1))=fe at *;simp only[zkM,zok];simp only[zNr,zp] at i1;generalize zZ l[i]=v at *
  by_cases c:v=0
  ·subst c;simp only[ne_eq,zY2,if_false];exact zS
  ·rw[zYQ c,zYQ c];clear i1;exact zS
 ·clear ih;have:i=l.length:=by omega
  subst this;unfold zmE;rw[zZA];simp only[zkM,zbb,ne_eq,zY2,if_false,zok];exact zS
def d8S(l:List Message)(i:Nat):St:=⟨[(0,.d (.sl (l.map zj))),(5,.d (.int .i64 i))],[]⟩
def d8R(l:List Message)(i:Nat):zR×St:=if zeX l i=true then (.ret,⟨[(2,.d (.int .i64 10))],[]⟩) else (.exit 2,⟨[],[]⟩)
theorem zH7(l:List Message)(h1:l.length<=1000):∀i,i<=l.length->zP G [] zol (d8S l i)=some (d8R l i):=by
 refine zaq (fun i=>l.length - i) (fun i=>i<=l.length) (d8S l) (fun i=>some (d8R l i)) fun i hi L ih=> ?_
 by_cases h0:i<l.length
 ·have i1:=ih (i+1) zo zo;clear ih;have hx:=ziG l l[i].id zo;unfold d8R at i1 ⊢;rw[zsg _ h0];unfold d8S at i1;generalize zeX l (i+1)=fe at *;simp only[d8S,zol];simp only[zNr,zp] at i1;generalize zaF l l[i].id=q at *
  by_cases hv:q=i
  ·subst hv;simp only[ne_eq,zY2,decide_false,zZY];have zk0:=zj.eq_1;exact zS
  ·simp only[ne_eq,hv,zZm,decide_true,z0t,if_true];clear i1;have zk0:=zj.eq_1;exact zS
 ·clear ih;unfold d8R;rw[zsf _ h0];simp only[d8S,zol,zYX,if_false];exact zS
theorem zDU(l:List Message)(h:l.length<=1000):zd G 134 [.d (.sl (l.map zj))] []=some (.d (.int .i64 (zh6 l)),[]):=by
 have h1:=zWO l h 0 zo;have h2:=zH7 l h 0 zo;unfold zmE at h1;unfold d8R at h2;rw[zse] at h2;simp only[zkM,zZq] at h1;simp only[d8S] at h2;unfold zh6;generalize zbb l=fe at *;generalize zaS (l.map (·.id))=du at *;simp only[zNr,zp] at h1 h2
 by_cases c:fe=0
 ·subst c;simp only[ne_eq,zY2,if_false] at *
  cases du
  ·simp only[zYX,if_false] at *;exact zW
  ·simp only[if_true] at *;exact zW
 ·rw[zYQ c] at h1 ⊢;clear h2;exact zW
theorem zmP(d:Dead)(hL:d.l.length<=1000):zd G 89 [.d (zF d)] []=some (.d (.int .i64 (zbU d)),[]):=by
 have hs:=zDU d.l hL;unfold zbU;obtain⟨c,l⟩:=d;simp only[zF] at *;generalize zh6 l=v at *;exact zW
theorem zDF(d:Dead)(hL:d.l.length<=1000):zd G 248 [.d (zF d)] []=some (.d (.int .i64 (zgB d)),[]):=by
 have hs:=zmP d hL;have hc:zbU d=0->1<=d.cap/\d.cap<=24:=by
  intro h;unfold zbU at h
  split at h
  ·cases h
  ·omega
 unfold zgB;generalize zbU d=v at *;obtain⟨c,l⟩:=d;simp only[zF] at *
 by_cases h:v=0
 ·have:=hc h;subst h;exact zW
 ·rw[zYQ h];exact zW
theorem zTl(d:Dead)(l:List Message)(hL:d.l.length<=1000)(h2:l.length<=1000)(h3:d.l.length+l.length<=1000):zd G 249 [.d (zF d),.d (.sl (l.map zj))] []=some (.d (.tup [zF (zi3 d l).1,.int .i64 (zi3 d l).2]),[]):=by
 have hv:=zmP d hL;have hr:=zDF d hL;have hs:=zDU (d.l++l) (by simpa using h3);unfold zi3;generalize zbU d=v at *;generalize zgB d=r at *;generalize zh6 (d.l++l)=s at *;obtain⟨c,dl⟩:=d;simp only[zF] at *
 by_cases h:v=0
 ·subst h;simp only[ne_eq,zY2,if_false]
  by_cases c1:r<l.length
  ·rw[zYQ c1];simp only[zaL,zYS];exact zW
  ·rw[zYP c1]
   by_cases c2:s=0
   ·subst c2;simp only[ne_eq,zY2,if_false];simp only[zNr,zp] at hs;exact zW
   ·rw[zYQ c2];simp only[zaL,zYS];simp only[zNr,zp] at hs;exact zW
 ·rw[zYQ h];simp only[zaL,zYS];exact zW
theorem zdP(n lo hi:Int):zd G 85 [.d (.int .i64 n),.d (.int .i64 lo),.d (.int .i64 hi)] []=some (.d (.bool (inI n lo hi)),[]):=by
 unfold inI;rw[zB zOO (by simp)];simp -implicitDefEqProofs (maxSteps:=4000000) (disch:=omega) only[zqq,zg,go_sem, *];(try simp only[zPr]);repeat' (first|done|rfl|((first|refine zG (fun hq=> ?_) (fun hq=> ?_)|refine zM (fun hq=> ?_) (fun hq=> ?_))<;>(try (first|(exfalso;omega)|contradiction))<;>(try simp -implicitDefEqProofs (maxSteps:=4000000) (disch:=omega) only[zg,go_sem, *])<;>(try simp only[zPr])));(all_goals try rfl);(all_goals try (repeat' (first|done|rfl|(exfalso;omega)|contradiction|(refine zI (fun hq=> ?_) (fun hq=> ?_)))))
 simp only[z0R]
theorem zto(a:zm)(i:Int)(hL:a.slots.length<=1000):zd G 70 [.d (zl a),.d (.int .i64 i)] []=some (.d (.bool (zcU a i)),[]):=by
 unfold zcU;simp only[zl];rw[zB zOP (by simp)];simp -implicitDefEqProofs (maxSteps:=4000000) (disch:=omega) only[zqr,zg,go_sem, *];(try simp only[zPr]);repeat' (first|done|rfl|((first|refine zG (fun hq=> ?_) (fun hq=> ?_)|refine zM (fun hq=> ?_) (fun hq=> ?_))<;>(try (first|(exfalso;omega)|contradiction))<;>(try simp -implicitDefEqProofs (maxSteps:=4000000) (disch:=omega) only[zg,go_sem, *])<;>(try simp only[zPr])));(all_goals try rfl);(all_goals try (repeat' (first|done|rfl|(exfalso;omega)|contradiction|(refine zI (fun hq=> ?_) (fun hq=> ?_)))))
 simp only[z0R]
theorem zgG{a:zm}{i:Int}(h:zcU a i=true):0<=i/\i<a.slots.length:=of_decide_eq_true h
theorem zB1(a:zm)(i:Int)(hL:a.slots.length<=1000):zd G 24 [.d (zl a),.d (.int .i64 i)] []=some (.d (.tup [zi (zbv a i).1,.int .i64 (zbv a i).2]),[]):=by
 have h:=zto a i hL;unfold zbv
 cases c:zcU a i with
 | true=>
  have hq:=zgG c;rw[c] at h;simp only[zl,zi,if_true] at *;have zk0:=zcB.eq_1;exact zW
 | false=>
  rw[c] at h;simp only[zl,zi,zA,zaz,zV,zYS,zYX,if_false] at *;exact zW
theorem zoC(a:zm)(i:Int)(hL:a.slots.length<=1000)(hs:a.stripes.length=a.slots.length):zd G 26 [.d (zl a),.d (.int .i64 i)] []=some (.d (.tup [zE (zcm a i).1,.int .i64 (zcm a i).2]),[]):=by
 have h:=zto a i hL;unfold zcm
 cases c:zcU a i with
 | true=>
  have hq:=zgG c;rw[c] at h;simp only[zl,if_true] at *;exact zW
 | false=>
  rw[c] at h;simp only[zl,zE,zb1,zYS,zYX,if_false] at *;exact zW
theorem zD5(a:zm)(i k:Int)(hL:a.slots.length<=1000):zd G 81 [.d (zl a),.d (.int .i64 i),.d (.int .i64 k)] []=some (.d (.int .i64 (zco a i k)),[]):=by
 have h:=zto a i hL;have ht:=zpq k;unfold zco
 cases c:zcU a i with
 | true=>
  have hq:=zgG c;rw[c] at h;generalize zeH k=tb at *
  cases tb
  ·simp only[zl,or_true,if_true] at *;exact zW
  ·simp only[zl,zZK,z0q,if_false] at *;have zk0:=zcB.eq_1;exact zW
 | false=>
  rw[c] at h;simp only[zl,z0Y,if_true] at *;exact zW
theorem zQl(a:zm):zd G 315 [.d (zl a)] []=some (.d (zF a.dead.dead),[]):=by
 simp only[zl,zF];exact zW
theorem zoB(a:zm):zd G 158 [.d (zl a)] []=some (.d (zat a.dir),[]):=by
 simp only[zl,zat];exact zW
theorem zj6(a:zm)(w:Int):zd G 149 [.d (zl a),.d (.int .i64 w)] []=some (.d (.tup [.int .i64 (zgZ a w).1,.int .i64 (zgZ a w).2]),[]):=by
 unfold zgZ;simp only[zl];exact zW
theorem zyy(a:zm)(w old next:Int):zd G 152 [.d (zl a),.d (.int .i64 w),.d (.int .i64 old),.d (.int .i64 next)] []=some (.d (.tup [zl (casWord a w old next).1,.bool (casWord a w old next).2.1,.int .i64 (casWord a w old next).2.2]),[]):=by
 have hl:=zj6 a w;have h1:=zdP next 0 65536
 have h2:=zdP next 1 1073741824
 unfold casWord;unfold inI at h1 h2;generalize zgZ a w=v at *;obtain⟨v1,v2⟩:=v
 by_cases c1:w≠1/\w≠3
 ·rw[zYQ c1];simp only[zl,zx,zYS] at *;exact zW
 rw[zYP c1]
 by_cases c2:w=1/\¬(0<=next/\next<=65536)\/w=3/\¬(1<=next/\next<=1073741824)
 ·rw[zYQ c2];simp only[zl,zx,zYS] at *
  rcases c2 with ⟨d1,d2⟩|⟨d1,d2⟩
  ·subst d1;rw[zZc d2] at h1;clear c1;exact zW
  ·subst d1;rw[zZc d2] at h2;clear c1;exact zW
 rw[zYP c2]
 by_cases c3:v1≠old
 ·rw[zYQ c3];simp only[zl] at *
  by_cases d1:w=1
  ·subst d1;rw[zZe zo] at h1;clear c1 c2;exact zW
  ·have d2:w=3:=by omega
   subst d2;rw[zZe zo] at h2;clear c1 c2;exact zW
 rw[zYP c3];have c3:v1=old:=by omega
 subst c3;simp only[zl] at *
 by_cases d1:w=1
 ·subst d1;rw[zZe zo] at h1;clear c1 c2;exact zW
 ·have d2:w=3:=by omega
  subst d2;rw[zZe zo] at h2;clear c1 c2;exact zW
theorem zXI(a:zm)(b:Int)(hc:0<=a.clock/\a.clock<=1073741824):zd G 202 [.d (zl a),.d (.int .i64 b)] []=some (.d (.tup [zl (zeI a b).1,.int .i64 (zeI a b).2]),[]):=by
 have h1:=zdP b 0 1099511627776;unfold zeI;unfold inI at h1;simp only[zl] at *;have zk0:=zx.eq_1;have zk1:=zaL.eq_1;exact zW
theorem ztr(a:zm)(i k:Int)(s:Stripe)(hL:a.slots.length<=1000)(hs:a.stripes.length=a.slots.length):zd G 36 [.d (zl a),.d (.int .i64 i),.d (.int .i64 k),.d (zE s)] []=some (.d (.tup [zl (stStripe a i k s).1,.int .i64 (stStripe a i k s).2]),[]):=by
 have h:=zD5 a i k hL;have e1:=zdP s.seq 0 1099511627776;have e2:=zdP s.epoch 0 1099511627776;have e3:=zdP s.ready 0 1099511627776;have e4:=zdP s.leased 0 1099511627776;unfold stStripe
 by_cases c:zco a i k=0
 ·have hq:0<=i/\i<a.slots.length:=by
     unfold zco at c
     split at c
     ·cases c
     ·rename_i q;exact zgG (by simpa using fun z=>q (.inl z))
  rw[c] at h;rw[zYP (fun z=>z c)];have hne:¬a.stripes.length=0:=by omega
  have hsq:zje s=(inI s.seq 0 1099511627776&&(inI s.epoch 0 1099511627776&&(inI s.ready 0 1099511627776&&inI s.leased 0 1099511627776))):=by
   unfold zje zbR inI;simp only[z0R]
  rw[hsq];clear hsq c;generalize inI s.seq 0 1099511627776=b1 at *;generalize inI s.epoch 0 1099511627776=b2 at *;generalize inI s.ready 0 1099511627776=b3 at *;generalize inI s.leased 0 1099511627776=b4 at *
  cases b1
  ·simp only[zZH,if_true,zl,zE,zx,zYS] at *;exact zW
  cases b2
  ·simp only[zZH,zZ5,if_true,zl,zE,zx,zYS] at *;exact zW
  cases b3
  ·simp only[zZH,zZ5,if_true,zl,zE,zx,zYS] at *;exact zW
  cases b4
  ·simp only[zZ5,if_true,zl,zE,zx,zYS] at *;exact zW
  ·simp only[zZX,zZK,if_false,zl,zE] at *;exact zW
 ·rw[zYQ c];generalize zco a i k=v at *;simp only[zl,zx,zE] at *;exact zW
theorem zD2(a:zm)(i k:Int)(s:Shard)(hL:a.slots.length<=1000)(q:za0 s):zd G 33 [.d (zl a),.d (.int .i64 i),.d (.int .i64 k),.d (zi s)] []=some (.d (.tup [zl (stSlot a i k s).1,.int .i64 (stSlot a i k s).2]),[]):=by
 have h:=zD5 a i k hL;have hv:=zmj s q.1 q.2.1 q.2.2;unfold stSlot
 by_cases c:zco a i k=0
 ·have hq:0<=i/\i<a.slots.length:=by
     unfold zco at c
     split at c
     ·cases c
     ·rename_i q;exact zgG (by simpa using fun z=>q (.inl z))
  rw[c] at h;rw[zYP (fun z=>z c)];have hne:¬a.slots.length=0:=by omega
  by_cases c1:zU s=0
  ·rw[c1] at hv;rw[zYP (fun z=>z c1)];clear c c1
   by_cases c2:s.ready.cells.length=(a.slots.getD i.toNat ze7).shard.ready.cells.length
   ·rw[zYP (fun z=>z c2)];rw[zg zo] at c2 ⊢;simp only[zl,zi] at *;have zk0:=zcB.eq_1;exact zW
   ·rw[zYQ c2];rw[zg zo] at c2;simp only[zl,zi,zx] at *;have zk0:=zcB.eq_1;exact zW
  ·rw[zYQ c1];generalize zU s=v at *;simp only[zl,zx,zi] at *;exact zW
 ·rw[zYQ c];generalize zco a i k=v at *;simp only[zl,zx,zi] at *;exact zW
theorem zD1(a:zm)(k:Int)(d:Dead)(hL:d.l.length<=1000):zd G 39 [.d (zl a),.d (.int .i64 k),.d (zF d)] []=some (.d (.tup [zl (stDead a k d).1,.int .i64 (stDead a k d).2]),[]):=by
 have ht:=zpq k;have hv:=zmP d hL;unfold stDead;generalize zeH k=tb at *;generalize zbU d=v at *;simp only[zl,zF] at *
 cases tb
 ·have zk0:=zx.eq_1;have zk1:=zaL.eq_1;exact zW
 ·simp only[zZK,if_false];have zk0:=zx.eq_1;have zk1:=zaL.eq_1;exact zW
theorem zGo(a:zm)(v:Int)(d:zao)(hL:d.l.length<=4294967296):zd G 317 [.d (zl a),.d (.int .i64 v),.d (zat d)] []=some (.d (.tup [zl (casDir a v d).1,.bool (casDir a v d).2.1,.int .i64 (casDir a v d).2.2]),[]):=by
 have hv:=zkx d hL;unfold casDir;generalize zbl d=w at *;simp only[zl,zat] at *
 by_cases c0:w=0
 ·subst c0;simp only[ne_eq,zY2,if_false]
  by_cases c:d.forward.length=a.slots.length
  ·rw[zYP (fun q=>q c)];exact zW
  ·rw[zYQ c];have zk0:=zx.eq_1;have zk1:=zaL.eq_1;exact zW
 ·rw[zYQ c0];have zk0:=zx.eq_1;have zk1:=zaL.eq_1;exact zW
theorem zGF(es:List D)(hs:zap 4 es=true)(hL:es.length<=4294967296):zd G 84 [.d (.sl es)] []=some (.acc 0 es,[(0,.acc es.length)]):=by
 cases es with
 | nil=>
  refine zyv zA4 (by decide) ?_ ?_
  ·simp -implicitDefEqProofs only[zlh,go_sem]
  ·simp -implicitDefEqProofs only[zlh,z1e,go_sem]
 | cons e es=>
  rw[zyu zA4 (by simp) (by decide)];simp only[zmX] at hs;simp only[zYW] at hL;simp -implicitDefEqProofs (maxSteps:=4000000) (disch:=omega) only[zlh,go_sem, *]
theorem zuh(a:zm)(i:Int)(hL:a.slots.length<=1000):zd G 69 [.d (zl a),.d (.int .i64 i)] []=some (.d (.bool (zcU a i)),[]):=by
 unfold zcU;rw[z0R];simp only[zl];rw[zB zOv (by simp)];simp -implicitDefEqProofs (maxSteps:=4000000) (disch:=omega) only[zp4,zg,go_sem, *];(try simp only[zPr]);repeat' (first|done|rfl|((first|refine zG (fun hq=> ?_) (fun hq=> ?_)|refine zM (fun hq=> ?_) (fun hq=> ?_))<;>(try (first|(exfalso;omega)|contradiction))<;>(try simp -implicitDefEqProofs (maxSteps:=4000000) (disch:=omega) only[zg,go_sem, *])<;>(try simp only[zPr])));(all_goals try rfl);(all_goals try (repeat' (first|done|rfl|(exfalso;omega)|contradiction|(refine zI (fun hq=> ?_) (fun hq=> ?_)))))
theorem zS4(a:zm)(i:Int)(hL:a.slots.length<=1000):zd G 23 [.d (zl a),.d (.int .i64 i)] []=some (.d (.tup [zi (zbv a i).1,.int .i64 (zbv a i).2]),[]):=by
 have hs:=zuh a i hL;unfold zbv
 by_cases c:zcU a i=true
 ·rw[c] at hs;rw[zYQ c];have c2:=zgG c;clear c;rw[zg zo];simp only[zl,zi] at *;rw[zB zAR (by simp)];simp -implicitDefEqProofs (maxSteps:=4000000) (disch:=omega) only[zm2,zcB,zg,go_sem, *];(try simp only[zPr]);repeat' (first|done|rfl|((first|refine zG (fun hq=> ?_) (fun hq=> ?_)|refine zM (fun hq=> ?_) (fun hq=> ?_))<;>(try (first|(exfalso;omega)|contradiction))<;>(try simp -implicitDefEqProofs (maxSteps:=4000000) (disch:=omega) only[zcB,zg,go_sem, *])<;>(try simp only[zPr])));(all_goals try rfl);(all_goals try (repeat' (first|done|rfl|(exfalso;omega)|contradiction|(refine zI (fun hq=> ?_) (fun hq=> ?_)))))
 ·rw[zYP c];simp only[z0g] at c;rw[c] at hs;simp only[zl,zi,zA,zYS] at *;rw[zB zAR (by simp)];simp -implicitDefEqProofs (maxSteps:=4000000) (disch:=omega) only[zm2,zg,go_sem, *];(try simp only[zPr]);repeat' (first|done|rfl|((first|refine zG (fun hq=> ?_) (fun hq=> ?_)|refine zM (fun hq=> ?_) (fun hq=> ?_))<;>(try (first|(exfalso;omega)|contradiction))<;>(try simp -implicitDefEqProofs (maxSteps:=4000000) (disch:=omega) only[zg,go_sem, *])<;>(try simp only[zPr])));(all_goals try rfl);(all_goals try (repeat' (first|done|rfl|(exfalso;omega)|contradiction|(refine zI (fun hq=> ?_) (fun hq=> ?_)))))
theorem zS5(a:zm)(i:Int)(hL:a.slots.length<=1000)(hs:a.stripes.length=a.slots.length):zd G 25 [.d (zl a),.d (.int .i64 i)] []=some (.d (.tup [zE (zcm a i).1,.int .i64 (zcm a i).2]),[]):=by
 unfold zcm zcU
 by_cases c:0<=i/\i<a.slots.length
 ·rw[zZe c,zYQ rfl,zg zo];simp only[zl,zE];rw[zB zrb (by simp)];simp -implicitDefEqProofs (maxSteps:=4000000) (disch:=omega) only[zk8,zE,zg,go_sem, *];(try simp only[zPr]);repeat' (first|done|rfl|((first|refine zG (fun hq=> ?_) (fun hq=> ?_)|refine zM (fun hq=> ?_) (fun hq=> ?_))<;>(try (first|(exfalso;omega)|contradiction))<;>(try simp -implicitDefEqProofs (maxSteps:=4000000) (disch:=omega) only[zE,zg,go_sem, *])<;>(try simp only[zPr])));(all_goals try rfl);(all_goals try (repeat' (first|done|rfl|(exfalso;omega)|contradiction|(refine zI (fun hq=> ?_) (fun hq=> ?_)))))
 ·rw[zZc c,zYP (by simp)];simp only[zl,zE,zb1]
  by_cases c1:i<0
  ·rw[zB zrb (by simp)];simp -implicitDefEqProofs (maxSteps:=4000000) (disch:=omega) only[zk8,zg,go_sem, *];(try simp only[zPr]);repeat' (first|done|rfl|((first|refine zG (fun hq=> ?_) (fun hq=> ?_)|refine zM (fun hq=> ?_) (fun hq=> ?_))<;>(try (first|(exfalso;omega)|contradiction))<;>(try simp -implicitDefEqProofs (maxSteps:=4000000) (disch:=omega) only[zg,go_sem, *])<;>(try simp only[zPr])));(all_goals try rfl);(all_goals try (repeat' (first|done|rfl|(exfalso;omega)|contradiction|(refine zI (fun hq=> ?_) (fun hq=> ?_)))))
  ·have c2:(a.stripes.length:Int)<=i:=by omega
   rw[zB zrb (by simp)];simp -implicitDefEqProofs (maxSteps:=4000000) (disch:=omega) only[zk8,zg,go_sem, *];(try simp only[zPr]);repeat' (first|done|rfl|((first|refine zG (fun hq=> ?_) (fun hq=> ?_)|refine zM (fun hq=> ?_) (fun hq=> ?_))<;>(try (first|(exfalso;omega)|contradiction))<;>(try simp -implicitDefEqProofs (maxSteps:=4000000) (disch:=omega) only[zg,go_sem, *])<;>(try simp only[zPr])));(all_goals try rfl);(all_goals try (repeat' (first|done|rfl|(exfalso;omega)|contradiction|(refine zI (fun hq=> ?_) (fun hq=> ?_)))))
theorem zS3(a:zm):zd G 29 [.d (zl a)] []=some (.d (zF a.dead.dead),[]):=by
 simp only[zl,zF];rw[zB zOu (by simp)];simp -implicitDefEqProofs (maxSteps:=4000000) (disch:=omega) only[zp3,zg,go_sem, *];(try simp only[zPr]);repeat' (first|done|rfl|((first|refine zG (fun hq=> ?_) (fun hq=> ?_)|refine zM (fun hq=> ?_) (fun hq=> ?_))<;>(try (first|(exfalso;omega)|contradiction))<;>(try simp -implicitDefEqProofs (maxSteps:=4000000) (disch:=omega) only[zg,go_sem, *])<;>(try simp only[zPr])));(all_goals try rfl);(all_goals try (repeat' (first|done|rfl|(exfalso;omega)|contradiction|(refine zI (fun hq=> ?_) (fun hq=> ?_)))))
theorem zDb(a:zm)(i k:Int)(hL:a.slots.length<=1000):zd G 78 [.d (zl a),.d (.int .i64 i),.d (.int .i64 k)] []=some (.d (.int .i64 (zco a i k)),[]):=by
 have hs:=zuh a i hL;have ht:=zBN k;unfold zco
 cases c:zcU a i
 ·rw[c] at hs;rw[zYQ (.inl rfl)];simp only[zl] at *;rw[zB zrc (by simp)];simp -implicitDefEqProofs (maxSteps:=4000000) (disch:=omega) only[zk9,zg,go_sem, *];(try simp only[zPr]);repeat' (first|done|rfl|((first|refine zG (fun hq=> ?_) (fun hq=> ?_)|refine zM (fun hq=> ?_) (fun hq=> ?_))<;>(try (first|(exfalso;omega)|contradiction))<;>(try simp -implicitDefEqProofs (maxSteps:=4000000) (disch:=omega) only[zg,go_sem, *])<;>(try simp only[zPr])));(all_goals try rfl);(all_goals try (repeat' (first|done|rfl|(exfalso;omega)|contradiction|(refine zI (fun hq=> ?_) (fun hq=> ?_)))))
 ·rw[c] at hs;have c2:=zgG c;clear c
  cases d:zeH k
  ·rw[d] at ht;rw[zYQ (.inr rfl)];simp only[zl] at *;rw[zB zrc (by simp)];simp -implicitDefEqProofs (maxSteps:=4000000) (disch:=omega) only[zk9,zg,go_sem, *];(try simp only[zPr]);repeat' (first|done|rfl|((first|refine zG (fun hq=> ?_) (fun hq=> ?_)|refine zM (fun hq=> ?_) (fun hq=> ?_))<;>(try (first|(exfalso;omega)|contradiction))<;>(try simp -implicitDefEqProofs (maxSteps:=4000000) (disch:=omega) only[zg,go_sem, *])<;>(try simp only[zPr])));(all_goals try rfl);(all_goals try (repeat' (first|done|rfl|(exfalso;omega)|contradiction|(refine zI (fun hq=> ?_) (fun hq=> ?_)))))
  ·rw[d] at ht;rw[zYP (by simp),zg zo];simp only[zl] at *;rw[zB zrc (by simp)];simp -implicitDefEqProofs (maxSteps:=4000000) (disch:=omega) only[zk9,zcB,zg,go_sem, *];(try simp only[zPr]);repeat' (first|done|rfl|((first|refine zG (fun hq=> ?_) (fun hq=> ?_)|refine zM (fun hq=> ?_) (fun hq=> ?_))<;>(try (first|(exfalso;omega)|contradiction))<;>(try simp -implicitDefEqProofs (maxSteps:=4000000) (disch:=omega) only[zcB,zg,go_sem, *])<;>(try simp only[zPr])));(all_goals try rfl);(all_goals try (repeat' (first|done|rfl|(exfalso;omega)|contradiction|(refine zI (fun hq=> ?_) (fun hq=> ?_)))))
theorem zTb(a:zm)(i k:Int)(s:Shard)(hL:a.slots.length<=1000)(q:za0 s):zd G 32 [.d (zl a),.d (.int .i64 i),.d (.int .i64 k),.d (zi s)] []=some (.d (.tup [zl (stSlot a i k s).1,.int .i64 (stSlot a i k s).2]),[]):=by
 have h:=zDb a i k hL;have hv:=zWz s q.1 q.2.1 q.2.2;unfold stSlot
 by_cases c:zco a i k=0
 ·have hq:0<=i/\i<a.slots.length:=by
     unfold zco at c
     split at c
     ·cases c
     ·rename_i q;exact zgG (by simpa using fun z=>q (.inl z))
  rw[c] at h;rw[zYP (fun z=>z c)];have hne:¬a.slots.length=0:=by omega
  have hc:=zGE (a.slots.map zcB) (zt8 _) (by simp only[zY3];omega)
  by_cases c1:zU s=0
  ·rw[c1] at hv;rw[zYP (fun z=>z c1)];clear c c1
   by_cases c2:s.ready.cells.length=(a.slots.getD i.toNat ze7).shard.ready.cells.length
   ·rw[zYP (fun z=>z c2)];rw[zg zo] at c2 ⊢;simp only[zl,zi] at *;rw[zB znM (by simp)];simp -implicitDefEqProofs (maxSteps:=4000000) (disch:=omega) only[zjs,zcB,zg,go_sem, *];(try simp only[zPr]);repeat' (first|done|rfl|((first|refine zG (fun hq=> ?_) (fun hq=> ?_)|refine zM (fun hq=> ?_) (fun hq=> ?_))<;>(try (first|(exfalso;omega)|contradiction))<;>(try simp -implicitDefEqProofs (maxSteps:=4000000) (disch:=omega) only[zcB,zg,go_sem, *])<;>(try simp only[zPr])));(all_goals try rfl);(all_goals try (repeat' (first|done|rfl|(exfalso;omega)|contradiction|(refine zI (fun hq=> ?_) (fun hq=> ?_)))))
   ·rw[zYQ c2];rw[zg zo] at c2;simp only[zl,zi,zx] at *;rw[zB znM (by simp)];simp -implicitDefEqProofs (maxSteps:=4000000) (disch:=omega) only[zjs,zcB,zg,go_sem, *];(try simp only[zPr]);repeat' (first|done|rfl|((first|refine zG (fun hq=> ?_) (fun hq=> ?_)|refine zM (fun hq=> ?_) (fun hq=> ?_))<;>(try (first|(exfalso;omega)|contradiction))<;>(try simp -implicitDefEqProofs (maxSteps:=4000000) (disch:=omega) only[zcB,zg,go_sem, *])<;>(try simp only[zPr])));(all_goals try rfl);(all_goals try (repeat' (first|done|rfl|(exfalso;omega)|contradiction|(refine zI (fun hq=> ?_) (fun hq=> ?_)))))
  ·rw[zYQ c1];generalize zU s=v at *;simp only[zl,zx,zi] at *;rw[zB znM (by simp)];simp -implicitDefEqProofs (maxSteps:=4000000) (disch:=omega) only[zjs,zg,go_sem, *];(try simp only[zPr]);repeat' (first|done|rfl|((first|refine zG (fun hq=> ?_) (fun hq=> ?_)|refine zM (fun hq=> ?_) (fun hq=> ?_))<;>(try (first|(exfalso;omega)|contradiction))<;>(try simp -implicitDefEqProofs (maxSteps:=4000000) (disch:=omega) only[zg,go_sem, *])<;>(try simp only[zPr])));(all_goals try rfl);(all_goals try (repeat' (first|done|rfl|(exfalso;omega)|contradiction|(refine zI (fun hq=> ?_) (fun hq=> ?_)))))
 ·rw[zYQ c];generalize zco a i k=v at *;simp only[zl,zx,zi] at *;rw[zB znM (by simp)];simp -implicitDefEqProofs (maxSteps:=4000000) (disch:=omega) only[zjs,zg,go_sem, *];(try simp only[zPr]);repeat' (first|done|rfl|((first|refine zG (fun hq=> ?_) (fun hq=> ?_)|refine zM (fun hq=> ?_) (fun hq=> ?_))<;>(try (first|(exfalso;omega)|contradiction))<;>(try simp -implicitDefEqProofs (maxSteps:=4000000) (disch:=omega) only[zg,go_sem, *])<;>(try simp only[zPr])));(all_goals try rfl);(all_goals try (repeat' (first|done|rfl|(exfalso;omega)|contradiction|(refine zI (fun hq=> ?_) (fun hq=> ?_)))))
theorem zTc(a:zm)(i k:Int)(s:Stripe)(hL:a.slots.length<=1000)(hs:a.stripes.length=a.slots.length):zd G 35 [.d (zl a),.d (.int .i64 i),.d (.int .i64 k),.d (zE s)] []=some (.d (.tup [zl (stStripe a i k s).1,.int .i64 (stStripe a i k s).2]),[]):=by
 have h:=zDb a i k hL;unfold stStripe
 by_cases c:zco a i k=0
 ·have hq:0<=i/\i<a.slots.length:=by
     unfold zco at c
     split at c
     ·cases c
     ·rename_i q;exact zgG (by simpa using fun z=>q (.inl z))
  rw[c] at h;rw[zYP (fun z=>z c)];clear c;have hne:¬a.stripes.length=0:=by omega
  have hc:=zGF (a.stripes.map zE) (zt9 _) (by simp only[zY3];omega);have e:zje s=(inB s.seq 0 1099511627776&&(inB s.epoch 0 1099511627776&&(inB s.ready 0 1099511627776&&inB s.leased 0 1099511627776))):=by
   unfold zje zbR inB;simp only[z0R]
  rw[e];clear e;have a1:zd G 83 [.d (.int .i64 s.seq),.d (.int .i64 0),.d (.int .i64 1099511627776)] []=some (.d (.bool (inB s.seq 0 1099511627776)),[]):=zkZ ..;have a2:zd G 83 [.d (.int .i64 s.epoch),.d (.int .i64 0),.d (.int .i64 1099511627776)] []=some (.d (.bool (inB s.epoch 0 1099511627776)),[]):=zkZ ..;have a3:zd G 83 [.d (.int .i64 s.ready),.d (.int .i64 0),.d (.int .i64 1099511627776)] []=some (.d (.bool (inB s.ready 0 1099511627776)),[]):=zkZ ..;have a4:zd G 83 [.d (.int .i64 s.leased),.d (.int .i64 0),.d (.int .i64 1099511627776)] []=some (.d (.bool (inB s.leased 0 1099511627776)),[]):=zkZ ..;generalize inB s.seq 0 1099511627776=i1 at *;generalize inB s.epoch 0 1099511627776=i2 at *;generalize inB s.ready 0 1099511627776=i3 at *;generalize inB s.leased 0 1099511627776=i4 at *;simp only[zl,zx] at *
  cases i1
  ·rw[zB zjO (by simp)];simp -implicitDefEqProofs (maxSteps:=4000000) (disch:=omega) only[zhs,zaC,zfZ,zE,zg,go_sem, *];(try simp only[zPr]);repeat' (first|done|rfl|((first|refine zG (fun hq=> ?_) (fun hq=> ?_)|refine zM (fun hq=> ?_) (fun hq=> ?_))<;>(try (first|(exfalso;omega)|contradiction))<;>(try simp -implicitDefEqProofs (maxSteps:=4000000) (disch:=omega) only[zaC,zfZ,zE,zg,go_sem, *])<;>(try simp only[zPr])));(all_goals try rfl);(all_goals try (repeat' (first|done|rfl|(exfalso;omega)|contradiction|(refine zI (fun hq=> ?_) (fun hq=> ?_)))))
  cases i2
  ·rw[zB zjO (by simp)];simp -implicitDefEqProofs (maxSteps:=4000000) (disch:=omega) only[zhs,zaC,zfZ,zE,zg,go_sem, *];(try simp only[zPr]);repeat' (first|done|rfl|((first|refine zG (fun hq=> ?_) (fun hq=> ?_)|refine zM (fun hq=> ?_) (fun hq=> ?_))<;>(try (first|(exfalso;omega)|contradiction))<;>(try simp -implicitDefEqProofs (maxSteps:=4000000) (disch:=omega) only[zaC,zfZ,zE,zg,go_sem, *])<;>(try simp only[zPr])));(all_goals try rfl);(all_goals try (repeat' (first|done|rfl|(exfalso;omega)|contradiction|(refine zI (fun hq=> ?_) (fun hq=> ?_)))))
  cases i3
  ·rw[zB zjO (by simp)];simp -implicitDefEqProofs (maxSteps:=4000000) (disch:=omega) only[zhs,zaC,zfZ,zE,zg,go_sem, *];(try simp only[zPr]);repeat' (first|done|rfl|((first|refine zG (fun hq=> ?_) (fun hq=> ?_)|refine zM (fun hq=> ?_) (fun hq=> ?_))<;>(try (first|(exfalso;omega)|contradiction))<;>(try simp -implicitDefEqProofs (maxSteps:=4000000) (disch:=omega) only[zaC,zfZ,zE,zg,go_sem, *])<;>(try simp only[zPr])));(all_goals try rfl);(all_goals try (repeat' (first|done|rfl|(exfalso;omega)|contradiction|(refine zI (fun hq=> ?_) (fun hq=> ?_)))))
  cases i4
  ·rw[zB zjO (by simp)];simp -implicitDefEqProofs (maxSteps:=4000000) (disch:=omega) only[zhs,zaC,zfZ,zE,zg,go_sem, *];(try simp only[zPr]);repeat' (first|done|rfl|((first|refine zG (fun hq=> ?_) (fun hq=> ?_)|refine zM (fun hq=> ?_) (fun hq=> ?_))<;>(try (first|(exfalso;omega)|contradiction))<;>(try simp -implicitDefEqProofs (maxSteps:=4000000) (disch:=omega) only[zaC,zfZ,zE,zg,go_sem, *])<;>(try simp only[zPr])));(all_goals try rfl);(all_goals try (repeat' (first|done|rfl|(exfalso;omega)|contradiction|(refine zI (fun hq=> ?_) (fun hq=> ?_)))))
  ·rw[zB zjO (by simp)];simp -implicitDefEqProofs (maxSteps:=4000000) (disch:=omega) only[zhs,zaC,zfZ,zE,zg,go_sem, *];(try simp only[zPr]);repeat' (first|done|rfl|((first|refine zG (fun hq=> ?_) (fun hq=> ?_)|refine zM (fun hq=> ?_) (fun hq=> ?_))<;>(try (first|(exfalso;omega)|contradiction))<;>(try simp -implicitDefEqProofs (maxSteps:=4000000) (disch:=omega) only[zaC,zfZ,zE,zg,go_sem, *])<;>(try simp only[zPr])));(all_goals try rfl);(all_goals try (repeat' (first|done|rfl|(exfalso;omega)|contradiction|(refine zI (fun hq=> ?_) (fun hq=> ?_)))))
 ·rw[zYQ c];generalize zco a i k=v at *;simp only[zl,zx] at *;rw[zB zjO (by simp)];simp -implicitDefEqProofs (maxSteps:=4000000) (disch:=omega) only[zhs,zg,go_sem, *];(try simp only[zPr]);repeat' (first|done|rfl|((first|refine zG (fun hq=> ?_) (fun hq=> ?_)|refine zM (fun hq=> ?_) (fun hq=> ?_))<;>(try (first|(exfalso;omega)|contradiction))<;>(try simp -implicitDefEqProofs (maxSteps:=4000000) (disch:=omega) only[zg,go_sem, *])<;>(try simp only[zPr])));(all_goals try rfl);(all_goals try (repeat' (first|done|rfl|(exfalso;omega)|contradiction|(refine zI (fun hq=> ?_) (fun hq=> ?_)))))
def deS(l:List Message)(i:Nat):St:=⟨[(6,.d (.sl (l.map zj))),(7,.d (.int .i64 l.length)),(8,.d (.int .i64 i))],[]⟩
def deR(l:List Message)(i:Nat):zR×St:=if zbb (l.drop i)≠0 then (.ret,⟨[(2,.d (.int .i64 (zbb (l.drop i))))],[]⟩) else (.exit 0,⟨[],[]⟩)
theorem zHt(l:List Message)(h1:l.length<=1000):∀i,i<=l.length->zP G [] zn5 (deS l i)=some (deR l i):=by
 refine zaq (fun i=>l.length - i) (fun i=>i<=l.length) (deS l) (fun i=>some (deR l i)) fun i hi L ih=> ?_
 by_cases h0:i<l.length
 ·have i1:=ih (i+1) zo zo;clear ih;have hm:=zsC l[i];unfold deR at i1 ⊢;rw[znF h0];generalize zbb (l.drop (i+1))=fe at *;simp only[deS,zn5] at *;simp only[zj] at hm;simp only[zNr,zp] at i1
  by_cases hv:zZ l[i]=0
  ·rw[hv] at hm;simp only[hv,ne_eq,zY2,if_false]
   (try simp -implicitDefEqProofs (maxSteps:=4000000) (disch:=omega) only[zj,zg,go_sem, *]);(try simp only[zPr]);repeat' (first|done|rfl|((first|refine zG (fun hq=> ?_) (fun hq=> ?_)|refine zM (fun hq=> ?_) (fun hq=> ?_))<;>(try (first|(exfalso;omega)|contradiction))<;>(try simp -implicitDefEqProofs (maxSteps:=4000000) (disch:=omega) only[zj,zg,go_sem, *])<;>(try simp only[zPr])));(all_goals try rfl);(all_goals try (repeat' (first|done|rfl|(exfalso;omega)|contradiction|(refine zI (fun hq=> ?_) (fun hq=> ?_)))))
  ·simp only[ne_eq,hv,zZm,if_true]
   (try simp -implicitDefEqProofs (maxSteps:=4000000) (disch:=omega) only[zj,zg,go_sem, *]);(try simp only[zPr]);repeat' (first|done|rfl|((first|refine zG (fun hq=> ?_) (fun hq=> ?_)|refine zM (fun hq=> ?_) (fun hq=> ?_))<;>(try (first|(exfalso;omega)|contradiction))<;>(try simp -implicitDefEqProofs (maxSteps:=4000000) (disch:=omega) only[zj,zg,go_sem, *])<;>(try simp only[zPr])));(all_goals try rfl);(all_goals try (repeat' (first|done|rfl|(exfalso;omega)|contradiction|(refine zI (fun hq=> ?_) (fun hq=> ?_)))))
 ·obtain rfl:i=l.length:=by omega
  clear ih;simp only[deR,zZA,zbb,ne_eq,zY2,if_false,deS,zn5]
  (try simp -implicitDefEqProofs (maxSteps:=4000000) (disch:=omega) only[zg,go_sem, *]);(try simp only[zPr]);repeat' (first|done|rfl|((first|refine zG (fun hq=> ?_) (fun hq=> ?_)|refine zM (fun hq=> ?_) (fun hq=> ?_))<;>(try (first|(exfalso;omega)|contradiction))<;>(try simp -implicitDefEqProofs (maxSteps:=4000000) (disch:=omega) only[zg,go_sem, *])<;>(try simp only[zPr])));(all_goals try rfl);(all_goals try (repeat' (first|done|rfl|(exfalso;omega)|contradiction|(refine zI (fun hq=> ?_) (fun hq=> ?_)))))
theorem zHC(l:List Message)(h1:l.length<=1000):zd G 132 [.d (.sl (l.map zj))] []=some (.d (.int .i64 (zbb l)),[]):=by
 have h:=zHt l h1 0 (z1e _);simp only[deS,deR,zZq,zZg] at h
 by_cases c:zbb l=0
 ·rw[zYP (fun q=>q c)] at h;rw[c];rw[zB zAX (by simp)];simp -implicitDefEqProofs (maxSteps:=4000000) (disch:=omega) only[zm8,zg,go_sem, *];(try simp only[zPr]);repeat' (first|done|rfl|((first|refine zG (fun hq=> ?_) (fun hq=> ?_)|refine zM (fun hq=> ?_) (fun hq=> ?_))<;>(try (first|(exfalso;omega)|contradiction))<;>(try simp -implicitDefEqProofs (maxSteps:=4000000) (disch:=omega) only[zg,go_sem, *])<;>(try simp only[zPr])));(all_goals try rfl);(all_goals try (repeat' (first|done|rfl|(exfalso;omega)|contradiction|(refine zI (fun hq=> ?_) (fun hq=> ?_)))))
 ·rw[zYQ c] at h;rw[zB zAX (by simp)];simp -implicitDefEqProofs (maxSteps:=4000000) (disch:=omega) only[zm8,zg,go_sem, *];(try simp only[zPr]);repeat' (first|done|rfl|((first|refine zG (fun hq=> ?_) (fun hq=> ?_)|refine zM (fun hq=> ?_) (fun hq=> ?_))<;>(try (first|(exfalso;omega)|contradiction))<;>(try simp -implicitDefEqProofs (maxSteps:=4000000) (disch:=omega) only[zg,go_sem, *])<;>(try simp only[zPr])));(all_goals try rfl);(all_goals try (repeat' (first|done|rfl|(exfalso;omega)|contradiction|(refine zI (fun hq=> ?_) (fun hq=> ?_)))))
def dtS(l:List Message)(i:Nat):St:=⟨[(3,.mpr 6),(7,.d (.sl (l.map zj))),(8,.d (.int .i64 l.length)),(9,.d (.int .i64 i))],[(6,.mp (zdw (za7 l i)))]⟩
def dtR(l:List Message):zR×St:=if zaS (l.map (·.id))=true then (.ret,⟨[(2,.d (.bool true))],[]⟩) else (.exit 0,⟨[],[]⟩)
theorem zH1(l:List Message)(h1:l.length<=1000):∀i,(i<=l.length/\zaS (za7 l i)=false)->zP G [] zlL (dtS l i)=some (dtR l):=by
 refine zaq (fun i=>l.length - i) (fun i=>i<=l.length/\zaS (za7 l i)=false) (dtS l) (fun _=>some (dtR l)) fun i ⟨hi,hd⟩ L ih=> ?_
 by_cases h0:i<l.length
 ·have hg:=zsx l[i].id (za7 l i);have hs:=zqM (za7 l i) l[i].id;rw[<- znT h0] at hs
  by_cases hmem:l[i].id∈za7 l i
  ·have hb:zaS (l.map (·.id))=true:=by
      simp only[hmem,decide_true,z03] at hs;unfold zaS at hs ⊢;have hs:=of_decide_eq_true hs;refine zZe fun q=>hs (q.sublist ?_);unfold za7;exact (List.take_sublist _ _).map _
   clear ih hs;simp only[hmem,if_true] at hg;unfold dtR;rw[zYQ hb];simp only[dtS,zlL];generalize zdw (za7 l i)=sm at *
   (try simp -implicitDefEqProofs (maxSteps:=4000000) (disch:=omega) only[zj,zg,go_sem, *]);(try simp only[zPr]);repeat' (first|done|rfl|((first|refine zG (fun hq=> ?_) (fun hq=> ?_)|refine zM (fun hq=> ?_) (fun hq=> ?_))<;>(try (first|(exfalso;omega)|contradiction))<;>(try simp -implicitDefEqProofs (maxSteps:=4000000) (disch:=omega) only[zj,zg,go_sem, *])<;>(try simp only[zPr])));(all_goals try rfl);(all_goals try (repeat' (first|done|rfl|(exfalso;omega)|contradiction|(refine zI (fun hq=> ?_) (fun hq=> ?_)))))
  ·simp only[hmem,decide_false,z04,hd] at hs;have i1:=ih (i+1) ⟨by omega,hs⟩ zo;clear ih hs;simp only[hmem,if_false] at hg;simp only[dtS] at i1;rw[znT h0,zth] at i1;generalize dtR l=R at *;simp only[dtS,zlL];generalize zdw (za7 l i)=sm at *;simp only[zNr,zp] at i1
   (try simp -implicitDefEqProofs (maxSteps:=4000000) (disch:=omega) only[zj,zg,go_sem, *]);(try simp only[zPr]);repeat' (first|done|rfl|((first|refine zG (fun hq=> ?_) (fun hq=> ?_)|refine zM (fun hq=> ?_) (fun hq=> ?_))<;>(try (first|(exfalso;omega)|contradiction))<;>(try simp -implicitDefEqProofs (maxSteps:=4000000) (disch:=omega) only[zj,zg,go_sem, *])<;>(try simp only[zPr])));(all_goals try rfl);(all_goals try (repeat' (first|done|rfl|(exfalso;omega)|contradiction|(refine zI (fun hq=> ?_) (fun hq=> ?_)))))
 ·obtain rfl:i=l.length:=by omega
  clear ih;unfold dtR;unfold za7 at hd;rw[z1f] at hd;rw[hd];simp only[dtS,zlL,zYX,if_false];generalize zdw (za7 l l.length)=sm at *
  (try simp -implicitDefEqProofs (maxSteps:=4000000) (disch:=omega) only[zg,go_sem, *]);(try simp only[zPr]);repeat' (first|done|rfl|((first|refine zG (fun hq=> ?_) (fun hq=> ?_)|refine zM (fun hq=> ?_) (fun hq=> ?_))<;>(try (first|(exfalso;omega)|contradiction))<;>(try simp -implicitDefEqProofs (maxSteps:=4000000) (disch:=omega) only[zg,go_sem, *])<;>(try simp only[zPr])));(all_goals try rfl);(all_goals try (repeat' (first|done|rfl|(exfalso;omega)|contradiction|(refine zI (fun hq=> ?_) (fun hq=> ?_)))))
theorem zH2(l:List Message)(h1:l.length<=1000):zd G 133 [.d (.sl (l.map zj))] []=some (.d (.bool (zaS (l.map (·.id)))),[]):=by
 have h:=zH1 l h1 0 ⟨z1e _,by simp [za7,zaS]⟩;simp only[dtS,za7,zZE,zYS,zdw,z1g,zZg] at h;unfold dtR at h
 cases c:zaS (l.map (·.id))
 ·rw[c] at h;simp only[zYX,if_false] at h;rw[zB zAY (by simp)];simp -implicitDefEqProofs (maxSteps:=4000000) (disch:=omega) only[zm9,zg,go_sem, *];(try simp only[zPr]);repeat' (first|done|rfl|((first|refine zG (fun hq=> ?_) (fun hq=> ?_)|refine zM (fun hq=> ?_) (fun hq=> ?_))<;>(try (first|(exfalso;omega)|contradiction))<;>(try simp -implicitDefEqProofs (maxSteps:=4000000) (disch:=omega) only[zg,go_sem, *])<;>(try simp only[zPr])));(all_goals try rfl);(all_goals try (repeat' (first|done|rfl|(exfalso;omega)|contradiction|(refine zI (fun hq=> ?_) (fun hq=> ?_)))))
 ·rw[c] at h;simp only[if_true] at h;rw[zB zAY (by simp)];simp -implicitDefEqProofs (maxSteps:=4000000) (disch:=omega) only[zm9,zg,go_sem, *];(try simp only[zPr]);repeat' (first|done|rfl|((first|refine zG (fun hq=> ?_) (fun hq=> ?_)|refine zM (fun hq=> ?_) (fun hq=> ?_))<;>(try (first|(exfalso;omega)|contradiction))<;>(try simp -implicitDefEqProofs (maxSteps:=4000000) (disch:=omega) only[zg,go_sem, *])<;>(try simp only[zPr])));(all_goals try rfl);(all_goals try (repeat' (first|done|rfl|(exfalso;omega)|contradiction|(refine zI (fun hq=> ?_) (fun hq=> ?_)))))
theorem zSN(d:Dead)(h:d.l.length<=1000):zd G 88 [.d (zF d)] []=some (.d (.int .i64 (zbU d)),[]):=by
 have h1:=zHC d.l h;have h2:=zH2 d.l h;unfold zbU zh6;generalize zbb d.l=fe at *;generalize zaS (d.l.map (·.id))=dd at *;simp only[zF] at *
 by_cases c1:d.cap<1
 ·rw[zYQ (.inl c1)];rw[zB zjP (by simp)];simp -implicitDefEqProofs (maxSteps:=4000000) (disch:=omega) only[zht,zg,go_sem, *];(try simp only[zPr]);repeat' (first|done|rfl|((first|refine zG (fun hq=> ?_) (fun hq=> ?_)|refine zM (fun hq=> ?_) (fun hq=> ?_))<;>(try (first|(exfalso;omega)|contradiction))<;>(try simp -implicitDefEqProofs (maxSteps:=4000000) (disch:=omega) only[zg,go_sem, *])<;>(try simp only[zPr])));(all_goals try rfl);(all_goals try (repeat' (first|done|rfl|(exfalso;omega)|contradiction|(refine zI (fun hq=> ?_) (fun hq=> ?_)))))
 by_cases c2:24<d.cap
 ·rw[zYQ (.inr c2)];rw[zB zjP (by simp)];simp -implicitDefEqProofs (maxSteps:=4000000) (disch:=omega) only[zht,zg,go_sem, *];(try simp only[zPr]);repeat' (first|done|rfl|((first|refine zG (fun hq=> ?_) (fun hq=> ?_)|refine zM (fun hq=> ?_) (fun hq=> ?_))<;>(try (first|(exfalso;omega)|contradiction))<;>(try simp -implicitDefEqProofs (maxSteps:=4000000) (disch:=omega) only[zg,go_sem, *])<;>(try simp only[zPr])));(all_goals try rfl);(all_goals try (repeat' (first|done|rfl|(exfalso;omega)|contradiction|(refine zI (fun hq=> ?_) (fun hq=> ?_)))))
 rw[zYP zo]
 by_cases c3:d.cap<d.l.length
 ·rw[zYQ c3];rw[zB zjP (by simp)];simp -implicitDefEqProofs (maxSteps:=4000000) (disch:=omega) only[zht,zg,go_sem, *];(try simp only[zPr]);repeat' (first|done|rfl|((first|refine zG (fun hq=> ?_) (fun hq=> ?_)|refine zM (fun hq=> ?_) (fun hq=> ?_))<;>(try (first|(exfalso;omega)|contradiction))<;>(try simp -implicitDefEqProofs (maxSteps:=4000000) (disch:=omega) only[zg,go_sem, *])<;>(try simp only[zPr])));(all_goals try rfl);(all_goals try (repeat' (first|done|rfl|(exfalso;omega)|contradiction|(refine zI (fun hq=> ?_) (fun hq=> ?_)))))
 rw[zYP c3]
 by_cases c4:fe=0
 ·subst c4;simp only[ne_eq,zY2,if_false]
  cases dd
  ·rw[zB zjP (by simp)];simp -implicitDefEqProofs (maxSteps:=4000000) (disch:=omega) only[zht,zg,go_sem, *];(try simp only[zPr]);repeat' (first|done|rfl|((first|refine zG (fun hq=> ?_) (fun hq=> ?_)|refine zM (fun hq=> ?_) (fun hq=> ?_))<;>(try (first|(exfalso;omega)|contradiction))<;>(try simp -implicitDefEqProofs (maxSteps:=4000000) (disch:=omega) only[zg,go_sem, *])<;>(try simp only[zPr])));(all_goals try rfl);(all_goals try (repeat' (first|done|rfl|(exfalso;omega)|contradiction|(refine zI (fun hq=> ?_) (fun hq=> ?_)))))
  ·rw[zB zjP (by simp)];simp -implicitDefEqProofs (maxSteps:=4000000) (disch:=omega) only[zht,zg,go_sem, *];(try simp only[zPr]);repeat' (first|done|rfl|((first|refine zG (fun hq=> ?_) (fun hq=> ?_)|refine zM (fun hq=> ?_) (fun hq=> ?_))<;>(try (first|(exfalso;omega)|contradiction))<;>(try simp -implicitDefEqProofs (maxSteps:=4000000) (disch:=omega) only[zg,go_sem, *])<;>(try simp only[zPr])));(all_goals try rfl);(all_goals try (repeat' (first|done|rfl|(exfalso;omega)|contradiction|(refine zI (fun hq=> ?_) (fun hq=> ?_)))))
 ·rw[zYQ c4];rw[zB zjP (by simp)];simp -implicitDefEqProofs (maxSteps:=4000000) (disch:=omega) only[zht,zg,go_sem, *];(try simp only[zPr]);repeat' (first|done|rfl|((first|refine zG (fun hq=> ?_) (fun hq=> ?_)|refine zM (fun hq=> ?_) (fun hq=> ?_))<;>(try (first|(exfalso;omega)|contradiction))<;>(try simp -implicitDefEqProofs (maxSteps:=4000000) (disch:=omega) only[zg,go_sem, *])<;>(try simp only[zPr])));(all_goals try rfl);(all_goals try (repeat' (first|done|rfl|(exfalso;omega)|contradiction|(refine zI (fun hq=> ?_) (fun hq=> ?_)))))
theorem zTa(a:zm)(k:Int)(d:Dead)(hL:d.l.length<=1000):zd G 38 [.d (zl a),.d (.int .i64 k),.d (zF d)] []=some (.d (.tup [zl (stDead a k d).1,.int .i64 (stDead a k d).2]),[]):=by
 have ht:=zBN k;have hv:=zSN d hL;unfold stDead;generalize zeH k=tb at *;generalize zbU d=v at *;simp only[zl,zF] at *
 cases tb
 ·rw[zB zAS (by simp)];simp -implicitDefEqProofs (maxSteps:=4000000) (disch:=omega) only[zm3,zx,zaL,zg,go_sem, *];(try simp only[zPr]);repeat' (first|done|rfl|((first|refine zG (fun hq=> ?_) (fun hq=> ?_)|refine zM (fun hq=> ?_) (fun hq=> ?_))<;>(try (first|(exfalso;omega)|contradiction))<;>(try simp -implicitDefEqProofs (maxSteps:=4000000) (disch:=omega) only[zx,zaL,zg,go_sem, *])<;>(try simp only[zPr])));(all_goals try rfl);(all_goals try (repeat' (first|done|rfl|(exfalso;omega)|contradiction|(refine zI (fun hq=> ?_) (fun hq=> ?_)))))
 ·simp only[zZK,if_false];rw[zB zAS (by simp)];simp -implicitDefEqProofs (maxSteps:=4000000) (disch:=omega) only[zm3,zx,zaL,zg,go_sem, *];(try simp only[zPr]);repeat' (first|done|rfl|((first|refine zG (fun hq=> ?_) (fun hq=> ?_)|refine zM (fun hq=> ?_) (fun hq=> ?_))<;>(try (first|(exfalso;omega)|contradiction))<;>(try simp -implicitDefEqProofs (maxSteps:=4000000) (disch:=omega) only[zx,zaL,zg,go_sem, *])<;>(try simp only[zPr])));(all_goals try rfl);(all_goals try (repeat' (first|done|rfl|(exfalso;omega)|contradiction|(refine zI (fun hq=> ?_) (fun hq=> ?_)))))
end Go.Proofs.YtjalkkalhdnplaaGreat
