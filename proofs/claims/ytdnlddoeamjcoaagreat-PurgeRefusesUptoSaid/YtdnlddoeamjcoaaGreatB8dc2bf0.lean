/-
  Snapshots and sections of the reference.
-/
import Derived.Test.YtdnlddoeamjcoaaGreatB842129c
import Derived.Test.YtdnlddoeamjcoaaGreatB3d3eeba
import Derived.Test.YtdnlddoeamjcoaaGreatB818f260
import Derived.Test.YtdnlddoeamjcoaaGreatB95e251b
import Derived.Test.YtdnlddoeamjcoaaGreatB970ba0c
set_option linter.unusedSimpArgs false
set_option linter.unusedVariables false
set_option maxHeartbeats 10000000
set_option maxRecDepth 100000
namespace Go.Proofs.YtdnlddoeamjcoaaGreat
open Go Go.Sim
def zbn(s:zu):Prop:=s.ready.cells.length<=4294967296/\s.leases.l.length<=4294967296/\s.leases.heap.length<=4294967296
theorem ztX(n:Int):zg G zo6 [.d (.int .i64 n)] []=some (.d (.bool (tiQ n)),[]):=by
 unfold tiQ
 by_cases h:0<=n/\n<=1073741824
 ·rw[zadn h];obtain⟨h1,h2⟩:=h;exact zW zzE
 ·rw[zadq h]
  by_cases h1:0<=n
  ·have h2:¬n<=1073741824:=by omega
   clear h;exact zW zzE
  ·clear h;exact zW zzE
theorem zRn(n:Int):zg G zo7 [.d (.int .i64 n)] []=some (.d (.bool (viQ n)),[]):=by
 unfold viQ
 by_cases h:0<=n/\n<=1000
 ·rw[zadn h];obtain⟨h1,h2⟩:=h;exact zW zzF
 ·rw[zadq h]
  by_cases h1:0<=n
  ·have h2:¬n<=1000:=by omega
   clear h;exact zW zzF
  ·clear h;exact zW zzF
theorem zkg(n:Int):zg Go.Proofs.YtdnlddoeamjcoaaGreat.G zlP [.d (.int .i64 n)] []=some (.d (.bool (epQ n)),[]):=zHH n
theorem zss(n:Int):zg Go.Proofs.YtdnlddoeamjcoaaGreat.G zlQ [.d (.int .i64 n)] []=some (.d (.bool (liQ n)),[]):=zMg n
theorem zUd{s:zu}(h:zaf s=0)(hl:s.live=false):s.ready.size=0/\s.leases.l=[]:=by
 have h1:zaX s.ready=0:=by
  unfold zaf at h
  split at h
  ·rename_i c;exact absurd h c
  ·rename_i c;exact zadh.1 c
 have hz:=(zc8 h1);have h2:zaA s.leases=0:=by
  have q:=h;unfold zaf at q;rw[zacX (fun c=>c h1)] at q
  split at q
  ·rename_i c;exact absurd q c
  ·rename_i c;exact zadh.1 c
 rw[znE h1 h2,zacY hl] at h
 split at h
 ·cases h
 ·rename_i c;have h3:s.ready.size+(s.leases.l.length:Int)<=0:=by
   refine Classical.byContradiction fun q=>c ?_;omega
  have h5:=hz.2.2.2.2.1;exact⟨by omega,zaga zo⟩
theorem zhH(s:zu)(q:zbn s):zg G zoZ [.d (zk s)] []=some (.d (.int .i64 (zbs s)),[]):=by
 obtain⟨h1,h2,h3⟩:=q;have h:=zfi s h1 h2 h3;unfold zbs
 by_cases c:zaf s=0
 ·rw[zacY c]
  cases hl:s.live with
  | false=>
   obtain⟨d1,d2⟩:=zUd c hl;have hv:zal s=7:=by unfold zal;rw[zacX (fun q=>q c),hl];rfl
   rw[hv] at h;rw[d1,d2];clear c hv d1 d2;simp only[zk,hl] at *;exact zW zzD
  | true=>
   have hv:zal s=0:=by unfold zal;rw[zacX (fun q=>q c),hl];rfl
   have hb:0<=s.ready.size/\s.ready.size<=12/\s.leases.l.length<=12:=by
    have hu:usE s true=0:=by unfold usE;rw[zacX (fun q=>q hv)];rfl
    obtain⟨d1,d2,d3,d4⟩:=zDq hu;have hz:=zc8 (zDr hu);exact⟨hz.2.2.2.2.1,by have:=hz.2.2.2.2.2;omega,d3⟩
   rw[hv] at h;clear c hv;obtain⟨b1,b2,b3⟩:=hb;simp only[zk,hl] at *;exact zW zzD
 ·rw[zacX c];have hv:zal s≠0:=by unfold zal;rw[zacY c];exact c
  clear c;generalize zal s=v at *;simp only[zk] at *;exact zW zzD
def zeS(s:zu)(r:Int):Bool:=decide (zal s=0)&&decide (s.low<=r/\r<=s.high)
theorem zs2(s:zu)(r:Int)(q:zbn s):zg G zoX [.d (zk s),.d (.int .i64 r)] []=some (.d (.bool (zeS s r)),[]):=by
 obtain⟨h1,h2,h3⟩:=q;have h:=zfi s h1 h2 h3;unfold zeS;generalize zal s=v at *
 by_cases c:v=0
 ·subst c;rw[zadn rfl,zaed]
  by_cases c1:s.low<=r
  ·by_cases c2:r<=s.high
   ·rw[zadn ⟨c1,c2⟩];simp only[zk] at *;exact zW zrQ
   ·rw[zadq zo];simp only[zk] at *;exact zW zrQ
  ·rw[zadq zo];simp only[zk] at *;exact zW zrQ
 ·rw[zadq c,zadO];simp only[zk] at *;exact zW zrQ
theorem zYp(s:zu)(h:zbk)(now ep:Int)(q:zbn s):zg G zoS [.d (zk s),.d (zaH h),.d (.int .i64 now),.d (.int .i64 ep)] []=some (.d (.bool (hB s h now ep)),[]):=by
 obtain⟨h1,h2,h3⟩:=q;have hl:=zfi s h1 h2 h3;have e1:=zkg ep;have e2:=ztX now;have hf:=zNA s.leases h.id h2 h3;have hp:=ziw (zee s.leases h.id).1.msg ep;unfold hB usE zc4;generalize zal s=v at *;generalize epQ ep=b1 at *;generalize tiQ now=b2 at *;generalize zee s.leases h.id=f at *;obtain⟨x,b⟩:=f
 by_cases c:v=0
 ·subst c
  cases b1
  ·cases b2
   ·simp only[zk,zaH] at *;exact zW zkr
   ·simp only[zk,zaH] at *;exact zW zkr
  ·cases b2
   ·simp only[zk,zaH] at *;exact zW zkr
   ·simp only[zk,zaH,zaJ,za0,zn,ne_eq,zac9,if_false,if_true,zaei,decide_true,zaed] at *
    cases b
    ·exact zW zkr
    ·exact zW zkr
 ·have e3:decide ((if v≠0 then v else if (b2&&b1)=true then 0 else 1)=0)=false:=by rw[zacY c,zadq c]
  rw[e3,zadO];clear e3;simp only[zk,zaH] at *;exact zW zkr
def zcq(s:zu)(h:zbk)(now ep:Int)(b:Bool):Int:=if usE s (tiQ now&&(epQ ep&&b))≠0 then usE s (tiQ now&&(epQ ep&&b)) else if zc4 s h now ep=true then 0 else 5
theorem zAz(s:zu)(h:zbk)(now ep:Int)(b:Bool)(q:zbn s):zg G zo4 [.d (zk s),.d (zaH h),.d (.int .i64 now),.d (.int .i64 ep),.d (.bool b)] []=some (.d (.int .i64 (zcq s h now ep b)),[]):=by
 have hl:=(zfi s q.1 q.2.1 q.2.2);have e1:=(zkg ep);have e2:=ztX now;have hh:=zYp s h now ep q;unfold zcq usE;unfold hB usE at hh;generalize zal s=v at *;generalize epQ ep=b1 at *;generalize tiQ now=b2 at *;generalize zc4 s h now ep=hb at *
 by_cases c:v=0
 ·subst c
  cases b1
  ·cases b2<;>cases b
   all_goals
    simp only[zael,zadO,zaei,zac8,ne_eq,zac9,if_false,zadw,if_true] at *;clear hh;simp only[zk,zaH] at *
   all_goals (exact zW zks)
  ·cases b2
   ·cases b
    all_goals
     simp only[zael,zadO,zaei,zac8,ne_eq,zac9,if_false,zadw,if_true] at *;clear hh;simp only[zk,zaH] at *
    all_goals (exact zW zks)
   ·cases b
    ·clear hh;simp only[zk,zaH] at *;exact zW zks
    ·simp only[zaei,ne_eq,zac9,if_false,if_true,decide_true,zaed] at *;simp only[zk,zaH] at *
     cases hb
     ·exact zW zks
     ·exact zW zks
 ·clear hh;rw[zacY c,zacY c];simp only[zk,zaH] at *;exact zW zks
theorem zAB{s:zu}{h:zbk}{now ep:Int}{b:Bool}(c:usE s (tiQ now&&(epQ ep&&b))=0):zcq s h now ep b=if zc4 s h now ep=true then 0 else 5:=by
 unfold zcq;rw[zacX (fun q=>q c)]
theorem zAA{s:zu}{h:zbk}{now ep:Int}{b:Bool}(c:usE s (tiQ now&&(epQ ep&&b))≠0):zcq s h now ep b=usE s (tiQ now&&(epQ ep&&b)):=by
 unfold zcq;rw[zacY c]
theorem zmE{s:zu}{h:zbk}{now ep:Int}{b:Bool}(q:zcq s h now ep b=0):usE s (tiQ now&&(epQ ep&&b))=0/\zc4 s h now ep=true:=by
 unfold zcq at q
 split at q
 ·rename_i c;exact absurd q c
 ·rename_i c
  split at q
  ·rename_i c2;exact⟨zadh.1 c,c2⟩
  ·cases q
theorem zsi{s:zu}{h:zbk}{now ep:Int}{b:Bool}(q:zcq s h now ep b=0):(zap s.leases h.id).2.2=0/\za1 s:=by
 obtain⟨q1,q2⟩:=zmE q;have hv:=(zfZ q1).1;have ht:zaA s.leases=0:=by
  obtain⟨n,h',e,v⟩:=zf1 hv (zfZ q1).2;exact v.2.2.2.2.2.2.2.2.1
 obtain⟨d1,d2,d3,d4⟩:=zDq q1;obtain⟨y,hy,e⟩:=zmF q2;exact⟨(zCN ht).2 ((zh3 (l:=s.leases.l) h.id).2 ⟨y,hy,e⟩),d2,d3,d4⟩
theorem zRO(s:zu)(h:zbk)(now ep:Int):zdr s h now ep=if zcq s h now ep true=0 then ((zaZ s h.id).1,(zaZ s h.id).2.2) else (zP,zcq s h now ep true):=by
 by_cases c:usE s (tiQ now&&(epQ ep&&true))=0
 ·rw[zAB c];rw[zafh] at c;unfold zdr;rw[zacX (fun q=>q c)]
  cases zc4 s h now ep
  ·rfl
  ·rfl
 ·rw[zAA c,zacX c];rw[zafh] at c ⊢;unfold zdr;rw[zacY c]
theorem zRN(s:zu)(h:zbk)(now ep:Int)(q:zbn s):zg G zoJ [.d (zk s),.d (zaH h),.d (.int .i64 now),.d (.int .i64 ep)] []=some (.d (.tup [zk (zdr s h now ep).1,.int .i64 (zdr s h now ep).2]),[]):=by
 have hh:=zAz s h now ep true q;rw[zRO]
 by_cases c:zcq s h now ep true=0
 ·obtain⟨r1,r2⟩:=zsi c;have hr:=zte s.leases h.id q.2.1 q.2.2;rw[zacY c];rw[c] at hh;unfold zaZ;rw[zacY r1];rw[r1] at hr;clear c r1;generalize zap s.leases h.id=r at *;obtain⟨t,m,e⟩:=r;obtain⟨lv,lo,hi,⟨c,h',z⟩,⟨tl,th⟩⟩:=s;simp only[zk,zaH,zaJ,zn] at *;exact zW zIp
 ·rw[zacX c];generalize zcq s h now ep true=v at *;simp only[zk,zaH,zP,zacZ] at *;exact zW zIp
theorem zMC{s:zu}{h:zbk}{now ep lim:Int}(q:zcq s h now ep (liQ lim)=0):(zd6 { s with leases:=(zap s.leases h.id).1 } (zap s.leases h.id).2.1 lim).2=0:=by
 obtain⟨q1,q2⟩:=zmE q;obtain⟨r0,_⟩:=zsi q;obtain⟨hv,hl⟩:=zfZ q1;obtain⟨y,hy,ey⟩:=zmF q2;obtain⟨n,h',e,v⟩:=zf1 hv hl;rw[<- ey] at r0 ⊢;clear q q1 q2;generalize zI s.ready=L at *;generalize s.leases=t at *;generalize s.low=lo at *;generalize s.high=hi at *;obtain⟨t',r1,r2,r3⟩:=v.rel hy;have hlen:=r3.length_eq;simp only[zac4] at hlen;have hmv:zaC y.msg=0:=((zfF t.l).1 (zhI v.2.2.2.2.2.2.2.2.1).2.1).2 y hy |>.1;obtain⟨h2,L',k1,k2,k3,k4⟩:=r2.back hmv (v.2.2.2.2.2.2.2.2.2.1 y hy) (by have:=v.2.2.2.1;omega) (v.gone r3) lim;have e1:({ mkS n h' L t lo hi with leases:=(zap t y.msg.id).1 },(zap t y.msg.id).2.1)=(mkS n h' L t' lo hi,y.msg):=by
  unfold zaZ at r1;rw[zacY (show (zap (mkS n h' L t lo hi).leases y.msg.id).2.2=0 from r0)] at r1;have a1:=congrArg Prod.fst r1;have a2:=congrArg (fun p=>p.2.1) r1;exact Prod.ext a1 a2
 have e2:=congrArg (fun p:zu×zl=>p.1.leases) e1;have e3:=congrArg Prod.snd e1;have er:s.ready=rg n h' L:=by rw[e];rfl
 show (zd6 ⟨s.live,lo,hi,s.ready,(zap t y.msg.id).1⟩ (zap t y.msg.id).2.1 lim).2=0;change (zap t y.msg.id).1=t' at e2;change (zap t y.msg.id).2.1=y.msg at e3;rw[hl,er,e2,e3];exact congrArg Prod.snd k1
theorem z0S(s:zu)(h:zbk)(now ep lim:Int):zdh s h now ep lim=if zcq s h now ep (liQ lim)=0 then ({ s with leases:=(zap s.leases h.id).1,ready:=(zd6 { s with leases:=(zap s.leases h.id).1 } (zap s.leases h.id).2.1 lim).1 },0) else (zP,zcq s h now ep (liQ lim)):=by
 by_cases c:zcq s h now ep (liQ lim)=0
 ·rw[zacY c];have hb:=zMC c;obtain⟨q1,q2⟩:=zmE c;obtain⟨r0,_⟩:=zsi c;unfold zdh zaZ;rw[zacX (fun q=>q q1),zacY q2,zacY r0];simp only[ne_eq,zac9,if_false,hb]
 ·rw[zacX c]
  by_cases c1:usE s (tiQ now&&(epQ ep&&liQ lim))=0
  ·rw[zAB c1] at c ⊢;unfold zdh;rw[zacX (fun q=>q c1)]
   cases hb:zc4 s h now ep with
   | true=>rw[hb] at c;exact absurd rfl c
   | false=>rfl
  ·rw[zAA c1];unfold zdh;rw[zacY c1]
theorem z0R(s:zu)(h:zbk)(now ep lim:Int)(q:zbn s):zg G zoV [.d (zk s),.d (zaH h),.d (.int .i64 now),.d (.int .i64 ep),.d (.int .i64 lim)] []=some (.d (.tup [zk (zdh s h now ep lim).1,.int .i64 (zdh s h now ep lim).2]),[]):=by
 have hh:=zAz s h now ep (liQ lim) q;have hli:=(zss lim);rw[z0S]
 by_cases c:zcq s h now ep (liQ lim)=0
 ·obtain⟨r1,r2⟩:=zsi c;have hr:=zte s.leases h.id q.2.1 q.2.2;rw[zacY c];rw[c] at hh;rw[r1] at hr;have hp1:=(ztd s.ready (zap s.leases h.id).2.1 q.1);have hp2:=(z8b s.ready (zap s.leases h.id).2.1 q.1);have hsp:=(ztR (zap s.leases h.id).2.1 lim);have hbe:=zMC c;unfold zd6 at hbe ⊢;clear c r1;generalize liQ lim=bl at *
  by_cases c2:lim<=(zap s.leases h.id).2.1.count
  ·rw[zacY c2] at hbe ⊢;rw[zadn c2] at hsp;simp only at hbe;rw[hbe] at hp1;clear hp2 hbe c2;simp only;generalize (pbD s.ready (zap s.leases h.id).2.1).1=p at *;generalize zap s.leases h.id=r at *;obtain⟨t,m,e⟩:=r;obtain⟨pc,ph,pz⟩:=p;obtain⟨lv,lo,hi,⟨c,h',z⟩,⟨tl,th⟩⟩:=s;simp only[zk,zaH,zaJ,zn,zau] at *;exact zW zzB
  ·rw[zacX c2] at hbe ⊢;rw[zadq c2] at hsp;simp only at hbe;rw[hbe] at hp2;clear hp1 hbe c2;simp only;generalize (pfD s.ready (zap s.leases h.id).2.1).1=p at *;generalize zap s.leases h.id=r at *;obtain⟨t,m,e⟩:=r;obtain⟨pc,ph,pz⟩:=p;obtain⟨lv,lo,hi,⟨c,h',z⟩,⟨tl,th⟩⟩:=s;simp only[zk,zaH,zaJ,zn,zau] at *;exact zW zzB
 ·rw[zacX c];generalize zcq s h now ep (liQ lim)=v at *;generalize liQ lim=bl at *;simp only[zk,zaH,zP,zacZ] at *;exact zW zzB
theorem zTl(s:zu)(h:zbk)(now ep vis:Int):zfr s h now ep vis=if zcq s h now ep (viQ vis)=0 then (if 1073741824<now+vis then (zP,6) else ({ s with leases:=(zbr s.leases h.id (now+vis)).1 },0)) else (zP,zcq s h now ep (viQ vis)):=by
 by_cases c:zcq s h now ep (viQ vis)=0
 ·rw[zacY c];obtain⟨q1,q2⟩:=zmE c;unfold zfr;rw[zacX (fun q=>q q1),zacY q2]
  by_cases c2:1073741824<now+vis
  ·rw[zacY c2,zacY c2]
  ·rw[zacX c2,zacX c2];have hn:=zt4 q1;simp only[zac7,tiQ,viQ,decide_eq_true_eq] at hn;have ht:zaA s.leases=0:=by
    obtain⟨n,h',e,v⟩:=zf1 (zfZ q1).1 (zfZ q1).2;exact v.2.2.2.2.2.2.2.2.1
   obtain⟨y,hy,e⟩:=zmF q2;have he:(zbr s.leases h.id (now+vis)).2=0:=(zvz ht).2 ⟨(zh3 (l:=s.leases.l) h.id).2 ⟨y,hy,e⟩,by omega,by omega⟩;rw[he];rfl
 ·rw[zacX c]
  by_cases c1:usE s (tiQ now&&(epQ ep&&viQ vis))=0
  ·rw[zAB c1] at c ⊢;unfold zfr;rw[zacX (fun q=>q c1)]
   cases hb:zc4 s h now ep with
   | true=>rw[hb] at c;exact absurd rfl c
   | false=>rfl
  ·rw[zAA c1];unfold zfr;rw[zacY c1]
theorem zTk(s:zu)(h:zbk)(now ep vis:Int)(q:zbn s):zg G zoL [.d (zk s),.d (zaH h),.d (.int .i64 now),.d (.int .i64 ep),.d (.int .i64 vis)] []=some (.d (.tup [zk (zfr s h now ep vis).1,.int .i64 (zfr s h now ep vis).2]),[]):=by
 have hh:=zAz s h now ep (viQ vis) q;have hvi:=zRn vis;rw[zTl]
 by_cases c:zcq s h now ep (viQ vis)=0
 ·have hr:=z8d s.leases h.id (now+vis) q.2.1 q.2.2;have hn:=zt4 (zmE c).1;simp only[zac7,tiQ,viQ,decide_eq_true_eq] at hn;obtain⟨n1,n2,n3⟩:=hn;clear n2;rw[zacY c];rw[c] at hh;clear c;generalize viQ vis=bl at *
  by_cases c2:1073741824<now+vis
  ·rw[zacY c2];clear hr;simp only[zk,zaH,zP,zacZ] at *;exact zW zzw
  ·rw[zacX c2];generalize zbr s.leases h.id (now+vis)=r at *;obtain⟨t,e⟩:=r;obtain⟨lv,lo,hi,⟨c,h',z⟩,⟨tl,th⟩⟩:=s;simp only[zk,zaH,zaJ] at *;exact zW zzw
 ·rw[zacX c];generalize zcq s h now ep (viQ vis)=v at *;generalize viQ vis=bl at *;simp only[zk,zaH,zP,zacZ] at *;exact zW zzw
theorem z8u(m:zl)(ep lim:Int):zg G zoh [.d (zn m),.d (.int .i64 ep),.d (.int .i64 lim)] []=some (.d (.bool (zgx ep lim m)),[]):=by
 have hp:=(zNz m ep);have hs:=(ztR m lim);unfold zgx;simp only[zn] at *;exact zW zXr
theorem zUh(m:zl):zg G zof [.d (zn m)] []=some (.d (.tup [zn (zd7 m).1,.int .i64 (zd7 m).2]),[]):=by
 have hv:=(zix m);unfold zd7
 by_cases c:zaC m=0
 ·rw[c] at hv;rw[zacX (fun q=>q c)];have hb:m.count<=8/\0<=m.count/\m.gen<=65536/\0<=m.gen:=by
   unfold zaC at c
   split at c
   ·omega
   ·cases c
  clear c
  by_cases c1:m.gen=65536
  ·rw[zacY c1];replace c1:=zadb c1;simp only[zn,zak] at hv ⊢;exact zW zrL
  ·rw[zacX c1]
   by_cases c2:m.count=8
   ·rw[zacY c2];replace c2:=zadb c2;simp only[zn,zak] at hv ⊢;exact zW zrL
   ·rw[zacX c2];simp only[zn] at *;exact zW zrL
 ·rw[zacY c];generalize zaC m=v at *;simp only[zn,zak] at *;exact zW zrL
theorem zab0{mx d ep lim:Int}:∀(l:List zl) (s:zu) (out:List zN),(out.length:Int)=mx->tkF mx d ep lim l s out=(s,out,0):=by
 intro l
 induction l with
 | nil=>intro s out _;rfl
 | cons m l ih=>intro s out h;rw[tkF,zacY (.inl h)];exact ih s out h
structure T7 where
 L:List zl
 t:zT
 out:List zN
 i:Nat
def t7S(n h:Nat)(lo hi:Int)(l:List zl)(mx now vis ep lim:Int)(p:T7):St:=⟨[(1,.d (.int .i64 mx)),(2,.d (.int .i64 now)),(3,.d (.int .i64 vis)),(4,.d (.int .i64 ep)),(5,.d (.int .i64 lim)),(6,.ref 6 0 0),(12,.ref 12 0 0),(16,.acc 16 (p.out.map za0)),(17,.d (.sl (l.map zn))),(18,.d (.int .i64 p.i))],[(6,.row [.d (zk (mkS n h p.L p.t lo hi))]),(12,.row [shZ]),(16,.acc p.out.length)]⟩
def t7R(x:zu×List zN×Int):zac×St:=(.exit 0,⟨[(6,.ref 6 0 0),(12,.ref 12 0 0),(16,.acc 16 (x.2.1.map za0))],[(6,.row [.d (zk x.1)]),(12,.row [shZ]),(16,.acc x.2.1.length)]⟩)
def t7I(n h:Nat)(lo hi:Int)(l:List zl)(mx:Int)(p:T7):Prop:=VS n h p.L p.t lo hi/\p.i<=l.length/\p.out.length<=p.i/\(p.out.length:Int)<=mx/\(∀m∈l.drop p.i,m∈p.L)/\((l.drop p.i).map (·.id)).Nodup
theorem zabC(n h:Nat)(lo hi:Int)(l:List zl)(mx now vis ep lim:Int)(hl:l.length<=12)(hlim:lim<=8)(h1:0<=now/\now<=1073741824)(h2:0<=vis/\vis<=1000)(h3:now+vis<=1073741824):∀p,t7I n h lo hi l mx p->zai G [] zkD (t7S n h lo hi l mx now vis ep lim p)=some (t7R (tkF mx (now+vis) ep lim (l.drop p.i) (mkS n h p.L p.t lo hi) p.out)):=by
 refine za3 (fun p:T7=>l.length - p.i) (t7I n h lo hi l mx) (t7S n h lo hi l mx now vis ep lim) (fun p=>some (t7R (tkF mx (now+vis) ep lim (l.drop p.i) (mkS n h p.L p.t lo hi) p.out))) fun p hp L ih=> ?_;obtain⟨LL,t,out,i⟩:=p;obtain⟨v,hi1,ho,hmx,hm,hn⟩:=hp;simp only at v hi1 ho hmx hm hn
 by_cases h0:i<l.length
 ·have hd:=zady h0;rw[hd] at hm hn;simp only[zac1,zad8] at hn
  by_cases c0:(out.length:Int)=mx
  ·simp only;rw[zab0 _ _ _ c0];have c1:¬(out.length:Int)<mx:=by omega
   clear ih hm hn hd v c0 hmx;simp only[t7S,t7R,zkD];generalize mkS n h LL t lo hi=s at *;simp only[zk,shZ] at *;exact zS
  ·have c1:(out.length:Int)<mx:=by omega
   have hr:=z8u l[i] ep lim;have hml:=hm l[i] (.head _);simp only;rw[hd,tkF]
   cases hq:zgx ep lim l[i] with
   | false=>
    rw[zacY (.inr rfl)];rw[hq] at hr;have i1:=ih ⟨LL,t,out,i+1⟩ ⟨v,by simp only;omega,by simp only;omega,hmx,fun m q=>hm m (.tail _ q),hn.2⟩ (by simp only;omega);clear ih hm hn hd v c0 hmx hml;simp only at i1;generalize t7R (tkF mx (now+vis) ep lim (l.drop (i+1)) (mkS n h LL t lo hi) out)=R at *;simp only[t7S,zkD] at *;generalize mkS n h LL t lo hi=s at *;simp only[zk,zn,shZ] at *;simp only[zNr,zE] at i1;simp -implicitDefEqProofs (maxSteps:=4000000) (disch:=omega) only[zn,zj,go_sem, *]
   | true=>
    rw[zacX (by rintro (q|q);exact c0 q;cases q)];rw[hq] at hr;obtain⟨k,hk,ek,e1,e2,v2⟩:=v.dlv hml hq hlim (d:=now+vis) zo zo;obtain⟨k2,hk2,ek2,hrm⟩:=v.rem hml;obtain⟨q1,q2,q3⟩:=(zQl ep lim l[i]).1 hq;have hdel:=zG2 (v.2.2.2.2.2.2.2.1 l[i] hml).1 q3 zo;have hp:=zru LL k hk;rw[ek] at hp;have hl2:∀x∈l.drop (i+1),x∈LL.eraseIdx k:=by
     intro x hx
     rcases zadB.1 (hp.mem_iff.2 (hm x (.tail _ hx))) with rfl|hx2
     ·exact absurd (zadc.2 ⟨_,hx,rfl⟩) hn.1
     ·exact hx2
    have c3:=zUh l[i];have c4:=(zB7 (rg n h LL) l[i].id (by have:=v.lens.1;show (mkS n h LL t lo hi).ready.cells.length<=_;omega));have tl:=zjJ v.2.2.2.2.2.2.2.2.1;have c5:=zNB t (upM l[i]) (now+vis) zo zo;have hlen:=v.lens;rw[e1];rw[zacX (by simp)];rw[hrm] at c4;rw[show zd7 l[i]=(upM l[i],0) from hdel] at c3;have ekk:rg n h (LL.eraseIdx k2)=rg n h (LL.eraseIdx k):=by
     have a1:zgg (mkS n h LL t lo hi) l[i] (now+vis)=_:=e1;have a2:=congrArg (fun p:zu×zN×Int=>p.1.ready) a1;unfold zgg at a2;rw[show rmD (mkS n h LL t lo hi).ready l[i].id=(rg n h (LL.eraseIdx k2),l[i],0) from hrm] at a2;have hg:(zaY t (upM l[i]) (now+vis)).2=0:=by
      have a3:=congrArg (fun p:zu×zN×Int=>p.2.2) a1;unfold zgg at a3;rw[show rmD (mkS n h LL t lo hi).ready l[i].id=(rg n h (LL.eraseIdx k2),l[i],0) from hrm] at a3;simp only[show zd7 l[i]=(upM l[i],0) from hdel,ne_eq,zac9,if_false] at a3
      by_cases hz:(zaY t (upM l[i]) (now+vis)).2=0
      ·exact hz
      ·rw[zacY (show ¬(zaY (mkS n h LL t lo hi).leases (upM l[i]) (now+vis)).2=0 from hz)] at a3;exact absurd a3 hz
     simp only[show zd7 l[i]=(upM l[i],0) from hdel,ne_eq,zac9,if_false] at a2;rw[zacX (fun q=>q (show (zaY (mkS n h LL t lo hi).leases (upM l[i]) (now+vis)).2=0 from hg))] at a2;exact a2
    rw[ekk] at c4;have i1:=ih ⟨LL.eraseIdx k,(zaY t (upM l[i]) (now+vis)).1,out++[⟨upM l[i],now+vis⟩],i+1⟩ ⟨v2,by simp only;omega,by simp only[zac6,zadF];omega,by simp only[zac6,zadF];omega,hl2,hn.2⟩ (by simp only;omega);clear ih hm hn hd v v2 c0 hml e1 e2 hrm hdel hp hl2 ekk hk hk2 ek ek2;simp only at i1 ⊢;generalize t7R (tkF mx (now+vis) ep lim (l.drop (i+1)) (mkS n h (LL.eraseIdx k) (zaY t (upM l[i]) (now+vis)).1 lo hi) (out++[⟨upM l[i],now+vis⟩]))=R at *;simp only[t7S,mkS,zkD,zadg,zac1,zacZ] at *;generalize zaY t (upM l[i]) (now+vis)=g at *;generalize rg n h (LL.eraseIdx k)=r2 at *;generalize rg n h LL=r1 at *;obtain⟨t2,ge⟩:=g;obtain⟨c2,hh2,z2⟩:=r2;obtain⟨c1',hh1,z1⟩:=r1;obtain⟨tl1,th1⟩:=t;obtain⟨tl2,th2⟩:=t2;simp only[zk,zn,za0,zaJ,zau,upM,shZ] at *;simp only[zNr,zE] at i1;simp -implicitDefEqProofs (maxSteps:=4000000) (disch:=omega) only[zn,zj,go_sem, *]
 ·clear ih;obtain rfl:i=l.length:=by omega
  simp only[zadI,tkF,t7R,t7S,zkD];generalize mkS n h LL t lo hi=s at *;simp only[zk,shZ] at *;exact zS
theorem zabE(s:zu)(mx now vis ep lim:Int)(q:zbn s):zg G zo0 [.d (zk s),.d (.int .i64 mx),.d (.int .i64 now),.d (.int .i64 vis),.d (.int .i64 ep),.d (.int .i64 lim)] []=some (.d (.tup [zk (zda s mx now vis ep lim).1,.sl ((zda s mx now vis ep lim).2.1.map za0),.int .i64 (zda s mx now vis ep lim).2.2]),[]):=by
 have hl:=(zfi s q.1 q.2.1 q.2.2);have e1:=(zkg ep);have e2:=(zss lim);have e3:=ztX now;have e4:=zRn vis;unfold zda
 by_cases c:zlu s mx now vis ep lim=0
 ·rw[zacX (fun q=>q c)];obtain⟨hv,hlv⟩:=zfZ (s:=s) c;have hn:=zt4 (s:=s) c;have hring:=zDr (s:=s) c;have hrd:=(zjA hring);have hl0:zal s=0:=by unfold zal;rw[zacX (fun q=>q hv),hlv];rfl
  rw[hl0] at hl;simp only[zac7] at hn;obtain⟨n1,n2,n3,n4,n5⟩:=hn;rw[n1] at e1;rw[n2] at e2;rw[n3] at e3;rw[n4] at e4;simp only[liQ,tiQ,viQ,decide_eq_true_eq] at n2 n3 n4 n5;obtain⟨m1,m2⟩:=n3;obtain⟨m3,m4⟩:=n4;obtain⟨m5,m6⟩:=n5
  by_cases c2:1073741824<now+vis
  ·rw[zacY c2];clear hrd hl0 c hv hring n1 n2 q hlv;simp only[zk,zP,zacZ] at *;exact zW zhd
  ·rw[zacX c2];obtain⟨n,h,e,v⟩:=zf1 hv hlv;have hnd:=(zaeG.1 v.2.2.2.2.2.2.2.2.2.2).1;have hLn:(zI s.ready).length<=12:=by have:=v.2.2.2.1;have:=v.2.1;omega
   have hlp:=zabC n h s.low s.high (zI s.ready) mx now vis ep lim hLn n2.2 ⟨m1,m2⟩ ⟨m3,m4⟩ zo ⟨zI s.ready,s.leases,[],0⟩ ⟨v,by simp only;omega,by simp only[zac5];omega,by simp only[zac5];omega,fun m hm=>hm,hnd⟩;obtain⟨L',t',o',r1,_,_,_,_⟩:=VS.take (mx:=mx) (d:=now+vis) (ep:=ep) (lim:=lim) n2.2 zo zo (zI s.ready) (zI s.ready) s.leases [] v (fun m hm=>hm) hnd;simp only[t7S,t7R,zadu] at hlp;rw[<- e] at hlp r1;rw[r1] at hlp ⊢;clear e v r1 hl0 c hv hring n1 n2 q hnd hLn hlv;generalize mkS n h L' t' s.low s.high=s2 at *;generalize zI s.ready=W at *;simp only[zadi,zacZ,zac5,zado] at *;simp only[zk,shZ] at *;exact zW zhd
 ·rw[zacY c];have hu:zlu s mx now vis ep lim=if zal s≠0 then zal s else if (epQ ep&&(liQ lim&&(tiQ now&&(viQ vis&&decide (1<=mx/\mx<=6)))))=true then 0 else 1:=rfl
  rw[hu] at c ⊢;clear hu q
  by_cases c0:zal s=0
  ·rw[zacX (fun q=>q c0)] at c ⊢;rw[c0] at hl;rw[zacX (fun q=>c (by rw[zacY q]))];have hb:(epQ ep&&(liQ lim&&(tiQ now&&(viQ vis&&decide (1<=mx/\mx<=6)))))=false:=zafA.2 fun q=>c (by rw[zacY q]);clear c c0;generalize epQ ep=b1 at *;generalize liQ lim=b2 at *;generalize tiQ now=b3 at *;generalize viQ vis=b4 at *;simp only[zk,zP,zacZ] at *
   cases b1
   ·clear hb;exact zW zhd
   ·cases b2
    ·clear hb;exact zW zhd
    ·cases b3
     ·clear hb;exact zW zhd
     ·cases b4
      ·clear hb;exact zW zhd
      ·simp only[zaed,decide_eq_false_iff_not] at hb
       by_cases c1:mx<1
       ·clear hb;exact zW zhd
       ·have c2:6<mx:=by omega
        clear hb;exact zW zhd
  ·rw[zacY c0];clear c e1 e2 e3 e4;generalize zal s=v at *;simp only[zk,zP,zacZ] at *;exact zW zhd
def zc7(s:zu)(m:zl):zu×Int:=
 if zal s≠0 then (zP,zal s) else if zaC m≠0 then (zP,zaC m) else if ¬(s.low<=m.route/\m.route<=s.high) then (zP,12)
 else if s.ready.size+s.leases.l.length=s.ready.cells.length then (zP,3) else if ((za9 s).any fun x=>decide (x.id=m.id))=true then (zP,10) else ({ s with ready:=(pbD s.ready m).1 },0)
theorem zR8(l:List zl)(id:Int):(l.any fun m=>decide (m.id=id))=decide (0<=zaV l id):=by
 by_cases h:∃m∈l,m.id=id
 ·rw[zadn (zzg h)];obtain⟨m,hm,e⟩:=h;exact zadY.2 ⟨m,hm,by simp [e]⟩
 ·have:zaV l id<0:=by
     unfold zaV;rw[zsl];intro m hm;have:¬m.id=id:=fun e=>h ⟨m,hm,e⟩;simp [this]
  rw[zadq zo];refine zafA.2 fun q=>h ?_;obtain⟨m,hm,e⟩:=zadY.1 q;exact⟨m,hm,of_decide_eq_true e⟩
theorem zZ5{s:zu}(h:zal s=0):usE s true=0:=by unfold usE;rw[zacX (fun q=>q h)];rfl
theorem zNc(s:zu)(m:zl)(q:zbn s):zg G zoY [.d (zk s),.d (zn m)] []=some (.d (.tup [zk (zc7 s m).1,.int .i64 (zc7 s m).2]),[]):=by
 have hlv:=(zfi s q.1 q.2.1 q.2.2);unfold zc7
 by_cases c0:zal s=0
 ·rw[zacX (fun q=>q c0)];have hu:=zZ5 c0;obtain⟨d1,d2,d3,d4⟩:=zDq hu;have hring:=zDr hu;have hz:=zc8 hring;have hv2:=(zix m);have hst:=zhH s q;have hsv:zbs s=s.ready.size+s.leases.l.length:=by unfold zbs;rw[zacY (zfZ hu).1]
  rw[hsv] at hst;have hall:=(zjV hring d3);have hlm:=zQM hring d3;have hix:=(zjf (za9 s) m.id zo);have haf:=zR8 (za9 s) m.id;have hpb:=(ztd s.ready m zo);have hsz:s.ready.size<=12/\0<=s.ready.size:=⟨by have:=hz.2.2.2.2.2;omega,hz.2.2.2.2.1⟩;rw[c0] at hlv;rw[haf];clear hu hring hz hsv haf c0 q
  by_cases c1:zaC m=0
  ·rw[zacX (fun q=>q c1)];rw[c1] at hv2
   by_cases c2:s.low<=m.route/\m.route<=s.high
   ·rw[zacX (fun q=>q c2)];obtain⟨c21,c22⟩:=c2
    by_cases c3:s.ready.size+s.leases.l.length=s.ready.cells.length
    ·rw[zacY c3];rw[c3] at hst;clear hpb hix hall c1 c3;obtain⟨lv,lo,hi,⟨c,h,z⟩,⟨tl,th⟩⟩:=s;simp only[zk,zn,zP,zacZ] at *;exact zW zjb
    ·rw[zacX c3];generalize zaV (za9 s) m.id=fi at *;generalize za9 s=w at *;obtain⟨sz,esz⟩:∃sz,s.ready.size+s.leases.l.length=sz:=⟨_,rfl⟩;rw[esz] at hst c3;clear esz
     by_cases c5:0<=fi
     ·rw[zadn c5,zacY rfl];clear hpb c1;obtain⟨lv,lo,hi,⟨c,h,z⟩,⟨tl,th⟩⟩:=s;simp only[zk,zn,zP,zacZ] at *;exact zW zjb
     ·rw[zadq c5,zacX (by simp)];clear c1;generalize pbD s.ready m=p at *;obtain⟨r2,e2⟩:=p;obtain⟨lv,lo,hi,⟨c,h,z⟩,⟨tl,th⟩⟩:=s;obtain⟨c2,h2,z2⟩:=r2;simp only[zk,zn,zau,zP,zacZ] at *;exact zW zjb
   ·rw[zacY c2];clear hpb hix hall hst c1;obtain⟨lv,lo,hi,⟨c,h,z⟩,⟨tl,th⟩⟩:=s;simp only[zk,zn,zP,zacZ] at *
    by_cases c3:m.route<lo
    ·exact zW zjb
    ·have c4:hi<m.route:=by omega
     clear c2;exact zW zjb
  ·rw[zacY c1];clear hpb hix hall hst;generalize zaC m=mv at *;obtain⟨lv,lo,hi,⟨c,h,z⟩,⟨tl,th⟩⟩:=s;simp only[zk,zn,zP,zacZ] at *;exact zW zjb
 ·rw[zacY c0];generalize zal s=v at *;simp only[zk,zn,zP,zacZ] at *;exact zW zjb
def zkz(r lo hi:Int):Int:=if r<0\/65536<=r\/lo<0\/65536<=hi\/hi<lo then 0 else zAE r lo hi
def zct(m:zl)(lo hi:Int):zl:={ m with route:=zkz m.route lo hi }
def zbR(m:zl):zl:={ m with count:=0 }
def zm3(id route ep now:Int)(body:List UInt8):zl×Int:=
 if zaC ⟨id,route,ep,0,0,now,body⟩≠0 then (zak,zaC ⟨id,route,ep,0,0,now,body⟩) else (⟨id,route,ep,0,0,now,body⟩,0)
def zG(n:Int)(lo hi:Int):zu×Int:=
 if n<1\/12<n then (zP,1) else if ¬(0<=lo/\lo<=hi/\hi<65536) then (zP,1) else (⟨true,lo,hi,⟨List.replicate n.toNat zak,0,0⟩,zax⟩,0)
def zao(n:Int):zu×Int:=if n<1\/12<n then (zP,1) else (⟨false,0,0,⟨List.replicate n.toNat zak,0,0⟩,zax⟩,0)
def rmP(ep:Int):List zl->zat->zat
 | [],r=>r
 | m::l,r=>if m.epoch<ep then rmP ep l (rmD r m.id).1 else rmP ep l r
def zfP(ep:Int):List zN->zT->zT
 | [],t=>t
 | y::l,t=>if y.msg.epoch<ep then zfP ep l (zap t y.msg.id).1 else zfP ep l t
def zhT(s:zu)(ep:Int):zu×Int×Int:=
 if zal s≠0 then (zP,0,zal s) else if epQ ep=false then (zP,0,1)
 else ({ s with ready:=rmP ep (zI s.ready) s.ready,leases:=zfP ep s.leases.l s.leases },((zI s.ready).filter fun m=>decide (m.epoch<ep)).length+(s.leases.l.filter fun y=>decide (y.msg.epoch<ep)).length,0)
def zfe(r:zat)(k:Int):zat×List zl×Int:=
 if zaX r≠0 then (zaP,[],zaX r) else if k<0\/r.size<k then (zaP,[],1)
 else (rg r.cells.length r.head.toNat ((zI r).take ((zI r).length - k.toNat)),(zI r).drop ((zI r).length - k.toNat),0)
def zgd(s:zu)(k:Int):zu×List zl×Int:=
 if zal s≠0 then (zP,[],zal s) else if (zfe s.ready k).2.2≠0 then (zP,[],(zfe s.ready k).2.2) else ({ s with ready:=(zfe s.ready k).1 },(zfe s.ready k).2.1,0)
def zfa(lo hi:Int):List zl->zu->zu×Int
 | [],s=>(s,0)
 | m::l,s=>if (zc7 s (zct m lo hi)).2≠0 then (zP,(zc7 s (zct m lo hi)).2) else zfa lo hi l (zc7 s (zct m lo hi)).1
def zgA(s:zu)(l:List zl):zu×Int:=
 if zal s≠0 then (zP,zal s) else if (s.ready.cells.length:Int) - zbs s<l.length then (zP,3) else zfa s.low s.high l s
def zex(k ep lim:Int):List zl->zat->List zl->zat×List zl
 | [],r,out=>(r,out)
 | m::l,r,out=>if ¬(out.length:Int)<k then (r,out) else if lim<=m.count/\¬m.epoch<ep then zex k ep lim l (rmD r m.id).1 (out++[m]) else zex k ep lim l r out
def zf9(s:zu)(k ep lim:Int):zu×List zl×Int:=
 if zal s≠0 then (zP,[],zal s) else if epQ ep=false\/liQ lim=false\/k<0 then (zP,[],1)
 else ({ s with ready:=(zex k ep lim (zI s.ready) s.ready []).1 },(zex k ep lim (zI s.ready) s.ready []).2,0)
def zbQ(lo hi:Int):List zl->zat->zat
 | [],r=>r
 | m::l,r=>if lo<=m.route/\m.route<=hi then zbQ lo hi l (pbD r m).1 else zbQ lo hi l r
def zeA(lo hi:Int):List zN->zT->zT
 | [],t=>t
 | y::l,t=>if lo<=y.msg.route/\y.msg.route<=hi then zeA lo hi l (zaY t y.msg y.deadline).1 else zeA lo hi l t
def zgE(s:zu)(l:List zl)(y:List zN):zu:={ s with ready:=zbQ s.low s.high l s.ready,leases:=zeA s.low s.high y s.leases }
def zd8(s:zu)(mid:Int):zu×zu×Int:=
 if zal s≠0 then (zP,zP,zal s) else if mid<s.low\/s.high<=mid then (zP,zP,1)
 else (zgE (zG s.ready.cells.length s.low mid).1 (zI s.ready) s.leases.l,zgE (zG s.ready.cells.length (mid+1) s.high).1 (zI s.ready) s.leases.l,0)
def ziK(a b:zu):zu×Int:=
 if zaf a≠0 then (zP,zaf a) else if zaf b≠0 then (zP,zaf b)
 else if a.live=false\/b.live=false\/a.high+1≠b.low/\b.high+1≠a.low then (zP,7)
 else if (a.ready.cells.length:Int)<zbs a+zbs b then (zP,3)
 else if ((za9 b).any fun m=>decide (0<=zaV (za9 a) m.id))=true then (zP,10)
 else (zgE { a with low:=if a.low<b.low then a.low else b.low,high:=if a.high<b.high then b.high else a.high } (zI b.ready) b.leases.l,0)
abbrev Stp:=zy×zq×List Event×Int
def zaT(e:Int):Stp:=(zF,zD,[],e)
structure Tok where
 route:Int->Int
 enc:zbk->List UInt8×Int
 par:List UInt8->zbk×Int
def sh0(t:zq):zu:=t.sec.shards.getD 0 zP
def zdX(K:Tok)(t0:zq):zq×List Event:=
 let s:=sh0 t0
 let t:zq:={ t0 with loaded:=0 }
 let o:=zaa t.sec
 if zeS s t.walk.next=false then (zaU t o,[])
 else if zbs s=s.ready.cells.length then
  (let t2:zq:={ t with walk:=(zf2 t.walk s.low s.high).1 }
   if zg1 t2.walk=false then (zaU t2 o,[])
   else (zaU { t2 with loaded:=2 } o,[{ zb0 t 2 with err:=3,l:=[⟨t.id,0,0,0⟩] }]))
 else
  let m:=(zm3 t.id (zkz (K.route t.id) s.low s.high) t.sec.snap.epoch t.sec.snap.clock (t.inv.bodies.getD t.entry.toNat [])).1
  (zaU { t with loaded:=1 } { o with shards:=[(zc7 s m).1],order:=[0] },[{ zb0 t 2 with l:=[⟨t.id,0,m.route,0⟩] }])
def zcY(K:Tok)(a:zy)(t:zq)(n:Int):Stp:=
 if z8 t 1 1≠0 then zaT (z8 t 1 1)
 else if t.pc=0 then (if a.nextID=1073741824 then (a,za4 { t with loaded:=a.nextID } (za8 6) n,[{ evT t 2 n with err:=6 }],0) else (a,{ t with loaded:=a.nextID,pc:=1 },[],0))
 else if t.pc=1 then
  (let c:=casWord a 3 t.loaded (t.loaded+1)
   if c.2.2≠0 then zaT c.2.2 else (c.1,if c.2.1=true then { t with id:=t.loaded,pc:=2,walk:=(zg0 (K.route t.loaded)).1 } else { t with pc:=0 },[],0))
 else if t.pc=2 then (a,zhq a t t.walk.next 3,[],0)
 else
  let g:=goT a t n
  if g.2.2.2.2≠0 then zaT g.2.2.2.2
  else if g.2.2.1=true then (g.1,(zdX K g.2.1).1,(zdX K g.2.1).2,0)
  else if g.2.2.2.1=false then (g.1,g.2.1,[],0)
  else if g.2.1.loaded=1 then (g.1,za4 g.2.1 { zam with id:=g.2.1.id } n,[],0)
  else if g.2.1.loaded=2 then (g.1,za4 g.2.1 (za8 3) n,[],0)
  else (g.1,{ g.2.1 with pc:=2 },[],0)
def zdy(d:zaM)(h:Int):Int:=if 0<=zky d h then zky d h else zeR d 0
def zdL(t:zq):zu×List Int×List zN:=
 let e:=zc2 (sh0 t) t.sec.snap.clock t.sec.snap.epoch t.setup.limit
 let k:=zda e.1 t.inv.max t.sec.snap.clock t.inv.visibility t.sec.snap.epoch t.setup.limit
 (k.1,e.2.1,k.2.1)
def ziA(K:Tok)(t:zq):Result:=
 { zam with tokens:=(zdL t).2.2.map fun y=>(K.enc ⟨y.msg.id,y.msg.gen,y.msg.route,t.slot⟩).1,bodies:=(zdL t).2.2.map fun y=>y.msg.body }
def zeG(y:zN):Grant:=⟨y.msg.id,y.msg.gen,y.msg.route,y.deadline⟩
def zdU(t0:zq):zq×List Event:=
 let s:=sh0 t0
 let t:zq:={ t0 with loaded:=0 }
 let o:=zaa t.sec
 if zeS s t.walk.next=false then (zaU t o,[])
 else if 1073741824<t.sec.snap.clock+t.inv.visibility then (zaU { t with loaded:=3 } o,[{ zb0 t 3 with err:=6 }])
 else
  let r:=zdL t
  let ev1:List Event:=if 0<r.2.1.length then [{ zb0 t 10 with l:=r.2.1.map fun i=>⟨i,0,0,0⟩ }] else []
  let o2:zcz:=if 0<r.2.1.length\/0<r.2.2.length then { o with shards:=[r.1],order:=[0] } else o
  let t2:zq:={ t with walk:=(zf2 t.walk s.low s.high).1 }
  if 0<r.2.2.length then (zaU { t2 with loaded:=1 } o2,ev1++[{ zb0 t 3 with l:=r.2.2.map zeG }])
  else if zg1 t2.walk=true then (zaU { t2 with loaded:=2 } o2,ev1++[zb0 t 3]) else (zaU t2 o2,ev1)
def zcU(K:Tok)(a:zy)(t:zq)(n:Int):Stp:=
 if z8 t 2 2≠0 then zaT (z8 t 2 2)
 else if t.pc=0 then (a,zaO { t with dir:=a.dir,slot:=zdy a.dir t.inv.home,walk:=(zg0 (zlr a.dir (zdy a.dir t.inv.home)).1.low).1 } [zdy a.dir t.inv.home] 1,[],0)
 else if t.pc=2 then (a,zhq a t t.walk.next 1,[],0)
 else
  let g:=goT a t n
  if g.2.2.2.2≠0 then zaT g.2.2.2.2
  else if g.2.2.1=true then (g.1,(zdU g.2.1).1,(zdU g.2.1).2,0)
  else if g.2.2.2.1=false then (g.1,g.2.1,[],0)
  else if g.2.1.loaded=3 then (g.1,za4 g.2.1 (za8 6) n,[],0)
  else if g.2.1.loaded=2 then (g.1,za4 g.2.1 zam n,[],0)
  else if g.2.1.loaded=1 then (g.1,za4 g.2.1 (ziA K g.2.1) n,[],0)
  else (g.1,{ g.2.1 with pc:=2 },[],0)
def zi5(op:Int):Int:=if op=3 then 4 else if op=4 then 5 else 6
def zdZ(t:zq):zu×Int:=
 if t.inv.kind=3 then zdr (sh0 t) t.handle t.sec.snap.clock t.sec.snap.epoch
 else if t.inv.kind=4 then zdh (sh0 t) t.handle t.sec.snap.clock t.sec.snap.epoch t.setup.limit
 else zfr (sh0 t) t.handle t.sec.snap.clock t.sec.snap.epoch t.inv.visibility
def zdY(t:zq):zq×List Event:=
 let o:=zaa t.sec
 if zeS (sh0 t) t.handle.route=false then (zaU t o,[])
 else
  let x:=zdZ t
  let g:Grant:=⟨t.handle.id,t.handle.gen,t.handle.route,if x.2=0/\t.inv.kind=5 then t.sec.snap.clock+t.inv.visibility else 0⟩
  (zaU t (if x.2=0 then { o with shards:=[x.1],order:=[0] } else o),[{ zb0 t (zi5 t.inv.kind) with err:=x.2,l:=[g] }])
def zbS(K:Tok)(a:zy)(t:zq)(n:Int):Stp:=
 if z8 t 3 5≠0 then zaT (z8 t 3 5)
 else if t.pc=0 then
  (let h:=K.par (t.inv.tokens.getD t.entry.toNat [])
   if h.2≠0 then (a,za4 t (za8 5) n,[{ evT t (zi5 t.inv.kind) n with err:=5 }],0)
   else (a,if h.1.hint<t.setup.slots then zaO { t with handle:=h.1,pc:=1 } [h.1.hint] 2 else { t with handle:=h.1,pc:=1 },[],0))
 else if t.pc=1 then (a,zhq a t t.handle.route 2,[],0)
 else
  let g:=goT a t n
  if g.2.2.2.2≠0 then zaT g.2.2.2.2
  else if g.2.2.1=true then (g.1,(zdY g.2.1).1,(zdY g.2.1).2,0)
  else if g.2.2.2.1=false then (g.1,g.2.1,[],0)
  else if zeS (sh0 g.2.1) g.2.1.handle.route=false then (g.1,{ g.2.1 with pc:=1 },[],0)
  else (g.1,za4 g.2.1 { zam with err:=(zdZ g.2.1).2,id:=if (zdZ g.2.1).2=0 then g.2.1.handle.id else 0 } n,[],0)
def zim(a b:Int):Int:=if a<b then a else b
def zgy(t:zq):Int:=zim t.inv.max ((sh0 t).ready.cells.length - zbs (sh0 t))
def zdV(t:zq):zq×List Event:=
 let s:=sh0 t
 let o:=zaa t.sec
 if s.live=false then (zaU t o,[])
 else if zgy t=0 then (zaU t o,[{ zb0 t 9 with err:=3 }])
 else
  let d:=zhJ t.sec.dead (zgy t) t.sec.snap.epoch
  if d.2.1.length=0 then (zaU t o,[zb0 t 9])
  else (zaU t { o with carry:=d.2.1.map zbR,shards:=[(zgA s (d.2.1.map zbR)).1],dead:=d.1,order:=[1,0] },[{ zb0 t 9 with l:=d.2.1.map fun m=>⟨m.id,m.gen,(zct (zbR m) s.low s.high).route,0⟩ }])
def zcV(a:zy)(t:zq)(n:Int):Stp:=
 if z8 t 8 8≠0 then zaT (z8 t 8 8)
 else if t.pc=0 then (a,zaO { t with dir:=a.dir,slot:=zdy a.dir t.inv.home } [zdy a.dir t.inv.home,t.setup.slots] 1,[],0)
 else
  let g:=goT a t n
  if g.2.2.2.2≠0 then zaT g.2.2.2.2
  else if g.2.2.1=true then (g.1,(zdV g.2.1).1,(zdV g.2.1).2,0)
  else if g.2.2.2.1=false then (g.1,g.2.1,[],0)
  else if (sh0 g.2.1).live=false then (g.1,{ g.2.1 with pc:=0 },[],0)
  else (g.1,za4 g.2.1 { zam with moved:=g.2.1.sec.out.carry.length,err:=if zgy g.2.1=0 then 3 else 0 } n,[],0)
abbrev Pln:=zcz×Result×List Event
def z7(plan:zq->Pln)(lo hi:Int)(cells:zq->List Int)(a:zy)(t0:zq)(n:Int):Stp:=
 if z8 t0 lo hi≠0 then zaT (z8 t0 lo hi)
 else
  let t:=if t0.pc=0 then zaO t0 (cells t0) 1 else t0
  let g:=goT a t n
  if g.2.2.2.2≠0 then zaT g.2.2.2.2
  else if g.2.2.1=true then (g.1,zaU g.2.1 (plan g.2.1).1,(plan g.2.1).2.2,0)
  else if g.2.2.2.1=false then (g.1,g.2.1,[],0)
  else (g.1,za4 g.2.1 (plan g.2.1).2.1 n,[],0)
def zdi(t:zq):List Int:=if t.inv.from_<t.inv.to then [0,1] else [1,0]
def zab(t:zq):zu:=if t.inv.from_<t.inv.to then t.sec.shards.getD 0 zP else t.sec.shards.getD 1 zP
def za6(t:zq):zu:=if t.inv.from_<t.inv.to then t.sec.shards.getD 1 zP else t.sec.shards.getD 0 zP
def zek(t:zq)(x y:zu):List zu:=if t.inv.from_<t.inv.to then [x,y] else [y,x]
def zb2(t:zq):Pln:=
 let o:=zaa t.sec
 if (zab t).live=false\/(za6 t).live=false then (o,za8 7,[])
 else
  let k:=zim (((zab t).ready.size+1).tdiv 2) ((za6 t).ready.cells.length - zbs (za6 t))
  if k=0 then (o,zam,[])
  else
   let d:=zgd (zab t) k
   ({ o with shards:=zek t d.1 (zgA (za6 t) d.2.1).1,order:=zdi t,carry:=d.2.1 },{ zam with moved:=k },[])
def zb1(t:zq):Pln:=
 let o:=zaa t.sec
 let s:=zab t
 if s.live=false\/(za6 t).live=true\/s.high<=s.low then (o,za8 7,[])
 else
  let mid:=(s.low+s.high).tdiv 2
  let d:=zd8 s mid
  ({ o with shards:=zek t d.1 d.2.1,order:=zdi t,carry:=za9 d.2.1,edits:=[⟨1,t.inv.from_,t.inv.to,mid⟩] },{ zam with moved:=zbs d.2.1 },[])
def zbX(t:zq):Pln:=
 let o:=zaa t.sec
 let y:=ziK (za6 t) (zab t)
 if y.2≠0 then (o,za8 y.2,[])
 else ({ o with shards:=zek t (zao (zab t).ready.cells.length).1 y.1,order:=zdi t,carry:=za9 (zab t),edits:=[⟨2,t.inv.from_,t.inv.to,0⟩] },{ zam with moved:=zbs (zab t) },[])
def zbx(t:zq):Pln:=
 let o:=zaa t.sec
 if t.sec.shards.length=0 then
  (let d:=zhS t.sec.dead t.sec.snap.epoch
   (if 0<d.2.1 then { o with dead:=d.1,order:=[0] } else o,{ zam with moved:=d.2.1 },[]))
 else
  let s:=sh0 t
  if s.live=false then (o,za8 7,[])
  else if t.inv.kind=13 then
   (let x:=zhT s t.sec.snap.epoch
    (if 0<x.2.1 then { o with shards:=[x.1],order:=[0] } else o,{ zam with moved:=x.2.1 },[]))
  else
   let x:=zc2 s t.sec.snap.clock t.sec.snap.epoch t.setup.limit
   if x.2.1.length=0 then (o,zam,[])
   else ({ o with shards:=[x.1],order:=[0] },{ zam with moved:=x.2.1.length },[{ zb0 t 10 with l:=x.2.1.map fun i=>⟨i,0,0,0⟩ }])
def zbT(t:zq):Pln:=
 let o:=zaa t.sec
 let s:=sh0 t
 if s.live=false then (o,za8 7,[])
 else
  let x:=zf9 s (zgU t.sec.dead) t.sec.snap.epoch t.setup.limit
  if x.2.1.length=0 then (o,zam,[])
  else ({ o with shards:=[x.1],dead:=(zjx t.sec.dead x.2.1).1,order:=[0,1],carry:=x.2.1 },{ zam with moved:=x.2.1.length },[])
def za7(t:zq):List Int:=zaN t.inv.from_ t.inv.to
def zcn(K:Tok)(a:zy)(t:zq)(n:Int):Stp:=
 if t.done=true then zaT 7
 else if t.inv.kind=1 then zcY K a t n else if t.inv.kind=2 then zcU K a t n else if 3<=t.inv.kind/\t.inv.kind<=5 then zbS K a t n
 else if t.inv.kind=6 then zb9 a t n else if t.inv.kind=7 then zcS a t n else if t.inv.kind=8 then zcV a t n
 else if t.inv.kind=9 then z7 zb2 9 9 za7 a t n else if t.inv.kind=10 then z7 zb1 10 10 za7 a t n else if t.inv.kind=11 then z7 zbX 11 11 za7 a t n
 else if t.inv.kind=12\/t.inv.kind=13 then z7 zbx 12 13 (fun t=>[t.inv.from_]) a t n else if t.inv.kind=14 then z7 zbT 14 14 (fun t=>[t.inv.from_,t.setup.slots]) a t n
 else zaT 9
def zR(s:Setup):zy×Int:=
 if zJ s=false then (zF,1)
 else
  let d:=(zcr s.slots s.live).1
  ({ zF with dir:=d,epoch:=s.epoch,clock:=s.clock,nextID:=s.nextID,dead:=⟨0,⟨s.dead,[]⟩⟩,slots:=(List.range s.slots.toNat).map (fun i:Nat=>(⟨0,if (i:Int)<s.live then (zG s.capacity (d.l.getD i ze6).low (d.l.getD i ze6).high).1 else (zao s.capacity).1⟩:zhN)),stripes:=List.replicate s.slots.toNat ⟨0,s.epoch,0,0⟩ },0)
def zbA(w:World):List Nat:=(List.range w.tasks.length).filter fun i=> !(w.tasks.getD i zD).done
def zdg(w:World)(i:Invocation):World×Int×Int:=
 if 200<=w.tasks.length\/8<=(zbA w).length then (zbv,0,3)
 else if (ze1 (w.tasks.length+1) i w.setup w.steps).2≠0 then (zbv,0,(ze1 (w.tasks.length+1) i w.setup w.steps).2)
 else ({ w with tasks:=w.tasks++[(ze1 (w.tasks.length+1) i w.setup w.steps).1] },w.tasks.length+1,0)
def zdl(K:Tok)(w:World)(i:Nat):World×Int:=
 let t:=w.tasks.getD i zD
 let r:=zcn K w.arena t (w.steps+1)
 if r.2.2.2≠0 then (zbv,r.2.2.2)
 else ({ w with steps:=w.steps+1,arena:=r.1,tasks:=w.tasks.set i r.2.1,log:=w.log++r.2.2.1,handles:=w.handles++((r.2.1.results.drop t.results.length).map fun x=>x.tokens).flatten },0)
def zdD(K:Tok)(w:World)(k:Int):World×Int:=
 if k<0\/((zbA w).length:Int)<=k then (zbv,4) else zdl K w ((zbA w).getD k.toNat 0)
def zep(w:World)(by_:Int):World×Int:=
 if (ze3 w.arena by_).2≠0 then (zbv,(ze3 w.arena by_).2)
 else ({ w with steps:=w.steps+1,arena:=(ze3 w.arena by_).1,log:=w.log++[{ zbt with stamp:=w.steps+1,kind:=1,now:=(ze3 w.arena by_).1.clock }] },0)
def zgt(a b:Int):Int:=if a<b then a else b
def zbH(a b:Int):Int:=if a<b then b else a
def zfo(K:Tok)(r:Ref)(hs:List (List UInt8)):List UInt8:=
 if r.variant=7\/hs.length=0 then r.raw
 else
  let b:=hs.getD ((zbH r.index 0).tmod hs.length).toNat []
  let h:=K.par b
  if h.2≠0 then b
  else if r.variant=5 then b.set (b.length - 1) (b.getD (b.length - 1) 0 ^^^ 1)
  else if r.variant=2\/r.variant=3\/r.variant=4 then
   (let h2:zbk:=if r.variant=2 then { h.1 with gen:=h.1.gen+1 } else if r.variant=3 then { h.1 with gen:=h.1.gen - 1 } else { h.1 with route:=(h.1.route+1).tmod 65536 }
    if (K.enc h2).2≠0 then b else (K.enc h2).1)
  else b
def ziv(K:Tok)(k:Int):Nat->World->World×Int
 | 0,w=>(w,0)
 | n+1,w=>if (zbA w).length=0 then (w,0) else if (zdD K w ((zbH k 0).tmod (zbA w).length)).2≠0 then (zbv,(zdD K w ((zbH k 0).tmod (zbA w).length)).2) else ziv K k n (zdD K w ((zbH k 0).tmod (zbA w).length)).1
def doW(K:Tok)(w:World)(c:Command):World×Int:=
 let by_:=zbH 0 (zgt c.by_ 255)
 if c.kind=1 then ziv K c.pick by_.toNat w
 else if c.kind=2 then (if (zep w by_).2=0 then ((zep w by_).1,0) else (w,0))
 else if c.kind=3 then
  (let v:Invocation:=if 0<c.refs.length then { c.inv with tokens:=c.refs.map fun r=>zfo K r w.handles } else c.inv
   if (zdg w v).2.2=0 then ((zdg w v).1,0) else (w,0))
 else (w,0)
def zeV(K:Tok):List Command->World->World×Int
 | [],w=>(w,0)
 | c::l,w=>if (doW K w c).2≠0 then (zbv,(doW K w c).2) else zeV K l (doW K w c).1
def zgW(K:Tok)(s:Setup)(l:List Command):World×Int:=
 if (zR s).2≠0 then (zbv,(zR s).2) else if 400<l.length then (zbv,2) else zeV K l { zbv with setup:=s,arena:=(zR s).1 }
theorem zdz(n lo hi:Int):zg G zpE [.d (.int .i64 n),.d (.int .i64 lo),.d (.int .i64 hi)] []=some (.d (.bool (inI n lo hi)),[]):=by
 unfold inI;rw[zO zXO (by simp)];simp -implicitDefEqProofs (maxSteps:=4000000) (disch:=omega) only[zu0,zCv,zj,go_sem, *];(try simp only[zPr]);repeat' (first|done|rfl|((first|refine zay (fun hq=> ?_) (fun hq=> ?_)|refine zaD (fun hq=> ?_) (fun hq=> ?_))<;>(try (first|(exfalso;omega)|contradiction))<;>(try simp -implicitDefEqProofs (maxSteps:=4000000) (disch:=omega) only[zj,go_sem, *])<;>(try simp only[zPr])));(all_goals try rfl);(all_goals try (repeat' (first|done|rfl|(exfalso;omega)|contradiction|(refine zaz (fun hq=> ?_) (fun hq=> ?_)))))
 simp only[zaff]
theorem zC0(a:zy)(i:Int)(hL:a.slots.length<=1000):zg G zpG [.d (zi a),.d (.int .i64 i)] []=some (.d (.bool (zfn a i)),[]):=by
 unfold zfn;simp only[zi];rw[zO zXP (by simp)];simp -implicitDefEqProofs (maxSteps:=4000000) (disch:=omega) only[zu1,zCw,zj,go_sem, *];(try simp only[zPr]);repeat' (first|done|rfl|((first|refine zay (fun hq=> ?_) (fun hq=> ?_)|refine zaD (fun hq=> ?_) (fun hq=> ?_))<;>(try (first|(exfalso;omega)|contradiction))<;>(try simp -implicitDefEqProofs (maxSteps:=4000000) (disch:=omega) only[zj,go_sem, *])<;>(try simp only[zPr])));(all_goals try rfl);(all_goals try (repeat' (first|done|rfl|(exfalso;omega)|contradiction|(refine zaz (fun hq=> ?_) (fun hq=> ?_)))))
 simp only[zaff]
theorem znG{a:zy}{i:Int}(h:zfn a i=true):0<=i/\i<a.slots.length:=of_decide_eq_true h
theorem zZM(a:zy)(i:Int)(hL:a.slots.length<=1000):zg G zpv [.d (zi a),.d (.int .i64 i)] []=some (.d (.tup [zk (zho a i).1,.int .i64 (zho a i).2]),[]):=by
 have h:=zC0 a i hL;unfold zho
 cases c:zfn a i with
 | true=>
  have hq:=znG c;rw[c] at h;simp only[zi,zk,if_true] at *;rw[zO zIB (by simp)];simp -implicitDefEqProofs (maxSteps:=4000000) (disch:=omega) only[zuX,zCs,zbE,zj,go_sem, *]
 | false=>
  rw[c] at h;simp only[zi,zk,zP,zaP,zax,zacZ,zac8,if_false] at *;exact zW zIB
theorem zBe(a:zy)(i:Int)(hL:a.slots.length<=1000)(hs:a.stripes.length=a.slots.length):zg G zpw [.d (zi a),.d (.int .i64 i)] []=some (.d (.tup [zae (zeJ a i).1,.int .i64 (zeJ a i).2]),[]):=by
 have h:=zC0 a i hL;unfold zeJ
 cases c:zfn a i with
 | true=>
  have hq:=znG c;rw[c] at h;simp only[zi,if_true] at *;exact zW zIC
 | false=>
  rw[c] at h;simp only[zi,zae,zco,zacZ,zac8,if_false] at *;exact zW zIC
theorem zQY(a:zy)(i k:Int)(hL:a.slots.length<=1000):zg G zpH [.d (zi a),.d (.int .i64 i),.d (.int .i64 k)] []=some (.d (.int .i64 (ze2 a i k)),[]):=by
 have h:=zC0 a i hL;have ht:=ztV k;unfold ze2
 cases c:zfn a i with
 | true=>
  have hq:=znG c;rw[c] at h;generalize zgY k=tb at *
  cases tb
  ·simp only[zi,zaeT,if_true] at *;exact zW zzN
  ·simp only[zi,zadA,zaec,if_false] at *;rw[zO zzN (by simp)];simp -implicitDefEqProofs (maxSteps:=4000000) (disch:=omega) only[zu2,zCx,zbE,zj,go_sem, *];(try simp only[zPr]);repeat' (first|done|rfl|((first|refine zay (fun hq=> ?_) (fun hq=> ?_)|refine zaD (fun hq=> ?_) (fun hq=> ?_))<;>(try (first|(exfalso;omega)|contradiction))<;>(try simp -implicitDefEqProofs (maxSteps:=4000000) (disch:=omega) only[zbE,zj,go_sem, *])<;>(try simp only[zPr])));(all_goals try rfl);(all_goals try (repeat' (first|done|rfl|(exfalso;omega)|contradiction|(refine zaz (fun hq=> ?_) (fun hq=> ?_)))))
 | false=>
  rw[c] at h;simp only[zi,zaeK,if_true] at *;exact zW zzN
theorem zZL(a:zy):zg G zpt [.d (zi a)] []=some (.d (zX a.dead.dead),[]):=by
 simp only[zi,zX];exact zW zXK
theorem zsS(a:zy):zg G zpu [.d (zi a)] []=some (.d (zU a.dir),[]):=by
 simp only[zi,zU];exact zW zXL
theorem zkJ(a:zy)(w:Int):zg G zps [.d (zi a),.d (.int .i64 w)] []=some (.d (.tup [.int .i64 (zgL a w).1,.int .i64 (zgL a w).2]),[]):=by
 unfold zgL;simp only[zi];exact zW zXJ
theorem zGR(a:zy)(w old next:Int):zg G zpq [.d (zi a),.d (.int .i64 w),.d (.int .i64 old),.d (.int .i64 next)] []=some (.d (.tup [zi (casWord a w old next).1,.bool (casWord a w old next).2.1,.int .i64 (casWord a w old next).2.2]),[]):=by
 have hl:=zkJ a w;have h1:=zdz next 0 65536
 have h2:=zdz next 1 1073741824
 unfold casWord;unfold inI at h1 h2;generalize zgL a w=v at *;obtain⟨v1,v2⟩:=v
 by_cases c1:w≠1/\w≠3
 ·rw[zacY c1];simp only[zi,zF,zacZ] at *;exact zW zjc
 rw[zacX c1]
 by_cases c2:w=1/\¬(0<=next/\next<=65536)\/w=3/\¬(1<=next/\next<=1073741824)
 ·rw[zacY c2];simp only[zi,zF,zacZ] at *
  rcases c2 with ⟨d1,d2⟩|⟨d1,d2⟩
  ·subst d1;rw[zadq d2] at h1;clear c1;exact zW zjc
  ·subst d1;rw[zadq d2] at h2;clear c1;exact zW zjc
 rw[zacX c2]
 by_cases c3:v1≠old
 ·rw[zacY c3];simp only[zi] at *
  by_cases d1:w=1
  ·subst d1;rw[zadn zo] at h1;clear c1 c2;exact zW zjc
  ·have d2:w=3:=by omega
   subst d2;rw[zadn zo] at h2;clear c1 c2;exact zW zjc
 rw[zacX c3];have c3:v1=old:=by omega
 subst c3;simp only[zi] at *
 by_cases d1:w=1
 ·subst d1;rw[zadn zo] at h1;clear c1 c2;exact zW zjc
 ·have d2:w=3:=by omega
  subst d2;rw[zadn zo] at h2;clear c1 c2;exact zW zjc
theorem zabS(a:zy)(b:Int)(hc:0<=a.clock/\a.clock<=1073741824):zg G zpB [.d (zi a),.d (.int .i64 b)] []=some (.d (.tup [zi (ze3 a b).1,.int .i64 (ze3 a b).2]),[]):=by
 have h1:=zdz b 0 1099511627776;unfold ze3;unfold inI at h1;simp only[zi] at *;rw[zO zXN (by simp)];simp -implicitDefEqProofs (maxSteps:=4000000) (disch:=omega) only[zuZ,zCu,zF,zaW,zj,go_sem, *];(try simp only[zPr]);repeat' (first|done|rfl|((first|refine zay (fun hq=> ?_) (fun hq=> ?_)|refine zaD (fun hq=> ?_) (fun hq=> ?_))<;>(try (first|(exfalso;omega)|contradiction))<;>(try simp -implicitDefEqProofs (maxSteps:=4000000) (disch:=omega) only[zF,zaW,zj,go_sem, *])<;>(try simp only[zPr])));(all_goals try rfl);(all_goals try (repeat' (first|done|rfl|(exfalso;omega)|contradiction|(refine zaz (fun hq=> ?_) (fun hq=> ?_)))))
theorem zQW(a:zy)(i k:Int)(s:zbl)(hL:a.slots.length<=1000)(hs:a.stripes.length=a.slots.length):zg G zpA [.d (zi a),.d (.int .i64 i),.d (.int .i64 k),.d (zae s)] []=some (.d (.tup [zi (stStripe a i k s).1,.int .i64 (stStripe a i k s).2]),[]):=by
 have h:=zQY a i k hL;have e1:=zdz s.seq 0 1099511627776;have e2:=zdz s.epoch 0 1099511627776;have e3:=zdz s.ready 0 1099511627776;have e4:=zdz s.leased 0 1099511627776;unfold stStripe
 by_cases c:ze2 a i k=0
 ·have hq:0<=i/\i<a.slots.length:=by
     unfold ze2 at c
     split at c
     ·cases c
     ·rename_i q;exact znG (by simpa using fun z=>q (.inl z))
  rw[c] at h;rw[zacX (fun z=>z c)];have hne:¬a.stripes.length=0:=by omega
  have hsq:znL s=(inI s.seq 0 1099511627776&&(inI s.epoch 0 1099511627776&&(inI s.ready 0 1099511627776&&inI s.leased 0 1099511627776))):=by
   unfold znL zck inI;simp only[zaff]
  rw[hsq];clear hsq c;generalize inI s.seq 0 1099511627776=b1 at *;generalize inI s.epoch 0 1099511627776=b2 at *;generalize inI s.ready 0 1099511627776=b3 at *;generalize inI s.leased 0 1099511627776=b4 at *
  cases b1
  ·simp only[zadO,if_true,zi,zae,zF,zacZ] at *;exact zW zkt
  cases b2
  ·simp only[zadO,zael,if_true,zi,zae,zF,zacZ] at *;exact zW zkt
  cases b3
  ·simp only[zadO,zael,if_true,zi,zae,zF,zacZ] at *;exact zW zkt
  cases b4
  ·simp only[zael,if_true,zi,zae,zF,zacZ] at *;exact zW zkt
  ·simp only[zaei,zadA,if_false,zi,zae] at *;exact zW zkt
 ·rw[zacY c];generalize ze2 a i k=v at *;simp only[zi,zF,zae] at *;exact zW zkt
theorem zaa0(a:zy)(s:ziP)(n:Int):zg G zpM [.d (zi a),.d (zec s),.d (.int .i64 n)] []=some (.d (.tup [zec (zdI a s n).1,.int .i64 (zdI a s n).2]),[]):=by
 have h1:=zkJ a 1;have h2:=zkJ a 2;simp only[zgL,if_true,Int.reduceEq,if_false] at h1 h2;unfold zdI;generalize a.epoch=ep at *;generalize a.clock=ck at *;simp only[zec] at *;rw[zO zXS (by simp)];simp -implicitDefEqProofs (maxSteps:=4000000) (disch:=omega) only[zu3,zCy,zd3,zj,go_sem, *];(try simp only[zPr]);repeat' (first|done|rfl|((first|refine zay (fun hq=> ?_) (fun hq=> ?_)|refine zaD (fun hq=> ?_) (fun hq=> ?_))<;>(try (first|(exfalso;omega)|contradiction))<;>(try simp -implicitDefEqProofs (maxSteps:=4000000) (disch:=omega) only[zd3,zj,go_sem, *])<;>(try simp only[zPr])));(all_goals try rfl);(all_goals try (repeat' (first|done|rfl|(exfalso;omega)|contradiction|(refine zaz (fun hq=> ?_) (fun hq=> ?_)))))
theorem zaaj(cells:List Int)(lim:Int)(hL:cells.length<=1000):zg G zpN [.d (.sl (zB cells)),.d (.int .i64 lim)] []=some (.d (.tup [zC (zdW cells lim).1,.int .i64 (zdW cells lim).2]),[]):=by
 have h:=zZB cells zo;unfold zdW;generalize zhp cells=r at *;obtain⟨l,e⟩:=r;simp only[zcd] at *
 by_cases c:e=0
 ·subst c;rw[zO zIF (by simp)];simp -implicitDefEqProofs (maxSteps:=4000000) (disch:=omega) only[zq3,ztp,zC,zbu,zj,go_sem, *];(try simp only[zPr]);repeat' (first|done|rfl|((first|refine zay (fun hq=> ?_) (fun hq=> ?_)|refine zaD (fun hq=> ?_) (fun hq=> ?_))<;>(try (first|(exfalso;omega)|contradiction))<;>(try simp -implicitDefEqProofs (maxSteps:=4000000) (disch:=omega) only[zC,zbu,zj,go_sem, *])<;>(try simp only[zPr])));(all_goals try rfl);(all_goals try (repeat' (first|done|rfl|(exfalso;omega)|contradiction|(refine zaz (fun hq=> ?_) (fun hq=> ?_)))))
 ·rw[zacY c];rw[zO zIF (by simp)];simp -implicitDefEqProofs (maxSteps:=4000000) (disch:=omega) only[zq3,ztp,zC,zbu,zj,go_sem, *]
theorem zfw(s:Section)(ph:Int):zg G zpS [.d (zC s),.d (.int .i64 ph)] []=some (.d (zC (zah s ph)),[]):=by
 simp only[zC,zah];exact zW zXU
theorem zH0(s:Section):zg G zpT [.d (zC s)] []=some (.d (.tup [zC (zdd s).1,.int .i64 (zdd s).2]),[]):=by
 have h:=zZz s.lock;have he:=zfw { s with lock:=(zcv s.lock).1 } 8;unfold zdd;generalize zcv s.lock=r at *;obtain⟨l,e⟩:=r;unfold zah at *;simp only[zC,zcd] at *;exact zW zXV
theorem zt3(a:zy)(s:Section):zg G zp0 [.d (zi a),.d (zC s)] []=some (.d (.tup [zi (zcM a s).1,zC (zcM a s).2.1,.int .i64 (zcM a s).2.2]),[]):=by
 have h:=zH0 s;have he:=zfw s 7;unfold zcM;generalize zdd s=r at *;obtain⟨s2,e⟩:=r;generalize zah s 7=s3 at *
 by_cases c:0<s.stripes.length
 ·rw[zacY c];have sz_s3:=zeb s3;generalize zC s3=D_s3 at *;simp only[zC] at *;exact zW zII
 ·rw[zacX c];simp only;have sz_s2:=zeb s2;generalize zC s2=D_s2 at *;simp only[zC] at *;exact zW zII
theorem zhK(s:Section):zg G zpQ [.d (zC s)] []=some (.agg [.d (.sl (s.shards.map zk)),.d (.int .i64 s.dead.cap),.d (.sl (s.dead.l.map zn)),.xsl [],.xsl [],.xsl []],[]):=by
 simp only[zC];exact zW zXT
end Go.Proofs.YtdnlddoeamjcoaaGreat
