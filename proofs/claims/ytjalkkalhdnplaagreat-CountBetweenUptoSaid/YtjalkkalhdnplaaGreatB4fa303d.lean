/-
  What a step of a task adds to its results.
-/
import Derived.Test.YtjalkkalhdnplaaGreatB907f86f
import Derived.Test.YtjalkkalhdnplaaGreatBece1cc5
import Derived.Test.YtjalkkalhdnplaaGreatBae8e4d4
import Derived.Test.YtjalkkalhdnplaaGreatB2c1e682
set_option linter.unusedSimpArgs false
set_option linter.unusedVariables false
set_option maxHeartbeats 10000000
set_option maxRecDepth 100000
namespace Go.Proofs.YtjalkkalhdnplaaGreat
open Go Go.Sim
theorem zAi(k:Int):zh G 165 [.d (.int .i64 k)] []=some (.d (.int .i64 (ziR k)),[]):=by
 unfold ziR;exact zW
theorem zB9{t:zi}(hk:t.sec.shards.length=1)(hb:zbc t.sec.shards[0]):zh G 168 [.d (zd t)] []=some (.d (.tup [zj (zdq t).1,.int .i64 (zdq t).2]),[]):=by
 unfold zdq;rw[zdN hk]
 by_cases c1:t.inv.kind=3
 ·rw[zWz c1];have h:=zDq t.sec.shards[0] t.handle t.sec.snap.clock t.sec.snap.epoch hb;generalize zcY t.sec.shards[0] t.handle t.sec.snap.clock t.sec.snap.epoch=x at *;obtain⟨x1,x2⟩:=x;replace c1:=zWN c1;simp only at *;have sz_x1:=zbA x1;generalize zj x1=D_x1 at *;simp only[zd,zaz] at *;exact zW
 rw[zWy c1]
 by_cases c2:t.inv.kind=4
 ·rw[zWz c2];have h:=zO0 t.sec.shards[0] t.handle t.sec.snap.clock t.sec.snap.epoch t.setup.limit hb;generalize zcS t.sec.shards[0] t.handle t.sec.snap.clock t.sec.snap.epoch t.setup.limit=x at *;obtain⟨x1,x2⟩:=x;replace c1:=zWE c1;replace c2:=zWN c2;simp only at *;have sz_x1:=zbA x1;generalize zj x1=D_x1 at *;simp only[zd,zaz] at *;exact zW
 ·rw[zWy c2];have h:=zEF t.sec.shards[0] t.handle t.sec.snap.clock t.sec.snap.epoch t.inv.visibility hb;generalize zeM t.sec.shards[0] t.handle t.sec.snap.clock t.sec.snap.epoch t.inv.visibility=x at *;obtain⟨x1,x2⟩:=x;replace c1:=zWE c1;replace c2:=zWE c2;simp only at *;have sz_x1:=zbA x1;generalize zj x1=D_x1 at *;simp only[zd,zaz] at *;exact zW
theorem zCW{i:zaS}{u:Setup}(h:zb4 i u=0)(hk:i.kind=2\/i.kind=5):0<=i.visibility/\i.visibility<=1000:=by
 unfold zb4 inI at h;rw[zWy zo] at h
 rcases hk with hk|hk
 ·rw[zWz (.inl hk)] at h
  split at h
  ·cases h
  ·rename_i c;have c2:=fun q=>c (.inr (.inr ⟨hk,q⟩));simp only[decide_eq_false_iff_not] at c2;exact zWO.1 c2
 ·rw[zWy zo,zWz zo] at h
  split at h
  ·cases h
  ·split at h
   ·cases h
   ·rename_i _ c;have c2:=fun q=>c ⟨hk,q⟩;simp only[decide_eq_false_iff_not] at c2;exact zWO.1 c2
theorem zT4{u:Setup}{N:Int}{t:zi}(hs:SI u N t.sec)(hk:t.sec.shards.length=1)(hiv:zb4 t.inv u=0):zh G 166 [.d (zd t)] []=some (.d (.tup [zd (zda t).1,.sl ((zda t).2.map zad)]),[]):=by
 have hb:zbc t.sec.shards[0]:=zdN hk ▸ zmG hs;have hu:=zhE t.sec;have ho:=zoJ t.sec.shards[0] t.handle.route hb;have hst:=zB9 hk hb;have hl12:(zdq t).2=0->zaK (zdq t).1:=fun q=>zq1 q;have hki:=zAi t.inv.kind;have hsn:=zkV t (ziR t.inv.kind);have hvs:=zCW (i:=t.inv) hiv;have hcl:=hs.sn.2;unfold zda;simp only;rw[zdN hk]
 by_cases c0:ze2 t.sec.shards[0] t.handle.route=false
 ·rw[zWz c0];rw[c0] at ho;have hd:=zcP (t:=t) hs hs.un;generalize za8 t (zU t.sec)=t2 at *;have sz_t2:=zE t2;generalize zd t2=D_t2 at *;clear hs hl12 hb c0 hst hki hsn hiv hvs hcl;simp only[zd,zr,zY,zU,zWA,zt] at *;exact zW
 rw[zWy c0];replace c0:ze2 t.sec.shards[0] t.handle.route=true:=by simpa using c0
 rw[c0] at ho;generalize ziR t.inv.kind=ek at *;generalize zdq t=x at *;obtain⟨x1,x2⟩:=x;simp only at *
 by_cases c1:x2=0
 ·subst c1;have hl:=hl12 rfl;simp only[zXS,if_true];have hd:=zcP (t:=t) hs (hs.one hk hl);generalize za8 t { zU t.sec with shards:=[x1],order:=[0] }=t2 at *;have sz_t2:=zE t2;generalize zd t2=D_t2 at *
  by_cases c2:t.inv.kind=5
  ·rw[zWz c2];have hv:=hvs (.inr c2);replace c2:=zWN c2;clear hs hl12 hb c0 hiv hvs hl;simp only[zd,zr,zY,zU,zck,ze7,zad,zbT,zbJ,zWA,zWD,zt] at *;exact zW
  ·rw[zWy c2];replace c2:=zWE c2;clear hs hl12 hb c0 hiv hvs hl;simp only[zd,zr,zY,zU,zck,ze7,zad,zbT,zbJ,zWA,zWD,zt] at *;exact zW
 ·rw[zWy c1,zWy (fun q=>c1 q.1)];have hd:=zcP (t:=t) hs hs.un;generalize za8 t (zU t.sec)=t2 at *;have sz_t2:=zE t2;generalize zd t2=D_t2 at *;clear hs hl12 hb c0 hiv hvs;simp only[zd,zr,zY,zU,zck,ze7,zad,zbT,zbJ,zWA,zWD,zt] at *;exact zW
theorem zT7(a:zg)(t:zi)(n:Int)(h:zX t 3 5≠0):zh G 102 [.d (zn a),.d (zd t),.d (.int .i64 n)] []=some (.d (.tup [zn zB,zd zC,.sl [],.int .i64 (zX t 3 5)]),[]):=by
 have hg:=zfj t 3 5;have hf:=zdH (zX t 3 5);generalize zX t 3 5=ge at *;have sz_zTask:=zE zC;generalize zd zC=D_zTask at *;have sz_t:=zE t;generalize zd t=D_t at *;have sz_zArena:=zbj zB;generalize zn zB=D_zArena at *;exact zW
theorem zUa{K:Tok}(hK:zha K){u:Setup}{a:zg}{t:zi}{n N:Int}(hu:zav u=true)(ha:AI u a)(ht:TI u N t)(hN:N<=999999)(hb:∀b∈t.inv.tokens,b.length<=4294967296):zh G 102 [.d (zn a),.d (zd t),.d (.int .i64 n)] []=some (.d (.tup [zn (zdr K a t n).1,zd (zdr K a t n).2.1,.sl ((zdr K a t n).2.2.1.map zad),.int .i64 (zdr K a t n).2.2.2]),[]):=by
 unfold zdr
 by_cases c0:zX t 3 5=0
 rotate_left
 ·rw[zWz c0];exact zT7 a t n c0
 rw[zWy (fun q=>q c0)];have hg:=zfj t 3 5;rw[c0] at hg;obtain⟨g1,g2⟩:=zcR c0;have hen:=zis ht g1;have he1:=ht.e1 g1;have he0:=ht.e0;unfold zc3 at he1;rw[zWy zo,zWz g2] at he1;clear g1
 by_cases c1:t.pc=0
 ·rw[zWz c1];have hi:t.entry.toNat<t.inv.tokens.length:=by omega
  rw[zq hi];have hp:=hK.pa (t.inv.tokens[t.entry.toNat]) (hb _ (zWH hi));have hz1:(zax (t.inv.tokens[t.entry.toNat])).size=1:=rfl;have hz2:(zax (t.inv.tokens[t.entry.toNat])).isT=false:=rfl;have hz3:(zax (t.inv.tokens[t.entry.toNat])).cells=[zax (t.inv.tokens[t.entry.toNat])]:=rfl;have hki:=zAi t.inv.kind;have hsu:t.setup.slots=u.slots:=by rw[ht.su]
  have hub:=(zeE hu).1;generalize ziR t.inv.kind=ek at *;simp only;generalize K.par t.inv.tokens[t.entry.toNat]=h at *;obtain⟨h,e⟩:=h;simp only at *
  by_cases c2:e=0
  ·subst c2;simp only[ne_eq,zWR,if_false]
   by_cases c3:h.hint<t.setup.slots
   ·rw[zWz c3];have hse:=zmE { t with handle:=h,pc:=1 } [h.hint] 2 (by simp);generalize zcc { t with handle:=h,pc:=1 } [h.hint] 2=t2 at *;have sz_t2:=zE t2;generalize zd t2=D_t2 at *;replace c1:=zWN c1;clear ht ha hu hb hsu;simp only[zd,zaz,zt,zWD,zWA] at *;exact zW
   ·rw[zWy c3];replace c1:=zWN c1;clear ht ha hu hb hsu;simp only[zd,zaz] at *;exact zW
  ·rw[zWz c2];have hev:=znu t ek n;have hnx:=zfn t (za2 5) n hen.1 hen.2;generalize zaY t (za2 5) n=t2 at *;have sz_t2:=zE t2;generalize zd t2=D_t2 at *;replace c1:=zWN c1;clear ht ha hu hb hsu;simp only[zd,zaz,zad,evT,zbT,za2,zZ,z5,zWD,zWA] at *;exact zW
 rw[zWy c1]
 by_cases c2:t.pc=1
 ·rw[zWz c2];have hlk:=zrG a t t.handle.route 2 (by have:=zfB ha.dv;omega);generalize zho a t t.handle.route 2=t2 at *;have sz_t2:=zE t2;generalize zd t2=D_t2 at *;replace c2:=zWN c2;replace c1:=zWE c1;clear ht ha hu;simp only[zd] at *;exact zW
 rw[zWy c2];have k4:=ht.se ⟨c1,by omega⟩;have hgo:=zlB a t n (zmD hu ha k4.si zo);have hgk:=zlC (n:=n) ha k4.si k4.ed;simp only;generalize goT a t n=g at *;obtain⟨a2,t2,b1,b2,e⟩:=g;simp only at *
 by_cases c4:e=0
 rotate_left
 ·rw[zWz c4];have hf:=zdH e;unfold zbM;clear hgk ht ha hu k4;replace c2:=zWE c2;replace c1:=zWE c1;have sz_zTask:=zE zC;generalize zd zC=D_zTask at *;have sz_zArena:=zbj zB;generalize zn zB=D_zArena at *;have sz_t2:=zE t2;generalize zd t2=D_t2 at *;have sz_a2:=zbj a2;generalize zn a2=D_a2 at *;simp only[zd] at *;exact zW
 subst c4;simp only[ne_eq,zWR,if_false];obtain⟨h1,s,h2,hSI,hKe,ho,h4,h9⟩:=hgk rfl;have h3:zaT u (N+1) t.inv s:=k4.keep hSI hKe (by rw[ho];exact k4.ed);have hen2:t2.entry=t.entry/\t2.results=t.results/\t2.inv=t.inv/\t2.sec=s:=by rw[h2];exact⟨rfl,rfl,rfl,rfl⟩
 obtain⟨q1,q2,q3,q4⟩:=hen2
 cases b1
 rotate_left
 ·simp only[if_true];have hp:s.phase=4\/s.phase=9:= .inl (h4.1 rfl);have hk:t2.sec.shards.length=1:=by rw[q4];exact (zgZ h3 ht.iv hp).1 zo
  have hd:=zT4 (t:=t2) (by rw[q4];exact h3.si) hk (by rw[q3];exact ht.iv);generalize zda t2=r at *;obtain⟨t3,l⟩:=r;clear ht ha hu k4 h1 h2 h3 h4 h9 ho hSI hKe q1 q2 q3 q4 hp hk hb;replace c2:=zWE c2;replace c1:=zWE c1;simp only at *;have sz_t2:=zE t2;generalize zd t2=D_t2 at *;have sz_t3:=zE t3;generalize zd t3=D_t3 at *;simp only[zd] at *;exact zW
 ·simp only[zWL,if_false]
  cases b2
  ·simp only[if_true];clear ht ha hu k4 h1 h2 h3 h4 h9 ho hSI hKe q1 q2 q3 q4 hb;replace c2:=zWE c2;replace c1:=zWE c1;have sz_t2:=zE t2;generalize zd t2=D_t2 at *;simp only[zd] at *;exact zW
  ·simp only[zXB,if_false];have hp:s.phase=4\/s.phase=9:= .inr (h9.1 rfl);have hk:t2.sec.shards.length=1:=by rw[q4];exact (zgZ h3 ht.iv hp).1 zo
   have hbg:zbc t2.sec.shards[0]:=zdN hk ▸ zmG (u:=u) (N:=N+1) (by rw[q4];exact h3.si);have how:=zoJ t2.sec.shards[0] t2.handle.route hbg;have hse:=zB9 hk hbg;rw[zdN hk];have hnx:=zfn t2 { z5 with err:=(zdq t2).2,id:=if (zdq t2).2=0 then t2.handle.id else 0 } n (by rw[q1];exact hen.1) (by rw[q2];exact hen.2);clear ht ha hu k4 h1 h2 h3 h4 h9 ho hSI hKe q1 q2 q3 q4 hp hb hbg;replace c2:=zWE c2;replace c1:=zWE c1
   by_cases c5:ze2 t2.sec.shards[0] t2.handle.route=false
   ·rw[zWz c5];rw[c5] at how;clear hnx hse c5;simp only[zd] at *;exact zW
   ·rw[zWy c5];replace c5:ze2 t2.sec.shards[0] t2.handle.route=true:=by simpa using c5
    rw[c5] at how;clear c5;generalize zdq t2=x at *;obtain⟨x1,x2⟩:=x;simp only at *;have sz_x1:=zbA x1;generalize zj x1=D_x1 at *
    by_cases c6:x2=0
    ·subst c6;simp only[if_true] at *;generalize zaY t2 { z5 with err:=0,id:=t2.handle.id } n=t3 at *;have sz_t3:=zE t3;generalize zd t3=D_t3 at *;simp only[zd,zZ,z5,zWA] at *;exact zW
    ·rw[zWy c6] at hnx ⊢;generalize zaY t2 { z5 with err:=x2,id:=0 } n=t3 at *;have sz_t3:=zE t3;generalize zd t3=D_t3 at *;simp only[zd,zZ,z5,zWA] at *;exact zW
theorem zRA(a:zg)(t:zi)(n:Int)(h:zX t 2 2≠0):zh G 101 [.d (zn a),.d (zd t),.d (.int .i64 n)] []=some (.d (.tup [zn zB,zd zC,.sl [],.int .i64 (zX t 2 2)]),[]):=by
 have hg:=zfj t 2 2;have hf:=zdH (zX t 2 2);generalize zX t 2 2=ge at *;have sz_zTask:=zE zC;generalize zd zC=D_zTask at *;have sz_t:=zE t;generalize zd t=D_t at *;have sz_zArena:=zbj zB;generalize zn zB=D_zArena at *;exact zW
theorem zRD{K:Tok}(hK:zha K){u:Setup}{a:zg}{t:zi}{n N:Int}(hu:zav u=true)(ha:AI u a)(ht:TI u N t)(hN:N<=999999):zh G 101 [.d (zn a),.d (zd t),.d (.int .i64 n)] []=some (.d (.tup [zn (zdl K a t n).1,zd (zdl K a t n).2.1,.sl ((zdl K a t n).2.2.1.map zad),.int .i64 (zdl K a t n).2.2.2]),[]):=by
 unfold zdl
 by_cases c0:zX t 2 2=0
 rotate_left
 ·rw[zWz c0];exact zRA a t n c0
 rw[zWy (fun q=>q c0)];have hg:=zfj t 2 2;rw[c0] at hg;obtain⟨g1,g2⟩:=zcR c0;have hen:=zis ht g1;clear g1
 by_cases c1:t.pc=0
 ·rw[zWz c1];have hdl:=zfB ha.dv;have hld:=zoq a;have hho:=zz3 a.dir t.inv.home zo;have hspn:=zRk a.dir (zdf a.dir t.inv.home) zo;generalize zdf a.dir t.inv.home=k at *;generalize zkY a.dir k=sp at *;obtain⟨sp,sb⟩:=sp;have hwb:=zCY sp.low;simp only at *;generalize zg6 sp.low=wb at *;obtain⟨wb,we⟩:=wb;simp only at *;have hse:=zmE { t with dir:=a.dir,slot:=k,walk:=wb } [k] 1 (by simp);generalize zcc { t with dir:=a.dir,slot:=k,walk:=wb } [k] 1=t2 at *;have sz_t2:=zE t2;generalize zd t2=D_t2 at *;replace c1:=zWN c1;clear ht ha hu;simp only[zd,zat,zbR,zc2,zt,zWD,zWA] at *;exact zW
 rw[zWy c1]
 by_cases c2:t.pc=2
 ·rw[zWz c2];have hlk:=zrG a t t.walk.next 1 (by have:=zfB ha.dv;omega);generalize zho a t t.walk.next 1=t2 at *;have sz_t2:=zE t2;generalize zd t2=D_t2 at *;replace c2:=zWN c2;replace c1:=zWE c1;clear ht ha hu;simp only[zd] at *;exact zW
 rw[zWy c2];have k4:=ht.se ⟨c1,by omega⟩;have hgo:=zlB a t n (zmD hu ha k4.si zo);have hgk:=zlC (n:=n) ha k4.si k4.ed;simp only;generalize goT a t n=g at *;obtain⟨a2,t2,b1,b2,e⟩:=g;simp only at *;replace c1:=zWE c1;replace c2:=zWE c2
 by_cases c4:e=0
 rotate_left
 ·rw[zWz c4];have hf:=zdH e;unfold zbM;clear hgk ht ha hu k4;have sz_zTask:=zE zC;generalize zd zC=D_zTask at *;have sz_zArena:=zbj zB;generalize zn zB=D_zArena at *;have sz_t2:=zE t2;generalize zd t2=D_t2 at *;have sz_a2:=zbj a2;generalize zn a2=D_a2 at *;simp only[zd] at *;exact zW
 subst c4;simp only[ne_eq,zWR,if_false];obtain⟨h1,s,h2,hSI,hKe,ho,h4,h9⟩:=hgk rfl;clear hgk;have h3:zaT u (N+1) t.inv s:=k4.keep hSI hKe (by rw[ho];exact k4.ed);have hen2:t2.entry=t.entry/\t2.results=t.results/\t2.inv=t.inv/\t2.sec=s:=by rw[h2];exact⟨rfl,rfl,rfl,rfl⟩
 obtain⟨q1,q2,q3,q4⟩:=hen2
 cases b1
 rotate_left
 ·simp only[if_true];have hk:t2.sec.shards.length=1:=by rw[q4];exact (zgZ h3 ht.iv (.inl (h4.1 rfl))).1 zo
  have hd:=zRx (t:=t2) (by rw[q4];exact h3.si) hk (by rw[q3];exact zCW ht.iv (.inl zo));generalize zc8 t2=r at *;obtain⟨t3,l⟩:=r;clear ht ha hu k4 h1 h2 h3 h4 h9 ho hSI hKe q1 q2 q3 q4 hk;simp only at *;have sz_t2:=zE t2;generalize zd t2=D_t2 at *;have sz_t3:=zE t3;generalize zd t3=D_t3 at *;simp only[zd] at *;exact zW
 ·simp only[zWL,if_false]
  cases b2
  ·simp only[if_true];clear ht ha hu k4 h1 h2 h3 h4 h9 ho hSI hKe q1 q2 q3 q4;have sz_t2:=zE t2;generalize zd t2=D_t2 at *;simp only[zd] at *;exact zW
  ·simp only[zXB,if_false];have hk:t2.sec.shards.length=1:=by rw[q4];exact (zgZ h3 ht.iv (.inr (h9.1 rfl))).1 zo
   have hbg:zbc t2.sec.shards[0]:=zdN hk ▸ zmG (u:=u) (N:=N+1) (by rw[q4];exact h3.si);have hrs:=zSi hK hk hbg;have hn1:=zfn t2 (za2 6) n (by rw[q1];exact hen.1) (by rw[q2];exact hen.2);have hn2:=zfn t2 z5 n (by rw[q1];exact hen.1) (by rw[q2];exact hen.2);have hn3:=zfn t2 (zij K t2) n (by rw[q1];exact hen.1) (by rw[q2];exact hen.2);generalize zij K t2=rr at *;clear ht ha hu k4 h1 h2 h3 h4 h9 ho hSI hKe q1 q2 q3 q4 hbg hk
   by_cases d3:t2.loaded=3
   ·rw[zWz d3];clear hn2 hn3 hrs;generalize zaY t2 (za2 6) n=t3 at *;have sz_t3:=zE t3;generalize zd t3=D_t3 at *;replace d3:=zWN d3;simp only[zd,zZ,za2,z5,zWA] at *;exact zW
   rw[zWy d3];replace d3:=zWE d3
   by_cases d2:t2.loaded=2
   ·rw[zWz d2];clear hn1 hn3 hrs;generalize zaY t2 z5 n=t3 at *;have sz_t3:=zE t3;generalize zd t3=D_t3 at *;replace d2:=zWN d2;simp only[zd,zZ,z5,zWA] at *;exact zW
   rw[zWy d2];replace d2:=zWE d2
   by_cases d1:t2.loaded=1
   ·rw[zWz d1];clear hn1 hn2;generalize zaY t2 rr n=t3 at *;have sz_t3:=zE t3;generalize zd t3=D_t3 at *;have sz_rr:=zlu rr;generalize zZ rr=D_rr at *;replace d1:=zWN d1;simp only[zd] at *;exact zW
   ·rw[zWy d1];clear hn1 hn2 hn3 hrs;replace d1:=zWE d1;simp only[zd] at *;exact zW
theorem zRG{u:Setup}{N:Int}{t:zi}(hs:SI u N t.sec)(hk:t.sec.shards.length=1)(hn:t.sec.lock.cells.length=2):zh G 170 [.d (zd t)] []=some (.d (.tup [zd (zcU t).1,.sl ((zcU t).2.map zad)]),[]):=by
 have hv:=(hs.sv _ (zWH (show 0<t.sec.shards.length by omega))).1;have hb:zbc t.sec.shards[0]:=zf4 (zbv hv);have hu:=zhE t.sec;have hrm:=zBV hk hv;have hsn:=zkV t 9;have hdv:=hs.dv;have hl12:=zbv hv;have hun:=hs.un;unfold zcU;simp only;rw[zdN hk]
 by_cases c0:t.sec.shards[0].live=false
 ·rw[zWz c0];have hd:=zcP (t:=t) hs hun;generalize za8 t (zU t.sec)=t2 at *;have sz_t2:=zE t2;generalize zd t2=D_t2 at *;clear hs hb hrm hsn hv hl12 hun hn;simp only[zd,zr,zY,zU,zWA,zt] at *;exact zW
 rw[zWy c0];replace c0:t.sec.shards[0].live=true:=by simpa using c0
 by_cases c1:zfr t=0
 ·rw[zWz c1];rw[c1] at hrm;have hd:=zcP (t:=t) hs hun;generalize za8 t (zU t.sec)=t2 at *;have sz_t2:=zE t2;generalize zd t2=D_t2 at *;clear hs hb hv hl12 hun hn c1;simp only[zd,zr,zY,zU,ze7,zck,zad,zbT,zWA,zWD,zt] at *;exact zW
 rw[zWy c1];have htk:=zVc t.sec.dead (zfr t) t.sec.snap.epoch zo;have htl:=zsY t.sec.dead (zfr t) t.sec.snap.epoch;generalize zfr t=rm at *;generalize zfV t.sec.dead rm t.sec.snap.epoch=d at *;obtain⟨d1,l,d3⟩:=d;simp only at *
 by_cases c2:l.length=0
 ·rw[zWz c2];have e0:l=[]:=zXk.1 c2;subst e0;have hd:=zcP (t:=t) hs hun;generalize za8 t (zU t.sec)=t2 at *;have sz_t2:=zE t2;generalize zd t2=D_t2 at *;clear hs hb hv hl12 hun hn htl;simp only[zd,zr,zY,zP,zU,ze7,zck,zad,zbT,zWA,zWD,zt] at *;exact zW
 ·rw[zWy c2];have hlp:=zRu t t.sec.shards[0] d1 l zo ⟨[],0⟩ ⟨by simp,by simp⟩;have hab:=ztv t.sec.shards[0] (l.map zbN) hb (by rw[zWM];omega);have hla:=znU hl12 (l.map zbN);have hoi:OI t.sec { zU t.sec with carry:=l.map zbN,shards:=[(zfx t.sec.shards[0] (l.map zbN)).1],dead:=d1,order:=[1,0] }:=by
   have q:=hs.dead hk hn hla (d:=d1) zo (ord:=[1,0]) (.inr rfl) (ca:=l.map zbN) (by rw[zWM];omega);exact q
  have hd:=zcP (t:=t) hs hoi;clear hoi hla;generalize zfx t.sec.shards[0] (l.map zbN)=y at *;obtain⟨y1,y2⟩:=y;simp only at *;have eg:(l.map fun m=>(⟨m.id,m.gen,(zcf (zbN m) t.sec.shards[0].low t.sec.shards[0].high).route,0⟩:Grant))=l.map (rdG t.sec.shards[0]):=rfl;rw[eg];clear eg;generalize za8 t { zU t.sec with carry:=l.map zbN,shards:=[y1],dead:=d1,order:=[1,0] }=t2 at *;have sz_t2:=zE t2;generalize zd t2=D_t2 at *;clear hs hb hv hl12 hun hn
  cases l with
  | nil=>exact absurd rfl c2
  | cons l0 ls=>
   clear c2;simp only[zjo,zms,accC,zaf,evA,tkZ,zd,zr,zY,zP,zU,ze7,zck,zad,zbT,zXg,zWW,zWZ,zW1,zWI,zWM,zWA,zWD,zt,zWV] at *;exact zW
theorem zRJ(a:zg)(t:zi)(n:Int)(h:zX t 8 8≠0):zh G 105 [.d (zn a),.d (zd t),.d (.int .i64 n)] []=some (.d (.tup [zn zB,zd zC,.sl [],.int .i64 (zX t 8 8)]),[]):=by
 have hg:=zfj t 8 8;have hf:=zdH (zX t 8 8);generalize zX t 8 8=ge at *;have sz_zTask:=zE zC;generalize zd zC=D_zTask at *;have sz_t:=zE t;generalize zd t=D_t at *;have sz_zArena:=zbj zB;generalize zn zB=D_zArena at *;exact zW
theorem zRM{u:Setup}{a:zg}{t:zi}{n N:Int}(hu:zav u=true)(ha:AI u a)(ht:TI u N t)(hN:N<=999999):zh G 105 [.d (zn a),.d (zd t),.d (.int .i64 n)] []=some (.d (.tup [zn (zdm a t n).1,zd (zdm a t n).2.1,.sl ((zdm a t n).2.2.1.map zad),.int .i64 (zdm a t n).2.2.2]),[]):=by
 unfold zdm
 by_cases c0:zX t 8 8=0
 rotate_left
 ·rw[zWz c0];exact zRJ a t n c0
 rw[zWy (fun q=>q c0)];have hg:=zfj t 8 8;rw[c0] at hg;obtain⟨g1,g2⟩:=zcR c0;have hen:=zis ht g1;clear g1
 by_cases c1:t.pc=0
 ·rw[zWz c1];have hdl:=zfB ha.dv;have hld:=zoq a;have hho:=zz3 a.dir t.inv.home zo;generalize zdf a.dir t.inv.home=k at *;have hse:=zmE { t with dir:=a.dir,slot:=k } [k,t.setup.slots] 1 (by simp);generalize zcc { t with dir:=a.dir,slot:=k } [k,t.setup.slots] 1=t2 at *;have sz_t2:=zE t2;generalize zd t2=D_t2 at *;replace c1:=zWN c1;clear ht ha hu;simp only[zd,zat,zt,zWD,zWA] at *;exact zW
 rw[zWy c1];have k4:=ht.se ⟨c1,by omega⟩;have hgo:=zlB a t n (zmD hu ha k4.si zo);have hgk:=zlC (n:=n) ha k4.si k4.ed;simp only;generalize goT a t n=g at *;obtain⟨a2,t2,b1,b2,e⟩:=g;simp only at *;replace c1:=zWE c1
 by_cases c4:e=0
 rotate_left
 ·rw[zWz c4];have hf:=zdH e;unfold zbM;clear hgk ht ha hu k4;have sz_zTask:=zE zC;generalize zd zC=D_zTask at *;have sz_zArena:=zbj zB;generalize zn zB=D_zArena at *;have sz_t2:=zE t2;generalize zd t2=D_t2 at *;have sz_a2:=zbj a2;generalize zn a2=D_a2 at *;simp only[zd] at *;exact zW
 subst c4;simp only[ne_eq,zWR,if_false];obtain⟨h1,s,h2,hSI,hKe,ho,h4,h9⟩:=hgk rfl;have h3:zaT u (N+1) t.inv s:=k4.keep hSI hKe (by rw[ho];exact k4.ed);have hen2:t2.entry=t.entry/\t2.results=t.results/\t2.inv=t.inv/\t2.sec=s:=by rw[h2];exact⟨rfl,rfl,rfl,rfl⟩
 obtain⟨q1,q2,q3,q4⟩:=hen2
 cases b1
 rotate_left
 ·simp only[if_true];have hk:t2.sec.shards.length=1:=by rw[q4];exact (zgZ h3 ht.iv (.inl (h4.1 rfl))).2.1 zo
  have hn:t2.sec.lock.cells.length=2:=by
   rw[q4];obtain⟨c,_,_,e⟩:=h3.c8 zo;rw[e];rfl
  have hd:=zRG (t:=t2) (by rw[q4];exact h3.si) hk hn;generalize zcU t2=r at *;obtain⟨t3,l⟩:=r;clear ht ha hu k4 h1 h2 h3 h4 h9 ho hSI hKe q1 q2 q3 q4 hk hn;simp only at *;have sz_t2:=zE t2;generalize zd t2=D_t2 at *;have sz_t3:=zE t3;generalize zd t3=D_t3 at *;simp only[zd] at *;exact zW
 ·simp only[zWL,if_false]
  cases b2
  ·simp only[if_true];clear ht ha hu k4 h1 h2 h3 h4 h9 ho hSI hKe q1 q2 q3 q4;have sz_t2:=zE t2;generalize zd t2=D_t2 at *;simp only[zd] at *;exact zW
  ·simp only[zXB,if_false];have hk:t2.sec.shards.length=1:=by rw[q4];exact (zgZ h3 ht.iv (.inr (h9.1 rfl))).2.1 zo
   have hv:zV t2.sec.shards[0]=0:=by
    have hs:SI u (N+1) t2.sec:=by rw[q4];exact h3.si
    exact (hs.sv _ (zWH (show 0<t2.sec.shards.length by omega))).1
   have hrm:=zBV hk hv;have hoc:t2.sec.out.carry.length<=1000:=by rw[q4];exact h3.si.oc.1
   rw[zdN hk]
   by_cases c5:t2.sec.shards[0].live=false
   ·rw[zWz c5];clear ht ha hu k4 h1 h2 h3 h4 h9 ho hSI hKe q1 q2 q3 q4 hv hrm;simp only[zd] at *;exact zW
   ·rw[zWy c5];replace c5:t2.sec.shards[0].live=true:=by simpa using c5
    generalize zfr t2=rm at *;have hnx:=zfn t2 { z5 with moved:=t2.sec.out.carry.length,err:=if rm=0 then 3 else 0 } n (by rw[q1];exact hen.1) (by rw[q2];exact hen.2);clear ht ha hu k4 h1 h2 h3 h4 h9 ho hSI hKe q1 q2 q3 q4 hv
    by_cases c6:rm=0
    ·subst c6;simp only[if_true] at *;generalize zaY t2 { z5 with moved:=t2.sec.out.carry.length,err:=3 } n=t3 at *;have sz_t3:=zE t3;generalize zd t3=D_t3 at *;simp only[zd,zZ,z5,zWA] at *;exact zW
    ·rw[zWy c6] at hnx ⊢;generalize zaY t2 { z5 with moved:=t2.sec.out.carry.length,err:=0 } n=t3 at *;have sz_t3:=zE t3;generalize zd t3=D_t3 at *;simp only[zd,zZ,z5,zWA] at *;exact zW
theorem zFb(a:zg)(t:zi)(n:Int)(h:zX t 7 7≠0):zh G 104 [.d (zn a),.d (zd t),.d (.int .i64 n)] []=some (.d (.tup [zn zB,zd zC,.sl [],.int .i64 (zX t 7 7)]),[]):=by
 have hg:=zfj t 7 7;have hf:=zdH (zX t 7 7);generalize zX t 7 7=ge at *;have sz_zTask:=zE zC;generalize zd zC=D_zTask at *;have sz_t:=zE t;generalize zd t=D_t at *;have sz_zArena:=zbj zB;generalize zn zB=D_zArena at *;exact zW
theorem zBw(l:List Stripe):(!l.any ze1)=zco l:=by
 unfold zco
 induction l with
 | nil=>rfl
 | cons x l ih=>rw[zYu,zXL,Bool.not_or,ih]
theorem zFc{u:Setup}{a:zg}{t:zi}{n N:Int}(hu:zav u=true)(ha:AI u a)(ht:TI u N t):zh G 104 [.d (zn a),.d (zd t),.d (.int .i64 n)] []=some (.d (.tup [zn (zaj a t n).1,zd (zaj a t n).2.1,.sl ((zaj a t n).2.2.1.map zad),.int .i64 (zaj a t n).2.2.2]),[]):=by
 unfold zaj
 by_cases c0:zX t 7 7=0
 rotate_left
 ·rw[zWz c0];exact zFb a t n c0
 rw[zWy (fun q=>q c0)];have hg:=zfj t 7 7;rw[c0] at hg;obtain⟨g1,g2⟩:=zcR c0;have hen:=zis ht g1;clear g1;have hb:=zeE hu;have hsl:=ha.sl;have hst:=ha.st;have hfs:=ht.fs;have hsu:t.setup.slots=u.slots:=by rw[ht.su]
 have hw:=zkm a 1;simp only[zgP,if_true] at hw
 by_cases c1:t.pc=0
 ·rw[zWz c1];replace c1:=zWN c1;clear ht ha hu hsu;simp only[zd,zWA] at *;exact zW
 rw[zWy c1]
 by_cases c2:t.pc=1
 ·rw[zWz c2];have hl:=zrA a t.first.length zo hst;simp only;generalize zaJ a t.first.length=r at *;obtain⟨x,e⟩:=r;simp only at *
  by_cases c3:e=0
  ·subst c3;simp only[ne_eq,zWR,if_false];have hq:=zsl (t.first++[x]) (by simp only[zWJ,zW6];omega);rw[zBw] at hq;generalize zco (t.first++[x])=q at *;replace c1:=zWE c1;replace c2:=zWN c2
   by_cases c4:((t.first++[x]).length:Int)=t.setup.slots
   ·simp only[c4,if_true];have c5:((t.first.length:Int)+1=t.setup.slots)=True:=zWN (by simpa using c4);clear ht ha hu hsu c4
    cases q
    ·simp only[zWL,if_false,zd,zWQ,zWD,zWA] at *;exact zW
    ·simp only[if_true,zd,zWQ,zWD,zWA] at *;exact zW
   ·simp only[c4,if_false];have c5:((t.first.length:Int)+1=t.setup.slots)=False:=zWE (by simpa using c4);clear ht ha hu hsu c4 hq;simp only[zd,zWQ,zWD,zWA] at *;exact zW
  ·rw[zWz c3];have hf:=zdH e;clear ht ha hu hsu;replace c1:=zWE c1;replace c2:=zWN c2;have sz_zTask:=zE zC;generalize zd zC=D_zTask at *;have sz_zArena:=zbj zB;generalize zn zB=D_zArena at *;simp only[zd] at *;exact zW
 rw[zWy c2]
 by_cases c3:t.pc=2
 ·rw[zWz c3];have hl:=zrA a t.second.length zo hst;simp only;generalize zaJ a t.second.length=r at *;obtain⟨x,e⟩:=r;simp only at *
  by_cases c4:e=0
  ·subst c4;simp only[ne_eq,zWR,if_false];have hq:=zTe t.first (t.second++[x]) zo (by simp only[zWJ,zW6];omega);replace c1:=zWE c1;replace c2:=zWE c2;replace c3:=zWN c3;have d1:(t.second.length=0)=(((t.second.length:Int)=0)):=propext zo;simp only[d1];clear d1
   by_cases c5:((t.second++[x]).length:Int)=t.setup.slots
   ·simp only[c5,if_true];have c6:((t.second.length:Int)+1=t.setup.slots)=True:=zWN (by simpa using c5);clear ht ha hu hsu c5
    by_cases c7:t.first=t.second++[x]
    ·rw[zWY c7] at hq;rw[zWz c7]
     by_cases c8:(t.second.length:Int)=0
     ·simp only[c8,if_true];replace c8:=zWN c8;clear c7;simp only[zd,zWQ,zWD,zWA] at *;exact zW
     ·simp only[c8,if_false];replace c8:=zWE c8;clear c7;simp only[zd,zWQ,zWD,zWA] at *;exact zW
    ·rw[zW0 c7] at hq;simp only[c7,if_false]
     by_cases c8:(t.second.length:Int)=0
     ·simp only[c8,if_true];replace c8:=zWN c8;clear c7;simp only[zd,zWQ,zWD,zWA] at *;exact zW
     ·simp only[c8,if_false];replace c8:=zWE c8;clear c7;simp only[zd,zWQ,zWD,zWA] at *;exact zW
   ·simp only[c5,if_false];have c6:((t.second.length:Int)+1=t.setup.slots)=False:=zWE (by simpa using c5);clear ht ha hu hsu c5 hq
    by_cases c8:(t.second.length:Int)=0
    ·simp only[c8,if_true];replace c8:=zWN c8;simp only[zd,zWQ,zWD,zWA] at *;exact zW
    ·simp only[c8,if_false];replace c8:=zWE c8;simp only[zd,zWQ,zWD,zWA] at *;exact zW
  ·rw[zWz c4];have hf:=zdH e;clear ht ha hu hsu;replace c1:=zWE c1;replace c2:=zWE c2;replace c3:=zWN c3;have sz_zTask:=zE zC;generalize zd zC=D_zTask at *;have sz_zArena:=zbj zB;generalize zn zB=D_zArena at *;simp only[zd] at *;exact zW
 rw[zWy c3]
 by_cases c4:a.epoch=t.loaded
 ·rw[zWy (fun q=>q c4)];have hs:=zU1 t.first a.epoch zo;have hev:=znu t 8 t.id;simp only;generalize zbb t.first a.epoch t.first.length=p at *;obtain⟨p1,p2⟩:=p;simp only at *;have hnx:=zfn t { z5 with ready:=p1,leased:=p2 } n hen.1 hen.2;generalize zaY t { z5 with ready:=p1,leased:=p2 } n=t2 at *;have sz_t2:=zE t2;generalize zd t2=D_t2 at *;clear ht ha hu hsu;replace c1:=zWE c1;replace c2:=zWE c2;replace c3:=zWE c3;replace c4:=zWN c4;simp only[zd,zad,evT,zbT,zZ,z5,zWA,zWD] at *;exact zW
 ·rw[zWz c4];clear ht ha hu hsu;replace c1:=zWE c1;replace c2:=zWE c2;replace c3:=zWE c3;replace c4:=zWE c4;simp only[zd] at *;exact zW
theorem zQR(a:zg)(t:zi)(n:Int)(he:0<=t.entry/\t.entry<=1000)(hl:t.results.length<=1000)(hd:0<=t.loaded/\t.loaded<=1073741824):zh G 103 [.d (zn a),.d (zd t),.d (.int .i64 n)] []=some (.d (.tup [zn (zdk a t n).1,zd (zdk a t n).2.1,.sl ((zdk a t n).2.2.1.map zad),.int .i64 (zdk a t n).2.2.2]),[]):=by
 have hg:=zfj t 6 6;have hf1:=zdH (zX t 6 6);have hv:=znu t 7 n;have hw:=zkm a 1;simp only[zgP,if_true] at hw;unfold zdk;generalize zX t 6 6=ge at *
 by_cases c0:ge=0
 ·subst c0;simp only[ne_eq,zWR,if_false];clear hf1
  by_cases c1:t.pc=0
  ·rw[zWz c1];replace c1:=zWN c1
   by_cases c2:a.epoch=65536
   ·rw[zWz c2];have hn1:=zfn { t with loaded:=a.epoch } (za2 6) n he hl;generalize zaY { t with loaded:=a.epoch } (za2 6) n=t2 at *;have sz_t2:=zE t2;generalize zd t2=D_t2 at *;replace c2:=zWN c2;simp only[zd,za2,zZ,z5,evT,zbT,zWA,zWD,zad] at *;exact zW
   ·rw[zWy c2];replace c2:=zWE c2;simp only[zd,evT,zbT,zWA,zad] at *;exact zW
  ·rw[zWy c1];replace c1:=zWE c1;have hc:=zxC a 1 t.loaded (t.loaded+1);generalize casWord a 1 t.loaded (t.loaded+1)=c at *;obtain⟨c1,c2,c3⟩:=c
   by_cases c4:c3=0
   ·subst c4;simp only[ne_eq,zWR,if_false] at *
    cases c2
    ·simp only[if_true] at *;simp only[zd,evT,zbT,zWA,zad] at *;exact zW
    ·simp only[zXB,if_false] at *;have hn1:=zfn t z5 n he hl;generalize zaY t z5 n=t2 at *;have sz_t2:=zE t2;generalize zd t2=D_t2 at *;simp only[zd,zZ,z5,evT,zbT,zWA,zWD,zad] at *;exact zW
   ·simp only at *;rw[zWz c4];have hf1:=zdH c3;have sz_zTask:=zE zC;generalize zd zC=D_zTask at *;simp only[zd,evT,zbT,zWA,zad] at *;exact zW
 ·rw[zWz c0];have sz_zTask:=zE zC;generalize zd zC=D_zTask at *;simp only[zd,evT,zbT,zWA,zad] at *;exact zW
theorem zQK{u:Setup}{N:Int}{t:zi}(hs:SI u N t.sec)(hk:t.sec.shards.length=1):zh G 178 [.d (zd t)] []=some (.d (.tup [zY (zc0 t).1,zZ (zc0 t).2.1,.sl ((zc0 t).2.2.map zad)]),[]):=by
 have hu:=zhE t.sec;have hv:=(hs.sv _ (zWH (show 0<t.sec.shards.length by omega))).1;have hb:zbc t.sec.shards[0]:=zf4 (zbv hv);have hdd:=hs.dv;unfold zc0;simp only;rw[zdN hk];clear hs hv
 by_cases c1:t.sec.shards[0].live=false
 ·rw[zWz c1];simp only[zd,zr,zY,zU,za2,zZ,z5,zWA,zt] at *;exact zW
 rw[zWy c1];replace c1:t.sec.shards[0].live=true:=by simpa using c1
 have hrm:=zBW t.sec.dead zo;have hbu:=zEb t.sec.shards[0] (zgt t.sec.dead) t.sec.snap.epoch t.setup.limit hb;have hbl:=ztS t.sec.shards[0] (zgt t.sec.dead) t.sec.snap.epoch t.setup.limit;generalize zgt t.sec.dead=rm at *;generalize zeJ t.sec.shards[0] rm t.sec.snap.epoch t.setup.limit=x at *;obtain⟨x1,l,x3⟩:=x;simp only at *
 by_cases c2:l.length=0
 ·rw[zWz c2];have e0:l=[]:=zXk.1 c2;subst e0;simp only[zd,zr,zY,zU,za2,zZ,z5,zP,zWA,zt] at *;exact zW
 ·rw[zWy c2];have hpt:=zQ0 t.sec.dead l zo zo zo;generalize zhw t.sec.dead l=d at *;obtain⟨d1,d2⟩:=d;simp only[zd,zr,zY,zU,za2,zZ,z5,zP,zWA,zWD,zt] at *;exact zW
def PF(F Fp:Nat)(lo hi:Int)(cl:zi->List Int):Prop:=(F=106/\Fp=173/\lo=9/\hi=9/\cl=zbg)\/(F=107/\Fp=175/\lo=10/\hi=10/\cl=zbg)\/(F=108/\Fp=176/\lo=11/\hi=11/\cl=zbg)\/(F=109/\Fp=177/\lo=12/\hi=13/\cl=fun t=>[t.inv.from_])\/(F=110/\Fp=178/\lo=14/\hi=14/\cl=fun t=>[t.inv.from_,t.setup.slots])
theorem pfl{F Fp:Nat}{lo hi:Int}{cl:zi->List Int}(hF:PF F Fp lo hi cl)(a:zg)(t:zi)(n:Int)(h:zX t lo hi≠0):zh G F [.d (zn a),.d (zd t),.d (.int .i64 n)] []=some (.d (.tup [zn zB,zd zC,.sl [],.int .i64 (zX t lo hi)]),[]):=by
 have hg:=zfj t lo hi;have hf:=zdH (zX t lo hi);generalize zX t lo hi=ge at *;replace h:=zWE h;have sz_zTask:=zE zC;generalize zd zC=D_zTask at *;have sz_t:=zE t;generalize zd t=D_t at *;have sz_zArena:=zbj zB;generalize zn zB=D_zArena at *
 rcases hF with hF|hF|hF|hF|hF<;>obtain⟨rfl,rfl,rfl,rfl,rfl⟩:=hF
 ·exact zW
 ·exact zW
 ·exact zW
 ·exact zW
 ·exact zW
theorem pw {F Fp:Nat} {lo hi:Int} {cl:zi->List Int} (hF:PF F Fp lo hi cl) (a a2:zg) (t t1 t2:zi) (n e:Int) (b1 b2:Bool) (R:D) (hg:zh G 148 [.d (zd t),.d (.int .i64 lo),.d (.int .i64 hi)] []=some (.d (.int .i64 0),[]))
    (hse:t.pc=0->zh G 161 [.d (zd t),.d (.sl (zt (cl t))),.d (.int .i64 1)] []=some (.d (zd t1),[])) (hs0:¬t.pc=0->t1=t)
    (hgo:zh G 156 [.d (zn a),.d (zd t1),.d (.int .i64 n)] []=some (.d (.tup [zn a2,zd t2,.bool b1,.bool b2,.int .i64 e]),[]))
    (hR:(¬e=0/\R= .tup [zn zB,zd zC,.sl [],.int .i64 e])\/(e=0/\b1=true/\∃(o:zb3) (r:Result) (l:List D) (t3:zi),zh G Fp [.d (zd t2)] []=some (.d (.tup [zY o,zZ r,.sl l]),[])/\zh G 174 [.d (zd t2),.d (zY o)] []=some (.d (zd t3),[])/\R= .tup [zn a2,zd t3,.sl l,.int .i64 0])\/(e=0/\b1=false/\b2=false/\R= .tup [zn a2,zd t2,.sl [],.int .i64 0])
     \/ (e=0/\b1=false/\b2=true/\∃(o:zb3) (r:Result) (l:List D) (t3:zi),zh G Fp [.d (zd t2)] []=some (.d (.tup [zY o,zZ r,.sl l]),[])/\zh G 151 [.d (zd t2),.d (zZ r),.d (.int .i64 n)] []=some (.d (zd t3),[])/\R= .tup [zn a2,zd t3,.sl [],.int .i64 0])):zh G F [.d (zn a),.d (zd t),.d (.int .i64 n)] []=some (.d R,[]):=by
 have hpa:=zQh t.inv.from_ t.inv.to;have hf:=zdH e;have sz_zTask:=zE zC;generalize zd zC=D_zTask at *;have sz_zArena:=zbj zB;generalize zn zB=D_zArena at *;have sz_a2:=zbj a2;generalize zn a2=D_a2 at *;have sz_t2:=zE t2;generalize zd t2=D_t2 at *
 by_cases c1:t.pc=0
 ·replace hse:=hse c1;replace c1:=zWN c1;clear hs0;have sz_t1:=zE t1;generalize zd t1=D_t1 at *
  rcases hR with ⟨c2,rfl⟩|⟨rfl,rfl,o,r,l,t3,hp,hd,rfl⟩|⟨rfl,rfl,rfl,rfl⟩|⟨rfl,rfl,rfl,o,r,l,t3,hp,hd,rfl⟩
  ·replace c2:=zWE c2
   rcases hF with hF|hF|hF|hF|hF<;>obtain⟨rfl,rfl,rfl,rfl,rfl⟩:=hF
   all_goals simp only[zd,zbg,zt,zWD,zWA] at *
   all_goals first|(exact zW)|(exact zW)|(exact zW)|(exact zW)|(exact zW)
  ·have sz_o:=znq o;generalize zY o=D_o at *;have sz_r:=zlu r;generalize zZ r=D_r at *;have sz_t3:=zE t3;generalize zd t3=D_t3 at *
   rcases hF with hF|hF|hF|hF|hF<;>obtain⟨rfl,rfl,rfl,rfl,rfl⟩:=hF
   all_goals simp only[zd,zbg,zt,zWD,zWA] at *
   all_goals first|(exact zW)|(exact zW)|(exact zW)|(exact zW)|(exact zW)
  ·rcases hF with hF|hF|hF|hF|hF<;>obtain⟨rfl,rfl,rfl,rfl,rfl⟩:=hF
   all_goals simp only[zd,zbg,zt,zWD,zWA] at *
   all_goals first|(exact zW)|(exact zW)|(exact zW)|(exact zW)|(exact zW)
  ·have sz_o:=znq o;generalize zY o=D_o at *;have sz_r:=zlu r;generalize zZ r=D_r at *;have sz_t3:=zE t3;generalize zd t3=D_t3 at *
   rcases hF with hF|hF|hF|hF|hF<;>obtain⟨rfl,rfl,rfl,rfl,rfl⟩:=hF
   all_goals simp only[zd,zbg,zt,zWD,zWA] at *
   all_goals first|(exact zW)|(exact zW)|(exact zW)|(exact zW)|(exact zW)
 ·replace hs0:=hs0 c1;subst hs0;replace c1:=zWE c1;clear hse
  rcases hR with ⟨c2,rfl⟩|⟨rfl,rfl,o,r,l,t3,hp,hd,rfl⟩|⟨rfl,rfl,rfl,rfl⟩|⟨rfl,rfl,rfl,o,r,l,t3,hp,hd,rfl⟩
  ·replace c2:=zWE c2
   rcases hF with hF|hF|hF|hF|hF<;>obtain⟨rfl,rfl,rfl,rfl,rfl⟩:=hF
   all_goals simp only[zd,zbg,zt,zWD,zWA] at *
   all_goals first|(exact zW)|(exact zW)|(exact zW)|(exact zW)|(exact zW)
  ·have sz_o:=znq o;generalize zY o=D_o at *;have sz_r:=zlu r;generalize zZ r=D_r at *;have sz_t3:=zE t3;generalize zd t3=D_t3 at *
   rcases hF with hF|hF|hF|hF|hF<;>obtain⟨rfl,rfl,rfl,rfl,rfl⟩:=hF
   all_goals simp only[zd,zbg,zt,zWD,zWA] at *
   all_goals first|(exact zW)|(exact zW)|(exact zW)|(exact zW)|(exact zW)
  ·rcases hF with hF|hF|hF|hF|hF<;>obtain⟨rfl,rfl,rfl,rfl,rfl⟩:=hF
   all_goals simp only[zd,zbg,zt,zWD,zWA] at *
   all_goals first|(exact zW)|(exact zW)|(exact zW)|(exact zW)|(exact zW)
  ·have sz_o:=znq o;generalize zY o=D_o at *;have sz_r:=zlu r;generalize zZ r=D_r at *;have sz_t3:=zE t3;generalize zd t3=D_t3 at *
   rcases hF with hF|hF|hF|hF|hF<;>obtain⟨rfl,rfl,rfl,rfl,rfl⟩:=hF
   all_goals simp only[zd,zbg,zt,zWD,zWA] at *
   all_goals first|(exact zW)|(exact zW)|(exact zW)|(exact zW)|(exact zW)
structure zmZ(u:Setup)(Fp:Nat)(P:zi->Pln)(lo hi:Int)(cl:zi->List Int):Prop where
 cells:∀ {N:Int} {t:zi},TI u N t->lo<=t.inv.kind/\t.inv.kind<=hi->zfv (cl t) u.slots/\1<=(cl t).length/\(cl t).length<=2/\∀s,SI u N s->s.out.edits.length<=1->s.lock.cells=cl t->zaT u N t.inv s
 plan:∀ {N:Int} {t:zi},zaT u N t.inv t.sec->zb4 t.inv u=0->lo<=t.inv.kind/\t.inv.kind<=hi->t.sec.phase=4\/t.sec.phase=9->zh G Fp [.d (zd t)] []=some (.d (.tup [zY (P t).1,zZ (P t).2.1,.sl ((P t).2.2.map zad)]),[])/\OI t.sec (P t).1
theorem zml{u:Setup}{F Fp:Nat}{P:zi->Pln}{lo hi:Int}{cl:zi->List Int}(hF:PF F Fp lo hi cl)(hP:zmZ u Fp P lo hi cl)(hlo:9<=lo){a:zg}{t:zi}{n N:Int}(hu:zav u=true)(ha:AI u a)(ht:TI u N t)(hN:N<=999999):zh G F [.d (zn a),.d (zd t),.d (.int .i64 n)] []=some (.d (.tup [zn (zaL P lo hi cl a t n).1,zd (zaL P lo hi cl a t n).2.1,.sl ((zaL P lo hi cl a t n).2.2.1.map zad),.int .i64 (zaL P lo hi cl a t n).2.2.2]),[]):=by
 unfold zaL
 by_cases c0:zX t lo hi=0
 rotate_left
 ·rw[zWz c0];exact pfl hF a t n c0
 rw[zWy (fun q=>q c0)];have hg:=zfj t lo hi;rw[c0] at hg;obtain⟨g1,g2⟩:=zcR c0;have hen:=zis ht g1;clear g1;simp only;obtain⟨t1,ht1⟩:∃t1,t1=(if t.pc=0 then zcc t (cl t) 1 else t):=⟨_,rfl⟩;rw[<- ht1];obtain⟨a1,a2,a4,a3⟩:=hP.cells ht g2;have hT:zaT u N t1.inv t1.sec/\t1.entry=t.entry/\t1.results=t.results/\t1.inv=t.inv:=by
  rw[ht1]
  by_cases c1:t.pc=0
  ·rw[zWz c1];obtain⟨s1,s2,s3⟩:=zmF (N:=N) hu (show t.setup.limit=u.limit by rw[ht.su]) ht.nn a1 a2;exact⟨a3 _ s1 s2 s3,rfl,rfl,rfl⟩
  ·rw[zWy c1];exact⟨ht.se ⟨c1,by omega⟩,rfl,rfl,rfl⟩
 obtain⟨k4,e1,e2,e3⟩:=hT;have hgk:=zlC (n:=n) ha k4.si k4.ed;refine pw hF a (goT a t1 n).1 t t1 (goT a t1 n).2.1 n _ _ _ _ hg (fun c=> ?_) (fun c=>by rw[ht1,zWy c]) (zlB a t1 n (zmD hu ha k4.si zo)) ?_
 ·rw[ht1,zWz c];exact zmE t (cl t) 1 zo
 clear hg ht1 a1 a2 a3 a4;generalize goT a t1 n=g at *;obtain⟨a2,t2,b1,b2,e⟩:=g;simp only at *
 by_cases c4:e=0
 rotate_left
 ·exact .inl ⟨c4,by rw[zWz c4];rfl⟩
 subst c4;obtain⟨h1,s,h2,hSI,hK,ho,h4,h9⟩:=hgk rfl;have h3:zaT u (N+1) t1.inv s:=k4.keep hSI hK (by rw[ho];exact k4.ed);have hen2:t2.entry=t.entry/\t2.results=t.results/\t2.inv=t1.inv/\t2.sec=s:=by rw[h2];exact⟨e1,e2,rfl,rfl⟩
 obtain⟨q1,q2,q3,q4⟩:=hen2;have hp:=hP.plan (N:=N+1) (t:=t2) (by rw[q3,q4];exact h3) (by rw[q3,e3];exact ht.iv) (by rw[q3,e3];exact g2);rw[q4] at hp;rw[zWy (fun q=>q rfl)]
 cases b1
 ·cases b2
  ·exact .inr (.inr (.inl ⟨rfl,rfl,rfl,rfl⟩))
  ·exact .inr (.inr (.inr ⟨rfl,rfl,rfl,_,_,_,_,(hp (.inr (h9.1 rfl))).1,zfn t2 _ n (by rw[q1];exact hen.1) (by rw[q2];exact hen.2),rfl⟩))
 ·obtain⟨p1,p2⟩:=hp (.inl (h4.1 rfl));exact .inr (.inl ⟨rfl,rfl,_,_,_,_,p1,zcP (t:=t2) (by rw[q4];exact h3.si) (by rw[q4];exact p2),rfl⟩)
theorem zsf{u:Setup}{Fp:Nat}{P:zi->Pln}{k:Int}(hk:9<=k/\k<=11)(h1:∀ {N:Int} {t:zi},SI u N t.sec->t.sec.shards.length=2->zh G Fp [.d (zd t)] []=some (.d (.tup [zY (P t).1,zZ (P t).2.1,.sl ((P t).2.2.map zad)]),[]))(h2:∀ {N:Int} {t:zi},SI u N t.sec->t.sec.shards.length=2->t.sec.lock.cells.length=2->OI t.sec (P t).1):zmZ u Fp P k k zbg:=
 ⟨fun {N t} ht g=>by
  obtain⟨v1,v2,v3⟩:=zhk ht.iv zo;exact⟨ziE v1 v2 v3,by unfold zbg zdJ;split<;>simp,by unfold zbg zdJ;split<;>simp,fun s s1 s2 s3=>⟨s1,s2,fun q=>by omega,fun q=>by omega,fun _=>s3,fun q=>by omega,fun q=>by omega⟩⟩,
 fun {N t} h iv g hp=>by
  have kk:=(zgZ h iv hp).2.2.1 zo;exact⟨h1 h.si kk,h2 h.si kk (by rw[h.c9 zo];unfold zdJ;split<;>rfl)⟩⟩
theorem zQo{u:Setup}:zmZ u 177 zdb 12 13 (fun t=>[t.inv.from_]):=
 ⟨fun {N t} ht g=>by
  have v:0<=t.inv.from_/\t.inv.from_<=u.slots:=by
   by_cases q:t.inv.kind=13
   ·exact zqY ht.iv q
   ·have:=zh2 ht.iv (.inl zo);omega
  exact⟨zle v,by simp,by simp,fun s s1 s2 s3=>⟨s1,s2,fun q=>by omega,fun q=>by omega,fun q=>by omega,fun _=>s3,fun q=>by omega⟩⟩,
 fun {N t} h iv g hp=>by
  have kk:=(zgZ h iv hp).2.2.2.1 zo;exact⟨zQJ h.si kk,zsU h.si kk⟩⟩
theorem zQp{u:Setup}:zmZ u 178 zc0 14 14 (fun t=>[t.inv.from_,t.setup.slots]):=
 ⟨fun {N t} ht g=>by
  have v:=zh2 ht.iv (.inr zo);exact⟨ziD v.1 (by rw[ht.su];exact v.2) (by rw[ht.su];exact zXh _),by simp,by simp,fun s s1 s2 s3=>⟨s1,s2,fun q=>by omega,fun q=>by omega,fun q=>by omega,fun q=>by omega,fun _=>by rw[s3,ht.su]⟩⟩,
 fun {N t} h iv g hp=>by
  have kk:=(zgZ h iv hp).2.2.2.2 zo;exact⟨zQK h.si kk,zpN h.si kk (by rw[h.c14 zo];rfl)⟩⟩
theorem zf8 {F:Nat} {a:zg} {t:zi} {n:Int} (r:Stp) (d0:t.done=false) (h:zh G F [.d (zn a),.d (zd t),.d (.int .i64 n)] []=some (.d (.tup [zn r.1,zd r.2.1,.sl (r.2.2.1.map zad),.int .i64 r.2.2.2]),[]))
    (hF:(t.inv.kind=1/\F=100)\/(t.inv.kind=2/\F=101)\/(t.inv.kind=3/\F=102)\/(t.inv.kind=4/\F=102)\/(t.inv.kind=5/\F=102)\/(t.inv.kind=6/\F=103)\/(t.inv.kind=7/\F=104)\/(t.inv.kind=8/\F=105)\/(t.inv.kind=9/\F=106)\/(t.inv.kind=10/\F=107)\/(t.inv.kind=11/\F=108)\/(t.inv.kind=12/\F=109)\/(t.inv.kind=13/\F=109)\/(t.inv.kind=14/\F=110)):zh G 56 [.d (zn a),.d (zd t),.d (.int .i64 n)] []=some (.d (.tup [zn r.1,zd r.2.1,.sl (r.2.2.1.map zad),.int .i64 r.2.2.2]),[]):=by
 obtain⟨r1,r2,r3,r4⟩:=r;simp only at *;have sz_r1:=zbj r1;generalize zn r1=D_r1 at *;have sz_r2:=zE r2;generalize zd r2=D_r2 at *;obtain⟨nu,iv,t3,t4,t5,t6,t7,t8,t9,t10,t11,t12,t13,t14,t15,t16,t17,t18⟩:=t;obtain⟨v1,v2,v3,v4,v5,v6,v7,v8⟩:=iv;simp only at d0 hF;subst d0
 rcases hF with hF|hF|hF|hF|hF|hF|hF|hF|hF|hF|hF|hF|hF|hF<;>obtain⟨rfl,rfl⟩:=hF
 all_goals simp only[zd,zbK] at *
 all_goals (exact zW)
theorem zCC{K:Tok}(hK:zha K){u:Setup}{a:zg}{t:zi}{n N:Int}(hu:zav u=true)(ha:AI u a)(ht:TI u N t)(hN:N<=999999)(hb:∀b∈t.inv.tokens,b.length<=4294967296):zh G 56 [.d (zn a),.d (zd t),.d (.int .i64 n)] []=some (.d (.tup [zn (zaQ K a t n).1,zd (zaQ K a t n).2.1,.sl ((zaQ K a t n).2.2.1.map zad),.int .i64 (zaQ K a t n).2.2.2]),[]):=by
 have hk:=zAa ht.iv;unfold zaQ
 by_cases c0:t.done=true
 ·rw[zWz c0];have hf:=zdH 7;unfold zbM;have sz_zTask:=zE zC;generalize zd zC=D_zTask at *;have sz_zArena:=zbj zB;generalize zn zB=D_zArena at *;clear hk ht hb;simp only[zd,c0];exact zW
 rw[zWy c0];have d0:t.done=false:=by simpa using c0
 by_cases k1:t.inv.kind=1
 ·rw[zWz k1];exact zf8 _ d0 (zTV hK hu ha ht hN) (by rw[k1];decide)
 rw[zWy k1]
 by_cases k2:t.inv.kind=2
 ·rw[zWz k2];exact zf8 _ d0 (zRD hK hu ha ht hN) (by rw[k2];decide)
 rw[zWy k2]
 by_cases k3:3<=t.inv.kind/\t.inv.kind<=5
 ·rw[zWz k3];have q:t.inv.kind=3\/t.inv.kind=4\/t.inv.kind=5:=by omega
  exact zf8 _ d0 (zUa hK hu ha ht hN hb) (by rcases q with q|q|q<;>rw[q]<;>decide)
 rw[zWy k3]
 by_cases k4:t.inv.kind=6
 ·rw[zWz k4];exact zf8 _ d0 (zQR a t n (zis ht d0).1 (zis ht d0).2 ht.ld) (by rw[k4];decide)
 rw[zWy k4]
 by_cases k5:t.inv.kind=7
 ·rw[zWz k5];exact zf8 _ d0 (zFc hu ha ht) (by rw[k5];decide)
 rw[zWy k5]
 by_cases k6:t.inv.kind=8
 ·rw[zWz k6];exact zf8 _ d0 (zRM hu ha ht hN) (by rw[k6];decide)
 rw[zWy k6]
 by_cases k7:t.inv.kind=9
 ·rw[zWz k7];exact zf8 _ d0 (zml (.inl ⟨rfl,rfl,rfl,rfl,rfl⟩) (zsf zo zQG zsO) zo hu ha ht hN) (by rw[k7];decide)
 rw[zWy k7]
 by_cases k8:t.inv.kind=10
 ·rw[zWz k8];exact zf8 _ d0 (zml (.inr (.inl ⟨rfl,rfl,rfl,rfl,rfl⟩)) (zsf zo zQH zsL) zo hu ha ht hN) (by rw[k8];decide)
 rw[zWy k8]
 by_cases k9:t.inv.kind=11
 ·rw[zWz k9];exact zf8 _ d0 (zml (.inr (.inr (.inl ⟨rfl,rfl,rfl,rfl,rfl⟩))) (zsf zo zQI zrR) zo hu ha ht hN) (by rw[k9];decide)
 rw[zWy k9]
 by_cases k10:t.inv.kind=12\/t.inv.kind=13
 ·rw[zWz k10];exact zf8 _ d0 (zml (.inr (.inr (.inr (.inl ⟨rfl,rfl,rfl,rfl,rfl⟩)))) zQo zo hu ha ht hN) (by rcases k10 with q|q<;>rw[q]<;>decide)
 rw[zWy k10];have k11:t.inv.kind=14:=by omega
 rw[zWz k11];exact zf8 _ d0 (zml (.inr (.inr (.inr (.inr ⟨rfl,rfl,rfl,rfl,rfl⟩)))) zQp zo hu ha ht hN) (by rw[k11];decide)
theorem zEE(b:List UInt8)(hb:b.length<=100):∃h:Int,0<=h/\h<=4294967295/\zh G 270 [.d (.sl (byD b))] []=some (.d (.int .i64 h),[]):=by
 obtain⟨h,g0,g1,hs⟩:=zCw (90::b) (by simp;omega);refine⟨h,g0,g1,?_⟩;have hlen:(byD b).length=b.length:=by unfold byD;simp
 have hS:=byS b;have hc:byD (90::b)= .int .u8 90::byD b:=rfl;rw[hc] at hs;generalize byD b=bb at *
 rcases bb with _|⟨x,bb⟩
 ·exact zW
 ·exact zW
theorem zyC(h:zaW)(q:¬(1<=h.id/\h.id<=1073741824/\1<=h.gen/\h.gen<=65536/\0<=h.route/\h.route<65536/\0<=h.hint/\h.hint<6)):zh G 203 [.d (zaz h)] []=some (.d (.tup [zax [],.int .i64 1]),[]):=by
 have e:byD []=[]:=rfl;unfold zax;rw[e];obtain⟨a,b,c,d⟩:=h;simp only[zaz] at *
 by_cases c1:a<1
 ·clear q;exact zW
 by_cases c2:1073741824<a
 ·clear q;exact zW
 by_cases c3:b<1
 ·clear q;exact zW
 by_cases c4:65536<b
 ·clear q;exact zW
 by_cases c5:c<0
 ·clear q;exact zW
 by_cases c6:65536<=c
 ·clear q;exact zW
 by_cases c7:d<0
 ·clear q;exact zW
 by_cases c8:6<=d
 ·clear q;exact zW
 ·omega
theorem zyD(h:zaW)(q:1<=h.id/\h.id<=1073741824/\1<=h.gen/\h.gen<=65536/\0<=h.route/\h.route<65536/\0<=h.hint/\h.hint<6):∃c:List UInt8,c.length=16/\zh G 203 [.d (zaz h)] []=some (.d (.tup [zax c,.int .i64 0]),[]):=by
 obtain⟨a,b,c,d⟩:=h;obtain⟨a1,a2,b1,b2,c1,c2,d1,d2⟩:=q;simp only at a1 a2 b1 b2 c1 c2 d1 d2;obtain⟨x1,l1,p1⟩:=zsk [113] (by simp) a zo zo;obtain⟨x2,l2,p2⟩:=zQZ ([113]++x1) (by simp;omega) b zo zo;obtain⟨x3,l3,p3⟩:=zQY ([113]++x1++x2) (by simp;omega) c zo zo;obtain⟨u,hu⟩:=zg4 d;obtain⟨k,k0,k1,hk⟩:=zEE ([113]++x1++x2++x3++[u,0]) (by simp;omega);obtain⟨x4,l4,p4⟩:=zsk ([113]++x1++x2++x3++[u,0]) (by simp;omega) k k0 k1;refine⟨[113]++x1++x2++x3++[u,0]++x4,by simp;omega,?_⟩;have hb:∀x y:List UInt8,byD (x++y)=byD x++byD y:=fun x y=>by unfold byD;simp
 have e1:byD [113]=[.int .u8 113]:=rfl;have e2:byD [u,0]=[.int .u8 u.toNat,.int .u8 0]:=rfl;have hl:∀x:List UInt8,(byD x).length=x.length:=fun x=>by unfold byD;simp
 unfold zax;simp only[hb,e1,e2] at *;have y1:=hl x1;have y2:=hl x2;have y3:=hl x3;have y4:=hl x4;have z1:=byS x1;have z2:=byS x2;have z3:=byS x3;have z4:=byS x4;rw[l1] at y1;rw[l2] at y2;rw[l3] at y3;rw[l4] at y4;simp only[zWJ,zWI,zWK,l1,l2,l3,Nat.reduceAdd] at p1 p2 p3 p4;clear hb hl e1 e2;generalize byD x1=w1 at *;generalize byD x2=w2 at *;generalize byD x3=w3 at *;generalize byD x4=w4 at *;simp only[zaz,zW1,zWW,zXq] at *;have hA:∀z:List D,w1++(w2++(w3++z))=w1++(w2++w3)++z:=fun z=>by simp
 rw[hA] at hk;rw[hA] at p4;exact zW
theorem znK(b:List UInt8)(hb:b.length=16)(i k:Int)(q:(i=1/\k=4)\/(i=5/\k=3)\/(i=8/\k=2)\/(i=10/\k=1)):∃v:Int,zh G 221 [.d (.sl (byD b)),.d (.int .i64 i),.d (.int .i64 k)] []=some (.d (.tup [.int .i64 v,.int .i64 0]),[]):=by
 have hlen:(byD b).length=16:=by unfold byD;simp [hb]
 have hg:∀j:Nat,j<16->∃x:UInt8,(byD b)[j]? = some (.int .u8 x.toNat):=fun j hj=>⟨b[j],by unfold byD;simp [zWF (show j<b.length by omega)]⟩;obtain⟨x1,g1⟩:=hg 1 zo;obtain⟨x2,g2⟩:=hg 2 zo;obtain⟨x3,g3⟩:=hg 3 zo;obtain⟨x4,g4⟩:=hg 4 zo;obtain⟨x5,g5⟩:=hg 5 zo;obtain⟨x6,g6⟩:=hg 6 zo;obtain⟨x7,g7⟩:=hg 7 zo;obtain⟨x8,g8⟩:=hg 8 zo;obtain⟨x9,g9⟩:=hg 9 zo;obtain⟨xa,ga⟩:=hg 10 zo;clear hg;generalize byD b=bb at *
 rcases q with ⟨rfl,rfl⟩|⟨rfl,rfl⟩|⟨rfl,rfl⟩|⟨rfl,rfl⟩
 ·rw[zO znI (by simp)];simp -implicitDefEqProofs (maxSteps:=4000000) (disch:=omega) only[zjO,za0,zhm,zq,go_sem, *];(try simp only[zPr]);repeat' (first|done|rfl|((first|refine za5 (fun hq=> ?_) (fun hq=> ?_)|refine zbd (fun hq=> ?_) (fun hq=> ?_))<;>(try (first|(exfalso;omega)|contradiction))<;>(try simp -implicitDefEqProofs (maxSteps:=4000000) (disch:=omega) only[za0,zhm,zq,go_sem, *])<;>(try simp only[zPr])));(all_goals try rfl);(all_goals try (repeat' (first|done|rfl|(exfalso;omega)|contradiction|(refine za6 (fun hq=> ?_) (fun hq=> ?_)))))
  all_goals exact⟨_,rfl⟩
 ·rw[zO znI (by simp)];simp -implicitDefEqProofs (maxSteps:=4000000) (disch:=omega) only[zjO,za0,zhm,zq,go_sem, *];(try simp only[zPr]);repeat' (first|done|rfl|((first|refine za5 (fun hq=> ?_) (fun hq=> ?_)|refine zbd (fun hq=> ?_) (fun hq=> ?_))<;>(try (first|(exfalso;omega)|contradiction))<;>(try simp -implicitDefEqProofs (maxSteps:=4000000) (disch:=omega) only[za0,zhm,zq,go_sem, *])<;>(try simp only[zPr])));(all_goals try rfl);(all_goals try (repeat' (first|done|rfl|(exfalso;omega)|contradiction|(refine za6 (fun hq=> ?_) (fun hq=> ?_)))))
  all_goals exact⟨_,rfl⟩
 ·rw[zO znI (by simp)];simp -implicitDefEqProofs (maxSteps:=4000000) (disch:=omega) only[zjO,za0,zhm,zq,go_sem, *];(try simp only[zPr]);repeat' (first|done|rfl|((first|refine za5 (fun hq=> ?_) (fun hq=> ?_)|refine zbd (fun hq=> ?_) (fun hq=> ?_))<;>(try (first|(exfalso;omega)|contradiction))<;>(try simp -implicitDefEqProofs (maxSteps:=4000000) (disch:=omega) only[za0,zhm,zq,go_sem, *])<;>(try simp only[zPr])));(all_goals try rfl);(all_goals try (repeat' (first|done|rfl|(exfalso;omega)|contradiction|(refine za6 (fun hq=> ?_) (fun hq=> ?_)))))
  all_goals exact⟨_,rfl⟩
 ·rw[zO znI (by simp)];simp -implicitDefEqProofs (maxSteps:=4000000) (disch:=omega) only[zjO,za0,zhm,zq,go_sem, *];(try simp only[zPr]);repeat' (first|done|rfl|((first|refine za5 (fun hq=> ?_) (fun hq=> ?_)|refine zbd (fun hq=> ?_) (fun hq=> ?_))<;>(try (first|(exfalso;omega)|contradiction))<;>(try simp -implicitDefEqProofs (maxSteps:=4000000) (disch:=omega) only[za0,zhm,zq,go_sem, *])<;>(try simp only[zPr])));(all_goals try rfl);(all_goals try (repeat' (first|done|rfl|(exfalso;omega)|contradiction|(refine za6 (fun hq=> ?_) (fun hq=> ?_)))))
  all_goals exact⟨_,rfl⟩
theorem zTk(a b:List UInt8)(ha:a.length=16)(hb:b.length=16):∃x:Bool,zh G 222 [.d (.sl (byD a)),.d (.sl (byD b))] []=some (.d (.bool x),[]):=by
 have hla:(byD a).length=16:=by unfold byD;simp [ha]
 have hlb:(byD b).length=16:=by unfold byD;simp [hb]
 have za:=byS a;have zb:=byS b;have ya:=_root_.Go.Proofs.YtjalkkalhdnplaaGreat.bytesD_ok a;have yb:=_root_.Go.Proofs.YtjalkkalhdnplaaGreat.bytesD_ok b;generalize byD a=aa at *;generalize byD b=bb at *;rw[zO zMp (by simp)];simp -implicitDefEqProofs (maxSteps:=4000000) (disch:=omega) only[zpP,zq,go_sem, *];(try simp only[zPr]);repeat' (first|done|rfl|((first|refine za5 (fun hq=> ?_) (fun hq=> ?_)|refine zbd (fun hq=> ?_) (fun hq=> ?_))<;>(try (first|(exfalso;omega)|contradiction))<;>(try simp -implicitDefEqProofs (maxSteps:=4000000) (disch:=omega) only[zq,go_sem, *])<;>(try simp only[zPr])));(all_goals try rfl);(all_goals try (repeat' (first|done|rfl|(exfalso;omega)|contradiction|(refine za6 (fun hq=> ?_) (fun hq=> ?_)))))
 all_goals exact⟨_,rfl⟩
theorem zQi(b:List UInt8)(hb:b.length<=4294967296):∃(h:zaW) (e:Int),(e=0->((0<=h.route/\h.route<65536)/\0<=h.hint)/\b.length=16/\1<=h.gen/\h.gen<=65536)/\zh G 164 [.d (zax b)] []=some (.d (.tup [zaz h,.int .i64 e]),[]):=by
 have hlen:(byD b).length=b.length:=by unfold byD;simp
 by_cases c:b.length=16
 ·obtain⟨v1,g1⟩:=znK b c 1 4 zo;obtain⟨v2,g2⟩:=znK b c 5 3 zo;obtain⟨v3,g3⟩:=znK b c 8 2 zo;obtain⟨v4,g4⟩:=znK b c 10 1 zo;rw[c] at hlen;unfold zax
  by_cases q:1<=v1/\v1<=1073741824/\1<=v2/\v2<=65536/\0<=v3/\v3<65536/\0<=v4/\v4<6
  ·obtain⟨x,lx,hx⟩:=zyD ⟨v1,v2,v3,v4⟩ q;obtain⟨s,hs⟩:=zTk x b lx c;simp only[zaz,zax] at hx
   rcases s with _|_
   ·refine⟨zf0,8,fun q=>by omega,?_⟩;simp only[zaz,zf0];generalize byD b=bb at *;generalize byD x=bx at *;clear c hb q;exact zW
   ·refine⟨⟨v1,v2,v3,v4⟩,0,fun _=>⟨⟨⟨q.2.2.2.2.1,q.2.2.2.2.2.1⟩,q.2.2.2.2.2.2.1⟩,c,q.2.2.1,q.2.2.2.1⟩,?_⟩;simp only[zaz];generalize byD b=bb at *;generalize byD x=bx at *;clear c hb q;exact zW
  ·have hx:=zyC ⟨v1,v2,v3,v4⟩ q;have e:byD []=[]:=rfl;simp only[zaz,zax,e] at hx;refine⟨zf0,8,fun q=>by omega,?_⟩;simp only[zaz,zf0];generalize byD b=bb at *;clear c hb q;exact zW
 ·refine⟨zf0,8,fun q=>by omega,?_⟩;have hc:¬(b.length:Int)=16:=by omega
  simp only[zaz,zf0,zax];generalize byD b=bb at *;exact zW
theorem zqq(h:zaW):∃p:List UInt8×Int,p.1.length<=16/\zh G 203 [.d (zaz h)] []=some (.d (.tup [zax p.1,.int .i64 p.2]),[]):=by
 by_cases q:1<=h.id/\h.id<=1073741824/\1<=h.gen/\h.gen<=65536/\0<=h.route/\h.route<65536/\0<=h.hint/\h.hint<6
 ·obtain⟨c,l,e⟩:=zyD h q;exact⟨(c,0),by simp only;omega,e⟩
 ·exact⟨([],1),by simp,zyC h q⟩
theorem zoK(b:List UInt8):∃p:zaW×Int,(p.2=0->((0<=p.1.route/\p.1.route<65536)/\0<=p.1.hint)/\b.length=16/\1<=p.1.gen/\p.1.gen<=65536)/\(b.length<=4294967296->zh G 164 [.d (zax b)] []=some (.d (.tup [zaz p.1,.int .i64 p.2]),[])):=by
 by_cases c:b.length<=4294967296
 ·obtain⟨h,e,q,r⟩:=zQi b c;exact⟨(h,e),q,fun _=>r⟩
 ·exact⟨(zf0,8),fun q=>by simp at q,fun q=>absurd q c⟩
noncomputable def zag:Tok:=⟨fun i=>Classical.choose (zoZ i),fun h=>Classical.choose (zqq h),fun b=>Classical.choose (zoK b)⟩
theorem zgv:zha zag:=by
 refine⟨⟨fun i=> ?_,fun b=> ?_⟩,fun i=> ?_,fun h=> ?_,fun b hb=> ?_⟩
 ·exact⟨(zXC (zoZ i)).1,(zXC (zoZ i)).2.1⟩
 ·exact fun q=>((zXC (zoK b)).1 q).1
 ·exact (zXC (zoZ i)).2.2
 ·exact (zXC (zqq h)).2
 ·exact (zXC (zoK b)).2 hb
theorem zmR(h:zaW):(zag.enc h).1.length<=16:=(zXC (zqq h)).1
theorem zVp(b:List UInt8)(q:(zag.par b).2=0):b.length=16/\1<=(zag.par b).1.gen/\(zag.par b).1.gen<=65536:=((zXC (zoK b)).1 q).2
theorem zO3(n l:Int)(h:1<=l/\l<=n/\n<=4):zh G 94 [.d (.int .i64 n),.d (.int .i64 l)] []=some (.d (.tup [zat (zet n l).1,.int .i64 0]),[]):=by
 have hn:n=1\/n=2\/n=3\/n=4:=by omega
 have hl:l=1\/l=2\/l=3\/l=4:=by omega
 rcases hn with rfl|rfl|rfl|rfl<;>rcases hl with rfl|rfl|rfl|rfl<;>(try (exfalso;omega))
 all_goals clear h
 all_goals (have zk0:= @za0;have zk1:=zAm.eq_1;have zk2:=zAn.eq_1;exact zW)
theorem zAX(s:Setup)(h4:s.slots<=4):zh G 45 [.d (zaH s)] []=some (.d (.tup [zn (zbq s).1,.int .i64 (zbq s).2]),[]):=by
 obtain⟨n,l,c,d,li,k,i,e⟩:=s;have g1:=zen n 1 6;have g2:=zen l 1 n;have g3:=zen c 1 12;have g4:=zen d 1 24;have g5:=zen li 1 8;have g6:=zen k 0 1073741824;have g7:=zen i 1 1073741824;have g8:=zen e 0 65536
 by_cases q:zav ⟨n,l,c,d,li,k,i,e⟩=true
 ·have hz:=zO5 d;have hf:=zzp c;have hs:=zrY c;have hd:=zO3 n l;have hN:∃D0,zet n l=D0:=⟨_,rfl⟩;obtain⟨R,hR⟩:∃R,zbq ⟨n,l,c,d,li,k,i,e⟩=R:=⟨_,rfl⟩;rw[hR];have p:=q;unfold zav at p;simp only[zWS] at p;obtain⟨i1,i2,i3,i4,i5,i6,i7,i8⟩:=p;rw[i1] at g1;rw[i2] at g2;rw[i3] at g3;rw[i4] at g4;rw[i5] at g5;rw[i6] at g6;rw[i7] at g7;rw[i8] at g8;unfold inI at i1 i2 i4;simp only[decide_eq_true_eq] at i1 i2 i4 h4;rw[zWy zo,zWy zo] at hz;replace hd:=hd zo;clear i3 i4 i5 i6 i7 i8;have hn:n=1\/n=2\/n=3\/n=4:=by omega
  have hl:l=1\/l=2\/l=3\/l=4:=by omega
  rcases hn with rfl|rfl|rfl|rfl<;>rcases hl with rfl|rfl|rfl|rfl<;>(try (exfalso;omega))
  all_goals
   clear i1 i2 h4;obtain⟨D0,hN⟩:=hN;rw[hN] at hd;have hM:=hN;simp [zet,zfA,zpa,zCh,List.range,List.range.loop,List.replicate] at hM;subst hM;simp only[zat,zbR,zt,zWD,zWA] at hd;simp only[zaH]
  all_goals (rw[zO zMv (by simp)];simp -implicitDefEqProofs (maxSteps:=4000000) (disch:=omega) only[zpV,za0,zro,zq,go_sem, *];(try simp only[zPr]);repeat' (first|done|rfl|((first|refine za5 (fun hq=> ?_) (fun hq=> ?_)|refine zbd (fun hq=> ?_) (fun hq=> ?_))<;>(try (first|(exfalso;omega)|contradiction))<;>(try simp -implicitDefEqProofs (maxSteps:=4000000) (disch:=omega) only[za0,zro,zq,go_sem, *])<;>(try simp only[zPr])));(all_goals try rfl);(all_goals try (repeat' (first|done|rfl|(exfalso;omega)|contradiction|(refine za6 (fun hq=> ?_) (fun hq=> ?_))))))
  all_goals (rw[<- hR];unfold zbq;rw[zWy (by rw[q];decide)];simp only[hN];rfl)
 ·have e0:zbq ⟨n,l,c,d,li,k,i,e⟩=(zB,1):=by
     unfold zbq;rw[zWz (by simpa using q)]
  rw[e0];unfold zav at q;simp only at q;have hz:zn zB= .agg [.sl [],.sl [],.int .i64 0,.int .i64 0,.sl [],.int .i64 0,.sl [],.sl [],.int .i64 0,.int .i64 0,.int .i64 0]:=rfl;simp only[hz];generalize inI n 1 6=b1 at *;generalize inI l 1 n=b2 at *;generalize inI c 1 12=b3 at *;generalize inI d 1 24=b4 at *;generalize inI li 1 8=b5 at *;generalize inI k 0 1073741824=b6 at *;generalize inI i 1 1073741824=b7 at *;generalize inI e 0 65536=b8 at *;simp only[zaH]
  cases b1
  ·clear q;exact zW
  cases b2
  ·clear q;exact zW
  cases b3
  ·clear q;exact zW
  cases b4
  ·clear q;exact zW
  cases b5
  ·clear q;exact zW
  cases b6
  ·clear q;exact zW
  cases b7
  ·clear q;exact zW
  cases b8
  ·clear q;exact zW
  exact absurd rfl q
def vlS(hp:zf)(k:Nat):St:=⟨[(2,.ref 2 0 0),(6,.d (.int .i64 k))],hp⟩
theorem zV2(v7 v8:List (List UInt8))(v2 v3 v4 v5 v6:Int)(hB:v7.length<=6)(hp:zf)(hh:hp=[(2,.row [.d (.agg [.int .i64 1,.int .i64 v2,.int .i64 v3,.int .i64 v4,.int .i64 v5,.int .i64 v6,.sl (v7.map .str),.sl (v8.map zax)])])]):∀k:Nat,k<=v7.length->zN G [] zrr (vlS hp k)=if ((v7.drop k).any fun b=>decide (16<b.length))=true then some (.ret,⟨[(4,.d (.int .i64 2))],[]⟩) else some (.exit 1,⟨[],[]⟩):=by
 refine zaB (fun k=>v7.length - k) _ _ _ fun k hk L ih=> ?_;simp only[vlS,hh,zrr] at ih ⊢
 by_cases h0:k<v7.length
 ·have i1:=ih (k+1) zo zo;have hd:v7.drop k=v7[k]::v7.drop (k+1):=zXf h0;rw[hd,zYu];clear ih hd
  by_cases c:16<v7[k].length
  ·rw[zWz (by simp [c])];clear i1;exact zS
  ·have e:(decide (16<v7[k].length)||(v7.drop (k+1)).any fun b=>decide (16<b.length))=(v7.drop (k+1)).any fun b=>decide (16<b.length):=by simp [c]
   rw[e];generalize ((v7.drop (k+1)).any fun b=>decide (16<b.length))=w at *;clear e;simp only[zNr,zp] at i1;exact zS
 ·have:k=v7.length:=by omega
  subst this;clear ih;rw[zWy (by simp)];exact zS
theorem zV3{i:zaS}{s:Setup}(hs:1<=s.slots/\s.slots<=6)(hT:i.tokens.length<=4294967296)(hB:i.bodies.length<=4294967296):zh G 46 [.d (zbK i),.d (zaH s)] []=some (.d (.int .i64 (zb4 i s)),[]):=by
 obtain⟨k,v2,v3,v4,v5,v6,v7,v8⟩:=i;obtain⟨s1,s2,s3,s4,s5,s6,s7,s8⟩:=s;simp only at *;have h1:=zlJ v2 0 (s1 - 1);have h2:=zlJ v3 1 6;have h3:=zlJ v4 0 1000;have h4:=zlJ v5 0 (s1 - 1);have h5:=zlJ v6 0 (s1 - 1);unfold zb4;simp only[zbK,zaH];generalize inI v2 0 (s1 - 1)=b1 at *;generalize inI v3 1 6=b2 at *;generalize inI v4 0 1000=b3 at *;generalize inI v5 0 (s1 - 1)=b4 at *;generalize inI v6 0 (s1 - 1)=b5 at *
 by_cases g:1<=k/\k<=14
 rotate_left
 ·rw[zWy zo,zWy zo,zWy zo,zWy zo,zWy zo,zWy zo,zWy zo];obtain⟨a1,a2,a3,a4,a5,a6,a7,a8,a9,d0,d1,d2,d3,d4⟩:¬k=1/\¬k=2/\¬k=3/\¬k=4/\¬k=5/\¬k=6/\¬k=7/\¬k=8/\¬k=9/\¬k=10/\¬k=11/\¬k=12/\¬k=13/\¬k=14:=by omega
  clear g h1 h2 h3 h4 h5;exact zW
 by_cases k1:k=1
 ·subst k1;rw[zWz rfl];clear h1 h2 h3 h4 h5 g
  by_cases c0:v7.length=0
  ·rw[zWz zo];exact zW
  by_cases c1:6<v7.length
  ·rw[zWz zo];exact zW
  rw[zWy zo];have hl:=zV2 v7 v8 v2 v3 v4 v5 v6 zo _ rfl 0 zo;simp only[vlS,zXg,zWV] at hl
  by_cases c:(v7.any fun b=>decide (16<b.length))=true
  ·rw[zWz c] at hl;rw[zWz c];clear c;exact zW
  ·rw[zWy c] at hl;rw[zWy c];clear c;exact zW
 rw[zWy k1]
 by_cases k2:k=2\/k=8
 ·rw[zWz k2];clear k1 g h4 h5
  rcases k2 with rfl|rfl<;>cases b1<;>cases b2<;>cases b3
  all_goals (exact zW)
 rw[zWy k2]
 by_cases k3:3<=k/\k<=5
 ·rw[zWz k3];have q:k=3\/k=4\/k=5:=by omega
  clear k1 k2 k3 g h1 h2 h4 h5
  by_cases c0:v8.length=0
  ·rw[zWz zo]
   rcases q with rfl|rfl|rfl
   all_goals (exact zW)
  by_cases c1:6<v8.length
  ·rw[zWz zo]
   rcases q with rfl|rfl|rfl
   all_goals (exact zW)
  rw[zWy zo]
  rcases q with rfl|rfl|rfl<;>cases b3
  all_goals (exact zW)
 rw[zWy k3];clear h1 h2 h3
 by_cases k4:9<=k/\k<=11
 ·rw[zWz k4];have q:k=9\/k=10\/k=11:=by omega
  clear k1 k2 k3 k4 g
  by_cases c:v5=v6
  ·subst c
   rcases q with rfl|rfl|rfl<;>cases b4<;>cases b5
   all_goals (exact zW)
  ·replace c:=zWE c
   rcases q with rfl|rfl|rfl<;>cases b4<;>cases b5
   all_goals (exact zW)
 rw[zWy k4];clear h5
 by_cases k5:k=12\/k=14
 ·rw[zWz k5];clear k1 k2 k3 k4 g
  rcases k5 with rfl|rfl<;>cases b4
  all_goals (exact zW)
 rw[zWy k5];clear h4
 by_cases k6:k=13
 ·subst k6;rw[zWz rfl]
  by_cases c1:v5<0
  ·exact zW
  by_cases c2:s1<v5
  ·exact zW
  ·exact zW
 rw[zWy k6,zWz zo];have q:k=6\/k=7:=by omega
 clear k1 k2 k3 k4 k5 k6 g
 rcases q with rfl|rfl
 all_goals (exact zW)
theorem zCp(m n:Int){i:zaS}{s:Setup}(h4:s.slots<=4)(hT:i.tokens.length<=4294967296)(hB:i.bodies.length<=4294967296):zh G 9 [.d (.int .i64 m),.d (zbK i),.d (zaH s),.d (.int .i64 n)] []=some (.d (.tup [zd (zcz m i s n).1,.int .i64 (zcz m i s n).2]),[]):=by
 have hn:=zAX s h4;unfold zcz;have hz:zd zC=(zd zC:D):=rfl
 by_cases c0:m<1\/200<m\/n<0
 ·rw[zWz c0];clear hn hz
  rcases c0 with c0|c0|c0
  all_goals simp only[zd,zC,zbK,ziu,zeb,zaH,zbU,zr,zcQ,zgw,zhf,zhG,zY,ziv,zat,zeH,zc2,zgx,zaz,zf0,zP,za3,zt,zWA]
  all_goals (exact zW)
 have c1:¬m<1:=by omega
 have c2:¬200<m:=by omega
 have c3:¬n<0:=by omega
 rw[zWy c0];clear c0
 by_cases q:zav s=false
 ·rw[zWz q];have e0:zbq s=(zB,1):=by
   unfold zbq;rw[zWz q]
  rw[e0] at hn;clear e0 q hz;have sz_zArena:=zbj zB;generalize zn zB=D_zArena at *;simp only[zd,zC,zbK,ziu,zeb,zaH,zbU,zr,zcQ,zgw,zhf,zhG,zY,ziv,zat,zeH,zc2,zgx,zaz,zf0,zP,za3,zt,zWA] at *;exact zW
 rw[zWy q];have hs:1<=s.slots/\s.slots<=6:=by
  have p:zav s=true:=by simpa using q
  unfold zav at p;simp only[zWS,inI,decide_eq_true_eq] at p;exact p.1
 have e1:(zbq s).2=0:=by
  unfold zbq;rw[zWy q]
 rw[e1] at hn;have hv:=zV3 hs hT hB;clear q e1 hs hz h4;generalize zbq s=r at *;obtain⟨r,re⟩:=r;simp only at hn;have sz_r:=zbj r;generalize zn r=D_r at *;generalize zb4 i s=w at *;clear hT hB
 by_cases c4:w=0
 ·subst c4;rw[zWy (by simp)];simp only[zd,zC,zbK,ziu,zeb,zaH,zbU,zr,zcQ,zgw,zhf,zhG,zY,ziv,zat,zeH,zc2,zgx,zaz,zf0,zP,za3,zt,zWA] at *;exact zW
 ·rw[zWz c4];replace c4:=zWE c4;simp only[zd,zC,zbK,ziu,zeb,zaH,zbU,zr,zcQ,zgw,zhf,zhG,zY,ziv,zat,zeH,zc2,zgx,zaz,zf0,zP,za3,zt,zWA] at *;exact zW
def zcT(s:Setup):World×Int:=if (zbq s).2≠0 then (zaA,(zbq s).2) else ({ zaA with setup:=s,arena:=(zbq s).1 },0)
theorem zAY(s:Setup)(h4:s.slots<=4):zh G 44 [.d (zaH s)] []=some (.d (.tup [zy (zcT s).1,.int .i64 (zcT s).2]),[]):=by
 have hn:=zAX s h4;unfold zcT;generalize zbq s=r at *;obtain⟨a,e⟩:=r;simp only at *
 by_cases c:e=0
 ·subst c;rw[zWy (by simp)];simp only[zy,zaH,zaA,zn,zWA] at *;exact zW
 ·rw[zWz c];replace c:=zWE c;simp only[zy,zaH,zaA,zeb,zn,zB,zWA,zgc,zP,zt] at *;exact zW
theorem zVr(w:World)(b:Int)(hc:0<=w.arena.clock/\w.arena.clock<=1073741824)(hs:0<=w.steps/\w.steps<=1000000)(hl:w.log.length<=1000000):zh G 143 [.d (zy w),.d (.int .i64 b)] []=some (.d (.tup [zy (zdy w b).1,.int .i64 (zdy w b).2]),[]):=by
 have ht:=zVq w.arena b hc;unfold zdy;generalize zea w.arena b=r at *;obtain⟨a,e⟩:=r;simp only at *
 by_cases c:e=0
 ·subst c;rw[zWy (by simp)];obtain⟨s,wa,tasks,handles,log,steps⟩:=w;simp only[zy,zaH,zn,zad,zbT,zWA,zWQ,zWD] at *;exact zW
 ·rw[zWz c];replace c:=zWE c;simp only[zy,zaH,zaA,zeb,zn,zB,zWA,zgc,zP,zt] at *;exact zW
def opL(l:List zi)(k:Nat):List Int:=((List.range k).filter fun i=> !(l.getD i zC).done).map fun i:Nat=>(i:Int)
theorem zP4(l:List zi)(k:Nat)(h:k<l.length):opL l (k+1)=if l[k].done=true then opL l k else opL l k++[(k:Int)]:=by
 unfold opL;rw[zZN,zZL,zWQ]
 cases c:l[k].done<;>simp [zX3,zWF h,c]
theorem zP3(l:List zi)(k:Nat):(opL l k).length<=k:=by
 unfold opL;rw[zWM];exact zXo (zXJ _ _) (by simp)
def opS(w:World)(k:Nat):St:=⟨[(1,.ref 1 0 0),(3,.acc 3 (zt (opL w.tasks k))),(4,.d (.int .i64 k))],[(1,.row [.d (zy w)]),(3,.acc (opL w.tasks k).length)]⟩
theorem zBf(w:World)(hl:w.tasks.length<=1000):∀k:Nat,k<=w.tasks.length->zN G [] zrs (opS w k)=some (.exit 0,⟨[(3,.acc 3 (zt (opL w.tasks w.tasks.length)))],[(3,.acc (opL w.tasks w.tasks.length).length)]⟩):=by
 refine zaB (fun k=>w.tasks.length - k) _ _ _ fun k hk L ih=> ?_;simp only[opS,zrs] at ih ⊢
 by_cases h0:k<w.tasks.length
 ·have i1:=ih (k+1) zo zo;clear ih;have hn:=zP3 w.tasks k;rw[zP4 w.tasks k h0] at i1;generalize opL w.tasks w.tasks.length=z at *;generalize opL w.tasks k=o at *;obtain⟨s,wa,tasks,log,steps,handles⟩:=w;simp only at h0;simp only[zy] at *
  cases c:tasks[k].done
  ·rw[c] at i1;simp only[zWL,if_false,zt,zWQ,zWD,zWA,zWJ] at i1 ⊢;simp only[zNr,zp] at i1;have zk0:=zd.eq_1;exact zS
  ·rw[c] at i1;simp only[if_true] at i1;simp only[zNr,zp] at i1;have zk0:=zd.eq_1;exact zS
 ·have e:k=w.tasks.length:=by omega
  rw[<- e];clear ih;have h1:(w.tasks.length:Int)<=k:=by omega
  generalize opL w.tasks k=o at *;obtain⟨s,wa,tasks,log,steps,handles⟩:=w;simp only[zy] at *;clear e;exact zS
theorem zmc(w:World)(hl:w.tasks.length<=1000)(q:opL w.tasks w.tasks.length=[]):zh G 55 [.d (zy w)] []=some (.xsl [],[]):=by
 have h:=zBf w hl 0 zo;have e:opL w.tasks 0=[]:=rfl;simp only[opS,e,zWA,zWK,zWV] at h;clear e;rw[q] at h;clear q;obtain⟨s,wa,tasks,log,steps,handles⟩:=w;simp only[zy,zt,zWA,zWK] at *;exact zW
theorem zoC(w:World)(hl:w.tasks.length<=1000)(o1:Int)(o:List Int)(q:opL w.tasks w.tasks.length=o1::o):zh G 55 [.d (zy w)] []=some (.osl 0 0 (o.length+1),[(0,.row (.d (.int .i64 o1)::(zt o).map .d))]):=by
 have h:=zBf w hl 0 zo;have e:opL w.tasks 0=[]:=rfl;simp only[opS,e,zWA,zWK,zWV] at h;clear e;rw[q] at h;clear q;obtain⟨s,wa,tasks,log,steps,handles⟩:=w;simp only[zy,zt,zWD,zWA,zWI,zWK] at *;exact zW
theorem zr7(w:World):opL w.tasks w.tasks.length=(za9 w).map fun i:Nat=>(i:Int):=rfl
theorem zoD(w:World):(opL w.tasks w.tasks.length).length=(za9 w).length:=by
 rw[zr7,zWM]
theorem zAb(w:World){i:zaS}(h4:w.setup.slots<=4)(hl:w.tasks.length<=200)(hT:i.tokens.length<=4294967296)(hB:i.bodies.length<=4294967296):zh G 116 [.d (zy w),.d (zbK i)] []=some (.d (.tup [zy (zcH w i).1,.int .i64 (zcH w i).2.1,.int .i64 (zcH w i).2.2]),[]):=by
 have hn:=zmc w zo;have hc:=zoC w zo;have hs:=zCp (w.tasks.length+1) w.steps (i:=i) (s:=w.setup) h4 hT hB;have hol:=zoD w;clear hT hB h4;unfold zcH;generalize zcz (w.tasks.length+1) i w.setup w.steps=r at *;obtain⟨t,e⟩:=r;simp only at *;have sz_i:=zGy i;generalize zbK i=D_i at *
 by_cases c0:200<=w.tasks.length
 ·rw[zWz (Or.inl c0)];clear hn hc hs hol;obtain⟨s,wa,tasks,log,steps,handles⟩:=w;simp only at c0;simp only[zy,zaH,zaA,zeb,zn,zB,zWA,zgc,zP,zt] at *;exact zW
 by_cases c1:8<=(za9 w).length
 ·rw[zWz (Or.inr c1)];rw[<- hol] at c1;clear hn hs hol;generalize opL w.tasks w.tasks.length=o at *
  rcases o with _|⟨o1,o⟩
  ·simp at c1
  have h:=hc o1 o rfl;clear hc;obtain⟨s,wa,tasks,log,steps,handles⟩:=w;simp only[zWI] at c0 c1;simp only[zy,zaH,zaA,zeb,zn,zB,zWA,zgc,zP,zt] at *;exact zW
 rw[zWy zo];rw[<- hol] at c1;clear hol;generalize opL w.tasks w.tasks.length=o at *
 rcases o with _|⟨o1,o⟩
 ·have h:=hn rfl;clear hn hc c1
  by_cases c2:e=0
  ·subst c2;rw[zWy (by simp)];obtain⟨s,wa,tasks,log,steps,handles⟩:=w;simp only at c0;simp only[zy,zaH,zWQ,zWD,zWA] at *;have sz_t:=zE t;generalize zd t=D_t at *;exact zW
  ·rw[zWz c2];replace c2:=zWE c2;obtain⟨s,wa,tasks,log,steps,handles⟩:=w;simp only at c0;simp only[zy,zaH,zaA,zeb,zn,zB,zWA,zgc,zP,zt] at *;have sz_t:=zE t;generalize zd t=D_t at *;exact zW
 ·have h:=hc o1 o rfl;clear hn hc
  by_cases c2:e=0
  ·subst c2;rw[zWy (by simp)];obtain⟨s,wa,tasks,log,steps,handles⟩:=w;simp only[zWI] at c0 c1;simp only[zy,zaH,zWQ,zWD,zWA] at *;have sz_t:=zE t;generalize zd t=D_t at *;exact zW
  ·rw[zWz c2];replace c2:=zWE c2;obtain⟨s,wa,tasks,log,steps,handles⟩:=w;simp only[zWI] at c0 c1;simp only[zy,zaH,zaA,zeb,zn,zB,zWA,zgc,zP,zt] at *;have sz_t:=zE t;generalize zd t=D_t at *;exact zW
theorem zUN{K:Tok}(hK:zha K){u:Setup}{w:World}{i:Nat}(hw:WI u w)(hi:i<w.tasks.length)(hN:w.steps<=999998)(hL:w.log.length<=1000000)(hev:(zaQ K w.arena w.tasks[i] (w.steps+1)).2.2.1.length<=1000)(hres:(zaQ K w.arena w.tasks[i] (w.steps+1)).2.2.2=0->(zaQ K w.arena w.tasks[i] (w.steps+1)).2.1.results=w.tasks[i].results\/∃r:Result,r.tokens.length<=1000/\(zaQ K w.arena w.tasks[i] (w.steps+1)).2.1.results=w.tasks[i].results++[r])(hrl:w.tasks[i].results.length<=1000)(hH:w.handles.length<=10000000)(hb:∀b∈(w.tasks[i]).inv.tokens,b.length<=4294967296):zh G 186 [.d (zy w),.d (.int .i64 i)] []=some (.d (.tup [zy (zcM K w i).1,.int .i64 (zcM K w i).2]),[]):=by
 have h:=zCC (n:=w.steps+1) hK hw.hu hw.ar (hw.ts _ (zWH hi)) zo hb;have hs:=hw.st;have hl:=hw.tl;unfold zcM;have e0:w.tasks.getD i zC=w.tasks[i]:=by rw[zWG,zWF hi];rfl
 simp only[e0];clear hw hb e0;generalize hr:zaQ K w.arena w.tasks[i] (w.steps+1)=r at *;obtain⟨a2,t2,ev,e⟩:=r;clear hr;simp only at *
 by_cases c:e=0
 ·subst c;rw[zWy (by simp)];obtain⟨s,wa,tasks,log,steps,handles⟩:=w;simp only at hi hN hL hs hl hH hres hrl;generalize ht:tasks[i]=t at *;obtain⟨u1,u2,u3,u4,u5,u6,u7,u8,u9,w1,w2,w3,w4,w5,w6,w7,w8,w9⟩:=t2;have hres:=hres trivial
  rcases hres with q|⟨x,hx,q⟩
  ·subst q;simp only[zXp,zWA,zYT,zWZ];clear hK;simp only[zy,zaH,zn,zd,zWQ,zWD,zWA] at *;have zk0:=zd.eq_1;have zk1:= @za0;have zk2:=zrt.eq_1;exact zW
  ·subst q;have hg:(List.map zZ t.results++[D.agg [.int .i64 x.err,.int .i64 x.id,.sl (x.tokens.map zax),.sl (x.bodies.map .str),.int .i64 x.ready,.int .i64 x.leased,.int .i64 x.moved]])[t.results.length]? = some (D.agg [.int .i64 x.err,.int .i64 x.id,.sl (x.tokens.map zax),.sl (x.bodies.map .str),.int .i64 x.ready,.int .i64 x.leased,.int .i64 x.moved]):=by
    rw[zXz (by simp)];simp
   simp only[zZS,zWD,zWA,zZT,zYT,zWZ];clear hK;simp only[zy,zaH,zn,zd,zWQ,zWD,zWA,zZ] at *;have zk0:=zd.eq_1;have zk1:=zZ.eq_1;have zk2:= @za0;have zk3:=zrt.eq_1;exact zW
 ·rw[zWz c];replace c:=zWE c;obtain⟨s,wa,tasks,log,steps,handles⟩:=w;simp only at hi hN hL hs hl;generalize ht:tasks[i]=t at *;simp only[zy,zaH,zaA,zeb,zn,zB,zWA,zgc,zP,zt] at *;exact zW
theorem zQu{K:Tok}{u:Setup}{w:World}{k:Int}(hw:WI u w)(hstep:∀i:Nat,i<w.tasks.length->zh G 186 [.d (zy w),.d (.int .i64 i)] []=some (.d (.tup [zy (zcM K w i).1,.int .i64 (zcM K w i).2]),[])):zh G 142 [.d (zy w),.d (.int .i64 k)] []=some (.d (.tup [zy (zcI K w k).1,.int .i64 (zcI K w k).2]),[]):=by
 have hl:=hw.tl;have hn:=zmc w zo;have hc:=zoC w zo;have hol:=zoD w;have hoo:=zr7 w;unfold zcI;clear hw
 by_cases c:k<0\/((za9 w).length:Int)<=k
 ·rw[zWz c];rw[<- hol] at c;clear hstep hol hoo;generalize opL w.tasks w.tasks.length=o at *;have hz:zy zaA= .agg [.int .i64 0,.int .i64 0,.int .i64 0,.int .i64 0,.int .i64 0,.int .i64 0,.int .i64 0,.int .i64 0,.sl [],.sl [],.int .i64 0,.int .i64 0,.sl [],.int .i64 0,.sl [],.sl [],.int .i64 0,.int .i64 0,.int .i64 0,.sl [],.sl [],.int .i64 0,.sl []]:=rfl;simp only[hz];clear hz
  rcases o with _|⟨o1,o⟩
  ·have h:=hn rfl;clear hn hc;have sz_w:=zbk w;generalize zy w=D_w at *
   by_cases c0:k<0
   ·clear c;exact zW
   ·simp only[zWK] at c;have c1:0<=k:=by omega
    clear c;exact zW
  ·have h:=hc o1 o rfl;clear hn hc;simp only[zWI] at c;have sz_w:=zbk w;generalize zy w=D_w at *
   by_cases c0:k<0
   ·clear c;exact zW
   ·have c1:(o.length:Int)+1<=k:=by omega
    clear c;exact zW
 ·rw[zWy c];have hk:k.toNat<(za9 w).length:=by omega
  have hs:=hstep _ (zoE hk);have hg:(opL w.tasks w.tasks.length)[k.toNat]? = some (((za9 w).getD k.toNat 0:Nat):Int):=by
   rw[hoo,zWT,zWG,zWF hk];rfl
  rw[<- hol] at c hk;generalize (za9 w).getD k.toNat 0=i at *;clear hstep hol hoo;generalize zcM K w i=r at *;obtain⟨r,e⟩:=r;simp only at hs;generalize opL w.tasks w.tasks.length=o at *
  rcases o with _|⟨o1,o⟩
  ·simp at hk
  have h:=hc o1 o rfl;clear hn hc;simp only;have sz_r:=zbk r;generalize zy r=D_r at *;have sz_w:=zbk w;generalize zy w=D_w at *;obtain⟨k2,rfl⟩:∃k2:Nat,k=k2:=⟨k.toNat,by omega⟩;simp only[zXb,zWI] at hg c hk;clear c;have hg2:(AV.d (D.int .i64 o1)::(zt o).map AV.d)[k2]? = some (.d (.int .i64 i)):=by
   show (((o1::o).map (D.int .i64)).map AV.d)[k2]? = _;rw[zWT,zWT,hg];rfl
  clear hg;exact zW
def zWr:Go.Sim.Obj:= .row [AV.agg [.d (.int .i64 0),.d (.int .i64 0),.d (.int .i64 0),.d (.int .i64 0),.d (.int .i64 0),.d (.int .i64 0),.d (.int .i64 0),.d (.int .i64 0),.xsl [],.xsl [],.d (.int .i64 0),.d (.int .i64 0),.xsl [],.d (.int .i64 0),.xsl [],.xsl [],.d (.int .i64 0),.d (.int .i64 0),.d (.int .i64 0),.xsl [],.xsl [],.d (.int .i64 0),.xsl []]]
def rnS(l:List Command)(p:Nat×World):St:=⟨[(1,.d (.sl (l.map zaZ))),(4,.ref 4 0 0),(6,.ref 6 0 0),(8,.d (.int .i64 p.1))],[(4,zWr),(6,.row [.d (zy p.2)])]⟩
def rnR(r:World×Int):Option (zT×St):=if r.2=0 then some (.exit 0,⟨[(4,.ref 4 0 0),(6,.ref 6 0 0)],[(4,zWr),(6,.row [.d (zy r.1)])]⟩) else some (.ret,⟨[(4,.ref 4 0 0),(5,.d (.int .i64 r.2))],[(4,zWr)]⟩)
theorem zSH{K:Tok}{l:List Command}(P:Nat->World->Prop)(hl:l.length<=400)(hdo:∀k w,∀c∈l,k<l.length->P k w->zh G 92 [.d (zy w),.d (zaZ c)] []=some (.d (.tup [zy (doW K w c).1,.int .i64 (doW K w c).2]),[]))(hk:∀k w,∀c∈l,k<l.length->P k w->(doW K w c).2=0->P (k+1) (doW K w c).1):∀p:Nat×World,p.1<=l.length/\P p.1 p.2->zN G [] zrv (rnS l p)=rnR (zdo K (l.drop p.1) p.2):=by
 refine zaB (fun p:Nat×World=>l.length - p.1) _ _ _ fun⟨k,w⟩ ⟨h1,h2⟩ L ih=> ?_;simp only at h1 h2;simp only[rnS,zrv] at ih ⊢
 by_cases h0:k<l.length
 ·have hd:=hdo k w l[k] (zWH h0) h0 h2;have hke:=hk k w l[k] (zWH h0) h0 h2;have e1:l.drop k=l[k]::l.drop (k+1):=zXf h0;rw[e1];unfold zdo;generalize doW K w l[k]=r at *;obtain⟨w2,e⟩:=r;simp only at *
  by_cases c:e=0
  ·subst c;have i1:=ih (k+1,w2) ⟨by simp only;omega,hke rfl⟩ (by simp only;omega);rw[zWy (by simp)];simp only at i1;clear ih hke hdo hk e1;generalize zdo K (l.drop (k+1)) w2=z at *;unfold rnR at *;have sz_w:=zbk w;generalize zy w=D_w at *;have sz_w2:=zbk w2;generalize zy w2=D_w2 at *;unfold zWr at *;simp only[zNr,zp] at i1;exact zS
  ·rw[zWz c];clear ih hke hdo hk e1;unfold rnR;rw[zWy c];replace c:=zWE c;have sz_w:=zbk w;generalize zy w=D_w at *;have sz_w2:=zbk w2;generalize zy w2=D_w2 at *;unfold zWr at *;exact zS
 ·have e1:l.drop k=[]:=zZJ zo;rw[e1];clear ih hdo hk e1;unfold zdo rnR;have sz_w:=zbk w;generalize zy w=D_w at *;unfold zWr at *;exact zS
theorem zSC{K:Tok}:∀(l:List Command) (w:World),(zdo K l w).2≠0->(zdo K l w).1=zaA:=by
 intro l
 induction l with
 | nil=>intro w h;exact absurd rfl h
 | cons c l ih=>
  intro w h;unfold zdo at h ⊢
  by_cases c1:(doW K w c).2=0
  ·rw[zWy (fun q=>q c1)] at h ⊢;exact ih _ h
  ·rw[zWz c1]
theorem zSA{K:Tok}{s:Setup}{l:List Command}(P:Nat->World->Prop)(h4:s.slots<=4)(hL:l.length<=400)(h0:(zcT s).2=0->P 0 (zcT s).1)(hdo:∀k w,∀c∈l,k<l.length->P k w->zh G 92 [.d (zy w),.d (zaZ c)] []=some (.d (.tup [zy (doW K w c).1,.int .i64 (doW K w c).2]),[]))(hk:∀k w,∀c∈l,k<l.length->P k w->(doW K w c).2=0->P (k+1) (doW K w c).1):zh G 41 [.d (zaH s),.d (.sl (l.map zaZ))] []=some (.d (.tup [zy (zew K s l).1,.int .i64 (zew K s l).2]),[]):=by
 have hn:=zAY s h4;have e0:zew K s l=if (zcT s).2≠0 then (zaA,(zcT s).2) else if 400<l.length then (zaA,2) else zdo K l (zcT s).1:=by
  unfold zew zcT
  by_cases c:(zbq s).2=0
  ·simp [c]
  ·simp [c]
 rw[e0];clear e0;have hz:zy zaA= .agg [.int .i64 0,.int .i64 0,.int .i64 0,.int .i64 0,.int .i64 0,.int .i64 0,.int .i64 0,.int .i64 0,.sl [],.sl [],.int .i64 0,.int .i64 0,.sl [],.int .i64 0,.sl [],.sl [],.int .i64 0,.int .i64 0,.int .i64 0,.sl [],.sl [],.int .i64 0,.sl []]:=rfl;generalize zcT s=r at *;obtain⟨w,e⟩:=r;simp only at *
 by_cases c:e=0
 ·subst c;rw[zWy (by simp)]
  by_cases c1:400<l.length
  ·omega
  ·rw[zWy c1];have h:=zSH P zo hdo hk (0,w) ⟨by simp,h0 rfl⟩;simp only[rnS,zXg,zWV] at h;have hre:=zSC (K:=K) l w;clear h0 hdo hk;generalize zdo K l w=z at *;obtain⟨z,ze⟩:=z;unfold rnR zWr at h;simp only at *;have sz_w:=zbk w;generalize zy w=D_w at *
   by_cases c2:ze=0
   ·subst c2;rw[zWz rfl] at h;clear hz hre;have sz_z:=zbk z;generalize zy z=D_z at *;exact zW
   ·rw[zWy c2] at h;rw[hre c2,hz];clear hz hre;replace c2:=zWE c2;exact zW
 ·rw[zWz c,hz];clear h0 hdo hk hz;replace c:=zWE c;have sz_w:=zbk w;generalize zy w=D_w at *;exact zW
theorem zF3{K:Tok}{u:Setup}{w:World}{c:Command}(hw:WI u w)(hs:w.steps<=1000000)(hl:w.log.length<=1000000)(hk:c.kind=2):zh G 92 [.d (zy w),.d (zaZ c)] []=some (.d (.tup [zy (doW K w c).1,.int .i64 (doW K w c).2]),[]):=by
 have ht:=zVr w (zbw 0 (zgm c.by_ 255)) hw.ar.ck ⟨hw.st,hs⟩ hl;have hm:(if 0<(if 255<c.by_ then 255 else c.by_) then (if 255<c.by_ then 255 else c.by_) else 0)=zbw 0 (zgm c.by_ 255):=by
  unfold zbw zgm
  by_cases q1:c.by_<255<;>by_cases q2:255<c.by_<;>simp only[q1,q2,if_true,if_false]<;>split<;>omega
 unfold doW;generalize zbw 0 (zgm c.by_ 255)=m at *;rw[zWy zo,zWz hk];clear hw hs hl;generalize zdy w m=r at *;obtain⟨r,e⟩:=r;simp only at *;obtain⟨k,pk,by_,iv,rf⟩:=c;simp only at *;subst hk;simp only[zaZ]
 by_cases c:e=0
 ·subst c;rw[zWz rfl];have sz_r:=zbk r;generalize zy r=D_r at *;have sz_w:=zbk w;generalize zy w=D_w at *;exact zW
 ·rw[zWy c];replace c:=zWE c;have sz_r:=zbk r;generalize zy r=D_r at *;have sz_w:=zbk w;generalize zy w=D_w at *;exact zW
theorem zF0{K:Tok}{w:World}{c:Command}(h1:¬c.kind=1)(h2:¬c.kind=2)(h3:¬c.kind=3):zh G 92 [.d (zy w),.d (zaZ c)] []=some (.d (.tup [zy (doW K w c).1,.int .i64 (doW K w c).2]),[]):=by
 unfold doW;rw[zWy h1,zWy h2,zWy h3];obtain⟨k,pk,by_,iv,rf⟩:=c;simp only at *;simp only[zaZ];have sz_w:=zbk w;generalize zy w=D_w at *;exact zW
theorem zFY{K:Tok}{w:World}{c:Command}(h4:w.setup.slots<=4)(hl:w.tasks.length<=200)(hT:c.inv.tokens.length<=4294967296)(hB:c.inv.bodies.length<=4294967296)(hk:c.kind=3)(hr:c.refs=[]):zh G 92 [.d (zy w),.d (zaZ c)] []=some (.d (.tup [zy (doW K w c).1,.int .i64 (doW K w c).2]),[]):=by
 have h:=zAb w h4 hl hT hB;unfold doW;rw[zWy zo,zWy zo,zWz hk];have e0:¬(0<c.refs.length):=by rw[hr];simp
 simp only[zWy e0];clear e0 hT hB hl h4;obtain⟨k,pk,by_,iv,rf⟩:=c;simp only at *;subst hk hr;generalize zcH w iv=r at *;obtain⟨r,n,e⟩:=r;simp only at *;simp only[zaZ,zbK,zWA] at *
 by_cases c:e=0
 ·subst c;rw[zWz rfl];have sz_r:=zbk r;generalize zy r=D_r at *;have sz_w:=zbk w;generalize zy w=D_w at *;exact zW
 ·rw[zWy c];replace c:=zWE c;have sz_r:=zbk r;generalize zy r=D_r at *;have sz_w:=zbk w;generalize zy w=D_w at *;exact zW
def RS(t x:zi):Prop:=x.inv=t.inv/\(x.results=t.results\/∃r:Result,(r.tokens.length<=12/\∀b∈r.tokens,b.length<=16)/\x.results=t.results++[r])
theorem RS.same{t x:zi}(h1:x.inv=t.inv)(h2:x.results=t.results):RS t x:=⟨h1,.inl h2⟩
theorem RS.next{t x:zi}(r:Result)(n:Int)(h1:x.inv=t.inv)(h2:x.results=t.results)(h3:r.tokens.length<=12/\∀b∈r.tokens,b.length<=16):RS t (zaY x r n):=
 ⟨h1,.inr ⟨r,h3,by show x.results++[r]=_;rw[h2]⟩⟩
theorem zfO{r:Result}(h:r.tokens=[]):r.tokens.length<=12/\∀b∈r.tokens,b.length<=16:=by rw[h];simp
theorem zlD(a:zg)(t:zi)(n:Int)(e:(goT a t n).2.2.2.2=0):(goT a t n).2.1.inv=t.inv/\(goT a t n).2.1.results=t.results:=by
 unfold goT at e ⊢
 split
 ·rename_i c;rw[zWz c] at e;exact absurd e c
 ·exact⟨rfl,rfl⟩
theorem zmi{plan:zi->Pln}(h:∀t,(plan t).2.1.tokens=[])(lo hi:Int)(cells:zi->List Int)(a:zg)(t:zi)(n:Int)(e:(zaL plan lo hi cells a t n).2.2.2=0):RS t (zaL plan lo hi cells a t n).2.1:=by
 unfold zaL zbM at *;simp only at *
 split
 ·rename_i c;rw[zWz c] at e;exact absurd e c
 rename_i c;rw[zWy c] at e;have h0:(if t.pc=0 then zcc t (cells t) 1 else t).inv=t.inv/\(if t.pc=0 then zcc t (cells t) 1 else t).results=t.results:=by split<;>exact⟨rfl,rfl⟩
 generalize (if t.pc=0 then zcc t (cells t) 1 else t)=t' at *;have hg:=zlD a t' n;generalize goT a t' n=g at *
 split
 ·rename_i c;rw[zWz c] at e;exact absurd e c
 rename_i c;have hg:=hg (zWO.1 c)
 split
 ·exact .same (hg.1.trans h0.1) (hg.2.trans h0.2)
 split
 ·exact .same (hg.1.trans h0.1) (hg.2.trans h0.2)
 ·exact .next _ _ (hg.1.trans h0.1) (hg.2.trans h0.2) (zfO (h _))
theorem zQU(a:zg)(t:zi)(n:Int)(e:(zdk a t n).2.2.2=0):RS t (zdk a t n).2.1:=by
 unfold zdk at *;simp only at *
 split
 ·rename_i c;rw[zWz c] at e;exact absurd e c
 rename_i c;rw[zWy c] at e
 split
 ·split
  ·exact .next _ _ rfl rfl (zfO rfl)
  ·exact .same rfl rfl
 rename_i c;rw[zWy c] at e
 split
 ·rename_i c;rw[zWz c] at e;exact absurd e c
 split
 ·exact .same rfl rfl
 ·exact .next _ _ rfl rfl (zfO rfl)
theorem zFd(a:zg)(t:zi)(n:Int)(e:(zaj a t n).2.2.2=0):RS t (zaj a t n).2.1:=by
 unfold zaj at *;simp only at *
 split
 ·rename_i c;rw[zWz c] at e;exact absurd e c
 rename_i c;rw[zWy c] at e
 split
 ·exact .same rfl rfl
 rename_i c;rw[zWy c] at e
 split
 ·rename_i c;rw[zWz c] at e
  split
  ·rename_i c;rw[zWz c] at e;exact absurd e c
  ·exact .same rfl rfl
 rename_i c;rw[zWy c] at e
 split
 ·rename_i c;rw[zWz c] at e
  split
  ·rename_i c;rw[zWz c] at e;exact absurd e c
  ·exact .same rfl rfl
 split
 ·exact .same rfl rfl
 ·exact .next _ _ rfl rfl (zfO rfl)
theorem zRN(a:zg)(t:zi)(n:Int)(e:(zdm a t n).2.2.2=0):RS t (zdm a t n).2.1:=by
 have h:∀t,(zcU t).1.inv=t.inv/\(zcU t).1.results=t.results:=by
  intro t;unfold zcU;simp only
  split
  ·exact⟨rfl,rfl⟩
  split
  ·exact⟨rfl,rfl⟩
  split<;>exact⟨rfl,rfl⟩
 unfold zdm zbM at *;simp only at *
 split
 ·rename_i c;rw[zWz c] at e;exact absurd e c
 rename_i c;rw[zWy c] at e
 split
 ·exact .same rfl rfl
 rename_i c;rw[zWy c] at e;have hg:=zlD a t n;generalize goT a t n=g at *
 split
 ·rename_i c;rw[zWz c] at e;exact absurd e c
 rename_i c;have hg:=hg (zWO.1 c)
 split
 ·exact .same ((h _).1.trans hg.1) ((h _).2.trans hg.2)
 split
 ·exact .same hg.1 hg.2
 split
 ·exact .same hg.1 hg.2
 ·exact .next _ _ hg.1 hg.2 (zfO rfl)
theorem zUb(K:Tok)(a:zg)(t:zi)(n:Int)(e:(zdr K a t n).2.2.2=0):RS t (zdr K a t n).2.1:=by
 have h:∀t,(zda t).1.inv=t.inv/\(zda t).1.results=t.results:=by
  intro t;unfold zda;simp only
  split<;>exact⟨rfl,rfl⟩
 unfold zdr zbM at *;simp only at *
 split
 ·rename_i c;rw[zWz c] at e;exact absurd e c
 rename_i c;rw[zWy c] at e
 split
 ·split
  ·exact .next _ _ rfl rfl (zfO rfl)
  ·simp only
   split<;>exact .same rfl rfl
 rename_i c;rw[zWy c] at e
 split
 ·exact .same rfl rfl
 rename_i c;rw[zWy c] at e;have hg:=zlD a t n;generalize goT a t n=g at *
 split
 ·rename_i c;rw[zWz c] at e;exact absurd e c
 rename_i c;have hg:=hg (zWO.1 c)
 split
 ·exact .same ((h _).1.trans hg.1) ((h _).2.trans hg.2)
 split
 ·exact .same hg.1 hg.2
 split
 ·exact .same hg.1 hg.2
 ·exact .next _ _ hg.1 hg.2 (zfO rfl)
theorem zTW(K:Tok)(a:zg)(t:zi)(n:Int)(e:(zdp K a t n).2.2.2=0):RS t (zdp K a t n).2.1:=by
 have h:∀t,(zc9 K t).1.inv=t.inv/\(zc9 K t).1.results=t.results:=by
  intro t;unfold zc9;simp only
  split
  ·exact⟨rfl,rfl⟩
  split
  ·split<;>exact⟨rfl,rfl⟩
  ·exact⟨rfl,rfl⟩
 unfold zdp zbM at *;simp only at *
 split
 ·rename_i c;rw[zWz c] at e;exact absurd e c
 rename_i c;rw[zWy c] at e
 split
 ·split
  ·exact .next _ _ rfl rfl (zfO rfl)
  ·exact .same rfl rfl
 rename_i c;rw[zWy c] at e
 split
 ·rename_i c;rw[zWz c] at e
  split
  ·rename_i c;rw[zWz c] at e;exact absurd e c
  ·simp only
   split<;>exact .same rfl rfl
 rename_i c;rw[zWy c] at e
 split
 ·exact .same rfl rfl
 rename_i c;rw[zWy c] at e;have hg:=zlD a t n;generalize goT a t n=g at *
 split
 ·rename_i c;rw[zWz c] at e;exact absurd e c
 rename_i c;have hg:=hg (zWO.1 c)
 split
 ·exact .same ((h _).1.trans hg.1) ((h _).2.trans hg.2)
 split
 ·exact .same hg.1 hg.2
 split
 ·exact .next _ _ hg.1 hg.2 (zfO rfl)
 split
 ·exact .next _ _ hg.1 hg.2 (zfO rfl)
 ·exact .same hg.1 hg.2
theorem zRE{K:Tok}(hK:∀h,(K.enc h).1.length<=16)(a:zg)(t:zi)(n:Int)(e:(zdl K a t n).2.2.2=0):RS t (zdl K a t n).2.1:=by
 have h:∀t,(zc8 t).1.inv=t.inv/\(zc8 t).1.results=t.results:=by
  intro t;unfold zc8;simp only
  split
  ·exact⟨rfl,rfl⟩
  split
  ·exact⟨rfl,rfl⟩
  split
  ·exact⟨rfl,rfl⟩
  split<;>exact⟨rfl,rfl⟩
 have ht:∀t,(zij K t).tokens.length<=12/\∀b∈(zij K t).tokens,b.length<=16:=by
  intro t;unfold zij;simp only[zWM];refine⟨zCy _ _ _ _ _ _,fun b hb=> ?_⟩;obtain⟨y,_,rfl⟩:=zWP.1 hb;exact hK _
 unfold zdl zbM at *;simp only at *
 split
 ·rename_i c;rw[zWz c] at e;exact absurd e c
 rename_i c;rw[zWy c] at e
 split
 ·exact .same rfl rfl
 rename_i c;rw[zWy c] at e
 split
 ·exact .same rfl rfl
 rename_i c;rw[zWy c] at e;have hg:=zlD a t n;generalize goT a t n=g at *
 split
 ·rename_i c;rw[zWz c] at e;exact absurd e c
 rename_i c;have hg:=hg (zWO.1 c)
 split
 ·exact .same ((h _).1.trans hg.1) ((h _).2.trans hg.2)
 split
 ·exact .same hg.1 hg.2
 split
 ·exact .next _ _ hg.1 hg.2 (zfO rfl)
 split
 ·exact .next _ _ hg.1 hg.2 (zfO rfl)
 split
 ·exact .next _ _ hg.1 hg.2 (ht _)
 ·exact .same hg.1 hg.2
theorem zsZ{K:Tok}(hK:∀h,(K.enc h).1.length<=16)(a:zg)(t:zi)(n:Int)(e:(zaQ K a t n).2.2.2=0):RS t (zaQ K a t n).2.1:=by
 have zsP:∀t,(zdv t).2.1.tokens=[]:=by
  intro t;unfold zdv;simp only;split
  ·rfl
  split<;>rfl
 have zsM:∀t,(zdu t).2.1.tokens=[]:=by
  intro t;unfold zdu;simp only;split<;>rfl
 have zrS:∀t,(zdi t).2.1.tokens=[]:=by
  intro t;unfold zdi;simp only;split<;>rfl
 have zsV:∀t,(zdb t).2.1.tokens=[]:=by
  intro t;unfold zdb;simp only;split
  ·rfl
  split
  ·rfl
  split
  ·rfl
  split<;>rfl
 have zpO:∀t,(zc0 t).2.1.tokens=[]:=by
  intro t;unfold zc0;simp only;split
  ·rfl
  split<;>rfl
 unfold zaQ at *
 by_cases c:t.done=true
 ·rw[zWz c] at e;exact absurd e (by decide)
 rw[zWy c] at e ⊢
 by_cases c0:t.inv.kind=1
 ·rw[zWz c0] at e ⊢; exact zTW K a t n e
 rw[zWy c0] at e ⊢
 by_cases c1:t.inv.kind=2
 ·rw[zWz c1] at e ⊢; exact zRE hK a t n e
 rw[zWy c1] at e ⊢
 by_cases c2:3<=t.inv.kind/\t.inv.kind<=5
 ·rw[zWz c2] at e ⊢; exact zUb K a t n e
 rw[zWy c2] at e ⊢
 by_cases c3:t.inv.kind=6
 ·rw[zWz c3] at e ⊢; exact zQU a t n e
 rw[zWy c3] at e ⊢
 by_cases c4:t.inv.kind=7
 ·rw[zWz c4] at e ⊢; exact zFd a t n e
 rw[zWy c4] at e ⊢
 by_cases c5:t.inv.kind=8
 ·rw[zWz c5] at e ⊢; exact zRN a t n e
 rw[zWy c5] at e ⊢
 by_cases c6:t.inv.kind=9
 ·rw[zWz c6] at e ⊢; exact zmi zsP _ _ _ a t n e
 rw[zWy c6] at e ⊢
 by_cases c7:t.inv.kind=10
 ·rw[zWz c7] at e ⊢; exact zmi zsM _ _ _ a t n e
 rw[zWy c7] at e ⊢
 by_cases c8:t.inv.kind=11
 ·rw[zWz c8] at e ⊢; exact zmi zrS _ _ _ a t n e
 rw[zWy c8] at e ⊢
 by_cases c9:t.inv.kind=12\/t.inv.kind=13
 ·rw[zWz c9] at e ⊢; exact zmi zsV _ _ _ a t n e
 rw[zWy c9] at e ⊢
 by_cases c10:t.inv.kind=14
 ·rw[zWz c10] at e ⊢; exact zmi zpO _ _ _ a t n e
 rw[zWy c10] at e ⊢;exact absurd e (by decide)
end Go.Proofs.YtjalkkalhdnplaaGreat
