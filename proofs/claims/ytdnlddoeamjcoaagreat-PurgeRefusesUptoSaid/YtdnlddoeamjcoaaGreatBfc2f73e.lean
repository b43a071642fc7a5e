/-
  A step of a count.
-/
import Derived.Test.YtdnlddoeamjcoaaGreatB842129c
import Derived.Test.YtdnlddoeamjcoaaGreatBd592c34
import Derived.Test.YtdnlddoeamjcoaaGreatBb3fd0a8
set_option linter.unusedSimpArgs false
set_option linter.unusedVariables false
set_option maxHeartbeats 10000000
set_option maxRecDepth 100000
namespace Go.Proofs.YtdnlddoeamjcoaaGreat
open Go Go.Sim
def idG(i:Int):Grant:=⟨i,0,0,0⟩
def unA(s:Section):AV:= .agg [.d (.sl (s.shards.map zk)),.d (.int .i64 s.dead.cap),.d (.sl (s.dead.l.map zn)),.xsl [],.xsl [],.xsl []]
def evA(t:zq)(kind:Int)(c:AV):AV:= .agg [.d (.int .i64 t.sec.snap.stamp),.d (.int .i64 t.number),.d (.int .i64 t.entry),.d (.int .i64 kind),.d (.int .i64 t.sec.snap.clock),.d (.int .i64 t.sec.snap.epoch),.d (.int .i64 0),c,.d (.int .i64 0),.d (.int .i64 0)]
def zel:AV:= .agg [.d (.int .i64 0),.d (.int .i64 0),.xsl [],.xsl [],.d (.int .i64 0),.d (.int .i64 0),.d (.int .i64 0)]
def zjw:AV:= .agg [.xsl [],.d (.int .i64 0),.xsl [],.xsl [],.xsl [],.xsl []]
def zjI(t:zq)(x:zu)(u:List Int)(out:List Int)(i:Nat):St:=⟨[(2,.ref 2 0 0),(3,.ref 3 0 0),(5,.ref 5 0 0),(14,.ref 14 0 0),(15,.d (.sl (zB u))),(17,.ref 17 0 0),(18,.d (.int .i64 i))],[(2,.row [zjw]),(3,.row [zel]),(5,.row [unA t.sec]),(14,.row [.d (zk x)]),(17,.row [evA t 10 (accC 500115 ((out.map idG).map zbq))])]++zan 500115 ((out.map idG).map zbq)⟩
def znN(t:zq)(x:zu)(u:List Int)(out:List Int):zac×St:=(.exit 0,⟨[(2,.ref 2 0 0),(3,.ref 3 0 0),(5,.ref 5 0 0),(14,.ref 14 0 0),(15,.d (.sl (zB u))),(17,.ref 17 0 0)],[(2,.row [zjw]),(3,.row [zel]),(5,.row [unA t.sec]),(14,.row [.d (zk x)]),(17,.row [evA t 10 (accC 500115 ((out.map idG).map zbq))])]++zan 500115 ((out.map idG).map zbq)⟩)
theorem zabz(t:zq)(x:zu)(u:List Int)(hu:u.length<=1000):∀p:List Int×Nat,(p.2<=u.length/\p.1.length<=p.2)->zai G [] zkI (zjI t x u p.1 p.2)=some (znN t x u (p.1++u.drop p.2)):=by
 refine za3 (fun p:List Int×Nat=>u.length - p.2) (fun p:List Int×Nat=>(p.2<=u.length/\p.1.length<=p.2)) (fun p=>zjI t x u p.1 p.2) (fun p=>some (znN t x u (p.1++u.drop p.2))) fun⟨out,i⟩ ⟨hi,hr⟩ L ih=> ?_;simp only at hi hr
 by_cases h0:i<u.length
 ·simp only;rw[zady h0];have i1:=ih ⟨out++[u[i]],i+1⟩ ⟨by simp only;omega,by simp only[zac6,zadF];omega⟩ (by simp only;omega);clear ih;simp only[zadK,zaeM] at i1;have hG:D.agg [D.int .i64 u[i],D.int .i64 0,D.int .i64 0,D.int .i64 0]=zbq (idG u[i]):=rfl;generalize znN t x u (out++u[i]::u.drop (i+1))=R at *
  cases out with
  | nil=>
   simp only[zjI,accC,zan,evA,zel,zjw,unA,zkI,zacZ,zadk,zadi,zadl,zadg,zac1,zac5] at *;simp only[zNr,zE] at i1;exact zS
  | cons r0 rs=>
   simp only[zjI,accC,zan,evA,zel,zjw,unA,zkI,zacZ,zadg,zac1,zadd,zadl,zadi,zac4,zac6,zac5] at *;simp only[zNr,zE] at i1;exact zS
 ·clear ih;obtain rfl:i=u.length:=by omega
  simp only[zadI,zadk,znN]
  cases out with
  | nil=>
   simp only[zjI,accC,zan,evA,zel,zjw,unA,zkI,zacZ,zadk] at *;exact zS
  | cons r0 rs=>
   simp only[zjI,accC,zan,evA,zel,zjw,unA,zkI,zac1,zadd,zadl,zadi,zac4] at *;exact zS
theorem zHJ(s:zu)(now ep lim:Int):(zc2 s now ep lim).2.1.length<=12:=by
 unfold zc2
 split
 ·simp
 split
 ·exact zMa _ _ _
 ·simp
theorem zs8{u:Setup}{N:Int}{t:zq}(hs:SI u N t.sec)(hk:t.sec.shards.length<=1):zg G zqD [.d (zd t)] []=some (.d (.tup [zZ (zbx t).1,z6 (zbx t).2.1,.sl ((zbx t).2.2.map zad)]),[]):=by
 have hu:=zhK t.sec;unfold zbx;simp only
 by_cases c0:t.sec.shards.length=0
 ·rw[zacY c0];have hcd:=zTr t.sec.dead t.sec.snap.epoch (by have:=hs.dv;omega);have e0:t.sec.shards=[]:=zadN.1 c0;generalize zhS t.sec.dead t.sec.snap.epoch=d at *;obtain⟨d1,d2,d3⟩:=d;simp only at *;clear hs hk c0
  by_cases c1:0<d2
  ·rw[zacY c1];simp only[e0,zd,zC,zZ,zaa,za8,z6,zam,zX,zacZ,zB,zac1] at *;clear e0;exact zW zje
  ·rw[zacX c1];simp only[e0,zd,zC,zZ,zaa,za8,z6,zam,zX,zacZ,zB,zac1] at *;clear e0;exact zW zje
 rw[zacX c0];have hk1:t.sec.shards.length=1:=by omega
 rw[zdH hk1];have hv:=(hs.sv _ (zadf (show 0<t.sec.shards.length by omega))).1;have hb:zbn t.sec.shards[0]:=zf8 (zci hv);clear hs hk c0
 by_cases c1:t.sec.shards[0].live=false
 ·rw[zacY c1];clear hv hb;simp only[zd,zC,zZ,zaa,za8,z6,zam,zacZ,zB] at *;exact zW zje
 rw[zacX c1];replace c1:t.sec.shards[0].live=true:=by simpa using c1
 by_cases c2:t.inv.kind=13
 ·rw[zacY c2];have hcl:=zTq t.sec.shards[0] t.sec.snap.epoch hb;generalize zhT t.sec.shards[0] t.sec.snap.epoch=x at *;obtain⟨x1,x2,x3⟩:=x;replace c2:=zadb c2;clear hv hb;simp only at *
  by_cases c3:0<x2
  ·rw[zacY c3];simp only[zd,zC,zZ,zaa,za8,z6,zam,zacZ,zac1,zB] at *;exact zW zje
  ·rw[zacX c3];simp only[zd,zC,zZ,zaa,za8,z6,zam,zacZ,zB] at *;exact zW zje
 ·rw[zacX c2];have hex:=zHK t.sec.shards[0] t.sec.snap.clock t.sec.snap.epoch t.setup.limit hb;have hel:=zHJ t.sec.shards[0] t.sec.snap.clock t.sec.snap.epoch t.setup.limit;have hsn:=zlo t 10;generalize zc2 t.sec.shards[0] t.sec.snap.clock t.sec.snap.epoch t.setup.limit=x at *;obtain⟨x1,u,x3⟩:=x;replace c2:=zac3 c2;clear hv hb;simp only at *;have hlp:=zabz t x1 u zo ⟨[],0⟩ ⟨by simp,by simp⟩
  cases u with
  | nil=>
   clear hlp;simp only[zac5,if_true];simp only[zd,zC,zZ,zaa,za8,z6,zam,zacZ,zB] at *;exact zW zje
  | cons u0 us=>
   rw[zacX (by simp)];simp only[zjI,znN,accC,zan,evA,zc9,zel,zjw,unA,idG,zb0,zbt,zad,zbq,zd,zC,zZ,zaa,za8,z6,zam,zadu,zacZ,zac1,zadV,zadi,zadk,zadl,zac4,zadd,zB,Function.comp_def,zado] at *;exact zW zje
theorem zLR(d:zaM)(h:Int)(hL:d.l.length<=4294967296):zg G zqh [.d (zU d),.d (.int .i64 h)] []=some (.d (.int .i64 (zdy d h)),[]):=by
 have h1:=z8j d h hL;have h2:=zNC d 0 hL;unfold zdy;generalize zky d h=v at *;simp only[zU] at *
 by_cases c:0<=v
 ·rw[zacY c];exact zW zIM
 ·rw[zacX c];exact zW zIM
theorem zQD{t:zq}(hk:t.sec.shards.length=1)(hv:zaf t.sec.shards[0]=0):zg G zqq [.d (zd t)] []=some (.d (.int .i64 (zgy t)),[]):=by
 have hst:=zhH t.sec.shards[0] (zf8 (zci hv));have hb:=znJ hv;have hl:=(zci hv).1;unfold zgy zim;rw[zdH hk];generalize zbs t.sec.shards[0]=sd at *;have e:(if t.inv.max<(t.sec.shards[0].ready.cells.length:Int) - sd then t.inv.max else (t.sec.shards[0].ready.cells.length:Int) - sd)=(if (t.sec.shards[0].ready.cells.length:Int) - sd<t.inv.max then (t.sec.shards[0].ready.cells.length:Int) - sd else t.inv.max):=by split<;>split<;>omega
 rw[e];clear e hv;simp only[zd] at *;exact zW zX9
def rdG(s:zu)(m:zl):Grant:=⟨m.id,m.gen,(zct (zbR m) s.low s.high).route,0⟩
def zjz(t:zq)(s:zu)(d:zbw)(l:List zl)(out:List zl)(m0:AV)(hm:zf)(i:Nat):St:=⟨[(1,.ref 1 0 0),(2,.ref 2 0 0),(4,.ref 4 0 0),(5,.ref 5 0 0),(6,.ref 6 0 0),(8,.ref 8 0 0),(9,.d (.sl (l.map zn))),(11,.d (.int .i64 i))],[(1,.row [.d (zd t)]),(2,.row [m0]),(4,.row [.d (zk s)]),(5,.row [.agg [.d (.sl (t.sec.shards.map zk)),.d (.int .i64 t.sec.dead.cap),.d (.sl (t.sec.dead.l.map zn)),.xsl [],accC 77 ((out.map zbR).map zn),.xsl []]]),(6,.row [evA t 9 (accC 500094 ((out.map (rdG s)).map zbq))]),(8,.row [.d (zX d)])]++zan 77 ((out.map zbR).map zn)++zan 500094 ((out.map (rdG s)).map zbq)⟩
def tkZ:AV:= .agg [.d (.int .i64 0),.d (.int .i64 0),.d (.int .i64 0),.d (.int .i64 0),.d (.int .i64 0),.d (.int .i64 0),.d (.int .i64 0),.xsl [],.xsl [],.d (.int .i64 0),.d (.bool false),.d (.int .i64 0),.d (.int .i64 0),.d (.int .i64 0),.xsl [],.d (.int .i64 0),.d (.int .i64 0),.d (.int .i64 0),.d (.int .i64 0),.d (.int .i64 0),.d (.int .i64 0),.d (.int .i64 0),.d (.int .i64 0),.d (.int .i64 0),.d (.int .i64 0),.xsl [],.d (.int .i64 0),.d (.int .i64 0),.d (.int .i64 0),.d (.int .i64 0),.d (.int .i64 0),.d (.int .i64 0),.d (.int .i64 0),.d (.int .i64 0),.xsl [],.d (.int .i64 0),.xsl [],.xsl [],.d (.int .i64 0),.xsl [],.xsl [],.xsl [],.d (.int .i64 0),.xsl [],.xsl [],.xsl [],.xsl [],.d (.int .i64 0),.xsl [],.d (.int .i64 0),.xsl [],.xsl [],.d (.int .i64 0),.d (.int .i64 0),.d (.int .i64 0),.d (.int .i64 0),.d (.int .i64 0),.d (.int .i64 0),.d (.int .i64 0),.d (.int .i64 0),.d (.int .i64 0),.xsl [],.xsl []]
def znp(t:zq)(s:zu)(d:zbw)(out:List zl):zac×St:=(.exit 0,⟨[(1,.ref 1 0 0),(2,.ref 2 0 0),(4,.ref 4 0 0),(5,.ref 5 0 0),(6,.ref 6 0 0),(8,.ref 8 0 0)],[(1,.row [.d (zd t)]),(2,.row [tkZ]),(4,.row [.d (zk s)]),(5,.row [.agg [.d (.sl (t.sec.shards.map zk)),.d (.int .i64 t.sec.dead.cap),.d (.sl (t.sec.dead.l.map zn)),.xsl [],accC 77 ((out.map zbR).map zn),.xsl []]]),(6,.row [evA t 9 (accC 500094 ((out.map (rdG s)).map zbq))]),(8,.row [.d (zX d)])]++zan 77 ((out.map zbR).map zn)++zan 500094 ((out.map (rdG s)).map zbq)⟩)
theorem z8v(t:zq)(s:zu)(d:zbw)(l:List zl)(hl:l.length<=1000):∀p:List zl×Nat,(p.2<=l.length/\p.1.length<=p.2)->zai G [] zkH (zjz t s d l p.1 tkZ [] p.2)=some (znp t s d (p.1++l.drop p.2)):=by
 refine za3 (fun p:List zl×Nat=>l.length - p.2) (fun p:List zl×Nat=>(p.2<=l.length/\p.1.length<=p.2)) (fun p=>zjz t s d l p.1 tkZ [] p.2) (fun p=>some (znp t s d (p.1++l.drop p.2))) fun⟨out,i⟩ ⟨hi,hr⟩ L ih=> ?_;simp only at hi hr
 by_cases h0:i<l.length
 ·simp only;rw[zady h0];have hrv:=z9k l[i];have hrr:zg G zlH [.d (zn (zbR l[i])),.d (.int .i64 s.low),.d (.int .i64 s.high)] []=some (.d (.agg [.int .i64 (zct (zbR l[i]) s.low s.high).id,.int .i64 (zct (zbR l[i]) s.low s.high).route,.int .i64 (zct (zbR l[i]) s.low s.high).epoch,.int .i64 (zct (zbR l[i]) s.low s.high).count,.int .i64 (zct (zbR l[i]) s.low s.high).gen,.int .i64 (zct (zbR l[i]) s.low s.high).sent,.str (zct (zbR l[i]) s.low s.high).body]),[]):=zQz (zbR l[i]) s.low s.high;have i1:=ih ⟨out++[l[i]],i+1⟩ ⟨by simp only;omega,by simp only[zac6,zadF];omega⟩ (by simp only;omega);clear ih;simp only[zadK,zaeM] at i1;have hG:D.agg [D.int .i64 (zbR l[i]).id,D.int .i64 (zbR l[i]).gen,D.int .i64 (zct (zbR l[i]) s.low s.high).route,D.int .i64 0]=zbq (rdG s l[i]):=rfl;generalize znp t s d (out++l[i]::l.drop (i+1))=R at *
  cases out with
  | nil=>
   simp only[zjz,accC,zan,evA,tkZ,zkH,zd,zacZ,zadk,zadi,zadl,zadg,zac1,zac5] at *;simp only[zNr,zE] at i1;exact zS
  | cons r0 rs=>
   simp only[zjz,accC,zan,evA,tkZ,zkH,zd,zacZ,zadg,zac1,zadd,zadl,zadi,zac4,zac6,zac5] at *;simp only[zNr,zE] at i1;exact zS
 ·clear ih;obtain rfl:i=l.length:=by omega
  simp only[zadI,zadk,znp]
  cases out with
  | nil=>
   simp only[zjz,accC,zan,evA,tkZ,zkH,zd,zacZ,zadk] at *;exact zS
  | cons r0 rs=>
   simp only[zjz,accC,zan,evA,tkZ,zkH,zd,zac1,zadd,zadl,zadi,zac4] at *;exact zS
theorem zQ1{t:zq}(hk:t.sec.shards.length=1)(hb:zbn t.sec.shards[0]):zg G zqk [.d (zd t)] []=some (.d (.tup [zk (zdL t).1,.sl (zB (zdL t).2.1),.sl ((zdL t).2.2.map za0)]),[]):=by
 have h1:=zHK t.sec.shards[0] t.sec.snap.clock t.sec.snap.epoch t.setup.limit hb;have h2:=zabE (zc2 t.sec.shards[0] t.sec.snap.clock t.sec.snap.epoch t.setup.limit).1 t.inv.max t.sec.snap.clock t.inv.visibility t.sec.snap.epoch t.setup.limit (zf8 (zL5 _ _ _ _));unfold zdL;simp only;rw[zdH hk];generalize zc2 t.sec.shards[0] t.sec.snap.clock t.sec.snap.epoch t.setup.limit=e at *;obtain⟨e1,e2,e3⟩:=e;simp only at *;generalize zda e1 t.inv.max t.sec.snap.clock t.inv.visibility t.sec.snap.epoch t.setup.limit=k at *;obtain⟨k1,k2,k3⟩:=k;simp only at *;have sz_e1:=zbD e1;generalize zk e1=D_e1 at *;have sz_k1:=zbD k1;generalize zk k1=D_k1 at *;simp only[zd] at *;exact zW zX7
def zha(K:Tok)(slot:Int)(y:zN):List UInt8:=(K.enc ⟨y.msg.id,y.msg.gen,y.msg.route,slot⟩).1
def ziE(K:Tok)(t:zq)(l:List zN)(out:List zN)(i:Nat):St:=⟨[(1,.ref 1 0 0),(2,.ref 2 0 0),(3,.ref 3 0 0),(6,.d (.sl (l.map za0))),(7,.d (.int .i64 i))],[(1,.row [.d (zd t)]),(2,.row [zel]),(3,.row [.agg [.d (.int .i64 0),.d (.int .i64 0),accC 45 ((out.map (zha K t.slot)).map zaR),accC 52 ((out.map (·.msg.body)).map .str),.d (.int .i64 0),.d (.int .i64 0),.d (.int .i64 0)]])]++zan 45 ((out.map (zha K t.slot)).map zaR)++zan 52 ((out.map (·.msg.body)).map .str)⟩
def zlk(K:Tok)(t:zq)(out:List zN):zac×St:=(.exit 0,⟨[(2,.ref 2 0 0),(3,.ref 3 0 0)],[(2,.row [zel]),(3,.row [.agg [.d (.int .i64 0),.d (.int .i64 0),accC 45 ((out.map (zha K t.slot)).map zaR),accC 52 ((out.map (·.msg.body)).map .str),.d (.int .i64 0),.d (.int .i64 0),.d (.int .i64 0)]])]++zan 45 ((out.map (zha K t.slot)).map zaR)++zan 52 ((out.map (·.msg.body)).map .str)⟩)
theorem zRT(l:List (List UInt8)):zaI 1 (l.map zaR)=true:=by
 induction l with
 | nil=>rfl
 | cons x l ih=>rw[zac1,zDM,ih];rfl
theorem z9v{K:Tok}(hK:zcu K)(t:zq)(l:List zN)(hl:l.length<=1000):∀p:List zN×Nat,(p.2<=l.length/\p.1.length<=p.2)->zai G [] zkG (ziE K t l p.1 p.2)=some (zlk K t (p.1++l.drop p.2)):=by
 refine za3 (fun p:List zN×Nat=>l.length - p.2) (fun p:List zN×Nat=>(p.2<=l.length/\p.1.length<=p.2)) (fun p=>ziE K t l p.1 p.2) (fun p=>some (zlk K t (p.1++l.drop p.2))) fun⟨out,i⟩ ⟨hi,hr⟩ L ih=> ?_;simp only at hi hr
 by_cases h0:i<l.length
 ·simp only;rw[zady h0];have hen:=hK.en ⟨l[i].msg.id,l[i].msg.gen,l[i].msg.route,t.slot⟩;have i1:=ih ⟨out++[l[i]],i+1⟩ ⟨by simp only;omega,by simp only[zac6,zadF];omega⟩ (by simp only;omega);clear ih;simp only[zadK,zaeM] at i1;have hz:∀b,(zaR b).size=1:=fun _=>rfl;have hz2:∀b,(zaR b).isT=false:=fun _=>rfl;generalize zlk K t (out++l[i]::l.drop (i+1))=R at *;have hal:=zRT
  cases out with
  | nil=>
   simp only[ziE,accC,zan,zel,zha,zkG,zd,zaH,zacZ,zadk,zadi,zadl,zadg,zac1,zac5] at *;simp only[zNr,zE] at i1;exact zS
  | cons r0 rs=>
   simp only[ziE,accC,zan,zel,zha,zkG,zd,zaH,zacZ,zadg,zac1,zadd,zadl,zadi,zac4,zac6,zac5] at *;simp only[zNr,zE] at i1;exact zS
 ·clear ih;obtain rfl:i=l.length:=by omega
  simp only[zadI,zadk,zlk]
  cases out with
  | nil=>
   simp only[ziE,accC,zan,zel,zha,zkG,zd,zacZ,zadk] at *;exact zS
  | cons r0 rs=>
   simp only[ziE,accC,zan,zel,zha,zkG,zd,zac1,zadd,zadl,zadi,zac4] at *;exact zS
theorem zab1(mx d ep lim:Int):∀(l:List zl) (s:zu) (out:List zN),(tkF mx d ep lim l s out).2.1.length<=out.length+l.length:=by
 intro l
 induction l with
 | nil=>intro s out;rw[tkF];simp
 | cons m l ih=>
  intro s out;rw[tkF]
  split
  ·have:=ih s out;simp only[zac4];omega
  split
  ·simp
  ·have:=ih (zgg s m d).1 (out++[(zgg s m d).2.1]);simp only[zac6,zac4,zac5] at *;omega
theorem zQ2(s:zu)(mx now vis ep lim:Int):(zda s mx now vis ep lim).2.1.length<=12:=by
 unfold zda
 split
 ·simp
 split
 ·simp
 ·rename_i c _;have hl:zal s=0:=by
   have c:=zadh.1 c;unfold zlu at c;unfold usE at c
   split at c
   ·rename_i q;exact absurd c q
   ·rename_i q;exact zadh.1 q
  have:=zab1 mx (now+vis) ep lim (zI s.ready) s [];have h12:=zhw (zgN hl);simp only[zac5] at this;omega
theorem zQ4(t:zq):(zdL t).2.1.length<=12/\(zdL t).2.2.length<=12:=by
 unfold zdL;simp only;refine⟨zHJ _ _ _ _,?_⟩;exact zQ2 _ _ _ _ _ _
theorem z9h{K:Tok}(hK:zcu K){t:zq}(hk:t.sec.shards.length=1)(hb:zbn t.sec.shards[0]):zg G zqj [.d (zd t)] []=some (.d (z6 (ziA K t)),[]):=by
 have ht:=zQ1 hk hb;have hl:=(zQ4 t).2;unfold ziA;have hlp:=z9v hK t (zdL t).2.2 zo ⟨[],0⟩ ⟨by simp,by simp⟩;have ee:((zdL t).2.2.map fun y=>(K.enc ⟨y.msg.id,y.msg.gen,y.msg.route,t.slot⟩).1)=(zdL t).2.2.map (zha K t.slot):=rfl;rw[ee];clear ee;generalize zdL t=r at *;obtain⟨s,u,l⟩:=r;simp only at *;have sz_s:=zbD s;generalize zk s=D_s at *;clear hb
 cases l with
 | nil=>
  simp only[ziE,zlk,accC,zan,zel,zd,z6,zam,zadu,zacZ,zadk,zadi,zado] at *;exact zW zIN
 | cons l0 ls=>
  simp only[ziE,zlk,accC,zan,zel,zd,z6,zam,zadu,zacZ,zadk,zadi,zac1,zadl,zac4,zadd,zado] at *;exact zW zIN
def zfL(t:zq)(s x:zu)(u:List Int)(l:List zN)(out:List Int)(i:Nat):St:=⟨[(1,.ref 1 0 0),(2,.ref 2 0 0),(4,.ref 4 0 0),(5,.ref 5 0 0),(6,.ref 6 0 0),(7,.ref 7 0 0),(8,.d (.sl (zB u))),(9,.d (.sl (l.map za0))),(10,.acc 10 []),(11,.ref 11 0 0),(12,.d (.int .i64 i))],[(1,.row [.d (zd t)]),(2,.row [tkZ]),(4,.row [.d (zk s)]),(5,.row [unA t.sec]),(6,.row [evA t 3 (.xsl [])]),(7,.row [.d (zk x)]),(10,.acc 0),(11,.row [evA t 10 (accC 500076 ((out.map idG).map zbq))])]++zan 500076 ((out.map idG).map zbq)⟩
def zgR(t:zq)(s x:zu)(u:List Int)(l:List zN)(out:List Int):zac×St:=(.exit 0,⟨[(1,.ref 1 0 0),(2,.ref 2 0 0),(4,.ref 4 0 0),(5,.ref 5 0 0),(6,.ref 6 0 0),(7,.ref 7 0 0),(8,.d (.sl (zB u))),(9,.d (.sl (l.map za0))),(10,.acc 10 []),(11,.ref 11 0 0)],[(1,.row [.d (zd t)]),(2,.row [tkZ]),(4,.row [.d (zk s)]),(5,.row [unA t.sec]),(6,.row [evA t 3 (.xsl [])]),(7,.row [.d (zk x)]),(10,.acc 0),(11,.row [evA t 10 (accC 500076 ((out.map idG).map zbq))])]++zan 500076 ((out.map idG).map zbq)⟩)
theorem z8t(t:zq)(s x:zu)(u:List Int)(l:List zN)(hu:u.length<=1000):∀p:List Int×Nat,(p.2<=u.length/\p.1.length<=p.2)->zai G [] zkE (zfL t s x u l p.1 p.2)=some (zgR t s x u l (p.1++u.drop p.2)):=by
 refine za3 (fun p:List Int×Nat=>u.length - p.2) (fun p:List Int×Nat=>(p.2<=u.length/\p.1.length<=p.2)) (fun p=>zfL t s x u l p.1 p.2) (fun p=>some (zgR t s x u l (p.1++u.drop p.2))) fun⟨out,i⟩ ⟨hi,hr⟩ L ih=> ?_;simp only at hi hr
 by_cases h0:i<u.length
 ·simp only;rw[zady h0];have i1:=ih ⟨out++[u[i]],i+1⟩ ⟨by simp only;omega,by simp only[zac6,zadF];omega⟩ (by simp only;omega);clear ih;simp only[zadK,zaeM] at i1;have hG:D.agg [D.int .i64 u[i],D.int .i64 0,D.int .i64 0,D.int .i64 0]=zbq (idG u[i]):=rfl;generalize zgR t s x u l (out++u[i]::u.drop (i+1))=R at *;have sz_t:=zA t;generalize zd t=D_t at *
  cases out with
  | nil=>
   simp only[zfL,accC,zan,evA,tkZ,unA,zkE,zacZ,zadk,zadi,zadl,zadg,zac1,zac5] at *;simp only[zNr,zE] at i1;exact zS
  | cons r0 rs=>
   simp only[zfL,accC,zan,evA,tkZ,unA,zkE,zacZ,zadg,zac1,zadd,zadl,zadi,zac4,zac6,zac5] at *;simp only[zNr,zE] at i1;exact zS
 ·clear ih;obtain rfl:i=u.length:=by omega
  simp only[zadI,zadk,zgR]
  cases out with
  | nil=>
   simp only[zfL,accC,zan,evA,tkZ,unA,zkE,zacZ,zadk] at *;exact zS
  | cons r0 rs=>
   simp only[zfL,accC,zan,evA,tkZ,unA,zkE,zac1,zadd,zadl,zadi,zac4] at *;exact zS
def zfI(s:Section)(x:zu):AV:= .agg [.xsl [zk x],.d (.int .i64 s.dead.cap),.d (.sl (s.dead.l.map zn)),.xsl [.int .i64 0],.xsl [],.xsl []]
def zfM(t:zq)(x:zu)(l:List zN)(evs:List D)(out:List zN)(i:Nat):St:=⟨[(1,.ref 1 0 0),(2,.ref 2 0 0),(5,.ref 5 0 0),(6,.ref 6 0 0),(9,.d (.sl (l.map za0))),(10,.acc 10 evs),(13,.d (.int .i64 i))],[(1,.row [.d (zd t)]),(2,.row [tkZ]),(5,.row [zfI t.sec x]),(6,.row [evA t 3 (accC 500137 ((out.map zeG).map zbq))]),(10,.acc evs.length)]++zan 500137 ((out.map zeG).map zbq)⟩
def zgS(t:zq)(x:zu)(evs:List D)(out:List zN):zac×St:=(.exit 3,⟨[(1,.ref 1 0 0),(2,.ref 2 0 0),(5,.ref 5 0 0),(6,.ref 6 0 0),(10,.acc 10 evs)],[(1,.row [.d (zd t)]),(2,.row [tkZ]),(5,.row [zfI t.sec x]),(6,.row [evA t 3 (accC 500137 ((out.map zeG).map zbq))]),(10,.acc evs.length)]++zan 500137 ((out.map zeG).map zbq)⟩)
theorem zQk(t:zq)(x:zu)(l:List zN)(evs:List D)(hl:l.length<=1000):∀p:List zN×Nat,(p.2<=l.length/\p.1.length<=p.2)->zai G [] zkF (zfM t x l evs p.1 p.2)=some (zgS t x evs (p.1++l.drop p.2)):=by
 refine za3 (fun p:List zN×Nat=>l.length - p.2) (fun p:List zN×Nat=>(p.2<=l.length/\p.1.length<=p.2)) (fun p=>zfM t x l evs p.1 p.2) (fun p=>some (zgS t x evs (p.1++l.drop p.2))) fun⟨out,i⟩ ⟨hi,hr⟩ L ih=> ?_;simp only at hi hr
 by_cases h0:i<l.length
 ·simp only;rw[zady h0];have i1:=ih ⟨out++[l[i]],i+1⟩ ⟨by simp only;omega,by simp only[zac6,zadF];omega⟩ (by simp only;omega);clear ih;simp only[zadK,zaeM] at i1;have hG:D.agg [D.int .i64 l[i].msg.id,D.int .i64 l[i].msg.gen,D.int .i64 l[i].msg.route,D.int .i64 l[i].deadline]=zbq (zeG l[i]):=rfl;generalize zgS t x evs (out++l[i]::l.drop (i+1))=R at *;have sz_t:=zA t;generalize zd t=D_t at *
  cases out with
  | nil=>
   simp only[zfM,accC,zan,evA,tkZ,zfI,zkF,zacZ,zadk,zadi,zadl,zadg,zac1,zac5] at *;simp only[zNr,zE] at i1;exact zS
  | cons r0 rs=>
   simp only[zfM,accC,zan,evA,tkZ,zfI,zkF,zacZ,zadg,zac1,zadd,zadl,zadi,zac4,zac6,zac5] at *;simp only[zNr,zE] at i1;exact zS
 ·clear ih;obtain rfl:i=l.length:=by omega
  simp only[zadI,zadk,zgS]
  cases out with
  | nil=>
   simp only[zfM,accC,zan,evA,tkZ,zfI,zkF,zacZ,zadk] at *;exact zS
  | cons r0 rs=>
   simp only[zfM,accC,zan,evA,tkZ,zfI,zkF,zac1,zadd,zadl,zadi,zac4] at *;exact zS
theorem z8y{u:Setup}{N:Int}{t:zq}(hs:SI u N t.sec)(hk:t.sec.shards.length=1)(hvs:0<=t.inv.visibility/\t.inv.visibility<=1000):zg G zqi [.d (zd t)] []=some (.d (.tup [zd (zdU t).1,.sl ((zdU t).2.map zad)]),[]):=by
 have hb:zbn t.sec.shards[0]:=zdH hk ▸ znD hs;have hun:=hs.un;have hu:=zhK t.sec;have ho:=zs2 t.sec.shards[0] t.walk.next hb;have hcl:=hs.sn.2;unfold zdU;simp only;rw[zdH hk]
 by_cases c0:zeS t.sec.shards[0] t.walk.next=false
 ·rw[zacY c0];rw[c0] at ho;have hd:=zbW (t:={ t with loaded:=0 }) hs hun;generalize zaU { t with loaded:=0 } (zaa t.sec)=t2 at *;have sz_t2:=zA t2;generalize zd t2=D_t2 at *;clear hs hb c0 hun;simp only[zd,zC,zZ,zaa,zacZ,zB] at *;exact zW zib
 rw[zacX c0];replace c0:zeS t.sec.shards[0] t.walk.next=true:=by simpa using c0
 rw[c0] at ho;clear c0;have hsn:=zlo { t with loaded:=0 } 3
 by_cases c1:1073741824<t.sec.snap.clock+t.inv.visibility
 ·rw[zacY c1];have hd:=zbW (t:={ t with loaded:=3 }) hs hun;generalize zaU { t with loaded:=3 } (zaa t.sec)=t2 at *;have sz_t2:=zA t2;generalize zd t2=D_t2 at *;clear hs hb hun;simp only[zd,zC,zZ,zaa,zc9,zb0,zad,zbt,zacZ,zac1,zB] at *;exact zW zib
 rw[zacX c1];have htk:=zQ1 (t:={ t with loaded:=0 }) hk hb;have htl:=zQ4 { t with loaded:=0 };have hx:za1 (zdL { t with loaded:=0 }).1:=zL7 _ _ _ _ _ _;have hsx:=zlo { t with loaded:=0 } 10;have hwa:=zRp t.walk t.sec.shards[0].low t.sec.shards[0].high;generalize zf2 t.walk t.sec.shards[0].low t.sec.shards[0].high=wk at *;obtain⟨wk,we⟩:=wk;have hov:=zRr wk;generalize zdL { t with loaded:=0 }=r at *;obtain⟨x,ui,l⟩:=r;simp only at *;have hl0:=z8t { t with loaded:=0 } t.sec.shards[0] x ui l zo ⟨[],0⟩ ⟨by simp,by simp⟩;have hoi:=hs.one hk hx;have eg:(l.map zeG)=l.map zeG:=rfl;clear hx eg hb
 cases ui with
 | nil=>
  simp only[zac5,zafX,if_false,zae8]
  cases l with
  | nil=>
   simp only[zac5,zafX,if_false];clear hl0
   by_cases c5:zg1 wk=true
   ·rw[zacY c5];rw[c5] at hov;clear c5;have hd:=zbW (t:={ t with loaded:=2,walk:=wk }) hs hun;generalize zaU { t with loaded:=2,walk:=wk } (zaa t.sec)=t2 at *;have sz_t2:=zA t2;generalize zd t2=D_t2 at *;clear hs hun hoi;simp only[zfL,zgR,zfM,zgS,accC,zan,evA,tkZ,unA,zfI,zd,zC,zZ,zbF,zaa,zc9,zb0,zad,zbt,idG,zbq,zeG,zadu,zadi,zadk,zadl,zac4,zac5,zadd,zacZ,zac1,zadV,zB,Function.comp_def,zado] at *;exact zW zib
   ·rw[zacX c5];replace c5:zg1 wk=false:=by simpa using c5
    rw[c5] at hov;clear c5;have hd:=zbW (t:={ t with loaded:=0,walk:=wk }) hs hun;generalize zaU { t with loaded:=0,walk:=wk } (zaa t.sec)=t2 at *;have sz_t2:=zA t2;generalize zd t2=D_t2 at *;clear hs hun hoi;simp only[zfL,zgR,zfM,zgS,accC,zan,evA,tkZ,unA,zfI,zd,zC,zZ,zbF,zaa,zc9,zb0,zad,zbt,idG,zbq,zeG,zadu,zadi,zadk,zadl,zac4,zac5,zadd,zacZ,zac1,zadV,zB,Function.comp_def,zado] at *;exact zW zib
  | cons l0 ls=>
   simp only[zac4,zafj,if_true];have hl1:=zQk { t with loaded:=1,walk:=wk } x (l0::ls) [] (by simp only[zac4] at *; omega) ⟨[],0⟩ ⟨by simp,by simp⟩;clear hl0;clear hov;have hd:=zbW (t:={ t with loaded:=1,walk:=wk }) hs hoi;generalize zaU { t with loaded:=1,walk:=wk } ({ zaa t.sec with shards:=[x],order:=[0] })=t2 at *;have sz_t2:=zA t2;generalize zd t2=D_t2 at *;clear hs hun hoi;simp only[zfL,zgR,zfM,zgS,accC,zan,evA,tkZ,unA,zfI,zd,zC,zZ,zbF,zaa,zc9,zb0,zad,zbt,idG,zbq,zeG,zadu,zadi,zadk,zadl,zac4,zac5,zadd,zacZ,zac1,zadV,zB,Function.comp_def,zado] at *;exact zW zib
 | cons u0 us=>
  simp only[zac4,zafj,if_true,zaeK]
  cases l with
  | nil=>
   simp only[zac5,zafX,if_false]
   by_cases c5:zg1 wk=true
   ·rw[zacY c5];rw[c5] at hov;clear c5;have hd:=zbW (t:={ t with loaded:=2,walk:=wk }) hs hoi;generalize zaU { t with loaded:=2,walk:=wk } ({ zaa t.sec with shards:=[x],order:=[0] })=t2 at *;have sz_t2:=zA t2;generalize zd t2=D_t2 at *;clear hs hun hoi;simp only[zfL,zgR,zfM,zgS,accC,zan,evA,tkZ,unA,zfI,zd,zC,zZ,zbF,zaa,zc9,zb0,zad,zbt,idG,zbq,zeG,zadu,zadi,zadk,zadl,zac4,zac5,zadd,zacZ,zac1,zadV,zB,Function.comp_def,zado] at *;exact zW zib
   ·rw[zacX c5];replace c5:zg1 wk=false:=by simpa using c5
    rw[c5] at hov;clear c5;have hd:=zbW (t:={ t with loaded:=0,walk:=wk }) hs hoi;generalize zaU { t with loaded:=0,walk:=wk } ({ zaa t.sec with shards:=[x],order:=[0] })=t2 at *;have sz_t2:=zA t2;generalize zd t2=D_t2 at *;clear hs hun hoi;simp only[zfL,zgR,zfM,zgS,accC,zan,evA,tkZ,unA,zfI,zd,zC,zZ,zbF,zaa,zc9,zb0,zad,zbt,idG,zbq,zeG,zadu,zadi,zadk,zadl,zac4,zac5,zadd,zacZ,zac1,zadV,zB,Function.comp_def,zado] at *;exact zW zib
  | cons l0 ls=>
   simp only[zac4,zafj,if_true];have hl1:=zQk { t with loaded:=1,walk:=wk } x (l0::ls) [zad { zb0 { t with loaded:=0 } 10 with l:=(u0::us).map idG }] (by simp only[zac4] at *; omega) ⟨[],0⟩ ⟨by simp,by simp⟩;clear hov;have hd:=zbW (t:={ t with loaded:=1,walk:=wk }) hs hoi;generalize zaU { t with loaded:=1,walk:=wk } ({ zaa t.sec with shards:=[x],order:=[0] })=t2 at *;have sz_t2:=zA t2;generalize zd t2=D_t2 at *;clear hs hun hoi;simp only[zfL,zgR,zfM,zgS,accC,zan,evA,tkZ,unA,zfI,zd,zC,zZ,zbF,zaa,zc9,zb0,zad,zbt,idG,zbq,zeG,zadu,zadi,zadk,zadl,zac4,zac5,zadd,zacZ,zac1,zadV,zB,Function.comp_def,zado] at *;exact zW zib
theorem zL4(k:Int):zg G zqm [.d (.int .i64 k)] []=some (.d (.int .i64 (zi5 k)),[]):=by
 unfold zi5;exact zW zX8
theorem zQL{t:zq}(hk:t.sec.shards.length=1)(hb:zbn t.sec.shards[0]):zg G zqn [.d (zd t)] []=some (.d (.tup [zk (zdZ t).1,.int .i64 (zdZ t).2]),[]):=by
 unfold zdZ;rw[zdH hk]
 by_cases c1:t.inv.kind=3
 ·rw[zacY c1];have h:=zRN t.sec.shards[0] t.handle t.sec.snap.clock t.sec.snap.epoch hb;generalize zdr t.sec.shards[0] t.handle t.sec.snap.clock t.sec.snap.epoch=x at *;obtain⟨x1,x2⟩:=x;replace c1:=zadb c1;simp only at *;have sz_x1:=zbD x1;generalize zk x1=D_x1 at *;simp only[zd,zaH] at *;exact zW zzQ
 rw[zacX c1]
 by_cases c2:t.inv.kind=4
 ·rw[zacY c2];have h:=z0R t.sec.shards[0] t.handle t.sec.snap.clock t.sec.snap.epoch t.setup.limit hb;generalize zdh t.sec.shards[0] t.handle t.sec.snap.clock t.sec.snap.epoch t.setup.limit=x at *;obtain⟨x1,x2⟩:=x;replace c1:=zac3 c1;replace c2:=zadb c2;simp only at *;have sz_x1:=zbD x1;generalize zk x1=D_x1 at *;simp only[zd,zaH] at *;exact zW zzQ
 ·rw[zacX c2];have h:=zTk t.sec.shards[0] t.handle t.sec.snap.clock t.sec.snap.epoch t.inv.visibility hb;generalize zfr t.sec.shards[0] t.handle t.sec.snap.clock t.sec.snap.epoch t.inv.visibility=x at *;obtain⟨x1,x2⟩:=x;replace c1:=zac3 c1;replace c2:=zac3 c2;simp only at *;have sz_x1:=zbD x1;generalize zk x1=D_x1 at *;simp only[zd,zaH] at *;exact zW zzQ
theorem zRo{i:Invocation}{u:Setup}(h:zaK i u=0)(hk:i.kind=2\/i.kind=5):0<=i.visibility/\i.visibility<=1000:=by
 unfold zaK inI at h;rw[zacX zo] at h
 rcases hk with hk|hk
 ·rw[zacY (.inl hk)] at h
  split at h
  ·cases h
  ·rename_i c;have c2:=fun q=>c (.inr (.inr ⟨hk,q⟩));simp only[decide_eq_false_iff_not] at c2;exact zadh.1 c2
 ·rw[zacX zo,zacY zo] at h
  split at h
  ·cases h
  ·split at h
   ·cases h
   ·rename_i _ c;have c2:=fun q=>c ⟨hk,q⟩;simp only[decide_eq_false_iff_not] at c2;exact zadh.1 c2
theorem zaaD{u:Setup}{N:Int}{t:zq}(hs:SI u N t.sec)(hk:t.sec.shards.length=1)(hiv:zaK t.inv u=0):zg G zql [.d (zd t)] []=some (.d (.tup [zd (zdY t).1,.sl ((zdY t).2.map zad)]),[]):=by
 have hb:zbn t.sec.shards[0]:=zdH hk ▸ znD hs;have hu:=zhK t.sec;have ho:=zs2 t.sec.shards[0] t.handle.route hb;have hst:=zQL hk hb;have hl12:(zdZ t).2=0->za1 (zdZ t).1:=fun q=>zL6 q;have hki:=zL4 t.inv.kind;have hsn:=zlo t (zi5 t.inv.kind);have hvs:=zRo (i:=t.inv) hiv;have hcl:=hs.sn.2;unfold zdY;simp only;rw[zdH hk]
 by_cases c0:zeS t.sec.shards[0] t.handle.route=false
 ·rw[zacY c0];rw[c0] at ho;have hd:=zbW (t:=t) hs hs.un;generalize zaU t (zaa t.sec)=t2 at *;have sz_t2:=zA t2;generalize zd t2=D_t2 at *;clear hs hl12 hb c0 hst hki hsn hiv hvs hcl;simp only[zd,zC,zZ,zaa,zacZ,zB] at *;exact zW zr0
 rw[zacX c0];replace c0:zeS t.sec.shards[0] t.handle.route=true:=by simpa using c0
 rw[c0] at ho;generalize zi5 t.inv.kind=ek at *;generalize zdZ t=x at *;obtain⟨x1,x2⟩:=x;simp only at *
 by_cases c1:x2=0
 ·subst c1;have hl:=hl12 rfl;simp only[zadZ,if_true];have hd:=zbW (t:=t) hs (hs.one hk hl);generalize zaU t { zaa t.sec with shards:=[x1],order:=[0] }=t2 at *;have sz_t2:=zA t2;generalize zd t2=D_t2 at *
  by_cases c2:t.inv.kind=5
  ·rw[zacY c2];have hv:=hvs (.inr c2);replace c2:=zadb c2;clear hs hl12 hb c0 hiv hvs hl;simp only[zd,zC,zZ,zaa,zb0,zc9,zad,zbt,zbq,zacZ,zac1,zB] at *;exact zW zr0
  ·rw[zacX c2];replace c2:=zac3 c2;clear hs hl12 hb c0 hiv hvs hl;simp only[zd,zC,zZ,zaa,zb0,zc9,zad,zbt,zbq,zacZ,zac1,zB] at *;exact zW zr0
 ·rw[zacX c1,zacX (fun q=>c1 q.1)];have hd:=zbW (t:=t) hs hs.un;generalize zaU t (zaa t.sec)=t2 at *;have sz_t2:=zA t2;generalize zd t2=D_t2 at *;clear hs hl12 hb c0 hiv hvs;simp only[zd,zC,zZ,zaa,zb0,zc9,zad,zbt,zbq,zacZ,zac1,zB] at *;exact zW zr0
theorem zaaG(a:zy)(t:zq)(n:Int)(h:z8 t 3 5≠0):zg G zlW [.d (zi a),.d (zd t),.d (.int .i64 n)] []=some (.d (.tup [zi zF,zd zD,.sl [],.int .i64 (z8 t 3 5)]),[]):=by
 have hg:=zcK t 3 5;have hf:=zbN (z8 t 3 5);generalize z8 t 3 5=ge at *;have sz_zTask:=zA zD;generalize zd zD=D_zTask at *;have sz_t:=zA t;generalize zd t=D_t at *;have sz_zArena:=zaq zF;generalize zi zF=D_zArena at *;exact zW zgo
theorem zCX{K:Tok}(hK:zcu K){u:Setup}{a:zy}{t:zq}{n N:Int}(hu:zJ u=true)(ha:AI u a)(ht:TI u N t)(hN:N<=999999)(hb:∀b∈t.inv.tokens,b.length<=4294967296):zg G zlW [.d (zi a),.d (zd t),.d (.int .i64 n)] []=some (.d (.tup [zi (zbS K a t n).1,zd (zbS K a t n).2.1,.sl ((zbS K a t n).2.2.1.map zad),.int .i64 (zbS K a t n).2.2.2]),[]):=by
 unfold zbS
 by_cases c0:z8 t 3 5=0
 rotate_left
 ·rw[zacY c0];exact zaaG a t n c0
 rw[zacX (fun q=>q c0)];have hg:=zcK t 3 5;rw[c0] at hg;obtain⟨g1,g2⟩:=zdx c0;have hen:=zfY ht g1;have he1:=ht.e1 g1;have he0:=ht.e0;unfold zdw at he1;rw[zacX zo,zacY g2] at he1;clear g1
 by_cases c1:t.pc=0
 ·rw[zacY c1];have hi:t.entry.toNat<t.inv.tokens.length:=by omega
  rw[zj hi];have hp:=hK.pa (t.inv.tokens[t.entry.toNat]) (hb _ (zadf hi));have hz1:(zaR (t.inv.tokens[t.entry.toNat])).size=1:=rfl;have hz2:(zaR (t.inv.tokens[t.entry.toNat])).isT=false:=rfl;have hz3:(zaR (t.inv.tokens[t.entry.toNat])).cells=[zaR (t.inv.tokens[t.entry.toNat])]:=rfl;have hki:=zL4 t.inv.kind;have hsu:t.setup.slots=u.slots:=by rw[ht.su]
  have hub:=(znC hu).1;generalize zi5 t.inv.kind=ek at *;simp only;generalize K.par t.inv.tokens[t.entry.toNat]=h at *;obtain⟨h,e⟩:=h;simp only at *
  by_cases c2:e=0
  ·subst c2;simp only[ne_eq,zac9,if_false]
   by_cases c3:h.hint<t.setup.slots
   ·rw[zacY c3];have hse:=zhD { t with handle:=h,pc:=1 } [h.hint] 2 (by simp);generalize zaO { t with handle:=h,pc:=1 } [h.hint] 2=t2 at *;have sz_t2:=zA t2;generalize zd t2=D_t2 at *;replace c1:=zadb c1;clear ht ha hu hb hsu;simp only[zd,zaH,zB,zac1,zacZ] at *;exact zW zgo
   ·rw[zacX c3];replace c1:=zadb c1;clear ht ha hu hb hsu;simp only[zd,zaH] at *;exact zW zgo
  ·rw[zacY c2];have hev:=zrv t ek n;have hnx:=zcE t (za8 5) n hen.1 hen.2;generalize za4 t (za8 5) n=t2 at *;have sz_t2:=zA t2;generalize zd t2=D_t2 at *;replace c1:=zadb c1;clear ht ha hu hb hsu;simp only[zd,zaH,zad,evT,zbt,za8,z6,zam,zac1,zacZ] at *;exact zW zgo
 rw[zacX c1]
 by_cases c2:t.pc=1
 ·rw[zacY c2];have hlk:=zBl a t t.handle.route 2 (by have:=zgf ha.dv;omega);generalize zhq a t t.handle.route 2=t2 at *;have sz_t2:=zA t2;generalize zd t2=D_t2 at *;replace c2:=zadb c2;replace c1:=zac3 c1;clear ht ha hu;simp only[zd] at *;exact zW zgo
 rw[zacX c2];have k4:=ht.se ⟨c1,by omega⟩;have hgo:=zeD a t n (zeW hu ha k4.si zo);have hgk:=zeE (n:=n) ha k4.si k4.ed;simp only;generalize goT a t n=g at *;obtain⟨a2,t2,b1,b2,e⟩:=g;simp only at *
 by_cases c4:e=0
 rotate_left
 ·rw[zacY c4];have hf:=zbN e;unfold zaT;clear hgk ht ha hu k4;replace c2:=zac3 c2;replace c1:=zac3 c1;have sz_zTask:=zA zD;generalize zd zD=D_zTask at *;have sz_zArena:=zaq zF;generalize zi zF=D_zArena at *;have sz_t2:=zA t2;generalize zd t2=D_t2 at *;have sz_a2:=zaq a2;generalize zi a2=D_a2 at *;simp only[zd] at *;exact zW zgo
 subst c4;simp only[ne_eq,zac9,if_false];obtain⟨h1,s,h2,hSI,hKe,ho,h4,h9⟩:=hgk rfl;have h3:zaB u (N+1) t.inv s:=k4.keep hSI hKe (by rw[ho];exact k4.ed);have hen2:t2.entry=t.entry/\t2.results=t.results/\t2.inv=t.inv/\t2.sec=s:=by rw[h2];exact⟨rfl,rfl,rfl,rfl⟩
 obtain⟨q1,q2,q3,q4⟩:=hen2
 cases b1
 rotate_left
 ·simp only[if_true];have hp:s.phase=4\/s.phase=9:= .inl (h4.1 rfl);have hk:t2.sec.shards.length=1:=by rw[q4];exact (zca h3 ht.iv hp).1 zo
  have hd:=zaaD (t:=t2) (by rw[q4];exact h3.si) hk (by rw[q3];exact ht.iv);generalize zdY t2=r at *;obtain⟨t3,l⟩:=r;clear ht ha hu k4 h1 h2 h3 h4 h9 ho hSI hKe q1 q2 q3 q4 hp hk hb;replace c2:=zac3 c2;replace c1:=zac3 c1;simp only at *;have sz_t2:=zA t2;generalize zd t2=D_t2 at *;have sz_t3:=zA t3;generalize zd t3=D_t3 at *;simp only[zd] at *;exact zW zgo
 ·simp only[zac8,if_false]
  cases b2
  ·simp only[if_true];clear ht ha hu k4 h1 h2 h3 h4 h9 ho hSI hKe q1 q2 q3 q4 hb;replace c2:=zac3 c2;replace c1:=zac3 c1;have sz_t2:=zA t2;generalize zd t2=D_t2 at *;simp only[zd] at *;exact zW zgo
  ·simp only[zadA,if_false];have hp:s.phase=4\/s.phase=9:= .inr (h9.1 rfl);have hk:t2.sec.shards.length=1:=by rw[q4];exact (zca h3 ht.iv hp).1 zo
   have hbg:zbn t2.sec.shards[0]:=zdH hk ▸ znD (u:=u) (N:=N+1) (by rw[q4];exact h3.si);have how:=zs2 t2.sec.shards[0] t2.handle.route hbg;have hse:=zQL hk hbg;rw[zdH hk];have hnx:=zcE t2 { zam with err:=(zdZ t2).2,id:=if (zdZ t2).2=0 then t2.handle.id else 0 } n (by rw[q1];exact hen.1) (by rw[q2];exact hen.2);clear ht ha hu k4 h1 h2 h3 h4 h9 ho hSI hKe q1 q2 q3 q4 hp hb hbg;replace c2:=zac3 c2;replace c1:=zac3 c1
   by_cases c5:zeS t2.sec.shards[0] t2.handle.route=false
   ·rw[zacY c5];rw[c5] at how;clear hnx hse c5;simp only[zd] at *;exact zW zgo
   ·rw[zacX c5];replace c5:zeS t2.sec.shards[0] t2.handle.route=true:=by simpa using c5
    rw[c5] at how;clear c5;generalize zdZ t2=x at *;obtain⟨x1,x2⟩:=x;simp only at *;have sz_x1:=zbD x1;generalize zk x1=D_x1 at *
    by_cases c6:x2=0
    ·subst c6;simp only[if_true] at *;generalize za4 t2 { zam with err:=0,id:=t2.handle.id } n=t3 at *;have sz_t3:=zA t3;generalize zd t3=D_t3 at *;simp only[zd,z6,zam,zacZ] at *;exact zW zgo
    ·rw[zacX c6] at hnx ⊢;generalize za4 t2 { zam with err:=x2,id:=0 } n=t3 at *;have sz_t3:=zA t3;generalize zd t3=D_t3 at *;simp only[zd,z6,zam,zacZ] at *;exact zW zgo
theorem z8B(a:zy)(t:zq)(n:Int)(h:z8 t 2 2≠0):zg G zlV [.d (zi a),.d (zd t),.d (.int .i64 n)] []=some (.d (.tup [zi zF,zd zD,.sl [],.int .i64 (z8 t 2 2)]),[]):=by
 have hg:=zcK t 2 2;have hf:=zbN (z8 t 2 2);generalize z8 t 2 2=ge at *;have sz_zTask:=zA zD;generalize zd zD=D_zTask at *;have sz_t:=zA t;generalize zd t=D_t at *;have sz_zArena:=zaq zF;generalize zi zF=D_zArena at *;exact zW zgI
theorem z8D{K:Tok}(hK:zcu K){u:Setup}{a:zy}{t:zq}{n N:Int}(hu:zJ u=true)(ha:AI u a)(ht:TI u N t)(hN:N<=999999):zg G zlV [.d (zi a),.d (zd t),.d (.int .i64 n)] []=some (.d (.tup [zi (zcU K a t n).1,zd (zcU K a t n).2.1,.sl ((zcU K a t n).2.2.1.map zad),.int .i64 (zcU K a t n).2.2.2]),[]):=by
 unfold zcU
 by_cases c0:z8 t 2 2=0
 rotate_left
 ·rw[zacY c0];exact z8B a t n c0
 rw[zacX (fun q=>q c0)];have hg:=zcK t 2 2;rw[c0] at hg;obtain⟨g1,g2⟩:=zdx c0;have hen:=zfY ht g1;clear g1
 by_cases c1:t.pc=0
 ·rw[zacY c1];have hdl:=zgf ha.dv;have hld:=zsS a;have hho:=zLR a.dir t.inv.home zo;have hspn:=z8l a.dir (zdy a.dir t.inv.home) zo;generalize zdy a.dir t.inv.home=k at *;generalize zlr a.dir k=sp at *;obtain⟨sp,sb⟩:=sp;have hwb:=zRq sp.low;simp only at *;generalize zg0 sp.low=wb at *;obtain⟨wb,we⟩:=wb;simp only at *;have hse:=zhD { t with dir:=a.dir,slot:=k,walk:=wb } [k] 1 (by simp);generalize zaO { t with dir:=a.dir,slot:=k,walk:=wb } [k] 1=t2 at *;have sz_t2:=zA t2;generalize zd t2=D_t2 at *;replace c1:=zadb c1;clear ht ha hu;simp only[zd,zU,zaw,zbF,zB,zac1,zacZ] at *;exact zW zgI
 rw[zacX c1]
 by_cases c2:t.pc=2
 ·rw[zacY c2];have hlk:=zBl a t t.walk.next 1 (by have:=zgf ha.dv;omega);generalize zhq a t t.walk.next 1=t2 at *;have sz_t2:=zA t2;generalize zd t2=D_t2 at *;replace c2:=zadb c2;replace c1:=zac3 c1;clear ht ha hu;simp only[zd] at *;exact zW zgI
 rw[zacX c2];have k4:=ht.se ⟨c1,by omega⟩;have hgo:=zeD a t n (zeW hu ha k4.si zo);have hgk:=zeE (n:=n) ha k4.si k4.ed;simp only;generalize goT a t n=g at *;obtain⟨a2,t2,b1,b2,e⟩:=g;simp only at *;replace c1:=zac3 c1;replace c2:=zac3 c2
 by_cases c4:e=0
 rotate_left
 ·rw[zacY c4];have hf:=zbN e;unfold zaT;clear hgk ht ha hu k4;have sz_zTask:=zA zD;generalize zd zD=D_zTask at *;have sz_zArena:=zaq zF;generalize zi zF=D_zArena at *;have sz_t2:=zA t2;generalize zd t2=D_t2 at *;have sz_a2:=zaq a2;generalize zi a2=D_a2 at *;simp only[zd] at *;exact zW zgI
 subst c4;simp only[ne_eq,zac9,if_false];obtain⟨h1,s,h2,hSI,hKe,ho,h4,h9⟩:=hgk rfl;clear hgk;have h3:zaB u (N+1) t.inv s:=k4.keep hSI hKe (by rw[ho];exact k4.ed);have hen2:t2.entry=t.entry/\t2.results=t.results/\t2.inv=t.inv/\t2.sec=s:=by rw[h2];exact⟨rfl,rfl,rfl,rfl⟩
 obtain⟨q1,q2,q3,q4⟩:=hen2
 cases b1
 rotate_left
 ·simp only[if_true];have hk:t2.sec.shards.length=1:=by rw[q4];exact (zca h3 ht.iv (.inl (h4.1 rfl))).1 zo
  have hd:=z8y (t:=t2) (by rw[q4];exact h3.si) hk (by rw[q3];exact zRo ht.iv (.inl zo));generalize zdU t2=r at *;obtain⟨t3,l⟩:=r;clear ht ha hu k4 h1 h2 h3 h4 h9 ho hSI hKe q1 q2 q3 q4 hk;simp only at *;have sz_t2:=zA t2;generalize zd t2=D_t2 at *;have sz_t3:=zA t3;generalize zd t3=D_t3 at *;simp only[zd] at *;exact zW zgI
 ·simp only[zac8,if_false]
  cases b2
  ·simp only[if_true];clear ht ha hu k4 h1 h2 h3 h4 h9 ho hSI hKe q1 q2 q3 q4;have sz_t2:=zA t2;generalize zd t2=D_t2 at *;simp only[zd] at *;exact zW zgI
  ·simp only[zadA,if_false];have hk:t2.sec.shards.length=1:=by rw[q4];exact (zca h3 ht.iv (.inr (h9.1 rfl))).1 zo
   have hbg:zbn t2.sec.shards[0]:=zdH hk ▸ znD (u:=u) (N:=N+1) (by rw[q4];exact h3.si);have hrs:=z9h hK hk hbg;have hn1:=zcE t2 (za8 6) n (by rw[q1];exact hen.1) (by rw[q2];exact hen.2);have hn2:=zcE t2 zam n (by rw[q1];exact hen.1) (by rw[q2];exact hen.2);have hn3:=zcE t2 (ziA K t2) n (by rw[q1];exact hen.1) (by rw[q2];exact hen.2);generalize ziA K t2=rr at *;clear ht ha hu k4 h1 h2 h3 h4 h9 ho hSI hKe q1 q2 q3 q4 hbg hk
   by_cases d3:t2.loaded=3
   ·rw[zacY d3];clear hn2 hn3 hrs;generalize za4 t2 (za8 6) n=t3 at *;have sz_t3:=zA t3;generalize zd t3=D_t3 at *;replace d3:=zadb d3;simp only[zd,z6,za8,zam,zacZ] at *;exact zW zgI
   rw[zacX d3];replace d3:=zac3 d3
   by_cases d2:t2.loaded=2
   ·rw[zacY d2];clear hn1 hn3 hrs;generalize za4 t2 zam n=t3 at *;have sz_t3:=zA t3;generalize zd t3=D_t3 at *;replace d2:=zadb d2;simp only[zd,z6,zam,zacZ] at *;exact zW zgI
   rw[zacX d2];replace d2:=zac3 d2
   by_cases d1:t2.loaded=1
   ·rw[zacY d1];clear hn1 hn2;generalize za4 t2 rr n=t3 at *;have sz_t3:=zA t3;generalize zd t3=D_t3 at *;have sz_rr:=zcJ rr;generalize z6 rr=D_rr at *;replace d1:=zadb d1;simp only[zd] at *;exact zW zgI
   ·rw[zacX d1];clear hn1 hn2 hn3 hrs;replace d1:=zac3 d1;simp only[zd] at *;exact zW zgI
theorem z8G{u:Setup}{N:Int}{t:zq}(hs:SI u N t.sec)(hk:t.sec.shards.length=1)(hn:t.sec.lock.cells.length=2):zg G zqp [.d (zd t)] []=some (.d (.tup [zd (zdV t).1,.sl ((zdV t).2.map zad)]),[]):=by
 have hv:=(hs.sv _ (zadf (show 0<t.sec.shards.length by omega))).1;have hb:zbn t.sec.shards[0]:=zf8 (zci hv);have hu:=zhK t.sec;have hrm:=zQD hk hv;have hsn:=zlo t 9;have hdv:=hs.dv;have hl12:=zci hv;have hun:=hs.un;unfold zdV;simp only;rw[zdH hk]
 by_cases c0:t.sec.shards[0].live=false
 ·rw[zacY c0];have hd:=zbW (t:=t) hs hun;generalize zaU t (zaa t.sec)=t2 at *;have sz_t2:=zA t2;generalize zd t2=D_t2 at *;clear hs hb hrm hsn hv hl12 hun hn;simp only[zd,zC,zZ,zaa,zacZ,zB] at *;exact zW zr1
 rw[zacX c0];replace c0:t.sec.shards[0].live=true:=by simpa using c0
 by_cases c1:zgy t=0
 ·rw[zacY c1];rw[c1] at hrm;have hd:=zbW (t:=t) hs hun;generalize zaU t (zaa t.sec)=t2 at *;have sz_t2:=zA t2;generalize zd t2=D_t2 at *;clear hs hb hv hl12 hun hn c1;simp only[zd,zC,zZ,zaa,zc9,zb0,zad,zbt,zacZ,zac1,zB] at *;exact zW zr1
 rw[zacX c1];have htk:=zabF t.sec.dead (zgy t) t.sec.snap.epoch zo;have htl:=zQ3 t.sec.dead (zgy t) t.sec.snap.epoch;generalize zgy t=rm at *;generalize zhJ t.sec.dead rm t.sec.snap.epoch=d at *;obtain⟨d1,l,d3⟩:=d;simp only at *
 by_cases c2:l.length=0
 ·rw[zacY c2];have e0:l=[]:=zadN.1 c2;subst e0;have hd:=zbW (t:=t) hs hun;generalize zaU t (zaa t.sec)=t2 at *;have sz_t2:=zA t2;generalize zd t2=D_t2 at *;clear hs hb hv hl12 hun hn htl;simp only[zd,zC,zZ,zX,zaa,zc9,zb0,zad,zbt,zacZ,zac1,zB] at *;exact zW zr1
 ·rw[zacX c2];have hlp:=z8v t t.sec.shards[0] d1 l zo ⟨[],0⟩ ⟨by simp,by simp⟩;have hab:=zDF t.sec.shards[0] (l.map zbR) hb (by rw[zadd];omega);have hla:=zAI hl12 (l.map zbR);have hoi:OI t.sec { zaa t.sec with carry:=l.map zbR,shards:=[(zgA t.sec.shards[0] (l.map zbR)).1],dead:=d1,order:=[1,0] }:=by
   have q:=hs.dead hk hn hla (d:=d1) zo (ord:=[1,0]) (.inr rfl) (ca:=l.map zbR) (by rw[zadd];omega);exact q
  have hd:=zbW (t:=t) hs hoi;clear hoi hla;generalize zgA t.sec.shards[0] (l.map zbR)=y at *;obtain⟨y1,y2⟩:=y;simp only at *;have eg:(l.map fun m=>(⟨m.id,m.gen,(zct (zbR m) t.sec.shards[0].low t.sec.shards[0].high).route,0⟩:Grant))=l.map (rdG t.sec.shards[0]):=rfl;rw[eg];clear eg;generalize zaU t { zaa t.sec with carry:=l.map zbR,shards:=[y1],dead:=d1,order:=[1,0] }=t2 at *;have sz_t2:=zA t2;generalize zd t2=D_t2 at *;clear hs hb hv hl12 hun hn
  cases l with
  | nil=>exact absurd rfl c2
  | cons l0 ls=>
   clear c2;simp only[zjz,znp,accC,zan,evA,tkZ,zd,zC,zZ,zX,zaa,zc9,zb0,zad,zbt,zadu,zadi,zadk,zadl,zac4,zadd,zacZ,zac1,zB,zado] at *;exact zW zr1
theorem z8J(a:zy)(t:zq)(n:Int)(h:z8 t 8 8≠0):zg G zlY [.d (zi a),.d (zd t),.d (.int .i64 n)] []=some (.d (.tup [zi zF,zd zD,.sl [],.int .i64 (z8 t 8 8)]),[]):=by
 have hg:=zcK t 8 8;have hf:=zbN (z8 t 8 8);generalize z8 t 8 8=ge at *;have sz_zTask:=zA zD;generalize zd zD=D_zTask at *;have sz_t:=zA t;generalize zd t=D_t at *;have sz_zArena:=zaq zF;generalize zi zF=D_zArena at *;exact zW zic
theorem z8L{u:Setup}{a:zy}{t:zq}{n N:Int}(hu:zJ u=true)(ha:AI u a)(ht:TI u N t)(hN:N<=999999):zg G zlY [.d (zi a),.d (zd t),.d (.int .i64 n)] []=some (.d (.tup [zi (zcV a t n).1,zd (zcV a t n).2.1,.sl ((zcV a t n).2.2.1.map zad),.int .i64 (zcV a t n).2.2.2]),[]):=by
 unfold zcV
 by_cases c0:z8 t 8 8=0
 rotate_left
 ·rw[zacY c0];exact z8J a t n c0
 rw[zacX (fun q=>q c0)];have hg:=zcK t 8 8;rw[c0] at hg;obtain⟨g1,g2⟩:=zdx c0;have hen:=zfY ht g1;clear g1
 by_cases c1:t.pc=0
 ·rw[zacY c1];have hdl:=zgf ha.dv;have hld:=zsS a;have hho:=zLR a.dir t.inv.home zo;generalize zdy a.dir t.inv.home=k at *;have hse:=zhD { t with dir:=a.dir,slot:=k } [k,t.setup.slots] 1 (by simp);generalize zaO { t with dir:=a.dir,slot:=k } [k,t.setup.slots] 1=t2 at *;have sz_t2:=zA t2;generalize zd t2=D_t2 at *;replace c1:=zadb c1;clear ht ha hu;simp only[zd,zU,zB,zac1,zacZ] at *;exact zW zic
 rw[zacX c1];have k4:=ht.se ⟨c1,by omega⟩;have hgo:=zeD a t n (zeW hu ha k4.si zo);have hgk:=zeE (n:=n) ha k4.si k4.ed;simp only;generalize goT a t n=g at *;obtain⟨a2,t2,b1,b2,e⟩:=g;simp only at *;replace c1:=zac3 c1
 by_cases c4:e=0
 rotate_left
 ·rw[zacY c4];have hf:=zbN e;unfold zaT;clear hgk ht ha hu k4;have sz_zTask:=zA zD;generalize zd zD=D_zTask at *;have sz_zArena:=zaq zF;generalize zi zF=D_zArena at *;have sz_t2:=zA t2;generalize zd t2=D_t2 at *;have sz_a2:=zaq a2;generalize zi a2=D_a2 at *;simp only[zd] at *;exact zW zic
 subst c4;simp only[ne_eq,zac9,if_false];obtain⟨h1,s,h2,hSI,hKe,ho,h4,h9⟩:=hgk rfl;have h3:zaB u (N+1) t.inv s:=k4.keep hSI hKe (by rw[ho];exact k4.ed);have hen2:t2.entry=t.entry/\t2.results=t.results/\t2.inv=t.inv/\t2.sec=s:=by rw[h2];exact⟨rfl,rfl,rfl,rfl⟩
 obtain⟨q1,q2,q3,q4⟩:=hen2
 cases b1
 rotate_left
 ·simp only[if_true];have hk:t2.sec.shards.length=1:=by rw[q4];exact (zca h3 ht.iv (.inl (h4.1 rfl))).2.1 zo
  have hn:t2.sec.lock.cells.length=2:=by
   rw[q4];obtain⟨c,_,_,e⟩:=h3.c8 zo;rw[e];rfl
  have hd:=z8G (t:=t2) (by rw[q4];exact h3.si) hk hn;generalize zdV t2=r at *;obtain⟨t3,l⟩:=r;clear ht ha hu k4 h1 h2 h3 h4 h9 ho hSI hKe q1 q2 q3 q4 hk hn;simp only at *;have sz_t2:=zA t2;generalize zd t2=D_t2 at *;have sz_t3:=zA t3;generalize zd t3=D_t3 at *;simp only[zd] at *;exact zW zic
 ·simp only[zac8,if_false]
  cases b2
  ·simp only[if_true];clear ht ha hu k4 h1 h2 h3 h4 h9 ho hSI hKe q1 q2 q3 q4;have sz_t2:=zA t2;generalize zd t2=D_t2 at *;simp only[zd] at *;exact zW zic
  ·simp only[zadA,if_false];have hk:t2.sec.shards.length=1:=by rw[q4];exact (zca h3 ht.iv (.inr (h9.1 rfl))).2.1 zo
   have hv:zaf t2.sec.shards[0]=0:=by
    have hs:SI u (N+1) t2.sec:=by rw[q4];exact h3.si
    exact (hs.sv _ (zadf (show 0<t2.sec.shards.length by omega))).1
   have hrm:=zQD hk hv;have hoc:t2.sec.out.carry.length<=1000:=by rw[q4];exact h3.si.oc.1
   rw[zdH hk]
   by_cases c5:t2.sec.shards[0].live=false
   ·rw[zacY c5];clear ht ha hu k4 h1 h2 h3 h4 h9 ho hSI hKe q1 q2 q3 q4 hv hrm;simp only[zd] at *;exact zW zic
   ·rw[zacX c5];replace c5:t2.sec.shards[0].live=true:=by simpa using c5
    generalize zgy t2=rm at *;have hnx:=zcE t2 { zam with moved:=t2.sec.out.carry.length,err:=if rm=0 then 3 else 0 } n (by rw[q1];exact hen.1) (by rw[q2];exact hen.2);clear ht ha hu k4 h1 h2 h3 h4 h9 ho hSI hKe q1 q2 q3 q4 hv
    by_cases c6:rm=0
    ·subst c6;simp only[if_true] at *;generalize za4 t2 { zam with moved:=t2.sec.out.carry.length,err:=3 } n=t3 at *;have sz_t3:=zA t3;generalize zd t3=D_t3 at *;simp only[zd,z6,zam,zacZ] at *;exact zW zic
    ·rw[zacX c6] at hnx ⊢;generalize za4 t2 { zam with moved:=t2.sec.out.carry.length,err:=0 } n=t3 at *;have sz_t3:=zA t3;generalize zd t3=D_t3 at *;simp only[zd,z6,zam,zacZ] at *;exact zW zic
theorem zTM(a:zy)(t:zq)(n:Int)(h:z8 t 7 7≠0):zg G zlX [.d (zi a),.d (zd t),.d (.int .i64 n)] []=some (.d (.tup [zi zF,zd zD,.sl [],.int .i64 (z8 t 7 7)]),[]):=by
 have hg:=zcK t 7 7;have hf:=zbN (z8 t 7 7);generalize z8 t 7 7=ge at *;have sz_zTask:=zA zD;generalize zd zD=D_zTask at *;have sz_t:=zA t;generalize zd t=D_t at *;have sz_zArena:=zaq zF;generalize zi zF=D_zArena at *;exact zW zef
theorem z79(l:List zbl):(!l.any zis)=ztc l:=by
 unfold ztc
 induction l with
 | nil=>rfl
 | cons x l ih=>rw[zaeE,zad0,Bool.not_or,ih]
theorem zTO{u:Setup}{a:zy}{t:zq}{n N:Int}(hu:zJ u=true)(ha:AI u a)(ht:TI u N t):zg G zlX [.d (zi a),.d (zd t),.d (.int .i64 n)] []=some (.d (.tup [zi (zcS a t n).1,zd (zcS a t n).2.1,.sl ((zcS a t n).2.2.1.map zad),.int .i64 (zcS a t n).2.2.2]),[]):=by
 unfold zcS
 by_cases c0:z8 t 7 7=0
 rotate_left
 ·rw[zacY c0];exact zTM a t n c0
 rw[zacX (fun q=>q c0)];have hg:=zcK t 7 7;rw[c0] at hg;obtain⟨g1,g2⟩:=zdx c0;have hen:=zfY ht g1;clear g1;have hb:=znC hu;have hsl:=ha.sl;have hst:=ha.st;have hfs:=ht.fs;have hsu:t.setup.slots=u.slots:=by rw[ht.su]
 have hw:=zkJ a 1;simp only[zgL,if_true] at hw
 by_cases c1:t.pc=0
 ·rw[zacY c1];replace c1:=zadb c1;clear ht ha hu hsu;simp only[zd,zacZ] at *;exact zW zef
 rw[zacX c1]
 by_cases c2:t.pc=1
 ·rw[zacY c2];have hl:=zBe a t.first.length zo hst;simp only;generalize zeJ a t.first.length=r at *;obtain⟨x,e⟩:=r;simp only at *
  by_cases c3:e=0
  ·subst c3;simp only[ne_eq,zac9,if_false];have hq:=z78 (t.first++[x]) (by simp only[zac6,zadF];omega);rw[z79] at hq;generalize ztc (t.first++[x])=q at *;replace c1:=zac3 c1;replace c2:=zadb c2
   by_cases c4:((t.first++[x]).length:Int)=t.setup.slots
   ·simp only[c4,if_true];have c5:((t.first.length:Int)+1=t.setup.slots)=True:=zadb (by simpa using c4);clear ht ha hu hsu c4
    cases q
    ·simp only[zac8,if_false,zd,zadg,zac1,zacZ] at *;exact zW zef
    ·simp only[if_true,zd,zadg,zac1,zacZ] at *;exact zW zef
   ·simp only[c4,if_false];have c5:((t.first.length:Int)+1=t.setup.slots)=False:=zac3 (by simpa using c4);clear ht ha hu hsu c4 hq;simp only[zd,zadg,zac1,zacZ] at *;exact zW zef
  ·rw[zacY c3];have hf:=zbN e;clear ht ha hu hsu;replace c1:=zac3 c1;replace c2:=zadb c2;have sz_zTask:=zA zD;generalize zd zD=D_zTask at *;have sz_zArena:=zaq zF;generalize zi zF=D_zArena at *;simp only[zd] at *;exact zW zef
 rw[zacX c2]
 by_cases c3:t.pc=2
 ·rw[zacY c3];have hl:=zBe a t.second.length zo hst;simp only;generalize zeJ a t.second.length=r at *;obtain⟨x,e⟩:=r;simp only at *
  by_cases c4:e=0
  ·subst c4;simp only[ne_eq,zac9,if_false];have hq:=z97 t.first (t.second++[x]) zo (by simp only[zac6,zadF];omega);replace c1:=zac3 c1;replace c2:=zac3 c2;replace c3:=zadb c3;have d1:(t.second.length=0)=(((t.second.length:Int)=0)):=propext zo;simp only[d1];clear d1
   by_cases c5:((t.second++[x]).length:Int)=t.setup.slots
   ·simp only[c5,if_true];have c6:((t.second.length:Int)+1=t.setup.slots)=True:=zadb (by simpa using c5);clear ht ha hu hsu c5
    by_cases c7:t.first=t.second++[x]
    ·rw[zadn c7] at hq;rw[zacY c7]
     by_cases c8:(t.second.length:Int)=0
     ·simp only[c8,if_true];replace c8:=zadb c8;clear c7;simp only[zd,zadg,zac1,zacZ] at *;exact zW zef
     ·simp only[c8,if_false];replace c8:=zac3 c8;clear c7;simp only[zd,zadg,zac1,zacZ] at *;exact zW zef
    ·rw[zadq c7] at hq;simp only[c7,if_false]
     by_cases c8:(t.second.length:Int)=0
     ·simp only[c8,if_true];replace c8:=zadb c8;clear c7;simp only[zd,zadg,zac1,zacZ] at *;exact zW zef
     ·simp only[c8,if_false];replace c8:=zac3 c8;clear c7;simp only[zd,zadg,zac1,zacZ] at *;exact zW zef
   ·simp only[c5,if_false];have c6:((t.second.length:Int)+1=t.setup.slots)=False:=zac3 (by simpa using c5);clear ht ha hu hsu c5 hq
    by_cases c8:(t.second.length:Int)=0
    ·simp only[c8,if_true];replace c8:=zadb c8;simp only[zd,zadg,zac1,zacZ] at *;exact zW zef
    ·simp only[c8,if_false];replace c8:=zac3 c8;simp only[zd,zadg,zac1,zacZ] at *;exact zW zef
  ·rw[zacY c4];have hf:=zbN e;clear ht ha hu hsu;replace c1:=zac3 c1;replace c2:=zac3 c2;replace c3:=zadb c3;have sz_zTask:=zA zD;generalize zd zD=D_zTask at *;have sz_zArena:=zaq zF;generalize zi zF=D_zArena at *;simp only[zd] at *;exact zW zef
 rw[zacX c3]
 by_cases c4:a.epoch=t.loaded
 ·rw[zacX (fun q=>q c4)];have hs:=zabw t.first a.epoch zo;have hev:=zrv t 8 t.id;simp only;generalize zeo t.first a.epoch t.first.length=p at *;obtain⟨p1,p2⟩:=p;simp only at *;have hnx:=zcE t { zam with ready:=p1,leased:=p2 } n hen.1 hen.2;generalize za4 t { zam with ready:=p1,leased:=p2 } n=t2 at *;have sz_t2:=zA t2;generalize zd t2=D_t2 at *;clear ht ha hu hsu;replace c1:=zac3 c1;replace c2:=zac3 c2;replace c3:=zac3 c3;replace c4:=zadb c4;simp only[zd,zad,evT,zbt,z6,zam,zacZ,zac1] at *;exact zW zef
 ·rw[zacY c4];clear ht ha hu hsu;replace c1:=zac3 c1;replace c2:=zac3 c2;replace c3:=zac3 c3;replace c4:=zac3 c4;simp only[zd] at *;exact zW zef
end Go.Proofs.YtdnlddoeamjcoaaGreat
