/-
  A burial's plan.
-/
import Derived.Test.YtnmcgdpmikhohaaGreatBc8d43d5
import Derived.Test.YtnmcgdpmikhohaaGreatB3dc7559
import Derived.Test.YtnmcgdpmikhohaaGreatBaf2e7e0
import Derived.Test.YtnmcgdpmikhohaaGreatB13db0db
set_option linter.unusedSimpArgs false
set_option linter.unusedVariables false
set_option maxHeartbeats 10000000
set_option maxRecDepth 100000
namespace Go.Proofs.YtnmcgdpmikhohaaGreat
open Go Go.Sim
theorem zLF(d:Directory)(h:Int)(hL:d.l.length<=4294967296):zi G zqc [.d (zaT d),.d (.int .i64 h)] []=some (.d (.int .i64 (zcZ d h)),[]):=by
 have h1:=z6I d h hL;have h2:=zNq d 0 hL;unfold zcZ;generalize zki d h=v at *;simp only[zaT] at *
 by_cases c:0<=v
 ·rw[zabo c];exact zW zIz
 ·rw[zabn c];exact zW zIz
theorem zQs{t:zq}(hk:t.sec.shards.length=1)(hv:zY t.sec.shards[0]=0):zi G zqk [.d (zf t)] []=some (.d (.int .i64 (zf9 t)),[]):=by
 have hst:=zhk t.sec.shards[0] (zfH (zbT hv));have hb:=znF hv;have hl:=(zbT hv).1;unfold zf9 zhY;rw[zc6 hk];generalize zbb t.sec.shards[0]=sd at *;have e:(if t.inv.max<(t.sec.shards[0].ready.cells.length:Int) - sd then t.inv.max else (t.sec.shards[0].ready.cells.length:Int) - sd)=(if (t.sec.shards[0].ready.cells.length:Int) - sd<t.inv.max then (t.sec.shards[0].ready.cells.length:Int) - sd else t.inv.max):=by split<;>split<;>omega
 rw[e];clear e hv;simp only[zf] at *;exact zW zXs
def rdG(s:zt)(m:zj):Grant:=⟨m.id,m.gen,(zb7 (zbB m) s.low s.high).route,0⟩
def zjd(t:zq)(s:zt)(d:za7)(l:List zj)(out:List zj)(m0:AV)(hm:zd)(i:Nat):St:=⟨[(1,.ref 1 0 0),(2,.ref 2 0 0),(4,.ref 4 0 0),(5,.ref 5 0 0),(6,.ref 6 0 0),(8,.ref 8 0 0),(9,.d (.sl (l.map zm))),(11,.d (.int .i64 i))],[(1,.row [.d (zf t)]),(2,.row [m0]),(4,.row [.d (zk s)]),(5,.row [.agg [.d (.sl (t.sec.shards.map zk)),.d (.int .i64 t.sec.dead.cap),.d (.sl (t.sec.dead.l.map zm)),.xsl [],accC 77 ((out.map zbB).map zm),.xsl []]]),(6,.row [evA t 9 (accC 500094 ((out.map (rdG s)).map zbt))]),(8,.row [.d (zT d)])]++zam 77 ((out.map zbB).map zm)++zam 500094 ((out.map (rdG s)).map zbt)⟩
def tkZ:AV:= .agg [.d (.int .i64 0),.d (.int .i64 0),.d (.int .i64 0),.d (.int .i64 0),.d (.int .i64 0),.d (.int .i64 0),.d (.int .i64 0),.xsl [],.xsl [],.d (.int .i64 0),.d (.bool false),.d (.int .i64 0),.d (.int .i64 0),.d (.int .i64 0),.xsl [],.d (.int .i64 0),.d (.int .i64 0),.d (.int .i64 0),.d (.int .i64 0),.d (.int .i64 0),.d (.int .i64 0),.d (.int .i64 0),.d (.int .i64 0),.d (.int .i64 0),.d (.int .i64 0),.xsl [],.d (.int .i64 0),.d (.int .i64 0),.d (.int .i64 0),.d (.int .i64 0),.d (.int .i64 0),.d (.int .i64 0),.d (.int .i64 0),.d (.int .i64 0),.xsl [],.d (.int .i64 0),.xsl [],.xsl [],.d (.int .i64 0),.xsl [],.xsl [],.xsl [],.d (.int .i64 0),.xsl [],.xsl [],.xsl [],.xsl [],.d (.int .i64 0),.xsl [],.d (.int .i64 0),.xsl [],.xsl [],.d (.int .i64 0),.d (.int .i64 0),.d (.int .i64 0),.d (.int .i64 0),.d (.int .i64 0),.d (.int .i64 0),.d (.int .i64 0),.d (.int .i64 0),.d (.int .i64 0),.xsl [],.xsl []]
def znj(t:zq)(s:zt)(d:za7)(out:List zj):zX×St:=(.exit 0,⟨[(1,.ref 1 0 0),(2,.ref 2 0 0),(4,.ref 4 0 0),(5,.ref 5 0 0),(6,.ref 6 0 0),(8,.ref 8 0 0)],[(1,.row [.d (zf t)]),(2,.row [tkZ]),(4,.row [.d (zk s)]),(5,.row [.agg [.d (.sl (t.sec.shards.map zk)),.d (.int .i64 t.sec.dead.cap),.d (.sl (t.sec.dead.l.map zm)),.xsl [],accC 77 ((out.map zbB).map zm),.xsl []]]),(6,.row [evA t 9 (accC 500094 ((out.map (rdG s)).map zbt))]),(8,.row [.d (zT d)])]++zam 77 ((out.map zbB).map zm)++zam 500094 ((out.map (rdG s)).map zbt)⟩)
theorem z6U(t:zq)(s:zt)(d:za7)(l:List zj)(hl:l.length<=1000):∀p:List zj×Nat,(p.2<=l.length/\p.1.length<=p.2)->z6 G [] zks (zjd t s d l p.1 tkZ [] p.2)=some (znj t s d (p.1++l.drop p.2)):=by
 refine zaL (fun p:List zj×Nat=>l.length - p.2) (fun p:List zj×Nat=>(p.2<=l.length/\p.1.length<=p.2)) (fun p=>zjd t s d l p.1 tkZ [] p.2) (fun p=>some (znj t s d (p.1++l.drop p.2))) fun⟨out,i⟩ ⟨hi,hr⟩ L ih=> ?_;simp only at hi hr
 by_cases h0:i<l.length
 ·simp only;rw[zabX h0];have hrv:=z7J l[i];have hrr:zi G zlt [.d (zm (zbB l[i])),.d (.int .i64 s.low),.d (.int .i64 s.high)] []=some (.d (.agg [.int .i64 (zb7 (zbB l[i]) s.low s.high).id,.int .i64 (zb7 (zbB l[i]) s.low s.high).route,.int .i64 (zb7 (zbB l[i]) s.low s.high).epoch,.int .i64 (zb7 (zbB l[i]) s.low s.high).count,.int .i64 (zb7 (zbB l[i]) s.low s.high).gen,.int .i64 (zb7 (zbB l[i]) s.low s.high).sent,.str (zb7 (zbB l[i]) s.low s.high).body]),[]):=zQo (zbB l[i]) s.low s.high;have i1:=ih ⟨out++[l[i]],i+1⟩ ⟨by simp only;omega,by simp only[zabv,zab3];omega⟩ (by simp only;omega);clear ih;simp only[zab9,zadb] at i1;have hG:D.agg [D.int .i64 (zbB l[i]).id,D.int .i64 (zbB l[i]).gen,D.int .i64 (zb7 (zbB l[i]) s.low s.high).route,D.int .i64 0]=zbt (rdG s l[i]):=rfl;generalize znj t s d (out++l[i]::l.drop (i+1))=R at *
  cases out with
  | nil=>
   simp only[zjd,accC,zam,evA,tkZ,zks,zf,zabq,zabL,zabJ,zabN,zabF,zabs,zabw] at *;simp only[zNr,zB] at i1;exact zS
  | cons r0 rs=>
   simp only[zjd,accC,zam,evA,tkZ,zks,zf,zabq,zabF,zabs,zabE,zabN,zabJ,zabu,zabv,zabw] at *;simp only[zNr,zB] at i1;exact zS
 ·clear ih;obtain rfl:i=l.length:=by omega
  simp only[zab7,zabL,znj]
  cases out with
  | nil=>
   simp only[zjd,accC,zam,evA,tkZ,zks,zf,zabq,zabL] at *;exact zS
  | cons r0 rs=>
   simp only[zjd,accC,zam,evA,tkZ,zks,zf,zabs,zabE,zabN,zabJ,zabu] at *;exact zS
theorem zQU{t:zq}(hk:t.sec.shards.length=1)(hb:za4 t.sec.shards[0]):zi G zqf [.d (zf t)] []=some (.d (.tup [zk (zda t).1,.sl (zC (zda t).2.1),.sl ((zda t).2.2.map zaI)]),[]):=by
 have h1:=zHw t.sec.shards[0] t.sec.snap.clock t.sec.snap.epoch t.setup.limit hb;have h2:=z93 (zcw t.sec.shards[0] t.sec.snap.clock t.sec.snap.epoch t.setup.limit).1 t.inv.max t.sec.snap.clock t.inv.visibility t.sec.snap.epoch t.setup.limit (zfH (zLU _ _ _ _));unfold zda;simp only;rw[zc6 hk];generalize zcw t.sec.shards[0] t.sec.snap.clock t.sec.snap.epoch t.setup.limit=e at *;obtain⟨e1,e2,e3⟩:=e;simp only at *;generalize zcD e1 t.inv.max t.sec.snap.clock t.inv.visibility t.sec.snap.epoch t.setup.limit=k at *;obtain⟨k1,k2,k3⟩:=k;simp only at *;have sz_e1:=zbm e1;generalize zk e1=D_e1 at *;have sz_k1:=zbm k1;generalize zk k1=D_k1 at *;simp only[zf] at *;exact zW zXq
def zgM(K:Tok)(slot:Int)(y:zG):List UInt8:=(K.enc ⟨y.msg.id,y.msg.gen,y.msg.route,slot⟩).1
def zif(K:Tok)(t:zq)(l:List zG)(out:List zG)(i:Nat):St:=⟨[(1,.ref 1 0 0),(2,.ref 2 0 0),(3,.ref 3 0 0),(6,.d (.sl (l.map zaI))),(7,.d (.int .i64 i))],[(1,.row [.d (zf t)]),(2,.row [zdP]),(3,.row [.agg [.d (.int .i64 0),.d (.int .i64 0),accC 45 ((out.map (zgM K t.slot)).map zaA),accC 52 ((out.map (·.msg.body)).map .str),.d (.int .i64 0),.d (.int .i64 0),.d (.int .i64 0)]])]++zam 45 ((out.map (zgM K t.slot)).map zaA)++zam 52 ((out.map (·.msg.body)).map .str)⟩
def zk6(K:Tok)(t:zq)(out:List zG):zX×St:=(.exit 0,⟨[(2,.ref 2 0 0),(3,.ref 3 0 0)],[(2,.row [zdP]),(3,.row [.agg [.d (.int .i64 0),.d (.int .i64 0),accC 45 ((out.map (zgM K t.slot)).map zaA),accC 52 ((out.map (·.msg.body)).map .str),.d (.int .i64 0),.d (.int .i64 0),.d (.int .i64 0)]])]++zam 45 ((out.map (zgM K t.slot)).map zaA)++zam 52 ((out.map (·.msg.body)).map .str)⟩)
theorem zRM(l:List (List UInt8)):zas 1 (l.map zaA)=true:=by
 induction l with
 | nil=>rfl
 | cons x l ih=>rw[zabs,zDx,ih];rfl
theorem z7U{K:Tok}(hK:zgF K)(t:zq)(l:List zG)(hl:l.length<=1000):∀p:List zG×Nat,(p.2<=l.length/\p.1.length<=p.2)->z6 G [] zkr (zif K t l p.1 p.2)=some (zk6 K t (p.1++l.drop p.2)):=by
 refine zaL (fun p:List zG×Nat=>l.length - p.2) (fun p:List zG×Nat=>(p.2<=l.length/\p.1.length<=p.2)) (fun p=>zif K t l p.1 p.2) (fun p=>some (zk6 K t (p.1++l.drop p.2))) fun⟨out,i⟩ ⟨hi,hr⟩ L ih=> ?_;simp only at hi hr
 by_cases h0:i<l.length
 ·simp only;rw[zabX h0];have hen:=hK.en ⟨l[i].msg.id,l[i].msg.gen,l[i].msg.route,t.slot⟩;have i1:=ih ⟨out++[l[i]],i+1⟩ ⟨by simp only;omega,by simp only[zabv,zab3];omega⟩ (by simp only;omega);clear ih;simp only[zab9,zadb] at i1;have hz:∀b,(zaA b).size=1:=fun _=>rfl;have hz2:∀b,(zaA b).isT=false:=fun _=>rfl;generalize zk6 K t (out++l[i]::l.drop (i+1))=R at *;have hal:=zRM
  cases out with
  | nil=>
   simp only[zif,accC,zam,zdP,zgM,zkr,zf,zat,zabq,zabL,zabJ,zabN,zabF,zabs,zabw] at *;simp only[zNr,zB] at i1;exact zS
  | cons r0 rs=>
   simp only[zif,accC,zam,zdP,zgM,zkr,zf,zat,zabq,zabF,zabs,zabE,zabN,zabJ,zabu,zabv,zabw] at *;simp only[zNr,zB] at i1;exact zS
 ·clear ih;obtain rfl:i=l.length:=by omega
  simp only[zab7,zabL,zk6]
  cases out with
  | nil=>
   simp only[zif,accC,zam,zdP,zgM,zkr,zf,zabq,zabL] at *;exact zS
  | cons r0 rs=>
   simp only[zif,accC,zam,zdP,zgM,zkr,zf,zabs,zabE,zabN,zabJ,zabu] at *;exact zS
theorem zaaq(mx d ep lim:Int):∀(l:List zj) (s:zt) (out:List zG),(tkF mx d ep lim l s out).2.1.length<=out.length+l.length:=by
 intro l
 induction l with
 | nil=>intro s out;rw[tkF];simp
 | cons m l ih=>
  intro s out;rw[tkF]
  split
  ·have:=ih s out;simp only[zabu];omega
  split
  ·simp
  ·have:=ih (zfP s m d).1 (out++[(zfP s m d).2.1]);simp only[zabv,zabu,zabw] at *;omega
theorem zQV(s:zt)(mx now vis ep lim:Int):(zcD s mx now vis ep lim).2.1.length<=12:=by
 unfold zcD
 split
 ·simp
 split
 ·simp
 ·rename_i c _;have hl:zab s=0:=by
   have c:=zabG.1 c;unfold zlg at c;unfold usE at c
   split at c
   ·rename_i q;exact absurd c q
   ·rename_i q;exact zabG.1 q
  have:=zaaq mx (now+vis) ep lim (zD s.ready) s [];have h12:=zha (zgp hl);simp only[zabw] at this;omega
theorem zQX(t:zq):(zda t).2.1.length<=12/\(zda t).2.2.length<=12:=by
 unfold zda;simp only;refine⟨zHv _ _ _ _,?_⟩;exact zQV _ _ _ _ _ _
theorem z7G{K:Tok}(hK:zgF K){t:zq}(hk:t.sec.shards.length=1)(hb:za4 t.sec.shards[0]):zi G zqe [.d (zf t)] []=some (.d (z7 (zib K t)),[]):=by
 have ht:=zQU hk hb;have hl:=(zQX t).2;unfold zib;have hlp:=z7U hK t (zda t).2.2 zo ⟨[],0⟩ ⟨by simp,by simp⟩;have ee:((zda t).2.2.map fun y=>(K.enc ⟨y.msg.id,y.msg.gen,y.msg.route,t.slot⟩).1)=(zda t).2.2.map (zgM K t.slot):=rfl;rw[ee];clear ee;generalize zda t=r at *;obtain⟨s,u,l⟩:=r;simp only at *;have sz_s:=zbm s;generalize zk s=D_s at *;clear hb
 cases l with
 | nil=>
  simp only[zif,zk6,accC,zam,zdP,zf,z7,zac,zabZ,zabq,zabL,zabJ,zabQ] at *;exact zW zIA
 | cons l0 ls=>
  simp only[zif,zk6,accC,zam,zdP,zf,z7,zac,zabZ,zabq,zabL,zabJ,zabs,zabN,zabu,zabE,zabQ] at *;exact zW zIA
def zjb(t:zq)(s x:zt)(u:List Int)(l:List zG)(out:List Int)(i:Nat):St:=⟨[(1,.ref 1 0 0),(2,.ref 2 0 0),(4,.ref 4 0 0),(5,.ref 5 0 0),(6,.ref 6 0 0),(7,.ref 7 0 0),(8,.d (.sl (zC u))),(9,.d (.sl (l.map zaI))),(10,.acc 10 []),(11,.ref 11 0 0),(12,.d (.int .i64 i))],[(1,.row [.d (zf t)]),(2,.row [tkZ]),(4,.row [.d (zk s)]),(5,.row [unA t.sec]),(6,.row [evA t 3 (.xsl [])]),(7,.row [.d (zk x)]),(10,.acc 0),(11,.row [evA t 10 (accC 500076 ((out.map idG).map zbt))])]++zam 500076 ((out.map idG).map zbt)⟩
def znh(t:zq)(s x:zt)(u:List Int)(l:List zG)(out:List Int):zX×St:=(.exit 0,⟨[(1,.ref 1 0 0),(2,.ref 2 0 0),(4,.ref 4 0 0),(5,.ref 5 0 0),(6,.ref 6 0 0),(7,.ref 7 0 0),(8,.d (.sl (zC u))),(9,.d (.sl (l.map zaI))),(10,.acc 10 []),(11,.ref 11 0 0)],[(1,.row [.d (zf t)]),(2,.row [tkZ]),(4,.row [.d (zk s)]),(5,.row [unA t.sec]),(6,.row [evA t 3 (.xsl [])]),(7,.row [.d (zk x)]),(10,.acc 0),(11,.row [evA t 10 (accC 500076 ((out.map idG).map zbt))])]++zam 500076 ((out.map idG).map zbt)⟩)
theorem z6S(t:zq)(s x:zt)(u:List Int)(l:List zG)(hu:u.length<=1000):∀p:List Int×Nat,(p.2<=u.length/\p.1.length<=p.2)->z6 G [] zkp (zjb t s x u l p.1 p.2)=some (znh t s x u l (p.1++u.drop p.2)):=by
 refine zaL (fun p:List Int×Nat=>u.length - p.2) (fun p:List Int×Nat=>(p.2<=u.length/\p.1.length<=p.2)) (fun p=>zjb t s x u l p.1 p.2) (fun p=>some (znh t s x u l (p.1++u.drop p.2))) fun⟨out,i⟩ ⟨hi,hr⟩ L ih=> ?_;simp only at hi hr
 by_cases h0:i<u.length
 ·simp only;rw[zabX h0];have i1:=ih ⟨out++[u[i]],i+1⟩ ⟨by simp only;omega,by simp only[zabv,zab3];omega⟩ (by simp only;omega);clear ih;simp only[zab9,zadb] at i1;have hG:D.agg [D.int .i64 u[i],D.int .i64 0,D.int .i64 0,D.int .i64 0]=zbt (idG u[i]):=rfl;generalize znh t s x u l (out++u[i]::u.drop (i+1))=R at *;have sz_t:=zQ t;generalize zf t=D_t at *
  cases out with
  | nil=>
   simp only[zjb,accC,zam,evA,tkZ,unA,zkp,zabq,zabL,zabJ,zabN,zabF,zabs,zabw] at *;simp only[zNr,zB] at i1;exact zS
  | cons r0 rs=>
   simp only[zjb,accC,zam,evA,tkZ,unA,zkp,zabq,zabF,zabs,zabE,zabN,zabJ,zabu,zabv,zabw] at *;simp only[zNr,zB] at i1;exact zS
 ·clear ih;obtain rfl:i=u.length:=by omega
  simp only[zab7,zabL,znh]
  cases out with
  | nil=>
   simp only[zjb,accC,zam,evA,tkZ,unA,zkp,zabq,zabL] at *;exact zS
  | cons r0 rs=>
   simp only[zjb,accC,zam,evA,tkZ,unA,zkp,zabs,zabE,zabN,zabJ,zabu] at *;exact zS
def zi4(s:Section)(x:zt):AV:= .agg [.xsl [zk x],.d (.int .i64 s.dead.cap),.d (.sl (s.dead.l.map zm)),.xsl [.int .i64 0],.xsl [],.xsl []]
def zjc(t:zq)(x:zt)(l:List zG)(evs:List D)(out:List zG)(i:Nat):St:=⟨[(1,.ref 1 0 0),(2,.ref 2 0 0),(5,.ref 5 0 0),(6,.ref 6 0 0),(9,.d (.sl (l.map zaI))),(10,.acc 10 evs),(13,.d (.int .i64 i))],[(1,.row [.d (zf t)]),(2,.row [tkZ]),(5,.row [zi4 t.sec x]),(6,.row [evA t 3 (accC 500137 ((out.map zgY).map zbt))]),(10,.acc evs.length)]++zam 500137 ((out.map zgY).map zbt)⟩
def zni(t:zq)(x:zt)(evs:List D)(out:List zG):zX×St:=(.exit 3,⟨[(1,.ref 1 0 0),(2,.ref 2 0 0),(5,.ref 5 0 0),(6,.ref 6 0 0),(10,.acc 10 evs)],[(1,.row [.d (zf t)]),(2,.row [tkZ]),(5,.row [zi4 t.sec x]),(6,.row [evA t 3 (accC 500137 ((out.map zgY).map zbt))]),(10,.acc evs.length)]++zam 500137 ((out.map zgY).map zbt)⟩)
theorem zP9(t:zq)(x:zt)(l:List zG)(evs:List D)(hl:l.length<=1000):∀p:List zG×Nat,(p.2<=l.length/\p.1.length<=p.2)->z6 G [] zkq (zjc t x l evs p.1 p.2)=some (zni t x evs (p.1++l.drop p.2)):=by
 refine zaL (fun p:List zG×Nat=>l.length - p.2) (fun p:List zG×Nat=>(p.2<=l.length/\p.1.length<=p.2)) (fun p=>zjc t x l evs p.1 p.2) (fun p=>some (zni t x evs (p.1++l.drop p.2))) fun⟨out,i⟩ ⟨hi,hr⟩ L ih=> ?_;simp only at hi hr
 by_cases h0:i<l.length
 ·simp only;rw[zabX h0];have i1:=ih ⟨out++[l[i]],i+1⟩ ⟨by simp only;omega,by simp only[zabv,zab3];omega⟩ (by simp only;omega);clear ih;simp only[zab9,zadb] at i1;have hG:D.agg [D.int .i64 l[i].msg.id,D.int .i64 l[i].msg.gen,D.int .i64 l[i].msg.route,D.int .i64 l[i].deadline]=zbt (zgY l[i]):=rfl;generalize zni t x evs (out++l[i]::l.drop (i+1))=R at *;have sz_t:=zQ t;generalize zf t=D_t at *
  cases out with
  | nil=>
   simp only[zjc,accC,zam,evA,tkZ,zi4,zkq,zabq,zabL,zabJ,zabN,zabF,zabs,zabw] at *;simp only[zNr,zB] at i1;exact zS
  | cons r0 rs=>
   simp only[zjc,accC,zam,evA,tkZ,zi4,zkq,zabq,zabF,zabs,zabE,zabN,zabJ,zabu,zabv,zabw] at *;simp only[zNr,zB] at i1;exact zS
 ·clear ih;obtain rfl:i=l.length:=by omega
  simp only[zab7,zabL,zni]
  cases out with
  | nil=>
   simp only[zjc,accC,zam,evA,tkZ,zi4,zkq,zabq,zabL] at *;exact zS
  | cons r0 rs=>
   simp only[zjc,accC,zam,evA,tkZ,zi4,zkq,zabs,zabE,zabN,zabJ,zabu] at *;exact zS
theorem z40{p:Prop}(h:p:=by simp only[zjb,znh,zjc,zni,accC,zam,evA,tkZ,unA,zi4,zf,zA,zU,zbW,z8,zev,zb9,zaw,zbw,idG,zbt,zgY,zabZ,zabJ,zabL,zabN,zabu,zabw,zabE,zabq,zabs,zacQ,zC,Function.comp_def,zabQ] at *; exact zW zzF):p:=h
theorem z6X{u:Setup}{N:Int}{t:zq}(hs:SI u N t.sec)(hk:t.sec.shards.length=1)(hvs:0<=t.inv.visibility/\t.inv.visibility<=1000):zi G zqd [.d (zf t)] []=some (.d (.tup [zf (zdj t).1,.sl ((zdj t).2.map zaw)]),[]):=by
 have hb:za4 t.sec.shards[0]:=zc6 hk ▸ znz hs;have hun:=hs.un;have hu:=zhn t.sec;have ho:=zsV t.sec.shards[0] t.walk.next hb;have hcl:=hs.sn.2;unfold zdj;simp only;rw[zc6 hk]
 by_cases c0:zen t.sec.shards[0] t.walk.next=false
 ·rw[zabo c0];rw[c0] at ho;have hd:=zcr (t:={ t with loaded:=0 }) hs hun;generalize za5 { t with loaded:=0 } (z8 t.sec)=t2 at *;have sz_t2:=zQ t2;generalize zf t2=D_t2 at *;clear hs hb c0 hun;simp only[zf,zA,zU,z8,zabq,zC] at *;exact zW zzF
 rw[zabn c0];replace c0:zen t.sec.shards[0] t.walk.next=true:=by simpa using c0
 rw[c0] at ho;clear c0;have hsn:=zla { t with loaded:=0 } 3
 by_cases c1:1073741824<t.sec.snap.clock+t.inv.visibility
 ·rw[zabo c1];have hd:=zcr (t:={ t with loaded:=3 }) hs hun;generalize za5 { t with loaded:=3 } (z8 t.sec)=t2 at *;have sz_t2:=zQ t2;generalize zf t2=D_t2 at *;clear hs hb hun;simp only[zf,zA,zU,z8,zev,zb9,zaw,zbw,zabq,zabs,zC] at *;exact zW zzF
 rw[zabn c1];have htk:=zQU (t:={ t with loaded:=0 }) hk hb;have htl:=zQX { t with loaded:=0 };have hx:zaK (zda { t with loaded:=0 }).1:=zLW _ _ _ _ _ _;have hsx:=zla { t with loaded:=0 } 10;have hwa:=zRi t.walk t.sec.shards[0].low t.sec.shards[0].high;generalize zfz t.walk t.sec.shards[0].low t.sec.shards[0].high=wk at *;obtain⟨wk,we⟩:=wk;have hov:=zRk wk;generalize zda { t with loaded:=0 }=r at *;obtain⟨x,ui,l⟩:=r;simp only at *;have hl0:=z6S { t with loaded:=0 } t.sec.shards[0] x ui l zo ⟨[],0⟩ ⟨by simp,by simp⟩;have hoi:=hs.one hk hx;have eg:(l.map zgY)=l.map zgY:=rfl;clear hx eg hb
 cases ui with
 | nil=>
  simp only[zabw,zael,if_false,false_or]
  cases l with
  | nil=>
   simp only[zabw,zael,if_false];clear hl0
   by_cases c5:zgC wk=true
   ·rw[zabo c5];rw[c5] at hov;clear c5;have hd:=zcr (t:={ t with loaded:=2,walk:=wk }) hs hun;generalize za5 { t with loaded:=2,walk:=wk } (z8 t.sec)=t2 at *;have sz_t2:=zQ t2;generalize zf t2=D_t2 at *;clear hs hun hoi;exact z40
   ·rw[zabn c5];replace c5:zgC wk=false:=by simpa using c5
    rw[c5] at hov;clear c5;have hd:=zcr (t:={ t with loaded:=0,walk:=wk }) hs hun;generalize za5 { t with loaded:=0,walk:=wk } (z8 t.sec)=t2 at *;have sz_t2:=zQ t2;generalize zf t2=D_t2 at *;clear hs hun hoi;exact z40
  | cons l0 ls=>
   simp only[zabu,zadH,if_true];have hl1:=zP9 { t with loaded:=1,walk:=wk } x (l0::ls) [] (by simp only[zabu] at *; omega) ⟨[],0⟩ ⟨by simp,by simp⟩;clear hl0;clear hov;have hd:=zcr (t:={ t with loaded:=1,walk:=wk }) hs hoi;generalize za5 { t with loaded:=1,walk:=wk } ({ z8 t.sec with shards:=[x],order:=[0] })=t2 at *;have sz_t2:=zQ t2;generalize zf t2=D_t2 at *;clear hs hun hoi;exact z40
 | cons u0 us=>
  simp only[zabu,zadH,if_true,zadq]
  cases l with
  | nil=>
   simp only[zabw,zael,if_false]
   by_cases c5:zgC wk=true
   ·rw[zabo c5];rw[c5] at hov;clear c5;have hd:=zcr (t:={ t with loaded:=2,walk:=wk }) hs hoi;generalize za5 { t with loaded:=2,walk:=wk } ({ z8 t.sec with shards:=[x],order:=[0] })=t2 at *;have sz_t2:=zQ t2;generalize zf t2=D_t2 at *;clear hs hun hoi;exact z40
   ·rw[zabn c5];replace c5:zgC wk=false:=by simpa using c5
    rw[c5] at hov;clear c5;have hd:=zcr (t:={ t with loaded:=0,walk:=wk }) hs hoi;generalize za5 { t with loaded:=0,walk:=wk } ({ z8 t.sec with shards:=[x],order:=[0] })=t2 at *;have sz_t2:=zQ t2;generalize zf t2=D_t2 at *;clear hs hun hoi;exact z40
  | cons l0 ls=>
   simp only[zabu,zadH,if_true];have hl1:=zP9 { t with loaded:=1,walk:=wk } x (l0::ls) [zaw { zb9 { t with loaded:=0 } 10 with l:=(u0::us).map idG }] (by simp only[zabu] at *; omega) ⟨[],0⟩ ⟨by simp,by simp⟩;clear hov;have hd:=zcr (t:={ t with loaded:=1,walk:=wk }) hs hoi;generalize za5 { t with loaded:=1,walk:=wk } ({ z8 t.sec with shards:=[x],order:=[0] })=t2 at *;have sz_t2:=zQ t2;generalize zf t2=D_t2 at *;clear hs hun hoi;exact z40
theorem zLT(k:Int):zi G zqh [.d (.int .i64 k)] []=some (.d (.int .i64 (ziG k)),[]):=by
 unfold ziG;exact zW zXr
theorem zQA{t:zq}(hk:t.sec.shards.length=1)(hb:za4 t.sec.shards[0]):zi G zqi [.d (zf t)] []=some (.d (.tup [zk (zdo t).1,.int .i64 (zdo t).2]),[]):=by
 unfold zdo;rw[zc6 hk]
 by_cases c1:t.inv.kind=3
 ·rw[zabo c1];have h:=zRG t.sec.shards[0] t.handle t.sec.snap.clock t.sec.snap.epoch hb;generalize zcS t.sec.shards[0] t.handle t.sec.snap.clock t.sec.snap.epoch=x at *;obtain⟨x1,x2⟩:=x;replace c1:=zabA c1;simp only at *;have sz_x1:=zbm x1;generalize zk x1=D_x1 at *;simp only[zf,zat] at *;exact zW zzG
 rw[zabn c1]
 by_cases c2:t.inv.kind=4
 ·rw[zabo c2];have h:=zZU t.sec.shards[0] t.handle t.sec.snap.clock t.sec.snap.epoch t.setup.limit hb;generalize zcK t.sec.shards[0] t.handle t.sec.snap.clock t.sec.snap.epoch t.setup.limit=x at *;obtain⟨x1,x2⟩:=x;replace c1:=zabt c1;replace c2:=zabA c2;simp only at *;have sz_x1:=zbm x1;generalize zk x1=D_x1 at *;simp only[zf,zat] at *;exact zW zzG
 ·rw[zabn c2];have h:=zSS t.sec.shards[0] t.handle t.sec.snap.clock t.sec.snap.epoch t.inv.visibility hb;generalize ze1 t.sec.shards[0] t.handle t.sec.snap.clock t.sec.snap.epoch t.inv.visibility=x at *;obtain⟨x1,x2⟩:=x;replace c1:=zabt c1;replace c2:=zabt c2;simp only at *;have sz_x1:=zbm x1;generalize zk x1=D_x1 at *;simp only[zf,zat] at *;exact zW zzG
theorem zRh{i:Invocation}{u:Setup}(h:zbM i u=0)(hk:i.kind=2\/i.kind=5):0<=i.visibility/\i.visibility<=1000:=by
 unfold zbM inI at h;rw[zabn zo] at h
 rcases hk with hk|hk
 ·rw[zabo (.inl hk)] at h
  split at h
  ·cases h
  ·rename_i c;have c2:=fun q=>c (.inr (.inr ⟨hk,q⟩));simp only[decide_eq_false_iff_not] at c2;exact zabG.1 c2
 ·rw[zabn zo,zabo zo] at h
  split at h
  ·cases h
  ·split at h
   ·cases h
   ·rename_i _ c;have c2:=fun q=>c ⟨hk,q⟩;simp only[decide_eq_false_iff_not] at c2;exact zabG.1 c2
theorem z82{u:Setup}{N:Int}{t:zq}(hs:SI u N t.sec)(hk:t.sec.shards.length=1)(hiv:zbM t.inv u=0):zi G zqg [.d (zf t)] []=some (.d (.tup [zf (zdn t).1,.sl ((zdn t).2.map zaw)]),[]):=by
 have hb:za4 t.sec.shards[0]:=zc6 hk ▸ znz hs;have hu:=zhn t.sec;have ho:=zsV t.sec.shards[0] t.handle.route hb;have hst:=zQA hk hb;have hl12:(zdo t).2=0->zaK (zdo t).1:=fun q=>zLV q;have hki:=zLT t.inv.kind;have hsn:=zla t (ziG t.inv.kind);have hvs:=zRh (i:=t.inv) hiv;have hcl:=hs.sn.2;unfold zdn;simp only;rw[zc6 hk]
 by_cases c0:zen t.sec.shards[0] t.handle.route=false
 ·rw[zabo c0];rw[c0] at ho;have hd:=zcr (t:=t) hs hs.un;generalize za5 t (z8 t.sec)=t2 at *;have sz_t2:=zQ t2;generalize zf t2=D_t2 at *;clear hs hl12 hb c0 hst hki hsn hiv hvs hcl;simp only[zf,zA,zU,z8,zabq,zC] at *;exact zW zrT
 rw[zabn c0];replace c0:zen t.sec.shards[0] t.handle.route=true:=by simpa using c0
 rw[c0] at ho;generalize ziG t.inv.kind=ek at *;generalize zdo t=x at *;obtain⟨x1,x2⟩:=x;simp only at *
 by_cases c1:x2=0
 ·subst c1;have hl:=hl12 rfl;simp only[zacB,if_true];have hd:=zcr (t:=t) hs (hs.one hk hl);generalize za5 t { z8 t.sec with shards:=[x1],order:=[0] }=t2 at *;have sz_t2:=zQ t2;generalize zf t2=D_t2 at *
  by_cases c2:t.inv.kind=5
  ·rw[zabo c2];have hv:=hvs (.inr c2);replace c2:=zabA c2;clear hs hl12 hb c0 hiv hvs hl;simp only[zf,zA,zU,z8,zb9,zev,zaw,zbw,zbt,zabq,zabs,zC] at *;exact zW zrT
  ·rw[zabn c2];replace c2:=zabt c2;clear hs hl12 hb c0 hiv hvs hl;simp only[zf,zA,zU,z8,zb9,zev,zaw,zbw,zbt,zabq,zabs,zC] at *;exact zW zrT
 ·rw[zabn c1,zabn (fun q=>c1 q.1)];have hd:=zcr (t:=t) hs hs.un;generalize za5 t (z8 t.sec)=t2 at *;have sz_t2:=zQ t2;generalize zf t2=D_t2 at *;clear hs hl12 hb c0 hiv hvs;simp only[zf,zA,zU,z8,zb9,zev,zaw,zbw,zbt,zabq,zabs,zC] at *;exact zW zrT
theorem z85(a:zy)(t:zq)(n:Int)(h:zan t 3 5≠0):zi G zhq [.d (zx a),.d (zf t),.d (.int .i64 n)] []=some (.d (.tup [zx zM,zf zE,.sl [],.int .i64 (zan t 3 5)]),[]):=by
 have hg:=zeP t 3 5;have hf:=zcY (zan t 3 5);generalize zan t 3 5=ge at *;have sz_zTask:=zQ zE;generalize zf zE=D_zTask at *;have sz_t:=zQ t;generalize zf t=D_t at *;have sz_zArena:=zby zM;generalize zx zM=D_zArena at *;exact zW zfZ
theorem z87{K:Tok}(hK:zgF K){u:Setup}{a:zy}{t:zq}{n N:Int}(hu:za3 u=true)(ha:AI u a)(ht:TI u N t)(hN:N<=999999)(hb:∀b∈t.inv.tokens,b.length<=4294967296):zi G zhq [.d (zx a),.d (zf t),.d (.int .i64 n)] []=some (.d (.tup [zx (zdS K a t n).1,zf (zdS K a t n).2.1,.sl ((zdS K a t n).2.2.1.map zaw),.int .i64 (zdS K a t n).2.2.2]),[]):=by
 unfold zdS
 by_cases c0:zan t 3 5=0
 rotate_left
 ·rw[zabo c0];exact z85 a t n c0
 rw[zabn (fun q=>q c0)];have hg:=zeP t 3 5;rw[c0] at hg;obtain⟨g1,g2⟩:=zeQ c0;have hen:=zij ht g1;have he1:=ht.e1 g1;have he0:=ht.e0;unfold zcX at he1;rw[zabn zo,zabo g2] at he1;clear g1
 by_cases c1:t.pc=0
 ·rw[zabo c1];have hi:t.entry.toNat<t.inv.tokens.length:=by omega
  rw[zh hi];have hp:=hK.pa (t.inv.tokens[t.entry.toNat]) (hb _ (zabC hi));have hz1:(zaA (t.inv.tokens[t.entry.toNat])).size=1:=rfl;have hz2:(zaA (t.inv.tokens[t.entry.toNat])).isT=false:=rfl;have hz3:(zaA (t.inv.tokens[t.entry.toNat])).cells=[zaA (t.inv.tokens[t.entry.toNat])]:=rfl;have hki:=zLT t.inv.kind;have hsu:t.setup.slots=u.slots:=by rw[ht.su]
  have hub:=(zny hu).1;generalize ziG t.inv.kind=ek at *;simp only;generalize K.par t.inv.tokens[t.entry.toNat]=h at *;obtain⟨h,e⟩:=h;simp only at *
  by_cases c2:e=0
  ·subst c2;simp only[ne_eq,zabD,if_false]
   by_cases c3:h.hint<t.setup.slots
   ·rw[zabo c3];have hse:=znw { t with handle:=h,pc:=1 } [h.hint] 2 (by simp);generalize zb8 { t with handle:=h,pc:=1 } [h.hint] 2=t2 at *;have sz_t2:=zQ t2;generalize zf t2=D_t2 at *;replace c1:=zabA c1;clear ht ha hu hb hsu;simp only[zf,zat,zC,zabs,zabq] at *;exact zW zfZ
   ·rw[zabn c3];replace c1:=zabA c1;clear ht ha hu hb hsu;simp only[zf,zat] at *;exact zW zfZ
  ·rw[zabo c2];have hev:=zrn t ek n;have hnx:=zeU t (zaO 5) n hen.1 hen.2;generalize zba t (zaO 5) n=t2 at *;have sz_t2:=zQ t2;generalize zf t2=D_t2 at *;replace c1:=zabA c1;clear ht ha hu hb hsu;simp only[zf,zat,zaw,evT,zbw,zaO,z7,zac,zabs,zabq] at *;exact zW zfZ
 rw[zabn c1]
 by_cases c2:t.pc=1
 ·rw[zabo c2];have hlk:=zBb a t t.handle.route 2 (by have:=zfN ha.dv;omega);generalize zg4 a t t.handle.route 2=t2 at *;have sz_t2:=zQ t2;generalize zf t2=D_t2 at *;replace c2:=zabA c2;replace c1:=zabt c1;clear ht ha hu;simp only[zf] at *;exact zW zfZ
 rw[zabn c2];have k4:=ht.se ⟨c1,by omega⟩;have hgo:=zmr a t n (znv hu ha k4.si zo);have hgk:=zms (n:=n) ha k4.si k4.ed;simp only;generalize goT a t n=g at *;obtain⟨a2,t2,b1,b2,e⟩:=g;simp only at *
 by_cases c4:e=0
 rotate_left
 ·rw[zabo c4];have hf:=zcY e;unfold zbv;clear hgk ht ha hu k4;replace c2:=zabt c2;replace c1:=zabt c1;have sz_zTask:=zQ zE;generalize zf zE=D_zTask at *;have sz_zArena:=zby zM;generalize zx zM=D_zArena at *;have sz_t2:=zQ t2;generalize zf t2=D_t2 at *;have sz_a2:=zby a2;generalize zx a2=D_a2 at *;simp only[zf] at *;exact zW zfZ
 subst c4;simp only[ne_eq,zabD,if_false];obtain⟨h1,s,h2,hSI,hKe,ho,h4,h9⟩:=hgk rfl;have h3:zbd u (N+1) t.inv s:=k4.keep hSI hKe (by rw[ho];exact k4.ed);have hen2:t2.entry=t.entry/\t2.results=t.results/\t2.inv=t.inv/\t2.sec=s:=by rw[h2];exact⟨rfl,rfl,rfl,rfl⟩
 obtain⟨q1,q2,q3,q4⟩:=hen2
 cases b1
 rotate_left
 ·simp only[if_true];have hp:s.phase=4\/s.phase=9:= .inl (h4.1 rfl);have hk:t2.sec.shards.length=1:=by rw[q4];exact (zgx h3 ht.iv hp).1 zo
  have hd:=z82 (t:=t2) (by rw[q4];exact h3.si) hk (by rw[q3];exact ht.iv);generalize zdn t2=r at *;obtain⟨t3,l⟩:=r;clear ht ha hu k4 h1 h2 h3 h4 h9 ho hSI hKe q1 q2 q3 q4 hp hk hb;replace c2:=zabt c2;replace c1:=zabt c1;simp only at *;have sz_t2:=zQ t2;generalize zf t2=D_t2 at *;have sz_t3:=zQ t3;generalize zf t3=D_t3 at *;simp only[zf] at *;exact zW zfZ
 ·simp only[zabz,if_false]
  cases b2
  ·simp only[if_true];clear ht ha hu k4 h1 h2 h3 h4 h9 ho hSI hKe q1 q2 q3 q4 hb;replace c2:=zabt c2;replace c1:=zabt c1;have sz_t2:=zQ t2;generalize zf t2=D_t2 at *;simp only[zf] at *;exact zW zfZ
  ·simp only[zacf,if_false];have hp:s.phase=4\/s.phase=9:= .inr (h9.1 rfl);have hk:t2.sec.shards.length=1:=by rw[q4];exact (zgx h3 ht.iv hp).1 zo
   have hbg:za4 t2.sec.shards[0]:=zc6 hk ▸ znz (u:=u) (N:=N+1) (by rw[q4];exact h3.si);have how:=zsV t2.sec.shards[0] t2.handle.route hbg;have hse:=zQA hk hbg;rw[zc6 hk];have hnx:=zeU t2 { zac with err:=(zdo t2).2,id:=if (zdo t2).2=0 then t2.handle.id else 0 } n (by rw[q1];exact hen.1) (by rw[q2];exact hen.2);clear ht ha hu k4 h1 h2 h3 h4 h9 ho hSI hKe q1 q2 q3 q4 hp hb hbg;replace c2:=zabt c2;replace c1:=zabt c1
   by_cases c5:zen t2.sec.shards[0] t2.handle.route=false
   ·rw[zabo c5];rw[c5] at how;clear hnx hse c5;simp only[zf] at *;exact zW zfZ
   ·rw[zabn c5];replace c5:zen t2.sec.shards[0] t2.handle.route=true:=by simpa using c5
    rw[c5] at how;clear c5;generalize zdo t2=x at *;obtain⟨x1,x2⟩:=x;simp only at *;have sz_x1:=zbm x1;generalize zk x1=D_x1 at *
    by_cases c6:x2=0
    ·subst c6;simp only[if_true] at *;generalize zba t2 { zac with err:=0,id:=t2.handle.id } n=t3 at *;have sz_t3:=zQ t3;generalize zf t3=D_t3 at *;simp only[zf,z7,zac,zabq] at *;exact zW zfZ
    ·rw[zabn c6] at hnx ⊢;generalize zba t2 { zac with err:=x2,id:=0 } n=t3 at *;have sz_t3:=zQ t3;generalize zf t3=D_t3 at *;simp only[zf,z7,zac,zabq] at *;exact zW zfZ
theorem z60(a:zy)(t:zq)(n:Int)(h:zan t 2 2≠0):zi G zjy [.d (zx a),.d (zf t),.d (.int .i64 n)] []=some (.d (.tup [zx zM,zf zE,.sl [],.int .i64 (zan t 2 2)]),[]):=by
 have hg:=zeP t 2 2;have hf:=zcY (zan t 2 2);generalize zan t 2 2=ge at *;have sz_zTask:=zQ zE;generalize zf zE=D_zTask at *;have sz_t:=zQ t;generalize zf t=D_t at *;have sz_zArena:=zby zM;generalize zx zM=D_zArena at *;exact zW zgk
theorem z62{K:Tok}(hK:zgF K){u:Setup}{a:zy}{t:zq}{n N:Int}(hu:za3 u=true)(ha:AI u a)(ht:TI u N t)(hN:N<=999999):zi G zjy [.d (zx a),.d (zf t),.d (.int .i64 n)] []=some (.d (.tup [zx (zdN K a t n).1,zf (zdN K a t n).2.1,.sl ((zdN K a t n).2.2.1.map zaw),.int .i64 (zdN K a t n).2.2.2]),[]):=by
 unfold zdN
 by_cases c0:zan t 2 2=0
 rotate_left
 ·rw[zabo c0];exact z60 a t n c0
 rw[zabn (fun q=>q c0)];have hg:=zeP t 2 2;rw[c0] at hg;obtain⟨g1,g2⟩:=zeQ c0;have hen:=zij ht g1;clear g1
 by_cases c1:t.pc=0
 ·rw[zabo c1];have hdl:=zfN ha.dv;have hld:=zsL a;have hho:=zLF a.dir t.inv.home zo;have hspn:=z6K a.dir (zcZ a.dir t.inv.home) zo;generalize zcZ a.dir t.inv.home=k at *;generalize zld a.dir k=sp at *;obtain⟨sp,sb⟩:=sp;have hwb:=zRj sp.low;simp only at *;generalize zgB sp.low=wb at *;obtain⟨wb,we⟩:=wb;simp only at *;have hse:=znw { t with dir:=a.dir,slot:=k,walk:=wb } [k] 1 (by simp);generalize zb8 { t with dir:=a.dir,slot:=k,walk:=wb } [k] 1=t2 at *;have sz_t2:=zQ t2;generalize zf t2=D_t2 at *;replace c1:=zabA c1;clear ht ha hu;simp only[zf,zaT,zca,zbW,zC,zabs,zabq] at *;exact zW zgk
 rw[zabn c1]
 by_cases c2:t.pc=2
 ·rw[zabo c2];have hlk:=zBb a t t.walk.next 1 (by have:=zfN ha.dv;omega);generalize zg4 a t t.walk.next 1=t2 at *;have sz_t2:=zQ t2;generalize zf t2=D_t2 at *;replace c2:=zabA c2;replace c1:=zabt c1;clear ht ha hu;simp only[zf] at *;exact zW zgk
 rw[zabn c2];have k4:=ht.se ⟨c1,by omega⟩;have hgo:=zmr a t n (znv hu ha k4.si zo);have hgk:=zms (n:=n) ha k4.si k4.ed;simp only;generalize goT a t n=g at *;obtain⟨a2,t2,b1,b2,e⟩:=g;simp only at *;replace c1:=zabt c1;replace c2:=zabt c2
 by_cases c4:e=0
 rotate_left
 ·rw[zabo c4];have hf:=zcY e;unfold zbv;clear hgk ht ha hu k4;have sz_zTask:=zQ zE;generalize zf zE=D_zTask at *;have sz_zArena:=zby zM;generalize zx zM=D_zArena at *;have sz_t2:=zQ t2;generalize zf t2=D_t2 at *;have sz_a2:=zby a2;generalize zx a2=D_a2 at *;simp only[zf] at *;exact zW zgk
 subst c4;simp only[ne_eq,zabD,if_false];obtain⟨h1,s,h2,hSI,hKe,ho,h4,h9⟩:=hgk rfl;clear hgk;have h3:zbd u (N+1) t.inv s:=k4.keep hSI hKe (by rw[ho];exact k4.ed);have hen2:t2.entry=t.entry/\t2.results=t.results/\t2.inv=t.inv/\t2.sec=s:=by rw[h2];exact⟨rfl,rfl,rfl,rfl⟩
 obtain⟨q1,q2,q3,q4⟩:=hen2
 cases b1
 rotate_left
 ·simp only[if_true];have hk:t2.sec.shards.length=1:=by rw[q4];exact (zgx h3 ht.iv (.inl (h4.1 rfl))).1 zo
  have hd:=z6X (t:=t2) (by rw[q4];exact h3.si) hk (by rw[q3];exact zRh ht.iv (.inl zo));generalize zdj t2=r at *;obtain⟨t3,l⟩:=r;clear ht ha hu k4 h1 h2 h3 h4 h9 ho hSI hKe q1 q2 q3 q4 hk;simp only at *;have sz_t2:=zQ t2;generalize zf t2=D_t2 at *;have sz_t3:=zQ t3;generalize zf t3=D_t3 at *;simp only[zf] at *;exact zW zgk
 ·simp only[zabz,if_false]
  cases b2
  ·simp only[if_true];clear ht ha hu k4 h1 h2 h3 h4 h9 ho hSI hKe q1 q2 q3 q4;have sz_t2:=zQ t2;generalize zf t2=D_t2 at *;simp only[zf] at *;exact zW zgk
  ·simp only[zacf,if_false];have hk:t2.sec.shards.length=1:=by rw[q4];exact (zgx h3 ht.iv (.inr (h9.1 rfl))).1 zo
   have hbg:za4 t2.sec.shards[0]:=zc6 hk ▸ znz (u:=u) (N:=N+1) (by rw[q4];exact h3.si);have hrs:=z7G hK hk hbg;have hn1:=zeU t2 (zaO 6) n (by rw[q1];exact hen.1) (by rw[q2];exact hen.2);have hn2:=zeU t2 zac n (by rw[q1];exact hen.1) (by rw[q2];exact hen.2);have hn3:=zeU t2 (zib K t2) n (by rw[q1];exact hen.1) (by rw[q2];exact hen.2);generalize zib K t2=rr at *;clear ht ha hu k4 h1 h2 h3 h4 h9 ho hSI hKe q1 q2 q3 q4 hbg hk
   by_cases d3:t2.loaded=3
   ·rw[zabo d3];clear hn2 hn3 hrs;generalize zba t2 (zaO 6) n=t3 at *;have sz_t3:=zQ t3;generalize zf t3=D_t3 at *;replace d3:=zabA d3;simp only[zf,z7,zaO,zac,zabq] at *;exact zW zgk
   rw[zabn d3];replace d3:=zabt d3
   by_cases d2:t2.loaded=2
   ·rw[zabo d2];clear hn1 hn3 hrs;generalize zba t2 zac n=t3 at *;have sz_t3:=zQ t3;generalize zf t3=D_t3 at *;replace d2:=zabA d2;simp only[zf,z7,zac,zabq] at *;exact zW zgk
   rw[zabn d2];replace d2:=zabt d2
   by_cases d1:t2.loaded=1
   ·rw[zabo d1];clear hn1 hn2;generalize zba t2 rr n=t3 at *;have sz_t3:=zQ t3;generalize zf t3=D_t3 at *;have sz_rr:=zl9 rr;generalize z7 rr=D_rr at *;replace d1:=zabA d1;simp only[zf] at *;exact zW zgk
   ·rw[zabn d1];clear hn1 hn2 hn3 hrs;replace d1:=zabt d1;simp only[zf] at *;exact zW zgk
theorem z65{u:Setup}{N:Int}{t:zq}(hs:SI u N t.sec)(hk:t.sec.shards.length=1)(hn:t.sec.lock.cells.length=2):zi G zqj [.d (zf t)] []=some (.d (.tup [zf (zdk t).1,.sl ((zdk t).2.map zaw)]),[]):=by
 have hv:=(hs.sv _ (zabC (show 0<t.sec.shards.length by omega))).1;have hb:za4 t.sec.shards[0]:=zfH (zbT hv);have hu:=zhn t.sec;have hrm:=zQs hk hv;have hsn:=zla t 9;have hdv:=hs.dv;have hl12:=zbT hv;have hun:=hs.un;unfold zdk;simp only;rw[zc6 hk]
 by_cases c0:t.sec.shards[0].live=false
 ·rw[zabo c0];have hd:=zcr (t:=t) hs hun;generalize za5 t (z8 t.sec)=t2 at *;have sz_t2:=zQ t2;generalize zf t2=D_t2 at *;clear hs hb hrm hsn hv hl12 hun hn;simp only[zf,zA,zU,z8,zabq,zC] at *;exact zW zrU
 rw[zabn c0];replace c0:t.sec.shards[0].live=true:=by simpa using c0
 by_cases c1:zf9 t=0
 ·rw[zabo c1];rw[c1] at hrm;have hd:=zcr (t:=t) hs hun;generalize za5 t (z8 t.sec)=t2 at *;have sz_t2:=zQ t2;generalize zf t2=D_t2 at *;clear hs hb hv hl12 hun hn c1;simp only[zf,zA,zU,z8,zev,zb9,zaw,zbw,zabq,zabs,zC] at *;exact zW zrU
 rw[zabn c1];have htk:=z94 t.sec.dead (zf9 t) t.sec.snap.epoch zo;have htl:=zQW t.sec.dead (zf9 t) t.sec.snap.epoch;generalize zf9 t=rm at *;generalize zhm t.sec.dead rm t.sec.snap.epoch=d at *;obtain⟨d1,l,d3⟩:=d;simp only at *
 by_cases c2:l.length=0
 ·rw[zabo c2];have e0:l=[]:=zacc.1 c2;subst e0;have hd:=zcr (t:=t) hs hun;generalize za5 t (z8 t.sec)=t2 at *;have sz_t2:=zQ t2;generalize zf t2=D_t2 at *;clear hs hb hv hl12 hun hn htl;simp only[zf,zA,zU,zT,z8,zev,zb9,zaw,zbw,zabq,zabs,zC] at *;exact zW zrU
 ·rw[zabn c2];have hlp:=z6U t t.sec.shards[0] d1 l zo ⟨[],0⟩ ⟨by simp,by simp⟩;have hab:=zDq t.sec.shards[0] (l.map zbB) hb (by rw[zabE];omega);have hla:=zAy hl12 (l.map zbB);have hoi:OI t.sec { z8 t.sec with carry:=l.map zbB,shards:=[(zgc t.sec.shards[0] (l.map zbB)).1],dead:=d1,order:=[1,0] }:=by
   have q:=hs.dead hk hn hla (d:=d1) zo (ord:=[1,0]) (.inr rfl) (ca:=l.map zbB) (by rw[zabE];omega);exact q
  have hd:=zcr (t:=t) hs hoi;clear hoi hla;generalize zgc t.sec.shards[0] (l.map zbB)=y at *;obtain⟨y1,y2⟩:=y;simp only at *;have eg:(l.map fun m=>(⟨m.id,m.gen,(zb7 (zbB m) t.sec.shards[0].low t.sec.shards[0].high).route,0⟩:Grant))=l.map (rdG t.sec.shards[0]):=rfl;rw[eg];clear eg;generalize za5 t { z8 t.sec with carry:=l.map zbB,shards:=[y1],dead:=d1,order:=[1,0] }=t2 at *;have sz_t2:=zQ t2;generalize zf t2=D_t2 at *;clear hs hb hv hl12 hun hn
  cases l with
  | nil=>exact absurd rfl c2
  | cons l0 ls=>
   clear c2;simp only[zjd,znj,accC,zam,evA,tkZ,zf,zA,zU,zT,z8,zev,zb9,zaw,zbw,zabZ,zabJ,zabL,zabN,zabu,zabE,zabq,zabs,zC,zabQ] at *;exact zW zrU
theorem z68(a:zy)(t:zq)(n:Int)(h:zan t 8 8≠0):zi G zjA [.d (zx a),.d (zf t),.d (.int .i64 n)] []=some (.d (.tup [zx zM,zf zE,.sl [],.int .i64 (zan t 8 8)]),[]):=by
 have hg:=zeP t 8 8;have hf:=zcY (zan t 8 8);generalize zan t 8 8=ge at *;have sz_zTask:=zQ zE;generalize zf zE=D_zTask at *;have sz_t:=zQ t;generalize zf t=D_t at *;have sz_zArena:=zby zM;generalize zx zM=D_zArena at *;exact zW zhP
theorem z7a{u:Setup}{a:zy}{t:zq}{n N:Int}(hu:za3 u=true)(ha:AI u a)(ht:TI u N t)(hN:N<=999999):zi G zjA [.d (zx a),.d (zf t),.d (.int .i64 n)] []=some (.d (.tup [zx (zdO a t n).1,zf (zdO a t n).2.1,.sl ((zdO a t n).2.2.1.map zaw),.int .i64 (zdO a t n).2.2.2]),[]):=by
 unfold zdO
 by_cases c0:zan t 8 8=0
 rotate_left
 ·rw[zabo c0];exact z68 a t n c0
 rw[zabn (fun q=>q c0)];have hg:=zeP t 8 8;rw[c0] at hg;obtain⟨g1,g2⟩:=zeQ c0;have hen:=zij ht g1;clear g1
 by_cases c1:t.pc=0
 ·rw[zabo c1];have hdl:=zfN ha.dv;have hld:=zsL a;have hho:=zLF a.dir t.inv.home zo;generalize zcZ a.dir t.inv.home=k at *;have hse:=znw { t with dir:=a.dir,slot:=k } [k,t.setup.slots] 1 (by simp);generalize zb8 { t with dir:=a.dir,slot:=k } [k,t.setup.slots] 1=t2 at *;have sz_t2:=zQ t2;generalize zf t2=D_t2 at *;replace c1:=zabA c1;clear ht ha hu;simp only[zf,zaT,zC,zabs,zabq] at *;exact zW zhP
 rw[zabn c1];have k4:=ht.se ⟨c1,by omega⟩;have hgo:=zmr a t n (znv hu ha k4.si zo);have hgk:=zms (n:=n) ha k4.si k4.ed;simp only;generalize goT a t n=g at *;obtain⟨a2,t2,b1,b2,e⟩:=g;simp only at *;replace c1:=zabt c1
 by_cases c4:e=0
 rotate_left
 ·rw[zabo c4];have hf:=zcY e;unfold zbv;clear hgk ht ha hu k4;have sz_zTask:=zQ zE;generalize zf zE=D_zTask at *;have sz_zArena:=zby zM;generalize zx zM=D_zArena at *;have sz_t2:=zQ t2;generalize zf t2=D_t2 at *;have sz_a2:=zby a2;generalize zx a2=D_a2 at *;simp only[zf] at *;exact zW zhP
 subst c4;simp only[ne_eq,zabD,if_false];obtain⟨h1,s,h2,hSI,hKe,ho,h4,h9⟩:=hgk rfl;have h3:zbd u (N+1) t.inv s:=k4.keep hSI hKe (by rw[ho];exact k4.ed);have hen2:t2.entry=t.entry/\t2.results=t.results/\t2.inv=t.inv/\t2.sec=s:=by rw[h2];exact⟨rfl,rfl,rfl,rfl⟩
 obtain⟨q1,q2,q3,q4⟩:=hen2
 cases b1
 rotate_left
 ·simp only[if_true];have hk:t2.sec.shards.length=1:=by rw[q4];exact (zgx h3 ht.iv (.inl (h4.1 rfl))).2.1 zo
  have hn:t2.sec.lock.cells.length=2:=by
   rw[q4];obtain⟨c,_,_,e⟩:=h3.c8 zo;rw[e];rfl
  have hd:=z65 (t:=t2) (by rw[q4];exact h3.si) hk hn;generalize zdk t2=r at *;obtain⟨t3,l⟩:=r;clear ht ha hu k4 h1 h2 h3 h4 h9 ho hSI hKe q1 q2 q3 q4 hk hn;simp only at *;have sz_t2:=zQ t2;generalize zf t2=D_t2 at *;have sz_t3:=zQ t3;generalize zf t3=D_t3 at *;simp only[zf] at *;exact zW zhP
 ·simp only[zabz,if_false]
  cases b2
  ·simp only[if_true];clear ht ha hu k4 h1 h2 h3 h4 h9 ho hSI hKe q1 q2 q3 q4;have sz_t2:=zQ t2;generalize zf t2=D_t2 at *;simp only[zf] at *;exact zW zhP
  ·simp only[zacf,if_false];have hk:t2.sec.shards.length=1:=by rw[q4];exact (zgx h3 ht.iv (.inr (h9.1 rfl))).2.1 zo
   have hv:zY t2.sec.shards[0]=0:=by
    have hs:SI u (N+1) t2.sec:=by rw[q4];exact h3.si
    exact (hs.sv _ (zabC (show 0<t2.sec.shards.length by omega))).1
   have hrm:=zQs hk hv;have hoc:t2.sec.out.carry.length<=1000:=by rw[q4];exact h3.si.oc.1
   rw[zc6 hk]
   by_cases c5:t2.sec.shards[0].live=false
   ·rw[zabo c5];clear ht ha hu k4 h1 h2 h3 h4 h9 ho hSI hKe q1 q2 q3 q4 hv hrm;simp only[zf] at *;exact zW zhP
   ·rw[zabn c5];replace c5:t2.sec.shards[0].live=true:=by simpa using c5
    generalize zf9 t2=rm at *;have hnx:=zeU t2 { zac with moved:=t2.sec.out.carry.length,err:=if rm=0 then 3 else 0 } n (by rw[q1];exact hen.1) (by rw[q2];exact hen.2);clear ht ha hu k4 h1 h2 h3 h4 h9 ho hSI hKe q1 q2 q3 q4 hv
    by_cases c6:rm=0
    ·subst c6;simp only[if_true] at *;generalize zba t2 { zac with moved:=t2.sec.out.carry.length,err:=3 } n=t3 at *;have sz_t3:=zQ t3;generalize zf t3=D_t3 at *;simp only[zf,z7,zac,zabq] at *;exact zW zhP
    ·rw[zabn c6] at hnx ⊢;generalize zba t2 { zac with moved:=t2.sec.out.carry.length,err:=0 } n=t3 at *;have sz_t3:=zQ t3;generalize zf t3=D_t3 at *;simp only[zf,z7,zac,zabq] at *;exact zW zhP
theorem zTk(a:zy)(t:zq)(n:Int)(h:zan t 7 7≠0):zi G zjz [.d (zx a),.d (zf t),.d (.int .i64 n)] []=some (.d (.tup [zx zM,zf zE,.sl [],.int .i64 (zan t 7 7)]),[]):=by
 have hg:=zeP t 7 7;have hf:=zcY (zan t 7 7);generalize zan t 7 7=ge at *;have sz_zTask:=zQ zE;generalize zf zE=D_zTask at *;have sz_t:=zQ t;generalize zf t=D_t at *;have sz_zArena:=zby zM;generalize zx zM=D_zArena at *;exact zW zdG
theorem z6y(l:List Stripe):(!l.any zh3)=zs0 l:=by
 unfold zs0
 induction l with
 | nil=>rfl
 | cons x l ih=>rw[zac4,zacn,Bool.not_or,ih]
theorem zTm{u:Setup}{a:zy}{t:zq}{n N:Int}(hu:za3 u=true)(ha:AI u a)(ht:TI u N t):zi G zjz [.d (zx a),.d (zf t),.d (.int .i64 n)] []=some (.d (.tup [zx (zdy a t n).1,zf (zdy a t n).2.1,.sl ((zdy a t n).2.2.1.map zaw),.int .i64 (zdy a t n).2.2.2]),[]):=by
 unfold zdy
 by_cases c0:zan t 7 7=0
 rotate_left
 ·rw[zabo c0];exact zTk a t n c0
 rw[zabn (fun q=>q c0)];have hg:=zeP t 7 7;rw[c0] at hg;obtain⟨g1,g2⟩:=zeQ c0;have hen:=zij ht g1;clear g1;have hb:=zny hu;have hsl:=ha.sl;have hst:=ha.st;have hfs:=ht.fs;have hsu:t.setup.slots=u.slots:=by rw[ht.su]
 have hw:=zku a 1;simp only[zgn,if_true] at hw
 by_cases c1:t.pc=0
 ·rw[zabo c1];replace c1:=zabA c1;clear ht ha hu hsu;simp only[zf,zabq] at *;exact zW zdG
 rw[zabn c1]
 by_cases c2:t.pc=1
 ·rw[zabo c2];have hl:=zA4 a t.first.length zo hst;simp only;generalize zed a t.first.length=r at *;obtain⟨x,e⟩:=r;simp only at *
  by_cases c3:e=0
  ·subst c3;simp only[ne_eq,zabD,if_false];have hq:=z6x (t.first++[x]) (by simp only[zabv,zab3];omega);rw[z6y] at hq;generalize zs0 (t.first++[x])=q at *;replace c1:=zabt c1;replace c2:=zabA c2
   by_cases c4:((t.first++[x]).length:Int)=t.setup.slots
   ·simp only[c4,if_true];have c5:((t.first.length:Int)+1=t.setup.slots)=True:=zabA (by simpa using c4);clear ht ha hu hsu c4
    cases q
    ·simp only[zabz,if_false,zf,zabF,zabs,zabq] at *;exact zW zdG
    ·simp only[if_true,zf,zabF,zabs,zabq] at *;exact zW zdG
   ·simp only[c4,if_false];have c5:((t.first.length:Int)+1=t.setup.slots)=False:=zabt (by simpa using c4);clear ht ha hu hsu c4 hq;simp only[zf,zabF,zabs,zabq] at *;exact zW zdG
  ·rw[zabo c3];have hf:=zcY e;clear ht ha hu hsu;replace c1:=zabt c1;replace c2:=zabA c2;have sz_zTask:=zQ zE;generalize zf zE=D_zTask at *;have sz_zArena:=zby zM;generalize zx zM=D_zArena at *;simp only[zf] at *;exact zW zdG
 rw[zabn c2]
 by_cases c3:t.pc=2
 ·rw[zabo c3];have hl:=zA4 a t.second.length zo hst;simp only;generalize zed a t.second.length=r at *;obtain⟨x,e⟩:=r;simp only at *
  by_cases c4:e=0
  ·subst c4;simp only[ne_eq,zabD,if_false];have hq:=z8w t.first (t.second++[x]) zo (by simp only[zabv,zab3];omega);replace c1:=zabt c1;replace c2:=zabt c2;replace c3:=zabA c3;have d1:(t.second.length=0)=(((t.second.length:Int)=0)):=propext zo;simp only[d1];clear d1
   by_cases c5:((t.second++[x]).length:Int)=t.setup.slots
   ·simp only[c5,if_true];have c6:((t.second.length:Int)+1=t.setup.slots)=True:=zabA (by simpa using c5);clear ht ha hu hsu c5
    by_cases c7:t.first=t.second++[x]
    ·rw[zabM c7] at hq;rw[zabo c7]
     by_cases c8:(t.second.length:Int)=0
     ·simp only[c8,if_true];replace c8:=zabA c8;clear c7;simp only[zf,zabF,zabs,zabq] at *;exact zW zdG
     ·simp only[c8,if_false];replace c8:=zabt c8;clear c7;simp only[zf,zabF,zabs,zabq] at *;exact zW zdG
    ·rw[zabP c7] at hq;simp only[c7,if_false]
     by_cases c8:(t.second.length:Int)=0
     ·simp only[c8,if_true];replace c8:=zabA c8;clear c7;simp only[zf,zabF,zabs,zabq] at *;exact zW zdG
     ·simp only[c8,if_false];replace c8:=zabt c8;clear c7;simp only[zf,zabF,zabs,zabq] at *;exact zW zdG
   ·simp only[c5,if_false];have c6:((t.second.length:Int)+1=t.setup.slots)=False:=zabt (by simpa using c5);clear ht ha hu hsu c5 hq
    by_cases c8:(t.second.length:Int)=0
    ·simp only[c8,if_true];replace c8:=zabA c8;simp only[zf,zabF,zabs,zabq] at *;exact zW zdG
    ·simp only[c8,if_false];replace c8:=zabt c8;simp only[zf,zabF,zabs,zabq] at *;exact zW zdG
  ·rw[zabo c4];have hf:=zcY e;clear ht ha hu hsu;replace c1:=zabt c1;replace c2:=zabt c2;replace c3:=zabA c3;have sz_zTask:=zQ zE;generalize zf zE=D_zTask at *;have sz_zArena:=zby zM;generalize zx zM=D_zArena at *;simp only[zf] at *;exact zW zdG
 rw[zabn c3]
 by_cases c4:a.epoch=t.loaded
 ·rw[zabn (fun q=>q c4)];have hs:=z9V t.first a.epoch zo;have hev:=zrn t 8 t.id;simp only;generalize zdV t.first a.epoch t.first.length=p at *;obtain⟨p1,p2⟩:=p;simp only at *;have hnx:=zeU t { zac with ready:=p1,leased:=p2 } n hen.1 hen.2;generalize zba t { zac with ready:=p1,leased:=p2 } n=t2 at *;have sz_t2:=zQ t2;generalize zf t2=D_t2 at *;clear ht ha hu hsu;replace c1:=zabt c1;replace c2:=zabt c2;replace c3:=zabt c3;replace c4:=zabA c4;simp only[zf,zaw,evT,zbw,z7,zac,zabq,zabs] at *;exact zW zdG
 ·rw[zabo c4];clear ht ha hu hsu;replace c1:=zabt c1;replace c2:=zabt c2;replace c3:=zabt c3;replace c4:=zabt c4;simp only[zf] at *;exact zW zdG
theorem z5j(a:zy)(t:zq)(n:Int)(he:0<=t.entry/\t.entry<=1000)(hl:t.results.length<=1000)(hd:0<=t.loaded/\t.loaded<=1073741824):zi G zlJ [.d (zx a),.d (zf t),.d (.int .i64 n)] []=some (.d (.tup [zx (zci a t n).1,zf (zci a t n).2.1,.sl ((zci a t n).2.2.1.map zaw),.int .i64 (zci a t n).2.2.2]),[]):=by
 have hg:=zeP t 6 6;have hf1:=zcY (zan t 6 6);have hv:=zrn t 7 n;have hw:=zku a 1;simp only[zgn,if_true] at hw;unfold zci;generalize zan t 6 6=ge at *
 by_cases c0:ge=0
 ·subst c0;simp only[ne_eq,zabD,if_false];clear hf1
  by_cases c1:t.pc=0
  ·rw[zabo c1];replace c1:=zabA c1
   by_cases c2:a.epoch=65536
   ·rw[zabo c2];have hn1:=zeU { t with loaded:=a.epoch } (zaO 6) n he hl;generalize zba { t with loaded:=a.epoch } (zaO 6) n=t2 at *;have sz_t2:=zQ t2;generalize zf t2=D_t2 at *;replace c2:=zabA c2;simp only[zf,zaO,z7,zac,evT,zbw,zabq,zabs,zaw] at *;exact zW zkf
   ·rw[zabn c2];replace c2:=zabt c2;simp only[zf,evT,zbw,zabq,zaw] at *;exact zW zkf
  ·rw[zabn c1];replace c1:=zabt c1;have hc:=zGD a 1 t.loaded (t.loaded+1);generalize casWord a 1 t.loaded (t.loaded+1)=c at *;obtain⟨c1,c2,c3⟩:=c
   by_cases c4:c3=0
   ·subst c4;simp only[ne_eq,zabD,if_false] at *
    cases c2
    ·simp only[if_true] at *;simp only[zf,evT,zbw,zabq,zaw] at *;exact zW zkf
    ·simp only[zacf,if_false] at *;have hn1:=zeU t zac n he hl;generalize zba t zac n=t2 at *;have sz_t2:=zQ t2;generalize zf t2=D_t2 at *;simp only[zf,z7,zac,evT,zbw,zabq,zabs,zaw] at *;exact zW zkf
   ·simp only at *;rw[zabo c4];have hf1:=zcY c3;have sz_zTask:=zQ zE;generalize zf zE=D_zTask at *;simp only[zf,evT,zbw,zabq,zaw] at *;exact zW zkf
 ·rw[zabo c0];have sz_zTask:=zQ zE;generalize zf zE=D_zTask at *;simp only[zf,evT,zbw,zabq,zaw] at *;exact zW zkf
theorem z5b{u:Setup}{N:Int}{t:zq}(hs:SI u N t.sec)(hk:t.sec.shards.length=1):zi G zjD [.d (zf t)] []=some (.d (.tup [zU (zdx t).1,z7 (zdx t).2.1,.sl ((zdx t).2.2.map zaw)]),[]):=by
 have hu:=zhn t.sec;have hv:=(hs.sv _ (zabC (show 0<t.sec.shards.length by omega))).1;have hb:za4 t.sec.shards[0]:=zfH (zbT hv);have hdd:=hs.dv;unfold zdx;simp only;rw[zc6 hk];clear hs hv
 by_cases c1:t.sec.shards[0].live=false
 ·rw[zabo c1];simp only[zf,zA,zU,z8,zaO,z7,zac,zabq,zC] at *;exact zW zzH
 rw[zabn c1];replace c1:t.sec.shards[0].live=true:=by simpa using c1
 have hrm:=zQt t.sec.dead zo;have hbu:=zSw t.sec.shards[0] (zgu t.sec.dead) t.sec.snap.epoch t.setup.limit hb;have hbl:=zDO t.sec.shards[0] (zgu t.sec.dead) t.sec.snap.epoch t.setup.limit;generalize zgu t.sec.dead=rm at *;generalize zfI t.sec.shards[0] rm t.sec.snap.epoch t.setup.limit=x at *;obtain⟨x1,l,x3⟩:=x;simp only at *
 by_cases c2:l.length=0
 ·rw[zabo c2];have e0:l=[]:=zacc.1 c2;subst e0;simp only[zf,zA,zU,z8,zaO,z7,zac,zT,zabq,zC] at *;exact zW zzH
 ·rw[zabn c2];have hpt:=z5t t.sec.dead l zo zo zo;generalize zi9 t.sec.dead l=d at *;obtain⟨d1,d2⟩:=d;simp only[zf,zA,zU,z8,zaO,z7,zac,zT,zabq,zabs,zC] at *;exact zW zzH
end Go.Proofs.YtnmcgdpmikhohaaGreat
