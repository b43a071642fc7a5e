/-
  Start.
-/
import Derived.Test.YtcembpbhkcbnhaaGreatB3e4d643
import Derived.Test.YtcembpbhkcbnhaaGreatB00fb7f5
import Derived.Test.YtcembpbhkcbnhaaGreatBf95a9b9
set_option linter.unusedSimpArgs false
set_option linter.unusedVariables false
set_option maxHeartbeats 10000000
set_option maxRecDepth 100000
namespace Go.Proofs.YtcembpbhkcbnhaaGreat
open Go Go.Sim
theorem zaaQ{t:zN}(h:zao t=0)(now:Int):(zcE t.heap now).Nodup:=by
 obtain⟨q1,q2,q3,q4⟩:=(zdr t).1 h;unfold zcE;rw[zabo ((zfx _).2 q3)];have hp:=(zlc t.heap 1 (fun p q hp hq=>by omega)).2;unfold zj0;have hn:(t.heap.map (·.2)).Nodup:=by
  have h1:=(q4.map (·.2)).nodup_iff.2;apply h1;rw[zacQ];rw[zadW,zaev];exact (zhW q2).imp (fun h=>by show _≠_;unfold zbx;simp only[Function.comp];omega)
 have h2:((zgy t.heap 1).map (·.2)).Nodup:=(hp.map (·.2)).nodup_iff.2 hn;exact h2.sublist ((List.filter_sublist).map _)
theorem zYL(t:zN)(now ep:Int):(zdh t now ep).Nodup:=by
 unfold zdh
 split
 ·rename_i h;exact (zaaQ h now).sublist List.filter_sublist
 ·exact zad7
theorem zYK{t:zN}{now ep id:Int}(h:id∈zdh t now ep):∃y∈t.l,y.msg.id=id:=by
 unfold zdh at h
 split at h
 ·rename_i ht;obtain⟨x,hx,e,_⟩:=(zRc ht now id).1 (zacW.1 h).1;exact⟨x,hx,e⟩
 ·cases h
theorem zHw(s:zt)(now ep lim:Int)(q:za4 s):zi G 212 [.d (zk s),.d (.int .i64 now),.d (.int .i64 ep),.d (.int .i64 lim)] []=some (.d (.tup [zk (zcw s now ep lim).1,.sl (zC (zcw s now ep lim).2.1),.int .i64 (zcw s now ep lim).2.2]),[]):=by
 have hv:=zeS s q.1 q.2.1 q.2.2;have h1:=zj1 ep;have h2:=zsl lim;have h3:=ztN now;unfold zcw
 by_cases c0:zab s=0
 ·have hus:∀b,usE s b=if b=true then 0 else 1:=fun b=>by unfold usE;rw[zabn (fun z=>z c0)]
  rw[hus];clear hus;have hb:=zgp c0;have hl:s.live=true:=by
   unfold zab at c0;rw[zabn (fun q=>q hb)] at c0
   split at c0
   ·assumption
   ·cases c0
  obtain⟨n,h',e,v⟩:=zfy hb hl;have hle:=zbT hb;have hla:=z6E s.leases now ep (by have:=hle.2.1;omega) (by have:=hle.2.2;omega);have hu:=zLZ s.leases now ep;have hlp:=zUk n s.low s.high (zdh s.leases now ep) hu ⟨h',zD s.ready,s.leases,0⟩ ⟨v,by simp,fun id hid=>zYK (by simpa using hid),by simpa using zYL s.leases now ep⟩;simp only[zabZ] at hlp;rw[<- e] at hlp;obtain⟨hlp,hz⟩:=hlp;rw[hz];simp only[if_true];unfold e7S e7R at hlp;simp only at hlp;rw[<- e] at hlp;rw[c0] at hv;clear c0 hb hz v e hle hl;generalize (zcx (zdh s.leases now ep) s).1=R at *;generalize zdh s.leases now ep=u at *;generalize tiQ now=b1 at *;generalize epQ ep=b2 at *;generalize liQ lim=b3 at *;simp only[zk,zau,shZ,zJ,zay,zal,zabq,zC,zabQ] at *
  cases b1
  ·clear hlp;simp only[zacd,zabz,if_false,ne_eq,zabV,if_true,Int.reduceEq]
   cases b2
   ·exact zW
   cases b3
   ·exact zW
   ·exact zW
  cases b2
  ·clear hlp;simp only[zacd,zacJ,zabz,if_false,ne_eq,zabV,if_true,Int.reduceEq];exact zW
  cases b3
  ·clear hlp;simp only[zacJ,zabz,if_false,ne_eq,zabV,if_true,Int.reduceEq];exact zW
  ·simp only[zacG,if_true,ne_eq,zabD,if_false] at *;exact zW
 ·have hus:∀b,usE s b=zab s:=fun b=>by unfold usE;rw[zabo c0]
  rw[hus,zabo c0];clear hus;generalize zab s=v at *;simp only[zk,zJ,zay,zal,zabq,zC] at *;exact zW
def idG(i:Int):Grant:=⟨i,0,0,0⟩
def unA(s:Section):AV:= .agg [.d (.sl (s.shards.map zk)),.d (.int .i64 s.dead.cap),.d (.sl (s.dead.l.map zm)),.xsl [],.xsl [],.xsl []]
def evA(t:Task)(kind:Int)(c:AV):AV:= .agg [.d (.int .i64 t.sec.snap.stamp),.d (.int .i64 t.number),.d (.int .i64 t.entry),.d (.int .i64 kind),.d (.int .i64 t.sec.snap.clock),.d (.int .i64 t.sec.snap.epoch),.d (.int .i64 0),c,.d (.int .i64 0),.d (.int .i64 0)]
def zdP:AV:= .agg [.d (.int .i64 0),.d (.int .i64 0),.xsl [],.xsl [],.d (.int .i64 0),.d (.int .i64 0),.d (.int .i64 0)]
def zi8:AV:= .agg [.xsl [],.d (.int .i64 0),.xsl [],.xsl [],.xsl [],.xsl []]
def zjm(t:Task)(x:zt)(u:List Int)(out:List Int)(i:Nat):St:=⟨[(2,.ref 2 0 0),(3,.ref 3 0 0),(5,.ref 5 0 0),(14,.ref 14 0 0),(15,.d (.sl (zC u))),(17,.ref 17 0 0),(18,.d (.int .i64 i))],[(2,.row [zi8]),(3,.row [zdP]),(5,.row [unA t.sec]),(14,.row [.d (zk x)]),(17,.row [evA t 10 (accC 500115 ((out.map idG).map zbt))])]++zam 500115 ((out.map idG).map zbt)⟩
def znJ(t:Task)(x:zt)(u:List Int)(out:List Int):zX×St:=(.exit 0,⟨[(2,.ref 2 0 0),(3,.ref 3 0 0),(5,.ref 5 0 0),(14,.ref 14 0 0),(15,.d (.sl (zC u))),(17,.ref 17 0 0)],[(2,.row [zi8]),(3,.row [zdP]),(5,.row [unA t.sec]),(14,.row [.d (zk x)]),(17,.row [evA t 10 (accC 500115 ((out.map idG).map zbt))])]++zam 500115 ((out.map idG).map zbt)⟩)
theorem z9Y(t:Task)(x:zt)(u:List Int)(hu:u.length<=1000):∀p:List Int×Nat,(p.2<=u.length/\p.1.length<=p.2)->z6 G [] zkt (zjm t x u p.1 p.2)=some (znJ t x u (p.1++u.drop p.2)):=by
 refine zaL (fun p:List Int×Nat=>u.length - p.2) (fun p:List Int×Nat=>(p.2<=u.length/\p.1.length<=p.2)) (fun p=>zjm t x u p.1 p.2) (fun p=>some (znJ t x u (p.1++u.drop p.2))) fun⟨out,i⟩ ⟨hi,hr⟩ L ih=> ?_;simp only at hi hr
 by_cases h0:i<u.length
 ·simp only;rw[zabX h0];have i1:=ih ⟨out++[u[i]],i+1⟩ ⟨by simp only;omega,by simp only[zabv,zab3];omega⟩ (by simp only;omega);clear ih;simp only[zab9,zadb] at i1;have hG:D.agg [D.int .i64 u[i],D.int .i64 0,D.int .i64 0,D.int .i64 0]=zbt (idG u[i]):=rfl;generalize znJ t x u (out++u[i]::u.drop (i+1))=R at *
  cases out with
  | nil=>
   simp only[zjm,accC,zam,evA,zdP,zi8,unA,zkt,zabq,zabL,zabJ,zabN,zabF,zabs,zabw] at *;simp only[zNr,srcO] at i1;exact zS
  | cons r0 rs=>
   simp only[zjm,accC,zam,evA,zdP,zi8,unA,zkt,zabq,zabF,zabs,zabE,zabN,zabJ,zabu,zabv,zabw] at *;simp only[zNr,srcO] at i1;exact zS
 ·clear ih;obtain rfl:i=u.length:=by omega
  simp only[zab7,zabL,znJ]
  cases out with
  | nil=>
   simp only[zjm,accC,zam,evA,zdP,zi8,unA,zkt,zabq,zabL] at *;exact zS
  | cons r0 rs=>
   simp only[zjm,accC,zam,evA,zdP,zi8,unA,zkt,zabs,zabE,zabN,zabJ,zabu] at *;exact zS
theorem zHv(s:zt)(now ep lim:Int):(zcw s now ep lim).2.1.length<=12:=by
 unfold zcw
 split
 ·simp
 split
 ·exact zLZ _ _ _
 ·simp
theorem z5a{u:Setup}{N:Int}{t:Task}(hs:SI u N t.sec)(hk:t.sec.shards.length<=1):zi G 165 [.d (zf t)] []=some (.d (.tup [zU (zdW t).1,z7 (zdW t).2.1,.sl ((zdW t).2.2.map zaw)]),[]):=by
 have hu:=zhn t.sec;unfold zdW;simp only
 by_cases c0:t.sec.shards.length=0
 ·rw[zabo c0];have hcd:=zSZ t.sec.dead t.sec.snap.epoch (by have:=hs.dv;omega);have e0:t.sec.shards=[]:=zacc.1 c0;generalize zhv t.sec.dead t.sec.snap.epoch=d at *;obtain⟨d1,d2,d3⟩:=d;simp only at *;clear hs hk c0
  by_cases c1:0<d2
  ·rw[zabo c1];simp only[e0,zf,zA,zU,z8,zaO,z7,zac,zT,zabq,zC,zabs] at *;clear e0;exact zW
  ·rw[zabn c1];simp only[e0,zf,zA,zU,z8,zaO,z7,zac,zT,zabq,zC,zabs] at *;clear e0;exact zW
 rw[zabn c0];have hk1:t.sec.shards.length=1:=by omega
 rw[zc6 hk1];have hv:=(hs.sv _ (zabC (show 0<t.sec.shards.length by omega))).1;have hb:za4 t.sec.shards[0]:=zfH (zbT hv);clear hs hk c0
 by_cases c1:t.sec.shards[0].live=false
 ·rw[zabo c1];clear hv hb;simp only[zf,zA,zU,z8,zaO,z7,zac,zabq,zC] at *;exact zW
 rw[zabn c1];replace c1:t.sec.shards[0].live=true:=by simpa using c1
 by_cases c2:t.inv.kind=13
 ·rw[zabo c2];have hcl:=zSY t.sec.shards[0] t.sec.snap.epoch hb;generalize zhw t.sec.shards[0] t.sec.snap.epoch=x at *;obtain⟨x1,x2,x3⟩:=x;replace c2:=zabA c2;clear hv hb;simp only at *
  by_cases c3:0<x2
  ·rw[zabo c3];simp only[zf,zA,zU,z8,zaO,z7,zac,zabq,zabs,zC] at *;exact zW
  ·rw[zabn c3];simp only[zf,zA,zU,z8,zaO,z7,zac,zabq,zC] at *;exact zW
 ·rw[zabn c2];have hex:=zHw t.sec.shards[0] t.sec.snap.clock t.sec.snap.epoch t.setup.limit hb;have hel:=zHv t.sec.shards[0] t.sec.snap.clock t.sec.snap.epoch t.setup.limit;have hsn:=zla t 10;generalize zcw t.sec.shards[0] t.sec.snap.clock t.sec.snap.epoch t.setup.limit=x at *;obtain⟨x1,u,x3⟩:=x;replace c2:=zabt c2;clear hv hb;simp only at *;have hlp:=z9Y t x1 u zo ⟨[],0⟩ ⟨by simp,by simp⟩
  cases u with
  | nil=>
   clear hlp;simp only[zabw,if_true];simp only[zf,zA,zU,z8,zaO,z7,zac,zabq,zC] at *;exact zW
  | cons u0 us=>
   rw[zabn (by simp)];simp only[zjm,znJ,accC,zam,evA,zev,zdP,zi8,unA,idG,zb9,zbw,zaw,zbt,zf,zA,zU,z8,zaO,z7,zac,zabZ,zabq,zabs,zacQ,zabJ,zabL,zabN,zabu,zabE,zC,Function.comp_def,zabQ] at *;exact zW
theorem zLF(d:zabk)(h:Int)(hL:d.l.length<=4294967296):zi G 145 [.d (zaT d),.d (.int .i64 h)] []=some (.d (.int .i64 (zcZ d h)),[]):=by
 have h1:=z6I d h hL;have h2:=zNq d 0 hL;unfold zcZ;generalize zki d h=v at *;simp only[zaT] at *
 by_cases c:0<=v
 ·rw[zabo c];exact zW
 ·rw[zabn c];exact zW
theorem zQs{t:Task}(hk:t.sec.shards.length=1)(hv:zY t.sec.shards[0]=0):zi G 159 [.d (zf t)] []=some (.d (.int .i64 (zf9 t)),[]):=by
 have hst:=zhk t.sec.shards[0] (zfH (zbT hv));have hb:=znF hv;have hl:=(zbT hv).1;unfold zf9 zhY;rw[zc6 hk];generalize zbb t.sec.shards[0]=sd at *;have e:(if t.inv.max<(t.sec.shards[0].ready.cells.length:Int) - sd then t.inv.max else (t.sec.shards[0].ready.cells.length:Int) - sd)=(if (t.sec.shards[0].ready.cells.length:Int) - sd<t.inv.max then (t.sec.shards[0].ready.cells.length:Int) - sd else t.inv.max):=by split<;>split<;>omega
 rw[e];clear e hv;simp only[zf] at *;exact zW
def rdG(s:zt)(m:zj):Grant:=⟨m.id,m.gen,(zb7 (zbB m) s.low s.high).route,0⟩
def zjd(t:Task)(s:zt)(d:za7)(l:List zj)(out:List zj)(m0:AV)(hm:zd)(i:Nat):St:=⟨[(1,.ref 1 0 0),(2,.ref 2 0 0),(4,.ref 4 0 0),(5,.ref 5 0 0),(6,.ref 6 0 0),(8,.ref 8 0 0),(9,.d (.sl (l.map zm))),(11,.d (.int .i64 i))],[(1,.row [.d (zf t)]),(2,.row [m0]),(4,.row [.d (zk s)]),(5,.row [.agg [.d (.sl (t.sec.shards.map zk)),.d (.int .i64 t.sec.dead.cap),.d (.sl (t.sec.dead.l.map zm)),.xsl [],accC 77 ((out.map zbB).map zm),.xsl []]]),(6,.row [evA t 9 (accC 500094 ((out.map (rdG s)).map zbt))]),(8,.row [.d (zT d)])]++zam 77 ((out.map zbB).map zm)++zam 500094 ((out.map (rdG s)).map zbt)⟩
def tkZ:AV:= .agg [.d (.int .i64 0),.d (.int .i64 0),.d (.int .i64 0),.d (.int .i64 0),.d (.int .i64 0),.d (.int .i64 0),.d (.int .i64 0),.xsl [],.xsl [],.d (.int .i64 0),.d (.bool false),.d (.int .i64 0),.d (.int .i64 0),.d (.int .i64 0),.xsl [],.d (.int .i64 0),.d (.int .i64 0),.d (.int .i64 0),.d (.int .i64 0),.d (.int .i64 0),.d (.int .i64 0),.d (.int .i64 0),.d (.int .i64 0),.d (.int .i64 0),.d (.int .i64 0),.xsl [],.d (.int .i64 0),.d (.int .i64 0),.d (.int .i64 0),.d (.int .i64 0),.d (.int .i64 0),.d (.int .i64 0),.d (.int .i64 0),.d (.int .i64 0),.xsl [],.d (.int .i64 0),.xsl [],.xsl [],.d (.int .i64 0),.xsl [],.xsl [],.xsl [],.d (.int .i64 0),.xsl [],.xsl [],.xsl [],.xsl [],.d (.int .i64 0),.xsl [],.d (.int .i64 0),.xsl [],.xsl [],.d (.int .i64 0),.d (.int .i64 0),.d (.int .i64 0),.d (.int .i64 0),.d (.int .i64 0),.d (.int .i64 0),.d (.int .i64 0),.d (.int .i64 0),.d (.int .i64 0),.xsl [],.xsl []]
def znj(t:Task)(s:zt)(d:za7)(out:List zj):zX×St:=(.exit 0,⟨[(1,.ref 1 0 0),(2,.ref 2 0 0),(4,.ref 4 0 0),(5,.ref 5 0 0),(6,.ref 6 0 0),(8,.ref 8 0 0)],[(1,.row [.d (zf t)]),(2,.row [tkZ]),(4,.row [.d (zk s)]),(5,.row [.agg [.d (.sl (t.sec.shards.map zk)),.d (.int .i64 t.sec.dead.cap),.d (.sl (t.sec.dead.l.map zm)),.xsl [],accC 77 ((out.map zbB).map zm),.xsl []]]),(6,.row [evA t 9 (accC 500094 ((out.map (rdG s)).map zbt))]),(8,.row [.d (zT d)])]++zam 77 ((out.map zbB).map zm)++zam 500094 ((out.map (rdG s)).map zbt)⟩)
theorem z6U(t:Task)(s:zt)(d:za7)(l:List zj)(hl:l.length<=1000):∀p:List zj×Nat,(p.2<=l.length/\p.1.length<=p.2)->z6 G [] zks (zjd t s d l p.1 tkZ [] p.2)=some (znj t s d (p.1++l.drop p.2)):=by
 refine zaL (fun p:List zj×Nat=>l.length - p.2) (fun p:List zj×Nat=>(p.2<=l.length/\p.1.length<=p.2)) (fun p=>zjd t s d l p.1 tkZ [] p.2) (fun p=>some (znj t s d (p.1++l.drop p.2))) fun⟨out,i⟩ ⟨hi,hr⟩ L ih=> ?_;simp only at hi hr
 by_cases h0:i<l.length
 ·simp only;rw[zabX h0];have hrv:=z7J l[i];have hrr:zi G 194 [.d (zm (zbB l[i])),.d (.int .i64 s.low),.d (.int .i64 s.high)] []=some (.d (.agg [.int .i64 (zb7 (zbB l[i]) s.low s.high).id,.int .i64 (zb7 (zbB l[i]) s.low s.high).route,.int .i64 (zb7 (zbB l[i]) s.low s.high).epoch,.int .i64 (zb7 (zbB l[i]) s.low s.high).count,.int .i64 (zb7 (zbB l[i]) s.low s.high).gen,.int .i64 (zb7 (zbB l[i]) s.low s.high).sent,.str (zb7 (zbB l[i]) s.low s.high).body]),[]):=zQo (zbB l[i]) s.low s.high;have i1:=ih ⟨out++[l[i]],i+1⟩ ⟨by simp only;omega,by simp only[zabv,zab3];omega⟩ (by simp only;omega);clear ih;simp only[zab9,zadb] at i1;have hG:D.agg [D.int .i64 (zbB l[i]).id,D.int .i64 (zbB l[i]).gen,D.int .i64 (zb7 (zbB l[i]) s.low s.high).route,D.int .i64 0]=zbt (rdG s l[i]):=rfl;generalize znj t s d (out++l[i]::l.drop (i+1))=R at *
  cases out with
  | nil=>
   simp only[zjd,accC,zam,evA,tkZ,zks,zf,zabq,zabL,zabJ,zabN,zabF,zabs,zabw] at *;simp only[zNr,srcO] at i1;exact zS
  | cons r0 rs=>
   simp only[zjd,accC,zam,evA,tkZ,zks,zf,zabq,zabF,zabs,zabE,zabN,zabJ,zabu,zabv,zabw] at *;simp only[zNr,srcO] at i1;exact zS
 ·clear ih;obtain rfl:i=l.length:=by omega
  simp only[zab7,zabL,znj]
  cases out with
  | nil=>
   simp only[zjd,accC,zam,evA,tkZ,zks,zf,zabq,zabL] at *;exact zS
  | cons r0 rs=>
   simp only[zjd,accC,zam,evA,tkZ,zks,zf,zabs,zabE,zabN,zabJ,zabu] at *;exact zS
theorem zQU{t:Task}(hk:t.sec.shards.length=1)(hb:za4 t.sec.shards[0]):zi G 185 [.d (zf t)] []=some (.d (.tup [zk (zda t).1,.sl (zC (zda t).2.1),.sl ((zda t).2.2.map zaI)]),[]):=by
 have h1:=zHw t.sec.shards[0] t.sec.snap.clock t.sec.snap.epoch t.setup.limit hb;have h2:=z93 (zcw t.sec.shards[0] t.sec.snap.clock t.sec.snap.epoch t.setup.limit).1 t.inv.max t.sec.snap.clock t.inv.visibility t.sec.snap.epoch t.setup.limit (zfH (zLU _ _ _ _));unfold zda;simp only;rw[zc6 hk];generalize zcw t.sec.shards[0] t.sec.snap.clock t.sec.snap.epoch t.setup.limit=e at *;obtain⟨e1,e2,e3⟩:=e;simp only at *;generalize zcD e1 t.inv.max t.sec.snap.clock t.inv.visibility t.sec.snap.epoch t.setup.limit=k at *;obtain⟨k1,k2,k3⟩:=k;simp only at *;have sz_e1:=zbm e1;generalize zk e1=D_e1 at *;have sz_k1:=zbm k1;generalize zk k1=D_k1 at *;simp only[zf] at *;exact zW
def zgM(K:Tok)(slot:Int)(y:zG):List UInt8:=(K.enc ⟨y.msg.id,y.msg.gen,y.msg.route,slot⟩).1
def zif(K:Tok)(t:Task)(l:List zG)(out:List zG)(i:Nat):St:=⟨[(1,.ref 1 0 0),(2,.ref 2 0 0),(3,.ref 3 0 0),(6,.d (.sl (l.map zaI))),(7,.d (.int .i64 i))],[(1,.row [.d (zf t)]),(2,.row [zdP]),(3,.row [.agg [.d (.int .i64 0),.d (.int .i64 0),accC 45 ((out.map (zgM K t.slot)).map zaA),accC 52 ((out.map (·.msg.body)).map .str),.d (.int .i64 0),.d (.int .i64 0),.d (.int .i64 0)]])]++zam 45 ((out.map (zgM K t.slot)).map zaA)++zam 52 ((out.map (·.msg.body)).map .str)⟩
def zk6(K:Tok)(t:Task)(out:List zG):zX×St:=(.exit 0,⟨[(2,.ref 2 0 0),(3,.ref 3 0 0)],[(2,.row [zdP]),(3,.row [.agg [.d (.int .i64 0),.d (.int .i64 0),accC 45 ((out.map (zgM K t.slot)).map zaA),accC 52 ((out.map (·.msg.body)).map .str),.d (.int .i64 0),.d (.int .i64 0),.d (.int .i64 0)]])]++zam 45 ((out.map (zgM K t.slot)).map zaA)++zam 52 ((out.map (·.msg.body)).map .str)⟩)
theorem zRM(l:List (List UInt8)):zas 1 (l.map zaA)=true:=by
 induction l with
 | nil=>rfl
 | cons x l ih=>rw[zabs,zDx,ih];rfl
theorem z7U{K:Tok}(hK:zgF K)(t:Task)(l:List zG)(hl:l.length<=1000):∀p:List zG×Nat,(p.2<=l.length/\p.1.length<=p.2)->z6 G [] zkr (zif K t l p.1 p.2)=some (zk6 K t (p.1++l.drop p.2)):=by
 refine zaL (fun p:List zG×Nat=>l.length - p.2) (fun p:List zG×Nat=>(p.2<=l.length/\p.1.length<=p.2)) (fun p=>zif K t l p.1 p.2) (fun p=>some (zk6 K t (p.1++l.drop p.2))) fun⟨out,i⟩ ⟨hi,hr⟩ L ih=> ?_;simp only at hi hr
 by_cases h0:i<l.length
 ·simp only;rw[zabX h0];have hen:=hK.en ⟨l[i].msg.id,l[i].msg.gen,l[i].msg.route,t.slot⟩;have i1:=ih ⟨out++[l[i]],i+1⟩ ⟨by simp only;omega,by simp only[zabv,zab3];omega⟩ (by simp only;omega);clear ih;simp only[zab9,zadb] at i1;have hz:∀b,(zaA b).size=1:=fun _=>rfl;have hz2:∀b,(zaA b).isT=false:=fun _=>rfl;generalize zk6 K t (out++l[i]::l.drop (i+1))=R at *;have hal:=zRM
  cases out with
  | nil=>
   simp only[zif,accC,zam,zdP,zgM,zkr,zf,zat,zabq,zabL,zabJ,zabN,zabF,zabs,zabw] at *;simp only[zNr,srcO] at i1;exact zS
  | cons r0 rs=>
   simp only[zif,accC,zam,zdP,zgM,zkr,zf,zat,zabq,zabF,zabs,zabE,zabN,zabJ,zabu,zabv,zabw] at *;simp only[zNr,srcO] at i1;exact zS
 ·clear ih;obtain rfl:i=l.length:=by omega
  simp only[zab7,zabL,zk6]
  cases out with
  | nil=>
   simp only[zif,accC,zam,zdP,zgM,zkr,zf,zabq,zabL] at *;exact zS
  | cons r0 rs=>
   simp only[zif,accC,zam,zdP,zgM,zkr,zf,zabs,zabE,zabN,zabJ,zabu] at *;exact zS
theorem zaaq(mx d ep lim:Int):∀(l:List zj) (s:zt) (out:List zG),(tkF mx d ep lim l s out).2.1.length<=out.length+l.length:=by
 intro l
 induction l with
 | nil=>intro s out;rw[tkF];simp
 | cons m l ih=>
  intro s out;rw[tkF]
  split
  ·have:=ih s out;simp only[zabu];omega
  split
  ·simp
  ·have:=ih (zfP s m d).1 (out++[(zfP s m d).2.1]);simp only[zabv,zabu,zabw] at *;omega
theorem zQV(s:zt)(mx now vis ep lim:Int):(zcD s mx now vis ep lim).2.1.length<=12:=by
 unfold zcD
 split
 ·simp
 split
 ·simp
 ·rename_i c _;have hl:zab s=0:=by
   have c:=zabG.1 c;unfold zlg at c;unfold usE at c
   split at c
   ·rename_i q;exact absurd c q
   ·rename_i q;exact zabG.1 q
  have:=zaaq mx (now+vis) ep lim (zD s.ready) s [];have h12:=zha (zgp hl);simp only[zabw] at this;omega
theorem zQX(t:Task):(zda t).2.1.length<=12/\(zda t).2.2.length<=12:=by
 unfold zda;simp only;refine⟨zHv _ _ _ _,?_⟩;exact zQV _ _ _ _ _ _
theorem z7G{K:Tok}(hK:zgF K){t:Task}(hk:t.sec.shards.length=1)(hb:za4 t.sec.shards[0]):zi G 149 [.d (zf t)] []=some (.d (z7 (zib K t)),[]):=by
 have ht:=zQU hk hb;have hl:=(zQX t).2;unfold zib;have hlp:=z7U hK t (zda t).2.2 zo ⟨[],0⟩ ⟨by simp,by simp⟩;have ee:((zda t).2.2.map fun y=>(K.enc ⟨y.msg.id,y.msg.gen,y.msg.route,t.slot⟩).1)=(zda t).2.2.map (zgM K t.slot):=rfl;rw[ee];clear ee;generalize zda t=r at *;obtain⟨s,u,l⟩:=r;simp only at *;have sz_s:=zbm s;generalize zk s=D_s at *;clear hb
 cases l with
 | nil=>
  simp only[zif,zk6,accC,zam,zdP,zf,z7,zac,zabZ,zabq,zabL,zabJ,zabQ] at *;exact zW
 | cons l0 ls=>
  simp only[zif,zk6,accC,zam,zdP,zf,z7,zac,zabZ,zabq,zabL,zabJ,zabs,zabN,zabu,zabE,zabQ] at *;exact zW
def zjb(t:Task)(s x:zt)(u:List Int)(l:List zG)(out:List Int)(i:Nat):St:=⟨[(1,.ref 1 0 0),(2,.ref 2 0 0),(4,.ref 4 0 0),(5,.ref 5 0 0),(6,.ref 6 0 0),(7,.ref 7 0 0),(8,.d (.sl (zC u))),(9,.d (.sl (l.map zaI))),(10,.acc 10 []),(11,.ref 11 0 0),(12,.d (.int .i64 i))],[(1,.row [.d (zf t)]),(2,.row [tkZ]),(4,.row [.d (zk s)]),(5,.row [unA t.sec]),(6,.row [evA t 3 (.xsl [])]),(7,.row [.d (zk x)]),(10,.acc 0),(11,.row [evA t 10 (accC 500076 ((out.map idG).map zbt))])]++zam 500076 ((out.map idG).map zbt)⟩
def znh(t:Task)(s x:zt)(u:List Int)(l:List zG)(out:List Int):zX×St:=(.exit 0,⟨[(1,.ref 1 0 0),(2,.ref 2 0 0),(4,.ref 4 0 0),(5,.ref 5 0 0),(6,.ref 6 0 0),(7,.ref 7 0 0),(8,.d (.sl (zC u))),(9,.d (.sl (l.map zaI))),(10,.acc 10 []),(11,.ref 11 0 0)],[(1,.row [.d (zf t)]),(2,.row [tkZ]),(4,.row [.d (zk s)]),(5,.row [unA t.sec]),(6,.row [evA t 3 (.xsl [])]),(7,.row [.d (zk x)]),(10,.acc 0),(11,.row [evA t 10 (accC 500076 ((out.map idG).map zbt))])]++zam 500076 ((out.map idG).map zbt)⟩)
theorem z6S(t:Task)(s x:zt)(u:List Int)(l:List zG)(hu:u.length<=1000):∀p:List Int×Nat,(p.2<=u.length/\p.1.length<=p.2)->z6 G [] zkp (zjb t s x u l p.1 p.2)=some (znh t s x u l (p.1++u.drop p.2)):=by
 refine zaL (fun p:List Int×Nat=>u.length - p.2) (fun p:List Int×Nat=>(p.2<=u.length/\p.1.length<=p.2)) (fun p=>zjb t s x u l p.1 p.2) (fun p=>some (znh t s x u l (p.1++u.drop p.2))) fun⟨out,i⟩ ⟨hi,hr⟩ L ih=> ?_;simp only at hi hr
 by_cases h0:i<u.length
 ·simp only;rw[zabX h0];have i1:=ih ⟨out++[u[i]],i+1⟩ ⟨by simp only;omega,by simp only[zabv,zab3];omega⟩ (by simp only;omega);clear ih;simp only[zab9,zadb] at i1;have hG:D.agg [D.int .i64 u[i],D.int .i64 0,D.int .i64 0,D.int .i64 0]=zbt (idG u[i]):=rfl;generalize znh t s x u l (out++u[i]::u.drop (i+1))=R at *;have sz_t:=zQ t;generalize zf t=D_t at *
  cases out with
  | nil=>
   simp only[zjb,accC,zam,evA,tkZ,unA,zkp,zabq,zabL,zabJ,zabN,zabF,zabs,zabw] at *;simp only[zNr,srcO] at i1;exact zS
  | cons r0 rs=>
   simp only[zjb,accC,zam,evA,tkZ,unA,zkp,zabq,zabF,zabs,zabE,zabN,zabJ,zabu,zabv,zabw] at *;simp only[zNr,srcO] at i1;exact zS
 ·clear ih;obtain rfl:i=u.length:=by omega
  simp only[zab7,zabL,znh]
  cases out with
  | nil=>
   simp only[zjb,accC,zam,evA,tkZ,unA,zkp,zabq,zabL] at *;exact zS
  | cons r0 rs=>
   simp only[zjb,accC,zam,evA,tkZ,unA,zkp,zabs,zabE,zabN,zabJ,zabu] at *;exact zS
def zi4(s:Section)(x:zt):AV:= .agg [.xsl [zk x],.d (.int .i64 s.dead.cap),.d (.sl (s.dead.l.map zm)),.xsl [.int .i64 0],.xsl [],.xsl []]
def zjc(t:Task)(x:zt)(l:List zG)(evs:List D)(out:List zG)(i:Nat):St:=⟨[(1,.ref 1 0 0),(2,.ref 2 0 0),(5,.ref 5 0 0),(6,.ref 6 0 0),(9,.d (.sl (l.map zaI))),(10,.acc 10 evs),(13,.d (.int .i64 i))],[(1,.row [.d (zf t)]),(2,.row [tkZ]),(5,.row [zi4 t.sec x]),(6,.row [evA t 3 (accC 500137 ((out.map zgY).map zbt))]),(10,.acc evs.length)]++zam 500137 ((out.map zgY).map zbt)⟩
def zni(t:Task)(x:zt)(evs:List D)(out:List zG):zX×St:=(.exit 3,⟨[(1,.ref 1 0 0),(2,.ref 2 0 0),(5,.ref 5 0 0),(6,.ref 6 0 0),(10,.acc 10 evs)],[(1,.row [.d (zf t)]),(2,.row [tkZ]),(5,.row [zi4 t.sec x]),(6,.row [evA t 3 (accC 500137 ((out.map zgY).map zbt))]),(10,.acc evs.length)]++zam 500137 ((out.map zgY).map zbt)⟩)
theorem zP9(t:Task)(x:zt)(l:List zG)(evs:List D)(hl:l.length<=1000):∀p:List zG×Nat,(p.2<=l.length/\p.1.length<=p.2)->z6 G [] zkq (zjc t x l evs p.1 p.2)=some (zni t x evs (p.1++l.drop p.2)):=by
 refine zaL (fun p:List zG×Nat=>l.length - p.2) (fun p:List zG×Nat=>(p.2<=l.length/\p.1.length<=p.2)) (fun p=>zjc t x l evs p.1 p.2) (fun p=>some (zni t x evs (p.1++l.drop p.2))) fun⟨out,i⟩ ⟨hi,hr⟩ L ih=> ?_;simp only at hi hr
 by_cases h0:i<l.length
 ·simp only;rw[zabX h0];have i1:=ih ⟨out++[l[i]],i+1⟩ ⟨by simp only;omega,by simp only[zabv,zab3];omega⟩ (by simp only;omega);clear ih;simp only[zab9,zadb] at i1;have hG:D.agg [D.int .i64 l[i].msg.id,D.int .i64 l[i].msg.gen,D.int .i64 l[i].msg.route,D.int .i64 l[i].deadline]=zbt (zgY l[i]):=rfl;generalize zni t x evs (out++l[i]::l.drop (i+1))=R at *;have sz_t:=zQ t;generalize zf t=D_t at *
  cases out with
  | nil=>
   simp only[zjc,accC,zam,evA,tkZ,zi4,zkq,zabq,zabL,zabJ,zabN,zabF,zabs,zabw] at *;simp only[zNr,srcO] at i1;exact zS
  | cons r0 rs=>
   simp only[zjc,accC,zam,evA,tkZ,zi4,zkq,zabq,zabF,zabs,zabE,zabN,zabJ,zabu,zabv,zabw] at *;simp only[zNr,srcO] at i1;exact zS
 ·clear ih;obtain rfl:i=l.length:=by omega
  simp only[zab7,zabL,zni]
  cases out with
  | nil=>
   simp only[zjc,accC,zam,evA,tkZ,zi4,zkq,zabq,zabL] at *;exact zS
  | cons r0 rs=>
   simp only[zjc,accC,zam,evA,tkZ,zi4,zkq,zabs,zabE,zabN,zabJ,zabu] at *;exact zS
theorem z40{p:Prop}(h:p:=by simp only[zjb,znh,zjc,zni,accC,zam,evA,tkZ,unA,zi4,zf,zA,zU,zbW,z8,zev,zb9,zaw,zbw,idG,zbt,zgY,zabZ,zabJ,zabL,zabN,zabu,zabw,zabE,zabq,zabs,zacQ,zC,Function.comp_def,zabQ] at *; exact zW):p:=h
theorem z6X{u:Setup}{N:Int}{t:Task}(hs:SI u N t.sec)(hk:t.sec.shards.length=1)(hvs:0<=t.inv.visibility/\t.inv.visibility<=1000):zi G 148 [.d (zf t)] []=some (.d (.tup [zf (zdj t).1,.sl ((zdj t).2.map zaw)]),[]):=by
 have hb:za4 t.sec.shards[0]:=zc6 hk ▸ znz hs;have hun:=hs.un;have hu:=zhn t.sec;have ho:=zsV t.sec.shards[0] t.walk.next hb;have hcl:=hs.sn.2;unfold zdj;simp only;rw[zc6 hk]
 by_cases c0:zen t.sec.shards[0] t.walk.next=false
 ·rw[zabo c0];rw[c0] at ho;have hd:=zcr (t:={ t with loaded:=0 }) hs hun;generalize za5 { t with loaded:=0 } (z8 t.sec)=t2 at *;have sz_t2:=zQ t2;generalize zf t2=D_t2 at *;clear hs hb c0 hun;simp only[zf,zA,zU,z8,zabq,zC] at *;exact zW
 rw[zabn c0];replace c0:zen t.sec.shards[0] t.walk.next=true:=by simpa using c0
 rw[c0] at ho;clear c0;have hsn:=zla { t with loaded:=0 } 3
 by_cases c1:1073741824<t.sec.snap.clock+t.inv.visibility
 ·rw[zabo c1];have hd:=zcr (t:={ t with loaded:=3 }) hs hun;generalize za5 { t with loaded:=3 } (z8 t.sec)=t2 at *;have sz_t2:=zQ t2;generalize zf t2=D_t2 at *;clear hs hb hun;simp only[zf,zA,zU,z8,zev,zb9,zaw,zbw,zabq,zabs,zC] at *;exact zW
 rw[zabn c1];have htk:=zQU (t:={ t with loaded:=0 }) hk hb;have htl:=zQX { t with loaded:=0 };have hx:zaK (zda { t with loaded:=0 }).1:=zLW _ _ _ _ _ _;have hsx:=zla { t with loaded:=0 } 10;have hwa:=zRi t.walk t.sec.shards[0].low t.sec.shards[0].high;generalize zfz t.walk t.sec.shards[0].low t.sec.shards[0].high=wk at *;obtain⟨wk,we⟩:=wk;have hov:=zRk wk;generalize zda { t with loaded:=0 }=r at *;obtain⟨x,ui,l⟩:=r;simp only at *;have hl0:=z6S { t with loaded:=0 } t.sec.shards[0] x ui l zo ⟨[],0⟩ ⟨by simp,by simp⟩;have hoi:=hs.one hk hx;have eg:(l.map zgY)=l.map zgY:=rfl;clear hx eg hb
 cases ui with
 | nil=>
  simp only[zabw,zael,if_false,false_or]
  cases l with
  | nil=>
   simp only[zabw,zael,if_false];clear hl0
   by_cases c5:zgC wk=true
   ·rw[zabo c5];rw[c5] at hov;clear c5;have hd:=zcr (t:={ t with loaded:=2,walk:=wk }) hs hun;generalize za5 { t with loaded:=2,walk:=wk } (z8 t.sec)=t2 at *;have sz_t2:=zQ t2;generalize zf t2=D_t2 at *;clear hs hun hoi;exact z40
   ·rw[zabn c5];replace c5:zgC wk=false:=by simpa using c5
    rw[c5] at hov;clear c5;have hd:=zcr (t:={ t with loaded:=0,walk:=wk }) hs hun;generalize za5 { t with loaded:=0,walk:=wk } (z8 t.sec)=t2 at *;have sz_t2:=zQ t2;generalize zf t2=D_t2 at *;clear hs hun hoi;exact z40
  | cons l0 ls=>
   simp only[zabu,zadH,if_true];have hl1:=zP9 { t with loaded:=1,walk:=wk } x (l0::ls) [] (by simp only[zabu] at *; omega) ⟨[],0⟩ ⟨by simp,by simp⟩;clear hl0;clear hov;have hd:=zcr (t:={ t with loaded:=1,walk:=wk }) hs hoi;generalize za5 { t with loaded:=1,walk:=wk } ({ z8 t.sec with shards:=[x],order:=[0] })=t2 at *;have sz_t2:=zQ t2;generalize zf t2=D_t2 at *;clear hs hun hoi;exact z40
 | cons u0 us=>
  simp only[zabu,zadH,if_true,zadq]
  cases l with
  | nil=>
   simp only[zabw,zael,if_false]
   by_cases c5:zgC wk=true
   ·rw[zabo c5];rw[c5] at hov;clear c5;have hd:=zcr (t:={ t with loaded:=2,walk:=wk }) hs hoi;generalize za5 { t with loaded:=2,walk:=wk } ({ z8 t.sec with shards:=[x],order:=[0] })=t2 at *;have sz_t2:=zQ t2;generalize zf t2=D_t2 at *;clear hs hun hoi;exact z40
   ·rw[zabn c5];replace c5:zgC wk=false:=by simpa using c5
    rw[c5] at hov;clear c5;have hd:=zcr (t:={ t with loaded:=0,walk:=wk }) hs hoi;generalize za5 { t with loaded:=0,walk:=wk } ({ z8 t.sec with shards:=[x],order:=[0] })=t2 at *;have sz_t2:=zQ t2;generalize zf t2=D_t2 at *;clear hs hun hoi;exact z40
  | cons l0 ls=>
   simp only[zabu,zadH,if_true];have hl1:=zP9 { t with loaded:=1,walk:=wk } x (l0::ls) [zaw { zb9 { t with loaded:=0 } 10 with l:=(u0::us).map idG }] (by simp only[zabu] at *; omega) ⟨[],0⟩ ⟨by simp,by simp⟩;clear hov;have hd:=zcr (t:={ t with loaded:=1,walk:=wk }) hs hoi;generalize za5 { t with loaded:=1,walk:=wk } ({ z8 t.sec with shards:=[x],order:=[0] })=t2 at *;have sz_t2:=zQ t2;generalize zf t2=D_t2 at *;clear hs hun hoi;exact z40
theorem zLT(k:Int):zi G 150 [.d (.int .i64 k)] []=some (.d (.int .i64 (ziG k)),[]):=by
 unfold ziG;exact zW
theorem zQA{t:Task}(hk:t.sec.shards.length=1)(hb:za4 t.sec.shards[0]):zi G 153 [.d (zf t)] []=some (.d (.tup [zk (zdo t).1,.int .i64 (zdo t).2]),[]):=by
 unfold zdo;rw[zc6 hk]
 by_cases c1:t.inv.kind=3
 ·rw[zabo c1];have h:=zRG t.sec.shards[0] t.handle t.sec.snap.clock t.sec.snap.epoch hb;generalize zcS t.sec.shards[0] t.handle t.sec.snap.clock t.sec.snap.epoch=x at *;obtain⟨x1,x2⟩:=x;replace c1:=zabA c1;simp only at *;have sz_x1:=zbm x1;generalize zk x1=D_x1 at *;simp only[zf,zat] at *;exact zW
 rw[zabn c1]
 by_cases c2:t.inv.kind=4
 ·rw[zabo c2];have h:=zZU t.sec.shards[0] t.handle t.sec.snap.clock t.sec.snap.epoch t.setup.limit hb;generalize zcK t.sec.shards[0] t.handle t.sec.snap.clock t.sec.snap.epoch t.setup.limit=x at *;obtain⟨x1,x2⟩:=x;replace c1:=zabt c1;replace c2:=zabA c2;simp only at *;have sz_x1:=zbm x1;generalize zk x1=D_x1 at *;simp only[zf,zat] at *;exact zW
 ·rw[zabn c2];have h:=zSS t.sec.shards[0] t.handle t.sec.snap.clock t.sec.snap.epoch t.inv.visibility hb;generalize ze1 t.sec.shards[0] t.handle t.sec.snap.clock t.sec.snap.epoch t.inv.visibility=x at *;obtain⟨x1,x2⟩:=x;replace c1:=zabt c1;replace c2:=zabt c2;simp only at *;have sz_x1:=zbm x1;generalize zk x1=D_x1 at *;simp only[zf,zat] at *;exact zW
theorem zRh{i:zaeE}{u:Setup}(h:zbM i u=0)(hk:i.kind=2\/i.kind=5):0<=i.visibility/\i.visibility<=1000:=by
 unfold zbM inI at h;rw[zabn zo] at h
 rcases hk with hk|hk
 ·rw[zabo (.inl hk)] at h
  split at h
  ·cases h
  ·rename_i c;have c2:=fun q=>c (.inr (.inr ⟨hk,q⟩));simp only[decide_eq_false_iff_not] at c2;exact zabG.1 c2
 ·rw[zabn zo,zabo zo] at h
  split at h
  ·cases h
  ·split at h
   ·cases h
   ·rename_i _ c;have c2:=fun q=>c ⟨hk,q⟩;simp only[decide_eq_false_iff_not] at c2;exact zabG.1 c2
theorem z82{u:Setup}{N:Int}{t:Task}(hs:SI u N t.sec)(hk:t.sec.shards.length=1)(hiv:zbM t.inv u=0):zi G 151 [.d (zf t)] []=some (.d (.tup [zf (zdn t).1,.sl ((zdn t).2.map zaw)]),[]):=by
 have hb:za4 t.sec.shards[0]:=zc6 hk ▸ znz hs;have hu:=zhn t.sec;have ho:=zsV t.sec.shards[0] t.handle.route hb;have hst:=zQA hk hb;have hl12:(zdo t).2=0->zaK (zdo t).1:=fun q=>zLV q;have hki:=zLT t.inv.kind;have hsn:=zla t (ziG t.inv.kind);have hvs:=zRh (i:=t.inv) hiv;have hcl:=hs.sn.2;unfold zdn;simp only;rw[zc6 hk]
 by_cases c0:zen t.sec.shards[0] t.handle.route=false
 ·rw[zabo c0];rw[c0] at ho;have hd:=zcr (t:=t) hs hs.un;generalize za5 t (z8 t.sec)=t2 at *;have sz_t2:=zQ t2;generalize zf t2=D_t2 at *;clear hs hl12 hb c0 hst hki hsn hiv hvs hcl;simp only[zf,zA,zU,z8,zabq,zC] at *;exact zW
 rw[zabn c0];replace c0:zen t.sec.shards[0] t.handle.route=true:=by simpa using c0
 rw[c0] at ho;generalize ziG t.inv.kind=ek at *;generalize zdo t=x at *;obtain⟨x1,x2⟩:=x;simp only at *
 by_cases c1:x2=0
 ·subst c1;have hl:=hl12 rfl;simp only[zacB,if_true];have hd:=zcr (t:=t) hs (hs.one hk hl);generalize za5 t { z8 t.sec with shards:=[x1],order:=[0] }=t2 at *;have sz_t2:=zQ t2;generalize zf t2=D_t2 at *
  by_cases c2:t.inv.kind=5
  ·rw[zabo c2];have hv:=hvs (.inr c2);replace c2:=zabA c2;clear hs hl12 hb c0 hiv hvs hl;simp only[zf,zA,zU,z8,zb9,zev,zaw,zbw,zbt,zabq,zabs,zC] at *;exact zW
  ·rw[zabn c2];replace c2:=zabt c2;clear hs hl12 hb c0 hiv hvs hl;simp only[zf,zA,zU,z8,zb9,zev,zaw,zbw,zbt,zabq,zabs,zC] at *;exact zW
 ·rw[zabn c1,zabn (fun q=>c1 q.1)];have hd:=zcr (t:=t) hs hs.un;generalize za5 t (z8 t.sec)=t2 at *;have sz_t2:=zQ t2;generalize zf t2=D_t2 at *;clear hs hl12 hb c0 hiv hvs;simp only[zf,zA,zU,z8,zb9,zev,zaw,zbw,zbt,zabq,zabs,zC] at *;exact zW
theorem z85(a:zy)(t:Task)(n:Int)(h:zan t 3 5≠0):zi G 114 [.d (zx a),.d (zf t),.d (.int .i64 n)] []=some (.d (.tup [zx zM,zf zE,.sl [],.int .i64 (zan t 3 5)]),[]):=by
 have hg:=zeP t 3 5;have hf:=zcY (zan t 3 5);generalize zan t 3 5=ge at *;have sz_zTask:=zQ zE;generalize zf zE=D_zTask at *;have sz_t:=zQ t;generalize zf t=D_t at *;have sz_zArena:=zby zM;generalize zx zM=D_zArena at *;exact zW
theorem z87{K:Tok}(hK:zgF K){u:Setup}{a:zy}{t:Task}{n N:Int}(hu:za3 u=true)(ha:AI u a)(ht:TI u N t)(hN:N<=999999)(hb:∀b∈t.inv.tokens,b.length<=4294967296):zi G 114 [.d (zx a),.d (zf t),.d (.int .i64 n)] []=some (.d (.tup [zx (zdS K a t n).1,zf (zdS K a t n).2.1,.sl ((zdS K a t n).2.2.1.map zaw),.int .i64 (zdS K a t n).2.2.2]),[]):=by
 unfold zdS
 by_cases c0:zan t 3 5=0
 rotate_left
 ·rw[zabo c0];exact z85 a t n c0
 rw[zabn (fun q=>q c0)];have hg:=zeP t 3 5;rw[c0] at hg;obtain⟨g1,g2⟩:=zeQ c0;have hen:=zij ht g1;have he1:=ht.e1 g1;have he0:=ht.e0;unfold zcX at he1;rw[zabn zo,zabo g2] at he1;clear g1
 by_cases c1:t.pc=0
 ·rw[zabo c1];have hi:t.entry.toNat<t.inv.tokens.length:=by omega
  rw[zh hi];have hp:=hK.pa (t.inv.tokens[t.entry.toNat]) (hb _ (zabC hi));have hz1:(zaA (t.inv.tokens[t.entry.toNat])).size=1:=rfl;have hz2:(zaA (t.inv.tokens[t.entry.toNat])).isT=false:=rfl;have hz3:(zaA (t.inv.tokens[t.entry.toNat])).cells=[zaA (t.inv.tokens[t.entry.toNat])]:=rfl;have hki:=zLT t.inv.kind;have hsu:t.setup.slots=u.slots:=by rw[ht.su]
  have hub:=(zny hu).1;generalize ziG t.inv.kind=ek at *;simp only;generalize K.par t.inv.tokens[t.entry.toNat]=h at *;obtain⟨h,e⟩:=h;simp only at *
  by_cases c2:e=0
  ·subst c2;simp only[ne_eq,zabD,if_false]
   by_cases c3:h.hint<t.setup.slots
   ·rw[zabo c3];have hse:=znw { t with handle:=h,pc:=1 } [h.hint] 2 (by simp);generalize zb8 { t with handle:=h,pc:=1 } [h.hint] 2=t2 at *;have sz_t2:=zQ t2;generalize zf t2=D_t2 at *;replace c1:=zabA c1;clear ht ha hu hb hsu;simp only[zf,zat,zC,zabs,zabq] at *;exact zW
   ·rw[zabn c3];replace c1:=zabA c1;clear ht ha hu hb hsu;simp only[zf,zat] at *;exact zW
  ·rw[zabo c2];have hev:=zrn t ek n;have hnx:=zeU t (zaO 5) n hen.1 hen.2;generalize zba t (zaO 5) n=t2 at *;have sz_t2:=zQ t2;generalize zf t2=D_t2 at *;replace c1:=zabA c1;clear ht ha hu hb hsu;simp only[zf,zat,zaw,evT,zbw,zaO,z7,zac,zabs,zabq] at *;exact zW
 rw[zabn c1]
 by_cases c2:t.pc=1
 ·rw[zabo c2];have hlk:=zBb a t t.handle.route 2 (by have:=zfN ha.dv;omega);generalize zg4 a t t.handle.route 2=t2 at *;have sz_t2:=zQ t2;generalize zf t2=D_t2 at *;replace c2:=zabA c2;replace c1:=zabt c1;clear ht ha hu;simp only[zf] at *;exact zW
 rw[zabn c2];have k4:=ht.se ⟨c1,by omega⟩;have hgo:=zmr a t n (znv hu ha k4.si zo);have hgk:=zms (n:=n) ha k4.si k4.ed;simp only;generalize goT a t n=g at *;obtain⟨a2,t2,b1,b2,e⟩:=g;simp only at *
 by_cases c4:e=0
 rotate_left
 ·rw[zabo c4];have hf:=zcY e;unfold zbv;clear hgk ht ha hu k4;replace c2:=zabt c2;replace c1:=zabt c1;have sz_zTask:=zQ zE;generalize zf zE=D_zTask at *;have sz_zArena:=zby zM;generalize zx zM=D_zArena at *;have sz_t2:=zQ t2;generalize zf t2=D_t2 at *;have sz_a2:=zby a2;generalize zx a2=D_a2 at *;simp only[zf] at *;exact zW
 subst c4;simp only[ne_eq,zabD,if_false];obtain⟨h1,s,h2,hSI,hKe,ho,h4,h9⟩:=hgk rfl;have h3:zbd u (N+1) t.inv s:=k4.keep hSI hKe (by rw[ho];exact k4.ed);have hen2:t2.entry=t.entry/\t2.results=t.results/\t2.inv=t.inv/\t2.sec=s:=by rw[h2];exact⟨rfl,rfl,rfl,rfl⟩
 obtain⟨q1,q2,q3,q4⟩:=hen2
 cases b1
 rotate_left
 ·simp only[if_true];have hp:s.phase=4\/s.phase=9:= .inl (h4.1 rfl);have hk:t2.sec.shards.length=1:=by rw[q4];exact (zgx h3 ht.iv hp).1 zo
  have hd:=z82 (t:=t2) (by rw[q4];exact h3.si) hk (by rw[q3];exact ht.iv);generalize zdn t2=r at *;obtain⟨t3,l⟩:=r;clear ht ha hu k4 h1 h2 h3 h4 h9 ho hSI hKe q1 q2 q3 q4 hp hk hb;replace c2:=zabt c2;replace c1:=zabt c1;simp only at *;have sz_t2:=zQ t2;generalize zf t2=D_t2 at *;have sz_t3:=zQ t3;generalize zf t3=D_t3 at *;simp only[zf] at *;exact zW
 ·simp only[zabz,if_false]
  cases b2
  ·simp only[if_true];clear ht ha hu k4 h1 h2 h3 h4 h9 ho hSI hKe q1 q2 q3 q4 hb;replace c2:=zabt c2;replace c1:=zabt c1;have sz_t2:=zQ t2;generalize zf t2=D_t2 at *;simp only[zf] at *;exact zW
  ·simp only[zacf,if_false];have hp:s.phase=4\/s.phase=9:= .inr (h9.1 rfl);have hk:t2.sec.shards.length=1:=by rw[q4];exact (zgx h3 ht.iv hp).1 zo
   have hbg:za4 t2.sec.shards[0]:=zc6 hk ▸ znz (u:=u) (N:=N+1) (by rw[q4];exact h3.si);have how:=zsV t2.sec.shards[0] t2.handle.route hbg;have hse:=zQA hk hbg;rw[zc6 hk];have hnx:=zeU t2 { zac with err:=(zdo t2).2,id:=if (zdo t2).2=0 then t2.handle.id else 0 } n (by rw[q1];exact hen.1) (by rw[q2];exact hen.2);clear ht ha hu k4 h1 h2 h3 h4 h9 ho hSI hKe q1 q2 q3 q4 hp hb hbg;replace c2:=zabt c2;replace c1:=zabt c1
   by_cases c5:zen t2.sec.shards[0] t2.handle.route=false
   ·rw[zabo c5];rw[c5] at how;clear hnx hse c5;simp only[zf] at *;exact zW
   ·rw[zabn c5];replace c5:zen t2.sec.shards[0] t2.handle.route=true:=by simpa using c5
    rw[c5] at how;clear c5;generalize zdo t2=x at *;obtain⟨x1,x2⟩:=x;simp only at *;have sz_x1:=zbm x1;generalize zk x1=D_x1 at *
    by_cases c6:x2=0
    ·subst c6;simp only[if_true] at *;generalize zba t2 { zac with err:=0,id:=t2.handle.id } n=t3 at *;have sz_t3:=zQ t3;generalize zf t3=D_t3 at *;simp only[zf,z7,zac,zabq] at *;exact zW
    ·rw[zabn c6] at hnx ⊢;generalize zba t2 { zac with err:=x2,id:=0 } n=t3 at *;have sz_t3:=zQ t3;generalize zf t3=D_t3 at *;simp only[zf,z7,zac,zabq] at *;exact zW
theorem z60(a:zy)(t:Task)(n:Int)(h:zan t 2 2≠0):zi G 113 [.d (zx a),.d (zf t),.d (.int .i64 n)] []=some (.d (.tup [zx zM,zf zE,.sl [],.int .i64 (zan t 2 2)]),[]):=by
 have hg:=zeP t 2 2;have hf:=zcY (zan t 2 2);generalize zan t 2 2=ge at *;have sz_zTask:=zQ zE;generalize zf zE=D_zTask at *;have sz_t:=zQ t;generalize zf t=D_t at *;have sz_zArena:=zby zM;generalize zx zM=D_zArena at *;exact zW
theorem z62{K:Tok}(hK:zgF K){u:Setup}{a:zy}{t:Task}{n N:Int}(hu:za3 u=true)(ha:AI u a)(ht:TI u N t)(hN:N<=999999):zi G 113 [.d (zx a),.d (zf t),.d (.int .i64 n)] []=some (.d (.tup [zx (zdN K a t n).1,zf (zdN K a t n).2.1,.sl ((zdN K a t n).2.2.1.map zaw),.int .i64 (zdN K a t n).2.2.2]),[]):=by
 unfold zdN
 by_cases c0:zan t 2 2=0
 rotate_left
 ·rw[zabo c0];exact z60 a t n c0
 rw[zabn (fun q=>q c0)];have hg:=zeP t 2 2;rw[c0] at hg;obtain⟨g1,g2⟩:=zeQ c0;have hen:=zij ht g1;clear g1
 by_cases c1:t.pc=0
 ·rw[zabo c1];have hdl:=zfN ha.dv;have hld:=zsL a;have hho:=zLF a.dir t.inv.home zo;have hspn:=z6K a.dir (zcZ a.dir t.inv.home) zo;generalize zcZ a.dir t.inv.home=k at *;generalize zld a.dir k=sp at *;obtain⟨sp,sb⟩:=sp;have hwb:=zRj sp.low;simp only at *;generalize zgB sp.low=wb at *;obtain⟨wb,we⟩:=wb;simp only at *;have hse:=znw { t with dir:=a.dir,slot:=k,walk:=wb } [k] 1 (by simp);generalize zb8 { t with dir:=a.dir,slot:=k,walk:=wb } [k] 1=t2 at *;have sz_t2:=zQ t2;generalize zf t2=D_t2 at *;replace c1:=zabA c1;clear ht ha hu;simp only[zf,zaT,zca,zbW,zC,zabs,zabq] at *;exact zW
 rw[zabn c1]
 by_cases c2:t.pc=2
 ·rw[zabo c2];have hlk:=zBb a t t.walk.next 1 (by have:=zfN ha.dv;omega);generalize zg4 a t t.walk.next 1=t2 at *;have sz_t2:=zQ t2;generalize zf t2=D_t2 at *;replace c2:=zabA c2;replace c1:=zabt c1;clear ht ha hu;simp only[zf] at *;exact zW
 rw[zabn c2];have k4:=ht.se ⟨c1,by omega⟩;have hgo:=zmr a t n (znv hu ha k4.si zo);have hgk:=zms (n:=n) ha k4.si k4.ed;simp only;generalize goT a t n=g at *;obtain⟨a2,t2,b1,b2,e⟩:=g;simp only at *;replace c1:=zabt c1;replace c2:=zabt c2
 by_cases c4:e=0
 rotate_left
 ·rw[zabo c4];have hf:=zcY e;unfold zbv;clear hgk ht ha hu k4;have sz_zTask:=zQ zE;generalize zf zE=D_zTask at *;have sz_zArena:=zby zM;generalize zx zM=D_zArena at *;have sz_t2:=zQ t2;generalize zf t2=D_t2 at *;have sz_a2:=zby a2;generalize zx a2=D_a2 at *;simp only[zf] at *;exact zW
 subst c4;simp only[ne_eq,zabD,if_false];obtain⟨h1,s,h2,hSI,hKe,ho,h4,h9⟩:=hgk rfl;clear hgk;have h3:zbd u (N+1) t.inv s:=k4.keep hSI hKe (by rw[ho];exact k4.ed);have hen2:t2.entry=t.entry/\t2.results=t.results/\t2.inv=t.inv/\t2.sec=s:=by rw[h2];exact⟨rfl,rfl,rfl,rfl⟩
 obtain⟨q1,q2,q3,q4⟩:=hen2
 cases b1
 rotate_left
 ·simp only[if_true];have hk:t2.sec.shards.length=1:=by rw[q4];exact (zgx h3 ht.iv (.inl (h4.1 rfl))).1 zo
  have hd:=z6X (t:=t2) (by rw[q4];exact h3.si) hk (by rw[q3];exact zRh ht.iv (.inl zo));generalize zdj t2=r at *;obtain⟨t3,l⟩:=r;clear ht ha hu k4 h1 h2 h3 h4 h9 ho hSI hKe q1 q2 q3 q4 hk;simp only at *;have sz_t2:=zQ t2;generalize zf t2=D_t2 at *;have sz_t3:=zQ t3;generalize zf t3=D_t3 at *;simp only[zf] at *;exact zW
 ·simp only[zabz,if_false]
  cases b2
  ·simp only[if_true];clear ht ha hu k4 h1 h2 h3 h4 h9 ho hSI hKe q1 q2 q3 q4;have sz_t2:=zQ t2;generalize zf t2=D_t2 at *;simp only[zf] at *;exact zW
  ·simp only[zacf,if_false];have hk:t2.sec.shards.length=1:=by rw[q4];exact (zgx h3 ht.iv (.inr (h9.1 rfl))).1 zo
   have hbg:za4 t2.sec.shards[0]:=zc6 hk ▸ znz (u:=u) (N:=N+1) (by rw[q4];exact h3.si);have hrs:=z7G hK hk hbg;have hn1:=zeU t2 (zaO 6) n (by rw[q1];exact hen.1) (by rw[q2];exact hen.2);have hn2:=zeU t2 zac n (by rw[q1];exact hen.1) (by rw[q2];exact hen.2);have hn3:=zeU t2 (zib K t2) n (by rw[q1];exact hen.1) (by rw[q2];exact hen.2);generalize zib K t2=rr at *;clear ht ha hu k4 h1 h2 h3 h4 h9 ho hSI hKe q1 q2 q3 q4 hbg hk
   by_cases d3:t2.loaded=3
   ·rw[zabo d3];clear hn2 hn3 hrs;generalize zba t2 (zaO 6) n=t3 at *;have sz_t3:=zQ t3;generalize zf t3=D_t3 at *;replace d3:=zabA d3;simp only[zf,z7,zaO,zac,zabq] at *;exact zW
   rw[zabn d3];replace d3:=zabt d3
   by_cases d2:t2.loaded=2
   ·rw[zabo d2];clear hn1 hn3 hrs;generalize zba t2 zac n=t3 at *;have sz_t3:=zQ t3;generalize zf t3=D_t3 at *;replace d2:=zabA d2;simp only[zf,z7,zac,zabq] at *;exact zW
   rw[zabn d2];replace d2:=zabt d2
   by_cases d1:t2.loaded=1
   ·rw[zabo d1];clear hn1 hn2;generalize zba t2 rr n=t3 at *;have sz_t3:=zQ t3;generalize zf t3=D_t3 at *;have sz_rr:=zl9 rr;generalize z7 rr=D_rr at *;replace d1:=zabA d1;simp only[zf] at *;exact zW
   ·rw[zabn d1];clear hn1 hn2 hn3 hrs;replace d1:=zabt d1;simp only[zf] at *;exact zW
theorem z65{u:Setup}{N:Int}{t:Task}(hs:SI u N t.sec)(hk:t.sec.shards.length=1)(hn:t.sec.lock.cells.length=2):zi G 158 [.d (zf t)] []=some (.d (.tup [zf (zdk t).1,.sl ((zdk t).2.map zaw)]),[]):=by
 have hv:=(hs.sv _ (zabC (show 0<t.sec.shards.length by omega))).1;have hb:za4 t.sec.shards[0]:=zfH (zbT hv);have hu:=zhn t.sec;have hrm:=zQs hk hv;have hsn:=zla t 9;have hdv:=hs.dv;have hl12:=zbT hv;have hun:=hs.un;unfold zdk;simp only;rw[zc6 hk]
 by_cases c0:t.sec.shards[0].live=false
 ·rw[zabo c0];have hd:=zcr (t:=t) hs hun;generalize za5 t (z8 t.sec)=t2 at *;have sz_t2:=zQ t2;generalize zf t2=D_t2 at *;clear hs hb hrm hsn hv hl12 hun hn;simp only[zf,zA,zU,z8,zabq,zC] at *;exact zW
 rw[zabn c0];replace c0:t.sec.shards[0].live=true:=by simpa using c0
 by_cases c1:zf9 t=0
 ·rw[zabo c1];rw[c1] at hrm;have hd:=zcr (t:=t) hs hun;generalize za5 t (z8 t.sec)=t2 at *;have sz_t2:=zQ t2;generalize zf t2=D_t2 at *;clear hs hb hv hl12 hun hn c1;simp only[zf,zA,zU,z8,zev,zb9,zaw,zbw,zabq,zabs,zC] at *;exact zW
 rw[zabn c1];have htk:=z94 t.sec.dead (zf9 t) t.sec.snap.epoch zo;have htl:=zQW t.sec.dead (zf9 t) t.sec.snap.epoch;generalize zf9 t=rm at *;generalize zhm t.sec.dead rm t.sec.snap.epoch=d at *;obtain⟨d1,l,d3⟩:=d;simp only at *
 by_cases c2:l.length=0
 ·rw[zabo c2];have e0:l=[]:=zacc.1 c2;subst e0;have hd:=zcr (t:=t) hs hun;generalize za5 t (z8 t.sec)=t2 at *;have sz_t2:=zQ t2;generalize zf t2=D_t2 at *;clear hs hb hv hl12 hun hn htl;simp only[zf,zA,zU,zT,z8,zev,zb9,zaw,zbw,zabq,zabs,zC] at *;exact zW
 ·rw[zabn c2];have hlp:=z6U t t.sec.shards[0] d1 l zo ⟨[],0⟩ ⟨by simp,by simp⟩;have hab:=zDq t.sec.shards[0] (l.map zbB) hb (by rw[zabE];omega);have hla:=zAy hl12 (l.map zbB);have hoi:OI t.sec { z8 t.sec with carry:=l.map zbB,shards:=[(zgc t.sec.shards[0] (l.map zbB)).1],dead:=d1,order:=[1,0] }:=by
   have q:=hs.dead hk hn hla (d:=d1) zo (ord:=[1,0]) (.inr rfl) (ca:=l.map zbB) (by rw[zabE];omega);exact q
  have hd:=zcr (t:=t) hs hoi;clear hoi hla;generalize zgc t.sec.shards[0] (l.map zbB)=y at *;obtain⟨y1,y2⟩:=y;simp only at *;have eg:(l.map fun m=>(⟨m.id,m.gen,(zb7 (zbB m) t.sec.shards[0].low t.sec.shards[0].high).route,0⟩:Grant))=l.map (rdG t.sec.shards[0]):=rfl;rw[eg];clear eg;generalize za5 t { z8 t.sec with carry:=l.map zbB,shards:=[y1],dead:=d1,order:=[1,0] }=t2 at *;have sz_t2:=zQ t2;generalize zf t2=D_t2 at *;clear hs hb hv hl12 hun hn
  cases l with
  | nil=>exact absurd rfl c2
  | cons l0 ls=>
   clear c2;simp only[zjd,znj,accC,zam,evA,tkZ,zf,zA,zU,zT,z8,zev,zb9,zaw,zbw,zabZ,zabJ,zabL,zabN,zabu,zabE,zabq,zabs,zC,zabQ] at *;exact zW
theorem z68(a:zy)(t:Task)(n:Int)(h:zan t 8 8≠0):zi G 117 [.d (zx a),.d (zf t),.d (.int .i64 n)] []=some (.d (.tup [zx zM,zf zE,.sl [],.int .i64 (zan t 8 8)]),[]):=by
 have hg:=zeP t 8 8;have hf:=zcY (zan t 8 8);generalize zan t 8 8=ge at *;have sz_zTask:=zQ zE;generalize zf zE=D_zTask at *;have sz_t:=zQ t;generalize zf t=D_t at *;have sz_zArena:=zby zM;generalize zx zM=D_zArena at *;exact zW
theorem z7a{u:Setup}{a:zy}{t:Task}{n N:Int}(hu:za3 u=true)(ha:AI u a)(ht:TI u N t)(hN:N<=999999):zi G 117 [.d (zx a),.d (zf t),.d (.int .i64 n)] []=some (.d (.tup [zx (zdO a t n).1,zf (zdO a t n).2.1,.sl ((zdO a t n).2.2.1.map zaw),.int .i64 (zdO a t n).2.2.2]),[]):=by
 unfold zdO
 by_cases c0:zan t 8 8=0
 rotate_left
 ·rw[zabo c0];exact z68 a t n c0
 rw[zabn (fun q=>q c0)];have hg:=zeP t 8 8;rw[c0] at hg;obtain⟨g1,g2⟩:=zeQ c0;have hen:=zij ht g1;clear g1
 by_cases c1:t.pc=0
 ·rw[zabo c1];have hdl:=zfN ha.dv;have hld:=zsL a;have hho:=zLF a.dir t.inv.home zo;generalize zcZ a.dir t.inv.home=k at *;have hse:=znw { t with dir:=a.dir,slot:=k } [k,t.setup.slots] 1 (by simp);generalize zb8 { t with dir:=a.dir,slot:=k } [k,t.setup.slots] 1=t2 at *;have sz_t2:=zQ t2;generalize zf t2=D_t2 at *;replace c1:=zabA c1;clear ht ha hu;simp only[zf,zaT,zC,zabs,zabq] at *;exact zW
 rw[zabn c1];have k4:=ht.se ⟨c1,by omega⟩;have hgo:=zmr a t n (znv hu ha k4.si zo);have hgk:=zms (n:=n) ha k4.si k4.ed;simp only;generalize goT a t n=g at *;obtain⟨a2,t2,b1,b2,e⟩:=g;simp only at *;replace c1:=zabt c1
 by_cases c4:e=0
 rotate_left
 ·rw[zabo c4];have hf:=zcY e;unfold zbv;clear hgk ht ha hu k4;have sz_zTask:=zQ zE;generalize zf zE=D_zTask at *;have sz_zArena:=zby zM;generalize zx zM=D_zArena at *;have sz_t2:=zQ t2;generalize zf t2=D_t2 at *;have sz_a2:=zby a2;generalize zx a2=D_a2 at *;simp only[zf] at *;exact zW
 subst c4;simp only[ne_eq,zabD,if_false];obtain⟨h1,s,h2,hSI,hKe,ho,h4,h9⟩:=hgk rfl;have h3:zbd u (N+1) t.inv s:=k4.keep hSI hKe (by rw[ho];exact k4.ed);have hen2:t2.entry=t.entry/\t2.results=t.results/\t2.inv=t.inv/\t2.sec=s:=by rw[h2];exact⟨rfl,rfl,rfl,rfl⟩
 obtain⟨q1,q2,q3,q4⟩:=hen2
 cases b1
 rotate_left
 ·simp only[if_true];have hk:t2.sec.shards.length=1:=by rw[q4];exact (zgx h3 ht.iv (.inl (h4.1 rfl))).2.1 zo
  have hn:t2.sec.lock.cells.length=2:=by
   rw[q4];obtain⟨c,_,_,e⟩:=h3.c8 zo;rw[e];rfl
  have hd:=z65 (t:=t2) (by rw[q4];exact h3.si) hk hn;generalize zdk t2=r at *;obtain⟨t3,l⟩:=r;clear ht ha hu k4 h1 h2 h3 h4 h9 ho hSI hKe q1 q2 q3 q4 hk hn;simp only at *;have sz_t2:=zQ t2;generalize zf t2=D_t2 at *;have sz_t3:=zQ t3;generalize zf t3=D_t3 at *;simp only[zf] at *;exact zW
 ·simp only[zabz,if_false]
  cases b2
  ·simp only[if_true];clear ht ha hu k4 h1 h2 h3 h4 h9 ho hSI hKe q1 q2 q3 q4;have sz_t2:=zQ t2;generalize zf t2=D_t2 at *;simp only[zf] at *;exact zW
  ·simp only[zacf,if_false];have hk:t2.sec.shards.length=1:=by rw[q4];exact (zgx h3 ht.iv (.inr (h9.1 rfl))).2.1 zo
   have hv:zY t2.sec.shards[0]=0:=by
    have hs:SI u (N+1) t2.sec:=by rw[q4];exact h3.si
    exact (hs.sv _ (zabC (show 0<t2.sec.shards.length by omega))).1
   have hrm:=zQs hk hv;have hoc:t2.sec.out.carry.length<=1000:=by rw[q4];exact h3.si.oc.1
   rw[zc6 hk]
   by_cases c5:t2.sec.shards[0].live=false
   ·rw[zabo c5];clear ht ha hu k4 h1 h2 h3 h4 h9 ho hSI hKe q1 q2 q3 q4 hv hrm;simp only[zf] at *;exact zW
   ·rw[zabn c5];replace c5:t2.sec.shards[0].live=true:=by simpa using c5
    generalize zf9 t2=rm at *;have hnx:=zeU t2 { zac with moved:=t2.sec.out.carry.length,err:=if rm=0 then 3 else 0 } n (by rw[q1];exact hen.1) (by rw[q2];exact hen.2);clear ht ha hu k4 h1 h2 h3 h4 h9 ho hSI hKe q1 q2 q3 q4 hv
    by_cases c6:rm=0
    ·subst c6;simp only[if_true] at *;generalize zba t2 { zac with moved:=t2.sec.out.carry.length,err:=3 } n=t3 at *;have sz_t3:=zQ t3;generalize zf t3=D_t3 at *;simp only[zf,z7,zac,zabq] at *;exact zW
    ·rw[zabn c6] at hnx ⊢;generalize zba t2 { zac with moved:=t2.sec.out.carry.length,err:=0 } n=t3 at *;have sz_t3:=zQ t3;generalize zf t3=D_t3 at *;simp only[zf,z7,zac,zabq] at *;exact zW
theorem zTk(a:zy)(t:Task)(n:Int)(h:zan t 7 7≠0):zi G 116 [.d (zx a),.d (zf t),.d (.int .i64 n)] []=some (.d (.tup [zx zM,zf zE,.sl [],.int .i64 (zan t 7 7)]),[]):=by
 have hg:=zeP t 7 7;have hf:=zcY (zan t 7 7);generalize zan t 7 7=ge at *;have sz_zTask:=zQ zE;generalize zf zE=D_zTask at *;have sz_t:=zQ t;generalize zf t=D_t at *;have sz_zArena:=zby zM;generalize zx zM=D_zArena at *;exact zW
theorem z6y(l:List zaeF):(!l.any zh3)=zs0 l:=by
 unfold zs0
 induction l with
 | nil=>rfl
 | cons x l ih=>rw[zac4,zacn,Bool.not_or,ih]
theorem zTm{u:Setup}{a:zy}{t:Task}{n N:Int}(hu:za3 u=true)(ha:AI u a)(ht:TI u N t):zi G 116 [.d (zx a),.d (zf t),.d (.int .i64 n)] []=some (.d (.tup [zx (zdy a t n).1,zf (zdy a t n).2.1,.sl ((zdy a t n).2.2.1.map zaw),.int .i64 (zdy a t n).2.2.2]),[]):=by
 unfold zdy
 by_cases c0:zan t 7 7=0
 rotate_left
 ·rw[zabo c0];exact zTk a t n c0
 rw[zabn (fun q=>q c0)];have hg:=zeP t 7 7;rw[c0] at hg;obtain⟨g1,g2⟩:=zeQ c0;have hen:=zij ht g1;clear g1;have hb:=zny hu;have hsl:=ha.sl;have hst:=ha.st;have hfs:=ht.fs;have hsu:t.setup.slots=u.slots:=by rw[ht.su]
 have hw:=zku a 1;simp only[zgn,if_true] at hw
 by_cases c1:t.pc=0
 ·rw[zabo c1];replace c1:=zabA c1;clear ht ha hu hsu;simp only[zf,zabq] at *;exact zW
 rw[zabn c1]
 by_cases c2:t.pc=1
 ·rw[zabo c2];have hl:=zA4 a t.first.length zo hst;simp only;generalize zed a t.first.length=r at *;obtain⟨x,e⟩:=r;simp only at *
  by_cases c3:e=0
  ·subst c3;simp only[ne_eq,zabD,if_false];have hq:=z6x (t.first++[x]) (by simp only[zabv,zab3];omega);rw[z6y] at hq;generalize zs0 (t.first++[x])=q at *;replace c1:=zabt c1;replace c2:=zabA c2
   by_cases c4:((t.first++[x]).length:Int)=t.setup.slots
   ·simp only[c4,if_true];have c5:((t.first.length:Int)+1=t.setup.slots)=True:=zabA (by simpa using c4);clear ht ha hu hsu c4
    cases q
    ·simp only[zabz,if_false,zf,zabF,zabs,zabq] at *;exact zW
    ·simp only[if_true,zf,zabF,zabs,zabq] at *;exact zW
   ·simp only[c4,if_false];have c5:((t.first.length:Int)+1=t.setup.slots)=False:=zabt (by simpa using c4);clear ht ha hu hsu c4 hq;simp only[zf,zabF,zabs,zabq] at *;exact zW
  ·rw[zabo c3];have hf:=zcY e;clear ht ha hu hsu;replace c1:=zabt c1;replace c2:=zabA c2;have sz_zTask:=zQ zE;generalize zf zE=D_zTask at *;have sz_zArena:=zby zM;generalize zx zM=D_zArena at *;simp only[zf] at *;exact zW
 rw[zabn c2]
 by_cases c3:t.pc=2
 ·rw[zabo c3];have hl:=zA4 a t.second.length zo hst;simp only;generalize zed a t.second.length=r at *;obtain⟨x,e⟩:=r;simp only at *
  by_cases c4:e=0
  ·subst c4;simp only[ne_eq,zabD,if_false];have hq:=z8w t.first (t.second++[x]) zo (by simp only[zabv,zab3];omega);replace c1:=zabt c1;replace c2:=zabt c2;replace c3:=zabA c3;have d1:(t.second.length=0)=(((t.second.length:Int)=0)):=propext zo;simp only[d1];clear d1
   by_cases c5:((t.second++[x]).length:Int)=t.setup.slots
   ·simp only[c5,if_true];have c6:((t.second.length:Int)+1=t.setup.slots)=True:=zabA (by simpa using c5);clear ht ha hu hsu c5
    by_cases c7:t.first=t.second++[x]
    ·rw[zabM c7] at hq;rw[zabo c7]
     by_cases c8:(t.second.length:Int)=0
     ·simp only[c8,if_true];replace c8:=zabA c8;clear c7;simp only[zf,zabF,zabs,zabq] at *;exact zW
     ·simp only[c8,if_false];replace c8:=zabt c8;clear c7;simp only[zf,zabF,zabs,zabq] at *;exact zW
    ·rw[zabP c7] at hq;simp only[c7,if_false]
     by_cases c8:(t.second.length:Int)=0
     ·simp only[c8,if_true];replace c8:=zabA c8;clear c7;simp only[zf,zabF,zabs,zabq] at *;exact zW
     ·simp only[c8,if_false];replace c8:=zabt c8;clear c7;simp only[zf,zabF,zabs,zabq] at *;exact zW
   ·simp only[c5,if_false];have c6:((t.second.length:Int)+1=t.setup.slots)=False:=zabt (by simpa using c5);clear ht ha hu hsu c5 hq
    by_cases c8:(t.second.length:Int)=0
    ·simp only[c8,if_true];replace c8:=zabA c8;simp only[zf,zabF,zabs,zabq] at *;exact zW
    ·simp only[c8,if_false];replace c8:=zabt c8;simp only[zf,zabF,zabs,zabq] at *;exact zW
  ·rw[zabo c4];have hf:=zcY e;clear ht ha hu hsu;replace c1:=zabt c1;replace c2:=zabt c2;replace c3:=zabA c3;have sz_zTask:=zQ zE;generalize zf zE=D_zTask at *;have sz_zArena:=zby zM;generalize zx zM=D_zArena at *;simp only[zf] at *;exact zW
 rw[zabn c3]
 by_cases c4:a.epoch=t.loaded
 ·rw[zabn (fun q=>q c4)];have hs:=z9V t.first a.epoch zo;have hev:=zrn t 8 t.id;simp only;generalize zdV t.first a.epoch t.first.length=p at *;obtain⟨p1,p2⟩:=p;simp only at *;have hnx:=zeU t { zac with ready:=p1,leased:=p2 } n hen.1 hen.2;generalize zba t { zac with ready:=p1,leased:=p2 } n=t2 at *;have sz_t2:=zQ t2;generalize zf t2=D_t2 at *;clear ht ha hu hsu;replace c1:=zabt c1;replace c2:=zabt c2;replace c3:=zabt c3;replace c4:=zabA c4;simp only[zf,zaw,evT,zbw,z7,zac,zabq,zabs] at *;exact zW
 ·rw[zabo c4];clear ht ha hu hsu;replace c1:=zabt c1;replace c2:=zabt c2;replace c3:=zabt c3;replace c4:=zabt c4;simp only[zf] at *;exact zW
theorem z5j(a:zy)(t:Task)(n:Int)(he:0<=t.entry/\t.entry<=1000)(hl:t.results.length<=1000)(hd:0<=t.loaded/\t.loaded<=1073741824):zi G 115 [.d (zx a),.d (zf t),.d (.int .i64 n)] []=some (.d (.tup [zx (zci a t n).1,zf (zci a t n).2.1,.sl ((zci a t n).2.2.1.map zaw),.int .i64 (zci a t n).2.2.2]),[]):=by
 have hg:=zeP t 6 6;have hf1:=zcY (zan t 6 6);have hv:=zrn t 7 n;have hw:=zku a 1;simp only[zgn,if_true] at hw;unfold zci;generalize zan t 6 6=ge at *
 by_cases c0:ge=0
 ·subst c0;simp only[ne_eq,zabD,if_false];clear hf1
  by_cases c1:t.pc=0
  ·rw[zabo c1];replace c1:=zabA c1
   by_cases c2:a.epoch=65536
   ·rw[zabo c2];have hn1:=zeU { t with loaded:=a.epoch } (zaO 6) n he hl;generalize zba { t with loaded:=a.epoch } (zaO 6) n=t2 at *;have sz_t2:=zQ t2;generalize zf t2=D_t2 at *;replace c2:=zabA c2;simp only[zf,zaO,z7,zac,evT,zbw,zabq,zabs,zaw] at *;exact zW
   ·rw[zabn c2];replace c2:=zabt c2;simp only[zf,evT,zbw,zabq,zaw] at *;exact zW
  ·rw[zabn c1];replace c1:=zabt c1;have hc:=zGD a 1 t.loaded (t.loaded+1);generalize casWord a 1 t.loaded (t.loaded+1)=c at *;obtain⟨c1,c2,c3⟩:=c
   by_cases c4:c3=0
   ·subst c4;simp only[ne_eq,zabD,if_false] at *
    cases c2
    ·simp only[if_true] at *;simp only[zf,evT,zbw,zabq,zaw] at *;exact zW
    ·simp only[zacf,if_false] at *;have hn1:=zeU t zac n he hl;generalize zba t zac n=t2 at *;have sz_t2:=zQ t2;generalize zf t2=D_t2 at *;simp only[zf,z7,zac,evT,zbw,zabq,zabs,zaw] at *;exact zW
   ·simp only at *;rw[zabo c4];have hf1:=zcY c3;have sz_zTask:=zQ zE;generalize zf zE=D_zTask at *;simp only[zf,evT,zbw,zabq,zaw] at *;exact zW
 ·rw[zabo c0];have sz_zTask:=zQ zE;generalize zf zE=D_zTask at *;simp only[zf,evT,zbw,zabq,zaw] at *;exact zW
theorem z5b{u:Setup}{N:Int}{t:Task}(hs:SI u N t.sec)(hk:t.sec.shards.length=1):zi G 166 [.d (zf t)] []=some (.d (.tup [zU (zdx t).1,z7 (zdx t).2.1,.sl ((zdx t).2.2.map zaw)]),[]):=by
 have hu:=zhn t.sec;have hv:=(hs.sv _ (zabC (show 0<t.sec.shards.length by omega))).1;have hb:za4 t.sec.shards[0]:=zfH (zbT hv);have hdd:=hs.dv;unfold zdx;simp only;rw[zc6 hk];clear hs hv
 by_cases c1:t.sec.shards[0].live=false
 ·rw[zabo c1];simp only[zf,zA,zU,z8,zaO,z7,zac,zabq,zC] at *;exact zW
 rw[zabn c1];replace c1:t.sec.shards[0].live=true:=by simpa using c1
 have hrm:=zQt t.sec.dead zo;have hbu:=zSw t.sec.shards[0] (zgu t.sec.dead) t.sec.snap.epoch t.setup.limit hb;have hbl:=zDO t.sec.shards[0] (zgu t.sec.dead) t.sec.snap.epoch t.setup.limit;generalize zgu t.sec.dead=rm at *;generalize zfI t.sec.shards[0] rm t.sec.snap.epoch t.setup.limit=x at *;obtain⟨x1,l,x3⟩:=x;simp only at *
 by_cases c2:l.length=0
 ·rw[zabo c2];have e0:l=[]:=zacc.1 c2;subst e0;simp only[zf,zA,zU,z8,zaO,z7,zac,zT,zabq,zC] at *;exact zW
 ·rw[zabn c2];have hpt:=z5t t.sec.dead l zo zo zo;generalize zi9 t.sec.dead l=d at *;obtain⟨d1,d2⟩:=d;simp only[zf,zA,zU,z8,zaO,z7,zac,zT,zabq,zabs,zC] at *;exact zW
def PF(F Fp:Nat)(lo hi:Int)(cl:Task->List Int):Prop:=(F=118/\Fp=161/\lo=9/\hi=9/\cl=zbG)\/(F=119/\Fp=163/\lo=10/\hi=10/\cl=zbG)\/(F=120/\Fp=164/\lo=11/\hi=11/\cl=zbG)\/(F=121/\Fp=165/\lo=12/\hi=13/\cl=fun t=>[t.inv.from_])\/(F=122/\Fp=166/\lo=14/\hi=14/\cl=fun t=>[t.inv.from_,t.setup.slots])
theorem pfl{F Fp:Nat}{lo hi:Int}{cl:Task->List Int}(hF:PF F Fp lo hi cl)(a:zy)(t:Task)(n:Int)(h:zan t lo hi≠0):zi G F [.d (zx a),.d (zf t),.d (.int .i64 n)] []=some (.d (.tup [zx zM,zf zE,.sl [],.int .i64 (zan t lo hi)]),[]):=by
 have hg:=zeP t lo hi;have hf:=zcY (zan t lo hi);generalize zan t lo hi=ge at *;replace h:=zabt h;have sz_zTask:=zQ zE;generalize zf zE=D_zTask at *;have sz_t:=zQ t;generalize zf t=D_t at *;have sz_zArena:=zby zM;generalize zx zM=D_zArena at *
 rcases hF with hF|hF|hF|hF|hF<;>obtain⟨rfl,rfl,rfl,rfl,rfl⟩:=hF
 ·exact zW
 ·exact zW
 ·exact zW
 ·exact zW
 ·exact zW
theorem pw {F Fp:Nat} {lo hi:Int} {cl:Task->List Int} (hF:PF F Fp lo hi cl) (a a2:zy) (t t1 t2:Task) (n e:Int) (b1 b2:Bool) (R:D) (hg:zi G 134 [.d (zf t),.d (.int .i64 lo),.d (.int .i64 hi)] []=some (.d (.int .i64 0),[]))
    (hse:t.pc=0->zi G 147 [.d (zf t),.d (.sl (zC (cl t))),.d (.int .i64 1)] []=some (.d (zf t1),[])) (hs0:¬t.pc=0->t1=t)
    (hgo:zi G 142 [.d (zx a),.d (zf t1),.d (.int .i64 n)] []=some (.d (.tup [zx a2,zf t2,.bool b1,.bool b2,.int .i64 e]),[]))
    (hR:(¬e=0/\R= .tup [zx zM,zf zE,.sl [],.int .i64 e])\/(e=0/\b1=true/\∃(o:zb1) (r:Result) (l:List D) (t3:Task),zi G Fp [.d (zf t2)] []=some (.d (.tup [zU o,z7 r,.sl l]),[])/\zi G 162 [.d (zf t2),.d (zU o)] []=some (.d (zf t3),[])/\R= .tup [zx a2,zf t3,.sl l,.int .i64 0])\/(e=0/\b1=false/\b2=false/\R= .tup [zx a2,zf t2,.sl [],.int .i64 0])
     \/ (e=0/\b1=false/\b2=true/\∃(o:zb1) (r:Result) (l:List D) (t3:Task),zi G Fp [.d (zf t2)] []=some (.d (.tup [zU o,z7 r,.sl l]),[])/\zi G 137 [.d (zf t2),.d (z7 r),.d (.int .i64 n)] []=some (.d (zf t3),[])/\R= .tup [zx a2,zf t3,.sl [],.int .i64 0])):zi G F [.d (zx a),.d (zf t),.d (.int .i64 n)] []=some (.d R,[]):=by
 have hpa:=z4L t.inv.from_ t.inv.to;have hf:=zcY e;have sz_zTask:=zQ zE;generalize zf zE=D_zTask at *;have sz_zArena:=zby zM;generalize zx zM=D_zArena at *;have sz_a2:=zby a2;generalize zx a2=D_a2 at *;have sz_t2:=zQ t2;generalize zf t2=D_t2 at *
 by_cases c1:t.pc=0
 ·replace hse:=hse c1;replace c1:=zabA c1;clear hs0;have sz_t1:=zQ t1;generalize zf t1=D_t1 at *
  rcases hR with ⟨c2,rfl⟩|⟨rfl,rfl,o,r,l,t3,hp,hd,rfl⟩|⟨rfl,rfl,rfl,rfl⟩|⟨rfl,rfl,rfl,o,r,l,t3,hp,hd,rfl⟩
  ·replace c2:=zabt c2
   rcases hF with hF|hF|hF|hF|hF<;>obtain⟨rfl,rfl,rfl,rfl,rfl⟩:=hF
   all_goals simp only[zf,zbG,zC,zabs,zabq] at *
   all_goals first|(exact zW)|(exact zW)|(exact zW)|(exact zW)|(exact zW)
  ·have sz_o:=zri o;generalize zU o=D_o at *;have sz_r:=zl9 r;generalize z7 r=D_r at *;have sz_t3:=zQ t3;generalize zf t3=D_t3 at *
   rcases hF with hF|hF|hF|hF|hF<;>obtain⟨rfl,rfl,rfl,rfl,rfl⟩:=hF
   all_goals simp only[zf,zbG,zC,zabs,zabq] at *
   all_goals first|(exact zW)|(exact zW)|(exact zW)|(exact zW)|(exact zW)
  ·rcases hF with hF|hF|hF|hF|hF<;>obtain⟨rfl,rfl,rfl,rfl,rfl⟩:=hF
   all_goals simp only[zf,zbG,zC,zabs,zabq] at *
   all_goals first|(exact zW)|(exact zW)|(exact zW)|(exact zW)|(exact zW)
  ·have sz_o:=zri o;generalize zU o=D_o at *;have sz_r:=zl9 r;generalize z7 r=D_r at *;have sz_t3:=zQ t3;generalize zf t3=D_t3 at *
   rcases hF with hF|hF|hF|hF|hF<;>obtain⟨rfl,rfl,rfl,rfl,rfl⟩:=hF
   all_goals simp only[zf,zbG,zC,zabs,zabq] at *
   all_goals first|(exact zW)|(exact zW)|(exact zW)|(exact zW)|(exact zW)
 ·replace hs0:=hs0 c1;subst hs0;replace c1:=zabt c1;clear hse
  rcases hR with ⟨c2,rfl⟩|⟨rfl,rfl,o,r,l,t3,hp,hd,rfl⟩|⟨rfl,rfl,rfl,rfl⟩|⟨rfl,rfl,rfl,o,r,l,t3,hp,hd,rfl⟩
  ·replace c2:=zabt c2
   rcases hF with hF|hF|hF|hF|hF<;>obtain⟨rfl,rfl,rfl,rfl,rfl⟩:=hF
   all_goals simp only[zf,zbG,zC,zabs,zabq] at *
   all_goals first|(exact zW)|(exact zW)|(exact zW)|(exact zW)|(exact zW)
  ·have sz_o:=zri o;generalize zU o=D_o at *;have sz_r:=zl9 r;generalize z7 r=D_r at *;have sz_t3:=zQ t3;generalize zf t3=D_t3 at *
   rcases hF with hF|hF|hF|hF|hF<;>obtain⟨rfl,rfl,rfl,rfl,rfl⟩:=hF
   all_goals simp only[zf,zbG,zC,zabs,zabq] at *
   all_goals first|(exact zW)|(exact zW)|(exact zW)|(exact zW)|(exact zW)
  ·rcases hF with hF|hF|hF|hF|hF<;>obtain⟨rfl,rfl,rfl,rfl,rfl⟩:=hF
   all_goals simp only[zf,zbG,zC,zabs,zabq] at *
   all_goals first|(exact zW)|(exact zW)|(exact zW)|(exact zW)|(exact zW)
  ·have sz_o:=zri o;generalize zU o=D_o at *;have sz_r:=zl9 r;generalize z7 r=D_r at *;have sz_t3:=zQ t3;generalize zf t3=D_t3 at *
   rcases hF with hF|hF|hF|hF|hF<;>obtain⟨rfl,rfl,rfl,rfl,rfl⟩:=hF
   all_goals simp only[zf,zbG,zC,zabs,zabq] at *
   all_goals first|(exact zW)|(exact zW)|(exact zW)|(exact zW)|(exact zW)
structure zqA(u:Setup)(Fp:Nat)(P:Task->Pln)(lo hi:Int)(cl:Task->List Int):Prop where
 cells:∀ {N:Int} {t:Task},TI u N t->lo<=t.inv.kind/\t.inv.kind<=hi->zga (cl t) u.slots/\1<=(cl t).length/\(cl t).length<=2/\∀s,SI u N s->s.out.edits.length<=1->s.lock.cells=cl t->zbd u N t.inv s
 plan:∀ {N:Int} {t:Task},zbd u N t.inv t.sec->zbM t.inv u=0->lo<=t.inv.kind/\t.inv.kind<=hi->t.sec.phase=4\/t.sec.phase=9->zi G Fp [.d (zf t)] []=some (.d (.tup [zU (P t).1,z7 (P t).2.1,.sl ((P t).2.2.map zaw)]),[])/\OI t.sec (P t).1
theorem zm8{u:Setup}{F Fp:Nat}{P:Task->Pln}{lo hi:Int}{cl:Task->List Int}(hF:PF F Fp lo hi cl)(hP:zqA u Fp P lo hi cl)(hlo:9<=lo){a:zy}{t:Task}{n N:Int}(hu:za3 u=true)(ha:AI u a)(ht:TI u N t)(hN:N<=999999):zi G F [.d (zx a),.d (zf t),.d (.int .i64 n)] []=some (.d (.tup [zx (zbf P lo hi cl a t n).1,zf (zbf P lo hi cl a t n).2.1,.sl ((zbf P lo hi cl a t n).2.2.1.map zaw),.int .i64 (zbf P lo hi cl a t n).2.2.2]),[]):=by
 unfold zbf
 by_cases c0:zan t lo hi=0
 rotate_left
 ·rw[zabo c0];exact pfl hF a t n c0
 rw[zabn (fun q=>q c0)];have hg:=zeP t lo hi;rw[c0] at hg;obtain⟨g1,g2⟩:=zeQ c0;have hen:=zij ht g1;clear g1;simp only;obtain⟨t1,ht1⟩:∃t1,t1=(if t.pc=0 then zb8 t (cl t) 1 else t):=⟨_,rfl⟩;rw[<- ht1];obtain⟨a1,a2,a4,a3⟩:=hP.cells ht g2;have hT:zbd u N t1.inv t1.sec/\t1.entry=t.entry/\t1.results=t.results/\t1.inv=t.inv:=by
  rw[ht1]
  by_cases c1:t.pc=0
  ·rw[zabo c1];obtain⟨s1,s2,s3⟩:=ztA (N:=N) hu (show t.setup.limit=u.limit by rw[ht.su]) ht.nn a1 a2;exact⟨a3 _ s1 s2 s3,rfl,rfl,rfl⟩
  ·rw[zabn c1];exact⟨ht.se ⟨c1,by omega⟩,rfl,rfl,rfl⟩
 obtain⟨k4,e1,e2,e3⟩:=hT;have hgk:=zms (n:=n) ha k4.si k4.ed;refine pw hF a (goT a t1 n).1 t t1 (goT a t1 n).2.1 n _ _ _ _ hg (fun c=> ?_) (fun c=>by rw[ht1,zabn c]) (zmr a t1 n (znv hu ha k4.si zo)) ?_
 ·rw[ht1,zabo c];exact znw t (cl t) 1 zo
 clear hg ht1 a1 a2 a3 a4;generalize goT a t1 n=g at *;obtain⟨a2,t2,b1,b2,e⟩:=g;simp only at *
 by_cases c4:e=0
 rotate_left
 ·exact .inl ⟨c4,by rw[zabo c4];rfl⟩
 subst c4;obtain⟨h1,s,h2,hSI,hK,ho,h4,h9⟩:=hgk rfl;have h3:zbd u (N+1) t1.inv s:=k4.keep hSI hK (by rw[ho];exact k4.ed);have hen2:t2.entry=t.entry/\t2.results=t.results/\t2.inv=t1.inv/\t2.sec=s:=by rw[h2];exact⟨e1,e2,rfl,rfl⟩
 obtain⟨q1,q2,q3,q4⟩:=hen2;have hp:=hP.plan (N:=N+1) (t:=t2) (by rw[q3,q4];exact h3) (by rw[q3,e3];exact ht.iv) (by rw[q3,e3];exact g2);rw[q4] at hp;rw[zabn (fun q=>q rfl)]
 cases b1
 ·cases b2
  ·exact .inr (.inr (.inl ⟨rfl,rfl,rfl,rfl⟩))
  ·exact .inr (.inr (.inr ⟨rfl,rfl,rfl,_,_,_,_,(hp (.inr (h9.1 rfl))).1,zeU t2 _ n (by rw[q1];exact hen.1) (by rw[q2];exact hen.2),rfl⟩))
 ·obtain⟨p1,p2⟩:=hp (.inl (h4.1 rfl));exact .inr (.inl ⟨rfl,rfl,_,_,_,_,p1,zcr (t:=t2) (by rw[q4];exact h3.si) (by rw[q4];exact p2),rfl⟩)
theorem zBG{u:Setup}{Fp:Nat}{P:Task->Pln}{k:Int}(hk:9<=k/\k<=11)(h1:∀ {N:Int} {t:Task},SI u N t.sec->t.sec.shards.length=2->zi G Fp [.d (zf t)] []=some (.d (.tup [zU (P t).1,z7 (P t).2.1,.sl ((P t).2.2.map zaw)]),[]))(h2:∀ {N:Int} {t:Task},SI u N t.sec->t.sec.shards.length=2->t.sec.lock.cells.length=2->OI t.sec (P t).1):zqA u Fp P k k zbG:=
 ⟨fun {N t} ht g=>by
  obtain⟨v1,v2,v3⟩:=zkl ht.iv zo;exact⟨zqD v1 v2 v3,by unfold zbG zeo;split<;>simp,by unfold zbG zeo;split<;>simp,fun s s1 s2 s3=>⟨s1,s2,fun q=>by omega,fun q=>by omega,fun _=>s3,fun q=>by omega,fun q=>by omega⟩⟩,
 fun {N t} h iv g hp=>by
  have kk:=(zgx h iv hp).2.2.1 zo;exact⟨h1 h.si kk,h2 h.si kk (by rw[h.c9 zo];unfold zeo;split<;>rfl)⟩⟩
theorem z4R{u:Setup}:zqA u 165 zdW 12 13 (fun t=>[t.inv.from_]):=
 ⟨fun {N t} ht g=>by
  have v:0<=t.inv.from_/\t.inv.from_<=u.slots:=by
   by_cases q:t.inv.kind=13
   ·exact zLN ht.iv q
   ·have:=zkk ht.iv (.inl zo);omega
  exact⟨zua v,by simp,by simp,fun s s1 s2 s3=>⟨s1,s2,fun q=>by omega,fun q=>by omega,fun q=>by omega,fun _=>s3,fun q=>by omega⟩⟩,
 fun {N t} h iv g hp=>by
  have kk:=(zgx h iv hp).2.2.2.1 zo;exact⟨z5a h.si kk,zQT h.si kk⟩⟩
theorem z4S{u:Setup}:zqA u 166 zdx 14 14 (fun t=>[t.inv.from_,t.setup.slots]):=
 ⟨fun {N t} ht g=>by
  have v:=zkk ht.iv (.inr zo);exact⟨zlY v.1 (by rw[ht.su];exact v.2) (by rw[ht.su];exact zads _),by simp,by simp,fun s s1 s2 s3=>⟨s1,s2,fun q=>by omega,fun q=>by omega,fun q=>by omega,fun q=>by omega,fun _=>by rw[s3,ht.su]⟩⟩,
 fun {N t} h iv g hp=>by
  have kk:=(zgx h iv hp).2.2.2.2 zo;exact⟨z5b h.si kk,zDP h.si kk (by rw[h.c14 zo];rfl)⟩⟩
theorem zfO {F:Nat} {a:zy} {t:Task} {n:Int} (r:Stp) (d0:t.done=false) (h:zi G F [.d (zx a),.d (zf t),.d (.int .i64 n)] []=some (.d (.tup [zx r.1,zf r.2.1,.sl (r.2.2.1.map zaw),.int .i64 r.2.2.2]),[]))
    (hF:(t.inv.kind=1/\F=112)\/(t.inv.kind=2/\F=113)\/(t.inv.kind=3/\F=114)\/(t.inv.kind=4/\F=114)\/(t.inv.kind=5/\F=114)\/(t.inv.kind=6/\F=115)\/(t.inv.kind=7/\F=116)\/(t.inv.kind=8/\F=117)\/(t.inv.kind=9/\F=118)\/(t.inv.kind=10/\F=119)\/(t.inv.kind=11/\F=120)\/(t.inv.kind=12/\F=121)\/(t.inv.kind=13/\F=121)\/(t.inv.kind=14/\F=122)):zi G 86 [.d (zx a),.d (zf t),.d (.int .i64 n)] []=some (.d (.tup [zx r.1,zf r.2.1,.sl (r.2.2.1.map zaw),.int .i64 r.2.2.2]),[]):=by
 obtain⟨r1,r2,r3,r4⟩:=r;simp only at *;have sz_r1:=zby r1;generalize zx r1=D_r1 at *;have sz_r2:=zQ r2;generalize zf r2=D_r2 at *;obtain⟨nu,iv,t3,t4,t5,t6,t7,t8,t9,t10,t11,t12,t13,t14,t15,t16,t17,t18⟩:=t;obtain⟨v1,v2,v3,v4,v5,v6,v7,v8⟩:=iv;simp only at d0 hF;subst d0
 rcases hF with hF|hF|hF|hF|hF|hF|hF|hF|hF|hF|hF|hF|hF|hF<;>obtain⟨rfl,rfl⟩:=hF
 all_goals simp only[zf,zbg] at *
 all_goals (exact zW)
theorem zaac{K:Tok}(hK:zgF K){u:Setup}{a:zy}{t:Task}{n N:Int}(hu:za3 u=true)(ha:AI u a)(ht:TI u N t)(hN:N<=999999)(hb:∀b∈t.inv.tokens,b.length<=4294967296):zi G 86 [.d (zx a),.d (zf t),.d (.int .i64 n)] []=some (.d (.tup [zx (zbZ K a t n).1,zf (zbZ K a t n).2.1,.sl ((zbZ K a t n).2.2.1.map zaw),.int .i64 (zbZ K a t n).2.2.2]),[]):=by
 have hk:=zLO ht.iv;unfold zbZ
 by_cases c0:t.done=true
 ·rw[zabo c0];have hf:=zcY 7;unfold zbv;have sz_zTask:=zQ zE;generalize zf zE=D_zTask at *;have sz_zArena:=zby zM;generalize zx zM=D_zArena at *;clear hk ht hb;simp only[zf,c0];exact zW
 rw[zabn c0];have d0:t.done=false:=by simpa using c0
 by_cases k1:t.inv.kind=1
 ·rw[zabo k1];exact zfO _ d0 (z8T hK hu ha ht hN) (by rw[k1];decide)
 rw[zabn k1]
 by_cases k2:t.inv.kind=2
 ·rw[zabo k2];exact zfO _ d0 (z62 hK hu ha ht hN) (by rw[k2];decide)
 rw[zabn k2]
 by_cases k3:3<=t.inv.kind/\t.inv.kind<=5
 ·rw[zabo k3];have q:t.inv.kind=3\/t.inv.kind=4\/t.inv.kind=5:=by omega
  exact zfO _ d0 (z87 hK hu ha ht hN hb) (by rcases q with q|q|q<;>rw[q]<;>decide)
 rw[zabn k3]
 by_cases k4:t.inv.kind=6
 ·rw[zabo k4];exact zfO _ d0 (z5j a t n (zij ht d0).1 (zij ht d0).2 ht.ld) (by rw[k4];decide)
 rw[zabn k4]
 by_cases k5:t.inv.kind=7
 ·rw[zabo k5];exact zfO _ d0 (zTm hu ha ht) (by rw[k5];decide)
 rw[zabn k5]
 by_cases k6:t.inv.kind=8
 ·rw[zabo k6];exact zfO _ d0 (z7a hu ha ht hN) (by rw[k6];decide)
 rw[zabn k6]
 by_cases k7:t.inv.kind=9
 ·rw[zabo k7];exact zfO _ d0 (zm8 (.inl ⟨rfl,rfl,rfl,rfl,rfl⟩) (zBG zo z47 zQO) zo hu ha ht hN) (by rw[k7];decide)
 rw[zabn k7]
 by_cases k8:t.inv.kind=10
 ·rw[zabo k8];exact zfO _ d0 (zm8 (.inr (.inl ⟨rfl,rfl,rfl,rfl,rfl⟩)) (zBG zo z48 zQM) zo hu ha ht hN) (by rw[k8];decide)
 rw[zabn k8]
 by_cases k9:t.inv.kind=11
 ·rw[zabo k9];exact zfO _ d0 (zm8 (.inr (.inr (.inl ⟨rfl,rfl,rfl,rfl,rfl⟩))) (zBG zo z49 zMo) zo hu ha ht hN) (by rw[k9];decide)
 rw[zabn k9]
 by_cases k10:t.inv.kind=12\/t.inv.kind=13
 ·rw[zabo k10];exact zfO _ d0 (zm8 (.inr (.inr (.inr (.inl ⟨rfl,rfl,rfl,rfl,rfl⟩)))) z4R zo hu ha ht hN) (by rcases k10 with q|q<;>rw[q]<;>decide)
 rw[zabn k10];have k11:t.inv.kind=14:=by omega
 rw[zabo k11];exact zfO _ d0 (zm8 (.inr (.inr (.inr (.inr ⟨rfl,rfl,rfl,rfl,rfl⟩)))) z4S zo hu ha ht hN) (by rw[k11];decide)
theorem zSR(b:List UInt8)(hb:b.length<=100):∃h:Int,0<=h/\h<=4294967295/\zi G 128 [.d (.sl (byD b))] []=some (.d (.int .i64 h),[]):=by
 obtain⟨h,g0,g1,hs⟩:=zQS (90::b) (by simp;omega);refine⟨h,g0,g1,?_⟩;have hlen:(byD b).length=b.length:=by unfold byD;simp
 have hS:=byS b;have hc:byD (90::b)= .int .u8 90::byD b:=rfl;rw[hc] at hs;generalize byD b=bb at *
 rcases bb with _|⟨x,bb⟩
 ·exact zW
 ·exact zW
theorem zHr(h:za1)(q:¬(1<=h.id/\h.id<=1073741824/\1<=h.gen/\h.gen<=65536/\0<=h.route/\h.route<65536/\0<=h.hint/\h.hint<6)):zi G 92 [.d (zat h)] []=some (.d (.tup [zaA [],.int .i64 1]),[]):=by
 have e:byD []=[]:=rfl;unfold zaA;rw[e];obtain⟨a,b,c,d⟩:=h;simp only[zat] at *
 by_cases c1:a<1
 ·clear q;exact zW
 by_cases c2:1073741824<a
 ·clear q;exact zW
 by_cases c3:b<1
 ·clear q;exact zW
 by_cases c4:65536<b
 ·clear q;exact zW
 by_cases c5:c<0
 ·clear q;exact zW
 by_cases c6:65536<=c
 ·clear q;exact zW
 by_cases c7:d<0
 ·clear q;exact zW
 by_cases c8:6<=d
 ·clear q;exact zW
 ·omega
theorem zHs(h:za1)(q:1<=h.id/\h.id<=1073741824/\1<=h.gen/\h.gen<=65536/\0<=h.route/\h.route<65536/\0<=h.hint/\h.hint<6):∃c:List UInt8,c.length=16/\zi G 92 [.d (zat h)] []=some (.d (.tup [zaA c,.int .i64 0]),[]):=by
 obtain⟨a,b,c,d⟩:=h;obtain⟨a1,a2,b1,b2,c1,c2,d1,d2⟩:=q;simp only at a1 a2 b1 b2 c1 c2 d1 d2;obtain⟨x1,l1,p1⟩:=zBL [113] (by simp) a zo zo;obtain⟨x2,l2,p2⟩:=z5s ([113]++x1) (by simp;omega) b zo zo;obtain⟨x3,l3,p3⟩:=z5r ([113]++x1++x2) (by simp;omega) c zo zo;obtain⟨u,hu⟩:=zgA d;obtain⟨k,k0,k1,hk⟩:=zSR ([113]++x1++x2++x3++[u,0]) (by simp;omega);obtain⟨x4,l4,p4⟩:=zBL ([113]++x1++x2++x3++[u,0]) (by simp;omega) k k0 k1;refine⟨[113]++x1++x2++x3++[u,0]++x4,by simp;omega,?_⟩;have hb:∀x y:List UInt8,byD (x++y)=byD x++byD y:=fun x y=>by unfold byD;simp
 have e1:byD [113]=[.int .u8 113]:=rfl;have e2:byD [u,0]=[.int .u8 u.toNat,.int .u8 0]:=rfl;have hl:∀x:List UInt8,(byD x).length=x.length:=fun x=>by unfold byD;simp
 unfold zaA;simp only[hb,e1,e2] at *;have y1:=hl x1;have y2:=hl x2;have y3:=hl x3;have y4:=hl x4;have z1:=byS x1;have z2:=byS x2;have z3:=byS x3;have z4:=byS x4;rw[l1] at y1;rw[l2] at y2;rw[l3] at y3;rw[l4] at y4;simp only[zabv,zabu,zabw,l1,l2,l3,Nat.reduceAdd] at p1 p2 p3 p4;clear hb hl e1 e2;generalize byD x1=w1 at *;generalize byD x2=w2 at *;generalize byD x3=w3 at *;generalize byD x4=w4 at *;simp only[zat,zabN,zabJ,zab9] at *;have hA:∀z:List D,w1++(w2++(w3++z))=w1++(w2++w3)++z:=fun z=>by simp
 rw[hA] at hk;rw[hA] at p4;exact zW
theorem zrX(b:List UInt8)(hb:b.length=16)(i k:Int)(q:(i=1/\k=4)\/(i=5/\k=3)\/(i=8/\k=2)\/(i=10/\k=1)):∃v:Int,zi G 125 [.d (.sl (byD b)),.d (.int .i64 i),.d (.int .i64 k)] []=some (.d (.tup [.int .i64 v,.int .i64 0]),[]):=by
 have hlen:(byD b).length=16:=by unfold byD;simp [hb]
 have hg:∀j:Nat,j<16->∃x:UInt8,(byD b)[j]? = some (.int .u8 x.toNat):=fun j hj=>⟨b[j],by unfold byD;simp [zabx (show j<b.length by omega)]⟩;obtain⟨x1,g1⟩:=hg 1 zo;obtain⟨x2,g2⟩:=hg 2 zo;obtain⟨x3,g3⟩:=hg 3 zo;obtain⟨x4,g4⟩:=hg 4 zo;obtain⟨x5,g5⟩:=hg 5 zo;obtain⟨x6,g6⟩:=hg 6 zo;obtain⟨x7,g7⟩:=hg 7 zo;obtain⟨x8,g8⟩:=hg 8 zo;obtain⟨x9,g9⟩:=hg 9 zo;obtain⟨xa,ga⟩:=hg 10 zo;clear hg;generalize byD b=bb at *
 rcases q with ⟨rfl,rfl⟩|⟨rfl,rfl⟩|⟨rfl,rfl⟩|⟨rfl,rfl⟩
 ·rw[zI zrB (by simp)];simp -implicitDefEqProofs (maxSteps:=4000000) (disch:=omega) only[zjO,zaC,zg0,zh,go_sem, *];(try simp only[zPr]);repeat' (first|done|rfl|((first|refine zad (fun hq=> ?_) (fun hq=> ?_)|refine zaj (fun hq=> ?_) (fun hq=> ?_))<;>(try (first|(exfalso;omega)|contradiction))<;>(try simp -implicitDefEqProofs (maxSteps:=4000000) (disch:=omega) only[zaC,zg0,zh,go_sem, *])<;>(try simp only[zPr])));(all_goals try rfl);(all_goals try (repeat' (first|done|rfl|(exfalso;omega)|contradiction|(refine zae (fun hq=> ?_) (fun hq=> ?_)))))
  all_goals exact⟨_,rfl⟩
 ·rw[zI zrB (by simp)];simp -implicitDefEqProofs (maxSteps:=4000000) (disch:=omega) only[zjO,zaC,zg0,zh,go_sem, *];(try simp only[zPr]);repeat' (first|done|rfl|((first|refine zad (fun hq=> ?_) (fun hq=> ?_)|refine zaj (fun hq=> ?_) (fun hq=> ?_))<;>(try (first|(exfalso;omega)|contradiction))<;>(try simp -implicitDefEqProofs (maxSteps:=4000000) (disch:=omega) only[zaC,zg0,zh,go_sem, *])<;>(try simp only[zPr])));(all_goals try rfl);(all_goals try (repeat' (first|done|rfl|(exfalso;omega)|contradiction|(refine zae (fun hq=> ?_) (fun hq=> ?_)))))
  all_goals exact⟨_,rfl⟩
 ·rw[zI zrB (by simp)];simp -implicitDefEqProofs (maxSteps:=4000000) (disch:=omega) only[zjO,zaC,zg0,zh,go_sem, *];(try simp only[zPr]);repeat' (first|done|rfl|((first|refine zad (fun hq=> ?_) (fun hq=> ?_)|refine zaj (fun hq=> ?_) (fun hq=> ?_))<;>(try (first|(exfalso;omega)|contradiction))<;>(try simp -implicitDefEqProofs (maxSteps:=4000000) (disch:=omega) only[zaC,zg0,zh,go_sem, *])<;>(try simp only[zPr])));(all_goals try rfl);(all_goals try (repeat' (first|done|rfl|(exfalso;omega)|contradiction|(refine zae (fun hq=> ?_) (fun hq=> ?_)))))
  all_goals exact⟨_,rfl⟩
 ·rw[zI zrB (by simp)];simp -implicitDefEqProofs (maxSteps:=4000000) (disch:=omega) only[zjO,zaC,zg0,zh,go_sem, *];(try simp only[zPr]);repeat' (first|done|rfl|((first|refine zad (fun hq=> ?_) (fun hq=> ?_)|refine zaj (fun hq=> ?_) (fun hq=> ?_))<;>(try (first|(exfalso;omega)|contradiction))<;>(try simp -implicitDefEqProofs (maxSteps:=4000000) (disch:=omega) only[zaC,zg0,zh,go_sem, *])<;>(try simp only[zPr])));(all_goals try rfl);(all_goals try (repeat' (first|done|rfl|(exfalso;omega)|contradiction|(refine zae (fun hq=> ?_) (fun hq=> ?_)))))
  all_goals exact⟨_,rfl⟩
theorem z8z(a b:List UInt8)(ha:a.length=16)(hb:b.length=16):∃x:Bool,zi G 126 [.d (.sl (byD a)),.d (.sl (byD b))] []=some (.d (.bool x),[]):=by
 have hla:(byD a).length=16:=by unfold byD;simp [ha]
 have hlb:(byD b).length=16:=by unfold byD;simp [hb]
 have za:=byS a;have zb:=byS b;have ya:=_root_.Go.Proofs.YtcembpbhkcbnhaaGreat.bytesD_ok a;have yb:=_root_.Go.Proofs.YtcembpbhkcbnhaaGreat.bytesD_ok b;generalize byD a=aa at *;generalize byD b=bb at *;rw[zI zWI (by simp)];simp -implicitDefEqProofs (maxSteps:=4000000) (disch:=omega) only[zur,zh,go_sem, *];(try simp only[zPr]);repeat' (first|done|rfl|((first|refine zad (fun hq=> ?_) (fun hq=> ?_)|refine zaj (fun hq=> ?_) (fun hq=> ?_))<;>(try (first|(exfalso;omega)|contradiction))<;>(try simp -implicitDefEqProofs (maxSteps:=4000000) (disch:=omega) only[zh,go_sem, *])<;>(try simp only[zPr])));(all_goals try rfl);(all_goals try (repeat' (first|done|rfl|(exfalso;omega)|contradiction|(refine zae (fun hq=> ?_) (fun hq=> ?_)))))
 all_goals exact⟨_,rfl⟩
theorem z4M(b:List UInt8)(hb:b.length<=4294967296):∃(h:za1) (e:Int),(e=0->((0<=h.route/\h.route<65536)/\0<=h.hint)/\b.length=16/\1<=h.gen/\h.gen<=65536)/\zi G 91 [.d (zaA b)] []=some (.d (.tup [zat h,.int .i64 e]),[]):=by
 have hlen:(byD b).length=b.length:=by unfold byD;simp
 by_cases c:b.length=16
 ·obtain⟨v1,g1⟩:=zrX b c 1 4 zo;obtain⟨v2,g2⟩:=zrX b c 5 3 zo;obtain⟨v3,g3⟩:=zrX b c 8 2 zo;obtain⟨v4,g4⟩:=zrX b c 10 1 zo;rw[c] at hlen;unfold zaA
  by_cases q:1<=v1/\v1<=1073741824/\1<=v2/\v2<=65536/\0<=v3/\v3<65536/\0<=v4/\v4<6
  ·obtain⟨x,lx,hx⟩:=zHs ⟨v1,v2,v3,v4⟩ q;obtain⟨s,hs⟩:=z8z x b lx c;simp only[zat,zaA] at hx
   rcases s with _|_
   ·refine⟨zds,8,fun q=>by omega,?_⟩;simp only[zat,zds];generalize byD b=bb at *;generalize byD x=bx at *;clear c hb q;exact zW
   ·refine⟨⟨v1,v2,v3,v4⟩,0,fun _=>⟨⟨⟨q.2.2.2.2.1,q.2.2.2.2.2.1⟩,q.2.2.2.2.2.2.1⟩,c,q.2.2.1,q.2.2.2.1⟩,?_⟩;simp only[zat];generalize byD b=bb at *;generalize byD x=bx at *;clear c hb q;exact zW
  ·have hx:=zHr ⟨v1,v2,v3,v4⟩ q;have e:byD []=[]:=rfl;simp only[zat,zaA,e] at hx;refine⟨zds,8,fun q=>by omega,?_⟩;simp only[zat,zds];generalize byD b=bb at *;clear c hb q;exact zW
 ·refine⟨zds,8,fun q=>by omega,?_⟩;have hc:¬(b.length:Int)=16:=by omega
  simp only[zat,zds,zaA];generalize byD b=bb at *;exact zW
theorem zvl(h:za1):∃p:List UInt8×Int,p.1.length<=16/\zi G 92 [.d (zat h)] []=some (.d (.tup [zaA p.1,.int .i64 p.2]),[]):=by
 by_cases q:1<=h.id/\h.id<=1073741824/\1<=h.gen/\h.gen<=65536/\0<=h.route/\h.route<65536/\0<=h.hint/\h.hint<6
 ·obtain⟨c,l,e⟩:=zHs h q;exact⟨(c,0),by simp only;omega,e⟩
 ·exact⟨([],1),by simp,zHr h q⟩
theorem zsW(b:List UInt8):∃p:za1×Int,(p.2=0->((0<=p.1.route/\p.1.route<65536)/\0<=p.1.hint)/\b.length=16/\1<=p.1.gen/\p.1.gen<=65536)/\(b.length<=4294967296->zi G 91 [.d (zaA b)] []=some (.d (.tup [zat p.1,.int .i64 p.2]),[])):=by
 by_cases c:b.length<=4294967296
 ·obtain⟨h,e,q,r⟩:=z4M b c;exact⟨(h,e),q,fun _=>r⟩
 ·exact⟨(zds,8),fun q=>by simp at q,fun q=>absurd q c⟩
noncomputable def zaB:Tok:=⟨fun i=>Classical.choose (ztx i),fun h=>Classical.choose (zvl h),fun b=>Classical.choose (zsW b)⟩
theorem zlh:zgF zaB:=by
 refine⟨⟨fun i=> ?_,fun b=> ?_⟩,fun i=> ?_,fun h=> ?_,fun b hb=> ?_⟩
 ·exact⟨(zaci (ztx i)).1,(zaci (ztx i)).2.1⟩
 ·exact fun q=>((zaci (zsW b)).1 q).1
 ·exact (zaci (ztx i)).2.2
 ·exact (zaci (zvl h)).2
 ·exact (zaci (zsW b)).2 hb
theorem ztM(h:za1):(zaB.enc h).1.length<=16:=(zaci (zvl h)).1
theorem zaag(b:List UInt8)(q:(zaB.par b).2=0):b.length=16/\1<=(zaB.par b).1.gen/\(zaB.par b).1.gen<=65536:=((zaci (zsW b)).1 q).2
theorem zZX(n l:Int)(h:1<=l/\l<=n/\n<=4):zi G 80 [.d (.int .i64 n),.d (.int .i64 l)] []=some (.d (.tup [zaT (zkD n l).1,.int .i64 0]),[]):=by
 have hn:n=1\/n=2\/n=3\/n=4:=by omega
 have hl:l=1\/l=2\/l=3\/l=4:=by omega
 rcases hn with rfl|rfl|rfl|rfl<;>rcases hl with rfl|rfl|rfl|rfl<;>(try (exfalso;omega))
 all_goals clear h
 all_goals (have zk0:= @zaC;have zk1:=zAN.eq_1;have zk2:=zAO.eq_1;exact zW)
theorem zMu(s:Setup)(h4:s.slots<=4):zi G 44 [.d (zaJ s)] []=some (.d (.tup [zx (zbL s).1,.int .i64 (zbL s).2]),[]):=by
 obtain⟨n,l,c,d,li,k,i,e⟩:=s;have g1:=zdI n 1 6;have g2:=zdI l 1 n;have g3:=zdI c 1 12;have g4:=zdI d 1 24;have g5:=zdI li 1 8;have g6:=zdI k 0 1073741824;have g7:=zdI i 1 1073741824;have g8:=zdI e 0 65536
 by_cases q:za3 ⟨n,l,c,d,li,k,i,e⟩=true
 ·have hz:=zZZ d;have hf:=zHN c;have hs:=zBq c;have hd:=zZX n l;have hN:∃D0,zkD n l=D0:=⟨_,rfl⟩;obtain⟨R,hR⟩:∃R,zbL ⟨n,l,c,d,li,k,i,e⟩=R:=⟨_,rfl⟩;rw[hR];have p:=q;unfold za3 at p;simp only[zabH] at p;obtain⟨i1,i2,i3,i4,i5,i6,i7,i8⟩:=p;rw[i1] at g1;rw[i2] at g2;rw[i3] at g3;rw[i4] at g4;rw[i5] at g5;rw[i6] at g6;rw[i7] at g7;rw[i8] at g8;unfold inI at i1 i2 i4;simp only[decide_eq_true_eq] at i1 i2 i4 h4;rw[zabn zo,zabn zo] at hz;replace hd:=hd zo;clear i3 i4 i5 i6 i7 i8;have hn:n=1\/n=2\/n=3\/n=4:=by omega
  have hl:l=1\/l=2\/l=3\/l=4:=by omega
  rcases hn with rfl|rfl|rfl|rfl<;>rcases hl with rfl|rfl|rfl|rfl<;>(try (exfalso;omega))
  all_goals
   clear i1 i2 h4;obtain⟨D0,hN⟩:=hN;rw[hN] at hd;have hM:=hN;simp [zkD,ze4,ztG,zQI,List.range,List.range.loop,List.replicate] at hM;subst hM;simp only[zaT,zca,zC,zabs,zabq] at hd;simp only[zaJ]
  all_goals (rw[zI zgS (by simp)];simp -implicitDefEqProofs (maxSteps:=4000000) (disch:=omega) only[zuN,zaC,zAU,zh,go_sem, *];(try simp only[zPr]);repeat' (first|done|rfl|((first|refine zad (fun hq=> ?_) (fun hq=> ?_)|refine zaj (fun hq=> ?_) (fun hq=> ?_))<;>(try (first|(exfalso;omega)|contradiction))<;>(try simp -implicitDefEqProofs (maxSteps:=4000000) (disch:=omega) only[zaC,zAU,zh,go_sem, *])<;>(try simp only[zPr])));(all_goals try rfl);(all_goals try (repeat' (first|done|rfl|(exfalso;omega)|contradiction|(refine zae (fun hq=> ?_) (fun hq=> ?_))))))
  all_goals (rw[<- hR];unfold zbL;rw[zabn (by rw[q];decide)];simp only[hN];rfl)
 ·have e0:zbL ⟨n,l,c,d,li,k,i,e⟩=(zM,1):=by
     unfold zbL;rw[zabo (by simpa using q)]
  rw[e0];unfold za3 at q;simp only at q;have hz:zx zM= .agg [.sl [],.sl [],.int .i64 0,.int .i64 0,.sl [],.int .i64 0,.sl [],.sl [],.int .i64 0,.int .i64 0,.int .i64 0]:=rfl;simp only[hz];generalize inI n 1 6=b1 at *;generalize inI l 1 n=b2 at *;generalize inI c 1 12=b3 at *;generalize inI d 1 24=b4 at *;generalize inI li 1 8=b5 at *;generalize inI k 0 1073741824=b6 at *;generalize inI i 1 1073741824=b7 at *;generalize inI e 0 65536=b8 at *;simp only[zaJ]
  cases b1
  ·clear q;exact zW
  cases b2
  ·clear q;exact zW
  cases b3
  ·clear q;exact zW
  cases b4
  ·clear q;exact zW
  cases b5
  ·clear q;exact zW
  cases b6
  ·clear q;exact zW
  cases b7
  ·clear q;exact zW
  cases b8
  ·clear q;exact zW
  exact absurd rfl q
def vlS(hp:zd)(k:Nat):St:=⟨[(2,.ref 2 0 0),(6,.d (.int .i64 k))],hp⟩
theorem zaaS(v7 v8:List (List UInt8))(v2 v3 v4 v5 v6:Int)(hB:v7.length<=6)(hp:zd)(hh:hp=[(2,.row [.d (.agg [.int .i64 1,.int .i64 v2,.int .i64 v3,.int .i64 v4,.int .i64 v5,.int .i64 v6,.sl (v7.map .str),.sl (v8.map zaA)])])]):∀k:Nat,k<=v7.length->z6 G [] zAX (vlS hp k)=if ((v7.drop k).any fun b=>decide (16<b.length))=true then some (.ret,⟨[(4,.d (.int .i64 2))],[]⟩) else some (.exit 1,⟨[],[]⟩):=by
 refine zaL (fun k=>v7.length - k) _ _ _ fun k hk L ih=> ?_;simp only[vlS,hh,zAX] at ih ⊢
 by_cases h0:k<v7.length
 ·have i1:=ih (k+1) zo zo;have hd:v7.drop k=v7[k]::v7.drop (k+1):=zabX h0;rw[hd,zac4];clear ih hd
  by_cases c:16<v7[k].length
  ·rw[zabo (by simp [c])];clear i1;exact zS
  ·have e:(decide (16<v7[k].length)||(v7.drop (k+1)).any fun b=>decide (16<b.length))=(v7.drop (k+1)).any fun b=>decide (16<b.length):=by simp [c]
   rw[e];generalize ((v7.drop (k+1)).any fun b=>decide (16<b.length))=w at *;clear e;simp only[zNr,srcO] at i1;exact zS
 ·have:k=v7.length:=by omega
  subst this;clear ih;rw[zabn (by simp)];exact zS
theorem zaaT{i:zaeE}{s:Setup}(hs:1<=s.slots/\s.slots<=6)(hT:i.tokens.length<=4294967296)(hB:i.bodies.length<=4294967296):zi G 84 [.d (zbg i),.d (zaJ s)] []=some (.d (.int .i64 (zbM i s)),[]):=by
 obtain⟨k,v2,v3,v4,v5,v6,v7,v8⟩:=i;obtain⟨s1,s2,s3,s4,s5,s6,s7,s8⟩:=s;simp only at *;have h1:=zmz v2 0 (s1 - 1);have h2:=zmz v3 1 6;have h3:=zmz v4 0 1000;have h4:=zmz v5 0 (s1 - 1);have h5:=zmz v6 0 (s1 - 1);unfold zbM;simp only[zbg,zaJ];generalize inI v2 0 (s1 - 1)=b1 at *;generalize inI v3 1 6=b2 at *;generalize inI v4 0 1000=b3 at *;generalize inI v5 0 (s1 - 1)=b4 at *;generalize inI v6 0 (s1 - 1)=b5 at *
 by_cases g:1<=k/\k<=14
 rotate_left
 ·rw[zabn zo,zabn zo,zabn zo,zabn zo,zabn zo,zabn zo,zabn zo];obtain⟨a1,a2,a3,a4,a5,a6,a7,a8,a9,d0,d1,d2,d3,d4⟩:¬k=1/\¬k=2/\¬k=3/\¬k=4/\¬k=5/\¬k=6/\¬k=7/\¬k=8/\¬k=9/\¬k=10/\¬k=11/\¬k=12/\¬k=13/\¬k=14:=by omega
  clear g h1 h2 h3 h4 h5;exact zW
 by_cases k1:k=1
 ·subst k1;rw[zabo rfl];clear h1 h2 h3 h4 h5 g
  by_cases c0:v7.length=0
  ·rw[zabo zo];exact zW
  by_cases c1:6<v7.length
  ·rw[zabo zo];exact zW
  rw[zabn zo];have hl:=zaaS v7 v8 v2 v3 v4 v5 v6 zo _ rfl 0 zo;simp only[vlS,zabZ,zabQ] at hl
  by_cases c:(v7.any fun b=>decide (16<b.length))=true
  ·rw[zabo c] at hl;rw[zabo c];clear c;exact zW
  ·rw[zabn c] at hl;rw[zabn c];clear c;exact zW
 rw[zabn k1]
 by_cases k2:k=2\/k=8
 ·rw[zabo k2];clear k1 g h4 h5
  rcases k2 with rfl|rfl<;>cases b1<;>cases b2<;>cases b3
  all_goals (exact zW)
 rw[zabn k2]
 by_cases k3:3<=k/\k<=5
 ·rw[zabo k3];have q:k=3\/k=4\/k=5:=by omega
  clear k1 k2 k3 g h1 h2 h4 h5
  by_cases c0:v8.length=0
  ·rw[zabo zo]
   rcases q with rfl|rfl|rfl
   all_goals (exact zW)
  by_cases c1:6<v8.length
  ·rw[zabo zo]
   rcases q with rfl|rfl|rfl
   all_goals (exact zW)
  rw[zabn zo]
  rcases q with rfl|rfl|rfl<;>cases b3
  all_goals (exact zW)
 rw[zabn k3];clear h1 h2 h3
 by_cases k4:9<=k/\k<=11
 ·rw[zabo k4];have q:k=9\/k=10\/k=11:=by omega
  clear k1 k2 k3 k4 g
  by_cases c:v5=v6
  ·subst c
   rcases q with rfl|rfl|rfl<;>cases b4<;>cases b5
   all_goals (exact zW)
  ·replace c:=zabt c
   rcases q with rfl|rfl|rfl<;>cases b4<;>cases b5
   all_goals (exact zW)
 rw[zabn k4];clear h5
 by_cases k5:k=12\/k=14
 ·rw[zabo k5];clear k1 k2 k3 k4 g
  rcases k5 with rfl|rfl<;>cases b4
  all_goals (exact zW)
 rw[zabn k5];clear h4
 by_cases k6:k=13
 ·subst k6;rw[zabo rfl]
  by_cases c1:v5<0
  ·exact zW
  by_cases c2:s1<v5
  ·exact zW
  ·exact zW
 rw[zabn k6,zabo zo];have q:k=6\/k=7:=by omega
 clear k1 k2 k3 k4 k5 k6 g
 rcases q with rfl|rfl
 all_goals (exact zW)
theorem z9E(m n:Int){i:zaeE}{s:Setup}(h4:s.slots<=4)(hT:i.tokens.length<=4294967296)(hB:i.bodies.length<=4294967296):zi G 46 [.d (.int .i64 m),.d (zbg i),.d (zaJ s),.d (.int .i64 n)] []=some (.d (.tup [zf (zex m i s n).1,.int .i64 (zex m i s n).2]),[]):=by
 have hn:=zMu s h4;unfold zex;have hz:zf zE=(zf zE:D):=rfl
 by_cases c0:m<1\/200<m\/n<0
 ·rw[zabo c0];clear hn hz
  rcases c0 with c0|c0|c0
  all_goals simp only[zf,zE,zbg,zfA,zdt,zaJ,zbe,zA,zb2,zd1,zeM,zeB,zU,zfB,zaT,zcF,zbW,zdc,zat,zds,zT,zaH,zC,zabq]
  all_goals (exact zW)
 have c1:¬m<1:=by omega
 have c2:¬200<m:=by omega
 have c3:¬n<0:=by omega
 rw[zabn c0];clear c0
 by_cases q:za3 s=false
 ·rw[zabo q];have e0:zbL s=(zM,1):=by
   unfold zbL;rw[zabo q]
  rw[e0] at hn;clear e0 q hz;have sz_zArena:=zby zM;generalize zx zM=D_zArena at *;simp only[zf,zE,zbg,zfA,zdt,zaJ,zbe,zA,zb2,zd1,zeM,zeB,zU,zfB,zaT,zcF,zbW,zdc,zat,zds,zT,zaH,zC,zabq] at *;exact zW
 rw[zabn q];have hs:1<=s.slots/\s.slots<=6:=by
  have p:za3 s=true:=by simpa using q
  unfold za3 at p;simp only[zabH,inI,decide_eq_true_eq] at p;exact p.1
 have e1:(zbL s).2=0:=by
  unfold zbL;rw[zabn q]
 rw[e1] at hn;have hv:=zaaT hs hT hB;clear q e1 hs hz h4;generalize zbL s=r at *;obtain⟨r,re⟩:=r;simp only at hn;have sz_r:=zby r;generalize zx r=D_r at *;generalize zbM i s=w at *;clear hT hB
 by_cases c4:w=0
 ·subst c4;rw[zabn (by simp)];simp only[zf,zE,zbg,zfA,zdt,zaJ,zbe,zA,zb2,zd1,zeM,zeB,zU,zfB,zaT,zcF,zbW,zdc,zat,zds,zT,zaH,zC,zabq] at *;exact zW
 ·rw[zabo c4];replace c4:=zabt c4;simp only[zf,zE,zbg,zfA,zdt,zaJ,zbe,zA,zb2,zd1,zeM,zeB,zU,zfB,zaT,zcF,zbW,zdc,zat,zds,zT,zaH,zC,zabq] at *;exact zW
end Go.Proofs.YtcembpbhkcbnhaaGreat
