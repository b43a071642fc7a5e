/-
  The law PurgeRefuses.
-/
import Derived.Test.YtnmcgdpmikhohaaGreatBd1e1a64
import Derived.Test.YtnmcgdpmikhohaaGreatB56f9d75
import Derived.Test.YtnmcgdpmikhohaaGreatB5ff4b08
import Derived.Test.YtnmcgdpmikhohaaGreatB5151367
import Derived.Test.YtnmcgdpmikhohaaGreatB6527027
set_option linter.unusedSimpArgs false
set_option linter.unusedVariables false
set_option maxHeartbeats 10000000
set_option maxRecDepth 100000
namespace Go.Proofs.YtnmcgdpmikhohaaGreat
open Go Go.Sim
theorem z5c(a:zy):zi G znT [.d (zx a),.d (.int .i64 1)] []=some (.d (.tup [.int .i64 a.epoch,.int .i64 0]),[]):=by
 simp only[zx];exact zW zWB
theorem z4V(i:Invocation):zi G zn3 [.d (zbg i)] []=some (.d (.int .i64 (zcX i)),[]):=by
 unfold zcX;obtain⟨kd,hm,mx,vs,fr,tt,bs,ts⟩:=i;simp only[zbg]
 by_cases k1:kd=1
 ·subst k1;exact zW zmg
 rw[zabn k1]
 by_cases k2:3<=kd/\kd<=5
 ·rw[zabo k2];have k3:kd=3\/kd=4\/kd=5:=by omega
  rcases k3 with rfl|rfl|rfl
  ·exact zW zmg
  ·exact zW zmg
  ·exact zW zmg
 ·rw[zabn k2];exact zW zmg
theorem z4U(l:List Result)(hL:l.length<=4294967296):zi G zqw [.d (.sl (l.map z7))] []=some (.xsl (l.map z7),[]):=by
 have e:List.take l.length (l.map z7)=l.map z7:=zada (by simp);exact zW zXt
theorem zMX(t:zq)(r:Result)(n:Int)(he:0<=t.entry/\t.entry<=1000)(hl:t.results.length<=1000):zi G zn4 [.d (zf t),.d (z7 r),.d (.int .i64 n)] []=some (.d (zf (zba t r n)),[]):=by
 have hc:=z4U t.results zo;have hn:=z4V t.inv;have hcase:t.results.map z7≠[]\/t.results=[]:=by cases t.results<;>simp
 unfold zba;generalize zcX t.inv=en at *;simp only[zf,z7,zbg] at *
 by_cases c:t.entry+1=en
 ·rw[zabo c,zabo c];replace c:=zabA c;rw[zI zH1 (by simp)];simp -implicitDefEqProofs (maxSteps:=4000000) (disch:=omega) only[zqL,zs4,zE,zh,go_sem, *];(try simp only[zPr]);repeat' (first|done|rfl|((first|refine zad (fun hq=> ?_) (fun hq=> ?_)|refine zaj (fun hq=> ?_) (fun hq=> ?_))<;>(try (first|(exfalso;omega)|contradiction))<;>(try simp -implicitDefEqProofs (maxSteps:=4000000) (disch:=omega) only[zE,zh,go_sem, *])<;>(try simp only[zPr])));(all_goals try rfl);(all_goals try (repeat' (first|done|rfl|(exfalso;omega)|contradiction|(refine zae (fun hq=> ?_) (fun hq=> ?_)))))
 ·rw[zabn c,zabn c];rw[zI zH1 (by simp)];simp -implicitDefEqProofs (maxSteps:=4000000) (disch:=omega) only[zqL,zs4,zE,zh,go_sem, *];(try simp only[zPr]);repeat' (first|done|rfl|((first|refine zad (fun hq=> ?_) (fun hq=> ?_)|refine zaj (fun hq=> ?_) (fun hq=> ?_))<;>(try (first|(exfalso;omega)|contradiction))<;>(try simp -implicitDefEqProofs (maxSteps:=4000000) (disch:=omega) only[zE,zh,go_sem, *])<;>(try simp only[zPr])));(all_goals try rfl);(all_goals try (repeat' (first|done|rfl|(exfalso;omega)|contradiction|(refine zae (fun hq=> ?_) (fun hq=> ?_)))))
theorem zSj(x y:Int):zi G zqz [.ref 1000000 0 0,.d (.int .i64 y)] [(1000000,.row [.d (.agg [.int .i64 x])])]=some (.d (.tup []),[(1000000,.row [.d (.int .i64 y)])]):=by
 exact zW zXv
theorem zSi(x:Int):zi G zqy [.ref 1000000 0 0] [(1000000,.row [.d (.int .i64 x)])]=some (.d (.int .i64 x),[(1000000,.row [.d (.int .i64 x)])]):=by
 exact zW zXu
theorem zSh(x y z:Int):zi G zqx [.ref 1000000 0 0,.d (.int .i64 y),.d (.int .i64 z)] [(1000000,.row [.d (.int .i64 x)])]=some (.d (.bool (decide (x=y))),[(1000000,.row [.d (.int .i64 (if x=y then z else x))])]):=by
 by_cases h:x=y
 ·simp only[h,decide_true,if_true];exact zW zIP
 ·simp only[h,decide_false,if_false];exact zW zIP
theorem z4T(a:zy)(old next:Int):zi G znS [.d (zx a),.d (.int .i64 1),.d (.int .i64 old),.d (.int .i64 next)] []=some (.d (.tup [zx (casWord a 1 old next).1,.bool (casWord a 1 old next).2.1,.int .i64 (casWord a 1 old next).2.2]),[]):=by
 have h0:=zRJ next 0 65536
 have hs:=zSj 0;have hl:=zSi;have hc:=zSh;unfold casWord;rw[zabn (by simp)]
 by_cases h2:0<=next/\next<=65536
 ·rw[zabn zo];rw[zabM h2.1,zabM h2.2] at h0;simp only[zgn,if_true]
  by_cases h3:a.epoch=old
  ·rw[zabn zo];subst h3;clear h2;simp only[zx] at *;exact zW zy8
  ·rw[zabo zo];clear h2;simp only[zx] at *;exact zW zy8
 ·rw[zabo (.inl ⟨rfl,h2⟩)];have e:(decide (0<=next)&&decide (next<=65536))=false:=by
   rw[<- zadD];exact zabP h2
  rw[e] at h0;clear h2 e;simp only[zx,zM,zabq,ze6,zT,zC] at *;exact zW zy8
theorem z5i(t:zq):zi G zn6 [.d (zf t)] []=some (.d (.int .i64 (zan t 6 6)),[]):=by
 unfold zan
 cases c:t.done
 ·rw[zabn (by simp)]
  by_cases k:t.inv.kind=6
  ·rw[zabn zo];simp only[zf];exact zW zza
  ·rw[zabo zo];simp only[zf];exact zW zza
 ·rw[zabo rfl];simp only[zf];exact zW zza
theorem z5g(a:zy)(t:zq)(n:Int)(he:0<=t.entry/\t.entry<=1000)(hl:t.results.length<=1000)(hd:0<=t.loaded/\t.loaded<=1073741824)(hpc:t.pc=0\/t.pc=1):zi G zlo [.d (zx a),.d (zf t),.d (.int .i64 n)] []=some (.d (.tup [zx (zci a t n).1,zf (zci a t n).2.1,.sl ((zci a t n).2.2.1.map zaw),.int .i64 (zci a t n).2.2.2]),[]):=by
 have hg:=z5i t;have hw:=z5c a;unfold zci;generalize zan t 6 6=ge at *
 by_cases c0:ge=0
 ·subst c0;simp only[ne_eq,zabD,if_false]
  by_cases c1:t.pc=0
  ·rw[zabo c1];replace c1:=zabA c1
   by_cases c2:a.epoch=65536
   ·rw[zabo c2];have hn1:=zMX { t with loaded:=a.epoch } (zaO 6) n he hl;generalize zba { t with loaded:=a.epoch } (zaO 6) n=t2 at *;have sz_t2:=zQ t2;generalize zf t2=D_t2 at *;replace c2:=zabA c2;simp only[zf,zaO,z7,zac,evT,zbw,zabq,zabs,zaw] at *;exact zW zka
   ·rw[zabn c2];replace c2:=zabt c2;simp only[zf,evT,zbw,zabq,zaw] at *;exact zW zka
  ·rw[zabn c1];have hp1:t.pc=1:=by omega
   have hn1:=zMX t zac n he hl;have hc:=z4T a t.loaded (t.loaded+1);generalize zba t zac n=tn at *;generalize casWord a 1 t.loaded (t.loaded+1)=c at *;clear c1 hpc hw;obtain⟨c1,c2,c3⟩:=c;obtain⟨u1,u2,u3,u4,u5,u6,u7,u8,u9,w1,w2,w3,w4,w5,w6,w7,w8,w9⟩:=t;simp only at *;subst hp1
   by_cases c4:c3=0
   ·subst c4;simp only[ne_eq,zabD,if_false] at *
    cases c2
    ·simp only[if_true] at *;simp only[zf,evT,zbw,zabq,zaw] at *;exact zW zka
    ·simp only[zacf,if_false] at *;have sz_tn:=zQ tn;generalize zf tn=D_tn at *;simp only[zf,z7,zac,evT,zbw,zabq,zabs,zaw] at *;exact zW zka
   ·rw[zabo c4];replace c4:=zabt c4;clear hn1;simp only[zf,zE,zx,zM,zabq,zbg,zfA,zdt,zaJ,zbe,zA,zb2,zd1,zeM,zeB,zU,zfB,zaT,zcF,zbW,zdc,zat,zds,ze6,zT,zaH,zC] at *;exact zW zka
 ·rw[zabo c0];replace c0:=zabt c0;clear hw;simp only[zf,zE,zx,zM,zabq,zbg,zfA,zdt,zaJ,zbe,zA,zb2,zd1,zeM,zeB,zU,zfB,zaT,zcF,zbW,zdc,zat,zds,ze6,zT,zaH,zC] at *;exact zW zka
def prS(w:World)(k:Nat):St:=⟨[(4,.ref 4 0 0),(5,.d (.int .i64 k))],[(4,.row [.d (zF w)])]⟩
def prT(w:World)(k:Nat)(d:Bool):zq:={ zE with number:=1,inv:=⟨k,0,0,0,0,0,[[97]],[[1]]⟩,setup:=w.setup,done:=d }
theorem z5h(w:World):∀k:Nat,k<=16->z6 G [] zmF (prS w k)=some (.exit 0,⟨[],[]⟩):=by
 refine zaL (fun k:Nat=>16 - k) _ _ _ fun k hk L ih=> ?_
 by_cases h0:k<16
 ·have i1:=ih (k+1) zo zo;have hp:=fun d=>z5g w.arena (prT w k d) 5 (by simp [prT,zE]) (by simp [prT,zE]) (by simp [prT,zE]) (by simp [prT,zE]);clear ih;have hg:∀d,(d=true\/¬(k:Int)=6)->zci w.arena (prT w k d) 5=(zM,zE,[],if d=true then 7 else 9):=by
   intro d hd;unfold zci zan prT
   cases d
   ·have:¬(k:Int)=6:=by rcases hd with h|h;cases h;exact h
    have h6:(k:Int)<6\/6<(k:Int):=by omega
    simp only[h6,if_true,zabz,if_false,ne_eq,Int.reduceEq,zabV]
   ·simp only[if_true,ne_eq,Int.reduceEq,zabV]
  by_cases c:(k:Int).tmod 2=0
  ·have h1:=hp true;rw[hg true (.inl rfl)] at h1;clear hp hg;obtain⟨s,wa,tasks,log,steps,handles⟩:=w;simp only[prS,zmF,prT,zf,zE,zF,zbg,zx,zM,zabq,zabs,zfA,zdt,zaJ,zbe,zA,zb2,zd1,zeM,zeB,zU,zfB,zaT,zcF,zbW,zdc,zat,zds,ze6,zT,zaH,zC,zaA,byD,if_true] at *;simp only[zNr,zB] at i1;have e1:((UInt8.toNat 1:Nat):Int)=1:=rfl;rw[e1] at h1
   by_cases k6:(k:Int)=6
   ·rw[k6] at h1 i1;simp only[Int.reduceAdd] at i1;exact zS
   ·exact zS
  ·have h1:=hp false;have k6:¬(k:Int)=6:=by
    intro q;rw[q] at c;exact c (by decide)
   rw[hg false (.inr k6)] at h1;clear hp hg;obtain⟨s,wa,tasks,log,steps,handles⟩:=w;simp only[prS,zmF,prT,zf,zE,zF,zbg,zx,zM,zabq,zabs,zfA,zdt,zaJ,zbe,zA,zb2,zd1,zeM,zeB,zU,zfB,zaT,zcF,zbW,zdc,zat,zds,ze6,zT,zaH,zC,zaA,byD] at *;simp only[zNr,zB] at i1;have e1:((UInt8.toNat 1:Nat):Int)=1:=rfl;rw[e1] at h1;exact zS
 ·clear ih;simp only[prS,zmF];have sz_w:=za6 w;generalize zF w=D_w at *;exact zS
theorem z7o(l:List Int)(hL:l.length<=LIM):zi G zn5 [.d (.sl (zC l))] []=some (.d (.bool true),[]):=by
 have hnew:=zZ2 l hL;have hl4:(l.take 4000).length<=4000:=by simp;omega
 obtain⟨w,u,a',_,hq,hw⟩:=zaaX (l.take 4000) 0 10 hl4 zo;have hl:=z5h w 0 zo;have haw:=zSn;simp only[prS,zB,zabQ,zadf] at *;clear hq hl4 hL;have sz_w:=za6 w;generalize zF w=D_w at *;exact zW zWH
end Go.Proofs.YtnmcgdpmikhohaaGreat
