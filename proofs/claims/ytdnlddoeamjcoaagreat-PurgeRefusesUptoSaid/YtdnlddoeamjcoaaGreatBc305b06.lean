/-
  The law PurgeRefuses.
-/
import Derived.Test.YtdnlddoeamjcoaaGreatB842129c
import Derived.Test.YtdnlddoeamjcoaaGreatB49fa33f
import Derived.Test.YtdnlddoeamjcoaaGreatBb26e286
import Derived.Test.YtdnlddoeamjcoaaGreatB970ba0c
set_option linter.unusedSimpArgs false
set_option linter.unusedVariables false
set_option maxHeartbeats 10000000
set_option maxRecDepth 100000
namespace Go.Proofs.YtdnlddoeamjcoaaGreat
open Go Go.Sim
theorem zRQ(n lo hi:Int):zg G znY [.d (.int .i64 n),.d (.int .i64 lo),.d (.int .i64 hi)] []=some (.d (.bool (decide (lo<=n)&&decide (n<=hi))),[]):=by
 exact zW zXj
theorem z6J(a:zy):zg G znX [.d (zi a),.d (.int .i64 1)] []=some (.d (.tup [.int .i64 a.epoch,.int .i64 0]),[]):=by
 simp only[zi];exact zW zXi
theorem zSL(x y:Int):zg G zqK [.ref 1000000 0 0,.d (.int .i64 y)] [(1000000,.row [.d (.agg [.int .i64 x])])]=some (.d (.tup []),[(1000000,.row [.d (.int .i64 y)])]):=by
 exact zW zYc
theorem zSK(x:Int):zg G zqJ [.ref 1000000 0 0] [(1000000,.row [.d (.int .i64 x)])]=some (.d (.int .i64 x),[(1000000,.row [.d (.int .i64 x)])]):=by
 exact zW zYb
theorem zSJ(x y z:Int):zg G zqI [.ref 1000000 0 0,.d (.int .i64 y),.d (.int .i64 z)] [(1000000,.row [.d (.int .i64 x)])]=some (.d (.bool (decide (x=y))),[(1000000,.row [.d (.int .i64 (if x=y then z else x))])]):=by
 by_cases h:x=y
 ·simp only[h,decide_true,if_true];exact zW zI1
 ·simp only[h,decide_false,if_false];exact zW zI1
theorem z6r(a:zy)(old next:Int):zg G znW [.d (zi a),.d (.int .i64 1),.d (.int .i64 old),.d (.int .i64 next)] []=some (.d (.tup [zi (casWord a 1 old next).1,.bool (casWord a 1 old next).2.1,.int .i64 (casWord a 1 old next).2.2]),[]):=by
 have h0:=zRQ next 0 65536
 have hs:=zSL 0;have hl:=zSK;have hc:=zSJ;unfold casWord;rw[zacX (by simp)]
 by_cases h2:0<=next/\next<=65536
 ·rw[zacX zo];rw[zadn h2.1,zadn h2.2] at h0;simp only[zgL,if_true]
  by_cases h3:a.epoch=old
  ·rw[zacX zo];subst h3;clear h2;simp only[zi] at *;exact zW zzj
  ·rw[zacY zo];clear h2;simp only[zi] at *;exact zW zzj
 ·rw[zacY (.inl ⟨rfl,h2⟩)];have e:(decide (0<=next)&&decide (next<=65536))=false:=by
   rw[<- zaff];exact zadq h2
  rw[e] at h0;clear h2 e;simp only[zi,zF,zacZ,zfv,zX,zB] at *;exact zW zzj
theorem z6t(i:Invocation):zg G zn7 [.d (z9 i)] []=some (.d (.int .i64 (zdw i)),[]):=by
 unfold zdw;obtain⟨kd,hm,mx,vs,fr,tt,bs,ts⟩:=i;simp only[z9]
 by_cases k1:kd=1
 ·subst k1;exact zW zmr
 rw[zacX k1]
 by_cases k2:3<=kd/\kd<=5
 ·rw[zacY k2];have k3:kd=3\/kd=4\/kd=5:=by omega
  rcases k3 with rfl|rfl|rfl
  ·exact zW zmr
  ·exact zW zmr
  ·exact zW zmr
 ·rw[zacX k2];exact zW zmr
theorem z6s(l:List Result)(hL:l.length<=4294967296):zg G zqH [.d (.sl (l.map z6))] []=some (.xsl (l.map z6),[]):=by
 have e:List.take l.length (l.map z6)=l.map z6:=zaeL (by simp);exact zW zYa
theorem zM7(t:zq)(r:Result)(n:Int)(he:0<=t.entry/\t.entry<=1000)(hl:t.results.length<=1000):zg G zn8 [.d (zd t),.d (z6 r),.d (.int .i64 n)] []=some (.d (zd (za4 t r n)),[]):=by
 have hc:=z6s t.results zo;have hn:=z6t t.inv;have hcase:t.results.map z6≠[]\/t.results=[]:=by cases t.results<;>simp
 unfold za4;generalize zdw t.inv=en at *;simp only[zd,z6,z9] at *
 by_cases c:t.entry+1=en
 ·rw[zacY c,zacY c];replace c:=zadb c;rw[zO zIe (by simp)];simp -implicitDefEqProofs (maxSteps:=4000000) (disch:=omega) only[zqU,ztg,zD,zj,go_sem, *];(try simp only[zPr]);repeat' (first|done|rfl|((first|refine zay (fun hq=> ?_) (fun hq=> ?_)|refine zaD (fun hq=> ?_) (fun hq=> ?_))<;>(try (first|(exfalso;omega)|contradiction))<;>(try simp -implicitDefEqProofs (maxSteps:=4000000) (disch:=omega) only[zD,zj,go_sem, *])<;>(try simp only[zPr])));(all_goals try rfl);(all_goals try (repeat' (first|done|rfl|(exfalso;omega)|contradiction|(refine zaz (fun hq=> ?_) (fun hq=> ?_)))))
 ·rw[zacX c,zacX c];rw[zO zIe (by simp)];simp -implicitDefEqProofs (maxSteps:=4000000) (disch:=omega) only[zqU,ztg,zD,zj,go_sem, *];(try simp only[zPr]);repeat' (first|done|rfl|((first|refine zay (fun hq=> ?_) (fun hq=> ?_)|refine zaD (fun hq=> ?_) (fun hq=> ?_))<;>(try (first|(exfalso;omega)|contradiction))<;>(try simp -implicitDefEqProofs (maxSteps:=4000000) (disch:=omega) only[zD,zj,go_sem, *])<;>(try simp only[zPr])));(all_goals try rfl);(all_goals try (repeat' (first|done|rfl|(exfalso;omega)|contradiction|(refine zaz (fun hq=> ?_) (fun hq=> ?_)))))
theorem z6P(t:zq):zg G zoa [.d (zd t)] []=some (.d (.int .i64 (z8 t 6 6)),[]):=by
 unfold z8
 cases c:t.done
 ·rw[zacX (by simp)]
  by_cases k:t.inv.kind=6
  ·rw[zacX zo];simp only[zd];exact zW zzl
  ·rw[zacY zo];simp only[zd];exact zW zzl
 ·rw[zacY rfl];simp only[zd];exact zW zzl
theorem z6N(a:zy)(t:zq)(n:Int)(he:0<=t.entry/\t.entry<=1000)(hl:t.results.length<=1000)(hd:0<=t.loaded/\t.loaded<=1073741824)(hpc:t.pc=0\/t.pc=1):zg G zlC [.d (zi a),.d (zd t),.d (.int .i64 n)] []=some (.d (.tup [zi (zb9 a t n).1,zd (zb9 a t n).2.1,.sl ((zb9 a t n).2.2.1.map zad),.int .i64 (zb9 a t n).2.2.2]),[]):=by
 have hg:=z6P t;have hw:=z6J a;unfold zb9;generalize z8 t 6 6=ge at *
 by_cases c0:ge=0
 ·subst c0;simp only[ne_eq,zac9,if_false]
  by_cases c1:t.pc=0
  ·rw[zacY c1];replace c1:=zadb c1
   by_cases c2:a.epoch=65536
   ·rw[zacY c2];have hn1:=zM7 { t with loaded:=a.epoch } (za8 6) n he hl;generalize za4 { t with loaded:=a.epoch } (za8 6) n=t2 at *;have sz_t2:=zA t2;generalize zd t2=D_t2 at *;replace c2:=zadb c2;simp only[zd,za8,z6,zam,evT,zbt,zacZ,zac1,zad] at *;exact zW zkp
   ·rw[zacX c2];replace c2:=zac3 c2;simp only[zd,evT,zbt,zacZ,zad] at *;exact zW zkp
  ·rw[zacX c1];have hp1:t.pc=1:=by omega
   have hn1:=zM7 t zam n he hl;have hc:=z6r a t.loaded (t.loaded+1);generalize za4 t zam n=tn at *;generalize casWord a 1 t.loaded (t.loaded+1)=c at *;clear c1 hpc hw;obtain⟨c1,c2,c3⟩:=c;obtain⟨u1,u2,u3,u4,u5,u6,u7,u8,u9,w1,w2,w3,w4,w5,w6,w7,w8,w9⟩:=t;simp only at *;subst hp1
   by_cases c4:c3=0
   ·subst c4;simp only[ne_eq,zac9,if_false] at *
    cases c2
    ·simp only[if_true] at *;simp only[zd,evT,zbt,zacZ,zad] at *;exact zW zkp
    ·simp only[zadA,if_false] at *;have sz_tn:=zA tn;generalize zd tn=D_tn at *;simp only[zd,z6,zam,evT,zbt,zacZ,zac1,zad] at *;exact zW zkp
   ·rw[zacY c4];replace c4:=zac3 c4;clear hn1;simp only[zd,zD,zi,zF,zacZ,z9,ze4,zdp,zK,zbu,zC,zcd,zdN,zec,zd3,zZ,ze5,zU,zcN,zbF,zdc,zaH,zdo,zfv,zX,zaW,zB] at *;exact zW zkp
 ·rw[zacY c0];replace c0:=zac3 c0;clear hw;simp only[zd,zD,zi,zF,zacZ,z9,ze4,zdp,zK,zbu,zC,zcd,zdN,zec,zd3,zZ,ze5,zU,zcN,zbF,zdc,zaH,zdo,zfv,zX,zaW,zB] at *;exact zW zkp
def prS(w:World)(k:Nat):St:=⟨[(4,.ref 4 0 0),(5,.d (.int .i64 k))],[(4,.row [.d (zM w)])]⟩
def prT(w:World)(k:Nat)(d:Bool):zq:={ zD with number:=1,inv:=⟨k,0,0,0,0,0,[[97]],[[1]]⟩,setup:=w.setup,done:=d }
theorem z6O(w:World):∀k:Nat,k<=16->zai G [] zmN (prS w k)=some (.exit 0,⟨[],[]⟩):=by
 refine za3 (fun k:Nat=>16 - k) _ _ _ fun k hk L ih=> ?_
 by_cases h0:k<16
 ·have i1:=ih (k+1) zo zo;have hp:=fun d=>z6N w.arena (prT w k d) 5 (by simp [prT,zD]) (by simp [prT,zD]) (by simp [prT,zD]) (by simp [prT,zD]);clear ih;have hg:∀d,(d=true\/¬(k:Int)=6)->zb9 w.arena (prT w k d) 5=(zF,zD,[],if d=true then 7 else 9):=by
   intro d hd;unfold zb9 z8 prT
   cases d
   ·have:¬(k:Int)=6:=by rcases hd with h|h;cases h;exact h
    have h6:(k:Int)<6\/6<(k:Int):=by omega
    simp only[h6,if_true,zac8,if_false,ne_eq,Int.reduceEq,zadw]
   ·simp only[if_true,ne_eq,Int.reduceEq,zadw]
  by_cases c:(k:Int).tmod 2=0
  ·have h1:=hp true;rw[hg true (.inl rfl)] at h1;clear hp hg;obtain⟨s,wa,tasks,log,steps,handles⟩:=w;simp only[prS,zmN,prT,zd,zD,zM,z9,zi,zF,zacZ,zac1,ze4,zdp,zK,zbu,zC,zcd,zdN,zec,zd3,zZ,ze5,zU,zcN,zbF,zdc,zaH,zdo,zfv,zX,zaW,zB,zaR,byD,if_true] at *;simp only[zNr,zE] at i1;have e1:((UInt8.toNat 1:Nat):Int)=1:=rfl;rw[e1] at h1
   by_cases k6:(k:Int)=6
   ·rw[k6] at h1 i1;simp only[Int.reduceAdd] at i1;exact zS
   ·exact zS
  ·have h1:=hp false;have k6:¬(k:Int)=6:=by
    intro q;rw[q] at c;exact c (by decide)
   rw[hg false (.inr k6)] at h1;clear hp hg;obtain⟨s,wa,tasks,log,steps,handles⟩:=w;simp only[prS,zmN,prT,zd,zD,zM,z9,zi,zF,zacZ,zac1,ze4,zdp,zK,zbu,zC,zcd,zdN,zec,zd3,zZ,ze5,zU,zcN,zbF,zdc,zaH,zdo,zfv,zX,zaW,zB,zaR,byD] at *;simp only[zNr,zE] at i1;have e1:((UInt8.toNat 1:Nat):Int)=1:=rfl;rw[e1] at h1;exact zS
 ·clear ih;simp only[prS,zmN];have sz_w:=zbo w;generalize zM w=D_w at *;exact zS
theorem z8Z(l:List Int)(hL:l.length<=LIM):zg G zn9 [.d (.sl (zB l))] []=some (.d (.bool true),[]):=by
 have hnew:=z1D l hL;have hl4:(l.take 4000).length<=4000:=by simp;omega
 obtain⟨w,u,a',hq,hw⟩:=zacy (l.take 4000) 0 10 hl4 zo;have hl:=z6O w 0 zo;have haw:=zSP;simp only[prS,zE,zado,zaeQ] at *;clear hq hl4 hL;have sz_w:=zbo w;generalize zM w=D_w at *;exact zW zXo
end Go.Proofs.YtdnlddoeamjcoaaGreat
