/-
  Cells of sections.
-/
import Derived.Test.YtdnlddoeamjcoaaGreatB842129c
import Derived.Test.YtdnlddoeamjcoaaGreatB8dc2bf0
import Derived.Test.YtdnlddoeamjcoaaGreatB95e251b
set_option linter.unusedSimpArgs false
set_option linter.unusedVariables false
set_option maxHeartbeats 10000000
set_option maxRecDepth 100000
namespace Go.Proofs.YtdnlddoeamjcoaaGreat
open Go Go.Sim
def slP(n:Nat)(c:Int):Bool:=decide (c<(n:Int))
def znF(a:zy)(s:Section)(i:Nat):St:=⟨[(2,.ref 2 0 0),(3,.ref 3 0 0),(5,.d (.int .i64 (zbV (slP a.slots.length) s.lock.cells i:Nat))),(6,.d (.int .i64 i))],[(2,.row [.d (zi a)]),(3,.row [.d (zC s)])]⟩
theorem zaaZ(a:zy)(s:Section)(hL:s.lock.cells.length<=1000):∀i,i<=s.lock.cells.length->zai G [] zsR (znF a s i)=some (.exit 0,⟨[(5,.d (.int .i64 (zbV (slP a.slots.length) s.lock.cells s.lock.cells.length:Nat)))],[]⟩):=by
 refine za3 (fun i=>s.lock.cells.length - i) (fun i=>i<=s.lock.cells.length) (znF a s) (fun _=>_) fun i hi L ih=> ?_;have hle:=zve (slP a.slots.length) s.lock.cells i
 by_cases h0:i<s.lock.cells.length
 ·have i1:=ih (i+1) zo zo;clear ih;unfold znF at i1 ⊢;rw[zvf _ h0] at i1;generalize zbV (slP a.slots.length) s.lock.cells i=k at *;generalize zbV (slP a.slots.length) s.lock.cells s.lock.cells.length=kk at *;unfold slP at i1;simp only[zsR,zi,zC] at i1 ⊢
  by_cases c:s.lock.cells[i]<(a.slots.length:Int)
  ·rw[zadn c] at i1;simp only[if_true] at i1;simp only[zNr,zE] at i1;exact zS
  ·rw[zadq c] at i1;simp only[zac8,if_false,zaek] at i1;simp only[zNr,zE] at i1;exact zS
 ·clear ih;have:i=s.lock.cells.length:=by omega
  subst this;simp only[znF,zsR,zi,zC];exact zS
theorem zQO(a:zy)(s:Section)(hL:s.lock.cells.length<=1000):zg G zpW [.d (zi a),.d (zC s)] []=some (.d (.int .i64 (zd0 a s)),[]):=by
 have h:=zaaZ a s hL 0 zo;have e:(zd0 a s)=(zbV (slP a.slots.length) s.lock.cells s.lock.cells.length:Nat):=by
  unfold zd0 zbV slP;rw[List.take_length]
 rw[e];generalize zbV (slP a.slots.length) s.lock.cells s.lock.cells.length=kk at *;simp only[znF,zbV,zadQ,zaeF,zac5] at h;simp only[zNr,zE] at h;exact zW zXW
theorem zabu(s:Section)(k:Int)(hL:s.out.order.length<=3):zg G zpP [.d (zC s),.d (.int .i64 k)] []=some (.d (.bool (zjH s k)),[]):=by
 have hl:zai G [] zA6 ⟨[(1,.d (.int .i64 k)),(2,.ref 2 0 0),(5,.d (.int .i64 (0:Nat)))],[(2,.row [.d (zC s)])]⟩=some (if (List.range s.out.order.length).all (fun i=> !decide (s.out.order.getD i 0=k))=true then (.exit 0,⟨[],[]⟩) else (.ret,⟨[(4,.d (.bool true))],[]⟩)):=by
  refine zhr (G:=G) s.out.order.length (fun i=> !decide (s.out.order.getD i 0=k)) (fun i=>⟨[(1,.d (.int .i64 k)),(2,.ref 2 0 0),(5,.d (.int .i64 i))],[(2,.row [.d (zC s)])]⟩) _ _ fun i hi L=> ?_;simp only[zA6,zC]
  by_cases h0:i<s.out.order.length
  ·rw[zacY h0,zj h0]
   by_cases c:s.out.order[i]=k
   ·subst c;exact zS
   ·exact zS
  ·rw[zacX h0];exact zS
 have e:zjH s k= !((List.range s.out.order.length).all (fun i=> !decide (s.out.order.getD i 0=k))):=by
  unfold zjH;apply zaef.2;simp only[zadY,decide_eq_true_eq,zadP,List.all_eq_false,zadU,Bool.not_eq_false',zaeD,zafZ];constructor
  ·rintro⟨x,hx,rfl⟩;obtain⟨i,hi,rfl⟩:=zae5.1 hx;exact⟨i,hi,by rw[zj hi]⟩
  ·rintro⟨i,hi,h⟩;rw[zj hi] at h;exact⟨_,zadf hi,by simpa using h⟩
 rw[e];generalize (List.range s.out.order.length).all (fun i=> !decide (s.out.order.getD i 0=k))=b at *;simp only[zC] at *;simp only[zNr,zE] at hl
 cases b
 ·simp only[zac8,if_false] at hl;exact zW zIH
 ·simp only[if_true] at hl;exact zW zIH
theorem zcL(c:Int):zg G zo9 [.d (.int .i64 c)] []=some (.d (.tup [zX (if c<1\/24<c then zaW else ⟨c,[]⟩),.int .i64 (if c<1\/24<c then 1 else 0)]),[]):=by
 by_cases h:c<1\/24<c
 ·rw[zacY h,zacY h];simp only[zX,zaW,zacZ];exact zW zIw
 ·rw[zacX h,zacX h];simp only[zX,zaW,zacZ];exact zW zIw
def zlp(l:List zl)(i:Nat):St:=⟨[(0,.d (.sl (l.map zn))),(3,.d (.int .i64 i))],[]⟩
def znH(l:List zl)(i:Nat):zac×St:=if zcp (l.drop i)≠0 then (.ret,⟨[(2,.d (.int .i64 (zcp (l.drop i))))],[]⟩) else (.exit 0,⟨[(0,.d (.sl (l.map zn)))],[]⟩)
theorem zaa1(l:List zl)(h1:l.length<=1000):∀i,i<=l.length->zai G [] zsI (zlp l i)=some (znH l i):=by
 refine za3 (fun i=>l.length - i) (fun i=>i<=l.length) (zlp l) (fun i=>some (znH l i)) fun i hi L ih=> ?_
 by_cases h0:i<l.length
 ·have i1:=ih (i+1) zo zo;clear ih;have hv:=zix l[i];unfold znH at i1 ⊢;rw[zHS h0];unfold zlp at i1;generalize zcp (l.drop (i+1))=fe at *;simp only[zlp,zsI];simp only[zNr,zE] at i1;generalize zaC l[i]=v at *
  by_cases c:v=0
  ·subst c;simp only[ne_eq,zac9,if_false];exact zS
  ·rw[zacY c,zacY c];clear i1;exact zS
 ·clear ih;have:i=l.length:=by omega
  subst this;unfold znH;rw[zadI];simp only[zlp,zcp,ne_eq,zac9,if_false,zsI];exact zS
def d8S(l:List zl)(i:Nat):St:=⟨[(0,.d (.sl (l.map zn))),(5,.d (.int .i64 i))],[]⟩
def d8R(l:List zl)(i:Nat):zac×St:=if zfh l i=true then (.ret,⟨[(2,.d (.int .i64 10))],[]⟩) else (.exit 2,⟨[],[]⟩)
theorem zU1(l:List zl)(h1:l.length<=1000):∀i,i<=l.length->zai G [] zsJ (d8S l i)=some (d8R l i):=by
 refine za3 (fun i=>l.length - i) (fun i=>i<=l.length) (d8S l) (fun i=>some (d8R l i)) fun i hi L ih=> ?_
 by_cases h0:i<l.length
 ·have i1:=ih (i+1) zo zo;clear ih;have hx:=zjf l l[i].id zo;unfold d8R at i1 ⊢;rw[zBd _ h0];unfold d8S at i1;generalize zfh l (i+1)=fe at *;simp only[d8S,zsJ];simp only[zNr,zE] at i1;generalize zaV l l[i].id=q at *
  by_cases hv:q=i
  ·subst hv;simp only[ne_eq,zac9,decide_false,zaej];simp -implicitDefEqProofs (maxSteps:=4000000) (disch:=omega) only[zn,zj,go_sem, *]
  ·simp only[ne_eq,hv,zadw,decide_true,zaeW,if_true];clear i1;simp -implicitDefEqProofs (maxSteps:=4000000) (disch:=omega) only[zn,zj,go_sem, *]
 ·clear ih;unfold d8R;rw[zBc _ h0];simp only[d8S,zsJ,zac8,if_false];exact zS
theorem zQR(l:List zl)(h:l.length<=1000):zg G zpe [.d (.sl (l.map zn))] []=some (.d (.int .i64 (zjG l)),[]):=by
 have h1:=zaa1 l h 0 zo;have h2:=zU1 l h 0 zo;unfold znH at h1;unfold d8R at h2;rw[zBb] at h2;simp only[zlp,zadu] at h1;simp only[d8S] at h2;unfold zjG;generalize zcp l=fe at *;generalize zea (l.map (·.id))=du at *;simp only[zNr,zE] at h1 h2
 by_cases c:fe=0
 ·subst c;simp only[ne_eq,zac9,if_false] at *
  cases du
  ·simp only[zac8,if_false] at *;exact zW zzG
  ·simp only[if_true] at *;exact zW zzG
 ·rw[zacY c] at h1 ⊢;clear h2;exact zW zzG
theorem znS(d:zbw)(hL:d.l.length<=1000):zg G zpd [.d (zX d)] []=some (.d (.int .i64 (zcI d)),[]):=by
 have hs:=zQR d.l hL;unfold zcI;obtain⟨c,l⟩:=d;simp only[zX] at *;generalize zjG l=v at *;exact zW zXG
theorem zQE(d:zbw)(hL:d.l.length<=1000):zg G zpb [.d (zX d)] []=some (.d (.int .i64 (zgU d)),[]):=by
 have hs:=znS d hL;have hc:zcI d=0->1<=d.cap/\d.cap<=24:=by
  intro h;unfold zcI at h
  split at h
  ·cases h
  ·omega
 unfold zgU;generalize zcI d=v at *;obtain⟨c,l⟩:=d;simp only[zX] at *
 by_cases h:v=0
 ·have:=hc h;subst h;exact zW zIx
 ·rw[zacY h];exact zW zIx
theorem z64(d:zbw)(l:List zl)(hL:d.l.length<=1000)(h2:l.length<=1000)(h3:d.l.length+l.length<=1000):zg G zpa [.d (zX d),.d (.sl (l.map zn))] []=some (.d (.tup [zX (zjx d l).1,.int .i64 (zjx d l).2]),[]):=by
 have hv:=znS d hL;have hr:=zQE d hL;have hs:=zQR (d.l++l) (by simpa using h3);unfold zjx;generalize zcI d=v at *;generalize zgU d=r at *;generalize zjG (d.l++l)=s at *;obtain⟨c,dl⟩:=d;simp only[zX] at *
 by_cases h:v=0
 ·subst h;simp only[ne_eq,zac9,if_false]
  by_cases c1:r<l.length
  ·rw[zacY c1];simp only[zaW,zacZ];exact zW zrS
  ·rw[zacX c1]
   by_cases c2:s=0
   ·subst c2;simp only[ne_eq,zac9,if_false];simp only[zNr,zE] at hs;exact zW zrS
   ·rw[zacY c2];simp only[zaW,zacZ];simp only[zNr,zE] at hs;exact zW zrS
 ·rw[zacY h];simp only[zaW,zacZ];exact zW zrS
theorem zabc(a:zy)(i k:Int)(s:zu)(hL:a.slots.length<=1000)(q:zbn s):zg G zpz [.d (zi a),.d (.int .i64 i),.d (.int .i64 k),.d (zk s)] []=some (.d (.tup [zi (stSlot a i k s).1,.int .i64 (stSlot a i k s).2]),[]):=by
 have h:=zQY a i k hL;have hv:=znk s q.1 q.2.1 q.2.2;unfold stSlot
 by_cases c:ze2 a i k=0
 ·have hq:0<=i/\i<a.slots.length:=by
     unfold ze2 at c
     split at c
     ·cases c
     ·rename_i q;exact znG (by simpa using fun z=>q (.inl z))
  rw[c] at h;rw[zacX (fun z=>z c)];have hne:¬a.slots.length=0:=by omega
  by_cases c1:zaf s=0
  ·rw[c1] at hv;rw[zacX (fun z=>z c1)];clear c c1
   by_cases c2:s.ready.cells.length=(a.slots.getD i.toNat zf3).shard.ready.cells.length
   ·rw[zacX (fun z=>z c2)];rw[zj zo] at c2 ⊢;simp only[zi,zk] at *;rw[zO zrX (by simp)];simp -implicitDefEqProofs (maxSteps:=4000000) (disch:=omega) only[zq1,ztn,zbE,zj,go_sem, *]
   ·rw[zacY c2];rw[zj zo] at c2;simp only[zi,zk,zF] at *;rw[zO zrX (by simp)];simp -implicitDefEqProofs (maxSteps:=4000000) (disch:=omega) only[zq1,ztn,zbE,zj,go_sem, *]
  ·rw[zacY c1];generalize zaf s=v at *;simp only[zi,zF,zk] at *;exact zW zrX
 ·rw[zacY c];generalize ze2 a i k=v at *;simp only[zi,zF,zk] at *;exact zW zrX
theorem zabb(a:zy)(k:Int)(d:zbw)(hL:d.l.length<=1000):zg G zpy [.d (zi a),.d (.int .i64 k),.d (zX d)] []=some (.d (.tup [zi (stDead a k d).1,.int .i64 (stDead a k d).2]),[]):=by
 have ht:=ztV k;have hv:=znS d hL;unfold stDead;generalize zgY k=tb at *;generalize zcI d=v at *;simp only[zi,zX] at *
 cases tb
 ·rw[zO zID (by simp)];simp -implicitDefEqProofs (maxSteps:=4000000) (disch:=omega) only[zq0,ztm,zF,zaW,zj,go_sem, *]
 ·simp only[zadA,if_false];rw[zO zID (by simp)];simp -implicitDefEqProofs (maxSteps:=4000000) (disch:=omega) only[zq0,ztm,zF,zaW,zj,go_sem, *];(try simp only[zPr]);repeat' (first|done|rfl|((first|refine zay (fun hq=> ?_) (fun hq=> ?_)|refine zaD (fun hq=> ?_) (fun hq=> ?_))<;>(try (first|(exfalso;omega)|contradiction))<;>(try simp -implicitDefEqProofs (maxSteps:=4000000) (disch:=omega) only[zF,zaW,zj,go_sem, *])<;>(try simp only[zPr])));(all_goals try rfl);(all_goals try (repeat' (first|done|rfl|(exfalso;omega)|contradiction|(refine zaz (fun hq=> ?_) (fun hq=> ?_)))))
theorem zTd(a:zy)(v:Int)(d:zaM)(hL:d.l.length<=4294967296):zg G zpr [.d (zi a),.d (.int .i64 v),.d (zU d)] []=some (.d (.tup [zi (casDir a v d).1,.bool (casDir a v d).2.1,.int .i64 (casDir a v d).2.2]),[]):=by
 have hv:=zk9 d hL;unfold casDir;generalize zbC d=w at *;simp only[zi,zU] at *
 by_cases c0:w=0
 ·subst c0;simp only[ne_eq,zac9,if_false]
  by_cases c:d.forward.length=a.slots.length
  ·rw[zacX (fun q=>q c)];exact zW zzK
  ·rw[zacY c];rw[zO zzK (by simp)];simp -implicitDefEqProofs (maxSteps:=4000000) (disch:=omega) only[zqZ,ztl,zF,zaW,zj,go_sem, *]
 ·rw[zacY c0];rw[zO zzK (by simp)];simp -implicitDefEqProofs (maxSteps:=4000000) (disch:=omega) only[zqZ,ztl,zF,zaW,zj,go_sem, *]
theorem zaaY(a:zy)(s:Section):0<=zd0 a s/\zd0 a s<=s.lock.cells.length:=by
 unfold zd0;have:=zaeh (fun c=>decide (c<(a.slots.length:Int))) s.lock.cells;omega
theorem zSc(d:zaM)(e:zeu):(zg4 d e).1.l.length<=d.l.length+2:=by
 unfold zg4 zC3 zBv
 (repeat' split)
 all_goals (try (simp [zcN];done))
 all_goals (try (simp;omega))
theorem zmf{s:Section}{i:Int}(h0:0<=i)(h1:i<s.lock.cells.length):zc1 s i=s.lock.cells[i.toNat]'(by omega):=by
 unfold zc1;exact zj zo
theorem z0u(a:zy)(s:Section)(k:Int)(hL:a.slots.length<=1000)(hs:a.stripes.length=a.slots.length)(h0:0<=s.at_)(h1:s.at_<2 * s.lock.cells.length)(hc:s.lock.cells.length<=3)(h2:(s.stripes.length:Int)=(s.at_+1) / 2):zg G zpV [.d (zi a),.d (zC s),.d (.int .i64 k)] []=some (.d (.tup [zi (zfT a s k).1,zC (zfT a s k).2.1,.int .i64 (zfT a s k).2.2]),[]):=by
 have e1:s.at_.tdiv 2=s.at_ / 2:=zaeC h0;have e2:s.at_.tmod 2=s.at_ % 2:=zafY h0;unfold zfT;rw[e1,e2,zmf zo zo]
 by_cases c:s.at_ % 2=0
 ·rw[zacY c];have hl:=zBe a (s.lock.cells[(s.at_ / 2).toNat]'(by omega)) hL hs;generalize zeJ a (s.lock.cells[(s.at_ / 2).toNat]'(by omega))=r at *;obtain⟨x,e⟩:=r;replace c:=zadb c;simp only[zC] at *;exact zW zmz
 ·rw[zacX c];have hi:(s.at_ / 2).toNat<s.stripes.length:=by omega
  rw[zj hi];have hb:=zSQ (s.stripes[(s.at_ / 2).toNat]);replace c:=zac3 c;generalize zhO (s.stripes[(s.at_ / 2).toNat])=b at *;obtain⟨x,e⟩:=b
  by_cases c1:e=0
  ·subst c1;have hst:=zQW a (s.lock.cells[(s.at_ / 2).toNat]'(by omega)) k x hL hs;simp only[ne_eq,zac9,if_false];generalize stStripe a (s.lock.cells[(s.at_ / 2).toNat]'(by omega)) k x=r at *;obtain⟨a2,e⟩:=r;have hsl:=zQO a2 { s with stripes:=s.stripes.take (s.at_ / 2).toNat++[x],at_:=s.at_+1 } (by simpa using (by omega:s.lock.cells.length<=1000));have hen:=zfw { s with stripes:=s.stripes.take (s.at_ / 2).toNat++[x],at_:=s.at_+1 } 2;have hsn:=zaaY a2 { s with stripes:=s.stripes.take (s.at_ / 2).toNat++[x],at_:=s.at_+1 };unfold zah at *;simp only at *;generalize zd0 a2 { s with stripes:=s.stripes.take (s.at_ / 2).toNat++[x],at_:=s.at_+1 }=sn at *
   by_cases c2:e=0/\s.at_+1=2 * sn
   ·rw[zacY c2];obtain⟨rfl,c3⟩:=c2;replace c3:=zadb c3;simp only[zC,zadg,zac1,zacZ] at *;exact zW zmz
   ·rw[zacX c2];simp only[zC,zadg,zac1,zacZ] at *
    by_cases c4:e=0
    ·subst c4;have c5:(s.at_+1=2 * sn)=False:=zac3 (fun q=>c2 ⟨rfl,q⟩);clear c2;exact zW zmz
    ·clear c2;exact zW zmz
  ·rw[zacY c1];simp only[zC] at *;exact zW zmz
theorem zZ7(a:zy)(s:Section)(hL:a.slots.length<=1000)(h0:0<=s.at_)(h1:s.at_<s.lock.cells.length)(hc:s.lock.cells.length<=3)(h2:s.shards.length<=100):zg G zpU [.d (zi a),.d (zC s)] []=some (.d (.tup [zi (zfS a s).1,zC (zfS a s).2.1,.int .i64 (zfS a s).2.2]),[]):=by
 unfold zfS;rw[zmf h0 h1];have hd:=zZL a
 by_cases c:(s.lock.cells[s.at_.toNat]'(by omega))=a.slots.length
 ·simp only[c,if_true]
  by_cases c2:s.at_+1=s.lock.cells.length
  ·have he:=zfw { s with dead:=a.dead.dead,at_:=s.at_+1 } 3;rw[zacY c2];replace c2:=zadb c2;unfold zah at *;simp only[zC,zi,zX] at *;exact zW zrY
  ·rw[zacX c2];simp only[zC,zi,zX] at *;exact zW zrY
 ·have hl:=zZM a (s.lock.cells[s.at_.toNat]'(by omega)) hL;simp only[c,if_false];generalize zho a (s.lock.cells[s.at_.toNat]'(by omega))=r at *;obtain⟨x,e⟩:=r
  by_cases c2:s.at_+1=s.lock.cells.length
  ·have he:=zfw { s with shards:=s.shards++[x],at_:=s.at_+1 } 3;rw[zacY c2];replace c2:=zadb c2;unfold zah at *;simp only[zC,zi,zadg,zac1,zacZ] at *;exact zW zrY
  ·rw[zacX c2];simp only[zC,zi,zadg,zac1,zacZ] at *;exact zW zrY
theorem zVC(a:zy)(s:Section)(hd:s.dir.l.length<=65536)(h0:0<=s.at_)(h1:s.out.edits.length=1):zg G zpR [.d (zi a),.d (zC s)] []=some (.d (.tup [zi (zfR a s).1,zC (zfR a s).2.1,.int .i64 (zfR a s).2.2]),[]):=by
 have hld:=zsS a;unfold zfR
 by_cases c:s.at_=0
 ·rw[zacY c];replace c:=zadb c;simp only[zC,zU] at *;exact zW zmy
 ·rw[zacX c];replace c:=zac3 c;have hap:=z8h s.dir (s.out.edits[0]'(by omega)) zo;rw[zj (show 0<s.out.edits.length by omega)];have hlen:=zSc s.dir (s.out.edits[0]'(by omega));generalize zg4 s.dir (s.out.edits[0]'(by omega))=r at *;obtain⟨d,e⟩:=r;simp only at *
  by_cases c1:e=0
  ·rw[zacX (fun q=>q c1)];subst c1;have hcd:=zTd a s.dir.version d zo;generalize casDir a s.dir.version d=r at *;obtain⟨a2,b,e⟩:=r;have hum:=zt3 a2 { s with dir:=d };generalize zcM a2 { s with dir:=d }=r2 at *;obtain⟨a3,s3,e3⟩:=r2;simp only at *
   by_cases c4:e=0
   ·subst c4;simp only[ne_eq,zac9,if_false]
    cases b
    ·simp only[if_true];clear hum;simp only[zC,zU] at *;exact zW zmy
    ·simp only[zadA,if_false];have sz_s3:=zeb s3;generalize zC s3=D_s3 at *;simp only[zC,zU] at *;exact zW zmy
   ·rw[zacY c4];clear hum;simp only[zC,zU] at *;exact zW zmy
  ·rw[zacY c1];simp only[zC,zU] at *;exact zW zmy
theorem zabt(a:zy)(s:Section)(k:Int)(hL:a.slots.length<=1000)(h0:0<=s.at_)(h1:s.at_<s.out.order.length)(ho:∀o∈s.out.order,0<=o/\o<s.lock.cells.length)(hol:s.out.order.length<=3)(hsh:∀o∈s.out.order,zc1 s o≠a.slots.length->o<s.out.shards.length)(hf:∀x∈s.out.shards,zbn x)(hd:s.out.dead.l.length<=1000):zg G zpY [.d (zi a),.d (zC s),.d (.int .i64 k)] []=some (.d (.tup [zi (zfV a s k).1,zC (zfV a s k).2.1,.int .i64 (zfV a s k).2.2]),[]):=by
 have hi:s.at_.toNat<s.out.order.length:=by omega
 have hm:=ho _ (zadf hi);have hsh:=hsh _ (zadf hi);unfold zfV;simp only;rw[zj hi];have hen:=zfw { s with at_:=s.at_+1,carry:=[] } 6;unfold zah at *;rw[zmf hm.1 hm.2] at *;generalize ho':s.out.order[s.at_.toNat]=o at *;have ho2:s.out.order[s.at_.toNat]? = some o:=by rw[zada hi,ho']
 by_cases c:(s.lock.cells[o.toNat]'(by omega))=a.slots.length
 ·have hst:=zabb a k s.out.dead hd;simp only[c,if_true];generalize stDead a k s.out.dead=r at *;obtain⟨a2,e⟩:=r;simp only at *
  by_cases c1:e=0
  ·subst c1;simp only[ne_eq,zac9,if_false]
   by_cases c2:s.at_+1<s.out.order.length
   ·rw[zacY c2];clear hen;simp only[zi,zC,zX] at *;exact zW zh9
   ·rw[zacX c2]
    by_cases c3:0<s.out.edits.length
    ·rw[zacY c3];simp only[zi,zC,zX,zacZ] at *;exact zW zh9
    ·rw[zacX c3];have hum:=zt3 a2 { s with at_:=s.at_+1,carry:=[] };generalize zcM a2 { s with at_:=s.at_+1,carry:=[] }=u at *;obtain⟨u1,u2,u3⟩:=u;simp only at *;have sz_u2:=zeb u2;generalize zC u2=D_u2 at *;have sz_u1:=zaq u1;generalize zi u1=D_u1 at *;clear hen;simp only[zi,zC,zX,zacZ] at *;exact zW zh9
  ·rw[zacY c1];clear hen;simp only[zi,zC,zX] at *;exact zW zh9
 ·have hs2:o.toNat<s.out.shards.length:=by have:=hsh c;omega
  have hst:=zabc a (s.lock.cells[o.toNat]'(by omega)) k s.out.shards[o.toNat] hL (hf _ (zadf hs2));simp only[c,if_false];rw[zj hs2];generalize stSlot a (s.lock.cells[o.toNat]'(by omega)) k s.out.shards[o.toNat]=r at *;obtain⟨a2,e⟩:=r;simp only at *
  by_cases c1:e=0
  ·subst c1;simp only[ne_eq,zac9,if_false]
   by_cases c2:s.at_+1<s.out.order.length
   ·rw[zacY c2];clear hen;simp only[zi,zC,zX] at *;exact zW zh9
   ·rw[zacX c2]
    by_cases c3:0<s.out.edits.length
    ·rw[zacY c3];simp only[zi,zC,zX,zacZ] at *;exact zW zh9
    ·rw[zacX c3];have hum:=zt3 a2 { s with at_:=s.at_+1,carry:=[] };generalize zcM a2 { s with at_:=s.at_+1,carry:=[] }=u at *;obtain⟨u1,u2,u3⟩:=u;simp only at *;have sz_u2:=zeb u2;generalize zC u2=D_u2 at *;have sz_u1:=zaq u1;generalize zi u1=D_u1 at *;clear hen;simp only[zi,zC,zX,zacZ] at *;exact zW zh9
  ·rw[zacY c1];clear hen;simp only[zi,zC,zX] at *;exact zW zh9
theorem zacn(a:zy)(s:Section)(k:Int)(hL:a.slots.length<=1000)(hsl:a.stripes.length=a.slots.length)(h0:0<=s.at_)(h1:s.at_<s.stripes.length)(h2:s.at_<s.shards.length)(h3:s.at_<s.out.shards.length)(h4:s.at_<s.lock.cells.length)(h5:s.stripes.length<=100)(hol:s.out.order.length<=3)(hf:∀x∈s.out.shards,zbn x)(hg:∀x∈s.shards,zbn x):zg G zpZ [.d (zi a),.d (zC s),.d (.int .i64 k)] []=some (.d (.tup [zi (zfW a s k).1,zC (zfW a s k).2.1,.int .i64 (zfW a s k).2.2]),[]):=by
 have hq:=zabu s s.at_ hol;have i1:s.at_.toNat<s.stripes.length:=by omega
 have i2:s.at_.toNat<s.shards.length:=by omega
 have i3:s.at_.toNat<s.out.shards.length:=by omega
 have hfr:=zH0 { s with at_:=s.at_+1 };unfold zfW;simp only;rw[zmf h0 h4,zj i1,zj i2,zj i3];generalize zdd { s with at_:=s.at_+1 }=f at *;obtain⟨f1,f2⟩:=f;generalize zjH s s.at_=q at *;have hen:∀x,zbn x->_:=fun x hx=>zVD s.stripes[s.at_.toNat] x s.snap.epoch s.limit hx.1 hx.2.1 hx.2.2;have hen:zg G zlR [.d (zae s.stripes[s.at_.toNat]),.d (zk (if q=true then s.out.shards[s.at_.toNat] else s.shards[s.at_.toNat])),.d (.int .i64 s.snap.epoch),.d (.int .i64 s.limit)] []=_:=hen _ (by cases q;exact hg _ (zadf i2);exact hf _ (zadf i3));generalize zi4 s.stripes[s.at_.toNat] (if q=true then s.out.shards[s.at_.toNat] else s.shards[s.at_.toNat]) s.snap.epoch s.limit=x at *;obtain⟨x,e⟩:=x;have hst:=zQW a (s.lock.cells[s.at_.toNat]'(by omega)) k x hL hsl;generalize stStripe a (s.lock.cells[s.at_.toNat]'(by omega)) k x=r at *;obtain⟨a2,e2⟩:=r;simp only at *
 by_cases c:e=0
 ·subst c;simp only[ne_eq,zac9,if_false]
  by_cases c2:e2=0
  ·subst c2;simp only[ne_eq,zac9,if_false]
   by_cases c3:s.at_+1=s.stripes.length
   ·rw[zacY c3];replace c3:=zadb c3;have sz_f1:=zeb f1;generalize zC f1=D_f1 at *
    cases q
    ·simp only[zC,zac8,if_false] at *;exact zW zia
    ·simp only[zC,if_true] at *;exact zW zia
   ·rw[zacX c3];replace c3:=zac3 c3;clear hfr
    cases q
    ·simp only[zC,zac8,if_false] at *;exact zW zia
    ·simp only[zC,if_true] at *;exact zW zia
  ·rw[zacY c2]
   cases q
   ·simp only[zC,zac8,if_false] at *;exact zW zia
   ·simp only[zC,if_true] at *;exact zW zia
 ·rw[zacY c]
  cases q
  ·simp only[zC,zac8,if_false] at *;exact zW zia
  ·simp only[zC,if_true] at *;exact zW zia
structure zqL(a:zy)(s:Section):Prop where
 sl:a.slots.length<=1000
 st:a.stripes.length=a.slots.length
 lw:LWF 1000000 s.lock
 p1:s.phase=1->0<=s.at_/\s.at_<2 * s.lock.cells.length/\(s.stripes.length:Int)=(s.at_+1) / 2
 p2:s.phase=2->0<=s.at_/\s.at_<s.lock.cells.length/\s.shards.length<=100
 p5:s.phase=5->0<=s.at_/\s.at_<s.out.order.length/\(∀o∈s.out.order,zc1 s o≠a.slots.length->o<s.out.shards.length)
 p6:s.phase=6->0<=s.at_/\s.out.edits.length=1
 p7:s.phase=7->0<=s.at_/\s.at_<s.stripes.length/\s.at_<s.shards.length/\s.at_<s.out.shards.length/\s.at_<s.lock.cells.length/\s.stripes.length<=100
 od:(∀o∈s.out.order,0<=o/\o<s.lock.cells.length)/\s.out.order.length<=3
 f1:∀x∈s.out.shards,zbn x
 f2:∀x∈s.shards,zbn x
 dd:s.out.dead.l.length<=1000
 di:s.dir.l.length<=65536
theorem zabj(a:zy)(s:Section)(k n:Int)(h:zqL a s):zg G zpX [.d (zi a),.d (zC s),.d (.int .i64 k),.d (.int .i64 n)] []=some (.d (.tup [zi (zfU a s k n).1,zC (zfU a s k n).2.1,.int .i64 (zfU a s k n).2.2]),[]):=by
 unfold zfU
 by_cases c0:s.phase=0
 ·rw[zacY c0];have hl:=zL8 a s.lock k h.sl h.lw;have hke:=zBk (k:=k) (a:=a) h.lw;have hcl:=h.lw.c2;unfold zhC;generalize zbi a s.lock k=r at *;obtain⟨a2,l,e⟩:=r;replace c0:=zadb c0;simp only at *
  by_cases c:e=0/\l.phase=3
  ·rw[zacY c];obtain⟨rfl,c3⟩:=c;have hce:=(hke rfl).2.1;have hs:=zQO a (zah { s with lock:=l } 1) (by show l.cells.length<=1000;rw[hce];omega);have hs2:zd0 a (zah { s with lock:=l } 1)=zd0 a s:=by unfold zd0 zah;simp only[hce]
   rw[hs2] at hs;have e1:=zfw { s with lock:=l } 1;have e2:=zfw (zah { s with lock:=l } 1) 2;clear hke hs2 hce;replace c3:=zadb c3;generalize zd0 a s=sn at *;unfold zah at *;simp only[zC,zcd] at *
   by_cases c4:sn=0
   ·rw[zacY c4];exact zW zff
   ·rw[zacX c4];exact zW zff
  ·rw[zacX c];clear hke;simp only[zC,zcd] at *;exact zW zff
 rw[zacX c0]
 by_cases c1:s.phase=1
 ·rw[zacY c1];obtain⟨q1,q2,q3⟩:=h.p1 c1;have hm:=z0u a s k h.sl h.st q1 q2 h.lw.c2 q3;generalize zfT a s k=r at *;obtain⟨a2,s2,e⟩:=r;have sz_s2:=zeb s2;generalize zC s2=D_s2 at *;clear h c0 q1 q2 q3;obtain⟨ph,at_,lk,sn,sh,dd,st,di,ou,lm,ca⟩:=s;simp only at c1;subst c1;simp only[zC] at *;exact zW zff
 rw[zacX c1]
 by_cases c2:s.phase=2
 ·rw[zacY c2];obtain⟨q1,q2,q3⟩:=h.p2 c2;have hm:=zZ7 a s h.sl q1 q2 h.lw.c2 q3;generalize zfS a s=r at *;obtain⟨a2,s2,e⟩:=r;have sz_s2:=zeb s2;generalize zC s2=D_s2 at *;clear h c0 q1 q2 q3;obtain⟨ph,at_,lk,sn,sh,dd,st,di,ou,lm,ca⟩:=s;simp only at c2;subst c2;simp only[zC] at *;exact zW zff
 rw[zacX c2]
 by_cases c3:s.phase=3
 ·rw[zacY c3];have hm:=zaa0 a s.snap n;unfold ziG;generalize zdI a s.snap n=r at *;obtain⟨x,e⟩:=r;have e1:=zfw { s with snap:=x } 4;unfold zah at *;clear h c0 c1 c2;obtain⟨ph,at_,lk,sn,sh,dd,st,di,ou,lm,ca⟩:=s;simp only at *;subst c3
  by_cases c:e=0/\x.phase=3
  ·rw[zacY c];obtain⟨rfl,c5⟩:=c;replace c5:=zadb c5;simp only[zC,zec] at *;exact zW zff
  ·rw[zacX c];simp only[zC,zec] at *;exact zW zff
 rw[zacX c3]
 by_cases c5:s.phase=5
 ·rw[zacY c5];obtain⟨q1,q2,q3⟩:=h.p5 c5;have hm:=zabt a s k h.sl q1 q2 h.od.1 h.od.2 q3 h.f1 h.dd;generalize zfV a s k=r at *;obtain⟨a2,s2,e⟩:=r;have sz_s2:=zeb s2;generalize zC s2=D_s2 at *;clear h c0 c1 c2 c3 q1 q2 q3;obtain⟨ph,at_,lk,sn,sh,dd,st,di,ou,lm,ca⟩:=s;simp only at c5;subst c5;simp only[zC] at *;exact zW zff
 rw[zacX c5]
 by_cases c6:s.phase=6
 ·rw[zacY c6];obtain⟨q1,q2⟩:=h.p6 c6;have hm:=zVC a s h.di q1 q2;generalize zfR a s=r at *;obtain⟨a2,s2,e⟩:=r;have sz_s2:=zeb s2;generalize zC s2=D_s2 at *;clear h c0 c1 c2 c3 c5 q1 q2;obtain⟨ph,at_,lk,sn,sh,dd,st,di,ou,lm,ca⟩:=s;simp only at c6;subst c6;simp only[zC] at *;exact zW zff
 rw[zacX c6]
 by_cases c7:s.phase=7
 ·rw[zacY c7];obtain⟨q1,q2,q3,q4,q5,q6⟩:=h.p7 c7;have hm:=zacn a s k h.sl h.st q1 q2 q3 q4 q5 q6 h.od.2 h.f1 h.f2;generalize zfW a s k=r at *;obtain⟨a2,s2,e⟩:=r;have sz_s2:=zeb s2;generalize zC s2=D_s2 at *;clear h c0 c1 c2 c3 c5 c6 q1 q2 q3 q4 q5 q6;obtain⟨ph,at_,lk,sn,sh,dd,st,di,ou,lm,ca⟩:=s;simp only at c7;subst c7;simp only[zC] at *;exact zW zff
 rw[zacX c7]
 by_cases c8:s.phase=8
 ·rw[zacY c8];have hl:=zL8 a s.lock k h.sl h.lw;unfold zhB;generalize zbi a s.lock k=r at *;obtain⟨a2,l,e⟩:=r;have e1:=zfw { s with lock:=l } 9;unfold zah at *;clear h c0 c1 c2 c3 c5 c6 c7;obtain⟨ph,at_,lk,sn,sh,dd,st,di,ou,lm,ca⟩:=s;simp only at *;subst c8
  by_cases c:e=0/\l.phase=5
  ·rw[zacY c];obtain⟨rfl,c5⟩:=c;replace c5:=zadb c5;simp only[zC,zcd] at *;exact zW zff
  ·rw[zacX c];simp only[zC,zcd] at *;exact zW zff
 ·rw[zacX c8];clear h;simp only[zC] at *;exact zW zff
theorem zabk(a:zy)(s:Section)(k n:Int)(h:zqL a s):zg G zpO [.d (zi a),.d (zC s),.d (.int .i64 k),.d (.int .i64 n)] []=some (.d (.tup [zi (zcX a s k n).1,zC (zcX a s k n).2.1,.int .i64 (zcX a s k n).2.2]),[]):=by
 have hs:=zabj a s k n h;unfold zcX;generalize zfU a s k n=r at *;obtain⟨a2,s2,e⟩:=r;clear h;simp only at *;have sz_s:=zeb s;generalize zC s=D_s at *
 by_cases c:e=0
 ·subst c;simp only[ne_eq,zac9,if_false];have sz_s2:=zeb s2;generalize zC s2=D_s2 at *;exact zW zIG
 ·rw[zacY c];have sz_s2:=zeb s2;generalize zC s2=D_s2 at *;have sz_a:=zaq a;generalize zi a=D_a at *;have sz_a2:=zaq a2;generalize zi a2=D_a2 at *;rw[zO zIG (by simp)];simp -implicitDefEqProofs (maxSteps:=4000000) (disch:=omega) only[zu4,zCz,zi,zC,zF,zbu,zj,go_sem, *]
theorem zeD(a:zy)(t:zq)(n:Int)(h:zqL a t.sec):zg G zqa [.d (zi a),.d (zd t),.d (.int .i64 n)] []=some (.d (.tup [zi (goT a t n).1,zd (goT a t n).2.1,.bool (goT a t n).2.2.1,.bool (goT a t n).2.2.2.1,.int .i64 (goT a t n).2.2.2.2]),[]):=by
 have hs:=zabk a t.sec t.number n h;unfold goT;generalize zcX a t.sec t.number n=r at *;obtain⟨a2,s2,e⟩:=r;clear h
 by_cases c:e=0
 ·subst c;simp only[ne_eq,zac9,if_false];simp only[zd,zC] at *;exact zW zIK
 ·rw[zacY c];have sz_a:=zaq a;generalize zi a=D_a at *;have sz_a2:=zaq a2;generalize zi a2=D_a2 at *;simp only[zd,zC] at *;rw[zO zIK (by simp)];simp -implicitDefEqProofs (maxSteps:=4000000) (disch:=omega) only[zva,zCF,zi,zF,zD,zj,go_sem, *]
def zsA:AV:= .agg [.d (.int .i64 0),.d (.int .i64 0),.xsl [],.d (.int .i64 0),.d (.int .i64 0),.d (.int .i64 0),.d (.int .i64 0),.d (.int .i64 0),.d (.int .i64 0),.d (.int .i64 0),.d (.int .i64 0),.xsl [],.d (.int .i64 0),.xsl [],.xsl [],.d (.int .i64 0),.xsl [],.xsl [],.xsl [],.d (.int .i64 0),.xsl [],.xsl [],.xsl [],.xsl [],.d (.int .i64 0),.xsl []]
def znc(n:Int)(l:List Int)(i:Nat):Bool:=decide (0<=l.getD i 0/\l.getD i 0<n)&&(List.range i).all fun k=> !decide (l.getD k 0=l.getD i 0)
theorem z6h(n:Int)(l:List Int):zk2 n l=(List.range l.length).all (znc n l):=by
 unfold zk2;apply zaef.2;simp only[decide_eq_true_eq,zadp,zadU,znc,zac7,zadP,decide_eq_false_iff_not];constructor
 ·rintro⟨h1,h2⟩ i hi;refine⟨by rw[zj hi];exact h1 _ (zadf hi),fun k hk=> ?_⟩;rw[zj hi,zj (show k<l.length by omega)];intro e;have:=(zafy.1 h2);rw[zad7] at this;exact this k i zo hi hk e
 ·intro h;refine⟨fun o ho=> ?_,?_⟩
  ·obtain⟨i,hi,rfl⟩:=zae5.1 ho;have:=(h i hi).1
   rwa [zj hi] at this
  ·rw[zafy,zad7];intro k i hk hi hki e;have:=(h i hi).2 k hki;rw[zj hi,zj hk] at this;exact this e
def dcH(s:Section)(o:zcz):zf:=[(2,.row [.d (zC s)]),(3,.row [.d (zZ o)]),(4,.row [zsA])]
def dcR:zac×St:=(.ret,⟨[(4,.ref 4 0 0),(5,.d (.int .i64 1))],[(4,.row [zsA])]⟩)
theorem zUa(s:Section)(o:zcz)(i:Nat)(hi:i<o.order.length)(hl:o.order.length<=3):zai G [] zsP ⟨[(2,.ref 2 0 0),(3,.ref 3 0 0),(4,.ref 4 0 0),(6,.d (.int .i64 i)),(7,.d (.int .i64 (0:Nat)))],dcH s o⟩=some (if (List.range i).all (fun k=> !decide (o.order.getD k 0=o.order.getD i 0))=true then (.exit 2,⟨[(2,.ref 2 0 0),(3,.ref 3 0 0),(4,.ref 4 0 0),(6,.d (.int .i64 i))],dcH s o⟩) else dcR):=by
 refine zhr (G:=G) i (fun k=> !decide (o.order.getD k 0=o.order.getD i 0)) (fun k=>⟨[(2,.ref 2 0 0),(3,.ref 3 0 0),(4,.ref 4 0 0),(6,.d (.int .i64 i)),(7,.d (.int .i64 k))],dcH s o⟩) _ _ fun k hk L=> ?_;simp only[zsP,dcH,dcR,zsA,zC,zZ,zbu];rw[zj hi]
 by_cases h0:k<i
 ·rw[zacY h0,zj (show k<o.order.length by omega)]
  by_cases c:o.order[k]=o.order[i]
  ·rw[zadn c];replace c:=zadb c;exact zS
  ·rw[zadq c];replace c:=zac3 c;exact zS
 ·rw[zacX h0];exact zS
theorem zUb(s:Section)(o:zcz)(hl:o.order.length<=3)(hc:s.lock.cells.length<=3):zai G [] zsQ ⟨[(2,.ref 2 0 0),(3,.ref 3 0 0),(4,.ref 4 0 0),(6,.d (.int .i64 (0:Nat)))],dcH s o⟩=some (if (List.range o.order.length).all (znc s.lock.cells.length o.order)=true then (.exit 0,⟨[(2,.ref 2 0 0),(3,.ref 3 0 0),(4,.ref 4 0 0)],dcH s o⟩) else dcR):=by
 refine zhr (G:=G) o.order.length (znc s.lock.cells.length o.order) (fun k=>⟨[(2,.ref 2 0 0),(3,.ref 3 0 0),(4,.ref 4 0 0),(6,.d (.int .i64 k))],dcH s o⟩) _ _ fun k hk L=> ?_
 by_cases h0:k<o.order.length
 ·have hi:=zUa s o k h0 hl;unfold znc;rw[zacY h0];generalize (List.range k).all (fun j=> !decide (o.order.getD j 0=o.order.getD k 0))=b at *;rw[zj h0];simp only[zsQ,dcH,dcR,zsA,zC,zZ] at *;simp only[zNr,zE] at hi
  by_cases c:0<=o.order[k]/\o.order[k]<(s.lock.cells.length:Int)
  ·rw[zadn c]
   cases b
   ·simp only[zael,zac8,if_false] at *;exact zS
   ·simp only[zaei,if_true] at *;exact zS
  ·rw[zadq c];clear hi;simp only[zadO,zac8,if_false];exact zS
 ·rw[zacX h0];simp only[zsQ,dcH,dcR,zsA,zC,zZ];exact zS
theorem zUf(s:Section)(o:zcz)(hl:o.order.length<=3)(hc:s.lock.cells.length<=3):zg G zlS [.d (zC s),.d (zZ o)] []=some (.d (.tup [zC (zfd s o).1,.int .i64 (zfd s o).2]),[]):=by
 have hlp:=zUb s o hl hc;rw[<- z6h] at hlp;unfold zfd
 by_cases c0:s.phase≠4
 ·rw[zacY c0];clear hlp;have c0:(s.phase=4)=False:=zac3 c0;simp only[zC,zZ,zbu] at *;exact zW zjd
 rw[zacX c0];replace c0:(s.phase=4)=True:=zadb (zadh.1 c0)
 by_cases c1:o.shards.length≠s.shards.length\/1<o.edits.length
 ·rw[zacY c1];clear hlp;simp only[zC,zZ,zbu] at *
  by_cases c2:o.shards.length=s.shards.length
  ·have c3:1<o.edits.length:=by omega
   clear c1;replace c2:((o.shards.length:Int)=s.shards.length)=True:=zadb zo;exact zW zjd
  ·clear c1;exact zW zjd
 rw[zacX c1];have c2:((o.shards.length:Int)=s.shards.length)=True:=zadb zo;have c3:¬1<o.edits.length:=by omega
 clear c1
 cases c4:zk2 s.lock.cells.length o.order
 ·simp only[c4,if_true,zac8,if_false] at hlp ⊢;clear c4;simp only[dcH,dcR,zsA,zC,zZ,zbu] at *;simp only[zNr,zE] at hlp;exact zW zjd
 ·simp only[c4,if_true,zadA,if_false] at hlp ⊢;clear c4
  by_cases c5:0<o.order.length
  ·rw[zacY c5];have he:=zfw { s with out:=o } 5;unfold zah at *;simp only[dcH,dcR,zsA,zC,zZ,zbu] at *;simp only[zNr,zE] at hlp;exact zW zjd
  rw[zacX c5]
  by_cases c6:0<o.edits.length
  ·rw[zacY c6];have he:=zfw { s with out:=o } 6;unfold zah at *;simp only[dcH,dcR,zsA,zC,zZ,zbu] at *;simp only[zNr,zE] at hlp;exact zW zjd
  ·rw[zacX c6];have hu:=zt3 zF { s with out:=o };generalize zcM zF { s with out:=o }=u at *;obtain⟨u1,u2,u3⟩:=u;simp only at *;have sz_u2:=zeb u2;generalize zC u2=D_u2 at *;have sz_u1:=zaq u1;generalize zi u1=D_u1 at *;simp only[dcH,dcR,zsA,zC,zZ,zi,zF,zaW,zacZ] at *;simp only[zNr,zE] at hlp;exact zW zjd
theorem zRq(r:Int):zg G zp2 [.d (.int .i64 r)] []=some (.d (.tup [zbF (zg0 r).1,.int .i64 (zg0 r).2]),[]):=by
 unfold zg0;rw[zO zXY (by simp)];simp -implicitDefEqProofs (maxSteps:=4000000) (disch:=omega) only[zu6,zCB,zbF,zdc,zj,go_sem, *];(try simp only[zPr]);repeat' (first|done|rfl|((first|refine zay (fun hq=> ?_) (fun hq=> ?_)|refine zaD (fun hq=> ?_) (fun hq=> ?_))<;>(try (first|(exfalso;omega)|contradiction))<;>(try simp -implicitDefEqProofs (maxSteps:=4000000) (disch:=omega) only[zbF,zdc,zj,go_sem, *])<;>(try simp only[zPr])));(all_goals try rfl);(all_goals try (repeat' (first|done|rfl|(exfalso;omega)|contradiction|(refine zaz (fun hq=> ?_) (fun hq=> ?_)))))
theorem zRp(w:ze9)(lo hi:Int):zg G zp1 [.d (zbF w),.d (.int .i64 lo),.d (.int .i64 hi)] []=some (.d (.tup [zbF (zf2 w lo hi).1,.int .i64 (zf2 w lo hi).2]),[]):=by
 unfold zf2;simp only[zbF];rw[zO zXX (by simp)];simp -implicitDefEqProofs (maxSteps:=4000000) (disch:=omega) only[zu5,zCA,zbF,zdc,zj,go_sem, *];(try simp only[zPr]);repeat' (first|done|rfl|((first|refine zay (fun hq=> ?_) (fun hq=> ?_)|refine zaD (fun hq=> ?_) (fun hq=> ?_))<;>(try (first|(exfalso;omega)|contradiction))<;>(try simp -implicitDefEqProofs (maxSteps:=4000000) (disch:=omega) only[zbF,zdc,zj,go_sem, *])<;>(try simp only[zPr])));(all_goals try rfl);(all_goals try (repeat' (first|done|rfl|(exfalso;omega)|contradiction|(refine zaz (fun hq=> ?_) (fun hq=> ?_)))))
theorem zRr(w:ze9):zg G zp3 [.d (zbF w)] []=some (.d (.bool (zg1 w)),[]):=by
 unfold zg1;simp only[zbF];exact zW zXZ
theorem zdA(n lo hi:Int):zg G zp7 [.d (.int .i64 n),.d (.int .i64 lo),.d (.int .i64 hi)] []=some (.d (.bool (inI n lo hi)),[]):=by
 unfold inI;rw[zO zX0 (by simp)];simp -implicitDefEqProofs (maxSteps:=4000000) (disch:=omega) only[zu7,zCC,zj,go_sem, *];(try simp only[zPr]);repeat' (first|done|rfl|((first|refine zay (fun hq=> ?_) (fun hq=> ?_)|refine zaD (fun hq=> ?_) (fun hq=> ?_))<;>(try (first|(exfalso;omega)|contradiction))<;>(try simp -implicitDefEqProofs (maxSteps:=4000000) (disch:=omega) only[zj,go_sem, *])<;>(try simp only[zPr])));(all_goals try rfl);(all_goals try (repeat' (first|done|rfl|(exfalso;omega)|contradiction|(refine zaz (fun hq=> ?_) (fun hq=> ?_)))))
 simp only[zaff]
theorem zVF(i:Invocation):zg G zp4 [.d (z9 i)] []=some (.d (.int .i64 (zdw i)),[]):=by
 unfold zdw;obtain⟨kd,hm,mx,vs,fr,tt,bs,ts⟩:=i;simp only[z9]
 by_cases k1:kd=1
 ·subst k1;exact zW zmA
 rw[zacX k1]
 by_cases k2:3<=kd/\kd<=5
 ·rw[zacY k2];have k3:kd=3\/kd=4\/kd=5:=by omega
  rcases k3 with rfl|rfl|rfl
  ·exact zW zmA
  ·exact zW zmA
  ·exact zW zmA
 ·rw[zacX k2];exact zW zmA
theorem zcE(t:zq)(r:Result)(n:Int)(he:0<=t.entry/\t.entry<=1000)(hl:t.results.length<=1000):zg G zp5 [.d (zd t),.d (z6 r),.d (.int .i64 n)] []=some (.d (zd (za4 t r n)),[]):=by
 have hn:=zVF t.inv;unfold za4;generalize zdw t.inv=en at *;simp only[zd,z6,z9] at *
 by_cases c:t.entry+1=en
 ·rw[zacY c,zacY c];replace c:=zadb c;rw[zO zIJ (by simp)];simp -implicitDefEqProofs (maxSteps:=4000000) (disch:=omega) only[zq4,ztq,zD,zj,go_sem, *];(try simp only[zPr]);repeat' (first|done|rfl|((first|refine zay (fun hq=> ?_) (fun hq=> ?_)|refine zaD (fun hq=> ?_) (fun hq=> ?_))<;>(try (first|(exfalso;omega)|contradiction))<;>(try simp -implicitDefEqProofs (maxSteps:=4000000) (disch:=omega) only[zD,zj,go_sem, *])<;>(try simp only[zPr])));(all_goals try rfl);(all_goals try (repeat' (first|done|rfl|(exfalso;omega)|contradiction|(refine zaz (fun hq=> ?_) (fun hq=> ?_)))))
 ·rw[zacX c,zacX c];rw[zO zIJ (by simp)];simp -implicitDefEqProofs (maxSteps:=4000000) (disch:=omega) only[zq4,ztq,zD,zj,go_sem, *];(try simp only[zPr]);repeat' (first|done|rfl|((first|refine zay (fun hq=> ?_) (fun hq=> ?_)|refine zaD (fun hq=> ?_) (fun hq=> ?_))<;>(try (first|(exfalso;omega)|contradiction))<;>(try simp -implicitDefEqProofs (maxSteps:=4000000) (disch:=omega) only[zD,zj,go_sem, *])<;>(try simp only[zPr])));(all_goals try rfl);(all_goals try (repeat' (first|done|rfl|(exfalso;omega)|contradiction|(refine zaz (fun hq=> ?_) (fun hq=> ?_)))))
theorem zcK(t:zq)(lo hi:Int):zg G zqb [.d (zd t),.d (.int .i64 lo),.d (.int .i64 hi)] []=some (.d (.int .i64 (z8 t lo hi)),[]):=by
 unfold z8;generalize ht:zd t=et at *;simp only[zd] at ht;subst ht
 cases c:t.done
 ·exact zW zIL
 ·exact zW zIL
theorem zbN(e:Int):zg G zp9 [.d (.int .i64 e)] []=some (.d (.tup [zi zF,zd zD,.sl [],.int .i64 e]),[]):=by
 rw[zO zX3 (by simp)];simp -implicitDefEqProofs (maxSteps:=4000000) (disch:=omega) only[zu9,zCE,zi,zd,zF,zD,zj,go_sem, *]
theorem zhD(t:zq)(cells:List Int)(pc:Int)(hL:cells.length<=1000):zg G zqe [.d (zd t),.d (.sl (zB cells)),.d (.int .i64 pc)] []=some (.d (zd (zaO t cells pc)),[]):=by
 have h:=zaaj cells t.setup.limit hL;unfold zaO;generalize zdW cells t.setup.limit=r at *;obtain⟨s,e⟩:=r;simp only[zd,zC] at *;exact zW zX5
theorem zBP(a b:Int):zg G zqd [.d (.int .i64 a),.d (.int .i64 b)] []=some (.d (.sl (zB (zaN a b))),[]):=by
 unfold zaN
 by_cases c:a<b
 ·rw[zacY c];rw[zO zzP (by simp)];simp -implicitDefEqProofs (maxSteps:=4000000) (disch:=omega) only[zme,znn,zB,zj,go_sem, *]
 ·rw[zacX c]
  by_cases c2:b<a
  ·rw[zO zzP (by simp)];simp -implicitDefEqProofs (maxSteps:=4000000) (disch:=omega) only[zme,znn,zB,zj,go_sem, *]
  ·have c3:a=b:=by omega
   subst c3;rw[zO zzP (by simp)];simp -implicitDefEqProofs (maxSteps:=4000000) (disch:=omega) only[zme,znn,zB,zj,go_sem, *]
theorem zrv(t:zq)(kind n:Int):zg G zp8 [.d (zd t),.d (.int .i64 kind),.d (.int .i64 n)] []=some (.d (zad (evT t kind n)),[]):=by
 simp only[zd,evT];rw[zO zX2 (by simp)];simp -implicitDefEqProofs (maxSteps:=4000000) (disch:=omega) only[zu8,zCD,zad,zbt,zj,go_sem, *]
def zc9(t:zq)(kind:Int):AV:= .agg [.d (.int .i64 t.sec.snap.stamp),.d (.int .i64 t.number),.d (.int .i64 t.entry),.d (.int .i64 kind),.d (.int .i64 t.sec.snap.clock),.d (.int .i64 t.sec.snap.epoch),.d (.int .i64 0),.xsl [],.d (.int .i64 0),.d (.int .i64 0)]
theorem zlo(t:zq)(kind:Int):zg G zqf [.d (zd t),.d (.int .i64 kind)] []=some (zc9 t kind,[]):=by
 simp only[zd,zc9];exact zW zX6
theorem zUe(t:zq)(o:zcz)(hd:zg G zlS [.d (zC t.sec),.d (zZ o)] []=some (.d (.tup [zC (zfd t.sec o).1,.int .i64 (zfd t.sec o).2]),[])):zg G zlT [.d (zd t),.d (zZ o)] []=some (.d (zd (zaU t o)),[]):=by
 unfold zaU;generalize zfd t.sec o=r at *;obtain⟨s,e⟩:=r;simp only[zd,zC,zZ] at *;exact zW zX1
theorem zBl(a:zy)(t:zq)(r pc:Int)(hL:a.dir.l.length<=4294967296):zg G zqc [.d (zi a),.d (zd t),.d (.int .i64 r),.d (.int .i64 pc)] []=some (.d (zd (zhq a t r pc)),[]):=by
 have h1:=zsS a;have h2:=zNC a.dir r hL;have h3:=zhD { t with dir:=a.dir,slot:=zeR a.dir r } [zeR a.dir r] pc (by simp);unfold zhq;generalize zaO { t with dir:=a.dir,slot:=zeR a.dir r } [zeR a.dir r] pc=t2 at *;generalize zeR a.dir r=o at *;have sz_t2:=zA t2;generalize zd t2=D_t2 at *;simp only[zd,zU,zB,zac1,zacZ] at *;exact zW zX4
structure AI(u:Setup)(a:zy):Prop where
 sl:(a.slots.length:Int)=u.slots
 st:a.stripes.length=a.slots.length
 sh:∀x∈a.slots,zaf x.shard=0/\(x.shard.ready.cells.length:Int)=u.capacity
 sp:∀x∈a.stripes,znL x=true
 dv:zbC a.dir=0
 df:a.dir.forward.length=a.slots.length
 dd:zcI a.dead.dead=0
 dc:a.dead.dead.cap=u.dead
 ep:0<=a.epoch/\a.epoch<=65536
 ck:0<=a.clock/\a.clock<=1073741824
 ni:1<=a.nextID/\a.nextID<=1073741824
theorem zm0{α:Type}{l:List α}{i:Nat}{x y:α}(h:y∈l.set i x):y=x\/y∈l:=by
 rcases zaeB h with h|h
 ·exact .inr h
 ·exact .inl h
theorem zC1{a:zy}{c:Int}(h0:0<=c)(h1:c<a.slots.length):a.slots.getD c.toNat zf3∈a.slots:=by
 rw[zadC,zada zo];exact zadf _
theorem AI.owner{u:Setup}{a:zy}(h:AI u a){c k:Int}(h0:0<=c)(h1:c<=a.slots.length):AI u (zhG a c k):=by
 unfold zhG
 split
 ·exact { h with }
 ·rename_i hc;refine { h with sl:= ?_,st:= ?_,sh:=fun x hx=> ?_,df:= ?_ }
  ·simp only[zadM];exact h.sl
  ·simp only[zadM];exact h.st
  ·rcases zm0 hx with rfl|hx
   ·exact h.sh (a.slots.getD c.toNat zf3) (zC1 (a:=a) h0 zo)
   ·exact h.sh x hx
  ·simp only[zadM];exact h.df
theorem AI.try_{u:Setup}{a:zy}(h:AI u a)(c k:Int)(e:(zcQ a c k).2.2=0):AI u (zcQ a c k).1:=by
 unfold zcQ at e ⊢
 split at e
 ·cases e
 ·rename_i hc;rw[zacX hc];have q1:0<=c:=zafd.1 fun q=>hc (.inl q);have q2:c<=a.slots.length:=zafd.1 fun q=>hc (.inr (.inl q))
  split
  ·exact AI.owner (a:=a) (c:=c) (k:=k) h q1 q2
  ·exact h
theorem AI.unlock{u:Setup}{a:zy}(h:AI u a)(c k:Int)(e:(zev a c k).2=0):AI u (zev a c k).1:=by
 unfold zev at e ⊢
 split at e
 ·cases e
 ·rename_i hc;rw[zacX hc]
  split at e
  ·rename_i h2;rw[zacY h2];have q1:0<=c:=zafd.1 fun q=>hc (.inl q);have q2:c<=a.slots.length:=zafd.1 fun q=>hc (.inr (.inl q));exact AI.owner (a:=a) (c:=c) (k:=0) h q1 q2
  ·cases e
theorem AI.lock{u:Setup}{a:zy}(h:AI u a)(l:zb4)(k:Int)(e:(zbi a l k).2.2=0):AI u (zbi a l k).1:=by
 unfold zbi at e ⊢
 split at e
 ·rename_i h0;rw[zacY h0];unfold zmX at e ⊢
  split at e
  ·rename_i h1;rw[zacY h1]
   split
   ·exact h.try_ _ _ h1
   ·exact h.try_ _ _ h1
  ·rename_i h1;exact absurd e h1
 ·rename_i h0;rw[zacX h0]
  split at e
  ·rename_i h1;rw[zacY h1];unfold zkO at e ⊢
   split at e
   ·rename_i h2;rw[zacY h2];exact h.unlock _ _ h2
   ·rename_i h2;exact absurd e h2
  ·rename_i h1;rw[zacX h1]
   split at e
   ·rename_i h2;rw[zacY h2];exact h
   ·cases e
theorem ztP{a:zy}{i:Int}:zfn a i=true↔0<=i/\i<a.slots.length:=by unfold zfn;rw[decide_eq_true_eq]
theorem zabs{a:zy}{i k:Int}(e:ze2 a i k=0):0<=i/\i<a.slots.length/\(a.slots.getD i.toNat zf3).owner=k:=by
 unfold ze2 at e
 split at e
 ·cases e
 ·rename_i hc
  split at e
  ·rename_i h1;have:zfn a i=true:=by
    cases hq:zfn a i with
    | true=>rfl
    | false=>exact absurd (.inl hq) hc
   exact⟨(ztP.1 this).1,(ztP.1 this).2,h1⟩
  ·cases e
theorem AI.stSlot{u:Setup}{a:zy}(h:AI u a)(i k:Int)(s:zu)(e:(stSlot a i k s).2=0):AI u (stSlot a i k s).1:=by
 unfold Go.Proofs.YtdnlddoeamjcoaaGreat.stSlot at e ⊢
 split at e
 ·rename_i h1;exact absurd e h1
 ·rename_i h1;rw[zacX h1]
  split at e
  ·rename_i h2;exact absurd e h2
  ·rename_i h2;rw[zacX h2]
   split at e
   ·cases e
   ·rename_i h3;rw[zacX h3];obtain⟨q1,q2,_⟩:=zabs (zadh.1 h1);refine { h with sl:= ?_,st:= ?_,sh:=fun x hx=> ?_,df:= ?_ }
    ·simp only[zadM];exact h.sl
    ·simp only[zadM];exact h.st
    ·rcases zm0 hx with rfl|hx
     ·refine⟨zadh.1 h2,?_⟩;rw[zadh.1 h3];exact (h.sh _ (zC1 q1 q2)).2
     ·exact h.sh x hx
    ·simp only[zadM];exact h.df
theorem AI.stStripe{u:Setup}{a:zy}(h:AI u a)(i k:Int)(s:zbl)(e:(stStripe a i k s).2=0):AI u (stStripe a i k s).1:=by
 unfold Go.Proofs.YtdnlddoeamjcoaaGreat.stStripe at e ⊢
 split at e
 ·rename_i h1;exact absurd e h1
 ·rename_i h1;rw[zacX h1]
  split at e
  ·cases e
  ·rename_i h2;rw[zacX h2];refine { h with st:= ?_,sp:=fun x hx=> ?_ }
   ·simp only[zadM];exact h.st
   ·rcases zm0 hx with rfl|hx
    ·simpa using h2
    ·exact h.sp x hx
theorem AI.stDead{u:Setup}{a:zy}(h:AI u a)(k:Int)(d:zbw)(e:(stDead a k d).2=0):AI u (stDead a k d).1:=by
 unfold Go.Proofs.YtdnlddoeamjcoaaGreat.stDead at e ⊢
 split at e
 ·cases e
 ·rename_i h1;rw[zacX h1]
  split at e
  ·cases e
  ·rename_i h2;rw[zacX h2]
   split at e
   ·rename_i h3;exact absurd e h3
   ·rename_i h3;rw[zacX h3]
    split at e
    ·cases e
    ·rename_i h4;rw[zacX h4];exact { h with dd:=zadh.1 h3,dc:=(zadh.1 h4).trans h.dc }
theorem AI.casDir{u:Setup}{a:zy}(h:AI u a)(v:Int)(d:zaM)(e:(casDir a v d).2.2=0):AI u (casDir a v d).1:=by
 unfold Go.Proofs.YtdnlddoeamjcoaaGreat.casDir at e ⊢
 split at e
 ·rename_i h1;exact absurd e h1
 ·rename_i h1;rw[zacX h1]
  split at e
  ·cases e
  ·rename_i h2;rw[zacX h2]
   split
   ·exact h
   ·exact { h with dv:=zadh.1 h1,df:=zadh.1 h2 }
theorem AI.casWord{u:Setup}{a:zy}(h:AI u a)(w old next:Int)(e:(casWord a w old next).2.2=0):AI u (casWord a w old next).1:=by
 unfold Go.Proofs.YtdnlddoeamjcoaaGreat.casWord at e ⊢
 split at e
 ·cases e
 ·rename_i h1;rw[zacX h1]
  split at e
  ·cases e
  ·rename_i h2;rw[zacX h2]
   split
   ·exact h
   ·split
    ·rename_i h3;refine { h with ep:= ?_ };refine Classical.byContradiction fun q=>h2 (.inl ⟨h3,q⟩)
    ·rename_i h3;refine { h with ni:= ?_ };refine Classical.byContradiction fun q=>h2 (.inr ⟨by omega,q⟩)
theorem AI.tick{u:Setup}{a:zy}(h:AI u a)(by_:Int)(e:(ze3 a by_).2=0):AI u (ze3 a by_).1:=by
 unfold ze3 at e ⊢
 split at e
 ·cases e
 ·rename_i h1;rw[zacX h1]
  split at e
  ·cases e
  ·rename_i h2;rw[zacX h2];have:=h.ck;refine { h with ck:= ?_ };simp only;omega
structure zlx(s:zu):Prop where
 a:s.ready.cells.length<=4294967296
 b:s.leases.l.length<=4294967296
 c:s.leases.heap.length<=4294967296
structure FitA(a:zy):Prop where
 sl:a.slots.length<=1000
 sh:∀i (h:i<a.slots.length),zlx (a.slots[i]).shard
 st:a.stripes.length<=4294967296
 de:a.dead.dead.l.length<=4294967296
 dl:a.dir.l.length<=4294967296
 df:a.dir.forward.length<=4294967296
def kOf(n:Int)(l:List Int):Nat:=(l.filter fun c=>decide (c<n)).length
theorem zmK(n:Int)(l:List Int):kOf n l<=l.length:=zaeh _ _
theorem zL3{n:Int}:∀ {l:List Int},l.Pairwise (· < ·)->∀(i:Nat) (hi:i<l.length),i<kOf n l↔l[i]<n:=by
 intro l
 induction l with
 | nil=>intro _ i hi;cases hi
 | cons c l ih=>
  intro h i hi;rw[zaeO] at h
  by_cases hc:c<n
  ·have e:kOf n (c::l)=kOf n l+1:=by unfold kOf;rw[zaen,zacY (by simpa using hc)];rfl
   rw[e]
   cases i with
   | zero=>simp [hc]
   | succ i=>
    have:=ih h.2 i (by simpa using hi);simp only[zafB];omega
  ·have e:kOf n (c::l)=0:=by
      unfold kOf;rw[zaen,zacX (by simpa using hc)];have:(l.filter fun c=>decide (c<n))=[]:=by
       rw[zaf2];intro x hx;have:=h.1 x hx;simp only[decide_eq_true_eq];omega
      rw[this];rfl
   rw[e]
   cases i with
   | zero=>simp [hc]
   | succ i=>
    have:=h.1 (l[i]'(by simpa using hi)) (zadf _);simp only[zafB];omega
theorem zQP{u:Setup}{a:zy}(h:AI u a)(s:Section):zd0 a s=kOf u.slots s.lock.cells:=by
 unfold zd0 kOf;rw[h.sl]
structure PhI(k n:Nat)(s:Section):Prop where
 p0:s.phase=0->s.lock.phase<=2/\s.stripes=[]/\s.shards=[]/\s.snap.phase=0
 p1:s.phase=1->s.lock.phase=3/\0<=s.at_/\s.at_<2 * k/\(s.stripes.length:Int)=(s.at_+1) / 2/\s.shards=[]/\s.snap.phase=0
 p2:s.phase=2->s.lock.phase=3/\0<=s.at_/\s.at_<n/\s.stripes.length=k/\s.shards.length=min s.at_.toNat k/\s.snap.phase=0
 p3:s.phase=3->s.lock.phase=3/\s.stripes.length=k/\s.shards.length=k/\0<=s.snap.phase/\s.snap.phase<=2
 p4:s.phase=4->s.lock.phase=3/\s.stripes.length=k/\s.shards.length=k
 p5:s.phase=5->s.lock.phase=3/\s.stripes.length=k/\s.shards.length=k/\s.out.shards.length=k/\0<=s.at_/\s.at_<s.out.order.length
 p6:s.phase=6->s.lock.phase=3/\s.stripes.length=k/\s.shards.length=k/\s.out.shards.length=k/\s.out.edits.length=1/\0<=s.at_/\s.at_<=1
 p7:s.phase=7->s.lock.phase=3/\s.stripes.length=k/\s.shards.length=k/\s.out.shards.length=k/\0<=s.at_/\s.at_<k
 p8:s.phase=8->s.lock.phase=4/\s.shards.length=k/\s.out.shards.length=k
 p9:s.phase=9->s.shards.length=k/\s.out.shards.length=k
structure SI(u:Setup)(N:Int)(s:Section):Prop where
 lw:LWF N s.lock
 cr:∀c∈s.lock.cells,0<=c/\c<=u.slots
 ca:s.lock.cells.Pairwise (· < ·)
 sv:∀x∈s.shards,zaf x=0/\(x.ready.cells.length:Int)=u.capacity
 dv:s.dead.l.length<=24
 lm:1<=s.limit/\s.limit<=8
 sn:(0<=s.snap.epoch/\s.snap.epoch<=65536)/\0<=s.snap.clock/\s.snap.clock<=1073741824
 di:s.dir.l.length<=65536
 os:∀x∈s.out.shards,zlx x
 od:s.out.dead.l.length<=1000
 oo:(∀o∈s.out.order,0<=o/\o<s.lock.cells.length)/\s.out.order.length<=3
 oc:s.out.carry.length<=1000/\s.carry.length<=1000
 ph:PhI (kOf u.slots s.lock.cells) s.lock.cells.length s
theorem SI.mono{u:Setup}{N M:Int}{s:Section}(h:SI u N s)(hn:N<=M):SI u M s:={ h with lw:=LWF.mono h.lw hn }
end Go.Proofs.YtdnlddoeamjcoaaGreat
