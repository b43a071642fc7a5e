/-
  Cells of sections.
-/
import Derived.Test.YtnmcgdpmikhohaaGreatBc8d43d5
import Derived.Test.YtnmcgdpmikhohaaGreatB58444a0
import Derived.Test.YtnmcgdpmikhohaaGreatBbe084e1
import Derived.Test.YtnmcgdpmikhohaaGreatB643d10c
set_option linter.unusedSimpArgs false
set_option linter.unusedVariables false
set_option maxHeartbeats 10000000
set_option maxRecDepth 100000
namespace Go.Proofs.YtnmcgdpmikhohaaGreat
open Go Go.Sim
def slP(n:Nat)(c:Int):Bool:=decide (c<(n:Int))
def znB(a:zy)(s:Section)(i:Nat):St:=⟨[(2,.ref 2 0 0),(3,.ref 3 0 0),(5,.d (.int .i64 (zbD (slP a.slots.length) s.lock.cells i:Nat))),(6,.d (.int .i64 i))],[(2,.row [.d (zx a)]),(3,.row [.d (zA s)])]⟩
theorem z9p(a:zy)(s:Section)(hL:s.lock.cells.length<=1000):∀i,i<=s.lock.cells.length->z6 G [] zsK (znB a s i)=some (.exit 0,⟨[(5,.d (.int .i64 (zbD (slP a.slots.length) s.lock.cells s.lock.cells.length:Nat)))],[]⟩):=by
 refine zaL (fun i=>s.lock.cells.length - i) (fun i=>i<=s.lock.cells.length) (znB a s) (fun _=>_) fun i hi L ih=> ?_;have hle:=zu3 (slP a.slots.length) s.lock.cells i
 by_cases h0:i<s.lock.cells.length
 ·have i1:=ih (i+1) zo zo;clear ih;unfold znB at i1 ⊢;rw[zu4 _ h0] at i1;generalize zbD (slP a.slots.length) s.lock.cells i=k at *;generalize zbD (slP a.slots.length) s.lock.cells s.lock.cells.length=kk at *;unfold slP at i1;simp only[zsK,zx,zA] at i1 ⊢
  by_cases c:s.lock.cells[i]<(a.slots.length:Int)
  ·rw[zabM c] at i1;simp only[if_true] at i1;simp only[zNr,zB] at i1;exact zS
  ·rw[zabP c] at i1;simp only[zabz,if_false,zacI] at i1;simp only[zNr,zB] at i1;exact zS
 ·clear ih;have:i=s.lock.cells.length:=by omega
  subst this;simp only[znB,zsK,zx,zA];exact zS
theorem zQD(a:zy)(s:Section)(hL:s.lock.cells.length<=1000):zi G zpU [.d (zx a),.d (zA s)] []=some (.d (.int .i64 (zdp a s)),[]):=by
 have h:=z9p a s hL 0 zo;have e:(zdp a s)=(zbD (slP a.slots.length) s.lock.cells s.lock.cells.length:Nat):=by
  unfold zdp zbD slP;rw[List.take_length]
 rw[e];generalize zbD (slP a.slots.length) s.lock.cells s.lock.cells.length=kk at *;simp only[znB,zbD,zacg,zac5,zabw] at h;simp only[zNr,zB] at h;exact zW zXf
theorem z9T(s:Section)(k:Int)(hL:s.out.order.length<=3):zi G zpN [.d (zA s),.d (.int .i64 k)] []=some (.d (.bool (zjl s k)),[]):=by
 have hl:z6 G [] zAW ⟨[(1,.d (.int .i64 k)),(2,.ref 2 0 0),(5,.d (.int .i64 (0:Nat)))],[(2,.row [.d (zA s)])]⟩=some (if (List.range s.out.order.length).all (fun i=> !decide (s.out.order.getD i 0=k))=true then (.exit 0,⟨[],[]⟩) else (.ret,⟨[(4,.d (.bool true))],[]⟩)):=by
  refine zg5 (G:=G) s.out.order.length (fun i=> !decide (s.out.order.getD i 0=k)) (fun i=>⟨[(1,.d (.int .i64 k)),(2,.ref 2 0 0),(5,.d (.int .i64 i))],[(2,.row [.d (zA s)])]⟩) _ _ fun i hi L=> ?_;simp only[zAW,zA]
  by_cases h0:i<s.out.order.length
  ·rw[zabo h0,zh h0]
   by_cases c:s.out.order[i]=k
   ·subst c;exact zS
   ·exact zS
  ·rw[zabn h0];exact zS
 have e:zjl s k= !((List.range s.out.order.length).all (fun i=> !decide (s.out.order.getD i 0=k))):=by
  unfold zjl;apply zacD.2;simp only[zacm,decide_eq_true_eq,zace,List.all_eq_false,zack,Bool.not_eq_false',zac3,zaen];constructor
  ·rintro⟨x,hx,rfl⟩;obtain⟨i,hi,rfl⟩:=zadu.1 hx;exact⟨i,hi,by rw[zh hi]⟩
  ·rintro⟨i,hi,h⟩;rw[zh hi] at h;exact⟨_,zabC hi,by simpa using h⟩
 rw[e];generalize (List.range s.out.order.length).all (fun i=> !decide (s.out.order.getD i 0=k))=b at *;simp only[zA] at *;simp only[zNr,zB] at hl
 cases b
 ·simp only[zabz,if_false] at hl;exact zW zIu
 ·simp only[if_true] at hl;exact zW zIu
theorem zZZ(c:Int):zi G zo5 [.d (.int .i64 c)] []=some (.d (.tup [zT (if c<1\/24<c then zaH else ⟨c,[]⟩),.int .i64 (if c<1\/24<c then 1 else 0)]),[]):=by
 by_cases h:c<1\/24<c
 ·rw[zabo h,zabo h];simp only[zT,zaH,zabq];exact zW zIj
 ·rw[zabn h,zabn h];simp only[zT,zaH,zabq];exact zW zIj
def zlb(l:List zj)(i:Nat):St:=⟨[(0,.d (.sl (l.map zm))),(3,.d (.int .i64 i))],[]⟩
def znD(l:List zj)(i:Nat):zX×St:=if zb3 (l.drop i)≠0 then (.ret,⟨[(2,.d (.int .i64 (zb3 (l.drop i))))],[]⟩) else (.exit 0,⟨[(0,.d (.sl (l.map zm)))],[]⟩)
theorem z9r(l:List zj)(h1:l.length<=1000):∀i,i<=l.length->z6 G [] zsB (zlb l i)=some (znD l i):=by
 refine zaL (fun i=>l.length - i) (fun i=>i<=l.length) (zlb l) (fun i=>some (znD l i)) fun i hi L ih=> ?_
 by_cases h0:i<l.length
 ·have i1:=ih (i+1) zo zo;clear ih;have hv:=zh8 l[i];unfold znD at i1 ⊢;rw[zHE h0];unfold zlb at i1;generalize zb3 (l.drop (i+1))=fe at *;simp only[zlb,zsB];simp only[zNr,zB] at i1;generalize zap l[i]=v at *
  by_cases c:v=0
  ·subst c;simp only[ne_eq,zabD,if_false];exact zS
  ·rw[zabo c,zabo c];clear i1;exact zS
 ·clear ih;have:i=l.length:=by omega
  subst this;unfold znD;rw[zab7];simp only[zlb,zb3,ne_eq,zabD,if_false,zsB];exact zS
def d8S(l:List zj)(i:Nat):St:=⟨[(0,.d (.sl (l.map zm))),(5,.d (.int .i64 i))],[]⟩
def d8R(l:List zj)(i:Nat):zX×St:=if zeR l i=true then (.ret,⟨[(2,.d (.int .i64 10))],[]⟩) else (.exit 2,⟨[],[]⟩)
theorem zUj(l:List zj)(h1:l.length<=1000):∀i,i<=l.length->z6 G [] zsC (d8S l i)=some (d8R l i):=by
 refine zaL (fun i=>l.length - i) (fun i=>i<=l.length) (d8S l) (fun i=>some (d8R l i)) fun i hi L ih=> ?_
 by_cases h0:i<l.length
 ·have i1:=ih (i+1) zo zo;clear ih;have hx:=ziQ l l[i].id zo;unfold d8R at i1 ⊢;rw[zA3 _ h0];unfold d8S at i1;generalize zeR l (i+1)=fe at *;simp only[d8S,zsC];simp only[zNr,zB] at i1;generalize zaD l l[i].id=q at *
  by_cases hv:q=i
  ·subst hv;simp only[ne_eq,zabD,decide_false,zacH];simp -implicitDefEqProofs (maxSteps:=4000000) (disch:=omega) only[zm,zh,go_sem, *]
  ·simp only[ne_eq,hv,zabV,decide_true,zadk,if_true];clear i1;simp -implicitDefEqProofs (maxSteps:=4000000) (disch:=omega) only[zm,zh,go_sem, *]
 ·clear ih;unfold d8R;rw[zA2 _ h0];simp only[d8S,zsC,zabz,if_false];exact zS
theorem zQG(l:List zj)(h:l.length<=1000):zi G zpa [.d (.sl (l.map zm))] []=some (.d (.int .i64 (zjk l)),[]):=by
 have h1:=z9r l h 0 zo;have h2:=zUj l h 0 zo;unfold znD at h1;unfold d8R at h2;rw[zA1] at h2;simp only[zlb,zabZ] at h1;simp only[d8S] at h2;unfold zjk;generalize zb3 l=fe at *;generalize zdC (l.map (·.id))=du at *;simp only[zNr,zB] at h1 h2
 by_cases c:fe=0
 ·subst c;simp only[ne_eq,zabD,if_false] at *
  cases du
  ·simp only[zabz,if_false] at *;exact zW zzv
  ·simp only[if_true] at *;exact zW zzv
 ·rw[zabo c] at h1 ⊢;clear h2;exact zW zzv
theorem znO(d:za7)(hL:d.l.length<=1000):zi G zo9 [.d (zT d)] []=some (.d (.int .i64 (zcm d)),[]):=by
 have hs:=zQG d.l hL;unfold zcm;obtain⟨c,l⟩:=d;simp only[zT] at *;generalize zjk l=v at *;exact zW zWZ
theorem zQt(d:za7)(hL:d.l.length<=1000):zi G zo7 [.d (zT d)] []=some (.d (.int .i64 (zgu d)),[]):=by
 have hs:=znO d hL;have hc:zcm d=0->1<=d.cap/\d.cap<=24:=by
  intro h;unfold zcm at h
  split at h
  ·cases h
  ·omega
 unfold zgu;generalize zcm d=v at *;obtain⟨c,l⟩:=d;simp only[zT] at *
 by_cases h:v=0
 ·have:=hc h;subst h;exact zW zIk
 ·rw[zabo h];exact zW zIk
theorem z5t(d:za7)(l:List zj)(hL:d.l.length<=1000)(h2:l.length<=1000)(h3:d.l.length+l.length<=1000):zi G zo6 [.d (zT d),.d (.sl (l.map zm))] []=some (.d (.tup [zT (zi9 d l).1,.int .i64 (zi9 d l).2]),[]):=by
 have hv:=znO d hL;have hr:=zQt d hL;have hs:=zQG (d.l++l) (by simpa using h3);unfold zi9;generalize zcm d=v at *;generalize zgu d=r at *;generalize zjk (d.l++l)=s at *;obtain⟨c,dl⟩:=d;simp only[zT] at *
 by_cases h:v=0
 ·subst h;simp only[ne_eq,zabD,if_false]
  by_cases c1:r<l.length
  ·rw[zabo c1];simp only[zaH,zabq];exact zW zrK
  ·rw[zabn c1]
   by_cases c2:s=0
   ·subst c2;simp only[ne_eq,zabD,if_false];simp only[zNr,zB] at hs;exact zW zrK
   ·rw[zabo c2];simp only[zaH,zabq];simp only[zNr,zB] at hs;exact zW zrK
 ·rw[zabo h];simp only[zaH,zabq];exact zW zrK
theorem z9B(a:zy)(i k:Int)(s:zt)(hL:a.slots.length<=1000)(q:za4 s):zi G zpx [.d (zx a),.d (.int .i64 i),.d (.int .i64 k),.d (zk s)] []=some (.d (.tup [zx (stSlot a i k s).1,.int .i64 (stSlot a i k s).2]),[]):=by
 have h:=zQQ a i k hL;have hv:=znc s q.1 q.2.1 q.2.2;unfold stSlot
 by_cases c:zez a i k=0
 ·have hq:0<=i/\i<a.slots.length:=by
     unfold zez at c
     split at c
     ·cases c
     ·rename_i q;exact znC (by simpa using fun z=>q (.inl z))
  rw[c] at h;rw[zabn (fun z=>z c)];have hne:¬a.slots.length=0:=by omega
  by_cases c1:zY s=0
  ·rw[c1] at hv;rw[zabn (fun z=>z c1)];clear c c1
   by_cases c2:s.ready.cells.length=(a.slots.getD i.toNat zfC).shard.ready.cells.length
   ·rw[zabn (fun z=>z c2)];rw[zh zo] at c2 ⊢;simp only[zx,zk] at *;have zk0:=zfU.eq_1;exact zW zrP
   ·rw[zabo c2];rw[zh zo] at c2;simp only[zx,zk,zM] at *;have zk0:=zfU.eq_1;exact zW zrP
  ·rw[zabo c1];generalize zY s=v at *;simp only[zx,zM,zk] at *;exact zW zrP
 ·rw[zabo c];generalize zez a i k=v at *;simp only[zx,zM,zk] at *;exact zW zrP
theorem z9A(a:zy)(k:Int)(d:za7)(hL:d.l.length<=1000):zi G zpw [.d (zx a),.d (.int .i64 k),.d (zT d)] []=some (.d (.tup [zx (stDead a k d).1,.int .i64 (stDead a k d).2]),[]):=by
 have ht:=ztL k;have hv:=znO d hL;unfold stDead;generalize zgz k=tb at *;generalize zcm d=v at *;simp only[zx,zT] at *
 cases tb
 ·have zk0:=zM.eq_1;have zk1:=zaH.eq_1;exact zW zIq
 ·simp only[zacf,if_false];have zk0:=zM.eq_1;have zk1:=zaH.eq_1;exact zW zIq
theorem zSL(a:zy)(v:Int)(d:Directory)(hL:d.l.length<=4294967296):zi G zpo [.d (zx a),.d (.int .i64 v),.d (zaT d)] []=some (.d (.tup [zx (casDir a v d).1,.bool (casDir a v d).2.1,.int .i64 (casDir a v d).2.2]),[]):=by
 have hv:=zkV d hL;unfold casDir;generalize zbl d=w at *;simp only[zx,zaT] at *
 by_cases c0:w=0
 ·subst c0;simp only[ne_eq,zabD,if_false]
  by_cases c:d.forward.length=a.slots.length
  ·rw[zabn (fun q=>q c)];exact zW zzz
  ·rw[zabo c];have zk0:=zM.eq_1;have zk1:=zaH.eq_1;exact zW zzz
 ·rw[zabo c0];have zk0:=zM.eq_1;have zk1:=zaH.eq_1;exact zW zzz
theorem z9o(a:zy)(s:Section):0<=zdp a s/\zdp a s<=s.lock.cells.length:=by
 unfold zdp;have:=zacF (fun c=>decide (c<(a.slots.length:Int))) s.lock.cells;omega
theorem zR5(d:Directory)(e:Edit):(zgG d e).1.l.length<=d.l.length+2:=by
 unfold zgG zCR zBl
 (repeat' split)
 all_goals (try (simp [zcF];done))
 all_goals (try (simp;omega))
theorem zl3{s:Section}{i:Int}(h0:0<=i)(h1:i<s.lock.cells.length):zcv s i=s.lock.cells[i.toNat]'(by omega):=by
 unfold zcv;exact zh zo
theorem zZx(a:zy)(s:Section)(k:Int)(hL:a.slots.length<=1000)(hs:a.stripes.length=a.slots.length)(h0:0<=s.at_)(h1:s.at_<2 * s.lock.cells.length)(hc:s.lock.cells.length<=3)(h2:(s.stripes.length:Int)=(s.at_+1) / 2):zi G zpT [.d (zx a),.d (zA s),.d (.int .i64 k)] []=some (.d (.tup [zx (zfr a s k).1,zA (zfr a s k).2.1,.int .i64 (zfr a s k).2.2]),[]):=by
 have e1:s.at_.tdiv 2=s.at_ / 2:=zac2 h0;have e2:s.at_.tmod 2=s.at_ % 2:=zaem h0;unfold zfr;rw[e1,e2,zl3 zo zo]
 by_cases c:s.at_ % 2=0
 ·rw[zabo c];have hl:=zA4 a (s.lock.cells[(s.at_ / 2).toNat]'(by omega)) hL hs;generalize zed a (s.lock.cells[(s.at_ / 2).toNat]'(by omega))=r at *;obtain⟨x,e⟩:=r;replace c:=zabA c;simp only[zA] at *;exact zW zmo
 ·rw[zabn c];have hi:(s.at_ / 2).toNat<s.stripes.length:=by omega
  rw[zh hi];have hb:=zSo (s.stripes[(s.at_ / 2).toNat]);replace c:=zabt c;generalize zhr (s.stripes[(s.at_ / 2).toNat])=b at *;obtain⟨x,e⟩:=b
  by_cases c1:e=0
  ·subst c1;have hst:=zQN a (s.lock.cells[(s.at_ / 2).toNat]'(by omega)) k x hL hs;simp only[ne_eq,zabD,if_false];generalize stStripe a (s.lock.cells[(s.at_ / 2).toNat]'(by omega)) k x=r at *;obtain⟨a2,e⟩:=r;have hsl:=zQD a2 { s with stripes:=s.stripes.take (s.at_ / 2).toNat++[x],at_:=s.at_+1 } (by simpa using (by omega:s.lock.cells.length<=1000));have hen:=ze7 { s with stripes:=s.stripes.take (s.at_ / 2).toNat++[x],at_:=s.at_+1 } 2;have hsn:=z9o a2 { s with stripes:=s.stripes.take (s.at_ / 2).toNat++[x],at_:=s.at_+1 };unfold z5 at *;simp only at *;generalize zdp a2 { s with stripes:=s.stripes.take (s.at_ / 2).toNat++[x],at_:=s.at_+1 }=sn at *
   by_cases c2:e=0/\s.at_+1=2 * sn
   ·rw[zabo c2];obtain⟨rfl,c3⟩:=c2;replace c3:=zabA c3;simp only[zA,zabF,zabs,zabq] at *;exact zW zmo
   ·rw[zabn c2];simp only[zA,zabF,zabs,zabq] at *
    by_cases c4:e=0
    ·subst c4;have c5:(s.at_+1=2 * sn)=False:=zabt (fun q=>c2 ⟨rfl,q⟩);clear c2;exact zW zmo
    ·clear c2;exact zW zmo
  ·rw[zabo c1];simp only[zA] at *;exact zW zmo
theorem zZa(a:zy)(s:Section)(hL:a.slots.length<=1000)(h0:0<=s.at_)(h1:s.at_<s.lock.cells.length)(hc:s.lock.cells.length<=3)(h2:s.shards.length<=100):zi G zpS [.d (zx a),.d (zA s)] []=some (.d (.tup [zx (zfq a s).1,zA (zfq a s).2.1,.int .i64 (zfq a s).2.2]),[]):=by
 unfold zfq;rw[zl3 h0 h1];have hd:=zYO a
 by_cases c:(s.lock.cells[s.at_.toNat]'(by omega))=a.slots.length
 ·simp only[c,if_true]
  by_cases c2:s.at_+1=s.lock.cells.length
  ·have he:=ze7 { s with dead:=a.dead.dead,at_:=s.at_+1 } 3;rw[zabo c2];replace c2:=zabA c2;unfold z5 at *;simp only[zA,zx,zT] at *;exact zW zrQ
  ·rw[zabn c2];simp only[zA,zx,zT] at *;exact zW zrQ
 ·have hl:=zYP a (s.lock.cells[s.at_.toNat]'(by omega)) hL;simp only[c,if_false];generalize zg2 a (s.lock.cells[s.at_.toNat]'(by omega))=r at *;obtain⟨x,e⟩:=r
  by_cases c2:s.at_+1=s.lock.cells.length
  ·have he:=ze7 { s with shards:=s.shards++[x],at_:=s.at_+1 } 3;rw[zabo c2];replace c2:=zabA c2;unfold z5 at *;simp only[zA,zx,zabF,zabs,zabq] at *;exact zW zrQ
  ·rw[zabn c2];simp only[zA,zx,zabF,zabs,zabq] at *;exact zW zrQ
theorem zUX(a:zy)(s:Section)(hd:s.dir.l.length<=65536)(h0:0<=s.at_)(h1:s.out.edits.length=1):zi G zpP [.d (zx a),.d (zA s)] []=some (.d (.tup [zx (zfp a s).1,zA (zfp a s).2.1,.int .i64 (zfp a s).2.2]),[]):=by
 have hld:=zsL a;unfold zfp
 by_cases c:s.at_=0
 ·rw[zabo c];replace c:=zabA c;simp only[zA,zaT] at *;exact zW zmn
 ·rw[zabn c];replace c:=zabt c;have hap:=z6G s.dir (s.out.edits[0]'(by omega)) zo;rw[zh (show 0<s.out.edits.length by omega)];have hlen:=zR5 s.dir (s.out.edits[0]'(by omega));generalize zgG s.dir (s.out.edits[0]'(by omega))=r at *;obtain⟨d,e⟩:=r;simp only at *
  by_cases c1:e=0
  ·rw[zabn (fun q=>q c1)];subst c1;have hcd:=zSL a s.dir.version d zo;generalize casDir a s.dir.version d=r at *;obtain⟨a2,b,e⟩:=r;have hum:=ztT a2 { s with dir:=d };generalize zcn a2 { s with dir:=d }=r2 at *;obtain⟨a3,s3,e3⟩:=r2;simp only at *
   by_cases c4:e=0
   ·subst c4;simp only[ne_eq,zabD,if_false]
    cases b
    ·simp only[if_true];clear hum;simp only[zA,zaT] at *;exact zW zmn
    ·simp only[zacf,if_false];have sz_s3:=zdD s3;generalize zA s3=D_s3 at *;simp only[zA,zaT] at *;exact zW zmn
   ·rw[zabo c4];clear hum;simp only[zA,zaT] at *;exact zW zmn
  ·rw[zabo c1];simp only[zA,zaT] at *;exact zW zmn
theorem z9S(a:zy)(s:Section)(k:Int)(hL:a.slots.length<=1000)(h0:0<=s.at_)(h1:s.at_<s.out.order.length)(ho:∀o∈s.out.order,0<=o/\o<s.lock.cells.length)(hol:s.out.order.length<=3)(hsh:∀o∈s.out.order,zcv s o≠a.slots.length->o<s.out.shards.length)(hf:∀x∈s.out.shards,za4 x)(hd:s.out.dead.l.length<=1000):zi G zpW [.d (zx a),.d (zA s),.d (.int .i64 k)] []=some (.d (.tup [zx (zft a s k).1,zA (zft a s k).2.1,.int .i64 (zft a s k).2.2]),[]):=by
 have hi:s.at_.toNat<s.out.order.length:=by omega
 have hm:=ho _ (zabC hi);have hsh:=hsh _ (zabC hi);unfold zft;simp only;rw[zh hi];have hen:=ze7 { s with at_:=s.at_+1,carry:=[] } 6;unfold z5 at *;rw[zl3 hm.1 hm.2] at *;generalize ho':s.out.order[s.at_.toNat]=o at *;have ho2:s.out.order[s.at_.toNat]? = some o:=by rw[zabx hi,ho']
 by_cases c:(s.lock.cells[o.toNat]'(by omega))=a.slots.length
 ·have hst:=z9A a k s.out.dead hd;simp only[c,if_true];generalize stDead a k s.out.dead=r at *;obtain⟨a2,e⟩:=r;simp only at *
  by_cases c1:e=0
  ·subst c1;simp only[ne_eq,zabD,if_false]
   by_cases c2:s.at_+1<s.out.order.length
   ·rw[zabo c2];clear hen;simp only[zx,zA,zT] at *;exact zW zhN
   ·rw[zabn c2]
    by_cases c3:0<s.out.edits.length
    ·rw[zabo c3];simp only[zx,zA,zT,zabq] at *;exact zW zhN
    ·rw[zabn c3];have hum:=ztT a2 { s with at_:=s.at_+1,carry:=[] };generalize zcn a2 { s with at_:=s.at_+1,carry:=[] }=u at *;obtain⟨u1,u2,u3⟩:=u;simp only at *;have sz_u2:=zdD u2;generalize zA u2=D_u2 at *;have sz_u1:=zby u1;generalize zx u1=D_u1 at *;clear hen;simp only[zx,zA,zT,zabq] at *;exact zW zhN
  ·rw[zabo c1];clear hen;simp only[zx,zA,zT] at *;exact zW zhN
 ·have hs2:o.toNat<s.out.shards.length:=by have:=hsh c;omega
  have hst:=z9B a (s.lock.cells[o.toNat]'(by omega)) k s.out.shards[o.toNat] hL (hf _ (zabC hs2));simp only[c,if_false];rw[zh hs2];generalize stSlot a (s.lock.cells[o.toNat]'(by omega)) k s.out.shards[o.toNat]=r at *;obtain⟨a2,e⟩:=r;simp only at *
  by_cases c1:e=0
  ·subst c1;simp only[ne_eq,zabD,if_false]
   by_cases c2:s.at_+1<s.out.order.length
   ·rw[zabo c2];clear hen;simp only[zx,zA,zT] at *;exact zW zhN
   ·rw[zabn c2]
    by_cases c3:0<s.out.edits.length
    ·rw[zabo c3];simp only[zx,zA,zT,zabq] at *;exact zW zhN
    ·rw[zabn c3];have hum:=ztT a2 { s with at_:=s.at_+1,carry:=[] };generalize zcn a2 { s with at_:=s.at_+1,carry:=[] }=u at *;obtain⟨u1,u2,u3⟩:=u;simp only at *;have sz_u2:=zdD u2;generalize zA u2=D_u2 at *;have sz_u1:=zby u1;generalize zx u1=D_u1 at *;clear hen;simp only[zx,zA,zT,zabq] at *;exact zW zhN
  ·rw[zabo c1];clear hen;simp only[zx,zA,zT] at *;exact zW zhN
theorem zaaM(a:zy)(s:Section)(k:Int)(hL:a.slots.length<=1000)(hsl:a.stripes.length=a.slots.length)(h0:0<=s.at_)(h1:s.at_<s.stripes.length)(h2:s.at_<s.shards.length)(h3:s.at_<s.out.shards.length)(h4:s.at_<s.lock.cells.length)(h5:s.stripes.length<=100)(hol:s.out.order.length<=3)(hf:∀x∈s.out.shards,za4 x)(hg:∀x∈s.shards,za4 x):zi G zpX [.d (zx a),.d (zA s),.d (.int .i64 k)] []=some (.d (.tup [zx (zfu a s k).1,zA (zfu a s k).2.1,.int .i64 (zfu a s k).2.2]),[]):=by
 have hq:=z9T s s.at_ hol;have i1:s.at_.toNat<s.stripes.length:=by omega
 have i2:s.at_.toNat<s.shards.length:=by omega
 have i3:s.at_.toNat<s.out.shards.length:=by omega
 have hfr:=zHM { s with at_:=s.at_+1 };unfold zfu;simp only;rw[zl3 h0 h4,zh i1,zh i2,zh i3];generalize zcG { s with at_:=s.at_+1 }=f at *;obtain⟨f1,f2⟩:=f;generalize zjl s s.at_=q at *;have hen:∀x,za4 x->_:=fun x hx=>zUY s.stripes[s.at_.toNat] x s.snap.epoch s.limit hx.1 hx.2.1 hx.2.2;have hen:zi G zlD [.d (zax s.stripes[s.at_.toNat]),.d (zk (if q=true then s.out.shards[s.at_.toNat] else s.shards[s.at_.toNat])),.d (.int .i64 s.snap.epoch),.d (.int .i64 s.limit)] []=_:=hen _ (by cases q;exact hg _ (zabC i2);exact hf _ (zabC i3));generalize ziF s.stripes[s.at_.toNat] (if q=true then s.out.shards[s.at_.toNat] else s.shards[s.at_.toNat]) s.snap.epoch s.limit=x at *;obtain⟨x,e⟩:=x;have hst:=zQN a (s.lock.cells[s.at_.toNat]'(by omega)) k x hL hsl;generalize stStripe a (s.lock.cells[s.at_.toNat]'(by omega)) k x=r at *;obtain⟨a2,e2⟩:=r;simp only at *
 by_cases c:e=0
 ·subst c;simp only[ne_eq,zabD,if_false]
  by_cases c2:e2=0
  ·subst c2;simp only[ne_eq,zabD,if_false]
   by_cases c3:s.at_+1=s.stripes.length
   ·rw[zabo c3];replace c3:=zabA c3;have sz_f1:=zdD f1;generalize zA f1=D_f1 at *
    cases q
    ·simp only[zA,zabz,if_false] at *;exact zW zhO
    ·simp only[zA,if_true] at *;exact zW zhO
   ·rw[zabn c3];replace c3:=zabt c3;clear hfr
    cases q
    ·simp only[zA,zabz,if_false] at *;exact zW zhO
    ·simp only[zA,if_true] at *;exact zW zhO
  ·rw[zabo c2]
   cases q
   ·simp only[zA,zabz,if_false] at *;exact zW zhO
   ·simp only[zA,if_true] at *;exact zW zhO
 ·rw[zabo c]
  cases q
  ·simp only[zA,zabz,if_false] at *;exact zW zhO
  ·simp only[zA,if_true] at *;exact zW zhO
structure zqB(a:zy)(s:Section):Prop where
 sl:a.slots.length<=1000
 st:a.stripes.length=a.slots.length
 lw:LWF 1000000 s.lock
 p1:s.phase=1->0<=s.at_/\s.at_<2 * s.lock.cells.length/\(s.stripes.length:Int)=(s.at_+1) / 2
 p2:s.phase=2->0<=s.at_/\s.at_<s.lock.cells.length/\s.shards.length<=100
 p5:s.phase=5->0<=s.at_/\s.at_<s.out.order.length/\(∀o∈s.out.order,zcv s o≠a.slots.length->o<s.out.shards.length)
 p6:s.phase=6->0<=s.at_/\s.out.edits.length=1
 p7:s.phase=7->0<=s.at_/\s.at_<s.stripes.length/\s.at_<s.shards.length/\s.at_<s.out.shards.length/\s.at_<s.lock.cells.length/\s.stripes.length<=100
 od:(∀o∈s.out.order,0<=o/\o<s.lock.cells.length)/\s.out.order.length<=3
 f1:∀x∈s.out.shards,za4 x
 f2:∀x∈s.shards,za4 x
 dd:s.out.dead.l.length<=1000
 di:s.dir.l.length<=65536
theorem z9I(a:zy)(s:Section)(k n:Int)(h:zqB a s):zi G zpV [.d (zx a),.d (zA s),.d (.int .i64 k),.d (.int .i64 n)] []=some (.d (.tup [zx (zfs a s k n).1,zA (zfs a s k n).2.1,.int .i64 (zfs a s k n).2.2]),[]):=by
 unfold zfs
 by_cases c0:s.phase=0
 ·rw[zabo c0];have hl:=zLX a s.lock k h.sl h.lw;have hke:=zBa (k:=k) (a:=a) h.lw;have hcl:=h.lw.c2;unfold zhg;generalize zaZ a s.lock k=r at *;obtain⟨a2,l,e⟩:=r;replace c0:=zabA c0;simp only at *
  by_cases c:e=0/\l.phase=3
  ·rw[zabo c];obtain⟨rfl,c3⟩:=c;have hce:=(hke rfl).2.1;have hs:=zQD a (z5 { s with lock:=l } 1) (by show l.cells.length<=1000;rw[hce];omega);have hs2:zdp a (z5 { s with lock:=l } 1)=zdp a s:=by unfold zdp z5;simp only[hce]
   rw[hs2] at hs;have e1:=ze7 { s with lock:=l } 1;have e2:=ze7 (z5 { s with lock:=l } 1) 2;clear hke hs2 hce;replace c3:=zabA c3;generalize zdp a s=sn at *;unfold z5 at *;simp only[zA,zb2] at *
   by_cases c4:sn=0
   ·rw[zabo c4];exact zW zeN
   ·rw[zabn c4];exact zW zeN
  ·rw[zabn c];clear hke;simp only[zA,zb2] at *;exact zW zeN
 rw[zabn c0]
 by_cases c1:s.phase=1
 ·rw[zabo c1];obtain⟨q1,q2,q3⟩:=h.p1 c1;have hm:=zZx a s k h.sl h.st q1 q2 h.lw.c2 q3;generalize zfr a s k=r at *;obtain⟨a2,s2,e⟩:=r;have sz_s2:=zdD s2;generalize zA s2=D_s2 at *;clear h c0 q1 q2 q3;obtain⟨ph,at_,lk,sn,sh,dd,st,di,ou,lm,ca⟩:=s;simp only at c1;subst c1;simp only[zA] at *;exact zW zeN
 rw[zabn c1]
 by_cases c2:s.phase=2
 ·rw[zabo c2];obtain⟨q1,q2,q3⟩:=h.p2 c2;have hm:=zZa a s h.sl q1 q2 h.lw.c2 q3;generalize zfq a s=r at *;obtain⟨a2,s2,e⟩:=r;have sz_s2:=zdD s2;generalize zA s2=D_s2 at *;clear h c0 q1 q2 q3;obtain⟨ph,at_,lk,sn,sh,dd,st,di,ou,lm,ca⟩:=s;simp only at c2;subst c2;simp only[zA] at *;exact zW zeN
 rw[zabn c2]
 by_cases c3:s.phase=3
 ·rw[zabo c3];have hm:=z9q a s.snap n;unfold zih;generalize zc7 a s.snap n=r at *;obtain⟨x,e⟩:=r;have e1:=ze7 { s with snap:=x } 4;unfold z5 at *;clear h c0 c1 c2;obtain⟨ph,at_,lk,sn,sh,dd,st,di,ou,lm,ca⟩:=s;simp only at *;subst c3
  by_cases c:e=0/\x.phase=3
  ·rw[zabo c];obtain⟨rfl,c5⟩:=c;replace c5:=zabA c5;simp only[zA,zeM] at *;exact zW zeN
  ·rw[zabn c];simp only[zA,zeM] at *;exact zW zeN
 rw[zabn c3]
 by_cases c5:s.phase=5
 ·rw[zabo c5];obtain⟨q1,q2,q3⟩:=h.p5 c5;have hm:=z9S a s k h.sl q1 q2 h.od.1 h.od.2 q3 h.f1 h.dd;generalize zft a s k=r at *;obtain⟨a2,s2,e⟩:=r;have sz_s2:=zdD s2;generalize zA s2=D_s2 at *;clear h c0 c1 c2 c3 q1 q2 q3;obtain⟨ph,at_,lk,sn,sh,dd,st,di,ou,lm,ca⟩:=s;simp only at c5;subst c5;simp only[zA] at *;exact zW zeN
 rw[zabn c5]
 by_cases c6:s.phase=6
 ·rw[zabo c6];obtain⟨q1,q2⟩:=h.p6 c6;have hm:=zUX a s h.di q1 q2;generalize zfp a s=r at *;obtain⟨a2,s2,e⟩:=r;have sz_s2:=zdD s2;generalize zA s2=D_s2 at *;clear h c0 c1 c2 c3 c5 q1 q2;obtain⟨ph,at_,lk,sn,sh,dd,st,di,ou,lm,ca⟩:=s;simp only at c6;subst c6;simp only[zA] at *;exact zW zeN
 rw[zabn c6]
 by_cases c7:s.phase=7
 ·rw[zabo c7];obtain⟨q1,q2,q3,q4,q5,q6⟩:=h.p7 c7;have hm:=zaaM a s k h.sl h.st q1 q2 q3 q4 q5 q6 h.od.2 h.f1 h.f2;generalize zfu a s k=r at *;obtain⟨a2,s2,e⟩:=r;have sz_s2:=zdD s2;generalize zA s2=D_s2 at *;clear h c0 c1 c2 c3 c5 c6 q1 q2 q3 q4 q5 q6;obtain⟨ph,at_,lk,sn,sh,dd,st,di,ou,lm,ca⟩:=s;simp only at c7;subst c7;simp only[zA] at *;exact zW zeN
 rw[zabn c7]
 by_cases c8:s.phase=8
 ·rw[zabo c8];have hl:=zLX a s.lock k h.sl h.lw;unfold zhf;generalize zaZ a s.lock k=r at *;obtain⟨a2,l,e⟩:=r;have e1:=ze7 { s with lock:=l } 9;unfold z5 at *;clear h c0 c1 c2 c3 c5 c6 c7;obtain⟨ph,at_,lk,sn,sh,dd,st,di,ou,lm,ca⟩:=s;simp only at *;subst c8
  by_cases c:e=0/\l.phase=5
  ·rw[zabo c];obtain⟨rfl,c5⟩:=c;replace c5:=zabA c5;simp only[zA,zb2] at *;exact zW zeN
  ·rw[zabn c];simp only[zA,zb2] at *;exact zW zeN
 ·rw[zabn c8];clear h;simp only[zA] at *;exact zW zeN
theorem z9J(a:zy)(s:Section)(k n:Int)(h:zqB a s):zi G zpM [.d (zx a),.d (zA s),.d (.int .i64 k),.d (.int .i64 n)] []=some (.d (.tup [zx (zct a s k n).1,zA (zct a s k n).2.1,.int .i64 (zct a s k n).2.2]),[]):=by
 have hs:=z9I a s k n h;unfold zct;generalize zfs a s k n=r at *;obtain⟨a2,s2,e⟩:=r;clear h;simp only at *;have sz_s:=zdD s;generalize zA s=D_s at *
 by_cases c:e=0
 ·subst c;simp only[ne_eq,zabD,if_false];have sz_s2:=zdD s2;generalize zA s2=D_s2 at *;exact zW zIt
 ·rw[zabo c];have sz_s2:=zdD s2;generalize zA s2=D_s2 at *;have sz_a:=zby a;generalize zx a=D_a at *;have sz_a2:=zby a2;generalize zx a2=D_a2 at *;rw[zI zIt (by simp)];simp -implicitDefEqProofs (maxSteps:=4000000) (disch:=omega) only[zuT,zCp,zx,zA,zM,zbe,zh,go_sem, *]
theorem zmr(a:zy)(t:zq)(n:Int)(h:zqB a t.sec):zi G zlG [.d (zx a),.d (zf t),.d (.int .i64 n)] []=some (.d (.tup [zx (goT a t n).1,zf (goT a t n).2.1,.bool (goT a t n).2.2.1,.bool (goT a t n).2.2.2.1,.int .i64 (goT a t n).2.2.2.2]),[]):=by
 have hs:=z9J a t.sec t.number n h;unfold goT;generalize zct a t.sec t.number n=r at *;obtain⟨a2,s2,e⟩:=r;clear h
 by_cases c:e=0
 ·subst c;simp only[ne_eq,zabD,if_false];simp only[zf,zA] at *;exact zW zIx
 ·rw[zabo c];have sz_a:=zby a;generalize zx a=D_a at *;have sz_a2:=zby a2;generalize zx a2=D_a2 at *;simp only[zf,zA] at *;rw[zI zIx (by simp)];simp -implicitDefEqProofs (maxSteps:=4000000) (disch:=omega) only[zuZ,zCv,zx,zM,zE,zh,go_sem, *]
def zsA:AV:= .agg [.d (.int .i64 0),.d (.int .i64 0),.xsl [],.d (.int .i64 0),.d (.int .i64 0),.d (.int .i64 0),.d (.int .i64 0),.d (.int .i64 0),.d (.int .i64 0),.d (.int .i64 0),.d (.int .i64 0),.xsl [],.d (.int .i64 0),.xsl [],.xsl [],.d (.int .i64 0),.xsl [],.xsl [],.xsl [],.d (.int .i64 0),.xsl [],.xsl [],.xsl [],.xsl [],.d (.int .i64 0),.xsl []]
def zm3(n:Int)(l:List Int)(i:Nat):Bool:=decide (0<=l.getD i 0/\l.getD i 0<n)&&(List.range i).all fun k=> !decide (l.getD k 0=l.getD i 0)
theorem z4G(n:Int)(l:List Int):zkO n l=(List.range l.length).all (zm3 n l):=by
 unfold zkO;apply zacD.2;simp only[decide_eq_true_eq,zabO,zack,zm3,zabH,zace,decide_eq_false_iff_not];constructor
 ·rintro⟨h1,h2⟩ i hi;refine⟨by rw[zh hi];exact h1 _ (zabC hi),fun k hk=> ?_⟩;rw[zh hi,zh (show k<l.length by omega)];intro e;have:=(zadW.1 h2);rw[zacu] at this;exact this k i zo hi hk e
 ·intro h;refine⟨fun o ho=> ?_,?_⟩
  ·obtain⟨i,hi,rfl⟩:=zadu.1 ho;have:=(h i hi).1
   rwa [zh hi] at this
  ·rw[zadW,zacu];intro k i hk hi hki e;have:=(h i hi).2 k hki;rw[zh hi,zh hk] at this;exact this e
def dcH(s:Section)(o:zb1):zd:=[(2,.row [.d (zA s)]),(3,.row [.d (zU o)]),(4,.row [zsA])]
def dcR:zX×St:=(.ret,⟨[(4,.ref 4 0 0),(5,.d (.int .i64 1))],[(4,.row [zsA])]⟩)
theorem zTI(s:Section)(o:zb1)(i:Nat)(hi:i<o.order.length)(hl:o.order.length<=3):z6 G [] zsI ⟨[(2,.ref 2 0 0),(3,.ref 3 0 0),(4,.ref 4 0 0),(6,.d (.int .i64 i)),(7,.d (.int .i64 (0:Nat)))],dcH s o⟩=some (if (List.range i).all (fun k=> !decide (o.order.getD k 0=o.order.getD i 0))=true then (.exit 2,⟨[(2,.ref 2 0 0),(3,.ref 3 0 0),(4,.ref 4 0 0),(6,.d (.int .i64 i))],dcH s o⟩) else dcR):=by
 refine zg5 (G:=G) i (fun k=> !decide (o.order.getD k 0=o.order.getD i 0)) (fun k=>⟨[(2,.ref 2 0 0),(3,.ref 3 0 0),(4,.ref 4 0 0),(6,.d (.int .i64 i)),(7,.d (.int .i64 k))],dcH s o⟩) _ _ fun k hk L=> ?_;simp only[zsI,dcH,dcR,zsA,zA,zU,zbe];rw[zh hi]
 by_cases h0:k<i
 ·rw[zabo h0,zh (show k<o.order.length by omega)]
  by_cases c:o.order[k]=o.order[i]
  ·rw[zabM c];replace c:=zabA c;exact zS
  ·rw[zabP c];replace c:=zabt c;exact zS
 ·rw[zabn h0];exact zS
theorem zTJ(s:Section)(o:zb1)(hl:o.order.length<=3)(hc:s.lock.cells.length<=3):z6 G [] zsJ ⟨[(2,.ref 2 0 0),(3,.ref 3 0 0),(4,.ref 4 0 0),(6,.d (.int .i64 (0:Nat)))],dcH s o⟩=some (if (List.range o.order.length).all (zm3 s.lock.cells.length o.order)=true then (.exit 0,⟨[(2,.ref 2 0 0),(3,.ref 3 0 0),(4,.ref 4 0 0)],dcH s o⟩) else dcR):=by
 refine zg5 (G:=G) o.order.length (zm3 s.lock.cells.length o.order) (fun k=>⟨[(2,.ref 2 0 0),(3,.ref 3 0 0),(4,.ref 4 0 0),(6,.d (.int .i64 k))],dcH s o⟩) _ _ fun k hk L=> ?_
 by_cases h0:k<o.order.length
 ·have hi:=zTI s o k h0 hl;unfold zm3;rw[zabo h0];generalize (List.range k).all (fun j=> !decide (o.order.getD j 0=o.order.getD k 0))=b at *;rw[zh h0];simp only[zsJ,dcH,dcR,zsA,zA,zU] at *;simp only[zNr,zB] at hi
  by_cases c:0<=o.order[k]/\o.order[k]<(s.lock.cells.length:Int)
  ·rw[zabM c]
   cases b
   ·simp only[zacJ,zabz,if_false] at *;exact zS
   ·simp only[zacG,if_true] at *;exact zS
  ·rw[zabP c];clear hi;simp only[zacd,zabz,if_false];exact zS
 ·rw[zabn h0];simp only[zsJ,dcH,dcR,zsA,zA,zU];exact zS
theorem zTN(s:Section)(o:zb1)(hl:o.order.length<=3)(hc:s.lock.cells.length<=3):zi G zlE [.d (zA s),.d (zU o)] []=some (.d (.tup [zA (zeK s o).1,.int .i64 (zeK s o).2]),[]):=by
 have hlp:=zTJ s o hl hc;rw[<- z4G] at hlp;unfold zeK
 by_cases c0:s.phase≠4
 ·rw[zabo c0];clear hlp;have c0:(s.phase=4)=False:=zabt c0;simp only[zA,zU,zbe] at *;exact zW ziO
 rw[zabn c0];replace c0:(s.phase=4)=True:=zabA (zabG.1 c0)
 by_cases c1:o.shards.length≠s.shards.length\/1<o.edits.length
 ·rw[zabo c1];clear hlp;simp only[zA,zU,zbe] at *
  by_cases c2:o.shards.length=s.shards.length
  ·have c3:1<o.edits.length:=by omega
   clear c1;replace c2:((o.shards.length:Int)=s.shards.length)=True:=zabA zo;exact zW ziO
  ·clear c1;exact zW ziO
 rw[zabn c1];have c2:((o.shards.length:Int)=s.shards.length)=True:=zabA zo;have c3:¬1<o.edits.length:=by omega
 clear c1
 cases c4:zkO s.lock.cells.length o.order
 ·simp only[c4,if_true,zabz,if_false] at hlp ⊢;clear c4;simp only[dcH,dcR,zsA,zA,zU,zbe] at *;simp only[zNr,zB] at hlp;exact zW ziO
 ·simp only[c4,if_true,zacf,if_false] at hlp ⊢;clear c4
  by_cases c5:0<o.order.length
  ·rw[zabo c5];have he:=ze7 { s with out:=o } 5;unfold z5 at *;simp only[dcH,dcR,zsA,zA,zU,zbe] at *;simp only[zNr,zB] at hlp;exact zW ziO
  rw[zabn c5]
  by_cases c6:0<o.edits.length
  ·rw[zabo c6];have he:=ze7 { s with out:=o } 6;unfold z5 at *;simp only[dcH,dcR,zsA,zA,zU,zbe] at *;simp only[zNr,zB] at hlp;exact zW ziO
  ·rw[zabn c6];have hu:=ztT zM { s with out:=o };generalize zcn zM { s with out:=o }=u at *;obtain⟨u1,u2,u3⟩:=u;simp only at *;have sz_u2:=zdD u2;generalize zA u2=D_u2 at *;have sz_u1:=zby u1;generalize zx u1=D_u1 at *;simp only[dcH,dcR,zsA,zA,zU,zx,zM,zaH,zabq] at *;simp only[zNr,zB] at hlp;exact zW ziO
theorem zRj(r:Int):zi G zp0 [.d (.int .i64 r)] []=some (.d (.tup [zbW (zgB r).1,.int .i64 (zgB r).2]),[]):=by
 unfold zgB;have zk0:=zbW.eq_1;have zk1:=zdc.eq_1;exact zW zXh
theorem zRi(w:zeF)(lo hi:Int):zi G zpZ [.d (zbW w),.d (.int .i64 lo),.d (.int .i64 hi)] []=some (.d (.tup [zbW (zfz w lo hi).1,.int .i64 (zfz w lo hi).2]),[]):=by
 unfold zfz;simp only[zbW];have zk0:=zbW.eq_1;have zk1:=zdc.eq_1;exact zW zXg
theorem zRk(w:zeF):zi G zp1 [.d (zbW w)] []=some (.d (.bool (zgC w)),[]):=by
 unfold zgC;simp only[zbW];exact zW zXi
theorem zmz(n lo hi:Int):zi G zp5 [.d (.int .i64 n),.d (.int .i64 lo),.d (.int .i64 hi)] []=some (.d (.bool (inI n lo hi)),[]):=by
 unfold inI;rw[zI zXj (by simp)];simp -implicitDefEqProofs (maxSteps:=4000000) (disch:=omega) only[zuW,zCs,zh,go_sem, *];(try simp only[zPr]);repeat' (first|done|rfl|((first|refine zad (fun hq=> ?_) (fun hq=> ?_)|refine zaj (fun hq=> ?_) (fun hq=> ?_))<;>(try (first|(exfalso;omega)|contradiction))<;>(try simp -implicitDefEqProofs (maxSteps:=4000000) (disch:=omega) only[zh,go_sem, *])<;>(try simp only[zPr])));(all_goals try rfl);(all_goals try (repeat' (first|done|rfl|(exfalso;omega)|contradiction|(refine zae (fun hq=> ?_) (fun hq=> ?_)))))
 simp only[zadD]
theorem zU0(i:Invocation):zi G zp2 [.d (zbg i)] []=some (.d (.int .i64 (zcX i)),[]):=by
 unfold zcX;obtain⟨kd,hm,mx,vs,fr,tt,bs,ts⟩:=i;simp only[zbg]
 by_cases k1:kd=1
 ·subst k1;exact zW zmp
 rw[zabn k1]
 by_cases k2:3<=kd/\kd<=5
 ·rw[zabo k2];have k3:kd=3\/kd=4\/kd=5:=by omega
  rcases k3 with rfl|rfl|rfl
  ·exact zW zmp
  ·exact zW zmp
  ·exact zW zmp
 ·rw[zabn k2];exact zW zmp
theorem zeU(t:zq)(r:Result)(n:Int)(he:0<=t.entry/\t.entry<=1000)(hl:t.results.length<=1000):zi G zlF [.d (zf t),.d (z7 r),.d (.int .i64 n)] []=some (.d (zf (zba t r n)),[]):=by
 have hn:=zU0 t.inv;unfold zba;generalize zcX t.inv=en at *;simp only[zf,z7,zbg] at *
 by_cases c:t.entry+1=en
 ·rw[zabo c,zabo c];replace c:=zabA c;have zk0:=zE.eq_1;exact zW zIw
 ·rw[zabn c,zabn c];have zk0:=zE.eq_1;exact zW zIw
theorem zeP(t:zq)(lo hi:Int):zi G zlH [.d (zf t),.d (.int .i64 lo),.d (.int .i64 hi)] []=some (.d (.int .i64 (zan t lo hi)),[]):=by
 unfold zan;generalize ht:zf t=et at *;simp only[zf] at ht;subst ht
 cases c:t.done
 ·exact zW zIy
 ·exact zW zIy
theorem zcY(e:Int):zi G zp7 [.d (.int .i64 e)] []=some (.d (.tup [zx zM,zf zE,.sl [],.int .i64 e]),[]):=by
 have zk0:=zx.eq_1;have zk1:=zf.eq_1;have zk2:=zM.eq_1;have zk3:=zE.eq_1;exact zW zXm
theorem znw(t:zq)(cells:List Int)(pc:Int)(hL:cells.length<=1000):zi G zlI [.d (zf t),.d (.sl (zC cells)),.d (.int .i64 pc)] []=some (.d (zf (zb8 t cells pc)),[]):=by
 have h:=z8I cells t.setup.limit hL;unfold zb8;generalize zdl cells t.setup.limit=r at *;obtain⟨s,e⟩:=r;simp only[zf,zA] at *;exact zW zXo
theorem z4L(a b:Int):zi G zp9 [.d (.int .i64 a),.d (.int .i64 b)] []=some (.d (.sl (zC (zeo a b))),[]):=by
 unfold zeo
 by_cases c:a<b
 ·rw[zabo c];have zk0:=zC.eq_1;exact zW zzE
 ·rw[zabn c]
  by_cases c2:b<a
  ·have zk0:=zC.eq_1;exact zW zzE
  ·have c3:a=b:=by omega
   subst c3;have zk0:=zC.eq_1;exact zW zzE
theorem zrn(t:zq)(kind n:Int):zi G zp6 [.d (zf t),.d (.int .i64 kind),.d (.int .i64 n)] []=some (.d (zaw (evT t kind n)),[]):=by
 simp only[zf,evT];have zk0:=zaw.eq_1;have zk1:=zbw.eq_1;exact zW zXl
def zev(t:zq)(kind:Int):AV:= .agg [.d (.int .i64 t.sec.snap.stamp),.d (.int .i64 t.number),.d (.int .i64 t.entry),.d (.int .i64 kind),.d (.int .i64 t.sec.snap.clock),.d (.int .i64 t.sec.snap.epoch),.d (.int .i64 0),.xsl [],.d (.int .i64 0),.d (.int .i64 0)]
theorem zla(t:zq)(kind:Int):zi G zqa [.d (zf t),.d (.int .i64 kind)] []=some (zev t kind,[]):=by
 simp only[zf,zev];exact zW zXp
theorem zTM(t:zq)(o:zb1)(hd:zi G zlE [.d (zA t.sec),.d (zU o)] []=some (.d (.tup [zA (zeK t.sec o).1,.int .i64 (zeK t.sec o).2]),[])):zi G zjw [.d (zf t),.d (zU o)] []=some (.d (zf (za5 t o)),[]):=by
 unfold za5;generalize zeK t.sec o=r at *;obtain⟨s,e⟩:=r;simp only[zf,zA,zU] at *;exact zW zXk
theorem zBb(a:zy)(t:zq)(r pc:Int)(hL:a.dir.l.length<=4294967296):zi G zp8 [.d (zx a),.d (zf t),.d (.int .i64 r),.d (.int .i64 pc)] []=some (.d (zf (zg4 a t r pc)),[]):=by
 have h1:=zsL a;have h2:=zNq a.dir r hL;have h3:=znw { t with dir:=a.dir,slot:=zem a.dir r } [zem a.dir r] pc (by simp);unfold zg4;generalize zb8 { t with dir:=a.dir,slot:=zem a.dir r } [zem a.dir r] pc=t2 at *;generalize zem a.dir r=o at *;have sz_t2:=zQ t2;generalize zf t2=D_t2 at *;simp only[zf,zaT,zC,zabs,zabq] at *;exact zW zXn
structure AI(u:Setup)(a:zy):Prop where
 sl:(a.slots.length:Int)=u.slots
 st:a.stripes.length=a.slots.length
 sh:∀x∈a.slots,zY x.shard=0/\(x.shard.ready.cells.length:Int)=u.capacity
 sp:∀x∈a.stripes,znH x=true
 dv:zbl a.dir=0
 df:a.dir.forward.length=a.slots.length
 dd:zcm a.dead.dead=0
 dc:a.dead.dead.cap=u.dead
 ep:0<=a.epoch/\a.epoch<=65536
 ck:0<=a.clock/\a.clock<=1073741824
 ni:1<=a.nextID/\a.nextID<=1073741824
theorem zmR{α:Type}{l:List α}{i:Nat}{x y:α}(h:y∈l.set i x):y=x\/y∈l:=by
 rcases zac1 h with h|h
 ·exact .inr h
 ·exact .inl h
theorem zCQ{a:zy}{c:Int}(h0:0<=c)(h1:c<a.slots.length):a.slots.getD c.toNat zfC∈a.slots:=by
 rw[zab0,zabx zo];exact zabC _
theorem AI.owner{u:Setup}{a:zy}(h:AI u a){c k:Int}(h0:0<=c)(h1:c<=a.slots.length):AI u (zhj a c k):=by
 unfold zhj
 split
 ·exact { h with }
 ·rename_i hc;refine { h with sl:= ?_,st:= ?_,sh:=fun x hx=> ?_,df:= ?_ }
  ·simp only[zacb];exact h.sl
  ·simp only[zacb];exact h.st
  ·rcases zmR hx with rfl|hx
   ·exact h.sh (a.slots.getD c.toNat zfC) (zCQ (a:=a) h0 zo)
   ·exact h.sh x hx
  ·simp only[zacb];exact h.df
theorem AI.try_{u:Setup}{a:zy}(h:AI u a)(c k:Int)(e:(zcp a c k).2.2=0):AI u (zcp a c k).1:=by
 unfold zcp at e ⊢
 split at e
 ·cases e
 ·rename_i hc;rw[zabn hc];have q1:0<=c:=zadB.1 fun q=>hc (.inl q);have q2:c<=a.slots.length:=zadB.1 fun q=>hc (.inr (.inl q))
  split
  ·exact AI.owner (a:=a) (c:=c) (k:=k) h q1 q2
  ·exact h
theorem AI.unlock{u:Setup}{a:zy}(h:AI u a)(c k:Int)(e:(zd2 a c k).2=0):AI u (zd2 a c k).1:=by
 unfold zd2 at e ⊢
 split at e
 ·cases e
 ·rename_i hc;rw[zabn hc]
  split at e
  ·rename_i h2;rw[zabo h2];have q1:0<=c:=zadB.1 fun q=>hc (.inl q);have q2:c<=a.slots.length:=zadB.1 fun q=>hc (.inr (.inl q));exact AI.owner (a:=a) (c:=c) (k:=0) h q1 q2
  ·cases e
theorem AI.lock{u:Setup}{a:zy}(h:AI u a)(l:zbI)(k:Int)(e:(zaZ a l k).2.2=0):AI u (zaZ a l k).1:=by
 unfold zaZ at e ⊢
 split at e
 ·rename_i h0;rw[zabo h0];unfold zmO at e ⊢
  split at e
  ·rename_i h1;rw[zabo h1]
   split
   ·exact h.try_ _ _ h1
   ·exact h.try_ _ _ h1
  ·rename_i h1;exact absurd e h1
 ·rename_i h0;rw[zabn h0]
  split at e
  ·rename_i h1;rw[zabo h1];unfold zkz at e ⊢
   split at e
   ·rename_i h2;rw[zabo h2];exact h.unlock _ _ h2
   ·rename_i h2;exact absurd e h2
  ·rename_i h1;rw[zabn h1]
   split at e
   ·rename_i h2;rw[zabo h2];exact h
   ·cases e
theorem ztE{a:zy}{i:Int}:zeY a i=true↔0<=i/\i<a.slots.length:=by unfold zeY;rw[decide_eq_true_eq]
theorem z9R{a:zy}{i k:Int}(e:zez a i k=0):0<=i/\i<a.slots.length/\(a.slots.getD i.toNat zfC).owner=k:=by
 unfold zez at e
 split at e
 ·cases e
 ·rename_i hc
  split at e
  ·rename_i h1;have:zeY a i=true:=by
    cases hq:zeY a i with
    | true=>rfl
    | false=>exact absurd (.inl hq) hc
   exact⟨(ztE.1 this).1,(ztE.1 this).2,h1⟩
  ·cases e
theorem AI.stSlot{u:Setup}{a:zy}(h:AI u a)(i k:Int)(s:zt)(e:(stSlot a i k s).2=0):AI u (stSlot a i k s).1:=by
 unfold Go.Proofs.YtnmcgdpmikhohaaGreat.stSlot at e ⊢
 split at e
 ·rename_i h1;exact absurd e h1
 ·rename_i h1;rw[zabn h1]
  split at e
  ·rename_i h2;exact absurd e h2
  ·rename_i h2;rw[zabn h2]
   split at e
   ·cases e
   ·rename_i h3;rw[zabn h3];obtain⟨q1,q2,_⟩:=z9R (zabG.1 h1);refine { h with sl:= ?_,st:= ?_,sh:=fun x hx=> ?_,df:= ?_ }
    ·simp only[zacb];exact h.sl
    ·simp only[zacb];exact h.st
    ·rcases zmR hx with rfl|hx
     ·refine⟨zabG.1 h2,?_⟩;rw[zabG.1 h3];exact (h.sh _ (zCQ q1 q2)).2
     ·exact h.sh x hx
    ·simp only[zacb];exact h.df
theorem AI.stStripe{u:Setup}{a:zy}(h:AI u a)(i k:Int)(s:Stripe)(e:(stStripe a i k s).2=0):AI u (stStripe a i k s).1:=by
 unfold Go.Proofs.YtnmcgdpmikhohaaGreat.stStripe at e ⊢
 split at e
 ·rename_i h1;exact absurd e h1
 ·rename_i h1;rw[zabn h1]
  split at e
  ·cases e
  ·rename_i h2;rw[zabn h2];refine { h with st:= ?_,sp:=fun x hx=> ?_ }
   ·simp only[zacb];exact h.st
   ·rcases zmR hx with rfl|hx
    ·simpa using h2
    ·exact h.sp x hx
theorem AI.stDead{u:Setup}{a:zy}(h:AI u a)(k:Int)(d:za7)(e:(stDead a k d).2=0):AI u (stDead a k d).1:=by
 unfold Go.Proofs.YtnmcgdpmikhohaaGreat.stDead at e ⊢
 split at e
 ·cases e
 ·rename_i h1;rw[zabn h1]
  split at e
  ·cases e
  ·rename_i h2;rw[zabn h2]
   split at e
   ·rename_i h3;exact absurd e h3
   ·rename_i h3;rw[zabn h3]
    split at e
    ·cases e
    ·rename_i h4;rw[zabn h4];exact { h with dd:=zabG.1 h3,dc:=(zabG.1 h4).trans h.dc }
theorem AI.casDir{u:Setup}{a:zy}(h:AI u a)(v:Int)(d:Directory)(e:(casDir a v d).2.2=0):AI u (casDir a v d).1:=by
 unfold Go.Proofs.YtnmcgdpmikhohaaGreat.casDir at e ⊢
 split at e
 ·rename_i h1;exact absurd e h1
 ·rename_i h1;rw[zabn h1]
  split at e
  ·cases e
  ·rename_i h2;rw[zabn h2]
   split
   ·exact h
   ·exact { h with dv:=zabG.1 h1,df:=zabG.1 h2 }
theorem AI.casWord{u:Setup}{a:zy}(h:AI u a)(w old next:Int)(e:(casWord a w old next).2.2=0):AI u (casWord a w old next).1:=by
 unfold Go.Proofs.YtnmcgdpmikhohaaGreat.casWord at e ⊢
 split at e
 ·cases e
 ·rename_i h1;rw[zabn h1]
  split at e
  ·cases e
  ·rename_i h2;rw[zabn h2]
   split
   ·exact h
   ·split
    ·rename_i h3;refine { h with ep:= ?_ };refine Classical.byContradiction fun q=>h2 (.inl ⟨h3,q⟩)
    ·rename_i h3;refine { h with ni:= ?_ };refine Classical.byContradiction fun q=>h2 (.inr ⟨by omega,q⟩)
theorem AI.tick{u:Setup}{a:zy}(h:AI u a)(by_:Int)(e:(zeA a by_).2=0):AI u (zeA a by_).1:=by
 unfold zeA at e ⊢
 split at e
 ·cases e
 ·rename_i h1;rw[zabn h1]
  split at e
  ·cases e
  ·rename_i h2;rw[zabn h2];have:=h.ck;refine { h with ck:= ?_ };simp only;omega
theorem zakQ(a b:zah)(hL:a.cells.length<=4294967296):zi G zafd [.d (zai a),.d (zai b)] []=some (.d (.bool (decide (a=b))),[]):=by
 have h1:=zaiP a.cells b.cells hL;have e:decide (a=b)=(decide (a.head=b.head)&&(decide (a.size=b.size)&&decide (a.cells=b.cells))):=by
  cases a;cases b
  apply zacD.2;simp only[zah.mk.injEq,decide_eq_true_eq,zabH];exact⟨fun⟨p,q,r⟩=>⟨q,r,p⟩,fun⟨p,q,r⟩=>⟨r,p,q⟩⟩
 rw[e];exact zW zajs
theorem zakS(a b:zN)(h1:a.l.length<=4294967296)(h2:a.heap.length<=4294967296):zi G zaff [.d (zau a),.d (zau b)] []=some (.d (.bool (decide (a=b))),[]):=by
 have h1:=zakU a.l b.l h1;have h2:=zakT a.heap b.heap h2;have e:decide (a=b)=(decide (a.l=b.l)&&decide (a.heap=b.heap)):=by
  cases a;cases b
  apply zacD.2;simp only[zN.mk.injEq,decide_eq_true_eq,zabH]
 rw[e];exact zW zajt
structure zlj(s:zt):Prop where
 a:s.ready.cells.length<=4294967296
 b:s.leases.l.length<=4294967296
 c:s.leases.heap.length<=4294967296
theorem zakR(a b:zt)(h:zlj a):zi G zafh [.d (zk a),.d (zk b)] []=some (.d (.bool (decide (a=b))),[]):=by
 obtain⟨f1,f2,f3⟩:=h;have h1:=zakQ a.ready b.ready f1;have h2:=zakS a.leases b.leases f2 f3;have e:decide (a=b)=(decide (a.live=b.live)&&(decide (a.low=b.low)&&(decide (a.high=b.high)&&(decide (a.ready=b.ready)&&decide (a.leases=b.leases))))):=by
  cases a;cases b
  apply zacD.2;simp only[zt.mk.injEq,decide_eq_true_eq,zabH]
 rw[e];simp only[zai,zau] at h1 h2;exact zW zaju
theorem zakO(a b:za7)(h:a.l.length<=4294967296):zi G zafi [.d (zT a),.d (zT b)] []=some (.d (.bool (decide (a=b))),[]):=by
 have h1:=zaiP a.l b.l h;have e:decide (a=b)=(decide (a.cap=b.cap)&&decide (a.l=b.l)):=by
  cases a;cases b
  apply zacD.2;simp only[za7.mk.injEq,decide_eq_true_eq,zabH]
 rw[e];exact zW zajv
theorem zakX(a b:Directory)(hL:a.l.length<=4294967296)(hab:a.l.length=b.l.length):z6 G [] zafA ⟨[(2,.ref 2 0 0),(3,.ref 3 0 0),(5,.d (.int .i64 0))],[(2,.row [.d (zaT a)]),(3,.row [.d (zaT b)])]⟩=some (if a.l=b.l then (.exit 0,⟨[(2,.ref 2 0 0),(3,.ref 3 0 0)],[(2,.row [.d (zaT a)]),(3,.row [.d (zaT b)])]⟩) else (.ret,⟨[(4,.d (.bool false))],[]⟩)):=by
 have:=zg5 (G:=G) (x:=zafA) (ks:=[]) a.l.length (fun k=>decide (a.l[k]? = b.l[k]?)) (fun k=>⟨[(2,.ref 2 0 0),(3,.ref 3 0 0),(5,.d (.int .i64 k))],[(2,.row [.d (zaT a)]),(3,.row [.d (zaT b)])]⟩) (.ret,⟨[(4,.d (.bool false))],[]⟩) (.exit 0,⟨[(2,.ref 2 0 0),(3,.ref 3 0 0)],[(2,.row [.d (zaT a)]),(3,.row [.d (zaT b)])]⟩) (fun k hk L=>by
  simp only[zafA]
  by_cases h0:k<a.l.length
  ·have hk2:k<b.l.length:=by omega
   simp only[zaeD h0 hk2,h0,if_true];exact zS
  ·exact zS)
 simp only[zabl hab,zabQ,decide_eq_true_eq] at this;exact this
theorem zakY(a b:Directory)(hL:a.forward.length<=4294967296)(hab:a.forward.length=b.forward.length):z6 G [] zafB ⟨[(2,.ref 2 0 0),(3,.ref 3 0 0),(6,.d (.int .i64 0))],[(2,.row [.d (zaT a)]),(3,.row [.d (zaT b)])]⟩=some (if a.forward=b.forward then (.exit 2,⟨[],[]⟩) else (.ret,⟨[(4,.d (.bool false))],[]⟩)):=by
 have:=zg5 (G:=G) (x:=zafB) (ks:=[]) a.forward.length (fun k=>decide (a.forward[k]? = b.forward[k]?)) (fun k=>⟨[(2,.ref 2 0 0),(3,.ref 3 0 0),(6,.d (.int .i64 k))],[(2,.row [.d (zaT a)]),(3,.row [.d (zaT b)])]⟩) (.ret,⟨[(4,.d (.bool false))],[]⟩) (.exit 2,⟨[],[]⟩) (fun k hk L=>by
  simp only[zafB]
  by_cases h0:k<a.forward.length
  ·have hk2:k<b.forward.length:=by omega
   simp only[zaeD h0 hk2,h0,if_true];exact zS
  ·exact zS)
 simp only[zabl hab,zabQ,decide_eq_true_eq] at this;exact this
theorem zakP(a b:Directory)(hL:a.l.length<=4294967296)(hF:a.forward.length<=4294967296):zi G zafj [.d (zaT a),.d (zaT b)] []=some (.d (.bool (decide (a=b))),[]):=by
 by_cases c0:a.version=b.version/\a.l.length=b.l.length/\a.forward.length=b.forward.length
 ·obtain⟨c1,c2,c3⟩:=c0;have h0:=zakX a b hL c2;have h1:=zakY a b hF c3
  by_cases c4:a.l=b.l
  ·by_cases c5:a.forward=b.forward
   ·have e:a=b:=by cases a;cases b;simp_all
    subst e;simp only[if_true] at h0 h1;simp only[decide_true];clear c1 c2 c3 c4 c5;exact zW zaeN
   ·have e:¬a=b:=fun e=>c5 (by rw[e]);rw[zabP e];rw[zabo c4] at h0;rw[zabn c5] at h1;clear c4;exact zW zaeN
  ·have e:¬a=b:=fun e=>c4 (by rw[e]);rw[zabP e];rw[zabn c4] at h0;clear h1;exact zW zaeN
 ·have e:¬a=b:=fun e=>c0 (by rw[e];exact⟨rfl,rfl,rfl⟩);rw[zabP e]
  by_cases c1:a.version=b.version
  ·by_cases c2:a.l.length=b.l.length
   ·have c3:¬a.forward.length=b.forward.length:=fun c3=>c0 ⟨c1,c2,c3⟩;exact zW zaeN
   ·exact zW zaeN
  ·exact zW zaeN
structure FitA(a:zy):Prop where
 sl:a.slots.length<=1000
 sh:∀i (h:i<a.slots.length),zlj (a.slots[i]).shard
 st:a.stripes.length<=4294967296
 de:a.dead.dead.l.length<=4294967296
 dl:a.dir.l.length<=4294967296
 df:a.dir.forward.length<=4294967296
theorem zakN(a b:zy)(h:FitA a)(hab:a.slots.length=b.slots.length):z6 G [] zafC ⟨[(2,.ref 2 0 0),(3,.ref 3 0 0),(5,.d (.int .i64 0))],[(2,.row [.d (zx a)]),(3,.row [.d (zx b)])]⟩=some (if a.slots=b.slots then (.exit 0,⟨[],[]⟩) else (.ret,⟨[(4,.d (.bool false))],[]⟩)):=by
 obtain⟨fa,fb,_,_,_,_⟩:=h;have:=zg5 (G:=G) (x:=zafC) (ks:=[]) a.slots.length (fun k=>decide (a.slots[k]? = b.slots[k]?)) (fun k=>⟨[(2,.ref 2 0 0),(3,.ref 3 0 0),(5,.d (.int .i64 k))],[(2,.row [.d (zx a)]),(3,.row [.d (zx b)])]⟩) (.ret,⟨[(4,.d (.bool false))],[]⟩) (.exit 0,⟨[],[]⟩) (fun k hk L=>by
  simp only[zafC]
  by_cases h0:k<a.slots.length
  ·have hk2:k<b.slots.length:=by omega
   have hs:=zakR (a.slots[k]).shard (b.slots[k]).shard (fb k h0);simp only[zk] at hs;have e:decide (a.slots[k]=b.slots[k])=(decide (a.slots[k].owner=b.slots[k].owner)&&decide (a.slots[k].shard=b.slots[k].shard)):=by
    generalize a.slots[k]=x;generalize b.slots[k]=y
    cases x;cases y
    apply zacD.2;simp
   simp only[zaeD h0 hk2,h0,if_true,e];clear fb
   by_cases c1:a.slots[k].owner=b.slots[k].owner
   ·by_cases c2:a.slots[k].shard=b.slots[k].shard
    ·simp only[c1,c2,decide_true,zacG,if_true] at hs ⊢;simp -implicitDefEqProofs (maxSteps:=4000000) (disch:=omega) only[c1,zh,go_sem, *]
    ·simp only[c1,c2,decide_true,decide_false,zacJ,zabz,if_false] at hs ⊢;simp -implicitDefEqProofs (maxSteps:=4000000) (disch:=omega) only[c1,zh,go_sem, *]
   ·simp only[c1,decide_false,zacd,zabz,if_false];simp -implicitDefEqProofs (maxSteps:=4000000) (disch:=omega) only[c1,zh,go_sem, *]
  ·exact zS)
 simp only[zabl hab,zabQ,decide_eq_true_eq] at this;exact this
theorem zaiO(a b:zy)(h:FitA a):zi G zafk [.d (zx a),.d (zx b)] []=some (.d (.bool (decide (a=b))),[]):=by
 have hl:=zakN a b h;obtain⟨f1,f2,f3,f4,f5,f6⟩:=h;have h1:=zakV a.stripes b.stripes f3;have h2:=zakO a.dead.dead b.dead.dead f4;have h3:=zakP a.dir b.dir f5 f6;simp only[zT,zaT] at h2 h3;have e:decide (a=b)=decide (a.slots.length=b.slots.length/\a.stripes=b.stripes/\a.dead.owner=b.dead.owner/\a.dead.dead=b.dead.dead/\a.dir=b.dir/\a.epoch=b.epoch/\a.clock=b.clock/\a.nextID=b.nextID/\a.slots=b.slots):=by
  apply zacD.2;simp only[decide_eq_true_eq];constructor
  ·intro h;subst h;simp
  ·rintro⟨_,e1,e2,e3,e4,e5,e6,e7,e8⟩;obtain⟨_,_,⟨_,_⟩,_,_,_,_⟩:=a;obtain⟨_,_,⟨_,_⟩,_,_,_,_⟩:=b
   simp_all
 rw[e];clear e f2
 by_cases c1:a.slots.length=b.slots.length
 ·have hl2:=hl c1;clear hl
  by_cases c2:a.slots=b.slots
  ·rw[zabo c2] at hl2;generalize hq9:decide (a.slots.length=b.slots.length/\a.stripes=b.stripes/\a.dead.owner=b.dead.owner/\a.dead.dead=b.dead.dead/\a.dir=b.dir/\a.epoch=b.epoch/\a.clock=b.clock/\a.nextID=b.nextID/\a.slots=b.slots)=z;simp only[c1,c2,zacB,zacT] at hq9;clear c2;rw[zI zagx (by simp)];simp -implicitDefEqProofs (maxSteps:=4000000) (disch:=omega) only[zafL,zagQ,zh,go_sem, *]
   all_goals (clear h1 h2 h3 hl2;simp_all)
  ·rw[zabn c2] at hl2;rw[zabP (fun h=>c2 h.2.2.2.2.2.2.2.2)];clear c2;exact zW zagx
 ·clear hl;exact zW zagx
def kOf(n:Int)(l:List Int):Nat:=(l.filter fun c=>decide (c<n)).length
theorem zmC(n:Int)(l:List Int):kOf n l<=l.length:=zacF _ _
theorem zLS{n:Int}:∀ {l:List Int},l.Pairwise (· < ·)->∀(i:Nat) (hi:i<l.length),i<kOf n l↔l[i]<n:=by
 intro l
 induction l with
 | nil=>intro _ i hi;cases hi
 | cons c l ih=>
  intro h i hi;rw[zadd] at h
  by_cases hc:c<n
  ·have e:kOf n (c::l)=kOf n l+1:=by unfold kOf;rw[zacL,zabo (by simpa using hc)];rfl
   rw[e]
   cases i with
   | zero=>simp [hc]
   | succ i=>
    have:=ih h.2 i (by simpa using hi);simp only[zadZ];omega
  ·have e:kOf n (c::l)=0:=by
      unfold kOf;rw[zacL,zabn (by simpa using hc)];have:(l.filter fun c=>decide (c<n))=[]:=by
       rw[zaeq];intro x hx;have:=h.1 x hx;simp only[decide_eq_true_eq];omega
      rw[this];rfl
   rw[e]
   cases i with
   | zero=>simp [hc]
   | succ i=>
    have:=h.1 (l[i]'(by simpa using hi)) (zabC _);simp only[zadZ];omega
theorem zQE{u:Setup}{a:zy}(h:AI u a)(s:Section):zdp a s=kOf u.slots s.lock.cells:=by
 unfold zdp kOf;rw[h.sl]
structure PhI(k n:Nat)(s:Section):Prop where
 p0:s.phase=0->s.lock.phase<=2/\s.stripes=[]/\s.shards=[]/\s.snap.phase=0
 p1:s.phase=1->s.lock.phase=3/\0<=s.at_/\s.at_<2 * k/\(s.stripes.length:Int)=(s.at_+1) / 2/\s.shards=[]/\s.snap.phase=0
 p2:s.phase=2->s.lock.phase=3/\0<=s.at_/\s.at_<n/\s.stripes.length=k/\s.shards.length=min s.at_.toNat k/\s.snap.phase=0
 p3:s.phase=3->s.lock.phase=3/\s.stripes.length=k/\s.shards.length=k/\0<=s.snap.phase/\s.snap.phase<=2
 p4:s.phase=4->s.lock.phase=3/\s.stripes.length=k/\s.shards.length=k
 p5:s.phase=5->s.lock.phase=3/\s.stripes.length=k/\s.shards.length=k/\s.out.shards.length=k/\0<=s.at_/\s.at_<s.out.order.length
 p6:s.phase=6->s.lock.phase=3/\s.stripes.length=k/\s.shards.length=k/\s.out.shards.length=k/\s.out.edits.length=1/\0<=s.at_/\s.at_<=1
 p7:s.phase=7->s.lock.phase=3/\s.stripes.length=k/\s.shards.length=k/\s.out.shards.length=k/\0<=s.at_/\s.at_<k
 p8:s.phase=8->s.lock.phase=4/\s.shards.length=k/\s.out.shards.length=k
 p9:s.phase=9->s.shards.length=k/\s.out.shards.length=k
structure SI(u:Setup)(N:Int)(s:Section):Prop where
 lw:LWF N s.lock
 cr:∀c∈s.lock.cells,0<=c/\c<=u.slots
 ca:s.lock.cells.Pairwise (· < ·)
 sv:∀x∈s.shards,zY x=0/\(x.ready.cells.length:Int)=u.capacity
 dv:s.dead.l.length<=24
 lm:1<=s.limit/\s.limit<=8
 sn:(0<=s.snap.epoch/\s.snap.epoch<=65536)/\0<=s.snap.clock/\s.snap.clock<=1073741824
 di:s.dir.l.length<=65536
 os:∀x∈s.out.shards,zlj x
 od:s.out.dead.l.length<=1000
 oo:(∀o∈s.out.order,0<=o/\o<s.lock.cells.length)/\s.out.order.length<=3
 oc:s.out.carry.length<=1000/\s.carry.length<=1000
 ph:PhI (kOf u.slots s.lock.cells) s.lock.cells.length s
theorem SI.mono{u:Setup}{N M:Int}{s:Section}(h:SI u N s)(hn:N<=M):SI u M s:={ h with lw:=LWF.mono h.lw hn }
end Go.Proofs.YtnmcgdpmikhohaaGreat
