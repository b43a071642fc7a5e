/-
  ArenaStores.
-/
import Derived.Test.YtjalkkalhdnplaaGreatB568fc85
import Derived.Test.YtjalkkalhdnplaaGreatB642b53a
import Derived.Test.YtjalkkalhdnplaaGreatB887f6d6
import Derived.Test.YtjalkkalhdnplaaGreatBc22dd4b
import Derived.Test.YtjalkkalhdnplaaGreatB4d72af9
import Derived.Test.YtjalkkalhdnplaaGreatB2a7f320
set_option linter.unusedSimpArgs false
set_option linter.unusedVariables false
set_option maxHeartbeats 10000000
set_option maxRecDepth 100000
namespace Go.Proofs.YtjalkkalhdnplaaGreat
open Go Go.Sim
theorem zYE:∀n:Fin 256,zji .u8 (n.val:Int) 1=((UInt8.ofNat n.val ^^^ 1).toNat:Int):=by decide+kernel
theorem zYF(v:UInt8):zji .u8 (v.toNat:Int) 1=((v ^^^ 1).toNat:Int):=by
 have:=zYE ⟨v.toNat,v.toNat_lt⟩;simp only[UInt8.ofNat_toNat] at this;exact this
theorem zX1(r:Ref)(hs:List (List UInt8))(hl:hs.length<=10000000)(hb:∀b∈hs,b.length<=16):zd G 144 [.d (zhC r),.d (.sl (hs.map zaD))] []=some (.d (zaD (ze6 zax r hs)),[]):=by
 obtain⟨ri,rv,rr⟩:=r;have hmx:(if ri<0 then 0 else ri)=zbn ri 0:=by
  unfold zbn;rfl
 unfold ze6;simp only[zhC]
 by_cases c7:rv=7
 ·subst c7;rw[zYQ (by simp)];clear hb hmx;simp only[zaD];generalize byD rr=R;exact zW
 by_cases c0:hs.length=0
 ·rw[zYQ (.inr c0)];have:=zZC.1 c0;subst this;clear hb hmx;replace c7:=zYV c7;simp only[zaD,zYS];exact zW
 rw[zYP (by simp only[not_or];exact⟨c7,c0⟩)];have hn0:0<=zbn ri 0:=by unfold zbn;split<;>omega
 generalize zbn ri 0=y at *;obtain⟨k,hk⟩:∃k:Nat,y.tmod hs.length=k:=⟨(y.tmod hs.length).toNat,by have:=z1a (hs.length:Int) hn0;omega⟩;have hkl:k<hs.length:=by have:=z1h y (b:=hs.length) zo;omega
 rw[hk,zZz];have hg:hs.getD k []=hs[k]:=zg hkl;have hg2:(hs.map zaD)[k]? = some (zaD hs[k]):=by rw[zZa,zY1 hkl];rfl
 rw[hg];have hbl:=hb _ (zY4 hkl);have hlen:(hs.map zaD).length=hs.length:=zY3 _;generalize hs[k]=b at *;have hp:=zjg.pa b zo;have hq:=zXH b;have hq2:=zjg.ok.par b;generalize zax.par b=p at *;obtain⟨h,e⟩:=p;simp only at hp hq hq2 ⊢;clear hg hb;generalize hs.map zaD=H at *;replace c7:=zYV c7;have hbd:(byD b).length=b.length:=by unfold byD;simp
 have en:=zjg.en;simp only[zaB,zaD] at hp hg2 en ⊢
 by_cases ce:e=0
 ·subst ce;obtain⟨q1,q2,q3⟩:=hq rfl;obtain⟨⟨q4,q5⟩,_⟩:=hq2 rfl;rw[zYP (by simp)];rw[q1] at hbd;obtain⟨h1,h2,h3,h4⟩:=h;simp only at *;clear hq hq2;have fin:∀h':za3,∃x:List D,byD (if (zax.enc h').2≠0 then b else (zax.enc h').1)=x:=fun _=>⟨_,rfl⟩
  by_cases v5:rv=5
  ·subst v5;rw[zYQ (rfl:(5:Int)=5)];clear en fin;have hb15:(byD b)[15]? = some (.int .u8 ((b.getD 15 0).toNat)):=by
    unfold byD;rw[zZa,zY1 zo,zg zo];rfl
   have hset:byD (b.set (b.length - 1) (b.getD (b.length - 1) 0 ^^^ 1))=(byD b).set 15 (.int .u8 ((b.getD 15 0 ^^^ 1).toNat)):=by
    rw[q1];unfold byD;rw[zZ7]
   rw[hset];have hx:=zYF (b.getD 15 0);have ha:zap 1 (byD b)=true:=by simp [zap,byD,D.size,D.cells]
   have hb16:∀h:15<(byD b).length,(byD b)[15]'h= .int .u8 ((b.getD 15 0).toNat):=fun h=>by
    have:=zY1 h;rw[hb15] at this;exact (Option.some.inj this).symm
   generalize b.getD 15 0=v at *;generalize byD b=R at *;clear q1 hbl hset;rw[zB zOR (by simp)];simp -implicitDefEqProofs (maxSteps:=4000000) (disch:=omega) only[zqt,zg,go_sem, *];(try simp only[zPr]);repeat' (first|done|rfl|((first|refine zG (fun hq=> ?_) (fun hq=> ?_)|refine zM (fun hq=> ?_) (fun hq=> ?_))<;>(try (first|(exfalso;omega)|contradiction))<;>(try simp -implicitDefEqProofs (maxSteps:=4000000) (disch:=omega) only[zg,go_sem, *])<;>(try simp only[zPr])));(all_goals try rfl);(all_goals try (repeat' (first|done|rfl|(exfalso;omega)|contradiction|(refine zI (fun hq=> ?_) (fun hq=> ?_)))))
   all_goals rw[z0Q (by rw[zZu];omega)]
  rw[zYP v5]
  by_cases v2:rv=2
  ·subst v2;rw[zYQ (.inl rfl),zYQ (rfl:(2:Int)=2)];have e1:=en ⟨h1,h2+1,h3,h4⟩;generalize zax.enc ⟨h1,h2+1,h3,h4⟩=z at *;obtain⟨zb,ze⟩:=z;simp only at *;clear en fin
   by_cases cz:ze=0
   ·subst cz;rw[zYP (by simp)];generalize byD b=R at *;generalize byD zb=Z at *;clear q1 hbl;exact zW
   ·rw[zYQ cz];replace cz:=zYV cz;generalize byD b=R at *;generalize byD zb=Z at *;clear q1 hbl;exact zW
  by_cases v3:rv=3
  ·subst v3;rw[zYQ (.inr (.inl rfl)),zYP (by decide:¬(3:Int)=2),zYQ (rfl:(3:Int)=3)];have e1:=en ⟨h1,h2 - 1,h3,h4⟩;generalize zax.enc ⟨h1,h2 - 1,h3,h4⟩=z at *;obtain⟨zb,ze⟩:=z;simp only at *;clear en fin
   by_cases cz:ze=0
   ·subst cz;rw[zYP (by simp)];generalize byD b=R at *;generalize byD zb=Z at *;clear q1 hbl;exact zW
   ·rw[zYQ cz];replace cz:=zYV cz;generalize byD b=R at *;generalize byD zb=Z at *;clear q1 hbl;exact zW
  by_cases v4:rv=4
  ·subst v4;rw[zYQ (.inr (.inr rfl)),zYP (by decide:¬(4:Int)=2),zYP (by decide:¬(4:Int)=3)];have e1:=en ⟨h1,h2,(h3+1).tmod 65536,h4⟩;generalize zax.enc ⟨h1,h2,(h3+1).tmod 65536,h4⟩=z at *;obtain⟨zb,ze⟩:=z;simp only at *;clear en fin
   by_cases cz:ze=0
   ·subst cz;rw[zYP (by simp)];generalize byD b=R at *;generalize byD zb=Z at *;clear q1 hbl;exact zW
   ·rw[zYQ cz];replace cz:=zYV cz;generalize byD b=R at *;generalize byD zb=Z at *;clear q1 hbl;exact zW
  rw[zYP (by simp only[not_or];exact⟨v2,v3,v4⟩)];replace v2:=zYV v2;replace v3:=zYV v3;replace v4:=zYV v4;replace v5:=zYV v5;clear en fin;generalize byD b=R at *;clear q1 hbl;exact zW
 ·rw[zYQ ce];replace ce:=zYV ce;clear hq hq2 en;obtain⟨h1,h2,h3,h4⟩:=h;simp only at *;generalize byD b=R at *;exact zW
theorem zHS{u:Setup}{B:Int}{w:World}{c:Command}(h4:u.slots<=4)(h:QI u B w)(hB:B<=102000)(hk:c.kind=3)(h1:1<=c.refs.length)(h2:c.refs.length<=2)(hb:c.inv.bodies.length<=1000):zd G 92 [.d (zD w),.d (zaT c)] []=some (.d (.tup [zD (doW zax w c).1,.int .i64 (doW zax w c).2]),[]):=by
 have hh:=h.hl;have hst:=h.lb.st;have hi:=fun v:zaY=>zBM w (i:=v) (by rw[h.wi.su];exact h4) h.wi.tl;have ht:=fun r=>zX1 r w.handles zo h.hb;have hhl:w.handles.length<=4294967296:=by omega
 unfold doW;simp only;have hp0:0<c.refs.length:=by omega
 rw[zYP zo,zYP zo,zYQ hk];simp only[zYQ hp0];clear hp0;clear h hh hst h4;obtain⟨k,pk,by_,⟨v1,v2,v3,v4,v5,v6,bs,ts⟩,rf⟩:=c;simp only at *;subst hk
 rcases rf with _|⟨r1,_|⟨r2,rf⟩⟩
 ·simp at h1
 ·have hv:=hi ⟨v1,v2,v3,v4,v5,v6,bs,[ze6 zax r1 w.handles]⟩ (by simp) (by simp only;omega);have t1:=ht r1;clear hi ht h1 h2;simp only[zYU,zYS];generalize ze6 zax r1 w.handles=x1 at *;generalize zcO w ⟨v1,v2,v3,v4,v5,v6,bs,[x1]⟩=r at *;obtain⟨r,n,e⟩:=r;simp only at *;obtain⟨s,wa,tasks,log,steps,handles⟩:=w;simp only at hhl t1
  by_cases c:e=0
  ·subst c;rw[zYQ rfl];have sz_r:=za8 r;generalize zD r=D_r at *;simp only[zD,zaT,zbV,zhC,zYU,zYS] at *;have ex1:zaD x1= .sl (byD x1):=rfl;rw[ex1] at t1 hv;clear ex1;generalize byD x1=y1 at *;have zk0:= @zaC;have zk1:=zlU.eq_1;exact zW
  ·rw[zYP c];replace c:=zYV c;have sz_r:=za8 r;generalize zD r=D_r at *;simp only[zD,zaT,zbV,zhC,zYU,zYS] at *;have ex1:zaD x1= .sl (byD x1):=rfl;rw[ex1] at t1 hv;clear ex1;generalize byD x1=y1 at *;have zk0:= @zaC;have zk1:=zlU.eq_1;exact zW
 ·have hv:=hi ⟨v1,v2,v3,v4,v5,v6,bs,[ze6 zax r1 w.handles,ze6 zax r2 w.handles]⟩ (by simp) (by simp only;omega);have:rf=[]:=by simp only[zYW] at h2;exact zZC.1 zo
  subst this;have t1:=ht r1;have t2:=ht r2;clear hi ht h1 h2;simp only[zYU,zYS];generalize ze6 zax r1 w.handles=x1 at *;generalize ze6 zax r2 w.handles=x2 at *;generalize zcO w ⟨v1,v2,v3,v4,v5,v6,bs,[x1,x2]⟩=r at *;obtain⟨r,n,e⟩:=r;simp only at *;obtain⟨s,wa,tasks,log,steps,handles⟩:=w;simp only at hhl t1 t2
  by_cases c:e=0
  ·subst c;rw[zYQ rfl];have sz_r:=za8 r;generalize zD r=D_r at *;simp only[zD,zaT,zbV,zhC,zYU,zYS] at *;have ex1:zaD x1= .sl (byD x1):=rfl;have ex2:zaD x2= .sl (byD x2):=rfl;rw[ex1] at t1 hv;rw[ex2] at t2 hv;clear ex1 ex2;generalize byD x1=y1 at *;generalize byD x2=y2 at *;have zk0:= @zaC;have zk1:=zlU.eq_1;exact zW
  ·rw[zYP c];replace c:=zYV c;have sz_r:=za8 r;generalize zD r=D_r at *;simp only[zD,zaT,zbV,zhC,zYU,zYS] at *;have ex1:zaD x1= .sl (byD x1):=rfl;have ex2:zaD x2= .sl (byD x2):=rfl;rw[ex1] at t1 hv;rw[ex2] at t2 hv;clear ex1 ex2;generalize byD x1=y1 at *;generalize byD x2=y2 at *;have zk0:= @zaC;have zk1:=zlU.eq_1;exact zW
def ziq(c:Command):Prop:=c.refs.length<=2/\(∀r∈c.refs,r.raw.length<=16)/\c.inv.tokens=[]/\c.inv.bodies.length<=1000
theorem zHP{u:Setup}{B:Int}{w:World}{c:Command}(h4:u.slots<=4)(h:QI u B w)(hB:B<=102000)(hc:ziq c):zd G 92 [.d (zD w),.d (zaT c)] []=some (.d (.tup [zD (doW zax w c).1,.int .i64 (doW zax w c).2]),[]):=by
 have h1:=h.lb.st;have h2:=h.lb.lg;obtain⟨c1,c2,c3,c4⟩:=hc
 by_cases k1:c.kind=1
 ·exact zHR h hB k1
 by_cases k2:c.kind=2
 ·exact zHT h.wi zo zo k2
 by_cases k3:c.kind=3
 ·by_cases hr:c.refs=[]
  ·exact zHO (by rw[h.wi.su];exact h4) h.wi.tl (by rw[c3];simp) zo k3 hr
  ·exact zHS h4 h hB k3 (z0o.2 hr) c1 c4
 ·exact zHQ k1 k2 k3
theorem zSS{u:Setup}(k:Int):∀(n:Nat) (B:Int) (w:World),QI u B w->(zhT zax k n w).2=0->QI u (B+n) (zhT zax k n w).1:=by
 intro n
 induction n with
 | zero=>intro B w h _;exact h.mono zo
 | succ n ih=>
  intro B w h e;unfold zhT at e ⊢
  by_cases c:(zbj w).length=0
  ·rw[zYQ c];exact h.mono zo
  rw[zYP c] at e ⊢
  by_cases c2:(zc9 zax w ((zbn k 0).tmod (zbj w).length)).2=0
  ·rw[zYP (fun q=>q c2)] at e ⊢;exact (ih _ _ (zC9 zjg.ok zmL h c2) e).mono zo
  ·rw[zYQ c2] at e;exact absurd e c2
theorem zyO{u:Setup}{B:Int}{w:World}{c:Command}(h:QI u B w)(hc:ziq c)(e:(doW zax w c).2=0):QI u (B+255) (doW zax w c).1:=by
 obtain⟨g1,g2,g3,g4⟩:=hc;unfold doW at e ⊢;simp only at e ⊢
 by_cases c1:c.kind=1
 ·rw[zYQ c1] at e ⊢;have:=zuw c.by_;exact (zSS _ _ _ _ h e).mono zo
 rw[zYP c1] at e ⊢
 by_cases c2:c.kind=2
 ·rw[zYQ c2]
  split
  ·rename_i q;exact (zXM h q).mono zo
  ·exact h.mono zo
 rw[zYP c2] at e ⊢
 by_cases c3:c.kind=3
 ·rw[zYQ c3];have hv:∀b∈(if 0<c.refs.length then { c.inv with tokens:=c.refs.map fun r=>ze6 zax r w.handles } else c.inv).tokens,b.length<=16:=by
   intro b hb
   split at hb
   ·obtain⟨r,hr,rfl⟩:=zY0.1 hb;exact zX0 zmL (g2 r hr) h.hb
   ·rw[g3] at hb;cases hb
  generalize (if 0<c.refs.length then { c.inv with tokens:=c.refs.map fun r=>ze6 zax r w.handles } else c.inv)=v at *
  split
  ·rename_i q;exact (zPB h hv q).mono zo
  ·exact h.mono zo
 ·rw[zYP c3];exact h.mono zo
theorem zsF{u:Setup}(e:(zc8 u).2=0):QI u 0 (zc8 u).1:=by
 unfold zc8 at e ⊢
 by_cases c:(zbN u).2=0
 ·rw[zYP (fun q=>q c)];have hu:zaX u=true:=by
   cases q:zaX u with
   | true=>rfl
   | false=>unfold zbN at c;rw[zYQ q] at c;exact absurd c (by simp)
  exact { wi:={ hu:=hu,su:=rfl,ar:=zFI c,ts:=fun t h=>by simp [zbd] at h,tl:=by simp [zbd],st:=by simp [zbd] },lb:=⟨by simp [zbd],by simp [zbd]⟩,hl:=by simp [zbd],hb:=fun b h=>by simp [zbd] at h,tk:=fun t h=>by simp [zbd] at h }
 ·rw[zYQ c] at e;exact absurd e c
theorem zUR{u:Setup}{l:List Command}(h4:u.slots<=4)(hL:l.length<=400)(hc:∀c∈l,ziq c):zd G 41 [.d (zaU u),.d (.sl (l.map zaT))] []=some (.d (.tup [zD (zgD zax u l).1,.int .i64 (zgD zax u l).2]),[]):=
 zUQ (fun k w=>QI u (255 * k) w) h4 hL (fun e=>(zsF e).mono zo) (fun k w c hm hk h=>zHP h4 h zo (hc c hm)) (fun k w c hm hk h e=>(zyO h (hc c hm) e).mono zo)
theorem zUT{u:Setup}:∀(l:List Command) (B:Int) (w:World),(∀c∈l,ziq c)->QI u B w->(zez zax l w).2=0->QI u (B+255 * l.length) (zez zax l w).1:=by
 intro l
 induction l with
 | nil=>intro B w _ h _;exact h.mono (by simp)
 | cons c l ih=>
  intro B w hc h e;unfold zez at e ⊢
  by_cases c1:(doW zax w c).2=0
  ·rw[zYP (fun q=>q c1)] at e ⊢;exact (ih _ _ (fun x hx=>hc x (.tail _ hx)) (zyO h (hc c (.head _)) c1) e).mono (by simp only[zYW];omega)
  ·rw[zYQ c1] at e;exact absurd e c1
theorem zUU{u:Setup}{l:List Command}(hL:l.length<=400)(hc:∀c∈l,ziq c)(e:(zgD zax u l).2=0):QI u 102000 (zgD zax u l).1:=by
 have h0:=zsF (u:=u);unfold zc8 at h0;unfold zgD at e ⊢
 by_cases c1:(zbN u).2=0
 ·rw[zYP (fun q=>q c1)] at e h0 ⊢;rw[zYP zo] at e ⊢;exact (zUT l 0 _ hc (h0 rfl) e).mono zo
 ·rw[zYQ c1] at e;exact absurd e c1
theorem zSP(l:List Int)(a:Nat)(xs:List Int)(hL:l.length<=4000)(h1:1<=xs.length)(h2:xs.length<=1000):zd G 34 [.ref 1000000 0 0,.d (.sl (zt xs))] [(1000000,zp l a)]=some (.d (.int .i64 (xs.getD (nD l a xs.length).toNat 0)),[(1000000,zp l (zae l a).2)]):=by
 have hn:=zbP l a xs.length hL zo zo;have hb:=zaG l a (n:=xs.length) zo;obtain⟨i,hi⟩:∃i:Nat,nD l a xs.length=i:=⟨(nD l a xs.length).toNat,by omega⟩;rw[hi] at hn hb ⊢;have hlt:i<xs.length:=by omega
 rw[show ((i:Int)).toNat=i by omega,zg hlt];clear hb hi;exact zW
theorem zDa{l:List Int}{a:Nat}{xs:List Int}{lo hi:Int}(h:∀x∈xs,lo<=x/\x<=hi)(h1:1<=xs.length)(h2:xs.length<=1000):lo<=xs.getD (nD l a xs.length).toNat 0/\xs.getD (nD l a xs.length).toNat 0<=hi:=by
 have:=zaG l a (n:=xs.length) zo;rw[zg (show (nD l a xs.length).toNat<xs.length by omega)];exact h _ (zY4 _)
def fz(k x:Int):Int:=if k=7\/k=6 then 0 else x
theorem zKa(k p b ik h m v f t:Int)(bs ts rs:List D):zd G 146 [.d (.agg [.int .i64 k,.int .i64 p,.int .i64 b,.int .i64 ik,.int .i64 h,.int .i64 m,.int .i64 v,.int .i64 f,.int .i64 t,.sl bs,.sl ts,.sl rs])] []=
    some (.d (.agg [.int .i64 k,.int .i64 p,.int .i64 b,.int .i64 ik,.int .i64 (fz ik h),.int .i64 (fz ik m),.int .i64 v,.int .i64 f,.int .i64 t,.sl bs,.sl ts,.sl rs]),[]):=by
 unfold fz
 by_cases h1:ik=7
 ·simp only[h1,z0Y,if_true];exact zW
 ·by_cases h2:ik=6
  ·simp only[h1,h2,or_true,if_true];exact zW
  ·simp only[h1,h2,z0q,if_false];exact zW
def zPy(i:zaY):Prop:=i.tokens=[]/\i.bodies.length<=2/\(∀b∈i.bodies,b.length<=3)/\0<=i.home/\i.home<=3/\0<=i.max/\i.max<=3/\0<=i.visibility/\i.visibility<=100/\0<=i.from_/\i.from_<=4/\0<=i.to/\i.to<=3
def zgS(c:Command):Prop:=c.refs.length<=2/\(∀r∈c.refs,0<=r.index/\r.index<=5/\r.raw.length=1)/\zPy c.inv
def znj(l:List Int)(r:Option (Go.Sim.AV×zf)):Prop:=∃c a',zgS c/\r=some (.d (zaT c),[(1000000,zp l a')])
theorem zjA{l:List Int}{k p b ik h m v f t:Int}{a':Nat}(h1:0<=h)(h2:h<=3)(h3:0<=m)(h4:m<=3)(h5:0<=v)(h6:v<=100)(h7:0<=f)(h8:f<=4)(h9:0<=t)(h10:t<=3):zdl (znj l) (some (.d (.agg [.int .i64 k,.int .i64 p,.int .i64 b,.int .i64 ik,.int .i64 h,.int .i64 m,.int .i64 v,.int .i64 f,.int .i64 t,.sl [],.sl [],.sl []]),[(1000000,zp l a')])):=
 ⟨⟨k,p,b,⟨ik,h,m,v,f,t,[],[]⟩,[]⟩,a',⟨by simp,by simp,rfl,by simp,by simp,h1,h2,h3,h4,h5,h6,h7,h8,h9,h10⟩,rfl⟩
theorem zyE{l:List Int}(bs:List (List UInt8)){k p b ik:Int}{a':Nat}(h1:bs.length<=2)(h2:∀b∈bs,b.length<=3):zdl (znj l) (some (.d (.agg [.int .i64 k,.int .i64 p,.int .i64 b,.int .i64 ik,.int .i64 (fz 1 0),.int .i64 (fz 1 0),.int .i64 0,.int .i64 0,.int .i64 0,.sl (bs.map D.str),.sl [],.sl []]),[(1000000,zp l a')])):=
 ⟨⟨k,p,b,⟨ik,0,0,0,0,0,bs,[]⟩,[]⟩,a',⟨by simp,by simp,rfl,h1,h2,by simp⟩,rfl⟩
theorem znk{l:List Int}(rs:List Ref){k p b ik x v:Int}{a':Nat}(h1:0<=v)(h2:v<=100)(h3:rs.length<=2)(h4:∀r∈rs,0<=r.index/\r.index<=5/\r.raw.length=1):zdl (znj l) (some (.d (.agg [.int .i64 k,.int .i64 p,.int .i64 b,.int .i64 ik,.int .i64 (fz x 0),.int .i64 (fz x 0),.int .i64 v,.int .i64 0,.int .i64 0,.sl [],.sl [],.sl (rs.map zhC)]),[(1000000,zp l a')])):=by
 have e:fz x 0=0:=by unfold fz;split<;>rfl
 rw[e];exact⟨⟨k,p,b,⟨ik,0,0,v,0,0,[],[]⟩,rs⟩,a',⟨h3,h4,rfl,by simp,by simp,by simp [h1,h2]⟩,rfl⟩
theorem zGI(l:List Int)(a:Nat)(hL:l.length<=4000):zdl (znj l) (zd G 93 [.ref 1000000 0 0] [(1000000,zp l a)]):=by
 obtain⟨a1,q1⟩:∃a1,(zae l a).2=a1:=⟨_,rfl⟩;obtain⟨a2,q2⟩:∃a2,(zae l a1).2=a2:=⟨_,rfl⟩;obtain⟨a3,q3⟩:∃a3,(zae l a2).2=a3:=⟨_,rfl⟩;have n1:=zaG l a (n:=20) zo;have n2:=zaG l a1 (n:=4) zo;have n3:=zaG l a2 (n:=2) zo;have hn:=fun at1 m=>zbP l at1 m hL;have hr:=fun at1 lo hi=>zgz l at1 lo hi hL;have hb:=fun at1=>(zpY l at1 hL).2;have hf:=zKa;have hp:=fun at1 xs=>zSP l at1 xs hL;have p1:=fun at1=>hp at1 [1,1,2,3,5,8,14,30] (by simp) (by simp);have p2:=fun at1=>hp at1 [0,1,3,10,40] (by simp) (by simp);have p3:=fun at1=>hp at1 [0,1,5,20,100] (by simp) (by simp);have p4:=fun at1=>hp at1 [0,1,10,50] (by simp) (by simp);have p5:=fun at1=>hp at1 [7,7,6,8] (by simp) (by simp);have p6:=fun at1=>hp at1 [0,0,0,0,2,3,4,5,7] (by simp) (by simp);simp only[zt,zYU,zYS] at p1 p2 p3 p4 p5 p6;clear hp;have b3:=fun at1=>(zpY l at1 hL).1;have v3:∀at1,0<=[0,1,5,20,100].getD (nD l at1 5).toNat (0:Int)/\[0,1,5,20,100].getD (nD l at1 5).toNat (0:Int)<=100:=fun at1=>zDa (xs:=[0,1,5,20,100]) (by decide) (by simp) (by simp);have v4:∀at1,0<=[0,1,10,50].getD (nD l at1 4).toNat (0:Int)/\[0,1,10,50].getD (nD l at1 4).toNat (0:Int)<=100:=fun at1=>by
  have:=zDa (l:=l) (a:=at1) (xs:=[0,1,10,50]) (lo:=0) (hi:=50) (by decide) (by simp) (by simp);exact⟨this.1,Int.le_trans this.2 (by decide)⟩
 have w3:=v3 a3;have w4:=v4 a3;have n4:=zaG l a2 (n:=3) zo;have n5:=zaG l a3 (n:=3) zo;have n6:=zaG l a3 (n:=4) zo;have n7:=zaG l a3 (n:=5) zo;have n8:=zaG l a3 (n:=2) zo;obtain⟨a4,q4⟩:∃a4,(zae l a3).2=a4:=⟨_,rfl⟩;have n9:=zaG l a4 (n:=2) zo;have n10:∀at1,0<=nD l at1 6/\nD l at1 6<6:=fun at1=>zaG l at1 (n:=6) zo;clear v3 v4;have u8:∀at1,∃c:UInt8,nD l at1 256=c.toNat:=fun at1=>by
  have:=zaG l at1 (n:=256) zo;exact⟨UInt8.ofNat (nD l at1 256).toNat,by rw[UInt8.toNat_ofNat'];omega⟩
 rcases (show nD l a 20<9\/nD l a 20=9\/(nD l a 20=10\/nD l a 20=11\/nD l a 20=12)\/(nD l a 20=13\/nD l a 20=14)\/(nD l a 20=15\/nD l a 20=16)\/nD l a 20=17\/nD l a 20=18\/nD l a 20=19 by omega) with c|c|c|c|c|c|c|c
 ·rw[zB zfg (by simp)];simp -implicitDefEqProofs (maxSteps:=4000000) (disch:=omega) only[zef,zg,go_sem, *];(try simp only[zPr]);repeat' (first|done|rfl|((first|refine zG (fun hq=> ?_) (fun hq=> ?_)|refine zM (fun hq=> ?_) (fun hq=> ?_))<;>(try (first|(exfalso;omega)|contradiction))<;>(try simp -implicitDefEqProofs (maxSteps:=4000000) (disch:=omega) only[zg,go_sem, *])<;>(try simp only[zPr])));(all_goals try rfl);(all_goals try (repeat' (first|done|rfl|(exfalso;omega)|contradiction|(refine zI (fun hq=> ?_) (fun hq=> ?_)))))
  all_goals (refine zjA ?_ ?_ ?_ ?_ ?_ ?_ ?_ ?_ ?_ ?_<;>omega)
 ·rw[zB zfg (by simp)];simp -implicitDefEqProofs (maxSteps:=4000000) (disch:=omega) only[zef,zg,go_sem, *];(try simp only[zPr]);repeat' (first|done|rfl|((first|refine zG (fun hq=> ?_) (fun hq=> ?_)|refine zM (fun hq=> ?_) (fun hq=> ?_))<;>(try (first|(exfalso;omega)|contradiction))<;>(try simp -implicitDefEqProofs (maxSteps:=4000000) (disch:=omega) only[zg,go_sem, *])<;>(try simp only[zPr])));(all_goals try rfl);(all_goals try (repeat' (first|done|rfl|(exfalso;omega)|contradiction|(refine zI (fun hq=> ?_) (fun hq=> ?_)))))
  all_goals (refine zjA ?_ ?_ ?_ ?_ ?_ ?_ ?_ ?_ ?_ ?_<;>omega)
 ·rcases (show nD l a2 2=0\/nD l a2 2=1 by omega) with m0|m0
  ·rcases c with c|c|c
   all_goals (rw[zB zfg (by simp)];simp -implicitDefEqProofs (maxSteps:=4000000) (disch:=omega) only[zef,zaC,zlI,zg,go_sem, *];(try simp only[zPr]);repeat' (first|done|rfl|((first|refine zG (fun hq=> ?_) (fun hq=> ?_)|refine zM (fun hq=> ?_) (fun hq=> ?_))<;>(try (first|(exfalso;omega)|contradiction))<;>(try simp -implicitDefEqProofs (maxSteps:=4000000) (disch:=omega) only[zaC,zlI,zg,go_sem, *])<;>(try simp only[zPr])));(all_goals try rfl);(all_goals try (repeat' (first|done|rfl|(exfalso;omega)|contradiction|(refine zI (fun hq=> ?_) (fun hq=> ?_))))))
   all_goals exact zyE [_] (by simp) (by intro b hb;simp only[zZt] at hb;subst hb;exact b3 _)
  ·rcases c with c|c|c
   all_goals (rw[zB zfg (by simp)];simp -implicitDefEqProofs (maxSteps:=4000000) (disch:=omega) only[zef,zaC,zlI,zg,go_sem, *];(try simp only[zPr]);repeat' (first|done|rfl|((first|refine zG (fun hq=> ?_) (fun hq=> ?_)|refine zM (fun hq=> ?_) (fun hq=> ?_))<;>(try (first|(exfalso;omega)|contradiction))<;>(try simp -implicitDefEqProofs (maxSteps:=4000000) (disch:=omega) only[zaC,zlI,zg,go_sem, *])<;>(try simp only[zPr])));(all_goals try rfl);(all_goals try (repeat' (first|done|rfl|(exfalso;omega)|contradiction|(refine zI (fun hq=> ?_) (fun hq=> ?_))))))
   all_goals exact zyE [_,_] (by simp) (by intro b hb;simp only[zZx,z0J,z0q] at hb;rcases hb with rfl|rfl<;>exact b3 _)
 ·rcases c with c|c
  all_goals (rw[zB zfg (by simp)];simp -implicitDefEqProofs (maxSteps:=4000000) (disch:=omega) only[zef,zg,go_sem, *];(try simp only[zPr]);repeat' (first|done|rfl|((first|refine zG (fun hq=> ?_) (fun hq=> ?_)|refine zM (fun hq=> ?_) (fun hq=> ?_))<;>(try (first|(exfalso;omega)|contradiction))<;>(try simp -implicitDefEqProofs (maxSteps:=4000000) (disch:=omega) only[zg,go_sem, *])<;>(try simp only[zPr])));(all_goals try rfl);(all_goals try (repeat' (first|done|rfl|(exfalso;omega)|contradiction|(refine zI (fun hq=> ?_) (fun hq=> ?_))))))
  all_goals (refine zjA ?_ ?_ ?_ ?_ ?_ ?_ ?_ ?_ ?_ ?_<;>(try simp only[fz])<;>(try split)<;>omega)
 ·rcases (show nD l a2 3=2\/¬nD l a2 3=2 by omega) with k5|k5
  ·obtain⟨s1,t1⟩:∃s1,(zae l a4).2=s1:=⟨_,rfl⟩;obtain⟨s2,t2⟩:∃s2,(zae l s1).2=s2:=⟨_,rfl⟩;obtain⟨s3,t3⟩:∃s3,(zae l s2).2=s3:=⟨_,rfl⟩;obtain⟨s4,t4⟩:∃s4,(zae l s3).2=s4:=⟨_,rfl⟩;obtain⟨s5,t5⟩:∃s5,(zae l s4).2=s5:=⟨_,rfl⟩;obtain⟨s6,t6⟩:∃s6,(zae l s5).2=s6:=⟨_,rfl⟩;obtain⟨c1,d1⟩:=u8 s3;obtain⟨c2,d2⟩:=u8 s6;have e1:=c1.toNat_lt;have e2:=c2.toNat_lt;have r1:=zaG l s1 (n:=6) zo;have r2:=zaG l s4 (n:=6) zo
   rcases (show nD l a4 2=0\/nD l a4 2=1 by omega) with m0|m0
   ·rcases c with c|c
    all_goals (rw[zB zfg (by simp)];simp -implicitDefEqProofs (maxSteps:=4000000) (disch:=omega) only[zef,zaC,zgX,zg,go_sem, *];(try simp only[zPr]);repeat' (first|done|rfl|((first|refine zG (fun hq=> ?_) (fun hq=> ?_)|refine zM (fun hq=> ?_) (fun hq=> ?_))<;>(try (first|(exfalso;omega)|contradiction))<;>(try simp -implicitDefEqProofs (maxSteps:=4000000) (disch:=omega) only[zaC,zgX,zg,go_sem, *])<;>(try simp only[zPr])));(all_goals try rfl);(all_goals try (repeat' (first|done|rfl|(exfalso;omega)|contradiction|(refine zI (fun hq=> ?_) (fun hq=> ?_))))))
    all_goals (refine znk [⟨nD l s1 6,[0,0,0,0,2,3,4,5,7].getD (nD l s2 9).toNat 0,[c1]⟩] ?_ ?_ (by simp) ?_;(first|omega|exact z01 _);(first|omega|decide);intro r hr;simp only[zZt] at hr;subst hr;exact⟨r1.1,by simp only;omega,rfl⟩)
   ·rcases c with c|c
    all_goals (rw[zB zfg (by simp)];simp -implicitDefEqProofs (maxSteps:=4000000) (disch:=omega) only[zef,zaC,zgX,zg,go_sem, *];(try simp only[zPr]);repeat' (first|done|rfl|((first|refine zG (fun hq=> ?_) (fun hq=> ?_)|refine zM (fun hq=> ?_) (fun hq=> ?_))<;>(try (first|(exfalso;omega)|contradiction))<;>(try simp -implicitDefEqProofs (maxSteps:=4000000) (disch:=omega) only[zaC,zgX,zg,go_sem, *])<;>(try simp only[zPr])));(all_goals try rfl);(all_goals try (repeat' (first|done|rfl|(exfalso;omega)|contradiction|(refine zI (fun hq=> ?_) (fun hq=> ?_))))))
    all_goals (refine znk [⟨nD l s1 6,[0,0,0,0,2,3,4,5,7].getD (nD l s2 9).toNat 0,[c1]⟩,⟨nD l s4 6,[0,0,0,0,2,3,4,5,7].getD (nD l s5 9).toNat 0,[c2]⟩] ?_ ?_ (by simp) ?_;(first|omega|exact z01 _);(first|omega|decide);intro r hr;simp only[zZx,z0J,z0q] at hr;rcases hr with rfl|rfl;exact⟨r1.1,by simp only;omega,rfl⟩;exact⟨r2.1,by simp only;omega,rfl⟩)
  ·obtain⟨s1,t1⟩:∃s1,(zae l a3).2=s1:=⟨_,rfl⟩;obtain rfl:s1=a4:=t1.symm.trans q4;obtain⟨s2,t2⟩:∃s2,(zae l s1).2=s2:=⟨_,rfl⟩;obtain⟨s3,t3⟩:∃s3,(zae l s2).2=s3:=⟨_,rfl⟩;obtain⟨s4,t4⟩:∃s4,(zae l s3).2=s4:=⟨_,rfl⟩;obtain⟨s5,t5⟩:∃s5,(zae l s4).2=s5:=⟨_,rfl⟩;obtain⟨s6,t6⟩:∃s6,(zae l s5).2=s6:=⟨_,rfl⟩;obtain⟨c1,d1⟩:=u8 s3;obtain⟨c2,d2⟩:=u8 s6;have e1:=c1.toNat_lt;have e2:=c2.toNat_lt;have r1:=zaG l s1 (n:=6) zo;have r2:=zaG l s4 (n:=6) zo
   rcases (show nD l a3 2=0\/nD l a3 2=1 by omega) with m0|m0
   ·rcases c with c|c
    all_goals (rw[zB zfg (by simp)];simp -implicitDefEqProofs (maxSteps:=4000000) (disch:=omega) only[zef,zaC,zgX,zg,go_sem, *];(try simp only[zPr]);repeat' (first|done|rfl|((first|refine zG (fun hq=> ?_) (fun hq=> ?_)|refine zM (fun hq=> ?_) (fun hq=> ?_))<;>(try (first|(exfalso;omega)|contradiction))<;>(try simp -implicitDefEqProofs (maxSteps:=4000000) (disch:=omega) only[zaC,zgX,zg,go_sem, *])<;>(try simp only[zPr])));(all_goals try rfl);(all_goals try (repeat' (first|done|rfl|(exfalso;omega)|contradiction|(refine zI (fun hq=> ?_) (fun hq=> ?_))))))
    all_goals (refine znk [⟨nD l s1 6,[0,0,0,0,2,3,4,5,7].getD (nD l s2 9).toNat 0,[c1]⟩] ?_ ?_ (by simp) ?_;(first|omega|exact z01 _);(first|omega|decide);intro r hr;simp only[zZt] at hr;subst hr;exact⟨r1.1,by simp only;omega,rfl⟩)
   ·rcases c with c|c
    all_goals (rw[zB zfg (by simp)];simp -implicitDefEqProofs (maxSteps:=4000000) (disch:=omega) only[zef,zaC,zgX,zg,go_sem, *];(try simp only[zPr]);repeat' (first|done|rfl|((first|refine zG (fun hq=> ?_) (fun hq=> ?_)|refine zM (fun hq=> ?_) (fun hq=> ?_))<;>(try (first|(exfalso;omega)|contradiction))<;>(try simp -implicitDefEqProofs (maxSteps:=4000000) (disch:=omega) only[zaC,zgX,zg,go_sem, *])<;>(try simp only[zPr])));(all_goals try rfl);(all_goals try (repeat' (first|done|rfl|(exfalso;omega)|contradiction|(refine zI (fun hq=> ?_) (fun hq=> ?_))))))
    all_goals (refine znk [⟨nD l s1 6,[0,0,0,0,2,3,4,5,7].getD (nD l s2 9).toNat 0,[c1]⟩,⟨nD l s4 6,[0,0,0,0,2,3,4,5,7].getD (nD l s5 9).toNat 0,[c2]⟩] ?_ ?_ (by simp) ?_;(first|omega|exact z01 _);(first|omega|decide);intro r hr;simp only[zZx,z0J,z0q] at hr;rcases hr with rfl|rfl;exact⟨r1.1,by simp only;omega,rfl⟩;exact⟨r2.1,by simp only;omega,rfl⟩)
 ·rw[zB zfg (by simp)];simp -implicitDefEqProofs (maxSteps:=4000000) (disch:=omega) only[zef,zg,go_sem, *];(try simp only[zPr]);repeat' (first|done|rfl|((first|refine zG (fun hq=> ?_) (fun hq=> ?_)|refine zM (fun hq=> ?_) (fun hq=> ?_))<;>(try (first|(exfalso;omega)|contradiction))<;>(try simp -implicitDefEqProofs (maxSteps:=4000000) (disch:=omega) only[zg,go_sem, *])<;>(try simp only[zPr])));(all_goals try rfl);(all_goals try (repeat' (first|done|rfl|(exfalso;omega)|contradiction|(refine zI (fun hq=> ?_) (fun hq=> ?_)))))
  all_goals (refine zjA ?_ ?_ ?_ ?_ ?_ ?_ ?_ ?_ ?_ ?_<;>(try simp only[fz])<;>(try split)<;>omega)
 ·rw[zB zfg (by simp)];simp -implicitDefEqProofs (maxSteps:=4000000) (disch:=omega) only[zef,zg,go_sem, *];(try simp only[zPr]);repeat' (first|done|rfl|((first|refine zG (fun hq=> ?_) (fun hq=> ?_)|refine zM (fun hq=> ?_) (fun hq=> ?_))<;>(try (first|(exfalso;omega)|contradiction))<;>(try simp -implicitDefEqProofs (maxSteps:=4000000) (disch:=omega) only[zg,go_sem, *])<;>(try simp only[zPr])));(all_goals try rfl);(all_goals try (repeat' (first|done|rfl|(exfalso;omega)|contradiction|(refine zI (fun hq=> ?_) (fun hq=> ?_)))))
  all_goals (refine zjA ?_ ?_ ?_ ?_ ?_ ?_ ?_ ?_ ?_ ?_<;>(try simp only[fz])<;>(try split)<;>omega)
 ·rw[zB zfg (by simp)];simp -implicitDefEqProofs (maxSteps:=4000000) (disch:=omega) only[zef,zg,go_sem, *];(try simp only[zPr]);repeat' (first|done|rfl|((first|refine zG (fun hq=> ?_) (fun hq=> ?_)|refine zM (fun hq=> ?_) (fun hq=> ?_))<;>(try (first|(exfalso;omega)|contradiction))<;>(try simp -implicitDefEqProofs (maxSteps:=4000000) (disch:=omega) only[zg,go_sem, *])<;>(try simp only[zPr])));(all_goals try rfl);(all_goals try (repeat' (first|done|rfl|(exfalso;omega)|contradiction|(refine zI (fun hq=> ?_) (fun hq=> ?_)))))
  all_goals (refine zjA ?_ ?_ ?_ ?_ ?_ ?_ ?_ ?_ ?_ ?_<;>(try simp only[fz])<;>(try split)<;>omega)
theorem zyD:∃f:List Int->Nat->Command×Nat,∀l a,l.length<=4000->zgS (f l a).1/\zd G 93 [.ref 1000000 0 0] [(1000000,zp l a)]=some (.d (zaT (f l a).1),[(1000000,zp l (f l a).2)]):=by
 have h:∀l a,∃p:Command×Nat,l.length<=4000->zgS p.1/\zd G 93 [.ref 1000000 0 0] [(1000000,zp l a)]=some (.d (zaT p.1),[(1000000,zp l p.2)]):=fun l a=>by
  by_cases h:l.length<=4000
  ·obtain⟨c,a',h1,h2⟩:=zGI l a h;exact⟨(c,a'),fun _=>⟨h1,h2⟩⟩
  ·exact⟨(zEY,0),fun h'=>absurd h' h⟩
 exact⟨fun l a=>Classical.choose (h l a),fun l a hl=>zZQ (h l a) hl⟩
noncomputable def zjz:List Int->Nat->Command×Nat:=Classical.choose zyD
theorem zGH(l:List Int)(a:Nat)(hL:l.length<=4000):zgS (zjz l a).1/\zd G 93 [.ref 1000000 0 0] [(1000000,zp l a)]=some (.d (zaT (zjz l a).1),[(1000000,zp l (zjz l a).2)]):=zZQ zyD l a hL
def scS(l:List Int)(n:Int)(p:List Command×Nat×Nat):St:=⟨[(0,.ref 1000000 0 0),(1,.d (.int .i64 n)),(5,.acc 5 (p.1.map zaT)),(6,.d (.int .i64 p.2.2)),(1000000,.ref 1000000 1 0)],[(5,.acc p.1.length),(1000000,zp l p.2.1)]⟩
def zDL(l:List Int)(n:Nat)(r:Option (zR×St)):Prop:=∃(cs:List Command) (a':Nat),cs.length<=n/\(∀c∈cs,zgS c)/\r=some (.exit 0,⟨[(5,.acc 5 (cs.map zaT)),(1000000,.ref 1000000 1 0)],[(5,.acc cs.length),(1000000,zp l a')]⟩)
theorem zVI(l:List Int)(n:Nat)(hL:l.length<=4000)(hn:n<=400):∀p:List Command×Nat×Nat,(p.1.length=p.2.2/\p.2.2<=n/\∀c∈p.1,zgS c)->zDL l n (zP G [] zlJ (scS l n p)):=by
 refine ziQ (fun p:List Command×Nat×Nat=>n - p.2.2) _ (scS l n) (fun _=>zdl (zDL l n)) fun⟨cs,a,k⟩ ⟨h1,h2,h3⟩ L ih=> ?_;simp only at h1 h2 h3;subst h1;have hm:=zRu l a hL
 by_cases h0:cs.length<n
 ·obtain⟨hc,hcmd⟩:=zGH l a hL;have i1:=ih (cs++[(zjz l a).1],(zjz l a).2,cs.length+1) ⟨by simp only[zYZ,zZp],by simp only;omega,fun c hh=>(zZl.1 hh).elim (fun h=>h3 c h) (fun h=>by rw[zZt.1 h];exact hc)⟩ (by simp only;omega);generalize zjz l a=cc at *;obtain⟨c,a2⟩:=cc;simp only at *
  by_cases hmo:(a:Int)<l.length
  ·rw[zZe hmo] at hm;clear ih hc hmo;simp only[scS,zlJ,zp] at *;simp only[zNr,zp] at i1;have sz_c:=zIa c;generalize zaT c=D_c at *;exact zS
  ·rw[zZc hmo] at hm;clear ih hc i1 hmo;simp only[scS,zlJ,zp] at *
   (try simp -implicitDefEqProofs (maxSteps:=4000000) (disch:=omega) only[zg,go_sem, *]);(try simp only[zPr]);repeat' (first|done|rfl|((first|refine zG (fun hq=> ?_) (fun hq=> ?_)|refine zM (fun hq=> ?_) (fun hq=> ?_))<;>(try (first|(exfalso;omega)|contradiction))<;>(try simp -implicitDefEqProofs (maxSteps:=4000000) (disch:=omega) only[zg,go_sem, *])<;>(try simp only[zPr])));(all_goals try rfl);(all_goals try (repeat' (first|done|rfl|(exfalso;omega)|contradiction|(refine zI (fun hq=> ?_) (fun hq=> ?_)))))
   all_goals exact⟨cs,a,by omega,h3,rfl⟩
 ·clear ih;simp only[scS,zlJ,zp] at *
  (try simp -implicitDefEqProofs (maxSteps:=4000000) (disch:=omega) only[zg,go_sem, *]);(try simp only[zPr]);repeat' (first|done|rfl|((first|refine zG (fun hq=> ?_) (fun hq=> ?_)|refine zM (fun hq=> ?_) (fun hq=> ?_))<;>(try (first|(exfalso;omega)|contradiction))<;>(try simp -implicitDefEqProofs (maxSteps:=4000000) (disch:=omega) only[zg,go_sem, *])<;>(try simp only[zPr])));(all_goals try rfl);(all_goals try (repeat' (first|done|rfl|(exfalso;omega)|contradiction|(refine zI (fun hq=> ?_) (fun hq=> ?_)))))
  all_goals exact⟨cs,a,by omega,h3,rfl⟩
theorem zVK(l:List Int)(a n:Nat)(hL:l.length<=4000)(hn:n<=400):∃(cs:List Command) (a':Nat),cs.length<=n/\(∀c∈cs,zgS c)/\zd G 43 [.ref 1000000 0 0,.d (.int .i64 n)] [(1000000,zp l a)]=some (.d (.sl (cs.map zaT)),[(1000000,zp l a')]):=by
 obtain⟨cs,a',h1,h2,h⟩:=zVI l n hL hn ([],a,0) ⟨rfl,by simp,fun c h=>by cases h⟩;refine⟨cs,a',h1,h2,?_⟩;simp only[scS,zYS,zYY,zZg] at h;clear h2;exact zW
theorem zO3{c:Command}(h:zgS c):ziq c:=⟨h.1,fun r hr=>by have:=(h.2.1 r hr).2.2;omega,h.2.2.1,by have:=h.2.2.2.1;omega⟩
theorem zA8{l:List Command}(h:∀c∈l,zgS c):∀c∈l,ziq c:=fun c hc=>zO3 (h c hc)
def zjc:Setup:=⟨1,1,1,1,1,0,1,0⟩
theorem zYr(l:List Int)(a n:Nat)(hL:l.length<=4000)(hn:n<=400):∃(w:World) (u:Setup) (a':Nat),u.slots<=4/\QI u 102000 w/\zd G 7 [.ref 1000000 0 0,.d (.int .i64 n)] [(1000000,zp l a)]=some (.d (zD w),[(1000000,zp l a')]):=by
 obtain⟨u,a1,hu4,hset⟩:=zWs l a hL;have h4:u.slots<=4:=hu4.2.1;clear hu4;obtain⟨cs,a2,h1,h2,hscr⟩:=zVK l a1 n hL hn;have hrun:=zUR (u:=u) (l:=cs) h4 zo (zA8 h2);have hnew:=zCE zjc (by decide);have e0:(zc8 zjc).2=0:=by
  unfold zc8 zbN;simp [zaX,inI,zjc]
 have hq0:=zsF (u:=zjc) e0;rw[e0] at hnew;have hq:=zUU (u:=u) (l:=cs) zo (zA8 h2);clear e0 h2;generalize zgD zax u cs=r at *;generalize zc8 zjc=r0 at *;obtain⟨w,e⟩:=r;obtain⟨w0,e0⟩:=r0;simp only[zp] at *
 by_cases c:e=0
 ·subst c;refine⟨w,u,a2,h4,hq rfl,?_⟩;clear hq hq0 hnew;have sz_w:=za8 w;generalize zD w=D_w at *;have sz_u:=zzj u;generalize zaU u=D_u at *;exact zW
 ·refine⟨w0,zjc,a2,by decide,hq0.mono zo,?_⟩;replace c:=zYV c;clear hq hq0;simp only[zaU,zjc] at hnew;have sz_w:=za8 w;generalize zD w=D_w at *;have sz_w0:=za8 w0;generalize zD w0=D_w0 at *;have sz_u:=zzj u;generalize zaU u=D_u at *;exact zW
structure PI(u:Setup)(N:Int)(a:zm)(ts:List zq):Prop where
 hu:zaX u=true
 ar:AI u a
 ti:∀t∈ts,TI u N t
 tk:∀t∈ts,∀b∈t.inv.tokens,b.length<=16
 tl:ts.length<=200
 nn:0<=N/\N<=200000
theorem PI.step{u:Setup}{N:Int}{a:zm}{ts:List zq}(h:PI u N a ts)(hN:N<=199999){a':zm}(ha:AI u a'):PI u (N+1) a' ts:=
 { hu:=h.hu,ar:=ha,ti:=fun t ht=>(h.ti t ht).mono zo,tk:=h.tk,tl:=h.tl,nn:=by have:=h.nn;omega }
theorem PI.task{u:Setup}{N:Int}{a:zm}{ts:List zq}(h:PI u N a ts)(hN:N<=199999){i:Nat}(hi:i<ts.length)(e:(zbL zax a ts[i] (N+1)).2.2.2=0):PI u (N+1) (zbL zax a ts[i] (N+1)).1 (ts.set i (zbL zax a ts[i] (N+1)).2.1):=by
 have hn:=h.nn;have hk:=zEd zjg.ok h.hu h.ar (h.ti _ (zY4 hi)) (n:=N+1) zo e;have hr:=ztx zmL a ts[i] (N+1) e;refine { hu:=h.hu,ar:=hk.1,ti:=fun t ht=> ?_,tk:=fun t ht=> ?_,tl:=by rw[zZu];exact h.tl,nn:=by omega }
 ·rcases ziS ht with ht|ht
  ·rw[ht];exact hk.2
  ·exact (h.ti t ht).mono zo
 ·rcases ziS ht with ht|ht
  ·rw[ht,hr.1];exact h.tk _ (zY4 hi)
  ·exact h.tk t ht
theorem zyL{d:Dead}(h:zbU d=0):d.l.length<=24:=by
 unfold zbU at h
 split at h
 ·cases h
 ·rename_i c;omega
theorem zJ8{u:Setup}{a:zm}(hu:zaX u=true)(h:AI u a):zgc a:=by
 have hs:=zkH hu;have h1:=h.sl;have h2:=h.st;have h3:=ziu h.dv;have h4:=zyL h.dd;exact { sl:=by omega,sh:=fun i hi=>zq2 (zbJ (h.sh _ (zY4 hi)).1),st:=by omega,de:=by omega,dl:=by have:=zfc h.dv;omega,df:=by omega }
end Go.Proofs.YtjalkkalhdnplaaGreat

namespace Go.Proofs.YtjalkkalhdnplaaGreat.LA
open Go Go.Sim Go.Proofs.YtjalkkalhdnplaaGreat
theorem e0:zb7= .seq (sL zb7) (.seq (.block 1 X0) (sR (sR zb7))):=by simp only[X0,sL,sR,bB,zb7]
theorem e1:X0= .seq (sL X0) (.seq (sL X1) (.seq (sL X2) (.seq (sL X3) (.seq (sL (sR X3)) Z3)))):=by simp only[X0,X1,X2,X3,Z3,sL,sR,bB,zb7]
theorem e2:Z3= .seq (sL Z3) (.seq (sL (sR Z3)) (.seq (sL (sR (sR Z3))) (.seq (sL X4) X5))):=by simp only[X0,X1,X2,X3,Z3,X4,X5,sL,sR,bB,zb7]
theorem e3:X5= .seq (sL X5) (.seq (sL X6) (.seq (sL (sR X6)) Z6)):=by simp only[X0,X1,X2,X3,Z3,X4,X5,X6,Z6,sL,sR,bB,zb7]
theorem e4:Z6= .seq (sL Z6) (.seq (sL X7) (.seq (sL X8) (.seq (sL (sR X8)) Z8))):=by simp only[X0,X1,X2,X3,Z3,X4,X5,X6,Z6,X7,X8,Z8,sL,sR,bB,zb7]
theorem e5:Z8= .seq (sL Z8) (.seq (sL X9) (.seq (sL X10) (.seq (sL X11) (.seq (sL X12) (.seq (sL (sR X12)) Z12))))):=by simp only[X0,X1,X2,X3,Z3,X4,X5,X6,Z6,X7,X8,Z8,X9,X10,X11,X12,Z12,sL,sR,bB,zb7]
theorem body{sl tk i:Int}{l:List Int}{x:Nat}{z:Stripe}{a:zm}(hL:l.length<=4000)(h:GA a):∃(x2:Nat) (z2:Stripe) (b:zm) (k:Int) (d:Dead),GA b/\d.l.length<=24/\exL G X0 (FA sl tk i l x z a)=exL G Z12 (F5 sl tk i l x2 z2 b k d):=by
 obtain⟨c,k,a1,x1,h1,s1⟩:=zV0 (sl:=sl) (tk:=tk) (i:=i) (x:=x) (z:=z) hL h;obtain⟨t,x2,ht,s2⟩:=zV1 (sl:=sl) (tk:=tk) (i:=i) (x:=x1) (z:=z) c k hL h1;obtain⟨t2,x3,ht2,s3⟩:=zV2 (sl:=sl) (tk:=tk) (i:=i) (x:=x2) (z:=z) c k t hL h1 ht;obtain⟨z2,x4,s4⟩:=zV3 (sl:=sl) (tk:=tk) (i:=i) (x:=x3) (z:=z) c k t2 hL h1 ht2;obtain⟨b,d,x5,hb,hd,s5⟩:=zV4 (sl:=sl) (tk:=tk) (i:=i) (x:=x4) (z:=z2) c k hL h1;exact⟨x5,z2,b,k,d,hb,hd,by rw[e1,s1,e2,s2,e3,s3,e4,s4,e5,s5]⟩
theorem zW0(sl tk:Int)(l:List Int)(hL:l.length<=4000):∀p:Nat×Nat×Stripe×zm,p.1<=5/\GA p.2.2.2->zP G [] zb7 (F0 sl tk p.1 l p.2.1 p.2.2.1 p.2.2.2)=some (.exit 0,⟨[],[]⟩):=by
 refine zaq (fun p:Nat×Nat×Stripe×zm=>5 - p.1) _ _ _ fun⟨i,x,z,a⟩ ⟨h1,h2⟩ L ih=> ?_;simp only at h1 h2
 by_cases h0:i<5
 rotate_left
 ·clear ih h2;simp only[F0,zb7];have sz_a:=zay a;generalize zl a=D_a at *;have sz_z:=zei z;generalize zE z=D_z at *
  (try simp -implicitDefEqProofs (maxSteps:=4000000) (disch:=omega) only[zg,go_sem, *]);(try simp only[zPr]);repeat' (first|done|rfl|((first|refine zG (fun hq=> ?_) (fun hq=> ?_)|refine zM (fun hq=> ?_) (fun hq=> ?_))<;>(try (first|(exfalso;omega)|contradiction))<;>(try simp -implicitDefEqProofs (maxSteps:=4000000) (disch:=omega) only[zg,go_sem, *])<;>(try simp only[zPr])));(all_goals try rfl);(all_goals try (repeat' (first|done|rfl|(exfalso;omega)|contradiction|(refine zI (fun hq=> ?_) (fun hq=> ?_)))))
 obtain⟨x2,z2,b,k,d,hb,hd,hB⟩:=body (sl:=sl) (tk:=tk) (i:=(i:Int)) (x:=x) (z:=z) hL h2;have i1:=ih (i+1,x2,z2,b) ⟨by simp only;omega,hb⟩ (by simp only;omega);have s1:=zpz.trans (ztg (stDead b k d).1 (stDead b k d).1 (hb.stD k hd));simp only[decide_true] at s1;have h4:exL G (sL zb7) (F0 sl tk i l x z a)=some (.normal,FA sl tk i l x z a):=by
  clear ih i1 s1 hB hb hd h2;simp only[F0,FA,sL,zb7,zp];have sz_a:=zay a;generalize zl a=D_a at *;have sz_z:=zei z;generalize zE z=D_z at *
  (try simp -implicitDefEqProofs (maxSteps:=4000000) (disch:=omega) only[zg,go_sem, *]);(try simp only[zPr]);repeat' (first|done|rfl|((first|refine zG (fun hq=> ?_) (fun hq=> ?_)|refine zM (fun hq=> ?_) (fun hq=> ?_))<;>(try (first|(exfalso;omega)|contradiction))<;>(try simp -implicitDefEqProofs (maxSteps:=4000000) (disch:=omega) only[zg,go_sem, *])<;>(try simp only[zPr])));(all_goals try rfl);(all_goals try (repeat' (first|done|rfl|(exfalso;omega)|contradiction|(refine zI (fun hq=> ?_) (fun hq=> ?_)))))
 have h5:exL G Z12 (F5 sl tk i l x2 z2 b k d)=some (.normal,⟨[(248,.d (.bool false)),(1,.d (.int .i64 sl)),(2,.d (.int .i64 tk)),(7,.ref 7 0 0),(9,.ref 34 0 0),(10,.ref 10 0 0),(11,.d (.int .i64 i))],[(28,.row [.d (zl (stDead b k d).1)]),(7,.row [.d (zE z2)]),(10,.row [.d (zl b)]),(27,.row [.d (zl (stDead b k d).1)]),(29,.row [.d (zF d)]),(34,zp l x2)]⟩):=by
  clear ih i1 hB h4 hb hd h2;simp only[F5,X0,X1,X2,X3,Z3,X4,X5,X6,Z6,X7,X8,Z8,X9,X10,X11,X12,Z12,sL,sR,bB,zb7,zp];generalize stDead b k d=y at *;obtain⟨y1,y2⟩:=y;have sz_b:=zay b;generalize zl b=D_b at *;have sz_y1:=zay y1;generalize zl y1=D_y1 at *;have sz_z2:=zei z2;generalize zE z2=D_z2 at *;have sz_d:=zyY d;generalize zF d=D_d at *
  (try simp -implicitDefEqProofs (maxSteps:=4000000) (disch:=omega) only[zg,go_sem, *]);(try simp only[zPr]);repeat' (first|done|rfl|((first|refine zG (fun hq=> ?_) (fun hq=> ?_)|refine zM (fun hq=> ?_) (fun hq=> ?_))<;>(try (first|(exfalso;omega)|contradiction))<;>(try simp -implicitDefEqProofs (maxSteps:=4000000) (disch:=omega) only[zg,go_sem, *])<;>(try simp only[zPr])));(all_goals try rfl);(all_goals try (repeat' (first|done|rfl|(exfalso;omega)|contradiction|(refine zI (fun hq=> ?_) (fun hq=> ?_)))))
 show (exL G zb7 (F0 sl tk i l x z a)).bind (zcP [] L)=_;rw[e0,zqV,h4,zZn,zti,zqV,zzA,hB,h5,zZv,zur,zZn,zti];clear ih s1 hb hd h2 h4 h5 hB;generalize (stDead b k d).1=y1 at *;simp only[F0] at i1;have sz_b:=zay b;generalize zl b=D_b at *;have sz_y1:=zay y1;generalize zl y1=D_y1 at *;have sz_z2:=zei z2;generalize zE z2=D_z2 at *;have sz_d:=zyY d;generalize zF d=D_d at *;simp only[sR,zb7,zp] at *;simp only[zNr,zp] at i1
 (try simp -implicitDefEqProofs (maxSteps:=4000000) (disch:=omega) only[zg,go_sem, *]);(try simp only[zPr]);repeat' (first|done|rfl|((first|refine zG (fun hq=> ?_) (fun hq=> ?_)|refine zM (fun hq=> ?_) (fun hq=> ?_))<;>(try (first|(exfalso;omega)|contradiction))<;>(try simp -implicitDefEqProofs (maxSteps:=4000000) (disch:=omega) only[zg,go_sem, *])<;>(try simp only[zPr])));(all_goals try rfl);(all_goals try (repeat' (first|done|rfl|(exfalso;omega)|contradiction|(refine zI (fun hq=> ?_) (fun hq=> ?_)))))
theorem stores_ok(l:List Int)(sl tk:Int)(z:Stripe)(hL:l.length<=LIM):zd G 5 [.d (.sl (zt l)),.d (.int .i64 sl),.d (.int .i64 tk),.d (zE z)] []=some (.d (.bool true),[]):=by
 have hnew:=zEA.trans (zRE l hL);have hl4:(l.take 4000).length<=4000:=by simp;omega
 obtain⟨w,u,a',hu4,hq,hw⟩:=zYr (l.take 4000) 0 20 hl4 zo;have hga:GA w.arena:=⟨zJ8 hq.wi.hu hq.wi.ar,by have:=hq.wi.ar.sl;omega,by have:=hq.wi.ar.sl;have:=hq.wi.ar.st;omega,zyL hq.wi.ar.dd⟩;have hlp:=zW0 sl tk (l.take 4000) hl4 ⟨0,a',z,w.arena⟩ ⟨by simp,hga⟩;have haw:=zEF.trans zFZ;clear hq hga hL hl4;generalize l.take 4000=l4 at *;have hwd:zd Go.Proofs.YtjalkkalhdnplaaGreat.G 20 [.ref 1000000 0 0] [(1000000,zp l4 0)]=some (.d (zl w.arena),[(1000000,zp l4 a')]):=by
  clear hlp haw hnew;obtain⟨s,wa,tasks,log,steps,handles⟩:=w;simp only[zD,zl,zp,z0a] at *;rw[zB z2l (by simp)];simp only[zqh]
  (try simp -implicitDefEqProofs (maxSteps:=4000000) (disch:=omega) only[zg,go_sem, *]);(try simp only[zPr]);repeat' (first|done|rfl|((first|refine zG (fun hq=> ?_) (fun hq=> ?_)|refine zM (fun hq=> ?_) (fun hq=> ?_))<;>(try (first|(exfalso;omega)|contradiction))<;>(try simp -implicitDefEqProofs (maxSteps:=4000000) (disch:=omega) only[zg,go_sem, *])<;>(try simp only[zPr])));(all_goals try rfl);(all_goals try (repeat' (first|done|rfl|(exfalso;omega)|contradiction|(refine zI (fun hq=> ?_) (fun hq=> ?_)))))
 replace hwd:=zEG.trans hwd;clear hw;obtain⟨s,wa,tasks,log,steps,handles⟩:=w;simp only[F0,zp,zZg,z0a] at *;have sz_wa:=zay wa;generalize zl wa=D_wa at *;have sz_z:=zei z;generalize zE z=D_z at *;rw[zB zAZ (by simp)];simp -implicitDefEqProofs (maxSteps:=4000000) (disch:=omega) only[zqg,zg,go_sem, *];(try simp only[zPr]);repeat' (first|done|rfl|((first|refine zG (fun hq=> ?_) (fun hq=> ?_)|refine zM (fun hq=> ?_) (fun hq=> ?_))<;>(try (first|(exfalso;omega)|contradiction))<;>(try simp -implicitDefEqProofs (maxSteps:=4000000) (disch:=omega) only[zg,go_sem, *])<;>(try simp only[zPr])));(all_goals try rfl);(all_goals try (repeat' (first|done|rfl|(exfalso;omega)|contradiction|(refine zI (fun hq=> ?_) (fun hq=> ?_)))))
end Go.Proofs.YtjalkkalhdnplaaGreat.LA
