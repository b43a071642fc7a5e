/-
  Bags of the reference.
-/
import Derived.Test.YtcembpbhkcbnhaaGreatB550ba6a
import Derived.Test.YtcembpbhkcbnhaaGreatB3e4d643
import Derived.Test.YtcembpbhkcbnhaaGreatB15a29b9
set_option linter.unusedSimpArgs false
set_option linter.unusedVariables false
set_option maxHeartbeats 10000000
set_option maxRecDepth 100000
namespace Go.Sim
def zfF{α:Type}(φ:α->Prop)(r:α):Prop:=φ r
theorem zaj{α:Type}{φ:α->Prop}{c:Prop}[Decidable c]{A B:α}(h1:c->zfF φ A)(h2:¬c->zfF φ B):zfF φ (if c then A else B):=by split<;>simp_all
theorem zfF.some{α:Type}{φ:Option α->Prop}{r:Option α}{a:α}(h:φ (some a))(e:r=some a):zfF φ r:=by rw[e];exact h
attribute [go_sem] Nat.mul_one
end Go.Sim

namespace Go.Proofs.YtcembpbhkcbnhaaGreat
open Go Go.Sim
def bIx(l:List Item)(id:Int):Int:=zbP (fun x=>decide (x.id=id)) l
def bF(l:List Item)(id:Int):Option Item:=l.find? (fun x=>decide (x.id=id))
theorem zafd{l:List Item}{id:Int}{i:Nat}(h:bIx l id=i):∃hi:i<l.length,bF l id=some l[i]:=by
 obtain⟨hi,h1,h2⟩:=zagO h;refine⟨hi,?_⟩;unfold bF;rw[List.find?_eq_some_iff_getElem];exact⟨h1,i,hi,rfl,fun j hj=>by simpa using h2 j hj⟩
theorem zaga{l:List Item}{id:Int}(h:bIx l id<0):bF l id=none:=by
 unfold bF;rw[List.find?_eq_none];intro x hx;have:=(zse l _).1 h x hx;simpa using this
theorem zagx(l:List Item)(id:Int):(bIx l id= -1/\bF l id=none)\/∃i:Nat,∃hi:i<l.length,bIx l id=i/\bF l id=some l[i]:=by
 by_cases h:bIx l id<0
 ·exact .inl ⟨(zagN l _).1 h,zaga h⟩
 ·obtain⟨i,hi⟩:∃i:Nat,bIx l id=i:=⟨(bIx l id).toNat,by omega⟩;obtain⟨h1,h2⟩:=zafd hi;exact .inr ⟨i,h1,hi,h2⟩
theorem zagP(l:List Item)(g:Nat)(cs:List D)(p:Item->Bool)(hL:l.length<=4294967296)(hp:∀a∈l,zi G g (.d (zabg a)::cs.map .d) []=some (.d (.bool (p a)),[])):zi G 96 [.d (.sl (l.map zabg)),.d (.fn g cs)] []=some (.d (.int .i64 (zbP p l)),[]):=by
 have:=ziZ (G:=G) (x:=zagU) (ks:=[]) l.length (atB l p) (fun k=>⟨[(0,.d (.sl (l.map zabg))),(1,.d (.fn g cs)),(7,.d (.int .i64 l.length)),(8,.d (.int .i64 k))],[]⟩) (fun k=>(.ret,⟨[(4,.d (.int .i64 k))],[]⟩)) (.exit 0,⟨[],[]⟩) (fun k hk L=>by
  simp only[zagU]
  by_cases h0:k<l.length
  ·have h1:=hp l[k] (zabC h0);simp only[zgH h0]
   cases h2:p l[k]
   ·rw[h2] at h1;simp -implicitDefEqProofs (maxSteps:=4000000) (disch:=omega) only[go_sem,h1,zafV]
   ·rw[h2] at h1;simp -implicitDefEqProofs (maxSteps:=4000000) (disch:=omega) only[go_sem,h1,zafV]
  ·simp -implicitDefEqProofs (maxSteps:=4000000) (disch:=omega) only[go_sem,zabU])
 rw[zj6] at this;simp only[zNr,srcO] at this;unfold zbP
 cases h:l.findIdx? p with
 | none=>rw[h] at this;rw[zI zaiv (by simp)];simp -implicitDefEqProofs (maxSteps:=4000000) (disch:=omega) only[zagc,go_sem,this]
 | some i=>rw[h] at this;rw[zI zaiv (by simp)];simp -implicitDefEqProofs (maxSteps:=4000000) (disch:=omega) only[zagc,go_sem,this]
theorem zajg(x:Item)(id:Int):zi G 130 [.d (zabg x),.d (.pd (.int .i64 id))] []=some (.d (.bool (decide (x.id=id))),[]):=by
 simp only[zabg];exact zW
theorem zae3(b:Bag)(id:Int)(hL:b.l.length<=4294967296):zi G 95 [.d (eBag b),.d (.int .i64 id)] []=some (.d (.int .i64 (bIx b.l id)),[]):=by
 have hi:=zagP b.l 130 [.pd (.int .i64 id)] (fun x=>decide (x.id=id)) hL (fun a _=>zajg a id);unfold bIx;simp only[eBag];exact zW
theorem zagt(b:Bag)(id:Int)(hL:b.l.length<=4294967296):zi G 106 [.d (eBag b),.d (.int .i64 id)] []=some (.d (.int .i64 (bIx b.l id)),[]):=by
 have hl:=ziZ (G:=G) (x:=zagT) (ks:=[]) b.l.length (atB b.l fun x=>decide (x.id=id)) (fun k=>⟨[(1,.d (.int .i64 id)),(2,.ref 2 0 0),(5,.d (.int .i64 k))],[(2,.row [.d (eBag b)])]⟩) (fun k=>(.ret,⟨[(4,.d (.int .i64 k))],[]⟩)) (.exit 0,⟨[],[]⟩) (fun k hk L=>by
  simp only[zagT]
  by_cases h0:k<b.l.length
  ·simp only[h0,if_true,zgH h0];exact zS
  ·exact zS)
 rw[zj6] at hl;simp only[zNr,srcO] at hl;unfold bIx zbP
 cases hf:b.l.findIdx? (fun x=>decide (x.id=id)) with
 | none=>rw[hf] at hl;clear hf;exact zW
 | some i=>rw[hf] at hl;clear hf;exact zW
def bFD(b:Bag)(id:Int):D:=match bF b.l id with|some x=> .tup [zabg x,.bool true]|none=> .tup [zabg zabf,.bool false]
theorem zajj(b:Bag)(id:Int)(hL:b.l.length<=4294967296):zi G 133 [.d (eBag b),.d (.int .i64 id)] []=some (.d (bFD b id),[]):=by
 have hi:=zae3 b id hL;unfold bFD
 rcases zagx b.l id with ⟨h1,h2⟩|⟨i,h0,h1,h2⟩
 ·rw[h1] at hi;rw[h2];clear h1 h2;simp only[eBag,zabg,zabf] at hi ⊢;exact zW
 ·rw[h1] at hi;rw[h2];clear h1 h2;simp only[eBag] at hi ⊢;have zk0:= @zafV;exact zW
theorem zafl(b:Bag)(id:Int)(hL:b.l.length<=4294967296):zi G 73 [.d (eBag b),.d (.int .i64 id)] []=some (.d (bFD b id),[]):=by
 have hi:=zagt b id hL;unfold bFD
 rcases zagx b.l id with ⟨h1,h2⟩|⟨i,h0,h1,h2⟩
 ·rw[h1] at hi;rw[h2];clear h1 h2;simp only[eBag,zabg,zabf] at hi ⊢;exact zW
 ·rw[h1] at hi;rw[h2];clear h1 h2;simp only[eBag] at hi ⊢;have zk0:= @zafV;exact zW
def bVal(b:Bag)(g:Grant):Bool:=match bF b.l g.id with|some x=>decide (x.state=2)&&(decide (x.gen=g.gen)&&(decide (x.route=g.route)&&decide (b.now<x.deadline)))|none=>false
theorem zafr(b:Bag)(g:Grant)(hL:b.l.length<=4294967296):zi G 102 [.d (eBag b),.d (zbt g)] []=some (.d (.bool (bVal b g)),[]):=by
 have hf:=zajj b g.id hL;unfold bFD at hf;unfold bVal
 cases h:bF b.l g.id with
 | none=>
  rw[h] at hf;clear h;simp only[eBag,zbt,zabg,zabf] at hf ⊢;exact zW
 | some x=>
  rw[h] at hf;clear h;simp only[eBag,zbt,zabg] at hf ⊢;exact zW
theorem zafK(b:Bag)(g:Grant)(hL:b.l.length<=4294967296):zi G 107 [.d (eBag b),.d (zbt g)] []=some (.d (.bool (bVal b g)),[]):=by
 have hf:=zafl b g.id hL;unfold bFD at hf;unfold bVal
 cases h:bF b.l g.id with
 | none=>
  rw[h] at hf;clear h;simp only[eBag,zbt,zabg,zabf] at hf ⊢;exact zW
 | some x=>
  rw[h] at hf;clear h;simp only[eBag,zbt,zabg] at hf ⊢;exact zW
def cntS(s:Int)(l:List Item):Nat:=(l.filter fun x=>decide (x.state=s)).length
theorem zagf(s:Int)(l:List Item){i:Nat}(h:i<l.length):cntS s (l.take (i+1))=cntS s (l.take i)+if l[i].state=s then 1 else 0:=by
 unfold cntS;rw[List.take_succ_eq_append_getElem h,zaek,zabv]
 by_cases e:l[i].state=s<;>simp [e]
theorem zage(s:Int)(l:List Item)(i:Nat):cntS s (l.take i)<=i:=by
 unfold cntS;refine zaca (zacF _ _) ?_;rw[zac9];omega
theorem zagd(s:Int)(l:List Item):cntS s (l.take l.length)=cntS s l:=by rw[List.take_length]
def bcS(l:List Item)(i:Nat):St:=⟨[(2,.d (.int .i64 (cntS 1 (l.take i)))),(3,.d (.int .i64 (cntS 2 (l.take i)))),(7,.d (.sl (l.map zabg))),(8,.d (.int .i64 l.length)),(9,.d (.int .i64 i))],[]⟩
theorem zaji(l:List Item)(hL:l.length<=4294967296):∀i,i<=l.length->z6 G [] zagm (bcS l i)=some (.exit 0,⟨[(2,.d (.int .i64 (cntS 1 l))),(3,.d (.int .i64 (cntS 2 l)))],[]⟩):=by
 rw[<- zagd 1 l, <- zagd 2 l];refine zaL (fun i=>l.length - i) (fun i=>i<=l.length) (bcS l) _ fun i hi L ih=> ?_
 by_cases h0:i<l.length
 ·have i1:=ih (i+1) zo zo;clear ih;have k1:=zage 1 l i;have k2:=zage 2 l i;rw[bcS,zagf 1 l h0,zagf 2 l h0] at i1;simp only[bcS,zagm];generalize cntS 1 (l.take i)=a at *;generalize cntS 2 (l.take i)=c at *;generalize cntS 1 (l.take l.length)=a1 at *;generalize cntS 2 (l.take l.length)=c1 at *
  by_cases e1:l[i].state=1
  ·have e2:¬l[i].state=2:=by omega
   simp only[e1,e2,if_true,if_false,show ¬((1:Int)=2) by decide,zacI] at i1;simp only[zNr,srcO] at i1;exact zS
  ·by_cases e2:l[i].state=2
   ·simp only[e2,if_true,if_false,show ¬((2:Int)=1) by decide,zacI] at i1;simp only[zNr,srcO] at i1;exact zS
   ·simp only[e1,e2,if_false,zacI] at i1;simp only[zNr,srcO] at i1;exact zS
 ·clear ih;have:i=l.length:=by omega
  subst this;simp only[bcS,zagm];exact zS
theorem zag2(b:Bag)(hL:b.l.length<=4294967296):zi G 66 [.d (eBag b)] []=some (.d (.tup [.int .i64 (cntS 1 b.l),.int .i64 (cntS 2 b.l)]),[]):=by
 have hl:=zaji b.l hL 0 zo;simp only[bcS,zacg] at hl;simp only[show ∀s,cntS s []=0 from fun s=>rfl,zabQ] at hl;simp only[eBag];exact zW
def rcS(b:Bag)(i:Nat):St:=⟨[(1,.ref 1 0 0),(4,.d (.int .i64 (cntS 1 (b.l.take i)))),(5,.d (.int .i64 (cntS 2 (b.l.take i)))),(6,.d (.int .i64 i))],[(1,.row [.d (eBag b)])]⟩
theorem zamh(b:Bag)(hL:b.l.length<=4294967296):∀i,i<=b.l.length->z6 G [] zagn (rcS b i)=some (.exit 0,⟨[(4,.d (.int .i64 (cntS 1 b.l))),(5,.d (.int .i64 (cntS 2 b.l)))],[]⟩):=by
 rw[<- zagd 1 b.l, <- zagd 2 b.l];refine zaL (fun i=>b.l.length - i) (fun i=>i<=b.l.length) (rcS b) _ fun i hi L ih=> ?_
 by_cases h0:i<b.l.length
 ·have i1:=ih (i+1) zo zo;clear ih;have k1:=zage 1 b.l i;have k2:=zage 2 b.l i;rw[rcS,zagf 1 b.l h0,zagf 2 b.l h0] at i1;simp only[rcS,zagn];generalize cntS 1 (b.l.take i)=a at *;generalize cntS 2 (b.l.take i)=c at *;generalize cntS 1 (b.l.take b.l.length)=a1 at *;generalize cntS 2 (b.l.take b.l.length)=c1 at *
  by_cases e1:b.l[i].state=1
  ·have e2:¬b.l[i].state=2:=by omega
   simp only[e1,e2,if_true,if_false,show ¬((1:Int)=2) by decide,zacI] at i1;simp only[zNr,srcO] at i1;exact zS
  ·by_cases e2:b.l[i].state=2
   ·simp only[e2,if_true,if_false,show ¬((2:Int)=1) by decide,zacI] at i1;simp only[zNr,srcO] at i1;exact zS
   ·simp only[e1,e2,if_false,zacI] at i1;simp only[zNr,srcO] at i1;exact zS
 ·clear ih;have:i=b.l.length:=by omega
  simp only[rcS,this,zagn];exact zS
theorem zamb(b:Bag)(hL:b.l.length<=4294967296):zi G 72 [.d (eBag b)] []=some (.d (.tup [.int .i64 (cntS 1 b.l),.int .i64 (cntS 2 b.l)]),[]):=by
 have hl:=zamh b hL 0 zo;simp only[rcS,zacg] at hl;simp only[show ∀s,cntS s []=0 from fun s=>rfl,zabQ] at hl;generalize cntS 1 b.l=a1 at *;generalize cntS 2 b.l=c1 at *;simp only[eBag] at hl ⊢;exact zW
theorem zae7(n lo hi:Int):zi G 36 [.d (.int .i64 n),.d (.int .i64 lo),.d (.int .i64 hi)] []=some (.d (.bool (decide (lo<=n)&&decide (n<=hi))),[]):=by
 exact zW
theorem zamd(b:Bag)(hL:b.l.length<=4294967296):zi G 7 [.d (eBag b),.d (eBag b)] []=some (.d (.bool true),[]):=by
 have hl:=zg5 (G:=G) (x:=zagS) (ks:=[]) b.l.length (fun _=>true) (fun k=>⟨[(2,.ref 2 0 0),(3,.ref 3 0 0),(5,.d (.int .i64 k))],[(2,.row [.d (eBag b)]),(3,.row [.d (eBag b)])]⟩) (.ret,⟨[(4,.d (.bool false))],[]⟩) (.exit 0,⟨[],[]⟩) (fun k hk L=>by
  simp only[zagS]
  by_cases h0:k<b.l.length
  ·simp only[h0,if_true];have zk0:=zabg.eq_1;exact zS
  ·exact zS)
 rw[zabo (by simp)] at hl;simp only[eBag] at hl ⊢;simp only[zNr,srcO] at hl;exact zW
def bN(n a e:Int)(l:List Item):zd:=[(1000000,.row [.agg [.d (.int .i64 n),.d (.int .i64 a),.d (.int .i64 e),.osl 1000001 0 l.length]]),(1000001,.row ((l.map zabg).map .d))]
def bZ(n a e:Int):zd:=[(1000000,.row [.agg [.d (.int .i64 n),.d (.int .i64 a),.d (.int .i64 e),.xsl []]])]
theorem zanL(n a e:Int)(l:List Item)(v:Event)(h:¬(v.err≠0\/v.now<a)):zi G 61 [.ref 1000000 0 0,.d (zaw v)] (bN n a e l)=some (.d (.bool true),bN n v.now e l):=by
 simp only[not_or,zabG] at h;obtain⟨h1,h2⟩:=h;simp only[bN,zaw];exact zW
theorem zanK(n a e:Int)(l:List Item)(v:Event)(h:v.err≠0\/v.now<a):zi G 61 [.ref 1000000 0 0,.d (zaw v)] (bN n a e l)=some (.d (.bool false),bN n a e l):=by
 simp only[bN,zaw]
 by_cases h1:v.err=0
 ·have h2:v.now<a:=by rcases h with h|h;exact absurd h1 h;exact h
  clear h;exact zW
 ·clear h;exact zW
theorem zanJ(n a e:Int)(v:Event)(h:¬(v.err≠0\/v.now<a)):zi G 61 [.ref 1000000 0 0,.d (zaw v)] (bZ n a e)=some (.d (.bool true),bZ n v.now e):=by
 simp only[not_or,zabG] at h;obtain⟨h1,h2⟩:=h;simp only[bZ,zaw];exact zW
theorem zanI(n a e:Int)(v:Event)(h:v.err≠0\/v.now<a):zi G 61 [.ref 1000000 0 0,.d (zaw v)] (bZ n a e)=some (.d (.bool false),bZ n a e):=by
 simp only[bZ,zaw]
 by_cases h1:v.err=0
 ·have h2:v.now<a:=by rcases h with h|h;exact absurd h1 h;exact h
  clear h;exact zW
 ·clear h;exact zW
def zaeV(x:Item):Item:=⟨x.id,4,x.count,x.gen,x.route,0⟩
def zaeL(l:List Item)(k:Nat):List Item:=(l.take k).map zaeV++l.drop k
theorem zagK(l:List Item)(k:Nat):(zaeL l k).length=l.length:=by simp [zaeL];omega
theorem zaiy(l:List Item){k:Nat}(h:k<l.length):zaeL l (k+1)=(zaeL l k).set k (zaeV l[k]):=by
 apply zaer
 ·simp [zaeL];omega
 ·intro i h1 h2;simp only[zaeL,List.getElem_append,List.getElem_set,zabE,zac9,zadE,List.getElem_take,List.getElem_drop] at *
  by_cases e:k=i
  ·subst e;simp only[if_true];rw[dif_pos zo]
  ·by_cases e2:i<k
   ·rw[dif_pos zo,zabn e,dif_pos zo]
   ·rw[dif_neg zo,zabn e,dif_neg zo]
    congr 1;omega
theorem zaix(l:List Item){k:Nat}(h:k<l.length):∃h2:k<(zaeL l k).length,(zaeL l k)[k]=l[k]:=by
 refine⟨by rw[zagK];exact h,?_⟩;simp only[zaeL,List.getElem_append,zabE,zac9,List.getElem_drop];rw[dif_neg zo]
 congr 1;omega
theorem zafW(a b:Int)(h1:0<=a)(h2:a<=4294967296)(h3: -9223372036854775808<=b)(h4:b<=9223372036854775807):zi G 101 [.d (.int .i64 a),.d (.int .i64 b)] []=some (.d (.bool (decide (b=a+1))),[]):=by
 by_cases h:b=a+1
 ·subst h;rw[zabM rfl];exact zW
 ·rw[zabP h]
  by_cases h5:a<b
  ·have h6:IntKind.i64.wrap (b - a)=b - a:=by rw[IntKind.wrap_i64];omega
   exact zW
  ·exact zW
def puS(n a e:Int)(l:List Item)(k:Nat):St:=⟨[(0,.ref 1000000 0 0),(29,.d (.int .i64 l.length)),(30,.d (.int .i64 k)),(1000000,.ref 1000000 1 0),(1000001,.ref 1000001 1 0)],bN n a e (zaeL l k)⟩
theorem zal6(n a e:Int)(l:List Item)(hL:l.length<=4294967296):∀i,i<=l.length->z6 G [] zafY (puS n a e l i)=some (.exit 0,⟨[(1000000,.ref 1000000 1 0),(1000001,.ref 1000001 1 0)],bN n a e (zaeL l l.length)⟩):=by
 refine zaL (fun i=>l.length - i) (fun i=>i<=l.length) (puS n a e l) _ fun i hi L ih=> ?_;have hl:=zagK l i
 by_cases h0:i<l.length
 ·have i1:=ih (i+1) zo zo;clear ih;obtain⟨h2,h3⟩:=zaix l h0;rw[puS,bN,zaiy l h0,zacb,zacw] at i1;simp only[puS,bN,zafY];rw[<- h3] at i1;generalize zaeL l i=w at *;generalize zaeL l l.length=z at *;have hs:∀X,(((w.map zabg).set i X).map AV.d)[i]? = some (.d X):=by intro X;rw[zabI,List.getElem?_set_self (by rw[zabE];exact h2)];rfl
  rw[h3,hl] at i1;simp only[zaeV] at i1;simp only[zabg,bN] at i1;simp only[zNr,srcO] at i1;simp -implicitDefEqProofs (maxSteps:=4000000) (disch:=omega) only[hs,List.set_set,zh,go_sem, *]
 ·clear ih;have:i=l.length:=by omega
  subst this;simp only[puS,bN,zafY];generalize zaeL l l.length=z at *;exact zS
theorem zal9(n a e:Int)(l:List Item)(v:Event)(hL:l.length<=4294967296)(h:v.err=0)(h2:v.epoch=e+1)(h3:0<=e)(h4:e<=4294967000):zi G 65 [.ref 1000000 0 0,.d (zaw v)] (bN n a e l)=some (.d (.bool true),bN n a v.epoch (l.map zaeV)):=by
 have hl:=zal6 n a v.epoch l hL 0 zo;rw[show zaeL l l.length=l.map zaeV by simp [zaeL]] at hl;have hf:=zafW e v.epoch zo zo zo zo;rw[zabM h2,h2] at hf;rw[h2] at hl;simp only[puS,show zaeL l 0=l by simp [zaeL]] at hl;simp only[bN,zaw,zabE] at hl ⊢;simp only[zNr,srcO] at hl;generalize l.map zaeV=z at *;exact zW
theorem zaiU(n a e:Int)(l:List Item)(v:Event)(h:¬(v.err=0/\v.epoch=e+1))(h3:0<=e)(h4:e<=4294967000)(h5:v.err=0-> -9223372036854775808<=v.epoch/\v.epoch<=9223372036854775807):zi G 65 [.ref 1000000 0 0,.d (zaw v)] (bN n a e l)=some (.d (.bool (decide (v.err=6))),bN n a e l):=by
 simp only[bN,zaw]
 by_cases h1:v.err=0
 ·have h2:¬v.epoch=e+1:=fun h2=>h ⟨h1,h2⟩;have h7:=h5 h1;have hf:=zafW e v.epoch zo zo zo zo;rw[zabP h2] at hf;clear h5;clear h;rw[zabP (show ¬v.err=6 by omega)];exact zW
 ·clear h h5;exact zW
theorem zal7(n a e:Int)(v:Event)(h:v.err=0)(h2:v.epoch=e+1)(h3:0<=e)(h4:e<=4294967000):zi G 65 [.ref 1000000 0 0,.d (zaw v)] (bZ n a e)=some (.d (.bool true),bZ n a v.epoch):=by
 have hf:=zafW e v.epoch zo zo zo zo;rw[zabM h2,h2] at hf;simp only[bZ,zaw];rw[zI zak8 (by simp)];simp -implicitDefEqProofs (maxSteps:=4000000) (disch:=omega) only[zagB,zaC,zafY,zh,go_sem, *]
theorem zaiT(n a e:Int)(v:Event)(h:¬(v.err=0/\v.epoch=e+1))(h3:0<=e)(h4:e<=4294967000)(h5:v.err=0-> -9223372036854775808<=v.epoch/\v.epoch<=9223372036854775807):zi G 65 [.ref 1000000 0 0,.d (zaw v)] (bZ n a e)=some (.d (.bool (decide (v.err=6))),bZ n a e):=by
 simp only[bZ,zaw]
 by_cases h1:v.err=0
 ·have h2:¬v.epoch=e+1:=fun h2=>h ⟨h1,h2⟩;have h7:=h5 h1;have hf:=zafW e v.epoch zo zo zo zo;rw[zabP h2] at hf;clear h5;clear h;rw[zabP (show ¬v.err=6 by omega)];exact zW
 ·clear h h5;exact zW
theorem zag1(l:List Item)(n a e lim:Int)(i:Nat)(h:i<l.length):zi G 103 [.ref 1000000 i 0,.d (.int .i64 lim)] [(1000000,.row ((l.map zabg).map .d))]=some (.d (.tup []),[(1000000,.row (((l.set i ⟨l[i].id,if l[i].count>=lim then 3 else 1,l[i].count,l[i].gen,l[i].route,0⟩).map zabg).map .d))]):=by
 have hs:∀X,(((l.map zabg).set i X).map AV.d)[i]? = some (.d X):=by intro X;rw[zabI,List.getElem?_set_self (by rw[zabE];exact h)];rfl
 rw[zacw]
 by_cases hc:l[i].count>=lim
 ·simp only[hc,if_true];simp only[zabg];rw[zI zait (by simp)];simp -implicitDefEqProofs (maxSteps:=4000000) (disch:=omega) only[zagb,hs,List.set_set,zh,go_sem, *]
 ·simp only[hc,if_false];simp only[zabg];rw[zI zait (by simp)];simp -implicitDefEqProofs (maxSteps:=4000000) (disch:=omega) only[zagb,hs,List.set_set,zh,go_sem, *]
theorem zanq(n a e:Int)(l:List Item)(v:Event)(hL:l.length<=4294967296)(hv:v.l=[]):zi G 64 [.ref 1000000 0 0,.d (zaw v)] (bN n a e l)=some (.d (.bool (decide (v.err=5))),bN n a e l):=by
 simp only[bN,zaw,hv]
 by_cases h:v.err=5
 ·simp only[h,decide_true];exact zW
 ·simp only[h,decide_false];exact zW
theorem zano(n a e:Int)(l:List Item)(v:Event)(g h:Grant)(r:List Grant)(hL:l.length<=4294967296)(hv:v.l=g::h::r):zi G 64 [.ref 1000000 0 0,.d (zaw v)] (bN n a e l)=some (.d (.bool false),bN n a e l):=by
 simp only[bN,zaw,hv]
 by_cases h:v.err=5
 ·simp only[h];exact zW
 ·exact zW
theorem zann(n a e:Int)(l:List Item)(v:Event)(g:Grant)(hL:l.length<=4294967296)(hv:v.l=[g])(hg:bVal ⟨n,a,e,l⟩ g=false):zi G 64 [.ref 1000000 0 0,.d (zaw v)] (bN n a e l)=some (.d (.bool (decide (v.err=5))),bN n a e l):=by
 have hb:=zafr ⟨n,a,e,l⟩ g hL;rw[hg] at hb;clear hg;simp only[bN,zaw,hv,eBag,zbt,zabs,zabq] at hb ⊢
 by_cases h:v.err=5
 ·simp only[h,decide_true];exact zW
 ·simp only[h,decide_false];exact zW
theorem zanm(n a e:Int)(l:List Item)(v:Event)(g:Grant)(hL:l.length<=4294967296)(hv:v.l=[g])(hg:bVal ⟨n,a,e,l⟩ g=true)(he:v.err≠0):zi G 64 [.ref 1000000 0 0,.d (zaw v)] (bN n a e l)=some (.d (.bool (decide (v.err=6)&&decide (v.kind=6))),bN n a e l):=by
 have hb:=zafr ⟨n,a,e,l⟩ g hL;rw[hg] at hb;clear hg;simp only[bN,zaw,hv,eBag,zbt,zabs,zabq] at hb ⊢
 by_cases h:v.err=5
 ·simp only[h,show ¬((5:Int)=6) by decide,decide_false,zacd];exact zW
 ·by_cases h6:v.err=6
  ·simp only[h6,decide_true,zacA];exact zW
  ·simp only[h6,decide_false,zacd];exact zW
def relI(lim:Int)(x:Item):Item:=⟨x.id,if x.count>=lim then 3 else 1,x.count,x.gen,x.route,0⟩
def dlI(d:Int)(x:Item):Item:=⟨x.id,x.state,x.count,x.gen,x.route,d⟩
theorem zanj(n a e:Int)(l:List Item)(v:Event)(g:Grant)(i:Nat)(hi:i<l.length)(hL:l.length<=4294967296)(hv:v.l=[g])(hg:bVal ⟨n,a,e,l⟩ g=true)(he:v.err=0)(hx:bIx l g.id=i)(hk:v.kind=4):zi G 64 [.ref 1000000 0 0,.d (zaw v)] (bN n a e l)=some (.d (.bool true),bN n a e (l.set i (zaeV l[i]))):=by
 have hb:=zafr ⟨n,a,e,l⟩ g hL;rw[hg] at hb;have hd:=zae3 ⟨n,a,e,l⟩ g.id hL;simp only[hx] at hd;clear hg hx;have hs:∀X,(((l.map zabg).set i X).map AV.d)[i]? = some (.d X):=by intro X;rw[zabI,List.getElem?_set_self (by rw[zabE];exact hi)];rfl
 simp only[bN,zaw,hv,eBag,zbt,zabs,zabq,zacb,zacw] at hb hd ⊢;simp only[zabg,zaeV];rw[zI zala (by simp)];simp -implicitDefEqProofs (maxSteps:=4000000) (disch:=omega) only[zagD,hs,List.set_set,zh,go_sem, *]
theorem zanp(n a e:Int)(l:List Item)(v:Event)(g:Grant)(i:Nat)(hi:i<l.length)(hL:l.length<=4294967296)(hv:v.l=[g])(hg:bVal ⟨n,a,e,l⟩ g=true)(he:v.err=0)(hx:bIx l g.id=i)(hk:v.kind=5):zi G 64 [.ref 1000000 0 0,.d (zaw v)] (bN n a e l)=some (.d (.bool true),bN n a e (l.set i (relI n l[i]))):=by
 have hb:=zafr ⟨n,a,e,l⟩ g hL;rw[hg] at hb;have hd:=zae3 ⟨n,a,e,l⟩ g.id hL;simp only[hx] at hd;have hk2:=zag1 l n a e n i hi;unfold relI;clear hg hx;generalize hz:(⟨l[i].id,if l[i].count>=n then 3 else 1,l[i].count,l[i].gen,l[i].route,0⟩:Item)=z at *;clear hz;simp only[bN,zaw,hv,eBag,zbt,zabs,zabq,zacb,zacw] at hb hd hk2 ⊢;exact zW
theorem zank(n a e:Int)(l:List Item)(v:Event)(g:Grant)(i:Nat)(hi:i<l.length)(hL:l.length<=4294967296)(hv:v.l=[g])(hg:bVal ⟨n,a,e,l⟩ g=true)(he:v.err=0)(hx:bIx l g.id=i)(hk:v.kind=6)(hd:a<=g.deadline):zi G 64 [.ref 1000000 0 0,.d (zaw v)] (bN n a e l)=some (.d (.bool true),bN n a e (l.set i (dlI g.deadline l[i]))):=by
 have hb:=zafr ⟨n,a,e,l⟩ g hL;rw[hg] at hb;have hd:=zae3 ⟨n,a,e,l⟩ g.id hL;simp only[hx] at hd;clear hg hx;simp only[bN,zaw,hv,eBag,zbt,zabs,zabq,zacb,zacw] at hb hd ⊢;simp only[zabg,dlI];exact zW
theorem zanl(n a e:Int)(l:List Item)(v:Event)(g:Grant)(i:Nat)(hi:i<l.length)(hL:l.length<=4294967296)(hv:v.l=[g])(hg:bVal ⟨n,a,e,l⟩ g=true)(he:v.err=0)(hx:bIx l g.id=i)(hk:v.kind=6)(hd:¬a<=g.deadline):zi G 64 [.ref 1000000 0 0,.d (zaw v)] (bN n a e l)=some (.d (.bool false),bN n a e l):=by
 have hb:=zafr ⟨n,a,e,l⟩ g hL;rw[hg] at hb;have hd:=zae3 ⟨n,a,e,l⟩ g.id hL;simp only[hx] at hd;clear hg hx;simp only[bN,zaw,hv,eBag,zbt,zabs,zabq,zacb,zacw] at hb hd ⊢;exact zW
theorem setZ(n a e:Int)(v:Event):zi G 64 [.ref 1000000 0 0,.d (zaw v)] (bZ n a e)=some (.d (.bool (decide (v.err=5)&&decide (v.l.length<=1))),bZ n a e):=by
 have hcase:v.l=[]\/(∃g,v.l=[g])\/∃g h r,v.l=g::h::r:=by
  rcases v.l with _|⟨g,_|⟨h,r⟩⟩<;>simp
 rcases hcase with hv|⟨g,hv⟩|⟨g,h,r,hv⟩
 ·simp only[bZ,zaw,hv,zabw,Nat.zero_le,decide_true,zadF]
  by_cases h:v.err=5
  ·simp only[h,decide_true];exact zW
  ·simp only[h,decide_false];exact zW
 ·have hb:=zafr ⟨n,a,e,[]⟩ g (by simp);rw[show bVal ⟨n,a,e,[]⟩ g=false from rfl] at hb;simp only[bZ,zaw,hv,zabu,zabw,zabU,zabR,decide_true,zadF,eBag,zbt,zabs,zabq] at hb ⊢
  by_cases h:v.err=5
  ·simp only[h,decide_true];exact zW
  ·simp only[h,decide_false];exact zW
 ·have hl:¬(g::h::r).length<=1:=by simp
  simp only[bZ,zaw,hv,hl,decide_false,zacJ]
  by_cases h:v.err=5
  ·simp only[h];exact zW
  ·exact zW
theorem zanh(n a e:Int)(l:List Item)(v:Event)(h:v.err=3\/v.err=6):zi G 62 [.ref 1000000 0 0,.d (zaw v)] (bN n a e l)=some (.d (.bool true),bN n a e l):=by
 simp only[bN,zaw]
 rcases h with h|h
 ·exact zW
 ·exact zW
theorem zand(n a e:Int)(v:Event)(h:v.err=3\/v.err=6):zi G 62 [.ref 1000000 0 0,.d (zaw v)] (bZ n a e)=some (.d (.bool true),bZ n a e):=by
 simp only[bZ,zaw]
 rcases h with h|h
 ·exact zW
 ·exact zW
def badS(v:Event):Prop:=v.err≠0\/¬ ∃g,v.l=[g]/\g.gen=0
theorem zagz{v:Event}(h:badS v):v.err≠0\/(v.err=0/\v.l=[])\/(v.err=0/\∃g,v.l=[g]/\g.gen≠0)\/(v.err=0/\∃g h r,v.l=g::h::r):=by
 unfold badS at h
 by_cases he:v.err=0
 ·rcases h with h|h
  ·exact absurd he h
  ·rcases hv:v.l with _|⟨g,_|⟨h',r⟩⟩
   ·exact .inr (.inl ⟨he,rfl⟩)
   ·exact .inr (.inr (.inl ⟨he,g,rfl,fun hg=>h ⟨g,hv,hg⟩⟩))
   ·exact .inr (.inr (.inr ⟨he,g,h',r,rfl⟩))
 ·exact .inl he
theorem zang(n a e:Int)(l:List Item)(v:Event)(h:¬(v.err=3\/v.err=6))(hb:badS v):zi G 62 [.ref 1000000 0 0,.d (zaw v)] (bN n a e l)=some (.d (.bool false),bN n a e l):=by
 simp only[not_or] at h;obtain⟨h3,h6⟩:=h;simp only[bN,zaw]
 rcases zagz hb with he|⟨he,hv⟩|⟨he,g,hv,hg⟩|⟨he,g,h,r,hv⟩
 ·clear hb;exact zW
 ·clear hb;simp only[hv,zabq];exact zW
 ·clear hb;simp only[hv,zabs,zabq,zbt];exact zW
 ·clear hb;simp only[hv,zabs];exact zW
theorem zanb(n a e:Int)(v:Event)(h:¬(v.err=3\/v.err=6))(hb:badS v):zi G 62 [.ref 1000000 0 0,.d (zaw v)] (bZ n a e)=some (.d (.bool false),bZ n a e):=by
 simp only[not_or] at h;obtain⟨h3,h6⟩:=h;simp only[bZ,zaw]
 rcases zagz hb with he|⟨he,hv⟩|⟨he,g,hv,hg⟩|⟨he,g,h,r,hv⟩
 ·clear hb;exact zW
 ·clear hb;simp only[hv,zabq];exact zW
 ·clear hb;simp only[hv,zabs,zabq,zbt];exact zW
 ·clear hb;simp only[hv,zabs];exact zW
theorem zane(n a e:Int)(l:List Item)(v:Event)(g:Grant)(hL:l.length<=4294967296)(he:v.err=0)(hv:v.l=[g])(hg:g.gen=0)(i:Nat)(hx:bIx l g.id=i):zi G 62 [.ref 1000000 0 0,.d (zaw v)] (bN n a e l)=some (.d (.bool false),bN n a e l):=by
 have hd:=zae3 ⟨n,a,e,l⟩ g.id hL;simp only[hx] at hd;clear hx;simp only[bN,zaw,hv,eBag,zbt,zabs,zabq] at hd ⊢;exact zW
theorem zai5(x:Item)(id:Int):zi G 97 [.d (zabg x),.d (.pd (.int .i64 id))] []=some (.d (.bool (decide (id<x.id))),[]):=by
 simp only[zabg];exact zW
def posI(l:List Item)(id:Int):Nat:=if zbP (fun x=>decide (id<x.id)) l<0 then l.length else (zbP (fun x=>decide (id<x.id)) l).toNat
theorem zal0(l:List Item)(id:Int):posI l id<=l.length:=by
 have:=zsd l fun x=>decide (id<x.id);unfold posI;split<;>omega
def insB(l:List Item)(g:Grant):List Item:=l.take (posI l g.id)++[⟨g.id,1,0,0,g.route,0⟩]++l.drop (posI l g.id)
theorem zalr(n a e:Int)(l:List Item)(v:Event)(g:Grant)(h0:l≠[])(hL:l.length+1<=4294967296)(he:v.err=0)(hv:v.l=[g])(hg:g.gen=0)(hx:bIx l g.id= -1):zi G 62 [.ref 1000000 0 0,.d (zaw v)] (bN n a e l)=some (.d (.bool true),[(1000000,.row [.d (eBag ⟨n,a,e,insB l g⟩)]),(1000001,.frz none)]):=by
 have hd:=zae3 ⟨n,a,e,l⟩ g.id (by simp only;omega);simp only[hx] at hd;have hi:=zagP l 97 [.pd (.int .i64 g.id)] (fun x=>decide (g.id<x.id)) zo (fun a _=>zai5 a g.id);have hp:=zal0 l g.id;have hc:=zalm zaiw (l.map zabg) (zabg ⟨g.id,1,0,0,g.route,0⟩) (posI l g.id) (by simpa using h0) (by simpa using hp) (by
  intro x hx;simp only[zab4,zaby] at hx
  rcases hx with rfl|⟨y,_,rfl⟩<;>rfl) (by rw[zabE];omega)
 rw[<- zac7, <- zadO,show [zabg (⟨g.id,1,0,0,g.route,0⟩:Item)]=[(⟨g.id,1,0,0,g.route,0⟩:Item)].map zabg from rfl, <- zabF, <- zabF] at hc;unfold posI at hc;unfold insB posI;have hq:=zsd l fun x=>decide (g.id<x.id);clear hx hp;generalize zbP (fun x=>decide (g.id<x.id)) l=q at *
 by_cases hq0:q<0
 ·rw[zabo hq0] at hc ⊢;generalize (l.take l.length++[(⟨g.id,1,0,0,g.route,0⟩:Item)]++l.drop l.length)=z at *;simp only[bN,zaw,hv,eBag,zbt,zabs,zabq,zabE,zabg] at hd hc hi ⊢;have zk0:=zabg.eq_1;exact zW
 ·rw[zabn hq0] at hc ⊢;obtain⟨k,rfl⟩:∃k:Nat,q=k:=⟨q.toNat,by omega⟩;rw[zab5] at hc ⊢;generalize (l.take k++[(⟨g.id,1,0,0,g.route,0⟩:Item)]++l.drop k)=z at *;simp only[bN,zaw,hv,eBag,zbt,zabs,zabq,zabE,zabg] at hd hc hi ⊢;have zk0:=zabg.eq_1;exact zW
theorem zanc(n a e:Int)(v:Event)(g:Grant)(he:v.err=0)(hv:v.l=[g])(hg:g.gen=0):zi G 62 [.ref 1000000 0 0,.d (zaw v)] (bZ n a e)=some (.d (.bool true),[(1000000,.row [.d (eBag ⟨n,a,e,insB [] g⟩)])]):=by
 have hd:=zae3 ⟨n,a,e,[]⟩ g.id (by simp);simp only[show bIx [] g.id= -1 from rfl] at hd;have hi:=zagP [] 97 [.pd (.int .i64 g.id)] (fun x=>decide (g.id<x.id)) (by simp) (fun a _=>zai5 a g.id);simp only[show zbP (fun x:Item=>decide (g.id<x.id)) []= -1 from rfl] at hi;have hc:=zaln zaiw (zabg ⟨g.id,1,0,0,g.route,0⟩) rfl;rw[show insB [] g=[(⟨g.id,1,0,0,g.route,0⟩:Item)] from rfl];simp only[bZ,zaw,hv,eBag,zbt,zabs,zabq,zabg] at hd hc hi ⊢;exact zW
theorem zalT(n k:Int)(x:D)(es:List (Int×D)):zg8 n (zh0 k x es)=if k=n then some x else zg8 n es:=by
 induction es with
 | nil=>simp only[zh0,zg8]
 | cons p es ih=>
  obtain⟨j,y⟩:=p;simp only[zh0]
  by_cases h:j=k
  ·subst h;simp only[if_true,zg8]
   by_cases h2:j=n
   ·simp only[h2,if_true]
   ·simp only[h2,if_false]
  ·simp only[h,if_false,zg8,ih]
   by_cases h2:j=n
   ·subst h2;simp only[if_true,show ¬k=j from fun e=>h e.symm,if_false]
   ·simp only[h2,if_false]
def zae2(ids:List Int):List (Int×D):=ids.foldl (fun es n=>zh0 n (.bool true) es) []
theorem zai4(ids:List Int)(n:Int):zae2 (ids++[n])=zh0 n (.bool true) (zae2 ids):=by simp [zae2,List.foldl_append]
theorem zalS(n:Int)(ids:List Int)(es:List (Int×D)):zg8 n (ids.foldl (fun es n=>zh0 n (.bool true) es) es)=if n∈ids then some (.bool true) else zg8 n es:=by
 induction ids generalizing es with
 | nil=>simp
 | cons a ids ih=>
  rw[List.foldl_cons,ih,zalT]
  by_cases h:n∈ids
  ·simp [h]
  ·by_cases h2:a=n
   ·simp [h2]
   ·simp [h,h2,show ¬n=a from fun e=>h2 e.symm]
theorem zaiN(n:Int)(ids:List Int):zg8 n (zae2 ids)=if n∈ids then some (.bool true) else none:=by
 unfold zae2;rw[zalS];rfl
def zdC(ids:List Int):Bool:=decide (¬ids.Nodup)
def zb3(l:List zj):Int:=match l with
 | []=>0
 | m::l=>if zap m≠0 then zap m else zb3 l
def zD(r:zah):List zj:=(List.range r.size.toNat).map fun i=>r.cells.getD ((r.head.toNat+i) % r.cells.length) zaa
def zgt(r:zah):Prop:=1<=r.cells.length/\r.cells.length<=12/\0<=r.head/\r.head<r.cells.length/\0<=r.size/\r.size<=r.cells.length
instance (r:zah):Decidable (zgt r):=by unfold zgt;exact inferInstance
def zc5(r:zah)(i n:Nat):Bool:=(List.range' i (n - i)).any fun j=>decide (r.cells.getD ((r.head.toNat+j) % r.cells.length) zaa≠zaa)
def zaE(r:zah):Int:=if ¬zgt r then 1 else if zc5 r r.size.toNat r.cells.length=true then 7 else if zb3 (zD r)≠0 then zb3 (zD r) else if zdC ((zD r).map (·.id))=true then 10 else 0
theorem z7E(r:zah){i n:Nat}(h:i<n):zc5 r i n=(decide (r.cells.getD ((r.head.toNat+i) % r.cells.length) zaa≠zaa)||zc5 r (i+1) n):=by
 unfold zc5;rw[show n - i=(n - (i+1))+1 by omega,zacX,zac4]
theorem z7D(r:zah){i n:Nat}(h:¬i<n):zc5 r i n=false:=by
 unfold zc5;rw[show n - i=0 by omega];rfl
theorem zHE{l:List zj}{k:Nat}(h:k<l.length):zb3 (l.drop k)=if zap l[k]≠0 then zap l[k] else zb3 (l.drop (k+1)):=by
 rw[zabX h];rfl
def zaD(l:List zj)(id:Int):Int:=zbP (fun m:zj=>decide (m.id=id)) l
theorem zHU{l:List zj}{k:Nat}(h:k<l.length):zaD l l[k].id=k↔∀j (hj:j<k),l[j].id≠l[k].id:=by
 unfold zaD zbP
 cases hf:l.findIdx? (fun m:zj=>decide (m.id=l[k].id)) with
 | none=>
  have:=zadv.1 hf l[k] (zabC h);simp at this
 | some i=>
  obtain⟨hi,e,hn⟩:=zact.1 hf;simp only[decide_eq_true_eq] at e hn;constructor
  ·intro e2 j hj;have:i=k:=by simp at e2;omega
   subst this;exact hn j hj
  ·intro ha
   by_cases h1:i<k
   ·exact absurd e (ha i h1)
   ·by_cases h2:k<i
    ·exact absurd rfl (hn k h2)
    ·simp;omega
def zeR(l:List zj)(k:Nat):Bool:=(List.range' k (l.length - k)).any fun i=>decide (zaD l (l.getD i zaa).id≠i)
theorem zA3(l:List zj){k:Nat}(h:k<l.length):zeR l k=(decide (zaD l l[k].id≠k)||zeR l (k+1)):=by
 unfold zeR;rw[show l.length - k=(l.length - (k+1))+1 by omega,zacX,zac4,zh h]
theorem zA2(l:List zj){k:Nat}(h:¬k<l.length):zeR l k=false:=by
 unfold zeR;rw[show l.length - k=0 by omega];rfl
theorem zA1(l:List zj):zeR l 0=zdC (l.map (·.id)):=by
 apply zacD.2;unfold zeR zdC;simp only[zacO,zacm,zadj,decide_eq_true_eq,zadW,zacu,zabE,zadE];constructor
 ·rintro⟨i,⟨_,hi⟩,hne⟩ hall;simp only[zabU] at hi;rw[zh hi] at hne;exact hne ((zHU hi).2 fun j hj=>hall j i zo hi hj)
 ·intro hn;refine Classical.byContradiction fun hc=>hn fun i j hi hj hij=> ?_;have:zaD l l[j].id=j:=Classical.byContradiction fun hc2=>hc ⟨j,⟨by omega,by omega⟩,by rw[zh hj];exact hc2⟩;exact (zHU hj).1 this i hij
def zaP(s:zt):List zj:=zD s.ready++s.leases.l.map (·.msg)
def zZR(s:zt)(l:List zj):Bool:=l.any fun m=>decide (¬(s.low<=m.route/\m.route<=s.high))
def zCU(s:zt):Int:=s.ready.size+s.leases.l.length
def zY(s:zt):Int:=
 if zaE s.ready≠0 then zaE s.ready
 else if zao s.leases≠0 then zao s.leases
 else if s.live=false then (if s.low≠0\/s.high≠0\/0<zCU s then 7 else 0)
 else if ¬(0<=s.low/\s.low<=s.high/\s.high<65536) then 1
 else if s.ready.cells.length<zCU s then 3
 else if zZR s (zaP s)=true then 12
 else if zdC ((zaP s).map (·.id))=true then 10 else 0
theorem zg9(r:zah):(zD r).length=r.size.toNat:=by simp [zD]
theorem zcC{r:zah}(h:zaE r=0):zgt r:=by
 unfold zaE at h
 split at h
 ·exact absurd h (by decide)
 ·rename_i hc;exact zabG.1 hc
def zaeG(chg:Item->Grant->Option Item):List Int->List Grant->List Item->Nat×List Item
 | _,[],l=>(2,l)
 | seen,g::gs,l=>
  if h:0<=bIx l g.id/\g.id∉seen then
   match chg (l.getD (bIx l g.id).toNat zabf) g with
   | none=>(1,l)
   | some y=>zaeG chg (seen++[g.id]) gs (l.set (bIx l g.id).toNat y)
  else (0,l)
def cloC(n a e:Int)(l:List Item):zd:=[(1000000,.row ((l.map zabg).map .d)),(1000001,.row [.ref 1000002 0 0]),(1000002,.row [.agg [.d (.int .i64 n),.d (.int .i64 a),.d (.int .i64 e),.osl 1000000 0 l.length]])]
def pIk(k:Int)(x:Item):Prop:=0<=x.gen/\x.gen<=k/\ -4294967296<=x.count/\x.count<=4294967296
abbrev pI(x:Item):Prop:=pIk 4294967296 x
theorem pIk.mono{k m:Int}{x:Item}(h:pIk k x)(hm:k<=m):pIk m x:=⟨h.1,by have:=h.2.1;omega,h.2.2⟩
def pG(g:Grant):Prop:= -9223372036854775808<=g.gen/\g.gen<=9223372036854775807
def zafo(chg:Item->Grant->Option Item):Prop:=∀k x g y,pIk k x->chg x g=some y->pIk (k+1) y
def zaf8(f:Nat)(n a e:Int)(chg:Item->Grant->Option Item)(pg:Grant->Prop):Prop:=∀(l:List Item) (i:Nat) (hi:i<l.length) (g:Grant),pI l[i]->pg g->zi G f [.ref 1000000 i 0,.d (zbt g),.ref 1000001 0 0] (cloC n a e l)=some (.d (.bool (chg l[i] g).isSome),cloC n a e (l.set i ((chg l[i] g).getD l[i])))
def esS(f:Nat)(n a e:Int)(gs:List Grant)(t:Nat×List Item×List Int):St:=⟨[(0,.ref 1000000 0 0),(2,.fn f [.ref 1000001 0 0]),(7,.mpr 11),(12,.d (.sl (gs.map zbt))),(13,.d (.int .i64 gs.length)),(14,.d (.int .i64 t.1)),(1000000,.ref 1000000 1 0),(1000001,.ref 1000001 1 0),(1000002,.ref 1000002 1 0)],
 [(11,.mp (zae2 t.2.2)),(1000000,.row [.agg [.d (.int .i64 n),.d (.int .i64 a),.d (.int .i64 e),.osl 1000002 0 t.2.1.length]]),(1000001,.row [.ref 1000000 0 0]),(1000002,.row ((t.2.1.map zabg).map .d))]⟩
def zaeY(n a e:Int)(l:List Item):zd:=[(1000000,.row [.agg [.d (.int .i64 n),.d (.int .i64 a),.d (.int .i64 e),.osl 1000002 0 l.length]]),(1000001,.row [.ref 1000000 0 0]),(1000002,.row ((l.map zabg).map .d))]
def gE:Env:=[(1000000,.ref 1000000 1 0),(1000001,.ref 1000001 1 0),(1000002,.ref 1000002 1 0)]
def zae9(n a e:Int)(r:Nat×List Item):zX×St:=if r.1=2 then (.exit 0,⟨gE,zaeY n a e r.2⟩) else (.ret,⟨(6,.d (.bool false))::gE,if r.1=1 then (zaeY n a e r.2).reverse else zaeY n a e r.2⟩)
theorem zajO(f:Nat)(n a e:Int)(chg:Item->Grant->Option Item)(pg:Grant->Prop)(hf:zaf8 f n a e chg pg)(hk0:zafo chg)(gs:List Grant)(hG:gs.length<=4294967296)(hgs:∀g∈gs,pg g)(M:Int)(hM:M+gs.length<=4294967296):∀t:Nat×List Item×List Int,t.1<=gs.length/\t.2.1.length<=4294967296/\(∀x∈t.2.1,pIk (M+t.1) x)->z6 G [] zaeW (esS f n a e gs t)=some (zae9 n a e (zaeG chg t.2.2 (gs.drop t.1) t.2.1)):=by
 refine zaL (fun t=>gs.length - t.1) (fun t=>t.1<=gs.length/\t.2.1.length<=4294967296/\(∀x∈t.2.1,pIk (M+t.1) x)) (esS f n a e gs) (fun t=>some (zae9 n a e (zaeG chg t.2.2 (gs.drop t.1) t.2.1))) ?_;rintro⟨k,l,seen⟩ ⟨hk,hL,hP⟩ L ih;simp only at hk hL hP ⊢
 by_cases h0:k<gs.length
 ·have hd:=zae3 ⟨n,a,e,l⟩ gs[k].id hL;rw[zabX h0];unfold zaeG;have hm:=zaiN gs[k].id seen
  by_cases h1:0<=bIx l gs[k].id/\gs[k].id∉seen
  ·rw[dif_pos h1];obtain⟨h1,h2⟩:=h1;obtain⟨i,hi⟩:∃i:Nat,bIx l gs[k].id=i:=⟨(bIx l gs[k].id).toNat,by omega⟩;obtain⟨h3, -⟩:=zafd hi;rw[hi] at hd ⊢;have hgd:l.getD i zabf=l[i]:=by simp [zab0,h3]
   rw[zab5,hgd];clear hgd;rw[zabn h2] at hm;have hpx:=hP _ (zabC h3);have hpg:=hgs _ (zabC h0);have hc:=hf l i h3 gs[k] (hpx.mono zo) hpg
   cases hy:chg l[i] gs[k] with
   | none=>
    rw[hy] at hc;simp only[Option.isSome_none,Option.getD_none,List.set_getElem_self] at hc;clear ih hf hi hy h1 h2 hpx hpg hP hgs hk0 hM;simp only[esS,zae9,zaeY,gE,zaeW,cloC,eBag,if_false,if_true,show ¬((1:Nat)=2) by decide,List.reverse_cons,List.reverse_nil,zabJ,zabN] at hc hd ⊢;exact zS
   | some y=>
    rw[hy] at hc;simp only[Option.isSome_some,zacS] at hc;have i1:=ih (k+1,l.set i y,seen++[gs[k].id]) ⟨by simp only;omega,by simp only[zacb];exact hL,fun x hx=>by rcases zac1 hx with hx|rfl;exact (hP x hx).mono (by simp only;omega);exact (hk0 _ _ _ _ hpx hy).mono (by simp only;omega)⟩ (by simp only;omega);rw[esS,zai4] at i1;clear ih hf hi hy h1 h2 hpx hpg hP hgs hk0 hM;simp only at i1 ⊢;generalize zae9 n a e _=w at *;simp only[esS,zaeW,cloC,eBag,zacb] at i1 hc hd ⊢;simp only[zNr,srcO] at i1;exact zS
  ·rw[dif_neg h1];clear ih hf hP hgs hk0 hM
   by_cases h2:0<=bIx l gs[k].id
   ·have h3:gs[k].id∈seen:=Classical.byContradiction fun h=>h1 ⟨h2,h⟩;rw[zabo h3] at hm;clear h1 h3;generalize bIx l gs[k].id=q at *;simp only[esS,zae9,zaeY,gE,zaeW,eBag,if_false,show ¬((0:Nat)=2) by decide,show ¬((0:Nat)=1) by decide] at hd ⊢;have zk0:=zbt.eq_1;exact zS
   ·clear h1 hm;generalize bIx l gs[k].id=q at *;simp only[esS,zae9,zaeY,gE,zaeW,eBag,if_false,show ¬((0:Nat)=2) by decide,show ¬((0:Nat)=1) by decide] at hd ⊢;have zk0:=zbt.eq_1;exact zS
 ·clear ih;rw[zaeg zo];unfold zaeG;simp only[esS,zae9,zaeY,gE,zaeW,if_true];exact zS
theorem zaie(f:Nat)(n a e:Int)(chg:Item->Grant->Option Item)(pg:Grant->Prop)(hf:zaf8 f n a e chg pg)(hk0:zafo chg)(gs:List Grant)(l:List Item)(hG:gs.length<=4294967296)(hgs:∀g∈gs,pg g)(hL:l.length<=4294967296)(M:Int)(hM:M+gs.length<=4294967296)(hP:∀x∈l,pIk M x):
    zi G 99 [.ref 1000000 0 0,.d (.sl (gs.map zbt)),.fn f [.ref 1000001 0 0]] (zaeY n a e l)=some (.d (.bool (decide ((zaeG chg [] gs l).1=2))),zaeY n a e (zaeG chg [] gs l).2):=by
 have hl:=zajO f n a e chg pg hf hk0 gs hG hgs M hM (0,l,[]) ⟨Nat.zero_le _,hL,fun x hx=>(hP x hx).mono (by simp only;omega)⟩;simp only[zabZ] at hl;generalize zaeG chg [] gs l=r at *;obtain⟨b,z⟩:=r;clear hf hk0 hgs hP hM;simp only at hl ⊢
 by_cases hb:b=2
 ·subst hb;simp only[esS,zae9,zaeY,gE,zae2,List.foldl_nil,if_true,zabQ] at hl ⊢;simp only[decide_true];exact zW
 ·by_cases hb1:b=1
  ·subst hb1;simp only[esS,zae9,zaeY,gE,zae2,List.foldl_nil,if_true,if_false,zabQ,show ¬((1:Nat)=2) by decide,List.reverse_cons,List.reverse_nil,zabJ,zabN,decide_false] at hl ⊢;exact zW
  ·simp only[esS,zae9,zaeY,gE,zae2,List.foldl_nil,hb,hb1,if_false,zabQ,decide_false] at hl ⊢;exact zW
def zaeO(n a:Int)(x:Item)(g:Grant):Option Item:=if x.state≠1\/n<=x.count\/g.gen≠x.gen+1\/g.deadline<a then none else some ⟨x.id,2,x.count+1,g.gen,g.route,g.deadline⟩
def zaeN(n a:Int)(x:Item)(_:Grant):Option Item:=if x.state≠2\/a<x.deadline then none else some (relI n x)
theorem zagW{n a:Int}(hn:n<=1000):zafo (zaeO n a):=by
 intro k x g y hx h;unfold zaeO at h
 split at h
 ·cases h
 ·rename_i hc
  cases h
  simp only[not_or] at hc;obtain⟨h1,h2,h3,h4⟩:=hx;exact⟨by simp only;omega,by simp only;omega,by simp only;omega,by simp only;omega⟩
theorem zaih{n a:Int}:zafo (zaeN n a):=by
 intro k x g y hx h;unfold zaeN at h
 split at h
 ·cases h
 ·cases h;exact (show pIk k (relI n x) from hx).mono zo
theorem zaml(n a e:Int)(hn:n<=1000):zaf8 100 n a e (zaeO n a) pG:=by
 intro l i hi g hx hg;obtain⟨h1,h2,h3,h4⟩:=hx;obtain⟨h5,h6⟩:=hg;have hf:=zafW l[i].gen g.gen h1 h2 h5 h6;unfold zaeO
 by_cases c1:l[i].state=1
 ·by_cases c2:n<=l[i].count
  ·simp only[c1,c2,ne_eq,zabD,false_or,zadq,if_true,Option.isSome_none,Option.getD_none,List.set_getElem_self];clear hf;simp only[cloC,zbt];have zk0:=zabg.eq_1;exact zW
  ·by_cases c3:g.gen=l[i].gen+1
   ·rw[zabM c3] at hf
    by_cases c4:g.deadline<a
    ·simp only[c1,c2,c3,c4,ne_eq,zabD,false_or,zadq,or_true,if_true,Option.isSome_none,Option.getD_none,List.set_getElem_self];simp only[c3] at hf;simp only[cloC,zbt];have zk0:=zabg.eq_1;exact zW
    ·simp only[c1,c2,c3,c4,ne_eq,zabD,or_self,if_false,Option.isSome_some,zacS];simp only[c3] at hf;simp only[cloC,zbt,zacw,zacb];have zk0:=zabg.eq_1;exact zW
   ·rw[zabP c3] at hf;simp only[c1,c2,c3,ne_eq,zabD,zabV,false_or,zadq,if_true,Option.isSome_none,Option.getD_none,List.set_getElem_self];simp only[cloC,zbt];have zk0:=zabg.eq_1;exact zW
 ·simp only[c1,ne_eq,zabV,zadq,if_true,Option.isSome_none,Option.getD_none,List.set_getElem_self];clear hf;simp only[cloC,zbt];have zk0:=zabg.eq_1;exact zW
theorem zajY(n a e:Int):zaf8 105 n a e (zaeN n a) (fun _=>True):=by
 intro l i hi g hx hg;have hk2:=zag1 l n a e n i hi;unfold zaeN relI
 by_cases c1:l[i].state=2
 ·by_cases c2:a<l[i].deadline
  ·simp only[c1,c2,ne_eq,zabD,false_or,if_true,Option.isSome_none,Option.getD_none,List.set_getElem_self];clear hk2;simp only[cloC,zbt];have zk0:=zabg.eq_1;exact zW
  ·simp only[c1,c2,ne_eq,zabD,or_self,if_false,Option.isSome_some,zacS];generalize hz:(⟨l[i].id,if l[i].count>=n then 3 else 1,l[i].count,l[i].gen,l[i].route,0⟩:Item)=z at *;clear hz;simp only[cloC,zbt,zacw,zacb] at hk2 ⊢;have zk0:=zabg.eq_1;exact zW
 ·simp only[c1,ne_eq,zabV,zadq,if_true,Option.isSome_none,Option.getD_none,List.set_getElem_self];clear hk2;simp only[cloC,zbt];have zk0:=zabg.eq_1;exact zW
theorem zamk(n a e:Int)(l:List Item)(v:Event)(hn:n<=1000)(hG:v.l.length<=4294967296)(hgs:∀g∈v.l,pG g)(hL:l.length<=4294967296)(M:Int)(hM:M+v.l.length<=4294967296)(hP:∀x∈l,pIk M x)(he:v.err=0):
    zi G 63 [.ref 1000000 0 0,.d (zaw v)] (bN n a e l)=some (.d (.bool (decide ((zaeG (zaeO n a) [] v.l l).1=2))),bN n a e (zaeG (zaeO n a) [] v.l l).2):=by
 have h:=zaie 100 n a e (zaeO n a) pG (zaml n a e hn) (zagW hn) v.l l hG hgs hL M hM hP;generalize zaeG (zaeO n a) [] v.l l=r at *;generalize decide (r.1=2)=q at *;clear hgs hP hM;simp only[bN,zaeY,zaw] at h ⊢;exact zW
theorem zamj(n a e:Int)(l:List Item)(v:Event)(he:v.err≠0):
    zi G 63 [.ref 1000000 0 0,.d (zaw v)] (bN n a e l)=some (.d (.bool (decide (v.err=6))),bN n a e l):=by
 simp only[bN,zaw];exact zW
theorem zajX(n a e:Int)(l:List Item)(v:Event)(hG:v.l.length<=4294967296)(hL:l.length<=4294967296)(M:Int)(hM:M+v.l.length<=4294967296)(hP:∀x∈l,pIk M x)(he:v.err=0):
    zi G 68 [.ref 1000000 0 0,.d (zaw v)] (bN n a e l)=some (.d (.bool (decide ((zaeG (zaeN n a) [] v.l l).1=2))),bN n a e (zaeG (zaeN n a) [] v.l l).2):=by
 have h:=zaie 105 n a e (zaeN n a) (fun _=>True) (zajY n a e) zaih v.l l hG (fun _ _=>trivial) hL M hM hP;generalize zaeG (zaeN n a) [] v.l l=r at *;generalize decide (r.1=2)=q at *;clear hP hM;simp only[bN,zaeY,zaw] at h ⊢;exact zW
theorem zajW(n a e:Int)(l:List Item)(v:Event)(he:v.err≠0):
    zi G 68 [.ref 1000000 0 0,.d (zaw v)] (bN n a e l)=some (.d (.bool false),bN n a e l):=by
 simp only[bN,zaw];exact zW
def zaeI(x:Item)(g:Grant):Option Item:=if x.state≠3\/x.gen≠g.gen then none else some ⟨x.id,1,0,x.gen,g.route,x.deadline⟩
theorem zamo:zafo zaeI:=by
 intro k x g y hx h;unfold zaeI at h
 split at h
 ·cases h
 ·cases h
  exact⟨hx.1,by have:=hx.2.1;simp only;omega,by simp only;omega,by simp only;omega⟩
theorem zamp(l:List Item)(i:Nat)(hi:i<l.length)(g:Grant):zi G 104 [.ref 1000000 i 0,.d (zbt g)] [(1000000,.row ((l.map zabg).map .d))]=some (.d (.bool (zaeI l[i] g).isSome),[(1000000,.row (((l.set i ((zaeI l[i] g).getD l[i])).map zabg).map .d))]):=by
 have hs:∀X,(((l.map zabg).set i X).map AV.d)[i]? = some (.d X):=by intro X;rw[zabI,List.getElem?_set_self (by rw[zabE];exact hi)];rfl
 unfold zaeI
 by_cases c1:l[i].state=3
 ·by_cases c2:l[i].gen=g.gen
  ·simp only[c1,c2,ne_eq,zabD,or_self,if_false,Option.isSome_some,zacS];simp only[zbt,zacw];rw[zI zak9 (by simp)];simp -implicitDefEqProofs (maxSteps:=4000000) (disch:=omega) only[zagC,zabg,hs,List.set_set,zh,go_sem, *]
  ·simp only[c1,c2,ne_eq,zabD,zabV,false_or,if_true,Option.isSome_none,Option.getD_none,List.set_getElem_self];simp only[zbt];have zk0:=zabg.eq_1;exact zW
 ·simp only[c1,ne_eq,zabV,zadq,if_true,Option.isSome_none,Option.getD_none,List.set_getElem_self];simp only[zbt];have zk0:=zabg.eq_1;exact zW
def edS(n a e:Int)(gs:List Grant)(t:Nat×List Item×List Int):St:=⟨[(0,.ref 1000000 0 0),(2,.d (.fn 104 [])),(7,.mpr 11),(12,.d (.sl (gs.map zbt))),(13,.d (.int .i64 gs.length)),(14,.d (.int .i64 t.1)),(1000000,.ref 1000000 1 0),(1000001,.ref 1000001 1 0)],
 (11,.mp (zae2 t.2.2))::bN n a e t.2.1⟩
def edR(n a e:Int)(r:Nat×List Item):zX×St:=if r.1=2 then (.exit 0,⟨[(1000000,.ref 1000000 1 0),(1000001,.ref 1000001 1 0)],bN n a e r.2⟩) else (.ret,⟨[(6,.d (.bool false)),(1000000,.ref 1000000 1 0),(1000001,.ref 1000001 1 0)],if r.1=1 then (bN n a e r.2).reverse else bN n a e r.2⟩)
theorem zajP(n a e:Int)(gs:List Grant)(hG:gs.length<=4294967296):∀t:Nat×List Item×List Int,t.1<=gs.length/\t.2.1.length<=4294967296->z6 G [] zaeW (edS n a e gs t)=some (edR n a e (zaeG zaeI t.2.2 (gs.drop t.1) t.2.1)):=by
 refine zaL (fun t=>gs.length - t.1) (fun t=>t.1<=gs.length/\t.2.1.length<=4294967296) (edS n a e gs) (fun t=>some (edR n a e (zaeG zaeI t.2.2 (gs.drop t.1) t.2.1))) ?_;rintro⟨k,l,seen⟩ ⟨hk,hL⟩ L ih;simp only at hk hL ⊢
 by_cases h0:k<gs.length
 ·have hd:=zae3 ⟨n,a,e,l⟩ gs[k].id hL;rw[zabX h0];unfold zaeG;have hm:=zaiN gs[k].id seen
  by_cases h1:0<=bIx l gs[k].id/\gs[k].id∉seen
  ·rw[dif_pos h1];obtain⟨h1,h2⟩:=h1;obtain⟨i,hi⟩:∃i:Nat,bIx l gs[k].id=i:=⟨(bIx l gs[k].id).toNat,by omega⟩;obtain⟨h3, -⟩:=zafd hi;rw[hi] at hd ⊢;have hgd:l.getD i zabf=l[i]:=by simp [zab0,h3]
   rw[zab5,hgd];clear hgd;rw[zabn h2] at hm;have hc:=zamp l i h3 gs[k]
   cases hy:zaeI l[i] gs[k] with
   | none=>
    rw[hy] at hc;simp only[Option.isSome_none,Option.getD_none,List.set_getElem_self] at hc;clear ih hi hy h1 h2;simp only[edS,edR,bN,zaeW,eBag,if_false,if_true,show ¬((1:Nat)=2) by decide,List.reverse_cons,List.reverse_nil,zabJ,zabN] at hc hd ⊢;exact zS
   | some y=>
    rw[hy] at hc;simp only[Option.isSome_some,zacS] at hc;have i1:=ih (k+1,l.set i y,seen++[gs[k].id]) ⟨by simp only;omega,by simp only[zacb];exact hL⟩ (by simp only;omega);rw[edS,zai4] at i1;clear ih hi hy h1 h2;simp only at i1 ⊢;generalize edR n a e _=w at *;simp only[edS,bN,zaeW,eBag,zacb] at i1 hc hd ⊢;simp only[zNr,srcO] at i1;exact zS
  ·rw[dif_neg h1];clear ih
   by_cases h2:0<=bIx l gs[k].id
   ·have h3:gs[k].id∈seen:=Classical.byContradiction fun h=>h1 ⟨h2,h⟩;rw[zabo h3] at hm;clear h1 h3;generalize bIx l gs[k].id=q at *;simp only[edS,edR,bN,zaeW,eBag,if_false,show ¬((0:Nat)=2) by decide,show ¬((0:Nat)=1) by decide] at hd ⊢;have zk0:=zbt.eq_1;exact zS
   ·clear h1 hm;generalize bIx l gs[k].id=q at *;simp only[edS,edR,bN,zaeW,eBag,if_false,show ¬((0:Nat)=2) by decide,show ¬((0:Nat)=1) by decide] at hd ⊢;have zk0:=zbt.eq_1;exact zS
 ·clear ih;rw[zaeg zo];unfold zaeG;simp only[edS,edR,bN,zaeW,if_true];exact zS
theorem zajK(n a e:Int)(gs:List Grant)(l:List Item)(hG:gs.length<=4294967296)(hL:l.length<=4294967296):
    zi G 99 [.ref 1000000 0 0,.d (.sl (gs.map zbt)),.d (.fn 104 [])] (bN n a e l)=some (.d (.bool (decide ((zaeG zaeI [] gs l).1=2))),bN n a e (zaeG zaeI [] gs l).2):=by
 have hl:=zajP n a e gs hG (0,l,[]) ⟨Nat.zero_le _,hL⟩;simp only[zabZ] at hl;generalize zaeG zaeI [] gs l=r at *;obtain⟨b,z⟩:=r;simp only at hl ⊢
 by_cases hb:b=2
 ·subst hb;simp only[edS,edR,bN,zae2,List.foldl_nil,if_true,zabQ] at hl ⊢;simp only[decide_true];exact zW
 ·by_cases hb1:b=1
  ·subst hb1;simp only[edS,edR,bN,zae2,List.foldl_nil,if_true,if_false,zabQ,show ¬((1:Nat)=2) by decide,List.reverse_cons,List.reverse_nil,zabJ,zabN,decide_false] at hl ⊢;exact zW
  ·simp only[edS,edR,bN,zae2,List.foldl_nil,hb,hb1,if_false,zabQ,decide_false] at hl ⊢;exact zW
theorem zamu(n a e:Int)(l:List Item)(v:Event)(hG:v.l.length<=4294967296)(hL:l.length<=4294967296)(he:v.err=0):
    zi G 67 [.ref 1000000 0 0,.d (zaw v)] (bN n a e l)=some (.d (.bool (decide ((zaeG zaeI [] v.l l).1=2))),bN n a e (zaeG zaeI [] v.l l).2):=by
 have h:=zajK n a e v.l l hG hL;generalize zaeG zaeI [] v.l l=r at *;generalize decide (r.1=2)=q at *;simp only[bN,zaw] at h ⊢;exact zW
theorem zamt(n a e:Int)(l:List Item)(v:Event)(he:v.err≠0):
    zi G 67 [.ref 1000000 0 0,.d (zaw v)] (bN n a e l)=some (.d (.bool (decide (v.err=3))),bN n a e l):=by
 simp only[bN,zaw];exact zW
def zafE(n a e:Int):zd:=[(1000000,.row [.agg [.d (.int .i64 n),.d (.int .i64 a),.d (.int .i64 e),.xsl []]]),(1000001,.row [.ref 1000000 0 0])]
theorem zaid(f:Nat)(n a e:Int)(gs:List Grant)(hG:gs.length<=4294967296):
    zi G 99 [.ref 1000000 0 0,.d (.sl (gs.map zbt)),.fn f [.ref 1000001 0 0]] (zafE n a e)=some (.d (.bool gs.isEmpty),zafE n a e):=by
 cases gs with
 | nil=>
  simp only[zafE,List.isEmpty_nil,zabq];rw[zI zagh (by simp)];simp -implicitDefEqProofs (maxSteps:=4000000) (disch:=omega) only[zafB,zaC,zaeW,zh,go_sem, *]
 | cons g r=>
  have hd:=zae3 ⟨n,a,e,[]⟩ g.id (by simp);simp only[show bIx [] g.id= -1 from rfl] at hd;simp only[zabu] at hG;simp only[zafE,List.isEmpty_cons,zabs,eBag,zabq] at hd ⊢;rw[zI zagh (by simp)];simp -implicitDefEqProofs (maxSteps:=4000000) (disch:=omega) only[zafB,zaC,zaeW,zbt,zh,go_sem, *]
theorem zajJ(n a e:Int)(gs:List Grant)(hG:gs.length<=4294967296):
    zi G 99 [.ref 1000000 0 0,.d (.sl (gs.map zbt)),.d (.fn 104 [])] (bZ n a e)=some (.d (.bool gs.isEmpty),bZ n a e):=by
 cases gs with
 | nil=>
  simp only[bZ,List.isEmpty_nil,zabq];rw[zI zagh (by simp)];simp -implicitDefEqProofs (maxSteps:=4000000) (disch:=omega) only[zafB,zaC,zaeW,zh,go_sem, *]
 | cons g r=>
  have hd:=zae3 ⟨n,a,e,[]⟩ g.id (by simp);simp only[show bIx [] g.id= -1 from rfl] at hd;simp only[zabu] at hG;simp only[bZ,List.isEmpty_cons,zabs,eBag,zabq] at hd ⊢;rw[zI zagh (by simp)];simp -implicitDefEqProofs (maxSteps:=4000000) (disch:=omega) only[zafB,zaC,zaeW,zbt,zh,go_sem, *]
theorem zami(n a e:Int)(v:Event)(hG:v.l.length<=4294967296):zi G 63 [.ref 1000000 0 0,.d (zaw v)] (bZ n a e)=some (.d (.bool (if v.err=0 then v.l.isEmpty else decide (v.err=6))),bZ n a e):=by
 have h:=zaid 100 n a e v.l hG;generalize v.l.isEmpty=q at *;simp only[bZ,zafE,zaw] at h ⊢
 by_cases he:v.err=0
 ·simp only[he,if_true];exact zW
 ·simp only[he,if_false];exact zW
theorem zajV(n a e:Int)(v:Event)(hG:v.l.length<=4294967296):zi G 68 [.ref 1000000 0 0,.d (zaw v)] (bZ n a e)=some (.d (.bool (if v.err=0 then v.l.isEmpty else false)),bZ n a e):=by
 have h:=zaid 105 n a e v.l hG;generalize v.l.isEmpty=q at *;simp only[bZ,zafE,zaw] at h ⊢
 by_cases he:v.err=0
 ·simp only[he,if_true];exact zW
 ·simp only[he,if_false];exact zW
theorem zams(n a e:Int)(v:Event)(hG:v.l.length<=4294967296):zi G 67 [.ref 1000000 0 0,.d (zaw v)] (bZ n a e)=some (.d (.bool (if v.err=0 then v.l.isEmpty else decide (v.err=3))),bZ n a e):=by
 have h:=zajJ n a e v.l hG;generalize v.l.isEmpty=q at *;simp only[bZ,zaw] at h ⊢
 by_cases he:v.err=0
 ·simp only[he,if_true];exact zW
 ·simp only[he,if_false];exact zW
def cfn(k:Int):Nat:=if k=1 then 61 else if k=2 then 62 else if k=3 then 63 else if k=4\/k=5\/k=6 then 64 else if k=7 then 65 else if k=9 then 67 else 68
theorem zaeJ(n a e n' a' e':Int)(l l':List Item)(v:Event)(r:Bool)(h8:v.kind≠8)(h:zi G (cfn v.kind) [.ref 1000000 0 0,.d (zaw v)] (bN n a e l)=some (.d (.bool r),bN n' a' e' l')):zi G 39 [.ref 1000000 0 0,.d (zaw v)] (bN n a e l)=some (.d (.bool r),bN n' a' e' l'):=by
 by_cases h1:v.kind=1
 ·simp only[cfn,h1,if_true,bN,zaw] at h ⊢;exact zW
 by_cases h2:v.kind=2
 ·simp only[cfn,h2,if_true,if_false,bN,zaw,show ¬((2:Int)=1) by decide] at h ⊢;exact zW
 by_cases h3:v.kind=3
 ·simp only[cfn,h3,if_true,if_false,bN,zaw,show ¬((3:Int)=1) by decide,show ¬((3:Int)=2) by decide] at h ⊢;exact zW
 by_cases h4:v.kind=4\/v.kind=5\/v.kind=6
 ·rw[cfn,zabn h1,zabn h2,zabn h3,zabo h4] at h;simp only[bN,zaw] at h ⊢
  rcases h4 with h4|h4|h4
  ·simp only[h4] at h ⊢;exact zW
  ·simp only[h4] at h ⊢;exact zW
  ·simp only[h4] at h ⊢;exact zW
 by_cases h7:v.kind=7
 ·rw[cfn,zabn h1,zabn h2,zabn h3,zabn h4,zabo h7] at h;simp only[bN,zaw,h7] at h ⊢;exact zW
 by_cases h9:v.kind=9
 ·rw[cfn,zabn h1,zabn h2,zabn h3,zabn h4,zabn h7,zabo h9] at h;simp only[bN,zaw,h9] at h ⊢;exact zW
 rw[cfn,zabn h1,zabn h2,zabn h3,zabn h4,zabn h7,zabn h9] at h;simp only[not_or] at h4;obtain⟨h4,h5,h6⟩:=h4;simp only[bN,zaw] at h ⊢;exact zW
theorem zaju(n a e:Int)(l z:List Item)(v:Event)(h2:v.kind=2)(h:zi G 62 [.ref 1000000 0 0,.d (zaw v)] (bN n a e l)=some (.d (.bool true),[(1000000,.row [.d (eBag ⟨n,a,e,z⟩)]),(1000001,.frz none)])):zi G 39 [.ref 1000000 0 0,.d (zaw v)] (bN n a e l)=some (.d (.bool true),[(1000000,.row [.d (eBag ⟨n,a,e,z⟩)]),(1000001,.frz none)]):=by
 simp only[bN,zaw,h2] at h ⊢;exact zW
theorem zajt(n a e:Int)(l:List Item)(v:Event)(h8:v.kind=8)(hL:l.length<=4294967296):zi G 39 [.ref 1000000 0 0,.d (zaw v)] (bN n a e l)=some (.d (.bool (decide (v.err=0/\v.ready=cntS 1 l/\v.leased=cntS 2 l))),bN n a e l):=by
 have hc:=zag2 ⟨n,a,e,l⟩ hL;generalize cntS 1 l=c1 at *;generalize cntS 2 l=c2 at *;simp only[bN,zaw,h8,eBag] at hc ⊢
 by_cases h1:v.err=0
 ·by_cases h2:v.ready=c1
  ·by_cases h3:v.leased=c2
   ·rw[zabM ⟨h1,h2,h3⟩];exact zW
   ·rw[zabP fun h=>h3 h.2.2];exact zW
  ·rw[zabP fun h=>h2 h.2.1];exact zW
 ·rw[zabP fun h=>h1 h.1];exact zW
theorem zafh(n a e n' a' e':Int)(v:Event)(r:Bool)(h8:v.kind≠8)(h:zi G (cfn v.kind) [.ref 1000000 0 0,.d (zaw v)] (bZ n a e)=some (.d (.bool r),bZ n' a' e')):zi G 39 [.ref 1000000 0 0,.d (zaw v)] (bZ n a e)=some (.d (.bool r),bZ n' a' e'):=by
 by_cases h1:v.kind=1
 ·simp only[cfn,h1,if_true,bZ,zaw] at h ⊢;exact zW
 by_cases h2:v.kind=2
 ·simp only[cfn,h2,if_true,if_false,bZ,zaw,show ¬((2:Int)=1) by decide] at h ⊢;exact zW
 by_cases h3:v.kind=3
 ·simp only[cfn,h3,if_true,if_false,bZ,zaw,show ¬((3:Int)=1) by decide,show ¬((3:Int)=2) by decide] at h ⊢;exact zW
 by_cases h4:v.kind=4\/v.kind=5\/v.kind=6
 ·rw[cfn,zabn h1,zabn h2,zabn h3,zabo h4] at h;simp only[bZ,zaw] at h ⊢
  rcases h4 with h4|h4|h4
  ·simp only[h4] at h ⊢;exact zW
  ·simp only[h4] at h ⊢;exact zW
  ·simp only[h4] at h ⊢;exact zW
 by_cases h7:v.kind=7
 ·rw[cfn,zabn h1,zabn h2,zabn h3,zabn h4,zabo h7] at h;simp only[bZ,zaw,h7] at h ⊢;exact zW
 by_cases h9:v.kind=9
 ·rw[cfn,zabn h1,zabn h2,zabn h3,zabn h4,zabn h7,zabo h9] at h;simp only[bZ,zaw,h9] at h ⊢;exact zW
 rw[cfn,zabn h1,zabn h2,zabn h3,zabn h4,zabn h7,zabn h9] at h;simp only[not_or] at h4;obtain⟨h4,h5,h6⟩:=h4;simp only[bZ,zaw] at h ⊢;exact zW
theorem zajs(n a e:Int)(z:List Item)(v:Event)(h2:v.kind=2)(h:zi G 62 [.ref 1000000 0 0,.d (zaw v)] (bZ n a e)=some (.d (.bool true),[(1000000,.row [.d (eBag ⟨n,a,e,z⟩)])])):zi G 39 [.ref 1000000 0 0,.d (zaw v)] (bZ n a e)=some (.d (.bool true),[(1000000,.row [.d (eBag ⟨n,a,e,z⟩)])]):=by
 simp only[bZ,zaw,h2] at h ⊢;exact zW
theorem zajr(n a e:Int)(v:Event)(h8:v.kind=8):zi G 39 [.ref 1000000 0 0,.d (zaw v)] (bZ n a e)=some (.d (.bool (decide (v.err=0/\v.ready=0/\v.leased=0))),bZ n a e):=by
 have hc:=zag2 ⟨n,a,e,[]⟩ (by simp);simp only[show ∀s,cntS s []=0 from fun s=>rfl,zabQ] at hc;simp only[bZ,zaw,h8,eBag,zabq] at hc ⊢
 by_cases h1:v.err=0
 ·by_cases h2:v.ready=0
  ·by_cases h3:v.leased=0
   ·rw[zabM ⟨h1,h2,h3⟩];exact zW
   ·rw[zabP fun h=>h3 h.2.2];exact zW
  ·rw[zabP fun h=>h2 h.2.1];exact zW
 ·rw[zabP fun h=>h1 h.1];exact zW
def tmF(v:Event):Bool×Bool:=
 if v.kind=1\/v.kind=7 then (false,false)
 else if v.kind=2 then (if v.err=6 then (false,false) else (true,true))
 else if v.kind=4\/v.kind=5\/v.kind=6 then (if v.l.length=0 then (false,false) else (true,true))
 else (true,decide (v.kind≠8))
theorem zafz(v:Event)(hL:v.l.length<=4294967296):zi G 37 [.d (zaw v)] []=some (.d (.tup [.bool (tmF v).1,.bool (tmF v).2]),[]):=by
 unfold tmF
 by_cases h1:v.kind=1
 ·simp only[h1,zadq,if_true];simp only[zaw];exact zW
 by_cases h7:v.kind=7
 ·simp only[h7,or_true,if_true];simp only[zaw];exact zW
 rw[zabn zo]
 by_cases h2:v.kind=2
 ·simp only[h2,if_true];simp only[zaw]
  by_cases h6:v.err=6
  ·simp only[h6,if_true];exact zW
  ·simp only[h6,if_false];exact zW
 rw[zabn h2]
 by_cases h4:v.kind=4\/v.kind=5\/v.kind=6
 ·rw[zabo h4]
  by_cases h0:v.l.length=0
  ·rw[zabo h0];have hnil:=zacc.1 h0;simp only[zaw,hnil,zabq]
   rcases h4 with h4|h4|h4
   ·exact zW
   ·exact zW
   ·exact zW
  ·rw[zabn h0];simp only[zaw]
   rcases h4 with h4|h4|h4
   ·exact zW
   ·exact zW
   ·exact zW
 ·rw[zabn h4];simp only[not_or] at h4;obtain⟨h4,h5,h6⟩:=h4
  by_cases h8:v.kind=8
  ·simp only[h8,ne_eq,zabD,decide_false];simp only[zaw];exact zW
  ·simp only[h8,ne_eq,zabV,decide_true];simp only[zaw];exact zW
def zaeR(b:Bag)(v:Event):Bool:=(tmF v).1&&decide (v.epoch≠b.epoch)||(tmF v).2&&decide (v.now≠b.now)
theorem zanA(b:Bag)(v:Event)(hk:¬(1<=v.kind/\v.kind<=10)):zi G 18 [.d (eBag b),.d (zaw v)] []=some (.d (.tup [eBag zBag,.int .i64 9]),[]):=by
 have hi:=zae7 v.kind 1 10;rw[show (decide (1<=v.kind)&&decide (v.kind<=10))=false by simp;omega] at hi;clear hk;simp only[eBag,zBag,zaw,zabq];exact zW
theorem zanB(b:Bag)(v:Event)(hk:1<=v.kind/\v.kind<=10)(hL:v.l.length<=4294967296)(hl:zaeR b v=true):zi G 18 [.d (eBag b),.d (zaw v)] []=some (.d (.tup [eBag zBag,.int .i64 7]),[]):=by
 have hi:=zae7 v.kind 1 10;rw[show (decide (1<=v.kind)&&decide (v.kind<=10))=true by simp;omega] at hi;have ht:=zafz v hL;unfold zaeR at hl;generalize (tmF v).1=p at *;generalize (tmF v).2=q at *;clear hk;simp only[eBag,zBag,zaw,zabq] at ht ⊢
 by_cases c1:v.epoch=b.epoch
 ·replace c1:=zabA c1
  by_cases c2:v.now=b.now
  ·exfalso;simp only[ne_eq,c1,c2,zabD,decide_false,zacJ,Bool.or_self,zabz] at hl
  ·cases q
   ·exfalso;simp only[ne_eq,c1,zabD,decide_false,zacJ,zacd,Bool.or_self,zabz] at hl
   ·clear hl
    cases p
    ·exact zW
    ·exact zW
 ·cases p
  ·by_cases c2:v.now=b.now
   ·exfalso;simp only[ne_eq,c1,c2,zabD,decide_false,zacJ,zacd,Bool.or_self,zabz] at hl
   ·cases q
    ·exfalso;simp only[ne_eq,zacd,Bool.or_self,zabz] at hl
    ·clear hl;exact zW
  ·clear hl;exact zW
theorem zafI{b:Bag}{v:Event}(h:zaeR b v=false):((tmF v).1=false\/v.epoch=b.epoch)/\((tmF v).2=false\/v.now=b.now):=by
 unfold zaeR at h;simp only[zacY,Bool.and_eq_false_imp,decide_eq_false_iff_not,ne_eq,zabG] at h;refine⟨?_,?_⟩
 ·cases hp:(tmF v).1
  ·exact .inl rfl
  ·exact .inr (h.1 hp)
 ·cases hp:(tmF v).2
  ·exact .inl rfl
  ·exact .inr (h.2 hp)
theorem zant(b:Bag)(v:Event)(hk:1<=v.kind/\v.kind<=10)(hL:v.l.length<=4294967296)(hl:zaeR b v=false)(h0:b.l≠[])(hL2:b.l.length<=4294967296)(z:List Item)(h:zi G 39 [.ref 1000000 0 0,.d (zaw v)] (bN b.limit b.now b.epoch b.l)=some (.d (.bool false),bN b.limit b.now b.epoch z)):zi G 18 [.d (eBag b),.d (zaw v)] []=some (.d (.tup [eBag zBag,.int .i64 7]),[]):=by
 have hi:=zae7 v.kind 1 10;rw[show (decide (1<=v.kind)&&decide (v.kind<=10))=true by simp;omega] at hi;have ht:=zafz v hL;obtain⟨hp,hq⟩:=zafI hl;have hc:=zafD (b.l.map zabg) (zafc _) (by rw[zabE];exact hL2);have hne:¬b.l.length=0:=by rw[zacc];exact h0
 generalize (tmF v).1=p at *;generalize (tmF v).2=q at *;clear hk hl h0;simp only[eBag,zBag,zaw,bN,zabq,zabE,zabw] at ht h hc ⊢
 rcases hp with rfl|hp
 ·rcases hq with rfl|hq
  ·exact zW
  ·replace hq:=zabA hq
   cases q
   ·exact zW
   ·exact zW
 ·replace hp:=zabA hp
  cases p
  ·rcases hq with rfl|hq
   ·exact zW
   ·replace hq:=zabA hq
    cases q
    ·exact zW
    ·exact zW
  ·rcases hq with rfl|hq
   ·exact zW
   ·replace hq:=zabA hq
    cases q
    ·exact zW
    ·exact zW
theorem zanv(b:Bag)(v:Event)(hk:1<=v.kind/\v.kind<=10)(hL:v.l.length<=4294967296)(hl:zaeR b v=false)(h0:b.l≠[])(hL2:b.l.length<=4294967296)(a e:Int)(z:List Item)(h:zi G 39 [.ref 1000000 0 0,.d (zaw v)] (bN b.limit b.now b.epoch b.l)=some (.d (.bool true),bN b.limit a e z)):zi G 18 [.d (eBag b),.d (zaw v)] []=some (.d (.tup [eBag ⟨b.limit,a,e,z⟩,.int .i64 0]),[]):=by
 have hi:=zae7 v.kind 1 10;rw[show (decide (1<=v.kind)&&decide (v.kind<=10))=true by simp;omega] at hi;have ht:=zafz v hL;obtain⟨hp,hq⟩:=zafI hl;have hc:=zafD (b.l.map zabg) (zafc _) (by rw[zabE];exact hL2);have hne:¬b.l.length=0:=by rw[zacc];exact h0
 generalize (tmF v).1=p at *;generalize (tmF v).2=q at *;clear hk hl h0;simp only[eBag,zBag,zaw,bN,zabq,zabE,zabw] at ht h hc ⊢
 rcases hp with rfl|hp
 ·rcases hq with rfl|hq
  ·exact zW
  ·replace hq:=zabA hq
   cases q
   ·exact zW
   ·exact zW
 ·replace hp:=zabA hp
  cases p
  ·rcases hq with rfl|hq
   ·exact zW
   ·replace hq:=zabA hq
    cases q
    ·exact zW
    ·exact zW
  ·rcases hq with rfl|hq
   ·exact zW
   ·replace hq:=zabA hq
    cases q
    ·exact zW
    ·exact zW
theorem zanu(b:Bag)(v:Event)(hk:1<=v.kind/\v.kind<=10)(hL:v.l.length<=4294967296)(hl:zaeR b v=false)(h0:b.l≠[])(hL2:b.l.length<=4294967296)(z:List Item)(h:zi G 39 [.ref 1000000 0 0,.d (zaw v)] (bN b.limit b.now b.epoch b.l)=some (.d (.bool true),[(1000000,.row [.d (eBag ⟨b.limit,b.now,b.epoch,z⟩)]),(1000001,.frz none)])):zi G 18 [.d (eBag b),.d (zaw v)] []=some (.d (.tup [eBag ⟨b.limit,b.now,b.epoch,z⟩,.int .i64 0]),[]):=by
 have hi:=zae7 v.kind 1 10;rw[show (decide (1<=v.kind)&&decide (v.kind<=10))=true by simp;omega] at hi;have ht:=zafz v hL;obtain⟨hp,hq⟩:=zafI hl;have hc:=zafD (b.l.map zabg) (zafc _) (by rw[zabE];exact hL2);have hne:¬b.l.length=0:=by rw[zacc];exact h0
 generalize (tmF v).1=p at *;generalize (tmF v).2=q at *;clear hk hl h0;simp only[eBag,zBag,zaw,bN,zabq,zabE,zabw] at ht h hc ⊢
 rcases hp with rfl|hp
 ·rcases hq with rfl|hq
  ·exact zW
  ·replace hq:=zabA hq
   cases q
   ·exact zW
   ·exact zW
 ·replace hp:=zabA hp
  cases p
  ·rcases hq with rfl|hq
   ·exact zW
   ·replace hq:=zabA hq
    cases q
    ·exact zW
    ·exact zW
  ·rcases hq with rfl|hq
   ·exact zW
   ·replace hq:=zabA hq
    cases q
    ·exact zW
    ·exact zW
theorem zanx(b:Bag)(v:Event)(hk:1<=v.kind/\v.kind<=10)(hL:v.l.length<=4294967296)(hl:zaeR b v=false)(h0:b.l=[])(h:zi G 39 [.ref 1000000 0 0,.d (zaw v)] (bZ b.limit b.now b.epoch)=some (.d (.bool false),bZ b.limit b.now b.epoch)):zi G 18 [.d (eBag b),.d (zaw v)] []=some (.d (.tup [eBag zBag,.int .i64 7]),[]):=by
 have hi:=zae7 v.kind 1 10;rw[show (decide (1<=v.kind)&&decide (v.kind<=10))=true by simp;omega] at hi;have ht:=zafz v hL;obtain⟨hp,hq⟩:=zafI hl;have hc:=zafD [] rfl (by simp);generalize (tmF v).1=p at *;generalize (tmF v).2=q at *;clear hk hl;simp only[eBag,zBag,zaw,bZ,h0,zabq,zabE,zabw] at ht h hc ⊢;clear h0
 rcases hp with rfl|hp
 ·rcases hq with rfl|hq
  ·exact zW
  ·replace hq:=zabA hq
   cases q
   ·exact zW
   ·exact zW
 ·replace hp:=zabA hp
  cases p
  ·rcases hq with rfl|hq
   ·exact zW
   ·replace hq:=zabA hq
    cases q
    ·exact zW
    ·exact zW
  ·rcases hq with rfl|hq
   ·exact zW
   ·replace hq:=zabA hq
    cases q
    ·exact zW
    ·exact zW
theorem zanz(b:Bag)(v:Event)(hk:1<=v.kind/\v.kind<=10)(hL:v.l.length<=4294967296)(hl:zaeR b v=false)(h0:b.l=[])(a e:Int)(h:zi G 39 [.ref 1000000 0 0,.d (zaw v)] (bZ b.limit b.now b.epoch)=some (.d (.bool true),bZ b.limit a e)):zi G 18 [.d (eBag b),.d (zaw v)] []=some (.d (.tup [eBag ⟨b.limit,a,e,[]⟩,.int .i64 0]),[]):=by
 have hi:=zae7 v.kind 1 10;rw[show (decide (1<=v.kind)&&decide (v.kind<=10))=true by simp;omega] at hi;have ht:=zafz v hL;obtain⟨hp,hq⟩:=zafI hl;have hc:=zafD [] rfl (by simp);generalize (tmF v).1=p at *;generalize (tmF v).2=q at *;clear hk hl;simp only[eBag,zBag,zaw,bZ,h0,zabq,zabE,zabw] at ht h hc ⊢;clear h0
 rcases hp with rfl|hp
 ·rcases hq with rfl|hq
  ·exact zW
  ·replace hq:=zabA hq
   cases q
   ·exact zW
   ·exact zW
 ·replace hp:=zabA hp
  cases p
  ·rcases hq with rfl|hq
   ·exact zW
   ·replace hq:=zabA hq
    cases q
    ·exact zW
    ·exact zW
  ·rcases hq with rfl|hq
   ·exact zW
   ·replace hq:=zabA hq
    cases q
    ·exact zW
    ·exact zW
theorem zany(b:Bag)(v:Event)(hk:1<=v.kind/\v.kind<=10)(hL:v.l.length<=4294967296)(hl:zaeR b v=false)(h0:b.l=[])(z:List Item)(h:zi G 39 [.ref 1000000 0 0,.d (zaw v)] (bZ b.limit b.now b.epoch)=some (.d (.bool true),[(1000000,.row [.d (eBag ⟨b.limit,b.now,b.epoch,z⟩)])])):zi G 18 [.d (eBag b),.d (zaw v)] []=some (.d (.tup [eBag ⟨b.limit,b.now,b.epoch,z⟩,.int .i64 0]),[]):=by
 have hi:=zae7 v.kind 1 10;rw[show (decide (1<=v.kind)&&decide (v.kind<=10))=true by simp;omega] at hi;have ht:=zafz v hL;obtain⟨hp,hq⟩:=zafI hl;have hc:=zafD [] rfl (by simp);generalize (tmF v).1=p at *;generalize (tmF v).2=q at *;clear hk hl;simp only[eBag,zBag,zaw,bZ,h0,zabq,zabE,zabw] at ht h hc ⊢;clear h0
 rcases hp with rfl|hp
 ·rcases hq with rfl|hq
  ·exact zW
  ·replace hq:=zabA hq
   cases q
   ·exact zW
   ·exact zW
 ·replace hp:=zabA hp
  cases p
  ·rcases hq with rfl|hq
   ·exact zW
   ·replace hq:=zabA hq
    cases q
    ·exact zW
    ·exact zW
  ·rcases hq with rfl|hq
   ·exact zW
   ·replace hq:=zabA hq
    cases q
    ·exact zW
    ·exact zW
def zae5(b:Bag)(chg:Item->Grant->Option Item)(gs:List Grant):Option Bag:=if (zaeG chg [] gs b.l).1=2 then some ⟨b.limit,b.now,b.epoch,(zaeG chg [] gs b.l).2⟩ else none
def zaf6(b:Bag)(v:Event):Option Bag:=
 if v.err=3\/v.err=6 then some b else if v.err≠0 then none else
 match v.l with
 | [g]=>if g.gen≠0 then none else if 0<=bIx b.l g.id then none else some ⟨b.limit,b.now,b.epoch,insB b.l g⟩
 | _=>none
def setI(b:Bag)(g:Grant)(f:Item->Item):Bag:=⟨b.limit,b.now,b.epoch,b.l.set (bIx b.l g.id).toNat (f (b.l.getD (bIx b.l g.id).toNat zabf))⟩
def zaf7(b:Bag)(v:Event):Option Bag:=
 match v.l with
 | []=>if v.err=5 then some b else none
 | [g]=>
  if bVal b g=true then
   if v.err≠0 then (if v.err=6/\v.kind=6 then some b else none)
   else if v.kind=4 then some (setI b g zaeV)
   else if v.kind=5 then some (setI b g (relI b.limit))
   else if b.now<=g.deadline then some (setI b g (dlI g.deadline)) else none
  else if v.err=5 then some b else none
 | _=>none
def zaeS(b:Bag)(v:Event):Option Bag:=
 if v.kind=1 then (if v.err≠0\/v.now<b.now then none else some ⟨b.limit,v.now,b.epoch,b.l⟩)
 else if v.kind=2 then zaf6 b v
 else if v.kind=3 then (if v.err=0 then zae5 b (zaeO b.limit b.now) v.l else if v.err=6 then some b else none)
 else if v.kind=4\/v.kind=5\/v.kind=6 then zaf7 b v
 else if v.kind=7 then (if v.err=0 then (if v.epoch=b.epoch+1 then some ⟨b.limit,b.now,v.epoch,b.l.map zaeV⟩ else none) else if v.err=6 then some b else none)
 else if v.kind=8 then (if v.err=0/\v.ready=cntS 1 b.l/\v.leased=cntS 2 b.l then some b else none)
 else if v.kind=9 then (if v.err=0 then zae5 b zaeI v.l else if v.err=3 then some b else none)
 else (if v.err=0 then zae5 b (zaeN b.limit b.now) v.l else none)
def zaeP(b:Bag)(v:Event):Bag×Int:=
 if ¬(1<=v.kind/\v.kind<=10) then (zBag,9) else if zaeR b v=true then (zBag,7) else match zaeS b v with|some c=>(c,0)|none=>(zBag,7)
structure pB(b:Bag):Prop where
 lim:b.limit<=1000
 ep0:0<=b.epoch
 ep1:b.epoch<=4294967000
 len:b.l.length+1<=4294967296
 its:∀x∈b.l,pIk 4294960000 x
structure pV(v:Event):Prop where
 len:v.l.length<=4294967296
 le2:v.l.length<=1000
 gs:v.kind=3->v.err=0->∀g∈v.l,pG g
 ep:v.kind=7->v.err=0-> -9223372036854775808<=v.epoch/\v.epoch<=9223372036854775807
theorem zagy{b:Bag}{g:Grant}(h:bVal b g=true):∃i:Nat,∃hi:i<b.l.length,bIx b.l g.id=i/\b.l.getD (bIx b.l g.id).toNat zabf=b.l[i]:=by
 unfold bVal at h
 rcases zagx b.l g.id with ⟨_,h2⟩|⟨i,hi,h1,_⟩
 all_goals grind
theorem zajk(b:Bag)(v:Event)(hk:1<=v.kind/\v.kind<=10)(hl:zaeR b v=false)(h0:b.l≠[])(hb:pB b)(hv:pV v):zi G 18 [.d (eBag b),.d (zaw v)] []=some (.d (match zaeS b v with|some c=> .tup [eBag c,.int .i64 0]|none=> .tup [eBag zBag,.int .i64 7]),[]):=by
 obtain⟨n,a,e,l⟩:=b;obtain⟨b1,b2,b3,b4,b5⟩:=hb;obtain⟨v1,v0,v2,v3⟩:=hv;simp only at b1 b2 b3 b4 b5 h0;have hL:l.length<=4294967296:=by omega
 have no:=fun z h=>zant ⟨n,a,e,l⟩ v hk v1 hl h0 hL z h;have yes:=fun a' e' z h=>zanv ⟨n,a,e,l⟩ v hk v1 hl h0 hL a' e' z h;have snd:=fun z h=>zanu ⟨n,a,e,l⟩ v hk v1 hl h0 hL z h;simp only at no yes snd;unfold zaeS
 by_cases k1:v.kind=1
 ·rw[zabo k1];have hcf:cfn v.kind=61:=by rw[k1];rfl
  by_cases h:v.err≠0\/v.now<a
  ·rw[zabo h];exact no l (zaeJ _ _ _ _ _ _ _ _ _ _ zo (by rw[hcf];exact zanK n a e l v h))
  ·rw[zabn h];exact yes v.now e l (zaeJ _ _ _ _ _ _ _ _ _ _ zo (by rw[hcf];exact zanL n a e l v h))
 rw[zabn k1]
 by_cases k2:v.kind=2
 ·rw[zabo k2];have hcf:cfn v.kind=62:=by rw[k2];rfl
  unfold zaf6
  by_cases h:v.err=3\/v.err=6
  ·rw[zabo h];exact yes a e l (zaeJ _ _ _ _ _ _ _ _ _ _ zo (by rw[hcf];exact zanh n a e l v h))
  rw[zabn h];have bad:badS v->zi G 18 [.d (eBag ⟨n,a,e,l⟩),.d (zaw v)] []=some (.d (.tup [eBag zBag,.int .i64 7]),[]):=fun hbad=>no l (zaeJ _ _ _ _ _ _ _ _ _ _ zo (by rw[hcf];exact zang n a e l v h hbad))
  by_cases he:v.err=0
  ·rw[zabn (by simpa using he)]
   rcases hvl:v.l with _|⟨g,_|⟨g',r⟩⟩
   ·exact bad (.inr (by rintro⟨g,hg,_⟩;rw[hvl] at hg;cases hg))
   ·simp only
    by_cases hg:g.gen=0
    ·rw[zabn (by simpa using hg)]
     by_cases hx:0<=bIx l g.id
     ·rw[zabo hx];obtain⟨i,hi⟩:∃i:Nat,bIx l g.id=i:=⟨(bIx l g.id).toNat,by omega⟩;exact no l (zaeJ _ _ _ _ _ _ _ _ _ _ zo (by rw[hcf];exact zane n a e l v g hL he hvl hg i hi))
     ·rw[zabn hx];exact snd _ (zaju n a e l _ v k2 (zalr n a e l v g h0 b4 he hvl hg ((zagN l _).1 (by unfold bIx at hx;omega))))
    ·rw[zabo hg];exact bad (.inr (by rintro⟨g',hg',h2⟩;rw[hvl] at hg';cases hg';exact hg h2))
   ·exact bad (.inr (by rintro⟨g,hg,_⟩;rw[hvl] at hg;cases hg))
  ·rw[zabo he];exact bad (.inl he)
 rw[zabn k2]
 by_cases k3:v.kind=3
 ·rw[zabo k3];have hcf:cfn v.kind=63:=by rw[k3];rfl
  by_cases he:v.err=0
  ·rw[zabo he];have h:=zamk n a e l v b1 v1 (v2 k3 he) hL 4294960000 zo b5 he;unfold zae5;simp only
   by_cases hr:(zaeG (zaeO n a) [] v.l l).1=2
   ·rw[zabo hr];rw[zabM hr] at h;exact yes a e _ (zaeJ _ _ _ _ _ _ _ _ _ _ zo (by rw[hcf];exact h))
   ·rw[zabn hr];rw[zabP hr] at h;exact no _ (zaeJ _ _ _ _ _ _ _ _ _ _ zo (by rw[hcf];exact h))
  ·rw[zabn he];have h:=zamj n a e l v he
   by_cases h6:v.err=6
   ·rw[zabo h6];rw[zabM h6] at h;exact yes a e l (zaeJ _ _ _ _ _ _ _ _ _ _ zo (by rw[hcf];exact h))
   ·rw[zabn h6];rw[zabP h6] at h;exact no l (zaeJ _ _ _ _ _ _ _ _ _ _ zo (by rw[hcf];exact h))
 rw[zabn k3]
 by_cases k4:v.kind=4\/v.kind=5\/v.kind=6
 ·rw[zabo k4];have hcf:cfn v.kind=64:=by rcases k4 with k|k|k<;>rw[k]<;>rfl
  have go:∀(c:Prop) [Decidable c],zi G 64 [.ref 1000000 0 0,.d (zaw v)] (bN n a e l)=some (.d (.bool (decide c)),bN n a e l)->zi G 18 [.d (eBag ⟨n,a,e,l⟩),.d (zaw v)] []=some (.d (match (if c then some ⟨n,a,e,l⟩ else none:Option Bag) with|some c=> .tup [eBag c,.int .i64 0]|none=> .tup [eBag zBag,.int .i64 7]),[]):=by
   intro c _ h
   by_cases hc:c
   ·rw[zabo hc];rw[zabM hc] at h;exact yes a e l (zaeJ _ _ _ _ _ _ _ _ _ _ zo (by rw[hcf];exact h))
   ·rw[zabn hc];rw[zabP hc] at h;exact no l (zaeJ _ _ _ _ _ _ _ _ _ _ zo (by rw[hcf];exact h))
  unfold zaf7
  rcases hvl:v.l with _|⟨g,_|⟨g',r⟩⟩
  ·exact go _ (zanq n a e l v hL hvl)
  ·simp only
   by_cases hg:bVal ⟨n,a,e,l⟩ g=true
   ·rw[zabo hg];obtain⟨i,hi,hx,hgd⟩:=zagy hg;simp only at hi hx hgd
    by_cases he:v.err=0
    ·rw[zabn (by simpa using he)]
     by_cases kk4:v.kind=4
     ·rw[zabo kk4];unfold setI;simp only;rw[hgd,hx,zab5];exact yes a e _ (zaeJ _ _ _ _ _ _ _ _ _ _ zo (by rw[hcf];exact zanj n a e l v g i hi hL hvl hg he hx kk4))
     rw[zabn kk4]
     by_cases kk5:v.kind=5
     ·rw[zabo kk5];unfold setI;simp only;rw[hgd,hx,zab5];exact yes a e _ (zaeJ _ _ _ _ _ _ _ _ _ _ zo (by rw[hcf];exact zanp n a e l v g i hi hL hvl hg he hx kk5))
     rw[zabn kk5]
     by_cases hd:a<=g.deadline
     ·rw[zabo hd];unfold setI;simp only;rw[hgd,hx,zab5];exact yes a e _ (zaeJ _ _ _ _ _ _ _ _ _ _ zo (by rw[hcf];exact zank n a e l v g i hi hL hvl hg he hx zo hd))
     ·rw[zabn hd];exact no l (zaeJ _ _ _ _ _ _ _ _ _ _ zo (by rw[hcf];exact zanl n a e l v g i hi hL hvl hg he hx zo hd))
    ·rw[zabo he];refine go _ ?_;rw[zadD];exact zanm n a e l v g hL hvl hg he
   ·rw[zabn hg];exact go _ (zann n a e l v g hL hvl (by simpa using hg))
  ·exact no l (zaeJ _ _ _ _ _ _ _ _ _ _ zo (by rw[hcf];exact zano n a e l v g g' r hL hvl))
 rw[zabn k4]
 by_cases k7:v.kind=7
 ·rw[zabo k7];have hcf:cfn v.kind=65:=by rw[k7];rfl
  by_cases he:v.err=0
  ·rw[zabo he]
   by_cases hp:v.epoch=e+1
   ·rw[zabo hp];exact yes a v.epoch _ (zaeJ _ _ _ _ _ _ _ _ _ _ zo (by rw[hcf];exact zal9 n a e l v hL he hp b2 b3))
   ·rw[zabn hp];have h:=zaiU n a e l v (fun h=>hp h.2) b2 b3 (v3 k7);rw[zabP zo] at h;exact no l (zaeJ _ _ _ _ _ _ _ _ _ _ zo (by rw[hcf];exact h))
  ·rw[zabn he];have h:=zaiU n a e l v (fun h=>he h.1) b2 b3 (v3 k7)
   by_cases h6:v.err=6
   ·rw[zabo h6];rw[zabM h6] at h;exact yes a e l (zaeJ _ _ _ _ _ _ _ _ _ _ zo (by rw[hcf];exact h))
   ·rw[zabn h6];rw[zabP h6] at h;exact no l (zaeJ _ _ _ _ _ _ _ _ _ _ zo (by rw[hcf];exact h))
 rw[zabn k7]
 by_cases k8:v.kind=8
 ·rw[zabo k8];have h:=zajt n a e l v k8 hL
  grind
 rw[zabn k8]
 by_cases k9:v.kind=9
 ·rw[zabo k9];have hcf:cfn v.kind=67:=by rw[k9];rfl
  by_cases he:v.err=0
  ·rw[zabo he];have h:=zamu n a e l v v1 hL he;unfold zae5;simp only
   by_cases hr:(zaeG zaeI [] v.l l).1=2
   ·rw[zabo hr];rw[zabM hr] at h;exact yes a e _ (zaeJ _ _ _ _ _ _ _ _ _ _ zo (by rw[hcf];exact h))
   ·rw[zabn hr];rw[zabP hr] at h;exact no _ (zaeJ _ _ _ _ _ _ _ _ _ _ zo (by rw[hcf];exact h))
  ·rw[zabn he];have h:=zamt n a e l v he
   by_cases h6:v.err=3
   ·rw[zabo h6];rw[zabM h6] at h;exact yes a e l (zaeJ _ _ _ _ _ _ _ _ _ _ zo (by rw[hcf];exact h))
   ·rw[zabn h6];rw[zabP h6] at h;exact no l (zaeJ _ _ _ _ _ _ _ _ _ _ zo (by rw[hcf];exact h))
 rw[zabn k9];have hcf:cfn v.kind=68:=by rw[show v.kind=10 by omega];rfl
 by_cases he:v.err=0
 ·rw[zabo he];have h:=zajX n a e l v v1 hL 4294960000 zo b5 he;unfold zae5;simp only
  by_cases hr:(zaeG (zaeN n a) [] v.l l).1=2
  ·rw[zabo hr];rw[zabM hr] at h;exact yes a e _ (zaeJ _ _ _ _ _ _ _ _ _ _ zo (by rw[hcf];exact h))
  ·rw[zabn hr];rw[zabP hr] at h;exact no _ (zaeJ _ _ _ _ _ _ _ _ _ _ zo (by rw[hcf];exact h))
 ·rw[zabn he];have h:=zajW n a e l v he;exact no l (zaeJ _ _ _ _ _ _ _ _ _ _ zo (by rw[hcf];exact h))
theorem zajL(chg:Item->Grant->Option Item)(gs:List Grant):zaeG chg [] gs []=(if gs.isEmpty then 2 else 0,[]):=by
 cases gs with
 | nil=>rfl
 | cons g gs=>
  unfold zaeG;rw[dif_neg (fun h=>absurd h.1 (by show ¬(0:Int)<= -1;decide))];rfl
theorem zajl(b:Bag)(v:Event)(hk:1<=v.kind/\v.kind<=10)(hl:zaeR b v=false)(h0:b.l=[])(hb:pB b)(hv:pV v):zi G 18 [.d (eBag b),.d (zaw v)] []=some (.d (match zaeS b v with|some c=> .tup [eBag c,.int .i64 0]|none=> .tup [eBag zBag,.int .i64 7]),[]):=by
 obtain⟨n,a,e,l⟩:=b;simp only at h0;subst h0;obtain⟨b1,b2,b3,b4,b5⟩:=hb;obtain⟨v1,v0,v2,v3⟩:=hv;simp only at b1 b2 b3;have no:=fun h=>zanx ⟨n,a,e,[]⟩ v hk v1 hl rfl h;have yes:=fun a' e' h=>zanz ⟨n,a,e,[]⟩ v hk v1 hl rfl a' e' h;have snd:=fun z h=>zany ⟨n,a,e,[]⟩ v hk v1 hl rfl z h;simp only at no yes snd;have go:v.kind≠8->∀(c:Prop) [Decidable c],zi G (cfn v.kind) [.ref 1000000 0 0,.d (zaw v)] (bZ n a e)=some (.d (.bool (decide c)),bZ n a e)->zi G 18 [.d (eBag ⟨n,a,e,[]⟩),.d (zaw v)] []=some (.d (match (if c then some ⟨n,a,e,[]⟩ else none:Option Bag) with|some c=> .tup [eBag c,.int .i64 0]|none=> .tup [eBag zBag,.int .i64 7]),[]):=by
  intro h8 c _ h
  by_cases hc:c
  ·rw[zabo hc];rw[zabM hc] at h;exact yes a e (zafh _ _ _ _ _ _ _ _ h8 h)
  ·rw[zabn hc];rw[zabP hc] at h;exact no (zafh _ _ _ _ _ _ _ _ h8 h)
 have hem:v.l.isEmpty=decide (v.l=[]):=by cases v.l<;>simp
 have each:∀chg,zae5 ⟨n,a,e,[]⟩ chg v.l=if v.l=[] then some ⟨n,a,e,[]⟩ else none:=by
  intro chg;unfold zae5;simp only[zajL]
  by_cases h:v.l=[]
  ·rw[zabo h,h];rfl
  ·have:v.l.isEmpty=false:=by rw[hem];exact zabP h
   rw[zabn h,this];rfl
 unfold zaeS
 by_cases k1:v.kind=1
 ·rw[zabo k1];have hcf:cfn v.kind=61:=by rw[k1];rfl
  by_cases h:v.err≠0\/v.now<a
  ·rw[zabo h];exact no (zafh _ _ _ _ _ _ _ _ zo (by rw[hcf];exact zanI n a e v h))
  ·rw[zabn h];exact yes v.now e (zafh _ _ _ _ _ _ _ _ zo (by rw[hcf];exact zanJ n a e v h))
 rw[zabn k1]
 by_cases k2:v.kind=2
 ·rw[zabo k2];have hcf:cfn v.kind=62:=by rw[k2];rfl
  unfold zaf6
  by_cases h:v.err=3\/v.err=6
  ·rw[zabo h];exact yes a e (zafh _ _ _ _ _ _ _ _ zo (by rw[hcf];exact zand n a e v h))
  rw[zabn h];have bad:badS v->zi G 18 [.d (eBag ⟨n,a,e,[]⟩),.d (zaw v)] []=some (.d (.tup [eBag zBag,.int .i64 7]),[]):=fun hbad=>no (zafh _ _ _ _ _ _ _ _ zo (by rw[hcf];exact zanb n a e v h hbad))
  by_cases he:v.err=0
  ·rw[zabn (by simpa using he)]
   rcases hvl:v.l with _|⟨g,_|⟨g',r⟩⟩
   ·exact bad (.inr (by rintro⟨g,hg,_⟩;rw[hvl] at hg;cases hg))
   ·simp only
    by_cases hg:g.gen=0
    ·rw[zabn (by simpa using hg),zabn (show ¬0<=bIx [] g.id from fun h=>absurd h (by show ¬(0:Int)<= -1;decide))];exact snd _ (zajs n a e _ v k2 (zanc n a e v g he hvl hg))
    ·rw[zabo hg];exact bad (.inr (by rintro⟨g',hg',h2⟩;rw[hvl] at hg';cases hg';exact hg h2))
   ·exact bad (.inr (by rintro⟨g,hg,_⟩;rw[hvl] at hg;cases hg))
  ·rw[zabo he];exact bad (.inl he)
 rw[zabn k2]
 by_cases k3:v.kind=3
 ·rw[zabo k3];have hcf:cfn v.kind=63:=by rw[k3];rfl
  have h:=zami n a e v v1;rw[<- hcf] at h
  by_cases he:v.err=0
  ·rw[zabo he,each];rw[zabo he,hem] at h;exact go zo _ h
  ·rw[zabn he] at h ⊢;exact go zo _ h
 rw[zabn k3]
 by_cases k4:v.kind=4\/v.kind=5\/v.kind=6
 ·rw[zabo k4];have hcf:cfn v.kind=64:=by rcases k4 with k|k|k<;>rw[k]<;>rfl
  have h:=setZ n a e v;rw[<- hcf, <- zadD] at h;have h2:=go zo _ h;unfold zaf7
  rcases hvl:v.l with _|⟨g,_|⟨g',r⟩⟩
  ·rw[hvl] at h2;simpa using h2
  ·simp only;rw[zabn (show ¬bVal ⟨n,a,e,[]⟩ g=true by rw[show bVal ⟨n,a,e,[]⟩ g=false from rfl];decide)];rw[hvl] at h2;simpa using h2
  ·rw[hvl] at h2;simpa using h2
 rw[zabn k4]
 by_cases k7:v.kind=7
 ·rw[zabo k7];have hcf:cfn v.kind=65:=by rw[k7];rfl
  by_cases he:v.err=0
  ·rw[zabo he]
   by_cases hp:v.epoch=e+1
   ·rw[zabo hp];exact yes a v.epoch (zafh _ _ _ _ _ _ _ _ zo (by rw[hcf];exact zal7 n a e v he hp b2 b3))
   ·rw[zabn hp];have h:=zaiT n a e v (fun h=>hp h.2) b2 b3 (v3 k7);rw[zabP zo] at h;exact no (zafh _ _ _ _ _ _ _ _ zo (by rw[hcf];exact h))
  ·rw[zabn he];have h:=zaiT n a e v (fun h=>he h.1) b2 b3 (v3 k7);rw[<- hcf] at h;exact go zo _ h
 rw[zabn k7]
 by_cases k8:v.kind=8
 ·rw[zabo k8];have h:=zajr n a e v k8;simp only[show ∀s,cntS s []=0 from fun s=>rfl,zabQ]
  by_cases hc:v.err=0/\v.ready=0/\v.leased=0
  ·rw[zabo hc];rw[zabM hc] at h;exact yes a e h
  ·rw[zabn hc];rw[zabP hc] at h;exact no h
 rw[zabn k8]
 by_cases k9:v.kind=9
 ·rw[zabo k9];have hcf:cfn v.kind=67:=by rw[k9];rfl
  have h:=zams n a e v v1;rw[<- hcf] at h
  by_cases he:v.err=0
  ·rw[zabo he,each];rw[zabo he,hem] at h;exact go zo _ h
  ·rw[zabn he] at h ⊢;exact go zo _ h
 rw[zabn k9];have hcf:cfn v.kind=68:=by rw[show v.kind=10 by omega];rfl
 have h:=zajV n a e v v1;rw[<- hcf] at h
 by_cases he:v.err=0
 ·rw[zabo he,each];rw[zabo he,hem] at h;exact go zo _ h
 ·rw[zabn he] at h ⊢;exact go zo False (by simpa using h)
theorem zajm(b:Bag)(v:Event)(hb:pB b)(hv:pV v):zi G 18 [.d (eBag b),.d (zaw v)] []=some (.d (.tup [eBag (zaeP b v).1,.int .i64 (zaeP b v).2]),[]):=by
 unfold zaeP
 by_cases hk:1<=v.kind/\v.kind<=10
 ·rw[zabn (by simpa using hk)]
  by_cases hl:zaeR b v=true
  ·rw[zabo hl];exact zanB b v hk hv.len hl
  ·rw[zabn hl];have h:zi G 18 [.d (eBag b),.d (zaw v)] []=some (.d (match zaeS b v with|some c=> .tup [eBag c,.int .i64 0]|none=> .tup [eBag zBag,.int .i64 7]),[]):=by
    by_cases h0:b.l=[]
    ·exact zajl b v hk (by simpa using hl) h0 hb hv
    ·exact zajk b v hk (by simpa using hl) h0 hb hv
   rw[h]
   cases zaeS b v<;>rfl
 ·rw[zabo hk];exact zanA b v hk
theorem zafQ(b:Bag)(x:Item)(i:Nat)(hi:i<b.l.length)(hx:bIx b.l x.id=i)(hL:b.l.length<=4294967296):zi G 74 [.d (eBag b),.d (zabg x)] []=some (.d (eBag ⟨b.limit,b.now,b.epoch,b.l.set i x⟩),[]):=by
 have hd:=zagt b x.id hL;rw[hx] at hd;clear hx;have hne:¬b.l.length=0:=by omega
 simp only[eBag,zacw] at hd ⊢;have zk0:= @zafc;have zk1:=zabg.eq_1;exact zW
theorem zai0(b:Bag)(x:Item):zi G 75 [.d (eBag b),.d (zabg x)] []=some (.d (zabg (relI b.limit x)),[]):=by
 unfold relI
 by_cases h:x.count>=b.limit
 ·simp only[h,if_true];simp only[eBag,zabg];exact zW
 ·simp only[h,if_false];simp only[eBag,zabg];exact zW
theorem zamV(b:Bag)(v:Event)(hv:v.l=[]):zi G 71 [.d (eBag b),.d (zaw v)] []=some (.d (.tup [eBag b,.bool (decide (v.err=5))]),[]):=by
 simp only[eBag,zaw,hv,zabq]
 by_cases h:v.err=5
 ·simp only[h,decide_true];exact zW
 ·simp only[h,decide_false];exact zW
theorem zamT(b:Bag)(v:Event)(g h:Grant)(r:List Grant)(hv:v.l=g::h::r):zi G 71 [.d (eBag b),.d (zaw v)] []=some (.d (.tup [eBag b,.bool false]),[]):=by
 simp only[eBag,zaw,hv,zabs]
 by_cases h:v.err=5
 ·simp only[h];exact zW
 ·exact zW
theorem zamS(b:Bag)(v:Event)(g:Grant)(hL:b.l.length<=4294967296)(hv:v.l=[g])(hg:bVal b g=false):zi G 71 [.d (eBag b),.d (zaw v)] []=some (.d (.tup [eBag b,.bool (decide (v.err=5))]),[]):=by
 have hb:=zafK b g hL;rw[hg] at hb;clear hg;simp only[eBag,zaw,zbt,hv,zabs,zabq] at hb ⊢
 by_cases h:v.err=5
 ·simp only[h,decide_true];exact zW
 ·simp only[h,decide_false];exact zW
theorem zamR(b:Bag)(v:Event)(g:Grant)(hL:b.l.length<=4294967296)(hv:v.l=[g])(hg:bVal b g=true)(he:v.err≠0):zi G 71 [.d (eBag b),.d (zaw v)] []=some (.d (.tup [eBag b,.bool (decide (v.err=6)&&decide (v.kind=6))]),[]):=by
 have hb:=zafK b g hL;rw[hg] at hb;clear hg;simp only[eBag,zaw,zbt,hv,zabs,zabq] at hb ⊢
 by_cases h:v.err=5
 ·simp only[h,show ¬((5:Int)=6) by decide,decide_false,zacd];exact zW
 ·by_cases h6:v.err=6
  ·simp only[h6,decide_true,zacA];exact zW
  ·simp only[h6,decide_false,zacd];exact zW
theorem zafp{b:Bag}{id:Int}{i:Nat}(hi:i<b.l.length)(hx:bIx b.l id=i):bFD b id= .tup [zabg b.l[i],.bool true]:=by
 unfold bFD;obtain⟨h,h2⟩:=zafd hx;rw[h2]
theorem zafH{l:List Item}{id:Int}{i:Nat}(hi:i<l.length)(hx:bIx l id=i):l[i].id=id:=by
 obtain⟨h,h1,_⟩:=zagO hx;simpa using h1
theorem zamO(b:Bag)(v:Event)(g:Grant)(i:Nat)(hi:i<b.l.length)(hL:b.l.length<=4294967296)(hv:v.l=[g])(hg:bVal b g=true)(he:v.err=0)(hx:bIx b.l g.id=i)(hk:v.kind=4):zi G 71 [.d (eBag b),.d (zaw v)] []=some (.d (.tup [eBag ⟨b.limit,b.now,b.epoch,b.l.set i (zaeV b.l[i])⟩,.bool true]),[]):=by
 have hb:=zafK b g hL;rw[hg] at hb;have hf:=zafl b g.id hL;rw[zafp hi hx] at hf;have hs:=zafQ b (zaeV b.l[i]) i hi (by rw[show (zaeV b.l[i]).id=b.l[i].id from rfl,zafH hi hx,hx]) hL;clear hg hx;simp only[eBag,zaw,zbt,hv,zabs,zabq,zaeV,zabg] at hb hf hs ⊢;exact zW
theorem zamU(b:Bag)(v:Event)(g:Grant)(i:Nat)(hi:i<b.l.length)(hL:b.l.length<=4294967296)(hv:v.l=[g])(hg:bVal b g=true)(he:v.err=0)(hx:bIx b.l g.id=i)(hk:v.kind=5):zi G 71 [.d (eBag b),.d (zaw v)] []=some (.d (.tup [eBag ⟨b.limit,b.now,b.epoch,b.l.set i (relI b.limit b.l[i])⟩,.bool true]),[]):=by
 have hb:=zafK b g hL;rw[hg] at hb;have hf:=zafl b g.id hL;rw[zafp hi hx] at hf;have hr:=zai0 b b.l[i];have hs:=zafQ b (relI b.limit b.l[i]) i hi (by rw[show (relI b.limit b.l[i]).id=b.l[i].id from rfl,zafH hi hx,hx]) hL;clear hg hx;generalize relI b.limit b.l[i]=y at *;generalize b.l[i]=x at *;simp only[eBag,zaw,zbt,hv,zabs,zabq,zabg] at hb hf hs hr ⊢;exact zW
theorem zamP(b:Bag)(v:Event)(g:Grant)(i:Nat)(hi:i<b.l.length)(hL:b.l.length<=4294967296)(hv:v.l=[g])(hg:bVal b g=true)(he:v.err=0)(hx:bIx b.l g.id=i)(hk:v.kind=6)(hd:b.now<=g.deadline):zi G 71 [.d (eBag b),.d (zaw v)] []=some (.d (.tup [eBag ⟨b.limit,b.now,b.epoch,b.l.set i (dlI g.deadline b.l[i])⟩,.bool true]),[]):=by
 have hb:=zafK b g hL;rw[hg] at hb;have hf:=zafl b g.id hL;rw[zafp hi hx] at hf;have hs:=zafQ b (dlI g.deadline b.l[i]) i hi (by rw[show (dlI g.deadline b.l[i]).id=b.l[i].id from rfl,zafH hi hx,hx]) hL;clear hg hx;simp only[eBag,zaw,zbt,hv,zabs,zabq,dlI,zabg] at hb hf hs ⊢;exact zW
theorem zamQ(b:Bag)(v:Event)(g:Grant)(i:Nat)(hi:i<b.l.length)(hL:b.l.length<=4294967296)(hv:v.l=[g])(hg:bVal b g=true)(he:v.err=0)(hx:bIx b.l g.id=i)(hk:v.kind=6)(hd:¬b.now<=g.deadline):zi G 71 [.d (eBag b),.d (zaw v)] []=some (.d (.tup [eBag b,.bool false]),[]):=by
 have hb:=zafK b g hL;rw[hg] at hb;have hf:=zafl b g.id hL;rw[zafp hi hx] at hf;clear hg hx;simp only[eBag,zaw,zbt,hv,zabs,zabq,zabg] at hb hf ⊢;exact zW
theorem zag0(l:List Item)(id:Int):bIx l id=zbP (fun x=>decide (x=id)) (l.map (·.id)):=by
 unfold bIx zbP;rw[List.findIdx?_map];rfl
theorem zajf{l:List Item}{i:Nat}(hi:i<l.length){y:Item}(hy:y.id=l[i].id)(id:Int):bIx (l.set i y) id=bIx l id:=by
 rw[zag0,zag0]
 congr 1
 refine zaer (by simp) fun j h1 h2=> ?_;simp only[zadE,List.getElem_set]
 split
 ·rename_i e;subst e;exact hy
 ·rfl
def zB(o:Nat):Nat×Go.Sim.Obj:=(o,.row [.agg [.d (.int .i64 0),.d (.int .i64 0),.d (.int .i64 0),.xsl []]])
def posR(l:List Item)(id:Int):Nat:=match l.findIdx? (fun x=>decide (¬x.id<id)) with|some i=>i|none=>l.length
theorem zal1(l:List Item)(id:Int):posR l id<=l.length:=by
 unfold posR
 split
 ·rename_i i h;have:=(zact.1 h).1;omega
 ·exact zabR _
theorem zamL(b:Bag)(v:Event)(g:Grant)(hv:v.l=[g])(hL:b.l.length<=4294967296):z6 G [] zago ⟨[(2,.ref 2 0 0),(3,.ref 3 0 0),(4,.ref 4 0 0),(6,.d (.int .i64 0))],[(2,.row [.d (eBag b)]),(3,.row [.d (zaw v)]),zB 4]⟩=some (.exit 0,⟨[(2,.ref 2 0 0),(3,.ref 3 0 0),(4,.ref 4 0 0),(6,.d (.int .i64 (posR b.l g.id)))],[(2,.row [.d (eBag b)]),(3,.row [.d (zaw v)]),zB 4]⟩):=by
 have hl:=ziZ (G:=G) (x:=zago) (ks:=[]) b.l.length (atB b.l fun x=>decide (¬x.id<g.id)) (fun k=>⟨[(2,.ref 2 0 0),(3,.ref 3 0 0),(4,.ref 4 0 0),(6,.d (.int .i64 k))],[(2,.row [.d (eBag b)]),(3,.row [.d (zaw v)]),zB 4]⟩) (fun k=>(.exit 0,⟨[(2,.ref 2 0 0),(3,.ref 3 0 0),(4,.ref 4 0 0),(6,.d (.int .i64 k))],[(2,.row [.d (eBag b)]),(3,.row [.d (zaw v)]),zB 4]⟩)) (.exit 0,⟨[(2,.ref 2 0 0),(3,.ref 3 0 0),(4,.ref 4 0 0),(6,.d (.int .i64 b.l.length))],[(2,.row [.d (eBag b)]),(3,.row [.d (zaw v)]),zB 4]⟩) (fun k hk L=>by
  simp only[zago]
  by_cases h0:k<b.l.length
  ·simp only[h0,if_true,zgH h0]
   by_cases h1:b.l[k].id<g.id
   ·simp only[h1,zabD,decide_false,zabz,if_false];simp only[eBag,zaw,hv,zbt,zabs,zabq,zB];have zk0:=zabg.eq_1;exact zS
   ·simp only[h1,zabV,decide_true,if_true];simp only[eBag,zaw,hv,zbt,zabs,zabq,zB];have zk0:=zabg.eq_1;exact zS
  ·have:k=b.l.length:=by omega
   simp only[h0,if_false,this];simp only[eBag,zaw,hv,zbt,zabs,zabq,zB];exact zS)
 rw[zj6] at hl;unfold posR;rw[zabQ] at hl;rw[hl]
 cases b.l.findIdx? (fun x=>decide (¬x.id<g.id))<;>rfl
theorem zamM(b:Bag)(v:Event)(he:v.err≠0):zi G 69 [.d (eBag b),.d (zaw v)] []=some (.d (.tup [eBag b,.bool (decide (v.err=3\/v.err=6))]),[]):=by
 simp only[eBag,zaw]
 by_cases h3:v.err=3
 ·rw[zabM (.inl h3)];exact zW
 ·by_cases h6:v.err=6
  ·rw[zabM (.inr h6)];exact zW
  ·rw[zabP zo];exact zW
theorem zamJ(b:Bag)(v:Event)(he:v.err=0)(hb:badS v):zi G 69 [.d (eBag b),.d (zaw v)] []=some (.d (.tup [eBag b,.bool false]),[]):=by
 simp only[eBag,zaw]
 rcases zagz hb with h|⟨_,hv⟩|⟨_,g,hv,hg⟩|⟨_,g,h,r,hv⟩
 ·exact absurd he h
 ·clear hb;simp only[hv,zabq];exact zW
 ·clear hb;simp only[hv,zabs,zabq,zbt];exact zW
 ·clear hb;simp only[hv,zabs];exact zW
theorem zamK(b:Bag)(v:Event)(g:Grant)(hL:b.l.length<=4294967296)(he:v.err=0)(hv:v.l=[g])(hg:g.gen=0)(i:Nat)(hx:bIx b.l g.id=i):zi G 69 [.d (eBag b),.d (zaw v)] []=some (.d (.tup [eBag b,.bool false]),[]):=by
 have hd:=zagt b g.id hL;simp only[hx] at hd;clear hx;simp only[eBag,zaw,hv,zbt,zabs,zabq] at hd ⊢;exact zW
theorem zamN(b:Bag)(v:Event)(g:Grant)(hL:b.l.length+1<=4294967296)(he:v.err=0)(hv:v.l=[g])(hg:g.gen=0)(hx:bIx b.l g.id= -1):zi G 69 [.d (eBag b),.d (zaw v)] []=some (.d (.tup [eBag ⟨b.limit,b.now,b.epoch,b.l.take (posR b.l g.id)++[⟨g.id,1,0,0,g.route,0⟩]++b.l.drop (posR b.l g.id)⟩,.bool true]),[]):=by
 have hd:=zagt b g.id zo;have hl:=zamL b v g hv zo;have hp:=zal1 b.l g.id;simp only[hx] at hd;clear hx;generalize posR b.l g.id=k at *;have h1:zas 6 (b.l.map zabg)=true:=zafc _;have h2:zas 6 ((b.l.map zabg).take k)=true:=by rw[<- zac7];exact zafc _
 have h3:zas 6 ((b.l.map zabg).drop k)=true:=by rw[<- zadO];exact zafc _
 simp only[eBag,zaw,hv,hg,he,zbt,zabs,zabq,zabF,zac7,zadO,zB,zabg] at hd hl ⊢;have zk0:=zabg.eq_1;exact zW
end Go.Proofs.YtcembpbhkcbnhaaGreat
