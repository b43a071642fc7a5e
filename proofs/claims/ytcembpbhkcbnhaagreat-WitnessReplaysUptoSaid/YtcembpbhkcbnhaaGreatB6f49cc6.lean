/-
  Stripes.
-/
import Derived.Test.YtcembpbhkcbnhaaGreatB3e4d643
import Derived.Test.YtcembpbhkcbnhaaGreatB54fbfdf
import Derived.Test.YtcembpbhkcbnhaaGreatB15a29b9
import Derived.Test.YtcembpbhkcbnhaaGreatB550ba6a
set_option linter.unusedSimpArgs false
set_option linter.unusedVariables false
set_option maxHeartbeats 10000000
set_option maxRecDepth 100000
namespace Go.Proofs.YtcembpbhkcbnhaaGreat
open Go Go.Sim
def zaeK(chg:Item->Grant->Option Item):List Grant->List Item->Bool×List Item
 | [],l=>(true,l)
 | g::gs,l=>
  if 0<=bIx l g.id then
   match chg (l.getD (bIx l g.id).toNat zabf) g with
   | none=>(false,l)
   | some y=>zaeK chg gs (l.set (bIx l g.id).toNat y)
  else (false,l)
def zafR(chg:Item->Grant->Option Item):Prop:=∀x g y,chg x g=some y->y.id=x.id
theorem zaiW{n a:Int}:zafR (zaeO n a):=by
 intro x g y h;unfold zaeO at h;split at h;cases h;cases h;rfl
theorem zaig{n a:Int}:zafR (zaeN n a):=by
 intro x g y h;unfold zaeN at h;split at h;cases h;cases h;rfl
theorem zaiX:zafR zaeI:=by
 intro x g y h;unfold zaeI at h;split at h;cases h;cases h;rfl
def zae0(n a e:Int)(v:Event)(t:Nat×List Item):St:=⟨[(2,.ref 2 0 0),(3,.ref 3 0 0),(4,.ref 4 0 0),(6,.d (.int .i64 t.1))],[(2,.row [.d (eBag ⟨n,a,e,t.2⟩)]),(3,.row [.d (zaw v)]),zB 4]⟩
def zae1(n a e:Int)(r:Bool×List Item):zX×St:=if r.1=true then (.exit 0,⟨[(2,.ref 2 0 0),(4,.ref 4 0 0)],[(2,.row [.d (eBag ⟨n,a,e,r.2⟩)]),zB 4]⟩) else (.ret,⟨[(4,.ref 4 0 0),(5,.d (.bool false))],[(4,.row [.d (eBag ⟨n,a,e,r.2⟩)])]⟩)
theorem zamE(n a e:Int)(hn:n<=1000)(v:Event)(hG:v.l.length<=4294967296)(hgs:∀g∈v.l,pG g)(M:Int)(hM:M+v.l.length<=4294967296):∀t:Nat×List Item,t.1<=v.l.length/\t.2.length<=4294967296/\(∀x∈t.2,pIk (M+t.1) x)->z6 G [] zae8 (zae0 n a e v t)=some (zae1 n a e (zaeK (zaeO n a) (v.l.drop t.1) t.2)):=by
 refine zaL (fun t=>v.l.length - t.1) (fun t=>t.1<=v.l.length/\t.2.length<=4294967296/\(∀x∈t.2,pIk (M+t.1) x)) (zae0 n a e v) (fun t=>some (zae1 n a e (zaeK (zaeO n a) (v.l.drop t.1) t.2))) ?_;rintro⟨k,l⟩ ⟨hk,hL,hP⟩ L ih;simp only at hk hL hP ⊢
 by_cases h0:k<v.l.length
 ·have hd:=zafl ⟨n,a,e,l⟩ v.l[k].id hL;rw[zabX h0];unfold zaeK
  by_cases h1:0<=bIx l v.l[k].id
  ·rw[zabo h1];obtain⟨i,hi⟩:∃i:Nat,bIx l v.l[k].id=i:=⟨(bIx l v.l[k].id).toNat,by omega⟩;obtain⟨h3, -⟩:=zafd hi;rw[zafp (b:=⟨n,a,e,l⟩) h3 hi] at hd;have hid:=zafH h3 hi;rw[hi];have hgd:l.getD i zabf=l[i]:=by simp [zab0,h3]
   rw[zab5,hgd];clear hgd;have hpx:=hP _ (zabC h3);have hpg:=hgs _ (zabC h0);have hkeep:=zagW (a:=a) hn (M+k) l[i] v.l[k];have hpx0:=hpx;obtain⟨q1,q2,q3,q4⟩:=hpx;obtain⟨q5,q6⟩:=hpg;have stop:zaeO n a l[i] v.l[k]=none->(exL G zae8 (zae0 n a e v (k,l))).bind (zc0 [] L)=some (zae1 n a e (false,l)):=by
    intro hno;clear ih hP hgs hkeep hpx0;unfold zaeO at hno
    by_cases c1:l[i].state=1
    ·by_cases c2:n<=l[i].count
     ·clear hno;simp only[zae0,zae1,zB,zae8,eBag,zabz,if_false,zabg] at hd ⊢;have zk0:=zbt.eq_1;exact zS
     ·by_cases c3:v.l[k].gen=l[i].gen+1
      ·by_cases c4:v.l[k].deadline<a
       ·clear hno;simp only[zae0,zae1,zB,zae8,eBag,zabz,if_false,zabg] at hd ⊢;have zk0:=zbt.eq_1;exact zS
       ·exfalso;rw[zabn (by simp only[c1,c2,c3,c4,ne_eq,zabD,or_self,zabV])] at hno
        cases hno
      ·clear hno
       by_cases c5:v.l[k].gen<=l[i].gen
       ·simp only[zae0,zae1,zB,zae8,eBag,zabz,if_false,zabg] at hd ⊢;have zk0:=zbt.eq_1;exact zS
       ·have c6:IntKind.i64.wrap (v.l[k].gen - 1)=v.l[k].gen - 1:=by rw[IntKind.wrap_i64];omega
        simp only[zae0,zae1,zB,zae8,eBag,zabz,if_false,zabg] at hd ⊢;have zk0:=zbt.eq_1;exact zS
    ·clear hno;simp only[zae0,zae1,zB,zae8,eBag,zabz,if_false,zabg] at hd ⊢;have zk0:=zbt.eq_1;exact zS
   cases hy:zaeO n a l[i] v.l[k] with
   | none=>exact stop hy
   | some y=>
    clear stop;have i1:=ih (k+1,l.set i y) ⟨by simp only;omega,by simp only[zacb];exact hL,fun x hx=>by rcases zac1 hx with hx|rfl;exact (hP x hx).mono (by simp only;omega);exact (hkeep _ hpx0 hy).mono (by simp only;omega)⟩ (by simp only;omega);have hs:=zafQ ⟨n,a,e,l⟩ y i h3 (by rw[zaiW _ _ _ hy,hid];exact hi) hL;clear ih hP hgs hkeep hpx0;unfold zaeO at hy
    split at hy
    ·cases hy
    rename_i hc;simp only[not_or,ne_eq,zabG] at hc;obtain⟨c1,c2,c3,c4⟩:=hc
    cases hy
    clear hi hid;rw[zae0] at i1;simp only at i1 hs ⊢;generalize zae1 n a e _=w at *;simp only[zae0,zB,zae8,eBag,zabg,zacb] at i1 hs hd ⊢;simp only[c3,zacw,zabg] at hs;simp only[zNr,srcO] at i1;simp only[c3,zabg] at i1;have zk0:=zbt.eq_1;exact zS
  ·rw[zabn h1];have hn2:bFD ⟨n,a,e,l⟩ v.l[k].id= .tup [zabg zabf,.bool false]:=by unfold bFD;rw[show bF l v.l[k].id=none from zaga zo]
   rw[hn2] at hd;clear ih hP hgs h1 hn2;simp only[zae0,zae1,zB,zae8,eBag,zabz,if_false,zabg,zabf] at hd ⊢;have zk0:=zbt.eq_1;exact zS
 ·clear ih;rw[zaeg zo];unfold zaeK;simp only[zae0,zae1,zB,zae8,if_true];exact zS
theorem zamG(b:Bag)(v:Event)(hb:pB b)(hv:pV v)(hk3:v.kind=3)(he:v.err=0):zi G 70 [.d (eBag b),.d (zaw v)] []=some (.d (.tup [eBag ⟨b.limit,b.now,b.epoch,(zaeK (zaeO b.limit b.now) v.l b.l).2⟩,.bool (zaeK (zaeO b.limit b.now) v.l b.l).1]),[]):=by
 have hl:=zamE b.limit b.now b.epoch hb.lim v hv.len (hv.gs hk3 he) 4294960000 (by have:=hv.le2;omega) (0,b.l) ⟨Nat.zero_le _,by have:=hb.len;simp only;omega,fun x hx=>(hb.its x hx).mono (by simp only;omega)⟩;simp only[zabZ] at hl;have h1:=hv.len;clear hb hv hk3;generalize zaeK (zaeO b.limit b.now) v.l b.l=r at *;obtain⟨q,z⟩:=r
 cases q
 ·simp only[zae0,zae1,zB,eBag,zaw,he,zabQ,zabz,if_false] at hl ⊢;exact zW
 ·simp only[zae0,zae1,zB,eBag,zaw,he,zabQ,if_true] at hl ⊢;exact zW
theorem zamF(b:Bag)(v:Event)(he:v.err≠0):zi G 70 [.d (eBag b),.d (zaw v)] []=some (.d (.tup [eBag b,.bool (decide (v.err=6))]),[]):=by
 simp only[eBag,zaw];exact zW
def rdS(s:Nat)(n a e:Int)(v:Event)(t:Nat×List Item):St:=⟨[(2,.ref 2 0 0),(3,.ref 3 0 0),(4,.ref 4 0 0),(s,.d (.int .i64 t.1))],[(2,.row [.d (eBag ⟨n,a,e,t.2⟩)]),(3,.row [.d (zaw v)]),zB 4]⟩
def rdR(i:Nat)(n a e:Int)(r:Bool×List Item):zX×St:=if r.1=true then (.exit i,⟨[(2,.ref 2 0 0),(4,.ref 4 0 0)],[(2,.row [.d (eBag ⟨n,a,e,r.2⟩)]),zB 4]⟩) else (.ret,⟨[(4,.ref 4 0 0),(5,.d (.bool false))],[(4,.row [.d (eBag ⟨n,a,e,r.2⟩)])]⟩)
theorem zamH(n a e:Int)(v:Event)(hG:v.l.length<=4294967296):∀t:Nat×List Item,t.1<=v.l.length/\t.2.length<=4294967296->z6 G [] zafi (rdS 9 n a e v t)=some (rdR 3 n a e (zaeK zaeI (v.l.drop t.1) t.2)):=by
 refine zaL (fun t=>v.l.length - t.1) (fun t=>t.1<=v.l.length/\t.2.length<=4294967296) (rdS 9 n a e v) (fun t=>some (rdR 3 n a e (zaeK zaeI (v.l.drop t.1) t.2))) ?_;rintro⟨k,l⟩ ⟨hk,hL⟩ L ih;simp only at hk hL ⊢
 by_cases h0:k<v.l.length
 ·have hd:=zafl ⟨n,a,e,l⟩ v.l[k].id hL;rw[zabX h0];unfold zaeK
  by_cases h1:0<=bIx l v.l[k].id
  ·rw[zabo h1];obtain⟨i,hi⟩:∃i:Nat,bIx l v.l[k].id=i:=⟨(bIx l v.l[k].id).toNat,by omega⟩;obtain⟨h3, -⟩:=zafd hi;rw[zafp (b:=⟨n,a,e,l⟩) h3 hi] at hd;have hid:=zafH h3 hi;rw[hi];have hgd:l.getD i zabf=l[i]:=by simp [zab0,h3]
   rw[zab5,hgd];clear hgd;have stop:zaeI l[i] v.l[k]=none->(exL G zafi (rdS 9 n a e v (k,l))).bind (zc0 [] L)=some (rdR 3 n a e (false,l)):=by
    intro hno;clear ih;unfold zaeI at hno
    by_cases c1:l[i].state=3
    ·by_cases c2:l[i].gen=v.l[k].gen
     ·simp_all
     ·clear hno;simp only[rdS,rdR,zB,zafi,eBag,zabz,if_false,zabg] at hd ⊢;have zk0:=zbt.eq_1;exact zS
    ·clear hno;simp only[rdS,rdR,zB,zafi,eBag,zabz,if_false,zabg] at hd ⊢;have zk0:=zbt.eq_1;exact zS
   cases hy:zaeI l[i] v.l[k] with
   | none=>exact stop hy
   | some y=>
    clear stop;have i1:=ih (k+1,l.set i y) ⟨by simp only;omega,by simp only[zacb];exact hL⟩ (by simp only;omega);have hs:=zafQ ⟨n,a,e,l⟩ y i h3 (by rw[zaiX _ _ _ hy,hid];exact hi) hL;clear ih;unfold zaeI at hy
    split at hy
    ·cases hy
    rename_i hc;simp only[not_or,ne_eq,zabG] at hc;obtain⟨c1,c2⟩:=hc
    cases hy
    clear hi hid;rw[rdS] at i1;simp only at i1 hs ⊢;generalize rdR 3 n a e _=w at *;simp only[rdS,zB,zafi,eBag,zabg,zacb] at i1 hs hd ⊢;simp only[c2,zacw,zabg] at hs hd;simp only[zNr,srcO] at i1;simp only[c2,zabg] at i1;have zk0:=zbt.eq_1;exact zS
  ·rw[zabn h1];have hn2:bFD ⟨n,a,e,l⟩ v.l[k].id= .tup [zabg zabf,.bool false]:=by unfold bFD;rw[show bF l v.l[k].id=none from zaga zo]
   rw[hn2] at hd;clear ih h1 hn2;simp only[rdS,rdR,zB,zafi,eBag,zabz,if_false,zabg,zabf] at hd ⊢;have zk0:=zbt.eq_1;exact zS
 ·clear ih;rw[zaeg zo];unfold zaeK;simp only[rdS,rdR,zB,zafi,if_true];exact zS
theorem zamx(n a e:Int)(v:Event)(hG:v.l.length<=4294967296):∀t:Nat×List Item,t.1<=v.l.length/\t.2.length<=4294967296->z6 G [] zafj (rdS 12 n a e v t)=some (rdR 5 n a e (zaeK (zaeN n a) (v.l.drop t.1) t.2)):=by
 refine zaL (fun t=>v.l.length - t.1) (fun t=>t.1<=v.l.length/\t.2.length<=4294967296) (rdS 12 n a e v) (fun t=>some (rdR 5 n a e (zaeK (zaeN n a) (v.l.drop t.1) t.2))) ?_;rintro⟨k,l⟩ ⟨hk,hL⟩ L ih;simp only at hk hL ⊢
 by_cases h0:k<v.l.length
 ·have hd:=zafl ⟨n,a,e,l⟩ v.l[k].id hL;rw[zabX h0];unfold zaeK
  by_cases h1:0<=bIx l v.l[k].id
  ·rw[zabo h1];obtain⟨i,hi⟩:∃i:Nat,bIx l v.l[k].id=i:=⟨(bIx l v.l[k].id).toNat,by omega⟩;obtain⟨h3, -⟩:=zafd hi;rw[zafp (b:=⟨n,a,e,l⟩) h3 hi] at hd;have hid:=zafH h3 hi;rw[hi];have hgd:l.getD i zabf=l[i]:=by simp [zab0,h3]
   rw[zab5,hgd];clear hgd;have stop:zaeN n a l[i] v.l[k]=none->(exL G zafj (rdS 12 n a e v (k,l))).bind (zc0 [] L)=some (rdR 5 n a e (false,l)):=by
    intro hno;clear ih;unfold zaeN at hno
    by_cases c1:l[i].state=2
    ·by_cases c2:a<l[i].deadline
     ·clear hno;simp only[rdS,rdR,zB,zafj,eBag,zabz,if_false,zabg] at hd ⊢;have zk0:=zbt.eq_1;exact zS
     simp_all
    ·clear hno;simp only[rdS,rdR,zB,zafj,eBag,zabz,if_false,zabg] at hd ⊢;have zk0:=zbt.eq_1;exact zS
   cases hy:zaeN n a l[i] v.l[k] with
   | none=>exact stop hy
   | some y=>
    clear stop;have i1:=ih (k+1,l.set i y) ⟨by simp only;omega,by simp only[zacb];exact hL⟩ (by simp only;omega);have hs:=zafQ ⟨n,a,e,l⟩ y i h3 (by rw[zaig _ _ _ hy,hid];exact hi) hL;clear ih;unfold zaeN at hy
    split at hy
    ·cases hy
    rename_i hc;simp only[not_or,ne_eq,zabG] at hc;obtain⟨c1,c2⟩:=hc
    cases hy
    have hr:=zai0 ⟨n,a,e,l⟩ l[i];simp only at hr;clear hi hid;rw[rdS] at i1;simp only at i1 hs ⊢;generalize relI n l[i]=y at *;generalize rdR 5 n a e _=w at *;simp only[rdS,zB,zafj,eBag,zabg,zacb] at i1 hs hd hr ⊢;simp only[zNr,srcO] at i1;simp only[zNr,srcO] at hs;simp only[zabg] at i1 hs;simp only[c1] at hr hd;have zk0:=zbt.eq_1;exact zS
  ·rw[zabn h1];have hn2:bFD ⟨n,a,e,l⟩ v.l[k].id= .tup [zabg zabf,.bool false]:=by unfold bFD;rw[show bF l v.l[k].id=none from zaga zo]
   rw[hn2] at hd;clear ih h1 hn2;simp only[rdS,rdR,zB,zafj,eBag,zabz,if_false,zabg,zabf] at hd ⊢;have zk0:=zbt.eq_1;exact zS
 ·clear ih;rw[zaeg zo];unfold zaeK;simp only[rdS,rdR,zB,zafj,if_true];exact zS
def rpS(n a e:Int)(l:List Item)(k:Nat):St:=⟨[(2,.ref 2 0 0),(4,.ref 4 0 0),(6,.d (.int .i64 k))],[(2,.row [.agg [.d (.int .i64 n),.d (.int .i64 a),.d (.int .i64 e),.osl 85 0 l.length]]),zB 4,(85,.row (((zaeL l k).map zabg).map .d))]⟩
theorem zamC(n a e:Int)(l:List Item)(hL:l.length<=4294967296):∀i,i<=l.length->z6 G [] zafZ (rpS n a e l i)=some (.exit 1,⟨[(2,.ref 2 0 0),(4,.ref 4 0 0)],[(2,.row [.agg [.d (.int .i64 n),.d (.int .i64 a),.d (.int .i64 e),.osl 85 0 l.length]]),zB 4,(85,.row (((zaeL l l.length).map zabg).map .d))]⟩):=by
 refine zaL (fun i=>l.length - i) (fun i=>i<=l.length) (rpS n a e l) _ fun i hi L ih=> ?_;have hl:=zagK l i
 by_cases h0:i<l.length
 ·have i1:=ih (i+1) zo zo;clear ih;obtain⟨h2,h3⟩:=zaix l h0;rw[rpS,zaiy l h0,zacw] at i1;simp only[rpS,zB,zafZ];rw[<- h3] at i1;generalize zaeL l i=w at *;generalize zaeL l l.length=z at *;have hs:∀X,(((w.map zabg).set i X).map AV.d)[i]? = some (.d X):=by intro X;rw[zabI,List.getElem?_set_self (by rw[zabE];exact h2)];rfl
  rw[h3] at i1;simp only[zaeV] at i1;simp only[zabg,zB] at i1;simp only[zNr,srcO] at i1;simp -implicitDefEqProofs (maxSteps:=4000000) (disch:=omega) only[hs,List.set_set,zh,go_sem, *]
 ·clear ih;have:i=l.length:=by omega
  subst this;simp only[rpS,zB,zafZ];generalize zaeL l l.length=z at *;exact zS
def zaeQ(v:Event):Prop:=v.kind=1\/v.kind=7\/(v.kind=2/\v.err=6)\/((v.kind=4\/v.kind=5\/v.kind=6)/\v.l.length=0)
instance (v:Event):Decidable (zaeQ v):=by unfold zaeQ;exact inferInstance
theorem zalP(b:Bag)(v:Event):(!zaeR b v)=(decide (zaeQ v)||(decide (v.epoch=b.epoch)&&(decide (v.kind=8)||decide (v.now=b.now)))):=by
 have tm:tmF v=if zaeQ v then (false,false) else (true,decide (v.kind≠8)):=by
  unfold tmF
  by_cases k1:v.kind=1\/v.kind=7
  ·rw[zabo k1,zabo (show zaeQ v by unfold zaeQ;omega)]
  rw[zabn k1]
  by_cases k2:v.kind=2
  ·rw[zabo k2]
   by_cases e:v.err=6
   ·rw[zabo e,zabo (show zaeQ v by unfold zaeQ;omega)]
   ·rw[zabn e,zabn (show ¬zaeQ v by unfold zaeQ;omega),zabM zo]
  rw[zabn k2]
  by_cases k4:v.kind=4\/v.kind=5\/v.kind=6
  ·rw[zabo k4]
   by_cases e:v.l.length=0
   ·rw[zabo e,zabo (show zaeQ v by unfold zaeQ;omega)]
   ·rw[zabn e,zabn (show ¬zaeQ v by unfold zaeQ;omega),zabM zo]
  ·rw[zabn k4,zabn (show ¬zaeQ v by unfold zaeQ;omega)]
 unfold zaeR;rw[tm]
 by_cases hf:zaeQ v
 ·simp [hf]
 ·by_cases c1:v.epoch=b.epoch<;>by_cases c2:v.now=b.now<;>by_cases c8:v.kind=8<;>simp [hf,c1,c2,c8]
theorem zai3(b:Bag)(v:Event)(hL:v.l.length<=4294967296):zi G 40 [.d (eBag b),.d (zaw v)] []=some (.d (.bool (!zaeR b v)),[]):=by
 rw[zalP]
 by_cases hf:zaeQ v
 ·rw[zabM hf,zadk];unfold zaeQ at hf;simp only[eBag,zaw]
  rcases hf with h|h|⟨h,h2⟩|⟨h|h|h,h2⟩
  ·exact zW
  ·exact zW
  ·exact zW
  ·exact zW
  ·exact zW
  ·exact zW
 ·rw[zabP hf,zacH];have cs:¬v.kind=1/\¬v.kind=7/\((v.kind=2/\¬v.err=6)\/(v.kind=4/\¬(v.l.length:Int)=0)\/(v.kind=5/\¬(v.l.length:Int)=0)\/(v.kind=6/\¬(v.l.length:Int)=0)\/(¬v.kind=2/\¬v.kind=4/\¬v.kind=5/\¬v.kind=6)):=by
   unfold zaeQ at hf;omega
  clear hf;obtain⟨g1,g7,cs⟩:=cs
  by_cases c1:v.epoch=b.epoch
  ·rw[zabM c1,zacA];replace c1:=zabA c1
   by_cases c8:v.kind=8
   ·rw[zabM c8,zadk];clear cs;simp only[eBag,zaw];exact zW
   ·rw[zabP c8,zacH]
    by_cases c2:v.now=b.now
    ·rw[zabM c2];replace c2:=zabA c2;simp only[eBag,zaw]
     rcases cs with ⟨q1,q2⟩|⟨q1,q2⟩|⟨q1,q2⟩|⟨q1,q2⟩|⟨q1,q2,q3,q4⟩
     all_goals (exact zW)
    ·rw[zabP c2];simp only[eBag,zaw]
     rcases cs with ⟨q1,q2⟩|⟨q1,q2⟩|⟨q1,q2⟩|⟨q1,q2⟩|⟨q1,q2,q3,q4⟩
     all_goals (exact zW)
  ·rw[zabP c1,zacd];simp only[eBag,zaw]
   rcases cs with ⟨q1,q2⟩|⟨q1,q2⟩|⟨q1,q2⟩|⟨q1,q2⟩|⟨q1,q2,q3,q4⟩
   all_goals (exact zW)
def zaeT(b:Bag)(v:Event):Bag×Bool:=
 if v.kind=1 then (if v.err≠0\/v.now<b.now then (b,false) else (⟨b.limit,v.now,b.epoch,b.l⟩,true))
 else if v.kind=7 then (if v.err≠0 then (b,decide (v.err=6)) else if v.epoch=b.epoch+1 then (⟨b.limit,b.now,v.epoch,b.l.map zaeV⟩,true) else (b,false))
 else if v.kind=8 then (b,decide (v.err=0/\v.ready=cntS 1 b.l/\v.leased=cntS 2 b.l))
 else if v.kind=9 then (if v.err≠0 then (b,decide (v.err=3)) else (⟨b.limit,b.now,b.epoch,(zaeK zaeI v.l b.l).2⟩,(zaeK zaeI v.l b.l).1))
 else (if v.err≠0 then (b,false) else (⟨b.limit,b.now,b.epoch,(zaeK (zaeN b.limit b.now) v.l b.l).2⟩,(zaeK (zaeN b.limit b.now) v.l b.l).1))
theorem zam2(b:Bag)(v:Event)(hk:v.kind=1):zi G 41 [.d (eBag b),.d (zaw v)] []=some (.d (.tup [eBag (zaeT b v).1,.bool (zaeT b v).2]),[]):=by
 unfold zaeT;rw[zabo hk]
 by_cases h:v.err≠0\/v.now<b.now
 ·rw[zabo h];simp only[eBag,zaw]
  by_cases h1:v.err=0
  ·have h2:v.now<b.now:=by omega
   clear h;exact zW
  ·clear h;exact zW
 ·rw[zabn h];simp only[not_or,zabG] at h;obtain⟨h1,h2⟩:=h;simp only[eBag,zaw];exact zW
theorem zam0(b:Bag)(v:Event)(hk:v.kind=7)(hb:pB b)(hv:pV v):zi G 41 [.d (eBag b),.d (zaw v)] []=some (.d (.tup [eBag (zaeT b v).1,.bool (zaeT b v).2]),[]):=by
 have e1:=hb.ep0;have e2:=hb.ep1;have e3:=hv.ep hk;have hL:=hb.len;clear hb hv;unfold zaeT;rw[zabn zo,zabo hk]
 by_cases h:v.err=0
 ·obtain⟨e4,e5⟩:=e3 h;clear e3;rw[zabn (by simpa using h)]
  by_cases hp:v.epoch=b.epoch+1
  ·rw[zabo hp]
   by_cases h0:b.l=[]
   ·simp only[eBag,zaw,h0,zabq];rw[zI zagi (by simp)];simp -implicitDefEqProofs (maxSteps:=4000000) (disch:=omega) only[zafT,zaC,zafZ,zh,go_sem, *]
   ·have hl:=zamC b.limit b.now (b.epoch+1) b.l zo 0 zo;rw[show zaeL b.l b.l.length=b.l.map zaeV by simp [zaeL]] at hl;have hne:¬b.l.length=0:=by rw[zacc];exact h0
    simp only[rpS,show zaeL b.l 0=b.l by simp [zaeL],zB,zabQ] at hl;clear h0;have hz:(b.l.map zaeV).length=b.l.length:=zabE _;generalize b.l.map zaeV=z at *;simp only[eBag,zaw] at hl ⊢;rw[zI zagi (by simp)];simp -implicitDefEqProofs (maxSteps:=4000000) (disch:=omega) only[zafT,zafc,zh,go_sem, *]
  ·rw[zabn hp]
   by_cases c5:v.epoch<=b.epoch
   ·simp only[eBag,zaw];rw[zI zagi (by simp)];simp -implicitDefEqProofs (maxSteps:=4000000) (disch:=omega) only[zafT,zh,go_sem, *]
   ·have c6:IntKind.i64.wrap (v.epoch - 1)=v.epoch - 1:=by rw[IntKind.wrap_i64];omega
    simp only[eBag,zaw];rw[zI zagi (by simp)];exact zS
 ·rw[zabo h];simp only[eBag,zaw];exact zW
theorem zamX(b:Bag)(v:Event)(hk:v.kind=8)(hb:pB b):zi G 41 [.d (eBag b),.d (zaw v)] []=some (.d (.tup [eBag (zaeT b v).1,.bool (zaeT b v).2]),[]):=by
 have hc:=zamb b (by have:=hb.len;omega);clear hb;unfold zaeT;rw[zabn zo,zabn zo,zabo hk];generalize cntS 1 b.l=c1 at *;generalize cntS 2 b.l=c2 at *;simp only[zaw,hk,eBag] at hc ⊢
 by_cases h1:v.err=0
 ·by_cases h2:v.ready=c1
  ·by_cases h3:v.leased=c2
   ·rw[zabM ⟨h1,h2,h3⟩];exact zW
   ·rw[zabP fun h=>h3 h.2.2];exact zW
  ·rw[zabP fun h=>h2 h.2.1];exact zW
 ·rw[zabP fun h=>h1 h.1];exact zW
theorem zam1(b:Bag)(v:Event)(hk:v.kind=9)(hb:pB b)(hv:pV v):zi G 41 [.d (eBag b),.d (zaw v)] []=some (.d (.tup [eBag (zaeT b v).1,.bool (zaeT b v).2]),[]):=by
 have hl:=zamH b.limit b.now b.epoch v hv.len (0,b.l) ⟨Nat.zero_le _,by have:=hb.len;simp only;omega⟩;simp only[zabZ] at hl;have hL:=hv.len;clear hb hv;unfold zaeT;rw[zabn zo,zabn zo,zabn zo,zabo hk]
 by_cases h:v.err=0
 ·rw[zabn (by simpa using h)];generalize zaeK zaeI v.l b.l=r at *;obtain⟨q,z⟩:=r
  cases q
  ·simp only[rdS,rdR,zB,eBag,zaw,h,hk,zabQ,zabz,if_false] at hl ⊢;exact zW
  ·simp only[rdS,rdR,zB,eBag,zaw,h,hk,zabQ,if_true] at hl ⊢;exact zW
 ·rw[zabo h];clear hl;simp only[eBag,zaw];exact zW
theorem zamZ(b:Bag)(v:Event)(hk:v.kind=10)(hb:pB b)(hv:pV v):zi G 41 [.d (eBag b),.d (zaw v)] []=some (.d (.tup [eBag (zaeT b v).1,.bool (zaeT b v).2]),[]):=by
 have hl:=zamx b.limit b.now b.epoch v hv.len (0,b.l) ⟨Nat.zero_le _,by have:=hb.len;simp only;omega⟩;simp only[zabZ] at hl;have hL:=hv.len;clear hb hv;unfold zaeT;rw[zabn zo,zabn zo,zabn zo,zabn zo]
 by_cases h:v.err=0
 ·rw[zabn (by simpa using h)];generalize zaeK (zaeN b.limit b.now) v.l b.l=r at *;obtain⟨q,z⟩:=r
  cases q
  ·simp only[rdS,rdR,zB,eBag,zaw,h,hk,zabQ,zabz,if_false] at hl ⊢;exact zW
  ·simp only[rdS,rdR,zB,eBag,zaw,h,hk,zabQ,if_true] at hl ⊢;exact zW
 ·rw[zabo h];clear hl;simp only[eBag,zaw];exact zW
def Once(chg:Item->Grant->Option Item):Prop:=∀x g y g',chg x g=some y->chg y g'=none
theorem zamn{n a:Int}:Once (zaeO n a):=by
 intro x g y g' h;unfold zaeO at h;split at h;cases h;cases h;rfl
theorem zajZ{n a:Int}:Once (zaeN n a):=by
 intro x g y g' h;unfold zaeN at h;split at h;cases h;cases h;unfold zaeN relI at *; exact zF
theorem zamr:Once zaeI:=by
 intro x g y g' h;unfold zaeI at h;split at h;cases h;cases h;rfl
theorem zajN{chg:Item->Grant->Option Item}(h1:zafR chg)(h2:Once chg):∀(gs:List Grant) (seen:List Int) (l:List Item),(∀id∈seen,∀i:Nat,∀hi:i<l.length,bIx l id=i->∀g',chg l[i] g'=none)->
    if (zaeG chg seen gs l).1=2 then zaeK chg gs l=(true,(zaeG chg seen gs l).2) else (zaeK chg gs l).1=false:=by
 intro gs
 induction gs with
 | nil=>intro seen l _;rfl
 | cons g gs ih=>
  intro seen l hs;unfold zaeG zaeK
  by_cases hx:0<=bIx l g.id
  ·rw[zabo hx];obtain⟨i,hi⟩:∃i:Nat,bIx l g.id=i:=⟨(bIx l g.id).toNat,by omega⟩;obtain⟨h3, -⟩:=zafd hi;have hgd:l.getD (bIx l g.id).toNat zabf=l[i]:=by rw[hi,zab5];simp [zab0,h3]
   by_cases hm:g.id∈seen
   ·grind
   ·rw[dif_pos ⟨hx,hm⟩,hgd]
    cases hy:chg l[i] g with
    | none=>rfl
    | some y=>
     simp only;rw[hi,zab5];refine ih _ _ fun id hid j hj hji g'=> ?_;have hyid:y.id=l[i].id:=h1 _ _ _ hy;rw[zajf h3 hyid] at hji
     rcases zabS.1 hid with hid|hid
     ·grind
     ·rw[zab1] at hid;subst hid;obtain rfl:i=j:=by omega
      rw[List.getElem_set_self];exact h2 _ _ _ _ hy
  grind
theorem zagH{chg:Item->Grant->Option Item}(h1:zafR chg)(h2:Once chg)(b:Bag)(gs:List Grant):match zae5 b chg gs with
    | some c=>zaeK chg gs b.l=(true,c.l)/\c=⟨b.limit,b.now,b.epoch,c.l⟩
    | none=>(zaeK chg gs b.l).1=false:=by
 have h:=zajN h1 h2 gs [] b.l (fun id hid=>by cases hid);unfold zae5
 grind
theorem zal2{l:List Item}{id:Int}(h:∀x∈l,x.id≠id):posR l id=posI l id:=by
 have e:l.findIdx? (fun x=>decide (¬x.id<id))=l.findIdx? (fun x=>decide (id<x.id)):=by
  induction l with
  | nil=>rfl
  | cons x l ih=>
   grind
 unfold posR posI zbP
 grind
theorem zafy(b:Bag)(v:Event)(f:Nat)(b':Bag)(q:Bool)(hk:v.kind=2/\f=69\/v.kind=3/\f=70\/(v.kind=4\/v.kind=5\/v.kind=6)/\f=71)(h:zi G f [.d (eBag b),.d (zaw v)] []=some (.d (.tup [eBag b',.bool q]),[])):zi G 41 [.d (eBag b),.d (zaw v)] []=some (.d (.tup [eBag b',.bool q]),[]):=by
 rcases hk with ⟨hk,rfl⟩|⟨hk,rfl⟩|⟨hk|hk|hk,rfl⟩
 all_goals
  simp only[eBag,zaw,hk] at h ⊢;exact zW
theorem zamf(b:Bag)(v:Event)(hk:¬(1<=v.kind/\v.kind<=10)):zi G 20 [.d (eBag b),.d (zaw v)] []=some (.d (.tup [eBag zBag,.int .i64 9]),[]):=by
 simp only[eBag,zBag,zaw,zabq]
 by_cases h1:v.kind<1
 ·clear hk;exact zW
 ·have h2:10<v.kind:=by omega
  clear hk;exact zW
theorem zamg(b:Bag)(v:Event)(hk:1<=v.kind/\v.kind<=10)(hL:v.l.length<=4294967296)(hl:zaeR b v=true):zi G 20 [.d (eBag b),.d (zaw v)] []=some (.d (.tup [eBag zBag,.int .i64 7]),[]):=by
 have ht:=zai3 b v hL;rw[hl] at ht;obtain⟨h1,h2⟩:=hk;clear hl;simp only[eBag,zBag,zaw,zabq,zad3] at ht ⊢;exact zW
theorem zame(b:Bag)(v:Event)(hk:1<=v.kind/\v.kind<=10)(hL:v.l.length<=4294967296)(hl:zaeR b v=false)(b':Bag)(q:Bool)(h:zi G 41 [.d (eBag b),.d (zaw v)] []=some (.d (.tup [eBag b',.bool q]),[])):zi G 20 [.d (eBag b),.d (zaw v)] []=some (.d (.tup [eBag (if q=true then b' else zBag),.int .i64 (if q=true then 0 else 7)]),[]):=by
 have ht:=zai3 b v hL;rw[hl] at ht;obtain⟨h1,h2⟩:=hk;clear hl
 cases q
 ·simp only[eBag,zBag,zaw,zabq,zad4,zabz,if_false] at ht h ⊢;exact zW
 ·simp only[eBag,zBag,zaw,zabq,zad4,if_true] at ht h ⊢;exact zW
theorem zamW(b:Bag)(v:Event)(hk:1<=v.kind/\v.kind<=10)(hb:pB b)(hv:pV v):∃b' q,zi G 41 [.d (eBag b),.d (zaw v)] []=some (.d (.tup [eBag b',.bool q]),[])/\(match zaeS b v with|some c=>q=true/\b'=c|none=>q=false):=by
 have hL:b.l.length<=4294967296:=by have:=hb.len;omega
 by_cases k1:v.kind=1
 ·refine⟨_,_,zam2 b v k1,?_⟩;unfold zaeS zaeT
  grind
 by_cases k2:v.kind=2
 ·unfold zaeS;rw[zabn k1,zabo k2];unfold zaf6
  by_cases he:v.err=0
  ·rw[zabn zo,zabn (by simpa using he)];have bad:badS v->∃b' q,zi G 41 [.d (eBag b),.d (zaw v)] []=some (.d (.tup [eBag b',.bool q]),[])/\q=false:=fun hb=>⟨b,false,zafy b v _ _ _ (.inl ⟨k2,rfl⟩) (zamJ b v he hb),rfl⟩
   rcases hvl:v.l with _|⟨g,_|⟨g',r⟩⟩
   ·exact bad (.inr (by rintro⟨g,hg,_⟩;rw[hvl] at hg;cases hg))
   ·simp only
    by_cases hg:g.gen=0
    ·rw[zabn (by simpa using hg)]
     by_cases hx:0<=bIx b.l g.id
     ·rw[zabo hx];obtain⟨i,hi⟩:∃i:Nat,bIx b.l g.id=i:=⟨(bIx b.l g.id).toNat,by omega⟩;exact⟨b,false,zafy b v _ _ _ (.inl ⟨k2,rfl⟩) (zamK b v g hL he hvl hg i hi),rfl⟩
     ·rw[zabn hx];have hxn:bIx b.l g.id= -1:=(zagN b.l _).1 (by unfold bIx at hx;omega);refine⟨_,true,zafy b v _ _ _ (.inl ⟨k2,rfl⟩) (zamN b v g hb.len he hvl hg hxn),rfl,?_⟩;rw[zal2 fun x hx' e=> ?_]
      ·rfl
      ·have:=(zse b.l fun x=>decide (x.id=g.id)).1 (by unfold bIx at hxn;omega) x hx';simp [e] at this
    ·rw[zabo hg];exact bad (.inr (by rintro⟨g',hg',h2⟩;rw[hvl] at hg';cases hg';exact hg h2))
   ·exact bad (.inr (by rintro⟨g,hg,_⟩;rw[hvl] at hg;cases hg))
  ·refine⟨b,_,zafy b v _ _ _ (.inl ⟨k2,rfl⟩) (zamM b v he),?_⟩
   grind
 by_cases k3:v.kind=3
 ·unfold zaeS;rw[zabn k1,zabn k2,zabo k3]
  by_cases he:v.err=0
  ·rw[zabo he];refine⟨_,_,zafy b v _ _ _ (.inr (.inl ⟨k3,rfl⟩)) (zamG b v hb hv k3 he),?_⟩;have h:=zagH (zaiW (n:=b.limit) (a:=b.now)) zamn b v.l
   grind
  ·rw[zabn he];refine⟨b,_,zafy b v _ _ _ (.inr (.inl ⟨k3,rfl⟩)) (zamF b v he),?_⟩
   grind
 by_cases k4:v.kind=4\/v.kind=5\/v.kind=6
 ·unfold zaeS;rw[zabn k1,zabn k2,zabn k3,zabo k4];have sub:=fun b' q h=>zafy b v 71 b' q (.inr (.inr ⟨k4,rfl⟩)) h;unfold zaf7
  rcases hvl:v.l with _|⟨g,_|⟨g',r⟩⟩
  ·refine⟨b,_,sub _ _ (zamV b v hvl),?_⟩
   grind
  ·simp only
   by_cases hg:bVal b g=true
   ·rw[zabo hg];obtain⟨i,hi,hx,hgd⟩:=zagy hg
    by_cases he:v.err=0
    ·rw[zabn (by simpa using he)];unfold setI;rw[hgd,hx,zab5]
     by_cases kk4:v.kind=4
     ·rw[zabo kk4];exact⟨_,true,sub _ _ (zamO b v g i hi hL hvl hg he hx kk4),rfl,rfl⟩
     rw[zabn kk4]
     by_cases kk5:v.kind=5
     ·rw[zabo kk5];exact⟨_,true,sub _ _ (zamU b v g i hi hL hvl hg he hx kk5),rfl,rfl⟩
     rw[zabn kk5]
     by_cases hd:b.now<=g.deadline
     ·rw[zabo hd];exact⟨_,true,sub _ _ (zamP b v g i hi hL hvl hg he hx zo hd),rfl,rfl⟩
     ·rw[zabn hd];exact⟨_,false,sub _ _ (zamQ b v g i hi hL hvl hg he hx zo hd),rfl⟩
    ·rw[zabo he];refine⟨b,_,sub _ _ (zamR b v g hL hvl hg he),?_⟩
     grind
   ·rw[zabn hg];refine⟨b,_,sub _ _ (zamS b v g hL hvl (by simpa using hg)),?_⟩
    grind
  ·exact⟨b,false,sub _ _ (zamT b v g g' r hvl),rfl⟩
 by_cases k7:v.kind=7
 ·refine⟨_,_,zam0 b v k7 hb hv,?_⟩;unfold zaeS zaeT
  grind
 by_cases k8:v.kind=8
 ·refine⟨_,_,zamX b v k8 hb,?_⟩;unfold zaeS zaeT
  grind
 by_cases k9:v.kind=9
 ·refine⟨_,_,zam1 b v k9 hb hv,?_⟩;unfold zaeS zaeT;rw[zabn k1,zabn k1,zabn k2,zabn k3,zabn k4,zabn k7,zabn k7,zabn k8,zabn k8,zabo k9,zabo k9]
  by_cases he:v.err=0
  ·rw[zabo he,zabn (by simpa using he)];have h:=zagH zaiX zamr b v.l
   grind
  grind
 refine⟨_,_,zamZ b v zo hb hv,?_⟩;unfold zaeS zaeT;rw[zabn k1,zabn k1,zabn k2,zabn k3,zabn k4,zabn k7,zabn k7,zabn k8,zabn k8,zabn k9,zabn k9]
 by_cases he:v.err=0
 ·rw[zabo he,zabn (by simpa using he)];have h:=zagH (zaig (n:=b.limit) (a:=b.now)) zajZ b v.l
  grind
 ·rw[zabn he,zabo he]
theorem zama(b:Bag)(v:Event)(hb:pB b)(hv:pV v):zi G 20 [.d (eBag b),.d (zaw v)] []=some (.d (.tup [eBag (zaeP b v).1,.int .i64 (zaeP b v).2]),[]):=by
 unfold zaeP
 by_cases hk:1<=v.kind/\v.kind<=10
 ·rw[zabn (by simpa using hk)]
  by_cases hl:zaeR b v=true
  ·rw[zabo hl];exact zamg b v hk hv.len hl
  ·rw[zabn hl];obtain⟨b',q,h1,h2⟩:=zamW b v hk hb hv;rw[zame b v hk hv.len (by simpa using hl) b' q h1]
   grind
 ·rw[zabo hk];exact zamf b v hk
structure RI where
 st:Int
 count:Int
 gen:Int
 route:Int
 dl:Int
 ep:Int
 deriving DecidableEq
def nowF(c:Int)(l:List Event):Int:=l.foldl (fun n e=>if e.kind=1 then e.now else n) c
def epF(c:Int)(l:List Event):Int:=l.foldl (fun n e=>if e.kind=7/\e.err=0 then e.epoch else n) c
def actK(k:Int):Prop:=k=2\/(3<=k/\k<=6)\/k=9\/k=10
instance (k:Int):Decidable (actK k):=by unfold actK;infer_instance
def hit(i:Int)(e:Event):Bool:=decide (e.err=0/\actK e.kind)&&e.l.any fun g=>decide (g.id=i)
def zak7(l:List Grant)(i:Int):Option Grant:=l.find? fun g=>decide (g.id=i)
def gOf(e:Event)(i:Int):Grant:=(zak7 e.l i).getD zabe
def relR(lim:Int)(x:RI):RI:={ x with st:=if x.count>=lim then 3 else 1,dl:=0 }
def okG(x:RI)(g:Grant)(now:Int):Prop:=x.st=2/\x.gen=g.gen/\x.route=g.route/\now<x.dl
instance (x:RI) (g:Grant) (now:Int):Decidable (okG x g now):=by unfold okG;infer_instance
def zafx(lim:Int)(e:Event)(g:Grant):Option RI->Option RI
 | none=>if e.kind=2/\g.gen=0 then some ⟨1,0,0,g.route,0,e.epoch⟩ else none
 | some x=>
  if x.ep≠e.epoch then none
  else if e.kind=3 then (if x.st=1/\x.count<lim/\g.gen=x.gen+1/\e.now<=g.deadline then some ⟨2,x.count+1,g.gen,g.route,g.deadline,x.ep⟩ else none)
  else if 4<=e.kind/\e.kind<=6 then
   (if okG x g e.now then (if e.kind=4 then some { x with st:=4,dl:=0 } else if e.kind=5 then some (relR lim x) else if e.now<=g.deadline then some { x with dl:=g.deadline } else none) else none)
  else if e.kind=9 then (if x.st=3/\x.gen=g.gen then some { x with st:=1,count:=0,route:=g.route } else none)
  else if e.kind=10 then (if x.st=2/\x.dl<=e.now then some (relR lim x) else none)
  else none
theorem zai1(lim:Int)(e:Event)(g:Grant):zafx lim e g none=if e.kind=2/\g.gen=0 then some ⟨1,0,0,g.route,0,e.epoch⟩ else none:=rfl
theorem zai2(lim:Int)(e:Event)(g:Grant)(x:RI):zafx lim e g (some x)=if x.ep≠e.epoch then none
    else if e.kind=3 then (if x.st=1/\x.count<lim/\g.gen=x.gen+1/\e.now<=g.deadline then some ⟨2,x.count+1,g.gen,g.route,g.deadline,x.ep⟩ else none)
    else if 4<=e.kind/\e.kind<=6 then
     (if okG x g e.now then (if e.kind=4 then some { x with st:=4,dl:=0 } else if e.kind=5 then some (relR lim x) else if e.now<=g.deadline then some { x with dl:=g.deadline } else none) else none)
    else if e.kind=9 then (if x.st=3/\x.gen=g.gen then some { x with st:=1,count:=0,route:=g.route } else none)
    else if e.kind=10 then (if x.st=2/\x.dl<=e.now then some (relR lim x) else none)
    else none:=rfl
def rawS(lim i:Int)(r:Option RI)(e:Event):Option RI:=if hit i e=true then zafx lim e (gOf e i) r else r
def rawF(lim i:Int)(l:List Event):Option RI:=l.foldl (rawS lim i) none
def zaiF(ep i:Int)(r:RI):Item:=if r.ep<ep then ⟨i,4,r.count,r.gen,r.route,0⟩ else ⟨i,r.st,r.count,r.gen,r.route,r.dl⟩
def vlR(r:Option RI)(g:Grant)(now ep:Int):Prop:=∃x,r=some x/\okG x g now/\ep<=x.ep
theorem zaiQ(c:Int)(P:List Event)(e:Event):nowF c (P++[e])=if e.kind=1 then e.now else nowF c P:=by simp [nowF,List.foldl_append]
theorem zafF(c:Int)(P:List Event)(e:Event):epF c (P++[e])=if e.kind=7/\e.err=0 then e.epoch else epF c P:=by simp [epF,List.foldl_append]
theorem zagu(lim i:Int)(P:List Event)(e:Event):rawF lim i (P++[e])=rawS lim i (rawF lim i P) e:=by simp [rawF,List.foldl_append]
theorem zaiV{lim i:Int}{e:Event}(h:hit i e=false)(r:Option RI):rawS lim i r e=r:=by unfold rawS;rw[h];rfl
def ascI(l:List Item):Prop:=l.Pairwise fun x y=>x.id<y.id
theorem zm7{l:List Item}(h:ascI l)(id:Int):(∀k (hk:k<l.length),k<posI l id->l[k].id<=id)/\∀k (hk:k<l.length),posI l id<=k->id<l[k].id:=by
 unfold posI
 by_cases c:zbP (fun x=>decide (id<x.id)) l<0
 ·rw[zabo c];have:=(zse l _).1 c;refine⟨fun k hk _=> ?_,fun k hk h=>absurd hk zo⟩;have:=of_decide_eq_false (this _ (zabC hk));omega
 ·rw[zabn c];obtain⟨n,hn⟩:=Int.eq_ofNat_of_zero_le (zadB.1 c);rw[hn,zab5];obtain⟨hl,h1,h2⟩:=zagO hn;have h1:=of_decide_eq_true h1;refine⟨fun k hk hkn=> ?_,fun k hk hnk=> ?_⟩
  ·have:=of_decide_eq_false (h2 k hkn);omega
  ·by_cases e:n=k
   ·subst e;exact h1
   ·have:=zacu.1 h n k hl hk zo;omega
structure Rep(u:Setup)(P:List Event)(b:Bag):Prop where
 lim:b.limit=u.limit
 now:b.now=nowF u.clock P
 ep:b.epoch=epF u.epoch P
 asc:ascI b.l
 it:∀i,bF b.l i=(rawF u.limit i P).map (zaiF (epF u.epoch P) i)
 le:∀i x,rawF u.limit i P=some x->x.ep<=epF u.epoch P
structure EvOK(u:Setup)(P:List Event)(e:Event):Prop where
 kd:1<=e.kind/\e.kind<=10
 tick:e.kind=1->e.err=0/\nowF u.clock P<=e.now
 tm1:(tmF e).1=true->e.epoch=epF u.epoch P
 tm2:(tmF e).2=true->e.now=nowF u.clock P
 hits:∀i,hit i e=true->(zafx u.limit e (gOf e i) (rawF u.limit i P)).isSome=true
 nd:e.err=0->actK e.kind->(e.l.map (·.id)).Nodup
 send:e.kind=2->e.err=3\/e.err=6\/e.err=0/\∃g,e.l=[g]
 recv:e.kind=3->e.err=0\/e.err=6
 setl:4<=e.kind/\e.kind<=6->e.err=5/\e.l=[]\/∃g,e.l=[g]/\(e.err=0\/e.err=5/\¬vlR (rawF u.limit g.id P) g e.now e.epoch\/e.err=6/\e.kind=6/\vlR (rawF u.limit g.id P) g e.now e.epoch)
 purge:e.kind=7->e.err=6\/e.err=0/\e.epoch=epF u.epoch P+1
 cnt:e.kind=8->e.err=0/\∀b,Rep u P b->e.ready=cntS 1 b.l/\e.leased=cntS 2 b.l
 redr:e.kind=9->e.err=0\/e.err=3
 expr:e.kind=10->e.err=0
theorem zamY{lim:Int}{e:Event}{g:Grant}{r:Option RI}{y:RI}(h:zafx lim e g r=some y):y.ep=e.epoch:=by
 cases r with
 | none=>
  simp only[zai1,zai2] at h
  split at h
  ·rw[<- Option.some.inj h]
  ·cases h
 | some x=>
  simp only[zai1,zai2] at h
  by_cases c:x.ep≠e.epoch
  ·rw[zabo c] at h;cases h
  rw[zabn c] at h;have c:=zabG.1 c
  by_cases c3:e.kind=3
  ·rw[zabo c3] at h
   split at h
   ·rw[<- Option.some.inj h];exact c
   ·cases h
  rw[zabn c3] at h
  by_cases c4:4<=e.kind/\e.kind<=6
  ·rw[zabo c4] at h
   split at h
   ·split at h
    ·rw[<- Option.some.inj h];exact c
    ·split at h
     ·rw[<- Option.some.inj h];exact c
     ·split at h
      ·rw[<- Option.some.inj h];exact c
      ·cases h
   ·cases h
  rw[zabn c4] at h
  split at h
  ·split at h
   ·rw[<- Option.some.inj h];exact c
   ·cases h
  ·split at h
   ·split at h
    ·rw[<- Option.some.inj h];exact c
    ·cases h
   ·cases h
theorem Rep.same{u:Setup}{P:List Event}{b:Bag}(hR:Rep u P b){e:Event}(h1:e.kind≠1)(h7:¬(e.kind=7/\e.err=0))(hm:∀i,hit i e=false):Rep u (P++[e]) b:=by
 refine⟨hR.lim,by rw[zaiQ,zabn h1];exact hR.now,by rw[zafF,zabn h7];exact hR.ep,hR.asc,fun i=> ?_,fun i x h=> ?_⟩
 ·rw[zagu,zaiV (hm i),zafF,zabn h7];exact hR.it i
 ·rw[zagu,zaiV (hm i)] at h;rw[zafF,zabn h7];exact hR.le i x h
theorem Rep.set {u:Setup} {P:List Event} {b:Bag} (hR:Rep u P b) {e:Event} {l:List Item} (h1:e.kind≠1) (h7:¬(e.kind=7/\e.err=0)) (he:e.epoch=b.epoch) (ha:ascI l) (hh:∀i,hit i e=true->(zafx u.limit e (gOf e i) (rawF u.limit i P)).isSome=true)
    (hl:∀i,bF l i=if hit i e=true then (zafx u.limit e (gOf e i) (rawF u.limit i P)).map (zaiF b.epoch i) else bF b.l i):Rep u (P++[e]) ⟨b.limit,b.now,b.epoch,l⟩:=by
 refine⟨hR.lim,by rw[zaiQ,zabn h1];exact hR.now,by rw[zafF,zabn h7];exact hR.ep,ha,fun i=> ?_,fun i x h=> ?_⟩
 ·simp only;rw[hl,zagu,zafF,zabn h7];unfold rawS
  split
  ·rw[hR.ep]
  ·exact hR.it i
 ·rw[zagu] at h;rw[zafF,zabn h7];unfold rawS at h
  split at h
  ·have:=zamY h;rw[this,he,hR.ep];omega
  ·exact hR.le i x h
end Go.Proofs.YtcembpbhkcbnhaaGreat

namespace Go.Proofs.YtcembpbhkcbnhaaGreat
open Go Go.Sim
section
variable {u:Setup} {P:List Event} {b:Bag} {e:Event} (hR:Rep u P b) (hE:EvOK u P e)
include hR hE
end
def repF:List Event->Bag->Nat->Bag×Nat×Int
 | [],b,n=>(b,n,0)
 | e::l,b,n=>if (zaeP b e).2≠0 then (zBag,n,(zaeP b e).2) else repF l (zaeP b e).1 (n+1)
end Go.Proofs.YtcembpbhkcbnhaaGreat

namespace Go.Proofs.YtcembpbhkcbnhaaGreat
open Go Go.Sim
structure pBk(k:Int)(b:Bag):Prop where
 lim:b.limit<=1000
 ep0:0<=b.epoch
 ep1:b.epoch<=65536+k
 len:(b.l.length:Int)<=k
 its:∀x∈b.l,pIk (1000 * k) x
theorem pBk.pB{k:Int}{b:Bag}(h:pBk k b)(hk:k<=1000000):pB b:=by
 obtain⟨h1,h2,h3,h4,h5⟩:=h;exact⟨h1,h2,by omega,by omega,fun x hx=>(h5 x hx).mono zo⟩
theorem pBk.mono{k m:Int}{b:Bag}(h:pBk k b)(hk:k<=m):pBk m b:=by
 obtain⟨h1,h2,h3,h4,h5⟩:=h;exact⟨h1,h2,by omega,by omega,fun x hx=>(h5 x hx).mono zo⟩
theorem zajM{chg:Item->Grant->Option Item}(hc:zafo chg):∀(gs:List Grant) (seen:List Int) (l:List Item) (m:Int),(∀x∈l,pIk m x)->(zaeG chg seen gs l).2.length=l.length/\∀x∈(zaeG chg seen gs l).2,pIk (m+gs.length) x:=by
 intro gs
 induction gs with
 | nil=>intro seen l m h;exact⟨rfl,fun x hx=>(h x hx).mono (by simp)⟩
 | cons g gs ih=>
  intro seen l m h;unfold zaeG;have up:∀x∈l,pIk (m+(g::gs).length) x:=fun x hx=>(h x hx).mono (by simp only[zabu];omega)
  split
  ·rename_i q
   split
   ·exact⟨rfl,up⟩
   ·rename_i y hy;have hm:∀x∈l.set (bIx l g.id).toNat y,pIk (m+1) x:=by
     intro x hx
     rcases zac1 hx with hx|rfl
     ·exact (h x hx).mono zo
     ·obtain⟨i,hi⟩:∃i:Nat,bIx l g.id=i:=⟨(bIx l g.id).toNat,by omega⟩;obtain⟨h3, -⟩:=zafd hi;rw[hi,zab5,zab0,zabx h3] at hy;exact hc _ _ _ _ (h _ (zabC h3)) hy
    obtain⟨a1,a2⟩:=ih (seen++[g.id]) _ _ hm;refine⟨by rw[a1,zacb],fun x hx=>(a2 x hx).mono (by simp only[zabu];omega)⟩
  ·exact⟨rfl,up⟩
theorem zagI{k:Int}{b c:Bag}{v:Event}{chg:Item->Grant->Option Item}(h:pBk k b)(hk:0<=k)(hv:pV v)(hc:zafo chg)(e:zae5 b chg v.l=some c):pBk (k+1) c:=by
 unfold zae5 at e;obtain⟨h1,h2,h3,h4,h5⟩:=h;obtain⟨a1,a2⟩:=zajM hc v.l [] b.l _ h5;have hl:=hv.le2
 split at e
 ·cases e
  exact⟨h1,h2,by simp only;omega,by simp only[a1];omega,fun x hx=>(a2 x hx).mono zo⟩
 ·cases e
theorem zagX{k:Int}{b:Bag}{g:Grant}{f:Item->Item}(h:pBk k b)(hk:0<=k)(hv:bVal b g=true)(hf:∀x,pIk (1000 * k) x->pIk (1000 * k) (f x)):pBk (k+1) (setI b g f):=by
 obtain⟨h1,h2,h3,h4,h5⟩:=h;obtain⟨i,hi,e1,e2⟩:=zagy hv;refine⟨h1,h2,by show b.epoch<=_;omega,by show ((b.l.set _ _).length:Int)<=_;rw[zacb];omega,fun x hx=> ?_⟩;have hx:x∈b.l.set (bIx b.l g.id).toNat (f (b.l.getD (bIx b.l g.id).toNat zabf)):=hx
 rcases zac1 hx with hx|rfl
 ·exact (h5 x hx).mono zo
 ·rw[e2];exact (hf _ (h5 _ (zabC hi))).mono zo
theorem zans{k:Int}{b c:Bag}{v:Event}(h:pBk k b)(hk:0<=k)(hv:pV v)(e:zaeS b v=some c):pBk (k+1) c:=by
 have up:=h.mono (show k<=k+1 by omega);unfold zaeS at e
 split at e
 ·split at e
  ·cases e
  ·cases e;exact⟨up.lim,up.ep0,up.ep1,up.len,up.its⟩
 split at e
 ·unfold zaf6 at e
  split at e
  ·cases e;exact up
  split at e
  ·cases e
  split at e
  ·split at e
   ·cases e
   split at e
   ·cases e
   ·cases e
    rename_i g _ _ _;refine⟨up.lim,up.ep0,up.ep1,?_,fun x hx=> ?_⟩
    ·have:=h.len;simp only[insB,zabv,zac9,zadA,zab3];omega
    ·simp only[insB,zabS,zab1] at hx
     rcases hx with (hx|rfl)|hx
     ·exact up.its x (zac8 hx)
     ·exact⟨by simp,by simp only;omega,by simp,by simp⟩
     ·exact up.its x (zadQ hx)
  ·cases e
 split at e
 ·split at e
  ·exact zagI h hk hv (zagW h.lim) e
  ·split at e
   ·cases e;exact up
   ·cases e
 split at e
 ·unfold zaf7 at e
  split at e
  ·split at e
   ·cases e;exact up
   ·cases e
  ·split at e
   ·rename_i hb
    split at e
    ·split at e
     ·cases e;exact up
     ·cases e
    split at e
    ·cases e;exact zagX h hk hb fun x hx=>hx
    split at e
    ·cases e;exact zagX h hk hb fun x hx=>hx
    split at e
    ·cases e;exact zagX h hk hb fun x hx=>hx
    ·cases e
   ·split at e
    ·cases e;exact up
    ·cases e
  ·cases e
 split at e
 ·split at e
  ·split at e
   ·cases e
    rename_i q;have:=h.ep0;have:=h.ep1;refine⟨up.lim,by simp only;omega,by simp only;omega,by simp only[zabE];exact up.len,fun x hx=> ?_⟩;obtain⟨y,hy,rfl⟩:=zaby.1 hx;exact up.its y hy
   ·cases e
  ·split at e
   ·cases e;exact up
   ·cases e
 split at e
 ·split at e
  ·cases e;exact up
  ·cases e
 split at e
 ·split at e
  ·exact zagI h hk hv zamo e
  ·split at e
   ·cases e;exact up
   ·cases e
 ·split at e
  ·exact zagI h hk hv zaih e
  ·cases e
theorem zagY{k:Int}{b:Bag}{v:Event}(h:pBk k b)(hk:0<=k)(hv:pV v)(e:(zaeP b v).2=0):pBk (k+1) (zaeP b v).1:=by
 unfold zaeP at e ⊢
 split at e
 ·cases e
 rename_i c1;rw[zabn c1]
 split at e
 ·cases e
 rename_i c2;rw[zabn c2]
 cases q:zaeS b v with
 | none=>rw[q] at e;cases e
 | some c=>exact zans h hk hv q
def bnD(l n e:Int):Bag×Int:=if 1<=l/\l<=8/\0<=n/\n<=1073741824/\0<=e/\e<=65536 then (⟨l,n,e,[]⟩,0) else (zBag,1)
theorem dec2{a b:Prop}[Decidable a][Decidable b](h:¬(a/\b)):(decide a&&decide b)=false:=by
 by_cases c:a
 ·rw[zabP (fun q=>h ⟨c,q⟩),zacJ]
 ·rw[zabP c,zacd]
theorem zagG{a b:Prop}[Decidable a][Decidable b](h:a/\b):(decide a&&decide b)=true:=by
 rw[zabM h.1,zabM h.2];rfl
theorem zajh(l n e:Int):zi G 17 [.d (.int .i64 l),.d (.int .i64 n),.d (.int .i64 e)] []=some (.d (.tup [eBag (bnD l n e).1,.int .i64 (bnD l n e).2]),[]):=by
 have a1:=zae7 l 1 8;have a2:=zae7 n 0 1073741824;have a3:=zae7 e 0 65536;unfold bnD
 by_cases c1:1<=l/\l<=8
 ·rw[zagG c1] at a1
  by_cases c2:0<=n/\n<=1073741824
  ·rw[zagG c2] at a2
   by_cases c3:0<=e/\e<=65536
   ·rw[zagG c3] at a3;rw[zabo ⟨c1.1,c1.2,c2.1,c2.2,c3.1,c3.2⟩];simp only[eBag,zabq];exact zW
   ·rw[dec2 c3] at a3;rw[zabn zo];clear c1 c2 c3;simp only[eBag,zBag,zabq];exact zW
  ·rw[dec2 c2] at a2;rw[zabn zo];clear c1 c2 a3;simp only[eBag,zBag,zabq];exact zW
 ·rw[dec2 c1] at a1;rw[zabn zo];clear c1 a2 a3;simp only[eBag,zBag,zabq];exact zW
theorem zamc(l n e:Int):zi G 19 [.d (.int .i64 l),.d (.int .i64 n),.d (.int .i64 e)] []=some (.d (.tup [eBag (bnD l n e).1,.int .i64 (bnD l n e).2]),[]):=by
 unfold bnD
 by_cases c1:l<1
 ·rw[zabn zo];simp only[eBag,zBag,zabq];exact zW
 by_cases c2:8<l
 ·rw[zabn zo];simp only[eBag,zBag,zabq];exact zW
 by_cases c3:n<0
 ·rw[zabn zo];simp only[eBag,zBag,zabq];exact zW
 by_cases c4:1073741824<n
 ·rw[zabn zo];simp only[eBag,zBag,zabq];exact zW
 by_cases c5:e<0
 ·rw[zabn zo];simp only[eBag,zBag,zabq];exact zW
 by_cases c6:65536<e
 ·rw[zabn zo];simp only[eBag,zBag,zabq];exact zW
 rw[zabo zo];simp only[eBag,zabq];exact zW
def zBC:AV:= .agg [.d (.int .i64 0),.d (.int .i64 0),.d (.int .i64 0),.xsl []]
def wrS(l:List Event)(t:Bag×Nat):St:=⟨[(1,.d (.sl (l.map zaw))),(4,.ref 4 0 0),(7,.ref 7 0 0),(25,.d (.sl (l.map zaw))),(26,.d (.int .i64 l.length)),(27,.d (.int .i64 t.2))],[(4,.row [zBC]),(7,.row [.d (eBag t.1)])]⟩
def wrR(l:List Event)(r:Bag×Nat×Int):zX×St:=if r.2.2=0 then (.exit 0,⟨[(1,.d (.sl (l.map zaw))),(4,.ref 4 0 0),(7,.ref 7 0 0)],[(4,.row [zBC]),(7,.row [.d (eBag r.1)])]⟩) else (.ret,⟨[(4,.ref 4 0 0),(5,.d (.int .i64 r.2.1)),(6,.d (.int .i64 r.2.2))],[(4,.row [zBC])]⟩)
theorem zanU(l:List Event)(hl:l.length<=1000000)(hv:∀e∈l,pV e):∀t:Bag×Nat,(t.2<=l.length/\pBk t.2 t.1)->z6 G [] zaf2 (wrS l t)=some (wrR l (repF (l.drop t.2) t.1 t.2)):=by
 refine zaL (fun t:Bag×Nat=>l.length - t.2) (fun t=>t.2<=l.length/\pBk t.2 t.1) (wrS l) (fun t=>some (wrR l (repF (l.drop t.2) t.1 t.2))) ?_;rintro⟨b,k⟩ ⟨hk,hb⟩ L ih;simp only at hk hb ⊢
 by_cases h0:k<l.length
 ·have hpv:=hv _ (zabC h0);have hs:=zajm b l[k] (hb.pB zo) hpv;rw[zabX h0];unfold repF
  by_cases h1:(zaeP b l[k]).2=0
  ·have i1:=ih ((zaeP b l[k]).1,k+1) ⟨by simp only;omega,zagY hb zo hpv h1⟩ (by simp only;omega);rw[zabn (fun q=>q h1)];rw[h1] at hs;clear ih hv hpv hb;simp only at i1;generalize wrR l (repF (l.drop (k+1)) (zaeP b l[k]).1 (k+1))=w at *;generalize (zaeP b l[k]).1=c at *;simp only[wrS,zaf2,zBC] at i1 ⊢;simp only[zNr,srcO] at i1;exact zS
  ·rw[zabo h1];clear ih hv hpv hb;generalize zaeP b l[k]=r at *;obtain⟨c,e⟩:=r;simp only[wrS,wrR,zaf2,zBC,zabn h1] at hs ⊢;exact zS
 ·rw[zaeg zo];clear ih hv hb;simp only[repF,wrS,wrR,zaf2,zBC,if_true];exact zS
def rrS(l:List Event)(t:Bag×Nat):St:=⟨[(1,.d (.sl (l.map zaw))),(4,.ref 4 0 0),(7,.ref 7 0 0),(9,.d (.int .i64 t.2))],[(4,.row [zBC]),(7,.row [.d (eBag t.1)])]⟩
theorem zamD(l:List Event)(hl:l.length<=1000000)(hv:∀e∈l,pV e):∀t:Bag×Nat,(t.2<=l.length/\pBk t.2 t.1)->z6 G [] zaf1 (rrS l t)=some (wrR l (repF (l.drop t.2) t.1 t.2)):=by
 refine zaL (fun t:Bag×Nat=>l.length - t.2) (fun t=>t.2<=l.length/\pBk t.2 t.1) (rrS l) (fun t=>some (wrR l (repF (l.drop t.2) t.1 t.2))) ?_;rintro⟨b,k⟩ ⟨hk,hb⟩ L ih;simp only at hk hb ⊢
 by_cases h0:k<l.length
 ·have hpv:=hv _ (zabC h0);have hs:=zama b l[k] (hb.pB zo) hpv;rw[zabX h0];unfold repF
  by_cases h1:(zaeP b l[k]).2=0
  ·have i1:=ih ((zaeP b l[k]).1,k+1) ⟨by simp only;omega,zagY hb zo hpv h1⟩ (by simp only;omega);rw[zabn (fun q=>q h1)];rw[h1] at hs;clear ih hv hpv hb;simp only at i1;generalize wrR l (repF (l.drop (k+1)) (zaeP b l[k]).1 (k+1))=w at *;generalize (zaeP b l[k]).1=c at *;simp only[rrS,zaf1,zBC] at i1 ⊢;simp only[zNr,srcO] at i1;exact zS
  ·rw[zabo h1];clear ih hv hpv hb;generalize zaeP b l[k]=r at *;obtain⟨c,e⟩:=r;simp only[rrS,wrR,zaf1,zBC,zabn h1] at hs ⊢;exact zS
 ·rw[zaeg zo];clear ih hv hb;simp only[repF,rrS,wrR,zaf1,zBC,if_true];exact zS
def repA(s:Setup)(l:List Event):Bag×Nat×Int:=if (bnD s.limit s.clock s.epoch).2=0 then repF l (bnD s.limit s.clock s.epoch).1 0 else (zBag,0,(bnD s.limit s.clock s.epoch).2)
theorem zaiY:∀(l:List Event) (b:Bag) (n:Nat),(repF l b n).2.2=0->(repF l b n).2.1=n+l.length:=by
 intro l
 induction l with
 | nil=>intro b n _;rfl
 | cons e l ih=>
  intro b n h;unfold repF at h ⊢
  split
  ·rename_i c;rw[zabo c] at h;exact absurd h c
  ·rename_i c;rw[zabn c] at h;rw[ih _ _ h,zabu];omega
theorem zaiZ:∀(l:List Event) (b:Bag) (n:Nat),(repF l b n).2.2≠0->(repF l b n).1=zBag:=by
 intro l
 induction l with
 | nil=>intro b n h;exact absurd rfl h
 | cons e l ih=>
  intro b n h;unfold repF at h ⊢
  split
  ·rfl
  ·rename_i c;rw[zabn c] at h;exact ih _ _ h
theorem zagA(l n e:Int)(h:(bnD l n e).2=0):pBk 0 (bnD l n e).1:=by
 unfold bnD at h ⊢
 split
 ·rename_i c;exact⟨by simp only;omega,by simp only;omega,by simp only;omega,by simp,fun _ q=>by cases q⟩
 ·rename_i c;rw[zabn c] at h
  cases h
theorem zanV(s:Setup)(l:List Event)(hl:l.length<=1000000)(hv:∀e∈l,pV e):zi G 5 [.d (zaJ s),.d (.sl (l.map zaw))] []=some (.d (.tup [eBag (repA s l).1,.int .i64 (repA s l).2.1,.int .i64 (repA s l).2.2]),[]):=by
 have hn:=zajh s.limit s.clock s.epoch;have hp:=zagA s.limit s.clock s.epoch;unfold repA;generalize bnD s.limit s.clock s.epoch=p at *;obtain⟨b,e⟩:=p;simp only at hn hp ⊢
 by_cases c:e=0
 ·subst c;have hlp:=zanU l hl hv (b,0) ⟨Nat.zero_le _,hp rfl⟩;rw[zabo rfl];have hlen:(repF l b 0).2.2=0->(repF l b 0).2.1=l.length:=fun q=>by have:=zaiY l b 0 q;omega
  have hz:(repF l b 0).2.2≠0->(repF l b 0).1=zBag:=zaiZ l b 0;simp only[zabZ] at hlp;clear hp hv;generalize repF l b 0=r at *;obtain⟨z,m,e2⟩:=r;simp only at hlen hz hlp ⊢
  by_cases c2:e2=0
  ·subst c2;have hlen:=hlen rfl;subst hlen;clear hz;simp only[wrS,wrR,zBC,if_true,zaJ,eBag,zabQ] at hn hlp ⊢;exact zW
  ·have hz:=hz c2;subst hz;clear hlen;simp only[wrS,wrR,zBC,zabn c2,zaJ,eBag,zBag,zabq,zabQ] at hn hlp ⊢;exact zW
 ·rw[zabn c];clear hp hv;simp only[zaJ,eBag,zBag,zabq] at hn ⊢;exact zW
theorem zamI(s:Setup)(l:List Event)(hl:l.length<=1000000)(hv:∀e∈l,pV e):zi G 6 [.d (zaJ s),.d (.sl (l.map zaw))] []=some (.d (.tup [eBag (repA s l).1,.int .i64 (repA s l).2.1,.int .i64 (repA s l).2.2]),[]):=by
 have hn:=zamc s.limit s.clock s.epoch;have hp:=zagA s.limit s.clock s.epoch;unfold repA;generalize bnD s.limit s.clock s.epoch=p at *;obtain⟨b,e⟩:=p;simp only at hn hp ⊢
 by_cases c:e=0
 ·subst c;have hlp:=zamD l hl hv (b,0) ⟨Nat.zero_le _,hp rfl⟩;rw[zabo rfl];have hlen:(repF l b 0).2.2=0->(repF l b 0).2.1=l.length:=fun q=>by have:=zaiY l b 0 q;omega
  have hz:(repF l b 0).2.2≠0->(repF l b 0).1=zBag:=zaiZ l b 0;simp only[zabZ] at hlp;clear hp hv;generalize repF l b 0=r at *;obtain⟨z,m,e2⟩:=r;simp only at hlen hz hlp ⊢
  by_cases c2:e2=0
  ·subst c2;have hlen:=hlen rfl;subst hlen;clear hz;simp only[rrS,wrR,zBC,if_true,zaJ,eBag,zabQ] at hn hlp ⊢;exact zW
  ·have hz:=hz c2;subst hz;clear hlen;simp only[rrS,wrR,zBC,zabn c2,zaJ,eBag,zBag,zabq,zabQ] at hn hlp ⊢;exact zW
 ·rw[zabn c];clear hp hv;simp only[zaJ,eBag,zBag,zabq] at hn ⊢;exact zW
theorem zCY:∀(l:List Span) (n m:Int),0<=n->zdb n l=some m->∀x∈l,0<=x.low/\x.low<=x.high/\x.high<65536
 | [],_,_,_,_,x,hx=>by cases hx
 | y::l,n,m,h0,h,x,hx=>by
  rw[zdb] at h
  split at h
  ·rename_i hc
   cases hx with
   | head=>omega
   | tail _ hx=>exact zCY l _ m zo h x hx
  ·cases h
theorem zvb{d:zabk}(h:zbl d=0):zdb 0 d.l=some 65536:=by
 unfold zbl at h
 split at h
 ·cases h
 split at h
 ·cases h
 rename_i hc;simpa using hc
def zCR(d:zabk)(e:Edit):zabk×Int:=
 if zaV d.l e.from_<0\/0<=zaV d.l e.to then (zcF,7)
 else if e.mid<(d.l.getD (zaV d.l e.from_).toNat zeC).low\/(d.l.getD (zaV d.l e.from_).toNat zeC).high<=e.mid then (zcF,1)
 else (⟨d.version+1,d.l.take (zaV d.l e.from_).toNat++[⟨(d.l.getD (zaV d.l e.from_).toNat zeC).low,e.mid,e.from_⟩,⟨e.mid+1,(d.l.getD (zaV d.l e.from_).toNat zeC).high,e.to⟩]++d.l.drop ((zaV d.l e.from_).toNat+1),d.forward.set e.to.toNat (-1)⟩,0)
def zBl(d:zabk)(e:Edit):zabk×Int:=
 if zaV d.l e.from_<0\/zaV d.l e.to<0\/(¬zaV d.l e.from_ - zaV d.l e.to=1/\¬zaV d.l e.to - zaV d.l e.from_=1) then (zcF,7)
 else (⟨d.version+1,d.l.take (min (zaV d.l e.from_) (zaV d.l e.to)).toNat++[⟨(d.l.getD (min (zaV d.l e.from_) (zaV d.l e.to)).toNat zeC).low,(d.l.getD ((min (zaV d.l e.from_) (zaV d.l e.to)).toNat+1) zeC).high,e.to⟩]++d.l.drop ((min (zaV d.l e.from_) (zaV d.l e.to)).toNat+2),d.forward.set e.from_.toNat e.to⟩,0)
def zgG(d:zabk)(e:Edit):zabk×Int:=
 if zbl d≠0 then (zcF,zbl d)
 else if d.version=1099511627776 then (zcF,6)
 else if ¬e.kind=1/\¬e.kind=2 then (zcF,9)
 else if e.from_<0\/(d.forward.length:Int)<=e.from_\/e.to<0\/(d.forward.length:Int)<=e.to then (zcF,4)
 else if e.kind=1 then zCR d e else zBl d e
theorem z6G(d:zabk)(e:Edit)(hL:d.l.length<=1000000):zi G 285 [.d (zaT d),.d (zfT e)] []=some (.d (.tup [zaT (zgG d e).1,.int .i64 (zgG d e).2]),[]):=by
 have hval:=zkV d zo;have i1:=zkU d e.from_ zo;have i2:=zkU d e.to zo;have b1:=zsd d.l (fun x=>decide (x.shard=e.from_));have b2:=zsd d.l (fun x=>decide (x.shard=e.to));change -1<=zaV d.l e.from_/\zaV d.l e.from_<d.l.length at b1;change -1<=zaV d.l e.to/\zaV d.l e.to<d.l.length at b2;unfold zgG
 by_cases c0:zbl d=0
 ·have hl:=zjZ c0;rw[c0] at hval;rw[zabn (by rw[c0];simp)];have htl:=zCY d.l 0 65536 zo (zvb c0);clear c0
  by_cases c1:d.version=1099511627776
  ·rw[zabo c1];exact zW
  rw[zabn c1]
  by_cases c2:¬e.kind=1/\¬e.kind=2
  ·rw[zabo c2];obtain⟨c2,c3⟩:=c2;exact zW
  rw[zabn c2]
  by_cases c3:e.from_<0\/(d.forward.length:Int)<=e.from_\/e.to<0\/(d.forward.length:Int)<=e.to
  ·rw[zabo c3];have c4:e.kind=1\/e.kind=2:=by omega
   clear c2
   rcases c4 with c4|c4
   ·exact zW
   ·exact zW
  rw[zabn c3];unfold zCR zBl;generalize zaV d.l e.from_=i at *;generalize zaV d.l e.to=k at *
  by_cases c4:e.kind=1
  ·rw[zabo c4];clear c2
   by_cases c5:i<0\/0<=k
   ·rw[zabo c5];exact zW
   rw[zabn c5];have hlt:i.toNat<d.l.length:=by omega
   obtain⟨iN,hiN⟩:∃n:Nat,i=n:=⟨i.toNat,by omega⟩;subst hiN;simp only[zab5] at hlt ⊢;rw[zh hlt]
   by_cases c6:e.mid<d.l[iN].low\/d.l[iN].high<=e.mid
   ·rw[zabo c6];exact zW
   rw[zabn c6];have hti:=htl d.l[iN] (zabC _);clear htl
   by_cases c7:iN=0
   ·subst c7;rw[zI zd9 (by simp)];simp -implicitDefEqProofs (maxSteps:=4000000) (disch:=omega) only[zhs,zh,go_sem, *];(try simp only[zPr]);repeat' (first|done|rfl|((first|refine zad (fun hq=> ?_) (fun hq=> ?_)|refine zaj (fun hq=> ?_) (fun hq=> ?_))<;>(try (first|(exfalso;omega)|contradiction))<;>(try simp -implicitDefEqProofs (maxSteps:=4000000) (disch:=omega) only[zh,go_sem, *])<;>(try simp only[zPr])));(all_goals try rfl);(all_goals try (repeat' (first|done|rfl|(exfalso;omega)|contradiction|(refine zae (fun hq=> ?_) (fun hq=> ?_)))))
    all_goals simp only[zaT,zca,zg7,zabs,zabF,zabq,zabJ,zacg,zabN]
   ·rw[zI zd9 (by simp)];simp -implicitDefEqProofs (maxSteps:=4000000) (disch:=omega) only[zhs,zh,go_sem, *];(try simp only[zPr]);repeat' (first|done|rfl|((first|refine zad (fun hq=> ?_) (fun hq=> ?_)|refine zaj (fun hq=> ?_) (fun hq=> ?_))<;>(try (first|(exfalso;omega)|contradiction))<;>(try simp -implicitDefEqProofs (maxSteps:=4000000) (disch:=omega) only[zh,go_sem, *])<;>(try simp only[zPr])));(all_goals try rfl);(all_goals try (repeat' (first|done|rfl|(exfalso;omega)|contradiction|(refine zae (fun hq=> ?_) (fun hq=> ?_)))))
    all_goals simp only[zaT,zca,zg7,zabs,zabF,zabq,zabJ,zacg,zabN,zab9]
  ·rw[zabn c4];have hk2:e.kind=2:=by omega
   clear c2
   by_cases c5:i<0\/k<0\/¬i - k=1/\¬k - i=1
   ·rw[zabo c5];have c5b:i<0\/k<0\/(!decide (i - k=1)&& !decide (k - i=1))=true:=c5.imp id (Or.imp id fun h=>by simp [h.1,h.2]);exact zW
   rw[zabn c5];obtain⟨iN,hiN⟩:∃n:Nat,i=n:=⟨i.toNat,by omega⟩;obtain⟨kN,hkN⟩:∃n:Nat,k=n:=⟨k.toNat,by omega⟩;subst hiN hkN;obtain⟨f,hf⟩:∃f:Nat,min (iN:Int) (kN:Int)=f:=⟨(min (iN:Int) (kN:Int)).toNat,by omega⟩;have hlt:f+1<d.l.length:=by omega
   have hti:=htl d.l[f] (zabC _);have hti2:=htl d.l[f+1] (zabC _);clear htl;rw[hf,zab5,zh (show f<d.l.length by omega),zh hlt];have hcase:(iN=f/\kN=f+1)\/(iN=f+1/\kN=f):=by omega
   have e2:((f:Int)+1).toNat=f+1:=by omega
   have e3:((f:Int)+2).toNat=f+2:=by omega
   clear hf
   rcases hcase with ⟨q1,q2⟩|⟨q1,q2⟩
   ·subst q1 q2
    by_cases c7:iN=0
    ·subst c7;rw[zI zd9 (by simp)];simp -implicitDefEqProofs (maxSteps:=4000000) (disch:=omega) only[zhs,e2,e3,zh,go_sem, *];(try simp only[zPr]);repeat' (first|done|rfl|((first|refine zad (fun hq=> ?_) (fun hq=> ?_)|refine zaj (fun hq=> ?_) (fun hq=> ?_))<;>(try (first|(exfalso;omega)|contradiction))<;>(try simp -implicitDefEqProofs (maxSteps:=4000000) (disch:=omega) only[e2,e3,zh,go_sem, *])<;>(try simp only[zPr])));(all_goals try rfl);(all_goals try (repeat' (first|done|rfl|(exfalso;omega)|contradiction|(refine zae (fun hq=> ?_) (fun hq=> ?_)))))
     all_goals simp only[zaT,zca,zg7,zabs,zabF,zabq,zabJ,zacg,zabN]
    ·rw[zI zd9 (by simp)];simp -implicitDefEqProofs (maxSteps:=4000000) (disch:=omega) only[zhs,e2,e3,zh,go_sem, *];(try simp only[zPr]);repeat' (first|done|rfl|((first|refine zad (fun hq=> ?_) (fun hq=> ?_)|refine zaj (fun hq=> ?_) (fun hq=> ?_))<;>(try (first|(exfalso;omega)|contradiction))<;>(try simp -implicitDefEqProofs (maxSteps:=4000000) (disch:=omega) only[e2,e3,zh,go_sem, *])<;>(try simp only[zPr])));(all_goals try rfl);(all_goals try (repeat' (first|done|rfl|(exfalso;omega)|contradiction|(refine zae (fun hq=> ?_) (fun hq=> ?_)))))
     all_goals simp only[zaT,zca,zg7,zabs,zabF,zabq,zabJ,zacg,zabN,zab9]
   ·subst q1 q2
    by_cases c7:kN=0
    ·subst c7;rw[zI zd9 (by simp)];simp -implicitDefEqProofs (maxSteps:=4000000) (disch:=omega) only[zhs,e2,e3,zh,go_sem, *];(try simp only[zPr]);repeat' (first|done|rfl|((first|refine zad (fun hq=> ?_) (fun hq=> ?_)|refine zaj (fun hq=> ?_) (fun hq=> ?_))<;>(try (first|(exfalso;omega)|contradiction))<;>(try simp -implicitDefEqProofs (maxSteps:=4000000) (disch:=omega) only[e2,e3,zh,go_sem, *])<;>(try simp only[zPr])));(all_goals try rfl);(all_goals try (repeat' (first|done|rfl|(exfalso;omega)|contradiction|(refine zae (fun hq=> ?_) (fun hq=> ?_)))))
     all_goals simp only[zaT,zca,zg7,zabs,zabF,zabq,zabJ,zacg,zabN]
    ·rw[zI zd9 (by simp)];simp -implicitDefEqProofs (maxSteps:=4000000) (disch:=omega) only[zhs,e2,e3,zh,go_sem, *];(try simp only[zPr]);repeat' (first|done|rfl|((first|refine zad (fun hq=> ?_) (fun hq=> ?_)|refine zaj (fun hq=> ?_) (fun hq=> ?_))<;>(try (first|(exfalso;omega)|contradiction))<;>(try simp -implicitDefEqProofs (maxSteps:=4000000) (disch:=omega) only[e2,e3,zh,go_sem, *])<;>(try simp only[zPr])));(all_goals try rfl);(all_goals try (repeat' (first|done|rfl|(exfalso;omega)|contradiction|(refine zae (fun hq=> ?_) (fun hq=> ?_)))))
     all_goals simp only[zaT,zca,zg7,zabs,zabF,zabq,zabJ,zacg,zabN,zab9]
 ·rw[zabo c0];exact zW
def zaM(c:List zj)(h k:Nat):List zj:=(List.range k).map fun i=>c.getD ((h+i) % c.length) zaa
theorem z4F(c:List zj)(h k:Nat):zaM c h (k+1)=zaM c h k++[c.getD ((h+k) % c.length) zaa]:=by
 simp [zaM,zaej]
theorem zi6(c:List zj)(h k:Nat):(zaM c h k).length=k:=by simp [zaM]
theorem ziQ(l:List zj)(id:Int)(hL:l.length<=4294967296):zi G 222 [.d (.sl (l.map zm)),.d (.int .i64 id)] []=some (.d (.int .i64 (zaD l id)),[]):=by
 have:=ziZ (G:=G) (x:=zAC) (ks:=[]) l.length (atB l fun m:zj=>decide (m.id=id)) (fun k=>⟨[(0,.d (.sl (l.map zm))),(1,.d (.int .i64 id)),(5,.d (.int .i64 k))],[]⟩) (fun k=>(.ret,⟨[(4,.d (.int .i64 k))],[]⟩)) (.exit 0,⟨[],[]⟩) (fun k hk L=>by
  simp only[zAC]
  by_cases h0:k<l.length
  ·rw[zabo h0];simp only[zgH h0]
   by_cases h1:l[k].id=id
   ·simp only[h1,decide_true,if_true];have zk0:=zm.eq_1;exact zS
   ·simp only[h1,decide_false,zabz,if_false];have zk0:=zm.eq_1;exact zS
  ·rw[zabn h0];exact zS)
 rw[zj6] at this;simp only[zNr,srcO] at this;unfold zaD zbP
 cases h:l.findIdx? (fun m:zj=>decide (m.id=id)) with
 | none=>rw[h] at this;exact zW
 | some i=>rw[h] at this;exact zW
def zkP(c:List zj)(h z i:Nat):St:=⟨[(1,.ref 1 0 0),(3,.acc 3 ((zaM c h i).map zm)),(4,.d (.int .i64 i))],[(1,.row [.d (.agg [.sl (c.map zm),.int .i64 h,.int .i64 z])]),(3,.acc (zaM c h i).length)]⟩
theorem z4H(c:List zj)(h z:Nat)(h1:c.length<=12)(h2:h<c.length)(h3:z<=c.length):∀i,i<=z->z6 G [] zsp (zkP c h z i)=some (.exit 0,⟨[(3,.acc 3 ((zaM c h z).map zm))],[(3,.acc (zaM c h z).length)]⟩):=by
 refine zaL (fun i=>z - i) (fun i=>i<=z) (zkP c h z) _ fun i hi L ih=> ?_
 by_cases h0:i<z
 ·have i1:=ih (i+1) zo zo;clear ih;have e:((h:Int)+i).tmod c.length=(((h+i) % c.length:Nat):Int):=by rw[<- zacs, <- zadV]
  have hj:(h+i) % c.length<c.length:=zacr _ zo;have hl:=zi6 c h i;rw[zkP,z4F] at i1;generalize (h+i) % c.length=j at *;rw[zh hj] at i1;simp only[zabF,zabs,zabq,zabv,zab3,hl] at i1;simp only[zkP,hl,zsp];generalize zaM c h i=w at *;simp only[zNr,srcO] at i1;exact zS
 ·clear ih;have:i=z:=by omega
  subst this;simp only[zkP,zsp];exact zS
theorem zi7(c:List zj)(h z:Nat)(h1:c.length<=12)(h2:h<c.length)(h3:z<=c.length):zi G 261 [.d (.agg [.sl (c.map zm),.int .i64 h,.int .i64 z])] []=some (.acc 0 ((zaM c h z).map zm),[(0,.acc (zaM c h z).length)]):=by
 have hl:=z4H c h z h1 h2 h3 0 zo;simp only[zkP,zaM,List.range_zero,zabq,zabw] at hl;simp only[zNr,srcO] at hl;have zk0:=zaM.eq_1;exact zW
theorem zabj{m:zj}(h:¬(¬m.id=0\/¬m.route=0\/¬m.epoch=0\/¬m.count=0\/¬m.gen=0\/¬m.sent=0\/¬m.body=[])):m=zaa:=by
 simp only[not_or,zabG] at h;obtain⟨a,b,c,d,e,f,g⟩:=h
 cases m
 simp only at a b c d e f g;subst a b c d e f g;rfl
theorem z7F(c:List zj)(h:Nat)(z:Int){i n:Nat}(h0:i<n):zc5 ⟨c,h,z⟩ i n=(decide (c.getD ((h+i) % c.length) zaa≠zaa)||zc5 ⟨c,h,z⟩ (i+1) n):=z7E ⟨c,h,z⟩ h0
def rgR(c:List zj)(h z i:Nat):zX×St:=if zc5 ⟨c,h,z⟩ i c.length=true then (.ret,⟨[(2,.d (.int .i64 7))],[]⟩) else (.exit 0,⟨[(1,.ref 1 0 0)],[(1,.row [.d (.agg [.sl (c.map zm),.int .i64 h,.int .i64 z])])]⟩)
theorem zi5(c:List zj)(h z:Nat):zD ⟨c,h,z⟩=zaM c h z:=rfl
theorem znr{r:zah}(hr:zgt r):∃(c:List zj) (h z:Nat),r=⟨c,h,z⟩/\1<=c.length/\c.length<=12/\h<c.length/\z<=c.length:=by
 obtain⟨c,h,z⟩:=r;obtain⟨h1,h2,h3,h4,h5,h6⟩:=hr;simp only at h1 h2 h3 h4 h5 h6;exact⟨c,h.toNat,z.toNat,by rw[zaeo h3,zaeo h5],h1,h2,by omega,by omega⟩
theorem zQr{c:List zj}{h z:Nat}(hok:zgt ⟨c,h,z⟩):zaE ⟨c,h,z⟩=if zc5 ⟨c,h,z⟩ z c.length=true then 7 else if zb3 (zaM c h z)≠0 then zb3 (zaM c h z) else if zdC ((zaM c h z).map (·.id))=true then 10 else 0:=by
 unfold zaE;rw[zabn (fun hc=>hc hok)];rfl
def r4S(c:List zj)(h z i:Nat):St:=⟨[(1,.ref 1 0 0),(3,.d (.int .i64 c.length)),(4,.d (.int .i64 i))],[(1,.row [.d (.agg [.sl (c.map zm),.int .i64 h,.int .i64 z])])]⟩
theorem z7C(c:List zj)(h z:Nat)(h1:c.length<=12)(h2:h<c.length):∀i,i<=c.length->z6 G [] zsm (r4S c h z i)=some (rgR c h z i):=by
 refine zaL (fun i=>c.length - i) (fun i=>i<=c.length) (r4S c h z) (fun i=>some (rgR c h z i)) fun i hi L ih=> ?_
 by_cases h0:i<c.length
 ·have i1:=ih (i+1) zo zo;clear ih;have e:((h:Int)+i).tmod c.length=(((h+i) % c.length:Nat):Int):=by rw[<- zacs, <- zadV]
  have hj:(h+i) % c.length<c.length:=zacr _ zo;unfold rgR at i1 ⊢;rw[z7F _ _ _ h0];generalize (h+i) % c.length=j at *;rw[zh hj];generalize zc5 ⟨c,h,z⟩ (i+1) c.length=bb at *;simp only[r4S] at i1;simp only[zNr,srcO] at i1;simp only[r4S,zsm]
  by_cases hm:c[j]=zaa
  ·rw[hm];simp only[ne_eq,zabD,decide_false,zacH];have zk1:=zaa.eq_1;have zk2:=zm.eq_1;exact zS
  ·simp only[ne_eq,hm,zabV,decide_true,zadk,if_true]
   (try simp -implicitDefEqProofs (maxSteps:=4000000) (disch:=omega) only[zm,zh,go_sem, *]);(try simp only[zPr]);repeat' (first|done|rfl|((first|refine zad (fun hq=> ?_) (fun hq=> ?_)|refine zaj (fun hq=> ?_) (fun hq=> ?_))<;>(try (first|(exfalso;omega)|contradiction))<;>(try simp -implicitDefEqProofs (maxSteps:=4000000) (disch:=omega) only[zm,zh,go_sem, *])<;>(try simp only[zPr])));(all_goals try rfl);(all_goals try (repeat' (first|done|rfl|(exfalso;omega)|contradiction|(refine zae (fun hq=> ?_) (fun hq=> ?_)))))
   exact absurd (zabj (by assumption)) hm
 ·clear ih;unfold rgR;rw[z7D _ h0];simp only[r4S,zsm,zabz,if_false];simp -implicitDefEqProofs (maxSteps:=4000000) (disch:=omega) only[zh,go_sem, *]
def f4S(l:List zj)(i:Nat):St:=⟨[(5,.acc 60 (l.map zm)),(6,.d (.int .i64 i))],[(60,.acc l.length)]⟩
def f4R(l:List zj)(i:Nat):zX×St:=if zb3 (l.drop i)≠0 then (.ret,⟨[(2,.d (.int .i64 (zb3 (l.drop i))))],[]⟩) else (.exit 2,⟨[(5,.acc 60 (l.map zm))],[(60,.acc l.length)]⟩)
theorem zV9(l:List zj)(h1:l.length<=12):∀i,i<=l.length->z6 G [] zsn (f4S l i)=some (f4R l i):=by
 refine zaL (fun i=>l.length - i) (fun i=>i<=l.length) (f4S l) (fun i=>some (f4R l i)) fun i hi L ih=> ?_
 by_cases h0:i<l.length
 ·have i1:=ih (i+1) zo zo;clear ih;have hm:=zh8 l[i];unfold f4R at i1 ⊢;rw[zHE h0];unfold f4S at i1;generalize zb3 (l.drop (i+1))=fe at *;simp only[f4S,zsn];simp only[zm] at hm;simp only[zNr,srcO] at i1
  by_cases hv:zap l[i]=0
  ·rw[hv] at hm;simp only[hv,ne_eq,zabD,if_false];have zk0:=zm.eq_1;exact zS
  ·simp only[ne_eq,hv,zabV,if_true];clear i1;have zk0:=zm.eq_1;exact zS
 ·clear ih;have:i=l.length:=by omega
  subst this;unfold f4R;rw[zab7];simp only[f4S,zb3,ne_eq,zabD,if_false,zsn];exact zS
def d4S(l:List zj)(i:Nat):St:=⟨[(5,.acc 60 (l.map zm)),(8,.d (.int .i64 i))],[(60,.acc l.length)]⟩
def d4R(l:List zj)(i:Nat):zX×St:=if zeR l i=true then (.ret,⟨[(2,.d (.int .i64 10))],[]⟩) else (.exit 4,⟨[],[]⟩)
theorem zUh(l:List zj)(h1:l.length<=12):∀i,i<=l.length->z6 G [] zso (d4S l i)=some (d4R l i):=by
 refine zaL (fun i=>l.length - i) (fun i=>i<=l.length) (d4S l) (fun i=>some (d4R l i)) fun i hi L ih=> ?_
 by_cases h0:i<l.length
 ·have i1:=ih (i+1) zo zo;clear ih;have hx:=ziQ l l[i].id zo;unfold d4R at i1 ⊢;rw[zA3 _ h0];unfold d4S at i1;generalize zeR l (i+1)=fe at *;simp only[d4S,zso];simp only[zNr,srcO] at i1;generalize zaD l l[i].id=q at *
  by_cases hv:q=i
  ·subst hv;simp only[ne_eq,zabD,decide_false,zacH];have zk0:=zm.eq_1;exact zS
  ·simp only[ne_eq,hv,zabV,decide_true,zadk,if_true];clear i1;have zk0:=zm.eq_1;exact zS
 ·clear ih;unfold d4R;rw[zA2 _ h0];simp only[d4S,zso,zabz,if_false];exact zS
theorem zkS(r:zah)(hL:r.cells.length<=4294967296):zi G 265 [.d (zai r)] []=some (.d (.int .i64 (zaE r)),[]):=by
 by_cases hok:zgt r
 ·obtain⟨c,h,z,rfl,h1,h2,h3,h4⟩:=znr hok;have hr:=z7C c h z h2 h3 z h4;have hl:=zi7 c h z h2 h3 h4;have hn:=zi6 c h z;have hv:=zV9 (zaM c h z) zo 0 zo;have hd:=zUh (zaM c h z) zo 0 zo;rw[zQr hok];unfold rgR at hr;unfold f4R at hv;unfold d4R at hd;rw[zA1] at hd;simp only[zabZ] at hv;simp only[r4S] at hr;simp only[f4S,zabQ,hn] at hv;simp only[d4S,zabQ,hn] at hd;rw[hn] at hl;simp only[zai];generalize zc5 ⟨c,h,z⟩ z c.length=b1 at *;generalize zb3 (zaM c h z)=fe at *;generalize zdC ((zaM c h z).map (·.id))=dd at *;generalize zaM c h z=w at *;clear hok
  cases b1 with
  | true=>
   simp only[if_true] at hr ⊢;exact zW
  | false=>
   simp only[zabz,if_false] at hr ⊢
   by_cases e:fe=0
   ·subst e;simp only[ne_eq,zabD,if_false] at hv ⊢
    cases dd
    ·simp only[zabz,if_false] at hd ⊢;exact zW
    ·simp only[if_true] at hd ⊢;exact zW
   ·simp only[ne_eq,e,zabV,if_true] at hv ⊢;exact zW
 ·unfold zaE;rw[zabo hok];obtain⟨c,h,z⟩:=r;simp only[zgt] at hok hL;simp only[zai];exact zW
theorem z6z{r:zah}(hr:zaE r=0):zi G 272 [.d (zai r)] []=some (.d (.sl ((zD r).map zm)),[]):=by
 have hv:=zkS r (by have:=(zcC hr).2.1;omega);obtain⟨c,h,z,rfl,h1,h2,h3,h4⟩:=znr (zcC hr);have hl:=zi7 c h z h2 h3 h4;rw[hr] at hv;rw[zi5];clear hr;simp only[zai] at hv ⊢;generalize zaM c h z=w at *;exact zW
theorem zje{s:zt}(hr:zaE s.ready=0):zi G 240 [.d (zk s)] []=some (.d (.sl ((zD s.ready).map zm)),[]):=by
 have hl:=z6z hr;generalize zD s.ready=w at *;simp only[zai,zk] at hl ⊢;exact zW
def zel(b:List zj)(l:List zG)(i:Nat):List zj:=b++(l.take i).map (·.msg)
theorem zZT(b:List zj){l:List zG}{i:Nat}(h:i<l.length):zel b l (i+1)=zel b l i++[l[i].msg]:=by
 unfold zel;rw[zadU,zabx h,zabF,zab9];rfl
theorem zZS(b:List zj){l:List zG}{i:Nat}(h:i<=l.length):(zel b l i).length=b.length+i:=by
 simp [zel];omega
def l7S(s:zt)(i:Nat):St:=⟨[(1,.ref 1 0 0),(3,.acc 3 ((zel [] s.leases.l i).map zm)),(4,.d (.int .i64 i))],[(1,.row [.d (zk s)]),(3,.acc (zel [] s.leases.l i).length)]⟩
theorem zYF(s:zt)(h1:s.leases.l.length<=12):∀i,i<=s.leases.l.length->z6 G [] zsw (l7S s i)=some (.exit 0,⟨[(3,.acc 3 ((zel [] s.leases.l s.leases.l.length).map zm))],[(3,.acc (zel [] s.leases.l s.leases.l.length).length)]⟩):=by
 refine zaL (fun i=>s.leases.l.length - i) (fun i=>i<=s.leases.l.length) (l7S s) _ fun i hi L ih=> ?_
 by_cases h0:i<s.leases.l.length
 ·have i1:=ih (i+1) zo zo;clear ih;have hl:=zZS [] (l:=s.leases.l) (i:=i) zo;rw[l7S,zZT [] h0] at i1;generalize zel [] s.leases.l s.leases.l.length=z at *;simp only[zabF,zabs,zabq,zabv,zab3,hl] at i1;simp only[l7S,hl,zsw];generalize zel [] s.leases.l i=w at *;simp only[zm,zk] at i1 ⊢;simp only[zNr,srcO] at i1;have zk0:=zaI.eq_1;have zk1:=zm.eq_1;exact zS
 ·clear ih;have:i=s.leases.l.length:=by omega
  subst this;simp only[l7S,zk,zsw];exact zS
theorem zsM{s:zt}(h1:s.leases.l.length<=12):zi G 241 [.d (zk s)] []=some (.d (.sl ((s.leases.l.map (·.msg)).map zm)),[]):=by
 have hm:=zYF s h1 0 zo;have e:zel [] s.leases.l s.leases.l.length=s.leases.l.map (·.msg):=by simp [zel]
 rw[e] at hm;generalize s.leases.l.map (·.msg)=w at *;simp only[l7S,zel,zacg,zabq,zabL,zk] at hm;simp only[zk];simp only[zNr,srcO] at hm;exact zW
theorem zjH{s:zt}(hr:zaE s.ready=0)(h1:s.leases.l.length<=12):zi G 205 [.d (zk s)] []=some (.d (.sl ((zaP s).map zm)),[]):=by
 have h2:=zje hr;have h3:=zsM h1;have hb:(zD s.ready).length<=12:=by
  rw[zg9];have:=zcC hr;obtain⟨a1,a2,a3,a4,a5,a6⟩:=this;omega
 have hc:(s.leases.l.map (·.msg)).length<=12:=by simpa using h1
 simp only[zaP,zabF];generalize s.leases.l.map (·.msg)=w at *;generalize zD s.ready=w2 at *;simp only[zk] at h2 h3 ⊢;exact zW
theorem zQ0{t:zN}(h:zao t=0):t.l.length<=12:=by
 refine Classical.byContradiction fun hc=> ?_;unfold zao at h;rw[zabo zo] at h;exact absurd h (by decide)
def zgq(lo hi:Int)(l:List zj):Bool:=l.any fun m=>decide (¬(lo<=m.route/\m.route<=hi))
theorem zZQ(lo hi:Int){l:List zj}{k:Nat}(h:k<l.length):zgq lo hi (l.drop k)=(decide (¬(lo<=l[k].route/\l[k].route<=hi))||zgq lo hi (l.drop (k+1))):=by
 rw[zabX h];rfl
theorem zQH(lo hi:Int):zi G 109 [.d (.int .i64 lo),.d (.int .i64 hi)] []=some (.d (.bool (decide (0<=lo/\lo<=hi/\hi<65536))),[]):=by
 by_cases h:0<=lo/\lo<=hi/\hi<65536
 ·rw[zabM h];exact zW
 ·rw[zabP h];have e:(decide (0<=lo)&&(decide (lo<=hi)&&decide (hi<65536)))=false:=by simp;omega
  exact zW
theorem zQB{s:zt}(hr:zaE s.ready=0)(h1:s.leases.l.length<=12):(zaP s).length<=24:=by
 obtain⟨a1,a2,a3,a4,a5,a6⟩:=zcC hr;simp only[zaP,zabv,zabE,zg9];omega
theorem znA{s:zt}(hr:zaE s.ready=0)(ht:zao s.leases=0):zY s=if s.live=false then (if s.low≠0\/s.high≠0\/0<s.ready.size+s.leases.l.length then 7 else 0)
 else if ¬(0<=s.low/\s.low<=s.high/\s.high<65536) then 1
 else if s.ready.cells.length<s.ready.size+s.leases.l.length then 3
 else if zgq s.low s.high (zaP s)=true then 12
 else if zdC ((zaP s).map (·.id))=true then 10 else 0:=by
 unfold zY;rw[zabn (fun hc=>hc hr),zabn (fun hc=>hc ht)];rfl
def m7S(s:zt)(l:List zj)(i:Nat):St:=⟨[(1,.ref 1 0 0),(6,.d (.sl (l.map zm))),(7,.d (.int .i64 i))],[(1,.row [.d (zk s)])]⟩
def m7R(s:zt)(l:List zj)(i:Nat):zX×St:=if zgq s.low s.high (l.drop i)=true then (.ret,⟨[(2,.d (.int .i64 12))],[]⟩) else (.exit 0,⟨[(6,.d (.sl (l.map zm)))],[]⟩)
theorem zZp(s:zt)(l:List zj)(h1:l.length<=24):∀i,i<=l.length->z6 G [] zsy (m7S s l i)=some (m7R s l i):=by
 refine zaL (fun i=>l.length - i) (fun i=>i<=l.length) (m7S s l) (fun i=>some (m7R s l i)) fun i hi L ih=> ?_
 by_cases h0:i<l.length
 ·have i1:=ih (i+1) zo zo;clear ih;unfold m7R at i1 ⊢;rw[zZQ _ _ h0];unfold m7S at i1;generalize zgq s.low s.high (l.drop (i+1))=fe at *;simp only[m7S,zk,zsy] at i1 ⊢;simp only[zNr,srcO] at i1
  by_cases hv:s.low<=l[i].route/\l[i].route<=s.high
  ·simp only[hv,zabD,zacK,decide_false,zacH];have zk0:=zm.eq_1;exact zS
  ·simp only[hv,zabV,decide_true,zadk,if_true];clear i1;have zk0:=zm.eq_1;exact zS
 ·clear ih;have:i=l.length:=by omega
  subst this;unfold m7R;rw[zab7];simp only[m7S,zgq,List.any_nil,zabz,if_false,zsy,zk];exact zS
def d7S(l:List zj)(i:Nat):St:=⟨[(6,.d (.sl (l.map zm))),(8,.d (.int .i64 i))],[]⟩
def d7R(l:List zj)(i:Nat):zX×St:=if zeR l i=true then (.ret,⟨[(2,.d (.int .i64 10))],[]⟩) else (.exit 2,⟨[],[]⟩)
theorem zUi(l:List zj)(h1:l.length<=24):∀i,i<=l.length->z6 G [] zsz (d7S l i)=some (d7R l i):=by
 refine zaL (fun i=>l.length - i) (fun i=>i<=l.length) (d7S l) (fun i=>some (d7R l i)) fun i hi L ih=> ?_
 by_cases h0:i<l.length
 ·have i1:=ih (i+1) zo zo;clear ih;have hx:=ziQ l l[i].id zo;unfold d7R at i1 ⊢;rw[zA3 _ h0];unfold d7S at i1;generalize zeR l (i+1)=fe at *;simp only[d7S,zsz];simp only[zNr,srcO] at i1;generalize zaD l l[i].id=q at *
  by_cases hv:q=i
  ·subst hv;simp only[ne_eq,zabD,decide_false,zacH];have zk0:=zm.eq_1;exact zS
  ·simp only[ne_eq,hv,zabV,decide_true,zadk,if_true];clear i1;have zk0:=zm.eq_1;exact zS
 ·clear ih;unfold d7R;rw[zA2 _ h0];simp only[d7S,zsz,zabz,if_false];exact zS
theorem znc(s:zt)(h1:s.ready.cells.length<=4294967296)(h2:s.leases.l.length<=4294967296)(h3:s.leases.heap.length<=4294967296):zi G 226 [.d (zk s)] []=some (.d (.int .i64 (zY s)),[]):=by
 have hv:=zkS s.ready h1;have ht:=zkT s.leases h2 h3;rw[zlf] at ht
 by_cases e1:zaE s.ready=0
 ·by_cases e2:zao s.leases=0
  ·rw[znA e1 e2];rw[e1] at hv;rw[e2] at ht;have hl:=zQ0 e2;obtain⟨a1,a2,a3,a4,a5,a6⟩:=zcC e1;have hsp:=zQH s.low s.high;have hm:=zjH e1 hl;have hml:=zQB e1 hl;have hlp:=zZp s (zaP s) hml 0 zo;have hdp:=zUi (zaP s) hml 0 zo;unfold m7R at hlp;unfold d7R at hdp;rw[zA1] at hdp;simp only[m7S,zabZ] at hlp;simp only[d7S] at hdp;generalize zgq s.low s.high (zaP s)=b1 at *;generalize zdC ((zaP s).map (·.id))=b2 at *;generalize zaP s=w at *;clear e1 e2;obtain⟨lv,lo,hi,⟨c,h,z⟩,⟨tl,th⟩⟩:=s;simp only[zk,zai,zau] at hv ht hsp hm hlp a1 a2 a3 a4 a5 a6 hl h1 h2 h3 ⊢;simp only[zNr,srcO] at hlp hdp
   cases lv with
   | false=>
    simp only[if_true]
    by_cases c1:lo≠0\/hi≠0\/0<z+tl.length
    ·rw[zabo c1];exact zW
    ·rw[zabn c1];exact zW
   | true=>
    simp only[zacf,if_false]
    by_cases c1:0<=lo/\lo<=hi/\hi<65536
    ·rw[zabM c1] at hsp;rw[zabn (fun hc=>hc c1)]
     by_cases c2:(c.length:Int)<z+tl.length
     ·rw[zabo c2];exact zW
     ·rw[zabn c2]
      cases b1
      ·cases b2
       ·simp only[zabz,if_false] at hlp hdp ⊢;exact zW
       ·simp only[zabz,if_false,if_true] at hlp hdp ⊢;exact zW
      ·simp only[if_true] at hlp ⊢;exact zW
    ·rw[zabP c1] at hsp;rw[zabo c1];exact zW
  ·unfold zY;rw[zabn (fun hc=>hc e1),zabo e2];rw[e1] at hv;generalize zao s.leases=v at *;obtain⟨lv,lo,hi,⟨c,h,z⟩,⟨tl,th⟩⟩:=s;simp only[zk,zai,zau] at hv ht h1 h2 h3 ⊢;exact zW
 ·unfold zY;rw[zabo e1];clear ht;generalize zaE s.ready=v at *;obtain⟨lv,lo,hi,⟨c,h,z⟩,⟨tl,th⟩⟩:=s;simp only[zk,zai] at hv h1 h2 h3 ⊢;exact zW
def zbD{α:Type}(p:α->Bool)(l:List α)(i:Nat):Nat:=((l.take i).filter p).length
theorem zu4{α:Type}(p:α->Bool){l:List α}{i:Nat}(h:i<l.length):zbD p l (i+1)=zbD p l i+(if p l[i]=true then 1 else 0):=by
 unfold zbD;rw[zadU,zabx h,zaek,zabv]
 congr 1
 simp only[Option.toList,zacL]
 split<;>rfl
theorem zu3{α:Type}(p:α->Bool)(l:List α)(i:Nat):zbD p l i<=i:=zaca (zacF _ _) (by simp;omega)
def rdQ(ep lim:Int)(m:zj):Bool:=decide (¬m.epoch<ep)&&decide (¬lim<=m.count)
def lsQ(ep:Int)(x:zG):Bool:=decide (¬x.msg.epoch<ep)
def zab(s:zt):Int:=if zY s≠0 then zY s else if s.live=true then 0 else 7
theorem zeS(s:zt)(h1:s.ready.cells.length<=4294967296)(h2:s.leases.l.length<=4294967296)(h3:s.leases.heap.length<=4294967296):zi G 186 [.d (zk s)] []=some (.d (.int .i64 (zab s)),[]):=by
 have hv:=znc s h1 h2 h3;unfold zab;generalize zY s=v at *;obtain⟨lv,lo,hi,⟨c,h,z⟩,⟨tl,th⟩⟩:=s;simp only[zk] at hv ⊢
 by_cases e:v=0
 ·subst e
  cases lv
  ·exact zW
  ·exact zW
 ·rw[zabo e];exact zW
theorem zh7(m:zj)(ep:Int):zi G 235 [.d (zm m),.d (.int .i64 ep)] []=some (.d (.bool (decide (m.epoch<ep))),[]):=by
 simp only[zm];exact zW
theorem ztH(m:zj)(lim:Int):zi G 230 [.d (zm m),.d (.int .i64 lim)] []=some (.d (.bool (decide (lim<=m.count))),[]):=by
 simp only[zm];exact zW
def mQ(ep:Int)(m:zj):Bool:=decide (¬m.epoch<ep)
theorem zS6(ep:Int)(l:List zG)(i:Nat):zbD (mQ ep) (l.map (·.msg)) i=zbD (lsQ ep) l i:=by
 unfold zbD;rw[<- zac7,List.filter_map,zabE];rfl
theorem zHt(n:Int):zi G 242 [.d (.int .i64 n)] []=some (.d (.bool (decide (0<=n/\n<=65536))),[]):=by
 by_cases h:0<=n/\n<=65536
 ·rw[zabM h];exact zW
 ·rw[zabP h];have e:(decide (0<=n)&&decide (n<=65536))=false:=by simp;omega
  exact zW
theorem zL5(n:Int):zi G 229 [.d (.int .i64 n)] []=some (.d (.bool (decide (1<=n/\n<=8))),[]):=by
 by_cases h:1<=n/\n<=8
 ·rw[zabM h];exact zW
 ·rw[zabP h];have e:(decide (1<=n)&&decide (n<=8))=false:=by simp;omega
  exact zW
def k0S(l w:List zj)(ep lim:Int)(i:Nat):St:=⟨[(1,.d (.int .i64 ep)),(2,.d (.int .i64 lim)),(8,.d (.int .i64 (zbD (rdQ ep lim) l i))),(9,.d (.int .i64 0)),(10,.d (.sl (l.map zm))),(11,.d (.sl (w.map zm))),(12,.d (.int .i64 i))],[]⟩
theorem zYo(l w:List zj)(ep lim:Int)(h1:l.length<=24):∀i,i<=l.length->z6 G [] zst (k0S l w ep lim i)=some (.exit 0,⟨[(1,.d (.int .i64 ep)),(8,.d (.int .i64 (zbD (rdQ ep lim) l l.length))),(9,.d (.int .i64 0)),(11,.d (.sl (w.map zm)))],[]⟩):=by
 refine zaL (fun i=>l.length - i) (fun i=>i<=l.length) (k0S l w ep lim) _ fun i hi L ih=> ?_
 by_cases h0:i<l.length
 ·have i1:=ih (i+1) zo zo;clear ih;have hp:=zh7 l[i] ep;have hs:=ztH l[i] lim;have hle:=zu3 (rdQ ep lim) l i;generalize zbD (rdQ ep lim) l l.length=z at *;rw[k0S,zu4 _ h0] at i1;simp only[k0S,zst];generalize zbD (rdQ ep lim) l i=n at *;generalize w.map zm=ww at *;simp only[zm] at hp hs;unfold rdQ at i1
  by_cases c1:l[i].epoch<ep
  ·simp only[c1,zabD,decide_true,decide_false,zacd,zabz,if_false,zacI] at i1 hp;simp only[zNr,srcO] at i1;have zk0:=zm.eq_1;exact zS
  ·by_cases c2:lim<=l[i].count
   ·simp only[c1,c2,zabD,zabV,decide_true,decide_false,zacJ,zabz,if_false,zacI] at i1 hp hs;simp only[zNr,srcO] at i1;have zk0:=zm.eq_1;exact zS
   ·simp only[c1,c2,zabV,decide_true,decide_false,zacG,if_true] at i1 hp hs;simp only[zNr,srcO] at i1;have zk0:=zm.eq_1;exact zS
 ·clear ih;have:i=l.length:=by omega
  subst this;simp only[k0S,zst];exact zS
def k1S(w:List zj)(ep n:Int)(i:Nat):St:=⟨[(1,.d (.int .i64 ep)),(8,.d (.int .i64 n)),(9,.d (.int .i64 (zbD (mQ ep) w i))),(11,.d (.sl (w.map zm))),(13,.d (.int .i64 i))],[]⟩
theorem zYr(w:List zj)(ep n:Int)(h1:w.length<=24):∀i,i<=w.length->z6 G [] zsu (k1S w ep n i)=some (.exit 2,⟨[(8,.d (.int .i64 n)),(9,.d (.int .i64 (zbD (mQ ep) w w.length)))],[]⟩):=by
 refine zaL (fun i=>w.length - i) (fun i=>i<=w.length) (k1S w ep n) _ fun i hi L ih=> ?_
 by_cases h0:i<w.length
 ·have i1:=ih (i+1) zo zo;clear ih;have hp:=zh7 w[i] ep;have hle:=zu3 (mQ ep) w i;generalize zbD (mQ ep) w w.length=z at *;rw[k1S,zu4 _ h0] at i1;simp only[k1S,zsu];generalize zbD (mQ ep) w i=q at *;simp only[zm] at hp;unfold mQ at i1
  by_cases c1:w[i].epoch<ep
  ·simp only[c1,zabD,decide_true,decide_false,zabz,if_false,zacI] at i1 hp;simp only[zNr,srcO] at i1;have zk0:=zm.eq_1;exact zS
  ·simp only[c1,zabV,decide_true,decide_false,if_true] at i1 hp;simp only[zNr,srcO] at i1;have zk0:=zm.eq_1;exact zS
 ·clear ih;have:i=w.length:=by omega
  subst this;simp only[k1S,zsu];exact zS
def ziC(s:zt)(ep lim:Int):Int×Int:=
 if zab s=0/\(0<=ep/\ep<=65536)/\1<=lim/\lim<=8 then ((zbD (rdQ ep lim) (zD s.ready) (zD s.ready).length:Nat),(zbD (lsQ ep) s.leases.l s.leases.l.length:Nat)) else (0,0)
theorem zY6{s:zt}(h:zab s=0):zaE s.ready=0/\zao s.leases=0:=by
 have h0:zY s=0:=Classical.byContradiction fun hc=>by unfold zab at h;rw[zabo hc] at h;exact hc h
 by_cases e1:zaE s.ready=0
 ·refine⟨e1,Classical.byContradiction fun e2=> ?_⟩;unfold zY at h0;rw[zabn (fun hc=>hc e1),zabo e2] at h0;exact e2 h0
 ·unfold zY at h0;rw[zabo e1] at h0;exact absurd h0 e1
theorem zTo(s:zt)(ep lim:Int)(h1:s.ready.cells.length<=4294967296)(h2:s.leases.l.length<=4294967296)(h3:s.leases.heap.length<=4294967296):zi G 299 [.d (zk s),.d (.int .i64 ep),.d (.int .i64 lim)] []=some (.d (.tup [.int .i64 (ziC s ep lim).1,.int .i64 (ziC s ep lim).2]),[]):=by
 have he:=zHt ep;have hli:=zL5 lim;have hu:=zeS s h1 h2 h3
 by_cases c:zab s=0/\(0<=ep/\ep<=65536)/\1<=lim/\lim<=8
 ·unfold ziC;rw[zabo c];obtain⟨c0,c1,c2⟩:=c;rw[zabM c1] at he;rw[zabM c2] at hli;rw[c0] at hu;obtain⟨e1,e2⟩:=zY6 c0;have hl:=zQ0 e2;have hb:(zD s.ready).length<=24:=by
   rw[zg9];obtain⟨a1,a2,a3,a4,a5,a6⟩:=zcC e1;omega
  have hr:=zje e1;have hle:=zsM hl;have hl0:=zYo (zD s.ready) (s.leases.l.map (·.msg)) ep lim hb 0 zo;generalize hn:zbD (rdQ ep lim) (zD s.ready) (zD s.ready).length=n at *;have hl1:=zYr (s.leases.l.map (·.msg)) ep n (by simp;omega) 0 zo;rw[zS6 ep s.leases.l,zabE] at hl1;simp only[k0S,zbD,zacg,zac5,zabw] at hl0;simp only[k1S,zbD,zacg,zac5,zabw] at hl1;clear hn c0 e1 e2;generalize zD s.ready=w at *;generalize s.leases.l.map (·.msg)=w2 at *;simp only[zbD];obtain⟨lv,lo,hi,⟨cs,h,z⟩,⟨tl,th⟩⟩:=s;simp only[zk] at hu hr hle hl0 hl1 hl h1 h2 h3 ⊢;simp only[zNr,srcO] at hl0 hl1;exact zW
 ·unfold ziC;rw[zabn c]
  by_cases c0:zab s=0
  ·rw[c0] at hu
   by_cases c1:0<=ep/\ep<=65536
   ·rw[zabM c1] at he;rw[zabP (fun hc=>c ⟨c0,c1,hc⟩)] at hli;clear c c0;simp only[zk] at hu ⊢;exact zW
   ·rw[zabP c1] at he;clear c c0;simp only[zk] at hu ⊢;exact zW
  ·clear c;generalize zab s=v at *;simp only[zk] at hu ⊢;exact zW
def zbV(n:Int):Prop:=0<=n/\n<=1099511627776
instance (n:Int):Decidable (zbV n):=by unfold zbV;exact inferInstance
theorem zu7(n:Int):zi G 191 [.d (.int .i64 n)] []=some (.d (.bool (decide (zbV n))),[]):=by
 by_cases h:zbV n
 ·rw[zabM h];unfold zbV at h;exact zW
 ·rw[zabP h];unfold zbV at h;have e:(decide (0<=n)&&decide (n<=1099511627776))=false:=by simp;omega
  exact zW
def zhr(s:zaeF):zaeF×Int:=if ¬zbV s.seq then (zb0,1) else if s.seq.tmod 2=1 then (zb0,7) else if 1099511627774<s.seq then (zb0,6) else (⟨s.seq+1,s.epoch,s.ready,s.leased⟩,0)
theorem zSo(s:zaeF):zi G 279 [.d (zax s)] []=some (.d (.tup [zax (zhr s).1,.int .i64 (zhr s).2]),[]):=by
 unfold zhr
 by_cases h:zbV s.seq
 ·rw[zabn (fun hc=>hc h)];unfold zbV at h
  by_cases h1:s.seq.tmod 2=1
  ·simp only[h1,if_true,zax,zb0];exact zW
  ·simp only[h1,if_false]
   by_cases h2:1099511627774<s.seq
   ·simp only[h2,if_true,zax,zb0];exact zW
   ·simp only[h2,if_false,zax];exact zW
 ·rw[zabo h];unfold zbV at h;simp only[zax,zb0];exact zW
def ziF(s:zaeF)(x:zt)(ep lim:Int):zaeF×Int:=if ¬zbV s.seq then (zb0,1) else if s.seq.tmod 2=0 then (zb0,7) else if zY x≠0 then (zb0,zY x) else if ¬(0<=ep/\ep<=65536/\1<=lim/\lim<=8) then (zb0,1) else (⟨s.seq+1,ep,(ziC x ep lim).1,(ziC x ep lim).2⟩,0)
theorem zUY(s:zaeF)(x:zt)(ep lim:Int)(h1:x.ready.cells.length<=4294967296)(h2:x.leases.l.length<=4294967296)(h3:x.leases.heap.length<=4294967296):zi G 288 [.d (zax s),.d (zk x),.d (.int .i64 ep),.d (.int .i64 lim)] []=some (.d (.tup [zax (ziF s x ep lim).1,.int .i64 (ziF s x ep lim).2]),[]):=by
 have hv:=znc x h1 h2 h3;have hc:=zTo x ep lim h1 h2 h3;unfold ziF;generalize ziC x ep lim=cc at *;obtain⟨cc1,cc2⟩:=cc;generalize zY x=v at *
 by_cases h:zbV s.seq
 ·rw[zabn (fun hc=>hc h)];unfold zbV at h
  by_cases e1:s.seq.tmod 2=0
  ·simp only[e1,if_true,zax,zb0,zk];exact zW
  ·simp only[e1,if_false]
   by_cases e2:v=0
   ·subst e2;simp only[ne_eq,zabD,if_false]
    by_cases e3:0<=ep/\ep<=65536/\1<=lim/\lim<=8
    ·rw[zabn (fun hc=>hc e3)];simp only[zax,zk] at hv hc ⊢;exact zW
    ·rw[zabo e3];simp only[zax,zb0,zk] at hv ⊢;clear hc;exact zW
   ·simp only[ne_eq,e2,zabV,if_true,zax,zb0,zk] at hv ⊢;clear hc;exact zW
 ·rw[zabo h];unfold zbV at h;clear hc hv;simp only[zax,zb0,zk];exact zW
def zCS(ep:Int)(p:Int×Int)(s:zaeF):Int×Int:=if s.epoch=ep/\zbV s.seq/\zbV s.ready/\zbV s.leased then (IntKind.i64.wrap (p.1+s.ready),IntKind.i64.wrap (p.2+s.leased)) else p
def zdV(l:List zaeF)(ep:Int)(i:Nat):Int×Int:=(l.take i).foldl (zCS ep) (0,0)
theorem z9W{l:List zaeF}(ep:Int){i:Nat}(h:i<l.length):zdV l ep (i+1)=zCS ep (zdV l ep i) l[i]:=by
 unfold zdV;rw[zadU,zabx h,List.foldl_append];rfl
def zk7(l:List zaeF)(ep:Int)(i:Nat):St:=⟨[(0,.d (.sl (l.map zax))),(1,.d (.int .i64 ep)),(6,.d (.int .i64 (zdV l ep i).1)),(7,.d (.int .i64 (zdV l ep i).2)),(8,.d (.int .i64 i))],[]⟩
theorem z71(l:List zaeF)(ep:Int)(h1:l.length<=4294967296):∀i,i<=l.length->z6 G [] zsH (zk7 l ep i)=some (.exit 0,⟨[(6,.d (.int .i64 (zdV l ep l.length).1)),(7,.d (.int .i64 (zdV l ep l.length).2))],[]⟩):=by
 refine zaL (fun i=>l.length - i) (fun i=>i<=l.length) (zk7 l ep) _ fun i hi L ih=> ?_
 by_cases h0:i<l.length
 ·have i1:=ih (i+1) zo zo;clear ih;have n1:=zu7 l[i].seq;have n2:=zu7 l[i].ready;have n3:=zu7 l[i].leased;generalize zdV l ep l.length=z at *;rw[zk7,z9W ep h0] at i1;simp only[zk7,zsH];generalize zdV l ep i=q at *;obtain⟨q1,q2⟩:=q;unfold zCS at i1
  by_cases c1:l[i].epoch=ep
  ·by_cases c2:zbV l[i].seq
   ·by_cases c3:zbV l[i].ready
    ·by_cases c4:zbV l[i].leased
     ·simp only[c1,c2,c3,c4,zacK,if_true,decide_true] at i1 n1 n2 n3;simp only[zNr,srcO] at i1;have zk0:=zax.eq_1;exact zS
     ·simp only[c1,c2,c3,c4,zadr,zacK,if_false,decide_true,decide_false] at i1 n1 n2 n3;simp only[zNr,srcO] at i1;have zk0:=zax.eq_1;exact zS
    ·simp only[c1,c2,c3,zadr,zacz,zacK,if_false,decide_true,decide_false] at i1 n1 n2;simp only[zNr,srcO] at i1;have zk0:=zax.eq_1;exact zS
   ·simp only[c1,c2,zadr,zacz,zacK,if_false,decide_true,decide_false] at i1 n1;simp only[zNr,srcO] at i1;have zk0:=zax.eq_1;exact zS
  ·simp only[c1,zacz,if_false] at i1;simp only[zNr,srcO] at i1;have zk0:=zax.eq_1;exact zS
 ·clear ih;have:i=l.length:=by omega
  subst this;simp only[zk7,zsH];exact zS
theorem z9V(l:List zaeF)(ep:Int)(h1:l.length<=4294967296):zi G 157 [.d (.sl (l.map zax)),.d (.int .i64 ep)] []=some (.d (.tup [.int .i64 (zdV l ep l.length).1,.int .i64 (zdV l ep l.length).2]),[]):=by
 have hl:=z71 l ep h1 0 zo;generalize zdV l ep l.length=z at *;simp only[zk7,zdV,zacg,List.foldl_nil,zabQ] at hl;exact zW
def zh3(s:zaeF):Bool:=decide (¬s.seq.tmod 2=0)
theorem z6x(l:List zaeF)(h1:l.length<=4294967296):zi G 155 [.d (.sl (l.map zax))] []=some (.d (.bool (!l.any zh3)),[]):=by
 have:=ziZ (G:=G) (x:=zAT) (ks:=[]) l.length (atB l zh3) (fun k=>⟨[(0,.d (.sl (l.map zax))),(3,.d (.int .i64 k))],[]⟩) (fun k=>(.ret,⟨[(2,.d (.bool false))],[]⟩)) (.exit 0,⟨[],[]⟩) (fun k hk L=>by
  simp only[zAT]
  by_cases h0:k<l.length
  ·rw[zabo h0];simp only[zgH h0];unfold zh3
   by_cases h1:l[k].seq.tmod 2=0
   ·simp only[h1,zabD,decide_false,zabz,if_false];have zk0:=zax.eq_1;exact zS
   ·simp only[h1,zabV,decide_true,if_true];have zk0:=zax.eq_1;exact zS
  ·rw[zabn h0];exact zS)
 rw[zj6] at this;simp only[zNr,srcO] at this
 cases h:l.findIdx? zh3 with
 | none=>
  have e:l.any zh3=false:=zacC.2 fun x hx=>by simpa using zadv.1 h x hx
  rw[h] at this;rw[e];exact zW
 | some i=>
  obtain⟨hi,e,_⟩:=zact.1 h;have e:l.any zh3=true:=zacm.2 ⟨_,zabC hi,e⟩;rw[h] at this;rw[e];exact zW
end Go.Proofs.YtcembpbhkcbnhaaGreat
