/-
  Equality of structs and of lists.
-/
import Derived.Test.YtnmcgdpmikhohaaGreatBc8d43d5
set_option linter.unusedSimpArgs false
set_option linter.unusedVariables false
set_option maxHeartbeats 10000000
set_option maxRecDepth 100000
namespace Go.Proofs.YtnmcgdpmikhohaaGreat
open Go Go.Sim
theorem zHA(h:List Due)(j:Int):zbh h j<h.length:=by
 unfold zbh zbP
 cases e:List.findIdx? (fun d:Due=>decide (d.2=j)) h with
 | none=>simp only;omega
 | some i=>have:=(zact.1 e).1;simp only;omega
theorem zVW(h:List Due)(j:Int)(h0:0<=zbh h j):(h.getD (zbh h j).toNat dz).2=j:=by
 revert h0;unfold zbh zbP
 cases e:List.findIdx? (fun d:Due=>decide (d.2=j)) h with
 | none=>simp
 | some i=>
  obtain⟨h1,h2,_⟩:=zact.1 e;simp only[zab5];intro _;simpa [h1] using h2
theorem zHB(h:List Due)(j:Int):zbh h j<0↔j∉h.map (·.2):=by
 unfold zbh zbP
 cases e:List.findIdx? (fun d:Due=>decide (d.2=j)) h with
 | none=>
  simp only[zadv,decide_eq_false_iff_not] at e;simp only[show ((-1:Int)<0) by omega,true_iff,zaby,not_exists,not_and];exact fun d hd=>e d hd
 | some i=>
  obtain⟨h1,h2,_⟩:=zact.1 e;simp only[decide_eq_true_eq] at h2;refine⟨fun h=>by simp only at h;omega,fun hn=>absurd (zaby.2 ⟨_,zabC h1,h2⟩) hn⟩
theorem zHz(h:List Due)(i:Nat)(hi:i<h.length)(hd:(h.map (·.2)).Nodup):zbh h (h.getD i dz).2=i:=by
 unfold zbh zbP;have:List.findIdx? (fun d:Due=>decide (d.2=(h.getD i dz).2)) h=some i:=by
  refine zact.2 ⟨hi,by simp [hi],fun j hj=> ?_⟩;have:=(zacu.1 hd) j i (by simp;omega) (by simpa using hi) hj;simpa [hi] using this
 rw[this]
theorem z0e(h:List Due)(hf:∀i,i<h.length->zbh h (h.getD i dz).2=i):(h.map (·.2)).Nodup:=by
 refine zacu.2 fun i j hi hj hij=> ?_;simp only[zabE] at hi hj;simp only[zadE];intro he;have h1:=hf i hi;have h2:=hf j hj;simp only[zab0,zabx hi,zabx hj,zacS] at h1 h2;rw[he] at h1;omega
structure Ok(h:List Due):Prop where
 len:h.length<=12
 val:∀d∈h,zdZ d=true
 ids:(h.map (·.2)).Nodup
 ord:zin h
theorem zfx(h:List Due):zce h=0↔Ok h:=by
 unfold zce
 by_cases h1:12<h.length
 ·rw[zabo h1];exact⟨fun h=>by omega,fun o=>absurd o.len zo⟩
 rw[zabn h1]
 by_cases h2:h.any (fun d=> !zdZ d)=true
 ·rw[zabo h2];refine⟨fun h=>by omega,fun o=> ?_⟩;obtain⟨d,hd,h3⟩:=zacm.1 h2;simp [o.val d hd] at h3
 rw[zabn h2];have h2:∀d∈h,zdZ d=true:=by simpa using h2
 by_cases h3:(List.range' 0 h.length).any (zhD h)=true
 ·rw[zabo h3];refine⟨fun h=>by omega,fun o=> ?_⟩;obtain⟨i,hi,h4⟩:=zacm.1 h3;simp only[zadj,zabU] at hi;simp [zhD,zHz h i hi.2 o.ids] at h4;exact absurd (zHz h i hi.2 o.ids) (by simpa [dz] using h4)
 rw[zabn h3];have h3:∀i,i<h.length->zbh h (h.getD i dz).2=i:=by
  intro i hi;simp only[zacm,not_exists,not_and,zadj] at h3;have:=h3 i ⟨by omega,by omega⟩;simpa [zhD] using this
 by_cases h4:(List.range' 1 (h.length - 1)).any (zh4 h)=true
 ·rw[zabo h4];refine⟨fun h=>by omega,fun o=> ?_⟩;obtain⟨i,hi,h5⟩:=zacm.1 h4;simp only[zadj] at hi;have:=o.ord i hi.1 zo;unfold zh4 at h5;rw[h5] at this;cases this
 rw[zabn h4];refine⟨fun _=>⟨by omega,h2,z0e h h3,fun k ha hb=> ?_⟩,fun _=>rfl⟩;simp only[zacm,not_exists,not_and,zadj] at h4;have:=h4 k ⟨by omega,by omega⟩;simpa [zh4] using this
theorem Ok.of_perm{h l:List Due}(hp:l.Perm h)(hl:h.length<=12)(hv:∀d∈h,zdZ d=true)(hi:(h.map (·.2)).Nodup)(ho:zin l):Ok l:=
 ⟨by rw[hp.length_eq];exact hl,fun d hd=>hv d (hp.mem_iff.1 hd),(hp.map _).nodup_iff.2 hi,ho⟩
theorem zIQ(h:List Due)(d:Due)(k:Nat):(h++[d]).getD k dz=if k<h.length then h.getD k dz else if k=h.length then d else dz:=by
 simp only[zab0,List.getElem?_append]
 split
 ·rfl
 ·rename_i hk
  by_cases hk2:k=h.length
  ·subst hk2;simp
  ·rw[zabn hk2,zadl (by simp;omega)];rfl
theorem zBJ{h:List Due}{d:Due}(o:Ok h)(hd:zdZ d=true)(hl:h.length<12)(hn:d.2∉h.map (·.2)):zfj h d=(zfk h d,0)/\Ok (zfk h d)/\(zfk h d).Perm (d::h):=by
 have hp:(zfk h d).Perm (d::h):=(zRf (h++[d]) h.length (by simp)).trans (zadX (l₂:=[d]));have he:zm9 h d=0:=by
  unfold zm9;rw[(zfx h).2 o,hd,zabn (by simp),zabn (by simp),zabn zo,zabn];have:=(zHB h d.2).2 hn;omega
 refine⟨by unfold zfj;rw[he,zabo rfl],.of_perm hp (by simp;omega) (fun x hx=>by rcases zab4.1 hx with rfl|hx;exact hd;exact o.val x hx) (by simpa using ⟨by simpa using hn,o.ids⟩) ?_,hp⟩;refine zRe _ _ (by simp) (fun k ha hb hc=> ?_) (fun k ha hb hc=> ?_)
 ·simp only[zabv,zabu,zabw] at hb;rw[zIQ,zIQ,zabo zo,zabo zo];exact o.ord k ha zo
 ·simp only[zabv,zabu,zabw] at hb;omega
theorem zQz:∀(l:List Due) (i:Nat) (b:Due),i<l.length->(l.getD i dz::l.set i b).Perm (b::l):=by
 intro l
 induction l with
 | nil=>intro i b h;simp at h
 | cons x xs ih=>
  intro i b h
  cases i with
  | zero=>exact .swap _ _ _
  | succ i=>
   simp only[zabu,Nat.add_lt_add_iff_right] at h;simp only[List.getD_cons_succ,List.set_cons_succ];exact (List.Perm.swap _ _ _).trans (((ih i b h).cons x).trans (.swap _ _ _))
theorem zaaa(h:List Due)(h0:0<h.length):h=h.take (h.length - 1)++[h.getD (h.length - 1) dz]:=by
 have:=List.take_append_getLast h (by intro hn;simp [hn] at h0);rw[List.getLast_eq_getElem] at this;simpa [show h.length - 1<h.length by omega] using this.symm
theorem zRd{l:List Due}{i:Nat}:(upL l i).2<=i/\((0<i/\lt (l.getD i dz) (l.getD ((i - 1) / 2) dz)=true/\(upL l i).2<i)\/(¬(0<i/\lt (l.getD i dz) (l.getD ((i - 1) / 2) dz)=true)/\upL l i=(l,i))):=by
 fun_induction upL l i with
 | case1 l i h0 hlt ih=>exact⟨by omega,.inl ⟨h0,hlt,by omega⟩⟩
 | case2 l i h0 hlt=>exact⟨by simp,.inr ⟨fun h=>hlt h.2,rfl⟩⟩
 | case3 l i h0=>exact⟨by simp,.inr ⟨fun h=>h0 h.1,rfl⟩⟩
theorem zl7{h:List Due}(o:Ok h)(i:Nat)(hi:i<h.length):Ok (zdB h i)/\(h.getD i dz::zdB h i).Perm h:=by
 have hlast:=zaaa h zo;obtain⟨m,hm⟩:∃m,m=h.length - 1:=⟨_,rfl⟩;obtain⟨t,ht⟩:∃t,t=h.take m:=⟨_,rfl⟩;have htl:t.length=m:=by simp [ht];omega
 have hg:∀k,k<m->t.getD k dz=h.getD k dz:=fun k hk=>by simp [ht,zaed,hk]
 rw[<- hm, <- ht] at hlast;unfold zdB;rw[<- hm, <- ht];have key:∀l:List Due,(h.getD i dz::l).Perm h->zin l->Ok l/\(h.getD i dz::l).Perm h:=fun l hp ho=>by
  refine⟨⟨?_,fun d hd=>o.val d (hp.mem_iff.1 (by simp [hd])),?_,ho⟩,hp⟩
  ·have:=hp.length_eq;simp at this;have:=o.len;omega
  ·have:=((hp.map (·.2)).nodup_iff).2 o.ids;rw[zabs,zacv] at this;exact this.2
 by_cases h1:i=m
 ·rw[zabo h1];refine key t ?_ fun k ha hb=> ?_
  ·subst h1
   conv=>rhs;rw[hlast]
   exact (zadX (l₁:=[_]))
  ·rw[htl] at hb;rw[hg _ hb,hg _ zo];exact o.ord k ha zo
 ·rw[zabn h1];have him:i<m:=by omega
  simp only;obtain⟨x,hx⟩:∃x,x=h.getD m dz:=⟨_,rfl⟩;obtain⟨l,hl⟩:∃l,l=t.set i x:=⟨_,rfl⟩;have hll:l.length=m:=by rw[hl,zacb,htl]
  have hlg:∀k,k<m->l.getD k dz=if k=i then x else h.getD k dz:=fun k hk=>by
   rw[<- hg k hk,hl];simp only[zab0,zadh,htl]
   by_cases hki:k=i
   ·subst hki;simp [hk]
   ·rw[zabn (Ne.symm hki),zabn hki]
  have hp:(h.getD i dz::l).Perm h:=by
   rw[<- hg i him,hl];refine (zQz t i x zo).trans ?_;rw[hlast,hx]
   conv=>rhs;rw[<- hlast]
   conv=>rhs;rw[hlast]
   exact zadX (l₁:=[_])
  rw[<- hx, <- hl];have ord:=o.ord;have hch:∀k,1<=k->k<l.length->(k - 1) / 2=i->1<=i->lt (l.getD k dz) (l.getD ((i - 1) / 2) dz)=false:=fun k ha hb hc hd=>by
   rw[hlg k zo,hlg _ zo,zabn zo,zabn zo];have a:=ord k ha zo;have b:=ord i hd zo;rw[hc] at a;exact ziV b a
  rcases (zRd (l:=l) (i:=i)).2 with ⟨h0,hlt,hmv⟩|⟨hno,heq⟩
  ·rw[zabn zo];refine key _ (((zRf l i zo).cons _).trans hp) (zRe l i zo (fun k ha hb hc=> ?_) hch)
   by_cases hq:(k - 1) / 2=i
   ·have a:=hch k ha hb hq zo;rw[hq];exact ziV (zi0 hlt) a
   ·rw[hlg k zo,hlg _ zo,zabn hc,zabn hq];exact ord k ha zo
  ·rw[heq,zabo rfl];refine key _ (((zUa l i zo).cons _).trans hp) (zT9 l i zo (fun k ha hb hc=> ?_) hch)
   by_cases hk:k=i
   ·subst hk;rw[<- zac3];exact fun h=>hno ⟨by omega,h⟩
   ·rw[hlg k zo,hlg _ zo,zabn hk,zabn hc];exact ord k ha zo
theorem zaaC{h:List Due}(o:zin h):∀k,k<h.length->lt (h.getD k dz) (h.getD 0 dz)=false:=by
 intro k
 induction k using Nat.strongRecOn with
 | ind k ih=>
  intro hk
  by_cases h0:k=0
  ·subst h0;rw[zg6];omega
  ·exact ziV (ih ((k - 1) / 2) zo zo) (o k zo hk)
theorem zQ6{h:List Due}(o:zin h)(d:Due)(hd:d∈h):lt d (h.getD 0 dz)=false:=by
 obtain⟨k,hk,rfl⟩:=zadu.1 hd;have:=zaaC o k hk;simpa [hk] using this
theorem zhc(a b:Due):zi G zor [.d (eD a),.d (eD b)] []=some (.d (.bool (lt a b)),[]):=by
 have key:lt a b=(decide (a.1<b.1)||(decide (a.1=b.1)&&decide (a.2<b.2))):=by
  have:=zBe a b
  cases h:lt a b
  ·rw[h] at this;simp at this;simp;omega
  ·rw[h] at this;simp at this;simp;omega
 rw[key];simp only[eD];clear key;exact zW zWS
theorem zQf(d:Due):zi G zou [.d (eD d)] []=some (.d (.bool (zdZ d)),[]):=by
 unfold zdZ;simp only[eD];exact zW zWU
def znk(h:List Due)(j:Int)(k:Nat):zX×St:=match (h.drop k).findIdx? (fun d=>decide (d.2=j)) with|some i=>(.ret,⟨[(4,.d (.int .i64 ((k+i:Nat):Int)))],[]⟩)|none=>(.exit 0,⟨[],[]⟩)
theorem z7e(h:List Due)(j:Int)(hL:h.length<=LIM):∀k,k<=h.length->z6 G [] zAG ⟨[(0,.d (.sl (h.map eD))),(1,.d (.int .i64 j)),(5,.d (.int .i64 k))],[]⟩=some (znk h j k):=by
 refine zaL (fun k=>h.length - k) (fun k=>k<=h.length) _ _ fun k hk L ih=> ?_;simp -implicitDefEqProofs (maxSteps:=4000000) (disch:=omega) only[zAG,go_sem]
 by_cases hlt:k<h.length
 ·simp -implicitDefEqProofs (maxSteps:=4000000) (disch:=omega) only[zabE,show ((k:Int)<(h.length:Int)) by omega,show (0:Int)<=(k:Int) by omega,zab5,zabI,zabx hlt,ze5,zfS,eD,ztW hlt hL,go_sem];unfold znk;rw[zabX hlt,List.findIdx?_cons]
  by_cases he:h[k].2=j
  ·simp [he]
  ·simp only[he,decide_false,zabz,if_false];have i1:=ih (k+1) zo zo;simp only[zacs,zacy] at i1;rw[i1];unfold znk
   cases (h.drop (k+1)).findIdx? (fun d=>decide (d.2=j)) with
   | none=>rfl
   | some i=>simp;omega
 ·have:k=h.length:=by omega
  subst this;simp -implicitDefEqProofs (maxSteps:=4000000) (disch:=omega) only[zabE,show ¬((h.length:Int)<(h.length:Int)) by omega,go_sem];simp [znk]
theorem zCx(h:List Due)(j:Int)(hL:h.length<=LIM):zi G zot [.d (.sl (h.map eD)),.d (.int .i64 j)] []=some (.d (.int .i64 (zbh h j)),[]):=by
 have:=z7e h j hL 0 zo;simp only[zabQ] at this;rw[zI zWT (by simp)];simp -implicitDefEqProofs (maxSteps:=4000000) (disch:=omega) only[zuA,zB7,go_sem,zabU];simp only[this];unfold znk zbh zbP;simp only[zabZ,zabU]
 cases h.findIdx? (fun d=>decide (d.2=j))<;>simp -implicitDefEqProofs (maxSteps:=4000000) (disch:=omega) only[go_sem]
def zaeO(h:List Due)(k:Nat):zX×St:=if (h.drop k).any (fun d=> !zdZ d) then (.ret,⟨[(2,.d (.int .i64 1))],[]⟩) else (.exit 0,⟨[(0,.d (.sl (h.map eD)))],[]⟩)
theorem z7i(h:List Due)(hL:h.length<=12):∀k,k<=h.length->z6 G [] zAD ⟨[(0,.d (.sl (h.map eD))),(3,.d (.int .i64 k))],[]⟩=some (zaeO h k):=by
 refine zaL (fun k=>h.length - k) (fun k=>k<=h.length) _ _ fun k hk L ih=> ?_;simp -implicitDefEqProofs (maxSteps:=4000000) (disch:=omega) only[zAD,go_sem]
 by_cases hlt:k<h.length
 ·have hs:=zQf h[k];simp -implicitDefEqProofs (maxSteps:=4000000) (disch:=omega) only[zabE,show ((k:Int)<(h.length:Int)) by omega,show (0:Int)<=(k:Int) by omega,zab5,zabI,zabx hlt,ze5,zfS,hs,ztW hlt (show h.length<=LIM by simp [LIM];omega),go_sem];have i1:=ih (k+1) zo zo;simp only[zacs,zacy] at i1;rw[i1];unfold zaeO;rw[zabX hlt,zac4]
  cases zdZ h[k]<;>rfl
 ·have:k=h.length:=by omega
  subst this;simp -implicitDefEqProofs (maxSteps:=4000000) (disch:=omega) only[zabE,show ¬((h.length:Int)<(h.length:Int)) by omega,go_sem];simp [zaeO]
def znl(h:List Due)(k:Nat):zX×St:=if (List.range' k (h.length - k)).any (zhD h) then (.ret,⟨[(2,.d (.int .i64 10))],[]⟩) else (.exit 2,⟨[(0,.d (.sl (h.map eD)))],[]⟩)
theorem z7j(h:List Due)(hL:h.length<=12):∀k,k<=h.length->z6 G [] zAE ⟨[(0,.d (.sl (h.map eD))),(4,.d (.int .i64 k))],[]⟩=some (znl h k):=by
 refine zaL (fun k=>h.length - k) (fun k=>k<=h.length) _ _ fun k hk L ih=> ?_;simp -implicitDefEqProofs (maxSteps:=4000000) (disch:=omega) only[zAE,go_sem]
 by_cases hlt:k<h.length
 ·have hf:=zCx h h[k].2 (by simp [LIM];omega);simp -implicitDefEqProofs (maxSteps:=4000000) (disch:=omega) only[zabE,show ((k:Int)<(h.length:Int)) by omega,show (0:Int)<=(k:Int) by omega,zab5,zabI,zabx hlt,ze5,zfS,eD,hf,ztW hlt (show h.length<=LIM by simp [LIM];omega),go_sem];have i1:=ih (k+1) zo zo;simp only[zacs,zacy] at i1;rw[i1];unfold znl;rw[show h.length - k=(h.length - (k+1))+1 by omega,zacX,zac4];have hd:zhD h k= !decide (zbh h h[k].2=k):=by simp [zhD,hlt]
  rw[hd]
  cases decide (zbh h h[k].2=k)<;>rfl
 ·have:k=h.length:=by omega
  subst this;simp -implicitDefEqProofs (maxSteps:=4000000) (disch:=omega) only[zabE,show ¬((h.length:Int)<(h.length:Int)) by omega,go_sem];simp [znl]
def ztp(h:List Due)(k:Nat):zX×St:=if (List.range' k (h.length - k)).any (zh4 h) then (.ret,⟨[(2,.d (.int .i64 11))],[]⟩) else (.exit 4,⟨[],[]⟩)
theorem z7k(h:List Due)(hL:h.length<=12):∀k:Nat,1<=k->z6 G [] zAF ⟨[(0,.d (.sl (h.map eD))),(5,.d (.int .i64 k))],[]⟩=some (ztp h k):=by
 refine zaL (fun k=>h.length - k) (fun k=>1<=k) _ _ fun k hk L ih=> ?_;simp -implicitDefEqProofs (maxSteps:=4000000) (disch:=omega) only[zAF,go_sem]
 by_cases hlt:k<h.length
 ·have hq:IntKind.i64.wrap (((k:Int) - 1).tdiv 2)=(((k - 1) / 2:Nat):Int):=by
     rw[zRn (by rw[zac2 zo];omega) (by rw[zac2 zo];omega),zac2 zo];omega
  have hlt2:(k - 1) / 2<h.length:=by omega
  have hb:=zhc h[k] h[(k - 1) / 2];simp -implicitDefEqProofs (maxSteps:=4000000) (disch:=omega) only[zabE,show ((k:Int)<(h.length:Int)) by omega,show (((k - 1) / 2:Nat):Int)<(h.length:Int) by omega,zRn (show -4294967296<=(k:Int) - 1 by omega) zo,hq,hb,Int.natCast_nonneg,zab5,zabI,zabx hlt,zabx hlt2,ze5,zfS,ztW hlt (show h.length<=LIM by simp [LIM];omega),go_sem];have i1:=ih (k+1) zo zo;simp only[zacs,zacy] at i1;rw[i1];unfold ztp;rw[show h.length - k=(h.length - (k+1))+1 by omega,zacX,zac4];have hd:zh4 h k=lt h[k] h[(k - 1) / 2]:=by simp [zh4,hlt,hlt2]
  rw[hd]
  cases lt h[k] h[(k - 1) / 2]<;>rfl
 ·simp -implicitDefEqProofs (maxSteps:=4000000) (disch:=omega) only[zabE,show ¬((k:Int)<(h.length:Int)) by omega,go_sem];simp [ztp,show h.length - k=0 by omega]
theorem ztq(h:List Due)(hL:h.length<=LIM):zi G zoq [.d (.sl (h.map eD))] []=some (.d (.int .i64 (zce h)),[]):=by
 rw[zI zWR (by simp)];simp -implicitDefEqProofs (maxSteps:=4000000) (disch:=omega) only[zuz,zB6,go_sem,zabU];unfold zce
 by_cases h12:12<h.length
 ·simp -implicitDefEqProofs (maxSteps:=4000000) (disch:=omega) only[h12,zabE,show (12<(h.length:Int)) by omega,go_sem]
 ·have e0:=z7i h zo 0 zo;have e1:=z7j h zo 0 zo;have e2:=z7k h zo 1 zo;simp only[zabQ] at e0 e1;simp only[zacy] at e2;have hlen:¬(12<(h.length:Int)):=by omega
  cases hA:h.any (fun d=> !zdZ d)
  ·cases hB:(List.range' 0 h.length).any (zhD h)
   ·cases hC:(List.range' 1 (h.length - 1)).any (zh4 h)<;>
       simp -implicitDefEqProofs (maxSteps:=4000000) (disch:=omega) only[h12,zabE,hlen,e0,e1,e2,zaeO,znl,ztp,zabZ,zacO,hA,hB,hC,go_sem]
   ·simp -implicitDefEqProofs (maxSteps:=4000000) (disch:=omega) only[h12,zabE,hlen,e0,e1,zaeO,znl,zabZ,zacO,hA,hB,go_sem]
  ·simp -implicitDefEqProofs (maxSteps:=4000000) (disch:=omega) only[h12,zabE,hlen,e0,zaeO,zabZ,hA,go_sem]
theorem z8Z{h:List Due}{i j:Nat}(hi:i<h.length)(hj:j<h.length):(((h.map eD).set i (eD h[j])).map AV.d)[j]? = some (.d (eD h[j])):=by
 rw[zabI,zadh]
 by_cases e:i=j
 ·rw[zabo e,zabo (by simpa using hi)];rfl
 ·rw[zabn e,zabI,zabx hj];rfl
theorem zCy(h:List Due)(i j:Nat)(hi:i<h.length)(hj:j<h.length)(hL:h.length<=1000):zi G zov [.d (.sl (h.map eD)),.d (.int .i64 i),.d (.int .i64 j)] []=some (.d (.sl ((swp h i j).map eD)),[]):=by
 have hs:=zjJ h;have h2:=z8Z hi hj;have hz:¬h.length=0:=by omega
 unfold swp;rw[zh hi,zh hj];have hl:(((h.map eD).set i (eD h[j])).set j (eD h[i])).length=h.length:=by simp
 have ht:List.take h.length (((h.map eD).set i (eD h[j])).set j (eD h[i]))=((h.map eD).set i (eD h[j])).set j (eD h[i]):=zada (by rw[hl];exact zabR _);exact zW zWV
def zto(p:List Due×Nat):St:=⟨[(0,.d (.sl (p.1.map eD))),(1,.d (.int .i64 p.2))],[]⟩
theorem z7h:∀p:List Due×Nat,p.2<p.1.length/\p.1.length<=1000->z6 G [] zAH (zto p)=some (.exit 0,⟨[(0,.d (.sl ((upL p.1 p.2).1.map eD)))],[]⟩):=by
 refine zaL (fun p:List Due×Nat=>p.2) (fun p:List Due×Nat=>p.2<p.1.length/\p.1.length<=1000) zto _ fun⟨l,i⟩ ⟨hi,hL⟩ L ih=> ?_;simp only[zto] at hi hL ih ⊢;simp only[zAH];rw[upL]
 by_cases h0:0<i
 ·have hq:((i:Int) - 1).tdiv 2=(((i - 1) / 2:Nat):Int):=by rw[zac2 zo];omega
  have hj:(i - 1) / 2<l.length:=by omega
  have hb:=zhc l[i] l[(i - 1) / 2];have hsw:=zCy l i ((i - 1) / 2) hi hj hL;have fin:=ih (swp l i ((i - 1) / 2),(i - 1) / 2) ⟨by simp only[zcP];omega,by simp only[zcP];omega⟩ (by simp only;omega);simp only at fin;rw[zabo h0,zh hi,zh hj];have hsl:=zcP l i ((i - 1) / 2);generalize upL (swp l i ((i - 1) / 2)) ((i - 1) / 2)=r at *;generalize swp l i ((i - 1) / 2)=sw at *;clear ih
  cases hlt:lt l[i] l[(i - 1) / 2]
  ·rw[hlt] at hb;simp only[if_false,zabz];clear hlt fin hsw;exact zS
  ·rw[hlt] at hb;simp only[if_true];clear hlt;exact zS
 ·rw[zabn h0];clear ih;exact zS
theorem zQg(h:List Due)(i:Nat)(hi:i<h.length)(hL:h.length<=1000):zi G zow [.d (.sl (h.map eD)),.d (.int .i64 i)] []=some (.d (.sl ((upL h i).1.map eD)),[]):=by
 have:=z7h (h,i) ⟨hi,hL⟩;simp only[zto] at this;rw[zI zWW (by simp)];simp -implicitDefEqProofs (maxSteps:=4000000) (disch:=omega) only[zuB,zB8,go_sem,zabU];simp -implicitDefEqProofs (maxSteps:=4000000) (disch:=omega) only[this,go_sem]
theorem zQd(h:List Due)(d:Due)(hL:h.length<=LIM):zi G zon [.d (.sl (h.map eD)),.d (eD d)] []=some (.d (eDE (zfj h d)),[]):=by
 have hv:=ztq h hL;have hf:=zCx h d.2 hL;have hd:=zQf d;have hs:=zjJ h;have hL2:h.length<=4294967296:=hL;unfold zfj zm9 eDE
 by_cases h0:zce h=0
 ·have h12:=zDe h0;rw[h0] at hv;simp only[h0,ne_eq,zabD,if_false];clear h0
  cases h1:zdZ d
  ·rw[h1] at hd;simp only[if_true,zabq,show ((1:Int)=0)=False by simp,if_false];clear h1 hf;exact zW zmj
  ·rw[h1] at hd;simp only[zacf,if_false];clear h1
   by_cases h2:h.length=12
   ·simp only[h2,if_true,zabq,show ((3:Int)=0)=False by simp,if_false];clear hf;exact zW zmj
   ·simp only[h2,if_false]
    by_cases h3:0<=zbh h d.2
    ·simp only[h3,if_true,zabq,show ((10:Int)=0)=False by simp,if_false];exact zW zmj
    ·simp only[h3,if_false,if_true];obtain⟨l,hl⟩:∃l,l=h++[d]:=⟨_,rfl⟩;have e1:h.map eD++[D.agg [.int .i64 d.1,.int .i64 d.2]]=l.map eD:=by simp [eD,hl]
     have e2:l.length=h.length+1:=by simp [hl]
     have hu:=zQg l h.length zo zo;unfold zfk;rw[<- hl];have hul:=zaaR l h.length;have hsl:=zjJ l;generalize upL l h.length=r at *;simp only[eD] at hd ⊢;clear hl;exact zW zmj
 ·simp only[h0,ne_eq,zabV,if_true,if_false,zabq];clear hf hd;exact zW zmj
def zkZ(p:List Due×Nat):St:=⟨[(0,.d (.sl (p.1.map eD))),(1,.d (.int .i64 p.2))],[]⟩
theorem z7c:∀p:List Due×Nat,p.2<p.1.length/\p.1.length<=1000->∃e:zX,(e= .exit 0/\z6 G [] zsr (zkZ p)=some (.exit 0,⟨[(0,.d (.sl ((zbs p.1 p.2).map eD)))],[]⟩))\/(e= .ret/\z6 G [] zsr (zkZ p)=some (.ret,⟨[(4,.d (.sl ((zbs p.1 p.2).map eD)))],[]⟩)):=by
 refine zsO (fun p:List Due×Nat=>p.1.length - p.2) (fun p:List Due×Nat=>p.2<p.1.length/\p.1.length<=1000) zkZ (fun p r=>∃e:zX,(e= .exit 0/\r=some (.exit 0,⟨[(0,.d (.sl ((zbs p.1 p.2).map eD)))],[]⟩))\/(e= .ret/\r=some (.ret,⟨[(4,.d (.sl ((zbs p.1 p.2).map eD)))],[]⟩))) fun⟨l,i⟩ ⟨hi,hL⟩ L ih=> ?_;simp only[zkZ] at hi hL ih ⊢;simp only[zsr]
 by_cases h1:2 * i+1<l.length
 ·have fin:∀k:Nat,i<k->k<l.length->∃e:zX,(e= .exit 0/\L ⟨[(0,.d (.sl ((swp l i k).map eD))),(1,.d (.int .i64 k))],[]⟩=some (.exit 0,⟨[(0,.d (.sl ((zbs (swp l i k) k).map eD)))],[]⟩))\/(e= .ret/\L ⟨[(0,.d (.sl ((swp l i k).map eD))),(1,.d (.int .i64 k))],[]⟩=some (.ret,⟨[(4,.d (.sl ((zbs (swp l i k) k).map eD)))],[]⟩)):=fun k h1 h2=>
     ih (swp l i k,k) ⟨by simp only[zcP];omega,by simp only[zcP];omega⟩ (by simp only[zcP];omega)
  have hg:∀k:Nat,k<l.length->(List.map eD l)[k]? = some (eD (l.getD k (0,0))):=fun k hk=>by simp [zabI,zabx hk,hk]
  have g0:=hg i hi;have g1:=hg _ h1;have s1:=zCy l i (2 * i+1) hi h1 hL;have f1:=fin (2 * i+1) zo h1;simp only[zacs,zadC,zacy,zadf] at s1 f1;have t1:((2:Int) * (i:Int)+1).toNat=2 * i+1:=by omega
  have t2:((2:Int) * (i:Int)+1+1).toNat=2 * i+1+1:=by omega
  by_cases h2:2 * i+1+1<l.length
  ·have g2:=hg _ h2;have s2:=zCy l i (2 * i+1+1) hi h2 hL;have f2:=fin (2 * i+1+1) zo h2;simp only[zacs,zadC,zacy,zadf] at s2 f2
   cases hlt:lt (l.getD (2 * i+1+1) (0,0)) (l.getD (2 * i+1) (0,0))
   ·cases hlt2:lt (l.getD (2 * i+1) (0,0)) (l.getD i (0,0))
    ·simp -implicitDefEqProofs (maxSteps:=4000000) (disch:=omega) only[go_sem,g0,g1,g2,t1,t2,zhc,hlt,hlt2,ze5,zfS];have e:zbs l i=l:=by rw[zbs];simp only[h1,h2,hlt,hlt2,dite_true,dite_false,zacB,zacT,zacz,if_true,if_false,zabz,reduceCtorEq]
     exact⟨.ret,.inr ⟨rfl,by rw[e]⟩⟩
    ·simp -implicitDefEqProofs (maxSteps:=4000000) (disch:=omega) only[go_sem,g0,g1,g2,t1,t2,zhc,hlt,hlt2,s1,ze5,zfS];have e:zbs l i=zbs (swp l i (2 * i+1)) (2 * i+1):=by rw[zbs];simp only[h1,h2,hlt,hlt2,dite_true,dite_false,zacB,zacT,zacz,if_true,if_false,zabz,reduceCtorEq]
     rw[e];exact f1
   ·cases hlt2:lt (l.getD (2 * i+1+1) (0,0)) (l.getD i (0,0))
    ·simp -implicitDefEqProofs (maxSteps:=4000000) (disch:=omega) only[go_sem,g0,g1,g2,t1,t2,zhc,hlt,hlt2,ze5,zfS];have e:zbs l i=l:=by rw[zbs];simp only[h1,h2,hlt,hlt2,dite_true,dite_false,zacB,zacT,zacz,if_true,if_false,zabz,reduceCtorEq]
     exact⟨.ret,.inr ⟨rfl,by rw[e]⟩⟩
    ·simp -implicitDefEqProofs (maxSteps:=4000000) (disch:=omega) only[go_sem,g0,g1,g2,t1,t2,zhc,hlt,hlt2,s2,ze5,zfS];have e:zbs l i=zbs (swp l i (2 * i+1+1)) (2 * i+1+1):=by rw[zbs];simp only[h1,h2,hlt,hlt2,dite_true,dite_false,zacB,zacT,zacz,if_true,if_false,zabz,reduceCtorEq]
     rw[e];exact f2
  ·cases hlt2:lt (l.getD (2 * i+1) (0,0)) (l.getD i (0,0))
   ·simp -implicitDefEqProofs (maxSteps:=4000000) (disch:=omega) only[go_sem,g0,g1,t1,t2,zhc,hlt2,ze5,zfS];have e:zbs l i=l:=by rw[zbs];simp only[h1,h2,hlt2,dite_true,dite_false,zacB,zacT,zacz,if_true,if_false,zabz,reduceCtorEq]
    exact⟨.ret,.inr ⟨rfl,by rw[e]⟩⟩
   ·simp -implicitDefEqProofs (maxSteps:=4000000) (disch:=omega) only[go_sem,g0,g1,t1,t2,zhc,hlt2,s1,ze5,zfS];have e:zbs l i=zbs (swp l i (2 * i+1)) (2 * i+1):=by rw[zbs];simp only[h1,h2,hlt2,dite_true,dite_false,zacB,zacT,zacz,if_true,if_false,zabz,reduceCtorEq]
    rw[e];exact f1
 ·simp -implicitDefEqProofs (maxSteps:=4000000) (disch:=omega) only[go_sem,zabU];have e:zbs l i=l:=by rw[zbs];simp only[h1,dite_false]
  exact⟨.exit 0,.inl ⟨rfl,by rw[e]⟩⟩
theorem z7d(h:List Due)(i:Nat)(hi:i<h.length)(hL:h.length<=1000):zi G zos [.d (.sl (h.map eD)),.d (.int .i64 i)] []=some (.d (.sl ((zbs h i).map eD)),[]):=by
 obtain⟨e,h1|h1⟩:=z7c (h,i) ⟨hi,hL⟩
 ·have:=h1.2;simp only[zkZ] at this;rw[zI zH9 (by simp)];simp -implicitDefEqProofs (maxSteps:=4000000) (disch:=omega) only[zqO,zs7,go_sem,this]
 ·have:=h1.2;simp only[zkZ] at this;rw[zI zH9 (by simp)];simp -implicitDefEqProofs (maxSteps:=4000000) (disch:=omega) only[zqO,zs7,go_sem,this]
theorem zQc(h:List Due)(i:Nat)(hi:i<h.length)(hL:h.length<=1000):zi G zly [.d (.sl (h.map eD)),.d (.int .i64 i)] []=some (.d (.sl ((zdB h i).map eD)),[]):=by
 obtain⟨m,hm⟩:∃m,m=h.length - 1:=⟨_,rfl⟩;obtain⟨t,ht⟩:∃t,t=h.take m:=⟨_,rfl⟩;have htl:t.length=m:=by simp [ht];omega
 have e1:List.take m (h.map eD)=t.map eD:=by rw[ht,zac7]
 have w1:((h.length:Int) - 1)=(m:Int):=by omega
 have hmlt:m<h.length:=by omega
 have him:i<=m/\m<=1000:=by omega
 have him2:m<=4294967296:=by omega
 have hs:=zjJ h;have hs2:=zjJ t;unfold zdB;rw[<- hm, <- ht]
 by_cases hi2:i=m
 ·subst hi2;rw[zabo rfl];clear hm ht;exact zW zrF
 ·have hi3:i<m:=by omega
  rw[zabn hi2];obtain⟨l,hl⟩:∃l,l=t.set i (h.getD m (0,0)):=⟨_,rfl⟩;have hll:l.length=m:=by rw[hl,zacb,htl]
  have e5:(t.map eD).set i (eD (h[m]'hmlt))=l.map eD:=by rw[hl,zh hmlt,zacw]
  have hu:=zQg l i zo zo;have hd:=z7d l i zo zo;rw[<- hl];show zi G zly _ _=some (.d (.sl ((if (upL l i).2=i then zbs (upL l i).1 i else (upL l i).1).map eD)),[]);have hat:= @zRd l i;have hup:(¬0<i\/lt (l.getD i (0,0)) (l.getD ((i - 1) / 2) (0,0))=false)->upL l i=(l,i):=fun hc=>by
   rw[upL]
   rcases hc with hc|hc
   ·rw[zabn hc]
   ·split
    ·rw[zabn (by rw[hc];decide)]
    ·rfl
  have hm4:m<=1000:=by omega
  clear hl hm ht
  by_cases h0:0<i
  ·have hq:((i:Int) - 1).tdiv 2=(((i - 1) / 2:Nat):Int):=by rw[zac2 zo];omega
   have hj:(i - 1) / 2<l.length:=by omega
   have hil:i<l.length:=by omega
   have hbf:=zhc l[i] l[(i - 1) / 2]
   cases hlt:lt l[i] l[(i - 1) / 2]
   ·rw[hup (.inr (by rw[zh hil,zh hj];exact hlt))] at hu ⊢;rw[zabo rfl];rw[hlt] at hbf;clear hlt hup hat hu;exact zW zrF
   ·have:¬(upL l i).2=i:=by
       rcases hat.2 with hc|hc
       ·omega
       ·exact absurd ⟨h0,by rw[zh hil,zh hj];exact hlt⟩ hc.1
    rw[zabn this];rw[hlt] at hbf;generalize upL l i=r at *;clear hlt hup hat hd this;exact zW zrF
  ·rw[hup (.inl h0)];rw[zabo rfl];clear hup hat hu;exact zW zrF
theorem zQe(h:List Due)(id:Int)(hL:h.length<=LIM):zi G zoo [.d (.sl (h.map eD)),.d (.int .i64 id)] []=some (.d (eDE (zb6 h id)),[]):=by
 have hv:=ztq h hL;have hf:=zCx h id hL;unfold zb6 eDE
 by_cases h0:zce h=0
 ·have h12:=zDe h0
  by_cases hn:zbh h id<0
  ·rw[zI zzi (by simp)];simp -implicitDefEqProofs (maxSteps:=4000000) (disch:=omega) only[zl1,zne,go_sem,hv,h0,hf,hn,zabq]
  ·have hd:=zQc h (zbh h id).toNat (by have:=zV1 h id;omega) zo;rw[show (((zbh h id).toNat:Nat):Int)=zbh h id by omega] at hd;rw[zI zzi (by simp)];simp -implicitDefEqProofs (maxSteps:=4000000) (disch:=omega) only[zl1,zne,go_sem,hv,h0,hf,hn,hd]
 ·rw[zI zzi (by simp)];simp -implicitDefEqProofs (maxSteps:=4000000) (disch:=omega) only[zl1,zne,go_sem,hv,h0]
def Asc(l:List Due)(n:Nat):Prop:=∀p q,p<q->q<n->lt (l.getD q dz) (l.getD p dz)=false
def ziS(l:List Due)(j:Nat):List Due:=
 if 0<j then (if lt (l.getD j dz) (l.getD (j - 1) dz) then ziS (swp l j (j - 1)) (j - 1) else l) else l
termination_by j
theorem zLK(l:List Due)(j:Nat):(ziS l j).length=l.length:=by
 fun_induction ziS l j with
 | case1 l j h0 h1 ih=>rw[ih,zcP]
 | case2=>rfl
 | case3=>rfl
theorem zX4(l:List Due)(j i:Nat)(hi:i<l.length)(hj:j<=i)(h1:∀p q,p<q->q<=i->p≠j->q≠j->lt (l.getD q dz) (l.getD p dz)=false)(h2:∀q,j<q->q<=i->lt (l.getD q dz) (l.getD j dz)=false):Asc (ziS l j) (i+1)/\(ziS l j).Perm l:=by
 fun_induction ziS l j with
 | case1 l j h0 hlt ih=>
  have hs:∀k,(swp l j (j - 1)).getD k dz=if k=j - 1 then l.getD j dz else if k=j then l.getD (j - 1) dz else l.getD k dz:=fun k=>zCW l j (j - 1) k zo zo
  have ih':=ih (by rw[zcP];exact hi) zo (fun p q hpq hq hp hq2=>by
      rw[hs,hs]
      by_cases e1:q=j
      ·subst e1;rw[zabn zo,zabo rfl,zabn zo,zabn zo];exact h1 p (q - 1) zo zo zo zo
      ·by_cases e2:p=j
       ·subst e2;rw[zabn zo,zabn zo,zabn zo,zabo rfl];exact h1 (p - 1) q zo hq zo zo
       ·rw[zabn zo,zabn e1,zabn zo,zabn e2];exact h1 p q hpq hq e2 e1) (fun q hq1 hq2=>by
      rw[hs,hs,zabn zo,zabo rfl]
      by_cases e1:q=j
      ·rw[zabo e1];exact zi0 hlt
      ·rw[zabn e1];exact h2 q zo hq2)
  exact⟨ih'.1,ih'.2.trans (zCX l j (j - 1) zo zo)⟩
 | case2 l j h0 hlt=>
  refine⟨fun p q hpq hq=> ?_,.refl _⟩;have hjj:lt (l.getD j dz) (l.getD (j - 1) dz)=false:=by simpa using hlt
  by_cases e1:p=j
  ·subst e1;exact h2 q hpq zo
  ·by_cases e2:q=j
   ·subst e2
    by_cases e3:p=q - 1
    ·subst e3;exact hjj
    ·exact ziV (h1 p (q - 1) zo zo e1 zo) hjj
   ·exact h1 p q hpq zo e1 e2
 | case3 l j h0=>
  refine⟨fun p q hpq hq=> ?_,.refl _⟩
  by_cases e1:p=j
  ·subst e1;exact h2 q hpq zo
  ·exact h1 p q hpq zo e1 zo
def zgy(l:List Due)(i:Nat):List Due:=if i<l.length then zgy (ziS l i) (i+1) else l
termination_by l.length - i
decreasing_by rw[zLK];omega
theorem zlc(l:List Due)(i:Nat)(h:Asc l i):Asc (zgy l i) l.length/\(zgy l i).Perm l:=by
 fun_induction zgy l i with
 | case1 l i hi ih=>
  have:=zX4 l i i hi zo (fun p q hpq hq _ hq2=>h p q hpq zo) (fun q h1 h2=>by omega);have ih':=ih this.1;rw[zLK] at ih';exact⟨ih'.1,ih'.2.trans this.2⟩
 | case2 l i hi=>exact⟨fun p q hpq hq=>h p q hpq zo,.refl _⟩
def zj0(now:Int)(l:List Due):List Int:=(l.filter fun d=>decide (d.1<=now)).map (·.2)
def zcE(h:List Due)(now:Int):List Int:=if zce h=0 then zj0 now (zgy h 1) else []
theorem zR9:∀(a b:List Due),a.Perm b->a.Pairwise (fun x y=>lt y x=false)->b.Pairwise (fun x y=>lt y x=false)->a.Nodup->a=b:=by
 intro a
 induction a with
 | nil=>intro b hp _ _ _;exact (List.Perm.nil_eq hp)
 | cons x a ih=>
  intro b hp ha hb hn
  cases b with
  | nil=>exact absurd hp.symm.nil_eq (by simp)
  | cons y b=>
   have hxy:x=y:=by
    by_cases e:x=y
    ·exact e
    ·have h1:y∈a:=by
        have:=hp.symm.subset (List.mem_cons_self (a:=y) (l:=b))
        rcases zab4.1 this with h|h
        ·exact absurd h.symm e
        ·exact h
     have h2:x∈b:=by
      have:=hp.subset (List.mem_cons_self (a:=x) (l:=a))
      rcases zab4.1 this with h|h
      ·exact absurd h e
      ·exact h
     have h3:=(zadd.1 ha).1 y h1;have h4:=(zadd.1 hb).1 x h2;rw[zg6] at h3 h4;exact Prod.ext zo zo
   subst hxy;rw[ih b ((List.perm_cons _).1 hp) (zadd.1 ha).2 (zadd.1 hb).2 (zacv.1 hn).2]
theorem zDE{l:List Due}(h:Asc l l.length):l.Pairwise (fun x y=>lt y x=false):=by
 rw[zacu];intro i j hi hj hij;have:=h i j hij hj;simpa [hi,hj] using this
theorem z9s{h:List Due}(o:Ok h)(hne:h≠[]):zgy h 1=h.getD 0 dz::zgy (zdB h 0) 1:=by
 have hd:=zl7 o 0 (zac0.2 hne);have s1:=zlc h 1 (fun p q hp hq=>by omega);have s2:=zlc (zdB h 0) 1 (fun p q hp hq=>by omega);have hl1:=s1.2.length_eq;have hl2:=s2.2.length_eq;rw[<- hl1] at s1;rw[<- hl2] at s2;have hnd:h.Nodup:=List.Pairwise.of_map (fun d:Due=>d.2) (fun a b hh e=>hh (by rw[e])) o.ids;refine zR9 _ _ (s1.2.trans (hd.2.symm.trans (s2.2.symm.cons _))) (zDE s1.1) (zadd.2 ⟨fun d hm=> ?_,zDE s2.1⟩) (s1.2.nodup_iff.2 hnd);exact zQ6 o.ord d (hd.2.subset (zaep _ (s2.2.subset hm)))
theorem zaaO{h:List Due}{now:Int}(o:Ok h)(hne:h≠[]):zcE h now=if (h.getD 0 dz).1<=now then (h.getD 0 dz).2::zcE (zdB h 0) now else []:=by
 have hd:=zl7 o 0 (zac0.2 hne);unfold zcE;rw[zabo ((zfx h).2 o),zabo ((zfx _).2 hd.1),z9s o hne];unfold zj0
 by_cases hc:(h.getD 0 dz).1<=now
 ·rw[zabo hc,List.filter_cons_of_pos (by simpa using hc),zabs]
 ·rw[zabn hc,List.filter_cons_of_neg (by simpa using hc)];have:∀d∈zgy (zdB h 0) 1,¬d.1<=now:=by
   intro d hm;have s2:=zlc (zdB h 0) 1 (fun p q hp hq=>by omega);have:=zQ6 o.ord d (hd.2.subset (zaep _ (s2.2.subset hm)));rw[zg6] at this;omega
  rw[zaeq.2 (by simpa using this)];rfl
def rUS(now:Int)(p:List Due×List Int):St:=⟨[(0,.d (.sl (p.1.map eD))),(1,.d (.int .i64 now)),(5,.acc 5 (zC p.2))],[(5,.acc p.2.length)]⟩
theorem z7f(now:Int):∀p:List Due×List Int,p.1.length<=LIM/\(zce p.1=0->p.1.length+p.2.length<=1000)->z6 G [] zmH (rUS now p)=some (.exit 0,⟨[(5,.acc 5 (zC (p.2++zcE p.1 now)))],[(5,.acc (p.2++zcE p.1 now).length)]⟩):=by
 refine zaL (fun p:List Due×List Int=>p.1.length) _ (rUS now) _ fun⟨h,out⟩ ⟨hL,hL2⟩ L ih=> ?_;simp only[rUS] at ih hL hL2 ⊢;have hv:=ztq h hL
 by_cases h0:zce h=0
 ·have hl3:=hL2 h0;have o:=(zfx h).1 h0
  by_cases he:h=[]
  ·subst he;have e:zcE [] now=[]:=by unfold zcE;rw[zabo h0];unfold zgy;simp [zj0]
   rw[e,zabL];simp only[zmH,zabq] at hv ⊢;simp -implicitDefEqProofs (maxSteps:=4000000) (disch:=omega) only[go_sem,hv,h0]
  ·have hpos:=zac0.2 he;have hd:=zl7 o 0 hpos;have hl1:(zdB h 0).length+1=h.length:=by simpa using hd.2.length_eq
   have hg:(h.map eD)[0]? = some (eD (h.getD 0 dz)):=by simp [zabI,zabx hpos,hpos]
   have hc:=zQc h 0 hpos zo;simp only[zabQ] at hc;rw[zaaO o he];have:=ih (zdB h 0,out++[(h.getD 0 dz).2]) ⟨by simp only;omega,fun _=>by simp only[zabv,zab3];omega⟩ (by simp only;omega);simp only[zmH]
   by_cases hcc:(h.getD 0 dz).1<=now
   ·rw[zabo hcc];simp only[zab9,zabN,zabJ] at this;simp only[zC,zabF,zabs,zabq,zabv,zabu,zabw,zacs,zacy,zabU] at this;simp -implicitDefEqProofs (maxSteps:=4000000) (disch:=omega) only[go_sem,hv,h0,hg,eD,hcc,hc,zt6];exact this
   ·rw[zabn hcc,zabL];simp -implicitDefEqProofs (maxSteps:=4000000) (disch:=omega) only[go_sem,hv,h0,hg,eD,hcc]
 ·have e:zcE h now=[]:=by unfold zcE;rw[zabn h0]
  rw[e,zabL];simp only[zmH];simp -implicitDefEqProofs (maxSteps:=4000000) (disch:=omega) only[go_sem,hv,h0]
theorem z7g(h:List Due)(now:Int)(hL:h.length<=LIM):zi G zop [.d (.sl (h.map eD)),.d (.int .i64 now)] []=some (.d (.sl (zC (zcE h now))),[]):=by
 have hl:=z7f now (h,[]) ⟨hL,fun h0=>by have:=zDe h0;simp only[zabw] at this ⊢; omega⟩;simp only[rUS,zabq,zabw,zabJ,zC] at hl;rw[zI zWQ (by simp)];simp -implicitDefEqProofs (maxSteps:=4000000) (disch:=omega) only[zuy,zB5,go_sem,hl]
theorem zkR(n lo hi:Int):zi G zoh [.d (.int .i64 n),.d (.int .i64 lo),.d (.int .i64 hi)] []=some (.d (.bool (decide (lo<=n/\n<=hi))),[]):=by
 by_cases h:lo<=n
 ·by_cases h2:n<=hi
  ·rw[zabM ⟨h,h2⟩];exact zW zze
  ·rw[zabP zo];exact zW zze
 ·rw[zabP zo];exact zW zze
theorem zNn(m:zj)(e:Int):zi G zls [.d (zm m),.d (.int .i64 e)] []=some (.d (.bool (decide (m.epoch<e))),[]):=by
 exact zW zH5
def zap(m:zj):Int:=
 if 1<=m.id/\m.id<=1073741824/\0<=m.route/\m.route<=65535/\0<=m.epoch/\m.epoch<=65536/\0<=m.count/\m.count<=8/\m.count<=m.gen/\m.gen<=65536/\0<=m.sent/\m.sent<=1073741824 then (if 16<m.body.length then 2 else 0) else 1
theorem zh8(m:zj):zi G zlu [.d (zm m)] []=some (.d (.int .i64 (zap m)),[]):=by
 have i1:=zkR m.id 1 1073741824;have i2:=zkR m.route 0 65535;have i3:=zkR m.epoch 0 65536;have i4:=zkR m.count 0 8;have i5:=zkR m.gen m.count 65536;have i6:=zkR m.sent 0 1073741824;unfold zap
 split
 ·split
  ·exact zW zzd
  ·exact zW zzd
 ·exact zW zzd
def zff(l:List zG)(i:Nat):Int:=
 if zap (l.getD i zbH).msg≠0 then zap (l.getD i zbH).msg
 else if (l.getD i zbH).msg.gen=0 then 7
 else if (l.getD i zbH).deadline<0\/1073741824<(l.getD i zbH).deadline then 1
 else if 0<i/\(l.getD i zbH).msg.id<=(l.getD (i - 1) zbH).msg.id then 11 else 0
def zgo(l:List zG)(i:Nat):Bool:=decide (zff l i≠0)
def obT(o:Nat)(t:zN):Nat×Go.Sim.Obj:=(o,.row [.d (zau t)])
theorem z6F(t:zN)(hL:t.l.length<=12):z6 G [] zAK ⟨[(1,.ref 1 0 0),(3,.d (.int .i64 0))],[obT 1 t]⟩=some (zhI t.l.length (zgo t.l) (fun k=>(.ret,⟨[(2,.d (.int .i64 (zff t.l k)))],[]⟩)) (.exit 0,⟨[(1,.ref 1 0 0)],[obT 1 t]⟩)):=by
 refine ziZ (G:=G) t.l.length (zgo t.l) (fun k=>⟨[(1,.ref 1 0 0),(3,.d (.int .i64 k))],[obT 1 t]⟩) _ _ fun k hk L=> ?_;simp only[zAK,obT]
 by_cases h0:k<t.l.length
 ·rw[zabo h0];have hm:=zh8 t.l[k].msg;simp only[zm] at hm;unfold zgo zff;rw[zh h0]
  by_cases c1:zap t.l[k].msg=0
  ·rw[c1] at hm;simp only[c1,ne_eq,zabD,if_false]
   by_cases c2:t.l[k].msg.gen=0
   ·simp only[c2,if_true,show ((7:Int)=0)=False by simp,zabV,decide_true];rw[c2] at hm;exact zS
   ·simp only[c2,if_false]
    by_cases c3:t.l[k].deadline<0\/1073741824<t.l[k].deadline
    ·skip;simp only[c3,if_true,show ((1:Int)=0)=False by simp,zabV,decide_true];exact zS
    ·skip;simp only[c3,if_false]
     by_cases c4:0<k
     ·have hk1:k - 1<t.l.length:=by omega
      have e1:(k:Int) - 1=((k - 1:Nat):Int):=by omega
      rw[zh hk1]
      by_cases c5:t.l[k].msg.id<=t.l[k - 1].msg.id
      ·simp only[c4,c5,zacK,if_true,show ((11:Int)=0)=False by simp,zabV,decide_true];exact zS
      ·simp only[c4,c5,zadr,if_false,zabD,decide_false,zabz];exact zS
     ·simp only[c4,zacz,if_false,zabD,decide_false,zabz];exact zS
  ·simp only[c1,ne_eq,zabV,if_true,decide_true];exact zS
 ·rw[zabn h0];exact zS
def zag(l:List zG)(id:Int):Int:=zbP (fun x=>decide (x.msg.id=id)) l
theorem znb(t:zN)(id:Int)(hL:t.l.length<=4294967296):zi G zoD [.d (zau t),.d (.int .i64 id)] []=some (.d (.int .i64 (zag t.l id)),[]):=by
 have hl:=ziZ (G:=G) (x:=zAL) (ks:=[]) t.l.length (atB t.l fun x=>decide (x.msg.id=id)) (fun k=>⟨[(1,.d (.int .i64 id)),(2,.ref 2 0 0),(5,.d (.int .i64 k))],[obT 2 t]⟩) (fun k=>(.ret,⟨[(4,.d (.int .i64 k))],[]⟩)) (.exit 0,⟨[],[]⟩) (fun k hk L=>by
  simp only[zAL,obT]
  by_cases h0:k<t.l.length
  ·simp only[h0,if_true,zgH h0];exact zS
  ·exact zS)
 rw[zj6] at hl;simp only[obT] at hl;simp only[zNr,zB] at hl;unfold zag zbP
 cases hf:t.l.findIdx? (fun x=>decide (x.msg.id=id)) with
 | none=>rw[hf] at hl;clear hf;exact zW zIb
 | some i=>rw[hf] at hl;clear hf;exact zW zIb
def zkB(t:zN):Bool:=decide (t.heap.length=t.l.length)&&t.l.all fun x=>t.heap.any fun d=>decide (d=(x.deadline,x.msg.id))
def zee(l:List zG):Int:=zhI l.length (zgo l) (zff l) 0
def zao(t:zN):Int:=
 if 12<t.l.length then 2 else if zee t.l≠0 then zee t.l else if zce t.heap≠0 then zce t.heap else if zkB t=true then 0 else 7
theorem zA6(l:List zG):(∃k,(List.range l.length).find? (zgo l)=some k/\zff l k≠0/\zee l=zff l k)\/((List.range l.length).find? (zgo l)=none/\zee l=0):=by
 unfold zee zhI
 cases h:(List.range l.length).find? (zgo l) with
 | none=>exact .inr ⟨rfl,rfl⟩
 | some k=>
  refine .inl ⟨k,rfl,?_,rfl⟩;have:=List.find?_some h;unfold zgo at this;simpa using this
def zkC(t:zN):Bool:=decide (t.heap.length=t.l.length)&&t.heap.all fun d=>decide (0<=zag t.l d.2)&&decide ((t.l.getD (zag t.l d.2).toNat zbH).deadline=d.1)
def ztK(t:zN):Int:=
 if 12<t.l.length then 2 else if zee t.l≠0 then zee t.l else if zce t.heap≠0 then zce t.heap else if zkC t=true then 0 else 7
theorem zrt(l:List zG)(id:Int): -1<=zag l id/\zag l id<l.length:=zsd _ _
theorem z6B(t:zN)(hL:t.l.length<=4294967296)(hH:t.heap.length<=4294967296):z6 G [] zss ⟨[(1,.ref 1 0 0),(7,.d (.int .i64 0))],[obT 1 t]⟩=some (if (t.heap.all fun d=>decide (0<=zag t.l d.2)&&decide ((t.l.getD (zag t.l d.2).toNat zbH).deadline=d.1))=true then (.exit 3,⟨[],[]⟩) else (.ret,⟨[(2,.d (.int .i64 7))],[]⟩)):=by
 have hl:=zg5 (G:=G) (x:=zss) (ks:=[]) t.heap.length (atB t.heap fun d=>decide (0<=zag t.l d.2)&&decide ((t.l.getD (zag t.l d.2).toNat zbH).deadline=d.1)) (fun k=>⟨[(1,.ref 1 0 0),(7,.d (.int .i64 k))],[obT 1 t]⟩) (.ret,⟨[(2,.d (.int .i64 7))],[]⟩) (.exit 3,⟨[],[]⟩) (fun k hk L=>by
  simp only[zss,obT]
  by_cases h0:k<t.heap.length
  ·simp only[h0,if_true,zgH h0];have hf:=znb t t.heap[k].2 hL;have hb:=zrt t.l t.heap[k].2;generalize zag t.l t.heap[k].2=i at *
   by_cases c1:0<=i
   ·obtain⟨n,rfl⟩:∃n:Nat,i=n:=⟨i.toNat,by omega⟩;have hn:n<t.l.length:=by omega
    rw[zab5,zh hn,zabM c1,zacA]
    by_cases c2:t.l[n].deadline=t.heap[k].1
    ·rw[zabM c2];simp only[if_true];exact zS
    ·rw[zabP c2];simp only[zabz,if_false];exact zS
   ·rw[zabP c1];simp only[zacd,zabz,if_false];exact zS
  ·exact zS)
 have e:(List.range t.heap.length).all (atB t.heap fun d=>decide (0<=zag t.l d.2)&&decide ((t.l.getD (zag t.l d.2).toNat zbH).deadline=d.1))=t.heap.all fun d=>decide (0<=zag t.l d.2)&&decide ((t.l.getD (zag t.l d.2).toNat zbH).deadline=d.1):=by
  rw[zacD,zabO,zabO];constructor
  ·intro h x hx;obtain⟨i,hi,rfl⟩:=zadc hx;have:=h i (zack.2 hi)
   rwa [zgH hi] at this
  ·intro h i hi;rw[zgH (zack.1 hi)];exact h _ (zabC _)
 rw[e] at hl;exact hl
theorem zkT(t:zN)(hL:t.l.length<=4294967296)(hH:t.heap.length<=4294967296):zi G zoC [.d (zau t)] []=some (.d (.int .i64 (ztK t)),[]):=by
 unfold ztK
 by_cases c0:12<t.l.length
 ·rw[zabo c0];exact zW zkb
 ·rw[zabn c0];have hl:=z6F t zo;have hv:=ztq t.heap hH;have hm:=z6B t hL hH;simp only[obT] at hl hm;unfold zhI at hl
  rcases zA6 t.l with ⟨k,h1,h2,h3⟩|⟨h1,h3⟩
  ·rw[h1] at hl;simp only at hl;rw[h3,zabo h2];generalize zff t.l k=z at *;clear h1 h3 hv hm;exact zW zkb
  ·rw[h1] at hl;rw[h3,zabn (by simp)];clear h1 h3;generalize zce t.heap=z at *
   by_cases c1:z=0
   ·subst c1;rw[zabn (by simp)];unfold zkC
    by_cases c2:t.heap.length=t.l.length
    ·rw[zabM c2,zacA];generalize (t.heap.all fun d=>decide (0<=zag t.l d.2)&&decide ((t.l.getD (zag t.l d.2).toNat zbH).deadline=d.1))=q at *
     cases q
     ·simp only[zabz,if_false] at hm ⊢;exact zW zkb
     ·simp only[if_true] at hm ⊢;exact zW zkb
    ·rw[zabP c2,zacd];simp only[zabz,if_false];clear hm;exact zW zkb
   ·rw[zabo c1];clear hm;exact zW zkb
theorem zMC{α:Type}[DecidableEq α]:∀(A B:List α),A.Nodup->(∀a∈A,a∈B)->A.length<=B.length
 | [],_,_,_=>Nat.zero_le _
 | a::A,B,h,hs=>by
  have ha:=hs a (by simp);rw[zacv] at h;have:=zMC A (B.erase a) h.2 fun x hx=>(List.mem_erase_of_ne (by rintro rfl;exact h.1 hx)).2 (hs x (by simp [hx]));rw[zaeB ha] at this;have hp:=List.length_pos_of_mem ha;simp only[zabu];omega
theorem zMB{α:Type}[DecidableEq α]{A B:List α}(h:A.Nodup)(hs:∀a∈A,a∈B)(hl:B.length<=A.length):∀b∈B,b∈A:=by
 intro b hb
 by_cases c:b∈A
 ·exact c
 ·have:=zMC A (B.erase b) h fun x hx=>(List.mem_erase_of_ne (by rintro rfl;exact c hx)).2 (hs x hx);rw[zaeB hb] at this;have hp:=List.length_pos_of_mem hb;omega
theorem zhW{l:List zG}(h:zee l=0):l.Pairwise fun x y=>x.msg.id<y.msg.id:=by
 have h0:∀i,i<l.length->zff l i=0:=by
  rcases zA6 l with ⟨k,_,h2,h3⟩|⟨h1,_⟩
  ·omega
  ·intro i hi;have:=List.find?_eq_none.1 h1 i (zack.2 hi);unfold zgo at this;simpa using this
 have step:∀i (hi:i+1<l.length),l[i].msg.id<l[i+1].msg.id:=fun i hi=>by
  have:=h0 (i+1) hi;unfold zff at this;rw[zh hi,Nat.add_sub_cancel,zh (show i<l.length by omega)] at this
  split at this
  ·omega
  split at this
  ·omega
  split at this
  ·omega
  split at this
  ·cases this
  ·omega
 refine zacu.2 fun i j hi hj hij=> ?_;obtain⟨m,rfl⟩:∃m,j=i+1+m:=⟨j - (i+1),by omega⟩
 induction m with
 | zero=>exact step i hj
 | succ m ih=>exact Int.lt_trans (ih zo zo) (step (i+1+m) zo)
def zbx(x:zG):Due:=(x.deadline,x.msg.id)
theorem zmb{l:List zG}{id:Int}(h:0<=zag l id):∃k,∃hk:k<l.length,zag l id=k/\l[k].msg.id=id:=by
 unfold zag zbP at h ⊢
 cases hf:l.findIdx? (fun x=>decide (x.msg.id=id)) with
 | none=>rw[hf] at h;exact absurd h (by simp)
 | some i=>
  obtain⟨hi,hp,_⟩:=zact.1 hf;exact⟨i,hi,rfl,by simpa using hp⟩
theorem zvr{l:List zG}{id:Int}(h:zag l id<0):∀x∈l,x.msg.id≠id:=by
 unfold zag zbP at h
 cases hf:l.findIdx? (fun x=>decide (x.msg.id=id)) with
 | none=>intro x hx;have:=zadv.1 hf x hx;simpa using this
 | some i=>rw[hf] at h;simp only at h;omega
theorem zDC{l:List zG}(h:l.Pairwise fun x y=>x.msg.id<y.msg.id){i j:Nat}(hi:i<l.length)(hj:j<l.length)(e:l[i].msg.id=l[j].msg.id):i=j:=by
 rw[zacu] at h
 rcases zadR i j with q|q|q
 ·have:=h i j hi hj q;omega
 ·exact q
 ·have:=h j i hj hi q;omega
theorem zvq{l:List zG}(h:l.Pairwise fun x y=>x.msg.id<y.msg.id){k:Nat}(hk:k<l.length):zag l l[k].msg.id=k:=by
 by_cases c:0<=zag l l[k].msg.id
 ·obtain⟨j,hj,e,q⟩:=zmb c;rw[e,zDC h hj hk q]
 ·exact absurd rfl (zvr zo l[k] (zabC _))
theorem zDD{l:List zG}(h:l.Pairwise fun x y=>x.msg.id<y.msg.id):(l.map zbx).Nodup:=by
 refine List.Pairwise.map _ ?_ h;intro a b hab e;have:=congrArg Prod.snd e;simp only[zbx] at this;omega
theorem zMm{t:zN}(h:t.l.Pairwise fun x y=>x.msg.id<y.msg.id):zkC t=true↔t.heap.length=t.l.length/\∀d∈t.heap,d∈t.l.map zbx:=by
 unfold zkC;rw[zabH,decide_eq_true_eq,zabO];refine and_congr_right fun _=>forall_congr' fun d=>forall_congr' fun hd=> ?_;rw[zabH,decide_eq_true_eq,decide_eq_true_eq,zaby];constructor
 ·rintro⟨h0,h1⟩;obtain⟨k,hk,e,q⟩:=zmb h0;rw[e,zab5,zh hk] at h1;exact⟨t.l[k],zabC _,Prod.ext h1 q⟩
 ·rintro⟨x,hx,rfl⟩;obtain⟨k,hk,rfl⟩:=zadc hx;simp only[zbx,zvq h hk];rw[zab5,zh hk];exact⟨by omega,rfl⟩
theorem zBj{t:zN}:zkB t=true↔t.heap.length=t.l.length/\∀d∈t.l.map zbx,d∈t.heap:=by
 unfold zkB;rw[zabH,decide_eq_true_eq,zabO];refine and_congr_right fun _=> ?_;constructor
 ·intro h d hd;obtain⟨x,hx,rfl⟩:=zaby.1 hd;obtain⟨y,hy,e⟩:=zacm.1 (h x hx);rw[decide_eq_true_eq] at e;rw[show zbx x=y from e.symm];exact hy
 ·intro h x hx;exact zacm.2 ⟨_,h _ (zaby.2 ⟨x,hx,rfl⟩),by simp [zbx]⟩
theorem zMn{t:zN}(h:zee t.l=0)(hv:zce t.heap=0):zkB t=zkC t:=by
 have ha:=zhW h;have hn:=((zfx _).1 hv).ids;have hh:t.heap.Nodup:=List.Pairwise.of_map (fun d:Due=>d.2) (fun a b h e=>h (by rw[e])) hn;rw[zacD,zMm ha,zBj];refine and_congr_right fun e=>⟨fun q=> ?_,fun q=> ?_⟩
 ·exact zMB (zDD ha) q (by simp [e])
 ·exact zMB hh q (by simp [e])
theorem zlf(t:zN):ztK t=zao t:=by
 unfold ztK zao
 by_cases h:zee t.l=0
 ·by_cases hv:zce t.heap=0
  ·rw[zMn h hv]
  ·simp only[hv,ne_eq,zabV,if_true]
 ·simp only[h,ne_eq,zabV,if_true]
theorem zaiP(a b:List zj)(hL:a.length<=4294967296):zi G zaeH [.d (.sl (a.map zm)),.d (.sl (b.map zm))] []=some (.d (.bool (decide (a=b))),[]):=by
 by_cases hab:a.length=b.length
 ·have:=zg5 (G:=G) (x:=zafz) (ks:=[]) a.length (fun k=>decide (a[k]? = b[k]?)) (fun k=>⟨[(0,.d (.sl (a.map zm))),(1,.d (.sl (b.map zm))),(5,.d (.int .i64 k))],[]⟩) (.ret,⟨[(4,.d (.bool false))],[]⟩) (.exit 0,⟨[],[]⟩) (fun k hk L=>by
     simp only[zafz]
     by_cases h0:k<a.length
     ·have hk2:k<b.length:=by omega
      simp only[zaeD h0 hk2]
      by_cases hc:a[k]=b[k]
      ·simp -implicitDefEqProofs (maxSteps:=4000000) (disch:=omega) only[go_sem,hc]
      ·simp -implicitDefEqProofs (maxSteps:=4000000) (disch:=omega) only[go_sem,hc]
     ·simp -implicitDefEqProofs (maxSteps:=4000000) (disch:=omega) only[go_sem,zabU])
  simp only[zabl hab,zabQ] at this
  by_cases e:a=b
  ·subst e;simp only[decide_true,if_true] at this;rw[zI zafx (by simp)];simp -implicitDefEqProofs (maxSteps:=4000000) (disch:=omega) only[zaeJ,zaeZ,go_sem,this]
  ·simp only[e,decide_false,zabz,if_false] at this;rw[zI zafx (by simp)];simp -implicitDefEqProofs (maxSteps:=4000000) (disch:=omega) only[zaeJ,zaeZ,go_sem,hab,this,e]
 ·have e:a≠b:=fun e=>hab (by rw[e]);rw[zI zafx (by simp)];simp -implicitDefEqProofs (maxSteps:=4000000) (disch:=omega) only[zaeJ,zaeZ,go_sem,e]
theorem zakV(a b:List Stripe)(hL:a.length<=4294967296):zi G zpk [.d (.sl (a.map zax)),.d (.sl (b.map zax))] []=some (.d (.bool (decide (a=b))),[]):=by
 by_cases hab:a.length=b.length
 ·have:=zg5 (G:=G) (x:=zsG) (ks:=[]) a.length (fun k=>decide (a[k]? = b[k]?)) (fun k=>⟨[(0,.d (.sl (a.map zax))),(1,.d (.sl (b.map zax))),(5,.d (.int .i64 k))],[]⟩) (.ret,⟨[(4,.d (.bool false))],[]⟩) (.exit 0,⟨[],[]⟩) (fun k hk L=>by
     simp only[zsG]
     by_cases h0:k<a.length
     ·have hk2:k<b.length:=by omega
      simp only[zaeD h0 hk2]
      by_cases hc:a[k]=b[k]
      ·simp -implicitDefEqProofs (maxSteps:=4000000) (disch:=omega) only[go_sem,hc]
      ·simp -implicitDefEqProofs (maxSteps:=4000000) (disch:=omega) only[go_sem,hc]
     ·simp -implicitDefEqProofs (maxSteps:=4000000) (disch:=omega) only[go_sem,zabU])
  simp only[zabl hab,zabQ] at this
  by_cases e:a=b
  ·subst e;simp only[decide_true,if_true] at this;rw[zI zzy (by simp)];simp -implicitDefEqProofs (maxSteps:=4000000) (disch:=omega) only[zuK,zOS,go_sem,this]
  ·simp only[e,decide_false,zabz,if_false] at this;rw[zI zzy (by simp)];simp -implicitDefEqProofs (maxSteps:=4000000) (disch:=omega) only[zuK,zOS,go_sem,hab,this,e]
 ·have e:a≠b:=fun e=>hab (by rw[e]);rw[zI zzy (by simp)];simp -implicitDefEqProofs (maxSteps:=4000000) (disch:=omega) only[zuK,zOS,go_sem,e]
theorem zakU(a b:List zG)(hL:a.length<=4294967296):zi G zafg [.d (.sl (a.map zaI)),.d (.sl (b.map zaI))] []=some (.d (.bool (decide (a=b))),[]):=by
 by_cases hab:a.length=b.length
 ·have:=zg5 (G:=G) (x:=zagJ) (ks:=[]) a.length (fun k=>decide (a[k]? = b[k]?)) (fun k=>⟨[(0,.d (.sl (a.map zaI))),(1,.d (.sl (b.map zaI))),(5,.d (.int .i64 k))],[]⟩) (.ret,⟨[(4,.d (.bool false))],[]⟩) (.exit 0,⟨[],[]⟩) (fun k hk L=>by
     simp only[zagJ]
     by_cases h0:k<a.length
     ·have hk2:k<b.length:=by omega
      simp only[zaeD h0 hk2]
      by_cases hc:a[k]=b[k]
      ·simp -implicitDefEqProofs (maxSteps:=4000000) (disch:=omega) only[go_sem,hc]
      ·simp -implicitDefEqProofs (maxSteps:=4000000) (disch:=omega) only[go_sem,hc]
     ·simp -implicitDefEqProofs (maxSteps:=4000000) (disch:=omega) only[go_sem,zabU])
  simp only[zabl hab,zabQ] at this
  by_cases e:a=b
  ·subst e;simp only[decide_true,if_true] at this;rw[zI zagw (by simp)];simp -implicitDefEqProofs (maxSteps:=4000000) (disch:=omega) only[zaeL,zae1,go_sem,this]
  ·simp only[e,decide_false,zabz,if_false] at this;rw[zI zagw (by simp)];simp -implicitDefEqProofs (maxSteps:=4000000) (disch:=omega) only[zaeL,zae1,go_sem,hab,this,e]
 ·have e:a≠b:=fun e=>hab (by rw[e]);rw[zI zagw (by simp)];simp -implicitDefEqProofs (maxSteps:=4000000) (disch:=omega) only[zaeL,zae1,go_sem,e]
theorem zakT(a b:List Due)(hL:a.length<=4294967296):zi G zafe [.d (.sl (a.map eD)),.d (.sl (b.map eD))] []=some (.d (.bool (decide (a=b))),[]):=by
 by_cases hab:a.length=b.length
 ·have:=zg5 (G:=G) (x:=zagI) (ks:=[]) a.length (fun k=>decide (a[k]? = b[k]?)) (fun k=>⟨[(0,.d (.sl (a.map eD))),(1,.d (.sl (b.map eD))),(5,.d (.int .i64 k))],[]⟩) (.ret,⟨[(4,.d (.bool false))],[]⟩) (.exit 0,⟨[],[]⟩) (fun k hk L=>by
     simp only[zagI]
     by_cases h0:k<a.length
     ·have hk2:k<b.length:=by omega
      simp only[zaeD h0 hk2]
      by_cases hc:a[k]=b[k]
      ·simp -implicitDefEqProofs (maxSteps:=4000000) (disch:=omega) only[go_sem,hc]
      ·simp -implicitDefEqProofs (maxSteps:=4000000) (disch:=omega) only[go_sem,hc]
     ·simp -implicitDefEqProofs (maxSteps:=4000000) (disch:=omega) only[go_sem,zabU])
  simp only[zabl hab,zabQ] at this
  by_cases e:a=b
  ·subst e;simp only[decide_true,if_true] at this;rw[zI zagv (by simp)];simp -implicitDefEqProofs (maxSteps:=4000000) (disch:=omega) only[zaeK,zae0,go_sem,this]
  ·simp only[e,decide_false,zabz,if_false] at this;rw[zI zagv (by simp)];simp -implicitDefEqProofs (maxSteps:=4000000) (disch:=omega) only[zaeK,zae0,go_sem,hab,this,e]
 ·have e:a≠b:=fun e=>hab (by rw[e]);rw[zI zagv (by simp)];simp -implicitDefEqProofs (maxSteps:=4000000) (disch:=omega) only[zaeK,zae0,go_sem,e]
end Go.Proofs.YtnmcgdpmikhohaaGreat
