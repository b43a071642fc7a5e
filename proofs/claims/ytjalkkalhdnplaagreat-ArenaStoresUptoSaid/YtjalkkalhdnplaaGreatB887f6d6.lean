/-
  A purge in a small world, by reckoning.
-/
import Derived.Test.YtjalkkalhdnplaaGreatB568fc85
import Derived.Test.YtjalkkalhdnplaaGreatBc66d388
set_option linter.unusedSimpArgs false
set_option linter.unusedVariables false
set_option maxHeartbeats 10000000
set_option maxRecDepth 100000
namespace Go.Proofs.YtjalkkalhdnplaaGreat
open Go Go.Sim
theorem zzH(h:List Due)(j:Int):zba h j<h.length:=by
 unfold zba zbf
 cases e:List.findIdx? (fun d:Due=>decide (d.2=j)) h with
 | none=>simp only;omega
 | some i=>have:=(zZV.1 e).1;simp only;omega
theorem zJS(h:List Due)(j:Int)(h0:0<=zba h j):(h.getD (zba h j).toNat dz).2=j:=by
 revert h0;unfold zba zbf
 cases e:List.findIdx? (fun d:Due=>decide (d.2=j)) h with
 | none=>simp
 | some i=>
  obtain⟨h1,h2,_⟩:=zZV.1 e;simp only[zZz];intro _;simpa [h1] using h2
theorem zzI(h:List Due)(j:Int):zba h j<0↔j∉h.map (·.2):=by
 unfold zba zbf
 cases e:List.findIdx? (fun d:Due=>decide (d.2=j)) h with
 | none=>
  simp only[z0Z,decide_eq_false_iff_not] at e;simp only[show ((-1:Int)<0) by omega,true_iff,zY0,not_exists,not_and];exact fun d hd=>e d hd
 | some i=>
  obtain⟨h1,h2,_⟩:=zZV.1 e;simp only[decide_eq_true_eq] at h2;refine⟨fun h=>by simp only at h;omega,fun hn=>absurd (zY0.2 ⟨_,zY4 h1,h2⟩) hn⟩
theorem zzG(h:List Due)(i:Nat)(hi:i<h.length)(hd:(h.map (·.2)).Nodup):zba h (h.getD i dz).2=i:=by
 unfold zba zbf;have:List.findIdx? (fun d:Due=>decide (d.2=(h.getD i dz).2)) h=some i:=by
  refine zZV.2 ⟨hi,by simp [hi],fun j hj=> ?_⟩;have:=(zZ4.1 hd) j i (by simp;omega) (by simpa using hi) hj;simpa [hi] using this
 rw[this]
theorem zRQ(h:List Due)(hf:∀i,i<h.length->zba h (h.getD i dz).2=i):(h.map (·.2)).Nodup:=by
 refine zZ4.2 fun i j hi hj hij=> ?_;simp only[zY3] at hi hj;simp only[z1k];intro he;have h1:=hf i hi;have h2:=hf j hj;simp only[zZw,zY1 hi,zY1 hj,z0s] at h1 h2;rw[he] at h1;omega
structure Ok(h:List Due):Prop where
 len:h.length<=12
 val:∀d∈h,zcy d=true
 ids:(h.map (·.2)).Nodup
 ord:zie h
theorem zfD(h:List Due):zb0 h=0↔Ok h:=by
 unfold zb0
 by_cases h1:12<h.length
 ·rw[zYQ h1];exact⟨fun h=>by omega,fun o=>absurd o.len zo⟩
 rw[zYP h1]
 by_cases h2:h.any (fun d=> !zcy d)=true
 ·rw[zYQ h2];refine⟨fun h=>by omega,fun o=> ?_⟩;obtain⟨d,hd,h3⟩:=zZW.1 h2;simp [o.val d hd] at h3
 rw[zYP h2];have h2:∀d∈h,zcy d=true:=by simpa using h2
 by_cases h3:(List.range' 0 h.length).any (zeT h)=true
 ·rw[zYQ h3];refine⟨fun h=>by omega,fun o=> ?_⟩;obtain⟨i,hi,h4⟩:=zZW.1 h3;simp only[z0S,zZj] at hi;simp [zeT,zzG h i hi.2 o.ids] at h4;exact absurd (zzG h i hi.2 o.ids) (by simpa [dz] using h4)
 rw[zYP h3];have h3:∀i,i<h.length->zba h (h.getD i dz).2=i:=by
  intro i hi;simp only[zZW,not_exists,not_and,z0S] at h3;have:=h3 i ⟨by omega,by omega⟩;simpa [zeT] using this
 by_cases h4:(List.range' 1 (h.length - 1)).any (zfo h)=true
 ·rw[zYQ h4];refine⟨fun h=>by omega,fun o=> ?_⟩;obtain⟨i,hi,h5⟩:=zZW.1 h4;simp only[z0S] at hi;have:=o.ord i hi.1 zo;unfold zfo at h5;rw[h5] at this;cases this
 rw[zYP h4];refine⟨fun _=>⟨by omega,h2,zRQ h h3,fun k ha hb=> ?_⟩,fun _=>rfl⟩;simp only[zZW,not_exists,not_and,z0S] at h4;have:=h4 k ⟨by omega,by omega⟩;simpa [zfo] using this
theorem Ok.of_perm{h l:List Due}(hp:l.Perm h)(hl:h.length<=12)(hv:∀d∈h,zcy d=true)(hi:(h.map (·.2)).Nodup)(ho:zie l):Ok l:=
 ⟨by rw[hp.length_eq];exact hl,fun d hd=>hv d (hp.mem_iff.1 hd),(hp.map _).nodup_iff.2 hi,ho⟩
theorem zA5(h:List Due)(d:Due)(k:Nat):(h++[d]).getD k dz=if k<h.length then h.getD k dz else if k=h.length then d else dz:=by
 simp only[zZw,List.getElem?_append]
 split
 ·rfl
 ·rename_i hk
  by_cases hk2:k=h.length
  ·subst hk2;simp
  ·rw[zYP hk2,z0F (by simp;omega)];rfl
theorem zsY{h:List Due}{d:Due}(o:Ok h)(hd:zcy d=true)(hl:h.length<12)(hn:d.2∉h.map (·.2)):zfp h d=(zfq h d,0)/\Ok (zfq h d)/\(zfq h d).Perm (d::h):=by
 have hp:(zfq h d).Perm (d::h):=(zEH (h++[d]) h.length (by simp)).trans (z1B (l₂:=[d]));have he:zmg h d=0:=by
  unfold zmg;rw[(zfD h).2 o,hd,zYP (by simp),zYP (by simp),zYP zo,zYP];have:=(zzI h d.2).2 hn;omega
 refine⟨by unfold zfp;rw[he,zYQ rfl],.of_perm hp (by simp;omega) (fun x hx=>by rcases zZx.1 hx with rfl|hx;exact hd;exact o.val x hx) (by simpa using ⟨by simpa using hn,o.ids⟩) ?_,hp⟩;refine zEE _ _ (by simp) (fun k ha hb hc=> ?_) (fun k ha hb hc=> ?_)
 ·simp only[zYZ,zYW,zYY] at hb;rw[zA5,zA5,zYQ zo,zYQ zo];exact o.ord k ha zo
 ·simp only[zYZ,zYW,zYY] at hb;omega
theorem zDO:∀(l:List Due) (i:Nat) (b:Due),i<l.length->(l.getD i dz::l.set i b).Perm (b::l):=by
 intro l
 induction l with
 | nil=>intro i b h;simp at h
 | cons x xs ih=>
  intro i b h
  cases i with
  | zero=>exact .swap _ _ _
  | succ i=>
   simp only[zYW,Nat.add_lt_add_iff_right] at h;simp only[List.getD_cons_succ,List.set_cons_succ];exact (List.Perm.swap _ _ _).trans (((ih i b h).cons x).trans (.swap _ _ _))
theorem zXB(h:List Due)(h0:0<h.length):h=h.take (h.length - 1)++[h.getD (h.length - 1) dz]:=by
 have:=List.take_append_getLast h (by intro hn;simp [hn] at h0);rw[List.getLast_eq_getElem] at this;simpa [show h.length - 1<h.length by omega] using this.symm
theorem zEt{l:List Due}{i:Nat}:(upL l i).2<=i/\((0<i/\lt (l.getD i dz) (l.getD ((i - 1) / 2) dz)=true/\(upL l i).2<i)\/(¬(0<i/\lt (l.getD i dz) (l.getD ((i - 1) / 2) dz)=true)/\upL l i=(l,i))):=by
 fun_induction upL l i with
 | case1 l i h0 hlt ih=>exact⟨by omega,.inl ⟨h0,hlt,by omega⟩⟩
 | case2 l i h0 hlt=>exact⟨by simp,.inr ⟨fun h=>hlt h.2,rfl⟩⟩
 | case3 l i h0=>exact⟨by simp,.inr ⟨fun h=>h0 h.1,rfl⟩⟩
theorem zln{h:List Due}(o:Ok h)(i:Nat)(hi:i<h.length):Ok (zdK h i)/\(h.getD i dz::zdK h i).Perm h:=by
 have hlast:=zXB h zo;obtain⟨m,hm⟩:∃m,m=h.length - 1:=⟨_,rfl⟩;obtain⟨t,ht⟩:∃t,t=h.take m:=⟨_,rfl⟩;have htl:t.length=m:=by simp [ht];omega
 have hg:∀k,k<m->t.getD k dz=h.getD k dz:=fun k hk=>by simp [ht,z1R,hk]
 rw[<- hm, <- ht] at hlast;unfold zdK;rw[<- hm, <- ht];have key:∀l:List Due,(h.getD i dz::l).Perm h->zie l->Ok l/\(h.getD i dz::l).Perm h:=fun l hp ho=>by
  refine⟨⟨?_,fun d hd=>o.val d (hp.mem_iff.1 (by simp [hd])),?_,ho⟩,hp⟩
  ·have:=hp.length_eq;simp at this;have:=o.len;omega
  ·have:=((hp.map (·.2)).nodup_iff).2 o.ids;rw[zYU,zZS] at this;exact this.2
 by_cases h1:i=m
 ·rw[zYQ h1];refine key t ?_ fun k ha hb=> ?_
  ·subst h1
   conv=>rhs;rw[hlast]
   exact (z1B (l₁:=[_]))
  ·rw[htl] at hb;rw[hg _ hb,hg _ zo];exact o.ord k ha zo
 ·rw[zYP h1];have him:i<m:=by omega
  simp only;obtain⟨x,hx⟩:∃x,x=h.getD m dz:=⟨_,rfl⟩;obtain⟨l,hl⟩:∃l,l=t.set i x:=⟨_,rfl⟩;have hll:l.length=m:=by rw[hl,zZu,htl]
  have hlg:∀k,k<m->l.getD k dz=if k=i then x else h.getD k dz:=fun k hk=>by
   rw[<- hg k hk,hl];simp only[zZw,z0O,htl]
   by_cases hki:k=i
   ·subst hki;simp [hk]
   ·rw[zYP (Ne.symm hki),zYP hki]
  have hp:(h.getD i dz::l).Perm h:=by
   rw[<- hg i him,hl];refine (zDO t i x zo).trans ?_;rw[hlast,hx]
   conv=>rhs;rw[<- hlast]
   conv=>rhs;rw[hlast]
   exact z1B (l₁:=[_])
  rw[<- hx, <- hl];have ord:=o.ord;have hch:∀k,1<=k->k<l.length->(k - 1) / 2=i->1<=i->lt (l.getD k dz) (l.getD ((i - 1) / 2) dz)=false:=fun k ha hb hc hd=>by
   rw[hlg k zo,hlg _ zo,zYP zo,zYP zo];have a:=ord k ha zo;have b:=ord i hd zo;rw[hc] at a;exact ziM b a
  rcases (zEt (l:=l) (i:=i)).2 with ⟨h0,hlt,hmv⟩|⟨hno,heq⟩
  ·rw[zYP zo];refine key _ (((zEH l i zo).cons _).trans hp) (zEE l i zo (fun k ha hb hc=> ?_) hch)
   by_cases hq:(k - 1) / 2=i
   ·have a:=hch k ha hb hq zo;rw[hq];exact ziM (ziR hlt) a
   ·rw[hlg k zo,hlg _ zo,zYP hc,zYP hq];exact ord k ha zo
  ·rw[heq,zYQ rfl];refine key _ (((zHV l i zo).cons _).trans hp) (zHU l i zo (fun k ha hb hc=> ?_) hch)
   by_cases hk:k=i
   ·subst hk;rw[<- z0g];exact fun h=>hno ⟨by omega,h⟩
   ·rw[hlg k zo,hlg _ zo,zYP hk,zYP hc];exact ord k ha zo
theorem zX3{h:List Due}(o:zie h):∀k,k<h.length->lt (h.getD k dz) (h.getD 0 dz)=false:=by
 intro k
 induction k using Nat.strongRecOn with
 | ind k ih=>
  intro hk
  by_cases h0:k=0
  ·subst h0;rw[zg5];omega
  ·exact ziM (ih ((k - 1) / 2) zo zo) (o k zo hk)
theorem zEm{h:List Due}(o:zie h)(d:Due)(hd:d∈h):lt d (h.getD 0 dz)=false:=by
 obtain⟨k,hk,rfl⟩:=z00.1 hd;have:=zX3 o k hk;simpa [hk] using this
theorem zhb(a b:Due):zd G 263 [.d (eD a),.d (eD b)] []=some (.d (.bool (lt a b)),[]):=by
 have key:lt a b=(decide (a.1<b.1)||(decide (a.1=b.1)&&decide (a.2<b.2))):=by
  have:=zsp a b
  cases h:lt a b
  ·rw[h] at this;simp at this;simp;omega
  ·rw[h] at this;simp at this;simp;omega
 rw[key];simp only[eD];clear key;exact zW
theorem zDo(d:Due):zd G 261 [.d (eD d)] []=some (.d (.bool (zcy d)),[]):=by
 unfold zcy;simp only[eD];exact zW
def zmn(h:List Due)(j:Int)(k:Nat):zR×St:=match (h.drop k).findIdx? (fun d=>decide (d.2=j)) with|some i=>(.ret,⟨[(4,.d (.int .i64 ((k+i:Nat):Int)))],[]⟩)|none=>(.exit 0,⟨[],[]⟩)
theorem zT9(h:List Due)(j:Int)(hL:h.length<=LIM):∀k,k<=h.length->zP G [] zrR ⟨[(0,.d (.sl (h.map eD))),(1,.d (.int .i64 j)),(5,.d (.int .i64 k))],[]⟩=some (zmn h j k):=by
 refine zaq (fun k=>h.length - k) (fun k=>k<=h.length) _ _ fun k hk L ih=> ?_;simp -implicitDefEqProofs (maxSteps:=4000000) (disch:=omega) only[zrR,go_sem]
 by_cases hlt:k<h.length
 ·simp -implicitDefEqProofs (maxSteps:=4000000) (disch:=omega) only[zY3,show ((k:Int)<(h.length:Int)) by omega,show (0:Int)<=(k:Int) by omega,zZz,zZa,zY1 hlt,zeU,zfd,eD,zmR hlt hL,go_sem];unfold zmn;rw[zZr hlt,z1U]
  by_cases he:h[k].2=j
  ·simp [he]
  ·simp only[he,decide_false,zYX,if_false];have i1:=ih (k+1) zo zo;simp only[zZR,zZP] at i1;rw[i1];unfold zmn
   cases (h.drop (k+1)).findIdx? (fun d=>decide (d.2=j)) with
   | none=>rfl
   | some i=>simp;omega
 ·have:k=h.length:=by omega
  subst this;simp -implicitDefEqProofs (maxSteps:=4000000) (disch:=omega) only[zY3,show ¬((h.length:Int)<(h.length:Int)) by omega,go_sem];simp [zmn]
theorem zs3(h:List Due)(j:Int)(hL:h.length<=LIM):zd G 262 [.d (.sl (h.map eD)),.d (.int .i64 j)] []=some (.d (.int .i64 (zba h j)),[]):=by
 have:=zT9 h j hL 0 zo;simp only[zZg] at this;rw[zB zOK (by simp)];simp -implicitDefEqProofs (maxSteps:=4000000) (disch:=omega) only[zqm,go_sem,zZj];simp only[this];unfold zmn zba zbf;simp only[zZq,zZj]
 cases h.findIdx? (fun d=>decide (d.2=j))<;>simp -implicitDefEqProofs (maxSteps:=4000000) (disch:=omega) only[go_sem]
def zkz(h:List Due)(k:Nat):zR×St:=if (h.drop k).any (fun d=> !zcy d) then (.ret,⟨[(2,.d (.int .i64 1))],[]⟩) else (.exit 0,⟨[(0,.d (.sl (h.map eD)))],[]⟩)
theorem zUd(h:List Due)(hL:h.length<=12):∀k,k<=h.length->zP G [] zrO ⟨[(0,.d (.sl (h.map eD))),(3,.d (.int .i64 k))],[]⟩=some (zkz h k):=by
 refine zaq (fun k=>h.length - k) (fun k=>k<=h.length) _ _ fun k hk L ih=> ?_;simp -implicitDefEqProofs (maxSteps:=4000000) (disch:=omega) only[zrO,go_sem]
 by_cases hlt:k<h.length
 ·have hs:=zDo h[k];simp -implicitDefEqProofs (maxSteps:=4000000) (disch:=omega) only[zY3,show ((k:Int)<(h.length:Int)) by omega,show (0:Int)<=(k:Int) by omega,zZz,zZa,zY1 hlt,zeU,zfd,hs,zmR hlt (show h.length<=LIM by simp [LIM];omega),go_sem];have i1:=ih (k+1) zo zo;simp only[zZR,zZP] at i1;rw[i1];unfold zkz;rw[zZr hlt,z0l]
  cases zcy h[k]<;>rfl
 ·have:k=h.length:=by omega
  subst this;simp -implicitDefEqProofs (maxSteps:=4000000) (disch:=omega) only[zY3,show ¬((h.length:Int)<(h.length:Int)) by omega,go_sem];simp [zkz]
def zmo(h:List Due)(k:Nat):zR×St:=if (List.range' k (h.length - k)).any (zeT h) then (.ret,⟨[(2,.d (.int .i64 10))],[]⟩) else (.exit 2,⟨[(0,.d (.sl (h.map eD)))],[]⟩)
theorem zUe(h:List Due)(hL:h.length<=12):∀k,k<=h.length->zP G [] zrP ⟨[(0,.d (.sl (h.map eD))),(4,.d (.int .i64 k))],[]⟩=some (zmo h k):=by
 refine zaq (fun k=>h.length - k) (fun k=>k<=h.length) _ _ fun k hk L ih=> ?_;simp -implicitDefEqProofs (maxSteps:=4000000) (disch:=omega) only[zrP,go_sem]
 by_cases hlt:k<h.length
 ·have hf:=zs3 h h[k].2 (by simp [LIM];omega);simp -implicitDefEqProofs (maxSteps:=4000000) (disch:=omega) only[zY3,show ((k:Int)<(h.length:Int)) by omega,show (0:Int)<=(k:Int) by omega,zZz,zZa,zY1 hlt,zeU,zfd,eD,hf,zmR hlt (show h.length<=LIM by simp [LIM];omega),go_sem];have i1:=ih (k+1) zo zo;simp only[zZR,zZP] at i1;rw[i1];unfold zmo;rw[show h.length - k=(h.length - (k+1))+1 by omega,z0c,z0l];have hd:zeT h k= !decide (zba h h[k].2=k):=by simp [zeT,hlt]
  rw[hd]
  cases decide (zba h h[k].2=k)<;>rfl
 ·have:k=h.length:=by omega
  subst this;simp -implicitDefEqProofs (maxSteps:=4000000) (disch:=omega) only[zY3,show ¬((h.length:Int)<(h.length:Int)) by omega,go_sem];simp [zmo]
def zo5(h:List Due)(k:Nat):zR×St:=if (List.range' k (h.length - k)).any (zfo h) then (.ret,⟨[(2,.d (.int .i64 11))],[]⟩) else (.exit 4,⟨[],[]⟩)
theorem zUf(h:List Due)(hL:h.length<=12):∀k:Nat,1<=k->zP G [] zrQ ⟨[(0,.d (.sl (h.map eD))),(5,.d (.int .i64 k))],[]⟩=some (zo5 h k):=by
 refine zaq (fun k=>h.length - k) (fun k=>1<=k) _ _ fun k hk L ih=> ?_;simp -implicitDefEqProofs (maxSteps:=4000000) (disch:=omega) only[zrQ,go_sem]
 by_cases hlt:k<h.length
 ·have hq:IntKind.i64.wrap (((k:Int) - 1).tdiv 2)=(((k - 1) / 2:Nat):Int):=by
     rw[zpE (by rw[zZ9 zo];omega) (by rw[zZ9 zo];omega),zZ9 zo];omega
  have hlt2:(k - 1) / 2<h.length:=by omega
  have hb:=zhb h[k] h[(k - 1) / 2];simp -implicitDefEqProofs (maxSteps:=4000000) (disch:=omega) only[zY3,show ((k:Int)<(h.length:Int)) by omega,show (((k - 1) / 2:Nat):Int)<(h.length:Int) by omega,zpE (show -4294967296<=(k:Int) - 1 by omega) zo,hq,hb,Int.natCast_nonneg,zZz,zZa,zY1 hlt,zY1 hlt2,zeU,zfd,zmR hlt (show h.length<=LIM by simp [LIM];omega),go_sem];have i1:=ih (k+1) zo zo;simp only[zZR,zZP] at i1;rw[i1];unfold zo5;rw[show h.length - k=(h.length - (k+1))+1 by omega,z0c,z0l];have hd:zfo h k=lt h[k] h[(k - 1) / 2]:=by simp [zfo,hlt,hlt2]
  rw[hd]
  cases lt h[k] h[(k - 1) / 2]<;>rfl
 ·simp -implicitDefEqProofs (maxSteps:=4000000) (disch:=omega) only[zY3,show ¬((k:Int)<(h.length:Int)) by omega,go_sem];simp [zo5,show h.length - k=0 by omega]
theorem zo6(h:List Due)(hL:h.length<=LIM):zd G 196 [.d (.sl (h.map eD))] []=some (.d (.int .i64 (zb0 h)),[]):=by
 rw[zB zOJ (by simp)];simp -implicitDefEqProofs (maxSteps:=4000000) (disch:=omega) only[zql,go_sem,zZj];unfold zb0
 by_cases h12:12<h.length
 ·simp -implicitDefEqProofs (maxSteps:=4000000) (disch:=omega) only[h12,zY3,show (12<(h.length:Int)) by omega,go_sem]
 ·have e0:=zUd h zo 0 zo;have e1:=zUe h zo 0 zo;have e2:=zUf h zo 1 zo;simp only[zZg] at e0 e1;simp only[zZP] at e2;have hlen:¬(12<(h.length:Int)):=by omega
  cases hA:h.any (fun d=> !zcy d)
  ·cases hB:(List.range' 0 h.length).any (zeT h)
   ·cases hC:(List.range' 1 (h.length - 1)).any (zfo h)<;>
       simp -implicitDefEqProofs (maxSteps:=4000000) (disch:=omega) only[h12,zY3,hlen,e0,e1,e2,zkz,zmo,zo5,zZq,z0f,hA,hB,hC,go_sem]
   ·simp -implicitDefEqProofs (maxSteps:=4000000) (disch:=omega) only[h12,zY3,hlen,e0,e1,zkz,zmo,zZq,z0f,hA,hB,go_sem]
  ·simp -implicitDefEqProofs (maxSteps:=4000000) (disch:=omega) only[h12,zY3,hlen,e0,zkz,zZq,hA,go_sem]
theorem zWf{h:List Due}{i j:Nat}(hi:i<h.length)(hj:j<h.length):(((h.map eD).set i (eD h[j])).map AV.d)[j]? = some (.d (eD h[j])):=by
 rw[zZa,z0O]
 by_cases e:i=j
 ·rw[zYQ e,zYQ (by simpa using hi)];rfl
 ·rw[zYP e,zZa,zY1 hj];rfl
theorem zs4(h:List Due)(i j:Nat)(hi:i<h.length)(hj:j<h.length)(hL:h.length<=1000):zd G 325 [.d (.sl (h.map eD)),.d (.int .i64 i),.d (.int .i64 j)] []=some (.d (.sl ((swp h i j).map eD)),[]):=by
 have hs:=zjo h;have h2:=zWf hi hj;have hz:¬h.length=0:=by omega
 unfold swp;rw[zg hi,zg hj];have hl:(((h.map eD).set i (eD h[j])).set j (eD h[i])).length=h.length:=by simp
 have ht:List.take h.length (((h.map eD).set i (eD h[j])).set j (eD h[i]))=((h.map eD).set i (eD h[j])).set j (eD h[i]):=z0Q (by rw[hl];exact zZk _);exact zW
def zo4(p:List Due×Nat):St:=⟨[(0,.d (.sl (p.1.map eD))),(1,.d (.int .i64 p.2))],[]⟩
theorem zUc:∀p:List Due×Nat,p.2<p.1.length/\p.1.length<=1000->zP G [] zrS (zo4 p)=some (.exit 0,⟨[(0,.d (.sl ((upL p.1 p.2).1.map eD)))],[]⟩):=by
 refine zaq (fun p:List Due×Nat=>p.2) (fun p:List Due×Nat=>p.2<p.1.length/\p.1.length<=1000) zo4 _ fun⟨l,i⟩ ⟨hi,hL⟩ L ih=> ?_;simp only[zo4] at hi hL ih ⊢;simp only[zrS];rw[upL]
 by_cases h0:0<i
 ·have hq:((i:Int) - 1).tdiv 2=(((i - 1) / 2:Nat):Int):=by rw[zZ9 zo];omega
  have hj:(i - 1) / 2<l.length:=by omega
  have hb:=zhb l[i] l[(i - 1) / 2];have hsw:=zs4 l i ((i - 1) / 2) hi hj hL;have fin:=ih (swp l i ((i - 1) / 2),(i - 1) / 2) ⟨by simp only[zcW];omega,by simp only[zcW];omega⟩ (by simp only;omega);simp only at fin;rw[zYQ h0,zg hi,zg hj];have hsl:=zcW l i ((i - 1) / 2);generalize upL (swp l i ((i - 1) / 2)) ((i - 1) / 2)=r at *;generalize swp l i ((i - 1) / 2)=sw at *;clear ih
  cases hlt:lt l[i] l[(i - 1) / 2]
  ·rw[hlt] at hb;simp only[if_false,zYX];clear hlt fin hsw;exact zS
  ·rw[hlt] at hb;simp only[if_true];clear hlt;exact zS
 ·rw[zYP h0];clear ih;exact zS
theorem zDp(h:List Due)(i:Nat)(hi:i<h.length)(hL:h.length<=1000):zd G 321 [.d (.sl (h.map eD)),.d (.int .i64 i)] []=some (.d (.sl ((upL h i).1.map eD)),[]):=by
 have:=zUc (h,i) ⟨hi,hL⟩;simp only[zo4] at this;rw[zB zOL (by simp)];simp -implicitDefEqProofs (maxSteps:=4000000) (disch:=omega) only[zqn,go_sem,zZj];simp -implicitDefEqProofs (maxSteps:=4000000) (disch:=omega) only[this,go_sem]
theorem zDm(h:List Due)(d:Due)(hL:h.length<=LIM):zd G 306 [.d (.sl (h.map eD)),.d (eD d)] []=some (.d (eDE (zfp h d)),[]):=by
 have hv:=zo6 h hL;have hf:=zs3 h d.2 hL;have hd:=zDo d;have hs:=zjo h;have hL2:h.length<=4294967296:=hL;unfold zfp zmg eDE
 by_cases h0:zb0 h=0
 ·have h12:=ztS h0;rw[h0] at hv;simp only[h0,ne_eq,zY2,if_false];clear h0
  cases h1:zcy d
  ·rw[h1] at hd;simp only[if_true,zYS,show ((1:Int)=0)=False by simp,if_false];clear h1 hf;exact zW
  ·rw[h1] at hd;simp only[zZK,if_false];clear h1
   by_cases h2:h.length=12
   ·simp only[h2,if_true,zYS,show ((3:Int)=0)=False by simp,if_false];clear hf;exact zW
   ·simp only[h2,if_false]
    by_cases h3:0<=zba h d.2
    ·simp only[h3,if_true,zYS,show ((10:Int)=0)=False by simp,if_false];exact zW
    ·simp only[h3,if_false,if_true];obtain⟨l,hl⟩:∃l,l=h++[d]:=⟨_,rfl⟩;have e1:h.map eD++[D.agg [.int .i64 d.1,.int .i64 d.2]]=l.map eD:=by simp [eD,hl]
     have e2:l.length=h.length+1:=by simp [hl]
     have hu:=zDp l h.length zo zo;unfold zfq;rw[<- hl];have hul:=zYh l h.length;have hsl:=zjo l;generalize upL l h.length=r at *;simp only[eD] at hd ⊢;clear hl;exact zW
 ·simp only[h0,ne_eq,zZm,if_true,if_false,zYS];clear hf hd;exact zW
def zky(p:List Due×Nat):St:=⟨[(0,.d (.sl (p.1.map eD))),(1,.d (.int .i64 p.2))],[]⟩
theorem zT7:∀p:List Due×Nat,p.2<p.1.length/\p.1.length<=1000->∃e:zR,(e= .exit 0/\zP G [] zob (zky p)=some (.exit 0,⟨[(0,.d (.sl ((zbr p.1 p.2).map eD)))],[]⟩))\/(e= .ret/\zP G [] zob (zky p)=some (.ret,⟨[(4,.d (.sl ((zbr p.1 p.2).map eD)))],[]⟩)):=by
 refine ziQ (fun p:List Due×Nat=>p.1.length - p.2) (fun p:List Due×Nat=>p.2<p.1.length/\p.1.length<=1000) zky (fun p r=>∃e:zR,(e= .exit 0/\r=some (.exit 0,⟨[(0,.d (.sl ((zbr p.1 p.2).map eD)))],[]⟩))\/(e= .ret/\r=some (.ret,⟨[(4,.d (.sl ((zbr p.1 p.2).map eD)))],[]⟩))) fun⟨l,i⟩ ⟨hi,hL⟩ L ih=> ?_;simp only[zky] at hi hL ih ⊢;simp only[zob]
 by_cases h1:2 * i+1<l.length
 ·have fin:∀k:Nat,i<k->k<l.length->∃e:zR,(e= .exit 0/\L ⟨[(0,.d (.sl ((swp l i k).map eD))),(1,.d (.int .i64 k))],[]⟩=some (.exit 0,⟨[(0,.d (.sl ((zbr (swp l i k) k).map eD)))],[]⟩))\/(e= .ret/\L ⟨[(0,.d (.sl ((swp l i k).map eD))),(1,.d (.int .i64 k))],[]⟩=some (.ret,⟨[(4,.d (.sl ((zbr (swp l i k) k).map eD)))],[]⟩)):=fun k h1 h2=>
     ih (swp l i k,k) ⟨by simp only[zcW];omega,by simp only[zcW];omega⟩ (by simp only[zcW];omega)
  have hg:∀k:Nat,k<l.length->(List.map eD l)[k]? = some (eD (l.getD k (0,0))):=fun k hk=>by simp [zZa,zY1 hk,hk]
  have g0:=hg i hi;have g1:=hg _ h1;have s1:=zs4 l i (2 * i+1) hi h1 hL;have f1:=fin (2 * i+1) zo h1;simp only[zZR,z1c,zZP,z0a] at s1 f1;have t1:((2:Int) * (i:Int)+1).toNat=2 * i+1:=by omega
  have t2:((2:Int) * (i:Int)+1+1).toNat=2 * i+1+1:=by omega
  by_cases h2:2 * i+1+1<l.length
  ·have g2:=hg _ h2;have s2:=zs4 l i (2 * i+1+1) hi h2 hL;have f2:=fin (2 * i+1+1) zo h2;simp only[zZR,z1c,zZP,z0a] at s2 f2
   cases hlt:lt (l.getD (2 * i+1+1) (0,0)) (l.getD (2 * i+1) (0,0))
   ·cases hlt2:lt (l.getD (2 * i+1) (0,0)) (l.getD i (0,0))
    ·simp -implicitDefEqProofs (maxSteps:=4000000) (disch:=omega) only[go_sem,g0,g1,g2,t1,t2,zhb,hlt,hlt2,zeU,zfd];have e:zbr l i=l:=by rw[zbr];simp only[h1,h2,hlt,hlt2,dite_true,dite_false,zZZ,z0k,zZ3,if_true,if_false,zYX,reduceCtorEq]
     exact⟨.ret,.inr ⟨rfl,by rw[e]⟩⟩
    ·simp -implicitDefEqProofs (maxSteps:=4000000) (disch:=omega) only[go_sem,g0,g1,g2,t1,t2,zhb,hlt,hlt2,s1,zeU,zfd];have e:zbr l i=zbr (swp l i (2 * i+1)) (2 * i+1):=by rw[zbr];simp only[h1,h2,hlt,hlt2,dite_true,dite_false,zZZ,z0k,zZ3,if_true,if_false,zYX,reduceCtorEq]
     rw[e];exact f1
   ·cases hlt2:lt (l.getD (2 * i+1+1) (0,0)) (l.getD i (0,0))
    ·simp -implicitDefEqProofs (maxSteps:=4000000) (disch:=omega) only[go_sem,g0,g1,g2,t1,t2,zhb,hlt,hlt2,zeU,zfd];have e:zbr l i=l:=by rw[zbr];simp only[h1,h2,hlt,hlt2,dite_true,dite_false,zZZ,z0k,zZ3,if_true,if_false,zYX,reduceCtorEq]
     exact⟨.ret,.inr ⟨rfl,by rw[e]⟩⟩
    ·simp -implicitDefEqProofs (maxSteps:=4000000) (disch:=omega) only[go_sem,g0,g1,g2,t1,t2,zhb,hlt,hlt2,s2,zeU,zfd];have e:zbr l i=zbr (swp l i (2 * i+1+1)) (2 * i+1+1):=by rw[zbr];simp only[h1,h2,hlt,hlt2,dite_true,dite_false,zZZ,z0k,zZ3,if_true,if_false,zYX,reduceCtorEq]
     rw[e];exact f2
  ·cases hlt2:lt (l.getD (2 * i+1) (0,0)) (l.getD i (0,0))
   ·simp -implicitDefEqProofs (maxSteps:=4000000) (disch:=omega) only[go_sem,g0,g1,t1,t2,zhb,hlt2,zeU,zfd];have e:zbr l i=l:=by rw[zbr];simp only[h1,h2,hlt2,dite_true,dite_false,zZZ,z0k,zZ3,if_true,if_false,zYX,reduceCtorEq]
    exact⟨.ret,.inr ⟨rfl,by rw[e]⟩⟩
   ·simp -implicitDefEqProofs (maxSteps:=4000000) (disch:=omega) only[go_sem,g0,g1,t1,t2,zhb,hlt2,s1,zeU,zfd];have e:zbr l i=zbr (swp l i (2 * i+1)) (2 * i+1):=by rw[zbr];simp only[h1,h2,hlt2,dite_true,dite_false,zZZ,z0k,zZ3,if_true,if_false,zYX,reduceCtorEq]
    rw[e];exact f1
 ·simp -implicitDefEqProofs (maxSteps:=4000000) (disch:=omega) only[go_sem,zZj];have e:zbr l i=l:=by rw[zbr];simp only[h1,dite_false]
  exact⟨.exit 0,.inl ⟨rfl,by rw[e]⟩⟩
theorem zT8(h:List Due)(i:Nat)(hi:i<h.length)(hL:h.length<=1000):zd G 324 [.d (.sl (h.map eD)),.d (.int .i64 i)] []=some (.d (.sl ((zbr h i).map eD)),[]):=by
 obtain⟨e,h1|h1⟩:=zT7 (h,i) ⟨hi,hL⟩
 ·have:=h1.2;simp only[zky] at this;rw[zB zA1 (by simp)];simp -implicitDefEqProofs (maxSteps:=4000000) (disch:=omega) only[znb,go_sem,this]
 ·have:=h1.2;simp only[zky] at this;rw[zB zA1 (by simp)];simp -implicitDefEqProofs (maxSteps:=4000000) (disch:=omega) only[znb,go_sem,this]
theorem zDl(h:List Due)(i:Nat)(hi:i<h.length)(hL:h.length<=1000):zd G 320 [.d (.sl (h.map eD)),.d (.int .i64 i)] []=some (.d (.sl ((zdK h i).map eD)),[]):=by
 obtain⟨m,hm⟩:∃m,m=h.length - 1:=⟨_,rfl⟩;obtain⟨t,ht⟩:∃t,t=h.take m:=⟨_,rfl⟩;have htl:t.length=m:=by simp [ht];omega
 have e1:List.take m (h.map eD)=t.map eD:=by rw[ht,z0G]
 have w1:((h.length:Int) - 1)=(m:Int):=by omega
 have hmlt:m<h.length:=by omega
 have him:i<=m/\m<=1000:=by omega
 have him2:m<=4294967296:=by omega
 have hs:=zjo h;have hs2:=zjo t;unfold zdK;rw[<- hm, <- ht]
 by_cases hi2:i=m
 ·subst hi2;rw[zYQ rfl];clear hm ht;exact zW
 ·have hi3:i<m:=by omega
  rw[zYP hi2];obtain⟨l,hl⟩:∃l,l=t.set i (h.getD m (0,0)):=⟨_,rfl⟩;have hll:l.length=m:=by rw[hl,zZu,htl]
  have e5:(t.map eD).set i (eD (h[m]'hmlt))=l.map eD:=by rw[hl,zg hmlt,zZ7]
  have hu:=zDp l i zo zo;have hd:=zT8 l i zo zo;rw[<- hl];show zd G 320 _ _=some (.d (.sl ((if (upL l i).2=i then zbr (upL l i).1 i else (upL l i).1).map eD)),[]);have hat:= @zEt l i;have hup:(¬0<i\/lt (l.getD i (0,0)) (l.getD ((i - 1) / 2) (0,0))=false)->upL l i=(l,i):=fun hc=>by
   rw[upL]
   rcases hc with hc|hc
   ·rw[zYP hc]
   ·split
    ·rw[zYP (by rw[hc];decide)]
    ·rfl
  have hm4:m<=1000:=by omega
  clear hl hm ht
  by_cases h0:0<i
  ·have hq:((i:Int) - 1).tdiv 2=(((i - 1) / 2:Nat):Int):=by rw[zZ9 zo];omega
   have hj:(i - 1) / 2<l.length:=by omega
   have hil:i<l.length:=by omega
   have hbf:=zhb l[i] l[(i - 1) / 2]
   cases hlt:lt l[i] l[(i - 1) / 2]
   ·rw[hup (.inr (by rw[zg hil,zg hj];exact hlt))] at hu ⊢;rw[zYQ rfl];rw[hlt] at hbf;clear hlt hup hat hu;exact zW
   ·have:¬(upL l i).2=i:=by
       rcases hat.2 with hc|hc
       ·omega
       ·exact absurd ⟨h0,by rw[zg hil,zg hj];exact hlt⟩ hc.1
    rw[zYP this];rw[hlt] at hbf;generalize upL l i=r at *;clear hlt hup hat hd this;exact zW
  ·rw[hup (.inl h0)];rw[zYQ rfl];clear hup hat hu;exact zW
theorem zDn(h:List Due)(id:Int)(hL:h.length<=LIM):zd G 305 [.d (.sl (h.map eD)),.d (.int .i64 id)] []=some (.d (eDE (zca h id)),[]):=by
 have hv:=zo6 h hL;have hf:=zs3 h id hL;unfold zca eDE
 by_cases h0:zb0 h=0
 ·have h12:=ztS h0
  by_cases hn:zba h id<0
  ·rw[zB zrg (by simp)];simp -implicitDefEqProofs (maxSteps:=4000000) (disch:=omega) only[zlc,go_sem,hv,h0,hf,hn,zYS]
  ·have hd:=zDl h (zba h id).toNat (by have:=zJX h id;omega) zo;rw[show (((zba h id).toNat:Nat):Int)=zba h id by omega] at hd;rw[zB zrg (by simp)];simp -implicitDefEqProofs (maxSteps:=4000000) (disch:=omega) only[zlc,go_sem,hv,h0,hf,hn,hd]
 ·rw[zB zrg (by simp)];simp -implicitDefEqProofs (maxSteps:=4000000) (disch:=omega) only[zlc,go_sem,hv,h0]
def Asc(l:List Due)(n:Nat):Prop:=∀p q,p<q->q<n->lt (l.getD q dz) (l.getD p dz)=false
def ziI(l:List Due)(j:Nat):List Due:=
 if 0<j then (if lt (l.getD j dz) (l.getD (j - 1) dz) then ziI (swp l j (j - 1)) (j - 1) else l) else l
termination_by j
theorem zBF(l:List Due)(j:Nat):(ziI l j).length=l.length:=by
 fun_induction ziI l j with
 | case1 l j h0 h1 ih=>rw[ih,zcW]
 | case2=>rfl
 | case3=>rfl
theorem zPv(l:List Due)(j i:Nat)(hi:i<l.length)(hj:j<=i)(h1:∀p q,p<q->q<=i->p≠j->q≠j->lt (l.getD q dz) (l.getD p dz)=false)(h2:∀q,j<q->q<=i->lt (l.getD q dz) (l.getD j dz)=false):Asc (ziI l j) (i+1)/\(ziI l j).Perm l:=by
 fun_induction ziI l j with
 | case1 l j h0 hlt ih=>
  have hs:∀k,(swp l j (j - 1)).getD k dz=if k=j - 1 then l.getD j dz else if k=j then l.getD (j - 1) dz else l.getD k dz:=fun k=>ztv l j (j - 1) k zo zo
  have ih':=ih (by rw[zcW];exact hi) zo (fun p q hpq hq hp hq2=>by
      rw[hs,hs]
      by_cases e1:q=j
      ·subst e1;rw[zYP zo,zYQ rfl,zYP zo,zYP zo];exact h1 p (q - 1) zo zo zo zo
      ·by_cases e2:p=j
       ·subst e2;rw[zYP zo,zYP zo,zYP zo,zYQ rfl];exact h1 (p - 1) q zo hq zo zo
       ·rw[zYP zo,zYP e1,zYP zo,zYP e2];exact h1 p q hpq hq e2 e1) (fun q hq1 hq2=>by
      rw[hs,hs,zYP zo,zYQ rfl]
      by_cases e1:q=j
      ·rw[zYQ e1];exact ziR hlt
      ·rw[zYP e1];exact h2 q zo hq2)
  exact⟨ih'.1,ih'.2.trans (ztw l j (j - 1) zo zo)⟩
 | case2 l j h0 hlt=>
  refine⟨fun p q hpq hq=> ?_,.refl _⟩;have hjj:lt (l.getD j dz) (l.getD (j - 1) dz)=false:=by simpa using hlt
  by_cases e1:p=j
  ·subst e1;exact h2 q hpq zo
  ·by_cases e2:q=j
   ·subst e2
    by_cases e3:p=q - 1
    ·subst e3;exact hjj
    ·exact ziM (h1 p (q - 1) zo zo e1 zo) hjj
   ·exact h1 p q hpq zo e1 e2
 | case3 l j h0=>
  refine⟨fun p q hpq hq=> ?_,.refl _⟩
  by_cases e1:p=j
  ·subst e1;exact h2 q hpq zo
  ·exact h1 p q hpq zo e1 zo
def zgH(l:List Due)(i:Nat):List Due:=if i<l.length then zgH (ziI l i) (i+1) else l
termination_by l.length - i
decreasing_by rw[zBF];omega
theorem zkN(l:List Due)(i:Nat)(h:Asc l i):Asc (zgH l i) l.length/\(zgH l i).Perm l:=by
 fun_induction zgH l i with
 | case1 l i hi ih=>
  have:=zPv l i i hi zo (fun p q hpq hq _ hq2=>h p q hpq zo) (fun q h1 h2=>by omega);have ih':=ih this.1;rw[zBF] at ih';exact⟨ih'.1,ih'.2.trans this.2⟩
 | case2 l i hi=>exact⟨fun p q hpq hq=>h p q hpq zo,.refl _⟩
def zjD(now:Int)(l:List Due):List Int:=(l.filter fun d=>decide (d.1<=now)).map (·.2)
def zcK(h:List Due)(now:Int):List Int:=if zb0 h=0 then zjD now (zgH h 1) else []
theorem zFN:∀(a b:List Due),a.Perm b->a.Pairwise (fun x y=>lt y x=false)->b.Pairwise (fun x y=>lt y x=false)->a.Nodup->a=b:=by
 intro a
 induction a with
 | nil=>intro b hp _ _ _;exact (List.Perm.nil_eq hp)
 | cons x a ih=>
  intro b hp ha hb hn
  cases b with
  | nil=>exact absurd hp.symm.nil_eq (by simp)
  | cons y b=>
   have hxy:x=y:=by
    by_cases e:x=y
    ·exact e
    ·have h1:y∈a:=by
        have:=hp.symm.subset (List.mem_cons_self (a:=y) (l:=b))
        rcases zZx.1 this with h|h
        ·exact absurd h.symm e
        ·exact h
     have h2:x∈b:=by
      have:=hp.subset (List.mem_cons_self (a:=x) (l:=a))
      rcases zZx.1 this with h|h
      ·exact absurd h e
      ·exact h
     have h3:=(z0K.1 ha).1 y h1;have h4:=(z0K.1 hb).1 x h2;rw[zg5] at h3 h4;exact Prod.ext zo zo
   subst hxy;rw[ih b ((List.perm_cons _).1 hp) (z0K.1 ha).2 (z0K.1 hb).2 (zZS.1 hn).2]
theorem zug{l:List Due}(h:Asc l l.length):l.Pairwise (fun x y=>lt y x=false):=by
 rw[zZ4];intro i j hi hj hij;have:=h i j hij hj;simpa [hi,hj] using this
theorem zWP{h:List Due}(o:Ok h)(hne:h≠[]):zgH h 1=h.getD 0 dz::zgH (zdK h 0) 1:=by
 have hd:=zln o 0 (z0o.2 hne);have s1:=zkN h 1 (fun p q hp hq=>by omega);have s2:=zkN (zdK h 0) 1 (fun p q hp hq=>by omega);have hl1:=s1.2.length_eq;have hl2:=s2.2.length_eq;rw[<- hl1] at s1;rw[<- hl2] at s2;have hnd:h.Nodup:=List.Pairwise.of_map (fun d:Due=>d.2) (fun a b hh e=>hh (by rw[e])) o.ids;refine zFN _ _ (s1.2.trans (hd.2.symm.trans (s2.2.symm.cons _))) (zug s1.1) (z0K.2 ⟨fun d hm=> ?_,zug s2.1⟩) (s1.2.nodup_iff.2 hnd);exact zEm o.ord d (hd.2.subset (z13 _ (s2.2.subset hm)))
theorem zYe{h:List Due}{now:Int}(o:Ok h)(hne:h≠[]):zcK h now=if (h.getD 0 dz).1<=now then (h.getD 0 dz).2::zcK (zdK h 0) now else []:=by
 have hd:=zln o 0 (z0o.2 hne);unfold zcK;rw[zYQ ((zfD h).2 o),zYQ ((zfD _).2 hd.1),zWP o hne];unfold zjD
 by_cases hc:(h.getD 0 dz).1<=now
 ·rw[zYQ hc,List.filter_cons_of_pos (by simpa using hc),zYU]
 ·rw[zYP hc,List.filter_cons_of_neg (by simpa using hc)];have:∀d∈zgH (zdK h 0) 1,¬d.1<=now:=by
   intro d hm;have s2:=zkN (zdK h 0) 1 (fun p q hp hq=>by omega);have:=zEm o.ord d (hd.2.subset (z13 _ (s2.2.subset hm)));rw[zg5] at this;omega
  rw[z14.2 (by simpa using this)];rfl
def rUS(now:Int)(p:List Due×List Int):St:=⟨[(0,.d (.sl (p.1.map eD))),(1,.d (.int .i64 now)),(5,.acc 5 (zt p.2))],[(5,.acc p.2.length)]⟩
theorem zUa(now:Int):∀p:List Due×List Int,p.1.length<=LIM/\(zb0 p.1=0->p.1.length+p.2.length<=1000)->zP G [] zlN (rUS now p)=some (.exit 0,⟨[(5,.acc 5 (zt (p.2++zcK p.1 now)))],[(5,.acc (p.2++zcK p.1 now).length)]⟩):=by
 refine zaq (fun p:List Due×List Int=>p.1.length) _ (rUS now) _ fun⟨h,out⟩ ⟨hL,hL2⟩ L ih=> ?_;simp only[rUS] at ih hL hL2 ⊢;have hv:=zo6 h hL
 by_cases h0:zb0 h=0
 ·have hl3:=hL2 h0;have o:=(zfD h).1 h0
  by_cases he:h=[]
  ·subst he;have e:zcK [] now=[]:=by unfold zcK;rw[zYQ h0];unfold zgH;simp [zjD]
   rw[e,zZd];simp only[zlN,zYS] at hv ⊢;simp -implicitDefEqProofs (maxSteps:=4000000) (disch:=omega) only[go_sem,hv,h0]
  ·have hpos:=z0o.2 he;have hd:=zln o 0 hpos;have hl1:(zdK h 0).length+1=h.length:=by simpa using hd.2.length_eq
   have hg:(h.map eD)[0]? = some (eD (h.getD 0 dz)):=by simp [zZa,zY1 hpos,hpos]
   have hc:=zDl h 0 hpos zo;simp only[zZg] at hc;rw[zYe o he];have:=ih (zdK h 0,out++[(h.getD 0 dz).2]) ⟨by simp only;omega,fun _=>by simp only[zYZ,zZp];omega⟩ (by simp only;omega);simp only[zlN]
   by_cases hcc:(h.getD 0 dz).1<=now
   ·rw[zYQ hcc];simp only[zZF,zZh,zZb] at this;simp only[zt,zY5,zYU,zYS,zYZ,zYW,zYY,zZR,zZP,zZj] at this;simp -implicitDefEqProofs (maxSteps:=4000000) (disch:=omega) only[go_sem,hv,h0,hg,eD,hcc,hc,zpO];exact this
   ·rw[zYP hcc,zZd];simp -implicitDefEqProofs (maxSteps:=4000000) (disch:=omega) only[go_sem,hv,h0,hg,eD,hcc]
 ·have e:zcK h now=[]:=by unfold zcK;rw[zYP h0]
  rw[e,zZd];simp only[zlN];simp -implicitDefEqProofs (maxSteps:=4000000) (disch:=omega) only[go_sem,hv,h0]
theorem zUb(h:List Due)(now:Int)(hL:h.length<=LIM):zd G 309 [.d (.sl (h.map eD)),.d (.int .i64 now)] []=some (.d (.sl (zt (zcK h now))),[]):=by
 have hl:=zUa now (h,[]) ⟨hL,fun h0=>by have:=ztS h0;simp only[zYY] at this ⊢; omega⟩;simp only[rUS,zYS,zYY,zZb,zt] at hl;rw[zB zOI (by simp)];simp -implicitDefEqProofs (maxSteps:=4000000) (disch:=omega) only[zqk,go_sem,hl]
theorem zke(n lo hi:Int):zd G 253 [.d (.int .i64 n),.d (.int .i64 lo),.d (.int .i64 hi)] []=some (.d (.bool (decide (lo<=n/\n<=hi))),[]):=by
 by_cases h:lo<=n
 ·by_cases h2:n<=hi
  ·rw[zZe ⟨h,h2⟩];exact zW
  ·rw[zZc zo];exact zW
 ·rw[zZc zo];exact zW
theorem zkt(n lo hi:Int):zd G 260 [.d (.int .i64 n),.d (.int .i64 lo),.d (.int .i64 hi)] []=some (.d (.bool (decide (lo<=n/\n<=hi))),[]):=by
 by_cases h:lo<=n
 ·by_cases h2:n<=hi
  ·rw[zZe ⟨h,h2⟩];exact zW
  ·rw[zZc zo];exact zW
 ·rw[zZc zo];exact zW
theorem zDf(m:Message)(e:Int):zd G 52 [.d (zj m),.d (.int .i64 e)] []=some (.d (.bool (decide (m.epoch<e))),[]):=by
 exact zW
def zZ(m:Message):Int:=
 if 1<=m.id/\m.id<=1073741824/\0<=m.route/\m.route<=65535/\0<=m.epoch/\m.epoch<=65536/\0<=m.count/\m.count<=8/\m.count<=m.gen/\m.gen<=65536/\0<=m.sent/\m.sent<=1073741824 then (if 16<m.body.length then 2 else 0) else 1
theorem zsC(m:Message):zd G 190 [.d (zj m)] []=some (.d (.int .i64 (zZ m)),[]):=by
 have i1:=zke m.id 1 1073741824;have i2:=zke m.route 0 65535;have i3:=zke m.epoch 0 65536;have i4:=zke m.count 0 8;have i5:=zke m.gen m.count 65536;have i6:=zke m.sent 0 1073741824;unfold zZ
 split
 ·split
  ·exact zW
  ·exact zW
 ·exact zW
theorem zhV(m:Message):zd G 195 [.d (zj m)] []=some (.d (.int .i64 (zZ m)),[]):=by
 have i1:=zkt m.id 1 1073741824;have i2:=zkt m.route 0 65535;have i3:=zkt m.epoch 0 65536;have i4:=zkt m.count 0 8;have i5:=zkt m.gen m.count 65536;have i6:=zkt m.sent 0 1073741824;unfold zZ
 split
 ·split
  ·exact zW
  ·exact zW
 ·exact zW
theorem zQW(n:Int):zd G 191 [.d (.int .i64 n)] []=some (.d (.bool (decide (0<=n/\n<=1073741824))),[]):=by
 by_cases h:0<=n
 ·by_cases h2:n<=1073741824
  ·rw[zZe ⟨h,h2⟩];exact zW
  ·rw[zZc zo];exact zW
 ·rw[zZc zo];exact zW
def zdR(l:List zy)(i:Nat):Int:=
 if zZ (l.getD i zbF).msg≠0 then zZ (l.getD i zbF).msg
 else if (l.getD i zbF).msg.gen=0 then 7
 else if (l.getD i zbF).deadline<0\/1073741824<(l.getD i zbF).deadline then 1
 else if 0<i/\(l.getD i zbF).msg.id<=(l.getD (i - 1) zbF).msg.id then 11 else 0
def zeY(l:List zy)(i:Nat):Bool:=decide (zdR l i≠0)
def obT(o:Nat)(t:Table):Nat×Go.Sim.Obj:=(o,.row [.d (z9 t)])
theorem zQX(t:Table)(hL:t.l.length<=12):zP G [] zrI ⟨[(1,.ref 1 0 0),(12,.d (.sl (t.l.map zaw))),(13,.d (.int .i64 t.l.length)),(14,.d (.int .i64 0))],[obT 1 t]⟩=some (zgn t.l.length (zeY t.l) (fun k=>(.ret,⟨[(2,.d (.int .i64 (zdR t.l k)))],[]⟩)) (.exit 0,⟨[(1,.ref 1 0 0)],[obT 1 t]⟩)):=by
 refine zg4 (G:=G) t.l.length (zeY t.l) (fun k=>⟨[(1,.ref 1 0 0),(12,.d (.sl (t.l.map zaw))),(13,.d (.int .i64 t.l.length)),(14,.d (.int .i64 k))],[obT 1 t]⟩) _ _ fun k hk L=> ?_;simp only[zrI,obT]
 by_cases h0:k<t.l.length
 ·rw[zYQ h0];have hm:=zsC t.l[k].msg;have ht:=zQW t.l[k].deadline;simp only[zj] at hm;unfold zeY zdR;rw[zg h0]
  by_cases c1:zZ t.l[k].msg=0
  ·rw[c1] at hm;simp only[c1,ne_eq,zY2,if_false]
   by_cases c2:t.l[k].msg.gen=0
   ·simp only[c2,if_true,show ((7:Int)=0)=False by simp,zZm,decide_true];clear ht;rw[c2] at hm;exact zS
   ·simp only[c2,if_false]
    by_cases c3:t.l[k].deadline<0\/1073741824<t.l[k].deadline
    ·rw[zZc zo] at ht;simp only[c3,if_true,show ((1:Int)=0)=False by simp,zZm,decide_true];exact zS
    ·rw[zZe zo] at ht;simp only[c3,if_false]
     by_cases c4:0<k
     ·have hk1:k - 1<t.l.length:=by omega
      have e1:(k:Int) - 1=((k - 1:Nat):Int):=by omega
      rw[zg hk1]
      by_cases c5:t.l[k].msg.id<=t.l[k - 1].msg.id
      ·simp only[c4,c5,zZI,if_true,show ((11:Int)=0)=False by simp,zZm,decide_true];exact zS
      ·simp only[c4,c5,z0P,if_false,zY2,decide_false,zYX];exact zS
     ·simp only[c4,zZ3,if_false,zY2,decide_false,zYX];exact zS
  ·simp only[c1,ne_eq,zZm,if_true,decide_true];clear ht;exact zS
 ·rw[zYP h0];exact zS
theorem zTA(t:Table)(hL:t.l.length<=12):zP G [] zrW ⟨[(1,.ref 1 0 0),(3,.d (.int .i64 0))],[obT 1 t]⟩=some (zgn t.l.length (zeY t.l) (fun k=>(.ret,⟨[(2,.d (.int .i64 (zdR t.l k)))],[]⟩)) (.exit 0,⟨[(1,.ref 1 0 0)],[obT 1 t]⟩)):=by
 refine zg4 (G:=G) t.l.length (zeY t.l) (fun k=>⟨[(1,.ref 1 0 0),(3,.d (.int .i64 k))],[obT 1 t]⟩) _ _ fun k hk L=> ?_;simp only[zrW,obT]
 by_cases h0:k<t.l.length
 ·rw[zYQ h0];have hm:=zhV t.l[k].msg;simp only[zj] at hm;unfold zeY zdR;rw[zg h0]
  by_cases c1:zZ t.l[k].msg=0
  ·rw[c1] at hm;simp only[c1,ne_eq,zY2,if_false]
   by_cases c2:t.l[k].msg.gen=0
   ·simp only[c2,if_true,show ((7:Int)=0)=False by simp,zZm,decide_true];rw[c2] at hm;exact zS
   ·simp only[c2,if_false]
    by_cases c3:t.l[k].deadline<0\/1073741824<t.l[k].deadline
    ·skip;simp only[c3,if_true,show ((1:Int)=0)=False by simp,zZm,decide_true];exact zS
    ·skip;simp only[c3,if_false]
     by_cases c4:0<k
     ·have hk1:k - 1<t.l.length:=by omega
      have e1:(k:Int) - 1=((k - 1:Nat):Int):=by omega
      rw[zg hk1]
      by_cases c5:t.l[k].msg.id<=t.l[k - 1].msg.id
      ·simp only[c4,c5,zZI,if_true,show ((11:Int)=0)=False by simp,zZm,decide_true];exact zS
      ·simp only[c4,c5,z0P,if_false,zY2,decide_false,zYX];exact zS
     ·simp only[c4,zZ3,if_false,zY2,decide_false,zYX];exact zS
  ·simp only[c1,ne_eq,zZm,if_true,decide_true];exact zS
 ·rw[zYP h0];exact zS
theorem zWA(h:List Due)(d:Due)(hL:h.length<=4294967296):zd G 291 [.d (.sl (h.map eD)),.d (eD d)] []=some (.d (.int .i64 (zbf (fun x=>decide (x=d)) h)),[]):=by
 have hl:=zg4 (G:=G) (x:=zsd) (ks:=[]) h.length (atB h fun x=>decide (x=d)) (fun k=>⟨[(0,.d (.sl (h.map eD))),(3,.ref 3 0 0),(7,.d (.int .i64 h.length)),(8,.d (.int .i64 k))],[(3,.row [.d (eD d)])]⟩) (fun k=>(.ret,⟨[(4,.d (.int .i64 k))],[]⟩)) (.exit 0,⟨[],[]⟩) (fun k hk L=>by
  simp only[zsd]
  by_cases h0:k<h.length
  ·simp only[h0,if_true,zeO h0];have e:decide (h[k]=d)=(decide (h[k].1=d.1)&&decide (h[k].2=d.2)):=by
    rw[<- z0R]
    congr 1
    exact propext ⟨fun e=>by rw[e];exact⟨rfl,rfl⟩,fun⟨a,b⟩=>Prod.ext a b⟩
   rw[e];clear e
   by_cases q1:h[k].1=d.1
   ·by_cases q2:h[k].2=d.2
    ·simp only[q1,q2,decide_true,zZX,if_true];simp only[eD];have zk0:=eD.eq_1;exact zS
    ·simp only[q1,q2,decide_true,decide_false,zZ5,zYX,if_false];simp only[eD];have zk0:=eD.eq_1;exact zS
   ·simp only[q1,decide_false,zZH,zYX,if_false];simp only[eD];have zk0:=eD.eq_1;exact zS
  ·exact zS)
 rw[ziB] at hl;simp only[zNr,zp] at hl;unfold zbf
 cases hf:h.findIdx? (fun x=>decide (x=d)) with
 | none=>rw[hf] at hl;clear hf;exact zW
 | some i=>rw[hf] at hl;clear hf;exact zW
theorem zVJ(h:List Due)(d:Due)(hL:h.length<=4294967296):zd G 259 [.d (.sl (h.map eD)),.d (eD d)] []=some (.d (.bool (h.any fun x=>decide (x=d))),[]):=by
 have hi:=zWA h d hL;rw[<- zrx];exact zW
def zad(l:List zy)(id:Int):Int:=zbf (fun x=>decide (x.msg.id=id)) l
theorem zmi(t:Table)(id:Int)(hL:t.l.length<=4294967296):zd G 197 [.d (z9 t),.d (.int .i64 id)] []=some (.d (.int .i64 (zad t.l id)),[]):=by
 have hl:=zg4 (G:=G) (x:=zrX) (ks:=[]) t.l.length (atB t.l fun x=>decide (x.msg.id=id)) (fun k=>⟨[(1,.d (.int .i64 id)),(2,.ref 2 0 0),(5,.d (.int .i64 k))],[obT 2 t]⟩) (fun k=>(.ret,⟨[(4,.d (.int .i64 k))],[]⟩)) (.exit 0,⟨[],[]⟩) (fun k hk L=>by
  simp only[zrX,obT]
  by_cases h0:k<t.l.length
  ·simp only[h0,if_true,zeO h0];exact zS
  ·exact zS)
 rw[ziB] at hl;simp only[obT] at hl;simp only[zNr,zp] at hl;unfold zad zbf
 cases hf:t.l.findIdx? (fun x=>decide (x.msg.id=id)) with
 | none=>rw[hf] at hl;clear hf;exact zW
 | some i=>rw[hf] at hl;clear hf;exact zW
def zg7(t:Table):Bool:=decide (t.heap.length=t.l.length)&&t.l.all fun x=>t.heap.any fun d=>decide (d=(x.deadline,x.msg.id))
theorem zRc(t:Table)(hL:t.l.length<=4294967296)(hH:t.heap.length<=4294967296):zd G 193 [.d (z9 t)] []=some (.d (.bool (zg7 t)),[]):=by
 unfold zg7
 by_cases c:t.heap.length=t.l.length
 ·rw[zZe c];have hl:=zc7 (G:=G) (x:=zrJ) (ks:=[]) t.l.length (atB t.l fun x=>t.heap.any fun d=>decide (d=(x.deadline,x.msg.id))) (fun k=>⟨[(1,.ref 1 0 0),(13,.d (.sl (t.l.map zaw))),(14,.d (.int .i64 t.l.length)),(15,.d (.int .i64 k))],[obT 1 t]⟩) (.ret,⟨[(2,.d (.bool false))],[]⟩) (.exit 0,⟨[],[]⟩) (fun k hk L=>by
   simp only[zrJ,obT]
   by_cases h0:k<t.l.length
   ·simp only[h0,if_true,zeO h0];have hc:=zVJ t.heap (t.l[k].deadline,t.l[k].msg.id) hH;simp only[eD] at hc;generalize (t.heap.any fun d=>decide (d=(t.l[k].deadline,t.l[k].msg.id)))=z at *
    cases z
    ·exact zS
    ·exact zS
   ·exact zS)
  have e:(List.range t.l.length).all (atB t.l fun x=>t.heap.any fun d=>decide (d=(x.deadline,x.msg.id)))=t.l.all fun x=>t.heap.any fun d=>decide (d=(x.deadline,x.msg.id)):=by
   rw[zZB,zZi,zZi];constructor
   ·intro h x hx;obtain⟨i,hi,rfl⟩:=z0C hx;have:=h i (zZJ.2 hi)
    rwa [zeO hi] at this
   ·intro h i hi;rw[zeO (zZJ.1 hi)];exact h _ (zY4 _)
  rw[e] at hl;simp only[obT] at hl;simp only[zNr,zp] at hl;generalize (t.l.all fun x=>t.heap.any fun d=>decide (d=(x.deadline,x.msg.id)))=z at *
  cases z
  ·simp only[zYX,if_false] at hl;exact zW
  ·simp only[if_true] at hl;exact zW
 ·rw[zZc c];exact zW
def zer(l:List zy):Int:=zgn l.length (zeY l) (zdR l) 0
def zac(t:Table):Int:=
 if 12<t.l.length then 2 else if zer t.l≠0 then zer t.l else if zb0 t.heap≠0 then zb0 t.heap else if zg7 t=true then 0 else 7
theorem zoE(l:List zy):(∃k,(List.range l.length).find? (zeY l)=some k/\zdR l k≠0/\zer l=zdR l k)\/((List.range l.length).find? (zeY l)=none/\zer l=0):=by
 unfold zer zgn
 cases h:(List.range l.length).find? (zeY l) with
 | none=>exact .inr ⟨rfl,rfl⟩
 | some k=>
  refine .inl ⟨k,rfl,?_,rfl⟩;have:=List.find?_some h;unfold zeY at this;simpa using this
theorem zQY(t:Table)(hL:t.l.length<=4294967296)(hH:t.heap.length<=4294967296):zd G 122 [.d (z9 t)] []=some (.d (.int .i64 (zac t)),[]):=by
 unfold zac
 by_cases c0:12<t.l.length
 ·rw[zYQ c0];exact zW
 ·rw[zYP c0];have hl:=zQX t zo;have hv:=zYn t.heap hH;have hm:=zRc t hL hH;simp only[obT] at hl;unfold zgn at hl
  rcases zoE t.l with ⟨k,h1,h2,h3⟩|⟨h1,h3⟩
  ·rw[h1] at hl;simp only at hl;rw[h3,zYQ h2];generalize zdR t.l k=z at *;clear h1 h3 hv hm;exact zW
  ·rw[h1] at hl;rw[h3,zYP (by simp)];clear h1 h3;generalize zb0 t.heap=z at *
   by_cases c1:z=0
   ·subst c1;rw[zYP (by simp)]
    cases h:zg7 t
    ·rw[h] at hm;simp only[zYX,if_false];clear h;exact zW
    ·rw[h] at hm;simp only[if_true];clear h;exact zW
   ·rw[zYQ c1];clear hm;exact zW
def zkd(t:Table):Bool:=decide (t.heap.length=t.l.length)&&t.heap.all fun d=>decide (0<=zad t.l d.2)&&decide ((t.l.getD (zad t.l d.2).toNat zbF).deadline=d.1)
def zpp(t:Table):Int:=
 if 12<t.l.length then 2 else if zer t.l≠0 then zer t.l else if zb0 t.heap≠0 then zb0 t.heap else if zkd t=true then 0 else 7
theorem znE(l:List zy)(id:Int): -1<=zad l id/\zad l id<l.length:=znU _ _
theorem zTw(t:Table)(hL:t.l.length<=4294967296)(hH:t.heap.length<=4294967296):zP G [] zoc ⟨[(1,.ref 1 0 0),(7,.d (.int .i64 0))],[obT 1 t]⟩=some (if (t.heap.all fun d=>decide (0<=zad t.l d.2)&&decide ((t.l.getD (zad t.l d.2).toNat zbF).deadline=d.1))=true then (.exit 3,⟨[],[]⟩) else (.ret,⟨[(2,.d (.int .i64 7))],[]⟩)):=by
 have hl:=zc7 (G:=G) (x:=zoc) (ks:=[]) t.heap.length (atB t.heap fun d=>decide (0<=zad t.l d.2)&&decide ((t.l.getD (zad t.l d.2).toNat zbF).deadline=d.1)) (fun k=>⟨[(1,.ref 1 0 0),(7,.d (.int .i64 k))],[obT 1 t]⟩) (.ret,⟨[(2,.d (.int .i64 7))],[]⟩) (.exit 3,⟨[],[]⟩) (fun k hk L=>by
  simp only[zoc,obT]
  by_cases h0:k<t.heap.length
  ·simp only[h0,if_true,zeO h0];have hf:=zmi t t.heap[k].2 hL;have hb:=znE t.l t.heap[k].2;generalize zad t.l t.heap[k].2=i at *
   by_cases c1:0<=i
   ·obtain⟨n,rfl⟩:∃n:Nat,i=n:=⟨i.toNat,by omega⟩;have hn:n<t.l.length:=by omega
    rw[zZz,zg hn,zZe c1,z0b]
    by_cases c2:t.l[n].deadline=t.heap[k].1
    ·rw[zZe c2];simp only[if_true];exact zS
    ·rw[zZc c2];simp only[zYX,if_false];exact zS
   ·rw[zZc c1];simp only[zZH,zYX,if_false];exact zS
  ·exact zS)
 have e:(List.range t.heap.length).all (atB t.heap fun d=>decide (0<=zad t.l d.2)&&decide ((t.l.getD (zad t.l d.2).toNat zbF).deadline=d.1))=t.heap.all fun d=>decide (0<=zad t.l d.2)&&decide ((t.l.getD (zad t.l d.2).toNat zbF).deadline=d.1):=by
  rw[zZB,zZi,zZi];constructor
  ·intro h x hx;obtain⟨i,hi,rfl⟩:=z0C hx;have:=h i (zZJ.2 hi)
   rwa [zeO hi] at this
  ·intro h i hi;rw[zeO (zZJ.1 hi)];exact h _ (zY4 _)
 rw[e] at hl;exact hl
theorem zkv(t:Table)(hL:t.l.length<=4294967296)(hH:t.heap.length<=4294967296):zd G 128 [.d (z9 t)] []=some (.d (.int .i64 (zpp t)),[]):=by
 unfold zpp
 by_cases c0:12<t.l.length
 ·rw[zYQ c0];exact zW
 ·rw[zYP c0];have hl:=zTA t zo;have hv:=zo6 t.heap hH;have hm:=zTw t hL hH;simp only[obT] at hl hm;unfold zgn at hl
  rcases zoE t.l with ⟨k,h1,h2,h3⟩|⟨h1,h3⟩
  ·rw[h1] at hl;simp only at hl;rw[h3,zYQ h2];generalize zdR t.l k=z at *;clear h1 h3 hv hm;exact zW
  ·rw[h1] at hl;rw[h3,zYP (by simp)];clear h1 h3;generalize zb0 t.heap=z at *
   by_cases c1:z=0
   ·subst c1;rw[zYP (by simp)];unfold zkd
    by_cases c2:t.heap.length=t.l.length
    ·rw[zZe c2,z0b];generalize (t.heap.all fun d=>decide (0<=zad t.l d.2)&&decide ((t.l.getD (zad t.l d.2).toNat zbF).deadline=d.1))=q at *
     cases q
     ·simp only[zYX,if_false] at hm ⊢;exact zW
     ·simp only[if_true] at hm ⊢;exact zW
    ·rw[zZc c2,zZH];simp only[zYX,if_false];clear hm;exact zW
   ·rw[zYQ c1];clear hm;exact zW
theorem zCL{α:Type}[DecidableEq α]:∀(A B:List α),A.Nodup->(∀a∈A,a∈B)->A.length<=B.length
 | [],_,_,_=>z1e _
 | a::A,B,h,hs=>by
  have ha:=hs a (by simp);rw[zZS] at h;have:=zCL A (B.erase a) h.2 fun x hx=>(List.mem_erase_of_ne (by rintro rfl;exact h.1 hx)).2 (hs x (by simp [hx]));rw[z2i ha] at this;have hp:=List.length_pos_of_mem ha;simp only[zYW];omega
theorem zCK{α:Type}[DecidableEq α]{A B:List α}(h:A.Nodup)(hs:∀a∈A,a∈B)(hl:B.length<=A.length):∀b∈B,b∈A:=by
 intro b hb
 by_cases c:b∈A
 ·exact c
 ·have:=zCL A (B.erase b) h fun x hx=>(List.mem_erase_of_ne (by rintro rfl;exact c hx)).2 (hs x hx);rw[z2i hb] at this;have hp:=List.length_pos_of_mem hb;omega
theorem zg0{l:List zy}(h:zer l=0):l.Pairwise fun x y=>x.msg.id<y.msg.id:=by
 have h0:∀i,i<l.length->zdR l i=0:=by
  rcases zoE l with ⟨k,_,h2,h3⟩|⟨h1,_⟩
  ·omega
  ·intro i hi;have:=List.find?_eq_none.1 h1 i (zZJ.2 hi);unfold zeY at this;simpa using this
 have step:∀i (hi:i+1<l.length),l[i].msg.id<l[i+1].msg.id:=fun i hi=>by
  have:=h0 (i+1) hi;unfold zdR at this;rw[zg hi,Nat.add_sub_cancel,zg (show i<l.length by omega)] at this
  split at this
  ·omega
  split at this
  ·omega
  split at this
  ·omega
  split at this
  ·cases this
  ·omega
 refine zZ4.2 fun i j hi hj hij=> ?_;obtain⟨m,rfl⟩:∃m,j=i+1+m:=⟨j - (i+1),by omega⟩
 induction m with
 | zero=>exact step i hj
 | succ m ih=>exact Int.lt_trans (ih zo zo) (step (i+1+m) zo)
def zbx(x:zy):Due:=(x.deadline,x.msg.id)
theorem zlr{l:List zy}{id:Int}(h:0<=zad l id):∃k,∃hk:k<l.length,zad l id=k/\l[k].msg.id=id:=by
 unfold zad zbf at h ⊢
 cases hf:l.findIdx? (fun x=>decide (x.msg.id=id)) with
 | none=>rw[hf] at h;exact absurd h (by simp)
 | some i=>
  obtain⟨hi,hp,_⟩:=zZV.1 hf;exact⟨i,hi,rfl,by simpa using hp⟩
theorem zq0{l:List zy}{id:Int}(h:zad l id<0):∀x∈l,x.msg.id≠id:=by
 unfold zad zbf at h
 cases hf:l.findIdx? (fun x=>decide (x.msg.id=id)) with
 | none=>intro x hx;have:=z0Z.1 hf x hx;simpa using this
 | some i=>rw[hf] at h;simp only at h;omega
theorem zue{l:List zy}(h:l.Pairwise fun x y=>x.msg.id<y.msg.id){i j:Nat}(hi:i<l.length)(hj:j<l.length)(e:l[i].msg.id=l[j].msg.id):i=j:=by
 rw[zZ4] at h
 rcases z1z i j with q|q|q
 ·have:=h i j hi hj q;omega
 ·exact q
 ·have:=h j i hj hi q;omega
theorem zqZ{l:List zy}(h:l.Pairwise fun x y=>x.msg.id<y.msg.id){k:Nat}(hk:k<l.length):zad l l[k].msg.id=k:=by
 by_cases c:0<=zad l l[k].msg.id
 ·obtain⟨j,hj,e,q⟩:=zlr c;rw[e,zue h hj hk q]
 ·exact absurd rfl (zq0 zo l[k] (zY4 _))
theorem zuf{l:List zy}(h:l.Pairwise fun x y=>x.msg.id<y.msg.id):(l.map zbx).Nodup:=by
 refine List.Pairwise.map _ ?_ h;intro a b hab e;have:=congrArg Prod.snd e;simp only[zbx] at this;omega
theorem zCq{t:Table}(h:t.l.Pairwise fun x y=>x.msg.id<y.msg.id):zkd t=true↔t.heap.length=t.l.length/\∀d∈t.heap,d∈t.l.map zbx:=by
 unfold zkd;rw[zY6,decide_eq_true_eq,zZi];refine and_congr_right fun _=>forall_congr' fun d=>forall_congr' fun hd=> ?_;rw[zY6,decide_eq_true_eq,decide_eq_true_eq,zY0];constructor
 ·rintro⟨h0,h1⟩;obtain⟨k,hk,e,q⟩:=zlr h0;rw[e,zZz,zg hk] at h1;exact⟨t.l[k],zY4 _,Prod.ext h1 q⟩
 ·rintro⟨x,hx,rfl⟩;obtain⟨k,hk,rfl⟩:=z0C hx;simp only[zbx,zqZ h hk];rw[zZz,zg hk];exact⟨by omega,rfl⟩
theorem zst{t:Table}:zg7 t=true↔t.heap.length=t.l.length/\∀d∈t.l.map zbx,d∈t.heap:=by
 unfold zg7;rw[zY6,decide_eq_true_eq,zZi];refine and_congr_right fun _=> ?_;constructor
 ·intro h d hd;obtain⟨x,hx,rfl⟩:=zY0.1 hd;obtain⟨y,hy,e⟩:=zZW.1 (h x hx);rw[decide_eq_true_eq] at e;rw[show zbx x=y from e.symm];exact hy
 ·intro h x hx;exact zZW.2 ⟨_,h _ (zY0.2 ⟨x,hx,rfl⟩),by simp [zbx]⟩
theorem zCr{t:Table}(h:zer t.l=0)(hv:zb0 t.heap=0):zg7 t=zkd t:=by
 have ha:=zg0 h;have hn:=((zfD _).1 hv).ids;have hh:t.heap.Nodup:=List.Pairwise.of_map (fun d:Due=>d.2) (fun a b h e=>h (by rw[e])) hn;rw[zZB,zCq ha,zst];refine and_congr_right fun e=>⟨fun q=> ?_,fun q=> ?_⟩
 ·exact zCK (zuf ha) q (by simp [e])
 ·exact zCK hh q (by simp [e])
theorem zkR(t:Table):zpp t=zac t:=by
 unfold zpp zac
 by_cases h:zer t.l=0
 ·by_cases hv:zb0 t.heap=0
  ·rw[zCr h hv]
  ·simp only[hv,ne_eq,zZm,if_true]
 ·simp only[h,ne_eq,zZm,if_true]
theorem bytesD_ok(s:List UInt8):zgh (byD s)=some s:=by
 unfold byD
 induction s with
 | nil=>rfl
 | cons b s ih=>
  simp only[zYU,zgh,ih,zZv,zZz];simp
theorem zF5(l:List Int)(hL:l.length<=4000)(n:Nat)(hn:n<=3):∀p:Nat×Nat×List UInt8,p.1<=n/\p.2.2.length=n->∃a' bs,bs.length=n/\zP G [] zrE ⟨[(0,.ref 1000000 0 0),(3,.osl 7 0 n),(4,.d (.int .i64 p.1)),(1000000,.ref 1000000 1 0)],[(7,.row ((byD p.2.2).map .d)),(1000000,zp l p.2.1)]⟩=some (.exit 0,⟨[(3,.osl 7 0 n),(1000000,.ref 1000000 1 0)],[(7,.row ((byD bs).map .d)),(1000000,zp l a')]⟩):=by
 refine ziQ (fun p:Nat×Nat×List UInt8=>n - p.1) (fun p:Nat×Nat×List UInt8=>p.1<=n/\p.2.2.length=n) (fun p:Nat×Nat×List UInt8=>⟨[(0,.ref 1000000 0 0),(3,.osl 7 0 n),(4,.d (.int .i64 p.1)),(1000000,.ref 1000000 1 0)],[(7,.row ((byD p.2.2).map .d)),(1000000,zp l p.2.1)]⟩) (fun p r=>∃a' bs,bs.length=n/\r=some (.exit 0,⟨[(3,.osl 7 0 n),(1000000,.ref 1000000 1 0)],[(7,.row ((byD bs).map .d)),(1000000,zp l a')]⟩)) fun⟨k,a,bs⟩ ⟨hk,hb⟩ L ih=> ?_;simp only at ih hk hb;simp only[zrE]
 by_cases h0:k<n
 ·have n1:=zaG l a (n:=3) zo;obtain⟨c,hc⟩:∃c:UInt8,(c.toNat:Int)=97+nD l a 3:=⟨UInt8.ofNat (97+nD l a 3).toNat,by rw[UInt8.toNat_ofNat'];omega⟩;have hg:((byD bs).map AV.d)[k]? = some (.d (.int .u8 (bs.getD k 0).toNat)):=by
   unfold byD;simp [zY1 (show k<bs.length by omega),show k<bs.length by omega]
  have hs:((byD bs).map AV.d).set k (.d (.int .u8 (97+nD l a 3)))=(byD (bs.set k c)).map AV.d:=by
   unfold byD;rw[<- hc,zZ7,zZ7]
  obtain⟨a',bs',h1,h2⟩:=ih (k+1,(zae l a).2,bs.set k c) ⟨by simp only;omega,by simp only[zZu];exact hb⟩ (by simp only;omega);refine⟨a',bs',h1,?_⟩;simp only[zNr,zp] at h2;simp -implicitDefEqProofs (maxSteps:=4000000) (disch:=omega) only[go_sem,zbP,hg,hs,h0];exact h2
 ·refine⟨a,bs,hb,?_⟩;simp -implicitDefEqProofs (maxSteps:=4000000) (disch:=omega) only[go_sem,h0]
theorem zpZ(l:List Int)(a:Nat)(hL:l.length<=4000):∃s a',s.length<=3/\zd G 145 [.ref 1000000 0 0] [(1000000,zp l a)]=some (.d (.str s),[(1000000,zp l a')]):=by
 have n1:=zaG l a (n:=4) zo;obtain⟨n,hn⟩:∃n,n=(nD l a 4).toNat:=⟨_,rfl⟩;have e:nD l a 4=(n:Int):=by omega
 obtain⟨a',bs,h1,h2⟩:=zF5 l hL n zo (0,(zae l a).2,List.replicate n 0) ⟨by omega,by simp⟩;have hz:List.replicate n (AV.d (.int .u8 0))=(byD (List.replicate n 0)).map AV.d:=by unfold byD;simp
 refine⟨bs,a',by omega,?_⟩;have hl:(byD bs).length=n:=by unfold byD;simpa using h1
 have ht:List.take n ((byD bs).map AV.d)=(byD bs).map AV.d:=z0Q (by simp [hl]);simp only[zNr,zp] at h2
 by_cases h0:n=0
 ·subst h0;have:bs=[]:=zZC.1 h1;subst this;simp only[List.replicate_zero,show byD []=[] from rfl,zYS] at h2;rw[zB zAT (by simp)];simp -implicitDefEqProofs (maxSteps:=4000000) (disch:=omega) only[zm4,go_sem,zbP,e,List.replicate_zero,h2]
 ·have hne:¬(List.map AV.d (byD bs)=[]):=by
     intro e2;have:=congrArg List.length e2;simp [hl] at this;exact h0 this
  rw[zB zAT (by simp)];simp -implicitDefEqProofs (maxSteps:=4000000) (disch:=omega) only[zm4,go_sem,zbP,e,hz,h2,hl,ht,bytesD_ok,hne]
theorem zus:∃f:List Int->Nat->List UInt8×Nat,∀l a,l.length<=4000->(f l a).1.length<=3/\zd G 145 [.ref 1000000 0 0] [(1000000,zp l a)]=some (.d (.str (f l a).1),[(1000000,zp l (f l a).2)]):=by
 refine⟨fun l a=>if h:l.length<=4000 then (Classical.choose (zpZ l a h),Classical.choose (zZQ (zpZ l a h))) else ([],0),fun l a h=> ?_⟩;simp only[h,dif_pos];exact zZQ (zZQ (zpZ l a h))
noncomputable def zk7:List Int->Nat->List UInt8×Nat:=Classical.choose zus
theorem zpY(l:List Int)(a:Nat)(hL:l.length<=4000):(zk7 l a).1.length<=3/\zd G 145 [.ref 1000000 0 0] [(1000000,zp l a)]=some (.d (.str (zk7 l a).1),[(1000000,zp l (zk7 l a).2)]):=zZQ zus l a hL
def zDW(live:Int)(i:Nat):Span:=⟨(i:Int) * 65536 / live,((i:Int)+1) * 65536 / live - 1,i⟩
def zpl(live:Int)(k:Nat):List Span:=(List.range k).map (zDW live)
theorem zWR(live:Int)(k:Nat):(zpl live k).length=k:=by simp [zpl]
def zfb(slots live:Nat):zao:=⟨1,zpl live live,List.replicate slots (-1)⟩
def zkf(slots live:Int):zao×Int:=if live<1\/slots<live\/6<slots then (zdk,1) else (zfb slots.toNat live.toNat,0)
theorem zHD:∀s l:Nat,1<=l->l<=s->s<=6->zbl (zfb s l)=0/\(∀i,i<s->zaR (zfb s l).l i=if i<l then (i:Int) else -1):=by
 have key:∀s,s<7->∀l,l<7->1<=l->l<=s->zbl (zfb s l)=0/\(∀i,i<s->zaR (zfb s l).l i=if i<l then (i:Int) else -1):=by decide
 intro s l h1 h2 h3;exact key s zo l zo h1 h2
end Go.Proofs.YtjalkkalhdnplaaGreat

namespace Go.Sim
open Go (World Value Addr TypeId Act Ending Program)
variable {P:Program}
noncomputable def zlV(G:FuncId->Option AFn)(done:List FuncId)(g:FuncId)(fn:AFn)(f:FuncId):Option AFn:=
 if done.contains f then some (.ext (zd G f)) else if f=g then some fn else G f
theorem zQj{G:FuncId->Option AFn}(hG:GOK P G)(done:List FuncId){g:FuncId}{fn:AFn}(hg:zho P g fn):GOK P (zlV G done g fn):=by
 intro f fn' h;unfold zlV at h
 split at h
 ·cases h;exact fun args os r os' h1 h2 h3=>zyw hG f args os r os' h1 h2 h3
 split at h
 ·rename_i e;cases h;subst e;exact hg
 ·exact hG f fn' h
theorem zb8{G:FuncId->Option AFn}{done:List FuncId}{g:FuncId}{fn:AFn}{f:FuncId}{args:List AV}{os:zf}(h:zlV G done g fn f=some (.ext (zd G f))):zd (zlV G done g fn) f args os=zd G f args os:=by
 rw[zGl h]
end Go.Sim

namespace Go.Proofs.YtjalkkalhdnplaaGreat
open Go Go.Sim
theorem zRu(l:List Int)(a:Nat)(hL:l.length<=4000):zd G 10 [.d (.pd (.agg [.sl (zt l),.int .i64 a]))] []=some (.d (.bool (decide ((a:Int)<l.length))),[]):=by
 exact zW
theorem zWs(l:List Int)(a:Nat)(hL:l.length<=4000):∃x a',(1<=x.slots/\x.slots<=4/\1<=x.live/\x.live<=x.slots/\1<=x.capacity/\x.capacity<=5/\1<=x.dead/\x.dead<=4/\1<=x.limit/\x.limit<=3/\0<=x.clock/\x.clock<=1073741824/\1<=x.nextID/\x.nextID<=1073741824/\0<=x.epoch/\x.epoch<=65536)/\zd G 42 [.ref 1000000 0 0] [(1000000,zp l a)]=some (.d (zaU x),[(1000000,zp l a')]):=by
 obtain⟨a1,q1⟩:∃a1,a1=(zae l a).2:=⟨_,rfl⟩;obtain⟨a2,q2⟩:∃a2,a2=(zae l a1).2:=⟨_,rfl⟩;obtain⟨a3,q3⟩:∃a3,a3=(zae l a2).2:=⟨_,rfl⟩;obtain⟨a4,q4⟩:∃a4,a4=(zae l a3).2:=⟨_,rfl⟩;obtain⟨a5,q5⟩:∃a5,a5=(zae l a4).2:=⟨_,rfl⟩;obtain⟨a6,q6⟩:∃a6,a6=(zae l a5).2:=⟨_,rfl⟩;have n1:=zaG l a (n:=4) zo;have n2:=zaG l a1 (n:=5) zo;have n3:=zaG l a2 (n:=4) zo;have n4:=zaG l a3 (n:=3) zo;have n5:=zaG l a4 (n:=1+nD l a 4 - 1+1) zo;have n6:=zaG l a5 (n:=12) zo;have n7:=zaG l a6 (n:=200) zo;have n8:=zaG l a6 (n:=4) zo;have n9:=zaG l a6 (n:=3) zo
 by_cases c1:nD l a5 12=9
 ·refine⟨⟨1+nD l a 4,1+nD l a4 (1+nD l a 4 - 1+1),1+nD l a1 5,1+nD l a2 4,1+nD l a3 3,1073741824 - nD l a6 200,1,0⟩,(zae l a6).2,by simp only;omega,?_⟩;simp only[zaU];rw[zB znN (by simp)];simp -implicitDefEqProofs (maxSteps:=4000000) (disch:=omega) only[zjt,go_sem,zbP,zgz, <- q1, <- q2, <- q3, <- q4, <- q5, <- q6,c1]
 by_cases c2:nD l a5 12=10
 ·refine⟨⟨1+nD l a 4,1+nD l a4 (1+nD l a 4 - 1+1),1+nD l a1 5,1+nD l a2 4,1+nD l a3 3,0,1073741824 - nD l a6 4,0⟩,(zae l a6).2,by simp only;omega,?_⟩;simp only[zaU];rw[zB znN (by simp)];simp -implicitDefEqProofs (maxSteps:=4000000) (disch:=omega) only[zjt,go_sem,zbP,zgz, <- q1, <- q2, <- q3, <- q4, <- q5, <- q6,c1,c2]
 by_cases c3:nD l a5 12=11
 ·refine⟨⟨1+nD l a 4,1+nD l a4 (1+nD l a 4 - 1+1),1+nD l a1 5,1+nD l a2 4,1+nD l a3 3,0,1,65536 - nD l a6 3⟩,(zae l a6).2,by simp only;omega,?_⟩;simp only[zaU];rw[zB znN (by simp)];simp -implicitDefEqProofs (maxSteps:=4000000) (disch:=omega) only[zjt,go_sem,zbP,zgz, <- q1, <- q2, <- q3, <- q4, <- q5, <- q6,c1,c2,c3]
 ·refine⟨⟨1+nD l a 4,1+nD l a4 (1+nD l a 4 - 1+1),1+nD l a1 5,1+nD l a2 4,1+nD l a3 3,0,1,0⟩,a6,by simp only;omega,?_⟩;simp only[zaU];rw[zB znN (by simp)];simp -implicitDefEqProofs (maxSteps:=4000000) (disch:=omega) only[zjt,go_sem,zbP,zgz, <- q1, <- q2, <- q3, <- q4, <- q5, <- q6,c1,c2,c3]
end Go.Proofs.YtjalkkalhdnplaaGreat
