/-
  Directories of the reference.
-/
import Derived.Test.YtnmcgdpmikhohaaGreatB550ba6a
import Derived.Test.YtnmcgdpmikhohaaGreatBc8d43d5
import Derived.Test.YtnmcgdpmikhohaaGreatBbe084e1
import Derived.Test.YtnmcgdpmikhohaaGreatB0ecd0d7
set_option linter.unusedSimpArgs false
set_option linter.unusedVariables false
set_option maxHeartbeats 10000000
set_option maxRecDepth 100000
namespace Go.Sim
def zfF{α:Type}(φ:α->Prop)(r:α):Prop:=φ r
theorem zaj{α:Type}{φ:α->Prop}{c:Prop}[Decidable c]{A B:α}(h1:c->zfF φ A)(h2:¬c->zfF φ B):zfF φ (if c then A else B):=by split<;>simp_all
theorem zfF.some{α:Type}{φ:Option α->Prop}{r:Option α}{a:α}(h:φ (some a))(e:r=some a):zfF φ r:=by rw[e];exact h
attribute [go_sem] Nat.mul_one
end Go.Sim

namespace Go.Proofs.YtnmcgdpmikhohaaGreat
open Go Go.Sim
def zdC(ids:List Int):Bool:=decide (¬ids.Nodup)
def zb3(l:List zj):Int:=match l with
 | []=>0
 | m::l=>if zap m≠0 then zap m else zb3 l
def zD(r:zah):List zj:=(List.range r.size.toNat).map fun i=>r.cells.getD ((r.head.toNat+i) % r.cells.length) zaa
def zgt(r:zah):Prop:=1<=r.cells.length/\r.cells.length<=12/\0<=r.head/\r.head<r.cells.length/\0<=r.size/\r.size<=r.cells.length
instance (r:zah):Decidable (zgt r):=by unfold zgt;exact inferInstance
def zc5(r:zah)(i n:Nat):Bool:=(List.range' i (n - i)).any fun j=>decide (r.cells.getD ((r.head.toNat+j) % r.cells.length) zaa≠zaa)
def zaE(r:zah):Int:=if ¬zgt r then 1 else if zc5 r r.size.toNat r.cells.length=true then 7 else if zb3 (zD r)≠0 then zb3 (zD r) else if zdC ((zD r).map (·.id))=true then 10 else 0
theorem z7E(r:zah){i n:Nat}(h:i<n):zc5 r i n=(decide (r.cells.getD ((r.head.toNat+i) % r.cells.length) zaa≠zaa)||zc5 r (i+1) n):=by
 unfold zc5;rw[show n - i=(n - (i+1))+1 by omega,zacX,zac4]
theorem z7D(r:zah){i n:Nat}(h:¬i<n):zc5 r i n=false:=by
 unfold zc5;rw[show n - i=0 by omega];rfl
theorem zHE{l:List zj}{k:Nat}(h:k<l.length):zb3 (l.drop k)=if zap l[k]≠0 then zap l[k] else zb3 (l.drop (k+1)):=by
 rw[zabX h];rfl
def zaD(l:List zj)(id:Int):Int:=zbP (fun m:zj=>decide (m.id=id)) l
theorem zHU{l:List zj}{k:Nat}(h:k<l.length):zaD l l[k].id=k↔∀j (hj:j<k),l[j].id≠l[k].id:=by
 unfold zaD zbP
 cases hf:l.findIdx? (fun m:zj=>decide (m.id=l[k].id)) with
 | none=>
  have:=zadv.1 hf l[k] (zabC h);simp at this
 | some i=>
  obtain⟨hi,e,hn⟩:=zact.1 hf;simp only[decide_eq_true_eq] at e hn;constructor
  ·intro e2 j hj;have:i=k:=by simp at e2;omega
   subst this;exact hn j hj
  ·intro ha
   by_cases h1:i<k
   ·exact absurd e (ha i h1)
   ·by_cases h2:k<i
    ·exact absurd rfl (hn k h2)
    ·simp;omega
def zeR(l:List zj)(k:Nat):Bool:=(List.range' k (l.length - k)).any fun i=>decide (zaD l (l.getD i zaa).id≠i)
theorem zA3(l:List zj){k:Nat}(h:k<l.length):zeR l k=(decide (zaD l l[k].id≠k)||zeR l (k+1)):=by
 unfold zeR;rw[show l.length - k=(l.length - (k+1))+1 by omega,zacX,zac4,zh h]
theorem zA2(l:List zj){k:Nat}(h:¬k<l.length):zeR l k=false:=by
 unfold zeR;rw[show l.length - k=0 by omega];rfl
theorem zA1(l:List zj):zeR l 0=zdC (l.map (·.id)):=by
 apply zacD.2;unfold zeR zdC;simp only[zacO,zacm,zadj,decide_eq_true_eq,zadW,zacu,zabE,zadE];constructor
 ·rintro⟨i,⟨_,hi⟩,hne⟩ hall;simp only[zabU] at hi;rw[zh hi] at hne;exact hne ((zHU hi).2 fun j hj=>hall j i zo hi hj)
 ·intro hn;refine Classical.byContradiction fun hc=>hn fun i j hi hj hij=> ?_;have:zaD l l[j].id=j:=Classical.byContradiction fun hc2=>hc ⟨j,⟨by omega,by omega⟩,by rw[zh hj];exact hc2⟩;exact (zHU hj).1 this i hij
def zaP(s:zt):List zj:=zD s.ready++s.leases.l.map (·.msg)
def zZR(s:zt)(l:List zj):Bool:=l.any fun m=>decide (¬(s.low<=m.route/\m.route<=s.high))
def zCU(s:zt):Int:=s.ready.size+s.leases.l.length
def zY(s:zt):Int:=
 if zaE s.ready≠0 then zaE s.ready
 else if zao s.leases≠0 then zao s.leases
 else if s.live=false then (if s.low≠0\/s.high≠0\/0<zCU s then 7 else 0)
 else if ¬(0<=s.low/\s.low<=s.high/\s.high<65536) then 1
 else if s.ready.cells.length<zCU s then 3
 else if zZR s (zaP s)=true then 12
 else if zdC ((zaP s).map (·.id))=true then 10 else 0
theorem zg9(r:zah):(zD r).length=r.size.toNat:=by simp [zD]
theorem zcC{r:zah}(h:zaE r=0):zgt r:=by
 unfold zaE at h
 split at h
 ·exact absurd h (by decide)
 ·rename_i hc;exact zabG.1 hc
def zaM(c:List zj)(h k:Nat):List zj:=(List.range k).map fun i=>c.getD ((h+i) % c.length) zaa
theorem z4F(c:List zj)(h k:Nat):zaM c h (k+1)=zaM c h k++[c.getD ((h+k) % c.length) zaa]:=by
 simp [zaM,zaej]
theorem zi6(c:List zj)(h k:Nat):(zaM c h k).length=k:=by simp [zaM]
theorem ziQ(l:List zj)(id:Int)(hL:l.length<=4294967296):zi G zlr [.d (.sl (l.map zm)),.d (.int .i64 id)] []=some (.d (.int .i64 (zaD l id)),[]):=by
 have:=ziZ (G:=G) (x:=zAC) (ks:=[]) l.length (atB l fun m:zj=>decide (m.id=id)) (fun k=>⟨[(0,.d (.sl (l.map zm))),(1,.d (.int .i64 id)),(5,.d (.int .i64 k))],[]⟩) (fun k=>(.ret,⟨[(4,.d (.int .i64 k))],[]⟩)) (.exit 0,⟨[],[]⟩) (fun k hk L=>by
  simp only[zAC]
  by_cases h0:k<l.length
  ·rw[zabo h0];simp only[zgH h0]
   by_cases h1:l[k].id=id
   ·simp only[h1,decide_true,if_true];simp -implicitDefEqProofs (maxSteps:=4000000) (disch:=omega) only[zm,zh,go_sem, *]
   ·simp only[h1,decide_false,zabz,if_false];simp -implicitDefEqProofs (maxSteps:=4000000) (disch:=omega) only[zm,zh,go_sem, *]
  ·rw[zabn h0];exact zS)
 rw[zj6] at this;simp only[zNr,zB] at this;unfold zaD zbP
 cases h:l.findIdx? (fun m:zj=>decide (m.id=id)) with
 | none=>rw[h] at this;exact zW zH3
 | some i=>rw[h] at this;exact zW zH3
def zkP(c:List zj)(h z i:Nat):St:=⟨[(1,.ref 1 0 0),(3,.acc 3 ((zaM c h i).map zm)),(4,.d (.int .i64 i))],[(1,.row [.d (.agg [.sl (c.map zm),.int .i64 h,.int .i64 z])]),(3,.acc (zaM c h i).length)]⟩
theorem z4H(c:List zj)(h z:Nat)(h1:c.length<=12)(h2:h<c.length)(h3:z<=c.length):∀i,i<=z->z6 G [] zsp (zkP c h z i)=some (.exit 0,⟨[(3,.acc 3 ((zaM c h z).map zm))],[(3,.acc (zaM c h z).length)]⟩):=by
 refine zaL (fun i=>z - i) (fun i=>i<=z) (zkP c h z) _ fun i hi L ih=> ?_
 by_cases h0:i<z
 ·have i1:=ih (i+1) zo zo;clear ih;have e:((h:Int)+i).tmod c.length=(((h+i) % c.length:Nat):Int):=by rw[<- zacs, <- zadV]
  have hj:(h+i) % c.length<c.length:=zacr _ zo;have hl:=zi6 c h i;rw[zkP,z4F] at i1;generalize (h+i) % c.length=j at *;rw[zh hj] at i1;simp only[zabF,zabs,zabq,zabv,zab3,hl] at i1;simp only[zkP,hl,zsp];generalize zaM c h i=w at *;simp only[zNr,zB] at i1;exact zS
 ·clear ih;have:i=z:=by omega
  subst this;simp only[zkP,zsp];exact zS
theorem zi7(c:List zj)(h z:Nat)(h1:c.length<=12)(h2:h<c.length)(h3:z<=c.length):zi G zlx [.d (.agg [.sl (c.map zm),.int .i64 h,.int .i64 z])] []=some (.acc 0 ((zaM c h z).map zm),[(0,.acc (zaM c h z).length)]):=by
 have hl:=z4H c h z h1 h2 h3 0 zo;simp only[zkP,zaM,List.range_zero,zabq,zabw] at hl;simp only[zNr,zB] at hl;rw[zI zWO (by simp)];simp -implicitDefEqProofs (maxSteps:=4000000) (disch:=omega) only[zuw,zB3,zaM,zh,go_sem, *]
theorem zabj{m:zj}(h:¬(¬m.id=0\/¬m.route=0\/¬m.epoch=0\/¬m.count=0\/¬m.gen=0\/¬m.sent=0\/¬m.body=[])):m=zaa:=by
 simp only[not_or,zabG] at h;obtain⟨a,b,c,d,e,f,g⟩:=h
 cases m
 simp only at a b c d e f g;subst a b c d e f g;rfl
theorem z7F(c:List zj)(h:Nat)(z:Int){i n:Nat}(h0:i<n):zc5 ⟨c,h,z⟩ i n=(decide (c.getD ((h+i) % c.length) zaa≠zaa)||zc5 ⟨c,h,z⟩ (i+1) n):=z7E ⟨c,h,z⟩ h0
def rgR(c:List zj)(h z i:Nat):zX×St:=if zc5 ⟨c,h,z⟩ i c.length=true then (.ret,⟨[(2,.d (.int .i64 7))],[]⟩) else (.exit 0,⟨[(1,.ref 1 0 0)],[(1,.row [.d (.agg [.sl (c.map zm),.int .i64 h,.int .i64 z])])]⟩)
theorem zi5(c:List zj)(h z:Nat):zD ⟨c,h,z⟩=zaM c h z:=rfl
theorem znr{r:zah}(hr:zgt r):∃(c:List zj) (h z:Nat),r=⟨c,h,z⟩/\1<=c.length/\c.length<=12/\h<c.length/\z<=c.length:=by
 obtain⟨c,h,z⟩:=r;obtain⟨h1,h2,h3,h4,h5,h6⟩:=hr;simp only at h1 h2 h3 h4 h5 h6;exact⟨c,h.toNat,z.toNat,by rw[zaeo h3,zaeo h5],h1,h2,by omega,by omega⟩
theorem zQr{c:List zj}{h z:Nat}(hok:zgt ⟨c,h,z⟩):zaE ⟨c,h,z⟩=if zc5 ⟨c,h,z⟩ z c.length=true then 7 else if zb3 (zaM c h z)≠0 then zb3 (zaM c h z) else if zdC ((zaM c h z).map (·.id))=true then 10 else 0:=by
 unfold zaE;rw[zabn (fun hc=>hc hok)];rfl
def r4S(c:List zj)(h z i:Nat):St:=⟨[(1,.ref 1 0 0),(3,.d (.int .i64 c.length)),(4,.d (.int .i64 i))],[(1,.row [.d (.agg [.sl (c.map zm),.int .i64 h,.int .i64 z])])]⟩
theorem z7C(c:List zj)(h z:Nat)(h1:c.length<=12)(h2:h<c.length):∀i,i<=c.length->z6 G [] zsm (r4S c h z i)=some (rgR c h z i):=by
 refine zaL (fun i=>c.length - i) (fun i=>i<=c.length) (r4S c h z) (fun i=>some (rgR c h z i)) fun i hi L ih=> ?_
 by_cases h0:i<c.length
 ·have i1:=ih (i+1) zo zo;clear ih;have e:((h:Int)+i).tmod c.length=(((h+i) % c.length:Nat):Int):=by rw[<- zacs, <- zadV]
  have hj:(h+i) % c.length<c.length:=zacr _ zo;unfold rgR at i1 ⊢;rw[z7F _ _ _ h0];generalize (h+i) % c.length=j at *;rw[zh hj];generalize zc5 ⟨c,h,z⟩ (i+1) c.length=bb at *;simp only[r4S] at i1;simp only[zNr,zB] at i1;simp only[r4S,zsm]
  by_cases hm:c[j]=zaa
  ·rw[hm];simp only[ne_eq,zabD,decide_false,zacH];have zk1:=zaa.eq_1;have zk2:=zm.eq_1;exact zS
  ·simp only[ne_eq,hm,zabV,decide_true,zadk,if_true]
   (try simp -implicitDefEqProofs (maxSteps:=4000000) (disch:=omega) only[zm,zh,go_sem, *]);(try simp only[zPr]);repeat' (first|done|rfl|((first|refine zad (fun hq=> ?_) (fun hq=> ?_)|refine zaj (fun hq=> ?_) (fun hq=> ?_))<;>(try (first|(exfalso;omega)|contradiction))<;>(try simp -implicitDefEqProofs (maxSteps:=4000000) (disch:=omega) only[zm,zh,go_sem, *])<;>(try simp only[zPr])));(all_goals try rfl);(all_goals try (repeat' (first|done|rfl|(exfalso;omega)|contradiction|(refine zae (fun hq=> ?_) (fun hq=> ?_)))))
   exact absurd (zabj (by assumption)) hm
 ·clear ih;unfold rgR;rw[z7D _ h0];simp only[r4S,zsm,zabz,if_false];simp -implicitDefEqProofs (maxSteps:=4000000) (disch:=omega) only[zh,go_sem, *]
def f4S(l:List zj)(i:Nat):St:=⟨[(5,.acc 60 (l.map zm)),(6,.d (.int .i64 i))],[(60,.acc l.length)]⟩
def f4R(l:List zj)(i:Nat):zX×St:=if zb3 (l.drop i)≠0 then (.ret,⟨[(2,.d (.int .i64 (zb3 (l.drop i))))],[]⟩) else (.exit 2,⟨[(5,.acc 60 (l.map zm))],[(60,.acc l.length)]⟩)
theorem zV9(l:List zj)(h1:l.length<=12):∀i,i<=l.length->z6 G [] zsn (f4S l i)=some (f4R l i):=by
 refine zaL (fun i=>l.length - i) (fun i=>i<=l.length) (f4S l) (fun i=>some (f4R l i)) fun i hi L ih=> ?_
 by_cases h0:i<l.length
 ·have i1:=ih (i+1) zo zo;clear ih;have hm:=zh8 l[i];unfold f4R at i1 ⊢;rw[zHE h0];unfold f4S at i1;generalize zb3 (l.drop (i+1))=fe at *;simp only[f4S,zsn];simp only[zm] at hm;simp only[zNr,zB] at i1
  by_cases hv:zap l[i]=0
  ·rw[hv] at hm;simp only[hv,ne_eq,zabD,if_false];have zk0:=zm.eq_1;exact zS
  ·simp only[ne_eq,hv,zabV,if_true];clear i1;have zk0:=zm.eq_1;exact zS
 ·clear ih;have:i=l.length:=by omega
  subst this;unfold f4R;rw[zab7];simp only[f4S,zb3,ne_eq,zabD,if_false,zsn];exact zS
def d4S(l:List zj)(i:Nat):St:=⟨[(5,.acc 60 (l.map zm)),(8,.d (.int .i64 i))],[(60,.acc l.length)]⟩
def d4R(l:List zj)(i:Nat):zX×St:=if zeR l i=true then (.ret,⟨[(2,.d (.int .i64 10))],[]⟩) else (.exit 4,⟨[],[]⟩)
theorem zUh(l:List zj)(h1:l.length<=12):∀i,i<=l.length->z6 G [] zso (d4S l i)=some (d4R l i):=by
 refine zaL (fun i=>l.length - i) (fun i=>i<=l.length) (d4S l) (fun i=>some (d4R l i)) fun i hi L ih=> ?_
 by_cases h0:i<l.length
 ·have i1:=ih (i+1) zo zo;clear ih;have hx:=ziQ l l[i].id zo;unfold d4R at i1 ⊢;rw[zA3 _ h0];unfold d4S at i1;generalize zeR l (i+1)=fe at *;simp only[d4S,zso];simp only[zNr,zB] at i1;generalize zaD l l[i].id=q at *
  by_cases hv:q=i
  ·subst hv;simp only[ne_eq,zabD,decide_false,zacH];have zk0:=zm.eq_1;exact zS
  ·simp only[ne_eq,hv,zabV,decide_true,zadk,if_true];clear i1;have zk0:=zm.eq_1;exact zS
 ·clear ih;unfold d4R;rw[zA2 _ h0];simp only[d4S,zso,zabz,if_false];exact zS
theorem zkS(r:zah)(hL:r.cells.length<=4294967296):zi G zok [.d (zai r)] []=some (.d (.int .i64 (zaE r)),[]):=by
 by_cases hok:zgt r
 ·obtain⟨c,h,z,rfl,h1,h2,h3,h4⟩:=znr hok;have hr:=z7C c h z h2 h3 z h4;have hl:=zi7 c h z h2 h3 h4;have hn:=zi6 c h z;have hv:=zV9 (zaM c h z) zo 0 zo;have hd:=zUh (zaM c h z) zo 0 zo;rw[zQr hok];unfold rgR at hr;unfold f4R at hv;unfold d4R at hd;rw[zA1] at hd;simp only[zabZ] at hv;simp only[r4S] at hr;simp only[f4S,zabQ,hn] at hv;simp only[d4S,zabQ,hn] at hd;rw[hn] at hl;simp only[zai];generalize zc5 ⟨c,h,z⟩ z c.length=b1 at *;generalize zb3 (zaM c h z)=fe at *;generalize zdC ((zaM c h z).map (·.id))=dd at *;generalize zaM c h z=w at *;clear hok
  cases b1 with
  | true=>
   simp only[if_true] at hr ⊢;exact zW zmh
  | false=>
   simp only[zabz,if_false] at hr ⊢
   by_cases e:fe=0
   ·subst e;simp only[ne_eq,zabD,if_false] at hv ⊢
    cases dd
    ·simp only[zabz,if_false] at hd ⊢;exact zW zmh
    ·simp only[if_true] at hd ⊢;exact zW zmh
   ·simp only[ne_eq,e,zabV,if_true] at hv ⊢;exact zW zmh
 ·unfold zaE;rw[zabo hok];obtain⟨c,h,z⟩:=r;simp only[zgt] at hok hL;simp only[zai];exact zW zmh
theorem z6z{r:zah}(hr:zaE r=0):zi G zlv [.d (zai r)] []=some (.d (.sl ((zD r).map zm)),[]):=by
 have hv:=zkS r (by have:=(zcC hr).2.1;omega);obtain⟨c,h,z,rfl,h1,h2,h3,h4⟩:=znr (zcC hr);have hl:=zi7 c h z h2 h3 h4;rw[hr] at hv;rw[zi5];clear hr;simp only[zai] at hv ⊢;generalize zaM c h z=w at *;exact zW zH6
theorem zje{s:zt}(hr:zaE s.ready=0):zi G zlA [.d (zk s)] []=some (.d (.sl ((zD s.ready).map zm)),[]):=by
 have hl:=z6z hr;generalize zD s.ready=w at *;simp only[zai,zk] at hl ⊢;exact zW zIf
def zel(b:List zj)(l:List zG)(i:Nat):List zj:=b++(l.take i).map (·.msg)
theorem zZT(b:List zj){l:List zG}{i:Nat}(h:i<l.length):zel b l (i+1)=zel b l i++[l[i].msg]:=by
 unfold zel;rw[zadU,zabx h,zabF,zab9];rfl
theorem zZS(b:List zj){l:List zG}{i:Nat}(h:i<=l.length):(zel b l i).length=b.length+i:=by
 simp [zel];omega
def l7S(s:zt)(i:Nat):St:=⟨[(1,.ref 1 0 0),(3,.acc 3 ((zel [] s.leases.l i).map zm)),(4,.d (.int .i64 i))],[(1,.row [.d (zk s)]),(3,.acc (zel [] s.leases.l i).length)]⟩
theorem zYF(s:zt)(h1:s.leases.l.length<=12):∀i,i<=s.leases.l.length->z6 G [] zsw (l7S s i)=some (.exit 0,⟨[(3,.acc 3 ((zel [] s.leases.l s.leases.l.length).map zm))],[(3,.acc (zel [] s.leases.l s.leases.l.length).length)]⟩):=by
 refine zaL (fun i=>s.leases.l.length - i) (fun i=>i<=s.leases.l.length) (l7S s) _ fun i hi L ih=> ?_
 by_cases h0:i<s.leases.l.length
 ·have i1:=ih (i+1) zo zo;clear ih;have hl:=zZS [] (l:=s.leases.l) (i:=i) zo;rw[l7S,zZT [] h0] at i1;generalize zel [] s.leases.l s.leases.l.length=z at *;simp only[zabF,zabs,zabq,zabv,zab3,hl] at i1;simp only[l7S,hl,zsw];generalize zel [] s.leases.l i=w at *;simp only[zm,zk] at i1 ⊢;simp only[zNr,zB] at i1;simp -implicitDefEqProofs (maxSteps:=4000000) (disch:=omega) only[zaI,zm,zh,go_sem, *]
 ·clear ih;have:i=s.leases.l.length:=by omega
  subst this;simp only[l7S,zk,zsw];exact zS
theorem zsM{s:zt}(h1:s.leases.l.length<=12):zi G zoP [.d (zk s)] []=some (.d (.sl ((s.leases.l.map (·.msg)).map zm)),[]):=by
 have hm:=zYF s h1 0 zo;have e:zel [] s.leases.l s.leases.l.length=s.leases.l.map (·.msg):=by simp [zel]
 rw[e] at hm;generalize s.leases.l.map (·.msg)=w at *;simp only[l7S,zel,zacg,zabq,zabL,zk] at hm;simp only[zk];simp only[zNr,zB] at hm;exact zW zWX
theorem zjH{s:zt}(hr:zaE s.ready=0)(h1:s.leases.l.length<=12):zi G zlz [.d (zk s)] []=some (.d (.sl ((zaP s).map zm)),[]):=by
 have h2:=zje hr;have h3:=zsM h1;have hb:(zD s.ready).length<=12:=by
  rw[zg9];have:=zcC hr;obtain⟨a1,a2,a3,a4,a5,a6⟩:=this;omega
 have hc:(s.leases.l.map (·.msg)).length<=12:=by simpa using h1
 simp only[zaP,zabF];generalize s.leases.l.map (·.msg)=w at *;generalize zD s.ready=w2 at *;simp only[zk] at h2 h3 ⊢;exact zW zId
theorem zQ0{t:zN}(h:zao t=0):t.l.length<=12:=by
 refine Classical.byContradiction fun hc=> ?_;unfold zao at h;rw[zabo zo] at h;exact absurd h (by decide)
def zgq(lo hi:Int)(l:List zj):Bool:=l.any fun m=>decide (¬(lo<=m.route/\m.route<=hi))
theorem zZQ(lo hi:Int){l:List zj}{k:Nat}(h:k<l.length):zgq lo hi (l.drop k)=(decide (¬(lo<=l[k].route/\l[k].route<=hi))||zgq lo hi (l.drop (k+1))):=by
 rw[zabX h];rfl
theorem zQH(lo hi:Int):zi G zo1 [.d (.int .i64 lo),.d (.int .i64 hi)] []=some (.d (.bool (decide (0<=lo/\lo<=hi/\hi<65536))),[]):=by
 by_cases h:0<=lo/\lo<=hi/\hi<65536
 ·rw[zabM h];exact zW zIi
 ·rw[zabP h];have e:(decide (0<=lo)&&(decide (lo<=hi)&&decide (hi<65536)))=false:=by simp;omega
  rw[zI zIi (by simp)];simp -implicitDefEqProofs (maxSteps:=4000000) (disch:=omega) only[zuI,zCf,e,zh,go_sem, *]
theorem zQB{s:zt}(hr:zaE s.ready=0)(h1:s.leases.l.length<=12):(zaP s).length<=24:=by
 obtain⟨a1,a2,a3,a4,a5,a6⟩:=zcC hr;simp only[zaP,zabv,zabE,zg9];omega
theorem znA{s:zt}(hr:zaE s.ready=0)(ht:zao s.leases=0):zY s=if s.live=false then (if s.low≠0\/s.high≠0\/0<s.ready.size+s.leases.l.length then 7 else 0)
 else if ¬(0<=s.low/\s.low<=s.high/\s.high<65536) then 1
 else if s.ready.cells.length<s.ready.size+s.leases.l.length then 3
 else if zgq s.low s.high (zaP s)=true then 12
 else if zdC ((zaP s).map (·.id))=true then 10 else 0:=by
 unfold zY;rw[zabn (fun hc=>hc hr),zabn (fun hc=>hc ht)];rfl
def m7S(s:zt)(l:List zj)(i:Nat):St:=⟨[(1,.ref 1 0 0),(6,.d (.sl (l.map zm))),(7,.d (.int .i64 i))],[(1,.row [.d (zk s)])]⟩
def m7R(s:zt)(l:List zj)(i:Nat):zX×St:=if zgq s.low s.high (l.drop i)=true then (.ret,⟨[(2,.d (.int .i64 12))],[]⟩) else (.exit 0,⟨[(6,.d (.sl (l.map zm)))],[]⟩)
theorem zZp(s:zt)(l:List zj)(h1:l.length<=24):∀i,i<=l.length->z6 G [] zsy (m7S s l i)=some (m7R s l i):=by
 refine zaL (fun i=>l.length - i) (fun i=>i<=l.length) (m7S s l) (fun i=>some (m7R s l i)) fun i hi L ih=> ?_
 by_cases h0:i<l.length
 ·have i1:=ih (i+1) zo zo;clear ih;unfold m7R at i1 ⊢;rw[zZQ _ _ h0];unfold m7S at i1;generalize zgq s.low s.high (l.drop (i+1))=fe at *;simp only[m7S,zk,zsy] at i1 ⊢;simp only[zNr,zB] at i1
  by_cases hv:s.low<=l[i].route/\l[i].route<=s.high
  ·simp only[hv,zabD,zacK,decide_false,zacH];have zk0:=zm.eq_1;exact zS
  ·simp only[hv,zabV,decide_true,zadk,if_true];clear i1;have zk0:=zm.eq_1;exact zS
 ·clear ih;have:i=l.length:=by omega
  subst this;unfold m7R;rw[zab7];simp only[m7S,zgq,List.any_nil,zabz,if_false,zsy,zk];exact zS
def d7S(l:List zj)(i:Nat):St:=⟨[(6,.d (.sl (l.map zm))),(8,.d (.int .i64 i))],[]⟩
def d7R(l:List zj)(i:Nat):zX×St:=if zeR l i=true then (.ret,⟨[(2,.d (.int .i64 10))],[]⟩) else (.exit 2,⟨[],[]⟩)
theorem zUi(l:List zj)(h1:l.length<=24):∀i,i<=l.length->z6 G [] zsz (d7S l i)=some (d7R l i):=by
 refine zaL (fun i=>l.length - i) (fun i=>i<=l.length) (d7S l) (fun i=>some (d7R l i)) fun i hi L ih=> ?_
 by_cases h0:i<l.length
 ·have i1:=ih (i+1) zo zo;clear ih;have hx:=ziQ l l[i].id zo;unfold d7R at i1 ⊢;rw[zA3 _ h0];unfold d7S at i1;generalize zeR l (i+1)=fe at *;simp only[d7S,zsz];simp only[zNr,zB] at i1;generalize zaD l l[i].id=q at *
  by_cases hv:q=i
  ·subst hv;simp only[ne_eq,zabD,decide_false,zacH];have zk0:=zm.eq_1;exact zS
  ·simp only[ne_eq,hv,zabV,decide_true,zadk,if_true];clear i1;have zk0:=zm.eq_1;exact zS
 ·clear ih;unfold d7R;rw[zA2 _ h0];simp only[d7S,zsz,zabz,if_false];exact zS
theorem znc(s:zt)(h1:s.ready.cells.length<=4294967296)(h2:s.leases.l.length<=4294967296)(h3:s.leases.heap.length<=4294967296):zi G zoY [.d (zk s)] []=some (.d (.int .i64 (zY s)),[]):=by
 have hv:=zkS s.ready h1;have ht:=zkT s.leases h2 h3;rw[zlf] at ht
 by_cases e1:zaE s.ready=0
 ·by_cases e2:zao s.leases=0
  ·rw[znA e1 e2];rw[e1] at hv;rw[e2] at ht;have hl:=zQ0 e2;obtain⟨a1,a2,a3,a4,a5,a6⟩:=zcC e1;have hsp:=zQH s.low s.high;have hm:=zjH e1 hl;have hml:=zQB e1 hl;have hlp:=zZp s (zaP s) hml 0 zo;have hdp:=zUi (zaP s) hml 0 zo;unfold m7R at hlp;unfold d7R at hdp;rw[zA1] at hdp;simp only[m7S,zabZ] at hlp;simp only[d7S] at hdp;generalize zgq s.low s.high (zaP s)=b1 at *;generalize zdC ((zaP s).map (·.id))=b2 at *;generalize zaP s=w at *;clear e1 e2;obtain⟨lv,lo,hi,⟨c,h,z⟩,⟨tl,th⟩⟩:=s;simp only[zk,zai,zau] at hv ht hsp hm hlp a1 a2 a3 a4 a5 a6 hl h1 h2 h3 ⊢;simp only[zNr,zB] at hlp hdp
   cases lv with
   | false=>
    simp only[if_true]
    by_cases c1:lo≠0\/hi≠0\/0<z+tl.length
    ·rw[zabo c1];exact zW zgQ
    ·rw[zabn c1];exact zW zgQ
   | true=>
    simp only[zacf,if_false]
    by_cases c1:0<=lo/\lo<=hi/\hi<65536
    ·rw[zabM c1] at hsp;rw[zabn (fun hc=>hc c1)]
     by_cases c2:(c.length:Int)<z+tl.length
     ·rw[zabo c2];exact zW zgQ
     ·rw[zabn c2]
      cases b1
      ·cases b2
       ·simp only[zabz,if_false] at hlp hdp ⊢;exact zW zgQ
       ·simp only[zabz,if_false,if_true] at hlp hdp ⊢;exact zW zgQ
      ·simp only[if_true] at hlp ⊢;exact zW zgQ
    ·rw[zabP c1] at hsp;rw[zabo c1];exact zW zgQ
  ·unfold zY;rw[zabn (fun hc=>hc e1),zabo e2];rw[e1] at hv;generalize zao s.leases=v at *;obtain⟨lv,lo,hi,⟨c,h,z⟩,⟨tl,th⟩⟩:=s;simp only[zk,zai,zau] at hv ht h1 h2 h3 ⊢;exact zW zgQ
 ·unfold zY;rw[zabo e1];clear ht;generalize zaE s.ready=v at *;obtain⟨lv,lo,hi,⟨c,h,z⟩,⟨tl,th⟩⟩:=s;simp only[zk,zai] at hv h1 h2 h3 ⊢;exact zW zgQ
def zbD{α:Type}(p:α->Bool)(l:List α)(i:Nat):Nat:=((l.take i).filter p).length
theorem zu4{α:Type}(p:α->Bool){l:List α}{i:Nat}(h:i<l.length):zbD p l (i+1)=zbD p l i+(if p l[i]=true then 1 else 0):=by
 unfold zbD;rw[zadU,zabx h,zaek,zabv]
 congr 1
 simp only[Option.toList,zacL]
 split<;>rfl
theorem zu3{α:Type}(p:α->Bool)(l:List α)(i:Nat):zbD p l i<=i:=zaca (zacF _ _) (by simp;omega)
def rdQ(ep lim:Int)(m:zj):Bool:=decide (¬m.epoch<ep)&&decide (¬lim<=m.count)
def lsQ(ep:Int)(x:zG):Bool:=decide (¬x.msg.epoch<ep)
def zab(s:zt):Int:=if zY s≠0 then zY s else if s.live=true then 0 else 7
theorem zeS(s:zt)(h1:s.ready.cells.length<=4294967296)(h2:s.leases.l.length<=4294967296)(h3:s.leases.heap.length<=4294967296):zi G zoQ [.d (zk s)] []=some (.d (.int .i64 (zab s)),[]):=by
 have hv:=znc s h1 h2 h3;unfold zab;generalize zY s=v at *;obtain⟨lv,lo,hi,⟨c,h,z⟩,⟨tl,th⟩⟩:=s;simp only[zk] at hv ⊢
 by_cases e:v=0
 ·subst e
  cases lv
  ·exact zW zzp
  ·exact zW zzp
 ·rw[zabo e];exact zW zzp
theorem zh7(m:zj)(ep:Int):zi G zls [.d (zm m),.d (.int .i64 ep)] []=some (.d (.bool (decide (m.epoch<ep))),[]):=by
 simp only[zm];exact zW zH5
theorem ztH(m:zj)(lim:Int):zi G zof [.d (zm m),.d (.int .i64 lim)] []=some (.d (.bool (decide (lim<=m.count))),[]):=by
 simp only[zm];exact zW zWN
def mQ(ep:Int)(m:zj):Bool:=decide (¬m.epoch<ep)
theorem zS6(ep:Int)(l:List zG)(i:Nat):zbD (mQ ep) (l.map (·.msg)) i=zbD (lsQ ep) l i:=by
 unfold zbD;rw[<- zac7,List.filter_map,zabE];rfl
theorem zHt(n:Int):zi G zlB [.d (.int .i64 n)] []=some (.d (.bool (decide (0<=n/\n<=65536))),[]):=by
 by_cases h:0<=n/\n<=65536
 ·rw[zabM h];exact zW zIg
 ·rw[zabP h];have e:(decide (0<=n)&&decide (n<=65536))=false:=by simp;omega
  rw[zI zIg (by simp)];simp -implicitDefEqProofs (maxSteps:=4000000) (disch:=omega) only[zuG,zCd,e,zh,go_sem, *]
theorem zL5(n:Int):zi G zlC [.d (.int .i64 n)] []=some (.d (.bool (decide (1<=n/\n<=8))),[]):=by
 by_cases h:1<=n/\n<=8
 ·rw[zabM h];exact zW zIh
 ·rw[zabP h];have e:(decide (1<=n)&&decide (n<=8))=false:=by simp;omega
  rw[zI zIh (by simp)];simp -implicitDefEqProofs (maxSteps:=4000000) (disch:=omega) only[zuH,zCe,e,zh,go_sem, *]
def k0S(l w:List zj)(ep lim:Int)(i:Nat):St:=⟨[(1,.d (.int .i64 ep)),(2,.d (.int .i64 lim)),(8,.d (.int .i64 (zbD (rdQ ep lim) l i))),(9,.d (.int .i64 0)),(10,.d (.sl (l.map zm))),(11,.d (.sl (w.map zm))),(12,.d (.int .i64 i))],[]⟩
theorem zYo(l w:List zj)(ep lim:Int)(h1:l.length<=24):∀i,i<=l.length->z6 G [] zst (k0S l w ep lim i)=some (.exit 0,⟨[(1,.d (.int .i64 ep)),(8,.d (.int .i64 (zbD (rdQ ep lim) l l.length))),(9,.d (.int .i64 0)),(11,.d (.sl (w.map zm)))],[]⟩):=by
 refine zaL (fun i=>l.length - i) (fun i=>i<=l.length) (k0S l w ep lim) _ fun i hi L ih=> ?_
 by_cases h0:i<l.length
 ·have i1:=ih (i+1) zo zo;clear ih;have hp:=zh7 l[i] ep;have hs:=ztH l[i] lim;have hle:=zu3 (rdQ ep lim) l i;generalize zbD (rdQ ep lim) l l.length=z at *;rw[k0S,zu4 _ h0] at i1;simp only[k0S,zst];generalize zbD (rdQ ep lim) l i=n at *;generalize w.map zm=ww at *;simp only[zm] at hp hs;unfold rdQ at i1
  by_cases c1:l[i].epoch<ep
  ·simp only[c1,zabD,decide_true,decide_false,zacd,zabz,if_false,zacI] at i1 hp;simp only[zNr,zB] at i1;simp -implicitDefEqProofs (maxSteps:=4000000) (disch:=omega) only[zm,zh,go_sem, *]
  ·by_cases c2:lim<=l[i].count
   ·simp only[c1,c2,zabD,zabV,decide_true,decide_false,zacJ,zabz,if_false,zacI] at i1 hp hs;simp only[zNr,zB] at i1;simp -implicitDefEqProofs (maxSteps:=4000000) (disch:=omega) only[zm,zh,go_sem, *]
   ·simp only[c1,c2,zabV,decide_true,decide_false,zacG,if_true] at i1 hp hs;simp only[zNr,zB] at i1;simp -implicitDefEqProofs (maxSteps:=4000000) (disch:=omega) only[zm,zh,go_sem, *]
 ·clear ih;have:i=l.length:=by omega
  subst this;simp only[k0S,zst];exact zS
def k1S(w:List zj)(ep n:Int)(i:Nat):St:=⟨[(1,.d (.int .i64 ep)),(8,.d (.int .i64 n)),(9,.d (.int .i64 (zbD (mQ ep) w i))),(11,.d (.sl (w.map zm))),(13,.d (.int .i64 i))],[]⟩
theorem zYr(w:List zj)(ep n:Int)(h1:w.length<=24):∀i,i<=w.length->z6 G [] zsu (k1S w ep n i)=some (.exit 2,⟨[(8,.d (.int .i64 n)),(9,.d (.int .i64 (zbD (mQ ep) w w.length)))],[]⟩):=by
 refine zaL (fun i=>w.length - i) (fun i=>i<=w.length) (k1S w ep n) _ fun i hi L ih=> ?_
 by_cases h0:i<w.length
 ·have i1:=ih (i+1) zo zo;clear ih;have hp:=zh7 w[i] ep;have hle:=zu3 (mQ ep) w i;generalize zbD (mQ ep) w w.length=z at *;rw[k1S,zu4 _ h0] at i1;simp only[k1S,zsu];generalize zbD (mQ ep) w i=q at *;simp only[zm] at hp;unfold mQ at i1
  by_cases c1:w[i].epoch<ep
  ·simp only[c1,zabD,decide_true,decide_false,zabz,if_false,zacI] at i1 hp;simp only[zNr,zB] at i1;simp -implicitDefEqProofs (maxSteps:=4000000) (disch:=omega) only[zm,zh,go_sem, *]
  ·simp only[c1,zabV,decide_true,decide_false,if_true] at i1 hp;simp only[zNr,zB] at i1;simp -implicitDefEqProofs (maxSteps:=4000000) (disch:=omega) only[zm,zh,go_sem, *]
 ·clear ih;have:i=w.length:=by omega
  subst this;simp only[k1S,zsu];exact zS
def ziC(s:zt)(ep lim:Int):Int×Int:=
 if zab s=0/\(0<=ep/\ep<=65536)/\1<=lim/\lim<=8 then ((zbD (rdQ ep lim) (zD s.ready) (zD s.ready).length:Nat),(zbD (lsQ ep) s.leases.l s.leases.l.length:Nat)) else (0,0)
theorem zY6{s:zt}(h:zab s=0):zaE s.ready=0/\zao s.leases=0:=by
 have h0:zY s=0:=Classical.byContradiction fun hc=>by unfold zab at h;rw[zabo hc] at h;exact hc h
 by_cases e1:zaE s.ready=0
 ·refine⟨e1,Classical.byContradiction fun e2=> ?_⟩;unfold zY at h0;rw[zabn (fun hc=>hc e1),zabo e2] at h0;exact e2 h0
 ·unfold zY at h0;rw[zabo e1] at h0;exact absurd h0 e1
theorem zTo(s:zt)(ep lim:Int)(h1:s.ready.cells.length<=4294967296)(h2:s.leases.l.length<=4294967296)(h3:s.leases.heap.length<=4294967296):zi G zoJ [.d (zk s),.d (.int .i64 ep),.d (.int .i64 lim)] []=some (.d (.tup [.int .i64 (ziC s ep lim).1,.int .i64 (ziC s ep lim).2]),[]):=by
 have he:=zHt ep;have hli:=zL5 lim;have hu:=zeS s h1 h2 h3
 by_cases c:zab s=0/\(0<=ep/\ep<=65536)/\1<=lim/\lim<=8
 ·unfold ziC;rw[zabo c];obtain⟨c0,c1,c2⟩:=c;rw[zabM c1] at he;rw[zabM c2] at hli;rw[c0] at hu;obtain⟨e1,e2⟩:=zY6 c0;have hl:=zQ0 e2;have hb:(zD s.ready).length<=24:=by
   rw[zg9];obtain⟨a1,a2,a3,a4,a5,a6⟩:=zcC e1;omega
  have hr:=zje e1;have hle:=zsM hl;have hl0:=zYo (zD s.ready) (s.leases.l.map (·.msg)) ep lim hb 0 zo;generalize hn:zbD (rdQ ep lim) (zD s.ready) (zD s.ready).length=n at *;have hl1:=zYr (s.leases.l.map (·.msg)) ep n (by simp;omega) 0 zo;rw[zS6 ep s.leases.l,zabE] at hl1;simp only[k0S,zbD,zacg,zac5,zabw] at hl0;simp only[k1S,zbD,zacg,zac5,zabw] at hl1;clear hn c0 e1 e2;generalize zD s.ready=w at *;generalize s.leases.l.map (·.msg)=w2 at *;simp only[zbD];obtain⟨lv,lo,hi,⟨cs,h,z⟩,⟨tl,th⟩⟩:=s;simp only[zk] at hu hr hle hl0 hl1 hl h1 h2 h3 ⊢;simp only[zNr,zB] at hl0 hl1;exact zW zrH
 ·unfold ziC;rw[zabn c]
  by_cases c0:zab s=0
  ·rw[c0] at hu
   by_cases c1:0<=ep/\ep<=65536
   ·rw[zabM c1] at he;rw[zabP (fun hc=>c ⟨c0,c1,hc⟩)] at hli;clear c c0;simp only[zk] at hu ⊢;exact zW zrH
   ·rw[zabP c1] at he;clear c c0;simp only[zk] at hu ⊢;exact zW zrH
  ·clear c;generalize zab s=v at *;simp only[zk] at hu ⊢;exact zW zrH
def zbV(n:Int):Prop:=0<=n/\n<=1099511627776
instance (n:Int):Decidable (zbV n):=by unfold zbV;exact inferInstance
theorem zagN(n:Int):zi G zafv [.d (.int .i64 n)] []=some (.d (.bool (decide (zbV n))),[]):=by
 by_cases h:zbV n
 ·rw[zabM h];unfold zbV at h;exact zW zahE
 ·rw[zabP h];unfold zbV at h;have e:(decide (0<=n)&&decide (n<=1099511627776))=false:=by simp;omega
  rw[zI zahE (by simp)];simp -implicitDefEqProofs (maxSteps:=4000000) (disch:=omega) only[zafQ,zagS,e,zh,go_sem, *]
theorem zu7(n:Int):zi G zpm [.d (.int .i64 n)] []=some (.d (.bool (decide (zbV n))),[]):=by
 by_cases h:zbV n
 ·rw[zabM h];unfold zbV at h;exact zW zIn
 ·rw[zabP h];unfold zbV at h;have e:(decide (0<=n)&&decide (n<=1099511627776))=false:=by simp;omega
  rw[zI zIn (by simp)];simp -implicitDefEqProofs (maxSteps:=4000000) (disch:=omega) only[zuL,zCh,e,zh,go_sem, *]
def zhr(s:Stripe):Stripe×Int:=if ¬zbV s.seq then (zb0,1) else if s.seq.tmod 2=1 then (zb0,7) else if 1099511627774<s.seq then (zb0,6) else (⟨s.seq+1,s.epoch,s.ready,s.leased⟩,0)
theorem zSo(s:Stripe):zi G zpi [.d (zax s)] []=some (.d (.tup [zax (zhr s).1,.int .i64 (zhr s).2]),[]):=by
 unfold zhr
 by_cases h:zbV s.seq
 ·rw[zabn (fun hc=>hc h)];unfold zbV at h
  by_cases h1:s.seq.tmod 2=1
  ·simp only[h1,if_true,zax,zb0];exact zW zrO
  ·simp only[h1,if_false]
   by_cases h2:1099511627774<s.seq
   ·simp only[h2,if_true,zax,zb0];exact zW zrO
   ·simp only[h2,if_false,zax];exact zW zrO
 ·rw[zabo h];unfold zbV at h;simp only[zax,zb0];exact zW zrO
def ziF(s:Stripe)(x:zt)(ep lim:Int):Stripe×Int:=if ¬zbV s.seq then (zb0,1) else if s.seq.tmod 2=0 then (zb0,7) else if zY x≠0 then (zb0,zY x) else if ¬(0<=ep/\ep<=65536/\1<=lim/\lim<=8) then (zb0,1) else (⟨s.seq+1,ep,(ziC x ep lim).1,(ziC x ep lim).2⟩,0)
theorem zUY(s:Stripe)(x:zt)(ep lim:Int)(h1:x.ready.cells.length<=4294967296)(h2:x.leases.l.length<=4294967296)(h3:x.leases.heap.length<=4294967296):zi G zlD [.d (zax s),.d (zk x),.d (.int .i64 ep),.d (.int .i64 lim)] []=some (.d (.tup [zax (ziF s x ep lim).1,.int .i64 (ziF s x ep lim).2]),[]):=by
 have hv:=znc x h1 h2 h3;have hc:=zTo x ep lim h1 h2 h3;unfold ziF;generalize ziC x ep lim=cc at *;obtain⟨cc1,cc2⟩:=cc;generalize zY x=v at *
 by_cases h:zbV s.seq
 ·rw[zabn (fun hc=>hc h)];unfold zbV at h
  by_cases e1:s.seq.tmod 2=0
  ·simp only[e1,if_true,zax,zb0,zk];exact zW zmm
  ·simp only[e1,if_false]
   by_cases e2:v=0
   ·subst e2;simp only[ne_eq,zabD,if_false]
    by_cases e3:0<=ep/\ep<=65536/\1<=lim/\lim<=8
    ·rw[zabn (fun hc=>hc e3)];simp only[zax,zk] at hv hc ⊢;exact zW zmm
    ·rw[zabo e3];simp only[zax,zb0,zk] at hv ⊢;clear hc;exact zW zmm
   ·simp only[ne_eq,e2,zabV,if_true,zax,zb0,zk] at hv ⊢;clear hc;exact zW zmm
 ·rw[zabo h];unfold zbV at h;clear hc hv;simp only[zax,zb0,zk];exact zW zmm
theorem zajE(l:List Stripe)(g:Nat)(cs:List D)(p:Stripe->Bool)(hL:l.length<=4294967296)(hp:∀a∈l,zi G g (.d (zax a)::cs.map .d) []=some (.d (.bool (p a)),[])):zi G zafr [.d (.sl (l.map zax)),.d (.fn g cs)] []=some (.d (.int .i64 (zbP p l)),[]):=by
 have:=ziZ (G:=G) (x:=zagM) (ks:=[]) l.length (atB l p) (fun k=>⟨[(0,.d (.sl (l.map zax))),(1,.d (.fn g cs)),(7,.d (.int .i64 l.length)),(8,.d (.int .i64 k))],[]⟩) (fun k=>(.ret,⟨[(4,.d (.int .i64 k))],[]⟩)) (.exit 0,⟨[],[]⟩) (fun k hk L=>by
  simp only[zagM]
  by_cases h0:k<l.length
  ·have h1:=hp l[k] (zabC h0);simp only[zgH h0]
   cases h2:p l[k]
   ·rw[h2] at h1;simp -implicitDefEqProofs (maxSteps:=4000000) (disch:=omega) only[go_sem,h1,zUR]
   ·rw[h2] at h1;simp -implicitDefEqProofs (maxSteps:=4000000) (disch:=omega) only[go_sem,h1,zUR]
  ·simp -implicitDefEqProofs (maxSteps:=4000000) (disch:=omega) only[go_sem,zabU])
 rw[zj6] at this;simp only[zNr,zB] at this;unfold zbP
 cases h:l.findIdx? p with
 | none=>rw[h] at this;rw[zI zahC (by simp)];simp -implicitDefEqProofs (maxSteps:=4000000) (disch:=omega) only[zafw,zafG,go_sem,this]
 | some i=>rw[h] at this;rw[zI zahC (by simp)];simp -implicitDefEqProofs (maxSteps:=4000000) (disch:=omega) only[zafw,zafG,go_sem,this]
theorem zaiV(l:List Stripe)(g:Nat)(cs:List D)(p:Stripe->Bool)(hL:l.length<=4294967296)(hp:∀a∈l,zi G g (.d (zax a)::cs.map .d) []=some (.d (.bool (p a)),[])):zi G zafp [.d (.sl (l.map zax)),.d (.fn g cs)] []=some (.d (.bool (l.any p)),[]):=by
 rw[zI zajA (by simp)];simp -implicitDefEqProofs (maxSteps:=4000000) (disch:=omega) only[zafO,zagR,go_sem,zajE l g cs p hL hp,zLJ]
def zCS(ep:Int)(p:Int×Int)(s:Stripe):Int×Int:=if s.epoch=ep/\zbV s.seq/\zbV s.ready/\zbV s.leased then (IntKind.i64.wrap (p.1+s.ready),IntKind.i64.wrap (p.2+s.leased)) else p
def zdV(l:List Stripe)(ep:Int)(i:Nat):Int×Int:=(l.take i).foldl (zCS ep) (0,0)
theorem z9W{l:List Stripe}(ep:Int){i:Nat}(h:i<l.length):zdV l ep (i+1)=zCS ep (zdV l ep i) l[i]:=by
 unfold zdV;rw[zadU,zabx h,List.foldl_append];rfl
def suS(l:List Stripe)(ep:Int)(i:Nat):St:=⟨[(1,.d (.int .i64 ep)),(4,.d (.int .i64 (zdV l ep i).1)),(5,.d (.int .i64 (zdV l ep i).2)),(8,.d (.sl (l.map zax))),(9,.d (.int .i64 l.length)),(10,.d (.int .i64 i))],[]⟩
theorem zakZ(l:List Stripe)(ep:Int)(h1:l.length<=4294967296):∀i,i<=l.length->z6 G [] zafE (suS l ep i)=some (.exit 0,⟨[(4,.d (.int .i64 (zdV l ep l.length).1)),(5,.d (.int .i64 (zdV l ep l.length).2))],[]⟩):=by
 refine zaL (fun i=>l.length - i) (fun i=>i<=l.length) (suS l ep) _ fun i hi L ih=> ?_
 by_cases h0:i<l.length
 ·have i1:=ih (i+1) zo zo;clear ih;have n1:=zagN l[i].seq;have n2:=zagN l[i].ready;have n3:=zagN l[i].leased;generalize zdV l ep l.length=z at *;rw[suS,z9W ep h0] at i1;simp only[suS,zafE];generalize zdV l ep i=q at *;obtain⟨q1,q2⟩:=q;unfold zCS at i1
  by_cases c1:l[i].epoch=ep
  ·by_cases c2:zbV l[i].seq
   ·by_cases c3:zbV l[i].ready
    ·by_cases c4:zbV l[i].leased
     ·simp only[c1,c2,c3,c4,zacK,if_true,decide_true] at i1 n1 n2 n3;simp only[zNr,zB] at i1;simp -implicitDefEqProofs (maxSteps:=4000000) (disch:=omega) only[zax,c1,zh,go_sem, *]
     ·simp only[c1,c2,c3,c4,zadr,zacK,if_false,decide_true,decide_false] at i1 n1 n2 n3;simp only[zNr,zB] at i1;simp -implicitDefEqProofs (maxSteps:=4000000) (disch:=omega) only[zax,c1,zh,go_sem, *]
    ·simp only[c1,c2,c3,zadr,zacz,zacK,if_false,decide_true,decide_false] at i1 n1 n2;simp only[zNr,zB] at i1;simp -implicitDefEqProofs (maxSteps:=4000000) (disch:=omega) only[zax,c1,zh,go_sem, *]
   ·simp only[c1,c2,zadr,zacz,zacK,if_false,decide_true,decide_false] at i1 n1;simp only[zNr,zB] at i1;simp -implicitDefEqProofs (maxSteps:=4000000) (disch:=omega) only[zax,c1,zh,go_sem, *]
  ·simp only[c1,zacz,if_false] at i1;simp only[zNr,zB] at i1;simp -implicitDefEqProofs (maxSteps:=4000000) (disch:=omega) only[zax,zh,go_sem, *]
 ·clear ih;have:i=l.length:=by omega
  subst this;simp only[suS,zafE];exact zS
theorem zak0(l:List Stripe)(ep:Int)(h1:l.length<=4294967296):zi G zafu [.d (.sl (l.map zax)),.d (.int .i64 ep)] []=some (.d (.tup [.int .i64 (zdV l ep l.length).1,.int .i64 (zdV l ep l.length).2]),[]):=by
 have hl:=zakZ l ep h1 0 zo;generalize zdV l ep l.length=z at *;simp only[suS,zdV,zacg,List.foldl_nil,zabQ] at hl;exact zW zajD
def zk7(l:List Stripe)(ep:Int)(i:Nat):St:=⟨[(0,.d (.sl (l.map zax))),(1,.d (.int .i64 ep)),(6,.d (.int .i64 (zdV l ep i).1)),(7,.d (.int .i64 (zdV l ep i).2)),(8,.d (.int .i64 i))],[]⟩
theorem z71(l:List Stripe)(ep:Int)(h1:l.length<=4294967296):∀i,i<=l.length->z6 G [] zsH (zk7 l ep i)=some (.exit 0,⟨[(6,.d (.int .i64 (zdV l ep l.length).1)),(7,.d (.int .i64 (zdV l ep l.length).2))],[]⟩):=by
 refine zaL (fun i=>l.length - i) (fun i=>i<=l.length) (zk7 l ep) _ fun i hi L ih=> ?_
 by_cases h0:i<l.length
 ·have i1:=ih (i+1) zo zo;clear ih;have n1:=zu7 l[i].seq;have n2:=zu7 l[i].ready;have n3:=zu7 l[i].leased;generalize zdV l ep l.length=z at *;rw[zk7,z9W ep h0] at i1;simp only[zk7,zsH];generalize zdV l ep i=q at *;obtain⟨q1,q2⟩:=q;unfold zCS at i1
  by_cases c1:l[i].epoch=ep
  ·by_cases c2:zbV l[i].seq
   ·by_cases c3:zbV l[i].ready
    ·by_cases c4:zbV l[i].leased
     ·simp only[c1,c2,c3,c4,zacK,if_true,decide_true] at i1 n1 n2 n3;simp only[zNr,zB] at i1;simp -implicitDefEqProofs (maxSteps:=4000000) (disch:=omega) only[zax,c1,zh,go_sem, *]
     ·simp only[c1,c2,c3,c4,zadr,zacK,if_false,decide_true,decide_false] at i1 n1 n2 n3;simp only[zNr,zB] at i1;simp -implicitDefEqProofs (maxSteps:=4000000) (disch:=omega) only[zax,c1,zh,go_sem, *]
    ·simp only[c1,c2,c3,zadr,zacz,zacK,if_false,decide_true,decide_false] at i1 n1 n2;simp only[zNr,zB] at i1;simp -implicitDefEqProofs (maxSteps:=4000000) (disch:=omega) only[zax,c1,zh,go_sem, *]
   ·simp only[c1,c2,zadr,zacz,zacK,if_false,decide_true,decide_false] at i1 n1;simp only[zNr,zB] at i1;simp -implicitDefEqProofs (maxSteps:=4000000) (disch:=omega) only[zax,c1,zh,go_sem, *]
  ·simp only[c1,zacz,if_false] at i1;simp only[zNr,zB] at i1;simp -implicitDefEqProofs (maxSteps:=4000000) (disch:=omega) only[zax,zh,go_sem, *]
 ·clear ih;have:i=l.length:=by omega
  subst this;simp only[zk7,zsH];exact zS
theorem z9V(l:List Stripe)(ep:Int)(h1:l.length<=4294967296):zi G zpl [.d (.sl (l.map zax)),.d (.int .i64 ep)] []=some (.d (.tup [.int .i64 (zdV l ep l.length).1,.int .i64 (zdV l ep l.length).2]),[]):=by
 have hl:=z71 l ep h1 0 zo;generalize zdV l ep l.length=z at *;simp only[zk7,zdV,zacg,List.foldl_nil,zabQ] at hl;exact zW zW1
def zh3(s:Stripe):Bool:=decide (¬s.seq.tmod 2=0)
theorem zaku(s:Stripe):zi G zaeV [.d (zax s)] []=some (.d (.bool (zh3 s)),[]):=by
 unfold zh3;simp only[zax]
 by_cases h:s.seq.tmod 2=0
 ·simp only[h,zabD,decide_false];exact zW zahD
 ·simp only[h,zabV,decide_true];exact zW zahD
theorem zakB(l:List Stripe)(h1:l.length<=4294967296):zi G zafs [.d (.sl (l.map zax))] []=some (.d (.bool (!l.any zh3)),[]):=by
 have h:=zaiV l zaeV [] zh3 h1 (fun a _=>zaku a);exact zW zajB
theorem z6x(l:List Stripe)(h1:l.length<=4294967296):zi G zpj [.d (.sl (l.map zax))] []=some (.d (.bool (!l.any zh3)),[]):=by
 have:=ziZ (G:=G) (x:=zAT) (ks:=[]) l.length (atB l zh3) (fun k=>⟨[(0,.d (.sl (l.map zax))),(3,.d (.int .i64 k))],[]⟩) (fun k=>(.ret,⟨[(2,.d (.bool false))],[]⟩)) (.exit 0,⟨[],[]⟩) (fun k hk L=>by
  simp only[zAT]
  by_cases h0:k<l.length
  ·rw[zabo h0];simp only[zgH h0];unfold zh3
   by_cases h1:l[k].seq.tmod 2=0
   ·simp only[h1,zabD,decide_false,zabz,if_false];simp -implicitDefEqProofs (maxSteps:=4000000) (disch:=omega) only[zax,h1,zh,go_sem, *]
   ·simp only[h1,zabV,decide_true,if_true];simp -implicitDefEqProofs (maxSteps:=4000000) (disch:=omega) only[zax,zh,go_sem, *]
  ·rw[zabn h0];exact zS)
 rw[zj6] at this;simp only[zNr,zB] at this
 cases h:l.findIdx? zh3 with
 | none=>
  have e:l.any zh3=false:=zacC.2 fun x hx=>by simpa using zadv.1 h x hx
  rw[h] at this;rw[e];exact zW zIm
 | some i=>
  obtain⟨hi,e,_⟩:=zact.1 h;have e:l.any zh3=true:=zacm.2 ⟨_,zabC hi,e⟩;rw[h] at this;rw[e];exact zW zIm
theorem z9D{a b:Stripe}(h:¬(¬a.seq=b.seq\/¬a.epoch=b.epoch\/¬a.ready=b.ready\/¬a.leased=b.leased)):a=b:=by
 simp only[not_or,zabG] at h;obtain⟨h1,h2,h3,h4⟩:=h
 cases a;cases b
 simp only at h1 h2 h3 h4;subst h1 h2 h3 h4;rfl
def eqS(a b:List Stripe)(i:Nat):St:=⟨[(0,.d (.sl (a.map zax))),(1,.d (.sl (b.map zax))),(12,.d (.int .i64 a.length)),(13,.d (.int .i64 i))],[]⟩
def zig(a b:List Stripe)(i:Nat):Bool:=decide (a.drop i=b.drop i)
theorem z8y{a b:List Stripe}{i:Nat}(h0:i<a.length)(h3:i<b.length):zig a b i=(decide (a[i]=b[i])&&zig a b (i+1)):=by
 unfold zig;apply zacD.2;simp only[zabH,decide_eq_true_eq];rw[zabX h0,zabX h3,List.cons.injEq]
theorem z8x{a b:List Stripe}{i:Nat}(h0:a.length<=i)(h3:b.length<=i):zig a b i=true:=by
 unfold zig;rw[zaeg h0,zaeg h3];rfl
def eqR(a b:List Stripe)(i:Nat):zX×St:=if zig a b i=true then (.exit 0,⟨[],[]⟩) else (.ret,⟨[(4,.d (.bool false))],[]⟩)
theorem zai8(a b:List Stripe)(h1:a.length<=4294967296)(h2:b.length=a.length):∀i,i<=a.length->z6 G [] zafD (eqS a b i)=some (eqR a b i):=by
 refine zaL (fun i=>a.length - i) (fun i=>i<=a.length) (eqS a b) (fun i=>some (eqR a b i)) fun i hi L ih=> ?_
 by_cases h0:i<a.length
 ·have i1:=ih (i+1) zo zo;clear ih;have h3:i<b.length:=by omega
  unfold eqR at i1 ⊢;rw[z8y h0 h3];generalize zig a b (i+1)=bd at *;simp only[eqS] at i1;simp only[zNr,zB] at i1;simp only[eqS,zafD]
  by_cases hm:a[i]=b[i]
  ·simp only[hm,decide_true,zacA];have zk1:=zax.eq_1;exact zS
  ·simp only[hm,decide_false,zacd,zabz,if_false]
   (try simp -implicitDefEqProofs (maxSteps:=4000000) (disch:=omega) only[zax,zh,go_sem, *]);(try simp only[zPr]);repeat' (first|done|rfl|((first|refine zad (fun hq=> ?_) (fun hq=> ?_)|refine zaj (fun hq=> ?_) (fun hq=> ?_))<;>(try (first|(exfalso;omega)|contradiction))<;>(try simp -implicitDefEqProofs (maxSteps:=4000000) (disch:=omega) only[zax,zh,go_sem, *])<;>(try simp only[zPr])));(all_goals try rfl);(all_goals try (repeat' (first|done|rfl|(exfalso;omega)|contradiction|(refine zae (fun hq=> ?_) (fun hq=> ?_)))))
   exact absurd (z9D (by assumption)) hm
 ·clear ih;unfold eqR;rw[z8x zo zo];simp only[eqS,zafD,if_true];simp -implicitDefEqProofs (maxSteps:=4000000) (disch:=omega) only[zh,go_sem, *]
theorem zajj(a b:List Stripe)(h1:a.length<=4294967296)(h2:b.length<=4294967296):zi G zafq [.d (.sl (a.map zax)),.d (.sl (b.map zax))] []=some (.d (.bool (decide (a=b))),[]):=by
 by_cases h:b.length=a.length
 ·have hl:=zai8 a b h1 h 0 zo;unfold eqR at hl;simp only[eqS,zabQ] at hl;simp only[zig,zabZ] at hl;generalize decide (a=b)=q at *
  cases q
  ·simp only[zabz,if_false] at hl;exact zW zagy
  ·simp only[if_true] at hl;exact zW zagy
 ·rw[zabP (fun e=>h (by rw[e]))];exact zW zagy
theorem zakW(a b:List Stripe)(h1:a.length<=4294967296)(h2:b.length<=4294967296):zi G zaft [.d (.sl (a.map zax)),.d (.sl (b.map zax))] []=some (.d (.bool (decide (a=b))),[]):=by
 have h:=zajj a b h1 h2;generalize decide (a=b)=q at *;exact zW zajC
def sqS(a b:List Stripe)(i:Nat):St:=⟨[(0,.d (.sl (a.map zax))),(1,.d (.sl (b.map zax))),(5,.d (.int .i64 i))],[]⟩
theorem z9w(a b:List Stripe)(h1:a.length<=4294967296)(h2:b.length=a.length):∀i,i<=a.length->z6 G [] zsG (sqS a b i)=some (eqR a b i):=by
 refine zaL (fun i=>a.length - i) (fun i=>i<=a.length) (sqS a b) (fun i=>some (eqR a b i)) fun i hi L ih=> ?_
 by_cases h0:i<a.length
 ·have i1:=ih (i+1) zo zo;clear ih;have h3:i<b.length:=by omega
  unfold eqR at i1 ⊢;rw[z8y h0 h3];generalize zig a b (i+1)=bd at *;simp only[sqS] at i1;simp only[zNr,zB] at i1;simp only[sqS,zsG]
  by_cases hm:a[i]=b[i]
  ·simp only[hm,decide_true,zacA];have zk1:=zax.eq_1;exact zS
  ·simp only[hm,decide_false,zacd,zabz,if_false]
   (try simp -implicitDefEqProofs (maxSteps:=4000000) (disch:=omega) only[zax,zh,go_sem, *]);(try simp only[zPr]);repeat' (first|done|rfl|((first|refine zad (fun hq=> ?_) (fun hq=> ?_)|refine zaj (fun hq=> ?_) (fun hq=> ?_))<;>(try (first|(exfalso;omega)|contradiction))<;>(try simp -implicitDefEqProofs (maxSteps:=4000000) (disch:=omega) only[zax,zh,go_sem, *])<;>(try simp only[zPr])));(all_goals try rfl);(all_goals try (repeat' (first|done|rfl|(exfalso;omega)|contradiction|(refine zae (fun hq=> ?_) (fun hq=> ?_)))))
   exact absurd (z9D (by assumption)) hm
 ·clear ih;unfold eqR;rw[z8x zo zo];simp only[sqS,zsG,if_true];simp -implicitDefEqProofs (maxSteps:=4000000) (disch:=omega) only[zh,go_sem, *]
theorem z8w(a b:List Stripe)(h1:a.length<=4294967296)(h2:b.length<=4294967296):zi G zpk [.d (.sl (a.map zax)),.d (.sl (b.map zax))] []=some (.d (.bool (decide (a=b))),[]):=by
 by_cases h:b.length=a.length
 ·have hl:=z9w a b h1 h 0 zo;unfold eqR at hl;simp only[sqS,zabQ] at hl;simp only[zig,zabZ] at hl;generalize decide (a=b)=q at *
  cases q
  ·simp only[zabz,if_false] at hl;exact zW zzy
  ·simp only[if_true] at hl;exact zW zzy
 ·rw[zabP (fun e=>h (by rw[e]))];exact zW zzy
theorem zCY:∀(l:List Span) (n m:Int),0<=n->zdb n l=some m->∀x∈l,0<=x.low/\x.low<=x.high/\x.high<65536
 | [],_,_,_,_,x,hx=>by cases hx
 | y::l,n,m,h0,h,x,hx=>by
  rw[zdb] at h
  split at h
  ·rename_i hc
   cases hx with
   | head=>omega
   | tail _ hx=>exact zCY l _ m zo h x hx
  ·cases h
theorem zvb{d:Directory}(h:zbl d=0):zdb 0 d.l=some 65536:=by
 unfold zbl at h
 split at h
 ·cases h
 split at h
 ·cases h
 rename_i hc;simpa using hc
def zCR(d:Directory)(e:Edit):Directory×Int:=
 if zaV d.l e.from_<0\/0<=zaV d.l e.to then (zcF,7)
 else if e.mid<(d.l.getD (zaV d.l e.from_).toNat zeC).low\/(d.l.getD (zaV d.l e.from_).toNat zeC).high<=e.mid then (zcF,1)
 else (⟨d.version+1,d.l.take (zaV d.l e.from_).toNat++[⟨(d.l.getD (zaV d.l e.from_).toNat zeC).low,e.mid,e.from_⟩,⟨e.mid+1,(d.l.getD (zaV d.l e.from_).toNat zeC).high,e.to⟩]++d.l.drop ((zaV d.l e.from_).toNat+1),d.forward.set e.to.toNat (-1)⟩,0)
def zBl(d:Directory)(e:Edit):Directory×Int:=
 if zaV d.l e.from_<0\/zaV d.l e.to<0\/(¬zaV d.l e.from_ - zaV d.l e.to=1/\¬zaV d.l e.to - zaV d.l e.from_=1) then (zcF,7)
 else (⟨d.version+1,d.l.take (min (zaV d.l e.from_) (zaV d.l e.to)).toNat++[⟨(d.l.getD (min (zaV d.l e.from_) (zaV d.l e.to)).toNat zeC).low,(d.l.getD ((min (zaV d.l e.from_) (zaV d.l e.to)).toNat+1) zeC).high,e.to⟩]++d.l.drop ((min (zaV d.l e.from_) (zaV d.l e.to)).toNat+2),d.forward.set e.from_.toNat e.to⟩,0)
def zgG(d:Directory)(e:Edit):Directory×Int:=
 if zbl d≠0 then (zcF,zbl d)
 else if d.version=1099511627776 then (zcF,6)
 else if ¬e.kind=1/\¬e.kind=2 then (zcF,9)
 else if e.from_<0\/(d.forward.length:Int)<=e.from_\/e.to<0\/(d.forward.length:Int)<=e.to then (zcF,4)
 else if e.kind=1 then zCR d e else zBl d e
theorem z6G(d:Directory)(e:Edit)(hL:d.l.length<=1000000):zi G zpb [.d (zaT d),.d (zfT e)] []=some (.d (.tup [zaT (zgG d e).1,.int .i64 (zgG d e).2]),[]):=by
 have hval:=zkV d zo;have i1:=zkU d e.from_ zo;have i2:=zkU d e.to zo;have b1:=zsd d.l (fun x=>decide (x.shard=e.from_));have b2:=zsd d.l (fun x=>decide (x.shard=e.to));change -1<=zaV d.l e.from_/\zaV d.l e.from_<d.l.length at b1;change -1<=zaV d.l e.to/\zaV d.l e.to<d.l.length at b2;unfold zgG
 by_cases c0:zbl d=0
 ·have hl:=zjZ c0;rw[c0] at hval;rw[zabn (by rw[c0];simp)];have htl:=zCY d.l 0 65536 zo (zvb c0);clear c0
  by_cases c1:d.version=1099511627776
  ·rw[zabo c1];exact zW zd9
  rw[zabn c1]
  by_cases c2:¬e.kind=1/\¬e.kind=2
  ·rw[zabo c2];obtain⟨c2,c3⟩:=c2;exact zW zd9
  rw[zabn c2]
  by_cases c3:e.from_<0\/(d.forward.length:Int)<=e.from_\/e.to<0\/(d.forward.length:Int)<=e.to
  ·rw[zabo c3];have c4:e.kind=1\/e.kind=2:=by omega
   clear c2
   rcases c4 with c4|c4
   ·exact zW zd9
   ·exact zW zd9
  rw[zabn c3];unfold zCR zBl;generalize zaV d.l e.from_=i at *;generalize zaV d.l e.to=k at *
  by_cases c4:e.kind=1
  ·rw[zabo c4];clear c2
   by_cases c5:i<0\/0<=k
   ·rw[zabo c5];exact zW zd9
   rw[zabn c5];have hlt:i.toNat<d.l.length:=by omega
   obtain⟨iN,hiN⟩:∃n:Nat,i=n:=⟨i.toNat,by omega⟩;subst hiN;simp only[zab5] at hlt ⊢;rw[zh hlt]
   by_cases c6:e.mid<d.l[iN].low\/d.l[iN].high<=e.mid
   ·rw[zabo c6];exact zW zd9
   rw[zabn c6];have hti:=htl d.l[iN] (zabC _);clear htl
   by_cases c7:iN=0
   ·subst c7;rw[zI zd9 (by simp)];simp -implicitDefEqProofs (maxSteps:=4000000) (disch:=omega) only[zhs,zh9,zh,go_sem, *];(try simp only[zPr]);repeat' (first|done|rfl|((first|refine zad (fun hq=> ?_) (fun hq=> ?_)|refine zaj (fun hq=> ?_) (fun hq=> ?_))<;>(try (first|(exfalso;omega)|contradiction))<;>(try simp -implicitDefEqProofs (maxSteps:=4000000) (disch:=omega) only[zh,go_sem, *])<;>(try simp only[zPr])));(all_goals try rfl);(all_goals try (repeat' (first|done|rfl|(exfalso;omega)|contradiction|(refine zae (fun hq=> ?_) (fun hq=> ?_)))))
    all_goals simp only[zaT,zca,zg7,zabs,zabF,zabq,zabJ,zacg,zabN]
   ·rw[zI zd9 (by simp)];simp -implicitDefEqProofs (maxSteps:=4000000) (disch:=omega) only[zhs,zh9,zh,go_sem, *];(try simp only[zPr]);repeat' (first|done|rfl|((first|refine zad (fun hq=> ?_) (fun hq=> ?_)|refine zaj (fun hq=> ?_) (fun hq=> ?_))<;>(try (first|(exfalso;omega)|contradiction))<;>(try simp -implicitDefEqProofs (maxSteps:=4000000) (disch:=omega) only[zh,go_sem, *])<;>(try simp only[zPr])));(all_goals try rfl);(all_goals try (repeat' (first|done|rfl|(exfalso;omega)|contradiction|(refine zae (fun hq=> ?_) (fun hq=> ?_)))))
    all_goals simp only[zaT,zca,zg7,zabs,zabF,zabq,zabJ,zacg,zabN,zab9]
  ·rw[zabn c4];have hk2:e.kind=2:=by omega
   clear c2
   by_cases c5:i<0\/k<0\/¬i - k=1/\¬k - i=1
   ·rw[zabo c5];exact zW zd9
   rw[zabn c5];obtain⟨iN,hiN⟩:∃n:Nat,i=n:=⟨i.toNat,by omega⟩;obtain⟨kN,hkN⟩:∃n:Nat,k=n:=⟨k.toNat,by omega⟩;subst hiN hkN;obtain⟨f,hf⟩:∃f:Nat,min (iN:Int) (kN:Int)=f:=⟨(min (iN:Int) (kN:Int)).toNat,by omega⟩;have hlt:f+1<d.l.length:=by omega
   have hti:=htl d.l[f] (zabC _);have hti2:=htl d.l[f+1] (zabC _);clear htl;rw[hf,zab5,zh (show f<d.l.length by omega),zh hlt];have hcase:(iN=f/\kN=f+1)\/(iN=f+1/\kN=f):=by omega
   have e2:((f:Int)+1).toNat=f+1:=by omega
   have e3:((f:Int)+2).toNat=f+2:=by omega
   clear hf
   rcases hcase with ⟨q1,q2⟩|⟨q1,q2⟩
   ·subst q1 q2
    by_cases c7:iN=0
    ·subst c7;rw[zI zd9 (by simp)];simp -implicitDefEqProofs (maxSteps:=4000000) (disch:=omega) only[zhs,zh9,e2,e3,zh,go_sem, *];(try simp only[zPr]);repeat' (first|done|rfl|((first|refine zad (fun hq=> ?_) (fun hq=> ?_)|refine zaj (fun hq=> ?_) (fun hq=> ?_))<;>(try (first|(exfalso;omega)|contradiction))<;>(try simp -implicitDefEqProofs (maxSteps:=4000000) (disch:=omega) only[e2,e3,zh,go_sem, *])<;>(try simp only[zPr])));(all_goals try rfl);(all_goals try (repeat' (first|done|rfl|(exfalso;omega)|contradiction|(refine zae (fun hq=> ?_) (fun hq=> ?_)))))
     all_goals simp only[zaT,zca,zg7,zabs,zabF,zabq,zabJ,zacg,zabN]
    ·rw[zI zd9 (by simp)];simp -implicitDefEqProofs (maxSteps:=4000000) (disch:=omega) only[zhs,zh9,e2,e3,zh,go_sem, *];(try simp only[zPr]);repeat' (first|done|rfl|((first|refine zad (fun hq=> ?_) (fun hq=> ?_)|refine zaj (fun hq=> ?_) (fun hq=> ?_))<;>(try (first|(exfalso;omega)|contradiction))<;>(try simp -implicitDefEqProofs (maxSteps:=4000000) (disch:=omega) only[e2,e3,zh,go_sem, *])<;>(try simp only[zPr])));(all_goals try rfl);(all_goals try (repeat' (first|done|rfl|(exfalso;omega)|contradiction|(refine zae (fun hq=> ?_) (fun hq=> ?_)))))
     all_goals simp only[zaT,zca,zg7,zabs,zabF,zabq,zabJ,zacg,zabN,zab9]
   ·subst q1 q2
    by_cases c7:kN=0
    ·subst c7;rw[zI zd9 (by simp)];simp -implicitDefEqProofs (maxSteps:=4000000) (disch:=omega) only[zhs,zh9,e2,e3,zh,go_sem, *];(try simp only[zPr]);repeat' (first|done|rfl|((first|refine zad (fun hq=> ?_) (fun hq=> ?_)|refine zaj (fun hq=> ?_) (fun hq=> ?_))<;>(try (first|(exfalso;omega)|contradiction))<;>(try simp -implicitDefEqProofs (maxSteps:=4000000) (disch:=omega) only[e2,e3,zh,go_sem, *])<;>(try simp only[zPr])));(all_goals try rfl);(all_goals try (repeat' (first|done|rfl|(exfalso;omega)|contradiction|(refine zae (fun hq=> ?_) (fun hq=> ?_)))))
     all_goals simp only[zaT,zca,zg7,zabs,zabF,zabq,zabJ,zacg,zabN]
    ·rw[zI zd9 (by simp)];simp -implicitDefEqProofs (maxSteps:=4000000) (disch:=omega) only[zhs,zh9,e2,e3,zh,go_sem, *];(try simp only[zPr]);repeat' (first|done|rfl|((first|refine zad (fun hq=> ?_) (fun hq=> ?_)|refine zaj (fun hq=> ?_) (fun hq=> ?_))<;>(try (first|(exfalso;omega)|contradiction))<;>(try simp -implicitDefEqProofs (maxSteps:=4000000) (disch:=omega) only[e2,e3,zh,go_sem, *])<;>(try simp only[zPr])));(all_goals try rfl);(all_goals try (repeat' (first|done|rfl|(exfalso;omega)|contradiction|(refine zae (fun hq=> ?_) (fun hq=> ?_)))))
     all_goals simp only[zaT,zca,zg7,zabs,zabF,zabq,zabJ,zacg,zabN,zab9]
 ·rw[zabo c0];exact zW zd9
end Go.Proofs.YtnmcgdpmikhohaaGreat
